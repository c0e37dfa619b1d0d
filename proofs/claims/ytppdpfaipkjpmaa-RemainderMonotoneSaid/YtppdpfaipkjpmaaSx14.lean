/-
  A text of the proofs of this seat: lemmas that the statements' proofs use; it states nothing of the program by itself beyond the contracts that its theorems bear. Conditions: those that stand in each theorem. Its short name: Sx14.
-/
import Derived.Test.YtppdpfaipkjpmaaSx13
set_option linter.unusedVariables false
set_option linter.unusedSimpArgs false
namespace Go.Sx

/-! ### a function -/
def resS (E : Env) (S : SS) : List ResultVar → (List SV → Prop) → Prop
  | [], k => k []
  | .tmp t :: r, k => S.evN (.tmp t) fun s => resS E S r fun l => k (s :: l)
  | .cell t T :: r, k => S.evN (.tmp t) fun x => loadS E S T x fun s => forceV (nrm S.own s) fun s => resS E S r fun l => k (s :: l)
def oneS (l : List SV) : SV :=
  match l with
  | [s] => s
  | l => .tup l
/- what the call hands back: with no more of its own memory than was lent, if it can do without -/
def finK (n : Nat) (S : SS) (l : List SV) (post : SV → List Chunk → Prop) : Prop :=
  match bndL n l && bndO n (S.own.take n) with
  | true => forceL (S.own.take n) fun own => post (oneS l) own
  | false => post (oneS l) S.own
def retS (E : Env) (rs : List ResultVar) (post : SV → List Chunk → Prop) (S : SS) : Prop :=
  Gh E.npre E.nm (fun S => resS E S rs fun l => finK E.npre S l post) S
def retK (E : Env) (rs : List ResultVar) (post : SV → List Chunk → Prop) : KK
  | .normal, S => retS E rs post S
  | .ret, S => retS E rs post S
  | _, _ => False
def resV (tmps : Array Value) (r : ResultVar) : Sem Value :=
  match r with
  | .tmp t => pure (tmps.getD t undef)
  | .cell x t => do loadVar t (← asAddr (tmps.getD x undef))
theorem resS_ok {E : Env} (hE : EnvOK E) {w0 σ0 β0 nt σ β S a w} (g : GG w0 σ0 β0 nt σ β S a w) : ∀ (rs : List ResultVar) (k : List SV → Prop), resS E S rs k →
    ∃ vs l, (rs.mapM (resV a.tmps)).run E.P w = .ok vs w ∧ relL σ β l vs ∧ k l
  | [], k, h => ⟨[], [], by simp, by simp [relL], h⟩
  | .tmp t :: r, k, h => by
    obtain ⟨s, hs, h⟩ := g.evN h
    obtain ⟨vs, l, hrun, hr, hk⟩ := resS_ok hE g r _ h
    exact ⟨a.tmps.getD t undef :: vs, _, by simp [List.mapM_cons, resV, hrun], relL_cons.2 ⟨hs, hr⟩, hk⟩
  | .cell x t :: r, k, h => by
    obtain ⟨s0, hs0, h⟩ := g.evN h
    obtain ⟨v, s, hrun1, hr1, hk1⟩ := loadS_ok hE g h hs0
    have hk1 := forceV_ok hk1
    obtain ⟨vs, l, hrun, hr, hk⟩ := resS_ok hE g r _ hk1
    refine ⟨v :: vs, _, ?_, relL_cons.2 ⟨rel_nrm g.hp _ _ hr1, hr⟩, hk⟩
    have ha : ∃ ad, a.tmps.getD x undef = .pointer (some ad) := by
      have he : a.eval (.tmp x) = a.tmps.getD x undef := rfl
      rw [← he]
      cases hv : a.eval (.tmp x) with
      | pointer p => cases p with
        | some ad => exact ⟨ad, rfl⟩
        | none => rw [hv] at hrun1; simp [Instr.loadAt, Instr.sureAddr, stuck] at hrun1
      | _ => rw [hv] at hrun1; simp [Instr.loadAt, Instr.sureAddr, stuck] at hrun1
    obtain ⟨ad, had⟩ := ha
    have he : a.eval (.tmp x) = .pointer (some ad) := had
    rw [he] at hrun1
    simp only [Instr.loadAt, Instr.sureAddr, pure_bind] at hrun1
    simp only [List.mapM_cons, resV, had, asAddr, pure_bind, Sem.run_bind, hrun1, Result.andThen_ok, hrun, Sem.run_pure]

theorem results_ok {E : Env} (hE : EnvOK E) {w0 σ0 β0 nt σ β S a w} (g : GG w0 σ0 β0 nt σ β S a w) {fn : Func} {k : List SV → Prop} (h : resS E S fn.results.toList k) :
    ∃ v l, (results fn a.tmps).run E.P w = .ok v w ∧ k l ∧ ∀ β', relL σ β' l = relL σ β' l ∧ (∀ vs, relL σ β l vs → relL σ β' l vs) → rel σ β' (oneS l) v := by
  obtain ⟨vs, l, hrun, hr, hk⟩ := resS_ok hE g _ _ h
  have hl := relL_length hr
  have hm : (fn.results.mapM (resV a.tmps)).run E.P w = .ok vs.toArray w := by
    rw [Array.mapM_eq_mapM_toList]
    simp only [Sem.run_map, hrun, Result.andThen_ok]
  have hres : results fn a.tmps = (fn.results.mapM (resV a.tmps) >>= fun vs => pure (if h : vs.size = 1 then vs[0] else .tuple vs)) := by
    unfold results
    congr 2
  refine ⟨_, l, by rw [hres]; simp only [Sem.run_bind, hm, Result.andThen_ok, Sem.run_pure]; rfl, hk, ?_⟩
  rintro β' ⟨_, hβ⟩
  have hr := hβ vs hr
  match vs, l, hr, hl with
  | [v], [s], hr, _ => simpa [oneS] using (relL_cons.1 hr).1
  | [], [], hr, _ => simp only [oneS, rel]; exact ⟨[], by simp, hr⟩
  | v :: u :: vs, s :: t :: l, hr, _ => simp only [oneS, rel]; exact ⟨v :: u :: vs, by simp, hr⟩
  | [], _ :: _, _, hl => simp at hl
  | _ :: _, [], _, hl => simp at hl
  | [_], _ :: _ :: _, _, hl => simp at hl
  | _ :: _ :: _, [_], _, hl => simp at hl

def zipF : Nat → List SV → (List (Nat × SV) → Prop) → Prop
  | _, [], k => k []
  | i, s :: l, k => forceN i fun i => zipF (i + 1) l fun r => k ((i, s) :: r)
def zipT : Nat → List SV → List (Nat × SV)
  | _, [] => []
  | i, s :: l => (i, s) :: zipT (i + 1) l
theorem zipF_ok : ∀ {l : List SV} {i : Nat} {k : List (Nat × SV) → Prop}, zipF i l k → k (zipT i l)
  | [], _, _, h => h
  | s :: l, i, k, h => by
    have h := forceN_ok h
    exact zipF_ok (l := l) h
theorem zipT_look : ∀ (l : List SV) (i t : Nat), tlook (zipT i l) t = if i ≤ t then (l[t - i]?).getD .any else .any
  | [], i, t => by simp [zipT, tlook]
  | s :: l, i, t => by
    simp only [zipT, tlook]
    split
    · rename_i hb; have := Nat.eq_of_beq_eq_true hb; subst this; simp
    · rename_i hb
      have hne := nbeq_false hb
      rw [zipT_look l (i + 1) t]
      by_cases h1 : i + 1 ≤ t
      · rw [if_pos h1, if_pos (by omega), show t - i = (t - (i + 1)) + 1 by omega]; simp
      · rw [if_neg h1]
        by_cases h2 : i ≤ t
        · omega
        · rw [if_neg h2]
def okDst (n : Nat) : List Nat → Bool
  | [] => true
  | d :: l => Nat.ble (d + 1) n && okDst n l
theorem okDst_ok {n : Nat} : ∀ {l : List Nat}, okDst n l = true → ∀ d ∈ l, d < n
  | [], _, d, hd => by simp at hd
  | x :: l, h, d, hd => by
    simp only [okDst, Bool.and_eq_true] at h
    rcases List.mem_cons.1 hd with rfl | hd
    · exact Nat.le_of_ble_eq_true h.1
    · exact okDst_ok h.2 d hd

theorem fn_intro {E : Env} (hE : EnvOK E) (hm : E.P.follows .mixedOrders = true) {f : Nat} {fn : Func} {c : Code} {args : List SV} {own : List Chunk} {post : SV → List Chunk → Prop} (hn : E.npre = own.length) (hfr : E.free = fun _ => true)
    (hf : E.P.funcs[f]? = some fn) (hname : (fn.name == "runtime.NumGoroutine") = false) (hb : fn.body = some c)
    (hok : (okDst fn.ntmps (writes c) && Nat.ble args.length fn.ntmps) = true)
    (h : zipF 0 args fun tm => vc E c ⟨tm, own⟩ (retK E fn.results.toList post)) : Ctr E.P f args own post := by
  refine ⟨⟨fn, hf, hname, by rw [hb]; rfl⟩, fun w σ β vs hH hr => calls_of_wp hf hb ?_⟩
  have hl := relL_length hr
  have hnp : E.npre = β.length := by rw [hH.len, hn]
  rw [Bool.and_eq_true] at hok
  have hal := Nat.le_of_ble_eq_true hok.2
  have h := zipF_ok h
  have hq0 : EOK E β ⟨fn.ntmps, fun _ => none, fun _ => true⟩ := ⟨hnp, hfr, fun _ _ => rfl⟩
  have g : G w σ β ⟨fn.ntmps, fun _ => none, fun _ => true⟩ ⟨zipT 0 args, own⟩ { tmps := vs.toArray ++ Array.replicate (fn.ntmps - vs.toArray.size) undef, defers := [] } w := by
    refine ⟨σ, β, ⟨fun t => ?_, by simp; omega, rfl, hH, Fr.refl w σ β, ⟨fun _ _ h => (by cases h), fun _ _ _ _ _ _ => rfl⟩⟩⟩
    rw [zipT_look]
    simp only [Nat.zero_le, if_true, Nat.sub_zero]
    cases hs : args[t]? with
    | none => simp [rel]
    | some s =>
      obtain ⟨v, hv, hrv⟩ := relL_get hr hs
      have : (vs.toArray ++ Array.replicate (fn.ntmps - vs.toArray.size) undef).getD t undef = v := by
        have hlt := lt_of_get? hv
        rw [Array.getD_eq_getD_getElem?, Array.getElem?_append_left (by simpa using hlt)]
        simp [hv]
      rw [this]; exact hrv
  refine wp_mono (vc_ok hE hm hq0 (fun _ => rfl) c _ _ _ w (okDst_ok hok.1) h g) ?_
  have fin : ∀ S a w', retS E fn.results.toList post S → G w σ β ⟨fn.ntmps, fun _ => none, fun _ => true⟩ S a w' →
      a.defers = [] ∧ ∃ v, (results fn a.tmps).run E.P w' = .ok v w' ∧
        ∃ v' σ' β' own' r, Ending.returned v = .returned v' ∧ HeapOK w' σ' β' own' ∧ Fr w σ β w' σ' β' ∧ rel σ' β' r v' ∧ post r own' := by
    rintro S a w' hk ⟨σ', β', hg⟩
    obtain ⟨S', σ'', β'', hk', hg'⟩ := Gh_ok hk hnp.symm hq0.nm hg
    obtain ⟨v, l, hrun, hp, hrel⟩ := results_ok hE hg' hk'
    refine ⟨hg'.df, v, hrun, ?_⟩
    unfold finK at hp
    split at hp
    · rename_i hbn
      rw [Bool.and_eq_true] at hbn
      rw [forceL_eq] at hp
      exact ⟨v, σ'', β''.take E.npre, S'.own.take E.npre, oneS l, rfl, hg'.hp.take hbn.2, hg'.fr.take (by omega), hrel _ ⟨rfl, fun vs h => relL_bnd _ _ hbn.1 h⟩, hp⟩
    · exact ⟨v, σ'', β'', S'.own, oneS l, rfl, hg'.hp, hg'.fr, hrel _ ⟨rfl, fun _ h => h⟩, hp⟩
  intro e a w' hq
  cases e with
  | normal => obtain ⟨S, hk, hg⟩ := hq; exact fin S a w' hk hg
  | ret => obtain ⟨S, hk, hg⟩ := hq; exact fin S a w' hk hg
  | exit i => obtain ⟨S, hk, _⟩ := hq; exact hk.elim
  | goto l => exact hq.elim
  | panic ch => exact hq.elim
  | outgrown => exact hq.elim
end Go.Sx
