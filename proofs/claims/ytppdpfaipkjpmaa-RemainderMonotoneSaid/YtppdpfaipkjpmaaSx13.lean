/-
  A text of the proofs of this seat: lemmas that the statements' proofs use; it states nothing of the program by itself beyond the contracts that its theorems bear. Conditions: those that stand in each theorem. Its short name: Sx13.
-/
import Derived.Test.YtppdpfaipkjpmaaSxD
import Derived.Scope
set_option linter.unusedVariables false
set_option linter.unusedSimpArgs false
namespace Go.Sx

/-! ### a list of operations -/
def opsS (E : Env) (all : List Oper) : List Oper → SS → (SS → Prop) → Prop
  | [], S, K => K S
  | o :: r, ⟨tm, own⟩, K => match o.guard with
    | none => stepS E ⟨tm, own⟩ o fun S' => opsS E all r S' K
    | some (j, want) => match (all[j]?).bind (·.dst) with
      | some t => match tlook tm t with
        | .bl b => match b, want with
          | true, true => stepS E ⟨tm, own⟩ o fun S' => opsS E all r S' K
          | false, false => stepS E ⟨tm, own⟩ o fun S' => opsS E all r S' K
          | true, false => SS.setK ⟨tm, own⟩ o.dst (.raw undef) fun S => opsS E all r S K
          | false, true => SS.setK ⟨tm, own⟩ o.dst (.raw undef) fun S => opsS E all r S K
        | .bp p => match want with
          | true => CondOb p (stepS E ⟨(t, .bl true) :: tm, own⟩ o fun S' => opsS E all r S' K) (SS.setK ⟨(t, .bl false) :: tm, own⟩ o.dst (.raw undef) fun S => opsS E all r S K)
          | false => CondOb p (SS.setK ⟨(t, .bl true) :: tm, own⟩ o.dst (.raw undef) fun S => opsS E all r S K) (stepS E ⟨(t, .bl false) :: tm, own⟩ o fun S' => opsS E all r S' K)
        | .raw v => match noBool v with
          | true => SS.setK ⟨tm, own⟩ o.dst (.raw undef) fun S => opsS E all r S K
          | false => False
        | _ => False
      | none => False

inductive X | normal | exit (i : Nat) | ret

def Qof (w0 : World) (σ0 : PH) (β0 : List HB) (nt : Par) (K : X → SS → Prop) : Exit → Act → World → Prop
  | .normal, a, w => ∃ S, K .normal S ∧ G w0 σ0 β0 nt S a w
  | .exit i, a, w => ∃ S, K (.exit i) S ∧ G w0 σ0 β0 nt S a w
  | .ret, a, w => ∃ S, K .ret S ∧ G w0 σ0 β0 nt S a w
  | _, _, _ => False

theorem opsS_ok {E : Env} (hE : EnvOK E) {w0 : World} {σ0 : PH} {β0 : List HB} {nt : Par} (hnp : EOK E β0 nt) {ops : Array Oper} {all : List Oper} (hall : ops.toList = all) {Q : Exit → Act → World → Prop} {K : SS → Prop}
    (hK : ∀ S a w, K S → G w0 σ0 β0 nt S a w → Q .normal a w) : ∀ (l : List Oper) (S : SS) (a : Act) (w : World), (∀ o ∈ l, ∀ d, o.dst = some d → d < nt.n) → opsS E all l S K → G w0 σ0 β0 nt S a w → wpList E.P ops Q l a w
  | [], S, a, w, _, h, g => hK S a w h g
  | o :: r, ⟨tm, own⟩, a, w, hd, h, ⟨σ, β, g⟩ => by
    have ih := fun S a w => opsS_ok hE hnp hall hK r S a w (fun o ho => hd o (by simp [ho]))
    have hdo := hd o (by simp)
    have run : ∀ {S : SS} {σ β}, GG w0 σ0 β0 nt σ β S a w → (stepS E S o fun S' => opsS E all r S' K) → o.wp E.P a w (wpList E.P ops Q r) Q := fun g h => stepS_ok hE hnp hdo (fun S' a' w' hk hg => ih S' a' w' hk hg) h g
    have skip : ∀ {S : SS} {σ β}, GG w0 σ0 β0 nt σ β S a w → opsS E all r (S.set o.dst (.raw undef)) K → wpList E.P ops Q r (a.put o.dst undef) w := fun g h => ih _ _ _ h ⟨_, _, g.set (by simp [rel]) _ hdo⟩
    unfold wpList
    simp only [opsS, SS.setK_eq] at h
    split at h
    · rename_i hg
      rw [if_pos (by simp [Region.wanted, hg])]
      exact .inl (run g h)
    · rename_i j want hg
      split at h
      · rename_i t ht
        have hy : ∀ b, a.tmps.getD t undef = .bool b → yielded ops a.tmps j = some b := by
          intro b hv
          unfold yielded
          have : (ops[j]?).bind (·.dst) = some t := by rw [← ht, ← hall]; simp
          rw [this]
          rw [Array.getD_eq_getD_getElem?] at hv
          cases hq : a.tmps[t]? with
          | none => rw [hq] at hv; simp [undef] at hv
          | some v => rw [hq] at hv; simp at hv; subst hv; simp [hq]
        have hw : ∀ (b : Bool), a.tmps.getD t undef = .bool b → Region.wanted o (yielded ops a.tmps) = (b == want) := by
          intro b hb
          simp only [Region.wanted, hg, hy _ hb]
          cases b <;> cases want <;> rfl
        have hr := g.tm t
        split at h
        · rename_i b hs
          simp only [hs, rel] at hr
          rw [hw b hr]
          split at h
          · rw [if_pos (by decide)]; exact .inl (run g h)
          · rw [if_pos (by decide)]; exact .inl (run g h)
          · rw [if_neg (by decide)]; exact skip g h
          · rw [if_neg (by decide)]; exact skip g h
        · rename_i p hs
          simp only [hs, rel] at hr
          obtain ⟨b, hv, hbp⟩ := hr
          have gb := g.know (t := t) (s' := .bl b) (by simp only [rel]; exact hv)
          rw [hw b hv]
          split at h
          · obtain ⟨h1, h2⟩ := h
            cases b with
            | true => rw [if_pos (by decide)]; exact .inl (run gb (h1 (hbp.1 rfl)))
            | false => rw [if_neg (by decide)]; exact skip gb (h2 (fun hp => by have := hbp.2 hp; cases this))
          · obtain ⟨h1, h2⟩ := h
            cases b with
            | true => rw [if_neg (by decide)]; exact skip gb (h1 (hbp.1 rfl))
            | false => rw [if_pos (by decide)]; exact .inl (run gb (h2 (fun hp => by have := hbp.2 hp; cases this)))
        · rename_i v hs
          simp only [hs, rel] at hr
          split at h
          · rename_i hnb
            rw [wanted_noBool (t := t) hg (by rw [← ht, ← hall]; simp) (by rw [hr]; exact hnb), if_neg (by decide)]
            exact skip g h
          · exact h.elim
        · exact h.elim
      · exact h.elim

/-! ### code -/
def dsts : List Oper → List Nat
  | [] => []
  | o :: r => match o.dst with
    | some d => d :: dsts r
    | none => dsts r
theorem dsts_mem : ∀ {l : List Oper} {o : Oper} {d : Nat}, o ∈ l → o.dst = some d → d ∈ dsts l
  | [], _, _, h, _ => by simp at h
  | x :: l, o, d, h, e => by
    rcases List.mem_cons.1 h with rfl | h
    · simp [dsts, e]
    · have := dsts_mem h e
      unfold dsts; split
      · simp [this]
      · exact this
def writes : Code → List Nat
  | .region _ ops _ => dsts ops.toList
  | .seq a b => writes a ++ writes b
  | .cond _ t e => writes t ++ writes e
  | .block _ c => writes c
  | .loop c => writes c
  | .scope c => writes c
  | _ => []
def exits (i : Nat) : Code → Nat
  | .seq a b => exits i a + exits i b
  | .cond _ t e => exits i t + exits i e
  | .block _ c => exits i c
  | .loop c => exits i c
  | .scope c => exits i c
  | .exit j => match Nat.beq i j with | true => 1 | false => 0
  | _ => 0
def guarded : List Oper → Nat
  | [] => 1
  | o :: r => match o.guard with
    | some _ => 2
    | none => guarded r
def ways : Code → Nat
  | .skip => 1
  | .region _ ops _ => guarded ops.toList
  | .seq a b => match ways a, ways b with | 0, _ => 0 | _, 0 => 0 | n, m => max n m
  | .cond _ t e => ways t + ways e
  | .block i c => ways c + exits i c
  | .scope c => ways c
  | .label _ => 1
  | _ => 0
abbrev KK := X → SS → Prop
def seqK (next : SS → Prop) (K : KK) : KK
  | .normal, S => next S
  | x, S => K x S
def blkK (i : Nat) (K : KK) : KK
  | .exit j, S => match Nat.beq j i with
    | true => K .normal S
    | false => K (.exit j) S
  | x, S => K x S

inductive CutOb (n : Nat) (nm : Bool) (va vb : SS → KK → Prop) (S : SS) (K : KK) : Prop
  | split (h : va S (seqK (fun S' => vb S' K) K)) : CutOb n nm va vb S K
  | cut {Y : Type} (st : Y → SS) (inv : Y → Prop)
      (h1 : va S (seqK (Gh n nm fun S' => ∃ y hs, inv y ∧ Le n hs S' (st y)) K))
      (h2 : ∀ y, inv y → vb (st y) K) : CutOb n nm va vb S K
inductive LoopOb (n : Nat) (nm : Bool) (vb : SS → KK → Prop) (S : SS) (K : KK) : Prop
  | mk {Y : Type} (st : Y → SS) (inv : Y → Prop) (μ : Y → Nat) (y0 : Y) (hs0 : List Nat) (h0 : inv y0) (hl : Le n hs0 S (st y0))
      (h : ∀ y, inv y → vb (st y) (seqK (Gh n nm fun S' => ∃ y' hs, inv y' ∧ μ y' < μ y ∧ Le n hs S' (st y')) K)) : LoopOb n nm vb S K

def vc (E : Env) : Code → SS → KK → Prop
  | .skip, S, K => K .normal S
  | .region _ ops false, S, K => opsS E ops.toList ops.toList S (K .normal)
  | .region _ ops true, S, K => DrawOb E ops S (K .normal)
  | .seq a b, S, K => match ways a with
    | 0 => vc E a S (seqK (fun S' => vc E b S' K) K)
    | 1 => vc E a S (seqK (fun S' => vc E b S' K) K)
    | _ => CutOb E.npre E.nm (vc E a) (vc E b) S K
  | .cond c t e, S, K => S.evN c fun s => match s with
    | .bl true => vc E t S K
    | .bl false => vc E e S K
    | .bp p => CondOb p (vc E t S K) (vc E e S K)
    | _ => False
  | .block i c, S, K => vc E c S (blkK i K)
  | .loop c, S, K => Gh E.npre E.nm (fun S => LoopOb E.npre E.nm (vc E c) S K) S
  | .exit i, S, K => K (.exit i) S
  | .ret, S, K => K .ret S
  | .label _, S, K => K .normal S
  | .scope c, S, K => vc E c S K
  | _, _, _ => False

theorem vc_ok {E : Env} (hE : EnvOK E) (hm : E.P.follows .mixedOrders = true) {w0 : World} {σ0 : PH} {β0 : List HB} {nt : Par} (hnp : EOK E β0 nt) (hpn : ∀ b, nt.pin b = none) :
    ∀ (c : Code) (S : SS) (K : KK) (a : Act) (w : World), (∀ d ∈ writes c, d < nt.n) → vc E c S K → G w0 σ0 β0 nt S a w → c.wp E.P (Qof w0 σ0 β0 nt K) a w
  | .skip, S, K, a, w, _, h, g => wp_skip ⟨S, h, g⟩
  | .region id ops false, S, K, a, w, hd, h, g => wp_region_list (opsS_ok hE hnp rfl (fun S a w hk hg => ⟨S, hk, hg⟩) _ S a w (fun o ho d he => hd d (dsts_mem ho he)) h g)
  | .region id ops true, S, K, a, w, hd, h, g => draw_ok hE hm hnp hpn (fun _ _ _ h => h) (fun o ho d he => hd d (dsts_mem ho he)) (fun S a w hk hg => ⟨S, hk, hg⟩) h g
  | .seq x y, S, K, a, w, hd, h, g => by
    have hdx : ∀ d ∈ writes x, d < nt.n := fun d h => hd d (by simp [writes, h])
    have hdy : ∀ d ∈ writes y, d < nt.n := fun d h => hd d (by simp [writes, h])
    have plain : ∀ S a w, vc E x S (seqK (fun S' => vc E y S' K) K) → G w0 σ0 β0 nt S a w → (Code.seq x y).wp E.P (Qof w0 σ0 β0 nt K) a w := by
      intro S a w h g
      refine wp_seq (wp_mono (vc_ok hE hm hnp hpn x S _ a w hdx h g) ?_)
      intro e a' w' hq
      cases e with
      | normal => obtain ⟨S', hk, hg⟩ := hq; exact vc_ok hE hm hnp hpn y S' K a' w' hdy hk hg
      | exit i => exact hq
      | goto l => exact hq
      | ret => exact hq
      | panic c => exact hq
      | outgrown => exact hq
    simp only [vc] at h
    split at h
    · exact plain S a w h g
    · exact plain S a w h g
    · cases h with
      | split h => exact plain S a w h g
      | @cut Y st inv h1 h2 =>
        refine wp_seq (wp_mono (vc_ok hE hm hnp hpn x S _ a w hdx h1 g) ?_)
        intro e a' w' hq
        cases e with
        | normal =>
          obtain ⟨S', hk, σ, β, hg⟩ := hq
          obtain ⟨S'', σ', β', ⟨y', hs, hi, hle⟩, hg'⟩ := Gh_ok hk hnp.np.symm hnp.nm hg
          obtain ⟨β'', hg''⟩ := hg'.weak (hpn) (by rw [← hnp.np]; exact hle)
          exact vc_ok hE hm hnp hpn y _ K a' w' hdy (h2 y' hi) ⟨σ', _, hg''⟩
        | exit i => exact hq
        | goto l => exact hq
        | ret => exact hq
        | panic c => exact hq
        | outgrown => exact hq
  | .cond c t e, S, K, a, w, hd, h, ⟨σ, β, g⟩ => by
    have hdt : ∀ d ∈ writes t, d < nt.n := fun d h => hd d (by simp [writes, h])
    have hde : ∀ d ∈ writes e, d < nt.n := fun d h => hd d (by simp [writes, h])
    obtain ⟨s, hc, hq⟩ := g.evN (show S.evN c _ from h)
    clear h
    split at hq
    · simp only [rel] at hc
      exact wp_cond_true hc (vc_ok hE hm hnp hpn t S K a w hdt hq ⟨σ, β, g⟩)
    · simp only [rel] at hc
      exact wp_cond_false hc (vc_ok hE hm hnp hpn e S K a w hde hq ⟨σ, β, g⟩)
    · simp only [rel] at hc
      obtain ⟨b, hc, hbp⟩ := hc
      obtain ⟨h1, h2⟩ := hq
      cases b with
      | true => exact wp_cond_true hc (vc_ok hE hm hnp hpn t S K a w hdt (h1 (hbp.1 rfl)) ⟨σ, β, g⟩)
      | false => exact wp_cond_false hc (vc_ok hE hm hnp hpn e S K a w hde (h2 (fun hp => by have := hbp.2 hp; cases this)) ⟨σ, β, g⟩)
    · exact hq.elim
  | .block i c, S, K, a, w, hd, h, g => by
    refine wp_block (wp_mono (vc_ok hE hm hnp hpn c S _ a w hd h g) ?_)
    intro e a' w' hq
    cases e with
    | normal => exact hq
    | exit j =>
      obtain ⟨S', hk, hg⟩ := hq
      simp only [blkK] at hk
      simp only [Exit.inBlock]
      split at hk
      · rename_i hb; have := Nat.eq_of_beq_eq_true hb; subst this
        rw [if_pos rfl]; exact ⟨S', hk, hg⟩
      · rename_i hb; rw [if_neg (nbeq_false hb)]; exact ⟨S', hk, hg⟩
    | goto l => exact hq
    | ret => exact hq
    | panic c => exact hq
    | outgrown => exact hq
  | .loop c, S, K, a, w, hd, h, ⟨σ, β, g⟩ => by
    obtain ⟨S0, σ0', β0', hk, hg⟩ := Gh_ok h hnp.np.symm hnp.nm g
    obtain ⟨st, inv, μ, y0, hs0, h0, hl, hr⟩ := hk
    intro b k cs
    have key : ∀ (n : Nat) y, μ y = n → inv y → ∀ a w, G w0 σ0 β0 nt (st y) a w →
        ∃ e a' w', Qof w0 σ0 β0 nt K e a' w' ∧ Arrives E.P (lone (b.at a (.code c :: .inLoop c :: k)) cs w) b k cs e a' w' := by
      intro n
      induction n using Nat.strongRecOn with
      | _ n ih =>
        intro y hy hi a w g
        obtain ⟨e, a₁, w₁, hq, harr⟩ := vc_ok hE hm hnp hpn c _ _ a w hd (hr y hi) g b (.inLoop c :: k) cs
        cases e with
        | normal =>
          obtain ⟨S', hk, σ', β', hg⟩ := hq
          obtain ⟨S'', σ'', β'', ⟨y', hs, hi', hlt, hle⟩, hg'⟩ := Gh_ok hk hnp.np.symm hnp.nm hg
          obtain ⟨β3, hg3⟩ := hg'.weak (hpn) (by rw [← hnp.np]; exact hle)
          obtain ⟨e₂, a₂, w₂, hq₂, harr₂⟩ := ih (μ y') (by omega) y' rfl hi' a₁ w₁ ⟨σ'', _, hg3⟩
          exact ⟨e₂, a₂, w₂, hq₂, .of_steps (Steps.trans harr (.one step_inLoop)) harr₂⟩
        | exit id => exact ⟨.exit id, a₁, w₁, hq, .pass (x := .inLoop c) rfl (fun _ _ => .inl (by simp)) harr⟩
        | goto l => exact hq.elim
        | ret => exact ⟨.ret, a₁, w₁, hq, .pass (x := .inLoop c) rfl (fun _ _ => .inl (by simp)) harr⟩
        | panic ch => exact hq.elim
        | outgrown => exact hq.elim
    obtain ⟨β1, hg1⟩ := hg.weak (hpn) (by rw [← hnp.np]; exact hl)
    obtain ⟨e, a', w', hq, harr⟩ := key _ y0 rfl h0 a w ⟨σ0', _, hg1⟩
    exact ⟨e, a', w', hq, .of_steps (.one step_loop) harr⟩
  | .exit i, S, K, a, w, _, h, g => wp_exit ⟨S, h, g⟩
  | .ret, S, K, a, w, _, h, g => wp_ret ⟨S, h, g⟩
  | .rangeFunc _ _ _ _, S, K, a, w, _, h, g => by simp [vc] at h
  | .scope c, S, K, a, w, hd, h, g => by
    refine wp_scope_straight (wp_mono (vc_ok hE hm hnp hpn c S K a w hd h g) ?_)
    intro e a' w' hq
    cases e <;> exact hq
  | .label _, S, K, a, w, _, h, g => wp_label ⟨S, h, g⟩
  | .goto _, S, K, a, w, _, h, g => by simp [vc] at h
  | .refuse _, S, K, a, w, _, h, g => by simp [vc] at h
end Go.Sx
