/-
  A text of the proofs of this seat: lemmas that the statements' proofs use; it states nothing of the program by itself beyond the contracts that its theorems bear. Conditions: those that stand in each theorem. Its short name: T1 OpP.
-/
import Derived.Test.YtabbnnfobjifiaaTy
import Derived.Test.YtabbnnfobjifiaaSxR
import Derived.Test.YtabbnnfobjifiaaPl
import Derived.Test.YtabbnnfobjifiaaOpC
set_option linter.unusedVariables false
set_option linter.unusedSimpArgs false
section
namespace Go.Proofs.Ytabbnnfobjifiaa
open Go.Sx Go.Pk
set_option maxRecDepth 4000
set_option maxHeartbeats 2000000
abbrev pkw (x : Pk) : List SV := [i64 x.f, i64 x.t, i64 x.s]
abbrev pks (l : List Pk) : List (List SV) := l.map pkw
theorem pks_len (l : List Pk) : (pks l).length = l.length := by simp [pks]
theorem pks_get {l : List Pk} {j : Nat} (h : j < l.length) : (pks l)[j]? = some (pkw (l.getD j pk0)) := by
  simp [pks, List.getElem?_map, List.getElem?_eq_getElem h, List.getD_eq_getElem?_getD]
theorem aP_T1 {A B K : Prop} (k : K) (a : A := by (simp only [zA, zT, zD, zC, zN, ints_len, zR, Go.Cv.vals_len]; omega)) (b : B := by (simp only [zA, zT, zD, zC, zN, ints_len, zR, Go.Cv.vals_len]; omega)) : (A ∧ B) ∧ K := ⟨⟨a, b⟩, k⟩
theorem of_ok (p : List Pk) (flow : Int) : Ctr Try.prog 92 [.psl 3 (pks p), i64 flow] [] (fun r o => o = [] ∧ r = .fn 96 [.pptr [.psl 3 (pks p)], .pptr [i64 flow]]) := by
  refine fn_intro (E := env 0) tys_ok rfl rfl rfl Try.func92 (by kernel_rfl) rfl (by kernel_rfl) ?_
  (repeat' (conv => whnf); first | refine aC (fun _ => ?_) (fun _ => ?_) | refine aS ?_ | refine aG ?_ | refine aD ?_ | refine aP_T1 ?_ | refine aI ?_ | refine aJ ?_ | fail); all_goals try (conv => whnf)
  refine .mk [.fb 0, .fb 1] ?_
  (repeat' (conv => whnf); first | refine aC (fun _ => ?_) (fun _ => ?_) | refine aS ?_ | refine aG ?_ | refine aD ?_ | refine aH ?_ | refine aP_T1 ?_ | refine aI ?_ | refine aJ ?_ | fail); all_goals try (conv => whnf)
  exact ⟨rfl, rfl⟩
abbrev rnd (x : Nat × Pk) : List SV := [i64 x.1, .agg (pkw x.2)]
theorem of1B (Y : YP) (hm : Y.m = 2) (p : List Pk) (hp : p.length ≤ 1000000) (flow t : Int) (f : Nat → Int)
    (hY : ∀ j x, (selN p flow p.length)[j]? = some x → CtrY Try.prog Y (rnd x) [.box [i64 t], .box [i64 (f j)]] (fun v o' => v = .bl true ∧ o' = [.box [i64 t], .box [i64 (f (j + 1))]])) :
    CtrL Try.prog Y 96 [.raw (yv Y.L), .pptr [.psl 3 (pks p)], .pptr [i64 flow]] [.box [i64 t], .box [i64 (f 0)]] (fun _ o => o = [.box [i64 t], .box [i64 (f (selN p flow p.length).length)]]) := by
  refine fn_introY (E := env 2) tys_ok rfl rfl rfl Try.func96 (by kernel_rfl) rfl (by kernel_rfl) ?_
  have hpl := pks_len p
  (repeat' (conv => whnf); first | (refine aC (fun _ => ?_) (fun _ => ?_) <;> try (exfalso; omega)) | refine aS ?_ | refine aG ?_ | refine aD ?_ | refine aH ?_ | refine aP_T1 ?_ | refine aI ?_ | refine aJ ?_ | fail); all_goals try (conv => whnf)
  refine LoopOb.mk (Y := Nat) (st := fun i => ⟨[(8, i64 i), (7, i64 (pks p).length), (6, .psl 3 (pks p)), (0, .raw (yv Y.L)), (1, .pptr [.psl 3 (pks p)]), (2, .pptr [i64 flow])], [.box [i64 t], .box [i64 (f (selN p flow i).length)]]⟩)
    (inv := fun i => i ≤ p.length) (fun i => p.length - i) 0 [0, 1] (by omega) (by (exact aL)) ?_
  intro i hi
  (repeat' (conv => whnf); first | refine aS ?_ | refine aG ?_ | refine aD ?_ | refine aH ?_ | refine aP_T1 ?_ | refine aI ?_ | refine aJ ?_ | fail); all_goals try (conv => whnf)
  refine CondOb.mk (fun hlt => ?_) (fun hlt => ?_)
  · have hil : i < p.length := by omega
    have hg := pks_get hil
    have hat := fun h => hY _ _ (selN_at hil h)
    obtain ⟨hs1, hs2⟩ := selN_step p flow i
    have hl1 : sel flow (p.getD i pk0) → (selN p flow (i + 1)).length = (selN p flow i).length + 1 := fun h => by rw [hs1 h, List.length_append]; rfl
    unfold sel at hs1 hs2 hat hl1
    generalize p.getD i pk0 = x at *
    (repeat' (conv => whnf); first | refine ⟨i, _, rfl, hg, ?_⟩ | (refine aC (fun _ => ?_) (fun _ => ?_) <;> try (exfalso; omega)) | refine aS ?_ | refine aG ?_ | refine aD ?_ | refine aH ?_ | refine aP_T1 ?_ | refine aI ?_ | refine aJ ?_ | refine YOb.mk rfl ?_ | (refine YieldOb.mk 2 hm [0, 1] (hat (by omega)) rfl (ImpL.refl _) rfl rfl rfl ?_; rintro _ _ ⟨rfl, rfl⟩) | fail); all_goals try (conv => whnf)
    all_goals first
      | exact ⟨i + 1, [0, 1], by omega, by omega, by rw [hs2 (by omega)]; (exact aL)⟩
      | exact ⟨i + 1, [0, 1], by omega, by omega, by rw [hl1 (by omega)]; (exact aL)⟩
      | trace_state
  · have e : i = p.length := by omega
    subst e
    (repeat' (conv => whnf); first | (refine aC (fun _ => ?_) (fun _ => ?_) <;> try (exfalso; omega)) | refine aS ?_ | refine aG ?_ | refine aD ?_ | refine aH ?_ | refine aP_T1 ?_ | refine aI ?_ | refine aJ ?_ | fail); all_goals try (conv => whnf)
theorem Bytes_ok (p : List Pk) (hp : p.length ≤ 1000000) (hsm : Sml p) (flow t : Int) : Ctr Try.prog 78 [.psl 3 (pks p), i64 flow, i64 t] [] (fun r o => o = [] ∧ r = i64 (bys p flow t)) := by
  refine fn_introR (E := env 0) tys_ok rfl rfl rfl Try.func78 (by kernel_rfl) rfl (by kernel_rfl) ?_
  (repeat' (conv => whnf); first | (refine aC (fun _ => ?_) (fun _ => ?_) <;> try (exfalso; omega)) | refine aS ?_ | refine aG ?_ | refine aD ?_ | refine aH ?_ | refine aP_T1 ?_ | refine aI ?_ | refine aJ ?_ | (refine aK [] (of_ok p flow) ?_) | fail); all_goals try (conv => whnf)
  refine RangeOb.mk 2 ((selN p flow p.length).map rnd) (fun j o => o = [.box [i64 t], .box [i64 (bysL t ((selN p flow p.length).take j))]]) (fun j o => o = [.box [i64 t], .box [i64 (bysL t ((selN p flow p.length).take j))]]) (fun j o => o = [.box [i64 t], .box [i64 (bysL t ((selN p flow p.length).take j))]]) (by kernel_rfl) (fun r hr => by obtain ⟨x, _, rfl⟩ := List.mem_map.1 hr; rfl) ?_ ?_ ?_
  · intro Y hm hY
    rw [List.length_map]
    exact of1B Y hm p hp flow t (fun j => bysL t ((selN p flow p.length).take j)) fun j x hx => hY j _ (rnd x) rfl (by rw [List.getElem?_map, hx]; rfl)
  · rintro j o r rfl hr
    rw [List.getElem?_map] at hr
    cases hx : (selN p flow p.length)[j]? with
    | none => rw [hx] at hr; cases hr
    | some x =>
      rw [hx] at hr; cases hr
      have hb := bysL_take t hx
      have hbd := sel_bd (flow := flow) (t := t) hsm j
      have hxs := hsm x.2 (selN_mem (Nat.le_refl _) x (List.mem_of_getElem? hx)).2.2
      obtain ⟨i, x⟩ := x
      dsimp only at hb hxs ⊢
      clear hx
      generalize bysL t ((selN p flow p.length).take j) = B at *
      rw [hb]
      (repeat' (conv => whnf); first | refine ArOb.fits (by dsimp only; omega) ?_ | (refine aC (fun _ => ?_) (fun _ => ?_) <;> try (exfalso; omega)) | refine aS ?_ | refine aG ?_ | refine aD ?_ | refine aH ?_ | refine aP_T1 ?_ | refine aI ?_ | refine aJ ?_ | fail); all_goals try (conv => whnf)
      all_goals first
        | (dsimp only at *; rw [if_pos (by assumption)])
        | (dsimp only at *; rw [if_neg (by assumption), Int.add_zero])
        | trace_state
  · rintro o rfl
    rw [List.length_map, List.take_length]
    (repeat' (conv => whnf); first | (refine aC (fun _ => ?_) (fun _ => ?_) <;> try (exfalso; omega)) | refine aS ?_ | refine aG ?_ | refine aD ?_ | refine aH ?_ | refine aP_T1 ?_ | refine aI ?_ | refine aJ ?_ | fail); all_goals try (conv => whnf)
    exact ⟨rfl, rfl⟩
end Go.Proofs.Ytabbnnfobjifiaa
end
section
namespace Go.Proofs.Ytabbnnfobjifiaa
open Go.Sx Go.Pk
set_option maxRecDepth 100000
theorem Opens.imp {P : Program} {t : TypeId} {α β : Type} {S : α → List SV} {side : α → Prop} {S' : β → List SV} {side' : β → Prop} (h : Opens P t S side) (hi : ∀ a, side a → ∃ b, side' b ∧ S a = S' b) : Opens P t S' side' := by
  intro H enc W fuel cs x hx
  obtain ⟨h1, h2, ⟨a, ha, hr⟩, h4⟩ := h enc W fuel cs x hx
  obtain ⟨b, hb, e⟩ := hi a ha
  exact ⟨h1, h2, ⟨b, hb, e ▸ hr⟩, h4⟩
theorem opensI : Opens Try.prog 3 (fun n : Int => [i64 n]) Fit := opens_int (by kernel_rfl) (by kernel_rfl)
def packetFs : List Field := [⟨ "Flow", 3, 0, false, "", "", 0⟩, ⟨ "Time", 3, 1, false, "", "", 8⟩, ⟨ "Size", 3, 2, false, "", "", 16⟩]
theorem opensP : Opens Try.prog 38 pkw (fun _ => True) :=
  Opens.imp (opens_struct (P := Try.prog) (fs := packetFs) (by kernel_rfl) (by kernel_rfl)
    (opensF_cons (P := Try.prog) (S := fun n : Int => [i64 n]) rfl opensI (opensF_cons (P := Try.prog) (S := fun n : Int => [i64 n]) (by kernel_rfl) opensI (opensF_cons (P := Try.prog) (S := fun n : Int => [i64 n]) (by kernel_rfl) opensI opensF_nil))))
    (fun a _ => ⟨⟨a.1, a.2.1, a.2.2.1⟩, trivial, rfl⟩)
theorem opens_packets : OpensArg Try.prog 25 (fun l : List Pk => .psl 3 (pks l)) (fun l => l.length ≤ maxLen ∧ ∀ x ∈ l, True) :=
  opensArg_one (D := .slice 38) (by kernel_rfl) rfl (opens_slice (e := 38) (by kernel_rfl) (by kernel_rfl) (by decide +kernel) opensP)
end Go.Proofs.Ytabbnnfobjifiaa
end
