/-
  A text of the proofs of this seat: lemmas that the statements' proofs use; it states nothing of the program by itself beyond the contracts that its theorems bear. Conditions: those that stand in each theorem. Its short name: R4.
-/
import Derived.Test.YtifcdempdcolkabR3
import Derived.Test.YtifcdempdcolkabVa
set_option linter.unusedVariables false
set_option linter.unusedSimpArgs false
namespace Go.Proofs.Ytifcdempdcolkab
open Go.Sx Go.Cv
set_option maxRecDepth 4000
theorem imp_zero : Imp (.agg [.nil, i64 0, i64 0]) (crv [] 0 0) := Imp.agg ⟨Imp.nil 1, Imp.refl _, Imp.refl _, trivial⟩
abbrev crvE (x : List Int × Int × Int × Int) : SV := .tup [crv x.1 x.2.1 x.2.2.1, i64 x.2.2.2]
theorem bd_of {vs p q} (h : VF vs p q) : Bd vs p q := ⟨h.p1, h.pn, by have := h.n2; omega, h.q0, by have := h.q1; omega, fun j => by
  by_cases hj : j < vs.length
  · have := h.v j hj; simp only [INF] at this; omega
  · rw [List.getD_eq_getElem?_getD, List.getElem?_eq_none (by omega)]; simp⟩
theorem aP_R4 {A B K : Prop} (k : K) (a : A := by (simp only [zA, zT, zD, zC, zN, ints_len, zR, Go.Cv.vals_len]; omega)) (b : B := by (simp only [zA, zT, zD, zC, zN, ints_len, zR, Go.Cv.vals_len]; omega)) : (A ∧ B) ∧ K := ⟨⟨a, b⟩, k⟩
theorem Made_ok (vs : List Int) (P : Nat) (Q : Int) (hb : Bd vs P Q) :
    Ctr Try.prog 40 [crv vs P Q] [] (fun r o => ∃ x : List Int × Int × Int × Int, MadeP vs P Q x.1 x.2.1 x.2.2.1 x.2.2.2 ∧ o = [] ∧ r = crvE x) := by
  refine Ctr.impE ?_
  refine fn_intro (E := env 0) tys_ok rfl rfl rfl Try.func40 (by kernel_rfl) rfl (by kernel_rfl) ?_
  (repeat' (conv => whnf); first | refine aC (fun _ => ?_) (fun _ => ?_) | refine aS ?_ | refine aG ?_ | refine aD ?_ | refine aH ?_ | refine aP_R4 ?_ | refine aI ?_ | refine aJ ?_ | fail); all_goals try (conv => whnf)
  refine CallOb.mk [] (Least_ok vs P Q hb) rfl (ImpL.refl _) rfl rfl ?_
  rintro _ _ ⟨⟨ws, p1, q1⟩, hL, rfl, rfl⟩
  simp only at hL
  (repeat' (conv => whnf); first | refine aC (fun _ => ?_) (fun _ => ?_) | refine aS ?_ | refine aG ?_ | refine aD ?_ | refine aH ?_ | refine aP_R4 ?_ | refine aI ?_ | refine aJ ?_ | fail); all_goals try (conv => whnf)
  refine aK [] (Valid_ok ws p1 q1) ?_
  (repeat' (conv => whnf); first | refine aC (fun _ => ?_) (fun _ => ?_) | refine aS ?_ | refine aG ?_ | refine aD ?_ | refine aH ?_ | refine aP_R4 ?_ | refine aI ?_ | refine aJ ?_ | fail); all_goals try (conv => whnf)
  · have hv : ¬ValidP ws p1 q1 := by assumption
    exact ⟨([], 0, 0, 3), ⟨ws, p1, q1, hL, .inr ⟨hv, rfl, rfl, rfl, rfl⟩⟩, rfl, Imp.tup ⟨imp_zero, Imp.refl _, trivial⟩⟩
  · have hv : ValidP ws p1 q1 := Classical.not_not.1 (by assumption)
    exact ⟨(ws, p1, q1, 0), ⟨ws, p1, q1, hL, .inl ⟨hv, rfl, rfl, rfl, rfl⟩⟩, rfl, Imp.refl _⟩
theorem Normal_ok (vs : List Int) (p q : Int) :
    Ctr Try.prog 77 [crv vs p q] [] (fun r o => ∃ x : List Int × Int × Int × Int, NormP vs p q x.1 x.2.1 x.2.2.1 x.2.2.2 ∧ o = [] ∧ r = crvE x) := by
  refine Ctr.impE ?_
  refine fn_intro (E := env 0) tys_ok rfl rfl rfl Try.func77 (by kernel_rfl) rfl (by kernel_rfl) ?_
  (repeat' (conv => whnf); first | refine aC (fun _ => ?_) (fun _ => ?_) | refine aS ?_ | refine aG ?_ | refine aD ?_ | refine aH ?_ | refine aP_R4 ?_ | refine aI ?_ | refine aJ ?_ | fail); all_goals try (conv => whnf)
  refine aK [] (Valid_ok vs p q) ?_
  (repeat' (conv => whnf); first | refine aC (fun _ => ?_) (fun _ => ?_) | refine aS ?_ | refine aG ?_ | refine aD ?_ | refine aH ?_ | refine aP_R4 ?_ | refine aI ?_ | refine aJ ?_ | fail); all_goals try (conv => whnf)
  · have hv : ¬ValidP vs p q := by assumption
    exact ⟨([], 0, 0, 1), .inr ⟨hv, rfl, rfl, rfl, rfl⟩, rfl, Imp.tup ⟨imp_zero, Imp.refl _, trivial⟩⟩
  · have hv : ValidP vs p q := Classical.not_not.1 (by assumption)
    obtain ⟨p0, rfl, hf⟩ := hv.vf
    refine CallOb.mk [] (Least_ok vs p0 q (bd_of hf)) rfl (ImpL.refl _) rfl rfl ?_
    rintro _ _ ⟨⟨ws, p1, q1⟩, hL, rfl, rfl⟩
    simp only at hL
    (repeat' (conv => whnf); first | refine aC (fun _ => ?_) (fun _ => ?_) | refine aS ?_ | refine aG ?_ | refine aD ?_ | refine aH ?_ | refine aP_R4 ?_ | refine aI ?_ | refine aJ ?_ | fail); all_goals try (conv => whnf)
    exact ⟨(ws, p1, q1, 0), .inl ⟨rfl, p0, p1, rfl, rfl, hf, hL.nf hf⟩, rfl, Imp.refl _⟩
theorem getD_ext {l l' : List Int} (hl : l.length = l'.length) (h : ∀ i < l.length, l.getD i 0 = l'.getD i 0) : l = l' := by
  apply List.ext_getElem hl
  intro i h1 h2
  have := h i h1
  rwa [List.getD_eq_getElem?_getD, List.getD_eq_getElem?_getD, List.getElem?_eq_getElem h1, List.getElem?_eq_getElem h2] at this
theorem Same_ok (vs ws : List Int) (p q p' q' : Int) (hv : vs.length ≤ 1000000) :
    Ctr Try.prog 15 [crv vs p q, crv ws p' q'] [] (fun r o => o = [] ∧ r = .bp (vs = ws ∧ p = p' ∧ q = q')) := by
  refine Ctr.imp ?_
  refine fn_intro (E := env 0) tys_ok rfl rfl rfl Try.func15 (by kernel_rfl) rfl (by kernel_rfl) ?_
  (repeat' (conv => whnf); first | refine aC (fun _ => ?_) (fun _ => ?_) | refine aS ?_ | refine aG ?_ | refine aD ?_ | refine aH ?_ | refine aP_R4 ?_ | refine aI ?_ | refine aJ ?_ | fail); all_goals try (conv => whnf)
  all_goals simp only [ints_len] at *
  · exact ⟨by trivial, Imp.bl ⟨fun h => (by cases h), fun h => by obtain ⟨rfl, _⟩ := h; omega⟩⟩
  · exact ⟨by trivial, Imp.bl ⟨fun h => (by cases h), fun h => by omega⟩⟩
  · exact ⟨by trivial, Imp.bl ⟨fun h => (by cases h), fun h => by omega⟩⟩
  have hl : vs.length = ws.length := by omega
  have hp : p = p' := by omega
  have hq : q = q' := by omega
  subst hp
  subst hq
  refine LoopOb.mk (Y := Nat) (st := fun j => ⟨[(2, .ptr 0 0), (3, .ptr 1 0), (5, i64 j)], [.box [.psl 1 (ints vs), i64 p, i64 q], .box [.psl 1 (ints ws), i64 p, i64 q]]⟩)
    (inv := fun j => j ≤ vs.length ∧ ∀ k < j, vs.getD k 0 = ws.getD k 0) (fun j => vs.length - j) 0 [0, 1] ⟨by omega, fun k h => by omega⟩ (by (exact aL)) ?_
  rintro j ⟨h1, h2⟩
  (repeat' (conv => whnf); first | refine aC (fun _ => ?_) (fun _ => ?_) | refine aS ?_ | refine aG ?_ | refine aD ?_ | refine aH ?_ | refine aP_R4 ?_ | refine aI ?_ | refine aJ ?_ | refine aW (.qs [0, 1, 2, 3, 4, 5, 6, 7, 8, 9, 10] .nil) ?_ | fail); all_goals try (conv => whnf)
  all_goals try simp only [ints_len] at *
  · have hne : ¬vs.getD j 0 = ws.getD j 0 := by assumption
    exact ⟨by trivial, Imp.bl ⟨fun h => (by cases h), fun h => by obtain ⟨rfl, _⟩ := h; exact absurd rfl hne⟩⟩
  · have he : vs.getD j 0 = ws.getD j 0 := Classical.not_not.1 (by assumption)
    refine ⟨j + 1, [0, 1], ⟨by omega, fun k hk => ?_⟩, by omega, by (exact aL)⟩
    by_cases hkj : k = j
    · subst hkj; exact he
    · exact h2 k (by omega)
  · exact ⟨by trivial, Imp.bl ⟨fun _ => ⟨getD_ext hl (fun i hi => h2 i (by omega)), by trivial⟩, fun _ => rfl⟩⟩
end Go.Proofs.Ytifcdempdcolkab
