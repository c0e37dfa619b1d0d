/-
  A text of the proofs of this seat: lemmas that the statements' proofs use; it states nothing of the program by itself beyond the contracts that its theorems bear. Conditions: those that stand in each theorem. Its short name: Va R4 R5.
-/
import Derived.Test.YtgbmiacpjmchdaaGreatR1
import Derived.Test.YtgbmiacpjmchdaaGreatR3
set_option linter.unusedVariables false
set_option linter.unusedSimpArgs false
section
namespace Go.Proofs.YtgbmiacpjmchdaaGreat
open Go.Sx Go.Cv
set_option maxRecDepth 4000
theorem aP_Va {A B K : Prop} (k : K) (a : A := by (simp only [zA, zT, zD, zC, zN, ints_len, zR, lnl, fll, stl]; omega)) (b : B := by (simp only [zA, zT, zD, zC, zN, ints_len, zR, lnl, fll, stl]; omega)) : (A ∧ B) ∧ K := ⟨⟨a, b⟩, k⟩
theorem Valid_ok (vs : List Int) (p i : Int) :
    Ctr Tryz.prog 90 [crv vs p i] [] (fun r o => o = [] ∧ r = .bp (ValidP vs p i)) := by
  refine Ctr.imp ?_
  refine fn_intro (E := env 0) tys_ok rfl rfl rfl Tryz.func90 (by kernel_rfl) rfl (by kernel_rfl) ?_
  (repeat' (conv => whnf); first | refine aC (fun _ => ?_) (fun _ => ?_) | refine aS ?_ | refine aG ?_ | refine aD ?_ | refine aH ?_ | refine aP_Va ?_ | refine aI ?_ | refine aJ ?_ | refine aW (.qs [0, 1, 2, 3, 4, 5, 6, 7, 8, 9, 10, 11, 12, 13, 14, 15, 16, 17, 18, 19, 20, 21, 22, 23, 24, 25, 26, 27, 28, 29, 30, 31, 32, 33, 34, 35, 36, 37, 38, 39] .nil) ?_ | refine aW (.qs [0, 1, 2, 3, 4, 5, 6, 7, 8, 9, 10, 11, 12, 13, 14, 15, 16, 17, 18] .nil) ?_ | fail); all_goals try (conv => whnf)
  all_goals try (refine And.intro rfl (Imp.bl ⟨fun h => (by cases h), fun h => ?_⟩); simp only [ints_len] at *; simp only [ValidP] at h; omega)
  rename_i h1 h2 h3 h4 h5 h6 h7
  simp only [ints_len] at h1 h2 h3 h4 h5 h6 h7
  refine LoopOb.mk (Y := Nat) (st := fun j => ⟨[(1, .ptr 0 0), (3, .num .i64 vs.length), (4, .num .i64 j)], [.box [.psl 1 (ints vs), .num .i64 p, .num .i64 i]]⟩)
    (inv := fun j => j ≤ vs.length ∧ (∀ k < j, vs.getD k 0 = 4611686018427387904 ∨ 0 ≤ vs.getD k 0 ∧ vs.getD k 0 ≤ 1073741824) ∧ (∀ k, k + 1 < j → vs.getD k 0 ≤ vs.getD (k + 1) 0)) (fun j => vs.length - j) 0 [0] ?_ ?_ ?_
  · simp
  · (exact aL)
  · rintro j ⟨hj, hv, hm⟩
    (repeat' (conv => whnf); first | refine aC (fun _ => ?_) (fun _ => ?_) | refine aS ?_ | refine aG ?_ | refine aD ?_ | refine aH ?_ | refine aP_Va ?_ | refine aI ?_ | refine aJ ?_ | refine aW (.qs [0, 1, 2, 3, 4, 5, 6, 7, 8, 9, 10, 11, 12, 13, 14, 15, 16, 17, 18, 19, 20, 21, 22, 23, 24, 25, 26, 27, 28, 29, 30, 31, 32, 33, 34, 35, 36, 37, 38, 39] .nil) ?_ | refine aW (.qs [0, 1, 2, 3, 4, 5, 6, 7, 8, 9, 10, 11, 12, 13, 14, 15, 16, 17, 18] .nil) ?_ | fail); all_goals try (conv => whnf)
    all_goals try rw [show (↑j - 1 : Int).toNat = j - 1 by omega] at *
    all_goals try (
      refine And.intro rfl (Imp.bl ⟨fun h => (by cases h), fun h => ?_⟩)
      obtain ⟨_, _, _, _, _, _, _, q1, q2, q3, _⟩ := h
      have q1 := q1 j
      have q2 := q2 (j - 1)
      try rw [show j - 1 + 1 = j by omega] at q2
      try rw [show (vs.length - 1 : Int).toNat = vs.length - 1 by omega] at *
      omega)
    all_goals try (
      refine ⟨j + 1, [0], ⟨by omega, fun k hk => ?_, fun k hk => ?_⟩, by omega, ?_⟩
      · by_cases hkj : k = j
        · subst hkj; omega
        · exact hv k (by omega)
      · by_cases hkj : k + 1 = j
        · subst hkj; first | omega | (simp only [Nat.add_sub_cancel] at *; omega)
        · exact hm k (by omega)
      · (exact aL))
    all_goals have hjl : j = vs.length := by omega
    all_goals subst hjl
    all_goals rw [show (vs.length - 1 : Int).toNat = vs.length - 1 by omega] at *
    · have hx2 : vs.getD (vs.length - 1) 0 = 4611686018427387904 := by assumption
      have hp : p = 1 := by assumption
      exact ⟨rfl, Imp.bp ⟨fun h => ⟨by omega, by omega, by omega, by omega, by omega, by omega, by omega, hv, hm, fun _ => ⟨hp, h⟩, fun h' => absurd hx2 h'⟩, fun h => by obtain ⟨_, _, _, _, _, _, _, _, _, q3, _⟩ := h; exact (q3 hx2).2⟩⟩
    · have hx2 : ¬vs.getD (vs.length - 1) 0 = 4611686018427387904 := by assumption
      have hq := hv (vs.length - p).toNat (by omega)
      refine ArOb.fits (by omega) ?_
      (repeat' (conv => whnf); first | refine aC (fun _ => ?_) (fun _ => ?_) | refine aS ?_ | refine aG ?_ | refine aD ?_ | refine aH ?_ | refine aP_Va ?_ | refine aI ?_ | refine aJ ?_ | refine aW (.qs [0, 1, 2, 3, 4, 5, 6, 7, 8, 9, 10, 11, 12, 13, 14, 15, 16, 17, 18, 19, 20, 21, 22, 23, 24, 25, 26, 27, 28, 29, 30, 31, 32, 33, 34, 35, 36, 37, 38, 39] .nil) ?_ | refine aW (.qs [0, 1, 2, 3, 4, 5, 6, 7, 8, 9, 10, 11, 12, 13, 14, 15, 16, 17, 18] .nil) ?_ | fail); all_goals try (conv => whnf)
      rw [show (vs.length - 1 : Int).toNat = vs.length - 1 by omega] at *
      rw [show (vs.length - p : Int).toNat = vs.length - p.toNat by omega] at *
      exact ⟨rfl, Imp.bp ⟨fun h => ⟨by omega, by omega, by omega, by omega, by omega, by omega, by omega, hv, hm, fun h' => absurd h' hx2, fun _ => h⟩, fun h => by obtain ⟨_, _, _, _, _, _, _, _, _, _, q4⟩ := h; exact q4 hx2⟩⟩
end Go.Proofs.YtgbmiacpjmchdaaGreat
end
section
--APPX Go.Cv.vals_len
namespace Go.Proofs.YtgbmiacpjmchdaaGreat
open Go.Sx Go.Cv
set_option maxRecDepth 4000
theorem imp_zero : Imp (.agg [.nil, i64 0, i64 0]) (crv [] 0 0) := Imp.agg ⟨Imp.nil 1, Imp.refl _, Imp.refl _, trivial⟩
abbrev crvE (x : List Int × Int × Int × Int) : SV := .tup [crv x.1 x.2.1 x.2.2.1, i64 x.2.2.2]
theorem bd_of {vs p q} (h : VF vs p q) : Bd vs p q := ⟨h.p1, h.pn, by have := h.n2; omega, h.q0, by have := h.q1; omega, fun j => by
  by_cases hj : j < vs.length
  · have := h.v j hj; simp only [INF] at this; omega
  · rw [List.getD_eq_getElem?_getD, List.getElem?_eq_none (by omega)]; simp⟩
theorem aP_R4 {A B K : Prop} (k : K) (a : A := by (simp only [zA, zT, zD, zC, zN, ints_len, zR, Go.Cv.vals_len]; omega)) (b : B := by (simp only [zA, zT, zD, zC, zN, ints_len, zR, Go.Cv.vals_len]; omega)) : (A ∧ B) ∧ K := ⟨⟨a, b⟩, k⟩
theorem Made_ok (vs : List Int) (P : Nat) (Q : Int) (hb : Bd vs P Q) :
    Ctr Tryz.prog 79 [crv vs P Q] [] (fun r o => ∃ x : List Int × Int × Int × Int, MadeP vs P Q x.1 x.2.1 x.2.2.1 x.2.2.2 ∧ o = [] ∧ r = crvE x) := by
  refine Ctr.impE ?_
  refine fn_intro (E := env 0) tys_ok rfl rfl rfl Tryz.func79 (by kernel_rfl) rfl (by kernel_rfl) ?_
  (repeat' (conv => whnf); first | refine aC (fun _ => ?_) (fun _ => ?_) | refine aS ?_ | refine aG ?_ | refine aD ?_ | refine aH ?_ | refine aP_R4 ?_ | refine aI ?_ | refine aJ ?_ | fail); all_goals try (conv => whnf)
  refine CallOb.mk [] (Least_ok vs P Q hb) rfl (ImpL.refl _) rfl rfl ?_
  rintro _ _ ⟨⟨ws, p1, q1⟩, hL, rfl, rfl⟩
  simp only at hL
  (repeat' (conv => whnf); first | refine aC (fun _ => ?_) (fun _ => ?_) | refine aS ?_ | refine aG ?_ | refine aD ?_ | refine aH ?_ | refine aP_R4 ?_ | refine aI ?_ | refine aJ ?_ | fail); all_goals try (conv => whnf)
  refine aK [] (Valid_ok ws p1 q1) ?_
  (repeat' (conv => whnf); first | refine aC (fun _ => ?_) (fun _ => ?_) | refine aS ?_ | refine aG ?_ | refine aD ?_ | refine aH ?_ | refine aP_R4 ?_ | refine aI ?_ | refine aJ ?_ | fail); all_goals try (conv => whnf)
  · have hv : ¬ValidP ws p1 q1 := by assumption
    exact ⟨([], 0, 0, 3), ⟨ws, p1, q1, hL, .inr ⟨hv, rfl, rfl, rfl, rfl⟩⟩, rfl, Imp.tup ⟨imp_zero, Imp.refl _, trivial⟩⟩
  · have hv : ValidP ws p1 q1 := Classical.not_not.1 (by assumption)
    exact ⟨(ws, p1, q1, 0), ⟨ws, p1, q1, hL, .inl ⟨hv, rfl, rfl, rfl, rfl⟩⟩, rfl, Imp.refl _⟩
theorem Normal_ok (vs : List Int) (p q : Int) :
    Ctr Tryz.prog 77 [crv vs p q] [] (fun r o => ∃ x : List Int × Int × Int × Int, NormP vs p q x.1 x.2.1 x.2.2.1 x.2.2.2 ∧ o = [] ∧ r = crvE x) := by
  refine Ctr.impE ?_
  refine fn_intro (E := env 0) tys_ok rfl rfl rfl Tryz.func77 (by kernel_rfl) rfl (by kernel_rfl) ?_
  (repeat' (conv => whnf); first | refine aC (fun _ => ?_) (fun _ => ?_) | refine aS ?_ | refine aG ?_ | refine aD ?_ | refine aH ?_ | refine aP_R4 ?_ | refine aI ?_ | refine aJ ?_ | fail); all_goals try (conv => whnf)
  refine aK [] (Valid_ok vs p q) ?_
  (repeat' (conv => whnf); first | refine aC (fun _ => ?_) (fun _ => ?_) | refine aS ?_ | refine aG ?_ | refine aD ?_ | refine aH ?_ | refine aP_R4 ?_ | refine aI ?_ | refine aJ ?_ | fail); all_goals try (conv => whnf)
  · have hv : ¬ValidP vs p q := by assumption
    exact ⟨([], 0, 0, 1), .inr ⟨hv, rfl, rfl, rfl, rfl⟩, rfl, Imp.tup ⟨imp_zero, Imp.refl _, trivial⟩⟩
  · have hv : ValidP vs p q := Classical.not_not.1 (by assumption)
    obtain ⟨p0, rfl, hf⟩ := hv.vf
    refine CallOb.mk [] (Least_ok vs p0 q (bd_of hf)) rfl (ImpL.refl _) rfl rfl ?_
    rintro _ _ ⟨⟨ws, p1, q1⟩, hL, rfl, rfl⟩
    simp only at hL
    (repeat' (conv => whnf); first | refine aC (fun _ => ?_) (fun _ => ?_) | refine aS ?_ | refine aG ?_ | refine aD ?_ | refine aH ?_ | refine aP_R4 ?_ | refine aI ?_ | refine aJ ?_ | fail); all_goals try (conv => whnf)
    exact ⟨(ws, p1, q1, 0), .inl ⟨rfl, p0, p1, rfl, rfl, hf, hL.nf hf⟩, rfl, Imp.refl _⟩
theorem getD_ext {l l' : List Int} (hl : l.length = l'.length) (h : ∀ i < l.length, l.getD i 0 = l'.getD i 0) : l = l' := by
  apply List.ext_getElem hl
  intro i h1 h2
  have := h i h1
  rwa [List.getD_eq_getElem?_getD, List.getD_eq_getElem?_getD, List.getElem?_eq_getElem h1, List.getElem?_eq_getElem h2] at this
theorem Same_ok (vs ws : List Int) (p q p' q' : Int) (hv : vs.length ≤ 1000000) :
    Ctr Tryz.prog 17 [crv vs p q, crv ws p' q'] [] (fun r o => o = [] ∧ r = .bp (vs = ws ∧ p = p' ∧ q = q')) := by
  refine Ctr.imp ?_
  refine fn_intro (E := env 0) tys_ok rfl rfl rfl Tryz.func17 (by kernel_rfl) rfl (by kernel_rfl) ?_
  (repeat' (conv => whnf); first | refine aC (fun _ => ?_) (fun _ => ?_) | refine aS ?_ | refine aG ?_ | refine aD ?_ | refine aH ?_ | refine aP_R4 ?_ | refine aI ?_ | refine aJ ?_ | fail); all_goals try (conv => whnf)
  all_goals simp only [ints_len] at *
  · exact ⟨by trivial, Imp.bl ⟨fun h => (by cases h), fun h => by obtain ⟨rfl, _⟩ := h; omega⟩⟩
  · exact ⟨by trivial, Imp.bl ⟨fun h => (by cases h), fun h => by omega⟩⟩
  · exact ⟨by trivial, Imp.bl ⟨fun h => (by cases h), fun h => by omega⟩⟩
  have hl : vs.length = ws.length := by omega
  have hp : p = p' := by omega
  have hq : q = q' := by omega
  subst hp
  subst hq
  refine LoopOb.mk (Y := Nat) (st := fun j => ⟨[(2, .ptr 0 0), (3, .ptr 1 0), (5, i64 j)], [.box [.psl 1 (ints vs), i64 p, i64 q], .box [.psl 1 (ints ws), i64 p, i64 q]]⟩)
    (inv := fun j => j ≤ vs.length ∧ ∀ k < j, vs.getD k 0 = ws.getD k 0) (fun j => vs.length - j) 0 [0, 1] ⟨by omega, fun k h => by omega⟩ (by (exact aL)) ?_
  rintro j ⟨h1, h2⟩
  (repeat' (conv => whnf); first | refine aC (fun _ => ?_) (fun _ => ?_) | refine aS ?_ | refine aG ?_ | refine aD ?_ | refine aH ?_ | refine aP_R4 ?_ | refine aI ?_ | refine aJ ?_ | refine aW (.qs [0, 1, 2, 3, 4, 5, 6, 7, 8, 9, 10] .nil) ?_ | fail); all_goals try (conv => whnf)
  all_goals try simp only [ints_len] at *
  · have hne : ¬vs.getD j 0 = ws.getD j 0 := by assumption
    exact ⟨by trivial, Imp.bl ⟨fun h => (by cases h), fun h => by obtain ⟨rfl, _⟩ := h; exact absurd rfl hne⟩⟩
  · have he : vs.getD j 0 = ws.getD j 0 := Classical.not_not.1 (by assumption)
    refine ⟨j + 1, [0, 1], ⟨by omega, fun k hk => ?_⟩, by omega, by (exact aL)⟩
    by_cases hkj : k = j
    · subst hkj; exact he
    · exact h2 k (by omega)
  · exact ⟨by trivial, Imp.bl ⟨fun _ => ⟨getD_ext hl (fun i hi => h2 i (by omega)), by trivial⟩, fun _ => rfl⟩⟩
end Go.Proofs.YtgbmiacpjmchdaaGreat
end
section
--APPX Go.Cv.vals_len
namespace Go.Proofs.YtgbmiacpjmchdaaGreat
open Go.Sx Go.Cv
set_option maxRecDepth 4000
def FinP (vs : List Int) : Prop := vs.getD (vs.length - 1) 0 ≠ INF
theorem aP_R5 {A B K : Prop} (k : K) (a : A := by (simp only [zA, zT, zD, zC, zN, ints_len, zR, Go.Cv.vals_len]; omega)) (b : B := by (simp only [zA, zT, zD, zC, zN, ints_len, zR, Go.Cv.vals_len]; omega)) : (A ∧ B) ∧ K := ⟨⟨a, b⟩, k⟩
theorem Start_ok (vs : List Int) (p : Nat) (q : Int) (h1 : p ≤ vs.length) (h2 : vs.length ≤ 1000000) : Ctr Tryz.prog 76 [crv vs p q] [] (fun r o => o = [] ∧ r = i64 (vs.length - p : Nat)) := by
  refine fn_intro (E := env 0) tys_ok rfl rfl rfl Tryz.func76 (by kernel_rfl) rfl (by kernel_rfl) ?_
  (repeat' (conv => whnf); first | refine aC (fun _ => ?_) (fun _ => ?_) | refine aS ?_ | refine aG ?_ | refine aD ?_ | refine aH ?_ | refine aP_R5 ?_ | refine aI ?_ | refine aJ ?_ | fail); all_goals try (conv => whnf)
  exact ⟨rfl, by simp only [oneS, ints_len]; rw [show ((vs.length : Int) - p) = (vs.length - p : Nat) by omega]⟩
def plus (a b : Int) : Int := if a = INF ∨ b = INF then INF else a + b
theorem plus_ok (a b : Int) (ha : 0 ≤ a) (hb : 0 ≤ b) (ha2 : a ≤ 6000000000000000000) (hb2 : b ≤ 6000000000000000000) (hab : a ≠ INF → b ≠ INF → a + b ≤ 9000000000000000000) : Ctr Tryz.prog 85 [i64 a, i64 b] [] (fun r o => o = [] ∧ r = i64 (plus a b)) := by
  refine fn_intro (E := env 0) tys_ok rfl rfl rfl Tryz.func85 (by kernel_rfl) rfl (by kernel_rfl) ?_
  (repeat' (conv => whnf); first | refine aC (fun _ => ?_) (fun _ => ?_) | refine aS ?_ | refine aG ?_ | refine aD ?_ | refine aH ?_ | refine aP_R5 ?_ | refine aI ?_ | refine aJ ?_ | fail); all_goals try (conv => whnf)
  · have h : a = INF := by assumption
    exact ⟨rfl, by simp only [oneS, plus]; rw [if_pos (.inl h)]⟩
  · have h : b = INF := by assumption
    exact ⟨rfl, by simp only [oneS, plus]; rw [if_pos (.inr h)]⟩
  · have h1 : ¬a = INF := by assumption
    have h2 : ¬b = INF := by assumption
    have := hab h1 h2
    refine ArOb.fits (by omega) ?_
    (repeat' (conv => whnf); first | refine aC (fun _ => ?_) (fun _ => ?_) | refine aS ?_ | refine aG ?_ | refine aD ?_ | refine aH ?_ | refine aP_R5 ?_ | refine aI ?_ | refine aJ ?_ | fail); all_goals try (conv => whnf)
    exact ⟨rfl, by simp only [oneS, plus]; rw [if_neg (by rintro (h | h); exact h1 h; exact h2 h)]⟩
end Go.Proofs.YtgbmiacpjmchdaaGreat
end
