/-
  A text of the proofs of this seat: lemmas that the statements' proofs use; it states nothing of the program by itself beyond the contracts that its theorems bear. Conditions: those that stand in each theorem. Its short name: Va.
-/
import Derived.Test.YtifcdempdcolkabR1
set_option linter.unusedVariables false
set_option linter.unusedSimpArgs false
namespace Go.Proofs.Ytifcdempdcolkab
open Go.Sx Go.Cv
set_option maxRecDepth 4000
theorem aP_Va {A B K : Prop} (k : K) (a : A := by (simp only [zA, zT, zD, zC, zN, ints_len, zR, Go.Cv.vals_len]; omega)) (b : B := by (simp only [zA, zT, zD, zC, zN, ints_len, zR, Go.Cv.vals_len]; omega)) : (A ∧ B) ∧ K := ⟨⟨a, b⟩, k⟩
theorem Valid_ok (vs : List Int) (p i : Int) :
    Ctr Try.prog 5 [crv vs p i] [] (fun r o => o = [] ∧ r = .bp (ValidP vs p i)) := by
  refine Ctr.imp ?_
  refine fn_intro (E := env 0) tys_ok rfl rfl rfl Try.func5 (by kernel_rfl) rfl (by kernel_rfl) ?_
  (repeat' (conv => whnf); first | refine aC (fun _ => ?_) (fun _ => ?_) | refine aS ?_ | refine aG ?_ | refine aD ?_ | refine aH ?_ | refine aP_Va ?_ | refine aI ?_ | refine aJ ?_ | refine aW (.qs [0, 1, 2, 3, 4, 5, 6, 7, 8, 9, 10, 11, 12, 13, 14, 15, 16, 17, 18, 19, 20, 21, 22, 23, 24, 25, 26, 27, 28, 29, 30, 31, 32, 33, 34, 35, 36, 37, 38, 39] .nil) ?_ | refine aW (.qs [0, 1, 2, 3, 4, 5, 6, 7, 8, 9, 10, 11, 12, 13, 14, 15, 16, 17, 18] .nil) ?_ | fail); all_goals try (conv => whnf)
  all_goals try (refine And.intro rfl (Imp.bl ⟨fun h => (by cases h), fun h => ?_⟩); simp only [ints_len] at *; simp only [ValidP] at h; omega)
  rename_i h1 h2 h3 h4 h5 h6 h7
  simp only [ints_len] at h1 h2 h3 h4 h5 h6 h7
  refine LoopOb.mk (Y := Nat) (st := fun j => ⟨[(1, .ptr 0 0), (3, .num .i64 vs.length), (4, .num .i64 j)], [.box [.psl 1 (ints vs), .num .i64 p, .num .i64 i]]⟩)
    (inv := fun j => j ≤ vs.length ∧ (∀ k < j, vs.getD k 0 = 4611686018427387904 ∨ 0 ≤ vs.getD k 0 ∧ vs.getD k 0 ≤ 1073741824) ∧ (∀ k, k + 1 < j → vs.getD k 0 ≤ vs.getD (k + 1) 0)) (fun j => vs.length - j) 0 [0] ?_ ?_ ?_
  · simp
  · (exact aL)
  · rintro j ⟨hj, hv, hm⟩
    (repeat' (conv => whnf); first | refine aC (fun _ => ?_) (fun _ => ?_) | refine aS ?_ | refine aG ?_ | refine aD ?_ | refine aH ?_ | refine aP_Va ?_ | refine aI ?_ | refine aJ ?_ | refine aW (.qs [0, 1, 2, 3, 4, 5, 6, 7, 8, 9, 10, 11, 12, 13, 14, 15, 16, 17, 18, 19, 20, 21, 22, 23, 24, 25, 26, 27, 28, 29, 30, 31, 32, 33, 34, 35, 36, 37, 38, 39] .nil) ?_ | refine aW (.qs [0, 1, 2, 3, 4, 5, 6, 7, 8, 9, 10, 11, 12, 13, 14, 15, 16, 17, 18] .nil) ?_ | fail); all_goals try (conv => whnf)
    all_goals try rw [show (↑j - 1 : Int).toNat = j - 1 by omega] at *
    all_goals try (
      refine And.intro rfl (Imp.bl ⟨fun h => (by cases h), fun h => ?_⟩)
      obtain ⟨_, _, _, _, _, _, _, q1, q2, q3, _⟩ := h
      have q1 := q1 j
      have q2 := q2 (j - 1)
      try rw [show j - 1 + 1 = j by omega] at q2
      try rw [show (vs.length - 1 : Int).toNat = vs.length - 1 by omega] at *
      omega)
    all_goals try (
      refine ⟨j + 1, [0], ⟨by omega, fun k hk => ?_, fun k hk => ?_⟩, by omega, ?_⟩
      · by_cases hkj : k = j
        · subst hkj; omega
        · exact hv k (by omega)
      · by_cases hkj : k + 1 = j
        · subst hkj; first | omega | (simp only [Nat.add_sub_cancel] at *; omega)
        · exact hm k (by omega)
      · (exact aL))
    all_goals have hjl : j = vs.length := by omega
    all_goals subst hjl
    all_goals rw [show (vs.length - 1 : Int).toNat = vs.length - 1 by omega] at *
    · have hx2 : vs.getD (vs.length - 1) 0 = 4611686018427387904 := by assumption
      have hp : p = 1 := by assumption
      exact ⟨rfl, Imp.bp ⟨fun h => ⟨by omega, by omega, by omega, by omega, by omega, by omega, by omega, hv, hm, fun _ => ⟨hp, h⟩, fun h' => absurd hx2 h'⟩, fun h => by obtain ⟨_, _, _, _, _, _, _, _, _, q3, _⟩ := h; exact (q3 hx2).2⟩⟩
    · have hx2 : ¬vs.getD (vs.length - 1) 0 = 4611686018427387904 := by assumption
      have hq := hv (vs.length - p).toNat (by omega)
      refine ArOb.fits (by omega) ?_
      (repeat' (conv => whnf); first | refine aC (fun _ => ?_) (fun _ => ?_) | refine aS ?_ | refine aG ?_ | refine aD ?_ | refine aH ?_ | refine aP_Va ?_ | refine aI ?_ | refine aJ ?_ | refine aW (.qs [0, 1, 2, 3, 4, 5, 6, 7, 8, 9, 10, 11, 12, 13, 14, 15, 16, 17, 18, 19, 20, 21, 22, 23, 24, 25, 26, 27, 28, 29, 30, 31, 32, 33, 34, 35, 36, 37, 38, 39] .nil) ?_ | refine aW (.qs [0, 1, 2, 3, 4, 5, 6, 7, 8, 9, 10, 11, 12, 13, 14, 15, 16, 17, 18] .nil) ?_ | fail); all_goals try (conv => whnf)
      rw [show (vs.length - 1 : Int).toNat = vs.length - 1 by omega] at *
      rw [show (vs.length - p : Int).toNat = vs.length - p.toNat by omega] at *
      exact ⟨rfl, Imp.bp ⟨fun h => ⟨by omega, by omega, by omega, by omega, by omega, by omega, by omega, hv, hm, fun h' => absurd h' hx2, fun _ => h⟩, fun h => by obtain ⟨_, _, _, _, _, _, _, _, _, _, q4⟩ := h; exact q4 hx2⟩⟩
end Go.Proofs.Ytifcdempdcolkab
