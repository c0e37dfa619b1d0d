/-
  A text of the proofs of this seat: lemmas that the statements' proofs use; it states nothing of the program by itself beyond the contracts that its theorems bear. Conditions: those that stand in each theorem. Its short name: R2.
-/
import Derived.Test.YtifcdempdcolkabR1
set_option linter.unusedVariables false
set_option linter.unusedSimpArgs false
namespace Go.Proofs.Ytifcdempdcolkab
open Go.Sx Go.Cv
set_option maxRecDepth 4000
theorem val_bd {vs : List Int} {p : Nat} {q : Int} (hb : Bd vs p q) {t : Nat} (ht : t ≤ 1048576) : 0 ≤ val vs p q t ∧ val vs p q t ≤ 6000000000000000000 := by
  obtain ⟨p1, pn, hn, q0, q1, hv⟩ := hb
  by_cases h : t < vs.length
  · rw [val_lt h]; have := hv t; omega
  · simp only [val]
    rw [if_neg h]
    have hd : (t - vs.length) / p ≤ t - vs.length := Nat.div_le_self _ _
    generalize (t - vs.length) / p = k at *
    have hkq := mul_bd (a := ((k + 1 : Nat) : Int)) (b := q) (A := 1048577) (B := 1099511627776) (by omega) (by omega) (by omega) (by omega)
    have hv1 := hv (t - (k + 1) * p)
    split <;> omega
theorem aP_R2 {A B K : Prop} (k : K) (a : A := by (simp only [zA, zT, zD, zC, zN, ints_len, zR, Go.Cv.vals_len]; omega)) (b : B := by (simp only [zA, zT, zD, zC, zN, ints_len, zR, Go.Cv.vals_len]; omega)) : (A ∧ B) ∧ K := ⟨⟨a, b⟩, k⟩
theorem periodic_ok (vs : List Int) (P : Nat) (Q : Int) (s p : Nat) (hb : Bd vs P Q) (hp : 1 ≤ p) (hpP : p ≤ P) (hs : s ≤ 10000) :
    Ctr Try.prog 56 [crv vs P Q, i64 s, i64 p] [] (fun r o => o = [] ∧ r = .bp (Fits (val vs P Q) s P Q p)) := by
  refine Ctr.imp ?_
  have p1 := hb.p1
  have pn := hb.pn
  have hn := hb.n
  have q0 := hb.q0
  have q1 := hb.q1
  have hQp := mul_bd (a := Q) (b := (p : Int)) (A := 1099511627776) (B := 2000) (by omega) (by omega) (by omega) (by omega)
  have hd := tdiv_bd (a := Q * p) (b := (P : Int)) (by omega) (by omega)
  have hm := tmod_bd (a := Q * p) (b := (P : Int)) (by omega) (by omega)
  have hm2 : (P : Int).tmod p = ((P % p : Nat) : Int) := by rw [Int.tmod_eq_emod_of_nonneg (by omega)]; rfl
  refine fn_intro (E := env 0) tys_ok rfl rfl rfl Try.func56 (by kernel_rfl) rfl (by kernel_rfl) ?_
  (repeat' (conv => whnf); first | refine aC (fun _ => ?_) (fun _ => ?_) | refine aS ?_ | refine aG ?_ | refine aD ?_ | refine aH ?_ | refine aP_R2 ?_ | refine aI ?_ | refine aJ ?_ | fail); all_goals try (conv => whnf)
  refine ⟨by omega, ?_⟩
  rw [hm2]
  (repeat' (conv => whnf); first | refine aC (fun _ => ?_) (fun _ => ?_) | refine aS ?_ | refine aG ?_ | refine aD ?_ | refine aH ?_ | refine aP_R2 ?_ | refine aI ?_ | refine aJ ?_ | fail); all_goals try (conv => whnf)
  · exact ⟨rfl, Imp.bl ⟨fun h => (by cases h), fun h => by have := h.1; omega⟩⟩
  refine ⟨by omega, ?_⟩
  rw [hm.1]
  (repeat' (conv => whnf); first | refine aC (fun _ => ?_) (fun _ => ?_) | refine aS ?_ | refine aG ?_ | refine aD ?_ | refine aH ?_ | refine aP_R2 ?_ | refine aI ?_ | refine aJ ?_ | fail); all_goals try (conv => whnf)
  · exact ⟨rfl, Imp.bl ⟨fun h => (by cases h), fun h => by have := h.2.1; omega⟩⟩
  refine LoopOb.mk (Y := Nat) (st := fun j => ⟨[(1, i64 s), (2, i64 p), (3, .ptr 0 0), (7, i64 j)], [.box [.psl 1 (ints vs), i64 P, i64 Q]]⟩)
    (inv := fun j => s ≤ j ∧ j ≤ s + P ∧ ∀ t, s ≤ t → t < j → val vs P Q (t + p) = val vs P Q t + Q * p / P) (fun j => s + P - j) s [0] ⟨by omega, by omega, fun t h1 h2 => by omega⟩ (by (exact aL)) ?_
  rintro j ⟨h1, h2, h3⟩
  (repeat' (conv => whnf); first | refine aC (fun _ => ?_) (fun _ => ?_) | refine aS ?_ | refine aG ?_ | refine aD ?_ | refine aH ?_ | refine aP_R2 ?_ | refine aI ?_ | refine aJ ?_ | refine aW (.qs [0, 1, 2, 3, 5, 6, 8, 9, 10, 11, 12, 13, 14] (.l 4 [13, 9, 5] (.l 7 [13, 9] (.qs [15, 16] .nil) .no) .no)) ?_ | fail); all_goals try (conv => whnf)
  · refine ⟨by omega, ?_⟩
    rw [hd.1]
    (repeat' (conv => whnf); first | refine aC (fun _ => ?_) (fun _ => ?_) | refine aS ?_ | refine aG ?_ | refine aD ?_ | refine aH ?_ | refine aP_R2 ?_ | refine aI ?_ | refine aJ ?_ | fail); all_goals try (conv => whnf)
    refine CallOb.mk [] (At_ok _ _ _ _ hb (by omega) (by omega)) rfl (ImpL.refl _) rfl rfl ?_
    rintro _ _ ⟨rfl, rfl⟩
    (repeat' (conv => whnf); first | refine aC (fun _ => ?_) (fun _ => ?_) | refine aS ?_ | refine aG ?_ | refine aD ?_ | refine aH ?_ | refine aP_R2 ?_ | refine aI ?_ | refine aJ ?_ | fail); all_goals try (conv => whnf)
    refine CallOb.mk [] (At_ok _ _ _ _ hb (by omega) (by omega)) rfl (ImpL.refl _) rfl rfl ?_
    rintro _ _ ⟨rfl, rfl⟩
    rw [show ((j : Int) + p).toNat = j + p by omega]
    simp only [Int.toNat_natCast]
    have b1 := val_bd hb (t := j) (by omega)
    have b2 := val_bd hb (t := j + p) (by omega)
    (repeat' (conv => whnf); first | refine aC (fun _ => ?_) (fun _ => ?_) | refine aS ?_ | refine aG ?_ | refine aD ?_ | refine aH ?_ | refine aP_R2 ?_ | refine aI ?_ | refine aJ ?_ | fail); all_goals try (conv => whnf)
    · exact ⟨rfl, Imp.bl ⟨fun h => (by cases h), fun h => absurd (h.2.2 j h1 (by omega)) (by assumption)⟩⟩
    · refine ⟨j + 1, [0], ⟨by omega, by omega, fun t ht1 ht2 => ?_⟩, by omega, by (exact aL)⟩
      by_cases htj : t = j
      · subst htj
        exact Classical.not_not.1 (by assumption)
      · exact h3 t ht1 (by omega)
  · exact ⟨rfl, Imp.bl ⟨fun _ => ⟨by omega, by omega, fun t ht1 ht2 => h3 t ht1 (by omega)⟩, fun _ => rfl⟩⟩
end Go.Proofs.Ytifcdempdcolkab
