/-
  A text of the proofs of this seat: lemmas that the statements' proofs use; it states nothing of the program by itself beyond the contracts that its theorems bear. Conditions: those that stand in each theorem. Its short name: S1.
-/
import Derived.Test.YtbdahmfjeklgbaaP4
set_option linter.unusedVariables false
set_option linter.unusedSimpArgs false
namespace Go.Proofs.Ytbdahmfjeklgbaa
open Go.Sx Go.Fq
set_option maxRecDepth 4000
set_option maxHeartbeats 2000000
theorem lt_step' {P : Nat → Prop} {i : Nat} (h : ∀ j < i, P j) (hi : P i) : ∀ j < i + 1, P j := by
  intro j hj
  by_cases e : j = i
  · rw [e]; exact hi
  · exact h j (by omega)
theorem lcm_facts {s d : Int} (s1 : 1 ≤ s) (s2 : s < 2147483648) (d1 : 1 ≤ d) (d2 : d ≤ 1073741824) :
    ∃ a : Int, s.tdiv (Nat.gcd s.natAbs d.natAbs : Nat) = a ∧ 1 ≤ a ∧ a ≤ s ∧ s ∣ a * d ∧ 1 ≤ a * d ∧ a * d ≤ 2305843009213693952 ∧ ∀ t : Int, s ∣ t → d ∣ t → a * d ∣ t := by
  obtain ⟨n, rfl⟩ := Int.eq_ofNat_of_zero_le (show 0 ≤ s by omega)
  obtain ⟨m, rfl⟩ := Int.eq_ofNat_of_zero_le (show 0 ≤ d by omega)
  simp only [Int.natAbs_natCast]
  have hg : 0 < Nat.gcd n m := Nat.gcd_pos_of_pos_left _ (by omega)
  obtain ⟨a, ha⟩ := Nat.gcd_dvd_left n m
  obtain ⟨b, hb⟩ := Nat.gcd_dvd_right n m
  have e : n / Nat.gcd n m = a := by rw [Nat.div_eq_iff_eq_mul_right hg (Nat.gcd_dvd_left n m)]; exact ha
  have ha1 : 1 ≤ a := by
    rcases Nat.eq_zero_or_pos a with h | h
    · rw [h] at ha; omega
    · exact h
  have han : a ≤ n := by rw [← e]; exact Nat.div_le_self _ _
  have hm : a * m ≤ 2147483648 * 1073741824 := Nat.mul_le_mul (by omega) (by omega)
  have hm1 : 1 * 1 ≤ a * m := Nat.mul_le_mul ha1 (by omega)
  refine ⟨a, ?_, by omega, by omega, ?_, ?_, ?_, ?_⟩
  · rw [Int.tdiv_eq_ediv_of_nonneg (by omega)]
    exact congrArg Int.ofNat e
  · refine ⟨(b : Int), ?_⟩
    have : a * m = n * b := by
      conv => lhs; rw [hb]
      conv => rhs; rw [ha]
      rw [Nat.mul_comm (Nat.gcd n m) a, Nat.mul_assoc]
    exact_mod_cast this
  · exact_mod_cast hm1
  · have h' : ((a * m : Nat) : Int) ≤ 2305843009213693952 := by omega
    rw [Int.natCast_mul] at h'; exact h'
  · intro t h1 h2
    have h3 : Nat.lcm n m ∣ t.natAbs := Nat.lcm_dvd (Int.ofNat_dvd_left.1 h1) (Int.ofNat_dvd_left.1 h2)
    have h4 : Nat.lcm n m = a * m := by
      unfold Nat.lcm
      rw [Nat.div_eq_iff_eq_mul_right hg (Nat.dvd_trans (Nat.gcd_dvd_left n m) (Nat.dvd_mul_right n m))]
      conv => lhs; rw [ha]
      rw [Nat.mul_assoc]
    rw [h4] at h3
    have := Int.ofNat_dvd_left.2 h3
    rw [Int.natCast_mul] at this; exact this
/- what scale answers -/
def ScP (l : List F) (s : Int) : Prop := s = 0 ∨ (1 ≤ s ∧ s < 2147483648 ∧ (∀ f ∈ l, f.2 ∣ s) ∧ ((∀ f ∈ l, f.2 = 1) → s = 1))
theorem aP_S1 {A B K : Prop} (k : K) (a : A := by (simp only [zA, zT, zD, zC, zN, ints_len, zR, fr_len, rw_len]; omega)) (b : B := by (simp only [zA, zT, zD, zC, zN, ints_len, zR, fr_len, rw_len]; omega)) : (A ∧ B) ∧ K := ⟨⟨a, b⟩, k⟩
theorem scale_ok (l : List F) (hl : l.length ≤ 9223372036854775807) (hv : ∀ f ∈ l, VF f) : Ctr Try.prog 44 [fsl l] [] (fun r o => ∃ s, ScP l s ∧ o = [] ∧ r = i64 s) := by
  refine Ctr.impE ?_
  refine fn_intro (E := env 0) tys_ok rfl rfl rfl Try.func44 (by kernel_rfl) rfl (by kernel_rfl) ?_
  have hll := fr_len l
  (repeat' (conv => whnf); first | refine aC (fun _ => ?_) (fun _ => ?_) | refine aS ?_ | refine aG ?_ | refine aD ?_ | refine aH ?_ | refine aP_S1 ?_ | refine aI ?_ | refine aJ ?_ | refine aW (.qs [0, 1, 2, 3, 4, 5, 6, 9, 10, 11, 12, 13] (.l 7 [13] (.qs [8, 14, 15] .nil) .no)) ?_ | fail); all_goals try (conv => whnf)
  refine LoopOb.mk (Y := Nat × Int) (st := fun y => ⟨[(4, i64 y.1), (3, i64 y.2), (2, i64 0), (0, fsl l)], []⟩)
    (inv := fun y => y.1 ≤ l.length ∧ 1 ≤ y.2 ∧ y.2 < 2147483648 ∧ (∀ j < y.1, (l.getD j (0, 1)).2 ∣ y.2) ∧ ((∀ j < y.1, (l.getD j (0, 1)).2 = 1) → y.2 ∣ 1)) (fun y => l.length - y.1) (0, 1) [] ⟨by simp, by simp only; omega, by simp only; omega, by simp, fun _ => Int.dvd_refl _⟩ (by (exact aL)) ?_
  rintro ⟨i, s⟩ ⟨hi, s1, s2, hd, hu⟩
  dsimp only at hi s1 s2 hd hu ⊢
  (repeat' (conv => whnf); first | refine aS ?_ | refine aG ?_ | refine aD ?_ | refine aH ?_ | refine aP_S1 ?_ | refine aI ?_ | refine aJ ?_ | refine aW (.qs [0, 1, 2, 3, 4, 5, 6, 9, 10, 11, 12, 13] (.l 7 [13] (.qs [8, 14, 15] .nil) .no)) ?_ | fail); all_goals try (conv => whnf)
  refine CondOb.mk (fun hlt => ?_) (fun hlt => ?_)
  · have hvi := all_at hv (i := i) (by omega)
    obtain ⟨v1, v2, _⟩ := hvi
    have hgt := fr_get (l := l) (i := i) (by omega)
    have hun : ∀ s' : Int, (s ∣ 1 → (l.getD i (0, 1)).2 = 1 → s' ∣ 1) → (∀ j < i + 1, (l.getD j (0, 1)).2 = 1) → s' ∣ 1 := fun s' h k => h (hu fun j hj => k j (by omega)) (k i (by omega))
    have hst : ∀ s', (∀ j < i, (l.getD j (0, 1)).2 ∣ s') → (l.getD i (0, 1)).2 ∣ s' → ∀ j < i + 1, (l.getD j (0, 1)).2 ∣ s' := fun s' h h' => lt_step' h h'
    generalize l.getD i (0, 1) = f at *
    have hg := rGcd_ok s f.2 (by omega) (by omega)
    (repeat' (conv => whnf); first | refine aC (fun _ => ?_) (fun _ => ?_) | refine aS ?_ | refine aG ?_ | refine aD ?_ | refine aH ?_ | refine aP_S1 ?_ | refine aI ?_ | refine aJ ?_ | refine aW (.qs [0, 1, 2, 3, 4, 5, 6, 9, 10, 11, 12, 13] (.l 7 [13] (.qs [8, 14, 15] .nil) .no)) ?_ | refine ⟨i, _, rfl, hgt, ?_⟩ | (refine aK [] hg ?_) | fail); all_goals try (conv => whnf)
    obtain ⟨a, e1, a1, a2, a3, a4, a5, a6⟩ := lcm_facts s1 s2 v1 v2
    refine ⟨by have := Nat.gcd_pos_of_pos_left f.2.natAbs (show 0 < s.natAbs by omega); omega, ?_⟩
    rw [e1]
    (repeat' (conv => whnf); first | (refine aC (fun _ => ?_) (fun _ => ?_) <;> try (exfalso; omega)) | refine aS ?_ | refine aG ?_ | refine aD ?_ | refine aH ?_ | refine aP_S1 ?_ | refine aI ?_ | refine aJ ?_ | refine aW (.qs [0, 1, 2, 3, 4, 5, 6, 9, 10, 11, 12, 13] (.l 7 [13] (.qs [8, 14, 15] .nil) .no)) ?_ | fail); all_goals try (conv => whnf)
    · exact ⟨0, .inl rfl, rfl, Imp.refl _⟩
    · exact ⟨(i + 1, a * f.2), [], ⟨by simp only; omega, a4, by simp only; omega, hst _ (fun j hj => Int.dvd_trans (hd j hj) a3) ⟨a, Int.mul_comm _ _⟩, hun _ fun h1 h2 => a6 1 h1 (by rw [h2]; exact Int.dvd_refl _)⟩, by simp only; omega, by (exact aL)⟩
  · (repeat' (conv => whnf); first | refine aC (fun _ => ?_) (fun _ => ?_) | refine aS ?_ | refine aG ?_ | refine aD ?_ | refine aH ?_ | refine aP_S1 ?_ | refine aI ?_ | refine aJ ?_ | refine aW (.qs [0, 1, 2, 3, 4, 5, 6, 9, 10, 11, 12, 13] (.l 7 [13] (.qs [8, 14, 15] .nil) .no)) ?_ | fail); all_goals try (conv => whnf)
    exact ⟨s, .inr ⟨s1, s2, all_to (P := fun f => f.2 ∣ s) hd (by omega), fun h => by
      have := hu fun j hj => all_at (P := fun f => f.2 = 1) h (i := j) (by omega)
      have := Int.le_of_dvd (by decide) this
      omega⟩, rfl, Imp.refl _⟩
theorem far_bd {x n : Int} (n0 : 0 ≤ n) (hx : x ≠ 0) (h : n < 2147483648 / max x (0 - x)) : -2147483648 < x * n ∧ x * n < 2147483648 := by
  have hM : 1 ≤ max x (0 - x) := by omega
  have h1 : 2147483648 / max x (0 - x) * max x (0 - x) ≤ 2147483648 := Int.ediv_mul_le _ (by omega)
  have h2 : (n + 1) * max x (0 - x) ≤ 2147483648 / max x (0 - x) * max x (0 - x) := Int.mul_le_mul_of_nonneg_right (by omega) (by omega)
  rw [Int.add_mul, Int.one_mul] at h2
  rcases (show x < 0 ∨ 0 ≤ x by omega) with h3 | h3
  · have e : max x (0 - x) = -x := by omega
    rw [e] at h1 h2 hM
    have : n * -x = -(x * n) := by rw [Int.mul_neg, Int.mul_comm]
    have : 0 ≤ n * -x := Int.mul_nonneg n0 (by omega)
    omega
  · have e : max x (0 - x) = x := by omega
    rw [e] at h1 h2 hM
    have : n * x = x * n := Int.mul_comm _ _
    have : 0 ≤ n * x := Int.mul_nonneg n0 (by omega)
    omega
theorem times_ok (x y s : Int) (hv : VF (x, y)) (h1 : 1 ≤ s) (h2 : s < 2147483648) : Ctr Try.prog 45 [.agg [i64 x, i64 y], i64 s] [] (fun r o => ∃ z : Int × Bool, (z.2 = true → z.1 = x * (s / y) ∧ -2147483648 < z.1 ∧ z.1 < 2147483648) ∧ o = [] ∧ r = .tup [i64 z.1, .bl z.2]) := by
  refine Ctr.impE ?_
  refine fn_intro (E := env 0) tys_ok rfl rfl rfl Try.func45 (by kernel_rfl) rfl (by kernel_rfl) ?_
  obtain ⟨v1, v2, v3, v4, _⟩ := hv
  dsimp only at v1 v2 v3 v4
  (repeat' (conv => whnf); first | refine aC (fun _ => ?_) (fun _ => ?_) | refine aS ?_ | refine aG ?_ | refine aD ?_ | refine aH ?_ | refine aP_S1 ?_ | refine aI ?_ | refine aJ ?_ | fail); all_goals try (conv => whnf)
  have e : s.tdiv y = s / y := Int.tdiv_eq_ediv_of_nonneg (by omega)
  have n0 : 0 ≤ s / y := Int.ediv_nonneg (by omega) (by omega)
  have n1 : s / y ≤ s := Int.ediv_le_self _ (by omega)
  refine ⟨by omega, ?_⟩
  rw [e]
  generalize s / y = n at *
  (repeat' (conv => whnf); first | refine aC (fun _ => ?_) (fun _ => ?_) | refine aS ?_ | refine aG ?_ | refine aD ?_ | refine aH ?_ | refine aP_S1 ?_ | refine aI ?_ | refine aJ ?_ | fail); all_goals try (conv => whnf)
  · have hx0 : x ≠ 0 := by assumption
    have hM : 1 ≤ max x (0 - x) := by omega
    have e2 : Int.tdiv 2147483648 (max x (0 - x)) = 2147483648 / max x (0 - x) := Int.tdiv_eq_ediv_of_nonneg (by omega)
    have hq0 : 0 ≤ 2147483648 / max x (0 - x) := Int.ediv_nonneg (by omega) (by omega)
    have hq1 : 2147483648 / max x (0 - x) ≤ 2147483648 := Int.ediv_le_self _ (by omega)
    have hfb := far_bd (n := n) n0 hx0
    refine ⟨by omega, ?_⟩
    rw [e2]
    generalize 2147483648 / max x (0 - x) = q at *
    (repeat' (conv => whnf); first | refine aS ?_ | refine aG ?_ | refine aD ?_ | refine aH ?_ | refine aP_S1 ?_ | refine aI ?_ | refine aJ ?_ | fail); all_goals try (conv => whnf)
    refine CondOb.mk (fun hlt => ?_) (fun hlt => ?_)
    · (repeat' (conv => whnf); first | refine aC (fun _ => ?_) (fun _ => ?_) | refine aS ?_ | refine aG ?_ | refine aD ?_ | refine aH ?_ | refine aP_S1 ?_ | refine aI ?_ | refine aJ ?_ | fail); all_goals try (conv => whnf)
      exact ⟨(0, false), by simp, rfl, Imp.refl _⟩
    · have hf2 := hfb (by omega)
      (repeat' (conv => whnf); first | refine aC (fun _ => ?_) (fun _ => ?_) | refine aS ?_ | refine aG ?_ | refine aD ?_ | refine aH ?_ | refine aP_S1 ?_ | refine aI ?_ | refine aJ ?_ | fail); all_goals try (conv => whnf)
      exact ⟨(x * n, true), fun _ => ⟨rfl, hf2.1, hf2.2⟩, rfl, Imp.refl _⟩
  · have hx0 : x = 0 := by omega
    have hm : x * n = 0 := by rw [hx0, Int.zero_mul]
    refine ArOb.fits (by omega) ?_
    (repeat' (conv => whnf); first | refine aC (fun _ => ?_) (fun _ => ?_) | refine aS ?_ | refine aG ?_ | refine aD ?_ | refine aH ?_ | refine aP_S1 ?_ | refine aI ?_ | refine aJ ?_ | fail); all_goals try (conv => whnf)
    exact ⟨(x * n, true), fun _ => ⟨rfl, by simp only; omega, by simp only; omega⟩, rfl, Imp.refl _⟩
end Go.Proofs.Ytbdahmfjeklgbaa
