/-
  A text of the proofs of this seat: lemmas that the statements' proofs use; it states nothing of the program by itself beyond the contracts that its theorems bear. Conditions: those that stand in each theorem. Its short name: R7.
-/
import Derived.Test.YtabbnnfobjifiaaW6
set_option linter.unusedVariables false
set_option linter.unusedSimpArgs false
namespace Go.Proofs.Ytabbnnfobjifiaa
open Go.Sx Go.Cv
set_option maxRecDepth 4000
set_option maxHeartbeats 2000000
theorem pair_prep {vs p q ws p' q' A B l e} (h : PairP vs p q ws p' q' A B l e) :
    (PrepE vs p q ws p' q' e ∧ e ≠ 0) ∨ (e = 0 ∧ ∃ a b : C3, Prep vs p q ws p' q' a b ∧ com a b ≤ 120 ∧ A = (a.1, (a.2.1 : Int), a.2.2) ∧ B = (b.1, (b.2.1 : Int), b.2.2) ∧ l = com a b) := by
  obtain ⟨ea, eb, hA, hB, h⟩ := h
  obtain ⟨A1, A2, A3⟩ := A
  obtain ⟨B1, B2, B3⟩ := B
  rcases h with ⟨h1, rfl, rfl⟩ | ⟨rfl, rfl, h⟩
  · refine .inl ⟨.inl ⟨rfl, ?_⟩, by omega⟩
    rcases h1 with h1 | h1
    · exact .inl (normP_ne (x := (A1, A2, A3, ea)) hA h1).1
    · exact .inr (normP_ne (x := (B1, B2, B3, eb)) hB h1).1
  · obtain ⟨p0, pa, rfl, hpa, vf, nf, va⟩ := norm_ok hA
    obtain ⟨p0', pb, rfl, hpb, vg, ng, vb⟩ := norm_ok hB
    simp only at hpa hpb nf ng va vb h
    subst hpa
    subst hpb
    have hP : Prep vs p0 q ws p0' q' (A1, pa, A3) (B1, pb, B3) := ⟨⟨p0, rfl, vf, nf⟩, ⟨p0', rfl, vg, ng⟩, va, vb⟩
    simp only [Int.toNat_natCast] at h
    rcases h with ⟨h1, rfl, rfl⟩ | ⟨h1, rfl, rfl⟩
    · exact .inl ⟨.inr ⟨rfl, _, _, hP, by unfold com; simp only; omega⟩, by omega⟩
    · exact .inr ⟨rfl, _, _, hP, by unfold com; simp only; omega, rfl, rfl, rfl⟩
theorem bd_vals {F : Nat → Int} {N P : Nat} {Q : Int} (hF : ∀ t, t < N → 0 ≤ F t ∧ F t ≤ INF) (h1 : 1 ≤ P) (h2 : P ≤ N) (h3 : N ≤ 2000) (h4 : 0 ≤ Q) (h5 : Q ≤ 1099511627776) : Bd (vals F N) P Q :=
  ⟨h1, by rw [vals_len]; exact h2, by rw [vals_len]; exact h3, h4, h5, fun j => by
    by_cases hj : j < N
    · rw [vals_get hj]; exact hF j hj
    · rw [List.getD_eq_getElem?_getD, List.getElem?_eq_none (by rw [vals_len]; omega)]; simp⟩
theorem drf_ge {a b : C3} (ha : VC a) (hb : VC b) (hc : com a b ≤ 120) : -1099511627776 ≤ drf a b := by
  have d1 : com a b / a.2.1 ≤ com a b := Nat.div_le_self _ _
  have d2 : com a b / b.2.1 ≤ com a b := Nat.div_le_self _ _
  have m1 := mul_bd (a := a.2.2) (b := ((com a b / a.2.1 : Nat) : Int)) (A := 1073741824) (B := 120) ha.q0 ha.q1 (Int.natCast_nonneg _) (by omega)
  have m2 := mul_bd (a := b.2.2) (b := ((com a b / b.2.1 : Nat) : Int)) (A := 1073741824) (B := 120) hb.q0 hb.q1 (Int.natCast_nonneg _) (by omega)
  unfold drf
  omega
def bst (d : Nat → Int) : Nat → Int
  | 0 => 0
  | t + 1 => rmx d t
theorem bst_step (d : Nat → Int) (t : Nat) : max (bst d t) (max 0 (d t)) = bst d (t + 1) := by
  cases t with
  | zero => simp only [bst, rmx]; omega
  | succ t => simp only [bst]; rw [show rmx d (t + 1) = max (rmx d t) (d (t + 1)) from rfl]; have := rmx_nonneg d t; omega
end Go.Proofs.Ytabbnnfobjifiaa
