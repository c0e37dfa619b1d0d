/-
  A text of the proofs of this seat: lemmas that the statements' proofs use; it states nothing of the program by itself beyond the contracts that its theorems bear. Conditions: those that stand in each theorem. Its short name: R9.
-/
import Derived.Test.YtabbnnfobjifiaaR8
import Derived.Test.YtabbnnfobjifiaaPl
set_option linter.unusedVariables false
set_option linter.unusedSimpArgs false
namespace Go.Proofs.Ytabbnnfobjifiaa
open Go.Sx Go.Cv
set_option maxRecDepth 4000
set_option maxHeartbeats 2000000
theorem vc_bd {a : C3} (h : VC a) {t : Nat} (ht : t ≤ 1048576) : 0 ≤ cv a t ∧ cv a t ≤ 6000000000000000000 := val_bd (bd_of h) ht
theorem rAt_ok (a : C3) (t : Nat) (ha : VC a) (ht : t ≤ 1048576) : Ctr Try.prog 40 [crv a.1 a.2.1 a.2.2, i64 t] [] (fun r o => o = [] ∧ r = i64 (cv a t)) :=
  (At_ok a.1 a.2.1 a.2.2 t (bd_of ha) (by omega) (by omega)).mono (fun r o ⟨h1, h2⟩ => ⟨h1, by rw [h2]; simp [cv]⟩)
theorem com_le {f g : C3} (hf : VC f) (hg : VC g) : com f g ≤ 14400 := by
  have h1 := hf.p2
  have h2 := hg.p2
  have h3 : com f g ≤ f.2.1 * g.2.1 := Nat.le_of_dvd (Nat.mul_pos hf.p1 hg.p1) (Nat.lcm_dvd_mul _ _)
  have h4 : f.2.1 * g.2.1 ≤ 120 * 120 := Nat.mul_le_mul h1 h2
  omega
theorem RVal_ok (a : C3) (ha : VC a) : Ctr Try.prog 69 [crv a.1 a.2.1 a.2.2] [] (fun r o => o = [] ∧ r = .bl true) :=
  Ctr.imp ((Valid_ok a.1 a.2.1 a.2.2).mono (fun r o ⟨h1, h2⟩ => ⟨h1, by rw [h2]; exact Imp.bpl ⟨fun _ => rfl, fun _ => ha.valid⟩⟩))
theorem cv_bd2 {a : C3} (ha : VC a) {t : Nat} (ht : t ≤ 15000) (hi : ¬infAt a.1 t) : 0 ≤ cv a t ∧ cv a t ≤ 17000000000000 := by
  refine ⟨cv_nonneg ha t, ?_⟩
  have n1 := ha.n1
  by_cases hf : FinC a
  · have h1 := ha.val_le hf t
    have h2 : ((t + 1 : Nat) : Int) * a.2.2 ≤ 15001 * 1073741824 := Int.mul_le_mul (by omega) ha.q1 ha.q0 (by omega)
    unfold cv; omega
  · have hlt : t < a.1.length - 1 := by
      rcases Nat.lt_or_ge t (a.1.length - 1) with h | h
      · exact h
      · exact absurd (inf_late hf h) hi
    unfold cv
    rw [val_lt (by omega)]
    have h1 := ha.v t (by omega)
    unfold infAt at hi
    rw [Nat.min_eq_left (by omega)] at hi
    simp only [INF] at *
    omega
theorem abv_bd {f g : C3} (hf : VC f) (hg : VC g) {t : Nat} (ht : t ≤ 15000) : -17000000000000 ≤ abv f g t ∧ abv f g t ≤ 17000000000000 := by
  unfold abv
  by_cases h : infAt g.1 t
  · rw [if_pos h]; omega
  · rw [if_neg h]
    by_cases h' : infAt f.1 t
    · rw [if_pos h']; omega
    · rw [if_neg h']
      have := cv_bd2 hf ht h'
      have := cv_bd2 hg ht h
      omega
def ExcP (f g : C3) (x : Int × Prop) : Prop := x.2 ↔ ¬AtMostP f g
end Go.Proofs.Ytabbnnfobjifiaa
