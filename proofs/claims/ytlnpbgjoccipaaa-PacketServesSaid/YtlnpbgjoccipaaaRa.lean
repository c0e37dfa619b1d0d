/-
  A text of the proofs of this seat: lemmas that the statements' proofs use; it states nothing of the program by itself beyond the contracts that its theorems bear. Conditions: those that stand in each theorem. Its short name: Ra.
-/
import Derived.Test.YtlnpbgjoccipaaaR8
import Derived.Test.YtlnpbgjoccipaaaPl
set_option linter.unusedVariables false
set_option linter.unusedSimpArgs false
namespace Go.Proofs.Ytlnpbgjoccipaaa
open Go.Sx Go.Cv
set_option maxRecDepth 4000
set_option maxHeartbeats 2000000
theorem vc_bd {a : C3} (h : VC a) {t : Nat} (ht : t ≤ 1048576) : 0 ≤ cv a t ∧ cv a t ≤ 6000000000000000000 := val_bd (bd_of h) ht
theorem rAt_ok (a : C3) (t : Nat) (ha : VC a) (ht : t ≤ 1048576) : Ctr Try.prog 32 [crv a.1 a.2.1 a.2.2, i64 t] [] (fun r o => o = [] ∧ r = i64 (cv a t)) :=
  (At_ok a.1 a.2.1 a.2.2 t (bd_of ha) (by omega) (by omega)).mono (fun r o ⟨h1, h2⟩ => ⟨h1, by rw [h2]; simp [cv]⟩)
theorem com_le {f g : C3} (hf : VC f) (hg : VC g) : com f g ≤ 14400 := by
  have h1 := hf.p2
  have h2 := hg.p2
  have h3 : com f g ≤ f.2.1 * g.2.1 := Nat.le_of_dvd (Nat.mul_pos hf.p1 hg.p1) (Nat.lcm_dvd_mul _ _)
  have h4 : f.2.1 * g.2.1 ≤ 120 * 120 := Nat.mul_le_mul h1 h2
  omega
end Go.Proofs.Ytlnpbgjoccipaaa
