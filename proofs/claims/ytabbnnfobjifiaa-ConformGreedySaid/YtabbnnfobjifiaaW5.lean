/-
  A text of the proofs of this seat: lemmas that the statements' proofs use; it states nothing of the program by itself beyond the contracts that its theorems bear. Conditions: those that stand in each theorem. Its short name: W5.
-/
import Derived.Test.YtabbnnfobjifiaaW4
set_option linter.unusedVariables false
set_option linter.unusedSimpArgs false
namespace Go.Proofs.Ytabbnnfobjifiaa
open Go.Sx Go.Cv
set_option maxRecDepth 4000
set_option maxHeartbeats 2000000
theorem drf_le {a b : C3} (ha : VC a) (hb : VC b) (hc : com a b ≤ 120) : drf a b ≤ 1099511627776 := by
  have d1 : com a b / a.2.1 ≤ com a b := Nat.div_le_self _ _
  have d2 : com a b / b.2.1 ≤ com a b := Nat.div_le_self _ _
  have m1 := mul_bd (a := a.2.2) (b := ((com a b / a.2.1 : Nat) : Int)) (A := 1073741824) (B := 120) ha.q0 ha.q1 (Int.natCast_nonneg _) (by omega)
  have m2 := mul_bd (a := b.2.2) (b := ((com a b / b.2.1 : Nat) : Int)) (A := 1073741824) (B := 120) hb.q0 hb.q1 (Int.natCast_nonneg _) (by omega)
  unfold drf
  omega
def RestP (vs : List Int) (p q : Int) (ws : List Int) (p' q' : Int) (x : List Int × Int × Int × Int) : Prop :=
  (∃ e, PrepE vs p q ws p' q' e ∧ x = ([], 0, 0, e)) ∨ (∃ a b, Prep vs p q ws p' q' a b ∧ com a b ≤ 120 ∧ MkP (rmx (dif a b)) x)
end Go.Proofs.Ytabbnnfobjifiaa
