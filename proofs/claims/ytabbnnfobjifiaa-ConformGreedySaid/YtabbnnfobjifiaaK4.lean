/-
  A text of the proofs of this seat: lemmas that the statements' proofs use; it states nothing of the program by itself beyond the contracts that its theorems bear. Conditions: those that stand in each theorem. Its short name: K4.
-/
import Derived.Test.YtabbnnfobjifiaaR10
import Derived.Test.YtabbnnfobjifiaaK3
import Derived.Test.YtabbnnfobjifiaaPl
set_option linter.unusedVariables false
set_option linter.unusedSimpArgs false
namespace Go.Proofs.Ytabbnnfobjifiaa
open Go.Sx Go.Cv
set_option maxRecDepth 4000
set_option maxHeartbeats 2000000
theorem ex_prepE {e : Int} (h : PrepE [0] 1 10 [0, 14, 14, 28] 2 14 e) : False := by
  rcases h with ⟨_, h | h⟩ | ⟨_, a, b, hP, hc⟩
  · exact h exF_v.valid
  · exact h exG_v.valid
  · obtain ⟨p0, e0, _, h1⟩ := hP.f
    obtain ⟨p1, e1, _, h2⟩ := hP.g
    have : p0 = 1 := by omega
    subst this
    have : p1 = 2 := by omega
    subst this
    obtain ⟨rfl, rfl⟩ := ex_prep (a := a) (b := b) h1 h2
    revert hc; decide
theorem ex_prepP {a b : C3} (hP : Prep [0] 1 10 [0, 14, 14, 28] 2 14 a b) : a = exF ∧ b = exH := by
  obtain ⟨p0, e0, _, h1⟩ := hP.f
  obtain ⟨p1, e1, _, h2⟩ := hP.g
  have : p0 = 1 := by omega
  subst this
  have : p1 = 2 := by omega
  subst this
  exact ex_prep h1 h2
end Go.Proofs.Ytabbnnfobjifiaa
