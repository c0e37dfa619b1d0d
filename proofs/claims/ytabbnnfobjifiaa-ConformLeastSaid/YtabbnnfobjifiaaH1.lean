/-
  A text of the proofs of this seat: lemmas that the statements' proofs use; it states nothing of the program by itself beyond the contracts that its theorems bear. Conditions: those that stand in each theorem. Its short name: H1.
-/
import Derived.Test.YtabbnnfobjifiaaW3
import Derived.Test.YtabbnnfobjifiaaW2b
import Derived.Test.YtabbnnfobjifiaaR5
import Derived.Test.YtabbnnfobjifiaaPl
set_option linter.unusedVariables false
set_option linter.unusedSimpArgs false
namespace Go.Proofs.Ytabbnnfobjifiaa
open Go.Sx Go.Cv
set_option maxRecDepth 4000
set_option maxHeartbeats 2000000
/- the normal form, when there is one -/
theorem CNormV (f : C3) (hf : VC f) : Ctr Try.prog 70 [crv f.1 f.2.1 f.2.2] [] (fun r o => ∃ a : C3, (VC a ∧ (∀ t, cv a t = cv f t)) ∧ o = [] ∧ r = .tup [crv a.1 a.2.1 a.2.2, i64 0]) :=
  (CNormal_ok f.1 f.2.1 f.2.2 (by have := hf.n2; omega)).mono (fun r o ⟨x, h1, h2, h3⟩ => by
    obtain ⟨x1, x2, x3, x4⟩ := x
    rcases h1 with ⟨he, p0, p1, e0, e1, h4, h5⟩ | ⟨h, _⟩
    · dsimp only at he e1 h5 h3
      subst he e1
      have e2 : p0 = f.2.1 := by omega
      subst e2
      obtain ⟨g1, g2⟩ := h5.vf hf
      exact ⟨(x1, p1, x3), ⟨g1, g2⟩, h2, h3⟩
    · exact absurd hf.valid h)
end Go.Proofs.Ytabbnnfobjifiaa
