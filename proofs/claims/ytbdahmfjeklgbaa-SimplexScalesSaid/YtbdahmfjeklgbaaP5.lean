/-
  A text of the proofs of this seat: lemmas that the statements' proofs use; it states nothing of the program by itself beyond the contracts that its theorems bear. Conditions: those that stand in each theorem. Its short name: P5.
-/
import Derived.Test.YtbdahmfjeklgbaaP3
set_option linter.unusedVariables false
set_option linter.unusedSimpArgs false
namespace Go.Proofs.Ytbdahmfjeklgbaa
open Go.Sx Go.Fq
set_option maxRecDepth 4000
set_option maxHeartbeats 2000000
/- the first entries of a list that is made row by row -/
def pre (p : Pr) (g : Rw → F) (i : Nat) : List F := (p.r.take i).map g
theorem fr2_append (a b : List F) : fr2 (a ++ b) = fr2 a ++ fr2 b := by simp [fr2]
def zr (n i : Nat) : List F := List.replicate i (0, 1) ++ List.replicate (n - i) (0, 0)
end Go.Proofs.Ytbdahmfjeklgbaa
