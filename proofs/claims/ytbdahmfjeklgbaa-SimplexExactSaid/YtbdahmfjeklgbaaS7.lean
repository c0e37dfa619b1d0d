/-
  A text of the proofs of this seat: lemmas that the statements' proofs use; it states nothing of the program by itself beyond the contracts that its theorems bear. Conditions: those that stand in each theorem. Its short name: S7.
-/
import Derived.Test.YtbdahmfjeklgbaaP5
import Derived.Test.YtbdahmfjeklgbaaPl
set_option linter.unusedVariables false
set_option linter.unusedSimpArgs false
namespace Go.Proofs.Ytbdahmfjeklgbaa
open Go.Sx Go.Fq
set_option maxRecDepth 4000
set_option maxHeartbeats 2000000
abbrev Sol := Int × List F × F × List F × List F
end Go.Proofs.Ytbdahmfjeklgbaa
