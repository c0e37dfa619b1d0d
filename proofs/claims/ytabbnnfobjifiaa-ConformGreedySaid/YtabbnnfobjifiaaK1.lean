/-
  A text of the proofs of this seat: lemmas that the statements' proofs use; it states nothing of the program by itself beyond the contracts that its theorems bear. Conditions: those that stand in each theorem. Its short name: K1.
-/
import Derived.Test.YtabbnnfobjifiaaW1
import Derived.Test.YtabbnnfobjifiaaKn
set_option linter.unusedVariables false
set_option linter.unusedSimpArgs false
