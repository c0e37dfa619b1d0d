/-
  A text of the proofs of this seat: lemmas that the statements' proofs use; it states nothing of the program by itself beyond the contracts that its theorems bear. Conditions: those that stand in each theorem. Its short name: Op.
-/
import Derived.Test.YtbdahmfjeklgbaaSxC
import Derived.Test.YtbdahmfjeklgbaaLib
import Derived.Test.YtbdahmfjeklgbaaRows
import Derived.WalkKit
import Derived.ProofKit
set_option linter.unusedVariables false
set_option linter.unusedSimpArgs false
namespace Go.Proofs.Ytbdahmfjeklgbaa
open Go.Sx Go.ChangeShapes Go.WideShapes Go.ChangeAt Go.RowKit
set_option maxRecDepth 100000
theorem own_knob : ownKnob Try.prog.godebug = none := by kernel_rfl
abbrev Fit (n : Int) : Prop := IntKind.i64.min ≤ n ∧ n ≤ IntKind.i64.max
abbrev Fits' (l : List Int) : Prop := l.length ≤ maxLen ∧ ∀ n ∈ l, Fit n
theorem opens_ints : OpensArg Try.prog 22 (fun l : List Int => .psl 1 (ints l)) Fits' :=
  opensArg_one (D := .slice 3) (by kernel_rfl) rfl (opens_slice (e := 3) (by kernel_rfl) (by kernel_rfl) (by decide +kernel) (opens_int (by kernel_rfl) (by kernel_rfl)))
theorem maxLen_le {n : Nat} (h : n ≤ maxLen) : n ≤ 9223372036854775807 := by unfold maxLen at h; omega
end Go.Proofs.Ytbdahmfjeklgbaa
