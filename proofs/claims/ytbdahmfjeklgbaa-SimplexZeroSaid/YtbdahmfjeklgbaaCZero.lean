/-
  It is proved that the law SimplexZero of the layer 32 (simplex) answers true: without costs the value is 0 wherever there is a point, and a programme without rows is unbounded exactly if a cost is negative.
  Conditions: none beyond those of the given statement.
-/
import Derived.Test.YtbdahmfjeklgbaaQl
import Derived.Test.YtbdahmfjeklgbaaOp
set_option linter.unusedVariables false
set_option linter.unusedSimpArgs false
namespace Go.Proofs.Ytbdahmfjeklgbaa
open Go.Sx Go.ChangeShapes Go.WideShapes Go.ChangeAt Go.RowKit
set_option maxRecDepth 100000
theorem simplexZero_lifted (os : Os) (started : os.Started) (H : Type) (enc : TypeId × Value → H) :
    ReturnsInHanded {} Try.checked os 5 .any (Rows.simplexZeroSpec.pre6 enc Try.prog Try.f5 Rows.simplexZeroRow.domain false) (Rows.simplexZeroSpec.post enc Try.prog Try.f5 false true false false) := by
  refine returnsInHanded_of_change (C := Try.checked) own_knob started (by kernel_rfl) Try.func5
    (ChangeSpec.witness6 (enc := enc) (C := Try.checked) false ⟨#[], #[.slice none 0 0], []⟩ 8 (by kernel_rfl) (by kernel_rfl) (by kernel_rfl) (by kernel_rfl)) ?_
  intro W base args ds gs before hval hW _ _
  exact law_contract (ts := [22]) (tb := 4) (spec := Rows.simplexZeroSpec) (by kernel_rfl) (by kernel_rfl) (by kernel_rfl) ((opensA_cons opens_ints opensA_nil)) (fun a ha => Zero_ok a.1 (maxLen_le ha.1.1)) rfl
    (fun H ds h => by match ds, h with | [d0], _ => rfl) H enc W base args ds gs before hval hW
theorem simplexZero_over : Rows.simplexZeroRow.holds Try.pinned (OpenSpec.ofChange Rows.simplexZeroSpec) :=
  OpenClaim.holds_of_wide 5 Try.f5 rfl rfl rfl rfl rfl rfl rfl ⟨rfl, rfl, rfl, rfl, rfl⟩ rfl rfl rfl rfl rfl (by kernel_rfl) Try.func5 (by kernel_rfl)
    (of_decide_eq_true (by kernel_rfl)) (by unfold Func.isWrapper; first | (rw [if_pos (by decide +kernel)]; kernel_rfl) | (rw [if_neg (by decide +kernel)]; exact ⟨rfl, rfl⟩))
    (fun os started H enc _ => simplexZero_lifted os started H enc)
theorem simplexZero_holds : Rows.SimplexZeroSaid := simplexZero_over
#print axioms simplexZero_holds
end Go.Proofs.Ytbdahmfjeklgbaa
