/-
  It is proved that the law SimplexCorners of the layer 32 (simplex) answers true: no integer point of a small range that is feasible costs less than the value, and there is none if the programme is infeasible.
  Conditions: none beyond those of the given statement.
-/
import Derived.Test.YtbdahmfjeklgbaaQo
import Derived.Test.YtbdahmfjeklgbaaOp
set_option linter.unusedVariables false
set_option linter.unusedSimpArgs false
namespace Go.Proofs.Ytbdahmfjeklgbaa
open Go.Sx Go.ChangeShapes Go.WideShapes Go.ChangeAt Go.RowKit
set_option maxRecDepth 100000
theorem simplexCorners_lifted (os : Os) (started : os.Started) (H : Type) (enc : TypeId × Value → H) :
    ReturnsInHanded {} Try.checked os 4 .any (Rows.simplexCornersSpec.pre6 enc Try.prog Try.f4 Rows.simplexCornersRow.domain false) (Rows.simplexCornersSpec.post enc Try.prog Try.f4 false true false false) := by
  refine returnsInHanded_of_change (C := Try.checked) own_knob started (by kernel_rfl) Try.func4
    (ChangeSpec.witness6 (enc := enc) (C := Try.checked) false ⟨#[], #[.slice none 0 0], []⟩ 8 (by kernel_rfl) (by kernel_rfl) (by kernel_rfl) (by kernel_rfl)) ?_
  intro W base args ds gs before hval hW _ _
  exact law_contract (ts := [22]) (tb := 4) (spec := Rows.simplexCornersSpec) (by kernel_rfl) (by kernel_rfl) (by kernel_rfl) ((opensA_cons opens_ints opensA_nil)) (fun a ha => Corners_ok a.1 (maxLen_le ha.1.1)) rfl
    (fun H ds h => by match ds, h with | [d0], _ => rfl) H enc W base args ds gs before hval hW
theorem simplexCorners_over : Rows.simplexCornersRow.holds Try.pinned (OpenSpec.ofChange Rows.simplexCornersSpec) :=
  OpenClaim.holds_of_wide 4 Try.f4 rfl rfl rfl rfl rfl rfl rfl ⟨rfl, rfl, rfl, rfl, rfl⟩ rfl rfl rfl rfl rfl (by kernel_rfl) Try.func4 (by kernel_rfl)
    (of_decide_eq_true (by kernel_rfl)) (by unfold Func.isWrapper; first | (rw [if_pos (by decide +kernel)]; kernel_rfl) | (rw [if_neg (by decide +kernel)]; exact ⟨rfl, rfl⟩))
    (fun os started H enc _ => simplexCorners_lifted os started H enc)
theorem simplexCorners_holds : Rows.SimplexCornersSaid := simplexCorners_over
#print axioms simplexCorners_holds
end Go.Proofs.Ytbdahmfjeklgbaa
