/-
  It is proved that the law ConformShapes of the layer 14 (conform) answers true: what Shape returns keeps the curve and has the same packets in each flow, none of them earlier; that shaping again changes nothing; and no packet could have been earlier by one tick.
  Conditions: none beyond those of the given statement.
-/
import Derived.Test.YtabbnnfobjifiaaOp
import Derived.Test.YtabbnnfobjifiaaC12
set_option linter.unusedVariables false
set_option linter.unusedSimpArgs false
namespace Go.Proofs.Ytabbnnfobjifiaa
open Go.Sx Go.ChangeShapes Go.WideShapes Go.ChangeAt Go.RowKit
set_option maxRecDepth 100000
theorem conformShapes_lifted (os : Os) (started : os.Started) (H : Type) (enc : TypeId × Value → H) :
    ReturnsInHanded {} Try.checked os 3 .any (Rows.conformShapesSpec.pre6 enc Try.prog Try.f3 Rows.conformShapesRow.domain false) (Rows.conformShapesSpec.post enc Try.prog Try.f3 false true false false) := by
  refine returnsInHanded_of_change (C := Try.checked) own_knob started (by kernel_rfl) Try.func3
    (ChangeSpec.witness6 (enc := enc) (C := Try.checked) false ⟨#[], #[.slice none 0 0], []⟩ 8 (by kernel_rfl) (by kernel_rfl) (by kernel_rfl) (by kernel_rfl)) ?_
  intro W base args ds gs before hval hW _ _
  exact law_contract (ts := [22]) (tb := 4) (spec := Rows.conformShapesSpec) (by kernel_rfl) (by kernel_rfl) (by kernel_rfl) ((opensA_cons opens_ints opensA_nil)) (fun a ha => Shapes_ok a.1 (maxLen_le ha.1.1)) rfl
    (fun H ds h => by match ds, h with | [d0], _ => rfl) H enc W base args ds gs before hval hW
theorem conformShapes_over : Rows.conformShapesRow.holds Try.pinned (OpenSpec.ofChange Rows.conformShapesSpec) :=
  OpenClaim.holds_of_wide 3 Try.f3 rfl rfl rfl rfl rfl rfl rfl ⟨rfl, rfl, rfl, rfl, rfl⟩ rfl rfl rfl rfl rfl (by kernel_rfl) Try.func3 (by kernel_rfl)
    (of_decide_eq_true (by kernel_rfl)) (by unfold Func.isWrapper; first | (rw [if_pos (by decide +kernel)]; kernel_rfl) | (rw [if_neg (by decide +kernel)]; exact ⟨rfl, rfl⟩))
    (fun os started H enc _ => conformShapes_lifted os started H enc)
theorem conformShapes_holds : Rows.ConformShapesSaid := conformShapes_over
#print axioms conformShapes_holds
end Go.Proofs.Ytabbnnfobjifiaa
