/-
  It is proved that the law ConformPolices of the layer 14 (conform) answers true: what Police lets pass keeps the curve; other flows stay as they are; and policing again, or a flow that keeps the curve, loses nothing.
  Conditions: none beyond those of the given statement.
-/
import Derived.Test.YtabbnnfobjifiaaOp
import Derived.Test.YtabbnnfobjifiaaC14
set_option linter.unusedVariables false
set_option linter.unusedSimpArgs false
namespace Go.Proofs.Ytabbnnfobjifiaa
open Go.Sx Go.ChangeShapes Go.WideShapes Go.ChangeAt Go.RowKit
set_option maxRecDepth 100000
theorem conformPolices_lifted (os : Os) (started : os.Started) (H : Type) (enc : TypeId × Value → H) :
    ReturnsInHanded {} Try.checked os 4 .any (Rows.conformPolicesSpec.pre6 enc Try.prog Try.f4 Rows.conformPolicesRow.domain false) (Rows.conformPolicesSpec.post enc Try.prog Try.f4 false true false false) := by
  refine returnsInHanded_of_change (C := Try.checked) own_knob started (by kernel_rfl) Try.func4
    (ChangeSpec.witness6 (enc := enc) (C := Try.checked) false ⟨#[], #[.slice none 0 0], []⟩ 8 (by kernel_rfl) (by kernel_rfl) (by kernel_rfl) (by kernel_rfl)) ?_
  intro W base args ds gs before hval hW _ _
  exact law_contract (ts := [22]) (tb := 4) (spec := Rows.conformPolicesSpec) (by kernel_rfl) (by kernel_rfl) (by kernel_rfl) ((opensA_cons opens_ints opensA_nil)) (fun a ha => Polices_ok a.1 (maxLen_le ha.1.1)) rfl
    (fun H ds h => by match ds, h with | [d0], _ => rfl) H enc W base args ds gs before hval hW
theorem conformPolices_over : Rows.conformPolicesRow.holds Try.pinned (OpenSpec.ofChange Rows.conformPolicesSpec) :=
  OpenClaim.holds_of_wide 4 Try.f4 rfl rfl rfl rfl rfl rfl rfl ⟨rfl, rfl, rfl, rfl, rfl⟩ rfl rfl rfl rfl rfl (by kernel_rfl) Try.func4 (by kernel_rfl)
    (of_decide_eq_true (by kernel_rfl)) (by unfold Func.isWrapper; first | (rw [if_pos (by decide +kernel)]; kernel_rfl) | (rw [if_neg (by decide +kernel)]; exact ⟨rfl, rfl⟩))
    (fun os started H enc _ => conformPolices_lifted os started H enc)
theorem conformPolices_holds : Rows.ConformPolicesSaid := conformPolices_over
#print axioms conformPolices_holds
end Go.Proofs.Ytabbnnfobjifiaa
