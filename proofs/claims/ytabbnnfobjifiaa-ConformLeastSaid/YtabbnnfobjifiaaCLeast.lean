/-
  It is proved that the law ConformLeast of the layer 14 (conform) answers true: a flow keeps a curve exactly if the least curve that it keeps is at most the curve from the tick 1 on; that it keeps the least one; and this one is sub-additive.
  Conditions: none beyond those of the given statement.
-/
import Derived.Test.YtabbnnfobjifiaaOp
import Derived.Test.YtabbnnfobjifiaaC11
set_option linter.unusedVariables false
set_option linter.unusedSimpArgs false
namespace Go.Proofs.Ytabbnnfobjifiaa
open Go.Sx Go.ChangeShapes Go.WideShapes Go.ChangeAt Go.RowKit
set_option maxRecDepth 100000
theorem conformLeast_lifted (os : Os) (started : os.Started) (H : Type) (enc : TypeId × Value → H) :
    ReturnsInHanded {} Try.checked os 9 .any (Rows.conformLeastSpec.pre6 enc Try.prog Try.f9 Rows.conformLeastRow.domain false) (Rows.conformLeastSpec.post enc Try.prog Try.f9 false true false false) := by
  refine returnsInHanded_of_change (C := Try.checked) own_knob started (by kernel_rfl) Try.func9
    (ChangeSpec.witness6 (enc := enc) (C := Try.checked) false ⟨#[], #[.slice none 0 0], []⟩ 8 (by kernel_rfl) (by kernel_rfl) (by kernel_rfl) (by kernel_rfl)) ?_
  intro W base args ds gs before hval hW _ _
  exact law_contract (ts := [22]) (tb := 4) (spec := Rows.conformLeastSpec) (by kernel_rfl) (by kernel_rfl) (by kernel_rfl) ((opensA_cons opens_ints opensA_nil)) (fun a ha => Leasts_ok a.1 (maxLen_le ha.1.1)) rfl
    (fun H ds h => by match ds, h with | [d0], _ => rfl) H enc W base args ds gs before hval hW
theorem conformLeast_over : Rows.conformLeastRow.holds Try.pinned (OpenSpec.ofChange Rows.conformLeastSpec) :=
  OpenClaim.holds_of_wide 9 Try.f9 rfl rfl rfl rfl rfl rfl rfl ⟨rfl, rfl, rfl, rfl, rfl⟩ rfl rfl rfl rfl rfl (by kernel_rfl) Try.func9 (by kernel_rfl)
    (of_decide_eq_true (by kernel_rfl)) (by unfold Func.isWrapper; first | (rw [if_pos (by decide +kernel)]; kernel_rfl) | (rw [if_neg (by decide +kernel)]; exact ⟨rfl, rfl⟩))
    (fun os started H enc _ => conformLeast_lifted os started H enc)
theorem conformLeast_holds : Rows.ConformLeastSaid := conformLeast_over
#print axioms conformLeast_holds
end Go.Proofs.Ytabbnnfobjifiaa
