/-
  It is proved that the law RemainderValues of the layer 6 (remainder) answers true: Rest is the greatest difference up to a tick, and Above the least one from a tick on.
  Conditions: none beyond those of the given statement.
-/
import Derived.Test.YtppdpfaipkjpmaaOp
import Derived.Test.YtppdpfaipkjpmaaL6
set_option linter.unusedVariables false
set_option linter.unusedSimpArgs false
namespace Go.Proofs.Ytppdpfaipkjpmaa
open Go.Sx Go.ChangeShapes Go.WideShapes Go.ChangeAt Go.RowKit
set_option maxRecDepth 100000
theorem remainderValues_lifted (os : Os) (started : os.Started) (H : Type) (enc : TypeId × Value → H) :
    ReturnsInHanded {} Try.checked os 8 .any (Rows.remainderValuesSpec.pre6 enc Try.prog Try.f8 Rows.remainderValuesRow.domain false) (Rows.remainderValuesSpec.post enc Try.prog Try.f8 false true false false) := by
  refine returnsInHanded_of_change (C := Try.checked) own_knob started (by kernel_rfl) Try.func8
    (ChangeSpec.witness6 (enc := enc) (C := Try.checked) false ⟨#[], #[.slice none 0 0, .int .i64 0], []⟩ 8 (by kernel_rfl) (by kernel_rfl) (by kernel_rfl) (by kernel_rfl)) ?_
  intro W base args ds gs before hval hW _ _
  exact law_contract (ts := [22, 3]) (tb := 4) (spec := Rows.remainderValuesSpec) (by kernel_rfl) (by kernel_rfl) (by kernel_rfl) ((opensA_cons opens_ints (opensA_cons opens_i64 opensA_nil))) (fun a ha => Values_ok a.1 a.2.1 (maxLen_le ha.1.1)) rfl
    (fun H ds h => by match ds, h with | [d0, d1], _ => rfl) H enc W base args ds gs before hval hW
theorem remainderValues_over : Rows.remainderValuesRow.holds Try.pinned (OpenSpec.ofChange Rows.remainderValuesSpec) :=
  OpenClaim.holds_of_wide 8 Try.f8 rfl rfl rfl rfl rfl rfl rfl ⟨rfl, rfl, rfl, rfl, rfl⟩ rfl rfl rfl rfl rfl (by kernel_rfl) Try.func8 (by kernel_rfl)
    (of_decide_eq_true (by kernel_rfl)) (by unfold Func.isWrapper; first | (rw [if_pos (by decide +kernel)]; kernel_rfl) | (rw [if_neg (by decide +kernel)]; exact ⟨rfl, rfl⟩))
    (fun os started H enc _ => remainderValues_lifted os started H enc)
theorem remainderValues_holds : Rows.RemainderValuesSaid := remainderValues_over
#print axioms remainderValues_holds
end Go.Proofs.Ytppdpfaipkjpmaa
