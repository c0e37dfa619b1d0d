/-
  It is proved that the law RemainderBetween of the layer 6 (remainder) answers true: Above is at most Rest, both are the first curve if the second one is 0, and with the second one added again Rest is at least the first one.
  Conditions: none beyond those of the given statement.
-/
import Derived.Test.YtppdpfaipkjpmaaOp
import Derived.Test.YtppdpfaipkjpmaaL2
set_option linter.unusedVariables false
set_option linter.unusedSimpArgs false
namespace Go.Proofs.Ytppdpfaipkjpmaa
open Go.Sx Go.ChangeShapes Go.WideShapes Go.ChangeAt Go.RowKit
set_option maxRecDepth 100000
theorem remainderBetween_lifted (os : Os) (started : os.Started) (H : Type) (enc : TypeId × Value → H) :
    ReturnsInHanded {} Try.checked os 4 .any (Rows.remainderBetweenSpec.pre6 enc Try.prog Try.f4 Rows.remainderBetweenRow.domain false) (Rows.remainderBetweenSpec.post enc Try.prog Try.f4 false true false false) := by
  refine returnsInHanded_of_change (C := Try.checked) own_knob started (by kernel_rfl) Try.func4
    (ChangeSpec.witness6 (enc := enc) (C := Try.checked) false ⟨#[], #[.slice none 0 0, .int .i64 0], []⟩ 8 (by kernel_rfl) (by kernel_rfl) (by kernel_rfl) (by kernel_rfl)) ?_
  intro W base args ds gs before hval hW _ _
  exact law_contract (ts := [22, 3]) (tb := 4) (spec := Rows.remainderBetweenSpec) (by kernel_rfl) (by kernel_rfl) (by kernel_rfl) ((opensA_cons opens_ints (opensA_cons opens_i64 opensA_nil))) (fun a ha => Between_ok a.1 a.2.1 (maxLen_le ha.1.1)) rfl
    (fun H ds h => by match ds, h with | [d0, d1], _ => rfl) H enc W base args ds gs before hval hW
theorem remainderBetween_over : Rows.remainderBetweenRow.holds Try.pinned (OpenSpec.ofChange Rows.remainderBetweenSpec) :=
  OpenClaim.holds_of_wide 4 Try.f4 rfl rfl rfl rfl rfl rfl rfl ⟨rfl, rfl, rfl, rfl, rfl⟩ rfl rfl rfl rfl rfl (by kernel_rfl) Try.func4 (by kernel_rfl)
    (of_decide_eq_true (by kernel_rfl)) (by unfold Func.isWrapper; first | (rw [if_pos (by decide +kernel)]; kernel_rfl) | (rw [if_neg (by decide +kernel)]; exact ⟨rfl, rfl⟩))
    (fun os started H enc _ => remainderBetween_lifted os started H enc)
theorem remainderBetween_holds : Rows.RemainderBetweenSaid := remainderBetween_over
#print axioms remainderBetween_holds
end Go.Proofs.Ytppdpfaipkjpmaa
