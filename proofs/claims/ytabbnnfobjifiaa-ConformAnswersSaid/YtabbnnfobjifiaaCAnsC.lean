/-
  It is proved that the law ConformAnswers of the layer 14 (conform) answers true: all its functions answer as the document says, with its results or its errors, for any traces, curves and numbers.
  Conditions: none beyond those of the given statement.
-/
import Derived.Test.YtabbnnfobjifiaaT1
import Derived.Test.YtabbnnfobjifiaaD20
set_option linter.unusedVariables false
set_option linter.unusedSimpArgs false
namespace Go.Proofs.Ytabbnnfobjifiaa
open Go.Sx Go.ChangeShapes Go.WideShapes Go.ChangeAt Go.RowKit
set_option maxRecDepth 100000
theorem conformAnswers_lifted (os : Os) (started : os.Started) (H : Type) (enc : TypeId × Value → H) :
    ReturnsInHanded {} Try.checked os 8 .any (Rows.conformAnswersSpec.pre6 enc Try.prog Try.f8 Rows.conformAnswersRow.domain false) (Rows.conformAnswersSpec.post enc Try.prog Try.f8 false true false false) := by
  refine returnsInHanded_of_change (C := Try.checked) own_knob started (by kernel_rfl) Try.func8
    (ChangeSpec.witness6 (enc := enc) (C := Try.checked) false ⟨#[], #[.slice none 0 0, .agg #[.slice none 0 0, .int .i64 0, .int .i64 0], .int .i64 0, .int .i64 0, .slice none 0 0], []⟩ 8 (by kernel_rfl) (by kernel_rfl) (by kernel_rfl) (by kernel_rfl)) ?_
  intro W base args ds gs before hval hW _ _
  exact law_contract (ts := [25, 28, 3, 3, 22]) (tb := 4) (spec := Rows.conformAnswersSpec) (by kernel_rfl) (by kernel_rfl) (by kernel_rfl) ((opensA_cons opens_packets (opensA_cons opens_curve (opensA_cons opens_i64 (opensA_cons opens_i64 (opensA_cons opens_ints opensA_nil)))))) (fun a ha => AnswersC_ok a.1 (maxLen_le ha.1.1) a.2.1.1 a.2.1.2.1 a.2.1.2.2.1 a.2.2.1 a.2.2.2.1 a.2.2.2.2.1 (maxLen_le ha.2.2.2.2.1.1)) rfl
    (fun H ds h => by match ds, h with | [d0, d1, d2, d3, d4], _ => rfl) H enc W base args ds gs before hval hW
theorem conformAnswers_over : Rows.conformAnswersRow.holds Try.pinned (OpenSpec.ofChange Rows.conformAnswersSpec) :=
  OpenClaim.holds_of_wide 8 Try.f8 rfl rfl rfl rfl rfl rfl rfl ⟨rfl, rfl, rfl, rfl, rfl⟩ rfl rfl rfl rfl rfl (by kernel_rfl) Try.func8 (by kernel_rfl)
    (of_decide_eq_true (by kernel_rfl)) (by unfold Func.isWrapper; first | (rw [if_pos (by decide +kernel)]; kernel_rfl) | (rw [if_neg (by decide +kernel)]; exact ⟨rfl, rfl⟩))
    (fun os started H enc _ => conformAnswers_lifted os started H enc)
theorem conformAnswers_holds : Rows.ConformAnswersSaid := conformAnswers_over
#print axioms conformAnswers_holds
end Go.Proofs.Ytabbnnfobjifiaa
