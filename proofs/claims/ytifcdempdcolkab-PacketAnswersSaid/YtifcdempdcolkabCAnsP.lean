/-
  It is proved that the law PacketAnswers of the layer 15 (packet) answers true: all its functions return the documented results, or the documented errors, for any curves, traces and numbers.
  Conditions: none beyond those of the given statement.
-/
import Derived.Test.YtifcdempdcolkabT1
import Derived.Test.YtifcdempdcolkabE11
set_option linter.unusedVariables false
set_option linter.unusedSimpArgs false
namespace Go.Proofs.Ytifcdempdcolkab
open Go.Sx Go.ChangeShapes Go.WideShapes Go.ChangeAt Go.RowKit
set_option maxRecDepth 100000
theorem packetAnswers_lifted (os : Os) (started : os.Started) (H : Type) (enc : TypeId × Value → H) :
    ReturnsInHanded {} Try.checked os 3 .any (Rows.packetAnswersSpec.pre6 enc Try.prog Try.f3 Rows.packetAnswersRow.domain false) (Rows.packetAnswersSpec.post enc Try.prog Try.f3 false true false false) := by
  refine returnsInHanded_of_change (C := Try.checked) own_knob started (by kernel_rfl) Try.func3
    (ChangeSpec.witness6 (enc := enc) (C := Try.checked) false ⟨#[], #[.agg #[.slice none 0 0, .int .i64 0, .int .i64 0], .agg #[.slice none 0 0, .int .i64 0, .int .i64 0], .slice none 0 0, .slice none 0 0, .int .i64 0, .slice none 0 0], []⟩ 8 (by kernel_rfl) (by kernel_rfl) (by kernel_rfl) (by kernel_rfl)) ?_
  intro W base args ds gs before hval hW _ _
  exact law_contract (ts := [24, 24, 25, 22, 3, 22]) (tb := 4) (spec := Rows.packetAnswersSpec) (by kernel_rfl) (by kernel_rfl) (by kernel_rfl) ((opensA_cons opens_curve (opensA_cons opens_curve (opensA_cons opens_packets (opensA_cons opens_ints (opensA_cons opens_i64 (opensA_cons opens_ints opensA_nil))))))) (fun a ha => Answers_ok (a.1.1, a.1.2.1, a.1.2.2.1) (a.2.1.1, a.2.1.2.1, a.2.1.2.2.1) a.2.2.1 a.2.2.2.1 a.2.2.2.2.1 a.2.2.2.2.2.1 (maxLen_le ha.1.1.1) (maxLen_le ha.2.1.1.1) (maxLen_le ha.2.2.1.1) (maxLen_le ha.2.2.2.1.1) (maxLen_le ha.2.2.2.2.2.1.1)) rfl
    (fun H ds h => by match ds, h with | [d0, d1, d2, d3, d4, d5], _ => rfl) H enc W base args ds gs before hval hW
theorem packetAnswers_over : Rows.packetAnswersRow.holds Try.pinned (OpenSpec.ofChange Rows.packetAnswersSpec) :=
  OpenClaim.holds_of_wide 3 Try.f3 rfl rfl rfl rfl rfl rfl rfl ⟨rfl, rfl, rfl, rfl, rfl⟩ rfl rfl rfl rfl rfl (by kernel_rfl) Try.func3 (by kernel_rfl)
    (of_decide_eq_true (by kernel_rfl)) (by unfold Func.isWrapper; first | (rw [if_pos (by decide +kernel)]; kernel_rfl) | (rw [if_neg (by decide +kernel)]; exact ⟨rfl, rfl⟩))
    (fun os started H enc _ => packetAnswers_lifted os started H enc)
theorem packetAnswers_holds : Rows.PacketAnswersSaid := packetAnswers_over
#print axioms packetAnswers_holds
end Go.Proofs.Ytifcdempdcolkab
