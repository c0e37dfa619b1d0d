/-
  It is proved that the law PacketWhole of the layer 15 (packet) answers true: Whole is at most the bytes, greater than the bytes less the greatest size unless all packets are complete, and does not decrease.
  Conditions: none beyond those of the given statement.
-/
import Derived.Test.YtlnpbgjoccipaaaOp
import Derived.Test.YtlnpbgjoccipaaaA6
set_option linter.unusedVariables false
set_option linter.unusedSimpArgs false
namespace Go.Proofs.Ytlnpbgjoccipaaa
open Go.Sx Go.ChangeShapes Go.WideShapes Go.ChangeAt Go.RowKit
set_option maxRecDepth 100000
theorem fiti {n : Int} (h : Fit n) : -9223372036854775808 ≤ n ∧ n ≤ 9223372036854775807 := h
theorem packetWhole_lifted (os : Os) (started : os.Started) (H : Type) (enc : TypeId × Value → H) :
    ReturnsInHanded {} Try.checked os 5 .any (Rows.packetWholeSpec.pre6 enc Try.prog Try.f5 Rows.packetWholeRow.domain false) (Rows.packetWholeSpec.post enc Try.prog Try.f5 false true false false) := by
  refine returnsInHanded_of_change (C := Try.checked) own_knob started (by kernel_rfl) Try.func5
    (ChangeSpec.witness6 (enc := enc) (C := Try.checked) false ⟨#[], #[.slice none 0 0, .int .i64 0], []⟩ 8 (by kernel_rfl) (by kernel_rfl) (by kernel_rfl) (by kernel_rfl)) ?_
  intro W base args ds gs before hval hW _ _
  exact law_contract (ts := [22, 3]) (tb := 4) (spec := Rows.packetWholeSpec) (by kernel_rfl) (by kernel_rfl) (by kernel_rfl) ((opensA_cons opens_ints (opensA_cons opens_i64 opensA_nil))) (fun a ha => Wholes_ok a.1 (maxLen_le ha.1.1) a.2.1 (fiti ha.2.1)) rfl
    (fun H ds h => by match ds, h with | [d0, d1], _ => rfl) H enc W base args ds gs before hval hW
theorem packetWhole_over : Rows.packetWholeRow.holds Try.pinned (OpenSpec.ofChange Rows.packetWholeSpec) :=
  OpenClaim.holds_of_wide 5 Try.f5 rfl rfl rfl rfl rfl rfl rfl ⟨rfl, rfl, rfl, rfl, rfl⟩ rfl rfl rfl rfl rfl (by kernel_rfl) Try.func5 (by kernel_rfl)
    (of_decide_eq_true (by kernel_rfl)) (by unfold Func.isWrapper; first | (rw [if_pos (by decide +kernel)]; kernel_rfl) | (rw [if_neg (by decide +kernel)]; exact ⟨rfl, rfl⟩))
    (fun os started H enc _ => packetWhole_lifted os started H enc)
theorem packetWhole_holds : Rows.PacketWholeSaid := packetWhole_over
#print axioms packetWhole_holds
end Go.Proofs.Ytlnpbgjoccipaaa
