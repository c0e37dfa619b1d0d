/-
  It is proved that the law PacketArrives of the layer 15 (packet) answers true: what is forwarded is a valid trace of the packets that are complete, each one tick after its last byte; and its sums are those of whole packets.
  Conditions: none beyond those of the given statement.
-/
import Derived.Test.YtlnpbgjoccipaaaOp
import Derived.Test.YtlnpbgjoccipaaaA7
set_option linter.unusedVariables false
set_option linter.unusedSimpArgs false
namespace Go.Proofs.Ytlnpbgjoccipaaa
open Go.Sx Go.ChangeShapes Go.WideShapes Go.ChangeAt Go.RowKit
set_option maxRecDepth 100000
theorem fiti {n : Int} (h : Fit n) : -9223372036854775808 ≤ n ∧ n ≤ 9223372036854775807 := h
theorem packetArrives_lifted (os : Os) (started : os.Started) (H : Type) (enc : TypeId × Value → H) :
    ReturnsInHanded {} Try.checked os 7 .any (Rows.packetArrivesSpec.pre6 enc Try.prog Try.f7 Rows.packetArrivesRow.domain false) (Rows.packetArrivesSpec.post enc Try.prog Try.f7 false true false false) := by
  refine returnsInHanded_of_change (C := Try.checked) own_knob started (by kernel_rfl) Try.func7
    (ChangeSpec.witness6 (enc := enc) (C := Try.checked) false ⟨#[], #[.slice none 0 0, .int .i64 0], []⟩ 8 (by kernel_rfl) (by kernel_rfl) (by kernel_rfl) (by kernel_rfl)) ?_
  intro W base args ds gs before hval hW _ _
  exact law_contract (ts := [22, 3]) (tb := 4) (spec := Rows.packetArrivesSpec) (by kernel_rfl) (by kernel_rfl) (by kernel_rfl) ((opensA_cons opens_ints (opensA_cons opens_i64 opensA_nil))) (fun a ha => Arrives_ok a.1 (maxLen_le ha.1.1) a.2.1 (fiti ha.2.1)) rfl
    (fun H ds h => by match ds, h with | [d0, d1], _ => rfl) H enc W base args ds gs before hval hW
theorem packetArrives_over : Rows.packetArrivesRow.holds Try.pinned (OpenSpec.ofChange Rows.packetArrivesSpec) :=
  OpenClaim.holds_of_wide 7 Try.f7 rfl rfl rfl rfl rfl rfl rfl ⟨rfl, rfl, rfl, rfl, rfl⟩ rfl rfl rfl rfl rfl (by kernel_rfl) Try.func7 (by kernel_rfl)
    (of_decide_eq_true (by kernel_rfl)) (by unfold Func.isWrapper; first | (rw [if_pos (by decide +kernel)]; kernel_rfl) | (rw [if_neg (by decide +kernel)]; exact ⟨rfl, rfl⟩))
    (fun os started H enc _ => packetArrives_lifted os started H enc)
theorem packetArrives_holds : Rows.PacketArrivesSaid := packetArrives_over
#print axioms packetArrives_holds
end Go.Proofs.Ytlnpbgjoccipaaa
