/-
  It is proved that the law PacketServes of the layer 15 (packet) answers true: packets that are sent in their order, byte by byte and at least as a curve says, arrive at the next line at least as the convolution of their arrivals and the hop curve says; and ref07.Of of the two curves ends with OK or ErrLimit.
  Conditions: none beyond those of the given statement.
-/
import Derived.Test.YtlnpbgjoccipaaaOp
import Derived.Test.YtlnpbgjoccipaaaA8
set_option linter.unusedVariables false
set_option linter.unusedSimpArgs false
namespace Go.Proofs.Ytlnpbgjoccipaaa
open Go.Sx Go.ChangeShapes Go.WideShapes Go.ChangeAt Go.RowKit
set_option maxRecDepth 100000
theorem packetServes_lifted (os : Os) (started : os.Started) (H : Type) (enc : TypeId × Value → H) :
    ReturnsInHanded {} Try.checked os 8 .any (Rows.packetServesSpec.pre6 enc Try.prog Try.f8 Rows.packetServesRow.domain false) (Rows.packetServesSpec.post enc Try.prog Try.f8 false true false false) := by
  refine returnsInHanded_of_change (C := Try.checked) own_knob started (by kernel_rfl) Try.func8
    (ChangeSpec.witness6 (enc := enc) (C := Try.checked) false ⟨#[], #[.slice none 0 0], []⟩ 8 (by kernel_rfl) (by kernel_rfl) (by kernel_rfl) (by kernel_rfl)) ?_
  intro W base args ds gs before hval hW _ _
  exact law_contract (ts := [22]) (tb := 4) (spec := Rows.packetServesSpec) (by kernel_rfl) (by kernel_rfl) (by kernel_rfl) ((opensA_cons opens_ints opensA_nil)) (fun a ha => Serves_ok a.1 (maxLen_le ha.1.1)) rfl
    (fun H ds h => by match ds, h with | [d0], _ => rfl) H enc W base args ds gs before hval hW
theorem packetServes_over : Rows.packetServesRow.holds Try.pinned (OpenSpec.ofChange Rows.packetServesSpec) :=
  OpenClaim.holds_of_wide 8 Try.f8 rfl rfl rfl rfl rfl rfl rfl ⟨rfl, rfl, rfl, rfl, rfl⟩ rfl rfl rfl rfl rfl (by kernel_rfl) Try.func8 (by kernel_rfl)
    (of_decide_eq_true (by kernel_rfl)) (by unfold Func.isWrapper; first | (rw [if_pos (by decide +kernel)]; kernel_rfl) | (rw [if_neg (by decide +kernel)]; exact ⟨rfl, rfl⟩))
    (fun os started H enc _ => packetServes_lifted os started H enc)
theorem packetServes_holds : Rows.PacketServesSaid := packetServes_over
#print axioms packetServes_holds
end Go.Proofs.Ytlnpbgjoccipaaa
