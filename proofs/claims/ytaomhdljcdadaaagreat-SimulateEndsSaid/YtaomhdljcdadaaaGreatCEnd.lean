/-
  It is proved that the law SimulateEnds of the layer 35 (simulate) answers true: on lines in the order of arrival everything is sent, if the ticks are enough for all bytes at each line.
  Conditions: none beyond those of the given statement.
-/
import Derived.Test.YtaomhdljcdadaaaGreatTy
import Derived.Test.YtaomhdljcdadaaaGreatLen1
set_option linter.unusedVariables false
set_option linter.unusedSimpArgs false
namespace Go.Proofs.YtaomhdljcdadaaaGreat
open Go.Sx Go.ChangeShapes Go.WideShapes Go.ChangeAt Go.RowKit
set_option maxRecDepth 100000
theorem simulateEnds_lifted (os : Os) (started : os.Started) (H : Type) (enc : TypeId × Value → H) :
    ReturnsInHanded {} Tryz.checked os 10 .any (Rows.simulateEndsSpec.pre6 enc Tryz.prog Tryz.f10 Rows.simulateEndsRow.domain false) (Rows.simulateEndsSpec.post enc Tryz.prog Tryz.f10 false true false false) := by
  refine returnsInHanded_of_change (C := Tryz.checked) own_knob started (by kernel_rfl) Tryz.func10
    (ChangeSpec.witness6 (enc := enc) (C := Tryz.checked) false ⟨#[], #[.slice none 0 0], []⟩ 8 (by kernel_rfl) (by kernel_rfl) (by kernel_rfl) (by kernel_rfl)) ?_
  intro W base args ds gs before hval hW _ _
  exact law_contract (ts := [22]) (tb := 4) (spec := Rows.simulateEndsSpec) (by kernel_rfl) (by kernel_rfl) (by kernel_rfl) ((opensA_cons opens_ints opensA_nil)) (fun a ha => Ends_ok a.1 (maxLen_le ha.1.1)) rfl
    (fun H ds h => by match ds, h with | [d0], _ => rfl) H enc W base args ds gs before hval hW
theorem simulateEnds_over : Rows.simulateEndsRow.holds Tryz.pinned (OpenSpec.ofChange Rows.simulateEndsSpec) :=
  OpenClaim.holds_of_wide 10 Tryz.f10 rfl rfl rfl rfl rfl rfl rfl ⟨rfl, rfl, rfl, rfl, rfl⟩ rfl rfl rfl rfl rfl (by kernel_rfl) Tryz.func10 (by kernel_rfl)
    (of_decide_eq_true (by kernel_rfl)) (by unfold Func.isWrapper; first | (rw [if_pos (by decide +kernel)]; kernel_rfl) | (rw [if_neg (by decide +kernel)]; exact ⟨rfl, rfl⟩))
    (fun os started H enc _ => simulateEnds_lifted os started H enc)
theorem simulateEnds_holds : Rows.SimulateEndsSaid := simulateEnds_over
#print axioms simulateEnds_holds
end Go.Proofs.YtaomhdljcdadaaaGreat
