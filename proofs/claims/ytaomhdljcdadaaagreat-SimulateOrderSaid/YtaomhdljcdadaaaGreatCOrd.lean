/-
  It is proved that the law SimulateOrder of the layer 35 (simulate) answers true: at each line packets of one class leave in the order in which they arrive, none before it arrives, and no line sends more than its capacity in a tick.
  Conditions: none beyond those of the given statement.
-/
import Derived.Test.YtaomhdljcdadaaaGreatLib
import Derived.Test.YtaomhdljcdadaaaGreatLor
set_option linter.unusedVariables false
set_option linter.unusedSimpArgs false
namespace Go.Proofs.YtaomhdljcdadaaaGreat
open Go.Sx Go.ChangeShapes Go.WideShapes Go.ChangeAt Go.RowKit
set_option maxRecDepth 100000
theorem simulateOrder_lifted (os : Os) (started : os.Started) (H : Type) (enc : TypeId × Value → H) :
    ReturnsInHanded {} Tryz.checked os 8 .any (Rows.simulateOrderSpec.pre6 enc Tryz.prog Tryz.f8 Rows.simulateOrderRow.domain false) (Rows.simulateOrderSpec.post enc Tryz.prog Tryz.f8 false true false false) := by
  refine returnsInHanded_of_change (C := Tryz.checked) own_knob started (by kernel_rfl) Tryz.func8
    (ChangeSpec.witness6 (enc := enc) (C := Tryz.checked) false ⟨#[], #[.slice none 0 0], []⟩ 8 (by kernel_rfl) (by kernel_rfl) (by kernel_rfl) (by kernel_rfl)) ?_
  intro W base args ds gs before hval hW _ _
  exact law_contract (ts := [22]) (tb := 4) (spec := Rows.simulateOrderSpec) (by kernel_rfl) (by kernel_rfl) (by kernel_rfl) ((opensA_cons opens_ints opensA_nil)) (fun a ha => Order_ok a.1 (maxLen_le ha.1.1)) rfl
    (fun H ds h => by match ds, h with | [d0], _ => rfl) H enc W base args ds gs before hval hW
theorem simulateOrder_over : Rows.simulateOrderRow.holds Tryz.pinned (OpenSpec.ofChange Rows.simulateOrderSpec) :=
  OpenClaim.holds_of_wide 8 Tryz.f8 rfl rfl rfl rfl rfl rfl rfl ⟨rfl, rfl, rfl, rfl, rfl⟩ rfl rfl rfl rfl rfl (by kernel_rfl) Tryz.func8 (by kernel_rfl)
    (of_decide_eq_true (by kernel_rfl)) (by unfold Func.isWrapper; first | (rw [if_pos (by decide +kernel)]; kernel_rfl) | (rw [if_neg (by decide +kernel)]; exact ⟨rfl, rfl⟩))
    (fun os started H enc _ => simulateOrder_lifted os started H enc)
theorem simulateOrder_holds : Rows.SimulateOrderSaid := simulateOrder_over
#print axioms simulateOrder_holds
end Go.Proofs.YtaomhdljcdadaaaGreat
