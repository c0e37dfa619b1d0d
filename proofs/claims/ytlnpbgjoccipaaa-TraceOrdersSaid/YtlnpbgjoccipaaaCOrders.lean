/-
  It is proved that the law TraceOrders of the layer 13 (trace) answers true: Order has all packets, ascending by their times; equal times keep their order; a valid trace stays as it is; and a later trace has later sums.
  Conditions: none beyond those of the given statement.
-/
import Derived.Test.YtlnpbgjoccipaaaOp
import Derived.Test.YtlnpbgjoccipaaaT10
set_option linter.unusedVariables false
set_option linter.unusedSimpArgs false
namespace Go.Proofs.Ytlnpbgjoccipaaa
open Go.Sx Go.ChangeShapes Go.WideShapes Go.ChangeAt Go.RowKit
set_option maxRecDepth 100000
theorem fiti {n : Int} (h : Fit n) : -9223372036854775808 ≤ n ∧ n ≤ 9223372036854775807 := h
theorem traceOrders_lifted (os : Os) (started : os.Started) (H : Type) (enc : TypeId × Value → H) :
    ReturnsInHanded {} Try.checked os 3 .any (Rows.traceOrdersSpec.pre6 enc Try.prog Try.f3 Rows.traceOrdersRow.domain false) (Rows.traceOrdersSpec.post enc Try.prog Try.f3 false true false false) := by
  refine returnsInHanded_of_change (C := Try.checked) own_knob started (by kernel_rfl) Try.func3
    (ChangeSpec.witness6 (enc := enc) (C := Try.checked) false ⟨#[], #[.slice none 0 0, .int .i64 0], []⟩ 8 (by kernel_rfl) (by kernel_rfl) (by kernel_rfl) (by kernel_rfl)) ?_
  intro W base args ds gs before hval hW _ _
  exact law_contract (ts := [22, 3]) (tb := 4) (spec := Rows.traceOrdersSpec) (by kernel_rfl) (by kernel_rfl) (by kernel_rfl) ((opensA_cons opens_ints (opensA_cons opens_i64 opensA_nil))) (fun a ha => Orders_ok a.1 (maxLen_le ha.1.1) a.2.1 (fiti ha.2.1)) rfl
    (fun H ds h => by match ds, h with | [d0, d1], _ => rfl) H enc W base args ds gs before hval hW
theorem traceOrders_over : Rows.traceOrdersRow.holds Try.pinned (OpenSpec.ofChange Rows.traceOrdersSpec) :=
  OpenClaim.holds_of_wide 3 Try.f3 rfl rfl rfl rfl rfl rfl rfl ⟨rfl, rfl, rfl, rfl, rfl⟩ rfl rfl rfl rfl rfl (by kernel_rfl) Try.func3 (by kernel_rfl)
    (of_decide_eq_true (by kernel_rfl)) (by unfold Func.isWrapper; first | (rw [if_pos (by decide +kernel)]; kernel_rfl) | (rw [if_neg (by decide +kernel)]; exact ⟨rfl, rfl⟩))
    (fun os started H enc _ => traceOrders_lifted os started H enc)
theorem traceOrders_holds : Rows.TraceOrdersSaid := traceOrders_over
#print axioms traceOrders_holds
end Go.Proofs.Ytlnpbgjoccipaaa
