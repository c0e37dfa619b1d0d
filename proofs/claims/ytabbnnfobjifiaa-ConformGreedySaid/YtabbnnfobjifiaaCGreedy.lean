/-
  It is proved that the law ConformGreedy of the layer 14 (conform) answers true: Greedy keeps the curve; and no trace of packets of its size that keeps the curve has more bytes up to any tick.
  Conditions: none beyond those of the given statement.
-/
import Derived.Test.YtabbnnfobjifiaaOp
import Derived.Test.YtabbnnfobjifiaaC15
set_option linter.unusedVariables false
set_option linter.unusedSimpArgs false
namespace Go.Proofs.Ytabbnnfobjifiaa
open Go.Sx Go.ChangeShapes Go.WideShapes Go.ChangeAt Go.RowKit
set_option maxRecDepth 100000
theorem conformGreedy_lifted (os : Os) (started : os.Started) (H : Type) (enc : TypeId × Value → H) :
    ReturnsInHanded {} Try.checked os 5 .any (Rows.conformGreedySpec.pre6 enc Try.prog Try.f5 Rows.conformGreedyRow.domain false) (Rows.conformGreedySpec.post enc Try.prog Try.f5 false true false false) := by
  refine returnsInHanded_of_change (C := Try.checked) own_knob started (by kernel_rfl) Try.func5
    (ChangeSpec.witness6 (enc := enc) (C := Try.checked) false ⟨#[], #[.slice none 0 0], []⟩ 8 (by kernel_rfl) (by kernel_rfl) (by kernel_rfl) (by kernel_rfl)) ?_
  intro W base args ds gs before hval hW _ _
  exact law_contract (ts := [22]) (tb := 4) (spec := Rows.conformGreedySpec) (by kernel_rfl) (by kernel_rfl) (by kernel_rfl) ((opensA_cons opens_ints opensA_nil)) (fun a ha => Greed_ok a.1 (maxLen_le ha.1.1)) rfl
    (fun H ds h => by match ds, h with | [d0], _ => rfl) H enc W base args ds gs before hval hW
theorem conformGreedy_over : Rows.conformGreedyRow.holds Try.pinned (OpenSpec.ofChange Rows.conformGreedySpec) :=
  OpenClaim.holds_of_wide 5 Try.f5 rfl rfl rfl rfl rfl rfl rfl ⟨rfl, rfl, rfl, rfl, rfl⟩ rfl rfl rfl rfl rfl (by kernel_rfl) Try.func5 (by kernel_rfl)
    (of_decide_eq_true (by kernel_rfl)) (by unfold Func.isWrapper; first | (rw [if_pos (by decide +kernel)]; kernel_rfl) | (rw [if_neg (by decide +kernel)]; exact ⟨rfl, rfl⟩))
    (fun os started H enc _ => conformGreedy_lifted os started H enc)
theorem conformGreedy_holds : Rows.ConformGreedySaid := conformGreedy_over
#print axioms conformGreedy_holds
end Go.Proofs.Ytabbnnfobjifiaa
