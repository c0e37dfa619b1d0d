/-
  It is proved that the law ObserveAdds of the layer 36 (observe) answers true: the end-to-end delay is the sum of the delays at all hops, and a tick for each way between two of them, and Worst is the greatest.
  Conditions: none beyond those of the given statement.
-/
import Derived.Test.YtaomhdljcdadaaaGreatLib
import Derived.Test.YtaomhdljcdadaaaGreatO8
set_option linter.unusedVariables false
set_option linter.unusedSimpArgs false
namespace Go.Proofs.YtaomhdljcdadaaaGreat
open Go.Sx Go.ChangeShapes Go.WideShapes Go.ChangeAt Go.RowKit
set_option maxRecDepth 100000
theorem observeAdds_lifted (os : Os) (started : os.Started) (H : Type) (enc : TypeId × Value → H) :
    ReturnsInHanded {} Tryz.checked os 3 .any (Rows.observeAddsSpec.pre6 enc Tryz.prog Tryz.f3 Rows.observeAddsRow.domain false) (Rows.observeAddsSpec.post enc Tryz.prog Tryz.f3 false true false false) := by
  refine returnsInHanded_of_change (C := Tryz.checked) own_knob started (by kernel_rfl) Tryz.func3
    (ChangeSpec.witness6 (enc := enc) (C := Tryz.checked) false ⟨#[], #[.slice none 0 0], []⟩ 8 (by kernel_rfl) (by kernel_rfl) (by kernel_rfl) (by kernel_rfl)) ?_
  intro W base args ds gs before hval hW _ _
  exact law_contract (ts := [22]) (tb := 4) (spec := Rows.observeAddsSpec) (by kernel_rfl) (by kernel_rfl) (by kernel_rfl) ((opensA_cons opens_ints opensA_nil)) (fun a ha => Adds_ok a.1 (maxLen_le ha.1.1)) rfl
    (fun H ds h => by match ds, h with | [d0], _ => rfl) H enc W base args ds gs before hval hW
theorem observeAdds_over : Rows.observeAddsRow.holds Tryz.pinned (OpenSpec.ofChange Rows.observeAddsSpec) :=
  OpenClaim.holds_of_wide 3 Tryz.f3 rfl rfl rfl rfl rfl rfl rfl ⟨rfl, rfl, rfl, rfl, rfl⟩ rfl rfl rfl rfl rfl (by kernel_rfl) Tryz.func3 (by kernel_rfl)
    (of_decide_eq_true (by kernel_rfl)) (by unfold Func.isWrapper; first | (rw [if_pos (by decide +kernel)]; kernel_rfl) | (rw [if_neg (by decide +kernel)]; exact ⟨rfl, rfl⟩))
    (fun os started H enc _ => observeAdds_lifted os started H enc)
theorem observeAdds_holds : Rows.ObserveAddsSaid := observeAdds_over
#print axioms observeAdds_holds
end Go.Proofs.YtaomhdljcdadaaaGreat
