/-
  It is proved that the law DualScales of the layer 33 (dual) answers true: a proof of infeasibility is one, too, when all its numbers are doubled, the proofs of solutions are accepted, and no proof of optimality is one of infeasibility.
  Conditions: none beyond those of the given statement.
-/
import Derived.Test.YtdkfgecaejmanaaOp
import Derived.Test.YtdkfgecaejmanaaS15
set_option linter.unusedVariables false
set_option linter.unusedSimpArgs false
namespace Go.Proofs.Ytdkfgecaejmanaa
open Go.Sx Go.ChangeShapes Go.WideShapes Go.ChangeAt Go.RowKit
set_option maxRecDepth 100000
theorem dualScales_lifted (os : Os) (started : os.Started) (H : Type) (enc : TypeId × Value → H) :
    ReturnsInHanded {} Try.checked os 7 .any (Rows.dualScalesSpec.pre6 enc Try.prog Try.f7 Rows.dualScalesRow.domain false) (Rows.dualScalesSpec.post enc Try.prog Try.f7 false true false false) := by
  refine returnsInHanded_of_change (C := Try.checked) own_knob started (by kernel_rfl) Try.func7
    (ChangeSpec.witness6 (enc := enc) (C := Try.checked) false ⟨#[], #[.slice none 0 0], []⟩ 8 (by kernel_rfl) (by kernel_rfl) (by kernel_rfl) (by kernel_rfl)) ?_
  intro W base args ds gs before hval hW _ _
  exact law_contract (ts := [22]) (tb := 4) (spec := Rows.dualScalesSpec) (by kernel_rfl) (by kernel_rfl) (by kernel_rfl) ((opensA_cons opens_ints opensA_nil)) (fun a ha => Scales_ok a.1 (maxLen_le ha.1.1)) rfl
    (fun H ds h => by match ds, h with | [d0], _ => rfl) H enc W base args ds gs before hval hW
theorem dualScales_over : Rows.dualScalesRow.holds Try.pinned (OpenSpec.ofChange Rows.dualScalesSpec) :=
  OpenClaim.holds_of_wide 7 Try.f7 rfl rfl rfl rfl rfl rfl rfl ⟨rfl, rfl, rfl, rfl, rfl⟩ rfl rfl rfl rfl rfl (by kernel_rfl) Try.func7 (by kernel_rfl)
    (of_decide_eq_true (by kernel_rfl)) (by unfold Func.isWrapper; first | (rw [if_pos (by decide +kernel)]; kernel_rfl) | (rw [if_neg (by decide +kernel)]; exact ⟨rfl, rfl⟩))
    (fun os started H enc _ => dualScales_lifted os started H enc)
theorem dualScales_holds : Rows.DualScalesSaid := dualScales_over
#print axioms dualScales_holds
end Go.Proofs.Ytdkfgecaejmanaa
