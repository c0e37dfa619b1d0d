/-
  It is proved that the law DualExact of the layer 33 (dual) answers true: all functions return what the reference returns, for any programmes, points and numbers.
  Conditions: none beyond those of the given statement.
-/
import Derived.Test.YtdkfgecaejmanaaOp
import Derived.Test.YtdkfgecaejmanaaOd
import Derived.Test.YtdkfgecaejmanaaE1
set_option linter.unusedVariables false
set_option linter.unusedSimpArgs false
namespace Go.Proofs.Ytdkfgecaejmanaa
open Go.Sx Go.ChangeShapes Go.WideShapes Go.ChangeAt Go.RowKit
set_option maxRecDepth 100000
theorem dualExact_lifted (os : Os) (started : os.Started) (H : Type) (enc : TypeId × Value → H) :
    ReturnsInHanded {} Try.checked os 3 .any (Rows.dualExactSpec.pre6 enc Try.prog Try.f3 Rows.dualExactRow.domain false) (Rows.dualExactSpec.post enc Try.prog Try.f3 false true false false) := by
  refine returnsInHanded_of_change (C := Try.checked) own_knob started (by kernel_rfl) Try.func3
    (ChangeSpec.witness6 (enc := enc) (C := Try.checked) false ⟨#[], #[.slice none 0 0, .agg #[.slice none 0 0, .slice none 0 0], .slice none 0 0, .slice none 0 0, .agg #[.int .i64 0, .slice none 0 0, .int .i64 0, .int .i64 0, .slice none 0 0, .slice none 0 0]], []⟩ 8 (by kernel_rfl) (by kernel_rfl) (by kernel_rfl) (by kernel_rfl)) ?_
  intro W base args ds gs before hval hW _ _
  exact law_contract (ts := [22, 26, 23, 23, 30]) (tb := 4) (spec := Rows.dualExactSpec) (by kernel_rfl) (by kernel_rfl) (by kernel_rfl) ((opensA_cons opens_ints (opensA_cons opens_prog (opensA_cons opens_fsl (opensA_cons opens_fsl (opensA_cons opens_sol opensA_nil)))))) (fun a ha => Exact_ok a.1 (maxLen_le ha.1.1) a.2.1 (pl_of ha.2.1) a.2.2.1 a.2.2.2.1 (maxLen_le ha.2.2.1) (maxLen_le ha.2.2.2.1) a.2.2.2.2.1.1 a.2.2.2.2.1.2.1 a.2.2.2.2.1.2.2.1 a.2.2.2.2.1.2.2.2.1 a.2.2.2.2.1.2.2.2.2 (maxLen_le ha.2.2.2.2.1.1) (maxLen_le ha.2.2.2.2.1.2.1) (maxLen_le ha.2.2.2.2.1.2.2)) rfl
    (fun H ds h => by match ds, h with | [d0, d1, d2, d3, d4], _ => rfl) H enc W base args ds gs before hval hW
theorem dualExact_over : Rows.dualExactRow.holds Try.pinned (OpenSpec.ofChange Rows.dualExactSpec) :=
  OpenClaim.holds_of_wide 3 Try.f3 rfl rfl rfl rfl rfl rfl rfl ⟨rfl, rfl, rfl, rfl, rfl⟩ rfl rfl rfl rfl rfl (by kernel_rfl) Try.func3 (by kernel_rfl)
    (of_decide_eq_true (by kernel_rfl)) (by unfold Func.isWrapper; first | (rw [if_pos (by decide +kernel)]; kernel_rfl) | (rw [if_neg (by decide +kernel)]; exact ⟨rfl, rfl⟩))
    (fun os started H enc _ => dualExact_lifted os started H enc)
theorem dualExact_holds : Rows.DualExactSaid := dualExact_over
#print axioms dualExact_holds
end Go.Proofs.Ytdkfgecaejmanaa
