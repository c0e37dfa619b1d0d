/-
  It is proved that the law SimplexExact of the layer 32 (simplex) answers true: the functions whose results are determined return what the reference returns, for any programmes and points, and so do the status and the value of solutions.
  Conditions: none beyond those of the given statement.
-/
import Derived.Test.YtbdahmfjeklgbaaLib
import Derived.Test.YtbdahmfjeklgbaaOe
import Derived.Test.YtbdahmfjeklgbaaQu
set_option linter.unusedVariables false
set_option linter.unusedSimpArgs false
namespace Go.Proofs.Ytbdahmfjeklgbaa
open Go.Sx Go.ChangeShapes Go.WideShapes Go.ChangeAt Go.RowKit
set_option maxRecDepth 100000
theorem simplexExact_lifted (os : Os) (started : os.Started) (H : Type) (enc : TypeId × Value → H) :
    ReturnsInHanded {} Try.checked os 6 .any (Rows.simplexExactSpec.pre6 enc Try.prog Try.f6 Rows.simplexExactRow.domain false) (Rows.simplexExactSpec.post enc Try.prog Try.f6 false true false false) := by
  refine returnsInHanded_of_change (C := Try.checked) own_knob started (by kernel_rfl) Try.func6
    (ChangeSpec.witness6 (enc := enc) (C := Try.checked) false ⟨#[], #[.slice none 0 0, .agg #[.slice none 0 0, .slice none 0 0], .slice none 0 0, .slice none 0 0], []⟩ 8 (by kernel_rfl) (by kernel_rfl) (by kernel_rfl) (by kernel_rfl)) ?_
  intro W base args ds gs before hval hW _ _
  exact law_contract (ts := [22, 29, 26, 26]) (tb := 4) (spec := Rows.simplexExactSpec) (by kernel_rfl) (by kernel_rfl) (by kernel_rfl) ((opensA_cons opens_ints (opensA_cons opens_prog (opensA_cons opens_fsl (opensA_cons opens_fsl opensA_nil))))) (fun a ha => Exact_ok a.1 (maxLen_le ha.1.1) a.2.1 (pl_of ha.2.1) a.2.2.1 a.2.2.2.1 (maxLen_le ha.2.2.1) (maxLen_le ha.2.2.2.1)) rfl
    (fun H ds h => by match ds, h with | [d0, d1, d2, d3], _ => rfl) H enc W base args ds gs before hval hW
theorem simplexExact_over : Rows.simplexExactRow.holds Try.pinned (OpenSpec.ofChange Rows.simplexExactSpec) :=
  OpenClaim.holds_of_wide 6 Try.f6 rfl rfl rfl rfl rfl rfl rfl ⟨rfl, rfl, rfl, rfl, rfl⟩ rfl rfl rfl rfl rfl (by kernel_rfl) Try.func6 (by kernel_rfl)
    (of_decide_eq_true (by kernel_rfl)) (by unfold Func.isWrapper; first | (rw [if_pos (by decide +kernel)]; kernel_rfl) | (rw [if_neg (by decide +kernel)]; exact ⟨rfl, rfl⟩))
    (fun os started H enc _ => simplexExact_lifted os started H enc)
theorem simplexExact_holds : Rows.SimplexExactSaid := simplexExact_over
#print axioms simplexExact_holds
end Go.Proofs.Ytbdahmfjeklgbaa
