/-
  It is proved that the law NetworkExact of the layer 23 (network) answers true: all functions return what the reference returns, for any networks, names, curves and numbers.
  Conditions: none beyond those of the given statement.
-/
import Derived.Test.YtbbbmkjfmcnnfaaOp
import Derived.Test.YtbbbmkjfmcnnfaaOn
import Derived.Test.YtbbbmkjfmcnnfaaN21
set_option linter.unusedVariables false
set_option linter.unusedSimpArgs false
namespace Go.Proofs.Ytbbbmkjfmcnnfaa
open Go.Sx Go.ChangeShapes Go.WideShapes Go.ChangeAt Go.RowKit
set_option maxRecDepth 100000
theorem networkExact_lifted (os : Os) (started : os.Started) (H : Type) (enc : TypeId × Value → H) :
    ReturnsInHanded {} Try.checked os 3 .any (Rows.networkExactSpec.pre6 enc Try.prog Try.f3 Rows.networkExactRow.domain false) (Rows.networkExactSpec.post enc Try.prog Try.f3 false true false false) := by
  refine returnsInHanded_of_change (C := Try.checked) own_knob started (by kernel_rfl) Try.func3
    (ChangeSpec.witness6 (enc := enc) (C := Try.checked) false ⟨#[], #[.slice none 0 0, .agg #[.slice none 0 0, .slice none 0 0, .slice none 0 0], .string ByteArray.empty, .agg #[.slice none 0 0, .int .i64 0, .int .i64 0], .int .i64 0, .int .i64 0, .int .i64 0], []⟩ 8 (by kernel_rfl) (by kernel_rfl) (by kernel_rfl) (by kernel_rfl)) ?_
  intro W base args ds gs before hval hW _ _
  exact law_contract (ts := [22, 27, 9, 29, 3, 3, 3]) (tb := 4) (spec := Rows.networkExactSpec) (by kernel_rfl) (by kernel_rfl) (by kernel_rfl) ((opensA_cons opens_ints (opensA_cons opens_net (opensA_cons opens_str (opensA_cons opens_curve (opensA_cons opens_i64 (opensA_cons opens_i64 (opensA_cons opens_i64 opensA_nil)))))))) (fun a ha => Exact_ok a.1 (maxLen_le ha.1.1) a.2.1 (nl_of ha.2.1) a.2.2.1 (maxLen_le ha.2.2.1) a.2.2.2.1.1 (maxLen_le ha.2.2.2.1) a.2.2.2.1.2.1 a.2.2.2.1.2.2 a.2.2.2.2.1 a.2.2.2.2.2.1 a.2.2.2.2.2.2.1) rfl
    (fun H ds h => by match ds, h with | [d0, d1, d2, d3, d4, d5, d6], _ => rfl) H enc W base args ds gs before hval hW
theorem networkExact_over : Rows.networkExactRow.holds Try.pinned (OpenSpec.ofChange Rows.networkExactSpec) :=
  OpenClaim.holds_of_wide 3 Try.f3 rfl rfl rfl rfl rfl rfl rfl ⟨rfl, rfl, rfl, rfl, rfl⟩ rfl rfl rfl rfl rfl (by kernel_rfl) Try.func3 (by kernel_rfl)
    (of_decide_eq_true (by kernel_rfl)) (by unfold Func.isWrapper; first | (rw [if_pos (by decide +kernel)]; kernel_rfl) | (rw [if_neg (by decide +kernel)]; exact ⟨rfl, rfl⟩))
    (fun os started H enc _ => networkExact_lifted os started H enc)
theorem networkExact_holds : Rows.NetworkExactSaid := networkExact_over
#print axioms networkExact_holds
end Go.Proofs.Ytbbbmkjfmcnnfaa
