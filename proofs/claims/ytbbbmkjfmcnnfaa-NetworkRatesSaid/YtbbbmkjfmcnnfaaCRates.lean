/-
  It is proved that the law NetworkRates of the layer 23 (network) answers true: the long-run rate does not depend on how a curve is written, and is the growth over many periods.
  Conditions: none beyond those of the given statement.
-/
import Derived.Test.YtbbbmkjfmcnnfaaOp
import Derived.Test.YtbbbmkjfmcnnfaaN20
set_option linter.unusedVariables false
set_option linter.unusedSimpArgs false
namespace Go.Proofs.Ytbbbmkjfmcnnfaa
open Go.Sx Go.ChangeShapes Go.WideShapes Go.ChangeAt Go.RowKit
set_option maxRecDepth 100000
abbrev FitB (n : Int) : Prop := IntKind.u8.min ≤ n ∧ n ≤ IntKind.u8.max
theorem opens_u8 : OpensArg Try.prog 5 (fun n : Int => .num .u8 n) FitB :=
  opensArg_one (D := .int .u8) (by kernel_rfl) rfl (opens_int (by kernel_rfl) (by kernel_rfl))
theorem fitb {n : Int} (h : FitB n) : 0 ≤ n ∧ n ≤ 255 := h
theorem networkRates_lifted (os : Os) (started : os.Started) (H : Type) (enc : TypeId × Value → H) :
    ReturnsInHanded {} Try.checked os 5 .any (Rows.networkRatesSpec.pre6 enc Try.prog Try.f5 Rows.networkRatesRow.domain false) (Rows.networkRatesSpec.post enc Try.prog Try.f5 false true false false) := by
  refine returnsInHanded_of_change (C := Try.checked) own_knob started (by kernel_rfl) Try.func5
    (ChangeSpec.witness6 (enc := enc) (C := Try.checked) false ⟨#[], #[.slice none 0 0, .int .u8 0, .int .u8 0], []⟩ 8 (by kernel_rfl) (by kernel_rfl) (by kernel_rfl) (by kernel_rfl)) ?_
  intro W base args ds gs before hval hW _ _
  exact law_contract (ts := [22, 5, 5]) (tb := 4) (spec := Rows.networkRatesSpec) (by kernel_rfl) (by kernel_rfl) (by kernel_rfl) ((opensA_cons opens_ints (opensA_cons opens_u8 (opensA_cons opens_u8 opensA_nil)))) (fun a ha => Rates_ok a.1 (maxLen_le ha.1.1) a.2.1 a.2.2.1 (fitb ha.2.1).1 (fitb ha.2.1).2 (fitb ha.2.2.1).1 (fitb ha.2.2.1).2) rfl
    (fun H ds h => by match ds, h with | [d0, d1, d2], _ => rfl) H enc W base args ds gs before hval hW
theorem networkRates_over : Rows.networkRatesRow.holds Try.pinned (OpenSpec.ofChange Rows.networkRatesSpec) :=
  OpenClaim.holds_of_wide 5 Try.f5 rfl rfl rfl rfl rfl rfl rfl ⟨rfl, rfl, rfl, rfl, rfl⟩ rfl rfl rfl rfl rfl (by kernel_rfl) Try.func5 (by kernel_rfl)
    (of_decide_eq_true (by kernel_rfl)) (by unfold Func.isWrapper; first | (rw [if_pos (by decide +kernel)]; kernel_rfl) | (rw [if_neg (by decide +kernel)]; exact ⟨rfl, rfl⟩))
    (fun os started H enc _ => networkRates_lifted os started H enc)
theorem networkRates_holds : Rows.NetworkRatesSaid := networkRates_over
#print axioms networkRates_holds
end Go.Proofs.Ytbbbmkjfmcnnfaa
