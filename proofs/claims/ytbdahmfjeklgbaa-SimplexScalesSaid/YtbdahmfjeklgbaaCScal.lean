/-
  It is proved that the law SimplexScales of the layer 32 (simplex) answers true: costs times a positive integer multiply the value; a row twice and the order of the rows change nothing; one more row never makes the value less.
  Conditions: none beyond those of the given statement.
-/
import Derived.Test.YtbdahmfjeklgbaaOp
import Derived.Test.YtbdahmfjeklgbaaQs
set_option linter.unusedVariables false
set_option linter.unusedSimpArgs false
namespace Go.Proofs.Ytbdahmfjeklgbaa
open Go.Sx Go.ChangeShapes Go.WideShapes Go.ChangeAt Go.RowKit
set_option maxRecDepth 100000
abbrev FitB (n : Int) : Prop := IntKind.u8.min ≤ n ∧ n ≤ IntKind.u8.max
theorem opens_u8 : OpensArg Try.prog 5 (fun n : Int => .num .u8 n) FitB :=
  opensArg_one (D := .int .u8) (by kernel_rfl) rfl (opens_int (by kernel_rfl) (by kernel_rfl))
theorem fitb {n : Int} (h : FitB n) : 0 ≤ n ∧ n ≤ 255 := h
theorem simplexScales_lifted (os : Os) (started : os.Started) (H : Type) (enc : TypeId × Value → H) :
    ReturnsInHanded {} Try.checked os 3 .any (Rows.simplexScalesSpec.pre6 enc Try.prog Try.f3 Rows.simplexScalesRow.domain false) (Rows.simplexScalesSpec.post enc Try.prog Try.f3 false true false false) := by
  refine returnsInHanded_of_change (C := Try.checked) own_knob started (by kernel_rfl) Try.func3
    (ChangeSpec.witness6 (enc := enc) (C := Try.checked) false ⟨#[], #[.slice none 0 0, .int .u8 0], []⟩ 8 (by kernel_rfl) (by kernel_rfl) (by kernel_rfl) (by kernel_rfl)) ?_
  intro W base args ds gs before hval hW _ _
  exact law_contract (ts := [22, 5]) (tb := 4) (spec := Rows.simplexScalesSpec) (by kernel_rfl) (by kernel_rfl) (by kernel_rfl) ((opensA_cons opens_ints (opensA_cons opens_u8 opensA_nil))) (fun a ha => Scales_ok a.1 (maxLen_le ha.1.1) a.2.1 (fitb ha.2.1).1 (fitb ha.2.1).2) rfl
    (fun H ds h => by match ds, h with | [d0, d1], _ => rfl) H enc W base args ds gs before hval hW
theorem simplexScales_over : Rows.simplexScalesRow.holds Try.pinned (OpenSpec.ofChange Rows.simplexScalesSpec) :=
  OpenClaim.holds_of_wide 3 Try.f3 rfl rfl rfl rfl rfl rfl rfl ⟨rfl, rfl, rfl, rfl, rfl⟩ rfl rfl rfl rfl rfl (by kernel_rfl) Try.func3 (by kernel_rfl)
    (of_decide_eq_true (by kernel_rfl)) (by unfold Func.isWrapper; first | (rw [if_pos (by decide +kernel)]; kernel_rfl) | (rw [if_neg (by decide +kernel)]; exact ⟨rfl, rfl⟩))
    (fun os started H enc _ => simplexScales_lifted os started H enc)
theorem simplexScales_holds : Rows.SimplexScalesSaid := simplexScales_over
#print axioms simplexScales_holds
end Go.Proofs.Ytbdahmfjeklgbaa
