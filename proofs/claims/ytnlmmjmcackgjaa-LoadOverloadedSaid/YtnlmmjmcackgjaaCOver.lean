/-
  It is proved that the law LoadOverloaded of the layer 26 (load) answers true: a line is overloaded exactly if its users want more than its capacity in the long run, which no delays and no bursts change; and without flows nothing is used.
  Conditions: none beyond those of the given statement.
-/
import Derived.Test.YtnlmmjmcackgjaaOp
import Derived.Test.YtnlmmjmcackgjaaX7
set_option linter.unusedVariables false
set_option linter.unusedSimpArgs false
namespace Go.Proofs.Ytnlmmjmcackgjaa
open Go.Sx Go.ChangeShapes Go.WideShapes Go.ChangeAt Go.RowKit
set_option maxRecDepth 100000
abbrev FitB (n : Int) : Prop := IntKind.u8.min ≤ n ∧ n ≤ IntKind.u8.max
theorem opens_u8 : OpensArg Try.prog 5 (fun n : Int => .num .u8 n) FitB :=
  opensArg_one (D := .int .u8) (by kernel_rfl) rfl (opens_int (by kernel_rfl) (by kernel_rfl))
theorem fitb {n : Int} (h : FitB n) : 0 ≤ n ∧ n ≤ 255 := h
theorem loadOverloaded_lifted (os : Os) (started : os.Started) (H : Type) (enc : TypeId × Value → H) :
    ReturnsInHanded {} Try.checked os 10 .any (Rows.loadOverloadedSpec.pre6 enc Try.prog Try.f10 Rows.loadOverloadedRow.domain false) (Rows.loadOverloadedSpec.post enc Try.prog Try.f10 false true false false) := by
  refine returnsInHanded_of_change (C := Try.checked) own_knob started (by kernel_rfl) Try.func10
    (ChangeSpec.witness6 (enc := enc) (C := Try.checked) false ⟨#[], #[.slice none 0 0, .int .u8 0], []⟩ 8 (by kernel_rfl) (by kernel_rfl) (by kernel_rfl) (by kernel_rfl)) ?_
  intro W base args ds gs before hval hW _ _
  exact law_contract (ts := [22, 5]) (tb := 4) (spec := Rows.loadOverloadedSpec) (by kernel_rfl) (by kernel_rfl) (by kernel_rfl) ((opensA_cons opens_ints (opensA_cons opens_u8 opensA_nil))) (fun a ha => Overl_ok a.1 (maxLen_le ha.1.1) a.2.1 (fitb ha.2.1)) rfl
    (fun H ds h => by match ds, h with | [d0, d1], _ => rfl) H enc W base args ds gs before hval hW
theorem loadOverloaded_over : Rows.loadOverloadedRow.holds Try.pinned (OpenSpec.ofChange Rows.loadOverloadedSpec) :=
  OpenClaim.holds_of_wide 10 Try.f10 rfl rfl rfl rfl rfl rfl rfl ⟨rfl, rfl, rfl, rfl, rfl⟩ rfl rfl rfl rfl rfl (by kernel_rfl) Try.func10 (by kernel_rfl)
    (of_decide_eq_true (by kernel_rfl)) (by unfold Func.isWrapper; first | (rw [if_pos (by decide +kernel)]; kernel_rfl) | (rw [if_neg (by decide +kernel)]; exact ⟨rfl, rfl⟩))
    (fun os started H enc _ => loadOverloaded_lifted os started H enc)
theorem loadOverloaded_holds : Rows.LoadOverloadedSaid := loadOverloaded_over
#print axioms loadOverloaded_holds
end Go.Proofs.Ytnlmmjmcackgjaa
