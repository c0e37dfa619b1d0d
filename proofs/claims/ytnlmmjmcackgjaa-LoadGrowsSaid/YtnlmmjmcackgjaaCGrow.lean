/-
  It is proved that the law LoadGrows of the layer 26 (load) answers true: greater delays never make a contract smaller at any tick; it keeps its rate; and the first hop has the contract itself.
  Conditions: none beyond those of the given statement.
-/
import Derived.Test.YtnlmmjmcackgjaaOp
import Derived.Test.YtnlmmjmcackgjaaX10
set_option linter.unusedVariables false
set_option linter.unusedSimpArgs false
namespace Go.Proofs.Ytnlmmjmcackgjaa
open Go.Sx Go.ChangeShapes Go.WideShapes Go.ChangeAt Go.RowKit
set_option maxRecDepth 100000
abbrev FitB (n : Int) : Prop := IntKind.u8.min ≤ n ∧ n ≤ IntKind.u8.max
theorem opens_u8 : OpensArg Try.prog 5 (fun n : Int => .num .u8 n) FitB :=
  opensArg_one (D := .int .u8) (by kernel_rfl) rfl (opens_int (by kernel_rfl) (by kernel_rfl))
theorem fitb {n : Int} (h : FitB n) : 0 ≤ n ∧ n ≤ 255 := h
abbrev FitW (n : Int) : Prop := IntKind.u16.min ≤ n ∧ n ≤ IntKind.u16.max
theorem opens_u16 : OpensArg Try.prog 52 (fun n : Int => .num .u16 n) FitW :=
  opensArg_one (D := .int .u16) (by kernel_rfl) rfl (opens_int (by kernel_rfl) (by kernel_rfl))
theorem fitw {n : Int} (h : FitW n) : 0 ≤ n ∧ n ≤ 65535 := h
theorem loadGrows_lifted (os : Os) (started : os.Started) (H : Type) (enc : TypeId × Value → H) :
    ReturnsInHanded {} Try.checked os 9 .any (Rows.loadGrowsSpec.pre6 enc Try.prog Try.f9 Rows.loadGrowsRow.domain false) (Rows.loadGrowsSpec.post enc Try.prog Try.f9 false true false false) := by
  refine returnsInHanded_of_change (C := Try.checked) own_knob started (by kernel_rfl) Try.func9
    (ChangeSpec.witness6 (enc := enc) (C := Try.checked) false ⟨#[], #[.slice none 0 0, .int .u8 0, .int .u16 0], []⟩ 8 (by kernel_rfl) (by kernel_rfl) (by kernel_rfl) (by kernel_rfl)) ?_
  intro W base args ds gs before hval hW _ _
  exact law_contract (ts := [22, 5, 52]) (tb := 4) (spec := Rows.loadGrowsSpec) (by kernel_rfl) (by kernel_rfl) (by kernel_rfl) ((opensA_cons opens_ints (opensA_cons opens_u8 (opensA_cons opens_u16 opensA_nil)))) (fun a ha => Grows_ok a.1 (maxLen_le ha.1.1) a.2.1 (fitb ha.2.1) a.2.2.1 (fitw ha.2.2.1)) rfl
    (fun H ds h => by match ds, h with | [d0, d1, d2], _ => rfl) H enc W base args ds gs before hval hW
theorem loadGrows_over : Rows.loadGrowsRow.holds Try.pinned (OpenSpec.ofChange Rows.loadGrowsSpec) :=
  OpenClaim.holds_of_wide 9 Try.f9 rfl rfl rfl rfl rfl rfl rfl ⟨rfl, rfl, rfl, rfl, rfl⟩ rfl rfl rfl rfl rfl (by kernel_rfl) Try.func9 (by kernel_rfl)
    (of_decide_eq_true (by kernel_rfl)) (by unfold Func.isWrapper; first | (rw [if_pos (by decide +kernel)]; kernel_rfl) | (rw [if_neg (by decide +kernel)]; exact ⟨rfl, rfl⟩))
    (fun os started H enc _ => loadGrows_lifted os started H enc)
theorem loadGrows_holds : Rows.LoadGrowsSaid := loadGrows_over
#print axioms loadGrows_holds
end Go.Proofs.Ytnlmmjmcackgjaa
