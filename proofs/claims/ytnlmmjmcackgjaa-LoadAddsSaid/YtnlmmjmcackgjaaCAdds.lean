/-
  It is proved that the law LoadAdds of the layer 26 (load) answers true: the contract of a class is the sum of those of its members at every tick; and Used is the sum of the rates of all classes.
  Conditions: none beyond those of the given statement.
-/
import Derived.Test.YtnlmmjmcackgjaaOp
import Derived.Test.YtnlmmjmcackgjaaX20
set_option linter.unusedVariables false
set_option linter.unusedSimpArgs false
namespace Go.Proofs.Ytnlmmjmcackgjaa
open Go.Sx Go.ChangeShapes Go.WideShapes Go.ChangeAt Go.RowKit
set_option maxRecDepth 100000
abbrev FitW (n : Int) : Prop := IntKind.u16.min ≤ n ∧ n ≤ IntKind.u16.max
theorem opens_u16 : OpensArg Try.prog 52 (fun n : Int => .num .u16 n) FitW :=
  opensArg_one (D := .int .u16) (by kernel_rfl) rfl (opens_int (by kernel_rfl) (by kernel_rfl))
theorem fitw {n : Int} (h : FitW n) : 0 ≤ n ∧ n ≤ 65535 := h
theorem loadAdds_lifted (os : Os) (started : os.Started) (H : Type) (enc : TypeId × Value → H) :
    ReturnsInHanded {} Try.checked os 11 .any (Rows.loadAddsSpec.pre6 enc Try.prog Try.f11 Rows.loadAddsRow.domain false) (Rows.loadAddsSpec.post enc Try.prog Try.f11 false true false false) := by
  refine returnsInHanded_of_change (C := Try.checked) own_knob started (by kernel_rfl) Try.func11
    (ChangeSpec.witness6 (enc := enc) (C := Try.checked) false ⟨#[], #[.slice none 0 0, .int .u16 0], []⟩ 8 (by kernel_rfl) (by kernel_rfl) (by kernel_rfl) (by kernel_rfl)) ?_
  intro W base args ds gs before hval hW _ _
  exact law_contract (ts := [22, 52]) (tb := 4) (spec := Rows.loadAddsSpec) (by kernel_rfl) (by kernel_rfl) (by kernel_rfl) ((opensA_cons opens_ints (opensA_cons opens_u16 opensA_nil))) (fun a ha => Adds_ok a.1 (maxLen_le ha.1.1) a.2.1 (fitw ha.2.1)) rfl
    (fun H ds h => by match ds, h with | [d0, d1], _ => rfl) H enc W base args ds gs before hval hW
theorem loadAdds_over : Rows.loadAddsRow.holds Try.pinned (OpenSpec.ofChange Rows.loadAddsSpec) :=
  OpenClaim.holds_of_wide 11 Try.f11 rfl rfl rfl rfl rfl rfl rfl ⟨rfl, rfl, rfl, rfl, rfl⟩ rfl rfl rfl rfl rfl (by kernel_rfl) Try.func11 (by kernel_rfl)
    (of_decide_eq_true (by kernel_rfl)) (by unfold Func.isWrapper; first | (rw [if_pos (by decide +kernel)]; kernel_rfl) | (rw [if_neg (by decide +kernel)]; exact ⟨rfl, rfl⟩))
    (fun os started H enc _ => loadAdds_lifted os started H enc)
theorem loadAdds_holds : Rows.LoadAddsSaid := loadAdds_over
#print axioms loadAdds_holds
end Go.Proofs.Ytnlmmjmcackgjaa
