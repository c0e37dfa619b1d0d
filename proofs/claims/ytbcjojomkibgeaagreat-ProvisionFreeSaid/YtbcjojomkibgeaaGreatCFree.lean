/-
  It is proved that the law ProvisionFree of the layer 34 (provision) answers true: without least rates something is always possible, and one more byte per tick of a line never makes the worth less.
  Conditions: none beyond those of the given statement.
-/
import Derived.Test.YtbcjojomkibgeaaGreatLib
import Derived.Test.YtbcjojomkibgeaaGreatY9
set_option linter.unusedVariables false
set_option linter.unusedSimpArgs false
set_option maxHeartbeats 4000000
set_option maxRecDepth 100000
namespace Go.Proofs.YtbcjojomkibgeaaGreat
open Go.Sx Go.ChangeShapes Go.WideShapes Go.ChangeAt Go.RowKit
abbrev FitB (n : Int) : Prop := IntKind.u8.min ≤ n ∧ n ≤ IntKind.u8.max
theorem opens_u8 : OpensArg Tryz.prog 5 (fun n : Int => .num .u8 n) FitB :=
  opensArg_one (D := .int .u8) (by kernel_rfl) rfl (opens_int (by kernel_rfl) (by kernel_rfl))
theorem fitb {n : Int} (h : FitB n) : 0 ≤ n ∧ n ≤ 255 := h
theorem provisionFree_lifted (os : Os) (started : os.Started) (H : Type) (enc : TypeId × Value → H) :
    ReturnsInHanded {} Tryz.checked os 5 .any (Rows.provisionFreeSpec.pre6 enc Tryz.prog Tryz.f5 Rows.provisionFreeRow.domain false) (Rows.provisionFreeSpec.post enc Tryz.prog Tryz.f5 false true false false) := by
  refine returnsInHanded_of_change (C := Tryz.checked) own_knob started (by kernel_rfl) Tryz.func5
    (ChangeSpec.witness6 (enc := enc) (C := Tryz.checked) false ⟨#[], #[.slice none 0 0, .int .u8 0, .int .u8 0], []⟩ 8 (by kernel_rfl) (by kernel_rfl) (by kernel_rfl) (by kernel_rfl)) ?_
  intro W base args ds gs before hval hW _ _
  exact law_contract (ts := [22, 5, 5]) (tb := 4) (spec := Rows.provisionFreeSpec) (by kernel_rfl) (by kernel_rfl) (by kernel_rfl) ((opensA_cons opens_ints (opensA_cons opens_u8 (opensA_cons opens_u8 opensA_nil)))) (fun a ha => Free_ok a.1 (maxLen_le ha.1.1) a.2.1 a.2.2.1 (fitb ha.2.1) (fitb ha.2.2.1)) rfl
    (fun H ds h => by match ds, h with | [d0, d1, d2], _ => rfl) H enc W base args ds gs before hval hW
theorem provisionFree_named : Tryz.pinned.checked.prog.funcNamed Rows.provisionFreeRow.func = some 5 := by kernel_rfl
theorem provisionFree_facts : joinedFacts Tryz.pinned.checked.prog 5 Tryz.f5 Rows.provisionFreeSpec Rows.provisionFreeRow = true := by
  unfold joinedFacts
  repeat' (first | (with_reducible refine Bool.and_eq_true_iff.2 (And.intro ?_ ?_)) | (as_aux_lemma => kernel_rfl))
theorem provisionFree_inst : Tryz.f5.isInstance Tryz.pinned.checked.prog Rows.provisionFreeRow.origin Rows.provisionFreeRow.targs := of_decide_eq_true (by kernel_rfl)
theorem provisionFree_over : Rows.provisionFreeRow.holds Tryz.pinned (OpenSpec.ofChange Rows.provisionFreeSpec) :=
  OpenClaim.holds_of_wide 5 Tryz.f5 rfl rfl rfl rfl rfl rfl rfl ⟨rfl, rfl, rfl, rfl, rfl⟩ rfl rfl rfl rfl rfl provisionFree_named Tryz.func5 provisionFree_facts
    provisionFree_inst (by unfold Func.isWrapper; first | (rw [if_pos (by decide +kernel)]; kernel_rfl) | (rw [if_neg (by decide +kernel)]; exact ⟨rfl, rfl⟩))
    (fun os started H enc _ => provisionFree_lifted os started H enc)
theorem provisionFree_holds : Rows.ProvisionFreeSaid := provisionFree_over
#print axioms provisionFree_holds
end Go.Proofs.YtbcjojomkibgeaaGreat
