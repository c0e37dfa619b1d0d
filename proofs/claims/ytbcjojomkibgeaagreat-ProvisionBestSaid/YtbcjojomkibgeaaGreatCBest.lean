/-
  It is proved that the law ProvisionBest of the layer 34 (provision) answers true: rates that are shared keep everything, are proved to have the greatest worth, and no rates of a small range are worth more; or none are possible, which is proved, too.
  Conditions: none beyond those of the given statement.
-/
import Derived.Test.YtbcjojomkibgeaaGreatLib
import Derived.Test.YtbcjojomkibgeaaGreatY8
set_option linter.unusedVariables false
set_option linter.unusedSimpArgs false
set_option maxHeartbeats 4000000
set_option maxRecDepth 100000
namespace Go.Proofs.YtbcjojomkibgeaaGreat
open Go.Sx Go.ChangeShapes Go.WideShapes Go.ChangeAt Go.RowKit
theorem provisionBest_lifted (os : Os) (started : os.Started) (H : Type) (enc : TypeId × Value → H) :
    ReturnsInHanded {} Tryz.checked os 4 .any (Rows.provisionBestSpec.pre6 enc Tryz.prog Tryz.f4 Rows.provisionBestRow.domain false) (Rows.provisionBestSpec.post enc Tryz.prog Tryz.f4 false true false false) := by
  refine returnsInHanded_of_change (C := Tryz.checked) own_knob started (by kernel_rfl) Tryz.func4
    (ChangeSpec.witness6 (enc := enc) (C := Tryz.checked) false ⟨#[], #[.slice none 0 0], []⟩ 8 (by kernel_rfl) (by kernel_rfl) (by kernel_rfl) (by kernel_rfl)) ?_
  intro W base args ds gs before hval hW _ _
  exact law_contract (ts := [22]) (tb := 4) (spec := Rows.provisionBestSpec) (by kernel_rfl) (by kernel_rfl) (by kernel_rfl) ((opensA_cons opens_ints opensA_nil)) (fun a ha => Best_ok a.1 (maxLen_le ha.1.1)) rfl
    (fun H ds h => by match ds, h with | [d0], _ => rfl) H enc W base args ds gs before hval hW
theorem provisionBest_named : Tryz.pinned.checked.prog.funcNamed Rows.provisionBestRow.func = some 4 := by kernel_rfl
theorem provisionBest_facts : joinedFacts Tryz.pinned.checked.prog 4 Tryz.f4 Rows.provisionBestSpec Rows.provisionBestRow = true := by
  unfold joinedFacts
  repeat' (first | (with_reducible refine Bool.and_eq_true_iff.2 (And.intro ?_ ?_)) | (as_aux_lemma => kernel_rfl))
theorem provisionBest_inst : Tryz.f4.isInstance Tryz.pinned.checked.prog Rows.provisionBestRow.origin Rows.provisionBestRow.targs := of_decide_eq_true (by kernel_rfl)
theorem provisionBest_over : Rows.provisionBestRow.holds Tryz.pinned (OpenSpec.ofChange Rows.provisionBestSpec) :=
  OpenClaim.holds_of_wide 4 Tryz.f4 rfl rfl rfl rfl rfl rfl rfl ⟨rfl, rfl, rfl, rfl, rfl⟩ rfl rfl rfl rfl rfl provisionBest_named Tryz.func4 provisionBest_facts
    provisionBest_inst (by unfold Func.isWrapper; first | (rw [if_pos (by decide +kernel)]; kernel_rfl) | (rw [if_neg (by decide +kernel)]; exact ⟨rfl, rfl⟩))
    (fun os started H enc _ => provisionBest_lifted os started H enc)
theorem provisionBest_holds : Rows.ProvisionBestSaid := provisionBest_over
#print axioms provisionBest_holds
end Go.Proofs.YtbcjojomkibgeaaGreat
