/-
  It is proved that the law AdversaryTight of the layer 37 (adversary) answers true: for one line in the order of arrival and one flow whose contract is a burst at once, the greedy schedule reaches the documented bound.
  Conditions: none beyond those of the given statement.
-/
import Derived.Test.YtjhmjiimpmmnhaaGreatTy
import Derived.Test.YtjhmjiimpmmnhaaGreatJ25
set_option linter.unusedVariables false
set_option linter.unusedSimpArgs false
set_option maxHeartbeats 4000000
set_option maxRecDepth 100000
namespace Go.Proofs.YtjhmjiimpmmnhaaGreat
open Go.Sx Go.ChangeShapes Go.WideShapes Go.ChangeAt Go.RowKit
abbrev FitB (n : Int) : Prop := IntKind.u8.min ≤ n ∧ n ≤ IntKind.u8.max
theorem opens_u8 : OpensArg Tryz.prog 5 (fun n : Int => .num .u8 n) FitB :=
  opensArg_one (D := .int .u8) (by kernel_rfl) rfl (opens_int (by kernel_rfl) (by kernel_rfl))
theorem fitb {n : Int} (h : FitB n) : 0 ≤ n ∧ n ≤ 255 := h
theorem adversaryTight_lifted (os : Os) (started : os.Started) (H : Type) (enc : TypeId × Value → H) :
    ReturnsInHanded {} Tryz.checked os 5 .any (Rows.adversaryTightSpec.pre6 enc Tryz.prog Tryz.f5 Rows.adversaryTightRow.domain false) (Rows.adversaryTightSpec.post enc Tryz.prog Tryz.f5 false true false false) := by
  refine returnsInHanded_of_change (C := Tryz.checked) own_knob started (by kernel_rfl) Tryz.func5
    (ChangeSpec.witness6 (enc := enc) (C := Tryz.checked) false ⟨#[], #[.int .u8 0, .int .u8 0, .int .u8 0], []⟩ 8 (by kernel_rfl) (by kernel_rfl) (by kernel_rfl) (by kernel_rfl)) ?_
  intro W base args ds gs before hval hW _ _
  exact law_contract (ts := [5, 5, 5]) (tb := 4) (spec := Rows.adversaryTightSpec) (by kernel_rfl) (by kernel_rfl) (by kernel_rfl) ((opensA_cons opens_u8 (opensA_cons opens_u8 (opensA_cons opens_u8 opensA_nil)))) (fun a ha => (tLaw_ok a.1 a.2.1 a.2.2.1 (fitb ha.1) (fitb ha.2.1) (fitb ha.2.2.1)).mono fun _ _ h => h.2) rfl
    (fun H ds h => by match ds, h with | [d0, d1, d2], _ => rfl) H enc W base args ds gs before hval hW
theorem adversaryTight_named : Tryz.pinned.checked.prog.funcNamed Rows.adversaryTightRow.func = some 5 := by kernel_rfl
theorem adversaryTight_facts : joinedFacts Tryz.pinned.checked.prog 5 Tryz.f5 Rows.adversaryTightSpec Rows.adversaryTightRow = true := by
  unfold joinedFacts
  repeat' (first | (with_reducible refine Bool.and_eq_true_iff.2 (And.intro ?_ ?_)) | (as_aux_lemma => kernel_rfl))
theorem adversaryTight_inst : Tryz.f5.isInstance Tryz.pinned.checked.prog Rows.adversaryTightRow.origin Rows.adversaryTightRow.targs := of_decide_eq_true (by kernel_rfl)
theorem adversaryTight_over : Rows.adversaryTightRow.holds Tryz.pinned (OpenSpec.ofChange Rows.adversaryTightSpec) :=
  OpenClaim.holds_of_wide 5 Tryz.f5 rfl rfl rfl rfl rfl rfl rfl ⟨rfl, rfl, rfl, rfl, rfl⟩ rfl rfl rfl rfl rfl adversaryTight_named Tryz.func5 adversaryTight_facts
    adversaryTight_inst (by unfold Func.isWrapper; first | (rw [if_pos (by decide +kernel)]; kernel_rfl) | (rw [if_neg (by decide +kernel)]; exact ⟨rfl, rfl⟩))
    (fun os started H enc _ => adversaryTight_lifted os started H enc)
theorem adversaryTight_holds : Rows.AdversaryTightSaid := adversaryTight_over
#print axioms adversaryTight_holds
end Go.Proofs.YtjhmjiimpmmnhaaGreat
