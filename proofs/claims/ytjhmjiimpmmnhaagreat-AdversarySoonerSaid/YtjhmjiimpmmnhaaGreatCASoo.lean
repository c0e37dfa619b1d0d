/-
  It is proved that the law AdversarySooner of the layer 37 (adversary) answers true: with all offsets later by some ticks everything happens later by as many, and the delay is the same, on lines in the order of arrival or by priorities.
  Conditions: none beyond those of the given statement.
-/
import Derived.Test.YtjhmjiimpmmnhaaGreatLib
import Derived.Test.YtjhmjiimpmmnhaaGreatJ15
set_option linter.unusedVariables false
set_option linter.unusedSimpArgs false
set_option maxHeartbeats 4000000
set_option maxRecDepth 100000
namespace Go.Proofs.YtjhmjiimpmmnhaaGreat
open Go.Sx Go.ChangeShapes Go.WideShapes Go.ChangeAt Go.RowKit
abbrev FitB (n : Int) : Prop := IntKind.u8.min ≤ n ∧ n ≤ IntKind.u8.max
theorem opens_u8 : OpensArg Tryz.prog 5 (fun n : Int => .num .u8 n) FitB :=
  opensArg_one (D := .int .u8) (by kernel_rfl) rfl (opens_int (by kernel_rfl) (by kernel_rfl))
theorem fitb {n : Int} (h : FitB n) : 0 ≤ n ∧ n ≤ 255 := h
theorem adversarySooner_lifted (os : Os) (started : os.Started) (H : Type) (enc : TypeId × Value → H) :
    ReturnsInHanded {} Tryz.checked os 6 .any (Rows.adversarySoonerSpec.pre6 enc Tryz.prog Tryz.f6 Rows.adversarySoonerRow.domain false) (Rows.adversarySoonerSpec.post enc Tryz.prog Tryz.f6 false true false false) := by
  refine returnsInHanded_of_change (C := Tryz.checked) own_knob started (by kernel_rfl) Tryz.func6
    (ChangeSpec.witness6 (enc := enc) (C := Tryz.checked) false ⟨#[], #[.slice none 0 0, .int .u8 0], []⟩ 8 (by kernel_rfl) (by kernel_rfl) (by kernel_rfl) (by kernel_rfl)) ?_
  intro W base args ds gs before hval hW _ _
  exact law_contract (ts := [22, 5]) (tb := 4) (spec := Rows.adversarySoonerSpec) (by kernel_rfl) (by kernel_rfl) (by kernel_rfl) ((opensA_cons opens_ints (opensA_cons opens_u8 opensA_nil))) (fun a ha => sLaw_ok a.1 (maxLen_le ha.1.1) a.2.1 (fitb ha.2.1)) rfl
    (fun H ds h => by match ds, h with | [d0, d1], _ => rfl) H enc W base args ds gs before hval hW
theorem adversarySooner_named : Tryz.pinned.checked.prog.funcNamed Rows.adversarySoonerRow.func = some 6 := by kernel_rfl
theorem adversarySooner_facts : joinedFacts Tryz.pinned.checked.prog 6 Tryz.f6 Rows.adversarySoonerSpec Rows.adversarySoonerRow = true := by
  unfold joinedFacts
  repeat' (first | (with_reducible refine Bool.and_eq_true_iff.2 (And.intro ?_ ?_)) | (as_aux_lemma => kernel_rfl))
theorem adversarySooner_inst : Tryz.f6.isInstance Tryz.pinned.checked.prog Rows.adversarySoonerRow.origin Rows.adversarySoonerRow.targs := of_decide_eq_true (by kernel_rfl)
theorem adversarySooner_over : Rows.adversarySoonerRow.holds Tryz.pinned (OpenSpec.ofChange Rows.adversarySoonerSpec) :=
  OpenClaim.holds_of_wide 6 Tryz.f6 rfl rfl rfl rfl rfl rfl rfl ⟨rfl, rfl, rfl, rfl, rfl⟩ rfl rfl rfl rfl rfl adversarySooner_named Tryz.func6 adversarySooner_facts
    adversarySooner_inst (by unfold Func.isWrapper; first | (rw [if_pos (by decide +kernel)]; kernel_rfl) | (rw [if_neg (by decide +kernel)]; exact ⟨rfl, rfl⟩))
    (fun os started H enc _ => adversarySooner_lifted os started H enc)
theorem adversarySooner_holds : Rows.AdversarySoonerSaid := adversarySooner_over
#print axioms adversarySooner_holds
end Go.Proofs.YtjhmjiimpmmnhaaGreat
