/-
  It is proved that the law ObserveWaiting of the layer 36 (observe) answers true: nothing waits of a class at a line before its first packet arrives, all that has arrived and is not sent waits, and nothing waits behind the tick in which the last byte is sent.
  Conditions: none beyond those of the given statement.
-/
import Derived.Test.YtaomhdljcdadaaaGreatLib
import Derived.Test.YtaomhdljcdadaaaGreatO9
set_option linter.unusedVariables false
set_option linter.unusedSimpArgs false
namespace Go.Proofs.YtaomhdljcdadaaaGreat
open Go.Sx Go.ChangeShapes Go.WideShapes Go.ChangeAt Go.RowKit
set_option maxRecDepth 100000
abbrev FitB (n : Int) : Prop := IntKind.u8.min ≤ n ∧ n ≤ IntKind.u8.max
theorem opens_u8 : OpensArg Tryz.prog 5 (fun n : Int => .num .u8 n) FitB :=
  opensArg_one (D := .int .u8) (by kernel_rfl) rfl (opens_int (by kernel_rfl) (by kernel_rfl))
theorem fitb {n : Int} (h : FitB n) : 0 ≤ n ∧ n ≤ 255 := h
theorem observeWaiting_lifted (os : Os) (started : os.Started) (H : Type) (enc : TypeId × Value → H) :
    ReturnsInHanded {} Tryz.checked os 4 .any (Rows.observeWaitingSpec.pre6 enc Tryz.prog Tryz.f4 Rows.observeWaitingRow.domain false) (Rows.observeWaitingSpec.post enc Tryz.prog Tryz.f4 false true false false) := by
  refine returnsInHanded_of_change (C := Tryz.checked) own_knob started (by kernel_rfl) Tryz.func4
    (ChangeSpec.witness6 (enc := enc) (C := Tryz.checked) false ⟨#[], #[.slice none 0 0, .int .u8 0], []⟩ 8 (by kernel_rfl) (by kernel_rfl) (by kernel_rfl) (by kernel_rfl)) ?_
  intro W base args ds gs before hval hW _ _
  exact law_contract (ts := [22, 5]) (tb := 4) (spec := Rows.observeWaitingSpec) (by kernel_rfl) (by kernel_rfl) (by kernel_rfl) ((opensA_cons opens_ints (opensA_cons opens_u8 opensA_nil))) (fun a ha => Waits_ok a.1 (maxLen_le ha.1.1) a.2.1 (fitb ha.2.1)) rfl
    (fun H ds h => by match ds, h with | [d0, d1], _ => rfl) H enc W base args ds gs before hval hW
theorem observeWaiting_over : Rows.observeWaitingRow.holds Tryz.pinned (OpenSpec.ofChange Rows.observeWaitingSpec) :=
  OpenClaim.holds_of_wide 4 Tryz.f4 rfl rfl rfl rfl rfl rfl rfl ⟨rfl, rfl, rfl, rfl, rfl⟩ rfl rfl rfl rfl rfl (by kernel_rfl) Tryz.func4 (by kernel_rfl)
    (of_decide_eq_true (by kernel_rfl)) (by unfold Func.isWrapper; first | (rw [if_pos (by decide +kernel)]; kernel_rfl) | (rw [if_neg (by decide +kernel)]; exact ⟨rfl, rfl⟩))
    (fun os started H enc _ => observeWaiting_lifted os started H enc)
theorem observeWaiting_holds : Rows.ObserveWaitingSaid := observeWaiting_over
#print axioms observeWaiting_holds
end Go.Proofs.YtaomhdljcdadaaaGreat
