/-
  It is proved that the law SimulateBytes of the layer 35 (simulate) answers true: a packet alone needs its size by the capacity at each hop, rounded up, and a tick for each way.
  Conditions: none beyond those of the given statement.
-/
import Derived.Test.YtaomhdljcdadaaaGreatTy
import Derived.Test.YtaomhdljcdadaaaGreatMbc
set_option linter.unusedVariables false
set_option linter.unusedSimpArgs false
namespace Go.Proofs.YtaomhdljcdadaaaGreat
open Go.Sx Go.ChangeShapes Go.WideShapes Go.ChangeAt Go.RowKit
set_option maxRecDepth 100000
abbrev FitB (n : Int) : Prop := IntKind.u8.min ≤ n ∧ n ≤ IntKind.u8.max
theorem opens_u8 : OpensArg Tryz.prog 5 (fun n : Int => .num .u8 n) FitB :=
  opensArg_one (D := .int .u8) (by kernel_rfl) rfl (opens_int (by kernel_rfl) (by kernel_rfl))
theorem fitb {n : Int} (h : FitB n) : 0 ≤ n ∧ n ≤ 255 := h
abbrev FitH (n : Int) : Prop := IntKind.u16.min ≤ n ∧ n ≤ IntKind.u16.max
theorem opens_u16 : OpensArg Tryz.prog 93 (fun n : Int => .num .u16 n) FitH :=
  opensArg_one (D := .int .u16) (by kernel_rfl) rfl (opens_int (by kernel_rfl) (by kernel_rfl))
theorem fith {n : Int} (h : FitH n) : 0 ≤ n ∧ n ≤ 65535 := h
theorem simulateBytes_lifted (os : Os) (started : os.Started) (H : Type) (enc : TypeId × Value → H) :
    ReturnsInHanded {} Tryz.checked os 11 .any (Rows.simulateBytesSpec.pre6 enc Tryz.prog Tryz.f11 Rows.simulateBytesRow.domain false) (Rows.simulateBytesSpec.post enc Tryz.prog Tryz.f11 false true false false) := by
  refine returnsInHanded_of_change (C := Tryz.checked) own_knob started (by kernel_rfl) Tryz.func11
    (ChangeSpec.witness6 (enc := enc) (C := Tryz.checked) false ⟨#[], #[.slice none 0 0, .int .u16 0, .int .u8 0], []⟩ 8 (by kernel_rfl) (by kernel_rfl) (by kernel_rfl) (by kernel_rfl)) ?_
  intro W base args ds gs before hval hW _ _
  exact law_contract (ts := [22, 93, 5]) (tb := 4) (spec := Rows.simulateBytesSpec) (by kernel_rfl) (by kernel_rfl) (by kernel_rfl) ((opensA_cons opens_ints (opensA_cons opens_u16 (opensA_cons opens_u8 opensA_nil)))) (fun a ha => SBytes_ok a.1 (maxLen_le ha.1.1) a.2.1 (fith ha.2.1) a.2.2.1 (fitb ha.2.2.1)) rfl
    (fun H ds h => by match ds, h with | [d0, d1, d2], _ => rfl) H enc W base args ds gs before hval hW
theorem simulateBytes_over : Rows.simulateBytesRow.holds Tryz.pinned (OpenSpec.ofChange Rows.simulateBytesSpec) :=
  OpenClaim.holds_of_wide 11 Tryz.f11 rfl rfl rfl rfl rfl rfl rfl ⟨rfl, rfl, rfl, rfl, rfl⟩ rfl rfl rfl rfl rfl (by kernel_rfl) Tryz.func11 (by kernel_rfl)
    (of_decide_eq_true (by kernel_rfl)) (by unfold Func.isWrapper; first | (rw [if_pos (by decide +kernel)]; kernel_rfl) | (rw [if_neg (by decide +kernel)]; exact ⟨rfl, rfl⟩))
    (fun os started H enc _ => simulateBytes_lifted os started H enc)
theorem simulateBytes_holds : Rows.SimulateBytesSaid := simulateBytes_over
#print axioms simulateBytes_holds
end Go.Proofs.YtaomhdljcdadaaaGreat
