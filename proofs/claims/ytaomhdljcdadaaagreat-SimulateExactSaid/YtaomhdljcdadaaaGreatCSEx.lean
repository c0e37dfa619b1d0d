/-
  It is proved that the law SimulateExact of the layer 35 (simulate) answers true: all functions return what the document returns, for any networks, packets, trips and numbers.
  Conditions: none beyond those of the given statement.
-/
import Derived.Test.YtaomhdljcdadaaaGreatN9
import Derived.Test.YtaomhdljcdadaaaGreatSEx
set_option linter.unusedVariables false
set_option linter.unusedSimpArgs false
namespace Go.Proofs.YtaomhdljcdadaaaGreat
open Go.Sx Go.Np Go.Cv Go.Pk Go.ChangeShapes Go.WideShapes Go.ChangeAt Go.RowKit
set_option maxRecDepth 100000
theorem simulateExact_lifted (os : Os) (started : os.Started) (H : Type) (enc : TypeId × Value → H) :
    ReturnsInHanded {} Tryz.checked os 6 .any (Rows.simulateExactSpec.pre6 enc Tryz.prog Tryz.f6 Rows.simulateExactRow.domain false) (Rows.simulateExactSpec.post enc Tryz.prog Tryz.f6 false true false false) := by
  refine returnsInHanded_of_change (C := Tryz.checked) own_knob started (by kernel_rfl) Tryz.func6
    (ChangeSpec.witness6 (enc := enc) (C := Tryz.checked) false ⟨#[], #[.slice none 0 0, .agg #[.slice none 0 0, .slice none 0 0, .slice none 0 0], .slice none 0 0, .agg #[.slice none 0 0], .int .i64 0, .int .i64 0, .int .i64 0, .int .i64 0], []⟩ 8 (by kernel_rfl) (by kernel_rfl) (by kernel_rfl) (by kernel_rfl)) ?_
  intro W base args ds gs before hval hW _ _
  exact law_contract (ts := [22, 30, 32, 36, 3, 3, 3, 3]) (tb := 4) (spec := Rows.simulateExactSpec) (by kernel_rfl) (by kernel_rfl) (by kernel_rfl) ((opensA_cons opens_ints (opensA_cons opens_net (opensA_cons opens_packets (opensA_cons opens_trip (opensA_cons opens_i64 (opensA_cons opens_i64 (opensA_cons opens_i64 (opensA_cons opens_i64 opensA_nil))))))))) (fun a ha => sExact_ok a.1 (maxLen_le ha.1.1) a.2.1 (nl_of ha.2.1) a.2.2.1 (maxLen_le ha.2.2.1.1) a.2.2.2.1 (rows_of ha.2.2.2.1).1 (rows_of ha.2.2.2.1).2 a.2.2.2.2.1 a.2.2.2.2.2.1 a.2.2.2.2.2.2.1 a.2.2.2.2.2.2.2.1) rfl
    (fun H ds h => by match ds, h with | [d0, d1, d2, d3, d4, d5, d6, d7], _ => rfl) H enc W base args ds gs before hval hW
set_option maxHeartbeats 4000000
theorem simulateExact_named : Tryz.pinned.checked.prog.funcNamed Rows.simulateExactRow.func = some 6 := by kernel_rfl
theorem simulateExact_facts : joinedFacts Tryz.pinned.checked.prog 6 Tryz.f6 Rows.simulateExactSpec Rows.simulateExactRow = true := by
  unfold joinedFacts
  repeat' (first | (with_reducible refine Bool.and_eq_true_iff.2 (And.intro ?_ ?_)) | (as_aux_lemma => kernel_rfl))
theorem simulateExact_inst : Tryz.f6.isInstance Tryz.pinned.checked.prog Rows.simulateExactRow.origin Rows.simulateExactRow.targs := of_decide_eq_true (by kernel_rfl)
theorem simulateExact_over : Rows.simulateExactRow.holds Tryz.pinned (OpenSpec.ofChange Rows.simulateExactSpec) :=
  OpenClaim.holds_of_wide 6 Tryz.f6 rfl rfl rfl rfl rfl rfl rfl ⟨rfl, rfl, rfl, rfl, rfl⟩ rfl rfl rfl rfl rfl simulateExact_named Tryz.func6 simulateExact_facts
    simulateExact_inst (by unfold Func.isWrapper; first | (rw [if_pos (by decide +kernel)]; kernel_rfl) | (rw [if_neg (by decide +kernel)]; exact ⟨rfl, rfl⟩))
    (fun os started H enc _ => simulateExact_lifted os started H enc)
theorem simulateExact_holds : Rows.SimulateExactSaid := simulateExact_over
#print axioms simulateExact_holds
end Go.Proofs.YtaomhdljcdadaaaGreat
