/-
  It is proved that the law TopologyExact of the layer 25 (topology) answers true: all functions return what the reference returns, for any networks.
  Conditions: none beyond those of the given statement.
-/
import Derived.Test.YtnlmmjmcackgjaaLib
import Derived.Test.YtnlmmjmcackgjaaOn
import Derived.Test.YtnlmmjmcackgjaaUn
set_option linter.unusedVariables false
set_option linter.unusedSimpArgs false
namespace Go.Proofs.Ytnlmmjmcackgjaa
open Go.Sx Go.ChangeShapes Go.WideShapes Go.ChangeAt Go.RowKit
set_option maxRecDepth 100000
theorem topologyExact_lifted (os : Os) (started : os.Started) (H : Type) (enc : TypeId × Value → H) :
    ReturnsInHanded {} Try.checked os 4 .any (Rows.topologyExactSpec.pre6 enc Try.prog Try.f4 Rows.topologyExactRow.domain false) (Rows.topologyExactSpec.post enc Try.prog Try.f4 false true false false) := by
  refine returnsInHanded_of_change (C := Try.checked) own_knob started (by kernel_rfl) Try.func4
    (ChangeSpec.witness6 (enc := enc) (C := Try.checked) false ⟨#[], #[.slice none 0 0, .agg #[.slice none 0 0, .slice none 0 0, .slice none 0 0], .int .i64 0, .int .i64 0], []⟩ 8 (by kernel_rfl) (by kernel_rfl) (by kernel_rfl) (by kernel_rfl)) ?_
  intro W base args ds gs before hval hW _ _
  exact law_contract (ts := [22, 28, 3, 3]) (tb := 4) (spec := Rows.topologyExactSpec) (by kernel_rfl) (by kernel_rfl) (by kernel_rfl) ((opensA_cons opens_ints (opensA_cons opens_net (opensA_cons opens_i64 (opensA_cons opens_i64 opensA_nil))))) (fun a ha => (exact_ok a.1 (maxLen_le ha.1.1) a.2.1 (fun _ => nl_of ha.2.1) a.2.2.1 a.2.2.2.1).weak fun r o h => h.2) rfl
    (fun H ds h => by match ds, h with | [d0, d1, d2, d3], _ => rfl) H enc W base args ds gs before hval hW
theorem topologyExact_over : Rows.topologyExactRow.holds Try.pinned (OpenSpec.ofChange Rows.topologyExactSpec) :=
  OpenClaim.holds_of_wide 4 Try.f4 rfl rfl rfl rfl rfl rfl rfl ⟨rfl, rfl, rfl, rfl, rfl⟩ rfl rfl rfl rfl rfl (by kernel_rfl) Try.func4 (by kernel_rfl)
    (of_decide_eq_true (by kernel_rfl)) (by unfold Func.isWrapper; first | (rw [if_pos (by decide +kernel)]; kernel_rfl) | (rw [if_neg (by decide +kernel)]; exact ⟨rfl, rfl⟩))
    (fun os started H enc _ => topologyExact_lifted os started H enc)
theorem topologyExact_holds : Rows.TopologyExactSaid := topologyExact_over
#print axioms topologyExact_holds
end Go.Proofs.Ytnlmmjmcackgjaa
