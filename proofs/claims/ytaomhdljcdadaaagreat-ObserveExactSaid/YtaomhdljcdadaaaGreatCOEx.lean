/-
  It is proved that the law ObserveExact of the layer 36 (observe) answers true: all functions return what the document returns, for any networks, packets, trips, delays and numbers.
  Conditions: none beyond those of the given statement.
-/
import Derived.Test.YtaomhdljcdadaaaGreatN9
import Derived.Test.YtaomhdljcdadaaaGreatOex
set_option linter.unusedVariables false
set_option linter.unusedSimpArgs false
set_option maxHeartbeats 4000000
set_option maxRecDepth 100000
namespace Go.Proofs.YtaomhdljcdadaaaGreat
open Go.Sx Go.Np Go.Cv Go.Pk Go.ChangeShapes Go.WideShapes Go.ChangeAt Go.RowKit
abbrev FitDs (d : List (List Int)) : Prop := d.length ≤ maxLen ∧ ∀ r ∈ d, r.length ≤ maxLen
theorem opensDs : Opens Tryz.prog 61 (fun d : List (List Int) => [.psl 1 (dls d)]) FitDs :=
  Opens.imp (opens_slice (P := Tryz.prog) (e := 22) (by kernel_rfl) (by kernel_rfl) (by decide +kernel) opensL) (fun a ha => ⟨a, ⟨ha.1, fun r hr => (ha.2 r hr).1⟩, rfl⟩)
theorem opens_delays : OpensArg Tryz.prog 61 (fun d : List (List Int) => .psl 1 (dls d)) FitDs := opensArg_one (D := .slice 22) (by kernel_rfl) rfl opensDs
theorem dl_of {d : List (List Int)} (h : FitDs d) : DL d := ⟨maxLen_le h.1, fun i => by
  by_cases hi : i < d.length
  · exact maxLen_le (h.2 _ (getD_in (d := []) hi))
  · rw [List.getD_eq_getElem?_getD, List.getElem?_eq_none (by omega)]; simp⟩
theorem observeExact_lifted (os : Os) (started : os.Started) (H : Type) (enc : TypeId × Value → H) :
    ReturnsInHanded {} Tryz.checked os 5 .any (Rows.observeExactSpec.pre6 enc Tryz.prog Tryz.f5 Rows.observeExactRow.domain false) (Rows.observeExactSpec.post enc Tryz.prog Tryz.f5 false true false false) := by
  refine returnsInHanded_of_change (C := Tryz.checked) own_knob started (by kernel_rfl) Tryz.func5
    (ChangeSpec.witness6 (enc := enc) (C := Tryz.checked) false ⟨#[], #[.slice none 0 0, .agg #[.slice none 0 0, .slice none 0 0, .slice none 0 0], .slice none 0 0, .agg #[.slice none 0 0], .slice none 0 0, .int .i64 0, .int .i64 0, .int .i64 0], []⟩ 8 (by kernel_rfl) (by kernel_rfl) (by kernel_rfl) (by kernel_rfl)) ?_
  intro W base args ds gs before hval hW _ _
  exact law_contract (ts := [22, 30, 32, 36, 61, 3, 3, 3]) (tb := 4) (spec := Rows.observeExactSpec) (by kernel_rfl) (by kernel_rfl) (by kernel_rfl) ((opensA_cons opens_ints (opensA_cons opens_net (opensA_cons opens_packets (opensA_cons opens_trip (opensA_cons opens_delays (opensA_cons opens_i64 (opensA_cons opens_i64 (opensA_cons opens_i64 opensA_nil))))))))) (fun a ha => oExact_ok a.1 (maxLen_le ha.1.1) a.2.1 (nl_of ha.2.1) a.2.2.1 (maxLen_le ha.2.2.1.1) a.2.2.2.1 (rows_of ha.2.2.2.1).1 (rows_of ha.2.2.2.1).2 a.2.2.2.2.1 (dl_of ha.2.2.2.2.1) a.2.2.2.2.2.1 a.2.2.2.2.2.2.1 a.2.2.2.2.2.2.2.1) rfl
    (fun H ds h => by match ds, h with | [d0, d1, d2, d3, d4, d5, d6, d7], _ => rfl) H enc W base args ds gs before hval hW
theorem observeExact_named : Tryz.pinned.checked.prog.funcNamed Rows.observeExactRow.func = some 5 := by kernel_rfl
theorem observeExact_facts : joinedFacts Tryz.pinned.checked.prog 5 Tryz.f5 Rows.observeExactSpec Rows.observeExactRow = true := by
  unfold joinedFacts
  repeat' (first | (with_reducible refine Bool.and_eq_true_iff.2 (And.intro ?_ ?_)) | (as_aux_lemma => kernel_rfl))
theorem observeExact_inst : Tryz.f5.isInstance Tryz.pinned.checked.prog Rows.observeExactRow.origin Rows.observeExactRow.targs := of_decide_eq_true (by kernel_rfl)
theorem observeExact_over : Rows.observeExactRow.holds Tryz.pinned (OpenSpec.ofChange Rows.observeExactSpec) :=
  OpenClaim.holds_of_wide 5 Tryz.f5 rfl rfl rfl rfl rfl rfl rfl ⟨rfl, rfl, rfl, rfl, rfl⟩ rfl rfl rfl rfl rfl observeExact_named Tryz.func5 observeExact_facts
    observeExact_inst (by unfold Func.isWrapper; first | (rw [if_pos (by decide +kernel)]; kernel_rfl) | (rw [if_neg (by decide +kernel)]; exact ⟨rfl, rfl⟩))
    (fun os started H enc _ => observeExact_lifted os started H enc)
theorem observeExact_holds : Rows.ObserveExactSaid := observeExact_over
#print axioms observeExact_holds
end Go.Proofs.YtaomhdljcdadaaaGreat
