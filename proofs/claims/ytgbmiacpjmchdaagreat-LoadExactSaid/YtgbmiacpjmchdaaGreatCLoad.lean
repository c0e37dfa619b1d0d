/-
  It is proved that the law LoadExact of the layer 26 (load) answers true: all functions return what the reference returns, for any networks, delays and numbers.
  Conditions: none beyond those of the given statement.
-/
import Derived.Test.YtgbmiacpjmchdaaGreatLib
import Derived.Test.YtgbmiacpjmchdaaGreatOn
import Derived.Test.YtgbmiacpjmchdaaGreatY12
set_option linter.unusedVariables false
set_option linter.unusedSimpArgs false
namespace Go.Proofs.YtgbmiacpjmchdaaGreat
open Go.Sx Go.Np Go.Cv Go.ChangeShapes Go.WideShapes Go.ChangeAt Go.RowKit
set_option maxRecDepth 100000
abbrev FitDs (d : List (List Int)) : Prop := d.length ≤ maxLen ∧ ∀ r ∈ d, r.length ≤ maxLen
theorem opensDs : Opens Tryz.prog 29 (fun d : List (List Int) => [.psl 1 (dls d)]) FitDs :=
  Opens.imp (opens_slice (P := Tryz.prog) (e := 22) (by kernel_rfl) (by kernel_rfl) (by decide +kernel) opensL) (fun a ha => ⟨a, ⟨ha.1, fun r hr => (ha.2 r hr).1⟩, rfl⟩)
theorem opens_delays : OpensArg Tryz.prog 29 (fun d : List (List Int) => .psl 1 (dls d)) FitDs := opensArg_one (D := .slice 22) (by kernel_rfl) rfl opensDs
theorem dl_of {d : List (List Int)} (h : FitDs d) : DL d := ⟨maxLen_le h.1, fun i => by
  by_cases hi : i < d.length
  · exact maxLen_le (h.2 _ (getD_in (d := []) hi))
  · rw [List.getD_eq_getElem?_getD, List.getElem?_eq_none (by omega)]; simp⟩
theorem loadExact_lifted (os : Os) (started : os.Started) (H : Type) (enc : TypeId × Value → H) :
    ReturnsInHanded {} Tryz.checked os 3 .any (Rows.loadExactSpec.pre6 enc Tryz.prog Tryz.f3 Rows.loadExactRow.domain false) (Rows.loadExactSpec.post enc Tryz.prog Tryz.f3 false true false false) := by
  refine returnsInHanded_of_change (C := Tryz.checked) own_knob started (by kernel_rfl) Tryz.func3
    (ChangeSpec.witness6 (enc := enc) (C := Tryz.checked) false ⟨#[], #[.slice none 0 0, .agg #[.slice none 0 0, .slice none 0 0, .slice none 0 0], .slice none 0 0, .int .i64 0, .int .i64 0, .int .i64 0, .int .i64 0], []⟩ 8 (by kernel_rfl) (by kernel_rfl) (by kernel_rfl) (by kernel_rfl)) ?_
  intro W base args ds gs before hval hW _ _
  exact law_contract (ts := [22, 27, 29, 3, 3, 3, 3]) (tb := 4) (spec := Rows.loadExactSpec) (by kernel_rfl) (by kernel_rfl) (by kernel_rfl) ((opensA_cons opens_ints (opensA_cons opens_net (opensA_cons opens_delays (opensA_cons opens_i64 (opensA_cons opens_i64 (opensA_cons opens_i64 (opensA_cons opens_i64 opensA_nil)))))))) (fun a ha => lexact_ok a.1 (maxLen_le ha.1.1) a.2.1 (nl_of ha.2.1) a.2.2.1 (dl_of ha.2.2.1) a.2.2.2.1 a.2.2.2.2.1 a.2.2.2.2.2.1 a.2.2.2.2.2.2.1) rfl
    (fun H ds h => by match ds, h with | [d0, d1, d2, d3, d4, d5, d6], _ => rfl) H enc W base args ds gs before hval hW
theorem loadExact_over : Rows.loadExactRow.holds Tryz.pinned (OpenSpec.ofChange Rows.loadExactSpec) :=
  OpenClaim.holds_of_wide 3 Tryz.f3 rfl rfl rfl rfl rfl rfl rfl ⟨rfl, rfl, rfl, rfl, rfl⟩ rfl rfl rfl rfl rfl (by kernel_rfl) Tryz.func3 (by kernel_rfl)
    (of_decide_eq_true (by kernel_rfl)) (by unfold Func.isWrapper; first | (rw [if_pos (by decide +kernel)]; kernel_rfl) | (rw [if_neg (by decide +kernel)]; exact ⟨rfl, rfl⟩))
    (fun os started H enc _ => loadExact_lifted os started H enc)
theorem loadExact_holds : Rows.LoadExactSaid := loadExact_over
#print axioms loadExact_holds
end Go.Proofs.YtgbmiacpjmchdaaGreat
