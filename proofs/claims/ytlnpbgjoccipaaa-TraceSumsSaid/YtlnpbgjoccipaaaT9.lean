/-
  A text of the proofs of this seat: lemmas that the statements' proofs use; it states nothing of the program by itself beyond the contracts that its theorems bear. Conditions: those that stand in each theorem. Its short name: T9.
-/
import Derived.Test.YtlnpbgjoccipaaaT8
import Derived.Test.YtlnpbgjoccipaaaTi
set_option linter.unusedVariables false
set_option linter.unusedSimpArgs false
namespace Go.Proofs.Ytlnpbgjoccipaaa
open Go.Sx Go.Pk Go.Cv Go.St
set_option maxRecDepth 8000
set_option maxHeartbeats 2000000
/-! the example of the chapter -/
abbrev exT : List Pk := [⟨0, 0, 10⟩, ⟨1, 0, 20⟩, ⟨0, 2, 5⟩]
abbrev exB : List Pk := [⟨0, 0, 3⟩]
theorem exT_v : Vld exT := vld_zero.1 (by decide +kernel)
theorem exB_v : Vld exB := vld_zero.1 (by decide +kernel)
theorem awake_ok : Ctr Try.prog 19 [] [] (fun r o => o = [] ∧ r = .bl true) := by
  refine Ctr.imp ?_
  refine fn_intro (E := env 0) tys_ok rfl rfl rfl Try.func19 (by kernel_rfl) rfl (by kernel_rfl) ?_
  have cC := Cumulative_ok exT exT_v 0 (by decide) 3 (by decide)
  rw [show vals (fun u => bys exT 0 u) (3 + 1) = [0, 10, 10, 15] by decide +kernel] at cC
  have cB := Bytes_ok exB (by decide) exB_v.sml (-1) 1
  rw [show bys exB (-1) 1 = 3 by decide +kernel] at cB
  have cI := rInts_ok [0, 10, 10, 15] [0, 10, 10, 15] (by decide)
  repeat' (conv => whnf
           first | refine LitOb.ful ?_ | (refine CondOb.mk (fun _ => ?_) (fun _ => ?_) <;> first | (exfalso; omega) | skip) | refine ArOb.fits (by first | omega | (simp only [ints_len] at *; omega)) ?_ | refine LitOb.vec ?_ | refine MakeOb.vec ?_ | refine AllocOb.box ?_ | refine AsgOb.vec ?_ | refine AggOb.mk (by decide +kernel) ?_ | refine ArU.fits (by first | omega | (simp only [ints_len] at *; omega)) ?_ | refine ArB.fits (by first | omega | (simp only [ints_len] at *; omega)) ?_ | refine CutOb.split ?_ | refine Gh.mk [] ?_ | refine And.intro (And.intro (by (simp only [List.length_append, List.length_take, List.length_drop, List.length_cons, List.length_nil, ints_len, List.length_replicate, Go.Cv.vals_len]; omega)) (by (simp only [List.length_append, List.length_take, List.length_drop, List.length_cons, List.length_nil, ints_len, List.length_replicate, Go.Cv.vals_len]; omega))) ?_ | refine ⟨_, _, rfl, ints_get (by first | omega | (simp only [ints_len] at *; omega)), ?_⟩ | refine ⟨_, _, (Int.toNat_of_nonneg (by first | omega | (simp only [ints_len] at *; omega))).symm, ints_get (by first | omega | (simp only [ints_len] at *; omega)), ?_⟩ | (refine CallOb.mk [] cC rfl ⟨Imp.fulp rfl, Imp.refl _, Imp.refl _, trivial⟩ rfl rfl ?_; rintro _ _ ⟨rfl, rfl⟩) | (refine CallOb.mk [] cB rfl ⟨Imp.fulp rfl, Imp.refl _, Imp.refl _, trivial⟩ rfl rfl ?_; rintro _ _ ⟨rfl, rfl⟩) | (refine CallOb.mk [] cI rfl ⟨Imp.refl _, Imp.fulp rfl, trivial⟩ rfl rfl ?_; rintro _ _ ⟨rfl, rfl⟩) | fail)
  all_goals try (conv => whnf)
  all_goals first
    | exact ⟨rfl, Imp.bpl ⟨fun _ => rfl, fun _ => by trivial⟩⟩
    | (exfalso; apply (by assumption : ¬[0, 10, 10, 15] = [0, 10, 10, 15]); rfl)
    | (exfalso; first | contradiction | omega)
    | trace_state
end Go.Proofs.Ytlnpbgjoccipaaa
