/-
  A text of the proofs of this seat: lemmas that the statements' proofs use; it states nothing of the program by itself beyond the contracts that its theorems bear. Conditions: those that stand in each theorem. Its short name: A5.
-/
import Derived.Test.YtlnpbgjoccipaaaA4
set_option linter.unusedVariables false
set_option linter.unusedSimpArgs false
namespace Go.Proofs.Ytlnpbgjoccipaaa
open Go.Sx Go.Pk Go.Cv Go.St
set_option maxRecDepth 8000
set_option maxHeartbeats 2000000
--APPX pks_len, avs_len
theorem awake15_ok : Ctr Try.prog 25 [] [] (fun r o => o = [] ∧ r = .bl true) := by
  refine Ctr.imp ?_
  refine fn_intro (E := env 0) tys_ok rfl rfl rfl Try.func25 (by kernel_rfl) rfl (by kernel_rfl) ?_
  have cW := Whole_ok exP exP_v 0 30
  rw [exW] at cW
  have cF := Forward_ok exP exP_v (by decide) exD exD_o
  rw [exFP, exFI] at cF
  have cD := Delays_ok exP exP_v exD exD_o
  rw [exDl] at cD
  have cI1 := rInts_ok [1, 2] [1, 2] (by decide)
  have cI2 := rInts_ok [-1, 2, 4] [-1, 2, 4] (by decide)
  have cH := Hop_ok exF exF_v 15 (by decide)
  repeat' (conv => whnf
           first | refine LitOb.ful ?_ | (refine CondOb.mk (fun _ => ?_) (fun _ => ?_) <;> first | (exfalso; omega) | skip) | refine ArOb.fits (by first | omega | (simp only [ints_len] at *; omega)) ?_ | refine LitOb.vec ?_ | refine MakeOb.vec ?_ | refine AllocOb.box ?_ | refine AsgOb.vec ?_ | refine AggOb.mk (by decide +kernel) ?_ | refine ArU.fits (by first | omega | (simp only [ints_len] at *; omega)) ?_ | refine ArB.fits (by first | omega | (simp only [ints_len] at *; omega)) ?_ | refine CutOb.split ?_ | refine Gh.mk [] ?_ | refine And.intro (And.intro (by (simp only [List.length_append, List.length_take, List.length_drop, List.length_cons, List.length_nil, ints_len, List.length_replicate, pks_len, avs_len]; omega)) (by (simp only [List.length_append, List.length_take, List.length_drop, List.length_cons, List.length_nil, ints_len, List.length_replicate, pks_len, avs_len]; omega))) ?_ | refine ⟨_, _, rfl, ints_get (by first | omega | (simp only [ints_len] at *; omega)), ?_⟩ | refine ⟨_, _, (Int.toNat_of_nonneg (by first | omega | (simp only [ints_len] at *; omega))).symm, ints_get (by first | omega | (simp only [ints_len] at *; omega)), ?_⟩ | fail)
  all_goals try (conv => whnf)
  refine CallOb.mk [] cH rfl ⟨Imp.agg ⟨Imp.fulp rfl, Imp.refl _, Imp.refl _, trivial⟩, Imp.refl _, trivial⟩ rfl rfl ?_
  rintro _ _ ⟨x, hx, rfl, rfl⟩
  obtain ⟨c, hc, ⟨h2, h3, h4⟩, rfl⟩ := exH hx
  have cV := hVal_ok c hc
  have cA2 := hAt_ok c 2 hc (by omega)
  have cA3 := hAt_ok c 3 hc (by omega)
  have cA4 := hAt_ok c 4 hc (by omega)
  rw [h2] at cA2
  rw [h3] at cA3
  rw [h4] at cA4
  clear hx cH h2 h3 h4
  repeat' (conv => whnf
           first | refine ⟨1, _, rfl, rfl, ?_⟩ | refine LitOb.ful ?_ | (refine CondOb.mk (fun _ => ?_) (fun _ => ?_) <;> first | (exfalso; omega) | skip) | refine ArOb.fits (by first | omega | (simp only [ints_len] at *; omega)) ?_ | refine LitOb.vec ?_ | refine MakeOb.vec ?_ | refine AllocOb.box ?_ | refine AsgOb.vec ?_ | refine AggOb.mk (by decide +kernel) ?_ | refine ArU.fits (by first | omega | (simp only [ints_len] at *; omega)) ?_ | refine ArB.fits (by first | omega | (simp only [ints_len] at *; omega)) ?_ | refine CutOb.split ?_ | refine Gh.mk [] ?_ | refine And.intro (And.intro (by (simp only [List.length_append, List.length_take, List.length_drop, List.length_cons, List.length_nil, ints_len, List.length_replicate, pks_len, avs_len]; omega)) (by (simp only [List.length_append, List.length_take, List.length_drop, List.length_cons, List.length_nil, ints_len, List.length_replicate, pks_len, avs_len]; omega))) ?_ | refine ⟨_, _, rfl, ints_get (by first | omega | (simp only [ints_len] at *; omega)), ?_⟩ | refine ⟨_, _, (Int.toNat_of_nonneg (by first | omega | (simp only [ints_len] at *; omega))).symm, ints_get (by first | omega | (simp only [ints_len] at *; omega)), ?_⟩ | (refine CallOb.mk [] cF rfl ⟨Imp.fulp rfl, Imp.fulp rfl, trivial⟩ rfl rfl ?_; rintro _ _ ⟨rfl, rfl⟩) | (refine CallOb.mk [] cD rfl ⟨Imp.fulp rfl, Imp.fulp rfl, trivial⟩ rfl rfl ?_; rintro _ _ ⟨rfl, rfl⟩) | (refine CallOb.mk [] cV rfl (ImpL.refl _) rfl rfl ?_; rintro _ _ ⟨rfl, rfl⟩) | (refine CallOb.mk [] cA2 rfl ⟨Imp.refl _, Imp.num rfl, trivial⟩ rfl rfl ?_; rintro _ _ ⟨rfl, rfl⟩) | (refine CallOb.mk [] cA3 rfl ⟨Imp.refl _, Imp.num rfl, trivial⟩ rfl rfl ?_; rintro _ _ ⟨rfl, rfl⟩) | (refine CallOb.mk [] cA4 rfl ⟨Imp.refl _, Imp.num rfl, trivial⟩ rfl rfl ?_; rintro _ _ ⟨rfl, rfl⟩) | (refine CallOb.mk [] cW rfl ⟨Imp.fulp rfl, Imp.refl _, Imp.refl _, trivial⟩ rfl rfl ?_; rintro _ _ ⟨rfl, rfl⟩) | (refine CallOb.mk [] cI1 rfl ⟨Imp.refl _, Imp.fulp rfl, trivial⟩ rfl rfl ?_; rintro _ _ ⟨rfl, rfl⟩) | (refine CallOb.mk [] cI2 rfl ⟨Imp.refl _, Imp.fulp rfl, trivial⟩ rfl rfl ?_; rintro _ _ ⟨rfl, rfl⟩) | fail)
  all_goals try (conv => whnf)
  all_goals first
    | exact ⟨rfl, Imp.bpl ⟨fun _ => rfl, fun _ => rfl⟩⟩
    | (exfalso; rename_i h; exact h rfl)
    | (exfalso; omega)
    | trace_state
end Go.Proofs.Ytlnpbgjoccipaaa
