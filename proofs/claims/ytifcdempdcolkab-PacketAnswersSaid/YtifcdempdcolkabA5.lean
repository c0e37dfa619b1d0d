/-
  A text of the proofs of this seat: lemmas that the statements' proofs use; it states nothing of the program by itself beyond the contracts that its theorems bear. Conditions: those that stand in each theorem. Its short name: A5.
-/
import Derived.Test.YtifcdempdcolkabD17
set_option linter.unusedVariables false
set_option linter.unusedSimpArgs false
namespace Go.Proofs.Ytifcdempdcolkab
open Go.Sx Go.Pk Go.Cv Go.St
set_option maxRecDepth 8000
set_option maxHeartbeats 2000000
--APPX pks_len, avs_len
theorem aP_A5 {A B K : Prop} (k : K) (a : A := by (simp only [zA, zT, zD, zC, zN, ints_len, zR, pks_len, avs_len]; omega)) (b : B := by (simp only [zA, zT, zD, zC, zN, ints_len, zR, pks_len, avs_len]; omega)) : (A ∧ B) ∧ K := ⟨⟨a, b⟩, k⟩
theorem awake15_ok : Ctr Try.prog 6 [] [] (fun r o => o = [] ∧ r = .bl true) := by
  refine Ctr.imp ?_
  refine fn_intro (E := env 0) tys_ok rfl rfl rfl Try.func6 (by kernel_rfl) rfl (by kernel_rfl) ?_
  have cW := Whole_ok exP exP_v 0 30
  rw [exW] at cW
  have cF := Forward_ok exP exP_v (by decide) exD exD_o
  rw [exFP, exFI] at cF
  have cD := Delays_ok exP exP_v exD exD_o
  rw [exDl] at cD
  have cI1 := rInts_ok [1, 2] [1, 2] (by decide)
  have cI2 := rInts_ok [-1, 2, 4] [-1, 2, 4] (by decide)
  have cH := Hop_ok exF exF_v 15 (by decide)
  (repeat' (conv => whnf); first | refine LitOb.ful ?_ | (refine aC (fun _ => ?_) (fun _ => ?_) <;> try (exfalso; omega)) | refine aS ?_ | refine aG ?_ | refine aD ?_ | refine aH ?_ | refine aP_A5 ?_ | refine aI ?_ | refine aJ ?_ | fail); all_goals try (conv => whnf)
  refine CallOb.mk [] cH rfl ⟨Imp.agg ⟨Imp.fulp rfl, Imp.refl _, Imp.refl _, trivial⟩, Imp.refl _, trivial⟩ rfl rfl ?_
  rintro _ _ ⟨x, hx, rfl, rfl⟩
  obtain ⟨c, hc, ⟨h2, h3, h4⟩, rfl⟩ := exH hx
  have cV := hVal_ok c hc
  have cA2 := hAt_ok c 2 hc (by omega)
  have cA3 := hAt_ok c 3 hc (by omega)
  have cA4 := hAt_ok c 4 hc (by omega)
  rw [h2] at cA2
  rw [h3] at cA3
  rw [h4] at cA4
  clear hx cH h2 h3 h4
  (repeat' (conv => whnf); first | refine ⟨1, _, rfl, rfl, ?_⟩ | refine LitOb.ful ?_ | (refine aC (fun _ => ?_) (fun _ => ?_) <;> try (exfalso; omega)) | refine aS ?_ | refine aG ?_ | refine aD ?_ | refine aH ?_ | refine aP_A5 ?_ | refine aI ?_ | refine aJ ?_ | (refine CallOb.mk [] cF rfl ⟨Imp.fulp rfl, Imp.fulp rfl, trivial⟩ rfl rfl ?_; rintro _ _ ⟨rfl, rfl⟩) | (refine CallOb.mk [] cD rfl ⟨Imp.fulp rfl, Imp.fulp rfl, trivial⟩ rfl rfl ?_; rintro _ _ ⟨rfl, rfl⟩) | (refine aK [] cV ?_) | (refine CallOb.mk [] cA2 rfl ⟨Imp.refl _, Imp.num rfl, trivial⟩ rfl rfl ?_; rintro _ _ ⟨rfl, rfl⟩) | (refine CallOb.mk [] cA3 rfl ⟨Imp.refl _, Imp.num rfl, trivial⟩ rfl rfl ?_; rintro _ _ ⟨rfl, rfl⟩) | (refine CallOb.mk [] cA4 rfl ⟨Imp.refl _, Imp.num rfl, trivial⟩ rfl rfl ?_; rintro _ _ ⟨rfl, rfl⟩) | (refine CallOb.mk [] cW rfl ⟨Imp.fulp rfl, Imp.refl _, Imp.refl _, trivial⟩ rfl rfl ?_; rintro _ _ ⟨rfl, rfl⟩) | (refine CallOb.mk [] cI1 rfl ⟨Imp.refl _, Imp.fulp rfl, trivial⟩ rfl rfl ?_; rintro _ _ ⟨rfl, rfl⟩) | (refine CallOb.mk [] cI2 rfl ⟨Imp.refl _, Imp.fulp rfl, trivial⟩ rfl rfl ?_; rintro _ _ ⟨rfl, rfl⟩) | fail); all_goals try (conv => whnf)
  all_goals first
    | exact ⟨rfl, Imp.bpl ⟨fun _ => rfl, fun _ => rfl⟩⟩
    | (exfalso; rename_i h; exact h rfl)
    | (exfalso; omega)
    | trace_state
end Go.Proofs.Ytifcdempdcolkab
