/-
  A text of the proofs of this seat: lemmas that the statements' proofs use; it states nothing of the program by itself beyond the contracts that its theorems bear. Conditions: those that stand in each theorem. Its short name: C7.
-/
import Derived.Test.YtabbnnfobjifiaaC5
import Derived.Test.YtabbnnfobjifiaaC6
import Derived.Test.YtabbnnfobjifiaaPl
set_option linter.unusedVariables false
set_option linter.unusedSimpArgs false
namespace Go.Proofs.Ytabbnnfobjifiaa
open Go.Sx Go.Pk Go.Cv Go.St
set_option maxRecDepth 8000
set_option maxHeartbeats 2000000
--APPX pks_len, Go.Cv.vals_len
theorem exC_v : VC exC := ⟨by decide, by decide, by decide, by decide, by decide, by decide, by decide, by decide, mono_dec (by decide), fun h => by revert h; decide, fun _ => by decide⟩
theorem exQ_v : Vld exQ := vld_zero.1 (by decide +kernel)
abbrev exS : List Pk := [⟨0, 0, 6⟩, ⟨0, 1, 6⟩]
theorem exS_v : Vld exS := vld_zero.1 (by decide +kernel)
theorem exVio {x : Int × Int × Bool} (h : VioR (csm exQ 0) (cv exC) (endN exQ) x) : x = (0, 1, true) := by
  have hN : endN exQ = 1 := by rfl
  have h1 : csm exQ 0 1 - csm exQ 0 0 = 12 := by decide +kernel
  have h2 : cv exC 1 = 10 := by decide +kernel
  rcases h with ⟨s, t, hst, ht, _, rfl⟩ | ⟨hk, _⟩
  · have : s = 0 ∧ t = 1 := by omega
    obtain ⟨rfl, rfl⟩ := this
    rfl
  · have := hk 0 1 (by omega) (by omega)
    rw [h1] at this
    simp only [Nat.sub_zero] at this
    omega
theorem exKp : Kp (csm exS 0) (cv exC) (endN exS) := by
  have hN : endN exS = 2 := by rfl
  intro s t hst ht
  have h0 : csm exS 0 0 = 0 := by decide +kernel
  have h1 : csm exS 0 1 = 6 := by decide +kernel
  have h2 : csm exS 0 2 = 12 := by decide +kernel
  have c1 : cv exC 1 = 10 := by decide +kernel
  have c2 : cv exC 2 = 12 := by decide +kernel
  have : (s = 0 ∧ t = 1) ∨ (s = 0 ∧ t = 2) ∨ (s = 1 ∧ t = 2) := by omega
  rcases this with ⟨rfl, rfl⟩ | ⟨rfl, rfl⟩ | ⟨rfl, rfl⟩
  · rw [h0, h1]; simp only [Nat.sub_zero]; omega
  · rw [h0, h2]; simp only [Nat.sub_zero]; omega
  · rw [h1, h2]; show _ ≤ cv exC 1; omega
theorem exShp {x : List Pk × Int} (h : (∃ R q, shN exC 0 exQ exQ.length = some (R, q) ∧ x = (srt ptm q, 0)) ∨ (shN exC 0 exQ exQ.length = none ∧ x = ([], 5))) : x = (exS, 0) := by
  rw [show exQ.length = 2 from rfl, exSh] at h
  rcases h with ⟨R, q, h1, h2⟩ | ⟨h, _⟩
  · cases h1
    rw [h2]; rfl
  · cases h
abbrev exG : List Pk := [⟨0, 0, 6⟩, ⟨0, 1, 6⟩, ⟨0, 4, 6⟩, ⟨0, 7, 6⟩, ⟨0, 10, 6⟩]
theorem exGO : grO 0 6 (grN exC 6 10 60) = exG := by rw [exGr]; rfl
theorem awake14_ok : Ctr Try.prog 14 [] [] (fun r o => o = [] ∧ r = .bl true) := by
  refine Ctr.imp ?_
  refine fn_intro (E := env 0) tys_ok rfl rfl rfl Try.func14 (by kernel_rfl) rfl (by kernel_rfl) ?_
  have cV := Violation_ok exQ exQ_v 0 (by decide) exC exC_v
  have cS := Shape_ok exQ exQ_v (by decide) 0 (by decide) exC exC_v (by decide +kernel)
  have cG := Greedy_ok 0 (by decide) exC exC_v 6 10 (by decide) (by decide)
  rw [exGO] at cG
  have cK := Keeps_ok exS exS_v 0 (by decide) exC exC_v
  repeat' (conv => whnf
           first | refine LitOb.ful ?_ | (refine CondOb.mk (fun _ => ?_) (fun _ => ?_) <;> first | (exfalso; omega) | skip) | refine ArOb.fits (by first | omega | (simp only [ints_len] at *; omega)) ?_ | refine LitOb.vec ?_ | refine MakeOb.vec ?_ | refine AllocOb.box ?_ | refine AsgOb.vec ?_ | refine AggOb.mk (by decide +kernel) ?_ | refine ArU.fits (by first | omega | (simp only [ints_len] at *; omega)) ?_ | refine ArB.fits (by first | omega | (simp only [ints_len] at *; omega)) ?_ | refine CutOb.split ?_ | refine Gh.mk [] ?_ | refine And.intro (And.intro (by (simp only [List.length_append, List.length_take, List.length_drop, List.length_cons, List.length_nil, ints_len, List.length_replicate, pks_len, Go.Cv.vals_len]; omega)) (by (simp only [List.length_append, List.length_take, List.length_drop, List.length_cons, List.length_nil, ints_len, List.length_replicate, pks_len, Go.Cv.vals_len]; omega))) ?_ | refine ⟨_, _, rfl, ints_get (by first | omega | (simp only [ints_len] at *; omega)), ?_⟩ | refine ⟨_, _, (Int.toNat_of_nonneg (by first | omega | (simp only [ints_len] at *; omega))).symm, ints_get (by first | omega | (simp only [ints_len] at *; omega)), ?_⟩ | fail)
  all_goals try (conv => whnf)
  refine CallOb.mk [] cV rfl ⟨Imp.fulp rfl, Imp.refl _, Imp.agg ⟨Imp.fulp rfl, Imp.refl _, Imp.refl _, trivial⟩, trivial⟩ rfl rfl ?_
  rintro _ _ ⟨x, hx, rfl, rfl⟩
  cases exVio hx
  dsimp only
  repeat' (conv => whnf
           first | refine LitOb.ful ?_ | (refine CondOb.mk (fun _ => ?_) (fun _ => ?_) <;> first | (exfalso; omega) | skip) | refine ArOb.fits (by first | omega | (simp only [ints_len] at *; omega)) ?_ | refine LitOb.vec ?_ | refine MakeOb.vec ?_ | refine AllocOb.box ?_ | refine AsgOb.vec ?_ | refine AggOb.mk (by decide +kernel) ?_ | refine ArU.fits (by first | omega | (simp only [ints_len] at *; omega)) ?_ | refine ArB.fits (by first | omega | (simp only [ints_len] at *; omega)) ?_ | refine CutOb.split ?_ | refine Gh.mk [] ?_ | refine And.intro (And.intro (by (simp only [List.length_append, List.length_take, List.length_drop, List.length_cons, List.length_nil, ints_len, List.length_replicate, pks_len, Go.Cv.vals_len]; omega)) (by (simp only [List.length_append, List.length_take, List.length_drop, List.length_cons, List.length_nil, ints_len, List.length_replicate, pks_len, Go.Cv.vals_len]; omega))) ?_ | refine ⟨_, _, rfl, ints_get (by first | omega | (simp only [ints_len] at *; omega)), ?_⟩ | refine ⟨_, _, (Int.toNat_of_nonneg (by first | omega | (simp only [ints_len] at *; omega))).symm, ints_get (by first | omega | (simp only [ints_len] at *; omega)), ?_⟩ | fail)
  all_goals try (conv => whnf)
  refine CallOb.mk [] cS rfl ⟨Imp.fulp rfl, Imp.refl _, Imp.agg ⟨Imp.fulp rfl, Imp.refl _, Imp.refl _, trivial⟩, trivial⟩ rfl rfl ?_
  rintro _ _ ⟨x, hx, rfl, rfl⟩
  cases exShp hx
  dsimp only
  repeat' (conv => whnf
           first | refine ⟨4, _, rfl, rfl, ?_⟩ | refine ⟨2, _, rfl, rfl, ?_⟩ | refine ⟨1, _, rfl, rfl, ?_⟩ | refine LitOb.ful ?_ | (refine CondOb.mk (fun _ => ?_) (fun _ => ?_) <;> first | (exfalso; omega) | skip) | refine ArOb.fits (by first | omega | (simp only [ints_len] at *; omega)) ?_ | refine LitOb.vec ?_ | refine MakeOb.vec ?_ | refine AllocOb.box ?_ | refine AsgOb.vec ?_ | refine AggOb.mk (by decide +kernel) ?_ | refine ArU.fits (by first | omega | (simp only [ints_len] at *; omega)) ?_ | refine ArB.fits (by first | omega | (simp only [ints_len] at *; omega)) ?_ | refine CutOb.split ?_ | refine Gh.mk [] ?_ | refine And.intro (And.intro (by (simp only [List.length_append, List.length_take, List.length_drop, List.length_cons, List.length_nil, ints_len, List.length_replicate, pks_len, Go.Cv.vals_len]; omega)) (by (simp only [List.length_append, List.length_take, List.length_drop, List.length_cons, List.length_nil, ints_len, List.length_replicate, pks_len, Go.Cv.vals_len]; omega))) ?_ | refine ⟨_, _, rfl, ints_get (by first | omega | (simp only [ints_len] at *; omega)), ?_⟩ | refine ⟨_, _, (Int.toNat_of_nonneg (by first | omega | (simp only [ints_len] at *; omega))).symm, ints_get (by first | omega | (simp only [ints_len] at *; omega)), ?_⟩ | (refine CallOb.mk [] cG rfl ⟨Imp.refl _, Imp.agg ⟨Imp.fulp rfl, Imp.refl _, Imp.refl _, trivial⟩, Imp.refl _, Imp.refl _, trivial⟩ rfl rfl ?_; rintro _ _ ⟨rfl, rfl⟩) | (refine CallOb.mk [] cK rfl ⟨Imp.refl _, Imp.refl _, Imp.agg ⟨Imp.fulp rfl, Imp.refl _, Imp.refl _, trivial⟩, trivial⟩ rfl rfl ?_; rintro _ _ ⟨rfl, rfl⟩) | fail)
  all_goals try (conv => whnf)
  all_goals first
    | exact ⟨rfl, Imp.bpl ⟨fun _ => rfl, fun _ => exKp⟩⟩
    | (exfalso; rename_i h; exact h rfl)
    | (exfalso; omega)
    | trace_state
end Go.Proofs.Ytabbnnfobjifiaa
