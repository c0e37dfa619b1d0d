/-
  A text of the proofs of this seat: lemmas that the statements' proofs use; it states nothing of the program by itself beyond the contracts that its theorems bear. Conditions: those that stand in each theorem. Its short name: D18 Ti.
-/
import Derived.Test.YtabbnnfobjifiaaPl
import Derived.Test.YtabbnnfobjifiaaD16
import Derived.Test.YtabbnnfobjifiaaT1
set_option linter.unusedVariables false
set_option linter.unusedSimpArgs false
section
namespace Go.Proofs.Ytabbnnfobjifiaa
open Go.Sx Go.Pk Go.Cv Go.St
set_option maxRecDepth 8000
set_option maxHeartbeats 2000000
--APPX pks_len, Go.Cv.vals_len
theorem exC_v : VC exC := ⟨by decide, by decide, by decide, by decide, by decide, by decide, by decide, by decide, mono_dec (by decide), fun h => by revert h; decide, fun _ => by decide⟩
theorem exQ_v : Vld exQ := vld_zero.1 (by decide +kernel)
abbrev exS : List Pk := [⟨0, 0, 6⟩, ⟨0, 1, 6⟩]
theorem exS_v : Vld exS := vld_zero.1 (by decide +kernel)
theorem exVio {x : Int × Int × Bool} (h : VioR (csm exQ 0) (cv exC) (endN exQ) x) : x = (0, 1, true) := by
  have hN : endN exQ = 1 := by rfl
  have h1 : csm exQ 0 1 - csm exQ 0 0 = 12 := by decide +kernel
  have h2 : cv exC 1 = 10 := by decide +kernel
  rcases h with ⟨s, t, hst, ht, _, rfl⟩ | ⟨hk, _⟩
  · have : s = 0 ∧ t = 1 := by omega
    obtain ⟨rfl, rfl⟩ := this
    rfl
  · have := hk 0 1 (by omega) (by omega)
    rw [h1] at this
    simp only [Nat.sub_zero] at this
    omega
theorem exKp : Kp (csm exS 0) (cv exC) (endN exS) := by
  have hN : endN exS = 2 := by rfl
  intro s t hst ht
  have h0 : csm exS 0 0 = 0 := by decide +kernel
  have h1 : csm exS 0 1 = 6 := by decide +kernel
  have h2 : csm exS 0 2 = 12 := by decide +kernel
  have c1 : cv exC 1 = 10 := by decide +kernel
  have c2 : cv exC 2 = 12 := by decide +kernel
  have : (s = 0 ∧ t = 1) ∨ (s = 0 ∧ t = 2) ∨ (s = 1 ∧ t = 2) := by omega
  rcases this with ⟨rfl, rfl⟩ | ⟨rfl, rfl⟩ | ⟨rfl, rfl⟩
  · rw [h0, h1]; simp only [Nat.sub_zero]; omega
  · rw [h0, h2]; simp only [Nat.sub_zero]; omega
  · rw [h1, h2]; show _ ≤ cv exC 1; omega
theorem exShp {x : List Pk × Int} (h : (∃ R q, shN exC 0 exQ exQ.length = some (R, q) ∧ x = (srt ptm q, 0)) ∨ (shN exC 0 exQ exQ.length = none ∧ x = ([], 5))) : x = (exS, 0) := by
  rw [show exQ.length = 2 from rfl, exSh] at h
  rcases h with ⟨R, q, h1, h2⟩ | ⟨h, _⟩
  · cases h1
    rw [h2]; rfl
  · cases h
abbrev exG : List Pk := [⟨0, 0, 6⟩, ⟨0, 1, 6⟩, ⟨0, 4, 6⟩, ⟨0, 7, 6⟩, ⟨0, 10, 6⟩]
theorem exGO : grO 0 6 (grN exC 6 10 60) = exG := by rw [exGr]; rfl
theorem aP_D18 {A B K : Prop} (k : K) (a : A := by (simp only [zA, zT, zD, zC, zN, ints_len, zR, pks_len, Go.Cv.vals_len]; omega)) (b : B := by (simp only [zA, zT, zD, zC, zN, ints_len, zR, pks_len, Go.Cv.vals_len]; omega)) : (A ∧ B) ∧ K := ⟨⟨a, b⟩, k⟩
theorem awake14_ok : Ctr Try.prog 14 [] [] (fun r o => o = [] ∧ r = .bl true) := by
  refine Ctr.imp ?_
  refine fn_intro (E := env 0) tys_ok rfl rfl rfl Try.func14 (by kernel_rfl) rfl (by kernel_rfl) ?_
  have cV := Violation_ok exQ exQ_v 0 (by decide) exC exC_v
  have cS := ShapeB_ok exQ exQ_v (by decide) 0 (by decide) exC exC_v (by decide +kernel)
  have cG := GreedyB_ok 0 (by decide) exC exC_v 6 10 (by decide) (by decide)
  rw [exGO] at cG
  have cK := Keeps_ok exS exS_v 0 (by decide) exC exC_v
  (repeat' (conv => whnf); first | refine LitOb.ful ?_ | (refine aC (fun _ => ?_) (fun _ => ?_) <;> try (exfalso; omega)) | refine aS ?_ | refine aG ?_ | refine aD ?_ | refine aH ?_ | refine aP_D18 ?_ | refine aI ?_ | refine aJ ?_ | fail); all_goals try (conv => whnf)
  refine CallOb.mk [] cV rfl ⟨Imp.fulp rfl, Imp.refl _, Imp.agg ⟨Imp.fulp rfl, Imp.refl _, Imp.refl _, trivial⟩, trivial⟩ rfl rfl ?_
  rintro _ _ ⟨x, hx, rfl, rfl⟩
  cases exVio hx
  dsimp only
  (repeat' (conv => whnf); first | refine LitOb.ful ?_ | (refine aC (fun _ => ?_) (fun _ => ?_) <;> try (exfalso; omega)) | refine aS ?_ | refine aG ?_ | refine aD ?_ | refine aH ?_ | refine aP_D18 ?_ | refine aI ?_ | refine aJ ?_ | fail); all_goals try (conv => whnf)
  refine CallOb.mk [] cS rfl ⟨Imp.fulp rfl, Imp.refl _, Imp.agg ⟨Imp.fulp rfl, Imp.refl _, Imp.refl _, trivial⟩, trivial⟩ rfl rfl ?_
  rintro _ _ ⟨x, hx, rfl, rfl⟩
  cases exShp hx
  dsimp only
  (repeat' (conv => whnf); first | refine ⟨4, _, rfl, rfl, ?_⟩ | refine ⟨2, _, rfl, rfl, ?_⟩ | refine ⟨1, _, rfl, rfl, ?_⟩ | refine LitOb.ful ?_ | (refine aC (fun _ => ?_) (fun _ => ?_) <;> try (exfalso; omega)) | refine aS ?_ | refine aG ?_ | refine aD ?_ | refine aH ?_ | refine aP_D18 ?_ | refine aI ?_ | refine aJ ?_ | (refine CallOb.mk [] cG rfl ⟨Imp.refl _, Imp.agg ⟨Imp.fulp rfl, Imp.refl _, Imp.refl _, trivial⟩, Imp.refl _, Imp.refl _, trivial⟩ rfl rfl ?_; rintro _ _ ⟨rfl, rfl⟩) | (refine CallOb.mk [] cK rfl ⟨Imp.refl _, Imp.refl _, Imp.agg ⟨Imp.fulp rfl, Imp.refl _, Imp.refl _, trivial⟩, trivial⟩ rfl rfl ?_; rintro _ _ ⟨rfl, rfl⟩) | fail); all_goals try (conv => whnf)
  all_goals first
    | exact ⟨rfl, Imp.bpl ⟨fun _ => rfl, fun _ => exKp⟩⟩
    | (exfalso; rename_i h; exact h rfl)
    | (exfalso; omega)
    | trace_state
end Go.Proofs.Ytabbnnfobjifiaa
end
section
namespace Go.Proofs.Ytabbnnfobjifiaa
open Go.Sx Go.Pk Go.Cv
set_option maxRecDepth 8000
set_option maxHeartbeats 2000000
theorem aP_Ti {A B K : Prop} (k : K) (a : A := by (simp only [zA, zT, zD, zC, zN, ints_len, zR, Go.Cv.vals_len]; omega)) (b : B := by (simp only [zA, zT, zD, zC, zN, ints_len, zR, Go.Cv.vals_len]; omega)) : (A ∧ B) ∧ K := ⟨⟨a, b⟩, k⟩
theorem rInts_ok (a b : List Int) (ha : a.length ≤ 1000000) : Ctr Try.prog 36 [.psl 1 (ints a), .psl 1 (ints b)] [] (fun r o => o = [] ∧ r = .bp (a = b)) := by
  refine Ctr.imp ?_
  refine fn_intro (E := env 0) tys_ok rfl rfl rfl Try.func36 (by kernel_rfl) rfl (by kernel_rfl) ?_
  have hal := ints_len a
  have hbl := ints_len b
  (repeat' (conv => whnf); first | (refine aC (fun _ => ?_) (fun _ => ?_) <;> try (exfalso; omega)) | refine aS ?_ | refine aG ?_ | refine aD ?_ | refine aH ?_ | refine aP_Ti ?_ | refine aI ?_ | refine aJ ?_ | refine aW (.qs [0, 1, 2, 3, 4, 5, 6, 7, 8] .nil) ?_ | fail); all_goals try (conv => whnf)
  · exact ⟨rfl, Imp.bl ⟨fun h => (by cases h), fun h => by subst h; omega⟩⟩
  refine LoopOb.mk (Y := Nat) (st := fun i => ⟨[(5, i64 i), (0, .psl 1 (ints a)), (1, .psl 1 (ints b))], []⟩)
    (inv := fun i => i ≤ a.length ∧ ∀ j, j < i → a.getD j 0 = b.getD j 0) (fun i => a.length - i) 0 [] ⟨by omega, by omega⟩ (by (exact aL)) ?_
  rintro i ⟨hi, hv⟩
  (repeat' (conv => whnf); first | refine aS ?_ | refine aG ?_ | refine aD ?_ | refine aH ?_ | refine aP_Ti ?_ | refine aI ?_ | refine aJ ?_ | refine aW (.qs [0, 1, 2, 3, 4, 5, 6, 7, 8] .nil) ?_ | fail); all_goals try (conv => whnf)
  refine CondOb.mk (fun hlt => ?_) (fun hlt => ?_)
  · have hga := ints_get (l := a) (j := i) (by omega)
    have hgb := ints_get (l := b) (j := i) (by omega)
    have hst : a.getD i 0 = b.getD i 0 → ∀ j, j < i + 1 → a.getD j 0 = b.getD j 0 := fun h j hj => by
      by_cases e : j = i
      · subst e; exact h
      · exact hv j (by omega)
    have hne : ¬a.getD i 0 = b.getD i 0 → ¬a = b := fun h e => h (by rw [e])
    generalize a.getD i 0 = x at *
    generalize b.getD i 0 = y at *
    (repeat' (conv => whnf); first | refine ⟨i, _, rfl, hgb, ?_⟩ | refine ⟨i, _, rfl, hga, ?_⟩ | (refine aC (fun _ => ?_) (fun _ => ?_) <;> try (exfalso; omega)) | refine aS ?_ | refine aG ?_ | refine aD ?_ | refine aH ?_ | refine aP_Ti ?_ | refine aI ?_ | refine aJ ?_ | refine aW (.qs [0, 1, 2, 3, 4, 5, 6, 7, 8] .nil) ?_ | fail); all_goals try (conv => whnf)
    · exact ⟨rfl, Imp.bl ⟨fun h => (by cases h), fun h' => absurd h' (hne (by omega))⟩⟩
    · exact ⟨i + 1, [], ⟨by omega, hst (by omega)⟩, by omega, by (exact aL)⟩
  · have e : i = a.length := by omega
    (repeat' (conv => whnf); first | (refine aC (fun _ => ?_) (fun _ => ?_) <;> try (exfalso; omega)) | refine aS ?_ | refine aG ?_ | refine aD ?_ | refine aH ?_ | refine aP_Ti ?_ | refine aI ?_ | refine aJ ?_ | refine aW (.qs [0, 1, 2, 3, 4, 5, 6, 7, 8] .nil) ?_ | fail); all_goals try (conv => whnf)
    refine ⟨rfl, Imp.bl ⟨fun _ => ?_, fun _ => rfl⟩⟩
    apply List.ext_getElem (by omega)
    intro j h1 h2
    have := hv j (by omega)
    simpa [List.getD_eq_getElem?_getD, h1, h2] using this
end Go.Proofs.Ytabbnnfobjifiaa
end
