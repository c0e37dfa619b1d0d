/-
  A text of the proofs of this seat: lemmas that the statements' proofs use; it states nothing of the program by itself beyond the contracts that its theorems bear. Conditions: those that stand in each theorem. Its short name: P6.
-/
import Derived.Test.YtdkfgecaejmanaaP5
set_option linter.unusedVariables false
set_option linter.unusedSimpArgs false
namespace Go.Proofs.Ytdkfgecaejmanaa
open Go.Sx Go.Fq
set_option maxRecDepth 4000
set_option maxHeartbeats 2000000
def SgnAt (w : Rw) (f : F) : Prop := VF f ∧ ¬(w.2.1 = 1 ∧ 0 < f.1) ∧ ¬(w.2.1 = 2 ∧ f.1 < 0)
theorem sgn_iff {p : Pr} {y : List F} (hv : VP p) (hl : y.length = p.r.length) : Sgn p y ↔ ∀ j < p.r.length, SgnAt (p.r.getD j rw0) (y.getD j (0, 1)) := by
  constructor
  · rintro ⟨_, _, h⟩ j hj
    have := h j _ _ (List.getElem?_eq_getElem hj) (List.getElem?_eq_getElem (show j < y.length by omega))
    simpa [SgnAt, hj, show j < y.length by omega] using this
  · intro h
    refine ⟨hv, hl, fun i w f hw hf => ?_⟩
    obtain ⟨hi, rfl⟩ := List.getElem?_eq_some_iff.1 hw
    obtain ⟨hi', rfl⟩ := List.getElem?_eq_some_iff.1 hf
    have := h i hi
    simpa [SgnAt, hi, hi'] using this
theorem lt_step {P : Nat → Prop} {i : Nat} (h : ∀ j < i, P j) (hi : P i) : ∀ j < i + 1, P j := by
  intro j hj
  by_cases e : j = i
  · rw [e]; exact hi
  · exact h j (by omega)
theorem Signs_ok (p : Pr) (hp : PL p) (y : List F) (hy : y.length ≤ 9223372036854775807) : Ctr Try.prog 20 [prv p, fsl y] [] (fun r o => o = [] ∧ r = .bp (Sgn p y)) := by
  refine Ctr.imp ?_
  refine fn_intro (E := env 0) tys_ok rfl rfl rfl Try.func20 (by kernel_rfl) rfl (by kernel_rfl) ?_
  have hly := fr_len y
  have hlr := rw_len p.r
  repeat' (conv => whnf
           first | (refine CondOb.mk (fun _ => ?_) (fun _ => ?_) <;> first | (exfalso; omega) | skip) | refine ArOb.fits (by first | omega | (simp only [ints_len] at *; omega)) ?_ | refine LitOb.vec ?_ | refine MakeOb.vec ?_ | refine AllocOb.box ?_ | refine AggOb.mk (by decide +kernel) ?_ | refine ArU.fits (by first | omega | (simp only [ints_len] at *; omega)) ?_ | refine ArB.fits (by first | omega | (simp only [ints_len] at *; omega)) ?_ | refine CutOb.split ?_ | refine Gh.mk [] ?_ | refine And.intro (And.intro (by (simp only [List.length_append, List.length_take, List.length_drop, List.length_cons, List.length_nil, ints_len, List.length_replicate, fr_len, rw_len]; omega)) (by (simp only [List.length_append, List.length_take, List.length_drop, List.length_cons, List.length_nil, ints_len, List.length_replicate, fr_len, rw_len]; omega))) ?_ | refine ⟨_, _, rfl, ints_get (by first | omega | (simp only [ints_len] at *; omega)), ?_⟩ | refine ⟨_, _, (Int.toNat_of_nonneg (by first | omega | (simp only [ints_len] at *; omega))).symm, ints_get (by first | omega | (simp only [ints_len] at *; omega)), ?_⟩ | (refine CallOb.mk [] (Valid_ok p hp) rfl (ImpL.refl _) rfl rfl ?_; rintro _ _ ⟨rfl, rfl⟩) | fail)
  all_goals try (conv => whnf)
  · exact ⟨rfl, Imp.bl ⟨fun h => (by cases h), fun h => absurd h.1 (by assumption)⟩⟩
  · exact ⟨rfl, Imp.bl ⟨fun h => (by cases h), fun h => by have := h.2.1; omega⟩⟩
  have hvp := Classical.not_not.1 ‹¬¬VP p›
  have hyl : y.length = p.r.length := by omega
  have hsg := sgn_iff hvp hyl
  refine LoopOb.mk (Y := Nat) (st := fun i => ⟨[(21, i64 i), (20, i64 (rws p.r).length), (19, .psl 4 (rws p.r)), (4, .bl false), (2, .ptr 0 0), (0, prv p), (1, fsl y)], [.box [fsl p.c, .psl 4 (rws p.r)]]⟩)
    (inv := fun i => i ≤ p.r.length ∧ ∀ j < i, SgnAt (p.r.getD j rw0) (y.getD j (0, 1))) (fun i => p.r.length - i) 0 [0] ⟨by omega, by omega⟩ (by (refine Le.mk (by kernel_rfl) ?_ ?_ <;> repeat' (first | exact True.intro | refine And.intro ?_ ?_ | exact Imp.refl _ | exact Imp.any _ | exact Imp.num (by first | omega | simp only [ints_len]) | exact rfl | exact Imp.bl (by simp)))) ?_
  rintro i ⟨hi, hv⟩
  repeat' (conv => whnf
           first | refine ArOb.fits (by first | omega | (simp only [ints_len] at *; omega)) ?_ | refine LitOb.vec ?_ | refine MakeOb.vec ?_ | refine AllocOb.box ?_ | refine AggOb.mk (by decide +kernel) ?_ | refine ArU.fits (by first | omega | (simp only [ints_len] at *; omega)) ?_ | refine ArB.fits (by first | omega | (simp only [ints_len] at *; omega)) ?_ | refine CutOb.split ?_ | refine Gh.mk [] ?_ | refine And.intro (And.intro (by (simp only [List.length_append, List.length_take, List.length_drop, List.length_cons, List.length_nil, ints_len, List.length_replicate, fr_len, rw_len]; omega)) (by (simp only [List.length_append, List.length_take, List.length_drop, List.length_cons, List.length_nil, ints_len, List.length_replicate, fr_len, rw_len]; omega))) ?_ | refine ⟨_, _, rfl, ints_get (by first | omega | (simp only [ints_len] at *; omega)), ?_⟩ | refine ⟨_, _, (Int.toNat_of_nonneg (by first | omega | (simp only [ints_len] at *; omega))).symm, ints_get (by first | omega | (simp only [ints_len] at *; omega)), ?_⟩ | fail)
  all_goals try (conv => whnf)
  refine CondOb.mk (fun hlt => ?_) (fun hlt => ?_)
  · have hil : i < p.r.length := by omega
    have hp2 := hp.2.1
    have hgt := rw_get hil
    have hgy := fr_get (l := y) (i := i) (by omega)
    have hst : SgnAt (p.r.getD i rw0) (y.getD i (0, 1)) → _ := fun h => lt_step hv h
    have hno : ¬ SgnAt (p.r.getD i rw0) (y.getD i (0, 1)) → ¬ Sgn p y := fun h k => h (hsg.1 k i hil)
    generalize p.r.getD i rw0 = w at *
    generalize y.getD i (0, 1) = f at *
    unfold SgnAt at hst hno
    have hno' : ¬ VF f ∨ (w.2.1 = 1 ∧ 0 < f.1) ∨ (w.2.1 = 2 ∧ f.1 < 0) → ¬ Sgn p y := fun h => hno (fun k => by
      rcases h with h | h | h
      · exact h k.1
      · exact k.2.1 h
      · exact k.2.2 h)
    clear hno
    repeat' (conv => whnf
             first | (refine CondOb.mk (fun _ => ?_) (fun _ => ?_) <;> first | (exfalso; omega) | skip) | refine ArOb.fits (by first | omega | (simp only [ints_len] at *; omega)) ?_ | refine LitOb.vec ?_ | refine MakeOb.vec ?_ | refine AllocOb.box ?_ | refine AggOb.mk (by decide +kernel) ?_ | refine ArU.fits (by first | omega | (simp only [ints_len] at *; omega)) ?_ | refine ArB.fits (by first | omega | (simp only [ints_len] at *; omega)) ?_ | refine CutOb.split ?_ | refine Gh.mk [] ?_ | refine And.intro (And.intro (by (simp only [List.length_append, List.length_take, List.length_drop, List.length_cons, List.length_nil, ints_len, List.length_replicate, fr_len, rw_len]; omega)) (by (simp only [List.length_append, List.length_take, List.length_drop, List.length_cons, List.length_nil, ints_len, List.length_replicate, fr_len, rw_len]; omega))) ?_ | refine ⟨_, _, rfl, ints_get (by first | omega | (simp only [ints_len] at *; omega)), ?_⟩ | refine ⟨_, _, (Int.toNat_of_nonneg (by first | omega | (simp only [ints_len] at *; omega))).symm, ints_get (by first | omega | (simp only [ints_len] at *; omega)), ?_⟩ | refine ⟨i, _, rfl, hgt, ?_⟩ | refine ⟨i, _, rfl, hgy, ?_⟩ | (refine CallOb.mk [] (fValid_ok f.1 f.2) rfl (ImpL.refl _) rfl rfl ?_; rintro _ _ ⟨rfl, rfl⟩) | fail)
    all_goals try (conv => whnf)
    all_goals first
      | exact ⟨rfl, Imp.bl ⟨fun h => (by cases h), fun h => absurd h (hno' (.inl (by assumption)))⟩⟩
      | exact ⟨rfl, Imp.bl ⟨fun h => (by cases h), fun h => absurd h (hno' (.inr (by omega)))⟩⟩
      | exact ⟨i + 1, [0], ⟨by omega, hst ⟨Classical.not_not.1 (by assumption), by omega, by omega⟩⟩, by omega, by (refine Le.mk (by kernel_rfl) ?_ ?_ <;> repeat' (first | exact True.intro | refine And.intro ?_ ?_ | exact Imp.refl _ | exact Imp.any _ | exact Imp.num (by first | omega | simp only [ints_len]) | exact rfl | exact Imp.bl (by simp)))⟩
      | trace_state
  · repeat' (conv => whnf
             first | refine CondOb.mk (fun _ => ?_) (fun _ => ?_) | refine ArOb.fits (by first | omega | (simp only [ints_len] at *; omega)) ?_ | refine LitOb.vec ?_ | refine MakeOb.vec ?_ | refine AllocOb.box ?_ | refine AggOb.mk (by decide +kernel) ?_ | refine ArU.fits (by first | omega | (simp only [ints_len] at *; omega)) ?_ | refine ArB.fits (by first | omega | (simp only [ints_len] at *; omega)) ?_ | refine CutOb.split ?_ | refine Gh.mk [] ?_ | refine And.intro (And.intro (by (simp only [List.length_append, List.length_take, List.length_drop, List.length_cons, List.length_nil, ints_len, List.length_replicate, fr_len, rw_len]; omega)) (by (simp only [List.length_append, List.length_take, List.length_drop, List.length_cons, List.length_nil, ints_len, List.length_replicate, fr_len, rw_len]; omega))) ?_ | refine ⟨_, _, rfl, ints_get (by first | omega | (simp only [ints_len] at *; omega)), ?_⟩ | refine ⟨_, _, (Int.toNat_of_nonneg (by first | omega | (simp only [ints_len] at *; omega))).symm, ints_get (by first | omega | (simp only [ints_len] at *; omega)), ?_⟩ | fail)
    all_goals try (conv => whnf)
    exact ⟨rfl, Imp.bl ⟨fun _ => hsg.2 (fun j hj => hv j (by omega)), fun _ => rfl⟩⟩
theorem rSigns_ok (p : Pr) (hp : PL p) (y : List F) (hy : y.length ≤ 9223372036854775807) : Ctr Try.prog 21 [prv p, fsl y] [] (fun r o => o = [] ∧ r = .bp (Sgn p y)) := by
  refine Ctr.imp ?_
  refine fn_intro (E := env 0) tys_ok rfl rfl rfl Try.func21 (by kernel_rfl) rfl (by kernel_rfl) ?_
  have hly := fr_len y
  have hlr := rw_len p.r
  repeat' (conv => whnf
           first | (refine CondOb.mk (fun _ => ?_) (fun _ => ?_) <;> first | (exfalso; omega) | skip) | refine ArOb.fits (by first | omega | (simp only [ints_len] at *; omega)) ?_ | refine LitOb.vec ?_ | refine MakeOb.vec ?_ | refine AllocOb.box ?_ | refine AggOb.mk (by decide +kernel) ?_ | refine ArU.fits (by first | omega | (simp only [ints_len] at *; omega)) ?_ | refine ArB.fits (by first | omega | (simp only [ints_len] at *; omega)) ?_ | refine CutOb.split ?_ | refine Gh.mk [] ?_ | refine And.intro (And.intro (by (simp only [List.length_append, List.length_take, List.length_drop, List.length_cons, List.length_nil, ints_len, List.length_replicate, fr_len, rw_len]; omega)) (by (simp only [List.length_append, List.length_take, List.length_drop, List.length_cons, List.length_nil, ints_len, List.length_replicate, fr_len, rw_len]; omega))) ?_ | refine ⟨_, _, rfl, ints_get (by first | omega | (simp only [ints_len] at *; omega)), ?_⟩ | refine ⟨_, _, (Int.toNat_of_nonneg (by first | omega | (simp only [ints_len] at *; omega))).symm, ints_get (by first | omega | (simp only [ints_len] at *; omega)), ?_⟩ | (refine CallOb.mk [] (rValidP_ok p hp) rfl (ImpL.refl _) rfl rfl ?_; rintro _ _ ⟨rfl, rfl⟩) | fail)
  all_goals try (conv => whnf)
  · exact ⟨rfl, Imp.bl ⟨fun h => (by cases h), fun h => absurd h.1 (by assumption)⟩⟩
  · exact ⟨rfl, Imp.bl ⟨fun h => (by cases h), fun h => by have := h.2.1; omega⟩⟩
  have hvp := Classical.not_not.1 ‹¬¬VP p›
  have hyl : y.length = p.r.length := by omega
  have hsg := sgn_iff hvp hyl
  refine LoopOb.mk (Y := Nat) (st := fun i => ⟨[(5, i64 i), (4, .bl false), (2, .ptr 0 0), (0, prv p), (1, fsl y)], [.box [fsl p.c, .psl 4 (rws p.r)]]⟩)
    (inv := fun i => i ≤ p.r.length ∧ ∀ j < i, SgnAt (p.r.getD j rw0) (y.getD j (0, 1))) (fun i => p.r.length - i) 0 [0] ⟨by omega, by omega⟩ (by (refine Le.mk (by kernel_rfl) ?_ ?_ <;> repeat' (first | exact True.intro | refine And.intro ?_ ?_ | exact Imp.refl _ | exact Imp.any _ | exact Imp.num (by first | omega | simp only [ints_len]) | exact rfl | exact Imp.bl (by simp)))) ?_
  rintro i ⟨hi, hv⟩
  repeat' (conv => whnf
           first | refine ArOb.fits (by first | omega | (simp only [ints_len] at *; omega)) ?_ | refine LitOb.vec ?_ | refine MakeOb.vec ?_ | refine AllocOb.box ?_ | refine AggOb.mk (by decide +kernel) ?_ | refine ArU.fits (by first | omega | (simp only [ints_len] at *; omega)) ?_ | refine ArB.fits (by first | omega | (simp only [ints_len] at *; omega)) ?_ | refine CutOb.split ?_ | refine Gh.mk [] ?_ | refine And.intro (And.intro (by (simp only [List.length_append, List.length_take, List.length_drop, List.length_cons, List.length_nil, ints_len, List.length_replicate, fr_len, rw_len]; omega)) (by (simp only [List.length_append, List.length_take, List.length_drop, List.length_cons, List.length_nil, ints_len, List.length_replicate, fr_len, rw_len]; omega))) ?_ | refine ⟨_, _, rfl, ints_get (by first | omega | (simp only [ints_len] at *; omega)), ?_⟩ | refine ⟨_, _, (Int.toNat_of_nonneg (by first | omega | (simp only [ints_len] at *; omega))).symm, ints_get (by first | omega | (simp only [ints_len] at *; omega)), ?_⟩ | fail)
  all_goals try (conv => whnf)
  refine CondOb.mk (fun hlt => ?_) (fun hlt => ?_)
  · have hil : i < p.r.length := by omega
    have hp2 := hp.2.1
    have hgt := rw_get hil
    have hgy := fr_get (l := y) (i := i) (by omega)
    have hst : SgnAt (p.r.getD i rw0) (y.getD i (0, 1)) → _ := fun h => lt_step hv h
    have hno : ¬ SgnAt (p.r.getD i rw0) (y.getD i (0, 1)) → ¬ Sgn p y := fun h k => h (hsg.1 k i hil)
    generalize p.r.getD i rw0 = w at *
    generalize y.getD i (0, 1) = f at *
    unfold SgnAt at hst hno
    have hno' : ¬ VF f ∨ (w.2.1 = 1 ∧ 0 < f.1) ∨ (w.2.1 = 2 ∧ f.1 < 0) → ¬ Sgn p y := fun h => hno (fun k => by
      rcases h with h | h | h
      · exact h k.1
      · exact k.2.1 h
      · exact k.2.2 h)
    clear hno
    repeat' (conv => whnf
             first | (refine CondOb.mk (fun _ => ?_) (fun _ => ?_) <;> first | (exfalso; omega) | skip) | refine ArOb.fits (by first | omega | (simp only [ints_len] at *; omega)) ?_ | refine LitOb.vec ?_ | refine MakeOb.vec ?_ | refine AllocOb.box ?_ | refine AggOb.mk (by decide +kernel) ?_ | refine ArU.fits (by first | omega | (simp only [ints_len] at *; omega)) ?_ | refine ArB.fits (by first | omega | (simp only [ints_len] at *; omega)) ?_ | refine CutOb.split ?_ | refine Gh.mk [] ?_ | refine And.intro (And.intro (by (simp only [List.length_append, List.length_take, List.length_drop, List.length_cons, List.length_nil, ints_len, List.length_replicate, fr_len, rw_len]; omega)) (by (simp only [List.length_append, List.length_take, List.length_drop, List.length_cons, List.length_nil, ints_len, List.length_replicate, fr_len, rw_len]; omega))) ?_ | refine ⟨_, _, rfl, ints_get (by first | omega | (simp only [ints_len] at *; omega)), ?_⟩ | refine ⟨_, _, (Int.toNat_of_nonneg (by first | omega | (simp only [ints_len] at *; omega))).symm, ints_get (by first | omega | (simp only [ints_len] at *; omega)), ?_⟩ | refine ⟨i, _, rfl, hgt, ?_⟩ | refine ⟨i, _, rfl, hgy, ?_⟩ | (refine CallOb.mk [] (rValid_ok f.1 f.2) rfl (ImpL.refl _) rfl rfl ?_; rintro _ _ ⟨rfl, rfl⟩) | fail)
    all_goals try (conv => whnf)
    all_goals first
      | exact ⟨rfl, Imp.bl ⟨fun h => (by cases h), fun h => absurd h (hno' (.inl (by assumption)))⟩⟩
      | exact ⟨rfl, Imp.bl ⟨fun h => (by cases h), fun h => absurd h (hno' (.inr (by omega)))⟩⟩
      | exact ⟨i + 1, [0], ⟨by omega, hst ⟨Classical.not_not.1 (by assumption), by omega, by omega⟩⟩, by omega, by (refine Le.mk (by kernel_rfl) ?_ ?_ <;> repeat' (first | exact True.intro | refine And.intro ?_ ?_ | exact Imp.refl _ | exact Imp.any _ | exact Imp.num (by first | omega | simp only [ints_len]) | exact rfl | exact Imp.bl (by simp)))⟩
      | trace_state
  · repeat' (conv => whnf
             first | refine CondOb.mk (fun _ => ?_) (fun _ => ?_) | refine ArOb.fits (by first | omega | (simp only [ints_len] at *; omega)) ?_ | refine LitOb.vec ?_ | refine MakeOb.vec ?_ | refine AllocOb.box ?_ | refine AggOb.mk (by decide +kernel) ?_ | refine ArU.fits (by first | omega | (simp only [ints_len] at *; omega)) ?_ | refine ArB.fits (by first | omega | (simp only [ints_len] at *; omega)) ?_ | refine CutOb.split ?_ | refine Gh.mk [] ?_ | refine And.intro (And.intro (by (simp only [List.length_append, List.length_take, List.length_drop, List.length_cons, List.length_nil, ints_len, List.length_replicate, fr_len, rw_len]; omega)) (by (simp only [List.length_append, List.length_take, List.length_drop, List.length_cons, List.length_nil, ints_len, List.length_replicate, fr_len, rw_len]; omega))) ?_ | refine ⟨_, _, rfl, ints_get (by first | omega | (simp only [ints_len] at *; omega)), ?_⟩ | refine ⟨_, _, (Int.toNat_of_nonneg (by first | omega | (simp only [ints_len] at *; omega))).symm, ints_get (by first | omega | (simp only [ints_len] at *; omega)), ?_⟩ | fail)
    all_goals try (conv => whnf)
    exact ⟨rfl, Imp.bl ⟨fun _ => hsg.2 (fun j hj => hv j (by omega)), fun _ => rfl⟩⟩
end Go.Proofs.Ytdkfgecaejmanaa
