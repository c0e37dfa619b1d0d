/-
  A text of the proofs of this seat: lemmas that the statements' proofs use; it states nothing of the program by itself beyond the contracts that its theorems bear. Conditions: those that stand in each theorem. Its short name: P9.
-/
import Derived.Test.YtdkfgecaejmanaaP8
set_option linter.unusedVariables false
set_option linter.unusedSimpArgs false
namespace Go.Proofs.Ytdkfgecaejmanaa
open Go.Sx Go.Fq
set_option maxRecDepth 4000
set_option maxHeartbeats 2000000
theorem eqR {a b : R} (h1 : a.2.2 = 0) (h2 : b.2.2 = 0) : a = b ↔ (a.1 = b.1 ∧ a.2.1 = b.2.1) := by
  obtain ⟨x, y, z⟩ := a
  obtain ⟨u, v, w⟩ := b
  simp only at h1 h2
  subst h1 h2
  simp
theorem conj2 {a b : Prop} : conj ([a] ++ ([b] ++ [])) ↔ a ∧ b := by simp [conj]
theorem Optimal_ok (p : Pr) (hp : PL p) (x y : List F) (hx : x.length ≤ 9223372036854775807) (hy : y.length ≤ 9223372036854775807) : Ctr Try.prog 22 [prv p, fsl x, fsl y] [] (fun r o => o = [] ∧ r = .bp (Opt p x y)) := by
  refine Ctr.imp ?_
  refine fn_intro (E := env 0) tys_ok rfl rfl rfl Try.func22 (by kernel_rfl) rfl (by kernel_rfl) ?_
  have cB := Bound_ok p hp y hy
  have cP := Product_ok p.c x hp.1
  have ho : Opt p x y ↔ Feas p x ∧ (bound p y).2.2 = 0 ∧ prod p.c x = bound p y := Iff.rfl
  generalize bound p y = b at *
  generalize prod p.c x = m at *
  repeat' (conv => whnf
           first | refine CondOb.mk (fun _ => ?_) (fun _ => ?_) | refine ArOb.fits (by first | omega | (simp only [ints_len] at *; omega)) ?_ | refine LitOb.vec ?_ | refine MakeOb.vec ?_ | refine AllocOb.box ?_ | refine AggOb.mk (by decide +kernel) ?_ | refine ArU.fits (by first | omega | (simp only [ints_len] at *; omega)) ?_ | refine ArB.fits (by first | omega | (simp only [ints_len] at *; omega)) ?_ | refine CutOb.split ?_ | refine Gh.mk [] ?_ | refine And.intro (And.intro (by (simp only [List.length_append, List.length_take, List.length_drop, List.length_cons, List.length_nil, ints_len, List.length_replicate, fr_len, rw_len]; omega)) (by (simp only [List.length_append, List.length_take, List.length_drop, List.length_cons, List.length_nil, ints_len, List.length_replicate, fr_len, rw_len]; omega))) ?_ | refine ⟨_, _, rfl, ints_get (by first | omega | (simp only [ints_len] at *; omega)), ?_⟩ | refine ⟨_, _, (Int.toNat_of_nonneg (by first | omega | (simp only [ints_len] at *; omega))).symm, ints_get (by first | omega | (simp only [ints_len] at *; omega)), ?_⟩ | (refine CallOb.mk [] (Feasible_ok p hp x hx) rfl (ImpL.refl _) rfl rfl ?_; rintro _ _ ⟨rfl, rfl⟩) | (refine CallOb.mk [] cB rfl (ImpL.refl _) rfl rfl ?_; rintro _ _ ⟨rfl, rfl⟩) | (refine CallOb.mk [] cP rfl (ImpL.refl _) rfl rfl ?_; rintro _ _ ⟨rfl, rfl⟩) | fail)
  all_goals try (conv => whnf)
  all_goals rw [ho]
  all_goals first
    | exact ⟨rfl, Imp.bl ⟨fun h => (by cases h), fun h => absurd h.1 (by assumption)⟩⟩
    | exact ⟨rfl, Imp.bl ⟨fun h => (by cases h), fun h => absurd h.2.1 (by assumption)⟩⟩
    | exact ⟨rfl, Imp.bl ⟨fun h => (by cases h), fun h => by have h1 := h.2.1; rw [← h.2.2] at h1; exact absurd h1 (by assumption)⟩⟩
    | (refine ⟨rfl, Imp.bp ?_⟩
       have hf := Classical.not_not.1 ‹¬¬Feas p x›
       have h1 : m.2.2 = 0 := by omega
       have h2 : b.2.2 = 0 := by omega
       rw [conj2, eqR h1 h2]
       constructor
       · intro h; exact ⟨hf, h2, by omega, by omega⟩
       · intro h; exact ⟨by omega, by omega⟩)
theorem rOptimal_ok (p : Pr) (hp : PL p) (x y : List F) (hx : x.length ≤ 9223372036854775807) (hy : y.length ≤ 9223372036854775807) : Ctr Try.prog 23 [prv p, fsl x, fsl y] [] (fun r o => o = [] ∧ r = .bp (Opt p x y)) := by
  refine Ctr.imp ?_
  refine fn_intro (E := env 0) tys_ok rfl rfl rfl Try.func23 (by kernel_rfl) rfl (by kernel_rfl) ?_
  have cB := rBound_ok p hp y hy
  have cP := rProduct_ok p.c x hp.1
  have ho : Opt p x y ↔ Feas p x ∧ (bound p y).2.2 = 0 ∧ prod p.c x = bound p y := Iff.rfl
  generalize bound p y = b at *
  generalize prod p.c x = m at *
  repeat' (conv => whnf
           first | refine CondOb.mk (fun _ => ?_) (fun _ => ?_) | refine ArOb.fits (by first | omega | (simp only [ints_len] at *; omega)) ?_ | refine LitOb.vec ?_ | refine MakeOb.vec ?_ | refine AllocOb.box ?_ | refine AggOb.mk (by decide +kernel) ?_ | refine ArU.fits (by first | omega | (simp only [ints_len] at *; omega)) ?_ | refine ArB.fits (by first | omega | (simp only [ints_len] at *; omega)) ?_ | refine CutOb.split ?_ | refine Gh.mk [] ?_ | refine And.intro (And.intro (by (simp only [List.length_append, List.length_take, List.length_drop, List.length_cons, List.length_nil, ints_len, List.length_replicate, fr_len, rw_len]; omega)) (by (simp only [List.length_append, List.length_take, List.length_drop, List.length_cons, List.length_nil, ints_len, List.length_replicate, fr_len, rw_len]; omega))) ?_ | refine ⟨_, _, rfl, ints_get (by first | omega | (simp only [ints_len] at *; omega)), ?_⟩ | refine ⟨_, _, (Int.toNat_of_nonneg (by first | omega | (simp only [ints_len] at *; omega))).symm, ints_get (by first | omega | (simp only [ints_len] at *; omega)), ?_⟩ | (refine CallOb.mk [] (rFeasible_ok p hp x hx) rfl (ImpL.refl _) rfl rfl ?_; rintro _ _ ⟨rfl, rfl⟩) | (refine CallOb.mk [] cB rfl (ImpL.refl _) rfl rfl ?_; rintro _ _ ⟨rfl, rfl⟩) | (refine CallOb.mk [] cP rfl (ImpL.refl _) rfl rfl ?_; rintro _ _ ⟨rfl, rfl⟩) | fail)
  all_goals try (conv => whnf)
  all_goals rw [ho]
  all_goals first
    | exact ⟨rfl, Imp.bl ⟨fun h => (by cases h), fun h => absurd h.1 (by assumption)⟩⟩
    | exact ⟨rfl, Imp.bl ⟨fun h => (by cases h), fun h => absurd h.2.1 (by assumption)⟩⟩
    | exact ⟨rfl, Imp.bl ⟨fun h => (by cases h), fun h => by have h1 := h.2.1; rw [← h.2.2] at h1; exact absurd h1 (by assumption)⟩⟩
    | (refine ⟨rfl, Imp.bp ?_⟩
       have hf := Classical.not_not.1 ‹¬¬Feas p x›
       have h1 : m.2.2 = 0 := by omega
       have h2 : b.2.2 = 0 := by omega
       rw [conj2, eqR h1 h2]
       constructor
       · intro h; exact ⟨hf, h2, by omega, by omega⟩
       · intro h; exact ⟨by omega, by omega⟩)
theorem repl_getD (n j : Nat) : (List.replicate n ((0, 1) : F)).getD j (0, 1) = (0, 1) := by
  rw [List.getD_eq_getElem?_getD, List.getElem?_replicate]; split <;> rfl
theorem Infeasible_ok (p : Pr) (hp : PL p) (y : List F) (hy : y.length ≤ 9223372036854775807) : Ctr Try.prog 24 [prv p, fsl y] [] (fun r o => o = [] ∧ r = .bp (Inf p y)) := by
  refine Ctr.imp ?_
  refine fn_intro (E := env 0) tys_ok rfl rfl rfl Try.func24 (by kernel_rfl) rfl (by kernel_rfl) ?_
  have cP := Product_ok (bds p) y (by rw [bds_len]; exact hp.2.1)
  have ho : Inf p y ↔ Sgn p y ∧ Blw p y (fun _ => (0, 1)) ∧ (prod (bds p) y).2.2 = 0 ∧ 0 < (prod (bds p) y).1 := Iff.rfl
  generalize prod (bds p) y = m at *
  repeat' (conv => whnf
           first | refine CondOb.mk (fun _ => ?_) (fun _ => ?_) | refine ArOb.fits (by first | omega | (simp only [ints_len] at *; omega)) ?_ | refine LitOb.vec ?_ | refine MakeOb.vec ?_ | refine AllocOb.box ?_ | refine AggOb.mk (by decide +kernel) ?_ | refine ArU.fits (by first | omega | (simp only [ints_len] at *; omega)) ?_ | refine ArB.fits (by first | omega | (simp only [ints_len] at *; omega)) ?_ | refine CutOb.split ?_ | refine Gh.mk [] ?_ | refine And.intro (And.intro (by (simp only [List.length_append, List.length_take, List.length_drop, List.length_cons, List.length_nil, ints_len, List.length_replicate, fr_len, rw_len]; omega)) (by (simp only [List.length_append, List.length_take, List.length_drop, List.length_cons, List.length_nil, ints_len, List.length_replicate, fr_len, rw_len]; omega))) ?_ | refine ⟨_, _, rfl, ints_get (by first | omega | (simp only [ints_len] at *; omega)), ?_⟩ | refine ⟨_, _, (Int.toNat_of_nonneg (by first | omega | (simp only [ints_len] at *; omega))).symm, ints_get (by first | omega | (simp only [ints_len] at *; omega)), ?_⟩ | fail)
  all_goals try (conv => whnf)
  refine CallOb.mk [] (below0_ok p hp y hy 64 (fun _ => (0, 1)) (fun j hj => InfC_ok j)) rfl (ImpL.refl _) rfl rfl ?_
  rintro _ _ ⟨rfl, rfl⟩
  repeat' (conv => whnf
           first | refine ArOb.fits (by first | omega | (simp only [ints_len] at *; omega)) ?_ | refine LitOb.vec ?_ | refine MakeOb.vec ?_ | refine AllocOb.box ?_ | refine AggOb.mk (by decide +kernel) ?_ | refine ArU.fits (by first | omega | (simp only [ints_len] at *; omega)) ?_ | refine ArB.fits (by first | omega | (simp only [ints_len] at *; omega)) ?_ | refine CutOb.split ?_ | refine Gh.mk [] ?_ | refine And.intro (And.intro (by (simp only [List.length_append, List.length_take, List.length_drop, List.length_cons, List.length_nil, ints_len, List.length_replicate, fr_len, rw_len]; omega)) (by (simp only [List.length_append, List.length_take, List.length_drop, List.length_cons, List.length_nil, ints_len, List.length_replicate, fr_len, rw_len]; omega))) ?_ | refine ⟨_, _, rfl, ints_get (by first | omega | (simp only [ints_len] at *; omega)), ?_⟩ | refine ⟨_, _, (Int.toNat_of_nonneg (by first | omega | (simp only [ints_len] at *; omega))).symm, ints_get (by first | omega | (simp only [ints_len] at *; omega)), ?_⟩ | fail)
  all_goals try (conv => whnf)
  refine CondOb.mk (fun hs => ?_) (fun hs => ?_)
  · repeat' (conv => whnf
             first | refine CondOb.mk (fun _ => ?_) (fun _ => ?_) | refine ArOb.fits (by first | omega | (simp only [ints_len] at *; omega)) ?_ | refine LitOb.vec ?_ | refine MakeOb.vec ?_ | refine AllocOb.box ?_ | refine AggOb.mk (by decide +kernel) ?_ | refine ArU.fits (by first | omega | (simp only [ints_len] at *; omega)) ?_ | refine ArB.fits (by first | omega | (simp only [ints_len] at *; omega)) ?_ | refine CutOb.split ?_ | refine Gh.mk [] ?_ | refine And.intro (And.intro (by (simp only [List.length_append, List.length_take, List.length_drop, List.length_cons, List.length_nil, ints_len, List.length_replicate, fr_len, rw_len]; omega)) (by (simp only [List.length_append, List.length_take, List.length_drop, List.length_cons, List.length_nil, ints_len, List.length_replicate, fr_len, rw_len]; omega))) ?_ | refine ⟨_, _, rfl, ints_get (by first | omega | (simp only [ints_len] at *; omega)), ?_⟩ | refine ⟨_, _, (Int.toNat_of_nonneg (by first | omega | (simp only [ints_len] at *; omega))).symm, ints_get (by first | omega | (simp only [ints_len] at *; omega)), ?_⟩ | fail)
    all_goals try (conv => whnf)
    rw [ho]
    exact ⟨rfl, Imp.bl ⟨fun h => (by cases h), fun h => absurd ⟨h.1, h.2.1⟩ hs⟩⟩
  have hs := Classical.not_not.1 hs
  have hvp := hs.1.1
  repeat' (conv => whnf
           first | refine CondOb.mk (fun _ => ?_) (fun _ => ?_) | refine ArOb.fits (by first | omega | (simp only [ints_len] at *; omega)) ?_ | refine LitOb.vec ?_ | refine MakeOb.vec ?_ | refine AllocOb.box ?_ | refine AggOb.mk (by decide +kernel) ?_ | refine ArU.fits (by first | omega | (simp only [ints_len] at *; omega)) ?_ | refine ArB.fits (by first | omega | (simp only [ints_len] at *; omega)) ?_ | refine CutOb.split ?_ | refine Gh.mk [] ?_ | refine And.intro (And.intro (by (simp only [List.length_append, List.length_take, List.length_drop, List.length_cons, List.length_nil, ints_len, List.length_replicate, fr_len, rw_len]; omega)) (by (simp only [List.length_append, List.length_take, List.length_drop, List.length_cons, List.length_nil, ints_len, List.length_replicate, fr_len, rw_len]; omega))) ?_ | refine ⟨_, _, rfl, ints_get (by first | omega | (simp only [ints_len] at *; omega)), ?_⟩ | refine ⟨_, _, (Int.toNat_of_nonneg (by first | omega | (simp only [ints_len] at *; omega))).symm, ints_get (by first | omega | (simp only [ints_len] at *; omega)), ?_⟩ | (refine CallOb.mk [] (bounds_ok p hvp) rfl (ImpL.refl _) rfl rfl ?_; rintro _ _ ⟨rfl, rfl⟩) | (refine CallOb.mk [] cP rfl (ImpL.refl _) rfl rfl ?_; rintro _ _ ⟨rfl, rfl⟩) | fail)
  all_goals try (conv => whnf)
  all_goals rw [ho]
  all_goals first
    | exact ⟨rfl, Imp.bl ⟨fun h => (by cases h), fun h => absurd h.2.1 (by assumption)⟩⟩
    | exact ⟨rfl, Imp.bl ⟨fun h => (by cases h), fun h => absurd h.2.2.1 (by assumption)⟩⟩
    | exact ⟨rfl, Imp.bp ⟨fun h => ⟨hs.1, hs.2, by assumption, h⟩, fun h => h.2.2.2⟩⟩
    | exact ⟨rfl, Imp.bp ⟨fun h => ⟨hs, Classical.not_not.1 (by assumption), by assumption, h⟩, fun h => h.2.2.2⟩⟩
theorem rInfeasible_ok (p : Pr) (hp : PL p) (y : List F) (hy : y.length ≤ 9223372036854775807) : Ctr Try.prog 25 [prv p, fsl y] [] (fun r o => o = [] ∧ r = .bp (Inf p y)) := by
  refine Ctr.imp ?_
  refine fn_intro (E := env 0) tys_ok rfl rfl rfl Try.func25 (by kernel_rfl) rfl (by kernel_rfl) ?_
  have cP := rProduct_ok (bds p) y (by rw [bds_len]; exact hp.2.1)
  have ho : Inf p y ↔ Sgn p y ∧ Blw p y (fun _ => (0, 1)) ∧ (prod (bds p) y).2.2 = 0 ∧ 0 < (prod (bds p) y).1 := Iff.rfl
  generalize prod (bds p) y = m at *
  have hlc := fr_len p.c
  repeat' (conv => whnf
           first | refine ArOb.fits (by first | omega | (simp only [ints_len] at *; omega)) ?_ | refine LitOb.vec ?_ | refine MakeOb.vec ?_ | refine AllocOb.box ?_ | refine AggOb.mk (by decide +kernel) ?_ | refine ArU.fits (by first | omega | (simp only [ints_len] at *; omega)) ?_ | refine ArB.fits (by first | omega | (simp only [ints_len] at *; omega)) ?_ | refine CutOb.split ?_ | refine Gh.mk [] ?_ | refine And.intro (And.intro (by (simp only [List.length_append, List.length_take, List.length_drop, List.length_cons, List.length_nil, ints_len, List.length_replicate, fr_len, rw_len]; omega)) (by (simp only [List.length_append, List.length_take, List.length_drop, List.length_cons, List.length_nil, ints_len, List.length_replicate, fr_len, rw_len]; omega))) ?_ | refine ⟨_, _, rfl, ints_get (by first | omega | (simp only [ints_len] at *; omega)), ?_⟩ | refine ⟨_, _, (Int.toNat_of_nonneg (by first | omega | (simp only [ints_len] at *; omega))).symm, ints_get (by first | omega | (simp only [ints_len] at *; omega)), ?_⟩ | refine DrawOb.mk [] (.qs [0, 1] (.l 2 [] (.qs [3, 4, 5, 6, 7, 8, 9] (.l 10 [5] (.l 11 [] (.qs [12, 13] .nil) .no) .no)) .no)) (by decide +kernel) ?_ | (refine CallOb.mk [] (rSigns_ok p hp y hy) rfl (ImpL.refl _) rfl rfl ?_; rintro _ _ ⟨rfl, rfl⟩) | fail)
  all_goals try (conv => whnf)
  refine CondOb.mk (fun hs => ?_) (fun hs => ?_)
  · repeat' (conv => whnf
             first | refine CondOb.mk (fun _ => ?_) (fun _ => ?_) | refine ArOb.fits (by first | omega | (simp only [ints_len] at *; omega)) ?_ | refine LitOb.vec ?_ | refine MakeOb.vec ?_ | refine AllocOb.box ?_ | refine AggOb.mk (by decide +kernel) ?_ | refine ArU.fits (by first | omega | (simp only [ints_len] at *; omega)) ?_ | refine ArB.fits (by first | omega | (simp only [ints_len] at *; omega)) ?_ | refine CutOb.split ?_ | refine Gh.mk [] ?_ | refine And.intro (And.intro (by (simp only [List.length_append, List.length_take, List.length_drop, List.length_cons, List.length_nil, ints_len, List.length_replicate, fr_len, rw_len]; omega)) (by (simp only [List.length_append, List.length_take, List.length_drop, List.length_cons, List.length_nil, ints_len, List.length_replicate, fr_len, rw_len]; omega))) ?_ | refine ⟨_, _, rfl, ints_get (by first | omega | (simp only [ints_len] at *; omega)), ?_⟩ | refine ⟨_, _, (Int.toNat_of_nonneg (by first | omega | (simp only [ints_len] at *; omega))).symm, ints_get (by first | omega | (simp only [ints_len] at *; omega)), ?_⟩ | refine DrawOb.mk [] (.qs [0, 1] (.l 2 [] (.qs [3, 4, 5, 6, 7, 8, 9] (.l 10 [5] (.l 11 [] (.qs [12, 13] .nil) .no) .no)) .no)) (by decide +kernel) ?_ | fail)
    all_goals try (conv => whnf)
    rw [ho]
    exact ⟨rfl, Imp.bl ⟨fun h => (by cases h), fun h => absurd h.1 hs⟩⟩
  have hs := Classical.not_not.1 hs
  have hvp := hs.1
  have cB := rbelow_ok p hp hvp y (List.replicate p.c.length (0, 1)) (by simp)
  have e : (fun j => (List.replicate p.c.length ((0, 1) : F)).getD j (0, 1)) = fun _ => (0, 1) := by funext j; exact repl_getD _ _
  rw [e] at cB
  have hc6 := hvp.2.1
  repeat' (conv => whnf
           first | refine CondOb.mk (fun _ => ?_) (fun _ => ?_) | refine ArOb.fits (by first | omega | (simp only [ints_len] at *; omega)) ?_ | refine LitOb.vec ?_ | refine MakeOb.vec ?_ | refine AllocOb.box ?_ | refine AggOb.mk (by decide +kernel) ?_ | refine ArU.fits (by first | omega | (simp only [ints_len] at *; omega)) ?_ | refine ArB.fits (by first | omega | (simp only [ints_len] at *; omega)) ?_ | refine CutOb.split ?_ | refine Gh.mk [] ?_ | refine And.intro (And.intro (by (simp only [List.length_append, List.length_take, List.length_drop, List.length_cons, List.length_nil, ints_len, List.length_replicate, fr_len, rw_len]; omega)) (by (simp only [List.length_append, List.length_take, List.length_drop, List.length_cons, List.length_nil, ints_len, List.length_replicate, fr_len, rw_len]; omega))) ?_ | refine ⟨_, _, rfl, ints_get (by first | omega | (simp only [ints_len] at *; omega)), ?_⟩ | refine ⟨_, _, (Int.toNat_of_nonneg (by first | omega | (simp only [ints_len] at *; omega))).symm, ints_get (by first | omega | (simp only [ints_len] at *; omega)), ?_⟩ | refine DrawOb.mk [] (.qs [0, 1] (.l 2 [] (.qs [3, 4, 5, 6, 7, 8, 9] (.l 10 [5] (.l 11 [] (.qs [12, 13] .nil) .no) .no)) .no)) (by decide +kernel) ?_ | (refine CallOb.mk [] (zeros_ok p.c.length (by omega)) rfl ⟨Imp.num (by omega), trivial⟩ rfl rfl ?_; rintro _ _ ⟨rfl, rfl⟩) | (refine CallOb.mk [] cB rfl (ImpL.refl _) rfl rfl ?_; rintro _ _ ⟨rfl, rfl⟩) | (refine CallOb.mk [] (rbounds_ok p hvp) rfl (ImpL.refl _) rfl rfl ?_; rintro _ _ ⟨rfl, rfl⟩) | (refine CallOb.mk [] cP rfl (ImpL.refl _) rfl rfl ?_; rintro _ _ ⟨rfl, rfl⟩) | fail)
  all_goals try (conv => whnf)
  all_goals rw [ho]
  all_goals first
    | exact ⟨rfl, Imp.bl ⟨fun h => (by cases h), fun h => absurd h.2.1 (by assumption)⟩⟩
    | exact ⟨rfl, Imp.bl ⟨fun h => (by cases h), fun h => absurd h.2.2.1 (by assumption)⟩⟩
    | exact ⟨rfl, Imp.bp ⟨fun h => ⟨hs.1, hs.2, by assumption, h⟩, fun h => h.2.2.2⟩⟩
    | exact ⟨rfl, Imp.bp ⟨fun h => ⟨hs, Classical.not_not.1 (by assumption), by assumption, h⟩, fun h => h.2.2.2⟩⟩
end Go.Proofs.Ytdkfgecaejmanaa
