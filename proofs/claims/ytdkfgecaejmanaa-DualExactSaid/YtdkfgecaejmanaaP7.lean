/-
  A text of the proofs of this seat: lemmas that the statements' proofs use; it states nothing of the program by itself beyond the contracts that its theorems bear. Conditions: those that stand in each theorem. Its short name: P7.
-/
import Derived.Test.YtdkfgecaejmanaaP6
set_option linter.unusedVariables false
set_option linter.unusedSimpArgs false
namespace Go.Proofs.Ytdkfgecaejmanaa
open Go.Sx Go.Fq
set_option maxRecDepth 4000
set_option maxHeartbeats 2000000
theorem below1_ok (p : Pr) (hp : PL p) (y : List F) (hy : y.length ≤ 9223372036854775807) (g : Nat) (c : SV) (l : Nat → F)
    (hg : ∀ j, j < p.c.length → Ctr Try.prog g [i64 j, c] [] (fun r o => o = [] ∧ r = .agg [i64 (l j).1, i64 (l j).2])) :
    Ctr Try.prog 56 [prv p, fsl y, .fn g [.shut c]] [] (fun r o => o = [] ∧ r = .bp (Sgn p y ∧ Blw p y l)) := by
  refine Ctr.imp ?_
  refine fn_intro (E := env 0) tys_ok rfl rfl rfl Try.func56 (by kernel_rfl) rfl (by kernel_rfl) ?_
  have hlc := fr_len p.c
  repeat' (conv => whnf
           first | refine CondOb.mk (fun _ => ?_) (fun _ => ?_) | refine ArOb.fits (by first | omega | (simp only [ints_len] at *; omega)) ?_ | refine LitOb.vec ?_ | refine MakeOb.vec ?_ | refine AllocOb.box ?_ | refine AggOb.mk (by decide +kernel) ?_ | refine ArU.fits (by first | omega | (simp only [ints_len] at *; omega)) ?_ | refine ArB.fits (by first | omega | (simp only [ints_len] at *; omega)) ?_ | refine CutOb.split ?_ | refine Gh.mk [] ?_ | refine And.intro (And.intro (by (simp only [List.length_append, List.length_take, List.length_drop, List.length_cons, List.length_nil, ints_len, List.length_replicate, fr_len, rw_len]; omega)) (by (simp only [List.length_append, List.length_take, List.length_drop, List.length_cons, List.length_nil, ints_len, List.length_replicate, fr_len, rw_len]; omega))) ?_ | refine ⟨_, _, rfl, ints_get (by first | omega | (simp only [ints_len] at *; omega)), ?_⟩ | refine ⟨_, _, (Int.toNat_of_nonneg (by first | omega | (simp only [ints_len] at *; omega))).symm, ints_get (by first | omega | (simp only [ints_len] at *; omega)), ?_⟩ | refine DrawOb.mk [] (.qs [0, 1, 2, 3, 4, 5] (.l 6 [3] (.l 7 [] (.qs [8, 9] .nil) .no) .no)) (by decide +kernel) ?_ | (refine CallOb.mk [] (Signs_ok p hp y hy) rfl (ImpL.refl _) rfl rfl ?_; rintro _ _ ⟨rfl, rfl⟩) | fail)
  all_goals try (conv => whnf)
  · exact ⟨rfl, Imp.bl ⟨fun h => (by cases h), fun h => absurd h.1 (by assumption)⟩⟩
  have hsg := Classical.not_not.1 ‹¬¬Sgn p y›
  have hvp := hsg.1
  refine LoopOb.mk (Y := Nat) (st := fun i => ⟨[(17, i64 i), (16, i64 (fr2 p.c).length), (15, fsl p.c), (6, .bl false), (3, .ptr 0 0), (0, prv p), (1, fsl y), (2, .fn g [.shut c])], [.box [fsl p.c, .psl 4 (rws p.r)]]⟩)
    (inv := fun i => i ≤ p.c.length ∧ ∀ j < i, (prod (col p j) y).2.2 = 0 ∧ fcmp ((prod (col p j) y).1, (prod (col p j) y).2.1) (l j) ≤ 0) (fun i => p.c.length - i) 0 [0] ⟨by omega, by omega⟩ (by (refine Le.mk (by kernel_rfl) ?_ ?_ <;> repeat' (first | exact True.intro | refine And.intro ?_ ?_ | exact Imp.refl _ | exact Imp.any _ | exact Imp.num (by first | omega | simp only [ints_len]) | exact rfl | exact Imp.bl (by simp)))) ?_
  rintro i ⟨hi, hv⟩
  repeat' (conv => whnf
           first | refine ArOb.fits (by first | omega | (simp only [ints_len] at *; omega)) ?_ | refine LitOb.vec ?_ | refine MakeOb.vec ?_ | refine AllocOb.box ?_ | refine AggOb.mk (by decide +kernel) ?_ | refine ArU.fits (by first | omega | (simp only [ints_len] at *; omega)) ?_ | refine ArB.fits (by first | omega | (simp only [ints_len] at *; omega)) ?_ | refine CutOb.split ?_ | refine Gh.mk [] ?_ | refine And.intro (And.intro (by (simp only [List.length_append, List.length_take, List.length_drop, List.length_cons, List.length_nil, ints_len, List.length_replicate, fr_len, rw_len]; omega)) (by (simp only [List.length_append, List.length_take, List.length_drop, List.length_cons, List.length_nil, ints_len, List.length_replicate, fr_len, rw_len]; omega))) ?_ | refine ⟨_, _, rfl, ints_get (by first | omega | (simp only [ints_len] at *; omega)), ?_⟩ | refine ⟨_, _, (Int.toNat_of_nonneg (by first | omega | (simp only [ints_len] at *; omega))).symm, ints_get (by first | omega | (simp only [ints_len] at *; omega)), ?_⟩ | refine DrawOb.mk [] (.qs [0, 1, 2, 3, 4, 5] (.l 6 [3] (.l 7 [] (.qs [8, 9] .nil) .no) .no)) (by decide +kernel) ?_ | fail)
  all_goals try (conv => whnf)
  refine CondOb.mk (fun hlt => ?_) (fun hlt => ?_)
  · have hic : i < p.c.length := by omega
    have hp2 := hp.1
    have cC := column_ok p hvp i hic
    have cP := Product_ok (col p i) y (by simp [col]; exact hp.2.1)
    have cL := hg i hic
    have cF := fCompareF ((prod (col p i) y).1, (prod (col p i) y).2.1) (l i)
    have hst : (prod (col p i) y).2.2 = 0 ∧ fcmp ((prod (col p i) y).1, (prod (col p i) y).2.1) (l i) ≤ 0 → _ := fun h => lt_step hv h
    have hno : ¬ ((prod (col p i) y).2.2 = 0 ∧ fcmp ((prod (col p i) y).1, (prod (col p i) y).2.1) (l i) ≤ 0) → ¬ Blw p y l := fun h k => h (k i hic)
    generalize col p i = co at *
    generalize prod co y = m at *
    generalize l i = li at *
    generalize fcmp (m.1, m.2.1) li = cc at *
    repeat' (conv => whnf
             first | (refine CondOb.mk (fun _ => ?_) (fun _ => ?_) <;> first | (exfalso; omega) | skip) | refine ArOb.fits (by first | omega | (simp only [ints_len] at *; omega)) ?_ | refine LitOb.vec ?_ | refine MakeOb.vec ?_ | refine AllocOb.box ?_ | refine AggOb.mk (by decide +kernel) ?_ | refine ArU.fits (by first | omega | (simp only [ints_len] at *; omega)) ?_ | refine ArB.fits (by first | omega | (simp only [ints_len] at *; omega)) ?_ | refine CutOb.split ?_ | refine Gh.mk [] ?_ | refine And.intro (And.intro (by (simp only [List.length_append, List.length_take, List.length_drop, List.length_cons, List.length_nil, ints_len, List.length_replicate, fr_len, rw_len]; omega)) (by (simp only [List.length_append, List.length_take, List.length_drop, List.length_cons, List.length_nil, ints_len, List.length_replicate, fr_len, rw_len]; omega))) ?_ | refine ⟨_, _, rfl, ints_get (by first | omega | (simp only [ints_len] at *; omega)), ?_⟩ | refine ⟨_, _, (Int.toNat_of_nonneg (by first | omega | (simp only [ints_len] at *; omega))).symm, ints_get (by first | omega | (simp only [ints_len] at *; omega)), ?_⟩ | refine DrawOb.mk [] (.qs [0, 1, 2, 3, 4, 5] (.l 6 [3] (.l 7 [] (.qs [8, 9] .nil) .no) .no)) (by decide +kernel) ?_ | (refine CallOb.mk [] cC rfl (ImpL.refl _) rfl rfl ?_; rintro _ _ ⟨rfl, rfl⟩) | (refine CallOb.mk [] cP rfl (ImpL.refl _) rfl rfl ?_; rintro _ _ ⟨rfl, rfl⟩) | (refine CallOb.mk [] cL rfl ⟨Imp.refl _, Imp.unshut _, trivial⟩ rfl rfl ?_; rintro _ _ ⟨rfl, rfl⟩) | (refine CallOb.mk [] cF rfl (ImpL.refl _) rfl rfl ?_; rintro _ _ ⟨rfl, rfl⟩) | fail)
    all_goals try (conv => whnf)
    all_goals first
      | exact ⟨rfl, Imp.bl ⟨fun h => (by cases h), fun h => absurd h.2 (hno (fun k => by omega))⟩⟩
      | exact ⟨i + 1, [0], ⟨by omega, hst ⟨by omega, by omega⟩⟩, by omega, by (refine Le.mk (by kernel_rfl) ?_ ?_ <;> repeat' (first | exact True.intro | refine And.intro ?_ ?_ | exact Imp.refl _ | exact Imp.any _ | exact Imp.num (by first | omega | simp only [ints_len]) | exact rfl | exact Imp.bl (by simp)))⟩
      | trace_state
  · repeat' (conv => whnf
             first | refine CondOb.mk (fun _ => ?_) (fun _ => ?_) | refine ArOb.fits (by first | omega | (simp only [ints_len] at *; omega)) ?_ | refine LitOb.vec ?_ | refine MakeOb.vec ?_ | refine AllocOb.box ?_ | refine AggOb.mk (by decide +kernel) ?_ | refine ArU.fits (by first | omega | (simp only [ints_len] at *; omega)) ?_ | refine ArB.fits (by first | omega | (simp only [ints_len] at *; omega)) ?_ | refine CutOb.split ?_ | refine Gh.mk [] ?_ | refine And.intro (And.intro (by (simp only [List.length_append, List.length_take, List.length_drop, List.length_cons, List.length_nil, ints_len, List.length_replicate, fr_len, rw_len]; omega)) (by (simp only [List.length_append, List.length_take, List.length_drop, List.length_cons, List.length_nil, ints_len, List.length_replicate, fr_len, rw_len]; omega))) ?_ | refine ⟨_, _, rfl, ints_get (by first | omega | (simp only [ints_len] at *; omega)), ?_⟩ | refine ⟨_, _, (Int.toNat_of_nonneg (by first | omega | (simp only [ints_len] at *; omega))).symm, ints_get (by first | omega | (simp only [ints_len] at *; omega)), ?_⟩ | refine DrawOb.mk [] (.qs [0, 1, 2, 3, 4, 5] (.l 6 [3] (.l 7 [] (.qs [8, 9] .nil) .no) .no)) (by decide +kernel) ?_ | fail)
    all_goals try (conv => whnf)
    exact ⟨rfl, Imp.bl ⟨fun _ => ⟨hsg, fun j hj => hv j (by omega)⟩, fun _ => rfl⟩⟩
theorem below0_ok (p : Pr) (hp : PL p) (y : List F) (hy : y.length ≤ 9223372036854775807) (g : Nat) (l : Nat → F)
    (hg : ∀ j, j < p.c.length → Ctr Try.prog g [i64 j] [] (fun r o => o = [] ∧ r = .agg [i64 (l j).1, i64 (l j).2])) :
    Ctr Try.prog 56 [prv p, fsl y, .fn g []] [] (fun r o => o = [] ∧ r = .bp (Sgn p y ∧ Blw p y l)) := by
  refine Ctr.imp ?_
  refine fn_intro (E := env 0) tys_ok rfl rfl rfl Try.func56 (by kernel_rfl) rfl (by kernel_rfl) ?_
  have hlc := fr_len p.c
  repeat' (conv => whnf
           first | refine CondOb.mk (fun _ => ?_) (fun _ => ?_) | refine ArOb.fits (by first | omega | (simp only [ints_len] at *; omega)) ?_ | refine LitOb.vec ?_ | refine MakeOb.vec ?_ | refine AllocOb.box ?_ | refine AggOb.mk (by decide +kernel) ?_ | refine ArU.fits (by first | omega | (simp only [ints_len] at *; omega)) ?_ | refine ArB.fits (by first | omega | (simp only [ints_len] at *; omega)) ?_ | refine CutOb.split ?_ | refine Gh.mk [] ?_ | refine And.intro (And.intro (by (simp only [List.length_append, List.length_take, List.length_drop, List.length_cons, List.length_nil, ints_len, List.length_replicate, fr_len, rw_len]; omega)) (by (simp only [List.length_append, List.length_take, List.length_drop, List.length_cons, List.length_nil, ints_len, List.length_replicate, fr_len, rw_len]; omega))) ?_ | refine ⟨_, _, rfl, ints_get (by first | omega | (simp only [ints_len] at *; omega)), ?_⟩ | refine ⟨_, _, (Int.toNat_of_nonneg (by first | omega | (simp only [ints_len] at *; omega))).symm, ints_get (by first | omega | (simp only [ints_len] at *; omega)), ?_⟩ | refine DrawOb.mk [] (.qs [0, 1, 2, 3, 4, 5] (.l 6 [3] (.l 7 [] (.qs [8, 9] .nil) .no) .no)) (by decide +kernel) ?_ | (refine CallOb.mk [] (Signs_ok p hp y hy) rfl (ImpL.refl _) rfl rfl ?_; rintro _ _ ⟨rfl, rfl⟩) | fail)
  all_goals try (conv => whnf)
  · exact ⟨rfl, Imp.bl ⟨fun h => (by cases h), fun h => absurd h.1 (by assumption)⟩⟩
  have hsg := Classical.not_not.1 ‹¬¬Sgn p y›
  have hvp := hsg.1
  refine LoopOb.mk (Y := Nat) (st := fun i => ⟨[(17, i64 i), (16, i64 (fr2 p.c).length), (15, fsl p.c), (6, .bl false), (3, .ptr 0 0), (0, prv p), (1, fsl y), (2, .fn g [])], [.box [fsl p.c, .psl 4 (rws p.r)]]⟩)
    (inv := fun i => i ≤ p.c.length ∧ ∀ j < i, (prod (col p j) y).2.2 = 0 ∧ fcmp ((prod (col p j) y).1, (prod (col p j) y).2.1) (l j) ≤ 0) (fun i => p.c.length - i) 0 [0] ⟨by omega, by omega⟩ (by (refine Le.mk (by kernel_rfl) ?_ ?_ <;> repeat' (first | exact True.intro | refine And.intro ?_ ?_ | exact Imp.refl _ | exact Imp.any _ | exact Imp.num (by first | omega | simp only [ints_len]) | exact rfl | exact Imp.bl (by simp)))) ?_
  rintro i ⟨hi, hv⟩
  repeat' (conv => whnf
           first | refine ArOb.fits (by first | omega | (simp only [ints_len] at *; omega)) ?_ | refine LitOb.vec ?_ | refine MakeOb.vec ?_ | refine AllocOb.box ?_ | refine AggOb.mk (by decide +kernel) ?_ | refine ArU.fits (by first | omega | (simp only [ints_len] at *; omega)) ?_ | refine ArB.fits (by first | omega | (simp only [ints_len] at *; omega)) ?_ | refine CutOb.split ?_ | refine Gh.mk [] ?_ | refine And.intro (And.intro (by (simp only [List.length_append, List.length_take, List.length_drop, List.length_cons, List.length_nil, ints_len, List.length_replicate, fr_len, rw_len]; omega)) (by (simp only [List.length_append, List.length_take, List.length_drop, List.length_cons, List.length_nil, ints_len, List.length_replicate, fr_len, rw_len]; omega))) ?_ | refine ⟨_, _, rfl, ints_get (by first | omega | (simp only [ints_len] at *; omega)), ?_⟩ | refine ⟨_, _, (Int.toNat_of_nonneg (by first | omega | (simp only [ints_len] at *; omega))).symm, ints_get (by first | omega | (simp only [ints_len] at *; omega)), ?_⟩ | refine DrawOb.mk [] (.qs [0, 1, 2, 3, 4, 5] (.l 6 [3] (.l 7 [] (.qs [8, 9] .nil) .no) .no)) (by decide +kernel) ?_ | fail)
  all_goals try (conv => whnf)
  refine CondOb.mk (fun hlt => ?_) (fun hlt => ?_)
  · have hic : i < p.c.length := by omega
    have hp2 := hp.1
    have cC := column_ok p hvp i hic
    have cP := Product_ok (col p i) y (by simp [col]; exact hp.2.1)
    have cL := hg i hic
    have cF := fCompareF ((prod (col p i) y).1, (prod (col p i) y).2.1) (l i)
    have hst : (prod (col p i) y).2.2 = 0 ∧ fcmp ((prod (col p i) y).1, (prod (col p i) y).2.1) (l i) ≤ 0 → _ := fun h => lt_step hv h
    have hno : ¬ ((prod (col p i) y).2.2 = 0 ∧ fcmp ((prod (col p i) y).1, (prod (col p i) y).2.1) (l i) ≤ 0) → ¬ Blw p y l := fun h k => h (k i hic)
    generalize col p i = co at *
    generalize prod co y = m at *
    generalize l i = li at *
    generalize fcmp (m.1, m.2.1) li = cc at *
    repeat' (conv => whnf
             first | (refine CondOb.mk (fun _ => ?_) (fun _ => ?_) <;> first | (exfalso; omega) | skip) | refine ArOb.fits (by first | omega | (simp only [ints_len] at *; omega)) ?_ | refine LitOb.vec ?_ | refine MakeOb.vec ?_ | refine AllocOb.box ?_ | refine AggOb.mk (by decide +kernel) ?_ | refine ArU.fits (by first | omega | (simp only [ints_len] at *; omega)) ?_ | refine ArB.fits (by first | omega | (simp only [ints_len] at *; omega)) ?_ | refine CutOb.split ?_ | refine Gh.mk [] ?_ | refine And.intro (And.intro (by (simp only [List.length_append, List.length_take, List.length_drop, List.length_cons, List.length_nil, ints_len, List.length_replicate, fr_len, rw_len]; omega)) (by (simp only [List.length_append, List.length_take, List.length_drop, List.length_cons, List.length_nil, ints_len, List.length_replicate, fr_len, rw_len]; omega))) ?_ | refine ⟨_, _, rfl, ints_get (by first | omega | (simp only [ints_len] at *; omega)), ?_⟩ | refine ⟨_, _, (Int.toNat_of_nonneg (by first | omega | (simp only [ints_len] at *; omega))).symm, ints_get (by first | omega | (simp only [ints_len] at *; omega)), ?_⟩ | refine DrawOb.mk [] (.qs [0, 1, 2, 3, 4, 5] (.l 6 [3] (.l 7 [] (.qs [8, 9] .nil) .no) .no)) (by decide +kernel) ?_ | (refine CallOb.mk [] cC rfl (ImpL.refl _) rfl rfl ?_; rintro _ _ ⟨rfl, rfl⟩) | (refine CallOb.mk [] cP rfl (ImpL.refl _) rfl rfl ?_; rintro _ _ ⟨rfl, rfl⟩) | (refine CallOb.mk [] cL rfl (ImpL.refl _) rfl rfl ?_; rintro _ _ ⟨rfl, rfl⟩) | (refine CallOb.mk [] cF rfl (ImpL.refl _) rfl rfl ?_; rintro _ _ ⟨rfl, rfl⟩) | fail)
    all_goals try (conv => whnf)
    all_goals first
      | exact ⟨rfl, Imp.bl ⟨fun h => (by cases h), fun h => absurd h.2 (hno (fun k => by omega))⟩⟩
      | exact ⟨i + 1, [0], ⟨by omega, hst ⟨by omega, by omega⟩⟩, by omega, by (refine Le.mk (by kernel_rfl) ?_ ?_ <;> repeat' (first | exact True.intro | refine And.intro ?_ ?_ | exact Imp.refl _ | exact Imp.any _ | exact Imp.num (by first | omega | simp only [ints_len]) | exact rfl | exact Imp.bl (by simp)))⟩
      | trace_state
  · repeat' (conv => whnf
             first | refine CondOb.mk (fun _ => ?_) (fun _ => ?_) | refine ArOb.fits (by first | omega | (simp only [ints_len] at *; omega)) ?_ | refine LitOb.vec ?_ | refine MakeOb.vec ?_ | refine AllocOb.box ?_ | refine AggOb.mk (by decide +kernel) ?_ | refine ArU.fits (by first | omega | (simp only [ints_len] at *; omega)) ?_ | refine ArB.fits (by first | omega | (simp only [ints_len] at *; omega)) ?_ | refine CutOb.split ?_ | refine Gh.mk [] ?_ | refine And.intro (And.intro (by (simp only [List.length_append, List.length_take, List.length_drop, List.length_cons, List.length_nil, ints_len, List.length_replicate, fr_len, rw_len]; omega)) (by (simp only [List.length_append, List.length_take, List.length_drop, List.length_cons, List.length_nil, ints_len, List.length_replicate, fr_len, rw_len]; omega))) ?_ | refine ⟨_, _, rfl, ints_get (by first | omega | (simp only [ints_len] at *; omega)), ?_⟩ | refine ⟨_, _, (Int.toNat_of_nonneg (by first | omega | (simp only [ints_len] at *; omega))).symm, ints_get (by first | omega | (simp only [ints_len] at *; omega)), ?_⟩ | refine DrawOb.mk [] (.qs [0, 1, 2, 3, 4, 5] (.l 6 [3] (.l 7 [] (.qs [8, 9] .nil) .no) .no)) (by decide +kernel) ?_ | fail)
    all_goals try (conv => whnf)
    exact ⟨rfl, Imp.bl ⟨fun _ => ⟨hsg, fun j hj => hv j (by omega)⟩, fun _ => rfl⟩⟩
theorem rbelow_ok (p : Pr) (hp : PL p) (hvp : VP p) (y : List F) (cs : List F) (hcs : cs.length = p.c.length) :
    Ctr Try.prog 59 [prv p, fsl y, fsl cs] [] (fun r o => o = [] ∧ r = .bp (Blw p y (fun j => cs.getD j (0, 1)))) := by
  obtain ⟨l, hl⟩ : ∃ l, (fun j => cs.getD j (0, 1)) = l := ⟨_, rfl⟩
  rw [hl]
  refine Ctr.imp ?_
  refine fn_intro (E := env 0) tys_ok rfl rfl rfl Try.func59 (by kernel_rfl) rfl (by kernel_rfl) ?_
  have hlc := fr_len p.c
  have hlk := fr_len cs
  repeat' (conv => whnf
           first | refine CondOb.mk (fun _ => ?_) (fun _ => ?_) | refine ArOb.fits (by first | omega | (simp only [ints_len] at *; omega)) ?_ | refine LitOb.vec ?_ | refine MakeOb.vec ?_ | refine AllocOb.box ?_ | refine AggOb.mk (by decide +kernel) ?_ | refine ArU.fits (by first | omega | (simp only [ints_len] at *; omega)) ?_ | refine ArB.fits (by first | omega | (simp only [ints_len] at *; omega)) ?_ | refine CutOb.split ?_ | refine Gh.mk [] ?_ | refine And.intro (And.intro (by (simp only [List.length_append, List.length_take, List.length_drop, List.length_cons, List.length_nil, ints_len, List.length_replicate, fr_len, rw_len]; omega)) (by (simp only [List.length_append, List.length_take, List.length_drop, List.length_cons, List.length_nil, ints_len, List.length_replicate, fr_len, rw_len]; omega))) ?_ | refine ⟨_, _, rfl, ints_get (by first | omega | (simp only [ints_len] at *; omega)), ?_⟩ | refine ⟨_, _, (Int.toNat_of_nonneg (by first | omega | (simp only [ints_len] at *; omega))).symm, ints_get (by first | omega | (simp only [ints_len] at *; omega)), ?_⟩ | refine DrawOb.mk [] (.qs [0, 1, 2, 3, 4, 5, 6, 7] (.l 8 [] (.qs [9, 10] .nil) .no)) (by decide +kernel) ?_ | fail)
  all_goals try (conv => whnf)
  refine LoopOb.mk (Y := Nat) (st := fun i => ⟨[(7, i64 i), (6, .bl false), (3, .ptr 0 0), (0, prv p), (1, fsl y), (2, fsl cs)], [.box [fsl p.c, .psl 4 (rws p.r)]]⟩)
    (inv := fun i => i ≤ p.c.length ∧ ∀ j < i, (prod (col p j) y).2.2 = 0 ∧ fcmp ((prod (col p j) y).1, (prod (col p j) y).2.1) (l j) ≤ 0) (fun i => p.c.length - i) 0 [0] ⟨by omega, by omega⟩ (by (refine Le.mk (by kernel_rfl) ?_ ?_ <;> repeat' (first | exact True.intro | refine And.intro ?_ ?_ | exact Imp.refl _ | exact Imp.any _ | exact Imp.num (by first | omega | simp only [ints_len]) | exact rfl | exact Imp.bl (by simp)))) ?_
  rintro i ⟨hi, hv⟩
  repeat' (conv => whnf
           first | refine ArOb.fits (by first | omega | (simp only [ints_len] at *; omega)) ?_ | refine LitOb.vec ?_ | refine MakeOb.vec ?_ | refine AllocOb.box ?_ | refine AggOb.mk (by decide +kernel) ?_ | refine ArU.fits (by first | omega | (simp only [ints_len] at *; omega)) ?_ | refine ArB.fits (by first | omega | (simp only [ints_len] at *; omega)) ?_ | refine CutOb.split ?_ | refine Gh.mk [] ?_ | refine And.intro (And.intro (by (simp only [List.length_append, List.length_take, List.length_drop, List.length_cons, List.length_nil, ints_len, List.length_replicate, fr_len, rw_len]; omega)) (by (simp only [List.length_append, List.length_take, List.length_drop, List.length_cons, List.length_nil, ints_len, List.length_replicate, fr_len, rw_len]; omega))) ?_ | refine ⟨_, _, rfl, ints_get (by first | omega | (simp only [ints_len] at *; omega)), ?_⟩ | refine ⟨_, _, (Int.toNat_of_nonneg (by first | omega | (simp only [ints_len] at *; omega))).symm, ints_get (by first | omega | (simp only [ints_len] at *; omega)), ?_⟩ | refine DrawOb.mk [] (.qs [0, 1, 2, 3, 4, 5, 6, 7] (.l 8 [] (.qs [9, 10] .nil) .no)) (by decide +kernel) ?_ | fail)
  all_goals try (conv => whnf)
  refine CondOb.mk (fun hlt => ?_) (fun hlt => ?_)
  · have hic : i < p.c.length := by omega
    have hp2 := hp.1
    have cC := rcolumn_ok p hvp i hic
    have cP := rProduct_ok (col p i) y (by simp [col]; exact hp.2.1)
    have hgl : (fr2 cs)[i]? = some [i64 (l i).1, i64 (l i).2] := by rw [← hl]; exact fr_get (by omega)
    have cF := rCompareF ((prod (col p i) y).1, (prod (col p i) y).2.1) (l i)
    have hst : (prod (col p i) y).2.2 = 0 ∧ fcmp ((prod (col p i) y).1, (prod (col p i) y).2.1) (l i) ≤ 0 → _ := fun h => lt_step hv h
    have hno : ¬ ((prod (col p i) y).2.2 = 0 ∧ fcmp ((prod (col p i) y).1, (prod (col p i) y).2.1) (l i) ≤ 0) → ¬ Blw p y l := fun h k => h (k i hic)
    generalize col p i = co at *
    generalize prod co y = m at *
    generalize l i = li at hgl cF hst hno
    generalize fcmp (m.1, m.2.1) li = cc at *
    repeat' (conv => whnf
             first | (refine CondOb.mk (fun _ => ?_) (fun _ => ?_) <;> first | (exfalso; omega) | skip) | refine ArOb.fits (by first | omega | (simp only [ints_len] at *; omega)) ?_ | refine LitOb.vec ?_ | refine MakeOb.vec ?_ | refine AllocOb.box ?_ | refine AggOb.mk (by decide +kernel) ?_ | refine ArU.fits (by first | omega | (simp only [ints_len] at *; omega)) ?_ | refine ArB.fits (by first | omega | (simp only [ints_len] at *; omega)) ?_ | refine CutOb.split ?_ | refine Gh.mk [] ?_ | refine And.intro (And.intro (by (simp only [List.length_append, List.length_take, List.length_drop, List.length_cons, List.length_nil, ints_len, List.length_replicate, fr_len, rw_len]; omega)) (by (simp only [List.length_append, List.length_take, List.length_drop, List.length_cons, List.length_nil, ints_len, List.length_replicate, fr_len, rw_len]; omega))) ?_ | refine ⟨_, _, rfl, ints_get (by first | omega | (simp only [ints_len] at *; omega)), ?_⟩ | refine ⟨_, _, (Int.toNat_of_nonneg (by first | omega | (simp only [ints_len] at *; omega))).symm, ints_get (by first | omega | (simp only [ints_len] at *; omega)), ?_⟩ | refine DrawOb.mk [] (.qs [0, 1, 2, 3, 4, 5, 6, 7] (.l 8 [] (.qs [9, 10] .nil) .no)) (by decide +kernel) ?_ | (refine CallOb.mk [] cC rfl (ImpL.refl _) rfl rfl ?_; rintro _ _ ⟨rfl, rfl⟩) | (refine CallOb.mk [] cP rfl (ImpL.refl _) rfl rfl ?_; rintro _ _ ⟨rfl, rfl⟩) | refine ⟨i, _, rfl, hgl, ?_⟩ | (refine CallOb.mk [] cF rfl (ImpL.refl _) rfl rfl ?_; rintro _ _ ⟨rfl, rfl⟩) | fail)
    all_goals try (conv => whnf)
    all_goals first
      | exact ⟨rfl, Imp.bl ⟨fun h => (by cases h), fun h => absurd h (hno (fun k => by omega))⟩⟩
      | exact ⟨i + 1, [0], ⟨by omega, hst ⟨by omega, by omega⟩⟩, by omega, by (refine Le.mk (by kernel_rfl) ?_ ?_ <;> repeat' (first | exact True.intro | refine And.intro ?_ ?_ | exact Imp.refl _ | exact Imp.any _ | exact Imp.num (by first | omega | simp only [ints_len]) | exact rfl | exact Imp.bl (by simp)))⟩
      | trace_state
  · repeat' (conv => whnf
             first | refine CondOb.mk (fun _ => ?_) (fun _ => ?_) | refine ArOb.fits (by first | omega | (simp only [ints_len] at *; omega)) ?_ | refine LitOb.vec ?_ | refine MakeOb.vec ?_ | refine AllocOb.box ?_ | refine AggOb.mk (by decide +kernel) ?_ | refine ArU.fits (by first | omega | (simp only [ints_len] at *; omega)) ?_ | refine ArB.fits (by first | omega | (simp only [ints_len] at *; omega)) ?_ | refine CutOb.split ?_ | refine Gh.mk [] ?_ | refine And.intro (And.intro (by (simp only [List.length_append, List.length_take, List.length_drop, List.length_cons, List.length_nil, ints_len, List.length_replicate, fr_len, rw_len]; omega)) (by (simp only [List.length_append, List.length_take, List.length_drop, List.length_cons, List.length_nil, ints_len, List.length_replicate, fr_len, rw_len]; omega))) ?_ | refine ⟨_, _, rfl, ints_get (by first | omega | (simp only [ints_len] at *; omega)), ?_⟩ | refine ⟨_, _, (Int.toNat_of_nonneg (by first | omega | (simp only [ints_len] at *; omega))).symm, ints_get (by first | omega | (simp only [ints_len] at *; omega)), ?_⟩ | refine DrawOb.mk [] (.qs [0, 1, 2, 3, 4, 5, 6, 7] (.l 8 [] (.qs [9, 10] .nil) .no)) (by decide +kernel) ?_ | fail)
    all_goals try (conv => whnf)
    exact ⟨rfl, Imp.bl ⟨fun _ => fun j hj => hv j (by omega), fun _ => rfl⟩⟩
end Go.Proofs.Ytdkfgecaejmanaa
