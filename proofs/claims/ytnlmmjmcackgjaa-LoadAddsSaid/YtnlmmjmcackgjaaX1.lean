/-
  A text of the proofs of this seat: lemmas that the statements' proofs use; it states nothing of the program by itself beyond the contracts that its theorems bear. Conditions: those that stand in each theorem. Its short name: X1.
-/
import Derived.Test.YtnlmmjmcackgjaaW3
import Derived.Test.YtnlmmjmcackgjaaW2b
import Derived.Test.YtnlmmjmcackgjaaPl
set_option linter.unusedVariables false
set_option linter.unusedSimpArgs false
namespace Go.Proofs.Ytnlmmjmcackgjaa
open Go.Sx Go.Cv
set_option maxRecDepth 4000
set_option maxHeartbeats 2000000
/- the normal form, when there is one -/
theorem CNormF (f : C3) (hf : VC f) : Ctr Try.prog 116 [crv f.1 f.2.1 f.2.2] [] (fun r o => ∃ a : C3, (VC a ∧ (∀ t, cv a t = cv f t) ∧ (FinC f → FinC a)) ∧ o = [] ∧ r = .tup [crv a.1 a.2.1 a.2.2, i64 0]) :=
  (CNormal_ok f.1 f.2.1 f.2.2 (by have := hf.n2; omega)).mono (fun r o ⟨x, h1, h2, h3⟩ => by
    obtain ⟨x1, x2, x3, x4⟩ := x
    rcases h1 with ⟨he, p0, p1, e0, e1, h4, h5⟩ | ⟨h, _⟩
    · dsimp only at he e1 h5 h3
      subst he e1
      have e2 : p0 = f.2.1 := by omega
      subst e2
      obtain ⟨g1, g2⟩ := h5.vf hf
      refine ⟨(x1, p1, x3), ⟨g1, g2, fun ff => ?_⟩, h2, h3⟩
      intro hi
      have h6 := g1.val_inf hi hi (t := x1.length - 1) (Nat.le_refl _)
      have h7 := cv_small hf (t := x1.length - 1) (by have := g1.n2; omega) (ff.not hf _)
      have h8 := g2 (x1.length - 1)
      unfold cv at h7
      rw [h6] at h8
      simp only [INF] at h8
      omega
    · exact absurd hf.valid h)
theorem One_ok (f : C3) (hf : VC f) (n lo hi : Int) (h1 : lo ≤ n) (h2 : n ≤ hi) : Ctr Try.prog 93 [crv f.1 f.2.1 f.2.2, i64 n, i64 lo, i64 hi] [] (fun r o => ∃ a : C3, (VC a ∧ (∀ t, cv a t = cv f t) ∧ (FinC f → FinC a)) ∧ o = [] ∧ r = .tup [crv a.1 a.2.1 a.2.2, i64 0]) := by
  refine Ctr.impE ?_
  refine fn_intro (E := env 0) tys_ok rfl rfl rfl Try.func93 (by kernel_rfl) rfl (by kernel_rfl) ?_
  repeat' (conv => whnf
           first | (refine CondOb.mk (fun _ => ?_) (fun _ => ?_) <;> first | (exfalso; omega) | skip) | refine ArOb.fits (by first | omega | (simp only [ints_len] at *; omega)) ?_ | refine LitOb.vec ?_ | refine MakeOb.vec ?_ | refine AllocOb.box ?_ | refine AsgOb.vec ?_ | refine AggOb.mk (by decide +kernel) ?_ | refine ArU.fits (by first | omega | (simp only [ints_len] at *; omega)) ?_ | refine ArB.fits (by first | omega | (simp only [ints_len] at *; omega)) ?_ | refine CutOb.split ?_ | refine Gh.mk [] ?_ | refine And.intro (And.intro (by (simp only [List.length_append, List.length_take, List.length_drop, List.length_cons, List.length_nil, ints_len, List.length_replicate, lnl, fll, stl]; omega)) (by (simp only [List.length_append, List.length_take, List.length_drop, List.length_cons, List.length_nil, ints_len, List.length_replicate, lnl, fll, stl]; omega))) ?_ | refine ⟨_, _, rfl, ints_get (by first | omega | (simp only [ints_len] at *; omega)), ?_⟩ | refine ⟨_, _, (Int.toNat_of_nonneg (by first | omega | (simp only [ints_len] at *; omega))).symm, ints_get (by first | omega | (simp only [ints_len] at *; omega)), ?_⟩ | fail)
  all_goals try (conv => whnf)
  refine CallOb.mk [] (CNormF f hf) rfl (ImpL.refl _) rfl rfl ?_
  rintro _ _ ⟨a, ha, rfl, rfl⟩
  repeat' (conv => whnf
           first | (refine CondOb.mk (fun _ => ?_) (fun _ => ?_) <;> first | (exfalso; omega) | skip) | refine ArOb.fits (by first | omega | (simp only [ints_len] at *; omega)) ?_ | refine LitOb.vec ?_ | refine MakeOb.vec ?_ | refine AllocOb.box ?_ | refine AsgOb.vec ?_ | refine AggOb.mk (by decide +kernel) ?_ | refine ArU.fits (by first | omega | (simp only [ints_len] at *; omega)) ?_ | refine ArB.fits (by first | omega | (simp only [ints_len] at *; omega)) ?_ | refine CutOb.split ?_ | refine Gh.mk [] ?_ | refine And.intro (And.intro (by (simp only [List.length_append, List.length_take, List.length_drop, List.length_cons, List.length_nil, ints_len, List.length_replicate, lnl, fll, stl]; omega)) (by (simp only [List.length_append, List.length_take, List.length_drop, List.length_cons, List.length_nil, ints_len, List.length_replicate, lnl, fll, stl]; omega))) ?_ | refine ⟨_, _, rfl, ints_get (by first | omega | (simp only [ints_len] at *; omega)), ?_⟩ | refine ⟨_, _, (Int.toNat_of_nonneg (by first | omega | (simp only [ints_len] at *; omega))).symm, ints_get (by first | omega | (simp only [ints_len] at *; omega)), ?_⟩ | fail)
  all_goals try (conv => whnf)
  exact ⟨a, ha, rfl, Imp.refl _⟩
theorem AheadC_ok (a : C3) (ha : VC a) (d t : Nat) (h : t + d ≤ 1048576) :
    Ctr Try.prog 94 [i64 t, .pptr [.psl 1 (ints a.1), i64 a.2.1, i64 a.2.2], .pptr [i64 d]] [] (fun r o => o = [] ∧ r = i64 (ahd a d t)) := by
  refine fn_intro (E := env 0) tys_ok rfl rfl rfl Try.func94 (by kernel_rfl) rfl (by kernel_rfl) ?_
  repeat' (conv => whnf
           first | (refine CondOb.mk (fun _ => ?_) (fun _ => ?_) <;> first | (exfalso; omega) | skip) | refine ArOb.fits (by first | omega | (simp only [ints_len] at *; omega)) ?_ | refine LitOb.vec ?_ | refine MakeOb.vec ?_ | refine AllocOb.box ?_ | refine AsgOb.vec ?_ | refine AggOb.mk (by decide +kernel) ?_ | refine ArU.fits (by first | omega | (simp only [ints_len] at *; omega)) ?_ | refine ArB.fits (by first | omega | (simp only [ints_len] at *; omega)) ?_ | refine CutOb.split ?_ | refine Gh.mk [] ?_ | refine And.intro (And.intro (by (simp only [List.length_append, List.length_take, List.length_drop, List.length_cons, List.length_nil, ints_len, List.length_replicate, lnl, fll, stl]; omega)) (by (simp only [List.length_append, List.length_take, List.length_drop, List.length_cons, List.length_nil, ints_len, List.length_replicate, lnl, fll, stl]; omega))) ?_ | refine ⟨_, _, rfl, ints_get (by first | omega | (simp only [ints_len] at *; omega)), ?_⟩ | refine ⟨_, _, (Int.toNat_of_nonneg (by first | omega | (simp only [ints_len] at *; omega))).symm, ints_get (by first | omega | (simp only [ints_len] at *; omega)), ?_⟩ | fail)
  all_goals try (conv => whnf)
  · exact ⟨rfl, by unfold ahd; rw [if_pos (by omega)]; rfl⟩
  · refine CallOb.mk [] (WAt_ok _ _ _ _ (bd_of ha) (by omega) (by omega)) rfl (ImpL.refl _) rfl rfl ?_
    rintro _ _ ⟨rfl, rfl⟩
    repeat' (conv => whnf
             first | (refine CondOb.mk (fun _ => ?_) (fun _ => ?_) <;> first | (exfalso; omega) | skip) | refine ArOb.fits (by first | omega | (simp only [ints_len] at *; omega)) ?_ | refine LitOb.vec ?_ | refine MakeOb.vec ?_ | refine AllocOb.box ?_ | refine AsgOb.vec ?_ | refine AggOb.mk (by decide +kernel) ?_ | refine ArU.fits (by first | omega | (simp only [ints_len] at *; omega)) ?_ | refine ArB.fits (by first | omega | (simp only [ints_len] at *; omega)) ?_ | refine CutOb.split ?_ | refine Gh.mk [] ?_ | refine And.intro (And.intro (by (simp only [List.length_append, List.length_take, List.length_drop, List.length_cons, List.length_nil, ints_len, List.length_replicate, lnl, fll, stl]; omega)) (by (simp only [List.length_append, List.length_take, List.length_drop, List.length_cons, List.length_nil, ints_len, List.length_replicate, lnl, fll, stl]; omega))) ?_ | refine ⟨_, _, rfl, ints_get (by first | omega | (simp only [ints_len] at *; omega)), ?_⟩ | refine ⟨_, _, (Int.toNat_of_nonneg (by first | omega | (simp only [ints_len] at *; omega))).symm, ints_get (by first | omega | (simp only [ints_len] at *; omega)), ?_⟩ | fail)
    all_goals try (conv => whnf)
    exact ⟨rfl, by unfold ahd cv; rw [if_neg (by omega), show ((t : Int) + d).toNat = t + d by omega]; rfl⟩
theorem Ahead_ok (f : C3) (hf : VC f) (ff : FinC f) (d : Nat) (hd : d ≤ 100000) : Ctr Try.prog 70 [crv f.1 f.2.1 f.2.2, i64 d] [] (fun r o => ∃ x, MkP (ahd f d) x ∧ o = [] ∧ r = crvE x) := by
  refine Ctr.impE ?_
  refine fn_intro (E := env 0) tys_ok rfl rfl rfl Try.func70 (by kernel_rfl) rfl (by kernel_rfl) ?_
  repeat' (conv => whnf
           first | (refine CondOb.mk (fun _ => ?_) (fun _ => ?_) <;> first | (exfalso; omega) | skip) | refine ArOb.fits (by first | omega | (simp only [ints_len] at *; omega)) ?_ | refine LitOb.vec ?_ | refine MakeOb.vec ?_ | refine AllocOb.box ?_ | refine AsgOb.vec ?_ | refine AggOb.mk (by decide +kernel) ?_ | refine ArU.fits (by first | omega | (simp only [ints_len] at *; omega)) ?_ | refine ArB.fits (by first | omega | (simp only [ints_len] at *; omega)) ?_ | refine CutOb.split ?_ | refine Gh.mk [] ?_ | refine And.intro (And.intro (by (simp only [List.length_append, List.length_take, List.length_drop, List.length_cons, List.length_nil, ints_len, List.length_replicate, lnl, fll, stl]; omega)) (by (simp only [List.length_append, List.length_take, List.length_drop, List.length_cons, List.length_nil, ints_len, List.length_replicate, lnl, fll, stl]; omega))) ?_ | refine ⟨_, _, rfl, ints_get (by first | omega | (simp only [ints_len] at *; omega)), ?_⟩ | refine ⟨_, _, (Int.toNat_of_nonneg (by first | omega | (simp only [ints_len] at *; omega))).symm, ints_get (by first | omega | (simp only [ints_len] at *; omega)), ?_⟩ | refine DrawOb.mk [] (.qs [0, 1, 3, 6, 7, 8, 9] (.l 2 [9, 7, 3] (.qs [4, 5] (.l 10 [] (.qs [11, 12] (.l 13 [] (.qs [14] .nil) .no)) .no)) .no)) (by decide +kernel) ?_ | fail)
  all_goals try (conv => whnf)
  refine CallOb.mk [] (One_ok f hf d 0 1048576 (by omega) (by omega)) rfl (ImpL.refl _) rfl rfl ?_
  rintro _ _ ⟨a, ⟨ha, hc, hfi⟩, rfl, rfl⟩
  have fa := hfi ff
  have n1 := ha.n1
  have n2 := ha.n2
  have p1 := ha.p1
  have p2 := ha.p2
  have pn := ha.pn
  have q0 := ha.q0
  have q1 := ha.q1
  have hil := ints_len a.1
  repeat' (conv => whnf
           first | (refine CondOb.mk (fun _ => ?_) (fun _ => ?_) <;> first | (exfalso; omega) | skip) | refine ArOb.fits (by first | omega | (simp only [ints_len] at *; omega)) ?_ | refine LitOb.vec ?_ | refine MakeOb.vec ?_ | refine AllocOb.box ?_ | refine AsgOb.vec ?_ | refine AggOb.mk (by decide +kernel) ?_ | refine ArU.fits (by first | omega | (simp only [ints_len] at *; omega)) ?_ | refine ArB.fits (by first | omega | (simp only [ints_len] at *; omega)) ?_ | refine CutOb.split ?_ | refine And.intro (And.intro (by (simp only [List.length_append, List.length_take, List.length_drop, List.length_cons, List.length_nil, ints_len, List.length_replicate, lnl, fll, stl]; omega)) (by (simp only [List.length_append, List.length_take, List.length_drop, List.length_cons, List.length_nil, ints_len, List.length_replicate, lnl, fll, stl]; omega))) ?_ | refine ⟨_, _, rfl, ints_get (by first | omega | (simp only [ints_len] at *; omega)), ?_⟩ | refine ⟨_, _, (Int.toNat_of_nonneg (by first | omega | (simp only [ints_len] at *; omega))).symm, ints_get (by first | omega | (simp only [ints_len] at *; omega)), ?_⟩ | refine DrawOb.mk [] (.qs [0, 1, 3, 6, 7, 8, 9] (.l 2 [9, 7, 3] (.qs [4, 5] (.l 10 [] (.qs [11, 12] (.l 13 [] (.qs [14] .nil) .no)) .no)) .no)) (by decide +kernel) ?_ | fail)
  all_goals try (conv => whnf)
  refine .mk [] ?_
  refine CallOb.mk [] (Start_ok a.1 a.2.1 a.2.2 pn (by omega)) rfl (ImpL.refl _) rfl rfl ?_
  rintro _ _ ⟨rfl, rfl⟩
  repeat' (conv => whnf
           first | (refine CondOb.mk (fun _ => ?_) (fun _ => ?_) <;> first | (exfalso; omega) | skip) | refine ArOb.fits (by first | omega | (simp only [ints_len] at *; omega)) ?_ | refine LitOb.vec ?_ | refine MakeOb.vec ?_ | refine AllocOb.box ?_ | refine AsgOb.vec ?_ | refine AggOb.mk (by decide +kernel) ?_ | refine ArU.fits (by first | omega | (simp only [ints_len] at *; omega)) ?_ | refine ArB.fits (by first | omega | (simp only [ints_len] at *; omega)) ?_ | refine CutOb.split ?_ | refine And.intro (And.intro (by (simp only [List.length_append, List.length_take, List.length_drop, List.length_cons, List.length_nil, ints_len, List.length_replicate, lnl, fll, stl]; omega)) (by (simp only [List.length_append, List.length_take, List.length_drop, List.length_cons, List.length_nil, ints_len, List.length_replicate, lnl, fll, stl]; omega))) ?_ | refine ⟨_, _, rfl, ints_get (by first | omega | (simp only [ints_len] at *; omega)), ?_⟩ | refine ⟨_, _, (Int.toNat_of_nonneg (by first | omega | (simp only [ints_len] at *; omega))).symm, ints_get (by first | omega | (simp only [ints_len] at *; omega)), ?_⟩ | refine DrawOb.mk [] (.qs [0, 1, 3, 6, 7, 8, 9] (.l 2 [9, 7, 3] (.qs [4, 5] (.l 10 [] (.qs [11, 12] (.l 13 [] (.qs [14] .nil) .no)) .no)) .no)) (by decide +kernel) ?_ | fail)
  all_goals try (conv => whnf)
  obtain ⟨s, hs, hs1, hs2, hs3⟩ : ∃ s : Nat, max 1 (((a.1.length - a.2.1 : Nat) : Int) - d) = s ∧ 1 ≤ s ∧ a.1.length - a.2.1 - d ≤ s ∧ s ≤ 400 := ⟨max 1 (a.1.length - a.2.1 - d), by omega, by omega, by omega, by omega⟩
  rw [hs]
  refine .mk [.fb 3, .fb 1] ?_
  refine CallOb.mk [] (Build2_ok 94 (.pptr [.psl 1 (ints a.1), i64 a.2.1, i64 a.2.2]) (.pptr [i64 d]) (ahd a d) s a.2.1 a.2.2 p1 (by omega) q0 (by omega) (fun t ht => by
      have := ahd_bd ha fa (d := d) (t := t) (by omega)
      omega) (fun t ht => AheadC_ok a ha d t (by omega)) (fun _ => ahd_per ha d s hs1 hs2)) rfl ?_ rfl rfl ?_
  · exact ⟨Imp.fn ⟨Imp.shut rfl, Imp.shut rfl, trivial⟩, Imp.refl _, Imp.refl _, Imp.refl _, trivial⟩
  rintro _ _ ⟨⟨x1, x2, x3, x4⟩, hx, rfl, rfl⟩
  have hmk : MkP (ahd a d) (x1, x2, x3, x4) := buildP_mk (ahd_bd ha fa (by omega)).1 (ahd_mono ha d) (fun t ht => by have := (ahd_bd ha fa (d := d) (t := t) (by omega)).2; simp only [INF]; omega) (fun m hm h => by
    have := (ahd_bd ha fa (d := d) (t := m) (by omega)).2
    rw [h] at this; simp only [INF] at this; omega) hx
  rw [ahd_congr hc] at hmk
  repeat' (conv => whnf
           first | (refine CondOb.mk (fun _ => ?_) (fun _ => ?_) <;> first | (exfalso; omega) | skip) | refine ArOb.fits (by first | omega | (simp only [ints_len] at *; omega)) ?_ | refine LitOb.vec ?_ | refine MakeOb.vec ?_ | refine AllocOb.box ?_ | refine AsgOb.vec ?_ | refine AggOb.mk (by decide +kernel) ?_ | refine ArU.fits (by first | omega | (simp only [ints_len] at *; omega)) ?_ | refine ArB.fits (by first | omega | (simp only [ints_len] at *; omega)) ?_ | refine CutOb.split ?_ | refine Gh.mk [] ?_ | refine And.intro (And.intro (by (simp only [List.length_append, List.length_take, List.length_drop, List.length_cons, List.length_nil, ints_len, List.length_replicate, lnl, fll, stl]; omega)) (by (simp only [List.length_append, List.length_take, List.length_drop, List.length_cons, List.length_nil, ints_len, List.length_replicate, lnl, fll, stl]; omega))) ?_ | refine ⟨_, _, rfl, ints_get (by first | omega | (simp only [ints_len] at *; omega)), ?_⟩ | refine ⟨_, _, (Int.toNat_of_nonneg (by first | omega | (simp only [ints_len] at *; omega))).symm, ints_get (by first | omega | (simp only [ints_len] at *; omega)), ?_⟩ | refine DrawOb.mk [] (.qs [0, 1, 3, 6, 7, 8, 9] (.l 2 [9, 7, 3] (.qs [4, 5] (.l 10 [] (.qs [11, 12] (.l 13 [] (.qs [14] .nil) .no)) .no)) .no)) (by decide +kernel) ?_ | fail)
  all_goals try (conv => whnf)
  all_goals exact ⟨(x1, x2, x3, x4), hmk, rfl, Imp.refl _⟩
end Go.Proofs.Ytnlmmjmcackgjaa
