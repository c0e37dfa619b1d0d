/-
  A text of the proofs of this seat: lemmas that the statements' proofs use; it states nothing of the program by itself beyond the contracts that its theorems bear. Conditions: those that stand in each theorem. Its short name: G2.
-/
import Derived.Test.YtlnpbgjoccipaaaG1
import Derived.Test.YtlnpbgjoccipaaaKd
set_option linter.unusedVariables false
set_option linter.unusedSimpArgs false
namespace Go.Proofs.Ytlnpbgjoccipaaa
open Go.Sx Go.Cv
set_option maxRecDepth 4000
set_option maxHeartbeats 2000000
theorem least_bd {vs : List Int} {P : Nat} {Q : Int} (hb : Bd vs P Q) {x : List Int × Nat × Int} (h : LeastP vs P Q x.1 x.2.1 x.2.2) : Bd x.1 x.2.1 x.2.2 := by
  obtain ⟨ws, p, q⟩ := x
  dsimp only at h ⊢
  rcases h with ⟨m, h1, h2, h3, rfl, rfl, rfl⟩ | ⟨h1, s, p1, hper, hmin, hms, rfl⟩
  · have hn := hb.n
    refine ⟨by decide, by rw [List.length_take]; omega, by rw [List.length_take]; omega, by decide, by decide, fun j => ?_⟩
    by_cases hj : j < m + 1
    · have := hb.v j
      rw [List.getD_eq_getElem?_getD, List.getElem?_take_of_lt hj, ← List.getD_eq_getElem?_getD]; exact this
    · rw [List.getD_eq_getElem?_getD, List.getElem?_eq_none (by rw [List.length_take]; omega)]; decide
  · have hp0 : Per (val vs P Q) (vs.length - P) P Q := val_per hb.p1 hb.pn fun t _ ht => h1 t ht
    have hd : p ∣ P := (hper.mono (Nat.le_max_left s (vs.length - P))).dvd p1 hmin (hp0.mono (Nat.le_max_right s (vs.length - P)))
    have hle : p ≤ P := Nat.le_of_dvd hb.p1 hd
    have hs : s ≤ vs.length - P := hms _ (Per.back hb.p1 hp0 hper)
    have hn := hb.n
    have hpn := hb.pn
    have hq : q = q := rfl
    obtain ⟨k, hk⟩ := hd
    have h2 := hper.mul k
    rw [← Nat.mul_comm p k, ← hk] at h2
    have h3 := h2.uniq hp0
    have k1 : 1 ≤ k := by
      rcases Nat.eq_zero_or_pos k with h | h
      · subst h; have := hb.p1; omega
      · exact h
    have q0 := hb.q0
    have q1 := hb.q1
    have hq0 : 0 ≤ q := by
      apply Classical.byContradiction
      intro hx
      have : (k : Int) * q ≤ (k : Int) * (-1) := Int.mul_le_mul_of_nonneg_left (by omega) (by omega)
      omega
    have hq1 : q ≤ Q := by
      have : 1 * q ≤ (k : Int) * q := Int.mul_le_mul_of_nonneg_right (by omega) hq0
      omega
    refine ⟨p1, by rw [vals_len]; omega, by rw [vals_len]; omega, hq0, by omega, fun j => ?_⟩
    by_cases hj : j < s + p
    · rw [vals_get hj, val_lt (by omega)]; exact hb.v j
    · rw [List.getD_eq_getElem?_getD, List.getElem?_eq_none (by rw [vals_len]; omega)]; decide
theorem cGuess_ok (a b : C3) (va : VC a) (vb : VC b) (fa : FinC a) (fb : FinC b) (l fr : Nat) (hl : 1 ≤ l ∧ l ≤ 120) (hfr : fr ≤ 1100) : Ctr Try.prog 75 [crv a.1 a.2.1 a.2.2, crv b.1 b.2.1 b.2.2, i64 l, i64 fr] [] (fun r o => ∃ x : (List Int × Int × Int) × Bool, True ∧ o = [] ∧ r = .tup [crv x.1.1 x.1.2.1 x.1.2.2, .bl x.2]) := by
  refine Ctr.impE ?_
  refine fn_intro (E := env 0) tys_ok rfl rfl rfl Try.func75 (by kernel_rfl) rfl (by kernel_rfl) ?_
  have cS := cSlope_ok a b va vb fa fb l hl.2
  have h1 := grw_bd va hl.2
  have h2 := grw_bd vb hl.2
  have hq : 0 ≤ min (grw a l) (grw b l) ∧ min (grw a l) (grw b l) ≤ 1099511627776 := by omega
  generalize min (grw a l) (grw b l) = q at *
  have hcb := fun t (ht : t ≤ 100000) => cnv_bd va vb fa fb t ht (t + 1) (Nat.le_refl _)
  repeat' (conv => whnf
           first | (refine CondOb.mk (fun _ => ?_) (fun _ => ?_) <;> first | (exfalso; omega) | skip) | refine ArOb.fits (by first | omega | (simp only [ints_len] at *; omega)) ?_ | refine LitOb.vec ?_ | refine MakeOb.vec ?_ | refine AllocOb.box ?_ | refine AsgOb.vec ?_ | refine AggOb.mk (by decide +kernel) ?_ | refine ArU.fits (by first | omega | (simp only [ints_len] at *; omega)) ?_ | refine ArB.fits (by first | omega | (simp only [ints_len] at *; omega)) ?_ | refine CutOb.split ?_ | refine And.intro (And.intro (by (simp only [List.length_append, List.length_take, List.length_drop, List.length_cons, List.length_nil, ints_len, List.length_replicate, Go.Cv.vals_len]; omega)) (by (simp only [List.length_append, List.length_take, List.length_drop, List.length_cons, List.length_nil, ints_len, List.length_replicate, Go.Cv.vals_len]; omega))) ?_ | refine ⟨_, _, rfl, ints_get (by first | omega | (simp only [ints_len] at *; omega)), ?_⟩ | refine ⟨_, _, (Int.toNat_of_nonneg (by first | omega | (simp only [ints_len] at *; omega))).symm, ints_get (by first | omega | (simp only [ints_len] at *; omega)), ?_⟩ | refine DrawOb.mk [] (.qs [0, 1, 2, 3, 4, 5, 6, 7, 8, 9, 10] (.l 11 [0] (.qs [12] (.l 13 [] (.qs [14] .nil) .no)) .no)) (by decide +kernel) ?_ | (refine Gh.mk [] ?_; (conv => whnf); refine CallOb.mk [] cS rfl (ImpL.refl _) rfl rfl ?_; rintro _ _ ⟨rfl, rfl⟩) | fail)
  all_goals try (conv => whnf)
  refine .mk [.nb 3 0 1] ?_
  refine LoopOb.mk (Y := Nat) (st := fun t => ⟨[(13, i64 t), (12, .ptr 3 0), (10, i64 q), (8, .ptr 2 0), (5, .ptr 1 0), (4, .ptr 0 0), (2, i64 l), (3, i64 fr)], [.box [.psl 1 (ints a.1), i64 a.2.1, i64 a.2.2], .box [.psl 1 (ints b.1), i64 b.2.1, i64 b.2.2], .box [.nil, i64 0, i64 0], .box [.vec 4, i64 l, i64 q], .vec 1 (ints (vals (fun t => cnv a b t (t + 1)) t))]⟩)
    (inv := fun t => t ≤ fr + l) (fun t => fr + l - t) 0 [0, 1, 2, 3, 4] (by omega) (by (refine Le.mk (by kernel_rfl) ?_ ?_ <;> repeat' (first | exact True.intro | refine And.intro ?_ ?_ | exact Imp.refl _ | exact Imp.any _ | exact Imp.num (by first | omega | simp only [ints_len]) | exact rfl | exact Imp.bl (by simp)))) ?_
  intro t ht
  have hvs := vals_succ (fun t => cnv a b t (t + 1)) t
  have hvl := vals_len (fun t => cnv a b t (t + 1)) t
  have hvi := ints_len (vals (fun t => cnv a b t (t + 1)) t)
  repeat' (conv => whnf
           first | refine ArOb.fits (by first | omega | (simp only [ints_len] at *; omega)) ?_ | refine LitOb.vec ?_ | refine MakeOb.vec ?_ | refine AllocOb.box ?_ | refine AsgOb.vec ?_ | refine AggOb.mk (by decide +kernel) ?_ | refine ArU.fits (by first | omega | (simp only [ints_len] at *; omega)) ?_ | refine ArB.fits (by first | omega | (simp only [ints_len] at *; omega)) ?_ | refine CutOb.split ?_ | refine Gh.mk [] ?_ | refine And.intro (And.intro (by (simp only [List.length_append, List.length_take, List.length_drop, List.length_cons, List.length_nil, ints_len, List.length_replicate, Go.Cv.vals_len]; omega)) (by (simp only [List.length_append, List.length_take, List.length_drop, List.length_cons, List.length_nil, ints_len, List.length_replicate, Go.Cv.vals_len]; omega))) ?_ | refine ⟨_, _, rfl, ints_get (by first | omega | (simp only [ints_len] at *; omega)), ?_⟩ | refine ⟨_, _, (Int.toNat_of_nonneg (by first | omega | (simp only [ints_len] at *; omega))).symm, ints_get (by first | omega | (simp only [ints_len] at *; omega)), ?_⟩ | refine DrawOb.mk [] (.qs [0, 1, 2, 3, 4, 5, 6, 7, 8, 9, 10] (.l 11 [0] (.qs [12] (.l 13 [] (.qs [14] .nil) .no)) .no)) (by decide +kernel) ?_ | fail)
  all_goals try (conv => whnf)
  refine CondOb.mk (fun hlt => ?_) (fun hlt => ?_)
  · have cL := cLeast7_ok a b va vb fa fb t (by omega)
    have cP := fun v => cSplit_ok a b va vb fa fb v q l t hl.2 (by omega)
    have hb := hcb t (by omega)
    have hin : ints (vals (fun t => cnv a b t (t + 1)) (t + 1)) = ints (vals (fun t => cnv a b t (t + 1)) t) ++ [[i64 (cnv a b t (t + 1))]] := by rw [hvs]; simp [ints]
    generalize hW : ints (vals (fun t => cnv a b t (t + 1)) (t + 1)) = W at *
    generalize hV : ints (vals (fun t => cnv a b t (t + 1)) t) = V at *
    generalize cnv a b t (t + 1) = w at *
    repeat' (conv => whnf
             first | refine LitOb.ful ?_ | (refine CondOb.mk (fun _ => ?_) (fun _ => ?_) <;> first | (exfalso; omega) | skip) | refine ArOb.fits (by first | omega | (simp only [ints_len] at *; omega)) ?_ | refine LitOb.vec ?_ | refine MakeOb.vec ?_ | refine AllocOb.box ?_ | refine AsgOb.vec ?_ | refine AggOb.mk (by decide +kernel) ?_ | refine ArU.fits (by first | omega | (simp only [ints_len] at *; omega)) ?_ | refine ArB.fits (by first | omega | (simp only [ints_len] at *; omega)) ?_ | refine CutOb.split ?_ | refine And.intro (And.intro (by (simp only [List.length_append, List.length_take, List.length_drop, List.length_cons, List.length_nil, ints_len, List.length_replicate, Go.Cv.vals_len]; omega)) (by (simp only [List.length_append, List.length_take, List.length_drop, List.length_cons, List.length_nil, ints_len, List.length_replicate, Go.Cv.vals_len]; omega))) ?_ | refine ⟨_, _, rfl, ints_get (by first | omega | (simp only [ints_len] at *; omega)), ?_⟩ | refine ⟨_, _, (Int.toNat_of_nonneg (by first | omega | (simp only [ints_len] at *; omega))).symm, ints_get (by first | omega | (simp only [ints_len] at *; omega)), ?_⟩ | refine DrawOb.mk [] (.qs [0, 1, 2, 3, 4, 5, 6, 7, 8, 9, 10] (.l 11 [0] (.qs [12] (.l 13 [] (.qs [14] .nil) .no)) .no)) (by decide +kernel) ?_ | (refine Gh.mk [] ?_; (conv => whnf); refine CallOb.mk [] cL rfl (ImpL.refl _) rfl rfl ?_; rintro _ _ ⟨rfl, rfl⟩) | (refine Gh.mk [] ?_; (conv => whnf); refine CallOb.mk [] (cP _) rfl (ImpL.refl _) rfl rfl ?_; rintro _ _ ⟨xx, _, rfl, rfl⟩) | fail)
    all_goals try (conv => whnf)
    · rw [← hin, ← hW]
      refine .mk [.fz 5] ?_
      repeat' (conv => whnf
               first | (refine CondOb.mk (fun _ => ?_) (fun _ => ?_) <;> first | (exfalso; omega) | skip) | refine ArOb.fits (by first | omega | (simp only [ints_len] at *; omega)) ?_ | refine LitOb.vec ?_ | refine MakeOb.vec ?_ | refine AllocOb.box ?_ | refine AsgOb.vec ?_ | refine AggOb.mk (by decide +kernel) ?_ | refine ArU.fits (by first | omega | (simp only [ints_len] at *; omega)) ?_ | refine ArB.fits (by first | omega | (simp only [ints_len] at *; omega)) ?_ | refine CutOb.split ?_ | refine Gh.mk [] ?_ | refine And.intro (And.intro (by (simp only [List.length_append, List.length_take, List.length_drop, List.length_cons, List.length_nil, ints_len, List.length_replicate, Go.Cv.vals_len]; omega)) (by (simp only [List.length_append, List.length_take, List.length_drop, List.length_cons, List.length_nil, ints_len, List.length_replicate, Go.Cv.vals_len]; omega))) ?_ | refine ⟨_, _, rfl, ints_get (by first | omega | (simp only [ints_len] at *; omega)), ?_⟩ | refine ⟨_, _, (Int.toNat_of_nonneg (by first | omega | (simp only [ints_len] at *; omega))).symm, ints_get (by first | omega | (simp only [ints_len] at *; omega)), ?_⟩ | refine DrawOb.mk [] (.qs [0, 1, 2, 3, 4, 5, 6, 7, 8, 9, 10] (.l 11 [0] (.qs [12] (.l 13 [] (.qs [14] .nil) .no)) .no)) (by decide +kernel) ?_ | fail)
      all_goals try (conv => whnf)
      exact ⟨((vals (fun t => cnv a b t (t + 1)) (t + 1), (l : Int), q), false), trivial, rfl, Imp.refl _⟩
    all_goals exact .mk [] ⟨t + 1, [0, 1, 2, 3, 5], by omega, by omega, by rw [hW, hin]; (refine Le.mk (by kernel_rfl) ?_ ?_ <;> repeat' (first | exact True.intro | refine And.intro ?_ ?_ | exact Imp.refl _ | exact Imp.any _ | exact Imp.num (by first | omega | simp only [ints_len]) | exact rfl | exact Imp.bl (by simp)))⟩
  · have e : t = fr + l := by omega
    have hbd : Bd (vals (fun t => cnv a b t (t + 1)) t) l q := ⟨hl.1, by omega, by omega, hq.1, hq.2, fun j => by
      by_cases hj : j < t
      · rw [vals_get hj]; exact hcb j (by omega)
      · rw [List.getD_eq_getElem?_getD, List.getElem?_eq_none (by omega)]; decide⟩
    repeat' (conv => whnf
             first | (refine CondOb.mk (fun _ => ?_) (fun _ => ?_) <;> first | (exfalso; omega) | skip) | refine ArOb.fits (by first | omega | (simp only [ints_len] at *; omega)) ?_ | refine LitOb.vec ?_ | refine MakeOb.vec ?_ | refine AllocOb.box ?_ | refine AsgOb.vec ?_ | refine AggOb.mk (by decide +kernel) ?_ | refine ArU.fits (by first | omega | (simp only [ints_len] at *; omega)) ?_ | refine ArB.fits (by first | omega | (simp only [ints_len] at *; omega)) ?_ | refine CutOb.split ?_ | refine And.intro (And.intro (by (simp only [List.length_append, List.length_take, List.length_drop, List.length_cons, List.length_nil, ints_len, List.length_replicate, Go.Cv.vals_len]; omega)) (by (simp only [List.length_append, List.length_take, List.length_drop, List.length_cons, List.length_nil, ints_len, List.length_replicate, Go.Cv.vals_len]; omega))) ?_ | refine ⟨_, _, rfl, ints_get (by first | omega | (simp only [ints_len] at *; omega)), ?_⟩ | refine ⟨_, _, (Int.toNat_of_nonneg (by first | omega | (simp only [ints_len] at *; omega))).symm, ints_get (by first | omega | (simp only [ints_len] at *; omega)), ?_⟩ | refine DrawOb.mk [] (.qs [0, 1, 2, 3, 4, 5, 6, 7, 8, 9, 10] (.l 11 [0] (.qs [12] (.l 13 [] (.qs [14] .nil) .no)) .no)) (by decide +kernel) ?_ | fail)
    all_goals try (conv => whnf)
    refine .mk [.fz 4] ?_
    refine CallOb.mk [] (Least_ok _ l q hbd) rfl (ImpL.refl _) rfl rfl ?_
    rintro _ _ ⟨⟨ws, p, r⟩, hx, rfl, rfl⟩
    have hB := least_bd hbd hx
    dsimp only at hB ⊢
    have hp1 := hB.p1
    have hpn := hB.pn
    have hnn := hB.n
    have cB := cBelow_ok a b va vb fa fb ws p r hB l hl.2
    repeat' (conv => whnf
             first | (refine CondOb.mk (fun _ => ?_) (fun _ => ?_) <;> first | (exfalso; omega) | skip) | refine ArOb.fits (by first | omega | (simp only [ints_len] at *; omega)) ?_ | refine LitOb.vec ?_ | refine MakeOb.vec ?_ | refine AllocOb.box ?_ | refine AsgOb.vec ?_ | refine AggOb.mk (by decide +kernel) ?_ | refine ArU.fits (by first | omega | (simp only [ints_len] at *; omega)) ?_ | refine ArB.fits (by first | omega | (simp only [ints_len] at *; omega)) ?_ | refine CutOb.split ?_ | refine Gh.mk [] ?_ | refine And.intro (And.intro (by (simp only [List.length_append, List.length_take, List.length_drop, List.length_cons, List.length_nil, ints_len, List.length_replicate, Go.Cv.vals_len]; omega)) (by (simp only [List.length_append, List.length_take, List.length_drop, List.length_cons, List.length_nil, ints_len, List.length_replicate, Go.Cv.vals_len]; omega))) ?_ | refine ⟨_, _, rfl, ints_get (by first | omega | (simp only [ints_len] at *; omega)), ?_⟩ | refine ⟨_, _, (Int.toNat_of_nonneg (by first | omega | (simp only [ints_len] at *; omega))).symm, ints_get (by first | omega | (simp only [ints_len] at *; omega)), ?_⟩ | refine DrawOb.mk [] (.qs [0, 1, 2, 3, 4, 5, 6, 7, 8, 9, 10] (.l 11 [0] (.qs [12] (.l 13 [] (.qs [14] .nil) .no)) .no)) (by decide +kernel) ?_ | fail)
    all_goals try (conv => whnf)
    refine ⟨by omega, ?_⟩
    repeat' (conv => whnf
             first | (refine CondOb.mk (fun _ => ?_) (fun _ => ?_) <;> first | (exfalso; omega) | skip) | refine ArOb.fits (by first | omega | (simp only [ints_len] at *; omega)) ?_ | refine LitOb.vec ?_ | refine MakeOb.vec ?_ | refine AllocOb.box ?_ | refine AsgOb.vec ?_ | refine AggOb.mk (by decide +kernel) ?_ | refine ArU.fits (by first | omega | (simp only [ints_len] at *; omega)) ?_ | refine ArB.fits (by first | omega | (simp only [ints_len] at *; omega)) ?_ | refine CutOb.split ?_ | refine Gh.mk [] ?_ | refine And.intro (And.intro (by (simp only [List.length_append, List.length_take, List.length_drop, List.length_cons, List.length_nil, ints_len, List.length_replicate, Go.Cv.vals_len]; omega)) (by (simp only [List.length_append, List.length_take, List.length_drop, List.length_cons, List.length_nil, ints_len, List.length_replicate, Go.Cv.vals_len]; omega))) ?_ | refine ⟨_, _, rfl, ints_get (by first | omega | (simp only [ints_len] at *; omega)), ?_⟩ | refine ⟨_, _, (Int.toNat_of_nonneg (by first | omega | (simp only [ints_len] at *; omega))).symm, ints_get (by first | omega | (simp only [ints_len] at *; omega)), ?_⟩ | refine DrawOb.mk [] (.qs [0, 1, 2, 3, 4, 5, 6, 7, 8, 9, 10] (.l 11 [0] (.qs [12] (.l 13 [] (.qs [14] .nil) .no)) .no)) (by decide +kernel) ?_ | (refine CallOb.mk [] cB rfl (ImpL.refl _) rfl rfl ?_; rintro _ _ ⟨bb, _, rfl, rfl⟩) | fail)
    all_goals try (conv => whnf)
    all_goals first
      | exact ⟨((ws, (p : Int), r), false), trivial, rfl, Imp.refl _⟩
      | exact ⟨((ws, (p : Int), r), _), trivial, rfl, Imp.refl _⟩
      | trace_state
theorem cOf_ok (f g : C3) (vf : VC f) (vg : VC g) (ff : FinC f) (fg : FinC g) : Ctr Try.prog 38 [crv f.1 f.2.1 f.2.2, crv g.1 g.2.1 g.2.2] [] (fun r o => ∃ x : (List Int × Int × Int) × Int, (x.2 = 0 ∨ x.2 = 3) ∧ o = [] ∧ r = .tup [crv x.1.1 x.1.2.1 x.1.2.2, i64 x.2]) := by
  refine Ctr.impE ?_
  refine fn_intro (E := env 0) tys_ok rfl rfl rfl Try.func38 (by kernel_rfl) rfl (by kernel_rfl) ?_
  repeat' (conv => whnf
           first | (refine CondOb.mk (fun _ => ?_) (fun _ => ?_) <;> first | (exfalso; omega) | skip) | refine ArOb.fits (by first | omega | (simp only [ints_len] at *; omega)) ?_ | refine LitOb.vec ?_ | refine MakeOb.vec ?_ | refine AllocOb.box ?_ | refine AsgOb.vec ?_ | refine AggOb.mk (by decide +kernel) ?_ | refine ArU.fits (by first | omega | (simp only [ints_len] at *; omega)) ?_ | refine ArB.fits (by first | omega | (simp only [ints_len] at *; omega)) ?_ | refine CutOb.split ?_ | refine Gh.mk [] ?_ | refine And.intro (And.intro (by (simp only [List.length_append, List.length_take, List.length_drop, List.length_cons, List.length_nil, ints_len, List.length_replicate, Go.Cv.vals_len]; omega)) (by (simp only [List.length_append, List.length_take, List.length_drop, List.length_cons, List.length_nil, ints_len, List.length_replicate, Go.Cv.vals_len]; omega))) ?_ | refine ⟨_, _, rfl, ints_get (by first | omega | (simp only [ints_len] at *; omega)), ?_⟩ | refine ⟨_, _, (Int.toNat_of_nonneg (by first | omega | (simp only [ints_len] at *; omega))).symm, ints_get (by first | omega | (simp only [ints_len] at *; omega)), ?_⟩ | fail)
  all_goals try (conv => whnf)
  refine CallOb.mk [] (Pair_ok f.1 f.2.1 f.2.2 g.1 g.2.1 g.2.2) rfl (ImpL.refl _) rfl rfl ?_
  rintro _ _ ⟨⟨A, B, l, e⟩, hPP, rfl, rfl⟩
  dsimp only at hPP ⊢
  rcases pair_prep hPP with ⟨he, he0⟩ | ⟨he, a, b, hP, hc, hA, hB, hl⟩
  · have he3 : e = 3 := (prepE_nrm vf vg he).1
    subst he3
    repeat' (conv => whnf
             first | (refine CondOb.mk (fun _ => ?_) (fun _ => ?_) <;> first | (exfalso; omega) | skip) | refine ArOb.fits (by first | omega | (simp only [ints_len] at *; omega)) ?_ | refine LitOb.vec ?_ | refine MakeOb.vec ?_ | refine AllocOb.box ?_ | refine AsgOb.vec ?_ | refine AggOb.mk (by decide +kernel) ?_ | refine ArU.fits (by first | omega | (simp only [ints_len] at *; omega)) ?_ | refine ArB.fits (by first | omega | (simp only [ints_len] at *; omega)) ?_ | refine CutOb.split ?_ | refine Gh.mk [] ?_ | refine And.intro (And.intro (by (simp only [List.length_append, List.length_take, List.length_drop, List.length_cons, List.length_nil, ints_len, List.length_replicate, Go.Cv.vals_len]; omega)) (by (simp only [List.length_append, List.length_take, List.length_drop, List.length_cons, List.length_nil, ints_len, List.length_replicate, Go.Cv.vals_len]; omega))) ?_ | refine ⟨_, _, rfl, ints_get (by first | omega | (simp only [ints_len] at *; omega)), ?_⟩ | refine ⟨_, _, (Int.toNat_of_nonneg (by first | omega | (simp only [ints_len] at *; omega))).symm, ints_get (by first | omega | (simp only [ints_len] at *; omega)), ?_⟩ | fail)
    all_goals try (conv => whnf)
    exact ⟨(([], 0, 0), 3), .inr rfl, rfl, Imp.tup ⟨imp_zero, Imp.refl _, trivial⟩⟩
  · subst he hA hB hl
    obtain ⟨na, nb⟩ := prep_nrm hP
    have va := hP.va
    have vb := hP.vb
    have fa := fin_nrm vf ff na
    have fb := fin_nrm vg fg nb
    have c1 := com_pos va vb
    have a2 := va.n2
    have b2 := vb.n2
    have cSa := cStart_ok a va
    have cSb := cStart_ok b vb
    have cG1 := cGuess_ok a b va vb fa fb (com a b) (a.1.length - a.2.1 + (b.1.length - b.2.1) + 2 * com a b) ⟨c1, hc⟩ (by omega)
    have cG2 := cGuess_ok a b va vb fa fb (com a b) (800 + 2 * com a b) ⟨c1, hc⟩ (by omega)
    have hV := fun (x : (List Int × Int × Int) × Bool) => Valid_ok x.1.1 x.1.2.1 x.1.2.2
    repeat' (conv => whnf
             first | (refine CondOb.mk (fun _ => ?_) (fun _ => ?_) <;> first | (exfalso; omega) | skip) | refine ArOb.fits (by first | omega | (simp only [ints_len] at *; omega)) ?_ | refine LitOb.vec ?_ | refine MakeOb.vec ?_ | refine AllocOb.box ?_ | refine AsgOb.vec ?_ | refine AggOb.mk (by decide +kernel) ?_ | refine ArU.fits (by first | omega | (simp only [ints_len] at *; omega)) ?_ | refine ArB.fits (by first | omega | (simp only [ints_len] at *; omega)) ?_ | refine CutOb.split ?_ | refine Gh.mk [] ?_ | refine And.intro (And.intro (by (simp only [List.length_append, List.length_take, List.length_drop, List.length_cons, List.length_nil, ints_len, List.length_replicate, Go.Cv.vals_len]; omega)) (by (simp only [List.length_append, List.length_take, List.length_drop, List.length_cons, List.length_nil, ints_len, List.length_replicate, Go.Cv.vals_len]; omega))) ?_ | refine ⟨_, _, rfl, ints_get (by first | omega | (simp only [ints_len] at *; omega)), ?_⟩ | refine ⟨_, _, (Int.toNat_of_nonneg (by first | omega | (simp only [ints_len] at *; omega))).symm, ints_get (by first | omega | (simp only [ints_len] at *; omega)), ?_⟩ | fail)
    all_goals try (conv => whnf)
    refine DrawOb.cut [] (.qs [0, 1, 2, 3, 5, 8, 9] (.l 4 [5, 1, 0] (.l 6 [1, 0] (.qs [7, 10] (.l 11 [] (.qs [12, 13, 14] (.l 15 [] (.l 16 [] (.qs [17] .nil) .no) .no)) (.l 15 [1, 0] (.l 11 [] (.qs [12, 13, 14] (.l 16 [] (.qs [17] .nil) .no)) .no) .no))) (.l 15 [5, 1, 0] (.l 6 [1, 0] (.qs [7, 10] (.l 11 [] (.qs [12, 13, 14] (.l 16 [] (.qs [17] .nil) .no)) .no)) .no) .no)) (.l 15 [5, 3, 1, 0] (.l 4 [5, 1, 0] (.l 6 [1, 0] (.qs [7, 10] (.l 11 [] (.qs [12, 13, 14] (.l 16 [] (.qs [17] .nil) .no)) .no)) .no) .no) .no))) (Y := (List Int × Int × Int) × Bool) (st := fun y => ⟨[(11, .bl y.2), (10, .ptr 0 0), (8, i64 (com a b)), (7, .ptr 1 0), (6, .ptr 2 0), (4, .ptr 3 0)], [.box [.psl 1 (ints y.1.1), i64 y.1.2.1, i64 y.1.2.2], .box [.psl 1 (ints b.1), i64 b.2.1, i64 b.2.2], .box [.psl 1 (ints a.1), i64 a.2.1, i64 a.2.2], .box [.nil, i64 0, i64 0]]⟩) (inv := fun _ => True) (by decide +kernel) ?_ ?_
    · repeat' (conv => whnf
               first | (refine CondOb.mk (fun _ => ?_) (fun _ => ?_) <;> first | (exfalso; omega) | skip) | refine ArOb.fits (by first | omega | (simp only [ints_len] at *; omega)) ?_ | refine LitOb.vec ?_ | refine MakeOb.vec ?_ | refine AllocOb.box ?_ | refine AsgOb.vec ?_ | refine AggOb.mk (by decide +kernel) ?_ | refine ArU.fits (by first | omega | (simp only [ints_len] at *; omega)) ?_ | refine ArB.fits (by first | omega | (simp only [ints_len] at *; omega)) ?_ | refine CutOb.split ?_ | refine Gh.mk [] ?_ | refine And.intro (And.intro (by (simp only [List.length_append, List.length_take, List.length_drop, List.length_cons, List.length_nil, ints_len, List.length_replicate, Go.Cv.vals_len]; omega)) (by (simp only [List.length_append, List.length_take, List.length_drop, List.length_cons, List.length_nil, ints_len, List.length_replicate, Go.Cv.vals_len]; omega))) ?_ | refine ⟨_, _, rfl, ints_get (by first | omega | (simp only [ints_len] at *; omega)), ?_⟩ | refine ⟨_, _, (Int.toNat_of_nonneg (by first | omega | (simp only [ints_len] at *; omega))).symm, ints_get (by first | omega | (simp only [ints_len] at *; omega)), ?_⟩ | refine And.intro ?_ ?_ | (refine CallOb.mk [] cSa rfl (ImpL.refl _) rfl rfl ?_; rintro _ _ ⟨rfl, rfl⟩) | (refine CallOb.mk [] cSb rfl (ImpL.refl _) rfl rfl ?_; rintro _ _ ⟨rfl, rfl⟩) | (refine CallOb.mk [] cG1 rfl ⟨Imp.refl _, Imp.refl _, Imp.refl _, Imp.num (by omega), trivial⟩ rfl rfl ?_; rintro _ _ ⟨x, _, rfl, rfl⟩) | fail)
      all_goals try (conv => whnf)
      all_goals first
        | (refine ⟨x, [5, 4, 3, 2], trivial, ?_⟩; dsimp only; (refine Le.mk (by kernel_rfl) ?_ ?_ <;> repeat' (first | exact True.intro | refine And.intro ?_ ?_ | exact Imp.refl _ | exact Imp.any _ | exact Imp.num (by first | omega | simp only [ints_len]) | exact rfl | exact Imp.bl (by simp))); done)
        | trace_state
    · rintro ⟨h, ok⟩ _
      have hV1 := hV (h, ok)
      cases ok with
      | true =>
        dsimp only at hV1 ⊢
        repeat' (conv => whnf
                 first | (refine CondOb.mk (fun _ => ?_) (fun _ => ?_) <;> first | (exfalso; omega) | skip) | refine ArOb.fits (by first | omega | (simp only [ints_len] at *; omega)) ?_ | refine LitOb.vec ?_ | refine MakeOb.vec ?_ | refine AllocOb.box ?_ | refine AsgOb.vec ?_ | refine AggOb.mk (by decide +kernel) ?_ | refine ArU.fits (by first | omega | (simp only [ints_len] at *; omega)) ?_ | refine ArB.fits (by first | omega | (simp only [ints_len] at *; omega)) ?_ | refine CutOb.split ?_ | refine Gh.mk [] ?_ | refine And.intro (And.intro (by (simp only [List.length_append, List.length_take, List.length_drop, List.length_cons, List.length_nil, ints_len, List.length_replicate, Go.Cv.vals_len]; omega)) (by (simp only [List.length_append, List.length_take, List.length_drop, List.length_cons, List.length_nil, ints_len, List.length_replicate, Go.Cv.vals_len]; omega))) ?_ | refine ⟨_, _, rfl, ints_get (by first | omega | (simp only [ints_len] at *; omega)), ?_⟩ | refine ⟨_, _, (Int.toNat_of_nonneg (by first | omega | (simp only [ints_len] at *; omega))).symm, ints_get (by first | omega | (simp only [ints_len] at *; omega)), ?_⟩ | (refine CallOb.mk [] hV1 rfl (ImpL.refl _) rfl rfl ?_; rintro _ _ ⟨rfl, rfl⟩) | fail)
        all_goals try (conv => whnf)
        all_goals first
          | exact ⟨(h, 0), .inl rfl, rfl, Imp.refl _⟩
          | exact ⟨(([], 0, 0), 3), .inr rfl, rfl, Imp.tup ⟨imp_zero, Imp.refl _, trivial⟩⟩
          | trace_state
      | false =>
        dsimp only
        repeat' (conv => whnf
                 first | (refine CondOb.mk (fun _ => ?_) (fun _ => ?_) <;> first | (exfalso; omega) | skip) | refine ArOb.fits (by first | omega | (simp only [ints_len] at *; omega)) ?_ | refine LitOb.vec ?_ | refine MakeOb.vec ?_ | refine AllocOb.box ?_ | refine AsgOb.vec ?_ | refine AggOb.mk (by decide +kernel) ?_ | refine ArU.fits (by first | omega | (simp only [ints_len] at *; omega)) ?_ | refine ArB.fits (by first | omega | (simp only [ints_len] at *; omega)) ?_ | refine CutOb.split ?_ | refine Gh.mk [] ?_ | refine And.intro (And.intro (by (simp only [List.length_append, List.length_take, List.length_drop, List.length_cons, List.length_nil, ints_len, List.length_replicate, Go.Cv.vals_len]; omega)) (by (simp only [List.length_append, List.length_take, List.length_drop, List.length_cons, List.length_nil, ints_len, List.length_replicate, Go.Cv.vals_len]; omega))) ?_ | refine ⟨_, _, rfl, ints_get (by first | omega | (simp only [ints_len] at *; omega)), ?_⟩ | refine ⟨_, _, (Int.toNat_of_nonneg (by first | omega | (simp only [ints_len] at *; omega))).symm, ints_get (by first | omega | (simp only [ints_len] at *; omega)), ?_⟩ | fail)
        all_goals try (conv => whnf)
        refine CallOb.mk [] cG2 rfl ⟨Imp.refl _, Imp.refl _, Imp.refl _, Imp.num (by omega), trivial⟩ rfl rfl ?_
        rintro _ _ ⟨⟨y, ok⟩, _, rfl, rfl⟩
        have hV2 := hV (y, ok)
        cases ok with
        | true =>
          dsimp only at hV2 ⊢
          repeat' (conv => whnf
                   first | (refine CondOb.mk (fun _ => ?_) (fun _ => ?_) <;> first | (exfalso; omega) | skip) | refine ArOb.fits (by first | omega | (simp only [ints_len] at *; omega)) ?_ | refine LitOb.vec ?_ | refine MakeOb.vec ?_ | refine AllocOb.box ?_ | refine AsgOb.vec ?_ | refine AggOb.mk (by decide +kernel) ?_ | refine ArU.fits (by first | omega | (simp only [ints_len] at *; omega)) ?_ | refine ArB.fits (by first | omega | (simp only [ints_len] at *; omega)) ?_ | refine CutOb.split ?_ | refine Gh.mk [] ?_ | refine And.intro (And.intro (by (simp only [List.length_append, List.length_take, List.length_drop, List.length_cons, List.length_nil, ints_len, List.length_replicate, Go.Cv.vals_len]; omega)) (by (simp only [List.length_append, List.length_take, List.length_drop, List.length_cons, List.length_nil, ints_len, List.length_replicate, Go.Cv.vals_len]; omega))) ?_ | refine ⟨_, _, rfl, ints_get (by first | omega | (simp only [ints_len] at *; omega)), ?_⟩ | refine ⟨_, _, (Int.toNat_of_nonneg (by first | omega | (simp only [ints_len] at *; omega))).symm, ints_get (by first | omega | (simp only [ints_len] at *; omega)), ?_⟩ | (refine CallOb.mk [] hV2 rfl (ImpL.refl _) rfl rfl ?_; rintro _ _ ⟨rfl, rfl⟩) | fail)
          all_goals try (conv => whnf)
          all_goals first
            | exact ⟨(y, 0), .inl rfl, rfl, Imp.refl _⟩
            | exact ⟨(([], 0, 0), 3), .inr rfl, rfl, Imp.tup ⟨imp_zero, Imp.refl _, trivial⟩⟩
            | trace_state
        | false =>
          dsimp only
          repeat' (conv => whnf
                   first | (refine CondOb.mk (fun _ => ?_) (fun _ => ?_) <;> first | (exfalso; omega) | skip) | refine ArOb.fits (by first | omega | (simp only [ints_len] at *; omega)) ?_ | refine LitOb.vec ?_ | refine MakeOb.vec ?_ | refine AllocOb.box ?_ | refine AsgOb.vec ?_ | refine AggOb.mk (by decide +kernel) ?_ | refine ArU.fits (by first | omega | (simp only [ints_len] at *; omega)) ?_ | refine ArB.fits (by first | omega | (simp only [ints_len] at *; omega)) ?_ | refine CutOb.split ?_ | refine Gh.mk [] ?_ | refine And.intro (And.intro (by (simp only [List.length_append, List.length_take, List.length_drop, List.length_cons, List.length_nil, ints_len, List.length_replicate, Go.Cv.vals_len]; omega)) (by (simp only [List.length_append, List.length_take, List.length_drop, List.length_cons, List.length_nil, ints_len, List.length_replicate, Go.Cv.vals_len]; omega))) ?_ | refine ⟨_, _, rfl, ints_get (by first | omega | (simp only [ints_len] at *; omega)), ?_⟩ | refine ⟨_, _, (Int.toNat_of_nonneg (by first | omega | (simp only [ints_len] at *; omega))).symm, ints_get (by first | omega | (simp only [ints_len] at *; omega)), ?_⟩ | fail)
          all_goals try (conv => whnf)
          all_goals first
            | exact ⟨(([], 0, 0), 3), .inr rfl, rfl, Imp.tup ⟨imp_zero, Imp.refl _, trivial⟩⟩
            | trace_state
end Go.Proofs.Ytlnpbgjoccipaaa
