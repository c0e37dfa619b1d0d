/-
  A text of the proofs of this seat: lemmas that the statements' proofs use; it states nothing of the program by itself beyond the contracts that its theorems bear. Conditions: those that stand in each theorem. Its short name: X14.
-/
import Derived.Test.YtnlmmjmcackgjaaX13
set_option linter.unusedVariables false
set_option linter.unusedSimpArgs false
namespace Go.Proofs.Ytnlmmjmcackgjaa
open Go.Sx Go.Cv
set_option maxRecDepth 4000
set_option maxHeartbeats 2000000
theorem pl2_mono {f g : C3} (hf : VC f) (hg : VC g) : Mono (pl2 f g) := fun t => by
  have h1 := hf.mono' t
  have h2 := hg.mono' t
  unfold pl2 cv; omega
theorem pl2_bd {f g : C3} (hf : VC f) (hg : VC g) (ff : FinC f) (fg : FinC g) {t : Nat} (h : t ≤ 1000000) : 0 ≤ pl2 f g t ∧ pl2 f g t ≤ 4000000000000000 := by
  have a1 := cv_nonneg hf t
  have b1 := cv_nonneg hg t
  have a2 := cv_small hf (t := t) (by omega) (ff.not hf _)
  have b2 := cv_small hg (t := t) (by omega) (fg.not hg _)
  unfold pl2; omega
theorem Sum_ok (f g : C3) (hf : VC f) (hg : VC g) (ff : FinC f) (fg : FinC g) (hcm : ∀ a b, NmC f a → NmC g b → com a b ≤ 120) : Ctr Try.prog 114 [crv f.1 f.2.1 f.2.2, crv g.1 g.2.1 g.2.2] [] (fun r o => ∃ x, MkP (pl2 f g) x ∧ o = [] ∧ r = crvE x) := by
  refine Ctr.impE ?_
  refine fn_intro (E := env 0) tys_ok rfl rfl rfl Try.func114 (by kernel_rfl) rfl (by kernel_rfl) ?_
  repeat' (conv => whnf
           first | (refine CondOb.mk (fun _ => ?_) (fun _ => ?_) <;> first | (exfalso; omega) | skip) | refine ArOb.fits (by first | omega | (simp only [ints_len] at *; omega)) ?_ | refine LitOb.vec ?_ | refine MakeOb.vec ?_ | refine AllocOb.box ?_ | refine AsgOb.vec ?_ | refine AggOb.mk (by decide +kernel) ?_ | refine ArU.fits (by first | omega | (simp only [ints_len] at *; omega)) ?_ | refine ArB.fits (by first | omega | (simp only [ints_len] at *; omega)) ?_ | refine CutOb.split ?_ | refine Gh.mk [] ?_ | refine And.intro (And.intro (by (simp only [List.length_append, List.length_take, List.length_drop, List.length_cons, List.length_nil, ints_len, List.length_replicate, lnl, fll, stl]; omega)) (by (simp only [List.length_append, List.length_take, List.length_drop, List.length_cons, List.length_nil, ints_len, List.length_replicate, lnl, fll, stl]; omega))) ?_ | refine ⟨_, _, rfl, ints_get (by first | omega | (simp only [ints_len] at *; omega)), ?_⟩ | refine ⟨_, _, (Int.toNat_of_nonneg (by first | omega | (simp only [ints_len] at *; omega))).symm, ints_get (by first | omega | (simp only [ints_len] at *; omega)), ?_⟩ | refine DrawOb.mk [] (.qs [0, 1, 3, 6, 7, 8, 10, 11] (.l 2 [10, 7, 3] (.l 4 [10, 7] (.qs [5] (.l 9 [10] (.l 12 [] (.qs [13] (.l 14 [] (.qs [15, 16] (.l 17 [] (.qs [18] .nil) .no)) .no)) .no) .no)) .no) .no)) (by decide +kernel) ?_ | fail)
  all_goals try (conv => whnf)
  refine CallOb.mk [] (pBoth_ok f g hf hg hcm) rfl (ImpL.refl _) rfl rfl ?_
  rintro _ _ ⟨⟨a, b⟩, ⟨ha, hb⟩, rfl, rfl⟩
  have hc := hcm a b ha hb
  dsimp only at ha hb ⊢
  have n1 := ha.1.n2
  have n2 := hb.1.n2
  have p1 := ha.1.pn
  have p2 := hb.1.pn
  have fa := ha.2.2.1 ff
  have fb := hb.2.2.1 fg
  have hc1 := com_pos ha.1 hb.1
  have cSa := Start_ok a.1 a.2.1 a.2.2 p1 (by omega)
  have cSb := Start_ok b.1 b.2.1 b.2.2 p2 (by omega)
  have cGa := wGain_ok a ha.1 (com a b) (by omega) (Nat.dvd_lcm_left _ _)
  have cGb := wGain_ok b hb.1 (com a b) (by omega) (Nat.dvd_lcm_right _ _)
  have d1 : com a b / a.2.1 ≤ com a b := Nat.div_le_self _ _
  have d2 : com a b / b.2.1 ≤ com a b := Nat.div_le_self _ _
  have hper : Per (pl2 a b) (frm a b) (com a b) (((com a b / a.2.1 : Nat) : Int) * a.2.2 + ((com a b / b.2.1 : Nat) : Int) * b.2.2) := fun t ht => by
    unfold pl2
    rw [cv_com_l ha.1 ht, cv_com_r hb.1 ht, Int.mul_comm a.2.2, Int.mul_comm b.2.2]; omega
  have hfr := frm_le ha.1 hb.1
  have hmx : max ((a.1.length - a.2.1 : Nat) : Int) ((b.1.length - b.2.1 : Nat) : Int) = (frm a b : Nat) := by unfold frm; omega
  generalize com a b / a.2.1 = k1 at *
  generalize com a b / b.2.1 = k2 at *
  have m1 := mul_bd (a := (k1 : Int)) (b := a.2.2) (A := 120) (B := 1073741824) (by omega) (by omega) ha.1.q0 ha.1.q1
  have m2 := mul_bd (a := (k2 : Int)) (b := b.2.2) (A := 120) (B := 1073741824) (by omega) (by omega) hb.1.q0 hb.1.q1
  generalize (k1 : Int) * a.2.2 = g1 at *
  generalize (k2 : Int) * b.2.2 = g2 at *
  repeat' (conv => whnf
           first | (refine CondOb.mk (fun _ => ?_) (fun _ => ?_) <;> first | (exfalso; omega) | skip) | refine ArOb.fits (by first | omega | (simp only [ints_len] at *; omega)) ?_ | refine LitOb.vec ?_ | refine MakeOb.vec ?_ | refine AllocOb.box ?_ | refine AsgOb.vec ?_ | refine AggOb.mk (by decide +kernel) ?_ | refine ArU.fits (by first | omega | (simp only [ints_len] at *; omega)) ?_ | refine ArB.fits (by first | omega | (simp only [ints_len] at *; omega)) ?_ | refine CutOb.split ?_ | refine And.intro (And.intro (by (simp only [List.length_append, List.length_take, List.length_drop, List.length_cons, List.length_nil, ints_len, List.length_replicate, lnl, fll, stl]; omega)) (by (simp only [List.length_append, List.length_take, List.length_drop, List.length_cons, List.length_nil, ints_len, List.length_replicate, lnl, fll, stl]; omega))) ?_ | refine ⟨_, _, rfl, ints_get (by first | omega | (simp only [ints_len] at *; omega)), ?_⟩ | refine ⟨_, _, (Int.toNat_of_nonneg (by first | omega | (simp only [ints_len] at *; omega))).symm, ints_get (by first | omega | (simp only [ints_len] at *; omega)), ?_⟩ | refine DrawOb.mk [] (.qs [0, 1, 3, 6, 7, 8, 10, 11] (.l 2 [10, 7, 3] (.l 4 [10, 7] (.qs [5] (.l 9 [10] (.l 12 [] (.qs [13] (.l 14 [] (.qs [15, 16] (.l 17 [] (.qs [18] .nil) .no)) .no)) .no) .no)) .no) .no)) (by decide +kernel) ?_ | (refine Gh.mk [] ?_; (conv => whnf); refine CallOb.mk [] cSa rfl (ImpL.refl _) rfl rfl ?_; rintro _ _ ⟨rfl, rfl⟩) | (refine Gh.mk [] ?_; (conv => whnf); refine CallOb.mk [] cSb rfl (ImpL.refl _) rfl rfl ?_; rintro _ _ ⟨rfl, rfl⟩) | (refine Gh.mk [] ?_; (conv => whnf); refine CallOb.mk [] cGa rfl (ImpL.refl _) rfl rfl ?_; rintro _ _ ⟨rfl, rfl⟩) | (refine Gh.mk [] ?_; (conv => whnf); refine CallOb.mk [] cGb rfl (ImpL.refl _) rfl rfl ?_; rintro _ _ ⟨rfl, rfl⟩) | fail)
  all_goals try (conv => whnf)
  rw [hmx]
  refine .mk [.fb 3, .fb 4] ?_
  have he : pl2 a b = pl2 f g := funext fun t => by unfold pl2; rw [ha.2.1, hb.2.1]
  refine CallOb.mk [] (Build2_ok 126 (.pptr [.psl 1 (ints a.1), i64 a.2.1, i64 a.2.2]) (.pptr [.psl 1 (ints b.1), i64 b.2.1, i64 b.2.2]) (pl2 a b) (frm a b) (com a b) (g1 + g2) hc1 (by omega) (by omega) (by omega) (fun t ht => by
      have := pl2_bd ha.1 hb.1 fa fb (t := t) (by omega)
      omega) (fun t ht => SumC_ok a b ha.1 hb.1 fa fb t (by omega)) (fun _ => hper)) rfl ?_ rfl rfl ?_
  · exact ⟨Imp.fn ⟨Imp.shut rfl, Imp.shut rfl, trivial⟩, Imp.refl _, Imp.refl _, Imp.refl _, trivial⟩
  rintro _ _ ⟨⟨x1, x2, x3, x4⟩, hx, rfl, rfl⟩
  have hmk : MkP (pl2 a b) (x1, x2, x3, x4) := buildP_mk (pl2_bd ha.1 hb.1 fa fb (by omega)).1 (pl2_mono ha.1 hb.1) (fun t ht => by have := (pl2_bd ha.1 hb.1 fa fb (t := t) (by omega)).2; simp only [INF]; omega) (fun m hm h => by
    have := (pl2_bd ha.1 hb.1 fa fb (t := m) (by omega)).2
    rw [h] at this; simp only [INF] at this; omega) hx
  rw [he] at hmk
  repeat' (conv => whnf
           first | (refine CondOb.mk (fun _ => ?_) (fun _ => ?_) <;> first | (exfalso; omega) | skip) | refine ArOb.fits (by first | omega | (simp only [ints_len] at *; omega)) ?_ | refine LitOb.vec ?_ | refine MakeOb.vec ?_ | refine AllocOb.box ?_ | refine AsgOb.vec ?_ | refine AggOb.mk (by decide +kernel) ?_ | refine ArU.fits (by first | omega | (simp only [ints_len] at *; omega)) ?_ | refine ArB.fits (by first | omega | (simp only [ints_len] at *; omega)) ?_ | refine CutOb.split ?_ | refine Gh.mk [] ?_ | refine And.intro (And.intro (by (simp only [List.length_append, List.length_take, List.length_drop, List.length_cons, List.length_nil, ints_len, List.length_replicate, lnl, fll, stl]; omega)) (by (simp only [List.length_append, List.length_take, List.length_drop, List.length_cons, List.length_nil, ints_len, List.length_replicate, lnl, fll, stl]; omega))) ?_ | refine ⟨_, _, rfl, ints_get (by first | omega | (simp only [ints_len] at *; omega)), ?_⟩ | refine ⟨_, _, (Int.toNat_of_nonneg (by first | omega | (simp only [ints_len] at *; omega))).symm, ints_get (by first | omega | (simp only [ints_len] at *; omega)), ?_⟩ | refine DrawOb.mk [] (.qs [0, 1, 3, 6, 7, 8, 10, 11] (.l 2 [10, 7, 3] (.l 4 [10, 7] (.qs [5] (.l 9 [10] (.l 12 [] (.qs [13] (.l 14 [] (.qs [15, 16] (.l 17 [] (.qs [18] .nil) .no)) .no)) .no) .no)) .no) .no)) (by decide +kernel) ?_ | fail)
  all_goals try (conv => whnf)
  all_goals exact ⟨(x1, x2, x3, x4), hmk, rfl, Imp.refl _⟩
end Go.Proofs.Ytnlmmjmcackgjaa
