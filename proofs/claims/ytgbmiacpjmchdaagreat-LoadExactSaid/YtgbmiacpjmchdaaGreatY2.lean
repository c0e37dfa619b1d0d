/-
  A text of the proofs of this seat: lemmas that the statements' proofs use; it states nothing of the program by itself beyond the contracts that its theorems bear. Conditions: those that stand in each theorem. Its short name: Y2.
-/
import Derived.Test.YtgbmiacpjmchdaaGreatY1
import Derived.Test.YtgbmiacpjmchdaaGreatR10
set_option linter.unusedVariables false
set_option linter.unusedSimpArgs false
--APPX Go.Cv.vals_len
namespace Go.Proofs.YtgbmiacpjmchdaaGreat
open Go.Sx Go.Cv
set_option maxRecDepth 4000
set_option maxHeartbeats 2000000
/-! sums and moved curves of the document -/
theorem nmC_of {f a : C3} (hf : VC f) (h5 : NF (cv f) a.1 a.2.1 a.2.2) : NmC f a := by
  obtain ⟨g1, g2⟩ := h5.vf hf
  refine ⟨g1, g2, fun ff => ?_, h5⟩
  intro hi
  have h6 := VF.val_inf g1 hi hi (t := a.1.length - 1) (Nat.le_refl _)
  have h7 := cv_small hf (t := a.1.length - 1) (by have := g1.n2; omega) (ff.not hf _)
  have h8 := g2 (a.1.length - 1)
  unfold cv at h7
  rw [h6] at h8
  simp only [INF] at h8
  omega
theorem pls_fin {a b : C3} (ha : VC a) (hb : VC b) (fa : FinC a) (fb : FinC b) : pls a b = pl2 a b := funext fun t => by
  unfold pls pl2
  rw [if_neg (fun h => h.elim (fa.not ha t) (fb.not hb t))]
theorem prep_nm {f g a b : C3} (hf : VC f) (hg : VC g) (h : Prep f.1 f.2.1 f.2.2 g.1 g.2.1 g.2.2 a b) : NmC f a ∧ NmC g b := by
  obtain ⟨⟨p0, e0, _, h1⟩, ⟨p1, e1, _, h2⟩, _, _⟩ := h
  have e0' : p0 = f.2.1 := by omega
  have e1' : p1 = g.2.1 := by omega
  subst e0' e1'
  exact ⟨nmC_of hf h1, nmC_of hg h2⟩
theorem rSumX_ok (f g : C3) (hf : VC f) (hg : VC g) (ff : FinC f) (fg : FinC g) : Ctr Tryz.prog 52 [crv f.1 f.2.1 f.2.2, crv g.1 g.2.1 g.2.2] [] (fun r o => ∃ x : E4, SumX f g x ∧ o = [] ∧ r = crvE x) :=
  (Sum_ok f.1 f.2.1 f.2.2 g.1 g.2.1 g.2.2).mono (fun r o ⟨x, h1, h2, h3⟩ => by
    refine ⟨x, ?_, h2, h3⟩
    rcases h1 with ⟨e, he, rfl⟩ | ⟨a, b, hP, hc, hm⟩
    · rcases he with ⟨_, h | h⟩ | ⟨rfl, a, b, hP, hc⟩
      · exact absurd hf.valid h
      · exact absurd hg.valid h
      · obtain ⟨ha, hb⟩ := prep_nm hf hg hP
        exact ⟨a, b, ha, hb, .inr ⟨hc, rfl⟩⟩
    · obtain ⟨ha, hb⟩ := prep_nm hf hg hP
      refine ⟨a, b, ha, hb, .inl ⟨hc, ?_⟩⟩
      rw [pls_fin ha.1 hb.1 (ha.2.2.1 ff) (hb.2.2.1 fg)] at hm
      rw [show pl2 f g = pl2 a b from funext fun t => by unfold pl2; rw [ha.2.1, hb.2.1]]
      exact hm)
theorem rNormN (f : C3) (hf : VC f) : Ctr Tryz.prog 77 [crv f.1 f.2.1 f.2.2] [] (fun r o => ∃ a : C3, NmC f a ∧ o = [] ∧ r = .tup [crv a.1 a.2.1 a.2.2, i64 0]) :=
  (Normal_ok f.1 f.2.1 f.2.2).mono (fun r o ⟨x, h1, h2, h3⟩ => by
    obtain ⟨x1, x2, x3, x4⟩ := x
    rcases h1 with ⟨he, p0, p1, e0, e1, h4, h5⟩ | ⟨h, _⟩
    · dsimp only at he e1 h5 h3
      subst he e1
      have e2 : p0 = f.2.1 := by omega
      subst e2
      exact ⟨(x1, p1, x3), nmC_of hf h5, h2, h3⟩
    · exact absurd hf.valid h)
theorem aP_Y2 {A B K : Prop} (k : K) (a : A := by (simp only [zA, zT, zD, zC, zN, ints_len, zR, Go.Cv.vals_len]; omega)) (b : B := by (simp only [zA, zT, zD, zC, zN, ints_len, zR, Go.Cv.vals_len]; omega)) : (A ∧ B) ∧ K := ⟨⟨a, b⟩, k⟩
theorem rAhead_ok (f : C3) (hf : VC f) (ff : FinC f) (d : Nat) (hd : d ≤ 100000) : Ctr Tryz.prog 43 [crv f.1 f.2.1 f.2.2, i64 d] [] (fun r o => ∃ x, MkP (ahd f d) x ∧ o = [] ∧ r = crvE x) := by
  refine Ctr.impE ?_
  refine fn_intro (E := env 0) tys_ok rfl rfl rfl Tryz.func43 (by kernel_rfl) rfl (by kernel_rfl) ?_
  (repeat' (conv => whnf); first | (refine aC (fun _ => ?_) (fun _ => ?_) <;> try (exfalso; omega)) | refine aS ?_ | refine aG ?_ | refine aD ?_ | refine aH ?_ | refine aP_Y2 ?_ | refine aI ?_ | refine aJ ?_ | refine aW (.qs [0, 1, 2, 3, 4, 5] (.l 6 [1] (.l 7 [1] (.l 8 [] (.qs [9] (.l 10 [] .nil .no)) .no) .no) .no)) ?_ | fail); all_goals try (conv => whnf)
  refine CallOb.mk [] (rNormN f hf) rfl (ImpL.refl _) rfl rfl ?_
  rintro _ _ ⟨a, hn, rfl, rfl⟩
  have ha := hn.1
  have fa := hn.2.2.1 ff
  have n1 := ha.n1
  have n2 := ha.n2
  have p1 := ha.p1
  have p2 := ha.p2
  have pn := ha.pn
  have q0 := ha.q0
  have q1 := ha.q1
  have hil := ints_len a.1
  have hmk : ∀ x, MkP (ahd a d) x → MkP (ahd f d) x := fun x h => by rw [ahd_congr hn.2.1] at h; exact h
  have hbd : ∀ t, t ≤ 1000 → 0 ≤ ahd a d t ∧ ahd a d t ≤ INF := fun t ht => by
    have := ahd_bd ha fa (d := d) (t := t) (by omega)
    simp only [INF]; omega
  have hni : ∀ t, t ≤ 1000 → ahd a d t ≠ INF := fun t ht => by
    have := ahd_bd ha fa (d := d) (t := t) (by omega)
    simp only [INF]; omega
  (repeat' (conv => whnf); first | (refine aC (fun _ => ?_) (fun _ => ?_) <;> try (exfalso; omega)) | refine aS ?_ | refine aG ?_ | refine aD ?_ | refine aP_Y2 ?_ | refine aI ?_ | refine aJ ?_ | refine aW (.qs [0, 1, 2, 3, 4, 5] (.l 6 [1] (.l 7 [1] (.l 8 [] (.qs [9] (.l 10 [] .nil .no)) .no) .no) .no)) ?_ | fail); all_goals try (conv => whnf)
  refine .mk [] ?_
  have hv1 : ([[i64 0]] : List (List SV)) = ints (vals (ahd a d) 1) := by simp [vals, ahd, ints]
  rw [hv1]
  refine LoopOb.mk (Y := Nat) (st := fun t => ⟨[(9, i64 t), (8, .ptr 4 0), (6, .ptr 2 0), (1, i64 d), (4, .ptr 1 0)], [.box [.psl 1 (ints f.1), i64 f.2.1, i64 f.2.2], .box [.nil, i64 0, i64 0], .box [.psl 1 (ints a.1), i64 a.2.1, i64 a.2.2], .vec 1 (ints (vals (ahd a d) t)), .box [.vec 3, i64 a.2.1, i64 a.2.2]]⟩)
    (inv := fun t => 1 ≤ t ∧ t ≤ a.1.length + a.2.1 + 1) (fun t => a.1.length + a.2.1 + 1 - t) 1 [0, 1, 2, 3, 4] ⟨by omega, by omega⟩ (by (exact aL)) ?_
  rintro t ⟨ht1, ht⟩
  (repeat' (conv => whnf); first | (refine aC (fun _ => ?_) (fun _ => ?_) <;> try (exfalso; omega)) | refine aS ?_ | refine aG ?_ | refine aD ?_ | refine aP_Y2 ?_ | refine aI ?_ | refine aJ ?_ | refine aW (.qs [0, 1, 2, 3, 4, 5] (.l 6 [1] (.l 7 [1] (.l 8 [] (.qs [9] (.l 10 [] .nil .no)) .no) .no) .no)) ?_ | fail); all_goals try (conv => whnf)
  · refine .mk [] ?_
    refine aK [] (show Ctr Tryz.prog 78 [crv a.1 a.2.1 a.2.2, i64 ((t : Int) + d)] [] (fun r o => o = [] ∧ r = i64 (ahd a d t)) from by
      have := rAt_ok a (t + d) ha (by omega)
      rw [Int.natCast_add] at this
      unfold ahd; rw [if_neg (by omega)]; exact this) ?_
    (repeat' (conv => whnf); first | (refine aC (fun _ => ?_) (fun _ => ?_) <;> try (exfalso; omega)) | refine aS ?_ | refine aG ?_ | refine aD ?_ | refine aH ?_ | refine aP_Y2 ?_ | refine aI ?_ | refine aJ ?_ | refine aW (.qs [0, 1, 2, 3, 4, 5] (.l 6 [1] (.l 7 [1] (.l 8 [] (.qs [9] (.l 10 [] .nil .no)) .no) .no) .no)) ?_ | fail); all_goals try (conv => whnf)
    refine ⟨t + 1, [0, 1, 2, 6, 4], ⟨by omega, by omega⟩, by omega, ?_⟩
    refine Le.mk (by kernel_rfl) ?_ ?_ <;> repeat' (first | exact True.intro | refine And.intro ?_ ?_ | exact Imp.refl _ | exact Imp.any _ | exact Imp.num (by omega) | exact rfl | simp [ints, vals_succ])
  · have htN : t = a.1.length + a.2.1 + 1 := by omega
    subst htN
    refine .mk [.fz 3] ?_
    refine CallOb.mk [] (Made_ok (vals (ahd a d) (a.1.length + a.2.1 + 1)) a.2.1 a.2.2 (bd_vals (fun t ht => hbd t (by omega)) p1 (by omega) (by omega) q0 (by omega))) rfl (ImpL.refl _) rfl rfl ?_
    rintro _ _ ⟨⟨x1, x2, x3, x4⟩, hx, rfl, rfl⟩
    (repeat' (conv => whnf); first | (refine aC (fun _ => ?_) (fun _ => ?_) <;> try (exfalso; omega)) | refine aS ?_ | refine aG ?_ | refine aD ?_ | refine aH ?_ | refine aP_Y2 ?_ | refine aI ?_ | refine aJ ?_ | refine aW (.qs [0, 1, 2, 3, 4, 5] (.l 6 [1] (.l 7 [1] (.l 8 [] (.qs [9] (.l 10 [] .nil .no)) .no) .no) .no)) ?_ | fail); all_goals try (conv => whnf)
    refine ⟨(x1, x2, x3, x4), hmk _ (madeP_mk p1 (by rw [vals_len]; omega) (fun t ht => ?_) (fun m hm h => ?_) (fun h => ?_) hx), rfl, Imp.refl _⟩
    · rw [vals_len] at ht; rw [vals_get ht]
    · rw [vals_len] at hm; exact absurd h (hni m (by omega))
    · rw [vals_len, show a.1.length + a.2.1 + 1 - a.2.1 = a.1.length + 1 by omega]
      exact ahd_per ha d (a.1.length + 1) (by omega) (by omega)
end Go.Proofs.YtgbmiacpjmchdaaGreat
