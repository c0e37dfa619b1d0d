/-
  A text of the proofs of this seat: lemmas that the statements' proofs use; it states nothing of the program by itself beyond the contracts that its theorems bear. Conditions: those that stand in each theorem. Its short name: X1 X11 X12 X13.
-/
import Derived.Test.YtgbmiacpjmchdaaGreatW3
import Derived.Test.YtgbmiacpjmchdaaGreatW2b
import Derived.Test.YtgbmiacpjmchdaaGreatPl
set_option linter.unusedVariables false
set_option linter.unusedSimpArgs false
section
namespace Go.Proofs.YtgbmiacpjmchdaaGreat
open Go.Sx Go.Cv
set_option maxRecDepth 4000
set_option maxHeartbeats 2000000
/- the normal form, when there is one -/
theorem CNormF (f : C3) (hf : VC f) : Ctr Tryz.prog 97 [crv f.1 f.2.1 f.2.2] [] (fun r o => ∃ a : C3, (VC a ∧ (∀ t, cv a t = cv f t) ∧ (FinC f → FinC a)) ∧ o = [] ∧ r = .tup [crv a.1 a.2.1 a.2.2, i64 0]) :=
  (CNormal_ok f.1 f.2.1 f.2.2 (by have := hf.n2; omega)).mono (fun r o ⟨x, h1, h2, h3⟩ => by
    obtain ⟨x1, x2, x3, x4⟩ := x
    rcases h1 with ⟨he, p0, p1, e0, e1, h4, h5⟩ | ⟨h, _⟩
    · dsimp only at he e1 h5 h3
      subst he e1
      have e2 : p0 = f.2.1 := by omega
      subst e2
      obtain ⟨g1, g2⟩ := h5.vf hf
      refine ⟨(x1, p1, x3), ⟨g1, g2, fun ff => ?_⟩, h2, h3⟩
      intro hi
      have h6 := g1.val_inf hi hi (t := x1.length - 1) (Nat.le_refl _)
      have h7 := cv_small hf (t := x1.length - 1) (by have := g1.n2; omega) (ff.not hf _)
      have h8 := g2 (x1.length - 1)
      unfold cv at h7
      rw [h6] at h8
      simp only [INF] at h8
      omega
    · exact absurd hf.valid h)
theorem aP_X1 {A B K : Prop} (k : K) (a : A := by (simp only [zA, zT, zD, zC, zN, ints_len, zR, lnl, fll, stl]; omega)) (b : B := by (simp only [zA, zT, zD, zC, zN, ints_len, zR, lnl, fll, stl]; omega)) : (A ∧ B) ∧ K := ⟨⟨a, b⟩, k⟩
theorem One_ok (f : C3) (hf : VC f) (n lo hi : Int) (h1 : lo ≤ n) (h2 : n ≤ hi) : Ctr Tryz.prog 72 [crv f.1 f.2.1 f.2.2, i64 n, i64 lo, i64 hi] [] (fun r o => ∃ a : C3, (VC a ∧ (∀ t, cv a t = cv f t) ∧ (FinC f → FinC a)) ∧ o = [] ∧ r = .tup [crv a.1 a.2.1 a.2.2, i64 0]) := by
  refine Ctr.impE ?_
  refine fn_intro (E := env 0) tys_ok rfl rfl rfl Tryz.func72 (by kernel_rfl) rfl (by kernel_rfl) ?_
  (repeat' (conv => whnf); first | (refine aC (fun _ => ?_) (fun _ => ?_) <;> try (exfalso; omega)) | refine aS ?_ | refine aG ?_ | refine aD ?_ | refine aH ?_ | refine aP_X1 ?_ | refine aI ?_ | refine aJ ?_ | fail); all_goals try (conv => whnf)
  refine CallOb.mk [] (CNormF f hf) rfl (ImpL.refl _) rfl rfl ?_
  rintro _ _ ⟨a, ha, rfl, rfl⟩
  (repeat' (conv => whnf); first | (refine aC (fun _ => ?_) (fun _ => ?_) <;> try (exfalso; omega)) | refine aS ?_ | refine aG ?_ | refine aD ?_ | refine aH ?_ | refine aP_X1 ?_ | refine aI ?_ | refine aJ ?_ | fail); all_goals try (conv => whnf)
  exact ⟨a, ha, rfl, Imp.refl _⟩
theorem AheadC_ok (a : C3) (ha : VC a) (d t : Nat) (h : t + d ≤ 1048576) :
    Ctr Tryz.prog 73 [i64 t, .pptr [.psl 1 (ints a.1), i64 a.2.1, i64 a.2.2], .pptr [i64 d]] [] (fun r o => o = [] ∧ r = i64 (ahd a d t)) := by
  refine fn_intro (E := env 0) tys_ok rfl rfl rfl Tryz.func73 (by kernel_rfl) rfl (by kernel_rfl) ?_
  (repeat' (conv => whnf); first | (refine aC (fun _ => ?_) (fun _ => ?_) <;> try (exfalso; omega)) | refine aS ?_ | refine aG ?_ | refine aD ?_ | refine aH ?_ | refine aP_X1 ?_ | refine aI ?_ | refine aJ ?_ | fail); all_goals try (conv => whnf)
  · exact ⟨rfl, by unfold ahd; rw [if_pos (by omega)]; rfl⟩
  · refine CallOb.mk [] (WAt_ok _ _ _ _ (bd_of ha) (by omega) (by omega)) rfl (ImpL.refl _) rfl rfl ?_
    rintro _ _ ⟨rfl, rfl⟩
    (repeat' (conv => whnf); first | (refine aC (fun _ => ?_) (fun _ => ?_) <;> try (exfalso; omega)) | refine aS ?_ | refine aG ?_ | refine aD ?_ | refine aH ?_ | refine aP_X1 ?_ | refine aI ?_ | refine aJ ?_ | fail); all_goals try (conv => whnf)
    exact ⟨rfl, by unfold ahd cv; rw [if_neg (by omega), show ((t : Int) + d).toNat = t + d by omega]; rfl⟩
theorem Ahead_ok (f : C3) (hf : VC f) (ff : FinC f) (d : Nat) (hd : d ≤ 100000) : Ctr Tryz.prog 42 [crv f.1 f.2.1 f.2.2, i64 d] [] (fun r o => ∃ x, MkP (ahd f d) x ∧ o = [] ∧ r = crvE x) := by
  refine Ctr.impE ?_
  refine fn_intro (E := env 0) tys_ok rfl rfl rfl Tryz.func42 (by kernel_rfl) rfl (by kernel_rfl) ?_
  (repeat' (conv => whnf); first | (refine aC (fun _ => ?_) (fun _ => ?_) <;> try (exfalso; omega)) | refine aS ?_ | refine aG ?_ | refine aD ?_ | refine aH ?_ | refine aP_X1 ?_ | refine aI ?_ | refine aJ ?_ | refine aW (.qs [0, 1, 3, 6, 7, 8, 9] (.l 2 [9, 7, 3] (.qs [4, 5] (.l 10 [] (.qs [11, 12] (.l 13 [] (.qs [14] .nil) .no)) .no)) .no)) ?_ | fail); all_goals try (conv => whnf)
  refine CallOb.mk [] (One_ok f hf d 0 1048576 (by omega) (by omega)) rfl (ImpL.refl _) rfl rfl ?_
  rintro _ _ ⟨a, ⟨ha, hc, hfi⟩, rfl, rfl⟩
  have fa := hfi ff
  have n1 := ha.n1
  have n2 := ha.n2
  have p1 := ha.p1
  have p2 := ha.p2
  have pn := ha.pn
  have q0 := ha.q0
  have q1 := ha.q1
  have hil := ints_len a.1
  (repeat' (conv => whnf); first | (refine aC (fun _ => ?_) (fun _ => ?_) <;> try (exfalso; omega)) | refine aS ?_ | refine aG ?_ | refine aD ?_ | refine aP_X1 ?_ | refine aI ?_ | refine aJ ?_ | refine aW (.qs [0, 1, 3, 6, 7, 8, 9] (.l 2 [9, 7, 3] (.qs [4, 5] (.l 10 [] (.qs [11, 12] (.l 13 [] (.qs [14] .nil) .no)) .no)) .no)) ?_ | fail); all_goals try (conv => whnf)
  refine .mk [] ?_
  refine aK [] (Start_ok a.1 a.2.1 a.2.2 pn (by omega)) ?_
  (repeat' (conv => whnf); first | (refine aC (fun _ => ?_) (fun _ => ?_) <;> try (exfalso; omega)) | refine aS ?_ | refine aG ?_ | refine aD ?_ | refine aP_X1 ?_ | refine aI ?_ | refine aJ ?_ | refine aW (.qs [0, 1, 3, 6, 7, 8, 9] (.l 2 [9, 7, 3] (.qs [4, 5] (.l 10 [] (.qs [11, 12] (.l 13 [] (.qs [14] .nil) .no)) .no)) .no)) ?_ | fail); all_goals try (conv => whnf)
  obtain ⟨s, hs, hs1, hs2, hs3⟩ : ∃ s : Nat, max 1 (((a.1.length - a.2.1 : Nat) : Int) - d) = s ∧ 1 ≤ s ∧ a.1.length - a.2.1 - d ≤ s ∧ s ≤ 400 := ⟨max 1 (a.1.length - a.2.1 - d), by omega, by omega, by omega, by omega⟩
  rw [hs]
  refine .mk [.fb 3, .fb 1] ?_
  refine CallOb.mk [] (Build2_ok 73 (.pptr [.psl 1 (ints a.1), i64 a.2.1, i64 a.2.2]) (.pptr [i64 d]) (ahd a d) s a.2.1 a.2.2 p1 (by omega) q0 (by omega) (fun t ht => by
      have := ahd_bd ha fa (d := d) (t := t) (by omega)
      omega) (fun t ht => AheadC_ok a ha d t (by omega)) (fun _ => ahd_per ha d s hs1 hs2)) rfl ?_ rfl rfl ?_
  · exact ⟨Imp.fn ⟨Imp.shut rfl, Imp.shut rfl, trivial⟩, Imp.refl _, Imp.refl _, Imp.refl _, trivial⟩
  rintro _ _ ⟨⟨x1, x2, x3, x4⟩, hx, rfl, rfl⟩
  have hmk : MkP (ahd a d) (x1, x2, x3, x4) := buildP_mk (ahd_bd ha fa (by omega)).1 (ahd_mono ha d) (fun t ht => by have := (ahd_bd ha fa (d := d) (t := t) (by omega)).2; simp only [INF]; omega) (fun m hm h => by
    have := (ahd_bd ha fa (d := d) (t := m) (by omega)).2
    rw [h] at this; simp only [INF] at this; omega) hx
  rw [ahd_congr hc] at hmk
  (repeat' (conv => whnf); first | (refine aC (fun _ => ?_) (fun _ => ?_) <;> try (exfalso; omega)) | refine aS ?_ | refine aG ?_ | refine aD ?_ | refine aH ?_ | refine aP_X1 ?_ | refine aI ?_ | refine aJ ?_ | refine aW (.qs [0, 1, 3, 6, 7, 8, 9] (.l 2 [9, 7, 3] (.qs [4, 5] (.l 10 [] (.qs [11, 12] (.l 13 [] (.qs [14] .nil) .no)) .no)) .no)) ?_ | fail); all_goals try (conv => whnf)
  all_goals exact ⟨(x1, x2, x3, x4), hmk, rfl, Imp.refl _⟩
end Go.Proofs.YtgbmiacpjmchdaaGreat
end
section
namespace Go.Proofs.YtgbmiacpjmchdaaGreat
open Go.Sx Go.Cv
set_option maxRecDepth 4000
set_option maxHeartbeats 2000000
/- a is a normal form of f -/
abbrev NmC (f a : C3) : Prop := VC a ∧ (∀ t, cv a t = cv f t) ∧ (FinC f → FinC a) ∧ NF (cv f) a.1 a.2.1 a.2.2
theorem CNormN (f : C3) (hf : VC f) : Ctr Tryz.prog 97 [crv f.1 f.2.1 f.2.2] [] (fun r o => ∃ a : C3, NmC f a ∧ o = [] ∧ r = .tup [crv a.1 a.2.1 a.2.2, i64 0]) :=
  (CNormal_ok f.1 f.2.1 f.2.2 (by have := hf.n2; omega)).mono (fun r o ⟨x, h1, h2, h3⟩ => by
    obtain ⟨x1, x2, x3, x4⟩ := x
    rcases h1 with ⟨he, p0, p1, e0, e1, h4, h5⟩ | ⟨h, _⟩
    · dsimp only at he e1 h5 h3
      subst he e1
      have e2 : p0 = f.2.1 := by omega
      subst e2
      obtain ⟨g1, g2⟩ := h5.vf hf
      refine ⟨(x1, p1, x3), ⟨g1, g2, fun ff => ?_, h5⟩, h2, h3⟩
      intro hi
      have h6 := g1.val_inf hi hi (t := x1.length - 1) (Nat.le_refl _)
      have h7 := cv_small hf (t := x1.length - 1) (by have := g1.n2; omega) (ff.not hf _)
      have h8 := g2 (x1.length - 1)
      unfold cv at h7
      rw [h6] at h8
      simp only [INF] at h8
      omega
    · exact absurd hf.valid h)
end Go.Proofs.YtgbmiacpjmchdaaGreat
end
section
namespace Go.Proofs.YtgbmiacpjmchdaaGreat
open Go.Sx Go.Cv
set_option maxRecDepth 4000
set_option maxHeartbeats 2000000
theorem aP_X12 {A B K : Prop} (k : K) (a : A := by (simp only [zA, zT, zD, zC, zN, ints_len, zR, lnl, fll, stl]; omega)) (b : B := by (simp only [zA, zT, zD, zC, zN, ints_len, zR, lnl, fll, stl]; omega)) : (A ∧ B) ∧ K := ⟨⟨a, b⟩, k⟩
theorem wPlus_ok (a b : Int) (ha : 0 ≤ a) (hb : 0 ≤ b) (ha2 : a ≤ 2000000000000000) (hb2 : b ≤ 2000000000000000) : Ctr Tryz.prog 82 [i64 a, i64 b] [] (fun r o => o = [] ∧ r = i64 (a + b)) := by
  refine Ctr.imp ?_
  refine fn_intro (E := env 0) tys_ok rfl rfl rfl Tryz.func82 (by kernel_rfl) rfl (by kernel_rfl) ?_
  (repeat' (conv => whnf); first | (refine aC (fun _ => ?_) (fun _ => ?_) <;> try (exfalso; omega)) | refine aS ?_ | refine aG ?_ | refine aD ?_ | refine aH ?_ | refine aP_X12 ?_ | refine aI ?_ | refine aJ ?_ | fail); all_goals try (conv => whnf)
  all_goals first
    | (exfalso; omega)
    | exact ⟨rfl, Imp.refl _⟩
    | trace_state
theorem wGain_ok (f : C3) (hf : VC f) (l : Nat) (hl : l ≤ 1000) (hd : f.2.1 ∣ l) : Ctr Tryz.prog 83 [crv f.1 f.2.1 f.2.2, i64 l] [] (fun r o => o = [] ∧ r = i64 (((l / f.2.1 : Nat) : Int) * f.2.2)) := by
  refine Ctr.imp ?_
  refine fn_intro (E := env 0) tys_ok rfl rfl rfl Tryz.func83 (by kernel_rfl) rfl (by kernel_rfl) ?_
  have p1 := hf.p1
  have q0 := hf.q0
  have q1 := hf.q1
  have e1 : (l : Int).tdiv f.2.1 = ((l / f.2.1 : Nat) : Int) := by rw [Int.tdiv_eq_ediv_of_nonneg (by omega)]; rfl
  have d1 : l / f.2.1 ≤ l := Nat.div_le_self _ _
  generalize l / f.2.1 = k1 at *
  have m1 := mul_bd (a := (k1 : Int)) (b := f.2.2) (A := 1000) (B := 1073741824) (by omega) (by omega) (by omega) (by omega)
  (repeat' (conv => whnf); first | (refine aC (fun _ => ?_) (fun _ => ?_) <;> try (exfalso; omega)) | refine aS ?_ | refine aG ?_ | refine aD ?_ | refine aH ?_ | refine aP_X12 ?_ | refine aI ?_ | refine aJ ?_ | refine aW (.qs [0, 1, 2, 3, 4, 5, 6, 7] .nil) ?_ | fail); all_goals try (conv => whnf)
  refine ⟨by omega, ?_⟩
  rw [e1]
  (repeat' (conv => whnf); first | (refine aC (fun _ => ?_) (fun _ => ?_) <;> try (exfalso; omega)) | refine aS ?_ | refine aG ?_ | refine aD ?_ | refine aH ?_ | refine aP_X12 ?_ | refine aI ?_ | refine aJ ?_ | refine aW (.qs [0, 1, 2, 3, 4, 5, 6, 7] .nil) ?_ | fail); all_goals try (conv => whnf)
  all_goals first
    | exact ⟨rfl, Imp.refl _⟩
    | trace_state
end Go.Proofs.YtgbmiacpjmchdaaGreat
end
section
namespace Go.Proofs.YtgbmiacpjmchdaaGreat
open Go.Sx Go.Cv
set_option maxRecDepth 4000
set_option maxHeartbeats 2000000
def pl2 (f g : C3) (t : Nat) : Int := cv f t + cv g t
theorem aP_X13 {A B K : Prop} (k : K) (a : A := by (simp only [zA, zT, zD, zC, zN, ints_len, zR, lnl, fll, stl]; omega)) (b : B := by (simp only [zA, zT, zD, zC, zN, ints_len, zR, lnl, fll, stl]; omega)) : (A ∧ B) ∧ K := ⟨⟨a, b⟩, k⟩
theorem SumC_ok (a b : C3) (ha : VC a) (hb : VC b) (fa : FinC a) (fb : FinC b) (t : Nat) (h : t ≤ 1000000) :
    Ctr Tryz.prog 81 [i64 t, .pptr [.psl 1 (ints a.1), i64 a.2.1, i64 a.2.2], .pptr [.psl 1 (ints b.1), i64 b.2.1, i64 b.2.2]] [] (fun r o => o = [] ∧ r = i64 (pl2 a b t)) := by
  refine fn_intro (E := env 0) tys_ok rfl rfl rfl Tryz.func81 (by kernel_rfl) rfl (by kernel_rfl) ?_
  have cA := WAt_ok _ _ _ t (bd_of ha) (by omega) (by omega)
  have cB := WAt_ok _ _ _ t (bd_of hb) (by omega) (by omega)
  rw [Int.toNat_natCast] at cA cB
  have a1 := cv_nonneg ha t
  have b1 := cv_nonneg hb t
  have a2 := cv_small ha (t := t) (by omega) (fa.not ha _)
  have b2 := cv_small hb (t := t) (by omega) (fb.not hb _)
  unfold pl2
  unfold cv at *
  generalize val a.1 a.2.1 a.2.2 t = x at *
  generalize val b.1 b.2.1 b.2.2 t = y at *
  (repeat' (conv => whnf); first | (refine aC (fun _ => ?_) (fun _ => ?_) <;> try (exfalso; omega)) | refine aS ?_ | refine aG ?_ | refine aD ?_ | refine aH ?_ | refine aP_X13 ?_ | refine aI ?_ | refine aJ ?_ | refine aW (.qs [0, 1, 3, 4] (.l 2 [3] (.l 5 [] (.l 6 [] (.qs [7] .nil) .no) .no) .no)) ?_ | (refine aK [] cA ?_) | (refine aK [] cB ?_) | (refine aK [] (wPlus_ok x y a1 b1 a2 b2) ?_) | fail); all_goals try (conv => whnf)
  exact ⟨rfl, rfl⟩
end Go.Proofs.YtgbmiacpjmchdaaGreat
end
