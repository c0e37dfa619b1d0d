/-
  A text of the proofs of this seat: lemmas that the statements' proofs use; it states nothing of the program by itself beyond the contracts that its theorems bear. Conditions: those that stand in each theorem. Its short name: Kd.
-/
import Derived.Test.YtifcdempdcolkabKc
import Derived.Test.YtifcdempdcolkabPl
set_option linter.unusedVariables false
set_option linter.unusedSimpArgs false
namespace Go.Proofs.Ytifcdempdcolkab
open Go.Sx Go.Cv
set_option maxRecDepth 4000
set_option maxHeartbeats 2000000
def part (l : List Int) (v : Int) (i : Nat) : List Int := (l.take i).map (fun y => y - v) ++ l.drop i
theorem part_zero (l : List Int) (v : Int) : part l v 0 = l := by simp [part]
theorem part_len (l : List Int) (v : Int) (i : Nat) : (part l v i).length = l.length := by simp [part]; omega
theorem part_all (l : List Int) (v : Int) : part l v l.length = l.map (fun y => y - v) := by simp [part]
theorem part_get {l : List Int} {v : Int} {i : Nat} (h : i < l.length) : (part l v i).getD i 0 = l.getD i 0 := by
  have h2 : ((l.take i).map (fun y => y - v)).length = i := by simp; omega
  unfold part
  rw [List.getD_eq_getElem?_getD, List.getElem?_append_right (by omega), h2]
  simp [List.getElem?_eq_getElem h]
theorem part_set {l : List Int} {v : Int} {i : Nat} (h : i < l.length) : (part l v i).set i (l.getD i 0 - v) = part l v (i + 1) := by
  have h2 : ((l.take i).map (fun y => y - v)).length = i := by simp; omega
  unfold part
  rw [List.set_append_right _ _ (by omega), h2, Nat.sub_self, List.drop_eq_getElem_cons h, List.set_cons_zero, List.take_add_one, List.getElem?_eq_getElem h, List.map_append, List.append_assoc, show l.getD i 0 = l[i] by simp [List.getElem?_eq_getElem h]]
  rfl
theorem ints_part_set {l : List Int} {v : Int} {i : Nat} (h : i < l.length) : (ints (part l v i)).set i [i64 (l.getD i 0 - v)] = ints (part l v (i + 1)) := by
  rw [← part_set h]; simp [ints]
/- what Zero makes -/
structure ZeroP (most : Nat) (x : C3) : Prop where
  v : VC x
  f : FinC x
  n : ∃ a, NrmOf x a ∧ Zer most a
theorem curveP_fin {most : Nat} {f : C3} (h : CurveP most f) (hf : FinC f) (h0 : f.1.getD 0 0 = 0) : ZeroP most f := by
  obtain ⟨a, na⟩ := nrm_exists h.v
  obtain ⟨h1, h2, h3, h4⟩ := curveP_nf h na
  have fa := fin_nrm h.v hf na
  refine ⟨h.v, hf, a, na, na.1, fa, ?_, h1, h2, h3, fun j hj => (h4 j hj).resolve_left (na.1.noinf fa j hj), fun t => by rw [na.cv, na.cv]; exact h.s hf t⟩
  rw [na.cv]; unfold cv; rw [val_lt h.v.n1]; exact h0
theorem curveP_low {most : Nat} {f : C3} {v : Int} (h : CurveP most f) (hf : FinC f) (h0 : 0 ≤ v) (hv : f.1.getD 0 0 = v) : ZeroP most (low f v) := by
  obtain ⟨a, na⟩ := nrm_exists h.v
  obtain ⟨h1, h2, h3, h4⟩ := curveP_nf h na
  have fa := fin_nrm h.v hf na
  obtain ⟨g1, g2, g3⟩ := low_vc h.v hf h0 (by omega)
  have nl := low_nrm h.v hf na h0 (by omega)
  have f0 : cv f 0 = v := by unfold cv; rw [val_lt h.v.n1]; exact hv
  refine ⟨g1, g2, low a v, nl, nl.1, fin_nrm g1 g2 nl, ?_, h1, by rw [low_len]; exact h2, h3, fun j hj => ?_, fun t => ?_⟩
  · rw [nl.cv, g3, f0]; omega
  · rw [low_len] at hj
    rw [low_get hj]
    have := (h4 j hj).resolve_left (na.1.noinf fa j hj)
    omega
  · have := h.s hf t
    rw [nl.cv, nl.cv, g3, g3]; omega
theorem spec_curveP {most : Nat} {k : Int} {p : Nat} (hm : 2 ≤ most) (hk : 0 ≤ k) (hk2 : k ≤ 4) (hp : p = 1 ∨ p = 2) : CurveP most ([0, 4, 4 + k], p, 8) ∧ FinC ([0, 4, 4 + k], p, 8) := by
  have hg : ∀ j < 3, ([0, 4, 4 + k] : List Int).getD j 0 = if j = 0 then 0 else if j = 1 then 4 else 4 + k := by
    intro j hj
    match j, hj with
    | 0, _ => rfl
    | 1, _ => rfl
    | 2, _ => rfl
  have hfin : FinC ([0, 4, 4 + k], p, 8) := by
    show ([0, 4, 4 + k] : List Int).getD 2 0 ≠ INF
    rw [hg 2 (by omega)]; simp only [INF]; omega
  have hv : VC ([0, 4, 4 + k], p, 8) := by
    refine ⟨by simp, by simp, by simp only; omega, by simp only; omega, by simp; omega, by simp only; omega, by simp only; omega, fun j hj => ?_, fun i j hij hj => ?_, fun e => absurd e hfin, fun _ => ?_⟩
    · have hj : j < 3 := hj
      simp only
      rw [hg j hj]; right; split <;> (try split) <;> omega
    · have hj : j < 3 := hj
      simp only
      rw [hg i (by omega), hg j hj]
      split <;> (try split) <;> (try split) <;> (try split) <;> omega
    · show ([0, 4, 4 + k] : List Int).getD (3 - p) 0 + 8 ≥ ([0, 4, 4 + k] : List Int).getD 2 0
      rw [hg (3 - p) (by omega), hg 2 (by omega)]
      split <;> (try split) <;> (try split) <;> omega
  refine ⟨⟨hv, by simp only [List.length_cons, List.length_nil]; omega, by simp only; omega, fun _ => ?_, ⟨_, hv, fun _ => rfl, Iff.rfl, by simp only [List.length_cons, List.length_nil]; omega, by simp only; omega, by simp only; omega, fun j hj => ?_⟩, by rw [cv_zero hv]; show ([0, 4, 4 + k] : List Int).getD 0 0 ≤ _; rw [hg 0 (by omega), if_pos rfl]; omega⟩, hfin⟩
  · refine step_of (b := ([0, 4, 4 + k], p, 8)) hv (fun j hj => ?_) ?_
    · have hj : j + 1 < 3 := hj
      simp only
      rw [hg (j + 1) hj, hg j (by omega)]
      split <;> (try split) <;> (try split) <;> (try split) <;> omega
    · show ([0, 4, 4 + k] : List Int).getD (3 - p) 0 + 8 ≤ ([0, 4, 4 + k] : List Int).getD 2 0 + 9
      rw [hg (3 - p) (by omega), hg 2 (by omega)]
      split <;> (try split) <;> (try split) <;> omega
  · have hj : j < 3 := hj
    simp only
    rw [hg j hj]; right; split <;> (try split) <;> omega
theorem aP_Kd {A B K : Prop} (k : K) (a : A := by (simp only [zA, zT, zD, zC, zN, ints_len, zR, Go.Cv.vals_len]; omega)) (b : B := by (simp only [zA, zT, zD, zC, zN, ints_len, zR, Go.Cv.vals_len]; omega)) : (A ∧ B) ∧ K := ⟨⟨a, b⟩, k⟩
theorem Zero_ok (L : List Int) (k : Nat) (hL : L.length ≤ 2000) (hk : k ≤ 2000) (most : Nat) (hm : 2 ≤ most) (hm2 : most ≤ 12) :
    Ctr Try.prog 9 [.ptr 0 0, i64 most] [src L k] (fun r o => ∃ x : C3 × Nat, (ZeroP most x.1 ∧ x.2 ≤ 2000) ∧ o = [src L x.2] ∧ Imp r (crv x.1.1 x.1.2.1 x.1.2.2)) := by
  refine fn_intro (E := env 1) tys_ok rfl rfl rfl Try.func9 (by kernel_rfl) rfl (by kernel_rfl) ?_
  (repeat' (conv => whnf); first | (refine aC (fun _ => ?_) (fun _ => ?_) <;> try (exfalso; omega)) | refine aS ?_ | refine aG ?_ | refine aD ?_ | refine aH ?_ | refine aP_Kd ?_ | refine aI ?_ | refine aJ ?_ | fail); all_goals try (conv => whnf)
  refine CallOb.mk [0] (Ctr.impE (Curve_ok L k hL hk most (by omega) (by omega))) rfl (ImpL.refl _) rfl rfl ?_
  rintro _ _ ⟨⟨f, k1⟩, ⟨hf, hk1⟩, rfl, rfl⟩
  dsimp only at hf hk1 ⊢
  (repeat' (conv => whnf); first | (refine aC (fun _ => ?_) (fun _ => ?_) <;> try (exfalso; omega)) | refine aS ?_ | refine aG ?_ | refine aD ?_ | refine aP_Kd ?_ | refine aI ?_ | refine aJ ?_ | fail); all_goals try (conv => whnf)
  refine .mk [] ?_
  refine LoopOb.mk (Y := C3 × Nat) (st := fun y => ⟨[(5, .ptr 2 0), (4, .ptr 1 0), (0, .ptr 0 0)], [src L y.2, .box [.nil, i64 0, i64 0], .box [.psl 1 (ints y.1.1), i64 y.1.2.1, i64 y.1.2.2]]⟩)
    (inv := fun y => CurveP most y.1 ∧ y.2 ≤ 2000) (fun y => if y.1.1.getD (y.1.1.length - 1) 0 = INF then 1 else 0) (f, k1) [0, 1, 2] ⟨hf, hk1⟩ (by (exact aL)) ?_
  rintro ⟨f, k2⟩ ⟨hf, hk2⟩
  dsimp only at hf hk2 ⊢
  have n1 := hf.v.n1
  have n2 := hf.v.n2
  have hil := ints_len f.1
  (repeat' (conv => whnf); first | (refine aC (fun _ => ?_) (fun _ => ?_) <;> try (exfalso; omega)) | refine aS ?_ | refine aG ?_ | refine aD ?_ | refine aP_Kd ?_ | refine aI ?_ | refine aJ ?_ | fail); all_goals try (conv => whnf)
  · refine .mk [] ?_
    refine CallOb.mk [0] (N_ok L k2 hL hk2 5 (by omega) (by omega)) rfl (ImpL.refl _) rfl rfl ?_
    rintro _ _ ⟨⟨v5, k3⟩, ⟨hv5, hv5', hk3⟩, rfl, rfl⟩
    dsimp only at hv5 hv5' hk3 ⊢
    (repeat' (conv => whnf); first | (refine aC (fun _ => ?_) (fun _ => ?_) <;> try (exfalso; omega)) | refine aS ?_ | refine aG ?_ | refine aD ?_ | refine aP_Kd ?_ | refine aI ?_ | refine aJ ?_ | fail); all_goals try (conv => whnf)
    refine .mk [] ?_
    refine CallOb.mk [0] (N_ok L k3 hL hk3 2 (by omega) (by omega)) rfl (ImpL.refl _) rfl rfl ?_
    rintro _ _ ⟨⟨v2, k4⟩, ⟨hv2, hv2', hk4⟩, rfl, rfl⟩
    dsimp only at hv2 hv2' hk4 ⊢
    (repeat' (conv => whnf); first | (refine aC (fun _ => ?_) (fun _ => ?_) <;> try (exfalso; omega)) | refine aS ?_ | refine aG ?_ | refine aD ?_ | refine aP_Kd ?_ | refine aI ?_ | refine aJ ?_ | fail); all_goals try (conv => whnf)
    obtain ⟨pp, hpp⟩ : ∃ pp : Nat, (1 + v2 : Int) = pp := ⟨(1 + v2).toNat, by omega⟩
    have hsp := spec_curveP (most := most) (k := v5) (p := pp) hm hv5 (by omega) (by omega)
    have hinf : f.1.getD (f.1.length - 1) 0 = INF := by
      have h1 := (by assumption : f.1.getD (((ints f.1).length : Int) - 1).toNat 0 = 4611686018427387904)
      rw [hil, show ((f.1.length : Int) - 1).toNat = f.1.length - 1 by omega] at h1
      exact h1
    refine .mk [.fz 3] ?_
    refine ⟨(([0, 4, 4 + v5], pp, 8), k4), [0, 1, 2], ⟨hsp.1, hk4⟩, ?_, ?_⟩
    · simp only; rw [if_pos hinf, if_neg hsp.2]; omega
    · simp only [hpp]; exact (by (exact aL))
  · have hfin : FinC f := by
      have h1 := (by assumption : ¬f.1.getD (((ints f.1).length : Int) - 1).toNat 0 = 4611686018427387904)
      rw [hil, show ((f.1.length : Int) - 1).toNat = f.1.length - 1 by omega] at h1
      exact h1
    refine .mk [] ?_
    (repeat' (conv => whnf); first | (refine aC (fun _ => ?_) (fun _ => ?_) <;> try (exfalso; omega)) | refine aS ?_ | refine aG ?_ | refine aD ?_ | refine aP_Kd ?_ | refine aI ?_ | refine aJ ?_ | fail); all_goals try (conv => whnf)
    have hf0 : 0 < f.1.getD 0 0 := by assumption
    have hb : ∀ j < f.1.length, f.1.getD 0 0 ≤ f.1.getD j 0 ∧ f.1.getD j 0 ≤ 1073741824 := by
      intro j hj
      have h2 := hf.v.noinf hfin j hj
      have h3 := hf.v.mono 0 j (by omega) hj
      rcases hf.v.v j hj with h4 | h4
      · exact absurd h4 h2
      · omega
    generalize hv : f.1.getD 0 0 = v at *
    refine LoopOb.mk (Y := Nat) (st := fun i => ⟨[(45, i64 i), (44, i64 f.1.length), (6, i64 v), (5, .ptr 2 0), (4, .ptr 1 0)], [src L k2, .box [.nil, i64 0, i64 0], .box [.vec 3, i64 f.2.1, i64 f.2.2], .vec 1 (ints (part f.1 v i))]⟩)
      (inv := fun i => i ≤ f.1.length) (fun i => f.1.length - i) 0 [0, 1, 2, 4] (by omega) (by refine Le.mk (by kernel_rfl) ?_ ?_ <;> repeat' (first | exact True.intro | refine And.intro ?_ ?_ | exact Imp.refl _ | exact Imp.num (by omega) | exact Imp.num (by simp) | exact rfl | (simp only [part_zero, List.nil_append]; exact rfl) | simp [part_zero])) ?_
    intro i hi
    have hpl : (part f.1 v i).length = f.1.length := part_len _ _ _
    have hip := ints_len (part f.1 v i)
    (repeat' (conv => whnf); first | (refine aC (fun _ => ?_) (fun _ => ?_) <;> try (exfalso; omega)) | refine aS ?_ | refine aG ?_ | refine aD ?_ | refine aP_Kd ?_ | refine aI ?_ | refine aJ ?_ | fail); all_goals try (conv => whnf)
    · refine ⟨i, rfl, by omega, ?_⟩
      (repeat' (conv => whnf); first | (refine aC (fun _ => ?_) (fun _ => ?_) <;> try (exfalso; omega)) | refine aS ?_ | refine aG ?_ | refine aD ?_ | refine aP_Kd ?_ | refine aI ?_ | refine aJ ?_ | fail); all_goals try (conv => whnf)
      refine ⟨_, ints_get (by omega), ?_⟩
      rw [part_get (by omega)]
      have hbi := hb i (by omega)
      (repeat' (conv => whnf); first | (refine aC (fun _ => ?_) (fun _ => ?_) <;> try (exfalso; omega)) | refine aS ?_ | refine aG ?_ | refine aD ?_ | refine aP_Kd ?_ | refine aI ?_ | refine aJ ?_ | fail); all_goals try (conv => whnf)
      refine ⟨i, rfl, by omega, ?_⟩
      dsimp only
      (repeat' (conv => whnf); first | (refine aC (fun _ => ?_) (fun _ => ?_) <;> try (exfalso; omega)) | refine aS ?_ | refine aG ?_ | refine aD ?_ | refine aP_Kd ?_ | refine aI ?_ | refine aJ ?_ | fail); all_goals try (conv => whnf)
      refine ⟨_, ints_get (by omega), ?_⟩
      (repeat' (conv => whnf); first | refine aS ?_ | refine aG ?_ | refine aD ?_ | refine aP_Kd ?_ | refine aI ?_ | refine aJ ?_ | fail); all_goals try (conv => whnf)
      rw [ints_part_set (by omega)]
      (repeat' (conv => whnf); first | (refine aC (fun _ => ?_) (fun _ => ?_) <;> try (exfalso; omega)) | refine aS ?_ | refine aG ?_ | refine aD ?_ | refine aP_Kd ?_ | refine aI ?_ | refine aJ ?_ | fail); all_goals try (conv => whnf)
      refine .mk [] ?_
      refine ⟨i + 1, [0, 1, 2, 3], by omega, by omega, ?_⟩
      refine Le.mk (by kernel_rfl) ?_ ?_ <;> repeat' (first | exact True.intro | refine And.intro ?_ ?_ | exact Imp.refl _ | exact Imp.num (by omega) | exact rfl)
    · have hie : i = f.1.length := by omega
      subst hie
      rw [part_all]
      refine .mk [.fz 3] ?_
      exact ⟨(low f v, k2), ⟨curveP_low hf hfin (by omega) hv, hk2⟩, rfl, Imp.refl _⟩
  · have hfin : FinC f := by
      have h1 := (by assumption : ¬f.1.getD (((ints f.1).length : Int) - 1).toNat 0 = 4611686018427387904)
      rw [hil, show ((f.1.length : Int) - 1).toNat = f.1.length - 1 by omega] at h1
      exact h1
    have h0 := hf.v.nonneg 0
    have h1 : val f.1 f.2.1 f.2.2 0 = f.1.getD 0 0 := val_lt (by omega)
    rw [h1] at h0
    have h2 : ¬0 < f.1.getD 0 0 := by assumption
    refine .mk [] ?_
    exact ⟨(f, k2), ⟨curveP_fin hf hfin (Int.le_antisymm (Int.not_lt.1 h2) h0), hk2⟩, rfl, Imp.refl _⟩
end Go.Proofs.Ytifcdempdcolkab
