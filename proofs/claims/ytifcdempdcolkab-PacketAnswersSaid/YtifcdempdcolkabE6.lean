/-
  A text of the proofs of this seat: lemmas that the statements' proofs use; it states nothing of the program by itself beyond the contracts that its theorems bear. Conditions: those that stand in each theorem. Its short name: E6.
-/
import Derived.Test.YtifcdempdcolkabE5
import Derived.Test.YtifcdempdcolkabVa
set_option linter.unusedVariables false
set_option linter.unusedSimpArgs false
namespace Go.Proofs.Ytifcdempdcolkab
open Go.Sx Go.Cv
set_option maxRecDepth 4000
set_option maxHeartbeats 2000000
/- what a flow keeps behind a server, for any curves and number -/
def OutG (vs : List Int) (p q : Int) (ws : List Int) (p' q' m : Int) (x : List Int × Int × Int × Int) : Prop :=
  (¬ValidP vs p q ∧ x = ([], 0, 0, 1)) ∨ (ValidP vs p q ∧ ∃ h : List Int × Int × Int × Int, HopG ws p' q' m h ∧ ((h.2.2.2 ≠ 0 ∧ x = ([], 0, 0, h.2.2.2)) ∨ (h.2.2.2 = 0 ∧ DecP vs p q h.1 h.2.1 h.2.2.1 x)))
theorem hop_len {vs : List Int} {p q m : Int} {x : List Int × Int × Int × Int} (h : HopG vs p q m x) : x.1.length ≤ 400 := by
  rcases h with ⟨_, rfl⟩ | ⟨_, _, rfl⟩ | ⟨_, _, _, _, h⟩
  · simp
  · simp
  · rcases h with ⟨vs, p, q, _, h, rfl⟩ | ⟨_, rfl⟩
    · exact h.n2
    · simp
theorem aP_E6 {A B K : Prop} (k : K) (a : A := by (simp only [zA, zT, zD, zC, zN, ints_len, zR, Go.Cv.vals_len]; omega)) (b : B := by (simp only [zA, zT, zD, zC, zN, ints_len, zR, Go.Cv.vals_len]; omega)) : (A ∧ B) ∧ K := ⟨⟨a, b⟩, k⟩
theorem OutP_ok (vs : List Int) (p q : Int) (ws : List Int) (p' q' m : Int) (hv : vs.length ≤ 140737488355328) (hw : ws.length ≤ 140737488355328) :
    Ctr Try.prog 16 [crv vs p q, crv ws p' q', i64 m] [] (fun r o => ∃ x, OutG vs p q ws p' q' m x ∧ o = [] ∧ r = crvE x) := by
  refine Ctr.impE ?_
  refine fn_intro (E := env 0) tys_ok rfl rfl rfl Try.func16 (by kernel_rfl) rfl (by kernel_rfl) ?_
  have cV := CValid_ok vs p q hv
  (repeat' (conv => whnf); first | (refine aC (fun _ => ?_) (fun _ => ?_) <;> try (exfalso; omega)) | refine aS ?_ | refine aG ?_ | refine aD ?_ | refine aH ?_ | refine aP_E6 ?_ | refine aI ?_ | refine aJ ?_ | (refine aK [] cV ?_) | fail); all_goals try (conv => whnf)
  · have h : ¬ValidP vs p q := by assumption
    exact ⟨([], 0, 0, 1), .inl ⟨h, rfl⟩, rfl, Imp.tup ⟨imp_zero, Imp.refl _, trivial⟩⟩
  have hv1 : ValidP vs p q := Classical.not_not.1 (by assumption)
  refine CallOb.mk [] (HopGP_ok ws p' q' m hw) rfl (ImpL.refl _) rfl rfl ?_
  rintro _ _ ⟨⟨h1, h2, h3, e⟩, hh, rfl, rfl⟩
  have hl := hop_len hh
  dsimp only at hl ⊢
  (repeat' (conv => whnf); first | (refine aC (fun _ => ?_) (fun _ => ?_) <;> try (exfalso; omega)) | refine aS ?_ | refine aG ?_ | refine aD ?_ | refine aH ?_ | refine aP_E6 ?_ | refine aI ?_ | refine aJ ?_ | fail); all_goals try (conv => whnf)
  · exact ⟨([], 0, 0, e), .inr ⟨hv1, _, hh, .inl ⟨by assumption, rfl⟩⟩, rfl, Imp.tup ⟨imp_zero, Imp.refl _, trivial⟩⟩
  refine CallOb.mk [] (Dof_ok vs p q h1 h2 h3 hv (by omega)) rfl (ImpL.refl _) rfl rfl ?_
  rintro _ _ ⟨⟨x1, x2, x3, x4⟩, hx, rfl, rfl⟩
  (repeat' (conv => whnf); first | (refine aC (fun _ => ?_) (fun _ => ?_) <;> try (exfalso; omega)) | refine aS ?_ | refine aG ?_ | refine aD ?_ | refine aH ?_ | refine aP_E6 ?_ | refine aI ?_ | refine aJ ?_ | fail); all_goals try (conv => whnf)
  exact ⟨(x1, x2, x3, x4), .inr ⟨hv1, _, hh, .inr ⟨Classical.not_not.1 (by assumption), hx⟩⟩, rfl, Imp.refl _⟩
theorem rOut_ok (vs : List Int) (p q : Int) (ws : List Int) (p' q' m : Int) :
    Ctr Try.prog 17 [crv vs p q, crv ws p' q', i64 m] [] (fun r o => ∃ x, OutG vs p q ws p' q' m x ∧ o = [] ∧ r = crvE x) := by
  refine Ctr.impE ?_
  refine fn_intro (E := env 0) tys_ok rfl rfl rfl Try.func17 (by kernel_rfl) rfl (by kernel_rfl) ?_
  have cV := Valid_ok vs p q
  (repeat' (conv => whnf); first | (refine aC (fun _ => ?_) (fun _ => ?_) <;> try (exfalso; omega)) | refine aS ?_ | refine aG ?_ | refine aD ?_ | refine aH ?_ | refine aP_E6 ?_ | refine aI ?_ | refine aJ ?_ | (refine aK [] cV ?_) | fail); all_goals try (conv => whnf)
  · have h : ¬ValidP vs p q := by assumption
    exact ⟨([], 0, 0, 1), .inl ⟨h, rfl⟩, rfl, Imp.tup ⟨imp_zero, Imp.refl _, trivial⟩⟩
  have hv1 : ValidP vs p q := Classical.not_not.1 (by assumption)
  refine CallOb.mk [] (rHopG_ok ws p' q' m) rfl (ImpL.refl _) rfl rfl ?_
  rintro _ _ ⟨⟨h1, h2, h3, e⟩, hh, rfl, rfl⟩
  dsimp only
  (repeat' (conv => whnf); first | (refine aC (fun _ => ?_) (fun _ => ?_) <;> try (exfalso; omega)) | refine aS ?_ | refine aG ?_ | refine aD ?_ | refine aH ?_ | refine aP_E6 ?_ | refine aI ?_ | refine aJ ?_ | fail); all_goals try (conv => whnf)
  · exact ⟨([], 0, 0, e), .inr ⟨hv1, _, hh, .inl ⟨by assumption, rfl⟩⟩, rfl, Imp.tup ⟨imp_zero, Imp.refl _, trivial⟩⟩
  refine CallOb.mk [] (rDof_ok vs p q h1 h2 h3) rfl (ImpL.refl _) rfl rfl ?_
  rintro _ _ ⟨⟨x1, x2, x3, x4⟩, hx, rfl, rfl⟩
  (repeat' (conv => whnf); first | (refine aC (fun _ => ?_) (fun _ => ?_) <;> try (exfalso; omega)) | refine aS ?_ | refine aG ?_ | refine aD ?_ | refine aH ?_ | refine aP_E6 ?_ | refine aI ?_ | refine aJ ?_ | fail); all_goals try (conv => whnf)
  exact ⟨(x1, x2, x3, x4), .inr ⟨hv1, _, hh, .inr ⟨Classical.not_not.1 (by assumption), hx⟩⟩, rfl, Imp.refl _⟩
/-! uniqueness -/
theorem prepD_uniq {vs p q ws p' q'} {a b a' b' : C3} (h : Prep vs p q ws p' q' a b) (k : Prep vs p q ws p' q' a' b') : a = a' ∧ b = b' := by
  obtain ⟨⟨p0, e0, _, h1⟩, ⟨p1, e1, _, h2⟩, _, _⟩ := h
  obtain ⟨⟨p0', e0', _, k1⟩, ⟨p1', e1', _, k2⟩, _, _⟩ := k
  have : p0 = p0' := by omega
  subst this
  have : p1 = p1' := by omega
  subst this
  obtain ⟨a1, a2, a3⟩ := h1.uniq k1
  obtain ⟨b1, b2, b3⟩ := h2.uniq k2
  obtain ⟨x1, x2, x3⟩ := a
  obtain ⟨y1, y2, y3⟩ := a'
  obtain ⟨z1, z2, z3⟩ := b
  obtain ⟨w1, w2, w3⟩ := b'
  dsimp only at a1 a2 a3 b1 b2 b3
  subst a1 a2 a3 b1 b2 b3
  exact ⟨rfl, rfl⟩
theorem prep_valid {vs p q ws p' q'} {a b : C3} (h : Prep vs p q ws p' q' a b) : ValidP vs p q ∧ ValidP ws p' q' := by
  obtain ⟨⟨p0, e0, h0, _⟩, ⟨p1, e1, h1, _⟩, _, _⟩ := h
  exact ⟨e0 ▸ h0.valid, e1 ▸ h1.valid⟩
theorem DPrepE.uniq {vs p q ws p' q' e e'} (h : DPrepE vs p q ws p' q' e) (k : DPrepE vs p q ws p' q' e') : e = e' := by
  rcases h with ⟨h, h1⟩ | ⟨a, b, hP, h⟩ <;> rcases k with ⟨k, k1⟩ | ⟨a', b', kP, k⟩
  · omega
  · have := prep_valid kP
    rcases h1 with h1 | h1
    · exact absurd this.1 h1
    · exact absurd this.2 h1
  · have := prep_valid hP
    rcases k1 with h1 | h1
    · exact absurd this.1 h1
    · exact absurd this.2 h1
  · obtain ⟨rfl, rfl⟩ := prepD_uniq hP kP
    rcases h with ⟨h, h1⟩ | ⟨h, h1, _⟩ <;> rcases k with ⟨k, k1⟩ | ⟨k, k1, _⟩
    · omega
    · exact absurd k1 h1
    · exact absurd h1 k1
    · omega
theorem DPrepE.no {vs p q ws p' q' e} {a b : C3} (h : DPrepE vs p q ws p' q' e) (k : Prep vs p q ws p' q' a b) (h0 : cv b 0 = 0) (hc : com a b ≤ 120) : False := by
  rcases h with ⟨h, h1⟩ | ⟨a', b', hP, h⟩
  · have := prep_valid k
    rcases h1 with h1 | h1
    · exact absurd this.1 h1
    · exact absurd this.2 h1
  · obtain ⟨rfl, rfl⟩ := prepD_uniq hP k
    rcases h with ⟨h, h1⟩ | ⟨h, h1, h2⟩
    · exact h1 h0
    · omega
theorem DecP.uniq {vs p q ws p' q' x y} (h : DecP vs p q ws p' q' x) (k : DecP vs p q ws p' q' y) : x = y := by
  rcases h with ⟨e, h1, rfl⟩ | ⟨a, b, h1, h2, h3, h4⟩ <;> rcases k with ⟨e', k1, rfl⟩ | ⟨a', b', k1, k2, k3, k4⟩
  · rw [h1.uniq k1]
  · exact absurd (h1.no k1 k2 k3) id
  · exact absurd (k1.no h1 h2 h3) id
  · obtain ⟨rfl, rfl⟩ := prepD_uniq h1 k1
    exact h4.uniq k4
theorem OutG.uniq {vs p q ws p' q' m x y} (h : OutG vs p q ws p' q' m x) (k : OutG vs p q ws p' q' m y) : x = y := by
  rcases h with ⟨h1, rfl⟩ | ⟨h1, g, h2, h3⟩ <;> rcases k with ⟨k1, rfl⟩ | ⟨k1, g', k2, k3⟩
  · rfl
  · exact absurd k1 h1
  · exact absurd h1 k1
  · have := h2.uniq k2
    subst this
    rcases h3 with ⟨h3, rfl⟩ | ⟨h3, h4⟩ <;> rcases k3 with ⟨k3, rfl⟩ | ⟨k3, k4⟩
    · rfl
    · exact absurd k3 h3
    · exact absurd h3 k3
    · exact h4.uniq k4
end Go.Proofs.Ytifcdempdcolkab
