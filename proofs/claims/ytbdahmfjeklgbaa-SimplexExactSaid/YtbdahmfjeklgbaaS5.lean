/-
  A text of the proofs of this seat: lemmas that the statements' proofs use; it states nothing of the program by itself beyond the contracts that its theorems bear. Conditions: those that stand in each theorem. Its short name: S5.
-/
import Derived.Test.YtbdahmfjeklgbaaS4
set_option linter.unusedVariables false
set_option linter.unusedSimpArgs false
namespace Go.Proofs.Ytbdahmfjeklgbaa
open Go.Sx Go.Fq
set_option maxRecDepth 4000
set_option maxHeartbeats 2000000
/- what duals reads -/
def dnum (m n : Nat) (f : Nat → Nat → Int) (d c : Int) (i : Nat) : Int := c * d - f m (n + m + i)
def DualAt (m n : Nat) (f : Nat → Nat → Int) (d : Int) (by' : Nat → Int) (c s : Int) (i : Nat) (y : F) : Prop := VF y ∧ val y = Rat.divInt (dnum m n f d c i) d * (by' i : Rat) / (s : Rat)
theorem fdiv_ok {a b : F} {x y : Int} (h : fdiv a b = (x, y, 0)) : VF a ∧ VF b ∧ VF (x, y) ∧ val (x, y) = val a / val b := by
  unfold fdiv at h
  split at h
  · rename_i hv
    obtain ⟨hs, e⟩ := fenc_ok h
    exact ⟨hv.1, hv.2.1, by rw [e]; exact vf_enc hs, by rw [e]; exact val_enc⟩
  · simp at h
theorem fnew_ok {a b x y : Int} (hb : b ≠ 0) (h : fnew a b = (x, y, 0)) : VF (x, y) ∧ val (x, y) = Rat.divInt a b := by
  unfold fnew at h
  rw [if_neg hb] at h
  obtain ⟨hs, e⟩ := fenc_ok h
  exact ⟨by rw [e]; exact vf_enc hs, by rw [e]; exact val_enc⟩
theorem r3 {a : R} (h : a.2.2 = 0) : a = (a.1, a.2.1, 0) := by rw [← h]
theorem val_int (a : Int) : val (a, 1) = (a : Rat) := by exact Rat.num_divInt_den (a : Rat)
theorem dual_step {m n : Nat} {f : Nat → Nat → Int} {d : Int} {by' : Nat → Int} {c s : Int} {i : Nat} {l : List F} (hl : l.length = i) (h : ∀ j < i, DualAt m n f d by' c s j (l.getD j (0, 1))) (hd : d ≠ 0)
    (h1 : (fnew (c * d - f m (n + m + i)) d).2.2 = 0) (h2 : (fmul ((fnew (c * d - f m (n + m + i)) d).1, (fnew (c * d - f m (n + m + i)) d).2.1) (by' i, 1)).2.2 = 0)
    (h3 : (fdiv ((fmul ((fnew (c * d - f m (n + m + i)) d).1, (fnew (c * d - f m (n + m + i)) d).2.1) (by' i, 1)).1, (fmul ((fnew (c * d - f m (n + m + i)) d).1, (fnew (c * d - f m (n + m + i)) d).2.1) (by' i, 1)).2.1) (s, 1)).2.2 = 0) :
    ∀ j < i + 1, DualAt m n f d by' c s j ((l ++ [((fdiv ((fmul ((fnew (c * d - f m (n + m + i)) d).1, (fnew (c * d - f m (n + m + i)) d).2.1) (by' i, 1)).1, (fmul ((fnew (c * d - f m (n + m + i)) d).1, (fnew (c * d - f m (n + m + i)) d).2.1) (by' i, 1)).2.1) (s, 1)).1, (fdiv ((fmul ((fnew (c * d - f m (n + m + i)) d).1, (fnew (c * d - f m (n + m + i)) d).2.1) (by' i, 1)).1, (fmul ((fnew (c * d - f m (n + m + i)) d).1, (fnew (c * d - f m (n + m + i)) d).2.1) (by' i, 1)).2.1) (s, 1)).2.1)]).getD j (0, 1)) := by
  have k1 := fnew_ok hd (r3 h1)
  have k2 := fmul_ok (r3 h2)
  have k3 := fdiv_ok (r3 h3)
  generalize fdiv _ _ = Z at *
  generalize fmul _ _ = Y at *
  generalize fnew _ _ = X at *
  intro j hj
  by_cases e : j = i
  · subst e
    have : (l ++ [(Z.1, Z.2.1)]).getD j (0, 1) = (Z.1, Z.2.1) := by
      rw [List.getD_eq_getElem?_getD, List.getElem?_append_right (by omega), hl]; simp
    rw [this]
    exact ⟨k3.2.2.1, by rw [k3.2.2.2, k2.2.2.2, k1.2, val_int, val_int]; rfl⟩
  · have : (l ++ [(Z.1, Z.2.1)]).getD j (0, 1) = l.getD j (0, 1) := by
      rw [List.getD_eq_getElem?_getD, List.getElem?_append_left (by omega), List.getD_eq_getElem?_getD]
    rw [this]; exact h j (by omega)
theorem aP_S5 {A B K : Prop} (k : K) (a : A := by (simp only [zA, zT, zD, zC, zN, ints_len, zR, fr_len, rw_len]; omega)) (b : B := by (simp only [zA, zT, zD, zC, zN, ints_len, zR, fr_len, rw_len]; omega)) : (A ∧ B) ∧ K := ⟨⟨a, b⟩, k⟩
theorem duals_ok (m n w : Nat) (hm : m ≤ 30) (hw : n + m + m < w) (hw2 : w ≤ 100) (t : TS) (ht : Tok m w t) (by' : Nat → Int) (hby : ∀ i < m, -2147483648 < by' i ∧ by' i < 2147483648) (c s : Int) (hc : 0 ≤ c ∧ c ≤ 1) (hs : 1 ≤ s ∧ s < 2147483648) (bad : Prop) :
    Ctr Try.prog 47 [.ptr 0 0, i64 n, i64 m, .psl 1 (vcs m by'), i64 c, i64 s] (tbl (m + 1) m w t.1 t.2.1 t.2.2 bad)
      (fun r o => ∃ x : Prop × List F, (x.2.length = m ∧ (¬x.1 → ¬bad ∧ ∀ i < m, DualAt m n t.1 t.2.2 by' c s i (x.2.getD i (0, 1)))) ∧ o = tbl (m + 1) m w t.1 t.2.1 t.2.2 x.1 ∧ r = fsl x.2) := by
  refine Ctr.impO ?_
  refine fn_intro (E := env 3) tys_ok rfl rfl rfl Try.func47 (by kernel_rfl) rfl (by kernel_rfl) ?_
  obtain ⟨f, bs, d⟩ := t
  obtain ⟨hbd, hd, hbs⟩ := ht
  dsimp only at hbd hd hbs ⊢
  have hml := mts_len (m + 1) w f
  (repeat' (conv => whnf); first | refine aC (fun _ => ?_) (fun _ => ?_) | refine aS ?_ | refine aG ?_ | refine aD ?_ | refine aH ?_ | refine aP_S5 ?_ | refine aI ?_ | refine aJ ?_ | fail); all_goals try (conv => whnf)
  refine LoopOb.mk (Y := Nat × Prop × List F) (st := fun y => ⟨[(14, i64 y.1), (13, .vec 3), (0, .ptr 0 0), (1, i64 n), (2, i64 m), (3, .psl 1 (vcs m by')), (4, i64 c), (5, i64 s)], [.box [.vec 1, .vec 2, i64 d, .bp y.2.1], .mat 1 (mts (m + 1) w f), .vec 1 (vcs m bs), .vec 2 (fr2 y.2.2)]⟩)
    (inv := fun y => y.1 ≤ m ∧ y.2.2.length = y.1 ∧ (¬y.2.1 → ¬bad ∧ ∀ j < y.1, DualAt m n f d by' c s j (y.2.2.getD j (0, 1)))) (fun y => m - y.1) (0, bad, []) [0, 1, 2, 4] ⟨by simp, rfl, fun h => ⟨h, fun j hj => absurd hj (by simp)⟩⟩ (by (exact aL)) ?_
  rintro ⟨i, q, l⟩ ⟨hi, hl, hq⟩
  dsimp only at hi hl hq ⊢
  have hll := fr_len l
  (repeat' (conv => whnf); first | refine aS ?_ | refine aG ?_ | refine aD ?_ | refine aH ?_ | refine aP_S5 ?_ | refine aI ?_ | refine aJ ?_ | refine ⟨_, rfl, (by simp only [mts_len, vcs_len]; omega), ?_⟩ | refine And.intro (by simp only [mts_len, vcs_len]; omega) ?_ | refine ⟨_, _, rfl, mts_get (by omega), (by simp only [vcs_len]; omega), ?_⟩ | refine ⟨_, _, mts_get (by omega), vcs_get (by omega), ?_⟩ | refine ⟨_, mts_get (by omega), ?_⟩ | refine ⟨_, vcs_get (by omega), ?_⟩ | refine ArOb.fits (by simp only [vcs_len, mts_len]; omega) ?_ | refine ⟨n + m + i, _, (by omega), mts_get (by omega), (by simp only [vcs_len]; omega), ?_⟩ | refine ⟨_, _, rfl, vcs_get (by omega), ?_⟩ | fail); all_goals try (conv => whnf)
  refine CondOb.mk (fun hlt => ?_) (fun hlt => ?_)
  · have hcd : 0 ≤ c * d ∧ c * d ≤ d := by
      rcases (show c = 0 ∨ c = 1 by omega) with h | h <;> subst h <;> omega
    have hlt : i < m := by omega
    have b1 := hbd m (by omega) (n + m + i) (by omega)
    have cF := fun q => fraction_ok (m + 1) m w f bs d q (c * d - f m (n + m + i)) d (by omega) (by omega)
    have hD : ∀ q1 : Prop, (¬q1 → ¬q ∧ (fnew (c * d - f m (n + m + i)) d).2.2 = 0) → (fmul ((fnew (c * d - f m (n + m + i)) d).1, (fnew (c * d - f m (n + m + i)) d).2.1) (by' i, 1)).2.2 = 0 → ¬(fdiv ((fmul ((fnew (c * d - f m (n + m + i)) d).1, (fnew (c * d - f m (n + m + i)) d).2.1) (by' i, 1)).1, (fmul ((fnew (c * d - f m (n + m + i)) d).1, (fnew (c * d - f m (n + m + i)) d).2.1) (by' i, 1)).2.1) (s, 1)).2.2 ≠ 0 → ¬q1 →
        ¬bad ∧ ∀ j < i + 1, DualAt m n f d by' c s j ((l ++ [((fdiv ((fmul ((fnew (c * d - f m (n + m + i)) d).1, (fnew (c * d - f m (n + m + i)) d).2.1) (by' i, 1)).1, (fmul ((fnew (c * d - f m (n + m + i)) d).1, (fnew (c * d - f m (n + m + i)) d).2.1) (by' i, 1)).2.1) (s, 1)).1, (fdiv ((fmul ((fnew (c * d - f m (n + m + i)) d).1, (fnew (c * d - f m (n + m + i)) d).2.1) (by' i, 1)).1, (fmul ((fnew (c * d - f m (n + m + i)) d).1, (fnew (c * d - f m (n + m + i)) d).2.1) (by' i, 1)).2.1) (s, 1)).2.1)]).getD j (0, 1)) :=
      fun q1 h1 h2 h3 h4 => ⟨(hq (h1 h4).1).1, dual_step hl (hq (h1 h4).1).2 (by omega) (h1 h4).2 h2 (Classical.not_not.1 h3)⟩
    generalize fnew (c * d - f m (n + m + i)) d = X at *
    have cM := rMul_ok X.1 X.2.1 (by' i) 1
    generalize fmul (X.1, X.2.1) (by' i, 1) = Y at *
    have cD := rDiv_ok Y.1 Y.2.1 s 1
    generalize fdiv (Y.1, Y.2.1) (s, 1) = Z at *
    (repeat' (conv => whnf); first | refine aC (fun _ => ?_) (fun _ => ?_) | refine aS ?_ | refine aG ?_ | refine aD ?_ | refine aH ?_ | refine aP_S5 ?_ | refine aI ?_ | refine aJ ?_ | refine aW (.qs [0, 1, 2, 3, 4, 5, 6, 7, 8, 9, 10, 11, 12, 13, 14, 15, 16, 17, 18, 19, 20, 21, 22, 23, 24, 25] (.l 26 [] (.l 27 [] (.l 28 [] .nil .no) .no) (.l 27 [25, 20, 13, 10, 5] (.l 26 [] (.l 28 [] .nil .no) .no) .no))) ?_ | refine aW (.qs [0, 1, 2, 3, 4, 5] (.l 6 [] (.qs [7, 8, 9] (.l 10 [] (.l 11 [] (.qs [12] .nil) .no) .no)) (.l 10 [4, 0] (.l 6 [] (.qs [7, 8, 9] (.l 11 [] (.qs [12] .nil) .no)) .no) .no))) ?_ | refine ⟨_, rfl, (by simp only [mts_len, vcs_len]; omega), ?_⟩ | refine And.intro (by simp only [mts_len, vcs_len]; omega) ?_ | refine ⟨_, _, rfl, mts_get (by omega), (by simp only [vcs_len]; omega), ?_⟩ | refine ⟨_, _, mts_get (by omega), vcs_get (by omega), ?_⟩ | refine ⟨_, mts_get (by omega), ?_⟩ | refine ⟨_, vcs_get (by omega), ?_⟩ | refine ArOb.fits (by simp only [vcs_len, mts_len]; omega) ?_ | refine ⟨n + m + i, _, (by omega), mts_get (by omega), (by simp only [vcs_len]; omega), ?_⟩ | refine ⟨_, _, rfl, vcs_get (by omega), ?_⟩ | (refine CallOb.mk [0, 1, 2] (cF q) rfl (ImpL.refl _) rfl rfl ?_; rintro _ _ ⟨q1, hq1, rfl, rfl⟩) | (refine aK [] cM ?_) | (refine aK [] cD ?_) | refine And.intro ?_ ?_ | fail); all_goals try (conv => whnf)
    · exact ⟨(i + 1, True, l ++ [(Z.1, Z.2.1)]), [0, 1, 2, 8], ⟨by simp only; omega, by simp [hl], fun h => (h trivial).elim⟩, by simp only; omega, by dsimp only; rw [fr2_append]; (exact aL)⟩
    · exact ⟨(i + 1, True, l ++ [(Z.1, Z.2.1)]), [0, 1, 2, 8], ⟨by simp only; omega, by simp [hl], fun h => (h trivial).elim⟩, by simp only; omega, by dsimp only; rw [fr2_append]; (exact aL)⟩
    · exact ⟨(i + 1, Z.2.2 ≠ 0, l ++ [(Z.1, Z.2.1)]), [0, 1, 2, 8], ⟨by simp only; omega, by simp [hl], fun h => hD q1 hq1 (Classical.not_not.1 (by assumption)) h (by assumption)⟩, by simp only; omega, by dsimp only; rw [fr2_append]; (exact aL)⟩
    · exact ⟨(i + 1, True, l ++ [(Z.1, Z.2.1)]), [0, 1, 2, 8], ⟨by simp only; omega, by simp [hl], fun h => (h trivial).elim⟩, by simp only; omega, by dsimp only; rw [fr2_append]; (exact aL)⟩
    · exact ⟨(i + 1, True, l ++ [(Z.1, Z.2.1)]), [0, 1, 2, 8], ⟨by simp only; omega, by simp [hl], fun h => (h trivial).elim⟩, by simp only; omega, by dsimp only; rw [fr2_append]; (exact aL)⟩
    · exact ⟨(i + 1, Z.2.2 ≠ 0, l ++ [(Z.1, Z.2.1)]), [0, 1, 2, 8], ⟨by simp only; omega, by simp [hl], fun h => hD q1 hq1 (Classical.not_not.1 (by assumption)) h (by assumption)⟩, by simp only; omega, by dsimp only; rw [fr2_append]; (exact aL)⟩
    · exact ⟨(i + 1, True, l ++ [(Z.1, Z.2.1)]), [0, 1, 2, 8], ⟨by simp only; omega, by simp [hl], fun h => (h trivial).elim⟩, by simp only; omega, by dsimp only; rw [fr2_append]; (exact aL)⟩
    · exact ⟨(i + 1, True, l ++ [(Z.1, Z.2.1)]), [0, 1, 2, 8], ⟨by simp only; omega, by simp [hl], fun h => (h trivial).elim⟩, by simp only; omega, by dsimp only; rw [fr2_append]; (exact aL)⟩
    · exact ⟨(i + 1, Z.2.2 ≠ 0, l ++ [(Z.1, Z.2.1)]), [0, 1, 2, 8], ⟨by simp only; omega, by simp [hl], fun h => hD q1 hq1 (Classical.not_not.1 (by assumption)) h (by assumption)⟩, by simp only; omega, by dsimp only; rw [fr2_append]; (exact aL)⟩
    · exact ⟨(i + 1, True, l ++ [(Z.1, Z.2.1)]), [0, 1, 2, 8], ⟨by simp only; omega, by simp [hl], fun h => (h trivial).elim⟩, by simp only; omega, by dsimp only; rw [fr2_append]; (exact aL)⟩
    · exact ⟨(i + 1, True, l ++ [(Z.1, Z.2.1)]), [0, 1, 2, 8], ⟨by simp only; omega, by simp [hl], fun h => (h trivial).elim⟩, by simp only; omega, by dsimp only; rw [fr2_append]; (exact aL)⟩
    · exact ⟨(i + 1, Z.2.2 ≠ 0, l ++ [(Z.1, Z.2.1)]), [0, 1, 2, 8], ⟨by simp only; omega, by simp [hl], fun h => hD q1 hq1 (Classical.not_not.1 (by assumption)) h (by assumption)⟩, by simp only; omega, by dsimp only; rw [fr2_append]; (exact aL)⟩
  · (repeat' (conv => whnf); first | refine aC (fun _ => ?_) (fun _ => ?_) | refine aS ?_ | refine aG ?_ | refine aD ?_ | refine aP_S5 ?_ | refine aI ?_ | refine aJ ?_ | refine ⟨_, rfl, (by simp only [mts_len, vcs_len]; omega), ?_⟩ | refine And.intro (by simp only [mts_len, vcs_len]; omega) ?_ | refine ⟨_, _, rfl, mts_get (by omega), (by simp only [vcs_len]; omega), ?_⟩ | refine ⟨_, _, mts_get (by omega), vcs_get (by omega), ?_⟩ | refine ⟨_, mts_get (by omega), ?_⟩ | refine ⟨_, vcs_get (by omega), ?_⟩ | refine ArOb.fits (by simp only [vcs_len, mts_len]; omega) ?_ | refine ⟨n + m + i, _, (by omega), mts_get (by omega), (by simp only [vcs_len]; omega), ?_⟩ | refine ⟨_, _, rfl, vcs_get (by omega), ?_⟩ | fail); all_goals try (conv => whnf)
    refine .mk [.fz 3] ?_
    (repeat' (conv => whnf); first | refine aC (fun _ => ?_) (fun _ => ?_) | refine aS ?_ | refine aG ?_ | refine aD ?_ | refine aH ?_ | refine aP_S5 ?_ | refine aI ?_ | refine aJ ?_ | refine ⟨_, rfl, (by simp only [mts_len, vcs_len]; omega), ?_⟩ | refine And.intro (by simp only [mts_len, vcs_len]; omega) ?_ | refine ⟨_, _, rfl, mts_get (by omega), (by simp only [vcs_len]; omega), ?_⟩ | refine ⟨_, _, mts_get (by omega), vcs_get (by omega), ?_⟩ | refine ⟨_, mts_get (by omega), ?_⟩ | refine ⟨_, vcs_get (by omega), ?_⟩ | refine ArOb.fits (by simp only [vcs_len, mts_len]; omega) ?_ | refine ⟨n + m + i, _, (by omega), mts_get (by omega), (by simp only [vcs_len]; omega), ?_⟩ | refine ⟨_, _, rfl, vcs_get (by omega), ?_⟩ | fail); all_goals try (conv => whnf)
    have hi : i = m := by omega
    subst hi
    exact ⟨(q, l), ⟨hl, hq⟩, OI.refl _, Imp.refl _⟩
end Go.Proofs.Ytbdahmfjeklgbaa
