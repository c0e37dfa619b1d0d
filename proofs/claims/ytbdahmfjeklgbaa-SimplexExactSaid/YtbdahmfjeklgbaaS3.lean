/-
  A text of the proofs of this seat: lemmas that the statements' proofs use; it states nothing of the program by itself beyond the contracts that its theorems bear. Conditions: those that stand in each theorem. Its short name: S3.
-/
import Derived.Test.YtbdahmfjeklgbaaS2
set_option linter.unusedVariables false
set_option linter.unusedSimpArgs false
namespace Go.Proofs.Ytbdahmfjeklgbaa
open Go.Sx Go.Fq
set_option maxRecDepth 4000
set_option maxHeartbeats 2000000
/- a table: its entries, its basis, its denominator -/
abbrev TS := (Nat → Nat → Int) × (Nat → Int) × Int
structure Tok (m w : Nat) (s : TS) : Prop where
  bd : InB (m + 1) w s.1
  d : 1 ≤ s.2.2 ∧ s.2.2 < 2147483648
  bs : ∀ i < m, 0 ≤ s.2.1 i ∧ s.2.1 i < w
def Piv (m w : Nat) (s : TS) (r c : Nat) (s' : TS) : Prop := Pvd m w s.1 s.2.1 s.2.2 r c s'.1 s'.2.1 s'.2.2
theorem Piv.tok {m w : Nat} {s s' : TS} {r c : Nat} (h : Tok m w s) (p : Piv m w s r c s') (hr : r < m) (hc : c < w) (hp : s.1 r c ≠ 0) : Tok m w s' := by
  refine ⟨p.bd, ?_, ?_⟩
  · have := h.bd r (by omega) c hc; rw [p.d]; omega
  · intro i hi; rw [p.bs]; unfold up
    split
    · omega
    · exact h.bs i hi
/- a pivot of the simplex method: the cost is negative, the pivot positive, the bounds stay as they should -/
structure Stp (m E C : Nat) (s s' : TS) : Prop where
  ex : ∃ r c, r < m ∧ c < C ∧ s.1 m c < 0 ∧ 0 < s.1 r c ∧ (∀ j < m, 0 < s.1 j c → s.1 r E * s.1 j c ≤ s.1 j E * s.1 r c) ∧ Piv m (E + 1) s r c s'
inductive Run (m E C : Nat) (s : TS) : TS → Prop
  | refl : Run m E C s s
  | step {s' s''} (h : Run m E C s s') (k : Stp m E C s' s'') : Run m E C s s''
/- where the method ends -/
def Ends (m C : Nat) (f : Nat → Nat → Int) (z : Int) : Prop := (z = -1 ∧ ∀ k < C, 0 ≤ f m k) ∨ ∃ c : Nat, z = c ∧ c < C ∧ f m c < 0 ∧ ∀ i < m, f i c ≤ 0
def ColP (m C : Nat) (f : Nat → Nat → Int) (k : Nat) (z : Int) : Prop := (z = -1 ∧ ∀ j, k ≤ j → j < C → 0 ≤ f m j) ∨ ∃ c : Nat, z = c ∧ c < C ∧ f m c < 0
def RowP (m E c : Nat) (f : Nat → Nat → Int) (i : Nat) (z : Int) : Prop := (z = -1 ∧ ∀ j < i, f j c ≤ 0) ∨ ∃ r : Nat, z = r ∧ r < m ∧ 0 < f r c ∧ ∀ j < i, 0 < f j c → f r E * f j c ≤ f j E * f r c
theorem ratio {a b c d e g : Int} (hb : 0 < b) (h1 : a * d ≤ c * b) (h2 : c * g ≤ e * d) (hd : 0 < d) (hg : 0 < g) : a * g ≤ e * b := by
  -- a/b ≤ c/d ≤ e/g
  have h3 : a * g * d ≤ e * b * d := by
    calc a * g * d = a * d * g := by rw [Int.mul_right_comm]
      _ ≤ c * b * g := Int.mul_le_mul_of_nonneg_right h1 (by omega)
      _ = c * g * b := by rw [Int.mul_right_comm]
      _ ≤ e * d * b := Int.mul_le_mul_of_nonneg_right h2 (by omega)
      _ = e * b * d := by rw [Int.mul_right_comm]
  exact Int.le_of_mul_le_mul_right h3 hd
theorem colP_step {m C : Nat} {f : Nat → Nat → Int} {k : Nat} {z : Int} (h : ColP m C f k z) (hk : 1 ≤ k) (hn : ¬f m (k - 1) < 0) : ColP m C f (k - 1) z := by
  rcases h with ⟨e, h⟩ | h
  · refine .inl ⟨e, fun j h1 h2 => ?_⟩
    by_cases hj : j = k - 1
    · subst hj; omega
    · exact h j (by omega) h2
  · exact .inr h
theorem rowP_skip {m E c : Nat} {f : Nat → Nat → Int} {i : Nat} {z : Int} (h : RowP m E c f i z) (hn : f i c ≤ 0) : RowP m E c f (i + 1) z := by
  rcases h with ⟨e, h⟩ | ⟨r, e, hr, hp, h⟩
  · refine .inl ⟨e, fun j h1 => ?_⟩
    by_cases hj : j = i
    · subst hj; exact hn
    · exact h j (by omega)
  · refine .inr ⟨r, e, hr, hp, fun j h1 h2 => ?_⟩
    by_cases hj : j = i
    · subst hj; omega
    · exact h j (by omega) h2
theorem rowP_first {E c : Nat} {f : Nat → Nat → Int} {i : Nat} (h : ∀ j < i, f j c ≤ 0) (hp : 0 < f i c) : ∀ j < i + 1, 0 < f j c → f i E * f j c ≤ f j E * f i c := by
  intro j h1 h2
  by_cases hj : j = i
  · subst hj; exact Int.le_refl _
  · have := h j (by omega); omega
theorem rowP_keep {E c r : Nat} {f : Nat → Nat → Int} {i : Nat} (h : ∀ j < i, 0 < f j c → f r E * f j c ≤ f j E * f r c) (hp : f r E * f i c ≤ f i E * f r c) : ∀ j < i + 1, 0 < f j c → f r E * f j c ≤ f j E * f r c := by
  intro j h1 h2
  by_cases hj : j = i
  · subst hj; exact hp
  · exact h j (by omega) h2
theorem rowP_new {E c r : Nat} {f : Nat → Nat → Int} {i : Nat} (h : ∀ j < i, 0 < f j c → f r E * f j c ≤ f j E * f r c) (hr : 0 < f r c) (hi : 0 < f i c) (hp : f i E * f r c ≤ f r E * f i c) : ∀ j < i + 1, 0 < f j c → f i E * f j c ≤ f j E * f i c := by
  intro j h1 h2
  by_cases hj : j = i
  · subst hj; exact Int.le_refl _
  · exact ratio hi hp (h j (by omega) h2) hr h2
theorem aP_S3 {A B K : Prop} (k : K) (a : A := by (simp only [zA, zT, zD, zC, zN, ints_len, zR, fr_len, rw_len]; omega)) (b : B := by (simp only [zA, zT, zD, zC, zN, ints_len, zR, fr_len, rw_len]; omega)) : (A ∧ B) ∧ K := ⟨⟨a, b⟩, k⟩
theorem run_ok (m E C : Nat) (hm : m ≤ 30) (hw : E + 1 ≤ 100) (hC : C ≤ E) (s : TS) (bad : Prop) (hs : ¬bad → Tok m (E + 1) s) :
    Ctr Try.prog 46 [.ptr 0 0, i64 C] (tbl (m + 1) m (E + 1) s.1 s.2.1 s.2.2 bad) (fun z o => ∃ x : TS × Prop × Int, (¬x.2.1 → ¬bad ∧ Run m E C s x.1 ∧ Tok m (E + 1) x.1 ∧ Ends m C x.1.1 x.2.2) ∧ o = tbl (m + 1) m (E + 1) x.1.1 x.1.2.1 x.1.2.2 x.2.1 ∧ z = i64 x.2.2) := by
  refine Ctr.impO ?_
  refine fn_intro (E := env 3) tys_ok rfl rfl rfl Try.func46 (by kernel_rfl) rfl (by kernel_rfl) ?_
  have hml := mts_len (m + 1) (E + 1) s.1
  (repeat' (conv => whnf); first | refine aC (fun _ => ?_) (fun _ => ?_) | refine aS ?_ | refine aG ?_ | refine aD ?_ | refine aH ?_ | refine aP_S3 ?_ | refine aI ?_ | refine aJ ?_ | refine aW (.qs [0, 1, 2, 3, 4, 5, 6, 7, 8, 9, 10, 11, 12, 13, 14, 15, 16, 17, 18, 19, 20, 21, 22, 23, 24, 25, 26, 27, 28, 29, 30, 31, 32, 33, 34, 35, 36, 37, 38, 39, 40, 41, 42, 43] .nil) ?_ | refine aW (.qs [0, 1, 2, 3, 4, 5, 6, 7, 8, 9, 10, 11, 12, 13, 14, 15, 16, 17, 18, 19, 20, 21, 22] .nil) ?_ | fail); all_goals try (conv => whnf)
  refine LoopOb.mk (Y := Nat × TS × Prop) (st := fun y => ⟨[(6, i64 y.1), (5, i64 m), (0, .ptr 0 0), (1, i64 C)], tbl (m + 1) m (E + 1) y.2.1.1 y.2.1.2.1 y.2.1.2.2 y.2.2⟩)
    (inv := fun y => y.1 ≤ 4000 ∧ (¬y.2.2 → ¬bad ∧ Run m E C s y.2.1 ∧ Tok m (E + 1) y.2.1)) (fun y => 4000 - y.1) (0, s, bad) [0, 1, 2] ⟨by simp, fun h => ⟨h, .refl, hs h⟩⟩ (by rw [hml]; (exact aL)) ?_
  rintro ⟨n, ⟨f, bs, d⟩, q⟩ ⟨hn, hq⟩
  dsimp only at hn hq ⊢
  (repeat' (conv => whnf); first | refine aS ?_ | refine aG ?_ | refine aD ?_ | refine aH ?_ | refine aP_S3 ?_ | refine aI ?_ | refine aJ ?_ | refine aW (.qs [0, 1, 2, 3, 4, 5, 6, 7, 8, 9, 10, 11, 12, 13, 14, 15, 16, 17, 18, 19, 20, 21, 22, 23, 24, 25, 26, 27, 28, 29, 30, 31, 32, 33, 34, 35, 36, 37, 38, 39, 40, 41, 42, 43] .nil) ?_ | refine aW (.qs [0, 1, 2, 3, 4, 5, 6, 7, 8, 9, 10, 11, 12, 13, 14, 15, 16, 17, 18, 19, 20, 21, 22] .nil) ?_ | refine ⟨_, rfl, (by simp only [mts_len, vcs_len]; omega), ?_⟩ | refine And.intro (by simp only [mts_len, vcs_len]; omega) ?_ | refine ⟨_, _, rfl, mts_get (by omega), (by simp only [vcs_len]; omega), ?_⟩ | refine ⟨_, _, mts_get (by omega), vcs_get (by omega), ?_⟩ | refine ⟨_, mts_get (by omega), ?_⟩ | refine ⟨_, vcs_get (by omega), ?_⟩ | refine ArOb.fits (by simp only [vcs_len, mts_len]; omega) ?_ | refine ⟨m, (by omega), (by simp only [mts_len]; omega), ?_⟩ | refine ⟨E, _, (by simp only [vcs_len]; omega), mts_get (by omega), (by simp only [vcs_len]; omega), ?_⟩ | fail); all_goals try (conv => whnf)
  refine CondOb.mk (fun hbad => ?_) (fun hbad => ?_)
  rotate_left
  · (repeat' (conv => whnf); first | refine aC (fun _ => ?_) (fun _ => ?_) | refine aS ?_ | refine aG ?_ | refine aD ?_ | refine aH ?_ | refine aP_S3 ?_ | refine aI ?_ | refine aJ ?_ | refine aW (.qs [0, 1, 2, 3, 4, 5, 6, 7, 8, 9, 10, 11, 12, 13, 14, 15, 16, 17, 18, 19, 20, 21, 22, 23, 24, 25, 26, 27, 28, 29, 30, 31, 32, 33, 34, 35, 36, 37, 38, 39, 40, 41, 42, 43] .nil) ?_ | refine aW (.qs [0, 1, 2, 3, 4, 5, 6, 7, 8, 9, 10, 11, 12, 13, 14, 15, 16, 17, 18, 19, 20, 21, 22] .nil) ?_ | refine ⟨_, rfl, (by simp only [mts_len, vcs_len]; omega), ?_⟩ | refine And.intro (by simp only [mts_len, vcs_len]; omega) ?_ | refine ⟨_, _, rfl, mts_get (by omega), (by simp only [vcs_len]; omega), ?_⟩ | refine ⟨_, _, mts_get (by omega), vcs_get (by omega), ?_⟩ | refine ⟨_, mts_get (by omega), ?_⟩ | refine ⟨_, vcs_get (by omega), ?_⟩ | refine ArOb.fits (by simp only [vcs_len, mts_len]; omega) ?_ | refine ⟨m, (by omega), (by simp only [mts_len]; omega), ?_⟩ | refine ⟨E, _, (by simp only [vcs_len]; omega), mts_get (by omega), (by simp only [vcs_len]; omega), ?_⟩ | fail); all_goals try (conv => whnf)
    exact ⟨((f, bs, d), True, -1), fun h => (h trivial).elim, ⟨⟨Imp.refl _, Imp.refl _, Imp.refl _, Imp.bl (by simp), trivial⟩, rfl, rfl, trivial⟩, Imp.refl _⟩
  obtain ⟨hb0, hrun, htk⟩ := hq hbad
  clear hq
  obtain ⟨hbd, hd, hbs⟩ := htk
  dsimp only at hbd hd hbs
  (repeat' (conv => whnf); first | refine aS ?_ | refine aG ?_ | refine aD ?_ | refine aH ?_ | refine aP_S3 ?_ | refine aI ?_ | refine aJ ?_ | refine aW (.qs [0, 1, 2, 3, 4, 5, 6, 7, 8, 9, 10, 11, 12, 13, 14, 15, 16, 17, 18, 19, 20, 21, 22, 23, 24, 25, 26, 27, 28, 29, 30, 31, 32, 33, 34, 35, 36, 37, 38, 39, 40, 41, 42, 43] .nil) ?_ | refine aW (.qs [0, 1, 2, 3, 4, 5, 6, 7, 8, 9, 10, 11, 12, 13, 14, 15, 16, 17, 18, 19, 20, 21, 22] .nil) ?_ | refine ⟨_, rfl, (by simp only [mts_len, vcs_len]; omega), ?_⟩ | refine And.intro (by simp only [mts_len, vcs_len]; omega) ?_ | refine ⟨_, _, rfl, mts_get (by omega), (by simp only [vcs_len]; omega), ?_⟩ | refine ⟨_, _, mts_get (by omega), vcs_get (by omega), ?_⟩ | refine ⟨_, mts_get (by omega), ?_⟩ | refine ⟨_, vcs_get (by omega), ?_⟩ | refine ArOb.fits (by simp only [vcs_len, mts_len]; omega) ?_ | refine ⟨m, (by omega), (by simp only [mts_len]; omega), ?_⟩ | refine ⟨E, _, (by simp only [vcs_len]; omega), mts_get (by omega), (by simp only [vcs_len]; omega), ?_⟩ | fail); all_goals try (conv => whnf)
  refine CondOb.mk (fun hlt => ?_) (fun hlt => ?_)
  rotate_left
  · (repeat' (conv => whnf); first | refine aC (fun _ => ?_) (fun _ => ?_) | refine aS ?_ | refine aG ?_ | refine aD ?_ | refine aH ?_ | refine aP_S3 ?_ | refine aI ?_ | refine aJ ?_ | refine aW (.qs [0, 1, 2, 3, 4, 5, 6, 7, 8, 9, 10, 11, 12, 13, 14, 15, 16, 17, 18, 19, 20, 21, 22, 23, 24, 25, 26, 27, 28, 29, 30, 31, 32, 33, 34, 35, 36, 37, 38, 39, 40, 41, 42, 43] .nil) ?_ | refine aW (.qs [0, 1, 2, 3, 4, 5, 6, 7, 8, 9, 10, 11, 12, 13, 14, 15, 16, 17, 18, 19, 20, 21, 22] .nil) ?_ | refine ⟨_, rfl, (by simp only [mts_len, vcs_len]; omega), ?_⟩ | refine And.intro (by simp only [mts_len, vcs_len]; omega) ?_ | refine ⟨_, _, rfl, mts_get (by omega), (by simp only [vcs_len]; omega), ?_⟩ | refine ⟨_, _, mts_get (by omega), vcs_get (by omega), ?_⟩ | refine ⟨_, mts_get (by omega), ?_⟩ | refine ⟨_, vcs_get (by omega), ?_⟩ | refine ArOb.fits (by simp only [vcs_len, mts_len]; omega) ?_ | refine ⟨m, (by omega), (by simp only [mts_len]; omega), ?_⟩ | refine ⟨E, _, (by simp only [vcs_len]; omega), mts_get (by omega), (by simp only [vcs_len]; omega), ?_⟩ | fail); all_goals try (conv => whnf)
    exact ⟨((f, bs, d), True, -1), fun h => (h trivial).elim, ⟨⟨Imp.refl _, Imp.refl _, Imp.refl _, Imp.bl (by simp), trivial⟩, rfl, rfl, trivial⟩, Imp.refl _⟩
  (repeat' (conv => whnf); first | refine aS ?_ | refine aG ?_ | refine aD ?_ | refine aH ?_ | refine aP_S3 ?_ | refine aI ?_ | refine aJ ?_ | refine aW (.qs [0, 1, 2, 3, 4, 5, 6, 7, 8, 9, 10, 11, 12, 13, 14, 15, 16, 17, 18, 19, 20, 21, 22, 23, 24, 25, 26, 27, 28, 29, 30, 31, 32, 33, 34, 35, 36, 37, 38, 39, 40, 41, 42, 43] .nil) ?_ | refine aW (.qs [0, 1, 2, 3, 4, 5, 6, 7, 8, 9, 10, 11, 12, 13, 14, 15, 16, 17, 18, 19, 20, 21, 22] .nil) ?_ | refine ⟨_, rfl, (by simp only [mts_len, vcs_len]; omega), ?_⟩ | refine And.intro (by simp only [mts_len, vcs_len]; omega) ?_ | refine ⟨_, _, rfl, mts_get (by omega), (by simp only [vcs_len]; omega), ?_⟩ | refine ⟨_, _, mts_get (by omega), vcs_get (by omega), ?_⟩ | refine ⟨_, mts_get (by omega), ?_⟩ | refine ⟨_, vcs_get (by omega), ?_⟩ | refine ArOb.fits (by simp only [vcs_len, mts_len]; omega) ?_ | refine ⟨m, (by omega), (by simp only [mts_len]; omega), ?_⟩ | refine ⟨E, _, (by simp only [vcs_len]; omega), mts_get (by omega), (by simp only [vcs_len]; omega), ?_⟩ | fail); all_goals try (conv => whnf)
  refine LoopOb.mk (Y := Nat × Int) (st := fun y => ⟨[(8, i64 ((y.1 : Int) - 1)), (7, i64 y.2), (6, i64 n), (5, i64 m), (0, .ptr 0 0), (1, i64 C)], tbl (m + 1) m (E + 1) f bs d q⟩)
    (inv := fun y => y.1 ≤ C ∧ ColP m C f y.1 y.2) (fun y => y.1) (C, -1) [0, 1, 2] ⟨by simp, .inl ⟨rfl, fun j h1 h2 => absurd h2 (by simp only at h1; omega)⟩⟩ (by (exact aL)) ?_
  rintro ⟨k, z⟩ ⟨hk, hz⟩
  dsimp only at hk hz ⊢
  (repeat' (conv => whnf); first | refine aS ?_ | refine aG ?_ | refine aD ?_ | refine aH ?_ | refine aP_S3 ?_ | refine aI ?_ | refine aJ ?_ | refine aW (.qs [0, 1, 2, 3, 4, 5, 6, 7, 8, 9, 10, 11, 12, 13, 14, 15, 16, 17, 18, 19, 20, 21, 22, 23, 24, 25, 26, 27, 28, 29, 30, 31, 32, 33, 34, 35, 36, 37, 38, 39, 40, 41, 42, 43] .nil) ?_ | refine aW (.qs [0, 1, 2, 3, 4, 5, 6, 7, 8, 9, 10, 11, 12, 13, 14, 15, 16, 17, 18, 19, 20, 21, 22] .nil) ?_ | refine ⟨_, rfl, (by simp only [mts_len, vcs_len]; omega), ?_⟩ | refine And.intro (by simp only [mts_len, vcs_len]; omega) ?_ | refine ⟨_, _, rfl, mts_get (by omega), (by simp only [vcs_len]; omega), ?_⟩ | refine ⟨_, _, mts_get (by omega), vcs_get (by omega), ?_⟩ | refine ⟨_, mts_get (by omega), ?_⟩ | refine ⟨_, vcs_get (by omega), ?_⟩ | refine ArOb.fits (by simp only [vcs_len, mts_len]; omega) ?_ | refine ⟨m, (by omega), (by simp only [mts_len]; omega), ?_⟩ | refine ⟨E, _, (by simp only [vcs_len]; omega), mts_get (by omega), (by simp only [vcs_len]; omega), ?_⟩ | fail); all_goals try (conv => whnf)
  refine CondOb.mk (fun hk1 => ?_) (fun hk1 => ?_)
  · (repeat' (conv => whnf); first | refine ⟨k - 1, _, (by omega), mts_get (by omega), (by simp only [vcs_len]; omega), ?_⟩ | refine aC (fun _ => ?_) (fun _ => ?_) | refine aS ?_ | refine aG ?_ | refine aD ?_ | refine aH ?_ | refine aP_S3 ?_ | refine aI ?_ | refine aJ ?_ | refine aW (.qs [0, 1, 2, 3, 4, 5, 6, 7, 8, 9, 10, 11, 12, 13, 14, 15, 16, 17, 18, 19, 20, 21, 22, 23, 24, 25, 26, 27, 28, 29, 30, 31, 32, 33, 34, 35, 36, 37, 38, 39, 40, 41, 42, 43] .nil) ?_ | refine aW (.qs [0, 1, 2, 3, 4, 5, 6, 7, 8, 9, 10, 11, 12, 13, 14, 15, 16, 17, 18, 19, 20, 21, 22] .nil) ?_ | refine ⟨_, rfl, (by simp only [mts_len, vcs_len]; omega), ?_⟩ | refine And.intro (by simp only [mts_len, vcs_len]; omega) ?_ | refine ⟨_, _, rfl, mts_get (by omega), (by simp only [vcs_len]; omega), ?_⟩ | refine ⟨_, _, mts_get (by omega), vcs_get (by omega), ?_⟩ | refine ⟨_, mts_get (by omega), ?_⟩ | refine ⟨_, vcs_get (by omega), ?_⟩ | refine ArOb.fits (by simp only [vcs_len, mts_len]; omega) ?_ | refine ⟨m, (by omega), (by simp only [mts_len]; omega), ?_⟩ | refine ⟨E, _, (by simp only [vcs_len]; omega), mts_get (by omega), (by simp only [vcs_len]; omega), ?_⟩ | fail); all_goals try (conv => whnf)
    · have hneg : f m (k - 1) < 0 := by assumption
      exact ⟨(k - 1, ↑(k - 1)), [0, 1, 2], ⟨by simp only; omega, .inr ⟨k - 1, rfl, by omega, hneg⟩⟩, by simp only; omega, by (exact aL)⟩
    · have hneg : ¬f m (k - 1) < 0 := by assumption
      exact ⟨(k - 1, z), [0, 1, 2], ⟨by simp only; omega, colP_step hz (by omega) hneg⟩, by simp only; omega, by (exact aL)⟩
  have hk0 : k = 0 := by omega
  subst hk0
  clear hk1 hk
  rcases hz with ⟨rfl, hz⟩ | ⟨c, rfl, hc, hneg⟩
  · (repeat' (conv => whnf); first | (refine aC (fun _ => ?_) (fun _ => ?_) <;> try (exfalso; omega)) | refine aS ?_ | refine aG ?_ | refine aD ?_ | refine aH ?_ | refine aP_S3 ?_ | refine aI ?_ | refine aJ ?_ | refine aW (.qs [0, 1, 2, 3, 4, 5, 6, 7, 8, 9, 10, 11, 12, 13, 14, 15, 16, 17, 18, 19, 20, 21, 22, 23, 24, 25, 26, 27, 28, 29, 30, 31, 32, 33, 34, 35, 36, 37, 38, 39, 40, 41, 42, 43] .nil) ?_ | refine aW (.qs [0, 1, 2, 3, 4, 5, 6, 7, 8, 9, 10, 11, 12, 13, 14, 15, 16, 17, 18, 19, 20, 21, 22] .nil) ?_ | refine ⟨_, rfl, (by simp only [mts_len, vcs_len]; omega), ?_⟩ | refine And.intro (by simp only [mts_len, vcs_len]; omega) ?_ | refine ⟨_, _, rfl, mts_get (by omega), (by simp only [vcs_len]; omega), ?_⟩ | refine ⟨_, _, mts_get (by omega), vcs_get (by omega), ?_⟩ | refine ⟨_, mts_get (by omega), ?_⟩ | refine ⟨_, vcs_get (by omega), ?_⟩ | refine ArOb.fits (by simp only [vcs_len, mts_len]; omega) ?_ | refine ⟨m, (by omega), (by simp only [mts_len]; omega), ?_⟩ | refine ⟨E, _, (by simp only [vcs_len]; omega), mts_get (by omega), (by simp only [vcs_len]; omega), ?_⟩ | fail); all_goals try (conv => whnf)
    exact ⟨((f, bs, d), q, -1), fun _ => ⟨hb0, hrun, ⟨hbd, hd, hbs⟩, .inl ⟨rfl, fun k hk => hz k (by omega) hk⟩⟩, OI.refl _, Imp.refl _⟩
  (repeat' (conv => whnf); first | (refine aC (fun _ => ?_) (fun _ => ?_) <;> try (exfalso; omega)) | refine aS ?_ | refine aG ?_ | refine aD ?_ | refine aH ?_ | refine aP_S3 ?_ | refine aI ?_ | refine aJ ?_ | refine aW (.qs [0, 1, 2, 3, 4, 5, 6, 7, 8, 9, 10, 11, 12, 13, 14, 15, 16, 17, 18, 19, 20, 21, 22, 23, 24, 25, 26, 27, 28, 29, 30, 31, 32, 33, 34, 35, 36, 37, 38, 39, 40, 41, 42, 43] .nil) ?_ | refine aW (.qs [0, 1, 2, 3, 4, 5, 6, 7, 8, 9, 10, 11, 12, 13, 14, 15, 16, 17, 18, 19, 20, 21, 22] .nil) ?_ | refine ⟨_, rfl, (by simp only [mts_len, vcs_len]; omega), ?_⟩ | refine And.intro (by simp only [mts_len, vcs_len]; omega) ?_ | refine ⟨_, _, rfl, mts_get (by omega), (by simp only [vcs_len]; omega), ?_⟩ | refine ⟨_, _, mts_get (by omega), vcs_get (by omega), ?_⟩ | refine ⟨_, mts_get (by omega), ?_⟩ | refine ⟨_, vcs_get (by omega), ?_⟩ | refine ArOb.fits (by simp only [vcs_len, mts_len]; omega) ?_ | refine ⟨m, (by omega), (by simp only [mts_len]; omega), ?_⟩ | refine ⟨E, _, (by simp only [vcs_len]; omega), mts_get (by omega), (by simp only [vcs_len]; omega), ?_⟩ | fail); all_goals try (conv => whnf)
  refine LoopOb.mk (Y := Nat × Int) (st := fun y => ⟨[(10, i64 y.1), (9, i64 y.2), (7, i64 c), (6, i64 n), (5, i64 m), (0, .ptr 0 0), (1, i64 C)], tbl (m + 1) m (E + 1) f bs d q⟩)
    (inv := fun y => y.1 ≤ m ∧ RowP m E c f y.1 y.2) (fun y => m - y.1) (0, -1) [0, 1, 2] ⟨by simp, .inl ⟨rfl, fun j h1 => absurd h1 (by simp)⟩⟩ (by (exact aL)) ?_
  rintro ⟨i, z⟩ ⟨hi, hz⟩
  dsimp only at hi hz ⊢
  (repeat' (conv => whnf); first | refine aS ?_ | refine aG ?_ | refine aD ?_ | refine aH ?_ | refine aP_S3 ?_ | refine aI ?_ | refine aJ ?_ | refine aW (.qs [0, 1, 2, 3, 4, 5, 6, 7, 8, 9, 10, 11, 12, 13, 14, 15, 16, 17, 18, 19, 20, 21, 22, 23, 24, 25, 26, 27, 28, 29, 30, 31, 32, 33, 34, 35, 36, 37, 38, 39, 40, 41, 42, 43] .nil) ?_ | refine aW (.qs [0, 1, 2, 3, 4, 5, 6, 7, 8, 9, 10, 11, 12, 13, 14, 15, 16, 17, 18, 19, 20, 21, 22] .nil) ?_ | refine ⟨_, rfl, (by simp only [mts_len, vcs_len]; omega), ?_⟩ | refine And.intro (by simp only [mts_len, vcs_len]; omega) ?_ | refine ⟨_, _, rfl, mts_get (by omega), (by simp only [vcs_len]; omega), ?_⟩ | refine ⟨_, _, mts_get (by omega), vcs_get (by omega), ?_⟩ | refine ⟨_, mts_get (by omega), ?_⟩ | refine ⟨_, vcs_get (by omega), ?_⟩ | refine ArOb.fits (by simp only [vcs_len, mts_len]; omega) ?_ | refine ⟨m, (by omega), (by simp only [mts_len]; omega), ?_⟩ | refine ⟨E, _, (by simp only [vcs_len]; omega), mts_get (by omega), (by simp only [vcs_len]; omega), ?_⟩ | fail); all_goals try (conv => whnf)
  refine CondOb.mk (fun hi1 => ?_) (fun hi1 => ?_)
  · have hi1 : i < m := by omega
    (repeat' (conv => whnf); first | refine aS ?_ | refine aG ?_ | refine aD ?_ | refine aH ?_ | refine aP_S3 ?_ | refine aI ?_ | refine aJ ?_ | refine aW (.qs [0, 1, 2, 3, 4, 5, 6, 7, 8, 9, 10, 11, 12, 13, 14, 15, 16, 17, 18, 19, 20, 21, 22, 23, 24, 25, 26, 27, 28, 29, 30, 31, 32, 33, 34, 35, 36, 37, 38, 39, 40, 41, 42, 43] .nil) ?_ | refine aW (.qs [0, 1, 2, 3, 4, 5, 6, 7, 8, 9, 10, 11, 12, 13, 14, 15, 16, 17, 18, 19, 20, 21, 22] .nil) ?_ | refine ⟨_, rfl, (by simp only [mts_len, vcs_len]; omega), ?_⟩ | refine And.intro (by simp only [mts_len, vcs_len]; omega) ?_ | refine ⟨_, _, rfl, mts_get (by omega), (by simp only [vcs_len]; omega), ?_⟩ | refine ⟨_, _, mts_get (by omega), vcs_get (by omega), ?_⟩ | refine ⟨_, mts_get (by omega), ?_⟩ | refine ⟨_, vcs_get (by omega), ?_⟩ | refine ArOb.fits (by simp only [vcs_len, mts_len]; omega) ?_ | refine ⟨m, (by omega), (by simp only [mts_len]; omega), ?_⟩ | refine ⟨E, _, (by simp only [vcs_len]; omega), mts_get (by omega), (by simp only [vcs_len]; omega), ?_⟩ | fail); all_goals try (conv => whnf)
    refine CondOb.mk (fun hle => ?_) (fun hle => ?_)
    · (repeat' (conv => whnf); first | refine aC (fun _ => ?_) (fun _ => ?_) | refine aS ?_ | refine aG ?_ | refine aD ?_ | refine aH ?_ | refine aP_S3 ?_ | refine aI ?_ | refine aJ ?_ | refine aW (.qs [0, 1, 2, 3, 4, 5, 6, 7, 8, 9, 10, 11, 12, 13, 14, 15, 16, 17, 18, 19, 20, 21, 22, 23, 24, 25, 26, 27, 28, 29, 30, 31, 32, 33, 34, 35, 36, 37, 38, 39, 40, 41, 42, 43] .nil) ?_ | refine aW (.qs [0, 1, 2, 3, 4, 5, 6, 7, 8, 9, 10, 11, 12, 13, 14, 15, 16, 17, 18, 19, 20, 21, 22] .nil) ?_ | refine ⟨_, rfl, (by simp only [mts_len, vcs_len]; omega), ?_⟩ | refine And.intro (by simp only [mts_len, vcs_len]; omega) ?_ | refine ⟨_, _, rfl, mts_get (by omega), (by simp only [vcs_len]; omega), ?_⟩ | refine ⟨_, _, mts_get (by omega), vcs_get (by omega), ?_⟩ | refine ⟨_, mts_get (by omega), ?_⟩ | refine ⟨_, vcs_get (by omega), ?_⟩ | refine ArOb.fits (by simp only [vcs_len, mts_len]; omega) ?_ | refine ⟨m, (by omega), (by simp only [mts_len]; omega), ?_⟩ | refine ⟨E, _, (by simp only [vcs_len]; omega), mts_get (by omega), (by simp only [vcs_len]; omega), ?_⟩ | fail); all_goals try (conv => whnf)
      exact ⟨(i + 1, z), [0, 1, 2], ⟨by simp only; omega, rowP_skip hz hle⟩, by simp only; omega, by (exact aL)⟩
    have hpi : 0 < f i c := by omega
    have b1 := hbd i (by omega) E (by omega)
    have b2 := hbd i (by omega) c (by omega)
    rcases hz with ⟨rfl, hz⟩ | ⟨r, rfl, hr, hrp, hz⟩
    · (repeat' (conv => whnf); first | (refine aC (fun _ => ?_) (fun _ => ?_) <;> try (exfalso; omega)) | refine aS ?_ | refine aG ?_ | refine aD ?_ | refine aH ?_ | refine aP_S3 ?_ | refine aI ?_ | refine aJ ?_ | refine aW (.qs [0, 1, 2, 3, 4, 5, 6, 7, 8, 9, 10, 11, 12, 13, 14, 15, 16, 17, 18, 19, 20, 21, 22, 23, 24, 25, 26, 27, 28, 29, 30, 31, 32, 33, 34, 35, 36, 37, 38, 39, 40, 41, 42, 43] .nil) ?_ | refine aW (.qs [0, 1, 2, 3, 4, 5, 6, 7, 8, 9, 10, 11, 12, 13, 14, 15, 16, 17, 18, 19, 20, 21, 22] .nil) ?_ | refine ⟨_, rfl, (by simp only [mts_len, vcs_len]; omega), ?_⟩ | refine And.intro (by simp only [mts_len, vcs_len]; omega) ?_ | refine ⟨_, _, rfl, mts_get (by omega), (by simp only [vcs_len]; omega), ?_⟩ | refine ⟨_, _, mts_get (by omega), vcs_get (by omega), ?_⟩ | refine ⟨_, mts_get (by omega), ?_⟩ | refine ⟨_, vcs_get (by omega), ?_⟩ | refine ArOb.fits (by simp only [vcs_len, mts_len]; omega) ?_ | refine ⟨m, (by omega), (by simp only [mts_len]; omega), ?_⟩ | refine ⟨E, _, (by simp only [vcs_len]; omega), mts_get (by omega), (by simp only [vcs_len]; omega), ?_⟩ | fail); all_goals try (conv => whnf)
      exact ⟨(i + 1, i), [0, 1, 2], ⟨by simp only; omega, .inr ⟨i, rfl, hi1, hpi, rowP_first hz hpi⟩⟩, by simp only; omega, by (exact aL)⟩
    · have b3 := hbd r (by omega) E (by omega)
      have b4 := hbd r (by omega) c (by omega)
      have p1 := mul_far b1 b4
      have p2 := mul_far b3 b2
      (repeat' (conv => whnf); first | (refine aC (fun _ => ?_) (fun _ => ?_) <;> try (exfalso; omega)) | refine aS ?_ | refine aG ?_ | refine aD ?_ | refine aH ?_ | refine aP_S3 ?_ | refine aI ?_ | refine aJ ?_ | refine aW (.qs [0, 1, 2, 3, 4, 5, 6, 7, 8, 9, 10, 11, 12, 13, 14, 15, 16, 17, 18, 19, 20, 21, 22, 23, 24, 25, 26, 27, 28, 29, 30, 31, 32, 33, 34, 35, 36, 37, 38, 39, 40, 41, 42, 43] .nil) ?_ | refine aW (.qs [0, 1, 2, 3, 4, 5, 6, 7, 8, 9, 10, 11, 12, 13, 14, 15, 16, 17, 18, 19, 20, 21, 22] .nil) ?_ | refine ⟨_, rfl, (by simp only [mts_len, vcs_len]; omega), ?_⟩ | refine And.intro (by simp only [mts_len, vcs_len]; omega) ?_ | refine ⟨_, _, rfl, mts_get (by omega), (by simp only [vcs_len]; omega), ?_⟩ | refine ⟨_, _, mts_get (by omega), vcs_get (by omega), ?_⟩ | refine ⟨_, mts_get (by omega), ?_⟩ | refine ⟨_, vcs_get (by omega), ?_⟩ | refine ArOb.fits (by simp only [vcs_len, mts_len]; omega) ?_ | refine ⟨m, (by omega), (by simp only [mts_len]; omega), ?_⟩ | refine ⟨E, _, (by simp only [vcs_len]; omega), mts_get (by omega), (by simp only [vcs_len]; omega), ?_⟩ | fail); all_goals try (conv => whnf)
      · exact ⟨(i + 1, r), [0, 1, 2], ⟨by simp only; omega, .inr ⟨r, rfl, hr, hrp, rowP_keep hz (by omega)⟩⟩, by simp only; omega, by (exact aL)⟩
      · exact ⟨(i + 1, r), [0, 1, 2], ⟨by simp only; omega, .inr ⟨r, rfl, hr, hrp, rowP_keep hz (by omega)⟩⟩, by simp only; omega, by (exact aL)⟩
      · exact ⟨(i + 1, i), [0, 1, 2], ⟨by simp only; omega, .inr ⟨i, rfl, hi1, hpi, rowP_new hz hrp hpi (by omega)⟩⟩, by simp only; omega, by (exact aL)⟩
      · exact ⟨(i + 1, i), [0, 1, 2], ⟨by simp only; omega, .inr ⟨i, rfl, hi1, hpi, rowP_new hz hrp hpi (by omega)⟩⟩, by simp only; omega, by (exact aL)⟩
  have hie : i = m := by omega
  subst hie
  clear hi1 hi
  rcases hz with ⟨rfl, hz⟩ | ⟨r, rfl, hr, hrp, hz⟩
  · (repeat' (conv => whnf); first | (refine aC (fun _ => ?_) (fun _ => ?_) <;> try (exfalso; omega)) | refine aS ?_ | refine aG ?_ | refine aD ?_ | refine aH ?_ | refine aP_S3 ?_ | refine aI ?_ | refine aJ ?_ | refine aW (.qs [0, 1, 2, 3, 4, 5, 6, 7, 8, 9, 10, 11, 12, 13, 14, 15, 16, 17, 18, 19, 20, 21, 22, 23, 24, 25, 26, 27, 28, 29, 30, 31, 32, 33, 34, 35, 36, 37, 38, 39, 40, 41, 42, 43] .nil) ?_ | refine aW (.qs [0, 1, 2, 3, 4, 5, 6, 7, 8, 9, 10, 11, 12, 13, 14, 15, 16, 17, 18, 19, 20, 21, 22] .nil) ?_ | refine ⟨_, rfl, (by simp only [mts_len, vcs_len]; omega), ?_⟩ | refine And.intro (by simp only [mts_len, vcs_len]; omega) ?_ | refine ⟨_, _, rfl, mts_get (by omega), (by simp only [vcs_len]; omega), ?_⟩ | refine ⟨_, _, mts_get (by omega), vcs_get (by omega), ?_⟩ | refine ⟨_, mts_get (by omega), ?_⟩ | refine ⟨_, vcs_get (by omega), ?_⟩ | refine ArOb.fits (by simp only [vcs_len, mts_len]; omega) ?_ | refine ⟨m, (by omega), (by simp only [mts_len]; omega), ?_⟩ | refine ⟨E, _, (by simp only [vcs_len]; omega), mts_get (by omega), (by simp only [vcs_len]; omega), ?_⟩ | fail); all_goals try (conv => whnf)
    exact ⟨((f, bs, d), q, c), fun _ => ⟨hb0, hrun, ⟨hbd, hd, hbs⟩, .inr ⟨c, rfl, hc, hneg, hz⟩⟩, OI.refl _, Imp.refl _⟩
  · have cP := pivot_ok i (E + 1) hm hw f bs d r c hr (by omega) hd hbd (by omega)
    have hP : ∀ s', Piv i (E + 1) (f, bs, d) r c s' → Run i E C s s' ∧ Tok i (E + 1) s' := fun s' p =>
      ⟨.step hrun ⟨r, c, hr, hc, hneg, hrp, hz, p⟩, p.tok ⟨hbd, hd, hbs⟩ hr (by omega) (by show f r c ≠ 0; omega)⟩
    (repeat' (conv => whnf); first | (refine aC (fun _ => ?_) (fun _ => ?_) <;> try (exfalso; omega)) | refine aS ?_ | refine aG ?_ | refine aD ?_ | refine aH ?_ | refine aP_S3 ?_ | refine aI ?_ | refine aJ ?_ | refine aW (.qs [0, 1, 2, 3, 4, 5, 6, 7, 8, 9, 10, 11, 12, 13, 14, 15, 16, 17, 18, 19, 20, 21, 22, 23, 24, 25, 26, 27, 28, 29, 30, 31, 32, 33, 34, 35, 36, 37, 38, 39, 40, 41, 42, 43] .nil) ?_ | refine aW (.qs [0, 1, 2, 3, 4, 5, 6, 7, 8, 9, 10, 11, 12, 13, 14, 15, 16, 17, 18, 19, 20, 21, 22] .nil) ?_ | refine ⟨_, rfl, (by simp only [mts_len, vcs_len]; omega), ?_⟩ | refine And.intro (by simp only [mts_len, vcs_len]; omega) ?_ | refine ⟨_, _, rfl, mts_get (by omega), (by simp only [vcs_len]; omega), ?_⟩ | refine ⟨_, _, mts_get (by omega), vcs_get (by omega), ?_⟩ | refine ⟨_, mts_get (by omega), ?_⟩ | refine ⟨_, vcs_get (by omega), ?_⟩ | refine ArOb.fits (by simp only [vcs_len, mts_len]; omega) ?_ | refine ⟨m, (by omega), (by simp only [mts_len]; omega), ?_⟩ | refine ⟨E, _, (by simp only [vcs_len]; omega), mts_get (by omega), (by simp only [vcs_len]; omega), ?_⟩ | fail); all_goals try (conv => whnf)
    have e : q = False := propext ⟨fun h => hbad h, False.elim⟩
    subst e
    refine CallOb.mk [0, 1, 2] cP rfl (ImpL.refl _) rfl rfl ?_
    rintro _ _ ⟨⟨f', bs', d', q'⟩, hpv, rfl, rfl⟩
    dsimp only at hpv ⊢
    (repeat' (conv => whnf); first | (refine aC (fun _ => ?_) (fun _ => ?_) <;> try (exfalso; omega)) | refine aS ?_ | refine aG ?_ | refine aD ?_ | refine aH ?_ | refine aP_S3 ?_ | refine aI ?_ | refine aJ ?_ | refine aW (.qs [0, 1, 2, 3, 4, 5, 6, 7, 8, 9, 10, 11, 12, 13, 14, 15, 16, 17, 18, 19, 20, 21, 22, 23, 24, 25, 26, 27, 28, 29, 30, 31, 32, 33, 34, 35, 36, 37, 38, 39, 40, 41, 42, 43] .nil) ?_ | refine aW (.qs [0, 1, 2, 3, 4, 5, 6, 7, 8, 9, 10, 11, 12, 13, 14, 15, 16, 17, 18, 19, 20, 21, 22] .nil) ?_ | refine ⟨_, rfl, (by simp only [mts_len, vcs_len]; omega), ?_⟩ | refine And.intro (by simp only [mts_len, vcs_len]; omega) ?_ | refine ⟨_, _, rfl, mts_get (by omega), (by simp only [vcs_len]; omega), ?_⟩ | refine ⟨_, _, mts_get (by omega), vcs_get (by omega), ?_⟩ | refine ⟨_, mts_get (by omega), ?_⟩ | refine ⟨_, vcs_get (by omega), ?_⟩ | refine ArOb.fits (by simp only [vcs_len, mts_len]; omega) ?_ | refine ⟨m, (by omega), (by simp only [mts_len]; omega), ?_⟩ | refine ⟨E, _, (by simp only [vcs_len]; omega), mts_get (by omega), (by simp only [vcs_len]; omega), ?_⟩ | fail); all_goals try (conv => whnf)
    exact ⟨(n + 1, (f', bs', d'), q'), [0, 1, 2], ⟨by simp only; omega, fun h => ⟨hb0, hP _ (hpv h)⟩⟩, by simp only; omega, by (exact aL)⟩
end Go.Proofs.Ytbdahmfjeklgbaa
