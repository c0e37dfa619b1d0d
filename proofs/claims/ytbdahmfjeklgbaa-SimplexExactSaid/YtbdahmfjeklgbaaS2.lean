/-
  A text of the proofs of this seat: lemmas that the statements' proofs use; it states nothing of the program by itself beyond the contracts that its theorems bear. Conditions: those that stand in each theorem. Its short name: S2.
-/
import Derived.Test.YtbdahmfjeklgbaaM1
set_option linter.unusedVariables false
set_option linter.unusedSimpArgs false
namespace Go.Proofs.Ytbdahmfjeklgbaa
open Go.Sx Go.Fq
set_option maxRecDepth 4000
set_option maxHeartbeats 2000000
/- the rows below i are pivoted -/
def nw1 (f : Nat → Nat → Int) (r c : Nat) (d : Int) (a b : Nat) : Int := (f a b * f r c - f a c * f r b).tdiv d
def nw (f : Nat → Nat → Int) (r c : Nat) (d : Int) (i a b : Nat) : Int := if a < i ∧ a ≠ r then nw1 f r c d a b else f a b
/- .. and the row i below k -/
def nwk (f : Nat → Nat → Int) (r c : Nat) (d : Int) (i k a b : Nat) : Int := if a = i ∧ b < k ∧ a ≠ r then nw1 f r c d a b else nw f r c d i a b
def InB (m w : Nat) (f : Nat → Nat → Int) : Prop := ∀ i < m, ∀ k < w, -2147483648 < f i k ∧ f i k < 2147483648
theorem mul_far {a b : Int} (ha : -2147483648 < a ∧ a < 2147483648) (hb : -2147483648 < b ∧ b < 2147483648) : -4611686018427387904 < a * b ∧ a * b < 4611686018427387904 := by
  have h : (a * b).natAbs ≤ 2147483647 * 2147483647 := by rw [Int.natAbs_mul]; exact Nat.mul_le_mul (by omega) (by omega)
  omega
theorem tdiv_far {x d : Int} {B : Nat} (hd : 1 ≤ d) (hx : x.natAbs ≤ B) : (x.tdiv d).natAbs ≤ B := by
  rw [Int.natAbs_tdiv]; exact Nat.le_trans (Nat.div_le_self _ _) hx
structure PvA (m w : Nat) (f : Nat → Nat → Int) (r c : Nat) (d : Int) (y : Nat × (Nat → Nat → Int) × Prop) : Prop where
  le : y.1 ≤ m + 1
  ok : ¬y.2.2
  eq : ∀ a b, b < w → y.2.1 a b = nw f r c d y.1 a b
  bd : InB (m + 1) w y.2.1
structure PvB (m w : Nat) (f : Nat → Nat → Int) (r c : Nat) (d : Int) (i : Nat) (y : Nat × (Nat → Nat → Int) × Prop) : Prop where
  le : y.1 ≤ w
  eq : ∀ a b, b < w → y.2.1 a b = nwk f r c d i y.1 a b
  bd : ¬y.2.2 → InB (m + 1) w y.2.1
theorem nwk_step {f g : Nat → Nat → Int} {r c i k w : Nat} {d : Int} (hir : i ≠ r) (hg : ∀ a b, b < w → g a b = nwk f r c d i k a b) :
    ∀ a b, b < w → up2 g i (up (g i) k (nw1 f r c d i k)) a b = nwk f r c d i (k + 1) a b := by
  intro a b hb
  by_cases ha : a = i
  · subst ha
    by_cases hk : b = k
    · subst hk; simp [up2, up, nwk, hir]
    · simp only [up2, up, if_pos, if_neg hk]
      rw [hg a b hb]
      unfold nwk
      simp only [show b < k ↔ b < k + 1 by omega]
  · simp only [up2, if_neg ha]
    rw [hg a b hb]; unfold nwk; simp [ha]
theorem nwk_skip {f : Nat → Nat → Int} {r c k : Nat} {d : Int} (a b : Nat) : nwk f r c d r k a b = nwk f r c d r (k + 1) a b := by
  unfold nwk; by_cases h : a = r <;> simp [h]
theorem nwk_bd {g : Nat → Nat → Int} {i k m w : Nat} {v : Int} (hg : InB m w g) (h1 : v < 2147483648) (h2 : -2147483648 < v) : InB m w (up2 g i (up (g i) k v)) := by
  intro a ha b hb
  by_cases e : a = i
  · by_cases e2 : b = k
    · simp [up2, up, e, e2, h1, h2]
    · simp only [up2, up, if_pos e, if_neg e2]; subst e; exact hg a ha b hb
  · simp only [up2, if_neg e]; exact hg a ha b hb
theorem nwk_row {f : Nat → Nat → Int} {r c i k w : Nat} {d : Int} (hk : w ≤ k) {a b : Nat} (hb : b < w) : nwk f r c d i k a b = nw f r c d (i + 1) a b := by
  unfold nwk nw
  by_cases h : a = i
  · subst h; by_cases h2 : a = r <;> simp [h2, show b < k by omega]
  · simp only [h, false_and, if_false, show a < i + 1 ↔ a < i by omega]
/- what a pivot makes of a table -/
def pv (f : Nat → Nat → Int) (r c : Nat) (d : Int) (a b : Nat) : Int :=
  if f r c < 0 then -(if a = r then f r b else nw1 f r c d a b) else (if a = r then f r b else nw1 f r c d a b)
structure Pvd (m w : Nat) (f : Nat → Nat → Int) (bs : Nat → Int) (d : Int) (r c : Nat) (f' : Nat → Nat → Int) (bs' : Nat → Int) (d' : Int) : Prop where
  eq : ∀ a < m + 1, ∀ b < w, f' a b = pv f r c d a b
  bd : InB (m + 1) w f'
  d : d' = (f r c).natAbs
  bs : bs' = up bs r c
theorem nw_pv {f : Nat → Nat → Int} {r c m a b : Nat} {d : Int} (hn : ¬f r c < 0) (ha : a < m + 1) : nw f r c d (m + 1) a b = pv f r c d a b := by
  unfold nw pv; rw [if_neg hn]; by_cases h : a = r <;> simp [h, ha]
def ng (g : Nat → Nat → Int) (i a b : Nat) : Int := if a < i then 0 - g a b else g a b
def ngk (g : Nat → Nat → Int) (i k a b : Nat) : Int := if a = i ∧ b < k then 0 - g a b else ng g i a b
theorem ngk_step {g G : Nat → Nat → Int} {i k w : Nat} (hG : ∀ a b, b < w → G a b = ngk g i k a b) (hk : k < w) :
    ∀ a b, b < w → up2 G i (up (G i) k (0 - G i k)) a b = ngk g i (k + 1) a b := by
  intro a b hb
  by_cases ha : a = i
  · subst ha
    by_cases hk : b = k
    · subst hk; simp only [up2, up, if_pos]; rw [hG a b hb]; simp [ngk, ng]
    · simp only [up2, up, if_pos, if_neg hk]
      rw [hG a b hb]; unfold ngk; simp only [show b < k ↔ b < k + 1 by omega]
  · simp only [up2, if_neg ha]; rw [hG a b hb]; unfold ngk; simp [ha]
theorem ngk_row {g : Nat → Nat → Int} {i k w a b : Nat} (hk : w ≤ k) (hb : b < w) : ngk g i k a b = ng g (i + 1) a b := by
  unfold ngk ng
  by_cases h : a = i
  · subst h; simp [show b < k by omega]
  · simp only [h, false_and, if_false, show a < i + 1 ↔ a < i by omega]
theorem ng_pv {f : Nat → Nat → Int} {r c m a b : Nat} {d : Int} (hn : f r c < 0) (ha : a < m + 1) : 0 - nw f r c d (m + 1) a b = pv f r c d a b := by
  unfold nw pv; rw [if_pos hn]; by_cases h : a = r <;> simp [h, ha]
theorem aP_S2 {A B K : Prop} (k : K) (a : A := by (simp only [zA, zT, zD, zC, zN, ints_len, zR, fr_len, rw_len]; omega)) (b : B := by (simp only [zA, zT, zD, zC, zN, ints_len, zR, fr_len, rw_len]; omega)) : (A ∧ B) ∧ K := ⟨⟨a, b⟩, k⟩
theorem pivot_ok (m w : Nat) (hm : m ≤ 30) (hw : w ≤ 100) (f : Nat → Nat → Int) (bs : Nat → Int) (d : Int) (r c : Nat) (hr : r < m) (hc : c < w) (hd : 1 ≤ d ∧ d < 2147483648) (hf : InB (m + 1) w f) (hp : f r c ≠ 0) :
    Ctr Try.prog 49 [.ptr 0 0, i64 r, i64 c] (tbl (m + 1) m w f bs d False) (fun z o => ∃ x : (Nat → Nat → Int) × (Nat → Int) × Int × Prop, (¬x.2.2.2 → Pvd m w f bs d r c x.1 x.2.1 x.2.2.1) ∧ o = tbl (m + 1) m w x.1 x.2.1 x.2.2.1 x.2.2.2 ∧ z = .tup []) := by
  refine Ctr.impO ?_
  refine fn_intro (E := env 3) tys_ok rfl rfl rfl Try.func49 (by kernel_rfl) rfl (by kernel_rfl) ?_
  have hml := mts_len (m + 1) w f
  (repeat' (conv => whnf); first | refine aC (fun _ => ?_) (fun _ => ?_) | refine aS ?_ | refine aG ?_ | refine aD ?_ | refine aH ?_ | refine aP_S2 ?_ | refine aI ?_ | refine aJ ?_ | refine aW (.qs [0, 1, 2, 3, 4, 5, 6, 7, 8, 9, 10, 11, 12, 13, 14, 15, 16, 17, 18, 19, 20, 21, 22, 23, 24, 25, 26, 27, 28, 29, 30, 31, 32, 33, 34, 35, 36, 37, 38] (.l 39 [] .nil .no)) ?_ | refine aW (.qs [0, 1, 2, 3, 4, 5, 6, 7, 8, 9, 10, 11, 12, 13, 14, 15, 16, 17, 18, 19] (.l 20 [] .nil .no)) ?_ | refine ⟨_, rfl, (by simp only [mts_len, vcs_len]; omega), ?_⟩ | refine And.intro (by simp only [mts_len, vcs_len]; omega) ?_ | refine ⟨_, _, rfl, mts_get (by omega), (by simp only [vcs_len]; omega), ?_⟩ | refine ⟨_, _, mts_get (by omega), vcs_get (by omega), ?_⟩ | refine ⟨_, mts_get (by omega), ?_⟩ | fail); all_goals try (conv => whnf)
  have hpb := hf r (by omega) c hc
  refine LoopOb.mk (Y := Nat × (Nat → Nat → Int) × Prop) (st := fun y => ⟨[(27, i64 y.1), (26, i64 (m + 1 : Nat)), (6, i64 (f r c)), (0, .ptr 0 0), (1, i64 r), (2, i64 c)], tbl (m + 1) m w y.2.1 bs d y.2.2⟩)
    (inv := PvA m w f r c d) (fun y => m + 1 - y.1) (0, f, False) [0, 1, 2] ⟨by simp, by simp, fun a b _ => by simp [nw], hf⟩ (by rw [hml]; (exact aL)) ?_
  rintro ⟨i, g, q⟩ ⟨hi, hq, hg, hgb⟩
  dsimp only at hi hq hg hgb ⊢
  (repeat' (conv => whnf); first | refine aS ?_ | refine aG ?_ | refine aD ?_ | refine aH ?_ | refine aP_S2 ?_ | refine aI ?_ | refine aJ ?_ | refine aW (.qs [0, 1, 2, 3, 4, 5, 6, 7, 8, 9, 10, 11, 12, 13, 14, 15, 16, 17, 18, 19, 20, 21, 22, 23, 24, 25, 26, 27, 28, 29, 30, 31, 32, 33, 34, 35, 36, 37, 38] (.l 39 [] .nil .no)) ?_ | refine aW (.qs [0, 1, 2, 3, 4, 5, 6, 7, 8, 9, 10, 11, 12, 13, 14, 15, 16, 17, 18, 19] (.l 20 [] .nil .no)) ?_ | refine ⟨_, rfl, (by simp only [mts_len, vcs_len]; omega), ?_⟩ | refine And.intro (by simp only [mts_len, vcs_len]; omega) ?_ | refine ⟨_, _, rfl, mts_get (by omega), (by simp only [vcs_len]; omega), ?_⟩ | refine ⟨_, _, mts_get (by omega), vcs_get (by omega), ?_⟩ | refine ⟨_, mts_get (by omega), ?_⟩ | fail); all_goals try (conv => whnf)
  refine CondOb.mk (fun hlt => ?_) (fun hlt => ?_)
  · (repeat' (conv => whnf); first | refine aS ?_ | refine aG ?_ | refine aD ?_ | refine aH ?_ | refine aP_S2 ?_ | refine aI ?_ | refine aJ ?_ | refine aW (.qs [0, 1, 2, 3, 4, 5, 6, 7, 8, 9, 10, 11, 12, 13, 14, 15, 16, 17, 18, 19, 20, 21, 22, 23, 24, 25, 26, 27, 28, 29, 30, 31, 32, 33, 34, 35, 36, 37, 38] (.l 39 [] .nil .no)) ?_ | refine aW (.qs [0, 1, 2, 3, 4, 5, 6, 7, 8, 9, 10, 11, 12, 13, 14, 15, 16, 17, 18, 19] (.l 20 [] .nil .no)) ?_ | refine ⟨_, rfl, (by simp only [mts_len, vcs_len]; omega), ?_⟩ | refine And.intro (by simp only [mts_len, vcs_len]; omega) ?_ | refine ⟨_, _, rfl, mts_get (by omega), (by simp only [vcs_len]; omega), ?_⟩ | refine ⟨_, _, mts_get (by omega), vcs_get (by omega), ?_⟩ | refine ⟨_, mts_get (by omega), ?_⟩ | fail); all_goals try (conv => whnf)
    have hwl := vcs_len w (g i)
    rw [hwl]
    refine LoopOb.mk (Y := Nat × (Nat → Nat → Int) × Prop) (st := fun y => ⟨[(48, i64 y.1), (47, i64 w), (8, i64 (f i c)), (7, i64 i), (27, i64 i), (26, i64 (m + 1 : Nat)), (6, i64 (f r c)), (0, .ptr 0 0), (1, i64 r), (2, i64 c)], tbl (m + 1) m w y.2.1 bs d y.2.2⟩)
      (inv := PvB m w f r c d i) (fun y => w - y.1) (0, g, q) [0, 1, 2] ⟨by simp, fun a b hb => by rw [show (0, g, q).2.1 a b = nw f r c d i a b from hg a b hb]; simp [nwk], fun _ => hgb⟩ (by rw [hg i c hc, show nw f r c d i i c = f i c by simp [nw]]; (exact aL)) ?_
    clear hg hgb hq g q hwl
    rintro ⟨k, g, q⟩ ⟨hk, hg, hgb⟩
    dsimp only at hk hg hgb ⊢
    (repeat' (conv => whnf); first | refine aS ?_ | refine aG ?_ | refine aD ?_ | refine aH ?_ | refine aP_S2 ?_ | refine aI ?_ | refine aJ ?_ | refine aW (.qs [0, 1, 2, 3, 4, 5, 6, 7, 8, 9, 10, 11, 12, 13, 14, 15, 16, 17, 18, 19, 20, 21, 22, 23, 24, 25, 26, 27, 28, 29, 30, 31, 32, 33, 34, 35, 36, 37, 38] (.l 39 [] .nil .no)) ?_ | refine aW (.qs [0, 1, 2, 3, 4, 5, 6, 7, 8, 9, 10, 11, 12, 13, 14, 15, 16, 17, 18, 19] (.l 20 [] .nil .no)) ?_ | refine ⟨_, rfl, (by simp only [mts_len, vcs_len]; omega), ?_⟩ | refine And.intro (by simp only [mts_len, vcs_len]; omega) ?_ | refine ⟨_, _, rfl, mts_get (by omega), (by simp only [vcs_len]; omega), ?_⟩ | refine ⟨_, _, mts_get (by omega), vcs_get (by omega), ?_⟩ | refine ⟨_, mts_get (by omega), ?_⟩ | fail); all_goals try (conv => whnf)
    refine CondOb.mk (fun hlt2 => ?_) (fun hlt2 => ?_)
    · (repeat' (conv => whnf); first | refine aS ?_ | refine aG ?_ | refine aD ?_ | refine aH ?_ | refine aP_S2 ?_ | refine aI ?_ | refine aJ ?_ | refine aW (.qs [0, 1, 2, 3, 4, 5, 6, 7, 8, 9, 10, 11, 12, 13, 14, 15, 16, 17, 18, 19, 20, 21, 22, 23, 24, 25, 26, 27, 28, 29, 30, 31, 32, 33, 34, 35, 36, 37, 38] (.l 39 [] .nil .no)) ?_ | refine aW (.qs [0, 1, 2, 3, 4, 5, 6, 7, 8, 9, 10, 11, 12, 13, 14, 15, 16, 17, 18, 19] (.l 20 [] .nil .no)) ?_ | refine ⟨_, rfl, (by simp only [mts_len, vcs_len]; omega), ?_⟩ | refine And.intro (by simp only [mts_len, vcs_len]; omega) ?_ | refine ⟨_, _, rfl, mts_get (by omega), (by simp only [vcs_len]; omega), ?_⟩ | refine ⟨_, _, mts_get (by omega), vcs_get (by omega), ?_⟩ | refine ⟨_, mts_get (by omega), ?_⟩ | fail); all_goals try (conv => whnf)
      refine CondOb.mk (fun hir => ?_) (fun hir => ?_)
      · have hir : i ≠ r := by omega
        have hlt2 : k < w := by omega
        have e1 : g i k = f i k := by rw [hg i k hlt2]; simp [nwk, nw]
        have e2 : g r k = f r k := by rw [hg r k hlt2]; simp [nwk, nw]
        have b1 := mul_far (hf i (by omega) k hlt2) hpb
        have b2 := mul_far (hf i (by omega) c hc) (hf r (by omega) k hlt2)
        rw [← e1] at b1
        rw [← e2] at b2
        have b3 := tdiv_far (x := g i k * f r c - f i c * g r k) (B := 9223372036854775807) hd.1 (by omega)
        have ev : (g i k * f r c - f i c * g r k).tdiv d = nw1 f r c d i k := by rw [e1, e2]; rfl
        (repeat' (conv => whnf); first | refine aS ?_ | refine aG ?_ | refine aD ?_ | refine aH ?_ | refine aP_S2 ?_ | refine aI ?_ | refine aJ ?_ | refine aW (.qs [0, 1, 2, 3, 4, 5, 6, 7, 8, 9, 10, 11, 12, 13, 14, 15, 16, 17, 18, 19, 20, 21, 22, 23, 24, 25, 26, 27, 28, 29, 30, 31, 32, 33, 34, 35, 36, 37, 38] (.l 39 [] .nil .no)) ?_ | refine aW (.qs [0, 1, 2, 3, 4, 5, 6, 7, 8, 9, 10, 11, 12, 13, 14, 15, 16, 17, 18, 19] (.l 20 [] .nil .no)) ?_ | refine And.intro (by omega) ?_ | refine ⟨_, rfl, (by simp only [mts_len, vcs_len]; omega), ?_⟩ | refine And.intro (by simp only [mts_len, vcs_len]; omega) ?_ | refine ⟨_, _, rfl, mts_get (by omega), (by simp only [vcs_len]; omega), ?_⟩ | refine ⟨_, _, mts_get (by omega), vcs_get (by omega), ?_⟩ | refine ⟨_, mts_get (by omega), ?_⟩ | fail); all_goals try (conv => whnf)
        rw [ev, vcs_set, mts_set]
        have hG : ∀ a b, b < w → up2 g i (up (g i) k (nw1 f r c d i k)) a b = nwk f r c d i (k + 1) a b := nwk_step hir hg
        have hv : up2 g i (up (g i) k (nw1 f r c d i k)) i k = nw1 f r c d i k := by simp [up2, up]
        have hB : (¬q → (nw1 f r c d i k < 2147483648 → -2147483648 < nw1 f r c d i k → InB (m + 1) w (up2 g i (up (g i) k (nw1 f r c d i k))))) := fun h a b => nwk_bd (hgb h) a b
        generalize up2 g i (up (g i) k (nw1 f r c d i k)) = G at *
        rw [← hv] at hB
        (repeat' (conv => whnf); first | refine aC (fun _ => ?_) (fun _ => ?_) | refine aS ?_ | refine aG ?_ | refine aD ?_ | refine aH ?_ | refine aP_S2 ?_ | refine aI ?_ | refine aJ ?_ | refine aW (.qs [0, 1, 2, 3, 4, 5, 6, 7, 8, 9, 10, 11, 12, 13, 14, 15, 16, 17, 18, 19, 20, 21, 22, 23, 24, 25, 26, 27, 28, 29, 30, 31, 32, 33, 34, 35, 36, 37, 38] (.l 39 [] .nil .no)) ?_ | refine aW (.qs [0, 1, 2, 3, 4, 5, 6, 7, 8, 9, 10, 11, 12, 13, 14, 15, 16, 17, 18, 19] (.l 20 [] .nil .no)) ?_ | refine ⟨_, rfl, (by simp only [mts_len, vcs_len]; omega), ?_⟩ | refine And.intro (by simp only [mts_len, vcs_len]; omega) ?_ | refine ⟨_, _, rfl, mts_get (by omega), (by simp only [vcs_len]; omega), ?_⟩ | refine ⟨_, _, mts_get (by omega), vcs_get (by omega), ?_⟩ | refine ⟨_, mts_get (by omega), ?_⟩ | fail); all_goals try (conv => whnf)
        · exact ⟨(k + 1, G, True), [0, 1, 2], ⟨by simp only; omega, hG, fun h => (h trivial).elim⟩, by simp only; omega, by (exact aL)⟩
        · exact ⟨(k + 1, G, True), [0, 1, 2], ⟨by simp only; omega, hG, fun h => (h trivial).elim⟩, by simp only; omega, by (exact aL)⟩
        · exact ⟨(k + 1, G, (G i k ≤ -2147483648)), [0, 1, 2], ⟨by simp only; omega, hG, fun h => hB (by assumption) (by omega) (by have : ¬ G i k ≤ -2147483648 := h; omega)⟩, by simp only; omega, by (exact aL)⟩
      · have hir : i = r := by omega
        (repeat' (conv => whnf); first | refine aC (fun _ => ?_) (fun _ => ?_) | refine aS ?_ | refine aG ?_ | refine aD ?_ | refine aH ?_ | refine aP_S2 ?_ | refine aI ?_ | refine aJ ?_ | refine aW (.qs [0, 1, 2, 3, 4, 5, 6, 7, 8, 9, 10, 11, 12, 13, 14, 15, 16, 17, 18, 19, 20, 21, 22, 23, 24, 25, 26, 27, 28, 29, 30, 31, 32, 33, 34, 35, 36, 37, 38] (.l 39 [] .nil .no)) ?_ | refine aW (.qs [0, 1, 2, 3, 4, 5, 6, 7, 8, 9, 10, 11, 12, 13, 14, 15, 16, 17, 18, 19] (.l 20 [] .nil .no)) ?_ | fail); all_goals try (conv => whnf)
        exact ⟨(k + 1, g, q), [0, 1, 2], ⟨by simp only; omega, fun a b hb => by rw [show (k + 1, g, q).2.1 a b = nwk f r c d i k a b from hg a b hb, hir]; exact nwk_skip a b, hgb⟩, by simp only; omega, by (exact aL)⟩
    (repeat' (conv => whnf); first | refine aS ?_ | refine aG ?_ | refine aD ?_ | refine aH ?_ | refine aP_S2 ?_ | refine aI ?_ | refine aJ ?_ | refine aW (.qs [0, 1, 2, 3, 4, 5, 6, 7, 8, 9, 10, 11, 12, 13, 14, 15, 16, 17, 18, 19, 20, 21, 22, 23, 24, 25, 26, 27, 28, 29, 30, 31, 32, 33, 34, 35, 36, 37, 38] (.l 39 [] .nil .no)) ?_ | refine aW (.qs [0, 1, 2, 3, 4, 5, 6, 7, 8, 9, 10, 11, 12, 13, 14, 15, 16, 17, 18, 19] (.l 20 [] .nil .no)) ?_ | refine ⟨_, rfl, (by simp only [mts_len, vcs_len]; omega), ?_⟩ | refine And.intro (by simp only [mts_len, vcs_len]; omega) ?_ | refine ⟨_, _, rfl, mts_get (by omega), (by simp only [vcs_len]; omega), ?_⟩ | refine ⟨_, _, mts_get (by omega), vcs_get (by omega), ?_⟩ | refine ⟨_, mts_get (by omega), ?_⟩ | fail); all_goals try (conv => whnf)
    refine CondOb.mk (fun hbad => ?_) (fun hbad => ?_)
    · (repeat' (conv => whnf); first | refine aS ?_ | refine aG ?_ | refine aD ?_ | refine aH ?_ | refine aP_S2 ?_ | refine aI ?_ | refine aJ ?_ | refine aW (.qs [0, 1, 2, 3, 4, 5, 6, 7, 8, 9, 10, 11, 12, 13, 14, 15, 16, 17, 18, 19, 20, 21, 22, 23, 24, 25, 26, 27, 28, 29, 30, 31, 32, 33, 34, 35, 36, 37, 38] (.l 39 [] .nil .no)) ?_ | refine aW (.qs [0, 1, 2, 3, 4, 5, 6, 7, 8, 9, 10, 11, 12, 13, 14, 15, 16, 17, 18, 19] (.l 20 [] .nil .no)) ?_ | fail); all_goals try (conv => whnf)
      exact ⟨(g, bs, d, q), fun h => (h hbad).elim, OI.refl _, Imp.refl _⟩
    · (repeat' (conv => whnf); first | refine aS ?_ | refine aG ?_ | refine aD ?_ | refine aH ?_ | refine aP_S2 ?_ | refine aI ?_ | refine aJ ?_ | refine aW (.qs [0, 1, 2, 3, 4, 5, 6, 7, 8, 9, 10, 11, 12, 13, 14, 15, 16, 17, 18, 19, 20, 21, 22, 23, 24, 25, 26, 27, 28, 29, 30, 31, 32, 33, 34, 35, 36, 37, 38] (.l 39 [] .nil .no)) ?_ | refine aW (.qs [0, 1, 2, 3, 4, 5, 6, 7, 8, 9, 10, 11, 12, 13, 14, 15, 16, 17, 18, 19] (.l 20 [] .nil .no)) ?_ | fail); all_goals try (conv => whnf)
      exact ⟨(i + 1, g, q), [0, 1, 2], ⟨by simp only; omega, hbad, fun a b hb => by rw [show (i + 1, g, q).2.1 a b = nwk f r c d i k a b from hg a b hb]; exact nwk_row (by omega) hb, hgb hbad⟩, by simp only; omega, by (exact aL)⟩
  · have hi : i = m + 1 := by omega
    subst hi
    (repeat' (conv => whnf); first | refine aS ?_ | refine aG ?_ | refine aD ?_ | refine aH ?_ | refine aP_S2 ?_ | refine aI ?_ | refine aJ ?_ | refine aW (.qs [0, 1, 2, 3, 4, 5, 6, 7, 8, 9, 10, 11, 12, 13, 14, 15, 16, 17, 18, 19, 20, 21, 22, 23, 24, 25, 26, 27, 28, 29, 30, 31, 32, 33, 34, 35, 36, 37, 38] (.l 39 [] .nil .no)) ?_ | refine aW (.qs [0, 1, 2, 3, 4, 5, 6, 7, 8, 9, 10, 11, 12, 13, 14, 15, 16, 17, 18, 19] (.l 20 [] .nil .no)) ?_ | refine ⟨_, rfl, (by simp only [mts_len, vcs_len]; omega), ?_⟩ | refine And.intro (by simp only [mts_len, vcs_len]; omega) ?_ | refine ⟨_, _, rfl, mts_get (by omega), (by simp only [vcs_len]; omega), ?_⟩ | refine ⟨_, _, mts_get (by omega), vcs_get (by omega), ?_⟩ | refine ⟨_, mts_get (by omega), ?_⟩ | fail); all_goals try (conv => whnf)
    refine CondOb.mk (fun hneg => ?_) (fun hneg => ?_)
    · (repeat' (conv => whnf); first | refine aS ?_ | refine aG ?_ | refine aD ?_ | refine aH ?_ | refine aP_S2 ?_ | refine aI ?_ | refine aJ ?_ | refine aW (.qs [0, 1, 2, 3, 4, 5, 6, 7, 8, 9, 10, 11, 12, 13, 14, 15, 16, 17, 18, 19, 20, 21, 22, 23, 24, 25, 26, 27, 28, 29, 30, 31, 32, 33, 34, 35, 36, 37, 38] (.l 39 [] .nil .no)) ?_ | refine aW (.qs [0, 1, 2, 3, 4, 5, 6, 7, 8, 9, 10, 11, 12, 13, 14, 15, 16, 17, 18, 19] (.l 20 [] .nil .no)) ?_ | refine ⟨_, rfl, (by simp only [mts_len, vcs_len]; omega), ?_⟩ | refine And.intro (by simp only [mts_len, vcs_len]; omega) ?_ | refine ⟨_, _, rfl, mts_get (by omega), (by simp only [vcs_len]; omega), ?_⟩ | refine ⟨_, _, mts_get (by omega), vcs_get (by omega), ?_⟩ | refine ⟨_, mts_get (by omega), ?_⟩ | fail); all_goals try (conv => whnf)
      have hgl := mts_len (m + 1) w g
      rw [hgl]
      refine LoopOb.mk (Y := Nat × (Nat → Nat → Int)) (st := fun y => ⟨[(148, i64 y.1), (147, i64 (m + 1 : Nat)), (0, .ptr 0 0), (1, i64 r), (2, i64 c)], tbl (m + 1) m w y.2 bs (0 - f r c) q⟩)
        (inv := fun y => y.1 ≤ m + 1 ∧ ∀ a b, b < w → y.2 a b = ng g y.1 a b) (fun y => m + 1 - y.1) (0, g) [0, 1, 2] ⟨by simp, fun a b _ => by simp [ng]⟩ (by (exact aL)) ?_
      rintro ⟨i, G⟩ ⟨hi, hG⟩
      dsimp only at hi hG ⊢
      (repeat' (conv => whnf); first | refine aS ?_ | refine aG ?_ | refine aD ?_ | refine aH ?_ | refine aP_S2 ?_ | refine aI ?_ | refine aJ ?_ | refine aW (.qs [0, 1, 2, 3, 4, 5, 6, 7, 8, 9, 10, 11, 12, 13, 14, 15, 16, 17, 18, 19, 20, 21, 22, 23, 24, 25, 26, 27, 28, 29, 30, 31, 32, 33, 34, 35, 36, 37, 38] (.l 39 [] .nil .no)) ?_ | refine aW (.qs [0, 1, 2, 3, 4, 5, 6, 7, 8, 9, 10, 11, 12, 13, 14, 15, 16, 17, 18, 19] (.l 20 [] .nil .no)) ?_ | refine ⟨_, rfl, (by simp only [mts_len, vcs_len]; omega), ?_⟩ | refine And.intro (by simp only [mts_len, vcs_len]; omega) ?_ | refine ⟨_, _, rfl, mts_get (by omega), (by simp only [vcs_len]; omega), ?_⟩ | refine ⟨_, _, mts_get (by omega), vcs_get (by omega), ?_⟩ | refine ⟨_, mts_get (by omega), ?_⟩ | refine ⟨_, vcs_get (by omega), ?_⟩ | fail); all_goals try (conv => whnf)
      refine CondOb.mk (fun hlt => ?_) (fun hlt => ?_)
      · (repeat' (conv => whnf); first | refine aS ?_ | refine aG ?_ | refine aD ?_ | refine aH ?_ | refine aP_S2 ?_ | refine aI ?_ | refine aJ ?_ | refine aW (.qs [0, 1, 2, 3, 4, 5, 6, 7, 8, 9, 10, 11, 12, 13, 14, 15, 16, 17, 18, 19, 20, 21, 22, 23, 24, 25, 26, 27, 28, 29, 30, 31, 32, 33, 34, 35, 36, 37, 38] (.l 39 [] .nil .no)) ?_ | refine aW (.qs [0, 1, 2, 3, 4, 5, 6, 7, 8, 9, 10, 11, 12, 13, 14, 15, 16, 17, 18, 19] (.l 20 [] .nil .no)) ?_ | refine ⟨_, rfl, (by simp only [mts_len, vcs_len]; omega), ?_⟩ | refine And.intro (by simp only [mts_len, vcs_len]; omega) ?_ | refine ⟨_, _, rfl, mts_get (by omega), (by simp only [vcs_len]; omega), ?_⟩ | refine ⟨_, _, mts_get (by omega), vcs_get (by omega), ?_⟩ | refine ⟨_, mts_get (by omega), ?_⟩ | refine ⟨_, vcs_get (by omega), ?_⟩ | fail); all_goals try (conv => whnf)
        have hwl := vcs_len w (G i)
        rw [hwl]
        clear hwl
        have hlt : i < m + 1 := by omega
        refine LoopOb.mk (Y := Nat × (Nat → Nat → Int)) (st := fun y => ⟨[(159, i64 y.1), (158, i64 w), (10, i64 i), (148, i64 i), (147, i64 (m + 1 : Nat)), (0, .ptr 0 0), (1, i64 r), (2, i64 c)], tbl (m + 1) m w y.2 bs (0 - f r c) q⟩)
          (inv := fun y => y.1 ≤ w ∧ ∀ a b, b < w → y.2 a b = ngk g i y.1 a b) (fun y => w - y.1) (0, G) [0, 1, 2] ⟨by simp, fun a b hb => by rw [show (0, G).2 a b = ng g i a b from hG a b hb]; simp [ngk]⟩ (by (exact aL)) ?_
        clear hG G
        rintro ⟨k, G⟩ ⟨hk, hG⟩
        dsimp only at hk hG ⊢
        (repeat' (conv => whnf); first | refine aS ?_ | refine aG ?_ | refine aD ?_ | refine aH ?_ | refine aP_S2 ?_ | refine aI ?_ | refine aJ ?_ | refine aW (.qs [0, 1, 2, 3, 4, 5, 6, 7, 8, 9, 10, 11, 12, 13, 14, 15, 16, 17, 18, 19, 20, 21, 22, 23, 24, 25, 26, 27, 28, 29, 30, 31, 32, 33, 34, 35, 36, 37, 38] (.l 39 [] .nil .no)) ?_ | refine aW (.qs [0, 1, 2, 3, 4, 5, 6, 7, 8, 9, 10, 11, 12, 13, 14, 15, 16, 17, 18, 19] (.l 20 [] .nil .no)) ?_ | refine ⟨_, rfl, (by simp only [mts_len, vcs_len]; omega), ?_⟩ | refine And.intro (by simp only [mts_len, vcs_len]; omega) ?_ | refine ⟨_, _, rfl, mts_get (by omega), (by simp only [vcs_len]; omega), ?_⟩ | refine ⟨_, _, mts_get (by omega), vcs_get (by omega), ?_⟩ | refine ⟨_, mts_get (by omega), ?_⟩ | refine ⟨_, vcs_get (by omega), ?_⟩ | fail); all_goals try (conv => whnf)
        refine CondOb.mk (fun hlt2 => ?_) (fun hlt2 => ?_)
        · have hlt2 : k < w := by omega
          have hGb : -2147483648 < G i k ∧ G i k < 2147483648 := by
            rw [hG i k hlt2]; simp only [ngk, ng, Nat.lt_irrefl, and_false, if_false]; exact hgb i hlt k hlt2
          (repeat' (conv => whnf); first | refine aS ?_ | refine aG ?_ | refine aD ?_ | refine aH ?_ | refine aP_S2 ?_ | refine aI ?_ | refine aJ ?_ | refine aW (.qs [0, 1, 2, 3, 4, 5, 6, 7, 8, 9, 10, 11, 12, 13, 14, 15, 16, 17, 18, 19, 20, 21, 22, 23, 24, 25, 26, 27, 28, 29, 30, 31, 32, 33, 34, 35, 36, 37, 38] (.l 39 [] .nil .no)) ?_ | refine aW (.qs [0, 1, 2, 3, 4, 5, 6, 7, 8, 9, 10, 11, 12, 13, 14, 15, 16, 17, 18, 19] (.l 20 [] .nil .no)) ?_ | refine ⟨_, rfl, (by simp only [mts_len, vcs_len]; omega), ?_⟩ | refine And.intro (by simp only [mts_len, vcs_len]; omega) ?_ | refine ⟨_, _, rfl, mts_get (by omega), (by simp only [vcs_len]; omega), ?_⟩ | refine ⟨_, _, mts_get (by omega), vcs_get (by omega), ?_⟩ | refine ⟨_, mts_get (by omega), ?_⟩ | refine ⟨_, vcs_get (by omega), ?_⟩ | fail); all_goals try (conv => whnf)
          rw [vcs_set, mts_set]
          exact ⟨(k + 1, _), [0, 1, 2], ⟨by simp only; omega, ngk_step hG hlt2⟩, by simp only; omega, by (exact aL)⟩
        · (repeat' (conv => whnf); first | refine aS ?_ | refine aG ?_ | refine aD ?_ | refine aH ?_ | refine aP_S2 ?_ | refine aI ?_ | refine aJ ?_ | refine aW (.qs [0, 1, 2, 3, 4, 5, 6, 7, 8, 9, 10, 11, 12, 13, 14, 15, 16, 17, 18, 19, 20, 21, 22, 23, 24, 25, 26, 27, 28, 29, 30, 31, 32, 33, 34, 35, 36, 37, 38] (.l 39 [] .nil .no)) ?_ | refine aW (.qs [0, 1, 2, 3, 4, 5, 6, 7, 8, 9, 10, 11, 12, 13, 14, 15, 16, 17, 18, 19] (.l 20 [] .nil .no)) ?_ | fail); all_goals try (conv => whnf)
          exact ⟨(i + 1, G), [0, 1, 2], ⟨by simp only; omega, fun a b hb => by rw [show (i + 1, G).2 a b = ngk g i k a b from hG a b hb]; exact ngk_row (by omega) hb⟩, by simp only; omega, by (exact aL)⟩
      · have hi : i = m + 1 := by omega
        subst hi
        (repeat' (conv => whnf); first | refine aS ?_ | refine aG ?_ | refine aD ?_ | refine aH ?_ | refine aP_S2 ?_ | refine aI ?_ | refine aJ ?_ | refine aW (.qs [0, 1, 2, 3, 4, 5, 6, 7, 8, 9, 10, 11, 12, 13, 14, 15, 16, 17, 18, 19, 20, 21, 22, 23, 24, 25, 26, 27, 28, 29, 30, 31, 32, 33, 34, 35, 36, 37, 38] (.l 39 [] .nil .no)) ?_ | refine aW (.qs [0, 1, 2, 3, 4, 5, 6, 7, 8, 9, 10, 11, 12, 13, 14, 15, 16, 17, 18, 19] (.l 20 [] .nil .no)) ?_ | refine ⟨_, rfl, (by simp only [mts_len, vcs_len]; omega), ?_⟩ | refine And.intro (by simp only [mts_len, vcs_len]; omega) ?_ | refine ⟨_, _, rfl, mts_get (by omega), (by simp only [vcs_len]; omega), ?_⟩ | refine ⟨_, _, mts_get (by omega), vcs_get (by omega), ?_⟩ | refine ⟨_, mts_get (by omega), ?_⟩ | refine ⟨_, vcs_get (by omega), ?_⟩ | fail); all_goals try (conv => whnf)
        rw [vcs_set]
        exact ⟨(G, up bs r c, 0 - f r c, q), fun _ => ⟨fun a ha b hb => by rw [show (G, up bs r c, 0 - f r c, q).1 a b = ng g (m + 1) a b from hG a b hb, ng, if_pos ha, hg a b hb]; exact ng_pv hneg ha,
          fun a ha b hb => by have := hgb a ha b hb; show _ < G a b ∧ G a b < _; rw [hG a b hb, ng, if_pos ha]; omega, by simp only; omega, rfl⟩, OI.refl _, Imp.refl _⟩
    · (repeat' (conv => whnf); first | refine aS ?_ | refine aG ?_ | refine aD ?_ | refine aH ?_ | refine aP_S2 ?_ | refine aI ?_ | refine aJ ?_ | refine aW (.qs [0, 1, 2, 3, 4, 5, 6, 7, 8, 9, 10, 11, 12, 13, 14, 15, 16, 17, 18, 19, 20, 21, 22, 23, 24, 25, 26, 27, 28, 29, 30, 31, 32, 33, 34, 35, 36, 37, 38] (.l 39 [] .nil .no)) ?_ | refine aW (.qs [0, 1, 2, 3, 4, 5, 6, 7, 8, 9, 10, 11, 12, 13, 14, 15, 16, 17, 18, 19] (.l 20 [] .nil .no)) ?_ | refine ⟨_, rfl, (by simp only [mts_len, vcs_len]; omega), ?_⟩ | refine And.intro (by simp only [mts_len, vcs_len]; omega) ?_ | refine ⟨_, _, rfl, mts_get (by omega), (by simp only [vcs_len]; omega), ?_⟩ | refine ⟨_, _, mts_get (by omega), vcs_get (by omega), ?_⟩ | refine ⟨_, mts_get (by omega), ?_⟩ | refine ⟨_, vcs_get (by omega), ?_⟩ | fail); all_goals try (conv => whnf)
      rw [vcs_set]
      exact ⟨(g, up bs r c, f r c, q), fun _ => ⟨fun a ha b hb => by rw [show (g, up bs r c, f r c, q).1 a b = nw f r c d (m + 1) a b from hg a b hb]; exact nw_pv (by omega) ha, hgb, by simp only; omega, rfl⟩, OI.refl _, Imp.refl _⟩
end Go.Proofs.Ytbdahmfjeklgbaa
