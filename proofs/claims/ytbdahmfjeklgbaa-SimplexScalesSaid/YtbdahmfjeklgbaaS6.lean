/-
  A text of the proofs of this seat: lemmas that the statements' proofs use; it states nothing of the program by itself beyond the contracts that its theorems bear. Conditions: those that stand in each theorem. Its short name: S6.
-/
import Derived.Test.YtbdahmfjeklgbaaS5
import Derived.Test.YtbdahmfjeklgbaaS7
set_option linter.unusedVariables false
set_option linter.unusedSimpArgs false
namespace Go.Proofs.Ytbdahmfjeklgbaa
open Go.Sx Go.Fq
set_option maxRecDepth 4000
set_option maxHeartbeats 2000000
/- the sign of a slack -/
def sns (w : Rw) : Int := if w.2.1 = 1 then 1 else if w.2.1 = 2 then -1 else 0
def sg (b : Int) : Int := if b < 0 then -1 else 1
/- a row of the first table -/
structure RowI (n m i : Nat) (w : Rw) (b : Int) (g : Nat → Int) : Prop where
  b0 : b ≠ 0
  bb : -2147483648 < b ∧ b < 2147483648
  b1 : (∀ f ∈ w.1 ++ [w.2.2], f.2 = 1) → b = 1 ∨ b = -1
  co : ∀ k < n, (g k : Rat) = b * val (w.1.getD k (0, 1))
  bo : (g (n + 2 * m) : Rat) = b * val w.2.2
  nn : 0 ≤ g (n + 2 * m)
  sl : ∀ k < m, g (n + k) = if k = i then sg b * sns w else 0
  ar : ∀ k < m, g (n + m + k) = if k = i then 1 else 0
  bd : ∀ k < n + 2 * m + 1, -2147483648 < g k ∧ g k < 2147483648
structure IniP (p : Pr) (y : Nat × (Nat → Int) × (Nat → Int) × (Nat → Nat → Int)) : Prop where
  le : y.1 ≤ p.r.length
  bs : ∀ i < y.1, y.2.1 i = p.c.length + p.r.length + i
  row : ∀ i < y.1, RowI p.c.length p.r.length i (p.r.getD i rw0) (y.2.2.1 i) (y.2.2.2 i)
def ngr (g : Nat → Int) (k j : Nat) : Int := if j < k then 0 - g j else g j
theorem ngr_step {g : Nat → Int} {k : Nat} : up (ngr g k) k (0 - ngr g k k) = ngr g (k + 1) := by
  funext j; unfold up ngr
  by_cases h : j = k
  · subst h; simp
  · simp only [if_neg h, show j < k ↔ j < k + 1 by omega]
def cst (n m i k : Nat) : Int := if n + m ≤ k ∧ k < n + m + i then 1 else 0
theorem cst_step {n m i : Nat} : up (cst n m i) (n + m + i) 1 = cst n m (i + 1) := by
  funext j; unfold up cst
  by_cases h : j = n + m + i
  · subst h; simp
  · rw [if_neg h]; simp only [show (n + m ≤ j ∧ j < n + m + i) ↔ (n + m ≤ j ∧ j < n + m + (i + 1)) by omega]
def cs (f : Nat → Nat → Int) : Nat → Nat → Int
  | 0, _ => 0
  | i + 1, k => cs f i k + f i k
theorem cst_bd {n m i k : Nat} : 0 ≤ cst n m i k ∧ cst n m i k ≤ 1 := by unfold cst; split <;> omega
/- the first table of the costs of the artificial variables -/
def Ini (p : Pr) (by' : Nat → Int) (s : TS) : Prop :=
  (∀ i < p.r.length, RowI p.c.length p.r.length i (p.r.getD i rw0) (by' i) (s.1 i)) ∧ (∀ i < p.r.length, s.2.1 i = p.c.length + p.r.length + i) ∧ s.2.2 = 1 ∧
  ∀ k < p.c.length + 2 * p.r.length + 1, s.1 p.r.length k = cst p.c.length p.r.length p.r.length k - cs s.1 p.r.length k
/- columns of the table less the bound; that of the bound -/
abbrev nC (p : Pr) : Nat := p.c.length + p.r.length
abbrev nE (p : Pr) : Nat := p.c.length + 2 * p.r.length
/- an artificial variable leaves the basis -/
inductive Arts (m w C : Nat) (s : TS) : TS → Prop
  | refl : Arts m w C s s
  | step {s' s'' : TS} {r c : Nat} (h : Arts m w C s s') (hr : r < m) (hc : c < C) (hb : (C : Int) ≤ s'.2.1 r) (hp : s'.1 r c ≠ 0) (k : Piv m w s' r c s'') : Arts m w C s s''
/- the table of phase 1 at its end -/
structure Ph1 (p : Pr) (by' : Nat → Int) (s0 s1 : TS) (z : Int) : Prop where
  vp : VP p
  ini : Ini p by' s0
  tk0 : Tok p.r.length (nE p + 1) s0
  run : Run p.r.length (nE p) (nC p) s0 s1
  tk1 : Tok p.r.length (nE p + 1) s1
  ends : Ends p.r.length (nC p) s1.1 z
structure ArA (p : Pr) (s1 : TS) (i k : Nat) (s : TS) : Prop where
  art : Arts p.r.length (nE p + 1) (nC p) s1 s
  tk : Tok p.r.length (nE p + 1) s
  z : ∀ a < i, (nC p : Int) ≤ s.2.1 a → ∀ j < nC p, s.1 a j = 0
  zi : (nC p : Int) ≤ s.2.1 i → ∀ j < k, s.1 i j = 0
theorem ArA.skip {p : Pr} {s1 : TS} {i k : Nat} {s : TS} (h : ArA p s1 i k s) (h0 : s.1 i k = 0) : ArA p s1 i (k + 1) s :=
  ⟨h.art, h.tk, h.z, fun hb j hj => by
    by_cases e : j = k
    · subst e; exact h0
    · exact h.zi hb j (by omega)⟩
theorem ArA.next {p : Pr} {s1 : TS} {i k : Nat} {s : TS} (h : ArA p s1 i k s) (hn : ¬(nC p : Int) ≤ s.2.1 i ∨ nC p ≤ k) : ArA p s1 (i + 1) 0 s :=
  ⟨h.art, h.tk, fun a ha hb j hj => by
    by_cases e : a = i
    · subst e
      rcases hn with hn | hn
      · exact absurd hb hn
      · exact h.zi hb j (by omega)
    · exact h.z a (by omega) hb j hj, fun _ j hj => absurd hj (by simp)⟩
theorem piv_zero {m w : Nat} {s s' : TS} {r c a : Nat} (h : Piv m w s r c s') (ha : a < m + 1) (hn : a ≠ r) (hc : s.1 a c = 0) {b : Nat} (hb : b < w) (h0 : s.1 a b = 0) : s'.1 a b = 0 := by
  rw [h.eq a ha b hb]; unfold pv nw1; rw [h0, hc, if_neg hn]; simp
theorem ArA.piv {p : Pr} {s1 : TS} {i k : Nat} {s s' : TS} (h : ArA p s1 i k s) (hi : i < p.r.length) (hk : k < nC p) (hb : (nC p : Int) ≤ s.2.1 i) (hp : s.1 i k ≠ 0) (hP : Piv p.r.length (nE p + 1) s i k s') : ArA p s1 i (k + 1) s' := by
  have hE : nC p ≤ nE p := by unfold nC nE; omega
  refine ⟨.step h.art hi hk hb hp hP, hP.tok h.tk hi (by omega) hp, ?_, ?_⟩
  · intro a ha hb' j hj
    have e : s'.2.1 a = s.2.1 a := by rw [hP.bs]; unfold up; rw [if_neg (by omega)]
    rw [e] at hb'
    exact piv_zero hP (by omega) (by omega) (h.z a ha hb' k hk) (by omega) (h.z a ha hb' j hj)
  · intro hb' j hj
    have e : s'.2.1 i = k := by rw [hP.bs]; simp [up]
    rw [e] at hb'; omega
/- the costs of the variables, times sc -/
def cc (p : Pr) (sc : Int) (k : Nat) : Int := if k < p.c.length then (p.c.getD k (0, 1)).1 * (sc / (p.c.getD k (0, 1)).2) else 0
def red (p : Pr) (sc : Int) (s : TS) : Nat → Nat → Int
  | 0, k => cc p sc k * s.2.2
  | i + 1, k => red p sc s i k - cc p sc (s.2.1 i).toNat * s.1 i k
structure Ph2 (p : Pr) (sc : Int) (s1 s2 s3 s4 : TS) (z : Int) : Prop where
  ob : s1.1 p.r.length (nE p) = 0
  art : Arts p.r.length (nE p + 1) (nC p) s1 s2
  azr : ∀ a < p.r.length, (nC p : Int) ≤ s2.2.1 a → ∀ j < nC p, s2.1 a j = 0
  sc1 : 1 ≤ sc ∧ sc < 2147483648
  scd : ∀ f ∈ p.c, f.2 ∣ sc
  row : ∀ i < p.r.length, ∀ k < nE p + 1, s3.1 i k = s2.1 i k
  cost : ∀ k < nE p + 1, s3.1 p.r.length k = red p sc s2 p.r.length k
  rest : s3.2 = s2.2
  tk3 : Tok p.r.length (nE p + 1) s3
  run : Run p.r.length (nE p) (nC p) s3 s4
  tk4 : Tok p.r.length (nE p + 1) s4
  ends : Ends p.r.length (nC p) s4.1 z
def fr (a b : Int) : F := ((fnew a b).1, (fnew a b).2.1)
def pt (E : Nat) (s : TS) : Nat → Nat → F
  | 0, _ => (0, 1)
  | i + 1, k => if s.2.1 i = k then fr (s.1 i E) s.2.2 else pt E s i k
def ry (z : Int) (s : TS) : Nat → Nat → F
  | 0, k => if z = k then (1, 1) else (0, 1)
  | i + 1, k => if 0 ≤ z ∧ s.2.1 i = k then fr (0 - s.1 i z.toNat) s.2.2 else ry z s i k
def lst (n : Nat) (g : Nat → F) : List F := (List.range n).map g
inductive SolP (p : Pr) : Sol → Prop
  | inf {by' : Nat → Int} {s0 s1 : TS} {z : Int} {Y : List F} (h : Ph1 p by' s0 s1 z) (ho : s1.1 p.r.length (nE p) ≠ 0) (hl : Y.length = p.r.length) (hY : ∀ i < p.r.length, DualAt p.r.length p.c.length s1.1 s1.2.2 by' 1 1 i (Y.getD i (0, 1)))
      (hp : (prod (bds p) Y).2.2 = 0 ∧ ∀ j < p.c.length, (prod (col p j) Y).2.2 = 0) : SolP p (3, [], (0, 1), Y, [])
  | unb {by' : Nat → Int} {s0 s1 s2 s3 s4 : TS} {z sc : Int} {c : Nat} (h : Ph1 p by' s0 s1 z) (k : Ph2 p sc s1 s2 s3 s4 c) (hX : ∀ i < p.r.length, s4.2.1 i < p.c.length → (fnew (s4.1 i (nE p)) s4.2.2).2.2 = 0)
      (hY : ∀ i < p.r.length, s4.2.1 i < p.c.length → (fnew (0 - s4.1 i c) s4.2.2).2.2 = 0) (hf : Feas p (lst p.c.length (pt (nE p) s4 p.r.length))) (hr : (∀ w ∈ p.r, (prod w.1 (lst p.c.length (ry c s4 p.r.length))).2.2 = 0) ∧ (prod p.c (lst p.c.length (ry c s4 p.r.length))).2.2 = 0) :
      SolP p (2, lst p.c.length (pt (nE p) s4 p.r.length), (0, 1), [], lst p.c.length (ry c s4 p.r.length))
  | opt {by' : Nat → Int} {s0 s1 s2 s3 s4 : TS} {z sc z' : Int} {Y : List F} (h : Ph1 p by' s0 s1 z) (k : Ph2 p sc s1 s2 s3 s4 z') (hz : z' < 0) (hX : ∀ i < p.r.length, s4.2.1 i < p.c.length → (fnew (s4.1 i (nE p)) s4.2.2).2.2 = 0)
      (hf : Feas p (lst p.c.length (pt (nE p) s4 p.r.length))) (hl : Y.length = p.r.length) (hY : ∀ i < p.r.length, DualAt p.r.length p.c.length s4.1 s4.2.2 by' 0 sc i (Y.getD i (0, 1)))
      (hp : (prod (bds p) Y).2.2 = 0 ∧ ∀ j < p.c.length, (prod (col p j) Y).2.2 = 0) (hv : (prod p.c (lst p.c.length (pt (nE p) s4 p.r.length))).2.2 = 0) :
      SolP p (1, lst p.c.length (pt (nE p) s4 p.r.length), ((prod p.c (lst p.c.length (pt (nE p) s4 p.r.length))).1, (prod p.c (lst p.c.length (pt (nE p) s4 p.r.length))).2.1), Y, [])
def cf (p : Pr) (sc : Int) (i k : Nat) : Int := if k < i then cc p sc k else 0
structure RdA (p : Pr) (sc : Int) (s : TS) (y : Nat × (Nat → Nat → Int) × Prop) : Prop where
  le : y.1 ≤ nE p + 1
  row : ∀ a < p.r.length, ∀ b < nE p + 1, y.2.1 a b = s.1 a b
  ok : ¬y.2.2 → ∀ j < y.1, y.2.1 p.r.length j = red p sc s p.r.length j ∧ -2147483648 < y.2.1 p.r.length j ∧ y.2.1 p.r.length j < 2147483648
structure PtA (p : Pr) (z : Int) (s : TS) (y : Nat × Prop) : Prop where
  le : y.1 ≤ p.r.length
  x : ¬y.2 → ∀ a < y.1, s.2.1 a < p.c.length → (fnew (s.1 a (nE p)) s.2.2).2.2 = 0
  r : ¬y.2 → 0 ≤ z → ∀ a < y.1, s.2.1 a < p.c.length → (fnew (0 - s.1 a z.toNat) s.2.2).2.2 = 0
theorem iv_val {a : F} {s : Int} (hv : VF a) (hd : a.2 ∣ s) : ((a.1 * (s / a.2) : Int) : Rat) = s * val a := by
  obtain ⟨c, rfl⟩ := hd
  have h2 : a.2 ≠ 0 := by have := hv.1; omega
  rw [Int.mul_ediv_cancel_left _ h2]
  have hq : (a.2 : Rat) ≠ 0 := by simpa using h2
  have e : val a * (a.2 : Rat) = (a.1 : Rat) := by
    have h1 : ((a.2 : Int) : Rat) = Rat.divInt a.2 1 := (Rat.num_divInt_den (a.2 : Rat)).symm
    have h3 : ((a.1 : Int) : Rat) = Rat.divInt a.1 1 := (Rat.num_divInt_den (a.1 : Rat)).symm
    rw [h1, h3]; unfold val
    rw [Rat.divInt_mul_divInt, Int.mul_comm a.1 a.2, Rat.divInt_mul_left h2]
  rw [Rat.intCast_mul, Rat.intCast_mul, ← e]
  grind
end Go.Proofs.Ytbdahmfjeklgbaa
