/-
  A text of the proofs of this seat: lemmas that the statements' proofs use; it states nothing of the program by itself beyond the contracts that its theorems bear. Conditions: those that stand in each theorem. Its short name: S6.
-/
import Derived.Test.YtdkfgecaejmanaaS5
import Derived.Test.YtdkfgecaejmanaaS7
set_option linter.unusedVariables false
set_option linter.unusedSimpArgs false
namespace Go.Proofs.Ytdkfgecaejmanaa
open Go.Sx Go.Fq
set_option maxRecDepth 4000
set_option maxHeartbeats 2000000
/- the sign of a slack -/
def sns (w : Rw) : Int := if w.2.1 = 1 then 1 else if w.2.1 = 2 then -1 else 0
def sg (b : Int) : Int := if b < 0 then -1 else 1
/- a row of the first table -/
structure RowI (n m i : Nat) (w : Rw) (b : Int) (g : Nat → Int) : Prop where
  b0 : b ≠ 0
  bb : -2147483648 < b ∧ b < 2147483648
  co : ∀ k < n, (g k : Rat) = b * val (w.1.getD k (0, 1))
  bo : (g (n + 2 * m) : Rat) = b * val w.2.2
  nn : 0 ≤ g (n + 2 * m)
  sl : ∀ k < m, g (n + k) = if k = i then sg b * sns w else 0
  ar : ∀ k < m, g (n + m + k) = if k = i then 1 else 0
  bd : ∀ k < n + 2 * m + 1, -2147483648 < g k ∧ g k < 2147483648
structure IniP (p : Pr) (y : Nat × (Nat → Int) × (Nat → Int) × (Nat → Nat → Int)) : Prop where
  le : y.1 ≤ p.r.length
  bs : ∀ i < y.1, y.2.1 i = p.c.length + p.r.length + i
  row : ∀ i < y.1, RowI p.c.length p.r.length i (p.r.getD i rw0) (y.2.2.1 i) (y.2.2.2 i)
theorem up_up {g : Nat → Int} {i : Nat} {a b : Int} : up (up g i a) i b = up g i b := by
  funext j; unfold up; split <;> rfl
def ngr (g : Nat → Int) (k j : Nat) : Int := if j < k then 0 - g j else g j
theorem ngr_step {g : Nat → Int} {k : Nat} : up (ngr g k) k (0 - ngr g k k) = ngr g (k + 1) := by
  funext j; unfold up ngr
  by_cases h : j = k
  · subst h; simp
  · simp only [if_neg h, show j < k ↔ j < k + 1 by omega]
theorem iniP_bs {a : Int} {i : Nat} {bs : Nat → Int} (h : ∀ j < i, bs j = a + j) : ∀ j < i + 1, up bs i (a + i) j = a + j := by
  intro j hj; unfold up; split
  · rename_i e; subst e; rfl
  · exact h j (by omega)
theorem iniP_row {n m i : Nat} {l : List Rw} {bY : Nat → Int} {f : Nat → Nat → Int} {b : Int} {g : Nat → Int} (h : ∀ j < i, RowI n m j (l.getD j rw0) (bY j) (f j)) (hn : RowI n m i (l.getD i rw0) b g) :
    ∀ j < i + 1, RowI n m j (l.getD j rw0) (up bY i b j) (up2 f i g j) := by
  intro j hj
  by_cases e : j = i
  · subst e
    have e1 : up bY j b j = b := by simp [up]
    have e2 : up2 f j g j = g := by funext k; simp [up2]
    rw [e1, e2]; exact hn
  · have e1 : up bY i b j = bY j := by simp [up, e]
    have e2 : up2 f i g j = f j := by funext k; simp [up2, e]
    rw [e1, e2]; exact h j (by omega)
def cst (n m i k : Nat) : Int := if n + m ≤ k ∧ k < n + m + i then 1 else 0
theorem cst_step {n m i : Nat} : up (cst n m i) (n + m + i) 1 = cst n m (i + 1) := by
  funext j; unfold up cst
  by_cases h : j = n + m + i
  · subst h; simp
  · rw [if_neg h]; simp only [show (n + m ≤ j ∧ j < n + m + i) ↔ (n + m ≤ j ∧ j < n + m + (i + 1)) by omega]
def cs (f : Nat → Nat → Int) : Nat → Nat → Int
  | 0, _ => 0
  | i + 1, k => cs f i k + f i k
def ck (n m : Nat) (f : Nat → Nat → Int) (i k j : Nat) : Int := cst n m m j - (if j < k then cs f (i + 1) j else cs f i j)
theorem ck_step {n m : Nat} {f : Nat → Nat → Int} {i k : Nat} : up (ck n m f i k) k (ck n m f i k k - f i k) = ck n m f i (k + 1) := by
  funext j; unfold up ck
  by_cases h : j = k
  · subst h; simp [cs]; omega
  · rw [if_neg h]; simp only [show j < k ↔ j < k + 1 by omega]
theorem ck_row {n m w : Nat} {f : Nat → Nat → Int} {i : Nat} {j : Nat} (hj : j < w) : ck n m f i w j = ck n m f (i + 1) 0 j := by
  unfold ck; rw [if_pos hj, if_neg (by omega)]
theorem cs_bd {f : Nat → Nat → Int} {m w : Nat} (h : ∀ i < m, ∀ k < w, -2147483648 < f i k ∧ f i k < 2147483648) {k : Nat} (hk : k < w) : ∀ {i : Nat}, i ≤ m → -(2147483648 * (i : Int)) ≤ cs f i k ∧ cs f i k ≤ 2147483648 * (i : Int)
  | 0, _ => by simp [cs]
  | i + 1, hi => by
    have h1 := cs_bd h hk (i := i) (by omega)
    have h2 := h i (by omega) k hk
    simp only [cs]; omega
theorem ck_bd {n m w : Nat} {f : Nat → Nat → Int} (hm : m ≤ 24) (h : ∀ i < m, ∀ k < w, -2147483648 < f i k ∧ f i k < 2147483648) {i k j : Nat} (hi : i < m) (hj : j < w) : -214748364800 < ck n m f i k j ∧ ck n m f i k j < 214748364800 := by
  have h1 := cs_bd h hj (i := i) (by omega)
  have h2 := cs_bd h hj (i := i + 1) (by omega)
  unfold ck cst
  split <;> split <;> omega
theorem ck0 {n m : Nat} {f : Nat → Nat → Int} : ck n m f 0 0 = cst n m m := by funext j; simp [ck, cs]
theorem cst_bd {n m i k : Nat} : 0 ≤ cst n m i k ∧ cst n m i k ≤ 1 := by unfold cst; split <;> omega
theorem ck_cond {n m w : Nat} {f : Nat → Nat → Int} {i k : Nat} (h : ∀ j < w, -2147483648 < ck n m f i k j ∧ ck n m f i k j < 2147483648) (h1 : ¬2147483648 ≤ ck n m f i (k + 1) k) (h2 : ¬ck n m f i (k + 1) k ≤ -2147483648) :
    ∀ j < w, -2147483648 < ck n m f i (k + 1) j ∧ ck n m f i (k + 1) j < 2147483648 := by
  intro j hj
  by_cases e : j = k
  · subst e; omega
  · have : ck n m f i (k + 1) j = ck n m f i k j := by unfold ck; simp only [show j < k + 1 ↔ j < k by omega]
    rw [this]; exact h j hj
/- the first table of the costs of the artificial variables -/
def Ini (p : Pr) (by' : Nat → Int) (s : TS) : Prop :=
  (∀ i < p.r.length, RowI p.c.length p.r.length i (p.r.getD i rw0) (by' i) (s.1 i)) ∧ (∀ i < p.r.length, s.2.1 i = p.c.length + p.r.length + i) ∧ s.2.2 = 1 ∧
  ∀ k < p.c.length + 2 * p.r.length + 1, s.1 p.r.length k = cst p.c.length p.r.length p.r.length k - cs s.1 p.r.length k
theorem cs_congr {f g : Nat → Nat → Int} {k : Nat} : ∀ {i : Nat}, (∀ j < i, f j k = g j k) → cs f i k = cs g i k
  | 0, _ => rfl
  | i + 1, h => by simp only [cs]; rw [cs_congr (fun j hj => h j (by omega)), h i (by omega)]
/- columns of the table less the bound; that of the bound -/
abbrev nC (p : Pr) : Nat := p.c.length + p.r.length
abbrev nE (p : Pr) : Nat := p.c.length + 2 * p.r.length
/- an artificial variable leaves the basis -/
inductive Arts (m w C : Nat) (s : TS) : TS → Prop
  | refl : Arts m w C s s
  | step {s' s'' : TS} {r c : Nat} (h : Arts m w C s s') (hr : r < m) (hc : c < C) (hb : (C : Int) ≤ s'.2.1 r) (hp : s'.1 r c ≠ 0) (k : Piv m w s' r c s'') : Arts m w C s s''
/- the table of phase 1 at its end -/
structure Ph1 (p : Pr) (by' : Nat → Int) (s0 s1 : TS) (z : Int) : Prop where
  vp : VP p
  ini : Ini p by' s0
  tk0 : Tok p.r.length (nE p + 1) s0
  run : Run p.r.length (nE p) (nC p) s0 s1
  tk1 : Tok p.r.length (nE p + 1) s1
  ends : Ends p.r.length (nC p) s1.1 z
structure ArA (p : Pr) (s1 : TS) (i k : Nat) (s : TS) : Prop where
  art : Arts p.r.length (nE p + 1) (nC p) s1 s
  tk : Tok p.r.length (nE p + 1) s
  z : ∀ a < i, (nC p : Int) ≤ s.2.1 a → ∀ j < nC p, s.1 a j = 0
  zi : (nC p : Int) ≤ s.2.1 i → ∀ j < k, s.1 i j = 0
theorem ArA.skip {p : Pr} {s1 : TS} {i k : Nat} {s : TS} (h : ArA p s1 i k s) (h0 : s.1 i k = 0) : ArA p s1 i (k + 1) s :=
  ⟨h.art, h.tk, h.z, fun hb j hj => by
    by_cases e : j = k
    · subst e; exact h0
    · exact h.zi hb j (by omega)⟩
theorem ArA.next {p : Pr} {s1 : TS} {i k : Nat} {s : TS} (h : ArA p s1 i k s) (hn : ¬(nC p : Int) ≤ s.2.1 i ∨ nC p ≤ k) : ArA p s1 (i + 1) 0 s :=
  ⟨h.art, h.tk, fun a ha hb j hj => by
    by_cases e : a = i
    · subst e
      rcases hn with hn | hn
      · exact absurd hb hn
      · exact h.zi hb j (by omega)
    · exact h.z a (by omega) hb j hj, fun _ j hj => absurd hj (by simp)⟩
theorem piv_zero {m w : Nat} {s s' : TS} {r c a : Nat} (h : Piv m w s r c s') (ha : a < m + 1) (hn : a ≠ r) (hc : s.1 a c = 0) {b : Nat} (hb : b < w) (h0 : s.1 a b = 0) : s'.1 a b = 0 := by
  rw [h.eq a ha b hb]; unfold pv nw1; rw [h0, hc, if_neg hn]; simp
theorem ArA.piv {p : Pr} {s1 : TS} {i k : Nat} {s s' : TS} (h : ArA p s1 i k s) (hi : i < p.r.length) (hk : k < nC p) (hb : (nC p : Int) ≤ s.2.1 i) (hp : s.1 i k ≠ 0) (hP : Piv p.r.length (nE p + 1) s i k s') : ArA p s1 i (k + 1) s' := by
  have hE : nC p ≤ nE p := by unfold nC nE; omega
  refine ⟨.step h.art hi hk hb hp hP, hP.tok h.tk hi (by omega) hp, ?_, ?_⟩
  · intro a ha hb' j hj
    have e : s'.2.1 a = s.2.1 a := by rw [hP.bs]; unfold up; rw [if_neg (by omega)]
    rw [e] at hb'
    exact piv_zero hP (by omega) (by omega) (h.z a ha hb' k hk) (by omega) (h.z a ha hb' j hj)
  · intro hb' j hj
    have e : s'.2.1 i = k := by rw [hP.bs]; simp [up]
    rw [e] at hb'; omega
/- the costs of the variables, times sc -/
def cc (p : Pr) (sc : Int) (k : Nat) : Int := if k < p.c.length then (p.c.getD k (0, 1)).1 * (sc / (p.c.getD k (0, 1)).2) else 0
def red (p : Pr) (sc : Int) (s : TS) : Nat → Nat → Int
  | 0, k => cc p sc k * s.2.2
  | i + 1, k => red p sc s i k - cc p sc (s.2.1 i).toNat * s.1 i k
structure Ph2 (p : Pr) (sc : Int) (s1 s2 s3 s4 : TS) (z : Int) : Prop where
  ob : s1.1 p.r.length (nE p) = 0
  art : Arts p.r.length (nE p + 1) (nC p) s1 s2
  azr : ∀ a < p.r.length, (nC p : Int) ≤ s2.2.1 a → ∀ j < nC p, s2.1 a j = 0
  sc1 : 1 ≤ sc ∧ sc < 2147483648
  scd : ∀ f ∈ p.c, f.2 ∣ sc
  row : ∀ i < p.r.length, ∀ k < nE p + 1, s3.1 i k = s2.1 i k
  cost : ∀ k < nE p + 1, s3.1 p.r.length k = red p sc s2 p.r.length k
  rest : s3.2 = s2.2
  tk3 : Tok p.r.length (nE p + 1) s3
  run : Run p.r.length (nE p) (nC p) s3 s4
  tk4 : Tok p.r.length (nE p + 1) s4
  ends : Ends p.r.length (nC p) s4.1 z
def fr (a b : Int) : F := ((fnew a b).1, (fnew a b).2.1)
def pt (E : Nat) (s : TS) : Nat → Nat → F
  | 0, _ => (0, 1)
  | i + 1, k => if s.2.1 i = k then fr (s.1 i E) s.2.2 else pt E s i k
def ry (z : Int) (s : TS) : Nat → Nat → F
  | 0, k => if z = k then (1, 1) else (0, 1)
  | i + 1, k => if 0 ≤ z ∧ s.2.1 i = k then fr (0 - s.1 i z.toNat) s.2.2 else ry z s i k
def lst (n : Nat) (g : Nat → F) : List F := (List.range n).map g
inductive SolP (p : Pr) : Sol → Prop
  | inf {by' : Nat → Int} {s0 s1 : TS} {z : Int} {Y : List F} (h : Ph1 p by' s0 s1 z) (ho : s1.1 p.r.length (nE p) ≠ 0) (hl : Y.length = p.r.length) (hY : ∀ i < p.r.length, DualAt p.r.length p.c.length s1.1 s1.2.2 by' 1 1 i (Y.getD i (0, 1)))
      (hp : (prod (bds p) Y).2.2 = 0 ∧ ∀ j < p.c.length, (prod (col p j) Y).2.2 = 0) : SolP p (3, [], (0, 1), Y, [])
  | unb {by' : Nat → Int} {s0 s1 s2 s3 s4 : TS} {z sc : Int} {c : Nat} (h : Ph1 p by' s0 s1 z) (k : Ph2 p sc s1 s2 s3 s4 c) (hX : ∀ i < p.r.length, s4.2.1 i < p.c.length → (fnew (s4.1 i (nE p)) s4.2.2).2.2 = 0)
      (hY : ∀ i < p.r.length, s4.2.1 i < p.c.length → (fnew (0 - s4.1 i c) s4.2.2).2.2 = 0) (hf : Feas p (lst p.c.length (pt (nE p) s4 p.r.length))) (hr : (∀ w ∈ p.r, (prod w.1 (lst p.c.length (ry c s4 p.r.length))).2.2 = 0) ∧ (prod p.c (lst p.c.length (ry c s4 p.r.length))).2.2 = 0) :
      SolP p (2, lst p.c.length (pt (nE p) s4 p.r.length), (0, 1), [], lst p.c.length (ry c s4 p.r.length))
  | opt {by' : Nat → Int} {s0 s1 s2 s3 s4 : TS} {z sc z' : Int} {Y : List F} (h : Ph1 p by' s0 s1 z) (k : Ph2 p sc s1 s2 s3 s4 z') (hz : z' < 0) (hX : ∀ i < p.r.length, s4.2.1 i < p.c.length → (fnew (s4.1 i (nE p)) s4.2.2).2.2 = 0)
      (hf : Feas p (lst p.c.length (pt (nE p) s4 p.r.length))) (hl : Y.length = p.r.length) (hY : ∀ i < p.r.length, DualAt p.r.length p.c.length s4.1 s4.2.2 by' 0 sc i (Y.getD i (0, 1)))
      (hp : (prod (bds p) Y).2.2 = 0 ∧ ∀ j < p.c.length, (prod (col p j) Y).2.2 = 0) (hv : (prod p.c (lst p.c.length (pt (nE p) s4 p.r.length))).2.2 = 0) :
      SolP p (1, lst p.c.length (pt (nE p) s4 p.r.length), ((prod p.c (lst p.c.length (pt (nE p) s4 p.r.length))).1, (prod p.c (lst p.c.length (pt (nE p) s4 p.r.length))).2.1), Y, [])
def SolR (p : Pr) (x : Sol × Int) : Prop := (x.2 = 0 ∧ SolP p x.1) ∨ (x.2 ≠ 0 ∧ x.1 = (0, [], (0, 0), [], []))
def cf (p : Pr) (sc : Int) (i k : Nat) : Int := if k < i then cc p sc k else 0
theorem cf_step {p : Pr} {sc : Int} {i : Nat} (hi : i < p.c.length) : up (cf p sc i) i ((p.c.getD i (0, 1)).1 * (sc / (p.c.getD i (0, 1)).2)) = cf p sc (i + 1) := by
  funext j; unfold up cf
  by_cases h : j = i
  · subst h; simp [cc, hi]
  · rw [if_neg h]; simp only [show j < i ↔ j < i + 1 by omega]
theorem cf_end {p : Pr} {sc : Int} : cf p sc p.c.length = cc p sc := by
  funext j; unfold cf cc
  by_cases h : j < p.c.length <;> simp [h]
structure RdA (p : Pr) (sc : Int) (s : TS) (y : Nat × (Nat → Nat → Int) × Prop) : Prop where
  le : y.1 ≤ nE p + 1
  row : ∀ a < p.r.length, ∀ b < nE p + 1, y.2.1 a b = s.1 a b
  ok : ¬y.2.2 → ∀ j < y.1, y.2.1 p.r.length j = red p sc s p.r.length j ∧ -2147483648 < y.2.1 p.r.length j ∧ y.2.1 p.r.length j < 2147483648
theorem red_pos {p : Pr} {sc : Int} {s : TS} {f : Nat → Nat → Int} {i k : Nat} {v : Int} (hv : v = red p sc s i k) (hf : f i k = s.1 i k) : v - cc p sc (s.2.1 i).toNat * f i k = red p sc s (i + 1) k := by
  rw [hv, hf]; rfl
theorem rdA_step {p : Pr} {sc : Int} {s : TS} {k : Nat} {f : Nat → Nat → Int} {q : Prop} {v : Int} (hk : k < nE p + 1) (hrow : ∀ a < p.r.length, ∀ b < nE p + 1, f a b = s.1 a b)
    (hok : ¬q → ∀ j < k, f p.r.length j = red p sc s p.r.length j ∧ -2147483648 < f p.r.length j ∧ f p.r.length j < 2147483648) (q' : Prop) (hq : ¬q' → ¬q ∧ v = red p sc s p.r.length k ∧ -2147483648 < v ∧ v < 2147483648) :
    RdA p sc s (k + 1, up2 f p.r.length (up (f p.r.length) k v), q') := by
  refine ⟨hk, fun a ha b hb => ?_, fun h j hj => ?_⟩
  · have : up2 f p.r.length (up (f p.r.length) k v) a b = f a b := by unfold up2; rw [if_neg (by omega)]
    exact this.trans (hrow a ha b hb)
  · dsimp only at h hj ⊢
    obtain ⟨h1, h2, h3⟩ := hq h
    have e : up2 f p.r.length (up (f p.r.length) k v) p.r.length j = if j = k then v else f p.r.length j := by simp [up2, up]
    rw [e]
    split
    · rename_i ej; subst ej; exact ⟨h2, h3⟩
    · exact hok h1 j (by omega)
theorem lst_len (n : Nat) (g : Nat → F) : (lst n g).length = n := by simp [lst]
theorem lst_get {n : Nat} {g : Nat → F} {k : Nat} (h : k < n) : (fr2 (lst n g))[k]? = some [i64 (g k).1, i64 (g k).2] := by simp [lst, h]
def upF (g : Nat → F) (k : Nat) (v : F) (j : Nat) : F := if j = k then v else g j
theorem lst_set {n : Nat} {g : Nat → F} {k : Nat} {a b : Int} : (fr2 (lst n g)).set k [i64 a, i64 b] = fr2 (lst n (upF g k (a, b))) := by
  apply List.ext_getElem?
  intro j
  by_cases hj : j < n
  · rw [lst_get hj, List.getElem?_set]
    by_cases e : k = j
    · subst e; simp [lst, hj, upF]
    · rw [if_neg e, lst_get hj]; simp [upF, Ne.symm e]
  · rw [List.getElem?_eq_none (by simp [lst]; omega), List.getElem?_eq_none (by simp [lst]; omega)]
theorem lst_repl (n : Nat) : List.replicate n [i64 0, i64 0] = fr2 (lst n (fun _ => (0, 0))) := by
  apply List.ext_getElem?
  intro j
  by_cases hj : j < n
  · rw [lst_get hj]; simp [hj]
  · rw [List.getElem?_eq_none (by simp; omega), List.getElem?_eq_none (by simp [lst]; omega)]
def zk (k j : Nat) : F := if j < k then (0, 1) else (0, 0)
theorem zk_step {k : Nat} : upF (zk k) k (0, 1) = zk (k + 1) := by
  funext j; unfold upF zk
  by_cases h : j = k
  · subst h; simp
  · rw [if_neg h]; simp only [show j < k ↔ j < k + 1 by omega]
theorem lst_congr {n : Nat} {g h : Nat → F} (e : ∀ k < n, g k = h k) : lst n g = lst n h := by
  unfold lst; apply List.map_congr_left; intro k hk; exact e k (by simpa using hk)
theorem zk_end {n : Nat} : lst n (zk n) = lst n (fun _ => (0, 1)) := lst_congr fun k hk => by unfold zk; rw [if_pos hk]
theorem ry0_neg {n : Nat} {z : Int} {s : TS} (h : ¬(0 ≤ z ∧ z < n)) : lst n (ry z s 0) = lst n (fun _ => (0, 1)) := lst_congr fun k hk => by unfold ry; rw [if_neg (by omega)]
theorem ry0_pos {n : Nat} {z : Int} {s : TS} (h : 0 ≤ z) : lst n (ry z s 0) = lst n (upF (fun _ => (0, 1)) z.toNat (1, 1)) := lst_congr fun k hk => by
  unfold ry upF; by_cases e : z = k
  · rw [if_pos e, if_pos (by omega)]
  · rw [if_neg e, if_neg (by omega)]
theorem pt_hit {n E i : Nat} {s : TS} {b : Nat} (h : s.2.1 i = b) : lst n (upF (pt E s i) b (fr (s.1 i E) s.2.2)) = lst n (pt E s (i + 1)) := lst_congr fun k _ => by
  unfold upF; simp only [pt, h]; by_cases e : k = b
  · subst e; simp
  · rw [if_neg e, if_neg (by omega)]
theorem pt_miss {n E i : Nat} {s : TS} (h : ¬s.2.1 i < n) : lst n (pt E s i) = lst n (pt E s (i + 1)) := lst_congr fun k _ => by
  simp only [pt]; rw [if_neg (by omega)]
theorem ry_hit {n i : Nat} {s : TS} {b : Nat} {z : Int} (hz : 0 ≤ z) (h : s.2.1 i = b) : lst n (upF (ry z s i) b (fr (0 - s.1 i z.toNat) s.2.2)) = lst n (ry z s (i + 1)) := lst_congr fun k _ => by
  unfold upF; simp only [ry, h]; by_cases e : k = b
  · subst e; simp [hz]
  · rw [if_neg e, if_neg (by omega)]
theorem ry_miss {n i : Nat} {s : TS} {z : Int} (h : ¬(0 ≤ z ∧ s.2.1 i < n)) : lst n (ry z s i) = lst n (ry z s (i + 1)) := lst_congr fun k _ => by
  simp only [ry]; rw [if_neg (by omega)]
structure PtA (p : Pr) (z : Int) (s : TS) (y : Nat × Prop) : Prop where
  le : y.1 ≤ p.r.length
  x : ¬y.2 → ∀ a < y.1, s.2.1 a < p.c.length → (fnew (s.1 a (nE p)) s.2.2).2.2 = 0
  r : ¬y.2 → 0 ≤ z → ∀ a < y.1, s.2.1 a < p.c.length → (fnew (0 - s.1 a z.toNat) s.2.2).2.2 = 0
theorem fx_step {i n : Nat} {bs : Nat → Int} {P : Nat → Prop} (h : ∀ a < i, bs a < n → P a) (hi : P i) : ∀ a < i + 1, bs a < n → P a := by
  intro a ha hb
  by_cases e : a = i
  · subst e; exact hi
  · exact h a (by omega) hb
def iv (all : List F) (s : Int) (j : Nat) : Int := (all.getD j (0, 1)).1 * (s / (all.getD j (0, 1)).2)
def rowk (all : List F) (s : Int) (n E k j : Nat) : Int := if j < n ∧ j < k then iv all s j else if j = E ∧ n < k then iv all s n else 0
theorem rowk_step {all : List F} {s : Int} {n E k : Nat} (hk : k ≤ n) (he : n ≤ E := by omega) (j : Nat) : up (rowk all s n E k) (if k = n then E else k) (iv all s k) j = rowk all s n E (k + 1) j := by
  unfold up rowk
  by_cases h : k = n
  · subst h
    by_cases h2 : j = E
    · subst h2
      simp [show ¬ j < k by omega]
    · simp only [if_pos, if_neg h2]
      by_cases h3 : j < k <;> simp [h3, h2, show j < k + 1 ↔ j < k ∨ j = k by omega]
  · rw [if_neg h]
    by_cases h2 : j = k
    · subst h2; simp [show j < n by omega]
    · simp only [if_neg h2, show j < k + 1 ↔ j < k by omega, show n < k ↔ n < k + 1 by omega]
def rowS (all : List F) (s : Int) (n E i : Nat) (z : Int) (j : Nat) : Int := if j = n + i then z else rowk all s n E (n + 1) j
theorem rowS_E {w : Rw} {s : Int} {n E i : Nat} {z : Int} (hl : w.1.length = n) (he : n + i < E) : rowS (w.1 ++ [w.2.2]) s n E i z E = w.2.2.1 * (s / w.2.2.2) := by
  unfold rowS rowk iv
  rw [if_neg (by omega), if_neg (by omega), if_pos (by simp)]
  rw [List.getD_eq_getElem?_getD, List.getElem?_append_right (by omega), hl]; simp
theorem rowS_bd {all : List F} {s : Int} {n E i : Nat} {z : Int} (h : ∀ k, k ≤ n → -2147483648 < iv all s k ∧ iv all s k < 2147483648) (hz : -2 ≤ z ∧ z ≤ 2) {j : Nat} : -2147483648 < rowS all s n E i z j ∧ rowS all s n E i z j < 2147483648 := by
  unfold rowS rowk
  split
  · omega
  · split
    · exact h j (by omega)
    · split
      · exact h n (Nat.le_refl _)
      · omega
theorem iv_val {a : F} {s : Int} (hv : VF a) (hd : a.2 ∣ s) : ((a.1 * (s / a.2) : Int) : Rat) = s * val a := by
  obtain ⟨c, rfl⟩ := hd
  have h2 : a.2 ≠ 0 := by have := hv.1; omega
  rw [Int.mul_ediv_cancel_left _ h2]
  have hq : (a.2 : Rat) ≠ 0 := by simpa using h2
  have e : val a * (a.2 : Rat) = (a.1 : Rat) := by
    have h1 : ((a.2 : Int) : Rat) = Rat.divInt a.2 1 := (Rat.num_divInt_den (a.2 : Rat)).symm
    have h3 : ((a.1 : Int) : Rat) = Rat.divInt a.1 1 := (Rat.num_divInt_den (a.1 : Rat)).symm
    rw [h1, h3]; unfold val
    rw [Rat.divInt_mul_divInt, Int.mul_comm a.1 a.2, Rat.divInt_mul_left h2]
  rw [Rat.intCast_mul, Rat.intCast_mul, ← e]
  grind
theorem rowI_mk {n m i : Nat} {w : Rw} {s b : Int} {g g' : Nat → Int} (hn : w.1.length = n) (hvw : ∀ f ∈ w.1, VF f) (hvb : VF w.2.2) (s1 : 1 ≤ s) (s2 : s < 2147483648) (hsd : ∀ f ∈ w.1 ++ [w.2.2], f.2 ∣ s) (hi : i < m)
    (hg : ∀ j, g j = rowS (w.1 ++ [w.2.2]) s n (n + 2 * m) i (sns w) j) (hgb : ∀ j < n + 2 * m + 1, -2147483648 < g j ∧ g j < 2147483648) (hb : b = s ∨ b = -s) (h0 : 0 ≤ g' (n + 2 * m)) (hg' : ∀ j < n + 2 * m + 1, g' j = sg b * g j) :
    RowI n m i w b (up g' (n + m + i) 1) := by
  have hsb : sg b * s = b := by unfold sg; rcases hb with h | h <;> subst h <;> split <;> omega
  have hs1 : sg b = 1 ∨ sg b = -1 := by unfold sg; split <;> omega
  have hu : ∀ j, j ≠ n + m + i → up g' (n + m + i) 1 j = g' j := fun j h => by unfold up; rw [if_neg h]
  have hbs : ((sg b : Int) : Rat) * (s : Rat) = (b : Rat) := by rw [← Rat.intCast_mul, hsb]
  refine ⟨by omega, by omega, ?_, ?_, ?_, ?_, ?_, ?_⟩
  · intro k hk
    rw [hu k (by omega), hg' k (by omega), hg]
    have e : rowS (w.1 ++ [w.2.2]) s n (n + 2 * m) i (sns w) k = (w.1.getD k (0, 1)).1 * (s / (w.1.getD k (0, 1)).2) := by
      unfold rowS rowk iv
      rw [if_neg (by omega), if_pos (by omega)]
      have : (w.1 ++ [w.2.2]).getD k (0, 1) = w.1.getD k (0, 1) := by
        rw [List.getD_eq_getElem?_getD, List.getElem?_append_left (by omega), List.getD_eq_getElem?_getD]
      rw [this]
    rw [e, Rat.intCast_mul, iv_val (all_at hvw (by omega)) (hsd _ (by
      rw [List.mem_append]; left; rw [List.getD_eq_getElem?_getD, List.getElem?_eq_getElem (by omega)]; exact List.getElem_mem _))]
    rw [← hbs]; grind
  · rw [hu _ (by omega), hg' _ (by omega), hg, rowS_E hn (by omega), Rat.intCast_mul, iv_val hvb (hsd _ (by simp)), ← hbs]; grind
  · rw [hu _ (by omega)]; exact h0
  · intro k hk
    rw [hu _ (by omega), hg' _ (by omega), hg]
    unfold rowS rowk
    by_cases e : k = i
    · subst e; simp
    · rw [if_neg (by omega), if_neg (by omega), if_neg (by omega), if_neg e]; omega
  · intro k hk
    by_cases e : k = i
    · subst e; simp [up]
    · rw [hu _ (by omega), hg' _ (by omega), hg, if_neg e]
      unfold rowS rowk
      rw [if_neg (by omega), if_neg (by omega), if_neg (by omega)]; omega
  · intro k hk
    by_cases e : k = n + m + i
    · subst e; simp [up]
    · rw [hu _ e, hg' _ hk]
      have := hgb k hk
      rcases hs1 with h | h <;> rw [h] <;> omega
theorem vf_app' {l : List F} {x : F} (hv : ∀ f ∈ l, VF f) (hx : VF x) : ∀ f ∈ l ++ [x], VF f := by
  intro f hf
  rcases List.mem_append.1 hf with h | h
  · exact hv f h
  · rw [List.mem_singleton.1 h]; exact hx
theorem Solve_ok (p : Pr) (hp : PL p) : Ctr Try.prog 12 [prv p] [] (fun r o => ∃ x : Sol × Int, SolR p x ∧ o = [] ∧ r = .tup [.agg [i64 x.1.1, fsl x.1.2.1, i64 x.1.2.2.1.1, i64 x.1.2.2.1.2, fsl x.1.2.2.2.1, fsl x.1.2.2.2.2], i64 x.2]) := by
  refine Ctr.impE ?_
  refine fn_intro (E := env 0) tys_ok rfl rfl rfl Try.func12 (by kernel_rfl) rfl (by kernel_rfl) ?_
  have hlc := fr_len p.c
  have hlr := rw_len p.r
  repeat' (conv => whnf
           first
           | refine ArOb.fits (by omega) ?_
           | refine LitOb.vec ?_
           | refine MakeOb.vec ?_
           | refine AllocOb.box ?_
           | refine CutOb.split ?_
           | refine Gh.mk [] ?_
           | refine ⟨_, _, rfl, rfl, Nat.le_refl _, ⟨by (simp only; omega), by omega⟩, ?_⟩
           | refine DrawOb.mk [] (.qs [0, 1, 2, 3, 4, 5, 6, 7] .nil) (by decide +kernel) ?_
           | refine DrawOb.mk [] (.qs [0, 1, 2, 3, 4, 5, 7, 8, 9, 10, 11, 12] (.l 6 [12, 8] (.l 13 [] (.l 14 [] (.qs [15] .nil) .no) .no) (.l 13 [5, 1] (.l 6 [] (.l 14 [] (.qs [15] .nil) .no) .no) .no))) (by decide +kernel) ?_
           | refine DrawOb.mk [] (.qs [0, 1, 2, 3, 4, 5, 6, 7, 8, 9, 10, 11, 12, 13, 14, 15] (.l 16 [] .nil .no)) (by decide +kernel) ?_
           | refine DrawOb.mk [] (.qs [0, 1, 2, 3, 4, 5, 6, 7, 8, 9] .nil) (by decide +kernel) ?_
           | refine DrawOb.mk [] (.qs [0, 1, 2, 3, 4, 5, 6, 7, 8, 9, 10, 11, 12, 13, 14, 15, 16, 17, 18, 19, 20, 21, 22, 23] .nil) (by decide +kernel) ?_
           | refine DrawOb.mk [] (.qs [0, 2] (.l 1 [] (.qs [4] (.l 3 [] (.qs [5] .nil) .no)) (.l 3 [] (.l 1 [] (.qs [4, 5] .nil) .no) .no))) (by decide +kernel) ?_
           | refine DrawOb.mk [] (.qs [0, 1, 2, 3, 4, 5, 6, 7, 8, 9, 10, 11, 12, 13, 14, 15, 16, 17] (.l 18 [] (.qs [19] (.l 20 [] .nil .no)) .no)) (by decide +kernel) ?_
           | refine DrawOb.mk [] (.qs [0, 1, 2, 3, 4, 5, 6, 7, 8, 9, 10, 11, 12, 13, 14, 15, 16, 17] (.l 18 [] (.qs [19] (.l 20 [] .nil .no)) .no)) (by decide +kernel) ?_
           | (refine CallOb.mk [] (rValidP_ok p hp) rfl (ImpL.refl _) rfl rfl ?_; rintro _ _ ⟨rfl, rfl⟩)
           | refine And.intro ?_ ?_
           | fail)
  all_goals try (conv => whnf)
  refine CondOb.mk (fun hv => ?_) (fun hv => ?_)
  · repeat' (conv => whnf
             first
             | refine CondOb.mk (fun _ => ?_) (fun _ => ?_)
             | refine ArOb.fits (by omega) ?_
             | refine LitOb.vec ?_
             | refine MakeOb.vec ?_
             | refine AllocOb.box ?_
             | refine CutOb.split ?_
             | refine Gh.mk [] ?_
             | refine DrawOb.mk [] (.qs [0, 1, 2, 3, 4, 5, 6, 7] .nil) (by decide +kernel) ?_
             | refine DrawOb.mk [] (.qs [0, 1, 2, 3, 4, 5, 7, 8, 9, 10, 11, 12] (.l 6 [12, 8] (.l 13 [] (.l 14 [] (.qs [15] .nil) .no) .no) (.l 13 [5, 1] (.l 6 [] (.l 14 [] (.qs [15] .nil) .no) .no) .no))) (by decide +kernel) ?_
             | refine DrawOb.mk [] (.qs [0, 1, 2, 3, 4, 5, 6, 7, 8, 9, 10, 11, 12, 13, 14, 15] (.l 16 [] .nil .no)) (by decide +kernel) ?_
             | refine DrawOb.mk [] (.qs [0, 1, 2, 3, 4, 5, 6, 7, 8, 9] .nil) (by decide +kernel) ?_
             | refine DrawOb.mk [] (.qs [0, 1, 2, 3, 4, 5, 6, 7, 8, 9, 10, 11, 12, 13, 14, 15, 16, 17, 18, 19, 20, 21, 22, 23] .nil) (by decide +kernel) ?_
             | refine DrawOb.mk [] (.qs [0, 2] (.l 1 [] (.qs [4] (.l 3 [] (.qs [5] .nil) .no)) (.l 3 [] (.l 1 [] (.qs [4, 5] .nil) .no) .no))) (by decide +kernel) ?_
             | refine DrawOb.mk [] (.qs [0, 1, 2, 3, 4, 5, 6, 7, 8, 9, 10, 11, 12, 13, 14, 15, 16, 17] (.l 18 [] (.qs [19] (.l 20 [] .nil .no)) .no)) (by decide +kernel) ?_
             | refine DrawOb.mk [] (.qs [0, 1, 2, 3, 4, 5, 6, 7, 8, 9, 10, 11, 12, 13, 14, 15, 16, 17] (.l 18 [] (.qs [19] (.l 20 [] .nil .no)) .no)) (by decide +kernel) ?_
             | refine And.intro ?_ ?_
             | fail)
    all_goals try (conv => whnf)
    exact ⟨((0, [], (0, 0), [], []), 2), .inr ⟨by simp, rfl⟩, rfl, Imp.tup ⟨Imp.agg ⟨Imp.refl _, Imp.nil _, Imp.refl _, Imp.refl _, Imp.nil _, Imp.nil _, trivial⟩, Imp.refl _, trivial⟩⟩
  have hvp := Classical.not_not.1 hv
  have hn1 := hvp.1
  have hn6 := hvp.2.1
  have hm24 := hvp.2.2.1
  clear hv
  have hrep : List.replicate (rws p.r).length [i64 0] = vcs p.r.length (fun _ => 0) := by rw [hlr, vcs_repl]
  repeat' (conv => whnf
           first
           | refine CondOb.mk (fun _ => ?_) (fun _ => ?_)
           | refine ArOb.fits (by omega) ?_
           | refine LitOb.vec ?_
           | refine MakeOb.vec ?_
           | refine AllocOb.box ?_
           | refine CutOb.split ?_
           | refine ⟨_, _, rfl, rfl, Nat.le_refl _, ⟨by (simp only; omega), by omega⟩, ?_⟩
           | refine DrawOb.mk [] (.qs [0, 1, 2, 3, 4, 5, 6, 7] .nil) (by decide +kernel) ?_
           | refine DrawOb.mk [] (.qs [0, 1, 2, 3, 4, 5, 7, 8, 9, 10, 11, 12] (.l 6 [12, 8] (.l 13 [] (.l 14 [] (.qs [15] .nil) .no) .no) (.l 13 [5, 1] (.l 6 [] (.l 14 [] (.qs [15] .nil) .no) .no) .no))) (by decide +kernel) ?_
           | refine DrawOb.mk [] (.qs [0, 1, 2, 3, 4, 5, 6, 7, 8, 9, 10, 11, 12, 13, 14, 15] (.l 16 [] .nil .no)) (by decide +kernel) ?_
           | refine DrawOb.mk [] (.qs [0, 1, 2, 3, 4, 5, 6, 7, 8, 9] .nil) (by decide +kernel) ?_
           | refine DrawOb.mk [] (.qs [0, 1, 2, 3, 4, 5, 6, 7, 8, 9, 10, 11, 12, 13, 14, 15, 16, 17, 18, 19, 20, 21, 22, 23] .nil) (by decide +kernel) ?_
           | refine DrawOb.mk [] (.qs [0, 2] (.l 1 [] (.qs [4] (.l 3 [] (.qs [5] .nil) .no)) (.l 3 [] (.l 1 [] (.qs [4, 5] .nil) .no) .no))) (by decide +kernel) ?_
           | refine DrawOb.mk [] (.qs [0, 1, 2, 3, 4, 5, 6, 7, 8, 9, 10, 11, 12, 13, 14, 15, 16, 17] (.l 18 [] (.qs [19] (.l 20 [] .nil .no)) .no)) (by decide +kernel) ?_
           | refine DrawOb.mk [] (.qs [0, 1, 2, 3, 4, 5, 6, 7, 8, 9, 10, 11, 12, 13, 14, 15, 16, 17] (.l 18 [] (.qs [19] (.l 20 [] .nil .no)) .no)) (by decide +kernel) ?_
           | refine ⟨p.r.length, p.r.length, (by omega), (by omega), (by omega), ⟨by omega, by omega⟩, ?_⟩
           | refine And.intro ?_ ?_
           | fail)
  all_goals try (conv => whnf)
  refine .mk [.nm 3 0 1] ?_
  refine LoopOb.mk (Y := Nat × (Nat → Int) × (Nat → Int) × (Nat → Nat → Int)) (st := fun y => ⟨[(9, i64 y.1), (8, .vec 4), (7, .ptr 3 0), (6, i64 (p.c.length + 2 * p.r.length + 1 : Nat)), (5, i64 p.r.length), (4, i64 p.c.length), (2, .ptr 1 0), (1, .ptr 0 0)],
      [.box [fsl p.c, .psl 4 (rws p.r)], .box [i64 0, .nil, i64 0, i64 0, .nil, .nil], .vec 1 (vcs p.r.length y.2.1), .box [.vec 5, .vec 2, i64 1, .bl false], .vec 1 (vcs p.r.length y.2.2.1), .mat 1 (mts y.1 (p.c.length + 2 * p.r.length + 1) y.2.2.2)]⟩)
    (inv := IniP p) (fun y => p.r.length - y.1) (0, (fun _ => 0), (fun _ => 0), (fun _ _ => 0)) [0, 1, 2, 3, 4, 5] ⟨by simp, by simp, by simp⟩ (by dsimp only; rw [← hrep]; (refine Le.mk (by kernel_rfl) ?_ ?_ <;> repeat' (first | exact True.intro | refine And.intro ?_ ?_ | exact Imp.refl _ | exact Imp.any _ | exact Imp.num (by first | omega | simp only [ints_len]) | exact rfl | exact Imp.bl (by simp)))) ?_
  rintro ⟨i, bs, bY, f⟩ ⟨hi, hbs, hrow⟩
  dsimp only at hi hbs hrow ⊢
  repeat' (conv => whnf
           first
           | refine ArOb.fits (by omega) ?_
           | refine LitOb.vec ?_
           | refine MakeOb.vec ?_
           | refine AllocOb.box ?_
           | refine CutOb.split ?_
           | refine Gh.mk [] ?_
           | refine ⟨_, _, rfl, rfl, Nat.le_refl _, ⟨by (simp only; omega), by omega⟩, ?_⟩
           | refine DrawOb.mk [] (.qs [0, 1, 2, 3, 4, 5, 6, 7] .nil) (by decide +kernel) ?_
           | refine DrawOb.mk [] (.qs [0, 1, 2, 3, 4, 5, 7, 8, 9, 10, 11, 12] (.l 6 [12, 8] (.l 13 [] (.l 14 [] (.qs [15] .nil) .no) .no) (.l 13 [5, 1] (.l 6 [] (.l 14 [] (.qs [15] .nil) .no) .no) .no))) (by decide +kernel) ?_
           | refine DrawOb.mk [] (.qs [0, 1, 2, 3, 4, 5, 6, 7, 8, 9, 10, 11, 12, 13, 14, 15] (.l 16 [] .nil .no)) (by decide +kernel) ?_
           | refine DrawOb.mk [] (.qs [0, 1, 2, 3, 4, 5, 6, 7, 8, 9] .nil) (by decide +kernel) ?_
           | refine DrawOb.mk [] (.qs [0, 1, 2, 3, 4, 5, 6, 7, 8, 9, 10, 11, 12, 13, 14, 15, 16, 17, 18, 19, 20, 21, 22, 23] .nil) (by decide +kernel) ?_
           | refine DrawOb.mk [] (.qs [0, 2] (.l 1 [] (.qs [4] (.l 3 [] (.qs [5] .nil) .no)) (.l 3 [] (.l 1 [] (.qs [4, 5] .nil) .no) .no))) (by decide +kernel) ?_
           | refine DrawOb.mk [] (.qs [0, 1, 2, 3, 4, 5, 6, 7, 8, 9, 10, 11, 12, 13, 14, 15, 16, 17] (.l 18 [] (.qs [19] (.l 20 [] .nil .no)) .no)) (by decide +kernel) ?_
           | refine DrawOb.mk [] (.qs [0, 1, 2, 3, 4, 5, 6, 7, 8, 9, 10, 11, 12, 13, 14, 15, 16, 17] (.l 18 [] (.qs [19] (.l 20 [] .nil .no)) .no)) (by decide +kernel) ?_
           | refine ⟨_, rfl, (by simp only [mts_len, vcs_len]; omega), ?_⟩
           | refine And.intro (by simp only [mts_len, vcs_len]; omega) ?_
           | refine ⟨_, _, rfl, mts_get (by omega), (by simp only [vcs_len]; omega), ?_⟩
           | refine ⟨_, _, mts_get (by omega), vcs_get (by omega), ?_⟩
           | refine ⟨_, mts_get (by omega), ?_⟩
           | refine ⟨_, vcs_get (by omega), ?_⟩
           | refine ArOb.fits (by simp only [vcs_len, mts_len]; omega) ?_
           | refine And.intro ?_ ?_
           | fail)
  all_goals try (conv => whnf)
  refine CondOb.mk (fun hlt => ?_) (fun hlt => ?_)
  · have hil : i < p.r.length := by omega
    have hgt := rw_get hil
    have hws := rall_at hvp.2.2.2.2 hil
    generalize hwe : p.r.getD i rw0 = w at *
    repeat' (conv => whnf
             first
             | refine ArOb.fits (by omega) ?_
             | refine LitOb.vec ?_
             | refine MakeOb.vec ?_
             | refine AllocOb.box ?_
             | refine CutOb.split ?_
             | refine ⟨_, _, rfl, rfl, Nat.le_refl _, ⟨by (simp only; omega), by omega⟩, ?_⟩
             | refine DrawOb.mk [] (.qs [0, 1, 2, 3, 4, 5, 6, 7] .nil) (by decide +kernel) ?_
             | refine DrawOb.mk [] (.qs [0, 1, 2, 3, 4, 5, 6, 7, 8, 9, 10, 11, 12, 13, 14, 15] (.l 16 [] .nil .no)) (by decide +kernel) ?_
             | refine DrawOb.mk [] (.qs [0, 1, 2, 3, 4, 5, 6, 7, 8, 9] .nil) (by decide +kernel) ?_
             | refine DrawOb.mk [] (.qs [0, 1, 2, 3, 4, 5, 6, 7, 8, 9, 10, 11, 12, 13, 14, 15, 16, 17, 18, 19, 20, 21, 22, 23] .nil) (by decide +kernel) ?_
             | refine DrawOb.mk [] (.qs [0, 1, 2, 3, 4, 5, 6, 7, 8, 9, 10, 11, 12, 13, 14, 15, 16, 17] (.l 18 [] (.qs [19] (.l 20 [] .nil .no)) .no)) (by decide +kernel) ?_
             | refine DrawOb.mk [] (.qs [0, 1, 2, 3, 4, 5, 6, 7, 8, 9, 10, 11, 12, 13, 14, 15, 16, 17] (.l 18 [] (.qs [19] (.l 20 [] .nil .no)) .no)) (by decide +kernel) ?_
             | refine ⟨i, _, rfl, hgt, ?_⟩
             | refine ⟨_, rfl, (by simp only [mts_len, vcs_len]; omega), ?_⟩
             | refine And.intro (by simp only [mts_len, vcs_len]; omega) ?_
             | refine ⟨_, _, rfl, mts_get (by omega), (by simp only [vcs_len]; omega), ?_⟩
             | refine ⟨_, _, mts_get (by omega), vcs_get (by omega), ?_⟩
             | refine ⟨_, mts_get (by omega), ?_⟩
             | refine ⟨_, vcs_get (by omega), ?_⟩
             | refine ArOb.fits (by simp only [vcs_len, mts_len]; omega) ?_
             | fail)
    all_goals try (conv => whnf)
    have hfa : fsl (w.1 ++ [w.2.2]) = .psl 2 (fr2 w.1 ++ [[i64 w.2.2.1, i64 w.2.2.2]]) := by simp only [fsl, fr2_append]; rfl
    refine DrawOb.cut [] (.qs [0, 1, 2, 3, 4, 5, 7, 8, 9, 10, 11, 12] (.l 6 [12, 8] (.l 13 [] (.l 14 [] (.qs [15] .nil) .no) .no) (.l 13 [5, 1] (.l 6 [] (.l 14 [] (.qs [15] .nil) .no) .no) .no))) (Y := Unit) (st := fun _ => ⟨[(10, fsl (w.1 ++ [w.2.2])), (9, i64 i), (8, .vec 4), (7, .ptr 3 0), (6, i64 (p.c.length + 2 * p.r.length + 1 : Nat)), (5, i64 p.r.length), (4, i64 p.c.length), (2, .ptr 1 0), (1, .ptr 0 0)], [.box [fsl p.c, .psl 4 (rws p.r)], .box [i64 0, .nil, i64 0, i64 0, .nil, .nil], .vec 1 (vcs p.r.length bs), .box [.vec 5, .vec 2, i64 1, .bl false], .vec 1 (vcs p.r.length bY), .mat 1 (mts i (p.c.length + 2 * p.r.length + 1) f)]⟩) (inv := fun _ => True) (by decide +kernel) ?_ ?_
    repeat' (conv => whnf
             first
             | refine ArOb.fits (by first | omega | (simp only [ints_len] at *; omega)) ?_
             | refine LitOb.vec ?_
             | refine MakeOb.vec ?_
             | refine AllocOb.box ?_
             | refine AggOb.mk (by decide +kernel) ?_
             | refine ArU.fits (by first | omega | (simp only [ints_len] at *; omega)) ?_
             | refine ArB.fits (by first | omega | (simp only [ints_len] at *; omega)) ?_
             | refine CutOb.split ?_
             | refine And.intro (And.intro (by (simp only [List.length_append, List.length_take, List.length_drop, List.length_cons, List.length_nil, ints_len, List.length_replicate, fr_len, rw_len]; omega)) (by (simp only [List.length_append, List.length_take, List.length_drop, List.length_cons, List.length_nil, ints_len, List.length_replicate, fr_len, rw_len]; omega))) ?_
             | refine ⟨_, _, rfl, ints_get (by first | omega | (simp only [ints_len] at *; omega)), ?_⟩
             | refine ⟨_, _, (Int.toNat_of_nonneg (by first | omega | (simp only [ints_len] at *; omega))).symm, ints_get (by first | omega | (simp only [ints_len] at *; omega)), ?_⟩
             | refine ⟨_, _, rfl, rfl, Nat.le_refl _, ⟨by (simp only; omega), by omega⟩, ?_⟩
             | refine DrawOb.mk [] (.qs [0, 1, 2, 3, 4, 5, 6, 7] .nil) (by decide +kernel) ?_
             | refine DrawOb.mk [] (.qs [0, 1, 2, 3, 4, 5, 6, 7, 8, 9, 10, 11, 12, 13, 14, 15] (.l 16 [] .nil .no)) (by decide +kernel) ?_
             | refine DrawOb.mk [] (.qs [0, 1, 2, 3, 4, 5, 6, 7, 8, 9] .nil) (by decide +kernel) ?_
             | refine DrawOb.mk [] (.qs [0, 1, 2, 3, 4, 5, 6, 7, 8, 9, 10, 11, 12, 13, 14, 15, 16, 17, 18, 19, 20, 21, 22, 23] .nil) (by decide +kernel) ?_
             | refine DrawOb.mk [] (.qs [0, 1, 2, 3, 4, 5, 6, 7, 8, 9, 10, 11, 12, 13, 14, 15, 16, 17] (.l 18 [] (.qs [19] (.l 20 [] .nil .no)) .no)) (by decide +kernel) ?_
             | refine DrawOb.mk [] (.qs [0, 1, 2, 3, 4, 5, 6, 7, 8, 9, 10, 11, 12, 13, 14, 15, 16, 17] (.l 18 [] (.qs [19] (.l 20 [] .nil .no)) .no)) (by decide +kernel) ?_
             | refine ⟨i, _, rfl, hgt, ?_⟩
             | refine And.intro ?_ ?_
             | refine ⟨_, rfl, (by simp only [mts_len, vcs_len]; omega), ?_⟩
             | refine And.intro (by simp only [mts_len, vcs_len]; omega) ?_
             | refine ⟨_, _, rfl, mts_get (by omega), (by simp only [vcs_len]; omega), ?_⟩
             | refine ⟨_, _, mts_get (by omega), vcs_get (by omega), ?_⟩
             | refine ⟨_, mts_get (by omega), ?_⟩
             | refine ⟨_, vcs_get (by omega), ?_⟩
             | refine ArOb.fits (by simp only [vcs_len, mts_len]; omega) ?_
             | fail)
    all_goals try (conv => whnf)
    · refine .mk [.fz 8] ?_
      exact ⟨(), [0, 1, 2, 3, 4, 5], trivial, by dsimp only; rw [hfa]; (refine Le.mk (by kernel_rfl) ?_ ?_ <;> repeat' (first | exact True.intro | refine And.intro ?_ ?_ | exact Imp.refl _ | exact Imp.any _ | exact Imp.num (by first | omega | simp only [ints_len]) | exact rfl | exact Imp.bl (by simp)))⟩
    · refine .mk [.fz 8] ?_
      exact ⟨(), [0, 1, 2, 3, 4, 5], trivial, by dsimp only; rw [hfa]; (refine Le.mk (by kernel_rfl) ?_ ?_ <;> repeat' (first | exact True.intro | refine And.intro ?_ ?_ | exact Imp.refl _ | exact Imp.any _ | exact Imp.num (by first | omega | simp only [ints_len]) | exact rfl | exact Imp.bl (by simp)))⟩
    rintro ⟨⟩ _
    have hal : (w.1 ++ [w.2.2]).length = p.c.length + 1 := by simp [hws.1]
    have hav : ∀ g ∈ w.1 ++ [w.2.2], VF g := vf_app' hws.2.2.2.1 hws.2.2.2.2
    have hll := fr_len (w.1 ++ [w.2.2])
    have cS := scale_ok (w.1 ++ [w.2.2]) (by omega) hav
    repeat' (conv => whnf
             first
             | refine ArOb.fits (by omega) ?_
             | refine LitOb.vec ?_
             | refine MakeOb.vec ?_
             | refine AllocOb.box ?_
             | refine CutOb.split ?_
             | refine Gh.mk [] ?_
             | refine ⟨_, _, rfl, rfl, Nat.le_refl _, ⟨by (simp only; omega), by omega⟩, ?_⟩
             | refine DrawOb.mk [] (.qs [0, 1, 2, 3, 4, 5, 6, 7] .nil) (by decide +kernel) ?_
             | refine DrawOb.mk [] (.qs [0, 1, 2, 3, 4, 5, 7, 8, 9, 10, 11, 12] (.l 6 [12, 8] (.l 13 [] (.l 14 [] (.qs [15] .nil) .no) .no) (.l 13 [5, 1] (.l 6 [] (.l 14 [] (.qs [15] .nil) .no) .no) .no))) (by decide +kernel) ?_
             | refine DrawOb.mk [] (.qs [0, 1, 2, 3, 4, 5, 6, 7, 8, 9, 10, 11, 12, 13, 14, 15] (.l 16 [] .nil .no)) (by decide +kernel) ?_
             | refine DrawOb.mk [] (.qs [0, 1, 2, 3, 4, 5, 6, 7, 8, 9] .nil) (by decide +kernel) ?_
             | refine DrawOb.mk [] (.qs [0, 1, 2, 3, 4, 5, 6, 7, 8, 9, 10, 11, 12, 13, 14, 15, 16, 17, 18, 19, 20, 21, 22, 23] .nil) (by decide +kernel) ?_
             | refine DrawOb.mk [] (.qs [0, 2] (.l 1 [] (.qs [4] (.l 3 [] (.qs [5] .nil) .no)) (.l 3 [] (.l 1 [] (.qs [4, 5] .nil) .no) .no))) (by decide +kernel) ?_
             | refine DrawOb.mk [] (.qs [0, 1, 2, 3, 4, 5, 6, 7, 8, 9, 10, 11, 12, 13, 14, 15, 16, 17] (.l 18 [] (.qs [19] (.l 20 [] .nil .no)) .no)) (by decide +kernel) ?_
             | refine DrawOb.mk [] (.qs [0, 1, 2, 3, 4, 5, 6, 7, 8, 9, 10, 11, 12, 13, 14, 15, 16, 17] (.l 18 [] (.qs [19] (.l 20 [] .nil .no)) .no)) (by decide +kernel) ?_
             | refine ⟨_, rfl, (by simp only [mts_len, vcs_len]; omega), ?_⟩
             | refine And.intro (by simp only [mts_len, vcs_len]; omega) ?_
             | refine ⟨_, _, rfl, mts_get (by omega), (by simp only [vcs_len]; omega), ?_⟩
             | refine ⟨_, _, mts_get (by omega), vcs_get (by omega), ?_⟩
             | refine ⟨_, mts_get (by omega), ?_⟩
             | refine ⟨_, vcs_get (by omega), ?_⟩
             | refine ArOb.fits (by simp only [vcs_len, mts_len]; omega) ?_
             | refine And.intro ?_ ?_
             | fail)
    all_goals try (conv => whnf)
    refine CallOb.mk [] cS rfl (ImpL.refl _) rfl rfl ?_
    rintro _ _ ⟨s, hs, rfl, rfl⟩
    repeat' (conv => whnf
             first
             | refine ArOb.fits (by omega) ?_
             | refine LitOb.vec ?_
             | refine MakeOb.vec ?_
             | refine AllocOb.box ?_
             | refine CutOb.split ?_
             | refine Gh.mk [] ?_
             | refine ⟨_, _, rfl, rfl, Nat.le_refl _, ⟨by (simp only; omega), by omega⟩, ?_⟩
             | refine DrawOb.mk [] (.qs [0, 1, 2, 3, 4, 5, 6, 7] .nil) (by decide +kernel) ?_
             | refine DrawOb.mk [] (.qs [0, 1, 2, 3, 4, 5, 7, 8, 9, 10, 11, 12] (.l 6 [12, 8] (.l 13 [] (.l 14 [] (.qs [15] .nil) .no) .no) (.l 13 [5, 1] (.l 6 [] (.l 14 [] (.qs [15] .nil) .no) .no) .no))) (by decide +kernel) ?_
             | refine DrawOb.mk [] (.qs [0, 1, 2, 3, 4, 5, 6, 7, 8, 9, 10, 11, 12, 13, 14, 15] (.l 16 [] .nil .no)) (by decide +kernel) ?_
             | refine DrawOb.mk [] (.qs [0, 1, 2, 3, 4, 5, 6, 7, 8, 9] .nil) (by decide +kernel) ?_
             | refine DrawOb.mk [] (.qs [0, 1, 2, 3, 4, 5, 6, 7, 8, 9, 10, 11, 12, 13, 14, 15, 16, 17, 18, 19, 20, 21, 22, 23] .nil) (by decide +kernel) ?_
             | refine DrawOb.mk [] (.qs [0, 2] (.l 1 [] (.qs [4] (.l 3 [] (.qs [5] .nil) .no)) (.l 3 [] (.l 1 [] (.qs [4, 5] .nil) .no) .no))) (by decide +kernel) ?_
             | refine DrawOb.mk [] (.qs [0, 1, 2, 3, 4, 5, 6, 7, 8, 9, 10, 11, 12, 13, 14, 15, 16, 17] (.l 18 [] (.qs [19] (.l 20 [] .nil .no)) .no)) (by decide +kernel) ?_
             | refine DrawOb.mk [] (.qs [0, 1, 2, 3, 4, 5, 6, 7, 8, 9, 10, 11, 12, 13, 14, 15, 16, 17] (.l 18 [] (.qs [19] (.l 20 [] .nil .no)) .no)) (by decide +kernel) ?_
             | refine ⟨_, rfl, (by simp only [mts_len, vcs_len]; omega), ?_⟩
             | refine And.intro (by simp only [mts_len, vcs_len]; omega) ?_
             | refine ⟨_, _, rfl, mts_get (by omega), (by simp only [vcs_len]; omega), ?_⟩
             | refine ⟨_, _, mts_get (by omega), vcs_get (by omega), ?_⟩
             | refine ⟨_, mts_get (by omega), ?_⟩
             | refine ⟨_, vcs_get (by omega), ?_⟩
             | refine ArOb.fits (by simp only [vcs_len, mts_len]; omega) ?_
             | refine And.intro ?_ ?_
             | fail)
    all_goals try (conv => whnf)
    refine CondOb.mk (fun hs0 => ?_) (fun hs0 => ?_)
    · repeat' (conv => whnf
               first
               | refine CondOb.mk (fun _ => ?_) (fun _ => ?_)
               | refine ArOb.fits (by omega) ?_
               | refine LitOb.vec ?_
               | refine MakeOb.vec ?_
               | refine AllocOb.box ?_
               | refine CutOb.split ?_
               | refine Gh.mk [] ?_
               | refine DrawOb.mk [] (.qs [0, 1, 2, 3, 4, 5, 6, 7] .nil) (by decide +kernel) ?_
               | refine DrawOb.mk [] (.qs [0, 1, 2, 3, 4, 5, 6, 7, 8, 9, 10, 11, 12, 13, 14, 15] (.l 16 [] .nil .no)) (by decide +kernel) ?_
               | refine DrawOb.mk [] (.qs [0, 1, 2, 3, 4, 5, 6, 7, 8, 9] .nil) (by decide +kernel) ?_
               | refine DrawOb.mk [] (.qs [0, 1, 2, 3, 4, 5, 6, 7, 8, 9, 10, 11, 12, 13, 14, 15, 16, 17, 18, 19, 20, 21, 22, 23] .nil) (by decide +kernel) ?_
               | refine DrawOb.mk [] (.qs [0, 1, 2, 3, 4, 5, 6, 7, 8, 9, 10, 11, 12, 13, 14, 15, 16, 17] (.l 18 [] (.qs [19] (.l 20 [] .nil .no)) .no)) (by decide +kernel) ?_
               | refine DrawOb.mk [] (.qs [0, 1, 2, 3, 4, 5, 6, 7, 8, 9, 10, 11, 12, 13, 14, 15, 16, 17] (.l 18 [] (.qs [19] (.l 20 [] .nil .no)) .no)) (by decide +kernel) ?_
               | refine ⟨_, rfl, (by simp only [mts_len, vcs_len]; omega), ?_⟩
               | refine And.intro (by simp only [mts_len, vcs_len]; omega) ?_
               | refine ⟨_, _, rfl, mts_get (by omega), (by simp only [vcs_len]; omega), ?_⟩
               | refine ⟨_, _, mts_get (by omega), vcs_get (by omega), ?_⟩
               | refine ⟨_, mts_get (by omega), ?_⟩
               | refine ⟨_, vcs_get (by omega), ?_⟩
               | refine ArOb.fits (by simp only [vcs_len, mts_len]; omega) ?_
               | fail)
      all_goals try (conv => whnf)
      exact ⟨((0, [], (0, 0), [], []), 3), .inr ⟨by simp, rfl⟩, rfl, Imp.tup ⟨Imp.agg ⟨Imp.refl _, Imp.nil _, Imp.refl _, Imp.refl _, Imp.nil _, Imp.nil _, trivial⟩, Imp.refl _, trivial⟩⟩
    obtain ⟨s1, s2, hsd⟩ : 1 ≤ s ∧ s < 2147483648 ∧ ∀ f ∈ w.1 ++ [w.2.2], f.2 ∣ s := by
      rcases hs with h | h
      · exact absurd h hs0
      · exact h
    clear hs hs0
    repeat' (conv => whnf
             first
             | refine ArOb.fits (by omega) ?_
             | refine LitOb.vec ?_
             | refine MakeOb.vec ?_
             | refine AllocOb.box ?_
             | refine CutOb.split ?_
             | refine Gh.mk [] ?_
             | refine ⟨_, _, rfl, rfl, Nat.le_refl _, ⟨by (simp only; omega), by omega⟩, ?_⟩
             | refine DrawOb.mk [] (.qs [0, 1, 2, 3, 4, 5, 6, 7] .nil) (by decide +kernel) ?_
             | refine DrawOb.mk [] (.qs [0, 1, 2, 3, 4, 5, 6, 7, 8, 9, 10, 11, 12, 13, 14, 15] (.l 16 [] .nil .no)) (by decide +kernel) ?_
             | refine DrawOb.mk [] (.qs [0, 1, 2, 3, 4, 5, 6, 7, 8, 9] .nil) (by decide +kernel) ?_
             | refine DrawOb.mk [] (.qs [0, 1, 2, 3, 4, 5, 6, 7, 8, 9, 10, 11, 12, 13, 14, 15, 16, 17, 18, 19, 20, 21, 22, 23] .nil) (by decide +kernel) ?_
             | refine DrawOb.mk [] (.qs [0, 1, 2, 3, 4, 5, 6, 7, 8, 9, 10, 11, 12, 13, 14, 15, 16, 17] (.l 18 [] (.qs [19] (.l 20 [] .nil .no)) .no)) (by decide +kernel) ?_
             | refine DrawOb.mk [] (.qs [0, 1, 2, 3, 4, 5, 6, 7, 8, 9, 10, 11, 12, 13, 14, 15, 16, 17] (.l 18 [] (.qs [19] (.l 20 [] .nil .no)) .no)) (by decide +kernel) ?_
             | refine ⟨p.c.length + 2 * p.r.length + 1, p.c.length + 2 * p.r.length + 1, rfl, rfl, (by omega), ⟨by omega, by omega⟩, ?_⟩
             | refine ⟨_, rfl, (by simp only [mts_len, vcs_len]; omega), ?_⟩
             | refine And.intro (by simp only [mts_len, vcs_len]; omega) ?_
             | refine ⟨_, _, rfl, mts_get (by omega), (by simp only [vcs_len]; omega), ?_⟩
             | refine ⟨_, _, mts_get (by omega), vcs_get (by omega), ?_⟩
             | refine ⟨_, mts_get (by omega), ?_⟩
             | refine ⟨_, vcs_get (by omega), ?_⟩
             | refine ArOb.fits (by simp only [vcs_len, mts_len]; omega) ?_
             | fail)
    all_goals try (conv => whnf)
    have hrep2 : List.replicate (p.c.length + 2 * p.r.length + 1) [i64 0] = vcs (p.c.length + 2 * p.r.length + 1) (rowk (w.1 ++ [w.2.2]) s p.c.length (p.c.length + 2 * p.r.length) 0) := by rw [vcs_repl]; exact vcs_congr (fun k _ => by simp [rowk])
    refine LoopOb.mk (Y := Nat) (st := fun k => ⟨[(91, i64 k), (90, i64 (p.c.length + 1 : Nat)), (12, .vec 6), (11, i64 s), (10, fsl (w.1 ++ [w.2.2])), (9, i64 i), (8, .vec 4), (7, .ptr 3 0), (6, i64 (p.c.length + 2 * p.r.length + 1 : Nat)), (5, i64 p.r.length), (4, i64 p.c.length), (2, .ptr 1 0), (1, .ptr 0 0)], [.box [fsl p.c, .psl 4 (rws p.r)], .box [i64 0, .nil, i64 0, i64 0, .nil, .nil], .vec 1 (vcs p.r.length bs), .box [.vec 5, .vec 2, i64 1, .bl false], .vec 1 (vcs p.r.length bY), .mat 1 (mts i (p.c.length + 2 * p.r.length + 1) f)] ++ [.vec 1 (vcs (p.c.length + 2 * p.r.length + 1) (rowk (w.1 ++ [w.2.2]) s p.c.length (p.c.length + 2 * p.r.length) k))]⟩)
      (inv := fun k => k ≤ p.c.length + 1 ∧ ∀ j < k, -2147483648 < iv (w.1 ++ [w.2.2]) s j ∧ iv (w.1 ++ [w.2.2]) s j < 2147483648) (fun k => p.c.length + 1 - k) 0 [0, 1, 2, 3, 4, 5, 6] ⟨by omega, by omega⟩ (by dsimp only [List.cons_append, List.nil_append]; rw [← hrep2]; (refine Le.mk (by kernel_rfl) ?_ ?_ <;> repeat' (first | exact True.intro | refine And.intro ?_ ?_ | exact Imp.refl _ | exact Imp.any _ | exact Imp.num (by first | omega | simp only [ints_len]) | exact rfl | exact Imp.bl (by simp)))) ?_
    rintro k ⟨hk, hivb⟩
    dsimp only [List.cons_append, List.nil_append]
    repeat' (conv => whnf
             first
             | refine ArOb.fits (by omega) ?_
             | refine LitOb.vec ?_
             | refine MakeOb.vec ?_
             | refine AllocOb.box ?_
             | refine CutOb.split ?_
             | refine Gh.mk [] ?_
             | refine ⟨_, _, rfl, rfl, Nat.le_refl _, ⟨by (simp only; omega), by omega⟩, ?_⟩
             | refine DrawOb.mk [] (.qs [0, 1, 2, 3, 4, 5, 6, 7] .nil) (by decide +kernel) ?_
             | refine DrawOb.mk [] (.qs [0, 1, 2, 3, 4, 5, 6, 7, 8, 9, 10, 11, 12, 13, 14, 15] (.l 16 [] .nil .no)) (by decide +kernel) ?_
             | refine DrawOb.mk [] (.qs [0, 1, 2, 3, 4, 5, 6, 7, 8, 9] .nil) (by decide +kernel) ?_
             | refine DrawOb.mk [] (.qs [0, 1, 2, 3, 4, 5, 6, 7, 8, 9, 10, 11, 12, 13, 14, 15, 16, 17, 18, 19, 20, 21, 22, 23] .nil) (by decide +kernel) ?_
             | refine DrawOb.mk [] (.qs [0, 1, 2, 3, 4, 5, 6, 7, 8, 9, 10, 11, 12, 13, 14, 15, 16, 17] (.l 18 [] (.qs [19] (.l 20 [] .nil .no)) .no)) (by decide +kernel) ?_
             | refine DrawOb.mk [] (.qs [0, 1, 2, 3, 4, 5, 6, 7, 8, 9, 10, 11, 12, 13, 14, 15, 16, 17] (.l 18 [] (.qs [19] (.l 20 [] .nil .no)) .no)) (by decide +kernel) ?_
             | refine ⟨_, rfl, (by simp only [mts_len, vcs_len]; omega), ?_⟩
             | refine And.intro (by simp only [mts_len, vcs_len]; omega) ?_
             | refine ⟨_, _, rfl, mts_get (by omega), (by simp only [vcs_len]; omega), ?_⟩
             | refine ⟨_, _, mts_get (by omega), vcs_get (by omega), ?_⟩
             | refine ⟨_, mts_get (by omega), ?_⟩
             | refine ⟨_, vcs_get (by omega), ?_⟩
             | refine ArOb.fits (by simp only [vcs_len, mts_len]; omega) ?_
             | fail)
    all_goals try (conv => whnf)
    refine CondOb.mk (fun hkl => ?_) (fun hkl => ?_)
    · have hgk := fr_get (l := w.1 ++ [w.2.2]) (i := k) (by omega)
      have hvk := all_at hav (i := k) (by omega)
      have hst := rowk_step (all := w.1 ++ [w.2.2]) (s := s) (n := p.c.length) (E := p.c.length + 2 * p.r.length) (k := k) (by omega)
      have hib : (-2147483648 < iv (w.1 ++ [w.2.2]) s k ∧ iv (w.1 ++ [w.2.2]) s k < 2147483648) → _ := fun h => lt_step (P := fun j => -2147483648 < iv (w.1 ++ [w.2.2]) s j ∧ iv (w.1 ++ [w.2.2]) s j < 2147483648) hivb h
      unfold iv at hst
      rw [show iv (w.1 ++ [w.2.2]) s k = ((w.1 ++ [w.2.2]).getD k (0, 1)).1 * (s / ((w.1 ++ [w.2.2]).getD k (0, 1)).2) from rfl] at hib
      generalize (w.1 ++ [w.2.2]).getD k (0, 1) = a at *
      have cT := times_ok a.1 a.2 s hvk s1 s2
      repeat' (conv => whnf
               first
               | refine ArOb.fits (by omega) ?_
               | refine LitOb.vec ?_
               | refine MakeOb.vec ?_
               | refine AllocOb.box ?_
               | refine CutOb.split ?_
               | refine Gh.mk [] ?_
               | refine ⟨_, _, rfl, rfl, Nat.le_refl _, ⟨by (simp only; omega), by omega⟩, ?_⟩
               | refine DrawOb.mk [] (.qs [0, 1, 2, 3, 4, 5, 6, 7] .nil) (by decide +kernel) ?_
               | refine DrawOb.mk [] (.qs [0, 1, 2, 3, 4, 5, 6, 7, 8, 9, 10, 11, 12, 13, 14, 15] (.l 16 [] .nil .no)) (by decide +kernel) ?_
               | refine DrawOb.mk [] (.qs [0, 1, 2, 3, 4, 5, 6, 7, 8, 9] .nil) (by decide +kernel) ?_
               | refine DrawOb.mk [] (.qs [0, 1, 2, 3, 4, 5, 6, 7, 8, 9, 10, 11, 12, 13, 14, 15, 16, 17, 18, 19, 20, 21, 22, 23] .nil) (by decide +kernel) ?_
               | refine DrawOb.mk [] (.qs [0, 1, 2, 3, 4, 5, 6, 7, 8, 9, 10, 11, 12, 13, 14, 15, 16, 17] (.l 18 [] (.qs [19] (.l 20 [] .nil .no)) .no)) (by decide +kernel) ?_
               | refine DrawOb.mk [] (.qs [0, 1, 2, 3, 4, 5, 6, 7, 8, 9, 10, 11, 12, 13, 14, 15, 16, 17] (.l 18 [] (.qs [19] (.l 20 [] .nil .no)) .no)) (by decide +kernel) ?_
               | refine ⟨k, _, rfl, hgk, ?_⟩
               | refine ⟨_, rfl, (by simp only [mts_len, vcs_len]; omega), ?_⟩
               | refine And.intro (by simp only [mts_len, vcs_len]; omega) ?_
               | refine ⟨_, _, rfl, mts_get (by omega), (by simp only [vcs_len]; omega), ?_⟩
               | refine ⟨_, _, mts_get (by omega), vcs_get (by omega), ?_⟩
               | refine ⟨_, mts_get (by omega), ?_⟩
               | refine ⟨_, vcs_get (by omega), ?_⟩
               | refine ArOb.fits (by simp only [vcs_len, mts_len]; omega) ?_
               | fail)
      all_goals try (conv => whnf)
      refine CallOb.mk [] cT rfl (ImpL.refl _) rfl rfl ?_
      rintro _ _ ⟨⟨v, ok⟩, hz, rfl, rfl⟩
      dsimp only at hz ⊢
      cases ok with
      | false =>
        repeat' (conv => whnf
                 first
                 | refine CondOb.mk (fun _ => ?_) (fun _ => ?_)
                 | refine ArOb.fits (by omega) ?_
                 | refine LitOb.vec ?_
                 | refine MakeOb.vec ?_
                 | refine AllocOb.box ?_
                 | refine CutOb.split ?_
                 | refine Gh.mk [] ?_
                 | refine ⟨_, _, rfl, rfl, Nat.le_refl _, ⟨by (simp only; omega), by omega⟩, ?_⟩
                 | refine DrawOb.mk [] (.qs [0, 1, 2, 3, 4, 5, 6, 7] .nil) (by decide +kernel) ?_
                 | refine DrawOb.mk [] (.qs [0, 1, 2, 3, 4, 5, 6, 7, 8, 9, 10, 11, 12, 13, 14, 15] (.l 16 [] .nil .no)) (by decide +kernel) ?_
                 | refine DrawOb.mk [] (.qs [0, 1, 2, 3, 4, 5, 6, 7, 8, 9] .nil) (by decide +kernel) ?_
                 | refine DrawOb.mk [] (.qs [0, 1, 2, 3, 4, 5, 6, 7, 8, 9, 10, 11, 12, 13, 14, 15, 16, 17, 18, 19, 20, 21, 22, 23] .nil) (by decide +kernel) ?_
                 | refine DrawOb.mk [] (.qs [0, 1, 2, 3, 4, 5, 6, 7, 8, 9, 10, 11, 12, 13, 14, 15, 16, 17] (.l 18 [] (.qs [19] (.l 20 [] .nil .no)) .no)) (by decide +kernel) ?_
                 | refine DrawOb.mk [] (.qs [0, 1, 2, 3, 4, 5, 6, 7, 8, 9, 10, 11, 12, 13, 14, 15, 16, 17] (.l 18 [] (.qs [19] (.l 20 [] .nil .no)) .no)) (by decide +kernel) ?_
                 | refine ⟨_, rfl, (by simp only [mts_len, vcs_len]; omega), ?_⟩
                 | refine And.intro (by simp only [mts_len, vcs_len]; omega) ?_
                 | refine ⟨_, _, rfl, mts_get (by omega), (by simp only [vcs_len]; omega), ?_⟩
                 | refine ⟨_, _, mts_get (by omega), vcs_get (by omega), ?_⟩
                 | refine ⟨_, mts_get (by omega), ?_⟩
                 | refine ⟨_, vcs_get (by omega), ?_⟩
                 | refine ArOb.fits (by simp only [vcs_len, mts_len]; omega) ?_
                 | fail)
        all_goals try (conv => whnf)
        exact ⟨((0, [], (0, 0), [], []), 3), .inr ⟨by simp, rfl⟩, rfl, Imp.tup ⟨Imp.agg ⟨Imp.refl _, Imp.nil _, Imp.refl _, Imp.refl _, Imp.nil _, Imp.nil _, trivial⟩, Imp.refl _, trivial⟩⟩
      | true =>
        obtain ⟨hz, hz1, hz2⟩ := hz rfl
        repeat' (conv => whnf
                 first
                 | refine CondOb.mk (fun _ => ?_) (fun _ => ?_)
                 | refine ArOb.fits (by omega) ?_
                 | refine LitOb.vec ?_
                 | refine MakeOb.vec ?_
                 | refine AllocOb.box ?_
                 | refine CutOb.split ?_
                 | refine Gh.mk [] ?_
                 | refine ⟨_, _, rfl, rfl, Nat.le_refl _, ⟨by (simp only; omega), by omega⟩, ?_⟩
                 | refine DrawOb.mk [] (.qs [0, 1, 2, 3, 4, 5, 6, 7] .nil) (by decide +kernel) ?_
                 | refine DrawOb.mk [] (.qs [0, 1, 2, 3, 4, 5, 6, 7, 8, 9, 10, 11, 12, 13, 14, 15] (.l 16 [] .nil .no)) (by decide +kernel) ?_
                 | refine DrawOb.mk [] (.qs [0, 1, 2, 3, 4, 5, 6, 7, 8, 9] .nil) (by decide +kernel) ?_
                 | refine DrawOb.mk [] (.qs [0, 1, 2, 3, 4, 5, 6, 7, 8, 9, 10, 11, 12, 13, 14, 15, 16, 17, 18, 19, 20, 21, 22, 23] .nil) (by decide +kernel) ?_
                 | refine DrawOb.mk [] (.qs [0, 1, 2, 3, 4, 5, 6, 7, 8, 9, 10, 11, 12, 13, 14, 15, 16, 17] (.l 18 [] (.qs [19] (.l 20 [] .nil .no)) .no)) (by decide +kernel) ?_
                 | refine DrawOb.mk [] (.qs [0, 1, 2, 3, 4, 5, 6, 7, 8, 9, 10, 11, 12, 13, 14, 15, 16, 17] (.l 18 [] (.qs [19] (.l 20 [] .nil .no)) .no)) (by decide +kernel) ?_
                 | refine ⟨p.c.length + 2 * p.r.length, (by omega), (by simp only [vcs_len]; omega), ?_⟩
                 | refine ⟨_, rfl, (by simp only [mts_len, vcs_len]; omega), ?_⟩
                 | refine And.intro (by simp only [mts_len, vcs_len]; omega) ?_
                 | refine ⟨_, _, rfl, mts_get (by omega), (by simp only [vcs_len]; omega), ?_⟩
                 | refine ⟨_, _, mts_get (by omega), vcs_get (by omega), ?_⟩
                 | refine ⟨_, mts_get (by omega), ?_⟩
                 | refine ⟨_, vcs_get (by omega), ?_⟩
                 | refine ArOb.fits (by simp only [vcs_len, mts_len]; omega) ?_
                 | fail)
        all_goals try (conv => whnf)
        · have hkn : k = p.c.length := by omega
          rw [if_pos hkn] at hst
          have e := vcs_congr (w := p.c.length + 2 * p.r.length + 1) (fun j _ => hst j)
          rw [← hz, ← vcs_set] at e
          exact ⟨k + 1, [0, 1, 2, 3, 4, 5, 6], ⟨by omega, hib ⟨by omega, by omega⟩⟩, by omega, by rw [← e]; (refine Le.mk (by kernel_rfl) ?_ ?_ <;> repeat' (first | exact True.intro | refine And.intro ?_ ?_ | exact Imp.refl _ | exact Imp.any _ | exact Imp.num (by first | omega | simp only [ints_len]) | exact rfl | exact Imp.bl (by simp)))⟩
        · have hkn : ¬k = p.c.length := by omega
          rw [if_neg hkn] at hst
          have e := vcs_congr (w := p.c.length + 2 * p.r.length + 1) (fun j _ => hst j)
          rw [← hz, ← vcs_set] at e
          exact ⟨k + 1, [0, 1, 2, 3, 4, 5, 6], ⟨by omega, hib ⟨by omega, by omega⟩⟩, by omega, by rw [← e]; (refine Le.mk (by kernel_rfl) ?_ ?_ <;> repeat' (first | exact True.intro | refine And.intro ?_ ?_ | exact Imp.refl _ | exact Imp.any _ | exact Imp.num (by first | omega | simp only [ints_len]) | exact rfl | exact Imp.bl (by simp)))⟩
    have hkn : k = p.c.length + 1 := by omega
    subst hkn
    clear hkl hk
    have hSl : ∀ j, rowS (w.1 ++ [w.2.2]) s p.c.length (p.c.length + 2 * p.r.length) i (sns w) j = if j = p.c.length + i then sns w else rowk (w.1 ++ [w.2.2]) s p.c.length (p.c.length + 2 * p.r.length) (p.c.length + 1) j := fun j => rfl
    have hS0 : rowk (w.1 ++ [w.2.2]) s p.c.length (p.c.length + 2 * p.r.length) (p.c.length + 1) (p.c.length + i) = 0 := by unfold rowk; rw [if_neg (by omega), if_neg (by omega)]
    repeat' (conv => whnf
             first
             | refine ArOb.fits (by omega) ?_
             | refine LitOb.vec ?_
             | refine MakeOb.vec ?_
             | refine AllocOb.box ?_
             | refine Gh.mk [] ?_
             | refine ⟨_, _, rfl, rfl, Nat.le_refl _, ⟨by (simp only; omega), by omega⟩, ?_⟩
             | refine DrawOb.mk [] (.qs [0, 1, 2, 3, 4, 5, 6, 7] .nil) (by decide +kernel) ?_
             | refine DrawOb.mk [] (.qs [0, 1, 2, 3, 4, 5, 6, 7, 8, 9, 10, 11, 12, 13, 14, 15] (.l 16 [] .nil .no)) (by decide +kernel) ?_
             | refine DrawOb.mk [] (.qs [0, 1, 2, 3, 4, 5, 6, 7, 8, 9] .nil) (by decide +kernel) ?_
             | refine DrawOb.mk [] (.qs [0, 1, 2, 3, 4, 5, 6, 7, 8, 9, 10, 11, 12, 13, 14, 15, 16, 17, 18, 19, 20, 21, 22, 23] .nil) (by decide +kernel) ?_
             | refine DrawOb.mk [] (.qs [0, 1, 2, 3, 4, 5, 6, 7, 8, 9, 10, 11, 12, 13, 14, 15, 16, 17] (.l 18 [] (.qs [19] (.l 20 [] .nil .no)) .no)) (by decide +kernel) ?_
             | refine DrawOb.mk [] (.qs [0, 1, 2, 3, 4, 5, 6, 7, 8, 9, 10, 11, 12, 13, 14, 15, 16, 17] (.l 18 [] (.qs [19] (.l 20 [] .nil .no)) .no)) (by decide +kernel) ?_
             | refine ⟨i, _, rfl, hgt, ?_⟩
             | refine ⟨_, rfl, (by simp only [mts_len, vcs_len]; omega), ?_⟩
             | refine And.intro (by simp only [mts_len, vcs_len]; omega) ?_
             | refine ⟨_, _, rfl, mts_get (by omega), (by simp only [vcs_len]; omega), ?_⟩
             | refine ⟨_, _, mts_get (by omega), vcs_get (by omega), ?_⟩
             | refine ⟨_, mts_get (by omega), ?_⟩
             | refine ⟨_, vcs_get (by omega), ?_⟩
             | refine ArOb.fits (by simp only [vcs_len, mts_len]; omega) ?_
             | fail)
    all_goals try (conv => whnf)
    refine CutOb.cut (Y := Nat → Int) (st := fun g => ⟨[(12, .vec 6), (11, i64 s), (9, i64 i), (8, .vec 4), (7, .ptr 3 0), (6, i64 (p.c.length + 2 * p.r.length + 1 : Nat)), (5, i64 p.r.length), (4, i64 p.c.length), (2, .ptr 1 0), (1, .ptr 0 0)], [.box [fsl p.c, .psl 4 (rws p.r)], .box [i64 0, .nil, i64 0, i64 0, .nil, .nil], .vec 1 (vcs p.r.length bs), .box [.vec 5, .vec 2, i64 1, .bl false], .vec 1 (vcs p.r.length bY), .mat 1 (mts i (p.c.length + 2 * p.r.length + 1) f), .vec 1 (vcs (p.c.length + 2 * p.r.length + 1) (g))]⟩) (inv := fun g => ∀ j, g j = rowS (w.1 ++ [w.2.2]) s p.c.length (p.c.length + 2 * p.r.length) i (sns w) j) ?_ ?_
    · repeat' (conv => whnf
               first
               | (refine CondOb.mk (fun _ => ?_) (fun _ => ?_) <;> first | (exfalso; omega) | skip)
               | refine ArOb.fits (by omega) ?_
               | refine LitOb.vec ?_
               | refine MakeOb.vec ?_
               | refine AllocOb.box ?_
               | refine CutOb.split ?_
               | refine Gh.mk [] ?_
               | refine ⟨_, _, rfl, rfl, Nat.le_refl _, ⟨by (simp only; omega), by omega⟩, ?_⟩
               | refine DrawOb.mk [] (.qs [0, 1, 2, 3, 4, 5, 6, 7] .nil) (by decide +kernel) ?_
               | refine DrawOb.mk [] (.qs [0, 1, 2, 3, 4, 5, 6, 7, 8, 9, 10, 11, 12, 13, 14, 15] (.l 16 [] .nil .no)) (by decide +kernel) ?_
               | refine DrawOb.mk [] (.qs [0, 1, 2, 3, 4, 5, 6, 7, 8, 9] .nil) (by decide +kernel) ?_
               | refine DrawOb.mk [] (.qs [0, 1, 2, 3, 4, 5, 6, 7, 8, 9, 10, 11, 12, 13, 14, 15, 16, 17, 18, 19, 20, 21, 22, 23] .nil) (by decide +kernel) ?_
               | refine DrawOb.mk [] (.qs [0, 1, 2, 3, 4, 5, 6, 7, 8, 9, 10, 11, 12, 13, 14, 15, 16, 17] (.l 18 [] (.qs [19] (.l 20 [] .nil .no)) .no)) (by decide +kernel) ?_
               | refine DrawOb.mk [] (.qs [0, 1, 2, 3, 4, 5, 6, 7, 8, 9, 10, 11, 12, 13, 14, 15, 16, 17] (.l 18 [] (.qs [19] (.l 20 [] .nil .no)) .no)) (by decide +kernel) ?_
               | refine ⟨p.c.length + i, (by omega), (by simp only [vcs_len]; omega), ?_⟩
               | refine ⟨i, _, rfl, hgt, ?_⟩
               | refine ⟨_, rfl, (by simp only [mts_len, vcs_len]; omega), ?_⟩
               | refine And.intro (by simp only [mts_len, vcs_len]; omega) ?_
               | refine ⟨_, _, rfl, mts_get (by omega), (by simp only [vcs_len]; omega), ?_⟩
               | refine ⟨_, _, mts_get (by omega), vcs_get (by omega), ?_⟩
               | refine ⟨_, mts_get (by omega), ?_⟩
               | refine ⟨_, vcs_get (by omega), ?_⟩
               | refine ArOb.fits (by simp only [vcs_len, mts_len]; omega) ?_
               | fail)
      all_goals try (conv => whnf)
      · have h1 : w.2.1 = 1 := by assumption
        rw [vcs_set]
        exact ⟨up (rowk (w.1 ++ [w.2.2]) s p.c.length (p.c.length + 2 * p.r.length) (p.c.length + 1)) (p.c.length + i) 1, [0, 1, 2, 3, 4, 5, 6], fun j => by rw [hSl]; simp only [up, sns, if_pos h1], by (refine Le.mk (by kernel_rfl) ?_ ?_ <;> repeat' (first | exact True.intro | refine And.intro ?_ ?_ | exact Imp.refl _ | exact Imp.any _ | exact Imp.num (by first | omega | simp only [ints_len]) | exact rfl | exact Imp.bl (by simp)))⟩
      · have h1 : w.2.1 = 2 := by assumption
        rw [vcs_set]
        exact ⟨up (rowk (w.1 ++ [w.2.2]) s p.c.length (p.c.length + 2 * p.r.length) (p.c.length + 1)) (p.c.length + i) (-1), [0, 1, 2, 3, 4, 5, 6], fun j => by rw [hSl]; simp [up, sns, h1], by (refine Le.mk (by kernel_rfl) ?_ ?_ <;> repeat' (first | exact True.intro | refine And.intro ?_ ?_ | exact Imp.refl _ | exact Imp.any _ | exact Imp.num (by first | omega | simp only [ints_len]) | exact rfl | exact Imp.bl (by simp)))⟩
      · have h3 : sns w = 0 := by unfold sns; rw [if_neg (by assumption), if_neg (by assumption)]
        exact ⟨rowk (w.1 ++ [w.2.2]) s p.c.length (p.c.length + 2 * p.r.length) (p.c.length + 1), [0, 1, 2, 3, 4, 5, 6], fun j => by rw [hSl, h3]; split <;> simp_all, by (refine Le.mk (by kernel_rfl) ?_ ?_ <;> repeat' (first | exact True.intro | refine And.intro ?_ ?_ | exact Imp.refl _ | exact Imp.any _ | exact Imp.num (by first | omega | simp only [ints_len]) | exact rfl | exact Imp.bl (by simp)))⟩
    intro g hg
    have hgE : g (p.c.length + 2 * p.r.length) = (w.2.2).1 * (s / (w.2.2).2) := by rw [hg]; exact rowS_E hws.1 (by omega)
    have hgb : ∀ j < (p.c.length + 2 * p.r.length + 1), -2147483648 < g j ∧ g j < 2147483648 := fun j hj => by rw [hg]; exact rowS_bd (fun k hk => hivb k (by omega)) (by unfold sns; split <;> (try split) <;> omega)
    repeat' (conv => whnf
             first
             | refine ArOb.fits (by omega) ?_
             | refine LitOb.vec ?_
             | refine MakeOb.vec ?_
             | refine AllocOb.box ?_
             | refine Gh.mk [] ?_
             | refine ⟨_, _, rfl, rfl, Nat.le_refl _, ⟨by (simp only; omega), by omega⟩, ?_⟩
             | refine DrawOb.mk [] (.qs [0, 1, 2, 3, 4, 5, 6, 7] .nil) (by decide +kernel) ?_
             | refine DrawOb.mk [] (.qs [0, 1, 2, 3, 4, 5, 6, 7, 8, 9, 10, 11, 12, 13, 14, 15] (.l 16 [] .nil .no)) (by decide +kernel) ?_
             | refine DrawOb.mk [] (.qs [0, 1, 2, 3, 4, 5, 6, 7, 8, 9] .nil) (by decide +kernel) ?_
             | refine DrawOb.mk [] (.qs [0, 1, 2, 3, 4, 5, 6, 7, 8, 9, 10, 11, 12, 13, 14, 15, 16, 17, 18, 19, 20, 21, 22, 23] .nil) (by decide +kernel) ?_
             | refine DrawOb.mk [] (.qs [0, 1, 2, 3, 4, 5, 6, 7, 8, 9, 10, 11, 12, 13, 14, 15, 16, 17] (.l 18 [] (.qs [19] (.l 20 [] .nil .no)) .no)) (by decide +kernel) ?_
             | refine DrawOb.mk [] (.qs [0, 1, 2, 3, 4, 5, 6, 7, 8, 9, 10, 11, 12, 13, 14, 15, 16, 17] (.l 18 [] (.qs [19] (.l 20 [] .nil .no)) .no)) (by decide +kernel) ?_
             | refine ⟨_, rfl, (by simp only [mts_len, vcs_len]; omega), ?_⟩
             | refine And.intro (by simp only [mts_len, vcs_len]; omega) ?_
             | refine ⟨_, _, rfl, mts_get (by omega), (by simp only [vcs_len]; omega), ?_⟩
             | refine ⟨_, _, mts_get (by omega), vcs_get (by omega), ?_⟩
             | refine ⟨_, mts_get (by omega), ?_⟩
             | refine ⟨_, vcs_get (by omega), ?_⟩
             | refine ArOb.fits (by simp only [vcs_len, mts_len]; omega) ?_
             | fail)
    all_goals try (conv => whnf)
    rw [vcs_set]
    refine CutOb.cut (Y := (Nat → Int) × Int) (st := fun y => ⟨[(12, .vec 6), (9, i64 i), (8, .vec 4), (7, .ptr 3 0), (6, i64 (p.c.length + 2 * p.r.length + 1 : Nat)), (5, i64 p.r.length), (4, i64 p.c.length), (2, .ptr 1 0), (1, .ptr 0 0)], [.box [fsl p.c, .psl 4 (rws p.r)], .box [i64 0, .nil, i64 0, i64 0, .nil, .nil], .vec 1 (vcs p.r.length (bs)), .box [.vec 5, .vec 2, i64 1, .bl false], .vec 1 (vcs p.r.length (up bY i y.2)), .mat 1 (mts i (p.c.length + 2 * p.r.length + 1) f), .vec 1 (vcs (p.c.length + 2 * p.r.length + 1) (y.1))]⟩) (inv := fun y => (y.2 = s ∨ y.2 = -s) ∧ 0 ≤ y.1 (p.c.length + 2 * p.r.length) ∧ ∀ j < (p.c.length + 2 * p.r.length + 1), y.1 j = sg y.2 * g j) ?_ ?_
    · repeat' (conv => whnf
               first
               | refine ArOb.fits (by omega) ?_
               | refine LitOb.vec ?_
               | refine MakeOb.vec ?_
               | refine AllocOb.box ?_
               | refine Gh.mk [] ?_
               | refine ⟨_, _, rfl, rfl, Nat.le_refl _, ⟨by (simp only; omega), by omega⟩, ?_⟩
               | refine DrawOb.mk [] (.qs [0, 1, 2, 3, 4, 5, 6, 7] .nil) (by decide +kernel) ?_
               | refine DrawOb.mk [] (.qs [0, 1, 2, 3, 4, 5, 6, 7, 8, 9, 10, 11, 12, 13, 14, 15] (.l 16 [] .nil .no)) (by decide +kernel) ?_
               | refine DrawOb.mk [] (.qs [0, 1, 2, 3, 4, 5, 6, 7, 8, 9] .nil) (by decide +kernel) ?_
               | refine DrawOb.mk [] (.qs [0, 1, 2, 3, 4, 5, 6, 7, 8, 9, 10, 11, 12, 13, 14, 15, 16, 17, 18, 19, 20, 21, 22, 23] .nil) (by decide +kernel) ?_
               | refine DrawOb.mk [] (.qs [0, 1, 2, 3, 4, 5, 6, 7, 8, 9, 10, 11, 12, 13, 14, 15, 16, 17] (.l 18 [] (.qs [19] (.l 20 [] .nil .no)) .no)) (by decide +kernel) ?_
               | refine DrawOb.mk [] (.qs [0, 1, 2, 3, 4, 5, 6, 7, 8, 9, 10, 11, 12, 13, 14, 15, 16, 17] (.l 18 [] (.qs [19] (.l 20 [] .nil .no)) .no)) (by decide +kernel) ?_
               | refine ⟨p.c.length + 2 * p.r.length, (by omega), (by simp only [vcs_len]; omega), ?_⟩
               | refine ⟨_, rfl, (by simp only [mts_len, vcs_len]; omega), ?_⟩
               | refine And.intro (by simp only [mts_len, vcs_len]; omega) ?_
               | refine ⟨_, _, rfl, mts_get (by omega), (by simp only [vcs_len]; omega), ?_⟩
               | refine ⟨_, _, mts_get (by omega), vcs_get (by omega), ?_⟩
               | refine ⟨_, mts_get (by omega), ?_⟩
               | refine ⟨_, vcs_get (by omega), ?_⟩
               | refine ArOb.fits (by simp only [vcs_len, mts_len]; omega) ?_
               | fail)
      all_goals try (conv => whnf)
      refine CondOb.mk (fun hneg => ?_) (fun hneg => ?_)
      · repeat' (conv => whnf
                 first
                 | refine ArOb.fits (by omega) ?_
                 | refine LitOb.vec ?_
                 | refine MakeOb.vec ?_
                 | refine AllocOb.box ?_
                 | refine Gh.mk [] ?_
                 | refine ⟨_, _, rfl, rfl, Nat.le_refl _, ⟨by (simp only; omega), by omega⟩, ?_⟩
                 | refine DrawOb.mk [] (.qs [0, 1, 2, 3, 4, 5, 6, 7] .nil) (by decide +kernel) ?_
                 | refine DrawOb.mk [] (.qs [0, 1, 2, 3, 4, 5, 6, 7, 8, 9, 10, 11, 12, 13, 14, 15] (.l 16 [] .nil .no)) (by decide +kernel) ?_
                 | refine DrawOb.mk [] (.qs [0, 1, 2, 3, 4, 5, 6, 7, 8, 9] .nil) (by decide +kernel) ?_
                 | refine DrawOb.mk [] (.qs [0, 1, 2, 3, 4, 5, 6, 7, 8, 9, 10, 11, 12, 13, 14, 15, 16, 17, 18, 19, 20, 21, 22, 23] .nil) (by decide +kernel) ?_
                 | refine DrawOb.mk [] (.qs [0, 1, 2, 3, 4, 5, 6, 7, 8, 9, 10, 11, 12, 13, 14, 15, 16, 17] (.l 18 [] (.qs [19] (.l 20 [] .nil .no)) .no)) (by decide +kernel) ?_
                 | refine DrawOb.mk [] (.qs [0, 1, 2, 3, 4, 5, 6, 7, 8, 9, 10, 11, 12, 13, 14, 15, 16, 17] (.l 18 [] (.qs [19] (.l 20 [] .nil .no)) .no)) (by decide +kernel) ?_
                 | refine ⟨p.c.length + 2 * p.r.length, (by omega), (by simp only [vcs_len]; omega), ?_⟩
                 | refine ⟨_, rfl, (by simp only [mts_len, vcs_len]; omega), ?_⟩
                 | refine And.intro (by simp only [mts_len, vcs_len]; omega) ?_
                 | refine ⟨_, _, rfl, mts_get (by omega), (by simp only [vcs_len]; omega), ?_⟩
                 | refine ⟨_, _, mts_get (by omega), vcs_get (by omega), ?_⟩
                 | refine ⟨_, mts_get (by omega), ?_⟩
                 | refine ⟨_, vcs_get (by omega), ?_⟩
                 | refine ArOb.fits (by simp only [vcs_len, mts_len]; omega) ?_
                 | fail)
        all_goals try (conv => whnf)
        rw [vcs_set, up_up, vcs_len]
        refine LoopOb.mk (Y := Nat) (st := fun k => ⟨[(153, i64 k), (152, i64 (p.c.length + 2 * p.r.length + 1 : Nat)), (151, .vec 6), (12, .vec 6), (9, i64 i), (8, .vec 4), (7, .ptr 3 0), (6, i64 (p.c.length + 2 * p.r.length + 1 : Nat)), (5, i64 p.r.length), (4, i64 p.c.length), (2, .ptr 1 0), (1, .ptr 0 0)], [.box [fsl p.c, .psl 4 (rws p.r)], .box [i64 0, .nil, i64 0, i64 0, .nil, .nil], .vec 1 (vcs p.r.length (bs)), .box [.vec 5, .vec 2, i64 1, .bl false], .vec 1 (vcs p.r.length (up bY i (0 - s))), .mat 1 (mts i (p.c.length + 2 * p.r.length + 1) f), .vec 1 (vcs (p.c.length + 2 * p.r.length + 1) (ngr g k))]⟩)
          (inv := fun k => k ≤ (p.c.length + 2 * p.r.length + 1)) (fun k => (p.c.length + 2 * p.r.length + 1) - k) 0 [0, 1, 2, 3, 4, 5, 6] (by omega) (by (refine Le.mk (by kernel_rfl) ?_ ?_ <;> repeat' (first | exact True.intro | refine And.intro ?_ ?_ | exact Imp.refl _ | exact Imp.any _ | exact Imp.num (by first | omega | simp only [ints_len]) | exact rfl | exact Imp.bl (by simp)))) ?_
        intro k hk
        repeat' (conv => whnf
                 first
                 | refine ArOb.fits (by omega) ?_
                 | refine LitOb.vec ?_
                 | refine MakeOb.vec ?_
                 | refine AllocOb.box ?_
                 | refine Gh.mk [] ?_
                 | refine ⟨_, _, rfl, rfl, Nat.le_refl _, ⟨by (simp only; omega), by omega⟩, ?_⟩
                 | refine DrawOb.mk [] (.qs [0, 1, 2, 3, 4, 5, 6, 7] .nil) (by decide +kernel) ?_
                 | refine DrawOb.mk [] (.qs [0, 1, 2, 3, 4, 5, 6, 7, 8, 9, 10, 11, 12, 13, 14, 15] (.l 16 [] .nil .no)) (by decide +kernel) ?_
                 | refine DrawOb.mk [] (.qs [0, 1, 2, 3, 4, 5, 6, 7, 8, 9] .nil) (by decide +kernel) ?_
                 | refine DrawOb.mk [] (.qs [0, 1, 2, 3, 4, 5, 6, 7, 8, 9, 10, 11, 12, 13, 14, 15, 16, 17, 18, 19, 20, 21, 22, 23] .nil) (by decide +kernel) ?_
                 | refine DrawOb.mk [] (.qs [0, 1, 2, 3, 4, 5, 6, 7, 8, 9, 10, 11, 12, 13, 14, 15, 16, 17] (.l 18 [] (.qs [19] (.l 20 [] .nil .no)) .no)) (by decide +kernel) ?_
                 | refine DrawOb.mk [] (.qs [0, 1, 2, 3, 4, 5, 6, 7, 8, 9, 10, 11, 12, 13, 14, 15, 16, 17] (.l 18 [] (.qs [19] (.l 20 [] .nil .no)) .no)) (by decide +kernel) ?_
                 | refine ⟨_, rfl, (by simp only [mts_len, vcs_len]; omega), ?_⟩
                 | refine And.intro (by simp only [mts_len, vcs_len]; omega) ?_
                 | refine ⟨_, _, rfl, mts_get (by omega), (by simp only [vcs_len]; omega), ?_⟩
                 | refine ⟨_, _, mts_get (by omega), vcs_get (by omega), ?_⟩
                 | refine ⟨_, mts_get (by omega), ?_⟩
                 | refine ⟨_, vcs_get (by omega), ?_⟩
                 | refine ArOb.fits (by simp only [vcs_len, mts_len]; omega) ?_
                 | fail)
        all_goals try (conv => whnf)
        refine CondOb.mk (fun hlt2 => ?_) (fun hlt2 => ?_)
        · have hlt2 : k < (p.c.length + 2 * p.r.length + 1) := by omega
          have hkb : -2147483648 < ngr g k k ∧ ngr g k k < 2147483648 := by have := hgb k hlt2; unfold ngr; simp only [Nat.lt_irrefl, if_false]; exact this
          repeat' (conv => whnf
                   first
                   | refine ArOb.fits (by omega) ?_
                   | refine LitOb.vec ?_
                   | refine MakeOb.vec ?_
                   | refine AllocOb.box ?_
                   | refine Gh.mk [] ?_
                   | refine ⟨_, _, rfl, rfl, Nat.le_refl _, ⟨by (simp only; omega), by omega⟩, ?_⟩
                   | refine DrawOb.mk [] (.qs [0, 1, 2, 3, 4, 5, 6, 7] .nil) (by decide +kernel) ?_
                   | refine DrawOb.mk [] (.qs [0, 1, 2, 3, 4, 5, 6, 7, 8, 9, 10, 11, 12, 13, 14, 15] (.l 16 [] .nil .no)) (by decide +kernel) ?_
                   | refine DrawOb.mk [] (.qs [0, 1, 2, 3, 4, 5, 6, 7, 8, 9] .nil) (by decide +kernel) ?_
                   | refine DrawOb.mk [] (.qs [0, 1, 2, 3, 4, 5, 6, 7, 8, 9, 10, 11, 12, 13, 14, 15, 16, 17, 18, 19, 20, 21, 22, 23] .nil) (by decide +kernel) ?_
                   | refine DrawOb.mk [] (.qs [0, 1, 2, 3, 4, 5, 6, 7, 8, 9, 10, 11, 12, 13, 14, 15, 16, 17] (.l 18 [] (.qs [19] (.l 20 [] .nil .no)) .no)) (by decide +kernel) ?_
                   | refine DrawOb.mk [] (.qs [0, 1, 2, 3, 4, 5, 6, 7, 8, 9, 10, 11, 12, 13, 14, 15, 16, 17] (.l 18 [] (.qs [19] (.l 20 [] .nil .no)) .no)) (by decide +kernel) ?_
                   | refine ⟨_, rfl, (by simp only [mts_len, vcs_len]; omega), ?_⟩
                   | refine And.intro (by simp only [mts_len, vcs_len]; omega) ?_
                   | refine ⟨_, _, rfl, mts_get (by omega), (by simp only [vcs_len]; omega), ?_⟩
                   | refine ⟨_, _, mts_get (by omega), vcs_get (by omega), ?_⟩
                   | refine ⟨_, mts_get (by omega), ?_⟩
                   | refine ⟨_, vcs_get (by omega), ?_⟩
                   | refine ArOb.fits (by simp only [vcs_len, mts_len]; omega) ?_
                   | refine And.intro (And.intro (by simp only [List.length_append, List.length_cons, List.length_nil, mts_len, vcs_len, fr_len]; omega) (by simp only [List.length_append, List.length_cons, List.length_nil, mts_len, vcs_len, fr_len]; omega)) ?_
                   | fail)
          all_goals try (conv => whnf)
          rw [vcs_set, ngr_step]
          exact ⟨k + 1, [0, 1, 2, 3, 4, 5, 6], by omega, by omega, by (refine Le.mk (by kernel_rfl) ?_ ?_ <;> repeat' (first | exact True.intro | refine And.intro ?_ ?_ | exact Imp.refl _ | exact Imp.any _ | exact Imp.num (by first | omega | simp only [ints_len]) | exact rfl | exact Imp.bl (by simp)))⟩
        · repeat' (conv => whnf
                   first
                   | refine ArOb.fits (by omega) ?_
                   | refine LitOb.vec ?_
                   | refine MakeOb.vec ?_
                   | refine AllocOb.box ?_
                   | refine Gh.mk [] ?_
                   | refine ⟨_, _, rfl, rfl, Nat.le_refl _, ⟨by (simp only; omega), by omega⟩, ?_⟩
                   | refine DrawOb.mk [] (.qs [0, 1, 2, 3, 4, 5, 6, 7] .nil) (by decide +kernel) ?_
                   | refine DrawOb.mk [] (.qs [0, 1, 2, 3, 4, 5, 6, 7, 8, 9, 10, 11, 12, 13, 14, 15] (.l 16 [] .nil .no)) (by decide +kernel) ?_
                   | refine DrawOb.mk [] (.qs [0, 1, 2, 3, 4, 5, 6, 7, 8, 9] .nil) (by decide +kernel) ?_
                   | refine DrawOb.mk [] (.qs [0, 1, 2, 3, 4, 5, 6, 7, 8, 9, 10, 11, 12, 13, 14, 15, 16, 17, 18, 19, 20, 21, 22, 23] .nil) (by decide +kernel) ?_
                   | refine DrawOb.mk [] (.qs [0, 1, 2, 3, 4, 5, 6, 7, 8, 9, 10, 11, 12, 13, 14, 15, 16, 17] (.l 18 [] (.qs [19] (.l 20 [] .nil .no)) .no)) (by decide +kernel) ?_
                   | refine DrawOb.mk [] (.qs [0, 1, 2, 3, 4, 5, 6, 7, 8, 9, 10, 11, 12, 13, 14, 15, 16, 17] (.l 18 [] (.qs [19] (.l 20 [] .nil .no)) .no)) (by decide +kernel) ?_
                   | fail)
          all_goals try (conv => whnf)
          have hkW : k = (p.c.length + 2 * p.r.length + 1) := by omega
          subst hkW
          exact ⟨(ngr g (p.c.length + 2 * p.r.length + 1), 0 - s), [0, 1, 2, 3, 4, 5, 6], ⟨.inr (by simp only; omega), by simp only [ngr]; rw [if_pos (by omega)]; omega, fun j hj => by simp only [sg, ngr]; rw [if_pos hj, if_pos (by omega)]; omega⟩, by (refine Le.mk (by kernel_rfl) ?_ ?_ <;> repeat' (first | exact True.intro | refine And.intro ?_ ?_ | exact Imp.refl _ | exact Imp.any _ | exact Imp.num (by first | omega | simp only [ints_len]) | exact rfl | exact Imp.bl (by simp)))⟩
      · refine .mk [] ?_
        exact ⟨(g, s), [0, 1, 2, 3, 4, 5, 6], ⟨.inl rfl, by simp only; omega, fun j _ => by simp only [sg]; rw [if_neg (by omega)]; omega⟩, by (refine Le.mk (by kernel_rfl) ?_ ?_ <;> repeat' (first | exact True.intro | refine And.intro ?_ ?_ | exact Imp.refl _ | exact Imp.any _ | exact Imp.num (by first | omega | simp only [ints_len]) | exact rfl | exact Imp.bl (by simp)))⟩
    rintro ⟨g', b⟩ ⟨hb, hg0, hg'⟩
    dsimp only at hb hg0 hg' ⊢
    repeat' (conv => whnf
             first
             | refine ArOb.fits (by omega) ?_
             | refine LitOb.vec ?_
             | refine MakeOb.vec ?_
             | refine AllocOb.box ?_
             | refine Gh.mk [] ?_
             | refine ⟨_, _, rfl, rfl, Nat.le_refl _, ⟨by (simp only; omega), by omega⟩, ?_⟩
             | refine DrawOb.mk [] (.qs [0, 1, 2, 3, 4, 5, 6, 7] .nil) (by decide +kernel) ?_
             | refine DrawOb.mk [] (.qs [0, 1, 2, 3, 4, 5, 6, 7, 8, 9, 10, 11, 12, 13, 14, 15] (.l 16 [] .nil .no)) (by decide +kernel) ?_
             | refine DrawOb.mk [] (.qs [0, 1, 2, 3, 4, 5, 6, 7, 8, 9] .nil) (by decide +kernel) ?_
             | refine DrawOb.mk [] (.qs [0, 1, 2, 3, 4, 5, 6, 7, 8, 9, 10, 11, 12, 13, 14, 15, 16, 17, 18, 19, 20, 21, 22, 23] .nil) (by decide +kernel) ?_
             | refine DrawOb.mk [] (.qs [0, 1, 2, 3, 4, 5, 6, 7, 8, 9, 10, 11, 12, 13, 14, 15, 16, 17] (.l 18 [] (.qs [19] (.l 20 [] .nil .no)) .no)) (by decide +kernel) ?_
             | refine DrawOb.mk [] (.qs [0, 1, 2, 3, 4, 5, 6, 7, 8, 9, 10, 11, 12, 13, 14, 15, 16, 17] (.l 18 [] (.qs [19] (.l 20 [] .nil .no)) .no)) (by decide +kernel) ?_
             | refine ⟨p.c.length + p.r.length + i, (by omega), (by simp only [vcs_len]; omega), ?_⟩
             | refine ⟨_, rfl, (by simp only [mts_len, vcs_len]; omega), ?_⟩
             | refine And.intro (by simp only [mts_len, vcs_len]; omega) ?_
             | refine ⟨_, _, rfl, mts_get (by omega), (by simp only [vcs_len]; omega), ?_⟩
             | refine ⟨_, _, mts_get (by omega), vcs_get (by omega), ?_⟩
             | refine ⟨_, mts_get (by omega), ?_⟩
             | refine ⟨_, vcs_get (by omega), ?_⟩
             | refine ArOb.fits (by simp only [vcs_len, mts_len]; omega) ?_
             | refine And.intro (And.intro (by simp only [List.length_append, List.length_cons, List.length_nil, mts_len, vcs_len, fr_len]; omega) (by simp only [List.length_append, List.length_cons, List.length_nil, mts_len, vcs_len, fr_len]; omega)) ?_
             | fail)
    all_goals try (conv => whnf)
    rw [vcs_set, vcs_set, mts_app]
    exact ⟨(i + 1, up bs i (↑p.c.length + ↑p.r.length + ↑i), up bY i b, up2 f i (up g' (p.c.length + p.r.length + i) 1)), [0, 1, 2, 3, 4, 8], ⟨by simp only; omega, iniP_bs hbs, iniP_row hrow (by rw [hwe]; exact rowI_mk hws.1 hws.2.2.2.1 hws.2.2.2.2 s1 s2 hsd hil hg hgb hb hg0 hg')⟩, by simp only; omega, by (refine Le.mk (by kernel_rfl) ?_ ?_ <;> repeat' (first | exact True.intro | refine And.intro ?_ ?_ | exact Imp.refl _ | exact Imp.any _ | exact Imp.num (by first | omega | simp only [ints_len]) | exact rfl | exact Imp.bl (by simp)))⟩
  have hie : i = p.r.length := by omega
  subst hie
  have hrep3 : List.replicate (p.c.length + 2 * p.r.length + 1) [i64 0] = vcs (p.c.length + 2 * p.r.length + 1) (cst p.c.length p.r.length 0) := by rw [vcs_repl]; exact vcs_congr (fun k _ => by unfold cst; rw [if_neg (by omega)])
  have hfb : ∀ i < p.r.length, ∀ k < (p.c.length + 2 * p.r.length + 1), -2147483648 < f i k ∧ f i k < 2147483648 := fun i h k hk => (hrow i h).bd k hk
  repeat' (conv => whnf
           first
           | refine ArOb.fits (by omega) ?_
           | refine LitOb.vec ?_
           | refine MakeOb.vec ?_
           | refine AllocOb.box ?_
           | refine CutOb.split ?_
           | refine ⟨_, _, rfl, rfl, Nat.le_refl _, ⟨by (simp only; omega), by omega⟩, ?_⟩
           | refine DrawOb.mk [] (.qs [0, 1, 2, 3, 4, 5, 6, 7] .nil) (by decide +kernel) ?_
           | refine DrawOb.mk [] (.qs [0, 1, 2, 3, 4, 5, 6, 7, 8, 9, 10, 11, 12, 13, 14, 15] (.l 16 [] .nil .no)) (by decide +kernel) ?_
           | refine DrawOb.mk [] (.qs [0, 1, 2, 3, 4, 5, 6, 7, 8, 9] .nil) (by decide +kernel) ?_
           | refine DrawOb.mk [] (.qs [0, 1, 2, 3, 4, 5, 6, 7, 8, 9, 10, 11, 12, 13, 14, 15, 16, 17, 18, 19, 20, 21, 22, 23] .nil) (by decide +kernel) ?_
           | refine DrawOb.mk [] (.qs [0, 1, 2, 3, 4, 5, 6, 7, 8, 9, 10, 11, 12, 13, 14, 15, 16, 17] (.l 18 [] (.qs [19] (.l 20 [] .nil .no)) .no)) (by decide +kernel) ?_
           | refine DrawOb.mk [] (.qs [0, 1, 2, 3, 4, 5, 6, 7, 8, 9, 10, 11, 12, 13, 14, 15, 16, 17] (.l 18 [] (.qs [19] (.l 20 [] .nil .no)) .no)) (by decide +kernel) ?_
           | refine ⟨p.c.length + 2 * p.r.length + 1, p.c.length + 2 * p.r.length + 1, rfl, rfl, (by omega), ⟨by omega, by omega⟩, ?_⟩
           | refine ⟨_, rfl, (by simp only [mts_len, vcs_len]; omega), ?_⟩
           | refine And.intro (by simp only [mts_len, vcs_len]; omega) ?_
           | refine ⟨_, _, rfl, mts_get (by omega), (by simp only [vcs_len]; omega), ?_⟩
           | refine ⟨_, _, mts_get (by omega), vcs_get (by omega), ?_⟩
           | refine ⟨_, mts_get (by omega), ?_⟩
           | refine ⟨_, vcs_get (by omega), ?_⟩
           | refine ArOb.fits (by simp only [vcs_len, mts_len]; omega) ?_
           | refine And.intro (And.intro (by simp only [List.length_append, List.length_cons, List.length_nil, mts_len, vcs_len, fr_len]; omega) (by simp only [List.length_append, List.length_cons, List.length_nil, mts_len, vcs_len, fr_len]; omega)) ?_
           | fail)
  all_goals try (conv => whnf)
  refine .mk [.fz 4] ?_
  refine LoopOb.mk (Y := Nat) (st := fun k => ⟨[(18, i64 k), (17, .vec 6), (8, .psl 1 (vcs p.r.length bY)), (7, .ptr 3 0), (6, i64 (p.c.length + 2 * p.r.length + 1 : Nat)), (5, i64 p.r.length), (4, i64 p.c.length), (2, .ptr 1 0), (1, .ptr 0 0)], [.box [fsl p.c, .psl 4 (rws p.r)], .box [i64 0, .nil, i64 0, i64 0, .nil, .nil], .vec 1 (vcs p.r.length bs), .box [.vec 5, .vec 2, i64 1, .bp (False)], .fro 1 (vcs p.r.length bY), .mat 1 (mts p.r.length (p.c.length + 2 * p.r.length + 1) f), .vec 1 (vcs (p.c.length + 2 * p.r.length + 1) (cst p.c.length p.r.length k))]⟩)
    (inv := fun k => k ≤ p.r.length) (fun k => p.r.length - k) 0 [0, 1, 2, 3, 4, 5, 6] (by omega) (by dsimp only; rw [← hrep3]; (refine Le.mk (by kernel_rfl) ?_ ?_ <;> repeat' (first | exact True.intro | refine And.intro ?_ ?_ | exact Imp.refl _ | exact Imp.any _ | exact Imp.num (by first | omega | simp only [ints_len]) | exact rfl | exact Imp.bl (by simp)))) ?_
  intro k hk
  repeat' (conv => whnf
           first
           | refine ArOb.fits (by omega) ?_
           | refine LitOb.vec ?_
           | refine MakeOb.vec ?_
           | refine AllocOb.box ?_
           | refine CutOb.split ?_
           | refine Gh.mk [] ?_
           | refine ⟨_, _, rfl, rfl, Nat.le_refl _, ⟨by (simp only; omega), by omega⟩, ?_⟩
           | refine DrawOb.mk [] (.qs [0, 1, 2, 3, 4, 5, 6, 7] .nil) (by decide +kernel) ?_
           | refine DrawOb.mk [] (.qs [0, 1, 2, 3, 4, 5, 6, 7, 8, 9, 10, 11, 12, 13, 14, 15] (.l 16 [] .nil .no)) (by decide +kernel) ?_
           | refine DrawOb.mk [] (.qs [0, 1, 2, 3, 4, 5, 6, 7, 8, 9] .nil) (by decide +kernel) ?_
           | refine DrawOb.mk [] (.qs [0, 1, 2, 3, 4, 5, 6, 7, 8, 9, 10, 11, 12, 13, 14, 15, 16, 17, 18, 19, 20, 21, 22, 23] .nil) (by decide +kernel) ?_
           | refine DrawOb.mk [] (.qs [0, 1, 2, 3, 4, 5, 6, 7, 8, 9, 10, 11, 12, 13, 14, 15, 16, 17] (.l 18 [] (.qs [19] (.l 20 [] .nil .no)) .no)) (by decide +kernel) ?_
           | refine DrawOb.mk [] (.qs [0, 1, 2, 3, 4, 5, 6, 7, 8, 9, 10, 11, 12, 13, 14, 15, 16, 17] (.l 18 [] (.qs [19] (.l 20 [] .nil .no)) .no)) (by decide +kernel) ?_
           | refine ⟨_, rfl, (by simp only [mts_len, vcs_len]; omega), ?_⟩
           | refine And.intro (by simp only [mts_len, vcs_len]; omega) ?_
           | refine ⟨_, _, rfl, mts_get (by omega), (by simp only [vcs_len]; omega), ?_⟩
           | refine ⟨_, _, mts_get (by omega), vcs_get (by omega), ?_⟩
           | refine ⟨_, mts_get (by omega), ?_⟩
           | refine ⟨_, vcs_get (by omega), ?_⟩
           | refine ArOb.fits (by simp only [vcs_len, mts_len]; omega) ?_
           | refine And.intro (And.intro (by simp only [List.length_append, List.length_cons, List.length_nil, mts_len, vcs_len, fr_len]; omega) (by simp only [List.length_append, List.length_cons, List.length_nil, mts_len, vcs_len, fr_len]; omega)) ?_
           | fail)
  all_goals try (conv => whnf)
  refine CondOb.mk (fun hlt2 => ?_) (fun hlt2 => ?_)
  · repeat' (conv => whnf
             first
             | refine ArOb.fits (by omega) ?_
             | refine LitOb.vec ?_
             | refine MakeOb.vec ?_
             | refine AllocOb.box ?_
             | refine CutOb.split ?_
             | refine Gh.mk [] ?_
             | refine ⟨_, _, rfl, rfl, Nat.le_refl _, ⟨by (simp only; omega), by omega⟩, ?_⟩
             | refine DrawOb.mk [] (.qs [0, 1, 2, 3, 4, 5, 6, 7] .nil) (by decide +kernel) ?_
             | refine DrawOb.mk [] (.qs [0, 1, 2, 3, 4, 5, 6, 7, 8, 9, 10, 11, 12, 13, 14, 15] (.l 16 [] .nil .no)) (by decide +kernel) ?_
             | refine DrawOb.mk [] (.qs [0, 1, 2, 3, 4, 5, 6, 7, 8, 9] .nil) (by decide +kernel) ?_
             | refine DrawOb.mk [] (.qs [0, 1, 2, 3, 4, 5, 6, 7, 8, 9, 10, 11, 12, 13, 14, 15, 16, 17, 18, 19, 20, 21, 22, 23] .nil) (by decide +kernel) ?_
             | refine DrawOb.mk [] (.qs [0, 1, 2, 3, 4, 5, 6, 7, 8, 9, 10, 11, 12, 13, 14, 15, 16, 17] (.l 18 [] (.qs [19] (.l 20 [] .nil .no)) .no)) (by decide +kernel) ?_
             | refine DrawOb.mk [] (.qs [0, 1, 2, 3, 4, 5, 6, 7, 8, 9, 10, 11, 12, 13, 14, 15, 16, 17] (.l 18 [] (.qs [19] (.l 20 [] .nil .no)) .no)) (by decide +kernel) ?_
             | refine ⟨p.c.length + p.r.length + k, (by omega), (by simp only [vcs_len]; omega), ?_⟩
             | refine ⟨_, rfl, (by simp only [mts_len, vcs_len]; omega), ?_⟩
             | refine And.intro (by simp only [mts_len, vcs_len]; omega) ?_
             | refine ⟨_, _, rfl, mts_get (by omega), (by simp only [vcs_len]; omega), ?_⟩
             | refine ⟨_, _, mts_get (by omega), vcs_get (by omega), ?_⟩
             | refine ⟨_, mts_get (by omega), ?_⟩
             | refine ⟨_, vcs_get (by omega), ?_⟩
             | refine ArOb.fits (by simp only [vcs_len, mts_len]; omega) ?_
             | refine And.intro (And.intro (by simp only [List.length_append, List.length_cons, List.length_nil, mts_len, vcs_len, fr_len]; omega) (by simp only [List.length_append, List.length_cons, List.length_nil, mts_len, vcs_len, fr_len]; omega)) ?_
             | fail)
    all_goals try (conv => whnf)
    rw [vcs_set, cst_step]
    exact ⟨k + 1, [0, 1, 2, 3, 4, 5, 6], by omega, by omega, by (refine Le.mk (by kernel_rfl) ?_ ?_ <;> repeat' (first | exact True.intro | refine And.intro ?_ ?_ | exact Imp.refl _ | exact Imp.any _ | exact Imp.num (by first | omega | simp only [ints_len]) | exact rfl | exact Imp.bl (by simp)))⟩
  have hkm : k = p.r.length := by omega
  subst hkm
  clear hlt2 hk
  repeat' (conv => whnf
           first
           | refine ArOb.fits (by omega) ?_
           | refine LitOb.vec ?_
           | refine MakeOb.vec ?_
           | refine AllocOb.box ?_
           | refine CutOb.split ?_
           | refine Gh.mk [] ?_
           | refine ⟨_, _, rfl, rfl, Nat.le_refl _, ⟨by (simp only; omega), by omega⟩, ?_⟩
           | refine DrawOb.mk [] (.qs [0, 1, 2, 3, 4, 5, 6, 7] .nil) (by decide +kernel) ?_
           | refine DrawOb.mk [] (.qs [0, 1, 2, 3, 4, 5, 6, 7, 8, 9, 10, 11, 12, 13, 14, 15] (.l 16 [] .nil .no)) (by decide +kernel) ?_
           | refine DrawOb.mk [] (.qs [0, 1, 2, 3, 4, 5, 6, 7, 8, 9] .nil) (by decide +kernel) ?_
           | refine DrawOb.mk [] (.qs [0, 1, 2, 3, 4, 5, 6, 7, 8, 9, 10, 11, 12, 13, 14, 15, 16, 17, 18, 19, 20, 21, 22, 23] .nil) (by decide +kernel) ?_
           | refine DrawOb.mk [] (.qs [0, 1, 2, 3, 4, 5, 6, 7, 8, 9, 10, 11, 12, 13, 14, 15, 16, 17] (.l 18 [] (.qs [19] (.l 20 [] .nil .no)) .no)) (by decide +kernel) ?_
           | refine DrawOb.mk [] (.qs [0, 1, 2, 3, 4, 5, 6, 7, 8, 9, 10, 11, 12, 13, 14, 15, 16, 17] (.l 18 [] (.qs [19] (.l 20 [] .nil .no)) .no)) (by decide +kernel) ?_
           | refine ⟨_, rfl, (by simp only [mts_len, vcs_len]; omega), ?_⟩
           | refine And.intro (by simp only [mts_len, vcs_len]; omega) ?_
           | refine ⟨_, _, rfl, mts_get (by omega), (by simp only [vcs_len]; omega), ?_⟩
           | refine ⟨_, _, mts_get (by omega), vcs_get (by omega), ?_⟩
           | refine ⟨_, mts_get (by omega), ?_⟩
           | refine ⟨_, vcs_get (by omega), ?_⟩
           | refine ArOb.fits (by simp only [vcs_len, mts_len]; omega) ?_
           | refine And.intro (And.intro (by simp only [List.length_append, List.length_cons, List.length_nil, mts_len, vcs_len, fr_len]; omega) (by simp only [List.length_append, List.length_cons, List.length_nil, mts_len, vcs_len, fr_len]; omega)) ?_
           | fail)
  all_goals try (conv => whnf)
  refine LoopOb.mk (Y := Nat × Prop) (st := fun y => ⟨[(19, i64 y.1), (17, .vec 6), (8, .psl 1 (vcs p.r.length bY)), (7, .ptr 3 0), (6, i64 (p.c.length + 2 * p.r.length + 1 : Nat)), (5, i64 p.r.length), (4, i64 p.c.length), (2, .ptr 1 0), (1, .ptr 0 0)], [.box [fsl p.c, .psl 4 (rws p.r)], .box [i64 0, .nil, i64 0, i64 0, .nil, .nil], .vec 1 (vcs p.r.length bs), .box [.vec 5, .vec 2, i64 1, .bp (y.2)], .fro 1 (vcs p.r.length bY), .mat 1 (mts p.r.length (p.c.length + 2 * p.r.length + 1) f), .vec 1 (vcs (p.c.length + 2 * p.r.length + 1) (ck p.c.length p.r.length f y.1 0))]⟩)
    (inv := fun y => y.1 ≤ p.r.length ∧ (¬y.2 → ∀ j < (p.c.length + 2 * p.r.length + 1), -2147483648 < ck p.c.length p.r.length f y.1 0 j ∧ ck p.c.length p.r.length f y.1 0 j < 2147483648)) (fun y => p.r.length - y.1) (0, False) [0, 1, 2, 3, 4, 5, 6]
    ⟨by simp, fun _ j _ => by dsimp only; rw [ck0]; have := cst_bd (n := p.c.length) (m := p.r.length) (i := p.r.length) (k := j); omega⟩ (by dsimp only; rw [ck0]; (refine Le.mk (by kernel_rfl) ?_ ?_ <;> repeat' (first | exact True.intro | refine And.intro ?_ ?_ | exact Imp.refl _ | exact Imp.any _ | exact Imp.num (by first | omega | simp only [ints_len]) | exact rfl | exact Imp.bl (by simp)))) ?_
  rintro ⟨i, q⟩ ⟨hi, hq⟩
  dsimp only at hi hq ⊢
  repeat' (conv => whnf
           first
           | refine ArOb.fits (by omega) ?_
           | refine LitOb.vec ?_
           | refine MakeOb.vec ?_
           | refine AllocOb.box ?_
           | refine CutOb.split ?_
           | refine Gh.mk [] ?_
           | refine ⟨_, _, rfl, rfl, Nat.le_refl _, ⟨by (simp only; omega), by omega⟩, ?_⟩
           | refine DrawOb.mk [] (.qs [0, 1, 2, 3, 4, 5, 6, 7] .nil) (by decide +kernel) ?_
           | refine DrawOb.mk [] (.qs [0, 1, 2, 3, 4, 5, 6, 7, 8, 9, 10, 11, 12, 13, 14, 15] (.l 16 [] .nil .no)) (by decide +kernel) ?_
           | refine DrawOb.mk [] (.qs [0, 1, 2, 3, 4, 5, 6, 7, 8, 9] .nil) (by decide +kernel) ?_
           | refine DrawOb.mk [] (.qs [0, 1, 2, 3, 4, 5, 6, 7, 8, 9, 10, 11, 12, 13, 14, 15, 16, 17, 18, 19, 20, 21, 22, 23] .nil) (by decide +kernel) ?_
           | refine DrawOb.mk [] (.qs [0, 1, 2, 3, 4, 5, 6, 7, 8, 9, 10, 11, 12, 13, 14, 15, 16, 17] (.l 18 [] (.qs [19] (.l 20 [] .nil .no)) .no)) (by decide +kernel) ?_
           | refine DrawOb.mk [] (.qs [0, 1, 2, 3, 4, 5, 6, 7, 8, 9, 10, 11, 12, 13, 14, 15, 16, 17] (.l 18 [] (.qs [19] (.l 20 [] .nil .no)) .no)) (by decide +kernel) ?_
           | refine ⟨_, rfl, (by simp only [mts_len, vcs_len]; omega), ?_⟩
           | refine And.intro (by simp only [mts_len, vcs_len]; omega) ?_
           | refine ⟨_, _, rfl, mts_get (by omega), (by simp only [vcs_len]; omega), ?_⟩
           | refine ⟨_, _, mts_get (by omega), vcs_get (by omega), ?_⟩
           | refine ⟨_, mts_get (by omega), ?_⟩
           | refine ⟨_, vcs_get (by omega), ?_⟩
           | refine ArOb.fits (by simp only [vcs_len, mts_len]; omega) ?_
           | refine And.intro (And.intro (by simp only [List.length_append, List.length_cons, List.length_nil, mts_len, vcs_len, fr_len]; omega) (by simp only [List.length_append, List.length_cons, List.length_nil, mts_len, vcs_len, fr_len]; omega)) ?_
           | fail)
  all_goals try (conv => whnf)
  refine CondOb.mk (fun hlt2 => ?_) (fun hlt2 => ?_)
  · have hil : i < p.r.length := by omega
    repeat' (conv => whnf
             first
             | refine ArOb.fits (by omega) ?_
             | refine LitOb.vec ?_
             | refine MakeOb.vec ?_
             | refine AllocOb.box ?_
             | refine CutOb.split ?_
             | refine Gh.mk [] ?_
             | refine ⟨_, _, rfl, rfl, Nat.le_refl _, ⟨by (simp only; omega), by omega⟩, ?_⟩
             | refine DrawOb.mk [] (.qs [0, 1, 2, 3, 4, 5, 6, 7] .nil) (by decide +kernel) ?_
             | refine DrawOb.mk [] (.qs [0, 1, 2, 3, 4, 5, 6, 7, 8, 9, 10, 11, 12, 13, 14, 15] (.l 16 [] .nil .no)) (by decide +kernel) ?_
             | refine DrawOb.mk [] (.qs [0, 1, 2, 3, 4, 5, 6, 7, 8, 9] .nil) (by decide +kernel) ?_
             | refine DrawOb.mk [] (.qs [0, 1, 2, 3, 4, 5, 6, 7, 8, 9, 10, 11, 12, 13, 14, 15, 16, 17, 18, 19, 20, 21, 22, 23] .nil) (by decide +kernel) ?_
             | refine DrawOb.mk [] (.qs [0, 1, 2, 3, 4, 5, 6, 7, 8, 9, 10, 11, 12, 13, 14, 15, 16, 17] (.l 18 [] (.qs [19] (.l 20 [] .nil .no)) .no)) (by decide +kernel) ?_
             | refine DrawOb.mk [] (.qs [0, 1, 2, 3, 4, 5, 6, 7, 8, 9, 10, 11, 12, 13, 14, 15, 16, 17] (.l 18 [] (.qs [19] (.l 20 [] .nil .no)) .no)) (by decide +kernel) ?_
             | refine ⟨_, rfl, (by simp only [mts_len, vcs_len]; omega), ?_⟩
             | refine And.intro (by simp only [mts_len, vcs_len]; omega) ?_
             | refine ⟨_, _, rfl, mts_get (by omega), (by simp only [vcs_len]; omega), ?_⟩
             | refine ⟨_, _, mts_get (by omega), vcs_get (by omega), ?_⟩
             | refine ⟨_, mts_get (by omega), ?_⟩
             | refine ⟨_, vcs_get (by omega), ?_⟩
             | refine ArOb.fits (by simp only [vcs_len, mts_len]; omega) ?_
             | refine And.intro (And.intro (by simp only [List.length_append, List.length_cons, List.length_nil, mts_len, vcs_len, fr_len]; omega) (by simp only [List.length_append, List.length_cons, List.length_nil, mts_len, vcs_len, fr_len]; omega)) ?_
             | fail)
    all_goals try (conv => whnf)
    rw [vcs_len]
    refine LoopOb.mk (Y := Nat × Prop) (st := fun y => ⟨[(214, i64 y.1), (213, i64 (p.c.length + 2 * p.r.length + 1 : Nat)), (212, .vec 6), (19, i64 i), (17, .vec 6), (8, .psl 1 (vcs p.r.length bY)), (7, .ptr 3 0), (6, i64 (p.c.length + 2 * p.r.length + 1 : Nat)), (5, i64 p.r.length), (4, i64 p.c.length), (2, .ptr 1 0), (1, .ptr 0 0)], [.box [fsl p.c, .psl 4 (rws p.r)], .box [i64 0, .nil, i64 0, i64 0, .nil, .nil], .vec 1 (vcs p.r.length bs), .box [.vec 5, .vec 2, i64 1, .bp (y.2)], .fro 1 (vcs p.r.length bY), .mat 1 (mts p.r.length (p.c.length + 2 * p.r.length + 1) f), .vec 1 (vcs (p.c.length + 2 * p.r.length + 1) (ck p.c.length p.r.length f i y.1))]⟩)
      (inv := fun y => y.1 ≤ (p.c.length + 2 * p.r.length + 1) ∧ (¬y.2 → ∀ j < (p.c.length + 2 * p.r.length + 1), -2147483648 < ck p.c.length p.r.length f i y.1 j ∧ ck p.c.length p.r.length f i y.1 j < 2147483648)) (fun y => (p.c.length + 2 * p.r.length + 1) - y.1) (0, q) [0, 1, 2, 3, 4, 5, 6]
      ⟨by simp, hq⟩ (by (refine Le.mk (by kernel_rfl) ?_ ?_ <;> repeat' (first | exact True.intro | refine And.intro ?_ ?_ | exact Imp.refl _ | exact Imp.any _ | exact Imp.num (by first | omega | simp only [ints_len]) | exact rfl | exact Imp.bl (by simp)))) ?_
    clear hq q
    rintro ⟨k, q⟩ ⟨hk, hq⟩
    dsimp only at hk hq ⊢
    repeat' (conv => whnf
             first
             | refine ArOb.fits (by omega) ?_
             | refine LitOb.vec ?_
             | refine MakeOb.vec ?_
             | refine AllocOb.box ?_
             | refine CutOb.split ?_
             | refine Gh.mk [] ?_
             | refine ⟨_, _, rfl, rfl, Nat.le_refl _, ⟨by (simp only; omega), by omega⟩, ?_⟩
             | refine DrawOb.mk [] (.qs [0, 1, 2, 3, 4, 5, 6, 7] .nil) (by decide +kernel) ?_
             | refine DrawOb.mk [] (.qs [0, 1, 2, 3, 4, 5, 6, 7, 8, 9, 10, 11, 12, 13, 14, 15] (.l 16 [] .nil .no)) (by decide +kernel) ?_
             | refine DrawOb.mk [] (.qs [0, 1, 2, 3, 4, 5, 6, 7, 8, 9] .nil) (by decide +kernel) ?_
             | refine DrawOb.mk [] (.qs [0, 1, 2, 3, 4, 5, 6, 7, 8, 9, 10, 11, 12, 13, 14, 15, 16, 17, 18, 19, 20, 21, 22, 23] .nil) (by decide +kernel) ?_
             | refine DrawOb.mk [] (.qs [0, 1, 2, 3, 4, 5, 6, 7, 8, 9, 10, 11, 12, 13, 14, 15, 16, 17] (.l 18 [] (.qs [19] (.l 20 [] .nil .no)) .no)) (by decide +kernel) ?_
             | refine DrawOb.mk [] (.qs [0, 1, 2, 3, 4, 5, 6, 7, 8, 9, 10, 11, 12, 13, 14, 15, 16, 17] (.l 18 [] (.qs [19] (.l 20 [] .nil .no)) .no)) (by decide +kernel) ?_
             | refine ⟨_, rfl, (by simp only [mts_len, vcs_len]; omega), ?_⟩
             | refine And.intro (by simp only [mts_len, vcs_len]; omega) ?_
             | refine ⟨_, _, rfl, mts_get (by omega), (by simp only [vcs_len]; omega), ?_⟩
             | refine ⟨_, _, mts_get (by omega), vcs_get (by omega), ?_⟩
             | refine ⟨_, mts_get (by omega), ?_⟩
             | refine ⟨_, vcs_get (by omega), ?_⟩
             | refine ArOb.fits (by simp only [vcs_len, mts_len]; omega) ?_
             | refine And.intro (And.intro (by simp only [List.length_append, List.length_cons, List.length_nil, mts_len, vcs_len, fr_len]; omega) (by simp only [List.length_append, List.length_cons, List.length_nil, mts_len, vcs_len, fr_len]; omega)) ?_
             | fail)
    all_goals try (conv => whnf)
    refine CondOb.mk (fun hlt3 => ?_) (fun hlt3 => ?_)
    · have hkl : k < (p.c.length + 2 * p.r.length + 1) := by omega
      have b1 := ck_bd hm24 hfb hil (n := p.c.length) (k := k) hkl
      have b2 := hfb i hil k hkl
      repeat' (conv => whnf
               first
               | refine ArOb.fits (by omega) ?_
               | refine LitOb.vec ?_
               | refine MakeOb.vec ?_
               | refine AllocOb.box ?_
               | refine CutOb.split ?_
               | refine Gh.mk [] ?_
               | refine ⟨_, _, rfl, rfl, Nat.le_refl _, ⟨by (simp only; omega), by omega⟩, ?_⟩
               | refine DrawOb.mk [] (.qs [0, 1, 2, 3, 4, 5, 6, 7] .nil) (by decide +kernel) ?_
               | refine DrawOb.mk [] (.qs [0, 1, 2, 3, 4, 5, 6, 7, 8, 9, 10, 11, 12, 13, 14, 15] (.l 16 [] .nil .no)) (by decide +kernel) ?_
               | refine DrawOb.mk [] (.qs [0, 1, 2, 3, 4, 5, 6, 7, 8, 9] .nil) (by decide +kernel) ?_
               | refine DrawOb.mk [] (.qs [0, 1, 2, 3, 4, 5, 6, 7, 8, 9, 10, 11, 12, 13, 14, 15, 16, 17, 18, 19, 20, 21, 22, 23] .nil) (by decide +kernel) ?_
               | refine DrawOb.mk [] (.qs [0, 1, 2, 3, 4, 5, 6, 7, 8, 9, 10, 11, 12, 13, 14, 15, 16, 17] (.l 18 [] (.qs [19] (.l 20 [] .nil .no)) .no)) (by decide +kernel) ?_
               | refine DrawOb.mk [] (.qs [0, 1, 2, 3, 4, 5, 6, 7, 8, 9, 10, 11, 12, 13, 14, 15, 16, 17] (.l 18 [] (.qs [19] (.l 20 [] .nil .no)) .no)) (by decide +kernel) ?_
               | refine ⟨_, rfl, (by simp only [mts_len, vcs_len]; omega), ?_⟩
               | refine And.intro (by simp only [mts_len, vcs_len]; omega) ?_
               | refine ⟨_, _, rfl, mts_get (by omega), (by simp only [vcs_len]; omega), ?_⟩
               | refine ⟨_, _, mts_get (by omega), vcs_get (by omega), ?_⟩
               | refine ⟨_, mts_get (by omega), ?_⟩
               | refine ⟨_, vcs_get (by omega), ?_⟩
               | refine ArOb.fits (by simp only [vcs_len, mts_len]; omega) ?_
               | refine And.intro (And.intro (by simp only [List.length_append, List.length_cons, List.length_nil, mts_len, vcs_len, fr_len]; omega) (by simp only [List.length_append, List.length_cons, List.length_nil, mts_len, vcs_len, fr_len]; omega)) ?_
               | fail)
      all_goals try (conv => whnf)
      have hkk : ck p.c.length p.r.length f i (k + 1) k = ck p.c.length p.r.length f i k k - f i k := by rw [← ck_step]; simp [up]
      rw [vcs_set, ck_step, ← hkk]
      rw [← hkk] at *
      repeat' (conv => whnf
               first
               | refine CondOb.mk (fun _ => ?_) (fun _ => ?_)
               | refine ArOb.fits (by omega) ?_
               | refine LitOb.vec ?_
               | refine MakeOb.vec ?_
               | refine AllocOb.box ?_
               | refine CutOb.split ?_
               | refine Gh.mk [] ?_
               | refine ⟨_, _, rfl, rfl, Nat.le_refl _, ⟨by (simp only; omega), by omega⟩, ?_⟩
               | refine DrawOb.mk [] (.qs [0, 1, 2, 3, 4, 5, 6, 7] .nil) (by decide +kernel) ?_
               | refine DrawOb.mk [] (.qs [0, 1, 2, 3, 4, 5, 6, 7, 8, 9, 10, 11, 12, 13, 14, 15] (.l 16 [] .nil .no)) (by decide +kernel) ?_
               | refine DrawOb.mk [] (.qs [0, 1, 2, 3, 4, 5, 6, 7, 8, 9] .nil) (by decide +kernel) ?_
               | refine DrawOb.mk [] (.qs [0, 1, 2, 3, 4, 5, 6, 7, 8, 9, 10, 11, 12, 13, 14, 15, 16, 17, 18, 19, 20, 21, 22, 23] .nil) (by decide +kernel) ?_
               | refine DrawOb.mk [] (.qs [0, 1, 2, 3, 4, 5, 6, 7, 8, 9, 10, 11, 12, 13, 14, 15, 16, 17] (.l 18 [] (.qs [19] (.l 20 [] .nil .no)) .no)) (by decide +kernel) ?_
               | refine DrawOb.mk [] (.qs [0, 1, 2, 3, 4, 5, 6, 7, 8, 9, 10, 11, 12, 13, 14, 15, 16, 17] (.l 18 [] (.qs [19] (.l 20 [] .nil .no)) .no)) (by decide +kernel) ?_
               | refine ⟨_, rfl, (by simp only [mts_len, vcs_len]; omega), ?_⟩
               | refine And.intro (by simp only [mts_len, vcs_len]; omega) ?_
               | refine ⟨_, _, rfl, mts_get (by omega), (by simp only [vcs_len]; omega), ?_⟩
               | refine ⟨_, _, mts_get (by omega), vcs_get (by omega), ?_⟩
               | refine ⟨_, mts_get (by omega), ?_⟩
               | refine ⟨_, vcs_get (by omega), ?_⟩
               | refine ArOb.fits (by simp only [vcs_len, mts_len]; omega) ?_
               | refine And.intro (And.intro (by simp only [List.length_append, List.length_cons, List.length_nil, mts_len, vcs_len, fr_len]; omega) (by simp only [List.length_append, List.length_cons, List.length_nil, mts_len, vcs_len, fr_len]; omega)) ?_
               | fail)
      all_goals try (conv => whnf)
      · exact ⟨(k + 1, True), [0, 1, 2, 3, 4, 5, 6], ⟨by simp only; omega, fun h => (h trivial).elim⟩, by simp only; omega, by (refine Le.mk (by kernel_rfl) ?_ ?_ <;> repeat' (first | exact True.intro | refine And.intro ?_ ?_ | exact Imp.refl _ | exact Imp.any _ | exact Imp.num (by first | omega | simp only [ints_len]) | exact rfl | exact Imp.bl (by simp)))⟩
      · exact ⟨(k + 1, True), [0, 1, 2, 3, 4, 5, 6], ⟨by simp only; omega, fun h => (h trivial).elim⟩, by simp only; omega, by (refine Le.mk (by kernel_rfl) ?_ ?_ <;> repeat' (first | exact True.intro | refine And.intro ?_ ?_ | exact Imp.refl _ | exact Imp.any _ | exact Imp.num (by first | omega | simp only [ints_len]) | exact rfl | exact Imp.bl (by simp)))⟩
      · exact ⟨(k + 1, ck p.c.length p.r.length f i (k + 1) k ≤ -2147483648), [0, 1, 2, 3, 4, 5, 6], ⟨by simp only; omega, fun h => ck_cond (hq (by assumption)) (by assumption) h⟩, by simp only; omega, by (refine Le.mk (by kernel_rfl) ?_ ?_ <;> repeat' (first | exact True.intro | refine And.intro ?_ ?_ | exact Imp.refl _ | exact Imp.any _ | exact Imp.num (by first | omega | simp only [ints_len]) | exact rfl | exact Imp.bl (by simp)))⟩
    have hkW : k = (p.c.length + 2 * p.r.length + 1) := by omega
    subst hkW
    repeat' (conv => whnf
             first
             | refine ArOb.fits (by omega) ?_
             | refine LitOb.vec ?_
             | refine MakeOb.vec ?_
             | refine AllocOb.box ?_
             | refine CutOb.split ?_
             | refine Gh.mk [] ?_
             | refine ⟨_, _, rfl, rfl, Nat.le_refl _, ⟨by (simp only; omega), by omega⟩, ?_⟩
             | refine DrawOb.mk [] (.qs [0, 1, 2, 3, 4, 5, 6, 7] .nil) (by decide +kernel) ?_
             | refine DrawOb.mk [] (.qs [0, 1, 2, 3, 4, 5, 6, 7, 8, 9, 10, 11, 12, 13, 14, 15] (.l 16 [] .nil .no)) (by decide +kernel) ?_
             | refine DrawOb.mk [] (.qs [0, 1, 2, 3, 4, 5, 6, 7, 8, 9] .nil) (by decide +kernel) ?_
             | refine DrawOb.mk [] (.qs [0, 1, 2, 3, 4, 5, 6, 7, 8, 9, 10, 11, 12, 13, 14, 15, 16, 17, 18, 19, 20, 21, 22, 23] .nil) (by decide +kernel) ?_
             | refine DrawOb.mk [] (.qs [0, 1, 2, 3, 4, 5, 6, 7, 8, 9, 10, 11, 12, 13, 14, 15, 16, 17] (.l 18 [] (.qs [19] (.l 20 [] .nil .no)) .no)) (by decide +kernel) ?_
             | refine DrawOb.mk [] (.qs [0, 1, 2, 3, 4, 5, 6, 7, 8, 9, 10, 11, 12, 13, 14, 15, 16, 17] (.l 18 [] (.qs [19] (.l 20 [] .nil .no)) .no)) (by decide +kernel) ?_
             | refine ⟨_, rfl, (by simp only [mts_len, vcs_len]; omega), ?_⟩
             | refine And.intro (by simp only [mts_len, vcs_len]; omega) ?_
             | refine ⟨_, _, rfl, mts_get (by omega), (by simp only [vcs_len]; omega), ?_⟩
             | refine ⟨_, _, mts_get (by omega), vcs_get (by omega), ?_⟩
             | refine ⟨_, mts_get (by omega), ?_⟩
             | refine ⟨_, vcs_get (by omega), ?_⟩
             | refine ArOb.fits (by simp only [vcs_len, mts_len]; omega) ?_
             | refine And.intro (And.intro (by simp only [List.length_append, List.length_cons, List.length_nil, mts_len, vcs_len, fr_len]; omega) (by simp only [List.length_append, List.length_cons, List.length_nil, mts_len, vcs_len, fr_len]; omega)) ?_
             | fail)
    all_goals try (conv => whnf)
    exact ⟨(i + 1, q), [0, 1, 2, 3, 4, 5, 6], ⟨by simp only; omega, fun h j hj => by rw [← ck_row hj]; exact hq h j hj⟩, by simp only; omega, by dsimp only; rw [← vcs_congr (fun j hj => ck_row hj)]; (refine Le.mk (by kernel_rfl) ?_ ?_ <;> repeat' (first | exact True.intro | refine And.intro ?_ ?_ | exact Imp.refl _ | exact Imp.any _ | exact Imp.num (by first | omega | simp only [ints_len]) | exact rfl | exact Imp.bl (by simp)))⟩
  have him : i = p.r.length := by omega
  subst him
  clear hlt2 hi
  repeat' (conv => whnf
           first
           | refine ArOb.fits (by omega) ?_
           | refine LitOb.vec ?_
           | refine MakeOb.vec ?_
           | refine AllocOb.box ?_
           | refine CutOb.split ?_
           | refine Gh.mk [] ?_
           | refine ⟨_, _, rfl, rfl, Nat.le_refl _, ⟨by (simp only; omega), by omega⟩, ?_⟩
           | refine DrawOb.mk [] (.qs [0, 1, 2, 3, 4, 5, 6, 7] .nil) (by decide +kernel) ?_
           | refine DrawOb.mk [] (.qs [0, 1, 2, 3, 4, 5, 6, 7, 8, 9, 10, 11, 12, 13, 14, 15] (.l 16 [] .nil .no)) (by decide +kernel) ?_
           | refine DrawOb.mk [] (.qs [0, 1, 2, 3, 4, 5, 6, 7, 8, 9] .nil) (by decide +kernel) ?_
           | refine DrawOb.mk [] (.qs [0, 1, 2, 3, 4, 5, 6, 7, 8, 9, 10, 11, 12, 13, 14, 15, 16, 17, 18, 19, 20, 21, 22, 23] .nil) (by decide +kernel) ?_
           | refine DrawOb.mk [] (.qs [0, 1, 2, 3, 4, 5, 6, 7, 8, 9, 10, 11, 12, 13, 14, 15, 16, 17] (.l 18 [] (.qs [19] (.l 20 [] .nil .no)) .no)) (by decide +kernel) ?_
           | refine DrawOb.mk [] (.qs [0, 1, 2, 3, 4, 5, 6, 7, 8, 9, 10, 11, 12, 13, 14, 15, 16, 17] (.l 18 [] (.qs [19] (.l 20 [] .nil .no)) .no)) (by decide +kernel) ?_
           | refine ⟨_, rfl, (by simp only [mts_len, vcs_len]; omega), ?_⟩
           | refine And.intro (by simp only [mts_len, vcs_len]; omega) ?_
           | refine ⟨_, _, rfl, mts_get (by omega), (by simp only [vcs_len]; omega), ?_⟩
           | refine ⟨_, _, mts_get (by omega), vcs_get (by omega), ?_⟩
           | refine ⟨_, mts_get (by omega), ?_⟩
           | refine ⟨_, vcs_get (by omega), ?_⟩
           | refine ArOb.fits (by simp only [vcs_len, mts_len]; omega) ?_
           | refine And.intro (And.intro (by simp only [List.length_append, List.length_cons, List.length_nil, mts_len, vcs_len, fr_len]; omega) (by simp only [List.length_append, List.length_cons, List.length_nil, mts_len, vcs_len, fr_len]; omega)) ?_
           | fail)
  all_goals try (conv => whnf)
  rw [mts_app]
  have hIni : Ini p bY (up2 f p.r.length (ck p.c.length p.r.length f p.r.length 0), bs, 1) := by
    refine ⟨fun i hi => ?_, hbs, rfl, fun k hk => ?_⟩
    · have e : up2 f p.r.length (ck p.c.length p.r.length f p.r.length 0) i = f i := by funext k; simp [up2, Nat.ne_of_lt hi]
      show RowI _ _ _ _ _ (up2 f p.r.length (ck p.c.length p.r.length f p.r.length 0) i)
      rw [e]; exact hrow i hi
    · rw [cs_congr (g := f) (fun j hj => by simp [up2, Nat.ne_of_lt hj])]
      simp [up2, ck]
  have hTok : ¬q → Tok p.r.length (p.c.length + 2 * p.r.length + 1) (up2 f p.r.length (ck p.c.length p.r.length f p.r.length 0), bs, 1) := fun h =>
    ⟨fun i hi k hk => by
      by_cases e : i = p.r.length
      · simp only [up2, if_pos e]; exact hq h k hk
      · simp only [up2, if_neg e]; exact hfb i (by omega) k hk, by simp only; omega, fun i hi => by simp only [hbs i hi]; omega⟩
  have hby : ∀ i < p.r.length, -2147483648 < bY i ∧ bY i < 2147483648 := fun i hi => (hrow i hi).bb
  generalize up2 f p.r.length (ck p.c.length p.r.length f p.r.length 0) = F0 at *
  clear hfb hrow hbs hq
  have cR := run_ok p.r.length (p.c.length + 2 * p.r.length) (p.c.length + p.r.length) (by omega) (by omega) (by omega) (F0, bs, 1) q hTok
  refine CallOb.mk [3, 8, 2] cR rfl ⟨Imp.refl _, Imp.num (by omega), trivial⟩ rfl rfl ?_
  rintro _ _ ⟨⟨⟨f1, bs1, d1⟩, q1, z1⟩, hR1, rfl, rfl⟩
  dsimp only at hR1 ⊢
  repeat' (conv => whnf
           first
           | refine ArOb.fits (by omega) ?_
           | refine LitOb.vec ?_
           | refine MakeOb.vec ?_
           | refine AllocOb.box ?_
           | refine CutOb.split ?_
           | refine Gh.mk [] ?_
           | refine ⟨_, _, rfl, rfl, Nat.le_refl _, ⟨by (simp only; omega), by omega⟩, ?_⟩
           | refine DrawOb.mk [] (.qs [0, 1, 2, 3, 4, 5, 6, 7] .nil) (by decide +kernel) ?_
           | refine DrawOb.mk [] (.qs [0, 1, 2, 3, 4, 5, 6, 7, 8, 9, 10, 11, 12, 13, 14, 15] (.l 16 [] .nil .no)) (by decide +kernel) ?_
           | refine DrawOb.mk [] (.qs [0, 1, 2, 3, 4, 5, 6, 7, 8, 9] .nil) (by decide +kernel) ?_
           | refine DrawOb.mk [] (.qs [0, 1, 2, 3, 4, 5, 6, 7, 8, 9, 10, 11, 12, 13, 14, 15, 16, 17, 18, 19, 20, 21, 22, 23] .nil) (by decide +kernel) ?_
           | refine DrawOb.mk [] (.qs [0, 1, 2, 3, 4, 5, 6, 7, 8, 9, 10, 11, 12, 13, 14, 15, 16, 17] (.l 18 [] (.qs [19] (.l 20 [] .nil .no)) .no)) (by decide +kernel) ?_
           | refine DrawOb.mk [] (.qs [0, 1, 2, 3, 4, 5, 6, 7, 8, 9, 10, 11, 12, 13, 14, 15, 16, 17] (.l 18 [] (.qs [19] (.l 20 [] .nil .no)) .no)) (by decide +kernel) ?_
           | refine ⟨_, rfl, (by simp only [mts_len, vcs_len]; omega), ?_⟩
           | refine And.intro (by simp only [mts_len, vcs_len]; omega) ?_
           | refine ⟨_, _, rfl, mts_get (by omega), (by simp only [vcs_len]; omega), ?_⟩
           | refine ⟨_, _, mts_get (by omega), vcs_get (by omega), ?_⟩
           | refine ⟨_, mts_get (by omega), ?_⟩
           | refine ⟨_, vcs_get (by omega), ?_⟩
           | refine ArOb.fits (by simp only [vcs_len, mts_len]; omega) ?_
           | refine And.intro (And.intro (by simp only [List.length_append, List.length_cons, List.length_nil, mts_len, vcs_len, fr_len]; omega) (by simp only [List.length_append, List.length_cons, List.length_nil, mts_len, vcs_len, fr_len]; omega)) ?_
           | fail)
  all_goals try (conv => whnf)
  refine CondOb.mk (fun hq1 => ?_) (fun hq1 => ?_)
  · repeat' (conv => whnf
             first
             | refine CondOb.mk (fun _ => ?_) (fun _ => ?_)
             | refine ArOb.fits (by omega) ?_
             | refine LitOb.vec ?_
             | refine MakeOb.vec ?_
             | refine AllocOb.box ?_
             | refine CutOb.split ?_
             | refine Gh.mk [] ?_
             | refine ⟨_, _, rfl, rfl, Nat.le_refl _, ⟨by (simp only; omega), by omega⟩, ?_⟩
             | refine DrawOb.mk [] (.qs [0, 1, 2, 3, 4, 5, 6, 7] .nil) (by decide +kernel) ?_
             | refine DrawOb.mk [] (.qs [0, 1, 2, 3, 4, 5, 6, 7, 8, 9, 10, 11, 12, 13, 14, 15] (.l 16 [] .nil .no)) (by decide +kernel) ?_
             | refine DrawOb.mk [] (.qs [0, 1, 2, 3, 4, 5, 6, 7, 8, 9] .nil) (by decide +kernel) ?_
             | refine DrawOb.mk [] (.qs [0, 1, 2, 3, 4, 5, 6, 7, 8, 9, 10, 11, 12, 13, 14, 15, 16, 17, 18, 19, 20, 21, 22, 23] .nil) (by decide +kernel) ?_
             | refine DrawOb.mk [] (.qs [0, 1, 2, 3, 4, 5, 6, 7, 8, 9, 10, 11, 12, 13, 14, 15, 16, 17] (.l 18 [] (.qs [19] (.l 20 [] .nil .no)) .no)) (by decide +kernel) ?_
             | refine DrawOb.mk [] (.qs [0, 1, 2, 3, 4, 5, 6, 7, 8, 9, 10, 11, 12, 13, 14, 15, 16, 17] (.l 18 [] (.qs [19] (.l 20 [] .nil .no)) .no)) (by decide +kernel) ?_
             | fail)
    all_goals try (conv => whnf)
    exact ⟨((0, [], (0, 0), [], []), 3), .inr ⟨by simp, rfl⟩, rfl, Imp.tup ⟨Imp.agg ⟨Imp.refl _, Imp.nil _, Imp.refl _, Imp.refl _, Imp.nil _, Imp.nil _, trivial⟩, Imp.refl _, trivial⟩⟩
  obtain ⟨hq0, hRun1, hTk1, hEnd1⟩ := hR1 hq1
  clear hR1
  have hTk1 : Tok p.r.length (p.c.length + 2 * p.r.length + 1) (f1, bs1, d1) := hTk1
  repeat' (conv => whnf
           first
           | refine ArOb.fits (by omega) ?_
           | refine LitOb.vec ?_
           | refine MakeOb.vec ?_
           | refine AllocOb.box ?_
           | refine CutOb.split ?_
           | refine Gh.mk [] ?_
           | refine ⟨_, _, rfl, rfl, Nat.le_refl _, ⟨by (simp only; omega), by omega⟩, ?_⟩
           | refine DrawOb.mk [] (.qs [0, 1, 2, 3, 4, 5, 6, 7] .nil) (by decide +kernel) ?_
           | refine DrawOb.mk [] (.qs [0, 1, 2, 3, 4, 5, 6, 7, 8, 9, 10, 11, 12, 13, 14, 15] (.l 16 [] .nil .no)) (by decide +kernel) ?_
           | refine DrawOb.mk [] (.qs [0, 1, 2, 3, 4, 5, 6, 7, 8, 9] .nil) (by decide +kernel) ?_
           | refine DrawOb.mk [] (.qs [0, 1, 2, 3, 4, 5, 6, 7, 8, 9, 10, 11, 12, 13, 14, 15, 16, 17, 18, 19, 20, 21, 22, 23] .nil) (by decide +kernel) ?_
           | refine DrawOb.mk [] (.qs [0, 1, 2, 3, 4, 5, 6, 7, 8, 9, 10, 11, 12, 13, 14, 15, 16, 17] (.l 18 [] (.qs [19] (.l 20 [] .nil .no)) .no)) (by decide +kernel) ?_
           | refine DrawOb.mk [] (.qs [0, 1, 2, 3, 4, 5, 6, 7, 8, 9, 10, 11, 12, 13, 14, 15, 16, 17] (.l 18 [] (.qs [19] (.l 20 [] .nil .no)) .no)) (by decide +kernel) ?_
           | refine ⟨p.c.length + 2 * p.r.length, _, (by omega), mts_get (by omega), (by simp only [vcs_len]; omega), ?_⟩
           | refine ⟨_, rfl, (by simp only [mts_len, vcs_len]; omega), ?_⟩
           | refine And.intro (by simp only [mts_len, vcs_len]; omega) ?_
           | refine ⟨_, _, rfl, mts_get (by omega), (by simp only [vcs_len]; omega), ?_⟩
           | refine ⟨_, _, mts_get (by omega), vcs_get (by omega), ?_⟩
           | refine ⟨_, mts_get (by omega), ?_⟩
           | refine ⟨_, vcs_get (by omega), ?_⟩
           | refine ArOb.fits (by simp only [vcs_len, mts_len]; omega) ?_
           | refine And.intro (And.intro (by simp only [List.length_append, List.length_cons, List.length_nil, mts_len, vcs_len, fr_len]; omega) (by simp only [List.length_append, List.length_cons, List.length_nil, mts_len, vcs_len, fr_len]; omega)) ?_
           | fail)
  all_goals try (conv => whnf)
  refine CondOb.mk (fun hobj => ?_) (fun hobj => ?_)
  · have cD := duals_ok p.r.length p.c.length (p.c.length + 2 * p.r.length + 1) (by omega) (by omega) (by omega) (f1, bs1, d1) hTk1 bY hby 1 1 (by omega) (by omega) q1
    repeat' (conv => whnf
             first
             | refine ArOb.fits (by omega) ?_
             | refine LitOb.vec ?_
             | refine MakeOb.vec ?_
             | refine AllocOb.box ?_
             | refine CutOb.split ?_
             | refine Gh.mk [] ?_
             | refine ⟨_, _, rfl, rfl, Nat.le_refl _, ⟨by (simp only; omega), by omega⟩, ?_⟩
             | refine DrawOb.mk [] (.qs [0, 1, 2, 3, 4, 5, 6, 7] .nil) (by decide +kernel) ?_
             | refine DrawOb.mk [] (.qs [0, 1, 2, 3, 4, 5, 6, 7, 8, 9, 10, 11, 12, 13, 14, 15] (.l 16 [] .nil .no)) (by decide +kernel) ?_
             | refine DrawOb.mk [] (.qs [0, 1, 2, 3, 4, 5, 6, 7, 8, 9] .nil) (by decide +kernel) ?_
             | refine DrawOb.mk [] (.qs [0, 1, 2, 3, 4, 5, 6, 7, 8, 9, 10, 11, 12, 13, 14, 15, 16, 17, 18, 19, 20, 21, 22, 23] .nil) (by decide +kernel) ?_
             | refine DrawOb.mk [] (.qs [0, 1, 2, 3, 4, 5, 6, 7, 8, 9, 10, 11, 12, 13, 14, 15, 16, 17] (.l 18 [] (.qs [19] (.l 20 [] .nil .no)) .no)) (by decide +kernel) ?_
             | refine DrawOb.mk [] (.qs [0, 1, 2, 3, 4, 5, 6, 7, 8, 9, 10, 11, 12, 13, 14, 15, 16, 17] (.l 18 [] (.qs [19] (.l 20 [] .nil .no)) .no)) (by decide +kernel) ?_
             | refine ⟨_, rfl, (by simp only [mts_len, vcs_len]; omega), ?_⟩
             | refine And.intro (by simp only [mts_len, vcs_len]; omega) ?_
             | refine ⟨_, _, rfl, mts_get (by omega), (by simp only [vcs_len]; omega), ?_⟩
             | refine ⟨_, _, mts_get (by omega), vcs_get (by omega), ?_⟩
             | refine ⟨_, mts_get (by omega), ?_⟩
             | refine ⟨_, vcs_get (by omega), ?_⟩
             | refine ArOb.fits (by simp only [vcs_len, mts_len]; omega) ?_
             | refine And.intro (And.intro (by simp only [List.length_append, List.length_cons, List.length_nil, mts_len, vcs_len, fr_len]; omega) (by simp only [List.length_append, List.length_cons, List.length_nil, mts_len, vcs_len, fr_len]; omega)) ?_
             | fail)
    all_goals try (conv => whnf)
    refine CallOb.mk [3, 8, 2] cD rfl (ImpL.refl _) rfl rfl ?_
    rintro _ _ ⟨⟨q2, Y⟩, ⟨hYl, hY⟩, rfl, rfl⟩
    dsimp only at hYl hY ⊢
    have cP := products_ok p hvp Y (by omega)
    repeat' (conv => whnf
             first
             | refine CondOb.mk (fun _ => ?_) (fun _ => ?_)
             | refine ArOb.fits (by omega) ?_
             | refine LitOb.vec ?_
             | refine MakeOb.vec ?_
             | refine AllocOb.box ?_
             | refine CutOb.split ?_
             | refine Gh.mk [] ?_
             | refine ⟨_, _, rfl, rfl, Nat.le_refl _, ⟨by (simp only; omega), by omega⟩, ?_⟩
             | refine DrawOb.mk [] (.qs [0, 1, 2, 3, 4, 5, 6, 7] .nil) (by decide +kernel) ?_
             | refine DrawOb.mk [] (.qs [0, 1, 2, 3, 4, 5, 6, 7, 8, 9, 10, 11, 12, 13, 14, 15] (.l 16 [] .nil .no)) (by decide +kernel) ?_
             | refine DrawOb.mk [] (.qs [0, 1, 2, 3, 4, 5, 6, 7, 8, 9] .nil) (by decide +kernel) ?_
             | refine DrawOb.mk [] (.qs [0, 1, 2, 3, 4, 5, 6, 7, 8, 9, 10, 11, 12, 13, 14, 15, 16, 17, 18, 19, 20, 21, 22, 23] .nil) (by decide +kernel) ?_
             | refine DrawOb.mk [] (.qs [0, 1, 2, 3, 4, 5, 6, 7, 8, 9, 10, 11, 12, 13, 14, 15, 16, 17] (.l 18 [] (.qs [19] (.l 20 [] .nil .no)) .no)) (by decide +kernel) ?_
             | refine DrawOb.mk [] (.qs [0, 1, 2, 3, 4, 5, 6, 7, 8, 9, 10, 11, 12, 13, 14, 15, 16, 17] (.l 18 [] (.qs [19] (.l 20 [] .nil .no)) .no)) (by decide +kernel) ?_
             | refine ⟨_, rfl, (by simp only [mts_len, vcs_len]; omega), ?_⟩
             | refine And.intro (by simp only [mts_len, vcs_len]; omega) ?_
             | refine ⟨_, _, rfl, mts_get (by omega), (by simp only [vcs_len]; omega), ?_⟩
             | refine ⟨_, _, mts_get (by omega), vcs_get (by omega), ?_⟩
             | refine ⟨_, mts_get (by omega), ?_⟩
             | refine ⟨_, vcs_get (by omega), ?_⟩
             | refine ArOb.fits (by simp only [vcs_len, mts_len]; omega) ?_
             | refine And.intro (And.intro (by simp only [List.length_append, List.length_cons, List.length_nil, mts_len, vcs_len, fr_len]; omega) (by simp only [List.length_append, List.length_cons, List.length_nil, mts_len, vcs_len, fr_len]; omega)) ?_
             | (refine CallOb.mk [] cP rfl (ImpL.refl _) rfl rfl ?_; rintro _ _ ⟨rfl, rfl⟩)
             | (refine CallOb.mk [] zero_ok rfl (ImpL.refl _) rfl rfl ?_; rintro _ _ ⟨rfl, rfl⟩)
             | fail)
    all_goals try (conv => whnf)
    · exact ⟨((0, [], (0, 0), [], []), 3), .inr ⟨by simp, rfl⟩, rfl, Imp.tup ⟨Imp.agg ⟨Imp.refl _, Imp.nil _, Imp.refl _, Imp.refl _, Imp.nil _, Imp.nil _, trivial⟩, Imp.refl _, trivial⟩⟩
    · exact ⟨((0, [], (0, 0), [], []), 3), .inr ⟨by simp, rfl⟩, rfl, Imp.tup ⟨Imp.agg ⟨Imp.refl _, Imp.nil _, Imp.refl _, Imp.refl _, Imp.nil _, Imp.nil _, trivial⟩, Imp.refl _, trivial⟩⟩
    · exact ⟨((3, [], (0, 1), Y, []), 0), .inl ⟨rfl, .inf ⟨hvp, hIni, hTok hq0, hRun1, hTk1, hEnd1⟩ hobj hYl (hY (by assumption)).2 (Classical.not_not.1 (by assumption))⟩, rfl, Imp.tup ⟨Imp.agg ⟨Imp.refl _, Imp.nil _, Imp.refl _, Imp.refl _, Imp.refl _, Imp.nil _, trivial⟩, Imp.refl _, trivial⟩⟩
  have hPh1 : Ph1 p bY (F0, bs, 1) (f1, bs1, d1) z1 := ⟨hvp, hIni, hTok hq0, hRun1, hTk1, hEnd1⟩
  have hobj : f1 p.r.length (p.c.length + 2 * p.r.length) = 0 := Classical.not_not.1 hobj
  clear cR
  repeat' (conv => whnf
           first
           | refine ArOb.fits (by omega) ?_
           | refine LitOb.vec ?_
           | refine MakeOb.vec ?_
           | refine AllocOb.box ?_
           | refine CutOb.split ?_
           | refine Gh.mk [] ?_
           | refine ⟨_, _, rfl, rfl, Nat.le_refl _, ⟨by (simp only; omega), by omega⟩, ?_⟩
           | refine DrawOb.mk [] (.qs [0, 1, 2, 3, 4, 5, 6, 7] .nil) (by decide +kernel) ?_
           | refine DrawOb.mk [] (.qs [0, 1, 2, 3, 4, 5, 6, 7, 8, 9, 10, 11, 12, 13, 14, 15] (.l 16 [] .nil .no)) (by decide +kernel) ?_
           | refine DrawOb.mk [] (.qs [0, 1, 2, 3, 4, 5, 6, 7, 8, 9] .nil) (by decide +kernel) ?_
           | refine DrawOb.mk [] (.qs [0, 1, 2, 3, 4, 5, 6, 7, 8, 9, 10, 11, 12, 13, 14, 15, 16, 17, 18, 19, 20, 21, 22, 23] .nil) (by decide +kernel) ?_
           | refine DrawOb.mk [] (.qs [0, 1, 2, 3, 4, 5, 6, 7, 8, 9, 10, 11, 12, 13, 14, 15, 16, 17] (.l 18 [] (.qs [19] (.l 20 [] .nil .no)) .no)) (by decide +kernel) ?_
           | refine DrawOb.mk [] (.qs [0, 1, 2, 3, 4, 5, 6, 7, 8, 9, 10, 11, 12, 13, 14, 15, 16, 17] (.l 18 [] (.qs [19] (.l 20 [] .nil .no)) .no)) (by decide +kernel) ?_
           | refine ⟨_, rfl, (by simp only [mts_len, vcs_len]; omega), ?_⟩
           | refine And.intro (by simp only [mts_len, vcs_len]; omega) ?_
           | refine ⟨_, _, rfl, mts_get (by omega), (by simp only [vcs_len]; omega), ?_⟩
           | refine ⟨_, _, mts_get (by omega), vcs_get (by omega), ?_⟩
           | refine ⟨_, mts_get (by omega), ?_⟩
           | refine ⟨_, vcs_get (by omega), ?_⟩
           | refine ArOb.fits (by simp only [vcs_len, mts_len]; omega) ?_
           | refine And.intro (And.intro (by simp only [List.length_append, List.length_cons, List.length_nil, mts_len, vcs_len, fr_len]; omega) (by simp only [List.length_append, List.length_cons, List.length_nil, mts_len, vcs_len, fr_len]; omega)) ?_
           | fail)
  all_goals try (conv => whnf)
  refine LoopOb.mk (Y := Nat × TS × Prop) (st := fun y => ⟨[(22, i64 y.1), (8, .psl 1 (vcs p.r.length bY)), (7, .ptr 3 0), (6, i64 (p.c.length + 2 * p.r.length + 1 : Nat)), (5, i64 p.r.length), (4, i64 p.c.length), (2, .ptr 1 0), (1, .ptr 0 0)], [.box [fsl p.c, .psl 4 (rws p.r)], .box [i64 0, .nil, i64 0, i64 0, .nil, .nil], .vec 1 (vcs p.r.length y.2.1.2.1), .box [.vec 4, .vec 2, i64 y.2.1.2.2, .bp (y.2.2)], .mat 1 (mts (p.r.length + 1) (p.c.length + 2 * p.r.length + 1) y.2.1.1)]⟩)
    (inv := fun y => y.1 ≤ p.r.length ∧ (¬y.2.2 → ArA p (f1, bs1, d1) y.1 0 y.2.1)) (fun y => p.r.length - y.1) (0, (f1, bs1, d1), q1) [0, 1, 2, 3, 8] ⟨by simp, fun _ => ⟨.refl, hTk1, fun a ha => absurd ha (by simp), fun _ j hj => absurd hj (by simp)⟩⟩ (by (refine Le.mk (by kernel_rfl) ?_ ?_ <;> repeat' (first | exact True.intro | refine And.intro ?_ ?_ | exact Imp.refl _ | exact Imp.any _ | exact Imp.num (by first | omega | simp only [ints_len]) | exact rfl | exact Imp.bl (by simp)))) ?_
  rintro ⟨i, ⟨f2, bs2, d2⟩, q2⟩ ⟨hi, hA⟩
  dsimp only at hi hA ⊢
  repeat' (conv => whnf
           first
           | refine ArOb.fits (by omega) ?_
           | refine LitOb.vec ?_
           | refine MakeOb.vec ?_
           | refine AllocOb.box ?_
           | refine CutOb.split ?_
           | refine Gh.mk [] ?_
           | refine ⟨_, _, rfl, rfl, Nat.le_refl _, ⟨by (simp only; omega), by omega⟩, ?_⟩
           | refine DrawOb.mk [] (.qs [0, 1, 2, 3, 4, 5, 6, 7] .nil) (by decide +kernel) ?_
           | refine DrawOb.mk [] (.qs [0, 1, 2, 3, 4, 5, 6, 7, 8, 9, 10, 11, 12, 13, 14, 15] (.l 16 [] .nil .no)) (by decide +kernel) ?_
           | refine DrawOb.mk [] (.qs [0, 1, 2, 3, 4, 5, 6, 7, 8, 9] .nil) (by decide +kernel) ?_
           | refine DrawOb.mk [] (.qs [0, 1, 2, 3, 4, 5, 6, 7, 8, 9, 10, 11, 12, 13, 14, 15, 16, 17, 18, 19, 20, 21, 22, 23] .nil) (by decide +kernel) ?_
           | refine DrawOb.mk [] (.qs [0, 1, 2, 3, 4, 5, 6, 7, 8, 9, 10, 11, 12, 13, 14, 15, 16, 17] (.l 18 [] (.qs [19] (.l 20 [] .nil .no)) .no)) (by decide +kernel) ?_
           | refine DrawOb.mk [] (.qs [0, 1, 2, 3, 4, 5, 6, 7, 8, 9, 10, 11, 12, 13, 14, 15, 16, 17] (.l 18 [] (.qs [19] (.l 20 [] .nil .no)) .no)) (by decide +kernel) ?_
           | refine ⟨_, rfl, (by simp only [mts_len, vcs_len]; omega), ?_⟩
           | refine And.intro (by simp only [mts_len, vcs_len]; omega) ?_
           | refine ⟨_, _, rfl, mts_get (by omega), (by simp only [vcs_len]; omega), ?_⟩
           | refine ⟨_, _, mts_get (by omega), vcs_get (by omega), ?_⟩
           | refine ⟨_, mts_get (by omega), ?_⟩
           | refine ⟨_, vcs_get (by omega), ?_⟩
           | refine ArOb.fits (by simp only [vcs_len, mts_len]; omega) ?_
           | refine And.intro (And.intro (by simp only [List.length_append, List.length_cons, List.length_nil, mts_len, vcs_len, fr_len]; omega) (by simp only [List.length_append, List.length_cons, List.length_nil, mts_len, vcs_len, fr_len]; omega)) ?_
           | fail)
  all_goals try (conv => whnf)
  refine CondOb.mk (fun hlt2 => ?_) (fun hlt2 => ?_)
  · have hil : i < p.r.length := by omega
    repeat' (conv => whnf
             first
             | refine ArOb.fits (by omega) ?_
             | refine LitOb.vec ?_
             | refine MakeOb.vec ?_
             | refine AllocOb.box ?_
             | refine CutOb.split ?_
             | refine Gh.mk [] ?_
             | refine ⟨_, _, rfl, rfl, Nat.le_refl _, ⟨by (simp only; omega), by omega⟩, ?_⟩
             | refine DrawOb.mk [] (.qs [0, 1, 2, 3, 4, 5, 6, 7] .nil) (by decide +kernel) ?_
             | refine DrawOb.mk [] (.qs [0, 1, 2, 3, 4, 5, 6, 7, 8, 9, 10, 11, 12, 13, 14, 15] (.l 16 [] .nil .no)) (by decide +kernel) ?_
             | refine DrawOb.mk [] (.qs [0, 1, 2, 3, 4, 5, 6, 7, 8, 9] .nil) (by decide +kernel) ?_
             | refine DrawOb.mk [] (.qs [0, 1, 2, 3, 4, 5, 6, 7, 8, 9, 10, 11, 12, 13, 14, 15, 16, 17, 18, 19, 20, 21, 22, 23] .nil) (by decide +kernel) ?_
             | refine DrawOb.mk [] (.qs [0, 1, 2, 3, 4, 5, 6, 7, 8, 9, 10, 11, 12, 13, 14, 15, 16, 17] (.l 18 [] (.qs [19] (.l 20 [] .nil .no)) .no)) (by decide +kernel) ?_
             | refine DrawOb.mk [] (.qs [0, 1, 2, 3, 4, 5, 6, 7, 8, 9, 10, 11, 12, 13, 14, 15, 16, 17] (.l 18 [] (.qs [19] (.l 20 [] .nil .no)) .no)) (by decide +kernel) ?_
             | refine ⟨_, rfl, (by simp only [mts_len, vcs_len]; omega), ?_⟩
             | refine And.intro (by simp only [mts_len, vcs_len]; omega) ?_
             | refine ⟨_, _, rfl, mts_get (by omega), (by simp only [vcs_len]; omega), ?_⟩
             | refine ⟨_, _, mts_get (by omega), vcs_get (by omega), ?_⟩
             | refine ⟨_, mts_get (by omega), ?_⟩
             | refine ⟨_, vcs_get (by omega), ?_⟩
             | refine ArOb.fits (by simp only [vcs_len, mts_len]; omega) ?_
             | refine And.intro (And.intro (by simp only [List.length_append, List.length_cons, List.length_nil, mts_len, vcs_len, fr_len]; omega) (by simp only [List.length_append, List.length_cons, List.length_nil, mts_len, vcs_len, fr_len]; omega)) ?_
             | fail)
    all_goals try (conv => whnf)
    refine LoopOb.mk (Y := Nat × TS × Prop) (st := fun y => ⟨[(23, i64 y.1), (22, i64 i), (8, .psl 1 (vcs p.r.length bY)), (7, .ptr 3 0), (6, i64 (p.c.length + 2 * p.r.length + 1 : Nat)), (5, i64 p.r.length), (4, i64 p.c.length), (2, .ptr 1 0), (1, .ptr 0 0)], [.box [fsl p.c, .psl 4 (rws p.r)], .box [i64 0, .nil, i64 0, i64 0, .nil, .nil], .vec 1 (vcs p.r.length y.2.1.2.1), .box [.vec 4, .vec 2, i64 y.2.1.2.2, .bp (y.2.2)], .mat 1 (mts (p.r.length + 1) (p.c.length + 2 * p.r.length + 1) y.2.1.1)]⟩)
      (inv := fun y => y.1 ≤ p.c.length + p.r.length ∧ (¬y.2.2 → ArA p (f1, bs1, d1) i y.1 y.2.1)) (fun y => p.c.length + p.r.length - y.1) (0, (f2, bs2, d2), q2) [0, 1, 2, 3, 4] ⟨by simp, hA⟩ (by (refine Le.mk (by kernel_rfl) ?_ ?_ <;> repeat' (first | exact True.intro | refine And.intro ?_ ?_ | exact Imp.refl _ | exact Imp.any _ | exact Imp.num (by first | omega | simp only [ints_len]) | exact rfl | exact Imp.bl (by simp)))) ?_
    clear hA f2 bs2 d2 q2
    rintro ⟨k, ⟨f2, bs2, d2⟩, q2⟩ ⟨hk, hA⟩
    dsimp only at hk hA ⊢
    repeat' (conv => whnf
             first
             | (refine CondOb.mk (fun _ => ?_) (fun _ => ?_) <;> first | (exfalso; omega) | skip)
             | refine ArOb.fits (by omega) ?_
             | refine LitOb.vec ?_
             | refine MakeOb.vec ?_
             | refine AllocOb.box ?_
             | refine CutOb.split ?_
             | refine Gh.mk [] ?_
             | refine ⟨_, _, rfl, rfl, Nat.le_refl _, ⟨by (simp only; omega), by omega⟩, ?_⟩
             | refine DrawOb.mk [] (.qs [0, 1, 2, 3, 4, 5, 6, 7] .nil) (by decide +kernel) ?_
             | refine DrawOb.mk [] (.qs [0, 1, 2, 3, 4, 5, 6, 7, 8, 9, 10, 11, 12, 13, 14, 15] (.l 16 [] .nil .no)) (by decide +kernel) ?_
             | refine DrawOb.mk [] (.qs [0, 1, 2, 3, 4, 5, 6, 7, 8, 9] .nil) (by decide +kernel) ?_
             | refine DrawOb.mk [] (.qs [0, 1, 2, 3, 4, 5, 6, 7, 8, 9, 10, 11, 12, 13, 14, 15, 16, 17, 18, 19, 20, 21, 22, 23] .nil) (by decide +kernel) ?_
             | refine DrawOb.mk [] (.qs [0, 1, 2, 3, 4, 5, 6, 7, 8, 9, 10, 11, 12, 13, 14, 15, 16, 17] (.l 18 [] (.qs [19] (.l 20 [] .nil .no)) .no)) (by decide +kernel) ?_
             | refine DrawOb.mk [] (.qs [0, 1, 2, 3, 4, 5, 6, 7, 8, 9, 10, 11, 12, 13, 14, 15, 16, 17] (.l 18 [] (.qs [19] (.l 20 [] .nil .no)) .no)) (by decide +kernel) ?_
             | refine ⟨_, rfl, (by simp only [mts_len, vcs_len]; omega), ?_⟩
             | refine And.intro (by simp only [mts_len, vcs_len]; omega) ?_
             | refine ⟨_, _, rfl, mts_get (by omega), (by simp only [vcs_len]; omega), ?_⟩
             | refine ⟨_, _, mts_get (by omega), vcs_get (by omega), ?_⟩
             | refine ⟨_, mts_get (by omega), ?_⟩
             | refine ⟨_, vcs_get (by omega), ?_⟩
             | refine ArOb.fits (by simp only [vcs_len, mts_len]; omega) ?_
             | refine And.intro (And.intro (by simp only [List.length_append, List.length_cons, List.length_nil, mts_len, vcs_len, fr_len]; omega) (by simp only [List.length_append, List.length_cons, List.length_nil, mts_len, vcs_len, fr_len]; omega)) ?_
             | fail)
    all_goals try (conv => whnf)
    · have hq2 : ¬q2 := by assumption
      have hpne : f2 i k ≠ 0 := by assumption
      have hbk : (p.c.length : Int) + p.r.length ≤ bs2 i := by assumption
      have hAA := hA hq2
      have hA2 : Tok p.r.length (p.c.length + 2 * p.r.length + 1) (f2, bs2, d2) := hAA.tk
      have cP := pivot_ok p.r.length (p.c.length + 2 * p.r.length + 1) (by omega) (by omega) f2 bs2 d2 i k hil (by omega) hA2.d hA2.bd hpne
      have e : q2 = False := propext ⟨fun h => hq2 h, False.elim⟩
      subst e
      refine CallOb.mk [3, 4, 2] cP rfl (ImpL.refl _) rfl rfl ?_
      rintro _ _ ⟨⟨f', bs', d', q'⟩, hpv, rfl, rfl⟩
      dsimp only at hpv ⊢
      repeat' (conv => whnf
               first
               | (refine CondOb.mk (fun _ => ?_) (fun _ => ?_) <;> first | (exfalso; omega) | skip)
               | refine ArOb.fits (by omega) ?_
               | refine LitOb.vec ?_
               | refine MakeOb.vec ?_
               | refine AllocOb.box ?_
               | refine CutOb.split ?_
               | refine Gh.mk [] ?_
               | refine ⟨_, _, rfl, rfl, Nat.le_refl _, ⟨by (simp only; omega), by omega⟩, ?_⟩
               | refine DrawOb.mk [] (.qs [0, 1, 2, 3, 4, 5, 6, 7] .nil) (by decide +kernel) ?_
               | refine DrawOb.mk [] (.qs [0, 1, 2, 3, 4, 5, 6, 7, 8, 9, 10, 11, 12, 13, 14, 15] (.l 16 [] .nil .no)) (by decide +kernel) ?_
               | refine DrawOb.mk [] (.qs [0, 1, 2, 3, 4, 5, 6, 7, 8, 9] .nil) (by decide +kernel) ?_
               | refine DrawOb.mk [] (.qs [0, 1, 2, 3, 4, 5, 6, 7, 8, 9, 10, 11, 12, 13, 14, 15, 16, 17, 18, 19, 20, 21, 22, 23] .nil) (by decide +kernel) ?_
               | refine DrawOb.mk [] (.qs [0, 1, 2, 3, 4, 5, 6, 7, 8, 9, 10, 11, 12, 13, 14, 15, 16, 17] (.l 18 [] (.qs [19] (.l 20 [] .nil .no)) .no)) (by decide +kernel) ?_
               | refine DrawOb.mk [] (.qs [0, 1, 2, 3, 4, 5, 6, 7, 8, 9, 10, 11, 12, 13, 14, 15, 16, 17] (.l 18 [] (.qs [19] (.l 20 [] .nil .no)) .no)) (by decide +kernel) ?_
               | refine ⟨_, rfl, (by simp only [mts_len, vcs_len]; omega), ?_⟩
               | refine And.intro (by simp only [mts_len, vcs_len]; omega) ?_
               | refine ⟨_, _, rfl, mts_get (by omega), (by simp only [vcs_len]; omega), ?_⟩
               | refine ⟨_, _, mts_get (by omega), vcs_get (by omega), ?_⟩
               | refine ⟨_, mts_get (by omega), ?_⟩
               | refine ⟨_, vcs_get (by omega), ?_⟩
               | refine ArOb.fits (by simp only [vcs_len, mts_len]; omega) ?_
               | refine And.intro (And.intro (by simp only [List.length_append, List.length_cons, List.length_nil, mts_len, vcs_len, fr_len]; omega) (by simp only [List.length_append, List.length_cons, List.length_nil, mts_len, vcs_len, fr_len]; omega)) ?_
               | fail)
      all_goals try (conv => whnf)
      exact ⟨(k + 1, (f', bs', d'), q'), [0, 1, 2, 3, 4], ⟨by simp only; omega, fun h => hAA.piv hil (by unfold nC; omega) (by unfold nC; simp only; omega) hpne (show Piv _ _ (f2, bs2, d2) i k (f', bs', d') from hpv h)⟩, by simp only; omega, by (refine Le.mk (by kernel_rfl) ?_ ?_ <;> repeat' (first | exact True.intro | refine And.intro ?_ ?_ | exact Imp.refl _ | exact Imp.any _ | exact Imp.num (by first | omega | simp only [ints_len]) | exact rfl | exact Imp.bl (by simp)))⟩
    · have h0 : f2 i k = 0 := Classical.not_not.1 (by assumption)
      exact ⟨(k + 1, (f2, bs2, d2), q2), [0, 1, 2, 3, 4], ⟨by simp only; omega, fun h => (hA h).skip h0⟩, by simp only; omega, by (refine Le.mk (by kernel_rfl) ?_ ?_ <;> repeat' (first | exact True.intro | refine And.intro ?_ ?_ | exact Imp.refl _ | exact Imp.any _ | exact Imp.num (by first | omega | simp only [ints_len]) | exact rfl | exact Imp.bl (by simp)))⟩
    · exact ⟨(i + 1, (f2, bs2, d2), q2), [0, 1, 2, 3, 4], ⟨by simp only; omega, fun h => absurd h (by assumption)⟩, by simp only; omega, by (refine Le.mk (by kernel_rfl) ?_ ?_ <;> repeat' (first | exact True.intro | refine And.intro ?_ ?_ | exact Imp.refl _ | exact Imp.any _ | exact Imp.num (by first | omega | simp only [ints_len]) | exact rfl | exact Imp.bl (by simp)))⟩
    · exact ⟨(i + 1, (f2, bs2, d2), q2), [0, 1, 2, 3, 4], ⟨by simp only; omega, fun h => (hA h).next (.inr (by unfold nC; omega))⟩, by simp only; omega, by (refine Le.mk (by kernel_rfl) ?_ ?_ <;> repeat' (first | exact True.intro | refine And.intro ?_ ?_ | exact Imp.refl _ | exact Imp.any _ | exact Imp.num (by first | omega | simp only [ints_len]) | exact rfl | exact Imp.bl (by simp)))⟩
    · exact ⟨(i + 1, (f2, bs2, d2), q2), [0, 1, 2, 3, 4], ⟨by simp only; omega, fun h => (hA h).next (.inl (by unfold nC; simp only; omega))⟩, by simp only; omega, by (refine Le.mk (by kernel_rfl) ?_ ?_ <;> repeat' (first | exact True.intro | refine And.intro ?_ ?_ | exact Imp.refl _ | exact Imp.any _ | exact Imp.num (by first | omega | simp only [ints_len]) | exact rfl | exact Imp.bl (by simp)))⟩
  have hie : i = p.r.length := by omega
  subst hie
  clear hlt2 hi
  have cS := scale_ok p.c (by omega) hvp.2.2.2.1
  repeat' (conv => whnf
           first
           | refine ArOb.fits (by omega) ?_
           | refine LitOb.vec ?_
           | refine MakeOb.vec ?_
           | refine AllocOb.box ?_
           | refine CutOb.split ?_
           | refine Gh.mk [] ?_
           | refine ⟨_, _, rfl, rfl, Nat.le_refl _, ⟨by (simp only; omega), by omega⟩, ?_⟩
           | refine DrawOb.mk [] (.qs [0, 1, 2, 3, 4, 5, 6, 7] .nil) (by decide +kernel) ?_
           | refine DrawOb.mk [] (.qs [0, 1, 2, 3, 4, 5, 6, 7, 8, 9, 10, 11, 12, 13, 14, 15] (.l 16 [] .nil .no)) (by decide +kernel) ?_
           | refine DrawOb.mk [] (.qs [0, 1, 2, 3, 4, 5, 6, 7, 8, 9] .nil) (by decide +kernel) ?_
           | refine DrawOb.mk [] (.qs [0, 1, 2, 3, 4, 5, 6, 7, 8, 9, 10, 11, 12, 13, 14, 15, 16, 17, 18, 19, 20, 21, 22, 23] .nil) (by decide +kernel) ?_
           | refine DrawOb.mk [] (.qs [0, 1, 2, 3, 4, 5, 6, 7, 8, 9, 10, 11, 12, 13, 14, 15, 16, 17] (.l 18 [] (.qs [19] (.l 20 [] .nil .no)) .no)) (by decide +kernel) ?_
           | refine DrawOb.mk [] (.qs [0, 1, 2, 3, 4, 5, 6, 7, 8, 9, 10, 11, 12, 13, 14, 15, 16, 17] (.l 18 [] (.qs [19] (.l 20 [] .nil .no)) .no)) (by decide +kernel) ?_
           | refine ⟨_, rfl, (by simp only [mts_len, vcs_len]; omega), ?_⟩
           | refine And.intro (by simp only [mts_len, vcs_len]; omega) ?_
           | refine ⟨_, _, rfl, mts_get (by omega), (by simp only [vcs_len]; omega), ?_⟩
           | refine ⟨_, _, mts_get (by omega), vcs_get (by omega), ?_⟩
           | refine ⟨_, mts_get (by omega), ?_⟩
           | refine ⟨_, vcs_get (by omega), ?_⟩
           | refine ArOb.fits (by simp only [vcs_len, mts_len]; omega) ?_
           | refine And.intro (And.intro (by simp only [List.length_append, List.length_cons, List.length_nil, mts_len, vcs_len, fr_len]; omega) (by simp only [List.length_append, List.length_cons, List.length_nil, mts_len, vcs_len, fr_len]; omega)) ?_
           | fail)
  all_goals try (conv => whnf)
  refine CallOb.mk [] cS rfl (ImpL.refl _) rfl rfl ?_
  rintro _ _ ⟨sc, hsc, rfl, rfl⟩
  repeat' (conv => whnf
           first
           | refine ArOb.fits (by omega) ?_
           | refine LitOb.vec ?_
           | refine MakeOb.vec ?_
           | refine AllocOb.box ?_
           | refine CutOb.split ?_
           | refine Gh.mk [] ?_
           | refine ⟨_, _, rfl, rfl, Nat.le_refl _, ⟨by (simp only; omega), by omega⟩, ?_⟩
           | refine DrawOb.mk [] (.qs [0, 1, 2, 3, 4, 5, 6, 7] .nil) (by decide +kernel) ?_
           | refine DrawOb.mk [] (.qs [0, 1, 2, 3, 4, 5, 6, 7, 8, 9, 10, 11, 12, 13, 14, 15] (.l 16 [] .nil .no)) (by decide +kernel) ?_
           | refine DrawOb.mk [] (.qs [0, 1, 2, 3, 4, 5, 6, 7, 8, 9] .nil) (by decide +kernel) ?_
           | refine DrawOb.mk [] (.qs [0, 1, 2, 3, 4, 5, 6, 7, 8, 9, 10, 11, 12, 13, 14, 15, 16, 17, 18, 19, 20, 21, 22, 23] .nil) (by decide +kernel) ?_
           | refine DrawOb.mk [] (.qs [0, 1, 2, 3, 4, 5, 6, 7, 8, 9, 10, 11, 12, 13, 14, 15, 16, 17] (.l 18 [] (.qs [19] (.l 20 [] .nil .no)) .no)) (by decide +kernel) ?_
           | refine DrawOb.mk [] (.qs [0, 1, 2, 3, 4, 5, 6, 7, 8, 9, 10, 11, 12, 13, 14, 15, 16, 17] (.l 18 [] (.qs [19] (.l 20 [] .nil .no)) .no)) (by decide +kernel) ?_
           | refine ⟨_, rfl, (by simp only [mts_len, vcs_len]; omega), ?_⟩
           | refine And.intro (by simp only [mts_len, vcs_len]; omega) ?_
           | refine ⟨_, _, rfl, mts_get (by omega), (by simp only [vcs_len]; omega), ?_⟩
           | refine ⟨_, _, mts_get (by omega), vcs_get (by omega), ?_⟩
           | refine ⟨_, mts_get (by omega), ?_⟩
           | refine ⟨_, vcs_get (by omega), ?_⟩
           | refine ArOb.fits (by simp only [vcs_len, mts_len]; omega) ?_
           | refine And.intro (And.intro (by simp only [List.length_append, List.length_cons, List.length_nil, mts_len, vcs_len, fr_len]; omega) (by simp only [List.length_append, List.length_cons, List.length_nil, mts_len, vcs_len, fr_len]; omega)) ?_
           | fail)
  all_goals try (conv => whnf)
  refine CondOb.mk (fun hs0 => ?_) (fun hs0 => ?_)
  · repeat' (conv => whnf
             first
             | (refine CondOb.mk (fun _ => ?_) (fun _ => ?_) <;> first | (exfalso; omega) | skip)
             | refine ArOb.fits (by omega) ?_
             | refine LitOb.vec ?_
             | refine MakeOb.vec ?_
             | refine AllocOb.box ?_
             | refine CutOb.split ?_
             | refine Gh.mk [] ?_
             | refine ⟨_, _, rfl, rfl, Nat.le_refl _, ⟨by (simp only; omega), by omega⟩, ?_⟩
             | refine DrawOb.mk [] (.qs [0, 1, 2, 3, 4, 5, 6, 7] .nil) (by decide +kernel) ?_
             | refine DrawOb.mk [] (.qs [0, 1, 2, 3, 4, 5, 6, 7, 8, 9, 10, 11, 12, 13, 14, 15] (.l 16 [] .nil .no)) (by decide +kernel) ?_
             | refine DrawOb.mk [] (.qs [0, 1, 2, 3, 4, 5, 6, 7, 8, 9] .nil) (by decide +kernel) ?_
             | refine DrawOb.mk [] (.qs [0, 1, 2, 3, 4, 5, 6, 7, 8, 9, 10, 11, 12, 13, 14, 15, 16, 17, 18, 19, 20, 21, 22, 23] .nil) (by decide +kernel) ?_
             | refine DrawOb.mk [] (.qs [0, 1, 2, 3, 4, 5, 6, 7, 8, 9, 10, 11, 12, 13, 14, 15, 16, 17] (.l 18 [] (.qs [19] (.l 20 [] .nil .no)) .no)) (by decide +kernel) ?_
             | refine DrawOb.mk [] (.qs [0, 1, 2, 3, 4, 5, 6, 7, 8, 9, 10, 11, 12, 13, 14, 15, 16, 17] (.l 18 [] (.qs [19] (.l 20 [] .nil .no)) .no)) (by decide +kernel) ?_
             | fail)
    all_goals try (conv => whnf)
    exact ⟨((0, [], (0, 0), [], []), 3), .inr ⟨by simp, rfl⟩, rfl, Imp.tup ⟨Imp.agg ⟨Imp.refl _, Imp.nil _, Imp.refl _, Imp.refl _, Imp.nil _, Imp.nil _, trivial⟩, Imp.refl _, trivial⟩⟩
  obtain ⟨s1, s2, hsd⟩ : 1 ≤ sc ∧ sc < 2147483648 ∧ ∀ f ∈ p.c, f.2 ∣ sc := by
    rcases hsc with h | h
    · exact absurd h hs0
    · exact h
  clear hsc
  repeat' (conv => whnf
           first
           | refine ArOb.fits (by omega) ?_
           | refine LitOb.vec ?_
           | refine MakeOb.vec ?_
           | refine AllocOb.box ?_
           | refine CutOb.split ?_
           | refine Gh.mk [] ?_
           | refine ⟨_, _, rfl, rfl, Nat.le_refl _, ⟨by (simp only; omega), by omega⟩, ?_⟩
           | refine DrawOb.mk [] (.qs [0, 1, 2, 3, 4, 5, 6, 7] .nil) (by decide +kernel) ?_
           | refine DrawOb.mk [] (.qs [0, 1, 2, 3, 4, 5, 6, 7, 8, 9, 10, 11, 12, 13, 14, 15] (.l 16 [] .nil .no)) (by decide +kernel) ?_
           | refine DrawOb.mk [] (.qs [0, 1, 2, 3, 4, 5, 6, 7, 8, 9] .nil) (by decide +kernel) ?_
           | refine DrawOb.mk [] (.qs [0, 1, 2, 3, 4, 5, 6, 7, 8, 9, 10, 11, 12, 13, 14, 15, 16, 17, 18, 19, 20, 21, 22, 23] .nil) (by decide +kernel) ?_
           | refine DrawOb.mk [] (.qs [0, 1, 2, 3, 4, 5, 6, 7, 8, 9, 10, 11, 12, 13, 14, 15, 16, 17] (.l 18 [] (.qs [19] (.l 20 [] .nil .no)) .no)) (by decide +kernel) ?_
           | refine DrawOb.mk [] (.qs [0, 1, 2, 3, 4, 5, 6, 7, 8, 9, 10, 11, 12, 13, 14, 15, 16, 17] (.l 18 [] (.qs [19] (.l 20 [] .nil .no)) .no)) (by decide +kernel) ?_
           | refine ⟨_, rfl, (by simp only [mts_len, vcs_len]; omega), ?_⟩
           | refine And.intro (by simp only [mts_len, vcs_len]; omega) ?_
           | refine ⟨_, _, rfl, mts_get (by omega), (by simp only [vcs_len]; omega), ?_⟩
           | refine ⟨_, _, mts_get (by omega), vcs_get (by omega), ?_⟩
           | refine ⟨_, mts_get (by omega), ?_⟩
           | refine ⟨_, vcs_get (by omega), ?_⟩
           | refine ArOb.fits (by simp only [vcs_len, mts_len]; omega) ?_
           | refine And.intro (And.intro (by simp only [List.length_append, List.length_cons, List.length_nil, mts_len, vcs_len, fr_len]; omega) (by simp only [List.length_append, List.length_cons, List.length_nil, mts_len, vcs_len, fr_len]; omega)) ?_
           | fail)
  all_goals try (conv => whnf)
  refine CondOb.mk (fun hq2 => ?_) (fun hq2 => ?_)
  · repeat' (conv => whnf
             first
             | (refine CondOb.mk (fun _ => ?_) (fun _ => ?_) <;> first | (exfalso; omega) | skip)
             | refine ArOb.fits (by omega) ?_
             | refine LitOb.vec ?_
             | refine MakeOb.vec ?_
             | refine AllocOb.box ?_
             | refine CutOb.split ?_
             | refine Gh.mk [] ?_
             | refine ⟨_, _, rfl, rfl, Nat.le_refl _, ⟨by (simp only; omega), by omega⟩, ?_⟩
             | refine DrawOb.mk [] (.qs [0, 1, 2, 3, 4, 5, 6, 7] .nil) (by decide +kernel) ?_
             | refine DrawOb.mk [] (.qs [0, 1, 2, 3, 4, 5, 6, 7, 8, 9, 10, 11, 12, 13, 14, 15] (.l 16 [] .nil .no)) (by decide +kernel) ?_
             | refine DrawOb.mk [] (.qs [0, 1, 2, 3, 4, 5, 6, 7, 8, 9] .nil) (by decide +kernel) ?_
             | refine DrawOb.mk [] (.qs [0, 1, 2, 3, 4, 5, 6, 7, 8, 9, 10, 11, 12, 13, 14, 15, 16, 17, 18, 19, 20, 21, 22, 23] .nil) (by decide +kernel) ?_
             | refine DrawOb.mk [] (.qs [0, 1, 2, 3, 4, 5, 6, 7, 8, 9, 10, 11, 12, 13, 14, 15, 16, 17] (.l 18 [] (.qs [19] (.l 20 [] .nil .no)) .no)) (by decide +kernel) ?_
             | refine DrawOb.mk [] (.qs [0, 1, 2, 3, 4, 5, 6, 7, 8, 9, 10, 11, 12, 13, 14, 15, 16, 17] (.l 18 [] (.qs [19] (.l 20 [] .nil .no)) .no)) (by decide +kernel) ?_
             | fail)
    all_goals try (conv => whnf)
    exact ⟨((0, [], (0, 0), [], []), 3), .inr ⟨by simp, rfl⟩, rfl, Imp.tup ⟨Imp.agg ⟨Imp.refl _, Imp.nil _, Imp.refl _, Imp.refl _, Imp.nil _, Imp.nil _, trivial⟩, Imp.refl _, trivial⟩⟩
  obtain ⟨hA1, hA2, hAz, _⟩ := hA hq2
  have hA2 : Tok p.r.length (p.c.length + 2 * p.r.length + 1) (f2, bs2, d2) := hA2
  clear hA
  have hrep4 : List.replicate (p.c.length + 2 * p.r.length + 1) [i64 0] = vcs (p.c.length + 2 * p.r.length + 1) (cf p sc 0) := by rw [vcs_repl]; exact vcs_congr (fun k _ => by unfold cf; rw [if_neg (by omega)])
  repeat' (conv => whnf
           first
           | refine ArOb.fits (by omega) ?_
           | refine LitOb.vec ?_
           | refine MakeOb.vec ?_
           | refine AllocOb.box ?_
           | refine CutOb.split ?_
           | refine Gh.mk [] ?_
           | refine ⟨_, _, rfl, rfl, Nat.le_refl _, ⟨by (simp only; omega), by omega⟩, ?_⟩
           | refine DrawOb.mk [] (.qs [0, 1, 2, 3, 4, 5, 6, 7] .nil) (by decide +kernel) ?_
           | refine DrawOb.mk [] (.qs [0, 1, 2, 3, 4, 5, 6, 7, 8, 9, 10, 11, 12, 13, 14, 15] (.l 16 [] .nil .no)) (by decide +kernel) ?_
           | refine DrawOb.mk [] (.qs [0, 1, 2, 3, 4, 5, 6, 7, 8, 9] .nil) (by decide +kernel) ?_
           | refine DrawOb.mk [] (.qs [0, 1, 2, 3, 4, 5, 6, 7, 8, 9, 10, 11, 12, 13, 14, 15, 16, 17, 18, 19, 20, 21, 22, 23] .nil) (by decide +kernel) ?_
           | refine DrawOb.mk [] (.qs [0, 1, 2, 3, 4, 5, 6, 7, 8, 9, 10, 11, 12, 13, 14, 15, 16, 17] (.l 18 [] (.qs [19] (.l 20 [] .nil .no)) .no)) (by decide +kernel) ?_
           | refine DrawOb.mk [] (.qs [0, 1, 2, 3, 4, 5, 6, 7, 8, 9, 10, 11, 12, 13, 14, 15, 16, 17] (.l 18 [] (.qs [19] (.l 20 [] .nil .no)) .no)) (by decide +kernel) ?_
           | refine ⟨p.c.length + 2 * p.r.length + 1, p.c.length + 2 * p.r.length + 1, rfl, rfl, (by omega), ⟨by omega, by omega⟩, ?_⟩
           | refine ⟨_, rfl, (by simp only [mts_len, vcs_len]; omega), ?_⟩
           | refine And.intro (by simp only [mts_len, vcs_len]; omega) ?_
           | refine ⟨_, _, rfl, mts_get (by omega), (by simp only [vcs_len]; omega), ?_⟩
           | refine ⟨_, _, mts_get (by omega), vcs_get (by omega), ?_⟩
           | refine ⟨_, mts_get (by omega), ?_⟩
           | refine ⟨_, vcs_get (by omega), ?_⟩
           | refine ArOb.fits (by simp only [vcs_len, mts_len]; omega) ?_
           | refine And.intro (And.intro (by simp only [List.length_append, List.length_cons, List.length_nil, mts_len, vcs_len, fr_len]; omega) (by simp only [List.length_append, List.length_cons, List.length_nil, mts_len, vcs_len, fr_len]; omega)) ?_
           | fail)
  all_goals try (conv => whnf)
  refine LoopOb.mk (Y := Nat) (st := fun k => ⟨[(26, i64 k), (25, .vec 5), (24, i64 sc), (8, .psl 1 (vcs p.r.length bY)), (7, .ptr 3 0), (6, i64 (p.c.length + 2 * p.r.length + 1 : Nat)), (5, i64 p.r.length), (4, i64 p.c.length), (2, .ptr 1 0), (1, .ptr 0 0)], [.box [fsl p.c, .psl 4 (rws p.r)], .box [i64 0, .nil, i64 0, i64 0, .nil, .nil], .vec 1 (vcs p.r.length (f2, bs2, d2).2.1), .box [.vec 4, .vec 2, i64 (f2, bs2, d2).2.2, .bp (q2)], .mat 1 (mts (p.r.length + 1) (p.c.length + 2 * p.r.length + 1) (f2, bs2, d2).1), .vec 1 (vcs (p.c.length + 2 * p.r.length + 1) (cf p sc k))]⟩)
    (inv := fun k => k ≤ p.c.length ∧ ∀ j < k, -2147483648 < cc p sc j ∧ cc p sc j < 2147483648) (fun k => p.c.length - k) 0 [0, 1, 2, 3, 4, 5] ⟨by omega, by omega⟩ (by dsimp only; rw [← hrep4]; (refine Le.mk (by kernel_rfl) ?_ ?_ <;> repeat' (first | exact True.intro | refine And.intro ?_ ?_ | exact Imp.refl _ | exact Imp.any _ | exact Imp.num (by first | omega | simp only [ints_len]) | exact rfl | exact Imp.bl (by simp)))) ?_
  rintro k ⟨hk, hcb⟩
  repeat' (conv => whnf
           first
           | refine ArOb.fits (by omega) ?_
           | refine LitOb.vec ?_
           | refine MakeOb.vec ?_
           | refine AllocOb.box ?_
           | refine CutOb.split ?_
           | refine Gh.mk [] ?_
           | refine ⟨_, _, rfl, rfl, Nat.le_refl _, ⟨by (simp only; omega), by omega⟩, ?_⟩
           | refine DrawOb.mk [] (.qs [0, 1, 2, 3, 4, 5, 6, 7] .nil) (by decide +kernel) ?_
           | refine DrawOb.mk [] (.qs [0, 1, 2, 3, 4, 5, 6, 7, 8, 9, 10, 11, 12, 13, 14, 15] (.l 16 [] .nil .no)) (by decide +kernel) ?_
           | refine DrawOb.mk [] (.qs [0, 1, 2, 3, 4, 5, 6, 7, 8, 9] .nil) (by decide +kernel) ?_
           | refine DrawOb.mk [] (.qs [0, 1, 2, 3, 4, 5, 6, 7, 8, 9, 10, 11, 12, 13, 14, 15, 16, 17, 18, 19, 20, 21, 22, 23] .nil) (by decide +kernel) ?_
           | refine DrawOb.mk [] (.qs [0, 1, 2, 3, 4, 5, 6, 7, 8, 9, 10, 11, 12, 13, 14, 15, 16, 17] (.l 18 [] (.qs [19] (.l 20 [] .nil .no)) .no)) (by decide +kernel) ?_
           | refine DrawOb.mk [] (.qs [0, 1, 2, 3, 4, 5, 6, 7, 8, 9, 10, 11, 12, 13, 14, 15, 16, 17] (.l 18 [] (.qs [19] (.l 20 [] .nil .no)) .no)) (by decide +kernel) ?_
           | refine ⟨_, rfl, (by simp only [mts_len, vcs_len]; omega), ?_⟩
           | refine And.intro (by simp only [mts_len, vcs_len]; omega) ?_
           | refine ⟨_, _, rfl, mts_get (by omega), (by simp only [vcs_len]; omega), ?_⟩
           | refine ⟨_, _, mts_get (by omega), vcs_get (by omega), ?_⟩
           | refine ⟨_, mts_get (by omega), ?_⟩
           | refine ⟨_, vcs_get (by omega), ?_⟩
           | refine ArOb.fits (by simp only [vcs_len, mts_len]; omega) ?_
           | refine And.intro (And.intro (by simp only [List.length_append, List.length_cons, List.length_nil, mts_len, vcs_len, fr_len]; omega) (by simp only [List.length_append, List.length_cons, List.length_nil, mts_len, vcs_len, fr_len]; omega)) ?_
           | fail)
  all_goals try (conv => whnf)
  refine CondOb.mk (fun hlt2 => ?_) (fun hlt2 => ?_)
  · have hkl : k < p.c.length := by omega
    have hgk := fr_get (l := p.c) (i := k) hkl
    have hvk := all_at hvp.2.2.2.1 (i := k) hkl
    have hdk := all_at (P := fun f => f.2 ∣ sc) hsd (i := k) hkl
    have cT := times_ok (p.c.getD k (0, 1)).1 (p.c.getD k (0, 1)).2 sc hvk s1 s2
    have hst : (-2147483648 < cc p sc k ∧ cc p sc k < 2147483648) → _ := fun h => lt_step (P := fun j => -2147483648 < cc p sc j ∧ cc p sc j < 2147483648) hcb h
    have hck : cc p sc k = (p.c.getD k (0, 1)).1 * (sc / (p.c.getD k (0, 1)).2) := by unfold cc; rw [if_pos hkl]
    have hstep := cf_step (p := p) (sc := sc) hkl
    repeat' (conv => whnf
             first
             | refine ArOb.fits (by omega) ?_
             | refine LitOb.vec ?_
             | refine MakeOb.vec ?_
             | refine AllocOb.box ?_
             | refine CutOb.split ?_
             | refine Gh.mk [] ?_
             | refine ⟨_, _, rfl, rfl, Nat.le_refl _, ⟨by (simp only; omega), by omega⟩, ?_⟩
             | refine DrawOb.mk [] (.qs [0, 1, 2, 3, 4, 5, 6, 7] .nil) (by decide +kernel) ?_
             | refine DrawOb.mk [] (.qs [0, 1, 2, 3, 4, 5, 6, 7, 8, 9, 10, 11, 12, 13, 14, 15] (.l 16 [] .nil .no)) (by decide +kernel) ?_
             | refine DrawOb.mk [] (.qs [0, 1, 2, 3, 4, 5, 6, 7, 8, 9] .nil) (by decide +kernel) ?_
             | refine DrawOb.mk [] (.qs [0, 1, 2, 3, 4, 5, 6, 7, 8, 9, 10, 11, 12, 13, 14, 15, 16, 17, 18, 19, 20, 21, 22, 23] .nil) (by decide +kernel) ?_
             | refine DrawOb.mk [] (.qs [0, 1, 2, 3, 4, 5, 6, 7, 8, 9, 10, 11, 12, 13, 14, 15, 16, 17] (.l 18 [] (.qs [19] (.l 20 [] .nil .no)) .no)) (by decide +kernel) ?_
             | refine DrawOb.mk [] (.qs [0, 1, 2, 3, 4, 5, 6, 7, 8, 9, 10, 11, 12, 13, 14, 15, 16, 17] (.l 18 [] (.qs [19] (.l 20 [] .nil .no)) .no)) (by decide +kernel) ?_
             | refine ⟨k, _, rfl, hgk, ?_⟩
             | refine ⟨_, rfl, (by simp only [mts_len, vcs_len]; omega), ?_⟩
             | refine And.intro (by simp only [mts_len, vcs_len]; omega) ?_
             | refine ⟨_, _, rfl, mts_get (by omega), (by simp only [vcs_len]; omega), ?_⟩
             | refine ⟨_, _, mts_get (by omega), vcs_get (by omega), ?_⟩
             | refine ⟨_, mts_get (by omega), ?_⟩
             | refine ⟨_, vcs_get (by omega), ?_⟩
             | refine ArOb.fits (by simp only [vcs_len, mts_len]; omega) ?_
             | refine And.intro (And.intro (by simp only [List.length_append, List.length_cons, List.length_nil, mts_len, vcs_len, fr_len]; omega) (by simp only [List.length_append, List.length_cons, List.length_nil, mts_len, vcs_len, fr_len]; omega)) ?_
             | fail)
    all_goals try (conv => whnf)
    refine CallOb.mk [] cT rfl (ImpL.refl _) rfl rfl ?_
    rintro _ _ ⟨⟨v, ok⟩, hz, rfl, rfl⟩
    dsimp only at hz ⊢
    cases ok with
    | false =>
      repeat' (conv => whnf
               first
               | refine CondOb.mk (fun _ => ?_) (fun _ => ?_)
               | refine ArOb.fits (by omega) ?_
               | refine LitOb.vec ?_
               | refine MakeOb.vec ?_
               | refine AllocOb.box ?_
               | refine CutOb.split ?_
               | refine Gh.mk [] ?_
               | refine ⟨_, _, rfl, rfl, Nat.le_refl _, ⟨by (simp only; omega), by omega⟩, ?_⟩
               | refine DrawOb.mk [] (.qs [0, 1, 2, 3, 4, 5, 6, 7] .nil) (by decide +kernel) ?_
               | refine DrawOb.mk [] (.qs [0, 1, 2, 3, 4, 5, 6, 7, 8, 9, 10, 11, 12, 13, 14, 15] (.l 16 [] .nil .no)) (by decide +kernel) ?_
               | refine DrawOb.mk [] (.qs [0, 1, 2, 3, 4, 5, 6, 7, 8, 9] .nil) (by decide +kernel) ?_
               | refine DrawOb.mk [] (.qs [0, 1, 2, 3, 4, 5, 6, 7, 8, 9, 10, 11, 12, 13, 14, 15, 16, 17, 18, 19, 20, 21, 22, 23] .nil) (by decide +kernel) ?_
               | refine DrawOb.mk [] (.qs [0, 1, 2, 3, 4, 5, 6, 7, 8, 9, 10, 11, 12, 13, 14, 15, 16, 17] (.l 18 [] (.qs [19] (.l 20 [] .nil .no)) .no)) (by decide +kernel) ?_
               | refine DrawOb.mk [] (.qs [0, 1, 2, 3, 4, 5, 6, 7, 8, 9, 10, 11, 12, 13, 14, 15, 16, 17] (.l 18 [] (.qs [19] (.l 20 [] .nil .no)) .no)) (by decide +kernel) ?_
               | refine ⟨_, rfl, (by simp only [mts_len, vcs_len]; omega), ?_⟩
               | refine And.intro (by simp only [mts_len, vcs_len]; omega) ?_
               | refine ⟨_, _, rfl, mts_get (by omega), (by simp only [vcs_len]; omega), ?_⟩
               | refine ⟨_, _, mts_get (by omega), vcs_get (by omega), ?_⟩
               | refine ⟨_, mts_get (by omega), ?_⟩
               | refine ⟨_, vcs_get (by omega), ?_⟩
               | refine ArOb.fits (by simp only [vcs_len, mts_len]; omega) ?_
               | refine And.intro (And.intro (by simp only [List.length_append, List.length_cons, List.length_nil, mts_len, vcs_len, fr_len]; omega) (by simp only [List.length_append, List.length_cons, List.length_nil, mts_len, vcs_len, fr_len]; omega)) ?_
               | fail)
      all_goals try (conv => whnf)
      exact ⟨((0, [], (0, 0), [], []), 3), .inr ⟨by simp, rfl⟩, rfl, Imp.tup ⟨Imp.agg ⟨Imp.refl _, Imp.nil _, Imp.refl _, Imp.refl _, Imp.nil _, Imp.nil _, trivial⟩, Imp.refl _, trivial⟩⟩
    | true =>
      obtain ⟨hz, hz1, hz2⟩ := hz rfl
      repeat' (conv => whnf
               first
               | refine CondOb.mk (fun _ => ?_) (fun _ => ?_)
               | refine ArOb.fits (by omega) ?_
               | refine LitOb.vec ?_
               | refine MakeOb.vec ?_
               | refine AllocOb.box ?_
               | refine CutOb.split ?_
               | refine Gh.mk [] ?_
               | refine ⟨_, _, rfl, rfl, Nat.le_refl _, ⟨by (simp only; omega), by omega⟩, ?_⟩
               | refine DrawOb.mk [] (.qs [0, 1, 2, 3, 4, 5, 6, 7] .nil) (by decide +kernel) ?_
               | refine DrawOb.mk [] (.qs [0, 1, 2, 3, 4, 5, 6, 7, 8, 9, 10, 11, 12, 13, 14, 15] (.l 16 [] .nil .no)) (by decide +kernel) ?_
               | refine DrawOb.mk [] (.qs [0, 1, 2, 3, 4, 5, 6, 7, 8, 9] .nil) (by decide +kernel) ?_
               | refine DrawOb.mk [] (.qs [0, 1, 2, 3, 4, 5, 6, 7, 8, 9, 10, 11, 12, 13, 14, 15, 16, 17, 18, 19, 20, 21, 22, 23] .nil) (by decide +kernel) ?_
               | refine DrawOb.mk [] (.qs [0, 1, 2, 3, 4, 5, 6, 7, 8, 9, 10, 11, 12, 13, 14, 15, 16, 17] (.l 18 [] (.qs [19] (.l 20 [] .nil .no)) .no)) (by decide +kernel) ?_
               | refine DrawOb.mk [] (.qs [0, 1, 2, 3, 4, 5, 6, 7, 8, 9, 10, 11, 12, 13, 14, 15, 16, 17] (.l 18 [] (.qs [19] (.l 20 [] .nil .no)) .no)) (by decide +kernel) ?_
               | refine ⟨_, rfl, (by simp only [mts_len, vcs_len]; omega), ?_⟩
               | refine And.intro (by simp only [mts_len, vcs_len]; omega) ?_
               | refine ⟨_, _, rfl, mts_get (by omega), (by simp only [vcs_len]; omega), ?_⟩
               | refine ⟨_, _, mts_get (by omega), vcs_get (by omega), ?_⟩
               | refine ⟨_, mts_get (by omega), ?_⟩
               | refine ⟨_, vcs_get (by omega), ?_⟩
               | refine ArOb.fits (by simp only [vcs_len, mts_len]; omega) ?_
               | refine And.intro (And.intro (by simp only [List.length_append, List.length_cons, List.length_nil, mts_len, vcs_len, fr_len]; omega) (by simp only [List.length_append, List.length_cons, List.length_nil, mts_len, vcs_len, fr_len]; omega)) ?_
               | fail)
      all_goals try (conv => whnf)
      rw [vcs_set, hz, hstep]
      exact ⟨k + 1, [0, 1, 2, 3, 4, 5], ⟨by omega, hst (by rw [hck, ← hz]; exact ⟨hz1, hz2⟩)⟩, by omega, by (refine Le.mk (by kernel_rfl) ?_ ?_ <;> repeat' (first | exact True.intro | refine And.intro ?_ ?_ | exact Imp.refl _ | exact Imp.any _ | exact Imp.num (by first | omega | simp only [ints_len]) | exact rfl | exact Imp.bl (by simp)))⟩
  have hkn : k = p.c.length := by omega
  subst hkn
  clear hlt2 hk
  have hcb : ∀ j, -2147483648 < cc p sc j ∧ cc p sc j < 2147483648 := fun j => by
    by_cases h : j < p.c.length
    · exact hcb j h
    · unfold cc; rw [if_neg h]; omega
  rw [cf_end]
  repeat' (conv => whnf
           first
           | refine ArOb.fits (by omega) ?_
           | refine LitOb.vec ?_
           | refine MakeOb.vec ?_
           | refine AllocOb.box ?_
           | refine CutOb.split ?_
           | refine Gh.mk [] ?_
           | refine ⟨_, _, rfl, rfl, Nat.le_refl _, ⟨by (simp only; omega), by omega⟩, ?_⟩
           | refine DrawOb.mk [] (.qs [0, 1, 2, 3, 4, 5, 6, 7] .nil) (by decide +kernel) ?_
           | refine DrawOb.mk [] (.qs [0, 1, 2, 3, 4, 5, 6, 7, 8, 9, 10, 11, 12, 13, 14, 15] (.l 16 [] .nil .no)) (by decide +kernel) ?_
           | refine DrawOb.mk [] (.qs [0, 1, 2, 3, 4, 5, 6, 7, 8, 9] .nil) (by decide +kernel) ?_
           | refine DrawOb.mk [] (.qs [0, 1, 2, 3, 4, 5, 6, 7, 8, 9, 10, 11, 12, 13, 14, 15, 16, 17, 18, 19, 20, 21, 22, 23] .nil) (by decide +kernel) ?_
           | refine DrawOb.mk [] (.qs [0, 1, 2, 3, 4, 5, 6, 7, 8, 9, 10, 11, 12, 13, 14, 15, 16, 17] (.l 18 [] (.qs [19] (.l 20 [] .nil .no)) .no)) (by decide +kernel) ?_
           | refine DrawOb.mk [] (.qs [0, 1, 2, 3, 4, 5, 6, 7, 8, 9, 10, 11, 12, 13, 14, 15, 16, 17] (.l 18 [] (.qs [19] (.l 20 [] .nil .no)) .no)) (by decide +kernel) ?_
           | refine ⟨_, rfl, (by simp only [mts_len, vcs_len]; omega), ?_⟩
           | refine And.intro (by simp only [mts_len, vcs_len]; omega) ?_
           | refine ⟨_, _, rfl, mts_get (by omega), (by simp only [vcs_len]; omega), ?_⟩
           | refine ⟨_, _, mts_get (by omega), vcs_get (by omega), ?_⟩
           | refine ⟨_, mts_get (by omega), ?_⟩
           | refine ⟨_, vcs_get (by omega), ?_⟩
           | refine ArOb.fits (by simp only [vcs_len, mts_len]; omega) ?_
           | refine And.intro (And.intro (by simp only [List.length_append, List.length_cons, List.length_nil, mts_len, vcs_len, fr_len]; omega) (by simp only [List.length_append, List.length_cons, List.length_nil, mts_len, vcs_len, fr_len]; omega)) ?_
           | fail)
  all_goals try (conv => whnf)
  refine LoopOb.mk (Y := Nat × (Nat → Nat → Int) × Prop) (st := fun y => ⟨[(390, i64 y.1), (389, i64 (p.c.length + 2 * p.r.length + 1)), (25, .vec 5), (24, i64 sc), (8, .psl 1 (vcs p.r.length bY)), (7, .ptr 3 0), (6, i64 (p.c.length + 2 * p.r.length + 1 : Nat)), (5, i64 p.r.length), (4, i64 p.c.length), (2, .ptr 1 0), (1, .ptr 0 0)], [.box [fsl p.c, .psl 4 (rws p.r)], .box [i64 0, .nil, i64 0, i64 0, .nil, .nil], .vec 1 (vcs p.r.length (y.2.1, bs2, d2).2.1), .box [.vec 4, .vec 2, i64 (y.2.1, bs2, d2).2.2, .bp (y.2.2)], .mat 1 (mts (p.r.length + 1) (p.c.length + 2 * p.r.length + 1) (y.2.1, bs2, d2).1), .vec 1 (vcs (p.c.length + 2 * p.r.length + 1) (cc p sc))]⟩)
    (inv := RdA p sc (f2, bs2, d2)) (fun y => (p.c.length + 2 * p.r.length + 1) - y.1) (0, f2, q2) [0, 1, 2, 3, 4, 5] ⟨by simp, fun _ _ _ _ => rfl, fun _ j hj => absurd hj (by simp)⟩ (by dsimp only; rw [vcs_len]; (refine Le.mk (by kernel_rfl) ?_ ?_ <;> repeat' (first | exact True.intro | refine And.intro ?_ ?_ | exact Imp.refl _ | exact Imp.any _ | exact Imp.num (by first | omega | simp only [ints_len]) | exact rfl | exact Imp.bl (by simp)))) ?_
  rintro ⟨k, f, q⟩ ⟨hk, hrow2, hok⟩
  dsimp only [nE] at hk hrow2 hok ⊢
  repeat' (conv => whnf
           first
           | refine ArOb.fits (by omega) ?_
           | refine LitOb.vec ?_
           | refine MakeOb.vec ?_
           | refine AllocOb.box ?_
           | refine CutOb.split ?_
           | refine Gh.mk [] ?_
           | refine ⟨_, _, rfl, rfl, Nat.le_refl _, ⟨by (simp only; omega), by omega⟩, ?_⟩
           | refine DrawOb.mk [] (.qs [0, 1, 2, 3, 4, 5, 6, 7] .nil) (by decide +kernel) ?_
           | refine DrawOb.mk [] (.qs [0, 1, 2, 3, 4, 5, 6, 7, 8, 9, 10, 11, 12, 13, 14, 15] (.l 16 [] .nil .no)) (by decide +kernel) ?_
           | refine DrawOb.mk [] (.qs [0, 1, 2, 3, 4, 5, 6, 7, 8, 9] .nil) (by decide +kernel) ?_
           | refine DrawOb.mk [] (.qs [0, 1, 2, 3, 4, 5, 6, 7, 8, 9, 10, 11, 12, 13, 14, 15, 16, 17, 18, 19, 20, 21, 22, 23] .nil) (by decide +kernel) ?_
           | refine DrawOb.mk [] (.qs [0, 1, 2, 3, 4, 5, 6, 7, 8, 9, 10, 11, 12, 13, 14, 15, 16, 17] (.l 18 [] (.qs [19] (.l 20 [] .nil .no)) .no)) (by decide +kernel) ?_
           | refine DrawOb.mk [] (.qs [0, 1, 2, 3, 4, 5, 6, 7, 8, 9, 10, 11, 12, 13, 14, 15, 16, 17] (.l 18 [] (.qs [19] (.l 20 [] .nil .no)) .no)) (by decide +kernel) ?_
           | refine ⟨_, rfl, (by simp only [mts_len, vcs_len]; omega), ?_⟩
           | refine And.intro (by simp only [mts_len, vcs_len]; omega) ?_
           | refine ⟨_, _, rfl, mts_get (by omega), (by simp only [vcs_len]; omega), ?_⟩
           | refine ⟨_, _, mts_get (by omega), vcs_get (by omega), ?_⟩
           | refine ⟨_, mts_get (by omega), ?_⟩
           | refine ⟨_, vcs_get (by omega), ?_⟩
           | refine ArOb.fits (by simp only [vcs_len, mts_len]; omega) ?_
           | refine And.intro (And.intro (by simp only [List.length_append, List.length_cons, List.length_nil, mts_len, vcs_len, fr_len]; omega) (by simp only [List.length_append, List.length_cons, List.length_nil, mts_len, vcs_len, fr_len]; omega)) ?_
           | fail)
  all_goals try (conv => whnf)
  refine CondOb.mk (fun hlt2 => ?_) (fun hlt2 => ?_)
  · have hkl : k < (p.c.length + 2 * p.r.length + 1) := by omega
    have m1 := mul_far (hcb k) (show -2147483648 < d2 ∧ d2 < 2147483648 from ⟨by have := hA2.d.1; simp only at this; omega, hA2.d.2⟩)
    repeat' (conv => whnf
             first
             | refine ArOb.fits (by omega) ?_
             | refine LitOb.vec ?_
             | refine MakeOb.vec ?_
             | refine AllocOb.box ?_
             | refine CutOb.split ?_
             | refine Gh.mk [] ?_
             | refine ⟨_, _, rfl, rfl, Nat.le_refl _, ⟨by (simp only; omega), by omega⟩, ?_⟩
             | refine DrawOb.mk [] (.qs [0, 1, 2, 3, 4, 5, 6, 7] .nil) (by decide +kernel) ?_
             | refine DrawOb.mk [] (.qs [0, 1, 2, 3, 4, 5, 6, 7, 8, 9, 10, 11, 12, 13, 14, 15] (.l 16 [] .nil .no)) (by decide +kernel) ?_
             | refine DrawOb.mk [] (.qs [0, 1, 2, 3, 4, 5, 6, 7, 8, 9] .nil) (by decide +kernel) ?_
             | refine DrawOb.mk [] (.qs [0, 1, 2, 3, 4, 5, 6, 7, 8, 9, 10, 11, 12, 13, 14, 15, 16, 17, 18, 19, 20, 21, 22, 23] .nil) (by decide +kernel) ?_
             | refine DrawOb.mk [] (.qs [0, 1, 2, 3, 4, 5, 6, 7, 8, 9, 10, 11, 12, 13, 14, 15, 16, 17] (.l 18 [] (.qs [19] (.l 20 [] .nil .no)) .no)) (by decide +kernel) ?_
             | refine DrawOb.mk [] (.qs [0, 1, 2, 3, 4, 5, 6, 7, 8, 9, 10, 11, 12, 13, 14, 15, 16, 17] (.l 18 [] (.qs [19] (.l 20 [] .nil .no)) .no)) (by decide +kernel) ?_
             | refine ⟨_, rfl, (by simp only [mts_len, vcs_len]; omega), ?_⟩
             | refine And.intro (by simp only [mts_len, vcs_len]; omega) ?_
             | refine ⟨_, _, rfl, mts_get (by omega), (by simp only [vcs_len]; omega), ?_⟩
             | refine ⟨_, _, mts_get (by omega), vcs_get (by omega), ?_⟩
             | refine ⟨_, mts_get (by omega), ?_⟩
             | refine ⟨_, vcs_get (by omega), ?_⟩
             | refine ArOb.fits (by simp only [vcs_len, mts_len]; omega) ?_
             | refine And.intro (And.intro (by simp only [List.length_append, List.length_cons, List.length_nil, mts_len, vcs_len, fr_len]; omega) (by simp only [List.length_append, List.length_cons, List.length_nil, mts_len, vcs_len, fr_len]; omega)) ?_
             | fail)
    all_goals try (conv => whnf)
    refine LoopOb.mk (Y := Nat × Int × Prop) (st := fun y => ⟨[(31, i64 y.1), (30, i64 y.2.1), (29, i64 k), (390, i64 k), (389, i64 (p.c.length + 2 * p.r.length + 1)), (25, .vec 5), (24, i64 sc), (8, .psl 1 (vcs p.r.length bY)), (7, .ptr 3 0), (6, i64 (p.c.length + 2 * p.r.length + 1 : Nat)), (5, i64 p.r.length), (4, i64 p.c.length), (2, .ptr 1 0), (1, .ptr 0 0)], [.box [fsl p.c, .psl 4 (rws p.r)], .box [i64 0, .nil, i64 0, i64 0, .nil, .nil], .vec 1 (vcs p.r.length (f, bs2, d2).2.1), .box [.vec 4, .vec 2, i64 (f, bs2, d2).2.2, .bp (y.2.2)], .mat 1 (mts (p.r.length + 1) (p.c.length + 2 * p.r.length + 1) (f, bs2, d2).1), .vec 1 (vcs (p.c.length + 2 * p.r.length + 1) (cc p sc))]⟩)
      (inv := fun y => y.1 ≤ p.r.length ∧ (¬y.2.2 → ¬q ∧ y.2.1 = red p sc (f2, bs2, d2) y.1 k ∧ -4611686018427387904 < y.2.1 ∧ y.2.1 < 4611686018427387904)) (fun y => p.r.length - y.1) (0, cc p sc k * d2, q) [0, 1, 2, 3, 4, 5] ⟨by simp, fun h => ⟨h, rfl, m1⟩⟩ (by (refine Le.mk (by kernel_rfl) ?_ ?_ <;> repeat' (first | exact True.intro | refine And.intro ?_ ?_ | exact Imp.refl _ | exact Imp.any _ | exact Imp.num (by first | omega | simp only [ints_len]) | exact rfl | exact Imp.bl (by simp)))) ?_
    rintro ⟨i, v, q'⟩ ⟨hi, hv⟩
    dsimp only at hi hv ⊢
    repeat' (conv => whnf
             first
             | refine ArOb.fits (by omega) ?_
             | refine LitOb.vec ?_
             | refine MakeOb.vec ?_
             | refine AllocOb.box ?_
             | refine CutOb.split ?_
             | refine Gh.mk [] ?_
             | refine ⟨_, _, rfl, rfl, Nat.le_refl _, ⟨by (simp only; omega), by omega⟩, ?_⟩
             | refine DrawOb.mk [] (.qs [0, 1, 2, 3, 4, 5, 6, 7] .nil) (by decide +kernel) ?_
             | refine DrawOb.mk [] (.qs [0, 1, 2, 3, 4, 5, 6, 7, 8, 9, 10, 11, 12, 13, 14, 15] (.l 16 [] .nil .no)) (by decide +kernel) ?_
             | refine DrawOb.mk [] (.qs [0, 1, 2, 3, 4, 5, 6, 7, 8, 9] .nil) (by decide +kernel) ?_
             | refine DrawOb.mk [] (.qs [0, 1, 2, 3, 4, 5, 6, 7, 8, 9, 10, 11, 12, 13, 14, 15, 16, 17, 18, 19, 20, 21, 22, 23] .nil) (by decide +kernel) ?_
             | refine DrawOb.mk [] (.qs [0, 1, 2, 3, 4, 5, 6, 7, 8, 9, 10, 11, 12, 13, 14, 15, 16, 17] (.l 18 [] (.qs [19] (.l 20 [] .nil .no)) .no)) (by decide +kernel) ?_
             | refine DrawOb.mk [] (.qs [0, 1, 2, 3, 4, 5, 6, 7, 8, 9, 10, 11, 12, 13, 14, 15, 16, 17] (.l 18 [] (.qs [19] (.l 20 [] .nil .no)) .no)) (by decide +kernel) ?_
             | refine ⟨_, rfl, (by simp only [mts_len, vcs_len]; omega), ?_⟩
             | refine And.intro (by simp only [mts_len, vcs_len]; omega) ?_
             | refine ⟨_, _, rfl, mts_get (by omega), (by simp only [vcs_len]; omega), ?_⟩
             | refine ⟨_, _, mts_get (by omega), vcs_get (by omega), ?_⟩
             | refine ⟨_, mts_get (by omega), ?_⟩
             | refine ⟨_, vcs_get (by omega), ?_⟩
             | refine ArOb.fits (by simp only [vcs_len, mts_len]; omega) ?_
             | refine And.intro (And.intro (by simp only [List.length_append, List.length_cons, List.length_nil, mts_len, vcs_len, fr_len]; omega) (by simp only [List.length_append, List.length_cons, List.length_nil, mts_len, vcs_len, fr_len]; omega)) ?_
             | fail)
    all_goals try (conv => whnf)
    refine CondOb.mk (fun hlt3 => ?_) (fun hlt3 => ?_)
    · have hil : i < p.r.length := by omega
      have hbi := hA2.bs i hil
      dsimp only at hbi
      have efi : f i k = f2 i k := hrow2 i hil k hkl
      have m2 := mul_far (hcb (bs2 i).toNat) (hA2.bd i (by omega) k hkl)
      dsimp only at m2
      rw [← efi] at m2
      by_cases hq' : q'
      · repeat' (conv => whnf
                 first
                 | refine ArOb.fits (by omega) ?_
                 | refine LitOb.vec ?_
                 | refine MakeOb.vec ?_
                 | refine AllocOb.box ?_
                 | refine CutOb.split ?_
                 | refine Gh.mk [] ?_
                 | refine ⟨_, _, rfl, rfl, Nat.le_refl _, ⟨by (simp only; omega), by omega⟩, ?_⟩
                 | refine DrawOb.mk [] (.qs [0, 1, 2, 3, 4, 5, 6, 7] .nil) (by decide +kernel) ?_
                 | refine DrawOb.mk [] (.qs [0, 1, 2, 3, 4, 5, 6, 7, 8, 9, 10, 11, 12, 13, 14, 15] (.l 16 [] .nil .no)) (by decide +kernel) ?_
                 | refine DrawOb.mk [] (.qs [0, 1, 2, 3, 4, 5, 6, 7, 8, 9] .nil) (by decide +kernel) ?_
                 | refine DrawOb.mk [] (.qs [0, 1, 2, 3, 4, 5, 6, 7, 8, 9, 10, 11, 12, 13, 14, 15, 16, 17, 18, 19, 20, 21, 22, 23] .nil) (by decide +kernel) ?_
                 | refine DrawOb.mk [] (.qs [0, 1, 2, 3, 4, 5, 6, 7, 8, 9, 10, 11, 12, 13, 14, 15, 16, 17] (.l 18 [] (.qs [19] (.l 20 [] .nil .no)) .no)) (by decide +kernel) ?_
                 | refine DrawOb.mk [] (.qs [0, 1, 2, 3, 4, 5, 6, 7, 8, 9, 10, 11, 12, 13, 14, 15, 16, 17] (.l 18 [] (.qs [19] (.l 20 [] .nil .no)) .no)) (by decide +kernel) ?_
                 | refine ⟨(bs2 i).toNat, (Int.toNat_of_nonneg hbi.1).symm, (by simp only [vcs_len]; omega), ?_⟩
                 | refine ⟨_, rfl, (by simp only [mts_len, vcs_len]; omega), ?_⟩
                 | refine And.intro (by simp only [mts_len, vcs_len]; omega) ?_
                 | refine ⟨_, _, rfl, mts_get (by omega), (by simp only [vcs_len]; omega), ?_⟩
                 | refine ⟨_, _, mts_get (by omega), vcs_get (by omega), ?_⟩
                 | refine ⟨_, mts_get (by omega), ?_⟩
                 | refine ⟨_, vcs_get (by omega), ?_⟩
                 | refine ArOb.fits (by simp only [vcs_len, mts_len]; omega) ?_
                 | refine And.intro (And.intro (by simp only [List.length_append, List.length_cons, List.length_nil, mts_len, vcs_len, fr_len]; omega) (by simp only [List.length_append, List.length_cons, List.length_nil, mts_len, vcs_len, fr_len]; omega)) ?_
                 | fail)
        all_goals try (conv => whnf)
        refine ArOb.wraps ?_
        generalize IntKind.i64.wrap _ = v'
        repeat' (conv => whnf
                 first
                 | refine CondOb.mk (fun _ => ?_) (fun _ => ?_)
                 | refine ArOb.fits (by omega) ?_
                 | refine LitOb.vec ?_
                 | refine MakeOb.vec ?_
                 | refine AllocOb.box ?_
                 | refine CutOb.split ?_
                 | refine Gh.mk [] ?_
                 | refine ⟨_, _, rfl, rfl, Nat.le_refl _, ⟨by (simp only; omega), by omega⟩, ?_⟩
                 | refine DrawOb.mk [] (.qs [0, 1, 2, 3, 4, 5, 6, 7] .nil) (by decide +kernel) ?_
                 | refine DrawOb.mk [] (.qs [0, 1, 2, 3, 4, 5, 6, 7, 8, 9, 10, 11, 12, 13, 14, 15] (.l 16 [] .nil .no)) (by decide +kernel) ?_
                 | refine DrawOb.mk [] (.qs [0, 1, 2, 3, 4, 5, 6, 7, 8, 9] .nil) (by decide +kernel) ?_
                 | refine DrawOb.mk [] (.qs [0, 1, 2, 3, 4, 5, 6, 7, 8, 9, 10, 11, 12, 13, 14, 15, 16, 17, 18, 19, 20, 21, 22, 23] .nil) (by decide +kernel) ?_
                 | refine DrawOb.mk [] (.qs [0, 1, 2, 3, 4, 5, 6, 7, 8, 9, 10, 11, 12, 13, 14, 15, 16, 17] (.l 18 [] (.qs [19] (.l 20 [] .nil .no)) .no)) (by decide +kernel) ?_
                 | refine DrawOb.mk [] (.qs [0, 1, 2, 3, 4, 5, 6, 7, 8, 9, 10, 11, 12, 13, 14, 15, 16, 17] (.l 18 [] (.qs [19] (.l 20 [] .nil .no)) .no)) (by decide +kernel) ?_
                 | refine ⟨_, rfl, (by simp only [mts_len, vcs_len]; omega), ?_⟩
                 | refine And.intro (by simp only [mts_len, vcs_len]; omega) ?_
                 | refine ⟨_, _, rfl, mts_get (by omega), (by simp only [vcs_len]; omega), ?_⟩
                 | refine ⟨_, _, mts_get (by omega), vcs_get (by omega), ?_⟩
                 | refine ⟨_, mts_get (by omega), ?_⟩
                 | refine ⟨_, vcs_get (by omega), ?_⟩
                 | refine ArOb.fits (by simp only [vcs_len, mts_len]; omega) ?_
                 | refine And.intro (And.intro (by simp only [List.length_append, List.length_cons, List.length_nil, mts_len, vcs_len, fr_len]; omega) (by simp only [List.length_append, List.length_cons, List.length_nil, mts_len, vcs_len, fr_len]; omega)) ?_
                 | fail)
        all_goals try (conv => whnf)
        · exact ⟨(i + 1, v', True), [0, 1, 2, 3, 4, 5], ⟨by simp only; omega, fun h => (h trivial).elim⟩, by simp only; omega, by (refine Le.mk (by kernel_rfl) ?_ ?_ <;> repeat' (first | exact True.intro | refine And.intro ?_ ?_ | exact Imp.refl _ | exact Imp.any _ | exact Imp.num (by first | omega | simp only [ints_len]) | exact rfl | exact Imp.bl (by simp)))⟩
        · exact absurd hq' (by assumption)
        · exact absurd hq' (by assumption)
      · obtain ⟨hq0, hve, hv1, hv2⟩ := hv hq'
        repeat' (conv => whnf
                 first
                 | refine CondOb.mk (fun _ => ?_) (fun _ => ?_)
                 | refine ArOb.fits (by omega) ?_
                 | refine LitOb.vec ?_
                 | refine MakeOb.vec ?_
                 | refine AllocOb.box ?_
                 | refine CutOb.split ?_
                 | refine Gh.mk [] ?_
                 | refine ⟨_, _, rfl, rfl, Nat.le_refl _, ⟨by (simp only; omega), by omega⟩, ?_⟩
                 | refine DrawOb.mk [] (.qs [0, 1, 2, 3, 4, 5, 6, 7] .nil) (by decide +kernel) ?_
                 | refine DrawOb.mk [] (.qs [0, 1, 2, 3, 4, 5, 6, 7, 8, 9, 10, 11, 12, 13, 14, 15] (.l 16 [] .nil .no)) (by decide +kernel) ?_
                 | refine DrawOb.mk [] (.qs [0, 1, 2, 3, 4, 5, 6, 7, 8, 9] .nil) (by decide +kernel) ?_
                 | refine DrawOb.mk [] (.qs [0, 1, 2, 3, 4, 5, 6, 7, 8, 9, 10, 11, 12, 13, 14, 15, 16, 17, 18, 19, 20, 21, 22, 23] .nil) (by decide +kernel) ?_
                 | refine DrawOb.mk [] (.qs [0, 1, 2, 3, 4, 5, 6, 7, 8, 9, 10, 11, 12, 13, 14, 15, 16, 17] (.l 18 [] (.qs [19] (.l 20 [] .nil .no)) .no)) (by decide +kernel) ?_
                 | refine DrawOb.mk [] (.qs [0, 1, 2, 3, 4, 5, 6, 7, 8, 9, 10, 11, 12, 13, 14, 15, 16, 17] (.l 18 [] (.qs [19] (.l 20 [] .nil .no)) .no)) (by decide +kernel) ?_
                 | refine ⟨(bs2 i).toNat, (Int.toNat_of_nonneg hbi.1).symm, (by simp only [vcs_len]; omega), ?_⟩
                 | refine ⟨_, rfl, (by simp only [mts_len, vcs_len]; omega), ?_⟩
                 | refine And.intro (by simp only [mts_len, vcs_len]; omega) ?_
                 | refine ⟨_, _, rfl, mts_get (by omega), (by simp only [vcs_len]; omega), ?_⟩
                 | refine ⟨_, _, mts_get (by omega), vcs_get (by omega), ?_⟩
                 | refine ⟨_, mts_get (by omega), ?_⟩
                 | refine ⟨_, vcs_get (by omega), ?_⟩
                 | refine ArOb.fits (by simp only [vcs_len, mts_len]; omega) ?_
                 | refine And.intro (And.intro (by simp only [List.length_append, List.length_cons, List.length_nil, mts_len, vcs_len, fr_len]; omega) (by simp only [List.length_append, List.length_cons, List.length_nil, mts_len, vcs_len, fr_len]; omega)) ?_
                 | fail)
        all_goals try (conv => whnf)
        · exact absurd (by assumption) hq'
        · exact ⟨(i + 1, v - cc p sc (bs2 i).toNat * f i k, True), [0, 1, 2, 3, 4, 5], ⟨by simp only; omega, fun h => (h trivial).elim⟩, by simp only; omega, by (refine Le.mk (by kernel_rfl) ?_ ?_ <;> repeat' (first | exact True.intro | refine And.intro ?_ ?_ | exact Imp.refl _ | exact Imp.any _ | exact Imp.num (by first | omega | simp only [ints_len]) | exact rfl | exact Imp.bl (by simp)))⟩
        · exact ⟨(i + 1, v - cc p sc (bs2 i).toNat * f i k, v - cc p sc (bs2 i).toNat * f i k ≤ -1099511627776), [0, 1, 2, 3, 4, 5], ⟨by simp only; omega, fun h => ⟨hq0, red_pos (s := (f2, bs2, d2)) hve efi, by simp only; omega, by simp only; omega⟩⟩, by simp only; omega, by (refine Le.mk (by kernel_rfl) ?_ ?_ <;> repeat' (first | exact True.intro | refine And.intro ?_ ?_ | exact Imp.refl _ | exact Imp.any _ | exact Imp.num (by first | omega | simp only [ints_len]) | exact rfl | exact Imp.bl (by simp)))⟩
    have him : i = p.r.length := by omega
    subst him
    repeat' (conv => whnf
             first
             | refine ArOb.fits (by omega) ?_
             | refine LitOb.vec ?_
             | refine MakeOb.vec ?_
             | refine AllocOb.box ?_
             | refine CutOb.split ?_
             | refine Gh.mk [] ?_
             | refine ⟨_, _, rfl, rfl, Nat.le_refl _, ⟨by (simp only; omega), by omega⟩, ?_⟩
             | refine DrawOb.mk [] (.qs [0, 1, 2, 3, 4, 5, 6, 7] .nil) (by decide +kernel) ?_
             | refine DrawOb.mk [] (.qs [0, 1, 2, 3, 4, 5, 6, 7, 8, 9, 10, 11, 12, 13, 14, 15] (.l 16 [] .nil .no)) (by decide +kernel) ?_
             | refine DrawOb.mk [] (.qs [0, 1, 2, 3, 4, 5, 6, 7, 8, 9] .nil) (by decide +kernel) ?_
             | refine DrawOb.mk [] (.qs [0, 1, 2, 3, 4, 5, 6, 7, 8, 9, 10, 11, 12, 13, 14, 15, 16, 17, 18, 19, 20, 21, 22, 23] .nil) (by decide +kernel) ?_
             | refine DrawOb.mk [] (.qs [0, 1, 2, 3, 4, 5, 6, 7, 8, 9, 10, 11, 12, 13, 14, 15, 16, 17] (.l 18 [] (.qs [19] (.l 20 [] .nil .no)) .no)) (by decide +kernel) ?_
             | refine DrawOb.mk [] (.qs [0, 1, 2, 3, 4, 5, 6, 7, 8, 9, 10, 11, 12, 13, 14, 15, 16, 17] (.l 18 [] (.qs [19] (.l 20 [] .nil .no)) .no)) (by decide +kernel) ?_
             | refine ⟨_, rfl, (by simp only [mts_len, vcs_len]; omega), ?_⟩
             | refine And.intro (by simp only [mts_len, vcs_len]; omega) ?_
             | refine ⟨_, _, rfl, mts_get (by omega), (by simp only [vcs_len]; omega), ?_⟩
             | refine ⟨_, _, mts_get (by omega), vcs_get (by omega), ?_⟩
             | refine ⟨_, mts_get (by omega), ?_⟩
             | refine ⟨_, vcs_get (by omega), ?_⟩
             | refine ArOb.fits (by simp only [vcs_len, mts_len]; omega) ?_
             | refine And.intro (And.intro (by simp only [List.length_append, List.length_cons, List.length_nil, mts_len, vcs_len, fr_len]; omega) (by simp only [List.length_append, List.length_cons, List.length_nil, mts_len, vcs_len, fr_len]; omega)) ?_
             | fail)
    all_goals try (conv => whnf)
    have hst := rdA_step (p := p) (sc := sc) (s := (f2, bs2, d2)) (v := v) hkl hrow2 hok
    rw [vcs_set, mts_set]
    have hG : up2 f p.r.length (up (f p.r.length) k v) p.r.length k = v := by simp [up2, up]
    generalize up2 f p.r.length (up (f p.r.length) k v) = G at *
    repeat' (conv => whnf
             first
             | refine CondOb.mk (fun _ => ?_) (fun _ => ?_)
             | refine ArOb.fits (by omega) ?_
             | refine LitOb.vec ?_
             | refine MakeOb.vec ?_
             | refine AllocOb.box ?_
             | refine CutOb.split ?_
             | refine Gh.mk [] ?_
             | refine ⟨_, _, rfl, rfl, Nat.le_refl _, ⟨by (simp only; omega), by omega⟩, ?_⟩
             | refine DrawOb.mk [] (.qs [0, 1, 2, 3, 4, 5, 6, 7] .nil) (by decide +kernel) ?_
             | refine DrawOb.mk [] (.qs [0, 1, 2, 3, 4, 5, 6, 7, 8, 9, 10, 11, 12, 13, 14, 15] (.l 16 [] .nil .no)) (by decide +kernel) ?_
             | refine DrawOb.mk [] (.qs [0, 1, 2, 3, 4, 5, 6, 7, 8, 9] .nil) (by decide +kernel) ?_
             | refine DrawOb.mk [] (.qs [0, 1, 2, 3, 4, 5, 6, 7, 8, 9, 10, 11, 12, 13, 14, 15, 16, 17, 18, 19, 20, 21, 22, 23] .nil) (by decide +kernel) ?_
             | refine DrawOb.mk [] (.qs [0, 1, 2, 3, 4, 5, 6, 7, 8, 9, 10, 11, 12, 13, 14, 15, 16, 17] (.l 18 [] (.qs [19] (.l 20 [] .nil .no)) .no)) (by decide +kernel) ?_
             | refine DrawOb.mk [] (.qs [0, 1, 2, 3, 4, 5, 6, 7, 8, 9, 10, 11, 12, 13, 14, 15, 16, 17] (.l 18 [] (.qs [19] (.l 20 [] .nil .no)) .no)) (by decide +kernel) ?_
             | refine ⟨_, rfl, (by simp only [mts_len, vcs_len]; omega), ?_⟩
             | refine And.intro (by simp only [mts_len, vcs_len]; omega) ?_
             | refine ⟨_, _, rfl, mts_get (by omega), (by simp only [vcs_len]; omega), ?_⟩
             | refine ⟨_, _, mts_get (by omega), vcs_get (by omega), ?_⟩
             | refine ⟨_, mts_get (by omega), ?_⟩
             | refine ⟨_, vcs_get (by omega), ?_⟩
             | refine ArOb.fits (by simp only [vcs_len, mts_len]; omega) ?_
             | refine And.intro (And.intro (by simp only [List.length_append, List.length_cons, List.length_nil, mts_len, vcs_len, fr_len]; omega) (by simp only [List.length_append, List.length_cons, List.length_nil, mts_len, vcs_len, fr_len]; omega)) ?_
             | fail)
    all_goals try (conv => whnf)
    · exact ⟨(k + 1, G, True), [0, 1, 2, 3, 4, 5], hst True (fun h => (h trivial).elim), by simp only; omega, by (refine Le.mk (by kernel_rfl) ?_ ?_ <;> repeat' (first | exact True.intro | refine And.intro ?_ ?_ | exact Imp.refl _ | exact Imp.any _ | exact Imp.num (by first | omega | simp only [ints_len]) | exact rfl | exact Imp.bl (by simp)))⟩
    · exact ⟨(k + 1, G, True), [0, 1, 2, 3, 4, 5], hst True (fun h => (h trivial).elim), by simp only; omega, by (refine Le.mk (by kernel_rfl) ?_ ?_ <;> repeat' (first | exact True.intro | refine And.intro ?_ ?_ | exact Imp.refl _ | exact Imp.any _ | exact Imp.num (by first | omega | simp only [ints_len]) | exact rfl | exact Imp.bl (by simp)))⟩
    · exact ⟨(k + 1, G, v ≤ -2147483648), [0, 1, 2, 3, 4, 5], hst _ (fun h => ⟨(hv (by assumption)).1, (hv (by assumption)).2.1, by omega, by omega⟩), by simp only; omega, by (refine Le.mk (by kernel_rfl) ?_ ?_ <;> repeat' (first | exact True.intro | refine And.intro ?_ ?_ | exact Imp.refl _ | exact Imp.any _ | exact Imp.num (by first | omega | simp only [ints_len]) | exact rfl | exact Imp.bl (by simp)))⟩
  have hkW : k = (p.c.length + 2 * p.r.length + 1) := by omega
  subst hkW
  clear hlt2 hk
  repeat' (conv => whnf
           first
           | refine ArOb.fits (by omega) ?_
           | refine LitOb.vec ?_
           | refine MakeOb.vec ?_
           | refine AllocOb.box ?_
           | refine CutOb.split ?_
           | refine Gh.mk [] ?_
           | refine ⟨_, _, rfl, rfl, Nat.le_refl _, ⟨by (simp only; omega), by omega⟩, ?_⟩
           | refine DrawOb.mk [] (.qs [0, 1, 2, 3, 4, 5, 6, 7] .nil) (by decide +kernel) ?_
           | refine DrawOb.mk [] (.qs [0, 1, 2, 3, 4, 5, 6, 7, 8, 9, 10, 11, 12, 13, 14, 15] (.l 16 [] .nil .no)) (by decide +kernel) ?_
           | refine DrawOb.mk [] (.qs [0, 1, 2, 3, 4, 5, 6, 7, 8, 9] .nil) (by decide +kernel) ?_
           | refine DrawOb.mk [] (.qs [0, 1, 2, 3, 4, 5, 6, 7, 8, 9, 10, 11, 12, 13, 14, 15, 16, 17, 18, 19, 20, 21, 22, 23] .nil) (by decide +kernel) ?_
           | refine DrawOb.mk [] (.qs [0, 1, 2, 3, 4, 5, 6, 7, 8, 9, 10, 11, 12, 13, 14, 15, 16, 17] (.l 18 [] (.qs [19] (.l 20 [] .nil .no)) .no)) (by decide +kernel) ?_
           | refine DrawOb.mk [] (.qs [0, 1, 2, 3, 4, 5, 6, 7, 8, 9, 10, 11, 12, 13, 14, 15, 16, 17] (.l 18 [] (.qs [19] (.l 20 [] .nil .no)) .no)) (by decide +kernel) ?_
           | refine ⟨_, rfl, (by simp only [mts_len, vcs_len]; omega), ?_⟩
           | refine And.intro (by simp only [mts_len, vcs_len]; omega) ?_
           | refine ⟨_, _, rfl, mts_get (by omega), (by simp only [vcs_len]; omega), ?_⟩
           | refine ⟨_, _, mts_get (by omega), vcs_get (by omega), ?_⟩
           | refine ⟨_, mts_get (by omega), ?_⟩
           | refine ⟨_, vcs_get (by omega), ?_⟩
           | refine ArOb.fits (by simp only [vcs_len, mts_len]; omega) ?_
           | refine And.intro (And.intro (by simp only [List.length_append, List.length_cons, List.length_nil, mts_len, vcs_len, fr_len]; omega) (by simp only [List.length_append, List.length_cons, List.length_nil, mts_len, vcs_len, fr_len]; omega)) ?_
           | fail)
  all_goals try (conv => whnf)
  refine CondOb.mk (fun hq3 => ?_) (fun hq3 => ?_)
  rotate_left
  · repeat' (conv => whnf
             first
             | refine ArOb.fits (by omega) ?_
             | refine LitOb.vec ?_
             | refine MakeOb.vec ?_
             | refine AllocOb.box ?_
             | refine CutOb.split ?_
             | refine Gh.mk [] ?_
             | refine ⟨_, _, rfl, rfl, Nat.le_refl _, ⟨by (simp only; omega), by omega⟩, ?_⟩
             | refine DrawOb.mk [] (.qs [0, 1, 2, 3, 4, 5, 6, 7] .nil) (by decide +kernel) ?_
             | refine DrawOb.mk [] (.qs [0, 1, 2, 3, 4, 5, 6, 7, 8, 9, 10, 11, 12, 13, 14, 15] (.l 16 [] .nil .no)) (by decide +kernel) ?_
             | refine DrawOb.mk [] (.qs [0, 1, 2, 3, 4, 5, 6, 7, 8, 9] .nil) (by decide +kernel) ?_
             | refine DrawOb.mk [] (.qs [0, 1, 2, 3, 4, 5, 6, 7, 8, 9, 10, 11, 12, 13, 14, 15, 16, 17, 18, 19, 20, 21, 22, 23] .nil) (by decide +kernel) ?_
             | refine DrawOb.mk [] (.qs [0, 1, 2, 3, 4, 5, 6, 7, 8, 9, 10, 11, 12, 13, 14, 15, 16, 17] (.l 18 [] (.qs [19] (.l 20 [] .nil .no)) .no)) (by decide +kernel) ?_
             | refine DrawOb.mk [] (.qs [0, 1, 2, 3, 4, 5, 6, 7, 8, 9, 10, 11, 12, 13, 14, 15, 16, 17] (.l 18 [] (.qs [19] (.l 20 [] .nil .no)) .no)) (by decide +kernel) ?_
             | fail)
    all_goals try (conv => whnf)
    refine CondOb.mk (fun h => ?_) (fun h => absurd h hq3)
    repeat' (conv => whnf
             first
             | (refine CondOb.mk (fun _ => ?_) (fun _ => ?_) <;> first | (exfalso; omega) | skip)
             | refine ArOb.fits (by omega) ?_
             | refine LitOb.vec ?_
             | refine MakeOb.vec ?_
             | refine AllocOb.box ?_
             | refine CutOb.split ?_
             | refine Gh.mk [] ?_
             | refine ⟨_, _, rfl, rfl, Nat.le_refl _, ⟨by (simp only; omega), by omega⟩, ?_⟩
             | refine DrawOb.mk [] (.qs [0, 1, 2, 3, 4, 5, 6, 7] .nil) (by decide +kernel) ?_
             | refine DrawOb.mk [] (.qs [0, 1, 2, 3, 4, 5, 6, 7, 8, 9, 10, 11, 12, 13, 14, 15] (.l 16 [] .nil .no)) (by decide +kernel) ?_
             | refine DrawOb.mk [] (.qs [0, 1, 2, 3, 4, 5, 6, 7, 8, 9] .nil) (by decide +kernel) ?_
             | refine DrawOb.mk [] (.qs [0, 1, 2, 3, 4, 5, 6, 7, 8, 9, 10, 11, 12, 13, 14, 15, 16, 17, 18, 19, 20, 21, 22, 23] .nil) (by decide +kernel) ?_
             | refine DrawOb.mk [] (.qs [0, 1, 2, 3, 4, 5, 6, 7, 8, 9, 10, 11, 12, 13, 14, 15, 16, 17] (.l 18 [] (.qs [19] (.l 20 [] .nil .no)) .no)) (by decide +kernel) ?_
             | refine DrawOb.mk [] (.qs [0, 1, 2, 3, 4, 5, 6, 7, 8, 9, 10, 11, 12, 13, 14, 15, 16, 17] (.l 18 [] (.qs [19] (.l 20 [] .nil .no)) .no)) (by decide +kernel) ?_
             | fail)
    all_goals try (conv => whnf)
    exact ⟨((0, [], (0, 0), [], []), 3), .inr ⟨by simp, rfl⟩, rfl, Imp.tup ⟨Imp.agg ⟨Imp.refl _, Imp.nil _, Imp.refl _, Imp.refl _, Imp.nil _, Imp.nil _, trivial⟩, Imp.refl _, trivial⟩⟩
  have hTk3 : Tok p.r.length (p.c.length + 2 * p.r.length + 1) (f, bs2, d2) := ⟨fun a ha b hb => by
    by_cases h : a = p.r.length
    · subst h; exact (hok hq3 b hb).2
    · show _ < f a b ∧ f a b < _; rw [hrow2 a (by omega) b hb]; exact hA2.bd a ha b hb, hA2.d, hA2.bs⟩
  have hcost : ∀ k < (p.c.length + 2 * p.r.length + 1), f p.r.length k = red p sc (f2, bs2, d2) p.r.length k := fun k hk => (hok hq3 k hk).1
  clear hok
  have cR := run_ok p.r.length (p.c.length + 2 * p.r.length) (p.c.length + p.r.length) (by omega) (by omega) (by omega) (f, bs2, d2) q (fun _ => hTk3)
  repeat' (conv => whnf
           first
           | refine ArOb.fits (by omega) ?_
           | refine LitOb.vec ?_
           | refine MakeOb.vec ?_
           | refine AllocOb.box ?_
           | refine CutOb.split ?_
           | refine Gh.mk [] ?_
           | refine ⟨_, _, rfl, rfl, Nat.le_refl _, ⟨by (simp only; omega), by omega⟩, ?_⟩
           | refine DrawOb.mk [] (.qs [0, 1, 2, 3, 4, 5, 6, 7] .nil) (by decide +kernel) ?_
           | refine DrawOb.mk [] (.qs [0, 1, 2, 3, 4, 5, 6, 7, 8, 9, 10, 11, 12, 13, 14, 15] (.l 16 [] .nil .no)) (by decide +kernel) ?_
           | refine DrawOb.mk [] (.qs [0, 1, 2, 3, 4, 5, 6, 7, 8, 9] .nil) (by decide +kernel) ?_
           | refine DrawOb.mk [] (.qs [0, 1, 2, 3, 4, 5, 6, 7, 8, 9, 10, 11, 12, 13, 14, 15, 16, 17, 18, 19, 20, 21, 22, 23] .nil) (by decide +kernel) ?_
           | refine DrawOb.mk [] (.qs [0, 1, 2, 3, 4, 5, 6, 7, 8, 9, 10, 11, 12, 13, 14, 15, 16, 17] (.l 18 [] (.qs [19] (.l 20 [] .nil .no)) .no)) (by decide +kernel) ?_
           | refine DrawOb.mk [] (.qs [0, 1, 2, 3, 4, 5, 6, 7, 8, 9, 10, 11, 12, 13, 14, 15, 16, 17] (.l 18 [] (.qs [19] (.l 20 [] .nil .no)) .no)) (by decide +kernel) ?_
           | refine ⟨_, rfl, (by simp only [mts_len, vcs_len]; omega), ?_⟩
           | refine And.intro (by simp only [mts_len, vcs_len]; omega) ?_
           | refine ⟨_, _, rfl, mts_get (by omega), (by simp only [vcs_len]; omega), ?_⟩
           | refine ⟨_, _, mts_get (by omega), vcs_get (by omega), ?_⟩
           | refine ⟨_, mts_get (by omega), ?_⟩
           | refine ⟨_, vcs_get (by omega), ?_⟩
           | refine ArOb.fits (by simp only [vcs_len, mts_len]; omega) ?_
           | refine And.intro (And.intro (by simp only [List.length_append, List.length_cons, List.length_nil, mts_len, vcs_len, fr_len]; omega) (by simp only [List.length_append, List.length_cons, List.length_nil, mts_len, vcs_len, fr_len]; omega)) ?_
           | fail)
  all_goals try (conv => whnf)
  refine CallOb.mk [3, 4, 2] cR rfl ⟨Imp.refl _, Imp.num (by omega), trivial⟩ rfl rfl ?_
  rintro _ _ ⟨⟨⟨f4, bs4, d4⟩, q4, z4⟩, hR4, rfl, rfl⟩
  dsimp only at hR4 ⊢
  repeat' (conv => whnf
           first
           | refine ArOb.fits (by omega) ?_
           | refine LitOb.vec ?_
           | refine MakeOb.vec ?_
           | refine AllocOb.box ?_
           | refine CutOb.split ?_
           | refine Gh.mk [] ?_
           | refine ⟨_, _, rfl, rfl, Nat.le_refl _, ⟨by (simp only; omega), by omega⟩, ?_⟩
           | refine DrawOb.mk [] (.qs [0, 1, 2, 3, 4, 5, 6, 7] .nil) (by decide +kernel) ?_
           | refine DrawOb.mk [] (.qs [0, 1, 2, 3, 4, 5, 6, 7, 8, 9, 10, 11, 12, 13, 14, 15] (.l 16 [] .nil .no)) (by decide +kernel) ?_
           | refine DrawOb.mk [] (.qs [0, 1, 2, 3, 4, 5, 6, 7, 8, 9] .nil) (by decide +kernel) ?_
           | refine DrawOb.mk [] (.qs [0, 1, 2, 3, 4, 5, 6, 7, 8, 9, 10, 11, 12, 13, 14, 15, 16, 17, 18, 19, 20, 21, 22, 23] .nil) (by decide +kernel) ?_
           | refine DrawOb.mk [] (.qs [0, 1, 2, 3, 4, 5, 6, 7, 8, 9, 10, 11, 12, 13, 14, 15, 16, 17] (.l 18 [] (.qs [19] (.l 20 [] .nil .no)) .no)) (by decide +kernel) ?_
           | refine DrawOb.mk [] (.qs [0, 1, 2, 3, 4, 5, 6, 7, 8, 9, 10, 11, 12, 13, 14, 15, 16, 17] (.l 18 [] (.qs [19] (.l 20 [] .nil .no)) .no)) (by decide +kernel) ?_
           | refine ⟨_, rfl, (by simp only [mts_len, vcs_len]; omega), ?_⟩
           | refine And.intro (by simp only [mts_len, vcs_len]; omega) ?_
           | refine ⟨_, _, rfl, mts_get (by omega), (by simp only [vcs_len]; omega), ?_⟩
           | refine ⟨_, _, mts_get (by omega), vcs_get (by omega), ?_⟩
           | refine ⟨_, mts_get (by omega), ?_⟩
           | refine ⟨_, vcs_get (by omega), ?_⟩
           | refine ArOb.fits (by simp only [vcs_len, mts_len]; omega) ?_
           | refine And.intro (And.intro (by simp only [List.length_append, List.length_cons, List.length_nil, mts_len, vcs_len, fr_len]; omega) (by simp only [List.length_append, List.length_cons, List.length_nil, mts_len, vcs_len, fr_len]; omega)) ?_
           | fail)
  all_goals try (conv => whnf)
  refine CondOb.mk (fun hq4 => ?_) (fun hq4 => ?_)
  · repeat' (conv => whnf
             first
             | (refine CondOb.mk (fun _ => ?_) (fun _ => ?_) <;> first | (exfalso; omega) | skip)
             | refine ArOb.fits (by omega) ?_
             | refine LitOb.vec ?_
             | refine MakeOb.vec ?_
             | refine AllocOb.box ?_
             | refine CutOb.split ?_
             | refine Gh.mk [] ?_
             | refine ⟨_, _, rfl, rfl, Nat.le_refl _, ⟨by (simp only; omega), by omega⟩, ?_⟩
             | refine DrawOb.mk [] (.qs [0, 1, 2, 3, 4, 5, 6, 7] .nil) (by decide +kernel) ?_
             | refine DrawOb.mk [] (.qs [0, 1, 2, 3, 4, 5, 6, 7, 8, 9, 10, 11, 12, 13, 14, 15] (.l 16 [] .nil .no)) (by decide +kernel) ?_
             | refine DrawOb.mk [] (.qs [0, 1, 2, 3, 4, 5, 6, 7, 8, 9] .nil) (by decide +kernel) ?_
             | refine DrawOb.mk [] (.qs [0, 1, 2, 3, 4, 5, 6, 7, 8, 9, 10, 11, 12, 13, 14, 15, 16, 17, 18, 19, 20, 21, 22, 23] .nil) (by decide +kernel) ?_
             | refine DrawOb.mk [] (.qs [0, 1, 2, 3, 4, 5, 6, 7, 8, 9, 10, 11, 12, 13, 14, 15, 16, 17] (.l 18 [] (.qs [19] (.l 20 [] .nil .no)) .no)) (by decide +kernel) ?_
             | refine DrawOb.mk [] (.qs [0, 1, 2, 3, 4, 5, 6, 7, 8, 9, 10, 11, 12, 13, 14, 15, 16, 17] (.l 18 [] (.qs [19] (.l 20 [] .nil .no)) .no)) (by decide +kernel) ?_
             | fail)
    all_goals try (conv => whnf)
    exact ⟨((0, [], (0, 0), [], []), 3), .inr ⟨by simp, rfl⟩, rfl, Imp.tup ⟨Imp.agg ⟨Imp.refl _, Imp.nil _, Imp.refl _, Imp.refl _, Imp.nil _, Imp.nil _, trivial⟩, Imp.refl _, trivial⟩⟩
  obtain ⟨_, hRun4, hTk4, hEnd4⟩ := hR4 hq4
  have hPh2 : Ph2 p sc (f1, bs1, d1) (f2, bs2, d2) (f, bs2, d2) (f4, bs4, d4) z4 := ⟨hobj, hA1, hAz, ⟨s1, s2⟩, hsd, hrow2, hcost, rfl, hTk3, hRun4, hTk4, hEnd4⟩
  have hTk4 : Tok p.r.length (p.c.length + 2 * p.r.length + 1) (f4, bs4, d4) := hTk4
  clear hR4 cR
  repeat' (conv => whnf
           first
           | refine ArOb.fits (by omega) ?_
           | refine LitOb.vec ?_
           | refine MakeOb.vec ?_
           | refine AllocOb.box ?_
           | refine CutOb.split ?_
           | refine ⟨_, _, rfl, rfl, Nat.le_refl _, ⟨by (simp only; omega), by omega⟩, ?_⟩
           | refine DrawOb.mk [] (.qs [0, 1, 2, 3, 4, 5, 6, 7] .nil) (by decide +kernel) ?_
           | refine DrawOb.mk [] (.qs [0, 1, 2, 3, 4, 5, 6, 7, 8, 9, 10, 11, 12, 13, 14, 15] (.l 16 [] .nil .no)) (by decide +kernel) ?_
           | refine DrawOb.mk [] (.qs [0, 1, 2, 3, 4, 5, 6, 7, 8, 9] .nil) (by decide +kernel) ?_
           | refine DrawOb.mk [] (.qs [0, 1, 2, 3, 4, 5, 6, 7, 8, 9, 10, 11, 12, 13, 14, 15, 16, 17, 18, 19, 20, 21, 22, 23] .nil) (by decide +kernel) ?_
           | refine DrawOb.mk [] (.qs [0, 1, 2, 3, 4, 5, 6, 7, 8, 9, 10, 11, 12, 13, 14, 15, 16, 17] (.l 18 [] (.qs [19] (.l 20 [] .nil .no)) .no)) (by decide +kernel) ?_
           | refine DrawOb.mk [] (.qs [0, 1, 2, 3, 4, 5, 6, 7, 8, 9, 10, 11, 12, 13, 14, 15, 16, 17] (.l 18 [] (.qs [19] (.l 20 [] .nil .no)) .no)) (by decide +kernel) ?_
           | refine ⟨_, rfl, (by simp only [mts_len, vcs_len]; omega), ?_⟩
           | refine And.intro (by simp only [mts_len, vcs_len]; omega) ?_
           | refine ⟨_, _, rfl, mts_get (by omega), (by simp only [vcs_len]; omega), ?_⟩
           | refine ⟨_, _, mts_get (by omega), vcs_get (by omega), ?_⟩
           | refine ⟨_, mts_get (by omega), ?_⟩
           | refine ⟨_, vcs_get (by omega), ?_⟩
           | refine ArOb.fits (by simp only [vcs_len, mts_len]; omega) ?_
           | refine And.intro (And.intro (by simp only [List.length_append, List.length_cons, List.length_nil, mts_len, vcs_len, fr_len]; omega) (by simp only [List.length_append, List.length_cons, List.length_nil, mts_len, vcs_len, fr_len]; omega)) ?_
           | fail)
  all_goals try (conv => whnf)
  refine DrawOb.cut [] (.qs [0, 2] (.l 1 [] (.qs [4] (.l 3 [] (.qs [5] .nil) .no)) (.l 3 [] (.l 1 [] (.qs [4, 5] .nil) .no) .no))) (Y := Unit) (st := fun _ => ⟨[(34, .vec 6), (33, .vec 5), (32, i64 z4), (24, i64 sc), (8, .psl 1 (vcs p.r.length bY)), (7, .ptr 3 0), (6, i64 (p.c.length + 2 * p.r.length + 1 : Nat)), (5, i64 p.r.length), (4, i64 p.c.length), (2, .ptr 1 0), (1, .ptr 0 0)], [.box [fsl p.c, .psl 4 (rws p.r)], .box [i64 0, .nil, i64 0, i64 0, .nil, .nil], .vec 1 (vcs p.r.length (f4, bs4, d4).2.1), .box [.vec 4, .vec 2, i64 (f4, bs4, d4).2.2, .bp (q4)], .mat 1 (mts (p.r.length + 1) (p.c.length + 2 * p.r.length + 1) (f4, bs4, d4).1), .vec 2 (fr2 (lst p.c.length (zk 0))), .vec 2 (fr2 (lst p.c.length (zk 0)))]⟩) (inv := fun _ => True) (by decide +kernel) ?_ ?_
  repeat' (conv => whnf
           first
           | refine ArOb.fits (by omega) ?_
           | refine LitOb.vec ?_
           | refine MakeOb.vec ?_
           | refine AllocOb.box ?_
           | refine CutOb.split ?_
           | refine ⟨_, _, rfl, rfl, Nat.le_refl _, ⟨by (simp only; omega), by omega⟩, ?_⟩
           | refine DrawOb.mk [] (.qs [0, 1, 2, 3, 4, 5, 6, 7] .nil) (by decide +kernel) ?_
           | refine DrawOb.mk [] (.qs [0, 1, 2, 3, 4, 5, 6, 7, 8, 9, 10, 11, 12, 13, 14, 15] (.l 16 [] .nil .no)) (by decide +kernel) ?_
           | refine DrawOb.mk [] (.qs [0, 1, 2, 3, 4, 5, 6, 7, 8, 9] .nil) (by decide +kernel) ?_
           | refine DrawOb.mk [] (.qs [0, 1, 2, 3, 4, 5, 6, 7, 8, 9, 10, 11, 12, 13, 14, 15, 16, 17, 18, 19, 20, 21, 22, 23] .nil) (by decide +kernel) ?_
           | refine DrawOb.mk [] (.qs [0, 1, 2, 3, 4, 5, 6, 7, 8, 9, 10, 11, 12, 13, 14, 15, 16, 17] (.l 18 [] (.qs [19] (.l 20 [] .nil .no)) .no)) (by decide +kernel) ?_
           | refine DrawOb.mk [] (.qs [0, 1, 2, 3, 4, 5, 6, 7, 8, 9, 10, 11, 12, 13, 14, 15, 16, 17] (.l 18 [] (.qs [19] (.l 20 [] .nil .no)) .no)) (by decide +kernel) ?_
           | refine ⟨p.c.length, p.c.length, (by omega), (by omega), (by omega), ⟨by omega, by omega⟩, ?_⟩
           | refine And.intro ?_ ?_
           | refine ⟨_, rfl, (by simp only [mts_len, vcs_len]; omega), ?_⟩
           | refine And.intro (by simp only [mts_len, vcs_len]; omega) ?_
           | refine ⟨_, _, rfl, mts_get (by omega), (by simp only [vcs_len]; omega), ?_⟩
           | refine ⟨_, _, mts_get (by omega), vcs_get (by omega), ?_⟩
           | refine ⟨_, mts_get (by omega), ?_⟩
           | refine ⟨_, vcs_get (by omega), ?_⟩
           | refine ArOb.fits (by simp only [vcs_len, mts_len]; omega) ?_
           | refine And.intro (And.intro (by simp only [List.length_append, List.length_cons, List.length_nil, mts_len, vcs_len, fr_len]; omega) (by simp only [List.length_append, List.length_cons, List.length_nil, mts_len, vcs_len, fr_len]; omega)) ?_
           | fail)
  all_goals try (conv => whnf)
  · refine .mk [] ?_
    exact ⟨(), [0, 1, 2, 3, 4, 6, 7], trivial, by dsimp only; rw [show fr2 (lst p.c.length (zk 0)) = List.replicate p.c.length [i64 0, i64 0] from (lst_repl p.c.length).symm]; (refine Le.mk (by kernel_rfl) ?_ ?_ <;> repeat' (first | exact True.intro | refine And.intro ?_ ?_ | exact Imp.refl _ | exact Imp.any _ | exact Imp.num (by first | omega | simp only [ints_len]) | exact rfl | exact Imp.bl (by simp)))⟩
  · refine .mk [] ?_
    exact ⟨(), [0, 1, 2, 3, 4, 7, 6], trivial, by dsimp only; rw [show fr2 (lst p.c.length (zk 0)) = List.replicate p.c.length [i64 0, i64 0] from (lst_repl p.c.length).symm]; (refine Le.mk (by kernel_rfl) ?_ ?_ <;> repeat' (first | exact True.intro | refine And.intro ?_ ?_ | exact Imp.refl _ | exact Imp.any _ | exact Imp.num (by first | omega | simp only [ints_len]) | exact rfl | exact Imp.bl (by simp)))⟩
  rintro ⟨⟩ _
  dsimp only
  repeat' (conv => whnf
           first
           | refine ArOb.fits (by omega) ?_
           | refine LitOb.vec ?_
           | refine MakeOb.vec ?_
           | refine AllocOb.box ?_
           | refine CutOb.split ?_
           | refine Gh.mk [] ?_
           | refine ⟨_, _, rfl, rfl, Nat.le_refl _, ⟨by (simp only; omega), by omega⟩, ?_⟩
           | refine DrawOb.mk [] (.qs [0, 1, 2, 3, 4, 5, 6, 7] .nil) (by decide +kernel) ?_
           | refine DrawOb.mk [] (.qs [0, 1, 2, 3, 4, 5, 7, 8, 9, 10, 11, 12] (.l 6 [12, 8] (.l 13 [] (.l 14 [] (.qs [15] .nil) .no) .no) (.l 13 [5, 1] (.l 6 [] (.l 14 [] (.qs [15] .nil) .no) .no) .no))) (by decide +kernel) ?_
           | refine DrawOb.mk [] (.qs [0, 1, 2, 3, 4, 5, 6, 7, 8, 9, 10, 11, 12, 13, 14, 15] (.l 16 [] .nil .no)) (by decide +kernel) ?_
           | refine DrawOb.mk [] (.qs [0, 1, 2, 3, 4, 5, 6, 7, 8, 9] .nil) (by decide +kernel) ?_
           | refine DrawOb.mk [] (.qs [0, 1, 2, 3, 4, 5, 6, 7, 8, 9, 10, 11, 12, 13, 14, 15, 16, 17, 18, 19, 20, 21, 22, 23] .nil) (by decide +kernel) ?_
           | refine DrawOb.mk [] (.qs [0, 2] (.l 1 [] (.qs [4] (.l 3 [] (.qs [5] .nil) .no)) (.l 3 [] (.l 1 [] (.qs [4, 5] .nil) .no) .no))) (by decide +kernel) ?_
           | refine DrawOb.mk [] (.qs [0, 1, 2, 3, 4, 5, 6, 7, 8, 9, 10, 11, 12, 13, 14, 15, 16, 17] (.l 18 [] (.qs [19] (.l 20 [] .nil .no)) .no)) (by decide +kernel) ?_
           | refine DrawOb.mk [] (.qs [0, 1, 2, 3, 4, 5, 6, 7, 8, 9, 10, 11, 12, 13, 14, 15, 16, 17] (.l 18 [] (.qs [19] (.l 20 [] .nil .no)) .no)) (by decide +kernel) ?_
           | refine ⟨_, rfl, (by simp only [mts_len, vcs_len]; omega), ?_⟩
           | refine And.intro (by simp only [mts_len, vcs_len]; omega) ?_
           | refine ⟨_, _, rfl, mts_get (by omega), (by simp only [vcs_len]; omega), ?_⟩
           | refine ⟨_, _, mts_get (by omega), vcs_get (by omega), ?_⟩
           | refine ⟨_, mts_get (by omega), ?_⟩
           | refine ⟨_, vcs_get (by omega), ?_⟩
           | refine ArOb.fits (by simp only [vcs_len, mts_len]; omega) ?_
           | refine And.intro (And.intro (by simp only [List.length_append, List.length_cons, List.length_nil, mts_len, vcs_len, fr_len]; omega) (by simp only [List.length_append, List.length_cons, List.length_nil, mts_len, vcs_len, fr_len]; omega)) ?_
           | refine And.intro ?_ ?_
           | fail)
  all_goals try (conv => whnf)
  rw [fr_len, lst_len]
  refine LoopOb.mk (Y := Nat) (st := fun k => ⟨[(492, i64 k), (491, i64 p.c.length), (34, .vec 6), (33, .vec 5), (32, i64 z4), (24, i64 sc), (8, .psl 1 (vcs p.r.length bY)), (7, .ptr 3 0), (6, i64 (p.c.length + 2 * p.r.length + 1 : Nat)), (5, i64 p.r.length), (4, i64 p.c.length), (2, .ptr 1 0), (1, .ptr 0 0)], [.box [fsl p.c, .psl 4 (rws p.r)], .box [i64 0, .nil, i64 0, i64 0, .nil, .nil], .vec 1 (vcs p.r.length (f4, bs4, d4).2.1), .box [.vec 4, .vec 2, i64 (f4, bs4, d4).2.2, .bp (q4)], .mat 1 (mts (p.r.length + 1) (p.c.length + 2 * p.r.length + 1) (f4, bs4, d4).1), .vec 2 (fr2 (lst p.c.length (zk k))), .vec 2 (fr2 (lst p.c.length (zk k)))]⟩)
    (inv := fun k => k ≤ p.c.length) (fun k => p.c.length - k) 0 [0, 1, 2, 3, 4, 5, 6] (by omega) (by (refine Le.mk (by kernel_rfl) ?_ ?_ <;> repeat' (first | exact True.intro | refine And.intro ?_ ?_ | exact Imp.refl _ | exact Imp.any _ | exact Imp.num (by first | omega | simp only [ints_len]) | exact rfl | exact Imp.bl (by simp)))) ?_
  intro k hk
  dsimp only
  repeat' (conv => whnf
           first
           | refine ArOb.fits (by omega) ?_
           | refine LitOb.vec ?_
           | refine MakeOb.vec ?_
           | refine AllocOb.box ?_
           | refine CutOb.split ?_
           | refine Gh.mk [] ?_
           | refine ⟨_, _, rfl, rfl, Nat.le_refl _, ⟨by (simp only; omega), by omega⟩, ?_⟩
           | refine DrawOb.mk [] (.qs [0, 1, 2, 3, 4, 5, 6, 7] .nil) (by decide +kernel) ?_
           | refine DrawOb.mk [] (.qs [0, 1, 2, 3, 4, 5, 6, 7, 8, 9, 10, 11, 12, 13, 14, 15] (.l 16 [] .nil .no)) (by decide +kernel) ?_
           | refine DrawOb.mk [] (.qs [0, 1, 2, 3, 4, 5, 6, 7, 8, 9] .nil) (by decide +kernel) ?_
           | refine DrawOb.mk [] (.qs [0, 1, 2, 3, 4, 5, 6, 7, 8, 9, 10, 11, 12, 13, 14, 15, 16, 17, 18, 19, 20, 21, 22, 23] .nil) (by decide +kernel) ?_
           | refine DrawOb.mk [] (.qs [0, 1, 2, 3, 4, 5, 6, 7, 8, 9, 10, 11, 12, 13, 14, 15, 16, 17] (.l 18 [] (.qs [19] (.l 20 [] .nil .no)) .no)) (by decide +kernel) ?_
           | refine DrawOb.mk [] (.qs [0, 1, 2, 3, 4, 5, 6, 7, 8, 9, 10, 11, 12, 13, 14, 15, 16, 17] (.l 18 [] (.qs [19] (.l 20 [] .nil .no)) .no)) (by decide +kernel) ?_
           | refine ⟨_, rfl, (by simp only [mts_len, vcs_len]; omega), ?_⟩
           | refine And.intro (by simp only [mts_len, vcs_len]; omega) ?_
           | refine ⟨_, _, rfl, mts_get (by omega), (by simp only [vcs_len]; omega), ?_⟩
           | refine ⟨_, _, mts_get (by omega), vcs_get (by omega), ?_⟩
           | refine ⟨_, mts_get (by omega), ?_⟩
           | refine ⟨_, vcs_get (by omega), ?_⟩
           | refine ArOb.fits (by simp only [vcs_len, mts_len]; omega) ?_
           | refine And.intro (And.intro (by simp only [List.length_append, List.length_cons, List.length_nil, mts_len, vcs_len, fr_len]; omega) (by simp only [List.length_append, List.length_cons, List.length_nil, mts_len, vcs_len, fr_len]; omega)) ?_
           | fail)
  all_goals try (conv => whnf)
  refine CondOb.mk (fun hlt2 => ?_) (fun hlt2 => ?_)
  · have hkl : k < p.c.length := by omega
    repeat' (conv => whnf
             first
             | refine ArOb.fits (by omega) ?_
             | refine LitOb.vec ?_
             | refine MakeOb.vec ?_
             | refine AllocOb.box ?_
             | refine CutOb.split ?_
             | refine Gh.mk [] ?_
             | refine ⟨_, _, rfl, rfl, Nat.le_refl _, ⟨by (simp only; omega), by omega⟩, ?_⟩
             | refine DrawOb.mk [] (.qs [0, 1, 2, 3, 4, 5, 6, 7] .nil) (by decide +kernel) ?_
             | refine DrawOb.mk [] (.qs [0, 1, 2, 3, 4, 5, 7, 8, 9, 10, 11, 12] (.l 6 [12, 8] (.l 13 [] (.l 14 [] (.qs [15] .nil) .no) .no) (.l 13 [5, 1] (.l 6 [] (.l 14 [] (.qs [15] .nil) .no) .no) .no))) (by decide +kernel) ?_
             | refine DrawOb.mk [] (.qs [0, 1, 2, 3, 4, 5, 6, 7, 8, 9, 10, 11, 12, 13, 14, 15] (.l 16 [] .nil .no)) (by decide +kernel) ?_
             | refine DrawOb.mk [] (.qs [0, 1, 2, 3, 4, 5, 6, 7, 8, 9] .nil) (by decide +kernel) ?_
             | refine DrawOb.mk [] (.qs [0, 1, 2, 3, 4, 5, 6, 7, 8, 9, 10, 11, 12, 13, 14, 15, 16, 17, 18, 19, 20, 21, 22, 23] .nil) (by decide +kernel) ?_
             | refine DrawOb.mk [] (.qs [0, 2] (.l 1 [] (.qs [4] (.l 3 [] (.qs [5] .nil) .no)) (.l 3 [] (.l 1 [] (.qs [4, 5] .nil) .no) .no))) (by decide +kernel) ?_
             | refine DrawOb.mk [] (.qs [0, 1, 2, 3, 4, 5, 6, 7, 8, 9, 10, 11, 12, 13, 14, 15, 16, 17] (.l 18 [] (.qs [19] (.l 20 [] .nil .no)) .no)) (by decide +kernel) ?_
             | refine DrawOb.mk [] (.qs [0, 1, 2, 3, 4, 5, 6, 7, 8, 9, 10, 11, 12, 13, 14, 15, 16, 17] (.l 18 [] (.qs [19] (.l 20 [] .nil .no)) .no)) (by decide +kernel) ?_
             | (refine CallOb.mk [] zero_ok rfl (ImpL.refl _) rfl rfl ?_; rintro _ _ ⟨rfl, rfl⟩)
             | refine ⟨_, rfl, (by simp only [fr_len, lst_len]; omega), ?_⟩
             | refine ⟨_, lst_get hkl, ?_⟩
             | refine ⟨_, rfl, (by simp only [mts_len, vcs_len]; omega), ?_⟩
             | refine And.intro (by simp only [mts_len, vcs_len]; omega) ?_
             | refine ⟨_, _, rfl, mts_get (by omega), (by simp only [vcs_len]; omega), ?_⟩
             | refine ⟨_, _, mts_get (by omega), vcs_get (by omega), ?_⟩
             | refine ⟨_, mts_get (by omega), ?_⟩
             | refine ⟨_, vcs_get (by omega), ?_⟩
             | refine ArOb.fits (by simp only [vcs_len, mts_len]; omega) ?_
             | refine And.intro (And.intro (by simp only [List.length_append, List.length_cons, List.length_nil, mts_len, vcs_len, fr_len]; omega) (by simp only [List.length_append, List.length_cons, List.length_nil, mts_len, vcs_len, fr_len]; omega)) ?_
             | refine And.intro ?_ ?_
             | fail)
    all_goals try (conv => whnf)
    have e := lst_set (n := p.c.length) (g := zk k) (k := k) (a := 0) (b := 1)
    rw [zk_step] at e
    exact ⟨k + 1, [0, 1, 2, 3, 4, 5, 6], by omega, by omega, by rw [← e]; (refine Le.mk (by kernel_rfl) ?_ ?_ <;> repeat' (first | exact True.intro | refine And.intro ?_ ?_ | exact Imp.refl _ | exact Imp.any _ | exact Imp.num (by first | omega | simp only [ints_len]) | exact rfl | exact Imp.bl (by simp)))⟩
  have hkn : k = p.c.length := by omega
  subst hkn
  clear hlt2 hk
  rw [zk_end]
  repeat' (conv => whnf
           first
           | refine ArOb.fits (by omega) ?_
           | refine LitOb.vec ?_
           | refine MakeOb.vec ?_
           | refine AllocOb.box ?_
           | refine Gh.mk [] ?_
           | refine ⟨_, _, rfl, rfl, Nat.le_refl _, ⟨by (simp only; omega), by omega⟩, ?_⟩
           | refine DrawOb.mk [] (.qs [0, 1, 2, 3, 4, 5, 6, 7] .nil) (by decide +kernel) ?_
           | refine DrawOb.mk [] (.qs [0, 1, 2, 3, 4, 5, 6, 7, 8, 9, 10, 11, 12, 13, 14, 15] (.l 16 [] .nil .no)) (by decide +kernel) ?_
           | refine DrawOb.mk [] (.qs [0, 1, 2, 3, 4, 5, 6, 7, 8, 9] .nil) (by decide +kernel) ?_
           | refine DrawOb.mk [] (.qs [0, 1, 2, 3, 4, 5, 6, 7, 8, 9, 10, 11, 12, 13, 14, 15, 16, 17, 18, 19, 20, 21, 22, 23] .nil) (by decide +kernel) ?_
           | refine DrawOb.mk [] (.qs [0, 1, 2, 3, 4, 5, 6, 7, 8, 9, 10, 11, 12, 13, 14, 15, 16, 17] (.l 18 [] (.qs [19] (.l 20 [] .nil .no)) .no)) (by decide +kernel) ?_
           | refine DrawOb.mk [] (.qs [0, 1, 2, 3, 4, 5, 6, 7, 8, 9, 10, 11, 12, 13, 14, 15, 16, 17] (.l 18 [] (.qs [19] (.l 20 [] .nil .no)) .no)) (by decide +kernel) ?_
           | refine ⟨_, rfl, (by simp only [mts_len, vcs_len]; omega), ?_⟩
           | refine And.intro (by simp only [mts_len, vcs_len]; omega) ?_
           | refine ⟨_, _, rfl, mts_get (by omega), (by simp only [vcs_len]; omega), ?_⟩
           | refine ⟨_, _, mts_get (by omega), vcs_get (by omega), ?_⟩
           | refine ⟨_, mts_get (by omega), ?_⟩
           | refine ⟨_, vcs_get (by omega), ?_⟩
           | refine ArOb.fits (by simp only [vcs_len, mts_len]; omega) ?_
           | refine And.intro (And.intro (by simp only [List.length_append, List.length_cons, List.length_nil, mts_len, vcs_len, fr_len]; omega) (by simp only [List.length_append, List.length_cons, List.length_nil, mts_len, vcs_len, fr_len]; omega)) ?_
           | fail)
  all_goals try (conv => whnf)
  refine CutOb.cut (Y := Unit) (st := fun _ => ⟨[(34, .vec 6), (33, .vec 5), (32, i64 z4), (24, i64 sc), (8, .psl 1 (vcs p.r.length bY)), (7, .ptr 3 0), (6, i64 (p.c.length + 2 * p.r.length + 1 : Nat)), (5, i64 p.r.length), (4, i64 p.c.length), (2, .ptr 1 0), (1, .ptr 0 0)], [.box [fsl p.c, .psl 4 (rws p.r)], .box [i64 0, .nil, i64 0, i64 0, .nil, .nil], .vec 1 (vcs p.r.length (f4, bs4, d4).2.1), .box [.vec 4, .vec 2, i64 (f4, bs4, d4).2.2, .bp (q4)], .mat 1 (mts (p.r.length + 1) (p.c.length + 2 * p.r.length + 1) (f4, bs4, d4).1), .vec 2 (fr2 (lst p.c.length (pt (p.c.length + 2 * p.r.length) (f4, bs4, d4) 0))), .vec 2 (fr2 (lst p.c.length (ry z4 (f4, bs4, d4) 0)))]⟩) (inv := fun _ => True) ?_ ?_
  · repeat' (conv => whnf
             first
             | refine ArOb.fits (by omega) ?_
             | refine LitOb.vec ?_
             | refine MakeOb.vec ?_
             | refine AllocOb.box ?_
             | refine CutOb.split ?_
             | refine Gh.mk [] ?_
             | refine ⟨_, _, rfl, rfl, Nat.le_refl _, ⟨by (simp only; omega), by omega⟩, ?_⟩
             | refine DrawOb.mk [] (.qs [0, 1, 2, 3, 4, 5, 6, 7] .nil) (by decide +kernel) ?_
             | refine DrawOb.mk [] (.qs [0, 1, 2, 3, 4, 5, 6, 7, 8, 9, 10, 11, 12, 13, 14, 15] (.l 16 [] .nil .no)) (by decide +kernel) ?_
             | refine DrawOb.mk [] (.qs [0, 1, 2, 3, 4, 5, 6, 7, 8, 9] .nil) (by decide +kernel) ?_
             | refine DrawOb.mk [] (.qs [0, 1, 2, 3, 4, 5, 6, 7, 8, 9, 10, 11, 12, 13, 14, 15, 16, 17, 18, 19, 20, 21, 22, 23] .nil) (by decide +kernel) ?_
             | refine DrawOb.mk [] (.qs [0, 1, 2, 3, 4, 5, 6, 7, 8, 9, 10, 11, 12, 13, 14, 15, 16, 17] (.l 18 [] (.qs [19] (.l 20 [] .nil .no)) .no)) (by decide +kernel) ?_
             | refine DrawOb.mk [] (.qs [0, 1, 2, 3, 4, 5, 6, 7, 8, 9, 10, 11, 12, 13, 14, 15, 16, 17] (.l 18 [] (.qs [19] (.l 20 [] .nil .no)) .no)) (by decide +kernel) ?_
             | refine ⟨_, rfl, (by simp only [mts_len, vcs_len]; omega), ?_⟩
             | refine And.intro (by simp only [mts_len, vcs_len]; omega) ?_
             | refine ⟨_, _, rfl, mts_get (by omega), (by simp only [vcs_len]; omega), ?_⟩
             | refine ⟨_, _, mts_get (by omega), vcs_get (by omega), ?_⟩
             | refine ⟨_, mts_get (by omega), ?_⟩
             | refine ⟨_, vcs_get (by omega), ?_⟩
             | refine ArOb.fits (by simp only [vcs_len, mts_len]; omega) ?_
             | refine And.intro (And.intro (by simp only [List.length_append, List.length_cons, List.length_nil, mts_len, vcs_len, fr_len]; omega) (by simp only [List.length_append, List.length_cons, List.length_nil, mts_len, vcs_len, fr_len]; omega)) ?_
             | fail)
    all_goals try (conv => whnf)
    refine CondOb.mk (fun hz0 => ?_) (fun hz0 => ?_)
    · repeat' (conv => whnf
               first
               | refine ArOb.fits (by omega) ?_
               | refine LitOb.vec ?_
               | refine MakeOb.vec ?_
               | refine AllocOb.box ?_
               | refine CutOb.split ?_
               | refine Gh.mk [] ?_
               | refine ⟨_, _, rfl, rfl, Nat.le_refl _, ⟨by (simp only; omega), by omega⟩, ?_⟩
               | refine DrawOb.mk [] (.qs [0, 1, 2, 3, 4, 5, 6, 7] .nil) (by decide +kernel) ?_
               | refine DrawOb.mk [] (.qs [0, 1, 2, 3, 4, 5, 6, 7, 8, 9, 10, 11, 12, 13, 14, 15] (.l 16 [] .nil .no)) (by decide +kernel) ?_
               | refine DrawOb.mk [] (.qs [0, 1, 2, 3, 4, 5, 6, 7, 8, 9] .nil) (by decide +kernel) ?_
               | refine DrawOb.mk [] (.qs [0, 1, 2, 3, 4, 5, 6, 7, 8, 9, 10, 11, 12, 13, 14, 15, 16, 17, 18, 19, 20, 21, 22, 23] .nil) (by decide +kernel) ?_
               | refine DrawOb.mk [] (.qs [0, 1, 2, 3, 4, 5, 6, 7, 8, 9, 10, 11, 12, 13, 14, 15, 16, 17] (.l 18 [] (.qs [19] (.l 20 [] .nil .no)) .no)) (by decide +kernel) ?_
               | refine DrawOb.mk [] (.qs [0, 1, 2, 3, 4, 5, 6, 7, 8, 9, 10, 11, 12, 13, 14, 15, 16, 17] (.l 18 [] (.qs [19] (.l 20 [] .nil .no)) .no)) (by decide +kernel) ?_
               | refine ⟨_, rfl, (by simp only [mts_len, vcs_len]; omega), ?_⟩
               | refine And.intro (by simp only [mts_len, vcs_len]; omega) ?_
               | refine ⟨_, _, rfl, mts_get (by omega), (by simp only [vcs_len]; omega), ?_⟩
               | refine ⟨_, _, mts_get (by omega), vcs_get (by omega), ?_⟩
               | refine ⟨_, mts_get (by omega), ?_⟩
               | refine ⟨_, vcs_get (by omega), ?_⟩
               | refine ArOb.fits (by simp only [vcs_len, mts_len]; omega) ?_
               | refine And.intro (And.intro (by simp only [List.length_append, List.length_cons, List.length_nil, mts_len, vcs_len, fr_len]; omega) (by simp only [List.length_append, List.length_cons, List.length_nil, mts_len, vcs_len, fr_len]; omega)) ?_
               | fail)
      all_goals try (conv => whnf)
      refine CondOb.mk (fun hz1 => ?_) (fun hz1 => ?_)
      · repeat' (conv => whnf
                 first
                 | refine ArOb.fits (by omega) ?_
                 | refine LitOb.vec ?_
                 | refine MakeOb.vec ?_
                 | refine AllocOb.box ?_
                 | refine CutOb.split ?_
                 | refine Gh.mk [] ?_
                 | refine ⟨_, _, rfl, rfl, Nat.le_refl _, ⟨by (simp only; omega), by omega⟩, ?_⟩
                 | refine DrawOb.mk [] (.qs [0, 1, 2, 3, 4, 5, 6, 7] .nil) (by decide +kernel) ?_
                 | refine DrawOb.mk [] (.qs [0, 1, 2, 3, 4, 5, 6, 7, 8, 9, 10, 11, 12, 13, 14, 15] (.l 16 [] .nil .no)) (by decide +kernel) ?_
                 | refine DrawOb.mk [] (.qs [0, 1, 2, 3, 4, 5, 6, 7, 8, 9] .nil) (by decide +kernel) ?_
                 | refine DrawOb.mk [] (.qs [0, 1, 2, 3, 4, 5, 6, 7, 8, 9, 10, 11, 12, 13, 14, 15, 16, 17, 18, 19, 20, 21, 22, 23] .nil) (by decide +kernel) ?_
                 | refine DrawOb.mk [] (.qs [0, 1, 2, 3, 4, 5, 6, 7, 8, 9, 10, 11, 12, 13, 14, 15, 16, 17] (.l 18 [] (.qs [19] (.l 20 [] .nil .no)) .no)) (by decide +kernel) ?_
                 | refine DrawOb.mk [] (.qs [0, 1, 2, 3, 4, 5, 6, 7, 8, 9, 10, 11, 12, 13, 14, 15, 16, 17] (.l 18 [] (.qs [19] (.l 20 [] .nil .no)) .no)) (by decide +kernel) ?_
                 | refine ⟨z4.toNat, (Int.toNat_of_nonneg hz0).symm, (by simp only [fr_len, lst_len]; omega), ?_⟩
                 | refine ⟨_, lst_get (by omega), ?_⟩
                 | refine ⟨_, rfl, (by simp only [mts_len, vcs_len]; omega), ?_⟩
                 | refine And.intro (by simp only [mts_len, vcs_len]; omega) ?_
                 | refine ⟨_, _, rfl, mts_get (by omega), (by simp only [vcs_len]; omega), ?_⟩
                 | refine ⟨_, _, mts_get (by omega), vcs_get (by omega), ?_⟩
                 | refine ⟨_, mts_get (by omega), ?_⟩
                 | refine ⟨_, vcs_get (by omega), ?_⟩
                 | refine ArOb.fits (by simp only [vcs_len, mts_len]; omega) ?_
                 | refine And.intro (And.intro (by simp only [List.length_append, List.length_cons, List.length_nil, mts_len, vcs_len, fr_len]; omega) (by simp only [List.length_append, List.length_cons, List.length_nil, mts_len, vcs_len, fr_len]; omega)) ?_
                 | fail)
        all_goals try (conv => whnf)
        exact ⟨(), [0, 1, 2, 3, 4, 5, 6], trivial, by dsimp only; rw [ry0_pos hz0, ← lst_set]; (refine Le.mk (by kernel_rfl) ?_ ?_ <;> repeat' (first | exact True.intro | refine And.intro ?_ ?_ | exact Imp.refl _ | exact Imp.any _ | exact Imp.num (by first | omega | simp only [ints_len]) | exact rfl | exact Imp.bl (by simp)))⟩
      · repeat' (conv => whnf
                 first
                 | refine ArOb.fits (by omega) ?_
                 | refine LitOb.vec ?_
                 | refine MakeOb.vec ?_
                 | refine AllocOb.box ?_
                 | refine CutOb.split ?_
                 | refine Gh.mk [] ?_
                 | refine ⟨_, _, rfl, rfl, Nat.le_refl _, ⟨by (simp only; omega), by omega⟩, ?_⟩
                 | refine DrawOb.mk [] (.qs [0, 1, 2, 3, 4, 5, 6, 7] .nil) (by decide +kernel) ?_
                 | refine DrawOb.mk [] (.qs [0, 1, 2, 3, 4, 5, 6, 7, 8, 9, 10, 11, 12, 13, 14, 15] (.l 16 [] .nil .no)) (by decide +kernel) ?_
                 | refine DrawOb.mk [] (.qs [0, 1, 2, 3, 4, 5, 6, 7, 8, 9] .nil) (by decide +kernel) ?_
                 | refine DrawOb.mk [] (.qs [0, 1, 2, 3, 4, 5, 6, 7, 8, 9, 10, 11, 12, 13, 14, 15, 16, 17, 18, 19, 20, 21, 22, 23] .nil) (by decide +kernel) ?_
                 | refine DrawOb.mk [] (.qs [0, 1, 2, 3, 4, 5, 6, 7, 8, 9, 10, 11, 12, 13, 14, 15, 16, 17] (.l 18 [] (.qs [19] (.l 20 [] .nil .no)) .no)) (by decide +kernel) ?_
                 | refine DrawOb.mk [] (.qs [0, 1, 2, 3, 4, 5, 6, 7, 8, 9, 10, 11, 12, 13, 14, 15, 16, 17] (.l 18 [] (.qs [19] (.l 20 [] .nil .no)) .no)) (by decide +kernel) ?_
                 | refine ⟨_, rfl, (by simp only [mts_len, vcs_len]; omega), ?_⟩
                 | refine And.intro (by simp only [mts_len, vcs_len]; omega) ?_
                 | refine ⟨_, _, rfl, mts_get (by omega), (by simp only [vcs_len]; omega), ?_⟩
                 | refine ⟨_, _, mts_get (by omega), vcs_get (by omega), ?_⟩
                 | refine ⟨_, mts_get (by omega), ?_⟩
                 | refine ⟨_, vcs_get (by omega), ?_⟩
                 | refine ArOb.fits (by simp only [vcs_len, mts_len]; omega) ?_
                 | refine And.intro (And.intro (by simp only [List.length_append, List.length_cons, List.length_nil, mts_len, vcs_len, fr_len]; omega) (by simp only [List.length_append, List.length_cons, List.length_nil, mts_len, vcs_len, fr_len]; omega)) ?_
                 | fail)
        all_goals try (conv => whnf)
        exact ⟨(), [0, 1, 2, 3, 4, 5, 6], trivial, by dsimp only; rw [ry0_neg (by omega)]; (refine Le.mk (by kernel_rfl) ?_ ?_ <;> repeat' (first | exact True.intro | refine And.intro ?_ ?_ | exact Imp.refl _ | exact Imp.any _ | exact Imp.num (by first | omega | simp only [ints_len]) | exact rfl | exact Imp.bl (by simp)))⟩
    · repeat' (conv => whnf
               first
               | refine ArOb.fits (by omega) ?_
               | refine LitOb.vec ?_
               | refine MakeOb.vec ?_
               | refine AllocOb.box ?_
               | refine CutOb.split ?_
               | refine Gh.mk [] ?_
               | refine ⟨_, _, rfl, rfl, Nat.le_refl _, ⟨by (simp only; omega), by omega⟩, ?_⟩
               | refine DrawOb.mk [] (.qs [0, 1, 2, 3, 4, 5, 6, 7] .nil) (by decide +kernel) ?_
               | refine DrawOb.mk [] (.qs [0, 1, 2, 3, 4, 5, 6, 7, 8, 9, 10, 11, 12, 13, 14, 15] (.l 16 [] .nil .no)) (by decide +kernel) ?_
               | refine DrawOb.mk [] (.qs [0, 1, 2, 3, 4, 5, 6, 7, 8, 9] .nil) (by decide +kernel) ?_
               | refine DrawOb.mk [] (.qs [0, 1, 2, 3, 4, 5, 6, 7, 8, 9, 10, 11, 12, 13, 14, 15, 16, 17, 18, 19, 20, 21, 22, 23] .nil) (by decide +kernel) ?_
               | refine DrawOb.mk [] (.qs [0, 1, 2, 3, 4, 5, 6, 7, 8, 9, 10, 11, 12, 13, 14, 15, 16, 17] (.l 18 [] (.qs [19] (.l 20 [] .nil .no)) .no)) (by decide +kernel) ?_
               | refine DrawOb.mk [] (.qs [0, 1, 2, 3, 4, 5, 6, 7, 8, 9, 10, 11, 12, 13, 14, 15, 16, 17] (.l 18 [] (.qs [19] (.l 20 [] .nil .no)) .no)) (by decide +kernel) ?_
               | refine ⟨_, rfl, (by simp only [mts_len, vcs_len]; omega), ?_⟩
               | refine And.intro (by simp only [mts_len, vcs_len]; omega) ?_
               | refine ⟨_, _, rfl, mts_get (by omega), (by simp only [vcs_len]; omega), ?_⟩
               | refine ⟨_, _, mts_get (by omega), vcs_get (by omega), ?_⟩
               | refine ⟨_, mts_get (by omega), ?_⟩
               | refine ⟨_, vcs_get (by omega), ?_⟩
               | refine ArOb.fits (by simp only [vcs_len, mts_len]; omega) ?_
               | refine And.intro (And.intro (by simp only [List.length_append, List.length_cons, List.length_nil, mts_len, vcs_len, fr_len]; omega) (by simp only [List.length_append, List.length_cons, List.length_nil, mts_len, vcs_len, fr_len]; omega)) ?_
               | fail)
      all_goals try (conv => whnf)
      exact ⟨(), [0, 1, 2, 3, 4, 5, 6], trivial, by dsimp only; rw [ry0_neg (by omega)]; (refine Le.mk (by kernel_rfl) ?_ ?_ <;> repeat' (first | exact True.intro | refine And.intro ?_ ?_ | exact Imp.refl _ | exact Imp.any _ | exact Imp.num (by first | omega | simp only [ints_len]) | exact rfl | exact Imp.bl (by simp)))⟩
  rintro ⟨⟩ _
  dsimp only
  have hzb : 0 ≤ z4 → z4.toNat < nC p := fun h => by
    rcases hEnd4 with ⟨e, _⟩ | ⟨c, e, hc, _⟩
    · omega
    · rw [e]; simpa using hc
  unfold nC at hzb
  repeat' (conv => whnf
           first
           | refine ArOb.fits (by omega) ?_
           | refine LitOb.vec ?_
           | refine MakeOb.vec ?_
           | refine AllocOb.box ?_
           | refine CutOb.split ?_
           | refine Gh.mk [] ?_
           | refine ⟨_, _, rfl, rfl, Nat.le_refl _, ⟨by (simp only; omega), by omega⟩, ?_⟩
           | refine DrawOb.mk [] (.qs [0, 1, 2, 3, 4, 5, 6, 7] .nil) (by decide +kernel) ?_
           | refine DrawOb.mk [] (.qs [0, 1, 2, 3, 4, 5, 6, 7, 8, 9, 10, 11, 12, 13, 14, 15] (.l 16 [] .nil .no)) (by decide +kernel) ?_
           | refine DrawOb.mk [] (.qs [0, 1, 2, 3, 4, 5, 6, 7, 8, 9] .nil) (by decide +kernel) ?_
           | refine DrawOb.mk [] (.qs [0, 1, 2, 3, 4, 5, 6, 7, 8, 9, 10, 11, 12, 13, 14, 15, 16, 17, 18, 19, 20, 21, 22, 23] .nil) (by decide +kernel) ?_
           | refine DrawOb.mk [] (.qs [0, 1, 2, 3, 4, 5, 6, 7, 8, 9, 10, 11, 12, 13, 14, 15, 16, 17] (.l 18 [] (.qs [19] (.l 20 [] .nil .no)) .no)) (by decide +kernel) ?_
           | refine DrawOb.mk [] (.qs [0, 1, 2, 3, 4, 5, 6, 7, 8, 9, 10, 11, 12, 13, 14, 15, 16, 17] (.l 18 [] (.qs [19] (.l 20 [] .nil .no)) .no)) (by decide +kernel) ?_
           | refine ⟨_, rfl, (by simp only [mts_len, vcs_len]; omega), ?_⟩
           | refine And.intro (by simp only [mts_len, vcs_len]; omega) ?_
           | refine ⟨_, _, rfl, mts_get (by omega), (by simp only [vcs_len]; omega), ?_⟩
           | refine ⟨_, _, mts_get (by omega), vcs_get (by omega), ?_⟩
           | refine ⟨_, mts_get (by omega), ?_⟩
           | refine ⟨_, vcs_get (by omega), ?_⟩
           | refine ArOb.fits (by simp only [vcs_len, mts_len]; omega) ?_
           | refine And.intro (And.intro (by simp only [List.length_append, List.length_cons, List.length_nil, mts_len, vcs_len, fr_len]; omega) (by simp only [List.length_append, List.length_cons, List.length_nil, mts_len, vcs_len, fr_len]; omega)) ?_
           | fail)
  all_goals try (conv => whnf)
  refine LoopOb.mk (Y := Nat × Prop) (st := fun y => ⟨[(36, i64 y.1), (34, .vec 6), (33, .vec 5), (32, i64 z4), (24, i64 sc), (8, .psl 1 (vcs p.r.length bY)), (7, .ptr 3 0), (6, i64 (p.c.length + 2 * p.r.length + 1 : Nat)), (5, i64 p.r.length), (4, i64 p.c.length), (2, .ptr 1 0), (1, .ptr 0 0)], [.box [fsl p.c, .psl 4 (rws p.r)], .box [i64 0, .nil, i64 0, i64 0, .nil, .nil], .vec 1 (vcs p.r.length (f4, bs4, d4).2.1), .box [.vec 4, .vec 2, i64 (f4, bs4, d4).2.2, .bp (y.2)], .mat 1 (mts (p.r.length + 1) (p.c.length + 2 * p.r.length + 1) (f4, bs4, d4).1), .vec 2 (fr2 (lst p.c.length (pt (p.c.length + 2 * p.r.length) (f4, bs4, d4) y.1))), .vec 2 (fr2 (lst p.c.length (ry z4 (f4, bs4, d4) y.1)))]⟩)
    (inv := PtA p z4 (f4, bs4, d4)) (fun y => p.r.length - y.1) (0, q4) [0, 1, 2, 3, 4, 5, 6] ⟨by simp, fun _ a h => absurd h (by simp), fun _ _ a h => absurd h (by simp)⟩ (by (refine Le.mk (by kernel_rfl) ?_ ?_ <;> repeat' (first | exact True.intro | refine And.intro ?_ ?_ | exact Imp.refl _ | exact Imp.any _ | exact Imp.num (by first | omega | simp only [ints_len]) | exact rfl | exact Imp.bl (by simp)))) ?_
  rintro ⟨i, q⟩ ⟨hi, hx, hr⟩
  dsimp only [nE] at hi hx hr ⊢
  repeat' (conv => whnf
           first
           | refine ArOb.fits (by omega) ?_
           | refine LitOb.vec ?_
           | refine MakeOb.vec ?_
           | refine AllocOb.box ?_
           | refine CutOb.split ?_
           | refine Gh.mk [] ?_
           | refine ⟨_, _, rfl, rfl, Nat.le_refl _, ⟨by (simp only; omega), by omega⟩, ?_⟩
           | refine DrawOb.mk [] (.qs [0, 1, 2, 3, 4, 5, 6, 7] .nil) (by decide +kernel) ?_
           | refine DrawOb.mk [] (.qs [0, 1, 2, 3, 4, 5, 6, 7, 8, 9, 10, 11, 12, 13, 14, 15] (.l 16 [] .nil .no)) (by decide +kernel) ?_
           | refine DrawOb.mk [] (.qs [0, 1, 2, 3, 4, 5, 6, 7, 8, 9] .nil) (by decide +kernel) ?_
           | refine DrawOb.mk [] (.qs [0, 1, 2, 3, 4, 5, 6, 7, 8, 9, 10, 11, 12, 13, 14, 15, 16, 17, 18, 19, 20, 21, 22, 23] .nil) (by decide +kernel) ?_
           | refine DrawOb.mk [] (.qs [0, 1, 2, 3, 4, 5, 6, 7, 8, 9, 10, 11, 12, 13, 14, 15, 16, 17] (.l 18 [] (.qs [19] (.l 20 [] .nil .no)) .no)) (by decide +kernel) ?_
           | refine DrawOb.mk [] (.qs [0, 1, 2, 3, 4, 5, 6, 7, 8, 9, 10, 11, 12, 13, 14, 15, 16, 17] (.l 18 [] (.qs [19] (.l 20 [] .nil .no)) .no)) (by decide +kernel) ?_
           | refine ⟨_, rfl, (by simp only [mts_len, vcs_len]; omega), ?_⟩
           | refine And.intro (by simp only [mts_len, vcs_len]; omega) ?_
           | refine ⟨_, _, rfl, mts_get (by omega), (by simp only [vcs_len]; omega), ?_⟩
           | refine ⟨_, _, mts_get (by omega), vcs_get (by omega), ?_⟩
           | refine ⟨_, mts_get (by omega), ?_⟩
           | refine ⟨_, vcs_get (by omega), ?_⟩
           | refine ArOb.fits (by simp only [vcs_len, mts_len]; omega) ?_
           | refine And.intro (And.intro (by simp only [List.length_append, List.length_cons, List.length_nil, mts_len, vcs_len, fr_len]; omega) (by simp only [List.length_append, List.length_cons, List.length_nil, mts_len, vcs_len, fr_len]; omega)) ?_
           | fail)
  all_goals try (conv => whnf)
  refine CondOb.mk (fun hlt2 => ?_) (fun hlt2 => ?_)
  · have hil : i < p.r.length := by omega
    have hbi := hTk4.bs i hil
    dsimp only at hbi
    repeat' (conv => whnf
             first
             | refine ArOb.fits (by omega) ?_
             | refine LitOb.vec ?_
             | refine MakeOb.vec ?_
             | refine AllocOb.box ?_
             | refine CutOb.split ?_
             | refine Gh.mk [] ?_
             | refine ⟨_, _, rfl, rfl, Nat.le_refl _, ⟨by (simp only; omega), by omega⟩, ?_⟩
             | refine DrawOb.mk [] (.qs [0, 1, 2, 3, 4, 5, 6, 7] .nil) (by decide +kernel) ?_
             | refine DrawOb.mk [] (.qs [0, 1, 2, 3, 4, 5, 6, 7, 8, 9, 10, 11, 12, 13, 14, 15] (.l 16 [] .nil .no)) (by decide +kernel) ?_
             | refine DrawOb.mk [] (.qs [0, 1, 2, 3, 4, 5, 6, 7, 8, 9] .nil) (by decide +kernel) ?_
             | refine DrawOb.mk [] (.qs [0, 1, 2, 3, 4, 5, 6, 7, 8, 9, 10, 11, 12, 13, 14, 15, 16, 17, 18, 19, 20, 21, 22, 23] .nil) (by decide +kernel) ?_
             | refine DrawOb.mk [] (.qs [0, 1, 2, 3, 4, 5, 6, 7, 8, 9, 10, 11, 12, 13, 14, 15, 16, 17] (.l 18 [] (.qs [19] (.l 20 [] .nil .no)) .no)) (by decide +kernel) ?_
             | refine DrawOb.mk [] (.qs [0, 1, 2, 3, 4, 5, 6, 7, 8, 9, 10, 11, 12, 13, 14, 15, 16, 17] (.l 18 [] (.qs [19] (.l 20 [] .nil .no)) .no)) (by decide +kernel) ?_
             | refine ⟨_, rfl, (by simp only [mts_len, vcs_len]; omega), ?_⟩
             | refine And.intro (by simp only [mts_len, vcs_len]; omega) ?_
             | refine ⟨_, _, rfl, mts_get (by omega), (by simp only [vcs_len]; omega), ?_⟩
             | refine ⟨_, _, mts_get (by omega), vcs_get (by omega), ?_⟩
             | refine ⟨_, mts_get (by omega), ?_⟩
             | refine ⟨_, vcs_get (by omega), ?_⟩
             | refine ArOb.fits (by simp only [vcs_len, mts_len]; omega) ?_
             | refine And.intro (And.intro (by simp only [List.length_append, List.length_cons, List.length_nil, mts_len, vcs_len, fr_len]; omega) (by simp only [List.length_append, List.length_cons, List.length_nil, mts_len, vcs_len, fr_len]; omega)) ?_
             | fail)
    all_goals try (conv => whnf)
    refine CondOb.mk (fun hbn => ?_) (fun hbn => ?_)
    · obtain ⟨b, hb⟩ := Int.eq_ofNat_of_zero_le hbi.1
      have hbl : b < p.c.length := by omega
      have cF := fun q => fraction_ok (p.r.length + 1) p.r.length (p.c.length + 2 * p.r.length + 1) f4 bs4 d4 q (f4 i (p.c.length + 2 * p.r.length)) d4 (by have := hTk4.bd i (by omega) (p.c.length + 2 * p.r.length) (by omega); dsimp only at this; omega) (by have := hTk4.d; dsimp only at this; omega)
      repeat' (conv => whnf
               first
               | refine ArOb.fits (by omega) ?_
               | refine LitOb.vec ?_
               | refine MakeOb.vec ?_
               | refine AllocOb.box ?_
               | refine CutOb.split ?_
               | refine Gh.mk [] ?_
               | refine ⟨_, _, rfl, rfl, Nat.le_refl _, ⟨by (simp only; omega), by omega⟩, ?_⟩
               | refine DrawOb.mk [] (.qs [0, 1, 2, 3, 4, 5, 6, 7] .nil) (by decide +kernel) ?_
               | refine DrawOb.mk [] (.qs [0, 1, 2, 3, 4, 5, 7, 8, 9, 10, 11, 12] (.l 6 [12, 8] (.l 13 [] (.l 14 [] (.qs [15] .nil) .no) .no) (.l 13 [5, 1] (.l 6 [] (.l 14 [] (.qs [15] .nil) .no) .no) .no))) (by decide +kernel) ?_
               | refine DrawOb.mk [] (.qs [0, 1, 2, 3, 4, 5, 6, 7, 8, 9, 10, 11, 12, 13, 14, 15] (.l 16 [] .nil .no)) (by decide +kernel) ?_
               | refine DrawOb.mk [] (.qs [0, 1, 2, 3, 4, 5, 6, 7, 8, 9] .nil) (by decide +kernel) ?_
               | refine DrawOb.mk [] (.qs [0, 1, 2, 3, 4, 5, 6, 7, 8, 9, 10, 11, 12, 13, 14, 15, 16, 17, 18, 19, 20, 21, 22, 23] .nil) (by decide +kernel) ?_
               | refine DrawOb.mk [] (.qs [0, 2] (.l 1 [] (.qs [4] (.l 3 [] (.qs [5] .nil) .no)) (.l 3 [] (.l 1 [] (.qs [4, 5] .nil) .no) .no))) (by decide +kernel) ?_
               | refine DrawOb.mk [] (.qs [0, 1, 2, 3, 4, 5, 6, 7, 8, 9, 10, 11, 12, 13, 14, 15, 16, 17] (.l 18 [] (.qs [19] (.l 20 [] .nil .no)) .no)) (by decide +kernel) ?_
               | refine DrawOb.mk [] (.qs [0, 1, 2, 3, 4, 5, 6, 7, 8, 9, 10, 11, 12, 13, 14, 15, 16, 17] (.l 18 [] (.qs [19] (.l 20 [] .nil .no)) .no)) (by decide +kernel) ?_
               | refine ⟨p.c.length + 2 * p.r.length, _, (by omega), mts_get (by omega), (by simp only [vcs_len]; omega), ?_⟩
               | refine ⟨b, hb, (by simp only [fr_len, lst_len]; omega), ?_⟩
               | refine ⟨_, lst_get (by omega), ?_⟩
               | refine ⟨_, rfl, (by simp only [mts_len, vcs_len]; omega), ?_⟩
               | refine And.intro (by simp only [mts_len, vcs_len]; omega) ?_
               | refine ⟨_, _, rfl, mts_get (by omega), (by simp only [vcs_len]; omega), ?_⟩
               | refine ⟨_, _, mts_get (by omega), vcs_get (by omega), ?_⟩
               | refine ⟨_, mts_get (by omega), ?_⟩
               | refine ⟨_, vcs_get (by omega), ?_⟩
               | refine ArOb.fits (by simp only [vcs_len, mts_len]; omega) ?_
               | refine And.intro (And.intro (by simp only [List.length_append, List.length_cons, List.length_nil, mts_len, vcs_len, fr_len]; omega) (by simp only [List.length_append, List.length_cons, List.length_nil, mts_len, vcs_len, fr_len]; omega)) ?_
               | refine And.intro ?_ ?_
               | fail)
      all_goals try (conv => whnf)
      refine CallOb.mk [3, 4, 2] (cF q) rfl (ImpL.refl _) rfl rfl ?_
      rintro _ _ ⟨q5, hq5, rfl, rfl⟩
      have hset : (fr2 (lst p.c.length (pt (p.c.length + 2 * p.r.length) (f4, bs4, d4) i))).set b [i64 (fnew (f4 i (p.c.length + 2 * p.r.length)) d4).1, i64 (fnew (f4 i (p.c.length + 2 * p.r.length)) d4).2.1] = fr2 (lst p.c.length (pt (p.c.length + 2 * p.r.length) (f4, bs4, d4) (i + 1))) := by
        rw [lst_set]; exact congrArg fr2 (pt_hit (s := (f4, bs4, d4)) hb)
      repeat' (conv => whnf
               first
               | refine ArOb.fits (by omega) ?_
               | refine LitOb.vec ?_
               | refine MakeOb.vec ?_
               | refine AllocOb.box ?_
               | refine CutOb.split ?_
               | refine Gh.mk [] ?_
               | refine ⟨_, _, rfl, rfl, Nat.le_refl _, ⟨by (simp only; omega), by omega⟩, ?_⟩
               | refine DrawOb.mk [] (.qs [0, 1, 2, 3, 4, 5, 6, 7] .nil) (by decide +kernel) ?_
               | refine DrawOb.mk [] (.qs [0, 1, 2, 3, 4, 5, 7, 8, 9, 10, 11, 12] (.l 6 [12, 8] (.l 13 [] (.l 14 [] (.qs [15] .nil) .no) .no) (.l 13 [5, 1] (.l 6 [] (.l 14 [] (.qs [15] .nil) .no) .no) .no))) (by decide +kernel) ?_
               | refine DrawOb.mk [] (.qs [0, 1, 2, 3, 4, 5, 6, 7, 8, 9, 10, 11, 12, 13, 14, 15] (.l 16 [] .nil .no)) (by decide +kernel) ?_
               | refine DrawOb.mk [] (.qs [0, 1, 2, 3, 4, 5, 6, 7, 8, 9] .nil) (by decide +kernel) ?_
               | refine DrawOb.mk [] (.qs [0, 1, 2, 3, 4, 5, 6, 7, 8, 9, 10, 11, 12, 13, 14, 15, 16, 17, 18, 19, 20, 21, 22, 23] .nil) (by decide +kernel) ?_
               | refine DrawOb.mk [] (.qs [0, 2] (.l 1 [] (.qs [4] (.l 3 [] (.qs [5] .nil) .no)) (.l 3 [] (.l 1 [] (.qs [4, 5] .nil) .no) .no))) (by decide +kernel) ?_
               | refine DrawOb.mk [] (.qs [0, 1, 2, 3, 4, 5, 6, 7, 8, 9, 10, 11, 12, 13, 14, 15, 16, 17] (.l 18 [] (.qs [19] (.l 20 [] .nil .no)) .no)) (by decide +kernel) ?_
               | refine DrawOb.mk [] (.qs [0, 1, 2, 3, 4, 5, 6, 7, 8, 9, 10, 11, 12, 13, 14, 15, 16, 17] (.l 18 [] (.qs [19] (.l 20 [] .nil .no)) .no)) (by decide +kernel) ?_
               | refine ⟨b, hb, (by simp only [fr_len, lst_len]; omega), ?_⟩
               | refine ⟨_, lst_get (by omega), ?_⟩
               | refine ⟨_, rfl, (by simp only [mts_len, vcs_len]; omega), ?_⟩
               | refine And.intro (by simp only [mts_len, vcs_len]; omega) ?_
               | refine ⟨_, _, rfl, mts_get (by omega), (by simp only [vcs_len]; omega), ?_⟩
               | refine ⟨_, _, mts_get (by omega), vcs_get (by omega), ?_⟩
               | refine ⟨_, mts_get (by omega), ?_⟩
               | refine ⟨_, vcs_get (by omega), ?_⟩
               | refine ArOb.fits (by simp only [vcs_len, mts_len]; omega) ?_
               | refine And.intro (And.intro (by simp only [List.length_append, List.length_cons, List.length_nil, mts_len, vcs_len, fr_len]; omega) (by simp only [List.length_append, List.length_cons, List.length_nil, mts_len, vcs_len, fr_len]; omega)) ?_
               | refine And.intro ?_ ?_
               | fail)
      all_goals try (conv => whnf)
      refine CondOb.mk (fun hz0 => ?_) (fun hz0 => ?_)
      · have hzl := hzb hz0
        have hgz := hTk4.bd i (by omega) z4.toNat (by omega)
        dsimp only at hgz
        have cG := fun q => fraction_ok (p.r.length + 1) p.r.length (p.c.length + 2 * p.r.length + 1) f4 bs4 d4 q (0 - f4 i z4.toNat) d4 (by omega) (by have := hTk4.d; dsimp only at this; omega)
        have hset2 : (fr2 (lst p.c.length (ry z4 (f4, bs4, d4) i))).set b [i64 (fnew (0 - f4 i z4.toNat) d4).1, i64 (fnew (0 - f4 i z4.toNat) d4).2.1] = fr2 (lst p.c.length (ry z4 (f4, bs4, d4) (i + 1))) := by
          rw [lst_set]; exact congrArg fr2 (ry_hit (s := (f4, bs4, d4)) hz0 hb)
        rw [hset]
        repeat' (conv => whnf
                 first
                 | refine ArOb.fits (by omega) ?_
                 | refine LitOb.vec ?_
                 | refine MakeOb.vec ?_
                 | refine AllocOb.box ?_
                 | refine CutOb.split ?_
                 | refine Gh.mk [] ?_
                 | refine ⟨_, _, rfl, rfl, Nat.le_refl _, ⟨by (simp only; omega), by omega⟩, ?_⟩
                 | refine DrawOb.mk [] (.qs [0, 1, 2, 3, 4, 5, 6, 7] .nil) (by decide +kernel) ?_
                 | refine DrawOb.mk [] (.qs [0, 1, 2, 3, 4, 5, 7, 8, 9, 10, 11, 12] (.l 6 [12, 8] (.l 13 [] (.l 14 [] (.qs [15] .nil) .no) .no) (.l 13 [5, 1] (.l 6 [] (.l 14 [] (.qs [15] .nil) .no) .no) .no))) (by decide +kernel) ?_
                 | refine DrawOb.mk [] (.qs [0, 1, 2, 3, 4, 5, 6, 7, 8, 9, 10, 11, 12, 13, 14, 15] (.l 16 [] .nil .no)) (by decide +kernel) ?_
                 | refine DrawOb.mk [] (.qs [0, 1, 2, 3, 4, 5, 6, 7, 8, 9] .nil) (by decide +kernel) ?_
                 | refine DrawOb.mk [] (.qs [0, 1, 2, 3, 4, 5, 6, 7, 8, 9, 10, 11, 12, 13, 14, 15, 16, 17, 18, 19, 20, 21, 22, 23] .nil) (by decide +kernel) ?_
                 | refine DrawOb.mk [] (.qs [0, 2] (.l 1 [] (.qs [4] (.l 3 [] (.qs [5] .nil) .no)) (.l 3 [] (.l 1 [] (.qs [4, 5] .nil) .no) .no))) (by decide +kernel) ?_
                 | refine DrawOb.mk [] (.qs [0, 1, 2, 3, 4, 5, 6, 7, 8, 9, 10, 11, 12, 13, 14, 15, 16, 17] (.l 18 [] (.qs [19] (.l 20 [] .nil .no)) .no)) (by decide +kernel) ?_
                 | refine DrawOb.mk [] (.qs [0, 1, 2, 3, 4, 5, 6, 7, 8, 9, 10, 11, 12, 13, 14, 15, 16, 17] (.l 18 [] (.qs [19] (.l 20 [] .nil .no)) .no)) (by decide +kernel) ?_
                 | refine ⟨z4.toNat, _, (Int.toNat_of_nonneg hz0).symm, mts_get (by omega), (by simp only [vcs_len]; omega), ?_⟩
                 | refine ⟨b, hb, (by simp only [fr_len, lst_len]; omega), ?_⟩
                 | refine ⟨_, rfl, (by simp only [mts_len, vcs_len]; omega), ?_⟩
                 | refine And.intro (by simp only [mts_len, vcs_len]; omega) ?_
                 | refine ⟨_, _, rfl, mts_get (by omega), (by simp only [vcs_len]; omega), ?_⟩
                 | refine ⟨_, _, mts_get (by omega), vcs_get (by omega), ?_⟩
                 | refine ⟨_, mts_get (by omega), ?_⟩
                 | refine ⟨_, vcs_get (by omega), ?_⟩
                 | refine ArOb.fits (by simp only [vcs_len, mts_len]; omega) ?_
                 | refine And.intro (And.intro (by simp only [List.length_append, List.length_cons, List.length_nil, mts_len, vcs_len, fr_len]; omega) (by simp only [List.length_append, List.length_cons, List.length_nil, mts_len, vcs_len, fr_len]; omega)) ?_
                 | refine And.intro ?_ ?_
                 | fail)
        all_goals try (conv => whnf)
        refine CallOb.mk [3, 4, 2] (cG q5) rfl (ImpL.refl _) rfl rfl ?_
        rintro _ _ ⟨q6, hq6, rfl, rfl⟩
        repeat' (conv => whnf
                 first
                 | refine ArOb.fits (by omega) ?_
                 | refine LitOb.vec ?_
                 | refine MakeOb.vec ?_
                 | refine AllocOb.box ?_
                 | refine CutOb.split ?_
                 | refine Gh.mk [] ?_
                 | refine ⟨_, _, rfl, rfl, Nat.le_refl _, ⟨by (simp only; omega), by omega⟩, ?_⟩
                 | refine DrawOb.mk [] (.qs [0, 1, 2, 3, 4, 5, 6, 7] .nil) (by decide +kernel) ?_
                 | refine DrawOb.mk [] (.qs [0, 1, 2, 3, 4, 5, 7, 8, 9, 10, 11, 12] (.l 6 [12, 8] (.l 13 [] (.l 14 [] (.qs [15] .nil) .no) .no) (.l 13 [5, 1] (.l 6 [] (.l 14 [] (.qs [15] .nil) .no) .no) .no))) (by decide +kernel) ?_
                 | refine DrawOb.mk [] (.qs [0, 1, 2, 3, 4, 5, 6, 7, 8, 9, 10, 11, 12, 13, 14, 15] (.l 16 [] .nil .no)) (by decide +kernel) ?_
                 | refine DrawOb.mk [] (.qs [0, 1, 2, 3, 4, 5, 6, 7, 8, 9] .nil) (by decide +kernel) ?_
                 | refine DrawOb.mk [] (.qs [0, 1, 2, 3, 4, 5, 6, 7, 8, 9, 10, 11, 12, 13, 14, 15, 16, 17, 18, 19, 20, 21, 22, 23] .nil) (by decide +kernel) ?_
                 | refine DrawOb.mk [] (.qs [0, 2] (.l 1 [] (.qs [4] (.l 3 [] (.qs [5] .nil) .no)) (.l 3 [] (.l 1 [] (.qs [4, 5] .nil) .no) .no))) (by decide +kernel) ?_
                 | refine DrawOb.mk [] (.qs [0, 1, 2, 3, 4, 5, 6, 7, 8, 9, 10, 11, 12, 13, 14, 15, 16, 17] (.l 18 [] (.qs [19] (.l 20 [] .nil .no)) .no)) (by decide +kernel) ?_
                 | refine DrawOb.mk [] (.qs [0, 1, 2, 3, 4, 5, 6, 7, 8, 9, 10, 11, 12, 13, 14, 15, 16, 17] (.l 18 [] (.qs [19] (.l 20 [] .nil .no)) .no)) (by decide +kernel) ?_
                 | refine ⟨b, hb, (by simp only [fr_len, lst_len]; omega), ?_⟩
                 | refine ⟨_, lst_get (by omega), ?_⟩
                 | refine ⟨_, rfl, (by simp only [mts_len, vcs_len]; omega), ?_⟩
                 | refine And.intro (by simp only [mts_len, vcs_len]; omega) ?_
                 | refine ⟨_, _, rfl, mts_get (by omega), (by simp only [vcs_len]; omega), ?_⟩
                 | refine ⟨_, _, mts_get (by omega), vcs_get (by omega), ?_⟩
                 | refine ⟨_, mts_get (by omega), ?_⟩
                 | refine ⟨_, vcs_get (by omega), ?_⟩
                 | refine ArOb.fits (by simp only [vcs_len, mts_len]; omega) ?_
                 | refine And.intro (And.intro (by simp only [List.length_append, List.length_cons, List.length_nil, mts_len, vcs_len, fr_len]; omega) (by simp only [List.length_append, List.length_cons, List.length_nil, mts_len, vcs_len, fr_len]; omega)) ?_
                 | refine And.intro ?_ ?_
                 | fail)
        all_goals try (conv => whnf)
        exact ⟨(i + 1, q6), [0, 1, 2, 3, 4, 5, 6], ⟨by simp only; omega, fun h => fx_step (P := fun a => (fnew (f4 a (p.c.length + 2 * p.r.length)) d4).2.2 = 0) (hx (hq5 (hq6 h).1).1) (hq5 (hq6 h).1).2, fun h _ => fx_step (P := fun a => (fnew (0 - f4 a z4.toNat) d4).2.2 = 0) (hr (hq5 (hq6 h).1).1 hz0) (hq6 h).2⟩, by simp only; omega, by dsimp only; rw [← hset2]; (refine Le.mk (by kernel_rfl) ?_ ?_ <;> repeat' (first | exact True.intro | refine And.intro ?_ ?_ | exact Imp.refl _ | exact Imp.any _ | exact Imp.num (by first | omega | simp only [ints_len]) | exact rfl | exact Imp.bl (by simp)))⟩
      · repeat' (conv => whnf
                 first
                 | refine ArOb.fits (by omega) ?_
                 | refine LitOb.vec ?_
                 | refine MakeOb.vec ?_
                 | refine AllocOb.box ?_
                 | refine CutOb.split ?_
                 | refine Gh.mk [] ?_
                 | refine ⟨_, _, rfl, rfl, Nat.le_refl _, ⟨by (simp only; omega), by omega⟩, ?_⟩
                 | refine DrawOb.mk [] (.qs [0, 1, 2, 3, 4, 5, 6, 7] .nil) (by decide +kernel) ?_
                 | refine DrawOb.mk [] (.qs [0, 1, 2, 3, 4, 5, 7, 8, 9, 10, 11, 12] (.l 6 [12, 8] (.l 13 [] (.l 14 [] (.qs [15] .nil) .no) .no) (.l 13 [5, 1] (.l 6 [] (.l 14 [] (.qs [15] .nil) .no) .no) .no))) (by decide +kernel) ?_
                 | refine DrawOb.mk [] (.qs [0, 1, 2, 3, 4, 5, 6, 7, 8, 9, 10, 11, 12, 13, 14, 15] (.l 16 [] .nil .no)) (by decide +kernel) ?_
                 | refine DrawOb.mk [] (.qs [0, 1, 2, 3, 4, 5, 6, 7, 8, 9] .nil) (by decide +kernel) ?_
                 | refine DrawOb.mk [] (.qs [0, 1, 2, 3, 4, 5, 6, 7, 8, 9, 10, 11, 12, 13, 14, 15, 16, 17, 18, 19, 20, 21, 22, 23] .nil) (by decide +kernel) ?_
                 | refine DrawOb.mk [] (.qs [0, 2] (.l 1 [] (.qs [4] (.l 3 [] (.qs [5] .nil) .no)) (.l 3 [] (.l 1 [] (.qs [4, 5] .nil) .no) .no))) (by decide +kernel) ?_
                 | refine DrawOb.mk [] (.qs [0, 1, 2, 3, 4, 5, 6, 7, 8, 9, 10, 11, 12, 13, 14, 15, 16, 17] (.l 18 [] (.qs [19] (.l 20 [] .nil .no)) .no)) (by decide +kernel) ?_
                 | refine DrawOb.mk [] (.qs [0, 1, 2, 3, 4, 5, 6, 7, 8, 9, 10, 11, 12, 13, 14, 15, 16, 17] (.l 18 [] (.qs [19] (.l 20 [] .nil .no)) .no)) (by decide +kernel) ?_
                 | refine ⟨b, hb, (by simp only [fr_len, lst_len]; omega), ?_⟩
                 | refine ⟨_, lst_get (by omega), ?_⟩
                 | refine ⟨_, rfl, (by simp only [mts_len, vcs_len]; omega), ?_⟩
                 | refine And.intro (by simp only [mts_len, vcs_len]; omega) ?_
                 | refine ⟨_, _, rfl, mts_get (by omega), (by simp only [vcs_len]; omega), ?_⟩
                 | refine ⟨_, _, mts_get (by omega), vcs_get (by omega), ?_⟩
                 | refine ⟨_, mts_get (by omega), ?_⟩
                 | refine ⟨_, vcs_get (by omega), ?_⟩
                 | refine ArOb.fits (by simp only [vcs_len, mts_len]; omega) ?_
                 | refine And.intro (And.intro (by simp only [List.length_append, List.length_cons, List.length_nil, mts_len, vcs_len, fr_len]; omega) (by simp only [List.length_append, List.length_cons, List.length_nil, mts_len, vcs_len, fr_len]; omega)) ?_
                 | refine And.intro ?_ ?_
                 | fail)
        all_goals try (conv => whnf)
        exact ⟨(i + 1, q5), [0, 1, 2, 3, 4, 5, 6], ⟨by simp only; omega, fun h => fx_step (P := fun a => (fnew (f4 a (p.c.length + 2 * p.r.length)) d4).2.2 = 0) (hx (hq5 h).1) (hq5 h).2, fun _ h => absurd h hz0⟩, by simp only; omega, by dsimp only; rw [← hset, ← ry_miss (s := (f4, bs4, d4)) (fun h => hz0 h.1)]; (refine Le.mk (by kernel_rfl) ?_ ?_ <;> repeat' (first | exact True.intro | refine And.intro ?_ ?_ | exact Imp.refl _ | exact Imp.any _ | exact Imp.num (by first | omega | simp only [ints_len]) | exact rfl | exact Imp.bl (by simp)))⟩
    · repeat' (conv => whnf
               first
               | refine ArOb.fits (by omega) ?_
               | refine LitOb.vec ?_
               | refine MakeOb.vec ?_
               | refine AllocOb.box ?_
               | refine CutOb.split ?_
               | refine Gh.mk [] ?_
               | refine ⟨_, _, rfl, rfl, Nat.le_refl _, ⟨by (simp only; omega), by omega⟩, ?_⟩
               | refine DrawOb.mk [] (.qs [0, 1, 2, 3, 4, 5, 6, 7] .nil) (by decide +kernel) ?_
               | refine DrawOb.mk [] (.qs [0, 1, 2, 3, 4, 5, 6, 7, 8, 9, 10, 11, 12, 13, 14, 15] (.l 16 [] .nil .no)) (by decide +kernel) ?_
               | refine DrawOb.mk [] (.qs [0, 1, 2, 3, 4, 5, 6, 7, 8, 9] .nil) (by decide +kernel) ?_
               | refine DrawOb.mk [] (.qs [0, 1, 2, 3, 4, 5, 6, 7, 8, 9, 10, 11, 12, 13, 14, 15, 16, 17, 18, 19, 20, 21, 22, 23] .nil) (by decide +kernel) ?_
               | refine DrawOb.mk [] (.qs [0, 1, 2, 3, 4, 5, 6, 7, 8, 9, 10, 11, 12, 13, 14, 15, 16, 17] (.l 18 [] (.qs [19] (.l 20 [] .nil .no)) .no)) (by decide +kernel) ?_
               | refine DrawOb.mk [] (.qs [0, 1, 2, 3, 4, 5, 6, 7, 8, 9, 10, 11, 12, 13, 14, 15, 16, 17] (.l 18 [] (.qs [19] (.l 20 [] .nil .no)) .no)) (by decide +kernel) ?_
               | refine ⟨_, rfl, (by simp only [mts_len, vcs_len]; omega), ?_⟩
               | refine And.intro (by simp only [mts_len, vcs_len]; omega) ?_
               | refine ⟨_, _, rfl, mts_get (by omega), (by simp only [vcs_len]; omega), ?_⟩
               | refine ⟨_, _, mts_get (by omega), vcs_get (by omega), ?_⟩
               | refine ⟨_, mts_get (by omega), ?_⟩
               | refine ⟨_, vcs_get (by omega), ?_⟩
               | refine ArOb.fits (by simp only [vcs_len, mts_len]; omega) ?_
               | refine And.intro (And.intro (by simp only [List.length_append, List.length_cons, List.length_nil, mts_len, vcs_len, fr_len]; omega) (by simp only [List.length_append, List.length_cons, List.length_nil, mts_len, vcs_len, fr_len]; omega)) ?_
               | fail)
      all_goals try (conv => whnf)
      exact ⟨(i + 1, q), [0, 1, 2, 3, 4, 5, 6], ⟨by simp only; omega, fun h a ha hb => by
        by_cases e : a = i
        · subst e; exact absurd hb hbn
        · exact hx h a (by simp only at ha; omega) hb, fun h hz a ha hb => by
        by_cases e : a = i
        · subst e; exact absurd hb hbn
        · exact hr h hz a (by simp only at ha; omega) hb⟩, by simp only; omega, by dsimp only; rw [← pt_miss (s := (f4, bs4, d4)) hbn, ← ry_miss (s := (f4, bs4, d4)) (fun h => hbn h.2)]; (refine Le.mk (by kernel_rfl) ?_ ?_ <;> repeat' (first | exact True.intro | refine And.intro ?_ ?_ | exact Imp.refl _ | exact Imp.any _ | exact Imp.num (by first | omega | simp only [ints_len]) | exact rfl | exact Imp.bl (by simp)))⟩
  have him : i = p.r.length := by omega
  subst him
  clear hlt2 hi
  have hXl := lst_len p.c.length (pt (p.c.length + 2 * p.r.length) (f4, bs4, d4) p.r.length)
  have hRl := lst_len p.c.length (ry z4 (f4, bs4, d4) p.r.length)
  have cFe := rFeasible_ok p hp (lst p.c.length (pt (p.c.length + 2 * p.r.length) (f4, bs4, d4) p.r.length)) (by omega)
  have cRo := rows_ok p hvp (lst p.c.length (ry z4 (f4, bs4, d4) p.r.length))
  have cPr := rProduct_ok p.c (lst p.c.length (pt (p.c.length + 2 * p.r.length) (f4, bs4, d4) p.r.length)) (by omega)
  have cDu := fun q => duals_ok p.r.length p.c.length (p.c.length + 2 * p.r.length + 1) (by omega) (by omega) (by omega) (f4, bs4, d4) hTk4 bY hby 0 sc (by omega) (by omega) q
  have cPs := fun Y (h : Y.length = p.r.length) => products_ok p hvp Y (by omega)
  have hUnb : ¬q → ∀ c : Nat, z4 = c → Feas p (lst p.c.length (pt (p.c.length + 2 * p.r.length) (f4, bs4, d4) p.r.length)) → ((∀ w ∈ p.r, (prod w.1 (lst p.c.length (ry z4 (f4, bs4, d4) p.r.length))).2.2 = 0) ∧ (prod p.c (lst p.c.length (ry z4 (f4, bs4, d4) p.r.length))).2.2 = 0) → SolP p (2, lst p.c.length (pt (p.c.length + 2 * p.r.length) (f4, bs4, d4) p.r.length), (0, 1), [], lst p.c.length (ry z4 (f4, bs4, d4) p.r.length)) := by
    intro h c hc hf hro
    subst hc
    exact .unb hPh1 hPh2 (hx h) (by have := hr h (by omega); simpa using this) hf hro
  have hOpt : ¬q → z4 < 0 → Feas p (lst p.c.length (pt (p.c.length + 2 * p.r.length) (f4, bs4, d4) p.r.length)) → ∀ Y : List F, Y.length = p.r.length → (∀ i < p.r.length, DualAt p.r.length p.c.length f4 d4 bY 0 sc i (Y.getD i (0, 1))) → ((prod (bds p) Y).2.2 = 0 ∧ ∀ j < p.c.length, (prod (col p j) Y).2.2 = 0) →
      (prod p.c (lst p.c.length (pt (p.c.length + 2 * p.r.length) (f4, bs4, d4) p.r.length))).2.2 = 0 → SolP p (1, lst p.c.length (pt (p.c.length + 2 * p.r.length) (f4, bs4, d4) p.r.length), ((prod p.c (lst p.c.length (pt (p.c.length + 2 * p.r.length) (f4, bs4, d4) p.r.length))).1, (prod p.c (lst p.c.length (pt (p.c.length + 2 * p.r.length) (f4, bs4, d4) p.r.length))).2.1), Y, []) :=
    fun h hz hf Y hl hY hp hv => .opt hPh1 hPh2 hz (hx h) hf hl hY hp hv
  generalize lst p.c.length (pt (p.c.length + 2 * p.r.length) (f4, bs4, d4) p.r.length) = X at *
  generalize lst p.c.length (ry z4 (f4, bs4, d4) p.r.length) = RR at *
  generalize prod p.c X = V at *
  repeat' (conv => whnf
           first
           | refine ArOb.fits (by omega) ?_
           | refine LitOb.vec ?_
           | refine MakeOb.vec ?_
           | refine AllocOb.box ?_
           | refine CutOb.split ?_
           | refine ⟨_, _, rfl, rfl, Nat.le_refl _, ⟨by (simp only; omega), by omega⟩, ?_⟩
           | refine DrawOb.mk [] (.qs [0, 1, 2, 3, 4, 5, 6, 7] .nil) (by decide +kernel) ?_
           | refine DrawOb.mk [] (.qs [0, 1, 2, 3, 4, 5, 6, 7, 8, 9, 10, 11, 12, 13, 14, 15] (.l 16 [] .nil .no)) (by decide +kernel) ?_
           | refine DrawOb.mk [] (.qs [0, 1, 2, 3, 4, 5, 6, 7, 8, 9] .nil) (by decide +kernel) ?_
           | refine DrawOb.mk [] (.qs [0, 1, 2, 3, 4, 5, 6, 7, 8, 9, 10, 11, 12, 13, 14, 15, 16, 17, 18, 19, 20, 21, 22, 23] .nil) (by decide +kernel) ?_
           | refine DrawOb.mk [] (.qs [0, 1, 2, 3, 4, 5, 6, 7, 8, 9, 10, 11, 12, 13, 14, 15, 16, 17] (.l 18 [] (.qs [19] (.l 20 [] .nil .no)) .no)) (by decide +kernel) ?_
           | refine DrawOb.mk [] (.qs [0, 1, 2, 3, 4, 5, 6, 7, 8, 9, 10, 11, 12, 13, 14, 15, 16, 17] (.l 18 [] (.qs [19] (.l 20 [] .nil .no)) .no)) (by decide +kernel) ?_
           | refine ⟨_, rfl, (by simp only [mts_len, vcs_len]; omega), ?_⟩
           | refine And.intro (by simp only [mts_len, vcs_len]; omega) ?_
           | refine ⟨_, _, rfl, mts_get (by omega), (by simp only [vcs_len]; omega), ?_⟩
           | refine ⟨_, _, mts_get (by omega), vcs_get (by omega), ?_⟩
           | refine ⟨_, mts_get (by omega), ?_⟩
           | refine ⟨_, vcs_get (by omega), ?_⟩
           | refine ArOb.fits (by simp only [vcs_len, mts_len]; omega) ?_
           | refine And.intro (And.intro (by simp only [List.length_append, List.length_cons, List.length_nil, mts_len, vcs_len, fr_len]; omega) (by simp only [List.length_append, List.length_cons, List.length_nil, mts_len, vcs_len, fr_len]; omega)) ?_
           | fail)
  all_goals try (conv => whnf)
  refine CondOb.mk (fun hz0 => ?_) (fun hz0 => ?_)
  · repeat' (conv => whnf
             first
             | refine ArOb.fits (by omega) ?_
             | refine LitOb.vec ?_
             | refine MakeOb.vec ?_
             | refine AllocOb.box ?_
             | refine CutOb.split ?_
             | refine ⟨_, _, rfl, rfl, Nat.le_refl _, ⟨by (simp only; omega), by omega⟩, ?_⟩
             | refine DrawOb.mk [] (.qs [0, 1, 2, 3, 4, 5, 6, 7] .nil) (by decide +kernel) ?_
             | refine DrawOb.mk [] (.qs [0, 1, 2, 3, 4, 5, 6, 7, 8, 9, 10, 11, 12, 13, 14, 15] (.l 16 [] .nil .no)) (by decide +kernel) ?_
             | refine DrawOb.mk [] (.qs [0, 1, 2, 3, 4, 5, 6, 7, 8, 9] .nil) (by decide +kernel) ?_
             | refine DrawOb.mk [] (.qs [0, 1, 2, 3, 4, 5, 6, 7, 8, 9, 10, 11, 12, 13, 14, 15, 16, 17, 18, 19, 20, 21, 22, 23] .nil) (by decide +kernel) ?_
             | refine DrawOb.mk [] (.qs [0, 1, 2, 3, 4, 5, 6, 7, 8, 9, 10, 11, 12, 13, 14, 15, 16, 17] (.l 18 [] (.qs [19] (.l 20 [] .nil .no)) .no)) (by decide +kernel) ?_
             | refine DrawOb.mk [] (.qs [0, 1, 2, 3, 4, 5, 6, 7, 8, 9, 10, 11, 12, 13, 14, 15, 16, 17] (.l 18 [] (.qs [19] (.l 20 [] .nil .no)) .no)) (by decide +kernel) ?_
             | refine ⟨_, rfl, (by simp only [mts_len, vcs_len]; omega), ?_⟩
             | refine And.intro (by simp only [mts_len, vcs_len]; omega) ?_
             | refine ⟨_, _, rfl, mts_get (by omega), (by simp only [vcs_len]; omega), ?_⟩
             | refine ⟨_, _, mts_get (by omega), vcs_get (by omega), ?_⟩
             | refine ⟨_, mts_get (by omega), ?_⟩
             | refine ⟨_, vcs_get (by omega), ?_⟩
             | refine ArOb.fits (by simp only [vcs_len, mts_len]; omega) ?_
             | refine And.intro (And.intro (by simp only [List.length_append, List.length_cons, List.length_nil, mts_len, vcs_len, fr_len]; omega) (by simp only [List.length_append, List.length_cons, List.length_nil, mts_len, vcs_len, fr_len]; omega)) ?_
             | fail)
    all_goals try (conv => whnf)
    refine CondOb.mk (fun hq => ?_) (fun hq => ?_)
    · repeat' (conv => whnf
               first
               | refine CondOb.mk (fun _ => ?_) (fun _ => ?_)
               | refine ArOb.fits (by omega) ?_
               | refine LitOb.vec ?_
               | refine MakeOb.vec ?_
               | refine AllocOb.box ?_
               | refine CutOb.split ?_
               | refine Gh.mk [] ?_
               | refine ⟨_, _, rfl, rfl, Nat.le_refl _, ⟨by (simp only; omega), by omega⟩, ?_⟩
               | refine DrawOb.mk [] (.qs [0, 1, 2, 3, 4, 5, 6, 7] .nil) (by decide +kernel) ?_
               | refine DrawOb.mk [] (.qs [0, 1, 2, 3, 4, 5, 6, 7, 8, 9, 10, 11, 12, 13, 14, 15] (.l 16 [] .nil .no)) (by decide +kernel) ?_
               | refine DrawOb.mk [] (.qs [0, 1, 2, 3, 4, 5, 6, 7, 8, 9] .nil) (by decide +kernel) ?_
               | refine DrawOb.mk [] (.qs [0, 1, 2, 3, 4, 5, 6, 7, 8, 9, 10, 11, 12, 13, 14, 15, 16, 17, 18, 19, 20, 21, 22, 23] .nil) (by decide +kernel) ?_
               | refine DrawOb.mk [] (.qs [0, 1, 2, 3, 4, 5, 6, 7, 8, 9, 10, 11, 12, 13, 14, 15, 16, 17] (.l 18 [] (.qs [19] (.l 20 [] .nil .no)) .no)) (by decide +kernel) ?_
               | refine DrawOb.mk [] (.qs [0, 1, 2, 3, 4, 5, 6, 7, 8, 9, 10, 11, 12, 13, 14, 15, 16, 17] (.l 18 [] (.qs [19] (.l 20 [] .nil .no)) .no)) (by decide +kernel) ?_
               | fail)
      all_goals try (conv => whnf)
      exact ⟨((0, [], (0, 0), [], []), 3), .inr ⟨by simp, rfl⟩, rfl, Imp.tup ⟨Imp.agg ⟨Imp.refl _, Imp.nil _, Imp.refl _, Imp.refl _, Imp.nil _, Imp.nil _, trivial⟩, Imp.refl _, trivial⟩⟩
    repeat' (conv => whnf
             first
             | refine ArOb.fits (by omega) ?_
             | refine LitOb.vec ?_
             | refine MakeOb.vec ?_
             | refine AllocOb.box ?_
             | refine CutOb.split ?_
             | refine ⟨_, _, rfl, rfl, Nat.le_refl _, ⟨by (simp only; omega), by omega⟩, ?_⟩
             | refine DrawOb.mk [] (.qs [0, 1, 2, 3, 4, 5, 6, 7] .nil) (by decide +kernel) ?_
             | refine DrawOb.mk [] (.qs [0, 1, 2, 3, 4, 5, 6, 7, 8, 9, 10, 11, 12, 13, 14, 15] (.l 16 [] .nil .no)) (by decide +kernel) ?_
             | refine DrawOb.mk [] (.qs [0, 1, 2, 3, 4, 5, 6, 7, 8, 9] .nil) (by decide +kernel) ?_
             | refine DrawOb.mk [] (.qs [0, 1, 2, 3, 4, 5, 6, 7, 8, 9, 10, 11, 12, 13, 14, 15, 16, 17, 18, 19, 20, 21, 22, 23] .nil) (by decide +kernel) ?_
             | refine DrawOb.mk [] (.qs [0, 1, 2, 3, 4, 5, 6, 7, 8, 9, 10, 11, 12, 13, 14, 15, 16, 17] (.l 18 [] (.qs [19] (.l 20 [] .nil .no)) .no)) (by decide +kernel) ?_
             | refine DrawOb.mk [] (.qs [0, 1, 2, 3, 4, 5, 6, 7, 8, 9, 10, 11, 12, 13, 14, 15, 16, 17] (.l 18 [] (.qs [19] (.l 20 [] .nil .no)) .no)) (by decide +kernel) ?_
             | refine ⟨_, rfl, (by simp only [mts_len, vcs_len]; omega), ?_⟩
             | refine And.intro (by simp only [mts_len, vcs_len]; omega) ?_
             | refine ⟨_, _, rfl, mts_get (by omega), (by simp only [vcs_len]; omega), ?_⟩
             | refine ⟨_, _, mts_get (by omega), vcs_get (by omega), ?_⟩
             | refine ⟨_, mts_get (by omega), ?_⟩
             | refine ⟨_, vcs_get (by omega), ?_⟩
             | refine ArOb.fits (by simp only [vcs_len, mts_len]; omega) ?_
             | refine And.intro (And.intro (by simp only [List.length_append, List.length_cons, List.length_nil, mts_len, vcs_len, fr_len]; omega) (by simp only [List.length_append, List.length_cons, List.length_nil, mts_len, vcs_len, fr_len]; omega)) ?_
             | fail)
    all_goals try (conv => whnf)
    refine .mk [.fz 5, .fz 6] ?_
    repeat' (conv => whnf
             first
             | refine CondOb.mk (fun _ => ?_) (fun _ => ?_)
             | refine ArOb.fits (by omega) ?_
             | refine LitOb.vec ?_
             | refine MakeOb.vec ?_
             | refine AllocOb.box ?_
             | refine CutOb.split ?_
             | refine Gh.mk [] ?_
             | refine ⟨_, _, rfl, rfl, Nat.le_refl _, ⟨by (simp only; omega), by omega⟩, ?_⟩
             | refine DrawOb.mk [] (.qs [0, 1, 2, 3, 4, 5, 6, 7] .nil) (by decide +kernel) ?_
             | refine DrawOb.mk [] (.qs [0, 1, 2, 3, 4, 5, 6, 7, 8, 9, 10, 11, 12, 13, 14, 15] (.l 16 [] .nil .no)) (by decide +kernel) ?_
             | refine DrawOb.mk [] (.qs [0, 1, 2, 3, 4, 5, 6, 7, 8, 9] .nil) (by decide +kernel) ?_
             | refine DrawOb.mk [] (.qs [0, 1, 2, 3, 4, 5, 6, 7, 8, 9, 10, 11, 12, 13, 14, 15, 16, 17, 18, 19, 20, 21, 22, 23] .nil) (by decide +kernel) ?_
             | refine DrawOb.mk [] (.qs [0, 1, 2, 3, 4, 5, 6, 7, 8, 9, 10, 11, 12, 13, 14, 15, 16, 17] (.l 18 [] (.qs [19] (.l 20 [] .nil .no)) .no)) (by decide +kernel) ?_
             | refine DrawOb.mk [] (.qs [0, 1, 2, 3, 4, 5, 6, 7, 8, 9, 10, 11, 12, 13, 14, 15, 16, 17] (.l 18 [] (.qs [19] (.l 20 [] .nil .no)) .no)) (by decide +kernel) ?_
             | (refine CallOb.mk [] cFe rfl (ImpL.refl _) rfl rfl ?_; rintro _ _ ⟨rfl, rfl⟩)
             | (refine CallOb.mk [] cRo rfl (ImpL.refl _) rfl rfl ?_; rintro _ _ ⟨rfl, rfl⟩)
             | (refine CallOb.mk [] zero_ok rfl (ImpL.refl _) rfl rfl ?_; rintro _ _ ⟨rfl, rfl⟩)
             | refine ⟨_, rfl, (by simp only [mts_len, vcs_len]; omega), ?_⟩
             | refine And.intro (by simp only [mts_len, vcs_len]; omega) ?_
             | refine ⟨_, _, rfl, mts_get (by omega), (by simp only [vcs_len]; omega), ?_⟩
             | refine ⟨_, _, mts_get (by omega), vcs_get (by omega), ?_⟩
             | refine ⟨_, mts_get (by omega), ?_⟩
             | refine ⟨_, vcs_get (by omega), ?_⟩
             | refine ArOb.fits (by simp only [vcs_len, mts_len]; omega) ?_
             | refine And.intro (And.intro (by simp only [List.length_append, List.length_cons, List.length_nil, mts_len, vcs_len, fr_len]; omega) (by simp only [List.length_append, List.length_cons, List.length_nil, mts_len, vcs_len, fr_len]; omega)) ?_
             | fail)
    all_goals try (conv => whnf)
    · exact ⟨((0, [], (0, 0), [], []), 3), .inr ⟨by simp, rfl⟩, rfl, Imp.tup ⟨Imp.agg ⟨Imp.refl _, Imp.nil _, Imp.refl _, Imp.refl _, Imp.nil _, Imp.nil _, trivial⟩, Imp.refl _, trivial⟩⟩
    · exact ⟨((0, [], (0, 0), [], []), 3), .inr ⟨by simp, rfl⟩, rfl, Imp.tup ⟨Imp.agg ⟨Imp.refl _, Imp.nil _, Imp.refl _, Imp.refl _, Imp.nil _, Imp.nil _, trivial⟩, Imp.refl _, trivial⟩⟩
    · exact ⟨((2, X, (0, 1), [], RR), 0), .inl ⟨rfl, hUnb hq z4.toNat (Int.toNat_of_nonneg hz0).symm (Classical.not_not.1 (by assumption)) (Classical.not_not.1 (by assumption))⟩, rfl, Imp.tup ⟨Imp.agg ⟨Imp.refl _, Imp.refl _, Imp.refl _, Imp.refl _, Imp.nil _, Imp.refl _, trivial⟩, Imp.refl _, trivial⟩⟩
  · repeat' (conv => whnf
             first
             | refine ArOb.fits (by omega) ?_
             | refine LitOb.vec ?_
             | refine MakeOb.vec ?_
             | refine AllocOb.box ?_
             | refine CutOb.split ?_
             | refine ⟨_, _, rfl, rfl, Nat.le_refl _, ⟨by (simp only; omega), by omega⟩, ?_⟩
             | refine DrawOb.mk [] (.qs [0, 1, 2, 3, 4, 5, 6, 7] .nil) (by decide +kernel) ?_
             | refine DrawOb.mk [] (.qs [0, 1, 2, 3, 4, 5, 6, 7, 8, 9, 10, 11, 12, 13, 14, 15] (.l 16 [] .nil .no)) (by decide +kernel) ?_
             | refine DrawOb.mk [] (.qs [0, 1, 2, 3, 4, 5, 6, 7, 8, 9] .nil) (by decide +kernel) ?_
             | refine DrawOb.mk [] (.qs [0, 1, 2, 3, 4, 5, 6, 7, 8, 9, 10, 11, 12, 13, 14, 15, 16, 17, 18, 19, 20, 21, 22, 23] .nil) (by decide +kernel) ?_
             | refine DrawOb.mk [] (.qs [0, 1, 2, 3, 4, 5, 6, 7, 8, 9, 10, 11, 12, 13, 14, 15, 16, 17] (.l 18 [] (.qs [19] (.l 20 [] .nil .no)) .no)) (by decide +kernel) ?_
             | refine DrawOb.mk [] (.qs [0, 1, 2, 3, 4, 5, 6, 7, 8, 9, 10, 11, 12, 13, 14, 15, 16, 17] (.l 18 [] (.qs [19] (.l 20 [] .nil .no)) .no)) (by decide +kernel) ?_
             | refine ⟨_, rfl, (by simp only [mts_len, vcs_len]; omega), ?_⟩
             | refine And.intro (by simp only [mts_len, vcs_len]; omega) ?_
             | refine ⟨_, _, rfl, mts_get (by omega), (by simp only [vcs_len]; omega), ?_⟩
             | refine ⟨_, _, mts_get (by omega), vcs_get (by omega), ?_⟩
             | refine ⟨_, mts_get (by omega), ?_⟩
             | refine ⟨_, vcs_get (by omega), ?_⟩
             | refine ArOb.fits (by simp only [vcs_len, mts_len]; omega) ?_
             | refine And.intro (And.intro (by simp only [List.length_append, List.length_cons, List.length_nil, mts_len, vcs_len, fr_len]; omega) (by simp only [List.length_append, List.length_cons, List.length_nil, mts_len, vcs_len, fr_len]; omega)) ?_
             | fail)
    all_goals try (conv => whnf)
    refine .mk [.fz 5, .fz 6] ?_
    repeat' (conv => whnf
             first
             | refine ArOb.fits (by omega) ?_
             | refine LitOb.vec ?_
             | refine MakeOb.vec ?_
             | refine AllocOb.box ?_
             | refine CutOb.split ?_
             | refine Gh.mk [] ?_
             | refine ⟨_, _, rfl, rfl, Nat.le_refl _, ⟨by (simp only; omega), by omega⟩, ?_⟩
             | refine DrawOb.mk [] (.qs [0, 1, 2, 3, 4, 5, 6, 7] .nil) (by decide +kernel) ?_
             | refine DrawOb.mk [] (.qs [0, 1, 2, 3, 4, 5, 6, 7, 8, 9, 10, 11, 12, 13, 14, 15] (.l 16 [] .nil .no)) (by decide +kernel) ?_
             | refine DrawOb.mk [] (.qs [0, 1, 2, 3, 4, 5, 6, 7, 8, 9] .nil) (by decide +kernel) ?_
             | refine DrawOb.mk [] (.qs [0, 1, 2, 3, 4, 5, 6, 7, 8, 9, 10, 11, 12, 13, 14, 15, 16, 17, 18, 19, 20, 21, 22, 23] .nil) (by decide +kernel) ?_
             | refine DrawOb.mk [] (.qs [0, 1, 2, 3, 4, 5, 6, 7, 8, 9, 10, 11, 12, 13, 14, 15, 16, 17] (.l 18 [] (.qs [19] (.l 20 [] .nil .no)) .no)) (by decide +kernel) ?_
             | refine DrawOb.mk [] (.qs [0, 1, 2, 3, 4, 5, 6, 7, 8, 9, 10, 11, 12, 13, 14, 15, 16, 17] (.l 18 [] (.qs [19] (.l 20 [] .nil .no)) .no)) (by decide +kernel) ?_
             | refine ⟨_, rfl, (by simp only [mts_len, vcs_len]; omega), ?_⟩
             | refine And.intro (by simp only [mts_len, vcs_len]; omega) ?_
             | refine ⟨_, _, rfl, mts_get (by omega), (by simp only [vcs_len]; omega), ?_⟩
             | refine ⟨_, _, mts_get (by omega), vcs_get (by omega), ?_⟩
             | refine ⟨_, mts_get (by omega), ?_⟩
             | refine ⟨_, vcs_get (by omega), ?_⟩
             | refine ArOb.fits (by simp only [vcs_len, mts_len]; omega) ?_
             | refine And.intro (And.intro (by simp only [List.length_append, List.length_cons, List.length_nil, mts_len, vcs_len, fr_len]; omega) (by simp only [List.length_append, List.length_cons, List.length_nil, mts_len, vcs_len, fr_len]; omega)) ?_
             | fail)
    all_goals try (conv => whnf)
    refine CallOb.mk [3, 4, 2] (cDu q) rfl (ImpL.refl _) rfl rfl ?_
    rintro _ _ ⟨⟨q2, Y⟩, ⟨hYl, hY⟩, rfl, rfl⟩
    dsimp only at hYl hY ⊢
    have cPs := cPs Y hYl
    repeat' (conv => whnf
             first
             | refine CondOb.mk (fun _ => ?_) (fun _ => ?_)
             | refine ArOb.fits (by omega) ?_
             | refine LitOb.vec ?_
             | refine MakeOb.vec ?_
             | refine AllocOb.box ?_
             | refine CutOb.split ?_
             | refine Gh.mk [] ?_
             | refine ⟨_, _, rfl, rfl, Nat.le_refl _, ⟨by (simp only; omega), by omega⟩, ?_⟩
             | refine DrawOb.mk [] (.qs [0, 1, 2, 3, 4, 5, 6, 7] .nil) (by decide +kernel) ?_
             | refine DrawOb.mk [] (.qs [0, 1, 2, 3, 4, 5, 6, 7, 8, 9, 10, 11, 12, 13, 14, 15] (.l 16 [] .nil .no)) (by decide +kernel) ?_
             | refine DrawOb.mk [] (.qs [0, 1, 2, 3, 4, 5, 6, 7, 8, 9] .nil) (by decide +kernel) ?_
             | refine DrawOb.mk [] (.qs [0, 1, 2, 3, 4, 5, 6, 7, 8, 9, 10, 11, 12, 13, 14, 15, 16, 17, 18, 19, 20, 21, 22, 23] .nil) (by decide +kernel) ?_
             | refine DrawOb.mk [] (.qs [0, 1, 2, 3, 4, 5, 6, 7, 8, 9, 10, 11, 12, 13, 14, 15, 16, 17] (.l 18 [] (.qs [19] (.l 20 [] .nil .no)) .no)) (by decide +kernel) ?_
             | refine DrawOb.mk [] (.qs [0, 1, 2, 3, 4, 5, 6, 7, 8, 9, 10, 11, 12, 13, 14, 15, 16, 17] (.l 18 [] (.qs [19] (.l 20 [] .nil .no)) .no)) (by decide +kernel) ?_
             | (refine CallOb.mk [] cFe rfl (ImpL.refl _) rfl rfl ?_; rintro _ _ ⟨rfl, rfl⟩)
             | (refine CallOb.mk [] cPr rfl (ImpL.refl _) rfl rfl ?_; rintro _ _ ⟨rfl, rfl⟩)
             | (refine CallOb.mk [] cPs rfl (ImpL.refl _) rfl rfl ?_; rintro _ _ ⟨rfl, rfl⟩)
             | refine ⟨_, rfl, (by simp only [mts_len, vcs_len]; omega), ?_⟩
             | refine And.intro (by simp only [mts_len, vcs_len]; omega) ?_
             | refine ⟨_, _, rfl, mts_get (by omega), (by simp only [vcs_len]; omega), ?_⟩
             | refine ⟨_, _, mts_get (by omega), vcs_get (by omega), ?_⟩
             | refine ⟨_, mts_get (by omega), ?_⟩
             | refine ⟨_, vcs_get (by omega), ?_⟩
             | refine ArOb.fits (by simp only [vcs_len, mts_len]; omega) ?_
             | refine And.intro (And.intro (by simp only [List.length_append, List.length_cons, List.length_nil, mts_len, vcs_len, fr_len]; omega) (by simp only [List.length_append, List.length_cons, List.length_nil, mts_len, vcs_len, fr_len]; omega)) ?_
             | fail)
    all_goals try (conv => whnf)
    · exact ⟨((0, [], (0, 0), [], []), 3), .inr ⟨by simp, rfl⟩, rfl, Imp.tup ⟨Imp.agg ⟨Imp.refl _, Imp.nil _, Imp.refl _, Imp.refl _, Imp.nil _, Imp.nil _, trivial⟩, Imp.refl _, trivial⟩⟩
    · exact ⟨((0, [], (0, 0), [], []), 3), .inr ⟨by simp, rfl⟩, rfl, Imp.tup ⟨Imp.agg ⟨Imp.refl _, Imp.nil _, Imp.refl _, Imp.refl _, Imp.nil _, Imp.nil _, trivial⟩, Imp.refl _, trivial⟩⟩
    · exact ⟨((0, [], (0, 0), [], []), 3), .inr ⟨by simp, rfl⟩, rfl, Imp.tup ⟨Imp.agg ⟨Imp.refl _, Imp.nil _, Imp.refl _, Imp.refl _, Imp.nil _, Imp.nil _, trivial⟩, Imp.refl _, trivial⟩⟩
    · exact ⟨((0, [], (0, 0), [], []), 3), .inr ⟨by simp, rfl⟩, rfl, Imp.tup ⟨Imp.agg ⟨Imp.refl _, Imp.nil _, Imp.refl _, Imp.refl _, Imp.nil _, Imp.nil _, trivial⟩, Imp.refl _, trivial⟩⟩
    · exact ⟨((1, X, (V.1, V.2.1), Y, []), 0), .inl ⟨rfl, hOpt (hY (by assumption)).1 (by omega) (Classical.not_not.1 (by assumption)) Y hYl (hY (by assumption)).2 (Classical.not_not.1 (by assumption)) (Classical.not_not.1 (by assumption))⟩, rfl, Imp.tup ⟨Imp.agg ⟨Imp.refl _, Imp.refl _, Imp.refl _, Imp.refl _, Imp.refl _, Imp.nil _, trivial⟩, Imp.refl _, trivial⟩⟩
end Go.Proofs.Ytdkfgecaejmanaa
