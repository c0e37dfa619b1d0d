/-
  A text of the proofs of this seat: lemmas that the statements' proofs use; it states nothing of the program by itself beyond the contracts that its theorems bear. Conditions: those that stand in each theorem. Its short name: Q0.
-/
import Derived.Test.YtbdahmfjeklgbaaS6
import Derived.Test.YtbdahmfjeklgbaaPl
set_option linter.unusedVariables false
set_option linter.unusedSimpArgs false
namespace Go.Proofs.Ytbdahmfjeklgbaa
open Go.Sx Go.Fq
/-! the tables of the simplex method without bounds of their numbers -/
structure Pvw (m w : Nat) (f : Nat → Nat → Int) (bs : Nat → Int) (d : Int) (r c : Nat) (f' : Nat → Nat → Int) (bs' : Nat → Int) (d' : Int) : Prop where
  eq : ∀ a < m + 1, ∀ b < w, f' a b = pv f r c d a b
  d : d' = (f r c).natAbs
  bs : bs' = up bs r c
def Piw (m w : Nat) (s : TS) (r c : Nat) (s' : TS) : Prop := Pvw m w s.1 s.2.1 s.2.2 r c s'.1 s'.2.1 s'.2.2
theorem Piv.w {m w : Nat} {s s' : TS} {r c : Nat} (h : Piv m w s r c s') : Piw m w s r c s' := ⟨h.eq, h.d, h.bs⟩
structure Stw (m E C : Nat) (s s' : TS) : Prop where
  ex : ∃ r c, r < m ∧ c < C ∧ s.1 m c < 0 ∧ 0 < s.1 r c ∧ (∀ j < m, 0 < s.1 j c → s.1 r E * s.1 j c ≤ s.1 j E * s.1 r c) ∧ Piw m (E + 1) s r c s'
inductive Ruw (m E C : Nat) (s : TS) : TS → Prop
  | refl : Ruw m E C s s
  | step {s' s''} (h : Ruw m E C s s') (k : Stw m E C s' s'') : Ruw m E C s s''
theorem Stp.w {m E C : Nat} {s s' : TS} (h : Stp m E C s s') : Stw m E C s s' := by
  obtain ⟨r, c, h1, h2, h3, h4, h5, h6⟩ := h.ex
  exact ⟨r, c, h1, h2, h3, h4, h5, h6.w⟩
theorem Run.w {m E C : Nat} {s s' : TS} (h : Run m E C s s') : Ruw m E C s s' := by
  induction h with
  | refl => exact .refl
  | step _ k ih => exact .step ih k.w
inductive Arw (m w C : Nat) (s : TS) : TS → Prop
  | refl : Arw m w C s s
  | step {s' s'' : TS} {r c : Nat} (h : Arw m w C s s') (hr : r < m) (hc : c < C) (hb : (C : Int) ≤ s'.2.1 r) (hp : s'.1 r c ≠ 0) (k : Piw m w s' r c s'') : Arw m w C s s''
theorem Arts.w {m w C : Nat} {s s' : TS} (h : Arts m w C s s') : Arw m w C s s' := by
  induction h with
  | refl => exact .refl
  | step _ hr hc hb hp k ih => exact .step ih hr hc hb hp k.w
theorem piw_zero {m w : Nat} {s s' : TS} {r c a : Nat} (h : Piw m w s r c s') (ha : a < m + 1) (hn : a ≠ r) (hc : s.1 a c = 0) {b : Nat} (hb : b < w) (h0 : s.1 a b = 0) : s'.1 a b = 0 := by
  rw [h.eq a ha b hb]
  unfold pv nw1
  rw [hc, h0, if_neg hn, Int.zero_mul, Int.zero_mul, Int.sub_zero, Int.zero_tdiv]
  split <;> rfl
/- a row of the first table -/
structure RowJ (n m i : Nat) (w : Rw) (b : Int) (g : Nat → Int) : Prop where
  b0 : b ≠ 0
  co : ∀ k < n, (g k : Rat) = b * val (w.1.getD k (0, 1))
  bo : (g (n + 2 * m) : Rat) = b * val w.2.2
  nn : 0 ≤ g (n + 2 * m)
  sl : ∀ k < m, g (n + k) = if k = i then sg b * sns w else 0
  ar : ∀ k < m, g (n + m + k) = if k = i then 1 else 0
theorem RowI.w {n m i : Nat} {w : Rw} {b : Int} {g : Nat → Int} (h : RowI n m i w b g) : RowJ n m i w b g := ⟨h.b0, h.co, h.bo, h.nn, h.sl, h.ar⟩
def Inj (p : Pr) (by' : Nat → Int) (s : TS) : Prop :=
  (∀ i < p.r.length, RowJ p.c.length p.r.length i (p.r.getD i rw0) (by' i) (s.1 i)) ∧ (∀ i < p.r.length, s.2.1 i = p.c.length + p.r.length + i) ∧ s.2.2 = 1 ∧
  ∀ k < p.c.length + 2 * p.r.length + 1, s.1 p.r.length k = cst p.c.length p.r.length p.r.length k - cs s.1 p.r.length k
structure Qh1 (p : Pr) (by' : Nat → Int) (s0 s1 : TS) (z : Int) : Prop where
  vp : VP p
  ini : Inj p by' s0
  run : Ruw p.r.length (nE p) (nC p) s0 s1
  ends : Ends p.r.length (nC p) s1.1 z
structure Qh2 (p : Pr) (sc : Int) (s1 s2 s3 s4 : TS) (z : Int) : Prop where
  ob : s1.1 p.r.length (nE p) = 0
  art : Arw p.r.length (nE p + 1) (nC p) s1 s2
  azr : ∀ a < p.r.length, (nC p : Int) ≤ s2.2.1 a → ∀ j < nC p, s2.1 a j = 0
  sc1 : 1 ≤ sc
  scd : ∀ f ∈ p.c, f.2 ∣ sc
  row : ∀ i < p.r.length, ∀ k < nE p + 1, s3.1 i k = s2.1 i k
  cost : ∀ k < nE p + 1, s3.1 p.r.length k = red p sc s2 p.r.length k
  rest : s3.2 = s2.2
  run : Ruw p.r.length (nE p) (nC p) s3 s4
  ends : Ends p.r.length (nC p) s4.1 z
theorem Ph1.w {p : Pr} {by' : Nat → Int} {s0 s1 : TS} {z : Int} (h : Ph1 p by' s0 s1 z) : Qh1 p by' s0 s1 z := ⟨h.vp, ⟨fun i hi => (h.ini.1 i hi).w, h.ini.2⟩, h.run.w, h.ends⟩
theorem Ph2.w {p : Pr} {sc : Int} {s1 s2 s3 s4 : TS} {z : Int} (h : Ph2 p sc s1 s2 s3 s4 z) : Qh2 p sc s1 s2 s3 s4 z := ⟨h.ob, h.art.w, h.azr, h.sc1.1, h.scd, h.row, h.cost, h.rest, h.run.w, h.ends⟩
end Go.Proofs.Ytbdahmfjeklgbaa
