/-
  A text of the proofs of this seat: lemmas that the statements' proofs use; it states nothing of the program by itself beyond the contracts that its theorems bear. Conditions: those that stand in each theorem. Its short name: Qd.
-/
import Derived.Test.YtbdahmfjeklgbaaQc
import Derived.Test.YtbdahmfjeklgbaaQ15
import Derived.Test.YtbdahmfjeklgbaaQ4
set_option linter.unusedVariables false
set_option linter.unusedSimpArgs false
namespace Go.Proofs.Ytbdahmfjeklgbaa
open Go.Sx Go.Fq Go.Dt
set_option maxRecDepth 4000
set_option maxHeartbeats 2000000
/-! the steps of solve, in plain words -/
theorem rdc_cst {n m : Nat} {bs : Nat → Int} {f : Nat → Nat → Int} {k : Nat} : ∀ {i : Nat}, i ≤ m → (∀ a < i, bs a = n + m + a) → rdc (cst n m m) 1 bs f i k = cst n m m k - cs f i k
  | 0, _, _ => by simp [rdc, cs]
  | i + 1, hi, hb => by
    have hbi := hb i (by omega)
    simp only [rdc, cs]
    rw [rdc_cst (by omega) (fun a ha => hb a (by omega))]
    have e : cst n m m (bs i).toNat = 1 := by unfold cst; rw [if_pos (by omega)]
    rw [e]; omega
theorem inj_of {p : Pr} {q q1 q2 : Prop} {f : Nat → Nat → Int} {bs tu sl : Nat → Int} {co : Int} {g : Nat → Int} {F : Prop} (h : BuA p p.r.length q f bs tu sl co) (hq : ¬q)
    (k : PrA F q1 q2 (cst p.c.length p.r.length p.r.length) 1 bs f p.r.length (nE p + 1) g) (hq2 : ¬q2) :
    Inj p (fun a => tu a * sl a) (up2 f p.r.length g, bs, 1) := by
  obtain ⟨_, h2⟩ := h.ex hq
  obtain ⟨_, k2⟩ := k.ex hq2
  have hr : ∀ a < p.r.length, (up2 f p.r.length g) a = f a := fun a ha => by funext b; unfold up2; rw [if_neg (by omega)]
  refine ⟨fun i hi => ?_, fun i hi => h.hs i hi, rfl, fun b hb => ?_⟩
  · show RowJ _ _ _ _ _ ((up2 f p.r.length g) i)
    rw [hr i hi]; exact h2 i hi
  · show (up2 f p.r.length g) p.r.length b = _
    have e1 : (up2 f p.r.length g) p.r.length b = g b := by unfold up2; rw [if_pos rfl]
    have e2 : ∀ i, i ≤ p.r.length → cs (up2 f p.r.length g) i b = cs f i b := by
      intro i
      induction i with
      | zero => intro _; rfl
      | succ i ih => intro hi; simp only [cs]; rw [ih (by omega), hr i (by omega)]
    rw [e1, k2 b (by unfold nE at *; omega), rdc_cst (Nat.le_refl _) h.hs, e2 _ (Nat.le_refl _)]
theorem rdc_red {p : Pr} {sc : Int} {s : TS} {c : Nat → Int} {k : Nat} (hc : ∀ a, c a = cc p sc a) : ∀ {i : Nat}, rdc c s.2.2 s.2.1 s.1 i k = red p sc s i k
  | 0 => by simp only [rdc, red]; rw [hc]
  | i + 1 => by simp only [rdc, red]; rw [rdc_red hc, hc]
/- the table with new costs -/
theorem ti_cost {p : Pr} {s0 s2 : TS} {co : Nat → Int} {sc : Int} {g : Nat → Int} (I : TI p s0 co s2) (hg : ∀ k < nE p + 1, g k = red p sc s2 p.r.length k) :
    TI p s0 (cc p sc) (up2 s2.1 p.r.length g, s2.2) := by
  have J := I.inv
  have hr : ∀ a < p.r.length, ∀ b, (up2 s2.1 p.r.length g) a b = s2.1 a b := fun a ha b => by unfold up2; rw [if_neg (by omega)]
  refine ⟨⟨J.d0, J.bsw, J.det, ?_, ?_, ?_, ?_⟩, I.bs⟩
  · intro k' hk l hl
    refine (J.col k' hk l hl).trans (sI_congr fun j hj => ?_)
    show s2.1 j k' * _ = up2 s2.1 p.r.length g j k' * _
    rw [hr j hj]
  · intro i hi j hj
    show up2 s2.1 p.r.length g i _ = _
    rw [hr i hi]; exact J.bas i hi j hj
  · intro i hi k' hk
    show up2 s2.1 p.r.length g i _ = sI _ fun l => up2 s2.1 p.r.length g i _ * _
    rw [hr i hi, J.row i hi k' hk]
    exact sI_congr fun l hl => by rw [hr i hi]
  · intro k' hk
    show up2 s2.1 p.r.length g _ _ = s2.2.2 * _ - sI _ fun i => _ * up2 s2.1 p.r.length g i _
    have e : up2 s2.1 p.r.length g p.r.length k' = g k' := by unfold up2; rw [if_pos rfl]
    rw [e, hg k' hk, red_eq]
    congr 1
    exact sI_congr fun j hj => by rw [hr j hj]
theorem qh2_of {p : Pr} {sc : Int} {s1 s2 s4 : TS} {g : Nat → Int} {z : Int} (ho : s1.1 p.r.length (nE p) = 0) (ha : Arw p.r.length (nE p + 1) (nC p) s1 s2) (hz : ∀ a < p.r.length, (nC p : Int) ≤ s2.2.1 a → ∀ j < nC p, s2.1 a j = 0)
    (h1 : 1 ≤ sc) (hd : ∀ f ∈ p.c, f.2 ∣ sc) (hg : ∀ k < nE p + 1, g k = red p sc s2 p.r.length k) (hr : Ruw p.r.length (nE p) (nC p) (up2 s2.1 p.r.length g, s2.2) s4) (he : Ends p.r.length (nC p) s4.1 z) :
    Qh2 p sc s1 s2 (up2 s2.1 p.r.length g, s2.2) s4 z :=
  ⟨ho, ha, hz, h1, hd, fun i hi k _ => by show up2 s2.1 p.r.length g i k = _; unfold up2; rw [if_neg (by omega)], fun k hk => by
    show up2 s2.1 p.r.length g p.r.length k = _
    unfold up2; rw [if_pos rfl]; exact hg k hk, rfl, hr, he⟩
/- the value of phase 1 is not positive -/
theorem ph1_le {p : Pr} {by' : Nat → Int} {s0 s1 : TS} {z : Int} (h : Qh1 p by' s0 s1 z) : s1.1 p.r.length (nE p) ≤ 0 := by
  obtain ⟨I, hn, hc⟩ := ph1_cost h
  have e := I.inv.cost (nE p) (by omega)
  rw [show cst p.c.length p.r.length p.r.length (nE p) = 0 by unfold cst; rw [if_neg (by unfold nE; omega)], Int.mul_zero] at e
  have : 0 ≤ sI p.r.length (fun i => cst p.c.length p.r.length p.r.length (bN s1 i) * s1.1 i (nE p)) := sI_nonneg fun i hi => Int.mul_nonneg (cst_bd (i := p.r.length)).1 (hn i hi)
  omega
theorem rhs_keep {p : Pr} {s : TS} {g : Nat → Int} (h : Zr p s) : ∀ i < p.r.length, 0 ≤ (up2 s.1 p.r.length g, s.2).1 i (nE p) := fun i hi => by
  show 0 ≤ up2 s.1 p.r.length g i _
  unfold up2; rw [if_neg (by omega)]; exact h.nn i hi
end Go.Proofs.Ytbdahmfjeklgbaa
