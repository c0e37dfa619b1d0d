/-
  A text of the proofs of this seat: lemmas that the statements' proofs use; it states nothing of the program by itself beyond the contracts that its theorems bear. Conditions: those that stand in each theorem. Its short name: Dc.
-/
import Derived.Test.YtifcdempdcolkabPl
set_option linter.unusedVariables false
set_option linter.unusedSimpArgs false
namespace Go.Cv
/-! the deconvolution of two curves, plainly -/
def gnR (a b : C3) (t u : Nat) : Int := if infAt a.1 (t + u) then INF else cv a (t + u) - cv b u
def mxG (a b : C3) (t : Nat) : Nat → Int
  | 0 => 0
  | u + 1 => max (mxG a b t u) (gnR a b t u)
def rch (a b : C3) : Nat := if FinC b then frm a b + com a b else b.1.length - b.2.1
def dcv (a b : C3) (t : Nat) : Int := mxG a b t (rch a b)
theorem mxG_nn {a b : C3} {t : Nat} : ∀ u, 0 ≤ mxG a b t u
  | 0 => Int.le_refl _
  | u + 1 => by have := mxG_nn (a := a) (b := b) (t := t) u; simp only [mxG]; omega
theorem rch_pos {a b : C3} (ha : VC a) (hb : VC b) (h0 : cv b 0 = 0) : 1 ≤ rch a b := by
  unfold rch
  split
  · have := com_pos ha hb; omega
  · rename_i h
    have hp := inf_p hb h
    have hn := hb.n1
    rw [hp.1]
    apply Classical.byContradiction
    intro hx
    have hi : infAt b.1 0 := inf_late h (by omega)
    have e : val b.1 b.2.1 b.2.2 0 = INF := (hb.inf_iff (t := 0) (by omega)).2 hi
    have e2 : val b.1 b.2.1 b.2.2 0 = 0 := h0
    rw [e2] at e; exact absurd e (by decide)
theorem rch_le {a b : C3} (ha : VC a) (hb : VC b) (hc : com a b ≤ 120) : rch a b ≤ 519 := by
  unfold rch
  split
  · have := frm_le ha hb; omega
  · have := hb.n2; omega
theorem gnR_mono {a b : C3} (ha : VC a) (hb : VC b) (t u : Nat) : gnR a b t u ≤ gnR a b (t + 1) u := by
  unfold gnR
  have hn := hb.nonneg u
  have hn' : 0 ≤ cv b u := hn
  rw [show t + 1 + u = t + u + 1 by omega]
  by_cases h1 : infAt a.1 (t + u)
  · rw [if_pos h1, if_pos (ha.infAt_mono (Nat.le_succ _) h1)]; exact Int.le_refl _
  · rw [if_neg h1]
    split
    · have := inf_small ha (t := t + u) (by assumption) h1
      simp only [INF]; omega
    · have := VF.cvle ha (Nat.le_succ (t + u))
      have e : cv a (t + u) ≤ cv a (t + u + 1) := this
      omega
theorem mxG_mono {a b : C3} (ha : VC a) (hb : VC b) (t : Nat) : ∀ u, mxG a b t u ≤ mxG a b (t + 1) u
  | 0 => Int.le_refl _
  | u + 1 => by
    have h1 := mxG_mono ha hb t u
    have h2 := gnR_mono ha hb t u
    simp only [mxG]; omega
theorem dcv_mono {a b : C3} (ha : VC a) (hb : VC b) : Mono (dcv a b) := fun t => mxG_mono ha hb t _
theorem gnR_le {a b : C3} (ha : VC a) (hb : VC b) {t u : Nat} (ht : t + u ≤ 1048576) : gnR a b t u ≤ INF ∧ (¬infAt a.1 (t + u) → gnR a b t u ≤ 2000000000000000) := by
  unfold gnR
  have hn : 0 ≤ cv b u := hb.nonneg u
  split
  · exact ⟨Int.le_refl _, fun h => by contradiction⟩
  · rename_i h
    have := cv_small ha ht h
    exact ⟨by simp only [INF]; omega, fun _ => by omega⟩
theorem mxG_le {a b : C3} (ha : VC a) (hb : VC b) {t : Nat} : ∀ u, t + u ≤ 1048576 → mxG a b t u ≤ INF ∧ ((∀ k < u, ¬infAt a.1 (t + k)) → mxG a b t u ≤ 2000000000000000)
  | 0, _ => ⟨by simp only [mxG, INF]; omega, fun _ => by simp only [mxG]; omega⟩
  | u + 1, h => by
    obtain ⟨h1, h2⟩ := mxG_le ha hb (t := t) u (by omega)
    obtain ⟨h3, h4⟩ := gnR_le ha hb (t := t) (u := u) (by omega)
    simp only [mxG]
    refine ⟨by omega, fun h => ?_⟩
    have := h2 fun k hk => h k (by omega)
    have := h4 (h u (by omega))
    omega
theorem mxG_inf {a b : C3} {t u k : Nat} (hk : k < u) (h : infAt a.1 (t + k)) : INF ≤ mxG a b t u := by
  induction u with
  | zero => omega
  | succ u ih =>
    simp only [mxG]
    by_cases e : k = u
    · subst e
      have : gnR a b t k = INF := by unfold gnR; rw [if_pos h]
      omega
    · have := ih (by omega); omega
theorem mxG_top {a b : C3} (ha : VC a) (hb : VC b) (hf : ¬FinC a) {t : Nat} : ∀ u, mxG a b t u ≤ INF
  | 0 => by simp only [mxG, INF]; omega
  | u + 1 => by
    have h1 := mxG_top ha hb hf (t := t) u
    have h2 : gnR a b t u ≤ INF := by
      unfold gnR
      have hn : 0 ≤ cv b u := hb.nonneg u
      split
      · exact Int.le_refl _
      · rename_i h
        have : t + u < a.1.length - 1 := Classical.byContradiction fun hx => h (inf_late hf (by omega))
        have := cv_small ha (t := t + u) (by have := ha.n2; omega) h
        simp only [INF]; omega
    simp only [mxG]; omega
theorem dcv_late {a b : C3} (ha : VC a) (hb : VC b) (hc : com a b ≤ 120) {m : Nat} (hm : m ≤ 10000) (h : dcv a b m = INF) : ∀ t, m ≤ t → dcv a b t = INF := by
  intro t ht
  have hr := rch_le ha hb hc
  unfold dcv at *
  by_cases hx : ∀ k < rch a b, ¬infAt a.1 (m + k)
  · have := (mxG_le ha hb (t := m) (rch a b) (by omega)).2 hx
    rw [h] at this; exact absurd this (by decide)
  · obtain ⟨k, hk⟩ := Classical.not_forall.1 hx
    obtain ⟨hk1, hk2⟩ := Classical.not_imp.1 hk
    have hi := Classical.not_not.1 hk2
    have hf : ¬FinC a := fun hf => hf.not ha _ hi
    have h1 := mxG_inf (b := b) hk1 (ha.infAt_mono (show m + k ≤ t + k by omega) hi)
    have h2 := mxG_top ha hb hf (t := t) (rch a b)
    omega
theorem cv_pera {a : C3} (ha : VC a) (fa : FinC a) {t : Nat} (ht : a.1.length - a.2.1 ≤ t) : cv a (t + a.2.1) = cv a t + a.2.2 := by
  have hp := val_per (q := a.2.2) ha.p1 ha.pn (fun t _ ht => ha.noinf fa t ht)
  exact hp t ht
theorem dcv_per {a b : C3} (ha : VC a) (hb : VC b) (fa : FinC a) (h0 : cv b 0 = 0) : Per (dcv a b) (a.1.length - a.2.1) a.2.1 a.2.2 := by
  intro t ht
  have hq := ha.q0
  have key : ∀ u, 1 ≤ u → mxG a b (t + a.2.1) u = mxG a b t u + a.2.2 := by
    intro u
    induction u with
    | zero => intro h; omega
    | succ u ih =>
      intro _
      have e : gnR a b (t + a.2.1) u = gnR a b t u + a.2.2 := by
        unfold gnR
        rw [if_neg (fa.not ha _), if_neg (fa.not ha _), show t + a.2.1 + u = t + u + a.2.1 by omega, cv_pera ha fa (by omega)]
        omega
      simp only [mxG]
      rw [e]
      by_cases hu : u = 0
      · subst hu
        have hg : gnR a b t 0 = cv a t := by unfold gnR; rw [if_neg (fa.not ha _), h0, Nat.add_zero]; omega
        have : 0 ≤ cv a t := ha.nonneg _
        simp only [mxG]; omega
      · rw [ih (by omega)]; omega
  exact key _ (rch_pos ha hb h0)
theorem dcv_bd {a b : C3} (ha : VC a) (hb : VC b) (hc : com a b ≤ 120) {t : Nat} (ht : t ≤ 10000) : 0 ≤ dcv a b t ∧ dcv a b t ≤ INF :=
  ⟨mxG_nn _, (mxG_le ha hb _ (by have := rch_le ha hb hc; omega)).1⟩
/- an infinite first curve and a finite second one: all values are infinite -/
theorem dcv_all {a b : C3} (ha : VC a) (hb : VC b) (fa : ¬FinC a) (fb : FinC b) : dcv a b 0 = INF := by
  have hp := inf_p ha fa
  have hn := ha.n1
  have hc := com_pos ha hb
  have h1 : a.1.length - 1 < rch a b := by
    unfold rch; rw [if_pos fb]
    unfold frm; rw [hp.1]; omega
  have h2 := mxG_inf (b := b) (t := 0) h1 (inf_late fa (by omega))
  have h3 := mxG_top ha hb fa (t := 0) (rch a b)
  unfold dcv; omega
/- an infinite first curve: its last value below its length is infinite -/
theorem dcv_end {a b : C3} (ha : VC a) (hb : VC b) (fa : ¬FinC a) (h0 : cv b 0 = 0) {t : Nat} (ht : a.1.length - 1 ≤ t) : dcv a b t = INF := by
  have h2 := mxG_inf (b := b) (t := t) (rch_pos ha hb h0) (inf_late fa (by omega))
  have h3 := mxG_top ha hb fa (t := t) (rch a b)
  unfold dcv; omega
end Go.Cv
