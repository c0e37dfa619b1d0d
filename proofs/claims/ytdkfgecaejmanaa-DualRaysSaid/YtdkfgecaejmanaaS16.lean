/-
  A text of the proofs of this seat: lemmas that the statements' proofs use; it states nothing of the program by itself beyond the contracts that its theorems bear. Conditions: those that stand in each theorem. Its short name: S16.
-/
import Derived.Test.YtdkfgecaejmanaaS13
import Derived.Test.YtdkfgecaejmanaaDb
import Derived.Test.YtdkfgecaejmanaaPf
import Derived.Test.YtdkfgecaejmanaaKn2
set_option linter.unusedVariables false
set_option linter.unusedSimpArgs false
namespace Go.Proofs.Ytdkfgecaejmanaa
open Go.Sx Go.Fq Go.Dt
set_option maxHeartbeats 1000000
/- a point and a ray over one small denominator -/
structure RayF (n : Nat) (X R : List F) (d : Int) (gx gr : Nat → Int) : Prop where
  d0 : 0 < d
  d1 : d ≤ 240000
  lx : X.length = n
  lr : R.length = n
  vx : ∀ k < n, at' X k = (gx k : Rat) / (d : Rat)
  vr : ∀ k < n, at' R k = (gr k : Rat) / (d : Rat)
  bx : ∀ k < n, (gx k).natAbs ≤ 24000000
  br : ∀ k < n, (gr k).natAbs ≤ 240000
theorem val_one {f : F} (h : f.2 = 1) : val f = (f.1 : Rat) := by
  have e : f = (f.1, 1) := by rw [← h]
  rw [e]; exact val_int _
theorem ini_bd {p : Pr} {by' : Nat → Int} {s0 : TS} (hs : SmlP p) (h : Ini p by' s0) {l : Nat} (hl : l < p.r.length) :
    (∀ k < nE p + 1, k ≠ nE p → (s0.1 l k).natAbs ≤ 10) ∧ (s0.1 l (nE p)).natAbs ≤ 1000 := by
  have hR := h.1 l hl
  have hw : p.r.getD l rw0 ∈ p.r := by rw [List.getD_eq_getElem?_getD]; simp [hl]
  obtain ⟨h1, h2, h3, h4⟩ := hs.2 _ hw
  generalize p.r.getD l rw0 = w at *
  have hb : by' l = 1 ∨ by' l = -1 := hR.b1 (by
    intro f hf
    rcases List.mem_append.1 hf with h | h
    · exact (h1 f h).2.1
    · simp only [List.mem_singleton] at h; rw [h]; exact h2)
  have key : ∀ {g z : Int}, (g : Rat) = (by' l : Rat) * (z : Rat) → g.natAbs = z.natAbs := fun {g z} e => by
    have e2 : g = by' l * z := by rw [← Rat.intCast_mul] at e; exact Rat.intCast_inj.1 e
    rcases hb with hb | hb <;> rw [hb] at e2 <;> omega
  refine ⟨fun k hk hn => ?_, ?_⟩
  · by_cases c1 : k < p.c.length
    · have e := hR.co k c1
      by_cases c2 : k < w.1.length
      · have hsf := all_at (P := SF) h1 c2
        rw [val_one hsf.2.1] at e
        have := key e
        have := hsf.2.2; omega
      · have e0 : w.1.getD k (0, 1) = (0, 1) := by rw [List.getD_eq_getElem?_getD]; simp [Nat.not_lt.1 c2]
        rw [e0, val_one rfl] at e
        have := key e
        simp only at this; omega
    · by_cases c2 : k < p.c.length + p.r.length
      · have e := hR.sl (k - p.c.length) (by omega)
        rw [show p.c.length + (k - p.c.length) = k by omega] at e
        rw [e]
        split
        · unfold sg sns; split <;> split <;> (try split) <;> simp
        · simp
      · have e := hR.ar (k - (p.c.length + p.r.length)) (by unfold nE at hk hn; omega)
        rw [show p.c.length + p.r.length + (k - (p.c.length + p.r.length)) = k by omega] at e
        rw [e]; split <;> simp
  · have e := hR.bo
    rw [val_one h2] at e
    have := key e
    show (s0.1 l (p.c.length + 2 * p.r.length)).natAbs ≤ 1000
    omega
theorem sI_bas {p : Pr} {s0 s : TS} {co : Nat → Int} (I : TI p s0 co s) {g : Nat → Int} {k B : Nat} (hg : ∀ j < p.r.length, (g j).natAbs ≤ B) : (sI p.r.length (fun j => if bN s j = k then g j else 0)).natAbs ≤ B := by
  by_cases h : ∃ j, j < p.r.length ∧ bN s j = k
  · obtain ⟨j, hj, e⟩ := h
    rw [sI_one hj (fun i hi hn => by
      rw [if_neg]; intro e2
      exact hn (I.inv.inj hi hj (e2.trans e.symm))), if_pos e]
    exact hg j hj
  · rw [sI_zero (fun j hj => by rw [if_neg]; intro e; exact h ⟨j, hj, e⟩)]; simp
theorem SolP.rayF {p : Pr} {X R DD : List F} {v : F} (h : SolP p (2, X, v, DD, R)) (hs : SmlP p) (hr4 : p.r.length ≤ 4) : ∃ d gx gr, RayF p.c.length X R d gx gr := by
  cases h with
  | @unb by' s0 s1 s2 s3 s4 z sc c h k hX hY hf hr =>
    obtain ⟨I, Z⟩ := ph2_ti h k
    have d0 := I.inv.d0
    obtain ⟨hcC, hneg, hle⟩ : c < nC p ∧ s4.1 p.r.length c < 0 ∧ ∀ i < p.r.length, s4.1 i c ≤ 0 := by
      rcases k.ends with ⟨e, _⟩ | ⟨c', e, a, b, d⟩
      · omega
      · have : c = c' := by omega
        subst this; exact ⟨a, b, d⟩
    have hcE : c < nE p := by unfold nC at hcC; unfold nE; omega
    obtain ⟨b1, b2, b3⟩ := I.inv.bds (e := nE p) hr4 (by omega) (fun i hi => by have := I.bs i hi; unfold bN; omega) (fun l hl k hk hn => (ini_bd hs h.ini hl).1 k hk hn) (fun l hl => (ini_bd hs h.ini hl).2)
    refine ⟨s4.2.2, fun k => sI p.r.length (fun j => if bN s4 j = k then s4.1 j (nE p) else 0), fun k => dir p.r.length s4.1 (bN s4) s4.2.2 c k, d0, b1, lst_len _ _, lst_len _ _, ?_, ?_, ?_, ?_⟩
    · intro j hj; rw [at_lst hj, (pt_val I hj hX _ (Nat.le_refl _)).2]
    · intro j hj; rw [at_lst hj, (ry_val I hj hneg hY _ (Nat.le_refl _)).2]; rfl
    · intro j hj; exact sI_bas I b3
    · intro j hj
      have hb := sI_bas (k := j) I (g := fun i => s4.1 i c) (B := 240000) (fun i hi => b2 i hi c (by omega) (by omega))
      unfold dir
      by_cases e : j = c
      · subst e
        rw [if_pos rfl, sI_zero (fun i hi => by
          rw [if_neg]; intro e2
          have := I.inv.cost0 (j := i) hi
          rw [e2] at this; omega)]
        omega
      · rw [if_neg e]; omega
theorem tot_le {B : Nat} : ∀ {a b : List Int}, (∀ z ∈ a, z.natAbs ≤ 10) → (∀ z ∈ b, z.natAbs ≤ B) → tot a b ≤ a.length * (10 * B)
  | [], _, _, _ => by simp [tot]
  | _ :: _, [], _, _ => by simp [tot]
  | x :: xs, y :: ys, ha, hb => by
    simp only [tot, List.length_cons]
    have h1 := tot_le (a := xs) (b := ys) (fun z hz => ha z (by simp [hz])) (fun z hz => hb z (by simp [hz]))
    have h2 := Nat.mul_le_mul (ha x (by simp)) (hb y (by simp))
    rw [Int.natAbs_mul, Nat.succ_mul]; omega
/- a product of small integers and a point over a small denominator fits -/
theorem fit_row {a x : List F} {d : Int} {g : Nat → Int} (ha : ∀ f ∈ a, SF f) (hl : a.length = x.length) (h4 : x.length ≤ 4) (hx : ∀ f ∈ x, VF f) (d0 : 0 < d) (d1 : d ≤ 240000) (hg : ∀ k < x.length, at' x k = (g k : Rat) / (d : Rat)) (hb : ∀ k < x.length, (g k).natAbs ≤ 26160000) : (prod a x).2.2 = 0 := by
  unfold prod
  rw [if_pos hl]
  have hm : MT = 1073741824 := rfl
  refine pgo_fit d0 (by omega) (ga := a.map (·.1)) (gb := (List.range x.length).map g) (S := 0) hl (by simp) (by simp) (fun f hf => (ha f hf).1) hx ?_ ?_ vf_zero (by rw [val_zero]; simp [Rat.div_def, Rat.zero_mul]) ?_
  · intro i hi
    have := all_at (P := SF) ha hi
    unfold at'
    rw [val_one this.2.1]
    simp [List.getD_eq_getElem?_getD, hi]
  · intro i hi
    rw [hg i hi]; simp [List.getD_eq_getElem?_getD, hi]
  · have := tot_le (a := a.map (·.1)) (b := (List.range x.length).map g) (B := 26160000) (by
      intro z hz
      obtain ⟨f, hf, rfl⟩ := List.mem_map.1 hz
      have := (ha f hf).2.2; omega) (by
      intro z hz
      obtain ⟨j, hj, rfl⟩ := List.mem_map.1 hz
      exact hb j (by simpa using hj))
    rw [List.length_map] at this
    have h5 : a.length * (10 * 26160000) ≤ 4 * (10 * 26160000) := Nat.mul_le_mul (by omega) (Nat.le_refl _)
    simp only [Int.natAbs_zero]
    omega
/- a point moved along a ray -/
def Mvd (X R : List F) (q : Int) (x : List F) (n : Nat) : Prop := ∀ j < n, VF (x.getD j (0, 1)) ∧ at' x j = at' X j + at' R j * (q : Rat)
theorem mvd_step {X R : List F} {q : Int} {x : List F} {z : F} {i : Nat} (hi : x.length = i) (h : Mvd X R q x i) (hz : VF z ∧ val z = at' X i + at' R i * (q : Rat)) : Mvd X R q (x ++ [z]) (i + 1) := by
  intro j hj
  unfold at'
  by_cases e : j = i
  · subst e; subst hi
    have : (x ++ [z]).getD x.length (0, 1) = z := by rw [List.getD_eq_getElem?_getD]; simp
    rw [this]; exact hz
  · have : (x ++ [z]).getD j (0, 1) = x.getD j (0, 1) := by rw [List.getD_eq_getElem?_getD, List.getD_eq_getElem?_getD, List.getElem?_append_left (by omega)]
    rw [this]; exact h j (by omega)
theorem sm_mvd {X R x : List F} {q : Int} {a : Nat → Rat} {n : Nat} (h : Mvd X R q x n) : sm n (fun i => a i * at' x i) = sm n (fun i => a i * at' X i) + sm n (fun i => a i * at' R i) * (q : Rat) := by
  rw [← sm_mul, ← sm_add]
  apply sm_congr; intro i hi
  rw [(h i hi).2]; grind
theorem rays_ok {p : Pr} {X R x : List F} {d q : Int} {gx gr : Nat → Int} (hr : RayF p.c.length X R d gx gr) (hs : SmlP p) (hc4 : p.c.length ≤ 4) (hu : Unb p X R) (q1 : 1 ≤ q) (q9 : q ≤ 9) (hl : x.length = p.c.length) (hm : Mvd X R q x p.c.length) :
    Feas p x ∧ Unb p x R ∧ ((prod p.c X).2.2 = 0 → (prod p.c x).2.2 = 0 → fcmp ((prod p.c x).1, (prod p.c x).2.1) ((prod p.c X).1, (prod p.c X).2.1) < 0) := by
  obtain ⟨hf, hrl, hrv, hrr, hc1, hc2⟩ := unb_iff.1 hu
  obtain ⟨hvp, hXl, hXv, hX0, hXr⟩ := id hf
  have q0 : (0 : Rat) ≤ (q : Rat) := Rat.intCast_nonneg.2 (by omega)
  have q01 : (0 : Rat) < (q : Rat) := Rat.intCast_pos.2 (by omega)
  have hxv : ∀ f ∈ x, VF f := all_to (i := x.length) (fun j hj => (hm j (by omega)).1) (Nat.le_refl _)
  have hg : ∀ k < x.length, at' x k = ((gx k + gr k * q : Int) : Rat) / (d : Rat) := fun k hk => by
    have h1 := hr.vx k (by omega)
    have h2 := hr.vr k (by omega)
    have h3 := (hm k (by omega)).2
    rw [h3, h1, h2, Rat.intCast_add, Rat.intCast_mul]; grind
  have hgb : ∀ k < x.length, (gx k + gr k * q).natAbs ≤ 26160000 := fun k hk => by
    have h1 := hr.bx k (by omega)
    have h2 := hr.br k (by omega)
    have h3 : (gr k * q).natAbs ≤ 240000 * 9 := by rw [Int.natAbs_mul]; exact Nat.mul_le_mul h2 (by omega)
    omega
  have hfit : ∀ a : List F, (∀ f ∈ a, SF f) → a.length = p.c.length → (prod a x).2.2 = 0 := fun a ha hal => fit_row ha (by omega) (by omega) hxv hr.d0 hr.d1 hg hgb
  have hfx : Feas p x := by
    refine ⟨hvp, hl, hxv, ?_, ?_⟩
    · refine all_to (i := x.length) (fun j hj => ?_) (Nat.le_refl _)
      obtain ⟨v, e⟩ := hm j (by omega)
      apply v.nonneg.2
      have e2 : val (x.getD j (0, 1)) = at' x j := rfl
      have h1 := feas_x hf (j := j) (by omega)
      have h2 : 0 ≤ at' R j := by
        have := all_at hrv (i := j) (by omega)
        exact this.1.nonneg.1 this.2
      have h3 := Rat.mul_nonneg h2 q0
      rw [e2, e]; grind
    · intro w hw
      obtain ⟨w1, w2, w3, w4, w5⟩ := hvp.2.2.2.2 w hw
      have hok := hfit w.1 (hs.2 w hw).1 w1
      obtain ⟨o1, o2⟩ := hXr w hw
      obtain ⟨_, _, _, a4, a5⟩ := prod_ok' o1
      obtain ⟨_, _, _, b4, b5⟩ := prod_ok' hok
      obtain ⟨r1, r2, r3⟩ := hrr w hw
      obtain ⟨_, _, _, c4, c5⟩ := prod_ok' r1
      rw [w1] at a5 b5 c5
      rw [sm_mvd hm, ← a5, ← c5] at b5
      refine ⟨hok, ?_⟩
      have n1 := c4.nonneg
      have n2 := c4.pos
      simp only at n1 n2
      unfold keeps at o2 ⊢
      generalize hV : val ((prod w.1 R).1, (prod w.1 R).2.1) = V at *
      have le0 : w.2.1 ≠ 2 → V * (q : Rat) ≤ 0 := fun h => by
        have : ¬ 0 < V := fun g => r2 ⟨h, n2.2 g⟩
        have : 0 ≤ (-V) * (q : Rat) := Rat.mul_nonneg (by grind) q0
        grind
      have ge0 : w.2.1 ≠ 1 → 0 ≤ V * (q : Rat) := fun h => by
        have : 0 ≤ (prod w.1 R).1 := by
          by_cases g : (prod w.1 R).1 < 0
          · exact absurd ⟨h, g⟩ r3
          · omega
        exact Rat.mul_nonneg (n1.1 this) q0
      rw [fcmp_le a4 w5, fcmp_ge a4 w5, fcmp_eq a4 w5] at o2
      rw [fcmp_le b4 w5, fcmp_ge b4 w5, fcmp_eq b4 w5, b5]
      rcases o2 with ⟨s, o⟩ | ⟨s, o⟩ | ⟨s, o⟩
      · have := le0 (by omega)
        exact .inl ⟨s, by grind⟩
      · have := ge0 (by omega)
        exact .inr (.inl ⟨s, by grind⟩)
      · have := le0 (by omega)
        have := ge0 (by omega)
        exact .inr (.inr ⟨s, by grind⟩)
  refine ⟨hfx, ⟨hfx, hu.2⟩, fun h1 h2 => ?_⟩
  obtain ⟨_, _, _, a4, a5⟩ := prod_ok' h1
  obtain ⟨_, _, _, b4, b5⟩ := prod_ok' h2
  obtain ⟨_, _, _, c4, c5⟩ := prod_ok' hc1
  rw [sm_mvd hm, ← a5, ← c5] at b5
  rw [fcmp_lt b4 a4, b5]
  have h3 := c4.neg.1 hc2
  have := Rat.mul_pos (a := -val ((prod p.c R).1, (prod p.c R).2.1)) (by grind) q01
  grind
end Go.Proofs.Ytdkfgecaejmanaa
