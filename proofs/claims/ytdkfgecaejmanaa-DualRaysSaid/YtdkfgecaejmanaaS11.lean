/-
  A text of the proofs of this seat: lemmas that the statements' proofs use; it states nothing of the program by itself beyond the contracts that its theorems bear. Conditions: those that stand in each theorem. Its short name: S11.
-/
import Derived.Test.YtdkfgecaejmanaaS10
import Derived.Test.YtdkfgecaejmanaaS8
set_option linter.unusedVariables false
set_option linter.unusedSimpArgs false
namespace Go.Proofs.Ytdkfgecaejmanaa
open Go.Sx Go.Fq Go.Dt
set_option maxHeartbeats 1000000
theorem sm_int {g : Nat → Int} : ∀ {n : Nat}, sm n (fun i => (g i : Rat)) = ((sI n g : Int) : Rat)
  | 0 => by simp [sm, sI]
  | n + 1 => by simp only [sm, sI]; rw [sm_int, Rat.intCast_add]
/- the numbers of the rows, before they are divided -/
def pi' (p : Pr) (co : Nat → Int) (s : TS) (i : Nat) : Int := s.2.2 * co (uC p i) - s.1 p.r.length (uC p i)
/- what the reading of the numbers of the rows rests on -/
structure DualP (p : Pr) (by' : Nat → Int) (s0 s : TS) (co : Nat → Int) (sc : Int) (Y : List F) : Prop where
  vp : VP p
  ini : Ini p by' s0
  ti : TI p s0 co s
  sc0 : 1 ≤ sc
  nn : ∀ k < nC p, 0 ≤ s.1 p.r.length k
  sl0 : ∀ k < p.r.length, co (p.c.length + k) = 0
  e0 : co (nE p) = 0
  len : Y.length = p.r.length
  y : ∀ i < p.r.length, VF (Y.getD i (0, 1)) ∧ val (Y.getD i (0, 1)) = (pi' p co s i : Rat) / (s.2.2 : Rat) * (by' i : Rat) / (sc : Rat)
  fits : (prod (bds p) Y).2.2 = 0 ∧ ∀ j < p.c.length, (prod (col p j) Y).2.2 = 0
theorem rq0 {a : Int} (h : 0 < a) : (a : Rat) ≠ 0 := by
  intro e; have := Rat.intCast_eq_zero_iff.1 e; omega
theorem rqp {a : Int} (h : 0 < a) : 0 < (a : Rat) := Rat.intCast_pos.2 h
theorem sm_pi {p : Pr} {Y : List F} {co : Nat → Int} {s s0 : TS} {by' : Nat → Int} {sc : Int} (h : DualP p by' s0 s co sc Y) {a : Nat → Rat} {k : Nat} (hk : k < nE p + 1) (ha : ∀ i < p.r.length, (s0.1 i k : Rat) = (by' i : Rat) * a i) :
    sm p.r.length (fun i => a i * at' Y i) = ((s.2.2 * co k - s.1 p.r.length k : Int) : Rat) / ((s.2.2 : Rat) * (sc : Rat)) := by
  have d0 := rq0 h.ti.inv.d0
  have c0 := rq0 (show 0 < sc by have := h.sc0; omega)
  have e : sm p.r.length (fun i => a i * at' Y i) = sm p.r.length (fun i => ((pi' p co s i * s0.1 i k : Int) : Rat) * (1 / ((s.2.2 : Rat) * (sc : Rat)))) := by
    apply sm_congr; intro i hi
    have := (h.y i hi).2
    unfold at'
    rw [this, Rat.intCast_mul, ha i hi]
    grind
  rw [e, sm_mul, sm_int]
  have e2 := h.ti.inv.pi (fun l hl => uC_lt hl) hk
  have e3 : sI p.r.length (fun i => pi' p co s i * s0.1 i k) = s.2.2 * co k - s.1 p.r.length k := by unfold pi'; omega
  rw [e3]; grind
theorem div_le0 {a : Int} {d : Rat} (hd : 0 < d) (ha : a ≤ 0) : (a : Rat) / d ≤ 0 := by
  have h1 : (a : Rat) ≤ 0 := Rat.intCast_nonpos.2 ha
  have h2 : 0 < d⁻¹ := Rat.inv_pos.2 hd
  rw [Rat.div_def]
  have := Rat.mul_nonneg (a := -(a : Rat)) (b := d⁻¹) (by grind) (by grind)
  grind
theorem div_ge0 {a : Int} {d : Rat} (hd : 0 < d) (ha : 0 ≤ a) : 0 ≤ (a : Rat) / d := by
  have h2 : 0 < d⁻¹ := Rat.inv_pos.2 hd
  rw [Rat.div_def]
  exact Rat.mul_nonneg (Rat.intCast_nonneg.2 ha) (by grind)
theorem div_gt0 {a : Int} {d : Rat} (hd : 0 < d) (ha : 0 < a) : 0 < (a : Rat) / d := by
  rw [Rat.div_def]; exact Rat.mul_pos (rqp ha) (Rat.inv_pos.2 hd)
theorem sg_abs {b : Int} : b = sg b * b.natAbs := by unfold sg; split <;> omega
theorem DualP.sgn {p : Pr} {Y : List F} {co : Nat → Int} {s s0 : TS} {by' : Nat → Int} {sc : Int} (h : DualP p by' s0 s co sc Y) : Sgn p Y := by
  refine (sgn_iff h.vp h.len).2 fun i hi => ?_
  obtain ⟨hv, hy⟩ := h.y i hi
  have d0 := rqp h.ti.inv.d0
  have c0 := rqp (show 0 < sc by have := h.sc0; omega)
  have hk : p.c.length + i < nE p + 1 := by unfold nE; omega
  have e2 := h.ti.inv.pi (fun l hl => uC_lt hl) hk
  have e3 : sI p.r.length (fun l => (s.2.2 * co (uC p l) - s.1 p.r.length (uC p l)) * s0.1 l (p.c.length + i)) = pi' p co s i * (sg (by' i) * sns (p.r.getD i rw0)) := by
    rw [sI_one hi (fun l hl hn => by rw [(h.ini.1 l hl).sl i hi, if_neg (Ne.symm hn), Int.mul_zero]), (h.ini.1 i hi).sl i hi, if_pos rfl]; rfl
  rw [e3, h.sl0 i hi, Int.mul_zero] at e2
  have hn := h.nn (p.c.length + i) (by unfold nC; omega)
  have hval : val (Y.getD i (0, 1)) = ((pi' p co s i * by' i : Int) : Rat) / ((s.2.2 : Rat) * (sc : Rat)) := by
    rw [hy, Rat.intCast_mul]; grind
  have hds : 0 < (s.2.2 : Rat) * (sc : Rat) := Rat.mul_pos d0 c0
  have hby : by' i = sg (by' i) * (by' i).natAbs := sg_abs
  have hq : pi' p co s i * by' i = (pi' p co s i * sg (by' i)) * (by' i).natAbs := by
    conv => lhs; rw [hby]
    rw [Int.mul_assoc]
  refine ⟨hv, ?_, ?_⟩
  · rintro ⟨hs, hpos⟩
    have h1 : sns (p.r.getD i rw0) = 1 := by unfold sns; rw [if_pos hs]
    rw [h1, Int.mul_one] at e2
    have h2 : (pi' p co s i * sg (by' i)) * (by' i).natAbs ≤ 0 := Int.mul_nonpos_of_nonpos_of_nonneg (by omega) (by omega)
    have := hv.pos.1 hpos
    rw [hval, hq] at this
    have := div_le0 hds h2
    grind
  · rintro ⟨hs, hneg⟩
    have h1 : sns (p.r.getD i rw0) = -1 := by unfold sns; rw [if_neg (by omega), if_pos hs]
    rw [h1] at e2
    have h2 : 0 ≤ (pi' p co s i * sg (by' i)) * (by' i).natAbs := Int.mul_nonneg (by
      have : pi' p co s i * (sg (by' i) * -1) = -(pi' p co s i * sg (by' i)) := by grind
      omega) (by omega)
    have := hv.neg.1 hneg
    rw [hval, hq] at this
    have := div_ge0 hds h2
    grind
theorem DualP.col_val {p : Pr} {Y : List F} {co : Nat → Int} {s s0 : TS} {by' : Nat → Int} {sc : Int} (h : DualP p by' s0 s co sc Y) {j : Nat} (hj : j < p.c.length) :
    VF ((prod (col p j) Y).1, (prod (col p j) Y).2.1) ∧ val ((prod (col p j) Y).1, (prod (col p j) Y).2.1) = ((s.2.2 * co j - s.1 p.r.length j : Int) : Rat) / ((s.2.2 : Rat) * (sc : Rat)) := by
  obtain ⟨k1, k2, k3, k4, k5⟩ := prod_ok' (h.fits.2 j hj)
  refine ⟨k4, ?_⟩
  rw [k5, show (col p j).length = p.r.length by simp [col]]
  rw [← sm_pi h (a := fun i => A p i j) (by unfold nE; omega) (fun i hi => (h.ini.1 i hi).co j hj)]
  exact sm_congr fun i hi => by rw [at_col hi]
theorem DualP.bds_val {p : Pr} {Y : List F} {co : Nat → Int} {s s0 : TS} {by' : Nat → Int} {sc : Int} (h : DualP p by' s0 s co sc Y) :
    VF ((prod (bds p) Y).1, (prod (bds p) Y).2.1) ∧ val ((prod (bds p) Y).1, (prod (bds p) Y).2.1) = ((-(s.1 p.r.length (nE p)) : Int) : Rat) / ((s.2.2 : Rat) * (sc : Rat)) := by
  obtain ⟨k1, k2, k3, k4, k5⟩ := prod_ok' h.fits.1
  refine ⟨k4, ?_⟩
  rw [k5, bds_len]
  have := sm_pi h (a := fun i => B p i) (k := nE p) (by omega) (fun i hi => by
    rw [(h.ini.1 i hi).bo]; unfold B; rw [at_bds hi]; rw [List.getD_eq_getElem?_getD]; simp [hi])
  rw [h.e0, Int.mul_zero, Int.zero_sub] at this
  exact this
theorem dualAt_pi {m n : Nat} {f : Nat → Nat → Int} {d : Int} {by' : Nat → Int} {c s : Int} {i : Nat} {y : F} (h : DualAt m n f d by' c s i y) : VF y ∧ val y = ((c * d - f m (n + m + i) : Int) : Rat) / (d : Rat) * (by' i : Rat) / (s : Rat) := by
  obtain ⟨h1, h2⟩ := h
  exact ⟨h1, by rw [h2, Rat.divInt_eq_div]; rfl⟩
/- a proof of infeasibility is one -/
theorem inf_ok {p : Pr} {by' : Nat → Int} {s0 s1 : TS} {z : Int} {Y : List F} (h : Ph1 p by' s0 s1 z) (ho : s1.1 p.r.length (nE p) ≠ 0) (hl : Y.length = p.r.length) (hY : ∀ i < p.r.length, DualAt p.r.length p.c.length s1.1 s1.2.2 by' 1 1 i (Y.getD i (0, 1)))
    (hp : (prod (bds p) Y).2.2 = 0 ∧ ∀ j < p.c.length, (prod (col p j) Y).2.2 = 0) : Inf p Y := by
  obtain ⟨I, hn, hc⟩ := ph1_cost h
  have c0 : ∀ k, k < p.c.length + p.r.length ∨ k = nE p → cst p.c.length p.r.length p.r.length k = 0 := fun k hk => by
    unfold cst; rw [if_neg (by unfold nE at hk; omega)]
  have Dp : DualP p by' s0 s1 (cst p.c.length p.r.length p.r.length) 1 Y := by
    refine ⟨h.vp, h.ini, I, by decide, hc, fun k hk => c0 _ (.inl (by omega)), c0 _ (.inr rfl), hl, fun i hi => ?_, hp⟩
    have h1 := dualAt_pi (hY i hi)
    refine ⟨h1.1, ?_⟩
    rw [h1.2]
    have e : cst p.c.length p.r.length p.r.length (uC p i) = 1 := by unfold cst uC; rw [if_pos (by omega)]
    unfold pi'
    rw [e, Int.mul_one, Int.one_mul]
  have d0 := rqp I.inv.d0
  have hd1 : 0 < (s1.2.2 : Rat) * ((1 : Int) : Rat) := Rat.mul_pos d0 (rqp (by decide))
  refine ⟨Dp.sgn, fun j hj => ⟨hp.2 j hj, ?_⟩, hp.1, ?_⟩
  · obtain ⟨v1, v2⟩ := Dp.col_val hj
    rw [fcmp_le v1 vf_zero, v2, val_zero]
    apply div_le0 hd1
    rw [c0 j (.inl (by omega))]
    have := hc j (by unfold nC; omega)
    omega
  · obtain ⟨v1, v2⟩ := Dp.bds_val
    apply v1.pos.2
    rw [v2]
    apply div_gt0 hd1
    have e := I.inv.cost (nE p) (by omega)
    rw [c0 _ (.inr rfl), Int.mul_zero] at e
    have : 0 ≤ sI p.r.length (fun i => cst p.c.length p.r.length p.r.length (bN s1 i) * s1.1 i (nE p)) := sI_nonneg fun i hi => Int.mul_nonneg (cst_bd (i := p.r.length)).1 (hn i hi)
    omega
end Go.Proofs.Ytdkfgecaejmanaa
