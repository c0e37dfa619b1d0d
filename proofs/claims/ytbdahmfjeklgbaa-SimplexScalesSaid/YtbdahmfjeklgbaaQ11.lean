/-
  A text of the proofs of this seat: lemmas that the statements' proofs use; it states nothing of the program by itself beyond the contracts that its theorems bear. Conditions: those that stand in each theorem. Its short name: Q11.
-/
import Derived.Test.YtbdahmfjeklgbaaQ10
set_option linter.unusedVariables false
set_option linter.unusedSimpArgs false
namespace Go.Proofs.Ytbdahmfjeklgbaa
open Go.Sx Go.Fq Go.Dt
set_option maxHeartbeats 1000000
theorem sm_int {g : Nat → Int} : ∀ {n : Nat}, sm n (fun i => (g i : Rat)) = ((sI n g : Int) : Rat)
  | 0 => by simp [sm, sI]
  | n + 1 => by simp only [sm, sI]; rw [sm_int, Rat.intCast_add]
/- the numbers of the rows, before they are divided -/
def pi' (p : Pr) (co : Nat → Int) (s : TS) (i : Nat) : Int := s.2.2 * co (uC p i) - s.1 p.r.length (uC p i)
/- what the reading of the numbers of the rows rests on -/
structure DualP (p : Pr) (by' : Nat → Int) (s0 s : TS) (co : Nat → Int) (sc : Int) (Y : List F) : Prop where
  vp : VP p
  ini : Inj p by' s0
  ti : TI p s0 co s
  sc0 : 1 ≤ sc
  nn : ∀ k < nC p, 0 ≤ s.1 p.r.length k
  sl0 : ∀ k < p.r.length, co (p.c.length + k) = 0
  e0 : co (nE p) = 0
  len : Y.length = p.r.length
  y : ∀ i < p.r.length, VF (Y.getD i (0, 1)) ∧ val (Y.getD i (0, 1)) = (pi' p co s i : Rat) / (s.2.2 : Rat) * (by' i : Rat) / (sc : Rat)
  fits : (prod (bds p) Y).2.2 = 0 ∧ ∀ j < p.c.length, (prod (col p j) Y).2.2 = 0
theorem rq0 {a : Int} (h : 0 < a) : (a : Rat) ≠ 0 := by
  intro e; have := Rat.intCast_eq_zero_iff.1 e; omega
theorem rqp {a : Int} (h : 0 < a) : 0 < (a : Rat) := Rat.intCast_pos.2 h
theorem div_le0 {a : Int} {d : Rat} (hd : 0 < d) (ha : a ≤ 0) : (a : Rat) / d ≤ 0 := by
  have h1 : (a : Rat) ≤ 0 := Rat.intCast_nonpos.2 ha
  have h2 : 0 < d⁻¹ := Rat.inv_pos.2 hd
  rw [Rat.div_def]
  have := Rat.mul_nonneg (a := -(a : Rat)) (b := d⁻¹) (by grind) (by grind)
  grind
theorem div_ge0 {a : Int} {d : Rat} (hd : 0 < d) (ha : 0 ≤ a) : 0 ≤ (a : Rat) / d := by
  have h2 : 0 < d⁻¹ := Rat.inv_pos.2 hd
  rw [Rat.div_def]
  exact Rat.mul_nonneg (Rat.intCast_nonneg.2 ha) (by grind)
theorem div_gt0 {a : Int} {d : Rat} (hd : 0 < d) (ha : 0 < a) : 0 < (a : Rat) / d := by
  rw [Rat.div_def]; exact Rat.mul_pos (rqp ha) (Rat.inv_pos.2 hd)
theorem sg_abs {b : Int} : b = sg b * b.natAbs := by unfold sg; split <;> omega
theorem DualP.sgn {p : Pr} {Y : List F} {co : Nat → Int} {s s0 : TS} {by' : Nat → Int} {sc : Int} (h : DualP p by' s0 s co sc Y) : Sgn p Y := by
  refine (sgn_iff h.vp h.len).2 fun i hi => ?_
  obtain ⟨hv, hy⟩ := h.y i hi
  have d0 := rqp h.ti.inv.d0
  have c0 := rqp (show 0 < sc by have := h.sc0; omega)
  have hk : p.c.length + i < nE p + 1 := by unfold nE; omega
  have e2 := h.ti.inv.pi (fun l hl => uC_lt hl) hk
  have e3 : sI p.r.length (fun l => (s.2.2 * co (uC p l) - s.1 p.r.length (uC p l)) * s0.1 l (p.c.length + i)) = pi' p co s i * (sg (by' i) * sns (p.r.getD i rw0)) := by
    rw [sI_one hi (fun l hl hn => by rw [(h.ini.1 l hl).sl i hi, if_neg (Ne.symm hn), Int.mul_zero]), (h.ini.1 i hi).sl i hi, if_pos rfl]; rfl
  rw [e3, h.sl0 i hi, Int.mul_zero] at e2
  have hn := h.nn (p.c.length + i) (by unfold nC; omega)
  have hval : val (Y.getD i (0, 1)) = ((pi' p co s i * by' i : Int) : Rat) / ((s.2.2 : Rat) * (sc : Rat)) := by
    rw [hy, Rat.intCast_mul]; grind
  have hds : 0 < (s.2.2 : Rat) * (sc : Rat) := Rat.mul_pos d0 c0
  have hby : by' i = sg (by' i) * (by' i).natAbs := sg_abs
  have hq : pi' p co s i * by' i = (pi' p co s i * sg (by' i)) * (by' i).natAbs := by
    conv => lhs; rw [hby]
    rw [Int.mul_assoc]
  refine ⟨hv, ?_, ?_⟩
  · rintro ⟨hs, hpos⟩
    have h1 : sns (p.r.getD i rw0) = 1 := by unfold sns; rw [if_pos hs]
    rw [h1, Int.mul_one] at e2
    have h2 : (pi' p co s i * sg (by' i)) * (by' i).natAbs ≤ 0 := Int.mul_nonpos_of_nonpos_of_nonneg (by omega) (by omega)
    have := hv.pos.1 hpos
    rw [hval, hq] at this
    have := div_le0 hds h2
    grind
  · rintro ⟨hs, hneg⟩
    have h1 : sns (p.r.getD i rw0) = -1 := by unfold sns; rw [if_neg (by omega), if_pos hs]
    rw [h1] at e2
    have h2 : 0 ≤ (pi' p co s i * sg (by' i)) * (by' i).natAbs := Int.mul_nonneg (by
      have : pi' p co s i * (sg (by' i) * -1) = -(pi' p co s i * sg (by' i)) := by grind
      omega) (by omega)
    have := hv.neg.1 hneg
    rw [hval, hq] at this
    have := div_ge0 hds h2
    grind
end Go.Proofs.Ytbdahmfjeklgbaa
