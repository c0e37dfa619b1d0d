/-
  A text of the proofs of this seat: lemmas that the statements' proofs use; it states nothing of the program by itself beyond the contracts that its theorems bear. Conditions: those that stand in each theorem. Its short name: Qk.
-/
import Derived.Test.YtbdahmfjeklgbaaQj
set_option linter.unusedVariables false
set_option linter.unusedSimpArgs false
namespace Go.Proofs.Ytbdahmfjeklgbaa
open Go.Sx Go.Fq Go.Dt
set_option maxRecDepth 4000
set_option maxHeartbeats 2000000
/-! without costs, without rows -/
def zp (p : Pr) : Pr := ⟨List.replicate p.c.length (0, 1), p.r⟩
def np (p : Pr) : Pr := ⟨p.c, []⟩
theorem zp_len {p : Pr} : (zp p).c.length = p.c.length := by simp [zp]
theorem zp_cost {p : Pr} {j : Nat} : cR (zp p) j = 0 := by
  unfold cR at' zp
  by_cases h : j < p.c.length
  · simp [List.getD_eq_getElem?_getD, h, val_zero]
  · simp [List.getD_eq_getElem?_getD, h, val_zero]
theorem zp_feas {p : Pr} {x : Nat → Rat} : RFeas (zp p) x ↔ RFeas p x := by
  constructor
  · intro h; exact ⟨by have := h.nn; rw [zp_len] at this; exact this, by have := h.r1; rw [zp_len] at this; exact this, by have := h.r2; rw [zp_len] at this; exact this, by have := h.r3; rw [zp_len] at this; exact this⟩
  · intro h; exact ⟨by rw [zp_len]; exact h.nn, by rw [zp_len]; exact h.r1, by rw [zp_len]; exact h.r2, by rw [zp_len]; exact h.r3⟩
theorem zp_vp {p : Pr} (h : VP p) : VP (zp p) := by
  obtain ⟨h1, h2, h3, h4, h5⟩ := h
  refine ⟨by rw [zp_len]; exact h1, by rw [zp_len]; exact h2, h3, fun f hf => ?_, by rw [zp_len]; exact h5⟩
  have := List.eq_of_mem_replicate hf
  subst this; exact vf_01
theorem zp_sml {p : Pr} (h : Sml p) : Sml (zp p) := by
  refine ⟨by rw [zp_len]; exact h.n4, h.m4, fun f hf => ?_, h.r⟩
  have := List.eq_of_mem_replicate hf
  subst this; decide
theorem zp_law {p : Pr} (hv : VP p) {st st' : Int} {v v' : Rat} (h : RSol p st v) (k : RSol (zp p) st' v') : st' ≠ 2 ∧ (st = 3 ↔ st' = 3) ∧ v' = 0 := by
  have hz : ∀ x : Nat → Rat, sm (zp p).c.length (fun j => cR (zp p) j * x j) = 0 := fun x => by
    rw [sm_congr (g := fun _ => 0) (fun i _ => by rw [zp_cost]; grind), sm_zero]
  have key : ∀ x, RFeas p x → st' ≠ 3 := fun x hx e => by
    subst e
    cases k with
    | inf hy hc hp => exact RSol.noinf (VP.sn (zp_vp hv)) (zp_feas.2 hx) hy hc hp
  cases k with
  | opt hx hy hc h1 h2 =>
    refine ⟨by decide, ⟨fun e => ?_, fun e => absurd e (by decide)⟩, by rw [← h1, hz]⟩
    subst e
    cases h with
    | inf ky kc kp => exact absurd kp (RSol.noinf (VP.sn hv) (zp_feas.1 hx) ky kc)
  | unb hx hr hn => rw [hz] at hn; exact absurd hn (by decide +kernel)
  | inf hy hc hp =>
    refine ⟨by decide, ⟨fun _ => rfl, fun _ => ?_⟩, rfl⟩
    cases h with
    | opt hx => exact absurd rfl (key _ hx)
    | unb hx => exact absurd rfl (key _ hx)
    | inf => rfl
theorem sm_ind {g : Nat → Rat} {j : Nat} : ∀ {n : Nat}, sm n (fun i => if i = j then g i else 0) = if j < n then g j else 0
  | 0 => by simp [sm]
  | n + 1 => by
    simp only [sm]
    rw [sm_ind]
    by_cases h1 : j < n
    · rw [if_pos h1, if_pos (show j < n + 1 by omega), if_neg (show ¬n = j by omega)]; grind
    · by_cases h2 : n = j
      · subst h2; rw [if_neg h1, if_pos rfl, if_pos (show n < n + 1 by omega)]; grind
      · rw [if_neg h1, if_neg h2, if_neg (show ¬j < n + 1 by omega)]; grind
theorem val_nn {f : F} (h : VF f) : 0 ≤ val f ↔ 0 ≤ f.1 := by
  rw [← Rat.num_nonneg, h.num]
theorem np_law {p : Pr} (hv : VP p) {st : Int} {v : Rat} (k : RSol (np p) st v) : ((∃ f ∈ p.c, f.1 < 0) → st = 2) ∧ (¬(∃ f ∈ p.c, f.1 < 0) → st = 1 ∧ v = 0) := by
  have hvn : VP (np p) := ⟨hv.1, hv.2.1, by simp [np], hv.2.2.2.1, by simp [np]⟩
  have hf : ∀ x : Nat → Rat, (∀ j, 0 ≤ x j) → RFeas (np p) x := fun x h => ⟨fun j _ => h j, fun i hi => absurd hi (by simp [np]), fun i hi => absurd hi (by simp [np]), fun i hi => absurd hi (by simp [np])⟩
  refine ⟨fun ⟨f, hm, hn⟩ => ?_, fun h => ?_⟩
  · obtain ⟨j, hj, e⟩ := List.getElem_of_mem hm
    have ej : cR (np p) j = val f := by
      show val (p.c.getD j (0, 1)) = _
      rw [List.getD_eq_getElem?_getD, List.getElem?_eq_getElem hj, e]; rfl
    have hneg : val f < 0 := by
      rw [← Rat.not_le]
      intro h0
      have := (val_nn (hv.2.2.2.1 f hm)).1 h0
      omega
    have hr : ∀ i : Nat, (0 : Rat) ≤ if i = j then 1 else 0 := fun i => by split <;> decide +kernel
    refine (k.uniq (VP.sn hvn) (RSol.unb (x := fun _ => 0) (r := fun i => if i = j then 1 else 0) (hf _ fun _ => by decide +kernel) ⟨fun j _ => hr j, fun i hi => absurd hi (by simp [np]), fun i hi => absurd hi (by simp [np]), fun i hi => absurd hi (by simp [np])⟩ ?_)).1
    rw [sm_congr (g := fun i => if i = j then cR (np p) i else 0) (fun i _ => by split <;> grind), sm_ind, if_pos (show j < (np p).c.length from hj), ej]
    exact hneg
  · have hR : RSol (np p) 1 0 := by
      refine RSol.opt (x := fun _ => 0) (y := fun _ => 0) (v := 0) (hf _ fun _ => by decide +kernel) ⟨fun i hi => absurd hi (by simp [np]), fun i hi => absurd hi (by simp [np])⟩ (fun j hj => ?_) ?_ rfl
      · show (0 : Rat) ≤ val (p.c.getD j (0, 1))
        have hm := gd_mem (d := ((0, 1) : F)) (show j < p.c.length from hj)
        exact (val_nn (hv.2.2.2.1 _ hm)).2 (by
          have : ¬(p.c.getD j (0, 1)).1 < 0 := fun e => h ⟨_, hm, e⟩
          omega)
      · rw [sm_congr (g := fun _ => 0) (fun i _ => by grind), sm_zero]
    exact k.uniq (VP.sn hvn) hR
end Go.Proofs.Ytbdahmfjeklgbaa
