/-
  A text of the proofs of this seat: lemmas that the statements' proofs use; it states nothing of the program by itself beyond the contracts that its theorems bear. Conditions: those that stand in each theorem. Its short name: Qh.
-/
import Derived.Test.YtbdahmfjeklgbaaQf
set_option linter.unusedVariables false
set_option linter.unusedSimpArgs false
namespace Go.Proofs.Ytbdahmfjeklgbaa
open Go.Sx Go.Fq Go.Dt
set_option maxRecDepth 4000
set_option maxHeartbeats 2000000
theorem val_d1 {f : F} (h : f.2 = 1) : val f = (f.1 : Rat) := by
  obtain ⟨a, b⟩ := f; dsimp only at h; subst h; exact val_int a
theorem gd_mem {α : Type} {l : List α} {k : Nat} {d : α} (h : k < l.length) : l.getD k d ∈ l := by
  rw [List.getD_eq_getElem?_getD, List.getElem?_eq_getElem h]; exact List.getElem_mem _
theorem pm_bd {b x : Int} (h : b = 1 ∨ b = -1) : (b * x).natAbs = x.natAbs := by
  rcases h with h | h <;> subst h <;> omega
theorem sns_bd {w : Rw} : (sns w).natAbs ≤ 1 := by
  unfold sns; split
  · decide
  · split <;> decide
theorem sg_bd {b : Int} : sg b = 1 ∨ sg b = -1 := by unfold sg; split <;> simp
theorem t0_bd {p : Pr} {ov : Prop} {f : Nat → Nat → Int} {bs tu sl : Nat → Int} {co : Int} (hv : VP p) (hs : Sml p) (h : BuA p p.r.length ov f bs tu sl co) {l : Nat} (hl : l < p.r.length) :
    (∀ k < nE p, (f l k).natAbs ≤ 10) ∧ (f l (nE p)).natAbs ≤ 1000 := by
  obtain ⟨h1, h2, h3⟩ := h.one hs.d1
  obtain ⟨_, _, _, _, hv5⟩ := hv
  have R := (h.ex h1).2 l hl
  have hw := gd_mem (d := rw0) hl
  generalize p.r.getD l rw0 = w at *
  have hw5 := (hv5 w hw).1
  have hb : tu l * sl l = 1 ∨ tu l * sl l = -1 := by rw [h3 l hl, Int.mul_one]; exact h.ht l hl
  generalize tu l * sl l = b at *
  obtain ⟨r1, r2, r3⟩ := hs.r w hw
  refine ⟨fun k hk => ?_, ?_⟩
  · by_cases e1 : k < p.c.length
    · have hm := gd_mem (d := ((0, 1) : F)) (show k < w.1.length by omega)
      have e := R.co k e1
      rw [val_d1 (r1 _ hm).1, ← Rat.intCast_mul] at e
      have e := Rat.intCast_inj.1 e
      rw [e, pm_bd hb]; exact (r1 _ hm).2
    · by_cases e2 : k < p.c.length + p.r.length
      · have e := R.sl (k - p.c.length) (by omega)
        rw [show p.c.length + (k - p.c.length) = k by omega] at e
        rw [e]; split
        · rw [pm_bd sg_bd]; have := sns_bd (w := w); omega
        · decide
      · have e := R.ar (k - p.c.length - p.r.length) (by unfold nE at hk; omega)
        rw [show p.c.length + p.r.length + (k - p.c.length - p.r.length) = k by omega] at e
        rw [e]; split <;> decide
  · have e := R.bo
    rw [val_d1 r2, ← Rat.intCast_mul] at e
    have e := Rat.intCast_inj.1 e
    show (f l (p.c.length + 2 * p.r.length)).natAbs ≤ 1000
    rw [e, pm_bd hb]; exact r3
theorem cst_10 {n m i k : Nat} : (cst n m i k).natAbs ≤ 10 := by unfold cst; split <;> decide
theorem cc_10 {p : Pr} (hs : Sml p) {k : Nat} : (cc p 1 k).natAbs ≤ 10 := by
  unfold cc; split
  · rename_i hk
    have hm := gd_mem (d := ((0, 1) : F)) hk
    obtain ⟨c1, c2⟩ := hs.c _ hm
    rw [c1]; simpa using c2
  · decide
theorem fits_of {p : Pr} (hv : VP p) (hs : Sml p) : Fits p := by
  intro ov f bs tu sl co h
  obtain ⟨h1, h2, h3⟩ := h.one hs.d1
  subst h2
  have hT : ∀ g, (∀ l < p.r.length, ∀ k < nE p, (up2 f p.r.length g l k).natAbs ≤ 10) ∧ ∀ l < p.r.length, (up2 f p.r.length g l (nE p)).natAbs ≤ 1000 := fun g =>
    ⟨fun l hl k hk => by unfold up2; rw [if_neg (by omega)]; exact (t0_bd hv hs h hl).1 k hk, fun l hl => by unfold up2; rw [if_neg (by omega)]; exact (t0_bd hv hs h hl).2⟩
  have hcf : ∀ cf, (cf = cst p.c.length p.r.length p.r.length ∨ cf = cc p 1) → (∀ k, (cf k).natAbs ≤ 10) ∧ cf (nE p) = 0 := fun cf hc => by
    rcases hc with e | e <;> subst e
    · exact ⟨fun k => cst_10, by unfold cst; rw [if_neg (by unfold nE; omega)]⟩
    · exact ⟨fun k => cc_10 hs, cc_hi (by unfold nE; omega)⟩
  have hS : ∀ cf, (cf = cst p.c.length p.r.length p.r.length ∨ cf = cc p 1) → ∀ g (s : TS), Inv p.r.length (nE p + 1) (up2 f p.r.length g) (uC p) cf s.1 (bN s) s.2.2 → (∀ i < p.r.length, 0 ≤ s.2.1 i ∧ s.2.1 i < nE p) → TBd p.r.length (nE p) s := fun cf hc g s I hb =>
    tbd_of hs.m4 I hb (hT g).1 (hT g).2 (hcf cf hc).1 (hcf cf hc).2
  refine ⟨h1, ⟨fun a _ => b62_of (by have := cc_10 hs (k := a); omega), prF_small hs.m4 (fun k => cst_10) (by decide) (fun i hi k hk => ?_), fun cf hc g s I hb c hcE => (hS cf hc g s I hb).f hcE, fun cf hc g s I hb => ?_⟩⟩
  · obtain ⟨t1, t2⟩ := t0_bd hv hs h hi
    by_cases e : k = nE p
    · rw [e]; omega
    · have := t1 k (by omega); omega
  · have B := hS cf hc g s I hb
    have hd := B.d
    refine ⟨fun i hi => B.du rfl (.inr rfl) hi (h.ht i hi) (h3 i hi), fun i hi => B.du rfl (.inl rfl) hi (h.ht i hi) (h3 i hi), prF_small hs.m4 (fun k => cc_10 hs) (by omega) (fun i hi k hk => ?_), fun i hi => fnew_fit (by omega) (by have := B.r i hi; omega) (by omega), fun c hc i hi => fnew_fit (by omega) (by have := B.e i hi c hc; omega) (by omega), ?_, ?_, ?_⟩
    · by_cases e : k = nE p
      · rw [e]; exact B.r i hi
      · have := B.e i hi k (by omega); omega
    · rw [Int.mul_one]; exact b62_of (by omega)
    · omega
    · rw [Int.mul_one]; exact fnew_fit (by omega) (by have := B.v; omega) (by omega)
end Go.Proofs.Ytbdahmfjeklgbaa
