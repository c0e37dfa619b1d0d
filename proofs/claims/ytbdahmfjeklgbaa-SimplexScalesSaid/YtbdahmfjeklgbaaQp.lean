/-
  A text of the proofs of this seat: lemmas that the statements' proofs use; it states nothing of the program by itself beyond the contracts that its theorems bear. Conditions: those that stand in each theorem. Its short name: Qp.
-/
import Derived.Test.YtbdahmfjeklgbaaQm
set_option linter.unusedVariables false
set_option linter.unusedSimpArgs false
namespace Go.Proofs.Ytbdahmfjeklgbaa
open Go.Sx Go.Fq Go.Dt
set_option maxRecDepth 4000
set_option maxHeartbeats 2000000
/-! changed programmes: costs times a number, rows in another order, one more row -/
def qp (p : Pr) (n : Int) : Pr := ⟨p.c.map fun f => (f.1 * n, 1), p.r⟩
theorem qp_cost {p : Pr} {n : Int} (hs : Sml p) {j : Nat} (hj : j < p.c.length) : cR (qp p n) j = (n : Rat) * cR p j := by
  have hm := List.getElem_mem hj
  have e1 := (hs.c _ hm).1
  show at' _ j = _ * at' p.c j
  rw [at_get hj, at_get (show j < (qp p n).c.length by simp [qp, hj])]
  rw [val_d1 e1, val_d1 (by simp [qp])]
  simp only [qp, List.getElem_map]
  rw [Rat.intCast_mul]; grind
theorem qp_cst {p : Pr} {n : Int} (hs : Sml p) {x : Nat → Rat} : cst' (qp p n) x = (n : Rat) * cst' p x := by
  have e : (qp p n).c.length = p.c.length := by simp [qp]
  unfold cst'; rw [e, ← sm_mul']
  exact sm_congr fun j hj => by rw [qp_cost hs hj]; grind
theorem qp_feas {p : Pr} {n : Int} {x : Nat → Rat} : RFeas p x ↔ RFeas (qp p n) x := by
  have e : (qp p n).c.length = p.c.length := by simp [qp]
  rw [rfeas_iff, rfeas_iff, e]; exact Iff.rfl
theorem qp_vp {p : Pr} {n : Int} (h : VP p) (hs : Sml p) (hn : 1 ≤ n ∧ n ≤ 3) : VP (qp p n) := by
  have e : (qp p n).c.length = p.c.length := by simp [qp]
  obtain ⟨h1, h2, h3, h4, h5⟩ := h
  refine ⟨by rw [e]; exact h1, by rw [e]; exact h2, h3, fun f hf => ?_, by rw [e]; exact h5⟩
  simp only [qp, List.mem_map] at hf
  obtain ⟨g, hg, rfl⟩ := hf
  have := (hs.c g hg).2
  have hb : -30 ≤ g.1 * n ∧ g.1 * n ≤ 30 := by
    rcases (show n = 1 ∨ n = 2 ∨ n = 3 by omega) with h | h | h <;> subst h <;> omega
  exact vf_int (by omega) (by omega)
theorem qp_law {p : Pr} {n : Int} (hv : VP p) (hs : Sml p) (hn : 1 ≤ n ∧ n ≤ 3) {s s' : Int} {v v' : F} (h1 : VF v) (h2 : VF v') (h : RSol p s (val v)) (k : RSol (qp p n) s' (val v')) : s' = s ∧ v' = ((fmul v (n, 1)).1, (fmul v (n, 1)).2.1) := by
  have hn0 : (0 : Rat) < (n : Rat) := rqp (by omega)
  obtain ⟨e1, e2⟩ := (h.sem (VP.sn hv)).scale (k.sem (VP.sn (qp_vp hv hs hn))) hn0 (fun x => qp_feas) (fun x => qp_cst hs)
  refine ⟨e1, ?_⟩
  have hn1 : VF (n, 1) := vf_int (by omega) (by omega)
  unfold fmul
  rw [if_pos ⟨h1, hn1⟩]
  have e3 : val v * val (n, 1) = val v' := by rw [e2, val_d1 (show ((n, 1) : F).2 = 1 from rfl)]; grind
  rw [e3]
  unfold fenc
  rw [if_pos h2.sm]
  exact h2.enc.symm
theorem rr_law {p r : Pr} (hv : VP p) (hr : VP r) (hc : r.c = p.c) (hm : ∀ w, w ∈ r.r ↔ w ∈ p.r) {s s' : Int} {v v' : F} (h1 : VF v) (h2 : VF v') (h : RSol p s (val v)) (k : RSol r s' (val v')) : s' = s ∧ v' = v := by
  have hf : ∀ x, RFeas p x ↔ RFeas r x := fun x => by
    rw [rfeas_iff, rfeas_iff, hc]
    exact ⟨fun h => ⟨h.1, fun w hw => h.2 w ((hm w).1 hw)⟩, fun h => ⟨h.1, fun w hw => h.2 w ((hm w).2 hw)⟩⟩
  obtain ⟨e1, e2⟩ := (h.sem (VP.sn hv)).scale (k.sem (VP.sn hr)) (n := 1) (by decide +kernel) hf (fun x => by unfold cst' cR; rw [hc]; grind)
  exact ⟨e1, h2.inj h1 (by rw [e2]; grind)⟩
def up' (p : Pr) (w : Rw) : Pr := ⟨p.c, p.r ++ [w]⟩
theorem up_law {p : Pr} {w : Rw} (hv : VP p) (hr : VP (up' p w)) {s s' : Int} {v v' : F} (h1 : VF v) (h2 : VF v') (h : RSol p s (val v)) (k : RSol (up' p w) s' (val v')) : (s = 3 → s' = 3) ∧ (s = 1 → s' ≠ 2 ∧ (s' = 1 → ¬fcmp v' v < 0)) := by
  obtain ⟨e1, e2⟩ := (h.sem (VP.sn hv)).less (k.sem (VP.sn hr)) (fun x hx => by
    rw [rfeas_iff] at hx ⊢
    exact ⟨hx.1, fun w hw => hx.2 w (by simp [up', hw])⟩) (fun x => rfl)
  refine ⟨e1, fun e => ⟨(e2 e).1, fun e' => ?_⟩⟩
  rw [fcmp_lt h2 h1]
  have := (e2 e).2 e'
  grind
theorem RSol.rng {p : Pr} {s : Int} {v : Rat} (h : RSol p s v) : s = 1 ∨ s = 2 ∨ s = 3 := by
  cases h
  · exact .inl rfl
  · exact .inr (.inl rfl)
  · exact .inr (.inr rfl)
theorem rr_vp {p : Pr} {l : List Rw} (hv : VP p) (hl : l.length ≤ 24) (hm : ∀ w, w ∈ l ↔ w ∈ p.r) : VP ⟨p.c, l⟩ := by
  obtain ⟨h1, h2, h3, h4, h5⟩ := hv
  exact ⟨h1, h2, hl, h4, fun w hw => h5 w ((hm w).1 hw)⟩
theorem up_vp {p : Pr} {w : Rw} (hv : VP p) (hl : p.r.length ≤ 4) (hw : RwOK p.c.length w) : VP (up' p w) := by
  obtain ⟨h1, h2, h3, h4, h5⟩ := hv
  refine ⟨h1, h2, by simp [up']; omega, h4, fun w' hw' => ?_⟩
  simp only [up', List.mem_append, List.mem_singleton] at hw'
  rcases hw' with h | rfl
  · exact h5 _ h
  · exact hw
end Go.Proofs.Ytbdahmfjeklgbaa
