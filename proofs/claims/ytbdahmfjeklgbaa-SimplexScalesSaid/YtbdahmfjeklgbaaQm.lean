/-
  A text of the proofs of this seat: lemmas that the statements' proofs use; it states nothing of the program by itself beyond the contracts that its theorems bear. Conditions: those that stand in each theorem. Its short name: Qm.
-/
import Derived.Test.YtbdahmfjeklgbaaQj
set_option linter.unusedVariables false
set_option linter.unusedSimpArgs false
namespace Go.Proofs.Ytbdahmfjeklgbaa
open Go.Sx Go.Fq Go.Dt
set_option maxRecDepth 4000
set_option maxHeartbeats 2000000
/-! what a solution says of all points -/
def rk (n : Nat) (x : Nat → Rat) (w : Rw) : Prop :=
  (w.2.1 = 1 → sm n (fun j => at' w.1 j * x j) ≤ val w.2.2) ∧ (w.2.1 = 2 → val w.2.2 ≤ sm n (fun j => at' w.1 j * x j)) ∧ (w.2.1 = 3 → sm n (fun j => at' w.1 j * x j) = val w.2.2)
theorem gd_rw {p : Pr} {i : Nat} (hi : i < p.r.length) : p.r.getD i rw0 = p.r[i] := by
  rw [List.getD_eq_getElem?_getD, List.getElem?_eq_getElem hi]; rfl
theorem rfeas_iff {p : Pr} {x : Nat → Rat} : RFeas p x ↔ (∀ j < p.c.length, 0 ≤ x j) ∧ ∀ w ∈ p.r, rk p.c.length x w := by
  have eA : ∀ {i}, (hi : i < p.r.length) → sm p.c.length (fun j => A p i j * x j) = sm p.c.length (fun j => at' p.r[i].1 j * x j) := fun hi => sm_congr fun j _ => by rw [at_row hi]
  have eB : ∀ {i}, (hi : i < p.r.length) → B p i = val p.r[i].2.2 := fun hi => at_bds hi
  constructor
  · intro h
    refine ⟨h.nn, fun w hw => ?_⟩
    obtain ⟨i, hi, rfl⟩ := List.getElem_of_mem hw
    have h1 := h.r1 i hi
    have h2 := h.r2 i hi
    have h3 := h.r3 i hi
    rw [gd_rw hi, eA hi, eB hi] at h1 h2 h3
    exact ⟨h1, h2, h3⟩
  · rintro ⟨h0, h⟩
    refine ⟨h0, fun i hi => ?_, fun i hi => ?_, fun i hi => ?_⟩ <;> rw [gd_rw hi, eA hi, eB hi]
    · exact (h _ (List.getElem_mem hi)).1
    · exact (h _ (List.getElem_mem hi)).2.1
    · exact (h _ (List.getElem_mem hi)).2.2
def cst' (p : Pr) (x : Nat → Rat) : Rat := sm p.c.length (fun j => cR p j * x j)
/- a solution, said of all points -/
structure Sem (p : Pr) (s : Int) (v : Rat) : Prop where
  st : s = 1 ∨ s = 2 ∨ s = 3
  v0 : s ≠ 1 → v = 0
  att : s = 1 → ∃ x, RFeas p x ∧ cst' p x = v
  low : s = 1 → ∀ x, RFeas p x → v ≤ cst' p x
  unb : s = 2 → ∀ M : Rat, ∃ x, RFeas p x ∧ cst' p x < M
  inf : s = 3 → ∀ x, ¬RFeas p x
theorem sm_lin {n : Nat} {f g : Nat → Rat} {t : Rat} : sm n (fun j => f j + t * g j) = sm n f + t * sm n g := by
  rw [sm_add, sm_mul']
theorem ray_step {p : Pr} {x r : Nat → Rat} (hx : RFeas p x) (hr : RRay p r) {t : Rat} (ht : 0 ≤ t) : RFeas p (fun j => x j + t * r j) := by
  have e : ∀ i, sm p.c.length (fun j => A p i j * (x j + t * r j)) = sm p.c.length (fun j => A p i j * x j) + t * sm p.c.length (fun j => A p i j * r j) := fun i => by
    rw [← sm_lin]; exact sm_congr fun j _ => by grind
  refine ⟨fun j hj => ?_, fun i hi hs => ?_, fun i hi hs => ?_, fun i hi hs => ?_⟩
  · have := Rat.mul_nonneg ht (hr.nn j hj); have := hx.nn j hj; grind
  · rw [e]
    have h1 := hx.r1 i hi hs
    have h2 := Rat.mul_nonneg ht (show 0 ≤ -(sm p.c.length (fun j => A p i j * r j)) by have := hr.r1 i hi hs; grind)
    grind
  · rw [e]
    have h1 := hx.r2 i hi hs
    have h2 := Rat.mul_nonneg ht (hr.r2 i hi hs)
    grind
  · rw [e, hx.r3 i hi hs, hr.r3 i hi hs]; grind
theorem RSol.sem {p : Pr} (hv : SnOK p) {s : Int} {v : Rat} (h : RSol p s v) : Sem p s v := by
  cases h with
  | opt hx hy hc h1 h2 =>
    exact ⟨.inl rfl, fun h => absurd rfl h, fun _ => ⟨_, hx, h1⟩, fun _ x' hx' => by have := hx'.weak hy hv hc; rw [h2] at this; exact this, fun h => absurd h (by decide), fun h => absurd h (by decide)⟩
  | @unb x r hx hr hn =>
    refine ⟨.inr (.inl rfl), fun _ => rfl, fun h => absurd h (by decide), fun h => absurd h (by decide), fun _ M => ?_, fun h => absurd h (by decide)⟩
    let g := sm p.c.length (fun j => cR p j * r j)
    let c0 := cst' p x
    have hg : 0 < -g := by show 0 < -(sm _ _); grind
    by_cases hM : c0 < M
    · exact ⟨x, hx, hM⟩
    have h1 : 0 ≤ (c0 - M) + 1 := by have : M ≤ c0 := Rat.not_lt.1 hM; grind
    have hi : 0 < (-g)⁻¹ := Rat.inv_pos.2 hg
    refine ⟨fun j => x j + ((c0 - M) + 1) * (-g)⁻¹ * r j, ray_step hx hr (Rat.mul_nonneg h1 (Rat.le_of_lt hi)), ?_⟩
    have e : cst' p (fun j => x j + ((c0 - M) + 1) * (-g)⁻¹ * r j) = c0 + ((c0 - M) + 1) * (-g)⁻¹ * g := by
      show sm _ _ = _
      rw [sm_congr (g := fun j => cR p j * x j + ((c0 - M) + 1) * (-g)⁻¹ * (cR p j * r j)) (fun j _ => by grind), sm_lin]; rfl
    rw [e]
    have e2 : (-g)⁻¹ * g = -1 := by
      have : (-g) * (-g)⁻¹ = 1 := Rat.mul_inv_cancel _ (by grind)
      grind
    have e3 : ((c0 - M) + 1) * (-g)⁻¹ * g = ((c0 - M) + 1) * ((-g)⁻¹ * g) := by grind
    rw [e3, e2]; grind
  | inf hy hc hp => exact ⟨.inr (.inr rfl), fun _ => rfl, fun h => absurd h (by decide), fun h => absurd h (by decide), fun h => absurd h (by decide), fun _ x hx => absurd hp (RSol.noinf hv hx hy hc)⟩
/- the same points, costs times a positive number -/
theorem Sem.scale {p q : Pr} {s s' : Int} {v v' n : Rat} (h : Sem p s v) (k : Sem q s' v') (hn : 0 < n) (hf : ∀ x, RFeas p x ↔ RFeas q x) (hc : ∀ x, cst' q x = n * cst' p x) : s' = s ∧ v' = n * v := by
  have hi : 0 < n⁻¹ := Rat.inv_pos.2 hn
  have hni : n * n⁻¹ = 1 := Rat.mul_inv_cancel _ (by grind)
  have low : s = 1 → ∀ x, RFeas q x → n * v ≤ cst' q x := fun e x hx => by
    rw [hc]; exact Rat.mul_le_mul_of_nonneg_left (h.low e x ((hf x).2 hx)) (Rat.le_of_lt hn)
  rcases h.st with rfl | rfl | rfl
  · obtain ⟨x, hx, ex⟩ := h.att rfl
    have hq := (hf x).1 hx
    rcases k.st with rfl | rfl | rfl
    · obtain ⟨y, hy, ey⟩ := k.att rfl
      have a1 := k.low rfl x hq
      have a2 := low rfl y hy
      rw [hc, ex] at a1; rw [ey] at a2
      exact ⟨rfl, by grind⟩
    · obtain ⟨y, hy, ey⟩ := k.unb rfl (n * v)
      have := low rfl y hy
      exfalso; grind
    · exact absurd hq (k.inf rfl x)
  · have e0 := h.v0 (by decide)
    subst e0
    obtain ⟨x, hx, _⟩ := h.unb rfl 0
    have hq := (hf x).1 hx
    rcases k.st with rfl | rfl | rfl
    · obtain ⟨y, hy, ey⟩ := h.unb rfl (n⁻¹ * v')
      have a1 := k.low rfl y ((hf y).1 hy)
      rw [hc] at a1
      have h3 := Rat.mul_lt_mul_of_pos_left ey hn
      rw [← Rat.mul_assoc, hni, Rat.one_mul] at h3
      exfalso; grind
    · exact ⟨rfl, by rw [k.v0 (by decide)]; grind⟩
    · exact absurd hq (k.inf rfl x)
  · have e0 := h.v0 (by decide)
    subst e0
    rcases k.st with rfl | rfl | rfl
    · obtain ⟨x, hx, _⟩ := k.att rfl
      exact absurd ((hf x).2 hx) (h.inf rfl x)
    · obtain ⟨x, hx, _⟩ := k.unb rfl 0
      exact absurd ((hf x).2 hx) (h.inf rfl x)
    · exact ⟨rfl, by rw [k.v0 (by decide)]; grind⟩
/- fewer points, the same costs -/
theorem Sem.less {p q : Pr} {s s' : Int} {v v' : Rat} (h : Sem p s v) (k : Sem q s' v') (hf : ∀ x, RFeas q x → RFeas p x) (hc : ∀ x, cst' q x = cst' p x) : (s = 3 → s' = 3) ∧ (s = 1 → s' ≠ 2 ∧ (s' = 1 → v ≤ v')) := by
  refine ⟨fun e => ?_, fun e => ⟨fun e2 => ?_, fun e2 => ?_⟩⟩
  · rcases k.st with rfl | rfl | rfl
    · obtain ⟨x, hx, _⟩ := k.att rfl
      exact absurd (hf x hx) (h.inf e x)
    · obtain ⟨x, hx, _⟩ := k.unb rfl 0
      exact absurd (hf x hx) (h.inf e x)
    · rfl
  · obtain ⟨y, hy, ey⟩ := k.unb e2 v
    have := h.low e y (hf y hy)
    rw [hc] at ey; grind
  · obtain ⟨y, hy, ey⟩ := k.att e2
    have := h.low e y (hf y hy)
    rw [← ey, hc]; exact this
end Go.Proofs.Ytbdahmfjeklgbaa
