/-
  A text of the proofs of this seat: lemmas that the statements' proofs use; it states nothing of the program by itself beyond the contracts that its theorems bear. Conditions: those that stand in each theorem. Its short name: Hp.
-/
import Derived.Test.YtlnpbgjoccipaaaPl
set_option linter.unusedVariables false
set_option linter.unusedSimpArgs false
namespace Go.Cv
/-! hop curves, plainly -/
def hpf (f : C3) (m : Int) (t : Nat) : Int := if t = 0 then 0 else if infAt f.1 (t - 1) then INF else max 0 (cv f (t - 1) - (m - 1))
theorem infAt_congr {f a : C3} (hf : VC f) (ha : VC a) (h : ∀ t, cv a t = cv f t) (t : Nat) : infAt a.1 t ↔ infAt f.1 t := by
  rw [ha.inf_clip, hf.inf_clip, h]
theorem hpf_congr {f a : C3} (hf : VC f) (ha : VC a) (h : ∀ t, cv a t = cv f t) (m : Int) : hpf a m = hpf f m := by
  funext t; unfold hpf; simp only [h, infAt_congr hf ha h]
theorem inf_small {a : C3} (ha : VC a) {t : Nat} (h : infAt a.1 (t + 1)) (hn : ¬infAt a.1 t) : cv a t ≤ 2000000000000000 := by
  have hf : ¬FinC a := fun hf => hf.not ha _ h
  have : t < a.1.length - 1 := Classical.byContradiction fun hx => hn (inf_late hf (by omega))
  exact cv_small ha (by have := ha.n2; omega) hn
theorem hpf_mono {a : C3} (ha : VC a) {m : Int} (hm : 1 ≤ m) : Mono (hpf a m) := by
  intro t
  unfold hpf
  rw [if_neg (show ¬t + 1 = 0 by omega), Nat.add_sub_cancel]
  split
  · split
    · decide
    · omega
  · rename_i ht
    obtain ⟨u, rfl⟩ : ∃ u, t = u + 1 := ⟨t - 1, by omega⟩
    rw [Nat.add_sub_cancel]
    split
    · rw [if_pos (ha.infAt_mono (Nat.le_succ u) (by assumption))]; exact Int.le_refl _
    · split
      · have := inf_small ha (t := u) (by assumption) (by assumption)
        simp only [INF]; omega
      · have := ha.mono' u
        have e : cv a u ≤ cv a (u + 1) := this
        omega
theorem hpf_bd {a : C3} (ha : VC a) {m : Int} (hm : 1 ≤ m) {t : Nat} (ht : t ≤ 1048576) : 0 ≤ hpf a m t ∧ hpf a m t ≤ INF := by
  unfold hpf
  split
  · decide
  · split
    · decide
    · have := cv_small ha (t := t - 1) (by omega) (by assumption)
      simp only [INF]; omega
theorem hpf_inf {a : C3} (ha : VC a) {m : Int} (hm : 1 ≤ m) {t : Nat} (ht : t ≤ 1048576) : hpf a m t = INF ↔ t ≠ 0 ∧ infAt a.1 (t - 1) := by
  unfold hpf
  split
  · rename_i h; simp only [INF]; constructor
    · intro h; cases h
    · rintro ⟨h1, _⟩; exact absurd h h1
  · rename_i h
    split
    · rename_i h2; exact ⟨fun _ => ⟨h, h2⟩, fun _ => rfl⟩
    · rename_i h2
      have := cv_small ha (t := t - 1) (by omega) h2
      constructor
      · intro h3; simp only [INF] at h3; omega
      · rintro ⟨_, h3⟩; exact absurd h3 h2
theorem hpf_late {a : C3} (ha : VC a) {m : Int} (hm : 1 ≤ m) {s : Nat} (hs : s ≤ 1048576) (h : hpf a m s = INF) : ∀ t, s ≤ t → hpf a m t = INF := by
  intro t ht
  obtain ⟨h1, h2⟩ := (hpf_inf ha hm hs).1 h
  unfold hpf
  rw [if_neg (by omega), if_pos (ha.infAt_mono (by omega) h2)]
theorem hpf_per {a : C3} (ha : VC a) (fa : FinC a) {m : Int} {s : Nat} (h1 : a.1.length - a.2.1 + 1 ≤ s) (h2 : a.2.2 = 0 ∨ m - 1 ≤ cv a (s - 1)) : Per (hpf a m) s a.2.1 a.2.2 := by
  intro t ht
  have hp := ha.per (t - 1) (by omega)
  have hp2 : cv a (t + a.2.1 - 1) = cv a (t - 1) + a.2.2 := by rw [show t + a.2.1 - 1 = t - 1 + a.2.1 by omega]; exact hp
  have hle := ha.cvle (s := s - 1) (t := t - 1) (by omega)
  unfold hpf
  rw [if_neg (show ¬t + a.2.1 = 0 by omega), if_neg (show ¬t = 0 by omega), if_neg (fa.not ha _), if_neg (fa.not ha _), hp2]
  have := ha.q0
  omega
theorem q_pos {f a : C3} (hf : VC f) (ha : VC a) (h : ∀ t, cv a t = cv f t) : 0 < a.2.2 ↔ 0 < f.2.2 := by
  have e : cv a = cv f := funext h
  have h1 := ha.per
  have h2 := hf.per
  rw [show val a.1 a.2.1 a.2.2 = val f.1 f.2.1 f.2.2 from e] at h1
  have h3 := h1.mul f.2.1
  have h4 := h2.mul a.2.1
  rw [Nat.mul_comm] at h4
  have h5 := h3.uniq h4
  have p1 := hf.p1
  have p2 := ha.p1
  have q1 := hf.q0
  have q2 := ha.q0
  constructor
  · intro h
    have : 0 < (f.2.1 : Int) * a.2.2 := Int.mul_pos (by omega) h
    rw [h5] at this
    rcases Int.lt_or_eq_of_le q1 with h | h
    · exact h
    · rw [← h, Int.mul_zero] at this; omega
  · intro h
    have : 0 < (a.2.1 : Int) * f.2.2 := Int.mul_pos (by omega) h
    rw [← h5] at this
    rcases Int.lt_or_eq_of_le q2 with h | h
    · exact h
    · rw [← h, Int.mul_zero] at this; omega
/- what Hop returns -/
def HopR (f : C3) (m : Int) (x : List Int × Int × Int × Int) : Prop := ((0 < f.2.2 ∧ cv f 399 < m - 1) ∧ x = ([], 0, 0, 3)) ∨ (¬(0 < f.2.2 ∧ cv f 399 < m - 1) ∧ MkP (hpf f m) x)
end Go.Cv
