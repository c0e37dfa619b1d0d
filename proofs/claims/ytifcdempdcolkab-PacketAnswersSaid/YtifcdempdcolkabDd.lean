/-
  A text of the proofs of this seat: lemmas that the statements' proofs use; it states nothing of the program by itself beyond the contracts that its theorems bear. Conditions: those that stand in each theorem. Its short name: Dd.
-/
import Derived.Test.YtifcdempdcolkabDc
set_option linter.unusedVariables false
set_option linter.unusedSimpArgs false
namespace Go.Cv
/-! the hop curve, however it is made -/
theorem per_mul {F : Nat → Int} {s p : Nat} (h : Per F s p 0) : ∀ k, F (s + k * p) = F s
  | 0 => by simp
  | k + 1 => by rw [Nat.succ_mul, ← Nat.add_assoc, h _ (Nat.le_add_right _ _), per_mul h k]; omega
theorem cv_mul {f : C3} (hf : VC f) (ff : FinC f) : ∀ k : Nat, cv f (f.1.length - f.2.1 + k * f.2.1) = cv f (f.1.length - f.2.1) + k * f.2.2
  | 0 => by simp
  | k + 1 => by
    rw [Nat.succ_mul, ← Nat.add_assoc, cv_pera hf ff (Nat.le_add_right _ _), cv_mul hf ff k]
    have : ((k + 1 : Nat) : Int) * f.2.2 = k * f.2.2 + f.2.2 := by rw [Int.natCast_succ, Int.add_mul, Int.one_mul]
    omega
theorem hop_late {f : C3} (hf : VC f) {m : Int} (hm : 1 ≤ m) (hq : 0 < f.2.2) (h : cv f 399 < m - 1) : MkP (hpf f m) ([], 0, 0, 3) := by
  have ff : FinC f := fun h => by have := hf.inf h; omega
  have hm0 := hpf_mono hf hm
  refine mkP_lim fun vs p q hn hv => ?_
  obtain ⟨s, p1, hper, _, _, rfl⟩ := hn
  have n2 := hv.n2
  rw [vals_len] at n2
  have h400 : hpf f m 400 = 0 := by
    unfold hpf; rw [if_neg (by omega), if_neg (ff.not hf _)]
    show max 0 (cv f 399 - (m - 1)) = 0
    omega
  have hz : ∀ t, t ≤ 400 → hpf f m t = 0 := fun t ht => by
    have h1 := hm0.le ht
    have h2 := (hpf_bd hf hm (t := t) (by omega)).1
    omega
  have h1 := hper s (Nat.le_refl _)
  rw [hz s (by omega), hz (s + p) (by omega)] at h1
  have : q = 0 := by omega
  subst this
  obtain ⟨k, hk⟩ : ∃ k : Nat, m = k := ⟨m.toNat, by omega⟩
  have h2 := cv_mul hf ff k
  have h3 : (k : Int) ≤ k * f.2.2 := by
    have : (k : Int) * 1 ≤ k * f.2.2 := Int.mul_le_mul_of_nonneg_left (by omega) (by omega)
    omega
  have h4 : 0 ≤ cv f (f.1.length - f.2.1) := hf.nonneg _
  obtain ⟨T, hT⟩ : ∃ T, f.1.length - f.2.1 + k * f.2.1 = T := ⟨_, rfl⟩
  rw [hT] at h2
  have h5 : 1 ≤ hpf f m (T + 1) := by
    unfold hpf; rw [if_neg (by omega), if_neg (ff.not hf _), Nat.add_sub_cancel]
    omega
  have h6 : T + 1 ≤ s + (T + 1) * p := by
    have : (T + 1) * 1 ≤ (T + 1) * p := Nat.mul_le_mul_left _ p1
    omega
  have h7 := hm0.le h6
  rw [per_mul hper, hz s (by omega)] at h7
  omega
theorem HopR.mk {f : C3} (hf : VC f) {m : Int} (hm : 1 ≤ m) {x} (h : HopR f m x) : MkP (hpf f m) x := by
  rcases h with ⟨⟨h1, h2⟩, rfl⟩ | ⟨_, h⟩
  · exact hop_late hf hm h1 h2
  · exact h
end Go.Cv
