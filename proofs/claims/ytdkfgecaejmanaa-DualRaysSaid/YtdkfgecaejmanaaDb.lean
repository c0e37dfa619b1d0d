/-
  A text of the proofs of this seat: lemmas that the statements' proofs use; it states nothing of the program by itself beyond the contracts that its theorems bear. Conditions: those that stand in each theorem. Its short name: Db.
-/
import Derived.Test.YtdkfgecaejmanaaPl
set_option linter.unusedVariables false
set_option linter.unusedSimpArgs false
namespace Go.Dt
/-! bounds of determinants -/
theorem sI_abs {f : Nat → Int} {B : Nat} : ∀ {n : Nat}, (∀ i < n, (f i).natAbs ≤ B) → (sI n f).natAbs ≤ n * B
  | 0, _ => by simp [sI]
  | n + 1, h => by
    simp only [sI]
    have h1 := sI_abs (fun i (hi : i < n) => h i (by omega))
    have h2 := h n (by omega)
    rw [Nat.add_mul, Nat.one_mul]
    omega
/- m! * 10^m -/
def bd : Nat → Nat
  | 0 => 1
  | m + 1 => (m + 1) * (10 * bd m)
theorem sgn_abs {j : Nat} : (sgn j).natAbs = 1 := by unfold sgn; split <;> rfl
theorem D_bd : ∀ {m : Nat} {v : Nat → V}, (∀ i < m, ∀ l < m, (v i l).natAbs ≤ 10) → (D m v).natAbs ≤ bd m
  | 0, _, _ => by simp [D, bd]
  | m + 1, v, h => by
    simp only [D, bd]
    apply sI_abs
    intro j hj
    rw [Int.natAbs_mul, Int.natAbs_mul, sgn_abs, Nat.one_mul]
    exact Nat.mul_le_mul (h j hj m (by omega)) (D_bd fun i hi l hl => h _ (by unfold skip; split <;> omega) l (by omega))
/- one vector with entries up to 1000 -/
theorem D_bd1 : ∀ {m k : Nat} {v : Nat → V}, k < m → (∀ i < m, i ≠ k → ∀ l < m, (v i l).natAbs ≤ 10) → (∀ l < m, (v k l).natAbs ≤ 1000) → (D m v).natAbs ≤ 100 * bd m
  | 0, k, _, hk, _, _ => by omega
  | m + 1, k, v, hk, h, hs => by
    simp only [D, bd]
    rw [show 100 * ((m + 1) * (10 * bd m)) = (m + 1) * (1000 * bd m) by rw [Nat.mul_left_comm]; congr 1; omega]
    apply sI_abs
    intro j hj
    rw [Int.natAbs_mul, Int.natAbs_mul, sgn_abs, Nat.one_mul]
    by_cases e : j = k
    · subst e
      exact Nat.mul_le_mul (hs m (by omega)) (D_bd fun i hi l hl => h _ (by unfold skip; split <;> omega) (by unfold skip; split <;> omega) l (by omega))
    · have h1 := h j hj e m (by omega)
      have h2 : (D m (fun i => v (skip j i))).natAbs ≤ 100 * bd m := by
        refine D_bd1 (k := if k < j then k else k - 1) (by split <;> omega) ?_ ?_
        · intro i hi hn l hl
          exact h _ (by unfold skip; split <;> omega) (by unfold skip; intro e2; revert hn; split at e2 <;> split <;> omega) l (by omega)
        · intro l hl
          have : skip j (if k < j then k else k - 1) = k := by unfold skip; split <;> first | rfl | (split <;> omega)
          rw [this]; exact hs l (by omega)
      calc (v j m).natAbs * (D m (fun i => v (skip j i))).natAbs ≤ 10 * (100 * bd m) := Nat.mul_le_mul h1 h2
        _ = 1000 * bd m := by omega
theorem bd_mono : ∀ {m : Nat}, m ≤ 4 → bd m ≤ 240000 := by
  intro m hm
  rcases (show m = 0 ∨ m = 1 ∨ m = 2 ∨ m = 3 ∨ m = 4 by omega) with h | h | h | h | h <;> subst h <;> decide
/- the entries of a table are determinants -/
theorem Inv.entry {m w : Nat} {T0 : M} {u : Nat → Nat} {co : Nat → Int} {f : M} {bs : Nat → Nat} {d : Int} (I : Inv m w T0 u co f bs d) : ∃ s : Int, s * s = 1 ∧ d = s * D m (fun j l => T0 l (bs j)) ∧ ∀ i < m, ∀ k < w, f i k = s * D m (sv (fun j l => T0 l (bs j)) i (fun l => T0 l k)) := by
  obtain ⟨s, hs, hd⟩ := I.det
  exact ⟨s, hs, hd, fun i hi k hk => (exch_d (y := fun l => T0 l k) (ty := fun j => f j k) hd (by have := I.d0; omega) hi (fun l hl => I.col k hk l hl)).symm⟩
theorem sq1 {s : Int} (h : s * s = 1) : s.natAbs = 1 := by
  have h1 : s.natAbs * s.natAbs = 1 := by rw [← Int.natAbs_mul, h]; rfl
  exact Nat.eq_one_of_mul_eq_one_left h1
theorem Inv.bds {m w e : Nat} {T0 : M} {u : Nat → Nat} {co : Nat → Int} {f : M} {bs : Nat → Nat} {d : Int} (I : Inv m w T0 u co f bs d) (hm : m ≤ 4) (he : e < w) (hb : ∀ i < m, bs i ≠ e) (h : ∀ l < m, ∀ k < w, k ≠ e → (T0 l k).natAbs ≤ 10) (h1 : ∀ l < m, (T0 l e).natAbs ≤ 1000) :
    d ≤ 240000 ∧ (∀ i < m, ∀ k < w, k ≠ e → (f i k).natAbs ≤ 240000) ∧ ∀ i < m, (f i e).natAbs ≤ 24000000 := by
  obtain ⟨s, hs, hd, hf⟩ := I.entry
  have hs1 := sq1 hs
  have hm4 := bd_mono hm
  refine ⟨?_, fun i hi k hk hn => ?_, fun i hi => ?_⟩
  · have := D_bd (m := m) (v := fun j l => T0 l (bs j)) (fun i hi l hl => h l hl _ (I.bsw i hi) (hb i hi))
    have e : d.natAbs = (D m (fun j l => T0 l (bs j))).natAbs := by rw [hd, Int.natAbs_mul, hs1, Nat.one_mul]
    omega
  · rw [hf i hi k hk, Int.natAbs_mul, hs1, Nat.one_mul]
    refine Nat.le_trans (D_bd fun a ha l hl => ?_) hm4
    unfold sv; split
    · exact h l hl k hk hn
    · exact h l hl _ (I.bsw a ha) (hb a ha)
  · rw [hf i hi e he, Int.natAbs_mul, hs1, Nat.one_mul]
    refine Nat.le_trans (D_bd1 (k := i) hi (fun a ha hn l hl => ?_) (fun l hl => ?_)) (by omega)
    · rw [sv_ne hn]; exact h l hl _ (I.bsw a ha) (hb a ha)
    · rw [sv_same]; exact h1 l hl
end Go.Dt
