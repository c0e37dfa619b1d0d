/-
  A text of the proofs of this seat: lemmas that the statements' proofs use; it states nothing of the program by itself beyond the contracts that its theorems bear. Conditions: those that stand in each theorem. Its short name: R8.
-/
import Derived.Test.YtabbnnfobjifiaaR7
set_option linter.unusedVariables false
set_option linter.unusedSimpArgs false
namespace Go.Proofs.Ytabbnnfobjifiaa
open Go.Sx Go.Cv
set_option maxRecDepth 4000
set_option maxHeartbeats 2000000
theorem flatP_mk {v : Int} {x : List Int × Int × Int × Int} (h : FlatP v x) : FlatQ v x := by
  rcases h with ⟨h1, rfl⟩ | ⟨h1, h2⟩
  · exact .inl ⟨h1, rfl⟩
  · by_cases h3 : v ≤ 1073741824
    · rw [show min v 1073741825 = v by omega] at h2
      refine .inr (.inl ⟨h1, h3, madeP_mk (by omega) (by simp) (fun t ht => ?_) (fun m hm h => ?_) (fun _ => flatF_per v) h2⟩)
      · match t, ht with
        | 0, _ => rfl
        | 1, _ => rfl
      · exfalso
        unfold flatF at h; split at h <;> (simp only [INF] at h; omega)
    · rw [show min v 1073741825 = 1073741825 by omega] at h2
      refine .inr (.inr ⟨by omega, ?_⟩)
      have hm := madeP_mk (F := flatF 1073741825) (by omega) (by simp) (fun t ht => by
        match t, ht with
        | 0, _ => rfl
        | 1, _ => rfl) (fun m hm h => by exfalso; unfold flatF at h; split at h <;> (simp only [INF] at h; omega)) (fun _ => flatF_per _) h2
      rcases hm with ⟨vs, p, q, hnf, hvf, _⟩ | ⟨_, h⟩
      · exfalso
        have e := hvf.sound hnf 1
        obtain ⟨s, p1, hper, _, _, rfl⟩ := hnf
        by_cases hlt : 1 < s + p
        · rw [val_lt (by rw [vals_len]; exact hlt)] at e
          have h4 := hvf.v 1 (by rw [vals_len]; exact hlt)
          rw [e] at h4
          simp [flatF, INF] at h4
        · have hs : s = 0 := by omega
          have hp : p = 1 := by omega
          subst hs hp
          have h5 := hper 0 (by omega)
          have h6 := hper 1 (by omega)
          simp [flatF] at h5 h6
          omega
      · exact h
theorem RFlat_ok (v : Int) : Ctr Try.prog 22 [i64 v] [] (fun r o => ∃ x : List Int × Int × Int × Int, FlatQ v x ∧ o = [] ∧ r = crvE x) :=
  (Flat_ok v).mono (fun r o ⟨x, h1, h2, h3⟩ => ⟨x, flatP_mk h1, h2, h3⟩)
theorem flatQ_zero {x} (hx : FlatQ 0 x) : MkP (fun _ => 0) x := by
  rw [← flatF_zero]
  rcases hx with ⟨h, _⟩ | ⟨_, _, h⟩ | ⟨h, _⟩
  · omega
  · exact h
  · omega
def lsr (d : Nat → Int) (L y : Nat) : Int := if y = L + 1 then INF else max 0 (wmn d (L - y) y)
theorem lsr_step {d : Nat → Int} {L t : Nat} (ht : t ≤ L) (hd : d L ≤ INF) : min (lsr d L (t + 1)) (max 0 (d t)) = max 0 (wmn d (L - t) t) := by
  unfold lsr
  split
  · rename_i h
    have : t = L := by omega
    subst this; rw [Nat.sub_self]; simp only [wmn, INF] at *; omega
  · rw [show L - t = L - (t + 1) + 1 by omega]; simp only [wmn]; omega
end Go.Proofs.Ytabbnnfobjifiaa
