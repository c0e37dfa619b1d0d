/-
  A text of the proofs of this seat: lemmas that the statements' proofs use; it states nothing of the program by itself beyond the contracts that its theorems bear. Conditions: those that stand in each theorem. Its short name: P5 P6.
-/
import Derived.Test.YtbdahmfjeklgbaaP4
set_option linter.unusedVariables false
set_option linter.unusedSimpArgs false
section
namespace Go.Proofs.Ytbdahmfjeklgbaa
open Go.Sx Go.Fq
set_option maxRecDepth 4000
set_option maxHeartbeats 2000000
/- the first entries of a list that is made row by row -/
def pre (p : Pr) (g : Rw → F) (i : Nat) : List F := (p.r.take i).map g
theorem pre_succ {p : Pr} {g : Rw → F} {i : Nat} (h : i < p.r.length) : pre p g (i + 1) = pre p g i ++ [g (p.r.getD i rw0)] := by
  unfold pre
  rw [List.take_succ_eq_append_getElem h, List.map_append]
  simp only [List.map_cons, List.map_nil, List.getD_eq_getElem?_getD, h, List.getElem?_eq_getElem, Option.getD_some]
theorem pre_len {p : Pr} {g : Rw → F} {i : Nat} (h : i ≤ p.r.length) : (pre p g i).length = i := by simp [pre]; omega
theorem pre_all {p : Pr} {g : Rw → F} {i : Nat} (h : p.r.length ≤ i) : pre p g i = p.r.map g := by
  unfold pre; rw [List.take_of_length_le h]
theorem fr2_append (a b : List F) : fr2 (a ++ b) = fr2 a ++ fr2 b := by simp [fr2]
def zr (n i : Nat) : List F := List.replicate i (0, 1) ++ List.replicate (n - i) (0, 0)
end Go.Proofs.Ytbdahmfjeklgbaa
end
section
namespace Go.Proofs.Ytbdahmfjeklgbaa
open Go.Sx Go.Fq
set_option maxRecDepth 4000
set_option maxHeartbeats 2000000
def SgnAt (w : Rw) (f : F) : Prop := VF f ∧ ¬(w.2.1 = 1 ∧ 0 < f.1) ∧ ¬(w.2.1 = 2 ∧ f.1 < 0)
theorem sgn_iff {p : Pr} {y : List F} (hv : VP p) (hl : y.length = p.r.length) : Sgn p y ↔ ∀ j < p.r.length, SgnAt (p.r.getD j rw0) (y.getD j (0, 1)) := by
  constructor
  · rintro ⟨_, _, h⟩ j hj
    have := h j _ _ (List.getElem?_eq_getElem hj) (List.getElem?_eq_getElem (show j < y.length by omega))
    simpa [SgnAt, hj, show j < y.length by omega] using this
  · intro h
    refine ⟨hv, hl, fun i w f hw hf => ?_⟩
    obtain ⟨hi, rfl⟩ := List.getElem?_eq_some_iff.1 hw
    obtain ⟨hi', rfl⟩ := List.getElem?_eq_some_iff.1 hf
    have := h i hi
    simpa [SgnAt, hi, hi'] using this
theorem lt_step {P : Nat → Prop} {i : Nat} (h : ∀ j < i, P j) (hi : P i) : ∀ j < i + 1, P j := by
  intro j hj
  by_cases e : j = i
  · rw [e]; exact hi
  · exact h j (by omega)
end Go.Proofs.Ytbdahmfjeklgbaa
end
