/-
  A text of the proofs of this seat: lemmas that the statements' proofs use; it states nothing of the program by itself beyond the contracts that its theorems bear. Conditions: those that stand in each theorem. Its short name: P6.
-/
import Derived.Test.YtbdahmfjeklgbaaP5
set_option linter.unusedVariables false
set_option linter.unusedSimpArgs false
namespace Go.Proofs.Ytbdahmfjeklgbaa
open Go.Sx Go.Fq
set_option maxRecDepth 4000
set_option maxHeartbeats 2000000
def SgnAt (w : Rw) (f : F) : Prop := VF f ∧ ¬(w.2.1 = 1 ∧ 0 < f.1) ∧ ¬(w.2.1 = 2 ∧ f.1 < 0)
theorem sgn_iff {p : Pr} {y : List F} (hv : VP p) (hl : y.length = p.r.length) : Sgn p y ↔ ∀ j < p.r.length, SgnAt (p.r.getD j rw0) (y.getD j (0, 1)) := by
  constructor
  · rintro ⟨_, _, h⟩ j hj
    have := h j _ _ (List.getElem?_eq_getElem hj) (List.getElem?_eq_getElem (show j < y.length by omega))
    simpa [SgnAt, hj, show j < y.length by omega] using this
  · intro h
    refine ⟨hv, hl, fun i w f hw hf => ?_⟩
    obtain ⟨hi, rfl⟩ := List.getElem?_eq_some_iff.1 hw
    obtain ⟨hi', rfl⟩ := List.getElem?_eq_some_iff.1 hf
    have := h i hi
    simpa [SgnAt, hi, hi'] using this
end Go.Proofs.Ytbdahmfjeklgbaa
