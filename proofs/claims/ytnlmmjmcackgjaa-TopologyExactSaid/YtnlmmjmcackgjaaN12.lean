/-
  A text of the proofs of this seat: lemmas that the statements' proofs use; it states nothing of the program by itself beyond the contracts that its theorems bear. Conditions: those that stand in each theorem. Its short name: N12.
-/
import Derived.Test.YtnlmmjmcackgjaaKs
import Derived.Test.YtnlmmjmcackgjaaN9
set_option linter.unusedVariables false
set_option linter.unusedSimpArgs false
namespace Go.Proofs.Ytnlmmjmcackgjaa
open Go.Sx Go.Np Go.Cv Go.Fq
set_option maxRecDepth 4000
set_option maxHeartbeats 2000000
/- where a name is found -/
def FndP (n : Nt) (s : ByteArray) (z : Int) : Prop := (z = -1 ∧ ∀ j < n.fl.length, ¬(n.fl.getD j fl0).nm = s) ∨ ∃ i : Nat, z = i ∧ i < n.fl.length ∧ (n.fl.getD i fl0).nm = s ∧ ∀ j < i, ¬(n.fl.getD j fl0).nm = s
theorem FndP.uniq {n : Nt} {s : ByteArray} {a b : Int} (h : FndP n s a) (k : FndP n s b) : a = b := by
  rcases h with ⟨e, h⟩ | ⟨i, e, hi, h1, h2⟩ <;> rcases k with ⟨e', k⟩ | ⟨j, e', hj, k1, k2⟩
  · omega
  · exact absurd k1 (h j hj)
  · exact absurd h1 (k i hi)
  · rcases Nat.lt_trichotomy i j with g | g | g
    · exact absurd h1 (k2 i g)
    · omega
    · exact absurd k1 (h2 j g)
end Go.Proofs.Ytnlmmjmcackgjaa
