/-
  A text of the proofs of this seat: lemmas that the statements' proofs use; it states nothing of the program by itself beyond the contracts that its theorems bear. Conditions: those that stand in each theorem. Its short name: S3.
-/
import Derived.Test.YtbdahmfjeklgbaaS2
set_option linter.unusedVariables false
set_option linter.unusedSimpArgs false
namespace Go.Proofs.Ytbdahmfjeklgbaa
open Go.Sx Go.Fq
set_option maxRecDepth 4000
set_option maxHeartbeats 2000000
/- a table: its entries, its basis, its denominator -/
abbrev TS := (Nat → Nat → Int) × (Nat → Int) × Int
structure Tok (m w : Nat) (s : TS) : Prop where
  bd : InB (m + 1) w s.1
  d : 1 ≤ s.2.2 ∧ s.2.2 < 2147483648
  bs : ∀ i < m, 0 ≤ s.2.1 i ∧ s.2.1 i < w
def Piv (m w : Nat) (s : TS) (r c : Nat) (s' : TS) : Prop := Pvd m w s.1 s.2.1 s.2.2 r c s'.1 s'.2.1 s'.2.2
theorem Piv.tok {m w : Nat} {s s' : TS} {r c : Nat} (h : Tok m w s) (p : Piv m w s r c s') (hr : r < m) (hc : c < w) (hp : s.1 r c ≠ 0) : Tok m w s' := by
  refine ⟨p.bd, ?_, ?_⟩
  · have := h.bd r (by omega) c hc; rw [p.d]; omega
  · intro i hi; rw [p.bs]; unfold up
    split
    · omega
    · exact h.bs i hi
/- a pivot of the simplex method: the cost is negative, the pivot positive, the bounds stay as they should -/
structure Stp (m E C : Nat) (s s' : TS) : Prop where
  ex : ∃ r c, r < m ∧ c < C ∧ s.1 m c < 0 ∧ 0 < s.1 r c ∧ (∀ j < m, 0 < s.1 j c → s.1 r E * s.1 j c ≤ s.1 j E * s.1 r c) ∧ Piv m (E + 1) s r c s'
inductive Run (m E C : Nat) (s : TS) : TS → Prop
  | refl : Run m E C s s
  | step {s' s''} (h : Run m E C s s') (k : Stp m E C s' s'') : Run m E C s s''
/- where the method ends -/
def Ends (m C : Nat) (f : Nat → Nat → Int) (z : Int) : Prop := (z = -1 ∧ ∀ k < C, 0 ≤ f m k) ∨ ∃ c : Nat, z = c ∧ c < C ∧ f m c < 0 ∧ ∀ i < m, f i c ≤ 0
end Go.Proofs.Ytbdahmfjeklgbaa
