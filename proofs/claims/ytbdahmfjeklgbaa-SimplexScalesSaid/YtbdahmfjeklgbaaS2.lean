/-
  A text of the proofs of this seat: lemmas that the statements' proofs use; it states nothing of the program by itself beyond the contracts that its theorems bear. Conditions: those that stand in each theorem. Its short name: S2.
-/
import Derived.Test.YtbdahmfjeklgbaaM1
set_option linter.unusedVariables false
set_option linter.unusedSimpArgs false
namespace Go.Proofs.Ytbdahmfjeklgbaa
open Go.Sx Go.Fq
set_option maxRecDepth 4000
set_option maxHeartbeats 2000000
/- the rows below i are pivoted -/
def nw1 (f : Nat → Nat → Int) (r c : Nat) (d : Int) (a b : Nat) : Int := (f a b * f r c - f a c * f r b).tdiv d
def nw (f : Nat → Nat → Int) (r c : Nat) (d : Int) (i a b : Nat) : Int := if a < i ∧ a ≠ r then nw1 f r c d a b else f a b
/- .. and the row i below k -/
def nwk (f : Nat → Nat → Int) (r c : Nat) (d : Int) (i k a b : Nat) : Int := if a = i ∧ b < k ∧ a ≠ r then nw1 f r c d a b else nw f r c d i a b
def InB (m w : Nat) (f : Nat → Nat → Int) : Prop := ∀ i < m, ∀ k < w, -2147483648 < f i k ∧ f i k < 2147483648
structure PvA (m w : Nat) (f : Nat → Nat → Int) (r c : Nat) (d : Int) (y : Nat × (Nat → Nat → Int) × Prop) : Prop where
  le : y.1 ≤ m + 1
  ok : ¬y.2.2
  eq : ∀ a b, b < w → y.2.1 a b = nw f r c d y.1 a b
  bd : InB (m + 1) w y.2.1
structure PvB (m w : Nat) (f : Nat → Nat → Int) (r c : Nat) (d : Int) (i : Nat) (y : Nat × (Nat → Nat → Int) × Prop) : Prop where
  le : y.1 ≤ w
  eq : ∀ a b, b < w → y.2.1 a b = nwk f r c d i y.1 a b
  bd : ¬y.2.2 → InB (m + 1) w y.2.1
/- what a pivot makes of a table -/
def pv (f : Nat → Nat → Int) (r c : Nat) (d : Int) (a b : Nat) : Int :=
  if f r c < 0 then -(if a = r then f r b else nw1 f r c d a b) else (if a = r then f r b else nw1 f r c d a b)
structure Pvd (m w : Nat) (f : Nat → Nat → Int) (bs : Nat → Int) (d : Int) (r c : Nat) (f' : Nat → Nat → Int) (bs' : Nat → Int) (d' : Int) : Prop where
  eq : ∀ a < m + 1, ∀ b < w, f' a b = pv f r c d a b
  bd : InB (m + 1) w f'
  d : d' = (f r c).natAbs
  bs : bs' = up bs r c
end Go.Proofs.Ytbdahmfjeklgbaa
