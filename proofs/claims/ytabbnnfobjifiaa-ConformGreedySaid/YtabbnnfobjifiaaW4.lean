/-
  A text of the proofs of this seat: lemmas that the statements' proofs use; it states nothing of the program by itself beyond the contracts that its theorems bear. Conditions: those that stand in each theorem. Its short name: W4.
-/
import Derived.Test.YtabbnnfobjifiaaW3
import Derived.Test.YtabbnnfobjifiaaPl
set_option linter.unusedVariables false
set_option linter.unusedSimpArgs false
namespace Go.Proofs.Ytabbnnfobjifiaa
open Go.Sx Go.Cv
set_option maxRecDepth 4000
set_option maxHeartbeats 2000000
structure Prep (vs : List Int) (p q : Int) (ws : List Int) (p' q' : Int) (a b : C3) : Prop where
  f : ∃ p0 : Nat, p = p0 ∧ VF vs p0 q ∧ NF (val vs p0 q) a.1 a.2.1 a.2.2
  g : ∃ p0 : Nat, p' = p0 ∧ VF ws p0 q' ∧ NF (val ws p0 q') b.1 b.2.1 b.2.2
  va : VC a
  vb : VC b
/- the errors that come first -/
def PrepE (vs : List Int) (p q : Int) (ws : List Int) (p' q' : Int) (e : Int) : Prop :=
  (e = 1 ∧ (¬ValidP vs p q ∨ ¬ValidP ws p' q')) ∨ (e = 3 ∧ ∃ a b, Prep vs p q ws p' q' a b ∧ 120 < com a b)
abbrev gap (a b : C3) : List SV := [.psl 1 (ints a.1), i64 a.2.1, i64 a.2.2, .psl 1 (ints b.1), i64 b.2.1, i64 b.2.2, i64 (frm a b), i64 (com a b), i64 (drf a b)]
abbrev gap0 : SV := .agg [.nil, i64 0, i64 0, .nil, i64 0, i64 0, i64 0, i64 0, i64 0]
theorem normP_ne {vs p q x} (h : NormP vs p q x.1 x.2.1 x.2.2.1 x.2.2.2) (he : x.2.2.2 ≠ 0) : ¬ValidP vs p q ∧ x = ([], 0, 0, 1) := by
  obtain ⟨x1, x2, x3, x4⟩ := x
  rcases h with ⟨h, _⟩ | ⟨h1, h2, h3, h4, h5⟩
  · exact absurd h he
  · simp only at h2 h3 h4 h5; subst h2 h3 h4 h5; exact ⟨h1, rfl⟩
def BothP (vs : List Int) (p q : Int) (ws : List Int) (p' q' : Int) (r : SV) : Prop :=
  (∃ e, PrepE vs p q ws p' q' e ∧ r = .tup [gap0, i64 e]) ∨ (∃ a b, Prep vs p q ws p' q' a b ∧ com a b ≤ 120 ∧ r = .tup [.agg (gap a b), i64 0])
end Go.Proofs.Ytabbnnfobjifiaa
