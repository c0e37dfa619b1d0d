/-
  A text of the proofs of this seat: lemmas that the statements' proofs use; it states nothing of the program by itself beyond the contracts that its theorems bear. Conditions: those that stand in each theorem. Its short name: K6.
-/
import Derived.Test.YtabbnnfobjifiaaK5
import Derived.Test.YtabbnnfobjifiaaPl
set_option linter.unusedVariables false
set_option linter.unusedSimpArgs false
namespace Go.Proofs.Ytabbnnfobjifiaa
open Go.Sx Go.Cv
set_option maxRecDepth 4000
set_option maxHeartbeats 2000000
/- a result that is the curve of a function, or the limit error -/
def ResF (F : Nat → Int) (x1 : List Int) (x2 x3 x4 : Int) : Prop := (∃ c : C3, VC c ∧ NF F c.1 c.2.1 c.2.2 ∧ (∀ t, cv c t = F t) ∧ x1 = c.1 ∧ x2 = c.2.1 ∧ x3 = c.2.2 ∧ x4 = 0) ∨ (x1 = [] ∧ x2 = 0 ∧ x3 = 0 ∧ x4 = 3)
theorem resF_mk {F : Nat → Int} {x1 x2 x3 x4} (h : MkP F (x1, x2, x3, x4)) : ResF F x1 x2 x3 x4 := by
  rcases h with ⟨vs, p, q, h1, h2, he⟩ | ⟨_, he⟩
  · cases he; exact .inl ⟨(x1, p, x3), h2, h1, h2.sound h1, rfl, rfl, rfl, rfl⟩
  · cases he; exact .inr ⟨rfl, rfl, rfl, rfl⟩
theorem NrmOf.of_nf {F : Nat → Int} {c : C3} (hv : VC c) (h : NF F c.1 c.2.1 c.2.2) : NrmOf c c := ⟨hv, by have e : cv c = F := funext (hv.sound h); rw [e]; exact h⟩
theorem nrm_exists {f : C3} (h : VC f) : ∃ a, NrmOf f a := by
  obtain ⟨vs, p, q, h1, _⟩ := nf_exists h.p1 h.per
  exact ⟨(vs, p, q), (h1.vf h).1, h1⟩
theorem DSum (f g a b : C3) (hf : VC f) (hg : VC g) (ha : NrmOf f a) (hb : NrmOf g b) (hc : com a b ≤ 120) :
    Ctr Try.prog 24 [crv f.1 f.2.1 f.2.2, crv g.1 g.2.1 g.2.2] [] (fun r o => ∃ x1 x2 x3 x4, MkP (pls a b) (x1, x2, x3, x4) ∧ o = [] ∧ r = .tup [crv x1 x2 x3, i64 x4]) :=
  (spl4 (CSum f g hf hg)).mono (fun r o ⟨x1, x2, x3, x4, ⟨a', b', ha', hb', hx⟩, h1, h2⟩ => ⟨x1, x2, x3, x4, by
    cases ha'.uniq ha
    cases hb'.uniq hb
    rcases hx with ⟨hh, _⟩ | ⟨_, hh⟩
    · omega
    · exact hh, h1, h2⟩)
theorem sml_of {most : Nat} {f a : C3} (h : CurveP most f) (ha : NrmOf f a) (hm : most ≤ 12) : Sml a 200 := by
  obtain ⟨h1, h2, h3, h4⟩ := curveP_nf h ha
  exact ⟨ha.1, by omega, by omega, by omega, fun j hj => (h4 j hj).imp id (fun h => by omega)⟩
/- AtMost of two curves where one is at most the other -/
end Go.Proofs.Ytabbnnfobjifiaa
