/-
  A text of the proofs of this seat: lemmas that the statements' proofs use; it states nothing of the program by itself beyond the contracts that its theorems bear. Conditions: those that stand in each theorem. Its short name: Cm.
-/
import Derived.Test.YtabbnnfobjifiaaC8
import Derived.Test.YtabbnnfobjifiaaC7
import Derived.Test.YtabbnnfobjifiaaK5
import Derived.Test.YtabbnnfobjifiaaPl
import Derived.Test.YtabbnnfobjifiaaTf
set_option linter.unusedVariables false
set_option linter.unusedSimpArgs false
namespace Go.Proofs.Ytabbnnfobjifiaa
open Go.Sx Go.Pk Go.Cv Go.St
set_option maxRecDepth 8000
set_option maxHeartbeats 2000000
--APPX pks_len, Go.Cv.vals_len
/- the least curve of a trace that is made -/
theorem least_curve {p : List Pk} (hv : Vld p) (hN : endN p ≤ 380) (flow : Int) {x : List Int × Int × Int × Int} (hx : MkP (lsF p flow) x) : ∃ c : C3, VC c ∧ (∀ t, cv c t = lsF p flow t) ∧ x = (c.1, (c.2.1 : Int), c.2.2, 0) :=
  mk_fits (s := endN p) (p := 1) (q := 0) hx (lsF_le hv flow 0).1 (lsF_mono p flow) (lsF_per p flow) (by omega) (by omega) (by omega) (by omega) (fun t _ => by have := lsF_le hv flow t; omega)
theorem TrP.end {fl mo : Int} {p : List Pk} {t : Int} (h : TrP fl mo p t) (hf : fl ≤ 60) (hm : mo ≤ 1500) (hl : p.length ≤ 60) : (endN p : Int) ≤ 7 * p.length + 1 := by
  have ht := h.t
  unfold endN
  split
  · omega
  · rename_i i hi
    have := h.b _ (getD_memP (l := p) (i := i) (by omega))
    omega
end Go.Proofs.Ytabbnnfobjifiaa
