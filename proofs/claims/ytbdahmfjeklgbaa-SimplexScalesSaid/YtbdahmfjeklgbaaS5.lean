/-
  A text of the proofs of this seat: lemmas that the statements' proofs use; it states nothing of the program by itself beyond the contracts that its theorems bear. Conditions: those that stand in each theorem. Its short name: S5.
-/
import Derived.Test.YtbdahmfjeklgbaaS3
import Derived.Test.YtbdahmfjeklgbaaP5
import Derived.Test.YtbdahmfjeklgbaaPl
import Derived.Test.YtbdahmfjeklgbaaP6
set_option linter.unusedVariables false
set_option linter.unusedSimpArgs false
namespace Go.Proofs.Ytbdahmfjeklgbaa
open Go.Sx Go.Fq
set_option maxRecDepth 4000
set_option maxHeartbeats 2000000
/- what duals reads -/
def dnum (m n : Nat) (f : Nat → Nat → Int) (d c : Int) (i : Nat) : Int := c * d - f m (n + m + i)
def DualAt (m n : Nat) (f : Nat → Nat → Int) (d : Int) (by' : Nat → Int) (c s : Int) (i : Nat) (y : F) : Prop := VF y ∧ val y = Rat.divInt (dnum m n f d c i) d * (by' i : Rat) / (s : Rat)
theorem fnew_ok {a b x y : Int} (hb : b ≠ 0) (h : fnew a b = (x, y, 0)) : VF (x, y) ∧ val (x, y) = Rat.divInt a b := by
  unfold fnew at h
  rw [if_neg hb] at h
  obtain ⟨hs, e⟩ := fenc_ok h
  exact ⟨by rw [e]; exact vf_enc hs, by rw [e]; exact val_enc⟩
theorem r3 {a : R} (h : a.2.2 = 0) : a = (a.1, a.2.1, 0) := by rw [← h]
theorem val_int (a : Int) : val (a, 1) = (a : Rat) := by exact Rat.num_divInt_den (a : Rat)
end Go.Proofs.Ytbdahmfjeklgbaa
