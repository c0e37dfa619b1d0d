/-
  A text of the proofs of this seat: lemmas that the statements' proofs use; it states nothing of the program by itself beyond the contracts that its theorems bear. Conditions: those that stand in each theorem. Its short name: OpC.
-/
import Derived.Test.YtabbnnfobjifiaaTy
set_option linter.unusedVariables false
set_option linter.unusedSimpArgs false
namespace Go.Proofs.Ytabbnnfobjifiaa
open Go.Sx
set_option maxRecDepth 100000
def curveFs : List Field := [⟨ "Values", 22, 0, false, "", "", 0⟩, ⟨ "Period", 3, 1, false, "", "", 24⟩, ⟨ "Increment", 3, 2, false, "", "", 32⟩]
theorem opensN {Q : Nat} (h : Try.prog.underlying Q = some (.int .i64)) (hc : Try.prog.cellsOf Q = 1) : Opens Try.prog Q (fun n : Int => [i64 n]) Fit := opens_int h hc
theorem opensL : Opens Try.prog 22 (fun l : List Int => [.psl 1 (ints l)]) Fits' :=
  opens_slice (e := 3) (by kernel_rfl) (by kernel_rfl) (by decide +kernel) (opens_int (by kernel_rfl) (by kernel_rfl))
theorem opensFs : OpensF Try.prog curveFs 0 (fun c : List Int × Int × Int × Unit => [.psl 1 (ints c.1)] ++ ([i64 c.2.1] ++ ([i64 c.2.2.1] ++ []))) (fun c => Fits' c.1 ∧ Fit c.2.1 ∧ Fit c.2.2.1 ∧ True) :=
  opensF_cons (P := Try.prog) (S := fun l : List Int => [.psl 1 (ints l)]) rfl opensL
    (opensF_cons (P := Try.prog) (S := fun n : Int => [i64 n]) (by kernel_rfl) (opensN (by kernel_rfl) (by kernel_rfl))
      (opensF_cons (P := Try.prog) (S := fun n : Int => [i64 n]) (by kernel_rfl) (opensN (by kernel_rfl) (by kernel_rfl)) opensF_nil))
theorem opens_curve : OpensArg Try.prog 28 (fun c : List Int × Int × Int × Unit => .agg [.psl 1 (ints c.1), i64 c.2.1, i64 c.2.2.1]) (fun c => Fits' c.1 ∧ Fit c.2.1 ∧ Fit c.2.2.1 ∧ True) :=
  opensArg_struct (fs := curveFs.toArray) (by kernel_rfl)
    (opens_struct (P := Try.prog) (fs := curveFs) (by kernel_rfl) (by kernel_rfl) opensFs)
end Go.Proofs.Ytabbnnfobjifiaa
