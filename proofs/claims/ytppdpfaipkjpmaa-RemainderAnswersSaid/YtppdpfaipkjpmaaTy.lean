/-
  A text of the proofs of this seat: lemmas that the statements' proofs use; it states nothing of the program by itself beyond the contracts that its theorems bear. Conditions: those that stand in each theorem. Its short name: Ty.
-/
import Derived.Test.YtppdpfaipkjpmaaSxC
import Derived.Test.YtppdpfaipkjpmaaChecked
import Derived.KernelRfl
set_option linter.unusedVariables false
set_option linter.unusedSimpArgs false
namespace Go.Proofs.Ytppdpfaipkjpmaa
open Go.Sx
def tys : List (Nat × TyD) := [
  (2, ⟨1, 8, .int .i64, .int .i64 0⟩),
  (3, ⟨1, 8, .int .i64, .int .i64 0⟩),
  (4, ⟨1, 1, .bool, .bool false⟩),
  (5, ⟨1, 1, .int .u8, .int .u8 0⟩),
  (9, ⟨1, 16, .string, .string ByteArray.empty⟩),
  (12, ⟨1, 8, .int .u64, .int .u64 0⟩),
  (15, ⟨1, 8, .pointer 73, .pointer none⟩),
  (16, ⟨1, 8, .pointer 76, .pointer none⟩),
  (17, ⟨1, 8, .pointer 85, .pointer none⟩),
  (21, ⟨1, 4, .int .i32, .int .i32 0⟩),
  (22, ⟨1, 24, .slice 3, .slice none 0 0⟩),
  (23, ⟨3, 40, .struct #[⟨ "Values", 22, 0, false, "", "", 0⟩, ⟨ "Period", 3, 1, false, "", "", 24⟩, ⟨ "Increment", 3, 2, false, "", "", 32⟩], .agg #[.slice none 0 0, .int .i64 0, .int .i64 0]⟩),
  (24, ⟨3, 40, .struct #[⟨ "Values", 22, 0, false, "", "", 0⟩, ⟨ "Period", 3, 1, false, "", "", 24⟩, ⟨ "Increment", 3, 2, false, "", "", 32⟩], .agg #[.slice none 0 0, .int .i64 0, .int .i64 0]⟩),
  (27, ⟨1, 8, .pointer 52, .pointer none⟩),
  (34, ⟨1, 24, .slice 24, .slice none 0 0⟩),
  (35, ⟨1, 8, .int .i64, .int .i64 0⟩),
  (51, ⟨2, 32, .struct #[⟨ "L", 22, 0, false, "", "", 0⟩, ⟨ "At", 3, 1, false, "", "", 24⟩], .agg #[.slice none 0 0, .int .i64 0]⟩),
  (52, ⟨2, 32, .struct #[⟨ "L", 22, 0, false, "", "", 0⟩, ⟨ "At", 3, 1, false, "", "", 24⟩], .agg #[.slice none 0 0, .int .i64 0]⟩),
  (53, ⟨9, 104, .struct #[⟨ "f", 24, 0, false, "", "netcalculus/remainder", 0⟩, ⟨ "g", 24, 3, false, "", "netcalculus/remainder", 40⟩, ⟨ "from", 3, 6, false, "", "netcalculus/remainder", 80⟩, ⟨ "common", 3, 7, false, "", "netcalculus/remainder", 88⟩, ⟨ "drift", 3, 8, false, "", "netcalculus/remainder", 96⟩], .agg #[.slice none 0 0, .int .i64 0, .int .i64 0, .slice none 0 0, .int .i64 0, .int .i64 0, .int .i64 0, .int .i64 0, .int .i64 0]⟩),
  (54, ⟨9, 104, .struct #[⟨ "f", 24, 0, false, "", "netcalculus/remainder", 0⟩, ⟨ "g", 24, 3, false, "", "netcalculus/remainder", 40⟩, ⟨ "from", 3, 6, false, "", "netcalculus/remainder", 80⟩, ⟨ "common", 3, 7, false, "", "netcalculus/remainder", 88⟩, ⟨ "drift", 3, 8, false, "", "netcalculus/remainder", 96⟩], .agg #[.slice none 0 0, .int .i64 0, .int .i64 0, .slice none 0 0, .int .i64 0, .int .i64 0, .int .i64 0, .int .i64 0, .int .i64 0]⟩),
  (74, ⟨0, 0, .array 0 16, .agg #[]⟩),
  (77, ⟨1, 4, .int .u32, .int .u32 0⟩),
  (81, ⟨1, 8, .pointer 5, .pointer none⟩)]
theorem tys_ok : ∀ p ∈ tys, TyOK Try.prog p.1 p.2 := by
  simp only [tys, List.forall_mem_cons]
  exact ⟨tyOK_mk (by kernel_rfl) (by kernel_rfl),
    tyOK_mk (by kernel_rfl) (by kernel_rfl),
    tyOK_mk (by kernel_rfl) (by kernel_rfl),
    tyOK_mk (by kernel_rfl) (by kernel_rfl),
    tyOK_mk (by kernel_rfl) (by kernel_rfl),
    tyOK_mk (by kernel_rfl) (by kernel_rfl),
    tyOK_mk (by kernel_rfl) (by kernel_rfl),
    tyOK_mk (by kernel_rfl) (by kernel_rfl),
    tyOK_mk (by kernel_rfl) (by kernel_rfl),
    tyOK_mk (by kernel_rfl) (by kernel_rfl),
    tyOK_mk (by kernel_rfl) (by kernel_rfl),
    tyOK_mk (by kernel_rfl) (by kernel_rfl),
    tyOK_mk (by kernel_rfl) (by kernel_rfl),
    tyOK_mk (by kernel_rfl) (by kernel_rfl),
    tyOK_mk (by kernel_rfl) (by kernel_rfl),
    tyOK_mk (by kernel_rfl) (by kernel_rfl),
    tyOK_mk (by kernel_rfl) (by kernel_rfl),
    tyOK_mk (by kernel_rfl) (by kernel_rfl),
    tyOK_mk (by kernel_rfl) (by kernel_rfl),
    tyOK_mk (by kernel_rfl) (by kernel_rfl),
    tyOK_mk (by kernel_rfl) (by kernel_rfl),
    tyOK_mk (by kernel_rfl) (by kernel_rfl),
    tyOK_mk (by kernel_rfl) (by kernel_rfl), by simp⟩
noncomputable def env (n : Nat) : Env := { P := Try.prog, tys := tys, npre := n }

abbrev ints (l : List Int) : List (List SV) := l.map fun n => [.num .i64 n]
abbrev i64 (n : Int) : SV := .num .i64 n
abbrev crv (vs : List Int) (p i : Int) : SV := .agg [.psl 1 (ints vs), .num .i64 p, .num .i64 i]
end Go.Proofs.Ytppdpfaipkjpmaa
