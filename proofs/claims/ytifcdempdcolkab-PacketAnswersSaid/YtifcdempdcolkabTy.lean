/-
  A text of the proofs of this seat: lemmas that the statements' proofs use; it states nothing of the program by itself beyond the contracts that its theorems bear. Conditions: those that stand in each theorem. Its short name: Ty.
-/
import Derived.Test.YtifcdempdcolkabSxC
import Derived.Test.YtifcdempdcolkabChecked
import Derived.KernelRfl
set_option linter.unusedVariables false
set_option linter.unusedSimpArgs false
namespace Go.Proofs.Ytifcdempdcolkab
open Go.Sx
def tys : List (Nat × TyD) := [
  (2, ⟨1, 8, .int .i64, .int .i64 0⟩),
  (3, ⟨1, 8, .int .i64, .int .i64 0⟩),
  (4, ⟨1, 1, .bool, .bool false⟩),
  (5, ⟨1, 1, .int .u8, .int .u8 0⟩),
  (9, ⟨1, 16, .string, .string ByteArray.empty⟩),
  (12, ⟨1, 8, .int .u64, .int .u64 0⟩),
  (15, ⟨1, 8, .pointer 99, .pointer none⟩),
  (16, ⟨1, 8, .pointer 102, .pointer none⟩),
  (17, ⟨1, 8, .pointer 111, .pointer none⟩),
  (21, ⟨1, 4, .int .i32, .int .i32 0⟩),
  (22, ⟨1, 24, .slice 3, .slice none 0 0⟩),
  (23, ⟨3, 40, .struct #[⟨ "Values", 22, 0, false, "", "", 0⟩, ⟨ "Period", 3, 1, false, "", "", 24⟩, ⟨ "Increment", 3, 2, false, "", "", 32⟩], .agg #[.slice none 0 0, .int .i64 0, .int .i64 0]⟩),
  (24, ⟨3, 40, .struct #[⟨ "Values", 22, 0, false, "", "", 0⟩, ⟨ "Period", 3, 1, false, "", "", 24⟩, ⟨ "Increment", 3, 2, false, "", "", 32⟩], .agg #[.slice none 0 0, .int .i64 0, .int .i64 0]⟩),
  (25, ⟨1, 24, .slice 54, .slice none 0 0⟩),
  (28, ⟨1, 8, .pointer 57, .pointer none⟩),
  (32, ⟨1, 24, .slice 24, .slice none 0 0⟩),
  (35, ⟨1, 8, .int .i64, .int .i64 0⟩),
  (42, ⟨1, 24, .slice 25, .slice none 0 0⟩),
  (44, ⟨1, 24, .slice 22, .slice none 0 0⟩),
  (53, ⟨3, 24, .struct #[⟨ "Flow", 3, 0, false, "", "", 0⟩, ⟨ "Time", 3, 1, false, "", "", 8⟩, ⟨ "Size", 3, 2, false, "", "", 16⟩], .agg #[.int .i64 0, .int .i64 0, .int .i64 0]⟩),
  (54, ⟨3, 24, .struct #[⟨ "Flow", 3, 0, false, "", "", 0⟩, ⟨ "Time", 3, 1, false, "", "", 8⟩, ⟨ "Size", 3, 2, false, "", "", 16⟩], .agg #[.int .i64 0, .int .i64 0, .int .i64 0]⟩),
  (56, ⟨2, 32, .struct #[⟨ "L", 22, 0, false, "", "", 0⟩, ⟨ "At", 3, 1, false, "", "", 24⟩], .agg #[.slice none 0 0, .int .i64 0]⟩),
  (57, ⟨2, 32, .struct #[⟨ "L", 22, 0, false, "", "", 0⟩, ⟨ "At", 3, 1, false, "", "", 24⟩], .agg #[.slice none 0 0, .int .i64 0]⟩),
  (66, ⟨1, 24, .slice 68, .slice none 0 0⟩),
  (67, ⟨4, 32, .struct #[⟨ "Packet", 54, 0, true, "", "", 0⟩, ⟨ "index", 3, 3, false, "", "netcalculus/packet", 24⟩], .agg #[.int .i64 0, .int .i64 0, .int .i64 0, .int .i64 0]⟩),
  (68, ⟨4, 32, .struct #[⟨ "Packet", 54, 0, true, "", "", 0⟩, ⟨ "index", 3, 3, false, "", "netcalculus/packet", 24⟩], .agg #[.int .i64 0, .int .i64 0, .int .i64 0, .int .i64 0]⟩),
  (78, ⟨8, 96, .struct #[⟨ "f", 24, 0, false, "", "netcalculus/deconvolution", 0⟩, ⟨ "g", 24, 3, false, "", "netcalculus/deconvolution", 40⟩, ⟨ "reach", 3, 6, false, "", "netcalculus/deconvolution", 80⟩, ⟨ "loose", 4, 7, false, "", "netcalculus/deconvolution", 88⟩], .agg #[.slice none 0 0, .int .i64 0, .int .i64 0, .slice none 0 0, .int .i64 0, .int .i64 0, .int .i64 0, .bool false]⟩),
  (79, ⟨8, 96, .struct #[⟨ "f", 24, 0, false, "", "netcalculus/deconvolution", 0⟩, ⟨ "g", 24, 3, false, "", "netcalculus/deconvolution", 40⟩, ⟨ "reach", 3, 6, false, "", "netcalculus/deconvolution", 80⟩, ⟨ "loose", 4, 7, false, "", "netcalculus/deconvolution", 88⟩], .agg #[.slice none 0 0, .int .i64 0, .int .i64 0, .slice none 0 0, .int .i64 0, .int .i64 0, .int .i64 0, .bool false]⟩),
  (96, ⟨1, 8, .int .u64, .int .u64 0⟩),
  (100, ⟨0, 0, .array 0 16, .agg #[]⟩),
  (103, ⟨1, 4, .int .u32, .int .u32 0⟩),
  (107, ⟨1, 8, .pointer 5, .pointer none⟩)]
theorem tys_ok : ∀ p ∈ tys, TyOK Try.prog p.1 p.2 := by
  simp only [tys, List.forall_mem_cons]
  exact ⟨tyOK_mk (by kernel_rfl) (by kernel_rfl),
    tyOK_mk (by kernel_rfl) (by kernel_rfl),
    tyOK_mk (by kernel_rfl) (by kernel_rfl),
    tyOK_mk (by kernel_rfl) (by kernel_rfl),
    tyOK_mk (by kernel_rfl) (by kernel_rfl),
    tyOK_mk (by kernel_rfl) (by kernel_rfl),
    tyOK_mk (by kernel_rfl) (by kernel_rfl),
    tyOK_mk (by kernel_rfl) (by kernel_rfl),
    tyOK_mk (by kernel_rfl) (by kernel_rfl),
    tyOK_mk (by kernel_rfl) (by kernel_rfl),
    tyOK_mk (by kernel_rfl) (by kernel_rfl),
    tyOK_mk (by kernel_rfl) (by kernel_rfl),
    tyOK_mk (by kernel_rfl) (by kernel_rfl),
    tyOK_mk (by kernel_rfl) (by kernel_rfl),
    tyOK_mk (by kernel_rfl) (by kernel_rfl),
    tyOK_mk (by kernel_rfl) (by kernel_rfl),
    tyOK_mk (by kernel_rfl) (by kernel_rfl),
    tyOK_mk (by kernel_rfl) (by kernel_rfl),
    tyOK_mk (by kernel_rfl) (by kernel_rfl),
    tyOK_mk (by kernel_rfl) (by kernel_rfl),
    tyOK_mk (by kernel_rfl) (by kernel_rfl),
    tyOK_mk (by kernel_rfl) (by kernel_rfl),
    tyOK_mk (by kernel_rfl) (by kernel_rfl),
    tyOK_mk (by kernel_rfl) (by kernel_rfl),
    tyOK_mk (by kernel_rfl) (by kernel_rfl),
    tyOK_mk (by kernel_rfl) (by kernel_rfl),
    tyOK_mk (by kernel_rfl) (by kernel_rfl),
    tyOK_mk (by kernel_rfl) (by kernel_rfl),
    tyOK_mk (by kernel_rfl) (by kernel_rfl),
    tyOK_mk (by kernel_rfl) (by kernel_rfl),
    tyOK_mk (by kernel_rfl) (by kernel_rfl),
    tyOK_mk (by kernel_rfl) (by kernel_rfl), by simp⟩
noncomputable def env (n : Nat) : Env := { P := Try.prog, tys := tys, npre := n }

abbrev ints (l : List Int) : List (List SV) := l.map fun n => [.num .i64 n]
abbrev i64 (n : Int) : SV := .num .i64 n
abbrev crv (vs : List Int) (p i : Int) : SV := .agg [.psl 1 (ints vs), .num .i64 p, .num .i64 i]
end Go.Proofs.Ytifcdempdcolkab
