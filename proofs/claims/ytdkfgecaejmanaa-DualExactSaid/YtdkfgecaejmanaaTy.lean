/-
  A text of the proofs of this seat: lemmas that the statements' proofs use; it states nothing of the program by itself beyond the contracts that its theorems bear. Conditions: those that stand in each theorem. Its short name: Ty.
-/
import Derived.Test.YtdkfgecaejmanaaSxC
import Derived.Test.YtdkfgecaejmanaaChecked
import Derived.KernelRfl
set_option linter.unusedVariables false
set_option linter.unusedSimpArgs false
namespace Go.Proofs.Ytdkfgecaejmanaa
open Go.Sx
def tys : List (Nat × TyD) := [
  (2, ⟨1, 8, .int .i64, .int .i64 0⟩),
  (3, ⟨1, 8, .int .i64, .int .i64 0⟩),
  (4, ⟨1, 1, .bool, .bool false⟩),
  (5, ⟨1, 1, .int .u8, .int .u8 0⟩),
  (9, ⟨1, 16, .string, .string ByteArray.empty⟩),
  (12, ⟨1, 8, .int .u64, .int .u64 0⟩),
  (15, ⟨1, 8, .pointer 93, .pointer none⟩),
  (16, ⟨1, 8, .pointer 96, .pointer none⟩),
  (17, ⟨1, 8, .pointer 105, .pointer none⟩),
  (21, ⟨1, 4, .int .i32, .int .i32 0⟩),
  (22, ⟨1, 24, .slice 3, .slice none 0 0⟩),
  (23, ⟨1, 24, .slice 28, .slice none 0 0⟩),
  (24, ⟨1, 24, .slice 59, .slice none 0 0⟩),
  (25, ⟨2, 48, .struct #[⟨ "Costs", 23, 0, false, "", "", 0⟩, ⟨ "Rows", 24, 1, false, "", "", 24⟩], .agg #[.slice none 0 0, .slice none 0 0]⟩),
  (26, ⟨2, 48, .struct #[⟨ "Costs", 23, 0, false, "", "", 0⟩, ⟨ "Rows", 24, 1, false, "", "", 24⟩], .agg #[.slice none 0 0, .slice none 0 0]⟩),
  (27, ⟨2, 16, .struct #[⟨ "Num", 3, 0, false, "", "", 0⟩, ⟨ "Den", 3, 1, false, "", "", 8⟩], .agg #[.int .i64 0, .int .i64 0]⟩),
  (28, ⟨2, 16, .struct #[⟨ "Num", 3, 0, false, "", "", 0⟩, ⟨ "Den", 3, 1, false, "", "", 8⟩], .agg #[.int .i64 0, .int .i64 0]⟩),
  (29, ⟨6, 96, .struct #[⟨ "Status", 3, 0, false, "", "", 0⟩, ⟨ "X", 23, 1, false, "", "", 8⟩, ⟨ "Value", 28, 2, false, "", "", 32⟩, ⟨ "Dual", 23, 4, false, "", "", 48⟩, ⟨ "Ray", 23, 5, false, "", "", 72⟩], .agg #[.int .i64 0, .slice none 0 0, .int .i64 0, .int .i64 0, .slice none 0 0, .slice none 0 0]⟩),
  (30, ⟨6, 96, .struct #[⟨ "Status", 3, 0, false, "", "", 0⟩, ⟨ "X", 23, 1, false, "", "", 8⟩, ⟨ "Value", 28, 2, false, "", "", 32⟩, ⟨ "Dual", 23, 4, false, "", "", 48⟩, ⟨ "Ray", 23, 5, false, "", "", 72⟩], .agg #[.int .i64 0, .slice none 0 0, .int .i64 0, .int .i64 0, .slice none 0 0, .slice none 0 0]⟩),
  (31, ⟨1, 8, .func #[] #[4] false, .nilFunc⟩),
  (32, ⟨1, 8, .pointer 62, .pointer none⟩),
  (36, ⟨6, 144, .array 3 26, .agg #[.slice none 0 0, .slice none 0 0, .slice none 0 0, .slice none 0 0, .slice none 0 0, .slice none 0 0]⟩),
  (37, ⟨1, 8, .int .i64, .int .i64 0⟩),
  (43, ⟨18, 288, .array 3 30, .agg #[.int .i64 0, .slice none 0 0, .int .i64 0, .int .i64 0, .slice none 0 0, .slice none 0 0, .int .i64 0, .slice none 0 0, .int .i64 0, .int .i64 0, .slice none 0 0, .slice none 0 0, .int .i64 0, .slice none 0 0, .int .i64 0, .int .i64 0, .slice none 0 0, .slice none 0 0]⟩),
  (45, ⟨2, 48, .array 2 23, .agg #[.slice none 0 0, .slice none 0 0]⟩),
  (46, ⟨6, 144, .array 3 45, .agg #[.slice none 0 0, .slice none 0 0, .slice none 0 0, .slice none 0 0, .slice none 0 0, .slice none 0 0]⟩),
  (55, ⟨1, 24, .slice 4, .slice none 0 0⟩),
  (58, ⟨4, 48, .struct #[⟨ "Coefs", 23, 0, false, "", "", 0⟩, ⟨ "Sense", 3, 1, false, "", "", 24⟩, ⟨ "Bound", 28, 2, false, "", "", 32⟩], .agg #[.slice none 0 0, .int .i64 0, .int .i64 0, .int .i64 0]⟩),
  (59, ⟨4, 48, .struct #[⟨ "Coefs", 23, 0, false, "", "", 0⟩, ⟨ "Sense", 3, 1, false, "", "", 24⟩, ⟨ "Bound", 28, 2, false, "", "", 32⟩], .agg #[.slice none 0 0, .int .i64 0, .int .i64 0, .int .i64 0]⟩),
  (61, ⟨2, 32, .struct #[⟨ "L", 22, 0, false, "", "", 0⟩, ⟨ "At", 3, 1, false, "", "", 24⟩], .agg #[.slice none 0 0, .int .i64 0]⟩),
  (62, ⟨2, 32, .struct #[⟨ "L", 22, 0, false, "", "", 0⟩, ⟨ "At", 3, 1, false, "", "", 24⟩], .agg #[.slice none 0 0, .int .i64 0]⟩),
  (65, ⟨1, 8, .pointer 59, .pointer none⟩),
  (68, ⟨1, 8, .pointer 71, .pointer none⟩),
  (69, ⟨1, 24, .slice 22, .slice none 0 0⟩),
  (70, ⟨4, 64, .struct #[⟨ "t", 69, 0, false, "", "netcalculus/netcalculusref32", 0⟩, ⟨ "basis", 22, 1, false, "", "netcalculus/netcalculusref32", 24⟩, ⟨ "d", 3, 2, false, "", "netcalculus/netcalculusref32", 48⟩, ⟨ "bad", 4, 3, false, "", "netcalculus/netcalculusref32", 56⟩], .agg #[.slice none 0 0, .slice none 0 0, .int .i64 0, .bool false]⟩),
  (71, ⟨4, 64, .struct #[⟨ "t", 69, 0, false, "", "netcalculus/netcalculusref32", 0⟩, ⟨ "basis", 22, 1, false, "", "netcalculus/netcalculusref32", 24⟩, ⟨ "d", 3, 2, false, "", "netcalculus/netcalculusref32", 48⟩, ⟨ "bad", 4, 3, false, "", "netcalculus/netcalculusref32", 56⟩], .agg #[.slice none 0 0, .slice none 0 0, .int .i64 0, .bool false]⟩),
  (80, ⟨1, 24, .slice 31, .slice none 0 0⟩),
  (88, ⟨1, 8, .int .u64, .int .u64 0⟩),
  (94, ⟨0, 0, .array 0 16, .agg #[]⟩),
  (97, ⟨1, 4, .int .u32, .int .u32 0⟩),
  (101, ⟨1, 8, .pointer 5, .pointer none⟩)]
theorem tys_ok : ∀ p ∈ tys, TyOK Try.prog p.1 p.2 := by
  simp only [tys, List.forall_mem_cons]
  exact ⟨tyOK_mk (by kernel_rfl) (by kernel_rfl),
    tyOK_mk (by kernel_rfl) (by kernel_rfl),
    tyOK_mk (by kernel_rfl) (by kernel_rfl),
    tyOK_mk (by kernel_rfl) (by kernel_rfl),
    tyOK_mk (by kernel_rfl) (by kernel_rfl),
    tyOK_mk (by kernel_rfl) (by kernel_rfl),
    tyOK_mk (by kernel_rfl) (by kernel_rfl),
    tyOK_mk (by kernel_rfl) (by kernel_rfl),
    tyOK_mk (by kernel_rfl) (by kernel_rfl),
    tyOK_mk (by kernel_rfl) (by kernel_rfl),
    tyOK_mk (by kernel_rfl) (by kernel_rfl),
    tyOK_mk (by kernel_rfl) (by kernel_rfl),
    tyOK_mk (by kernel_rfl) (by kernel_rfl),
    tyOK_mk (by kernel_rfl) (by kernel_rfl),
    tyOK_mk (by kernel_rfl) (by kernel_rfl),
    tyOK_mk (by kernel_rfl) (by kernel_rfl),
    tyOK_mk (by kernel_rfl) (by kernel_rfl),
    tyOK_mk (by kernel_rfl) (by kernel_rfl),
    tyOK_mk (by kernel_rfl) (by kernel_rfl),
    tyOK_mk (by kernel_rfl) (by kernel_rfl),
    tyOK_mk (by kernel_rfl) (by kernel_rfl),
    tyOK_mk (by kernel_rfl) (by kernel_rfl),
    tyOK_mk (by kernel_rfl) (by kernel_rfl),
    tyOK_mk (by kernel_rfl) (by kernel_rfl),
    tyOK_mk (by kernel_rfl) (by kernel_rfl),
    tyOK_mk (by kernel_rfl) (by kernel_rfl),
    tyOK_mk (by kernel_rfl) (by kernel_rfl),
    tyOK_mk (by kernel_rfl) (by kernel_rfl),
    tyOK_mk (by kernel_rfl) (by kernel_rfl),
    tyOK_mk (by kernel_rfl) (by kernel_rfl),
    tyOK_mk (by kernel_rfl) (by kernel_rfl),
    tyOK_mk (by kernel_rfl) (by kernel_rfl),
    tyOK_mk (by kernel_rfl) (by kernel_rfl),
    tyOK_mk (by kernel_rfl) (by kernel_rfl),
    tyOK_mk (by kernel_rfl) (by kernel_rfl),
    tyOK_mk (by kernel_rfl) (by kernel_rfl),
    tyOK_mk (by kernel_rfl) (by kernel_rfl),
    tyOK_mk (by kernel_rfl) (by kernel_rfl),
    tyOK_mk (by kernel_rfl) (by kernel_rfl),
    tyOK_mk (by kernel_rfl) (by kernel_rfl),
    tyOK_mk (by kernel_rfl) (by kernel_rfl), by simp⟩
noncomputable def env (n : Nat) : Env := { P := Try.prog, tys := tys, npre := n }

abbrev ints (l : List Int) : List (List SV) := l.map fun n => [.num .i64 n]
abbrev i64 (n : Int) : SV := .num .i64 n
abbrev crv (vs : List Int) (p i : Int) : SV := .agg [.psl 1 (ints vs), .num .i64 p, .num .i64 i]
end Go.Proofs.Ytdkfgecaejmanaa
