/-
  A text of the proofs of this seat: lemmas that the statements' proofs use; it states nothing of the program by itself beyond the contracts that its theorems bear. Conditions: those that stand in each theorem. Its short name: Ty.
-/
import Derived.Test.YtbdahmfjeklgbaaSxC
import Derived.Test.YtbdahmfjeklgbaaChecked
import Derived.KernelRfl
set_option linter.unusedVariables false
set_option linter.unusedSimpArgs false
namespace Go.Proofs.Ytbdahmfjeklgbaa
open Go.Sx
def tys : List (Nat × TyD) := [
  (2, ⟨1, 8, .int .i64, .int .i64 0⟩),
  (3, ⟨1, 8, .int .i64, .int .i64 0⟩),
  (4, ⟨1, 1, .bool, .bool false⟩),
  (5, ⟨1, 1, .int .u8, .int .u8 0⟩),
  (9, ⟨1, 16, .string, .string ByteArray.empty⟩),
  (12, ⟨1, 8, .int .u64, .int .u64 0⟩),
  (15, ⟨1, 8, .pointer 97, .pointer none⟩),
  (16, ⟨1, 8, .pointer 100, .pointer none⟩),
  (17, ⟨1, 8, .pointer 109, .pointer none⟩),
  (21, ⟨1, 4, .int .i32, .int .i32 0⟩),
  (22, ⟨1, 24, .slice 3, .slice none 0 0⟩),
  (24, ⟨1, 8, .pointer 57, .pointer none⟩),
  (26, ⟨1, 24, .slice 32, .slice none 0 0⟩),
  (27, ⟨1, 24, .slice 39, .slice none 0 0⟩),
  (28, ⟨2, 48, .struct #[⟨ "Costs", 26, 0, false, "", "", 0⟩, ⟨ "Rows", 27, 1, false, "", "", 24⟩], .agg #[.slice none 0 0, .slice none 0 0]⟩),
  (29, ⟨2, 48, .struct #[⟨ "Costs", 26, 0, false, "", "", 0⟩, ⟨ "Rows", 27, 1, false, "", "", 24⟩], .agg #[.slice none 0 0, .slice none 0 0]⟩),
  (31, ⟨2, 16, .struct #[⟨ "Num", 3, 0, false, "", "", 0⟩, ⟨ "Den", 3, 1, false, "", "", 8⟩], .agg #[.int .i64 0, .int .i64 0]⟩),
  (32, ⟨2, 16, .struct #[⟨ "Num", 3, 0, false, "", "", 0⟩, ⟨ "Den", 3, 1, false, "", "", 8⟩], .agg #[.int .i64 0, .int .i64 0]⟩),
  (33, ⟨6, 96, .struct #[⟨ "Status", 3, 0, false, "", "", 0⟩, ⟨ "X", 26, 1, false, "", "", 8⟩, ⟨ "Value", 32, 2, false, "", "", 32⟩, ⟨ "Dual", 26, 4, false, "", "", 48⟩, ⟨ "Ray", 26, 5, false, "", "", 72⟩], .agg #[.int .i64 0, .slice none 0 0, .int .i64 0, .int .i64 0, .slice none 0 0, .slice none 0 0]⟩),
  (34, ⟨6, 96, .struct #[⟨ "Status", 3, 0, false, "", "", 0⟩, ⟨ "X", 26, 1, false, "", "", 8⟩, ⟨ "Value", 32, 2, false, "", "", 32⟩, ⟨ "Dual", 26, 4, false, "", "", 48⟩, ⟨ "Ray", 26, 5, false, "", "", 72⟩], .agg #[.int .i64 0, .slice none 0 0, .int .i64 0, .int .i64 0, .slice none 0 0, .slice none 0 0]⟩),
  (35, ⟨1, 8, .int .i64, .int .i64 0⟩),
  (38, ⟨4, 48, .struct #[⟨ "Coefs", 26, 0, false, "", "", 0⟩, ⟨ "Sense", 3, 1, false, "", "", 24⟩, ⟨ "Bound", 32, 2, false, "", "", 32⟩], .agg #[.slice none 0 0, .int .i64 0, .int .i64 0, .int .i64 0]⟩),
  (39, ⟨4, 48, .struct #[⟨ "Coefs", 26, 0, false, "", "", 0⟩, ⟨ "Sense", 3, 1, false, "", "", 24⟩, ⟨ "Bound", 32, 2, false, "", "", 32⟩], .agg #[.slice none 0 0, .int .i64 0, .int .i64 0, .int .i64 0]⟩),
  (49, ⟨6, 144, .array 3 29, .agg #[.slice none 0 0, .slice none 0 0, .slice none 0 0, .slice none 0 0, .slice none 0 0, .slice none 0 0]⟩),
  (52, ⟨2, 48, .array 2 26, .agg #[.slice none 0 0, .slice none 0 0]⟩),
  (53, ⟨4, 96, .array 2 52, .agg #[.slice none 0 0, .slice none 0 0, .slice none 0 0, .slice none 0 0]⟩),
  (56, ⟨2, 32, .struct #[⟨ "L", 22, 0, false, "", "", 0⟩, ⟨ "At", 3, 1, false, "", "", 24⟩], .agg #[.slice none 0 0, .int .i64 0]⟩),
  (57, ⟨2, 32, .struct #[⟨ "L", 22, 0, false, "", "", 0⟩, ⟨ "At", 3, 1, false, "", "", 24⟩], .agg #[.slice none 0 0, .int .i64 0]⟩),
  (61, ⟨1, 8, .pointer 66, .pointer none⟩),
  (64, ⟨1, 24, .slice 22, .slice none 0 0⟩),
  (65, ⟨9, 136, .struct #[⟨ "cells", 64, 0, false, "", "netcalculus/simplex", 0⟩, ⟨ "den", 3, 1, false, "", "netcalculus/simplex", 24⟩, ⟨ "basis", 22, 2, false, "", "netcalculus/simplex", 32⟩, ⟨ "turn", 22, 3, false, "", "netcalculus/simplex", 56⟩, ⟨ "scale", 22, 4, false, "", "netcalculus/simplex", 80⟩, ⟨ "cost", 3, 5, false, "", "netcalculus/simplex", 104⟩, ⟨ "n", 3, 6, false, "", "netcalculus/simplex", 112⟩, ⟨ "m", 3, 7, false, "", "netcalculus/simplex", 120⟩, ⟨ "over", 4, 8, false, "", "netcalculus/simplex", 128⟩], .agg #[.slice none 0 0, .int .i64 0, .slice none 0 0, .slice none 0 0, .slice none 0 0, .int .i64 0, .int .i64 0, .int .i64 0, .bool false]⟩),
  (66, ⟨9, 136, .struct #[⟨ "cells", 64, 0, false, "", "netcalculus/simplex", 0⟩, ⟨ "den", 3, 1, false, "", "netcalculus/simplex", 24⟩, ⟨ "basis", 22, 2, false, "", "netcalculus/simplex", 32⟩, ⟨ "turn", 22, 3, false, "", "netcalculus/simplex", 56⟩, ⟨ "scale", 22, 4, false, "", "netcalculus/simplex", 80⟩, ⟨ "cost", 3, 5, false, "", "netcalculus/simplex", 104⟩, ⟨ "n", 3, 6, false, "", "netcalculus/simplex", 112⟩, ⟨ "m", 3, 7, false, "", "netcalculus/simplex", 120⟩, ⟨ "over", 4, 8, false, "", "netcalculus/simplex", 128⟩], .agg #[.slice none 0 0, .int .i64 0, .slice none 0 0, .slice none 0 0, .slice none 0 0, .int .i64 0, .int .i64 0, .int .i64 0, .bool false]⟩),
  (72, ⟨1, 8, .pointer 39, .pointer none⟩),
  (76, ⟨1, 8, .pointer 78, .pointer none⟩),
  (77, ⟨4, 64, .struct #[⟨ "t", 64, 0, false, "", "netcalculus/netcalculusref32", 0⟩, ⟨ "basis", 22, 1, false, "", "netcalculus/netcalculusref32", 24⟩, ⟨ "d", 3, 2, false, "", "netcalculus/netcalculusref32", 48⟩, ⟨ "bad", 4, 3, false, "", "netcalculus/netcalculusref32", 56⟩], .agg #[.slice none 0 0, .slice none 0 0, .int .i64 0, .bool false]⟩),
  (78, ⟨4, 64, .struct #[⟨ "t", 64, 0, false, "", "netcalculus/netcalculusref32", 0⟩, ⟨ "basis", 22, 1, false, "", "netcalculus/netcalculusref32", 24⟩, ⟨ "d", 3, 2, false, "", "netcalculus/netcalculusref32", 48⟩, ⟨ "bad", 4, 3, false, "", "netcalculus/netcalculusref32", 56⟩], .agg #[.slice none 0 0, .slice none 0 0, .int .i64 0, .bool false]⟩),
  (92, ⟨1, 8, .int .u64, .int .u64 0⟩),
  (98, ⟨0, 0, .array 0 16, .agg #[]⟩),
  (101, ⟨1, 4, .int .u32, .int .u32 0⟩),
  (105, ⟨1, 8, .pointer 5, .pointer none⟩)]
theorem tys_ok : ∀ p ∈ tys, TyOK Try.prog p.1 p.2 := by
  simp only [tys, List.forall_mem_cons]
  exact ⟨tyOK_mk (by kernel_rfl) (by kernel_rfl),
    tyOK_mk (by kernel_rfl) (by kernel_rfl),
    tyOK_mk (by kernel_rfl) (by kernel_rfl),
    tyOK_mk (by kernel_rfl) (by kernel_rfl),
    tyOK_mk (by kernel_rfl) (by kernel_rfl),
    tyOK_mk (by kernel_rfl) (by kernel_rfl),
    tyOK_mk (by kernel_rfl) (by kernel_rfl),
    tyOK_mk (by kernel_rfl) (by kernel_rfl),
    tyOK_mk (by kernel_rfl) (by kernel_rfl),
    tyOK_mk (by kernel_rfl) (by kernel_rfl),
    tyOK_mk (by kernel_rfl) (by kernel_rfl),
    tyOK_mk (by kernel_rfl) (by kernel_rfl),
    tyOK_mk (by kernel_rfl) (by kernel_rfl),
    tyOK_mk (by kernel_rfl) (by kernel_rfl),
    tyOK_mk (by kernel_rfl) (by kernel_rfl),
    tyOK_mk (by kernel_rfl) (by kernel_rfl),
    tyOK_mk (by kernel_rfl) (by kernel_rfl),
    tyOK_mk (by kernel_rfl) (by kernel_rfl),
    tyOK_mk (by kernel_rfl) (by kernel_rfl),
    tyOK_mk (by kernel_rfl) (by kernel_rfl),
    tyOK_mk (by kernel_rfl) (by kernel_rfl),
    tyOK_mk (by kernel_rfl) (by kernel_rfl),
    tyOK_mk (by kernel_rfl) (by kernel_rfl),
    tyOK_mk (by kernel_rfl) (by kernel_rfl),
    tyOK_mk (by kernel_rfl) (by kernel_rfl),
    tyOK_mk (by kernel_rfl) (by kernel_rfl),
    tyOK_mk (by kernel_rfl) (by kernel_rfl),
    tyOK_mk (by kernel_rfl) (by kernel_rfl),
    tyOK_mk (by kernel_rfl) (by kernel_rfl),
    tyOK_mk (by kernel_rfl) (by kernel_rfl),
    tyOK_mk (by kernel_rfl) (by kernel_rfl),
    tyOK_mk (by kernel_rfl) (by kernel_rfl),
    tyOK_mk (by kernel_rfl) (by kernel_rfl),
    tyOK_mk (by kernel_rfl) (by kernel_rfl),
    tyOK_mk (by kernel_rfl) (by kernel_rfl),
    tyOK_mk (by kernel_rfl) (by kernel_rfl),
    tyOK_mk (by kernel_rfl) (by kernel_rfl),
    tyOK_mk (by kernel_rfl) (by kernel_rfl),
    tyOK_mk (by kernel_rfl) (by kernel_rfl),
    tyOK_mk (by kernel_rfl) (by kernel_rfl), by simp⟩
noncomputable def env (n : Nat) : Env := { P := Try.prog, tys := tys, npre := n }

abbrev ints (l : List Int) : List (List SV) := l.map fun n => [.num .i64 n]
abbrev i64 (n : Int) : SV := .num .i64 n
end Go.Proofs.Ytbdahmfjeklgbaa
