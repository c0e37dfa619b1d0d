/-
  A text of the proofs of this seat: lemmas that the statements' proofs use; it states nothing of the program by itself beyond the contracts that its theorems bear. Conditions: those that stand in each theorem. Its short name: Oe.
-/
import Derived.Test.YtbdahmfjeklgbaaLib
import Derived.Test.YtbdahmfjeklgbaaP3
set_option linter.unusedVariables false
set_option linter.unusedSimpArgs false
namespace Go.Proofs.Ytbdahmfjeklgbaa
open Go.Sx Go.Fq
theorem Opens.imp {P : Program} {t : TypeId} {α β : Type} {S : α → List SV} {side : α → Prop} {S' : β → List SV} {side' : β → Prop} (h : Opens P t S side) (hi : ∀ a, side a → ∃ b, side' b ∧ S a = S' b) : Opens P t S' side' := by
  intro H enc W fuel cs x hx
  obtain ⟨h1, h2, ⟨a, ha, hr⟩, h4⟩ := h enc W fuel cs x hx
  obtain ⟨b, hb, e⟩ := hi a ha
  exact ⟨h1, h2, ⟨b, hb, e ▸ hr⟩, h4⟩
theorem opensI : Opens Try.prog 3 (fun n : Int => [i64 n]) Fit := opens_int (by kernel_rfl) (by kernel_rfl)
abbrev FitF (f : F) : Prop := Fit f.1 ∧ Fit f.2
def fracFs : List Field := [⟨ "Num", 3, 0, false, "", "", 0⟩, ⟨ "Den", 3, 1, false, "", "", 8⟩]
theorem opens_frac : Opens Try.prog 32 (fun f : F => [i64 f.1, i64 f.2]) FitF :=
  Opens.imp (opens_struct (P := Try.prog) (fs := fracFs) (by kernel_rfl) (by kernel_rfl)
    (opensF_cons (P := Try.prog) (S := fun n : Int => [i64 n]) rfl opensI (opensF_cons (P := Try.prog) (S := fun n : Int => [i64 n]) (by kernel_rfl) opensI opensF_nil)))
    (fun a ha => ⟨(a.1, a.2.1), ⟨ha.1, ha.2.1⟩, rfl⟩)
abbrev FitL (l : List F) : Prop := l.length ≤ maxLen
theorem opens_fl : Opens Try.prog 26 (fun l : List F => [fsl l]) FitL :=
  Opens.imp (opens_slice (e := 32) (by kernel_rfl) (by kernel_rfl) (by decide +kernel) opens_frac) (fun a ha => ⟨a, ha.1, rfl⟩)
theorem opens_fsl : OpensArg Try.prog 26 (fun l : List F => fsl l) FitL :=
  opensArg_one (D := .slice 32) (by kernel_rfl) rfl opens_fl
def rowFs : List Field := [⟨ "Coefs", 26, 0, false, "", "", 0⟩, ⟨ "Sense", 3, 1, false, "", "", 24⟩, ⟨ "Bound", 32, 2, false, "", "", 32⟩]
theorem opens_row : Opens Try.prog 39 rwv (fun w => FitL w.1) :=
  Opens.imp (opens_struct (P := Try.prog) (fs := rowFs) (by kernel_rfl) (by kernel_rfl)
    (opensF_cons (P := Try.prog) (S := fun l : List F => [fsl l]) rfl opens_fl
      (opensF_cons (P := Try.prog) (S := fun n : Int => [i64 n]) (by kernel_rfl) opensI
        (opensF_cons (P := Try.prog) (S := fun f : F => [i64 f.1, i64 f.2]) (by kernel_rfl) opens_frac opensF_nil))))
    (fun a ha => ⟨(a.1, a.2.1, a.2.2.1), ha.1, rfl⟩)
abbrev FitR (l : List Rw) : Prop := l.length ≤ maxLen ∧ ∀ w ∈ l, FitL w.1
theorem opens_rows : Opens Try.prog 27 (fun l : List Rw => [.psl 4 (rws l)]) FitR :=
  Opens.imp (opens_slice (e := 39) (by kernel_rfl) (by kernel_rfl) (by decide +kernel) opens_row) (fun a ha => ⟨a, ha, rfl⟩)
def progFs : List Field := [⟨ "Costs", 26, 0, false, "", "", 0⟩, ⟨ "Rows", 27, 1, false, "", "", 24⟩]
theorem opens_prog : OpensArg Try.prog 29 prv (fun p => FitL p.c ∧ FitR p.r) :=
  OpensArg.imp (opensArg_struct (fs := progFs.toArray) (by kernel_rfl) (opens_struct (P := Try.prog) (fs := progFs) (by kernel_rfl) (by kernel_rfl)
    (opensF_cons (P := Try.prog) (S := fun l : List F => [fsl l]) rfl opens_fl (opensF_cons (P := Try.prog) (S := fun l : List Rw => [.psl 4 (rws l)]) (by kernel_rfl) opens_rows opensF_nil))))
    (fun a ha => ⟨⟨a.1, a.2.1⟩, ⟨ha.1, ha.2.1⟩, Imp.refl _⟩)
theorem pl_of {p : Pr} (h : FitL p.c ∧ FitR p.r) : PL p := ⟨maxLen_le h.1, maxLen_le h.2.1, fun w hw => maxLen_le (h.2.2 w hw)⟩
end Go.Proofs.Ytbdahmfjeklgbaa
