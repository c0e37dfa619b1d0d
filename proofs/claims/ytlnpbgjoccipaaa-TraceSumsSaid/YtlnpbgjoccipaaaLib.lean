/-
  A text of the proofs of this seat: lemmas that the statements' proofs use; it states nothing of the program by itself beyond the contracts that its theorems bear. Conditions: those that stand in each theorem. Its short name: Lib.
-/
import Derived.Test.YtlnpbgjoccipaaaTy
set_option linter.unusedVariables false
set_option linter.unusedSimpArgs false
namespace Go.Proofs.Ytlnpbgjoccipaaa
open Go.Sx
theorem ints_get {l : List Int} {j : Nat} (h : j < l.length) : (ints l)[j]? = some [.num .i64 (l.getD j 0)] := by
  simp [ints, List.getElem?_map, List.getElem?_eq_getElem h]
theorem ints_len (l : List Int) : (ints l).length = l.length := by simp [ints]
theorem tdiv_bd {a b : Int} (h : 0 ≤ a) (hb : 1 ≤ b) : a.tdiv b = a / b ∧ 0 ≤ a / b ∧ a / b ≤ a := by
  refine ⟨Int.tdiv_eq_ediv_of_nonneg h, Int.ediv_nonneg h (by omega), Int.ediv_le_self _ h⟩
theorem tmod_bd {a b : Int} (h : 0 ≤ a) (hb : 1 ≤ b) : a.tmod b = a % b ∧ 0 ≤ a % b ∧ a % b < b := by
  refine ⟨Int.tmod_eq_emod_of_nonneg h, Int.emod_nonneg _ (by omega), Int.emod_lt_of_pos _ (by omega)⟩
theorem Ctr.imp {P f args own own'} {s : SV} (h : Ctr P f args own (fun r o => o = own' ∧ Imp r s)) : Ctr P f args own (fun r o => o = own' ∧ r = s) :=
  ⟨h.1, fun w σ β vs h1 h2 => (h.2 w σ β vs h1 h2).mono fun _ _ ⟨v, σ', β', own', _, a, b, c, d, e1, e2⟩ => ⟨v, σ', β', own', s, a, b, c, e2 _ _ _ d, e1, rfl⟩⟩
theorem Ctr.impE {P f args own} {α : Type} {Q : α → Prop} {s : α → SV} {ow : α → List Chunk} (h : Ctr P f args own (fun r o => ∃ x, Q x ∧ o = ow x ∧ Imp r (s x))) : Ctr P f args own (fun r o => ∃ x, Q x ∧ o = ow x ∧ r = s x) :=
  ⟨h.1, fun w σ β vs h1 h2 => (h.2 w σ β vs h1 h2).mono fun _ _ ⟨v, σ', β', own', _, a, b, c, d, x, e0, e1, e2⟩ => ⟨v, σ', β', own', s x, a, b, c, e2 _ _ _ d, x, e0, e1, rfl⟩⟩
end Go.Proofs.Ytlnpbgjoccipaaa
