/-
  A text of the proofs of this seat: lemmas that the statements' proofs use; it states nothing of the program by itself beyond the contracts that its theorems bear. Conditions: those that stand in each theorem. Its short name: Pw.
-/
import Derived.Test.YtlnpbgjoccipaaaPl
import Derived.Test.YtlnpbgjoccipaaaSm
set_option linter.unusedVariables false
set_option linter.unusedSimpArgs false
namespace Go.Pk
open Go.St Go.Cv
/-! whole packets, plainly -/
def smL (l : List Pk) : Nat → Int
  | 0 => 0
  | j + 1 => smL l j + (l.getD j pk0).s
def bsL (l : List Pk) (n : Int) : Nat → Int
  | 0 => 0
  | j + 1 => if smL l (j + 1) ≤ n then max (bsL l n j) (smL l (j + 1)) else bsL l n j
def msL (l : List Pk) : Nat → Int
  | 0 => 0
  | j + 1 => max (msL l j) (l.getD j pk0).s
def whl (l : List Pk) (n : Int) : Int := bsL l n l.length
theorem smL_bd {l : List Pk} (h : ∀ x ∈ l, 0 ≤ x.s ∧ x.s ≤ 1000000) : ∀ j, j ≤ l.length → 0 ≤ smL l j ∧ smL l j ≤ 1000000 * j
  | 0, _ => by simp [smL]
  | j + 1, hj => by
    have h1 := smL_bd h j (by omega)
    have h2 := h _ (getD_memP (l := l) (i := j) (by omega))
    simp only [smL]; push_cast; omega
theorem bsL_bd {l : List Pk} (h : ∀ x ∈ l, 0 ≤ x.s ∧ x.s ≤ 1000000) {n : Int} (hn : 0 ≤ n) : ∀ j, j ≤ l.length → 0 ≤ bsL l n j ∧ bsL l n j ≤ n ∧ bsL l n j ≤ smL l j
  | 0, _ => by simp [bsL, smL]; omega
  | j + 1, hj => by
    have h1 := bsL_bd h hn j (by omega)
    have h2 := h _ (getD_memP (l := l) (i := j) (by omega))
    have h3 : smL l (j + 1) = smL l j + (l.getD j pk0).s := rfl
    simp only [bsL]
    split <;> omega
theorem msL_bd {l : List Pk} : ∀ j, 0 ≤ msL l j
  | 0 => by simp [msL]
  | j + 1 => by have := msL_bd (l := l) j; simp only [msL]; omega
theorem bsL_low {l : List Pk} (h : ∀ x ∈ l, 0 ≤ x.s ∧ x.s ≤ 1000000) {n : Int} (hn : 0 ≤ n) : ∀ j, j ≤ l.length → bsL l n j = smL l j ∨ n - msL l j < bsL l n j
  | 0, _ => .inl rfl
  | j + 1, hj => by
    have h1 := bsL_low h hn j (by omega)
    have h2 := h _ (getD_memP (l := l) (i := j) (by omega))
    have h3 : smL l (j + 1) = smL l j + (l.getD j pk0).s := rfl
    have h4 := bsL_bd h hn j (by omega)
    have h5 : msL l (j + 1) = max (msL l j) (l.getD j pk0).s := rfl
    simp only [bsL]
    split <;> omega
theorem bsL_mono {l : List Pk} {n n' : Int} (hn : n ≤ n') : ∀ j, bsL l n j ≤ bsL l n' j
  | 0 => by simp [bsL]
  | j + 1 => by
    have h1 := bsL_mono (l := l) hn j
    simp only [bsL]
    split <;> split <;> omega
/-! arrays that are filled -/
def prt {α : Type} (l : List α) (k : Nat) (z : α) : List α := l.take k ++ List.replicate (l.length - k) z
theorem prt_len {α : Type} (l : List α) (k : Nat) (z : α) (h : k ≤ l.length) : (prt l k z).length = l.length := by
  simp only [prt, List.length_append, List.length_take, List.length_replicate]; omega
theorem prt_zero {α : Type} (l : List α) (z : α) : prt l 0 z = List.replicate l.length z := by simp [prt]
theorem prt_full {α : Type} (l : List α) (z : α) : prt l l.length z = l := by simp [prt]
theorem prt_set {α : Type} {l : List α} {k : Nat} {x : α} (z : α) (h : l[k]? = some x) : (prt l k z).set k x = prt l (k + 1) z := by
  obtain ⟨hk, e⟩ := List.getElem?_eq_some_iff.1 h
  have hl : (l.take k).length = k := by rw [List.length_take]; omega
  unfold prt
  rw [List.set_append_right _ _ (by omega), hl, Nat.sub_self, show l.length - k = l.length - (k + 1) + 1 by omega, List.replicate_succ, List.take_succ_eq_append_getElem hk, e]
  simp
theorem prt_get {α : Type} {l : List α} {k : Nat} (z : α) (h : k < l.length) : (prt l k z)[k]? = some z := by
  have hl : (l.take k).length = k := by rw [List.length_take]; omega
  unfold prt
  rw [List.getElem?_append_right (by omega), hl, Nat.sub_self, show l.length - k = l.length - (k + 1) + 1 by omega, List.replicate_succ]
  rfl
end Go.Pk
