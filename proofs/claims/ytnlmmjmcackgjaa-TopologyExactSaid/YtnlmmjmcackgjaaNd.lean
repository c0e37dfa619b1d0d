/-
  A text of the proofs of this seat: lemmas that the statements' proofs use; it states nothing of the program by itself beyond the contracts that its theorems bear. Conditions: those that stand in each theorem. Its short name: Nd.
-/
import Derived.Test.YtnlmmjmcackgjaaLib
import Derived.Test.YtnlmmjmcackgjaaPl
set_option linter.unusedVariables false
set_option linter.unusedSimpArgs false
namespace Go.Proofs.Ytnlmmjmcackgjaa
open Go.Sx Go.Np
abbrev lnv (l : Ln) : List SV := [i64 l.k, i64 l.c, i64 l.n, .psl 1 (ints l.w), .psl 1 (ints l.s)]
abbrev flv (f : Fl) : List SV := [.str f.nm, .psl 1 (ints f.rt), i64 f.cl, i64 f.lo, i64 f.hi, .psl 1 (ints f.v), i64 f.p, i64 f.q]
abbrev lns (l : List Ln) : List (List SV) := l.map lnv
abbrev fls (l : List Fl) : List (List SV) := l.map flv
abbrev strs (l : List ByteArray) : List (List SV) := l.map fun s => [.str s]
abbrev ntv (n : Nt) : SV := .agg [.psl 1 (strs n.nm), .psl 5 (lns n.ln), .psl 8 (fls n.fl)]
theorem lnl (l : List Ln) : (lns l).length = l.length := by simp [lns]
theorem fll (l : List Fl) : (fls l).length = l.length := by simp [fls]
theorem stl (l : List ByteArray) : (strs l).length = l.length := by simp [strs]
theorem lng {l : List Ln} {i : Nat} (h : i < l.length) : (lns l)[i]? = some (lnv (l.getD i ln0)) := by simp [lns, h]
theorem flg {l : List Fl} {i : Nat} (h : i < l.length) : (fls l)[i]? = some (flv (l.getD i fl0)) := by simp [fls, h]
theorem stg {l : List ByteArray} {i : Nat} (h : i < l.length) : (strs l)[i]? = some [.str (l.getD i bs0)] := by simp [strs, h]
def bb (s : ByteArray) (i : Nat) : UInt8 := (s[i]?).getD 0
theorem bbg {s : ByteArray} {i : Nat} (h : i < s.size) : s[i]? = some (bb s i) := by
  unfold bb; rw [getElem?_pos s i h]; rfl
theorem ba_ne {s : ByteArray} (h : ¬s = ⟨#[]⟩) : 1 ≤ s.size := by
  rcases Nat.eq_zero_or_pos s.size with h0 | h0
  · refine absurd ?_ h
    cases s with | mk d => simp only [ByteArray.size] at h0; rw [Array.eq_empty_of_size_eq_zero h0]
  · exact h0
/- sizes that a slice can have -/
structure NL (n : Nt) : Prop where
  nm : n.nm.length ≤ 9223372036854775807
  ln : n.ln.length ≤ 9223372036854775807
  fl : n.fl.length ≤ 9223372036854775807
  ns : ∀ s ∈ n.nm, s.size ≤ 9223372036854775807
  lw : ∀ l ∈ n.ln, l.w.length ≤ 9223372036854775807 ∧ l.s.length ≤ 9223372036854775807
  fs : ∀ f ∈ n.fl, f.nm.size ≤ 9223372036854775807 ∧ f.rt.length ≤ 9223372036854775807 ∧ f.v.length ≤ 9223372036854775807
theorem getD_in {α : Type} {l : List α} {d : α} {i : Nat} (h : i < l.length) : l.getD i d ∈ l := by
  rw [List.getD_eq_getElem?_getD, List.getElem?_eq_getElem h]; exact List.getElem_mem h
end Go.Proofs.Ytnlmmjmcackgjaa
