/-
  A text of the proofs of this seat: lemmas that the statements' proofs use; it states nothing of the program by itself beyond the contracts that its theorems bear. Conditions: those that stand in each theorem. Its short name: Nz.
-/
import Derived.Test.YtaomhdljcdadaaaGreatN13
set_option linter.unusedVariables false
set_option linter.unusedSimpArgs false
namespace Go.Proofs.YtaomhdljcdadaaaGreat
open Go.Sx Go.Np Go.Cv
set_option maxRecDepth 4000
set_option maxHeartbeats 2000000
def rr (a s m t : Nat) : List Int := (List.range t).map fun j => (((a + j * s) % m : Nat) : Int)
theorem rr_len {a s m t : Nat} : (rr a s m t).length = t := by simp [rr]
theorem rr_get {a s m t j : Nat} (h : j < t) : (rr a s m t).getD j 0 = ((a + j * s) % m : Nat) := by simp [rr, List.getD_eq_getElem?_getD, h]
theorem rr_succ {a s m t : Nat} : rr a s m (t + 1) = rr a s m t ++ [(((a + t * s) % m : Nat) : Int)] := by simp [rr, List.range_succ]
theorem rr_nd0 : ∀ m : Fin 5, ∀ a : Fin 5, ∀ s : Fin 5, ∀ j : Fin 3, ∀ i : Fin 3, (1 ≤ m.val ∧ a.val < m.val ∧ (s.val = 1 ∨ s.val + 1 = m.val) ∧ i.val < j.val ∧ j.val < m.val) → (a.val + i.val * s.val) % m.val ≠ (a.val + j.val * s.val) % m.val := by decide +kernel
theorem rr_nd {m a s j i : Nat} (hm : 1 ≤ m) (h4 : m ≤ 4) (ha : a < m) (hs : s = 1 ∨ s + 1 = m) (hij : i < j) (hj : j < m) (hj3 : j < 3) : (a + i * s) % m ≠ (a + j * s) % m :=
  rr_nd0 ⟨m, by omega⟩ ⟨a, by omega⟩ ⟨s, by omega⟩ ⟨j, hj3⟩ ⟨i, by omega⟩ ⟨hm, ha, hs, hij, hj⟩
theorem rr_mem {a s m t : Nat} {x : Int} (hm : 1 ≤ m) (h : x ∈ rr a s m t) : 0 ≤ x ∧ x < m := by
  unfold rr at h
  obtain ⟨j, _, rfl⟩ := List.mem_map.1 h
  have := Nat.mod_lt (a + j * s) (show 0 < m by omega)
  omega
theorem md_nn {x n : Int} (h : 0 ≤ x) (hn : 1 ≤ n) : md x n = x % n := by
  have e : x.tmod n = x % n := Int.tmod_eq_emod_of_nonneg h
  unfold md
  rw [e, if_neg (by have := Int.emod_nonneg x (show n ≠ 0 by omega); omega)]
theorem at_step {a s m t : Nat} : ((((a + t * s) % m : Nat) : Int) + s) % m = (((a + (t + 1) * s) % m : Nat) : Int) := by
  rw [Nat.add_mul, Nat.one_mul, ← Nat.add_assoc]
  push_cast
  rw [Int.emod_add_emod]
/- a line of a net that is made -/
structure LnG (k : Nat) (l : Ln) : Prop where
  p : PortG k l
  w : l.w.length ≤ 2
  s : l.s.length ≤ 4
structure NetG (ml mf k : Nat) (n : Nt) : Prop where
  g : NtG k n
  ml : n.ln.length ≤ ml
  mf : n.fl.length ≤ mf
  lg : ∀ l ∈ n.ln, LnG k l
theorem NetG.nl {ml mf k : Nat} {n : Nt} (h : NetG ml mf k n) : NL n := by
  have g := h.g
  refine ⟨by rw [g.nl]; have := g.ll; omega, by have := g.ll; omega, by have := g.fl; omega, fun s hs => ?_, fun l hl => ?_, fun f hf => ?_⟩
  · obtain ⟨i, hi, rfl⟩ := List.mem_iff_getElem.1 hs
    have := g.nm i (by rw [← g.nl]; exact hi)
    rw [List.getD_eq_getElem?_getD, List.getElem?_eq_getElem hi, Option.getD_some] at this
    rw [this]; simp [lname, ByteArray.size]
  · have := h.lg l hl
    have h1 := this.w
    have h2 := this.s
    omega
  · have := g.fg f hf
    have h1 := this.r1
    obtain ⟨b, _, _, p1, p2, hv, _⟩ := this.ct
    obtain ⟨i, hi, rfl⟩ := List.mem_iff_getElem.1 hf
    have hn := g.fn i hi
    rw [List.getD_eq_getElem?_getD, List.getElem?_eq_getElem hi, Option.getD_some] at hn
    refine ⟨by rw [hn]; simp [fname, ByteArray.size], by omega, by rw [hv]; simp; omega⟩
end Go.Proofs.YtaomhdljcdadaaaGreat
