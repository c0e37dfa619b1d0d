/-
  A text of the proofs of this seat: lemmas that the statements' proofs use; it states nothing of the program by itself beyond the contracts that its theorems bear. Conditions: those that stand in each theorem. Its short name: Dz.
-/
import Derived.Test.YtabbnnfobjifiaaSxC
import Derived.Laws.IdiomCopy
import Derived.Tactics
set_option linter.unusedVariables false
set_option linter.unusedSimpArgs false
namespace Go.Sx
/-! writing a run of cells into a block -/
theorem setCells_get {b : Nat} {T : TypeId} : ∀ (news : List Value) (w : World) (pre mid post : List Value), w.heap[b]? = some (.cells (pre ++ mid ++ post).toArray T (0, 0)) → news.length = mid.length →
    (w.setCells b pre.length news).heap[b]? = some (.cells (pre ++ news ++ post).toArray T (0, 0)) ∧ (∀ k, k ≠ b → (w.setCells b pre.length news).heap[k]? = w.heap[k]?) ∧ (w.setCells b pre.length news).heap.size = w.heap.size ∧
      (w.setCells b pre.length news).os = w.os ∧ (w.setCells b pre.length news).tape = w.tape ∧ (w.setCells b pre.length news).output = w.output
  | [], w, pre, mid, post, h, hl => by
    have : mid = [] := List.eq_nil_of_length_eq_zero (by simpa using hl.symm)
    subst this
    exact ⟨h, fun _ _ => rfl, rfl, rfl, rfl, rfl⟩
  | v :: r, w, pre, [], post, h, hl => by simp at hl
  | v :: r, w, pre, m :: mid, post, h, hl => by
    have hb := lt_of_get h
    have h1 : (w.setCell ⟨b, pre.length, none⟩ v).heap[b]? = some (.cells ((pre ++ [v]) ++ mid ++ post).toArray T (0, 0)) := by
      simp only [World.setCell, Array.getElem?_modify, if_true, h, Option.map_some]
      congr 2
      simp
    have ih := setCells_get r (w.setCell ⟨b, pre.length, none⟩ v) (pre ++ [v]) mid post h1 (by simpa using hl)
    rw [List.length_append, List.length_singleton] at ih
    refine ⟨by rw [World.setCells, ih.1]; simp, fun k hk => ?_, ?_, ?_, ?_, ?_⟩
    · rw [World.setCells, ih.2.1 k hk]
      simp only [World.setCell, Array.getElem?_modify, if_neg (Ne.symm hk)]
    · rw [World.setCells, ih.2.2.1]; simp [World.setCell]
    · rw [World.setCells, ih.2.2.2.1]; rfl
    · rw [World.setCells, ih.2.2.2.2.1]; rfl
    · rw [World.setCells, ih.2.2.2.2.2]; rfl
theorem clear_one {P : Program} (w : World) (t e ty : TypeId) (z : Value) (ht : P.underlying t = some (.slice e)) (hv : ∀ w, (zeroValue e).run P w = .ok z w) (zs : List Value) (hz : (Builtin.zeroCells z.cells 1).toList = zs) (h1 : ∀ v ∈ zs, v.oneCell' = true) (b o c : Nat)
    (hc : ∀ j, j < zs.length → (w.cell? ⟨b, o + j, none⟩).isSome = true) (hf : ∀ j, j < zs.length → w.frozen? ⟨b, o + j, none⟩ = false) :
    (Builtin.clear_ #[t] ty #[.slice (some ⟨b, o, none⟩) 1 c]).run P w = .ok (.tuple #[]) (w.setCells b o zs) := by
  have hst := run_storeCells_cells (P := P) b o zs 0 w (by simpa using hc) (by simpa using hf) h1
  simp only [Nat.add_zero] at hst
  simp [Builtin.clear_, run_underlying ht, hv, hz, hst]
theorem cell_at {w : World} {b : Nat} {T : TypeId} {cs : List Value} (h : w.heap[b]? = some (.cells cs.toArray T (0, 0))) (o : Nat) : w.cell? ⟨b, o, none⟩ = cs[o]? ∧ w.frozen? ⟨b, o, none⟩ = false := by
  constructor
  · simp [World.cell?, h]
  · simp [World.frozen?, h]
end Go.Sx
