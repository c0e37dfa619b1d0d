/-
  A text of the proofs of this seat: lemmas that the statements' proofs use; it states nothing of the program by itself beyond the contracts that its theorems bear. Conditions: those that stand in each theorem. Its short name: Im.
-/
import Derived.Test.YtbbbmkjfmcnnfaaSxC
set_option linter.unusedVariables false
set_option linter.unusedSimpArgs false
namespace Go.Sx
def ImpR : List (List SV) → List (List SV) → Prop
  | [], [] => True
  | s :: l, s' :: l' => ImpL s s' ∧ ImpR l l'
  | _, _ => False
theorem impL_len : ∀ {l l' : List SV}, ImpL l l' → l.length = l'.length
  | [], [], _ => rfl
  | _ :: _, _ :: _, h => by simp [impL_len h.2]
  | [], _ :: _, h => h.elim
  | _ :: _, [], h => h.elim
theorem ImpR.ok : ∀ {l l' : List (List SV)}, ImpR l l' → ∀ {σ vss}, relLL σ l vss → relLL σ l' vss
  | [], [], _, _, _, h => h
  | s :: l, s' :: l', hi, σ, vss, h => by
    simp only [relLL] at h; obtain ⟨v, vs', rfl, h1, h2⟩ := h
    exact relLL_cons.2 ⟨hi.1.ok h1, hi.2.ok h2⟩
  | [], _ :: _, hi, _, _, _ => hi.elim
  | _ :: _, [], hi, _, _, _ => hi.elim
theorem ImpR.len : ∀ {l l' : List (List SV)}, ImpR l l' → l.length = l'.length
  | [], [], _ => rfl
  | _ :: _, _ :: _, h => by simp [ImpR.len h.2]
  | [], _ :: _, h => h.elim
  | _ :: _, [], h => h.elim
theorem ImpR.row : ∀ {l l' : List (List SV)} {e : Nat}, ImpR l l' → (∀ r ∈ l, r.length = e) → ∀ r ∈ l', r.length = e
  | [], [], _, _, _, r, hr => by simp at hr
  | s :: l, s' :: l', e, hi, h, r, hr => by
    rcases List.mem_cons.1 hr with rfl | hr
    · rw [← impL_len hi.1]; exact h s (by simp)
    · exact ImpR.row hi.2 (fun r hr => h r (by simp [hr])) r hr
  | [], _ :: _, _, hi, _, _, _ => hi.elim
  | _ :: _, [], _, hi, _, _, _ => hi.elim
theorem Imp.fulr {e : Nat} {a b : List (List SV)} (h : ImpR a b) : Imp (.ful e a) (.psl e b) := fun σ β v hv => by
  simp only [rel] at *
  obtain ⟨ad, vss, e1, h1, h2, h3⟩ := hv
  refine ⟨ad, a.length, vss, by rw [← h.len]; exact e1, by rw [h.len]; exact Nat.le_refl _, h.ok h1, h.row h2, ?_⟩
  rcases h3 with h3 | h3
  · subst h3
    refine .inl ?_
    have := h.len
    exact List.length_eq_zero_iff.1 this.symm
  · exact .inr h3
theorem Imp.pslr {e : Nat} {a b : List (List SV)} (h : ImpR a b) : Imp (.psl e a) (.psl e b) := fun σ β v hv => by
  simp only [rel] at *
  obtain ⟨ad, cap, vss, e1, hc, h1, h2, h3⟩ := hv
  refine ⟨ad, cap, vss, by rw [← h.len]; exact e1, by rw [← h.len]; exact hc, h.ok h1, h.row h2, ?_⟩
  rcases h3 with h3 | h3
  · subst h3
    refine .inl ?_
    have := h.len
    exact List.length_eq_zero_iff.1 this.symm
  · exact .inr h3
theorem ImpR.refl : ∀ l : List (List SV), ImpR l l
  | [] => trivial
  | s :: l => ⟨ImpL.refl s, ImpR.refl l⟩
theorem ImpR.set : ∀ {l : List (List SV)} {i : Nat} {a b : List SV}, ImpL a b → ImpR (l.set i a) (l.set i b)
  | [], i, a, b, _ => trivial
  | s :: l, 0, a, b, h => ⟨h, ImpR.refl l⟩
  | s :: l, i + 1, a, b, h => ⟨ImpL.refl s, ImpR.set h⟩
end Go.Sx
