/-
  A text of the proofs of this seat: lemmas that the statements' proofs use; it states nothing of the program by itself beyond the contracts that its theorems bear. Conditions: those that stand in each theorem. Its short name: P1.
-/
import Derived.Test.YtbdahmfjeklgbaaF2
set_option linter.unusedVariables false
set_option linter.unusedSimpArgs false
namespace Go.Proofs.Ytbdahmfjeklgbaa
open Go.Sx Go.Fq
set_option maxRecDepth 4000
set_option maxHeartbeats 2000000
abbrev fr2 (l : List F) : List (List SV) := l.map fun a => [i64 a.1, i64 a.2]
abbrev fsl (l : List F) : SV := .psl 2 (fr2 l)
theorem fr_len (l : List F) : (fr2 l).length = l.length := by simp [fr2]
theorem fr_get {l : List F} {i : Nat} (h : i < l.length) : (fr2 l)[i]? = some [i64 (l.getD i (0, 1)).1, i64 (l.getD i (0, 1)).2] := by
  simp [fr2, h]
theorem all_to {l : List F} {P : F → Prop} {i : Nat} (h : ∀ j < i, P (l.getD j (0, 1))) (hi : l.length ≤ i) : ∀ f ∈ l, P f := by
  intro f hf
  obtain ⟨j, hj, rfl⟩ := List.mem_iff_getElem.1 hf
  have := h j (by omega)
  simpa [hj] using this
theorem all_at {l : List F} {P : F → Prop} (h : ∀ f ∈ l, P f) {i : Nat} (hi : i < l.length) : P (l.getD i (0, 1)) := by
  have := h l[i] (List.getElem_mem hi)
  simpa [hi] using this
theorem all_step {l : List F} {P : F → Prop} {i : Nat} (h : ∀ j < i, P (l.getD j (0, 1))) (hi : P (l.getD i (0, 1))) : ∀ j < i + 1, P (l.getD j (0, 1)) := by
  intro j hj
  by_cases e : j = i
  · rw [e]; exact hi
  · exact h j (by omega)
theorem aP_P1 {A B K : Prop} (k : K) (a : A := by (simp only [zA, zT, zD, zC, zN, ints_len, zR, fr_len, rw_len]; omega)) (b : B := by (simp only [zA, zT, zD, zC, zN, ints_len, zR, fr_len, rw_len]; omega)) : (A ∧ B) ∧ K := ⟨⟨a, b⟩, k⟩
theorem valid_ok (l : List F) (hl : l.length ≤ 9223372036854775807) : Ctr Try.prog 39 [fsl l] [] (fun r o => o = [] ∧ r = .bp (∀ f ∈ l, VF f)) := by
  refine Ctr.imp ?_
  refine fn_intro (E := env 0) tys_ok rfl rfl rfl Try.func39 (by kernel_rfl) rfl (by kernel_rfl) ?_
  (repeat' (conv => whnf); first | refine aC (fun _ => ?_) (fun _ => ?_) | refine aS ?_ | refine aG ?_ | refine aD ?_ | refine aH ?_ | refine aP_P1 ?_ | refine aI ?_ | refine aJ ?_ | fail); all_goals try (conv => whnf)
  refine LoopOb.mk (Y := Nat) (st := fun i => ⟨[(7, i64 i), (6, i64 (fr2 l).length), (5, fsl l), (2, .bl false)], []⟩)
    (inv := fun i => i ≤ l.length ∧ ∀ j < i, VF (l.getD j (0, 1))) (fun i => l.length - i) 0 [] ⟨by omega, by omega⟩ (by (exact aL)) ?_
  rintro i ⟨hi, hv⟩
  have hln := fr_len l
  (repeat' (conv => whnf); first | refine aC (fun _ => ?_) (fun _ => ?_) | refine aS ?_ | refine aG ?_ | refine aD ?_ | refine aH ?_ | refine aP_P1 ?_ | refine aI ?_ | refine aJ ?_ | fail); all_goals try (conv => whnf)
  · refine ⟨i, _, rfl, fr_get (by omega), ?_⟩
    (repeat' (conv => whnf); first | refine aC (fun _ => ?_) (fun _ => ?_) | refine aS ?_ | refine aG ?_ | refine aD ?_ | refine aH ?_ | refine aP_P1 ?_ | refine aI ?_ | refine aJ ?_ | (refine aK [] (fValid_ok (l.getD i (0, 1)).1 (l.getD i (0, 1)).2) ?_) | fail); all_goals try (conv => whnf)
    · exact ⟨rfl, Imp.bl ⟨fun h => (by cases h), fun h => absurd (all_at h (i := i) (by omega)) (by assumption)⟩⟩
    · exact ⟨i + 1, [], ⟨by omega, all_step hv (Classical.not_not.1 (by assumption))⟩, by omega, by (exact aL)⟩
  · exact ⟨rfl, Imp.bl ⟨fun _ => all_to hv (by omega), fun _ => rfl⟩⟩
theorem all_ok (l : List F) (hl : l.length ≤ 9223372036854775807) : Ctr Try.prog 34 [fsl l] [] (fun r o => o = [] ∧ r = .bp (∀ f ∈ l, VF f)) := by
  refine Ctr.imp ?_
  refine fn_intro (E := env 0) tys_ok rfl rfl rfl Try.func34 (by kernel_rfl) rfl (by kernel_rfl) ?_
  (repeat' (conv => whnf); first | refine aC (fun _ => ?_) (fun _ => ?_) | refine aS ?_ | refine aG ?_ | refine aD ?_ | refine aH ?_ | refine aP_P1 ?_ | refine aI ?_ | refine aJ ?_ | fail); all_goals try (conv => whnf)
  refine LoopOb.mk (Y := Nat) (st := fun i => ⟨[(3, i64 i), (2, .bl false), (0, fsl l)], []⟩)
    (inv := fun i => i ≤ l.length ∧ ∀ j < i, VF (l.getD j (0, 1))) (fun i => l.length - i) 0 [] ⟨by omega, by omega⟩ (by (exact aL)) ?_
  rintro i ⟨hi, hv⟩
  have hln := fr_len l
  (repeat' (conv => whnf); first | refine aC (fun _ => ?_) (fun _ => ?_) | refine aS ?_ | refine aG ?_ | refine aD ?_ | refine aH ?_ | refine aP_P1 ?_ | refine aI ?_ | refine aJ ?_ | fail); all_goals try (conv => whnf)
  · refine ⟨i, _, rfl, fr_get (by omega), ?_⟩
    (repeat' (conv => whnf); first | refine aC (fun _ => ?_) (fun _ => ?_) | refine aS ?_ | refine aG ?_ | refine aD ?_ | refine aH ?_ | refine aP_P1 ?_ | refine aI ?_ | refine aJ ?_ | (refine aK [] (rValid_ok (l.getD i (0, 1)).1 (l.getD i (0, 1)).2) ?_) | fail); all_goals try (conv => whnf)
    · exact ⟨rfl, Imp.bl ⟨fun h => (by cases h), fun h => absurd (all_at h (i := i) (by omega)) (by assumption)⟩⟩
    · exact ⟨i + 1, [], ⟨by omega, all_step hv (Classical.not_not.1 (by assumption))⟩, by omega, by (exact aL)⟩
  · exact ⟨rfl, Imp.bl ⟨fun _ => all_to hv (by omega), fun _ => rfl⟩⟩
end Go.Proofs.Ytbdahmfjeklgbaa
