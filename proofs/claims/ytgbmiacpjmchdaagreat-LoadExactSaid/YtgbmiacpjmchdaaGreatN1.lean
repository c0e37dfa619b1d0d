/-
  A text of the proofs of this seat: lemmas that the statements' proofs use; it states nothing of the program by itself beyond the contracts that its theorems bear. Conditions: those that stand in each theorem. Its short name: N1.
-/
import Derived.Test.YtgbmiacpjmchdaaGreatNd
set_option linter.unusedVariables false
set_option linter.unusedSimpArgs false
namespace Go.Proofs.YtgbmiacpjmchdaaGreat
open Go.Sx Go.Np
set_option maxRecDepth 4000
set_option maxHeartbeats 2000000
--FN network.Word
theorem aP_N1 {A B K : Prop} (k : K) (a : A := by (simp only [zA, zT, zD, zC, zN, ints_len, zR, lnl, fll, stl]; omega)) (b : B := by (simp only [zA, zT, zD, zC, zN, ints_len, zR, lnl, fll, stl]; omega)) : (A ∧ B) ∧ K := ⟨⟨a, b⟩, k⟩
theorem Word_ok (s : ByteArray) (hs : s.size ≤ 9223372036854775807) : Ctr Tryz.prog 94 [.str s] [] (fun r o => o = [] ∧ r = .bp (WordP s)) := by
  refine Ctr.imp ?_
  refine fn_intro (E := env 0) tys_ok rfl rfl rfl Tryz.func94 (by kernel_rfl) rfl (by kernel_rfl) ?_
  (repeat' (conv => whnf); first | (refine aC (fun _ => ?_) (fun _ => ?_) <;> try (exfalso; omega)) | refine aS ?_ | refine aG ?_ | refine aD ?_ | refine aH ?_ | refine aP_N1 ?_ | refine aI ?_ | refine aJ ?_ | fail); all_goals try (conv => whnf)
  · exact ⟨rfl, Imp.bl ⟨fun h => (by cases h), fun h => by have h1 := h.1; rename_i e; subst e; simp [ByteArray.size] at h1⟩⟩
  · exact ⟨rfl, Imp.bl ⟨fun h => (by cases h), fun h => by have h1 := h.2.1; omega⟩⟩
  have h0 := ba_ne ‹¬s = _›
  have e0 : bt s 0 = ((bb s 0).toNat : Int) := rfl
  have hno : ¬(97 ≤ bt s 0 ∧ bt s 0 ≤ 122) → ¬WordP s := fun h k => h k.2.2.1
  refine ⟨0, _, rfl, bbg h0, ?_⟩
  (repeat' (conv => whnf); first | (refine aC (fun _ => ?_) (fun _ => ?_) <;> try (exfalso; omega)) | refine aS ?_ | refine aG ?_ | refine aD ?_ | refine aH ?_ | refine aP_N1 ?_ | refine aI ?_ | refine aJ ?_ | refine ⟨0, _, rfl, bbg h0, ?_⟩ | fail); all_goals try (conv => whnf)
  · exact ⟨rfl, Imp.bl ⟨fun h => (by cases h), fun h => absurd h (hno (by omega))⟩⟩
  · exact ⟨rfl, Imp.bl ⟨fun h => (by cases h), fun h => absurd h (hno (by omega))⟩⟩
  have hok0 : okC (bt s 0) := by unfold okC; omega
  refine LoopOb.mk (Y := Nat) (st := fun i => ⟨[(3, i64 i), (2, .bl false), (0, .str s)], []⟩)
    (inv := fun i => 1 ≤ i ∧ i ≤ s.size ∧ ∀ j, j < i → okC (bt s j)) (fun i => s.size - i) 1 [] ⟨by omega, by omega, fun j hj => by rw [show j = 0 by omega]; exact hok0⟩ (by (exact aL)) ?_
  rintro i ⟨hi1, hi2, hv⟩
  (repeat' (conv => whnf); first | refine aS ?_ | refine aG ?_ | refine aD ?_ | refine aH ?_ | refine aP_N1 ?_ | refine aI ?_ | refine aJ ?_ | fail); all_goals try (conv => whnf)
  refine CondOb.mk (fun hlt => ?_) (fun hlt => ?_)
  · have hil : i < s.size := by omega
    have e1 : bt s i = ((bb s i).toNat : Int) := rfl
    have hno2 : ¬okC (bt s i) → ¬WordP s := fun h k => h (k.2.2.2 i hil)
    have hst : okC (bt s i) → ∀ j, j < i + 1 → okC (bt s j) := fun h j hj => by
      by_cases e : j = i
      · rw [e]; exact h
      · exact hv j (by omega)
    have hk : okC (bt s i) ↔ (bt s i = 45 ∨ (48 ≤ bt s i ∧ bt s i ≤ 57) ∨ (97 ≤ bt s i ∧ bt s i ≤ 122)) := Iff.rfl
    generalize okC (bt s i) = Q at *
    (repeat' (conv => whnf); first | (refine aC (fun _ => ?_) (fun _ => ?_) <;> try (exfalso; omega)) | refine aS ?_ | refine aG ?_ | refine aD ?_ | refine aH ?_ | refine aP_N1 ?_ | refine aI ?_ | refine aJ ?_ | refine ⟨i, _, rfl, bbg hil, ?_⟩ | fail); all_goals try (conv => whnf)
    all_goals first
      | exact ⟨rfl, Imp.bl ⟨fun h => (by cases h), fun h => absurd h (hno2 (fun q => by have := hk.1 q; omega))⟩⟩
      | exact ⟨i + 1, [], ⟨by omega, by omega, hst (hk.2 (by omega))⟩, by omega, by (exact aL)⟩
      | trace_state
  · (repeat' (conv => whnf); first | (refine aC (fun _ => ?_) (fun _ => ?_) <;> try (exfalso; omega)) | refine aS ?_ | refine aG ?_ | refine aD ?_ | refine aH ?_ | refine aP_N1 ?_ | refine aI ?_ | refine aJ ?_ | fail); all_goals try (conv => whnf)
    exact ⟨rfl, Imp.bl ⟨fun _ => ⟨by omega, by omega, by omega, fun j hj => hv j (by omega)⟩, fun _ => rfl⟩⟩
--HERE
theorem rWord_ok (s : ByteArray) (hs : s.size ≤ 9223372036854775807) : Ctr Tryz.prog 69 [.str s] [] (fun r o => o = [] ∧ r = .bp (WordP s)) := by
  refine Ctr.imp ?_
  refine fn_intro (E := env 0) tys_ok rfl rfl rfl Tryz.func69 (by kernel_rfl) rfl (by kernel_rfl) ?_
  (repeat' (conv => whnf); first | (refine aC (fun _ => ?_) (fun _ => ?_) <;> try (exfalso; omega)) | refine aS ?_ | refine aG ?_ | refine aD ?_ | refine aH ?_ | refine aP_N1 ?_ | refine aI ?_ | refine aJ ?_ | fail); all_goals try (conv => whnf)
  · exact ⟨rfl, Imp.bl ⟨fun h => (by cases h), fun h => by have h1 := h.1; omega⟩⟩
  · exact ⟨rfl, Imp.bl ⟨fun h => (by cases h), fun h => by have h1 := h.2.1; omega⟩⟩
  have h0 : 0 < s.size := by omega
  have e0 : bt s 0 = ((bb s 0).toNat : Int) := rfl
  have hno : ¬(97 ≤ bt s 0 ∧ bt s 0 ≤ 122) → ¬WordP s := fun h k => h k.2.2.1
  refine ⟨0, _, rfl, bbg h0, ?_⟩
  (repeat' (conv => whnf); first | (refine aC (fun _ => ?_) (fun _ => ?_) <;> try (exfalso; omega)) | refine aS ?_ | refine aG ?_ | refine aD ?_ | refine aH ?_ | refine aP_N1 ?_ | refine aI ?_ | refine aJ ?_ | refine ⟨0, _, rfl, bbg h0, ?_⟩ | fail); all_goals try (conv => whnf)
  · exact ⟨rfl, Imp.bl ⟨fun h => (by cases h), fun h => absurd h (hno (by omega))⟩⟩
  · exact ⟨rfl, Imp.bl ⟨fun h => (by cases h), fun h => absurd h (hno (by omega))⟩⟩
  refine LoopOb.mk (Y := Nat) (st := fun i => ⟨[(3, i64 i), (0, .str s)], []⟩)
    (inv := fun i => i ≤ s.size ∧ ∀ j, j < i → okC (bt s j)) (fun i => s.size - i) 0 [] ⟨by omega, fun j hj => by omega⟩ (by (exact aL)) ?_
  rintro i ⟨hi2, hv⟩
  (repeat' (conv => whnf); first | refine aS ?_ | refine aG ?_ | refine aD ?_ | refine aH ?_ | refine aP_N1 ?_ | refine aI ?_ | refine aJ ?_ | fail); all_goals try (conv => whnf)
  refine CondOb.mk (fun hlt => ?_) (fun hlt => ?_)
  · have hil : i < s.size := by omega
    have e1 : bt s i = ((bb s i).toNat : Int) := rfl
    have hno2 : ¬okC (bt s i) → ¬WordP s := fun h k => h (k.2.2.2 i hil)
    have hst : okC (bt s i) → ∀ j, j < i + 1 → okC (bt s j) := fun h j hj => by
      by_cases e : j = i
      · rw [e]; exact h
      · exact hv j (by omega)
    have hk : okC (bt s i) ↔ (bt s i = 45 ∨ (48 ≤ bt s i ∧ bt s i ≤ 57) ∨ (97 ≤ bt s i ∧ bt s i ≤ 122)) := Iff.rfl
    generalize okC (bt s i) = Q at *
    (repeat' (conv => whnf); first | (refine aC (fun _ => ?_) (fun _ => ?_) <;> try (exfalso; omega)) | refine aS ?_ | refine aG ?_ | refine aD ?_ | refine aH ?_ | refine aP_N1 ?_ | refine aI ?_ | refine aJ ?_ | refine ⟨i, _, rfl, bbg hil, ?_⟩ | fail); all_goals try (conv => whnf)
    all_goals first
      | exact ⟨rfl, Imp.bl ⟨fun h => (by cases h), fun h => absurd h (hno2 (fun q => by have := hk.1 q; omega))⟩⟩
      | exact ⟨i + 1, [], ⟨by omega, hst (hk.2 (by omega))⟩, by omega, by (exact aL)⟩
      | trace_state
  · (repeat' (conv => whnf); first | (refine aC (fun _ => ?_) (fun _ => ?_) <;> try (exfalso; omega)) | refine aS ?_ | refine aG ?_ | refine aD ?_ | refine aH ?_ | refine aP_N1 ?_ | refine aI ?_ | refine aJ ?_ | fail); all_goals try (conv => whnf)
    exact ⟨rfl, Imp.bl ⟨fun _ => ⟨by omega, by omega, by omega, fun j hj => hv j (by omega)⟩, fun _ => rfl⟩⟩
end Go.Proofs.YtgbmiacpjmchdaaGreat
