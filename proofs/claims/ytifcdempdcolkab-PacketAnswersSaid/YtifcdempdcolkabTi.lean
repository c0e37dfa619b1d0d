/-
  A text of the proofs of this seat: lemmas that the statements' proofs use; it states nothing of the program by itself beyond the contracts that its theorems bear. Conditions: those that stand in each theorem. Its short name: Ti.
-/
import Derived.Test.YtifcdempdcolkabT1
set_option linter.unusedVariables false
set_option linter.unusedSimpArgs false
namespace Go.Proofs.Ytifcdempdcolkab
open Go.Sx Go.Pk Go.Cv
set_option maxRecDepth 8000
set_option maxHeartbeats 2000000
theorem aP_Ti {A B K : Prop} (k : K) (a : A := by (simp only [zA, zT, zD, zC, zN, ints_len, zR, Go.Cv.vals_len]; omega)) (b : B := by (simp only [zA, zT, zD, zC, zN, ints_len, zR, Go.Cv.vals_len]; omega)) : (A ∧ B) ∧ K := ⟨⟨a, b⟩, k⟩
theorem rInts_ok (a b : List Int) (ha : a.length ≤ 1000000) : Ctr Try.prog 26 [.psl 1 (ints a), .psl 1 (ints b)] [] (fun r o => o = [] ∧ r = .bp (a = b)) := by
  refine Ctr.imp ?_
  refine fn_intro (E := env 0) tys_ok rfl rfl rfl Try.func26 (by kernel_rfl) rfl (by kernel_rfl) ?_
  have hal := ints_len a
  have hbl := ints_len b
  (repeat' (conv => whnf); first | (refine aC (fun _ => ?_) (fun _ => ?_) <;> try (exfalso; omega)) | refine aS ?_ | refine aG ?_ | refine aD ?_ | refine aH ?_ | refine aP_Ti ?_ | refine aI ?_ | refine aJ ?_ | refine aW (.qs [0, 1, 2, 3, 4, 5, 6, 7, 8] .nil) ?_ | fail); all_goals try (conv => whnf)
  · exact ⟨rfl, Imp.bl ⟨fun h => (by cases h), fun h => by subst h; omega⟩⟩
  refine LoopOb.mk (Y := Nat) (st := fun i => ⟨[(5, i64 i), (0, .psl 1 (ints a)), (1, .psl 1 (ints b))], []⟩)
    (inv := fun i => i ≤ a.length ∧ ∀ j, j < i → a.getD j 0 = b.getD j 0) (fun i => a.length - i) 0 [] ⟨by omega, by omega⟩ (by (exact aL)) ?_
  rintro i ⟨hi, hv⟩
  (repeat' (conv => whnf); first | refine aS ?_ | refine aG ?_ | refine aD ?_ | refine aH ?_ | refine aP_Ti ?_ | refine aI ?_ | refine aJ ?_ | refine aW (.qs [0, 1, 2, 3, 4, 5, 6, 7, 8] .nil) ?_ | fail); all_goals try (conv => whnf)
  refine CondOb.mk (fun hlt => ?_) (fun hlt => ?_)
  · have hga := ints_get (l := a) (j := i) (by omega)
    have hgb := ints_get (l := b) (j := i) (by omega)
    have hst : a.getD i 0 = b.getD i 0 → ∀ j, j < i + 1 → a.getD j 0 = b.getD j 0 := fun h j hj => by
      by_cases e : j = i
      · subst e; exact h
      · exact hv j (by omega)
    have hne : ¬a.getD i 0 = b.getD i 0 → ¬a = b := fun h e => h (by rw [e])
    generalize a.getD i 0 = x at *
    generalize b.getD i 0 = y at *
    (repeat' (conv => whnf); first | refine ⟨i, _, rfl, hgb, ?_⟩ | refine ⟨i, _, rfl, hga, ?_⟩ | (refine aC (fun _ => ?_) (fun _ => ?_) <;> try (exfalso; omega)) | refine aS ?_ | refine aG ?_ | refine aD ?_ | refine aH ?_ | refine aP_Ti ?_ | refine aI ?_ | refine aJ ?_ | refine aW (.qs [0, 1, 2, 3, 4, 5, 6, 7, 8] .nil) ?_ | fail); all_goals try (conv => whnf)
    · exact ⟨rfl, Imp.bl ⟨fun h => (by cases h), fun h' => absurd h' (hne (by omega))⟩⟩
    · exact ⟨i + 1, [], ⟨by omega, hst (by omega)⟩, by omega, by (exact aL)⟩
  · have e : i = a.length := by omega
    (repeat' (conv => whnf); first | (refine aC (fun _ => ?_) (fun _ => ?_) <;> try (exfalso; omega)) | refine aS ?_ | refine aG ?_ | refine aD ?_ | refine aH ?_ | refine aP_Ti ?_ | refine aI ?_ | refine aJ ?_ | refine aW (.qs [0, 1, 2, 3, 4, 5, 6, 7, 8] .nil) ?_ | fail); all_goals try (conv => whnf)
    refine ⟨rfl, Imp.bl ⟨fun _ => ?_, fun _ => rfl⟩⟩
    apply List.ext_getElem (by omega)
    intro j h1 h2
    have := hv j (by omega)
    simpa [List.getD_eq_getElem?_getD, h1, h2] using this
end Go.Proofs.Ytifcdempdcolkab
