/-
  A text of the proofs of this seat: lemmas that the statements' proofs use; it states nothing of the program by itself beyond the contracts that its theorems bear. Conditions: those that stand in each theorem. Its short name: Cy.
-/
import Derived.Test.YtabbnnfobjifiaaC3
import Derived.Test.YtabbnnfobjifiaaCx
set_option linter.unusedVariables false
set_option linter.unusedSimpArgs false
namespace Go.Proofs.Ytabbnnfobjifiaa
open Go.Sx Go.Pk Go.Cv Go.St
set_option maxRecDepth 8000
set_option maxHeartbeats 2000000
--APPX pks_len, Go.Cv.vals_len
def EarB (f : C3) (R : List (Int × Int)) (t s : Int) (x : Int × Bool) : Prop := (∃ u, ear f R t s = some u ∧ (0 ≤ u ∧ u ≤ 20000000) ∧ x = (u, true)) ∨ (ear f R t s = none ∧ x = (0, false))
theorem aP_Cy {A B K : Prop} (k : K) (a : A := by (simp only [zA, zT, zD, zC, zN, ints_len, zR, pks_len, Go.Cv.vals_len]; omega)) (b : B := by (simp only [zA, zT, zD, zC, zN, ints_len, zR, pks_len, Go.Cv.vals_len]; omega)) : (A ∧ B) ∧ K := ⟨⟨a, b⟩, k⟩
theorem earliestB_ok (f : C3) (vf : VC f) (R : List (Int × Int)) (t s : Int) (ht : 0 ≤ t ∧ t ≤ 2000) (hs : 0 ≤ s) (hR : RunOK R (100000 - s)) :
    Ctr Try.prog 46 [.ptr 0 0, i64 t, i64 s] [runB f (.vec 1) (.vec 2), .vec 1 (ints (tms R)), .vec 1 (ints (szs R))] (fun r o => ∃ x : Int × Bool, EarB f R t s x ∧ o = [runB f (.vec 1) (.vec 2), .vec 1 (ints (tms R)), .vec 1 (ints (szs R))] ∧ r = .tup [i64 x.1, .bl x.2]) := by
  refine Ctr.impE ?_
  refine fn_intro (E := env 3) tys_ok rfl rfl rfl Try.func46 (by kernel_rfl) rfl (by kernel_rfl) ?_
  have hRn := hR.n
  have hl1 : (ints (tms R)).length = R.length := by simp
  have hl2 : (ints (szs R)).length = R.length := by simp
  (repeat' (conv => whnf); first | (refine aC (fun _ => ?_) (fun _ => ?_) <;> try (exfalso; omega)) | refine aS ?_ | refine aG ?_ | refine aD ?_ | refine aH ?_ | refine aP_Cy ?_ | refine aI ?_ | refine aJ ?_ | refine aW (.qs [0, 1, 2, 3, 4, 5, 6, 7, 8, 9, 10, 11, 12, 13, 14, 15, 16, 17, 18, 19] .nil) ?_ | fail); all_goals try (conv => whnf)
  · exact ⟨(0, false), .inr ⟨by unfold ear; rw [if_pos (by omega)], rfl⟩, rfl, Imp.refl _⟩
  have hE : ear f R t s = erl f R s t := by unfold ear; rw [if_neg (by omega)]
  refine LoopOb.mk (Y := Nat × Int × Int) (st := fun y => ⟨[(9, i64 ((R.length : Int) - 1 - y.1)), (8, i64 y.2.1), (0, .ptr 0 0), (1, i64 y.2.2)], [runB f (.vec 1) (.vec 2), .vec 1 (ints (tms R)), .vec 1 (ints (szs R))]⟩)
    (inv := fun y => y.1 ≤ R.length ∧ erl f (R.drop y.1) y.2.1 y.2.2 = ear f R t s ∧ (0 ≤ y.2.1 ∧ y.2.1 + sumA (fun z : Int × Int => z.2) (R.drop y.1) ≤ 100000) ∧ 0 ≤ y.2.2 ∧ y.2.2 ≤ 20000000) (fun y => R.length - y.1) (0, s, t) [0, 1, 2]
    ⟨by simp, by rw [hE]; rfl, ⟨hs, by have := hR.s; simp only [List.drop_zero]; omega⟩, by dsimp only; omega⟩ (by (exact aL)) ?_
  rintro ⟨m, sum, tt⟩ ⟨hm, hE2, ⟨hs0, hs1⟩, ht0, ht1⟩
  dsimp only at hm hE2 hs0 hs1 ht0 ht1 ⊢
  (repeat' (conv => whnf); first | refine aS ?_ | refine aG ?_ | refine aD ?_ | refine aH ?_ | refine aP_Cy ?_ | refine aI ?_ | refine aJ ?_ | refine aW (.qs [0, 1, 2, 3, 4, 5, 6, 7, 8, 9, 10, 11, 12, 13, 14, 15, 16, 17, 18, 19] .nil) ?_ | fail); all_goals try (conv => whnf)
  refine CondOb.mk (fun hlt => ?_) (fun hlt => ?_)
  · obtain ⟨i, hi⟩ : ∃ i : Nat, (R.length : Int) - 1 - m = i := ⟨R.length - 1 - m, by omega⟩
    obtain ⟨g1, g2⟩ := tms_get (R := R) (m := m) (i := i) (by omega)
    have hd : R.drop m = R.getD m (0, 0) :: R.drop (m + 1) := by
      rw [List.drop_eq_getElem_cons (by omega), List.getD_eq_getElem?_getD, List.getElem?_eq_getElem (by omega)]; rfl
    have hmem : R.getD m (0, 0) ∈ R := by
      rw [List.getD_eq_getElem?_getD, List.getElem?_eq_getElem (by omega)]; exact List.getElem_mem _
    have hb := hR.b _ hmem
    have hdb : 0 ≤ sumA (fun z : Int × Int => z.2) (R.drop (m + 1)) := by
      have h : ∀ l : List (Int × Int), (∀ z ∈ l, 0 ≤ z.2) → 0 ≤ sumA (fun z : Int × Int => z.2) l := by
        intro l
        induction l with
        | nil => intro _; exact Int.le_refl _
        | cons z l ih => intro h; have := ih fun w hw => h w (List.mem_cons_of_mem _ hw); have := h z (by simp); simp only [sumA]; omega
      exact h _ fun z hz => (hR.b z (List.mem_of_mem_drop hz)).2.2
    rw [hd] at hE2 hs1
    simp only [sumA] at hs1
    generalize R.getD m (0, 0) = y at *
    obtain ⟨y1, y2⟩ := y
    dsimp only at *
    have cR := ReachB_ok f vf (sum + y2) (by omega)
    simp only [erl] at hE2
    (repeat' (conv => whnf); first | refine ⟨_, g2, ?_⟩ | refine ⟨i, by omega, by omega, ?_⟩ | (refine aC (fun _ => ?_) (fun _ => ?_) <;> try (exfalso; omega)) | refine aS ?_ | refine aG ?_ | refine aD ?_ | refine aH ?_ | refine aP_Cy ?_ | refine aI ?_ | refine aJ ?_ | refine aW (.qs [0, 1, 2, 3, 4, 5, 6, 7, 8, 9, 10, 11, 12, 13, 14, 15, 16, 17, 18, 19] .nil) ?_ | fail); all_goals try (conv => whnf)
    refine CallOb.mk [] cR rfl (ImpL.refl _) rfl rfl ?_
    rintro _ _ ⟨x, hx, rfl, rfl⟩
    rcases hx with ⟨k, hk, hrk, rfl⟩ | ⟨hrk, rfl⟩
    · rw [hrk] at hE2
      dsimp only at hE2 ⊢
      (repeat' (conv => whnf); first | refine ⟨_, g1, ?_⟩ | refine ⟨i, by omega, by omega, ?_⟩ | (refine aC (fun _ => ?_) (fun _ => ?_) <;> try (exfalso; omega)) | refine aS ?_ | refine aG ?_ | refine aD ?_ | refine aH ?_ | refine aP_Cy ?_ | refine aI ?_ | refine aJ ?_ | refine aW (.qs [0, 1, 2, 3, 4, 5, 6, 7, 8, 9, 10, 11, 12, 13, 14, 15, 16, 17, 18, 19] .nil) ?_ | fail); all_goals try (conv => whnf)
      exact ⟨(m + 1, sum + y2, max (max tt y1) (y1 + k - 1)), [0, 1, 2], ⟨by dsimp only; omega, hE2, ⟨by dsimp only; omega, by dsimp only; omega⟩, by dsimp only; omega⟩, by dsimp only; omega, by dsimp only; (exact aL)⟩
    · rw [hrk] at hE2
      dsimp only at hE2 ⊢
      (repeat' (conv => whnf); first | (refine aC (fun _ => ?_) (fun _ => ?_) <;> try (exfalso; omega)) | refine aS ?_ | refine aG ?_ | refine aD ?_ | refine aH ?_ | refine aP_Cy ?_ | refine aI ?_ | refine aJ ?_ | refine aW (.qs [0, 1, 2, 3, 4, 5, 6, 7, 8, 9, 10, 11, 12, 13, 14, 15, 16, 17, 18, 19] .nil) ?_ | fail); all_goals try (conv => whnf)
      exact ⟨(0, false), .inr ⟨hE2.symm, rfl⟩, rfl, Imp.refl _⟩
  · have e : m = R.length := by omega
    subst e
    rw [List.drop_length] at hE2
    (repeat' (conv => whnf); first | (refine aC (fun _ => ?_) (fun _ => ?_) <;> try (exfalso; omega)) | refine aS ?_ | refine aG ?_ | refine aD ?_ | refine aH ?_ | refine aP_Cy ?_ | refine aI ?_ | refine aJ ?_ | refine aW (.qs [0, 1, 2, 3, 4, 5, 6, 7, 8, 9, 10, 11, 12, 13, 14, 15, 16, 17, 18, 19] .nil) ?_ | fail); all_goals try (conv => whnf)
    exact ⟨(tt, true), .inl ⟨tt, hE2.symm, ⟨ht0, ht1⟩, rfl⟩, rfl, Imp.refl _⟩
end Go.Proofs.Ytabbnnfobjifiaa
