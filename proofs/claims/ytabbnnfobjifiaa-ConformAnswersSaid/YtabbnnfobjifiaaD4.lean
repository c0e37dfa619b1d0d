/-
  A text of the proofs of this seat: lemmas that the statements' proofs use; it states nothing of the program by itself beyond the contracts that its theorems bear. Conditions: those that stand in each theorem. Its short name: D4.
-/
import Derived.Test.YtabbnnfobjifiaaD3
set_option linter.unusedVariables false
set_option linter.unusedSimpArgs false
namespace Go.Proofs.Ytabbnnfobjifiaa
open Go.Sx Go.Pk Go.Cv Go.St
set_option maxRecDepth 8000
set_option maxHeartbeats 2000000
--APPX pks_len, Go.Cv.vals_len
/- the first tick at which a curve is broken, and the last one before it that shows this -/
def VioU (A F : Nat → Int) (N : Nat) (x : Int × Int × Bool) : Prop :=
  (∃ s t : Nat, (s < t ∧ t ≤ N ∧ F (t - s) < A t - A s) ∧ (∀ t', t' < t → ∀ s', s' < t' → A t' - A s' ≤ F (t' - s')) ∧ (∀ s', s < s' → s' < t → A t - A s' ≤ F (t - s')) ∧ x = ((s : Int), (t : Int), true)) ∨ (Kp A F N ∧ x = (0, 0, false))
theorem VioU.uniq {A F : Nat → Int} {N : Nat} {x y : Int × Int × Bool} (hx : VioU A F N x) (hy : VioU A F N y) : x = y := by
  rcases hx with ⟨s, t, ⟨h1, h2, h3⟩, h4, h5, rfl⟩ | ⟨h1, rfl⟩
  · rcases hy with ⟨s', t', ⟨k1, k2, k3⟩, k4, k5, rfl⟩ | ⟨k1, rfl⟩
    · have e : t = t' := by
        apply Classical.byContradiction
        intro hn
        obtain h | h : t < t' ∨ t' < t := by omega
        · have := k4 t h s h1; omega
        · have := h4 t' h s' k1; omega
      subst e
      have e : s = s' := by
        apply Classical.byContradiction
        intro hn
        obtain h | h : s < s' ∨ s' < s := by omega
        · have := h5 s' h k1; omega
        · have := k5 s h h1; omega
      subst e; rfl
    · exfalso; have := k1 s t h1 h2; omega
  · rcases hy with ⟨s', t', ⟨k1, k2, k3⟩, k4, k5, rfl⟩ | ⟨k1, rfl⟩
    · exfalso; have := h1 s' t' k1 k2; omega
    · rfl
theorem aP_D4 {A B K : Prop} (k : K) (a : A := by (simp only [zA, zT, zD, zC, zN, ints_len, zR, pks_len, Go.Cv.vals_len]; omega)) (b : B := by (simp only [zA, zT, zD, zC, zN, ints_len, zR, pks_len, Go.Cv.vals_len]; omega)) : (A ∧ B) ∧ K := ⟨⟨a, b⟩, k⟩
theorem rfind_ok (p : List Pk) (hv : Vld p) (flow : Int) (hf : -1 ≤ flow) (f : C3) (vf : VC f) : Ctr Try.prog 64 [.psl 3 (pks p), i64 flow, crv f.1 f.2.1 f.2.2] [] (fun r o => ∃ x : Int × Int × Bool, VioU (csm p flow) (cv f) (endN p) x ∧ o = [] ∧ r = .tup [i64 x.1, i64 x.2.1, .bl x.2.2]) := by
  refine Ctr.impE ?_
  refine fn_intro (E := env 0) tys_ok rfl rfl rfl Try.func64 (by kernel_rfl) rfl (by kernel_rfl) ?_
  have hN := endN_le hv
  have hA := fun t => csm_bd hv flow t
  have cS := rsums14_ok p hv flow hf
  have hF0 : ∀ t, 0 ≤ cv f t := fun t => cv_nonneg vf t
  have hFm : ∀ {s t : Nat}, s ≤ t → cv f s ≤ cv f t := fun h => vf.cvle h
  have cA := fun (t : Nat) (h : t ≤ 3000) => rAt_ok f t vf (by omega)
  generalize csm p flow = A at *
  generalize endN p = N at *
  generalize hF : cv f = F at *
  have hal : (ints (vals A (N + 1))).length = N + 1 := by rw [ints_len, vals_len]
  have hAg := fun t (h : t < N + 1) => vint (F := A) h
  have hFb : ∀ t, t ≤ N → F t ≤ 6000000000000000000 := fun t ht => by rw [← hF]; exact (vc_bd vf (by omega)).2
  generalize ints (vals A (N + 1)) = VA at *
  (repeat' (conv => whnf); first | (refine aC (fun _ => ?_) (fun _ => ?_) <;> try (exfalso; omega)) | refine aS ?_ | refine aG ?_ | refine aD ?_ | refine aH ?_ | refine aP_D4 ?_ | refine aI ?_ | refine aJ ?_ | refine aW (.qs [0, 1, 2, 3, 4, 5, 6, 7, 8, 9] .nil) ?_ | refine aW (.qs [0, 1, 2, 3, 4, 5, 6, 7, 8, 9, 10, 11, 12] (.l 13 [7, 3] (.qs [14] .nil) .no)) ?_ | (refine aK [] cS ?_) | fail); all_goals try (conv => whnf)
  refine LoopOb.mk (Y := Nat) (st := fun t => ⟨[(10, i64 t), (9, .psl 1 VA), (5, .ptr 0 0), (6, i64 0), (7, i64 0), (8, .bl false)], [.box [.psl 1 (ints f.1), i64 f.2.1, i64 f.2.2]]⟩)
    (inv := fun t => (1 ≤ t ∧ t ≤ N + 1) ∧ ∀ t', t' < t → ∀ s, s < t' → A t' - A s ≤ F (t' - s)) (fun t => N + 1 - t) 1 [0] ⟨by omega, fun t' h s hs => by omega⟩ (by (exact aL)) ?_
  rintro t ⟨⟨ht1, ht⟩, hi⟩
  have hb1 := hA t
  have hb2 := hA (t - 1)
  (repeat' (conv => whnf); first | refine aS ?_ | refine aG ?_ | refine aD ?_ | refine aH ?_ | refine aP_D4 ?_ | refine aI ?_ | refine aJ ?_ | refine aW (.qs [0, 1, 2, 3, 4, 5, 6, 7, 8, 9] .nil) ?_ | refine aW (.qs [0, 1, 2, 3, 4, 5, 6, 7, 8, 9, 10, 11, 12] (.l 13 [7, 3] (.qs [14] .nil) .no)) ?_ | fail); all_goals try (conv => whnf)
  refine CondOb.mk (fun hlt => ?_) (fun hlt => ?_)
  · have htN : t ≤ N := by omega
    have g1 := hAg t (by omega)
    have g2 := hAg (t - 1) (by omega)
    have hskip : A t = A (t - 1) → ∀ t', t' < t + 1 → ∀ s, s < t' → A t' - A s ≤ F (t' - s) := fun he t' h s hs => by
      by_cases e : t' = t
      · subst e
        by_cases e2 : s = t' - 1
        · have := hF0 (t' - s); rw [← e2] at he; omega
        · have h1 := hi (t' - 1) (by omega) s (by omega)
          have h2 := hFm (s := t' - 1 - s) (t := t' - s) (by omega)
          omega
      · exact hi t' (by omega) s hs
    (repeat' (conv => whnf); first | refine ⟨t - 1, _, by omega, g2, ?_⟩ | refine ⟨t, _, rfl, g1, ?_⟩ | (refine aC (fun _ => ?_) (fun _ => ?_) <;> try (exfalso; omega)) | refine aS ?_ | refine aG ?_ | refine aD ?_ | refine aH ?_ | refine aP_D4 ?_ | refine aI ?_ | refine aJ ?_ | refine aW (.qs [0, 1, 2, 3, 4, 5, 6, 7, 8, 9] .nil) ?_ | refine aW (.qs [0, 1, 2, 3, 4, 5, 6, 7, 8, 9, 10, 11, 12] (.l 13 [7, 3] (.qs [14] .nil) .no)) ?_ | fail); all_goals try (conv => whnf)
    · exact ⟨t + 1, [0], ⟨by omega, hskip (by assumption)⟩, by omega, by (exact aL)⟩
    · refine LoopOb.mk (Y := Nat) (st := fun m => ⟨[(11, i64 ((t : Int) - 1 - m)), (10, i64 t), (9, .psl 1 VA), (5, .ptr 0 0), (6, i64 0), (7, i64 0), (8, .bl false)], [.box [.psl 1 (ints f.1), i64 f.2.1, i64 f.2.2]]⟩)
        (inv := fun m => m ≤ t ∧ ∀ s, s < t → t - 1 - m < s ∨ m = t → A t - A s ≤ F (t - s)) (fun m => t - m) 0 [0] ⟨by omega, fun s hs h => by omega⟩ (by (exact aL)) ?_
      rintro m ⟨hm, hmi⟩
      (repeat' (conv => whnf); first | refine aS ?_ | refine aG ?_ | refine aD ?_ | refine aH ?_ | refine aP_D4 ?_ | refine aI ?_ | refine aJ ?_ | refine aW (.qs [0, 1, 2, 3, 4, 5, 6, 7, 8, 9] .nil) ?_ | refine aW (.qs [0, 1, 2, 3, 4, 5, 6, 7, 8, 9, 10, 11, 12] (.l 13 [7, 3] (.qs [14] .nil) .no)) ?_ | fail); all_goals try (conv => whnf)
      refine CondOb.mk (fun hl2 => ?_) (fun hl2 => ?_)
      · obtain ⟨s, hs⟩ : ∃ s : Nat, (t : Int) - 1 - m = s := ⟨t - 1 - m, by omega⟩
        have g3 := hAg s (by omega)
        have cB := cA (t - s) (by omega)
        have hb3 := hA s
        have hb4 := hF0 (t - s)
        have hb5 := hFb (t - s) (by omega)
        have hm2 : ¬F (t - s) < A t - A s → ∀ s', s' < t → t - 1 - (m + 1) < s' ∨ m + 1 = t → A t - A s' ≤ F (t - s') := fun hn s' h1 h2 => by
          by_cases e : s' = s
          · subst e; omega
          · exact hmi s' h1 (by omega)
        (repeat' (conv => whnf); first | refine ⟨s, _, by omega, g3, ?_⟩ | refine ⟨t, _, rfl, g1, ?_⟩ | (refine aC (fun _ => ?_) (fun _ => ?_) <;> try (exfalso; omega)) | refine aS ?_ | refine aG ?_ | refine aD ?_ | refine aH ?_ | refine aP_D4 ?_ | refine aI ?_ | refine aJ ?_ | refine aW (.qs [0, 1, 2, 3, 4, 5, 6, 7, 8, 9] .nil) ?_ | refine aW (.qs [0, 1, 2, 3, 4, 5, 6, 7, 8, 9, 10, 11, 12] (.l 13 [7, 3] (.qs [14] .nil) .no)) ?_ | (refine CallOb.mk [] cB rfl ⟨Imp.refl _, Imp.num (by omega), trivial⟩ rfl rfl ?_; rintro _ _ ⟨rfl, rfl⟩) | fail); all_goals try (conv => whnf)
        · exact ⟨((s : Int), (t : Int), true), .inl ⟨s, t, ⟨by omega, by omega, by assumption⟩, hi, fun s' h1 h2 => hmi s' h2 (by omega), rfl⟩, rfl, Imp.tup ⟨Imp.num (by omega), Imp.refl _, Imp.refl _, trivial⟩⟩
        · exact ⟨m + 1, [0], ⟨by omega, hm2 (by assumption)⟩, by omega, by (exact aL)⟩
      · have e : m = t := by omega
        (repeat' (conv => whnf); first | (refine aC (fun _ => ?_) (fun _ => ?_) <;> try (exfalso; omega)) | refine aS ?_ | refine aG ?_ | refine aD ?_ | refine aH ?_ | refine aP_D4 ?_ | refine aI ?_ | refine aJ ?_ | refine aW (.qs [0, 1, 2, 3, 4, 5, 6, 7, 8, 9] .nil) ?_ | refine aW (.qs [0, 1, 2, 3, 4, 5, 6, 7, 8, 9, 10, 11, 12] (.l 13 [7, 3] (.qs [14] .nil) .no)) ?_ | fail); all_goals try (conv => whnf)
        exact ⟨t + 1, [0], ⟨by omega, fun t' h s hs => by
          by_cases e2 : t' = t
          · subst e2; exact hmi s hs (by omega)
          · exact hi t' (by omega) s hs⟩, by omega, by (exact aL)⟩
  · have e : t = N + 1 := by omega
    subst e
    (repeat' (conv => whnf); first | (refine aC (fun _ => ?_) (fun _ => ?_) <;> try (exfalso; omega)) | refine aS ?_ | refine aG ?_ | refine aD ?_ | refine aH ?_ | refine aP_D4 ?_ | refine aI ?_ | refine aJ ?_ | refine aW (.qs [0, 1, 2, 3, 4, 5, 6, 7, 8, 9] .nil) ?_ | refine aW (.qs [0, 1, 2, 3, 4, 5, 6, 7, 8, 9, 10, 11, 12] (.l 13 [7, 3] (.qs [14] .nil) .no)) ?_ | fail); all_goals try (conv => whnf)
    exact ⟨(0, 0, false), .inr ⟨fun s t h1 h2 => hi t (by omega) s h1, rfl⟩, rfl, Imp.refl _⟩
end Go.Proofs.Ytabbnnfobjifiaa
