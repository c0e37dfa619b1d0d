/-
  A text of the proofs of this seat: lemmas that the statements' proofs use; it states nothing of the program by itself beyond the contracts that its theorems bear. Conditions: those that stand in each theorem. Its short name: C2.
-/
import Derived.Test.YtabbnnfobjifiaaC1
import Derived.Test.YtabbnnfobjifiaaW3
set_option linter.unusedVariables false
set_option linter.unusedSimpArgs false
namespace Go.Proofs.Ytabbnnfobjifiaa
open Go.Sx Go.Pk Go.Cv Go.St
set_option maxRecDepth 8000
set_option maxHeartbeats 2000000
--APPX pks_len, Go.Cv.vals_len
theorem vint {F : Nat → Int} {n t : Nat} (h : t < n) : (ints (vals F n))[t]? = some [i64 (F t)] := by
  have := ints_get (l := vals F n) (j := t) (by rw [vals_len]; exact h)
  rw [vals_get h] at this; exact this
theorem endN_le {p : List Pk} (hv : Vld p) : endN p ≤ 2001 := by
  have hp := hv.l
  unfold endN
  split
  · omega
  · rename_i i hi
    have := hv.g i (by omega)
    unfold bad at this; omega
/- what Violation finds -/
def VioR (A F : Nat → Int) (N : Nat) (x : Int × Int × Bool) : Prop :=
  (∃ s t : Nat, s < t ∧ t ≤ N ∧ F (t - s) < A t - A s ∧ x = ((s : Int), (t : Int), true)) ∨ (Kp A F N ∧ x = (0, 0, false))
theorem aP_C2 {A B K : Prop} (k : K) (a : A := by (simp only [zA, zT, zD, zC, zN, ints_len, zR, pks_len, Go.Cv.vals_len]; omega)) (b : B := by (simp only [zA, zT, zD, zC, zN, ints_len, zR, pks_len, Go.Cv.vals_len]; omega)) : (A ∧ B) ∧ K := ⟨⟨a, b⟩, k⟩
theorem Violation_ok (p : List Pk) (hv : Vld p) (flow : Int) (hf : -1 ≤ flow) (f : C3) (vf : VC f) : Ctr Try.prog 32 [.psl 3 (pks p), i64 flow, crv f.1 f.2.1 f.2.2] [] (fun r o => ∃ x : Int × Int × Bool, VioR (csm p flow) (cv f) (endN p) x ∧ o = [] ∧ r = .tup [i64 x.1, i64 x.2.1, .bl x.2.2, i64 0]) := by
  refine Ctr.impE ?_
  refine fn_intro (E := env 0) tys_ok rfl rfl rfl Try.func32 (by kernel_rfl) rfl (by kernel_rfl) ?_
  have hN := endN_le hv
  have hC := csm_cum hv flow
  have hA := fun t => csm_bd hv flow t
  have cS := sums_ok p hv flow
  have cT := Table_ok f vf (endN p + 1) (by omega)
  have hF0 : ∀ t, 0 ≤ cv f t := fun t => cv_nonneg vf t
  have hFm : ∀ {s t : Nat}, s ≤ t → cv f s ≤ cv f t := fun h => vf.cvle h
  generalize csm p flow = A at *
  generalize endN p = N at *
  generalize hF : cv f = F at *
  have hal : (ints (vals A (N + 1))).length = N + 1 := by rw [ints_len, vals_len]
  have hwl : (ints (vals F (N + 1))).length = N + 1 := by rw [ints_len, vals_len]
  have hAg := fun t (h : t < N + 1) => vint (F := A) h
  have hFg := fun t (h : t < N + 1) => vint (F := F) h
  have hFb : ∀ t, t ≤ N → F t ≤ 6000000000000000000 := fun t ht => by rw [← hF]; exact (vc_bd vf (by omega)).2
  generalize ints (vals A (N + 1)) = VA at *
  generalize ints (vals F (N + 1)) = VF at *
  (repeat' (conv => whnf); first | (refine aC (fun _ => ?_) (fun _ => ?_) <;> try (exfalso; omega)) | refine aS ?_ | refine aG ?_ | refine aD ?_ | refine aH ?_ | refine aP_C2 ?_ | refine aI ?_ | refine aJ ?_ | refine aW (.qs [0, 1, 2, 3, 4, 5, 6, 7, 8, 9] .nil) ?_ | refine aW (.qs [0, 1, 2, 3, 4, 5, 6, 7, 8, 9, 10, 11, 12, 13, 14, 15] .nil) ?_ | (refine aK [] (cCheck_ok p hv flow hf f vf) ?_) | (refine aK [] cS ?_) | (refine CallOb.mk [] cT rfl ⟨Imp.refl _, Imp.num (by omega), trivial⟩ rfl rfl ?_; rintro _ _ ⟨rfl, rfl⟩) | fail); all_goals try (conv => whnf)
  refine LoopOb.mk (Y := Nat) (st := fun t => ⟨[(13, i64 t), (12, .psl 1 VF), (11, .psl 1 VA)], []⟩)
    (inv := fun t => (1 ≤ t ∧ t ≤ N + 1) ∧ ∀ t', t' < t → ∀ s, s < t' → A t' - A s ≤ F (t' - s)) (fun t => N + 1 - t) 1 [] ⟨by omega, fun t' h s hs => by omega⟩ (by (exact aL)) ?_
  rintro t ⟨⟨ht1, ht⟩, hi⟩
  have hb1 := hA t
  have hb2 := hA (t - 1)
  (repeat' (conv => whnf); first | refine aS ?_ | refine aG ?_ | refine aD ?_ | refine aH ?_ | refine aP_C2 ?_ | refine aI ?_ | refine aJ ?_ | refine aW (.qs [0, 1, 2, 3, 4, 5, 6, 7, 8, 9] .nil) ?_ | refine aW (.qs [0, 1, 2, 3, 4, 5, 6, 7, 8, 9, 10, 11, 12, 13, 14, 15] .nil) ?_ | fail); all_goals try (conv => whnf)
  refine CondOb.mk (fun hlt => ?_) (fun hlt => ?_)
  · have htN : t ≤ N := by omega
    have g1 := hAg t (by omega)
    have g2 := hAg (t - 1) (by omega)
    have hskip : A t = A (t - 1) → ∀ t', t' < t + 1 → ∀ s, s < t' → A t' - A s ≤ F (t' - s) := fun he t' h s hs => by
      by_cases e : t' = t
      · subst e
        by_cases e2 : s = t' - 1
        · have := hF0 (t' - s); rw [← e2] at he; omega
        · have h1 := hi (t' - 1) (by omega) s (by omega)
          have h2 := hFm (s := t' - 1 - s) (t := t' - s) (by omega)
          omega
      · exact hi t' (by omega) s hs
    (repeat' (conv => whnf); first | refine ⟨t - 1, _, by omega, g2, ?_⟩ | refine ⟨t, _, rfl, g1, ?_⟩ | (refine aC (fun _ => ?_) (fun _ => ?_) <;> try (exfalso; omega)) | refine aS ?_ | refine aG ?_ | refine aD ?_ | refine aH ?_ | refine aP_C2 ?_ | refine aI ?_ | refine aJ ?_ | refine aW (.qs [0, 1, 2, 3, 4, 5, 6, 7, 8, 9] .nil) ?_ | refine aW (.qs [0, 1, 2, 3, 4, 5, 6, 7, 8, 9, 10, 11, 12, 13, 14, 15] .nil) ?_ | fail); all_goals try (conv => whnf)
    · exact ⟨t + 1, [], ⟨by omega, hskip (by assumption)⟩, by omega, by (exact aL)⟩
    · refine LoopOb.mk (Y := Nat) (st := fun m => ⟨[(14, i64 ((t : Int) - 1 - m)), (13, i64 t), (12, .psl 1 VF), (11, .psl 1 VA)], []⟩)
        (inv := fun m => m ≤ t ∧ ∀ s, s < t → t - 1 - m < s ∨ m = t → A t - A s ≤ F (t - s)) (fun m => t - m) 0 [] ⟨by omega, fun s hs h => by omega⟩ (by (exact aL)) ?_
      rintro m ⟨hm, hmi⟩
      (repeat' (conv => whnf); first | refine aS ?_ | refine aG ?_ | refine aD ?_ | refine aH ?_ | refine aP_C2 ?_ | refine aI ?_ | refine aJ ?_ | refine aW (.qs [0, 1, 2, 3, 4, 5, 6, 7, 8, 9] .nil) ?_ | refine aW (.qs [0, 1, 2, 3, 4, 5, 6, 7, 8, 9, 10, 11, 12, 13, 14, 15] .nil) ?_ | fail); all_goals try (conv => whnf)
      refine CondOb.mk (fun hl2 => ?_) (fun hl2 => ?_)
      · obtain ⟨s, hs⟩ : ∃ s : Nat, (t : Int) - 1 - m = s := ⟨t - 1 - m, by omega⟩
        have g3 := hAg s (by omega)
        have g4 := hFg (t - s) (by omega)
        have hb3 := hA s
        have hb4 := hF0 (t - s)
        have hb5 := hFb (t - s) (by omega)
        have hm2 : ¬F (t - s) < A t - A s → ∀ s', s' < t → t - 1 - (m + 1) < s' ∨ m + 1 = t → A t - A s' ≤ F (t - s') := fun hn s' h1 h2 => by
          by_cases e : s' = s
          · subst e; omega
          · exact hmi s' h1 (by omega)
        (repeat' (conv => whnf); first | refine ⟨t - s, _, by omega, g4, ?_⟩ | refine ⟨s, _, by omega, g3, ?_⟩ | refine ⟨t, _, rfl, g1, ?_⟩ | (refine aC (fun _ => ?_) (fun _ => ?_) <;> try (exfalso; omega)) | refine aS ?_ | refine aG ?_ | refine aD ?_ | refine aH ?_ | refine aP_C2 ?_ | refine aI ?_ | refine aJ ?_ | refine aW (.qs [0, 1, 2, 3, 4, 5, 6, 7, 8, 9] .nil) ?_ | refine aW (.qs [0, 1, 2, 3, 4, 5, 6, 7, 8, 9, 10, 11, 12, 13, 14, 15] .nil) ?_ | fail); all_goals try (conv => whnf)
        · exact ⟨((s : Int), (t : Int), true), .inl ⟨s, t, by omega, by omega, by assumption, rfl⟩, rfl, Imp.tup ⟨Imp.num (by omega), Imp.refl _, Imp.refl _, Imp.refl _, trivial⟩⟩
        · exact ⟨m + 1, [], ⟨by omega, hm2 (by assumption)⟩, by omega, by (exact aL)⟩
      · have e : m = t := by omega
        (repeat' (conv => whnf); first | (refine aC (fun _ => ?_) (fun _ => ?_) <;> try (exfalso; omega)) | refine aS ?_ | refine aG ?_ | refine aD ?_ | refine aH ?_ | refine aP_C2 ?_ | refine aI ?_ | refine aJ ?_ | refine aW (.qs [0, 1, 2, 3, 4, 5, 6, 7, 8, 9] .nil) ?_ | refine aW (.qs [0, 1, 2, 3, 4, 5, 6, 7, 8, 9, 10, 11, 12, 13, 14, 15] .nil) ?_ | fail); all_goals try (conv => whnf)
        exact ⟨t + 1, [], ⟨by omega, fun t' h s hs => by
          by_cases e2 : t' = t
          · subst e2; exact hmi s hs (by omega)
          · exact hi t' (by omega) s hs⟩, by omega, by (exact aL)⟩
  · have e : t = N + 1 := by omega
    subst e
    (repeat' (conv => whnf); first | (refine aC (fun _ => ?_) (fun _ => ?_) <;> try (exfalso; omega)) | refine aS ?_ | refine aG ?_ | refine aD ?_ | refine aH ?_ | refine aP_C2 ?_ | refine aI ?_ | refine aJ ?_ | refine aW (.qs [0, 1, 2, 3, 4, 5, 6, 7, 8, 9] .nil) ?_ | refine aW (.qs [0, 1, 2, 3, 4, 5, 6, 7, 8, 9, 10, 11, 12, 13, 14, 15] .nil) ?_ | fail); all_goals try (conv => whnf)
    exact ⟨(0, 0, false), .inr ⟨fun s t h1 h2 => hi t (by omega) s h1, rfl⟩, rfl, Imp.refl _⟩
theorem Keeps_ok (p : List Pk) (hv : Vld p) (flow : Int) (hf : -1 ≤ flow) (f : C3) (vf : VC f) : Ctr Try.prog 17 [.psl 3 (pks p), i64 flow, crv f.1 f.2.1 f.2.2] [] (fun r o => o = [] ∧ r = .bp (Kp (csm p flow) (cv f) (endN p))) := by
  refine Ctr.imp ?_
  refine fn_intro (E := env 0) tys_ok rfl rfl rfl Try.func17 (by kernel_rfl) rfl (by kernel_rfl) ?_
  (repeat' (conv => whnf); first | (refine aC (fun _ => ?_) (fun _ => ?_) <;> try (exfalso; omega)) | refine aS ?_ | refine aG ?_ | refine aD ?_ | refine aH ?_ | refine aP_C2 ?_ | refine aI ?_ | refine aJ ?_ | fail); all_goals try (conv => whnf)
  refine CallOb.mk [] (Violation_ok p hv flow hf f vf) rfl (ImpL.refl _) rfl rfl ?_
  rintro _ _ ⟨x, hx, rfl, rfl⟩
  rcases hx with ⟨s, t, h1, h2, h3, rfl⟩ | ⟨hk, rfl⟩
  · dsimp only
    (repeat' (conv => whnf); first | (refine aC (fun _ => ?_) (fun _ => ?_) <;> try (exfalso; omega)) | refine aS ?_ | refine aG ?_ | refine aD ?_ | refine aH ?_ | refine aP_C2 ?_ | refine aI ?_ | refine aJ ?_ | fail); all_goals try (conv => whnf)
    exact ⟨rfl, Imp.bl ⟨fun h => (by cases h), fun h => by have := h s t h1 h2; omega⟩⟩
  · dsimp only
    (repeat' (conv => whnf); first | (refine aC (fun _ => ?_) (fun _ => ?_) <;> try (exfalso; omega)) | refine aS ?_ | refine aG ?_ | refine aD ?_ | refine aH ?_ | refine aP_C2 ?_ | refine aI ?_ | refine aJ ?_ | fail); all_goals try (conv => whnf)
    exact ⟨rfl, Imp.bl ⟨fun _ => hk, fun _ => rfl⟩⟩
end Go.Proofs.Ytabbnnfobjifiaa
