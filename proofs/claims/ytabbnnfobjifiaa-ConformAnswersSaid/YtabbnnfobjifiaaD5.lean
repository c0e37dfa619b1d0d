/-
  A text of the proofs of this seat: lemmas that the statements' proofs use; it states nothing of the program by itself beyond the contracts that its theorems bear. Conditions: those that stand in each theorem. Its short name: D5.
-/
import Derived.Test.YtabbnnfobjifiaaD2
import Derived.Test.YtabbnnfobjifiaaD4
set_option linter.unusedVariables false
set_option linter.unusedSimpArgs false
namespace Go.Proofs.Ytabbnnfobjifiaa
open Go.Sx Go.Pk Go.Cv Go.St
set_option maxRecDepth 8000
set_option maxHeartbeats 2000000
--APPX pks_len, Go.Cv.vals_len
theorem aP_D5 {A B K : Prop} (k : K) (a : A := by (simp only [zA, zT, zD, zC, zN, ints_len, zR, pks_len, Go.Cv.vals_len]; omega)) (b : B := by (simp only [zA, zT, zD, zC, zN, ints_len, zR, pks_len, Go.Cv.vals_len]; omega)) : (A ∧ B) ∧ K := ⟨⟨a, b⟩, k⟩
theorem cVioU_ok (p : List Pk) (hv : Vld p) (flow : Int) (hf : -1 ≤ flow) (f : C3) (vf : VC f) : Ctr Try.prog 32 [.psl 3 (pks p), i64 flow, crv f.1 f.2.1 f.2.2] [] (fun r o => ∃ x : Int × Int × Bool, VioU (csm p flow) (cv f) (endN p) x ∧ o = [] ∧ r = .tup [i64 x.1, i64 x.2.1, .bl x.2.2, i64 0]) := by
  refine Ctr.impE ?_
  refine fn_intro (E := env 0) tys_ok rfl rfl rfl Try.func32 (by kernel_rfl) rfl (by kernel_rfl) ?_
  have hN := endN_le hv
  have hC := csm_cum hv flow
  have hA := fun t => csm_bd hv flow t
  have cS := sums_ok p hv flow
  have cT := Table_ok f vf (endN p + 1) (by omega)
  have hF0 : ∀ t, 0 ≤ cv f t := fun t => cv_nonneg vf t
  have hFm : ∀ {s t : Nat}, s ≤ t → cv f s ≤ cv f t := fun h => vf.cvle h
  generalize csm p flow = A at *
  generalize endN p = N at *
  generalize hF : cv f = F at *
  have hal : (ints (vals A (N + 1))).length = N + 1 := by rw [ints_len, vals_len]
  have hwl : (ints (vals F (N + 1))).length = N + 1 := by rw [ints_len, vals_len]
  have hAg := fun t (h : t < N + 1) => vint (F := A) h
  have hFg := fun t (h : t < N + 1) => vint (F := F) h
  have hFb : ∀ t, t ≤ N → F t ≤ 6000000000000000000 := fun t ht => by rw [← hF]; exact (vc_bd vf (by omega)).2
  generalize ints (vals A (N + 1)) = VA at *
  generalize ints (vals F (N + 1)) = VF at *
  (repeat' (conv => whnf); first | (refine aC (fun _ => ?_) (fun _ => ?_) <;> try (exfalso; omega)) | refine aS ?_ | refine aG ?_ | refine aD ?_ | refine aH ?_ | refine aP_D5 ?_ | refine aI ?_ | refine aJ ?_ | refine aW (.qs [0, 1, 2, 3, 4, 5, 6, 7, 8, 9] .nil) ?_ | refine aW (.qs [0, 1, 2, 3, 4, 5, 6, 7, 8, 9, 10, 11, 12, 13, 14, 15] .nil) ?_ | (refine aK [] (cCheck_ok p hv flow hf f vf) ?_) | (refine aK [] cS ?_) | (refine CallOb.mk [] cT rfl ⟨Imp.refl _, Imp.num (by omega), trivial⟩ rfl rfl ?_; rintro _ _ ⟨rfl, rfl⟩) | fail); all_goals try (conv => whnf)
  refine LoopOb.mk (Y := Nat) (st := fun t => ⟨[(13, i64 t), (12, .psl 1 VF), (11, .psl 1 VA)], []⟩)
    (inv := fun t => (1 ≤ t ∧ t ≤ N + 1) ∧ ∀ t', t' < t → ∀ s, s < t' → A t' - A s ≤ F (t' - s)) (fun t => N + 1 - t) 1 [] ⟨by omega, fun t' h s hs => by omega⟩ (by (exact aL)) ?_
  rintro t ⟨⟨ht1, ht⟩, hi⟩
  have hb1 := hA t
  have hb2 := hA (t - 1)
  (repeat' (conv => whnf); first | refine aS ?_ | refine aG ?_ | refine aD ?_ | refine aH ?_ | refine aP_D5 ?_ | refine aI ?_ | refine aJ ?_ | refine aW (.qs [0, 1, 2, 3, 4, 5, 6, 7, 8, 9] .nil) ?_ | refine aW (.qs [0, 1, 2, 3, 4, 5, 6, 7, 8, 9, 10, 11, 12, 13, 14, 15] .nil) ?_ | fail); all_goals try (conv => whnf)
  refine CondOb.mk (fun hlt => ?_) (fun hlt => ?_)
  · have htN : t ≤ N := by omega
    have g1 := hAg t (by omega)
    have g2 := hAg (t - 1) (by omega)
    have hskip : A t = A (t - 1) → ∀ t', t' < t + 1 → ∀ s, s < t' → A t' - A s ≤ F (t' - s) := fun he t' h s hs => by
      by_cases e : t' = t
      · subst e
        by_cases e2 : s = t' - 1
        · have := hF0 (t' - s); rw [← e2] at he; omega
        · have h1 := hi (t' - 1) (by omega) s (by omega)
          have h2 := hFm (s := t' - 1 - s) (t := t' - s) (by omega)
          omega
      · exact hi t' (by omega) s hs
    (repeat' (conv => whnf); first | refine ⟨t - 1, _, by omega, g2, ?_⟩ | refine ⟨t, _, rfl, g1, ?_⟩ | (refine aC (fun _ => ?_) (fun _ => ?_) <;> try (exfalso; omega)) | refine aS ?_ | refine aG ?_ | refine aD ?_ | refine aH ?_ | refine aP_D5 ?_ | refine aI ?_ | refine aJ ?_ | refine aW (.qs [0, 1, 2, 3, 4, 5, 6, 7, 8, 9] .nil) ?_ | refine aW (.qs [0, 1, 2, 3, 4, 5, 6, 7, 8, 9, 10, 11, 12, 13, 14, 15] .nil) ?_ | fail); all_goals try (conv => whnf)
    · exact ⟨t + 1, [], ⟨by omega, hskip (by assumption)⟩, by omega, by (exact aL)⟩
    · refine LoopOb.mk (Y := Nat) (st := fun m => ⟨[(14, i64 ((t : Int) - 1 - m)), (13, i64 t), (12, .psl 1 VF), (11, .psl 1 VA)], []⟩)
        (inv := fun m => m ≤ t ∧ ∀ s, s < t → t - 1 - m < s ∨ m = t → A t - A s ≤ F (t - s)) (fun m => t - m) 0 [] ⟨by omega, fun s hs h => by omega⟩ (by (exact aL)) ?_
      rintro m ⟨hm, hmi⟩
      (repeat' (conv => whnf); first | refine aS ?_ | refine aG ?_ | refine aD ?_ | refine aH ?_ | refine aP_D5 ?_ | refine aI ?_ | refine aJ ?_ | refine aW (.qs [0, 1, 2, 3, 4, 5, 6, 7, 8, 9] .nil) ?_ | refine aW (.qs [0, 1, 2, 3, 4, 5, 6, 7, 8, 9, 10, 11, 12, 13, 14, 15] .nil) ?_ | fail); all_goals try (conv => whnf)
      refine CondOb.mk (fun hl2 => ?_) (fun hl2 => ?_)
      · obtain ⟨s, hs⟩ : ∃ s : Nat, (t : Int) - 1 - m = s := ⟨t - 1 - m, by omega⟩
        have g3 := hAg s (by omega)
        have g4 := hFg (t - s) (by omega)
        have hb3 := hA s
        have hb4 := hF0 (t - s)
        have hb5 := hFb (t - s) (by omega)
        have hm2 : ¬F (t - s) < A t - A s → ∀ s', s' < t → t - 1 - (m + 1) < s' ∨ m + 1 = t → A t - A s' ≤ F (t - s') := fun hn s' h1 h2 => by
          by_cases e : s' = s
          · subst e; omega
          · exact hmi s' h1 (by omega)
        (repeat' (conv => whnf); first | refine ⟨t - s, _, by omega, g4, ?_⟩ | refine ⟨s, _, by omega, g3, ?_⟩ | refine ⟨t, _, rfl, g1, ?_⟩ | (refine aC (fun _ => ?_) (fun _ => ?_) <;> try (exfalso; omega)) | refine aS ?_ | refine aG ?_ | refine aD ?_ | refine aH ?_ | refine aP_D5 ?_ | refine aI ?_ | refine aJ ?_ | refine aW (.qs [0, 1, 2, 3, 4, 5, 6, 7, 8, 9] .nil) ?_ | refine aW (.qs [0, 1, 2, 3, 4, 5, 6, 7, 8, 9, 10, 11, 12, 13, 14, 15] .nil) ?_ | fail); all_goals try (conv => whnf)
        · exact ⟨((s : Int), (t : Int), true), .inl ⟨s, t, ⟨by omega, by omega, by assumption⟩, hi, fun s' h1 h2 => hmi s' h2 (by omega), rfl⟩, rfl, Imp.tup ⟨Imp.num (by omega), Imp.refl _, Imp.refl _, Imp.refl _, trivial⟩⟩
        · exact ⟨m + 1, [], ⟨by omega, hm2 (by assumption)⟩, by omega, by (exact aL)⟩
      · have e : m = t := by omega
        (repeat' (conv => whnf); first | (refine aC (fun _ => ?_) (fun _ => ?_) <;> try (exfalso; omega)) | refine aS ?_ | refine aG ?_ | refine aD ?_ | refine aH ?_ | refine aP_D5 ?_ | refine aI ?_ | refine aJ ?_ | refine aW (.qs [0, 1, 2, 3, 4, 5, 6, 7, 8, 9] .nil) ?_ | refine aW (.qs [0, 1, 2, 3, 4, 5, 6, 7, 8, 9, 10, 11, 12, 13, 14, 15] .nil) ?_ | fail); all_goals try (conv => whnf)
        exact ⟨t + 1, [], ⟨by omega, fun t' h s hs => by
          by_cases e2 : t' = t
          · subst e2; exact hmi s hs (by omega)
          · exact hi t' (by omega) s hs⟩, by omega, by (exact aL)⟩
  · have e : t = N + 1 := by omega
    subst e
    (repeat' (conv => whnf); first | (refine aC (fun _ => ?_) (fun _ => ?_) <;> try (exfalso; omega)) | refine aS ?_ | refine aG ?_ | refine aD ?_ | refine aH ?_ | refine aP_D5 ?_ | refine aI ?_ | refine aJ ?_ | refine aW (.qs [0, 1, 2, 3, 4, 5, 6, 7, 8, 9] .nil) ?_ | refine aW (.qs [0, 1, 2, 3, 4, 5, 6, 7, 8, 9, 10, 11, 12, 13, 14, 15] .nil) ?_ | fail); all_goals try (conv => whnf)
    exact ⟨(0, 0, false), .inr ⟨fun s t h1 h2 => hi t (by omega) s h1, rfl⟩, rfl, Imp.refl _⟩
/- what Violation answers, whatever the arguments -/
def VioG (p : List Pk) (flow : Int) (vs : List Int) (q i : Int) (x : (Int × Int × Bool) × Int) : Prop :=
  ChkR p flow (ValidP vs q i) x.2 ∧ (x.2 ≠ 0 → x.1 = (0, 0, false)) ∧ (x.2 = 0 → ∀ q' : Nat, q = q' → VioU (csm p flow) (cv (vs, q', i)) (endN p) x.1)
theorem VioG.uniq {p : List Pk} {flow : Int} {vs : List Int} {q i : Int} {x y : (Int × Int × Bool) × Int} (hx : VioG p flow vs q i x) (hy : VioG p flow vs q i y) : x = y := by
  obtain ⟨x1, x2⟩ := x
  obtain ⟨y1, y2⟩ := y
  obtain ⟨h1, h2, h3⟩ := hx
  obtain ⟨k1, k2, k3⟩ := hy
  have e : x2 = y2 := h1.uniq k1
  subst e
  by_cases h : x2 = 0
  · subst h
    cases h1 with
    | vld h he => exact absurd he (by dsimp only; omega)
    | flow h hf he => cases he
    | curve h hf hv he => cases he
    | ok h hf hv he =>
      obtain ⟨q', rfl, _⟩ := hv.vf
      have e3 : x1 = y1 := (h3 rfl q' rfl).uniq (k3 rfl q' rfl)
      rw [e3]
  · have e1 := h2 h
    have e2 := k2 h
    dsimp only at e1 e2
    rw [e1, e2]
theorem chk_ok {p : List Pk} {flow : Int} {V : Prop} (h : ChkR p flow V 0) : Vld p ∧ -1 ≤ flow ∧ V := by
  cases h with
  | vld h he => exact absurd he.symm h
  | flow h hf he => cases he
  | curve h hf hv he => cases he
  | ok h hf hv he => exact ⟨vld_zero.1 h, hf, hv⟩
theorem rVioG_ok (p : List Pk) (hp : p.length ≤ 1000000) (flow : Int) (vs : List Int) (q i : Int) (hv : vs.length ≤ 1000000) :
    Ctr Try.prog 33 [.psl 3 (pks p), i64 flow, crv vs q i] [] (fun r o => ∃ x : (Int × Int × Bool) × Int, VioG p flow vs q i x ∧ o = [] ∧ r = .tup [i64 x.1.1, i64 x.1.2.1, .bl x.1.2.2, i64 x.2]) := by
  refine Ctr.impE ?_
  refine fn_intro (E := env 0) tys_ok rfl rfl rfl Try.func33 (by kernel_rfl) rfl (by kernel_rfl) ?_
  have cB := rbadG_ok p hp flow vs q i hv
  (repeat' (conv => whnf); first | (refine aC (fun _ => ?_) (fun _ => ?_) <;> try (exfalso; omega)) | refine aS ?_ | refine aG ?_ | refine aD ?_ | refine aH ?_ | refine aP_D5 ?_ | refine aI ?_ | refine aJ ?_ | fail); all_goals try (conv => whnf)
  refine CallOb.mk [] cB rfl (ImpL.refl _) rfl rfl ?_
  rintro _ _ ⟨e, he, rfl, rfl⟩
  by_cases h0 : e = 0
  · subst h0
    obtain ⟨hV, hf, hq⟩ := chk_ok he
    obtain ⟨q', rfl, vf⟩ := hq.vf
    have cF := rfind_ok p hV flow hf (vs, q', i) vf
    (repeat' (conv => whnf); first | (refine aC (fun _ => ?_) (fun _ => ?_) <;> try (exfalso; omega)) | refine aS ?_ | refine aG ?_ | refine aD ?_ | refine aH ?_ | refine aP_D5 ?_ | refine aI ?_ | refine aJ ?_ | fail); all_goals try (conv => whnf)
    refine CallOb.mk [] cF rfl (ImpL.refl _) rfl rfl ?_
    rintro _ _ ⟨⟨x1, x2, x3⟩, hx, rfl, rfl⟩
    dsimp only
    (repeat' (conv => whnf); first | (refine aC (fun _ => ?_) (fun _ => ?_) <;> try (exfalso; omega)) | refine aS ?_ | refine aG ?_ | refine aD ?_ | refine aH ?_ | refine aP_D5 ?_ | refine aI ?_ | refine aJ ?_ | fail); all_goals try (conv => whnf)
    have hg : VioG p flow vs q' i ((x1, x2, x3), 0) := ⟨he, fun h => absurd rfl h, fun _ q2 h => by
      have : q2 = q' := by omega
      subst this
      exact hx⟩
    exact ⟨((x1, x2, x3), 0), hg, rfl, Imp.refl _⟩
  · (repeat' (conv => whnf); first | (refine aC (fun _ => ?_) (fun _ => ?_) <;> try (exfalso; omega)) | refine aS ?_ | refine aG ?_ | refine aD ?_ | refine aH ?_ | refine aP_D5 ?_ | refine aI ?_ | refine aJ ?_ | fail); all_goals try (conv => whnf)
    exact ⟨((0, 0, false), e), ⟨he, fun _ => rfl, fun h => absurd h h0⟩, rfl, Imp.refl _⟩
theorem cVioG_ok (p : List Pk) (hp : p.length ≤ 1000000) (flow : Int) (vs : List Int) (q i : Int) (hv : vs.length ≤ 1000000) :
    Ctr Try.prog 32 [.psl 3 (pks p), i64 flow, crv vs q i] [] (fun r o => ∃ x : (Int × Int × Bool) × Int, VioG p flow vs q i x ∧ o = [] ∧ r = .tup [i64 x.1.1, i64 x.1.2.1, .bl x.1.2.2, i64 x.2]) := by
  by_cases hall : Vld p ∧ -1 ≤ flow ∧ ValidP vs q i
  · obtain ⟨hV, hf, hq⟩ := hall
    obtain ⟨q', rfl, vf⟩ := id hq.vf
    exact (cVioU_ok p hV flow hf (vs, q', i) vf).mono fun r o ⟨x, h1, h2, h3⟩ => ⟨(x, 0), ⟨.ok (vld_zero.2 hV) hf hq rfl, fun h => absurd rfl h, fun _ q2 h => by
      have : q2 = q' := by omega
      subst this; exact h1⟩, h2, h3⟩
  · refine Ctr.impE ?_
    refine fn_intro (E := env 0) tys_ok rfl rfl rfl Try.func32 (by kernel_rfl) rfl (by kernel_rfl) ?_
    have cB := checkG_ok p hp flow vs q i hv
    (repeat' (conv => whnf); first | (refine aC (fun _ => ?_) (fun _ => ?_) <;> try (exfalso; omega)) | refine aS ?_ | refine aG ?_ | refine aD ?_ | refine aH ?_ | refine aP_D5 ?_ | refine aI ?_ | refine aJ ?_ | refine aW (.qs [0, 1, 2, 3, 4, 5, 6, 7, 8, 9] .nil) ?_ | refine aW (.qs [0, 1, 2, 3, 4, 5, 6, 7, 8, 9, 10, 11, 12, 13, 14, 15] .nil) ?_ | fail); all_goals try (conv => whnf)
    refine CallOb.mk [] cB rfl (ImpL.refl _) rfl rfl ?_
    rintro _ _ ⟨e, he, rfl, rfl⟩
    have h0 : e ≠ 0 := fun h => by subst h; exact hall (chk_ok he)
    (repeat' (conv => whnf); first | (refine aC (fun _ => ?_) (fun _ => ?_) <;> try (exfalso; omega)) | refine aS ?_ | refine aG ?_ | refine aD ?_ | refine aH ?_ | refine aP_D5 ?_ | refine aI ?_ | refine aJ ?_ | refine aW (.qs [0, 1, 2, 3, 4, 5, 6, 7, 8, 9] .nil) ?_ | refine aW (.qs [0, 1, 2, 3, 4, 5, 6, 7, 8, 9, 10, 11, 12, 13, 14, 15] .nil) ?_ | fail); all_goals try (conv => whnf)
    exact ⟨((0, 0, false), e), ⟨he, fun _ => rfl, fun h => absurd h h0⟩, rfl, Imp.refl _⟩
end Go.Proofs.Ytabbnnfobjifiaa
