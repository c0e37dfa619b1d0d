/-
  A text of the proofs of this seat: lemmas that the statements' proofs use; it states nothing of the program by itself beyond the contracts that its theorems bear. Conditions: those that stand in each theorem. Its short name: D14.
-/
import Derived.Test.YtabbnnfobjifiaaD13
set_option linter.unusedVariables false
set_option linter.unusedSimpArgs false
namespace Go.Proofs.Ytabbnnfobjifiaa
open Go.Sx Go.Pk Go.Cv Go.St
set_option maxRecDepth 8000
set_option maxHeartbeats 2000000
--APPX pks_len, Go.Cv.vals_len, List.length_map, List.length_reverse
theorem ShaG.uniq {p : List Pk} {flow : Int} {vs : List Int} {q i : Int} {x y : List Pk × Int} (hx : ShaG p flow vs q i x) (hy : ShaG p flow vs q i y) : x = y := by
  obtain ⟨e, h1, h2, h3⟩ := hx
  obtain ⟨e', k1, k2, k3⟩ := hy
  have := h1.uniq k1
  subst this
  by_cases h : e = 0
  · subst h
    obtain ⟨_, _, hv⟩ := chk_ok h1
    obtain ⟨q', hq, _⟩ := hv.vf
    rcases h3 rfl q' hq with ⟨R, o, h4, rfl⟩ | ⟨h4, rfl⟩ <;> rcases k3 rfl q' hq with ⟨R', o', h5, rfl⟩ | ⟨h5, rfl⟩ <;> rw [h4] at h5 <;> cases h5 <;> rfl
  · rw [h2 h, k2 h]
theorem aP_D14 {A B K : Prop} (k : K) (a : A := by (simp only [zA, zT, zD, zC, zN, ints_len, zR, pks_len, Go.Cv.vals_len, List.length_map, List.length_reverse]; omega)) (b : B := by (simp only [zA, zT, zD, zC, zN, ints_len, zR, pks_len, Go.Cv.vals_len, List.length_map, List.length_reverse]; omega)) : (A ∧ B) ∧ K := ⟨⟨a, b⟩, k⟩
theorem rShapeG_ok (p : List Pk) (hp : p.length ≤ 1000000) (flow : Int) (vs : List Int) (q i : Int) (hv : vs.length ≤ 1000000) :
    Ctr Try.prog 37 [.psl 3 (pks p), i64 flow, crv vs q i] [] (fun r o => ∃ x : List Pk × Int, ShaG p flow vs q i x ∧ o = [] ∧ r = .tup [.psl 3 (pks x.1), i64 x.2]) := by
  by_cases hall : Vld p ∧ -1 ≤ flow ∧ ValidP vs q i
  · obtain ⟨hV, hf, hq⟩ := hall
    obtain ⟨q', rfl, vf⟩ := id hq.vf
    exact (rShape_ok p hV flow hf (vs, q', i) vf).mono fun r o ⟨x, h1, h2, h3⟩ => ⟨x, ⟨0, .ok (vld_zero.2 hV) hf hq rfl, fun h => absurd rfl h, fun _ q2 h => by
      have : q2 = q' := by omega
      subst this
      exact h1⟩, h2, h3⟩
  · refine Ctr.impE ?_
    refine fn_intro (E := env 0) tys_ok rfl rfl rfl Try.func37 (by kernel_rfl) rfl (by kernel_rfl) ?_
    have cB := rbadG_ok p hp flow vs q i hv
    (repeat' (conv => whnf); first | refine AsgOb.nil ?_ | (refine aC (fun _ => ?_) (fun _ => ?_) <;> try (exfalso; omega)) | refine aS ?_ | refine aG ?_ | refine aD ?_ | refine aH ?_ | refine aP_D14 ?_ | refine aI ?_ | refine aJ ?_ | refine aW (.qs [0, 1, 2, 3, 6, 7, 8] (.l 4 [8, 7] (.l 5 [8, 7] (.qs [9, 10, 11] (.l 12 [] .nil .no)) .no) .no)) ?_ | fail); all_goals try (conv => whnf)
    refine CallOb.mk [] cB rfl (ImpL.refl _) rfl rfl ?_
    rintro _ _ ⟨e, he, rfl, rfl⟩
    have h0 : e ≠ 0 := fun h => by subst h; exact hall (chk_ok he)
    (repeat' (conv => whnf); first | refine AsgOb.nil ?_ | (refine aC (fun _ => ?_) (fun _ => ?_) <;> try (exfalso; omega)) | refine aS ?_ | refine aG ?_ | refine aD ?_ | refine aH ?_ | refine aP_D14 ?_ | refine aI ?_ | refine aJ ?_ | refine aW (.qs [0, 1, 2, 3, 6, 7, 8] (.l 4 [8, 7] (.l 5 [8, 7] (.qs [9, 10, 11] (.l 12 [] .nil .no)) .no) .no)) ?_ | fail); all_goals try (conv => whnf)
    exact ⟨([], e), ⟨e, he, fun _ => rfl, fun h => absurd h h0⟩, rfl, Imp.tup ⟨Imp.nil 3, Imp.refl _, trivial⟩⟩
theorem rv_grO {flow size : Int} : ∀ {R : List (Int × Int)}, (∀ z ∈ R, z.2 = size) → rv (grO flow size R) = R := fun {R} h => by
  unfold rv grO
  rw [List.map_map, List.map_reverse, List.reverse_reverse]
  conv => rhs; rw [← List.map_id R]
  refine List.map_congr_left fun z hz => ?_
  show (z.1, size) = z
  rw [← h z hz]
theorem rGreedy_ok (flow : Int) (hfl : 0 ≤ flow ∧ flow < 60) (f : C3) (vf : VC f) (size ticks : Int) (hs : 1 ≤ size ∧ size ≤ 1500) (ht : 0 ≤ ticks ∧ ticks ≤ 2000) :
    Ctr Try.prog 39 [i64 flow, crv f.1 f.2.1 f.2.2, i64 size, i64 ticks] [] (fun r o => o = [] ∧ r = .tup [.psl 3 (pks (grO flow size (grN f size ticks 60))), i64 0]) := by
  refine Ctr.imp ?_
  refine fn_intro (E := env 0) tys_ok rfl rfl rfl Try.func39 (by kernel_rfl) rfl (by kernel_rfl) ?_
  have hV : ValidP f.1 f.2.1 f.2.2 := vf.valid
  (repeat' (conv => whnf); first | (refine aC (fun _ => ?_) (fun _ => ?_) <;> try (exfalso; omega)) | refine aS ?_ | refine aG ?_ | refine aD ?_ | refine aH ?_ | refine aP_D14 ?_ | refine aI ?_ | refine aJ ?_ | (refine aK [] (Valid_ok f.1 f.2.1 f.2.2) ?_) | fail); all_goals try (conv => whnf)
  · exact absurd hV (by assumption)
  refine LoopOb.mk (Y := Int × List (Int × Int)) (st := fun y => ⟨[(11, i64 y.1), (10, .vec 1), (5, .ptr 0 0), (0, i64 flow), (2, i64 size), (3, i64 ticks)], [.box [.psl 1 (ints f.1), i64 f.2.1, i64 f.2.2], .vec 3 (pks (grO flow size y.2))]⟩)
    (inv := fun y => (0 ≤ y.1 ∧ y.1 ≤ ticks + 1) ∧ (y.2 = grN f size ticks y.2.length ∧ y.2.length ≤ 60) ∧ (∀ z ∈ y.2, 0 ≤ z.1 ∧ z.1 ≤ y.1 ∧ z.2 = size) ∧ (y.2.length < 60 → ∀ u, ear f y.2 0 size = some u → y.1 ≤ u)) (fun y => (ticks + 1 - y.1).toNat) (0, []) [0, 2]
    ⟨by dsimp only; omega, ⟨rfl, by simp⟩, by simp, fun _ u hu => (ear_ge hu).1⟩ (by (exact aL)) ?_
  rintro ⟨t, R⟩ ⟨⟨ht0, ht1⟩, ⟨hR, hl⟩, hb, hu⟩
  dsimp only at ht0 ht1 hR hl hb hu ⊢
  (repeat' (conv => whnf); first | refine aS ?_ | refine aG ?_ | refine aD ?_ | refine aH ?_ | refine aP_D14 ?_ | refine aI ?_ | refine aJ ?_ | fail); all_goals try (conv => whnf)
  refine CondOb.mk (fun hlt => ?_) (fun hlt => ?_)
  · (repeat' (conv => whnf); first | (refine aC (fun _ => ?_) (fun _ => ?_) <;> try (exfalso; omega)) | refine aS ?_ | refine aG ?_ | refine aD ?_ | refine aH ?_ | refine aP_D14 ?_ | refine aI ?_ | refine aJ ?_ | fail); all_goals try (conv => whnf)
    refine LoopOb.mk (Y := List (Int × Int)) (st := fun R => ⟨[(12, .ptr 2 0), (11, i64 t), (10, .vec 1), (5, .ptr 0 0), (0, i64 flow), (2, i64 size), (3, i64 ticks)], [.box [.psl 1 (ints f.1), i64 f.2.1, i64 f.2.2], .vec 3 (pks (grO flow size R)), .box [i64 flow, i64 t, i64 size]]⟩)
      (inv := fun R => (R = grN f size ticks R.length ∧ R.length ≤ 60) ∧ (∀ z ∈ R, 0 ≤ z.1 ∧ z.1 ≤ t ∧ z.2 = size) ∧ (R.length < 60 → ∀ u, ear f R 0 size = some u → t ≤ u)) (fun R => 60 - R.length) R [0, 1, 2] ⟨⟨hR, hl⟩, hb, hu⟩ (by (exact aL)) ?_
    clear hR hl hb hu R
    rintro R ⟨⟨hR, hl⟩, hb, hu⟩
    have hol : (pks (grO flow size R)).length = R.length := by simp
    obtain ⟨s1, s2, s3⟩ := grN_step (i := R.length) hR
    have cP := passes_ok (grO flow size R) ⟨flow, t, size⟩ f vf (by simp; omega) (fun z hz => by
      obtain ⟨w, hw, rfl⟩ := List.mem_map.1 hz
      have := hb w (List.mem_reverse.1 hw)
      show 0 ≤ w.1 ∧ w.1 ≤ t + 1 ∧ 0 ≤ size ∧ size ≤ 1000000; omega) (by show 0 ≤ t ∧ t ≤ 100000 ∧ 0 ≤ size ∧ size ≤ 1000000; omega)
    rw [rv_grO fun z hz => (hb z hz).2.2] at cP
    have hp : PsP f R (t, size) ↔ ∃ u, ear f R 0 size = some u ∧ u ≤ t := psp_iff vf (fun m hm => by
      have hmem : R.getD m g0 ∈ R := by rw [List.getD_eq_getElem?_getD, List.getElem?_eq_getElem hm]; exact List.getElem_mem hm
      have := hb _ hmem; omega) (by omega) (by omega)
    generalize PsP f R (t, size) = PP at *
    have hyes : R.length < 60 → PP → grN f size ticks (R.length + 1) = (t, size) :: R := fun h h2 => by
      obtain ⟨u, h3, h4⟩ := hp.1 h2
      have : u = t := by have := hu h u h3; omega
      subst this
      exact s3 u h3 (by omega)
    have hno : (R.length < 60 → ¬PP) → R.length < 60 → ∀ u, ear f R 0 size = some u → t + 1 ≤ u := fun h h2 u h3 => by
      apply Classical.byContradiction
      intro h4
      exact h h2 (hp.2 ⟨u, h3, by omega⟩)
    clear hp s1 s2 s3 hu
    have hgc := grO_cons flow size t R
    (repeat' (conv => whnf); first | refine LitOb.ful ?_ | (refine aC (fun _ => ?_) (fun _ => ?_) <;> try (exfalso; omega)) | refine aS ?_ | refine aG ?_ | refine aD ?_ | refine aH ?_ | refine aP_D14 ?_ | refine aI ?_ | refine aJ ?_ | (refine aK [1] cP ?_) | fail); all_goals try (conv => whnf)
    all_goals first
      | (refine ⟨(t, size) :: R, [0, 3, 2], ⟨⟨?_, ?_⟩, ?_, ?_⟩, ?_, ?_⟩
         · rw [List.length_cons]; exact (hyes (by omega) (by assumption)).symm
         · rw [List.length_cons]; omega
         · intro z hz
           rcases List.mem_cons.1 hz with rfl | hz
           · dsimp only; omega
           · exact hb z hz
         · intro _ u h
           exact (ear_ge h).2 0 (by simp)
         · rw [List.length_cons]; omega
         · rw [hgc]; (exact aL))
      | (refine ⟨(t + 1, R), [0, 1], ⟨⟨by dsimp only; omega, by dsimp only; omega⟩, ⟨hR, hl⟩, fun z hz => ?_, hno ?_⟩, by dsimp only; omega, by (exact aL)⟩
         · have := hb z hz; dsimp only; omega
         · intro h; first | assumption | (exfalso; omega))
      | trace_state
  · have e : t = ticks + 1 := by omega
    subst e
    have hfin : grN f size ticks 60 = R := by
      by_cases h : R.length = 60
      · rw [hR, h]
      · obtain ⟨s1, s2, _⟩ := grN_step (i := R.length) hR
        have h1 : grN f size ticks (R.length + 1) = grN f size ticks R.length := by
          cases he : ear f R 0 size with
          | none => exact s1 he
          | some u => exact s2 u he (by have := hu (by omega) u he; omega)
        rw [grN_stop h1 60 (by omega), ← hR]
    rw [hfin]
    (repeat' (conv => whnf); first | (refine aC (fun _ => ?_) (fun _ => ?_) <;> try (exfalso; omega)) | refine aS ?_ | refine aG ?_ | refine aD ?_ | refine aP_D14 ?_ | refine aI ?_ | refine aJ ?_ | fail); all_goals try (conv => whnf)
    refine .mk [.fz 1] ?_
    (repeat' (conv => whnf); first | (refine aC (fun _ => ?_) (fun _ => ?_) <;> try (exfalso; omega)) | refine aS ?_ | refine aG ?_ | refine aD ?_ | refine aH ?_ | refine aP_D14 ?_ | refine aI ?_ | refine aJ ?_ | fail); all_goals try (conv => whnf)
    exact ⟨rfl, Imp.refl _⟩
end Go.Proofs.Ytabbnnfobjifiaa
