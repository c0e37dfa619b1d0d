/-
  A text of the proofs of this seat: lemmas that the statements' proofs use; it states nothing of the program by itself beyond the contracts that its theorems bear. Conditions: those that stand in each theorem. Its short name: C8.
-/
import Derived.Test.YtabbnnfobjifiaaC2
import Derived.Test.YtabbnnfobjifiaaW2
import Derived.Test.YtabbnnfobjifiaaPl
set_option linter.unusedVariables false
set_option linter.unusedSimpArgs false

namespace Go.Proofs.Ytabbnnfobjifiaa
open Go.Sx Go.Pk Go.Cv Go.St
set_option maxRecDepth 8000
set_option maxHeartbeats 2000000
--APPX pks_len, Go.Cv.vals_len
theorem intsSet (V : List Int) (k : Nat) (v : Int) : (ints V).set k [i64 v] = ints (V.set k v) := by simp [ints, List.map_set]
theorem mixs {F G : Nat → Int} {n k : Nat} (h : k < n) : (ints (vals (mxf F G k) n)).set k [i64 (G k)] = ints (vals (mxf F G (k + 1)) n) := by rw [intsSet, mxf_set h]
theorem aP_C8 {A B K : Prop} (k : K) (a : A := by (simp only [zA, zT, zD, zC, zN, ints_len, zR, pks_len, Go.Cv.vals_len]; omega)) (b : B := by (simp only [zA, zT, zD, zC, zN, ints_len, zR, pks_len, Go.Cv.vals_len]; omega)) : (A ∧ B) ∧ K := ⟨⟨a, b⟩, k⟩
theorem LeastC_ok (v : Nat → Int) (N t : Nat) (hN : N ≤ 100000) : Ctr Try.prog 56 [i64 t, .pptr [.psl 1 (ints (vals v (N + 1)))]] [] (fun r o => o = [] ∧ r = i64 (v (min t N))) := by
  refine fn_intro (E := env 0) tys_ok rfl rfl rfl Try.func56 (by kernel_rfl) rfl (by kernel_rfl) ?_
  have hl : (ints (vals v (N + 1))).length = N + 1 := by rw [ints_len, vals_len]
  have hg := vint (F := v) (n := N + 1) (t := min t N) (by omega)
  generalize ints (vals v (N + 1)) = V at *
  (repeat' (conv => whnf); first | refine ⟨min t N, _, by omega, hg, ?_⟩ | (refine aC (fun _ => ?_) (fun _ => ?_) <;> try (exfalso; omega)) | refine aS ?_ | refine aG ?_ | refine aD ?_ | refine aH ?_ | refine aP_C8 ?_ | refine aI ?_ | refine aJ ?_ | fail); all_goals try (conv => whnf)
  exact ⟨rfl, rfl⟩
theorem cLeast_ok (p : List Pk) (hv : Vld p) (hN : endN p ≤ 2090) (flow : Int) (hf : -1 ≤ flow) : Ctr Try.prog 23 [.psl 3 (pks p), i64 flow] [] (fun r o => ∃ x, MkP (lsF p flow) x ∧ o = [] ∧ r = crvE x) := by
  refine Ctr.impE ?_
  refine fn_intro (E := env 0) tys_ok rfl rfl rfl Try.func23 (by kernel_rfl) rfl (by kernel_rfl) ?_
  have hp := hv.l
  have hpl := pks_len p
  have cV := Validate_ok p (by omega)
  rw [vld_zero.2 hv] at cV
  have cS := sums_ok p hv flow
  have hA := fun t => csm_bd hv flow t
  have hE := end_lt hv
  have hmk : ∀ x, BuildP (lsF p flow) (endN p + 1) x → MkP (lsF p flow) x := fun x hx => buildP_mk (lsF_le hv flow 0).1 (lsF_mono p flow) (fun t ht => by have := lsF_le hv flow t; simp only [INF]; omega) (fun m hm h => by
    have := lsF_le hv flow m
    rw [h] at this; simp only [INF] at this; omega) hx
  have cB := Build_ok 56 (.pptr [.psl 1 (ints (vals (pmx (vmx (csm p flow) (endN p) p p.length)) (endN p + 1)))]) (lsF p flow) (endN p) 1 0 (by omega) (by omega) (by omega) (by omega) (fun t ht => by have := lsF_le hv flow t; omega) (fun t ht => LeastC_ok _ _ t (by omega)) (fun _ => lsF_per p flow)
  have hst := fun i k => vmx_step (A := csm p flow) (N := endN p) (p := p) i k
  generalize csm p flow = A at *
  generalize endN p = N at *
  have hal : (ints (vals A (N + 1))).length = N + 1 := by rw [ints_len, vals_len]
  have hAg := fun t (h : t < N + 1) => vint (F := A) h
  generalize ints (vals A (N + 1)) = VA at *
  have hz : List.replicate VA.length ([i64 0] : List SV) = ints (vals (vmx A N p 0) (N + 1)) := by
    have e : vals (vmx A N p 0) (N + 1) = List.replicate (N + 1) 0 := by
      show (List.range (N + 1)).map (fun _ => (0 : Int)) = _
      rw [List.map_const', List.length_range]
    rw [e, hal]; simp [ints]
  have hlen : ∀ F : Nat → Int, (ints (vals F (N + 1))).length = N + 1 := fun F => by rw [ints_len, vals_len]
  (repeat' (conv => whnf); first | (refine aC (fun _ => ?_) (fun _ => ?_) <;> try (exfalso; omega)) | refine aS ?_ | refine aG ?_ | refine aD ?_ | refine aH ?_ | refine aP_C8 ?_ | refine aI ?_ | refine aJ ?_ | refine ⟨_, _, rfl, rfl, Nat.le_refl _, ⟨by (simp only; omega), by omega⟩, ?_⟩ | refine aW (.qs [0, 1, 2, 3, 4, 5, 6, 7, 8, 9, 10, 11, 12, 13, 14, 15, 16, 17, 18, 19, 20, 21, 22, 23] (.l 24 [] .nil .no)) ?_ | refine aW (.qs [0, 1, 2, 3, 4, 5, 6, 7, 8, 9, 10, 11, 12] (.l 13 [] .nil .no)) ?_ | (refine aK [] cV ?_) | (refine aK [] cS ?_) | fail); all_goals try (conv => whnf)
  refine LoopOb.mk (Y := Nat) (st := fun i => ⟨[(31, i64 i), (30, i64 (pks p).length), (29, .psl 3 (pks p)), (8, .ptr 0 0), (7, .psl 1 VA), (4, .ptr 1 0)], [.box [.vec 2], .box [.nil, i64 0, i64 0], .vec 1 (ints (vals (vmx A N p i) (N + 1)))]⟩)
    (inv := fun i => i ≤ p.length) (fun i => p.length - i) 0 [2, 0, 1] (by omega) (by dsimp only; rw [← hz]; (exact aL)) ?_
  intro i hi
  (repeat' (conv => whnf); first | refine aS ?_ | refine aG ?_ | refine aD ?_ | refine aH ?_ | refine aP_C8 ?_ | refine aI ?_ | refine aJ ?_ | refine aW (.qs [0, 1, 2, 3, 4, 5, 6, 7, 8, 9, 10, 11, 12, 13, 14, 15, 16, 17, 18, 19, 20, 21, 22, 23] (.l 24 [] .nil .no)) ?_ | refine aW (.qs [0, 1, 2, 3, 4, 5, 6, 7, 8, 9, 10, 11, 12] (.l 13 [] .nil .no)) ?_ | fail); all_goals try (conv => whnf)
  refine CondOb.mk (fun hlt => ?_) (fun hlt => ?_)
  · have hil : i < p.length := by omega
    have hg := pks_get hil
    have hb := hE _ (getD_memP hil)
    have hst := hst i
    generalize p.getD i pk0 = x at *
    obtain ⟨u, hu⟩ : ∃ u : Nat, x.t = u := ⟨x.t.toNat, by omega⟩
    rw [hu, Int.toNat_natCast] at hst
    (repeat' (conv => whnf); first | refine ⟨i, _, rfl, hg, ?_⟩ | (refine aC (fun _ => ?_) (fun _ => ?_) <;> try (exfalso; omega)) | refine aS ?_ | refine aG ?_ | refine aD ?_ | refine aH ?_ | refine aP_C8 ?_ | refine aI ?_ | refine aJ ?_ | refine aW (.qs [0, 1, 2, 3, 4, 5, 6, 7, 8, 9, 10, 11, 12, 13, 14, 15, 16, 17, 18, 19, 20, 21, 22, 23] (.l 24 [] .nil .no)) ?_ | refine aW (.qs [0, 1, 2, 3, 4, 5, 6, 7, 8, 9, 10, 11, 12] (.l 13 [] .nil .no)) ?_ | fail); all_goals try (conv => whnf)
    refine LoopOb.mk (Y := Nat) (st := fun k => ⟨[(11, i64 (u + k : Nat)), (10, .ptr 3 0), (31, i64 i), (30, i64 (pks p).length), (29, .psl 3 (pks p)), (8, .ptr 0 0), (7, .psl 1 VA), (4, .ptr 1 0)], [.box [.vec 2], .box [.nil, i64 0, i64 0], .vec 1 (ints (vals (mxf (vmx A N p i) (vmx A N p (i + 1)) k) (N + 1))), .box [i64 x.f, i64 x.t, i64 x.s]]⟩)
      (inv := fun k => u + k ≤ N + 1) (fun k => N + 1 - (u + k)) 0 [0, 1, 2, 3] (by omega) (by rw [mxf_zero]; (exact aL)) ?_
    intro k hk
    have hql := hlen (mxf (vmx A N p i) (vmx A N p (i + 1)) k)
    (repeat' (conv => whnf); first | refine aS ?_ | refine aG ?_ | refine aD ?_ | refine aH ?_ | refine aP_C8 ?_ | refine aI ?_ | refine aJ ?_ | refine aW (.qs [0, 1, 2, 3, 4, 5, 6, 7, 8, 9, 10, 11, 12, 13, 14, 15, 16, 17, 18, 19, 20, 21, 22, 23] (.l 24 [] .nil .no)) ?_ | refine aW (.qs [0, 1, 2, 3, 4, 5, 6, 7, 8, 9, 10, 11, 12] (.l 13 [] .nil .no)) ?_ | fail); all_goals try (conv => whnf)
    refine CondOb.mk (fun hl2 => ?_) (fun hl2 => ?_)
    · have hkN : u + k ≤ N := by omega
      have e := (hst k).1 hkN
      have hs := mixs (F := vmx A N p i) (G := vmx A N p (i + 1)) (n := N + 1) (k := k) (by omega)
      have g1 := vint (F := mxf (vmx A N p i) (vmx A N p (i + 1)) k) (n := N + 1) (t := k) (by omega)
      rw [mxf_at] at g1
      have g2 := hAg (u + k) (by omega)
      have g3 := hAg u (by omega)
      have b2 := hA (u + k)
      have b3 := hA u
      generalize vmx A N p i k = w at *
      rw [e] at hs
      (repeat' (conv => whnf); first | refine ⟨u, _, by omega, g3, ?_⟩ | refine ⟨u + k, _, rfl, g2, ?_⟩ | refine ⟨_, g1, ?_⟩ | refine ⟨k, by omega, by omega, ?_⟩ | (refine aC (fun _ => ?_) (fun _ => ?_) <;> try (exfalso; omega)) | refine aS ?_ | refine aG ?_ | refine aD ?_ | refine aH ?_ | refine aP_C8 ?_ | refine aI ?_ | refine aJ ?_ | refine aW (.qs [0, 1, 2, 3, 4, 5, 6, 7, 8, 9, 10, 11, 12, 13, 14, 15, 16, 17, 18, 19, 20, 21, 22, 23] (.l 24 [] .nil .no)) ?_ | refine aW (.qs [0, 1, 2, 3, 4, 5, 6, 7, 8, 9, 10, 11, 12] (.l 13 [] .nil .no)) ?_ | fail); all_goals try (conv => whnf)
      exact ⟨k + 1, [0, 1, 2, 3], by omega, by omega, by rw [← hs]; (exact aL)⟩
    · have e : vals (mxf (vmx A N p i) (vmx A N p (i + 1)) k) (N + 1) = vals (vmx A N p (i + 1)) (N + 1) := mxf_end fun j hj hjN => ((hst j).2 (by omega)).symm
      rw [e]
      (repeat' (conv => whnf); first | (refine aC (fun _ => ?_) (fun _ => ?_) <;> try (exfalso; omega)) | refine aS ?_ | refine aG ?_ | refine aD ?_ | refine aH ?_ | refine aP_C8 ?_ | refine aI ?_ | refine aJ ?_ | refine aW (.qs [0, 1, 2, 3, 4, 5, 6, 7, 8, 9, 10, 11, 12, 13, 14, 15, 16, 17, 18, 19, 20, 21, 22, 23] (.l 24 [] .nil .no)) ?_ | refine aW (.qs [0, 1, 2, 3, 4, 5, 6, 7, 8, 9, 10, 11, 12] (.l 13 [] .nil .no)) ?_ | fail); all_goals try (conv => whnf)
      exact ⟨i + 1, [0, 1, 2], by omega, by omega, by (exact aL)⟩
  · have e : i = p.length := by omega
    subst e
    generalize vmx A N p p.length = v at *
    (repeat' (conv => whnf); first | (refine aC (fun _ => ?_) (fun _ => ?_) <;> try (exfalso; omega)) | refine aS ?_ | refine aG ?_ | refine aD ?_ | refine aH ?_ | refine aP_C8 ?_ | refine aI ?_ | refine aJ ?_ | refine aW (.qs [0, 1, 2, 3, 4, 5, 6, 7, 8, 9, 10, 11, 12, 13, 14, 15, 16, 17, 18, 19, 20, 21, 22, 23] (.l 24 [] .nil .no)) ?_ | refine aW (.qs [0, 1, 2, 3, 4, 5, 6, 7, 8, 9, 10, 11, 12] (.l 13 [] .nil .no)) ?_ | fail); all_goals try (conv => whnf)
    have h1 : vals (mxf v (pmx v) 1) (N + 1) = vals v (N + 1) := vals_congr fun j _ => by
      unfold mxf
      split
      · rw [show j = 0 by omega]; rfl
      · rfl
    refine LoopOb.mk (Y := Nat) (st := fun k => ⟨[(12, i64 k), (8, .ptr 0 0), (4, .ptr 1 0)], [.box [.vec 2], .box [.nil, i64 0, i64 0], .vec 1 (ints (vals (mxf v (pmx v) k) (N + 1)))]⟩)
      (inv := fun k => 1 ≤ k ∧ k ≤ N + 1) (fun k => N + 1 - k) 1 [0, 1, 2] (by omega) (by rw [h1]; (exact aL)) ?_
    rintro k ⟨hk1, hk⟩
    have hql := hlen (mxf v (pmx v) k)
    (repeat' (conv => whnf); first | refine aS ?_ | refine aG ?_ | refine aD ?_ | refine aH ?_ | refine aP_C8 ?_ | refine aI ?_ | refine aJ ?_ | refine aW (.qs [0, 1, 2, 3, 4, 5, 6, 7, 8, 9, 10, 11, 12, 13, 14, 15, 16, 17, 18, 19, 20, 21, 22, 23] (.l 24 [] .nil .no)) ?_ | refine aW (.qs [0, 1, 2, 3, 4, 5, 6, 7, 8, 9, 10, 11, 12] (.l 13 [] .nil .no)) ?_ | fail); all_goals try (conv => whnf)
    refine CondOb.mk (fun hl2 => ?_) (fun hl2 => ?_)
    · have hkN : k < N + 1 := by omega
      have hs := mixs (F := v) (G := pmx v) (n := N + 1) (k := k) hkN
      have g1 := vint (F := mxf v (pmx v) k) (n := N + 1) (t := k) hkN
      have g2 := vint (F := mxf v (pmx v) k) (n := N + 1) (t := k - 1) (by omega)
      rw [mxf_at] at g1
      rw [mxf_lt (by omega)] at g2
      have e : pmx v k = max (v k) (pmx v (k - 1)) := by
        obtain ⟨j, rfl⟩ : ∃ j, k = j + 1 := ⟨k - 1, by omega⟩
        rfl
      rw [e] at hs
      (repeat' (conv => whnf); first | refine ⟨_, g2, ?_⟩ | refine ⟨_, g1, ?_⟩ | refine ⟨k - 1, by omega, by omega, ?_⟩ | refine ⟨k, by omega, by omega, ?_⟩ | (refine aC (fun _ => ?_) (fun _ => ?_) <;> try (exfalso; omega)) | refine aS ?_ | refine aG ?_ | refine aD ?_ | refine aH ?_ | refine aP_C8 ?_ | refine aI ?_ | refine aJ ?_ | refine aW (.qs [0, 1, 2, 3, 4, 5, 6, 7, 8, 9, 10, 11, 12, 13, 14, 15, 16, 17, 18, 19, 20, 21, 22, 23] (.l 24 [] .nil .no)) ?_ | refine aW (.qs [0, 1, 2, 3, 4, 5, 6, 7, 8, 9, 10, 11, 12] (.l 13 [] .nil .no)) ?_ | fail); all_goals try (conv => whnf)
      exact ⟨k + 1, [0, 1, 2], by omega, by omega, by rw [← hs]; (exact aL)⟩
    · have e : k = N + 1 := by omega
      subst e
      rw [show vals (mxf v (pmx v) (N + 1)) (N + 1) = vals (pmx v) (N + 1) from mxf_end fun j h1 h2 => by omega]
      have hpl2 := hlen (pmx v)
      (repeat' (conv => whnf); first | (refine aC (fun _ => ?_) (fun _ => ?_) <;> try (exfalso; omega)) | refine aS ?_ | refine aG ?_ | refine aD ?_ | refine aP_C8 ?_ | refine aI ?_ | refine aJ ?_ | refine aW (.qs [0, 1, 2, 3, 4, 5, 6, 7, 8, 9, 10, 11, 12, 13, 14, 15, 16, 17, 18, 19, 20, 21, 22, 23] (.l 24 [] .nil .no)) ?_ | refine aW (.qs [0, 1, 2, 3, 4, 5, 6, 7, 8, 9, 10, 11, 12] (.l 13 [] .nil .no)) ?_ | fail); all_goals try (conv => whnf)
      refine .mk [.fz 2, .fb 0] ?_
      refine CallOb.mk [] cB rfl ⟨Imp.fn ⟨Imp.shut rfl, trivial⟩, Imp.num (by omega), Imp.refl _, Imp.refl _, trivial⟩ rfl rfl ?_
      rintro _ _ ⟨⟨x1, x2, x3, x4⟩, hx, rfl, rfl⟩
      have hm := hmk _ hx
      (repeat' (conv => whnf); first | (refine aC (fun _ => ?_) (fun _ => ?_) <;> try (exfalso; omega)) | refine aS ?_ | refine aG ?_ | refine aD ?_ | refine aH ?_ | refine aP_C8 ?_ | refine aI ?_ | refine aJ ?_ | refine aW (.qs [0, 1, 2, 3, 4, 5, 6, 7, 8, 9, 10, 11, 12, 13, 14, 15, 16, 17, 18, 19, 20, 21, 22, 23] (.l 24 [] .nil .no)) ?_ | refine aW (.qs [0, 1, 2, 3, 4, 5, 6, 7, 8, 9, 10, 11, 12] (.l 13 [] .nil .no)) ?_ | fail); all_goals try (conv => whnf)
      exact ⟨(x1, x2, x3, x4), hm, rfl, Imp.refl _⟩
end Go.Proofs.Ytabbnnfobjifiaa
