/-
  A text of the proofs of this seat: lemmas that the statements' proofs use; it states nothing of the program by itself beyond the contracts that its theorems bear. Conditions: those that stand in each theorem. Its short name: Lc1.
-/
import Derived.Test.YtaomhdljcdadaaaGreatSo9
import Derived.Test.YtaomhdljcdadaaaGreatSd1
import Derived.Test.YtaomhdljcdadaaaGreatNw
import Derived.Test.YtaomhdljcdadaaaGreatMx
set_option linter.unusedVariables false
set_option linter.unusedSimpArgs false
namespace Go.Proofs.YtaomhdljcdadaaaGreat
open Go.Sx Go.Pk Go.Mc Go.Np
set_option maxRecDepth 4000
set_option maxHeartbeats 2000000
/-! SimulateCauses -/
theorem NetG.szs {ml mf k : Nat} {n : Nt} (h : NetG ml mf k n) : ∀ f ∈ n.fl, 1 ≤ f.lo ∧ f.lo ≤ f.hi ∧ f.hi ≤ 1500 := fun f hf => by
  have := h.g.fg f hf
  have h1 := this.lo
  have h2 := this.hi
  omega
theorem aP_Lc1 {A B K : Prop} (k : K) (a : A := by (simp only [zA, zT, zD, zC, zN, ints_len, zR, Go.Cv.vals_len]; omega)) (b : B := by (simp only [zA, zT, zD, zC, zN, ints_len, zR, Go.Cv.vals_len]; omega)) : (A ∧ B) ∧ K := ⟨⟨a, b⟩, k⟩
theorem Causes_ok (l : List Int) (hl : l.length ≤ 9223372036854775807) (a : Int) (a0 : 0 ≤ a ∧ a ≤ 255) :
    Ctr Tryz.prog 7 [.psl 1 (ints l), .num .u8 a] [] (fun r o => r = .bl true) := by
  refine fn_intro (E := env 0) tys_ok rfl rfl rfl Tryz.func7 (by kernel_rfl) rfl (by kernel_rfl) ?_
  have hL : (l.take 2000).length ≤ 2000 := by rw [List.length_take]; omega
  (repeat' (conv => whnf); first | (refine aC (fun _ => ?_) (fun _ => ?_) <;> try (exfalso; omega)) | refine aS ?_ | refine aG ?_ | refine aD ?_ | refine aH ?_ | refine aP_Lc1 ?_ | refine aI ?_ | refine aJ ?_ | refine aW (.qs [0, 1, 2, 3, 4, 5, 6, 7, 8, 9, 10, 11] .nil) ?_ | (refine aK [] (sane_ok) ?_) | (refine aK [] (New_ok l hl) ?_) | fail); all_goals try (conv => whnf)
  · rfl
  refine CallOb.mk [0] (Net_ok _ 0 hL (by omega) 3 4 (by omega) (by omega)) rfl (ImpL.refl _) rfl rfl ?_
  rintro _ _ ⟨⟨n, k, p1⟩, ⟨hG, hp1⟩, rfl, rfl⟩
  dsimp only at hG hp1 ⊢
  have hn := hG.nl
  have hchk := hG.g.chk
  have hmf := hG.mf
  have hsz := hG.szs
  (repeat' (conv => whnf); first | (refine aC (fun _ => ?_) (fun _ => ?_) <;> try (exfalso; omega)) | refine aS ?_ | refine aG ?_ | refine aD ?_ | refine aH ?_ | refine aP_Lc1 ?_ | refine aI ?_ | refine aJ ?_ | refine aW (.qs [0, 1, 2, 3, 4, 5, 6, 7, 8, 9, 10, 11] .nil) ?_ | fail); all_goals try (conv => whnf)
  refine CallOb.mk [0] (Sends_ok _ p1 hL hp1 n hn (by omega) hsz 14 (by omega)) rfl (ImpL.refl _) rfl rfl ?_
  rintro _ _ ⟨⟨p, p2⟩, ⟨hS, hp14, hp2⟩, rfl, rfl⟩
  dsimp only at hS hp14 hp2 ⊢
  have hK := hS.sk hchk (by omega)
  (repeat' (conv => whnf); first | (refine aC (fun _ => ?_) (fun _ => ?_) <;> try (exfalso; omega)) | refine aS ?_ | refine aG ?_ | refine aD ?_ | refine aH ?_ | refine aP_Lc1 ?_ | refine aI ?_ | refine aJ ?_ | refine aW (.qs [0, 1, 2, 3, 4, 5, 6, 7, 8, 9, 10, 11] .nil) ?_ | fail); all_goals try (conv => whnf)
  obtain ⟨T, hT, hT40⟩ : ∃ T : Nat, a.tmod 40 = T ∧ T < 40 := ⟨(a.tmod 40).toNat, by rw [Int.tmod_eq_emod_of_nonneg a0.1]; omega, by rw [Int.tmod_eq_emod_of_nonneg a0.1]; omega⟩
  (repeat' (conv => whnf); first | (refine aC (fun _ => ?_) (fun _ => ?_) <;> try (exfalso; omega)) | refine aS ?_ | refine aG ?_ | refine aD ?_ | refine aH ?_ | refine aP_Lc1 ?_ | refine aI ?_ | refine aJ ?_ | refine aW (.qs [0, 1, 2, 3, 4, 5, 6, 7, 8, 9, 10, 11] .nil) ?_ | refine ⟨by omega, ?_⟩ | fail); all_goals try (conv => whnf)
  rw [hT]
  have hpl := pks_len p
  (repeat' (conv => whnf); first | (refine aC (fun _ => ?_) (fun _ => ?_) <;> try (exfalso; omega)) | refine aS ?_ | refine aG ?_ | refine aD ?_ | refine aH ?_ | refine aP_Lc1 ?_ | refine aI ?_ | refine aJ ?_ | refine aW (.qs [0, 1, 2, 3, 4, 5, 6, 7, 8, 9, 10, 11] .nil) ?_ | fail); all_goals try (conv => whnf)
  refine LoopOb.mk (Y := Nat) (st := fun i => ⟨[(38, i64 i), (37, i64 (pks p).length), (36, .vec 1), (9, .vec 2), (8, i64 T), (7, .vec 1), (6, .ptr 0 0)], [nbx n, .vec 3 (pks p), .vec 3 (pks ((p.take i).filter fun x => decide (Pk.t x < (T : Int))))]⟩)
    (inv := fun i => i ≤ p.length) (fun i => p.length - i) 0 [1, 2, 3] (by omega) (by (exact aL)) ?_
  rintro i hi
  have hfl : ((p.take i).filter fun x => decide (Pk.t x < (T : Int))).length ≤ 14 := Nat.le_trans (List.length_filter_le _ _) (by rw [List.length_take]; omega)
  have hfp := pks_len ((p.take i).filter fun x => decide (Pk.t x < (T : Int)))
  by_cases hip : i < p.length
  · have hg := pks_get hip
    have htk : p.take (i + 1) = p.take i ++ [p.getD i pk0] := by
      rw [List.take_succ_eq_append_getElem hip, List.getD_eq_getElem?_getD, List.getElem?_eq_getElem hip]; rfl
    have hnx : (p.take (i + 1)).filter (fun x => decide (Pk.t x < (T : Int))) = (p.take i).filter (fun x => decide (Pk.t x < (T : Int))) ++ if (p.getD i pk0).t < (T : Int) then [p.getD i pk0] else [] := by
      rw [htk, List.filter_append]
      congr 1
      rw [List.filter_cons, List.filter_nil]
      by_cases c : (p.getD i pk0).t < (T : Int)
      · simp [c]
      · simp [c]
    generalize (p.take i).filter (fun x => decide (Pk.t x < (T : Int))) = e at *
    generalize p.getD i pk0 = x at *
    have hpe : pks e ++ [[i64 x.f, i64 x.t, i64 x.s]] = pks (e ++ [x]) := by simp [pks, pkw]
    (repeat' (conv => whnf); first | (refine aC (fun _ => ?_) (fun _ => ?_) <;> try (exfalso; omega)) | refine aS ?_ | refine aG ?_ | refine aD ?_ | refine aH ?_ | refine aP_Lc1 ?_ | refine aI ?_ | refine aJ ?_ | refine aW (.qs [0, 1, 2, 3, 4, 5, 6, 7, 8, 9, 10, 11] .nil) ?_ | refine ⟨i, rfl, by omega, ?_⟩ | refine ⟨_, hg, ?_⟩ | fail); all_goals try (conv => whnf)
    · rw [if_pos (by assumption)] at hnx
      exact ⟨i + 1, [0, 1, 5], by omega, by omega, by rw [hnx, ← hpe]; (exact aL)⟩
    · rw [if_neg (by assumption), List.append_nil] at hnx
      exact ⟨i + 1, [0, 1, 2], by omega, by omega, by rw [hnx]; (exact aL)⟩
  · obtain rfl : i = p.length := by omega
    rw [List.take_length]
    obtain ⟨m, hm, hfe, hlate⟩ := early_ok hK (T : Int)
    rw [hfe]
    have hKm := hK.take m
    have hqm : (p.take m).length = m := by rw [List.length_take]; omega
    have hqp := pks_len (p.take m)
    have hcau := fun i k => causes hK (liN n) (T := T) (m := m) (by omega) hm hlate (i := i) (k := k)
    clear hfe hfl hfp
    have hqrt : ∀ i, i < m → ((toF n (p.take m)).rt i).length = ((toF n p).rt i).length := fun i hi => by
      show ((pfl n ((p.take m).getD i pk0)).rt.map Int.toNat).length = ((pfl n (p.getD i pk0)).rt.map Int.toNat).length
      rw [take_getD hi]
    generalize p.take m = q at *
    have cA := Run_ok n hn p hK 1000 (by omega)
    have cB := Run_ok n hn q hKm 1000 (by omega)
    have cC := Run_ok n hn p hK T (by omega)
    have hsA := trR_sh (F := toF n p) (Z := liN n) (N := 1000) hK.rts
    have hsB := trR_sh (F := toF n q) (Z := liN n) (N := 1000) hKm.rts
    have hsC := trR_sh (F := toF n p) (Z := liN n) (N := T) hK.rts
    have hgA := fun i k => trR_get (F := toF n p) (Z := liN n) (N := 1000) (i := i) (k := k)
    have hgB := fun i k => trR_get (F := toF n q) (Z := liN n) (N := 1000) (i := i) (k := k)
    have hgC := fun i k => trR_get (F := toF n p) (Z := liN n) (N := T) (i := i) (k := k)
    generalize trR (toF n p) (liN n) 1000 = A at *
    generalize trR (toF n q) (liN n) 1000 = B at *
    generalize trR (toF n p) (liN n) T = C at *
    have hlA : (A.map ints).length = p.length := by rw [List.length_map]; exact hsA.l
    have hlB : (B.map ints).length = q.length := by rw [List.length_map]; exact hsB.l
    have hlC : (C.map ints).length = p.length := by rw [List.length_map]; exact hsC.l
    (repeat' (conv => whnf); first | (refine aC (fun _ => ?_) (fun _ => ?_) <;> try (exfalso; omega)) | refine aS ?_ | refine aG ?_ | refine aD ?_ | refine aP_Lc1 ?_ | refine aI ?_ | refine aJ ?_ | refine aW (.qs [0, 1, 2, 3, 4, 5, 6, 7, 8, 9, 10, 11] .nil) ?_ | fail); all_goals try (conv => whnf)
    refine .mk [.fz 1, .fz 2] ?_
    (repeat' (conv => whnf); first | (refine aC (fun _ => ?_) (fun _ => ?_) <;> try (exfalso; omega)) | refine aS ?_ | refine aG ?_ | refine aD ?_ | refine aH ?_ | refine aP_Lc1 ?_ | refine aI ?_ | refine aJ ?_ | refine aW (.qs [0, 1, 2, 3, 4, 5, 6, 7, 8, 9, 10, 11] .nil) ?_ | fail); all_goals try (conv => whnf)
    refine aK [] cA ?_
    (repeat' (conv => whnf); first | (refine aC (fun _ => ?_) (fun _ => ?_) <;> try (exfalso; omega)) | refine aS ?_ | refine aG ?_ | refine aD ?_ | refine aH ?_ | refine aP_Lc1 ?_ | refine aI ?_ | refine aJ ?_ | refine aW (.qs [0, 1, 2, 3, 4, 5, 6, 7, 8, 9, 10, 11] .nil) ?_ | fail); all_goals try (conv => whnf)
    refine aK [] cB ?_
    (repeat' (conv => whnf); first | (refine aC (fun _ => ?_) (fun _ => ?_) <;> try (exfalso; omega)) | refine aS ?_ | refine aG ?_ | refine aD ?_ | refine aH ?_ | refine aP_Lc1 ?_ | refine aI ?_ | refine aJ ?_ | refine aW (.qs [0, 1, 2, 3, 4, 5, 6, 7, 8, 9, 10, 11] .nil) ?_ | fail); all_goals try (conv => whnf)
    refine aK [] cC ?_
    (repeat' (conv => whnf); first | (refine aC (fun _ => ?_) (fun _ => ?_) <;> try (exfalso; omega)) | refine aS ?_ | refine aG ?_ | refine aD ?_ | refine aP_Lc1 ?_ | refine aI ?_ | refine aJ ?_ | refine aW (.qs [0, 1, 2, 3, 4, 5, 6, 7, 8, 9, 10, 11] .nil) ?_ | fail); all_goals try (conv => whnf)
    refine .mk [.fm 3, .fm 6, .fm 9] ?_
    have htA := trs_len A
    have htB := trs_len B
    have htC := trs_len C
    have hAl : A.length = p.length := hsA.l
    have hBl : B.length = q.length := hsB.l
    have hCl : C.length = p.length := hsC.l
    have hfl := fll n.fl
    refine LoopOb.mk (Y := Nat) (st := fun i => ⟨[(106, i64 i), (105, i64 (pks p).length), (104, .psl 3 (pks p)), (16, .ptr 3 0), (14, .ptr 2 0), (12, .ptr 1 0), (9, .psl 3 (pks q)), (8, i64 T), (7, .psl 3 (pks p)), (6, .ptr 0 0)], [nbx n, .box [.psl 1 (trs A)], .box [.psl 1 (trs B)], .box [.psl 1 (trs C)]]⟩)
      (inv := fun i => i ≤ p.length) (fun i => p.length - i) 0 [0, 5, 8, 11] (by omega) (by (exact aL)) ?_
    rintro i hi
    by_cases hip : i < p.length
    · have hg := pks_get hip
      obtain ⟨f1, f2, _, _, hRt, _⟩ := hK.fl hip
      have hfg := flg (l := n.fl) (i := (p.getD i pk0).f.toNat) (by omega)
      have hrt : ((toF n p).rt i).length = (pfl n (p.getD i pk0)).rt.length := List.length_map _
      have gA := trs_get (ms := A) (i := i) (by omega)
      have gC := trs_get (ms := C) (i := i) (by omega)
      have rA := hsA.r i hip
      have rC := hsC.r i hip
      have r4 := hRt.l2
      unfold pfl at hrt r4
      generalize p.getD i pk0 = x at *
      generalize n.fl.getD x.f.toNat fl0 = f at *
      have hrl := ints_len f.rt
      (repeat' (conv => whnf); first | refine ⟨x.f.toNat, _, by omega, hfg, ?_⟩ | refine ⟨i, _, rfl, hg, ?_⟩ | (refine aC (fun _ => ?_) (fun _ => ?_) <;> try (exfalso; omega)) | refine aS ?_ | refine aG ?_ | refine aD ?_ | refine aH ?_ | refine aP_Lc1 ?_ | refine aI ?_ | refine aJ ?_ | refine aW (.qs [0, 1, 2, 3, 4, 5, 6, 7, 8, 9, 10, 11] .nil) ?_ | fail); all_goals try (conv => whnf)
      refine LoopOb.mk (Y := Nat) (st := fun h => ⟨[(120, i64 h), (119, i64 (ints f.rt).length), (118, .psl 1 (ints f.rt)), (18, i64 i), (106, i64 i), (105, i64 (pks p).length), (104, .psl 3 (pks p)), (16, .ptr 3 0), (14, .ptr 2 0), (12, .ptr 1 0), (9, .psl 3 (pks q)), (8, i64 T), (7, .psl 3 (pks p)), (6, .ptr 0 0)], [nbx n, .box [.psl 1 (trs A)], .box [.psl 1 (trs B)], .box [.psl 1 (trs C)]]⟩)
        (inv := fun h => h ≤ f.rt.length) (fun h => f.rt.length - h) 0 [0, 1, 2, 3] (by omega) (by (exact aL)) ?_
      rintro h hh
      by_cases hhl : h < f.rt.length
      · have hk : h < ((toF n p).rt i).length := by rw [hrt]; exact hhl
        obtain ⟨e1, e2, e3⟩ := hcau i h hip hk
        have vA := hgA i h hip hk
        have vC := hgC i h hip hk
        have iA := ints_get (l := A.getD i []) (j := h) (by omega)
        have iC := ints_get (l := C.getD i []) (j := h) (by omega)
        have lA := ints_len (A.getD i [])
        have lC := ints_len (C.getD i [])
        have hc : ((T : Int) ≤ tr (toF n p) (liN n) 1000 i h ∧ tr (toF n p) (liN n) T i h = -1) ∨ (tr (toF n p) (liN n) 1000 i h < T ∧ tr (toF n p) (liN n) T i h = tr (toF n p) (liN n) 1000 i h) := by
          rw [e1]
          split
          · exact .inl ⟨by assumption, rfl⟩
          · exact .inr ⟨by omega, rfl⟩
        have hqi : i < m → ((toF n q).rt i).length = f.rt.length ∧ i < q.length := fun him => ⟨by rw [hqrt i him, hrt], by omega⟩
        have gB : i < m → (trs B)[i]? = some [.psl 1 (ints (B.getD i []))] := fun him => trs_get (ms := B) (i := i) (by omega)
        have rB : i < m → (B.getD i []).length = f.rt.length := fun him => by rw [← (hqi him).1]; exact hsB.r i (hqi him).2
        have vB : i < m → (B.getD i []).getD h 0 = tr (toF n q) (liN n) 1000 i h := fun him => hgB i h (hqi him).2 (by rw [(hqi him).1]; exact hhl)
        have iB : i < m → (ints (B.getD i []))[h]? = some [i64 (tr (toF n q) (liN n) 1000 i h)] := fun him => by
          rw [← vB him]; exact ints_get (l := B.getD i []) (j := h) (by rw [rB him]; exact hhl)
        have lB := ints_len (B.getD i [])
        rw [vA] at iA
        rw [vC] at iC
        clear e1 vA vC vB hgA hgB hgC hcau hsA hsB hsC hk hqi cA cB cC
        generalize tr (toF n p) (liN n) 1000 i h = va at *
        generalize tr (toF n p) (liN n) T i h = vc at *
        generalize tr (toF n q) (liN n) 1000 i h = vb at *
        generalize A.getD i [] = ra at *
        generalize B.getD i [] = rb at *
        generalize C.getD i [] = rc at *
        by_cases him : i < m
        · have gB := gB him
          have iB := iB him
          have rB := rB him
          have e3 := e3 him
          have hy : ((vb < 0 ∨ (T : Int) ≤ vb) ∧ vc < 0) ∨ vb = vc := by
            by_cases c1 : (0 ≤ vb ∧ vb < T) ∨ 0 ≤ vc
            · exact .inr (e3 c1)
            · left; omega
          clear e3
          (repeat' (conv => whnf); first | refine ⟨h, _, rfl, iB, ?_⟩ | refine ⟨h, _, rfl, iC, ?_⟩ | refine ⟨h, _, rfl, iA, ?_⟩ | refine ⟨i, _, rfl, gB, ?_⟩ | refine ⟨i, _, rfl, gC, ?_⟩ | refine ⟨i, _, rfl, gA, ?_⟩ | (refine aC (fun _ => ?_) (fun _ => ?_) <;> try (exfalso; omega)) | refine aS ?_ | refine aG ?_ | refine aD ?_ | refine aH ?_ | refine aP_Lc1 ?_ | refine aI ?_ | refine aJ ?_ | refine aW (.qs [0, 1, 2, 3, 4, 5, 6, 7, 8, 9, 10, 11] .nil) ?_ | fail); all_goals try (conv => whnf)
          all_goals exact ⟨h + 1, [0, 1, 2, 3], by omega, by omega, by (exact aL)⟩
        · clear gB iB rB e3
          (repeat' (conv => whnf); first | refine ⟨h, _, rfl, iC, ?_⟩ | refine ⟨h, _, rfl, iA, ?_⟩ | refine ⟨i, _, rfl, gC, ?_⟩ | refine ⟨i, _, rfl, gA, ?_⟩ | (refine aC (fun _ => ?_) (fun _ => ?_) <;> try (exfalso; omega)) | refine aS ?_ | refine aG ?_ | refine aD ?_ | refine aH ?_ | refine aP_Lc1 ?_ | refine aI ?_ | refine aJ ?_ | refine aW (.qs [0, 1, 2, 3, 4, 5, 6, 7, 8, 9, 10, 11] .nil) ?_ | fail); all_goals try (conv => whnf)
          all_goals exact ⟨h + 1, [0, 1, 2, 3], by omega, by omega, by (exact aL)⟩
      · obtain rfl : h = f.rt.length := by omega
        (repeat' (conv => whnf); first | (refine aC (fun _ => ?_) (fun _ => ?_) <;> try (exfalso; omega)) | refine aS ?_ | refine aG ?_ | refine aD ?_ | refine aH ?_ | refine aP_Lc1 ?_ | refine aI ?_ | refine aJ ?_ | refine aW (.qs [0, 1, 2, 3, 4, 5, 6, 7, 8, 9, 10, 11] .nil) ?_ | fail); all_goals try (conv => whnf)
        exact ⟨i + 1, [0, 1, 2, 3], by omega, by omega, by (exact aL)⟩
    · obtain rfl : i = p.length := by omega
      (repeat' (conv => whnf); first | (refine aC (fun _ => ?_) (fun _ => ?_) <;> try (exfalso; omega)) | refine aS ?_ | refine aG ?_ | refine aD ?_ | refine aH ?_ | refine aP_Lc1 ?_ | refine aI ?_ | refine aJ ?_ | refine aW (.qs [0, 1, 2, 3, 4, 5, 6, 7, 8, 9, 10, 11] .nil) ?_ | (refine aK [] (sane_ok) ?_) | fail); all_goals try (conv => whnf)
      rfl
end Go.Proofs.YtaomhdljcdadaaaGreat
