/-
  A text of the proofs of this seat: lemmas that the statements' proofs use; it states nothing of the program by itself beyond the contracts that its theorems bear. Conditions: those that stand in each theorem. Its short name: Lf1.
-/
import Derived.Test.YtaomhdljcdadaaaGreatSo9
import Derived.Test.YtaomhdljcdadaaaGreatSd1
import Derived.Test.YtaomhdljcdadaaaGreatNw
import Derived.Test.YtaomhdljcdadaaaGreatMz
import Derived.Test.YtaomhdljcdadaaaGreatN10
set_option linter.unusedVariables false
set_option linter.unusedSimpArgs false
namespace Go.Proofs.YtaomhdljcdadaaaGreat
open Go.Sx Go.Pk Go.Mc Go.Np
set_option maxRecDepth 4000
set_option maxHeartbeats 2000000
/-! SimulateFlows -/
theorem NetG.szs {ml mf k : Nat} {n : Nt} (h : NetG ml mf k n) : ∀ f ∈ n.fl, 1 ≤ f.lo ∧ f.lo ≤ f.hi ∧ f.hi ≤ 1500 := fun f hf => by
  have := h.g.fg f hf
  have h1 := this.lo
  have h2 := this.hi
  omega
abbrev nts (l : List Nat) : List (List SV) := ints (l.map fun (x : Nat) => (x : Int))
theorem aP_Lf1 {A B K : Prop} (k : K) (a : A := by (simp only [zA, zT, zD, zC, zN, ints_len, zR, Go.Cv.vals_len]; omega)) (b : B := by (simp only [zA, zT, zD, zC, zN, ints_len, zR, Go.Cv.vals_len]; omega)) : (A ∧ B) ∧ K := ⟨⟨a, b⟩, k⟩
theorem Flows_ok (l : List Int) (hl : l.length ≤ 9223372036854775807) (a : Int) (a0 : 0 ≤ a ∧ a ≤ 255) :
    Ctr Tryz.prog 9 [.psl 1 (ints l), .num .u8 a] [] (fun r o => r = .bl true) := by
  refine fn_intro (E := env 0) tys_ok rfl rfl rfl Tryz.func9 (by kernel_rfl) rfl (by kernel_rfl) ?_
  have hL : (l.take 2000).length ≤ 2000 := by rw [List.length_take]; omega
  (repeat' (conv => whnf); first | (refine aC (fun _ => ?_) (fun _ => ?_) <;> try (exfalso; omega)) | refine aS ?_ | refine aG ?_ | refine aD ?_ | refine aH ?_ | refine aP_Lf1 ?_ | refine aI ?_ | refine aJ ?_ | refine aW (.qs [0, 1, 2, 3, 4, 5, 6, 7, 8, 9, 10, 11, 12] (.l 13 [] (.qs [14] .nil) .no)) ?_ | (refine aK [] (sane_ok) ?_) | (refine aK [] (New_ok l hl) ?_) | fail); all_goals try (conv => whnf)
  · rfl
  refine CallOb.mk [0] (Net_ok _ 0 hL (by omega) 4 4 (by omega) (by omega)) rfl (ImpL.refl _) rfl rfl ?_
  rintro _ _ ⟨⟨n, k, p1⟩, ⟨hG, hp1⟩, rfl, rfl⟩
  dsimp only at hG hp1 ⊢
  have hn := hG.nl
  have hchk := hG.g.chk
  have hmf := hG.mf
  have hsz := hG.szs
  have hfl := fll n.fl
  by_cases hz : n.fl.length = 0
  · (repeat' (conv => whnf); first | (refine aC (fun _ => ?_) (fun _ => ?_) <;> try (exfalso; omega)) | refine aS ?_ | refine aG ?_ | refine aD ?_ | refine aH ?_ | refine aP_Lf1 ?_ | refine aI ?_ | refine aJ ?_ | refine aW (.qs [0, 1, 2, 3, 4, 5, 6, 7, 8, 9, 10, 11, 12] (.l 13 [] (.qs [14] .nil) .no)) ?_ | (refine aK [] (sane_ok) ?_) | fail); all_goals try (conv => whnf)
    rfl
  obtain ⟨g, eg, hg⟩ : ∃ x : Nat, a.tmod ((fls n.fl).length : Int) = x ∧ x < n.fl.length := by
    obtain ⟨e1, e2, e3⟩ := tmod_bd a0.1 (show (1 : Int) ≤ ((fls n.fl).length : Int) by omega)
    exact ⟨(a % ((fls n.fl).length : Int)).toNat, by omega, by omega⟩
  have hfg := flg (l := n.fl) (i := g) hg
  have hRt := chk_rt hchk hg
  have hr4 := hRt.l2
  have hal := fun p (hK : SkP n p) => alone_of (p := p) hK (g := g)
  generalize n.fl.getD g fl0 = f at *
  have hrl := ints_len f.rt
  (repeat' (conv => whnf); first | (refine aC (fun _ => ?_) (fun _ => ?_) <;> try (exfalso; omega)) | refine aS ?_ | refine aG ?_ | refine aD ?_ | refine aH ?_ | refine aP_Lf1 ?_ | refine aI ?_ | refine aJ ?_ | refine aW (.qs [0, 1, 2, 3, 4, 5, 6, 7, 8, 9, 10, 11, 12] (.l 13 [] (.qs [14] .nil) .no)) ?_ | refine ⟨by omega, ?_⟩ | fail); all_goals try (conv => whnf)
  rw [eg]
  (repeat' (conv => whnf); first | (refine aC (fun _ => ?_) (fun _ => ?_) <;> try (exfalso; omega)) | refine aS ?_ | refine aG ?_ | refine aD ?_ | refine aH ?_ | refine aP_Lf1 ?_ | refine aI ?_ | refine aJ ?_ | refine aW (.qs [0, 1, 2, 3, 4, 5, 6, 7, 8, 9, 10, 11, 12] (.l 13 [] (.qs [14] .nil) .no)) ?_ | refine ⟨_, rfl, hfg, ?_⟩ | fail); all_goals try (conv => whnf)
  refine LoopOb.mk (Y := Nat) (st := fun i => ⟨[(46, i64 i), (45, i64 (ints f.rt).length), (44, .psl 1 (ints f.rt)), (7, i64 g), (6, .ptr 1 0), (5, .ptr 0 0)], [src (l.take 2000) p1, nbx n]⟩)
    (inv := fun i => i ≤ f.rt.length ∧ ∀ j, j < i → (users n (f.rt.getD j 0)).length ≤ 1) (fun i => f.rt.length - i) 0 [0, 1] ⟨by omega, fun j hj => by omega⟩ (by (exact aL)) ?_
  rintro i ⟨hi, hu⟩
  by_cases hil : i < f.rt.length
  · have hgi := ints_get (l := f.rt) (j := i) hil
    have hst : (users n (f.rt.getD i 0)).length ≤ 1 → ∀ j, j < i + 1 → (users n (f.rt.getD j 0)).length ≤ 1 := fun h j hj => by
      rcases Nat.lt_succ_iff_lt_or_eq.1 hj with c | c
      · exact hu j c
      · subst c; exact h
    have cU := rUsers_ok n hn (by omega) (f.rt.getD i 0)
    generalize f.rt.getD i 0 = v at *
    have hul := ints_len (users n v)
    (repeat' (conv => whnf); first | refine ⟨i, _, rfl, hgi, ?_⟩ | (refine aC (fun _ => ?_) (fun _ => ?_) <;> try (exfalso; omega)) | refine aS ?_ | refine aG ?_ | refine aD ?_ | refine aH ?_ | refine aP_Lf1 ?_ | refine aI ?_ | refine aJ ?_ | refine aW (.qs [0, 1, 2, 3, 4, 5, 6, 7, 8, 9, 10, 11, 12] (.l 13 [] (.qs [14] .nil) .no)) ?_ | (refine aK [] cU ?_) | (refine aK [] (sane_ok) ?_) | fail); all_goals try (conv => whnf)
    · rfl
    · exact ⟨i + 1, [0, 1], ⟨by omega, hst (by omega)⟩, by omega, by (exact aL)⟩
  obtain rfl : i = f.rt.length := by omega
  have hu' : ∀ x ∈ f.rt, (users n x).length ≤ 1 := fun x hx => by
    obtain ⟨j, hj, rfl⟩ := List.mem_iff_getElem.1 hx
    have := hu j hj
    rw [List.getD_eq_getElem?_getD, List.getElem?_eq_getElem hj] at this
    exact this
  clear hu hil hi
  (repeat' (conv => whnf); first | (refine aC (fun _ => ?_) (fun _ => ?_) <;> try (exfalso; omega)) | refine aS ?_ | refine aG ?_ | refine aD ?_ | refine aH ?_ | refine aP_Lf1 ?_ | refine aI ?_ | refine aJ ?_ | refine aW (.qs [0, 1, 2, 3, 4, 5, 6, 7, 8, 9, 10, 11, 12] (.l 13 [] (.qs [14] .nil) .no)) ?_ | fail); all_goals try (conv => whnf)
  refine CallOb.mk [0] (Sends_ok _ p1 hL hp1 n hn (by omega) hsz 12 (by omega)) rfl (ImpL.refl _) rfl rfl ?_
  rintro _ _ ⟨⟨p, p2⟩, ⟨hS, hp12, hp2⟩, rfl, rfl⟩
  dsimp only at hS hp12 hp2 ⊢
  have hK := hS.sk hchk (by omega)
  have hal := hal p hK hu'
  have hpl := pks_len p
  (repeat' (conv => whnf); first | (refine aC (fun _ => ?_) (fun _ => ?_) <;> try (exfalso; omega)) | refine aS ?_ | refine aG ?_ | refine aD ?_ | refine aH ?_ | refine aP_Lf1 ?_ | refine aI ?_ | refine aJ ?_ | refine aW (.qs [0, 1, 2, 3, 4, 5, 6, 7, 8, 9, 10, 11, 12] (.l 13 [] (.qs [14] .nil) .no)) ?_ | fail); all_goals try (conv => whnf)
  refine LoopOb.mk (Y := Nat) (st := fun i => ⟨[(62, i64 i), (61, i64 (pks p).length), (60, .vec 1), (12, .vec 3), (11, .vec 2), (10, .vec 1), (7, i64 g), (6, .ptr 0 0)], [nbx n, .vec 3 (pks p), .vec 3 (pks (ownF p g i)), .vec 1 (nts (ofF p g i))]⟩)
    (inv := fun i => i ≤ p.length) (fun i => p.length - i) 0 [1, 2, 3, 4] (by omega) (by (exact aL)) ?_
  rintro i hi
  have hol := ofF_len (p := p) (f := g) i
  have hwl := pks_len (ownF p g i)
  have hwl2 := ownF_len (p := p) (f := g) (i := i)
  have hnl : (nts (ofF p g i)).length = (ofF p g i).length := by simp [nts, ints]
  have hnm : ((ofF p g i).map fun (x : Nat) => (x : Int)).length = (ofF p g i).length := List.length_map _
  by_cases hip : i < p.length
  · have hg := pks_get hip
    have hnx : ofF p g (i + 1) = if (p.getD i pk0).f = (g : Int) then ofF p g i ++ [i] else ofF p g i := rfl
    have hnx2 : ownF p g (i + 1) = if (p.getD i pk0).f = (g : Int) then ownF p g i ++ [p.getD i pk0] else ownF p g i := by
      unfold ownF
      rw [hnx]
      split
      · rw [List.map_append]; rfl
      · rfl
    have hna : nts (ofF p g i ++ [i]) = nts (ofF p g i) ++ [[i64 (i : Int)]] := by simp [nts, ints]
    generalize ofF p g i = o at *
    generalize ownF p g i = w at *
    generalize p.getD i pk0 = x at *
    have hpe : pks w ++ [[i64 x.f, i64 x.t, i64 x.s]] = pks (w ++ [x]) := by simp [pks, pkw]
    (repeat' (conv => whnf); first | (refine aC (fun _ => ?_) (fun _ => ?_) <;> try (exfalso; omega)) | refine aS ?_ | refine aG ?_ | refine aD ?_ | refine aH ?_ | refine aP_Lf1 ?_ | refine aI ?_ | refine aJ ?_ | refine aW (.qs [0, 1, 2, 3, 4, 5, 6, 7, 8, 9, 10, 11, 12] (.l 13 [] (.qs [14] .nil) .no)) ?_ | refine ⟨i, rfl, by omega, ?_⟩ | refine ⟨_, hg, ?_⟩ | fail); all_goals try (conv => whnf)
    · rw [if_pos (by assumption)] at hnx hnx2
      exact ⟨i + 1, [0, 1, 6, 8], by omega, by omega, by rw [hnx, hnx2, hna, ← hpe]; (exact aL)⟩
    · rw [if_neg (by assumption)] at hnx hnx2
      exact ⟨i + 1, [0, 1, 2, 3], by omega, by omega, by rw [hnx, hnx2]; (exact aL)⟩
  · obtain rfl : i = p.length := by omega
    have hKo := ownF_sk hK (g : Int)
    have hrow := fun j => alone_row hK (liN n) (N := 800) hal (j := j)
    have hom := fun j (hj : j < (ofF p g p.length).length) => (ofF_mem.1 (List.getElem_mem hj)).1
    generalize ofF p g p.length = o at *
    generalize ownF p g p.length = w at *
    have cA := Run_ok n hn p hK 800 (by omega)
    have cB := Run_ok n hn w hKo 800 (by omega)
    have hsA := trR_sh (F := toF n p) (Z := liN n) (N := 800) hK.rts
    have hsB := trR_sh (F := toF n w) (Z := liN n) (N := 800) hKo.rts
    generalize trR (toF n p) (liN n) 800 = A at *
    generalize trR (toF n w) (liN n) 800 = B at *
    have hlA : (A.map ints).length = p.length := by rw [List.length_map]; exact hsA.l
    have hlB : (B.map ints).length = w.length := by rw [List.length_map]; exact hsB.l
    (repeat' (conv => whnf); first | (refine aC (fun _ => ?_) (fun _ => ?_) <;> try (exfalso; omega)) | refine aS ?_ | refine aG ?_ | refine aD ?_ | refine aP_Lf1 ?_ | refine aI ?_ | refine aJ ?_ | refine aW (.qs [0, 1, 2, 3, 4, 5, 6, 7, 8, 9, 10, 11, 12] (.l 13 [] (.qs [14] .nil) .no)) ?_ | fail); all_goals try (conv => whnf)
    refine .mk [.fz 1, .fz 2, .fz 3] ?_
    (repeat' (conv => whnf); first | (refine aC (fun _ => ?_) (fun _ => ?_) <;> try (exfalso; omega)) | refine aS ?_ | refine aG ?_ | refine aD ?_ | refine aH ?_ | refine aP_Lf1 ?_ | refine aI ?_ | refine aJ ?_ | refine aW (.qs [0, 1, 2, 3, 4, 5, 6, 7, 8, 9, 10, 11, 12] (.l 13 [] (.qs [14] .nil) .no)) ?_ | fail); all_goals try (conv => whnf)
    refine aK [] cA ?_
    (repeat' (conv => whnf); first | (refine aC (fun _ => ?_) (fun _ => ?_) <;> try (exfalso; omega)) | refine aS ?_ | refine aG ?_ | refine aD ?_ | refine aH ?_ | refine aP_Lf1 ?_ | refine aI ?_ | refine aJ ?_ | refine aW (.qs [0, 1, 2, 3, 4, 5, 6, 7, 8, 9, 10, 11, 12] (.l 13 [] (.qs [14] .nil) .no)) ?_ | fail); all_goals try (conv => whnf)
    refine aK [] cB ?_
    (repeat' (conv => whnf); first | (refine aC (fun _ => ?_) (fun _ => ?_) <;> try (exfalso; omega)) | refine aS ?_ | refine aG ?_ | refine aD ?_ | refine aP_Lf1 ?_ | refine aI ?_ | refine aJ ?_ | refine aW (.qs [0, 1, 2, 3, 4, 5, 6, 7, 8, 9, 10, 11, 12] (.l 13 [] (.qs [14] .nil) .no)) ?_ | fail); all_goals try (conv => whnf)
    refine .mk [.fm 4, .fm 7] ?_
    have htA := trs_len A
    have htB := trs_len B
    have hAl : A.length = p.length := hsA.l
    have hBl : B.length = w.length := hsB.l
    have hwp := pks_len w
    refine LoopOb.mk (Y := Nat) (st := fun i => ⟨[(116, i64 i), (115, i64 (pks w).length), (114, .psl 3 (pks w)), (17, .ptr 2 0), (15, .ptr 1 0), (12, .psl 1 (nts o)), (6, .ptr 0 0)], [nbx n, .box [.psl 1 (trs A)], .box [.psl 1 (trs B)]]⟩)
      (inv := fun i => i ≤ w.length) (fun i => w.length - i) 0 [0, 6, 9] (by omega) (by (exact aL)) ?_
    rintro i hi
    by_cases hil : i < w.length
    · have hio : i < o.length := by omega
      have go : (nts o)[i]? = some [i64 (o[i] : Int)] := by simp [nts, ints, hio]
      have hop := hom i hio
      have gA := trs_get (ms := A) (i := o[i]) (by omega)
      have gB := trs_get (ms := B) (i := i) (by omega)
      have hr := hrow i hio
      have hrl := hsA.r o[i] hop
      have hr4 := (hK.fl hop).2.2.2.2.1.l2
      have hrt : ((toF n p).rt o[i]).length = (pfl n (p.getD o[i] pk0)).rt.length := List.length_map _
      rw [hr] at gB
      have cI := kInts_ok (A.getD o[i] []) (A.getD o[i] []) (by omega)
      clear hrow hr hom
      generalize A.getD o[i] [] = ra at *
      generalize o[i] = j at *
      (repeat' (conv => whnf); first | refine ⟨i, _, rfl, gB, ?_⟩ | refine ⟨j, _, rfl, gA, ?_⟩ | refine ⟨i, _, rfl, go, ?_⟩ | (refine aC (fun _ => ?_) (fun _ => ?_) <;> try (exfalso; omega)) | refine aS ?_ | refine aG ?_ | refine aD ?_ | refine aH ?_ | refine aP_Lf1 ?_ | refine aI ?_ | refine aJ ?_ | refine aW (.qs [0, 1, 2, 3, 4, 5, 6, 7, 8, 9, 10, 11, 12] (.l 13 [] (.qs [14] .nil) .no)) ?_ | (refine aK [] (cI) ?_) | fail); all_goals try (conv => whnf)
      all_goals first
        | exact absurd rfl (by assumption)
        | exact ⟨i + 1, [0, 1, 2], by omega, by omega, by (exact aL)⟩
    · obtain rfl : i = w.length := by omega
      (repeat' (conv => whnf); first | (refine aC (fun _ => ?_) (fun _ => ?_) <;> try (exfalso; omega)) | refine aS ?_ | refine aG ?_ | refine aD ?_ | refine aH ?_ | refine aP_Lf1 ?_ | refine aI ?_ | refine aJ ?_ | refine aW (.qs [0, 1, 2, 3, 4, 5, 6, 7, 8, 9, 10, 11, 12] (.l 13 [] (.qs [14] .nil) .no)) ?_ | (refine aK [] (sane_ok) ?_) | fail); all_goals try (conv => whnf)
      rfl
end Go.Proofs.YtaomhdljcdadaaaGreat
