/-
  A text of the proofs of this seat: lemmas that the statements' proofs use; it states nothing of the program by itself beyond the contracts that its theorems bear. Conditions: those that stand in each theorem. Its short name: D20.
-/
import Derived.Test.YtabbnnfobjifiaaD19
import Derived.Test.YtabbnnfobjifiaaSxC
set_option linter.unusedVariables false
set_option linter.unusedSimpArgs false
namespace Go.Proofs.Ytabbnnfobjifiaa
open Go.Sx Go.Pk Go.Cv Go.St
set_option maxRecDepth 200000
set_option maxHeartbeats 2000000
--APPX pks_len, Go.Cv.vals_len
def crow (c : List Int × Int × Int) : List SV := [.psl 1 (ints c.1), i64 c.2.1, i64 c.2.2]
def crows (l : List (List Int × Int × Int)) : List (List SV) := l.map crow
def prows (X : List (List Pk)) : List (List SV) := X.map fun p => [.psl 3 (pks p)]
structure GI (y : List (List Int × Int × Int) × Nat) : Prop where
  n : y.1.length = 4
  b : ∀ c ∈ y.1, c.1.length ≤ 1000
  k : y.2 ≤ 2000
theorem GI.get {y : List (List Int × Int × Int) × Nat} (h : GI y) {i : Nat} (hi : i < 4) : ∃ c : List Int × Int × Int, (crows y.1)[i]? = some (crow c) ∧ c.1.length ≤ 1000 := by
  have hl : i < y.1.length := by have := h.n; omega
  exact ⟨y.1[i], by simp [crows, List.getElem?_map, List.getElem?_eq_getElem hl], h.b _ (List.getElem_mem hl)⟩
theorem aP_D20 {A B K : Prop} (k : K) (a : A := by (simp only [zA, zT, zD, zC, zN, ints_len, zR, pks_len, Go.Cv.vals_len]; omega)) (b : B := by (simp only [zA, zT, zD, zC, zN, ints_len, zR, pks_len, Go.Cv.vals_len]; omega)) : (A ∧ B) ∧ K := ⟨⟨a, b⟩, k⟩
theorem AnswersC_ok (raw : List Pk) (hr : raw.length ≤ 9223372036854775807) (vs : List Int) (p q flow n : Int) (l : List Int) (hl : l.length ≤ 9223372036854775807) : Ctr Try.prog 8 [.psl 3 (pks raw), crv vs p q, i64 flow, i64 n, .psl 1 (ints l)] [] (fun r o => r = .bl true) := by
  refine fn_intro (E := env 0) tys_ok rfl rfl rfl Try.func8 (by kernel_rfl) rfl (by kernel_rfl) ?_
  have hL : (l.take 2000).length ≤ 2000 := by rw [List.length_take]; omega
  have hrl := pks_len raw
  (repeat' (conv => whnf); first | (refine aC (fun _ => ?_) (fun _ => ?_) <;> try (exfalso; omega)) | refine aS ?_ | refine aG ?_ | refine aD ?_ | refine aH ?_ | refine aP_D20 ?_ | refine aI ?_ | refine aJ ?_ | refine aW (.qs [0, 1, 2, 4, 5, 9] (.l 3 [5, 1, 0] (.l 6 [1, 0] (.l 7 [] (.qs [8] .nil) .no) .no) .no)) ?_ | refine aW (.qs [0, 1, 2, 3, 4, 5, 6, 7, 8, 9, 10, 11, 12, 13, 14, 15, 16, 17, 18, 19, 20, 21, 23, 24, 25] (.l 22 [25] (.l 26 [] (.qs [27, 28] .nil) .no) .no)) ?_ | (refine aK [] (Small_ok vs p q) ?_) | (refine aK [] (New_ok l hl) ?_) | (refine aK [] (awake14_ok) ?_) | fail); all_goals try (conv => whnf)
  · exact rfl
  · exact rfl
  have hr70 : raw.length ≤ 70 := by omega
  have hv8 := Classical.not_not.1 ‹¬¬(vs.length : Int) ≤ 800›
  refine CallOb.mk [1] (Traffic_ok _ 0 hL (by omega) 9 (by omega) 3 12 (by omega) (by omega)) rfl (ImpL.refl _) rfl rfl ?_
  rintro _ _ ⟨⟨⟨pp, tt⟩, k1⟩, ⟨⟨hT, hTl⟩, hk1⟩, rfl, rfl⟩
  dsimp only at hT hTl hk1 ⊢
  (repeat' (conv => whnf); first | (refine aC (fun _ => ?_) (fun _ => ?_) <;> try (exfalso; omega)) | refine aS ?_ | refine aG ?_ | refine aD ?_ | refine aH ?_ | refine aP_D20 ?_ | refine aI ?_ | refine aJ ?_ | refine aW (.qs [0, 1, 2, 4, 5, 9] (.l 3 [5, 1, 0] (.l 6 [1, 0] (.l 7 [] (.qs [8] .nil) .no) .no) .no)) ?_ | refine aW (.qs [0, 1, 2, 3, 4, 5, 6, 7, 8, 9, 10, 11, 12, 13, 14, 15, 16, 17, 18, 19, 20, 21, 23, 24, 25] (.l 22 [25] (.l 26 [] (.qs [27, 28] .nil) .no) .no)) ?_ | fail); all_goals try (conv => whnf)
  refine CallOb.mk [1] (Ctr.impE (Zero_ok _ k1 hL hk1 6 (by omega) (by omega))) rfl (ImpL.refl _) rfl rfl ?_
  rintro _ _ ⟨⟨f, k2⟩, ⟨hf, hk2⟩, rfl, rfl⟩
  dsimp only at hf hk2 ⊢
  have vf := hf.v
  have hn1 := vf.n1
  have hn2 := vf.n2
  have hfb : ∀ j < f.1.length, -4611686018427387904 ≤ f.1.getD j 0 ∧ f.1.getD j 0 ≤ 4611686018427387904 := by
    intro j hj
    have := vf.v j hj
    simp only [INF] at this; omega
  (repeat' (conv => whnf); first | refine LitOb.ful ?_ | (refine aC (fun _ => ?_) (fun _ => ?_) <;> try (exfalso; omega)) | refine aS ?_ | refine aG ?_ | refine aD ?_ | refine aH ?_ | refine aP_D20 ?_ | refine aI ?_ | refine aJ ?_ | refine aW (.qs [0, 1, 2, 4, 5, 9] (.l 3 [5, 1, 0] (.l 6 [1, 0] (.l 7 [] (.qs [8] .nil) .no) .no) .no)) ?_ | refine aW (.qs [0, 1, 2, 3, 4, 5, 6, 7, 8, 9, 10, 11, 12, 13, 14, 15, 16, 17, 18, 19, 20, 21, 23, 24, 25] (.l 22 [25] (.l 26 [] (.qs [27, 28] .nil) .no) .no)) ?_ | fail); all_goals try (conv => whnf)
  refine CallOb.mk [1] (Broken_ok _ k2 hL hk2 pp (by omega)) rfl (ImpL.refl _) rfl rfl ?_
  rintro _ _ ⟨⟨br, k3⟩, ⟨hbr, hk3⟩, rfl, rfl⟩
  dsimp only at hbr hk3 ⊢
  (repeat' (conv => whnf); first | refine LitOb.ful ?_ | (refine aC (fun _ => ?_) (fun _ => ?_) <;> try (exfalso; omega)) | refine aS ?_ | refine aG ?_ | refine aD ?_ | refine aH ?_ | refine aP_D20 ?_ | refine aI ?_ | refine aJ ?_ | refine aW (.qs [0, 1, 2, 4, 5, 9] (.l 3 [5, 1, 0] (.l 6 [1, 0] (.l 7 [] (.qs [8] .nil) .no) .no) .no)) ?_ | refine aW (.qs [0, 1, 2, 3, 4, 5, 6, 7, 8, 9, 10, 11, 12, 13, 14, 15, 16, 17, 18, 19, 20, 21, 23, 24, 25] (.l 22 [25] (.l 26 [] (.qs [27, 28] .nil) .no) .no)) ?_ | fail); all_goals try (conv => whnf)
  obtain ⟨X, hX⟩ : ∃ X : List (List Pk), X = [pp, raw, br] := ⟨_, rfl⟩
  have hXr : prows X = [[.psl 3 (pks pp)], [.psl 3 (pks raw)], [.psl 3 (pks br)]] := by rw [hX]; rfl
  have hXl : (prows X).length = 3 := by rw [hXr]; rfl
  have hXg : ∀ i : Nat, i < 3 → ∃ x : List Pk, (prows X)[i]? = some [.psl 3 (pks x)] ∧ x.length ≤ 100 := fun i hi => by
    rw [hXr]
    match i, hi with
    | 0, _ => exact ⟨pp, rfl, by omega⟩
    | 1, _ => exact ⟨raw, rfl, by omega⟩
    | 2, _ => exact ⟨br, rfl, by omega⟩
  refine LoopOb.mk (Y := Nat × Nat) (st := fun y => ⟨[(67, i64 y.1), (66, i64 3), (65, .ful 1 (prows X)), (13, .ptr 2 0), (11, .ptr 1 0), (6, .ptr 0 0), (2, i64 flow), (3, i64 n)], [.box [.psl 1 (ints vs), i64 p, i64 q], src (l.take 2000) y.2, .box [.psl 1 (ints f.1), i64 f.2.1, i64 f.2.2]]⟩)
    (inv := fun y => y.1 ≤ 3 ∧ y.2 ≤ 2000) (fun y => 3 - y.1) (0, k3) [0, 1, 2] ⟨by simp, hk3⟩ (by rw [hXr]; (exact aL)) ?_
  clear hX hXr
  rintro ⟨i, k⟩ ⟨hi, hk⟩
  dsimp only at hi hk ⊢
  (repeat' (conv => whnf); first | refine aS ?_ | refine aG ?_ | refine aD ?_ | refine aH ?_ | refine aP_D20 ?_ | refine aI ?_ | refine aJ ?_ | refine aW (.qs [0, 1, 2, 4, 5, 9] (.l 3 [5, 1, 0] (.l 6 [1, 0] (.l 7 [] (.qs [8] .nil) .no) .no) .no)) ?_ | refine aW (.qs [0, 1, 2, 3, 4, 5, 6, 7, 8, 9, 10, 11, 12, 13, 14, 15, 16, 17, 18, 19, 20, 21, 23, 24, 25] (.l 22 [25] (.l 26 [] (.qs [27, 28] .nil) .no) .no)) ?_ | fail); all_goals try (conv => whnf)
  refine CondOb.mk (fun hlt => ?_) (fun hlt => ?_)
  · obtain ⟨x, hx, hxl⟩ := hXg i (by omega)
    (repeat' (conv => whnf); first | refine LitOb.ful ?_ | refine ⟨i, _, rfl, hx, ?_⟩ | (refine aC (fun _ => ?_) (fun _ => ?_) <;> try (exfalso; omega)) | refine aS ?_ | refine aG ?_ | refine aD ?_ | refine aH ?_ | refine aP_D20 ?_ | refine aI ?_ | refine aJ ?_ | refine aW (.qs [0, 1, 2, 4, 5, 9] (.l 3 [5, 1, 0] (.l 6 [1, 0] (.l 7 [] (.qs [8] .nil) .no) .no) .no)) ?_ | refine aW (.qs [0, 1, 2, 3, 4, 5, 6, 7, 8, 9, 10, 11, 12, 13, 14, 15, 16, 17, 18, 19, 20, 21, 23, 24, 25] (.l 22 [25] (.l 26 [] (.qs [27, 28] .nil) .no) .no)) ?_ | (refine CallOb.mk [1] (Bent_ok _ _ hL (by assumption) f.1 f.2.1 f.2.2 (by omega) (by omega) hfb) rfl (ImpL.refl _) rfl rfl ?_; rintro _ _ ⟨⟨b, kb⟩, ⟨hb, hkb⟩, rfl, rfl⟩; dsimp only at hb hkb ⊢) | (refine CallOb.mk [1] (Ctr.impE (Curve_ok _ _ hL (by assumption) 5 (by omega) (by omega))) rfl (ImpL.refl _) rfl rfl ?_; rintro _ _ ⟨⟨c4, kc⟩, ⟨hc4, hkc⟩, rfl, rfl⟩; dsimp only at hc4 hkc ⊢) | fail); all_goals try (conv => whnf)
    have hc4n := hc4.n
    obtain ⟨gs, hgs⟩ : ∃ gs : List (List Int × Int × Int), gs = [(f.1, (f.2.1 : Int), f.2.2), (vs, p, q), (c4.1, (c4.2.1 : Int), c4.2.2), b] := ⟨_, rfl⟩
    have hGr : crows gs = [[.psl 1 (ints f.1), i64 f.2.1, i64 f.2.2], [.psl 1 (ints vs), i64 p, i64 q], [.psl 1 (ints c4.1), i64 c4.2.1, i64 c4.2.2], [.psl 1 (ints b.1), i64 b.2.1, i64 b.2.2]] := by rw [hgs]; rfl
    have hGg := fun i h => GI.get (y := (gs, 0)) ⟨by rw [hgs]; rfl, by
      intro c hc
      rw [hgs] at hc
      simp only [List.mem_cons, List.not_mem_nil, or_false] at hc
      rcases hc with rfl | rfl | rfl | rfl <;> (try dsimp only) <;> omega, by simp⟩ (i := i) h
    have hGl : (crows gs).length = 4 := by rw [hGr]; rfl
    dsimp only at hGg
    refine LoopOb.mk (Y := Nat × Nat) (st := fun y => ⟨[(80, i64 y.1), (79, i64 4), (78, .ful 3 (crows gs)), (15, .psl 3 (pks x)), (67, i64 i), (66, i64 3), (65, .ful 1 (prows X)), (13, .ptr 2 0), (11, .ptr 1 0), (6, .ptr 0 0), (2, i64 flow), (3, i64 n)], [.box [.psl 1 (ints vs), i64 p, i64 q], src (l.take 2000) y.2, .box [.psl 1 (ints f.1), i64 f.2.1, i64 f.2.2]]⟩)
      (inv := fun y => y.1 ≤ 4 ∧ y.2 ≤ 2000) (fun y => 4 - y.1) (0, kb) [0, 1, 2] ⟨by simp, hkb⟩ (by rw [hGr]; (exact aL)) ?_
    clear hGr hgs
    rintro ⟨j, kj⟩ ⟨hj, hkj⟩
    dsimp only at hj hkj ⊢
    (repeat' (conv => whnf); first | refine aS ?_ | refine aG ?_ | refine aD ?_ | refine aH ?_ | refine aP_D20 ?_ | refine aI ?_ | refine aJ ?_ | refine aW (.qs [0, 1, 2, 4, 5, 9] (.l 3 [5, 1, 0] (.l 6 [1, 0] (.l 7 [] (.qs [8] .nil) .no) .no) .no)) ?_ | refine aW (.qs [0, 1, 2, 3, 4, 5, 6, 7, 8, 9, 10, 11, 12, 13, 14, 15, 16, 17, 18, 19, 20, 21, 23, 24, 25] (.l 22 [25] (.l 26 [] (.qs [27, 28] .nil) .no) .no)) ?_ | fail); all_goals try (conv => whnf)
    refine CondOb.mk (fun hlj => ?_) (fun hlj => ?_)
    · obtain ⟨⟨gv, gp', gi⟩, hg, hgl⟩ := hGg j (by omega)
      dsimp only at hgl
      (repeat' (conv => whnf); first | refine LitOb.ful ?_ | refine ⟨j, _, rfl, hg, ?_⟩ | (refine aC (fun _ => ?_) (fun _ => ?_) <;> try (exfalso; omega)) | refine aS ?_ | refine aG ?_ | refine aD ?_ | refine aH ?_ | refine aP_D20 ?_ | refine aI ?_ | refine aJ ?_ | refine aW (.qs [0, 1, 2, 4, 5, 9] (.l 3 [5, 1, 0] (.l 6 [1, 0] (.l 7 [] (.qs [8] .nil) .no) .no) .no)) ?_ | refine aW (.qs [0, 1, 2, 3, 4, 5, 6, 7, 8, 9, 10, 11, 12, 13, 14, 15, 16, 17, 18, 19, 20, 21, 23, 24, 25] (.l 22 [25] (.l 26 [] (.qs [27, 28] .nil) .no) .no)) ?_ | fail); all_goals try (conv => whnf)
      refine CallOb.mk [1] (Pick_ok _ kj hL hkj [flow, -2, -1, 0, 0, 1, 1] (by simp) (by simp)) rfl ⟨Imp.refl _, Imp.fulp rfl, trivial⟩ rfl rfl ?_
      rintro _ _ ⟨⟨kf, k5⟩, ⟨_, hk5⟩, rfl, rfl⟩
      dsimp only at hk5 ⊢
      have cVio := cVioG_ok x (by omega) kf gv gp' gi (by omega)
      have rVio := rVioG_ok x (by omega) kf gv gp' gi (by omega)
      have cKee := cKeepsG_ok x (by omega) kf gv gp' gi (by omega)
      have rKee := rKeepsG_ok x (by omega) kf gv gp' gi (by omega)
      have cPo := cPoliceG_ok x (by omega) kf gv gp' gi (by omega)
      have rPo := rPoliceG_ok x (by omega) kf gv gp' gi (by omega)
      have cSh := cShapeG_ok x (by omega) kf gv gp' gi (by omega)
      have rSh := rShapeG_ok x (by omega) kf gv gp' gi (by omega)
      (repeat' (conv => whnf); first | (refine aC (fun _ => ?_) (fun _ => ?_) <;> try (exfalso; omega)) | refine aS ?_ | refine aG ?_ | refine aD ?_ | refine aH ?_ | refine aP_D20 ?_ | refine aI ?_ | refine aJ ?_ | refine aW (.qs [0, 1, 2, 4, 5, 9] (.l 3 [5, 1, 0] (.l 6 [1, 0] (.l 7 [] (.qs [8] .nil) .no) .no) .no)) ?_ | refine aW (.qs [0, 1, 2, 3, 4, 5, 6, 7, 8, 9, 10, 11, 12, 13, 14, 15, 16, 17, 18, 19, 20, 21, 23, 24, 25] (.l 22 [25] (.l 26 [] (.qs [27, 28] .nil) .no) .no)) ?_ | fail); all_goals try (conv => whnf)
      refine CallOb.mk [] cVio rfl (ImpL.refl _) rfl rfl ?_
      rintro _ _ ⟨⟨⟨v1, v2, v3⟩, v4⟩, hVi, rfl, rfl⟩
      have rVio := Ctr.uq rVio (fun _ _ => VioG.uniq) hVi
      have cKee := Ctr.uq cKee (fun _ _ => VioG.uniq) hVi
      have rKee := Ctr.uq rKee (fun _ _ => VioG.uniq) hVi
      dsimp only at rVio cKee rKee ⊢
      clear hVi cVio
      generalize (v4 = 0 ∧ v3 = false) = KP at *
      cases v3
      all_goals
        (repeat' (conv => whnf); first | (refine aC (fun _ => ?_) (fun _ => ?_) <;> try (exfalso; omega)) | refine aS ?_ | refine aG ?_ | refine aD ?_ | refine aH ?_ | refine aP_D20 ?_ | refine aI ?_ | refine aJ ?_ | refine aW (.qs [0, 1, 2, 4, 5, 9] (.l 3 [5, 1, 0] (.l 6 [1, 0] (.l 7 [] (.qs [8] .nil) .no) .no) .no)) ?_ | refine aW (.qs [0, 1, 2, 3, 4, 5, 6, 7, 8, 9, 10, 11, 12, 13, 14, 15, 16, 17, 18, 19, 20, 21, 23, 24, 25] (.l 22 [25] (.l 26 [] (.qs [27, 28] .nil) .no) .no)) ?_ | (refine aK [] rVio ?_) | (refine aK [] cKee ?_) | (refine aK [] rKee ?_) | fail); all_goals try (conv => whnf)
        all_goals try exact absurd Iff.rfl (by assumption)
        refine CallOb.mk [] cPo rfl (ImpL.refl _) rfl rfl ?_
        rintro _ _ ⟨⟨q1, q2, q3⟩, hPo, rfl, rfl⟩
        have rPo := Ctr.uq rPo (fun _ _ => PolG.uniq) hPo
        obtain ⟨ql1, ql2⟩ := hPo.len
        dsimp only at ql1 ql2 rPo ⊢
        have cSm := pSame_ok q1 q1 (by omega)
        have cIn := rInts_ok q2 q2 (by omega)
        clear hPo cPo cKee rKee rVio
        (repeat' (conv => whnf); first | (refine aC (fun _ => ?_) (fun _ => ?_) <;> try (exfalso; omega)) | refine aS ?_ | refine aG ?_ | refine aD ?_ | refine aH ?_ | refine aP_D20 ?_ | refine aI ?_ | refine aJ ?_ | refine aW (.qs [0, 1, 2, 4, 5, 9] (.l 3 [5, 1, 0] (.l 6 [1, 0] (.l 7 [] (.qs [8] .nil) .no) .no) .no)) ?_ | refine aW (.qs [0, 1, 2, 3, 4, 5, 6, 7, 8, 9, 10, 11, 12, 13, 14, 15, 16, 17, 18, 19, 20, 21, 23, 24, 25] (.l 22 [25] (.l 26 [] (.qs [27, 28] .nil) .no) .no)) ?_ | (refine aK [] rPo ?_) | (refine aK [] cSm ?_) | (refine aK [] cIn ?_) | fail); all_goals try (conv => whnf)
        all_goals try exact absurd rfl (by assumption)
        refine CallOb.mk [] cSh rfl (ImpL.refl _) rfl rfl ?_
        rintro _ _ ⟨⟨s1, s2⟩, hSh, rfl, rfl⟩
        have rSh := Ctr.uq rSh (fun _ _ => ShaG.uniq) hSh
        have sl1 := hSh.len
        dsimp only at sl1 rSh ⊢
        have cSm := pSame_ok s1 s1 (by omega)
        clear hSh cSh rPo cIn
        (repeat' (conv => whnf); first | (refine aC (fun _ => ?_) (fun _ => ?_) <;> try (exfalso; omega)) | refine aS ?_ | refine aG ?_ | refine aD ?_ | refine aH ?_ | refine aP_D20 ?_ | refine aI ?_ | refine aJ ?_ | refine aW (.qs [0, 1, 2, 4, 5, 9] (.l 3 [5, 1, 0] (.l 6 [1, 0] (.l 7 [] (.qs [8] .nil) .no) .no) .no)) ?_ | refine aW (.qs [0, 1, 2, 3, 4, 5, 6, 7, 8, 9, 10, 11, 12, 13, 14, 15, 16, 17, 18, 19, 20, 21, 23, 24, 25] (.l 22 [25] (.l 26 [] (.qs [27, 28] .nil) .no) .no)) ?_ | (refine aK [] rSh ?_) | (refine aK [] cSm ?_) | fail); all_goals try (conv => whnf)
        all_goals try exact absurd rfl (by assumption)
        exact ⟨(j + 1, k5), [0, 1, 2], ⟨by dsimp only; omega, hk5⟩, by dsimp only; omega, by (exact aL)⟩
    · have cLe := fun kf => cLeastG_ok x (by omega) kf
      have rLe := fun kf => rLeastG_ok x (by omega) kf
      (repeat' (conv => whnf); first | refine LitOb.ful ?_ | (refine aC (fun _ => ?_) (fun _ => ?_) <;> try (exfalso; omega)) | refine aS ?_ | refine aG ?_ | refine aD ?_ | refine aH ?_ | refine aP_D20 ?_ | refine aI ?_ | refine aJ ?_ | refine aW (.qs [0, 1, 2, 4, 5, 9] (.l 3 [5, 1, 0] (.l 6 [1, 0] (.l 7 [] (.qs [8] .nil) .no) .no) .no)) ?_ | refine aW (.qs [0, 1, 2, 3, 4, 5, 6, 7, 8, 9, 10, 11, 12, 13, 14, 15, 16, 17, 18, 19, 20, 21, 23, 24, 25] (.l 22 [25] (.l 26 [] (.qs [27, 28] .nil) .no) .no)) ?_ | fail); all_goals try (conv => whnf)
      refine CallOb.mk [1] (Pick_ok _ kj hL hkj [flow, -2, -1, 0, 0] (by simp) (by simp)) rfl ⟨Imp.refl _, Imp.fulp rfl, trivial⟩ rfl rfl ?_
      rintro _ _ ⟨⟨kf, k5⟩, ⟨_, hk5⟩, rfl, rfl⟩
      dsimp only at hk5 ⊢
      have cLe := cLe kf
      have rLe := rLe kf
      (repeat' (conv => whnf); first | (refine aC (fun _ => ?_) (fun _ => ?_) <;> try (exfalso; omega)) | refine aS ?_ | refine aG ?_ | refine aD ?_ | refine aH ?_ | refine aP_D20 ?_ | refine aI ?_ | refine aJ ?_ | refine aW (.qs [0, 1, 2, 4, 5, 9] (.l 3 [5, 1, 0] (.l 6 [1, 0] (.l 7 [] (.qs [8] .nil) .no) .no) .no)) ?_ | refine aW (.qs [0, 1, 2, 3, 4, 5, 6, 7, 8, 9, 10, 11, 12, 13, 14, 15, 16, 17, 18, 19, 20, 21, 23, 24, 25] (.l 22 [25] (.l 26 [] (.qs [27, 28] .nil) .no) .no)) ?_ | fail); all_goals try (conv => whnf)
      refine CallOb.mk [] cLe rfl (ImpL.refl _) rfl rfl ?_
      rintro _ _ ⟨⟨w1, w2, w3, w4⟩, hLe, rfl, rfl⟩
      have rLe := Ctr.uq rLe (fun _ _ => LeaG.uniq) hLe
      have wl := hLe.len
      dsimp only at wl rLe ⊢
      have cSm := Same_ok w1 w1 w2 w3 w2 w3 (by omega)
      clear hLe cLe
      (repeat' (conv => whnf); first | (refine aC (fun _ => ?_) (fun _ => ?_) <;> try (exfalso; omega)) | refine aS ?_ | refine aG ?_ | refine aD ?_ | refine aH ?_ | refine aP_D20 ?_ | refine aI ?_ | refine aJ ?_ | refine aW (.qs [0, 1, 2, 4, 5, 9] (.l 3 [5, 1, 0] (.l 6 [1, 0] (.l 7 [] (.qs [8] .nil) .no) .no) .no)) ?_ | refine aW (.qs [0, 1, 2, 3, 4, 5, 6, 7, 8, 9, 10, 11, 12, 13, 14, 15, 16, 17, 18, 19, 20, 21, 23, 24, 25] (.l 22 [25] (.l 26 [] (.qs [27, 28] .nil) .no) .no)) ?_ | (refine aK [] rLe ?_) | (refine aK [] cSm ?_) | fail); all_goals try (conv => whnf)
      all_goals try exact absurd (And.intro rfl (And.intro rfl rfl) : w1 = w1 ∧ w2 = w2 ∧ w3 = w3) (by assumption)
      exact ⟨(i + 1, k5), [0, 1, 2], ⟨by dsimp only; omega, hk5⟩, by dsimp only; omega, by (exact aL)⟩
  · (repeat' (conv => whnf); first | (refine aC (fun _ => ?_) (fun _ => ?_) <;> try (exfalso; omega)) | refine aS ?_ | refine aG ?_ | refine aD ?_ | refine aH ?_ | refine aP_D20 ?_ | refine aI ?_ | refine aJ ?_ | refine aW (.qs [0, 1, 2, 4, 5, 9] (.l 3 [5, 1, 0] (.l 6 [1, 0] (.l 7 [] (.qs [8] .nil) .no) .no) .no)) ?_ | refine aW (.qs [0, 1, 2, 3, 4, 5, 6, 7, 8, 9, 10, 11, 12, 13, 14, 15, 16, 17, 18, 19, 20, 21, 23, 24, 25] (.l 22 [25] (.l 26 [] (.qs [27, 28] .nil) .no) .no)) ?_ | fail); all_goals try (conv => whnf)
    refine DrawOb.cut [] (.qs [0, 1, 5, 11] (.l 2 [1, 0] (.qs [3] (.l 4 [1, 0] (.l 6 [1, 0] (.qs [7, 8] (.l 9 [] (.qs [10] .nil) .no)) .no) (.l 6 [1, 0] (.qs [7] (.l 4 [1, 0] (.qs [8] (.l 9 [] (.qs [10] .nil) .no)) .no)) .no))) (.l 4 [1, 0] (.l 2 [1, 0] (.qs [3] (.l 6 [1, 0] (.qs [7, 8] (.l 9 [] (.qs [10] .nil) .no)) .no)) (.l 6 [1, 0] (.qs [7, 8] (.l 2 [1, 0] (.qs [3] (.l 9 [] (.qs [10] .nil) .no)) .no)) .no)) (.l 6 [1, 0] (.qs [7] (.l 2 [1, 0] (.qs [3] (.l 4 [1, 0] (.qs [8] (.l 9 [] (.qs [10] .nil) .no)) .no)) (.l 4 [1, 0] (.qs [8] (.l 2 [1, 0] (.qs [3] (.l 9 [] (.qs [10] .nil) .no)) .no)) .no))) .no)))) (Y := Nat × Int) (st := fun y => ⟨[(227, i64 0), (226, i64 4), (225, .psl 3 [[.psl 1 (ints f.1), i64 f.2.1, i64 f.2.2], [.psl 1 (ints vs), i64 p, i64 q], [.psl 1 (ints [0, 30, 34]), i64 1, i64 3], [.psl 1 (ints [0, 12]), i64 y.2, i64 12]]), (11, .ptr 1 0), (6, .ptr 0 0), (2, i64 flow), (3, i64 n)], [.box [.psl 1 (ints vs), i64 p, i64 q], src (l.take 2000) y.1, .box [.psl 1 (ints f.1), i64 f.2.1, i64 f.2.2]]⟩) (inv := fun y => y.1 ≤ 2000) (by decide +kernel) ?_ ?_
    · (repeat' (conv => whnf); first | refine LitOb.ful ?_ | (refine aC (fun _ => ?_) (fun _ => ?_) <;> try (exfalso; omega)) | refine aS ?_ | refine aG ?_ | refine aD ?_ | refine aH ?_ | refine aP_D20 ?_ | refine aI ?_ | refine aJ ?_ | refine aW (.qs [0, 1, 2, 4, 5, 9] (.l 3 [5, 1, 0] (.l 6 [1, 0] (.l 7 [] (.qs [8] .nil) .no) .no) .no)) ?_ | refine aW (.qs [0, 1, 2, 3, 4, 5, 6, 7, 8, 9, 10, 11, 12, 13, 14, 15, 16, 17, 18, 19, 20, 21, 23, 24, 25] (.l 22 [25] (.l 26 [] (.qs [27, 28] .nil) .no) .no)) ?_ | refine And.intro ?_ ?_ | (refine CallOb.mk [1] (N_ok _ k hL hk 2 (by omega) (by omega)) rfl (ImpL.refl _) rfl rfl ?_; rintro _ _ ⟨⟨w, kw⟩, ⟨hw1, hw2, hkw⟩, rfl, rfl⟩; dsimp only at hw1 hw2 hkw ⊢) | fail); all_goals try (conv => whnf)
      all_goals
        refine ⟨(kw, 1 + w), [0, 1, 2], hkw, ?_⟩
        refine Le.mk (by kernel_rfl) ?_ ?_ <;> repeat' (first | exact True.intro | exact Imp.refl _ | exact Imp.any _ | exact Imp.fulp rfl | refine Imp.fulr ?_ | refine And.intro ?_ ?_ | exact rfl)
    rintro ⟨k0, gp⟩ hk0
    dsimp only at hk0 ⊢
    obtain ⟨gs, hgs⟩ : ∃ gs : List (List Int × Int × Int), gs = [(f.1, (f.2.1 : Int), f.2.2), (vs, p, q), ([0, 30, 34], 1, 3), ([0, 12], gp, 12)] := ⟨_, rfl⟩
    have hGr : crows gs = [[.psl 1 (ints f.1), i64 f.2.1, i64 f.2.2], [.psl 1 (ints vs), i64 p, i64 q], [.psl 1 (ints [0, 30, 34]), i64 1, i64 3], [.psl 1 (ints [0, 12]), i64 gp, i64 12]] := by rw [hgs]; rfl
    have hGg := fun i h => GI.get (y := (gs, 0)) ⟨by rw [hgs]; rfl, by
      intro c hc
      rw [hgs] at hc
      simp only [List.mem_cons, List.not_mem_nil, or_false] at hc
      rcases hc with rfl | rfl | rfl | rfl <;> simp <;> omega, by simp⟩ (i := i) h
    dsimp only at hGg
    (repeat' (conv => whnf); first | (refine aC (fun _ => ?_) (fun _ => ?_) <;> try (exfalso; omega)) | refine aS ?_ | refine aG ?_ | refine aD ?_ | refine aH ?_ | refine aP_D20 ?_ | refine aI ?_ | refine aJ ?_ | refine aW (.qs [0, 1, 2, 4, 5, 9] (.l 3 [5, 1, 0] (.l 6 [1, 0] (.l 7 [] (.qs [8] .nil) .no) .no) .no)) ?_ | refine aW (.qs [0, 1, 2, 3, 4, 5, 6, 7, 8, 9, 10, 11, 12, 13, 14, 15, 16, 17, 18, 19, 20, 21, 23, 24, 25] (.l 22 [25] (.l 26 [] (.qs [27, 28] .nil) .no) .no)) ?_ | fail); all_goals try (conv => whnf)
    refine LoopOb.mk (Y := Nat × Nat) (st := fun y => ⟨[(227, i64 y.1), (226, i64 4), (225, .psl 3 (crows gs)), (11, .ptr 1 0), (6, .ptr 0 0), (2, i64 flow), (3, i64 n)], [.box [.psl 1 (ints vs), i64 p, i64 q], src (l.take 2000) y.2, .box [.psl 1 (ints f.1), i64 f.2.1, i64 f.2.2]]⟩)
      (inv := fun y => y.1 ≤ 4 ∧ y.2 ≤ 2000) (fun y => 4 - y.1) (0, k0) [0, 1, 2] ⟨by simp, hk0⟩ (by rw [hGr]; (exact aL)) ?_
    clear hGr hgs
    rintro ⟨j, kj⟩ ⟨hj, hkj⟩
    dsimp only at hj hkj ⊢
    (repeat' (conv => whnf); first | refine aS ?_ | refine aG ?_ | refine aD ?_ | refine aH ?_ | refine aP_D20 ?_ | refine aI ?_ | refine aJ ?_ | refine aW (.qs [0, 1, 2, 4, 5, 9] (.l 3 [5, 1, 0] (.l 6 [1, 0] (.l 7 [] (.qs [8] .nil) .no) .no) .no)) ?_ | refine aW (.qs [0, 1, 2, 3, 4, 5, 6, 7, 8, 9, 10, 11, 12, 13, 14, 15, 16, 17, 18, 19, 20, 21, 23, 24, 25] (.l 22 [25] (.l 26 [] (.qs [27, 28] .nil) .no) .no)) ?_ | fail); all_goals try (conv => whnf)
    refine CondOb.mk (fun hlj => ?_) (fun hlj => ?_)
    · obtain ⟨⟨gv, gp', gi⟩, hg, hgl⟩ := hGg j (by omega)
      dsimp only at hgl
      (repeat' (conv => whnf); first | refine LitOb.ful ?_ | refine ⟨j, _, rfl, hg, ?_⟩ | (refine aC (fun _ => ?_) (fun _ => ?_) <;> try (exfalso; omega)) | refine aS ?_ | refine aG ?_ | refine aD ?_ | refine aH ?_ | refine aP_D20 ?_ | refine aI ?_ | refine aJ ?_ | refine aW (.qs [0, 1, 2, 4, 5, 9] (.l 3 [5, 1, 0] (.l 6 [1, 0] (.l 7 [] (.qs [8] .nil) .no) .no) .no)) ?_ | refine aW (.qs [0, 1, 2, 3, 4, 5, 6, 7, 8, 9, 10, 11, 12, 13, 14, 15, 16, 17, 18, 19, 20, 21, 23, 24, 25] (.l 22 [25] (.l 26 [] (.qs [27, 28] .nil) .no) .no)) ?_ | fail); all_goals try (conv => whnf)
      refine CallOb.mk [1] (Pick_ok _ kj hL hkj [flow, 0, 1, -1, 59, 60] (by simp) (by simp)) rfl ⟨Imp.refl _, Imp.fulp rfl, trivial⟩ rfl rfl ?_
      rintro _ _ ⟨⟨na, ka⟩, ⟨_, hka⟩, rfl, rfl⟩
      dsimp only at hka ⊢
      (repeat' (conv => whnf); first | refine LitOb.ful ?_ | (refine aC (fun _ => ?_) (fun _ => ?_) <;> try (exfalso; omega)) | refine aS ?_ | refine aG ?_ | refine aD ?_ | refine aH ?_ | refine aP_D20 ?_ | refine aI ?_ | refine aJ ?_ | refine aW (.qs [0, 1, 2, 4, 5, 9] (.l 3 [5, 1, 0] (.l 6 [1, 0] (.l 7 [] (.qs [8] .nil) .no) .no) .no)) ?_ | refine aW (.qs [0, 1, 2, 3, 4, 5, 6, 7, 8, 9, 10, 11, 12, 13, 14, 15, 16, 17, 18, 19, 20, 21, 23, 24, 25] (.l 22 [25] (.l 26 [] (.qs [27, 28] .nil) .no) .no)) ?_ | fail); all_goals try (conv => whnf)
      refine CallOb.mk [1] (Pick_ok _ ka hL hka [1, 5, 6, 0, 1500, 1501, n] (by simp) (by simp)) rfl ⟨Imp.refl _, Imp.fulp rfl, trivial⟩ rfl rfl ?_
      rintro _ _ ⟨⟨nb, kb⟩, ⟨_, hkb⟩, rfl, rfl⟩
      dsimp only at hkb ⊢
      (repeat' (conv => whnf); first | refine LitOb.ful ?_ | (refine aC (fun _ => ?_) (fun _ => ?_) <;> try (exfalso; omega)) | refine aS ?_ | refine aG ?_ | refine aD ?_ | refine aH ?_ | refine aP_D20 ?_ | refine aI ?_ | refine aJ ?_ | refine aW (.qs [0, 1, 2, 4, 5, 9] (.l 3 [5, 1, 0] (.l 6 [1, 0] (.l 7 [] (.qs [8] .nil) .no) .no) .no)) ?_ | refine aW (.qs [0, 1, 2, 3, 4, 5, 6, 7, 8, 9, 10, 11, 12, 13, 14, 15, 16, 17, 18, 19, 20, 21, 23, 24, 25] (.l 22 [25] (.l 26 [] (.qs [27, 28] .nil) .no) .no)) ?_ | fail); all_goals try (conv => whnf)
      refine CallOb.mk [1] (Pick_ok _ kb hL hkb [0, 9, 30, -1, 2001] (by simp) (by simp)) rfl ⟨Imp.refl _, Imp.fulp rfl, trivial⟩ rfl rfl ?_
      rintro _ _ ⟨⟨nc, kc⟩, ⟨_, hkc⟩, rfl, rfl⟩
      dsimp only at hkc ⊢
      (repeat' (conv => whnf); first | refine LitOb.ful ?_ | (refine aC (fun _ => ?_) (fun _ => ?_) <;> try (exfalso; omega)) | refine aS ?_ | refine aG ?_ | refine aD ?_ | refine aH ?_ | refine aP_D20 ?_ | refine aI ?_ | refine aJ ?_ | refine aW (.qs [0, 1, 2, 4, 5, 9] (.l 3 [5, 1, 0] (.l 6 [1, 0] (.l 7 [] (.qs [8] .nil) .no) .no) .no)) ?_ | refine aW (.qs [0, 1, 2, 3, 4, 5, 6, 7, 8, 9, 10, 11, 12, 13, 14, 15, 16, 17, 18, 19, 20, 21, 23, 24, 25] (.l 22 [25] (.l 26 [] (.qs [27, 28] .nil) .no) .no)) ?_ | fail); all_goals try (conv => whnf)
      refine CallOb.mk [] (cGreedyG_ok na gv gp' gi nb nc (by omega)) rfl (ImpL.refl _) rfl rfl ?_
      rintro _ _ ⟨⟨s1, s2⟩, hGr, rfl, rfl⟩
      have rGr := Ctr.uq (rGreedyG_ok na gv gp' gi nb nc) (fun _ _ => GreG.uniq) hGr
      have sl1 := hGr.len
      dsimp only at sl1 rGr ⊢
      have cSm := pSame_ok s1 s1 (by omega)
      clear hGr
      (repeat' (conv => whnf); first | (refine aC (fun _ => ?_) (fun _ => ?_) <;> try (exfalso; omega)) | refine aS ?_ | refine aG ?_ | refine aD ?_ | refine aH ?_ | refine aP_D20 ?_ | refine aI ?_ | refine aJ ?_ | refine aW (.qs [0, 1, 2, 4, 5, 9] (.l 3 [5, 1, 0] (.l 6 [1, 0] (.l 7 [] (.qs [8] .nil) .no) .no) .no)) ?_ | refine aW (.qs [0, 1, 2, 3, 4, 5, 6, 7, 8, 9, 10, 11, 12, 13, 14, 15, 16, 17, 18, 19, 20, 21, 23, 24, 25] (.l 22 [25] (.l 26 [] (.qs [27, 28] .nil) .no) .no)) ?_ | (refine aK [] rGr ?_) | (refine aK [] cSm ?_) | fail); all_goals try (conv => whnf)
      all_goals try exact absurd rfl (by assumption)
      exact ⟨(j + 1, kc), [0, 1, 2], ⟨by dsimp only; omega, hkc⟩, by dsimp only; omega, by (exact aL)⟩
    · (repeat' (conv => whnf); first | (refine aC (fun _ => ?_) (fun _ => ?_) <;> try (exfalso; omega)) | refine aS ?_ | refine aG ?_ | refine aD ?_ | refine aH ?_ | refine aP_D20 ?_ | refine aI ?_ | refine aJ ?_ | refine aW (.qs [0, 1, 2, 4, 5, 9] (.l 3 [5, 1, 0] (.l 6 [1, 0] (.l 7 [] (.qs [8] .nil) .no) .no) .no)) ?_ | refine aW (.qs [0, 1, 2, 3, 4, 5, 6, 7, 8, 9, 10, 11, 12, 13, 14, 15, 16, 17, 18, 19, 20, 21, 23, 24, 25] (.l 22 [25] (.l 26 [] (.qs [27, 28] .nil) .no) .no)) ?_ | (refine aK [] (awake14_ok) ?_) | fail); all_goals try (conv => whnf)
      rfl
end Go.Proofs.Ytabbnnfobjifiaa
