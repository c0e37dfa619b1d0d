/-
  A text of the proofs of this seat: lemmas that the statements' proofs use; it states nothing of the program by itself beyond the contracts that its theorems bear. Conditions: those that stand in each theorem. Its short name: X3.
-/
import Derived.Test.YtgbmiacpjmchdaaGreatX2
set_option linter.unusedVariables false
set_option linter.unusedSimpArgs false
namespace Go.Proofs.YtgbmiacpjmchdaaGreat
open Go.Sx Go.Np Go.Cv Go.Tp
set_option maxRecDepth 4000
set_option maxHeartbeats 2000000
def befR : Option Nat → SV
  | none => .tup [i64 0, .bl false]
  | some s => .tup [i64 s, .bl true]
theorem aP_X3 {A B K : Prop} (k : K) (a : A := by (simp only [zA, zT, zD, zC, zN, ints_len, zR, lnl, fll, stl]; omega)) (b : B := by (simp only [zA, zT, zD, zC, zN, ints_len, zR, lnl, fll, stl]; omega)) : (A ∧ B) ∧ K := ⟨⟨a, b⟩, k⟩
theorem bf_ok (n : Nt) (hn : NL n) (d : List (List Int)) (hd : DL d) (hs : ShapeP n d) (i k : Nat) (hi : i < n.fl.length) (hk : k < (n.fl.getD i fl0).rt.length) :
    Ctr Tryz.prog 41 [ntv n, .psl 1 (dls d), i64 i, i64 k] [] (fun r o => o = [] ∧ r = befR (bef d (n.fl.getD i fl0) k)) := by
  refine fn_intro (E := env 0) tys_ok rfl rfl rfl Tryz.func41 (by kernel_rfl) rfl (by kernel_rfl) ?_
  have hg := flg hi
  have hf := chk_fl hs.c i hi
  have hfl := fll n.fl
  have hdl := dls_len d
  have hd1 := hd.l
  generalize n.fl.getD i fl0 = f at *
  have hil := ints_len f.rt
  have r4 := hf.l2
  (repeat' (conv => whnf); first | refine ⟨i, _, rfl, hg, ?_⟩ | (refine aC (fun _ => ?_) (fun _ => ?_) <;> try (exfalso; omega)) | refine aS ?_ | refine aG ?_ | refine aD ?_ | refine aH ?_ | refine aP_X3 ?_ | refine aI ?_ | refine aJ ?_ | refine aW (.qs [0, 1, 2, 3, 4, 5, 6, 7, 8] .nil) ?_ | fail); all_goals try (conv => whnf)
  refine ⟨k, rfl, ⟨by omega, by omega⟩, ?_⟩
  rw [List.drop_zero, ints_take]
  have htl := ints_len (f.rt.take k)
  have htk : (f.rt.take k).length = k := by rw [List.length_take]; omega
  (repeat' (conv => whnf); first | (refine aC (fun _ => ?_) (fun _ => ?_) <;> try (exfalso; omega)) | refine aS ?_ | refine aG ?_ | refine aD ?_ | refine aH ?_ | refine aP_X3 ?_ | refine aI ?_ | refine aJ ?_ | refine aW (.qs [0, 1, 2, 3, 4, 5, 6, 7, 8] .nil) ?_ | fail); all_goals try (conv => whnf)
  refine LoopOb.mk (Y := Nat × Nat) (st := fun y => ⟨[(25, i64 y.1), (24, i64 (ints (f.rt.take k)).length), (23, .psl 1 (ints (f.rt.take k))), (11, i64 y.2), (10, .ptr 1 0), (1, .psl 1 (dls d))], [.box [.psl 1 (strs n.nm), .psl 5 (lns n.ln), .psl 8 (fls n.fl)], .box (flv f)]⟩)
    (inv := fun y => y.1 ≤ k ∧ bef d f y.1 = some y.2) (fun y => k - y.1) (0, 0) [0, 1] ⟨by simp, rfl⟩ (by (exact aL)) ?_
  rintro ⟨j, s⟩ ⟨hj, hb⟩
  dsimp only at hj hb ⊢
  have hsl := bef_le hs hf (by omega) hb
  (repeat' (conv => whnf); first | refine aS ?_ | refine aG ?_ | refine aD ?_ | refine aH ?_ | refine aP_X3 ?_ | refine aI ?_ | refine aJ ?_ | refine aW (.qs [0, 1, 2, 3, 4, 5, 6, 7, 8] .nil) ?_ | fail); all_goals try (conv => whnf)
  refine CondOb.mk (fun hlt => ?_) (fun hlt => ?_)
  · have hjk : j < k := by omega
    obtain ⟨w1, w2, w3, w4⟩ := hs.dly hf (i := j) (by omega)
    have hxx := (hf.b j (by omega)).1
    have hcc := (hf.c j (by omega)).1
    have hgt : (f.rt.take k).getD j 0 = f.rt.getD j 0 := by
      rw [List.getD_eq_getElem?_getD, List.getD_eq_getElem?_getD, List.getElem?_take, if_pos hjk]
    have hgr := ints_get (l := f.rt.take k) (j := j) (by omega)
    rw [hgt] at hgr
    have hst : bef d f (j + 1) = if dly d f j < 0 then none else some (s + (dly d f j).toNat) := by simp only [bef, hb]
    have hne : bef d f (j + 1) = none → bef d f k = none := fun h => bef_none h (by omega)
    have hg1 := dls_get w1
    have hg2 := ints_get w2
    rw [show (d.getD (f.rt.getD j 0).toNat []).getD f.cl.toNat 0 = dly d f j from rfl] at hg2
    have hl2 := ints_len (d.getD (f.rt.getD j 0).toNat [])
    generalize dly d f j = x at *
    generalize d.getD (f.rt.getD j 0).toNat [] = row at *
    generalize f.rt.getD j 0 = a at *
    (repeat' (conv => whnf); first | refine ⟨f.cl.toNat, _, by omega, hg2, ?_⟩ | refine ⟨a.toNat, _, by omega, hg1, ?_⟩ | refine ⟨j, _, rfl, hgr, ?_⟩ | (refine aC (fun _ => ?_) (fun _ => ?_) <;> try (exfalso; omega)) | refine aS ?_ | refine aG ?_ | refine aD ?_ | refine aH ?_ | refine aP_X3 ?_ | refine aI ?_ | refine aJ ?_ | refine aW (.qs [0, 1, 2, 3, 4, 5, 6, 7, 8] .nil) ?_ | fail); all_goals try (conv => whnf)
    · rw [if_pos (by assumption)] at hst
      rw [hne hst]
      exact ⟨rfl, rfl⟩
    · rw [if_neg (by assumption)] at hst
      exact ⟨(j + 1, s + x.toNat), [0, 1], ⟨by dsimp only; omega, hst⟩, by dsimp only; omega, by rw [show ((s + x.toNat : Nat) : Int) = s + x by omega]; (exact aL)⟩
  · have e : j = k := by omega
    subst e
    (repeat' (conv => whnf); first | (refine aC (fun _ => ?_) (fun _ => ?_) <;> try (exfalso; omega)) | refine aS ?_ | refine aG ?_ | refine aD ?_ | refine aH ?_ | refine aP_X3 ?_ | refine aI ?_ | refine aJ ?_ | refine aW (.qs [0, 1, 2, 3, 4, 5, 6, 7, 8] .nil) ?_ | fail); all_goals try (conv => whnf)
    exact ⟨rfl, by rw [hb]; rfl⟩
open Classical in
noncomputable def befP (n : Nt) (d : List (List Int)) (f h : Int) : Option Nat := if ShapeP n d ∧ HopP n f h then bef d (n.fl.getD f.toNat fl0) h.toNat else none
theorem befP_t {n : Nt} {d : List (List Int)} {f h : Int} (hA : ShapeP n d ∧ HopP n f h) : befP n d f h = bef d (n.fl.getD f.toNat fl0) h.toNat := by unfold befP; rw [if_pos hA]
theorem befP_f {n : Nt} {d : List (List Int)} {f h : Int} (hA : ¬(ShapeP n d ∧ HopP n f h)) : befP n d f h = none := by unfold befP; rw [if_neg hA]
theorem Before_ok (n : Nt) (hn : NL n) (d : List (List Int)) (hd : DL d) (f h : Int) : Ctr Tryz.prog 13 [ntv n, .psl 1 (dls d), i64 f, i64 h] [] (fun r o => o = [] ∧ r = befR (befP n d f h)) := by
  refine fn_intro (E := env 0) tys_ok rfl rfl rfl Tryz.func13 (by kernel_rfl) rfl (by kernel_rfl) ?_
  by_cases hA : ShapeP n d ∧ HopP n f h
  · have hB := befP_t hA
    generalize befP n d f h = R at *
    obtain ⟨hs, h1, h2, h3, h4⟩ := hA
    obtain ⟨i, rfl⟩ := Int.eq_ofNat_of_zero_le h1
    obtain ⟨k, rfl⟩ := Int.eq_ofNat_of_zero_le h3
    rw [Int.toNat_natCast] at hB h4
    rw [Int.toNat_natCast] at hB
    have cB := bf_ok n hn d hd hs i k (by omega) (by omega)
    rw [← hB] at cB
    have hP : HopP n i k := ⟨h1, h2, h3, by rw [Int.toNat_natCast]; exact h4⟩
    cases R with
    | none =>
      dsimp only [befR] at cB ⊢
      (repeat' (conv => whnf); first | (refine aC (fun _ => ?_) (fun _ => ?_) <;> try (exfalso; omega)) | refine aS ?_ | refine aG ?_ | refine aD ?_ | refine aH ?_ | refine aP_X3 ?_ | refine aI ?_ | refine aJ ?_ | (refine aK [] (Shape_ok n hn d hd) ?_) | (refine aK [] (hopOf_ok n hn i k) ?_) | (refine aK [] (cB) ?_) | fail); all_goals try (conv => whnf)
      all_goals first
        | exact ⟨rfl, rfl⟩
        | (exfalso; first | contradiction | exact absurd hs (by assumption) | exact absurd hP (by assumption))
        | trace_state
    | some s =>
      dsimp only [befR] at cB ⊢
      (repeat' (conv => whnf); first | (refine aC (fun _ => ?_) (fun _ => ?_) <;> try (exfalso; omega)) | refine aS ?_ | refine aG ?_ | refine aD ?_ | refine aH ?_ | refine aP_X3 ?_ | refine aI ?_ | refine aJ ?_ | (refine aK [] (Shape_ok n hn d hd) ?_) | (refine aK [] (hopOf_ok n hn i k) ?_) | (refine aK [] (cB) ?_) | fail); all_goals try (conv => whnf)
      all_goals first
        | exact ⟨rfl, rfl⟩
        | (exfalso; first | contradiction | exact absurd hs (by assumption) | exact absurd hP (by assumption))
        | trace_state
  · rw [befP_f hA]
    dsimp only [befR]
    (repeat' (conv => whnf); first | (refine aC (fun _ => ?_) (fun _ => ?_) <;> try (exfalso; omega)) | refine aS ?_ | refine aG ?_ | refine aD ?_ | refine aH ?_ | refine aP_X3 ?_ | refine aI ?_ | refine aJ ?_ | (refine aK [] (Shape_ok n hn d hd) ?_) | (refine aK [] (hopOf_ok n hn f h) ?_) | (exfalso; exact hA ⟨Classical.not_not.1 (by assumption), Classical.not_not.1 (by assumption)⟩) | fail); all_goals try (conv => whnf)
    all_goals first
      | exact ⟨rfl, rfl⟩
      | (exfalso; simp_all; done)
      | trace_state
end Go.Proofs.YtgbmiacpjmchdaaGreat
