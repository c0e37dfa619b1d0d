/-
  A text of the proofs of this seat: lemmas that the statements' proofs use; it states nothing of the program by itself beyond the contracts that its theorems bear. Conditions: those that stand in each theorem. Its short name: Y3 Y4.
-/
import Derived.Test.YtgbmiacpjmchdaaGreatX2
import Derived.Test.YtgbmiacpjmchdaaGreatN9
import Derived.Test.YtgbmiacpjmchdaaGreatX3
set_option linter.unusedVariables false
set_option linter.unusedSimpArgs false
section
namespace Go.Proofs.YtgbmiacpjmchdaaGreat
open Go.Sx Go.Np Go.Cv Go.Tp
set_option maxRecDepth 4000
set_option maxHeartbeats 2000000
theorem aP_Y3 {A B K : Prop} (k : K) (a : A := by (simp only [zA, zT, zD, zC, zN, ints_len, zR, lnl, fll, stl]; omega)) (b : B := by (simp only [zA, zT, zD, zC, zN, ints_len, zR, lnl, fll, stl]; omega)) : (A ∧ B) ∧ K := ⟨⟨a, b⟩, k⟩
theorem rShape_ok (n : Nt) (hn : NL n) (d : List (List Int)) (hd : DL d) : Ctr Tryz.prog 11 [ntv n, .psl 1 (dls d)] [] (fun r o => o = [] ∧ r = .bp (ShapeP n d)) := by
  refine Ctr.imp ?_
  refine fn_intro (E := env 0) tys_ok rfl rfl rfl Tryz.func11 (by kernel_rfl) rfl (by kernel_rfl) ?_
  have cC := rCheck_ok n hn
  have hll := lnl n.ln
  have hdl := dls_len d
  have hd1 := hd.l
  (repeat' (conv => whnf); first | (refine aC (fun _ => ?_) (fun _ => ?_) <;> try (exfalso; omega)) | refine aS ?_ | refine aG ?_ | refine aD ?_ | refine aH ?_ | refine aP_Y3 ?_ | refine aI ?_ | refine aJ ?_ | refine aW (.qs [0, 1, 2, 3, 4, 5, 6, 7, 8, 9, 10, 11] .nil) ?_ | (refine aK [] cC ?_) | fail); all_goals try (conv => whnf)
  all_goals try (exact ⟨rfl, Imp.bl ⟨fun h => (by cases h), fun h => by have := h.c; have := h.l; omega⟩⟩)
  have hc : chkN n = 0 := by omega
  have hl : d.length = n.ln.length := by omega
  refine LoopOb.mk (Y := Nat) (st := fun i => ⟨[(5, i64 i), (2, .ptr 0 0), (1, .psl 1 (dls d))], [.box [.psl 1 (strs n.nm), .psl 5 (lns n.ln), .psl 8 (fls n.fl)]]⟩)
    (inv := fun i => i ≤ d.length ∧ (∀ k, k < i → ((d.getD k []).length : Int) = (n.ln.getD k ln0).n) ∧ ∀ k, k < i → ∀ j, j < (d.getD k []).length → -1 ≤ (d.getD k []).getD j 0 ∧ (d.getD k []).getD j 0 ≤ 400) (fun i => d.length - i) 0 [0] ⟨by omega, by omega, by omega⟩ (by (exact aL)) ?_
  rintro i ⟨hi, hv1, hv2⟩
  (repeat' (conv => whnf); first | refine aS ?_ | refine aG ?_ | refine aD ?_ | refine aH ?_ | refine aP_Y3 ?_ | refine aI ?_ | refine aJ ?_ | refine aW (.qs [0, 1, 2, 3, 4, 5, 6, 7, 8, 9, 10, 11] .nil) ?_ | fail); all_goals try (conv => whnf)
  refine CondOb.mk (fun hlt => ?_) (fun hlt => ?_)
  · have hil : i < d.length := by omega
    have hg := dls_get hil
    have hg2 := lng (l := n.ln) (i := i) (by omega)
    have hrl := hd.r i
    have hS : (ShapeP n d → ((d.getD i []).length : Int) = (n.ln.getD i ln0).n ∧ ∀ j, j < (d.getD i []).length → -1 ≤ (d.getD i []).getD j 0 ∧ (d.getD i []).getD j 0 ≤ 400) := fun h => ⟨h.r i hil, h.b i hil⟩
    have hst : ((d.getD i []).length : Int) = (n.ln.getD i ln0).n → (∀ j, j < (d.getD i []).length → -1 ≤ (d.getD i []).getD j 0 ∧ (d.getD i []).getD j 0 ≤ 400) → (∀ k, k < i + 1 → ((d.getD k []).length : Int) = (n.ln.getD k ln0).n) ∧ ∀ k, k < i + 1 → ∀ j, j < (d.getD k []).length → -1 ≤ (d.getD k []).getD j 0 ∧ (d.getD k []).getD j 0 ≤ 400 := fun h1 h2 => by
      refine ⟨fun k hk => ?_, fun k hk => ?_⟩
      · by_cases e : k = i
        · rw [e]; exact h1
        · exact hv1 k (by omega)
      · by_cases e : k = i
        · rw [e]; exact h2
        · exact hv2 k (by omega)
    clear hv1 hv2
    generalize n.ln.getD i ln0 = ll at *
    generalize d.getD i [] = row at *
    have hil2 := ints_len row
    (repeat' (conv => whnf); first | refine ⟨i, _, rfl, hg2, ?_⟩ | refine ⟨i, _, rfl, hg, ?_⟩ | (refine aC (fun _ => ?_) (fun _ => ?_) <;> try (exfalso; omega)) | refine aS ?_ | refine aG ?_ | refine aD ?_ | refine aH ?_ | refine aP_Y3 ?_ | refine aI ?_ | refine aJ ?_ | refine aW (.qs [0, 1, 2, 3, 4, 5, 6, 7, 8, 9, 10, 11] .nil) ?_ | fail); all_goals try (conv => whnf)
    · exact ⟨rfl, Imp.bl ⟨fun h => (by cases h), fun h => by have := (hS h).1; omega⟩⟩
    have hrn : (row.length : Int) = ll.n := by omega
    refine LoopOb.mk (Y := Nat) (st := fun j => ⟨[(6, i64 j), (5, i64 i), (2, .ptr 0 0), (1, .psl 1 (dls d))], [.box [.psl 1 (strs n.nm), .psl 5 (lns n.ln), .psl 8 (fls n.fl)]]⟩)
      (inv := fun j => j ≤ row.length ∧ ∀ k, k < j → -1 ≤ row.getD k 0 ∧ row.getD k 0 ≤ 400) (fun j => row.length - j) 0 [0] ⟨by omega, by omega⟩ (by (exact aL)) ?_
    rintro j ⟨hj, hw⟩
    (repeat' (conv => whnf); first | refine ⟨i, _, rfl, hg, ?_⟩ | refine aS ?_ | refine aG ?_ | refine aD ?_ | refine aH ?_ | refine aP_Y3 ?_ | refine aI ?_ | refine aJ ?_ | refine aW (.qs [0, 1, 2, 3, 4, 5, 6, 7, 8, 9, 10, 11] .nil) ?_ | fail); all_goals try (conv => whnf)
    refine CondOb.mk (fun hlt2 => ?_) (fun hlt2 => ?_)
    · have hjl : j < row.length := by omega
      have hgr := ints_get hjl
      have hS2 : ShapeP n d → -1 ≤ row.getD j 0 ∧ row.getD j 0 ≤ 400 := fun h => (hS h).2 j hjl
      have hst2 : -1 ≤ row.getD j 0 ∧ row.getD j 0 ≤ 400 → ∀ k, k < j + 1 → -1 ≤ row.getD k 0 ∧ row.getD k 0 ≤ 400 := fun h k hk => by
        by_cases e : k = j
        · rw [e]; exact h
        · exact hw k (by omega)
      generalize row.getD j 0 = x at *
      (repeat' (conv => whnf); first | refine ⟨j, _, rfl, hgr, ?_⟩ | refine ⟨i, _, rfl, hg, ?_⟩ | (refine aC (fun _ => ?_) (fun _ => ?_) <;> try (exfalso; omega)) | refine aS ?_ | refine aG ?_ | refine aD ?_ | refine aH ?_ | refine aP_Y3 ?_ | refine aI ?_ | refine aJ ?_ | refine aW (.qs [0, 1, 2, 3, 4, 5, 6, 7, 8, 9, 10, 11] .nil) ?_ | fail); all_goals try (conv => whnf)
      all_goals first
        | exact ⟨j + 1, [0], ⟨by omega, hst2 (by omega)⟩, by omega, by (exact aL)⟩
        | exact ⟨rfl, Imp.bl ⟨fun h => (by cases h), fun h => by have := hS2 h; omega⟩⟩
        | trace_state
    · have e : j = row.length := by omega
      subst e
      obtain ⟨s1, s2⟩ := hst hrn hw
      (repeat' (conv => whnf); first | (refine aC (fun _ => ?_) (fun _ => ?_) <;> try (exfalso; omega)) | refine aS ?_ | refine aG ?_ | refine aD ?_ | refine aH ?_ | refine aP_Y3 ?_ | refine aI ?_ | refine aJ ?_ | refine aW (.qs [0, 1, 2, 3, 4, 5, 6, 7, 8, 9, 10, 11] .nil) ?_ | fail); all_goals try (conv => whnf)
      exact ⟨i + 1, [0], ⟨by omega, s1, s2⟩, by omega, by (exact aL)⟩
  · have e : i = d.length := by omega
    subst e
    (repeat' (conv => whnf); first | (refine aC (fun _ => ?_) (fun _ => ?_) <;> try (exfalso; omega)) | refine aS ?_ | refine aG ?_ | refine aD ?_ | refine aH ?_ | refine aP_Y3 ?_ | refine aI ?_ | refine aJ ?_ | refine aW (.qs [0, 1, 2, 3, 4, 5, 6, 7, 8, 9, 10, 11] .nil) ?_ | fail); all_goals try (conv => whnf)
    exact ⟨rfl, Imp.bl ⟨fun _ => ⟨hc, hl, hv1, hv2⟩, fun _ => rfl⟩⟩
end Go.Proofs.YtgbmiacpjmchdaaGreat
end
section
namespace Go.Proofs.YtgbmiacpjmchdaaGreat
open Go.Sx Go.Np Go.Cv Go.Tp
set_option maxRecDepth 4000
set_option maxHeartbeats 2000000
theorem aP_Y4 {A B K : Prop} (k : K) (a : A := by (simp only [zA, zT, zD, zC, zN, ints_len, zR, lnl, fll, stl]; omega)) (b : B := by (simp only [zA, zT, zD, zC, zN, ints_len, zR, lnl, fll, stl]; omega)) : (A ∧ B) ∧ K := ⟨⟨a, b⟩, k⟩
theorem rBefore_ok (n : Nt) (hn : NL n) (d : List (List Int)) (hd : DL d) (f h : Int) : Ctr Tryz.prog 14 [ntv n, .psl 1 (dls d), i64 f, i64 h] [] (fun r o => o = [] ∧ r = befR (befP n d f h)) := by
  refine fn_intro (E := env 0) tys_ok rfl rfl rfl Tryz.func14 (by kernel_rfl) rfl (by kernel_rfl) ?_
  have cS := rShape_ok n hn d hd
  have hfl := fll n.fl
  have hdl := dls_len d
  have hd1 := hd.l
  by_cases hA : ShapeP n d ∧ HopP n f h
  · have hB := befP_t hA
    generalize befP n d f h = R at *
    obtain ⟨hs, h1, h2, h3, h4⟩ := hA
    obtain ⟨i, rfl⟩ := Int.eq_ofNat_of_zero_le h1
    obtain ⟨k, rfl⟩ := Int.eq_ofNat_of_zero_le h3
    rw [Int.toNat_natCast] at h4 hB
    rw [Int.toNat_natCast] at hB
    have hg := flg (l := n.fl) (i := i) (by omega)
    have hf := chk_fl hs.c i (by omega)
    generalize n.fl.getD i fl0 = g at *
    have hil := ints_len g.rt
    have r4 := hf.l2
    (repeat' (conv => whnf); first | refine ⟨i, _, rfl, hg, ?_⟩ | (refine aC (fun _ => ?_) (fun _ => ?_) <;> try (exfalso; omega)) | refine aS ?_ | refine aG ?_ | refine aD ?_ | refine aH ?_ | refine aP_Y4 ?_ | refine aI ?_ | refine aJ ?_ | refine aW (.qs [0, 1, 2, 3, 4, 5, 6, 7, 8, 9, 10, 11, 12] .nil) ?_ | (refine aK [] cS ?_) | fail); all_goals try (conv => whnf)
    all_goals try (exfalso; first | exact absurd hs (by assumption) | omega)
    refine LoopOb.mk (Y := Nat × Nat) (st := fun y => ⟨[(12, i64 y.1), (11, i64 y.2), (10, .ptr 1 0), (3, i64 k), (1, .psl 1 (dls d))], [.box [.psl 1 (strs n.nm), .psl 5 (lns n.ln), .psl 8 (fls n.fl)], .box (flv g)]⟩)
      (inv := fun y => y.1 ≤ k ∧ bef d g y.1 = some y.2) (fun y => k - y.1) (0, 0) [0, 1] ⟨by simp, rfl⟩ (by (exact aL)) ?_
    rintro ⟨j, s⟩ ⟨hj, hb⟩
    dsimp only at hj hb ⊢
    have hsl := bef_le hs hf (by omega) hb
    (repeat' (conv => whnf); first | refine aS ?_ | refine aG ?_ | refine aD ?_ | refine aH ?_ | refine aP_Y4 ?_ | refine aI ?_ | refine aJ ?_ | refine aW (.qs [0, 1, 2, 3, 4, 5, 6, 7, 8, 9, 10, 11, 12] .nil) ?_ | fail); all_goals try (conv => whnf)
    refine CondOb.mk (fun hlt => ?_) (fun hlt => ?_)
    · have hjk : j < k := by omega
      obtain ⟨w1, w2, w3, w4⟩ := hs.dly hf (i := j) (by omega)
      have hxx := (hf.b j (by omega)).1
      have hcc := (hf.c j (by omega)).1
      have hgr := ints_get (l := g.rt) (j := j) (by omega)
      have hst : bef d g (j + 1) = if dly d g j < 0 then none else some (s + (dly d g j).toNat) := by simp only [bef, hb]
      have hne : bef d g (j + 1) = none → bef d g k = none := fun h => bef_none h (by omega)
      have hg1 := dls_get w1
      have hg2 := ints_get w2
      rw [show (d.getD (g.rt.getD j 0).toNat []).getD g.cl.toNat 0 = dly d g j from rfl] at hg2
      generalize dly d g j = x at *
      generalize d.getD (g.rt.getD j 0).toNat [] = row at *
      generalize g.rt.getD j 0 = a at *
      (repeat' (conv => whnf); first | refine ⟨g.cl.toNat, _, by omega, hg2, ?_⟩ | refine ⟨a.toNat, _, by omega, hg1, ?_⟩ | refine ⟨j, _, rfl, hgr, ?_⟩ | (refine aC (fun _ => ?_) (fun _ => ?_) <;> try (exfalso; omega)) | refine aS ?_ | refine aG ?_ | refine aD ?_ | refine aH ?_ | refine aP_Y4 ?_ | refine aI ?_ | refine aJ ?_ | refine aW (.qs [0, 1, 2, 3, 4, 5, 6, 7, 8, 9, 10, 11, 12] .nil) ?_ | fail); all_goals try (conv => whnf)
      · rw [if_pos (by assumption)] at hst
        rw [hB, hne hst]
        exact ⟨rfl, rfl⟩
      · rw [if_neg (by assumption)] at hst
        exact ⟨(j + 1, s + x.toNat), [0, 1], ⟨by dsimp only; omega, hst⟩, by dsimp only; omega, by rw [show ((s + x.toNat : Nat) : Int) = s + x by omega]; (exact aL)⟩
    · have e : j = k := by omega
      subst e
      (repeat' (conv => whnf); first | (refine aC (fun _ => ?_) (fun _ => ?_) <;> try (exfalso; omega)) | refine aS ?_ | refine aG ?_ | refine aD ?_ | refine aH ?_ | refine aP_Y4 ?_ | refine aI ?_ | refine aJ ?_ | refine aW (.qs [0, 1, 2, 3, 4, 5, 6, 7, 8, 9, 10, 11, 12] .nil) ?_ | fail); all_goals try (conv => whnf)
      exact ⟨rfl, by rw [hB, hb]; rfl⟩
  · rw [befP_f hA]
    (repeat' (conv => whnf); first | refine ⟨f.toNat, _, by omega, flg (show f.toNat < n.fl.length by omega), ?_⟩ | (refine aC (fun _ => ?_) (fun _ => ?_) <;> try (exfalso; omega)) | refine aS ?_ | refine aG ?_ | refine aD ?_ | refine aH ?_ | refine aP_Y4 ?_ | refine aI ?_ | refine aJ ?_ | refine aW (.qs [0, 1, 2, 3, 4, 5, 6, 7, 8, 9, 10, 11, 12] .nil) ?_ | (refine aK [] cS ?_) | fail); all_goals try (conv => whnf)
    all_goals try exact ⟨rfl, rfl⟩
    all_goals
      have hSp : ShapeP n d := Classical.not_not.1 (by assumption)
      exact absurd ⟨hSp, by omega, by omega, by omega, by rw [ints_len] at *; omega⟩ hA
end Go.Proofs.YtgbmiacpjmchdaaGreat
end
