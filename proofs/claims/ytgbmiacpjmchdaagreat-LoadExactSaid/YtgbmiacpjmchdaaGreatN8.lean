/-
  A text of the proofs of this seat: lemmas that the statements' proofs use; it states nothing of the program by itself beyond the contracts that its theorems bear. Conditions: those that stand in each theorem. Its short name: N8.
-/
import Derived.Test.YtgbmiacpjmchdaaGreatN7
set_option linter.unusedVariables false
set_option linter.unusedSimpArgs false
namespace Go.Proofs.YtgbmiacpjmchdaaGreat
open Go.Sx Go.Np Go.Cv
set_option maxRecDepth 4000
set_option maxHeartbeats 2000000
theorem mem_map_take {l : List Fl} {i : Nat} {s : ByteArray} (hi : i ≤ l.length) : s ∈ (l.take i).map (·.nm) ↔ ∃ j, j < i ∧ (l.getD j fl0).nm = s := by
  constructor
  · intro h
    obtain ⟨x, hx, e⟩ := List.mem_map.1 h
    obtain ⟨j, h1, h2, e2⟩ := mem_take (d := fl0) hx
    exact ⟨j, h1, by rw [← e2]; exact e⟩
  · rintro ⟨j, h1, h2⟩
    refine List.mem_map.2 ⟨l.getD j fl0, ?_, h2⟩
    refine List.mem_iff_getElem.2 ⟨j, by rw [List.length_take]; omega, ?_⟩
    rw [List.getElem_take]; simp [List.getD_eq_getElem?_getD, show j < l.length by omega]
theorem mem_take_i {l : List Int} {i : Nat} {s : Int} (hi : i ≤ l.length) : s ∈ l.take i ↔ ∃ j, j < i ∧ l.getD j 0 = s := by
  constructor
  · intro h
    obtain ⟨j, h1, h2, e2⟩ := mem_take (d := 0) h
    exact ⟨j, h1, e2.symm⟩
  · rintro ⟨j, h1, h2⟩
    refine List.mem_iff_getElem.2 ⟨j, by rw [List.length_take]; omega, ?_⟩
    rw [List.getElem_take, ← h2]; simp [List.getD_eq_getElem?_getD, show j < l.length by omega]
theorem nm4 {met : List ByteArray} {s : ByteArray} (h : ¬WordP s) : nmErr met s = 4 := by unfold nmErr; rw [if_pos h]
theorem nm60 {met : List ByteArray} {s : ByteArray} (h : WordP s) (hm : s ∈ met) : nmErr met s = 60 := by unfold nmErr; rw [if_neg (fun k => k h), if_pos hm]
theorem aP_N8 {A B K : Prop} (k : K) (a : A := by (simp only [zA, zT, zD, zC, zN, ints_len, zR, lnl, fll, stl]; omega)) (b : B := by (simp only [zA, zT, zD, zC, zN, ints_len, zR, lnl, fll, stl]; omega)) : (A ∧ B) ∧ K := ⟨⟨a, b⟩, k⟩
theorem rflow_ok (n : Nt) (hn : NL n) (i : Nat) (hil : i < n.fl.length) : Ctr Tryz.prog 71 [ntv n, i64 i] [] (fun r o => o = [] ∧ r = i64 (flowE n i)) := by
  refine fn_intro (E := env 0) tys_ok rfl rfl rfl Tryz.func71 (by kernel_rfl) rfl (by kernel_rfl) ?_
  have h2 := hn.ln
  have h3 := hn.fl
  have hll := lnl n.ln
  have hfl := fll n.fl
  have hE := flowE_eq n i
  generalize flowE n i = E at *
  have hg := flg hil
  have hL := hn.flat hil
  have hmem := mem_map_take (l := n.fl) (i := i) (s := (n.fl.getD i fl0).nm) (by omega)
  generalize hfe : n.fl.getD i fl0 = f at *
  have n4 := nm4 (met := (n.fl.take i).map (·.nm)) (s := f.nm)
  have n60 := nm60 (met := (n.fl.take i).map (·.nm)) (s := f.nm)
  have n0 := nm_fresh (met := (n.fl.take i).map (·.nm)) (s := f.nm)
  generalize nmErr ((n.fl.take i).map (·.nm)) f.nm = e1 at *
  have hrl := ints_len f.rt
  have hvl := ints_len f.v
  (repeat' (conv => whnf); first | (refine aC (fun _ => ?_) (fun _ => ?_) <;> try (exfalso; omega)) | refine aS ?_ | refine aG ?_ | refine aD ?_ | refine aH ?_ | refine aP_N8 ?_ | refine aI ?_ | refine aJ ?_ | refine aW (.qs [0, 1, 2, 3, 4, 5, 6, 7, 8] .nil) ?_ | refine aW (.qs [0, 1, 2, 3, 4, 5, 6, 7, 8, 9, 10, 11, 12, 13] .nil) ?_ | refine ⟨i, _, rfl, hg, ?_⟩ | (refine aK [] (rWord_ok f.nm hL.nm) ?_) | fail); all_goals try (conv => whnf)
  · have e := n4 (by assumption)
    exact ⟨rfl, by rw [hE, if_pos (by omega), e]; rfl⟩
  have hw := Classical.not_not.1 ‹¬¬WordP f.nm›
  clear n4
  have n60 := n60 hw
  have n0 := n0 hw
  refine LoopOb.mk (Y := Nat) (st := fun k => ⟨[(6, i64 k), (5, .ptr 1 0), (2, .ptr 0 0), (1, i64 i)], [.box [.psl 1 (strs n.nm), .psl 5 (lns n.ln), .psl 8 (fls n.fl)], .box [.str f.nm, .psl 1 (ints f.rt), i64 f.cl, i64 f.lo, i64 f.hi, .psl 1 (ints f.v), i64 f.p, i64 f.q]]⟩)
    (inv := fun k => k ≤ i ∧ ∀ j < k, ¬(n.fl.getD j fl0).nm = f.nm) (fun k => i - k) 0 [0, 1] ⟨by omega, by omega⟩ (by (exact aL)) ?_
  rintro k ⟨hk, hv⟩
  (repeat' (conv => whnf); first | refine aS ?_ | refine aG ?_ | refine aD ?_ | refine aH ?_ | refine aP_N8 ?_ | refine aI ?_ | refine aJ ?_ | refine aW (.qs [0, 1, 2, 3, 4, 5, 6, 7, 8] .nil) ?_ | refine aW (.qs [0, 1, 2, 3, 4, 5, 6, 7, 8, 9, 10, 11, 12, 13] .nil) ?_ | fail); all_goals try (conv => whnf)
  refine CondOb.mk (fun hlt => ?_) (fun hlt => ?_)
  · have hkl : k < n.fl.length := by omega
    have hgk := flg hkl
    have hst : ¬(n.fl.getD k fl0).nm = f.nm → ∀ j < k + 1, ¬(n.fl.getD j fl0).nm = f.nm := fun h j hj => by
      by_cases e : j = k
      · rw [e]; exact h
      · exact hv j (by omega)
    have hin : (n.fl.getD k fl0).nm = f.nm → e1 = 60 := fun h => n60 (hmem.2 ⟨k, by omega, h⟩)
    generalize n.fl.getD k fl0 = g at *
    (repeat' (conv => whnf); first | (refine aC (fun _ => ?_) (fun _ => ?_) <;> try (exfalso; omega)) | refine aS ?_ | refine aG ?_ | refine aD ?_ | refine aH ?_ | refine aP_N8 ?_ | refine aI ?_ | refine aJ ?_ | refine aW (.qs [0, 1, 2, 3, 4, 5, 6, 7, 8] .nil) ?_ | refine aW (.qs [0, 1, 2, 3, 4, 5, 6, 7, 8, 9, 10, 11, 12, 13] .nil) ?_ | refine ⟨k, _, rfl, hgk, ?_⟩ | fail); all_goals try (conv => whnf)
    · have e := hin (by assumption)
      exact ⟨rfl, by rw [hE, if_pos (by omega), e]; rfl⟩
    · exact ⟨k + 1, [0, 1], ⟨by omega, hst (by assumption)⟩, by omega, by (exact aL)⟩
  have he1 : e1 = 0 := n0 fun h => by
    obtain ⟨j, hj, e⟩ := hmem.1 h
    exact hv j (by omega) e
  rw [if_neg (by omega)] at hE
  clear hmem n60 n0
  have hRe : routeE n.ln f = if f.rt.length = 0 then 5 else if 4 < f.rt.length then 3 else firstE (hopE n.ln f) f.rt.length := rfl
  (repeat' (conv => whnf); first | (refine aC (fun _ => ?_) (fun _ => ?_) <;> try (exfalso; omega)) | refine aS ?_ | refine aG ?_ | refine aD ?_ | refine aH ?_ | refine aP_N8 ?_ | refine aI ?_ | refine aJ ?_ | refine aW (.qs [0, 1, 2, 3, 4, 5, 6, 7, 8] .nil) ?_ | refine aW (.qs [0, 1, 2, 3, 4, 5, 6, 7, 8, 9, 10, 11, 12, 13] .nil) ?_ | fail); all_goals try (conv => whnf)
  · rw [if_pos (by omega)] at hRe
    exact ⟨rfl, by rw [hE, hRe]; rfl⟩
  · rw [if_neg (by omega), if_pos (by omega)] at hRe
    exact ⟨rfl, by rw [hE, hRe]; rfl⟩
  rw [if_neg (by omega), if_neg (by omega)] at hRe
  refine LoopOb.mk (Y := Nat) (st := fun k => ⟨[(7, i64 k), (5, .ptr 1 0), (2, .ptr 0 0)], [.box [.psl 1 (strs n.nm), .psl 5 (lns n.ln), .psl 8 (fls n.fl)], .box [.str f.nm, .psl 1 (ints f.rt), i64 f.cl, i64 f.lo, i64 f.hi, .psl 1 (ints f.v), i64 f.p, i64 f.q]]⟩)
    (inv := fun k => k ≤ f.rt.length ∧ ∀ j < k, hopE n.ln f j = 0) (fun k => f.rt.length - k) 0 [0, 1] ⟨by omega, by omega⟩ (by (exact aL)) ?_
  clear hv hlt hk k
  rintro k ⟨hk, hv⟩
  (repeat' (conv => whnf); first | refine aS ?_ | refine aG ?_ | refine aD ?_ | refine aH ?_ | refine aP_N8 ?_ | refine aI ?_ | refine aJ ?_ | refine aW (.qs [0, 1, 2, 3, 4, 5, 6, 7, 8] .nil) ?_ | refine aW (.qs [0, 1, 2, 3, 4, 5, 6, 7, 8, 9, 10, 11, 12, 13] .nil) ?_ | fail); all_goals try (conv => whnf)
  refine CondOb.mk (fun hlt => ?_) (fun hlt => ?_)
  · have hkl : k < f.rt.length := by omega
    have hH : hopE n.ln f k = if f.rt.getD k 0 < 0 ∨ (n.ln.length : Int) ≤ f.rt.getD k 0 then 2 else if f.rt.getD k 0 ∈ f.rt.take k then 60 else if f.cl < 0 ∨ (n.ln.getD (f.rt.getD k 0).toNat ln0).n ≤ f.cl then 2 else 0 := rfl
    have hst : hopE n.ln f k = 0 → ∀ j < k + 1, hopE n.ln f j = 0 := fun h j hj => by
      by_cases e : j = k
      · rw [e]; exact h
      · exact hv j (by omega)
    have hat : hopE n.ln f k ≠ 0 → E = hopE n.ln f k := fun h => by rw [hE, hRe, firstE_at hkl hv h, if_pos h]
    have hm := mem_take_i (l := f.rt) (i := k) (s := f.rt.getD k 0) (by omega)
    generalize hopE n.ln f k = H at *
    (repeat' (conv => whnf); first | (refine aC (fun _ => ?_) (fun _ => ?_) <;> try (exfalso; omega)) | refine aS ?_ | refine aG ?_ | refine aD ?_ | refine aH ?_ | refine aP_N8 ?_ | refine aI ?_ | refine aJ ?_ | refine aW (.qs [0, 1, 2, 3, 4, 5, 6, 7, 8] .nil) ?_ | refine aW (.qs [0, 1, 2, 3, 4, 5, 6, 7, 8, 9, 10, 11, 12, 13] .nil) ?_ | fail); all_goals try (conv => whnf)
    · rw [if_pos (by omega)] at hH
      exact ⟨rfl, by rw [hat (by omega), hH]; rfl⟩
    · rw [if_pos (by omega)] at hH
      exact ⟨rfl, by rw [hat (by omega), hH]; rfl⟩
    rw [if_neg (by omega)] at hH
    have hxl : (f.rt.getD k 0).toNat < n.ln.length := by omega
    have hgl := lng hxl
    generalize n.ln.getD (f.rt.getD k 0).toNat ln0 = l at *
    refine LoopOb.mk (Y := Nat) (st := fun j => ⟨[(9, i64 j), (8, i64 (f.rt.getD k 0)), (7, i64 k), (5, .ptr 1 0), (2, .ptr 0 0)], [.box [.psl 1 (strs n.nm), .psl 5 (lns n.ln), .psl 8 (fls n.fl)], .box [.str f.nm, .psl 1 (ints f.rt), i64 f.cl, i64 f.lo, i64 f.hi, .psl 1 (ints f.v), i64 f.p, i64 f.q]]⟩)
      (inv := fun j => j ≤ k ∧ ∀ a < j, ¬f.rt.getD a 0 = f.rt.getD k 0) (fun j => k - j) 0 [0, 1] ⟨by omega, by omega⟩ (by (exact aL)) ?_
    rintro j ⟨hj, hw2⟩
    (repeat' (conv => whnf); first | refine aS ?_ | refine aG ?_ | refine aD ?_ | refine aH ?_ | refine aP_N8 ?_ | refine aI ?_ | refine aJ ?_ | refine aW (.qs [0, 1, 2, 3, 4, 5, 6, 7, 8] .nil) ?_ | refine aW (.qs [0, 1, 2, 3, 4, 5, 6, 7, 8, 9, 10, 11, 12, 13] .nil) ?_ | fail); all_goals try (conv => whnf)
    refine CondOb.mk (fun hlt2 => ?_) (fun hlt2 => ?_)
    · (repeat' (conv => whnf); first | (refine aC (fun _ => ?_) (fun _ => ?_) <;> try (exfalso; omega)) | refine aS ?_ | refine aG ?_ | refine aD ?_ | refine aH ?_ | refine aP_N8 ?_ | refine aI ?_ | refine aJ ?_ | refine aW (.qs [0, 1, 2, 3, 4, 5, 6, 7, 8] .nil) ?_ | refine aW (.qs [0, 1, 2, 3, 4, 5, 6, 7, 8, 9, 10, 11, 12, 13] .nil) ?_ | fail); all_goals try (conv => whnf)
      · rw [if_pos (hm.2 ⟨j, by omega, by assumption⟩)] at hH
        exact ⟨rfl, by rw [hat (by omega), hH]; rfl⟩
      · refine ⟨j + 1, [0, 1], ⟨by omega, fun a ha => ?_⟩, by omega, by (exact aL)⟩
        by_cases e : a = j
        · rw [e]; assumption
        · exact hw2 a (by omega)
    · rw [if_neg (fun h => by obtain ⟨a, ha, e⟩ := hm.1 h; exact hw2 a (by omega) e)] at hH
      (repeat' (conv => whnf); first | (refine aC (fun _ => ?_) (fun _ => ?_) <;> try (exfalso; omega)) | refine aS ?_ | refine aG ?_ | refine aD ?_ | refine aH ?_ | refine aP_N8 ?_ | refine aI ?_ | refine aJ ?_ | refine aW (.qs [0, 1, 2, 3, 4, 5, 6, 7, 8] .nil) ?_ | refine aW (.qs [0, 1, 2, 3, 4, 5, 6, 7, 8, 9, 10, 11, 12, 13] .nil) ?_ | refine ⟨(f.rt.getD k 0).toNat, _, by omega, hgl, ?_⟩ | fail); all_goals try (conv => whnf)
      · rw [if_pos (by omega)] at hH
        exact ⟨rfl, by rw [hat (by omega), hH]; rfl⟩
      · rw [if_pos (by omega)] at hH
        exact ⟨rfl, by rw [hat (by omega), hH]; rfl⟩
      · rw [if_neg (by omega)] at hH
        exact ⟨k + 1, [0, 1], ⟨by omega, hst hH⟩, by omega, by (exact aL)⟩
  have hz : routeE n.ln f = 0 := by rw [hRe]; exact firstE_all fun j hj => hv j (by omega)
  rw [hz, if_neg (by omega), trf_eq] at hE
  (repeat' (conv => whnf); first | (refine aC (fun _ => ?_) (fun _ => ?_) <;> try (exfalso; omega)) | refine aS ?_ | refine aG ?_ | refine aD ?_ | refine aH ?_ | refine aP_N8 ?_ | refine aI ?_ | refine aJ ?_ | refine aW (.qs [0, 1, 2, 3, 4, 5, 6, 7, 8] .nil) ?_ | refine aW (.qs [0, 1, 2, 3, 4, 5, 6, 7, 8, 9, 10, 11, 12, 13] .nil) ?_ | fail); all_goals try (conv => whnf)
  · exact ⟨rfl, by rw [hE, if_pos (by omega)]; rfl⟩
  · exact ⟨rfl, by rw [hE, if_pos (by omega)]; rfl⟩
  · exact ⟨rfl, by rw [hE, if_pos (by omega)]; rfl⟩
  rw [if_neg (by omega)] at hE
  refine aK [] (rCurve_ok f.v f.p f.q) ?_
  (repeat' (conv => whnf); first | refine aS ?_ | refine aG ?_ | refine aD ?_ | refine aH ?_ | refine aP_N8 ?_ | refine aI ?_ | refine aJ ?_ | refine aW (.qs [0, 1, 2, 3, 4, 5, 6, 7, 8] .nil) ?_ | refine aW (.qs [0, 1, 2, 3, 4, 5, 6, 7, 8, 9, 10, 11, 12, 13] .nil) ?_ | fail); all_goals try (conv => whnf)
  refine CondOb.mk (fun h1 => ?_) (fun h1 => ?_)
  · (repeat' (conv => whnf); first | (refine aC (fun _ => ?_) (fun _ => ?_) <;> try (exfalso; omega)) | refine aS ?_ | refine aG ?_ | refine aD ?_ | refine aH ?_ | refine aP_N8 ?_ | refine aI ?_ | refine aJ ?_ | refine aW (.qs [0, 1, 2, 3, 4, 5, 6, 7, 8] .nil) ?_ | refine aW (.qs [0, 1, 2, 3, 4, 5, 6, 7, 8, 9, 10, 11, 12, 13] .nil) ?_ | fail); all_goals try (conv => whnf)
    exact ⟨rfl, by rw [hE, if_pos h1]; rfl⟩
  rw [if_neg h1] at hE
  have hvv := Classical.not_not.1 h1
  have hv1 := hvv.1
  (repeat' (conv => whnf); first | (refine aC (fun _ => ?_) (fun _ => ?_) <;> try (exfalso; omega)) | refine aS ?_ | refine aG ?_ | refine aD ?_ | refine aH ?_ | refine aP_N8 ?_ | refine aI ?_ | refine aJ ?_ | refine aW (.qs [0, 1, 2, 3, 4, 5, 6, 7, 8] .nil) ?_ | refine aW (.qs [0, 1, 2, 3, 4, 5, 6, 7, 8, 9, 10, 11, 12, 13] .nil) ?_ | fail); all_goals try (conv => whnf)
  · exact ⟨rfl, by rw [hE, if_pos (by assumption)]; rfl⟩
  rw [if_neg (by assumption)] at hE
  refine aK [] (rFinite_ok f.v f.p f.q) ?_
  (repeat' (conv => whnf); first | refine aS ?_ | refine aG ?_ | refine aD ?_ | refine aH ?_ | refine aP_N8 ?_ | refine aI ?_ | refine aJ ?_ | refine aW (.qs [0, 1, 2, 3, 4, 5, 6, 7, 8] .nil) ?_ | refine aW (.qs [0, 1, 2, 3, 4, 5, 6, 7, 8, 9, 10, 11, 12, 13] .nil) ?_ | fail); all_goals try (conv => whnf)
  refine CondOb.mk (fun h2 => ?_) (fun h2 => ?_)
  · (repeat' (conv => whnf); first | (refine aC (fun _ => ?_) (fun _ => ?_) <;> try (exfalso; omega)) | refine aS ?_ | refine aG ?_ | refine aD ?_ | refine aH ?_ | refine aP_N8 ?_ | refine aI ?_ | refine aJ ?_ | refine aW (.qs [0, 1, 2, 3, 4, 5, 6, 7, 8] .nil) ?_ | refine aW (.qs [0, 1, 2, 3, 4, 5, 6, 7, 8, 9, 10, 11, 12, 13] .nil) ?_ | fail); all_goals try (conv => whnf)
    exact ⟨rfl, by rw [hE, if_pos (fun h => h2 ⟨hvv, h⟩)]; rfl⟩
  · (repeat' (conv => whnf); first | (refine aC (fun _ => ?_) (fun _ => ?_) <;> try (exfalso; omega)) | refine aS ?_ | refine aG ?_ | refine aD ?_ | refine aH ?_ | refine aP_N8 ?_ | refine aI ?_ | refine aJ ?_ | refine aW (.qs [0, 1, 2, 3, 4, 5, 6, 7, 8] .nil) ?_ | refine aW (.qs [0, 1, 2, 3, 4, 5, 6, 7, 8, 9, 10, 11, 12, 13] .nil) ?_ | fail); all_goals try (conv => whnf)
    exact ⟨rfl, by rw [hE, if_neg (fun h => h2 fun k => h k.2)]; rfl⟩
end Go.Proofs.YtgbmiacpjmchdaaGreat
