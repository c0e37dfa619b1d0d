/-
  A text of the proofs of this seat: lemmas that the statements' proofs use; it states nothing of the program by itself beyond the contracts that its theorems bear. Conditions: those that stand in each theorem. Its short name: N9.
-/
import Derived.Test.YtgbmiacpjmchdaaGreatN8
set_option linter.unusedVariables false
set_option linter.unusedSimpArgs false
namespace Go.Proofs.YtgbmiacpjmchdaaGreat
open Go.Sx Go.Np Go.Cv
set_option maxRecDepth 4000
set_option maxHeartbeats 2000000
theorem mem_take_s {l : List ByteArray} {i : Nat} {s : ByteArray} (hi : i ≤ l.length) : s ∈ l.take i ↔ ∃ j, j < i ∧ l.getD j bs0 = s := by
  constructor
  · intro h
    obtain ⟨j, h1, h2, e2⟩ := mem_take (d := bs0) h
    exact ⟨j, h1, e2.symm⟩
  · rintro ⟨j, h1, h2⟩
    refine List.mem_iff_getElem.2 ⟨j, by rw [List.length_take]; omega, ?_⟩
    rw [List.getElem_take, ← h2]; simp [List.getD_eq_getElem?_getD, show j < l.length by omega]
theorem aP_N9 {A B K : Prop} (k : K) (a : A := by (simp only [zA, zT, zD, zC, zN, ints_len, zR, lnl, fll, stl]; omega)) (b : B := by (simp only [zA, zT, zD, zC, zN, ints_len, zR, lnl, fll, stl]; omega)) : (A ∧ B) ∧ K := ⟨⟨a, b⟩, k⟩
theorem rCheck_ok (n : Nt) (hn : NL n) : Ctr Tryz.prog 37 [ntv n] [] (fun r o => o = [] ∧ r = i64 (chkN n)) := by
  refine fn_intro (E := env 0) tys_ok rfl rfl rfl Tryz.func37 (by kernel_rfl) rfl (by kernel_rfl) ?_
  have h1 := hn.nm
  have h2 := hn.ln
  have h3 := hn.fl
  have hs := stl n.nm
  have hll := lnl n.ln
  have hfl := fll n.fl
  (repeat' (conv => whnf); first | (refine aC (fun _ => ?_) (fun _ => ?_) <;> try (exfalso; omega)) | refine aS ?_ | refine aG ?_ | refine aD ?_ | refine aH ?_ | refine aP_N9 ?_ | refine aI ?_ | refine aJ ?_ | refine aW (.qs [0, 1, 2, 3, 4, 5, 6, 7, 8, 9, 10] .nil) ?_ | fail); all_goals try (conv => whnf)
  · exact ⟨rfl, by unfold chkN; rw [if_pos (by omega)]; rfl⟩
  · exact ⟨rfl, by unfold chkN; rw [if_pos (by omega)]; rfl⟩
  · exact ⟨rfl, by unfold chkN; rw [if_pos (by omega)]; rfl⟩
  · exact ⟨rfl, by unfold chkN; rw [if_neg (by omega), if_pos (by omega)]; rfl⟩
  have g1 : ¬(n.ln.length = 0 ∨ 8 < n.ln.length ∨ 10 < n.fl.length) := by omega
  have g2 : n.nm.length = n.ln.length := by omega
  refine LoopOb.mk (Y := Nat) (st := fun i => ⟨[(3, i64 i), (1, .ptr 0 0)], [.box [.psl 1 (strs n.nm), .psl 5 (lns n.ln), .psl 8 (fls n.fl)]]⟩)
    (inv := fun i => i ≤ n.ln.length ∧ ∀ j < i, lineE n j = 0) (fun i => n.ln.length - i) 0 [0] ⟨by omega, by omega⟩ (by (exact aL)) ?_
  rintro i ⟨hi, hv⟩
  (repeat' (conv => whnf); first | refine aS ?_ | refine aG ?_ | refine aD ?_ | refine aH ?_ | refine aP_N9 ?_ | refine aI ?_ | refine aJ ?_ | refine aW (.qs [0, 1, 2, 3, 4, 5, 6, 7, 8, 9, 10] .nil) ?_ | fail); all_goals try (conv => whnf)
  refine CondOb.mk (fun hlt => ?_) (fun hlt => ?_)
  · have hil : i < n.ln.length := by omega
    have hE : lineE n i = if nmErr (n.nm.take i) (n.nm.getD i bs0) ≠ 0 then nmErr (n.nm.take i) (n.nm.getD i bs0) else lnErr (n.ln.getD i ln0) := rfl
    have hst : lineE n i = 0 → ∀ j < i + 1, lineE n j = 0 := fun h j hj => by
      by_cases e : j = i
      · rw [e]; exact h
      · exact hv j (by omega)
    have hat : lineE n i ≠ 0 → chkN n = lineE n i := fun h => chkN_line g1 g2 hil hv h
    have hg := lng hil
    have hsg := stg (l := n.nm) (i := i) (by omega)
    have hL := hn.lnat hil
    have hS := hn.ns _ (getD_in (d := bs0) (show i < n.nm.length by omega))
    have n4 := nm4 (met := n.nm.take i) (s := n.nm.getD i bs0)
    have n60 := nm60 (met := n.nm.take i) (s := n.nm.getD i bs0)
    have n0 := nm_fresh (met := n.nm.take i) (s := n.nm.getD i bs0)
    have hmem := mem_take_s (l := n.nm) (i := i) (s := n.nm.getD i bs0) (by omega)
    generalize n.ln.getD i ln0 = l at *
    have cL := rlCheck_ok l hL
    generalize hse : n.nm.getD i bs0 = s at *
    generalize nmErr (n.nm.take i) s = e1 at *
    generalize lnErr l = e2 at *
    generalize lineE n i = E at *
    (repeat' (conv => whnf); first | (refine aC (fun _ => ?_) (fun _ => ?_) <;> try (exfalso; omega)) | refine aS ?_ | refine aG ?_ | refine aD ?_ | refine aH ?_ | refine aP_N9 ?_ | refine aI ?_ | refine aJ ?_ | refine aW (.qs [0, 1, 2, 3, 4, 5, 6, 7, 8, 9, 10] .nil) ?_ | refine ⟨i, _, rfl, hsg, ?_⟩ | (refine aK [] (rWord_ok s hS) ?_) | fail); all_goals try (conv => whnf)
    · have e := n4 (by assumption)
      rw [if_pos (by omega)] at hE
      exact ⟨rfl, by rw [hat (by omega), hE, e]; rfl⟩
    have hw := Classical.not_not.1 ‹¬¬WordP s›
    have n60 := n60 hw
    have n0 := n0 hw
    clear n4
    refine LoopOb.mk (Y := Nat) (st := fun k => ⟨[(4, i64 k), (3, i64 i), (1, .ptr 0 0)], [.box [.psl 1 (strs n.nm), .psl 5 (lns n.ln), .psl 8 (fls n.fl)]]⟩)
      (inv := fun k => k ≤ i ∧ ∀ j < k, ¬n.nm.getD j bs0 = s) (fun k => i - k) 0 [0] ⟨by omega, by omega⟩ (by (exact aL)) ?_
    rintro k ⟨hk, hv2⟩
    (repeat' (conv => whnf); first | refine aS ?_ | refine aG ?_ | refine aD ?_ | refine aH ?_ | refine aP_N9 ?_ | refine aI ?_ | refine aJ ?_ | refine aW (.qs [0, 1, 2, 3, 4, 5, 6, 7, 8, 9, 10] .nil) ?_ | fail); all_goals try (conv => whnf)
    refine CondOb.mk (fun hlt2 => ?_) (fun hlt2 => ?_)
    · have hgk := stg (l := n.nm) (i := k) (by omega)
      have hst2 : ¬n.nm.getD k bs0 = s → ∀ j < k + 1, ¬n.nm.getD j bs0 = s := fun h j hj => by
        by_cases e : j = k
        · rw [e]; exact h
        · exact hv2 j (by omega)
      have hin : n.nm.getD k bs0 = s → e1 = 60 := fun h => n60 (hmem.2 ⟨k, by omega, h⟩)
      generalize n.nm.getD k bs0 = g at *
      (repeat' (conv => whnf); first | (refine aC (fun _ => ?_) (fun _ => ?_) <;> try (exfalso; omega)) | refine aS ?_ | refine aG ?_ | refine aD ?_ | refine aH ?_ | refine aP_N9 ?_ | refine aI ?_ | refine aJ ?_ | refine aW (.qs [0, 1, 2, 3, 4, 5, 6, 7, 8, 9, 10] .nil) ?_ | refine ⟨k, _, rfl, hgk, ?_⟩ | refine ⟨i, _, rfl, hsg, ?_⟩ | fail); all_goals try (conv => whnf)
      · have e := hin (by assumption)
        rw [if_pos (by omega)] at hE
        exact ⟨rfl, by rw [hat (by omega), hE, e]; rfl⟩
      · exact ⟨k + 1, [0], ⟨by omega, hst2 (by assumption)⟩, by omega, by (exact aL)⟩
    have he1 : e1 = 0 := n0 fun h => by
      obtain ⟨j, hj, e⟩ := hmem.1 h
      exact hv2 j (by omega) e
    rw [if_neg (by omega)] at hE
    (repeat' (conv => whnf); first | (refine aC (fun _ => ?_) (fun _ => ?_) <;> try (exfalso; omega)) | refine aS ?_ | refine aG ?_ | refine aD ?_ | refine aH ?_ | refine aP_N9 ?_ | refine aI ?_ | refine aJ ?_ | refine aW (.qs [0, 1, 2, 3, 4, 5, 6, 7, 8, 9, 10] .nil) ?_ | refine ⟨i, _, rfl, hg, ?_⟩ | (refine aK [] cL ?_) | fail); all_goals try (conv => whnf)
    · exact ⟨rfl, by rw [hat (by omega), hE]; rfl⟩
    · exact ⟨i + 1, [0], ⟨by omega, hst (by omega)⟩, by omega, by (exact aL)⟩
  have hln : ∀ j < n.ln.length, lineE n j = 0 := fun j hj => hv j (by omega)
  (repeat' (conv => whnf); first | (refine aC (fun _ => ?_) (fun _ => ?_) <;> try (exfalso; omega)) | refine aS ?_ | refine aG ?_ | refine aD ?_ | refine aH ?_ | refine aP_N9 ?_ | refine aI ?_ | refine aJ ?_ | refine aW (.qs [0, 1, 2, 3, 4, 5, 6, 7, 8, 9, 10] .nil) ?_ | fail); all_goals try (conv => whnf)
  refine LoopOb.mk (Y := Nat) (st := fun i => ⟨[(6, i64 i), (1, .ptr 0 0)], [.box [.psl 1 (strs n.nm), .psl 5 (lns n.ln), .psl 8 (fls n.fl)]]⟩)
    (inv := fun i => i ≤ n.fl.length ∧ ∀ j < i, flowE n j = 0) (fun i => n.fl.length - i) 0 [0] ⟨by omega, by omega⟩ (by (exact aL)) ?_
  clear hv hlt hi i
  rintro i ⟨hi, hv⟩
  (repeat' (conv => whnf); first | refine aS ?_ | refine aG ?_ | refine aD ?_ | refine aH ?_ | refine aP_N9 ?_ | refine aI ?_ | refine aJ ?_ | refine aW (.qs [0, 1, 2, 3, 4, 5, 6, 7, 8, 9, 10] .nil) ?_ | fail); all_goals try (conv => whnf)
  refine CondOb.mk (fun hlt => ?_) (fun hlt => ?_)
  · have hil : i < n.fl.length := by omega
    have hst : flowE n i = 0 → ∀ j < i + 1, flowE n j = 0 := fun h j hj => by
      by_cases e : j = i
      · rw [e]; exact h
      · exact hv j (by omega)
    have hat : flowE n i ≠ 0 → chkN n = flowE n i := fun h => chkN_flow g1 g2 hln hil hv h
    have cF := rflow_ok n hn i hil
    generalize flowE n i = E at *
    (repeat' (conv => whnf); first | (refine aC (fun _ => ?_) (fun _ => ?_) <;> try (exfalso; omega)) | refine aS ?_ | refine aG ?_ | refine aD ?_ | refine aH ?_ | refine aP_N9 ?_ | refine aI ?_ | refine aJ ?_ | refine aW (.qs [0, 1, 2, 3, 4, 5, 6, 7, 8, 9, 10] .nil) ?_ | (refine aK [] cF ?_) | fail); all_goals try (conv => whnf)
    · exact ⟨rfl, by rw [hat (by omega)]; rfl⟩
    · exact ⟨i + 1, [0], ⟨by omega, hst (by omega)⟩, by omega, by (exact aL)⟩
  · (repeat' (conv => whnf); first | (refine aC (fun _ => ?_) (fun _ => ?_) <;> try (exfalso; omega)) | refine aS ?_ | refine aG ?_ | refine aD ?_ | refine aH ?_ | refine aP_N9 ?_ | refine aI ?_ | refine aJ ?_ | refine aW (.qs [0, 1, 2, 3, 4, 5, 6, 7, 8, 9, 10] .nil) ?_ | fail); all_goals try (conv => whnf)
    exact ⟨rfl, by rw [chkN_ok g1 g2 hln (fun j hj => hv j (by omega))]; rfl⟩
end Go.Proofs.YtgbmiacpjmchdaaGreat
