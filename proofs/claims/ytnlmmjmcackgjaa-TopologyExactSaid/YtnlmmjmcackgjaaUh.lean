/-
  A text of the proofs of this seat: lemmas that the statements' proofs use; it states nothing of the program by itself beyond the contracts that its theorems bear. Conditions: those that stand in each theorem. Its short name: Uh.
-/
import Derived.Test.YtnlmmjmcackgjaaUv
import Derived.Test.YtnlmmjmcackgjaaUd
set_option linter.unusedVariables false
set_option linter.unusedSimpArgs false
namespace Go.Proofs.Ytnlmmjmcackgjaa
open Go.Sx Go.Np Go.Tp
set_option maxRecDepth 4000
set_option maxHeartbeats 2000000
--APPX eds_len, nts_len, ivs_len
theorem aP_Uh {A B K : Prop} (k : K) (a : A := by (simp only [zA, zT, zD, zC, zN, ints_len, zR, eds_len, nts_len, ivs_len]; omega)) (b : B := by (simp only [zA, zT, zD, zC, zN, ints_len, zR, eds_len, nts_len, ivs_len]; omega)) : (A ∧ B) ∧ K := ⟨⟨a, b⟩, k⟩
/-! the document's cut -/
theorem rbackV_ok (l : List Ed) (m a b : Nat) (hl : ∀ e ∈ l, e.1 < m ∧ e.2 < m) (hn : l.length ≤ 1000) (ha : a < m) (hb : b < m) (hm : m ≤ 1000) :
    Ctr Try.prog 61 [.vec 0, i64 m, i64 a, i64 b] [.vec 2 (eds l)] (fun r o => o = [.vec 2 (eds l)] ∧ r = i64 (farD l a m b)) := by
  refine fn_intro (E := env 1) tys_ok rfl rfl rfl Try.func61 (by kernel_rfl) rfl (by kernel_rfl) ?_
  have hg := ivs_get (F := farD l a m) hb
  have hvl := ivs_len m (farD l a m)
  (repeat' (conv => whnf); first | refine ⟨b, _, rfl, hg, ?_⟩ | refine aC (fun _ => ?_) (fun _ => ?_) | refine aS ?_ | refine aG ?_ | refine aD ?_ | refine aH ?_ | refine aP_Uh ?_ | refine aI ?_ | refine aJ ?_ | (refine aK [0] (rreachV_ok l m a hl hn ha hm) ?_) | fail); all_goals try (conv => whnf)
  exact ⟨rfl, rfl⟩
theorem rCut_err (n : Nt) (hn : NL n) (h : chkN n ≠ 0) : Ctr Try.prog 27 [ntv n] [] (fun r o => o = [] ∧ r = .psl 2 (eds [])) := by
  refine Ctr.imp ?_
  refine fn_intro (E := env 0) tys_ok rfl rfl rfl Try.func27 (by kernel_rfl) rfl (by kernel_rfl) ?_
  have cE := rEdges_err n hn h
  (repeat' (conv => whnf); first | refine aC (fun _ => ?_) (fun _ => ?_) | refine aS ?_ | refine aG ?_ | refine aD ?_ | refine aH ?_ | refine aP_Uh ?_ | refine aI ?_ | refine aJ ?_ | refine aW (.qs [0, 1, 2, 3, 4, 5, 6, 7, 8, 9, 10, 11, 12, 13] (.l 14 [] (.qs [15] .nil) .no)) ?_ | (refine aK [] cE ?_) | fail); all_goals try (conv => whnf)
  refine LoopOb.mk (Y := Unit) (st := fun _ => ⟨[(6, i64 0), (5, .vec 0), (3, .psl 2 (eds []))], [.vec 2 []]⟩) (inv := fun _ => True) (fun _ => 0) () [3] trivial (by (exact aL)) ?_
  rintro _ _
  (repeat' (conv => whnf); first | refine aS ?_ | refine aG ?_ | refine aD ?_ | refine aH ?_ | refine aP_Uh ?_ | refine aI ?_ | refine aJ ?_ | refine aW (.qs [0, 1, 2, 3, 4, 5, 6, 7, 8, 9, 10, 11, 12, 13] (.l 14 [] (.qs [15] .nil) .no)) ?_ | fail); all_goals try (conv => whnf)
  refine CondOb.mk (fun hlt => ?_) (fun hlt => ?_)
  · exfalso; simp only [eds_len, List.length_nil] at hlt; omega
  (repeat' (conv => whnf); first | refine aC (fun _ => ?_) (fun _ => ?_) | refine aS ?_ | refine aG ?_ | refine aD ?_ | refine aP_Uh ?_ | refine aI ?_ | refine aJ ?_ | refine aW (.qs [0, 1, 2, 3, 4, 5, 6, 7, 8, 9, 10, 11, 12, 13] (.l 14 [] (.qs [15] .nil) .no)) ?_ | fail); all_goals try (conv => whnf)
  refine .mk [.fa] ?_
  exact ⟨rfl, Imp.refl _⟩
theorem rCut_ok (n : Nt) (hn : NL n) (h : chkN n = 0) : Ctr Try.prog 27 [ntv n] [] (fun r o => o = [] ∧ r = .psl 2 (eds (cutF (edg (adj n) n.ln.length n.ln.length)).2)) := by
  refine Ctr.imp ?_
  refine fn_intro (E := env 0) tys_ok rfl rfl rfl Try.func27 (by kernel_rfl) rfl (by kernel_rfl) ?_
  have hL := (chkN_zero h).1
  have hE := adj_chk h
  have cE := rEdges_ok n hn h
  have hll := lnl n.ln
  generalize n.ln.length = L at *
  generalize adj n = E at *
  have hel := edg_len (E := E) (m := L) (a := L)
  have hmm : L * L ≤ 8 * 8 := Nat.mul_le_mul (by omega) (by omega)
  have hbd : ∀ e ∈ edg E L L, E e.1 e.2 = true ∧ e.1 < L ∧ e.2 < L := fun e he => let h := mem_edg.1 he; ⟨h.2.2, h.1, h.2.1⟩
  generalize edg E L L = es at *
  have hle := eds_len es
  (repeat' (conv => whnf); first | refine aC (fun _ => ?_) (fun _ => ?_) | refine aS ?_ | refine aG ?_ | refine aD ?_ | refine aH ?_ | refine aP_Uh ?_ | refine aI ?_ | refine aJ ?_ | refine aW (.qs [0, 1, 2, 3, 4, 5, 6, 7, 8, 9, 10, 11, 12, 13] (.l 14 [] (.qs [15] .nil) .no)) ?_ | (refine aK [] cE ?_) | fail); all_goals try (conv => whnf)
  refine LoopOb.mk (Y := Nat) (st := fun i => ⟨[(6, i64 i), (5, .vec 2), (4, .vec 1), (3, .psl 2 (eds es)), (1, .ptr 0 0)], [.box [.psl 1 (strs n.nm), .psl 5 (lns n.ln), .psl 8 (fls n.fl)], .vec 2 (eds (cutF (es.take i)).1), .vec 2 (eds (cutF (es.take i)).2)]⟩)
    (inv := fun i => i ≤ es.length) (fun i => es.length - i) 0 [0, 2, 3] (by omega) (by (exact aL)) ?_
  intro i hi
  have hP := cutF_ok (es.take i)
  (repeat' (conv => whnf); first | refine aS ?_ | refine aG ?_ | refine aD ?_ | refine aH ?_ | refine aP_Uh ?_ | refine aI ?_ | refine aJ ?_ | refine aW (.qs [0, 1, 2, 3, 4, 5, 6, 7, 8, 9, 10, 11, 12, 13] (.l 14 [] (.qs [15] .nil) .no)) ?_ | fail); all_goals try (conv => whnf)
  refine CondOb.mk (fun hlt => ?_) (fun hlt => ?_)
  · have hil : i < es.length := by omega
    have hg := eds_get hil
    have hxy := hbd _ (ed_memU hil)
    have hbdT : ∀ e ∈ es.take i, E e.1 e.2 = true ∧ e.1 < L ∧ e.2 < L := fun e he => hbd e (List.mem_of_mem_take he)
    have hstep : es.take (i + 1) = es.take i ++ [es.getD i (0, 0)] := by
      rw [List.take_add_one, List.getD_eq_getElem?_getD, List.getElem?_eq_getElem hil]; rfl
    have hcs : cutF (es.take (i + 1)) = cutS (cutF (es.take i)) (es.getD i (0, 0)) := by rw [hstep, cutF_snoc]
    unfold cutS at hcs
    have hol := hP.n
    rw [List.length_take] at hol
    have hm1 := fun e => (hP.m e).2
    generalize es.getD i (0, 0) = e at *
    obtain ⟨x, y⟩ := e
    generalize cutF (es.take i) = s at *
    obtain ⟨K, O⟩ := s
    dsimp only at hcs hol hxy hg hm1 ⊢
    have hKb : ∀ e ∈ K, e.1 < L ∧ e.2 < L := fun e he => (hbdT e (hm1 e (.inl he))).2
    have hG : GOK (has K) L := ⟨fun a b h => hKb (a, b) (has_true.1 h), fun a => by
      cases h : has K a a
      · rfl
      · have := (hbdT _ (hm1 _ (.inl (has_true.1 h)))).1
        rw [hE.s] at this; contradiction⟩
    have hb := (bfs_all hG (fun a b => (has_true (K := K) (a := a) (b := b)).symm) hxy.2.2 hxy.2.1).2.1
    have hoe := eds_len O
    have hke := eds_len K
    have e0 := eds_app O [(x, y)]
    have e1 := eds_app K [(x, y)]
    have hB := rbackV_ok K L y x hKb (by omega) hxy.2.2 hxy.2.1 (by omega)
    generalize farD K y L x = z at *
    (repeat' (conv => whnf); first | (refine CallOb.mk [1] hB rfl ⟨Imp.refl _, Imp.num (by rw [hll]), Imp.refl _, Imp.refl _, trivial⟩ rfl rfl ?_; rintro _ _ ⟨rfl, rfl⟩) | refine ⟨0, rfl, by omega, ?_⟩ | refine ⟨1, rfl, by omega, ?_⟩ | refine ⟨i, _, rfl, hg, ?_⟩ | refine aC (fun _ => ?_) (fun _ => ?_) | refine aS ?_ | refine aG ?_ | refine aD ?_ | refine aH ?_ | refine aP_Uh ?_ | refine aI ?_ | refine aJ ?_ | refine aW (.qs [0, 1, 2, 3, 4, 5, 6, 7, 8, 9, 10, 11, 12, 13] (.l 14 [] (.qs [15] .nil) .no)) ?_ | fail); all_goals try (conv => whnf)
    · rw [if_pos (Classical.byContradiction fun h => by have := hb.2 h; omega)] at hcs
      exact ⟨i + 1, [0, 1, 4], by omega, by omega, by rw [hcs]; dsimp only; rw [e0]; (exact aL)⟩
    · rw [if_neg (hb.1 (by omega))] at hcs
      exact ⟨i + 1, [0, 4, 2], by omega, by omega, by rw [hcs]; dsimp only; rw [e1]; (exact aL)⟩
  · have e : i = es.length := by omega
    rw [e, List.take_length]
    (repeat' (conv => whnf); first | refine aC (fun _ => ?_) (fun _ => ?_) | refine aS ?_ | refine aG ?_ | refine aD ?_ | refine aP_Uh ?_ | refine aI ?_ | refine aJ ?_ | refine aW (.qs [0, 1, 2, 3, 4, 5, 6, 7, 8, 9, 10, 11, 12, 13] (.l 14 [] (.qs [15] .nil) .no)) ?_ | fail); all_goals try (conv => whnf)
    refine .mk [.fa] ?_
    exact ⟨rfl, Imp.refl _⟩
end Go.Proofs.Ytnlmmjmcackgjaa
