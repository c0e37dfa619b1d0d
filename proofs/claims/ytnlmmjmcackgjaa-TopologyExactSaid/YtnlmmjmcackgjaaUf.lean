/-
  A text of the proofs of this seat: lemmas that the statements' proofs use; it states nothing of the program by itself beyond the contracts that its theorems bear. Conditions: those that stand in each theorem. Its short name: Uf.
-/
import Derived.Test.YtnlmmjmcackgjaaUe
import Derived.Test.YtnlmmjmcackgjaaUg
set_option linter.unusedVariables false
set_option linter.unusedSimpArgs false
namespace Go.Proofs.Ytnlmmjmcackgjaa
open Go.Sx Go.Np Go.Tp
set_option maxRecDepth 4000
set_option maxHeartbeats 2000000
--APPX eds_len, nts_len, ivs_len
/-! the document's levels -/
theorem rOrder_some (n : Nt) (hn : NL n) (h : chkN n = 0) {l : List Nat} (hl : ord (adj n) n.ln.length = some l) : Ctr Try.prog 20 [ntv n] [] (fun r o => o = [] ∧ r = .tup [.psl 1 (nts l), .bl true]) :=
  (rOrder_ok n hn h).weak fun r o ⟨x, hx, h1, h2⟩ => by rw [hl] at hx; subst hx; exact ⟨h1, h2⟩
theorem rOrder_none (n : Nt) (hn : NL n) (h : chkN n = 0) (hl : ord (adj n) n.ln.length = none) : Ctr Try.prog 20 [ntv n] [] (fun r o => o = [] ∧ r = .tup [.psl 1 (nts []), .bl false]) :=
  (rOrder_ok n hn h).weak fun r o ⟨x, hx, h1, h2⟩ => by rw [hl] at hx; subst hx; exact ⟨h1, h2⟩
theorem aP_Uf {A B K : Prop} (k : K) (a : A := by (simp only [zA, zT, zD, zC, zN, ints_len, zR, eds_len, nts_len, ivs_len]; omega)) (b : B := by (simp only [zA, zT, zD, zC, zN, ints_len, zR, eds_len, nts_len, ivs_len]; omega)) : (A ∧ B) ∧ K := ⟨⟨a, b⟩, k⟩
theorem rLevels_err (n : Nt) (hn : NL n) (h : chkN n ≠ 0) : Ctr Try.prog 22 [ntv n] [] (fun r o => o = [] ∧ r = .tup [.psl 1 (nts []), .bl false]) := by
  refine Ctr.imp ?_
  refine fn_intro (E := env 0) tys_ok rfl rfl rfl Try.func22 (by kernel_rfl) rfl (by kernel_rfl) ?_
  (repeat' (conv => whnf); first | refine AsgOb.nil ?_ | (refine aC (fun _ => ?_) (fun _ => ?_) <;> try (exfalso; omega)) | refine aS ?_ | refine aG ?_ | refine aD ?_ | refine aH ?_ | refine aP_Uf ?_ | refine aI ?_ | refine aJ ?_ | refine aW (.qs [0, 1, 2, 3, 4, 5, 6, 7, 8, 9] .nil) ?_ | refine aW (.qs [0, 1, 2, 3, 4, 5, 6, 7, 8, 9, 10, 11, 12, 13, 14, 15, 16, 17, 18, 19, 20, 21, 22] (.l 23 [] .nil .no)) ?_ | (refine aK [] (rOrder_err n hn h) ?_) | fail); all_goals try (conv => whnf)
  exact ⟨rfl, Imp.tup ⟨Imp.nil _, Imp.refl _, trivial⟩⟩
theorem rLevels_none (n : Nt) (hn : NL n) (h : chkN n = 0) (hl : ord (adj n) n.ln.length = none) : Ctr Try.prog 22 [ntv n] [] (fun r o => o = [] ∧ r = .tup [.psl 1 (nts []), .bl false]) := by
  refine Ctr.imp ?_
  refine fn_intro (E := env 0) tys_ok rfl rfl rfl Try.func22 (by kernel_rfl) rfl (by kernel_rfl) ?_
  (repeat' (conv => whnf); first | refine AsgOb.nil ?_ | (refine aC (fun _ => ?_) (fun _ => ?_) <;> try (exfalso; omega)) | refine aS ?_ | refine aG ?_ | refine aD ?_ | refine aH ?_ | refine aP_Uf ?_ | refine aI ?_ | refine aJ ?_ | refine aW (.qs [0, 1, 2, 3, 4, 5, 6, 7, 8, 9] .nil) ?_ | refine aW (.qs [0, 1, 2, 3, 4, 5, 6, 7, 8, 9, 10, 11, 12, 13, 14, 15, 16, 17, 18, 19, 20, 21, 22] (.l 23 [] .nil .no)) ?_ | (refine aK [] (rOrder_none n hn h hl) ?_) | fail); all_goals try (conv => whnf)
  exact ⟨rfl, Imp.tup ⟨Imp.nil _, Imp.refl _, trivial⟩⟩
theorem rLevels_some (n : Nt) (hn : NL n) (h : chkN n = 0) {l : List Nat} (hl : ord (adj n) n.ln.length = some l) : Ctr Try.prog 22 [ntv n] [] (fun r o => o = [] ∧ r = .tup [.psl 1 (ivs n.ln.length fun b => (lvs (adj n) l b : Nat)), .bl true]) := by
  refine Ctr.imp ?_
  refine fn_intro (E := env 0) tys_ok rfl rfl rfl Try.func22 (by kernel_rfl) rfl (by kernel_rfl) ?_
  have cT := rOrder_some n hn h hl
  have cE := rEdges_ok n hn h
  have hE := adj_chk h
  obtain ⟨hT, hTl, _⟩ := ord_some hE hl
  have hL := (chkN_zero h).1
  have hll := lnl n.ln
  generalize n.ln.length = L at *
  generalize adj n = E at *
  have hel := edg_len (E := E) (m := L) (a := L)
  have hmm : L * L ≤ 8 * 8 := Nat.mul_le_mul (by omega) (by omega)
  have hmem : ∀ e, e ∈ edg E L L ↔ E e.1 e.2 = true := fun e => by
    rw [mem_edg]
    exact ⟨fun h => h.2.2, fun h => ⟨(hE.b _ _ h).1, (hE.b _ _ h).2, h⟩⟩
  generalize edg E L L = es at *
  have hle := eds_len es
  have hrep := ivs_zero L
  have hnl := nts_len l
  (repeat' (conv => whnf); first | refine aC (fun _ => ?_) (fun _ => ?_) | refine aS ?_ | refine aG ?_ | refine aD ?_ | refine aH ?_ | refine aP_Uf ?_ | refine aI ?_ | refine aJ ?_ | refine ⟨_, _, rfl, rfl, Nat.le_refl _, ⟨by (simp only; omega), by omega⟩, ?_⟩ | refine aW (.qs [0, 1, 2, 3, 4, 5, 6, 7, 8, 9] .nil) ?_ | refine aW (.qs [0, 1, 2, 3, 4, 5, 6, 7, 8, 9, 10, 11, 12, 13, 14, 15, 16, 17, 18, 19, 20, 21, 22] (.l 23 [] .nil .no)) ?_ | (refine aK [] cT ?_) | (refine aK [] cE ?_) | fail); all_goals try (conv => whnf)
  have e0 : List.replicate (lns n.ln).length [i64 0] = ivs L (fun b => (((fun _ => 0 : Nat → Nat) b : Nat) : Int)) := by rw [hll]; exact hrep
  refine LoopOb.mk (Y := Nat × (Nat → Nat)) (st := fun y => ⟨[(8, i64 y.1), (7, .vec 0), (6, .psl 2 (eds es)), (4, .psl 1 (nts l))], [.vec 1 (ivs L fun b => (y.2 b : Int))]⟩)
    (inv := fun y => y.1 ≤ L ∧ (∀ b, y.2 b ≤ y.1) ∧ LvA E l y.1 y.2) (fun y => L - y.1) (0, fun _ => 0) [2] ⟨by simp, by simp, LvA.zero E l⟩ (by rw [← e0]; (exact aL)) ?_
  clear e0
  rintro ⟨i, V⟩ ⟨hi, hV, hA⟩
  dsimp only at hi hV hA ⊢
  (repeat' (conv => whnf); first | refine aS ?_ | refine aG ?_ | refine aD ?_ | refine aH ?_ | refine aP_Uf ?_ | refine aI ?_ | refine aJ ?_ | refine aW (.qs [0, 1, 2, 3, 4, 5, 6, 7, 8, 9] .nil) ?_ | refine aW (.qs [0, 1, 2, 3, 4, 5, 6, 7, 8, 9, 10, 11, 12, 13, 14, 15, 16, 17, 18, 19, 20, 21, 22] (.l 23 [] .nil .no)) ?_ | fail); all_goals try (conv => whnf)
  refine CondOb.mk (fun hlt => ?_) (fun hlt => ?_)
  · have hil : i < l.length := by omega
    have ha : l.getD i 0 < L := hT.b _ (getD_mem hil)
    have hgi := nts_get hil
    have hVa : V (l.getD i 0) = 0 := hA.z _ fun j hj e => by
      have := nodup_at hT.n (by omega) hil e; omega
    have hstep := fun z h1 h2 => hA.step (z := z) hT hil h1 h2 hE.s
    generalize l.getD i 0 = a at *
    have e1 : ivs L (fun b => (V b : Int)) = ivs L (fun b => ((if b = a then 0 else V b : Nat) : Int)) := ivs_congr fun b _ => by
      by_cases e : b = a
      · subst e; rw [if_pos rfl, hVa]
      · rw [if_neg e]
    (repeat' (conv => whnf); first | refine aC (fun _ => ?_) (fun _ => ?_) | refine aS ?_ | refine aG ?_ | refine aD ?_ | refine aH ?_ | refine aP_Uf ?_ | refine aI ?_ | refine aJ ?_ | refine aW (.qs [0, 1, 2, 3, 4, 5, 6, 7, 8, 9] .nil) ?_ | refine aW (.qs [0, 1, 2, 3, 4, 5, 6, 7, 8, 9, 10, 11, 12, 13, 14, 15, 16, 17, 18, 19, 20, 21, 22] (.l 23 [] .nil .no)) ?_ | fail); all_goals try (conv => whnf)
    refine LoopOb.mk (Y := Nat × Nat) (st := fun y => ⟨[(9, i64 y.1), (8, i64 i), (7, .vec 0), (6, .psl 2 (eds es)), (4, .psl 1 (nts l))], [.vec 1 (ivs L fun b => ((if b = a then y.2 else V b : Nat) : Int))]⟩)
      (inv := fun y => y.1 ≤ es.length ∧ y.2 ≤ i + 1 ∧ (∀ e ∈ es.take y.1, e.2 = a → V e.1 + 1 ≤ y.2) ∧ (y.2 = 0 ∨ ∃ e ∈ es.take y.1, e.2 = a ∧ y.2 = V e.1 + 1)) (fun y => es.length - y.1) (0, 0) [0] ⟨by simp, by simp, by simp, by simp⟩ (by rw [← e1]; (exact aL)) ?_
    rintro ⟨k, z⟩ ⟨hk, hz, h1, h2⟩
    dsimp only at hk hz h1 h2 ⊢
    (repeat' (conv => whnf); first | refine aS ?_ | refine aG ?_ | refine aD ?_ | refine aH ?_ | refine aP_Uf ?_ | refine aI ?_ | refine aJ ?_ | refine aW (.qs [0, 1, 2, 3, 4, 5, 6, 7, 8, 9] .nil) ?_ | refine aW (.qs [0, 1, 2, 3, 4, 5, 6, 7, 8, 9, 10, 11, 12, 13, 14, 15, 16, 17, 18, 19, 20, 21, 22] (.l 23 [] .nil .no)) ?_ | fail); all_goals try (conv => whnf)
    refine CondOb.mk (fun hlt2 => ?_) (fun hlt2 => ?_)
    · have hkl : k < es.length := by omega
      have hg := eds_get hkl
      have hxy := (hmem _).1 (ed_memU hkl)
      have hst : ∀ e, e ∈ es.take (k + 1) ↔ e ∈ es.take k ∨ e = es.getD k (0, 0) := fun e => by
        rw [List.take_add_one, List.mem_append, List.getD_eq_getElem?_getD, List.getElem?_eq_getElem hkl]; simp
      generalize es.getD k (0, 0) = e at *
      obtain ⟨x, y⟩ := e
      dsimp only at hg hxy
      have hb := hE.b _ _ hxy
      have gx := ivs_get (F := fun b => ((if b = a then z else V b : Nat) : Int)) hb.1
      have ga := ivs_get (F := fun b => ((if b = a then z else V b : Nat) : Int)) ha
      have hvl := ivs_len L (fun b => ((if b = a then z else V b : Nat) : Int))
      have hset := fun v => ivs_set (m := L) (b := a) (F := fun b => ((if b = a then z else V b : Nat) : Int)) (v := v)
      rw [if_pos rfl] at ga
      have hVx := hV x
      have hwv : y = a → (if x = a then z else V x) = V x := fun e => if_neg fun e' => by
        subst e e'; rw [hE.s] at hxy; contradiction
      have hwb : (if x = a then z else V x) ≤ i + 1 := by split <;> omega
      generalize (if x = a then z else V x) = w at *
      (repeat' (conv => whnf); first | refine ⟨_, ga, ?_⟩ | refine ⟨_, gx, ?_⟩ | refine ⟨x, rfl, by omega, ?_⟩ | refine ⟨a, rfl, by omega, ?_⟩ | refine ⟨1, rfl, by omega, ?_⟩ | refine ⟨0, rfl, by omega, ?_⟩ | refine ⟨k, _, rfl, hg, ?_⟩ | refine ⟨i, _, rfl, hgi, ?_⟩ | refine aC (fun _ => ?_) (fun _ => ?_) | refine aS ?_ | refine aG ?_ | refine aD ?_ | refine aH ?_ | refine aP_Uf ?_ | refine aI ?_ | refine aJ ?_ | refine aW (.qs [0, 1, 2, 3, 4, 5, 6, 7, 8, 9] .nil) ?_ | refine aW (.qs [0, 1, 2, 3, 4, 5, 6, 7, 8, 9, 10, 11, 12, 13, 14, 15, 16, 17, 18, 19, 20, 21, 22] (.l 23 [] .nil .no)) ?_ | fail); all_goals try (conv => whnf)
      · have hya : y = a := by omega
        have hw := hwv hya
        have hz2 : ivs L (fun b => ((if b = a then max z (w + 1) else V b : Nat) : Int)) = (ivs L (fun b => ((if b = a then z else V b : Nat) : Int))).set a [i64 (max (z : Int) ((w : Int) + 1))] := by
          rw [hset]
          refine ivs_congr fun b _ => ?_
          by_cases e : b = a
          · rw [if_pos e, if_pos e]; omega
          · rw [if_neg e, if_neg e, if_neg e]
        refine ⟨(k + 1, max z (w + 1)), [0], ⟨by dsimp only; omega, by dsimp only; omega, fun e he hea => ?_, ?_⟩, by dsimp only; omega, by dsimp only; rw [hz2]; (exact aL)⟩
        · dsimp only
          rcases (hst e).1 he with h3 | rfl
          · have := h1 e h3 hea
            omega
          · dsimp only
            omega
        · dsimp only
          by_cases e : z ≤ w + 1
          · exact .inr ⟨(x, y), (hst _).2 (.inr rfl), hya, by dsimp only; omega⟩
          · rcases h2 with h2 | ⟨e, h3, h4, h5⟩
            · omega
            · exact .inr ⟨e, (hst e).2 (.inl h3), h4, by omega⟩
      · refine ⟨(k + 1, z), [0], ⟨by dsimp only; omega, hz, fun e he hea => ?_, ?_⟩, by dsimp only; omega, by (exact aL)⟩
        · rcases (hst e).1 he with h3 | rfl
          · exact h1 e h3 hea
          · exact absurd hea (by dsimp only; omega)
        · rcases h2 with h2 | ⟨e, h3, h4⟩
          · exact .inl h2
          · exact .inr ⟨e, (hst e).2 (.inl h3), h4⟩
    · (repeat' (conv => whnf); first | refine aC (fun _ => ?_) (fun _ => ?_) | refine aS ?_ | refine aG ?_ | refine aD ?_ | refine aH ?_ | refine aP_Uf ?_ | refine aI ?_ | refine aJ ?_ | refine aW (.qs [0, 1, 2, 3, 4, 5, 6, 7, 8, 9] .nil) ?_ | refine aW (.qs [0, 1, 2, 3, 4, 5, 6, 7, 8, 9, 10, 11, 12, 13, 14, 15, 16, 17, 18, 19, 20, 21, 22] (.l 23 [] .nil .no)) ?_ | fail); all_goals try (conv => whnf)
      have e : k = es.length := by omega
      subst e
      rw [List.take_length] at h1 h2
      refine ⟨(i + 1, fun b => if b = a then z else V b), [0], ⟨by dsimp only; omega, fun b => ?_, hstep z (fun c hc => h1 (c, a) ((hmem _).2 hc) rfl) ?_⟩, by dsimp only; omega, by (exact aL)⟩
      · dsimp only
        have := hV b
        split <;> omega
      · rcases h2 with h2 | ⟨⟨c, d⟩, h3, rfl, h4⟩
        · exact .inl h2
        · exact .inr ⟨c, (hmem _).1 h3, h4⟩
  have e : i = L := by omega
  subst e
  have hu := (hA.end hE hT hTl).uniq (lvs_ok hE hT hTl)
  have hiv : ivs i (fun b => (V b : Int)) = ivs i (fun b => (lvs E l b : Nat)) := ivs_congr fun b _ => by rw [hu b]
  (repeat' (conv => whnf); first | refine aC (fun _ => ?_) (fun _ => ?_) | refine aS ?_ | refine aG ?_ | refine aD ?_ | refine aP_Uf ?_ | refine aI ?_ | refine aJ ?_ | refine aW (.qs [0, 1, 2, 3, 4, 5, 6, 7, 8, 9] .nil) ?_ | refine aW (.qs [0, 1, 2, 3, 4, 5, 6, 7, 8, 9, 10, 11, 12, 13, 14, 15, 16, 17, 18, 19, 20, 21, 22] (.l 23 [] .nil .no)) ?_ | fail); all_goals try (conv => whnf)
  refine .mk [.fa] ?_
  exact ⟨rfl, by rw [← hiv]; exact Imp.tup ⟨Imp.refl _, Imp.refl _, trivial⟩⟩
end Go.Proofs.Ytnlmmjmcackgjaa
