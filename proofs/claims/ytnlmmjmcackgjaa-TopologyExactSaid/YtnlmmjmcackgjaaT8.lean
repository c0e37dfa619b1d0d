/-
  A text of the proofs of this seat: lemmas that the statements' proofs use; it states nothing of the program by itself beyond the contracts that its theorems bear. Conditions: those that stand in each theorem. Its short name: T8.
-/
import Derived.Test.YtnlmmjmcackgjaaT7
set_option linter.unusedVariables false
set_option linter.unusedSimpArgs false
namespace Go.Proofs.Ytnlmmjmcackgjaa
open Go.Sx Go.Np Go.Tp
set_option maxRecDepth 4000
set_option maxHeartbeats 2000000
theorem has_upd {K : List Ed} {x y : Nat} : (fun a b => if a = x ∧ b = y then true else has K a b) = has (K ++ [(x, y)]) := by
  funext a b
  rw [Bool.eq_iff_iff, has_true, List.mem_append, List.mem_singleton, Prod.mk.injEq]
  by_cases e : a = x ∧ b = y
  · rw [if_pos e]; simp [e]
  · rw [if_neg e, has_true]; simp [e]
theorem has_nil : has [] = fun _ _ => false := by funext a b; simp [has]
theorem cut_gok {E : Gr} {m i : Nat} (hE : GOK E m) : GOK (has (cutF ((edg E m m).take i)).1) m := by
  have h : ∀ a b, has (cutF ((edg E m m).take i)).1 a b = true → E a b = true := fun a b k => by
    have h1 := ((cutF_ok ((edg E m m).take i)).m (a, b)).2 (.inl (has_true.1 k))
    exact (mem_edg.1 (List.mem_of_mem_take h1)).2.2
  refine ⟨fun a b k => hE.b a b (h a b k), fun a => ?_⟩
  apply Classical.byContradiction
  intro k
  have := h a a (by simpa using k)
  rw [hE.s] at this
  contradiction
theorem aP_T8 {A B K : Prop} (k : K) (a : A := by (simp only [zA, zT, zD, zC, zN, ints_len, zR, lnl, fll, stl]; omega)) (b : B := by (simp only [zA, zT, zD, zC, zN, ints_len, zR, lnl, fll, stl]; omega)) : (A ∧ B) ∧ K := ⟨⟨a, b⟩, k⟩
theorem tCut_err (n : Nt) (hn : NL n) (h : chkN n ≠ 0) : Ctr Try.prog 26 [ntv n] [] (fun r o => o = [] ∧ r = .psl 2 (eds [])) := by
  refine Ctr.imp ?_
  refine fn_intro (E := env 0) tys_ok rfl rfl rfl Try.func26 (by kernel_rfl) rfl (by kernel_rfl) ?_
  (repeat' (conv => whnf); first | refine AsgOb.nil ?_ | (refine aC (fun _ => ?_) (fun _ => ?_) <;> try (exfalso; omega)) | refine aS ?_ | refine aG ?_ | refine aD ?_ | refine aH ?_ | refine aP_T8 ?_ | refine aI ?_ | refine aJ ?_ | refine aW (.qs [0, 1, 2, 4, 5] (.l 3 [5] (.qs [6, 7] .nil) .no)) ?_ | refine aW (.qs [0, 1, 2, 3, 4, 5, 6, 7] (.l 8 [] .nil .no)) ?_ | (refine aK [] (of_err n hn h) ?_) | (refine aK [] (blank_ok 0 (by omega)) ?_) | (refine CallOb.mk [] (gedges_ok 0 (by omega) (fun _ _ => false)) rfl ⟨Imp.nil _, trivial⟩ rfl rfl ?_; rintro _ _ ⟨rfl, rfl⟩) | fail); all_goals try (conv => whnf)
  refine LoopOb.mk (Y := Unit) (st := fun _ => ⟨[(16, i64 0), (15, i64 0), (14, .psl 2 (eds (edg (fun _ _ => false) 0 0))), (5, .nil)], []⟩) (inv := fun _ => True) (fun _ => 0) () [] trivial (by (exact aL)) ?_
  rintro _ _
  (repeat' (conv => whnf); first | refine AsgOb.nil ?_ | (refine aC (fun _ => ?_) (fun _ => ?_) <;> try (exfalso; omega)) | refine aS ?_ | refine aG ?_ | refine aD ?_ | refine aH ?_ | refine aP_T8 ?_ | refine aI ?_ | refine aJ ?_ | refine aW (.qs [0, 1, 2, 4, 5] (.l 3 [5] (.qs [6, 7] .nil) .no)) ?_ | refine aW (.qs [0, 1, 2, 3, 4, 5, 6, 7] (.l 8 [] .nil .no)) ?_ | fail); all_goals try (conv => whnf)
  exact ⟨rfl, Imp.nil _⟩
theorem tCut_ok (n : Nt) (hn : NL n) (h : chkN n = 0) : Ctr Try.prog 26 [ntv n] [] (fun r o => o = [] ∧ r = .psl 2 (eds (cutF (edg (adj n) n.ln.length n.ln.length)).2)) := by
  refine Ctr.imp ?_
  refine fn_intro (E := env 0) tys_ok rfl rfl rfl Try.func26 (by kernel_rfl) rfl (by kernel_rfl) ?_
  have hL := (chkN_zero h).1
  have cO := of_ok n hn h
  have hE := adj_chk h
  generalize n.ln.length = L at *
  generalize adj n = E at *
  have hgl := gps_len L L E
  have hed := edg_len (E := E) (m := L) (a := L)
  have hel := eds_len (edg E L L)
  have hLL : L * L ≤ 8 * 8 := Nat.mul_le_mul (by omega) (by omega)
  (repeat' (conv => whnf); first | (refine aC (fun _ => ?_) (fun _ => ?_) <;> try (exfalso; omega)) | refine aS ?_ | refine aG ?_ | refine aD ?_ | refine aH ?_ | refine aP_T8 ?_ | refine aI ?_ | refine aJ ?_ | refine aW (.qs [0, 1, 2, 4, 5] (.l 3 [5] (.qs [6, 7] .nil) .no)) ?_ | refine aW (.qs [0, 1, 2, 3, 4, 5, 6, 7] (.l 8 [] .nil .no)) ?_ | (refine aK [] cO ?_) | (refine CallOb.mk [] (blank_ok L (by omega)) rfl ⟨Imp.num (by rw [hgl]), trivial⟩ rfl rfl ?_; rintro _ _ ⟨rfl, rfl⟩) | (refine aK [] (gedges_ok L (by omega) E) ?_) | fail); all_goals try (conv => whnf)
  refine LoopOb.mk (Y := Nat) (st := fun i => ⟨[(16, i64 i), (15, i64 (eds (edg E L L)).length), (14, .psl 2 (eds (edg E L L))), (5, .vec 1), (4, .vec 0)], [.mat 1 (gms L L (has (cutF ((edg E L L).take i)).1)), .vec 2 (eds (cutF ((edg E L L).take i)).2)]⟩)
    (inv := fun i => i ≤ (edg E L L).length) (fun i => (edg E L L).length - i) 0 [2, 3] (by omega) (by rw [show (cutF ((edg E L L).take 0)).1 = [] from rfl, has_nil]; (exact aL)) ?_
  intro i hi
  have hP := cutF_ok ((edg E L L).take i)
  have hG := cut_gok (i := i) hE
  (repeat' (conv => whnf); first | refine aS ?_ | refine aG ?_ | refine aD ?_ | refine aH ?_ | refine aP_T8 ?_ | refine aI ?_ | refine aJ ?_ | refine aW (.qs [0, 1, 2, 4, 5] (.l 3 [5] (.qs [6, 7] .nil) .no)) ?_ | refine aW (.qs [0, 1, 2, 3, 4, 5, 6, 7] (.l 8 [] .nil .no)) ?_ | fail); all_goals try (conv => whnf)
  refine CondOb.mk (fun hlt => ?_) (fun hlt => ?_)
  · have hil : i < (edg E L L).length := by omega
    have hg := eds_get hil
    obtain ⟨⟨x, y⟩, he⟩ : ∃ e : Ed, e = (edg E L L).getD i (0, 0) := ⟨_, rfl⟩
    have hm : (x, y) ∈ edg E L L := by rw [he, List.getD_eq_getElem?_getD, List.getElem?_eq_getElem hil]; exact List.getElem_mem _
    have hxy := mem_edg.1 hm
    dsimp only at hxy
    rw [← he] at hg
    dsimp only at hg
    have hstep : (edg E L L).take (i + 1) = (edg E L L).take i ++ [(x, y)] := by
      rw [List.take_add_one, he, List.getD_eq_getElem?_getD, List.getElem?_eq_getElem hil]; rfl
    have hcs : cutF ((edg E L L).take (i + 1)) = cutS (cutF ((edg E L L).take i)) (x, y) := by rw [hstep, cutF_snoc]
    unfold cutS at hcs
    have hol := hP.n
    rw [List.length_take] at hol
    generalize cutF ((edg E L L).take i) = s at *
    obtain ⟨K, O⟩ := s
    dsimp only at hcs hG hP hol ⊢
    have hoe := eds_len O
    have hgm := gms_len L L (has K)
    have hgx := gms_get (n := L) (m := L) (E := has K) (a := x) (by omega)
    have hbx := bls_len L (has K x)
    have hR := reachM_ok L (by omega) (has K) hG y (by omega)
    have hgb := bls_get (f := rch (has K) y) (m := L) (b := x) (by omega)
    have hbl := bls_len L (rch (has K) y)
    cases hc : rch (has K) y x <;> rw [hc] at hgb
    · rw [if_neg (fun k => by rw [rch_true.2 k] at hc; contradiction)] at hcs
      (repeat' (conv => whnf); first | refine ⟨x, _, rfl, hgb, ?_⟩ | (refine aK [0] hR ?_) | refine ⟨0, rfl, by omega, ?_⟩ | refine ⟨1, rfl, by omega, ?_⟩ | refine ⟨i, _, rfl, hg, ?_⟩ | (refine aC (fun _ => ?_) (fun _ => ?_) <;> try (exfalso; omega)) | refine aS ?_ | refine aG ?_ | refine aD ?_ | refine aH ?_ | refine aP_T8 ?_ | refine aI ?_ | refine aJ ?_ | refine aW (.qs [0, 1, 2, 4, 5] (.l 3 [5] (.qs [6, 7] .nil) .no)) ?_ | refine aW (.qs [0, 1, 2, 3, 4, 5, 6, 7] (.l 8 [] .nil .no)) ?_ | refine ⟨x, rfl, by omega, ?_⟩ | refine And.intro (by omega) ?_ | refine ⟨_, _, rfl, hgx, by omega, ?_⟩ | refine ⟨_, _, hgx, bls_get (by omega), ?_⟩ | fail); all_goals try (conv => whnf)
      have hst : (gms L L (has K)).set x ((bls L (has K x)).set y [SV.bl true]) = gms L L (has (K ++ [(x, y)])) := by
        rw [gms_set (by omega), has_upd]
      exact ⟨i + 1, [0, 1], by omega, by omega, by rw [hcs, ← hst]; (exact aL)⟩
    · rw [if_pos (rch_true.1 hc)] at hcs
      (repeat' (conv => whnf); first | refine ⟨x, _, rfl, hgb, ?_⟩ | (refine aK [0] hR ?_) | refine ⟨0, rfl, by omega, ?_⟩ | refine ⟨1, rfl, by omega, ?_⟩ | refine ⟨i, _, rfl, hg, ?_⟩ | (refine aC (fun _ => ?_) (fun _ => ?_) <;> try (exfalso; omega)) | refine aS ?_ | refine aG ?_ | refine aD ?_ | refine aH ?_ | refine aP_T8 ?_ | refine aI ?_ | refine aJ ?_ | refine aW (.qs [0, 1, 2, 4, 5] (.l 3 [5] (.qs [6, 7] .nil) .no)) ?_ | refine aW (.qs [0, 1, 2, 3, 4, 5, 6, 7] (.l 8 [] .nil .no)) ?_ | fail); all_goals try (conv => whnf)
      exact ⟨i + 1, [0, 4], by omega, by omega, by rw [hcs]; dsimp only; rw [eds_app]; (exact aL)⟩
  · have hi2 : i = (edg E L L).length := by omega
    rw [hi2, List.take_length]
    (repeat' (conv => whnf); first | (refine aC (fun _ => ?_) (fun _ => ?_) <;> try (exfalso; omega)) | refine aS ?_ | refine aG ?_ | refine aD ?_ | refine aP_T8 ?_ | refine aI ?_ | refine aJ ?_ | refine aW (.qs [0, 1, 2, 4, 5] (.l 3 [5] (.qs [6, 7] .nil) .no)) ?_ | refine aW (.qs [0, 1, 2, 3, 4, 5, 6, 7] (.l 8 [] .nil .no)) ?_ | fail); all_goals try (conv => whnf)
    refine .mk [.fa] ?_
    (repeat' (conv => whnf); first | (refine aC (fun _ => ?_) (fun _ => ?_) <;> try (exfalso; omega)) | refine aS ?_ | refine aG ?_ | refine aD ?_ | refine aH ?_ | refine aP_T8 ?_ | refine aI ?_ | refine aJ ?_ | refine aW (.qs [0, 1, 2, 4, 5] (.l 3 [5] (.qs [6, 7] .nil) .no)) ?_ | refine aW (.qs [0, 1, 2, 3, 4, 5, 6, 7] (.l 8 [] .nil .no)) ?_ | fail); all_goals try (conv => whnf)
    exact ⟨rfl, Imp.refl _⟩
end Go.Proofs.Ytnlmmjmcackgjaa
