/-
  A text of the proofs of this seat: lemmas that the statements' proofs use; it states nothing of the program by itself beyond the contracts that its theorems bear. Conditions: those that stand in each theorem. Its short name: Fb Y10.
-/
import Derived.Test.YtgbmiacpjmchdaaGreatFm
import Derived.Test.YtgbmiacpjmchdaaGreatU1
import Derived.Test.YtgbmiacpjmchdaaGreatNq
import Derived.Test.YtgbmiacpjmchdaaGreatN9
set_option linter.unusedVariables false
set_option linter.unusedSimpArgs false
section
namespace Go.Proofs.YtgbmiacpjmchdaaGreat
open Go.Sx Go.Fq
set_option maxRecDepth 4000
set_option maxHeartbeats 2000000
theorem aP_Fb {A B K : Prop} (k : K) (a : A := by (simp only [zA, zT, zD, zC, zN, ints_len, zR, lnl, fll, stl]; omega)) (b : B := by (simp only [zA, zT, zD, zC, zN, ints_len, zR, lnl, fll, stl]; omega)) : (A ∧ B) ∧ K := ⟨⟨a, b⟩, k⟩
theorem rCompare_ok (x y u v : Int) : Ctr Tryz.prog 62 [.agg [i64 x, i64 y], .agg [i64 u, i64 v]] [] (fun r o => o = [] ∧ r = i64 (fcmp (x, y) (u, v))) := by
  refine fn_intro (E := env 0) tys_ok rfl rfl rfl Tryz.func62 (by kernel_rfl) rfl (by kernel_rfl) ?_
  (repeat' (conv => whnf); first | refine aC (fun _ => ?_) (fun _ => ?_) | refine aS ?_ | refine aG ?_ | refine aD ?_ | refine aH ?_ | refine aP_Fb ?_ | refine aI ?_ | refine aJ ?_ | refine aW (.qs [0, 1, 2, 3, 4, 5, 6, 7, 8, 9, 10, 11] .nil) ?_ | (refine aK [] (rValid_ok x y) ?_) | (refine aK [] (rValid_ok u v) ?_) | fail); all_goals try (conv => whnf)
  · exact ⟨rfl, by unfold fcmp; rw [if_neg (fun h => absurd h.1 (by assumption))]; rfl⟩
  · exact ⟨rfl, by unfold fcmp; rw [if_neg (fun h => absurd h.2 (by assumption))]; rfl⟩
  have h1 := Classical.not_not.1 ‹¬¬VF (x, y)›
  have h2 := Classical.not_not.1 ‹¬¬VF (u, v)›
  have hb := vf_mul h1 h2
  have hc := h1.cmp h2
  have hd := h2.cmp h1
  dsimp only at hb hc hd
  (repeat' (conv => whnf); first | refine aC (fun _ => ?_) (fun _ => ?_) | refine aS ?_ | refine aG ?_ | refine aD ?_ | refine aH ?_ | refine aP_Fb ?_ | refine aI ?_ | refine aJ ?_ | refine aW (.qs [0, 1, 2, 3, 4, 5, 6, 7, 8, 9, 10, 11] .nil) ?_ | fail); all_goals try (conv => whnf)
  · exact ⟨rfl, by unfold fcmp; rw [if_pos ⟨h1, h2⟩, if_pos (hc.1 (by assumption))]; rfl⟩
  · exact ⟨rfl, by unfold fcmp; rw [if_pos ⟨h1, h2⟩, if_neg (fun h => absurd (hc.2 h) (by assumption)), if_pos (hd.1 (by assumption))]; rfl⟩
  · exact ⟨rfl, by unfold fcmp; rw [if_pos ⟨h1, h2⟩, if_neg (fun h => absurd (hc.2 h) (by assumption)), if_neg (fun h => absurd (hd.2 h) (by assumption))]; rfl⟩
end Go.Proofs.YtgbmiacpjmchdaaGreat
end
section
namespace Go.Proofs.YtgbmiacpjmchdaaGreat
open Go.Sx Go.Np Go.Cv Go.Fq Go.Lp
set_option maxRecDepth 4000
set_option maxHeartbeats 2000000
theorem aP_Y10 {A B K : Prop} (k : K) (a : A := by (simp only [zA, zT, zD, zC, zN, ints_len, zR, lnl, fll, stl]; omega)) (b : B := by (simp only [zA, zT, zD, zC, zN, ints_len, zR, lnl, fll, stl]; omega)) : (A ∧ B) ∧ K := ⟨⟨a, b⟩, k⟩
/-! what is used, in the document -/
theorem rUsed_ok (n : Nt) (hn : NL n) (hb : n.fl.length ≤ 1000) (l : Int) : Ctr Tryz.prog 23 [ntv n, i64 l] [] (fun r o => o = [] ∧ r = res (usedP n l)) := by
  refine fn_intro (E := env 0) tys_ok rfl rfl rfl Tryz.func23 (by kernel_rfl) rfl (by kernel_rfl) ?_
  have cC := rCheck_ok n hn
  have hll := lnl n.ln
  have hfl := fll n.fl
  have hU : usedP n l = if chkN n ≠ 0 then (0, 0, 6) else if l < 0 ∨ (n.ln.length : Int) ≤ l then (0, 0, 2) else foldE (uStep n) (users n l) (0, 1) := rfl
  have hul : (users n l).length ≤ 1000 := by have := usr_len (n := n) (l := l) (i := n.fl.length); unfold users; omega
  have cM := rUsers_ok n hn hb l
  have hub := fun x (h : x ∈ users n l) => users_bd h
  rw [hU]
  generalize chkN n = ck at *
  generalize users n l = us at *
  have hil := ints_len us
  (repeat' (conv => whnf); first | (refine aC (fun _ => ?_) (fun _ => ?_) <;> try (exfalso; omega)) | refine aS ?_ | refine aG ?_ | refine aD ?_ | refine aH ?_ | refine aP_Y10 ?_ | refine aI ?_ | refine aJ ?_ | (refine aK [] cC ?_) | (refine aK [] cM ?_) | fail); all_goals try (conv => whnf)
  all_goals try (rw [if_pos (by assumption)]; exact ⟨rfl, rfl⟩)
  all_goals try (rw [if_neg (by assumption), if_pos (by omega)]; exact ⟨rfl, rfl⟩)
  rw [if_neg (by assumption), if_neg (by omega)]
  refine LoopOb.mk (Y := Nat × (Int × Int)) (st := fun y => ⟨[(8, i64 y.1), (7, .psl 1 (ints us)), (6, .ptr 2 0), (5, i64 0), (4, .ptr 1 0), (2, .ptr 0 0)], [.box [.psl 1 (strs n.nm), .psl 5 (lns n.ln), .psl 8 (fls n.fl)], .box [i64 0, i64 0], .box [i64 y.2.1, i64 y.2.2]]⟩)
    (inv := fun y => y.1 ≤ us.length ∧ foldE (uStep n) us (0, 1) = foldE (uStep n) (us.drop y.1) y.2) (fun y => us.length - y.1) (0, (0, 1)) [0, 1, 2] ⟨by simp, by simp⟩ (by (exact aL)) ?_
  rintro ⟨i, a⟩ ⟨hi, hF⟩
  dsimp only at hi hF ⊢
  (repeat' (conv => whnf); first | refine aS ?_ | refine aG ?_ | refine aD ?_ | refine aH ?_ | refine aP_Y10 ?_ | refine aI ?_ | refine aJ ?_ | fail); all_goals try (conv => whnf)
  refine CondOb.mk (fun hlt => ?_) (fun hlt => ?_)
  · have hil2 : i < us.length := by omega
    have hd : us.drop i = us.getD i 0 :: us.drop (i + 1) := by
      rw [List.drop_eq_getElem_cons hil2, List.getD_eq_getElem?_getD, List.getElem?_eq_getElem hil2]; rfl
    rw [hd, foldE] at hF
    have hgm := ints_get hil2
    have hx := hub _ (getD_in (d := 0) hil2)
    generalize us.getD i 0 = x at *
    have hg := flg (l := n.fl) (i := x.toNat) (by omega)
    have hUs : uStep n a x = if (rate (n.fl.getD x.toNat fl0).v (n.fl.getD x.toNat fl0).p (n.fl.getD x.toNat fl0).q).2.2 ≠ 0 then (0, 0, (rate (n.fl.getD x.toNat fl0).v (n.fl.getD x.toNat fl0).p (n.fl.getD x.toNat fl0).q).2.2)
      else fadd a ((rate (n.fl.getD x.toNat fl0).v (n.fl.getD x.toNat fl0).p (n.fl.getD x.toNat fl0).q).1, (rate (n.fl.getD x.toNat fl0).v (n.fl.getD x.toNat fl0).p (n.fl.getD x.toNat fl0).q).2.1) := rfl
    have cR := rRate_ok (n.fl.getD x.toNat fl0).v (n.fl.getD x.toNat fl0).p (n.fl.getD x.toNat fl0).q
    rw [hUs] at hF
    generalize n.fl.getD x.toNat fl0 = f at *
    generalize rate f.v f.p f.q = z at *
    obtain ⟨z1, z2, z3⟩ := z
    dsimp only [res] at cR
    dsimp only at hF
    have cA := rAdd_ok a.1 a.2 z1 z2
    by_cases h3 : z3 ≠ 0
    · rw [if_pos h3] at hF
      dsimp only at hF
      rw [if_pos h3] at hF
      rw [hF]
      (repeat' (conv => whnf); first | refine ⟨x.toNat, _, by omega, hg, ?_⟩ | refine ⟨i, _, rfl, hgm, ?_⟩ | (refine aC (fun _ => ?_) (fun _ => ?_) <;> try (exfalso; omega)) | refine aS ?_ | refine aG ?_ | refine aD ?_ | refine aH ?_ | refine aP_Y10 ?_ | refine aI ?_ | refine aJ ?_ | refine aW (.qs [0, 1, 2, 3, 4, 5, 6, 7, 8] (.l 9 [] (.qs [10, 11, 12] (.l 13 [] (.l 14 [] (.qs [15] .nil) .no) .no)) (.l 13 [8, 5, 1] (.l 9 [] (.qs [10, 11, 12] (.l 14 [] (.qs [15] .nil) .no)) .no) .no))) ?_ | (refine aK [] cR ?_) | refine And.intro ?_ ?_ | fail); all_goals try (conv => whnf)
      all_goals first | exact ⟨rfl, rfl⟩ | rfl
    · rw [if_neg h3] at hF
      generalize fadd a (z1, z2) = w at *
      obtain ⟨w1, w2, w3⟩ := w
      dsimp only [res] at cA
      dsimp only at hF
      (repeat' (conv => whnf); first | refine ⟨x.toNat, _, by omega, hg, ?_⟩ | refine ⟨i, _, rfl, hgm, ?_⟩ | (refine aC (fun _ => ?_) (fun _ => ?_) <;> try (exfalso; omega)) | refine aS ?_ | refine aG ?_ | refine aD ?_ | refine aH ?_ | refine aP_Y10 ?_ | refine aI ?_ | refine aJ ?_ | refine aW (.qs [0, 1, 2, 3, 4, 5, 6, 7, 8] (.l 9 [] (.qs [10, 11, 12] (.l 13 [] (.l 14 [] (.qs [15] .nil) .no) .no)) (.l 13 [8, 5, 1] (.l 9 [] (.qs [10, 11, 12] (.l 14 [] (.qs [15] .nil) .no)) .no) .no))) ?_ | (refine aK [] cR ?_) | (refine aK [] cA ?_) | refine And.intro ?_ ?_ | fail); all_goals try (conv => whnf)
      all_goals first
        | rfl
        | (have h := (by assumption : w3 ≠ 0); rw [if_pos h] at hF; rw [hF]; first | exact ⟨rfl, rfl⟩ | rfl)
        | (have h := (by assumption : ¬w3 ≠ 0); rw [if_neg h] at hF; exact ⟨(i + 1, (w1, w2)), [0, 1, 2], ⟨by dsimp only; omega, hF⟩, by dsimp only; omega, by (exact aL)⟩)
        | trace_state
  · have hil2 : i = us.length := by omega
    subst hil2
    rw [List.drop_length, foldE] at hF
    rw [hF]
    (repeat' (conv => whnf); first | (refine aC (fun _ => ?_) (fun _ => ?_) <;> try (exfalso; omega)) | refine aS ?_ | refine aG ?_ | refine aD ?_ | refine aH ?_ | refine aP_Y10 ?_ | refine aI ?_ | refine aJ ?_ | fail); all_goals try (conv => whnf)
    exact ⟨rfl, rfl⟩
theorem rOver_ok (n : Nt) (hn : NL n) (hb : n.fl.length ≤ 1000) : Ctr Tryz.prog 25 [ntv n] [] (fun r o => o = [] ∧ r = .tup [.psl 1 (ints (overP n).1), i64 (overP n).2]) := by
  refine Ctr.imp ?_
  refine fn_intro (E := env 0) tys_ok rfl rfl rfl Tryz.func25 (by kernel_rfl) rfl (by kernel_rfl) ?_
  have cC := rCheck_ok n hn
  have hll := lnl n.ln
  have hO : overP n = if chkN n ≠ 0 then ([], 6) else ovS n n.ln.length := rfl
  by_cases hc : chkN n ≠ 0
  · rw [hO, if_pos hc]
    (repeat' (conv => whnf); first | refine AsgOb.nil ?_ | (refine aC (fun _ => ?_) (fun _ => ?_) <;> try (exfalso; omega)) | refine aS ?_ | refine aG ?_ | refine aD ?_ | refine aH ?_ | refine aP_Y10 ?_ | refine aI ?_ | refine aJ ?_ | refine aW (.qs [0, 1, 2, 3, 4, 5, 6, 7] (.l 8 [] (.qs [9] .nil) .no)) ?_ | (refine aK [] cC ?_) | fail); all_goals try (conv => whnf)
    exact ⟨rfl, Imp.tup ⟨Imp.nil _, Imp.refl _, trivial⟩⟩
  rw [hO, if_neg hc]
  have hL := (chkN_zero (Classical.not_not.1 hc)).1
  (repeat' (conv => whnf); first | (refine aC (fun _ => ?_) (fun _ => ?_) <;> try (exfalso; omega)) | refine aS ?_ | refine aG ?_ | refine aD ?_ | refine aH ?_ | refine aP_Y10 ?_ | refine aI ?_ | refine aJ ?_ | refine aW (.qs [0, 1, 2, 3, 4, 5, 6, 7] (.l 8 [] (.qs [9] .nil) .no)) ?_ | (refine aK [] cC ?_) | fail); all_goals try (conv => whnf)
  refine LoopOb.mk (Y := Nat) (st := fun i => ⟨[(5, i64 i), (4, .vec 1), (1, .ptr 0 0)], [.box [.psl 1 (strs n.nm), .psl 5 (lns n.ln), .psl 8 (fls n.fl)], .vec 1 (ints (ovS n i).1)]⟩)
    (inv := fun i => i ≤ n.ln.length ∧ (ovS n i).2 = 0) (fun i => n.ln.length - i) 0 [0, 2] ⟨by omega, rfl⟩ (by (exact aL)) ?_
  rintro i ⟨hi, hz⟩
  have hol := ints_len (ovS n i).1
  have hov := ovS_len n i
  (repeat' (conv => whnf); first | refine aS ?_ | refine aG ?_ | refine aD ?_ | refine aH ?_ | refine aP_Y10 ?_ | refine aI ?_ | refine aJ ?_ | refine aW (.qs [0, 1, 2, 3, 4, 5, 6, 7] (.l 8 [] (.qs [9] .nil) .no)) ?_ | fail); all_goals try (conv => whnf)
  refine CondOb.mk (fun hlt => ?_) (fun hlt => ?_)
  · have hil : i < n.ln.length := by omega
    have hg := lng hil
    have cU := rUsed_ok n hn hb i
    have hst : ovS n (i + 1) = if (usedP n i).2.2 ≠ 0 then ([], (usedP n i).2.2) else if 0 < fcmp ((usedP n i).1, (usedP n i).2.1) ((n.ln.getD i ln0).c, 1) then ((ovS n i).1 ++ [(i : Int)], 0) else ((ovS n i).1, 0) := by
      simp only [ovS]; rw [if_neg (by omega)]
    have hge : (ovS n (i + 1)).2 ≠ 0 → ovS n n.ln.length = ovS n (i + 1) := fun h => ovS_ge (by omega) h
    generalize n.ln.getD i ln0 = ll at *
    generalize usedP n i = U at *
    obtain ⟨u1, u2, u3⟩ := U
    dsimp only [res] at cU hst
    (repeat' (conv => whnf); first | refine ⟨i, _, rfl, hg, ?_⟩ | refine AsgOb.nil ?_ | (refine aC (fun _ => ?_) (fun _ => ?_) <;> try (exfalso; omega)) | refine aS ?_ | refine aG ?_ | refine aD ?_ | refine aH ?_ | refine aP_Y10 ?_ | refine aI ?_ | refine aJ ?_ | refine aW (.qs [0, 1, 2, 3, 4, 5, 6, 7] (.l 8 [] (.qs [9] .nil) .no)) ?_ | (refine aK [] cU ?_) | (refine aK [] (rCompare_ok u1 u2 ll.c 1) ?_) | fail); all_goals try (conv => whnf)
    all_goals first
      | (have h := (by assumption : u3 ≠ 0); rw [if_pos h] at hst; rw [hge (by rw [hst]; exact h), hst]; exact ⟨rfl, Imp.tup ⟨Imp.nil _, Imp.refl _, trivial⟩⟩)
      | (have h := (by assumption : ¬u3 ≠ 0); have h2 := (by assumption : 0 < fcmp (u1, u2) (ll.c, 1)); rw [if_neg h, if_pos h2] at hst; refine ⟨i + 1, [0, 4], ⟨by omega, by rw [hst]⟩, by omega, ?_⟩; rw [hst]; dsimp only; rw [ints_app]; (exact aL); done)
      | (have h := (by assumption : ¬u3 ≠ 0); have h2 := (by assumption : ¬0 < fcmp (u1, u2) (ll.c, 1)); rw [if_neg h, if_neg h2] at hst; refine ⟨i + 1, [0, 1], ⟨by omega, by rw [hst]⟩, by omega, ?_⟩; rw [hst]; (exact aL); done)
      | trace_state
  · have hil : i = n.ln.length := by omega
    subst hil
    (repeat' (conv => whnf); first | (refine aC (fun _ => ?_) (fun _ => ?_) <;> try (exfalso; omega)) | refine aS ?_ | refine aG ?_ | refine aD ?_ | refine aP_Y10 ?_ | refine aI ?_ | refine aJ ?_ | refine aW (.qs [0, 1, 2, 3, 4, 5, 6, 7] (.l 8 [] (.qs [9] .nil) .no)) ?_ | fail); all_goals try (conv => whnf)
    refine .mk [.fa] ?_
    (repeat' (conv => whnf); first | (refine aC (fun _ => ?_) (fun _ => ?_) <;> try (exfalso; omega)) | refine aS ?_ | refine aG ?_ | refine aD ?_ | refine aH ?_ | refine aP_Y10 ?_ | refine aI ?_ | refine aJ ?_ | refine aW (.qs [0, 1, 2, 3, 4, 5, 6, 7] (.l 8 [] (.qs [9] .nil) .no)) ?_ | fail); all_goals try (conv => whnf)
    rw [hz]
    exact ⟨rfl, Imp.refl _⟩
end Go.Proofs.YtgbmiacpjmchdaaGreat
end
