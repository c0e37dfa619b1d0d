/-
  A text of the proofs of this seat: lemmas that the statements' proofs use; it states nothing of the program by itself beyond the contracts that its theorems bear. Conditions: those that stand in each theorem. Its short name: Nq.
-/
import Derived.Test.YtgbmiacpjmchdaaGreatNx
set_option linter.unusedVariables false
set_option linter.unusedSimpArgs false
namespace Go.Proofs.YtgbmiacpjmchdaaGreat
open Go.Sx Go.Np Go.Cv
set_option maxRecDepth 4000
set_option maxHeartbeats 2000000
theorem aP_Nq {A B K : Prop} (k : K) (a : A := by (simp only [zA, zT, zD, zC, zN, ints_len, zR, lnl, fll, stl]; omega)) (b : B := by (simp only [zA, zT, zD, zC, zN, ints_len, zR, lnl, fll, stl]; omega)) : (A ∧ B) ∧ K := ⟨⟨a, b⟩, k⟩
theorem rHop_ok (n : Nt) (hn : NL n) (f l : Int) : Ctr Tryz.prog 51 [ntv n, i64 f, i64 l] [] (fun r o => o = [] ∧ r = i64 (hop n f l)) := by
  refine fn_intro (E := env 0) tys_ok rfl rfl rfl Tryz.func51 (by kernel_rfl) rfl (by kernel_rfl) ?_
  have hfl := fll n.fl
  have h3 := hn.fl
  (repeat' (conv => whnf); first | (refine aC (fun _ => ?_) (fun _ => ?_) <;> try (exfalso; omega)) | refine aS ?_ | refine aG ?_ | refine aD ?_ | refine aH ?_ | refine aP_Nq ?_ | refine aI ?_ | refine aJ ?_ | fail); all_goals try (conv => whnf)
  · exact ⟨rfl, by unfold hop; rw [if_pos (by omega)]; rfl⟩
  · exact ⟨rfl, by unfold hop; rw [if_pos (by omega)]; rfl⟩
  have hil : f.toNat < n.fl.length := by omega
  have hg := flg hil
  have hL := (hn.flat hil).rt
  have hE : hop n f l = if l ∈ (n.fl.getD f.toNat fl0).rt then (((n.fl.getD f.toNat fl0).rt.idxOf l : Nat) : Int) else -1 := by unfold hop; rw [if_neg (by omega)]
  generalize hop n f l = E at *
  generalize n.fl.getD f.toNat fl0 = g at *
  have hrl := ints_len g.rt
  refine LoopOb.mk (Y := Nat) (st := fun i => ⟨[(7, i64 i), (3, .ptr 0 0), (1, i64 f), (2, i64 l)], [.box [.psl 1 (strs n.nm), .psl 5 (lns n.ln), .psl 8 (fls n.fl)]]⟩)
    (inv := fun i => i ≤ g.rt.length ∧ ∀ j < i, ¬g.rt.getD j 0 = l) (fun i => g.rt.length - i) 0 [0] ⟨by omega, by omega⟩ (by (exact aL)) ?_
  rintro i ⟨hi, hv⟩
  (repeat' (conv => whnf); first | refine aS ?_ | refine aG ?_ | refine aD ?_ | refine aH ?_ | refine aP_Nq ?_ | refine aI ?_ | refine aJ ?_ | refine ⟨f.toNat, _, by omega, hg, ?_⟩ | fail); all_goals try (conv => whnf)
  refine CondOb.mk (fun hlt => ?_) (fun hlt => ?_)
  · have hst : ¬g.rt.getD i 0 = l → ∀ j < i + 1, ¬g.rt.getD j 0 = l := fun h j hj => by
      by_cases e : j = i
      · rw [e]; exact h
      · exact hv j (by omega)
    (repeat' (conv => whnf); first | (refine aC (fun _ => ?_) (fun _ => ?_) <;> try (exfalso; omega)) | refine aS ?_ | refine aG ?_ | refine aD ?_ | refine aH ?_ | refine aP_Nq ?_ | refine aI ?_ | refine aJ ?_ | refine ⟨f.toNat, _, by omega, hg, ?_⟩ | fail); all_goals try (conv => whnf)
    · obtain ⟨h1, h2⟩ := idx_at hv (by omega) (by assumption)
      exact ⟨rfl, by rw [hE, if_pos h1, h2]; rfl⟩
    · exact ⟨i + 1, [0], ⟨by omega, hst (by assumption)⟩, by omega, by (exact aL)⟩
  · (repeat' (conv => whnf); first | (refine aC (fun _ => ?_) (fun _ => ?_) <;> try (exfalso; omega)) | refine aS ?_ | refine aG ?_ | refine aD ?_ | refine aH ?_ | refine aP_Nq ?_ | refine aI ?_ | refine aJ ?_ | fail); all_goals try (conv => whnf)
    exact ⟨rfl, by rw [hE, if_neg (idx_no fun j hj => hv j (by omega))]; rfl⟩
theorem rUsers_ok (n : Nt) (hn : NL n) (hb : n.fl.length ≤ 1000) (l : Int) : Ctr Tryz.prog 58 [ntv n, i64 l] [] (fun r o => o = [] ∧ r = .psl 1 (ints (users n l))) := by
  refine Ctr.imp ?_
  refine fn_intro (E := env 0) tys_ok rfl rfl rfl Tryz.func58 (by kernel_rfl) rfl (by kernel_rfl) ?_
  have hfl := fll n.fl
  have h3 := hn.fl
  (repeat' (conv => whnf); first | (refine aC (fun _ => ?_) (fun _ => ?_) <;> try (exfalso; omega)) | refine aS ?_ | refine aG ?_ | refine aD ?_ | refine aH ?_ | refine aP_Nq ?_ | refine aI ?_ | refine aJ ?_ | fail); all_goals try (conv => whnf)
  refine LoopOb.mk (Y := Nat) (st := fun i => ⟨[(6, i64 i), (5, .vec 1), (2, .ptr 0 0), (1, i64 l)], [.box [.psl 1 (strs n.nm), .psl 5 (lns n.ln), .psl 8 (fls n.fl)], .vec 1 (ints (usr n l i))]⟩)
    (inv := fun i => i ≤ n.fl.length) (fun i => n.fl.length - i) 0 [0, 2] (by omega) (by (exact aL)) ?_
  intro i hi
  have hul := ints_len (usr n l i)
  have hub := usr_len (n := n) (l := l) (i := i)
  (repeat' (conv => whnf); first | refine aS ?_ | refine aG ?_ | refine aD ?_ | refine aH ?_ | refine aP_Nq ?_ | refine aI ?_ | refine aJ ?_ | fail); all_goals try (conv => whnf)
  refine CondOb.mk (fun hlt => ?_) (fun hlt => ?_)
  · have hs : usr n l (i + 1) = if 0 ≤ hop n i l then usr n l i ++ [(i : Int)] else usr n l i := rfl
    have cH := rHop_ok n hn i l
    generalize hop n i l = h at *
    generalize usr n l i = u at *
    (repeat' (conv => whnf); first | (refine aC (fun _ => ?_) (fun _ => ?_) <;> try (exfalso; omega)) | refine aS ?_ | refine aG ?_ | refine aD ?_ | refine aH ?_ | refine aP_Nq ?_ | refine aI ?_ | refine aJ ?_ | (refine aK [] cH ?_) | fail); all_goals try (conv => whnf)
    · rw [if_pos (by omega)] at hs
      exact ⟨i + 1, [0, 3], by omega, by omega, by rw [hs, ints_app]; (exact aL)⟩
    · rw [if_neg (by omega)] at hs
      exact ⟨i + 1, [0, 1], by omega, by omega, by rw [hs]; (exact aL)⟩
  · have e : i = n.fl.length := by omega
    subst e
    (repeat' (conv => whnf); first | refine aC (fun _ => ?_) (fun _ => ?_) | refine aS ?_ | refine aG ?_ | refine aD ?_ | refine aP_Nq ?_ | refine aI ?_ | refine aJ ?_ | fail); all_goals try (conv => whnf)
    refine .mk [.fz 1] ?_
    (repeat' (conv => whnf); first | refine aC (fun _ => ?_) (fun _ => ?_) | refine aS ?_ | refine aG ?_ | refine aD ?_ | refine aH ?_ | refine aP_Nq ?_ | refine aI ?_ | refine aJ ?_ | fail); all_goals try (conv => whnf)
    exact ⟨rfl, Imp.refl _⟩
theorem rMembers_ok (n : Nt) (hn : NL n) (hb : n.fl.length ≤ 1000) (l c : Int) : Ctr Tryz.prog 50 [ntv n, i64 l, i64 c] [] (fun r o => o = [] ∧ r = .psl 1 (ints (members n l c))) := by
  refine Ctr.imp ?_
  refine fn_intro (E := env 0) tys_ok rfl rfl rfl Tryz.func50 (by kernel_rfl) rfl (by kernel_rfl) ?_
  have hfl := fll n.fl
  have h3 := hn.fl
  (repeat' (conv => whnf); first | (refine aC (fun _ => ?_) (fun _ => ?_) <;> try (exfalso; omega)) | refine aS ?_ | refine aG ?_ | refine aD ?_ | refine aH ?_ | refine aP_Nq ?_ | refine aI ?_ | refine aJ ?_ | refine aW (.qs [0, 1, 2, 3, 4, 5, 6, 7, 8, 9, 10] .nil) ?_ | (refine aK [] (rUsers_ok n hn hb l) ?_) | fail); all_goals try (conv => whnf)
  have hul := ints_len (users n l)
  have hub := usr_len (n := n) (l := l) (i := n.fl.length)
  have hub : (users n l).length ≤ n.fl.length := hub
  have hbd : ∀ x ∈ users n l, 0 ≤ x ∧ x < n.fl.length := fun x hx => users_bd hx
  generalize hue : users n l = u at *
  refine LoopOb.mk (Y := Nat) (st := fun i => ⟨[(9, i64 i), (8, .psl 1 (ints u)), (7, .vec 1), (3, .ptr 0 0), (2, i64 c)], [.box [.psl 1 (strs n.nm), .psl 5 (lns n.ln), .psl 8 (fls n.fl)], .vec 1 (ints (mbr n c (u.take i)))]⟩)
    (inv := fun i => i ≤ u.length) (fun i => u.length - i) 0 [0, 2] (by omega) (by (exact aL)) ?_
  intro i hi
  have hml := ints_len (mbr n c (u.take i))
  have hmb := mbr_len (n := n) (c := c) (a := u.take i)
  have htl : (u.take i).length ≤ i := by rw [List.length_take]; omega
  (repeat' (conv => whnf); first | refine aS ?_ | refine aG ?_ | refine aD ?_ | refine aH ?_ | refine aP_Nq ?_ | refine aI ?_ | refine aJ ?_ | refine aW (.qs [0, 1, 2, 3, 4, 5, 6, 7, 8, 9, 10] .nil) ?_ | fail); all_goals try (conv => whnf)
  refine CondOb.mk (fun hlt => ?_) (fun hlt => ?_)
  · have hil : i < u.length := by omega
    have hs := mbr_step (n := n) (c := c) hil
    have hx := hbd _ (getD_in (d := 0) hil)
    have hg := flg (l := n.fl) (i := (u.getD i 0).toNat) (by omega)
    generalize n.fl.getD (u.getD i 0).toNat fl0 = g at *
    generalize mbr n c (u.take i) = m at *
    (repeat' (conv => whnf); first | (refine aC (fun _ => ?_) (fun _ => ?_) <;> try (exfalso; omega)) | refine aS ?_ | refine aG ?_ | refine aD ?_ | refine aH ?_ | refine aP_Nq ?_ | refine aI ?_ | refine aJ ?_ | refine aW (.qs [0, 1, 2, 3, 4, 5, 6, 7, 8, 9, 10] .nil) ?_ | refine ⟨(u.getD i 0).toNat, _, by omega, hg, ?_⟩ | fail); all_goals try (conv => whnf)
    · rw [if_pos (by omega)] at hs
      exact ⟨i + 1, [0, 3], by omega, by omega, by rw [hs, ints_app]; (exact aL)⟩
    · rw [if_neg (by omega)] at hs
      exact ⟨i + 1, [0, 1], by omega, by omega, by rw [hs]; (exact aL)⟩
  · have e : members n l c = mbr n c (u.take i) := by unfold members; rw [hue, List.take_of_length_le (by omega)]
    rw [e]
    (repeat' (conv => whnf); first | refine aC (fun _ => ?_) (fun _ => ?_) | refine aS ?_ | refine aG ?_ | refine aD ?_ | refine aP_Nq ?_ | refine aI ?_ | refine aJ ?_ | refine aW (.qs [0, 1, 2, 3, 4, 5, 6, 7, 8, 9, 10] .nil) ?_ | fail); all_goals try (conv => whnf)
    refine .mk [.fz 1] ?_
    (repeat' (conv => whnf); first | refine aC (fun _ => ?_) (fun _ => ?_) | refine aS ?_ | refine aG ?_ | refine aD ?_ | refine aH ?_ | refine aP_Nq ?_ | refine aI ?_ | refine aJ ?_ | refine aW (.qs [0, 1, 2, 3, 4, 5, 6, 7, 8, 9, 10] .nil) ?_ | fail); all_goals try (conv => whnf)
    exact ⟨rfl, Imp.refl _⟩
end Go.Proofs.YtgbmiacpjmchdaaGreat
