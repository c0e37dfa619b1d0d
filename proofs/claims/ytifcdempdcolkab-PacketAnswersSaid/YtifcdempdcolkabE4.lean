/-
  A text of the proofs of this seat: lemmas that the statements' proofs use; it states nothing of the program by itself beyond the contracts that its theorems bear. Conditions: those that stand in each theorem. Its short name: E4.
-/
import Derived.Test.YtifcdempdcolkabR7
import Derived.Test.YtifcdempdcolkabE3
set_option linter.unusedVariables false
set_option linter.unusedSimpArgs false
namespace Go.Proofs.Ytifcdempdcolkab
open Go.Sx Go.Cv
set_option maxRecDepth 4000
set_option maxHeartbeats 2000000
def DPq (vs : List Int) (p q : Int) (ws : List Int) (p' q' : Int) (x : (List Int × Int × Int) × (List Int × Int × Int) × Int × Int) : Prop :=
  (DPrepE vs p q ws p' q' x.2.2.2) ∨ (x.2.2.2 = 0 ∧ ∃ a b : C3, Prep vs p q ws p' q' a b ∧ cv b 0 = 0 ∧ com a b ≤ 120 ∧ x.1 = (a.1, (a.2.1 : Int), a.2.2) ∧ x.2.1 = (b.1, (b.2.1 : Int), b.2.2) ∧ x.2.2.1 = com a b)
theorem aP_E4 {A B K : Prop} (k : K) (a : A := by (simp only [zA, zT, zD, zC, zN, ints_len, zR, Go.Cv.vals_len]; omega)) (b : B := by (simp only [zA, zT, zD, zC, zN, ints_len, zR, Go.Cv.vals_len]; omega)) : (A ∧ B) ∧ K := ⟨⟨a, b⟩, k⟩
theorem rpair_ok (vs : List Int) (p q : Int) (ws : List Int) (p' q' : Int) :
    Ctr Try.prog 59 [crv vs p q, crv ws p' q'] [] (fun r o => ∃ x, DPq vs p q ws p' q' x ∧ o = [] ∧ r = .tup [crv3 x.1, crv3 x.2.1, i64 x.2.2.1, i64 x.2.2.2]) := by
  refine Ctr.impE ?_
  refine fn_intro (E := env 0) tys_ok rfl rfl rfl Try.func59 (by kernel_rfl) rfl (by kernel_rfl) ?_
  (repeat' (conv => whnf); first | refine aC (fun _ => ?_) (fun _ => ?_) | refine aS ?_ | refine aG ?_ | refine aD ?_ | refine aH ?_ | refine aP_E4 ?_ | refine aI ?_ | refine aJ ?_ | fail); all_goals try (conv => whnf)
  refine CallOb.mk [] (Pair_ok vs p q ws p' q') rfl (ImpL.refl _) rfl rfl ?_
  rintro _ _ ⟨⟨⟨av, ap, aq⟩, ⟨bv, bp, bq⟩, l, e⟩, hPP, rfl, rfl⟩
  dsimp only at hPP ⊢
  by_cases he1 : e = 1
  · subst he1
    rcases pair_prep hPP with ⟨he, he0⟩ | ⟨he, _⟩
    · have hE : DPrepE vs p q ws p' q' 1 := by
        rcases he with h | ⟨h, _⟩
        · exact .inl h
        · omega
      (repeat' (conv => whnf); first | (refine aC (fun _ => ?_) (fun _ => ?_) <;> try (exfalso; omega)) | refine aS ?_ | refine aG ?_ | refine aD ?_ | refine aH ?_ | refine aP_E4 ?_ | refine aI ?_ | refine aJ ?_ | refine aW (.qs [0, 1, 2, 3] (.l 4 [1] (.l 5 [] (.qs [6, 7] .nil) .no) .no)) ?_ | fail); all_goals try (conv => whnf)
      exact ⟨((av, ap, aq), (bv, bp, bq), l, 1), .inl hE, rfl, Imp.refl _⟩
    · omega
  obtain ⟨pb, hpb, hn, hr⟩ : ∃ b0 : Int, bv.getD 0 0 = b0 ∧ 1 ≤ bv.length ∧ ((b0 ≠ 0 → DPrepE vs p q ws p' q' 6) ∧ (b0 = 0 → DPq vs p q ws p' q' ((av, ap, aq), (bv, bp, bq), l, e))) := by
    rcases pair_prep hPP with ⟨he, he0⟩ | ⟨he, a, b, hP, hc, hA, hB, hl⟩
    · rcases he with ⟨h, _⟩ | ⟨h, _⟩
      · exact absurd h he1
      · -- beyond the limit: the curves are normal forms all the same
        subst h
        obtain ⟨ea, eb, hA, hB, h⟩ := hPP
        rcases h with ⟨_, _, h⟩ | ⟨rfl, rfl, h⟩
        · omega
        obtain ⟨p0, pa, rfl, hpa, vf, nf, va⟩ := norm_ok hA
        obtain ⟨p0', pb, rfl, hpb, vg, ng, vb⟩ := norm_ok hB
        simp only at hpa hpb nf ng va vb h
        subst hpa
        subst hpb
        have hP : Prep vs p0 q ws p0' q' (av, pa, aq) (bv, pb, bq) := ⟨⟨p0, rfl, vf, nf⟩, ⟨p0', rfl, vg, ng⟩, va, vb⟩
        have hz : cv (bv, pb, bq) 0 = bv.getD 0 0 := cv_zero (x := (bv, pb, bq)) vb
        simp only [Int.toNat_natCast] at h
        have h3 : 120 < com (av, pa, aq) (bv, pb, bq) := by
          rcases h with ⟨h, _⟩ | ⟨_, _, h⟩
          · unfold com; dsimp only; omega
          · omega
        exact ⟨_, rfl, vb.n1, fun h0 => .inr ⟨_, _, hP, .inl ⟨rfl, by rw [hz]; exact h0⟩⟩, fun h0 => .inl (.inr ⟨_, _, hP, .inr ⟨rfl, by rw [hz]; exact h0, h3⟩⟩)⟩
    · cases hA
      cases hB
      have hz := cv_zero hP.vb
      exact ⟨_, rfl, hP.vb.n1, fun h0 => .inr ⟨a, b, hP, .inl ⟨rfl, by rw [hz]; exact h0⟩⟩, fun h0 => .inr ⟨he, a, b, hP, by rw [hz]; exact h0, hc, rfl, rfl, hl⟩⟩
  have hbi := ints_len bv
  have hg := ints_get (l := bv) (j := 0) (by omega)
  rw [hpb] at hg
  (repeat' (conv => whnf); first | refine ⟨0, _, rfl, hg, ?_⟩ | (refine aC (fun _ => ?_) (fun _ => ?_) <;> try (exfalso; omega)) | refine aS ?_ | refine aG ?_ | refine aD ?_ | refine aH ?_ | refine aP_E4 ?_ | refine aI ?_ | refine aJ ?_ | refine aW (.qs [0, 1, 2, 3] (.l 4 [1] (.l 5 [] (.qs [6, 7] .nil) .no) .no)) ?_ | fail); all_goals try (conv => whnf)
  all_goals first
    | exact ⟨((av, ap, aq), (bv, bp, bq), l, 6), .inl (hr.1 (by assumption)), rfl, Imp.refl _⟩
    | exact ⟨((av, ap, aq), (bv, bp, bq), l, e), hr.2 (Classical.not_not.1 (by assumption)), rfl, Imp.refl _⟩
    | trace_state
theorem rDof_ok (vs : List Int) (p q : Int) (ws : List Int) (p' q' : Int) :
    Ctr Try.prog 43 [crv vs p q, crv ws p' q'] [] (fun r o => ∃ x, DecP vs p q ws p' q' x ∧ o = [] ∧ r = crvE x) := by
  refine Ctr.impE ?_
  refine fn_intro (E := env 0) tys_ok rfl rfl rfl Try.func43 (by kernel_rfl) rfl (by kernel_rfl) ?_
  (repeat' (conv => whnf); first | refine aC (fun _ => ?_) (fun _ => ?_) | refine aS ?_ | refine aG ?_ | refine aD ?_ | refine aH ?_ | refine aP_E4 ?_ | refine aI ?_ | refine aJ ?_ | fail); all_goals try (conv => whnf)
  refine CallOb.mk [] (rpair_ok vs p q ws p' q') rfl (ImpL.refl _) rfl rfl ?_
  rintro _ _ ⟨⟨⟨av, ap, aq⟩, ⟨bv, bp, bq⟩, l, e⟩, hPP, rfl, rfl⟩
  dsimp only at hPP ⊢
  rcases hPP with h | ⟨rfl, a, b, hP, h0, hc, hA, hB, hl⟩
  · dsimp only at h
    have he : e ≠ 0 := by
      rcases h with ⟨h, _⟩ | ⟨_, _, _, ⟨h, _⟩ | ⟨h, _⟩⟩ <;> omega
    (repeat' (conv => whnf); first | (refine aC (fun _ => ?_) (fun _ => ?_) <;> try (exfalso; omega)) | refine aS ?_ | refine aG ?_ | refine aD ?_ | refine aH ?_ | refine aP_E4 ?_ | refine aI ?_ | refine aJ ?_ | refine aW (.qs [0, 1, 2, 3, 4, 5] (.l 6 [1] (.l 7 [1] (.l 8 [] (.qs [9] (.l 10 [] .nil .no)) .no) .no) .no)) ?_ | fail); all_goals try (conv => whnf)
    exact ⟨([], 0, 0, e), .inl ⟨e, h, rfl⟩, rfl, Imp.tup ⟨imp_zero, Imp.refl _, trivial⟩⟩
  cases hA
  cases hB
  dsimp only at hl
  subst hl
  have ha := hP.va
  have hb := hP.vb
  have a1 := ha.n1
  have a2 := ha.n2
  have pa := ha.pn
  have hend : ∀ x, DofP a b x → DecP vs p q ws p' q' x := fun x h => .inr ⟨a, b, hP, h0, hc, h⟩
  have cS := dsteeper_ok a b ha hb hc
  (repeat' (conv => whnf); first | (refine aC (fun _ => ?_) (fun _ => ?_) <;> try (exfalso; omega)) | refine aS ?_ | refine aG ?_ | refine aD ?_ | refine aH ?_ | refine aP_E4 ?_ | refine aI ?_ | refine aJ ?_ | refine aW (.qs [0, 1, 2, 3, 4, 5] (.l 6 [1] (.l 7 [1] (.l 8 [] (.qs [9] (.l 10 [] .nil .no)) .no) .no) .no)) ?_ | fail); all_goals try (conv => whnf)
  refine aK [] cS ?_
  (repeat' (conv => whnf); first | refine LitOb.ful ?_ | (refine aC (fun _ => ?_) (fun _ => ?_) <;> try (exfalso; omega)) | refine aS ?_ | refine aG ?_ | refine aD ?_ | refine aP_E4 ?_ | refine aI ?_ | refine aJ ?_ | refine aW (.qs [0, 1, 2, 3, 4, 5] (.l 6 [1] (.l 7 [1] (.l 8 [] (.qs [9] (.l 10 [] .nil .no)) .no) .no) .no)) ?_ | fail); all_goals try (conv => whnf)
  · refine .mk [] ?_
    (conv => whnf)
    exact ⟨([INF], 1, 0, 0), hend _ (.inl ⟨by assumption, rfl⟩), rfl, Imp.tup ⟨Imp.agg ⟨Imp.fulp rfl, Imp.refl _, Imp.refl _, trivial⟩, Imp.refl _, trivial⟩⟩
  have hl : ¬loo a b := by assumption
  refine .mk [.nb 5 0 1] ?_
  refine LoopOb.mk (Y := Nat) (st := fun t => ⟨[(11, i64 t), (10, .ptr 3 0), (8, i64 (com a b)), (7, .ptr 2 0), (6, .ptr 1 0), (4, .ptr 0 0)], [.box [.nil, i64 0, i64 0], .box [.psl 1 (ints a.1), i64 a.2.1, i64 a.2.2], .box [.psl 1 (ints b.1), i64 b.2.1, i64 b.2.2], .box [.vec 4, i64 a.2.1, i64 a.2.2], .vec 1 (ints (vals (dcv a b) t))]⟩)
    (inv := fun t => t ≤ a.1.length) (fun t => a.1.length - t) 0 [2, 3, 4, 5, 6] (by omega) (by (exact aL)) ?_
  intro t ht
  have cM := dMost_ok a b t ha hb hc (by omega)
  have hvs : ints (vals (dcv a b) (t + 1)) = ints (vals (dcv a b) t) ++ [[i64 (dcv a b t)]] := by simp [ints, vals_succ]
  have hvl := vals_len (dcv a b) t
  have hvi := ints_len (vals (dcv a b) t)
  have hai := ints_len a.1
  have hfull : t = a.1.length → vals (dcv a b) t = vals (dcv a b) a.1.length := fun h => by rw [h]
  generalize vals (dcv a b) t = V at *
  generalize dcv a b t = x at *
  (repeat' (conv => whnf); first | refine aS ?_ | refine aG ?_ | refine aD ?_ | refine aH ?_ | refine aP_E4 ?_ | refine aI ?_ | refine aJ ?_ | refine aW (.qs [0, 1, 2, 3, 4, 5] (.l 6 [1] (.l 7 [1] (.l 8 [] (.qs [9] (.l 10 [] .nil .no)) .no) .no) .no)) ?_ | fail); all_goals try (conv => whnf)
  refine CondOb.mk (fun hlt => ?_) (fun hlt => ?_)
  · (repeat' (conv => whnf); first | refine aC (fun _ => ?_) (fun _ => ?_) | refine aS ?_ | refine aG ?_ | refine aD ?_ | refine aH ?_ | refine aP_E4 ?_ | refine aI ?_ | refine aJ ?_ | refine aW (.qs [0, 1, 2, 3, 4, 5] (.l 6 [1] (.l 7 [1] (.l 8 [] (.qs [9] (.l 10 [] .nil .no)) .no) .no) .no)) ?_ | (refine aK [] cM ?_) | fail); all_goals try (conv => whnf)
    exact ⟨t + 1, [0, 1, 2, 3, 6], by omega, by omega, by rw [hvs]; (exact aL)⟩
  have e : t = a.1.length := by omega
  rw [hfull e]
  (repeat' (conv => whnf); first | refine aC (fun _ => ?_) (fun _ => ?_) | refine aS ?_ | refine aG ?_ | refine aD ?_ | refine aP_E4 ?_ | refine aI ?_ | refine aJ ?_ | refine aW (.qs [0, 1, 2, 3, 4, 5] (.l 6 [1] (.l 7 [1] (.l 8 [] (.qs [9] (.l 10 [] .nil .no)) .no) .no) .no)) ?_ | fail); all_goals try (conv => whnf)
  refine .mk [.fz 4] ?_
  (repeat' (conv => whnf); first | refine aC (fun _ => ?_) (fun _ => ?_) | refine aS ?_ | refine aG ?_ | refine aD ?_ | refine aH ?_ | refine aP_E4 ?_ | refine aI ?_ | refine aJ ?_ | refine aW (.qs [0, 1, 2, 3, 4, 5] (.l 6 [1] (.l 7 [1] (.l 8 [] (.qs [9] (.l 10 [] .nil .no)) .no) .no) .no)) ?_ | fail); all_goals try (conv => whnf)
  refine CallOb.mk [] (Made_ok (vals (dcv a b) a.1.length) a.2.1 a.2.2 (bd_vals (fun t ht => dcv_bd ha hb hc (by omega)) ha.p1 pa (by omega) ha.q0 (by have := ha.q1; omega))) rfl (ImpL.refl _) rfl rfl ?_
  rintro _ _ ⟨⟨x1, x2, x3, x4⟩, hx, rfl, rfl⟩
  have hmk : MkP (dcv a b) (x1, x2, x3, x4) := by
    refine madeP_mk ha.p1 (by rw [vals_len]; exact pa) (fun t ht => ?_) (fun m hm h t ht => dcv_late ha hb hc (by rw [vals_len] at hm; omega) h t ht) (fun hn => ?_) hx
    · rw [vals_len] at ht; rw [vals_get ht]
    · rw [vals_len] at hn ⊢
      by_cases fa : FinC a
      · exact dcv_per ha hb fa h0
      · exact absurd (dcv_end ha hb fa h0 (Nat.le_refl _)) (hn (a.1.length - 1) (by omega))
  (repeat' (conv => whnf); first | refine aC (fun _ => ?_) (fun _ => ?_) | refine aS ?_ | refine aG ?_ | refine aD ?_ | refine aH ?_ | refine aP_E4 ?_ | refine aI ?_ | refine aJ ?_ | refine aW (.qs [0, 1, 2, 3, 4, 5] (.l 6 [1] (.l 7 [1] (.l 8 [] (.qs [9] (.l 10 [] .nil .no)) .no) .no) .no)) ?_ | fail); all_goals try (conv => whnf)
  exact ⟨(x1, x2, x3, x4), hend _ (.inr ⟨hl, hmk⟩), rfl, Imp.refl _⟩
end Go.Proofs.Ytifcdempdcolkab
