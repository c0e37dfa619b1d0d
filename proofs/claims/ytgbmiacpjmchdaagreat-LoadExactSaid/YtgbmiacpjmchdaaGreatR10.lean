/-
  A text of the proofs of this seat: lemmas that the statements' proofs use; it states nothing of the program by itself beyond the contracts that its theorems bear. Conditions: those that stand in each theorem. Its short name: R10.
-/
import Derived.Test.YtgbmiacpjmchdaaGreatY1
set_option linter.unusedVariables false
set_option linter.unusedSimpArgs false
--APPX Go.Cv.vals_len
namespace Go.Proofs.YtgbmiacpjmchdaaGreat
open Go.Sx Go.Cv
set_option maxRecDepth 4000
set_option maxHeartbeats 2000000
def SumP (vs : List Int) (p q : Int) (ws : List Int) (p' q' : Int) (x : List Int × Int × Int × Int) : Prop :=
  (∃ e, PrepE vs p q ws p' q' e ∧ x = ([], 0, 0, e)) ∨ (∃ a b, Prep vs p q ws p' q' a b ∧ com a b ≤ 120 ∧ MkP (pls a b) x)
theorem rplus_ok (a b : C3) (t : Nat) (ha : VC a) (hb : VC b) (ht : t ≤ 1048576) : Ctr Tryz.prog 85 [i64 (cv a t), i64 (cv b t)] [] (fun r o => o = [] ∧ r = i64 (pls a b t)) := by
  have h1 := vc_bd ha ht
  have h2 := vc_bd hb ht
  have hp : plus (cv a t) (cv b t) = pls a b t := by
    unfold plus pls cv
    simp only [ha.inf_iff ht, hb.inf_iff ht]
  rw [← hp]
  refine plus_ok _ _ h1.1 h2.1 h1.2 h2.2 (fun h3 h4 => ?_)
  have h5 := cv_small ha ht (fun h => h3 ((ha.inf_iff ht).2 h))
  have h6 := cv_small hb ht (fun h => h4 ((hb.inf_iff ht).2 h))
  omega
theorem aP_R10 {A B K : Prop} (k : K) (a : A := by (simp only [zA, zT, zD, zC, zN, ints_len, zR, Go.Cv.vals_len]; omega)) (b : B := by (simp only [zA, zT, zD, zC, zN, ints_len, zR, Go.Cv.vals_len]; omega)) : (A ∧ B) ∧ K := ⟨⟨a, b⟩, k⟩
theorem Sum_ok (vs : List Int) (p q : Int) (ws : List Int) (p' q' : Int) :
    Ctr Tryz.prog 52 [crv vs p q, crv ws p' q'] [] (fun r o => ∃ x : List Int × Int × Int × Int, SumP vs p q ws p' q' x ∧ o = [] ∧ r = crvE x) := by
  refine Ctr.impE ?_
  refine fn_intro (E := env 0) tys_ok rfl rfl rfl Tryz.func52 (by kernel_rfl) rfl (by kernel_rfl) ?_
  (repeat' (conv => whnf); first | refine aC (fun _ => ?_) (fun _ => ?_) | refine aS ?_ | refine aG ?_ | refine aD ?_ | refine aH ?_ | refine aP_R10 ?_ | refine aI ?_ | refine aJ ?_ | fail); all_goals try (conv => whnf)
  refine CallOb.mk [] (Pair_ok vs p q ws p' q') rfl (ImpL.refl _) rfl rfl ?_
  rintro _ _ ⟨⟨A, B, l, e⟩, hPP, rfl, rfl⟩
  dsimp only at hPP ⊢
  rcases pair_prep hPP with ⟨he, he0⟩ | ⟨he, a, b, hP, hc, hA, hB, hl⟩
  · (repeat' (conv => whnf); first | (refine aC (fun _ => ?_) (fun _ => ?_) <;> try (exfalso; omega)) | refine aS ?_ | refine aG ?_ | refine aD ?_ | refine aH ?_ | refine aP_R10 ?_ | refine aI ?_ | refine aJ ?_ | fail); all_goals try (conv => whnf)
    exact ⟨([], 0, 0, e), .inl ⟨e, he, rfl⟩, rfl, Imp.tup ⟨imp_zero, Imp.refl _, trivial⟩⟩
  · subst he hA hB hl
    have va := hP.va
    have vb := hP.vb
    have f1 := frm_le va vb
    have c1 := com_pos va vb
    have a1 := va.n1
    have a2 := va.n2
    have b1 := vb.n1
    have b2 := vb.n2
    have a3 := va.p1
    have b3 := vb.p1
    have e1 : ((com a b : Nat) : Int).tdiv a.2.1 = ((com a b / a.2.1 : Nat) : Int) := by rw [Int.tdiv_eq_ediv_of_nonneg (by omega)]; rfl
    have e2 : ((com a b : Nat) : Int).tdiv b.2.1 = ((com a b / b.2.1 : Nat) : Int) := by rw [Int.tdiv_eq_ediv_of_nonneg (by omega)]; rfl
    have d1 : com a b / a.2.1 ≤ com a b := Nat.div_le_self _ _
    have d2 : com a b / b.2.1 ≤ com a b := Nat.div_le_self _ _
    have m1 := mul_bd (a := a.2.2) (b := ((com a b / a.2.1 : Nat) : Int)) (A := 1073741824) (B := 120) va.q0 va.q1 (Int.natCast_nonneg _) (by omega)
    have m2 := mul_bd (a := b.2.2) (b := ((com a b / b.2.1 : Nat) : Int)) (A := 1073741824) (B := 120) vb.q0 vb.q1 (Int.natCast_nonneg _) (by omega)
    have hsg : sgn a b = a.2.2 * ((com a b / a.2.1 : Nat) : Int) + b.2.2 * ((com a b / b.2.1 : Nat) : Int) := rfl
    have hk1b : (0 : Int) ≤ ((com a b / a.2.1 : Nat) : Int) ∧ ((com a b / a.2.1 : Nat) : Int) ≤ 120 := ⟨Int.natCast_nonneg _, by omega⟩
    have hk2b : (0 : Int) ≤ ((com a b / b.2.1 : Nat) : Int) ∧ ((com a b / b.2.1 : Nat) : Int) ≤ 120 := ⟨Int.natCast_nonneg _, by omega⟩
    generalize hk1 : ((com a b / a.2.1 : Nat) : Int) = k1 at *
    generalize hk2 : ((com a b / b.2.1 : Nat) : Int) = k2 at *
    (repeat' (conv => whnf); first | (refine aC (fun _ => ?_) (fun _ => ?_) <;> try (exfalso; omega)) | refine aS ?_ | refine aG ?_ | refine aD ?_ | refine aH ?_ | refine aP_R10 ?_ | refine aI ?_ | refine aJ ?_ | refine aW (.qs [0, 1, 2, 3, 4, 5, 6, 7, 8, 9, 10, 11, 12, 13, 14, 15, 16] (.l 17 [12, 9, 5, 2] (.l 18 [] .nil .no) .no)) ?_ | refine aW (.qs [0, 1, 2, 3, 5, 6] (.l 4 [5, 1] (.l 7 [1] (.l 8 [1] (.l 9 [1] (.l 10 [] (.qs [11] (.l 12 [] .nil .no)) .no) .no) .no) .no) .no)) ?_ | fail); all_goals try (conv => whnf)
    dsimp only
    refine ⟨by omega, ?_⟩
    rw [e1]
    (repeat' (conv => whnf); first | (refine aC (fun _ => ?_) (fun _ => ?_) <;> try (exfalso; omega)) | refine aS ?_ | refine aG ?_ | refine aD ?_ | refine aH ?_ | refine aP_R10 ?_ | refine aI ?_ | refine aJ ?_ | refine aW (.qs [0, 1, 2, 3, 4, 5, 6, 7, 8, 9, 10, 11, 12, 13, 14, 15, 16] (.l 17 [12, 9, 5, 2] (.l 18 [] .nil .no) .no)) ?_ | refine aW (.qs [0, 1, 2, 3, 5, 6] (.l 4 [5, 1] (.l 7 [1] (.l 8 [1] (.l 9 [1] (.l 10 [] (.qs [11] (.l 12 [] .nil .no)) .no) .no) .no) .no) .no)) ?_ | fail); all_goals try (conv => whnf)
    refine ⟨by omega, ?_⟩
    rw [e2]
    (repeat' (conv => whnf); first | (refine aC (fun _ => ?_) (fun _ => ?_) <;> try (exfalso; omega)) | refine aS ?_ | refine aG ?_ | refine aD ?_ | refine aP_R10 ?_ | refine aI ?_ | refine aJ ?_ | refine aW (.qs [0, 1, 2, 3, 4, 5, 6, 7, 8, 9, 10, 11, 12, 13, 14, 15, 16] (.l 17 [12, 9, 5, 2] (.l 18 [] .nil .no) .no)) ?_ | refine aW (.qs [0, 1, 2, 3, 5, 6] (.l 4 [5, 1] (.l 7 [1] (.l 8 [1] (.l 9 [1] (.l 10 [] (.qs [11] (.l 12 [] .nil .no)) .no) .no) .no) .no) .no)) ?_ | fail); all_goals try (conv => whnf)
    rw [← hsg]
    have hw : win a b ≤ 400 ∧ 1 ≤ win a b := by unfold win; omega
    have hwe : max ((ints a.1).length : Int) (ints b.1).length = ((win a b : Nat) : Int) := by rw [ints_len, ints_len]; unfold win; omega
    have hbd : ∀ t, t ≤ 1048576 → 0 ≤ pls a b t ∧ pls a b t ≤ INF := fun t ht => ⟨pls_nonneg va vb t, pls_le va vb ht⟩
    refine .mk [.nb 5 0 1] ?_
    refine LoopOb.mk (Y := Nat) (st := fun t => ⟨[(11, i64 t), (10, .ptr 0 0), (8, i64 (com a b)), (7, .ptr 2 0), (6, .ptr 1 0), (4, .ptr 3 0)], [.box [.vec 4, i64 (com a b), i64 (sgn a b)], .box [.psl 1 (ints a.1), i64 a.2.1, i64 a.2.2], .box [.psl 1 (ints b.1), i64 b.2.1, i64 b.2.2], .box [.nil, i64 0, i64 0], .vec 1 (ints (vals (pls a b) t))]⟩)
      (inv := fun t => t ≤ win a b + com a b) (fun t => win a b + com a b - t) 0 [5, 3, 4, 2, 6] (by omega) (by (exact aL)) ?_
    intro t ht
    (repeat' (conv => whnf); first | (refine aC (fun _ => ?_) (fun _ => ?_) <;> try (exfalso; omega)) | refine aS ?_ | refine aG ?_ | refine aD ?_ | refine aP_R10 ?_ | refine aI ?_ | refine aJ ?_ | refine aW (.qs [0, 1, 2, 3, 4, 5, 6, 7, 8, 9, 10, 11, 12, 13, 14, 15, 16] (.l 17 [12, 9, 5, 2] (.l 18 [] .nil .no) .no)) ?_ | refine aW (.qs [0, 1, 2, 3, 5, 6] (.l 4 [5, 1] (.l 7 [1] (.l 8 [1] (.l 9 [1] (.l 10 [] (.qs [11] (.l 12 [] .nil .no)) .no) .no) .no) .no) .no)) ?_ | fail); all_goals try (conv => whnf)
    · refine .mk [] ?_
      (repeat' (conv => whnf); first | (refine aC (fun _ => ?_) (fun _ => ?_) <;> try (exfalso; omega)) | refine aS ?_ | refine aG ?_ | refine aD ?_ | refine aH ?_ | refine aP_R10 ?_ | refine aI ?_ | refine aJ ?_ | refine aW (.qs [0, 1, 2, 3, 4, 5, 6, 7, 8, 9, 10, 11, 12, 13, 14, 15, 16] (.l 17 [12, 9, 5, 2] (.l 18 [] .nil .no) .no)) ?_ | refine aW (.qs [0, 1, 2, 3, 5, 6] (.l 4 [5, 1] (.l 7 [1] (.l 8 [1] (.l 9 [1] (.l 10 [] (.qs [11] (.l 12 [] .nil .no)) .no) .no) .no) .no) .no)) ?_ | (refine aK [] (rAt_ok a t va (by omega)) ?_) | (refine aK [] (rAt_ok b t vb (by omega)) ?_) | (refine aK [] (rplus_ok a b t va vb (by omega)) ?_) | fail); all_goals try (conv => whnf)
      refine ⟨t + 1, [0, 1, 2, 3, 6], by omega, by omega, ?_⟩
      refine Le.mk (by kernel_rfl) ?_ ?_ <;> repeat' (first | exact True.intro | refine And.intro ?_ ?_ | exact Imp.refl _ | exact Imp.any _ | exact Imp.num (by omega) | exact rfl | simp [ints, vals_succ])
    · have htN : t = win a b + com a b := by omega
      subst htN
      have hsg0 : 0 ≤ sgn a b ∧ sgn a b ≤ 1099511627776 := by rw [hsg]; omega
      refine .mk [.fz 4] ?_
      refine CallOb.mk [] (Made_ok (vals (pls a b) (win a b + com a b)) (com a b) (sgn a b) (bd_vals (fun t ht => hbd t (by omega)) c1 (by omega) (by omega) hsg0.1 hsg0.2)) rfl (ImpL.refl _) rfl rfl ?_
      rintro _ _ ⟨⟨x1, x2, x3, x4⟩, hx, rfl, rfl⟩
      (repeat' (conv => whnf); first | refine aC (fun _ => ?_) (fun _ => ?_) | refine aS ?_ | refine aG ?_ | refine aD ?_ | refine aH ?_ | refine aP_R10 ?_ | refine aI ?_ | refine aJ ?_ | fail); all_goals try (conv => whnf)
      refine ⟨(x1, x2, x3, x4), .inr ⟨a, b, hP, hc, madeP_mk c1 (by rw [vals_len]; omega) (fun t ht => ?_) (fun m hm h => ?_) (fun h => ?_) hx⟩, rfl, Imp.refl _⟩
      · rw [vals_len] at ht; rw [vals_get ht]
      · rw [vals_len] at hm; exact pls_inf_late va vb (by omega) h
      · rw [vals_len, show win a b + com a b - com a b = win a b by omega]
        by_cases hf : FinC a ∧ FinC b
        · exact (pls_per va vb hf).mono (by unfold frm win; omega)
        · exact absurd (pls_late hf (Nat.le_refl _)) (h (win a b) (by rw [vals_len]; omega))
end Go.Proofs.YtgbmiacpjmchdaaGreat
