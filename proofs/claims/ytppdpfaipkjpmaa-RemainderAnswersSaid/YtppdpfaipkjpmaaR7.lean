/-
  A text of the proofs of this seat: lemmas that the statements' proofs use; it states nothing of the program by itself beyond the contracts that its theorems bear. Conditions: those that stand in each theorem. Its short name: R7.
-/
import Derived.Test.YtppdpfaipkjpmaaW6
set_option linter.unusedVariables false
set_option linter.unusedSimpArgs false
namespace Go.Proofs.Ytppdpfaipkjpmaa
open Go.Sx Go.Cv
set_option maxRecDepth 4000
set_option maxHeartbeats 2000000
theorem pair_prep {vs p q ws p' q' A B l e} (h : PairP vs p q ws p' q' A B l e) :
    (PrepE vs p q ws p' q' e ∧ e ≠ 0) ∨ (e = 0 ∧ ∃ a b : C3, Prep vs p q ws p' q' a b ∧ com a b ≤ 120 ∧ A = (a.1, (a.2.1 : Int), a.2.2) ∧ B = (b.1, (b.2.1 : Int), b.2.2) ∧ l = com a b) := by
  obtain ⟨ea, eb, hA, hB, h⟩ := h
  obtain ⟨A1, A2, A3⟩ := A
  obtain ⟨B1, B2, B3⟩ := B
  rcases h with ⟨h1, rfl, rfl⟩ | ⟨rfl, rfl, h⟩
  · refine .inl ⟨.inl ⟨rfl, ?_⟩, by omega⟩
    rcases h1 with h1 | h1
    · exact .inl (normP_ne (x := (A1, A2, A3, ea)) hA h1).1
    · exact .inr (normP_ne (x := (B1, B2, B3, eb)) hB h1).1
  · obtain ⟨p0, pa, rfl, hpa, vf, nf, va⟩ := norm_ok hA
    obtain ⟨p0', pb, rfl, hpb, vg, ng, vb⟩ := norm_ok hB
    simp only at hpa hpb nf ng va vb h
    subst hpa
    subst hpb
    have hP : Prep vs p0 q ws p0' q' (A1, pa, A3) (B1, pb, B3) := ⟨⟨p0, rfl, vf, nf⟩, ⟨p0', rfl, vg, ng⟩, va, vb⟩
    simp only [Int.toNat_natCast] at h
    rcases h with ⟨h1, rfl, rfl⟩ | ⟨h1, rfl, rfl⟩
    · exact .inl ⟨.inr ⟨rfl, _, _, hP, by unfold com; simp only; omega⟩, by omega⟩
    · exact .inr ⟨rfl, _, _, hP, by unfold com; simp only; omega, rfl, rfl, rfl⟩
theorem rdiff_ok (a b : C3) (t : Nat) (ha : VC a) (hb : VC b) (ht : t ≤ 1048576) :
    Ctr Try.prog 40 [crv a.1 a.2.1 a.2.2, crv b.1 b.2.1 b.2.2, i64 t] [] (fun r o => o = [] ∧ r = i64 (max 0 (dif a b t))) := by
  obtain ⟨av, pa, aq⟩ := a
  obtain ⟨bv, pb, bq⟩ := b
  have h1 := ha.inf_iff ht
  have h2 := hb.inf_iff ht
  have b1 : 0 ≤ val av pa aq t ∧ val av pa aq t ≤ 6000000000000000000 := val_bd (bd_of ha) ht
  have b2 : 0 ≤ val bv pb bq t ∧ val bv pb bq t ≤ 6000000000000000000 := val_bd (bd_of hb) ht
  have hd : dif (av, pa, aq) (bv, pb, bq) t = if val bv pb bq t = INF then 0 else if val av pa aq t = INF then INF else val av pa aq t - val bv pb bq t := by
    unfold dif
    simp only [h1, h2, cv]
  rw [hd]
  refine fn_intro (E := env 0) tys_ok rfl rfl rfl Try.func40 (by kernel_rfl) rfl (by kernel_rfl) ?_
  repeat' (conv => whnf
           first
           | refine CondOb.mk (fun _ => ?_) (fun _ => ?_)
           | refine ArOb.fits (by first | omega | (simp only [ints_len] at *; omega)) ?_
           | refine LitOb.vec ?_
           | refine MakeOb.vec ?_
           | refine AllocOb.box ?_
           | refine AggOb.mk (by decide +kernel) ?_
           | refine ArU.fits (by first | omega | (simp only [ints_len] at *; omega)) ?_
           | refine ArB.fits (by first | omega | (simp only [ints_len] at *; omega)) ?_
           | refine CutOb.split ?_
           | refine Gh.mk [] ?_
           | refine And.intro (And.intro (by (simp only [List.length_append, List.length_take, List.length_drop, List.length_cons, List.length_nil, ints_len, List.length_replicate, Go.Cv.vals_len]; omega)) (by (simp only [List.length_append, List.length_take, List.length_drop, List.length_cons, List.length_nil, ints_len, List.length_replicate, Go.Cv.vals_len]; omega))) ?_
           | refine ⟨_, _, rfl, ints_get (by first | omega | (simp only [ints_len] at *; omega)), ?_⟩
           | refine ⟨_, _, (Int.toNat_of_nonneg (by first | omega | (simp only [ints_len] at *; omega))).symm, ints_get (by first | omega | (simp only [ints_len] at *; omega)), ?_⟩
           | refine DrawOb.mk [] (.qs [0, 1, 3, 4] (.l 2 [3] (.l 5 [] (.qs [6, 7] .nil) .no) .no)) (by decide +kernel) ?_
           | (refine CallOb.mk [] (At_ok av pa aq t (bd_of ha) (by omega) (by omega)) rfl (ImpL.refl _) rfl rfl ?_; rintro _ _ ⟨rfl, rfl⟩)
           | (refine CallOb.mk [] (At_ok bv pb bq t (bd_of hb) (by omega) (by omega)) rfl (ImpL.refl _) rfl rfl ?_; rintro _ _ ⟨rfl, rfl⟩)
           | fail)
  all_goals try (conv => whnf)
  · have h : val bv pb bq t = INF := by assumption
    exact ⟨rfl, by simp only [oneS]; rw [if_pos h]; rfl⟩
  · have h : ¬val bv pb bq t = INF := by assumption
    have h' : val av pa aq t = INF := by assumption
    refine ⟨rfl, ?_⟩
    simp only [oneS]; rw [if_neg h, if_pos h']; rfl
  · have h : ¬val bv pb bq t = INF := by assumption
    have h' : ¬val av pa aq t = INF := by assumption
    rw [Int.toNat_natCast]
    refine ArOb.fits (by omega) ?_
    repeat' (conv => whnf
             first
             | refine CondOb.mk (fun _ => ?_) (fun _ => ?_)
             | refine ArOb.fits (by first | omega | (simp only [ints_len] at *; omega)) ?_
             | refine LitOb.vec ?_
             | refine MakeOb.vec ?_
             | refine AllocOb.box ?_
             | refine AggOb.mk (by decide +kernel) ?_
             | refine ArU.fits (by first | omega | (simp only [ints_len] at *; omega)) ?_
             | refine ArB.fits (by first | omega | (simp only [ints_len] at *; omega)) ?_
             | refine CutOb.split ?_
             | refine Gh.mk [] ?_
             | refine And.intro (And.intro (by (simp only [List.length_append, List.length_take, List.length_drop, List.length_cons, List.length_nil, ints_len, List.length_replicate, Go.Cv.vals_len]; omega)) (by (simp only [List.length_append, List.length_take, List.length_drop, List.length_cons, List.length_nil, ints_len, List.length_replicate, Go.Cv.vals_len]; omega))) ?_
             | refine ⟨_, _, rfl, ints_get (by first | omega | (simp only [ints_len] at *; omega)), ?_⟩
             | refine ⟨_, _, (Int.toNat_of_nonneg (by first | omega | (simp only [ints_len] at *; omega))).symm, ints_get (by first | omega | (simp only [ints_len] at *; omega)), ?_⟩
             | fail)
    all_goals try (conv => whnf)
    exact ⟨rfl, by simp only [oneS]; rw [if_neg h, if_neg h']⟩
theorem rraw_ok (a b : C3) (t : Nat) (ha : VC a) (hb : VC b) (fa : FinC a) (fb : FinC b) (ht : t ≤ 1048576) :
    Ctr Try.prog 46 [crv a.1 a.2.1 a.2.2, crv b.1 b.2.1 b.2.2, i64 t] [] (fun r o => o = [] ∧ r = i64 (dif a b t)) := by
  rw [dif_fin ha hb fa fb]
  obtain ⟨av, pa, aq⟩ := a
  obtain ⟨bv, pb, bq⟩ := b
  have b1 : 0 ≤ val av pa aq t ∧ val av pa aq t ≤ 6000000000000000000 := val_bd (bd_of ha) ht
  have b2 : 0 ≤ val bv pb bq t ∧ val bv pb bq t ≤ 6000000000000000000 := val_bd (bd_of hb) ht
  refine fn_intro (E := env 0) tys_ok rfl rfl rfl Try.func46 (by kernel_rfl) rfl (by kernel_rfl) ?_
  repeat' (conv => whnf
           first
           | refine CondOb.mk (fun _ => ?_) (fun _ => ?_)
           | refine ArOb.fits (by first | omega | (simp only [ints_len] at *; omega)) ?_
           | refine LitOb.vec ?_
           | refine MakeOb.vec ?_
           | refine AllocOb.box ?_
           | refine AggOb.mk (by decide +kernel) ?_
           | refine ArU.fits (by first | omega | (simp only [ints_len] at *; omega)) ?_
           | refine ArB.fits (by first | omega | (simp only [ints_len] at *; omega)) ?_
           | refine CutOb.split ?_
           | refine Gh.mk [] ?_
           | refine And.intro (And.intro (by (simp only [List.length_append, List.length_take, List.length_drop, List.length_cons, List.length_nil, ints_len, List.length_replicate, Go.Cv.vals_len]; omega)) (by (simp only [List.length_append, List.length_take, List.length_drop, List.length_cons, List.length_nil, ints_len, List.length_replicate, Go.Cv.vals_len]; omega))) ?_
           | refine ⟨_, _, rfl, ints_get (by first | omega | (simp only [ints_len] at *; omega)), ?_⟩
           | refine ⟨_, _, (Int.toNat_of_nonneg (by first | omega | (simp only [ints_len] at *; omega))).symm, ints_get (by first | omega | (simp only [ints_len] at *; omega)), ?_⟩
           | refine DrawOb.mk [] (.qs [0, 1, 3, 4] (.l 2 [3] (.l 5 [] (.qs [6, 7] .nil) .no) .no)) (by decide +kernel) ?_
           | (refine CallOb.mk [] (At_ok av pa aq t (bd_of ha) (by omega) (by omega)) rfl (ImpL.refl _) rfl rfl ?_; rintro _ _ ⟨rfl, rfl⟩)
           | (refine CallOb.mk [] (At_ok bv pb bq t (bd_of hb) (by omega) (by omega)) rfl (ImpL.refl _) rfl rfl ?_; rintro _ _ ⟨rfl, rfl⟩)
           | fail)
  all_goals try (conv => whnf)
  rw [Int.toNat_natCast]
  refine ArOb.fits (by omega) ?_
  repeat' (conv => whnf
           first
           | refine CondOb.mk (fun _ => ?_) (fun _ => ?_)
           | refine ArOb.fits (by first | omega | (simp only [ints_len] at *; omega)) ?_
           | refine LitOb.vec ?_
           | refine MakeOb.vec ?_
           | refine AllocOb.box ?_
           | refine AggOb.mk (by decide +kernel) ?_
           | refine ArU.fits (by first | omega | (simp only [ints_len] at *; omega)) ?_
           | refine ArB.fits (by first | omega | (simp only [ints_len] at *; omega)) ?_
           | refine CutOb.split ?_
           | refine Gh.mk [] ?_
           | refine And.intro (And.intro (by (simp only [List.length_append, List.length_take, List.length_drop, List.length_cons, List.length_nil, ints_len, List.length_replicate, Go.Cv.vals_len]; omega)) (by (simp only [List.length_append, List.length_take, List.length_drop, List.length_cons, List.length_nil, ints_len, List.length_replicate, Go.Cv.vals_len]; omega))) ?_
           | refine ⟨_, _, rfl, ints_get (by first | omega | (simp only [ints_len] at *; omega)), ?_⟩
           | refine ⟨_, _, (Int.toNat_of_nonneg (by first | omega | (simp only [ints_len] at *; omega))).symm, ints_get (by first | omega | (simp only [ints_len] at *; omega)), ?_⟩
           | fail)
  all_goals try (conv => whnf)
  exact ⟨rfl, rfl⟩
theorem bd_vals {F : Nat → Int} {N P : Nat} {Q : Int} (hF : ∀ t, t < N → 0 ≤ F t ∧ F t ≤ INF) (h1 : 1 ≤ P) (h2 : P ≤ N) (h3 : N ≤ 2000) (h4 : 0 ≤ Q) (h5 : Q ≤ 1099511627776) : Bd (vals F N) P Q :=
  ⟨h1, by rw [vals_len]; exact h2, by rw [vals_len]; exact h3, h4, h5, fun j => by
    by_cases hj : j < N
    · rw [vals_get hj]; exact hF j hj
    · rw [List.getD_eq_getElem?_getD, List.getElem?_eq_none (by rw [vals_len]; omega)]; simp⟩
theorem RFin_ok (a : C3) (ha : VC a) : Ctr Try.prog 42 [crv a.1 a.2.1 a.2.2] [] (fun r o => o = [] ∧ r = .bp (FinC a)) :=
  (Finite_ok a.1 a.2.1 a.2.2).mono (fun r o ⟨h1, h2⟩ => ⟨h1, by rw [h2]; congr 1; exact propext ⟨fun h => h.2, fun h => ⟨ha.valid, h⟩⟩⟩)
theorem drf_ge {a b : C3} (ha : VC a) (hb : VC b) (hc : com a b ≤ 120) : -1099511627776 ≤ drf a b := by
  have d1 : com a b / a.2.1 ≤ com a b := Nat.div_le_self _ _
  have d2 : com a b / b.2.1 ≤ com a b := Nat.div_le_self _ _
  have m1 := mul_bd (a := a.2.2) (b := ((com a b / a.2.1 : Nat) : Int)) (A := 1073741824) (B := 120) ha.q0 ha.q1 (Int.natCast_nonneg _) (by omega)
  have m2 := mul_bd (a := b.2.2) (b := ((com a b / b.2.1 : Nat) : Int)) (A := 1073741824) (B := 120) hb.q0 hb.q1 (Int.natCast_nonneg _) (by omega)
  unfold drf
  omega
theorem slopes_ok (a b : C3) (ha : VC a) (hb : VC b) (hc : com a b ≤ 120) : Ctr Try.prog 43 [crv a.1 a.2.1 a.2.2, crv b.1 b.2.1 b.2.2, i64 (com a b)] [] (fun r o => o = [] ∧ r = i64 (drf a b)) :=
  Slopes_ok a.1 b.1 a.2.1 b.2.1 (com a b) a.2.2 b.2.2 ha.p1 hb.p1 (by omega) ha.q0 hb.q0 (by have := ha.q1; omega) (by have := hb.q1; omega)
def bst (d : Nat → Int) : Nat → Int
  | 0 => 0
  | t + 1 => rmx d t
theorem bst_step (d : Nat → Int) (t : Nat) : max (bst d t) (max 0 (d t)) = bst d (t + 1) := by
  cases t with
  | zero => simp only [bst, rmx]; omega
  | succ t => simp only [bst]; rw [show rmx d (t + 1) = max (rmx d t) (d (t + 1)) from rfl]; have := rmx_nonneg d t; omega
theorem RRest_ok (vs : List Int) (p q : Int) (ws : List Int) (p' q' : Int) :
    Ctr Try.prog 18 [crv vs p q, crv ws p' q'] [] (fun r o => ∃ x : List Int × Int × Int × Int, RestP vs p q ws p' q' x ∧ o = [] ∧ r = crvE x) := by
  refine Ctr.impE ?_
  refine fn_intro (E := env 0) tys_ok rfl rfl rfl Try.func18 (by kernel_rfl) rfl (by kernel_rfl) ?_
  repeat' (conv => whnf
           first
           | refine CondOb.mk (fun _ => ?_) (fun _ => ?_)
           | refine ArOb.fits (by first | omega | (simp only [ints_len] at *; omega)) ?_
           | refine LitOb.vec ?_
           | refine MakeOb.vec ?_
           | refine AllocOb.box ?_
           | refine AggOb.mk (by decide +kernel) ?_
           | refine ArU.fits (by first | omega | (simp only [ints_len] at *; omega)) ?_
           | refine ArB.fits (by first | omega | (simp only [ints_len] at *; omega)) ?_
           | refine CutOb.split ?_
           | refine Gh.mk [] ?_
           | refine And.intro (And.intro (by (simp only [List.length_append, List.length_take, List.length_drop, List.length_cons, List.length_nil, ints_len, List.length_replicate, Go.Cv.vals_len]; omega)) (by (simp only [List.length_append, List.length_take, List.length_drop, List.length_cons, List.length_nil, ints_len, List.length_replicate, Go.Cv.vals_len]; omega))) ?_
           | refine ⟨_, _, rfl, ints_get (by first | omega | (simp only [ints_len] at *; omega)), ?_⟩
           | refine ⟨_, _, (Int.toNat_of_nonneg (by first | omega | (simp only [ints_len] at *; omega))).symm, ints_get (by first | omega | (simp only [ints_len] at *; omega)), ?_⟩
           | fail)
  all_goals try (conv => whnf)
  refine CallOb.mk [] (Pair_ok vs p q ws p' q') rfl (ImpL.refl _) rfl rfl ?_
  rintro _ _ ⟨⟨A, B, l, e⟩, hPP, rfl, rfl⟩
  dsimp only at hPP ⊢
  rcases pair_prep hPP with ⟨he, he0⟩ | ⟨he, a, b, hP, hc, hA, hB, hl⟩
  · repeat' (conv => whnf
             first
             | (refine CondOb.mk (fun _ => ?_) (fun _ => ?_) <;> first | (exfalso; omega) | skip)
             | refine ArOb.fits (by first | omega | (simp only [ints_len] at *; omega)) ?_
             | refine LitOb.vec ?_
             | refine MakeOb.vec ?_
             | refine AllocOb.box ?_
             | refine AggOb.mk (by decide +kernel) ?_
             | refine ArU.fits (by first | omega | (simp only [ints_len] at *; omega)) ?_
             | refine ArB.fits (by first | omega | (simp only [ints_len] at *; omega)) ?_
             | refine CutOb.split ?_
             | refine Gh.mk [] ?_
             | refine And.intro (And.intro (by (simp only [List.length_append, List.length_take, List.length_drop, List.length_cons, List.length_nil, ints_len, List.length_replicate, Go.Cv.vals_len]; omega)) (by (simp only [List.length_append, List.length_take, List.length_drop, List.length_cons, List.length_nil, ints_len, List.length_replicate, Go.Cv.vals_len]; omega))) ?_
             | refine ⟨_, _, rfl, ints_get (by first | omega | (simp only [ints_len] at *; omega)), ?_⟩
             | refine ⟨_, _, (Int.toNat_of_nonneg (by first | omega | (simp only [ints_len] at *; omega))).symm, ints_get (by first | omega | (simp only [ints_len] at *; omega)), ?_⟩
             | fail)
    all_goals try (conv => whnf)
    exact ⟨([], 0, 0, e), .inl ⟨e, he, rfl⟩, rfl, Imp.tup ⟨imp_zero, Imp.refl _, trivial⟩⟩
  · subst he hA hB hl
    have va := hP.va
    have vb := hP.vb
    have f1 := frm_le va vb
    have c1 := com_pos va vb
    have a1 := va.n1
    have a2 := va.n2
    have b1 := vb.n1
    have b2 := vb.n2
    repeat' (conv => whnf
             first
             | (refine CondOb.mk (fun _ => ?_) (fun _ => ?_) <;> first | (exfalso; omega) | skip)
             | refine ArOb.fits (by first | omega | (simp only [ints_len] at *; omega)) ?_
             | refine LitOb.vec ?_
             | refine MakeOb.vec ?_
             | refine AllocOb.box ?_
             | refine AggOb.mk (by decide +kernel) ?_
             | refine ArU.fits (by first | omega | (simp only [ints_len] at *; omega)) ?_
             | refine ArB.fits (by first | omega | (simp only [ints_len] at *; omega)) ?_
             | refine CutOb.split ?_
             | refine Gh.mk [] ?_
             | refine And.intro (And.intro (by (simp only [List.length_append, List.length_take, List.length_drop, List.length_cons, List.length_nil, ints_len, List.length_replicate, Go.Cv.vals_len]; omega)) (by (simp only [List.length_append, List.length_take, List.length_drop, List.length_cons, List.length_nil, ints_len, List.length_replicate, Go.Cv.vals_len]; omega))) ?_
             | refine ⟨_, _, rfl, ints_get (by first | omega | (simp only [ints_len] at *; omega)), ?_⟩
             | refine ⟨_, _, (Int.toNat_of_nonneg (by first | omega | (simp only [ints_len] at *; omega))).symm, ints_get (by first | omega | (simp only [ints_len] at *; omega)), ?_⟩
             | fail)
    all_goals try (conv => whnf)
    have hbd : ∀ t, t ≤ 1048576 → 0 ≤ rmx (dif a b) t ∧ rmx (dif a b) t ≤ 4611686018427387904 := fun t ht => rmx_dif_le va vb ht
    refine LoopOb.mk (Y := Nat) (st := fun t => ⟨[(12, i64 t), (11, i64 (bst (dif a b) t)), (10, .vec 3), (8, i64 (com a b)), (7, .ptr 2 0), (6, .ptr 1 0), (4, .ptr 0 0)], [.box [.nil, i64 0, i64 0], .box [.psl 1 (ints a.1), i64 a.2.1, i64 a.2.2], .box [.psl 1 (ints b.1), i64 b.2.1, i64 b.2.2], .vec 1 (ints (vals (rmx (dif a b)) t))]⟩)
      (inv := fun t => t ≤ 400 + com a b + 1) (fun t => 400 + com a b + 1 - t) 0 [2, 3, 4, 5] (by omega) (by (refine Le.mk (by kernel_rfl) ?_ ?_ <;> repeat' (first | exact True.intro | refine And.intro ?_ ?_ | exact Imp.refl _ | exact Imp.any _ | exact Imp.num (by first | omega | simp only [ints_len]) | exact rfl))) ?_
    intro t ht
    have hst : max (bst (dif a b) t) (max 0 (dif a b t)) = bst (dif a b) (t + 1) := bst_step _ _
    repeat' (conv => whnf
             first
             | (refine CondOb.mk (fun _ => ?_) (fun _ => ?_) <;> first | (exfalso; omega) | skip)
             | refine ArOb.fits (by first | omega | (simp only [ints_len] at *; omega)) ?_
             | refine LitOb.vec ?_
             | refine MakeOb.vec ?_
             | refine AllocOb.box ?_
             | refine AggOb.mk (by decide +kernel) ?_
             | refine ArU.fits (by first | omega | (simp only [ints_len] at *; omega)) ?_
             | refine ArB.fits (by first | omega | (simp only [ints_len] at *; omega)) ?_
             | refine CutOb.split ?_
             | refine And.intro (And.intro (by (simp only [List.length_append, List.length_take, List.length_drop, List.length_cons, List.length_nil, ints_len, List.length_replicate, Go.Cv.vals_len]; omega)) (by (simp only [List.length_append, List.length_take, List.length_drop, List.length_cons, List.length_nil, ints_len, List.length_replicate, Go.Cv.vals_len]; omega))) ?_
             | refine ⟨_, _, rfl, ints_get (by first | omega | (simp only [ints_len] at *; omega)), ?_⟩
             | refine ⟨_, _, (Int.toNat_of_nonneg (by first | omega | (simp only [ints_len] at *; omega))).symm, ints_get (by first | omega | (simp only [ints_len] at *; omega)), ?_⟩
             | refine DrawOb.mk [] (.qs [0, 1, 2, 3, 4, 5, 6, 7, 8, 9, 10, 11] .nil) (by decide +kernel) ?_
             | fail)
    all_goals try (conv => whnf)
    · refine .mk [] ?_
      repeat' (conv => whnf
               first
               | (refine CondOb.mk (fun _ => ?_) (fun _ => ?_) <;> first | (exfalso; omega) | skip)
               | refine ArOb.fits (by first | omega | (simp only [ints_len] at *; omega)) ?_
               | refine LitOb.vec ?_
               | refine MakeOb.vec ?_
               | refine AllocOb.box ?_
               | refine AggOb.mk (by decide +kernel) ?_
               | refine ArU.fits (by first | omega | (simp only [ints_len] at *; omega)) ?_
               | refine ArB.fits (by first | omega | (simp only [ints_len] at *; omega)) ?_
               | refine CutOb.split ?_
               | refine And.intro (And.intro (by (simp only [List.length_append, List.length_take, List.length_drop, List.length_cons, List.length_nil, ints_len, List.length_replicate, Go.Cv.vals_len]; omega)) (by (simp only [List.length_append, List.length_take, List.length_drop, List.length_cons, List.length_nil, ints_len, List.length_replicate, Go.Cv.vals_len]; omega))) ?_
               | refine ⟨_, _, rfl, ints_get (by first | omega | (simp only [ints_len] at *; omega)), ?_⟩
               | refine ⟨_, _, (Int.toNat_of_nonneg (by first | omega | (simp only [ints_len] at *; omega))).symm, ints_get (by first | omega | (simp only [ints_len] at *; omega)), ?_⟩
               | refine DrawOb.mk [] (.qs [0, 1, 2, 3, 4, 5, 6, 7, 8, 9, 10, 11] .nil) (by decide +kernel) ?_
               | (refine CallOb.mk [] (rdiff_ok a b t va vb (by omega)) rfl (ImpL.refl _) rfl rfl ?_; rintro _ _ ⟨rfl, rfl⟩)
               | fail)
      all_goals try (conv => whnf)
      rw [hst]
      repeat' (conv => whnf
               first
               | (refine CondOb.mk (fun _ => ?_) (fun _ => ?_) <;> first | (exfalso; omega) | skip)
               | refine ArOb.fits (by first | omega | (simp only [ints_len] at *; omega)) ?_
               | refine LitOb.vec ?_
               | refine MakeOb.vec ?_
               | refine AllocOb.box ?_
               | refine AggOb.mk (by decide +kernel) ?_
               | refine ArU.fits (by first | omega | (simp only [ints_len] at *; omega)) ?_
               | refine ArB.fits (by first | omega | (simp only [ints_len] at *; omega)) ?_
               | refine CutOb.split ?_
               | refine And.intro (And.intro (by (simp only [List.length_append, List.length_take, List.length_drop, List.length_cons, List.length_nil, ints_len, List.length_replicate, Go.Cv.vals_len]; omega)) (by (simp only [List.length_append, List.length_take, List.length_drop, List.length_cons, List.length_nil, ints_len, List.length_replicate, Go.Cv.vals_len]; omega))) ?_
               | refine ⟨_, _, rfl, ints_get (by first | omega | (simp only [ints_len] at *; omega)), ?_⟩
               | refine ⟨_, _, (Int.toNat_of_nonneg (by first | omega | (simp only [ints_len] at *; omega))).symm, ints_get (by first | omega | (simp only [ints_len] at *; omega)), ?_⟩
               | refine DrawOb.mk [] (.qs [0, 1, 2, 3, 4, 5, 6, 7, 8, 9, 10, 11] .nil) (by decide +kernel) ?_
               | fail)
      all_goals try (conv => whnf)
      refine .mk [] ?_
      refine ⟨t + 1, [0, 1, 2, 5], by omega, by omega, ?_⟩
      refine Le.mk (by kernel_rfl) ?_ ?_ <;> repeat' (first | exact True.intro | refine And.intro ?_ ?_ | exact Imp.refl _ | exact Imp.any _ | exact Imp.num (by omega) | exact rfl | simp [ints, vals_succ, bst])
    · have htN : t = 400 + com a b + 1 := by omega
      subst htN
      have hbs : bst (dif a b) (400 + com a b + 1) = rmx (dif a b) (400 + com a b) := rfl
      rw [hbs]
      refine .mk [.fz 3] ?_
      refine ⟨400 + com a b, by push_cast; rfl, ⟨⟨by omega, by rw [ints_len, vals_len]; omega⟩, ?_⟩⟩
      have ev : List.drop 0 (List.take (400 + com a b) (ints (vals (rmx (dif a b)) (400 + com a b + 1)))) = ints (vals (rmx (dif a b)) (400 + com a b)) := by
        rw [List.drop_zero, ints_take]
        congr 1
        apply List.ext_getElem
        · rw [List.length_take, vals_len, vals_len]; omega
        · intro i h1 h2; simp [vals]
      rw [ev]
      repeat' (conv => whnf
               first
               | (refine CondOb.mk (fun _ => ?_) (fun _ => ?_) <;> first | (exfalso; omega) | skip)
               | refine ArOb.fits (by first | omega | (simp only [ints_len] at *; omega)) ?_
               | refine LitOb.vec ?_
               | refine MakeOb.vec ?_
               | refine AllocOb.box ?_
               | refine AggOb.mk (by decide +kernel) ?_
               | refine ArU.fits (by first | omega | (simp only [ints_len] at *; omega)) ?_
               | refine ArB.fits (by first | omega | (simp only [ints_len] at *; omega)) ?_
               | refine CutOb.split ?_
               | refine And.intro (And.intro (by (simp only [List.length_append, List.length_take, List.length_drop, List.length_cons, List.length_nil, ints_len, List.length_replicate, Go.Cv.vals_len]; omega)) (by (simp only [List.length_append, List.length_take, List.length_drop, List.length_cons, List.length_nil, ints_len, List.length_replicate, Go.Cv.vals_len]; omega))) ?_
               | refine ⟨_, _, rfl, ints_get (by first | omega | (simp only [ints_len] at *; omega)), ?_⟩
               | refine ⟨_, _, (Int.toNat_of_nonneg (by first | omega | (simp only [ints_len] at *; omega))).symm, ints_get (by first | omega | (simp only [ints_len] at *; omega)), ?_⟩
               | refine DrawOb.mk [] (.qs [0, 1, 2, 3, 4, 5, 6, 7, 8, 9, 10, 11] .nil) (by decide +kernel) ?_
               | fail)
      all_goals try (conv => whnf)
      · refine .mk [] ?_
        have hINF : rmx (dif a b) (400 + com a b) = INF := by assumption
        refine CallOb.mk [] (Made_ok (vals (rmx (dif a b)) (400 + com a b)) (com a b) 0 (bd_vals (fun t ht => hbd t (by omega)) c1 (by omega) (by omega) (by omega) (by omega))) rfl (ImpL.refl _) rfl rfl ?_
        rintro _ _ ⟨⟨x1, x2, x3, x4⟩, hx, rfl, rfl⟩
        repeat' (conv => whnf
                 first
                 | refine CondOb.mk (fun _ => ?_) (fun _ => ?_)
                 | refine ArOb.fits (by first | omega | (simp only [ints_len] at *; omega)) ?_
                 | refine LitOb.vec ?_
                 | refine MakeOb.vec ?_
                 | refine AllocOb.box ?_
                 | refine AggOb.mk (by decide +kernel) ?_
                 | refine ArU.fits (by first | omega | (simp only [ints_len] at *; omega)) ?_
                 | refine ArB.fits (by first | omega | (simp only [ints_len] at *; omega)) ?_
                 | refine CutOb.split ?_
                 | refine Gh.mk [] ?_
                 | refine And.intro (And.intro (by (simp only [List.length_append, List.length_take, List.length_drop, List.length_cons, List.length_nil, ints_len, List.length_replicate, Go.Cv.vals_len]; omega)) (by (simp only [List.length_append, List.length_take, List.length_drop, List.length_cons, List.length_nil, ints_len, List.length_replicate, Go.Cv.vals_len]; omega))) ?_
                 | refine ⟨_, _, rfl, ints_get (by first | omega | (simp only [ints_len] at *; omega)), ?_⟩
                 | refine ⟨_, _, (Int.toNat_of_nonneg (by first | omega | (simp only [ints_len] at *; omega))).symm, ints_get (by first | omega | (simp only [ints_len] at *; omega)), ?_⟩
                 | fail)
        all_goals try (conv => whnf)
        refine ⟨(x1, x2, x3, x4), .inr ⟨a, b, hP, hc, madeP_mk c1 (by rw [vals_len]; omega) (fun t ht => ?_) (fun m hm h => ?_) (fun h => ?_) hx⟩, rfl, Imp.refl _⟩
        · rw [vals_len] at ht; rw [vals_get ht]
        · rw [vals_len] at hm; exact rmx_dif_inf va vb (by omega) h
        · exact absurd (rest_inf_late va vb hINF hc) (h 399 (by rw [vals_len]; omega))
      · have hne : ¬rmx (dif a b) (400 + com a b) = INF := by assumption
        have hq := drf_le va vb hc
        have hq2 := drf_ge va vb hc
        refine .mk [] ?_
        repeat' (conv => whnf
                 first
                 | (refine CondOb.mk (fun _ => ?_) (fun _ => ?_) <;> first | (exfalso; omega) | skip)
                 | refine ArOb.fits (by first | omega | (simp only [ints_len] at *; omega)) ?_
                 | refine LitOb.vec ?_
                 | refine MakeOb.vec ?_
                 | refine AllocOb.box ?_
                 | refine AggOb.mk (by decide +kernel) ?_
                 | refine ArU.fits (by first | omega | (simp only [ints_len] at *; omega)) ?_
                 | refine ArB.fits (by first | omega | (simp only [ints_len] at *; omega)) ?_
                 | refine Gh.mk [] ?_
                 | refine And.intro (And.intro (by (simp only [List.length_append, List.length_take, List.length_drop, List.length_cons, List.length_nil, ints_len, List.length_replicate, Go.Cv.vals_len]; omega)) (by (simp only [List.length_append, List.length_take, List.length_drop, List.length_cons, List.length_nil, ints_len, List.length_replicate, Go.Cv.vals_len]; omega))) ?_
                 | refine ⟨_, _, rfl, ints_get (by first | omega | (simp only [ints_len] at *; omega)), ?_⟩
                 | refine ⟨_, _, (Int.toNat_of_nonneg (by first | omega | (simp only [ints_len] at *; omega))).symm, ints_get (by first | omega | (simp only [ints_len] at *; omega)), ?_⟩
                 | refine DrawOb.mk [] (.qs [0, 1, 2, 3, 4, 5, 6, 7, 8, 9, 10, 11] .nil) (by decide +kernel) ?_
                 | (refine CallOb.mk [] (RFin_ok a va) rfl (ImpL.refl _) rfl rfl ?_; rintro _ _ ⟨rfl, rfl⟩)
                 | (refine CallOb.mk [] (RFin_ok b vb) rfl (ImpL.refl _) rfl rfl ?_; rintro _ _ ⟨rfl, rfl⟩)
                 | fail)
        all_goals try (conv => whnf)
        · have fa : FinC a := by assumption
          have fb : FinC b := by assumption
          have einc : max 0 (drf a b) = (if FinC a ∧ FinC b then max 0 (drf a b) else 0) := by rw [if_pos ⟨fa, fb⟩]
          repeat' (conv => whnf
                   first
                   | (refine CondOb.mk (fun _ => ?_) (fun _ => ?_) <;> first | (exfalso; omega) | skip)
                   | refine ArOb.fits (by first | omega | (simp only [ints_len] at *; omega)) ?_
                   | refine LitOb.vec ?_
                   | refine MakeOb.vec ?_
                   | refine AllocOb.box ?_
                   | refine AggOb.mk (by decide +kernel) ?_
                   | refine ArU.fits (by first | omega | (simp only [ints_len] at *; omega)) ?_
                   | refine ArB.fits (by first | omega | (simp only [ints_len] at *; omega)) ?_
                   | refine Gh.mk [] ?_
                   | refine And.intro (And.intro (by (simp only [List.length_append, List.length_take, List.length_drop, List.length_cons, List.length_nil, ints_len, List.length_replicate, Go.Cv.vals_len]; omega)) (by (simp only [List.length_append, List.length_take, List.length_drop, List.length_cons, List.length_nil, ints_len, List.length_replicate, Go.Cv.vals_len]; omega))) ?_
                   | refine ⟨_, _, rfl, ints_get (by first | omega | (simp only [ints_len] at *; omega)), ?_⟩
                   | refine ⟨_, _, (Int.toNat_of_nonneg (by first | omega | (simp only [ints_len] at *; omega))).symm, ints_get (by first | omega | (simp only [ints_len] at *; omega)), ?_⟩
                   | refine DrawOb.mk [] (.qs [0, 1, 2, 3, 4, 5, 6, 7, 8, 9, 10, 11] .nil) (by decide +kernel) ?_
                   | (refine CallOb.mk [] (slopes_ok a b va vb hc) rfl (ImpL.refl _) rfl rfl ?_; rintro _ _ ⟨rfl, rfl⟩)
                   | fail)
          all_goals try (conv => whnf)
          have b4 := hbd 400 (by omega)
          have b5 := hbd (400 + com a b) (by omega)
          refine ⟨400 + com a b, _, by push_cast; rfl, ints_get (by rw [vals_len]; omega), ?_⟩
          rw [vals_get (show 400 + com a b < 400 + com a b + 1 by omega)]
          repeat' (conv => whnf
                   first
                   | (refine CondOb.mk (fun _ => ?_) (fun _ => ?_) <;> first | (exfalso; omega) | skip)
                   | refine ArOb.fits (by first | omega | (simp only [ints_len] at *; omega)) ?_
                   | refine LitOb.vec ?_
                   | refine MakeOb.vec ?_
                   | refine AllocOb.box ?_
                   | refine AggOb.mk (by decide +kernel) ?_
                   | refine ArU.fits (by first | omega | (simp only [ints_len] at *; omega)) ?_
                   | refine ArB.fits (by first | omega | (simp only [ints_len] at *; omega)) ?_
                   | refine Gh.mk [] ?_
                   | refine And.intro (And.intro (by (simp only [List.length_append, List.length_take, List.length_drop, List.length_cons, List.length_nil, ints_len, List.length_replicate, Go.Cv.vals_len]; omega)) (by (simp only [List.length_append, List.length_take, List.length_drop, List.length_cons, List.length_nil, ints_len, List.length_replicate, Go.Cv.vals_len]; omega))) ?_
                   | refine ⟨_, _, rfl, ints_get (by first | omega | (simp only [ints_len] at *; omega)), ?_⟩
                   | refine ⟨_, _, (Int.toNat_of_nonneg (by first | omega | (simp only [ints_len] at *; omega))).symm, ints_get (by first | omega | (simp only [ints_len] at *; omega)), ?_⟩
                   | refine DrawOb.mk [] (.qs [0, 1, 2, 3, 4, 5, 6, 7, 8, 9, 10, 11] .nil) (by decide +kernel) ?_
                   | fail)
          all_goals try (conv => whnf)
          refine ⟨400, _, rfl, ints_get (by rw [vals_len]; omega), ?_⟩
          rw [vals_get (show 400 < 400 + com a b + 1 by omega)]
          repeat' (conv => whnf
                   first
                   | (refine CondOb.mk (fun _ => ?_) (fun _ => ?_) <;> first | (exfalso; omega) | skip)
                   | refine ArOb.fits (by first | omega | (simp only [ints_len] at *; omega)) ?_
                   | refine LitOb.vec ?_
                   | refine MakeOb.vec ?_
                   | refine AllocOb.box ?_
                   | refine AggOb.mk (by decide +kernel) ?_
                   | refine ArU.fits (by first | omega | (simp only [ints_len] at *; omega)) ?_
                   | refine ArB.fits (by first | omega | (simp only [ints_len] at *; omega)) ?_
                   | refine Gh.mk [] ?_
                   | refine And.intro (And.intro (by (simp only [List.length_append, List.length_take, List.length_drop, List.length_cons, List.length_nil, ints_len, List.length_replicate, Go.Cv.vals_len]; omega)) (by (simp only [List.length_append, List.length_take, List.length_drop, List.length_cons, List.length_nil, ints_len, List.length_replicate, Go.Cv.vals_len]; omega))) ?_
                   | refine ⟨_, _, rfl, ints_get (by first | omega | (simp only [ints_len] at *; omega)), ?_⟩
                   | refine ⟨_, _, (Int.toNat_of_nonneg (by first | omega | (simp only [ints_len] at *; omega))).symm, ints_get (by first | omega | (simp only [ints_len] at *; omega)), ?_⟩
                   | refine DrawOb.mk [] (.qs [0, 1, 2, 3, 4, 5, 6, 7, 8, 9, 10, 11] .nil) (by decide +kernel) ?_
                   | fail)
          all_goals try (conv => whnf)
          · have hne2 : ¬rmx (dif a b) (400 + com a b) = rmx (dif a b) 400 + max 0 (drf a b) := by assumption
            rw [einc] at hne2
            obtain ⟨u, hu⟩ := rest_ev va vb
            exact ⟨([], 0, 0, 3), .inr ⟨a, b, hP, hc, mkP_lim (ref_err c1 hu hne2)⟩, rfl, Imp.tup ⟨imp_zero, Imp.refl _, trivial⟩⟩
          · have heq : rmx (dif a b) (400 + com a b) = rmx (dif a b) 400 + max 0 (drf a b) := Classical.not_not.1 (by assumption)
            rw [einc] at heq
            have hper := rest_ref va vb heq
            rw [← einc] at hper
            refine CallOb.mk [] (Made_ok (vals (rmx (dif a b)) (400 + com a b)) (com a b) (max 0 (drf a b)) (bd_vals (fun t ht => hbd t (by omega)) c1 (by omega) (by omega) (by omega) (by omega))) rfl (ImpL.refl _) rfl rfl ?_
            rintro _ _ ⟨⟨x1, x2, x3, x4⟩, hx, rfl, rfl⟩
            repeat' (conv => whnf
                     first
                     | refine CondOb.mk (fun _ => ?_) (fun _ => ?_)
                     | refine ArOb.fits (by first | omega | (simp only [ints_len] at *; omega)) ?_
                     | refine LitOb.vec ?_
                     | refine MakeOb.vec ?_
                     | refine AllocOb.box ?_
                     | refine AggOb.mk (by decide +kernel) ?_
                     | refine ArU.fits (by first | omega | (simp only [ints_len] at *; omega)) ?_
                     | refine ArB.fits (by first | omega | (simp only [ints_len] at *; omega)) ?_
                     | refine CutOb.split ?_
                     | refine Gh.mk [] ?_
                     | refine And.intro (And.intro (by (simp only [List.length_append, List.length_take, List.length_drop, List.length_cons, List.length_nil, ints_len, List.length_replicate, Go.Cv.vals_len]; omega)) (by (simp only [List.length_append, List.length_take, List.length_drop, List.length_cons, List.length_nil, ints_len, List.length_replicate, Go.Cv.vals_len]; omega))) ?_
                     | refine ⟨_, _, rfl, ints_get (by first | omega | (simp only [ints_len] at *; omega)), ?_⟩
                     | refine ⟨_, _, (Int.toNat_of_nonneg (by first | omega | (simp only [ints_len] at *; omega))).symm, ints_get (by first | omega | (simp only [ints_len] at *; omega)), ?_⟩
                     | fail)
            all_goals try (conv => whnf)
            refine ⟨(x1, x2, x3, x4), .inr ⟨a, b, hP, hc, madeP_mk c1 (by rw [vals_len]; omega) (fun t ht => ?_) (fun m hm h => ?_) (fun h => ?_) hx⟩, rfl, Imp.refl _⟩
            · rw [vals_len] at ht; rw [vals_get ht]
            · rw [vals_len] at hm; exact rmx_dif_inf va vb (by omega) h
            · rw [vals_len, show 400 + com a b - com a b = 400 by omega]; exact hper
        all_goals
          have einc : (0 : Int) = (if FinC a ∧ FinC b then max 0 (drf a b) else 0) := by rw [if_neg (by rintro ⟨h1, h2⟩; contradiction)]
          have b4 := hbd 400 (by omega)
          have b5 := hbd (400 + com a b) (by omega)
          refine ⟨400 + com a b, _, by push_cast; rfl, ints_get (by rw [vals_len]; omega), ?_⟩
          rw [vals_get (show 400 + com a b < 400 + com a b + 1 by omega)]
          repeat' (conv => whnf
                   first
                   | (refine CondOb.mk (fun _ => ?_) (fun _ => ?_) <;> first | (exfalso; omega) | skip)
                   | refine ArOb.fits (by first | omega | (simp only [ints_len] at *; omega)) ?_
                   | refine LitOb.vec ?_
                   | refine MakeOb.vec ?_
                   | refine AllocOb.box ?_
                   | refine AggOb.mk (by decide +kernel) ?_
                   | refine ArU.fits (by first | omega | (simp only [ints_len] at *; omega)) ?_
                   | refine ArB.fits (by first | omega | (simp only [ints_len] at *; omega)) ?_
                   | refine Gh.mk [] ?_
                   | refine And.intro (And.intro (by (simp only [List.length_append, List.length_take, List.length_drop, List.length_cons, List.length_nil, ints_len, List.length_replicate, Go.Cv.vals_len]; omega)) (by (simp only [List.length_append, List.length_take, List.length_drop, List.length_cons, List.length_nil, ints_len, List.length_replicate, Go.Cv.vals_len]; omega))) ?_
                   | refine ⟨_, _, rfl, ints_get (by first | omega | (simp only [ints_len] at *; omega)), ?_⟩
                   | refine ⟨_, _, (Int.toNat_of_nonneg (by first | omega | (simp only [ints_len] at *; omega))).symm, ints_get (by first | omega | (simp only [ints_len] at *; omega)), ?_⟩
                   | refine DrawOb.mk [] (.qs [0, 1, 2, 3, 4, 5, 6, 7, 8, 9, 10, 11] .nil) (by decide +kernel) ?_
                   | fail)
          all_goals try (conv => whnf)
          refine ⟨400, _, rfl, ints_get (by rw [vals_len]; omega), ?_⟩
          rw [vals_get (show 400 < 400 + com a b + 1 by omega)]
          repeat' (conv => whnf
                   first
                   | (refine CondOb.mk (fun _ => ?_) (fun _ => ?_) <;> first | (exfalso; omega) | skip)
                   | refine ArOb.fits (by first | omega | (simp only [ints_len] at *; omega)) ?_
                   | refine LitOb.vec ?_
                   | refine MakeOb.vec ?_
                   | refine AllocOb.box ?_
                   | refine AggOb.mk (by decide +kernel) ?_
                   | refine ArU.fits (by first | omega | (simp only [ints_len] at *; omega)) ?_
                   | refine ArB.fits (by first | omega | (simp only [ints_len] at *; omega)) ?_
                   | refine Gh.mk [] ?_
                   | refine And.intro (And.intro (by (simp only [List.length_append, List.length_take, List.length_drop, List.length_cons, List.length_nil, ints_len, List.length_replicate, Go.Cv.vals_len]; omega)) (by (simp only [List.length_append, List.length_take, List.length_drop, List.length_cons, List.length_nil, ints_len, List.length_replicate, Go.Cv.vals_len]; omega))) ?_
                   | refine ⟨_, _, rfl, ints_get (by first | omega | (simp only [ints_len] at *; omega)), ?_⟩
                   | refine ⟨_, _, (Int.toNat_of_nonneg (by first | omega | (simp only [ints_len] at *; omega))).symm, ints_get (by first | omega | (simp only [ints_len] at *; omega)), ?_⟩
                   | refine DrawOb.mk [] (.qs [0, 1, 2, 3, 4, 5, 6, 7, 8, 9, 10, 11] .nil) (by decide +kernel) ?_
                   | fail)
          all_goals try (conv => whnf)
          · have hne2 : ¬rmx (dif a b) (400 + com a b) = rmx (dif a b) 400 + 0 := by assumption
            rw [einc] at hne2
            obtain ⟨u, hu⟩ := rest_ev va vb
            exact ⟨([], 0, 0, 3), .inr ⟨a, b, hP, hc, mkP_lim (ref_err c1 hu hne2)⟩, rfl, Imp.tup ⟨imp_zero, Imp.refl _, trivial⟩⟩
          · have heq : rmx (dif a b) (400 + com a b) = rmx (dif a b) 400 + 0 := Classical.not_not.1 (by assumption)
            rw [einc] at heq
            have hper := rest_ref va vb heq
            rw [← einc] at hper
            refine CallOb.mk [] (Made_ok (vals (rmx (dif a b)) (400 + com a b)) (com a b) (0) (bd_vals (fun t ht => hbd t (by omega)) c1 (by omega) (by omega) (by omega) (by omega))) rfl (ImpL.refl _) rfl rfl ?_
            rintro _ _ ⟨⟨x1, x2, x3, x4⟩, hx, rfl, rfl⟩
            repeat' (conv => whnf
                     first
                     | refine CondOb.mk (fun _ => ?_) (fun _ => ?_)
                     | refine ArOb.fits (by first | omega | (simp only [ints_len] at *; omega)) ?_
                     | refine LitOb.vec ?_
                     | refine MakeOb.vec ?_
                     | refine AllocOb.box ?_
                     | refine AggOb.mk (by decide +kernel) ?_
                     | refine ArU.fits (by first | omega | (simp only [ints_len] at *; omega)) ?_
                     | refine ArB.fits (by first | omega | (simp only [ints_len] at *; omega)) ?_
                     | refine CutOb.split ?_
                     | refine Gh.mk [] ?_
                     | refine And.intro (And.intro (by (simp only [List.length_append, List.length_take, List.length_drop, List.length_cons, List.length_nil, ints_len, List.length_replicate, Go.Cv.vals_len]; omega)) (by (simp only [List.length_append, List.length_take, List.length_drop, List.length_cons, List.length_nil, ints_len, List.length_replicate, Go.Cv.vals_len]; omega))) ?_
                     | refine ⟨_, _, rfl, ints_get (by first | omega | (simp only [ints_len] at *; omega)), ?_⟩
                     | refine ⟨_, _, (Int.toNat_of_nonneg (by first | omega | (simp only [ints_len] at *; omega))).symm, ints_get (by first | omega | (simp only [ints_len] at *; omega)), ?_⟩
                     | fail)
            all_goals try (conv => whnf)
            refine ⟨(x1, x2, x3, x4), .inr ⟨a, b, hP, hc, madeP_mk c1 (by rw [vals_len]; omega) (fun t ht => ?_) (fun m hm h => ?_) (fun h => ?_) hx⟩, rfl, Imp.refl _⟩
            · rw [vals_len] at ht; rw [vals_get ht]
            · rw [vals_len] at hm; exact rmx_dif_inf va vb (by omega) h
            · rw [vals_len, show 400 + com a b - com a b = 400 by omega]; exact hper
end Go.Proofs.Ytppdpfaipkjpmaa
