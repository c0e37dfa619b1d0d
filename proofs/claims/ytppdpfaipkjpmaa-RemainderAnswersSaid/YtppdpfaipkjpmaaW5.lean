/-
  A text of the proofs of this seat: lemmas that the statements' proofs use; it states nothing of the program by itself beyond the contracts that its theorems bear. Conditions: those that stand in each theorem. Its short name: W5.
-/
import Derived.Test.YtppdpfaipkjpmaaW4
set_option linter.unusedVariables false
set_option linter.unusedSimpArgs false
namespace Go.Proofs.Ytppdpfaipkjpmaa
open Go.Sx Go.Cv
set_option maxRecDepth 4000
set_option maxHeartbeats 2000000
theorem raw_ok (a b : C3) (t : Nat) (ha : VC a) (hb : VC b) (ht : t ≤ 1048576) :
    Ctr Try.prog 36 [.agg (gap a b), i64 t] [] (fun r o => o = [] ∧ r = i64 (dif a b t)) := by
  obtain ⟨av, pa, aq⟩ := a
  obtain ⟨bv, pb, bq⟩ := b
  have h1 := ha.inf_iff ht
  have h2 := hb.inf_iff ht
  have b1 : 0 ≤ val av pa aq t ∧ val av pa aq t ≤ 6000000000000000000 := val_bd (bd_of ha) ht
  have b2 : 0 ≤ val bv pb bq t ∧ val bv pb bq t ≤ 6000000000000000000 := val_bd (bd_of hb) ht
  have hd : dif (av, pa, aq) (bv, pb, bq) t = if val bv pb bq t = INF then 0 else if val av pa aq t = INF then INF else val av pa aq t - val bv pb bq t := by
    unfold dif
    simp only [h1, h2, cv]
  rw [hd]
  refine fn_intro (E := env 0) tys_ok rfl rfl rfl Try.func36 (by kernel_rfl) rfl (by kernel_rfl) ?_
  repeat' (conv => whnf
           first
           | refine CondOb.mk (fun _ => ?_) (fun _ => ?_)
           | refine ArOb.fits (by first | omega | (simp only [ints_len] at *; omega)) ?_
           | refine LitOb.vec ?_
           | refine MakeOb.vec ?_
           | refine AllocOb.box ?_
           | refine AggOb.mk (by decide +kernel) ?_
           | refine ArU.fits (by first | omega | (simp only [ints_len] at *; omega)) ?_
           | refine ArB.fits (by first | omega | (simp only [ints_len] at *; omega)) ?_
           | refine CutOb.split ?_
           | refine Gh.mk [] ?_
           | refine And.intro (And.intro (by (simp only [List.length_append, List.length_take, List.length_drop, List.length_cons, List.length_nil, ints_len, List.length_replicate, Go.Cv.vals_len]; omega)) (by (simp only [List.length_append, List.length_take, List.length_drop, List.length_cons, List.length_nil, ints_len, List.length_replicate, Go.Cv.vals_len]; omega))) ?_
           | refine ⟨_, _, rfl, ints_get (by first | omega | (simp only [ints_len] at *; omega)), ?_⟩
           | refine ⟨_, _, (Int.toNat_of_nonneg (by first | omega | (simp only [ints_len] at *; omega))).symm, ints_get (by first | omega | (simp only [ints_len] at *; omega)), ?_⟩
           | refine DrawOb.mk [] (.qs [0, 1, 2, 4, 5, 6] (.l 3 [5] (.l 7 [] (.qs [8, 9] .nil) .no) .no)) (by decide +kernel) ?_
           | (refine CallOb.mk [] (WAt_ok av pa aq t (bd_of ha) (by omega) (by omega)) rfl (ImpL.refl _) rfl rfl ?_; rintro _ _ ⟨rfl, rfl⟩)
           | (refine CallOb.mk [] (WAt_ok bv pb bq t (bd_of hb) (by omega) (by omega)) rfl (ImpL.refl _) rfl rfl ?_; rintro _ _ ⟨rfl, rfl⟩)
           | fail)
  all_goals try (conv => whnf)
  · have h : val bv pb bq t = INF := by assumption
    exact ⟨rfl, by simp only [oneS]; rw [if_pos h]⟩
  · have h : ¬val bv pb bq t = INF := by assumption
    have h' : val av pa aq t = INF := by assumption
    refine ⟨rfl, ?_⟩
    simp only [oneS, Int.toNat_natCast]; rw [if_neg h, if_pos h', h']
  · have h : ¬val bv pb bq t = INF := by assumption
    have h' : ¬val av pa aq t = INF := by assumption
    rw [Int.toNat_natCast]
    refine ArOb.fits (by omega) ?_
    repeat' (conv => whnf
             first
             | refine CondOb.mk (fun _ => ?_) (fun _ => ?_)
             | refine ArOb.fits (by first | omega | (simp only [ints_len] at *; omega)) ?_
             | refine LitOb.vec ?_
             | refine MakeOb.vec ?_
             | refine AllocOb.box ?_
             | refine AggOb.mk (by decide +kernel) ?_
             | refine ArU.fits (by first | omega | (simp only [ints_len] at *; omega)) ?_
             | refine ArB.fits (by first | omega | (simp only [ints_len] at *; omega)) ?_
             | refine CutOb.split ?_
             | refine Gh.mk [] ?_
             | refine And.intro (And.intro (by (simp only [List.length_append, List.length_take, List.length_drop, List.length_cons, List.length_nil, ints_len, List.length_replicate, Go.Cv.vals_len]; omega)) (by (simp only [List.length_append, List.length_take, List.length_drop, List.length_cons, List.length_nil, ints_len, List.length_replicate, Go.Cv.vals_len]; omega))) ?_
             | refine ⟨_, _, rfl, ints_get (by first | omega | (simp only [ints_len] at *; omega)), ?_⟩
             | refine ⟨_, _, (Int.toNat_of_nonneg (by first | omega | (simp only [ints_len] at *; omega))).symm, ints_get (by first | omega | (simp only [ints_len] at *; omega)), ?_⟩
             | fail)
    all_goals try (conv => whnf)
    exact ⟨rfl, by simp only [oneS]; rw [if_neg h, if_neg h']⟩
theorem RestC_ok (F : Nat → Int) (N t : Nat) (h : t < N) (hN : N ≤ 1000000) : Ctr Try.prog 38 [i64 t, .pptr [.psl 1 (ints (vals F N))]] [] (fun r o => o = [] ∧ r = i64 (F t)) := by
  refine fn_intro (E := env 0) tys_ok rfl rfl rfl Try.func38 (by kernel_rfl) rfl (by kernel_rfl) ?_
  repeat' (conv => whnf
           first
           | refine CondOb.mk (fun _ => ?_) (fun _ => ?_)
           | refine ArOb.fits (by first | omega | (simp only [ints_len] at *; omega)) ?_
           | refine LitOb.vec ?_
           | refine MakeOb.vec ?_
           | refine AllocOb.box ?_
           | refine AggOb.mk (by decide +kernel) ?_
           | refine ArU.fits (by first | omega | (simp only [ints_len] at *; omega)) ?_
           | refine ArB.fits (by first | omega | (simp only [ints_len] at *; omega)) ?_
           | refine CutOb.split ?_
           | refine Gh.mk [] ?_
           | refine And.intro (And.intro (by (simp only [List.length_append, List.length_take, List.length_drop, List.length_cons, List.length_nil, ints_len, List.length_replicate, Go.Cv.vals_len]; omega)) (by (simp only [List.length_append, List.length_take, List.length_drop, List.length_cons, List.length_nil, ints_len, List.length_replicate, Go.Cv.vals_len]; omega))) ?_
           | refine ⟨_, _, rfl, ints_get (by first | omega | (simp only [ints_len] at *; omega)), ?_⟩
           | refine ⟨_, _, (Int.toNat_of_nonneg (by first | omega | (simp only [ints_len] at *; omega))).symm, ints_get (by first | omega | (simp only [ints_len] at *; omega)), ?_⟩
           | fail)
  all_goals try (conv => whnf)
  refine ⟨t, _, rfl, ints_get (by rw [vals_len]; exact h), ?_⟩
  rw [vals_get h]
  repeat' (conv => whnf
           first
           | refine CondOb.mk (fun _ => ?_) (fun _ => ?_)
           | refine ArOb.fits (by first | omega | (simp only [ints_len] at *; omega)) ?_
           | refine LitOb.vec ?_
           | refine MakeOb.vec ?_
           | refine AllocOb.box ?_
           | refine AggOb.mk (by decide +kernel) ?_
           | refine ArU.fits (by first | omega | (simp only [ints_len] at *; omega)) ?_
           | refine ArB.fits (by first | omega | (simp only [ints_len] at *; omega)) ?_
           | refine CutOb.split ?_
           | refine Gh.mk [] ?_
           | refine And.intro (And.intro (by (simp only [List.length_append, List.length_take, List.length_drop, List.length_cons, List.length_nil, ints_len, List.length_replicate, Go.Cv.vals_len]; omega)) (by (simp only [List.length_append, List.length_take, List.length_drop, List.length_cons, List.length_nil, ints_len, List.length_replicate, Go.Cv.vals_len]; omega))) ?_
           | refine ⟨_, _, rfl, ints_get (by first | omega | (simp only [ints_len] at *; omega)), ?_⟩
           | refine ⟨_, _, (Int.toNat_of_nonneg (by first | omega | (simp only [ints_len] at *; omega))).symm, ints_get (by first | omega | (simp only [ints_len] at *; omega)), ?_⟩
           | fail)
  all_goals try (conv => whnf)
  exact ⟨rfl, rfl⟩
theorem drf_le {a b : C3} (ha : VC a) (hb : VC b) (hc : com a b ≤ 120) : drf a b ≤ 1099511627776 := by
  have d1 : com a b / a.2.1 ≤ com a b := Nat.div_le_self _ _
  have d2 : com a b / b.2.1 ≤ com a b := Nat.div_le_self _ _
  have m1 := mul_bd (a := a.2.2) (b := ((com a b / a.2.1 : Nat) : Int)) (A := 1073741824) (B := 120) ha.q0 ha.q1 (Int.natCast_nonneg _) (by omega)
  have m2 := mul_bd (a := b.2.2) (b := ((com a b / b.2.1 : Nat) : Int)) (A := 1073741824) (B := 120) hb.q0 hb.q1 (Int.natCast_nonneg _) (by omega)
  unfold drf
  omega
def RestP (vs : List Int) (p q : Int) (ws : List Int) (p' q' : Int) (x : List Int × Int × Int × Int) : Prop :=
  (∃ e, PrepE vs p q ws p' q' e ∧ x = ([], 0, 0, e)) ∨ (∃ a b, Prep vs p q ws p' q' a b ∧ com a b ≤ 120 ∧ MkP (rmx (dif a b)) x)
theorem Rest_ok (vs : List Int) (p q : Int) (ws : List Int) (p' q' : Int) (hv : vs.length ≤ 140737488355328) (hw : ws.length ≤ 140737488355328) :
    Ctr Try.prog 17 [crv vs p q, crv ws p' q'] [] (fun r o => ∃ x : List Int × Int × Int × Int, RestP vs p q ws p' q' x ∧ o = [] ∧ r = crvE x) := by
  refine Ctr.impE ?_
  refine fn_intro (E := env 0) tys_ok rfl rfl rfl Try.func17 (by kernel_rfl) rfl (by kernel_rfl) ?_
  repeat' (conv => whnf
           first
           | refine CondOb.mk (fun _ => ?_) (fun _ => ?_)
           | refine ArOb.fits (by first | omega | (simp only [ints_len] at *; omega)) ?_
           | refine LitOb.vec ?_
           | refine MakeOb.vec ?_
           | refine AllocOb.box ?_
           | refine AggOb.mk (by decide +kernel) ?_
           | refine ArU.fits (by first | omega | (simp only [ints_len] at *; omega)) ?_
           | refine ArB.fits (by first | omega | (simp only [ints_len] at *; omega)) ?_
           | refine CutOb.split ?_
           | refine Gh.mk [] ?_
           | refine And.intro (And.intro (by (simp only [List.length_append, List.length_take, List.length_drop, List.length_cons, List.length_nil, ints_len, List.length_replicate, Go.Cv.vals_len]; omega)) (by (simp only [List.length_append, List.length_take, List.length_drop, List.length_cons, List.length_nil, ints_len, List.length_replicate, Go.Cv.vals_len]; omega))) ?_
           | refine ⟨_, _, rfl, ints_get (by first | omega | (simp only [ints_len] at *; omega)), ?_⟩
           | refine ⟨_, _, (Int.toNat_of_nonneg (by first | omega | (simp only [ints_len] at *; omega))).symm, ints_get (by first | omega | (simp only [ints_len] at *; omega)), ?_⟩
           | fail)
  all_goals try (conv => whnf)
  refine CallOb.mk [] (both_ok vs p q ws p' q' hv hw) rfl (ImpL.refl _) rfl rfl ?_
  rintro _ _ ⟨rfl, ⟨e, he, rfl⟩ | ⟨a, b, hP, hc, rfl⟩⟩
  · have he0 : e = 1 ∨ e = 3 := by rcases he with ⟨h, _⟩ | ⟨h, _⟩ <;> simp [h]
    repeat' (conv => whnf
             first
             | (refine CondOb.mk (fun _ => ?_) (fun _ => ?_) <;> first | (exfalso; omega) | skip)
             | refine ArOb.fits (by first | omega | (simp only [ints_len] at *; omega)) ?_
             | refine LitOb.vec ?_
             | refine MakeOb.vec ?_
             | refine AllocOb.box ?_
             | refine AggOb.mk (by decide +kernel) ?_
             | refine ArU.fits (by first | omega | (simp only [ints_len] at *; omega)) ?_
             | refine ArB.fits (by first | omega | (simp only [ints_len] at *; omega)) ?_
             | refine CutOb.split ?_
             | refine Gh.mk [] ?_
             | refine And.intro (And.intro (by (simp only [List.length_append, List.length_take, List.length_drop, List.length_cons, List.length_nil, ints_len, List.length_replicate, Go.Cv.vals_len]; omega)) (by (simp only [List.length_append, List.length_take, List.length_drop, List.length_cons, List.length_nil, ints_len, List.length_replicate, Go.Cv.vals_len]; omega))) ?_
             | refine ⟨_, _, rfl, ints_get (by first | omega | (simp only [ints_len] at *; omega)), ?_⟩
             | refine ⟨_, _, (Int.toNat_of_nonneg (by first | omega | (simp only [ints_len] at *; omega))).symm, ints_get (by first | omega | (simp only [ints_len] at *; omega)), ?_⟩
             | fail)
    all_goals try (conv => whnf)
    exact ⟨([], 0, 0, e), .inl ⟨e, he, rfl⟩, rfl, Imp.tup ⟨imp_zero, Imp.refl _, trivial⟩⟩
  · have va := hP.va
    have vb := hP.vb
    have f1 := frm_le va vb
    have c1 := com_pos va vb
    have a1 := va.n1
    have a2 := va.n2
    have b1 := vb.n1
    have b2 := vb.n2
    repeat' (conv => whnf
             first
             | (refine CondOb.mk (fun _ => ?_) (fun _ => ?_) <;> first | (exfalso; omega) | skip)
             | refine ArOb.fits (by first | omega | (simp only [ints_len] at *; omega)) ?_
             | refine LitOb.vec ?_
             | refine MakeOb.vec ?_
             | refine AllocOb.box ?_
             | refine AggOb.mk (by decide +kernel) ?_
             | refine ArU.fits (by first | omega | (simp only [ints_len] at *; omega)) ?_
             | refine ArB.fits (by first | omega | (simp only [ints_len] at *; omega)) ?_
             | refine Gh.mk [] ?_
             | refine And.intro (And.intro (by (simp only [List.length_append, List.length_take, List.length_drop, List.length_cons, List.length_nil, ints_len, List.length_replicate, Go.Cv.vals_len]; omega)) (by (simp only [List.length_append, List.length_take, List.length_drop, List.length_cons, List.length_nil, ints_len, List.length_replicate, Go.Cv.vals_len]; omega))) ?_
             | refine ⟨_, _, rfl, ints_get (by first | omega | (simp only [ints_len] at *; omega)), ?_⟩
             | refine ⟨_, _, (Int.toNat_of_nonneg (by first | omega | (simp only [ints_len] at *; omega))).symm, ints_get (by first | omega | (simp only [ints_len] at *; omega)), ?_⟩
             | refine DrawOb.mk [] (.qs [0, 1, 2, 3, 4, 5, 6, 7, 8] .nil) (by decide +kernel) ?_
             | fail)
    all_goals try (conv => whnf)
    refine CutOb.cut (Y := Nat × Nat × Int) (st := fun y => ⟨[(10, i64 y.2.2), (9, i64 y.2.1), (8, i64 y.1), (6, .ptr 0 0), (4, .ptr 1 0)], [.box (gap a b), .box [.nil, i64 0, i64 0]]⟩)
      (inv := fun y => (y = (frm a b + com a b, 1, 0) ∧ ¬(FinC a ∧ FinC b ∧ 0 < drf a b)) ∨ (y = (max 400 (frm a b + com a b), com a b, drf a b) ∧ FinC a ∧ FinC b ∧ 0 < drf a b)) ?_ ?_
    · repeat' (conv => whnf
               first
               | (refine CondOb.mk (fun _ => ?_) (fun _ => ?_) <;> first | (exfalso; omega) | skip)
               | refine ArOb.fits (by first | omega | (simp only [ints_len] at *; omega)) ?_
               | refine LitOb.vec ?_
               | refine MakeOb.vec ?_
               | refine AllocOb.box ?_
               | refine AggOb.mk (by decide +kernel) ?_
               | refine ArU.fits (by first | omega | (simp only [ints_len] at *; omega)) ?_
               | refine ArB.fits (by first | omega | (simp only [ints_len] at *; omega)) ?_
               | refine CutOb.split ?_
               | refine Gh.mk [] ?_
               | refine And.intro (And.intro (by (simp only [List.length_append, List.length_take, List.length_drop, List.length_cons, List.length_nil, ints_len, List.length_replicate, Go.Cv.vals_len]; omega)) (by (simp only [List.length_append, List.length_take, List.length_drop, List.length_cons, List.length_nil, ints_len, List.length_replicate, Go.Cv.vals_len]; omega))) ?_
               | refine ⟨_, _, rfl, ints_get (by first | omega | (simp only [ints_len] at *; omega)), ?_⟩
               | refine ⟨_, _, (Int.toNat_of_nonneg (by first | omega | (simp only [ints_len] at *; omega))).symm, ints_get (by first | omega | (simp only [ints_len] at *; omega)), ?_⟩
               | refine DrawOb.mk [] (.qs [0, 1, 2, 3, 4, 5, 6, 7, 8] .nil) (by decide +kernel) ?_
               | (refine CallOb.mk [] (WFinite_ok a.1 a.2.1 a.2.2 a1 (by omega)) rfl (ImpL.refl _) rfl rfl ?_; rintro _ _ ⟨rfl, rfl⟩)
               | (refine CallOb.mk [] (WFinite_ok b.1 b.2.1 b.2.2 b1 (by omega)) rfl (ImpL.refl _) rfl rfl ?_; rintro _ _ ⟨rfl, rfl⟩)
               | fail)
      all_goals try (conv => whnf)
      · exact ⟨_, [3, 2], .inr ⟨rfl, by assumption, by assumption, by assumption⟩, by
          refine Le.mk (by kernel_rfl) ?_ ?_ <;> repeat' (first | exact True.intro | refine And.intro ?_ ?_ | exact Imp.refl _ | exact Imp.num (by simp only; omega) | exact rfl)⟩
      all_goals exact ⟨_, [3, 2], .inl ⟨rfl, fun h => (by
          have h1 := h.1
          have h2 := h.2.1
          have h3 := h.2.2
          contradiction)⟩, by
          refine Le.mk (by kernel_rfl) ?_ ?_ <;> repeat' (first | exact True.intro | refine And.intro ?_ ?_ | exact Imp.refl _ | exact Imp.num (by simp only; omega) | exact rfl)⟩
    · rintro ⟨s, n, inc⟩ hy
      have hb : s ≤ 519 ∧ 1 ≤ n ∧ n ≤ 120 ∧ frm a b + com a b ≤ s ∧ 0 ≤ inc := by
        rcases hy with ⟨h, _⟩ | ⟨h, _, _, h1⟩
        · cases h; omega
        · cases h; omega
      repeat' (conv => whnf
               first
               | (refine CondOb.mk (fun _ => ?_) (fun _ => ?_) <;> first | (exfalso; omega) | skip)
               | refine ArOb.fits (by first | omega | (simp only [ints_len] at *; omega)) ?_
               | refine LitOb.vec ?_
               | refine MakeOb.vec ?_
               | refine AllocOb.box ?_
               | refine AggOb.mk (by decide +kernel) ?_
               | refine ArU.fits (by first | omega | (simp only [ints_len] at *; omega)) ?_
               | refine ArB.fits (by first | omega | (simp only [ints_len] at *; omega)) ?_
               | refine CutOb.split ?_
               | refine Gh.mk [] ?_
               | refine And.intro (And.intro (by (simp only [List.length_append, List.length_take, List.length_drop, List.length_cons, List.length_nil, ints_len, List.length_replicate, Go.Cv.vals_len]; omega)) (by (simp only [List.length_append, List.length_take, List.length_drop, List.length_cons, List.length_nil, ints_len, List.length_replicate, Go.Cv.vals_len]; omega))) ?_
               | refine ⟨_, _, rfl, ints_get (by first | omega | (simp only [ints_len] at *; omega)), ?_⟩
               | refine ⟨_, _, (Int.toNat_of_nonneg (by first | omega | (simp only [ints_len] at *; omega))).symm, ints_get (by first | omega | (simp only [ints_len] at *; omega)), ?_⟩
               | refine DrawOb.mk [] (.qs [0, 1, 2, 3, 4, 5, 6, 7, 8] .nil) (by decide +kernel) ?_
               | fail)
      all_goals try (conv => whnf)
      refine ⟨s + n, s + n, by push_cast; rfl, by push_cast; rfl, Nat.le_refl _, ⟨by simp only; omega, by omega⟩, ?_⟩
      repeat' (conv => whnf
               first
               | (refine CondOb.mk (fun _ => ?_) (fun _ => ?_) <;> first | (exfalso; omega) | skip)
               | refine ArOb.fits (by first | omega | (simp only [ints_len] at *; omega)) ?_
               | refine LitOb.vec ?_
               | refine MakeOb.vec ?_
               | refine AllocOb.box ?_
               | refine AggOb.mk (by decide +kernel) ?_
               | refine ArU.fits (by first | omega | (simp only [ints_len] at *; omega)) ?_
               | refine ArB.fits (by first | omega | (simp only [ints_len] at *; omega)) ?_
               | refine CutOb.split ?_
               | refine Gh.mk [] ?_
               | refine And.intro (And.intro (by (simp only [List.length_append, List.length_take, List.length_drop, List.length_cons, List.length_nil, ints_len, List.length_replicate, Go.Cv.vals_len]; omega)) (by (simp only [List.length_append, List.length_take, List.length_drop, List.length_cons, List.length_nil, ints_len, List.length_replicate, Go.Cv.vals_len]; omega))) ?_
               | refine ⟨_, _, rfl, ints_get (by first | omega | (simp only [ints_len] at *; omega)), ?_⟩
               | refine ⟨_, _, (Int.toNat_of_nonneg (by first | omega | (simp only [ints_len] at *; omega))).symm, ints_get (by first | omega | (simp only [ints_len] at *; omega)), ?_⟩
               | refine DrawOb.mk [] (.qs [0, 1, 2, 3, 4, 5, 6, 7, 8] .nil) (by decide +kernel) ?_
               | fail)
      all_goals try (conv => whnf)
      have hlow : ∀ t < s + n, -INF ≤ dif a b t := fun t ht => by have := dif_ge va vb (t := t) (by omega); simp only [INF]; omega
      have hFb : ∀ t, t ≤ s + n → 0 ≤ rmx (dif a b) t ∧ rmx (dif a b) t ≤ 4611686018427387904 := fun t ht => rmx_dif_le va vb (by omega)
      refine LoopOb.mk (Y := Nat) (st := fun t => ⟨[(56, i64 t), (55, i64 ((s + n : Nat) : Int)), (13, i64 (tls (dif a b) (frm a b) t)), (12, i64 (mst (dif a b) (frm a b) t)), (11, .ptr 3 0), (10, i64 inc), (9, i64 n), (8, i64 s), (6, .ptr 0 0), (4, .ptr 1 0)], [.box (gap a b), .box [.nil, i64 0, i64 0], .vec 1 (ints (rowsAt (rmx (dif a b)) t (s + n))), .box [.vec 2]]⟩)
        (inv := fun t => t ≤ s + n ∧ (s < t → 0 < inc → ¬tls (dif a b) (frm a b) (s + 1) < mst (dif a b) (frm a b) (s + 1))) (fun t => s + n - t) 0 [0, 1, 2, 3] ⟨by omega, fun h => by omega⟩
        (by refine Le.mk (by kernel_rfl) ?_ ?_ <;> repeat' (first | exact True.intro | refine And.intro ?_ ?_ | exact Imp.refl _ | exact Imp.any _ | exact Imp.num (by simp) | exact rfl | exact (rowsAt_zero _ _).symm)) ?_
      rintro t ⟨h1, h2⟩
      have hl : (rowsAt (rmx (dif a b)) t (s + n)).length = s + n := rowsAt_len _ h1
      have em : mst (dif a b) (frm a b) (t + 1) = if frm a b ≤ t then mst (dif a b) (frm a b) t else max (mst (dif a b) (frm a b) t) (dif a b t) := rfl
      have et : tls (dif a b) (frm a b) (t + 1) = if frm a b ≤ t then max (tls (dif a b) (frm a b) t) (dif a b t) else tls (dif a b) (frm a b) t := rfl
      have er : t < s + n → rmx (dif a b) t = max (mst (dif a b) (frm a b) (t + 1)) (tls (dif a b) (frm a b) (t + 1)) := fun h => rmx_two hlow t h
      repeat' (conv => whnf
               first
               | (refine CondOb.mk (fun _ => ?_) (fun _ => ?_) <;> first | (exfalso; omega) | skip)
               | refine ArOb.fits (by first | omega | (simp only [ints_len] at *; omega)) ?_
               | refine LitOb.vec ?_
               | refine MakeOb.vec ?_
               | refine AllocOb.box ?_
               | refine AggOb.mk (by decide +kernel) ?_
               | refine ArU.fits (by first | omega | (simp only [ints_len] at *; omega)) ?_
               | refine ArB.fits (by first | omega | (simp only [ints_len] at *; omega)) ?_
               | refine CutOb.split ?_
               | refine And.intro (And.intro (by (simp only [List.length_append, List.length_take, List.length_drop, List.length_cons, List.length_nil, ints_len, List.length_replicate, Go.Cv.vals_len]; omega)) (by (simp only [List.length_append, List.length_take, List.length_drop, List.length_cons, List.length_nil, ints_len, List.length_replicate, Go.Cv.vals_len]; omega))) ?_
               | refine ⟨_, _, rfl, ints_get (by first | omega | (simp only [ints_len] at *; omega)), ?_⟩
               | refine ⟨_, _, (Int.toNat_of_nonneg (by first | omega | (simp only [ints_len] at *; omega))).symm, ints_get (by first | omega | (simp only [ints_len] at *; omega)), ?_⟩
               | refine DrawOb.mk [] (.qs [0, 1, 2, 3, 4, 5, 6, 7, 8] .nil) (by decide +kernel) ?_
               | fail)
      all_goals try (conv => whnf)
      · refine .mk [] ?_
        repeat' (conv => whnf
                 first
                 | (refine CondOb.mk (fun _ => ?_) (fun _ => ?_) <;> first | (exfalso; omega) | skip)
                 | refine ArOb.fits (by first | omega | (simp only [ints_len] at *; omega)) ?_
                 | refine LitOb.vec ?_
                 | refine MakeOb.vec ?_
                 | refine AllocOb.box ?_
                 | refine AggOb.mk (by decide +kernel) ?_
                 | refine ArU.fits (by first | omega | (simp only [ints_len] at *; omega)) ?_
                 | refine ArB.fits (by first | omega | (simp only [ints_len] at *; omega)) ?_
                 | refine CutOb.split ?_
                 | refine And.intro (And.intro (by (simp only [List.length_append, List.length_take, List.length_drop, List.length_cons, List.length_nil, ints_len, List.length_replicate, Go.Cv.vals_len]; omega)) (by (simp only [List.length_append, List.length_take, List.length_drop, List.length_cons, List.length_nil, ints_len, List.length_replicate, Go.Cv.vals_len]; omega))) ?_
                 | refine ⟨_, _, rfl, ints_get (by first | omega | (simp only [ints_len] at *; omega)), ?_⟩
                 | refine ⟨_, _, (Int.toNat_of_nonneg (by first | omega | (simp only [ints_len] at *; omega))).symm, ints_get (by first | omega | (simp only [ints_len] at *; omega)), ?_⟩
                 | refine DrawOb.mk [] (.qs [0, 1, 2, 3, 4, 5, 6, 7, 8] .nil) (by decide +kernel) ?_
                 | (refine CallOb.mk [] (raw_ok a b t va vb (by omega)) rfl (ImpL.refl _) rfl rfl ?_; rintro _ _ ⟨rfl, rfl⟩)
                 | fail)
        all_goals try (conv => whnf)
        · have hft : frm a b ≤ t := by omega
          rw [if_pos hft] at em et
          rw [← em, ← et, ← er (by omega)]
          refine ⟨t, rfl, by rw [ints_len]; omega, ?_⟩
          repeat' (conv => whnf
                   first
                   | refine CondOb.mk (fun _ => ?_) (fun _ => ?_)
                   | refine ArOb.fits (by first | omega | (simp only [ints_len] at *; omega)) ?_
                   | refine LitOb.vec ?_
                   | refine MakeOb.vec ?_
                   | refine AllocOb.box ?_
                   | refine AggOb.mk (by decide +kernel) ?_
                   | refine ArU.fits (by first | omega | (simp only [ints_len] at *; omega)) ?_
                   | refine ArB.fits (by first | omega | (simp only [ints_len] at *; omega)) ?_
                   | refine CutOb.split ?_
                   | refine And.intro (And.intro (by (simp only [List.length_append, List.length_take, List.length_drop, List.length_cons, List.length_nil, ints_len, List.length_replicate, Go.Cv.vals_len]; omega)) (by (simp only [List.length_append, List.length_take, List.length_drop, List.length_cons, List.length_nil, ints_len, List.length_replicate, Go.Cv.vals_len]; omega))) ?_
                   | refine ⟨_, _, rfl, ints_get (by first | omega | (simp only [ints_len] at *; omega)), ?_⟩
                   | refine ⟨_, _, (Int.toNat_of_nonneg (by first | omega | (simp only [ints_len] at *; omega))).symm, ints_get (by first | omega | (simp only [ints_len] at *; omega)), ?_⟩
                   | fail)
          all_goals try (conv => whnf)
          refine ⟨_, ints_get (by omega), ?_⟩
          repeat' (conv => whnf
                   first
                   | refine ArOb.fits (by first | omega | (simp only [ints_len] at *; omega)) ?_
                   | refine LitOb.vec ?_
                   | refine MakeOb.vec ?_
                   | refine AllocOb.box ?_
                   | refine AggOb.mk (by decide +kernel) ?_
                   | refine ArU.fits (by first | omega | (simp only [ints_len] at *; omega)) ?_
                   | refine ArB.fits (by first | omega | (simp only [ints_len] at *; omega)) ?_
                   | refine CutOb.split ?_
                   | refine And.intro (And.intro (by (simp only [List.length_append, List.length_take, List.length_drop, List.length_cons, List.length_nil, ints_len, List.length_replicate, Go.Cv.vals_len]; omega)) (by (simp only [List.length_append, List.length_take, List.length_drop, List.length_cons, List.length_nil, ints_len, List.length_replicate, Go.Cv.vals_len]; omega))) ?_
                   | refine ⟨_, _, rfl, ints_get (by first | omega | (simp only [ints_len] at *; omega)), ?_⟩
                   | refine ⟨_, _, (Int.toNat_of_nonneg (by first | omega | (simp only [ints_len] at *; omega))).symm, ints_get (by first | omega | (simp only [ints_len] at *; omega)), ?_⟩
                   | fail)
          all_goals try (conv => whnf)
          rw [rowsAt_set (rmx (dif a b)) (show t < s + n by omega)]
          repeat' (conv => whnf
                   first
                   | (refine CondOb.mk (fun _ => ?_) (fun _ => ?_) <;> first | (exfalso; omega) | skip)
                   | refine ArOb.fits (by first | omega | (simp only [ints_len] at *; omega)) ?_
                   | refine LitOb.vec ?_
                   | refine MakeOb.vec ?_
                   | refine AllocOb.box ?_
                   | refine AggOb.mk (by decide +kernel) ?_
                   | refine ArU.fits (by first | omega | (simp only [ints_len] at *; omega)) ?_
                   | refine ArB.fits (by first | omega | (simp only [ints_len] at *; omega)) ?_
                   | refine CutOb.split ?_
                   | refine And.intro (And.intro (by (simp only [List.length_append, List.length_take, List.length_drop, List.length_cons, List.length_nil, ints_len, List.length_replicate, Go.Cv.vals_len]; omega)) (by (simp only [List.length_append, List.length_take, List.length_drop, List.length_cons, List.length_nil, ints_len, List.length_replicate, Go.Cv.vals_len]; omega))) ?_
                   | refine ⟨_, _, rfl, ints_get (by first | omega | (simp only [ints_len] at *; omega)), ?_⟩
                   | refine ⟨_, _, (Int.toNat_of_nonneg (by first | omega | (simp only [ints_len] at *; omega))).symm, ints_get (by first | omega | (simp only [ints_len] at *; omega)), ?_⟩
                   | refine DrawOb.mk [] (.qs [0, 1, 2, 3, 4, 5, 6, 7, 8] .nil) (by decide +kernel) ?_
                   | fail)
          all_goals try (conv => whnf)
          · refine .mk [] ?_
            have hts : t = s := by omega
            subst hts
            have hin : 0 < inc := by assumption
            have hlt : tls (dif a b) (frm a b) (t + 1) < mst (dif a b) (frm a b) (t + 1) := by assumption
            rcases hy with ⟨h, _⟩ | ⟨h, fa, fb, h3⟩
            · cases h; omega
            · have hts : t = max 400 (frm a b + com a b) := by cases h; rfl
              exact ⟨([], 0, 0, 3), .inr ⟨a, b, hP, hc, mkP_lim (rest_err c1 f1 (dif_per va vb fa fb) h3 hts (fun u hu => hlow u (by omega)) hlt)⟩, rfl, Imp.tup ⟨imp_zero, Imp.refl _, trivial⟩⟩
          all_goals
            refine .mk [] ?_
            refine ⟨t + 1, [0, 1, 2, 3], ⟨by omega, fun h3 h4 => ?_⟩, by omega, by (refine Le.mk (by kernel_rfl) ?_ ?_ <;> repeat' (first | exact True.intro | refine And.intro ?_ ?_ | exact Imp.refl _ | exact Imp.any _ | exact Imp.num (by first | omega | simp only [ints_len]) | exact rfl))⟩
            by_cases hts : t = s
            · subst hts; first | assumption | omega
            · exact h2 (by omega) h4
        · have hft : ¬frm a b ≤ t := by omega
          rw [if_neg hft] at em et
          rw [← em, ← et, ← er (by omega)]
          refine ⟨t, rfl, by rw [ints_len]; omega, ?_⟩
          repeat' (conv => whnf
                   first
                   | refine CondOb.mk (fun _ => ?_) (fun _ => ?_)
                   | refine ArOb.fits (by first | omega | (simp only [ints_len] at *; omega)) ?_
                   | refine LitOb.vec ?_
                   | refine MakeOb.vec ?_
                   | refine AllocOb.box ?_
                   | refine AggOb.mk (by decide +kernel) ?_
                   | refine ArU.fits (by first | omega | (simp only [ints_len] at *; omega)) ?_
                   | refine ArB.fits (by first | omega | (simp only [ints_len] at *; omega)) ?_
                   | refine CutOb.split ?_
                   | refine And.intro (And.intro (by (simp only [List.length_append, List.length_take, List.length_drop, List.length_cons, List.length_nil, ints_len, List.length_replicate, Go.Cv.vals_len]; omega)) (by (simp only [List.length_append, List.length_take, List.length_drop, List.length_cons, List.length_nil, ints_len, List.length_replicate, Go.Cv.vals_len]; omega))) ?_
                   | refine ⟨_, _, rfl, ints_get (by first | omega | (simp only [ints_len] at *; omega)), ?_⟩
                   | refine ⟨_, _, (Int.toNat_of_nonneg (by first | omega | (simp only [ints_len] at *; omega))).symm, ints_get (by first | omega | (simp only [ints_len] at *; omega)), ?_⟩
                   | fail)
          all_goals try (conv => whnf)
          refine ⟨_, ints_get (by omega), ?_⟩
          repeat' (conv => whnf
                   first
                   | refine ArOb.fits (by first | omega | (simp only [ints_len] at *; omega)) ?_
                   | refine LitOb.vec ?_
                   | refine MakeOb.vec ?_
                   | refine AllocOb.box ?_
                   | refine AggOb.mk (by decide +kernel) ?_
                   | refine ArU.fits (by first | omega | (simp only [ints_len] at *; omega)) ?_
                   | refine ArB.fits (by first | omega | (simp only [ints_len] at *; omega)) ?_
                   | refine CutOb.split ?_
                   | refine And.intro (And.intro (by (simp only [List.length_append, List.length_take, List.length_drop, List.length_cons, List.length_nil, ints_len, List.length_replicate, Go.Cv.vals_len]; omega)) (by (simp only [List.length_append, List.length_take, List.length_drop, List.length_cons, List.length_nil, ints_len, List.length_replicate, Go.Cv.vals_len]; omega))) ?_
                   | refine ⟨_, _, rfl, ints_get (by first | omega | (simp only [ints_len] at *; omega)), ?_⟩
                   | refine ⟨_, _, (Int.toNat_of_nonneg (by first | omega | (simp only [ints_len] at *; omega))).symm, ints_get (by first | omega | (simp only [ints_len] at *; omega)), ?_⟩
                   | fail)
          all_goals try (conv => whnf)
          rw [rowsAt_set (rmx (dif a b)) (show t < s + n by omega)]
          repeat' (conv => whnf
                   first
                   | (refine CondOb.mk (fun _ => ?_) (fun _ => ?_) <;> first | (exfalso; omega) | skip)
                   | refine ArOb.fits (by first | omega | (simp only [ints_len] at *; omega)) ?_
                   | refine LitOb.vec ?_
                   | refine MakeOb.vec ?_
                   | refine AllocOb.box ?_
                   | refine AggOb.mk (by decide +kernel) ?_
                   | refine ArU.fits (by first | omega | (simp only [ints_len] at *; omega)) ?_
                   | refine ArB.fits (by first | omega | (simp only [ints_len] at *; omega)) ?_
                   | refine CutOb.split ?_
                   | refine And.intro (And.intro (by (simp only [List.length_append, List.length_take, List.length_drop, List.length_cons, List.length_nil, ints_len, List.length_replicate, Go.Cv.vals_len]; omega)) (by (simp only [List.length_append, List.length_take, List.length_drop, List.length_cons, List.length_nil, ints_len, List.length_replicate, Go.Cv.vals_len]; omega))) ?_
                   | refine ⟨_, _, rfl, ints_get (by first | omega | (simp only [ints_len] at *; omega)), ?_⟩
                   | refine ⟨_, _, (Int.toNat_of_nonneg (by first | omega | (simp only [ints_len] at *; omega))).symm, ints_get (by first | omega | (simp only [ints_len] at *; omega)), ?_⟩
                   | refine DrawOb.mk [] (.qs [0, 1, 2, 3, 4, 5, 6, 7, 8] .nil) (by decide +kernel) ?_
                   | fail)
          all_goals try (conv => whnf)
          all_goals
            refine .mk [] ?_
            refine ⟨t + 1, [0, 1, 2, 3], ⟨by omega, fun h3 h4 => ?_⟩, by omega, by (refine Le.mk (by kernel_rfl) ?_ ?_ <;> repeat' (first | exact True.intro | refine And.intro ?_ ?_ | exact Imp.refl _ | exact Imp.any _ | exact Imp.num (by first | omega | simp only [ints_len]) | exact rfl))⟩
            by_cases hts : t = s
            · subst hts; first | assumption | omega
            · exact h2 (by omega) h4
      · have htN : t = s + n := by omega
        subst htN
        rw [rowsAt_full]
        refine .mk [.fz 2, .fb 3] ?_
        have hper : (∀ u, u < s + n → rmx (dif a b) u ≠ INF) → Per (rmx (dif a b)) s n inc := by
          intro _
          rcases hy with ⟨h, h3⟩ | ⟨h, fa, fb, h3⟩
          · have e1 : s = frm a b + com a b := by cases h; rfl
            have e2 : n = 1 := by cases h; rfl
            have e3 : inc = 0 := by cases h; rfl
            rw [e1, e2, e3]; exact rest_still va vb h3
          · have e1 : s = max 400 (frm a b + com a b) := by cases h; rfl
            have e2 : n = com a b := by cases h; rfl
            have e3 : inc = drf a b := by cases h; rfl
            rw [e2, e3]
            exact rest_per c1 (dif_per va vb fa fb) h3 (by omega) (fun u hu => hlow u (by omega)) (h2 (by omega) (by omega))
        have hinc : inc ≤ 1099511627776 := by
          rcases hy with ⟨h, h3⟩ | ⟨h, fa, fb, h3⟩
          · cases h; omega
          · have e3 : inc = drf a b := by cases h; rfl
            rw [e3]; exact drf_le va vb hc
        refine CallOb.mk [] (Build_ok 38 (.pptr [.psl 1 (ints (vals (rmx (dif a b)) (s + n)))]) (rmx (dif a b)) s n inc (by omega) (by omega) (by omega) hinc hFb
          (fun t ht => RestC_ok _ _ t ht (by omega)) hper) rfl ?_ rfl rfl ?_
        · exact ⟨Imp.fn ⟨Imp.shut rfl, trivial⟩, Imp.refl _, Imp.refl _, Imp.refl _, trivial⟩
        rintro _ _ ⟨x, hx, rfl, rfl⟩
        repeat' (conv => whnf
                 first
                 | refine CondOb.mk (fun _ => ?_) (fun _ => ?_)
                 | refine ArOb.fits (by first | omega | (simp only [ints_len] at *; omega)) ?_
                 | refine LitOb.vec ?_
                 | refine MakeOb.vec ?_
                 | refine AllocOb.box ?_
                 | refine AggOb.mk (by decide +kernel) ?_
                 | refine ArU.fits (by first | omega | (simp only [ints_len] at *; omega)) ?_
                 | refine ArB.fits (by first | omega | (simp only [ints_len] at *; omega)) ?_
                 | refine CutOb.split ?_
                 | refine Gh.mk [] ?_
                 | refine And.intro (And.intro (by (simp only [List.length_append, List.length_take, List.length_drop, List.length_cons, List.length_nil, ints_len, List.length_replicate, Go.Cv.vals_len]; omega)) (by (simp only [List.length_append, List.length_take, List.length_drop, List.length_cons, List.length_nil, ints_len, List.length_replicate, Go.Cv.vals_len]; omega))) ?_
                 | refine ⟨_, _, rfl, ints_get (by first | omega | (simp only [ints_len] at *; omega)), ?_⟩
                 | refine ⟨_, _, (Int.toNat_of_nonneg (by first | omega | (simp only [ints_len] at *; omega))).symm, ints_get (by first | omega | (simp only [ints_len] at *; omega)), ?_⟩
                 | fail)
        all_goals try (conv => whnf)
        exact ⟨x, .inr ⟨a, b, hP, hc, buildP_mk (rmx_nonneg _ _) (rmx_mono _) (fun t ht => (hFb t (by omega)).2) (fun m hm h => rmx_dif_inf va vb (by omega) h) hx⟩, rfl, Imp.refl _⟩
end Go.Proofs.Ytppdpfaipkjpmaa
