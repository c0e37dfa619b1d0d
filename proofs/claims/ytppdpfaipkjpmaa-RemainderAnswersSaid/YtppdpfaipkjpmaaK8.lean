/-
  A text of the proofs of this seat: lemmas that the statements' proofs use; it states nothing of the program by itself beyond the contracts that its theorems bear. Conditions: those that stand in each theorem. Its short name: K8.
-/
import Derived.Test.YtppdpfaipkjpmaaK7
import Derived.Test.YtppdpfaipkjpmaaPl
set_option linter.unusedVariables false
set_option linter.unusedSimpArgs false
namespace Go.Proofs.Ytppdpfaipkjpmaa
open Go.Sx Go.Cv
set_option maxRecDepth 4000
set_option maxHeartbeats 2000000
theorem Raise_ok (f a : C3) (hf : VC f) (na : NrmOf f a) (fa : FinC a) (c : Int) (hc : 0 ≤ c) (hc2 : c ≤ 1000) : Ctr Try.prog 30 [crv f.1 f.2.1 f.2.2, i64 c] [] (fun r o => ∃ x, MkP (rai a c) x ∧ o = [] ∧ r = crvE x) := by
  have va := na.1
  have n1 := va.n1
  have n2 := va.n2
  have p1 := va.p1
  have p2 := va.p2
  have pn := va.pn
  have q0 := va.q0
  have q1 := va.q1
  have hil := ints_len a.1
  have hcv : ∀ t, t ≤ 1048576 → 0 ≤ cv a t ∧ cv a t ≤ 2000000000000000 := fun t ht => ⟨cv_nonneg va t, cv_small va ht (fa.not va t)⟩
  refine Ctr.impE ?_
  refine fn_intro (E := env 0) tys_ok rfl rfl rfl Try.func30 (by kernel_rfl) rfl (by kernel_rfl) ?_
  repeat' (conv => whnf
           first
           | (refine CondOb.mk (fun _ => ?_) (fun _ => ?_) <;> first | (exfalso; omega) | skip)
           | refine ArOb.fits (by first | omega | (simp only [ints_len] at *; omega)) ?_
           | refine LitOb.vec ?_
           | refine MakeOb.vec ?_
           | refine AllocOb.box ?_
           | refine AggOb.mk (by decide +kernel) ?_
           | refine ArU.fits (by first | omega | (simp only [ints_len] at *; omega)) ?_
           | refine ArB.fits (by first | omega | (simp only [ints_len] at *; omega)) ?_
           | refine CutOb.split ?_
           | refine Gh.mk [] ?_
           | refine And.intro (And.intro (by (simp only [List.length_append, List.length_take, List.length_drop, List.length_cons, List.length_nil, ints_len, List.length_replicate, Go.Cv.vals_len]; omega)) (by (simp only [List.length_append, List.length_take, List.length_drop, List.length_cons, List.length_nil, ints_len, List.length_replicate, Go.Cv.vals_len]; omega))) ?_
           | refine ⟨_, _, rfl, ints_get (by first | omega | (simp only [ints_len] at *; omega)), ?_⟩
           | refine ⟨_, _, (Int.toNat_of_nonneg (by first | omega | (simp only [ints_len] at *; omega))).symm, ints_get (by first | omega | (simp only [ints_len] at *; omega)), ?_⟩
           | refine DrawOb.mk [] (.qs [0, 1, 2, 3, 5] (.l 4 [1] (.l 6 [1] (.l 7 [1] (.l 8 [] (.qs [9] (.l 10 [] .nil .no)) .no) .no) .no) .no)) (by decide +kernel) ?_
           | fail)
  all_goals try (conv => whnf)
  refine CallOb.mk [] (CNorm f hf) rfl (ImpL.refl _) rfl rfl ?_
  rintro _ _ ⟨a', na', rfl, rfl⟩
  cases na'.uniq na
  repeat' (conv => whnf
           first
           | (refine CondOb.mk (fun _ => ?_) (fun _ => ?_) <;> first | (exfalso; omega) | skip)
           | refine ArOb.fits (by first | omega | (simp only [ints_len] at *; omega)) ?_
           | refine LitOb.vec ?_
           | refine MakeOb.vec ?_
           | refine AllocOb.box ?_
           | refine AggOb.mk (by decide +kernel) ?_
           | refine ArU.fits (by first | omega | (simp only [ints_len] at *; omega)) ?_
           | refine ArB.fits (by first | omega | (simp only [ints_len] at *; omega)) ?_
           | refine CutOb.split ?_
           | refine And.intro (And.intro (by (simp only [List.length_append, List.length_take, List.length_drop, List.length_cons, List.length_nil, ints_len, List.length_replicate, Go.Cv.vals_len]; omega)) (by (simp only [List.length_append, List.length_take, List.length_drop, List.length_cons, List.length_nil, ints_len, List.length_replicate, Go.Cv.vals_len]; omega))) ?_
           | refine ⟨_, _, rfl, ints_get (by first | omega | (simp only [ints_len] at *; omega)), ?_⟩
           | refine ⟨_, _, (Int.toNat_of_nonneg (by first | omega | (simp only [ints_len] at *; omega))).symm, ints_get (by first | omega | (simp only [ints_len] at *; omega)), ?_⟩
           | refine DrawOb.mk [] (.qs [0, 1, 2, 3, 5] (.l 4 [1] (.l 6 [1] (.l 7 [1] (.l 8 [] (.qs [9] (.l 10 [] .nil .no)) .no) .no) .no) .no)) (by decide +kernel) ?_
           | fail)
  all_goals try (conv => whnf)
  refine .mk [] ?_
  have hone : vals (rai a c) 1 = [0] := rfl
  refine LoopOb.mk (Y := Nat) (st := fun t => ⟨[(9, i64 t), (8, .ptr 3 0), (6, .ptr 1 0), (4, .ptr 0 0), (1, i64 c)], [.box [.nil, i64 0, i64 0], .box [.psl 1 (ints a.1), i64 a.2.1, i64 a.2.2], .vec 1 (ints (vals (rai a c) t)), .box [.vec 2, i64 a.2.1, i64 a.2.2]]⟩)
    (inv := fun t => 1 ≤ t ∧ t ≤ a.1.length + a.2.1 + 1) (fun t => a.1.length + a.2.1 + 1 - t) 1 [1, 2, 3, 4] (by omega) (by refine Le.mk (by kernel_rfl) ?_ ?_ <;> repeat' (first | exact True.intro | refine And.intro ?_ ?_ | exact Imp.refl _ | exact Imp.num (by omega) | exact rfl)) ?_
  rintro t ⟨ht1, ht⟩
  have hbt := hcv t (by omega)
  repeat' (conv => whnf
           first
           | (refine CondOb.mk (fun _ => ?_) (fun _ => ?_) <;> first | (exfalso; omega) | skip)
           | refine ArOb.fits (by first | omega | (simp only [ints_len] at *; omega)) ?_
           | refine LitOb.vec ?_
           | refine MakeOb.vec ?_
           | refine AllocOb.box ?_
           | refine AggOb.mk (by decide +kernel) ?_
           | refine ArU.fits (by first | omega | (simp only [ints_len] at *; omega)) ?_
           | refine ArB.fits (by first | omega | (simp only [ints_len] at *; omega)) ?_
           | refine CutOb.split ?_
           | refine And.intro (And.intro (by (simp only [List.length_append, List.length_take, List.length_drop, List.length_cons, List.length_nil, ints_len, List.length_replicate, Go.Cv.vals_len]; omega)) (by (simp only [List.length_append, List.length_take, List.length_drop, List.length_cons, List.length_nil, ints_len, List.length_replicate, Go.Cv.vals_len]; omega))) ?_
           | refine ⟨_, _, rfl, ints_get (by first | omega | (simp only [ints_len] at *; omega)), ?_⟩
           | refine ⟨_, _, (Int.toNat_of_nonneg (by first | omega | (simp only [ints_len] at *; omega))).symm, ints_get (by first | omega | (simp only [ints_len] at *; omega)), ?_⟩
           | refine DrawOb.mk [] (.qs [0, 1, 2, 3, 5] (.l 4 [1] (.l 6 [1] (.l 7 [1] (.l 8 [] (.qs [9] (.l 10 [] .nil .no)) .no) .no) .no) .no)) (by decide +kernel) ?_
           | fail)
  all_goals try (conv => whnf)
  · refine .mk [] ?_
    repeat' (conv => whnf
             first
             | (refine CondOb.mk (fun _ => ?_) (fun _ => ?_) <;> first | (exfalso; omega) | skip)
             | refine ArOb.fits (by first | omega | (simp only [ints_len] at *; omega)) ?_
             | refine LitOb.vec ?_
             | refine MakeOb.vec ?_
             | refine AllocOb.box ?_
             | refine AggOb.mk (by decide +kernel) ?_
             | refine ArU.fits (by first | omega | (simp only [ints_len] at *; omega)) ?_
             | refine ArB.fits (by first | omega | (simp only [ints_len] at *; omega)) ?_
             | refine CutOb.split ?_
             | refine Gh.mk [] ?_
             | refine And.intro (And.intro (by (simp only [List.length_append, List.length_take, List.length_drop, List.length_cons, List.length_nil, ints_len, List.length_replicate, Go.Cv.vals_len]; omega)) (by (simp only [List.length_append, List.length_take, List.length_drop, List.length_cons, List.length_nil, ints_len, List.length_replicate, Go.Cv.vals_len]; omega))) ?_
             | refine ⟨_, _, rfl, ints_get (by first | omega | (simp only [ints_len] at *; omega)), ?_⟩
             | refine ⟨_, _, (Int.toNat_of_nonneg (by first | omega | (simp only [ints_len] at *; omega))).symm, ints_get (by first | omega | (simp only [ints_len] at *; omega)), ?_⟩
             | refine DrawOb.mk [] (.qs [0, 1, 2, 3, 5] (.l 4 [1] (.l 6 [1] (.l 7 [1] (.l 8 [] (.qs [9] (.l 10 [] .nil .no)) .no) .no) .no) .no)) (by decide +kernel) ?_
             | (refine CallOb.mk [] (rAt_ok a t va (by omega)) rfl (ImpL.refl _) rfl rfl ?_; rintro _ _ ⟨rfl, rfl⟩)
             | fail)
    all_goals try (conv => whnf)
    refine CallOb.mk [] (plus_ok (cv a t) c hbt.1 hc (by omega) (by omega) (fun _ _ => by omega)) rfl (ImpL.refl _) rfl rfl ?_
    rintro _ _ ⟨rfl, rfl⟩
    have hpe : plus (cv a t) c = rai a c t := by
      unfold plus rai
      rw [if_neg (by simp only [INF]; omega), if_neg (by omega)]
    rw [hpe]
    repeat' (conv => whnf
             first
             | (refine CondOb.mk (fun _ => ?_) (fun _ => ?_) <;> first | (exfalso; omega) | skip)
             | refine ArOb.fits (by first | omega | (simp only [ints_len] at *; omega)) ?_
             | refine LitOb.vec ?_
             | refine MakeOb.vec ?_
             | refine AllocOb.box ?_
             | refine AggOb.mk (by decide +kernel) ?_
             | refine ArU.fits (by first | omega | (simp only [ints_len] at *; omega)) ?_
             | refine ArB.fits (by first | omega | (simp only [ints_len] at *; omega)) ?_
             | refine CutOb.split ?_
             | refine And.intro (And.intro (by (simp only [List.length_append, List.length_take, List.length_drop, List.length_cons, List.length_nil, ints_len, List.length_replicate, Go.Cv.vals_len]; omega)) (by (simp only [List.length_append, List.length_take, List.length_drop, List.length_cons, List.length_nil, ints_len, List.length_replicate, Go.Cv.vals_len]; omega))) ?_
             | refine ⟨_, _, rfl, ints_get (by first | omega | (simp only [ints_len] at *; omega)), ?_⟩
             | refine ⟨_, _, (Int.toNat_of_nonneg (by first | omega | (simp only [ints_len] at *; omega))).symm, ints_get (by first | omega | (simp only [ints_len] at *; omega)), ?_⟩
             | refine DrawOb.mk [] (.qs [0, 1, 2, 3, 5] (.l 4 [1] (.l 6 [1] (.l 7 [1] (.l 8 [] (.qs [9] (.l 10 [] .nil .no)) .no) .no) .no) .no)) (by decide +kernel) ?_
             | fail)
    all_goals try (conv => whnf)
    refine .mk [] ?_
    refine ⟨t + 1, [0, 1, 5, 3], by omega, by omega, ?_⟩
    refine Le.mk (by kernel_rfl) ?_ ?_ <;> repeat' (first | exact True.intro | refine And.intro ?_ ?_ | exact Imp.refl _ | exact Imp.any _ | exact Imp.num (by omega) | exact rfl | simp [ints, vals_succ])
  · have htN : t = a.1.length + a.2.1 + 1 := by omega
    subst htN
    have hbd : ∀ t, t < a.1.length + a.2.1 + 1 → 0 ≤ rai a c t ∧ rai a c t ≤ 2000000000001000 := by
      intro t ht
      have := hcv t (by omega)
      unfold rai
      split <;> omega
    refine .mk [.fz 2] ?_
    refine CallOb.mk [] (Made_ok (vals (rai a c) (a.1.length + a.2.1 + 1)) a.2.1 a.2.2 (bd_vals (fun t ht => ⟨(hbd t ht).1, by have := (hbd t ht).2; simp only [INF]; omega⟩) p1 (by omega) (by omega) q0 (by omega))) rfl (ImpL.refl _) rfl rfl ?_
    rintro _ _ ⟨⟨x1, x2, x3, x4⟩, hx, rfl, rfl⟩
    repeat' (conv => whnf
             first
             | refine CondOb.mk (fun _ => ?_) (fun _ => ?_)
             | refine ArOb.fits (by first | omega | (simp only [ints_len] at *; omega)) ?_
             | refine LitOb.vec ?_
             | refine MakeOb.vec ?_
             | refine AllocOb.box ?_
             | refine AggOb.mk (by decide +kernel) ?_
             | refine ArU.fits (by first | omega | (simp only [ints_len] at *; omega)) ?_
             | refine ArB.fits (by first | omega | (simp only [ints_len] at *; omega)) ?_
             | refine CutOb.split ?_
             | refine Gh.mk [] ?_
             | refine And.intro (And.intro (by (simp only [List.length_append, List.length_take, List.length_drop, List.length_cons, List.length_nil, ints_len, List.length_replicate, Go.Cv.vals_len]; omega)) (by (simp only [List.length_append, List.length_take, List.length_drop, List.length_cons, List.length_nil, ints_len, List.length_replicate, Go.Cv.vals_len]; omega))) ?_
             | refine ⟨_, _, rfl, ints_get (by first | omega | (simp only [ints_len] at *; omega)), ?_⟩
             | refine ⟨_, _, (Int.toNat_of_nonneg (by first | omega | (simp only [ints_len] at *; omega))).symm, ints_get (by first | omega | (simp only [ints_len] at *; omega)), ?_⟩
             | fail)
    all_goals try (conv => whnf)
    refine ⟨(x1, x2, x3, x4), madeP_mk p1 (by rw [vals_len]; omega) (fun t ht => ?_) (fun m hm h => ?_) (fun h => ?_) hx, rfl, Imp.refl _⟩
    · rw [vals_len] at ht; rw [vals_get ht]
    · rw [vals_len] at hm
      have := (hbd m hm).2
      rw [h] at this; simp only [INF] at this; omega
    · rw [vals_len]
      intro t ht
      have e := va.per t (by omega)
      unfold rai cv
      rw [if_neg (by omega), if_neg (by omega), e]; omega
end Go.Proofs.Ytppdpfaipkjpmaa
