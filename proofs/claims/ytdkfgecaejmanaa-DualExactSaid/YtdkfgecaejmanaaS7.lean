/-
  A text of the proofs of this seat: lemmas that the statements' proofs use; it states nothing of the program by itself beyond the contracts that its theorems bear. Conditions: those that stand in each theorem. Its short name: S7.
-/
import Derived.Test.YtdkfgecaejmanaaP10
set_option linter.unusedVariables false
set_option linter.unusedSimpArgs false
namespace Go.Proofs.Ytdkfgecaejmanaa
open Go.Sx Go.Fq
set_option maxRecDepth 4000
set_option maxHeartbeats 2000000
abbrev Sol := Int × List F × F × List F × List F
abbrev solv (s : Sol) : SV := .agg [i64 s.1, fsl s.2.1, i64 s.2.2.1.1, i64 s.2.2.1.2, fsl s.2.2.2.1, fsl s.2.2.2.2]
def Chk (p : Pr) (s : Sol) : Prop :=
  (s.1 = 1 ∧ s.2.2.2.2.length = 0 ∧ Opt p s.2.1 s.2.2.2.1 ∧ (prod p.c s.2.1).2.2 = 0 ∧ (prod p.c s.2.1).1 = s.2.2.1.1 ∧ (prod p.c s.2.1).2.1 = s.2.2.1.2) ∨
  (s.1 = 2 ∧ s.2.2.2.1.length = 0 ∧ s.2.2.1 = (0, 1) ∧ Unb p s.2.1 s.2.2.2.2) ∨
  (s.1 = 3 ∧ s.2.1.length = 0 ∧ s.2.2.2.2.length = 0 ∧ s.2.2.1 = (0, 1) ∧ Inf p s.2.2.2.1)
theorem rCheck_ok (p : Pr) (hp : PL p) (t : Int) (X : List F) (v w : Int) (D R : List F) (hX : X.length ≤ 9223372036854775807) (hD : D.length ≤ 9223372036854775807) (hR : R.length ≤ 9223372036854775807) :
    Ctr Try.prog 17 [prv p, solv (t, X, (v, w), D, R)] [] (fun r o => o = [] ∧ r = .bp (Chk p (t, X, (v, w), D, R))) := by
  refine Ctr.imp ?_
  refine fn_intro (E := env 0) tys_ok rfl rfl rfl Try.func17 (by kernel_rfl) rfl (by kernel_rfl) ?_
  have hlX := fr_len X
  have hlD := fr_len D
  have hlR := fr_len R
  have cP := rProduct_ok p.c X (by have := hp.1; omega)
  have cO := rOptimal_ok p hp X D hX hD
  have cU := rUnbounded_ok p hp X R hX hR
  have cI := rInfeasible_ok p hp D hD
  unfold Chk
  dsimp only
  generalize prod p.c X = z at *
  generalize Opt p X D = O at *
  generalize Unb p X R = U at *
  generalize Inf p D = I at *
  repeat' (conv => whnf
           first | (refine CondOb.mk (fun _ => ?_) (fun _ => ?_) <;> first | (exfalso; omega) | skip) | refine ArOb.fits (by first | omega | (simp only [ints_len] at *; omega)) ?_ | refine LitOb.vec ?_ | refine MakeOb.vec ?_ | refine AllocOb.box ?_ | refine AggOb.mk (by decide +kernel) ?_ | refine ArU.fits (by first | omega | (simp only [ints_len] at *; omega)) ?_ | refine ArB.fits (by first | omega | (simp only [ints_len] at *; omega)) ?_ | refine CutOb.split ?_ | refine Gh.mk [] ?_ | refine And.intro (And.intro (by (simp only [List.length_append, List.length_take, List.length_drop, List.length_cons, List.length_nil, ints_len, List.length_replicate, fr_len, rw_len]; omega)) (by (simp only [List.length_append, List.length_take, List.length_drop, List.length_cons, List.length_nil, ints_len, List.length_replicate, fr_len, rw_len]; omega))) ?_ | refine ⟨_, _, rfl, ints_get (by first | omega | (simp only [ints_len] at *; omega)), ?_⟩ | refine ⟨_, _, (Int.toNat_of_nonneg (by first | omega | (simp only [ints_len] at *; omega))).symm, ints_get (by first | omega | (simp only [ints_len] at *; omega)), ?_⟩ | (refine CallOb.mk [] cP rfl (ImpL.refl _) rfl rfl ?_; rintro _ _ ⟨rfl, rfl⟩) | (refine CallOb.mk [] cO rfl (ImpL.refl _) rfl rfl ?_; rintro _ _ ⟨rfl, rfl⟩) | (refine CallOb.mk [] cU rfl (ImpL.refl _) rfl rfl ?_; rintro _ _ ⟨rfl, rfl⟩) | (refine CallOb.mk [] cI rfl (ImpL.refl _) rfl rfl ?_; rintro _ _ ⟨rfl, rfl⟩) | fail)
  all_goals try (conv => whnf)
  all_goals clear cP cO cU cI
  all_goals refine ⟨rfl, ?_⟩
  all_goals simp only [oneS]
  all_goals simp only [Prod.mk.injEq]
  all_goals try simp only [conj, List.cons_append, List.nil_append, and_true] at *
  all_goals try simp only [hlX, hlD, hlR] at *
  all_goals first
    | (refine Imp.bl ⟨by simp, fun h => ?_⟩; exfalso; grind)
    | (refine Imp.bp ?_; grind)
    | trace_state
theorem Check1_ok (p : Pr) (hp : PL p) (t : Int) (X : List F) (v w : Int) (D R : List F) (hX : X.length ≤ 9223372036854775807) (hD : D.length ≤ 9223372036854775807) (hR : R.length ≤ 9223372036854775807) :
    Ctr Try.prog 51 [.pptr [fsl p.c, .psl 4 (rws p.r)], .pptr [i64 t, fsl X, i64 v, i64 w, fsl D, fsl R]] [] (fun r o => o = [] ∧ r = .bp (t = 1 ∧ R.length = 0 ∧ Opt p X D ∧ (prod p.c X).2.2 = 0 ∧ (prod p.c X).1 = v ∧ (prod p.c X).2.1 = w)) := by
  refine Ctr.imp ?_
  refine fn_intro (E := env 0) tys_ok rfl rfl rfl Try.func51 (by kernel_rfl) rfl (by kernel_rfl) ?_
  have hlR := fr_len R
  have cP := Product_ok p.c X (by have := hp.1; omega)
  have cO := Optimal_ok p hp X D hX hD
  generalize prod p.c X = z at *
  generalize Opt p X D = O at *
  repeat' (conv => whnf
           first | (refine CondOb.mk (fun _ => ?_) (fun _ => ?_) <;> first | (exfalso; omega) | skip) | refine ArOb.fits (by first | omega | (simp only [ints_len] at *; omega)) ?_ | refine LitOb.vec ?_ | refine MakeOb.vec ?_ | refine AllocOb.box ?_ | refine AggOb.mk (by decide +kernel) ?_ | refine ArU.fits (by first | omega | (simp only [ints_len] at *; omega)) ?_ | refine ArB.fits (by first | omega | (simp only [ints_len] at *; omega)) ?_ | refine CutOb.split ?_ | refine Gh.mk [] ?_ | refine And.intro (And.intro (by (simp only [List.length_append, List.length_take, List.length_drop, List.length_cons, List.length_nil, ints_len, List.length_replicate, fr_len, rw_len]; omega)) (by (simp only [List.length_append, List.length_take, List.length_drop, List.length_cons, List.length_nil, ints_len, List.length_replicate, fr_len, rw_len]; omega))) ?_ | refine ⟨_, _, rfl, ints_get (by first | omega | (simp only [ints_len] at *; omega)), ?_⟩ | refine ⟨_, _, (Int.toNat_of_nonneg (by first | omega | (simp only [ints_len] at *; omega))).symm, ints_get (by first | omega | (simp only [ints_len] at *; omega)), ?_⟩ | (refine CallOb.mk [] cP rfl (ImpL.refl _) rfl rfl ?_; rintro _ _ ⟨rfl, rfl⟩) | (refine CallOb.mk [] cO rfl (ImpL.refl _) rfl rfl ?_; rintro _ _ ⟨rfl, rfl⟩) | fail)
  all_goals try (conv => whnf)
  all_goals clear cP cO
  all_goals refine ⟨rfl, ?_⟩
  all_goals simp only [oneS]
  all_goals try simp only [conj, List.cons_append, List.nil_append, and_true] at *
  all_goals try simp only [hlR] at *
  all_goals first
    | (refine Imp.bl ⟨by simp, fun h => ?_⟩; exfalso; grind)
    | (refine Imp.bp ?_; grind)
    | trace_state
theorem Check2_ok (p : Pr) (hp : PL p) (t : Int) (X : List F) (v w : Int) (D R : List F) (hX : X.length ≤ 9223372036854775807) (hD : D.length ≤ 9223372036854775807) (hR : R.length ≤ 9223372036854775807) (n : Prop) :
    Ctr Try.prog 53 [.pptr [i64 t, fsl X, i64 v, i64 w, fsl D, fsl R], .pptr [fsl p.c, .psl 4 (rws p.r)], .pptr [.bp n]] [] (fun r o => o = [] ∧ r = .bp (t = 2 ∧ D.length = 0 ∧ n ∧ Unb p X R)) := by
  refine Ctr.imp ?_
  refine fn_intro (E := env 0) tys_ok rfl rfl rfl Try.func53 (by kernel_rfl) rfl (by kernel_rfl) ?_
  have hlD := fr_len D
  have cU := Unbounded_ok p hp X R hX hR
  generalize Unb p X R = U at *
  repeat' (conv => whnf
           first | (refine CondOb.mk (fun _ => ?_) (fun _ => ?_) <;> first | (exfalso; omega) | skip) | refine ArOb.fits (by first | omega | (simp only [ints_len] at *; omega)) ?_ | refine LitOb.vec ?_ | refine MakeOb.vec ?_ | refine AllocOb.box ?_ | refine AggOb.mk (by decide +kernel) ?_ | refine ArU.fits (by first | omega | (simp only [ints_len] at *; omega)) ?_ | refine ArB.fits (by first | omega | (simp only [ints_len] at *; omega)) ?_ | refine CutOb.split ?_ | refine Gh.mk [] ?_ | refine And.intro (And.intro (by (simp only [List.length_append, List.length_take, List.length_drop, List.length_cons, List.length_nil, ints_len, List.length_replicate, fr_len, rw_len]; omega)) (by (simp only [List.length_append, List.length_take, List.length_drop, List.length_cons, List.length_nil, ints_len, List.length_replicate, fr_len, rw_len]; omega))) ?_ | refine ⟨_, _, rfl, ints_get (by first | omega | (simp only [ints_len] at *; omega)), ?_⟩ | refine ⟨_, _, (Int.toNat_of_nonneg (by first | omega | (simp only [ints_len] at *; omega))).symm, ints_get (by first | omega | (simp only [ints_len] at *; omega)), ?_⟩ | (refine CallOb.mk [] cU rfl (ImpL.refl _) rfl rfl ?_; rintro _ _ ⟨rfl, rfl⟩) | fail)
  all_goals try (conv => whnf)
  all_goals clear cU
  all_goals refine ⟨rfl, ?_⟩
  all_goals simp only [oneS]
  all_goals try simp only [hlD] at *
  all_goals first
    | (refine Imp.bl ⟨by simp, fun h => ?_⟩; exfalso; grind)
    | (refine Imp.bp ?_; grind)
    | trace_state
theorem Check3_ok (p : Pr) (hp : PL p) (t : Int) (X : List F) (v w : Int) (D R : List F) (hX : X.length ≤ 9223372036854775807) (hD : D.length ≤ 9223372036854775807) (hR : R.length ≤ 9223372036854775807) (n : Prop) :
    Ctr Try.prog 54 [.pptr [i64 t, fsl X, i64 v, i64 w, fsl D, fsl R], .pptr [fsl p.c, .psl 4 (rws p.r)], .pptr [.bp n]] [] (fun r o => o = [] ∧ r = .bp (t = 3 ∧ X.length = 0 ∧ R.length = 0 ∧ n ∧ Inf p D)) := by
  refine Ctr.imp ?_
  refine fn_intro (E := env 0) tys_ok rfl rfl rfl Try.func54 (by kernel_rfl) rfl (by kernel_rfl) ?_
  have hlX := fr_len X
  have hlR := fr_len R
  have cI := Infeasible_ok p hp D hD
  generalize Inf p D = I at *
  repeat' (conv => whnf
           first | (refine CondOb.mk (fun _ => ?_) (fun _ => ?_) <;> first | (exfalso; omega) | skip) | refine ArOb.fits (by first | omega | (simp only [ints_len] at *; omega)) ?_ | refine LitOb.vec ?_ | refine MakeOb.vec ?_ | refine AllocOb.box ?_ | refine AggOb.mk (by decide +kernel) ?_ | refine ArU.fits (by first | omega | (simp only [ints_len] at *; omega)) ?_ | refine ArB.fits (by first | omega | (simp only [ints_len] at *; omega)) ?_ | refine CutOb.split ?_ | refine Gh.mk [] ?_ | refine And.intro (And.intro (by (simp only [List.length_append, List.length_take, List.length_drop, List.length_cons, List.length_nil, ints_len, List.length_replicate, fr_len, rw_len]; omega)) (by (simp only [List.length_append, List.length_take, List.length_drop, List.length_cons, List.length_nil, ints_len, List.length_replicate, fr_len, rw_len]; omega))) ?_ | refine ⟨_, _, rfl, ints_get (by first | omega | (simp only [ints_len] at *; omega)), ?_⟩ | refine ⟨_, _, (Int.toNat_of_nonneg (by first | omega | (simp only [ints_len] at *; omega))).symm, ints_get (by first | omega | (simp only [ints_len] at *; omega)), ?_⟩ | (refine CallOb.mk [] cI rfl (ImpL.refl _) rfl rfl ?_; rintro _ _ ⟨rfl, rfl⟩) | fail)
  all_goals try (conv => whnf)
  all_goals clear cI
  all_goals refine ⟨rfl, ?_⟩
  all_goals simp only [oneS]
  all_goals try simp only [hlX, hlR] at *
  all_goals first
    | (refine Imp.bl ⟨by simp, fun h => ?_⟩; exfalso; grind)
    | (refine Imp.bp ?_; grind)
    | trace_state
theorem Check_ok (p : Pr) (hp : PL p) (t : Int) (X : List F) (v w : Int) (D R : List F) (hX : X.length ≤ 9223372036854775807) (hD : D.length ≤ 9223372036854775807) (hR : R.length ≤ 9223372036854775807) :
    Ctr Try.prog 16 [prv p, solv (t, X, (v, w), D, R)] [] (fun r o => o = [] ∧ r = .bp (Chk p (t, X, (v, w), D, R))) := by
  refine Ctr.imp ?_
  refine fn_intro (E := env 0) tys_ok rfl rfl rfl Try.func16 (by kernel_rfl) rfl (by kernel_rfl) ?_
  repeat' (conv => whnf
           first | refine CondOb.mk (fun _ => ?_) (fun _ => ?_) | refine ArOb.fits (by first | omega | (simp only [ints_len] at *; omega)) ?_ | refine LitOb.vec ?_ | refine MakeOb.vec ?_ | refine AllocOb.box ?_ | refine AggOb.mk (by decide +kernel) ?_ | refine ArU.fits (by first | omega | (simp only [ints_len] at *; omega)) ?_ | refine ArB.fits (by first | omega | (simp only [ints_len] at *; omega)) ?_ | refine CutOb.split ?_ | refine And.intro (And.intro (by (simp only [List.length_append, List.length_take, List.length_drop, List.length_cons, List.length_nil, ints_len, List.length_replicate, fr_len, rw_len]; omega)) (by (simp only [List.length_append, List.length_take, List.length_drop, List.length_cons, List.length_nil, ints_len, List.length_replicate, fr_len, rw_len]; omega))) ?_ | refine ⟨_, _, rfl, ints_get (by first | omega | (simp only [ints_len] at *; omega)), ?_⟩ | refine ⟨_, _, (Int.toNat_of_nonneg (by first | omega | (simp only [ints_len] at *; omega))).symm, ints_get (by first | omega | (simp only [ints_len] at *; omega)), ?_⟩ | fail)
  all_goals try (conv => whnf)
  refine .mk [.fb 0, .fb 1, .fb 2] ?_
  repeat' (conv => whnf
           first | refine CondOb.mk (fun _ => ?_) (fun _ => ?_) | refine ArOb.fits (by first | omega | (simp only [ints_len] at *; omega)) ?_ | refine LitOb.vec ?_ | refine MakeOb.vec ?_ | refine AllocOb.box ?_ | refine AggOb.mk (by decide +kernel) ?_ | refine ArU.fits (by first | omega | (simp only [ints_len] at *; omega)) ?_ | refine ArB.fits (by first | omega | (simp only [ints_len] at *; omega)) ?_ | refine CutOb.split ?_ | refine And.intro (And.intro (by (simp only [List.length_append, List.length_take, List.length_drop, List.length_cons, List.length_nil, ints_len, List.length_replicate, fr_len, rw_len]; omega)) (by (simp only [List.length_append, List.length_take, List.length_drop, List.length_cons, List.length_nil, ints_len, List.length_replicate, fr_len, rw_len]; omega))) ?_ | refine ⟨_, _, rfl, ints_get (by first | omega | (simp only [ints_len] at *; omega)), ?_⟩ | refine ⟨_, _, (Int.toNat_of_nonneg (by first | omega | (simp only [ints_len] at *; omega))).symm, ints_get (by first | omega | (simp only [ints_len] at *; omega)), ?_⟩ | fail)
  all_goals try (conv => whnf)
  refine .mk [] ?_
  have c1 := Check1_ok p hp t X v w D R hX hD hR
  have c2 := Check2_ok p hp t X v w D R hX hD hR (conj ([v = 0] ++ ([w = 1] ++ [])))
  have c3 := Check3_ok p hp t X v w D R hX hD hR (conj ([v = 0] ++ ([w = 1] ++ [])))
  unfold Chk
  dsimp only at c1 c2 c3 ⊢
  generalize Opt p X D = O at *
  generalize Unb p X R = U at *
  generalize Inf p D = I at *
  generalize prod p.c X = z at *
  refine LoopOb.mk (Y := Nat) (st := fun k => ⟨[(19, i64 k), (18, i64 3), (17, .vec 0)], [.vec 1 [[.fn 51 [.pptr [fsl p.c, .psl 4 (rws p.r)], .pptr [i64 t, fsl X, i64 v, i64 w, fsl D, fsl R]]], [.fn 53 [.pptr [i64 t, fsl X, i64 v, i64 w, fsl D, fsl R], .pptr [fsl p.c, .psl 4 (rws p.r)], .pptr [.bp (conj ([v = 0] ++ ([w = 1] ++ [])))]]], [.fn 54 [.pptr [i64 t, fsl X, i64 v, i64 w, fsl D, fsl R], .pptr [fsl p.c, .psl 4 (rws p.r)], .pptr [.bp (conj ([v = 0] ++ ([w = 1] ++ [])))]]]]]⟩)
    (inv := fun k => k ≤ 3 ∧ (1 ≤ k → ¬(t = 1 ∧ R.length = 0 ∧ O ∧ z.2.2 = 0 ∧ z.1 = v ∧ z.2.1 = w)) ∧ (2 ≤ k → ¬(t = 2 ∧ D.length = 0 ∧ v = 0 ∧ w = 1 ∧ U)) ∧ (3 ≤ k → ¬(t = 3 ∧ X.length = 0 ∧ R.length = 0 ∧ v = 0 ∧ w = 1 ∧ I))) (fun k => 3 - k) 0 [3] ⟨by omega, by omega, by omega, by omega⟩ (by (refine Le.mk (by kernel_rfl) ?_ ?_ <;> repeat' (first | exact True.intro | refine And.intro ?_ ?_ | exact Imp.refl _ | exact Imp.any _ | exact Imp.num (by first | omega | simp only [ints_len]) | exact rfl | exact Imp.bl (by simp)))) ?_
  rintro k ⟨hk, h1, h2, h3⟩
  have hlen : ∀ i < 3, True := fun _ _ => trivial
  clear hX hD hR hlen
  rcases (show k = 0 ∨ k = 1 ∨ k = 2 ∨ k = 3 by omega) with rfl | rfl | rfl | rfl
  · repeat' (conv => whnf
             first | (refine CondOb.mk (fun _ => ?_) (fun _ => ?_) <;> first | (exfalso; omega) | skip) | refine ArOb.fits (by first | omega | (simp only [ints_len] at *; omega)) ?_ | refine LitOb.vec ?_ | refine MakeOb.vec ?_ | refine AllocOb.box ?_ | refine AggOb.mk (by decide +kernel) ?_ | refine ArU.fits (by first | omega | (simp only [ints_len] at *; omega)) ?_ | refine ArB.fits (by first | omega | (simp only [ints_len] at *; omega)) ?_ | refine CutOb.split ?_ | refine Gh.mk [] ?_ | refine And.intro (And.intro (by (simp only [List.length_append, List.length_take, List.length_drop, List.length_cons, List.length_nil, ints_len, List.length_replicate, fr_len, rw_len]; omega)) (by (simp only [List.length_append, List.length_take, List.length_drop, List.length_cons, List.length_nil, ints_len, List.length_replicate, fr_len, rw_len]; omega))) ?_ | refine ⟨_, _, rfl, ints_get (by first | omega | (simp only [ints_len] at *; omega)), ?_⟩ | refine ⟨_, _, (Int.toNat_of_nonneg (by first | omega | (simp only [ints_len] at *; omega))).symm, ints_get (by first | omega | (simp only [ints_len] at *; omega)), ?_⟩ | refine And.intro (by simp) ?_ | refine ⟨0, rfl, ?_⟩ | refine ⟨_, rfl, ?_⟩ | (refine CallOb.mk [] c1 rfl (ImpL.refl _) rfl rfl ?_; rintro _ _ ⟨rfl, rfl⟩) | fail)
    all_goals try (conv => whnf)
    · rename_i hh
      try simp only [conj, List.cons_append, List.nil_append, and_true] at hh
      exact Imp.bl ⟨fun _ => by grind, fun _ => rfl⟩
    · rename_i hh
      try simp only [conj, List.cons_append, List.nil_append, and_true] at hh
      exact ⟨1, [0], ⟨by omega, by grind, by grind, by grind⟩, by omega, by (refine Le.mk (by kernel_rfl) ?_ ?_ <;> repeat' (first | exact True.intro | refine And.intro ?_ ?_ | exact Imp.refl _ | exact Imp.any _ | exact Imp.num (by first | omega | simp only [ints_len]) | exact rfl | exact Imp.bl (by simp)))⟩
  · repeat' (conv => whnf
             first | (refine CondOb.mk (fun _ => ?_) (fun _ => ?_) <;> first | (exfalso; omega) | skip) | refine ArOb.fits (by first | omega | (simp only [ints_len] at *; omega)) ?_ | refine LitOb.vec ?_ | refine MakeOb.vec ?_ | refine AllocOb.box ?_ | refine AggOb.mk (by decide +kernel) ?_ | refine ArU.fits (by first | omega | (simp only [ints_len] at *; omega)) ?_ | refine ArB.fits (by first | omega | (simp only [ints_len] at *; omega)) ?_ | refine CutOb.split ?_ | refine Gh.mk [] ?_ | refine And.intro (And.intro (by (simp only [List.length_append, List.length_take, List.length_drop, List.length_cons, List.length_nil, ints_len, List.length_replicate, fr_len, rw_len]; omega)) (by (simp only [List.length_append, List.length_take, List.length_drop, List.length_cons, List.length_nil, ints_len, List.length_replicate, fr_len, rw_len]; omega))) ?_ | refine ⟨_, _, rfl, ints_get (by first | omega | (simp only [ints_len] at *; omega)), ?_⟩ | refine ⟨_, _, (Int.toNat_of_nonneg (by first | omega | (simp only [ints_len] at *; omega))).symm, ints_get (by first | omega | (simp only [ints_len] at *; omega)), ?_⟩ | refine And.intro (by simp) ?_ | refine ⟨1, rfl, ?_⟩ | refine ⟨_, rfl, ?_⟩ | (refine CallOb.mk [] c2 rfl (ImpL.refl _) rfl rfl ?_; rintro _ _ ⟨rfl, rfl⟩) | fail)
    all_goals try (conv => whnf)
    · rename_i hh
      try simp only [conj, List.cons_append, List.nil_append, and_true] at hh
      exact Imp.bl ⟨fun _ => by grind, fun _ => rfl⟩
    · rename_i hh
      try simp only [conj, List.cons_append, List.nil_append, and_true] at hh
      exact ⟨2, [0], ⟨by omega, by grind, by grind, by grind⟩, by omega, by (refine Le.mk (by kernel_rfl) ?_ ?_ <;> repeat' (first | exact True.intro | refine And.intro ?_ ?_ | exact Imp.refl _ | exact Imp.any _ | exact Imp.num (by first | omega | simp only [ints_len]) | exact rfl | exact Imp.bl (by simp)))⟩
  · repeat' (conv => whnf
             first | (refine CondOb.mk (fun _ => ?_) (fun _ => ?_) <;> first | (exfalso; omega) | skip) | refine ArOb.fits (by first | omega | (simp only [ints_len] at *; omega)) ?_ | refine LitOb.vec ?_ | refine MakeOb.vec ?_ | refine AllocOb.box ?_ | refine AggOb.mk (by decide +kernel) ?_ | refine ArU.fits (by first | omega | (simp only [ints_len] at *; omega)) ?_ | refine ArB.fits (by first | omega | (simp only [ints_len] at *; omega)) ?_ | refine CutOb.split ?_ | refine Gh.mk [] ?_ | refine And.intro (And.intro (by (simp only [List.length_append, List.length_take, List.length_drop, List.length_cons, List.length_nil, ints_len, List.length_replicate, fr_len, rw_len]; omega)) (by (simp only [List.length_append, List.length_take, List.length_drop, List.length_cons, List.length_nil, ints_len, List.length_replicate, fr_len, rw_len]; omega))) ?_ | refine ⟨_, _, rfl, ints_get (by first | omega | (simp only [ints_len] at *; omega)), ?_⟩ | refine ⟨_, _, (Int.toNat_of_nonneg (by first | omega | (simp only [ints_len] at *; omega))).symm, ints_get (by first | omega | (simp only [ints_len] at *; omega)), ?_⟩ | refine And.intro (by simp) ?_ | refine ⟨2, rfl, ?_⟩ | refine ⟨_, rfl, ?_⟩ | (refine CallOb.mk [] c3 rfl (ImpL.refl _) rfl rfl ?_; rintro _ _ ⟨rfl, rfl⟩) | fail)
    all_goals try (conv => whnf)
    · rename_i hh
      try simp only [conj, List.cons_append, List.nil_append, and_true] at hh
      exact Imp.bl ⟨fun _ => by grind, fun _ => rfl⟩
    · rename_i hh
      try simp only [conj, List.cons_append, List.nil_append, and_true] at hh
      exact ⟨3, [0], ⟨by omega, by grind, by grind, by grind⟩, by omega, by (refine Le.mk (by kernel_rfl) ?_ ?_ <;> repeat' (first | exact True.intro | refine And.intro ?_ ?_ | exact Imp.refl _ | exact Imp.any _ | exact Imp.num (by first | omega | simp only [ints_len]) | exact rfl | exact Imp.bl (by simp)))⟩
  · repeat' (conv => whnf
             first | (refine CondOb.mk (fun _ => ?_) (fun _ => ?_) <;> first | (exfalso; omega) | skip) | refine ArOb.fits (by first | omega | (simp only [ints_len] at *; omega)) ?_ | refine LitOb.vec ?_ | refine MakeOb.vec ?_ | refine AllocOb.box ?_ | refine AggOb.mk (by decide +kernel) ?_ | refine ArU.fits (by first | omega | (simp only [ints_len] at *; omega)) ?_ | refine ArB.fits (by first | omega | (simp only [ints_len] at *; omega)) ?_ | refine CutOb.split ?_ | refine Gh.mk [] ?_ | refine And.intro (And.intro (by (simp only [List.length_append, List.length_take, List.length_drop, List.length_cons, List.length_nil, ints_len, List.length_replicate, fr_len, rw_len]; omega)) (by (simp only [List.length_append, List.length_take, List.length_drop, List.length_cons, List.length_nil, ints_len, List.length_replicate, fr_len, rw_len]; omega))) ?_ | refine ⟨_, _, rfl, ints_get (by first | omega | (simp only [ints_len] at *; omega)), ?_⟩ | refine ⟨_, _, (Int.toNat_of_nonneg (by first | omega | (simp only [ints_len] at *; omega))).symm, ints_get (by first | omega | (simp only [ints_len] at *; omega)), ?_⟩ | fail)
    all_goals try (conv => whnf)
    have g1 := h1 (by omega)
    have g2 := h2 (by omega)
    have g3 := h3 (by omega)
    exact ⟨rfl, Imp.bl ⟨fun h => (by cases h), fun h => by simp only [Prod.mk.injEq] at h; exfalso; grind⟩⟩
end Go.Proofs.Ytdkfgecaejmanaa
