/-
  A text of the proofs of this seat: lemmas that the statements' proofs use; it states nothing of the program by itself beyond the contracts that its theorems bear. Conditions: those that stand in each theorem. Its short name: G1.
-/
import Derived.Test.YtlnpbgjoccipaaaRa
import Derived.Test.YtlnpbgjoccipaaaH1
import Derived.Test.YtlnpbgjoccipaaaPl
set_option linter.unusedVariables false
set_option linter.unusedSimpArgs false
namespace Go.Proofs.Ytlnpbgjoccipaaa
open Go.Sx Go.Cv
set_option maxRecDepth 4000
set_option maxHeartbeats 2000000
theorem cStart_ok (a : C3) (va : VC a) : Ctr Try.prog 76 [crv a.1 a.2.1 a.2.2] [] (fun r o => o = [] ∧ r = i64 (a.1.length - a.2.1 : Nat)) := by
  refine fn_intro (E := env 0) tys_ok rfl rfl rfl Try.func76 (by kernel_rfl) rfl (by kernel_rfl) ?_
  have n2 := va.n2
  have p2 := va.p2
  have pn := va.pn
  have hil := ints_len a.1
  repeat' (conv => whnf
           first | (refine CondOb.mk (fun _ => ?_) (fun _ => ?_) <;> first | (exfalso; omega) | skip) | refine ArOb.fits (by first | omega | (simp only [ints_len] at *; omega)) ?_ | refine LitOb.vec ?_ | refine MakeOb.vec ?_ | refine AllocOb.box ?_ | refine AsgOb.vec ?_ | refine AggOb.mk (by decide +kernel) ?_ | refine ArU.fits (by first | omega | (simp only [ints_len] at *; omega)) ?_ | refine ArB.fits (by first | omega | (simp only [ints_len] at *; omega)) ?_ | refine CutOb.split ?_ | refine Gh.mk [] ?_ | refine And.intro (And.intro (by (simp only [List.length_append, List.length_take, List.length_drop, List.length_cons, List.length_nil, ints_len, List.length_replicate, Go.Cv.vals_len]; omega)) (by (simp only [List.length_append, List.length_take, List.length_drop, List.length_cons, List.length_nil, ints_len, List.length_replicate, Go.Cv.vals_len]; omega))) ?_ | refine ⟨_, _, rfl, ints_get (by first | omega | (simp only [ints_len] at *; omega)), ?_⟩ | refine ⟨_, _, (Int.toNat_of_nonneg (by first | omega | (simp only [ints_len] at *; omega))).symm, ints_get (by first | omega | (simp only [ints_len] at *; omega)), ?_⟩ | fail)
  all_goals try (conv => whnf)
  exact ⟨rfl, by show i64 _ = i64 _; congr 1; omega⟩
theorem cFin_ok (a : C3) (va : VC a) (fa : FinC a) : Ctr Try.prog 111 [crv a.1 a.2.1 a.2.2] [] (fun r o => o = [] ∧ r = .bl true) := by
  refine Ctr.imp ?_
  refine fn_intro (E := env 0) tys_ok rfl rfl rfl Try.func111 (by kernel_rfl) rfl (by kernel_rfl) ?_
  have n1 := va.n1
  have n2 := va.n2
  have hil := ints_len a.1
  have hg := ints_get (l := a.1) (j := a.1.length - 1) (by omega)
  have hf : ¬a.1.getD (a.1.length - 1) 0 = 4611686018427387904 := fa
  generalize a.1.getD (a.1.length - 1) 0 = w at *
  repeat' (conv => whnf
           first | refine ⟨a.1.length - 1, _, by omega, hg, ?_⟩ | (refine CondOb.mk (fun _ => ?_) (fun _ => ?_) <;> first | (exfalso; omega) | skip) | refine ArOb.fits (by first | omega | (simp only [ints_len] at *; omega)) ?_ | refine LitOb.vec ?_ | refine MakeOb.vec ?_ | refine AllocOb.box ?_ | refine AsgOb.vec ?_ | refine AggOb.mk (by decide +kernel) ?_ | refine ArU.fits (by first | omega | (simp only [ints_len] at *; omega)) ?_ | refine ArB.fits (by first | omega | (simp only [ints_len] at *; omega)) ?_ | refine CutOb.split ?_ | refine Gh.mk [] ?_ | refine And.intro (And.intro (by (simp only [List.length_append, List.length_take, List.length_drop, List.length_cons, List.length_nil, ints_len, List.length_replicate, Go.Cv.vals_len]; omega)) (by (simp only [List.length_append, List.length_take, List.length_drop, List.length_cons, List.length_nil, ints_len, List.length_replicate, Go.Cv.vals_len]; omega))) ?_ | refine ⟨_, _, rfl, ints_get (by first | omega | (simp only [ints_len] at *; omega)), ?_⟩ | refine ⟨_, _, (Int.toNat_of_nonneg (by first | omega | (simp only [ints_len] at *; omega))).symm, ints_get (by first | omega | (simp only [ints_len] at *; omega)), ?_⟩ | fail)
  all_goals try (conv => whnf)
  exact ⟨rfl, Imp.bpl ⟨fun _ => rfl, fun _ => hf⟩⟩
abbrev grw (a : C3) (l : Nat) : Int := a.2.2 * (l / a.2.1 : Nat)
theorem grw_bd {a : C3} (va : VC a) {l : Nat} (hl : l ≤ 120) : 0 ≤ grw a l ∧ grw a l ≤ 1073741824 * 120 := by
  have d1 : l / a.2.1 ≤ l := Nat.div_le_self _ _
  exact mul_bd (a := a.2.2) (b := ((l / a.2.1 : Nat) : Int)) va.q0 va.q1 (Int.natCast_nonneg _) (by omega)
theorem cGrows_ok (a : C3) (va : VC a) (l : Nat) (hl : l ≤ 120) : Ctr Try.prog 112 [crv a.1 a.2.1 a.2.2, i64 l] [] (fun r o => o = [] ∧ r = i64 (grw a l)) := by
  refine fn_intro (E := env 0) tys_ok rfl rfl rfl Try.func112 (by kernel_rfl) rfl (by kernel_rfl) ?_
  have p1 := va.p1
  have e1 : ((l : Nat) : Int).tdiv a.2.1 = ((l / a.2.1 : Nat) : Int) := by rw [Int.tdiv_eq_ediv_of_nonneg (by omega)]; rfl
  have hb := grw_bd va hl
  have hk : (0 : Int) ≤ ((l / a.2.1 : Nat) : Int) ∧ ((l / a.2.1 : Nat) : Int) ≤ 120 := ⟨Int.natCast_nonneg _, by have : l / a.2.1 ≤ l := Nat.div_le_self _ _; omega⟩
  unfold grw at hb ⊢
  generalize ((l / a.2.1 : Nat) : Int) = k at *
  repeat' (conv => whnf
           first | (refine CondOb.mk (fun _ => ?_) (fun _ => ?_) <;> first | (exfalso; omega) | skip) | refine ArOb.fits (by first | omega | (simp only [ints_len] at *; omega)) ?_ | refine LitOb.vec ?_ | refine MakeOb.vec ?_ | refine AllocOb.box ?_ | refine AsgOb.vec ?_ | refine AggOb.mk (by decide +kernel) ?_ | refine ArU.fits (by first | omega | (simp only [ints_len] at *; omega)) ?_ | refine ArB.fits (by first | omega | (simp only [ints_len] at *; omega)) ?_ | refine CutOb.split ?_ | refine Gh.mk [] ?_ | refine And.intro (And.intro (by (simp only [List.length_append, List.length_take, List.length_drop, List.length_cons, List.length_nil, ints_len, List.length_replicate, Go.Cv.vals_len]; omega)) (by (simp only [List.length_append, List.length_take, List.length_drop, List.length_cons, List.length_nil, ints_len, List.length_replicate, Go.Cv.vals_len]; omega))) ?_ | refine ⟨_, _, rfl, ints_get (by first | omega | (simp only [ints_len] at *; omega)), ?_⟩ | refine ⟨_, _, (Int.toNat_of_nonneg (by first | omega | (simp only [ints_len] at *; omega))).symm, ints_get (by first | omega | (simp only [ints_len] at *; omega)), ?_⟩ | refine DrawOb.mk [] (.qs [0, 1, 2, 3, 4, 5, 6, 7] .nil) (by decide +kernel) ?_ | fail)
  all_goals try (conv => whnf)
  refine ⟨by omega, ?_⟩
  rw [e1]
  repeat' (conv => whnf
           first | (refine CondOb.mk (fun _ => ?_) (fun _ => ?_) <;> first | (exfalso; omega) | skip) | refine ArOb.fits (by first | omega | (simp only [ints_len] at *; omega)) ?_ | refine LitOb.vec ?_ | refine MakeOb.vec ?_ | refine AllocOb.box ?_ | refine AsgOb.vec ?_ | refine AggOb.mk (by decide +kernel) ?_ | refine ArU.fits (by first | omega | (simp only [ints_len] at *; omega)) ?_ | refine ArB.fits (by first | omega | (simp only [ints_len] at *; omega)) ?_ | refine CutOb.split ?_ | refine Gh.mk [] ?_ | refine And.intro (And.intro (by (simp only [List.length_append, List.length_take, List.length_drop, List.length_cons, List.length_nil, ints_len, List.length_replicate, Go.Cv.vals_len]; omega)) (by (simp only [List.length_append, List.length_take, List.length_drop, List.length_cons, List.length_nil, ints_len, List.length_replicate, Go.Cv.vals_len]; omega))) ?_ | refine ⟨_, _, rfl, ints_get (by first | omega | (simp only [ints_len] at *; omega)), ?_⟩ | refine ⟨_, _, (Int.toNat_of_nonneg (by first | omega | (simp only [ints_len] at *; omega))).symm, ints_get (by first | omega | (simp only [ints_len] at *; omega)), ?_⟩ | refine DrawOb.mk [] (.qs [0, 1, 2, 3, 4, 5, 6, 7] .nil) (by decide +kernel) ?_ | fail)
  all_goals try (conv => whnf)
  exact ⟨rfl, rfl⟩
theorem cPlus7_ok (a b : Int) (ha : 0 ≤ a ∧ a ≤ 2000000000000000) (hb : 0 ≤ b ∧ b ≤ 2000000000000000) : Ctr Try.prog 113 [i64 a, i64 b] [] (fun r o => o = [] ∧ r = i64 (a + b)) := by
  refine fn_intro (E := env 0) tys_ok rfl rfl rfl Try.func113 (by kernel_rfl) rfl (by kernel_rfl) ?_
  repeat' (conv => whnf
           first | (refine CondOb.mk (fun _ => ?_) (fun _ => ?_) <;> first | (exfalso; omega) | skip) | refine ArOb.fits (by first | omega | (simp only [ints_len] at *; omega)) ?_ | refine LitOb.vec ?_ | refine MakeOb.vec ?_ | refine AllocOb.box ?_ | refine AsgOb.vec ?_ | refine AggOb.mk (by decide +kernel) ?_ | refine ArU.fits (by first | omega | (simp only [ints_len] at *; omega)) ?_ | refine ArB.fits (by first | omega | (simp only [ints_len] at *; omega)) ?_ | refine CutOb.split ?_ | refine Gh.mk [] ?_ | refine And.intro (And.intro (by (simp only [List.length_append, List.length_take, List.length_drop, List.length_cons, List.length_nil, ints_len, List.length_replicate, Go.Cv.vals_len]; omega)) (by (simp only [List.length_append, List.length_take, List.length_drop, List.length_cons, List.length_nil, ints_len, List.length_replicate, Go.Cv.vals_len]; omega))) ?_ | refine ⟨_, _, rfl, ints_get (by first | omega | (simp only [ints_len] at *; omega)), ?_⟩ | refine ⟨_, _, (Int.toNat_of_nonneg (by first | omega | (simp only [ints_len] at *; omega))).symm, ints_get (by first | omega | (simp only [ints_len] at *; omega)), ?_⟩ | fail)
  all_goals try (conv => whnf)
  all_goals first
    | exact ⟨rfl, rfl⟩
    | (exfalso; omega)
    | trace_state
/- the convolution at a tick, as far as some tick -/
def cnv (a b : C3) (t : Nat) : Nat → Int
  | 0 => INF
  | s + 1 => min (cnv a b t s) (cv a s + cv b (t - s))
theorem cnv_bd {a b : C3} (va : VC a) (vb : VC b) (fa : FinC a) (fb : FinC b) (t : Nat) (ht : t ≤ 100000) : ∀ s, s ≤ t + 1 → 0 ≤ cnv a b t s ∧ cnv a b t s ≤ INF
  | 0, _ => by simp [cnv, INF]
  | s + 1, hs => by
    have h1 := cnv_bd va vb fa fb t ht s (by omega)
    have h2 := cv_nonneg va s
    have h3 := cv_nonneg vb (t - s)
    simp only [cnv]; omega
theorem cLeast7_ok (a b : C3) (va : VC a) (vb : VC b) (fa : FinC a) (fb : FinC b) (t : Nat) (ht : t ≤ 100000) : Ctr Try.prog 97 [crv a.1 a.2.1 a.2.2, crv b.1 b.2.1 b.2.2, i64 t] [] (fun r o => o = [] ∧ r = i64 (cnv a b t (t + 1))) := by
  refine fn_intro (E := env 0) tys_ok rfl rfl rfl Try.func97 (by kernel_rfl) rfl (by kernel_rfl) ?_
  repeat' (conv => whnf
           first | (refine CondOb.mk (fun _ => ?_) (fun _ => ?_) <;> first | (exfalso; omega) | skip) | refine ArOb.fits (by first | omega | (simp only [ints_len] at *; omega)) ?_ | refine LitOb.vec ?_ | refine MakeOb.vec ?_ | refine AllocOb.box ?_ | refine AsgOb.vec ?_ | refine AggOb.mk (by decide +kernel) ?_ | refine ArU.fits (by first | omega | (simp only [ints_len] at *; omega)) ?_ | refine ArB.fits (by first | omega | (simp only [ints_len] at *; omega)) ?_ | refine CutOb.split ?_ | refine Gh.mk [] ?_ | refine And.intro (And.intro (by (simp only [List.length_append, List.length_take, List.length_drop, List.length_cons, List.length_nil, ints_len, List.length_replicate, Go.Cv.vals_len]; omega)) (by (simp only [List.length_append, List.length_take, List.length_drop, List.length_cons, List.length_nil, ints_len, List.length_replicate, Go.Cv.vals_len]; omega))) ?_ | refine ⟨_, _, rfl, ints_get (by first | omega | (simp only [ints_len] at *; omega)), ?_⟩ | refine ⟨_, _, (Int.toNat_of_nonneg (by first | omega | (simp only [ints_len] at *; omega))).symm, ints_get (by first | omega | (simp only [ints_len] at *; omega)), ?_⟩ | refine DrawOb.mk [] (.qs [0, 1, 2, 4, 5, 6, 7] (.l 3 [4] (.l 8 [] (.l 9 [] (.qs [10, 11] .nil) .no) .no) .no)) (by decide +kernel) ?_ | fail)
  all_goals try (conv => whnf)
  refine LoopOb.mk (Y := Nat) (st := fun s => ⟨[(8, i64 s), (7, i64 (cnv a b t s)), (4, .ptr 1 0), (3, .ptr 0 0), (2, i64 t)], [.box [.psl 1 (ints a.1), i64 a.2.1, i64 a.2.2], .box [.psl 1 (ints b.1), i64 b.2.1, i64 b.2.2]]⟩)
    (inv := fun s => s ≤ t + 1) (fun s => t + 1 - s) 0 [0, 1] (by omega) (by (refine Le.mk (by kernel_rfl) ?_ ?_ <;> repeat' (first | exact True.intro | refine And.intro ?_ ?_ | exact Imp.refl _ | exact Imp.any _ | exact Imp.num (by first | omega | simp only [ints_len]) | exact rfl | exact Imp.bl (by simp)))) ?_
  intro s hs
  have hb := cnv_bd va vb fa fb t ht s hs
  simp only [INF] at hb
  repeat' (conv => whnf
           first | refine ArOb.fits (by first | omega | (simp only [ints_len] at *; omega)) ?_ | refine LitOb.vec ?_ | refine MakeOb.vec ?_ | refine AllocOb.box ?_ | refine AsgOb.vec ?_ | refine AggOb.mk (by decide +kernel) ?_ | refine ArU.fits (by first | omega | (simp only [ints_len] at *; omega)) ?_ | refine ArB.fits (by first | omega | (simp only [ints_len] at *; omega)) ?_ | refine CutOb.split ?_ | refine Gh.mk [] ?_ | refine And.intro (And.intro (by (simp only [List.length_append, List.length_take, List.length_drop, List.length_cons, List.length_nil, ints_len, List.length_replicate, Go.Cv.vals_len]; omega)) (by (simp only [List.length_append, List.length_take, List.length_drop, List.length_cons, List.length_nil, ints_len, List.length_replicate, Go.Cv.vals_len]; omega))) ?_ | refine ⟨_, _, rfl, ints_get (by first | omega | (simp only [ints_len] at *; omega)), ?_⟩ | refine ⟨_, _, (Int.toNat_of_nonneg (by first | omega | (simp only [ints_len] at *; omega))).symm, ints_get (by first | omega | (simp only [ints_len] at *; omega)), ?_⟩ | refine DrawOb.mk [] (.qs [0, 1, 2, 4, 5, 6, 7] (.l 3 [4] (.l 8 [] (.l 9 [] (.qs [10, 11] .nil) .no) .no) .no)) (by decide +kernel) ?_ | fail)
  all_goals try (conv => whnf)
  refine CondOb.mk (fun hlt => ?_) (fun hlt => ?_)
  · have c1 := rAt_ok a s va (by omega)
    have c2 := rAt_ok b (t - s) vb (by omega)
    have b1 := cv_small va (t := s) (by omega) (fa.not va _)
    have b2 := cv_small vb (t := t - s) (by omega) (fb.not vb _)
    have b3 := cv_nonneg va s
    have b4 := cv_nonneg vb (t - s)
    have e : cnv a b t (s + 1) = min (cnv a b t s) (cv a s + cv b (t - s)) := rfl
    have cP := cPlus7_ok _ _ ⟨b3, b1⟩ ⟨b4, b2⟩
    generalize cv a s = x at *
    generalize cv b (t - s) = y at *
    repeat' (conv => whnf
             first | (refine CondOb.mk (fun _ => ?_) (fun _ => ?_) <;> first | (exfalso; omega) | skip) | refine ArOb.fits (by first | omega | (simp only [ints_len] at *; omega)) ?_ | refine LitOb.vec ?_ | refine MakeOb.vec ?_ | refine AllocOb.box ?_ | refine AsgOb.vec ?_ | refine AggOb.mk (by decide +kernel) ?_ | refine ArU.fits (by first | omega | (simp only [ints_len] at *; omega)) ?_ | refine ArB.fits (by first | omega | (simp only [ints_len] at *; omega)) ?_ | refine CutOb.split ?_ | refine Gh.mk [] ?_ | refine And.intro (And.intro (by (simp only [List.length_append, List.length_take, List.length_drop, List.length_cons, List.length_nil, ints_len, List.length_replicate, Go.Cv.vals_len]; omega)) (by (simp only [List.length_append, List.length_take, List.length_drop, List.length_cons, List.length_nil, ints_len, List.length_replicate, Go.Cv.vals_len]; omega))) ?_ | refine ⟨_, _, rfl, ints_get (by first | omega | (simp only [ints_len] at *; omega)), ?_⟩ | refine ⟨_, _, (Int.toNat_of_nonneg (by first | omega | (simp only [ints_len] at *; omega))).symm, ints_get (by first | omega | (simp only [ints_len] at *; omega)), ?_⟩ | refine DrawOb.mk [] (.qs [0, 1, 2, 4, 5, 6, 7] (.l 3 [4] (.l 8 [] (.l 9 [] (.qs [10, 11] .nil) .no) .no) .no)) (by decide +kernel) ?_ | (refine CallOb.mk [] c1 rfl (ImpL.refl _) rfl rfl ?_; rintro _ _ ⟨rfl, rfl⟩) | (refine CallOb.mk [] c2 rfl ⟨Imp.refl _, Imp.num (by omega), trivial⟩ rfl rfl ?_; rintro _ _ ⟨rfl, rfl⟩) | (refine CallOb.mk [] cP rfl (ImpL.refl _) rfl rfl ?_; rintro _ _ ⟨rfl, rfl⟩) | fail)
    all_goals try (conv => whnf)
    exact ⟨s + 1, [0, 1], by omega, by omega, by rw [e]; (refine Le.mk (by kernel_rfl) ?_ ?_ <;> repeat' (first | exact True.intro | refine And.intro ?_ ?_ | exact Imp.refl _ | exact Imp.any _ | exact Imp.num (by first | omega | simp only [ints_len]) | exact rfl | exact Imp.bl (by simp)))⟩
  · have e : s = t + 1 := by omega
    subst e
    repeat' (conv => whnf
             first | (refine CondOb.mk (fun _ => ?_) (fun _ => ?_) <;> first | (exfalso; omega) | skip) | refine ArOb.fits (by first | omega | (simp only [ints_len] at *; omega)) ?_ | refine LitOb.vec ?_ | refine MakeOb.vec ?_ | refine AllocOb.box ?_ | refine AsgOb.vec ?_ | refine AggOb.mk (by decide +kernel) ?_ | refine ArU.fits (by first | omega | (simp only [ints_len] at *; omega)) ?_ | refine ArB.fits (by first | omega | (simp only [ints_len] at *; omega)) ?_ | refine CutOb.split ?_ | refine Gh.mk [] ?_ | refine And.intro (And.intro (by (simp only [List.length_append, List.length_take, List.length_drop, List.length_cons, List.length_nil, ints_len, List.length_replicate, Go.Cv.vals_len]; omega)) (by (simp only [List.length_append, List.length_take, List.length_drop, List.length_cons, List.length_nil, ints_len, List.length_replicate, Go.Cv.vals_len]; omega))) ?_ | refine ⟨_, _, rfl, ints_get (by first | omega | (simp only [ints_len] at *; omega)), ?_⟩ | refine ⟨_, _, (Int.toNat_of_nonneg (by first | omega | (simp only [ints_len] at *; omega))).symm, ints_get (by first | omega | (simp only [ints_len] at *; omega)), ?_⟩ | refine DrawOb.mk [] (.qs [0, 1, 2, 4, 5, 6, 7] (.l 3 [4] (.l 8 [] (.l 9 [] (.qs [10, 11] .nil) .no) .no) .no)) (by decide +kernel) ?_ | fail)
    all_goals try (conv => whnf)
    exact ⟨rfl, rfl⟩
theorem cSlope_ok (a b : C3) (va : VC a) (vb : VC b) (fa : FinC a) (fb : FinC b) (l : Nat) (hl : l ≤ 120) : Ctr Try.prog 96 [crv a.1 a.2.1 a.2.2, crv b.1 b.2.1 b.2.2, i64 l] [] (fun r o => o = [] ∧ r = .tup [i64 (min (grw a l) (grw b l)), .bl true]) := by
  refine fn_intro (E := env 0) tys_ok rfl rfl rfl Try.func96 (by kernel_rfl) rfl (by kernel_rfl) ?_
  have c1 := cFin_ok a va fa
  have c2 := cFin_ok b vb fb
  have c3 := cGrows_ok a va l hl
  have c4 := cGrows_ok b vb l hl
  have n1 := va.n1
  have m1 := vb.n1
  have hga := ints_get (l := a.1) (j := 0) (by omega)
  have hgb := ints_get (l := b.1) (j := 0) (by omega)
  have hfa : ¬a.1.getD 0 0 = 4611686018427387904 := va.noinf fa 0 (by omega)
  have hfb : ¬b.1.getD 0 0 = 4611686018427387904 := vb.noinf fb 0 (by omega)
  generalize a.1.getD 0 0 = x at *
  generalize b.1.getD 0 0 = y at *
  repeat' (conv => whnf
           first | refine ⟨0, _, rfl, hgb, ?_⟩ | refine ⟨0, _, rfl, hga, ?_⟩ | (refine CondOb.mk (fun _ => ?_) (fun _ => ?_) <;> first | (exfalso; omega) | skip) | refine ArOb.fits (by first | omega | (simp only [ints_len] at *; omega)) ?_ | refine LitOb.vec ?_ | refine MakeOb.vec ?_ | refine AllocOb.box ?_ | refine AsgOb.vec ?_ | refine AggOb.mk (by decide +kernel) ?_ | refine ArU.fits (by first | omega | (simp only [ints_len] at *; omega)) ?_ | refine ArB.fits (by first | omega | (simp only [ints_len] at *; omega)) ?_ | refine CutOb.split ?_ | refine Gh.mk [] ?_ | refine And.intro (And.intro (by (simp only [List.length_append, List.length_take, List.length_drop, List.length_cons, List.length_nil, ints_len, List.length_replicate, Go.Cv.vals_len]; omega)) (by (simp only [List.length_append, List.length_take, List.length_drop, List.length_cons, List.length_nil, ints_len, List.length_replicate, Go.Cv.vals_len]; omega))) ?_ | refine ⟨_, _, rfl, ints_get (by first | omega | (simp only [ints_len] at *; omega)), ?_⟩ | refine ⟨_, _, (Int.toNat_of_nonneg (by first | omega | (simp only [ints_len] at *; omega))).symm, ints_get (by first | omega | (simp only [ints_len] at *; omega)), ?_⟩ | refine DrawOb.mk [] (.qs [0, 1, 3, 4] (.l 2 [3] (.l 5 [] (.qs [6, 7, 8] .nil) .no) .no)) (by decide +kernel) ?_ | (refine CallOb.mk [] c1 rfl (ImpL.refl _) rfl rfl ?_; rintro _ _ ⟨rfl, rfl⟩) | (refine CallOb.mk [] c2 rfl (ImpL.refl _) rfl rfl ?_; rintro _ _ ⟨rfl, rfl⟩) | (refine CallOb.mk [] c3 rfl (ImpL.refl _) rfl rfl ?_; rintro _ _ ⟨rfl, rfl⟩) | (refine CallOb.mk [] c4 rfl (ImpL.refl _) rfl rfl ?_; rintro _ _ ⟨rfl, rfl⟩) | fail)
  all_goals try (conv => whnf)
  all_goals first
    | exact ⟨rfl, rfl⟩
    | trace_state
theorem cRepeats_ok (a b : C3) (va : VC a) (vb : VC b) (fa : FinC a) (fb : FinC b) (q t s : Int) (l : Nat) (hl : l ≤ 120) (hs : 0 ≤ s ∧ s ≤ t) (ht : t ≤ 100000) : Ctr Try.prog 114 [crv a.1 a.2.1 a.2.2, crv b.1 b.2.1 b.2.2, i64 q, i64 l, i64 t, i64 s] [] (fun r o => ∃ b : Bool, True ∧ o = [] ∧ r = .bl b) := by
  refine Ctr.impE ?_
  refine fn_intro (E := env 0) tys_ok rfl rfl rfl Try.func114 (by kernel_rfl) rfl (by kernel_rfl) ?_
  have c1 := cFin_ok a va fa
  have c2 := cFin_ok b vb fb
  have c3 := cGrows_ok a va l hl
  have c4 := cGrows_ok b vb l hl
  have c5 := cStart_ok a va
  have c6 := cStart_ok b vb
  repeat' (conv => whnf
           first | (refine CondOb.mk (fun _ => ?_) (fun _ => ?_) <;> first | (exfalso; omega) | skip) | refine ArOb.fits (by first | omega | (simp only [ints_len] at *; omega)) ?_ | refine LitOb.vec ?_ | refine MakeOb.vec ?_ | refine AllocOb.box ?_ | refine AsgOb.vec ?_ | refine AggOb.mk (by decide +kernel) ?_ | refine ArU.fits (by first | omega | (simp only [ints_len] at *; omega)) ?_ | refine ArB.fits (by first | omega | (simp only [ints_len] at *; omega)) ?_ | refine CutOb.split ?_ | refine Gh.mk [] ?_ | refine And.intro (And.intro (by (simp only [List.length_append, List.length_take, List.length_drop, List.length_cons, List.length_nil, ints_len, List.length_replicate, Go.Cv.vals_len]; omega)) (by (simp only [List.length_append, List.length_take, List.length_drop, List.length_cons, List.length_nil, ints_len, List.length_replicate, Go.Cv.vals_len]; omega))) ?_ | refine ⟨_, _, rfl, ints_get (by first | omega | (simp only [ints_len] at *; omega)), ?_⟩ | refine ⟨_, _, (Int.toNat_of_nonneg (by first | omega | (simp only [ints_len] at *; omega))).symm, ints_get (by first | omega | (simp only [ints_len] at *; omega)), ?_⟩ | (refine CallOb.mk [] c1 rfl (ImpL.refl _) rfl rfl ?_; rintro _ _ ⟨rfl, rfl⟩) | (refine CallOb.mk [] c2 rfl (ImpL.refl _) rfl rfl ?_; rintro _ _ ⟨rfl, rfl⟩) | (refine CallOb.mk [] c3 rfl (ImpL.refl _) rfl rfl ?_; rintro _ _ ⟨rfl, rfl⟩) | (refine CallOb.mk [] c4 rfl (ImpL.refl _) rfl rfl ?_; rintro _ _ ⟨rfl, rfl⟩) | (refine CallOb.mk [] c5 rfl (ImpL.refl _) rfl rfl ?_; rintro _ _ ⟨rfl, rfl⟩) | (refine CallOb.mk [] c6 rfl (ImpL.refl _) rfl rfl ?_; rintro _ _ ⟨rfl, rfl⟩) | fail)
  all_goals try (conv => whnf)
  all_goals first
    | exact ⟨true, trivial, rfl, Imp.refl _⟩
    | exact ⟨false, trivial, rfl, Imp.refl _⟩
    | exact ⟨decide _, trivial, rfl, Imp.bpl decide_eq_true_iff.symm⟩
    | trace_state
/- the least tick that attains a value -/
theorem cSplit_ok (a b : C3) (va : VC a) (vb : VC b) (fa : FinC a) (fb : FinC b) (v q : Int) (l t : Nat) (hl : l ≤ 120) (ht : t ≤ 100000) : Ctr Try.prog 98 [crv a.1 a.2.1 a.2.2, crv b.1 b.2.1 b.2.2, i64 v, i64 q, i64 l, i64 t, .bl true] [] (fun r o => ∃ x : Int, True ∧ o = [] ∧ r = i64 x) := by
  refine Ctr.impE ?_
  refine fn_intro (E := env 0) tys_ok rfl rfl rfl Try.func98 (by kernel_rfl) rfl (by kernel_rfl) ?_
  repeat' (conv => whnf
           first | (refine CondOb.mk (fun _ => ?_) (fun _ => ?_) <;> first | (exfalso; omega) | skip) | refine ArOb.fits (by first | omega | (simp only [ints_len] at *; omega)) ?_ | refine LitOb.vec ?_ | refine MakeOb.vec ?_ | refine AllocOb.box ?_ | refine AsgOb.vec ?_ | refine AggOb.mk (by decide +kernel) ?_ | refine ArU.fits (by first | omega | (simp only [ints_len] at *; omega)) ?_ | refine ArB.fits (by first | omega | (simp only [ints_len] at *; omega)) ?_ | refine CutOb.split ?_ | refine Gh.mk [] ?_ | refine And.intro (And.intro (by (simp only [List.length_append, List.length_take, List.length_drop, List.length_cons, List.length_nil, ints_len, List.length_replicate, Go.Cv.vals_len]; omega)) (by (simp only [List.length_append, List.length_take, List.length_drop, List.length_cons, List.length_nil, ints_len, List.length_replicate, Go.Cv.vals_len]; omega))) ?_ | refine ⟨_, _, rfl, ints_get (by first | omega | (simp only [ints_len] at *; omega)), ?_⟩ | refine ⟨_, _, (Int.toNat_of_nonneg (by first | omega | (simp only [ints_len] at *; omega))).symm, ints_get (by first | omega | (simp only [ints_len] at *; omega)), ?_⟩ | refine DrawOb.mk [] (.qs [0, 1, 3, 4, 5, 6, 9] (.l 2 [3] (.l 7 [] (.l 8 [] (.qs [10, 11, 12, 13, 14, 15, 16, 17, 18, 19, 20, 21, 22, 23, 24] (.l 25 [] (.qs [26, 27] .nil) .no)) .no) .no) .no)) (by decide +kernel) ?_ | fail)
  all_goals try (conv => whnf)
  refine LoopOb.mk (Y := Nat) (st := fun s => ⟨[(15, i64 s), (8, .ptr 1 0), (7, .ptr 0 0), (2, i64 v), (3, i64 q), (4, i64 l), (5, i64 t), (6, .bl true)], [.box [.psl 1 (ints a.1), i64 a.2.1, i64 a.2.2], .box [.psl 1 (ints b.1), i64 b.2.1, i64 b.2.2]]⟩)
    (inv := fun s => s ≤ t + 1) (fun s => t + 1 - s) 0 [0, 1] (by omega) (by (refine Le.mk (by kernel_rfl) ?_ ?_ <;> repeat' (first | exact True.intro | refine And.intro ?_ ?_ | exact Imp.refl _ | exact Imp.any _ | exact Imp.num (by first | omega | simp only [ints_len]) | exact rfl | exact Imp.bl (by simp)))) ?_
  intro s hs
  repeat' (conv => whnf
           first | refine ArOb.fits (by first | omega | (simp only [ints_len] at *; omega)) ?_ | refine LitOb.vec ?_ | refine MakeOb.vec ?_ | refine AllocOb.box ?_ | refine AsgOb.vec ?_ | refine AggOb.mk (by decide +kernel) ?_ | refine ArU.fits (by first | omega | (simp only [ints_len] at *; omega)) ?_ | refine ArB.fits (by first | omega | (simp only [ints_len] at *; omega)) ?_ | refine CutOb.split ?_ | refine Gh.mk [] ?_ | refine And.intro (And.intro (by (simp only [List.length_append, List.length_take, List.length_drop, List.length_cons, List.length_nil, ints_len, List.length_replicate, Go.Cv.vals_len]; omega)) (by (simp only [List.length_append, List.length_take, List.length_drop, List.length_cons, List.length_nil, ints_len, List.length_replicate, Go.Cv.vals_len]; omega))) ?_ | refine ⟨_, _, rfl, ints_get (by first | omega | (simp only [ints_len] at *; omega)), ?_⟩ | refine ⟨_, _, (Int.toNat_of_nonneg (by first | omega | (simp only [ints_len] at *; omega))).symm, ints_get (by first | omega | (simp only [ints_len] at *; omega)), ?_⟩ | refine DrawOb.mk [] (.qs [0, 1, 3, 4, 5, 6, 9] (.l 2 [3] (.l 7 [] (.l 8 [] (.qs [10, 11, 12, 13, 14, 15, 16, 17, 18, 19, 20, 21, 22, 23, 24] (.l 25 [] (.qs [26, 27] .nil) .no)) .no) .no) .no)) (by decide +kernel) ?_ | fail)
  all_goals try (conv => whnf)
  refine CondOb.mk (fun hlt => ?_) (fun hlt => ?_)
  · have c1 := rAt_ok a s va (by omega)
    have c2 := rAt_ok b (t - s) vb (by omega)
    have b1 := cv_small va (t := s) (by omega) (fa.not va _)
    have b2 := cv_small vb (t := t - s) (by omega) (fb.not vb _)
    have b3 := cv_nonneg va s
    have b4 := cv_nonneg vb (t - s)
    have cP := cPlus7_ok _ _ ⟨b3, b1⟩ ⟨b4, b2⟩
    have cR := cRepeats_ok a b va vb fa fb q t s l hl (by omega) (by omega)
    generalize cv a s = x at *
    generalize cv b (t - s) = y at *
    repeat' (conv => whnf
             first | (refine CondOb.mk (fun _ => ?_) (fun _ => ?_) <;> first | (exfalso; omega) | skip) | refine ArOb.fits (by first | omega | (simp only [ints_len] at *; omega)) ?_ | refine LitOb.vec ?_ | refine MakeOb.vec ?_ | refine AllocOb.box ?_ | refine AsgOb.vec ?_ | refine AggOb.mk (by decide +kernel) ?_ | refine ArU.fits (by first | omega | (simp only [ints_len] at *; omega)) ?_ | refine ArB.fits (by first | omega | (simp only [ints_len] at *; omega)) ?_ | refine CutOb.split ?_ | refine Gh.mk [] ?_ | refine And.intro (And.intro (by (simp only [List.length_append, List.length_take, List.length_drop, List.length_cons, List.length_nil, ints_len, List.length_replicate, Go.Cv.vals_len]; omega)) (by (simp only [List.length_append, List.length_take, List.length_drop, List.length_cons, List.length_nil, ints_len, List.length_replicate, Go.Cv.vals_len]; omega))) ?_ | refine ⟨_, _, rfl, ints_get (by first | omega | (simp only [ints_len] at *; omega)), ?_⟩ | refine ⟨_, _, (Int.toNat_of_nonneg (by first | omega | (simp only [ints_len] at *; omega))).symm, ints_get (by first | omega | (simp only [ints_len] at *; omega)), ?_⟩ | refine DrawOb.mk [] (.qs [0, 1, 3, 4, 5, 6, 9] (.l 2 [3] (.l 7 [] (.l 8 [] (.qs [10, 11, 12, 13, 14, 15, 16, 17, 18, 19, 20, 21, 22, 23, 24] (.l 25 [] (.qs [26, 27] .nil) .no)) .no) .no) .no)) (by decide +kernel) ?_ | (refine CallOb.mk [] c1 rfl (ImpL.refl _) rfl rfl ?_; rintro _ _ ⟨rfl, rfl⟩) | (refine CallOb.mk [] c2 rfl ⟨Imp.refl _, Imp.num (by omega), trivial⟩ rfl rfl ?_; rintro _ _ ⟨rfl, rfl⟩) | (refine CallOb.mk [] cP rfl (ImpL.refl _) rfl rfl ?_; rintro _ _ ⟨rfl, rfl⟩) | (refine CallOb.mk [] cR rfl (ImpL.refl _) rfl rfl ?_; rintro _ _ ⟨bb, _, rfl, rfl⟩; cases bb) | fail)
    all_goals try (conv => whnf)
    all_goals first
      | exact ⟨s + 1, [0, 1], by omega, by omega, by (refine Le.mk (by kernel_rfl) ?_ ?_ <;> repeat' (first | exact True.intro | refine And.intro ?_ ?_ | exact Imp.refl _ | exact Imp.any _ | exact Imp.num (by first | omega | simp only [ints_len]) | exact rfl | exact Imp.bl (by simp)))⟩
      | exact ⟨(s : Int), trivial, rfl, Imp.refl _⟩
      | trace_state
  · repeat' (conv => whnf
             first | (refine CondOb.mk (fun _ => ?_) (fun _ => ?_) <;> first | (exfalso; omega) | skip) | refine ArOb.fits (by first | omega | (simp only [ints_len] at *; omega)) ?_ | refine LitOb.vec ?_ | refine MakeOb.vec ?_ | refine AllocOb.box ?_ | refine AsgOb.vec ?_ | refine AggOb.mk (by decide +kernel) ?_ | refine ArU.fits (by first | omega | (simp only [ints_len] at *; omega)) ?_ | refine ArB.fits (by first | omega | (simp only [ints_len] at *; omega)) ?_ | refine CutOb.split ?_ | refine Gh.mk [] ?_ | refine And.intro (And.intro (by (simp only [List.length_append, List.length_take, List.length_drop, List.length_cons, List.length_nil, ints_len, List.length_replicate, Go.Cv.vals_len]; omega)) (by (simp only [List.length_append, List.length_take, List.length_drop, List.length_cons, List.length_nil, ints_len, List.length_replicate, Go.Cv.vals_len]; omega))) ?_ | refine ⟨_, _, rfl, ints_get (by first | omega | (simp only [ints_len] at *; omega)), ?_⟩ | refine ⟨_, _, (Int.toNat_of_nonneg (by first | omega | (simp only [ints_len] at *; omega))).symm, ints_get (by first | omega | (simp only [ints_len] at *; omega)), ?_⟩ | refine DrawOb.mk [] (.qs [0, 1, 3, 4, 5, 6, 9] (.l 2 [3] (.l 7 [] (.l 8 [] (.qs [10, 11, 12, 13, 14, 15, 16, 17, 18, 19, 20, 21, 22, 23, 24] (.l 25 [] (.qs [26, 27] .nil) .no)) .no) .no) .no)) (by decide +kernel) ?_ | fail)
    all_goals try (conv => whnf)
    exact ⟨-1, trivial, rfl, Imp.refl _⟩
theorem cStartG_ok (vs : List Int) (p : Nat) (q : Int) (hp : p ≤ vs.length) (hn : vs.length ≤ 2000) : Ctr Try.prog 76 [crv vs p q] [] (fun r o => o = [] ∧ r = i64 (vs.length - p : Nat)) := by
  refine fn_intro (E := env 0) tys_ok rfl rfl rfl Try.func76 (by kernel_rfl) rfl (by kernel_rfl) ?_
  have hil := ints_len vs
  repeat' (conv => whnf
           first | (refine CondOb.mk (fun _ => ?_) (fun _ => ?_) <;> first | (exfalso; omega) | skip) | refine ArOb.fits (by first | omega | (simp only [ints_len] at *; omega)) ?_ | refine LitOb.vec ?_ | refine MakeOb.vec ?_ | refine AllocOb.box ?_ | refine AsgOb.vec ?_ | refine AggOb.mk (by decide +kernel) ?_ | refine ArU.fits (by first | omega | (simp only [ints_len] at *; omega)) ?_ | refine ArB.fits (by first | omega | (simp only [ints_len] at *; omega)) ?_ | refine CutOb.split ?_ | refine Gh.mk [] ?_ | refine And.intro (And.intro (by (simp only [List.length_append, List.length_take, List.length_drop, List.length_cons, List.length_nil, ints_len, List.length_replicate, Go.Cv.vals_len]; omega)) (by (simp only [List.length_append, List.length_take, List.length_drop, List.length_cons, List.length_nil, ints_len, List.length_replicate, Go.Cv.vals_len]; omega))) ?_ | refine ⟨_, _, rfl, ints_get (by first | omega | (simp only [ints_len] at *; omega)), ?_⟩ | refine ⟨_, _, (Int.toNat_of_nonneg (by first | omega | (simp only [ints_len] at *; omega))).symm, ints_get (by first | omega | (simp only [ints_len] at *; omega)), ?_⟩ | fail)
  all_goals try (conv => whnf)
  exact ⟨rfl, by show i64 _ = i64 _; congr 1; omega⟩
theorem cBelow_ok (a b : C3) (va : VC a) (vb : VC b) (fa : FinC a) (fb : FinC b) (hs : List Int) (hp : Nat) (hq : Int) (hh : Bd hs hp hq) (l : Nat) (hl : l ≤ 120) : Ctr Try.prog 99 [crv a.1 a.2.1 a.2.2, crv b.1 b.2.1 b.2.2, crv hs hp hq, i64 l] [] (fun r o => ∃ b : Bool, True ∧ o = [] ∧ r = .bl b) := by
  refine Ctr.impE ?_
  refine fn_intro (E := env 0) tys_ok rfl rfl rfl Try.func99 (by kernel_rfl) rfl (by kernel_rfl) ?_
  have a2 := va.n2
  have b2 := vb.n2
  have h2 := hh.n
  have c1 := cStart_ok a va
  have c2 := cStart_ok b vb
  have c3 := cStartG_ok hs hp hq hh.pn hh.n
  obtain ⟨S, hS, hS2⟩ : ∃ S : Nat, max (((a.1.length - a.2.1 : Nat) : Int)) ((hs.length - hp : Nat) : Int) + l = S ∧ S ≤ 3000 := ⟨max (a.1.length - a.2.1) (hs.length - hp) + l, by omega, by omega⟩
  obtain ⟨U, hU, hU2⟩ : ∃ S : Nat, max (((b.1.length - b.2.1 : Nat) : Int)) ((hs.length - hp : Nat) : Int) + l = S ∧ S ≤ 3000 := ⟨max (b.1.length - b.2.1) (hs.length - hp) + l, by omega, by omega⟩
  repeat' (conv => whnf
           first | (refine CondOb.mk (fun _ => ?_) (fun _ => ?_) <;> first | (exfalso; omega) | skip) | refine ArOb.fits (by first | omega | (simp only [ints_len] at *; omega)) ?_ | refine LitOb.vec ?_ | refine MakeOb.vec ?_ | refine AllocOb.box ?_ | refine AsgOb.vec ?_ | refine AggOb.mk (by decide +kernel) ?_ | refine ArU.fits (by first | omega | (simp only [ints_len] at *; omega)) ?_ | refine ArB.fits (by first | omega | (simp only [ints_len] at *; omega)) ?_ | refine CutOb.split ?_ | refine Gh.mk [] ?_ | refine And.intro (And.intro (by (simp only [List.length_append, List.length_take, List.length_drop, List.length_cons, List.length_nil, ints_len, List.length_replicate, Go.Cv.vals_len]; omega)) (by (simp only [List.length_append, List.length_take, List.length_drop, List.length_cons, List.length_nil, ints_len, List.length_replicate, Go.Cv.vals_len]; omega))) ?_ | refine ⟨_, _, rfl, ints_get (by first | omega | (simp only [ints_len] at *; omega)), ?_⟩ | refine ⟨_, _, (Int.toNat_of_nonneg (by first | omega | (simp only [ints_len] at *; omega))).symm, ints_get (by first | omega | (simp only [ints_len] at *; omega)), ?_⟩ | refine DrawOb.mk [] (.qs [0, 1, 3, 6] (.l 2 [3] (.l 4 [] (.qs [5, 7, 8] .nil) .no) .no)) (by decide +kernel) ?_ | refine DrawOb.mk [] (.qs [0, 1, 3, 6] (.l 2 [3] (.l 4 [] (.qs [5, 7, 8] .nil) .no) .no)) (by decide +kernel) ?_ | refine DrawOb.mk [] (.qs [0, 1, 2, 3, 5, 6, 8, 9] (.l 4 [8, 5] (.l 7 [8] (.l 10 [] (.l 11 [] (.qs [12] .nil) .no) .no) .no) .no)) (by decide +kernel) ?_ | fail)
  all_goals try (conv => whnf)
  refine LoopOb.mk (Y := Nat) (st := fun s => ⟨[(9, i64 s), (6, .ptr 2 0), (5, .ptr 1 0), (4, .ptr 0 0), (3, i64 l)], [.box [.psl 1 (ints a.1), i64 a.2.1, i64 a.2.2], .box [.psl 1 (ints b.1), i64 b.2.1, i64 b.2.2], .box [.psl 1 (ints hs), i64 hp, i64 hq]]⟩)
    (inv := fun s => s ≤ S) (fun s => S - s) 0 [0, 1, 2] (by omega) (by (refine Le.mk (by kernel_rfl) ?_ ?_ <;> repeat' (first | exact True.intro | refine And.intro ?_ ?_ | exact Imp.refl _ | exact Imp.any _ | exact Imp.num (by first | omega | simp only [ints_len]) | exact rfl | exact Imp.bl (by simp)))) ?_
  intro s hs1
  repeat' (conv => whnf
           first | refine ArOb.fits (by first | omega | (simp only [ints_len] at *; omega)) ?_ | refine LitOb.vec ?_ | refine MakeOb.vec ?_ | refine AllocOb.box ?_ | refine AsgOb.vec ?_ | refine AggOb.mk (by decide +kernel) ?_ | refine ArU.fits (by first | omega | (simp only [ints_len] at *; omega)) ?_ | refine ArB.fits (by first | omega | (simp only [ints_len] at *; omega)) ?_ | refine CutOb.split ?_ | refine Gh.mk [] ?_ | refine And.intro (And.intro (by (simp only [List.length_append, List.length_take, List.length_drop, List.length_cons, List.length_nil, ints_len, List.length_replicate, Go.Cv.vals_len]; omega)) (by (simp only [List.length_append, List.length_take, List.length_drop, List.length_cons, List.length_nil, ints_len, List.length_replicate, Go.Cv.vals_len]; omega))) ?_ | refine ⟨_, _, rfl, ints_get (by first | omega | (simp only [ints_len] at *; omega)), ?_⟩ | refine ⟨_, _, (Int.toNat_of_nonneg (by first | omega | (simp only [ints_len] at *; omega))).symm, ints_get (by first | omega | (simp only [ints_len] at *; omega)), ?_⟩ | refine DrawOb.mk [] (.qs [0, 1, 3, 6] (.l 2 [3] (.l 4 [] (.qs [5, 7, 8] .nil) .no) .no)) (by decide +kernel) ?_ | refine DrawOb.mk [] (.qs [0, 1, 3, 6] (.l 2 [3] (.l 4 [] (.qs [5, 7, 8] .nil) .no) .no)) (by decide +kernel) ?_ | refine DrawOb.mk [] (.qs [0, 1, 2, 3, 5, 6, 8, 9] (.l 4 [8, 5] (.l 7 [8] (.l 10 [] (.l 11 [] (.qs [12] .nil) .no) .no) .no) .no)) (by decide +kernel) ?_ | (refine CallOb.mk [] c1 rfl (ImpL.refl _) rfl rfl ?_; rintro _ _ ⟨rfl, rfl⟩) | (refine CallOb.mk [] c3 rfl (ImpL.refl _) rfl rfl ?_; rintro _ _ ⟨rfl, rfl⟩) | fail)
  all_goals try (conv => whnf)
  refine CondOb.mk (fun hlt => ?_) (fun hlt => ?_)
  · repeat' (conv => whnf
             first | (refine CondOb.mk (fun _ => ?_) (fun _ => ?_) <;> first | (exfalso; omega) | skip) | refine ArOb.fits (by first | omega | (simp only [ints_len] at *; omega)) ?_ | refine LitOb.vec ?_ | refine MakeOb.vec ?_ | refine AllocOb.box ?_ | refine AsgOb.vec ?_ | refine AggOb.mk (by decide +kernel) ?_ | refine ArU.fits (by first | omega | (simp only [ints_len] at *; omega)) ?_ | refine ArB.fits (by first | omega | (simp only [ints_len] at *; omega)) ?_ | refine CutOb.split ?_ | refine Gh.mk [] ?_ | refine And.intro (And.intro (by (simp only [List.length_append, List.length_take, List.length_drop, List.length_cons, List.length_nil, ints_len, List.length_replicate, Go.Cv.vals_len]; omega)) (by (simp only [List.length_append, List.length_take, List.length_drop, List.length_cons, List.length_nil, ints_len, List.length_replicate, Go.Cv.vals_len]; omega))) ?_ | refine ⟨_, _, rfl, ints_get (by first | omega | (simp only [ints_len] at *; omega)), ?_⟩ | refine ⟨_, _, (Int.toNat_of_nonneg (by first | omega | (simp only [ints_len] at *; omega))).symm, ints_get (by first | omega | (simp only [ints_len] at *; omega)), ?_⟩ | refine DrawOb.mk [] (.qs [0, 1, 3, 6] (.l 2 [3] (.l 4 [] (.qs [5, 7, 8] .nil) .no) .no)) (by decide +kernel) ?_ | refine DrawOb.mk [] (.qs [0, 1, 3, 6] (.l 2 [3] (.l 4 [] (.qs [5, 7, 8] .nil) .no) .no)) (by decide +kernel) ?_ | refine DrawOb.mk [] (.qs [0, 1, 2, 3, 5, 6, 8, 9] (.l 4 [8, 5] (.l 7 [8] (.l 10 [] (.l 11 [] (.qs [12] .nil) .no) .no) .no) .no)) (by decide +kernel) ?_ | fail)
    all_goals try (conv => whnf)
    refine LoopOb.mk (Y := Nat) (st := fun u => ⟨[(10, i64 u), (9, i64 s), (6, .ptr 2 0), (5, .ptr 1 0), (4, .ptr 0 0), (3, i64 l)], [.box [.psl 1 (ints a.1), i64 a.2.1, i64 a.2.2], .box [.psl 1 (ints b.1), i64 b.2.1, i64 b.2.2], .box [.psl 1 (ints hs), i64 hp, i64 hq]]⟩)
      (inv := fun u => u ≤ U) (fun u => U - u) 0 [0, 1, 2] (by omega) (by (refine Le.mk (by kernel_rfl) ?_ ?_ <;> repeat' (first | exact True.intro | refine And.intro ?_ ?_ | exact Imp.refl _ | exact Imp.any _ | exact Imp.num (by first | omega | simp only [ints_len]) | exact rfl | exact Imp.bl (by simp)))) ?_
    intro u hu1
    repeat' (conv => whnf
             first | refine ArOb.fits (by first | omega | (simp only [ints_len] at *; omega)) ?_ | refine LitOb.vec ?_ | refine MakeOb.vec ?_ | refine AllocOb.box ?_ | refine AsgOb.vec ?_ | refine AggOb.mk (by decide +kernel) ?_ | refine ArU.fits (by first | omega | (simp only [ints_len] at *; omega)) ?_ | refine ArB.fits (by first | omega | (simp only [ints_len] at *; omega)) ?_ | refine CutOb.split ?_ | refine Gh.mk [] ?_ | refine And.intro (And.intro (by (simp only [List.length_append, List.length_take, List.length_drop, List.length_cons, List.length_nil, ints_len, List.length_replicate, Go.Cv.vals_len]; omega)) (by (simp only [List.length_append, List.length_take, List.length_drop, List.length_cons, List.length_nil, ints_len, List.length_replicate, Go.Cv.vals_len]; omega))) ?_ | refine ⟨_, _, rfl, ints_get (by first | omega | (simp only [ints_len] at *; omega)), ?_⟩ | refine ⟨_, _, (Int.toNat_of_nonneg (by first | omega | (simp only [ints_len] at *; omega))).symm, ints_get (by first | omega | (simp only [ints_len] at *; omega)), ?_⟩ | refine DrawOb.mk [] (.qs [0, 1, 3, 6] (.l 2 [3] (.l 4 [] (.qs [5, 7, 8] .nil) .no) .no)) (by decide +kernel) ?_ | refine DrawOb.mk [] (.qs [0, 1, 3, 6] (.l 2 [3] (.l 4 [] (.qs [5, 7, 8] .nil) .no) .no)) (by decide +kernel) ?_ | refine DrawOb.mk [] (.qs [0, 1, 2, 3, 5, 6, 8, 9] (.l 4 [8, 5] (.l 7 [8] (.l 10 [] (.l 11 [] (.qs [12] .nil) .no) .no) .no) .no)) (by decide +kernel) ?_ | (refine CallOb.mk [] c2 rfl (ImpL.refl _) rfl rfl ?_; rintro _ _ ⟨rfl, rfl⟩) | (refine CallOb.mk [] c3 rfl (ImpL.refl _) rfl rfl ?_; rintro _ _ ⟨rfl, rfl⟩) | fail)
    all_goals try (conv => whnf)
    refine CondOb.mk (fun hl2 => ?_) (fun hl2 => ?_)
    · have d1 := rAt_ok a s va (by omega)
      have d2 := rAt_ok b u vb (by omega)
      have d3 := At_ok hs hp hq (s + u : Nat) hh (by omega) (by omega)
      have b1 := cv_small va (t := s) (by omega) (fa.not va _)
      have b2 := cv_small vb (t := u) (by omega) (fb.not vb _)
      have b3 := cv_nonneg va s
      have b4 := cv_nonneg vb u
      have cP := cPlus7_ok _ _ ⟨b3, b1⟩ ⟨b4, b2⟩
      generalize cv a s = x at *
      generalize cv b u = y at *
      repeat' (conv => whnf
               first | (refine CondOb.mk (fun _ => ?_) (fun _ => ?_) <;> first | (exfalso; omega) | skip) | refine ArOb.fits (by first | omega | (simp only [ints_len] at *; omega)) ?_ | refine LitOb.vec ?_ | refine MakeOb.vec ?_ | refine AllocOb.box ?_ | refine AsgOb.vec ?_ | refine AggOb.mk (by decide +kernel) ?_ | refine ArU.fits (by first | omega | (simp only [ints_len] at *; omega)) ?_ | refine ArB.fits (by first | omega | (simp only [ints_len] at *; omega)) ?_ | refine CutOb.split ?_ | refine Gh.mk [] ?_ | refine And.intro (And.intro (by (simp only [List.length_append, List.length_take, List.length_drop, List.length_cons, List.length_nil, ints_len, List.length_replicate, Go.Cv.vals_len]; omega)) (by (simp only [List.length_append, List.length_take, List.length_drop, List.length_cons, List.length_nil, ints_len, List.length_replicate, Go.Cv.vals_len]; omega))) ?_ | refine ⟨_, _, rfl, ints_get (by first | omega | (simp only [ints_len] at *; omega)), ?_⟩ | refine ⟨_, _, (Int.toNat_of_nonneg (by first | omega | (simp only [ints_len] at *; omega))).symm, ints_get (by first | omega | (simp only [ints_len] at *; omega)), ?_⟩ | refine DrawOb.mk [] (.qs [0, 1, 3, 6] (.l 2 [3] (.l 4 [] (.qs [5, 7, 8] .nil) .no) .no)) (by decide +kernel) ?_ | refine DrawOb.mk [] (.qs [0, 1, 3, 6] (.l 2 [3] (.l 4 [] (.qs [5, 7, 8] .nil) .no) .no)) (by decide +kernel) ?_ | refine DrawOb.mk [] (.qs [0, 1, 2, 3, 5, 6, 8, 9] (.l 4 [8, 5] (.l 7 [8] (.l 10 [] (.l 11 [] (.qs [12] .nil) .no) .no) .no) .no)) (by decide +kernel) ?_ | (refine CallOb.mk [] d3 rfl ⟨Imp.refl _, Imp.num (by omega), trivial⟩ rfl rfl ?_; rintro _ _ ⟨rfl, rfl⟩) | (refine CallOb.mk [] d1 rfl (ImpL.refl _) rfl rfl ?_; rintro _ _ ⟨rfl, rfl⟩) | (refine CallOb.mk [] d2 rfl (ImpL.refl _) rfl rfl ?_; rintro _ _ ⟨rfl, rfl⟩) | (refine CallOb.mk [] cP rfl (ImpL.refl _) rfl rfl ?_; rintro _ _ ⟨rfl, rfl⟩) | fail)
      all_goals try (conv => whnf)
      all_goals first
        | exact ⟨u + 1, [0, 1, 2], by omega, by omega, by (refine Le.mk (by kernel_rfl) ?_ ?_ <;> repeat' (first | exact True.intro | refine And.intro ?_ ?_ | exact Imp.refl _ | exact Imp.any _ | exact Imp.num (by first | omega | simp only [ints_len]) | exact rfl | exact Imp.bl (by simp)))⟩
        | exact ⟨false, trivial, rfl, Imp.refl _⟩
        | trace_state
    · repeat' (conv => whnf
               first | (refine CondOb.mk (fun _ => ?_) (fun _ => ?_) <;> first | (exfalso; omega) | skip) | refine ArOb.fits (by first | omega | (simp only [ints_len] at *; omega)) ?_ | refine LitOb.vec ?_ | refine MakeOb.vec ?_ | refine AllocOb.box ?_ | refine AsgOb.vec ?_ | refine AggOb.mk (by decide +kernel) ?_ | refine ArU.fits (by first | omega | (simp only [ints_len] at *; omega)) ?_ | refine ArB.fits (by first | omega | (simp only [ints_len] at *; omega)) ?_ | refine CutOb.split ?_ | refine Gh.mk [] ?_ | refine And.intro (And.intro (by (simp only [List.length_append, List.length_take, List.length_drop, List.length_cons, List.length_nil, ints_len, List.length_replicate, Go.Cv.vals_len]; omega)) (by (simp only [List.length_append, List.length_take, List.length_drop, List.length_cons, List.length_nil, ints_len, List.length_replicate, Go.Cv.vals_len]; omega))) ?_ | refine ⟨_, _, rfl, ints_get (by first | omega | (simp only [ints_len] at *; omega)), ?_⟩ | refine ⟨_, _, (Int.toNat_of_nonneg (by first | omega | (simp only [ints_len] at *; omega))).symm, ints_get (by first | omega | (simp only [ints_len] at *; omega)), ?_⟩ | refine DrawOb.mk [] (.qs [0, 1, 3, 6] (.l 2 [3] (.l 4 [] (.qs [5, 7, 8] .nil) .no) .no)) (by decide +kernel) ?_ | refine DrawOb.mk [] (.qs [0, 1, 3, 6] (.l 2 [3] (.l 4 [] (.qs [5, 7, 8] .nil) .no) .no)) (by decide +kernel) ?_ | refine DrawOb.mk [] (.qs [0, 1, 2, 3, 5, 6, 8, 9] (.l 4 [8, 5] (.l 7 [8] (.l 10 [] (.l 11 [] (.qs [12] .nil) .no) .no) .no) .no)) (by decide +kernel) ?_ | fail)
      all_goals try (conv => whnf)
      exact ⟨s + 1, [0, 1, 2], by omega, by omega, by (refine Le.mk (by kernel_rfl) ?_ ?_ <;> repeat' (first | exact True.intro | refine And.intro ?_ ?_ | exact Imp.refl _ | exact Imp.any _ | exact Imp.num (by first | omega | simp only [ints_len]) | exact rfl | exact Imp.bl (by simp)))⟩
  · repeat' (conv => whnf
             first | (refine CondOb.mk (fun _ => ?_) (fun _ => ?_) <;> first | (exfalso; omega) | skip) | refine ArOb.fits (by first | omega | (simp only [ints_len] at *; omega)) ?_ | refine LitOb.vec ?_ | refine MakeOb.vec ?_ | refine AllocOb.box ?_ | refine AsgOb.vec ?_ | refine AggOb.mk (by decide +kernel) ?_ | refine ArU.fits (by first | omega | (simp only [ints_len] at *; omega)) ?_ | refine ArB.fits (by first | omega | (simp only [ints_len] at *; omega)) ?_ | refine CutOb.split ?_ | refine Gh.mk [] ?_ | refine And.intro (And.intro (by (simp only [List.length_append, List.length_take, List.length_drop, List.length_cons, List.length_nil, ints_len, List.length_replicate, Go.Cv.vals_len]; omega)) (by (simp only [List.length_append, List.length_take, List.length_drop, List.length_cons, List.length_nil, ints_len, List.length_replicate, Go.Cv.vals_len]; omega))) ?_ | refine ⟨_, _, rfl, ints_get (by first | omega | (simp only [ints_len] at *; omega)), ?_⟩ | refine ⟨_, _, (Int.toNat_of_nonneg (by first | omega | (simp only [ints_len] at *; omega))).symm, ints_get (by first | omega | (simp only [ints_len] at *; omega)), ?_⟩ | refine DrawOb.mk [] (.qs [0, 1, 3, 6] (.l 2 [3] (.l 4 [] (.qs [5, 7, 8] .nil) .no) .no)) (by decide +kernel) ?_ | refine DrawOb.mk [] (.qs [0, 1, 3, 6] (.l 2 [3] (.l 4 [] (.qs [5, 7, 8] .nil) .no) .no)) (by decide +kernel) ?_ | refine DrawOb.mk [] (.qs [0, 1, 2, 3, 5, 6, 8, 9] (.l 4 [8, 5] (.l 7 [8] (.l 10 [] (.l 11 [] (.qs [12] .nil) .no) .no) .no) .no)) (by decide +kernel) ?_ | fail)
    all_goals try (conv => whnf)
    exact ⟨true, trivial, rfl, Imp.refl _⟩
end Go.Proofs.Ytlnpbgjoccipaaa
