/-
  A text of the proofs of this seat: lemmas that the statements' proofs use; it states nothing of the program by itself beyond the contracts that its theorems bear. Conditions: those that stand in each theorem. Its short name: C9.
-/
import Derived.Test.YtabbnnfobjifiaaC8
import Derived.Test.YtabbnnfobjifiaaC7
import Derived.Test.YtabbnnfobjifiaaK5
import Derived.Test.YtabbnnfobjifiaaPl
import Derived.Test.YtabbnnfobjifiaaT6
import Derived.Test.YtabbnnfobjifiaaK7
import Derived.Test.YtabbnnfobjifiaaTf
set_option linter.unusedVariables false
set_option linter.unusedSimpArgs false
namespace Go.Proofs.Ytabbnnfobjifiaa
open Go.Sx Go.Pk Go.Cv Go.St
set_option maxRecDepth 8000
set_option maxHeartbeats 2000000
--APPX pks_len, Go.Cv.vals_len
theorem rValidate_ok (p : List Pk) (hv : Vld p) : Ctr Try.prog 60 [.psl 3 (pks p)] [] (fun r o => o = [] ∧ r = i64 0) := by
  refine fn_intro (E := env 0) tys_ok rfl rfl rfl Try.func60 (by kernel_rfl) rfl (by kernel_rfl) ?_
  have hp := hv.l
  have hpl := pks_len p
  repeat' (conv => whnf
           first | (refine CondOb.mk (fun _ => ?_) (fun _ => ?_) <;> first | (exfalso; omega) | skip) | refine ArOb.fits (by first | omega | (simp only [ints_len] at *; omega)) ?_ | refine LitOb.vec ?_ | refine MakeOb.vec ?_ | refine AllocOb.box ?_ | refine AsgOb.vec ?_ | refine AggOb.mk (by decide +kernel) ?_ | refine ArU.fits (by first | omega | (simp only [ints_len] at *; omega)) ?_ | refine ArB.fits (by first | omega | (simp only [ints_len] at *; omega)) ?_ | refine CutOb.split ?_ | refine Gh.mk [] ?_ | refine And.intro (And.intro (by (simp only [List.length_append, List.length_take, List.length_drop, List.length_cons, List.length_nil, ints_len, List.length_replicate, pks_len, Go.Cv.vals_len]; omega)) (by (simp only [List.length_append, List.length_take, List.length_drop, List.length_cons, List.length_nil, ints_len, List.length_replicate, pks_len, Go.Cv.vals_len]; omega))) ?_ | refine ⟨_, _, rfl, ints_get (by first | omega | (simp only [ints_len] at *; omega)), ?_⟩ | refine ⟨_, _, (Int.toNat_of_nonneg (by first | omega | (simp only [ints_len] at *; omega))).symm, ints_get (by first | omega | (simp only [ints_len] at *; omega)), ?_⟩ | refine DrawOb.mk [] (.qs [0, 1, 2, 3, 4, 5, 6, 7, 8, 9, 10, 11, 12] .nil) (by decide +kernel) ?_ | fail)
  all_goals try (conv => whnf)
  refine LoopOb.mk (Y := Nat) (st := fun i => ⟨[(3, i64 i), (0, .psl 3 (pks p))], []⟩)
    (inv := fun i => i ≤ p.length) (fun i => p.length - i) 0 [] (by omega) (by (refine Le.mk (by kernel_rfl) ?_ ?_ <;> repeat' (first | exact True.intro | refine And.intro ?_ ?_ | exact Imp.refl _ | exact Imp.any _ | exact Imp.num (by first | omega | simp only [ints_len]) | exact rfl | exact Imp.bl (by simp)))) ?_
  intro i hi
  repeat' (conv => whnf
           first | refine ArOb.fits (by first | omega | (simp only [ints_len] at *; omega)) ?_ | refine LitOb.vec ?_ | refine MakeOb.vec ?_ | refine AllocOb.box ?_ | refine AsgOb.vec ?_ | refine AggOb.mk (by decide +kernel) ?_ | refine ArU.fits (by first | omega | (simp only [ints_len] at *; omega)) ?_ | refine ArB.fits (by first | omega | (simp only [ints_len] at *; omega)) ?_ | refine CutOb.split ?_ | refine Gh.mk [] ?_ | refine And.intro (And.intro (by (simp only [List.length_append, List.length_take, List.length_drop, List.length_cons, List.length_nil, ints_len, List.length_replicate, pks_len, Go.Cv.vals_len]; omega)) (by (simp only [List.length_append, List.length_take, List.length_drop, List.length_cons, List.length_nil, ints_len, List.length_replicate, pks_len, Go.Cv.vals_len]; omega))) ?_ | refine ⟨_, _, rfl, ints_get (by first | omega | (simp only [ints_len] at *; omega)), ?_⟩ | refine ⟨_, _, (Int.toNat_of_nonneg (by first | omega | (simp only [ints_len] at *; omega))).symm, ints_get (by first | omega | (simp only [ints_len] at *; omega)), ?_⟩ | refine DrawOb.mk [] (.qs [0, 1, 2, 3, 4, 5, 6, 7, 8, 9, 10, 11, 12] .nil) (by decide +kernel) ?_ | fail)
  all_goals try (conv => whnf)
  refine CondOb.mk (fun hlt => ?_) (fun hlt => ?_)
  · have hil : i < p.length := by omega
    have hg := pks_get hil
    have hb := hv.g i hil
    unfold bad at hb
    have ho := hv.o i hil
    have hg2 : ∀ h : 0 < i, (pks p)[i - 1]? = some (pkw (p.getD (i - 1) pk0)) := fun h => pks_get (by omega)
    have ho2 : 0 < i → (p.getD (i - 1) pk0).t ≤ (p.getD i pk0).t := fun h => by
      obtain ⟨j, rfl⟩ : ∃ j, i = j + 1 := ⟨i - 1, by omega⟩
      exact ho
    clear ho
    generalize p.getD (i - 1) pk0 = y at *
    generalize p.getD i pk0 = x at *
    repeat' (conv => whnf
             first | refine ⟨i - 1, _, by omega, hg2 (by omega), ?_⟩ | refine ⟨i, _, rfl, hg, ?_⟩ | (refine CondOb.mk (fun _ => ?_) (fun _ => ?_) <;> first | (exfalso; omega) | skip) | refine ArOb.fits (by first | omega | (simp only [ints_len] at *; omega)) ?_ | refine LitOb.vec ?_ | refine MakeOb.vec ?_ | refine AllocOb.box ?_ | refine AsgOb.vec ?_ | refine AggOb.mk (by decide +kernel) ?_ | refine ArU.fits (by first | omega | (simp only [ints_len] at *; omega)) ?_ | refine ArB.fits (by first | omega | (simp only [ints_len] at *; omega)) ?_ | refine CutOb.split ?_ | refine Gh.mk [] ?_ | refine And.intro (And.intro (by (simp only [List.length_append, List.length_take, List.length_drop, List.length_cons, List.length_nil, ints_len, List.length_replicate, pks_len, Go.Cv.vals_len]; omega)) (by (simp only [List.length_append, List.length_take, List.length_drop, List.length_cons, List.length_nil, ints_len, List.length_replicate, pks_len, Go.Cv.vals_len]; omega))) ?_ | refine ⟨_, _, rfl, ints_get (by first | omega | (simp only [ints_len] at *; omega)), ?_⟩ | refine ⟨_, _, (Int.toNat_of_nonneg (by first | omega | (simp only [ints_len] at *; omega))).symm, ints_get (by first | omega | (simp only [ints_len] at *; omega)), ?_⟩ | refine DrawOb.mk [] (.qs [0, 1, 2, 3, 4, 5, 6, 7, 8, 9, 10, 11, 12] .nil) (by decide +kernel) ?_ | fail)
    all_goals try (conv => whnf)
    all_goals first
      | exact ⟨i + 1, [], by omega, by omega, by (refine Le.mk (by kernel_rfl) ?_ ?_ <;> repeat' (first | exact True.intro | refine And.intro ?_ ?_ | exact Imp.refl _ | exact Imp.any _ | exact Imp.num (by first | omega | simp only [ints_len]) | exact rfl | exact Imp.bl (by simp)))⟩
      | (exfalso; omega)
      | trace_state
  · repeat' (conv => whnf
             first | (refine CondOb.mk (fun _ => ?_) (fun _ => ?_) <;> first | (exfalso; omega) | skip) | refine ArOb.fits (by first | omega | (simp only [ints_len] at *; omega)) ?_ | refine LitOb.vec ?_ | refine MakeOb.vec ?_ | refine AllocOb.box ?_ | refine AsgOb.vec ?_ | refine AggOb.mk (by decide +kernel) ?_ | refine ArU.fits (by first | omega | (simp only [ints_len] at *; omega)) ?_ | refine ArB.fits (by first | omega | (simp only [ints_len] at *; omega)) ?_ | refine CutOb.split ?_ | refine Gh.mk [] ?_ | refine And.intro (And.intro (by (simp only [List.length_append, List.length_take, List.length_drop, List.length_cons, List.length_nil, ints_len, List.length_replicate, pks_len, Go.Cv.vals_len]; omega)) (by (simp only [List.length_append, List.length_take, List.length_drop, List.length_cons, List.length_nil, ints_len, List.length_replicate, pks_len, Go.Cv.vals_len]; omega))) ?_ | refine ⟨_, _, rfl, ints_get (by first | omega | (simp only [ints_len] at *; omega)), ?_⟩ | refine ⟨_, _, (Int.toNat_of_nonneg (by first | omega | (simp only [ints_len] at *; omega))).symm, ints_get (by first | omega | (simp only [ints_len] at *; omega)), ?_⟩ | refine DrawOb.mk [] (.qs [0, 1, 2, 3, 4, 5, 6, 7, 8, 9, 10, 11, 12] .nil) (by decide +kernel) ?_ | fail)
    all_goals try (conv => whnf)
    exact ⟨rfl, rfl⟩
/- the first i are later -/
def lateN (d : Int) (p : List Pk) (i : Nat) : List Pk := late d (p.take i) ++ p.drop i
theorem lateN_step (d : Int) {p : List Pk} {i : Nat} (h : i < p.length) : (pks (lateN d p i))[i]? = some (pkw (p.getD i pk0)) ∧ (pks (lateN d p i)).set i [i64 (p.getD i pk0).f, i64 ((p.getD i pk0).t + d), i64 (p.getD i pk0).s] = pks (lateN d p (i + 1)) ∧ (pks (lateN d p i)).length = p.length := by
  have hl : (pks (late d (p.take i))).length = i := by rw [pks_len, late_len, List.length_take]; omega
  have hx : p.getD i pk0 = p[i] := by simp [List.getD_eq_getElem?_getD, h]
  have pa : ∀ a b : List Pk, pks (a ++ b) = pks a ++ pks b := fun a b => List.map_append
  have e : pks (lateN d p i) = pks (late d (p.take i)) ++ (pkw (p.getD i pk0) :: pks (p.drop (i + 1))) := by
    rw [hx, lateN, pa, List.drop_eq_getElem_cons h]; rfl
  have e2 : pks (lateN d p (i + 1)) = pks (late d (p.take i)) ++ ([i64 (p.getD i pk0).f, i64 ((p.getD i pk0).t + d), i64 (p.getD i pk0).s] :: pks (p.drop (i + 1))) := by
    rw [hx, lateN, pa, List.take_succ_eq_append_getElem h, late, List.map_append, pa, List.append_assoc]; rfl
  refine ⟨?_, ?_, ?_⟩
  · rw [e, List.getElem?_append_right (by omega), hl, Nat.sub_self]; rfl
  · rw [e, e2, List.set_append_right _ _ (by omega), hl, Nat.sub_self]; rfl
  · rw [pks_len, lateN, List.length_append, late_len, List.length_take, List.length_drop]; omega
theorem rLater_ok (p : List Pk) (hv : Vld p) (d : Int) (hd : 0 ≤ d ∧ d ≤ 2000) (hl : ∀ x ∈ p, x.t + d ≤ 2000) : Ctr Try.prog 25 [.psl 3 (pks p), i64 d] [] (fun r o => o = [] ∧ r = .tup [.psl 3 (pks (late d p)), i64 0]) := by
  refine Ctr.imp ?_
  refine fn_intro (E := env 0) tys_ok rfl rfl rfl Try.func25 (by kernel_rfl) rfl (by kernel_rfl) ?_
  have hp := hv.l
  have hpl := pks_len p
  have cV := rValidate_ok p hv
  have hg : ∀ h : 0 < p.length, (pks p)[p.length - 1]? = some (pkw (p.getD (p.length - 1) pk0)) := fun h => pks_get (by omega)
  have hlt : 0 < p.length → (p.getD (p.length - 1) pk0).t + d ≤ 2000 := fun h => hl _ (getD_memP (by omega))
  have hzb : 0 < p.length → 0 ≤ (p.getD (p.length - 1) pk0).t := fun h => by
    have := hv.g (p.length - 1) (by omega)
    unfold bad at this; omega
  generalize p.getD (p.length - 1) pk0 = z at *
  repeat' (conv => whnf
           first | refine ⟨p.length - 1, _, by omega, hg (by omega), ?_⟩ | refine AsgOb.nil ?_ | (refine CondOb.mk (fun _ => ?_) (fun _ => ?_) <;> first | (exfalso; omega) | skip) | refine ArOb.fits (by first | omega | (simp only [ints_len] at *; omega)) ?_ | refine LitOb.vec ?_ | refine MakeOb.vec ?_ | refine AllocOb.box ?_ | refine AsgOb.vec ?_ | refine AggOb.mk (by decide +kernel) ?_ | refine ArU.fits (by first | omega | (simp only [ints_len] at *; omega)) ?_ | refine ArB.fits (by first | omega | (simp only [ints_len] at *; omega)) ?_ | refine CutOb.split ?_ | refine And.intro (And.intro (by (simp only [List.length_append, List.length_take, List.length_drop, List.length_cons, List.length_nil, ints_len, List.length_replicate, pks_len, Go.Cv.vals_len]; omega)) (by (simp only [List.length_append, List.length_take, List.length_drop, List.length_cons, List.length_nil, ints_len, List.length_replicate, pks_len, Go.Cv.vals_len]; omega))) ?_ | refine ⟨_, _, rfl, ints_get (by first | omega | (simp only [ints_len] at *; omega)), ?_⟩ | refine ⟨_, _, (Int.toNat_of_nonneg (by first | omega | (simp only [ints_len] at *; omega))).symm, ints_get (by first | omega | (simp only [ints_len] at *; omega)), ?_⟩ | (refine Gh.mk [] ?_; (conv => whnf); refine CallOb.mk [] cV rfl (ImpL.refl _) rfl rfl ?_; rintro _ _ ⟨rfl, rfl⟩) | fail)
  all_goals try (conv => whnf)
  all_goals
    refine .mk [] ?_
    refine LoopOb.mk (Y := Nat) (st := fun i => ⟨[(8, i64 i), (7, .vec 0), (1, i64 d)], [.vec 3 (pks (lateN d p i))]⟩)
      (inv := fun i => i ≤ p.length) (fun i => p.length - i) 0 [0] (by omega) (by rw [show lateN d p 0 = p by simp [lateN, late]]; (refine Le.mk (by kernel_rfl) ?_ ?_ <;> repeat' (first | exact True.intro | refine And.intro ?_ ?_ | exact Imp.refl _ | exact Imp.any _ | exact Imp.num (by first | omega | simp only [ints_len]) | exact rfl | exact Imp.bl (by simp)))) ?_
    intro i hi
    have hll : (pks (lateN d p i)).length = p.length := by
      rw [pks_len, lateN, List.length_append, late_len, List.length_take, List.length_drop]; omega
    repeat' (conv => whnf
             first | refine ArOb.fits (by first | omega | (simp only [ints_len] at *; omega)) ?_ | refine LitOb.vec ?_ | refine MakeOb.vec ?_ | refine AllocOb.box ?_ | refine AsgOb.vec ?_ | refine AggOb.mk (by decide +kernel) ?_ | refine ArU.fits (by first | omega | (simp only [ints_len] at *; omega)) ?_ | refine ArB.fits (by first | omega | (simp only [ints_len] at *; omega)) ?_ | refine CutOb.split ?_ | refine Gh.mk [] ?_ | refine And.intro (And.intro (by (simp only [List.length_append, List.length_take, List.length_drop, List.length_cons, List.length_nil, ints_len, List.length_replicate, pks_len, Go.Cv.vals_len]; omega)) (by (simp only [List.length_append, List.length_take, List.length_drop, List.length_cons, List.length_nil, ints_len, List.length_replicate, pks_len, Go.Cv.vals_len]; omega))) ?_ | refine ⟨_, _, rfl, ints_get (by first | omega | (simp only [ints_len] at *; omega)), ?_⟩ | refine ⟨_, _, (Int.toNat_of_nonneg (by first | omega | (simp only [ints_len] at *; omega))).symm, ints_get (by first | omega | (simp only [ints_len] at *; omega)), ?_⟩ | fail)
    all_goals try (conv => whnf)
    refine CondOb.mk (fun hlt => ?_) (fun hlt => ?_)
    · have hil : i < p.length := by omega
      obtain ⟨h1, h2, h3⟩ := lateN_step d hil
      have hb := hv.g i hil
      unfold bad at hb
      generalize p.getD i pk0 = x at *
      repeat' (conv => whnf
               first | refine ⟨_, h1, ?_⟩ | refine ⟨i, by omega, by omega, ?_⟩ | (refine CondOb.mk (fun _ => ?_) (fun _ => ?_) <;> first | (exfalso; omega) | skip) | refine ArOb.fits (by first | omega | (simp only [ints_len] at *; omega)) ?_ | refine LitOb.vec ?_ | refine MakeOb.vec ?_ | refine AllocOb.box ?_ | refine AsgOb.vec ?_ | refine AggOb.mk (by decide +kernel) ?_ | refine ArU.fits (by first | omega | (simp only [ints_len] at *; omega)) ?_ | refine ArB.fits (by first | omega | (simp only [ints_len] at *; omega)) ?_ | refine CutOb.split ?_ | refine And.intro (And.intro (by (simp only [List.length_append, List.length_take, List.length_drop, List.length_cons, List.length_nil, ints_len, List.length_replicate, pks_len, Go.Cv.vals_len]; omega)) (by (simp only [List.length_append, List.length_take, List.length_drop, List.length_cons, List.length_nil, ints_len, List.length_replicate, pks_len, Go.Cv.vals_len]; omega))) ?_ | refine ⟨_, _, rfl, ints_get (by first | omega | (simp only [ints_len] at *; omega)), ?_⟩ | refine ⟨_, _, (Int.toNat_of_nonneg (by first | omega | (simp only [ints_len] at *; omega))).symm, ints_get (by first | omega | (simp only [ints_len] at *; omega)), ?_⟩ | fail)
      all_goals try (conv => whnf)
      refine .mk [] ?_
      exact ⟨i + 1, [0], by omega, by omega, by rw [← h2]; (refine Le.mk (by kernel_rfl) ?_ ?_ <;> repeat' (first | exact True.intro | refine And.intro ?_ ?_ | exact Imp.refl _ | exact Imp.any _ | exact Imp.num (by first | omega | simp only [ints_len]) | exact rfl | exact Imp.bl (by simp)))⟩
    · have e : i = p.length := by omega
      subst e
      rw [show lateN d p p.length = late d p by simp [lateN]]
      repeat' (conv => whnf
               first | (refine CondOb.mk (fun _ => ?_) (fun _ => ?_) <;> first | (exfalso; omega) | skip) | refine ArOb.fits (by first | omega | (simp only [ints_len] at *; omega)) ?_ | refine LitOb.vec ?_ | refine MakeOb.vec ?_ | refine AllocOb.box ?_ | refine AsgOb.vec ?_ | refine AggOb.mk (by decide +kernel) ?_ | refine ArU.fits (by first | omega | (simp only [ints_len] at *; omega)) ?_ | refine ArB.fits (by first | omega | (simp only [ints_len] at *; omega)) ?_ | refine CutOb.split ?_ | refine And.intro (And.intro (by (simp only [List.length_append, List.length_take, List.length_drop, List.length_cons, List.length_nil, ints_len, List.length_replicate, pks_len, Go.Cv.vals_len]; omega)) (by (simp only [List.length_append, List.length_take, List.length_drop, List.length_cons, List.length_nil, ints_len, List.length_replicate, pks_len, Go.Cv.vals_len]; omega))) ?_ | refine ⟨_, _, rfl, ints_get (by first | omega | (simp only [ints_len] at *; omega)), ?_⟩ | refine ⟨_, _, (Int.toNat_of_nonneg (by first | omega | (simp only [ints_len] at *; omega))).symm, ints_get (by first | omega | (simp only [ints_len] at *; omega)), ?_⟩ | fail)
      all_goals try (conv => whnf)
      refine .mk [.fz 0] ?_
      repeat' (conv => whnf
               first | (refine CondOb.mk (fun _ => ?_) (fun _ => ?_) <;> first | (exfalso; omega) | skip) | refine ArOb.fits (by first | omega | (simp only [ints_len] at *; omega)) ?_ | refine LitOb.vec ?_ | refine MakeOb.vec ?_ | refine AllocOb.box ?_ | refine AsgOb.vec ?_ | refine AggOb.mk (by decide +kernel) ?_ | refine ArU.fits (by first | omega | (simp only [ints_len] at *; omega)) ?_ | refine ArB.fits (by first | omega | (simp only [ints_len] at *; omega)) ?_ | refine CutOb.split ?_ | refine Gh.mk [] ?_ | refine And.intro (And.intro (by (simp only [List.length_append, List.length_take, List.length_drop, List.length_cons, List.length_nil, ints_len, List.length_replicate, pks_len, Go.Cv.vals_len]; omega)) (by (simp only [List.length_append, List.length_take, List.length_drop, List.length_cons, List.length_nil, ints_len, List.length_replicate, pks_len, Go.Cv.vals_len]; omega))) ?_ | refine ⟨_, _, rfl, ints_get (by first | omega | (simp only [ints_len] at *; omega)), ?_⟩ | refine ⟨_, _, (Int.toNat_of_nonneg (by first | omega | (simp only [ints_len] at *; omega))).symm, ints_get (by first | omega | (simp only [ints_len] at *; omega)), ?_⟩ | fail)
      all_goals try (conv => whnf)
      exact ⟨rfl, Imp.refl _⟩
/- the least curve of a trace that is made -/
theorem least_curve {p : List Pk} (hv : Vld p) (hN : endN p ≤ 380) (flow : Int) {x : List Int × Int × Int × Int} (hx : MkP (lsF p flow) x) : ∃ c : C3, VC c ∧ (∀ t, cv c t = lsF p flow t) ∧ x = (c.1, (c.2.1 : Int), c.2.2, 0) :=
  mk_fits (s := endN p) (p := 1) (q := 0) hx (lsF_le hv flow 0).1 (lsF_mono p flow) (lsF_per p flow) (by omega) (by omega) (by omega) (by omega) (fun t _ => by have := lsF_le hv flow t; omega)
theorem TrP.end {fl mo : Int} {p : List Pk} {t : Int} (h : TrP fl mo p t) (hf : fl ≤ 60) (hm : mo ≤ 1500) (hl : p.length ≤ 60) : (endN p : Int) ≤ 7 * p.length + 1 := by
  have ht := h.t
  unfold endN
  split
  · omega
  · rename_i i hi
    have := h.b _ (getD_memP (l := p) (i := i) (by omega))
    omega
theorem Moves_ok (l : List Int) (hl : l.length ≤ 9223372036854775807) : Ctr Try.prog 7 [.psl 1 (ints l)] [] (fun r o => r = .bl true) := by
  refine fn_intro (E := env 0) tys_ok rfl rfl rfl Try.func7 (by kernel_rfl) rfl (by kernel_rfl) ?_
  have hL : (l.take 2000).length ≤ 2000 := by rw [List.length_take]; omega
  repeat' (conv => whnf
           first | (refine CondOb.mk (fun _ => ?_) (fun _ => ?_) <;> first | (exfalso; omega) | skip) | refine ArOb.fits (by first | omega | (simp only [ints_len] at *; omega)) ?_ | refine LitOb.vec ?_ | refine MakeOb.vec ?_ | refine AllocOb.box ?_ | refine AsgOb.vec ?_ | refine AggOb.mk (by decide +kernel) ?_ | refine ArU.fits (by first | omega | (simp only [ints_len] at *; omega)) ?_ | refine ArB.fits (by first | omega | (simp only [ints_len] at *; omega)) ?_ | refine CutOb.split ?_ | refine Gh.mk [] ?_ | refine And.intro (And.intro (by (simp only [List.length_append, List.length_take, List.length_drop, List.length_cons, List.length_nil, ints_len, List.length_replicate, pks_len, Go.Cv.vals_len]; omega)) (by (simp only [List.length_append, List.length_take, List.length_drop, List.length_cons, List.length_nil, ints_len, List.length_replicate, pks_len, Go.Cv.vals_len]; omega))) ?_ | refine ⟨_, _, rfl, ints_get (by first | omega | (simp only [ints_len] at *; omega)), ?_⟩ | refine ⟨_, _, (Int.toNat_of_nonneg (by first | omega | (simp only [ints_len] at *; omega))).symm, ints_get (by first | omega | (simp only [ints_len] at *; omega)), ?_⟩ | refine DrawOb.mk [] (.qs [0, 1, 2, 3, 4, 5, 6, 7, 8, 9, 10, 11, 12] (.l 13 [] (.qs [14, 15, 16, 17, 19, 20] (.l 18 [20] (.l 21 [] (.qs [22, 23, 24] (.l 25 [] (.qs [26, 27] .nil) .no)) .no) .no)) .no)) (by decide +kernel) ?_ | (refine CallOb.mk [] (New_ok l hl) rfl (ImpL.refl _) rfl rfl ?_; rintro _ _ ⟨rfl, rfl⟩) | fail)
  all_goals try (conv => whnf)
  refine CallOb.mk [0] (Traffic_ok _ 0 hL (by omega) 10 (by omega) 2 9 (by omega) (by omega)) rfl (ImpL.refl _) rfl rfl ?_
  rintro _ _ ⟨⟨⟨p, tp⟩, k1⟩, ⟨⟨hP, hpl⟩, hk1⟩, rfl, rfl⟩
  dsimp only at hP hpl hk1 ⊢
  have hV := hP.vld (by decide) (by decide) (by omega)
  repeat' (conv => whnf
           first | (refine CondOb.mk (fun _ => ?_) (fun _ => ?_) <;> first | (exfalso; omega) | skip) | refine ArOb.fits (by first | omega | (simp only [ints_len] at *; omega)) ?_ | refine LitOb.vec ?_ | refine MakeOb.vec ?_ | refine AllocOb.box ?_ | refine AsgOb.vec ?_ | refine AggOb.mk (by decide +kernel) ?_ | refine ArU.fits (by first | omega | (simp only [ints_len] at *; omega)) ?_ | refine ArB.fits (by first | omega | (simp only [ints_len] at *; omega)) ?_ | refine CutOb.split ?_ | refine Gh.mk [] ?_ | refine And.intro (And.intro (by (simp only [List.length_append, List.length_take, List.length_drop, List.length_cons, List.length_nil, ints_len, List.length_replicate, pks_len, Go.Cv.vals_len]; omega)) (by (simp only [List.length_append, List.length_take, List.length_drop, List.length_cons, List.length_nil, ints_len, List.length_replicate, pks_len, Go.Cv.vals_len]; omega))) ?_ | refine ⟨_, _, rfl, ints_get (by first | omega | (simp only [ints_len] at *; omega)), ?_⟩ | refine ⟨_, _, (Int.toNat_of_nonneg (by first | omega | (simp only [ints_len] at *; omega))).symm, ints_get (by first | omega | (simp only [ints_len] at *; omega)), ?_⟩ | refine DrawOb.mk [] (.qs [0, 1, 2, 3, 4, 5, 6, 7, 8, 9, 10, 11, 12] (.l 13 [] (.qs [14, 15, 16, 17, 19, 20] (.l 18 [20] (.l 21 [] (.qs [22, 23, 24] (.l 25 [] (.qs [26, 27] .nil) .no)) .no) .no)) .no)) (by decide +kernel) ?_ | fail)
  all_goals try (conv => whnf)
  refine CallOb.mk [0] (Ctr.impE (Zero_ok _ k1 hL hk1 6 (by omega) (by omega))) rfl (ImpL.refl _) rfl rfl ?_
  rintro _ _ ⟨⟨f, k2⟩, ⟨hf, hk2⟩, rfl, rfl⟩
  dsimp only at hf hk2 ⊢
  have vf := hf.v
  repeat' (conv => whnf
           first | (refine CondOb.mk (fun _ => ?_) (fun _ => ?_) <;> first | (exfalso; omega) | skip) | refine ArOb.fits (by first | omega | (simp only [ints_len] at *; omega)) ?_ | refine LitOb.vec ?_ | refine MakeOb.vec ?_ | refine AllocOb.box ?_ | refine AsgOb.vec ?_ | refine AggOb.mk (by decide +kernel) ?_ | refine ArU.fits (by first | omega | (simp only [ints_len] at *; omega)) ?_ | refine ArB.fits (by first | omega | (simp only [ints_len] at *; omega)) ?_ | refine CutOb.split ?_ | refine Gh.mk [] ?_ | refine And.intro (And.intro (by (simp only [List.length_append, List.length_take, List.length_drop, List.length_cons, List.length_nil, ints_len, List.length_replicate, pks_len, Go.Cv.vals_len]; omega)) (by (simp only [List.length_append, List.length_take, List.length_drop, List.length_cons, List.length_nil, ints_len, List.length_replicate, pks_len, Go.Cv.vals_len]; omega))) ?_ | refine ⟨_, _, rfl, ints_get (by first | omega | (simp only [ints_len] at *; omega)), ?_⟩ | refine ⟨_, _, (Int.toNat_of_nonneg (by first | omega | (simp only [ints_len] at *; omega))).symm, ints_get (by first | omega | (simp only [ints_len] at *; omega)), ?_⟩ | refine DrawOb.mk [] (.qs [0, 1, 2, 3, 4, 5, 6, 7, 8, 9, 10, 11, 12] (.l 13 [] (.qs [14, 15, 16, 17, 19, 20] (.l 18 [20] (.l 21 [] (.qs [22, 23, 24] (.l 25 [] (.qs [26, 27] .nil) .no)) .no) .no)) .no)) (by decide +kernel) ?_ | fail)
  all_goals try (conv => whnf)
  refine CallOb.mk [0] (N_ok _ k2 hL hk2 60 (by omega) (by omega)) rfl (ImpL.refl _) rfl rfl ?_
  rintro _ _ ⟨⟨d, k3⟩, ⟨d1, d2, hk3⟩, rfl, rfl⟩
  dsimp only at d1 d2 hk3 ⊢
  have ht7 := hP.t
  obtain ⟨dn, hdn⟩ : ∃ n : Nat, d = n := ⟨d.toNat, by omega⟩
  have hQ : Vld (late d p) := vld_of (by rw [late_len]; omega) (fun x hx => by
    obtain ⟨y, hy, rfl⟩ := List.mem_map.1 hx
    have h1 := hP.b y hy
    unfold bad; dsimp only; omega) (srt_map (k := ptm) (g := fun x : Pk => ⟨x.f, x.t + d, x.s⟩) (by
      have h : ∀ q : List Pk, Srt ptm q → Srt (fun x : Pk => x.t + d) q := by
        intro q
        induction q with
        | nil => exact fun _ => trivial
        | cons x q ih => exact fun h => ⟨fun y hy => by have := h.1 y hy; show x.t + d ≤ y.t + d; have e : x.t ≤ y.t := this; omega, ih h.2⟩
      exact h p hP.s))
  have cL := rLater_ok p hV d (by omega) (fun x hx => by have := hP.b x hx; omega)
  have hEp : endN p ≤ 80 := by have := hP.end (by decide) (by decide) (by omega); omega
  have hEq : endN (late d p) ≤ 380 := by
    unfold endN
    split
    · omega
    · rename_i i hi
      have h1 := getD_memP (l := late d p) (i := i) (by omega)
      obtain ⟨y, hy, he⟩ := List.mem_map.1 h1
      have h2 := hP.b y hy
      rw [← he]
      dsimp only
      omega
  have cA := spl4 (cLeast_ok p hV (by omega) 0 (by decide))
  have cB := spl4 (cLeast_ok (late d p) hQ (by omega) 0 (by decide))
  have cK1 := Keeps_ok p hV 0 (by decide) f vf
  have cK2 := Keeps_ok (late d p) hQ 0 (by decide) f vf
  rw [hdn] at hQ hEq cL cB cK2 ⊢
  rw [lsF_late hV hQ] at cB
  have hkk := kp_late hV hQ 0 (F := cv f) (fun t => cv_nonneg vf t) (fun h => vf.cvle h)
  rw [show Kp (csm (late dn p) 0) (cv f) (endN (late dn p)) = Kp (csm p 0) (cv f) (endN p) from propext hkk] at cK2
  generalize late (dn : Int) p = q at *
  generalize Kp (csm p 0) (cv f) (endN p) = K at *
  repeat' (conv => whnf
           first | (refine CondOb.mk (fun _ => ?_) (fun _ => ?_) <;> first | (exfalso; omega) | skip) | refine ArOb.fits (by first | omega | (simp only [ints_len] at *; omega)) ?_ | refine LitOb.vec ?_ | refine MakeOb.vec ?_ | refine AllocOb.box ?_ | refine AsgOb.vec ?_ | refine AggOb.mk (by decide +kernel) ?_ | refine ArU.fits (by first | omega | (simp only [ints_len] at *; omega)) ?_ | refine ArB.fits (by first | omega | (simp only [ints_len] at *; omega)) ?_ | refine CutOb.split ?_ | refine Gh.mk [] ?_ | refine And.intro (And.intro (by (simp only [List.length_append, List.length_take, List.length_drop, List.length_cons, List.length_nil, ints_len, List.length_replicate, pks_len, Go.Cv.vals_len]; omega)) (by (simp only [List.length_append, List.length_take, List.length_drop, List.length_cons, List.length_nil, ints_len, List.length_replicate, pks_len, Go.Cv.vals_len]; omega))) ?_ | refine ⟨_, _, rfl, ints_get (by first | omega | (simp only [ints_len] at *; omega)), ?_⟩ | refine ⟨_, _, (Int.toNat_of_nonneg (by first | omega | (simp only [ints_len] at *; omega))).symm, ints_get (by first | omega | (simp only [ints_len] at *; omega)), ?_⟩ | refine DrawOb.mk [] (.qs [0, 1, 2, 3, 4, 5, 6, 7, 8, 9, 10, 11, 12] (.l 13 [] (.qs [14, 15, 16, 17, 19, 20] (.l 18 [20] (.l 21 [] (.qs [22, 23, 24] (.l 25 [] (.qs [26, 27] .nil) .no)) .no) .no)) .no)) (by decide +kernel) ?_ | (refine CallOb.mk [] cL rfl (ImpL.refl _) rfl rfl ?_; rintro _ _ ⟨rfl, rfl⟩) | fail)
  all_goals try (conv => whnf)
  refine CallOb.mk [] cA rfl (ImpL.refl _) rfl rfl ?_
  rintro _ _ ⟨x1, x2, x3, x4, hx, rfl, rfl⟩
  repeat' (conv => whnf
           first | (refine CondOb.mk (fun _ => ?_) (fun _ => ?_) <;> first | (exfalso; omega) | skip) | refine ArOb.fits (by first | omega | (simp only [ints_len] at *; omega)) ?_ | refine LitOb.vec ?_ | refine MakeOb.vec ?_ | refine AllocOb.box ?_ | refine AsgOb.vec ?_ | refine AggOb.mk (by decide +kernel) ?_ | refine ArU.fits (by first | omega | (simp only [ints_len] at *; omega)) ?_ | refine ArB.fits (by first | omega | (simp only [ints_len] at *; omega)) ?_ | refine CutOb.split ?_ | refine Gh.mk [] ?_ | refine And.intro (And.intro (by (simp only [List.length_append, List.length_take, List.length_drop, List.length_cons, List.length_nil, ints_len, List.length_replicate, pks_len, Go.Cv.vals_len]; omega)) (by (simp only [List.length_append, List.length_take, List.length_drop, List.length_cons, List.length_nil, ints_len, List.length_replicate, pks_len, Go.Cv.vals_len]; omega))) ?_ | refine ⟨_, _, rfl, ints_get (by first | omega | (simp only [ints_len] at *; omega)), ?_⟩ | refine ⟨_, _, (Int.toNat_of_nonneg (by first | omega | (simp only [ints_len] at *; omega))).symm, ints_get (by first | omega | (simp only [ints_len] at *; omega)), ?_⟩ | refine DrawOb.mk [] (.qs [0, 1, 2, 3, 4, 5, 6, 7, 8, 9, 10, 11, 12] (.l 13 [] (.qs [14, 15, 16, 17, 19, 20] (.l 18 [20] (.l 21 [] (.qs [22, 23, 24] (.l 25 [] (.qs [26, 27] .nil) .no)) .no) .no)) .no)) (by decide +kernel) ?_ | fail)
  all_goals try (conv => whnf)
  refine CallOb.mk [] cB rfl (ImpL.refl _) rfl rfl ?_
  rintro _ _ ⟨y1, y2, y3, y4, hy, rfl, rfl⟩
  cases hx.uniq hy
  obtain ⟨c, vc, _, he⟩ := least_curve hV (by omega) 0 hx
  cases he
  have cS := Same_ok c.1 c.1 c.2.1 c.2.2 c.2.1 c.2.2 (by have := vc.n2; omega)
  repeat' (conv => whnf
           first | (refine CondOb.mk (fun _ => ?_) (fun _ => ?_) <;> first | (exfalso; omega) | skip) | refine ArOb.fits (by first | omega | (simp only [ints_len] at *; omega)) ?_ | refine LitOb.vec ?_ | refine MakeOb.vec ?_ | refine AllocOb.box ?_ | refine AsgOb.vec ?_ | refine AggOb.mk (by decide +kernel) ?_ | refine ArU.fits (by first | omega | (simp only [ints_len] at *; omega)) ?_ | refine ArB.fits (by first | omega | (simp only [ints_len] at *; omega)) ?_ | refine CutOb.split ?_ | refine Gh.mk [] ?_ | refine And.intro (And.intro (by (simp only [List.length_append, List.length_take, List.length_drop, List.length_cons, List.length_nil, ints_len, List.length_replicate, pks_len, Go.Cv.vals_len]; omega)) (by (simp only [List.length_append, List.length_take, List.length_drop, List.length_cons, List.length_nil, ints_len, List.length_replicate, pks_len, Go.Cv.vals_len]; omega))) ?_ | refine ⟨_, _, rfl, ints_get (by first | omega | (simp only [ints_len] at *; omega)), ?_⟩ | refine ⟨_, _, (Int.toNat_of_nonneg (by first | omega | (simp only [ints_len] at *; omega))).symm, ints_get (by first | omega | (simp only [ints_len] at *; omega)), ?_⟩ | refine DrawOb.mk [] (.qs [0, 1, 2, 3, 4, 5, 6, 7, 8, 9, 10, 11, 12] (.l 13 [] (.qs [14, 15, 16, 17, 19, 20] (.l 18 [20] (.l 21 [] (.qs [22, 23, 24] (.l 25 [] (.qs [26, 27] .nil) .no)) .no) .no)) .no)) (by decide +kernel) ?_ | (refine CallOb.mk [] cS rfl (ImpL.refl _) rfl rfl ?_; rintro _ _ ⟨rfl, rfl⟩) | (refine CallOb.mk [] cK1 rfl (ImpL.refl _) rfl rfl ?_; rintro _ _ ⟨rfl, rfl⟩) | (refine CallOb.mk [] cK2 rfl (ImpL.refl _) rfl rfl ?_; rintro _ _ ⟨rfl, rfl⟩) | (refine CallOb.mk [] (awake14_ok) rfl (ImpL.refl _) rfl rfl ?_; rintro _ _ ⟨rfl, rfl⟩) | fail)
  all_goals try (conv => whnf)
  all_goals first
    | rfl
    | (exfalso; omega)
    | (exfalso; rename_i h; exact h ⟨rfl, rfl, rfl⟩)
    | (exfalso; rename_i h; exact h Iff.rfl)
    | trace_state
end Go.Proofs.Ytabbnnfobjifiaa
