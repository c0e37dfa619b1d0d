/-
  A text of the proofs of this seat: lemmas that the statements' proofs use; it states nothing of the program by itself beyond the contracts that its theorems bear. Conditions: those that stand in each theorem. Its short name: C4.
-/
import Derived.Test.YtabbnnfobjifiaaC3
set_option linter.unusedVariables false
set_option linter.unusedSimpArgs false
namespace Go.Proofs.Ytabbnnfobjifiaa
open Go.Sx Go.Pk Go.Cv Go.St
set_option maxRecDepth 8000
set_option maxHeartbeats 2000000
--APPX pks_len, Go.Cv.vals_len
abbrev tms (R : List (Int × Int)) : List Int := R.reverse.map (·.1)
abbrev szs (R : List (Int × Int)) : List Int := R.reverse.map (·.2)
theorem tms_get {R : List (Int × Int)} {m i : Nat} (h : i + 1 + m = R.length) : (ints (tms R))[i]? = some [i64 (R.getD m (0, 0)).1] ∧ (ints (szs R))[i]? = some [i64 (R.getD m (0, 0)).2] := by
  have hr : R.reverse[i]? = some (R.getD m (0, 0)) := by
    rw [List.getElem?_reverse (by omega), show R.length - 1 - i = m by omega, List.getElem?_eq_getElem (by omega), List.getD_eq_getElem?_getD, List.getElem?_eq_getElem (by omega)]; rfl
  unfold ints tms szs
  rw [List.getElem?_map, List.getElem?_map, List.getElem?_map, List.getElem?_map, hr]; exact ⟨rfl, rfl⟩
theorem tms_cons (R : List (Int × Int)) (t s : Int) : ints (tms ((t, s) :: R)) = ints (tms R) ++ [[i64 t]] ∧ ints (szs ((t, s) :: R)) = ints (szs R) ++ [[i64 s]] := by simp [ints]
/- what has been let through -/
structure RunOK (R : List (Int × Int)) (B : Int) : Prop where
  n : R.length ≤ 60
  b : ∀ y ∈ R, 0 ≤ y.1 ∧ y.1 ≤ 2000 ∧ 0 ≤ y.2
  s : sumA (fun y : Int × Int => y.2) R ≤ B
abbrev runB (f : C3) (h1 h2 : SV) : Chunk := .box [.psl 1 (ints f.1), i64 f.2.1, i64 f.2.2, i64 (cv f 1), h1, h2]
theorem begin_ok (f : C3) (vf : VC f) : Ctr Try.prog 43 [crv f.1 f.2.1 f.2.2] [] (fun r o => o = [runB f .nil .nil] ∧ r = .ptr 0 0) := by
  refine fn_intro (E := env 0) tys_ok rfl rfl rfl Try.func43 (by kernel_rfl) rfl (by kernel_rfl) ?_
  have cA := WAt_ok f.1 f.2.1 f.2.2 1 (bd_of vf) (by omega) (by omega)
  rw [show val f.1 f.2.1 f.2.2 (1 : Int).toNat = cv f 1 from rfl] at cA
  repeat' (conv => whnf
           first | (refine CondOb.mk (fun _ => ?_) (fun _ => ?_) <;> first | (exfalso; omega) | skip) | refine ArOb.fits (by first | omega | (simp only [ints_len] at *; omega)) ?_ | refine LitOb.vec ?_ | refine MakeOb.vec ?_ | refine AllocOb.box ?_ | refine AsgOb.vec ?_ | refine AggOb.mk (by decide +kernel) ?_ | refine ArU.fits (by first | omega | (simp only [ints_len] at *; omega)) ?_ | refine ArB.fits (by first | omega | (simp only [ints_len] at *; omega)) ?_ | refine CutOb.split ?_ | refine And.intro (And.intro (by (simp only [List.length_append, List.length_take, List.length_drop, List.length_cons, List.length_nil, ints_len, List.length_replicate, pks_len, Go.Cv.vals_len]; omega)) (by (simp only [List.length_append, List.length_take, List.length_drop, List.length_cons, List.length_nil, ints_len, List.length_replicate, pks_len, Go.Cv.vals_len]; omega))) ?_ | refine ⟨_, _, rfl, ints_get (by first | omega | (simp only [ints_len] at *; omega)), ?_⟩ | refine ⟨_, _, (Int.toNat_of_nonneg (by first | omega | (simp only [ints_len] at *; omega))).symm, ints_get (by first | omega | (simp only [ints_len] at *; omega)), ?_⟩ | refine DrawOb.mk [] (.qs [0, 1] (.l 2 [0] (.qs [3] (.l 4 [] (.qs [5] .nil) .no)) .no)) (by decide +kernel) ?_ | (refine Gh.mk [] ?_; (conv => whnf); refine CallOb.mk [] cA rfl (ImpL.refl _) rfl rfl ?_; rintro _ _ ⟨rfl, rfl⟩) | fail)
  all_goals try (conv => whnf)
  refine .mk [.wk [1] ⟨[(2, .ptr 0 0)], [runB f .nil .nil]⟩] ⟨by (refine Le.mk (by kernel_rfl) ?_ ?_ <;> repeat' (first | exact True.intro | refine And.intro ?_ ?_ | exact Imp.refl _ | exact Imp.any _ | exact Imp.num (by first | omega | simp only [ints_len]) | exact rfl | exact Imp.bl (by simp))), ?_⟩
  repeat' (conv => whnf
           first | refine CondOb.mk (fun _ => ?_) (fun _ => ?_) | refine ArOb.fits (by first | omega | (simp only [ints_len] at *; omega)) ?_ | refine LitOb.vec ?_ | refine MakeOb.vec ?_ | refine AllocOb.box ?_ | refine AsgOb.vec ?_ | refine AggOb.mk (by decide +kernel) ?_ | refine ArU.fits (by first | omega | (simp only [ints_len] at *; omega)) ?_ | refine ArB.fits (by first | omega | (simp only [ints_len] at *; omega)) ?_ | refine CutOb.split ?_ | refine Gh.mk [] ?_ | refine And.intro (And.intro (by (simp only [List.length_append, List.length_take, List.length_drop, List.length_cons, List.length_nil, ints_len, List.length_replicate, pks_len, Go.Cv.vals_len]; omega)) (by (simp only [List.length_append, List.length_take, List.length_drop, List.length_cons, List.length_nil, ints_len, List.length_replicate, pks_len, Go.Cv.vals_len]; omega))) ?_ | refine ⟨_, _, rfl, ints_get (by first | omega | (simp only [ints_len] at *; omega)), ?_⟩ | refine ⟨_, _, (Int.toNat_of_nonneg (by first | omega | (simp only [ints_len] at *; omega))).symm, ints_get (by first | omega | (simp only [ints_len] at *; omega)), ?_⟩ | refine DrawOb.mk [] (.qs [0, 1] (.l 2 [0] (.qs [3] (.l 4 [] (.qs [5] .nil) .no)) .no)) (by decide +kernel) ?_ | fail)
  all_goals try (conv => whnf)
  exact ⟨rfl, rfl⟩
def EarR (f : C3) (R : List (Int × Int)) (t s : Int) (x : Int × Bool) : Prop := (∃ u, ear f R t s = some u ∧ (0 ≤ u ∧ u ≤ 2000000) ∧ x = (u, true)) ∨ (ear f R t s = none ∧ x = (0, false))
theorem earliest_ok (f : C3) (vf : VC f) (R : List (Int × Int)) (t s : Int) (ht : 0 ≤ t ∧ t ≤ 2000) (hs : 0 ≤ s) (hR : RunOK R (8000 - s)) :
    Ctr Try.prog 46 [.ptr 0 0, i64 t, i64 s] [runB f (.vec 1) (.vec 2), .vec 1 (ints (tms R)), .vec 1 (ints (szs R))] (fun r o => ∃ x : Int × Bool, EarR f R t s x ∧ o = [runB f (.vec 1) (.vec 2), .vec 1 (ints (tms R)), .vec 1 (ints (szs R))] ∧ r = .tup [i64 x.1, .bl x.2]) := by
  refine Ctr.impE ?_
  refine fn_intro (E := env 3) tys_ok rfl rfl rfl Try.func46 (by kernel_rfl) rfl (by kernel_rfl) ?_
  have hRn := hR.n
  have hl1 : (ints (tms R)).length = R.length := by simp
  have hl2 : (ints (szs R)).length = R.length := by simp
  repeat' (conv => whnf
           first | (refine CondOb.mk (fun _ => ?_) (fun _ => ?_) <;> first | (exfalso; omega) | skip) | refine ArOb.fits (by first | omega | (simp only [ints_len] at *; omega)) ?_ | refine LitOb.vec ?_ | refine MakeOb.vec ?_ | refine AllocOb.box ?_ | refine AsgOb.vec ?_ | refine AggOb.mk (by decide +kernel) ?_ | refine ArU.fits (by first | omega | (simp only [ints_len] at *; omega)) ?_ | refine ArB.fits (by first | omega | (simp only [ints_len] at *; omega)) ?_ | refine CutOb.split ?_ | refine Gh.mk [] ?_ | refine And.intro (And.intro (by (simp only [List.length_append, List.length_take, List.length_drop, List.length_cons, List.length_nil, ints_len, List.length_replicate, pks_len, Go.Cv.vals_len]; omega)) (by (simp only [List.length_append, List.length_take, List.length_drop, List.length_cons, List.length_nil, ints_len, List.length_replicate, pks_len, Go.Cv.vals_len]; omega))) ?_ | refine ⟨_, _, rfl, ints_get (by first | omega | (simp only [ints_len] at *; omega)), ?_⟩ | refine ⟨_, _, (Int.toNat_of_nonneg (by first | omega | (simp only [ints_len] at *; omega))).symm, ints_get (by first | omega | (simp only [ints_len] at *; omega)), ?_⟩ | refine DrawOb.mk [] (.qs [0, 1, 2, 3, 4, 5, 6, 7, 8, 9, 10, 11, 12, 13, 14, 15, 16, 17, 18, 19] .nil) (by decide +kernel) ?_ | fail)
  all_goals try (conv => whnf)
  · exact ⟨(0, false), .inr ⟨by unfold ear; rw [if_pos (by omega)], rfl⟩, rfl, Imp.refl _⟩
  have hE : ear f R t s = erl f R s t := by unfold ear; rw [if_neg (by omega)]
  refine LoopOb.mk (Y := Nat × Int × Int) (st := fun y => ⟨[(9, i64 ((R.length : Int) - 1 - y.1)), (8, i64 y.2.1), (0, .ptr 0 0), (1, i64 y.2.2)], [runB f (.vec 1) (.vec 2), .vec 1 (ints (tms R)), .vec 1 (ints (szs R))]⟩)
    (inv := fun y => y.1 ≤ R.length ∧ erl f (R.drop y.1) y.2.1 y.2.2 = ear f R t s ∧ (0 ≤ y.2.1 ∧ y.2.1 + sumA (fun z : Int × Int => z.2) (R.drop y.1) ≤ 8000) ∧ 0 ≤ y.2.2 ∧ y.2.2 ≤ 2000000) (fun y => R.length - y.1) (0, s, t) [0, 1, 2]
    ⟨by simp, by rw [hE]; rfl, ⟨hs, by have := hR.s; simp only [List.drop_zero]; omega⟩, by dsimp only; omega⟩ (by (refine Le.mk (by kernel_rfl) ?_ ?_ <;> repeat' (first | exact True.intro | refine And.intro ?_ ?_ | exact Imp.refl _ | exact Imp.any _ | exact Imp.num (by first | omega | simp only [ints_len]) | exact rfl | exact Imp.bl (by simp)))) ?_
  rintro ⟨m, sum, tt⟩ ⟨hm, hE2, ⟨hs0, hs1⟩, ht0, ht1⟩
  dsimp only at hm hE2 hs0 hs1 ht0 ht1 ⊢
  repeat' (conv => whnf
           first | refine ArOb.fits (by first | omega | (simp only [ints_len] at *; omega)) ?_ | refine LitOb.vec ?_ | refine MakeOb.vec ?_ | refine AllocOb.box ?_ | refine AsgOb.vec ?_ | refine AggOb.mk (by decide +kernel) ?_ | refine ArU.fits (by first | omega | (simp only [ints_len] at *; omega)) ?_ | refine ArB.fits (by first | omega | (simp only [ints_len] at *; omega)) ?_ | refine CutOb.split ?_ | refine Gh.mk [] ?_ | refine And.intro (And.intro (by (simp only [List.length_append, List.length_take, List.length_drop, List.length_cons, List.length_nil, ints_len, List.length_replicate, pks_len, Go.Cv.vals_len]; omega)) (by (simp only [List.length_append, List.length_take, List.length_drop, List.length_cons, List.length_nil, ints_len, List.length_replicate, pks_len, Go.Cv.vals_len]; omega))) ?_ | refine ⟨_, _, rfl, ints_get (by first | omega | (simp only [ints_len] at *; omega)), ?_⟩ | refine ⟨_, _, (Int.toNat_of_nonneg (by first | omega | (simp only [ints_len] at *; omega))).symm, ints_get (by first | omega | (simp only [ints_len] at *; omega)), ?_⟩ | refine DrawOb.mk [] (.qs [0, 1, 2, 3, 4, 5, 6, 7, 8, 9, 10, 11, 12, 13, 14, 15, 16, 17, 18, 19] .nil) (by decide +kernel) ?_ | fail)
  all_goals try (conv => whnf)
  refine CondOb.mk (fun hlt => ?_) (fun hlt => ?_)
  · obtain ⟨i, hi⟩ : ∃ i : Nat, (R.length : Int) - 1 - m = i := ⟨R.length - 1 - m, by omega⟩
    obtain ⟨g1, g2⟩ := tms_get (R := R) (m := m) (i := i) (by omega)
    have hd : R.drop m = R.getD m (0, 0) :: R.drop (m + 1) := by
      rw [List.drop_eq_getElem_cons (by omega), List.getD_eq_getElem?_getD, List.getElem?_eq_getElem (by omega)]; rfl
    have hmem : R.getD m (0, 0) ∈ R := by
      rw [List.getD_eq_getElem?_getD, List.getElem?_eq_getElem (by omega)]; exact List.getElem_mem _
    have hb := hR.b _ hmem
    have hdb : 0 ≤ sumA (fun z : Int × Int => z.2) (R.drop (m + 1)) := by
      have h : ∀ l : List (Int × Int), (∀ z ∈ l, 0 ≤ z.2) → 0 ≤ sumA (fun z : Int × Int => z.2) l := by
        intro l
        induction l with
        | nil => intro _; exact Int.le_refl _
        | cons z l ih => intro h; have := ih fun w hw => h w (List.mem_cons_of_mem _ hw); have := h z (by simp); simp only [sumA]; omega
      exact h _ fun z hz => (hR.b z (List.mem_of_mem_drop hz)).2.2
    rw [hd] at hE2 hs1
    simp only [sumA] at hs1
    generalize R.getD m (0, 0) = y at *
    obtain ⟨y1, y2⟩ := y
    dsimp only at *
    have cR := Reach_ok f vf (sum + y2) (by omega)
    simp only [erl] at hE2
    repeat' (conv => whnf
             first | refine ⟨_, g2, ?_⟩ | refine ⟨i, by omega, by omega, ?_⟩ | (refine CondOb.mk (fun _ => ?_) (fun _ => ?_) <;> first | (exfalso; omega) | skip) | refine ArOb.fits (by first | omega | (simp only [ints_len] at *; omega)) ?_ | refine LitOb.vec ?_ | refine MakeOb.vec ?_ | refine AllocOb.box ?_ | refine AsgOb.vec ?_ | refine AggOb.mk (by decide +kernel) ?_ | refine ArU.fits (by first | omega | (simp only [ints_len] at *; omega)) ?_ | refine ArB.fits (by first | omega | (simp only [ints_len] at *; omega)) ?_ | refine CutOb.split ?_ | refine Gh.mk [] ?_ | refine And.intro (And.intro (by (simp only [List.length_append, List.length_take, List.length_drop, List.length_cons, List.length_nil, ints_len, List.length_replicate, pks_len, Go.Cv.vals_len]; omega)) (by (simp only [List.length_append, List.length_take, List.length_drop, List.length_cons, List.length_nil, ints_len, List.length_replicate, pks_len, Go.Cv.vals_len]; omega))) ?_ | refine ⟨_, _, rfl, ints_get (by first | omega | (simp only [ints_len] at *; omega)), ?_⟩ | refine ⟨_, _, (Int.toNat_of_nonneg (by first | omega | (simp only [ints_len] at *; omega))).symm, ints_get (by first | omega | (simp only [ints_len] at *; omega)), ?_⟩ | refine DrawOb.mk [] (.qs [0, 1, 2, 3, 4, 5, 6, 7, 8, 9, 10, 11, 12, 13, 14, 15, 16, 17, 18, 19] .nil) (by decide +kernel) ?_ | fail)
    all_goals try (conv => whnf)
    refine CallOb.mk [] cR rfl (ImpL.refl _) rfl rfl ?_
    rintro _ _ ⟨x, hx, rfl, rfl⟩
    rcases hx with ⟨k, hk, hrk, rfl⟩ | ⟨hrk, rfl⟩
    · rw [hrk] at hE2
      dsimp only at hE2 ⊢
      repeat' (conv => whnf
               first | refine ⟨_, g1, ?_⟩ | refine ⟨i, by omega, by omega, ?_⟩ | (refine CondOb.mk (fun _ => ?_) (fun _ => ?_) <;> first | (exfalso; omega) | skip) | refine ArOb.fits (by first | omega | (simp only [ints_len] at *; omega)) ?_ | refine LitOb.vec ?_ | refine MakeOb.vec ?_ | refine AllocOb.box ?_ | refine AsgOb.vec ?_ | refine AggOb.mk (by decide +kernel) ?_ | refine ArU.fits (by first | omega | (simp only [ints_len] at *; omega)) ?_ | refine ArB.fits (by first | omega | (simp only [ints_len] at *; omega)) ?_ | refine CutOb.split ?_ | refine Gh.mk [] ?_ | refine And.intro (And.intro (by (simp only [List.length_append, List.length_take, List.length_drop, List.length_cons, List.length_nil, ints_len, List.length_replicate, pks_len, Go.Cv.vals_len]; omega)) (by (simp only [List.length_append, List.length_take, List.length_drop, List.length_cons, List.length_nil, ints_len, List.length_replicate, pks_len, Go.Cv.vals_len]; omega))) ?_ | refine ⟨_, _, rfl, ints_get (by first | omega | (simp only [ints_len] at *; omega)), ?_⟩ | refine ⟨_, _, (Int.toNat_of_nonneg (by first | omega | (simp only [ints_len] at *; omega))).symm, ints_get (by first | omega | (simp only [ints_len] at *; omega)), ?_⟩ | refine DrawOb.mk [] (.qs [0, 1, 2, 3, 4, 5, 6, 7, 8, 9, 10, 11, 12, 13, 14, 15, 16, 17, 18, 19] .nil) (by decide +kernel) ?_ | fail)
      all_goals try (conv => whnf)
      exact ⟨(m + 1, sum + y2, max (max tt y1) (y1 + k - 1)), [0, 1, 2], ⟨by dsimp only; omega, hE2, ⟨by dsimp only; omega, by dsimp only; omega⟩, by dsimp only; omega⟩, by dsimp only; omega, by dsimp only; (refine Le.mk (by kernel_rfl) ?_ ?_ <;> repeat' (first | exact True.intro | refine And.intro ?_ ?_ | exact Imp.refl _ | exact Imp.any _ | exact Imp.num (by first | omega | simp only [ints_len]) | exact rfl | exact Imp.bl (by simp)))⟩
    · rw [hrk] at hE2
      dsimp only at hE2 ⊢
      repeat' (conv => whnf
               first | (refine CondOb.mk (fun _ => ?_) (fun _ => ?_) <;> first | (exfalso; omega) | skip) | refine ArOb.fits (by first | omega | (simp only [ints_len] at *; omega)) ?_ | refine LitOb.vec ?_ | refine MakeOb.vec ?_ | refine AllocOb.box ?_ | refine AsgOb.vec ?_ | refine AggOb.mk (by decide +kernel) ?_ | refine ArU.fits (by first | omega | (simp only [ints_len] at *; omega)) ?_ | refine ArB.fits (by first | omega | (simp only [ints_len] at *; omega)) ?_ | refine CutOb.split ?_ | refine Gh.mk [] ?_ | refine And.intro (And.intro (by (simp only [List.length_append, List.length_take, List.length_drop, List.length_cons, List.length_nil, ints_len, List.length_replicate, pks_len, Go.Cv.vals_len]; omega)) (by (simp only [List.length_append, List.length_take, List.length_drop, List.length_cons, List.length_nil, ints_len, List.length_replicate, pks_len, Go.Cv.vals_len]; omega))) ?_ | refine ⟨_, _, rfl, ints_get (by first | omega | (simp only [ints_len] at *; omega)), ?_⟩ | refine ⟨_, _, (Int.toNat_of_nonneg (by first | omega | (simp only [ints_len] at *; omega))).symm, ints_get (by first | omega | (simp only [ints_len] at *; omega)), ?_⟩ | refine DrawOb.mk [] (.qs [0, 1, 2, 3, 4, 5, 6, 7, 8, 9, 10, 11, 12, 13, 14, 15, 16, 17, 18, 19] .nil) (by decide +kernel) ?_ | fail)
      all_goals try (conv => whnf)
      exact ⟨(0, false), .inr ⟨hE2.symm, rfl⟩, rfl, Imp.refl _⟩
  · have e : m = R.length := by omega
    subst e
    rw [List.drop_length] at hE2
    repeat' (conv => whnf
             first | (refine CondOb.mk (fun _ => ?_) (fun _ => ?_) <;> first | (exfalso; omega) | skip) | refine ArOb.fits (by first | omega | (simp only [ints_len] at *; omega)) ?_ | refine LitOb.vec ?_ | refine MakeOb.vec ?_ | refine AllocOb.box ?_ | refine AsgOb.vec ?_ | refine AggOb.mk (by decide +kernel) ?_ | refine ArU.fits (by first | omega | (simp only [ints_len] at *; omega)) ?_ | refine ArB.fits (by first | omega | (simp only [ints_len] at *; omega)) ?_ | refine CutOb.split ?_ | refine Gh.mk [] ?_ | refine And.intro (And.intro (by (simp only [List.length_append, List.length_take, List.length_drop, List.length_cons, List.length_nil, ints_len, List.length_replicate, pks_len, Go.Cv.vals_len]; omega)) (by (simp only [List.length_append, List.length_take, List.length_drop, List.length_cons, List.length_nil, ints_len, List.length_replicate, pks_len, Go.Cv.vals_len]; omega))) ?_ | refine ⟨_, _, rfl, ints_get (by first | omega | (simp only [ints_len] at *; omega)), ?_⟩ | refine ⟨_, _, (Int.toNat_of_nonneg (by first | omega | (simp only [ints_len] at *; omega))).symm, ints_get (by first | omega | (simp only [ints_len] at *; omega)), ?_⟩ | refine DrawOb.mk [] (.qs [0, 1, 2, 3, 4, 5, 6, 7, 8, 9, 10, 11, 12, 13, 14, 15, 16, 17, 18, 19] .nil) (by decide +kernel) ?_ | fail)
    all_goals try (conv => whnf)
    exact ⟨(tt, true), .inl ⟨tt, hE2.symm, ⟨ht0, ht1⟩, rfl⟩, rfl, Imp.refl _⟩
theorem add_ok (f : C3) (T S : List Int) (t s : Int) (hT : T.length ≤ 100) (hS : S.length ≤ 100) :
    Ctr Try.prog 47 [.ptr 0 0, i64 t, i64 s] [runB f (.vec 1) (.vec 2), .vec 1 (ints T), .vec 1 (ints S)] (fun r o => o = [runB f (.vec 3) (.vec 4), .dead, .dead, .vec 1 (ints T ++ [[i64 t]]), .vec 1 (ints S ++ [[i64 s]])] ∧ r = .tup []) := by
  refine fn_intro (E := env 3) tys_ok rfl rfl rfl Try.func47 (by kernel_rfl) rfl (by kernel_rfl) ?_
  have hl1 := ints_len T
  have hl2 := ints_len S
  repeat' (conv => whnf
           first | refine LitOb.ful ?_ | (refine CondOb.mk (fun _ => ?_) (fun _ => ?_) <;> first | (exfalso; omega) | skip) | refine ArOb.fits (by first | omega | (simp only [ints_len] at *; omega)) ?_ | refine LitOb.vec ?_ | refine MakeOb.vec ?_ | refine AllocOb.box ?_ | refine AsgOb.vec ?_ | refine AggOb.mk (by decide +kernel) ?_ | refine ArU.fits (by first | omega | (simp only [ints_len] at *; omega)) ?_ | refine ArB.fits (by first | omega | (simp only [ints_len] at *; omega)) ?_ | refine CutOb.split ?_ | refine Gh.mk [] ?_ | refine And.intro (And.intro (by (simp only [List.length_append, List.length_take, List.length_drop, List.length_cons, List.length_nil, ints_len, List.length_replicate, pks_len, Go.Cv.vals_len]; omega)) (by (simp only [List.length_append, List.length_take, List.length_drop, List.length_cons, List.length_nil, ints_len, List.length_replicate, pks_len, Go.Cv.vals_len]; omega))) ?_ | refine ⟨_, _, rfl, ints_get (by first | omega | (simp only [ints_len] at *; omega)), ?_⟩ | refine ⟨_, _, (Int.toNat_of_nonneg (by first | omega | (simp only [ints_len] at *; omega))).symm, ints_get (by first | omega | (simp only [ints_len] at *; omega)), ?_⟩ | refine DrawOb.mk [] (.qs [0, 1, 2, 3, 4, 5, 6, 9, 10, 11, 12, 13] (.l 7 [12, 5] (.l 8 [12] (.l 14 [12] (.l 15 [] (.qs [16, 17] (.l 18 [] (.qs [19, 20] (.l 21 [] .nil .no)) .no)) .no) .no) (.l 14 [12, 5] (.l 8 [12] (.l 15 [] (.qs [16, 17] (.l 18 [] (.qs [19, 20] (.l 21 [] .nil .no)) .no)) .no) .no) .no)) (.l 14 [12, 5] (.l 7 [12, 5] (.l 8 [12] (.l 15 [] (.qs [16, 17] (.l 18 [] (.qs [19, 20] (.l 21 [] .nil .no)) .no)) .no) .no) .no) .no))) (by decide +kernel) ?_ | refine And.intro ?_ ?_ | fail)
  all_goals try (conv => whnf)
  all_goals rfl
end Go.Proofs.Ytabbnnfobjifiaa
