/-
  A text of the proofs of this seat: lemmas that the statements' proofs use; it states nothing of the program by itself beyond the contracts that its theorems bear. Conditions: those that stand in each theorem. Its short name: A8.
-/
import Derived.Test.YtlnpbgjoccipaaaG2
import Derived.Test.YtlnpbgjoccipaaaA5
import Derived.Test.YtlnpbgjoccipaaaTf
import Derived.Test.YtlnpbgjoccipaaaFw
import Derived.Test.YtlnpbgjoccipaaaPl
set_option linter.unusedVariables false
set_option linter.unusedSimpArgs false
namespace Go.Proofs.Ytlnpbgjoccipaaa
open Go.Sx Go.Pk Go.Cv Go.St
set_option maxRecDepth 8000
set_option maxHeartbeats 2000000
--APPX pks_len, avs_len
theorem arS_dnS (p : List Pk) (d : List Int) (n : Int) : ∀ i, arS p d n i = dnS p d n i
  | 0 => rfl
  | i + 1 => by simp only [arS, dnS]; rw [arS_dnS p d n i]
theorem hop_cases {f : C3} {m : Int} {x1 : List Int} {x2 x3 x4 : Int} (h : HopR f m (x1, x2, x3, x4)) : (∃ c : C3, VC c ∧ (∀ t, cv c t = hpf f m t) ∧ x1 = c.1 ∧ x2 = c.2.1 ∧ x3 = c.2.2 ∧ x4 = 0) ∨ (x1 = [] ∧ x2 = 0 ∧ x3 = 0 ∧ x4 = 3) := by
  rcases h with ⟨_, he⟩ | ⟨_, h⟩
  · cases he; exact .inr ⟨rfl, rfl, rfl, rfl⟩
  · rcases h with ⟨vs, p, q, h1, h2, he⟩ | ⟨_, he⟩
    · cases he; exact .inl ⟨(x1, p, x3), h2, h2.sound h1, rfl, rfl, rfl, rfl⟩
    · cases he; exact .inr ⟨rfl, rfl, rfl, rfl⟩
theorem ints_app8 (l : List Int) (v : Int) : ints (l ++ [v]) = ints l ++ [[i64 v]] := by simp [ints]
theorem ints_set8 (l : List Int) (j : Nat) (v : Int) : ints (l.set j v) = (ints l).set j [i64 v] := by simp [ints, List.map_set]
theorem ptm0 {p : List Pk} (hv : Vld p) : ∀ x ∈ p, 0 ≤ x.t := fun x hx => by have := hv.mem x hx; unfold bad at this; omega
theorem Serves_ok (l : List Int) (hl : l.length ≤ 9223372036854775807) : Ctr Try.prog 8 [.psl 1 (ints l)] [] (fun r o => r = .bl true) := by
  refine fn_intro (E := env 0) tys_ok rfl rfl rfl Try.func8 (by kernel_rfl) rfl (by kernel_rfl) ?_
  have hL : (l.take 2000).length ≤ 2000 := by rw [List.length_take]; omega
  repeat' (conv => whnf
           first | (refine CondOb.mk (fun _ => ?_) (fun _ => ?_) <;> first | (exfalso; omega) | skip) | refine ArOb.fits (by first | omega | (simp only [ints_len] at *; omega)) ?_ | refine LitOb.vec ?_ | refine MakeOb.vec ?_ | refine AllocOb.box ?_ | refine AsgOb.vec ?_ | refine AggOb.mk (by decide +kernel) ?_ | refine ArU.fits (by first | omega | (simp only [ints_len] at *; omega)) ?_ | refine ArB.fits (by first | omega | (simp only [ints_len] at *; omega)) ?_ | refine CutOb.split ?_ | refine Gh.mk [] ?_ | refine And.intro (And.intro (by (simp only [List.length_append, List.length_take, List.length_drop, List.length_cons, List.length_nil, ints_len, List.length_replicate, pks_len, avs_len]; omega)) (by (simp only [List.length_append, List.length_take, List.length_drop, List.length_cons, List.length_nil, ints_len, List.length_replicate, pks_len, avs_len]; omega))) ?_ | refine ⟨_, _, rfl, ints_get (by first | omega | (simp only [ints_len] at *; omega)), ?_⟩ | refine ⟨_, _, (Int.toNat_of_nonneg (by first | omega | (simp only [ints_len] at *; omega))).symm, ints_get (by first | omega | (simp only [ints_len] at *; omega)), ?_⟩ | refine DrawOb.mk [] (.qs [0, 1, 2, 4, 5, 6, 7] (.l 3 [4] (.l 8 [] (.qs [9, 10, 11] .nil) .no) .no)) (by decide +kernel) ?_ | refine DrawOb.mk [] (.qs [0, 1, 2, 4, 5, 6, 7] (.l 3 [4] (.l 8 [] (.qs [9, 10, 11] .nil) .no) .no)) (by decide +kernel) ?_ | (refine CallOb.mk [] (New_ok l hl) rfl (ImpL.refl _) rfl rfl ?_; rintro _ _ ⟨rfl, rfl⟩) | fail)
  all_goals try (conv => whnf)
  refine CallOb.mk [0] (Traffic_ok _ 0 hL (by omega) 9 (by omega) 1 12 (by omega) (by omega)) rfl (ImpL.refl _) rfl rfl ?_
  rintro _ _ ⟨⟨⟨p, tp⟩, k1⟩, ⟨⟨hP, hpl⟩, hk1⟩, rfl, rfl⟩
  dsimp only at hP hpl hk1 ⊢
  have hV := hP.vld (by decide) (by decide) (by omega)
  have hpp := pks_len p
  repeat' (conv => whnf
           first | (refine CondOb.mk (fun _ => ?_) (fun _ => ?_) <;> first | (exfalso; omega) | skip) | refine ArOb.fits (by first | omega | (simp only [ints_len] at *; omega)) ?_ | refine LitOb.vec ?_ | refine MakeOb.vec ?_ | refine AllocOb.box ?_ | refine AsgOb.vec ?_ | refine AggOb.mk (by decide +kernel) ?_ | refine ArU.fits (by first | omega | (simp only [ints_len] at *; omega)) ?_ | refine ArB.fits (by first | omega | (simp only [ints_len] at *; omega)) ?_ | refine CutOb.split ?_ | refine Gh.mk [] ?_ | refine And.intro (And.intro (by (simp only [List.length_append, List.length_take, List.length_drop, List.length_cons, List.length_nil, ints_len, List.length_replicate, pks_len, avs_len]; omega)) (by (simp only [List.length_append, List.length_take, List.length_drop, List.length_cons, List.length_nil, ints_len, List.length_replicate, pks_len, avs_len]; omega))) ?_ | refine ⟨_, _, rfl, ints_get (by first | omega | (simp only [ints_len] at *; omega)), ?_⟩ | refine ⟨_, _, (Int.toNat_of_nonneg (by first | omega | (simp only [ints_len] at *; omega))).symm, ints_get (by first | omega | (simp only [ints_len] at *; omega)), ?_⟩ | refine DrawOb.mk [] (.qs [0, 1, 2, 4, 5, 6, 7] (.l 3 [4] (.l 8 [] (.qs [9, 10, 11] .nil) .no) .no)) (by decide +kernel) ?_ | refine DrawOb.mk [] (.qs [0, 1, 2, 4, 5, 6, 7] (.l 3 [4] (.l 8 [] (.qs [9, 10, 11] .nil) .no) .no)) (by decide +kernel) ?_ | fail)
  all_goals try (conv => whnf)
  refine CallOb.mk [0] (Ctr.impE (Zero_ok _ k1 hL hk1 5 (by omega) (by omega))) rfl (ImpL.refl _) rfl rfl ?_
  rintro _ _ ⟨⟨f, k2⟩, ⟨hf, hk2⟩, rfl, rfl⟩
  dsimp only at hf hk2 ⊢
  have vf := hf.v
  have ff := hf.f
  have hf0 : cv f 0 = 0 := by
    obtain ⟨a, na, hz⟩ := hf.n
    rw [← na.cv]; exact hz.z
  repeat' (conv => whnf
           first | (refine CondOb.mk (fun _ => ?_) (fun _ => ?_) <;> first | (exfalso; omega) | skip) | refine ArOb.fits (by first | omega | (simp only [ints_len] at *; omega)) ?_ | refine LitOb.vec ?_ | refine MakeOb.vec ?_ | refine AllocOb.box ?_ | refine AsgOb.vec ?_ | refine AggOb.mk (by decide +kernel) ?_ | refine ArU.fits (by first | omega | (simp only [ints_len] at *; omega)) ?_ | refine ArB.fits (by first | omega | (simp only [ints_len] at *; omega)) ?_ | refine CutOb.split ?_ | refine Gh.mk [] ?_ | refine And.intro (And.intro (by (simp only [List.length_append, List.length_take, List.length_drop, List.length_cons, List.length_nil, ints_len, List.length_replicate, pks_len, avs_len]; omega)) (by (simp only [List.length_append, List.length_take, List.length_drop, List.length_cons, List.length_nil, ints_len, List.length_replicate, pks_len, avs_len]; omega))) ?_ | refine ⟨_, _, rfl, ints_get (by first | omega | (simp only [ints_len] at *; omega)), ?_⟩ | refine ⟨_, _, (Int.toNat_of_nonneg (by first | omega | (simp only [ints_len] at *; omega))).symm, ints_get (by first | omega | (simp only [ints_len] at *; omega)), ?_⟩ | refine DrawOb.mk [] (.qs [0, 1, 2, 4, 5, 6, 7] (.l 3 [4] (.l 8 [] (.qs [9, 10, 11] .nil) .no) .no)) (by decide +kernel) ?_ | refine DrawOb.mk [] (.qs [0, 1, 2, 4, 5, 6, 7] (.l 3 [4] (.l 8 [] (.qs [9, 10, 11] .nil) .no) .no)) (by decide +kernel) ?_ | fail)
  all_goals try (conv => whnf)
  refine LoopOb.mk (Y := Nat) (st := fun i => ⟨[(36, i64 i), (35, i64 (pks p).length), (34, .psl 3 (pks p)), (6, i64 (max 1 (msL p i))), (5, .ptr 1 0), (4, .psl 3 (pks p)), (3, .ptr 0 0)], [src (l.take 2000) k2, .box [.psl 1 (ints f.1), i64 f.2.1, i64 f.2.2]]⟩)
    (inv := fun i => i ≤ p.length) (fun i => p.length - i) 0 [0, 1] (by omega) (by (refine Le.mk (by kernel_rfl) ?_ ?_ <;> repeat' (first | exact True.intro | refine And.intro ?_ ?_ | exact Imp.refl _ | exact Imp.any _ | exact Imp.num (by first | omega | simp only [ints_len]) | exact rfl | exact Imp.bl (by simp)))) ?_
  intro i hi
  repeat' (conv => whnf
           first | refine ArOb.fits (by first | omega | (simp only [ints_len] at *; omega)) ?_ | refine LitOb.vec ?_ | refine MakeOb.vec ?_ | refine AllocOb.box ?_ | refine AsgOb.vec ?_ | refine AggOb.mk (by decide +kernel) ?_ | refine ArU.fits (by first | omega | (simp only [ints_len] at *; omega)) ?_ | refine ArB.fits (by first | omega | (simp only [ints_len] at *; omega)) ?_ | refine CutOb.split ?_ | refine Gh.mk [] ?_ | refine And.intro (And.intro (by (simp only [List.length_append, List.length_take, List.length_drop, List.length_cons, List.length_nil, ints_len, List.length_replicate, pks_len, avs_len]; omega)) (by (simp only [List.length_append, List.length_take, List.length_drop, List.length_cons, List.length_nil, ints_len, List.length_replicate, pks_len, avs_len]; omega))) ?_ | refine ⟨_, _, rfl, ints_get (by first | omega | (simp only [ints_len] at *; omega)), ?_⟩ | refine ⟨_, _, (Int.toNat_of_nonneg (by first | omega | (simp only [ints_len] at *; omega))).symm, ints_get (by first | omega | (simp only [ints_len] at *; omega)), ?_⟩ | refine DrawOb.mk [] (.qs [0, 1, 2, 4, 5, 6, 7] (.l 3 [4] (.l 8 [] (.qs [9, 10, 11] .nil) .no) .no)) (by decide +kernel) ?_ | refine DrawOb.mk [] (.qs [0, 1, 2, 4, 5, 6, 7] (.l 3 [4] (.l 8 [] (.qs [9, 10, 11] .nil) .no) .no)) (by decide +kernel) ?_ | fail)
  all_goals try (conv => whnf)
  refine CondOb.mk (fun hlt => ?_) (fun hlt => ?_)
  · have hil : i < p.length := by omega
    have hg := pks_get hil
    have e : msL p (i + 1) = max (msL p i) (p.getD i pk0).s := rfl
    generalize p.getD i pk0 = x at *
    repeat' (conv => whnf
             first | refine ⟨i, _, rfl, hg, ?_⟩ | (refine CondOb.mk (fun _ => ?_) (fun _ => ?_) <;> first | (exfalso; omega) | skip) | refine ArOb.fits (by first | omega | (simp only [ints_len] at *; omega)) ?_ | refine LitOb.vec ?_ | refine MakeOb.vec ?_ | refine AllocOb.box ?_ | refine AsgOb.vec ?_ | refine AggOb.mk (by decide +kernel) ?_ | refine ArU.fits (by first | omega | (simp only [ints_len] at *; omega)) ?_ | refine ArB.fits (by first | omega | (simp only [ints_len] at *; omega)) ?_ | refine CutOb.split ?_ | refine Gh.mk [] ?_ | refine And.intro (And.intro (by (simp only [List.length_append, List.length_take, List.length_drop, List.length_cons, List.length_nil, ints_len, List.length_replicate, pks_len, avs_len]; omega)) (by (simp only [List.length_append, List.length_take, List.length_drop, List.length_cons, List.length_nil, ints_len, List.length_replicate, pks_len, avs_len]; omega))) ?_ | refine ⟨_, _, rfl, ints_get (by first | omega | (simp only [ints_len] at *; omega)), ?_⟩ | refine ⟨_, _, (Int.toNat_of_nonneg (by first | omega | (simp only [ints_len] at *; omega))).symm, ints_get (by first | omega | (simp only [ints_len] at *; omega)), ?_⟩ | refine DrawOb.mk [] (.qs [0, 1, 2, 4, 5, 6, 7] (.l 3 [4] (.l 8 [] (.qs [9, 10, 11] .nil) .no) .no)) (by decide +kernel) ?_ | refine DrawOb.mk [] (.qs [0, 1, 2, 4, 5, 6, 7] (.l 3 [4] (.l 8 [] (.qs [9, 10, 11] .nil) .no) .no)) (by decide +kernel) ?_ | fail)
    all_goals try (conv => whnf)
    exact ⟨i + 1, [0, 1], by omega, by omega, by rw [e]; (refine Le.mk (by kernel_rfl) ?_ ?_ <;> repeat' (first | exact True.intro | refine And.intro ?_ ?_ | exact Imp.refl _ | exact Imp.any _ | exact Imp.num (by first | omega | simp only [ints_len]) | exact rfl | exact Imp.bl (by simp)))⟩
  have e : i = p.length := by omega
  subst e
  have hms := msL_mem (p := p)
  have hmb : msL p p.length ≤ 12 := by
    suffices h : ∀ j, j ≤ p.length → msL p j ≤ 12 from h _ (Nat.le_refl _)
    intro j
    induction j with
    | zero => intro _; simp [msL]
    | succ j ih =>
      intro hj
      have := ih (by omega)
      have := (hP.b _ (getD_memP (l := p) (i := j) (by omega))).2.2.2.1
      simp only [msL]; omega
  obtain ⟨mo, hmo⟩ : ∃ mo, max 1 (msL p p.length) = mo := ⟨_, rfl⟩
  have hmo1 : 1 ≤ mo ∧ mo ≤ 12 := by omega
  have hms2 : ∀ x ∈ p, x.s ≤ mo := fun x hx => by have := hms x hx; omega
  rw [hmo]
  clear hms hmb hmo hi hlt
  have cH := spl4 (Hop_ok f vf mo (by omega))
  repeat' (conv => whnf
           first | (refine CondOb.mk (fun _ => ?_) (fun _ => ?_) <;> first | (exfalso; omega) | skip) | refine ArOb.fits (by first | omega | (simp only [ints_len] at *; omega)) ?_ | refine LitOb.vec ?_ | refine MakeOb.vec ?_ | refine AllocOb.box ?_ | refine AsgOb.vec ?_ | refine AggOb.mk (by decide +kernel) ?_ | refine ArU.fits (by first | omega | (simp only [ints_len] at *; omega)) ?_ | refine ArB.fits (by first | omega | (simp only [ints_len] at *; omega)) ?_ | refine CutOb.split ?_ | refine Gh.mk [] ?_ | refine And.intro (And.intro (by (simp only [List.length_append, List.length_take, List.length_drop, List.length_cons, List.length_nil, ints_len, List.length_replicate, pks_len, avs_len]; omega)) (by (simp only [List.length_append, List.length_take, List.length_drop, List.length_cons, List.length_nil, ints_len, List.length_replicate, pks_len, avs_len]; omega))) ?_ | refine ⟨_, _, rfl, ints_get (by first | omega | (simp only [ints_len] at *; omega)), ?_⟩ | refine ⟨_, _, (Int.toNat_of_nonneg (by first | omega | (simp only [ints_len] at *; omega))).symm, ints_get (by first | omega | (simp only [ints_len] at *; omega)), ?_⟩ | refine DrawOb.mk [] (.qs [0, 1, 2, 4, 5, 6, 7] (.l 3 [4] (.l 8 [] (.qs [9, 10, 11] .nil) .no) .no)) (by decide +kernel) ?_ | refine DrawOb.mk [] (.qs [0, 1, 2, 4, 5, 6, 7] (.l 3 [4] (.l 8 [] (.qs [9, 10, 11] .nil) .no) .no)) (by decide +kernel) ?_ | fail)
  all_goals try (conv => whnf)
  refine CallOb.mk [] cH rfl (ImpL.refl _) rfl rfl ?_
  rintro _ _ ⟨x1, x2, x3, x4, hx, rfl, rfl⟩
  rcases hop_cases hx with ⟨c, vc, hc, rfl, rfl, rfl, rfl⟩ | ⟨rfl, rfl, rfl, rfl⟩
  · have fc : FinC c := fin_of fun t h => by
      have := (hop_inf vf vc hmo1.1 hc t).1 h
      exact ff.not vf _ this.2
    have hH0 : cv c 0 = 0 := by rw [hc]; rfl
    have hH1 : ∀ k, cv c (k + 1) = max 0 (cv f k - (mo - 1)) := fun k => by
      rw [hc]; unfold hpf
      rw [if_neg (by omega), Nat.add_sub_cancel, if_neg (ff.not vf _)]
    have hdl : (ints (List.replicate p.length (-1))).length = p.length := by simp
    have hz0 : List.replicate (pks p).length ([i64 0] : List SV) = prt (ints (List.replicate p.length (-1))) 0 [i64 0] := by rw [prt_zero, hdl, hpp]
    repeat' (conv => whnf
             first | (refine CondOb.mk (fun _ => ?_) (fun _ => ?_) <;> first | (exfalso; omega) | skip) | refine ArOb.fits (by first | omega | (simp only [ints_len] at *; omega)) ?_ | refine LitOb.vec ?_ | refine MakeOb.vec ?_ | refine AllocOb.box ?_ | refine AsgOb.vec ?_ | refine AggOb.mk (by decide +kernel) ?_ | refine ArU.fits (by first | omega | (simp only [ints_len] at *; omega)) ?_ | refine ArB.fits (by first | omega | (simp only [ints_len] at *; omega)) ?_ | refine CutOb.split ?_ | refine Gh.mk [] ?_ | refine And.intro (And.intro (by (simp only [List.length_append, List.length_take, List.length_drop, List.length_cons, List.length_nil, ints_len, List.length_replicate, pks_len, avs_len]; omega)) (by (simp only [List.length_append, List.length_take, List.length_drop, List.length_cons, List.length_nil, ints_len, List.length_replicate, pks_len, avs_len]; omega))) ?_ | refine ⟨_, _, rfl, ints_get (by first | omega | (simp only [ints_len] at *; omega)), ?_⟩ | refine ⟨_, _, (Int.toNat_of_nonneg (by first | omega | (simp only [ints_len] at *; omega))).symm, ints_get (by first | omega | (simp only [ints_len] at *; omega)), ?_⟩ | refine DrawOb.mk [] (.qs [0, 1, 2, 4, 5, 6, 7] (.l 3 [4] (.l 8 [] (.qs [9, 10, 11] .nil) .no) .no)) (by decide +kernel) ?_ | refine DrawOb.mk [] (.qs [0, 1, 2, 4, 5, 6, 7] (.l 3 [4] (.l 8 [] (.qs [9, 10, 11] .nil) .no) .no)) (by decide +kernel) ?_ | fail)
    all_goals try (conv => whnf)
    refine DrawOb.cut [] (.qs [1, 2] (.l 0 [] (.qs [4] (.l 3 [] (.qs [5] .nil) .no)) (.l 3 [] (.l 0 [] (.qs [4, 5] .nil) .no) .no))) (Y := Unit) (st := fun _ => ⟨[(12, .vec 1), (11, .vec 2), (9, .ptr 4 0), (5, .ptr 3 0), (4, .psl 3 (pks p)), (3, .ptr 0 0)], [src (l.take 2000) k2, .vec 1 (prt (ints (List.replicate p.length (-1))) 0 [i64 0]), .vec 1 (ints [0]), .box [.psl 1 (ints f.1), i64 f.2.1, i64 f.2.2], .box [.psl 1 (ints c.1), i64 c.2.1, i64 c.2.2]]⟩) (inv := fun _ => True) (by decide +kernel) ?_ ?_
    · repeat' (conv => whnf
               first | (refine CondOb.mk (fun _ => ?_) (fun _ => ?_) <;> first | (exfalso; omega) | skip) | refine ArOb.fits (by first | omega | (simp only [ints_len] at *; omega)) ?_ | refine LitOb.vec ?_ | refine MakeOb.vec ?_ | refine AllocOb.box ?_ | refine AsgOb.vec ?_ | refine AggOb.mk (by decide +kernel) ?_ | refine ArU.fits (by first | omega | (simp only [ints_len] at *; omega)) ?_ | refine ArB.fits (by first | omega | (simp only [ints_len] at *; omega)) ?_ | refine CutOb.split ?_ | refine Gh.mk [] ?_ | refine And.intro (And.intro (by (simp only [List.length_append, List.length_take, List.length_drop, List.length_cons, List.length_nil, ints_len, List.length_replicate, pks_len, avs_len]; omega)) (by (simp only [List.length_append, List.length_take, List.length_drop, List.length_cons, List.length_nil, ints_len, List.length_replicate, pks_len, avs_len]; omega))) ?_ | refine ⟨_, _, rfl, ints_get (by first | omega | (simp only [ints_len] at *; omega)), ?_⟩ | refine ⟨_, _, (Int.toNat_of_nonneg (by first | omega | (simp only [ints_len] at *; omega))).symm, ints_get (by first | omega | (simp only [ints_len] at *; omega)), ?_⟩ | refine ⟨_, _, rfl, rfl, Nat.le_refl _, ⟨by (simp only; omega), by omega⟩, ?_⟩ | refine DrawOb.mk [] (.qs [0, 1, 2, 4, 5, 6, 7] (.l 3 [4] (.l 8 [] (.qs [9, 10, 11] .nil) .no) .no)) (by decide +kernel) ?_ | refine DrawOb.mk [] (.qs [0, 1, 2, 4, 5, 6, 7] (.l 3 [4] (.l 8 [] (.qs [9, 10, 11] .nil) .no) .no)) (by decide +kernel) ?_ | refine And.intro ?_ ?_ | fail)
      all_goals try (conv => whnf)
      all_goals first
        | (refine ⟨(), [0, 4, 3, 1, 2], trivial, ?_⟩; dsimp only; rw [← hz0]; (refine Le.mk (by kernel_rfl) ?_ ?_ <;> repeat' (first | exact True.intro | refine And.intro ?_ ?_ | exact Imp.refl _ | exact Imp.any _ | exact Imp.num (by first | omega | simp only [ints_len]) | exact rfl | exact Imp.bl (by simp))); done)
        | (refine ⟨(), [0, 3, 4, 1, 2], trivial, ?_⟩; dsimp only; rw [← hz0]; (refine Le.mk (by kernel_rfl) ?_ ?_ <;> repeat' (first | exact True.intro | refine And.intro ?_ ?_ | exact Imp.refl _ | exact Imp.any _ | exact Imp.num (by first | omega | simp only [ints_len]) | exact rfl | exact Imp.bl (by simp))); done)
        | trace_state
    · rintro _ _
      repeat' (conv => whnf
               first | (refine CondOb.mk (fun _ => ?_) (fun _ => ?_) <;> first | (exfalso; omega) | skip) | refine ArOb.fits (by first | omega | (simp only [ints_len] at *; omega)) ?_ | refine LitOb.vec ?_ | refine MakeOb.vec ?_ | refine AllocOb.box ?_ | refine AsgOb.vec ?_ | refine AggOb.mk (by decide +kernel) ?_ | refine ArU.fits (by first | omega | (simp only [ints_len] at *; omega)) ?_ | refine ArB.fits (by first | omega | (simp only [ints_len] at *; omega)) ?_ | refine CutOb.split ?_ | refine Gh.mk [] ?_ | refine And.intro (And.intro (by (simp only [List.length_append, List.length_take, List.length_drop, List.length_cons, List.length_nil, ints_len, List.length_replicate, pks_len, avs_len]; omega)) (by (simp only [List.length_append, List.length_take, List.length_drop, List.length_cons, List.length_nil, ints_len, List.length_replicate, pks_len, avs_len]; omega))) ?_ | refine ⟨_, _, rfl, ints_get (by first | omega | (simp only [ints_len] at *; omega)), ?_⟩ | refine ⟨_, _, (Int.toNat_of_nonneg (by first | omega | (simp only [ints_len] at *; omega))).symm, ints_get (by first | omega | (simp only [ints_len] at *; omega)), ?_⟩ | refine DrawOb.mk [] (.qs [0, 1, 2, 4, 5, 6, 7] (.l 3 [4] (.l 8 [] (.qs [9, 10, 11] .nil) .no) .no)) (by decide +kernel) ?_ | refine DrawOb.mk [] (.qs [0, 1, 2, 4, 5, 6, 7] (.l 3 [4] (.l 8 [] (.qs [9, 10, 11] .nil) .no) .no)) (by decide +kernel) ?_ | fail)
      all_goals try (conv => whnf)
      have hql0 := fun i h => prt_len (ints (List.replicate p.length (-1))) i [i64 0] h
      refine LoopOb.mk (Y := Nat) (st := fun i => ⟨[(64, i64 i), (63, i64 p.length), (12, .vec 1), (11, .vec 2), (9, .ptr 4 0), (5, .ptr 3 0), (4, .psl 3 (pks p)), (3, .ptr 0 0)], [src (l.take 2000) k2, .vec 1 (prt (ints (List.replicate p.length (-1))) i [i64 0]), .vec 1 (ints [0]), .box [.psl 1 (ints f.1), i64 f.2.1, i64 f.2.2], .box [.psl 1 (ints c.1), i64 c.2.1, i64 c.2.2]]⟩)
        (inv := fun i => i ≤ p.length) (fun i => p.length - i) 0 [0, 1, 2, 3, 4] (by omega) (by
          have h0 := hql0 0 (Nat.zero_le _)
          refine Le.mk (by kernel_rfl) ?_ ?_ <;> repeat' (first | exact True.intro | refine And.intro ?_ ?_ | exact Imp.refl _ | exact Imp.any _ | exact Imp.num (by omega) | exact rfl)) ?_
      intro i hi
      have hql := hql0 i (by omega)
      repeat' (conv => whnf
               first | refine ArOb.fits (by first | omega | (simp only [ints_len] at *; omega)) ?_ | refine LitOb.vec ?_ | refine MakeOb.vec ?_ | refine AllocOb.box ?_ | refine AsgOb.vec ?_ | refine AggOb.mk (by decide +kernel) ?_ | refine ArU.fits (by first | omega | (simp only [ints_len] at *; omega)) ?_ | refine ArB.fits (by first | omega | (simp only [ints_len] at *; omega)) ?_ | refine CutOb.split ?_ | refine Gh.mk [] ?_ | refine And.intro (And.intro (by (simp only [List.length_append, List.length_take, List.length_drop, List.length_cons, List.length_nil, ints_len, List.length_replicate, pks_len, avs_len]; omega)) (by (simp only [List.length_append, List.length_take, List.length_drop, List.length_cons, List.length_nil, ints_len, List.length_replicate, pks_len, avs_len]; omega))) ?_ | refine ⟨_, _, rfl, ints_get (by first | omega | (simp only [ints_len] at *; omega)), ?_⟩ | refine ⟨_, _, (Int.toNat_of_nonneg (by first | omega | (simp only [ints_len] at *; omega))).symm, ints_get (by first | omega | (simp only [ints_len] at *; omega)), ?_⟩ | refine DrawOb.mk [] (.qs [0, 1, 2, 4, 5, 6, 7] (.l 3 [4] (.l 8 [] (.qs [9, 10, 11] .nil) .no) .no)) (by decide +kernel) ?_ | refine DrawOb.mk [] (.qs [0, 1, 2, 4, 5, 6, 7] (.l 3 [4] (.l 8 [] (.qs [9, 10, 11] .nil) .no) .no)) (by decide +kernel) ?_ | fail)
      all_goals try (conv => whnf)
      refine CondOb.mk (fun hlt => ?_) (fun hlt => ?_)
      · have hil : i < p.length := by omega
        have hs := prt_set (l := ints (List.replicate p.length (-1))) (k := i) (x := [i64 (-1)]) [i64 0] (by simp [ints, hil])
        have hz := prt_get (l := ints (List.replicate p.length (-1))) (k := i) [i64 0] (by omega)
        repeat' (conv => whnf
                 first | refine ⟨_, hz, ?_⟩ | refine ⟨i, by omega, by omega, ?_⟩ | (refine CondOb.mk (fun _ => ?_) (fun _ => ?_) <;> first | (exfalso; omega) | skip) | refine ArOb.fits (by first | omega | (simp only [ints_len] at *; omega)) ?_ | refine LitOb.vec ?_ | refine MakeOb.vec ?_ | refine AllocOb.box ?_ | refine AsgOb.vec ?_ | refine AggOb.mk (by decide +kernel) ?_ | refine ArU.fits (by first | omega | (simp only [ints_len] at *; omega)) ?_ | refine ArB.fits (by first | omega | (simp only [ints_len] at *; omega)) ?_ | refine CutOb.split ?_ | refine Gh.mk [] ?_ | refine And.intro (And.intro (by (simp only [List.length_append, List.length_take, List.length_drop, List.length_cons, List.length_nil, ints_len, List.length_replicate, pks_len, avs_len]; omega)) (by (simp only [List.length_append, List.length_take, List.length_drop, List.length_cons, List.length_nil, ints_len, List.length_replicate, pks_len, avs_len]; omega))) ?_ | refine ⟨_, _, rfl, ints_get (by first | omega | (simp only [ints_len] at *; omega)), ?_⟩ | refine ⟨_, _, (Int.toNat_of_nonneg (by first | omega | (simp only [ints_len] at *; omega))).symm, ints_get (by first | omega | (simp only [ints_len] at *; omega)), ?_⟩ | refine DrawOb.mk [] (.qs [0, 1, 2, 4, 5, 6, 7] (.l 3 [4] (.l 8 [] (.qs [9, 10, 11] .nil) .no) .no)) (by decide +kernel) ?_ | refine DrawOb.mk [] (.qs [0, 1, 2, 4, 5, 6, 7] (.l 3 [4] (.l 8 [] (.qs [9, 10, 11] .nil) .no) .no)) (by decide +kernel) ?_ | fail)
        all_goals try (conv => whnf)
        exact ⟨i + 1, [0, 1, 2, 3, 4], by omega, by omega, by rw [← hs]; (refine Le.mk (by kernel_rfl) ?_ ?_ <;> repeat' (first | exact True.intro | refine And.intro ?_ ?_ | exact Imp.refl _ | exact Imp.any _ | exact Imp.num (by first | omega | simp only [ints_len]) | exact rfl | exact Imp.bl (by simp)))⟩
      have e : i = p.length := by omega
      subst e
      have hfull : prt (ints (List.replicate p.length (-1))) p.length [i64 0] = ints (List.replicate p.length (-1)) := by
        have := prt_full (ints (List.replicate p.length (-1))) [i64 0]
        rw [hdl] at this; exact this
      rw [hfull]
      clear hql hql0 hlt hi hz0 hfull
      -- the bytes that have arrived
      obtain ⟨A, hA⟩ : ∃ A : Nat → Int, ∀ t : Nat, bys p (-1) t = A t := ⟨fun t => bys p (-1) t, fun _ => rfl⟩
      have hAf : (fun t : Nat => bys p (-1) t) = A := funext hA
      have hAb : ∀ t, 0 ≤ A t ∧ A t ≤ 9000000 := fun t => by
        have h1 := sel_bd (flow := -1) (t := (t : Int)) hV.sml (selN p (-1) p.length).length
        rw [List.take_length] at h1
        rw [← hA]
        show 0 ≤ bysL _ _ ∧ bysL _ _ ≤ _
        omega
      have hAm : ∀ t, A t ≤ A (t + 1) := fun t => by
        rw [← hA, ← hA]
        show bysL _ _ ≤ bysL _ _
        push_cast
        rw [bysL_inc]
        have := (incL_bd (u := (t : Int) + 1) (l := selN p (-1) p.length) fun x hx => hV.sml _ (selN_mem (Nat.le_refl _) x hx).2.2).1
        omega
      have cB := fun t : Nat => rBytes_ok p (by omega) hV.sml (-1) t
      have hsz : ∀ x ∈ p, 1 ≤ x.s := fun x hx => (hP.b x hx).2.2.1
      have hsmb : ∀ i, i ≤ p.length → 0 ≤ smL p i ∧ smL p i ≤ 1000000 * i := fun i hi => smL_bd (fun x hx => hV.sml x hx) i hi
      have hFb : ∀ t, t ≤ 1048576 → 0 ≤ cv f t ∧ cv f t ≤ 2000000000000000 := fun t ht => ⟨cv_nonneg vf t, cv_small vf ht (ff.not vf _)⟩
      simp only [hA] at cB
      repeat' (conv => whnf
               first | (refine CondOb.mk (fun _ => ?_) (fun _ => ?_) <;> first | (exfalso; omega) | skip) | refine ArOb.fits (by first | omega | (simp only [ints_len] at *; omega)) ?_ | refine LitOb.vec ?_ | refine MakeOb.vec ?_ | refine AllocOb.box ?_ | refine AsgOb.vec ?_ | refine AggOb.mk (by decide +kernel) ?_ | refine ArU.fits (by first | omega | (simp only [ints_len] at *; omega)) ?_ | refine ArB.fits (by first | omega | (simp only [ints_len] at *; omega)) ?_ | refine CutOb.split ?_ | refine Gh.mk [] ?_ | refine And.intro (And.intro (by (simp only [List.length_append, List.length_take, List.length_drop, List.length_cons, List.length_nil, ints_len, List.length_replicate, pks_len, avs_len]; omega)) (by (simp only [List.length_append, List.length_take, List.length_drop, List.length_cons, List.length_nil, ints_len, List.length_replicate, pks_len, avs_len]; omega))) ?_ | refine ⟨_, _, rfl, ints_get (by first | omega | (simp only [ints_len] at *; omega)), ?_⟩ | refine ⟨_, _, (Int.toNat_of_nonneg (by first | omega | (simp only [ints_len] at *; omega))).symm, ints_get (by first | omega | (simp only [ints_len] at *; omega)), ?_⟩ | refine DrawOb.mk [] (.qs [0, 1, 2, 4, 5, 6, 7] (.l 3 [4] (.l 8 [] (.qs [9, 10, 11] .nil) .no) .no)) (by decide +kernel) ?_ | refine DrawOb.mk [] (.qs [0, 1, 2, 4, 5, 6, 7] (.l 3 [4] (.l 8 [] (.qs [9, 10, 11] .nil) .no) .no)) (by decide +kernel) ?_ | fail)
      all_goals try (conv => whnf)
      refine LoopOb.mk (Y := List Int × List Int × Nat) (st := fun y => ⟨[(14, i64 y.1.length), (12, .vec 1), (11, .vec 2), (9, .ptr 4 0), (5, .ptr 3 0), (4, .psl 3 (pks p)), (3, .ptr 0 0)], [src (l.take 2000) y.2.2, .vec 1 (ints y.2.1), .vec 1 (ints y.1), .box [.psl 1 (ints f.1), i64 f.2.1, i64 f.2.2], .box [.psl 1 (ints c.1), i64 c.2.1, i64 c.2.2]]⟩)
        (inv := fun y => (1 ≤ y.1.length ∧ y.1.length ≤ 200) ∧ Snt A (cv f) (fun u => y.1.getD u 0) (y.1.length - 1) ∧ y.2.1.length = p.length ∧ (∀ i, i < p.length → DnP p (fun u => y.1.getD u 0) (y.1.length - 1) y.2.1 i) ∧ y.2.2 ≤ 2000) (fun y => 200 - y.1.length) ([0], List.replicate p.length (-1), k2) [0, 1, 2, 3, 4] ?_ (by (refine Le.mk (by kernel_rfl) ?_ ?_ <;> repeat' (first | exact True.intro | refine And.intro ?_ ?_ | exact Imp.refl _ | exact Imp.any _ | exact Imp.num (by first | omega | simp only [ints_len]) | exact rfl | exact Imp.bl (by simp)))) ?_
      · refine ⟨⟨by simp, by simp⟩, ⟨rfl, fun t ht => by simp at ht, fun t ht => ?_, fun t ht => ?_⟩, by simp, fun i hi => .inl ⟨?_, ?_⟩, hk2⟩
        · have : t = 0 := by simpa using ht
          subst this; exact (hAb 0).1
        · have : t = 0 := by simpa using ht
          subst this
          show A 0 ≤ 0
          rw [← hA]
          exact Int.le_of_eq (bysL_zero fun x hx => ptm0 hV _ (selN_mem (Nat.le_refl _) x hx).2.2).1
        · simp [List.getD_eq_getElem?_getD, hi]
        · have h1 := (hsmb i (by omega)).1
          have h2 := hsz _ (getD_memP hi)
          show (0 : Int) < smL p i + (p.getD i pk0).s
          omega
      rintro ⟨sl, d, k⟩ ⟨⟨hs1, hs2⟩, hS, hdl2, hD, hk⟩
      dsimp only at hs1 hs2 hS hdl2 hD hk ⊢
      obtain ⟨n, hn⟩ : ∃ n, sl.length = n + 1 := ⟨sl.length - 1, by omega⟩
      rw [hn, Nat.add_sub_cancel] at hS hD
      rw [hn]
      have hsl := ints_len sl
      have hdi := ints_len d
      have hnn : ∀ k, 0 ≤ ndk A (cv f) (n + 1) k := by
        intro k
        induction k with
        | zero => exact (hAb _).1
        | succ k ih => have h1 := (hAb k).1; have h2 := cv_nonneg vf (n + 1 - k); simp only [ndk]; omega
      have hnl := fun k => ndk_le A (cv f) (n + 1) k
      have hA1 := hAb (n + 1)
      repeat' (conv => whnf
               first | refine ArOb.fits (by first | omega | (simp only [ints_len] at *; omega)) ?_ | refine LitOb.vec ?_ | refine MakeOb.vec ?_ | refine AllocOb.box ?_ | refine AsgOb.vec ?_ | refine AggOb.mk (by decide +kernel) ?_ | refine ArU.fits (by first | omega | (simp only [ints_len] at *; omega)) ?_ | refine ArB.fits (by first | omega | (simp only [ints_len] at *; omega)) ?_ | refine CutOb.split ?_ | refine Gh.mk [] ?_ | refine And.intro (And.intro (by (simp only [List.length_append, List.length_take, List.length_drop, List.length_cons, List.length_nil, ints_len, List.length_replicate, pks_len, avs_len]; omega)) (by (simp only [List.length_append, List.length_take, List.length_drop, List.length_cons, List.length_nil, ints_len, List.length_replicate, pks_len, avs_len]; omega))) ?_ | refine ⟨_, _, rfl, ints_get (by first | omega | (simp only [ints_len] at *; omega)), ?_⟩ | refine ⟨_, _, (Int.toNat_of_nonneg (by first | omega | (simp only [ints_len] at *; omega))).symm, ints_get (by first | omega | (simp only [ints_len] at *; omega)), ?_⟩ | refine DrawOb.mk [] (.qs [0, 1, 2, 4, 5, 6, 7] (.l 3 [4] (.l 8 [] (.qs [9, 10, 11] .nil) .no) .no)) (by decide +kernel) ?_ | refine DrawOb.mk [] (.qs [0, 1, 2, 4, 5, 6, 7] (.l 3 [4] (.l 8 [] (.qs [9, 10, 11] .nil) .no) .no)) (by decide +kernel) ?_ | fail)
      all_goals try (conv => whnf)
      refine CondOb.mk (fun hlt => ?_) (fun hlt => ?_)
      · repeat' (conv => whnf
                 first | (refine CondOb.mk (fun _ => ?_) (fun _ => ?_) <;> first | (exfalso; omega) | skip) | refine ArOb.fits (by first | omega | (simp only [ints_len] at *; omega)) ?_ | refine LitOb.vec ?_ | refine MakeOb.vec ?_ | refine AllocOb.box ?_ | refine AsgOb.vec ?_ | refine AggOb.mk (by decide +kernel) ?_ | refine ArU.fits (by first | omega | (simp only [ints_len] at *; omega)) ?_ | refine ArB.fits (by first | omega | (simp only [ints_len] at *; omega)) ?_ | refine CutOb.split ?_ | refine Gh.mk [] ?_ | refine And.intro (And.intro (by (simp only [List.length_append, List.length_take, List.length_drop, List.length_cons, List.length_nil, ints_len, List.length_replicate, pks_len, avs_len]; omega)) (by (simp only [List.length_append, List.length_take, List.length_drop, List.length_cons, List.length_nil, ints_len, List.length_replicate, pks_len, avs_len]; omega))) ?_ | refine ⟨_, _, rfl, ints_get (by first | omega | (simp only [ints_len] at *; omega)), ?_⟩ | refine ⟨_, _, (Int.toNat_of_nonneg (by first | omega | (simp only [ints_len] at *; omega))).symm, ints_get (by first | omega | (simp only [ints_len] at *; omega)), ?_⟩ | refine DrawOb.mk [] (.qs [0, 1, 2, 4, 5, 6, 7] (.l 3 [4] (.l 8 [] (.qs [9, 10, 11] .nil) .no) .no)) (by decide +kernel) ?_ | refine DrawOb.mk [] (.qs [0, 1, 2, 4, 5, 6, 7] (.l 3 [4] (.l 8 [] (.qs [9, 10, 11] .nil) .no) .no)) (by decide +kernel) ?_ | (refine CallOb.mk [] (cB (n + 1)) rfl (ImpL.refl _) rfl rfl ?_; rintro _ _ ⟨rfl, rfl⟩) | fail)
        all_goals try (conv => whnf)
        refine LoopOb.mk (Y := Nat) (st := fun u => ⟨[(16, i64 u), (15, i64 (ndk A (cv f) (n + 1) u)), (14, i64 (n + 1 : Nat)), (12, .vec 1), (11, .vec 2), (9, .ptr 4 0), (5, .ptr 3 0), (4, .psl 3 (pks p)), (3, .ptr 0 0)], [src (l.take 2000) k, .vec 1 (ints d), .vec 1 (ints sl), .box [.psl 1 (ints f.1), i64 f.2.1, i64 f.2.2], .box [.psl 1 (ints c.1), i64 c.2.1, i64 c.2.2]]⟩)
          (inv := fun u => u ≤ n + 1) (fun u => n + 1 - u) 0 [0, 1, 2, 3, 4] (by omega) (by (refine Le.mk (by kernel_rfl) ?_ ?_ <;> repeat' (first | exact True.intro | refine And.intro ?_ ?_ | exact Imp.refl _ | exact Imp.any _ | exact Imp.num (by first | omega | simp only [ints_len]) | exact rfl | exact Imp.bl (by simp)))) ?_
        intro u hu
        have h1 := hnn u
        have h2 := hnl u
        repeat' (conv => whnf
                 first | refine ArOb.fits (by first | omega | (simp only [ints_len] at *; omega)) ?_ | refine LitOb.vec ?_ | refine MakeOb.vec ?_ | refine AllocOb.box ?_ | refine AsgOb.vec ?_ | refine AggOb.mk (by decide +kernel) ?_ | refine ArU.fits (by first | omega | (simp only [ints_len] at *; omega)) ?_ | refine ArB.fits (by first | omega | (simp only [ints_len] at *; omega)) ?_ | refine CutOb.split ?_ | refine Gh.mk [] ?_ | refine And.intro (And.intro (by (simp only [List.length_append, List.length_take, List.length_drop, List.length_cons, List.length_nil, ints_len, List.length_replicate, pks_len, avs_len]; omega)) (by (simp only [List.length_append, List.length_take, List.length_drop, List.length_cons, List.length_nil, ints_len, List.length_replicate, pks_len, avs_len]; omega))) ?_ | refine ⟨_, _, rfl, ints_get (by first | omega | (simp only [ints_len] at *; omega)), ?_⟩ | refine ⟨_, _, (Int.toNat_of_nonneg (by first | omega | (simp only [ints_len] at *; omega))).symm, ints_get (by first | omega | (simp only [ints_len] at *; omega)), ?_⟩ | refine DrawOb.mk [] (.qs [0, 1, 2, 4, 5, 6, 7] (.l 3 [4] (.l 8 [] (.qs [9, 10, 11] .nil) .no) .no)) (by decide +kernel) ?_ | refine DrawOb.mk [] (.qs [0, 1, 2, 4, 5, 6, 7] (.l 3 [4] (.l 8 [] (.qs [9, 10, 11] .nil) .no) .no)) (by decide +kernel) ?_ | fail)
        all_goals try (conv => whnf)
        refine CondOb.mk (fun hl2 => ?_) (fun hl2 => ?_)
        · have e : ndk A (cv f) (n + 1) (u + 1) = min (ndk A (cv f) (n + 1) u) (A u + cv f (n + 1 - u)) := rfl
          have b1 := hAb u
          have b2 := hFb (n + 1 - u) (by omega)
          have cA := hAt_ok f (n + 1 - u) vf (by omega)
          have cU := cB u
          generalize ndk A (cv f) (n + 1) u = w at *
          generalize A u = x at *
          generalize cv f (n + 1 - u) = y at *
          repeat' (conv => whnf
                   first | (refine CondOb.mk (fun _ => ?_) (fun _ => ?_) <;> first | (exfalso; omega) | skip) | refine ArOb.fits (by first | omega | (simp only [ints_len] at *; omega)) ?_ | refine LitOb.vec ?_ | refine MakeOb.vec ?_ | refine AllocOb.box ?_ | refine AsgOb.vec ?_ | refine AggOb.mk (by decide +kernel) ?_ | refine ArU.fits (by first | omega | (simp only [ints_len] at *; omega)) ?_ | refine ArB.fits (by first | omega | (simp only [ints_len] at *; omega)) ?_ | refine CutOb.split ?_ | refine Gh.mk [] ?_ | refine And.intro (And.intro (by (simp only [List.length_append, List.length_take, List.length_drop, List.length_cons, List.length_nil, ints_len, List.length_replicate, pks_len, avs_len]; omega)) (by (simp only [List.length_append, List.length_take, List.length_drop, List.length_cons, List.length_nil, ints_len, List.length_replicate, pks_len, avs_len]; omega))) ?_ | refine ⟨_, _, rfl, ints_get (by first | omega | (simp only [ints_len] at *; omega)), ?_⟩ | refine ⟨_, _, (Int.toNat_of_nonneg (by first | omega | (simp only [ints_len] at *; omega))).symm, ints_get (by first | omega | (simp only [ints_len] at *; omega)), ?_⟩ | refine DrawOb.mk [] (.qs [0, 1, 2, 4, 5, 6, 7] (.l 3 [4] (.l 8 [] (.qs [9, 10, 11] .nil) .no) .no)) (by decide +kernel) ?_ | refine DrawOb.mk [] (.qs [0, 1, 2, 4, 5, 6, 7] (.l 3 [4] (.l 8 [] (.qs [9, 10, 11] .nil) .no) .no)) (by decide +kernel) ?_ | (refine CallOb.mk [] cU rfl (ImpL.refl _) rfl rfl ?_; rintro _ _ ⟨rfl, rfl⟩) | (refine CallOb.mk [] cA rfl ⟨Imp.refl _, Imp.num (by omega), trivial⟩ rfl rfl ?_; rintro _ _ ⟨rfl, rfl⟩) | fail)
          all_goals try (conv => whnf)
          exact ⟨u + 1, [0, 1, 2, 3, 4], by omega, by omega, by rw [e]; (refine Le.mk (by kernel_rfl) ?_ ?_ <;> repeat' (first | exact True.intro | refine And.intro ?_ ?_ | exact Imp.refl _ | exact Imp.any _ | exact Imp.num (by first | omega | simp only [ints_len]) | exact rfl | exact Imp.bl (by simp)))⟩
        · have e : u = n + 1 := by omega
          rw [e] at h1 h2 ⊢
          have gs := ints_get (l := sl) (j := n) (by omega)
          have hsb := hS.a n (Nat.le_refl _)
          have hsb0 := hS.mono (s := 0) (t := n) (by omega) (Nat.le_refl _)
          have hz := hS.z
          try dsimp only at hsb hsb0 hz
          rw [hz] at hsb0
          have hAn := hAb n
          repeat' (conv => whnf
                   first | (refine CondOb.mk (fun _ => ?_) (fun _ => ?_) <;> first | (exfalso; omega) | skip) | refine ArOb.fits (by first | omega | (simp only [ints_len] at *; omega)) ?_ | refine LitOb.vec ?_ | refine MakeOb.vec ?_ | refine AllocOb.box ?_ | refine AsgOb.vec ?_ | refine AggOb.mk (by decide +kernel) ?_ | refine ArU.fits (by first | omega | (simp only [ints_len] at *; omega)) ?_ | refine ArB.fits (by first | omega | (simp only [ints_len] at *; omega)) ?_ | refine CutOb.split ?_ | refine Gh.mk [] ?_ | refine And.intro (And.intro (by (simp only [List.length_append, List.length_take, List.length_drop, List.length_cons, List.length_nil, ints_len, List.length_replicate, pks_len, avs_len]; omega)) (by (simp only [List.length_append, List.length_take, List.length_drop, List.length_cons, List.length_nil, ints_len, List.length_replicate, pks_len, avs_len]; omega))) ?_ | refine ⟨_, _, rfl, ints_get (by first | omega | (simp only [ints_len] at *; omega)), ?_⟩ | refine ⟨_, _, (Int.toNat_of_nonneg (by first | omega | (simp only [ints_len] at *; omega))).symm, ints_get (by first | omega | (simp only [ints_len] at *; omega)), ?_⟩ | refine DrawOb.mk [] (.qs [0, 1, 2, 4, 5, 6, 7] (.l 3 [4] (.l 8 [] (.qs [9, 10, 11] .nil) .no) .no)) (by decide +kernel) ?_ | refine DrawOb.mk [] (.qs [0, 1, 2, 4, 5, 6, 7] (.l 3 [4] (.l 8 [] (.qs [9, 10, 11] .nil) .no) .no)) (by decide +kernel) ?_ | fail)
          all_goals try (conv => whnf)
          refine DrawOb.cut [] (.qs [0, 1, 2, 3, 4, 5, 6, 8, 9] (.l 7 [4] (.l 10 [4] (.l 11 [4] (.qs [12, 13, 14, 15] .nil) .no) .no) (.l 10 [4] (.l 7 [4] (.l 11 [4] (.qs [12, 13, 14, 15] .nil) .no) .no) .no))) (Y := Int × Nat) (st := fun y => ⟨[(17, i64 y.1), (14, i64 (n + 1 : Nat)), (12, .vec 1), (11, .vec 2), (9, .ptr 4 0), (5, .ptr 3 0), (4, .psl 3 (pks p)), (3, .ptr 0 0)], [src (l.take 2000) y.2, .vec 1 (ints d), .vec 1 (ints sl), .box [.psl 1 (ints f.1), i64 f.2.1, i64 f.2.2], .box [.psl 1 (ints c.1), i64 c.2.1, i64 c.2.2]]⟩) (inv := fun y => (∃ r, 0 ≤ r ∧ y.1 = max (sl.getD n 0) (min (A (n + 1)) (ndk A (cv f) (n + 1) (n + 1) + r))) ∧ y.2 ≤ 2000) (by decide +kernel) ?_ ?_
          · have cN := cB (n + 1)
            generalize ndk A (cv f) (n + 1) (n + 1) = w at *
            repeat' (conv => whnf
                     first | refine ⟨_, gs, ?_⟩ | refine ⟨n, by omega, by omega, ?_⟩ | refine LitOb.ful ?_ | (refine CondOb.mk (fun _ => ?_) (fun _ => ?_) <;> first | (exfalso; omega) | skip) | refine ArOb.fits (by first | omega | (simp only [ints_len] at *; omega)) ?_ | refine LitOb.vec ?_ | refine MakeOb.vec ?_ | refine AllocOb.box ?_ | refine AsgOb.vec ?_ | refine AggOb.mk (by decide +kernel) ?_ | refine ArU.fits (by first | omega | (simp only [ints_len] at *; omega)) ?_ | refine ArB.fits (by first | omega | (simp only [ints_len] at *; omega)) ?_ | refine CutOb.split ?_ | refine Gh.mk [] ?_ | refine And.intro (And.intro (by (simp only [List.length_append, List.length_take, List.length_drop, List.length_cons, List.length_nil, ints_len, List.length_replicate, pks_len, avs_len]; omega)) (by (simp only [List.length_append, List.length_take, List.length_drop, List.length_cons, List.length_nil, ints_len, List.length_replicate, pks_len, avs_len]; omega))) ?_ | refine ⟨_, _, rfl, ints_get (by first | omega | (simp only [ints_len] at *; omega)), ?_⟩ | refine ⟨_, _, (Int.toNat_of_nonneg (by first | omega | (simp only [ints_len] at *; omega))).symm, ints_get (by first | omega | (simp only [ints_len] at *; omega)), ?_⟩ | refine DrawOb.mk [] (.qs [0, 1, 2, 4, 5, 6, 7] (.l 3 [4] (.l 8 [] (.qs [9, 10, 11] .nil) .no) .no)) (by decide +kernel) ?_ | refine DrawOb.mk [] (.qs [0, 1, 2, 4, 5, 6, 7] (.l 3 [4] (.l 8 [] (.qs [9, 10, 11] .nil) .no) .no)) (by decide +kernel) ?_ | refine And.intro ?_ ?_ | (refine CallOb.mk [] cN rfl (ImpL.refl _) rfl rfl ?_; rintro _ _ ⟨rfl, rfl⟩) | (refine CallOb.mk [0] (Pick_ok _ k hL hk [0, 0, 3] (by decide) (by decide)) rfl ⟨Imp.refl _, Imp.fulp rfl, trivial⟩ rfl rfl ?_; rintro _ _ ⟨⟨r, k3⟩, ⟨hr, hk3⟩, rfl, rfl⟩; dsimp only at hr hk3 ⊢; have hr2 : 0 ≤ r ∧ r ≤ 3 := (by simp only [List.mem_cons, List.not_mem_nil, or_false] at hr; omega)) | fail)
            all_goals try (conv => whnf)
            all_goals first
              | (refine ⟨(max (sl.getD n 0) (min (A (n + 1)) (w + r)), k3), [0, 1, 2, 3, 4], ⟨⟨r, hr2.1, rfl⟩, hk3⟩, ?_⟩; dsimp only; (refine Le.mk (by kernel_rfl) ?_ ?_ <;> repeat' (first | exact True.intro | refine And.intro ?_ ?_ | exact Imp.refl _ | exact Imp.any _ | exact Imp.num (by first | omega | simp only [ints_len]) | exact rfl | exact Imp.bl (by simp))); done)
              | trace_state
          · rintro ⟨v, k3⟩ ⟨⟨r, hr, hv⟩, hk3⟩
            dsimp only at hv hk3
            have hSn := Snt.snoc hn hS (hAm n) hr hv
            have hlen : (sl ++ [v]).length = n + 1 + 1 := by simp [hn]
            have hvb : 0 ≤ v ∧ v ≤ 9000000 := by have := hAb (n + 1); omega
            have hgl : (sl ++ [v]).getD (n + 1) 0 = v := by rw [← hn]; simp
            have hmono := fun (u : Nat) (hu : u ≤ n + 1) => hSn.mono hu (Nat.le_refl _)
            have hDc : ∀ i, i < p.length → DnP p (fun u => (sl ++ [v]).getD u 0) n d i := fun i hi => (hD i hi).congr fun u hu => by
              rw [List.getD_eq_getElem?_getD, List.getElem?_append_left (by omega), ← List.getD_eq_getElem?_getD]
            clear hv hsb hsb0 hz hAn gs hD h1 h2 hl2 hu hr
            have ea := ints_app8 sl v
            have hsl2 := ints_len (sl ++ [v])
            rw [hlen] at hsl2
            repeat' (conv => whnf
                     first | refine LitOb.ful ?_ | (refine CondOb.mk (fun _ => ?_) (fun _ => ?_) <;> first | (exfalso; omega) | skip) | refine ArOb.fits (by first | omega | (simp only [ints_len] at *; omega)) ?_ | refine LitOb.vec ?_ | refine MakeOb.vec ?_ | refine AllocOb.box ?_ | refine AsgOb.vec ?_ | refine AggOb.mk (by decide +kernel) ?_ | refine ArU.fits (by first | omega | (simp only [ints_len] at *; omega)) ?_ | refine ArB.fits (by first | omega | (simp only [ints_len] at *; omega)) ?_ | refine CutOb.split ?_ | refine Gh.mk [] ?_ | refine And.intro (And.intro (by (simp only [List.length_append, List.length_take, List.length_drop, List.length_cons, List.length_nil, ints_len, List.length_replicate, pks_len, avs_len]; omega)) (by (simp only [List.length_append, List.length_take, List.length_drop, List.length_cons, List.length_nil, ints_len, List.length_replicate, pks_len, avs_len]; omega))) ?_ | refine ⟨_, _, rfl, ints_get (by first | omega | (simp only [ints_len] at *; omega)), ?_⟩ | refine ⟨_, _, (Int.toNat_of_nonneg (by first | omega | (simp only [ints_len] at *; omega))).symm, ints_get (by first | omega | (simp only [ints_len] at *; omega)), ?_⟩ | refine DrawOb.mk [] (.qs [0, 1, 2, 4, 5, 6, 7] (.l 3 [4] (.l 8 [] (.qs [9, 10, 11] .nil) .no) .no)) (by decide +kernel) ?_ | refine DrawOb.mk [] (.qs [0, 1, 2, 4, 5, 6, 7] (.l 3 [4] (.l 8 [] (.qs [9, 10, 11] .nil) .no) .no)) (by decide +kernel) ?_ | fail)
            all_goals try (conv => whnf)
            refine LoopOb.mk (Y := Nat × List Int) (st := fun y => ⟨[(115, i64 y.1), (114, i64 (pks p).length), (18, i64 (smL p y.1)), (17, i64 v), (14, i64 (n + 1 : Nat)), (12, .vec 1), (11, .vec 2), (9, .ptr 4 0), (5, .ptr 3 0), (4, .psl 3 (pks p)), (3, .ptr 0 0)], [src (l.take 2000) k3, .vec 1 (ints y.2), .vec 1 (ints (sl ++ [v])), .box [.psl 1 (ints f.1), i64 f.2.1, i64 f.2.2], .box [.psl 1 (ints c.1), i64 c.2.1, i64 c.2.2]]⟩)
              (inv := fun y => y.1 ≤ p.length ∧ y.2.length = p.length ∧ (∀ i, i < p.length → (i < y.1 → DnP p (fun u => (sl ++ [v]).getD u 0) (n + 1) y.2 i) ∧ (y.1 ≤ i → DnP p (fun u => (sl ++ [v]).getD u 0) n y.2 i))) (fun y => p.length - y.1) (0, d) [0, 1, 5, 3, 4] ?_ (by rw [ea]; (refine Le.mk (by kernel_rfl) ?_ ?_ <;> repeat' (first | exact True.intro | refine And.intro ?_ ?_ | exact Imp.refl _ | exact Imp.any _ | exact Imp.num (by first | omega | simp only [ints_len]) | exact rfl | exact Imp.bl (by simp)))) ?_
            · exact ⟨by dsimp only; omega, hdl2, fun i hi => ⟨fun h => by dsimp only at h; omega, fun _ => hDc i hi⟩⟩
            rintro ⟨i, d2⟩ ⟨hi, hd2, hDn⟩
            dsimp only at hi hd2 hDn ⊢
            have hb := hsmb i hi
            have hdi2 := ints_len d2
            repeat' (conv => whnf
                     first | refine ArOb.fits (by first | omega | (simp only [ints_len] at *; omega)) ?_ | refine LitOb.vec ?_ | refine MakeOb.vec ?_ | refine AllocOb.box ?_ | refine AsgOb.vec ?_ | refine AggOb.mk (by decide +kernel) ?_ | refine ArU.fits (by first | omega | (simp only [ints_len] at *; omega)) ?_ | refine ArB.fits (by first | omega | (simp only [ints_len] at *; omega)) ?_ | refine CutOb.split ?_ | refine Gh.mk [] ?_ | refine And.intro (And.intro (by (simp only [List.length_append, List.length_take, List.length_drop, List.length_cons, List.length_nil, ints_len, List.length_replicate, pks_len, avs_len]; omega)) (by (simp only [List.length_append, List.length_take, List.length_drop, List.length_cons, List.length_nil, ints_len, List.length_replicate, pks_len, avs_len]; omega))) ?_ | refine ⟨_, _, rfl, ints_get (by first | omega | (simp only [ints_len] at *; omega)), ?_⟩ | refine ⟨_, _, (Int.toNat_of_nonneg (by first | omega | (simp only [ints_len] at *; omega))).symm, ints_get (by first | omega | (simp only [ints_len] at *; omega)), ?_⟩ | refine DrawOb.mk [] (.qs [0, 1, 2, 4, 5, 6, 7] (.l 3 [4] (.l 8 [] (.qs [9, 10, 11] .nil) .no) .no)) (by decide +kernel) ?_ | refine DrawOb.mk [] (.qs [0, 1, 2, 4, 5, 6, 7] (.l 3 [4] (.l 8 [] (.qs [9, 10, 11] .nil) .no) .no)) (by decide +kernel) ?_ | fail)
            all_goals try (conv => whnf)
            refine CondOb.mk (fun hl3 => ?_) (fun hl3 => ?_)
            · have hil : i < p.length := by omega
              have hg1 := pks_get hil
              have hg2 := ints_get (l := d2) (j := i) (by omega)
              have e : smL p (i + 1) = smL p i + (p.getD i pk0).s := rfl
              have hbx := hV.sml _ (getD_memP hil)
              have hDi := (hDn i hil).2 (Nat.le_refl _)
              have en : ((n + 1 : Nat) : Int) - 1 = n := by omega
              have hput : smL p i + (p.getD i pk0).s ≤ v → d2.getD i 0 < 0 → ∀ j, j < p.length → (j < i + 1 → DnP p (fun u => (sl ++ [v]).getD u 0) (n + 1) (d2.set i (((n + 1 : Nat) : Int) - 1)) j) ∧ (i + 1 ≤ j → DnP p (fun u => (sl ++ [v]).getD u 0) n (d2.set i (((n + 1 : Nat) : Int) - 1)) j) := fun q1 q2 j hj => by
                rw [en]
                refine ⟨fun h => ?_, fun h => ((hDn j hj).2 (by omega)).other (by omega)⟩
                by_cases ej : j = i
                · subst ej; exact hDi.put (by omega) (by rw [e, hgl]; exact q1) q2
                · exact ((hDn j hj).1 (by omega)).other ej
              have hstay : ¬(smL p i + (p.getD i pk0).s ≤ v ∧ d2.getD i 0 < 0) → ∀ j, j < p.length → (j < i + 1 → DnP p (fun u => (sl ++ [v]).getD u 0) (n + 1) d2 j) ∧ (i + 1 ≤ j → DnP p (fun u => (sl ++ [v]).getD u 0) n d2 j) := fun q j hj => by
                refine ⟨fun h => ?_, fun h => (hDn j hj).2 (by omega)⟩
                by_cases ej : j = i
                · subst ej; exact hDi.stay hmono (by rw [e, hgl]; exact q)
                · exact (hDn j hj).1 (by omega)
              clear hDn hDi hDc hSn hmono hgl hS
              generalize p.getD i pk0 = x at *
              generalize hsmi : smL p i = sm at *
              generalize hw : d2.getD i 0 = w at *
              repeat' (conv => whnf
                       first | refine ⟨_, hg2, ?_⟩ | refine ⟨i, by omega, by omega, ?_⟩ | refine ⟨i, _, rfl, hg1, ?_⟩ | (refine CondOb.mk (fun _ => ?_) (fun _ => ?_) <;> first | (exfalso; omega) | skip) | refine ArOb.fits (by first | omega | (simp only [ints_len] at *; omega)) ?_ | refine LitOb.vec ?_ | refine MakeOb.vec ?_ | refine AllocOb.box ?_ | refine AsgOb.vec ?_ | refine AggOb.mk (by decide +kernel) ?_ | refine ArU.fits (by first | omega | (simp only [ints_len] at *; omega)) ?_ | refine ArB.fits (by first | omega | (simp only [ints_len] at *; omega)) ?_ | refine CutOb.split ?_ | refine Gh.mk [] ?_ | refine And.intro (And.intro (by (simp only [List.length_append, List.length_take, List.length_drop, List.length_cons, List.length_nil, ints_len, List.length_replicate, pks_len, avs_len]; omega)) (by (simp only [List.length_append, List.length_take, List.length_drop, List.length_cons, List.length_nil, ints_len, List.length_replicate, pks_len, avs_len]; omega))) ?_ | refine ⟨_, _, rfl, ints_get (by first | omega | (simp only [ints_len] at *; omega)), ?_⟩ | refine ⟨_, _, (Int.toNat_of_nonneg (by first | omega | (simp only [ints_len] at *; omega))).symm, ints_get (by first | omega | (simp only [ints_len] at *; omega)), ?_⟩ | refine DrawOb.mk [] (.qs [0, 1, 2, 4, 5, 6, 7] (.l 3 [4] (.l 8 [] (.qs [9, 10, 11] .nil) .no) .no)) (by decide +kernel) ?_ | refine DrawOb.mk [] (.qs [0, 1, 2, 4, 5, 6, 7] (.l 3 [4] (.l 8 [] (.qs [9, 10, 11] .nil) .no) .no)) (by decide +kernel) ?_ | fail)
              all_goals try (conv => whnf)
              all_goals first
                | (refine ⟨(i + 1, d2.set i (((n + 1 : Nat) : Int) - 1)), [0, 1, 2, 3, 4], ⟨by dsimp only; omega, by dsimp only; rw [List.length_set]; omega, hput (by omega) (by omega)⟩, by dsimp only; omega, ?_⟩; dsimp only; rw [ints_set8, e]; (refine Le.mk (by kernel_rfl) ?_ ?_ <;> repeat' (first | exact True.intro | refine And.intro ?_ ?_ | exact Imp.refl _ | exact Imp.any _ | exact Imp.num (by first | omega | simp only [ints_len]) | exact rfl | exact Imp.bl (by simp))); done)
                | (refine ⟨(i + 1, d2), [0, 1, 2, 3, 4], ⟨by dsimp only; omega, hd2, hstay (by omega)⟩, by dsimp only; omega, ?_⟩; dsimp only; rw [e]; (refine Le.mk (by kernel_rfl) ?_ ?_ <;> repeat' (first | exact True.intro | refine And.intro ?_ ?_ | exact Imp.refl _ | exact Imp.any _ | exact Imp.num (by first | omega | simp only [ints_len]) | exact rfl | exact Imp.bl (by simp))); done)
                | trace_state
            · have e : i = p.length := by omega
              subst e
              repeat' (conv => whnf
                       first | (refine CondOb.mk (fun _ => ?_) (fun _ => ?_) <;> first | (exfalso; omega) | skip) | refine ArOb.fits (by first | omega | (simp only [ints_len] at *; omega)) ?_ | refine LitOb.vec ?_ | refine MakeOb.vec ?_ | refine AllocOb.box ?_ | refine AsgOb.vec ?_ | refine AggOb.mk (by decide +kernel) ?_ | refine ArU.fits (by first | omega | (simp only [ints_len] at *; omega)) ?_ | refine ArB.fits (by first | omega | (simp only [ints_len] at *; omega)) ?_ | refine CutOb.split ?_ | refine Gh.mk [] ?_ | refine And.intro (And.intro (by (simp only [List.length_append, List.length_take, List.length_drop, List.length_cons, List.length_nil, ints_len, List.length_replicate, pks_len, avs_len]; omega)) (by (simp only [List.length_append, List.length_take, List.length_drop, List.length_cons, List.length_nil, ints_len, List.length_replicate, pks_len, avs_len]; omega))) ?_ | refine ⟨_, _, rfl, ints_get (by first | omega | (simp only [ints_len] at *; omega)), ?_⟩ | refine ⟨_, _, (Int.toNat_of_nonneg (by first | omega | (simp only [ints_len] at *; omega))).symm, ints_get (by first | omega | (simp only [ints_len] at *; omega)), ?_⟩ | refine DrawOb.mk [] (.qs [0, 1, 2, 4, 5, 6, 7] (.l 3 [4] (.l 8 [] (.qs [9, 10, 11] .nil) .no) .no)) (by decide +kernel) ?_ | refine DrawOb.mk [] (.qs [0, 1, 2, 4, 5, 6, 7] (.l 3 [4] (.l 8 [] (.qs [9, 10, 11] .nil) .no) .no)) (by decide +kernel) ?_ | fail)
              all_goals try (conv => whnf)
              exact ⟨(sl ++ [v], d2, k3), [0, 1, 2, 3, 4], ⟨by dsimp only; omega, by dsimp only; rw [hlen, Nat.add_sub_cancel]; exact hSn, hd2, by dsimp only; rw [hlen, Nat.add_sub_cancel]; exact fun i hi => (hDn i hi).1 hi, hk3⟩, by dsimp only; omega, by dsimp only; rw [hlen]; (refine Le.mk (by kernel_rfl) ?_ ?_ <;> repeat' (first | exact True.intro | refine And.intro ?_ ?_ | exact Imp.refl _ | exact Imp.any _ | exact Imp.num (by first | omega | simp only [ints_len]) | exact rfl | exact Imp.bl (by simp)))⟩
      · have hnT : n = 199 := by omega
        subst hnT
        rw [hdl2] at hdi
        have hS' : Snt (fun t : Nat => bys p (-1) t) (cv f) (fun u => sl.getD u 0) 199 := by rw [hAf]; exact hS
        have hO : OKd p d := ⟨hdl2, fun i hi => by
          have h1 := (hD i hi).tick hV hS' hi
          have h2 := ptm0 hV _ (getD_memP hi)
          omega⟩
        have cF := Forward_ok p hV (by omega) d hO
        have hFV := fwd_vld hV hO
        have cQ : ∀ t : Nat, Ctr _ _ _ _ _ := fun t => by
          have h := Bytes_ok (fwP (fwd p d)) (by have := hFV.l; omega) hFV.sml (-1) t
          rw [fwd_bys hV hO, arS_dnS] at h
          exact h
        have hqb := fun t : Nat => by
          have h := arS_bd hV d t p.length (Nat.le_refl _)
          rw [arS_dnS] at h
          exact h
        have hT := fun (t : Nat) (ht : t ≤ 200) => hop_thm hV (fun t => cv_nonneg vf t) hf0 hS' hD hmo1.1 hms2 hH0 hH1 t ht
        simp only [hA] at hT
        have hCb : ∀ t, t ≤ 1048576 → 0 ≤ cv c t ∧ cv c t ≤ 2000000000000000 := fun t ht => ⟨cv_nonneg vc t, cv_small vc ht (fc.not vc _)⟩
        have cO := cOf_ok f c vf vc ff fc
        clear hS hS' hD hnn hnl hA1 hsl hO hn hs1 hs2 hH0 hH1 hms2 hx hc hf cH hAf hA hf0
        generalize fwd p d = F at *
        have hFl : (pks (fwP F)).length = F.length := by simp
        have hFl60 : F.length ≤ 60 := by have := hFV.l; simpa using this
        generalize dnS p d = D at *
        repeat' (conv => whnf
                 first | (refine CondOb.mk (fun _ => ?_) (fun _ => ?_) <;> first | (exfalso; omega) | skip) | refine ArOb.fits (by first | omega | (simp only [ints_len] at *; omega)) ?_ | refine LitOb.vec ?_ | refine MakeOb.vec ?_ | refine AllocOb.box ?_ | refine AsgOb.vec ?_ | refine AggOb.mk (by decide +kernel) ?_ | refine ArU.fits (by first | omega | (simp only [ints_len] at *; omega)) ?_ | refine ArB.fits (by first | omega | (simp only [ints_len] at *; omega)) ?_ | refine CutOb.split ?_ | refine And.intro (And.intro (by (simp only [List.length_append, List.length_take, List.length_drop, List.length_cons, List.length_nil, ints_len, List.length_replicate, pks_len, avs_len]; omega)) (by (simp only [List.length_append, List.length_take, List.length_drop, List.length_cons, List.length_nil, ints_len, List.length_replicate, pks_len, avs_len]; omega))) ?_ | refine ⟨_, _, rfl, ints_get (by first | omega | (simp only [ints_len] at *; omega)), ?_⟩ | refine ⟨_, _, (Int.toNat_of_nonneg (by first | omega | (simp only [ints_len] at *; omega))).symm, ints_get (by first | omega | (simp only [ints_len] at *; omega)), ?_⟩ | refine DrawOb.mk [] (.qs [0, 1, 2, 4, 5, 6, 7] (.l 3 [4] (.l 8 [] (.qs [9, 10, 11] .nil) .no) .no)) (by decide +kernel) ?_ | refine DrawOb.mk [] (.qs [0, 1, 2, 4, 5, 6, 7] (.l 3 [4] (.l 8 [] (.qs [9, 10, 11] .nil) .no) .no)) (by decide +kernel) ?_ | fail)
        all_goals try (conv => whnf)
        refine .mk [.fz 1] ?_
        refine CallOb.mk [] cF rfl (ImpL.refl _) rfl rfl ?_
        rintro _ _ ⟨rfl, rfl⟩
        repeat' (conv => whnf
                 first | (refine CondOb.mk (fun _ => ?_) (fun _ => ?_) <;> first | (exfalso; omega) | skip) | refine ArOb.fits (by first | omega | (simp only [ints_len] at *; omega)) ?_ | refine LitOb.vec ?_ | refine MakeOb.vec ?_ | refine AllocOb.box ?_ | refine AsgOb.vec ?_ | refine AggOb.mk (by decide +kernel) ?_ | refine ArU.fits (by first | omega | (simp only [ints_len] at *; omega)) ?_ | refine ArB.fits (by first | omega | (simp only [ints_len] at *; omega)) ?_ | refine CutOb.split ?_ | refine Gh.mk [] ?_ | refine And.intro (And.intro (by (simp only [List.length_append, List.length_take, List.length_drop, List.length_cons, List.length_nil, ints_len, List.length_replicate, pks_len, avs_len]; omega)) (by (simp only [List.length_append, List.length_take, List.length_drop, List.length_cons, List.length_nil, ints_len, List.length_replicate, pks_len, avs_len]; omega))) ?_ | refine ⟨_, _, rfl, ints_get (by first | omega | (simp only [ints_len] at *; omega)), ?_⟩ | refine ⟨_, _, (Int.toNat_of_nonneg (by first | omega | (simp only [ints_len] at *; omega))).symm, ints_get (by first | omega | (simp only [ints_len] at *; omega)), ?_⟩ | refine DrawOb.mk [] (.qs [0, 1, 2, 4, 5, 6, 7] (.l 3 [4] (.l 8 [] (.qs [9, 10, 11] .nil) .no) .no)) (by decide +kernel) ?_ | refine DrawOb.mk [] (.qs [0, 1, 2, 4, 5, 6, 7] (.l 3 [4] (.l 8 [] (.qs [9, 10, 11] .nil) .no) .no)) (by decide +kernel) ?_ | fail)
        all_goals try (conv => whnf)
        refine LoopOb.mk (Y := Nat) (st := fun t => ⟨[(23, i64 t), (20, .psl 3 (pks (fwP F))), (9, .ptr 1 0), (5, .ptr 0 0), (4, .psl 3 (pks p))], [.box [.psl 1 (ints f.1), i64 f.2.1, i64 f.2.2], .box [.psl 1 (ints c.1), i64 c.2.1, i64 c.2.2]]⟩)
          (inv := fun t => t ≤ 200) (fun t => 200 - t) 0 [3, 4] (by omega) (by (refine Le.mk (by kernel_rfl) ?_ ?_ <;> repeat' (first | exact True.intro | refine And.intro ?_ ?_ | exact Imp.refl _ | exact Imp.any _ | exact Imp.num (by first | omega | simp only [ints_len]) | exact rfl | exact Imp.bl (by simp)))) ?_
        intro t ht
        repeat' (conv => whnf
                 first | refine ArOb.fits (by first | omega | (simp only [ints_len] at *; omega)) ?_ | refine LitOb.vec ?_ | refine MakeOb.vec ?_ | refine AllocOb.box ?_ | refine AsgOb.vec ?_ | refine AggOb.mk (by decide +kernel) ?_ | refine ArU.fits (by first | omega | (simp only [ints_len] at *; omega)) ?_ | refine ArB.fits (by first | omega | (simp only [ints_len] at *; omega)) ?_ | refine CutOb.split ?_ | refine Gh.mk [] ?_ | refine And.intro (And.intro (by (simp only [List.length_append, List.length_take, List.length_drop, List.length_cons, List.length_nil, ints_len, List.length_replicate, pks_len, avs_len]; omega)) (by (simp only [List.length_append, List.length_take, List.length_drop, List.length_cons, List.length_nil, ints_len, List.length_replicate, pks_len, avs_len]; omega))) ?_ | refine ⟨_, _, rfl, ints_get (by first | omega | (simp only [ints_len] at *; omega)), ?_⟩ | refine ⟨_, _, (Int.toNat_of_nonneg (by first | omega | (simp only [ints_len] at *; omega))).symm, ints_get (by first | omega | (simp only [ints_len] at *; omega)), ?_⟩ | refine DrawOb.mk [] (.qs [0, 1, 2, 4, 5, 6, 7] (.l 3 [4] (.l 8 [] (.qs [9, 10, 11] .nil) .no) .no)) (by decide +kernel) ?_ | refine DrawOb.mk [] (.qs [0, 1, 2, 4, 5, 6, 7] (.l 3 [4] (.l 8 [] (.qs [9, 10, 11] .nil) .no) .no)) (by decide +kernel) ?_ | fail)
        all_goals try (conv => whnf)
        refine CondOb.mk (fun hl3 => ?_) (fun hl3 => ?_)
        · obtain ⟨u0, hu0, hu1⟩ := hT t ht
          have hlb := lsk_bd (G := fun u => A u + cv c (t - u)) (fun u => by have := (hAb u).1; have := cv_nonneg vc (t - u); omega)
          have hll := lsk_le (G := fun u => A u + cv c (t - u)) (k := t + 1) (u := u0) (by omega)
          have hqt := cQ t
          have hqb := hqb t
          repeat' (conv => whnf
                   first | (refine CondOb.mk (fun _ => ?_) (fun _ => ?_) <;> first | (exfalso; omega) | skip) | refine ArOb.fits (by first | omega | (simp only [ints_len] at *; omega)) ?_ | refine LitOb.vec ?_ | refine MakeOb.vec ?_ | refine AllocOb.box ?_ | refine AsgOb.vec ?_ | refine AggOb.mk (by decide +kernel) ?_ | refine ArU.fits (by first | omega | (simp only [ints_len] at *; omega)) ?_ | refine ArB.fits (by first | omega | (simp only [ints_len] at *; omega)) ?_ | refine CutOb.split ?_ | refine Gh.mk [] ?_ | refine And.intro (And.intro (by (simp only [List.length_append, List.length_take, List.length_drop, List.length_cons, List.length_nil, ints_len, List.length_replicate, pks_len, avs_len]; omega)) (by (simp only [List.length_append, List.length_take, List.length_drop, List.length_cons, List.length_nil, ints_len, List.length_replicate, pks_len, avs_len]; omega))) ?_ | refine ⟨_, _, rfl, ints_get (by first | omega | (simp only [ints_len] at *; omega)), ?_⟩ | refine ⟨_, _, (Int.toNat_of_nonneg (by first | omega | (simp only [ints_len] at *; omega))).symm, ints_get (by first | omega | (simp only [ints_len] at *; omega)), ?_⟩ | refine DrawOb.mk [] (.qs [0, 1, 2, 4, 5, 6, 7] (.l 3 [4] (.l 8 [] (.qs [9, 10, 11] .nil) .no) .no)) (by decide +kernel) ?_ | refine DrawOb.mk [] (.qs [0, 1, 2, 4, 5, 6, 7] (.l 3 [4] (.l 8 [] (.qs [9, 10, 11] .nil) .no) .no)) (by decide +kernel) ?_ | fail)
          all_goals try (conv => whnf)
          refine LoopOb.mk (Y := Nat) (st := fun u => ⟨[(25, i64 u), (24, i64 (lsk (fun u => A u + cv c (t - u)) u)), (23, i64 t), (20, .psl 3 (pks (fwP F))), (9, .ptr 1 0), (5, .ptr 0 0), (4, .psl 3 (pks p))], [.box [.psl 1 (ints f.1), i64 f.2.1, i64 f.2.2], .box [.psl 1 (ints c.1), i64 c.2.1, i64 c.2.2]]⟩)
            (inv := fun u => u ≤ t + 1) (fun u => t + 1 - u) 0 [0, 1] (by omega) (by (refine Le.mk (by kernel_rfl) ?_ ?_ <;> repeat' (first | exact True.intro | refine And.intro ?_ ?_ | exact Imp.refl _ | exact Imp.any _ | exact Imp.num (by first | omega | simp only [ints_len]) | exact rfl | exact Imp.bl (by simp)))) ?_
          intro u hu
          have hlu := hlb u
          repeat' (conv => whnf
                   first | refine ArOb.fits (by first | omega | (simp only [ints_len] at *; omega)) ?_ | refine LitOb.vec ?_ | refine MakeOb.vec ?_ | refine AllocOb.box ?_ | refine AsgOb.vec ?_ | refine AggOb.mk (by decide +kernel) ?_ | refine ArU.fits (by first | omega | (simp only [ints_len] at *; omega)) ?_ | refine ArB.fits (by first | omega | (simp only [ints_len] at *; omega)) ?_ | refine CutOb.split ?_ | refine Gh.mk [] ?_ | refine And.intro (And.intro (by (simp only [List.length_append, List.length_take, List.length_drop, List.length_cons, List.length_nil, ints_len, List.length_replicate, pks_len, avs_len]; omega)) (by (simp only [List.length_append, List.length_take, List.length_drop, List.length_cons, List.length_nil, ints_len, List.length_replicate, pks_len, avs_len]; omega))) ?_ | refine ⟨_, _, rfl, ints_get (by first | omega | (simp only [ints_len] at *; omega)), ?_⟩ | refine ⟨_, _, (Int.toNat_of_nonneg (by first | omega | (simp only [ints_len] at *; omega))).symm, ints_get (by first | omega | (simp only [ints_len] at *; omega)), ?_⟩ | refine DrawOb.mk [] (.qs [0, 1, 2, 4, 5, 6, 7] (.l 3 [4] (.l 8 [] (.qs [9, 10, 11] .nil) .no) .no)) (by decide +kernel) ?_ | refine DrawOb.mk [] (.qs [0, 1, 2, 4, 5, 6, 7] (.l 3 [4] (.l 8 [] (.qs [9, 10, 11] .nil) .no) .no)) (by decide +kernel) ?_ | fail)
          all_goals try (conv => whnf)
          refine CondOb.mk (fun hl4 => ?_) (fun hl4 => ?_)
          · have cU := cB u
            have cA := hAt_ok c (t - u) vc (by omega)
            have b1 := hAb u
            have b2 := hCb (t - u) (by omega)
            have e : lsk (fun u => A u + cv c (t - u)) (u + 1) = min (lsk (fun u => A u + cv c (t - u)) u) (A u + cv c (t - u)) := rfl
            clear hll hlb hu1
            generalize lsk (fun u => A u + cv c (t - u)) u = w at *
            generalize A u = x at *
            generalize cv c (t - u) = y at *
            repeat' (conv => whnf
                     first | (refine CondOb.mk (fun _ => ?_) (fun _ => ?_) <;> first | (exfalso; omega) | skip) | refine ArOb.fits (by first | omega | (simp only [ints_len] at *; omega)) ?_ | refine LitOb.vec ?_ | refine MakeOb.vec ?_ | refine AllocOb.box ?_ | refine AsgOb.vec ?_ | refine AggOb.mk (by decide +kernel) ?_ | refine ArU.fits (by first | omega | (simp only [ints_len] at *; omega)) ?_ | refine ArB.fits (by first | omega | (simp only [ints_len] at *; omega)) ?_ | refine CutOb.split ?_ | refine Gh.mk [] ?_ | refine And.intro (And.intro (by (simp only [List.length_append, List.length_take, List.length_drop, List.length_cons, List.length_nil, ints_len, List.length_replicate, pks_len, avs_len]; omega)) (by (simp only [List.length_append, List.length_take, List.length_drop, List.length_cons, List.length_nil, ints_len, List.length_replicate, pks_len, avs_len]; omega))) ?_ | refine ⟨_, _, rfl, ints_get (by first | omega | (simp only [ints_len] at *; omega)), ?_⟩ | refine ⟨_, _, (Int.toNat_of_nonneg (by first | omega | (simp only [ints_len] at *; omega))).symm, ints_get (by first | omega | (simp only [ints_len] at *; omega)), ?_⟩ | refine DrawOb.mk [] (.qs [0, 1, 2, 4, 5, 6, 7] (.l 3 [4] (.l 8 [] (.qs [9, 10, 11] .nil) .no) .no)) (by decide +kernel) ?_ | refine DrawOb.mk [] (.qs [0, 1, 2, 4, 5, 6, 7] (.l 3 [4] (.l 8 [] (.qs [9, 10, 11] .nil) .no) .no)) (by decide +kernel) ?_ | (refine CallOb.mk [] cU rfl (ImpL.refl _) rfl rfl ?_; rintro _ _ ⟨rfl, rfl⟩) | (refine CallOb.mk [] cA rfl ⟨Imp.refl _, Imp.num (by omega), trivial⟩ rfl rfl ?_; rintro _ _ ⟨rfl, rfl⟩) | fail)
            all_goals try (conv => whnf)
            exact ⟨u + 1, [0, 1], by omega, by omega, by rw [e]; (refine Le.mk (by kernel_rfl) ?_ ?_ <;> repeat' (first | exact True.intro | refine And.intro ?_ ?_ | exact Imp.refl _ | exact Imp.any _ | exact Imp.num (by first | omega | simp only [ints_len]) | exact rfl | exact Imp.bl (by simp)))⟩
          · have e : u = t + 1 := by omega
            subst e
            have hfin : ¬(D (t : Int) p.length < lsk (fun u => A u + cv c (t - u)) (t + 1)) := by (try dsimp only at hll); omega
            clear hll hlb hu1
            generalize lsk (fun u => A u + cv c (t - u)) (t + 1) = w at *
            generalize D (t : Int) p.length = z at *
            repeat' (conv => whnf
                     first | (refine CondOb.mk (fun _ => ?_) (fun _ => ?_) <;> first | (exfalso; omega) | skip) | refine ArOb.fits (by first | omega | (simp only [ints_len] at *; omega)) ?_ | refine LitOb.vec ?_ | refine MakeOb.vec ?_ | refine AllocOb.box ?_ | refine AsgOb.vec ?_ | refine AggOb.mk (by decide +kernel) ?_ | refine ArU.fits (by first | omega | (simp only [ints_len] at *; omega)) ?_ | refine ArB.fits (by first | omega | (simp only [ints_len] at *; omega)) ?_ | refine CutOb.split ?_ | refine Gh.mk [] ?_ | refine And.intro (And.intro (by (simp only [List.length_append, List.length_take, List.length_drop, List.length_cons, List.length_nil, ints_len, List.length_replicate, pks_len, avs_len]; omega)) (by (simp only [List.length_append, List.length_take, List.length_drop, List.length_cons, List.length_nil, ints_len, List.length_replicate, pks_len, avs_len]; omega))) ?_ | refine ⟨_, _, rfl, ints_get (by first | omega | (simp only [ints_len] at *; omega)), ?_⟩ | refine ⟨_, _, (Int.toNat_of_nonneg (by first | omega | (simp only [ints_len] at *; omega))).symm, ints_get (by first | omega | (simp only [ints_len] at *; omega)), ?_⟩ | refine DrawOb.mk [] (.qs [0, 1, 2, 4, 5, 6, 7] (.l 3 [4] (.l 8 [] (.qs [9, 10, 11] .nil) .no) .no)) (by decide +kernel) ?_ | refine DrawOb.mk [] (.qs [0, 1, 2, 4, 5, 6, 7] (.l 3 [4] (.l 8 [] (.qs [9, 10, 11] .nil) .no) .no)) (by decide +kernel) ?_ | (refine CallOb.mk [] hqt rfl (ImpL.refl _) rfl rfl ?_; rintro _ _ ⟨rfl, rfl⟩) | fail)
            all_goals try (conv => whnf)
            exact ⟨t + 1, [0, 1], by omega, by omega, by (refine Le.mk (by kernel_rfl) ?_ ?_ <;> repeat' (first | exact True.intro | refine And.intro ?_ ?_ | exact Imp.refl _ | exact Imp.any _ | exact Imp.num (by first | omega | simp only [ints_len]) | exact rfl | exact Imp.bl (by simp)))⟩
        · repeat' (conv => whnf
                   first | (refine CondOb.mk (fun _ => ?_) (fun _ => ?_) <;> first | (exfalso; omega) | skip) | refine ArOb.fits (by first | omega | (simp only [ints_len] at *; omega)) ?_ | refine LitOb.vec ?_ | refine MakeOb.vec ?_ | refine AllocOb.box ?_ | refine AsgOb.vec ?_ | refine AggOb.mk (by decide +kernel) ?_ | refine ArU.fits (by first | omega | (simp only [ints_len] at *; omega)) ?_ | refine ArB.fits (by first | omega | (simp only [ints_len] at *; omega)) ?_ | refine CutOb.split ?_ | refine Gh.mk [] ?_ | refine And.intro (And.intro (by (simp only [List.length_append, List.length_take, List.length_drop, List.length_cons, List.length_nil, ints_len, List.length_replicate, pks_len, avs_len]; omega)) (by (simp only [List.length_append, List.length_take, List.length_drop, List.length_cons, List.length_nil, ints_len, List.length_replicate, pks_len, avs_len]; omega))) ?_ | refine ⟨_, _, rfl, ints_get (by first | omega | (simp only [ints_len] at *; omega)), ?_⟩ | refine ⟨_, _, (Int.toNat_of_nonneg (by first | omega | (simp only [ints_len] at *; omega))).symm, ints_get (by first | omega | (simp only [ints_len] at *; omega)), ?_⟩ | refine DrawOb.mk [] (.qs [0, 1, 2, 4, 5, 6, 7] (.l 3 [4] (.l 8 [] (.qs [9, 10, 11] .nil) .no) .no)) (by decide +kernel) ?_ | refine DrawOb.mk [] (.qs [0, 1, 2, 4, 5, 6, 7] (.l 3 [4] (.l 8 [] (.qs [9, 10, 11] .nil) .no) .no)) (by decide +kernel) ?_ | (refine CallOb.mk [] cO rfl (ImpL.refl _) rfl rfl ?_; rintro _ _ ⟨⟨⟨y1, y2, y3⟩, y4⟩, hy, rfl, rfl⟩; try dsimp only at hy ⊢) | (refine CallOb.mk [] (awake15_ok) rfl (ImpL.refl _) rfl rfl ?_; rintro _ _ ⟨rfl, rfl⟩) | fail)
          all_goals try (conv => whnf)
          all_goals first
            | rfl
            | (exfalso; omega)
            | trace_state
  · repeat' (conv => whnf
             first | (refine CondOb.mk (fun _ => ?_) (fun _ => ?_) <;> first | (exfalso; omega) | skip) | refine ArOb.fits (by first | omega | (simp only [ints_len] at *; omega)) ?_ | refine LitOb.vec ?_ | refine MakeOb.vec ?_ | refine AllocOb.box ?_ | refine AsgOb.vec ?_ | refine AggOb.mk (by decide +kernel) ?_ | refine ArU.fits (by first | omega | (simp only [ints_len] at *; omega)) ?_ | refine ArB.fits (by first | omega | (simp only [ints_len] at *; omega)) ?_ | refine CutOb.split ?_ | refine Gh.mk [] ?_ | refine And.intro (And.intro (by (simp only [List.length_append, List.length_take, List.length_drop, List.length_cons, List.length_nil, ints_len, List.length_replicate, pks_len, avs_len]; omega)) (by (simp only [List.length_append, List.length_take, List.length_drop, List.length_cons, List.length_nil, ints_len, List.length_replicate, pks_len, avs_len]; omega))) ?_ | refine ⟨_, _, rfl, ints_get (by first | omega | (simp only [ints_len] at *; omega)), ?_⟩ | refine ⟨_, _, (Int.toNat_of_nonneg (by first | omega | (simp only [ints_len] at *; omega))).symm, ints_get (by first | omega | (simp only [ints_len] at *; omega)), ?_⟩ | refine DrawOb.mk [] (.qs [0, 1, 2, 4, 5, 6, 7] (.l 3 [4] (.l 8 [] (.qs [9, 10, 11] .nil) .no) .no)) (by decide +kernel) ?_ | refine DrawOb.mk [] (.qs [0, 1, 2, 4, 5, 6, 7] (.l 3 [4] (.l 8 [] (.qs [9, 10, 11] .nil) .no) .no)) (by decide +kernel) ?_ | (refine CallOb.mk [] (awake15_ok) rfl (ImpL.refl _) rfl rfl ?_; rintro _ _ ⟨rfl, rfl⟩) | fail)
    all_goals try (conv => whnf)
    all_goals first
      | rfl
      | (exfalso; omega)
      | trace_state
end Go.Proofs.Ytlnpbgjoccipaaa
