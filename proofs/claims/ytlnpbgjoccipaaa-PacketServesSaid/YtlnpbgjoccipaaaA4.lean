/-
  A text of the proofs of this seat: lemmas that the statements' proofs use; it states nothing of the program by itself beyond the contracts that its theorems bear. Conditions: those that stand in each theorem. Its short name: A4.
-/
import Derived.Test.YtlnpbgjoccipaaaA3
import Derived.Test.YtlnpbgjoccipaaaTi
import Derived.Test.YtlnpbgjoccipaaaH1
import Derived.Test.YtlnpbgjoccipaaaPl
set_option linter.unusedVariables false
set_option linter.unusedSimpArgs false
namespace Go.Proofs.Ytlnpbgjoccipaaa
open Go.Sx Go.Pk Go.Cv Go.St
set_option maxRecDepth 8000
set_option maxHeartbeats 2000000
--APPX pks_len, avs_len
/- the packets of a flow among the first i -/
theorem sels_step (p : List Pk) (flow : Int) (i : Nat) : (sel flow (p.getD i pk0) → slP (selN p flow (i + 1)) = slP (selN p flow i) ++ [p.getD i pk0]) ∧ (¬sel flow (p.getD i pk0) → slP (selN p flow (i + 1)) = slP (selN p flow i)) := by
  obtain ⟨h1, h2⟩ := selN_step p flow i
  exact ⟨fun h => by rw [h1 h]; simp [slP], fun h => by rw [h2 h]⟩
theorem rSelect_ok (p : List Pk) (hp : p.length ≤ 1000000) (flow : Int) : Ctr Try.prog 24 [.psl 3 (pks p), i64 flow] [] (fun r o => o = [] ∧ r = .psl 3 (pks (sels p flow))) := by
  refine Ctr.imp ?_
  refine fn_intro (E := env 0) tys_ok rfl rfl rfl Try.func24 (by kernel_rfl) rfl (by kernel_rfl) ?_
  have hpl := pks_len p
  repeat' (conv => whnf
           first | (refine CondOb.mk (fun _ => ?_) (fun _ => ?_) <;> first | (exfalso; omega) | skip) | refine ArOb.fits (by first | omega | (simp only [ints_len] at *; omega)) ?_ | refine LitOb.vec ?_ | refine MakeOb.vec ?_ | refine AllocOb.box ?_ | refine AsgOb.vec ?_ | refine AggOb.mk (by decide +kernel) ?_ | refine ArU.fits (by first | omega | (simp only [ints_len] at *; omega)) ?_ | refine ArB.fits (by first | omega | (simp only [ints_len] at *; omega)) ?_ | refine CutOb.split ?_ | refine Gh.mk [] ?_ | refine And.intro (And.intro (by (simp only [List.length_append, List.length_take, List.length_drop, List.length_cons, List.length_nil, ints_len, List.length_replicate, pks_len, avs_len]; omega)) (by (simp only [List.length_append, List.length_take, List.length_drop, List.length_cons, List.length_nil, ints_len, List.length_replicate, pks_len, avs_len]; omega))) ?_ | refine ⟨_, _, rfl, ints_get (by first | omega | (simp only [ints_len] at *; omega)), ?_⟩ | refine ⟨_, _, (Int.toNat_of_nonneg (by first | omega | (simp only [ints_len] at *; omega))).symm, ints_get (by first | omega | (simp only [ints_len] at *; omega)), ?_⟩ | fail)
  all_goals try (conv => whnf)
  refine LoopOb.mk (Y := Nat) (st := fun i => ⟨[(6, i64 i), (5, .vec 0), (0, .psl 3 (pks p)), (1, i64 flow)], [.vec 3 (pks (slP (selN p flow i)))]⟩)
    (inv := fun i => i ≤ p.length) (fun i => p.length - i) 0 [1] (by omega) (by (refine Le.mk (by kernel_rfl) ?_ ?_ <;> repeat' (first | exact True.intro | refine And.intro ?_ ?_ | exact Imp.refl _ | exact Imp.any _ | exact Imp.num (by first | omega | simp only [ints_len]) | exact rfl | exact Imp.bl (by simp)))) ?_
  intro i hi
  have hxl := pks_len (slP (selN p flow i))
  have hxl2 := selN_len p flow i
  have hxl3 : (slP (selN p flow i)).length = (selN p flow i).length := by simp [slP]
  repeat' (conv => whnf
           first | refine ArOb.fits (by first | omega | (simp only [ints_len] at *; omega)) ?_ | refine LitOb.vec ?_ | refine MakeOb.vec ?_ | refine AllocOb.box ?_ | refine AsgOb.vec ?_ | refine AggOb.mk (by decide +kernel) ?_ | refine ArU.fits (by first | omega | (simp only [ints_len] at *; omega)) ?_ | refine ArB.fits (by first | omega | (simp only [ints_len] at *; omega)) ?_ | refine CutOb.split ?_ | refine Gh.mk [] ?_ | refine And.intro (And.intro (by (simp only [List.length_append, List.length_take, List.length_drop, List.length_cons, List.length_nil, ints_len, List.length_replicate, pks_len, avs_len]; omega)) (by (simp only [List.length_append, List.length_take, List.length_drop, List.length_cons, List.length_nil, ints_len, List.length_replicate, pks_len, avs_len]; omega))) ?_ | refine ⟨_, _, rfl, ints_get (by first | omega | (simp only [ints_len] at *; omega)), ?_⟩ | refine ⟨_, _, (Int.toNat_of_nonneg (by first | omega | (simp only [ints_len] at *; omega))).symm, ints_get (by first | omega | (simp only [ints_len] at *; omega)), ?_⟩ | fail)
  all_goals try (conv => whnf)
  refine CondOb.mk (fun hlt => ?_) (fun hlt => ?_)
  · have hil : i < p.length := by omega
    have hg := pks_get hil
    obtain ⟨hs1, hs2⟩ := sels_step p flow i
    have hs1 : sel flow (p.getD i pk0) → pks (slP (selN p flow (i + 1))) = pks (slP (selN p flow i)) ++ [pkw (p.getD i pk0)] := fun h => by rw [hs1 h, pks_app]
    have hs2 : ¬sel flow (p.getD i pk0) → pks (slP (selN p flow (i + 1))) = pks (slP (selN p flow i)) := fun h => by rw [hs2 h]
    unfold sel at hs1 hs2
    generalize p.getD i pk0 = x at *
    repeat' (conv => whnf
             first | refine LitOb.ful ?_ | refine ⟨i, _, rfl, hg, ?_⟩ | (refine CondOb.mk (fun _ => ?_) (fun _ => ?_) <;> first | (exfalso; omega) | skip) | refine ArOb.fits (by first | omega | (simp only [ints_len] at *; omega)) ?_ | refine LitOb.vec ?_ | refine MakeOb.vec ?_ | refine AllocOb.box ?_ | refine AsgOb.vec ?_ | refine AggOb.mk (by decide +kernel) ?_ | refine ArU.fits (by first | omega | (simp only [ints_len] at *; omega)) ?_ | refine ArB.fits (by first | omega | (simp only [ints_len] at *; omega)) ?_ | refine CutOb.split ?_ | refine Gh.mk [] ?_ | refine And.intro (And.intro (by (simp only [List.length_append, List.length_take, List.length_drop, List.length_cons, List.length_nil, ints_len, List.length_replicate, pks_len, avs_len]; omega)) (by (simp only [List.length_append, List.length_take, List.length_drop, List.length_cons, List.length_nil, ints_len, List.length_replicate, pks_len, avs_len]; omega))) ?_ | refine ⟨_, _, rfl, ints_get (by first | omega | (simp only [ints_len] at *; omega)), ?_⟩ | refine ⟨_, _, (Int.toNat_of_nonneg (by first | omega | (simp only [ints_len] at *; omega))).symm, ints_get (by first | omega | (simp only [ints_len] at *; omega)), ?_⟩ | fail)
    all_goals try (conv => whnf)
    all_goals first
      | exact ⟨i + 1, [0], by omega, by omega, by rw [hs2 (by omega)]; (refine Le.mk (by kernel_rfl) ?_ ?_ <;> repeat' (first | exact True.intro | refine And.intro ?_ ?_ | exact Imp.refl _ | exact Imp.any _ | exact Imp.num (by first | omega | simp only [ints_len]) | exact rfl | exact Imp.bl (by simp)))⟩
      | exact ⟨i + 1, [1], by omega, by omega, by rw [hs1 (by omega)]; (refine Le.mk (by kernel_rfl) ?_ ?_ <;> repeat' (first | exact True.intro | refine And.intro ?_ ?_ | exact Imp.refl _ | exact Imp.any _ | exact Imp.num (by first | omega | simp only [ints_len]) | exact rfl | exact Imp.bl (by simp)))⟩
      | trace_state
  · have e : i = p.length := by omega
    subst e
    repeat' (conv => whnf
             first | (refine CondOb.mk (fun _ => ?_) (fun _ => ?_) <;> first | (exfalso; omega) | skip) | refine ArOb.fits (by first | omega | (simp only [ints_len] at *; omega)) ?_ | refine LitOb.vec ?_ | refine MakeOb.vec ?_ | refine AllocOb.box ?_ | refine AsgOb.vec ?_ | refine AggOb.mk (by decide +kernel) ?_ | refine ArU.fits (by first | omega | (simp only [ints_len] at *; omega)) ?_ | refine ArB.fits (by first | omega | (simp only [ints_len] at *; omega)) ?_ | refine CutOb.split ?_ | refine And.intro (And.intro (by (simp only [List.length_append, List.length_take, List.length_drop, List.length_cons, List.length_nil, ints_len, List.length_replicate, pks_len, avs_len]; omega)) (by (simp only [List.length_append, List.length_take, List.length_drop, List.length_cons, List.length_nil, ints_len, List.length_replicate, pks_len, avs_len]; omega))) ?_ | refine ⟨_, _, rfl, ints_get (by first | omega | (simp only [ints_len] at *; omega)), ?_⟩ | refine ⟨_, _, (Int.toNat_of_nonneg (by first | omega | (simp only [ints_len] at *; omega))).symm, ints_get (by first | omega | (simp only [ints_len] at *; omega)), ?_⟩ | fail)
    all_goals try (conv => whnf)
    refine .mk [.fz 0] ?_
    repeat' (conv => whnf
             first | (refine CondOb.mk (fun _ => ?_) (fun _ => ?_) <;> first | (exfalso; omega) | skip) | refine ArOb.fits (by first | omega | (simp only [ints_len] at *; omega)) ?_ | refine LitOb.vec ?_ | refine MakeOb.vec ?_ | refine AllocOb.box ?_ | refine AsgOb.vec ?_ | refine AggOb.mk (by decide +kernel) ?_ | refine ArU.fits (by first | omega | (simp only [ints_len] at *; omega)) ?_ | refine ArB.fits (by first | omega | (simp only [ints_len] at *; omega)) ?_ | refine CutOb.split ?_ | refine Gh.mk [] ?_ | refine And.intro (And.intro (by (simp only [List.length_append, List.length_take, List.length_drop, List.length_cons, List.length_nil, ints_len, List.length_replicate, pks_len, avs_len]; omega)) (by (simp only [List.length_append, List.length_take, List.length_drop, List.length_cons, List.length_nil, ints_len, List.length_replicate, pks_len, avs_len]; omega))) ?_ | refine ⟨_, _, rfl, ints_get (by first | omega | (simp only [ints_len] at *; omega)), ?_⟩ | refine ⟨_, _, (Int.toNat_of_nonneg (by first | omega | (simp only [ints_len] at *; omega))).symm, ints_get (by first | omega | (simp only [ints_len] at *; omega)), ?_⟩ | fail)
    all_goals try (conv => whnf)
    exact ⟨rfl, Imp.refl _⟩
theorem bysL_snoc (t : Int) (l : List (Nat × Pk)) (x : Nat × Pk) : bysL t (l ++ [x]) = bysL t l + if x.2.t < t then x.2.s else 0 := by
  rw [bysL_app]; simp [bysL]
theorem rBytes_ok (p : List Pk) (hp : p.length ≤ 1000000) (hsm : Sml p) (flow t : Int) : Ctr Try.prog 37 [.psl 3 (pks p), i64 flow, i64 t] [] (fun r o => o = [] ∧ r = i64 (bys p flow t)) := by
  refine fn_intro (E := env 0) tys_ok rfl rfl rfl Try.func37 (by kernel_rfl) rfl (by kernel_rfl) ?_
  have hpl := pks_len p
  repeat' (conv => whnf
           first | (refine CondOb.mk (fun _ => ?_) (fun _ => ?_) <;> first | (exfalso; omega) | skip) | refine ArOb.fits (by first | omega | (simp only [ints_len] at *; omega)) ?_ | refine LitOb.vec ?_ | refine MakeOb.vec ?_ | refine AllocOb.box ?_ | refine AsgOb.vec ?_ | refine AggOb.mk (by decide +kernel) ?_ | refine ArU.fits (by first | omega | (simp only [ints_len] at *; omega)) ?_ | refine ArB.fits (by first | omega | (simp only [ints_len] at *; omega)) ?_ | refine CutOb.split ?_ | refine Gh.mk [] ?_ | refine And.intro (And.intro (by (simp only [List.length_append, List.length_take, List.length_drop, List.length_cons, List.length_nil, ints_len, List.length_replicate, pks_len, avs_len]; omega)) (by (simp only [List.length_append, List.length_take, List.length_drop, List.length_cons, List.length_nil, ints_len, List.length_replicate, pks_len, avs_len]; omega))) ?_ | refine ⟨_, _, rfl, ints_get (by first | omega | (simp only [ints_len] at *; omega)), ?_⟩ | refine ⟨_, _, (Int.toNat_of_nonneg (by first | omega | (simp only [ints_len] at *; omega))).symm, ints_get (by first | omega | (simp only [ints_len] at *; omega)), ?_⟩ | fail)
  all_goals try (conv => whnf)
  refine LoopOb.mk (Y := Nat) (st := fun i => ⟨[(8, i64 i), (7, i64 (bysL t (selN p flow i))), (0, .psl 3 (pks p)), (1, i64 flow), (2, i64 t)], []⟩)
    (inv := fun i => i ≤ p.length) (fun i => p.length - i) 0 [] (by omega) (by (refine Le.mk (by kernel_rfl) ?_ ?_ <;> repeat' (first | exact True.intro | refine And.intro ?_ ?_ | exact Imp.refl _ | exact Imp.any _ | exact Imp.num (by first | omega | simp only [ints_len]) | exact rfl | exact Imp.bl (by simp)))) ?_
  intro i hi
  have hb := bysL_bd (t := t) (l := selN p flow i) fun x hx => hsm x.2 (selN_mem hi x hx).2.2
  have hxl2 := selN_len p flow i
  repeat' (conv => whnf
           first | refine ArOb.fits (by first | omega | (simp only [ints_len] at *; omega)) ?_ | refine LitOb.vec ?_ | refine MakeOb.vec ?_ | refine AllocOb.box ?_ | refine AsgOb.vec ?_ | refine AggOb.mk (by decide +kernel) ?_ | refine ArU.fits (by first | omega | (simp only [ints_len] at *; omega)) ?_ | refine ArB.fits (by first | omega | (simp only [ints_len] at *; omega)) ?_ | refine CutOb.split ?_ | refine Gh.mk [] ?_ | refine And.intro (And.intro (by (simp only [List.length_append, List.length_take, List.length_drop, List.length_cons, List.length_nil, ints_len, List.length_replicate, pks_len, avs_len]; omega)) (by (simp only [List.length_append, List.length_take, List.length_drop, List.length_cons, List.length_nil, ints_len, List.length_replicate, pks_len, avs_len]; omega))) ?_ | refine ⟨_, _, rfl, ints_get (by first | omega | (simp only [ints_len] at *; omega)), ?_⟩ | refine ⟨_, _, (Int.toNat_of_nonneg (by first | omega | (simp only [ints_len] at *; omega))).symm, ints_get (by first | omega | (simp only [ints_len] at *; omega)), ?_⟩ | fail)
  all_goals try (conv => whnf)
  refine CondOb.mk (fun hlt => ?_) (fun hlt => ?_)
  · have hil : i < p.length := by omega
    have hg := pks_get hil
    obtain ⟨hs1, hs2⟩ := selN_step p flow i
    have hb2 := hsm _ (getD_memP hil)
    have e1 : sel flow (p.getD i pk0) → (p.getD i pk0).t < t → bysL t (selN p flow (i + 1)) = bysL t (selN p flow i) + (p.getD i pk0).s := fun h h' => by rw [hs1 h, bysL_snoc, if_pos h']
    have e2 : ¬(p.getD i pk0).t < t → bysL t (selN p flow (i + 1)) = bysL t (selN p flow i) := fun h' => by
      by_cases h : sel flow (p.getD i pk0)
      · rw [hs1 h, bysL_snoc, if_neg h', Int.add_zero]
      · rw [hs2 h]
    have e3 : ¬sel flow (p.getD i pk0) → bysL t (selN p flow (i + 1)) = bysL t (selN p flow i) := fun h => by rw [hs2 h]
    clear hs1 hs2
    unfold sel at e1 e3
    generalize p.getD i pk0 = x at *
    have hB : bysL t (selN p flow i) ≤ 1000000000000 := by omega
    clear hxl2
    generalize bysL t (selN p flow i) = B at *
    repeat' (conv => whnf
             first | refine ⟨i, _, rfl, hg, ?_⟩ | (refine CondOb.mk (fun _ => ?_) (fun _ => ?_) <;> first | (exfalso; omega) | skip) | refine ArOb.fits (by first | omega | (simp only [ints_len] at *; omega)) ?_ | refine LitOb.vec ?_ | refine MakeOb.vec ?_ | refine AllocOb.box ?_ | refine AsgOb.vec ?_ | refine AggOb.mk (by decide +kernel) ?_ | refine ArU.fits (by first | omega | (simp only [ints_len] at *; omega)) ?_ | refine ArB.fits (by first | omega | (simp only [ints_len] at *; omega)) ?_ | refine CutOb.split ?_ | refine Gh.mk [] ?_ | refine And.intro (And.intro (by (simp only [List.length_append, List.length_take, List.length_drop, List.length_cons, List.length_nil, ints_len, List.length_replicate, pks_len, avs_len]; omega)) (by (simp only [List.length_append, List.length_take, List.length_drop, List.length_cons, List.length_nil, ints_len, List.length_replicate, pks_len, avs_len]; omega))) ?_ | refine ⟨_, _, rfl, ints_get (by first | omega | (simp only [ints_len] at *; omega)), ?_⟩ | refine ⟨_, _, (Int.toNat_of_nonneg (by first | omega | (simp only [ints_len] at *; omega))).symm, ints_get (by first | omega | (simp only [ints_len] at *; omega)), ?_⟩ | fail)
    all_goals try (conv => whnf)
    all_goals first
      | exact ⟨i + 1, [], by omega, by omega, by rw [e1 (by omega) (by omega)]; (refine Le.mk (by kernel_rfl) ?_ ?_ <;> repeat' (first | exact True.intro | refine And.intro ?_ ?_ | exact Imp.refl _ | exact Imp.any _ | exact Imp.num (by first | omega | simp only [ints_len]) | exact rfl | exact Imp.bl (by simp)))⟩
      | exact ⟨i + 1, [], by omega, by omega, by rw [e2 (by omega)]; (refine Le.mk (by kernel_rfl) ?_ ?_ <;> repeat' (first | exact True.intro | refine And.intro ?_ ?_ | exact Imp.refl _ | exact Imp.any _ | exact Imp.num (by first | omega | simp only [ints_len]) | exact rfl | exact Imp.bl (by simp)))⟩
      | exact ⟨i + 1, [], by omega, by omega, by rw [e3 (by omega)]; (refine Le.mk (by kernel_rfl) ?_ ?_ <;> repeat' (first | exact True.intro | refine And.intro ?_ ?_ | exact Imp.refl _ | exact Imp.any _ | exact Imp.num (by first | omega | simp only [ints_len]) | exact rfl | exact Imp.bl (by simp)))⟩
      | trace_state
  · have e : i = p.length := by omega
    subst e
    repeat' (conv => whnf
             first | (refine CondOb.mk (fun _ => ?_) (fun _ => ?_) <;> first | (exfalso; omega) | skip) | refine ArOb.fits (by first | omega | (simp only [ints_len] at *; omega)) ?_ | refine LitOb.vec ?_ | refine MakeOb.vec ?_ | refine AllocOb.box ?_ | refine AsgOb.vec ?_ | refine AggOb.mk (by decide +kernel) ?_ | refine ArU.fits (by first | omega | (simp only [ints_len] at *; omega)) ?_ | refine ArB.fits (by first | omega | (simp only [ints_len] at *; omega)) ?_ | refine CutOb.split ?_ | refine Gh.mk [] ?_ | refine And.intro (And.intro (by (simp only [List.length_append, List.length_take, List.length_drop, List.length_cons, List.length_nil, ints_len, List.length_replicate, pks_len, avs_len]; omega)) (by (simp only [List.length_append, List.length_take, List.length_drop, List.length_cons, List.length_nil, ints_len, List.length_replicate, pks_len, avs_len]; omega))) ?_ | refine ⟨_, _, rfl, ints_get (by first | omega | (simp only [ints_len] at *; omega)), ?_⟩ | refine ⟨_, _, (Int.toNat_of_nonneg (by first | omega | (simp only [ints_len] at *; omega))).symm, ints_get (by first | omega | (simp only [ints_len] at *; omega)), ?_⟩ | fail)
    all_goals try (conv => whnf)
    exact ⟨rfl, rfl⟩
theorem hAt_ok (a : C3) (t : Nat) (ha : VC a) (ht : t ≤ 1048576) : Ctr Try.prog 32 [crv a.1 a.2.1 a.2.2, i64 t] [] (fun r o => o = [] ∧ r = i64 (cv a t)) :=
  At_ok a.1 a.2.1 a.2.2 t (bd_of ha) (by omega) (by omega)
theorem hVal_ok (a : C3) (ha : VC a) : Ctr Try.prog 40 [crv a.1 a.2.1 a.2.2] [] (fun r o => o = [] ∧ r = .bl true) :=
  Ctr.imp ((Valid_ok a.1 a.2.1 a.2.2).mono (fun r o ⟨h1, h2⟩ => ⟨h1, by rw [h2]; exact Imp.bpl ⟨fun _ => rfl, fun _ => ha.valid⟩⟩))
/-! the examples of the chapter -/
abbrev exP : List Pk := [⟨0, 0, 10⟩, ⟨0, 0, 5⟩, ⟨0, 3, 20⟩]
abbrev exD : List Int := [-1, 2, 7]
theorem exP_v : Vld exP := vld_zero.1 (by decide +kernel)
theorem exD_o : OKd exP exD := ⟨rfl, fun i hi => by
  have : i < 3 := hi
  rcases i with _ | _ | _ | i
  · exact .inl rfl
  · exact .inr (by decide)
  · exact .inr (by decide)
  · omega⟩
theorem exW : whl (sels exP 0) 30 = 15 := by decide +kernel
theorem exFP : pks (fwP (fwd exP exD)) = pks [⟨0, 3, 5⟩, ⟨0, 8, 20⟩] := by rfl
theorem exFI : fwI (fwd exP exD) = [1, 2] := by rfl
theorem exDl : vals (dly exP exD) exP.length = [-1, 2, 4] := by decide +kernel
theorem exH {x : List Int × Int × Int × Int} (h : HopR exF 15 x) : ∃ c : C3, VC c ∧ (cv c 2 = 0 ∧ cv c 3 = 6 ∧ cv c 4 = 16) ∧ x = (c.1, (c.2.1 : Int), c.2.2, 0) := by
  have h399 : cv exF 399 = 3990 := by decide +kernel
  rcases h with ⟨⟨_, h⟩, _⟩ | ⟨_, h⟩
  · omega
  · have hv : ∀ t, t < 4 → hpf exF 15 t ≤ 1073741824 := by decide +kernel
    obtain ⟨c, h1, h2, h3⟩ := mk_fits (s := 3) (p := 1) (q := 10) h (by decide) (hpf_mono exF_v (by decide)) (hpf_per exF_v exF_f (by decide) (.inr (by decide +kernel))) (by decide) (by decide) (by decide) (by decide) hv
    exact ⟨c, h1, ⟨by rw [h2]; decide +kernel, by rw [h2]; decide +kernel, by rw [h2]; decide +kernel⟩, h3⟩
end Go.Proofs.Ytlnpbgjoccipaaa
