/-
  A text of the proofs of this seat: lemmas that the statements' proofs use; it states nothing of the program by itself beyond the contracts that its theorems bear. Conditions: those that stand in each theorem. Its short name: T3.
-/
import Derived.Test.YtlnpbgjoccipaaaT2
set_option linter.unusedVariables false
set_option linter.unusedSimpArgs false
namespace Go.Proofs.Ytlnpbgjoccipaaa
open Go.Sx Go.Pk Go.Cv
set_option maxRecDepth 4000
set_option maxHeartbeats 2000000
theorem ints_set (V : List Int) (k : Nat) (v : Int) : (ints V).set k [i64 v] = ints (V.set k v) := by simp [ints, List.map_set]
abbrev cmO (n : Int) (F : Nat → Int) (m : Nat) : List Chunk := [.box [i64 n], .vec 1 (ints (vals F m)), .box [.vec 1]]
theorem of1C (Y : YP) (hm : Y.m = 3) (p : List Pk) (hp : p.length ≤ 1000000) (flow n : Int) (m : Nat) (F : Nat → Nat → Int)
    (hY : ∀ j x, (selN p flow p.length)[j]? = some x → CtrY Try.prog Y (rnd x) (cmO n (F j) m) (fun v o' => v = .bl true ∧ o' = cmO n (F (j + 1)) m)) :
    CtrL Try.prog Y 84 [.raw (yv Y.L), .pptr [.psl 3 (pks p)], .pptr [i64 flow]] (cmO n (F 0) m) (fun _ o => o = cmO n (F (selN p flow p.length).length) m) := by
  refine fn_introY (E := env 3) tys_ok rfl rfl rfl Try.func84 (by kernel_rfl) rfl (by kernel_rfl) ?_
  have hpl := pks_len p
  repeat' (conv => whnf
           first | (refine CondOb.mk (fun _ => ?_) (fun _ => ?_) <;> first | (exfalso; omega) | skip) | refine ArOb.fits (by first | omega | (simp only [ints_len] at *; omega)) ?_ | refine LitOb.vec ?_ | refine MakeOb.vec ?_ | refine AllocOb.box ?_ | refine AsgOb.vec ?_ | refine AggOb.mk (by decide +kernel) ?_ | refine ArU.fits (by first | omega | (simp only [ints_len] at *; omega)) ?_ | refine ArB.fits (by first | omega | (simp only [ints_len] at *; omega)) ?_ | refine CutOb.split ?_ | refine Gh.mk [] ?_ | refine And.intro (And.intro (by (simp only [List.length_append, List.length_take, List.length_drop, List.length_cons, List.length_nil, ints_len, List.length_replicate, Go.Cv.vals_len]; omega)) (by (simp only [List.length_append, List.length_take, List.length_drop, List.length_cons, List.length_nil, ints_len, List.length_replicate, Go.Cv.vals_len]; omega))) ?_ | refine ⟨_, _, rfl, ints_get (by first | omega | (simp only [ints_len] at *; omega)), ?_⟩ | refine ⟨_, _, (Int.toNat_of_nonneg (by first | omega | (simp only [ints_len] at *; omega))).symm, ints_get (by first | omega | (simp only [ints_len] at *; omega)), ?_⟩ | fail)
  all_goals try (conv => whnf)
  refine LoopOb.mk (Y := Nat) (st := fun i => ⟨[(8, i64 i), (7, i64 (pks p).length), (6, .psl 3 (pks p)), (0, .raw (yv Y.L)), (1, .pptr [.psl 3 (pks p)]), (2, .pptr [i64 flow])], cmO n (F (selN p flow i).length) m⟩)
    (inv := fun i => i ≤ p.length) (fun i => p.length - i) 0 [0, 1, 2] (by omega) (by (refine Le.mk (by kernel_rfl) ?_ ?_ <;> repeat' (first | exact True.intro | refine And.intro ?_ ?_ | exact Imp.refl _ | exact Imp.any _ | exact Imp.num (by first | omega | simp only [ints_len]) | exact rfl | exact Imp.bl (by simp)))) ?_
  intro i hi
  repeat' (conv => whnf
           first | refine ArOb.fits (by first | omega | (simp only [ints_len] at *; omega)) ?_ | refine LitOb.vec ?_ | refine MakeOb.vec ?_ | refine AllocOb.box ?_ | refine AsgOb.vec ?_ | refine AggOb.mk (by decide +kernel) ?_ | refine ArU.fits (by first | omega | (simp only [ints_len] at *; omega)) ?_ | refine ArB.fits (by first | omega | (simp only [ints_len] at *; omega)) ?_ | refine CutOb.split ?_ | refine Gh.mk [] ?_ | refine And.intro (And.intro (by (simp only [List.length_append, List.length_take, List.length_drop, List.length_cons, List.length_nil, ints_len, List.length_replicate, Go.Cv.vals_len]; omega)) (by (simp only [List.length_append, List.length_take, List.length_drop, List.length_cons, List.length_nil, ints_len, List.length_replicate, Go.Cv.vals_len]; omega))) ?_ | refine ⟨_, _, rfl, ints_get (by first | omega | (simp only [ints_len] at *; omega)), ?_⟩ | refine ⟨_, _, (Int.toNat_of_nonneg (by first | omega | (simp only [ints_len] at *; omega))).symm, ints_get (by first | omega | (simp only [ints_len] at *; omega)), ?_⟩ | fail)
  all_goals try (conv => whnf)
  refine CondOb.mk (fun hlt => ?_) (fun hlt => ?_)
  · have hil : i < p.length := by omega
    have hg := pks_get hil
    have hat := fun h => hY _ _ (selN_at hil h)
    obtain ⟨hs1, hs2⟩ := selN_step p flow i
    have hl1 : sel flow (p.getD i pk0) → (selN p flow (i + 1)).length = (selN p flow i).length + 1 := fun h => by rw [hs1 h, List.length_append]; rfl
    unfold sel at hs1 hs2 hat hl1
    generalize p.getD i pk0 = x at *
    repeat' (conv => whnf
             first | refine ⟨i, _, rfl, hg, ?_⟩ | (refine CondOb.mk (fun _ => ?_) (fun _ => ?_) <;> first | (exfalso; omega) | skip) | refine ArOb.fits (by first | omega | (simp only [ints_len] at *; omega)) ?_ | refine LitOb.vec ?_ | refine MakeOb.vec ?_ | refine AllocOb.box ?_ | refine AsgOb.vec ?_ | refine AggOb.mk (by decide +kernel) ?_ | refine ArU.fits (by first | omega | (simp only [ints_len] at *; omega)) ?_ | refine ArB.fits (by first | omega | (simp only [ints_len] at *; omega)) ?_ | refine CutOb.split ?_ | refine Gh.mk [] ?_ | refine And.intro (And.intro (by (simp only [List.length_append, List.length_take, List.length_drop, List.length_cons, List.length_nil, ints_len, List.length_replicate, Go.Cv.vals_len]; omega)) (by (simp only [List.length_append, List.length_take, List.length_drop, List.length_cons, List.length_nil, ints_len, List.length_replicate, Go.Cv.vals_len]; omega))) ?_ | refine ⟨_, _, rfl, ints_get (by first | omega | (simp only [ints_len] at *; omega)), ?_⟩ | refine ⟨_, _, (Int.toNat_of_nonneg (by first | omega | (simp only [ints_len] at *; omega))).symm, ints_get (by first | omega | (simp only [ints_len] at *; omega)), ?_⟩ | refine YOb.mk rfl ?_ | (refine YieldOb.mk 3 hm [0, 1, 2] (hat (by omega)) rfl (ImpL.refl _) rfl rfl rfl ?_; rintro _ _ ⟨rfl, rfl⟩) | fail)
    all_goals try (conv => whnf)
    all_goals first
      | exact ⟨i + 1, [0, 1, 2], by omega, by omega, by rw [hs2 (by omega)]; (refine Le.mk (by kernel_rfl) ?_ ?_ <;> repeat' (first | exact True.intro | refine And.intro ?_ ?_ | exact Imp.refl _ | exact Imp.any _ | exact Imp.num (by first | omega | simp only [ints_len]) | exact rfl | exact Imp.bl (by simp)))⟩
      | exact ⟨i + 1, [0, 1, 2], by omega, by omega, by rw [hl1 (by omega)]; (refine Le.mk (by kernel_rfl) ?_ ?_ <;> repeat' (first | exact True.intro | refine And.intro ?_ ?_ | exact Imp.refl _ | exact Imp.any _ | exact Imp.num (by first | omega | simp only [ints_len]) | exact rfl | exact Imp.bl (by simp)))⟩
      | trace_state
  · have e : i = p.length := by omega
    subst e
    repeat' (conv => whnf
             first | (refine CondOb.mk (fun _ => ?_) (fun _ => ?_) <;> first | (exfalso; omega) | skip) | refine ArOb.fits (by first | omega | (simp only [ints_len] at *; omega)) ?_ | refine LitOb.vec ?_ | refine MakeOb.vec ?_ | refine AllocOb.box ?_ | refine AsgOb.vec ?_ | refine AggOb.mk (by decide +kernel) ?_ | refine ArU.fits (by first | omega | (simp only [ints_len] at *; omega)) ?_ | refine ArB.fits (by first | omega | (simp only [ints_len] at *; omega)) ?_ | refine CutOb.split ?_ | refine Gh.mk [] ?_ | refine And.intro (And.intro (by (simp only [List.length_append, List.length_take, List.length_drop, List.length_cons, List.length_nil, ints_len, List.length_replicate, Go.Cv.vals_len]; omega)) (by (simp only [List.length_append, List.length_take, List.length_drop, List.length_cons, List.length_nil, ints_len, List.length_replicate, Go.Cv.vals_len]; omega))) ?_ | refine ⟨_, _, rfl, ints_get (by first | omega | (simp only [ints_len] at *; omega)), ?_⟩ | refine ⟨_, _, (Int.toNat_of_nonneg (by first | omega | (simp only [ints_len] at *; omega))).symm, ints_get (by first | omega | (simp only [ints_len] at *; omega)), ?_⟩ | fail)
    all_goals try (conv => whnf)
/- the sums of a trace that is right -/
theorem Cumulative_ok (p : List Pk) (hv : Vld p) (flow : Int) (hf : -1 ≤ flow) (n : Nat) (hn : n ≤ 2000) : Ctr Try.prog 21 [.psl 3 (pks p), i64 flow, i64 n] [] (fun r o => o = [] ∧ r = .tup [.psl 1 (ints (vals (fun u => bys p flow u) (n + 1))), i64 0]) := by
  refine Ctr.imp ?_
  refine fn_introR (E := env 0) tys_ok rfl rfl rfl Try.func21 (by kernel_rfl) rfl (by kernel_rfl) ?_
  have hp := hv.l
  have hpl := pks_len p
  have hsm := hv.sml
  have cV := Validate_ok p (by omega)
  rw [vld_zero.2 hv] at cV
  obtain ⟨xs, hxs⟩ : ∃ xs, selN p flow p.length = xs := ⟨_, rfl⟩
  repeat' (conv => whnf
           first | refine AsgOb.nil ?_ | (refine CondOb.mk (fun _ => ?_) (fun _ => ?_) <;> first | (exfalso; omega) | skip) | refine ArOb.fits (by first | omega | (simp only [ints_len] at *; omega)) ?_ | refine LitOb.vec ?_ | refine MakeOb.vec ?_ | refine AllocOb.box ?_ | refine AsgOb.vec ?_ | refine AggOb.mk (by decide +kernel) ?_ | refine ArU.fits (by first | omega | (simp only [ints_len] at *; omega)) ?_ | refine ArB.fits (by first | omega | (simp only [ints_len] at *; omega)) ?_ | refine CutOb.split ?_ | refine Gh.mk [] ?_ | refine And.intro (And.intro (by (simp only [List.length_append, List.length_take, List.length_drop, List.length_cons, List.length_nil, ints_len, List.length_replicate, Go.Cv.vals_len]; omega)) (by (simp only [List.length_append, List.length_take, List.length_drop, List.length_cons, List.length_nil, ints_len, List.length_replicate, Go.Cv.vals_len]; omega))) ?_ | refine ⟨_, _, rfl, ints_get (by first | omega | (simp only [ints_len] at *; omega)), ?_⟩ | refine ⟨_, _, (Int.toNat_of_nonneg (by first | omega | (simp only [ints_len] at *; omega))).symm, ints_get (by first | omega | (simp only [ints_len] at *; omega)), ?_⟩ | refine DrawOb.mk [] (.qs [0, 1, 2, 3, 4, 5, 6, 7, 8, 9] (.l 10 [] .nil .no)) (by decide +kernel) ?_ | refine DrawOb.mk [] (.qs [0, 1, 2, 3, 4, 5, 6, 7, 8, 9, 10] (.l 11 [] .nil .no)) (by decide +kernel) ?_ | (refine CallOb.mk [] (cV) rfl (ImpL.refl _) rfl rfl ?_; rintro _ _ ⟨rfl, rfl⟩) | fail)
  all_goals try (conv => whnf)
  refine ⟨n + 1, n + 1, by omega, by omega, Nat.le_refl _, ⟨by simp only; omega, by omega⟩, ?_⟩
  repeat' (conv => whnf
           first | (refine CondOb.mk (fun _ => ?_) (fun _ => ?_) <;> first | (exfalso; omega) | skip) | refine ArOb.fits (by first | omega | (simp only [ints_len] at *; omega)) ?_ | refine LitOb.vec ?_ | refine MakeOb.vec ?_ | refine AllocOb.box ?_ | refine AsgOb.vec ?_ | refine AggOb.mk (by decide +kernel) ?_ | refine ArU.fits (by first | omega | (simp only [ints_len] at *; omega)) ?_ | refine ArB.fits (by first | omega | (simp only [ints_len] at *; omega)) ?_ | refine CutOb.split ?_ | refine Gh.mk [] ?_ | refine And.intro (And.intro (by (simp only [List.length_append, List.length_take, List.length_drop, List.length_cons, List.length_nil, ints_len, List.length_replicate, Go.Cv.vals_len]; omega)) (by (simp only [List.length_append, List.length_take, List.length_drop, List.length_cons, List.length_nil, ints_len, List.length_replicate, Go.Cv.vals_len]; omega))) ?_ | refine ⟨_, _, rfl, ints_get (by first | omega | (simp only [ints_len] at *; omega)), ?_⟩ | refine ⟨_, _, (Int.toNat_of_nonneg (by first | omega | (simp only [ints_len] at *; omega))).symm, ints_get (by first | omega | (simp only [ints_len] at *; omega)), ?_⟩ | refine DrawOb.mk [] (.qs [0, 1, 2, 3, 4, 5, 6, 7, 8, 9] (.l 10 [] .nil .no)) (by decide +kernel) ?_ | refine DrawOb.mk [] (.qs [0, 1, 2, 3, 4, 5, 6, 7, 8, 9, 10] (.l 11 [] .nil .no)) (by decide +kernel) ?_ | (refine CallOb.mk [] (of_ok p flow) rfl (ImpL.refl _) rfl rfl ?_; rintro _ _ ⟨rfl, rfl⟩) | fail)
  all_goals try (conv => whnf)
  have e0 : (List.replicate (n + 1) ([i64 0] : List SV)) = ints (vals (fun u => incL u (xs.take 0)) (n + 1)) := by
    apply List.ext_getElem
    · simp [ints, vals]
    · intro i h1 h2; simp [ints, vals, incL]
  refine RangeOb.mk 3 (xs.map rnd) (fun j o => o = cmO n (fun u => incL u (xs.take j)) (n + 1)) (fun j o => o = cmO n (fun u => incL u (xs.take j)) (n + 1)) (fun j o => o = cmO n (fun u => incL u (xs.take j)) (n + 1)) (by kernel_rfl) (fun r hr => by obtain ⟨x, _, rfl⟩ := List.mem_map.1 hr; rfl) ?_ ?_ ?_
  · intro Y hm hY
    rw [List.length_map]
    show CtrL _ _ _ _ [.box [i64 n], .vec 1 (List.replicate (n + 1) ([i64 0] : List SV)), .box [.vec 1]] _
    rw [e0, ← hxs]
    exact of1C Y hm p (by omega) flow n (n + 1) (fun j u => incL u ((selN p flow p.length).take j)) fun j x hx => by
      rw [hxs] at hx ⊢
      exact hY j _ (rnd x) rfl (by rw [List.getElem?_map, hx]; rfl)
  · rintro j o r rfl hr
    rw [List.getElem?_map] at hr
    cases hx : xs[j]? with
    | none => rw [hx] at hr; cases hr
    | some x =>
      rw [hx] at hr; cases hr
      have hxs2 := hsm x.2 (selN_mem (Nat.le_refl _) x (by rw [hxs]; exact List.mem_of_getElem? hx)).2.2
      have hxb := hv.mem x.2 (selN_mem (Nat.le_refl _) x (by rw [hxs]; exact List.mem_of_getElem? hx)).2.2
      have hbd := inc_bd (flow := flow) (u := ((x.2.t + 1).toNat : Int)) hsm j
      rw [hxs] at hbd
      have hst : x.2.t < n → (vals (fun u => incL u (xs.take j)) (n + 1)).set (x.2.t + 1).toNat (incL ((x.2.t + 1).toNat : Int) (xs.take j) + x.2.s) = vals (fun u => incL u (xs.take (j + 1))) (n + 1) := fun h => by
        unfold bad at hxb
        rw [vals_set (by omega)]
        refine vals_congr fun i hi => ?_
        rw [incL_take _ hx]
        split
        · rename_i e; subst e; rw [if_pos (by omega)]
        · rw [if_neg (by omega), Int.add_zero]
      have hst2 : ¬x.2.t < n → vals (fun u => incL u (xs.take j)) (n + 1) = vals (fun u => incL u (xs.take (j + 1))) (n + 1) := fun h => vals_congr fun i hi => by
        rw [incL_take _ hx, if_neg (by omega), Int.add_zero]
      have hgt : x.2.t < n → (ints (vals (fun u => incL u (xs.take j)) (n + 1)))[(x.2.t + 1).toNat]? = some [i64 (incL ((x.2.t + 1).toNat : Int) (xs.take j))] := fun h => by
        unfold bad at hxb
        rw [ints_get (by rw [vals_len]; omega), vals_get (by omega)]
      obtain ⟨i, x⟩ := x
      dsimp only at hxs2 hxb hst hst2 hgt hbd ⊢
      have hvl := vals_len (fun u => incL u (xs.take j)) (n + 1)
      have hil := ints_len (vals (fun u => incL u (xs.take j)) (n + 1))
      unfold bad at hxb
      clear hx e0
      unfold cmO
      rw [show rnd (i, x) = [i64 i, .agg (pkw x)] from rfl]
      have hiv := fun k v => ints_set (vals (fun u => incL u (xs.take j)) (n + 1)) k v
      generalize vals (fun u => incL u (xs.take j)) (n + 1) = V at *
      generalize incL ((x.t + 1).toNat : Int) (xs.take j) = B at *
      repeat' (conv => whnf
               first | refine ArOb.fits (by omega) ?_ | (refine CondOb.mk (fun _ => ?_) (fun _ => ?_) <;> first | (exfalso; omega) | skip) | refine ArOb.fits (by first | omega | (simp only [ints_len] at *; omega)) ?_ | refine LitOb.vec ?_ | refine MakeOb.vec ?_ | refine AllocOb.box ?_ | refine AsgOb.vec ?_ | refine AggOb.mk (by decide +kernel) ?_ | refine ArU.fits (by first | omega | (simp only [ints_len] at *; omega)) ?_ | refine ArB.fits (by first | omega | (simp only [ints_len] at *; omega)) ?_ | refine CutOb.split ?_ | refine Gh.mk [] ?_ | refine And.intro (And.intro (by (simp only [List.length_append, List.length_take, List.length_drop, List.length_cons, List.length_nil, ints_len, List.length_replicate, Go.Cv.vals_len]; omega)) (by (simp only [List.length_append, List.length_take, List.length_drop, List.length_cons, List.length_nil, ints_len, List.length_replicate, Go.Cv.vals_len]; omega))) ?_ | refine ⟨_, _, rfl, ints_get (by first | omega | (simp only [ints_len] at *; omega)), ?_⟩ | refine ⟨_, _, (Int.toNat_of_nonneg (by first | omega | (simp only [ints_len] at *; omega))).symm, ints_get (by first | omega | (simp only [ints_len] at *; omega)), ?_⟩ | refine DrawOb.mk [] (.qs [0, 1, 2, 3, 4, 5, 6, 7, 8, 9] (.l 10 [] .nil .no)) (by decide +kernel) ?_ | refine DrawOb.mk [] (.qs [0, 1, 2, 3, 4, 5, 6, 7, 8, 9, 10] (.l 11 [] .nil .no)) (by decide +kernel) ?_ | refine ⟨(x.t + 1).toNat, by omega, by omega, ?_⟩ | refine ⟨_, hgt (by assumption), ?_⟩ | fail)
      all_goals try (conv => whnf)
      all_goals first
        | (rw [← hst (by assumption), ← hiv])
        | (rw [← hst2 (by assumption)])
        | trace_state
  · rintro o rfl
    rw [List.length_map, List.take_length]
    unfold cmO
    have hvl := fun F => vals_len F (n + 1)
    repeat' (conv => whnf
             first | (refine CondOb.mk (fun _ => ?_) (fun _ => ?_) <;> first | (exfalso; omega) | skip) | refine ArOb.fits (by first | omega | (simp only [ints_len] at *; omega)) ?_ | refine LitOb.vec ?_ | refine MakeOb.vec ?_ | refine AllocOb.box ?_ | refine AsgOb.vec ?_ | refine AggOb.mk (by decide +kernel) ?_ | refine ArU.fits (by first | omega | (simp only [ints_len] at *; omega)) ?_ | refine ArB.fits (by first | omega | (simp only [ints_len] at *; omega)) ?_ | refine CutOb.split ?_ | refine Gh.mk [] ?_ | refine And.intro (And.intro (by (simp only [List.length_append, List.length_take, List.length_drop, List.length_cons, List.length_nil, ints_len, List.length_replicate, Go.Cv.vals_len]; omega)) (by (simp only [List.length_append, List.length_take, List.length_drop, List.length_cons, List.length_nil, ints_len, List.length_replicate, Go.Cv.vals_len]; omega))) ?_ | refine ⟨_, _, rfl, ints_get (by first | omega | (simp only [ints_len] at *; omega)), ?_⟩ | refine ⟨_, _, (Int.toNat_of_nonneg (by first | omega | (simp only [ints_len] at *; omega))).symm, ints_get (by first | omega | (simp only [ints_len] at *; omega)), ?_⟩ | refine DrawOb.mk [] (.qs [0, 1, 2, 3, 4, 5, 6, 7, 8, 9] (.l 10 [] .nil .no)) (by decide +kernel) ?_ | refine DrawOb.mk [] (.qs [0, 1, 2, 3, 4, 5, 6, 7, 8, 9, 10] (.l 11 [] .nil .no)) (by decide +kernel) ?_ | fail)
    all_goals try (conv => whnf)
    refine LoopOb.mk (Y := Nat) (st := fun t => ⟨[(12, i64 (t : Nat)), (9, .ptr 2 0), (7, i64 0), (6, .nil)], [.box [i64 n], .vec 1 (ints (vals (fun u => if u < t then bysL u xs else incL u xs) (n + 1))), .box [.vec 1]]⟩)
      (inv := fun t => 1 ≤ t ∧ t ≤ n + 1) (fun t => n + 1 - t) 1 [0, 1, 2] (by omega) ?_ ?_
    · have hz := bysL_zero (l := xs) (fun x hx => by
        have := hv.mem x.2 (selN_mem (Nat.le_refl _) x (by rw [hxs]; exact hx)).2.2
        unfold bad at this; omega)
      rw [show vals (fun u => if u < 1 then bysL u xs else incL u xs) (n + 1) = vals (fun u => incL u xs) (n + 1) from vals_congr fun i hi => by
        split
        · rename_i h; have : i = 0 := by omega
          subst this; exact hz.1.trans hz.2.symm
        · rfl]
      (refine Le.mk (by kernel_rfl) ?_ ?_ <;> repeat' (first | exact True.intro | refine And.intro ?_ ?_ | exact Imp.refl _ | exact Imp.any _ | exact Imp.num (by first | omega | simp only [ints_len]) | exact rfl | exact Imp.bl (by simp)))
    rintro t ⟨ht1, ht2⟩
    have hil := ints_len (vals (fun u => if u < t then bysL u xs else incL u xs) (n + 1))
    rw [hvl] at hil
    repeat' (conv => whnf
             first | refine ArOb.fits (by first | omega | (simp only [ints_len] at *; omega)) ?_ | refine LitOb.vec ?_ | refine MakeOb.vec ?_ | refine AllocOb.box ?_ | refine AsgOb.vec ?_ | refine AggOb.mk (by decide +kernel) ?_ | refine ArU.fits (by first | omega | (simp only [ints_len] at *; omega)) ?_ | refine ArB.fits (by first | omega | (simp only [ints_len] at *; omega)) ?_ | refine CutOb.split ?_ | refine Gh.mk [] ?_ | refine And.intro (And.intro (by (simp only [List.length_append, List.length_take, List.length_drop, List.length_cons, List.length_nil, ints_len, List.length_replicate, Go.Cv.vals_len]; omega)) (by (simp only [List.length_append, List.length_take, List.length_drop, List.length_cons, List.length_nil, ints_len, List.length_replicate, Go.Cv.vals_len]; omega))) ?_ | refine ⟨_, _, rfl, ints_get (by first | omega | (simp only [ints_len] at *; omega)), ?_⟩ | refine ⟨_, _, (Int.toNat_of_nonneg (by first | omega | (simp only [ints_len] at *; omega))).symm, ints_get (by first | omega | (simp only [ints_len] at *; omega)), ?_⟩ | refine DrawOb.mk [] (.qs [0, 1, 2, 3, 4, 5, 6, 7, 8, 9] (.l 10 [] .nil .no)) (by decide +kernel) ?_ | refine DrawOb.mk [] (.qs [0, 1, 2, 3, 4, 5, 6, 7, 8, 9, 10] (.l 11 [] .nil .no)) (by decide +kernel) ?_ | fail)
    all_goals try (conv => whnf)
    refine CondOb.mk (fun hlt => ?_) (fun hlt => ?_)
    · have htn : t < n + 1 := by omega
      have hg1 : (ints (vals (fun u => if u < t then bysL u xs else incL u xs) (n + 1)))[t]? = some [i64 (incL t xs)] := by
        rw [ints_get (by rw [hvl]; omega), vals_get (by omega), if_neg (by omega)]
      have hg2 : (ints (vals (fun u => if u < t then bysL u xs else incL u xs) (n + 1)))[t - 1]? = some [i64 (bysL ((t - 1 : Nat) : Int) xs)] := by
        rw [ints_get (by rw [hvl]; omega), vals_get (by omega), if_pos (by omega)]
      have hst : (vals (fun u => if u < t then bysL u xs else incL u xs) (n + 1)).set t (incL t xs + bysL ((t - 1 : Nat) : Int) xs) = vals (fun u => if u < t + 1 then bysL u xs else incL u xs) (n + 1) := by
        rw [vals_set htn]
        refine vals_congr fun i hi => ?_
        by_cases e : i = t
        · subst e
          rw [if_pos rfl, if_pos (by omega)]
          have := bysL_inc ((i - 1 : Nat) : Int) xs
          rw [show ((i - 1 : Nat) : Int) + 1 = i by omega] at this
          omega
        · rw [if_neg e]
          by_cases e2 : i < t
          · rw [if_pos e2, if_pos (by omega)]
          · rw [if_neg e2, if_neg (by omega)]
      have hiv := fun k v => ints_set (vals (fun u => if u < t then bysL u xs else incL u xs) (n + 1)) k v
      have hb1 := inc_bd (flow := flow) (u := t) hsm xs.length
      have hb2 := sel_bd (flow := flow) (t := ((t - 1 : Nat) : Int)) hsm xs.length
      rw [hxs, List.take_length] at hb1 hb2
      generalize vals (fun u => if u < t then bysL u xs else incL u xs) (n + 1) = V at *
      generalize incL (t : Int) xs = B1 at *
      generalize bysL ((t - 1 : Nat) : Int) xs = B2 at *
      repeat' (conv => whnf
               first | refine ⟨_, hg2, ?_⟩ | refine ⟨_, hg1, ?_⟩ | refine ⟨t - 1, by omega, by omega, ?_⟩ | refine ⟨t, by omega, by omega, ?_⟩ | (refine CondOb.mk (fun _ => ?_) (fun _ => ?_) <;> first | (exfalso; omega) | skip) | refine ArOb.fits (by first | omega | (simp only [ints_len] at *; omega)) ?_ | refine LitOb.vec ?_ | refine MakeOb.vec ?_ | refine AllocOb.box ?_ | refine AsgOb.vec ?_ | refine AggOb.mk (by decide +kernel) ?_ | refine ArU.fits (by first | omega | (simp only [ints_len] at *; omega)) ?_ | refine ArB.fits (by first | omega | (simp only [ints_len] at *; omega)) ?_ | refine CutOb.split ?_ | refine Gh.mk [] ?_ | refine And.intro (And.intro (by (simp only [List.length_append, List.length_take, List.length_drop, List.length_cons, List.length_nil, ints_len, List.length_replicate, Go.Cv.vals_len]; omega)) (by (simp only [List.length_append, List.length_take, List.length_drop, List.length_cons, List.length_nil, ints_len, List.length_replicate, Go.Cv.vals_len]; omega))) ?_ | refine ⟨_, _, rfl, ints_get (by first | omega | (simp only [ints_len] at *; omega)), ?_⟩ | refine ⟨_, _, (Int.toNat_of_nonneg (by first | omega | (simp only [ints_len] at *; omega))).symm, ints_get (by first | omega | (simp only [ints_len] at *; omega)), ?_⟩ | refine DrawOb.mk [] (.qs [0, 1, 2, 3, 4, 5, 6, 7, 8, 9] (.l 10 [] .nil .no)) (by decide +kernel) ?_ | refine DrawOb.mk [] (.qs [0, 1, 2, 3, 4, 5, 6, 7, 8, 9, 10] (.l 11 [] .nil .no)) (by decide +kernel) ?_ | fail)
      all_goals try (conv => whnf)
      exact ⟨t + 1, [0, 1, 2], by omega, by omega, by rw [← hst, ← hiv]; (refine Le.mk (by kernel_rfl) ?_ ?_ <;> repeat' (first | exact True.intro | refine And.intro ?_ ?_ | exact Imp.refl _ | exact Imp.any _ | exact Imp.num (by first | omega | simp only [ints_len]) | exact rfl | exact Imp.bl (by simp)))⟩
    · have e : t = n + 1 := by omega
      subst e
      rw [show vals (fun u => if u < n + 1 then bysL u xs else incL u xs) (n + 1) = vals (fun u => bys p flow u) (n + 1) from vals_congr fun i hi => by rw [if_pos hi]; unfold bys; rw [hxs]]
      repeat' (conv => whnf
               first | (refine CondOb.mk (fun _ => ?_) (fun _ => ?_) <;> first | (exfalso; omega) | skip) | refine ArOb.fits (by first | omega | (simp only [ints_len] at *; omega)) ?_ | refine LitOb.vec ?_ | refine MakeOb.vec ?_ | refine AllocOb.box ?_ | refine AsgOb.vec ?_ | refine AggOb.mk (by decide +kernel) ?_ | refine ArU.fits (by first | omega | (simp only [ints_len] at *; omega)) ?_ | refine ArB.fits (by first | omega | (simp only [ints_len] at *; omega)) ?_ | refine CutOb.split ?_ | refine And.intro (And.intro (by (simp only [List.length_append, List.length_take, List.length_drop, List.length_cons, List.length_nil, ints_len, List.length_replicate, Go.Cv.vals_len]; omega)) (by (simp only [List.length_append, List.length_take, List.length_drop, List.length_cons, List.length_nil, ints_len, List.length_replicate, Go.Cv.vals_len]; omega))) ?_ | refine ⟨_, _, rfl, ints_get (by first | omega | (simp only [ints_len] at *; omega)), ?_⟩ | refine ⟨_, _, (Int.toNat_of_nonneg (by first | omega | (simp only [ints_len] at *; omega))).symm, ints_get (by first | omega | (simp only [ints_len] at *; omega)), ?_⟩ | refine DrawOb.mk [] (.qs [0, 1, 2, 3, 4, 5, 6, 7, 8, 9] (.l 10 [] .nil .no)) (by decide +kernel) ?_ | refine DrawOb.mk [] (.qs [0, 1, 2, 3, 4, 5, 6, 7, 8, 9, 10] (.l 11 [] .nil .no)) (by decide +kernel) ?_ | fail)
      all_goals try (conv => whnf)
      refine .mk [.fz 1] ?_
      repeat' (conv => whnf
               first | (refine CondOb.mk (fun _ => ?_) (fun _ => ?_) <;> first | (exfalso; omega) | skip) | refine ArOb.fits (by first | omega | (simp only [ints_len] at *; omega)) ?_ | refine LitOb.vec ?_ | refine MakeOb.vec ?_ | refine AllocOb.box ?_ | refine AsgOb.vec ?_ | refine AggOb.mk (by decide +kernel) ?_ | refine ArU.fits (by first | omega | (simp only [ints_len] at *; omega)) ?_ | refine ArB.fits (by first | omega | (simp only [ints_len] at *; omega)) ?_ | refine CutOb.split ?_ | refine Gh.mk [] ?_ | refine And.intro (And.intro (by (simp only [List.length_append, List.length_take, List.length_drop, List.length_cons, List.length_nil, ints_len, List.length_replicate, Go.Cv.vals_len]; omega)) (by (simp only [List.length_append, List.length_take, List.length_drop, List.length_cons, List.length_nil, ints_len, List.length_replicate, Go.Cv.vals_len]; omega))) ?_ | refine ⟨_, _, rfl, ints_get (by first | omega | (simp only [ints_len] at *; omega)), ?_⟩ | refine ⟨_, _, (Int.toNat_of_nonneg (by first | omega | (simp only [ints_len] at *; omega))).symm, ints_get (by first | omega | (simp only [ints_len] at *; omega)), ?_⟩ | refine DrawOb.mk [] (.qs [0, 1, 2, 3, 4, 5, 6, 7, 8, 9] (.l 10 [] .nil .no)) (by decide +kernel) ?_ | refine DrawOb.mk [] (.qs [0, 1, 2, 3, 4, 5, 6, 7, 8, 9, 10] (.l 11 [] .nil .no)) (by decide +kernel) ?_ | fail)
      all_goals try (conv => whnf)
      exact ⟨rfl, Imp.refl _⟩
end Go.Proofs.Ytlnpbgjoccipaaa
