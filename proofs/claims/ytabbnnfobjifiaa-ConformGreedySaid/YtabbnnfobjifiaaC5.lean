/-
  A text of the proofs of this seat: lemmas that the statements' proofs use; it states nothing of the program by itself beyond the contracts that its theorems bear. Conditions: those that stand in each theorem. Its short name: C5.
-/
import Derived.Test.YtabbnnfobjifiaaC4
import Derived.Test.YtabbnnfobjifiaaT6
import Derived.Test.YtabbnnfobjifiaaPl
set_option linter.unusedVariables false
set_option linter.unusedSimpArgs false
namespace Go.Proofs.Ytabbnnfobjifiaa
open Go.Sx Go.Pk Go.Cv Go.St
set_option maxRecDepth 8000
set_option maxHeartbeats 2000000
--APPX pks_len, Go.Cv.vals_len
theorem mine_ok (x : Pk) (flow : Int) : Ctr Try.prog 45 [.agg (pkw x), i64 flow] [] (fun r o => o = [] ∧ r = .bp (mine flow x)) := by
  refine Ctr.imp ?_
  refine fn_intro (E := env 0) tys_ok rfl rfl rfl Try.func45 (by kernel_rfl) rfl (by kernel_rfl) ?_
  repeat' (conv => whnf
           first | (refine CondOb.mk (fun _ => ?_) (fun _ => ?_) <;> first | (exfalso; omega) | skip) | refine ArOb.fits (by first | omega | (simp only [ints_len] at *; omega)) ?_ | refine LitOb.vec ?_ | refine MakeOb.vec ?_ | refine AllocOb.box ?_ | refine AsgOb.vec ?_ | refine AggOb.mk (by decide +kernel) ?_ | refine ArU.fits (by first | omega | (simp only [ints_len] at *; omega)) ?_ | refine ArB.fits (by first | omega | (simp only [ints_len] at *; omega)) ?_ | refine CutOb.split ?_ | refine Gh.mk [] ?_ | refine And.intro (And.intro (by (simp only [List.length_append, List.length_take, List.length_drop, List.length_cons, List.length_nil, ints_len, List.length_replicate, pks_len, Go.Cv.vals_len]; omega)) (by (simp only [List.length_append, List.length_take, List.length_drop, List.length_cons, List.length_nil, ints_len, List.length_replicate, pks_len, Go.Cv.vals_len]; omega))) ?_ | refine ⟨_, _, rfl, ints_get (by first | omega | (simp only [ints_len] at *; omega)), ?_⟩ | refine ⟨_, _, (Int.toNat_of_nonneg (by first | omega | (simp only [ints_len] at *; omega))).symm, ints_get (by first | omega | (simp only [ints_len] at *; omega)), ?_⟩ | fail)
  all_goals try (conv => whnf)
  · exact ⟨rfl, Imp.bl ⟨fun _ => .inl (by assumption), fun _ => rfl⟩⟩
  · exact ⟨rfl, Imp.bp ⟨fun h => .inr h, fun h => by rcases h with h | h; exact absurd h (by assumption); exact h⟩⟩
theorem Shape_ok (p : List Pk) (hv : Vld p) (hp : p.length ≤ 20) (flow : Int) (hf : -1 ≤ flow) (f : C3) (vf : VC f) (hs : sumA (fun x : Pk => x.s) p ≤ 4000) :
    Ctr Try.prog 13 [.psl 3 (pks p), i64 flow, crv f.1 f.2.1 f.2.2] [] (fun r o => ∃ x : List Pk × Int, ((∃ R q, shN f flow p p.length = some (R, q) ∧ x = (srt ptm q, 0)) ∨ (shN f flow p p.length = none ∧ x = ([], 5))) ∧ o = [] ∧ r = .tup [.psl 3 (pks x.1), i64 x.2]) := by
  refine Ctr.impE ?_
  refine fn_intro (E := env 0) tys_ok rfl rfl rfl Try.func13 (by kernel_rfl) rfl (by kernel_rfl) ?_
  have cC := cCheck_ok p hv flow hf f vf
  have cB := begin_ok f vf
  have cK := pClone_ok p (by omega)
  repeat' (conv => whnf
           first | refine AsgOb.nil ?_ | (refine CondOb.mk (fun _ => ?_) (fun _ => ?_) <;> first | (exfalso; omega) | skip) | refine ArOb.fits (by first | omega | (simp only [ints_len] at *; omega)) ?_ | refine LitOb.vec ?_ | refine MakeOb.vec ?_ | refine AllocOb.box ?_ | refine AsgOb.vec ?_ | refine AggOb.mk (by decide +kernel) ?_ | refine ArU.fits (by first | omega | (simp only [ints_len] at *; omega)) ?_ | refine ArB.fits (by first | omega | (simp only [ints_len] at *; omega)) ?_ | refine CutOb.split ?_ | refine And.intro (And.intro (by (simp only [List.length_append, List.length_take, List.length_drop, List.length_cons, List.length_nil, ints_len, List.length_replicate, pks_len, Go.Cv.vals_len]; omega)) (by (simp only [List.length_append, List.length_take, List.length_drop, List.length_cons, List.length_nil, ints_len, List.length_replicate, pks_len, Go.Cv.vals_len]; omega))) ?_ | refine ⟨_, _, rfl, ints_get (by first | omega | (simp only [ints_len] at *; omega)), ?_⟩ | refine ⟨_, _, (Int.toNat_of_nonneg (by first | omega | (simp only [ints_len] at *; omega))).symm, ints_get (by first | omega | (simp only [ints_len] at *; omega)), ?_⟩ | (refine Gh.mk [] ?_; (conv => whnf); refine CallOb.mk [] cC rfl (ImpL.refl _) rfl rfl ?_; rintro _ _ ⟨rfl, rfl⟩) | (refine Gh.mk [] ?_; (conv => whnf); refine CallOb.mk [] cB rfl (ImpL.refl _) rfl rfl ?_; rintro _ _ ⟨rfl, rfl⟩) | (refine Gh.mk [] ?_; (conv => whnf); refine CallOb.mk [] cK rfl (ImpL.refl _) rfl rfl ?_; rintro _ _ ⟨rfl, rfl⟩) | fail)
  all_goals try (conv => whnf)
  refine .mk [.nb 1 4 1, .nb 1 5 1] ?_
  have hsz : ∀ x ∈ p, 0 ≤ x.s := fun x hx => (hv.sml x hx).1
  refine LoopOb.mk (Y := List (Int × Int) × List Pk) (st := fun y => ⟨[(28, i64 y.2.length), (27, i64 (pks p).length), (26, .psl 3 (pks p)), (10, .vec 1), (9, .ptr 0 0), (1, i64 flow)], [runB f (.vec 2) (.vec 3), .vec 3 (pks (shO p y.2)), .vec 1 (ints (tms y.1)), .vec 1 (ints (szs y.1))]⟩)
    (inv := fun y => (y.2.length ≤ p.length ∧ shN f flow p y.2.length = some y) ∧ (y.1.length ≤ y.2.length ∧ ∀ z ∈ y.1, 0 ≤ z.1 ∧ z.1 ≤ 2000 ∧ 0 ≤ z.2) ∧ sumA (fun z : Int × Int => z.2) y.1 ≤ sumA (fun x : Pk => x.s) (p.take y.2.length)) (fun y => p.length - y.2.length) ([], []) [1, 2, 3, 4]
    ⟨⟨by simp, rfl⟩, ⟨by simp, by simp⟩, by simp [sumA]⟩ (by (refine Le.mk (by kernel_rfl) ?_ ?_ <;> repeat' (first | exact True.intro | refine And.intro ?_ ?_ | exact Imp.refl _ | exact Imp.any _ | exact Imp.num (by first | omega | simp only [ints_len]) | exact rfl | exact Imp.bl (by simp)))) ?_
  rintro ⟨R, o⟩ ⟨⟨hi, hN⟩, ⟨hR1, hR2⟩, hR3⟩
  dsimp only at hi hN hR1 hR2 hR3 ⊢
  have hpl := pks_len p
  have hol := shO_len hi
  have hoo := pks_len (shO p o)
  repeat' (conv => whnf
           first | refine ArOb.fits (by first | omega | (simp only [ints_len] at *; omega)) ?_ | refine LitOb.vec ?_ | refine MakeOb.vec ?_ | refine AllocOb.box ?_ | refine AsgOb.vec ?_ | refine AggOb.mk (by decide +kernel) ?_ | refine ArU.fits (by first | omega | (simp only [ints_len] at *; omega)) ?_ | refine ArB.fits (by first | omega | (simp only [ints_len] at *; omega)) ?_ | refine CutOb.split ?_ | refine Gh.mk [] ?_ | refine And.intro (And.intro (by (simp only [List.length_append, List.length_take, List.length_drop, List.length_cons, List.length_nil, ints_len, List.length_replicate, pks_len, Go.Cv.vals_len]; omega)) (by (simp only [List.length_append, List.length_take, List.length_drop, List.length_cons, List.length_nil, ints_len, List.length_replicate, pks_len, Go.Cv.vals_len]; omega))) ?_ | refine ⟨_, _, rfl, ints_get (by first | omega | (simp only [ints_len] at *; omega)), ?_⟩ | refine ⟨_, _, (Int.toNat_of_nonneg (by first | omega | (simp only [ints_len] at *; omega))).symm, ints_get (by first | omega | (simp only [ints_len] at *; omega)), ?_⟩ | fail)
  all_goals try (conv => whnf)
  refine CondOb.mk (fun hlt => ?_) (fun hlt => ?_)
  · have hil : o.length < p.length := by omega
    have hg := pks_get hil
    obtain ⟨s1, s2, s3, s4⟩ := shN_step hN
    have hkeep := shO_keep hil
    have hget : (pks (shO p o))[o.length]? = some (pkw (p.getD o.length pk0)) := by
      show ((shO p o).map pkw)[o.length]? = _
      rw [List.getElem?_map, shO_get hil]; rfl
    have hset : ∀ y : Pk, (pks (shO p o)).set o.length (pkw y) = pks (shO p (o ++ [y])) := fun y => by
      rw [← shO_set hil y]; simp [pks, List.map_set]
    have hb := hv.g _ hil
    unfold bad at hb
    have hsum := sumA_take (fun x : Pk => x.s) hil
    have hsum2 := sumA_take_le (fun x : Pk => x.s) hsz (o.length + 1)
    have hx : p.getD o.length pk0 = p[o.length] := by simp [List.getD_eq_getElem?_getD, hil]
    rw [← hx] at hsum
    clear hx
    have hnone : shN f flow p (o.length + 1) = none → shN f flow p p.length = none := fun h => shN_none h _ hil
    have cM := mine_ok (p.getD o.length pk0) flow
    generalize p.getD o.length pk0 = x at *
    have cE := earliest_ok f vf R x.t x.s (by omega) (by omega) ⟨by omega, hR2, by omega⟩
    repeat' (conv => whnf
             first | refine ⟨o.length, _, rfl, hg, ?_⟩ | (refine CondOb.mk (fun _ => ?_) (fun _ => ?_) <;> first | (exfalso; omega) | skip) | refine ArOb.fits (by first | omega | (simp only [ints_len] at *; omega)) ?_ | refine LitOb.vec ?_ | refine MakeOb.vec ?_ | refine AllocOb.box ?_ | refine AsgOb.vec ?_ | refine AggOb.mk (by decide +kernel) ?_ | refine ArU.fits (by first | omega | (simp only [ints_len] at *; omega)) ?_ | refine ArB.fits (by first | omega | (simp only [ints_len] at *; omega)) ?_ | refine CutOb.split ?_ | refine And.intro (And.intro (by (simp only [List.length_append, List.length_take, List.length_drop, List.length_cons, List.length_nil, ints_len, List.length_replicate, pks_len, Go.Cv.vals_len]; omega)) (by (simp only [List.length_append, List.length_take, List.length_drop, List.length_cons, List.length_nil, ints_len, List.length_replicate, pks_len, Go.Cv.vals_len]; omega))) ?_ | refine ⟨_, _, rfl, ints_get (by first | omega | (simp only [ints_len] at *; omega)), ?_⟩ | refine ⟨_, _, (Int.toNat_of_nonneg (by first | omega | (simp only [ints_len] at *; omega))).symm, ints_get (by first | omega | (simp only [ints_len] at *; omega)), ?_⟩ | (refine Gh.mk [] ?_; (conv => whnf); refine CallOb.mk [] cM rfl (ImpL.refl _) rfl rfl ?_; rintro _ _ ⟨rfl, rfl⟩) | fail)
    all_goals try (conv => whnf)
    · have e := s1 (by assumption)
      have hl : (o ++ [x]).length = o.length + 1 := by simp
      refine .mk [] ⟨(R, o ++ [x]), [0, 1, 2, 3], ⟨⟨?_, ?_⟩, ⟨?_, hR2⟩, ?_⟩, ?_, ?_⟩
      · dsimp only; omega
      · dsimp only; rw [hl]; exact e
      · dsimp only; omega
      · dsimp only; rw [hl]; omega
      · dsimp only; omega
      · dsimp only; rw [hl, hkeep]; (refine Le.mk (by kernel_rfl) ?_ ?_ <;> repeat' (first | exact True.intro | refine And.intro ?_ ?_ | exact Imp.refl _ | exact Imp.any _ | exact Imp.num (by first | omega | simp only [ints_len]) | exact rfl | exact Imp.bl (by simp)))
    · have hm : mine flow x := Classical.not_not.1 (by assumption)
      refine .mk [] ?_
      refine CallOb.mk [0, 2, 3] cE rfl (ImpL.refl _) rfl rfl ?_
      rintro _ _ ⟨y, hy, rfl, rfl⟩
      rcases hy with ⟨u, hu, hub, rfl⟩ | ⟨hu, rfl⟩
      · dsimp only
        have e3 := s3 u hm hu
        have e4 := s4 u hm hu
        have cA := add_ok f (tms R) (szs R) u x.s (by simp; omega) (by simp; omega)
        obtain ⟨c1, c2⟩ := tms_cons R u x.s
        rw [← c1, ← c2] at cA
        have hst := hset ⟨x.f, u, x.s⟩
        have hgl : (pks (shO p o)).length = p.length := by omega
        repeat' (conv => whnf
                 first | refine ⟨_, hget, ?_⟩ | refine ⟨o.length, by omega, by omega, ?_⟩ | refine AsgOb.nil ?_ | (refine CondOb.mk (fun _ => ?_) (fun _ => ?_) <;> first | (exfalso; omega) | skip) | refine ArOb.fits (by first | omega | (simp only [ints_len] at *; omega)) ?_ | refine LitOb.vec ?_ | refine MakeOb.vec ?_ | refine AllocOb.box ?_ | refine AsgOb.vec ?_ | refine AggOb.mk (by decide +kernel) ?_ | refine ArU.fits (by first | omega | (simp only [ints_len] at *; omega)) ?_ | refine ArB.fits (by first | omega | (simp only [ints_len] at *; omega)) ?_ | refine CutOb.split ?_ | refine And.intro (And.intro (by (simp only [List.length_append, List.length_take, List.length_drop, List.length_cons, List.length_nil, ints_len, List.length_replicate, pks_len, Go.Cv.vals_len]; omega)) (by (simp only [List.length_append, List.length_take, List.length_drop, List.length_cons, List.length_nil, ints_len, List.length_replicate, pks_len, Go.Cv.vals_len]; omega))) ?_ | refine ⟨_, _, rfl, ints_get (by first | omega | (simp only [ints_len] at *; omega)), ?_⟩ | refine ⟨_, _, (Int.toNat_of_nonneg (by first | omega | (simp only [ints_len] at *; omega))).symm, ints_get (by first | omega | (simp only [ints_len] at *; omega)), ?_⟩ | (refine Gh.mk [] ?_; (conv => whnf); refine CallOb.mk [0, 2, 3] cA rfl (ImpL.refl _) rfl rfl ?_; rintro _ _ ⟨rfl, rfl⟩) | fail)
        all_goals try (conv => whnf)
        · refine .mk [] ?_
          repeat' (conv => whnf
                   first | (refine CondOb.mk (fun _ => ?_) (fun _ => ?_) <;> first | (exfalso; omega) | skip) | refine ArOb.fits (by first | omega | (simp only [ints_len] at *; omega)) ?_ | refine LitOb.vec ?_ | refine MakeOb.vec ?_ | refine AllocOb.box ?_ | refine AsgOb.vec ?_ | refine AggOb.mk (by decide +kernel) ?_ | refine ArU.fits (by first | omega | (simp only [ints_len] at *; omega)) ?_ | refine ArB.fits (by first | omega | (simp only [ints_len] at *; omega)) ?_ | refine CutOb.split ?_ | refine Gh.mk [] ?_ | refine And.intro (And.intro (by (simp only [List.length_append, List.length_take, List.length_drop, List.length_cons, List.length_nil, ints_len, List.length_replicate, pks_len, Go.Cv.vals_len]; omega)) (by (simp only [List.length_append, List.length_take, List.length_drop, List.length_cons, List.length_nil, ints_len, List.length_replicate, pks_len, Go.Cv.vals_len]; omega))) ?_ | refine ⟨_, _, rfl, ints_get (by first | omega | (simp only [ints_len] at *; omega)), ?_⟩ | refine ⟨_, _, (Int.toNat_of_nonneg (by first | omega | (simp only [ints_len] at *; omega))).symm, ints_get (by first | omega | (simp only [ints_len] at *; omega)), ?_⟩ | fail)
          all_goals try (conv => whnf)
          exact ⟨([], 5), .inr ⟨hnone (e3 (by assumption)), rfl⟩, rfl, Imp.tup ⟨Imp.nil 3, Imp.refl _, trivial⟩⟩
        · have e := e4 (by assumption)
          have hl : (o ++ [(⟨x.f, u, x.s⟩ : Pk)]).length = o.length + 1 := by simp
          refine .mk [] ⟨((u, x.s) :: R, o ++ [⟨x.f, u, x.s⟩]), [0, 1, 5, 6], ⟨⟨?_, ?_⟩, ⟨?_, ?_⟩, ?_⟩, ?_, ?_⟩
          · dsimp only; omega
          · dsimp only; rw [hl]; exact e
          · dsimp only; rw [hl, List.length_cons]; omega
          · intro z hz
            rcases List.mem_cons.1 hz with rfl | hz
            · dsimp only; omega
            · exact hR2 z hz
          · dsimp only; rw [hl]; simp only [sumA]; omega
          · dsimp only; omega
          · dsimp only; rw [hl, ← hst]; (refine Le.mk (by kernel_rfl) ?_ ?_ <;> repeat' (first | exact True.intro | refine And.intro ?_ ?_ | exact Imp.refl _ | exact Imp.any _ | exact Imp.num (by first | omega | simp only [ints_len]) | exact rfl | exact Imp.bl (by simp)))
      · dsimp only
        have e2 := s2 hm hu
        repeat' (conv => whnf
                 first | refine AsgOb.nil ?_ | (refine CondOb.mk (fun _ => ?_) (fun _ => ?_) <;> first | (exfalso; omega) | skip) | refine ArOb.fits (by first | omega | (simp only [ints_len] at *; omega)) ?_ | refine LitOb.vec ?_ | refine MakeOb.vec ?_ | refine AllocOb.box ?_ | refine AsgOb.vec ?_ | refine AggOb.mk (by decide +kernel) ?_ | refine ArU.fits (by first | omega | (simp only [ints_len] at *; omega)) ?_ | refine ArB.fits (by first | omega | (simp only [ints_len] at *; omega)) ?_ | refine CutOb.split ?_ | refine Gh.mk [] ?_ | refine And.intro (And.intro (by (simp only [List.length_append, List.length_take, List.length_drop, List.length_cons, List.length_nil, ints_len, List.length_replicate, pks_len, Go.Cv.vals_len]; omega)) (by (simp only [List.length_append, List.length_take, List.length_drop, List.length_cons, List.length_nil, ints_len, List.length_replicate, pks_len, Go.Cv.vals_len]; omega))) ?_ | refine ⟨_, _, rfl, ints_get (by first | omega | (simp only [ints_len] at *; omega)), ?_⟩ | refine ⟨_, _, (Int.toNat_of_nonneg (by first | omega | (simp only [ints_len] at *; omega))).symm, ints_get (by first | omega | (simp only [ints_len] at *; omega)), ?_⟩ | fail)
        all_goals try (conv => whnf)
        exact ⟨([], 5), .inr ⟨hnone e2, rfl⟩, rfl, Imp.tup ⟨Imp.nil 3, Imp.refl _, trivial⟩⟩
  · have e : o.length = p.length := by omega
    rw [shO_full e]
    rw [e] at hN
    have cO := Order_ok o (by omega)
    repeat' (conv => whnf
             first | (refine CondOb.mk (fun _ => ?_) (fun _ => ?_) <;> first | (exfalso; omega) | skip) | refine ArOb.fits (by first | omega | (simp only [ints_len] at *; omega)) ?_ | refine LitOb.vec ?_ | refine MakeOb.vec ?_ | refine AllocOb.box ?_ | refine AsgOb.vec ?_ | refine AggOb.mk (by decide +kernel) ?_ | refine ArU.fits (by first | omega | (simp only [ints_len] at *; omega)) ?_ | refine ArB.fits (by first | omega | (simp only [ints_len] at *; omega)) ?_ | refine CutOb.split ?_ | refine And.intro (And.intro (by (simp only [List.length_append, List.length_take, List.length_drop, List.length_cons, List.length_nil, ints_len, List.length_replicate, pks_len, Go.Cv.vals_len]; omega)) (by (simp only [List.length_append, List.length_take, List.length_drop, List.length_cons, List.length_nil, ints_len, List.length_replicate, pks_len, Go.Cv.vals_len]; omega))) ?_ | refine ⟨_, _, rfl, ints_get (by first | omega | (simp only [ints_len] at *; omega)), ?_⟩ | refine ⟨_, _, (Int.toNat_of_nonneg (by first | omega | (simp only [ints_len] at *; omega))).symm, ints_get (by first | omega | (simp only [ints_len] at *; omega)), ?_⟩ | fail)
    all_goals try (conv => whnf)
    refine .mk [.fz 1] ?_
    refine CallOb.mk [] cO rfl (ImpL.refl _) rfl rfl ?_
    rintro _ _ ⟨rfl, rfl⟩
    repeat' (conv => whnf
             first | (refine CondOb.mk (fun _ => ?_) (fun _ => ?_) <;> first | (exfalso; omega) | skip) | refine ArOb.fits (by first | omega | (simp only [ints_len] at *; omega)) ?_ | refine LitOb.vec ?_ | refine MakeOb.vec ?_ | refine AllocOb.box ?_ | refine AsgOb.vec ?_ | refine AggOb.mk (by decide +kernel) ?_ | refine ArU.fits (by first | omega | (simp only [ints_len] at *; omega)) ?_ | refine ArB.fits (by first | omega | (simp only [ints_len] at *; omega)) ?_ | refine CutOb.split ?_ | refine Gh.mk [] ?_ | refine And.intro (And.intro (by (simp only [List.length_append, List.length_take, List.length_drop, List.length_cons, List.length_nil, ints_len, List.length_replicate, pks_len, Go.Cv.vals_len]; omega)) (by (simp only [List.length_append, List.length_take, List.length_drop, List.length_cons, List.length_nil, ints_len, List.length_replicate, pks_len, Go.Cv.vals_len]; omega))) ?_ | refine ⟨_, _, rfl, ints_get (by first | omega | (simp only [ints_len] at *; omega)), ?_⟩ | refine ⟨_, _, (Int.toNat_of_nonneg (by first | omega | (simp only [ints_len] at *; omega))).symm, ints_get (by first | omega | (simp only [ints_len] at *; omega)), ?_⟩ | fail)
    all_goals try (conv => whnf)
    exact ⟨(srt ptm o, 0), .inl ⟨R, o, hN, rfl⟩, rfl, Imp.refl _⟩
end Go.Proofs.Ytabbnnfobjifiaa
