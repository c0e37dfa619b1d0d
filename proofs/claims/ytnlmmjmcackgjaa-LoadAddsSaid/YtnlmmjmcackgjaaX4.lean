/-
  A text of the proofs of this seat: lemmas that the statements' proofs use; it states nothing of the program by itself beyond the contracts that its theorems bear. Conditions: those that stand in each theorem. Its short name: X4.
-/
import Derived.Test.YtnlmmjmcackgjaaX3
set_option linter.unusedVariables false
set_option linter.unusedSimpArgs false
namespace Go.Proofs.Ytnlmmjmcackgjaa
open Go.Sx Go.Np Go.Cv Go.Tp
set_option maxRecDepth 4000
set_option maxHeartbeats 2000000
theorem lAt_ok (n : Nt) (hn : NL n) (d : List (List Int)) (hd : DL d) (f h : Int) : Ctr Try.prog 35 [ntv n, .psl 1 (dls d), i64 f, i64 h] [] (fun r o => ∃ x, AtP n d f h x ∧ o = [] ∧ r = crvE x) := by
  refine Ctr.impE ?_
  refine fn_intro (E := env 0) tys_ok rfl rfl rfl Try.func35 (by kernel_rfl) rfl (by kernel_rfl) ?_
  have hz : ∀ e : Int, crvE ([], 0, 0, e) = .tup [crv [] 0 0, i64 e] := fun _ => rfl
  by_cases hA : ShapeP n d ∧ HopP n f h
  · obtain ⟨hs, hP⟩ := hA
    have hP' := hP
    obtain ⟨h1, h2, h3, h4⟩ := hP'
    obtain ⟨i, rfl⟩ := Int.eq_ofNat_of_zero_le h1
    obtain ⟨k, rfl⟩ := Int.eq_ofNat_of_zero_le h3
    have hx : ∀ x, AtP n d i k x ↔ ((bef d (n.fl.getD i fl0) k = none ∧ x = ([], 0, 0, 5)) ∨ ∃ s, bef d (n.fl.getD i fl0) k = some s ∧ MkP (ahd (ctc (n.fl.getD i fl0)) s) x) := fun x => by
      unfold AtP; rw [Int.toNat_natCast, Int.toNat_natCast]
      constructor
      · rintro (⟨a, _⟩ | ⟨_, a, _⟩ | ⟨_, _, a⟩)
        · exact absurd hs a
        · exact absurd hP a
        · exact a
      · exact fun a => .inr (.inr ⟨hs, hP, a⟩)
    rw [Int.toNat_natCast] at h4
    have hil : i < n.fl.length := by omega
    have cB := bf_ok n hn d hd hs i k (by omega) (by omega)
    have hg := flg hil
    obtain ⟨hv, hfi, hp, _⟩ := chk_ct hs.c i hil
    have hle := fun s => bef_le hs (chk_fl hs.c i hil) (i := k) (s := s) (by omega)
    have hr4 := (chk_fl hs.c i hil).l2
    generalize n.fl.getD i fl0 = g at *
    obtain ⟨p, hpe⟩ := Int.eq_ofNat_of_zero_le (show 0 ≤ g.p by omega)
    cases hbe : bef d g k with
    | none =>
      rw [hbe] at cB
      dsimp only [befR] at cB
      repeat' (conv => whnf
               first | (refine CondOb.mk (fun _ => ?_) (fun _ => ?_) <;> first | (exfalso; omega) | skip) | refine ArOb.fits (by first | omega | (simp only [ints_len] at *; omega)) ?_ | refine LitOb.vec ?_ | refine MakeOb.vec ?_ | refine AllocOb.box ?_ | refine AsgOb.vec ?_ | refine AggOb.mk (by decide +kernel) ?_ | refine ArU.fits (by first | omega | (simp only [ints_len] at *; omega)) ?_ | refine ArB.fits (by first | omega | (simp only [ints_len] at *; omega)) ?_ | refine CutOb.split ?_ | refine Gh.mk [] ?_ | refine And.intro (And.intro (by (simp only [List.length_append, List.length_take, List.length_drop, List.length_cons, List.length_nil, ints_len, List.length_replicate, lnl, fll, stl]; omega)) (by (simp only [List.length_append, List.length_take, List.length_drop, List.length_cons, List.length_nil, ints_len, List.length_replicate, lnl, fll, stl]; omega))) ?_ | refine ⟨_, _, rfl, ints_get (by first | omega | (simp only [ints_len] at *; omega)), ?_⟩ | refine ⟨_, _, (Int.toNat_of_nonneg (by first | omega | (simp only [ints_len] at *; omega))).symm, ints_get (by first | omega | (simp only [ints_len] at *; omega)), ?_⟩ | (refine CallOb.mk [] (Shape_ok n hn d hd) rfl (ImpL.refl _) rfl rfl ?_; rintro _ _ ⟨rfl, rfl⟩) | (refine CallOb.mk [] (hopOf_ok n hn i k) rfl (ImpL.refl _) rfl rfl ?_; rintro _ _ ⟨rfl, rfl⟩) | (refine CallOb.mk [] (cB) rfl (ImpL.refl _) rfl rfl ?_; rintro _ _ ⟨rfl, rfl⟩) | fail)
      all_goals try (conv => whnf)
      all_goals first
        | exact ⟨([], 0, 0, 5), (hx _).2 (.inl ⟨hbe, rfl⟩), rfl, Imp.tup ⟨imp_zero, Imp.refl _, trivial⟩⟩
        | (exfalso; first | contradiction | exact absurd hs (by assumption) | exact absurd hP (by assumption))
        | trace_state
    | some s =>
      rw [hbe] at cB
      dsimp only [befR] at cB
      have hs2 := hle s hbe
      have cA : Ctr Try.prog 70 [crv g.v g.p g.q, i64 s] [] (fun r o => ∃ x1 x2 x3 x4, MkP (ahd (ctc g) s) (x1, x2, x3, x4) ∧ o = [] ∧ r = .tup [crv x1 x2 x3, i64 x4]) := by
        have := Ahead_ok (ctc g) hv hfi s (by omega)
        rw [show (((ctc g).2.1 : Nat) : Int) = g.p by show ((g.p.toNat : Nat) : Int) = g.p; omega] at this
        exact this.mono (fun r o ⟨⟨x1, x2, x3, x4⟩, a, b, c⟩ => ⟨x1, x2, x3, x4, a, b, c⟩)
      repeat' (conv => whnf
               first | refine ⟨i, _, rfl, hg, ?_⟩ | (refine CondOb.mk (fun _ => ?_) (fun _ => ?_) <;> first | (exfalso; omega) | skip) | refine ArOb.fits (by first | omega | (simp only [ints_len] at *; omega)) ?_ | refine LitOb.vec ?_ | refine MakeOb.vec ?_ | refine AllocOb.box ?_ | refine AsgOb.vec ?_ | refine AggOb.mk (by decide +kernel) ?_ | refine ArU.fits (by first | omega | (simp only [ints_len] at *; omega)) ?_ | refine ArB.fits (by first | omega | (simp only [ints_len] at *; omega)) ?_ | refine CutOb.split ?_ | refine Gh.mk [] ?_ | refine And.intro (And.intro (by (simp only [List.length_append, List.length_take, List.length_drop, List.length_cons, List.length_nil, ints_len, List.length_replicate, lnl, fll, stl]; omega)) (by (simp only [List.length_append, List.length_take, List.length_drop, List.length_cons, List.length_nil, ints_len, List.length_replicate, lnl, fll, stl]; omega))) ?_ | refine ⟨_, _, rfl, ints_get (by first | omega | (simp only [ints_len] at *; omega)), ?_⟩ | refine ⟨_, _, (Int.toNat_of_nonneg (by first | omega | (simp only [ints_len] at *; omega))).symm, ints_get (by first | omega | (simp only [ints_len] at *; omega)), ?_⟩ | (refine CallOb.mk [] cA rfl (ImpL.refl _) rfl rfl ?_; rintro _ _ ⟨x1, x2, x3, x4, hmk, rfl, rfl⟩) | (refine CallOb.mk [] (Shape_ok n hn d hd) rfl (ImpL.refl _) rfl rfl ?_; rintro _ _ ⟨rfl, rfl⟩) | (refine CallOb.mk [] (hopOf_ok n hn i k) rfl (ImpL.refl _) rfl rfl ?_; rintro _ _ ⟨rfl, rfl⟩) | (refine CallOb.mk [] (cB) rfl (ImpL.refl _) rfl rfl ?_; rintro _ _ ⟨rfl, rfl⟩) | fail)
      all_goals try (conv => whnf)
      all_goals first
        | exact ⟨(x1, x2, x3, x4), (hx _).2 (.inr ⟨s, hbe, hmk⟩), rfl, Imp.refl _⟩
        | (exfalso; first | contradiction | exact absurd hs (by assumption) | exact absurd hP (by assumption))
        | trace_state
  · repeat' (conv => whnf
             first | (refine CondOb.mk (fun _ => ?_) (fun _ => ?_) <;> first | (exfalso; omega) | skip) | refine ArOb.fits (by first | omega | (simp only [ints_len] at *; omega)) ?_ | refine LitOb.vec ?_ | refine MakeOb.vec ?_ | refine AllocOb.box ?_ | refine AsgOb.vec ?_ | refine AggOb.mk (by decide +kernel) ?_ | refine ArU.fits (by first | omega | (simp only [ints_len] at *; omega)) ?_ | refine ArB.fits (by first | omega | (simp only [ints_len] at *; omega)) ?_ | refine CutOb.split ?_ | refine Gh.mk [] ?_ | refine And.intro (And.intro (by (simp only [List.length_append, List.length_take, List.length_drop, List.length_cons, List.length_nil, ints_len, List.length_replicate, lnl, fll, stl]; omega)) (by (simp only [List.length_append, List.length_take, List.length_drop, List.length_cons, List.length_nil, ints_len, List.length_replicate, lnl, fll, stl]; omega))) ?_ | refine ⟨_, _, rfl, ints_get (by first | omega | (simp only [ints_len] at *; omega)), ?_⟩ | refine ⟨_, _, (Int.toNat_of_nonneg (by first | omega | (simp only [ints_len] at *; omega))).symm, ints_get (by first | omega | (simp only [ints_len] at *; omega)), ?_⟩ | (refine CallOb.mk [] (Shape_ok n hn d hd) rfl (ImpL.refl _) rfl rfl ?_; rintro _ _ ⟨rfl, rfl⟩) | (refine CallOb.mk [] (hopOf_ok n hn f h) rfl (ImpL.refl _) rfl rfl ?_; rintro _ _ ⟨rfl, rfl⟩) | (exfalso; exact hA ⟨Classical.not_not.1 (by assumption), Classical.not_not.1 (by assumption)⟩) | fail)
    all_goals try (conv => whnf)
    all_goals first
      | exact ⟨([], 0, 0, 6), .inl ⟨by assumption, rfl⟩, rfl, Imp.tup ⟨imp_zero, Imp.refl _, trivial⟩⟩
      | exact ⟨([], 0, 0, 2), .inr (.inl ⟨Classical.not_not.1 (by assumption), by assumption, rfl⟩), rfl, Imp.tup ⟨imp_zero, Imp.refl _, trivial⟩⟩
      | (exfalso; simp_all; done)
      | trace_state
end Go.Proofs.Ytnlmmjmcackgjaa
