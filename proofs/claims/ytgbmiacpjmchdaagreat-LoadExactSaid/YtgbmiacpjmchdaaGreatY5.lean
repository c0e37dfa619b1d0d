/-
  A text of the proofs of this seat: lemmas that the statements' proofs use; it states nothing of the program by itself beyond the contracts that its theorems bear. Conditions: those that stand in each theorem. Its short name: Y5 X4.
-/
import Derived.Test.YtgbmiacpjmchdaaGreatY2
import Derived.Test.YtgbmiacpjmchdaaGreatY3
import Derived.Test.YtgbmiacpjmchdaaGreatX3
set_option linter.unusedVariables false
set_option linter.unusedSimpArgs false
section
namespace Go.Proofs.YtgbmiacpjmchdaaGreat
open Go.Sx Go.Np Go.Cv Go.Tp
set_option maxRecDepth 4000
set_option maxHeartbeats 2000000
theorem aP_Y5 {A B K : Prop} (k : K) (a : A := by (simp only [zA, zT, zD, zC, zN, ints_len, zR, lnl, fll, stl]; omega)) (b : B := by (simp only [zA, zT, zD, zC, zN, ints_len, zR, lnl, fll, stl]; omega)) : (A ∧ B) ∧ K := ⟨⟨a, b⟩, k⟩
theorem rAtL_ok (n : Nt) (hn : NL n) (d : List (List Int)) (hd : DL d) (f h : Int) : Ctr Tryz.prog 16 [ntv n, .psl 1 (dls d), i64 f, i64 h] [] (fun r o => ∃ x, AtP n d f h x ∧ o = [] ∧ r = crvE x) := by
  refine Ctr.impE ?_
  refine fn_intro (E := env 0) tys_ok rfl rfl rfl Tryz.func16 (by kernel_rfl) rfl (by kernel_rfl) ?_
  have cS := rShape_ok n hn d hd
  have cB := rBefore_ok n hn d hd f h
  have hfl := fll n.fl
  by_cases hA : ShapeP n d ∧ HopP n f h
  · rw [befP_t hA] at cB
    obtain ⟨hs, hP⟩ := hA
    have hP' := hP
    obtain ⟨h1, h2, h3, h4⟩ := hP'
    obtain ⟨i, rfl⟩ := Int.eq_ofNat_of_zero_le h1
    obtain ⟨k, rfl⟩ := Int.eq_ofNat_of_zero_le h3
    have hx : ∀ x, AtP n d i k x ↔ ((bef d (n.fl.getD i fl0) k = none ∧ x = ([], 0, 0, 5)) ∨ ∃ s, bef d (n.fl.getD i fl0) k = some s ∧ MkP (ahd (ctc (n.fl.getD i fl0)) s) x) := fun x => by
      unfold AtP; rw [Int.toNat_natCast, Int.toNat_natCast]
      constructor
      · rintro (⟨a, _⟩ | ⟨_, a, _⟩ | ⟨_, _, a⟩)
        · exact absurd hs a
        · exact absurd hP a
        · exact a
      · exact fun a => .inr (.inr ⟨hs, hP, a⟩)
    rw [Int.toNat_natCast] at h4 cB
    rw [Int.toNat_natCast] at cB
    have hil : i < n.fl.length := by omega
    have hg := flg hil
    obtain ⟨hv, hfi, hp, _⟩ := chk_ct hs.c i hil
    have hle := fun s => bef_le hs (chk_fl hs.c i hil) (i := k) (s := s) (by omega)
    have hr4 := (chk_fl hs.c i hil).l2
    generalize n.fl.getD i fl0 = g at *
    have hil2 := ints_len g.rt
    obtain ⟨p, hpe⟩ := Int.eq_ofNat_of_zero_le (show 0 ≤ g.p by omega)
    cases hbe : bef d g k with
    | none =>
      rw [hbe] at cB
      dsimp only [befR] at cB
      (repeat' (conv => whnf); first | refine ⟨i, _, rfl, hg, ?_⟩ | (refine aC (fun _ => ?_) (fun _ => ?_) <;> try (exfalso; omega)) | refine aS ?_ | refine aG ?_ | refine aD ?_ | refine aH ?_ | refine aP_Y5 ?_ | refine aI ?_ | refine aJ ?_ | (refine aK [] cS ?_) | (refine aK [] cB ?_) | fail); all_goals try (conv => whnf)
      all_goals first
        | exact ⟨([], 0, 0, 5), (hx _).2 (.inl ⟨hbe, rfl⟩), rfl, Imp.tup ⟨imp_zero, Imp.refl _, trivial⟩⟩
        | (exfalso; first | contradiction | exact absurd hs (by assumption) | exact absurd hP (by assumption) | omega)
        | trace_state
    | some s =>
      rw [hbe] at cB
      dsimp only [befR] at cB
      have hs2 := hle s hbe
      have cA : Ctr Tryz.prog 43 [crv g.v g.p g.q, i64 s] [] (fun r o => ∃ x1 x2 x3 x4, MkP (ahd (ctc g) s) (x1, x2, x3, x4) ∧ o = [] ∧ r = .tup [crv x1 x2 x3, i64 x4]) := by
        have := rAhead_ok (ctc g) hv hfi s (by omega)
        rw [show (((ctc g).2.1 : Nat) : Int) = g.p by show ((g.p.toNat : Nat) : Int) = g.p; omega] at this
        exact this.mono (fun r o ⟨⟨x1, x2, x3, x4⟩, a, b, c⟩ => ⟨x1, x2, x3, x4, a, b, c⟩)
      (repeat' (conv => whnf); first | refine ⟨i, _, rfl, hg, ?_⟩ | (refine aC (fun _ => ?_) (fun _ => ?_) <;> try (exfalso; omega)) | refine aS ?_ | refine aG ?_ | refine aD ?_ | refine aH ?_ | refine aP_Y5 ?_ | refine aI ?_ | refine aJ ?_ | (refine aK [] cS ?_) | (refine aK [] cB ?_) | (refine CallOb.mk [] cA rfl (ImpL.refl _) rfl rfl ?_; rintro _ _ ⟨x1, x2, x3, x4, hmk, rfl, rfl⟩) | fail); all_goals try (conv => whnf)
      all_goals first
        | exact ⟨(x1, x2, x3, x4), (hx _).2 (.inr ⟨s, hbe, hmk⟩), rfl, Imp.refl _⟩
        | (exfalso; first | contradiction | exact absurd hs (by assumption) | exact absurd hP (by assumption) | omega)
        | trace_state
  · (repeat' (conv => whnf); first | refine ⟨f.toNat, _, by omega, flg (show f.toNat < n.fl.length by omega), ?_⟩ | (refine aC (fun _ => ?_) (fun _ => ?_) <;> try (exfalso; omega)) | refine aS ?_ | refine aG ?_ | refine aD ?_ | refine aH ?_ | refine aP_Y5 ?_ | refine aI ?_ | refine aJ ?_ | (refine aK [] cS ?_) | fail); all_goals try (conv => whnf)
    all_goals try exact ⟨([], 0, 0, 6), .inl ⟨by assumption, rfl⟩, rfl, Imp.tup ⟨imp_zero, Imp.refl _, trivial⟩⟩
    all_goals
      have hSp : ShapeP n d := Classical.not_not.1 (by assumption)
      have hil := ints_len (n.fl.getD f.toNat fl0).rt
      have hno : ¬HopP n f h := fun k => hA ⟨hSp, k⟩
    all_goals first
      | (refine ⟨([], 0, 0, 2), .inr (.inl ⟨hSp, hno, rfl⟩), rfl, Imp.tup ⟨imp_zero, Imp.refl _, trivial⟩⟩; done)
      | exact absurd (show HopP n f h from ⟨by omega, by omega, by omega, by omega⟩) hno
end Go.Proofs.YtgbmiacpjmchdaaGreat
end
section
namespace Go.Proofs.YtgbmiacpjmchdaaGreat
open Go.Sx Go.Np Go.Cv Go.Tp
set_option maxRecDepth 4000
set_option maxHeartbeats 2000000
theorem aP_X4 {A B K : Prop} (k : K) (a : A := by (simp only [zA, zT, zD, zC, zN, ints_len, zR, lnl, fll, stl]; omega)) (b : B := by (simp only [zA, zT, zD, zC, zN, ints_len, zR, lnl, fll, stl]; omega)) : (A ∧ B) ∧ K := ⟨⟨a, b⟩, k⟩
theorem lAt_ok (n : Nt) (hn : NL n) (d : List (List Int)) (hd : DL d) (f h : Int) : Ctr Tryz.prog 15 [ntv n, .psl 1 (dls d), i64 f, i64 h] [] (fun r o => ∃ x, AtP n d f h x ∧ o = [] ∧ r = crvE x) := by
  refine Ctr.impE ?_
  refine fn_intro (E := env 0) tys_ok rfl rfl rfl Tryz.func15 (by kernel_rfl) rfl (by kernel_rfl) ?_
  have hz : ∀ e : Int, crvE ([], 0, 0, e) = .tup [crv [] 0 0, i64 e] := fun _ => rfl
  by_cases hA : ShapeP n d ∧ HopP n f h
  · obtain ⟨hs, hP⟩ := hA
    have hP' := hP
    obtain ⟨h1, h2, h3, h4⟩ := hP'
    obtain ⟨i, rfl⟩ := Int.eq_ofNat_of_zero_le h1
    obtain ⟨k, rfl⟩ := Int.eq_ofNat_of_zero_le h3
    have hx : ∀ x, AtP n d i k x ↔ ((bef d (n.fl.getD i fl0) k = none ∧ x = ([], 0, 0, 5)) ∨ ∃ s, bef d (n.fl.getD i fl0) k = some s ∧ MkP (ahd (ctc (n.fl.getD i fl0)) s) x) := fun x => by
      unfold AtP; rw [Int.toNat_natCast, Int.toNat_natCast]
      constructor
      · rintro (⟨a, _⟩ | ⟨_, a, _⟩ | ⟨_, _, a⟩)
        · exact absurd hs a
        · exact absurd hP a
        · exact a
      · exact fun a => .inr (.inr ⟨hs, hP, a⟩)
    rw [Int.toNat_natCast] at h4
    have hil : i < n.fl.length := by omega
    have cB := bf_ok n hn d hd hs i k (by omega) (by omega)
    have hg := flg hil
    obtain ⟨hv, hfi, hp, _⟩ := chk_ct hs.c i hil
    have hle := fun s => bef_le hs (chk_fl hs.c i hil) (i := k) (s := s) (by omega)
    have hr4 := (chk_fl hs.c i hil).l2
    generalize n.fl.getD i fl0 = g at *
    obtain ⟨p, hpe⟩ := Int.eq_ofNat_of_zero_le (show 0 ≤ g.p by omega)
    cases hbe : bef d g k with
    | none =>
      rw [hbe] at cB
      dsimp only [befR] at cB
      (repeat' (conv => whnf); first | (refine aC (fun _ => ?_) (fun _ => ?_) <;> try (exfalso; omega)) | refine aS ?_ | refine aG ?_ | refine aD ?_ | refine aH ?_ | refine aP_X4 ?_ | refine aI ?_ | refine aJ ?_ | (refine aK [] (Shape_ok n hn d hd) ?_) | (refine aK [] (hopOf_ok n hn i k) ?_) | (refine aK [] (cB) ?_) | fail); all_goals try (conv => whnf)
      all_goals first
        | exact ⟨([], 0, 0, 5), (hx _).2 (.inl ⟨hbe, rfl⟩), rfl, Imp.tup ⟨imp_zero, Imp.refl _, trivial⟩⟩
        | (exfalso; first | contradiction | exact absurd hs (by assumption) | exact absurd hP (by assumption))
        | trace_state
    | some s =>
      rw [hbe] at cB
      dsimp only [befR] at cB
      have hs2 := hle s hbe
      have cA : Ctr Tryz.prog 42 [crv g.v g.p g.q, i64 s] [] (fun r o => ∃ x1 x2 x3 x4, MkP (ahd (ctc g) s) (x1, x2, x3, x4) ∧ o = [] ∧ r = .tup [crv x1 x2 x3, i64 x4]) := by
        have := Ahead_ok (ctc g) hv hfi s (by omega)
        rw [show (((ctc g).2.1 : Nat) : Int) = g.p by show ((g.p.toNat : Nat) : Int) = g.p; omega] at this
        exact this.mono (fun r o ⟨⟨x1, x2, x3, x4⟩, a, b, c⟩ => ⟨x1, x2, x3, x4, a, b, c⟩)
      (repeat' (conv => whnf); first | refine ⟨i, _, rfl, hg, ?_⟩ | (refine aC (fun _ => ?_) (fun _ => ?_) <;> try (exfalso; omega)) | refine aS ?_ | refine aG ?_ | refine aD ?_ | refine aH ?_ | refine aP_X4 ?_ | refine aI ?_ | refine aJ ?_ | (refine CallOb.mk [] cA rfl (ImpL.refl _) rfl rfl ?_; rintro _ _ ⟨x1, x2, x3, x4, hmk, rfl, rfl⟩) | (refine aK [] (Shape_ok n hn d hd) ?_) | (refine aK [] (hopOf_ok n hn i k) ?_) | (refine aK [] (cB) ?_) | fail); all_goals try (conv => whnf)
      all_goals first
        | exact ⟨(x1, x2, x3, x4), (hx _).2 (.inr ⟨s, hbe, hmk⟩), rfl, Imp.refl _⟩
        | (exfalso; first | contradiction | exact absurd hs (by assumption) | exact absurd hP (by assumption))
        | trace_state
  · (repeat' (conv => whnf); first | (refine aC (fun _ => ?_) (fun _ => ?_) <;> try (exfalso; omega)) | refine aS ?_ | refine aG ?_ | refine aD ?_ | refine aH ?_ | refine aP_X4 ?_ | refine aI ?_ | refine aJ ?_ | (refine aK [] (Shape_ok n hn d hd) ?_) | (refine aK [] (hopOf_ok n hn f h) ?_) | (exfalso; exact hA ⟨Classical.not_not.1 (by assumption), Classical.not_not.1 (by assumption)⟩) | fail); all_goals try (conv => whnf)
    all_goals first
      | exact ⟨([], 0, 0, 6), .inl ⟨by assumption, rfl⟩, rfl, Imp.tup ⟨imp_zero, Imp.refl _, trivial⟩⟩
      | exact ⟨([], 0, 0, 2), .inr (.inl ⟨Classical.not_not.1 (by assumption), by assumption, rfl⟩), rfl, Imp.tup ⟨imp_zero, Imp.refl _, trivial⟩⟩
      | (exfalso; simp_all; done)
      | trace_state
end Go.Proofs.YtgbmiacpjmchdaaGreat
end
