/-
  A text of the proofs of this seat: lemmas that the statements' proofs use; it states nothing of the program by itself beyond the contracts that its theorems bear. Conditions: those that stand in each theorem. Its short name: Kr.
-/
import Derived.Test.YtgbmiacpjmchdaaGreatNd
import Derived.Test.YtgbmiacpjmchdaaGreatKs
set_option linter.unusedVariables false
set_option linter.unusedSimpArgs false
namespace Go.Proofs.YtgbmiacpjmchdaaGreat
open Go.Sx Go.Np Go.Cv
set_option maxRecDepth 4000
set_option maxHeartbeats 2000000
theorem ints_set (l : List Int) (i : Nat) (v : Int) : (ints l).set i [i64 v] = ints (l.set i v) := by simp [ints, List.map_set]
theorem aP_Kr {A B K : Prop} (k : K) (a : A := by (simp only [zA, zT, zD, zC, zN, ints_len, zR, lnl, fll, stl]; omega)) (b : B := by (simp only [zA, zT, zD, zC, zN, ints_len, zR, lnl, fll, stl]; omega)) : (A ∧ B) ∧ K := ⟨⟨a, b⟩, k⟩
theorem Bent_ok (L : List Int) (k : Nat) (hL : L.length ≤ 2000) (hk : k ≤ 2000) (vs : List Int) (p q : Int) (h1 : 1 ≤ vs.length) (h2 : vs.length ≤ 800) (hv : ∀ j < vs.length, -4611686018427387904 ≤ vs.getD j 0 ∧ vs.getD j 0 ≤ 4611686018427387904) :
    Ctr Tryz.prog 34 [.ptr 0 0, crv vs p q] [src L k] (fun r o => ∃ x : (List Int × Int × Int) × Nat, (x.1.1.length ≤ 1000 ∧ x.2 ≤ 2000) ∧ o = [src L x.2] ∧ r = crv x.1.1 x.1.2.1 x.1.2.2) := by
  refine Ctr.impE ?_
  refine fn_intro (E := env 1) tys_ok rfl rfl rfl Tryz.func34 (by kernel_rfl) rfl (by kernel_rfl) ?_
  (repeat' (conv => whnf); first | (refine aC (fun _ => ?_) (fun _ => ?_) <;> try (exfalso; omega)) | refine aS ?_ | refine aG ?_ | refine aD ?_ | refine aP_Kr ?_ | refine aI ?_ | refine aJ ?_ | refine aW (.qs [0, 1, 2, 3] (.l 4 [1] (.l 5 [1] (.qs [6] (.l 7 [] .nil .no)) .no) .no)) ?_ | refine aW (.qs [0, 1, 2, 3, 4, 5] (.l 6 [4, 1] (.qs [7, 8, 9] (.l 10 [] .nil .no)) .no)) ?_ | refine aW (.qs [0, 1, 2, 3] (.l 4 [1] (.qs [5, 6] .nil) .no)) ?_ | refine aW (.qs [0, 1, 2, 3, 4, 5, 6, 7, 8, 9] (.l 10 [1] (.l 11 [] (.qs [12] (.l 13 [] .nil .no)) .no) .no)) ?_ | fail); all_goals try (conv => whnf)
  refine DrawOb.cut [] (.qs [1, 2, 4, 5, 6, 7] (.l 0 [7, 5, 2] (.l 3 [7, 5] (.qs [8] (.l 9 [7, 5] (.l 10 [] .nil .no) .no)) (.l 9 [7, 5, 2] (.l 3 [7, 5] (.qs [8] (.l 10 [] .nil .no)) .no) .no)) (.l 9 [7, 5, 2] (.l 0 [7, 5, 2] (.l 3 [7, 5] (.qs [8] (.l 10 [] .nil .no)) .no) .no) .no))) (Y := Unit) (st := fun _ => ⟨[(5, .ptr 1 0), (4, .ptr 3 0), (0, .ptr 0 0)], [src L k, .box [.vec 2, i64 p, i64 q], .vec 1 (ints vs), .box [.nil, i64 0, i64 0]]⟩) (inv := fun _ => True) (by decide +kernel) ?_ ?_
  · (repeat' (conv => whnf); first | (refine aC (fun _ => ?_) (fun _ => ?_) <;> try (exfalso; omega)) | refine aS ?_ | refine aG ?_ | refine aD ?_ | refine aH ?_ | refine aP_Kr ?_ | refine aI ?_ | refine aJ ?_ | refine aW (.qs [0, 1, 2, 3] (.l 4 [1] (.l 5 [1] (.qs [6] (.l 7 [] .nil .no)) .no) .no)) ?_ | refine aW (.qs [0, 1, 2, 3, 4, 5] (.l 6 [4, 1] (.qs [7, 8, 9] (.l 10 [] .nil .no)) .no)) ?_ | refine aW (.qs [0, 1, 2, 3] (.l 4 [1] (.qs [5, 6] .nil) .no)) ?_ | refine aW (.qs [0, 1, 2, 3, 4, 5, 6, 7, 8, 9] (.l 10 [1] (.l 11 [] (.qs [12] (.l 13 [] .nil .no)) .no) .no)) ?_ | refine And.intro ?_ ?_ | fail); all_goals try (conv => whnf)
    · exact ⟨(), [0, 5, 4, 2], trivial, by (exact aL)⟩
    · exact ⟨(), [0, 4, 5, 2], trivial, by (exact aL)⟩
    · exact ⟨(), [0, 3, 5, 2], trivial, by (exact aL)⟩
  rintro _ _
  (repeat' (conv => whnf); first | (refine aC (fun _ => ?_) (fun _ => ?_) <;> try (exfalso; omega)) | refine aS ?_ | refine aG ?_ | refine aD ?_ | refine aP_Kr ?_ | refine aI ?_ | refine aJ ?_ | refine aW (.qs [0, 1, 2, 3] (.l 4 [1] (.l 5 [1] (.qs [6] (.l 7 [] .nil .no)) .no) .no)) ?_ | refine aW (.qs [0, 1, 2, 3, 4, 5] (.l 6 [4, 1] (.qs [7, 8, 9] (.l 10 [] .nil .no)) .no)) ?_ | refine aW (.qs [0, 1, 2, 3] (.l 4 [1] (.qs [5, 6] .nil) .no)) ?_ | refine aW (.qs [0, 1, 2, 3, 4, 5, 6, 7, 8, 9] (.l 10 [1] (.l 11 [] (.qs [12] (.l 13 [] .nil .no)) .no) .no)) ?_ | fail); all_goals try (conv => whnf)
  · exfalso; have := ‹((ints vs).length : Int) = 0›; simp only [ints_len] at this; omega
  refine .mk [] ?_
  refine CallOb.mk [0] (N_ok L k hL hk _ (by rw [ints_len]; omega) (by rw [ints_len]; omega)) rfl (ImpL.refl _) rfl rfl ?_
  rintro _ _ ⟨⟨i, k1⟩, ⟨hi1, hi2, hk1⟩, rfl, rfl⟩
  dsimp only at hi1 hi2 hk1 ⊢
  simp only [ints_len] at hi2
  obtain ⟨i, rfl⟩ : ∃ n : Nat, i = n := ⟨i.toNat, by omega⟩
  (repeat' (conv => whnf); first | (refine aC (fun _ => ?_) (fun _ => ?_) <;> try (exfalso; omega)) | refine aS ?_ | refine aG ?_ | refine aD ?_ | refine aP_Kr ?_ | refine aI ?_ | refine aJ ?_ | refine aW (.qs [0, 1, 2, 3] (.l 4 [1] (.l 5 [1] (.qs [6] (.l 7 [] .nil .no)) .no) .no)) ?_ | refine aW (.qs [0, 1, 2, 3, 4, 5] (.l 6 [4, 1] (.qs [7, 8, 9] (.l 10 [] .nil .no)) .no)) ?_ | refine aW (.qs [0, 1, 2, 3] (.l 4 [1] (.qs [5, 6] .nil) .no)) ?_ | refine aW (.qs [0, 1, 2, 3, 4, 5, 6, 7, 8, 9] (.l 10 [1] (.l 11 [] (.qs [12] (.l 13 [] .nil .no)) .no) .no)) ?_ | fail); all_goals try (conv => whnf)
  refine .mk [] ?_
  refine CallOb.mk [0] (N_ok L k1 hL hk1 6 (by omega) (by omega)) rfl (ImpL.refl _) rfl rfl ?_
  rintro _ _ ⟨⟨w, k2⟩, ⟨hw1, hw2, hk2⟩, rfl, rfl⟩
  dsimp only at hw1 hw2 hk2 ⊢
  (repeat' (conv => whnf); first | (refine aC (fun _ => ?_) (fun _ => ?_) <;> try (exfalso; omega)) | refine aS ?_ | refine aG ?_ | refine aD ?_ | refine aP_Kr ?_ | refine aI ?_ | refine aJ ?_ | refine aW (.qs [0, 1, 2, 3] (.l 4 [1] (.l 5 [1] (.qs [6] (.l 7 [] .nil .no)) .no) .no)) ?_ | refine aW (.qs [0, 1, 2, 3, 4, 5] (.l 6 [4, 1] (.qs [7, 8, 9] (.l 10 [] .nil .no)) .no)) ?_ | refine aW (.qs [0, 1, 2, 3] (.l 4 [1] (.qs [5, 6] .nil) .no)) ?_ | refine aW (.qs [0, 1, 2, 3, 4, 5, 6, 7, 8, 9] (.l 10 [1] (.l 11 [] (.qs [12] (.l 13 [] .nil .no)) .no) .no)) ?_ | fail); all_goals try (conv => whnf)
  · refine .mk [.fz 4] ?_
    refine CallOb.mk [0] (Pick_ok L k2 hL hk2 [-1, 0, 1073741824, 1073741825, 4611686018427387904, 4611686018427387905] (by decide) (by decide)) rfl (ImpL.refl _) rfl rfl ?_
    rintro _ _ ⟨⟨v, k3⟩, ⟨hv, hk3⟩, rfl, rfl⟩
    dsimp only at hv hk3 ⊢
    (repeat' (conv => whnf); first | (refine aC (fun _ => ?_) (fun _ => ?_) <;> try (exfalso; omega)) | refine aS ?_ | refine aG ?_ | refine aD ?_ | refine aP_Kr ?_ | refine aI ?_ | refine aJ ?_ | refine aW (.qs [0, 1, 2, 3] (.l 4 [1] (.l 5 [1] (.qs [6] (.l 7 [] .nil .no)) .no) .no)) ?_ | refine aW (.qs [0, 1, 2, 3, 4, 5] (.l 6 [4, 1] (.qs [7, 8, 9] (.l 10 [] .nil .no)) .no)) ?_ | refine aW (.qs [0, 1, 2, 3] (.l 4 [1] (.qs [5, 6] .nil) .no)) ?_ | refine aW (.qs [0, 1, 2, 3, 4, 5, 6, 7, 8, 9] (.l 10 [1] (.l 11 [] (.qs [12] (.l 13 [] .nil .no)) .no) .no)) ?_ | fail); all_goals try (conv => whnf)
    refine ⟨i, rfl, by rw [ints_len]; omega, ?_⟩
    (repeat' (conv => whnf); first | (refine aC (fun _ => ?_) (fun _ => ?_) <;> try (exfalso; omega)) | refine aS ?_ | refine aG ?_ | refine aD ?_ | refine aP_Kr ?_ | refine aI ?_ | refine aJ ?_ | refine aW (.qs [0, 1, 2, 3] (.l 4 [1] (.l 5 [1] (.qs [6] (.l 7 [] .nil .no)) .no) .no)) ?_ | refine aW (.qs [0, 1, 2, 3, 4, 5] (.l 6 [4, 1] (.qs [7, 8, 9] (.l 10 [] .nil .no)) .no)) ?_ | refine aW (.qs [0, 1, 2, 3] (.l 4 [1] (.qs [5, 6] .nil) .no)) ?_ | refine aW (.qs [0, 1, 2, 3, 4, 5, 6, 7, 8, 9] (.l 10 [1] (.l 11 [] (.qs [12] (.l 13 [] .nil .no)) .no) .no)) ?_ | fail); all_goals try (conv => whnf)
    refine ⟨_, ints_get (by omega), ?_⟩
    (repeat' (conv => whnf); first | (refine aC (fun _ => ?_) (fun _ => ?_) <;> try (exfalso; omega)) | refine aS ?_ | refine aG ?_ | refine aD ?_ | refine aP_Kr ?_ | refine aI ?_ | refine aJ ?_ | refine aW (.qs [0, 1, 2, 3] (.l 4 [1] (.l 5 [1] (.qs [6] (.l 7 [] .nil .no)) .no) .no)) ?_ | refine aW (.qs [0, 1, 2, 3, 4, 5] (.l 6 [4, 1] (.qs [7, 8, 9] (.l 10 [] .nil .no)) .no)) ?_ | refine aW (.qs [0, 1, 2, 3] (.l 4 [1] (.qs [5, 6] .nil) .no)) ?_ | refine aW (.qs [0, 1, 2, 3, 4, 5, 6, 7, 8, 9] (.l 10 [1] (.l 11 [] (.qs [12] (.l 13 [] .nil .no)) .no) .no)) ?_ | fail); all_goals try (conv => whnf)
    refine .mk [.fa] ?_
    exact ⟨((vs.set i v, p, q), k3), ⟨by simp only [List.length_set]; omega, hk3⟩, rfl, Imp.agg ⟨Imp.psl (ints_set vs i v), Imp.refl _, Imp.refl _, trivial⟩⟩
  · refine .mk [.fz 4] ?_
    refine CallOb.mk [0] (Pick_ok L k2 hL hk2 [-1, 0, 1, ((ints vs).length : Int), ((ints vs).length : Int) + 1, 121] (by simp) (by simp)) rfl (ImpL.refl _) rfl rfl ?_
    rintro _ _ ⟨⟨v, k3⟩, ⟨hv, hk3⟩, rfl, rfl⟩
    dsimp only at hv hk3 ⊢
    (repeat' (conv => whnf); first | (refine aC (fun _ => ?_) (fun _ => ?_) <;> try (exfalso; omega)) | refine aS ?_ | refine aG ?_ | refine aD ?_ | refine aP_Kr ?_ | refine aI ?_ | refine aJ ?_ | refine aW (.qs [0, 1, 2, 3] (.l 4 [1] (.l 5 [1] (.qs [6] (.l 7 [] .nil .no)) .no) .no)) ?_ | refine aW (.qs [0, 1, 2, 3, 4, 5] (.l 6 [4, 1] (.qs [7, 8, 9] (.l 10 [] .nil .no)) .no)) ?_ | refine aW (.qs [0, 1, 2, 3] (.l 4 [1] (.qs [5, 6] .nil) .no)) ?_ | refine aW (.qs [0, 1, 2, 3, 4, 5, 6, 7, 8, 9] (.l 10 [1] (.l 11 [] (.qs [12] (.l 13 [] .nil .no)) .no) .no)) ?_ | fail); all_goals try (conv => whnf)
    refine .mk [.fa] ?_
    exact ⟨((vs, v, q), k3), ⟨by simp only; omega, hk3⟩, rfl, Imp.refl _⟩
  · refine .mk [.fz 4] ?_
    refine CallOb.mk [0] (Pick_ok L k2 hL hk2 [-1, 0, 1073741824, 1073741825] (by decide) (by decide)) rfl (ImpL.refl _) rfl rfl ?_
    rintro _ _ ⟨⟨v, k3⟩, ⟨hv, hk3⟩, rfl, rfl⟩
    dsimp only at hv hk3 ⊢
    (repeat' (conv => whnf); first | (refine aC (fun _ => ?_) (fun _ => ?_) <;> try (exfalso; omega)) | refine aS ?_ | refine aG ?_ | refine aD ?_ | refine aP_Kr ?_ | refine aI ?_ | refine aJ ?_ | refine aW (.qs [0, 1, 2, 3] (.l 4 [1] (.l 5 [1] (.qs [6] (.l 7 [] .nil .no)) .no) .no)) ?_ | refine aW (.qs [0, 1, 2, 3, 4, 5] (.l 6 [4, 1] (.qs [7, 8, 9] (.l 10 [] .nil .no)) .no)) ?_ | refine aW (.qs [0, 1, 2, 3] (.l 4 [1] (.qs [5, 6] .nil) .no)) ?_ | refine aW (.qs [0, 1, 2, 3, 4, 5, 6, 7, 8, 9] (.l 10 [1] (.l 11 [] (.qs [12] (.l 13 [] .nil .no)) .no) .no)) ?_ | fail); all_goals try (conv => whnf)
    refine .mk [.fa] ?_
    exact ⟨((vs, p, v), k3), ⟨by simp only; omega, hk3⟩, rfl, Imp.refl _⟩
  · refine .mk [.fz 2] ?_
    (repeat' (conv => whnf); first | (refine aC (fun _ => ?_) (fun _ => ?_) <;> try (exfalso; omega)) | refine aS ?_ | refine aG ?_ | refine aD ?_ | refine aP_Kr ?_ | refine aI ?_ | refine aJ ?_ | refine aW (.qs [0, 1, 2, 3] (.l 4 [1] (.l 5 [1] (.qs [6] (.l 7 [] .nil .no)) .no) .no)) ?_ | refine aW (.qs [0, 1, 2, 3, 4, 5] (.l 6 [4, 1] (.qs [7, 8, 9] (.l 10 [] .nil .no)) .no)) ?_ | refine aW (.qs [0, 1, 2, 3] (.l 4 [1] (.qs [5, 6] .nil) .no)) ?_ | refine aW (.qs [0, 1, 2, 3, 4, 5, 6, 7, 8, 9] (.l 10 [1] (.l 11 [] (.qs [12] (.l 13 [] .nil .no)) .no) .no)) ?_ | fail); all_goals try (conv => whnf)
    refine ⟨i, rfl, ?_⟩
    refine ⟨⟨by omega, by rw [ints_len]; omega⟩, ?_⟩
    (repeat' (conv => whnf); first | (refine aC (fun _ => ?_) (fun _ => ?_) <;> try (exfalso; omega)) | refine aS ?_ | refine aG ?_ | refine aD ?_ | refine aP_Kr ?_ | refine aI ?_ | refine aJ ?_ | refine aW (.qs [0, 1, 2, 3] (.l 4 [1] (.l 5 [1] (.qs [6] (.l 7 [] .nil .no)) .no) .no)) ?_ | refine aW (.qs [0, 1, 2, 3, 4, 5] (.l 6 [4, 1] (.qs [7, 8, 9] (.l 10 [] .nil .no)) .no)) ?_ | refine aW (.qs [0, 1, 2, 3] (.l 4 [1] (.qs [5, 6] .nil) .no)) ?_ | refine aW (.qs [0, 1, 2, 3, 4, 5, 6, 7, 8, 9] (.l 10 [1] (.l 11 [] (.qs [12] (.l 13 [] .nil .no)) .no) .no)) ?_ | fail); all_goals try (conv => whnf)
    refine .mk [.fa] ?_
    exact ⟨((vs.take i, p, q), k2), ⟨by simp only [List.length_take]; omega, hk2⟩, rfl, Imp.agg ⟨Imp.psl (by rw [List.drop_zero, ints_take]), Imp.refl _, Imp.refl _, trivial⟩⟩
  · refine ⟨i, rfl, by rw [ints_len]; omega, ?_⟩
    (repeat' (conv => whnf); first | (refine aC (fun _ => ?_) (fun _ => ?_) <;> try (exfalso; omega)) | refine aS ?_ | refine aG ?_ | refine aD ?_ | refine aP_Kr ?_ | refine aI ?_ | refine aJ ?_ | refine aW (.qs [0, 1, 2, 3] (.l 4 [1] (.l 5 [1] (.qs [6] (.l 7 [] .nil .no)) .no) .no)) ?_ | refine aW (.qs [0, 1, 2, 3, 4, 5] (.l 6 [4, 1] (.qs [7, 8, 9] (.l 10 [] .nil .no)) .no)) ?_ | refine aW (.qs [0, 1, 2, 3] (.l 4 [1] (.qs [5, 6] .nil) .no)) ?_ | refine aW (.qs [0, 1, 2, 3, 4, 5, 6, 7, 8, 9] (.l 10 [1] (.l 11 [] (.qs [12] (.l 13 [] .nil .no)) .no) .no)) ?_ | fail); all_goals try (conv => whnf)
    refine ⟨_, ints_get (by omega), ?_⟩
    (repeat' (conv => whnf); first | (refine aC (fun _ => ?_) (fun _ => ?_) <;> try (exfalso; omega)) | refine aS ?_ | refine aG ?_ | refine aD ?_ | refine aP_Kr ?_ | refine aI ?_ | refine aJ ?_ | refine aW (.qs [0, 1, 2, 3] (.l 4 [1] (.l 5 [1] (.qs [6] (.l 7 [] .nil .no)) .no) .no)) ?_ | refine aW (.qs [0, 1, 2, 3, 4, 5] (.l 6 [4, 1] (.qs [7, 8, 9] (.l 10 [] .nil .no)) .no)) ?_ | refine aW (.qs [0, 1, 2, 3] (.l 4 [1] (.qs [5, 6] .nil) .no)) ?_ | refine aW (.qs [0, 1, 2, 3, 4, 5, 6, 7, 8, 9] (.l 10 [1] (.l 11 [] (.qs [12] (.l 13 [] .nil .no)) .no) .no)) ?_ | fail); all_goals try (conv => whnf)
    have hvi := hv i (by omega)
    refine .mk [] ?_
    refine CallOb.mk [0] (N_ok L k2 hL hk2 5 (by omega) (by omega)) rfl (ImpL.refl _) rfl rfl ?_
    rintro _ _ ⟨⟨v9, k7⟩, ⟨hv9, hv9', hk7⟩, rfl, rfl⟩
    dsimp only at hv9 hv9' hk7 ⊢
    (repeat' (conv => whnf); first | (refine aC (fun _ => ?_) (fun _ => ?_) <;> try (exfalso; omega)) | refine aS ?_ | refine aG ?_ | refine aD ?_ | refine aP_Kr ?_ | refine aI ?_ | refine aJ ?_ | refine aW (.qs [0, 1, 2, 3] (.l 4 [1] (.l 5 [1] (.qs [6] (.l 7 [] .nil .no)) .no) .no)) ?_ | refine aW (.qs [0, 1, 2, 3, 4, 5] (.l 6 [4, 1] (.qs [7, 8, 9] (.l 10 [] .nil .no)) .no)) ?_ | refine aW (.qs [0, 1, 2, 3] (.l 4 [1] (.qs [5, 6] .nil) .no)) ?_ | refine aW (.qs [0, 1, 2, 3, 4, 5, 6, 7, 8, 9] (.l 10 [1] (.l 11 [] (.qs [12] (.l 13 [] .nil .no)) .no) .no)) ?_ | fail); all_goals try (conv => whnf)
    refine ⟨i, rfl, by rw [ints_len]; omega, ?_⟩
    (repeat' (conv => whnf); first | (refine aC (fun _ => ?_) (fun _ => ?_) <;> try (exfalso; omega)) | refine aS ?_ | refine aG ?_ | refine aD ?_ | refine aP_Kr ?_ | refine aI ?_ | refine aJ ?_ | refine aW (.qs [0, 1, 2, 3] (.l 4 [1] (.l 5 [1] (.qs [6] (.l 7 [] .nil .no)) .no) .no)) ?_ | refine aW (.qs [0, 1, 2, 3, 4, 5] (.l 6 [4, 1] (.qs [7, 8, 9] (.l 10 [] .nil .no)) .no)) ?_ | refine aW (.qs [0, 1, 2, 3] (.l 4 [1] (.qs [5, 6] .nil) .no)) ?_ | refine aW (.qs [0, 1, 2, 3, 4, 5, 6, 7, 8, 9] (.l 10 [1] (.l 11 [] (.qs [12] (.l 13 [] .nil .no)) .no) .no)) ?_ | fail); all_goals try (conv => whnf)
    refine ⟨_, ints_get (by omega), ?_⟩
    (repeat' (conv => whnf); first | (refine aC (fun _ => ?_) (fun _ => ?_) <;> try (exfalso; omega)) | refine aS ?_ | refine aG ?_ | refine aD ?_ | refine aP_Kr ?_ | refine aI ?_ | refine aJ ?_ | refine aW (.qs [0, 1, 2, 3] (.l 4 [1] (.l 5 [1] (.qs [6] (.l 7 [] .nil .no)) .no) .no)) ?_ | refine aW (.qs [0, 1, 2, 3, 4, 5] (.l 6 [4, 1] (.qs [7, 8, 9] (.l 10 [] .nil .no)) .no)) ?_ | refine aW (.qs [0, 1, 2, 3] (.l 4 [1] (.qs [5, 6] .nil) .no)) ?_ | refine aW (.qs [0, 1, 2, 3, 4, 5, 6, 7, 8, 9] (.l 10 [1] (.l 11 [] (.qs [12] (.l 13 [] .nil .no)) .no) .no)) ?_ | fail); all_goals try (conv => whnf)
    refine .mk [.fa] ?_
    exact ⟨((vs.set i (vs.getD i 0 + (v9 - 2)), p, q), k7), ⟨by simp only [List.length_set]; omega, hk7⟩, rfl, Imp.agg ⟨Imp.psl (ints_set vs i _), Imp.refl _, Imp.refl _, trivial⟩⟩
  · refine .mk [] ?_
    refine LoopOb.mk (Y := List Int × Nat) (st := fun y => ⟨[(5, .ptr 1 0), (4, .ptr 3 0), (0, .ptr 0 0)], [src L y.2, .box [.vec 2, i64 p, i64 q], .vec 1 (ints y.1), .box [.nil, i64 0, i64 0]]⟩)
      (inv := fun y => 1 ≤ y.1.length ∧ y.1.length ≤ 900 ∧ y.2 ≤ 2000) (fun y => 1000 - y.1.length) (vs, k2) [0, 1, 2, 3] ⟨h1, by simp only; omega, hk2⟩ (by (exact aL)) ?_
    rintro ⟨l, k4⟩ ⟨hl1, hl2, hk4⟩
    dsimp only at hl1 hl2 hk4 ⊢
    (repeat' (conv => whnf); first | (refine aC (fun _ => ?_) (fun _ => ?_) <;> try (exfalso; omega)) | refine aS ?_ | refine aG ?_ | refine aD ?_ | refine aP_Kr ?_ | refine aI ?_ | refine aJ ?_ | refine aW (.qs [0, 1, 2, 3] (.l 4 [1] (.l 5 [1] (.qs [6] (.l 7 [] .nil .no)) .no) .no)) ?_ | refine aW (.qs [0, 1, 2, 3, 4, 5] (.l 6 [4, 1] (.qs [7, 8, 9] (.l 10 [] .nil .no)) .no)) ?_ | refine aW (.qs [0, 1, 2, 3] (.l 4 [1] (.qs [5, 6] .nil) .no)) ?_ | refine aW (.qs [0, 1, 2, 3, 4, 5, 6, 7, 8, 9] (.l 10 [1] (.l 11 [] (.qs [12] (.l 13 [] .nil .no)) .no) .no)) ?_ | fail); all_goals try (conv => whnf)
    refine .mk [] ?_
    refine CallOb.mk [0] (N_ok L k4 hL hk4 2 (by omega) (by omega)) rfl (ImpL.refl _) rfl rfl ?_
    rintro _ _ ⟨⟨v9, k7⟩, ⟨hv9, hv9', hk7⟩, rfl, rfl⟩
    dsimp only at hv9 hv9' hk7 ⊢
    (repeat' (conv => whnf); first | (refine aC (fun _ => ?_) (fun _ => ?_) <;> try (exfalso; omega)) | refine aS ?_ | refine aG ?_ | refine aD ?_ | refine aP_Kr ?_ | refine aI ?_ | refine aJ ?_ | refine aW (.qs [0, 1, 2, 3] (.l 4 [1] (.l 5 [1] (.qs [6] (.l 7 [] .nil .no)) .no) .no)) ?_ | refine aW (.qs [0, 1, 2, 3, 4, 5] (.l 6 [4, 1] (.qs [7, 8, 9] (.l 10 [] .nil .no)) .no)) ?_ | refine aW (.qs [0, 1, 2, 3] (.l 4 [1] (.qs [5, 6] .nil) .no)) ?_ | refine aW (.qs [0, 1, 2, 3, 4, 5, 6, 7, 8, 9] (.l 10 [1] (.l 11 [] (.qs [12] (.l 13 [] .nil .no)) .no) .no)) ?_ | fail); all_goals try (conv => whnf)
    · have hlt := ‹((ints l).length : Int) < 400 + v9›
      simp only [ints_len] at hlt
      refine ⟨l.length - 1, by rw [ints_len]; omega, by rw [ints_len]; omega, ?_⟩
      (repeat' (conv => whnf); first | (refine aC (fun _ => ?_) (fun _ => ?_) <;> try (exfalso; omega)) | refine aS ?_ | refine aG ?_ | refine aD ?_ | refine aP_Kr ?_ | refine aI ?_ | refine aJ ?_ | refine aW (.qs [0, 1, 2, 3] (.l 4 [1] (.l 5 [1] (.qs [6] (.l 7 [] .nil .no)) .no) .no)) ?_ | refine aW (.qs [0, 1, 2, 3, 4, 5] (.l 6 [4, 1] (.qs [7, 8, 9] (.l 10 [] .nil .no)) .no)) ?_ | refine aW (.qs [0, 1, 2, 3] (.l 4 [1] (.qs [5, 6] .nil) .no)) ?_ | refine aW (.qs [0, 1, 2, 3, 4, 5, 6, 7, 8, 9] (.l 10 [1] (.l 11 [] (.qs [12] (.l 13 [] .nil .no)) .no) .no)) ?_ | fail); all_goals try (conv => whnf)
      refine ⟨_, ints_get (by omega), ?_⟩
      (repeat' (conv => whnf); first | (refine aC (fun _ => ?_) (fun _ => ?_) <;> try (exfalso; omega)) | refine aS ?_ | refine aG ?_ | refine aD ?_ | refine aP_Kr ?_ | refine aI ?_ | refine aJ ?_ | refine aW (.qs [0, 1, 2, 3] (.l 4 [1] (.l 5 [1] (.qs [6] (.l 7 [] .nil .no)) .no) .no)) ?_ | refine aW (.qs [0, 1, 2, 3, 4, 5] (.l 6 [4, 1] (.qs [7, 8, 9] (.l 10 [] .nil .no)) .no)) ?_ | refine aW (.qs [0, 1, 2, 3] (.l 4 [1] (.qs [5, 6] .nil) .no)) ?_ | refine aW (.qs [0, 1, 2, 3, 4, 5, 6, 7, 8, 9] (.l 10 [1] (.l 11 [] (.qs [12] (.l 13 [] .nil .no)) .no) .no)) ?_ | fail); all_goals try (conv => whnf)
      refine .mk [] ?_
      exact ⟨(l ++ [l.getD (l.length - 1) 0], k7), [0, 1, 5, 3], ⟨by simp, by simp only [List.length_append, List.length_cons, List.length_nil]; omega, hk7⟩, by simp only [List.length_append, List.length_cons, List.length_nil]; omega, by
        refine Le.mk (by kernel_rfl) ?_ ?_ <;> repeat' (first | exact True.intro | refine And.intro ?_ ?_ | exact Imp.refl _ | exact Imp.any _ | exact rfl | (simp [ints]; done))⟩
    · refine .mk [.fa] ?_
      exact ⟨((l, p, q), k7), ⟨by simp only; omega, hk7⟩, rfl, Imp.refl _⟩
end Go.Proofs.YtgbmiacpjmchdaaGreat
