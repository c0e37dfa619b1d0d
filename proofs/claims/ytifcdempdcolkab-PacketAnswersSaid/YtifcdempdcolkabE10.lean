/-
  A text of the proofs of this seat: lemmas that the statements' proofs use; it states nothing of the program by itself beyond the contracts that its theorems bear. Conditions: those that stand in each theorem. Its short name: E10.
-/
import Derived.Test.YtifcdempdcolkabT1
import Derived.Test.YtifcdempdcolkabW4
set_option linter.unusedVariables false
set_option linter.unusedSimpArgs false
namespace Go.Proofs.Ytifcdempdcolkab
open Go.Sx Go.Pk Go.Cv
set_option maxRecDepth 8000
set_option maxHeartbeats 2000000
--APPX pks_len, Go.Cv.vals_len
theorem aP_E10 {A B K : Prop} (k : K) (a : A := by (simp only [zA, zT, zD, zC, zN, ints_len, zR, pks_len, Go.Cv.vals_len]; omega)) (b : B := by (simp only [zA, zT, zD, zC, zN, ints_len, zR, pks_len, Go.Cv.vals_len]; omega)) : (A ∧ B) ∧ K := ⟨⟨a, b⟩, k⟩
theorem finish_ok (L : List Int) (k : Nat) (hL : L.length ≤ 2000) (hk : k ≤ 2000) (p : List Pk) (hp : p.length ≤ 60) (ht : ∀ x ∈ p, 0 ≤ x.t ∧ x.t ≤ 100000) :
    Ctr Try.prog 20 [.ptr 0 0, .psl 3 (pks p)] [src L k] (fun r o => ∃ x : List Int × Nat, (x.1.length ≤ 100 ∧ x.2 ≤ 2000) ∧ o = [src L x.2] ∧ r = .psl 1 (ints x.1)) := by
  refine Ctr.impE ?_
  refine fn_intro (E := env 1) tys_ok rfl rfl rfl Try.func20 (by kernel_rfl) rfl (by kernel_rfl) ?_
  have hpl := pks_len p
  (repeat' (conv => whnf); first | (refine aC (fun _ => ?_) (fun _ => ?_) <;> try (exfalso; omega)) | refine aS ?_ | refine aG ?_ | refine aD ?_ | refine aP_E10 ?_ | refine aI ?_ | refine aJ ?_ | refine aW (.qs [0, 1, 2, 3, 4, 5, 6, 9, 10, 11] (.l 7 [10, 5, 3] (.qs [8] (.l 12 [10, 5, 3] (.qs [13] (.l 14 [] (.l 15 [] (.l 16 [] (.l 17 [] (.qs [18] .nil) .no) .no) .no) .no)) .no)) .no)) ?_ | fail); all_goals try (conv => whnf)
  refine .mk [] ?_
  refine LoopOb.mk (Y := List Int × Nat) (st := fun y => ⟨[(10, i64 y.1.length), (9, i64 (pks p).length), (8, .psl 3 (pks p)), (5, .vec 1), (0, .ptr 0 0)], [src L y.2, .vec 1 (ints y.1)]⟩)
    (inv := fun y => y.1.length ≤ p.length ∧ y.2 ≤ 2000) (fun y => p.length - y.1.length) ([], k) [0, 2] ⟨by simp, hk⟩ (by (exact aL)) ?_
  rintro ⟨l, k⟩ ⟨hl, hk⟩
  dsimp only at hl hk ⊢
  have hli := ints_len l
  (repeat' (conv => whnf); first | refine aS ?_ | refine aG ?_ | refine aD ?_ | refine aH ?_ | refine aP_E10 ?_ | refine aI ?_ | refine aJ ?_ | refine aW (.qs [0, 1, 2, 3, 4, 5, 6, 9, 10, 11] (.l 7 [10, 5, 3] (.qs [8] (.l 12 [10, 5, 3] (.qs [13] (.l 14 [] (.l 15 [] (.l 16 [] (.l 17 [] (.qs [18] .nil) .no) .no) .no) .no)) .no)) .no)) ?_ | fail); all_goals try (conv => whnf)
  refine CondOb.mk (fun hlt => ?_) (fun hlt => ?_)
  · have hil : l.length < p.length := by omega
    have hg := pks_get hil
    have hxt := ht _ (getD_memP hil)
    generalize p.getD l.length pk0 = x at *
    (repeat' (conv => whnf); first | refine ⟨l.length, _, rfl, hg, ?_⟩ | refine LitOb.ful ?_ | (refine aC (fun _ => ?_) (fun _ => ?_) <;> try (exfalso; omega)) | refine aS ?_ | refine aG ?_ | refine aD ?_ | refine aH ?_ | refine aP_E10 ?_ | refine aI ?_ | refine aJ ?_ | refine aW (.qs [0, 1, 2, 3, 4, 5, 6, 9, 10, 11] (.l 7 [10, 5, 3] (.qs [8] (.l 12 [10, 5, 3] (.qs [13] (.l 14 [] (.l 15 [] (.l 16 [] (.l 17 [] (.qs [18] .nil) .no) .no) .no) .no)) .no)) .no)) ?_ | (refine CallOb.mk [0] (N_ok L _ hL (by assumption) 9 (by omega) (by omega)) rfl (ImpL.refl _) rfl rfl ?_; rintro _ _ ⟨⟨a, k1⟩, ⟨ha1, ha2, hk1⟩, rfl, rfl⟩; dsimp only at ha1 ha2 hk1 ⊢) | (refine CallOb.mk [0] (N_ok L _ hL (by assumption) 40 (by omega) (by omega)) rfl (ImpL.refl _) rfl rfl ?_; rintro _ _ ⟨⟨b, k2⟩, ⟨hb1, hb2, hk2⟩, rfl, rfl⟩; dsimp only at hb1 hb2 hk2 ⊢) | fail); all_goals try (conv => whnf)
    refine CallOb.mk [0] (Pick_ok L k2 hL hk2 [x.t, x.t + a, x.t + b, -1] (by simp) (by simp)) rfl ⟨Imp.refl _, Imp.fulp rfl, trivial⟩ rfl rfl ?_
    rintro _ _ ⟨⟨v, k3⟩, ⟨_, hk3⟩, rfl, rfl⟩
    dsimp only at hk3 ⊢
    (repeat' (conv => whnf); first | (refine aC (fun _ => ?_) (fun _ => ?_) <;> try (exfalso; omega)) | refine aS ?_ | refine aG ?_ | refine aD ?_ | refine aH ?_ | refine aP_E10 ?_ | refine aI ?_ | refine aJ ?_ | refine aW (.qs [0, 1, 2, 3, 4, 5, 6, 9, 10, 11] (.l 7 [10, 5, 3] (.qs [8] (.l 12 [10, 5, 3] (.qs [13] (.l 14 [] (.l 15 [] (.l 16 [] (.l 17 [] (.qs [18] .nil) .no) .no) .no) .no)) .no)) .no)) ?_ | fail); all_goals try (conv => whnf)
    exact ⟨(l ++ [v], k3), [0, 4], ⟨by simp only [List.length_append, List.length_singleton]; omega, hk3⟩, by simp only [List.length_append, List.length_singleton]; omega, by dsimp only; rw [show ints (l ++ [v]) = ints l ++ [[i64 v]] by simp [ints], List.length_append, List.length_singleton]; (exact aL)⟩
  have hset : ∀ (j : Nat) (v : Int), (ints l).set j [i64 v] = ints (l.set j v) := fun j v => by simp [ints, List.map_set]
  (repeat' (conv => whnf); first | refine aC (fun _ => ?_) (fun _ => ?_) | refine aS ?_ | refine aG ?_ | refine aH ?_ | refine aP_E10 ?_ | refine aI ?_ | refine aJ ?_ | refine aW (.qs [0, 1, 2, 3, 4, 5, 6, 9, 10, 11] (.l 7 [10, 5, 3] (.qs [8] (.l 12 [10, 5, 3] (.qs [13] (.l 14 [] (.l 15 [] (.l 16 [] (.l 17 [] (.qs [18] .nil) .no) .no) .no) .no)) .no)) .no)) ?_ | fail); all_goals try (conv => whnf)
  refine CutOb.cut (Y := List Int × Nat) (st := fun y => ⟨[(5, .vec 1), (0, .ptr 0 0)], [src L y.2, .vec 1 (ints y.1)]⟩) (inv := fun y => y.1.length ≤ 60 ∧ y.2 ≤ 2000) ?_ ?_
  · (repeat' (conv => whnf); first | refine LitOb.ful ?_ | (refine aC (fun _ => ?_) (fun _ => ?_) <;> try (exfalso; omega)) | refine aS ?_ | refine aG ?_ | refine aD ?_ | refine aH ?_ | refine aP_E10 ?_ | refine aI ?_ | refine aJ ?_ | refine aW (.qs [0, 1, 2, 3, 4, 5, 6, 9, 10, 11] (.l 7 [10, 5, 3] (.qs [8] (.l 12 [10, 5, 3] (.qs [13] (.l 14 [] (.l 15 [] (.l 16 [] (.l 17 [] (.qs [18] .nil) .no) .no) .no) .no)) .no)) .no)) ?_ | (refine CallOb.mk [0] (N_ok L _ hL (by assumption) 4 (by omega) (by omega)) rfl (ImpL.refl _) rfl rfl ?_; rintro _ _ ⟨⟨a, k1⟩, ⟨ha1, ha2, hk1⟩, rfl, rfl⟩; dsimp only at ha1 ha2 hk1 ⊢) | fail); all_goals try (conv => whnf)
    · refine CallOb.mk [0] (N_ok L k1 hL hk1 ((ints l).length : Int) (by omega) (by omega)) rfl (ImpL.refl _) rfl rfl ?_
      rintro _ _ ⟨⟨j, k2⟩, ⟨hj1, hj2, hk2⟩, rfl, rfl⟩
      dsimp only at hj1 hj2 hk2 ⊢
      obtain ⟨j, rfl⟩ : ∃ n : Nat, j = n := ⟨j.toNat, by omega⟩
      (repeat' (conv => whnf); first | refine LitOb.ful ?_ | (refine aC (fun _ => ?_) (fun _ => ?_) <;> try (exfalso; omega)) | refine aS ?_ | refine aG ?_ | refine aD ?_ | refine aH ?_ | refine aP_E10 ?_ | refine aI ?_ | refine aJ ?_ | refine aW (.qs [0, 1, 2, 3, 4, 5, 6, 9, 10, 11] (.l 7 [10, 5, 3] (.qs [8] (.l 12 [10, 5, 3] (.qs [13] (.l 14 [] (.l 15 [] (.l 16 [] (.l 17 [] (.qs [18] .nil) .no) .no) .no) .no)) .no)) .no)) ?_ | fail); all_goals try (conv => whnf)
      refine CallOb.mk [0] (Pick_ok L k2 hL hk2 [-2, 0, 1999, 2000] (by decide) (by decide)) rfl ⟨Imp.refl _, Imp.fulp rfl, trivial⟩ rfl rfl ?_
      rintro _ _ ⟨⟨v, k3⟩, ⟨_, hk3⟩, rfl, rfl⟩
      dsimp only at hk3 ⊢
      (repeat' (conv => whnf); first | refine ⟨_, ints_get (by omega), ?_⟩ | refine ⟨j, rfl, by omega, ?_⟩ | (refine aC (fun _ => ?_) (fun _ => ?_) <;> try (exfalso; omega)) | refine aS ?_ | refine aG ?_ | refine aD ?_ | refine aH ?_ | refine aP_E10 ?_ | refine aI ?_ | refine aJ ?_ | refine aW (.qs [0, 1, 2, 3, 4, 5, 6, 9, 10, 11] (.l 7 [10, 5, 3] (.qs [8] (.l 12 [10, 5, 3] (.qs [13] (.l 14 [] (.l 15 [] (.l 16 [] (.l 17 [] (.qs [18] .nil) .no) .no) .no) .no)) .no)) .no)) ?_ | fail); all_goals try (conv => whnf)
      exact ⟨(l.set j v, k3), [0, 1], ⟨by dsimp only; rw [List.length_set]; omega, hk3⟩, by dsimp only; rw [← hset]; (exact aL)⟩
    · exact ⟨(l, k1), [0, 1], ⟨by dsimp only; omega, hk1⟩, by (exact aL)⟩
    · exact ⟨(l, k), [0, 1], ⟨by dsimp only; omega, hk⟩, by (exact aL)⟩
  clear hset hli hlt hl hk l k
  rintro ⟨l, k⟩ ⟨hl, hk⟩
  dsimp only at hl hk ⊢
  have hli := ints_len l
  (repeat' (conv => whnf); first | (refine aC (fun _ => ?_) (fun _ => ?_) <;> try (exfalso; omega)) | refine aS ?_ | refine aG ?_ | refine aD ?_ | refine aP_E10 ?_ | refine aI ?_ | refine aJ ?_ | refine aW (.qs [0, 1, 2, 3, 4, 5, 6, 9, 10, 11] (.l 7 [10, 5, 3] (.qs [8] (.l 12 [10, 5, 3] (.qs [13] (.l 14 [] (.l 15 [] (.l 16 [] (.l 17 [] (.qs [18] .nil) .no) .no) .no) .no)) .no)) .no)) ?_ | (refine Gh.mk [] ?_; (conv => whnf); refine CallOb.mk [0] (N_ok L _ hL (by assumption) 9 (by omega) (by omega)) rfl (ImpL.refl _) rfl rfl ?_; rintro _ _ ⟨⟨a, k1⟩, ⟨ha1, ha2, hk1⟩, rfl, rfl⟩; dsimp only at ha1 ha2 hk1 ⊢) | fail); all_goals try (conv => whnf)
  · refine .mk [.fa] ?_
    (conv => whnf)
    exact ⟨(l ++ [0], k1), ⟨by simp only [List.length_append, List.length_singleton]; omega, hk1⟩, rfl, by dsimp only; rw [show ints (l ++ [0]) = ints l ++ [[i64 0]] by simp [ints]]; exact Imp.refl _⟩
  · refine .mk [.fa] ?_
    (conv => whnf)
    exact ⟨(l, k1), ⟨by dsimp only; omega, hk1⟩, rfl, Imp.refl _⟩
end Go.Proofs.Ytifcdempdcolkab
