/-
  A text of the proofs of this seat: lemmas that the statements' proofs use; it states nothing of the program by itself beyond the contracts that its theorems bear. Conditions: those that stand in each theorem. Its short name: T2 Vr.
-/
import Derived.Test.YtifcdempdcolkabT1
set_option linter.unusedVariables false
set_option linter.unusedSimpArgs false
section
namespace Go.Proofs.Ytifcdempdcolkab
open Go.Sx Go.Pk Go.Cv
set_option maxRecDepth 4000
set_option maxHeartbeats 2000000
theorem aP_T2 {A B K : Prop} (k : K) (a : A := by (simp only [zA, zT, zD, zC, zN, ints_len, zR, Go.Cv.vals_len]; omega)) (b : B := by (simp only [zA, zT, zD, zC, zN, ints_len, zR, Go.Cv.vals_len]; omega)) : (A ∧ B) ∧ K := ⟨⟨a, b⟩, k⟩
theorem Validate_ok (p : List Pk) (hp : p.length ≤ 1000000) : Ctr Try.prog 48 [.psl 3 (pks p)] [] (fun r o => o = [] ∧ r = i64 (vld p)) := by
  refine fn_intro (E := env 0) tys_ok rfl rfl rfl Try.func48 (by kernel_rfl) rfl (by kernel_rfl) ?_
  have hpl := pks_len p
  (repeat' (conv => whnf); first | (refine aC (fun _ => ?_) (fun _ => ?_) <;> try (exfalso; omega)) | refine aS ?_ | refine aG ?_ | refine aD ?_ | refine aH ?_ | refine aP_T2 ?_ | refine aI ?_ | refine aJ ?_ | fail); all_goals try (conv => whnf)
  · exact ⟨rfl, by unfold vld; rw [if_pos (by omega)]; rfl⟩
  refine LoopOb.mk (Y := Nat) (st := fun i => ⟨[(11, i64 i), (10, i64 (pks p).length), (9, .psl 3 (pks p)), (3, i64 (lst p i))], []⟩)
    (inv := fun i => i ≤ p.length ∧ vldN p i = 0) (fun i => p.length - i) 0 [] ⟨by omega, rfl⟩ (by (exact aL)) ?_
  rintro i ⟨hi, hv⟩
  (repeat' (conv => whnf); first | refine aS ?_ | refine aG ?_ | refine aD ?_ | refine aH ?_ | refine aP_T2 ?_ | refine aI ?_ | refine aJ ?_ | fail); all_goals try (conv => whnf)
  refine CondOb.mk (fun hlt => ?_) (fun hlt => ?_)
  · have hil : i < p.length := by omega
    have hg := pks_get hil
    have hs0 : vldN p (i + 1) = if bad (p.getD i pk0) then 2 else if (p.getD i pk0).t < lst p i then 7 else 0 := by simp only [vldN]; rw [if_neg (by omega)]
    have hs1 : bad (p.getD i pk0) → vldN p (i + 1) = 2 := fun h => by rw [hs0, if_pos h]
    have hs2 : ¬bad (p.getD i pk0) → (p.getD i pk0).t < lst p i → vldN p (i + 1) = 7 := fun h h' => by rw [hs0, if_neg h, if_pos h']
    have hs3 : ¬bad (p.getD i pk0) → ¬(p.getD i pk0).t < lst p i → vldN p (i + 1) = 0 := fun h h' => by rw [hs0, if_neg h, if_neg h']
    clear hs0
    have hl : lst p (i + 1) = (p.getD i pk0).t := rfl
    have hE : vldN p (i + 1) ≠ 0 → vld p = vldN p (i + 1) := fun h => by
      unfold vld; rw [if_neg (by omega)]; exact vldN_ge (by omega) h
    unfold bad at hs1 hs2 hs3
    generalize p.getD i pk0 = x at *
    generalize lst p i = y at *
    (repeat' (conv => whnf); first | refine ⟨i, _, rfl, hg, ?_⟩ | (refine aC (fun _ => ?_) (fun _ => ?_) <;> try (exfalso; omega)) | refine aS ?_ | refine aG ?_ | refine aD ?_ | refine aH ?_ | refine aP_T2 ?_ | refine aI ?_ | refine aJ ?_ | fail); all_goals try (conv => whnf)
    all_goals first
      | (have e := hs3 (by omega) (by assumption)
         exact ⟨i + 1, [], ⟨by omega, e⟩, by omega, by rw [hl]; (exact aL)⟩)
      | (have e := hs1 (by omega)
         have e2 := (hE (by omega)).trans e
         rw [e2]
         exact ⟨rfl, rfl⟩)
      | (have e := hs2 (by omega) (by assumption)
         have e2 := (hE (by omega)).trans e
         rw [e2]
         exact ⟨rfl, rfl⟩)
      | trace_state
  · have e : i = p.length := by omega
    subst e
    (repeat' (conv => whnf); first | (refine aC (fun _ => ?_) (fun _ => ?_) <;> try (exfalso; omega)) | refine aS ?_ | refine aG ?_ | refine aD ?_ | refine aH ?_ | refine aP_T2 ?_ | refine aI ?_ | refine aJ ?_ | fail); all_goals try (conv => whnf)
    exact ⟨rfl, by unfold vld; rw [if_neg (by omega), hv]; rfl⟩
end Go.Proofs.Ytifcdempdcolkab
end
section
namespace Go.Proofs.Ytifcdempdcolkab
open Go.Sx Go.Pk Go.Cv
set_option maxRecDepth 8000
set_option maxHeartbeats 2000000
--APPX pks_len, Go.Cv.vals_len
theorem aP_Vr {A B K : Prop} (k : K) (a : A := by (simp only [zA, zT, zD, zC, zN, ints_len, zR, pks_len, Go.Cv.vals_len]; omega)) (b : B := by (simp only [zA, zT, zD, zC, zN, ints_len, zR, pks_len, Go.Cv.vals_len]; omega)) : (A ∧ B) ∧ K := ⟨⟨a, b⟩, k⟩
theorem rVal13_ok (p : List Pk) (hp : p.length ≤ 1000000) : Ctr Try.prog 50 [.psl 3 (pks p)] [] (fun r o => o = [] ∧ r = i64 (vld p)) := by
  refine Ctr.imp ?_
  refine fn_intro (E := env 0) tys_ok rfl rfl rfl Try.func50 (by kernel_rfl) rfl (by kernel_rfl) ?_
  have hpl := pks_len p
  (repeat' (conv => whnf); first | (refine aC (fun _ => ?_) (fun _ => ?_) <;> try (exfalso; omega)) | refine aS ?_ | refine aG ?_ | refine aD ?_ | refine aH ?_ | refine aP_Vr ?_ | refine aI ?_ | refine aJ ?_ | refine aW (.qs [0, 1, 2, 3, 4, 5, 6, 7, 8, 9, 10, 11, 12] .nil) ?_ | fail); all_goals try (conv => whnf)
  · exact ⟨rfl, by unfold vld; rw [if_pos (by omega)]; exact Imp.refl _⟩
  refine LoopOb.mk (Y := Nat) (st := fun i => ⟨[(3, i64 i), (0, .psl 3 (pks p))], []⟩)
    (inv := fun i => i ≤ p.length ∧ vldN p i = 0) (fun i => p.length - i) 0 [] ⟨by omega, rfl⟩ (by (exact aL)) ?_
  rintro i ⟨hi, hv⟩
  (repeat' (conv => whnf); first | refine aS ?_ | refine aG ?_ | refine aD ?_ | refine aH ?_ | refine aP_Vr ?_ | refine aI ?_ | refine aJ ?_ | refine aW (.qs [0, 1, 2, 3, 4, 5, 6, 7, 8, 9, 10, 11, 12] .nil) ?_ | fail); all_goals try (conv => whnf)
  refine CondOb.mk (fun hlt => ?_) (fun hlt => ?_)
  · have hil : i < p.length := by omega
    have hg := pks_get hil
    have hg1 : 0 < i → (pks p)[i - 1]? = some (pkw (p.getD (i - 1) pk0)) := fun h => pks_get (by omega)
    have hs0 : vldN p (i + 1) = if bad (p.getD i pk0) then 2 else if (p.getD i pk0).t < Go.Pk.lst p i then 7 else 0 := by simp only [vldN]; rw [if_neg (by omega)]
    have hs1 : bad (p.getD i pk0) → vldN p (i + 1) = 2 := fun h => by rw [hs0, if_pos h]
    have hs2 : ¬bad (p.getD i pk0) → (p.getD i pk0).t < Go.Pk.lst p i → vldN p (i + 1) = 7 := fun h h' => by rw [hs0, if_neg h, if_pos h']
    have hs3 : ¬bad (p.getD i pk0) → ¬(p.getD i pk0).t < Go.Pk.lst p i → vldN p (i + 1) = 0 := fun h h' => by rw [hs0, if_neg h, if_neg h']
    clear hs0
    have hl : 0 < i → Go.Pk.lst p i = (p.getD (i - 1) pk0).t := fun h => by
      obtain ⟨j, rfl⟩ : ∃ j, i = j + 1 := ⟨i - 1, by omega⟩
      rfl
    have hl0 : i = 0 → Go.Pk.lst p i = 0 := fun h => by subst h; rfl
    have hE : vldN p (i + 1) ≠ 0 → vld p = vldN p (i + 1) := fun h => by
      unfold vld; rw [if_neg (by omega)]; exact vldN_ge (by omega) h
    unfold bad at hs1 hs2 hs3
    generalize p.getD (i - 1) pk0 = z at *
    generalize p.getD i pk0 = x at *
    generalize Go.Pk.lst p i = y at *
    (repeat' (conv => whnf); first | refine ⟨i - 1, _, by omega, hg1 (by omega), ?_⟩ | refine ⟨i, _, rfl, hg, ?_⟩ | (refine aC (fun _ => ?_) (fun _ => ?_) <;> try (exfalso; omega)) | refine aS ?_ | refine aG ?_ | refine aD ?_ | refine aH ?_ | refine aP_Vr ?_ | refine aI ?_ | refine aJ ?_ | refine aW (.qs [0, 1, 2, 3, 4, 5, 6, 7, 8, 9, 10, 11, 12] .nil) ?_ | fail); all_goals try (conv => whnf)
    all_goals first
      | (have e := hs3 (by omega) (by omega)
         exact ⟨i + 1, [], ⟨by omega, e⟩, by omega, by (exact aL)⟩)
      | (have e := hs1 (by omega)
         have e2 := (hE (by omega)).trans e
         rw [e2]
         exact ⟨rfl, Imp.refl _⟩)
      | (have e := hs2 (by omega) (by omega)
         have e2 := (hE (by omega)).trans e
         rw [e2]
         exact ⟨rfl, Imp.refl _⟩)
      | trace_state
  · have e : i = p.length := by omega
    subst e
    (repeat' (conv => whnf); first | (refine aC (fun _ => ?_) (fun _ => ?_) <;> try (exfalso; omega)) | refine aS ?_ | refine aG ?_ | refine aD ?_ | refine aH ?_ | refine aP_Vr ?_ | refine aI ?_ | refine aJ ?_ | refine aW (.qs [0, 1, 2, 3, 4, 5, 6, 7, 8, 9, 10, 11, 12] .nil) ?_ | fail); all_goals try (conv => whnf)
    exact ⟨rfl, by unfold vld; rw [if_neg (by omega), hv]; exact Imp.refl _⟩
end Go.Proofs.Ytifcdempdcolkab
end
