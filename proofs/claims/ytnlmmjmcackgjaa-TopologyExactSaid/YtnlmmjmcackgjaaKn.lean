/-
  A text of the proofs of this seat: lemmas that the statements' proofs use; it states nothing of the program by itself beyond the contracts that its theorems bear. Conditions: those that stand in each theorem. Its short name: Kn.
-/
import Derived.Test.YtnlmmjmcackgjaaLib
set_option linter.unusedVariables false
set_option linter.unusedSimpArgs false
namespace Go.Proofs.Ytnlmmjmcackgjaa
open Go.Sx
set_option maxRecDepth 4000
set_option maxHeartbeats 2000000
theorem ints_take (l : List Int) (k : Nat) : (ints l).take k = ints (l.take k) := by simp [ints, List.map_take]
/-! the reader of numbers -/
abbrev src (L : List Int) (k : Nat) : Chunk := .box [.psl 1 (ints L), i64 k]
def md (x n : Int) : Int := if x.tmod n < 0 then x.tmod n + n else x.tmod n
theorem md_bd {x n : Int} (hn : 1 ≤ n) : 0 ≤ md x n ∧ md x n < n := by
  have h1 := Int.tmod_lt_of_pos x (show 0 < n by omega)
  have h2 : -n < x.tmod n := by
    have h3 := Int.tmod_lt_of_pos (-x) (show 0 < n by omega)
    rw [Int.neg_tmod] at h3
    omega
  unfold md; split <;> omega
theorem aP_Kn {A B K : Prop} (k : K) (a : A := by (simp only [zA, zT, zD, zC, zN, ints_len, zR, lnl, fll, stl]; omega)) (b : B := by (simp only [zA, zT, zD, zC, zN, ints_len, zR, lnl, fll, stl]; omega)) : (A ∧ B) ∧ K := ⟨⟨a, b⟩, k⟩
theorem Mod_ok (x n : Int) (hn : 1 ≤ n) (hn2 : n ≤ 9223372036854775807) : Ctr Try.prog 62 [i64 x, i64 n] [] (fun r o => o = [] ∧ r = i64 (md x n)) := by
  refine fn_intro (E := env 0) tys_ok rfl rfl rfl Try.func62 (by kernel_rfl) rfl (by kernel_rfl) ?_
  have hb := md_bd (x := x) hn
  have h1 := Int.tmod_lt_of_pos x (show 0 < n by omega)
  unfold md at hb
  (repeat' (conv => whnf); first | (refine aC (fun _ => ?_) (fun _ => ?_) <;> try (exfalso; omega)) | refine aS ?_ | refine aG ?_ | refine aD ?_ | refine aH ?_ | refine aP_Kn ?_ | refine aI ?_ | refine aJ ?_ | fail); all_goals try (conv => whnf)
  refine ⟨by omega, ?_⟩
  (repeat' (conv => whnf); first | (refine aC (fun _ => ?_) (fun _ => ?_) <;> try (exfalso; omega)) | refine aS ?_ | refine aG ?_ | refine aD ?_ | refine aH ?_ | refine aP_Kn ?_ | refine aI ?_ | refine aJ ?_ | fail); all_goals try (conv => whnf)
  · exact ⟨rfl, by simp only [oneS]; unfold md; rw [if_pos (by assumption)]⟩
  · exact ⟨rfl, by simp only [oneS]; unfold md; rw [if_neg (by assumption)]⟩
theorem Raw_ok (L : List Int) (k : Nat) (hL : L.length ≤ 2000) (hk : k ≤ 2000) :
    Ctr Try.prog 63 [.ptr 0 0] [src L k] (fun r o => ∃ x : Int × Nat, x.2 ≤ 2000 ∧ o = [src L x.2] ∧ r = i64 x.1) := by
  refine fn_intro (E := env 1) tys_ok rfl rfl rfl Try.func63 (by kernel_rfl) rfl (by kernel_rfl) ?_
  (repeat' (conv => whnf); first | refine aC (fun _ => ?_) (fun _ => ?_) | refine aS ?_ | refine aG ?_ | refine aD ?_ | refine aH ?_ | refine aP_Kn ?_ | refine aI ?_ | refine aJ ?_ | refine aW (.qs [0, 1, 2, 3, 4, 5, 6, 7, 8, 9] .nil) ?_ | refine aW (.qs [0, 1, 2, 3, 4, 5, 6, 7, 8, 9, 10, 11] .nil) ?_ | fail); all_goals try (conv => whnf)
  · exact ⟨(0, k), hk, rfl, rfl⟩
  · simp only [ints_len] at *
    exact ⟨(_, k + 1), by simp only; omega, rfl, rfl⟩
theorem N_ok (L : List Int) (k : Nat) (hL : L.length ≤ 2000) (hk : k ≤ 2000) (n : Int) (hn : 1 ≤ n) (hn2 : n ≤ 9223372036854775807) :
    Ctr Try.prog 30 [.ptr 0 0, i64 n] [src L k] (fun r o => ∃ x : Int × Nat, (0 ≤ x.1 ∧ x.1 < n ∧ x.2 ≤ 2000) ∧ o = [src L x.2] ∧ r = i64 x.1) := by
  refine fn_intro (E := env 1) tys_ok rfl rfl rfl Try.func30 (by kernel_rfl) rfl (by kernel_rfl) ?_
  (repeat' (conv => whnf); first | refine aC (fun _ => ?_) (fun _ => ?_) | refine aS ?_ | refine aG ?_ | refine aD ?_ | refine aH ?_ | refine aP_Kn ?_ | refine aI ?_ | refine aJ ?_ | fail); all_goals try (conv => whnf)
  refine CallOb.mk [0] (Raw_ok L k hL hk) rfl (ImpL.refl _) rfl rfl ?_
  rintro _ _ ⟨⟨v, k'⟩, hk', rfl, rfl⟩
  (repeat' (conv => whnf); first | refine aC (fun _ => ?_) (fun _ => ?_) | refine aS ?_ | refine aG ?_ | refine aD ?_ | refine aH ?_ | refine aP_Kn ?_ | refine aI ?_ | refine aJ ?_ | fail); all_goals try (conv => whnf)
  refine aK [] (Mod_ok v n hn hn2) ?_
  (repeat' (conv => whnf); first | refine aC (fun _ => ?_) (fun _ => ?_) | refine aS ?_ | refine aG ?_ | refine aD ?_ | refine aH ?_ | refine aP_Kn ?_ | refine aI ?_ | refine aJ ?_ | fail); all_goals try (conv => whnf)
  exact ⟨(md v n, k'), ⟨(md_bd hn).1, (md_bd hn).2, hk'⟩, rfl, rfl⟩
theorem getD_mem {l : List Int} {i : Nat} (h : i < l.length) : l.getD i 0 ∈ l := by
  rw [List.getD_eq_getElem?_getD, List.getElem?_eq_getElem h]; exact List.getElem_mem h
theorem Pick_ok (L : List Int) (k : Nat) (hL : L.length ≤ 2000) (hk : k ≤ 2000) (l : List Int) (hl : 1 ≤ l.length) (hl2 : l.length ≤ 1000000) :
    Ctr Try.prog 52 [.ptr 0 0, .psl 1 (ints l)] [src L k] (fun r o => ∃ x : Int × Nat, (x.1 ∈ l ∧ x.2 ≤ 2000) ∧ o = [src L x.2] ∧ r = i64 x.1) := by
  refine fn_intro (E := env 1) tys_ok rfl rfl rfl Try.func52 (by kernel_rfl) rfl (by kernel_rfl) ?_
  (repeat' (conv => whnf); first | refine aC (fun _ => ?_) (fun _ => ?_) | refine aS ?_ | refine aG ?_ | refine aD ?_ | refine aH ?_ | refine aP_Kn ?_ | refine aI ?_ | refine aJ ?_ | fail); all_goals try (conv => whnf)
  refine CallOb.mk [0] (N_ok L k hL hk _ (by rw [ints_len]; omega) (by rw [ints_len]; omega)) rfl (ImpL.refl _) rfl rfl ?_
  rintro _ _ ⟨⟨v, k'⟩, ⟨h1, h2, hk'⟩, rfl, rfl⟩
  (repeat' (conv => whnf); first | refine aC (fun _ => ?_) (fun _ => ?_) | refine aS ?_ | refine aG ?_ | refine aD ?_ | refine aH ?_ | refine aP_Kn ?_ | refine aI ?_ | refine aJ ?_ | fail); all_goals try (conv => whnf)
  refine ⟨(l.getD v.toNat 0, k'), ⟨getD_mem (by simp only [ints_len] at h2; omega), hk'⟩, rfl, rfl⟩
theorem New_ok (l : List Int) (hl : l.length ≤ 9223372036854775807) :
    Ctr Try.prog 16 [.psl 1 (ints l)] [] (fun r o => o = [src (l.take 2000) 0] ∧ r = .ptr 0 0) := by
  refine fn_intro (E := env 0) tys_ok rfl rfl rfl Try.func16 (by kernel_rfl) rfl (by kernel_rfl) ?_
  (repeat' (conv => whnf); first | refine aC (fun _ => ?_) (fun _ => ?_) | refine aS ?_ | refine aG ?_ | refine aD ?_ | refine aH ?_ | refine aP_Kn ?_ | refine aI ?_ | refine aJ ?_ | fail); all_goals try (conv => whnf)
  simp only [ints_len]
  refine ⟨min l.length 2000, by omega, ⟨by omega, by omega⟩, ?_⟩
  (repeat' (conv => whnf); first | refine aC (fun _ => ?_) (fun _ => ?_) | refine aS ?_ | refine aG ?_ | refine aD ?_ | refine aH ?_ | refine aP_Kn ?_ | refine aI ?_ | refine aJ ?_ | fail); all_goals try (conv => whnf)
  refine ⟨?_, rfl⟩
  have e : l.take (min l.length 2000) = l.take 2000 := by
    by_cases h : l.length ≤ 2000
    · rw [Nat.min_eq_left h, List.take_of_length_le (Nat.le_refl _), List.take_of_length_le h]
    · rw [Nat.min_eq_right (by omega)]
  rw [List.drop_zero, ints_take, e]
  rfl
end Go.Proofs.Ytnlmmjmcackgjaa
