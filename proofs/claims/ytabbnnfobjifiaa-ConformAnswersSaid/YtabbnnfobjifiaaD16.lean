/-
  A text of the proofs of this seat: lemmas that the statements' proofs use; it states nothing of the program by itself beyond the contracts that its theorems bear. Conditions: those that stand in each theorem. Its short name: D16 Kn.
-/
import Derived.Test.YtabbnnfobjifiaaD15
import Derived.Test.YtabbnnfobjifiaaTy
set_option linter.unusedVariables false
set_option linter.unusedSimpArgs false
section
namespace Go.Proofs.Ytabbnnfobjifiaa
open Go.Sx Go.Pk Go.Cv Go.St
set_option maxRecDepth 8000
set_option maxHeartbeats 2000000
--APPX pks_len, Go.Cv.vals_len
/- what Least answers, whatever the arguments -/
def LeaG (p : List Pk) (flow : Int) (x : List Int × Int × Int × Int) : Prop :=
  (vld p ≠ 0 ∧ x = ([], 0, 0, vld p)) ∨ (vld p = 0 ∧ flow < -1 ∧ x = ([], 0, 0, 2)) ∨ (vld p = 0 ∧ -1 ≤ flow ∧ MkP (lsF p flow) x)
theorem LeaG.uniq {p : List Pk} {flow : Int} {x y : List Int × Int × Int × Int} (hx : LeaG p flow x) (hy : LeaG p flow y) : x = y := by
  rcases hx with ⟨h1, rfl⟩ | ⟨h1, h2, rfl⟩ | ⟨h1, h2, h3⟩ <;> rcases hy with ⟨k1, rfl⟩ | ⟨k1, k2, rfl⟩ | ⟨k1, k2, k3⟩ <;> first | rfl | (exfalso; omega) | exact h3.uniq k3
theorem aP_D16 {A B K : Prop} (k : K) (a : A := by (simp only [zA, zT, zD, zC, zN, ints_len, zR, pks_len, Go.Cv.vals_len]; omega)) (b : B := by (simp only [zA, zT, zD, zC, zN, ints_len, zR, pks_len, Go.Cv.vals_len]; omega)) : (A ∧ B) ∧ K := ⟨⟨a, b⟩, k⟩
theorem cLeastG_ok (p : List Pk) (hp : p.length ≤ 1000000) (flow : Int) : Ctr Try.prog 23 [.psl 3 (pks p), i64 flow] [] (fun r o => ∃ x, LeaG p flow x ∧ o = [] ∧ r = crvE x) := by
  by_cases hall : Vld p ∧ -1 ≤ flow
  · obtain ⟨hV, hf⟩ := hall
    exact (cLeast_ok p hV (by have := endN_le hV; omega) flow hf).mono fun r o ⟨x, h1, h2, h3⟩ => ⟨x, .inr (.inr ⟨vld_zero.2 hV, hf, h1⟩), h2, h3⟩
  · refine Ctr.impE ?_
    refine fn_intro (E := env 0) tys_ok rfl rfl rfl Try.func23 (by kernel_rfl) rfl (by kernel_rfl) ?_
    have cV := Validate_ok p (by omega)
    rw [← vld_zero] at hall
    have hw1 : vld p ≠ 0 → LeaG p flow ([], 0, 0, vld p) := fun h => .inl ⟨h, rfl⟩
    have hw2 : vld p = 0 → flow < -1 → LeaG p flow ([], 0, 0, 2) := fun h h2 => .inr (.inl ⟨h, h2, rfl⟩)
    generalize vld p = v at *
    (repeat' (conv => whnf); first | (refine aC (fun _ => ?_) (fun _ => ?_) <;> try (exfalso; omega)) | refine aS ?_ | refine aG ?_ | refine aD ?_ | refine aH ?_ | refine aP_D16 ?_ | refine aI ?_ | refine aJ ?_ | refine aW (.qs [0, 1, 2, 3, 4, 5, 6, 7, 8, 9, 10, 11, 12, 13, 14, 15, 16, 17, 18, 19, 20, 21, 22, 23] (.l 24 [] .nil .no)) ?_ | refine aW (.qs [0, 1, 2, 3, 4, 5, 6, 7, 8, 9, 10, 11, 12] (.l 13 [] .nil .no)) ?_ | (refine aK [] cV ?_) | fail); all_goals try (conv => whnf)
    all_goals first
      | exact ⟨([], 0, 0, v), hw1 (by omega), rfl, Imp.tup ⟨imp_zero, Imp.refl _, trivial⟩⟩
      | exact ⟨([], 0, 0, 2), hw2 (by omega) (by omega), rfl, Imp.tup ⟨imp_zero, Imp.refl _, trivial⟩⟩
      | trace_state
theorem rLeastG_ok (p : List Pk) (hp : p.length ≤ 1000000) (flow : Int) : Ctr Try.prog 38 [.psl 3 (pks p), i64 flow] [] (fun r o => ∃ x, LeaG p flow x ∧ o = [] ∧ r = crvE x) := by
  by_cases hall : Vld p ∧ -1 ≤ flow
  · obtain ⟨hV, hf⟩ := hall
    exact (rLeast_ok p hV flow hf).mono fun r o ⟨x, h1, h2, h3⟩ => ⟨x, .inr (.inr ⟨vld_zero.2 hV, hf, h1⟩), h2, h3⟩
  · refine Ctr.impE ?_
    refine fn_intro (E := env 0) tys_ok rfl rfl rfl Try.func38 (by kernel_rfl) rfl (by kernel_rfl) ?_
    have cV := rVal13_ok p (by omega)
    rw [← vld_zero] at hall
    have hw1 : vld p ≠ 0 → LeaG p flow ([], 0, 0, vld p) := fun h => .inl ⟨h, rfl⟩
    have hw2 : vld p = 0 → flow < -1 → LeaG p flow ([], 0, 0, 2) := fun h h2 => .inr (.inl ⟨h, h2, rfl⟩)
    generalize vld p = v at *
    (repeat' (conv => whnf); first | (refine aC (fun _ => ?_) (fun _ => ?_) <;> try (exfalso; omega)) | refine aS ?_ | refine aG ?_ | refine aD ?_ | refine aH ?_ | refine aP_D16 ?_ | refine aI ?_ | refine aJ ?_ | refine aW (.qs [0, 1, 2, 3, 4, 6, 7, 8, 9] (.l 5 [9] (.qs [10, 11, 12] .nil) .no)) ?_ | (refine aK [] cV ?_) | fail); all_goals try (conv => whnf)
    all_goals first
      | exact ⟨([], 0, 0, v), hw1 (by omega), rfl, Imp.tup ⟨imp_zero, Imp.refl _, trivial⟩⟩
      | exact ⟨([], 0, 0, 2), hw2 (by omega) (by omega), rfl, Imp.tup ⟨imp_zero, Imp.refl _, trivial⟩⟩
      | trace_state
end Go.Proofs.Ytabbnnfobjifiaa
end
section
namespace Go.Proofs.Ytabbnnfobjifiaa
open Go.Sx
set_option maxRecDepth 4000
set_option maxHeartbeats 2000000
/-! the reader of numbers -/
abbrev src (L : List Int) (k : Nat) : Chunk := .box [.psl 1 (ints L), i64 k]
def md (x n : Int) : Int := if x.tmod n < 0 then x.tmod n + n else x.tmod n
theorem md_bd {x n : Int} (hn : 1 ≤ n) : 0 ≤ md x n ∧ md x n < n := by
  have h1 := Int.tmod_lt_of_pos x (show 0 < n by omega)
  have h2 : -n < x.tmod n := by
    have h3 := Int.tmod_lt_of_pos (-x) (show 0 < n by omega)
    rw [Int.neg_tmod] at h3
    omega
  unfold md; split <;> omega
theorem aP_Kn {A B K : Prop} (k : K) (a : A := by (simp only [zA, zT, zD, zC, zN, ints_len, zR, Go.Cv.vals_len]; omega)) (b : B := by (simp only [zA, zT, zD, zC, zN, ints_len, zR, Go.Cv.vals_len]; omega)) : (A ∧ B) ∧ K := ⟨⟨a, b⟩, k⟩
theorem Mod_ok (x n : Int) (hn : 1 ≤ n) (hn2 : n ≤ 9223372036854775807) : Ctr Try.prog 50 [i64 x, i64 n] [] (fun r o => o = [] ∧ r = i64 (md x n)) := by
  refine fn_intro (E := env 0) tys_ok rfl rfl rfl Try.func50 (by kernel_rfl) rfl (by kernel_rfl) ?_
  have hb := md_bd (x := x) hn
  have h1 := Int.tmod_lt_of_pos x (show 0 < n by omega)
  unfold md at hb
  (repeat' (conv => whnf); first | (refine aC (fun _ => ?_) (fun _ => ?_) <;> try (exfalso; omega)) | refine aS ?_ | refine aG ?_ | refine aD ?_ | refine aH ?_ | refine aP_Kn ?_ | refine aI ?_ | refine aJ ?_ | fail); all_goals try (conv => whnf)
  refine ⟨by omega, ?_⟩
  (repeat' (conv => whnf); first | (refine aC (fun _ => ?_) (fun _ => ?_) <;> try (exfalso; omega)) | refine aS ?_ | refine aG ?_ | refine aD ?_ | refine aH ?_ | refine aP_Kn ?_ | refine aI ?_ | refine aJ ?_ | fail); all_goals try (conv => whnf)
  · exact ⟨rfl, by simp only [oneS]; unfold md; rw [if_pos (by assumption)]⟩
  · exact ⟨rfl, by simp only [oneS]; unfold md; rw [if_neg (by assumption)]⟩
theorem Raw_ok (L : List Int) (k : Nat) (hL : L.length ≤ 2000) (hk : k ≤ 2000) :
    Ctr Try.prog 51 [.ptr 0 0] [src L k] (fun r o => ∃ x : Int × Nat, x.2 ≤ 2000 ∧ o = [src L x.2] ∧ r = i64 x.1) := by
  refine fn_intro (E := env 1) tys_ok rfl rfl rfl Try.func51 (by kernel_rfl) rfl (by kernel_rfl) ?_
  (repeat' (conv => whnf); first | refine aC (fun _ => ?_) (fun _ => ?_) | refine aS ?_ | refine aG ?_ | refine aD ?_ | refine aH ?_ | refine aP_Kn ?_ | refine aI ?_ | refine aJ ?_ | refine aW (.qs [0, 1, 2, 3, 4, 5, 6, 7, 8, 9] .nil) ?_ | refine aW (.qs [0, 1, 2, 3, 4, 5, 6, 7, 8, 9, 10, 11] .nil) ?_ | fail); all_goals try (conv => whnf)
  · exact ⟨(0, k), hk, rfl, rfl⟩
  · simp only [ints_len] at *
    exact ⟨(_, k + 1), by simp only; omega, rfl, rfl⟩
theorem N_ok (L : List Int) (k : Nat) (hL : L.length ≤ 2000) (hk : k ≤ 2000) (n : Int) (hn : 1 ≤ n) (hn2 : n ≤ 9223372036854775807) :
    Ctr Try.prog 19 [.ptr 0 0, i64 n] [src L k] (fun r o => ∃ x : Int × Nat, (0 ≤ x.1 ∧ x.1 < n ∧ x.2 ≤ 2000) ∧ o = [src L x.2] ∧ r = i64 x.1) := by
  refine fn_intro (E := env 1) tys_ok rfl rfl rfl Try.func19 (by kernel_rfl) rfl (by kernel_rfl) ?_
  (repeat' (conv => whnf); first | refine aC (fun _ => ?_) (fun _ => ?_) | refine aS ?_ | refine aG ?_ | refine aD ?_ | refine aH ?_ | refine aP_Kn ?_ | refine aI ?_ | refine aJ ?_ | fail); all_goals try (conv => whnf)
  refine CallOb.mk [0] (Raw_ok L k hL hk) rfl (ImpL.refl _) rfl rfl ?_
  rintro _ _ ⟨⟨v, k'⟩, hk', rfl, rfl⟩
  (repeat' (conv => whnf); first | refine aC (fun _ => ?_) (fun _ => ?_) | refine aS ?_ | refine aG ?_ | refine aD ?_ | refine aH ?_ | refine aP_Kn ?_ | refine aI ?_ | refine aJ ?_ | fail); all_goals try (conv => whnf)
  refine aK [] (Mod_ok v n hn hn2) ?_
  (repeat' (conv => whnf); first | refine aC (fun _ => ?_) (fun _ => ?_) | refine aS ?_ | refine aG ?_ | refine aD ?_ | refine aH ?_ | refine aP_Kn ?_ | refine aI ?_ | refine aJ ?_ | fail); all_goals try (conv => whnf)
  exact ⟨(md v n, k'), ⟨(md_bd hn).1, (md_bd hn).2, hk'⟩, rfl, rfl⟩
theorem getD_mem {l : List Int} {i : Nat} (h : i < l.length) : l.getD i 0 ∈ l := by
  rw [List.getD_eq_getElem?_getD, List.getElem?_eq_getElem h]; exact List.getElem_mem h
theorem Pick_ok (L : List Int) (k : Nat) (hL : L.length ≤ 2000) (hk : k ≤ 2000) (l : List Int) (hl : 1 ≤ l.length) (hl2 : l.length ≤ 1000000) :
    Ctr Try.prog 31 [.ptr 0 0, .psl 1 (ints l)] [src L k] (fun r o => ∃ x : Int × Nat, (x.1 ∈ l ∧ x.2 ≤ 2000) ∧ o = [src L x.2] ∧ r = i64 x.1) := by
  refine fn_intro (E := env 1) tys_ok rfl rfl rfl Try.func31 (by kernel_rfl) rfl (by kernel_rfl) ?_
  (repeat' (conv => whnf); first | refine aC (fun _ => ?_) (fun _ => ?_) | refine aS ?_ | refine aG ?_ | refine aD ?_ | refine aH ?_ | refine aP_Kn ?_ | refine aI ?_ | refine aJ ?_ | fail); all_goals try (conv => whnf)
  refine CallOb.mk [0] (N_ok L k hL hk _ (by rw [ints_len]; omega) (by rw [ints_len]; omega)) rfl (ImpL.refl _) rfl rfl ?_
  rintro _ _ ⟨⟨v, k'⟩, ⟨h1, h2, hk'⟩, rfl, rfl⟩
  (repeat' (conv => whnf); first | refine aC (fun _ => ?_) (fun _ => ?_) | refine aS ?_ | refine aG ?_ | refine aD ?_ | refine aH ?_ | refine aP_Kn ?_ | refine aI ?_ | refine aJ ?_ | fail); all_goals try (conv => whnf)
  refine ⟨(l.getD v.toNat 0, k'), ⟨getD_mem (by simp only [ints_len] at h2; omega), hk'⟩, rfl, rfl⟩
theorem New_ok (l : List Int) (hl : l.length ≤ 9223372036854775807) :
    Ctr Try.prog 10 [.psl 1 (ints l)] [] (fun r o => o = [src (l.take 2000) 0] ∧ r = .ptr 0 0) := by
  refine fn_intro (E := env 0) tys_ok rfl rfl rfl Try.func10 (by kernel_rfl) rfl (by kernel_rfl) ?_
  (repeat' (conv => whnf); first | refine aC (fun _ => ?_) (fun _ => ?_) | refine aS ?_ | refine aG ?_ | refine aD ?_ | refine aH ?_ | refine aP_Kn ?_ | refine aI ?_ | refine aJ ?_ | fail); all_goals try (conv => whnf)
  simp only [ints_len]
  refine ⟨min l.length 2000, by omega, ⟨by omega, by omega⟩, ?_⟩
  (repeat' (conv => whnf); first | refine aC (fun _ => ?_) (fun _ => ?_) | refine aS ?_ | refine aG ?_ | refine aD ?_ | refine aH ?_ | refine aP_Kn ?_ | refine aI ?_ | refine aJ ?_ | fail); all_goals try (conv => whnf)
  refine ⟨?_, rfl⟩
  have e : l.take (min l.length 2000) = l.take 2000 := by
    by_cases h : l.length ≤ 2000
    · rw [Nat.min_eq_left h, List.take_of_length_le (Nat.le_refl _), List.take_of_length_le h]
    · rw [Nat.min_eq_right (by omega)]
  rw [List.drop_zero, ints_take, e]
  rfl
end Go.Proofs.Ytabbnnfobjifiaa
end
