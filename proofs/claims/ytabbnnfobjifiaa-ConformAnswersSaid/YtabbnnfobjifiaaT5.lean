/-
  A text of the proofs of this seat: lemmas that the statements' proofs use; it states nothing of the program by itself beyond the contracts that its theorems bear. Conditions: those that stand in each theorem. Its short name: T5.
-/
import Derived.Test.YtabbnnfobjifiaaD1
import Derived.Test.YtabbnnfobjifiaaPl
set_option linter.unusedVariables false
set_option linter.unusedSimpArgs false
namespace Go.Proofs.Ytabbnnfobjifiaa
open Go.Sx Go.Pk Go.Cv Go.St
set_option maxRecDepth 4000
set_option maxHeartbeats 2000000
/- a function compares by a key -/
abbrev CmpOK (g : Nat) (k : Pk → Int) : Prop := ∀ a b : Pk, Ctr Try.prog g [.agg (pkw a), .agg (pkw b)] [] (fun r o => ∃ c : Int, (c < 0 ↔ k a < k b) ∧ o = [] ∧ r = i64 c)
theorem pks_at {A B : List Pk} {x : Pk} : (pks (A ++ x :: B))[A.length]? = some (pkw x) := by
  rw [show (pks (A ++ x :: B)) = pks A ++ (pkw x :: pks B) by simp [pks], List.getElem?_append_right (by rw [pks_len]; omega), pks_len, Nat.sub_self]; rfl
theorem pks_at2 {A B : List Pk} {x y : Pk} : (pks (A ++ y :: x :: B))[A.length + 1]? = some (pkw x) := by
  have := pks_at (A := A ++ [y]) (x := x) (B := B)
  rw [List.append_assoc, List.length_append] at this
  exact this
theorem pks_swap {A B : List Pk} {x y : Pk} : ((pks (A ++ y :: x :: B)).set (A.length + 1) (pkw y)).set A.length (pkw x) = pks (A ++ x :: y :: B) := by
  have e : pks (A ++ y :: x :: B) = pks A ++ (pkw y :: pkw x :: pks B) := by simp [pks]
  have hl := pks_len A
  rw [e, List.set_append_right _ _ (by omega), List.set_append_right _ _ (by omega), show pks (A ++ x :: y :: B) = pks A ++ (pkw x :: pkw y :: pks B) by simp [pks]]
  rw [show A.length + 1 - (pks A).length = 1 by omega, show A.length - (pks A).length = 0 by omega]
  rfl
theorem aP_T5 {A B K : Prop} (k : K) (a : A := by (simp only [zA, zT, zD, zC, zN, ints_len, zR, Go.Cv.vals_len]; omega)) (b : B := by (simp only [zA, zT, zD, zC, zN, ints_len, zR, Go.Cv.vals_len]; omega)) : (A ∧ B) ∧ K := ⟨⟨a, b⟩, k⟩
theorem insSort_ok (g : Nat) (k : Pk → Int) (hc : CmpOK g k) (P M T : List Pk) (hl : P.length + M.length + T.length ≤ 1000000) :
    Ctr Try.prog 94 [.vec 0, i64 P.length, i64 (P.length + M.length : Nat), .fn g []] [.vec 3 (pks (P ++ (M ++ T)))] (fun r o => o = [.vec 3 (pks (P ++ (srt k M ++ T)))] ∧ r = .tup []) := by
  refine fn_intro (E := env 1) tys_ok rfl rfl rfl Try.func94 (by kernel_rfl) rfl (by kernel_rfl) ?_
  (repeat' (conv => whnf); first | (refine aC (fun _ => ?_) (fun _ => ?_) <;> try (exfalso; omega)) | refine aS ?_ | refine aG ?_ | refine aD ?_ | refine aH ?_ | refine aP_T5 ?_ | refine aI ?_ | refine aJ ?_ | refine aW (.qs [0, 1, 2, 3, 4, 5, 6, 7, 8, 9, 10, 11, 12, 13] (.l 14 [] (.qs [15, 16] .nil) .no)) ?_ | refine aW (.qs [0, 1, 2, 3, 4, 5, 6, 7, 8, 9, 10, 11, 12, 13, 14] (.l 15 [] (.qs [16] (.l 17 [] .nil .no)) .no)) ?_ | fail); all_goals try (conv => whnf)
  refine LoopOb.mk (Y := Nat) (st := fun i => ⟨[(8, i64 (P.length + i : Nat)), (0, .vec 0), (1, i64 P.length), (2, i64 (P.length + M.length : Nat)), (3, .fn g [])], [.vec 3 (pks (P ++ (srt k (M.take i) ++ (M.drop i ++ T))))]⟩)
    (inv := fun i => 1 ≤ i ∧ i ≤ max 1 M.length) (fun i => M.length - i) 1 [0] (by omega) ?_ ?_
  · have e : srt k (M.take 1) ++ (M.drop 1 ++ T) = M ++ T := by
      cases M with
      | nil => rfl
      | cons x r => rfl
    rw [e]
    (exact aL)
  rintro i ⟨hi1, hi2⟩
  (repeat' (conv => whnf); first | refine aS ?_ | refine aG ?_ | refine aD ?_ | refine aH ?_ | refine aP_T5 ?_ | refine aI ?_ | refine aJ ?_ | refine aW (.qs [0, 1, 2, 3, 4, 5, 6, 7, 8, 9, 10, 11, 12, 13] (.l 14 [] (.qs [15, 16] .nil) .no)) ?_ | refine aW (.qs [0, 1, 2, 3, 4, 5, 6, 7, 8, 9, 10, 11, 12, 13, 14] (.l 15 [] (.qs [16] (.l 17 [] .nil .no)) .no)) ?_ | fail); all_goals try (conv => whnf)
  refine CondOb.mk (fun hlt => ?_) (fun hlt => ?_)
  · have hil : i < M.length := by omega
    obtain ⟨x, hx⟩ : ∃ x, M[i] = x := ⟨_, rfl⟩
    have hd : M.drop i = x :: M.drop (i + 1) := by rw [List.drop_eq_getElem_cons hil, hx]
    have ht : srtR k (M.take (i + 1)) = insR k x (srtR k (M.take i)) := by rw [List.take_succ_eq_append_getElem hil, hx, srtR_snoc]
    have hRl : (srtR k (M.take i)).length = i := by rw [srtR_len, List.length_take]; omega
    have h0 := lay_zero P (srtR k (M.take i)) x (M.drop (i + 1) ++ T)
    have hll := fun m => lay_len P (srtR k (M.take i)) x (M.drop (i + 1) ++ T) m
    have hTl : (M.drop (i + 1) ++ T).length ≤ 1000000 := by rw [List.length_append, List.length_drop]; omega
    have hnx : P ++ (srt k (M.take (i + 1)) ++ (M.drop (i + 1) ++ T)) = P ++ ((insR k x (srtR k (M.take i))).reverse ++ (M.drop (i + 1) ++ T)) := by unfold srt; rw [ht]
    rw [hd]
    rw [show P ++ (srt k (M.take i) ++ (x :: M.drop (i + 1) ++ T)) = lay P (srtR k (M.take i)) x (M.drop (i + 1) ++ T) 0 by rw [h0]; rfl]
    have hlim : P.length + i + 1 + (M.drop (i + 1) ++ T).length ≤ 1000000 := by rw [List.length_append, List.length_drop]; omega
    generalize srtR k (M.take i) = R at *
    generalize hT : M.drop (i + 1) ++ T = T' at *
    clear hd ht h0
    (repeat' (conv => whnf); first | (refine aC (fun _ => ?_) (fun _ => ?_) <;> try (exfalso; omega)) | refine aS ?_ | refine aG ?_ | refine aD ?_ | refine aH ?_ | refine aP_T5 ?_ | refine aI ?_ | refine aJ ?_ | refine aW (.qs [0, 1, 2, 3, 4, 5, 6, 7, 8, 9, 10, 11, 12, 13] (.l 14 [] (.qs [15, 16] .nil) .no)) ?_ | refine aW (.qs [0, 1, 2, 3, 4, 5, 6, 7, 8, 9, 10, 11, 12, 13, 14] (.l 15 [] (.qs [16] (.l 17 [] .nil .no)) .no)) ?_ | fail); all_goals try (conv => whnf)
    refine LoopOb.mk (Y := Nat) (st := fun m => ⟨[(9, i64 (P.length + (i - m) : Nat)), (8, i64 (P.length + i : Nat)), (0, .vec 0), (1, i64 P.length), (2, i64 (P.length + M.length : Nat)), (3, .fn g [])], [.vec 3 (pks (lay P R x T' m))]⟩)
      (inv := fun m => m ≤ i ∧ ∀ y ∈ R.take m, k x < k y) (fun m => i - m) 0 [0] ⟨by omega, by simp⟩ (by (exact aL)) ?_
    rintro m ⟨hm, hmy⟩
    have hpl := pks_len (lay P R x T' m)
    rw [hll m, hRl] at hpl
    by_cases hmi : m < i
    · obtain ⟨A, B, y, hy, hA, e1, e2⟩ := lay_step P R x T' (m := m) (by omega)
      have hg1 := pks_at (A := A) (x := y) (B := x :: B)
      have hg2 := pks_at2 (A := A) (x := x) (y := y) (B := B)
      have hsw := pks_swap (A := A) (x := x) (y := y) (B := B)
      have hcc := hc x y
      have hst : ¬k x < k y → lay P R x T' m = P ++ ((insR k x R).reverse ++ T') := fun h => lay_stop P T' hmy fun z hz => by rw [hy] at hz; cases hz; exact h
      have hm2 : k x < k y → ∀ z ∈ R.take (m + 1), k x < k z := fun h z hz => by
        rw [List.take_succ_eq_append_getElem (by omega)] at hz
        rcases List.mem_append.1 hz with hz | hz
        · exact hmy z hz
        · rw [List.mem_singleton.1 hz]
          rw [List.getElem?_eq_getElem (by omega)] at hy
          rw [Option.some.inj hy]; exact h
      rw [e1] at hpl ⊢
      rw [e1] at hst
      (repeat' (conv => whnf); first | refine ⟨_, (List.getElem?_set_ne (by omega)).trans hg1, ?_⟩ | refine ⟨_, hg1, ?_⟩ | refine ⟨_, hg2, ?_⟩ | refine ⟨A.length, by omega, by (first | omega | (simp only [List.length_set]; omega)), ?_⟩ | refine ⟨A.length + 1, by omega, by omega, ?_⟩ | (refine aC (fun _ => ?_) (fun _ => ?_) <;> try (exfalso; omega)) | refine aS ?_ | refine aG ?_ | refine aD ?_ | refine aH ?_ | refine aP_T5 ?_ | refine aI ?_ | refine aJ ?_ | refine aW (.qs [0, 1, 2, 3, 4, 5, 6, 7, 8, 9, 10, 11, 12, 13] (.l 14 [] (.qs [15, 16] .nil) .no)) ?_ | refine aW (.qs [0, 1, 2, 3, 4, 5, 6, 7, 8, 9, 10, 11, 12, 13, 14] (.l 15 [] (.qs [16] (.l 17 [] .nil .no)) .no)) ?_ | (refine CallOb.mk [] hcc rfl (ImpL.refl _) rfl rfl ?_; rintro _ _ ⟨c, hck, rfl, rfl⟩) | fail); all_goals try (conv => whnf)
      · exact ⟨m + 1, [0], ⟨by omega, hm2 (hck.1 (by assumption))⟩, by omega, by rw [e2, ← hsw]; (exact aL)⟩
      · exact ⟨i + 1, [0], by omega, by omega, by rw [hT, hnx, ← hst (fun h => absurd (hck.2 h) (by assumption))]; (exact aL)⟩
    · have e : m = i := by omega
      have hst : lay P R x T' m = P ++ ((insR k x R).reverse ++ T') := lay_stop P T' hmy fun z hz => by rw [List.getElem?_eq_none (by omega)] at hz; cases hz
      (repeat' (conv => whnf); first | (refine aC (fun _ => ?_) (fun _ => ?_) <;> try (exfalso; omega)) | refine aS ?_ | refine aG ?_ | refine aD ?_ | refine aH ?_ | refine aP_T5 ?_ | refine aI ?_ | refine aJ ?_ | refine aW (.qs [0, 1, 2, 3, 4, 5, 6, 7, 8, 9, 10, 11, 12, 13] (.l 14 [] (.qs [15, 16] .nil) .no)) ?_ | refine aW (.qs [0, 1, 2, 3, 4, 5, 6, 7, 8, 9, 10, 11, 12, 13, 14] (.l 15 [] (.qs [16] (.l 17 [] .nil .no)) .no)) ?_ | fail); all_goals try (conv => whnf)
      exact ⟨i + 1, [0], by omega, by omega, by rw [hT, hnx, ← hst]; (exact aL)⟩
  · have e1 : M.take i = M := List.take_of_length_le (by omega)
    have e2 : M.drop i = [] := List.drop_of_length_le (by omega)
    rw [e1, e2]
    (repeat' (conv => whnf); first | (refine aC (fun _ => ?_) (fun _ => ?_) <;> try (exfalso; omega)) | refine aS ?_ | refine aG ?_ | refine aD ?_ | refine aH ?_ | refine aP_T5 ?_ | refine aI ?_ | refine aJ ?_ | refine aW (.qs [0, 1, 2, 3, 4, 5, 6, 7, 8, 9, 10, 11, 12, 13] (.l 14 [] (.qs [15, 16] .nil) .no)) ?_ | refine aW (.qs [0, 1, 2, 3, 4, 5, 6, 7, 8, 9, 10, 11, 12, 13, 14] (.l 15 [] (.qs [16] (.l 17 [] .nil .no)) .no)) ?_ | fail); all_goals try (conv => whnf)
    exact ⟨rfl, rfl⟩
end Go.Proofs.Ytabbnnfobjifiaa
