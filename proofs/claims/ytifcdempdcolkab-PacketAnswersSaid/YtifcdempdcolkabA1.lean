/-
  A text of the proofs of this seat: lemmas that the statements' proofs use; it states nothing of the program by itself beyond the contracts that its theorems bear. Conditions: those that stand in each theorem. Its short name: A1.
-/
import Derived.Test.YtifcdempdcolkabT1
import Derived.Test.YtifcdempdcolkabPl
set_option linter.unusedVariables false
set_option linter.unusedSimpArgs false
namespace Go.Proofs.Ytifcdempdcolkab
open Go.Sx Go.Pk Go.Cv Go.St
set_option maxRecDepth 4000
set_option maxHeartbeats 2000000
--APPX avs_len
/- an arrival: a packet and its index -/
structure Av where
  i : Nat
  x : Pk
  h : 0 ≤ x.t ∧ x.t ≤ 3000
abbrev avt (a : Av) : Int := a.x.t
abbrev avw (a : Av) : List SV := [i64 a.x.f, i64 a.x.t, i64 a.x.s, i64 a.i]
abbrev avs (l : List Av) : List (List SV) := l.map avw
theorem avs_len (l : List Av) : (avs l).length = l.length := by simp [avs]
/- a function compares by a key -/
abbrev aCmpOK (g : Nat) (k : Av → Int) : Prop := ∀ a b : Av, Ctr Try.prog g [.agg (avw a), .agg (avw b)] [] (fun r o => ∃ c : Int, (c < 0 ↔ k a < k b) ∧ o = [] ∧ r = i64 c)
theorem avs_at {A B : List Av} {x : Av} : (avs (A ++ x :: B))[A.length]? = some (avw x) := by
  rw [show (avs (A ++ x :: B)) = avs A ++ (avw x :: avs B) by simp [avs], List.getElem?_append_right (by rw [avs_len]; omega), avs_len, Nat.sub_self]; rfl
theorem avs_at2 {A B : List Av} {x y : Av} : (avs (A ++ y :: x :: B))[A.length + 1]? = some (avw x) := by
  have := avs_at (A := A ++ [y]) (x := x) (B := B)
  rw [List.append_assoc, List.length_append] at this
  exact this
theorem avs_swap {A B : List Av} {x y : Av} : ((avs (A ++ y :: x :: B)).set (A.length + 1) (avw y)).set A.length (avw x) = avs (A ++ x :: y :: B) := by
  have e : avs (A ++ y :: x :: B) = avs A ++ (avw y :: avw x :: avs B) := by simp [avs]
  have hl := avs_len A
  rw [e, List.set_append_right _ _ (by omega), List.set_append_right _ _ (by omega), show avs (A ++ x :: y :: B) = avs A ++ (avw x :: avw y :: avs B) by simp [avs]]
  rw [show A.length + 1 - (avs A).length = 1 by omega, show A.length - (avs A).length = 0 by omega]
  rfl
theorem aP_A1 {A B K : Prop} (k : K) (a : A := by (simp only [zA, zT, zD, zC, zN, ints_len, zR, avs_len]; omega)) (b : B := by (simp only [zA, zT, zD, zC, zN, ints_len, zR, avs_len]; omega)) : (A ∧ B) ∧ K := ⟨⟨a, b⟩, k⟩
theorem ainsSort_ok (g : Nat) (k : Av → Int) (hc : aCmpOK g k) (P M T : List Av) (hl : P.length + M.length + T.length ≤ 1000000) :
    Ctr Try.prog 74 [.vec 0, i64 P.length, i64 (P.length + M.length : Nat), .fn g []] [.vec 4 (avs (P ++ (M ++ T)))] (fun r o => o = [.vec 4 (avs (P ++ (srt k M ++ T)))] ∧ r = .tup []) := by
  refine fn_intro (E := env 1) tys_ok rfl rfl rfl Try.func74 (by kernel_rfl) rfl (by kernel_rfl) ?_
  (repeat' (conv => whnf); first | (refine aC (fun _ => ?_) (fun _ => ?_) <;> try (exfalso; omega)) | refine aS ?_ | refine aG ?_ | refine aD ?_ | refine aH ?_ | refine aP_A1 ?_ | refine aI ?_ | refine aJ ?_ | refine aW (.qs [0, 1, 2, 3, 4, 5, 6, 7, 8, 9, 10, 11, 12, 13] (.l 14 [] (.qs [15, 16] .nil) .no)) ?_ | refine aW (.qs [0, 1, 2, 3, 4, 5, 6, 7, 8, 9, 10, 11, 12, 13, 14] (.l 15 [] (.qs [16] (.l 17 [] .nil .no)) .no)) ?_ | fail); all_goals try (conv => whnf)
  refine LoopOb.mk (Y := Nat) (st := fun i => ⟨[(8, i64 (P.length + i : Nat)), (0, .vec 0), (1, i64 P.length), (2, i64 (P.length + M.length : Nat)), (3, .fn g [])], [.vec 4 (avs (P ++ (srt k (M.take i) ++ (M.drop i ++ T))))]⟩)
    (inv := fun i => 1 ≤ i ∧ i ≤ max 1 M.length) (fun i => M.length - i) 1 [0] (by omega) ?_ ?_
  · have e : srt k (M.take 1) ++ (M.drop 1 ++ T) = M ++ T := by
      cases M with
      | nil => rfl
      | cons x r => rfl
    rw [e]
    (exact aL)
  rintro i ⟨hi1, hi2⟩
  (repeat' (conv => whnf); first | refine aS ?_ | refine aG ?_ | refine aD ?_ | refine aH ?_ | refine aP_A1 ?_ | refine aI ?_ | refine aJ ?_ | refine aW (.qs [0, 1, 2, 3, 4, 5, 6, 7, 8, 9, 10, 11, 12, 13] (.l 14 [] (.qs [15, 16] .nil) .no)) ?_ | refine aW (.qs [0, 1, 2, 3, 4, 5, 6, 7, 8, 9, 10, 11, 12, 13, 14] (.l 15 [] (.qs [16] (.l 17 [] .nil .no)) .no)) ?_ | fail); all_goals try (conv => whnf)
  refine CondOb.mk (fun hlt => ?_) (fun hlt => ?_)
  · have hil : i < M.length := by omega
    obtain ⟨x, hx⟩ : ∃ x, M[i] = x := ⟨_, rfl⟩
    have hd : M.drop i = x :: M.drop (i + 1) := by rw [List.drop_eq_getElem_cons hil, hx]
    have ht : srtR k (M.take (i + 1)) = insR k x (srtR k (M.take i)) := by rw [List.take_succ_eq_append_getElem hil, hx, srtR_snoc]
    have hRl : (srtR k (M.take i)).length = i := by rw [srtR_len, List.length_take]; omega
    have h0 := lay_zero P (srtR k (M.take i)) x (M.drop (i + 1) ++ T)
    have hll := fun m => lay_len P (srtR k (M.take i)) x (M.drop (i + 1) ++ T) m
    have hTl : (M.drop (i + 1) ++ T).length ≤ 1000000 := by rw [List.length_append, List.length_drop]; omega
    have hnx : P ++ (srt k (M.take (i + 1)) ++ (M.drop (i + 1) ++ T)) = P ++ ((insR k x (srtR k (M.take i))).reverse ++ (M.drop (i + 1) ++ T)) := by unfold srt; rw [ht]
    rw [hd]
    rw [show P ++ (srt k (M.take i) ++ (x :: M.drop (i + 1) ++ T)) = lay P (srtR k (M.take i)) x (M.drop (i + 1) ++ T) 0 by rw [h0]; rfl]
    have hlim : P.length + i + 1 + (M.drop (i + 1) ++ T).length ≤ 1000000 := by rw [List.length_append, List.length_drop]; omega
    generalize srtR k (M.take i) = R at *
    generalize hT : M.drop (i + 1) ++ T = T' at *
    clear hd ht h0
    (repeat' (conv => whnf); first | (refine aC (fun _ => ?_) (fun _ => ?_) <;> try (exfalso; omega)) | refine aS ?_ | refine aG ?_ | refine aD ?_ | refine aH ?_ | refine aP_A1 ?_ | refine aI ?_ | refine aJ ?_ | refine aW (.qs [0, 1, 2, 3, 4, 5, 6, 7, 8, 9, 10, 11, 12, 13] (.l 14 [] (.qs [15, 16] .nil) .no)) ?_ | refine aW (.qs [0, 1, 2, 3, 4, 5, 6, 7, 8, 9, 10, 11, 12, 13, 14] (.l 15 [] (.qs [16] (.l 17 [] .nil .no)) .no)) ?_ | fail); all_goals try (conv => whnf)
    refine LoopOb.mk (Y := Nat) (st := fun m => ⟨[(9, i64 (P.length + (i - m) : Nat)), (8, i64 (P.length + i : Nat)), (0, .vec 0), (1, i64 P.length), (2, i64 (P.length + M.length : Nat)), (3, .fn g [])], [.vec 4 (avs (lay P R x T' m))]⟩)
      (inv := fun m => m ≤ i ∧ ∀ y ∈ R.take m, k x < k y) (fun m => i - m) 0 [0] ⟨by omega, by simp⟩ (by (exact aL)) ?_
    rintro m ⟨hm, hmy⟩
    have hpl := avs_len (lay P R x T' m)
    rw [hll m, hRl] at hpl
    by_cases hmi : m < i
    · obtain ⟨A, B, y, hy, hA, e1, e2⟩ := lay_step P R x T' (m := m) (by omega)
      have hg1 := avs_at (A := A) (x := y) (B := x :: B)
      have hg2 := avs_at2 (A := A) (x := x) (y := y) (B := B)
      have hsw := avs_swap (A := A) (x := x) (y := y) (B := B)
      have hcc := hc x y
      have hst : ¬k x < k y → lay P R x T' m = P ++ ((insR k x R).reverse ++ T') := fun h => lay_stop P T' hmy fun z hz => by rw [hy] at hz; cases hz; exact h
      have hm2 : k x < k y → ∀ z ∈ R.take (m + 1), k x < k z := fun h z hz => by
        rw [List.take_succ_eq_append_getElem (by omega)] at hz
        rcases List.mem_append.1 hz with hz | hz
        · exact hmy z hz
        · rw [List.mem_singleton.1 hz]
          rw [List.getElem?_eq_getElem (by omega)] at hy
          rw [Option.some.inj hy]; exact h
      rw [e1] at hpl ⊢
      rw [e1] at hst
      (repeat' (conv => whnf); first | refine ⟨_, (List.getElem?_set_ne (by omega)).trans hg1, ?_⟩ | refine ⟨_, hg1, ?_⟩ | refine ⟨_, hg2, ?_⟩ | refine ⟨A.length, by omega, by (first | omega | (simp only [List.length_set]; omega)), ?_⟩ | refine ⟨A.length + 1, by omega, by omega, ?_⟩ | (refine aC (fun _ => ?_) (fun _ => ?_) <;> try (exfalso; omega)) | refine aS ?_ | refine aG ?_ | refine aD ?_ | refine aH ?_ | refine aP_A1 ?_ | refine aI ?_ | refine aJ ?_ | refine aW (.qs [0, 1, 2, 3, 4, 5, 6, 7, 8, 9, 10, 11, 12, 13] (.l 14 [] (.qs [15, 16] .nil) .no)) ?_ | refine aW (.qs [0, 1, 2, 3, 4, 5, 6, 7, 8, 9, 10, 11, 12, 13, 14] (.l 15 [] (.qs [16] (.l 17 [] .nil .no)) .no)) ?_ | (refine CallOb.mk [] hcc rfl (ImpL.refl _) rfl rfl ?_; rintro _ _ ⟨c, hck, rfl, rfl⟩) | fail); all_goals try (conv => whnf)
      · exact ⟨m + 1, [0], ⟨by omega, hm2 (hck.1 (by assumption))⟩, by omega, by rw [e2, ← hsw]; (exact aL)⟩
      · exact ⟨i + 1, [0], by omega, by omega, by rw [hT, hnx, ← hst (fun h => absurd (hck.2 h) (by assumption))]; (exact aL)⟩
    · have e : m = i := by omega
      have hst : lay P R x T' m = P ++ ((insR k x R).reverse ++ T') := lay_stop P T' hmy fun z hz => by rw [List.getElem?_eq_none (by omega)] at hz; cases hz
      (repeat' (conv => whnf); first | (refine aC (fun _ => ?_) (fun _ => ?_) <;> try (exfalso; omega)) | refine aS ?_ | refine aG ?_ | refine aD ?_ | refine aH ?_ | refine aP_A1 ?_ | refine aI ?_ | refine aJ ?_ | refine aW (.qs [0, 1, 2, 3, 4, 5, 6, 7, 8, 9, 10, 11, 12, 13] (.l 14 [] (.qs [15, 16] .nil) .no)) ?_ | refine aW (.qs [0, 1, 2, 3, 4, 5, 6, 7, 8, 9, 10, 11, 12, 13, 14] (.l 15 [] (.qs [16] (.l 17 [] .nil .no)) .no)) ?_ | fail); all_goals try (conv => whnf)
      exact ⟨i + 1, [0], by omega, by omega, by rw [hT, hnx, ← hst]; (exact aL)⟩
  · have e1 : M.take i = M := List.take_of_length_le (by omega)
    have e2 : M.drop i = [] := List.drop_of_length_le (by omega)
    rw [e1, e2]
    (repeat' (conv => whnf); first | (refine aC (fun _ => ?_) (fun _ => ?_) <;> try (exfalso; omega)) | refine aS ?_ | refine aG ?_ | refine aD ?_ | refine aH ?_ | refine aP_A1 ?_ | refine aI ?_ | refine aJ ?_ | refine aW (.qs [0, 1, 2, 3, 4, 5, 6, 7, 8, 9, 10, 11, 12, 13] (.l 14 [] (.qs [15, 16] .nil) .no)) ?_ | refine aW (.qs [0, 1, 2, 3, 4, 5, 6, 7, 8, 9, 10, 11, 12, 13, 14] (.l 15 [] (.qs [16] (.l 17 [] .nil .no)) .no)) ?_ | fail); all_goals try (conv => whnf)
    exact ⟨rfl, rfl⟩
theorem aStable_ok (g : Nat) (k : Av → Int) (hc : aCmpOK g k) (l : List Av) (hl : l.length ≤ 20) :
    Ctr Try.prog 62 [.vec 0, i64 l.length, .fn g []] [.vec 4 (avs l)] (fun r o => o = [.vec 4 (avs (srt k l))] ∧ r = .tup []) := by
  refine fn_intro (E := env 1) tys_ok rfl rfl rfl Try.func62 (by kernel_rfl) rfl (by kernel_rfl) ?_
  (repeat' (conv => whnf); first | (refine aC (fun _ => ?_) (fun _ => ?_) <;> try (exfalso; omega)) | refine aS ?_ | refine aG ?_ | refine aD ?_ | refine aH ?_ | refine aP_A1 ?_ | refine aI ?_ | refine aJ ?_ | fail); all_goals try (conv => whnf)
  refine LoopOb.mk (Y := Bool) (st := fun y => match y with
      | false => ⟨[(8, i64 20), (7, i64 0), (6, i64 20), (0, .vec 0), (1, i64 l.length), (2, .fn g [])], [.vec 4 (avs l)]⟩
      | true => ⟨[(8, i64 40), (7, i64 20), (6, i64 20), (0, .vec 0), (1, i64 l.length), (2, .fn g [])], [.vec 4 (avs (srt k l))]⟩)
    (inv := fun y => y = true → l.length = 20) (fun y => match y with | true => 0 | false => 1) false [0] (by simp) (by (exact aL)) ?_
  rintro y hy
  cases y with
  | false =>
    dsimp only
    have hI := ainsSort_ok g k hc [] l [] (by simp; omega)
    have hI2 := fun h : l.length = 20 => ainsSort_ok g k hc [] l [] (by simp; omega)
    simp only [List.nil_append, List.append_nil, List.length_nil, Nat.zero_add] at hI
    (repeat' (conv => whnf); first | refine aS ?_ | refine aG ?_ | refine aD ?_ | refine aH ?_ | refine aP_A1 ?_ | refine aI ?_ | refine aJ ?_ | fail); all_goals try (conv => whnf)
    refine CondOb.mk (fun hlt => ?_) (fun hlt => ?_)
    · have h20 : l.length = 20 := by omega
      rw [h20] at hI
      (repeat' (conv => whnf); first | (refine aC (fun _ => ?_) (fun _ => ?_) <;> try (exfalso; omega)) | refine aS ?_ | refine aG ?_ | refine aD ?_ | refine aH ?_ | refine aP_A1 ?_ | refine aI ?_ | refine aJ ?_ | (refine aK [0] hI ?_) | fail); all_goals try (conv => whnf)
      exact ⟨true, [0], fun _ => h20, by simp, by (exact aL)⟩
    · (repeat' (conv => whnf); first | (refine aC (fun _ => ?_) (fun _ => ?_) <;> try (exfalso; omega)) | refine aS ?_ | refine aG ?_ | refine aD ?_ | refine aH ?_ | refine aP_A1 ?_ | refine aI ?_ | refine aJ ?_ | (refine aK [0] hI ?_) | fail); all_goals try (conv => whnf)
      refine LoopOb.mk (Y := Unit) (st := fun _ => ⟨[(6, i64 20), (1, i64 l.length)], [.vec 4 (avs (srt k l))]⟩) (inv := fun _ => True) (fun _ => 0) () [0] trivial (by (exact aL)) ?_
      rintro _ _
      (repeat' (conv => whnf); first | refine aS ?_ | refine aG ?_ | refine aD ?_ | refine aH ?_ | refine aP_A1 ?_ | refine aI ?_ | refine aJ ?_ | fail); all_goals try (conv => whnf)
      refine CondOb.mk (fun hlt => by omega) (fun hlt => ?_)
      (repeat' (conv => whnf); first | (refine aC (fun _ => ?_) (fun _ => ?_) <;> try (exfalso; omega)) | refine aS ?_ | refine aG ?_ | refine aD ?_ | refine aH ?_ | refine aP_A1 ?_ | refine aI ?_ | refine aJ ?_ | fail); all_goals try (conv => whnf)
      exact ⟨rfl, rfl⟩
  | true =>
    dsimp only
    have h20 := hy rfl
    have hI := ainsSort_ok g k hc (srt k l) [] [] (by simp [srt_len]; omega)
    simp only [List.append_nil, srt_len, List.length_nil, Nat.add_zero, show srt k ([] : List Av) = [] from rfl] at hI
    (repeat' (conv => whnf); first | refine aS ?_ | refine aG ?_ | refine aD ?_ | refine aH ?_ | refine aP_A1 ?_ | refine aI ?_ | refine aJ ?_ | fail); all_goals try (conv => whnf)
    refine CondOb.mk (fun hlt => by omega) (fun hlt => ?_)
    (repeat' (conv => whnf); first | (refine aC (fun _ => ?_) (fun _ => ?_) <;> try (exfalso; omega)) | refine aS ?_ | refine aG ?_ | refine aD ?_ | refine aH ?_ | refine aP_A1 ?_ | refine aI ?_ | refine aJ ?_ | (refine CallOb.mk [0] hI rfl ⟨Imp.refl _, Imp.num (by omega), Imp.refl _, Imp.refl _, trivial⟩ rfl rfl ?_; rintro _ _ ⟨rfl, rfl⟩) | fail); all_goals try (conv => whnf)
    refine LoopOb.mk (Y := Unit) (st := fun _ => ⟨[(6, i64 20), (1, i64 l.length)], [.vec 4 (avs (srt k l))]⟩) (inv := fun _ => True) (fun _ => 0) () [0] trivial (by (exact aL)) ?_
    rintro _ _
    (repeat' (conv => whnf); first | refine aS ?_ | refine aG ?_ | refine aD ?_ | refine aH ?_ | refine aP_A1 ?_ | refine aI ?_ | refine aJ ?_ | fail); all_goals try (conv => whnf)
    refine CondOb.mk (fun hlt => by omega) (fun hlt => ?_)
    (repeat' (conv => whnf); first | (refine aC (fun _ => ?_) (fun _ => ?_) <;> try (exfalso; omega)) | refine aS ?_ | refine aG ?_ | refine aD ?_ | refine aH ?_ | refine aP_A1 ?_ | refine aI ?_ | refine aJ ?_ | fail); all_goals try (conv => whnf)
    exact ⟨rfl, rfl⟩
theorem aSortStable_ok (g : Nat) (k : Av → Int) (hc : aCmpOK g k) (l : List Av) (hl : l.length ≤ 20) :
    Ctr Try.prog 45 [.vec 0, .fn g []] [.vec 4 (avs l)] (fun r o => o = [.vec 4 (avs (srt k l))] ∧ r = .tup []) := by
  refine fn_intro (E := env 1) tys_ok rfl rfl rfl Try.func45 (by kernel_rfl) rfl (by kernel_rfl) ?_
  have hpl := avs_len l
  have cS := aStable_ok g k hc l hl
  (repeat' (conv => whnf); first | (refine aC (fun _ => ?_) (fun _ => ?_) <;> try (exfalso; omega)) | refine aS ?_ | refine aG ?_ | refine aD ?_ | refine aH ?_ | refine aP_A1 ?_ | refine aI ?_ | refine aJ ?_ | (refine CallOb.mk [0] cS rfl ⟨Imp.refl _, Imp.num (by omega), Imp.refl _, trivial⟩ rfl rfl ?_; rintro _ _ ⟨rfl, rfl⟩) | fail); all_goals try (conv => whnf)
  exact ⟨rfl, rfl⟩
theorem FwdC_ok : aCmpOK 46 avt := by
  intro a b
  refine Ctr.impE (Q := fun c => c < 0 ↔ a.x.t < b.x.t) (s := fun c => i64 c) (ow := fun _ => []) ?_
  refine fn_intro (E := env 0) tys_ok rfl rfl rfl Try.func46 (by kernel_rfl) rfl (by kernel_rfl) ?_
  have h1 := a.h
  have h2 := b.h
  (repeat' (conv => whnf); first | (refine aC (fun _ => ?_) (fun _ => ?_) <;> try (exfalso; omega)) | refine aS ?_ | refine aG ?_ | refine aD ?_ | refine aH ?_ | refine aP_A1 ?_ | refine aI ?_ | refine aJ ?_ | fail); all_goals try (conv => whnf)
  exact ⟨a.x.t - b.x.t, by omega, rfl, Imp.refl _⟩
end Go.Proofs.Ytifcdempdcolkab
