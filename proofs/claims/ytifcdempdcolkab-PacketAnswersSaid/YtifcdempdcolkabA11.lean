/-
  A text of the proofs of this seat: lemmas that the statements' proofs use; it states nothing of the program by itself beyond the contracts that its theorems bear. Conditions: those that stand in each theorem. Its short name: A11.
-/
import Derived.Test.YtifcdempdcolkabA1
set_option linter.unusedVariables false
set_option linter.unusedSimpArgs false
namespace Go.Proofs.Ytifcdempdcolkab
open Go.Sx Go.Pk Go.Cv Go.St
set_option maxRecDepth 4000
set_option maxHeartbeats 2000000
--APPX avs_len
abbrev av0 : Av := ⟨0, pk0, by decide⟩
theorem avs_get {l : List Av} {i : Nat} (h : i < l.length) : (avs l)[i]? = some (avw (l.getD i av0)) := by simp [avs, h]
theorem atwo_get {A B C : List Av} {x y : Av} {i j : Nat} (hi : A.length = i) (hj : A.length + 1 + B.length = j) :
    (avs (A ++ x :: (B ++ y :: C)))[i]? = some (avw x) ∧ (avs (A ++ x :: (B ++ y :: C)))[j]? = some (avw y) ∧
    ((avs (A ++ x :: (B ++ y :: C))).set i (avw y)).set j (avw x) = avs (A ++ y :: (B ++ x :: C)) := by
  subst hi hj
  have e : ∀ u v : Av, avs (A ++ u :: (B ++ v :: C)) = avs A ++ (avw u :: (avs B ++ avw v :: avs C)) := fun u v => by simp [avs]
  have hA := avs_len A
  have hB := avs_len B
  refine ⟨avs_at, ?_, ?_⟩
  · rw [e, List.getElem?_append_right (by omega), show A.length + 1 + B.length - (avs A).length = B.length + 1 by omega, List.getElem?_cons_succ, List.getElem?_append_right (by omega), show B.length - (avs B).length = 0 by omega]; rfl
  · rw [e, e, List.set_append_right _ _ (by omega), List.set_append_right _ _ (by omega), show A.length - (avs A).length = 0 by omega, show A.length + 1 + B.length - (avs A).length = B.length + 1 by omega, List.set_cons_zero, List.set_cons_succ, List.set_append_right _ _ (by omega), show B.length - (avs B).length = 0 by omega, List.set_cons_zero]
/- two ranges that are swapped, up to i -/
def aswp (P X M Y T : List Av) (i : Nat) : List Av := P ++ (Y.take i ++ X.drop i) ++ M ++ (X.take i ++ Y.drop i) ++ T
theorem aswp_zero (P X M Y T : List Av) : aswp P X M Y T 0 = P ++ X ++ M ++ Y ++ T := by simp [aswp]
theorem aswp_full {P X M Y T : List Av} {n : Nat} (h1 : X.length = n) (h2 : Y.length = n) : aswp P X M Y T n = P ++ Y ++ M ++ X ++ T := by
  subst h1
  simp [aswp, List.take_of_length_le (Nat.le_of_eq h2), List.drop_of_length_le (Nat.le_of_eq h2)]
theorem aswp_len {P X M Y T : List Av} {n : Nat} (h1 : X.length = n) (h2 : Y.length = n) {i : Nat} (hi : i ≤ n) : (aswp P X M Y T i).length = P.length + n + M.length + n + T.length := by
  simp only [aswp, List.length_append, List.length_take, List.length_drop]; omega
theorem aswp_step {P X M Y T : List Av} {n : Nat} (h1 : X.length = n) (h2 : Y.length = n) {i : Nat} (hi : i < n) : ∃ A B C x y, A.length = P.length + i ∧ A.length + 1 + B.length = P.length + n + M.length + i ∧ aswp P X M Y T i = A ++ x :: (B ++ y :: C) ∧ aswp P X M Y T (i + 1) = A ++ y :: (B ++ x :: C) := by
  refine ⟨P ++ Y.take i, X.drop (i + 1) ++ M ++ X.take i, Y.drop (i + 1) ++ T, X[i], Y[i], ?_, ?_, ?_, ?_⟩
  · rw [List.length_append, List.length_take]; omega
  · simp only [List.length_append, List.length_take, List.length_drop]; omega
  · unfold aswp
    rw [List.drop_eq_getElem_cons (l := X) (by omega), List.drop_eq_getElem_cons (l := Y) (by omega)]; simp only [List.append_assoc, List.cons_append]
  · unfold aswp
    rw [List.take_succ_eq_append_getElem (l := X) (by omega), List.take_succ_eq_append_getElem (l := Y) (by omega)]; simp only [List.append_assoc, List.cons_append, List.nil_append]
theorem aP_A11 {A B K : Prop} (k : K) (a : A := by (simp only [zA, zT, zD, zC, zN, ints_len, zR, avs_len]; omega)) (b : B := by (simp only [zA, zT, zD, zC, zN, ints_len, zR, avs_len]; omega)) : (A ∧ B) ∧ K := ⟨⟨a, b⟩, k⟩
theorem aswap_ok (g : Nat) (P X M Y T : List Av) (n : Nat) (h1 : X.length = n) (h2 : Y.length = n) (hl : P.length + n + M.length + n + T.length ≤ 1000000) :
    Ctr Try.prog 82 [.vec 0, i64 P.length, i64 (P.length + n + M.length : Nat), i64 n, .fn g []] [.vec 4 (avs (P ++ X ++ M ++ Y ++ T))] (fun r o => o = [.vec 4 (avs (P ++ Y ++ M ++ X ++ T))] ∧ r = .tup []) := by
  refine fn_intro (E := env 1) tys_ok rfl rfl rfl Try.func82 (by kernel_rfl) rfl (by kernel_rfl) ?_
  (repeat' (conv => whnf); first | (refine aC (fun _ => ?_) (fun _ => ?_) <;> try (exfalso; omega)) | refine aS ?_ | refine aG ?_ | refine aD ?_ | refine aH ?_ | refine aP_A11 ?_ | refine aI ?_ | refine aJ ?_ | refine aW (.qs [0, 1, 2, 3, 4, 5, 6, 7, 8, 9, 10, 11, 12, 13, 14, 15, 16, 17, 18, 19, 20] (.l 21 [] (.qs [22] (.l 23 [] .nil .no)) .no)) ?_ | fail); all_goals try (conv => whnf)
  refine LoopOb.mk (Y := Nat) (st := fun i => ⟨[(10, i64 i), (0, .vec 0), (1, i64 P.length), (2, i64 (P.length + n + M.length : Nat)), (3, i64 n)], [.vec 4 (avs (aswp P X M Y T i))]⟩)
    (inv := fun i => i ≤ n) (fun i => n - i) 0 [0] (by omega) (by rw [aswp_zero]; (exact aL)) ?_
  intro i hi
  have hpl := avs_len (aswp P X M Y T i)
  rw [aswp_len h1 h2 hi] at hpl
  (repeat' (conv => whnf); first | refine aS ?_ | refine aG ?_ | refine aD ?_ | refine aH ?_ | refine aP_A11 ?_ | refine aI ?_ | refine aJ ?_ | refine aW (.qs [0, 1, 2, 3, 4, 5, 6, 7, 8, 9, 10, 11, 12, 13, 14, 15, 16, 17, 18, 19, 20] (.l 21 [] (.qs [22] (.l 23 [] .nil .no)) .no)) ?_ | fail); all_goals try (conv => whnf)
  refine CondOb.mk (fun hlt => ?_) (fun hlt => ?_)
  · obtain ⟨A, B, C, x, y, e1, e2, e3, e4⟩ := aswp_step (P := P) (M := M) (T := T) h1 h2 (i := i) (by omega)
    obtain ⟨g1, g2, g3⟩ := atwo_get (C := C) (x := x) (y := y) e1 e2
    rw [e3] at hpl ⊢
    (repeat' (conv => whnf); first | refine ⟨_, (List.getElem?_set_ne (by omega)).trans g2, ?_⟩ | refine ⟨_, g2, ?_⟩ | refine ⟨_, g1, ?_⟩ | refine ⟨P.length + n + M.length + i, by omega, by (first | omega | (simp only [List.length_set]; omega)), ?_⟩ | refine ⟨P.length + i, by omega, by (first | omega | (simp only [List.length_set]; omega)), ?_⟩ | (refine aC (fun _ => ?_) (fun _ => ?_) <;> try (exfalso; omega)) | refine aS ?_ | refine aG ?_ | refine aD ?_ | refine aH ?_ | refine aP_A11 ?_ | refine aI ?_ | refine aJ ?_ | refine aW (.qs [0, 1, 2, 3, 4, 5, 6, 7, 8, 9, 10, 11, 12, 13, 14, 15, 16, 17, 18, 19, 20] (.l 21 [] (.qs [22] (.l 23 [] .nil .no)) .no)) ?_ | fail); all_goals try (conv => whnf)
    exact ⟨i + 1, [0], by omega, by omega, by rw [e4, ← g3]; (exact aL)⟩
  · have e : i = n := by omega
    subst e
    rw [aswp_full h1 h2]
    (repeat' (conv => whnf); first | (refine aC (fun _ => ?_) (fun _ => ?_) <;> try (exfalso; omega)) | refine aS ?_ | refine aG ?_ | refine aD ?_ | refine aH ?_ | refine aP_A11 ?_ | refine aI ?_ | refine aJ ?_ | refine aW (.qs [0, 1, 2, 3, 4, 5, 6, 7, 8, 9, 10, 11, 12, 13, 14, 15, 16, 17, 18, 19, 20] (.l 21 [] (.qs [22] (.l 23 [] .nil .no)) .no)) ?_ | fail); all_goals try (conv => whnf)
    exact ⟨rfl, rfl⟩
structure aRotI (P U V T L X Y R : List Av) (m : Nat) : Prop where
  m : L.length + X.length = m
  x : 1 ≤ X.length
  y : 1 ≤ Y.length
  e : L ++ (Y ++ (X ++ R)) = P ++ (V ++ (U ++ T))
  l : L.length + X.length + Y.length + R.length ≤ 1000000
theorem arot_ok (g : Nat) (P U V T : List Av) (hU : 1 ≤ U.length) (hV : 1 ≤ V.length) (hl : P.length + U.length + V.length + T.length ≤ 1000000) :
    Ctr Try.prog 80 [.vec 0, i64 P.length, i64 (P.length + U.length : Nat), i64 (P.length + U.length + V.length : Nat), .fn g []] [.vec 4 (avs (P ++ (U ++ (V ++ T))))] (fun r o => o = [.vec 4 (avs (P ++ (V ++ (U ++ T))))] ∧ r = .tup []) := by
  refine fn_intro (E := env 1) tys_ok rfl rfl rfl Try.func80 (by kernel_rfl) rfl (by kernel_rfl) ?_
  (repeat' (conv => whnf); first | (refine aC (fun _ => ?_) (fun _ => ?_) <;> try (exfalso; omega)) | refine aS ?_ | refine aG ?_ | refine aD ?_ | refine aH ?_ | refine aP_A11 ?_ | refine aI ?_ | refine aJ ?_ | fail); all_goals try (conv => whnf)
  refine LoopOb.mk (Y := List Av × List Av × List Av × List Av) (st := fun y => ⟨[(10, i64 y.2.1.length), (11, i64 y.2.2.1.length), (0, .vec 0), (2, i64 (P.length + U.length : Nat)), (4, .fn g [])], [.vec 4 (avs (y.1 ++ (y.2.1 ++ (y.2.2.1 ++ y.2.2.2))))]⟩)
    (inv := fun y => aRotI P U V T y.1 y.2.1 y.2.2.1 y.2.2.2 (P.length + U.length)) (fun y => y.2.1.length + y.2.2.1.length) (P, U, V, T) [0] ⟨rfl, hU, hV, rfl, hl⟩ (by dsimp only; (exact aL)) ?_
  rintro ⟨L, X, Y, R⟩ hI
  dsimp only at hI ⊢
  obtain ⟨i1, i2, i3, i4, i5⟩ := hI
  generalize P.length + U.length = m at *
  (repeat' (conv => whnf); first | refine aS ?_ | refine aG ?_ | refine aD ?_ | refine aH ?_ | refine aP_A11 ?_ | refine aI ?_ | refine aJ ?_ | fail); all_goals try (conv => whnf)
  refine CondOb.mk (fun hlt => ?_) (fun hlt => ?_)
  · by_cases hgt : X.length > Y.length
    · have t1 : (X.take Y.length).length = Y.length := by rw [List.length_take]; omega
      have t2 : (X.drop Y.length).length = X.length - Y.length := List.length_drop
      have hX : X = X.take Y.length ++ X.drop Y.length := (List.take_append_drop _ _).symm
      have cS := aswap_ok g L (X.take Y.length) (X.drop Y.length) Y R Y.length t1 rfl (by omega)
      generalize X.take Y.length = X1 at *
      generalize X.drop Y.length = X2 at *
      simp only [List.append_assoc] at cS
      have e1 : L ++ (X ++ (Y ++ R)) = L ++ (X1 ++ (X2 ++ (Y ++ R))) := by rw [hX, List.append_assoc]
      have e2 : L ++ (Y ++ (X2 ++ (X1 ++ R))) = (L ++ Y) ++ (X2 ++ (X1 ++ R)) := by rw [List.append_assoc]
      rw [e2] at cS
      rw [e1]
      (repeat' (conv => whnf); first | (refine aC (fun _ => ?_) (fun _ => ?_) <;> try (exfalso; omega)) | refine aS ?_ | refine aG ?_ | refine aD ?_ | refine aH ?_ | refine aP_A11 ?_ | refine aI ?_ | refine aJ ?_ | (refine CallOb.mk [0] cS rfl ⟨Imp.refl _, Imp.num (by omega), Imp.num (by omega), Imp.refl _, Imp.refl _, trivial⟩ rfl rfl ?_; rintro _ _ ⟨rfl, rfl⟩) | fail); all_goals try (conv => whnf)
      refine ⟨(L ++ Y, X2, X1, R), [0], ⟨?_, ?_, ?_, ?_, ?_⟩, ?_, ?_⟩
      · dsimp only; rw [List.length_append]; omega
      · dsimp only; omega
      · dsimp only; omega
      · dsimp only; rw [← i4, hX]; simp only [List.append_assoc]
      · dsimp only; rw [List.length_append]; omega
      · dsimp only; omega
      · dsimp only; (exact aL)
    · have t1 : (Y.drop (Y.length - X.length)).length = X.length := by rw [List.length_drop]; omega
      have t2 : (Y.take (Y.length - X.length)).length = Y.length - X.length := by rw [List.length_take]; omega
      have hY : Y = Y.take (Y.length - X.length) ++ Y.drop (Y.length - X.length) := (List.take_append_drop _ _).symm
      have cS := aswap_ok g L X (Y.take (Y.length - X.length)) (Y.drop (Y.length - X.length)) R X.length rfl t1 (by omega)
      generalize Y.take (Y.length - X.length) = Y1 at *
      generalize Y.drop (Y.length - X.length) = Y2 at *
      simp only [List.append_assoc] at cS
      have e1 : L ++ (X ++ (Y ++ R)) = L ++ (X ++ (Y1 ++ (Y2 ++ R))) := by rw [hY, List.append_assoc]
      rw [e1]
      (repeat' (conv => whnf); first | (refine aC (fun _ => ?_) (fun _ => ?_) <;> try (exfalso; omega)) | refine aS ?_ | refine aG ?_ | refine aD ?_ | refine aH ?_ | refine aP_A11 ?_ | refine aI ?_ | refine aJ ?_ | (refine CallOb.mk [0] cS rfl ⟨Imp.refl _, Imp.num (by omega), Imp.num (by omega), Imp.refl _, Imp.refl _, trivial⟩ rfl rfl ?_; rintro _ _ ⟨rfl, rfl⟩) | fail); all_goals try (conv => whnf)
      refine ⟨(L, Y2, Y1, X ++ R), [0], ⟨?_, ?_, ?_, ?_, ?_⟩, ?_, ?_⟩
      · dsimp only; omega
      · dsimp only; omega
      · dsimp only; omega
      · dsimp only; rw [← i4, hY]; simp only [List.append_assoc]
      · dsimp only; rw [List.length_append]; omega
      · dsimp only; omega
      · dsimp only; (exact aL)
  · have e : X.length = Y.length := by omega
    have cS := aswap_ok g L X [] Y R X.length rfl e.symm (by simp only [List.length_nil]; omega)
    simp only [List.append_assoc, List.nil_append, List.length_nil, Nat.add_zero] at cS
    rw [i4] at cS
    (repeat' (conv => whnf); first | (refine aC (fun _ => ?_) (fun _ => ?_) <;> try (exfalso; omega)) | refine aS ?_ | refine aG ?_ | refine aD ?_ | refine aH ?_ | refine aP_A11 ?_ | refine aI ?_ | refine aJ ?_ | (refine CallOb.mk [0] cS rfl ⟨Imp.refl _, Imp.num (by omega), Imp.num (by omega), Imp.refl _, Imp.refl _, trivial⟩ rfl rfl ?_; rintro _ _ ⟨rfl, rfl⟩) | fail); all_goals try (conv => whnf)
    exact ⟨rfl, rfl⟩
end Go.Proofs.Ytifcdempdcolkab
