/-
  A text of the proofs of this seat: lemmas that the statements' proofs use; it states nothing of the program by itself beyond the contracts that its theorems bear. Conditions: those that stand in each theorem. Its short name: Y11.
-/
import Derived.Test.YtgbmiacpjmchdaaGreatX2
import Derived.Test.YtgbmiacpjmchdaaGreatNd
set_option linter.unusedVariables false
set_option linter.unusedSimpArgs false
--APPX dls_len
namespace Go.Proofs.YtgbmiacpjmchdaaGreat
open Go.Sx Go.Np Go.Cv Go.Tp
set_option maxRecDepth 4000
set_option maxHeartbeats 2000000
/-! delays in which one thing is changed -/
/- short lists of delays -/
structure DS (d : List (List Int)) : Prop where
  l : d.length ≤ 100
  r : ∀ r ∈ d, r.length ≤ 100
  v : ∀ r ∈ d, ∀ x ∈ r, -1000 ≤ x ∧ x ≤ 1000
theorem dls_set {d : List (List Int)} {i : Nat} {r : List Int} : (dls d).set i [.psl 1 (ints r)] = dls (d.set i r) := by simp [dls, List.map_set]
theorem dls_take {d : List (List Int)} {i : Nat} : (dls d).take i = dls (d.take i) := by simp [dls, List.map_take]
theorem DS.dl {d : List (List Int)} (h : DS d) : DL d := ⟨by have := h.l; omega, fun i => by
  by_cases hi : i < d.length
  · have := h.r _ (getD_in (d := []) hi); omega
  · rw [List.getD_eq_getElem?_getD, List.getElem?_eq_none (by omega)]; simp⟩
theorem DS.set {d : List (List Int)} (h : DS d) {i : Nat} {r : List Int} (h1 : r.length ≤ 101) (h2 : ∀ x ∈ r, -2000 ≤ x ∧ x ≤ 2000) : DL (d.set i r) := ⟨by rw [List.length_set]; have := h.l; omega, fun j => by
  rw [List.getD_eq_getElem?_getD, List.getElem?_set]
  split
  · split
    · simp; omega
    · simp
  · rw [← List.getD_eq_getElem?_getD]; exact h.dl.r j⟩
theorem DS.take {d : List (List Int)} (h : DS d) {i : Nat} : DL (d.take i) := ⟨by rw [List.length_take]; have := h.l; omega, fun j => by
  by_cases hj : j < (d.take i).length
  · have := h.r _ (List.mem_of_mem_take (getD_in (d := []) hj)); omega
  · rw [List.getD_eq_getElem?_getD, List.getElem?_eq_none (by omega)]; simp⟩
theorem take_set {α : Type} {l : List α} {i : Nat} {a : α} : (l.set i a).take i = l.take i := by
  rw [List.take_set]; exact List.set_eq_of_length_le (by rw [List.length_take]; omega)
theorem fst_set {l : List Int} {j : Nat} {a : Int} : ints (l.set j a) = (ints l).set j [i64 a] := by simp [ints, List.map_set]
theorem fst_app {l : List Int} {a : Int} : ints (l ++ [a]) = ints l ++ [[i64 a]] := by simp [ints]
theorem aP_Y11 {A B K : Prop} (k : K) (a : A := by (simp only [zA, zT, zD, zC, zN, ints_len, zR, dls_len]; omega)) (b : B := by (simp only [zA, zT, zD, zC, zN, ints_len, zR, dls_len]; omega)) : (A ∧ B) ∧ K := ⟨⟨a, b⟩, k⟩
theorem BentD_ok (L : List Int) (k : Nat) (hL : L.length ≤ 2000) (hk : k ≤ 2000) (d : List (List Int)) (hd : DS d) :
    Ctr Tryz.prog 9 [.ptr 0 0, .psl 1 (dls d)] [src L k] (fun r o => ∃ x : List (List Int) × Nat, (DL x.1 ∧ x.2 ≤ 2000) ∧ o = [src L x.2] ∧ r = .psl 1 (dls x.1)) := by
  refine Ctr.impE ?_
  refine fn_intro (E := env 1) tys_ok rfl rfl rfl Tryz.func9 (by kernel_rfl) rfl (by kernel_rfl) ?_
  have hdl := dls_len d
  have hd1 := hd.l
  by_cases h0 : d.length = 0
  · (repeat' (conv => whnf); first | (refine aC (fun _ => ?_) (fun _ => ?_) <;> try (exfalso; omega)) | refine aS ?_ | refine aG ?_ | refine aD ?_ | refine aP_Y11 ?_ | refine aI ?_ | refine aJ ?_ | fail); all_goals try (conv => whnf)
    refine .mk [.fa] ?_
    (repeat' (conv => whnf); first | (refine aC (fun _ => ?_) (fun _ => ?_) <;> try (exfalso; omega)) | refine aS ?_ | refine aG ?_ | refine aD ?_ | refine aH ?_ | refine aP_Y11 ?_ | refine aI ?_ | refine aJ ?_ | fail); all_goals try (conv => whnf)
    exact ⟨(d, k), ⟨hd.dl, hk⟩, rfl, Imp.refl _⟩
  (repeat' (conv => whnf); first | (refine aC (fun _ => ?_) (fun _ => ?_) <;> try (exfalso; omega)) | refine aS ?_ | refine aG ?_ | refine aD ?_ | refine aP_Y11 ?_ | refine aI ?_ | refine aJ ?_ | (refine Gh.mk [] ?_; (conv => whnf); refine CallOb.mk [0] (N_ok _ _ hL (by assumption) (dls d).length (by omega) (by omega)) rfl (ImpL.refl _) rfl rfl ?_; rintro _ _ ⟨⟨n, k1⟩, ⟨n1, n2, hk1⟩, rfl, rfl⟩; dsimp only at n1 n2 hk1 ⊢) | fail); all_goals try (conv => whnf)
  obtain ⟨i, hie⟩ : ∃ i : Nat, n = i := ⟨n.toNat, by omega⟩
  subst hie
  have hil : i < d.length := by omega
  refine ⟨i, rfl, by omega, ?_⟩
  have hgt := dls_get hil
  have hrl := hd.r _ (getD_in (d := []) hil)
  have hrv := hd.v _ (getD_in (d := []) hil)
  have hset := fun r => hd.set (i := i) (r := r)
  have htk := hd.take (i := i)
  generalize d.getD i [] = row at *
  have hlw := ints_len row
  (repeat' (conv => whnf); first | (refine aC (fun _ => ?_) (fun _ => ?_) <;> try (exfalso; omega)) | refine aS ?_ | refine aG ?_ | refine aD ?_ | refine aP_Y11 ?_ | refine aI ?_ | refine aJ ?_ | fail); all_goals try (conv => whnf)
  refine ⟨_, hgt, ?_⟩
  (repeat' (conv => whnf); first | (refine aC (fun _ => ?_) (fun _ => ?_) <;> try (exfalso; omega)) | refine aS ?_ | refine aG ?_ | refine aD ?_ | refine aP_Y11 ?_ | refine aI ?_ | refine aJ ?_ | fail); all_goals try (conv => whnf)
  refine ⟨i, rfl, by omega, ?_⟩
  (repeat' (conv => whnf); first | (refine aC (fun _ => ?_) (fun _ => ?_) <;> try (exfalso; omega)) | refine aS ?_ | refine aG ?_ | refine aD ?_ | refine aP_Y11 ?_ | refine aI ?_ | refine aJ ?_ | fail); all_goals try (conv => whnf)
  refine .mk [.op 2 i] ⟨_, hgt, ?_⟩
  refine And.intro rfl ?_
  (repeat' (conv => whnf); first | (refine aC (fun _ => ?_) (fun _ => ?_) <;> try (exfalso; omega)) | refine aS ?_ | refine aG ?_ | refine aD ?_ | refine aP_Y11 ?_ | refine aI ?_ | refine aJ ?_ | fail); all_goals try (conv => whnf)
  refine .mk [] ?_
  refine CallOb.mk [0] (N_ok _ _ hL (by assumption) 4 (by omega) (by omega)) rfl (ImpL.refl _) rfl rfl ?_
  rintro _ _ ⟨⟨m, k2⟩, ⟨m1, m2, hk2⟩, rfl, rfl⟩
  dsimp only at m1 m2 hk2 ⊢
  obtain rfl | rfl | rfl | rfl : m = 0 ∨ m = 1 ∨ m = 2 ∨ m = 3 := by omega
  · (repeat' (conv => whnf); first | refine And.intro (rfl : i = i) ?_ | (refine aC (fun _ => ?_) (fun _ => ?_) <;> try (exfalso; omega)) | refine aS ?_ | refine aG ?_ | refine aD ?_ | refine aP_Y11 ?_ | refine aI ?_ | refine aJ ?_ | refine ⟨i, rfl, by omega, ?_⟩ | fail); all_goals try (conv => whnf)
    refine .mk [] ?_
    (repeat' (conv => whnf); first | refine And.intro (rfl : i = i) ?_ | (refine aC (fun _ => ?_) (fun _ => ?_) <;> try (exfalso; omega)) | refine aS ?_ | refine aG ?_ | refine aD ?_ | refine aP_Y11 ?_ | refine aI ?_ | refine aJ ?_ | fail); all_goals try (conv => whnf)
    refine .mk [.fa, .cl 2, .fz 2] ?_
    (repeat' (conv => whnf); first | (refine aC (fun _ => ?_) (fun _ => ?_) <;> try (exfalso; omega)) | refine aS ?_ | refine aG ?_ | refine aD ?_ | refine aP_Y11 ?_ | refine aI ?_ | refine aJ ?_ | fail); all_goals try (conv => whnf)
    refine ⟨(d.set i (row ++ [0]), k2), ⟨hset _ (by rw [List.length_append, List.length_singleton]; omega) (fun x hx => ?_), hk2⟩, rfl, by rw [← dls_set, fst_app]; exact Imp.refl _⟩
    rcases List.mem_append.1 hx with h | h
    · have := hrv x h; omega
    · rw [List.mem_singleton.1 h]; omega
  · (repeat' (conv => whnf); first | refine And.intro (rfl : i = i) ?_ | (refine aC (fun _ => ?_) (fun _ => ?_) <;> try (exfalso; omega)) | refine aS ?_ | refine aG ?_ | refine aD ?_ | refine aP_Y11 ?_ | refine aI ?_ | refine aJ ?_ | refine ⟨i, rfl, by omega, ?_⟩ | fail); all_goals try (conv => whnf)
    refine .mk [.fz 3, .cl 2] ?_
    (repeat' (conv => whnf); first | (refine aC (fun _ => ?_) (fun _ => ?_) <;> try (exfalso; omega)) | refine aS ?_ | refine aG ?_ | refine aD ?_ | refine aP_Y11 ?_ | refine aI ?_ | refine aJ ?_ | fail); all_goals try (conv => whnf)
    refine ⟨i, rfl, ⟨by omega, by rw [List.length_set]; omega⟩, ?_⟩
    (repeat' (conv => whnf); first | (refine aC (fun _ => ?_) (fun _ => ?_) <;> try (exfalso; omega)) | refine aS ?_ | refine aG ?_ | refine aD ?_ | refine aP_Y11 ?_ | refine aI ?_ | refine aJ ?_ | fail); all_goals try (conv => whnf)
    refine .mk [.fa] ?_
    (repeat' (conv => whnf); first | (refine aC (fun _ => ?_) (fun _ => ?_) <;> try (exfalso; omega)) | refine aS ?_ | refine aG ?_ | refine aD ?_ | refine aH ?_ | refine aP_Y11 ?_ | refine aI ?_ | refine aJ ?_ | fail); all_goals try (conv => whnf)
    exact ⟨(d.take i, k2), ⟨htk, hk2⟩, rfl, by rw [← dls_take, take_set]; exact Imp.refl _⟩
  · by_cases h2 : row.length = 0
    · (repeat' (conv => whnf); first | refine And.intro (rfl : i = i) ?_ | (refine aC (fun _ => ?_) (fun _ => ?_) <;> try (exfalso; omega)) | refine aS ?_ | refine aG ?_ | refine aD ?_ | refine aP_Y11 ?_ | refine aI ?_ | refine aJ ?_ | refine ⟨i, rfl, by omega, ?_⟩ | fail); all_goals try (conv => whnf)
      refine .mk [.fa, .cl 2, .fz 2] ?_
      (repeat' (conv => whnf); first | (refine aC (fun _ => ?_) (fun _ => ?_) <;> try (exfalso; omega)) | refine aS ?_ | refine aG ?_ | refine aD ?_ | refine aP_Y11 ?_ | refine aI ?_ | refine aJ ?_ | fail); all_goals try (conv => whnf)
      exact ⟨(d.set i row, k2), ⟨hset _ (by omega) (fun x hx => by have := hrv x hx; omega), hk2⟩, rfl, by rw [← dls_set]; exact Imp.refl _⟩
    · (repeat' (conv => whnf); first | refine LitOb.ful ?_ | refine And.intro (rfl : i = i) ?_ | (refine aC (fun _ => ?_) (fun _ => ?_) <;> try (exfalso; omega)) | refine aS ?_ | refine aG ?_ | refine aD ?_ | refine aP_Y11 ?_ | refine aI ?_ | refine aJ ?_ | refine aW (.qs [0, 1, 2, 3, 4, 5, 6, 7, 8, 9, 11] (.l 10 [3] (.l 12 [3] (.l 13 [3] (.qs [14] (.l 15 [] .nil .no)) .no) .no) (.l 12 [8, 3] (.l 10 [3] (.l 13 [3] (.qs [14] (.l 15 [] .nil .no)) .no) .no) .no))) ?_ | refine ⟨i, rfl, by omega, ?_⟩ | (refine Gh.mk [] ?_; (conv => whnf); refine CallOb.mk [0] (N_ok _ _ hL (by assumption) (ints row).length (by omega) (by omega)) rfl (ImpL.refl _) rfl rfl ?_; rintro _ _ ⟨⟨n, k3⟩, ⟨n1, n2, hk3⟩, rfl, rfl⟩; dsimp only at n1 n2 hk3 ⊢) | (refine Gh.mk [] ?_; (conv => whnf); refine CallOb.mk [0] (Pick_ok _ _ hL (by assumption) [-2, -1, 400, 401] (by simp) (by simp)) rfl ⟨Imp.refl _, Imp.fulp rfl, trivial⟩ rfl rfl ?_; rintro _ _ ⟨⟨x, k4⟩, ⟨hx, hk4⟩, rfl, rfl⟩; dsimp only at hx hk4 ⊢) | refine ⟨n.toNat, by omega, by omega, ?_⟩ | refine ⟨_, ints_get (show n.toNat < row.length by omega), ?_⟩ | refine And.intro ?_ ?_ | fail); all_goals try (conv => whnf)
      all_goals refine .mk [.fa, .cl 2, .fz 2] ?_
      all_goals
        (repeat' (conv => whnf); first | (refine aC (fun _ => ?_) (fun _ => ?_) <;> try (exfalso; omega)) | refine aS ?_ | refine aG ?_ | refine aD ?_ | refine aP_Y11 ?_ | refine aI ?_ | refine aJ ?_ | fail); all_goals try (conv => whnf)
      all_goals
        have hx2 : -2 ≤ x ∧ x ≤ 401 := by simp only [List.mem_cons, List.not_mem_nil, or_false] at hx; omega
        refine ⟨(d.set i (row.set n.toNat x), k4), ⟨hset _ (by rw [List.length_set]; omega) (fun y hy => ?_), hk4⟩, rfl, by rw [← dls_set, fst_set]; exact Imp.refl _⟩
        rcases List.mem_or_eq_of_mem_set hy with h | rfl
        · have := hrv y h; omega
        · omega
  · by_cases h2 : row.length = 0
    · (repeat' (conv => whnf); first | refine And.intro (rfl : i = i) ?_ | (refine aC (fun _ => ?_) (fun _ => ?_) <;> try (exfalso; omega)) | refine aS ?_ | refine aG ?_ | refine aD ?_ | refine aP_Y11 ?_ | refine aI ?_ | refine aJ ?_ | refine ⟨i, rfl, by omega, ?_⟩ | fail); all_goals try (conv => whnf)
      refine .mk [.fa, .cl 2, .fz 2] ?_
      (repeat' (conv => whnf); first | (refine aC (fun _ => ?_) (fun _ => ?_) <;> try (exfalso; omega)) | refine aS ?_ | refine aG ?_ | refine aD ?_ | refine aP_Y11 ?_ | refine aI ?_ | refine aJ ?_ | fail); all_goals try (conv => whnf)
      exact ⟨(d.set i row, k2), ⟨hset _ (by omega) (fun x hx => by have := hrv x hx; omega), hk2⟩, rfl, by rw [← dls_set]; exact Imp.refl _⟩
    · have hg := ints_get (l := row) (j := 0) (by omega)
      have hx := hrv _ (getD_in (d := 0) (show 0 < row.length by omega))
      generalize hxe : row.getD 0 0 = x at *
      (repeat' (conv => whnf); first | refine And.intro (rfl : i = i) ?_ | (refine aC (fun _ => ?_) (fun _ => ?_) <;> try (exfalso; omega)) | refine aS ?_ | refine aG ?_ | refine aD ?_ | refine aP_Y11 ?_ | refine aI ?_ | refine aJ ?_ | refine ⟨i, rfl, by omega, ?_⟩ | refine ⟨0, rfl, by omega, ?_⟩ | refine ⟨_, hg, ?_⟩ | fail); all_goals try (conv => whnf)
      refine .mk [.fa, .cl 2, .fz 2] ?_
      (repeat' (conv => whnf); first | (refine aC (fun _ => ?_) (fun _ => ?_) <;> try (exfalso; omega)) | refine aS ?_ | refine aG ?_ | refine aD ?_ | refine aP_Y11 ?_ | refine aI ?_ | refine aJ ?_ | fail); all_goals try (conv => whnf)
      refine ⟨(d.set i (row.set 0 (x - 1)), k2), ⟨hset _ (by rw [List.length_set]; omega) (fun y hy => ?_), hk2⟩, rfl, by rw [← dls_set, fst_set]; exact Imp.refl _⟩
      rcases List.mem_or_eq_of_mem_set hy with h | rfl
      · have := hrv y h; omega
      · omega
end Go.Proofs.YtgbmiacpjmchdaaGreat
