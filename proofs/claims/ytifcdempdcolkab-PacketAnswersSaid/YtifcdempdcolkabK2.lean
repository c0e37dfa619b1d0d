/-
  A text of the proofs of this seat: lemmas that the statements' proofs use; it states nothing of the program by itself beyond the contracts that its theorems bear. Conditions: those that stand in each theorem. Its short name: K2.
-/
import Derived.Test.YtifcdempdcolkabW1
import Derived.Test.YtifcdempdcolkabW4
import Derived.Test.YtifcdempdcolkabPl
set_option linter.unusedVariables false
set_option linter.unusedSimpArgs false
namespace Go.Proofs.Ytifcdempdcolkab
open Go.Sx Go.Cv
set_option maxRecDepth 4000
set_option maxHeartbeats 2000000
def LongP (vs : List Int) (p : Nat) (q : Int) (more times : Nat) (x : List Int × Nat × Int) : Prop :=
  if FinC (vs, p, q) then x = (vals (val vs p q) (vs.length + (more + (times - 1) * p)), p * times, q * times) else x = (vs, p, q)
theorem aP_K2 {A B K : Prop} (k : K) (a : A := by (simp only [zA, zT, zD, zC, zN, ints_len, zR, Go.Cv.vals_len]; omega)) (b : B := by (simp only [zA, zT, zD, zC, zN, ints_len, zR, Go.Cv.vals_len]; omega)) : (A ∧ B) ∧ K := ⟨⟨a, b⟩, k⟩
theorem Longer_ok (vs : List Int) (p : Nat) (q : Int) (more times : Nat) (h : VF vs p q) (hm : more ≤ 100) (ht : 1 ≤ times) (ht2 : times ≤ 100) :
    Ctr Try.prog 30 [crv vs p q, i64 more, i64 times] [] (fun r o => ∃ x : List Int × Nat × Int, LongP vs p q more times x ∧ o = [] ∧ r = crv x.1 x.2.1 x.2.2) := by
  have n1 := h.n1
  have n2 := h.n2
  have p1 := h.p1
  have p2 := h.p2
  have pn := h.pn
  have q0 := h.q0
  have q1 := h.q1
  refine Ctr.impE ?_
  refine fn_intro (E := env 0) tys_ok rfl rfl rfl Try.func30 (by kernel_rfl) rfl (by kernel_rfl) ?_
  (repeat' (conv => whnf); first | (refine aC (fun _ => ?_) (fun _ => ?_) <;> try (exfalso; omega)) | refine aS ?_ | refine aG ?_ | refine aD ?_ | refine aP_K2 ?_ | refine aI ?_ | refine aJ ?_ | refine aW (.qs [0, 1, 2, 3, 4, 5, 6, 7, 8, 9, 10, 11, 12, 13, 14] (.l 15 [1] (.l 16 [] (.qs [17] (.l 18 [] .nil .no)) .no) .no)) ?_ | refine aW (.qs [0, 1, 2, 3, 4, 5, 6, 7, 8] (.l 9 [5] (.qs [10] (.l 11 [] .nil .no)) .no)) ?_ | fail); all_goals try (conv => whnf)
  refine DrawOb.cut [] (.qs [1, 2, 4, 5, 6, 7] (.l 0 [7, 5, 2] (.l 3 [7, 5] (.qs [8] (.l 9 [7, 5] (.l 10 [] .nil .no) .no)) (.l 9 [7, 5, 2] (.l 3 [7, 5] (.qs [8] (.l 10 [] .nil .no)) .no) .no)) (.l 9 [7, 5, 2] (.l 0 [7, 5, 2] (.l 3 [7, 5] (.qs [8] (.l 10 [] .nil .no)) .no) .no) .no))) (Y := Unit) (st := fun _ => ⟨[(7, .ptr 0 0), (6, .ptr 3 0), (3, .ptr 1 0), (1, i64 more), (2, i64 times)], [.box [.vec 2, i64 p, i64 q], .box [.psl 1 (ints vs), i64 p, i64 q], .vec 1 (ints vs), .box [.nil, i64 0, i64 0]]⟩) (inv := fun _ => True) (by decide +kernel) ?_ ?_
  · (repeat' (conv => whnf); first | (refine aC (fun _ => ?_) (fun _ => ?_) <;> try (exfalso; omega)) | refine aS ?_ | refine aG ?_ | refine aD ?_ | refine aH ?_ | refine aP_K2 ?_ | refine aI ?_ | refine aJ ?_ | refine aW (.qs [0, 1, 2, 3, 4, 5, 6, 7, 8, 9, 10, 11, 12, 13, 14] (.l 15 [1] (.l 16 [] (.qs [17] (.l 18 [] .nil .no)) .no) .no)) ?_ | refine aW (.qs [0, 1, 2, 3, 4, 5, 6, 7, 8] (.l 9 [5] (.qs [10] (.l 11 [] .nil .no)) .no)) ?_ | refine And.intro ?_ ?_ | fail); all_goals try (conv => whnf)
    · exact ⟨(), [4, 0, 3, 1], trivial, by (exact aL)⟩
    · exact ⟨(), [3, 0, 4, 1], trivial, by (exact aL)⟩
    · exact ⟨(), [2, 0, 4, 1], trivial, by (exact aL)⟩
  rintro _ _
  have hil := ints_len vs
  have hlast := h.v (vs.length - 1) (by omega)
  (repeat' (conv => whnf); first | (refine aC (fun _ => ?_) (fun _ => ?_) <;> try (exfalso; omega)) | refine aS ?_ | refine aG ?_ | refine aD ?_ | refine aP_K2 ?_ | refine aI ?_ | refine aJ ?_ | refine aW (.qs [0, 1, 2, 3, 4, 5, 6, 7, 8, 9, 10, 11, 12, 13, 14] (.l 15 [1] (.l 16 [] (.qs [17] (.l 18 [] .nil .no)) .no) .no)) ?_ | refine aW (.qs [0, 1, 2, 3, 4, 5, 6, 7, 8] (.l 9 [5] (.qs [10] (.l 11 [] .nil .no)) .no)) ?_ | fail); all_goals try (conv => whnf)
  · refine .mk [] ?_
    have hi : vs.getD (vs.length - 1) 0 = INF := by
      have h1 : vs.getD ((vs.length : Int) - 1).toNat 0 = 4611686018427387904 := by simpa only [ints_len] using (by assumption : vs.getD (((ints vs).length : Int) - 1).toNat 0 = 4611686018427387904)
      rw [show ((vs.length : Int) - 1).toNat = vs.length - 1 by omega] at h1
      exact h1
    exact ⟨(vs, p, q), by unfold LongP; rw [if_neg (fun hf => hf hi)], rfl, Imp.refl _⟩
  have hf : FinC (vs, p, q) := by
    have h1 : ¬vs.getD ((vs.length : Int) - 1).toNat 0 = 4611686018427387904 := by
      have := (by assumption : ¬vs.getD (((ints vs).length : Int) - 1).toNat 0 = 4611686018427387904)
      simpa only [ints_len] using this
    rw [show ((vs.length : Int) - 1).toNat = vs.length - 1 by omega] at h1
    exact h1
  have hmul := mul_bd (a := (times : Int) - 1) (b := (p : Int)) (A := 100) (B := 120) (by omega) (by omega) (by omega) (by omega)
  have hper := h.per
  have hv : ∀ t, t ≤ 1048576 → 0 ≤ val vs p q t ∧ val vs p q t ≤ 2000000000000000 := fun t ht => ⟨h.nonneg t, cv_small (a := (vs, p, q)) h ht (fun hi => hf.not h t hi)⟩
  have hK : ((times : Int) - 1) * p = (((times - 1) * p : Nat) : Int) := by push_cast; rw [Int.ofNat_sub ht]; rfl
  rw [hK] at hmul
  have hLP : LongP vs p q more times (vals (val vs p q) (vs.length + (more + (times - 1) * p)), p * times, q * times) := by unfold LongP; rw [if_pos hf]
  refine ArOb.fits (by rw [hK]; omega) ?_
  rw [hK]
  generalize (times - 1) * p = m at *
  (repeat' (conv => whnf); first | (refine aC (fun _ => ?_) (fun _ => ?_) <;> try (exfalso; omega)) | refine aS ?_ | refine aG ?_ | refine aD ?_ | refine aH ?_ | refine aP_K2 ?_ | refine aI ?_ | refine aJ ?_ | refine aW (.qs [0, 1, 2, 3, 4, 5, 6, 7, 8, 9, 10, 11, 12, 13, 14] (.l 15 [1] (.l 16 [] (.qs [17] (.l 18 [] .nil .no)) .no) .no)) ?_ | refine aW (.qs [0, 1, 2, 3, 4, 5, 6, 7, 8] (.l 9 [5] (.qs [10] (.l 11 [] .nil .no)) .no)) ?_ | fail); all_goals try (conv => whnf)
  have hvs : vals (val vs p q) vs.length = vs := by
    apply List.ext_getElem
    · rw [vals_len]
    · intro i h1 h2
      simp only [vals, List.getElem_map, List.getElem_range]
      rw [val_lt h2, List.getD_eq_getElem?_getD, List.getElem?_eq_getElem h2]; rfl
  refine LoopOb.mk (Y := Nat) (st := fun j => ⟨[(8, i64 ((more + m - j : Nat) : Int)), (7, .ptr 0 0), (6, .ptr 3 0), (3, .ptr 1 0), (2, i64 times)], [.box [.vec 2, i64 p, i64 q], .box [.psl 1 (ints vs), i64 p, i64 q], .vec 1 (ints (vals (val vs p q) (vs.length + j))), .box [.nil, i64 0, i64 0]]⟩)
    (inv := fun j => j ≤ more + m) (fun j => more + m - j) 0 [0, 1, 2, 3] (by omega)
    (by refine Le.mk (by kernel_rfl) ?_ ?_ <;> repeat' (first | exact True.intro | refine And.intro ?_ ?_ | exact Imp.refl _ | exact Imp.num (by omega) | exact rfl | (simp only [Nat.add_zero, hvs]; exact rfl) | (rw [Nat.add_zero, hvs]))) ?_
  intro j hj
  have hl : (vals (val vs p q) (vs.length + j)).length = vs.length + j := vals_len _ _
  have hv1 := hv (vs.length + j - p) (by omega)
  have e1 := hper (vs.length + j - p) (by omega)
  rw [show vs.length + j - p + p = vs.length + j by omega] at e1
  (repeat' (conv => whnf); first | (refine aC (fun _ => ?_) (fun _ => ?_) <;> try (exfalso; omega)) | refine aS ?_ | refine aG ?_ | refine aD ?_ | refine aP_K2 ?_ | refine aI ?_ | refine aJ ?_ | refine aW (.qs [0, 1, 2, 3, 4, 5, 6, 7, 8, 9, 10, 11, 12, 13, 14] (.l 15 [1] (.l 16 [] (.qs [17] (.l 18 [] .nil .no)) .no) .no)) ?_ | refine aW (.qs [0, 1, 2, 3, 4, 5, 6, 7, 8] (.l 9 [5] (.qs [10] (.l 11 [] .nil .no)) .no)) ?_ | fail); all_goals try (conv => whnf)
  · refine ⟨vs.length + j - p, by rw [ints_len, vals_len]; omega, by rw [ints_len, vals_len]; omega, ?_⟩
    (repeat' (conv => whnf); first | (refine aC (fun _ => ?_) (fun _ => ?_) <;> try (exfalso; omega)) | refine aS ?_ | refine aG ?_ | refine aD ?_ | refine aP_K2 ?_ | refine aI ?_ | refine aJ ?_ | refine aW (.qs [0, 1, 2, 3, 4, 5, 6, 7, 8, 9, 10, 11, 12, 13, 14] (.l 15 [1] (.l 16 [] (.qs [17] (.l 18 [] .nil .no)) .no) .no)) ?_ | refine aW (.qs [0, 1, 2, 3, 4, 5, 6, 7, 8] (.l 9 [5] (.qs [10] (.l 11 [] .nil .no)) .no)) ?_ | fail); all_goals try (conv => whnf)
    refine ⟨_, ints_get (by rw [vals_len]; omega), ?_⟩
    rw [vals_get (show vs.length + j - p < vs.length + j by omega)]
    (repeat' (conv => whnf); first | (refine aC (fun _ => ?_) (fun _ => ?_) <;> try (exfalso; omega)) | refine aS ?_ | refine aG ?_ | refine aD ?_ | refine aP_K2 ?_ | refine aI ?_ | refine aJ ?_ | refine aW (.qs [0, 1, 2, 3, 4, 5, 6, 7, 8, 9, 10, 11, 12, 13, 14] (.l 15 [1] (.l 16 [] (.qs [17] (.l 18 [] .nil .no)) .no) .no)) ?_ | refine aW (.qs [0, 1, 2, 3, 4, 5, 6, 7, 8] (.l 9 [5] (.qs [10] (.l 11 [] .nil .no)) .no)) ?_ | fail); all_goals try (conv => whnf)
    rw [← e1]
    refine .mk [] ?_
    refine ⟨j + 1, [0, 1, 5, 3], by omega, by omega, ?_⟩
    refine Le.mk (by kernel_rfl) ?_ ?_ <;> repeat' (first | exact True.intro | refine And.intro ?_ ?_ | exact Imp.refl _ | exact Imp.num (by omega) | exact rfl | simp [ints, ← Nat.add_assoc, vals_succ])
  · have hje : j = more + m := by omega
    subst hje
    have hpt := mul_bd (a := (p : Int)) (b := (times : Int)) (A := 120) (B := 100) (by omega) (by omega) (by omega) (by omega)
    have hqt := mul_bd (a := q) (b := (times : Int)) (A := 1073741824) (B := 100) (by omega) (by omega) (by omega) (by omega)
    refine ArOb.fits (by omega) ?_
    (repeat' (conv => whnf); first | (refine aC (fun _ => ?_) (fun _ => ?_) <;> try (exfalso; omega)) | refine aS ?_ | refine aG ?_ | refine aD ?_ | refine aP_K2 ?_ | refine aI ?_ | refine aJ ?_ | refine aW (.qs [0, 1, 2, 3, 4, 5, 6, 7, 8, 9, 10, 11, 12, 13, 14] (.l 15 [1] (.l 16 [] (.qs [17] (.l 18 [] .nil .no)) .no) .no)) ?_ | refine aW (.qs [0, 1, 2, 3, 4, 5, 6, 7, 8] (.l 9 [5] (.qs [10] (.l 11 [] .nil .no)) .no)) ?_ | fail); all_goals try (conv => whnf)
    refine .mk [.fz 2] ?_
    exact ⟨_, hLP, rfl, Imp.agg ⟨Imp.refl _, Imp.num (by push_cast; rfl), Imp.refl _, trivial⟩⟩
end Go.Proofs.Ytifcdempdcolkab
