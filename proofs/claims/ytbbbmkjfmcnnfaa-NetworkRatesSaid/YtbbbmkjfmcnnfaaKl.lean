/-
  A text of the proofs of this seat: lemmas that the statements' proofs use; it states nothing of the program by itself beyond the contracts that its theorems bear. Conditions: those that stand in each theorem. Its short name: Kl.
-/
import Derived.Test.YtbbbmkjfmcnnfaaKn
import Derived.Test.YtbbbmkjfmcnnfaaNd
import Derived.Test.YtbbbmkjfmcnnfaaPl
set_option linter.unusedVariables false
set_option linter.unusedSimpArgs false
namespace Go.Proofs.Ytbbbmkjfmcnnfaa
open Go.Sx Go.Cv
set_option maxRecDepth 4000
set_option maxHeartbeats 2000000
theorem mulB {a b A B : Int} (ha : 0 ≤ a) (ha2 : a ≤ A) (hb : 0 ≤ b) (hb2 : b ≤ B) : 0 ≤ a * b ∧ a * b ≤ A * B :=
  ⟨Int.mul_nonneg ha hb, Int.mul_le_mul ha2 hb2 hb (by omega)⟩
def LongP (vs : List Int) (p : Nat) (q : Int) (more times : Nat) (x : List Int × Nat × Int) : Prop :=
  if FinC (vs, p, q) then x = (vals (val vs p q) (vs.length + (more + (times - 1) * p)), p * times, q * times) else x = (vs, p, q)
theorem Longer_ok (vs : List Int) (p : Nat) (q : Int) (more times : Nat) (h : VF vs p q) (hm : more ≤ 100) (ht : 1 ≤ times) (ht2 : times ≤ 100) :
    Ctr Try.prog 34 [crv vs p q, i64 more, i64 times] [] (fun r o => ∃ x : List Int × Nat × Int, LongP vs p q more times x ∧ o = [] ∧ r = crv x.1 x.2.1 x.2.2) := by
  have n1 := h.n1
  have n2 := h.n2
  have p1 := h.p1
  have p2 := h.p2
  have pn := h.pn
  have q0 := h.q0
  have q1 := h.q1
  refine Ctr.impE ?_
  refine fn_intro (E := env 0) tys_ok rfl rfl rfl Try.func34 (by kernel_rfl) rfl (by kernel_rfl) ?_
  repeat' (conv => whnf
           first | (refine CondOb.mk (fun _ => ?_) (fun _ => ?_) <;> first | (exfalso; omega) | skip) | refine ArOb.fits (by first | omega | (simp only [ints_len] at *; omega)) ?_ | refine LitOb.vec ?_ | refine MakeOb.vec ?_ | refine AllocOb.box ?_ | refine AggOb.mk (by decide +kernel) ?_ | refine ArU.fits (by first | omega | (simp only [ints_len] at *; omega)) ?_ | refine ArB.fits (by first | omega | (simp only [ints_len] at *; omega)) ?_ | refine CutOb.split ?_ | refine And.intro (And.intro (by (simp only [List.length_append, List.length_take, List.length_drop, List.length_cons, List.length_nil, ints_len, List.length_replicate, lnl, fll, stl]; omega)) (by (simp only [List.length_append, List.length_take, List.length_drop, List.length_cons, List.length_nil, ints_len, List.length_replicate, lnl, fll, stl]; omega))) ?_ | refine ⟨_, _, rfl, ints_get (by first | omega | (simp only [ints_len] at *; omega)), ?_⟩ | refine ⟨_, _, (Int.toNat_of_nonneg (by first | omega | (simp only [ints_len] at *; omega))).symm, ints_get (by first | omega | (simp only [ints_len] at *; omega)), ?_⟩ | refine DrawOb.mk [] (.qs [0, 1, 2, 3, 4, 5, 6, 7, 8, 9, 10, 11, 12, 13, 14] (.l 15 [1] (.l 16 [] (.qs [17] (.l 18 [] .nil .no)) .no) .no)) (by decide +kernel) ?_ | refine DrawOb.mk [] (.qs [0, 1, 2, 3, 4, 5, 6, 7, 8] (.l 9 [5] (.qs [10] (.l 11 [] .nil .no)) .no)) (by decide +kernel) ?_ | fail)
  all_goals try (conv => whnf)
  refine DrawOb.cut [] (.qs [1, 2, 4, 5, 6, 7] (.l 0 [7, 5, 2] (.l 3 [7, 5] (.qs [8] (.l 9 [7, 5] (.l 10 [] .nil .no) .no)) (.l 9 [7, 5, 2] (.l 3 [7, 5] (.qs [8] (.l 10 [] .nil .no)) .no) .no)) (.l 9 [7, 5, 2] (.l 0 [7, 5, 2] (.l 3 [7, 5] (.qs [8] (.l 10 [] .nil .no)) .no) .no) .no))) (Y := Unit) (st := fun _ => ⟨[(7, .ptr 0 0), (6, .ptr 3 0), (3, .ptr 1 0), (1, i64 more), (2, i64 times)], [.box [.vec 2, i64 p, i64 q], .box [.psl 1 (ints vs), i64 p, i64 q], .vec 1 (ints vs), .box [.nil, i64 0, i64 0]]⟩) (inv := fun _ => True) (by decide +kernel) ?_ ?_
  · repeat' (conv => whnf
             first | (refine CondOb.mk (fun _ => ?_) (fun _ => ?_) <;> first | (exfalso; omega) | skip) | refine ArOb.fits (by first | omega | (simp only [ints_len] at *; omega)) ?_ | refine LitOb.vec ?_ | refine MakeOb.vec ?_ | refine AllocOb.box ?_ | refine AggOb.mk (by decide +kernel) ?_ | refine ArU.fits (by first | omega | (simp only [ints_len] at *; omega)) ?_ | refine ArB.fits (by first | omega | (simp only [ints_len] at *; omega)) ?_ | refine CutOb.split ?_ | refine Gh.mk [] ?_ | refine And.intro (And.intro (by (simp only [List.length_append, List.length_take, List.length_drop, List.length_cons, List.length_nil, ints_len, List.length_replicate, lnl, fll, stl]; omega)) (by (simp only [List.length_append, List.length_take, List.length_drop, List.length_cons, List.length_nil, ints_len, List.length_replicate, lnl, fll, stl]; omega))) ?_ | refine ⟨_, _, rfl, ints_get (by first | omega | (simp only [ints_len] at *; omega)), ?_⟩ | refine ⟨_, _, (Int.toNat_of_nonneg (by first | omega | (simp only [ints_len] at *; omega))).symm, ints_get (by first | omega | (simp only [ints_len] at *; omega)), ?_⟩ | refine DrawOb.mk [] (.qs [0, 1, 2, 3, 4, 5, 6, 7, 8, 9, 10, 11, 12, 13, 14] (.l 15 [1] (.l 16 [] (.qs [17] (.l 18 [] .nil .no)) .no) .no)) (by decide +kernel) ?_ | refine DrawOb.mk [] (.qs [0, 1, 2, 3, 4, 5, 6, 7, 8] (.l 9 [5] (.qs [10] (.l 11 [] .nil .no)) .no)) (by decide +kernel) ?_ | refine And.intro ?_ ?_ | fail)
    all_goals try (conv => whnf)
    · exact ⟨(), [4, 0, 3, 1], trivial, by (refine Le.mk (by kernel_rfl) ?_ ?_ <;> repeat' (first | exact True.intro | refine And.intro ?_ ?_ | exact Imp.refl _ | exact Imp.any _ | exact Imp.num (by first | omega | simp only [ints_len]) | exact rfl | exact Imp.bl (by simp)))⟩
    · exact ⟨(), [3, 0, 4, 1], trivial, by (refine Le.mk (by kernel_rfl) ?_ ?_ <;> repeat' (first | exact True.intro | refine And.intro ?_ ?_ | exact Imp.refl _ | exact Imp.any _ | exact Imp.num (by first | omega | simp only [ints_len]) | exact rfl | exact Imp.bl (by simp)))⟩
    · exact ⟨(), [2, 0, 4, 1], trivial, by (refine Le.mk (by kernel_rfl) ?_ ?_ <;> repeat' (first | exact True.intro | refine And.intro ?_ ?_ | exact Imp.refl _ | exact Imp.any _ | exact Imp.num (by first | omega | simp only [ints_len]) | exact rfl | exact Imp.bl (by simp)))⟩
  rintro _ _
  have hil := ints_len vs
  have hlast := h.v (vs.length - 1) (by omega)
  repeat' (conv => whnf
           first | (refine CondOb.mk (fun _ => ?_) (fun _ => ?_) <;> first | (exfalso; omega) | skip) | refine ArOb.fits (by first | omega | (simp only [ints_len] at *; omega)) ?_ | refine LitOb.vec ?_ | refine MakeOb.vec ?_ | refine AllocOb.box ?_ | refine AggOb.mk (by decide +kernel) ?_ | refine ArU.fits (by first | omega | (simp only [ints_len] at *; omega)) ?_ | refine ArB.fits (by first | omega | (simp only [ints_len] at *; omega)) ?_ | refine CutOb.split ?_ | refine And.intro (And.intro (by (simp only [List.length_append, List.length_take, List.length_drop, List.length_cons, List.length_nil, ints_len, List.length_replicate, lnl, fll, stl]; omega)) (by (simp only [List.length_append, List.length_take, List.length_drop, List.length_cons, List.length_nil, ints_len, List.length_replicate, lnl, fll, stl]; omega))) ?_ | refine ⟨_, _, rfl, ints_get (by first | omega | (simp only [ints_len] at *; omega)), ?_⟩ | refine ⟨_, _, (Int.toNat_of_nonneg (by first | omega | (simp only [ints_len] at *; omega))).symm, ints_get (by first | omega | (simp only [ints_len] at *; omega)), ?_⟩ | refine DrawOb.mk [] (.qs [0, 1, 2, 3, 4, 5, 6, 7, 8, 9, 10, 11, 12, 13, 14] (.l 15 [1] (.l 16 [] (.qs [17] (.l 18 [] .nil .no)) .no) .no)) (by decide +kernel) ?_ | refine DrawOb.mk [] (.qs [0, 1, 2, 3, 4, 5, 6, 7, 8] (.l 9 [5] (.qs [10] (.l 11 [] .nil .no)) .no)) (by decide +kernel) ?_ | fail)
  all_goals try (conv => whnf)
  · refine .mk [] ?_
    have hi : vs.getD (vs.length - 1) 0 = INF := by
      have h1 : vs.getD ((vs.length : Int) - 1).toNat 0 = 4611686018427387904 := by simpa only [ints_len] using (by assumption : vs.getD (((ints vs).length : Int) - 1).toNat 0 = 4611686018427387904)
      rw [show ((vs.length : Int) - 1).toNat = vs.length - 1 by omega] at h1
      exact h1
    exact ⟨(vs, p, q), by unfold LongP; rw [if_neg (fun hf => hf hi)], rfl, Imp.refl _⟩
  have hf : FinC (vs, p, q) := by
    have h1 : ¬vs.getD ((vs.length : Int) - 1).toNat 0 = 4611686018427387904 := by
      have := (by assumption : ¬vs.getD (((ints vs).length : Int) - 1).toNat 0 = 4611686018427387904)
      simpa only [ints_len] using this
    rw [show ((vs.length : Int) - 1).toNat = vs.length - 1 by omega] at h1
    exact h1
  have hmul := mulB (a := (times : Int) - 1) (b := (p : Int)) (A := 100) (B := 120) (by omega) (by omega) (by omega) (by omega)
  have hper := h.per
  have hv : ∀ t, t ≤ 1048576 → 0 ≤ val vs p q t ∧ val vs p q t ≤ 2000000000000000 := fun t ht => ⟨h.nonneg t, cv_small (a := (vs, p, q)) h ht (fun hi => hf.not h t hi)⟩
  have hK : ((times : Int) - 1) * p = (((times - 1) * p : Nat) : Int) := by push_cast; rw [Int.ofNat_sub ht]; rfl
  rw [hK] at hmul
  have hLP : LongP vs p q more times (vals (val vs p q) (vs.length + (more + (times - 1) * p)), p * times, q * times) := by unfold LongP; rw [if_pos hf]
  refine ArOb.fits (by rw [hK]; omega) ?_
  rw [hK]
  generalize (times - 1) * p = m at *
  repeat' (conv => whnf
           first | (refine CondOb.mk (fun _ => ?_) (fun _ => ?_) <;> first | (exfalso; omega) | skip) | refine ArOb.fits (by first | omega | (simp only [ints_len] at *; omega)) ?_ | refine LitOb.vec ?_ | refine MakeOb.vec ?_ | refine AllocOb.box ?_ | refine AggOb.mk (by decide +kernel) ?_ | refine ArU.fits (by first | omega | (simp only [ints_len] at *; omega)) ?_ | refine ArB.fits (by first | omega | (simp only [ints_len] at *; omega)) ?_ | refine CutOb.split ?_ | refine Gh.mk [] ?_ | refine And.intro (And.intro (by (simp only [List.length_append, List.length_take, List.length_drop, List.length_cons, List.length_nil, ints_len, List.length_replicate, lnl, fll, stl]; omega)) (by (simp only [List.length_append, List.length_take, List.length_drop, List.length_cons, List.length_nil, ints_len, List.length_replicate, lnl, fll, stl]; omega))) ?_ | refine ⟨_, _, rfl, ints_get (by first | omega | (simp only [ints_len] at *; omega)), ?_⟩ | refine ⟨_, _, (Int.toNat_of_nonneg (by first | omega | (simp only [ints_len] at *; omega))).symm, ints_get (by first | omega | (simp only [ints_len] at *; omega)), ?_⟩ | refine DrawOb.mk [] (.qs [0, 1, 2, 3, 4, 5, 6, 7, 8, 9, 10, 11, 12, 13, 14] (.l 15 [1] (.l 16 [] (.qs [17] (.l 18 [] .nil .no)) .no) .no)) (by decide +kernel) ?_ | refine DrawOb.mk [] (.qs [0, 1, 2, 3, 4, 5, 6, 7, 8] (.l 9 [5] (.qs [10] (.l 11 [] .nil .no)) .no)) (by decide +kernel) ?_ | fail)
  all_goals try (conv => whnf)
  have hvs : vals (val vs p q) vs.length = vs := by
    apply List.ext_getElem
    · rw [vals_len]
    · intro i h1 h2
      simp only [vals, List.getElem_map, List.getElem_range]
      rw [val_lt h2, List.getD_eq_getElem?_getD, List.getElem?_eq_getElem h2]; rfl
  refine LoopOb.mk (Y := Nat) (st := fun j => ⟨[(8, i64 ((more + m - j : Nat) : Int)), (7, .ptr 0 0), (6, .ptr 3 0), (3, .ptr 1 0), (2, i64 times)], [.box [.vec 2, i64 p, i64 q], .box [.psl 1 (ints vs), i64 p, i64 q], .vec 1 (ints (vals (val vs p q) (vs.length + j))), .box [.nil, i64 0, i64 0]]⟩)
    (inv := fun j => j ≤ more + m) (fun j => more + m - j) 0 [0, 1, 2, 3] (by omega)
    (by refine Le.mk (by kernel_rfl) ?_ ?_ <;> repeat' (first | exact True.intro | refine And.intro ?_ ?_ | exact Imp.refl _ | exact Imp.num (by omega) | exact rfl | (simp only [Nat.add_zero, hvs]; exact rfl) | (rw [Nat.add_zero, hvs]))) ?_
  intro j hj
  have hl : (vals (val vs p q) (vs.length + j)).length = vs.length + j := vals_len _ _
  have hv1 := hv (vs.length + j - p) (by omega)
  have e1 := hper (vs.length + j - p) (by omega)
  rw [show vs.length + j - p + p = vs.length + j by omega] at e1
  repeat' (conv => whnf
           first | (refine CondOb.mk (fun _ => ?_) (fun _ => ?_) <;> first | (exfalso; omega) | skip) | refine ArOb.fits (by first | omega | (simp only [ints_len] at *; omega)) ?_ | refine LitOb.vec ?_ | refine MakeOb.vec ?_ | refine AllocOb.box ?_ | refine AggOb.mk (by decide +kernel) ?_ | refine ArU.fits (by first | omega | (simp only [ints_len] at *; omega)) ?_ | refine ArB.fits (by first | omega | (simp only [ints_len] at *; omega)) ?_ | refine CutOb.split ?_ | refine And.intro (And.intro (by (simp only [List.length_append, List.length_take, List.length_drop, List.length_cons, List.length_nil, ints_len, List.length_replicate, lnl, fll, stl]; omega)) (by (simp only [List.length_append, List.length_take, List.length_drop, List.length_cons, List.length_nil, ints_len, List.length_replicate, lnl, fll, stl]; omega))) ?_ | refine ⟨_, _, rfl, ints_get (by first | omega | (simp only [ints_len] at *; omega)), ?_⟩ | refine ⟨_, _, (Int.toNat_of_nonneg (by first | omega | (simp only [ints_len] at *; omega))).symm, ints_get (by first | omega | (simp only [ints_len] at *; omega)), ?_⟩ | refine DrawOb.mk [] (.qs [0, 1, 2, 3, 4, 5, 6, 7, 8, 9, 10, 11, 12, 13, 14] (.l 15 [1] (.l 16 [] (.qs [17] (.l 18 [] .nil .no)) .no) .no)) (by decide +kernel) ?_ | refine DrawOb.mk [] (.qs [0, 1, 2, 3, 4, 5, 6, 7, 8] (.l 9 [5] (.qs [10] (.l 11 [] .nil .no)) .no)) (by decide +kernel) ?_ | fail)
  all_goals try (conv => whnf)
  · refine ⟨vs.length + j - p, by rw [ints_len, vals_len]; omega, by rw [ints_len, vals_len]; omega, ?_⟩
    repeat' (conv => whnf
             first | (refine CondOb.mk (fun _ => ?_) (fun _ => ?_) <;> first | (exfalso; omega) | skip) | refine ArOb.fits (by first | omega | (simp only [ints_len] at *; omega)) ?_ | refine LitOb.vec ?_ | refine MakeOb.vec ?_ | refine AllocOb.box ?_ | refine AggOb.mk (by decide +kernel) ?_ | refine ArU.fits (by first | omega | (simp only [ints_len] at *; omega)) ?_ | refine ArB.fits (by first | omega | (simp only [ints_len] at *; omega)) ?_ | refine CutOb.split ?_ | refine And.intro (And.intro (by (simp only [List.length_append, List.length_take, List.length_drop, List.length_cons, List.length_nil, ints_len, List.length_replicate, lnl, fll, stl]; omega)) (by (simp only [List.length_append, List.length_take, List.length_drop, List.length_cons, List.length_nil, ints_len, List.length_replicate, lnl, fll, stl]; omega))) ?_ | refine ⟨_, _, rfl, ints_get (by first | omega | (simp only [ints_len] at *; omega)), ?_⟩ | refine ⟨_, _, (Int.toNat_of_nonneg (by first | omega | (simp only [ints_len] at *; omega))).symm, ints_get (by first | omega | (simp only [ints_len] at *; omega)), ?_⟩ | refine DrawOb.mk [] (.qs [0, 1, 2, 3, 4, 5, 6, 7, 8, 9, 10, 11, 12, 13, 14] (.l 15 [1] (.l 16 [] (.qs [17] (.l 18 [] .nil .no)) .no) .no)) (by decide +kernel) ?_ | refine DrawOb.mk [] (.qs [0, 1, 2, 3, 4, 5, 6, 7, 8] (.l 9 [5] (.qs [10] (.l 11 [] .nil .no)) .no)) (by decide +kernel) ?_ | fail)
    all_goals try (conv => whnf)
    refine ⟨_, ints_get (by rw [vals_len]; omega), ?_⟩
    rw [vals_get (show vs.length + j - p < vs.length + j by omega)]
    repeat' (conv => whnf
             first | (refine CondOb.mk (fun _ => ?_) (fun _ => ?_) <;> first | (exfalso; omega) | skip) | refine ArOb.fits (by first | omega | (simp only [ints_len] at *; omega)) ?_ | refine LitOb.vec ?_ | refine MakeOb.vec ?_ | refine AllocOb.box ?_ | refine AggOb.mk (by decide +kernel) ?_ | refine ArU.fits (by first | omega | (simp only [ints_len] at *; omega)) ?_ | refine ArB.fits (by first | omega | (simp only [ints_len] at *; omega)) ?_ | refine CutOb.split ?_ | refine And.intro (And.intro (by (simp only [List.length_append, List.length_take, List.length_drop, List.length_cons, List.length_nil, ints_len, List.length_replicate, lnl, fll, stl]; omega)) (by (simp only [List.length_append, List.length_take, List.length_drop, List.length_cons, List.length_nil, ints_len, List.length_replicate, lnl, fll, stl]; omega))) ?_ | refine ⟨_, _, rfl, ints_get (by first | omega | (simp only [ints_len] at *; omega)), ?_⟩ | refine ⟨_, _, (Int.toNat_of_nonneg (by first | omega | (simp only [ints_len] at *; omega))).symm, ints_get (by first | omega | (simp only [ints_len] at *; omega)), ?_⟩ | refine DrawOb.mk [] (.qs [0, 1, 2, 3, 4, 5, 6, 7, 8, 9, 10, 11, 12, 13, 14] (.l 15 [1] (.l 16 [] (.qs [17] (.l 18 [] .nil .no)) .no) .no)) (by decide +kernel) ?_ | refine DrawOb.mk [] (.qs [0, 1, 2, 3, 4, 5, 6, 7, 8] (.l 9 [5] (.qs [10] (.l 11 [] .nil .no)) .no)) (by decide +kernel) ?_ | fail)
    all_goals try (conv => whnf)
    rw [← e1]
    refine .mk [] ?_
    refine ⟨j + 1, [0, 1, 5, 3], by omega, by omega, ?_⟩
    refine Le.mk (by kernel_rfl) ?_ ?_ <;> repeat' (first | exact True.intro | refine And.intro ?_ ?_ | exact Imp.refl _ | exact Imp.num (by omega) | exact rfl | simp [ints, ← Nat.add_assoc, vals_succ])
  · have hje : j = more + m := by omega
    subst hje
    have hpt := mulB (a := (p : Int)) (b := (times : Int)) (A := 120) (B := 100) (by omega) (by omega) (by omega) (by omega)
    have hqt := mulB (a := q) (b := (times : Int)) (A := 1073741824) (B := 100) (by omega) (by omega) (by omega) (by omega)
    refine ArOb.fits (by omega) ?_
    repeat' (conv => whnf
             first | (refine CondOb.mk (fun _ => ?_) (fun _ => ?_) <;> first | (exfalso; omega) | skip) | refine ArOb.fits (by first | omega | (simp only [ints_len] at *; omega)) ?_ | refine LitOb.vec ?_ | refine MakeOb.vec ?_ | refine AllocOb.box ?_ | refine AggOb.mk (by decide +kernel) ?_ | refine ArU.fits (by first | omega | (simp only [ints_len] at *; omega)) ?_ | refine ArB.fits (by first | omega | (simp only [ints_len] at *; omega)) ?_ | refine CutOb.split ?_ | refine And.intro (And.intro (by (simp only [List.length_append, List.length_take, List.length_drop, List.length_cons, List.length_nil, ints_len, List.length_replicate, lnl, fll, stl]; omega)) (by (simp only [List.length_append, List.length_take, List.length_drop, List.length_cons, List.length_nil, ints_len, List.length_replicate, lnl, fll, stl]; omega))) ?_ | refine ⟨_, _, rfl, ints_get (by first | omega | (simp only [ints_len] at *; omega)), ?_⟩ | refine ⟨_, _, (Int.toNat_of_nonneg (by first | omega | (simp only [ints_len] at *; omega))).symm, ints_get (by first | omega | (simp only [ints_len] at *; omega)), ?_⟩ | refine DrawOb.mk [] (.qs [0, 1, 2, 3, 4, 5, 6, 7, 8, 9, 10, 11, 12, 13, 14] (.l 15 [1] (.l 16 [] (.qs [17] (.l 18 [] .nil .no)) .no) .no)) (by decide +kernel) ?_ | refine DrawOb.mk [] (.qs [0, 1, 2, 3, 4, 5, 6, 7, 8] (.l 9 [5] (.qs [10] (.l 11 [] .nil .no)) .no)) (by decide +kernel) ?_ | fail)
    all_goals try (conv => whnf)
    refine .mk [.fz 2] ?_
    exact ⟨_, hLP, rfl, Imp.agg ⟨Imp.refl _, Imp.num (by push_cast; rfl), Imp.refl _, trivial⟩⟩
theorem longP_vf {vs : List Int} {p : Nat} {q : Int} {more times : Nat} (h : VF vs p q) (hq : q ≤ 1000) (hv : ∀ j < vs.length, vs.getD j 0 = INF ∨ vs.getD j 0 ≤ 1000000) (ht : 1 ≤ times) (hpt : p * times ≤ 120) (hn : vs.length + (more + (times - 1) * p) ≤ 400)
    {x : List Int × Nat × Int} (hx : LongP vs p q more times x) : VC x ∧ (∀ t, cv x t = val vs p q t) ∧ (FinC x ↔ FinC (vs, p, q)) ∧ x.1.length ≤ vs.length + (more + (times - 1) * p) ∧ x.2.1 ≤ p * times := by
  have p1 := h.p1
  have pn := h.pn
  have n1 := h.n1
  unfold LongP at hx
  by_cases hf : FinC (vs, p, q)
  · rw [if_pos hf] at hx
    subst hx
    have hmo := h.mono'
    have hper := h.per.mul times
    generalize hN : vs.length + (more + (times - 1) * p) = N at *
    have htp : times * p = (times - 1) * p + p := by
      conv => lhs; rw [show times = times - 1 + 1 by omega, Nat.add_mul, Nat.one_mul]
    have hpt' : p * times = times * p := Nat.mul_comm _ _
    have hp1 : 1 * 1 ≤ p * times := Nat.mul_le_mul p1 ht
    have hpe : p * times = (times - 1) * p + p := by rw [hpt', htp]
    have hNp : p * times ≤ N := by omega
    have hs : vs.length - p ≤ N - p * times := by omega
    have hs2 : N - p * times + times * p = N := by rw [← hpt']; omega
    have hq0 : 0 ≤ (times : Int) * q := Int.mul_nonneg (by omega) h.q0
    have hq1 : (times : Int) * q ≤ 120 * 1000 := Int.mul_le_mul (by
      have : 1 * times ≤ p * times := Nat.mul_le_mul_right _ p1
      omega) hq h.q0 (by omega)
    have hvb : ∀ t, t < N → val vs p q t ≤ 1073741824 := by
      intro t ht
      have h1 := h.val_le hf t
      by_cases hlt : t < vs.length
      · rw [val_lt hlt]
        have := h.v t hlt
        have := h.noinf hf t hlt
        simp only [INF] at *; omega
      · -- below the first values and some gains
        have key : ∀ t, val vs p q t ≤ 1000000 + t * q := by
          intro t
          induction t using Nat.strongRecOn with
          | _ t ih =>
            by_cases hlt : t < vs.length
            · rw [val_lt hlt]
              have h2 := hv t hlt
              have h3 := h.noinf hf t hlt
              have : 0 ≤ (t : Int) * q := Int.mul_nonneg (by omega) h.q0
              simp only [INF] at *; omega
            · have e := h.per (t - p) (by omega)
              rw [show t - p + p = t by omega] at e
              have h2 := ih (t - p) (by omega)
              have h3 : ((t - p : Nat) : Int) * q + q ≤ t * q := by
                have h4 : ((t - p : Nat) + 1 : Int) * q ≤ (t : Int) * q := Int.mul_le_mul_of_nonneg_right (by omega) h.q0
                rw [Int.add_mul, Int.one_mul] at h4; exact h4
              omega
        have h2 := key t
        have h3 : (t : Int) * q ≤ 400 * 1000 := Int.mul_le_mul (by omega) hq h.q0 (by omega)
        omega
    have hlen : (vals (val vs p q) N).length = N := vals_len _ _
    have hfin : FinC (vals (val vs p q) N, p * times, q * (times : Int)) := by
      unfold FinC
      simp only
      rw [hlen, vals_get (by omega)]
      have := hvb (N - 1) (by omega)
      simp only [INF]; omega
    have hVF : VF (vals (val vs p q) N) (p * times) (q * (times : Int)) := by
      refine ⟨by omega, by omega, ?_, hpt, by omega, by rw [Int.mul_comm]; exact hq0, by rw [Int.mul_comm]; omega, ?_, ?_, fun e => absurd e hfin, ?_⟩
      · have : 1 * 1 ≤ p * times := Nat.mul_le_mul p1 ht
        omega
      · intro j hj
        rw [hlen] at hj
        rw [vals_get hj]
        exact .inr ⟨h.nonneg j, hvb j hj⟩
      · intro j k hjk hk
        rw [hlen] at hk
        rw [vals_get (by omega), vals_get hk]; exact hmo.le hjk
      · intro _
        rw [hlen, vals_get (show N - p * times < N by omega), vals_get (show N - 1 < N by omega)]
        have e := hper (N - p * times) hs
        rw [hs2] at e
        have := hmo.le (show N - 1 ≤ N by omega)
        rw [Int.mul_comm q]
        omega
    refine ⟨hVF, fun t => ?_, ⟨fun _ => hf, fun _ => hfin⟩, by simp only; omega, Nat.le_refl _⟩
    refine val_of_per (by omega) (by rw [hlen]; exact hNp) (fun t ht => ?_) (fun k hk => hVF.noinf hfin k hk) ?_ t
    · rw [hlen] at ht; rw [vals_get ht]
    · rw [hlen, Int.mul_comm q]
      have hper2 := hper.mono hs
      rw [← hpt'] at hper2; exact hper2
  · rw [if_neg hf] at hx
    subst hx
    refine ⟨h, fun _ => rfl, Iff.rfl, by simp only; omega, ?_⟩
    simp only
    have : p * 1 ≤ p * times := Nat.mul_le_mul_left _ ht
    omega
theorem kAt_idx {vs : List Int} {p t : Nat} (hp : 1 ≤ p) (hn : p ≤ vs.length) (ht : vs.length ≤ t) : ((t - vs.length) / p + 1) * p ≤ t ∧ t - ((t - vs.length) / p + 1) * p < vs.length ∧ vs.length - p ≤ t - ((t - vs.length) / p + 1) * p ∧ (t - vs.length) / p + 1 ≤ t + 1 := by
  have h1 := Nat.div_add_mod (t - vs.length) p
  have h2 := Nat.mod_lt (t - vs.length) hp
  have h3 := Nat.div_le_self (t - vs.length) p
  rw [Nat.add_mul, Nat.one_mul, Nat.mul_comm]
  omega
theorem kAt_ok (vs : List Int) (p : Nat) (q : Int) (h : VF vs p q) (t : Nat) (ht : t ≤ 1048576) : Ctr Try.prog 35 [crv vs p q, i64 t] [] (fun r o => o = [] ∧ r = i64 (val vs p q t)) := by
  refine fn_intro (E := env 0) tys_ok rfl rfl rfl Try.func35 (by kernel_rfl) rfl (by kernel_rfl) ?_
  have n1 := h.n1
  have n2 := h.n2
  have p1 := h.p1
  have p2 := h.p2
  have pn := h.pn
  have q0 := h.q0
  have q1 := h.q1
  have hil := ints_len vs
  repeat' (conv => whnf
           first | (refine CondOb.mk (fun _ => ?_) (fun _ => ?_) <;> first | (exfalso; omega) | skip) | refine ArOb.fits (by first | omega | (simp only [ints_len] at *; omega)) ?_ | refine LitOb.vec ?_ | refine MakeOb.vec ?_ | refine AllocOb.box ?_ | refine AggOb.mk (by decide +kernel) ?_ | refine ArU.fits (by first | omega | (simp only [ints_len] at *; omega)) ?_ | refine ArB.fits (by first | omega | (simp only [ints_len] at *; omega)) ?_ | refine CutOb.split ?_ | refine Gh.mk [] ?_ | refine And.intro (And.intro (by (simp only [List.length_append, List.length_take, List.length_drop, List.length_cons, List.length_nil, ints_len, List.length_replicate, lnl, fll, stl]; omega)) (by (simp only [List.length_append, List.length_take, List.length_drop, List.length_cons, List.length_nil, ints_len, List.length_replicate, lnl, fll, stl]; omega))) ?_ | refine ⟨_, _, rfl, ints_get (by first | omega | (simp only [ints_len] at *; omega)), ?_⟩ | refine ⟨_, _, (Int.toNat_of_nonneg (by first | omega | (simp only [ints_len] at *; omega))).symm, ints_get (by first | omega | (simp only [ints_len] at *; omega)), ?_⟩ | refine DrawOb.mk [] (.qs [0, 1, 2, 3, 4, 5, 6, 7, 8, 9, 10, 11, 12, 13, 14, 15] .nil) (by decide +kernel) ?_ | fail)
  all_goals try (conv => whnf)
  · exact ⟨rfl, by rw [val_lt (by omega)]; rfl⟩
  · have hlast := h.v (vs.length - 1) (by omega)
    have hI : vs.getD (vs.length - 1) 0 = INF := by
      have hx := (by assumption : 4611686018427387904 ≤ vs.getD (((ints vs).length : Int) - 1).toNat 0)
      rw [hil, show ((vs.length : Int) - 1).toNat = vs.length - 1 by omega] at hx
      simp only [INF] at hlast ⊢; omega
    have := h.val_inf hI hI t (by omega)
    exact ⟨rfl, by rw [this]; rfl⟩
  have htn : vs.length ≤ t := by omega
  obtain ⟨i1, i2, i3, i4⟩ := kAt_idx p1 pn htn
  have hd : ((t : Int) - ((ints vs).length : Int) + p).tdiv p = (((t - vs.length) / p + 1 : Nat) : Int) := by
    rw [Int.tdiv_eq_ediv_of_nonneg (by omega), show (t : Int) - ((ints vs).length : Int) + p = ((t - vs.length : Nat) : Int) + 1 * p by rw [hil]; omega, Int.add_mul_ediv_right _ _ (by omega)]
    push_cast; rfl
  have hlast := h.v (vs.length - 1) (by omega)
  have hf : vs.getD (vs.length - 1) 0 ≠ INF := by
    have hx := (by assumption : ¬4611686018427387904 ≤ vs.getD (((ints vs).length : Int) - 1).toNat 0)
    rw [hil, show ((vs.length : Int) - 1).toNat = vs.length - 1 by omega] at hx
    simp only [INF]; omega
  have hne := h.noinf hf _ i2
  have hv : val vs p q t = vs.getD (t - ((t - vs.length) / p + 1) * p) 0 + (((t - vs.length) / p + 1 : Nat) : Int) * q := by
    unfold val
    rw [if_neg (by omega), if_neg (h.noinf hf _ i2)]
  have hvb := h.v (t - ((t - vs.length) / p + 1) * p) i2
  rw [hv]
  refine ⟨by omega, ?_⟩
  rw [hd]
  generalize (t - vs.length) / p + 1 = k at *
  have hkp : ((k * p : Nat) : Int) = (k : Int) * p := by push_cast; rfl
  generalize k * p = m at *
  have b := mulB (a := (k : Int)) (b := q) (A := 1048577) (B := 1073741824) (by omega) (by omega) (by omega) (by omega)
  repeat' (conv => whnf
           first | (refine CondOb.mk (fun _ => ?_) (fun _ => ?_) <;> first | (exfalso; omega) | skip) | refine ArOb.fits (by first | omega | (simp only [ints_len] at *; omega)) ?_ | refine LitOb.vec ?_ | refine MakeOb.vec ?_ | refine AllocOb.box ?_ | refine AggOb.mk (by decide +kernel) ?_ | refine ArU.fits (by first | omega | (simp only [ints_len] at *; omega)) ?_ | refine ArB.fits (by first | omega | (simp only [ints_len] at *; omega)) ?_ | refine CutOb.split ?_ | refine Gh.mk [] ?_ | refine And.intro (And.intro (by (simp only [List.length_append, List.length_take, List.length_drop, List.length_cons, List.length_nil, ints_len, List.length_replicate, lnl, fll, stl]; omega)) (by (simp only [List.length_append, List.length_take, List.length_drop, List.length_cons, List.length_nil, ints_len, List.length_replicate, lnl, fll, stl]; omega))) ?_ | refine ⟨_, _, rfl, ints_get (by first | omega | (simp only [ints_len] at *; omega)), ?_⟩ | refine ⟨_, _, (Int.toNat_of_nonneg (by first | omega | (simp only [ints_len] at *; omega))).symm, ints_get (by first | omega | (simp only [ints_len] at *; omega)), ?_⟩ | refine DrawOb.mk [] (.qs [0, 1, 2, 3, 4, 5, 6, 7, 8, 9, 10, 11, 12, 13, 14, 15] .nil) (by decide +kernel) ?_ | refine ArOb.fits (by rw [← hkp]; omega) ?_ | fail)
  all_goals try (conv => whnf)
  all_goals rw [show ((t : Int) - (k : Int) * p).toNat = t - m by rw [← hkp]; omega]
  all_goals refine ArOb.fits (by simp only [INF] at hvb hne; omega) ?_
  repeat' (conv => whnf
           first | (refine CondOb.mk (fun _ => ?_) (fun _ => ?_) <;> first | (exfalso; omega) | skip) | refine ArOb.fits (by first | omega | (simp only [ints_len] at *; omega)) ?_ | refine LitOb.vec ?_ | refine MakeOb.vec ?_ | refine AllocOb.box ?_ | refine AggOb.mk (by decide +kernel) ?_ | refine ArU.fits (by first | omega | (simp only [ints_len] at *; omega)) ?_ | refine ArB.fits (by first | omega | (simp only [ints_len] at *; omega)) ?_ | refine CutOb.split ?_ | refine Gh.mk [] ?_ | refine And.intro (And.intro (by (simp only [List.length_append, List.length_take, List.length_drop, List.length_cons, List.length_nil, ints_len, List.length_replicate, lnl, fll, stl]; omega)) (by (simp only [List.length_append, List.length_take, List.length_drop, List.length_cons, List.length_nil, ints_len, List.length_replicate, lnl, fll, stl]; omega))) ?_ | refine ⟨_, _, rfl, ints_get (by first | omega | (simp only [ints_len] at *; omega)), ?_⟩ | refine ⟨_, _, (Int.toNat_of_nonneg (by first | omega | (simp only [ints_len] at *; omega))).symm, ints_get (by first | omega | (simp only [ints_len] at *; omega)), ?_⟩ | refine DrawOb.mk [] (.qs [0, 1, 2, 3, 4, 5, 6, 7, 8, 9, 10, 11, 12, 13, 14, 15] .nil) (by decide +kernel) ?_ | fail)
  all_goals try (conv => whnf)
  all_goals exact ⟨rfl, rfl⟩
end Go.Proofs.Ytbbbmkjfmcnnfaa
