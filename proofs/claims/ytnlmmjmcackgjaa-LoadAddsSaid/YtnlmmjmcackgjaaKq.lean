/-
  A text of the proofs of this seat: lemmas that the statements' proofs use; it states nothing of the program by itself beyond the contracts that its theorems bear. Conditions: those that stand in each theorem. Its short name: Kq.
-/
import Derived.Test.YtnlmmjmcackgjaaKn
import Derived.Test.YtnlmmjmcackgjaaNd
import Derived.Test.YtnlmmjmcackgjaaPl
set_option linter.unusedVariables false
set_option linter.unusedSimpArgs false
namespace Go.Proofs.Ytnlmmjmcackgjaa
open Go.Sx Go.Cv
set_option maxRecDepth 4000
set_option maxHeartbeats 2000000
theorem mulB {a b A B : Int} (ha : 0 ≤ a) (ha2 : a ≤ A) (hb : 0 ≤ b) (hb2 : b ≤ B) : 0 ≤ a * b ∧ a * b ≤ A * B :=
  ⟨Int.mul_nonneg ha hb, Int.mul_le_mul ha2 hb2 hb (by omega)⟩
theorem kAt_idx {vs : List Int} {p t : Nat} (hp : 1 ≤ p) (hn : p ≤ vs.length) (ht : vs.length ≤ t) : ((t - vs.length) / p + 1) * p ≤ t ∧ t - ((t - vs.length) / p + 1) * p < vs.length ∧ vs.length - p ≤ t - ((t - vs.length) / p + 1) * p ∧ (t - vs.length) / p + 1 ≤ t + 1 := by
  have h1 := Nat.div_add_mod (t - vs.length) p
  have h2 := Nat.mod_lt (t - vs.length) hp
  have h3 := Nat.div_le_self (t - vs.length) p
  rw [Nat.add_mul, Nat.one_mul, Nat.mul_comm]
  omega
theorem kAt_ok (vs : List Int) (p : Nat) (q : Int) (h : VF vs p q) (t : Nat) (ht : t ≤ 1048576) : Ctr Try.prog 37 [crv vs p q, i64 t] [] (fun r o => o = [] ∧ r = i64 (val vs p q t)) := by
  refine fn_intro (E := env 0) tys_ok rfl rfl rfl Try.func37 (by kernel_rfl) rfl (by kernel_rfl) ?_
  have n1 := h.n1
  have n2 := h.n2
  have p1 := h.p1
  have p2 := h.p2
  have pn := h.pn
  have q0 := h.q0
  have q1 := h.q1
  have hil := ints_len vs
  repeat' (conv => whnf
           first | (refine CondOb.mk (fun _ => ?_) (fun _ => ?_) <;> first | (exfalso; omega) | skip) | refine ArOb.fits (by first | omega | (simp only [ints_len] at *; omega)) ?_ | refine LitOb.vec ?_ | refine MakeOb.vec ?_ | refine AllocOb.box ?_ | refine AsgOb.vec ?_ | refine AggOb.mk (by decide +kernel) ?_ | refine ArU.fits (by first | omega | (simp only [ints_len] at *; omega)) ?_ | refine ArB.fits (by first | omega | (simp only [ints_len] at *; omega)) ?_ | refine CutOb.split ?_ | refine Gh.mk [] ?_ | refine And.intro (And.intro (by (simp only [List.length_append, List.length_take, List.length_drop, List.length_cons, List.length_nil, ints_len, List.length_replicate, lnl, fll, stl]; omega)) (by (simp only [List.length_append, List.length_take, List.length_drop, List.length_cons, List.length_nil, ints_len, List.length_replicate, lnl, fll, stl]; omega))) ?_ | refine ⟨_, _, rfl, ints_get (by first | omega | (simp only [ints_len] at *; omega)), ?_⟩ | refine ⟨_, _, (Int.toNat_of_nonneg (by first | omega | (simp only [ints_len] at *; omega))).symm, ints_get (by first | omega | (simp only [ints_len] at *; omega)), ?_⟩ | refine DrawOb.mk [] (.qs [0, 1, 2, 3, 4, 5, 6, 7, 8, 9, 10, 11, 12, 13, 14, 15] .nil) (by decide +kernel) ?_ | fail)
  all_goals try (conv => whnf)
  · exact ⟨rfl, by rw [val_lt (by omega)]; rfl⟩
  · have hlast := h.v (vs.length - 1) (by omega)
    have hI : vs.getD (vs.length - 1) 0 = INF := by
      have hx := (by assumption : 4611686018427387904 ≤ vs.getD (((ints vs).length : Int) - 1).toNat 0)
      rw [hil, show ((vs.length : Int) - 1).toNat = vs.length - 1 by omega] at hx
      simp only [INF] at hlast ⊢; omega
    have := h.val_inf hI hI t (by omega)
    exact ⟨rfl, by rw [this]; rfl⟩
  have htn : vs.length ≤ t := by omega
  obtain ⟨i1, i2, i3, i4⟩ := kAt_idx p1 pn htn
  have hd : ((t : Int) - ((ints vs).length : Int) + p).tdiv p = (((t - vs.length) / p + 1 : Nat) : Int) := by
    rw [Int.tdiv_eq_ediv_of_nonneg (by omega), show (t : Int) - ((ints vs).length : Int) + p = ((t - vs.length : Nat) : Int) + 1 * p by rw [hil]; omega, Int.add_mul_ediv_right _ _ (by omega)]
    push_cast; rfl
  have hlast := h.v (vs.length - 1) (by omega)
  have hf : vs.getD (vs.length - 1) 0 ≠ INF := by
    have hx := (by assumption : ¬4611686018427387904 ≤ vs.getD (((ints vs).length : Int) - 1).toNat 0)
    rw [hil, show ((vs.length : Int) - 1).toNat = vs.length - 1 by omega] at hx
    simp only [INF]; omega
  have hne := h.noinf hf _ i2
  have hv : val vs p q t = vs.getD (t - ((t - vs.length) / p + 1) * p) 0 + (((t - vs.length) / p + 1 : Nat) : Int) * q := by
    unfold val
    rw [if_neg (by omega), if_neg (h.noinf hf _ i2)]
  have hvb := h.v (t - ((t - vs.length) / p + 1) * p) i2
  rw [hv]
  refine ⟨by omega, ?_⟩
  rw [hd]
  generalize (t - vs.length) / p + 1 = k at *
  have hkp : ((k * p : Nat) : Int) = (k : Int) * p := by push_cast; rfl
  generalize k * p = m at *
  have b := mulB (a := (k : Int)) (b := q) (A := 1048577) (B := 1073741824) (by omega) (by omega) (by omega) (by omega)
  repeat' (conv => whnf
           first | (refine CondOb.mk (fun _ => ?_) (fun _ => ?_) <;> first | (exfalso; omega) | skip) | refine ArOb.fits (by first | omega | (simp only [ints_len] at *; omega)) ?_ | refine LitOb.vec ?_ | refine MakeOb.vec ?_ | refine AllocOb.box ?_ | refine AsgOb.vec ?_ | refine AggOb.mk (by decide +kernel) ?_ | refine ArU.fits (by first | omega | (simp only [ints_len] at *; omega)) ?_ | refine ArB.fits (by first | omega | (simp only [ints_len] at *; omega)) ?_ | refine CutOb.split ?_ | refine Gh.mk [] ?_ | refine And.intro (And.intro (by (simp only [List.length_append, List.length_take, List.length_drop, List.length_cons, List.length_nil, ints_len, List.length_replicate, lnl, fll, stl]; omega)) (by (simp only [List.length_append, List.length_take, List.length_drop, List.length_cons, List.length_nil, ints_len, List.length_replicate, lnl, fll, stl]; omega))) ?_ | refine ⟨_, _, rfl, ints_get (by first | omega | (simp only [ints_len] at *; omega)), ?_⟩ | refine ⟨_, _, (Int.toNat_of_nonneg (by first | omega | (simp only [ints_len] at *; omega))).symm, ints_get (by first | omega | (simp only [ints_len] at *; omega)), ?_⟩ | refine DrawOb.mk [] (.qs [0, 1, 2, 3, 4, 5, 6, 7, 8, 9, 10, 11, 12, 13, 14, 15] .nil) (by decide +kernel) ?_ | refine ArOb.fits (by rw [← hkp]; omega) ?_ | fail)
  all_goals try (conv => whnf)
  all_goals rw [show ((t : Int) - (k : Int) * p).toNat = t - m by rw [← hkp]; omega]
  all_goals refine ArOb.fits (by simp only [INF] at hvb hne; omega) ?_
  repeat' (conv => whnf
           first | (refine CondOb.mk (fun _ => ?_) (fun _ => ?_) <;> first | (exfalso; omega) | skip) | refine ArOb.fits (by first | omega | (simp only [ints_len] at *; omega)) ?_ | refine LitOb.vec ?_ | refine MakeOb.vec ?_ | refine AllocOb.box ?_ | refine AsgOb.vec ?_ | refine AggOb.mk (by decide +kernel) ?_ | refine ArU.fits (by first | omega | (simp only [ints_len] at *; omega)) ?_ | refine ArB.fits (by first | omega | (simp only [ints_len] at *; omega)) ?_ | refine CutOb.split ?_ | refine Gh.mk [] ?_ | refine And.intro (And.intro (by (simp only [List.length_append, List.length_take, List.length_drop, List.length_cons, List.length_nil, ints_len, List.length_replicate, lnl, fll, stl]; omega)) (by (simp only [List.length_append, List.length_take, List.length_drop, List.length_cons, List.length_nil, ints_len, List.length_replicate, lnl, fll, stl]; omega))) ?_ | refine ⟨_, _, rfl, ints_get (by first | omega | (simp only [ints_len] at *; omega)), ?_⟩ | refine ⟨_, _, (Int.toNat_of_nonneg (by first | omega | (simp only [ints_len] at *; omega))).symm, ints_get (by first | omega | (simp only [ints_len] at *; omega)), ?_⟩ | refine DrawOb.mk [] (.qs [0, 1, 2, 3, 4, 5, 6, 7, 8, 9, 10, 11, 12, 13, 14, 15] .nil) (by decide +kernel) ?_ | fail)
  all_goals try (conv => whnf)
  all_goals exact ⟨rfl, rfl⟩
end Go.Proofs.Ytnlmmjmcackgjaa
