/-
  A text of the proofs of this seat: lemmas that the statements' proofs use; it states nothing of the program by itself beyond the contracts that its theorems bear. Conditions: those that stand in each theorem. Its short name: Rq.
-/
import Derived.Test.YtnlmmjmcackgjaaLib
import Derived.Test.YtnlmmjmcackgjaaPl
set_option linter.unusedVariables false
set_option linter.unusedSimpArgs false
--APPX Go.Cv.vals_len
namespace Go.Proofs.Ytnlmmjmcackgjaa
open Go.Sx Go.Cv
set_option maxRecDepth 4000
theorem lcm_eq (a b : Nat) (ha : 1 ≤ a) : a / Nat.gcd a b * b = Nat.lcm a b := by
  rw [Nat.lcm, Nat.div_mul_right_comm (Nat.gcd_dvd_left a b)]
structure Bd (vs : List Int) (p : Nat) (q : Int) : Prop where
  p1 : 1 ≤ p
  pn : p ≤ vs.length
  n : vs.length ≤ 2000
  q0 : 0 ≤ q
  q1 : q ≤ 1099511627776
  v : ∀ j, 0 ≤ vs.getD j 0 ∧ vs.getD j 0 ≤ 4611686018427387904
theorem at_idx {n p t : Nat} (ht : n ≤ t) (hp : 1 ≤ p) (hp2 : p ≤ n) : ((t - n) / p + 1) * p ≤ t ∧ t - ((t - n) / p + 1) * p < n ∧ n - p ≤ t - ((t - n) / p + 1) * p := by
  have h1 := Nat.div_add_mod (t - n) p
  have h2 := Nat.mod_lt (t - n) hp
  have h3 : ((t - n) / p + 1) * p = p * ((t - n) / p) + p := by rw [Nat.add_mul, Nat.one_mul, Nat.mul_comm]
  omega
theorem mul_bd {a b A B : Int} (ha : 0 ≤ a) (ha2 : a ≤ A) (hb : 0 ≤ b) (hb2 : b ≤ B) : 0 ≤ a * b ∧ a * b ≤ A * B :=
  ⟨Int.mul_nonneg ha hb, Int.mul_le_mul ha2 hb2 hb (by omega)⟩
theorem imp_zero : Imp (.agg [.nil, i64 0, i64 0]) (crv [] 0 0) := Imp.agg ⟨Imp.nil 1, Imp.refl _, Imp.refl _, trivial⟩
abbrev crvE (x : List Int × Int × Int × Int) : SV := .tup [crv x.1 x.2.1 x.2.2.1, i64 x.2.2.2]
theorem bd_of {vs p q} (h : VF vs p q) : Bd vs p q := ⟨h.p1, h.pn, by have := h.n2; omega, h.q0, by have := h.q1; omega, fun j => by
  by_cases hj : j < vs.length
  · have := h.v j hj; simp only [INF] at this; omega
  · rw [List.getD_eq_getElem?_getD, List.getElem?_eq_none (by omega)]; simp⟩
theorem Start_ok (vs : List Int) (p : Nat) (q : Int) (h1 : p ≤ vs.length) (h2 : vs.length ≤ 1000000) : Ctr Try.prog 97 [crv vs p q] [] (fun r o => o = [] ∧ r = i64 (vs.length - p : Nat)) := by
  refine fn_intro (E := env 0) tys_ok rfl rfl rfl Try.func97 (by kernel_rfl) rfl (by kernel_rfl) ?_
  repeat' (conv => whnf
           first | refine CondOb.mk (fun _ => ?_) (fun _ => ?_) | refine ArOb.fits (by first | omega | (simp only [ints_len] at *; omega)) ?_ | refine LitOb.vec ?_ | refine MakeOb.vec ?_ | refine AllocOb.box ?_ | refine AsgOb.vec ?_ | refine AggOb.mk (by decide +kernel) ?_ | refine ArU.fits (by first | omega | (simp only [ints_len] at *; omega)) ?_ | refine ArB.fits (by first | omega | (simp only [ints_len] at *; omega)) ?_ | refine CutOb.split ?_ | refine Gh.mk [] ?_ | refine And.intro (And.intro (by (simp only [List.length_append, List.length_take, List.length_drop, List.length_cons, List.length_nil, ints_len, List.length_replicate, Go.Cv.vals_len]; omega)) (by (simp only [List.length_append, List.length_take, List.length_drop, List.length_cons, List.length_nil, ints_len, List.length_replicate, Go.Cv.vals_len]; omega))) ?_ | refine ⟨_, _, rfl, ints_get (by first | omega | (simp only [ints_len] at *; omega)), ?_⟩ | refine ⟨_, _, (Int.toNat_of_nonneg (by first | omega | (simp only [ints_len] at *; omega))).symm, ints_get (by first | omega | (simp only [ints_len] at *; omega)), ?_⟩ | fail)
  all_goals try (conv => whnf)
  exact ⟨rfl, by simp only [oneS, ints_len]; rw [show ((vs.length : Int) - p) = (vs.length - p : Nat) by omega]⟩
end Go.Proofs.Ytnlmmjmcackgjaa
