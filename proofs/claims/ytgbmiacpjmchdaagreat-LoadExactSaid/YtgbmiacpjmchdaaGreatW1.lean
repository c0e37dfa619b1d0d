/-
  A text of the proofs of this seat: lemmas that the statements' proofs use; it states nothing of the program by itself beyond the contracts that its theorems bear. Conditions: those that stand in each theorem. Its short name: W1.
-/
import Derived.Test.YtgbmiacpjmchdaaGreatR6
import Derived.Test.YtgbmiacpjmchdaaGreatNd
set_option linter.unusedVariables false
set_option linter.unusedSimpArgs false
--APPX Go.Cv.vals_len
namespace Go.Proofs.YtgbmiacpjmchdaaGreat
open Go.Sx Go.Cv
set_option maxRecDepth 4000
theorem aP_W1 {A B K : Prop} (k : K) (a : A := by (simp only [zA, zT, zD, zC, zN, ints_len, zR, Go.Cv.vals_len]; omega)) (b : B := by (simp only [zA, zT, zD, zC, zN, ints_len, zR, Go.Cv.vals_len]; omega)) : (A ∧ B) ∧ K := ⟨⟨a, b⟩, k⟩
theorem Common_ok (a b : Nat) (ha : 1 ≤ a) (hb : 1 ≤ b) (ha2 : a ≤ 1000000) (hb2 : b ≤ 1000000) : Ctr Tryz.prog 102 [i64 a, i64 b] [] (fun r o => o = [] ∧ r = i64 (Nat.lcm a b)) := by
  refine fn_intro (E := env 0) tys_ok rfl rfl rfl Tryz.func102 (by kernel_rfl) rfl (by kernel_rfl) ?_
  (repeat' (conv => whnf); first | refine aC (fun _ => ?_) (fun _ => ?_) | refine aS ?_ | refine aG ?_ | refine aD ?_ | refine aH ?_ | refine aP_W1 ?_ | refine aI ?_ | refine aJ ?_ | fail); all_goals try (conv => whnf)
  refine LoopOb.mk (Y := Nat × Nat) (st := fun y => ⟨[(0, i64 a), (1, i64 b), (5, i64 y.1), (6, i64 y.2)], []⟩)
    (inv := fun y => Nat.gcd y.1 y.2 = Nat.gcd a b) (fun y => y.2) (a, b) [] rfl (by (exact aL)) ?_
  rintro ⟨x, y⟩ hg
  replace hg : Nat.gcd x y = Nat.gcd a b := hg
  (repeat' (conv => whnf); first | refine aC (fun _ => ?_) (fun _ => ?_) | refine aS ?_ | refine aG ?_ | refine aD ?_ | refine aH ?_ | refine aP_W1 ?_ | refine aI ?_ | refine aJ ?_ | refine aW (.qs [0, 1, 2, 3, 4, 5] .nil) ?_ | fail); all_goals try (conv => whnf)
  · have hy0 : (y : Int) ≠ 0 := by assumption
    have e : (x : Int).tmod y = (x % y : Nat) := by rw [Int.tmod_eq_emod_of_nonneg (by omega)]; rfl
    refine ⟨hy0, ?_⟩
    (repeat' (conv => whnf); first | refine aC (fun _ => ?_) (fun _ => ?_) | refine aS ?_ | refine aG ?_ | refine aD ?_ | refine aH ?_ | refine aP_W1 ?_ | refine aI ?_ | refine aJ ?_ | refine aW (.qs [0, 1, 2, 3, 4, 5] .nil) ?_ | fail); all_goals try (conv => whnf)
    refine ⟨(y, x % y), [], ?_, Nat.mod_lt _ (by omega), by (exact aL)⟩
    rw [← hg]
    simp only
    rw [Nat.gcd_comm x y, Nat.gcd_rec y x, Nat.gcd_comm]
  · have hy0 : ¬(y : Int) ≠ 0 := by assumption
    have : y = 0 := by omega
    subst this
    rw [Nat.gcd_zero_right] at hg
    subst hg
    have hg : 1 ≤ Nat.gcd a b := Nat.gcd_pos_of_pos_left b (by omega)
    refine ⟨by omega, ?_⟩
    have e : (a : Int).tdiv (Nat.gcd a b : Nat) = (a / Nat.gcd a b : Nat) := by
      rw [Int.tdiv_eq_ediv_of_nonneg (by omega)]; rfl
    have h1 := Nat.div_le_self a (Nat.gcd a b)
    have h2 : a / Nat.gcd a b * b ≤ 1000000 * 1000000 := Nat.mul_le_mul (by omega) hb2
    rw [e]
    have e2 : a / Nat.gcd a b * b = Nat.lcm a b := lcm_eq a b ha
    generalize a / Nat.gcd a b = d at *
    have h3 : ((d : Int) * (b : Int)) = ((d * b : Nat) : Int) := by push_cast; rfl
    have h4 : (0 : Int) ≤ (d : Int) * (b : Int) ∧ (d : Int) * (b : Int) ≤ 1000000000000 := by rw [h3]; omega
    (repeat' (conv => whnf); first | refine aC (fun _ => ?_) (fun _ => ?_) | refine aS ?_ | refine aG ?_ | refine aD ?_ | refine aH ?_ | refine aP_W1 ?_ | refine aI ?_ | refine aJ ?_ | fail); all_goals try (conv => whnf)
    refine ⟨rfl, ?_⟩
    simp only [oneS]
    rw [← e2, h3]
theorem checked_ok (v : List Int) (p q : Int) (hn : 1 ≤ v.length) (hv : v.length ≤ 1000000) :
    Ctr Tryz.prog 100 [.psl 1 (ints v), i64 p, i64 q] [] (fun r o => ∃ x : List Int × Int × Int × Int, CheckP v p q x ∧ o = [] ∧ r = crvE x) := by
  refine Ctr.impE ?_
  refine fn_intro (E := env 0) tys_ok rfl rfl rfl Tryz.func100 (by kernel_rfl) rfl (by kernel_rfl) ?_
  (repeat' (conv => whnf); first | refine aC (fun _ => ?_) (fun _ => ?_) | refine aS ?_ | refine aG ?_ | refine aD ?_ | refine aH ?_ | refine aP_W1 ?_ | refine aI ?_ | refine aJ ?_ | fail); all_goals try (conv => whnf)
  · simp only [ints_len] at *
    exact ⟨([], 0, 0, 3), .inl ⟨.inl (by omega), rfl⟩, by trivial, Imp.tup ⟨imp_zero, Imp.refl _, trivial⟩⟩
  simp only [ints_len] at *
  refine LoopOb.mk (Y := Nat) (st := fun j => ⟨[(0, .psl 1 (ints v)), (1, i64 p), (2, i64 q), (6, .ptr 0 0), (14, .psl 1 (ints v)), (15, i64 v.length), (16, i64 j)], [.box [.nil, i64 0, i64 0]]⟩)
    (inv := fun j => j ≤ v.length ∧ ∀ k < j, v.getD k 0 = INF ∨ v.getD k 0 ≤ 1073741824) (fun j => v.length - j) 0 [0] ⟨by omega, fun k h => by omega⟩ (by (exact aL)) ?_
  rintro j ⟨h1, h2⟩
  (repeat' (conv => whnf); first | refine aC (fun _ => ?_) (fun _ => ?_) | refine aS ?_ | refine aG ?_ | refine aD ?_ | refine aP_W1 ?_ | refine aI ?_ | refine aJ ?_ | fail); all_goals try (conv => whnf)
  · refine .mk [] ?_
    have h3 : v.getD j 0 ≠ INF := by assumption
    have h4 : (1073741824 : Int) < v.getD j 0 := by assumption
    exact ⟨([], 0, 0, 3), .inl ⟨.inr ⟨j, by omega, h3, h4⟩, rfl⟩, rfl, Imp.tup ⟨imp_zero, Imp.refl _, trivial⟩⟩
  · refine .mk [] ?_
    have h4 : ¬(1073741824 : Int) < v.getD j 0 := by assumption
    refine ⟨j + 1, [0], ⟨by omega, fun k hk => ?_⟩, by omega, by (exact aL)⟩
    by_cases hkj : k = j
    · subst hkj; right; omega
    · exact h2 k (by omega)
  · refine .mk [] ?_
    have h3 : v.getD j 0 = INF := Classical.not_not.1 (by assumption)
    refine ⟨j + 1, [0], ⟨by omega, fun k hk => ?_⟩, by omega, by (exact aL)⟩
    by_cases hkj : k = j
    · subst hkj; left; exact h3
    · exact h2 k (by omega)
  refine .mk [.fz 1] ?_
  exact ⟨(v, p, q, 0), .inr ⟨by omega, fun k hk => h2 k (by omega), rfl⟩, rfl, Imp.refl _⟩
theorem Ending_ok (v : List Int) (hn : 1 ≤ v.length) (hv : v.length ≤ 1000000) :
    Ctr Tryz.prog 98 [.psl 1 (ints v)] [] (fun r o => ∃ x : List Int × Int × Int × Int, CheckP v 1 0 x ∧ o = [] ∧ r = crvE x) := by
  refine fn_intro (E := env 0) tys_ok rfl rfl rfl Tryz.func98 (by kernel_rfl) rfl (by kernel_rfl) ?_
  (repeat' (conv => whnf); first | refine aC (fun _ => ?_) (fun _ => ?_) | refine aS ?_ | refine aG ?_ | refine aD ?_ | refine aH ?_ | refine aP_W1 ?_ | refine aI ?_ | refine aJ ?_ | fail); all_goals try (conv => whnf)
  refine CallOb.mk [] (checked_ok v 1 0 hn hv) rfl (ImpL.refl _) rfl rfl ?_
  rintro _ _ ⟨x, hx, rfl, rfl⟩
  (repeat' (conv => whnf); first | refine aC (fun _ => ?_) (fun _ => ?_) | refine aS ?_ | refine aG ?_ | refine aD ?_ | refine aH ?_ | refine aP_W1 ?_ | refine aI ?_ | refine aJ ?_ | fail); all_goals try (conv => whnf)
  exact ⟨x, hx, rfl, rfl⟩
theorem least_ok (v : List Int) (inc : Int) (F : Nat → Int) (s : Nat) (hn : 1 ≤ v.length) (hv : v.length ≤ 2000) (hi : 0 ≤ inc) (hi2 : inc ≤ 1099511627776)
    (hvb : ∀ j, 0 ≤ v.getD j 0 ∧ v.getD j 0 ≤ 4611686018427387904) (hF : ∀ j < v.length, v.getD j 0 = F (s + j)) (hper : Per F s v.length inc) :
    Ctr Tryz.prog 99 [.psl 1 (ints v), i64 inc] [] (fun r o => ∃ p : Nat, (1 ≤ p ∧ p ≤ v.length ∧ Fits F s v.length inc p ∧ ∀ p', 1 ≤ p' → p' < p → ¬Fits F s v.length inc p') ∧ o = [] ∧ r = i64 p) := by
  refine fn_intro (E := env 0) tys_ok rfl rfl rfl Tryz.func99 (by kernel_rfl) rfl (by kernel_rfl) ?_
  (repeat' (conv => whnf); first | refine aC (fun _ => ?_) (fun _ => ?_) | refine aS ?_ | refine aG ?_ | refine aD ?_ | refine aH ?_ | refine aP_W1 ?_ | refine aI ?_ | refine aJ ?_ | fail); all_goals try (conv => whnf)
  refine LoopOb.mk (Y := Nat) (st := fun p => ⟨[(0, .psl 1 (ints v)), (1, i64 inc), (5, i64 v.length), (6, i64 p)], []⟩)
    (inv := fun p => 1 ≤ p ∧ p ≤ v.length ∧ ∀ p', 1 ≤ p' → p' < p → ¬Fits F s v.length inc p') (fun p => v.length - p) 1 [] ⟨by omega, by omega, fun p' h1 h2 => by omega⟩ (by (exact aL)) ?_
  rintro p ⟨h1, h2, h3⟩
  have hQp := mul_bd (a := inc) (b := (p : Int)) (A := 1099511627776) (B := 2000) (by omega) (by omega) (by omega) (by omega)
  have hd := tdiv_bd (a := inc * p) (b := (v.length : Int)) (by omega) (by omega)
  have hm := tmod_bd (a := inc * p) (b := (v.length : Int)) (by omega) (by omega)
  have hm2 : (v.length : Int).tmod p = ((v.length % p : Nat) : Int) := by rw [Int.tmod_eq_emod_of_nonneg (by omega)]; rfl
  have next : p < v.length → ¬Fits F s v.length inc p → 1 ≤ p + 1 ∧ p + 1 ≤ v.length ∧ ∀ p', 1 ≤ p' → p' < p + 1 → ¬Fits F s v.length inc p' := by
    intro h4 h5
    refine ⟨by omega, by omega, fun p' h6 h7 => ?_⟩
    by_cases hpp : p' = p
    · subst hpp; exact h5
    · exact h3 p' h6 (by omega)
  (repeat' (conv => whnf); first | refine aC (fun _ => ?_) (fun _ => ?_) | refine aS ?_ | refine aG ?_ | refine aD ?_ | refine aH ?_ | refine aP_W1 ?_ | refine aI ?_ | refine aJ ?_ | fail); all_goals try (conv => whnf)
  · refine ⟨by omega, ?_⟩
    rw [hm2]
    (repeat' (conv => whnf); first | refine aC (fun _ => ?_) (fun _ => ?_) | refine aS ?_ | refine aG ?_ | refine aD ?_ | refine aH ?_ | refine aP_W1 ?_ | refine aI ?_ | refine aJ ?_ | fail); all_goals try (conv => whnf)
    · refine ⟨p + 1, [], next (by omega) (fun h => ?_), by omega, by (exact aL)⟩
      have := h.1; omega
    refine ⟨by omega, ?_⟩
    rw [hm.1]
    (repeat' (conv => whnf); first | refine aC (fun _ => ?_) (fun _ => ?_) | refine aS ?_ | refine aG ?_ | refine aD ?_ | refine aH ?_ | refine aP_W1 ?_ | refine aI ?_ | refine aJ ?_ | fail); all_goals try (conv => whnf)
    · refine ⟨p + 1, [], next (by omega) (fun h => ?_), by omega, by (exact aL)⟩
      have := h.2.1; omega
    refine ⟨by omega, ?_⟩
    rw [hd.1]
    (repeat' (conv => whnf); first | refine aC (fun _ => ?_) (fun _ => ?_) | refine aS ?_ | refine aG ?_ | refine aD ?_ | refine aH ?_ | refine aP_W1 ?_ | refine aI ?_ | refine aJ ?_ | fail); all_goals try (conv => whnf)
    refine LoopOb.mk (Y := Nat) (st := fun i => ⟨[(0, .psl 1 (ints v)), (1, i64 inc), (5, i64 v.length), (6, i64 p), (7, i64 (inc * p / v.length)), (35, i64 v.length), (36, i64 i)], []⟩)
      (inv := fun i => i ≤ v.length ∧ ∀ k < i, F (s + k + p) = F (s + k) + inc * p / v.length) (fun i => v.length - i) 0 [] ⟨by omega, fun k h => by omega⟩ (by (exact aL)) ?_
    rintro i ⟨h4, h5⟩
    have b1 := hvb i
    have b2 := hvb ((i : Int) + p - v.length).toNat
    (repeat' (conv => whnf); first | refine aC (fun _ => ?_) (fun _ => ?_) | refine aS ?_ | refine aG ?_ | refine aD ?_ | refine aH ?_ | refine aP_W1 ?_ | refine aI ?_ | refine aJ ?_ | fail); all_goals try (conv => whnf)
    all_goals try rw [show ((i : Int) + p).toNat = i + p by omega] at *
    all_goals try rw [show ((i : Int) + p - v.length).toNat = i + p - v.length by omega] at *
    all_goals have e0 : i < v.length → v.getD i 0 = F (s + i) := fun h => hF i h
    all_goals have e1 : i + p < v.length → v.getD (i + p) 0 = F (s + i + p) := fun h => by rw [hF _ h, Nat.add_assoc]
    all_goals have e2 : i < v.length → ¬i + p < v.length → F (s + i + p) = v.getD (i + p - v.length) 0 + inc := fun h h' => (by rw [hF _ (by omega), ← hper (s + (i + p - v.length)) (by omega)]; congr 1; omega)
    all_goals first
      | (refine ⟨i + 1, [], ⟨by omega, fun k hk => ?_⟩, by omega, by (exact aL)⟩
         by_cases hki : k = i
         · subst hki; first | omega | (have := e1 (by omega); omega) | (have := e2 (by omega) (by omega); omega)
         · exact h5 k (by omega))
      | (refine ⟨p + 1, [], next (by omega) (fun h => ?_), by omega, by (exact aL)⟩
         have h6 := h.2.2 (s + i) (by omega) (by omega)
         omega)
      | (refine ⟨p, ⟨h1, h2, ⟨by omega, by omega, fun t ht1 ht2 => ?_⟩, h3⟩, rfl, rfl⟩
         have h6 := h5 (t - s) (by omega)
         rw [show s + (t - s) = t by omega] at h6
         exact h6)
  · have : p = v.length := by omega
    subst this
    exact ⟨v.length, ⟨h1, h2, fits_self h1 hper, h3⟩, rfl, rfl⟩
end Go.Proofs.YtgbmiacpjmchdaaGreat
