/-
  A text of the proofs of this seat: lemmas that the statements' proofs use; it states nothing of the program by itself beyond the contracts that its theorems bear. Conditions: those that stand in each theorem. Its short name: W3 W4 W6 R9.
-/
import Derived.Test.YtabbnnfobjifiaaW2
import Derived.Test.YtabbnnfobjifiaaPl
set_option linter.unusedVariables false
set_option linter.unusedSimpArgs false
section
namespace Go.Proofs.Ytabbnnfobjifiaa
open Go.Sx Go.Cv
set_option maxRecDepth 4000
theorem aP_W3 {A B K : Prop} (k : K) (a : A := by (simp only [zA, zT, zD, zC, zN, ints_len, zR, Go.Cv.vals_len]; omega)) (b : B := by (simp only [zA, zT, zD, zC, zN, ints_len, zR, Go.Cv.vals_len]; omega)) : (A ∧ B) ∧ K := ⟨⟨a, b⟩, k⟩
theorem WAt_ok (vs : List Int) (p : Nat) (q t : Int) (hb : Bd vs p q) (ht : 0 ≤ t) (ht2 : t ≤ 1048576) :
    Ctr Try.prog 72 [crv vs p q, i64 t] [] (fun r o => o = [] ∧ r = i64 (val vs p q t.toNat)) := by
  obtain ⟨p1, pn, hn, q0, q1, hv⟩ := hb
  obtain ⟨t, rfl⟩ := Int.eq_ofNat_of_zero_le ht
  simp only [Int.toNat_natCast]
  refine fn_intro (E := env 0) tys_ok rfl rfl rfl Try.func72 (by kernel_rfl) rfl (by kernel_rfl) ?_
  (repeat' (conv => whnf); first | refine aC (fun _ => ?_) (fun _ => ?_) | refine aS ?_ | refine aG ?_ | refine aD ?_ | refine aH ?_ | refine aP_W3 ?_ | refine aI ?_ | refine aJ ?_ | fail); all_goals try (conv => whnf)
  all_goals try (simp only [ints_len] at *)
  all_goals try omega
  · exact ⟨trivial, by simp only [oneS]; rw [val_lt (by omega)]⟩
  · have hle : vs.length ≤ t := by omega
    have e1 : ((t : Int) - vs.length).tdiv p = ((t - vs.length) / p : Nat) := by
      rw [Int.tdiv_eq_ediv_of_nonneg (by omega)]
      push_cast [Int.ofNat_sub hle]; rfl
    have hx := at_idx hle p1 pn
    have hd : (t - vs.length) / p ≤ t - vs.length := Nat.div_le_self _ _
    have hval : val vs p q t = if vs.getD (t - ((t - vs.length) / p + 1) * p) 0 = INF then INF else vs.getD (t - ((t - vs.length) / p + 1) * p) 0 + ((t - vs.length) / p + 1 : Nat) * q := by
      simp only [val]; rw [if_neg (by omega)]
    rw [hval, e1]
    generalize (t - vs.length) / p = k at *
    have e3 : ((k : Int) + 1) * (p : Int) = ((k + 1) * p : Nat) := by push_cast; rfl
    have hkq := mul_bd (a := (k : Int) + 1) (b := q) (A := 1048577) (B := 1099511627776) (by omega) (by omega) (by omega) (by omega)
    have hv1 := hv ((t : Int) - ((k : Int) + 1) * p).toNat
    refine ⟨by omega, ?_⟩
    (repeat' (conv => whnf); first | refine aC (fun _ => ?_) (fun _ => ?_) | refine aS ?_ | refine aG ?_ | refine aD ?_ | refine aH ?_ | refine aP_W3 ?_ | refine aI ?_ | refine aJ ?_ | fail); all_goals try (conv => whnf)
    all_goals rw [show ((t : Int) - ((k : Int) + 1) * p).toNat = t - (k + 1) * p by omega] at *
    · exact ⟨rfl, by simp only [oneS]; rw [if_pos (by assumption)]; congr 1⟩
    · exact ⟨rfl, by simp only [oneS]; rw [if_neg (by assumption)]; push_cast; rfl⟩
theorem CValid_ok (vs : List Int) (p i : Int) (hlv : vs.length ≤ 140737488355328) :
    Ctr Try.prog 52 [crv vs p i] [] (fun r o => o = [] ∧ r = .bp (ValidP vs p i)) := by
  refine Ctr.imp ?_
  refine fn_intro (E := env 0) tys_ok rfl rfl rfl Try.func52 (by kernel_rfl) rfl (by kernel_rfl) ?_
  (repeat' (conv => whnf); first | refine aC (fun _ => ?_) (fun _ => ?_) | refine aS ?_ | refine aG ?_ | refine aD ?_ | refine aH ?_ | refine aP_W3 ?_ | refine aI ?_ | refine aJ ?_ | refine aW (.qs [0, 1, 2, 3, 4, 5, 6, 7, 8, 9, 10, 11, 12, 13] .nil) ?_ | fail); all_goals try (conv => whnf)
  all_goals try (refine And.intro rfl (Imp.bl ⟨fun h => (by cases h), fun h => ?_⟩); simp only [ints_len] at *; simp only [ValidP] at h; omega)
  rename_i h1 h2 h3 h4 h5 h6 h7
  simp only [ints_len] at *
  have bd : ∀ j, j < vs.length → (∀ k < j + 1, vs.getD k 0 = INF ∨ 0 ≤ vs.getD k 0 ∧ vs.getD k 0 ≤ 1073741824) → True := fun _ _ _ => trivial
  refine LoopOb.mk (Y := Nat) (st := fun j => ⟨[(45, i64 j), (44, i64 vs.length), (43, .psl 1 (ints vs)), (4, i64 (if j = 0 then 0 else vs.getD (j - 1) 0)), (3, i64 vs.length), (1, .ptr 0 0)], [.box [.psl 1 (ints vs), .num .i64 p, .num .i64 i]]⟩)
    (inv := fun j => j ≤ vs.length ∧ (∀ k < j, vs.getD k 0 = 4611686018427387904 ∨ 0 ≤ vs.getD k 0 ∧ vs.getD k 0 ≤ 1073741824) ∧ (∀ k, k + 1 < j → vs.getD k 0 ≤ vs.getD (k + 1) 0)) (fun j => vs.length - j) 0 [0] ⟨by omega, fun k hk => by omega, fun k hk => by omega⟩ (by (exact aL)) ?_
  rintro j ⟨hj, hv, hm⟩
  have hlast : j ≠ 0 → vs.getD (j - 1) 0 = 4611686018427387904 ∨ 0 ≤ vs.getD (j - 1) 0 ∧ vs.getD (j - 1) 0 ≤ 1073741824 := fun h => hv (j - 1) (by omega)
  (repeat' (conv => whnf); first | refine aC (fun _ => ?_) (fun _ => ?_) | refine aS ?_ | refine aG ?_ | refine aD ?_ | refine aH ?_ | refine aP_W3 ?_ | refine aI ?_ | refine aJ ?_ | refine aW (.qs [0, 1, 2, 3, 4, 5, 6, 7, 8, 9, 10, 11, 12, 13] .nil) ?_ | fail); all_goals try (conv => whnf)
  all_goals try (
    refine And.intro rfl (Imp.bl ⟨fun h => (by cases h), fun h => ?_⟩)
    obtain ⟨_, _, _, _, _, _, _, q1, q2, q3, _⟩ := h
    have q1 := q1 j
    have q2 := q2 (j - 1)
    rcases Nat.eq_zero_or_pos j with h0 | h0
    · subst h0; simp only [if_true, Nat.zero_sub] at *; omega
    · try rw [if_neg (show ¬j = 0 by omega)] at *
      rw [show j - 1 + 1 = j by omega] at q2
      omega)
  all_goals try (
    refine ⟨j + 1, [0], ⟨by omega, fun k hk => ?_, fun k hk => ?_⟩, by omega, ?_⟩
    · by_cases hkj : k = j
      · subst hkj
        rcases Nat.eq_zero_or_pos k with h0 | h0
        · subst h0; simp only [if_true] at *; omega
        · rw [if_neg (show ¬k = 0 by omega)] at *; omega
      · exact hv k (by omega)
    · by_cases hkj : k + 1 = j
      · subst hkj; rw [if_neg (show ¬k + 1 = 0 by omega)] at *; simp only [Nat.add_sub_cancel] at *; omega
      · exact hm k (by omega)
    · refine Le.mk (by kernel_rfl) ?_ ?_ <;> repeat' (first | exact True.intro | refine And.intro ?_ ?_ | exact Imp.refl _ | exact Imp.any _ | exact Imp.num (by omega) | exact rfl | exact Imp.num (by simp)))
  all_goals have hjl : j = vs.length := by omega
  all_goals subst hjl
  all_goals rw [if_neg (show ¬vs.length = 0 by omega)] at *
  · have hx2 : vs.getD (vs.length - 1) 0 = 4611686018427387904 := by assumption
    have hp : p = 1 := by assumption
    exact ⟨rfl, Imp.bp ⟨fun h => ⟨by omega, by omega, by omega, by omega, by omega, by omega, by omega, hv, hm, fun _ => ⟨hp, h⟩, fun h' => absurd hx2 h'⟩, fun h => by obtain ⟨_, _, _, _, _, _, _, _, _, q3, _⟩ := h; exact (q3 hx2).2⟩⟩
  · have hx2 : vs.getD (vs.length - 1) 0 = 4611686018427387904 := by assumption
    refine ⟨rfl, Imp.bl ⟨fun h => (by cases h), fun h => ?_⟩⟩
    obtain ⟨_, _, _, _, _, _, _, _, _, q3, _⟩ := h
    have := (q3 hx2).1
    omega
  · have hx2 : ¬vs.getD (vs.length - 1) 0 = 4611686018427387904 := by assumption
    have hq := hv (vs.length - p).toNat (by omega)
    refine ArOb.fits (by omega) ?_
    (repeat' (conv => whnf); first | refine aC (fun _ => ?_) (fun _ => ?_) | refine aS ?_ | refine aG ?_ | refine aD ?_ | refine aH ?_ | refine aP_W3 ?_ | refine aI ?_ | refine aJ ?_ | refine aW (.qs [0, 1, 2, 3, 4, 5, 6, 7, 8, 9, 10, 11, 12, 13] .nil) ?_ | fail); all_goals try (conv => whnf)
    rw [show (vs.length - p : Int).toNat = vs.length - p.toNat by omega] at *
    exact ⟨rfl, Imp.bp ⟨fun h => ⟨by omega, by omega, by omega, by omega, by omega, by omega, by omega, hv, hm, fun h' => absurd h' hx2, fun _ => h⟩, fun h => by obtain ⟨_, _, _, _, _, _, _, _, _, _, q4⟩ := h; exact q4 hx2⟩⟩
end Go.Proofs.Ytabbnnfobjifiaa
end
section
namespace Go.Proofs.Ytabbnnfobjifiaa
open Go.Sx Go.Cv
set_option maxRecDepth 4000
set_option maxHeartbeats 2000000
structure Prep (vs : List Int) (p q : Int) (ws : List Int) (p' q' : Int) (a b : C3) : Prop where
  f : ∃ p0 : Nat, p = p0 ∧ VF vs p0 q ∧ NF (val vs p0 q) a.1 a.2.1 a.2.2
  g : ∃ p0 : Nat, p' = p0 ∧ VF ws p0 q' ∧ NF (val ws p0 q') b.1 b.2.1 b.2.2
  va : VC a
  vb : VC b
end Go.Proofs.Ytabbnnfobjifiaa
end
section
namespace Go.Proofs.Ytabbnnfobjifiaa
open Go.Sx Go.Cv
set_option maxRecDepth 4000
set_option maxHeartbeats 2000000
def lst (d : Nat → Int) (L t : Nat) : Int := if t = L then INF else wmn d (L - (t + 1)) (t + 1)
end Go.Proofs.Ytabbnnfobjifiaa
end
section
namespace Go.Proofs.Ytabbnnfobjifiaa
open Go.Sx Go.Cv
set_option maxRecDepth 4000
set_option maxHeartbeats 2000000
theorem vc_bd {a : C3} (h : VC a) {t : Nat} (ht : t ≤ 1048576) : 0 ≤ cv a t ∧ cv a t ≤ 6000000000000000000 := val_bd (bd_of h) ht
theorem rAt_ok (a : C3) (t : Nat) (ha : VC a) (ht : t ≤ 1048576) : Ctr Try.prog 40 [crv a.1 a.2.1 a.2.2, i64 t] [] (fun r o => o = [] ∧ r = i64 (cv a t)) :=
  (At_ok a.1 a.2.1 a.2.2 t (bd_of ha) (by omega) (by omega)).mono (fun r o ⟨h1, h2⟩ => ⟨h1, by rw [h2]; simp [cv]⟩)
end Go.Proofs.Ytabbnnfobjifiaa
end
