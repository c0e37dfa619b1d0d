/-
  A text of the proofs of this seat: lemmas that the statements' proofs use; it states nothing of the program by itself beyond the contracts that its theorems bear. Conditions: those that stand in each theorem. Its short name: Fm Nv Fa.
-/
import Derived.Test.YtgbmiacpjmchdaaGreatFn
import Derived.Test.YtgbmiacpjmchdaaGreatVc
set_option linter.unusedVariables false
set_option linter.unusedSimpArgs false
section
namespace Go.Proofs.YtgbmiacpjmchdaaGreat
open Go.Sx Go.Fq
set_option maxRecDepth 4000
set_option maxHeartbeats 2000000
theorem aP_Fm {A B K : Prop} (k : K) (a : A := by (simp only [zA, zT, zD, zC, zN, ints_len, zR, lnl, fll, stl]; omega)) (b : B := by (simp only [zA, zT, zD, zC, zN, ints_len, zR, lnl, fll, stl]; omega)) : (A ∧ B) ∧ K := ⟨⟨a, b⟩, k⟩
/-! the fractions: both implementations -/
theorem rGcd_ok (a b : Int) (ha : 0 ≤ a) (hb : 0 ≤ b) : Ctr Tryz.prog 107 [i64 a, i64 b] [] (fun r o => o = [] ∧ r = i64 (Nat.gcd a.natAbs b.natAbs)) := by
  refine fn_intro (E := env 0) tys_ok rfl rfl rfl Tryz.func107 (by kernel_rfl) rfl (by kernel_rfl) ?_
  (repeat' (conv => whnf); first | refine aC (fun _ => ?_) (fun _ => ?_) | refine aS ?_ | refine aG ?_ | refine aD ?_ | refine aH ?_ | refine aP_Fm ?_ | refine aI ?_ | refine aJ ?_ | fail); all_goals try (conv => whnf)
  obtain ⟨a, rfl⟩ := Int.eq_ofNat_of_zero_le ha
  obtain ⟨b, rfl⟩ := Int.eq_ofNat_of_zero_le hb
  refine LoopOb.mk (Y := Nat × Nat) (st := fun y => ⟨[(0, i64 y.1), (1, i64 y.2)], []⟩)
    (inv := fun y => Nat.gcd y.1 y.2 = Nat.gcd a b) (fun y => y.2) (a, b) [] rfl (by (exact aL)) ?_
  rintro ⟨x, y⟩ hg
  replace hg : Nat.gcd x y = Nat.gcd a b := hg
  (repeat' (conv => whnf); first | refine aC (fun _ => ?_) (fun _ => ?_) | refine aS ?_ | refine aG ?_ | refine aD ?_ | refine aH ?_ | refine aP_Fm ?_ | refine aI ?_ | refine aJ ?_ | refine aW (.qs [0, 1, 2, 3, 4, 5] .nil) ?_ | fail); all_goals try (conv => whnf)
  · have hy0 : (y : Int) ≠ 0 := by assumption
    have e : (x : Int).tmod y = (x % y : Nat) := by rw [Int.tmod_eq_emod_of_nonneg (by omega)]; rfl
    refine ⟨hy0, ?_⟩
    (repeat' (conv => whnf); first | refine aC (fun _ => ?_) (fun _ => ?_) | refine aS ?_ | refine aG ?_ | refine aD ?_ | refine aH ?_ | refine aP_Fm ?_ | refine aI ?_ | refine aJ ?_ | refine aW (.qs [0, 1, 2, 3, 4, 5] .nil) ?_ | fail); all_goals try (conv => whnf)
    refine ⟨(y, x % y), [], ?_, Nat.mod_lt _ (by omega), by (exact aL)⟩
    rw [← hg]
    simp only
    rw [Nat.gcd_comm x y, Nat.gcd_rec y x, Nat.gcd_comm]
  · have hy0 : ¬(y : Int) ≠ 0 := by assumption
    have : y = 0 := by omega
    subst this
    refine ⟨rfl, ?_⟩
    have e1 : (a : Int).natAbs = a := rfl
    have e2 : (b : Int).natAbs = b := rfl
    rw [e1, e2, ← hg]
    simp [oneS]
theorem rabs_ok (n : Int) (hn : -9223372036854775808 < n ∧ n ≤ 9223372036854775807) : Ctr Tryz.prog 108 [i64 n] [] (fun r o => o = [] ∧ r = i64 n.natAbs) := by
  refine fn_intro (E := env 0) tys_ok rfl rfl rfl Tryz.func108 (by kernel_rfl) rfl (by kernel_rfl) ?_
  (repeat' (conv => whnf); first | (refine aC (fun _ => ?_) (fun _ => ?_) <;> try (exfalso; omega)) | refine aS ?_ | refine aG ?_ | refine aD ?_ | refine aH ?_ | refine aP_Fm ?_ | refine aI ?_ | refine aJ ?_ | fail); all_goals try (conv => whnf)
  all_goals
    refine ⟨rfl, ?_⟩
    show SV.num IntKind.i64 _ = SV.num IntKind.i64 _
    congr 1; omega
theorem rValid_ok (x y : Int) : Ctr Tryz.prog 93 [.agg [i64 x, i64 y]] [] (fun r o => o = [] ∧ r = .bp (VF (x, y))) := by
  refine Ctr.imp ?_
  refine fn_intro (E := env 0) tys_ok rfl rfl rfl Tryz.func93 (by kernel_rfl) rfl (by kernel_rfl) ?_
  (repeat' (conv => whnf); first | (refine aC (fun _ => ?_) (fun _ => ?_) <;> try (exfalso; omega)) | refine aS ?_ | refine aG ?_ | refine aD ?_ | refine aH ?_ | refine aP_Fm ?_ | refine aI ?_ | refine aJ ?_ | refine aW (.qs [0, 1, 2, 3, 4, 5, 6, 7, 8, 9, 10, 11, 12, 13, 14, 15, 16, 17, 18, 19, 20, 22, 23] (.l 21 [23] (.l 24 [] (.qs [25, 26, 27] .nil) .no) .no)) ?_ | (refine aK [] (rabs_ok x (by omega)) ?_) | (refine aK [] (rGcd_ok x.natAbs y (by omega) (by omega)) ?_) | fail); all_goals try (conv => whnf)
  all_goals rw [vf_nat]
  · exact ⟨rfl, Imp.bp (by simp only [Int.natAbs_natCast]; omega)⟩
  all_goals exact ⟨rfl, Imp.bl ⟨fun h => (by cases h), fun h => by omega⟩⟩
theorem rNew_ok (n d : Int) (hn : -9223372036854775808 < n ∧ n ≤ 9223372036854775807) (hd : -9223372036854775808 < d ∧ d ≤ 9223372036854775807) :
    Ctr Tryz.prog 92 [i64 n, i64 d] [] (fun r o => o = [] ∧ r = res (fnew n d)) := by
  refine fn_intro (E := env 0) tys_ok rfl rfl rfl Tryz.func92 (by kernel_rfl) rfl (by kernel_rfl) ?_
  (repeat' (conv => whnf); first | (refine aC (fun _ => ?_) (fun _ => ?_) <;> try (exfalso; omega)) | refine aS ?_ | refine aG ?_ | refine aD ?_ | refine aH ?_ | refine aP_Fm ?_ | refine aI ?_ | refine aJ ?_ | refine aW (.qs [0, 1, 2, 3, 4, 5, 6] (.l 7 [] (.l 8 [] .nil .no) .no)) ?_ | fail); all_goals try (conv => whnf)
  · refine ⟨rfl, ?_⟩
    unfold fnew; rw [if_pos (by assumption)]; rfl
  have hd0 : d ≠ 0 := by assumption
  have hg : 0 < Nat.gcd n.natAbs d.natAbs := Nat.gcd_pos_of_pos_right _ (by omega)
  refine LoopOb.mk (Y := Unit) (st := fun _ => ⟨[(0, i64 n), (1, i64 d), (4, .ptr 0 0)], [.box [i64 0, i64 0]]⟩)
    (inv := fun _ => True) (fun _ => 0) () [0] trivial (by (exact aL)) ?_
  rintro ⟨⟩ _
  (repeat' (conv => whnf); first | (refine aC (fun _ => ?_) (fun _ => ?_) <;> try (exfalso; omega)) | refine aS ?_ | refine aG ?_ | refine aD ?_ | refine aH ?_ | refine aP_Fm ?_ | refine aI ?_ | refine aJ ?_ | refine aW (.qs [0, 1, 2, 3, 4, 5, 6] (.l 7 [] (.l 8 [] .nil .no) .no)) ?_ | (refine aK [] (rabs_ok n (by omega)) ?_) | (refine aK [] (rabs_ok (0 - n) (by omega)) ?_) | fail); all_goals try (conv => whnf)
  all_goals
    have hb1 : (Rat.divInt n d).num.natAbs ≤ n.natAbs := by
      rw [(divInt_terms n d hd0).2]
      have := Nat.div_le_self n.natAbs (Nat.gcd n.natAbs d.natAbs)
      split <;> simp only [Int.natAbs_neg, Int.natAbs_natCast] <;> exact this
    have hb2 : (Rat.divInt n d).den ≤ d.natAbs := by
      rw [(divInt_terms n d hd0).1]; exact Nat.div_le_self _ _
    obtain ⟨w, hw⟩ : ∃ w, Rat.divInt n d = w := ⟨_, rfl⟩
    rw [hw] at hb1 hb2
  · have hG : Ctr Tryz.prog 107 [i64 (0 - n).natAbs, i64 (0 - d)] [] (fun r o => o = [] ∧ r = i64 (Nat.gcd n.natAbs d.natAbs)) := by
      have := rGcd_ok (0 - n).natAbs (0 - d) (by omega) (by omega)
      have e : Nat.gcd ((0 - n).natAbs : Int).natAbs (0 - d).natAbs = Nat.gcd n.natAbs d.natAbs := by congr 1 <;> omega
      rwa [e] at this
    obtain ⟨q1, q2⟩ := new_neg (n := n) (d := d) (by omega)
    rw [hw] at q1 q2
    refine aK [] hG ?_
    (repeat' (conv => whnf); first | (refine aC (fun _ => ?_) (fun _ => ?_) <;> try (exfalso; omega)) | refine aS ?_ | refine aG ?_ | refine aD ?_ | refine aH ?_ | refine aP_Fm ?_ | refine aI ?_ | refine aJ ?_ | refine aW (.qs [0, 1, 2, 3, 4, 5, 6] (.l 7 [] (.l 8 [] .nil .no) .no)) ?_ | fail); all_goals try (conv => whnf)
    refine ⟨by omega, ?_⟩
    rw [q1]
    (repeat' (conv => whnf); first | (refine aC (fun _ => ?_) (fun _ => ?_) <;> try (exfalso; omega)) | refine aS ?_ | refine aG ?_ | refine aD ?_ | refine aH ?_ | refine aP_Fm ?_ | refine aI ?_ | refine aJ ?_ | refine aW (.qs [0, 1, 2, 3, 4, 5, 6] (.l 7 [] (.l 8 [] .nil .no) .no)) ?_ | fail); all_goals try (conv => whnf)
    refine ⟨by omega, ?_⟩
    rw [q2]
    (repeat' (conv => whnf); first | refine aC (fun _ => ?_) (fun _ => ?_) | refine aS ?_ | refine aG ?_ | refine aD ?_ | refine aH ?_ | refine aP_Fm ?_ | refine aI ?_ | refine aJ ?_ | refine aW (.qs [0, 1, 2, 3, 4, 5, 6] (.l 7 [] (.l 8 [] .nil .no) .no)) ?_ | (refine aK [] (rValid_ok w.num w.den) ?_) | fail); all_goals try (conv => whnf)
    · exact ⟨rfl, by unfold fnew; rw [if_neg hd0, hw]; unfold fenc; rw [if_neg (fun h => absurd (vf_enc_iff.2 h) (by assumption))]; rfl⟩
    · exact ⟨rfl, by unfold fnew; rw [if_neg hd0, hw]; unfold fenc; rw [if_pos (vf_enc_iff.1 (Classical.not_not.1 (by assumption)))]; rfl⟩
  · have hG : Ctr Tryz.prog 107 [i64 n.natAbs, i64 d] [] (fun r o => o = [] ∧ r = i64 (Nat.gcd n.natAbs d.natAbs)) := by
      have := rGcd_ok n.natAbs d (by omega) (by omega)
      have e : Nat.gcd (n.natAbs : Int).natAbs d.natAbs = Nat.gcd n.natAbs d.natAbs := by congr 1 <;> omega
      rwa [e] at this
    obtain ⟨q1, q2⟩ := new_pos (n := n) (d := d) (by omega)
    rw [hw] at q1 q2
    refine aK [] hG ?_
    (repeat' (conv => whnf); first | (refine aC (fun _ => ?_) (fun _ => ?_) <;> try (exfalso; omega)) | refine aS ?_ | refine aG ?_ | refine aD ?_ | refine aH ?_ | refine aP_Fm ?_ | refine aI ?_ | refine aJ ?_ | refine aW (.qs [0, 1, 2, 3, 4, 5, 6] (.l 7 [] (.l 8 [] .nil .no) .no)) ?_ | fail); all_goals try (conv => whnf)
    refine ⟨by omega, ?_⟩
    rw [q1]
    (repeat' (conv => whnf); first | (refine aC (fun _ => ?_) (fun _ => ?_) <;> try (exfalso; omega)) | refine aS ?_ | refine aG ?_ | refine aD ?_ | refine aH ?_ | refine aP_Fm ?_ | refine aI ?_ | refine aJ ?_ | refine aW (.qs [0, 1, 2, 3, 4, 5, 6] (.l 7 [] (.l 8 [] .nil .no) .no)) ?_ | fail); all_goals try (conv => whnf)
    refine ⟨by omega, ?_⟩
    rw [q2]
    (repeat' (conv => whnf); first | refine aC (fun _ => ?_) (fun _ => ?_) | refine aS ?_ | refine aG ?_ | refine aD ?_ | refine aH ?_ | refine aP_Fm ?_ | refine aI ?_ | refine aJ ?_ | refine aW (.qs [0, 1, 2, 3, 4, 5, 6] (.l 7 [] (.l 8 [] .nil .no) .no)) ?_ | (refine aK [] (rValid_ok w.num w.den) ?_) | fail); all_goals try (conv => whnf)
    · exact ⟨rfl, by unfold fnew; rw [if_neg hd0, hw]; unfold fenc; rw [if_neg (fun h => absurd (vf_enc_iff.2 h) (by assumption))]; rfl⟩
    · exact ⟨rfl, by unfold fnew; rw [if_neg hd0, hw]; unfold fenc; rw [if_pos (vf_enc_iff.1 (Classical.not_not.1 (by assumption)))]; rfl⟩
end Go.Proofs.YtgbmiacpjmchdaaGreat
end
section
namespace Go.Proofs.YtgbmiacpjmchdaaGreat
open Go.Sx Go.Np Go.Cv Go.Fq
set_option maxRecDepth 4000
set_option maxHeartbeats 2000000
theorem aP_Nv {A B K : Prop} (k : K) (a : A := by (simp only [zA, zT, zD, zC, zN, ints_len, zR, lnl, fll, stl]; omega)) (b : B := by (simp only [zA, zT, zD, zC, zN, ints_len, zR, lnl, fll, stl]; omega)) : (A ∧ B) ∧ K := ⟨⟨a, b⟩, k⟩
theorem rRate_ok (v : List Int) (p q : Int) : Ctr Tryz.prog 59 [crv v p q] [] (fun r o => o = [] ∧ r = res (rate v p q)) := by
  refine fn_intro (E := env 0) tys_ok rfl rfl rfl Tryz.func59 (by kernel_rfl) rfl (by kernel_rfl) ?_
  have hE : rate v p q = rate v p q := rfl
  conv at hE => rhs; unfold rate
  generalize rate v p q = R at *
  (repeat' (conv => whnf); first | refine aC (fun _ => ?_) (fun _ => ?_) | refine aS ?_ | refine aG ?_ | refine aD ?_ | refine aH ?_ | refine aP_Nv ?_ | refine aI ?_ | refine aJ ?_ | (refine aK [] (rCurve_ok v p q) ?_) | fail); all_goals try (conv => whnf)
  · exact ⟨rfl, by rw [hE, if_pos (by assumption)]; rfl⟩
  have hv := Classical.not_not.1 ‹¬¬ValidP v p q›
  rw [if_neg (fun h => h hv)] at hE
  refine aK [] (rFinite_ok v p q) ?_
  (repeat' (conv => whnf); first | refine aS ?_ | refine aG ?_ | refine aD ?_ | refine aH ?_ | refine aP_Nv ?_ | refine aI ?_ | refine aJ ?_ | fail); all_goals try (conv => whnf)
  refine CondOb.mk (fun h2 => ?_) (fun h2 => ?_)
  · (repeat' (conv => whnf); first | refine aC (fun _ => ?_) (fun _ => ?_) | refine aS ?_ | refine aG ?_ | refine aD ?_ | refine aH ?_ | refine aP_Nv ?_ | refine aI ?_ | refine aJ ?_ | fail); all_goals try (conv => whnf)
    exact ⟨rfl, by rw [hE, if_pos (fun h => h2 ⟨hv, h⟩)]; rfl⟩
  rw [if_neg (fun h => h2 fun k => h k.2)] at hE
  have hp2 := hv.2.2.2.1
  have hq := hv.2.2.2.2.2.1
  have hq2 := hv.2.2.2.2.2.2.1
  have hp1 := hv.2.2.1
  have cN := rNew_ok q p (by omega) (by omega)
  generalize fnew q p = z at *
  (repeat' (conv => whnf); first | refine aC (fun _ => ?_) (fun _ => ?_) | refine aS ?_ | refine aG ?_ | refine aD ?_ | refine aH ?_ | refine aP_Nv ?_ | refine aI ?_ | refine aJ ?_ | (refine aK [] cN ?_) | fail); all_goals try (conv => whnf)
  exact ⟨rfl, by rw [hE]; rfl⟩
end Go.Proofs.YtgbmiacpjmchdaaGreat
end
section
namespace Go.Proofs.YtgbmiacpjmchdaaGreat
open Go.Sx Go.Fq
set_option maxRecDepth 4000
set_option maxHeartbeats 2000000
theorem aP_Fa {A B K : Prop} (k : K) (a : A := by (simp only [zA, zT, zD, zC, zN, ints_len, zR, lnl, fll, stl]; omega)) (b : B := by (simp only [zA, zT, zD, zC, zN, ints_len, zR, lnl, fll, stl]; omega)) : (A ∧ B) ∧ K := ⟨⟨a, b⟩, k⟩
theorem rAdd_ok (x y u v : Int) : Ctr Tryz.prog 60 [.agg [i64 x, i64 y], .agg [i64 u, i64 v]] [] (fun r o => o = [] ∧ r = res (fadd (x, y) (u, v))) := by
  refine fn_intro (E := env 0) tys_ok rfl rfl rfl Tryz.func60 (by kernel_rfl) rfl (by kernel_rfl) ?_
  (repeat' (conv => whnf); first | refine aC (fun _ => ?_) (fun _ => ?_) | refine aS ?_ | refine aG ?_ | refine aD ?_ | refine aH ?_ | refine aP_Fa ?_ | refine aI ?_ | refine aJ ?_ | (refine aK [] (rValid_ok x y) ?_) | (refine aK [] (rValid_ok u v) ?_) | fail); all_goals try (conv => whnf)
  · exact ⟨rfl, by unfold fadd; rw [if_neg (fun h => absurd h.1 (by assumption))]; rfl⟩
  · exact ⟨rfl, by unfold fadd; rw [if_neg (fun h => absurd h.2 (by assumption))]; rfl⟩
  have h1 := Classical.not_not.1 ‹¬¬VF (x, y)›
  have h2 := Classical.not_not.1 ‹¬¬VF (u, v)›
  have hb := vf_mul h1 h2
  dsimp only at hb
  (repeat' (conv => whnf); first | refine aC (fun _ => ?_) (fun _ => ?_) | refine aS ?_ | refine aG ?_ | refine aD ?_ | refine aH ?_ | refine aP_Fa ?_ | refine aI ?_ | refine aJ ?_ | (refine aK [] (rNew_ok (x * v + u * y) (y * v) (by omega) (by omega)) ?_) | fail); all_goals try (conv => whnf)
  exact ⟨rfl, by unfold fadd; rw [if_pos ⟨h1, h2⟩, ← h1.add h2]; rfl⟩
end Go.Proofs.YtgbmiacpjmchdaaGreat
end
