/-
  A text of the proofs of this seat: lemmas that the statements' proofs use; it states nothing of the program by itself beyond the contracts that its theorems bear. Conditions: those that stand in each theorem. Its short name: Fn Ny.
-/
import Derived.Test.YtgbmiacpjmchdaaGreatLib
import Derived.Test.YtgbmiacpjmchdaaGreatPl
import Derived.Test.YtgbmiacpjmchdaaGreatNx
set_option linter.unusedVariables false
set_option linter.unusedSimpArgs false
section
namespace Go.Proofs.YtgbmiacpjmchdaaGreat
open Go.Sx Go.Fq
set_option maxRecDepth 4000
set_option maxHeartbeats 2000000
/-! the fractions: both implementations -/
abbrev u64 (n : Nat) : SV := .num .u64 n
abbrev res (x : R) : SV := .tup [.agg [i64 x.1, i64 x.2.1], i64 x.2.2]
theorem aP_Fn {A B K : Prop} (k : K) (a : A := by (simp only [zA, zT, zD, zC, zN, ints_len, zR, lnl, fll, stl]; omega)) (b : B := by (simp only [zA, zT, zD, zC, zN, ints_len, zR, lnl, fll, stl]; omega)) : (A ∧ B) ∧ K := ⟨⟨a, b⟩, k⟩
theorem divisor_ok (a b : Nat) (ha : a < 18446744073709551616) (hb : b < 18446744073709551616) : Ctr Tryz.prog 106 [u64 a, u64 b] [] (fun r o => o = [] ∧ r = u64 (Nat.gcd a b)) := by
  refine fn_intro (E := env 0) tys_ok rfl rfl rfl Tryz.func106 (by kernel_rfl) rfl (by kernel_rfl) ?_
  (repeat' (conv => whnf); first | refine aC (fun _ => ?_) (fun _ => ?_) | refine aS ?_ | refine aG ?_ | refine aD ?_ | refine aH ?_ | refine aP_Fn ?_ | refine aI ?_ | refine aJ ?_ | fail); all_goals try (conv => whnf)
  refine LoopOb.mk (Y := Nat × Nat) (st := fun y => ⟨[(0, u64 y.1), (1, u64 y.2)], []⟩)
    (inv := fun y => Nat.gcd y.1 y.2 = Nat.gcd a b) (fun y => y.2) (a, b) [] rfl (by (exact aL)) ?_
  rintro ⟨x, y⟩ hg
  replace hg : Nat.gcd x y = Nat.gcd a b := hg
  (repeat' (conv => whnf); first | refine aC (fun _ => ?_) (fun _ => ?_) | refine aS ?_ | refine aG ?_ | refine aD ?_ | refine aH ?_ | refine aP_Fn ?_ | refine aI ?_ | refine aJ ?_ | refine aW (.qs [0, 1, 2, 3, 4, 5] .nil) ?_ | fail); all_goals try (conv => whnf)
  · have hy0 : (y : Int) ≠ 0 := by assumption
    have e : (x : Int).tmod y = (x % y : Nat) := by rw [Int.tmod_eq_emod_of_nonneg (by omega)]; rfl
    refine ⟨hy0, ?_⟩
    (repeat' (conv => whnf); first | refine aC (fun _ => ?_) (fun _ => ?_) | refine aS ?_ | refine aG ?_ | refine aD ?_ | refine aH ?_ | refine aP_Fn ?_ | refine aI ?_ | refine aJ ?_ | refine aW (.qs [0, 1, 2, 3, 4, 5] .nil) ?_ | fail); all_goals try (conv => whnf)
    refine ⟨(y, x % y), [], ?_, Nat.mod_lt _ (by omega), by (exact aL)⟩
    rw [← hg]
    simp only
    rw [Nat.gcd_comm x y, Nat.gcd_rec y x, Nat.gcd_comm]
  · have hy0 : ¬(y : Int) ≠ 0 := by assumption
    have : y = 0 := by omega
    subst this
    refine ⟨rfl, ?_⟩
    rw [← hg]
    simp [oneS]
theorem size_ok (n : Int) (hn : -9223372036854775808 ≤ n ∧ n ≤ 9223372036854775807) : Ctr Tryz.prog 105 [i64 n] [] (fun r o => o = [] ∧ r = u64 n.natAbs) := by
  refine fn_intro (E := env 0) tys_ok rfl rfl rfl Tryz.func105 (by kernel_rfl) rfl (by kernel_rfl) ?_
  (repeat' (conv => whnf); first | (refine aC (fun _ => ?_) (fun _ => ?_) <;> try (exfalso; omega)) | refine aS ?_ | refine aG ?_ | refine aD ?_ | refine aH ?_ | refine aP_Fn ?_ | refine aI ?_ | refine aJ ?_ | fail); all_goals try (conv => whnf)
  · refine ⟨rfl, ?_⟩
    show SV.num IntKind.u64 _ = SV.num IntKind.u64 _
    congr 1; omega
  · refine ⟨rfl, ?_⟩
    show SV.num IntKind.u64 _ = SV.num IntKind.u64 _
    congr 1; omega
theorem vf_nat {x y : Int} : VF (x, y) ↔ 1 ≤ y ∧ y ≤ 1073741824 ∧ -1073741824 ≤ x ∧ x ≤ 1073741824 ∧ Nat.gcd x.natAbs y.natAbs = 1 := Iff.rfl
theorem fValid_ok (x y : Int) : Ctr Tryz.prog 89 [.agg [i64 x, i64 y]] [] (fun r o => o = [] ∧ r = .bp (VF (x, y))) := by
  refine Ctr.imp ?_
  refine fn_intro (E := env 0) tys_ok rfl rfl rfl Tryz.func89 (by kernel_rfl) rfl (by kernel_rfl) ?_
  (repeat' (conv => whnf); first | (refine aC (fun _ => ?_) (fun _ => ?_) <;> try (exfalso; omega)) | refine aS ?_ | refine aG ?_ | refine aD ?_ | refine aH ?_ | refine aP_Fn ?_ | refine aI ?_ | refine aJ ?_ | refine aW (.qs [0, 1, 2, 3, 4, 5, 6, 7, 8, 9, 10, 11, 12, 13, 14, 15, 16, 17, 18, 19, 20, 22, 23, 24] (.l 21 [23] (.l 25 [] (.qs [26, 27, 28] .nil) .no) .no)) ?_ | (refine aK [] (size_ok x (by omega)) ?_) | (refine CallOb.mk [] (divisor_ok x.natAbs y.natAbs (by omega) (by omega)) rfl ⟨Imp.refl _, Imp.num (by omega), trivial⟩ rfl rfl ?_; rintro _ _ ⟨rfl, rfl⟩) | fail); all_goals try (conv => whnf)
  all_goals rw [vf_nat]
  · exact ⟨rfl, Imp.bp (by omega)⟩
  all_goals exact ⟨rfl, Imp.bl ⟨fun h => (by cases h), fun h => by omega⟩⟩
theorem fNew_ok (n d : Int) (hn : -9223372036854775808 ≤ n ∧ n ≤ 9223372036854775807) (hd : -9223372036854775808 ≤ d ∧ d ≤ 9223372036854775807) :
    Ctr Tryz.prog 88 [i64 n, i64 d] [] (fun r o => o = [] ∧ r = res (fnew n d)) := by
  refine fn_intro (E := env 0) tys_ok rfl rfl rfl Tryz.func88 (by kernel_rfl) rfl (by kernel_rfl) ?_
  (repeat' (conv => whnf); first | (refine aC (fun _ => ?_) (fun _ => ?_) <;> try (exfalso; omega)) | refine aS ?_ | refine aG ?_ | refine aD ?_ | refine aH ?_ | refine aP_Fn ?_ | refine aI ?_ | refine aJ ?_ | refine aW (.qs [0, 1, 2, 3, 4, 5, 6, 7] .nil) ?_ | (refine aK [] (size_ok n hn) ?_) | (refine aK [] (size_ok d hd) ?_) | (refine aK [] (divisor_ok n.natAbs d.natAbs (by omega) (by omega)) ?_) | fail); all_goals try (conv => whnf)
  · refine ⟨rfl, ?_⟩
    unfold fnew; rw [if_pos (by assumption)]; rfl
  have hd0 : d ≠ 0 := by assumption
  have hg : 0 < Nat.gcd n.natAbs d.natAbs := Nat.gcd_pos_of_pos_right _ (by omega)
  have e1 : (n.natAbs : Int).tdiv (Nat.gcd n.natAbs d.natAbs : Nat) = (n.natAbs / Nat.gcd n.natAbs d.natAbs : Nat) := by rw [Int.tdiv_eq_ediv_of_nonneg (by omega)]; rfl
  have e2 : (d.natAbs : Int).tdiv (Nat.gcd n.natAbs d.natAbs : Nat) = (d.natAbs / Nat.gcd n.natAbs d.natAbs : Nat) := by rw [Int.tdiv_eq_ediv_of_nonneg (by omega)]; rfl
  have b1 : n.natAbs / Nat.gcd n.natAbs d.natAbs ≤ n.natAbs := Nat.div_le_self _ _
  have b2 : d.natAbs / Nat.gcd n.natAbs d.natAbs ≤ d.natAbs := Nat.div_le_self _ _
  have hf := fnew_eq n d hd0
  generalize n.natAbs / Nat.gcd n.natAbs d.natAbs = x at *
  generalize d.natAbs / Nat.gcd n.natAbs d.natAbs = y at *
  rw [hf]
  refine ⟨by omega, ?_⟩
  rw [e1]
  (repeat' (conv => whnf); first | (refine aC (fun _ => ?_) (fun _ => ?_) <;> try (exfalso; omega)) | refine aS ?_ | refine aG ?_ | refine aD ?_ | refine aH ?_ | refine aP_Fn ?_ | refine aI ?_ | refine aJ ?_ | refine aW (.qs [0, 1, 2, 3, 4, 5, 6, 7] .nil) ?_ | fail); all_goals try (conv => whnf)
  refine ⟨by omega, ?_⟩
  rw [e2]
  (repeat' (conv => whnf); first | (refine aC (fun _ => ?_) (fun _ => ?_) <;> try (exfalso; omega)) | refine aS ?_ | refine aG ?_ | refine aD ?_ | refine aH ?_ | refine aP_Fn ?_ | refine aI ?_ | refine aJ ?_ | refine aW (.qs [0, 1, 2, 3, 4, 5, 6, 7] .nil) ?_ | fail); all_goals try (conv => whnf)
  · exact ⟨rfl, by rw [if_pos (by omega)]; rfl⟩
  · exact ⟨rfl, by rw [if_pos (by omega)]; rfl⟩
  · exact ⟨rfl, by rw [if_neg (by omega), if_neg (by assumption)]; simp only [oneS, Int.zero_sub]⟩
  · exact ⟨rfl, by rw [if_neg (by omega), if_pos (Classical.not_not.1 (by assumption))]; rfl⟩
theorem mul_na {x y : Int} {k : Nat} (hx : x.natAbs ≤ k) (hy : y.natAbs ≤ k) : (x * y).natAbs ≤ k * k := by rw [Int.natAbs_mul]; exact Nat.mul_le_mul hx hy
theorem vf_mul {a b : F} (h : VF a) (k : VF b) : -1152921504606846976 ≤ a.1 * b.1 ∧ a.1 * b.1 ≤ 1152921504606846976 ∧ -1152921504606846976 ≤ a.1 * b.2 ∧ a.1 * b.2 ≤ 1152921504606846976 ∧
    -1152921504606846976 ≤ b.1 * a.2 ∧ b.1 * a.2 ≤ 1152921504606846976 ∧ -1152921504606846976 ≤ a.2 * b.2 ∧ a.2 * b.2 ≤ 1152921504606846976 ∧ -1152921504606846976 ≤ a.2 * b.1 ∧ a.2 * b.1 ≤ 1152921504606846976 := by
  obtain ⟨h1, h2, h3, h4, _⟩ := h
  obtain ⟨k1, k2, k3, k4, _⟩ := k
  have a1 := mul_na (x := a.1) (y := b.1) (k := 1073741824) (by omega) (by omega)
  have a2 := mul_na (x := a.1) (y := b.2) (k := 1073741824) (by omega) (by omega)
  have a3 := mul_na (x := b.1) (y := a.2) (k := 1073741824) (by omega) (by omega)
  have a4 := mul_na (x := a.2) (y := b.2) (k := 1073741824) (by omega) (by omega)
  have a5 := mul_na (x := a.2) (y := b.1) (k := 1073741824) (by omega) (by omega)
  omega
theorem fCompare_ok (x y u v : Int) : Ctr Tryz.prog 61 [.agg [i64 x, i64 y], .agg [i64 u, i64 v]] [] (fun r o => o = [] ∧ r = i64 (fcmp (x, y) (u, v))) := by
  refine fn_intro (E := env 0) tys_ok rfl rfl rfl Tryz.func61 (by kernel_rfl) rfl (by kernel_rfl) ?_
  (repeat' (conv => whnf); first | refine aC (fun _ => ?_) (fun _ => ?_) | refine aS ?_ | refine aG ?_ | refine aD ?_ | refine aH ?_ | refine aP_Fn ?_ | refine aI ?_ | refine aJ ?_ | refine aW (.qs [0, 1, 2, 3, 4, 5, 6, 7, 8, 9, 10, 11] .nil) ?_ | (refine aK [] (fValid_ok x y) ?_) | (refine aK [] (fValid_ok u v) ?_) | fail); all_goals try (conv => whnf)
  · exact ⟨rfl, by unfold fcmp; rw [if_neg (fun h => absurd h.1 (by assumption))]; rfl⟩
  · exact ⟨rfl, by unfold fcmp; rw [if_neg (fun h => absurd h.2 (by assumption))]; rfl⟩
  have h1 := Classical.not_not.1 ‹¬¬VF (x, y)›
  have h2 := Classical.not_not.1 ‹¬¬VF (u, v)›
  have hb := vf_mul h1 h2
  have hc := h1.cmp h2
  have hd := h2.cmp h1
  dsimp only at hb hc hd
  (repeat' (conv => whnf); first | refine aC (fun _ => ?_) (fun _ => ?_) | refine aS ?_ | refine aG ?_ | refine aD ?_ | refine aH ?_ | refine aP_Fn ?_ | refine aI ?_ | refine aJ ?_ | refine aW (.qs [0, 1, 2, 3, 4, 5, 6, 7, 8, 9, 10, 11] .nil) ?_ | fail); all_goals try (conv => whnf)
  · exact ⟨rfl, by unfold fcmp; rw [if_pos ⟨h1, h2⟩, if_pos (hc.1 (by assumption))]; rfl⟩
  · exact ⟨rfl, by unfold fcmp; rw [if_pos ⟨h1, h2⟩, if_neg (fun h => absurd (hc.2 h) (by assumption)), if_pos (hd.1 (by assumption))]; rfl⟩
  · exact ⟨rfl, by unfold fcmp; rw [if_pos ⟨h1, h2⟩, if_neg (fun h => absurd (hc.2 h) (by assumption)), if_neg (fun h => absurd (hd.2 h) (by assumption))]; rfl⟩
theorem fAdd_ok (x y u v : Int) : Ctr Tryz.prog 57 [.agg [i64 x, i64 y], .agg [i64 u, i64 v]] [] (fun r o => o = [] ∧ r = res (fadd (x, y) (u, v))) := by
  refine fn_intro (E := env 0) tys_ok rfl rfl rfl Tryz.func57 (by kernel_rfl) rfl (by kernel_rfl) ?_
  (repeat' (conv => whnf); first | refine aC (fun _ => ?_) (fun _ => ?_) | refine aS ?_ | refine aG ?_ | refine aD ?_ | refine aH ?_ | refine aP_Fn ?_ | refine aI ?_ | refine aJ ?_ | (refine aK [] (fValid_ok x y) ?_) | (refine aK [] (fValid_ok u v) ?_) | fail); all_goals try (conv => whnf)
  · exact ⟨rfl, by unfold fadd; rw [if_neg (fun h => absurd h.1 (by assumption))]; rfl⟩
  · exact ⟨rfl, by unfold fadd; rw [if_neg (fun h => absurd h.2 (by assumption))]; rfl⟩
  have h1 := Classical.not_not.1 ‹¬¬VF (x, y)›
  have h2 := Classical.not_not.1 ‹¬¬VF (u, v)›
  have hb := vf_mul h1 h2
  dsimp only at hb
  (repeat' (conv => whnf); first | refine aC (fun _ => ?_) (fun _ => ?_) | refine aS ?_ | refine aG ?_ | refine aD ?_ | refine aH ?_ | refine aP_Fn ?_ | refine aI ?_ | refine aJ ?_ | (refine aK [] (fNew_ok (x * v + u * y) (y * v) (by omega) (by omega)) ?_) | fail); all_goals try (conv => whnf)
  exact ⟨rfl, by unfold fadd; rw [if_pos ⟨h1, h2⟩, ← h1.add h2]; rfl⟩
end Go.Proofs.YtgbmiacpjmchdaaGreat
end
section
namespace Go.Proofs.YtgbmiacpjmchdaaGreat
open Go.Sx Go.Np Go.Cv Go.Fq
set_option maxRecDepth 4000
set_option maxHeartbeats 2000000
open Classical in
noncomputable def rate (v : List Int) (p q : Int) : Int × Int × Int := if ¬ValidP v p q then (0, 0, 1) else if ¬FinP v then (0, 0, 2) else fnew q p
theorem rate_e (q p : Int) (h : p ≠ 0) : (fnew q p).2.2 = 0 ∨ fnew q p = (0, 0, 3) := by
  unfold fnew fenc; rw [if_neg h]; split
  · exact .inl rfl
  · exact .inr rfl
theorem aP_Ny {A B K : Prop} (k : K) (a : A := by (simp only [zA, zT, zD, zC, zN, ints_len, zR, lnl, fll, stl]; omega)) (b : B := by (simp only [zA, zT, zD, zC, zN, ints_len, zR, lnl, fll, stl]; omega)) : (A ∧ B) ∧ K := ⟨⟨a, b⟩, k⟩
theorem Rate_ok (v : List Int) (p q : Int) : Ctr Tryz.prog 56 [crv v p q] [] (fun r o => o = [] ∧ r = res (rate v p q)) := by
  refine fn_intro (E := env 0) tys_ok rfl rfl rfl Tryz.func56 (by kernel_rfl) rfl (by kernel_rfl) ?_
  have hE : rate v p q = rate v p q := rfl
  conv at hE => rhs; unfold rate
  generalize rate v p q = R at *
  (repeat' (conv => whnf); first | refine aC (fun _ => ?_) (fun _ => ?_) | refine aS ?_ | refine aG ?_ | refine aD ?_ | refine aH ?_ | refine aP_Ny ?_ | refine aI ?_ | refine aJ ?_ | (refine aK [] (curve_ok v p q) ?_) | fail); all_goals try (conv => whnf)
  · exact ⟨rfl, by rw [hE, if_pos (by assumption)]; rfl⟩
  have hv := Classical.not_not.1 ‹¬¬ValidP v p q›
  rw [if_neg (fun h => h hv)] at hE
  refine aK [] (cFinite_ok v p q) ?_
  (repeat' (conv => whnf); first | refine aS ?_ | refine aG ?_ | refine aD ?_ | refine aH ?_ | refine aP_Ny ?_ | refine aI ?_ | refine aJ ?_ | fail); all_goals try (conv => whnf)
  refine CondOb.mk (fun h2 => ?_) (fun h2 => ?_)
  · (repeat' (conv => whnf); first | refine aC (fun _ => ?_) (fun _ => ?_) | refine aS ?_ | refine aG ?_ | refine aD ?_ | refine aH ?_ | refine aP_Ny ?_ | refine aI ?_ | refine aJ ?_ | fail); all_goals try (conv => whnf)
    exact ⟨rfl, by rw [hE, if_pos (fun h => h2 ⟨hv, h⟩)]; rfl⟩
  rw [if_neg (fun h => h2 fun k => h k.2)] at hE
  have hp : p ≠ 0 := by have := hv.2.2.1; omega
  have hp2 := hv.2.2.2.1
  have hq := hv.2.2.2.2.2.1
  have hq2 := hv.2.2.2.2.2.2.1
  have hp1 := hv.2.2.1
  have cN := fNew_ok q p (by omega) (by omega)
  have he := rate_e q p hp
  generalize fnew q p = z at *
  (repeat' (conv => whnf); first | refine aC (fun _ => ?_) (fun _ => ?_) | refine aS ?_ | refine aG ?_ | refine aD ?_ | refine aH ?_ | refine aP_Ny ?_ | refine aI ?_ | refine aJ ?_ | (refine aK [] cN ?_) | fail); all_goals try (conv => whnf)
  · rcases he with he | he
    · exact absurd he (by assumption)
    · exact ⟨rfl, by rw [hE, he]; rfl⟩
  · have h0 : z.2.2 = 0 := Classical.not_not.1 (by assumption)
    exact ⟨rfl, by rw [hE]; simp only [oneS, res, h0]⟩
end Go.Proofs.YtgbmiacpjmchdaaGreat
end
