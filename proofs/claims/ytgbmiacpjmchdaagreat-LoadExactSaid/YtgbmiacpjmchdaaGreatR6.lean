/-
  A text of the proofs of this seat: lemmas that the statements' proofs use; it states nothing of the program by itself beyond the contracts that its theorems bear. Conditions: those that stand in each theorem. Its short name: R6.
-/
import Derived.Test.YtgbmiacpjmchdaaGreatVa
import Derived.Test.YtgbmiacpjmchdaaGreatPl
set_option linter.unusedVariables false
set_option linter.unusedSimpArgs false
--APPX Go.Cv.vals_len
namespace Go.Proofs.YtgbmiacpjmchdaaGreat
open Go.Sx Go.Cv
set_option maxRecDepth 4000
abbrev crv3 (A : List Int × Int × Int) : SV := crv A.1 A.2.1 A.2.2
def PairP (vs : List Int) (p q : Int) (ws : List Int) (p' q' : Int) (A B : List Int × Int × Int) (l e : Int) : Prop :=
  ∃ ea eb, NormP vs p q A.1 A.2.1 A.2.2 ea ∧ NormP ws p' q' B.1 B.2.1 B.2.2 eb ∧
    (((ea ≠ 0 ∨ eb ≠ 0) ∧ l = 0 ∧ e = 1) ∨ (ea = 0 ∧ eb = 0 ∧ (120 < (Nat.lcm A.2.1.toNat B.2.1.toNat : Int) ∧ l = 0 ∧ e = 3 ∨ (Nat.lcm A.2.1.toNat B.2.1.toNat : Int) ≤ 120 ∧ l = (Nat.lcm A.2.1.toNat B.2.1.toNat : Int) ∧ e = 0)))
theorem norm_ok {vs p q vs' p' q'} (h : NormP vs p q vs' p' q' 0) : ∃ p0 p1 : Nat, p = p0 ∧ p' = p1 ∧ VF vs p0 q ∧ NF (val vs p0 q) vs' p1 q' ∧ VF vs' p1 q' := by
  rcases h with ⟨_, p0, p1, rfl, rfl, h1, h2⟩ | ⟨_, _, _, _, h⟩
  · exact ⟨p0, p1, rfl, rfl, h1, h2, (h2.vf h1).1⟩
  · cases h
theorem aP_R6 {A B K : Prop} (k : K) (a : A := by (simp only [zA, zT, zD, zC, zN, ints_len, zR, Go.Cv.vals_len]; omega)) (b : B := by (simp only [zA, zT, zD, zC, zN, ints_len, zR, Go.Cv.vals_len]; omega)) : (A ∧ B) ∧ K := ⟨⟨a, b⟩, k⟩
theorem Pair_ok (vs : List Int) (p q : Int) (ws : List Int) (p' q' : Int) :
    Ctr Tryz.prog 84 [crv vs p q, crv ws p' q'] [] (fun r o => ∃ x : (List Int × Int × Int) × (List Int × Int × Int) × Int × Int, PairP vs p q ws p' q' x.1 x.2.1 x.2.2.1 x.2.2.2 ∧ o = [] ∧ r = .tup [crv3 x.1, crv3 x.2.1, i64 x.2.2.1, i64 x.2.2.2]) := by
  refine Ctr.impE ?_
  refine fn_intro (E := env 0) tys_ok rfl rfl rfl Tryz.func84 (by kernel_rfl) rfl (by kernel_rfl) ?_
  (repeat' (conv => whnf); first | refine aC (fun _ => ?_) (fun _ => ?_) | refine aS ?_ | refine aG ?_ | refine aD ?_ | refine aH ?_ | refine aP_R6 ?_ | refine aI ?_ | refine aJ ?_ | fail); all_goals try (conv => whnf)
  refine CallOb.mk [] (Normal_ok vs p q) rfl (ImpL.refl _) rfl rfl ?_
  rintro _ _ ⟨⟨av, ap, aq, ea⟩, hA, rfl, rfl⟩
  simp only at hA
  (repeat' (conv => whnf); first | refine aC (fun _ => ?_) (fun _ => ?_) | refine aS ?_ | refine aG ?_ | refine aD ?_ | refine aH ?_ | refine aP_R6 ?_ | refine aI ?_ | refine aJ ?_ | fail); all_goals try (conv => whnf)
  refine CallOb.mk [] (Normal_ok ws p' q') rfl (ImpL.refl _) rfl rfl ?_
  rintro _ _ ⟨⟨bv, bp, bq, eb⟩, hB, rfl, rfl⟩
  simp only at hB
  (repeat' (conv => whnf); first | refine aC (fun _ => ?_) (fun _ => ?_) | refine aS ?_ | refine aG ?_ | refine aD ?_ | refine aH ?_ | refine aP_R6 ?_ | refine aI ?_ | refine aJ ?_ | refine aW (.qs [0, 1] (.l 2 [1] (.l 3 [] (.qs [4, 5] .nil) .no) .no)) ?_ | refine aW (.qs [0, 1] (.l 2 [1] (.l 3 [] (.qs [4, 5] .nil) .no) .no)) ?_ | refine aW (.qs [0, 1, 2] (.l 3 [1] (.l 4 [] (.qs [5, 6] .nil) .no) .no)) ?_ | fail); all_goals try (conv => whnf)
  · have he : ea ≠ 0 := by assumption
    exact ⟨((av, ap, aq), (bv, bp, bq), 0, 1), ⟨ea, eb, hA, hB, .inl ⟨.inl he, rfl, rfl⟩⟩, rfl, Imp.refl _⟩
  · have he : eb ≠ 0 := by assumption
    exact ⟨((av, ap, aq), (bv, bp, bq), 0, 1), ⟨ea, eb, hA, hB, .inl ⟨.inr he, rfl, rfl⟩⟩, rfl, Imp.refl _⟩
  · have h1 : ea = 0 := Classical.not_not.1 (by assumption)
    have h2 : eb = 0 := Classical.not_not.1 (by assumption)
    subst h1
    subst h2
    obtain ⟨_, pa, _, rfl, _, _, va⟩ := norm_ok hA
    obtain ⟨_, pb, _, rfl, _, _, vb⟩ := norm_ok hB
    have a1 := va.p1
    have a2 := va.p2
    have b1 := vb.p1
    have b2 := vb.p2
    refine aK [] (Lcm_ok pa pb (by omega) (by omega) (by omega) (by omega)) ?_
    (repeat' (conv => whnf); first | refine aC (fun _ => ?_) (fun _ => ?_) | refine aS ?_ | refine aG ?_ | refine aD ?_ | refine aH ?_ | refine aP_R6 ?_ | refine aI ?_ | refine aJ ?_ | refine aW (.qs [0, 1] (.l 2 [1] (.l 3 [] (.qs [4, 5] .nil) .no) .no)) ?_ | refine aW (.qs [0, 1] (.l 2 [1] (.l 3 [] (.qs [4, 5] .nil) .no) .no)) ?_ | refine aW (.qs [0, 1, 2] (.l 3 [1] (.l 4 [] (.qs [5, 6] .nil) .no) .no)) ?_ | fail); all_goals try (conv => whnf)
    · have h : (120 : Int) < Nat.lcm pa pb := by assumption
      exact ⟨((av, pa, aq), (bv, pb, bq), 0, 3), ⟨0, 0, hA, hB, .inr ⟨rfl, rfl, .inl ⟨h, rfl, rfl⟩⟩⟩, rfl, Imp.refl _⟩
    · have h : ¬(120 : Int) < Nat.lcm pa pb := by assumption
      exact ⟨((av, pa, aq), (bv, pb, bq), (Nat.lcm pa pb : Int), 0), ⟨0, 0, hA, hB, .inr ⟨rfl, rfl, .inr ⟨by simp only [Int.toNat_natCast]; omega, rfl, rfl⟩⟩⟩, rfl, Imp.refl _⟩
end Go.Proofs.YtgbmiacpjmchdaaGreat
