/-
  A text of the proofs of this seat: lemmas that the statements' proofs use; it states nothing of the program by itself beyond the contracts that its theorems bear. Conditions: those that stand in each theorem. Its short name: E1 W6.
-/
import Derived.Test.YtifcdempdcolkabW4
import Derived.Test.YtifcdempdcolkabW2
import Derived.Test.YtifcdempdcolkabK3
import Derived.Test.YtifcdempdcolkabDc
set_option linter.unusedVariables false
set_option linter.unusedSimpArgs false
section
namespace Go.Proofs.Ytifcdempdcolkab
open Go.Sx Go.Cv
set_option maxRecDepth 4000
set_option maxHeartbeats 2000000
/- no bound -/
def loo (a b : C3) : Prop := FinC a ∧ FinC b ∧ 0 < drf a b
def DPrepE (vs : List Int) (p q : Int) (ws : List Int) (p' q' : Int) (e : Int) : Prop :=
  (e = 1 ∧ (¬ValidP vs p q ∨ ¬ValidP ws p' q')) ∨ (∃ a b, Prep vs p q ws p' q' a b ∧ (e = 6 ∧ cv b 0 ≠ 0 ∨ e = 3 ∧ cv b 0 = 0 ∧ 120 < com a b))
abbrev dpr (a b : C3) : List SV := [.psl 1 (ints a.1), i64 a.2.1, i64 a.2.2, .psl 1 (ints b.1), i64 b.2.1, i64 b.2.2, i64 (rch a b), .bp (loo a b)]
abbrev dpr0 : SV := .agg [.nil, i64 0, i64 0, .nil, i64 0, i64 0, i64 0, .bl false]
def DBothP (vs : List Int) (p q : Int) (ws : List Int) (p' q' : Int) (r : SV) : Prop :=
  (∃ e, DPrepE vs p q ws p' q' e ∧ r = .tup [dpr0, i64 e]) ∨ (∃ a b, Prep vs p q ws p' q' a b ∧ cv b 0 = 0 ∧ com a b ≤ 120 ∧ Imp r (.tup [.agg (dpr a b), i64 0]))
theorem aP_E1 {A B K : Prop} (k : K) (a : A := by (simp only [zA, zT, zD, zC, zN, ints_len, zR, Go.Cv.vals_len]; omega)) (b : B := by (simp only [zA, zT, zD, zC, zN, ints_len, zR, Go.Cv.vals_len]; omega)) : (A ∧ B) ∧ K := ⟨⟨a, b⟩, k⟩
theorem WGain_ok (a : C3) (l : Nat) (ha : VC a) (hl : l ≤ 120) : Ctr Try.prog 66 [crv a.1 a.2.1 a.2.2, i64 l] [] (fun r o => o = [] ∧ r = i64 (((l / a.2.1 : Nat) : Int) * a.2.2)) := by
  obtain ⟨av, pa, aq⟩ := a
  refine fn_intro (E := env 0) tys_ok rfl rfl rfl Try.func66 (by kernel_rfl) rfl (by kernel_rfl) ?_
  have p1 : 1 ≤ pa := ha.p1
  have q0 : 0 ≤ aq := ha.q0
  have q1 : aq ≤ 1073741824 := ha.q1
  have e1 : (l : Int).tdiv pa = ((l / pa : Nat) : Int) := by rw [Int.tdiv_eq_ediv_of_nonneg (by omega)]; rfl
  have d1 : l / pa ≤ l := Nat.div_le_self _ _
  dsimp only
  have m1 := mul_bd (a := ((l / pa : Nat) : Int)) (b := aq) (A := 120) (B := 1073741824) (Int.natCast_nonneg _) (by omega) q0 q1
  generalize l / pa = k at *
  (repeat' (conv => whnf); first | refine aC (fun _ => ?_) (fun _ => ?_) | refine aS ?_ | refine aG ?_ | refine aD ?_ | refine aH ?_ | refine aP_E1 ?_ | refine aI ?_ | refine aJ ?_ | refine aW (.qs [0, 1, 2, 3, 4, 5, 6, 7] .nil) ?_ | fail); all_goals try (conv => whnf)
  refine ⟨by omega, ?_⟩
  rw [e1]
  (repeat' (conv => whnf); first | refine aC (fun _ => ?_) (fun _ => ?_) | refine aS ?_ | refine aG ?_ | refine aD ?_ | refine aH ?_ | refine aP_E1 ?_ | refine aI ?_ | refine aJ ?_ | refine aW (.qs [0, 1, 2, 3, 4, 5, 6, 7] .nil) ?_ | fail); all_goals try (conv => whnf)
  exact ⟨rfl, rfl⟩
theorem dboth_ok (vs : List Int) (p q : Int) (ws : List Int) (p' q' : Int) (hv : vs.length ≤ 140737488355328) (hw : ws.length ≤ 140737488355328) :
    Ctr Try.prog 57 [crv vs p q, crv ws p' q'] [] (fun r o => o = [] ∧ DBothP vs p q ws p' q' r) := by
  refine fn_intro (E := env 0) tys_ok rfl rfl rfl Try.func57 (by kernel_rfl) rfl (by kernel_rfl) ?_
  (repeat' (conv => whnf); first | refine aC (fun _ => ?_) (fun _ => ?_) | refine aS ?_ | refine aG ?_ | refine aD ?_ | refine aH ?_ | refine aP_E1 ?_ | refine aI ?_ | refine aJ ?_ | fail); all_goals try (conv => whnf)
  refine CallOb.mk [] (CNormal_ok vs p q hv) rfl (ImpL.refl _) rfl rfl ?_
  rintro _ _ ⟨⟨av, ap, aq, ea⟩, hA, rfl, rfl⟩
  dsimp only
  (repeat' (conv => whnf); first | refine aC (fun _ => ?_) (fun _ => ?_) | refine aS ?_ | refine aG ?_ | refine aD ?_ | refine aH ?_ | refine aP_E1 ?_ | refine aI ?_ | refine aJ ?_ | fail); all_goals try (conv => whnf)
  · have he : ea ≠ 0 := by assumption
    obtain ⟨h1, h2⟩ := normP_ne hA he
    cases h2
    exact ⟨rfl, .inl ⟨1, .inl ⟨rfl, .inl h1⟩, rfl⟩⟩
  have h1 : ea = 0 := Classical.not_not.1 (by assumption)
  subst h1
  refine CallOb.mk [] (CNormal_ok ws p' q' hw) rfl (ImpL.refl _) rfl rfl ?_
  rintro _ _ ⟨⟨bv, bp, bq, eb⟩, hB, rfl, rfl⟩
  dsimp only
  (repeat' (conv => whnf); first | refine aC (fun _ => ?_) (fun _ => ?_) | refine aS ?_ | refine aG ?_ | refine aD ?_ | refine aH ?_ | refine aP_E1 ?_ | refine aI ?_ | refine aJ ?_ | fail); all_goals try (conv => whnf)
  · have he : eb ≠ 0 := by assumption
    obtain ⟨h1, h2⟩ := normP_ne hB he
    cases h2
    exact ⟨rfl, .inl ⟨1, .inl ⟨rfl, .inr h1⟩, rfl⟩⟩
  have h2 : eb = 0 := Classical.not_not.1 (by assumption)
  subst h2
  obtain ⟨p0, pa, rfl, hpa, vf, nf, va⟩ := norm_ok hA
  obtain ⟨p0', pb, rfl, hpb, vg, ng, vb⟩ := norm_ok hB
  simp only at hpa hpb nf ng va vb
  subst hpa
  subst hpb
  have hP : Prep vs p0 q ws p0' q' (av, pa, aq) (bv, pb, bq) := ⟨⟨p0, rfl, vf, nf⟩, ⟨p0', rfl, vg, ng⟩, va, vb⟩
  have a1 := va.p1
  have a2 := va.p2
  have b1 := vb.p1
  have b2 := vb.p2
  have a3 := va.pn
  have b3 := vb.pn
  have a4 := va.n2
  have b4 := vb.n2
  have b5 := vb.n1
  have hz : cv (bv, pb, bq) 0 = bv.getD 0 0 := cv_zero (x := (bv, pb, bq)) vb
  (repeat' (conv => whnf); first | refine aC (fun _ => ?_) (fun _ => ?_) | refine aS ?_ | refine aG ?_ | refine aD ?_ | refine aH ?_ | refine aP_E1 ?_ | refine aI ?_ | refine aJ ?_ | (refine aK [] (Common_ok pa pb a1 b1 (by omega) (by omega)) ?_) | fail); all_goals try (conv => whnf)
  · have h : ¬(bv.getD 0 0 = 0) := by assumption
    exact ⟨rfl, .inl ⟨6, .inr ⟨_, _, hP, .inl ⟨rfl, by rw [hz]; exact h⟩⟩, rfl⟩⟩
  · have h0 : bv.getD 0 0 = 0 := Classical.not_not.1 (by assumption)
    exact ⟨rfl, .inl ⟨3, .inr ⟨_, _, hP, .inr ⟨rfl, by rw [hz]; exact h0, by unfold com; dsimp only; omega⟩⟩, rfl⟩⟩
  have h0 : bv.getD 0 0 = 0 := Classical.not_not.1 (by assumption)
  have hle : com (av, pa, aq) (bv, pb, bq) ≤ 120 := by unfold com; dsimp only; omega
  refine DrawOb.cut [] (.qs [0, 1, 2] (.l 3 [1, 0] (.qs [4] (.l 5 [1, 0] (.l 6 [] .nil .no) .no)) (.l 5 [2, 1, 0] (.l 3 [1, 0] (.qs [4] (.l 6 [] .nil .no)) .no) .no))) (Y := Unit) (st := fun _ => ⟨[(10, .ptr 3 0), (9, i64 (com (av, pa, aq) (bv, pb, bq))), (8, .ptr 2 0), (6, .ptr 1 0), (4, .ptr 0 0)], [.box [.nil, i64 0, i64 0, .nil, i64 0, i64 0, i64 0, .bl false], .box [.psl 1 (ints av), i64 pa, i64 aq], .box [.psl 1 (ints bv), i64 pb, i64 bq], .box [.psl 1 (ints av), i64 pa, i64 aq, .psl 1 (ints bv), i64 pb, i64 bq, i64 (bv.length - pb : Nat), .bl false]]⟩) (inv := fun _ => True) (by decide +kernel) ?_ ?_
  · (repeat' (conv => whnf); first | refine And.intro ?_ ?_ | refine aC (fun _ => ?_) (fun _ => ?_) | refine aS ?_ | refine aG ?_ | refine aD ?_ | refine aH ?_ | refine aP_E1 ?_ | refine aI ?_ | refine aJ ?_ | (refine aK [] (Start_ok bv pb bq b3 (by omega)) ?_) | fail); all_goals try (conv => whnf)
    all_goals refine ⟨(), [2, 3, 4, 5], trivial, ?_⟩
    all_goals (exact aL)
  rintro - -
  have cG := WGain_ok (av, pa, aq) (com (av, pa, aq) (bv, pb, bq)) va hle
  have cH := WGain_ok (bv, pb, bq) (com (av, pa, aq) (bv, pb, bq)) vb hle
  have hd : drf (av, pa, aq) (bv, pb, bq) = ((com (av, pa, aq) (bv, pb, bq) / pa : Nat) : Int) * aq - ((com (av, pa, aq) (bv, pb, bq) / pb : Nat) : Int) * bq := by
    unfold drf; rw [Int.mul_comm aq, Int.mul_comm bq]
  have hr1 : FinP bv → rch (av, pa, aq) (bv, pb, bq) = max (av.length - pa) (bv.length - pb) + com (av, pa, aq) (bv, pb, bq) := fun h => if_pos (show FinC (bv, pb, bq) from h)
  have hr2 : ¬FinP bv → rch (av, pa, aq) (bv, pb, bq) = bv.length - pb := fun h => if_neg (show ¬FinC (bv, pb, bq) from h)
  have hL : loo (av, pa, aq) (bv, pb, bq) ↔ FinC (av, pa, aq) ∧ FinC (bv, pb, bq) ∧ 0 < drf (av, pa, aq) (bv, pb, bq) := Iff.rfl
  have hend : ∀ r, Imp r (.tup [.agg (dpr (av, pa, aq) (bv, pb, bq)), i64 0]) → DBothP vs p0 q ws p0' q' r := fun r h => .inr ⟨_, _, hP, by rw [hz]; exact h0, hle, h⟩
  dsimp only at cG cH
  generalize com (av, pa, aq) (bv, pb, bq) = l at *
  have eF : FinC (bv, pb, bq) ↔ FinP bv := Iff.rfl
  have eA : FinC (av, pa, aq) ↔ FinP av := Iff.rfl
  rw [eA, eF] at hL
  generalize ((l / pa : Nat) : Int) * aq = x at *
  generalize ((l / pb : Nat) : Int) * bq = y at *
  (repeat' (conv => whnf); first | (refine aC (fun _ => ?_) (fun _ => ?_) <;> try (exfalso; omega)) | refine aS ?_ | refine aG ?_ | refine aD ?_ | refine aH ?_ | refine aP_E1 ?_ | refine aI ?_ | refine aJ ?_ | refine aW (.qs [0, 2, 5] (.l 1 [2] (.l 3 [] (.qs [4, 6, 7] (.l 8 [] .nil .no)) .no) .no)) ?_ | refine aW (.qs [0] (.l 1 [] (.qs [2, 3, 4, 6, 7] (.l 5 [6] (.l 8 [] (.qs [9, 10, 11] (.l 12 [] .nil .no)) .no) .no)) .no)) ?_ | (refine aK [] (WFinite_ok bv pb bq b5 (by omega)) ?_) | (refine aK [] (WFinite_ok av pa aq va.n1 (by omega)) ?_) | (refine aK [] (Start_ok av pa aq a3 (by omega)) ?_) | (refine aK [] (Start_ok bv pb bq b3 (by omega)) ?_) | (refine aK [] cG ?_) | (refine aK [] cH ?_) | fail); all_goals try (conv => whnf)
  all_goals refine ⟨rfl, hend _ (Imp.tup ⟨Imp.agg ⟨Imp.refl _, Imp.refl _, Imp.refl _, Imp.refl _, Imp.refl _, Imp.refl _, Imp.num ?_, ?_, trivial⟩, Imp.refl _, trivial⟩)⟩
  all_goals first
    | (have := hr1 (by assumption); omega)
    | (have := hr2 (by assumption); omega)
    | exact Imp.bp ⟨fun h => hL.2 ⟨by assumption, by assumption, by rw [hd]; omega⟩, fun h => by have := (hL.1 h).2.2; rw [hd] at this; omega⟩
    | exact Imp.bl ⟨fun h => (by cases h), fun h => absurd (hL.1 h).1 (by assumption)⟩
    | exact Imp.bl ⟨fun h => (by cases h), fun h => absurd (hL.1 h).2.1 (by assumption)⟩
    | exact Imp.bp ⟨fun h => absurd h (by assumption), fun h => absurd (hL.1 h).1 (by assumption)⟩
    | trace_state
end Go.Proofs.Ytifcdempdcolkab
end
section
namespace Go.Proofs.Ytifcdempdcolkab
open Go.Sx Go.Cv
set_option maxRecDepth 4000
set_option maxHeartbeats 2000000
def lst (d : Nat → Int) (L t : Nat) : Int := if t = L then INF else wmn d (L - (t + 1)) (t + 1)
end Go.Proofs.Ytifcdempdcolkab
end
