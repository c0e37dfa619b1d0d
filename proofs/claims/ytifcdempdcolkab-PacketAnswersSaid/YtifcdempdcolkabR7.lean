/-
  A text of the proofs of this seat: lemmas that the statements' proofs use; it states nothing of the program by itself beyond the contracts that its theorems bear. Conditions: those that stand in each theorem. Its short name: R7 E2.
-/
import Derived.Test.YtifcdempdcolkabE1
set_option linter.unusedVariables false
set_option linter.unusedSimpArgs false
section
namespace Go.Proofs.Ytifcdempdcolkab
open Go.Sx Go.Cv
set_option maxRecDepth 4000
set_option maxHeartbeats 2000000
theorem pair_prep {vs p q ws p' q' A B l e} (h : PairP vs p q ws p' q' A B l e) :
    (PrepE vs p q ws p' q' e ∧ e ≠ 0) ∨ (e = 0 ∧ ∃ a b : C3, Prep vs p q ws p' q' a b ∧ com a b ≤ 120 ∧ A = (a.1, (a.2.1 : Int), a.2.2) ∧ B = (b.1, (b.2.1 : Int), b.2.2) ∧ l = com a b) := by
  obtain ⟨ea, eb, hA, hB, h⟩ := h
  obtain ⟨A1, A2, A3⟩ := A
  obtain ⟨B1, B2, B3⟩ := B
  rcases h with ⟨h1, rfl, rfl⟩ | ⟨rfl, rfl, h⟩
  · refine .inl ⟨.inl ⟨rfl, ?_⟩, by omega⟩
    rcases h1 with h1 | h1
    · exact .inl (normP_ne (x := (A1, A2, A3, ea)) hA h1).1
    · exact .inr (normP_ne (x := (B1, B2, B3, eb)) hB h1).1
  · obtain ⟨p0, pa, rfl, hpa, vf, nf, va⟩ := norm_ok hA
    obtain ⟨p0', pb, rfl, hpb, vg, ng, vb⟩ := norm_ok hB
    simp only at hpa hpb nf ng va vb h
    subst hpa
    subst hpb
    have hP : Prep vs p0 q ws p0' q' (A1, pa, A3) (B1, pb, B3) := ⟨⟨p0, rfl, vf, nf⟩, ⟨p0', rfl, vg, ng⟩, va, vb⟩
    simp only [Int.toNat_natCast] at h
    rcases h with ⟨h1, rfl, rfl⟩ | ⟨h1, rfl, rfl⟩
    · exact .inl ⟨.inr ⟨rfl, _, _, hP, by unfold com; simp only; omega⟩, by omega⟩
    · exact .inr ⟨rfl, _, _, hP, by unfold com; simp only; omega, rfl, rfl, rfl⟩
theorem bd_vals {F : Nat → Int} {N P : Nat} {Q : Int} (hF : ∀ t, t < N → 0 ≤ F t ∧ F t ≤ INF) (h1 : 1 ≤ P) (h2 : P ≤ N) (h3 : N ≤ 2000) (h4 : 0 ≤ Q) (h5 : Q ≤ 1099511627776) : Bd (vals F N) P Q :=
  ⟨h1, by rw [vals_len]; exact h2, by rw [vals_len]; exact h3, h4, h5, fun j => by
    by_cases hj : j < N
    · rw [vals_get hj]; exact hF j hj
    · rw [List.getD_eq_getElem?_getD, List.getElem?_eq_none (by rw [vals_len]; omega)]; simp⟩
theorem RFin_ok (a : C3) (ha : VC a) : Ctr Try.prog 39 [crv a.1 a.2.1 a.2.2] [] (fun r o => o = [] ∧ r = .bp (FinC a)) :=
  (Finite_ok a.1 a.2.1 a.2.2).mono (fun r o ⟨h1, h2⟩ => ⟨h1, by rw [h2]; congr 1; exact propext ⟨fun h => h.2, fun h => ⟨ha.valid, h⟩⟩⟩)
theorem slopes_ok (a b : C3) (ha : VC a) (hb : VC b) (hc : com a b ≤ 120) : Ctr Try.prog 71 [crv a.1 a.2.1 a.2.2, crv b.1 b.2.1 b.2.2, i64 (com a b)] [] (fun r o => o = [] ∧ r = i64 (drf a b)) :=
  Slopes_ok a.1 b.1 a.2.1 b.2.1 (com a b) a.2.2 b.2.2 ha.p1 hb.p1 (by omega) ha.q0 hb.q0 (by have := ha.q1; omega) (by have := hb.q1; omega)
end Go.Proofs.Ytifcdempdcolkab
end
section
namespace Go.Proofs.Ytifcdempdcolkab
open Go.Sx Go.Cv
set_option maxRecDepth 4000
set_option maxHeartbeats 2000000
theorem aP_E2 {A B K : Prop} (k : K) (a : A := by (simp only [zA, zT, zD, zC, zN, ints_len, zR, Go.Cv.vals_len]; omega)) (b : B := by (simp only [zA, zT, zD, zC, zN, ints_len, zR, Go.Cv.vals_len]; omega)) : (A ∧ B) ∧ K := ⟨⟨a, b⟩, k⟩
/-! the deconvolution of the document -/
theorem dstart_ok (a : C3) (ha : VC a) : Ctr Try.prog 79 [crv a.1 a.2.1 a.2.2] [] (fun r o => o = [] ∧ r = i64 (a.1.length - a.2.1 : Nat)) := by
  obtain ⟨av, pa, aq⟩ := a
  refine fn_intro (E := env 0) tys_ok rfl rfl rfl Try.func79 (by kernel_rfl) rfl (by kernel_rfl) ?_
  have n2 : av.length ≤ 400 := ha.n2
  have pn : pa ≤ av.length := ha.pn
  have hl := ints_len av
  dsimp only
  rw [show ((av.length - pa : Nat) : Int) = (av.length : Int) - pa by omega]
  rw [← hl]
  (repeat' (conv => whnf); first | refine aC (fun _ => ?_) (fun _ => ?_) | refine aS ?_ | refine aG ?_ | refine aD ?_ | refine aH ?_ | refine aP_E2 ?_ | refine aI ?_ | refine aJ ?_ | fail); all_goals try (conv => whnf)
  exact ⟨rfl, rfl⟩
theorem dfinite_ok (a : C3) (ha : VC a) : Ctr Try.prog 70 [crv a.1 a.2.1 a.2.2] [] (fun r o => o = [] ∧ r = .bp (FinC a)) := by
  obtain ⟨av, pa, aq⟩ := a
  refine fn_intro (E := env 0) tys_ok rfl rfl rfl Try.func70 (by kernel_rfl) rfl (by kernel_rfl) ?_
  have n1 : 1 ≤ av.length := ha.n1
  have n2 : av.length ≤ 400 := ha.n2
  have hl := ints_len av
  dsimp only
  (repeat' (conv => whnf); first | refine ⟨av.length - 1, _, by omega, ints_get (by omega), ?_⟩ | refine aC (fun _ => ?_) (fun _ => ?_) | refine aS ?_ | refine aG ?_ | refine aD ?_ | refine aH ?_ | refine aP_E2 ?_ | refine aI ?_ | refine aJ ?_ | fail); all_goals try (conv => whnf)
  exact ⟨rfl, rfl⟩
theorem dsteeper_ok (a b : C3) (ha : VC a) (hb : VC b) (hc : com a b ≤ 120) : Ctr Try.prog 60 [crv a.1 a.2.1 a.2.2, crv b.1 b.2.1 b.2.2, i64 (com a b)] [] (fun r o => o = [] ∧ r = .bp (loo a b)) := by
  refine Ctr.imp ?_
  refine fn_intro (E := env 0) tys_ok rfl rfl rfl Try.func60 (by kernel_rfl) rfl (by kernel_rfl) ?_
  (repeat' (conv => whnf); first | refine aC (fun _ => ?_) (fun _ => ?_) | refine aS ?_ | refine aG ?_ | refine aD ?_ | refine aH ?_ | refine aP_E2 ?_ | refine aI ?_ | refine aJ ?_ | (refine aK [] (dfinite_ok a ha) ?_) | (refine aK [] (dfinite_ok b hb) ?_) | (refine aK [] (slopes_ok a b ha hb hc) ?_) | fail); all_goals try (conv => whnf)
  · exact ⟨rfl, Imp.bp ⟨fun h => ⟨by assumption, by assumption, h⟩, fun h => h.2.2⟩⟩
  · exact ⟨rfl, Imp.bl ⟨fun h => (by cases h), fun h => absurd h.2.1 (by assumption)⟩⟩
  · exact ⟨rfl, Imp.bl ⟨fun h => (by cases h), fun h => absurd h.1 (by assumption)⟩⟩
theorem dreach_ok (a b : C3) (ha : VC a) (hb : VC b) (hc : com a b ≤ 120) : Ctr Try.prog 72 [crv a.1 a.2.1 a.2.2, crv b.1 b.2.1 b.2.2, i64 (com a b)] [] (fun r o => o = [] ∧ r = i64 (rch a b)) := by
  refine fn_intro (E := env 0) tys_ok rfl rfl rfl Try.func72 (by kernel_rfl) rfl (by kernel_rfl) ?_
  have a2 := ha.n2
  have b2 := hb.n2
  (repeat' (conv => whnf); first | refine aC (fun _ => ?_) (fun _ => ?_) | refine aS ?_ | refine aG ?_ | refine aD ?_ | refine aH ?_ | refine aP_E2 ?_ | refine aI ?_ | refine aJ ?_ | refine aW (.qs [0, 2, 5] (.l 1 [2] (.l 3 [] (.qs [4, 6, 7] .nil) .no) .no)) ?_ | (refine aK [] (dfinite_ok b hb) ?_) | (refine aK [] (dstart_ok a ha) ?_) | (refine aK [] (dstart_ok b hb) ?_) | fail); all_goals try (conv => whnf)
  · have h : ¬FinC b := by assumption
    exact ⟨rfl, by unfold rch; rw [if_neg h]; rfl⟩
  · have h : FinC b := Classical.not_not.1 (by assumption)
    exact ⟨rfl, by
      have e : ((rch a b : Nat) : Int) = max ((a.1.length - a.2.1 : Nat) : Int) ((b.1.length - b.2.1 : Nat) : Int) + (com a b : Nat) := by
        unfold rch frm; rw [if_pos h]; omega
      rw [e]; rfl⟩
theorem dgain_ok (a b : C3) (t u : Nat) (ha : VC a) (hb : VC b) (ht : t + u ≤ 1048576) : Ctr Try.prog 73 [crv a.1 a.2.1 a.2.2, crv b.1 b.2.1 b.2.2, i64 t, i64 u] [] (fun r o => o = [] ∧ r = i64 (gnR a b t u)) := by
  obtain ⟨av, pa, aq⟩ := a
  obtain ⟨bv, pb, bq⟩ := b
  have h1 := ha.inf_iff ht
  have b1 : 0 ≤ val av pa aq (t + u) ∧ val av pa aq (t + u) ≤ 6000000000000000000 := val_bd (bd_of ha) ht
  have b2 : 0 ≤ val bv pb bq u ∧ val bv pb bq u ≤ 6000000000000000000 := val_bd (bd_of hb) (by omega)
  have hd : gnR (av, pa, aq) (bv, pb, bq) t u = if val av pa aq (t + u) = INF then INF else val av pa aq (t + u) - val bv pb bq u := by
    unfold gnR
    simp only [h1, cv]
  rw [hd]
  refine fn_intro (E := env 0) tys_ok rfl rfl rfl Try.func73 (by kernel_rfl) rfl (by kernel_rfl) ?_
  have cA := At_ok av pa aq ((t + u : Nat) : Int) (bd_of ha) (by omega) (by omega)
  have cB := At_ok bv pb bq (u : Int) (bd_of hb) (by omega) (by omega)
  rw [Int.toNat_natCast] at cA cB
  clear hd h1
  generalize val av pa aq (t + u) = x at *
  generalize val bv pb bq u = y at *
  (repeat' (conv => whnf); first | refine aC (fun _ => ?_) (fun _ => ?_) | refine aS ?_ | refine aG ?_ | refine aD ?_ | refine aH ?_ | refine aP_E2 ?_ | refine aI ?_ | refine aJ ?_ | (refine CallOb.mk [] cA rfl ⟨Imp.refl _, Imp.num (by omega), trivial⟩ rfl rfl ?_; rintro _ _ ⟨rfl, rfl⟩) | (refine aK [] cB ?_) | fail); all_goals try (conv => whnf)
  · have h : x = INF := by assumption
    exact ⟨rfl, by simp only [oneS]; rw [if_pos h]⟩
  · have h : ¬x = INF := by assumption
    exact ⟨rfl, by simp only [oneS]; rw [if_neg h]⟩
theorem dMost_ok (a b : C3) (t : Nat) (ha : VC a) (hb : VC b) (hc : com a b ≤ 120) (ht : t ≤ 10000) : Ctr Try.prog 61 [crv a.1 a.2.1 a.2.2, crv b.1 b.2.1 b.2.2, i64 (com a b), i64 t] [] (fun r o => o = [] ∧ r = i64 (dcv a b t)) := by
  refine fn_intro (E := env 0) tys_ok rfl rfl rfl Try.func61 (by kernel_rfl) rfl (by kernel_rfl) ?_
  have hr := rch_le ha hb hc
  (repeat' (conv => whnf); first | refine aC (fun _ => ?_) (fun _ => ?_) | refine aS ?_ | refine aG ?_ | refine aD ?_ | refine aH ?_ | refine aP_E2 ?_ | refine aI ?_ | refine aJ ?_ | fail); all_goals try (conv => whnf)
  refine LoopOb.mk (Y := Nat) (st := fun u => ⟨[(10, i64 u), (9, i64 (mxG a b t u)), (5, .ptr 1 0), (4, .ptr 0 0), (2, i64 (com a b)), (3, i64 t)], [.box [.psl 1 (ints a.1), i64 a.2.1, i64 a.2.2], .box [.psl 1 (ints b.1), i64 b.2.1, i64 b.2.2]]⟩)
    (inv := fun u => u ≤ rch a b) (fun u => rch a b - u) 0 [0, 1] (by omega) (by (exact aL)) ?_
  intro u hu
  have hg := (gnR_le ha hb (t := t) (u := u) (by omega)).1
  have hst : max (mxG a b t u) (gnR a b t u) = mxG a b t (u + 1) := rfl
  have hend : mxG a b t (rch a b) = dcv a b t := rfl
  (repeat' (conv => whnf); first | (refine aC (fun _ => ?_) (fun _ => ?_) <;> try (exfalso; omega)) | refine aS ?_ | refine aG ?_ | refine aD ?_ | refine aH ?_ | refine aP_E2 ?_ | refine aI ?_ | refine aJ ?_ | (refine aK [] (dreach_ok a b ha hb hc) ?_) | (refine aK [] (dgain_ok a b t u ha hb (by omega)) ?_) | fail); all_goals try (conv => whnf)
  · exact ⟨u + 1, [0, 1], by omega, by omega, by (exact aL)⟩
  · have e : u = rch a b := by omega
    subst e
    exact ⟨rfl, rfl⟩
end Go.Proofs.Ytifcdempdcolkab
end
