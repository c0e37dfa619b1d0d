/-
  A text of the proofs of this seat: lemmas that the statements' proofs use; it states nothing of the program by itself beyond the contracts that its theorems bear. Conditions: those that stand in each theorem. Its short name: E5.
-/
import Derived.Test.YtifcdempdcolkabE4
import Derived.Test.YtifcdempdcolkabH1
import Derived.Test.YtifcdempdcolkabVa
import Derived.Test.YtifcdempdcolkabDd
set_option linter.unusedVariables false
set_option linter.unusedSimpArgs false
namespace Go.Proofs.Ytifcdempdcolkab
open Go.Sx Go.Cv
set_option maxRecDepth 4000
set_option maxHeartbeats 2000000
/- the hop curve for any curve and number -/
def HopG (vs : List Int) (p q m : Int) (x : List Int × Int × Int × Int) : Prop :=
  (¬ValidP vs p q ∧ x = ([], 0, 0, 1)) ∨ (ValidP vs p q ∧ ¬(1 ≤ m ∧ m ≤ 1500) ∧ x = ([], 0, 0, 2)) ∨ (∃ p0 : Nat, p = p0 ∧ VF vs p0 q ∧ (1 ≤ m ∧ m ≤ 1500) ∧ MkP (hpf (vs, p0, q) m) x)
theorem HopG.uniq {vs p q m x y} (h : HopG vs p q m x) (k : HopG vs p q m y) : x = y := by
  rcases h with ⟨h1, rfl⟩ | ⟨h1, h2, rfl⟩ | ⟨p0, e, h1, h2, h3⟩ <;> rcases k with ⟨k1, rfl⟩ | ⟨k1, k2, rfl⟩ | ⟨p1, e', k1, k2, k3⟩
  · rfl
  · exact absurd k1 h1
  · exact absurd (by rw [e']; exact k1.valid) h1
  · exact absurd h1 k1
  · rfl
  · exact absurd k2 h2
  · exact absurd (by rw [e]; exact h1.valid) k1
  · exact absurd h2 k2
  · have : p0 = p1 := by omega
    subst this
    exact h3.uniq k3
theorem aP_E5 {A B K : Prop} (k : K) (a : A := by (simp only [zA, zT, zD, zC, zN, ints_len, zR, Go.Cv.vals_len]; omega)) (b : B := by (simp only [zA, zT, zD, zC, zN, ints_len, zR, Go.Cv.vals_len]; omega)) : (A ∧ B) ∧ K := ⟨⟨a, b⟩, k⟩
theorem HopGP_ok (vs : List Int) (p q m : Int) (hv : vs.length ≤ 140737488355328) : Ctr Try.prog 13 [crv vs p q, i64 m] [] (fun r o => ∃ x, HopG vs p q m x ∧ o = [] ∧ r = crvE x) := by
  by_cases hg : ValidP vs p q ∧ 1 ≤ m ∧ m ≤ 1500
  · obtain ⟨p0, rfl, hf⟩ := hg.1.vf
    exact (Hop_ok (vs, p0, q) hf m hg.2).mono (fun r o ⟨x, h1, h2, h3⟩ => ⟨x, .inr (.inr ⟨p0, rfl, hf, hg.2, h1.mk hf hg.2.1⟩), h2, h3⟩)
  refine Ctr.impE ?_
  refine fn_intro (E := env 0) tys_ok rfl rfl rfl Try.func13 (by kernel_rfl) rfl (by kernel_rfl) ?_
  (repeat' (conv => whnf); first | (refine aC (fun _ => ?_) (fun _ => ?_) <;> try (exfalso; omega)) | refine aS ?_ | refine aG ?_ | refine aD ?_ | refine aH ?_ | refine aP_E5 ?_ | refine aI ?_ | refine aJ ?_ | refine aW (.qs [0, 1, 2, 4, 5] (.l 3 [4] (.qs [6] .nil) .no)) ?_ | fail); all_goals try (conv => whnf)
  refine CallOb.mk [] (CNormal_ok vs p q hv) rfl (ImpL.refl _) rfl rfl ?_
  rintro _ _ ⟨⟨av, ap, aq, ea⟩, hA, rfl, rfl⟩
  dsimp only
  by_cases he : ea = 0
  · subst he
    obtain ⟨p0, pa, rfl, hpa, vf, nf, va⟩ := norm_ok hA
    have hm : ¬(1 ≤ m ∧ m ≤ 1500) := fun h => hg ⟨vf.valid, h⟩
    (repeat' (conv => whnf); first | (refine aC (fun _ => ?_) (fun _ => ?_) <;> try (exfalso; omega)) | refine aS ?_ | refine aG ?_ | refine aD ?_ | refine aH ?_ | refine aP_E5 ?_ | refine aI ?_ | refine aJ ?_ | refine aW (.qs [0, 1, 2, 4, 5] (.l 3 [4] (.qs [6] .nil) .no)) ?_ | fail); all_goals try (conv => whnf)
    all_goals first
      | exact ⟨([], 0, 0, 2), .inr (.inl ⟨vf.valid, hm, rfl⟩), rfl, Imp.tup ⟨imp_zero, Imp.refl _, trivial⟩⟩
      | exact absurd rfl (by assumption)
      | (exfalso; omega)
  · obtain ⟨h1, h2⟩ := normP_ne hA he
    cases h2
    have h01 : (([], 0, 0, 1) : List Int × Int × Int × Int).2.2.2 ≠ 0 := by decide
    (repeat' (conv => whnf); first | refine aS ?_ | refine aG ?_ | refine aD ?_ | refine aH ?_ | refine aP_E5 ?_ | refine aI ?_ | refine aJ ?_ | refine aW (.qs [0, 1, 2, 4, 5] (.l 3 [4] (.qs [6] .nil) .no)) ?_ | fail); all_goals try (conv => whnf)
    refine CondOb.mk (fun _ => ?_) (fun h => absurd h01 h)
    (repeat' (conv => whnf); first | (refine aC (fun _ => ?_) (fun _ => ?_) <;> try (exfalso; omega)) | refine aS ?_ | refine aG ?_ | refine aD ?_ | refine aH ?_ | refine aP_E5 ?_ | refine aI ?_ | refine aJ ?_ | refine aW (.qs [0, 1, 2, 4, 5] (.l 3 [4] (.qs [6] .nil) .no)) ?_ | fail); all_goals try (conv => whnf)
    exact ⟨([], 0, 0, 1), .inl ⟨h1, rfl⟩, rfl, Imp.tup ⟨imp_zero, Imp.refl _, trivial⟩⟩
theorem rHopG_ok (vs : List Int) (p q m : Int) : Ctr Try.prog 14 [crv vs p q, i64 m] [] (fun r o => ∃ x, HopG vs p q m x ∧ o = [] ∧ r = crvE x) := by
  refine Ctr.impE ?_
  refine fn_intro (E := env 0) tys_ok rfl rfl rfl Try.func14 (by kernel_rfl) rfl (by kernel_rfl) ?_
  (repeat' (conv => whnf); first | (refine aC (fun _ => ?_) (fun _ => ?_) <;> try (exfalso; omega)) | refine aS ?_ | refine aG ?_ | refine aD ?_ | refine aH ?_ | refine aP_E5 ?_ | refine aI ?_ | refine aJ ?_ | (refine aK [] (Valid_ok vs p q) ?_) | fail); all_goals try (conv => whnf)
  · have hv : ¬ValidP vs p q := by assumption
    exact ⟨([], 0, 0, 1), .inl ⟨hv, rfl⟩, rfl, Imp.tup ⟨imp_zero, Imp.refl _, trivial⟩⟩
  · have hv : ValidP vs p q := Classical.not_not.1 (by assumption)
    exact ⟨([], 0, 0, 2), .inr (.inl ⟨hv, by omega, rfl⟩), rfl, Imp.tup ⟨imp_zero, Imp.refl _, trivial⟩⟩
  · have hv : ValidP vs p q := Classical.not_not.1 (by assumption)
    exact ⟨([], 0, 0, 2), .inr (.inl ⟨hv, by omega, rfl⟩), rfl, Imp.tup ⟨imp_zero, Imp.refl _, trivial⟩⟩
  have hv : ValidP vs p q := Classical.not_not.1 (by assumption)
  have hm : 1 ≤ m ∧ m ≤ 1500 := by omega
  obtain ⟨p0, rfl, hf⟩ := hv.vf
  refine CallOb.mk [] (Least_ok vs p0 q (bd_of hf)) rfl (ImpL.refl _) rfl rfl ?_
  rintro _ _ ⟨⟨av, pa, aq⟩, hL, rfl, rfl⟩
  simp only at hL
  obtain ⟨ha, hc⟩ := (hL.nf hf).vf hf
  have hc : ∀ t, cv (av, pa, aq) t = cv (vs, p0, q) t := hc
  have ha : VC (av, pa, aq) := ha
  have e : hpf (av, pa, aq) m = hpf (vs, p0, q) m := hpf_congr hf ha hc m
  have hend : ∀ x, MkP (hpf (av, pa, aq) m) x → HopG vs p0 q m x := fun x h => .inr (.inr ⟨p0, rfl, hf, hm, e ▸ h⟩)
  clear e hc hL hf hv
  have n1 : 1 ≤ av.length := ha.n1
  have n2 : av.length ≤ 400 := ha.n2
  have p1 : 1 ≤ pa := ha.p1
  have p2 : pa ≤ 120 := ha.p2
  have pn : pa ≤ av.length := ha.pn
  have q0 : 0 ≤ aq := ha.q0
  have q1 : aq ≤ 1073741824 := ha.q1
  have cA := rAt_ok (av, pa, aq) 400 ha (by omega)
  have cF := RFin_ok (av, pa, aq) ha
  have hlate : 0 < aq → cv (av, pa, aq) 400 < m - 1 → MkP (hpf (av, pa, aq) m) ([], 0, 0, 3) := fun h1 h2 => hop_late ha hm.1 h1 (by have := VF.cvle ha (show 399 ≤ 400 by omega); omega)
  have hper : ¬(FinC (av, pa, aq) ∧ 0 < aq ∧ cv (av, pa, aq) 400 < m - 1) → ∀ x, MadeP (vals (hpf (av, pa, aq) m) (401 + pa)) pa aq x.1 x.2.1 x.2.2.1 x.2.2.2 → MkP (hpf (av, pa, aq) m) x := fun hn x hx => by
    refine madeP_mk p1 (by rw [vals_len]; omega) (fun t ht => ?_) (fun u hu h => hpf_late ha hm.1 (by rw [vals_len] at hu; omega) h) (fun hni => ?_) hx
    · rw [vals_len] at ht; rw [vals_get ht]
    · rw [vals_len] at hni ⊢
      rw [Nat.add_sub_cancel]
      by_cases fa : FinC (av, pa, aq)
      · refine hpf_per ha fa (by show av.length - pa + 1 ≤ 401; omega) ?_
        show aq = 0 ∨ m - 1 ≤ cv (av, pa, aq) 400
        by_cases h0 : aq = 0
        · exact .inl h0
        · exact .inr (Int.not_lt.1 fun h => hn ⟨fa, by omega, h⟩)
      · exfalso
        have h3 : infAt av 399 := inf_late fa (by show av.length - 1 ≤ 399; omega)
        exact hni 400 (by omega) ((hpf_inf ha hm.1 (by omega)).2 ⟨by omega, h3⟩)
  dsimp only at cA cF ⊢
  (repeat' (conv => whnf); first | (refine aC (fun _ => ?_) (fun _ => ?_) <;> try (exfalso; omega)) | refine aS ?_ | refine aG ?_ | refine aH ?_ | refine aP_E5 ?_ | refine aI ?_ | refine aJ ?_ | fail); all_goals try (conv => whnf)
  refine CutOb.cut (Y := Unit) (st := fun _ => ⟨[(6, .ptr 1 0), (4, .ptr 0 0), (1, i64 m)], [.box [.nil, i64 0, i64 0], .box [.psl 1 (ints av), i64 pa, i64 aq]]⟩) (inv := fun _ => ¬(FinC (av, pa, aq) ∧ 0 < aq ∧ cv (av, pa, aq) 400 < m - 1)) ?_ ?_
  · generalize cv (av, pa, aq) 400 = v at *
    (repeat' (conv => whnf); first | (refine aC (fun _ => ?_) (fun _ => ?_) <;> try (exfalso; omega)) | refine aS ?_ | refine aG ?_ | refine aD ?_ | refine aH ?_ | refine aP_E5 ?_ | refine aI ?_ | refine aJ ?_ | (refine aK [] cF ?_) | (refine aK [] cA ?_) | fail); all_goals try (conv => whnf)
    all_goals first
      | exact ⟨([], 0, 0, 3), hend _ (hlate (by assumption) (by assumption)), rfl, Imp.tup ⟨imp_zero, Imp.refl _, trivial⟩⟩
      | exact ⟨(), [1, 2], fun h => absurd h.2.2 (by assumption), by (exact aL)⟩
      | exact ⟨(), [1, 2], fun h => absurd h.2.1 (by assumption), by (exact aL)⟩
      | exact ⟨(), [1, 2], fun h => absurd h.1 (by assumption), by (exact aL)⟩
      | trace_state
  rintro - hn
  have hper := hper hn
  clear hlate hn cF cA
  (repeat' (conv => whnf); first | (refine aC (fun _ => ?_) (fun _ => ?_) <;> try (exfalso; omega)) | refine aS ?_ | refine aG ?_ | refine aD ?_ | refine aH ?_ | refine aP_E5 ?_ | refine aI ?_ | refine aJ ?_ | fail); all_goals try (conv => whnf)
  have h1v : vals (hpf (av, pa, aq) m) 1 = [0] := by simp [vals, hpf]
  refine LoopOb.mk (Y := Nat) (st := fun t => ⟨[(8, i64 t), (7, .ptr 2 0), (6, .ptr 1 0), (4, .ptr 0 0), (1, i64 m)], [.box [.nil, i64 0, i64 0], .box [.psl 1 (ints av), i64 pa, i64 aq], .box [.vec 3, i64 pa, i64 aq], .vec 1 (ints (vals (hpf (av, pa, aq) m) t))]⟩)
    (inv := fun t => 1 ≤ t ∧ t ≤ 401 + pa) (fun t => 401 + pa - t) 1 [0, 1, 3, 2] ⟨by omega, by omega⟩ (by rw [h1v]; (exact aL)) ?_
  rintro t ⟨ht1, ht⟩
  have cA := rAt_ok (av, pa, aq) (t - 1) ha (by omega)
  have hbd := vc_bd ha (t := t - 1) (by omega)
  have hF : hpf (av, pa, aq) m t = if cv (av, pa, aq) (t - 1) = 4611686018427387904 then 4611686018427387904 else max 0 (cv (av, pa, aq) (t - 1) - (m - 1)) := by
    have hi : cv (av, pa, aq) (t - 1) = 4611686018427387904 ↔ infAt av (t - 1) := ha.inf_iff (t := t - 1) (by omega)
    unfold hpf; rw [if_neg (by omega)]
    simp only [hi]
  have hvs : ints (vals (hpf (av, pa, aq) m) (t + 1)) = ints (vals (hpf (av, pa, aq) m) t) ++ [[i64 (hpf (av, pa, aq) m t)]] := by simp [ints, vals_succ]
  have hvl := vals_len (hpf (av, pa, aq) m) t
  have hvi := ints_len (vals (hpf (av, pa, aq) m) t)
  have hfull : t = 401 + pa → vals (hpf (av, pa, aq) m) t = vals (hpf (av, pa, aq) m) (401 + pa) := fun h => by rw [h]
  rw [hF] at hvs
  dsimp only at cA
  generalize vals (hpf (av, pa, aq) m) t = V at *
  generalize cv (av, pa, aq) (t - 1) = x at *
  clear hF
  (repeat' (conv => whnf); first | refine aS ?_ | refine aG ?_ | refine aD ?_ | refine aH ?_ | refine aP_E5 ?_ | refine aI ?_ | refine aJ ?_ | fail); all_goals try (conv => whnf)
  refine CondOb.mk (fun hlt => ?_) (fun hlt => ?_)
  · (repeat' (conv => whnf); first | refine aC (fun _ => ?_) (fun _ => ?_) | refine aS ?_ | refine aG ?_ | refine aD ?_ | refine aH ?_ | refine aP_E5 ?_ | refine aI ?_ | refine aJ ?_ | (refine CallOb.mk [] cA rfl ⟨Imp.refl _, Imp.num (by omega), trivial⟩ rfl rfl ?_; rintro _ _ ⟨rfl, rfl⟩) | fail); all_goals try (conv => whnf)
    all_goals first
      | exact ⟨t + 1, [0, 1, 2, 5], ⟨by omega, by omega⟩, by omega, by rw [hvs, if_neg (by assumption)]; (exact aL)⟩
      | exact ⟨t + 1, [0, 1, 2, 5], ⟨by omega, by omega⟩, by omega, by rw [hvs, if_pos (Classical.not_not.1 (by assumption))]; have e := Classical.not_not.1 (by assumption : ¬¬x = 4611686018427387904); subst e; (exact aL)⟩
      | trace_state
  have e : t = 401 + pa := by omega
  rw [hfull e]
  (repeat' (conv => whnf); first | refine aC (fun _ => ?_) (fun _ => ?_) | refine aS ?_ | refine aG ?_ | refine aD ?_ | refine aP_E5 ?_ | refine aI ?_ | refine aJ ?_ | fail); all_goals try (conv => whnf)
  refine .mk [.fz 3] ?_
  (repeat' (conv => whnf); first | refine aC (fun _ => ?_) (fun _ => ?_) | refine aS ?_ | refine aG ?_ | refine aD ?_ | refine aH ?_ | refine aP_E5 ?_ | refine aI ?_ | refine aJ ?_ | fail); all_goals try (conv => whnf)
  refine CallOb.mk [] (Made_ok (vals (hpf (av, pa, aq) m) (401 + pa)) pa aq (bd_vals (fun t ht => hpf_bd ha hm.1 (by omega)) p1 (by omega) (by omega) q0 (by omega))) rfl (ImpL.refl _) rfl rfl ?_
  rintro _ _ ⟨⟨x1, x2, x3, x4⟩, hx, rfl, rfl⟩
  have hmk := hend _ (hper _ hx)
  (repeat' (conv => whnf); first | refine aC (fun _ => ?_) (fun _ => ?_) | refine aS ?_ | refine aG ?_ | refine aD ?_ | refine aH ?_ | refine aP_E5 ?_ | refine aI ?_ | refine aJ ?_ | fail); all_goals try (conv => whnf)
  exact ⟨(x1, x2, x3, x4), hmk, rfl, Imp.refl _⟩
end Go.Proofs.Ytifcdempdcolkab
