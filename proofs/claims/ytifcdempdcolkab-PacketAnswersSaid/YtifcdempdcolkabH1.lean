/-
  A text of the proofs of this seat: lemmas that the statements' proofs use; it states nothing of the program by itself beyond the contracts that its theorems bear. Conditions: those that stand in each theorem. Its short name: H1 Ra.
-/
import Derived.Test.YtifcdempdcolkabW3
import Derived.Test.YtifcdempdcolkabW2b
import Derived.Test.YtifcdempdcolkabR5
import Derived.Test.YtifcdempdcolkabPl
import Derived.Test.YtifcdempdcolkabR7
set_option linter.unusedVariables false
set_option linter.unusedSimpArgs false
section
namespace Go.Proofs.Ytifcdempdcolkab
open Go.Sx Go.Cv
set_option maxRecDepth 4000
set_option maxHeartbeats 2000000
/- the normal form, when there is one -/
theorem CNormV (f : C3) (hf : VC f) : Ctr Try.prog 33 [crv f.1 f.2.1 f.2.2] [] (fun r o => ∃ a : C3, (VC a ∧ (∀ t, cv a t = cv f t)) ∧ o = [] ∧ r = .tup [crv a.1 a.2.1 a.2.2, i64 0]) :=
  (CNormal_ok f.1 f.2.1 f.2.2 (by have := hf.n2; omega)).mono (fun r o ⟨x, h1, h2, h3⟩ => by
    obtain ⟨x1, x2, x3, x4⟩ := x
    rcases h1 with ⟨he, p0, p1, e0, e1, h4, h5⟩ | ⟨h, _⟩
    · dsimp only at he e1 h5 h3
      subst he e1
      have e2 : p0 = f.2.1 := by omega
      subst e2
      obtain ⟨g1, g2⟩ := h5.vf hf
      exact ⟨(x1, p1, x3), ⟨g1, g2⟩, h2, h3⟩
    · exact absurd hf.valid h)
theorem aP_H1 {A B K : Prop} (k : K) (a : A := by (simp only [zA, zT, zD, zC, zN, ints_len, zR, Go.Cv.vals_len]; omega)) (b : B := by (simp only [zA, zT, zD, zC, zN, ints_len, zR, Go.Cv.vals_len]; omega)) : (A ∧ B) ∧ K := ⟨⟨a, b⟩, k⟩
theorem HopC_ok (a : C3) (ha : VC a) (m : Int) (hm : 1 ≤ m ∧ m ≤ 1500) (t : Nat) (h : t ≤ 1048576) :
    Ctr Try.prog 34 [i64 t, .pptr [.psl 1 (ints a.1), i64 a.2.1, i64 a.2.2], .pptr [i64 m]] [] (fun r o => o = [] ∧ r = i64 (hpf a m t)) := by
  refine fn_intro (E := env 0) tys_ok rfl rfl rfl Try.func34 (by kernel_rfl) rfl (by kernel_rfl) ?_
  have hi : cv a (t - 1) = 4611686018427387904 ↔ infAt a.1 (t - 1) := ha.inf_iff (t := t - 1) (by omega)
  have hE : hpf a m t = if t = 0 then 0 else if cv a (t - 1) = 4611686018427387904 then INF else max 0 (cv a (t - 1) - (m - 1)) := by
    simp only [hpf, hi]
  have hbd := hpf_bd ha hm.1 (t := t) h
  have hc := WAt_ok a.1 a.2.1 a.2.2 ((t - 1 : Nat) : Int) (bd_of ha) (by omega) (by omega)
  have hv : t ≠ 0 → 0 ≤ cv a (t - 1) ∧ cv a (t - 1) ≤ 4611686018427387904 := fun _ => ⟨ha.nonneg _, by
    by_cases hx : infAt a.1 (t - 1)
    · rw [hi.2 hx]; decide
    · have := cv_small ha (t := t - 1) (by omega) hx; omega⟩
  rw [show val a.1 a.2.1 a.2.2 (((t - 1 : Nat) : Int)).toNat = cv a (t - 1) by rw [Int.toNat_natCast]; rfl] at hc
  rw [hE]
  clear hE hbd hi
  generalize cv a (t - 1) = v at *
  (repeat' (conv => whnf); first | (refine aC (fun _ => ?_) (fun _ => ?_) <;> try (exfalso; omega)) | refine aS ?_ | refine aG ?_ | refine aD ?_ | refine aH ?_ | refine aP_H1 ?_ | refine aI ?_ | refine aJ ?_ | (refine CallOb.mk [] hc rfl ⟨Imp.refl _, Imp.num (by omega), trivial⟩ rfl rfl ?_; rintro _ _ ⟨rfl, rfl⟩) | fail); all_goals try (conv => whnf)
  all_goals first
    | exact ⟨rfl, by rw [if_pos (by omega)]; rfl⟩
    | exact ⟨rfl, by rw [if_neg (by omega), if_pos (by assumption)]; subst_vars; rfl⟩
    | exact ⟨rfl, by rw [if_neg (by omega), if_neg (by assumption)]; rfl⟩
    | trace_state
theorem Hop_ok (f : C3) (hf : VC f) (m : Int) (hm : 1 ≤ m ∧ m ≤ 1500) : Ctr Try.prog 13 [crv f.1 f.2.1 f.2.2, i64 m] [] (fun r o => ∃ x, HopR f m x ∧ o = [] ∧ r = crvE x) := by
  refine Ctr.impE ?_
  refine fn_intro (E := env 0) tys_ok rfl rfl rfl Try.func13 (by kernel_rfl) rfl (by kernel_rfl) ?_
  (repeat' (conv => whnf); first | (refine aC (fun _ => ?_) (fun _ => ?_) <;> try (exfalso; omega)) | refine aS ?_ | refine aG ?_ | refine aD ?_ | refine aH ?_ | refine aP_H1 ?_ | refine aI ?_ | refine aJ ?_ | refine aW (.qs [0, 1, 2, 4, 5] (.l 3 [4] (.qs [6] .nil) .no)) ?_ | fail); all_goals try (conv => whnf)
  refine CallOb.mk [] (CNormV f hf) rfl (ImpL.refl _) rfl rfl ?_
  rintro _ _ ⟨a, ⟨ha, hc⟩, rfl, rfl⟩
  have n1 := ha.n1
  have n2 := ha.n2
  have p1 := ha.p1
  have p2 := ha.p2
  have pn := ha.pn
  have q0 := ha.q0
  have q1 := ha.q1
  have hil := ints_len a.1
  have hqp := q_pos hf ha hc
  have hfin : ¬FinC a → a.2.2 = 0 := fun h => (inf_p ha h).2
  have hb : ∀ (s : Nat) (_ : s ≤ 400) (_ : a.1.length - a.2.1 + 1 ≤ s) (_ : a.2.2 = 0 ∨ m - 1 ≤ cv a (s - 1)), ∀ x, BuildP (hpf a m) (s + a.2.1) x → MkP (hpf f m) x := fun s hs h1 h2 x hx => by
    rw [← hpf_congr hf ha hc]
    exact buildP_mk (by unfold hpf; rw [if_pos rfl]; decide) (hpf_mono ha hm.1) (fun t ht => (hpf_bd ha hm.1 (by omega)).2) (fun u hu h => hpf_late ha hm.1 (by omega) h) hx
  have hcall : ∀ (s : Nat) (_ : s ≤ 400) (_ : a.1.length - a.2.1 + 1 ≤ s) (_ : a.2.2 = 0 ∨ m - 1 ≤ cv a (s - 1)),
      Ctr Try.prog 37 [.fn 34 [.shut (.pptr [.psl 1 (ints a.1), i64 a.2.1, i64 a.2.2]), .shut (.pptr [i64 m])], i64 s, i64 a.2.1, i64 a.2.2] [] (fun r o => ∃ x : List Int × Int × Int × Int, BuildP (hpf a m) (s + a.2.1) x ∧ o = [] ∧ r = crvE x) := fun s hs h1 h2 =>
    Build2_ok 34 (.pptr [.psl 1 (ints a.1), i64 a.2.1, i64 a.2.2]) (.pptr [i64 m]) (hpf a m) s a.2.1 a.2.2 p1 (by omega) q0 (by omega) (fun t ht => hpf_bd ha hm.1 (by omega)) (fun t ht => HopC_ok a ha m hm t (by omega)) (fun hn => by
      by_cases fa : FinC a
      · exact hpf_per ha fa h1 h2
      · exfalso
        have hp := inf_p ha fa
        have h3 : infAt a.1 (a.1.length - 1) := inf_late fa (Nat.le_refl _)
        exact hn (s + a.2.1 - 1) (by omega) ((hpf_inf ha hm.1 (by omega)).2 ⟨by omega, ha.infAt_mono (by omega) h3⟩))
  have h399 := hc 399
  have cS := Start_ok a.1 a.2.1 a.2.2 pn (by omega)
  have cA := WAt_ok a.1 a.2.1 a.2.2 399 (bd_of ha) (by omega) (by omega)
  rw [show val a.1 a.2.1 a.2.2 (399 : Int).toNat = cv a 399 from rfl] at cA
  have hv := ha.nonneg 399
  have hv' : 0 ≤ cv a 399 := hv
  have hR0 : 0 < a.2.2 → cv a 399 < m - 1 → HopR f m ([], 0, 0, 3) := fun h1 h2 => .inl ⟨⟨hqp.1 h1, by omega⟩, rfl⟩
  have hR1 : ¬(0 < a.2.2 ∧ cv a 399 < m - 1) → ∀ x, MkP (hpf f m) x → HopR f m x := fun h x hx => .inr ⟨fun h' => h ⟨hqp.2 h'.1, by omega⟩, hx⟩
  have hc400 := hcall 400 (by omega) (by omega)
  have hc0 := hcall (a.1.length - a.2.1 + 1) (by omega) (by omega)
  have hb400 := hb 400 (by omega) (by omega)
  have hb0 := hb (a.1.length - a.2.1 + 1) (by omega) (by omega)
  clear hb hcall hc hv
  generalize cv a 399 = v at *
  (repeat' (conv => whnf); first | (refine aC (fun _ => ?_) (fun _ => ?_) <;> try (exfalso; omega)) | refine aS ?_ | refine aG ?_ | refine aD ?_ | refine aP_H1 ?_ | refine aI ?_ | refine aJ ?_ | refine aW (.qs [0, 1, 2, 4, 5] (.l 3 [4] (.qs [6] .nil) .no)) ?_ | (refine Gh.mk [] ?_; (conv => whnf); refine aK [] cS ?_) | (refine Gh.mk [] ?_; (conv => whnf); refine CallOb.mk [] cA rfl ⟨Imp.refl _, Imp.num (by omega), trivial⟩ rfl rfl ?_; rintro _ _ ⟨rfl, rfl⟩) | fail); all_goals try (conv => whnf)
  · refine .mk [] ?_
    (repeat' (conv => whnf); first | (refine aC (fun _ => ?_) (fun _ => ?_) <;> try (exfalso; omega)) | refine aS ?_ | refine aG ?_ | refine aD ?_ | refine aH ?_ | refine aP_H1 ?_ | refine aI ?_ | refine aJ ?_ | refine aW (.qs [0, 1, 2, 4, 5] (.l 3 [4] (.qs [6] .nil) .no)) ?_ | fail); all_goals try (conv => whnf)
    exact ⟨([], 0, 0, 3), hR0 (by assumption) (by assumption), rfl, Imp.tup ⟨imp_zero, Imp.refl _, trivial⟩⟩
  · refine .mk [.fb 3, .fb 1] ?_
    refine CallOb.mk [] (hc400 (.inr (by omega))) rfl ⟨Imp.fn ⟨Imp.shut rfl, Imp.shut rfl, trivial⟩, Imp.refl _, Imp.refl _, Imp.refl _, trivial⟩ rfl rfl ?_
    rintro _ _ ⟨⟨x1, x2, x3, x4⟩, hx, rfl, rfl⟩
    have hmk := hR1 (fun h => by omega) _ (hb400 (.inr (by omega)) _ hx)
    (repeat' (conv => whnf); first | (refine aC (fun _ => ?_) (fun _ => ?_) <;> try (exfalso; omega)) | refine aS ?_ | refine aG ?_ | refine aD ?_ | refine aH ?_ | refine aP_H1 ?_ | refine aI ?_ | refine aJ ?_ | refine aW (.qs [0, 1, 2, 4, 5] (.l 3 [4] (.qs [6] .nil) .no)) ?_ | fail); all_goals try (conv => whnf)
    exact ⟨(x1, x2, x3, x4), hmk, rfl, Imp.refl _⟩
  · refine .mk [.fb 3, .fb 1] ?_
    refine CallOb.mk [] (hc0 (.inl (by omega))) rfl ⟨Imp.fn ⟨Imp.shut rfl, Imp.shut rfl, trivial⟩, Imp.num (by push_cast; rfl), Imp.refl _, Imp.refl _, trivial⟩ rfl rfl ?_
    rintro _ _ ⟨⟨x1, x2, x3, x4⟩, hx, rfl, rfl⟩
    have hmk := hR1 (fun h => by omega) _ (hb0 (.inl (by omega)) _ hx)
    (repeat' (conv => whnf); first | (refine aC (fun _ => ?_) (fun _ => ?_) <;> try (exfalso; omega)) | refine aS ?_ | refine aG ?_ | refine aD ?_ | refine aH ?_ | refine aP_H1 ?_ | refine aI ?_ | refine aJ ?_ | refine aW (.qs [0, 1, 2, 4, 5] (.l 3 [4] (.qs [6] .nil) .no)) ?_ | fail); all_goals try (conv => whnf)
    exact ⟨(x1, x2, x3, x4), hmk, rfl, Imp.refl _⟩
end Go.Proofs.Ytifcdempdcolkab
end
section
namespace Go.Proofs.Ytifcdempdcolkab
open Go.Sx Go.Cv
set_option maxRecDepth 4000
set_option maxHeartbeats 2000000
theorem vc_bd {a : C3} (h : VC a) {t : Nat} (ht : t ≤ 1048576) : 0 ≤ cv a t ∧ cv a t ≤ 6000000000000000000 := val_bd (bd_of h) ht
theorem rAt_ok (a : C3) (t : Nat) (ha : VC a) (ht : t ≤ 1048576) : Ctr Try.prog 29 [crv a.1 a.2.1 a.2.2, i64 t] [] (fun r o => o = [] ∧ r = i64 (cv a t)) :=
  (At_ok a.1 a.2.1 a.2.2 t (bd_of ha) (by omega) (by omega)).mono (fun r o ⟨h1, h2⟩ => ⟨h1, by rw [h2]; simp [cv]⟩)
end Go.Proofs.Ytifcdempdcolkab
end
