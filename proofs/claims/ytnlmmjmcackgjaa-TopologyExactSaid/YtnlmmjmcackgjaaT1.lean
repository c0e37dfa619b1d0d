/-
  A text of the proofs of this seat: lemmas that the statements' proofs use; it states nothing of the program by itself beyond the contracts that its theorems bear. Conditions: those that stand in each theorem. Its short name: T1.
-/
import Derived.Test.YtnlmmjmcackgjaaT0
import Derived.Test.YtnlmmjmcackgjaaPl
import Derived.Test.YtnlmmjmcackgjaaN7
set_option linter.unusedVariables false
set_option linter.unusedSimpArgs false
namespace Go.Proofs.Ytnlmmjmcackgjaa
open Go.Sx Go.Np Go.Tp
set_option maxRecDepth 4000
set_option maxHeartbeats 2000000
theorem aP_T1 {A B K : Prop} (k : K) (a : A := by (simp only [zA, zT, zD, zC, zN, ints_len, zR, lnl, fll, stl]; omega)) (b : B := by (simp only [zA, zT, zD, zC, zN, ints_len, zR, lnl, fll, stl]; omega)) : (A ∧ B) ∧ K := ⟨⟨a, b⟩, k⟩
theorem of_err (n : Nt) (hn : NL n) (h : chkN n ≠ 0) : Ctr Try.prog 48 [ntv n] [] (fun r o => o = [] ∧ r = .nil) := by
  refine fn_intro (E := env 0) tys_ok rfl rfl rfl Try.func48 (by kernel_rfl) rfl (by kernel_rfl) ?_
  have cC := Check_ok n hn
  generalize chkN n = c at *
  (repeat' (conv => whnf); first | refine AsgOb.nil ?_ | (refine aC (fun _ => ?_) (fun _ => ?_) <;> try (exfalso; omega)) | refine aS ?_ | refine aG ?_ | refine aD ?_ | refine aH ?_ | refine aP_T1 ?_ | refine aI ?_ | refine aJ ?_ | refine aW (.qs [0, 1, 2, 3, 4, 5, 6, 7, 8, 9, 10, 11, 12, 13, 14] (.l 15 [] .nil .no)) ?_ | (refine aK [] cC ?_) | fail); all_goals try (conv => whnf)
  exact ⟨rfl, rfl⟩
/- edges of the first flows, and of the first hops of the next one -/
def FEto (f : Fl) (t a b : Nat) : Prop := ∃ h, 1 ≤ h ∧ h < t ∧ f.rt.getD (h - 1) 0 = (a : Int) ∧ f.rt.getD h 0 = (b : Int)
theorem FEto_succ {f : Fl} {t a b x y : Nat} (ht : 1 ≤ t) (ha : f.rt.getD (t - 1) 0 = (a : Int)) (hb : f.rt.getD t 0 = (b : Int)) : FEto f (t + 1) x y ↔ FEto f t x y ∨ (x = a ∧ y = b) := by
  unfold FEto
  constructor
  · rintro ⟨h, h1, h2, h3, h4⟩
    by_cases e : h = t
    · subst e; right; omega
    · exact .inl ⟨h, h1, by omega, h3, h4⟩
  · rintro (⟨h, h1, h2, h3, h4⟩ | ⟨rfl, rfl⟩)
    · exact ⟨h, h1, by omega, h3, h4⟩
    · exact ⟨t, ht, by omega, ha, hb⟩
theorem of_ok (n : Nt) (hn : NL n) (h : chkN n = 0) : Ctr Try.prog 48 [ntv n] [] (fun r o => o = [] ∧ r = .psl 1 (gps n.ln.length n.ln.length (adj n))) := by
  refine Ctr.imp ?_
  refine fn_intro (E := env 0) tys_ok rfl rfl rfl Try.func48 (by kernel_rfl) rfl (by kernel_rfl) ?_
  have cC := Check_ok n hn
  rw [h] at cC
  have hz := chkN_zero h
  have hL := hz.1
  have hF := chk_fl h
  have hll := lnl n.ln
  have hfl := fll n.fl
  generalize hLe : n.ln.length = L at *
  (repeat' (conv => whnf); first | refine AsgOb.nil ?_ | (refine aC (fun _ => ?_) (fun _ => ?_) <;> try (exfalso; omega)) | refine aS ?_ | refine aG ?_ | refine aD ?_ | refine aH ?_ | refine aP_T1 ?_ | refine aI ?_ | refine aJ ?_ | refine aW (.qs [0, 1, 2, 3, 4, 5, 6, 7, 8, 9, 10, 11, 12, 13, 14] (.l 15 [] .nil .no)) ?_ | (refine aK [] cC ?_) | (refine CallOb.mk [] (blank_ok L (by omega)) rfl ⟨Imp.num (by rw [hll]), trivial⟩ rfl rfl ?_; rintro _ _ ⟨rfl, rfl⟩) | fail); all_goals try (conv => whnf)
  trace_state
  refine LoopOb.mk (Y := Nat × Gr) (st := fun y => ⟨[(17, i64 y.1), (16, i64 (fls n.fl).length), (15, .psl 8 (fls n.fl)), (3, .vec 0)], [.mat 1 (gms L L y.2)]⟩)
    (inv := fun y => y.1 ≤ n.fl.length ∧ ∀ a b, y.2 a b = true ↔ ∃ f ∈ n.fl.take y.1, FE f a b) (fun y => n.fl.length - y.1) (0, fun _ _ => false) [1] ⟨by simp, by simp⟩ (by (exact aL)) ?_
  rintro ⟨i, E⟩ ⟨hi, hE⟩
  dsimp only at hi hE ⊢
  (repeat' (conv => whnf); first | refine aS ?_ | refine aG ?_ | refine aD ?_ | refine aH ?_ | refine aP_T1 ?_ | refine aI ?_ | refine aJ ?_ | refine aW (.qs [0, 1, 2, 3, 4, 5, 6, 7, 8, 9, 10, 11, 12, 13, 14] (.l 15 [] .nil .no)) ?_ | fail); all_goals try (conv => whnf)
  refine CondOb.mk (fun hlt => ?_) (fun hlt => ?_)
  · have hil : i < n.fl.length := by omega
    have hg := flg hil
    have hR := hF i hil
    have hr2 := hR.l2
    have hst : ∀ f, f ∈ n.fl.take (i + 1) ↔ f ∈ n.fl.take i ∨ f = n.fl.getD i fl0 := fun f => by
      rw [List.take_add_one, List.mem_append, List.getD_eq_getElem?_getD, List.getElem?_eq_getElem hil]; simp
    generalize n.fl.getD i fl0 = f at *
    (repeat' (conv => whnf); first | (refine aC (fun _ => ?_) (fun _ => ?_) <;> try (exfalso; omega)) | refine aS ?_ | refine aG ?_ | refine aD ?_ | refine aH ?_ | refine aP_T1 ?_ | refine aI ?_ | refine aJ ?_ | refine aW (.qs [0, 1, 2, 3, 4, 5, 6, 7, 8, 9, 10, 11, 12, 13, 14] (.l 15 [] .nil .no)) ?_ | refine ⟨i, _, rfl, hg, ?_⟩ | fail); all_goals try (conv => whnf)
    refine LoopOb.mk (Y := Nat × Gr) (st := fun y => ⟨[(6, i64 y.1), (5, .ptr 1 0), (17, i64 i), (16, i64 (fls n.fl).length), (15, .psl 8 (fls n.fl)), (3, .vec 0)], [.mat 1 (gms L L y.2), .box (flv f)]⟩)
      (inv := fun y => (1 ≤ y.1 ∧ y.1 ≤ f.rt.length) ∧ ∀ a b, y.2 a b = true ↔ (∃ f ∈ n.fl.take i, FE f a b) ∨ FEto f y.1 a b) (fun y => f.rt.length - y.1) (1, E) [0, 1] ⟨⟨by simp, hR.l1⟩, fun a b => by
        rw [hE]
        constructor
        · exact .inl
        · rintro (h1 | ⟨h, h1, h2, _⟩)
          · exact h1
          · omega⟩ (by (exact aL)) ?_
    clear hE E
    rintro ⟨t, E⟩ ⟨ht, hE⟩
    dsimp only at ht hE ⊢
    have hrl := ints_len f.rt
    (repeat' (conv => whnf); first | refine aS ?_ | refine aG ?_ | refine aD ?_ | refine aH ?_ | refine aP_T1 ?_ | refine aI ?_ | refine aJ ?_ | refine aW (.qs [0, 1, 2, 3, 4, 5, 6, 7, 8, 9, 10, 11, 12, 13, 14] (.l 15 [] .nil .no)) ?_ | fail); all_goals try (conv => whnf)
    refine CondOb.mk (fun hlt2 => ?_) (fun hlt2 => ?_)
    · obtain ⟨a, ha, ha2⟩ : ∃ a : Nat, f.rt.getD (t - 1) 0 = a ∧ a < L := by
        have := hR.b (t - 1) (by omega)
        exact ⟨(f.rt.getD (t - 1) 0).toNat, by omega, by omega⟩
      obtain ⟨b, hb, hb2⟩ : ∃ b : Nat, f.rt.getD t 0 = b ∧ b < L := by
        have := hR.b t (by omega)
        exact ⟨(f.rt.getD t 0).toNat, by omega, by omega⟩
      have hgl := gms_len L L E
      (repeat' (conv => whnf); first | refine ⟨a, ha, by omega, ?_⟩ | refine ⟨t - 1, _, by omega, ints_get (by omega), ?_⟩ | (refine aC (fun _ => ?_) (fun _ => ?_) <;> try (exfalso; omega)) | refine aS ?_ | refine aG ?_ | refine aD ?_ | refine aH ?_ | refine aP_T1 ?_ | refine aI ?_ | refine aJ ?_ | refine aW (.qs [0, 1, 2, 3, 4, 5, 6, 7, 8, 9, 10, 11, 12, 13, 14] (.l 15 [] .nil .no)) ?_ | refine And.intro (by omega) ?_ | refine ⟨_, _, hb, gms_get (by omega), (by simp only [bls_len]; omega), ?_⟩ | refine ⟨_, _, gms_get (by omega), bls_get (by omega), ?_⟩ | refine ⟨_, gms_get (by omega), ?_⟩ | fail); all_goals try (conv => whnf)
      have hs := gms_set (n := L) (m := L) (a := a) (b := b) (E := E) (v := true) ha2
      refine ⟨(t + 1, fun x y => if x = a ∧ y = b then true else E x y), [0, 1], ⟨⟨by dsimp only; omega, by dsimp only; omega⟩, fun x y => ?_⟩, by dsimp only; omega, by dsimp only; rw [← hs]; (exact aL)⟩
      dsimp only
      rw [FEto_succ ht.1 ha hb]
      by_cases e : x = a ∧ y = b
      · rw [if_pos e]; simp [e]
      · rw [if_neg e, hE]; simp only [e, or_false]
    · (repeat' (conv => whnf); first | (refine aC (fun _ => ?_) (fun _ => ?_) <;> try (exfalso; omega)) | refine aS ?_ | refine aG ?_ | refine aD ?_ | refine aH ?_ | refine aP_T1 ?_ | refine aI ?_ | refine aJ ?_ | refine aW (.qs [0, 1, 2, 3, 4, 5, 6, 7, 8, 9, 10, 11, 12, 13, 14] (.l 15 [] .nil .no)) ?_ | fail); all_goals try (conv => whnf)
      have : t = f.rt.length := by omega
      subst this
      refine ⟨(i + 1, E), [0], ⟨by dsimp only; omega, fun x y => ?_⟩, by dsimp only; omega, by (exact aL)⟩
      dsimp only
      rw [hE]
      constructor
      · rintro (⟨g, h1, h2⟩ | h1)
        · exact ⟨g, (hst g).2 (.inl h1), h2⟩
        · exact ⟨f, (hst f).2 (.inr rfl), h1⟩
      · rintro ⟨g, h1, h2⟩
        rcases (hst g).1 h1 with h3 | rfl
        · exact .inl ⟨g, h3, h2⟩
        · exact .inr h2
  · (repeat' (conv => whnf); first | (refine aC (fun _ => ?_) (fun _ => ?_) <;> try (exfalso; omega)) | refine aS ?_ | refine aG ?_ | refine aD ?_ | refine aP_T1 ?_ | refine aI ?_ | refine aJ ?_ | refine aW (.qs [0, 1, 2, 3, 4, 5, 6, 7, 8, 9, 10, 11, 12, 13, 14] (.l 15 [] .nil .no)) ?_ | fail); all_goals try (conv => whnf)
    refine .mk [.fm 0] ?_
    have e : E = adj n := by
      funext x y
      rw [Bool.eq_iff_iff, adj_true, hE, show i = n.fl.length by omega, List.take_length]
    subst e
    (repeat' (conv => whnf); first | (refine aC (fun _ => ?_) (fun _ => ?_) <;> try (exfalso; omega)) | refine aS ?_ | refine aG ?_ | refine aD ?_ | refine aH ?_ | refine aP_T1 ?_ | refine aI ?_ | refine aJ ?_ | refine aW (.qs [0, 1, 2, 3, 4, 5, 6, 7, 8, 9, 10, 11, 12, 13, 14] (.l 15 [] .nil .no)) ?_ | fail); all_goals try (conv => whnf)
    exact ⟨rfl, Imp.psl (gms_fz L L _)⟩
end Go.Proofs.Ytnlmmjmcackgjaa
