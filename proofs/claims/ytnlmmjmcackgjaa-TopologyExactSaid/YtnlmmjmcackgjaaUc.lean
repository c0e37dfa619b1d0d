/-
  A text of the proofs of this seat: lemmas that the statements' proofs use; it states nothing of the program by itself beyond the contracts that its theorems bear. Conditions: those that stand in each theorem. Its short name: Uc.
-/
import Derived.Test.YtnlmmjmcackgjaaUa
set_option linter.unusedVariables false
set_option linter.unusedSimpArgs false
namespace Go.Proofs.Ytnlmmjmcackgjaa
open Go.Sx Go.Np Go.Tp
set_option maxRecDepth 4000
set_option maxHeartbeats 2000000
--APPX eds_len, nts_len, ivs_len
/-! the document's graph functions -/
def g8 (E : Gr) : List SV := [.bl (E 0 0), .bl (E 0 1), .bl (E 0 2), .bl (E 0 3), .bl (E 0 4), .bl (E 0 5), .bl (E 0 6), .bl (E 0 7), .bl (E 1 0), .bl (E 1 1), .bl (E 1 2), .bl (E 1 3), .bl (E 1 4), .bl (E 1 5), .bl (E 1 6), .bl (E 1 7), .bl (E 2 0), .bl (E 2 1), .bl (E 2 2), .bl (E 2 3), .bl (E 2 4), .bl (E 2 5), .bl (E 2 6), .bl (E 2 7), .bl (E 3 0), .bl (E 3 1), .bl (E 3 2), .bl (E 3 3), .bl (E 3 4), .bl (E 3 5), .bl (E 3 6), .bl (E 3 7), .bl (E 4 0), .bl (E 4 1), .bl (E 4 2), .bl (E 4 3), .bl (E 4 4), .bl (E 4 5), .bl (E 4 6), .bl (E 4 7), .bl (E 5 0), .bl (E 5 1), .bl (E 5 2), .bl (E 5 3), .bl (E 5 4), .bl (E 5 5), .bl (E 5 6), .bl (E 5 7), .bl (E 6 0), .bl (E 6 1), .bl (E 6 2), .bl (E 6 3), .bl (E 6 4), .bl (E 6 5), .bl (E 6 6), .bl (E 6 7), .bl (E 7 0), .bl (E 7 1), .bl (E 7 2), .bl (E 7 3), .bl (E 7 4), .bl (E 7 5), .bl (E 7 6), .bl (E 7 7)]
def upd (E : Gr) (a b : Nat) : Gr := fun x y => (Nat.beq x a && Nat.beq y b) || E x y
theorem upd_true {E : Gr} {a b x y : Nat} : upd E a b x y = true ↔ (x = a ∧ y = b) ∨ E x y = true := by
  unfold upd
  simp only [Bool.or_eq_true, Bool.and_eq_true, Nat.beq_eq]
theorem lt8 {a : Nat} (h : a < 8) : a = 0 ∨ a = 1 ∨ a = 2 ∨ a = 3 ∨ a = 4 ∨ a = 5 ∨ a = 6 ∨ a = 7 := by omega
theorem aP_Uc {A B K : Prop} (k : K) (a : A := by (simp only [zA, zT, zD, zC, zN, ints_len, zR, eds_len, nts_len, ivs_len]; omega)) (b : B := by (simp only [zA, zT, zD, zC, zN, ints_len, zR, eds_len, nts_len, ivs_len]; omega)) : (A ∧ B) ∧ K := ⟨⟨a, b⟩, k⟩
theorem rEdges_ok (n : Nt) (hn : NL n) (h : chkN n = 0) : Ctr Try.prog 25 [ntv n] [] (fun r o => o = [] ∧ r = .psl 2 (eds (edg (adj n) n.ln.length n.ln.length))) := by
  refine Ctr.imp ?_
  refine fn_intro (E := env 0) tys_ok rfl rfl rfl Try.func25 (by kernel_rfl) rfl (by kernel_rfl) ?_
  have hz := chkN_zero h
  have cC := rCheck_ok n hn
  rw [h] at cC
  have hL := hz.1
  have hF := chk_fl h
  have hll := lnl n.ln
  have hfl := fll n.fl
  generalize hLe : n.ln.length = L at *
  (repeat' (conv => whnf); first | refine aC (fun _ => ?_) (fun _ => ?_) | refine aS ?_ | refine aG ?_ | refine aD ?_ | refine aH ?_ | refine aP_Uc ?_ | refine aI ?_ | refine aJ ?_ | refine aW (.qs [0, 1, 2, 3, 4, 5, 6, 7, 8, 9, 10] (.l 11 [] .nil .no)) ?_ | (refine aK [] cC ?_) | fail); all_goals try (conv => whnf)
  · contradiction
  refine LoopOb.mk (Y := Nat × Gr) (st := fun y => ⟨[(4, i64 y.1), (3, .ptr 2 0), (2, .vec 1), (1, .ptr 0 0)], [.box [.psl 1 (strs n.nm), .psl 5 (lns n.ln), .psl 8 (fls n.fl)], .vec 2 [], .box (g8 y.2)]⟩)
    (inv := fun y => y.1 ≤ n.fl.length ∧ ∀ a b, y.2 a b = true ↔ ∃ f ∈ n.fl.take y.1, FE f a b) (fun y => n.fl.length - y.1) (0, fun _ _ => false) [0, 1, 2] ⟨by simp, by simp⟩ (by (exact aL)) ?_
  rintro ⟨i, E⟩ ⟨hi, hE⟩
  dsimp only at hi hE ⊢
  (repeat' (conv => whnf); first | refine aS ?_ | refine aG ?_ | refine aD ?_ | refine aH ?_ | refine aP_Uc ?_ | refine aI ?_ | refine aJ ?_ | refine aW (.qs [0, 1, 2, 3, 4, 5, 6, 7, 8, 9, 10] (.l 11 [] .nil .no)) ?_ | fail); all_goals try (conv => whnf)
  refine CondOb.mk (fun hlt => ?_) (fun hlt => ?_)
  · have hil : i < n.fl.length := by omega
    have hg := flg hil
    have hR := hF i hil
    have hr2 := hR.l2
    have hst : ∀ f, f ∈ n.fl.take (i + 1) ↔ f ∈ n.fl.take i ∨ f = n.fl.getD i fl0 := fun f => by
      rw [List.take_add_one, List.mem_append, List.getD_eq_getElem?_getD, List.getElem?_eq_getElem hil]; simp
    generalize n.fl.getD i fl0 = f at *
    (repeat' (conv => whnf); first | refine aC (fun _ => ?_) (fun _ => ?_) | refine aS ?_ | refine aG ?_ | refine aD ?_ | refine aH ?_ | refine aP_Uc ?_ | refine aI ?_ | refine aJ ?_ | refine aW (.qs [0, 1, 2, 3, 4, 5, 6, 7, 8, 9, 10] (.l 11 [] .nil .no)) ?_ | refine ⟨i, _, rfl, hg, ?_⟩ | fail); all_goals try (conv => whnf)
    refine LoopOb.mk (Y := Nat × Gr) (st := fun y => ⟨[(6, i64 y.1), (5, .psl 1 (ints f.rt)), (4, i64 i), (3, .ptr 2 0), (2, .vec 1), (1, .ptr 0 0)], [.box [.psl 1 (strs n.nm), .psl 5 (lns n.ln), .psl 8 (fls n.fl)], .vec 2 [], .box (g8 y.2)]⟩)
      (inv := fun y => (1 ≤ y.1 ∧ y.1 ≤ f.rt.length) ∧ ∀ a b, y.2 a b = true ↔ (∃ f ∈ n.fl.take i, FE f a b) ∨ FEto f y.1 a b) (fun y => f.rt.length - y.1) (1, E) [0, 1, 2] ⟨⟨by simp, hR.l1⟩, fun a b => by
        rw [hE]
        constructor
        · exact .inl
        · rintro (h1 | ⟨h, h1, h2, _⟩)
          · exact h1
          · omega⟩ (by (exact aL)) ?_
    clear hE E
    rintro ⟨t, E⟩ ⟨ht, hE⟩
    dsimp only at ht hE ⊢
    have hrl := ints_len f.rt
    (repeat' (conv => whnf); first | refine aS ?_ | refine aG ?_ | refine aD ?_ | refine aH ?_ | refine aP_Uc ?_ | refine aI ?_ | refine aJ ?_ | refine aW (.qs [0, 1, 2, 3, 4, 5, 6, 7, 8, 9, 10] (.l 11 [] .nil .no)) ?_ | fail); all_goals try (conv => whnf)
    refine CondOb.mk (fun hlt2 => ?_) (fun hlt2 => ?_)
    · obtain ⟨a, ha, ha2⟩ : ∃ a : Nat, f.rt.getD (t - 1) 0 = a ∧ a < L := by
        have := hR.b (t - 1) (by omega)
        exact ⟨(f.rt.getD (t - 1) 0).toNat, by omega, by omega⟩
      obtain ⟨b, hb, hb2⟩ : ∃ b : Nat, f.rt.getD t 0 = b ∧ b < L := by
        have := hR.b t (by omega)
        exact ⟨(f.rt.getD t 0).toNat, by omega, by omega⟩
      have hfin : ∀ x y, upd E a b x y = true ↔ (∃ f ∈ n.fl.take i, FE f x y) ∨ FEto f (t + 1) x y := fun x y => by
        rw [upd_true, FEto_succ ht.1 ha hb, hE]
        constructor
        · rintro (h1 | h1 | h1)
          · exact .inr (.inr h1)
          · exact .inl h1
          · exact .inr (.inl h1)
        · rintro (h1 | h1 | h1)
          · exact .inr (.inl h1)
          · exact .inr (.inr h1)
          · exact .inl h1
      clear hE
      rcases lt8 (show a < 8 by omega) with rfl | rfl | rfl | rfl | rfl | rfl | rfl | rfl <;> rcases lt8 (show b < 8 by omega) with rfl | rfl | rfl | rfl | rfl | rfl | rfl | rfl
      (repeat' (conv => whnf); first | refine ⟨_, hb, by omega, ?_⟩ | refine ⟨_, ha, by omega, ?_⟩ | refine ⟨t, _, rfl, ints_get (by omega), ?_⟩ | refine ⟨t - 1, _, by omega, ints_get (by omega), ?_⟩ | refine aC (fun _ => ?_) (fun _ => ?_) | refine aS ?_ | refine aG ?_ | refine aD ?_ | refine aH ?_ | refine aP_Uc ?_ | refine aI ?_ | refine aJ ?_ | refine aW (.qs [0, 1, 2, 3, 4, 5, 6, 7, 8, 9, 10] (.l 11 [] .nil .no)) ?_ | fail); all_goals try (conv => whnf)
      all_goals exact ⟨(t + 1, _), [0, 1, 2], ⟨⟨by dsimp only; omega, by dsimp only; omega⟩, hfin⟩, by dsimp only; omega, by (exact aL)⟩
    · (repeat' (conv => whnf); first | refine aC (fun _ => ?_) (fun _ => ?_) | refine aS ?_ | refine aG ?_ | refine aD ?_ | refine aH ?_ | refine aP_Uc ?_ | refine aI ?_ | refine aJ ?_ | refine aW (.qs [0, 1, 2, 3, 4, 5, 6, 7, 8, 9, 10] (.l 11 [] .nil .no)) ?_ | fail); all_goals try (conv => whnf)
      have : t = f.rt.length := by omega
      subst this
      refine ⟨(i + 1, E), [0, 1, 2], ⟨by dsimp only; omega, fun x y => ?_⟩, by dsimp only; omega, by (exact aL)⟩
      dsimp only
      rw [hE]
      constructor
      · rintro (⟨g, h1, h2⟩ | h1)
        · exact ⟨g, (hst g).2 (.inl h1), h2⟩
        · exact ⟨f, (hst f).2 (.inr rfl), h1⟩
      · rintro ⟨g, h1, h2⟩
        rcases (hst g).1 h1 with h3 | rfl
        · exact .inl ⟨g, h3, h2⟩
        · exact .inr h2
  have e : E = adj n := by
    funext x y
    rw [Bool.eq_iff_iff, adj_true, hE, show i = n.fl.length by omega, List.take_length]
  subst e
  clear hE hF
  generalize adj n = E
  (repeat' (conv => whnf); first | refine aC (fun _ => ?_) (fun _ => ?_) | refine aS ?_ | refine aG ?_ | refine aD ?_ | refine aH ?_ | refine aP_Uc ?_ | refine aI ?_ | refine aJ ?_ | refine aW (.qs [0, 1, 2, 3, 4, 5, 6, 7, 8, 9, 10] (.l 11 [] .nil .no)) ?_ | fail); all_goals try (conv => whnf)
  refine LoopOb.mk (Y := Nat) (st := fun a => ⟨[(8, i64 a), (7, .vec 2), (3, .ptr 1 0), (1, .ptr 0 0)], [.box [.psl 1 (strs n.nm), .psl 5 (lns n.ln), .psl 8 (fls n.fl)], .box (g8 E), .vec 2 (eds (edg E L a))]⟩)
    (inv := fun a => a ≤ L) (fun a => L - a) 0 [0, 2, 3] (by omega) (by (exact aL)) ?_
  intro a ha
  have hel := edg_len (E := E) (m := L) (a := a)
  have hle := eds_len (edg E L a)
  have hmm : a * L ≤ 8 * 8 := Nat.mul_le_mul (by omega) (by omega)
  (repeat' (conv => whnf); first | refine aS ?_ | refine aG ?_ | refine aD ?_ | refine aH ?_ | refine aP_Uc ?_ | refine aI ?_ | refine aJ ?_ | refine aW (.qs [0, 1, 2, 3, 4, 5, 6, 7, 8, 9, 10] (.l 11 [] .nil .no)) ?_ | fail); all_goals try (conv => whnf)
  refine CondOb.mk (fun hlt => ?_) (fun hlt => ?_)
  · have ham : a < L := by omega
    (repeat' (conv => whnf); first | refine aC (fun _ => ?_) (fun _ => ?_) | refine aS ?_ | refine aG ?_ | refine aD ?_ | refine aH ?_ | refine aP_Uc ?_ | refine aI ?_ | refine aJ ?_ | refine aW (.qs [0, 1, 2, 3, 4, 5, 6, 7, 8, 9, 10] (.l 11 [] .nil .no)) ?_ | fail); all_goals try (conv => whnf)
    refine LoopOb.mk (Y := Nat) (st := fun b => ⟨[(9, i64 b), (8, i64 a), (7, .vec 2), (3, .ptr 1 0), (1, .ptr 0 0)], [.box [.psl 1 (strs n.nm), .psl 5 (lns n.ln), .psl 8 (fls n.fl)], .box (g8 E), .vec 2 (eds (edg E L a ++ er E a b))]⟩)
      (inv := fun b => b ≤ L) (fun b => L - b) 0 [0, 1, 2] (by omega) (by rw [show er E a 0 = [] from rfl, List.append_nil]; (exact aL)) ?_
    intro b hb
    have hel2 := er_len (E := E) (a := a) (b := b)
    have hle2 := eds_len (edg E L a ++ er E a b)
    rw [List.length_append] at hle2
    (repeat' (conv => whnf); first | refine aS ?_ | refine aG ?_ | refine aD ?_ | refine aH ?_ | refine aP_Uc ?_ | refine aI ?_ | refine aJ ?_ | refine aW (.qs [0, 1, 2, 3, 4, 5, 6, 7, 8, 9, 10] (.l 11 [] .nil .no)) ?_ | fail); all_goals try (conv => whnf)
    refine CondOb.mk (fun hlt2 => ?_) (fun hlt2 => ?_)
    · have hbm : b < L := by omega
      have hs0 : E a b = false → er E a (b + 1) = er E a b := fun h => by
        rw [show er E a (b + 1) = if E a b = true then er E a b ++ [(a, b)] else er E a b from rfl, h]; rfl
      have hs1 : E a b = true → eds (edg E L a ++ er E a (b + 1)) = eds (edg E L a ++ er E a b) ++ [[i64 a, i64 b]] := fun h => by
        rw [show er E a (b + 1) = if E a b = true then er E a b ++ [(a, b)] else er E a b from rfl, h, if_pos rfl, ← List.append_assoc, eds_app (edg E L a ++ er E a b) [(a, b)]]; rfl
      have hs0 : E a b = false → eds (edg E L a ++ er E a (b + 1)) = eds (edg E L a ++ er E a b) := fun h => by rw [hs0 h]
      have hzl : (edg E L a ++ er E a b).length ≤ 200 := by rw [List.length_append]; omega
      have hf1 : b + 1 ≤ L := by omega
      have hf2 : L - (b + 1) < L - b := by omega
      clear hle hel hmm hle2
      generalize edg E L a ++ er E a b = z at *

      cases hab : E a b
      · rcases lt8 (show a < 8 by omega) with rfl | rfl | rfl | rfl | rfl | rfl | rfl | rfl <;> rcases lt8 (show b < 8 by omega) with rfl | rfl | rfl | rfl | rfl | rfl | rfl | rfl
        (repeat' (conv => whnf); first | refine ⟨_, rfl, by omega, ?_⟩ | refine aC (fun _ => ?_) (fun _ => ?_) | refine aS ?_ | refine aG ?_ | refine aD ?_ | refine aH ?_ | refine aP_Uc ?_ | refine aI ?_ | refine aJ ?_ | refine aW (.qs [0, 1, 2, 3, 4, 5, 6, 7, 8, 9, 10] (.l 11 [] .nil .no)) ?_ | fail); all_goals try (conv => whnf)
        all_goals rw [hab]
        (repeat' (conv => whnf); first | refine aC (fun _ => ?_) (fun _ => ?_) | refine aS ?_ | refine aG ?_ | refine aD ?_ | refine aH ?_ | refine aP_Uc ?_ | refine aI ?_ | refine aJ ?_ | refine aW (.qs [0, 1, 2, 3, 4, 5, 6, 7, 8, 9, 10] (.l 11 [] .nil .no)) ?_ | fail); all_goals try (conv => whnf)
        all_goals exact ⟨_, [0, 1, 2], hf1, hf2, by rw [hs0 hab]; (exact aL)⟩
      · rcases lt8 (show a < 8 by omega) with rfl | rfl | rfl | rfl | rfl | rfl | rfl | rfl <;> rcases lt8 (show b < 8 by omega) with rfl | rfl | rfl | rfl | rfl | rfl | rfl | rfl
        (repeat' (conv => whnf); first | refine ⟨_, rfl, by omega, ?_⟩ | refine aC (fun _ => ?_) (fun _ => ?_) | refine aS ?_ | refine aG ?_ | refine aD ?_ | refine aH ?_ | refine aP_Uc ?_ | refine aI ?_ | refine aJ ?_ | refine aW (.qs [0, 1, 2, 3, 4, 5, 6, 7, 8, 9, 10] (.l 11 [] .nil .no)) ?_ | fail); all_goals try (conv => whnf)
        all_goals rw [hab]
        (repeat' (conv => whnf); first | refine aC (fun _ => ?_) (fun _ => ?_) | refine aS ?_ | refine aG ?_ | refine aD ?_ | refine aH ?_ | refine aP_Uc ?_ | refine aI ?_ | refine aJ ?_ | refine aW (.qs [0, 1, 2, 3, 4, 5, 6, 7, 8, 9, 10] (.l 11 [] .nil .no)) ?_ | fail); all_goals try (conv => whnf)
        all_goals exact ⟨_, [0, 1, 4], hf1, hf2, by rw [hs1 hab]; (exact aL)⟩
    · (repeat' (conv => whnf); first | refine aC (fun _ => ?_) (fun _ => ?_) | refine aS ?_ | refine aG ?_ | refine aD ?_ | refine aH ?_ | refine aP_Uc ?_ | refine aI ?_ | refine aJ ?_ | refine aW (.qs [0, 1, 2, 3, 4, 5, 6, 7, 8, 9, 10] (.l 11 [] .nil .no)) ?_ | fail); all_goals try (conv => whnf)
      have : b = L := by omega
      subst this
      exact ⟨a + 1, [0, 1, 2], by omega, by omega, by (exact aL)⟩
  · (repeat' (conv => whnf); first | refine aC (fun _ => ?_) (fun _ => ?_) | refine aS ?_ | refine aG ?_ | refine aD ?_ | refine aP_Uc ?_ | refine aI ?_ | refine aJ ?_ | refine aW (.qs [0, 1, 2, 3, 4, 5, 6, 7, 8, 9, 10] (.l 11 [] .nil .no)) ?_ | fail); all_goals try (conv => whnf)
    refine .mk [.fa] ?_
    have : a = L := by omega
    subst this
    exact ⟨rfl, Imp.refl _⟩
end Go.Proofs.Ytnlmmjmcackgjaa
