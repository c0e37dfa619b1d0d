/-
  A text of the proofs of this seat: lemmas that the statements' proofs use; it states nothing of the program by itself beyond the contracts that its theorems bear. Conditions: those that stand in each theorem. Its short name: T6.
-/
import Derived.Test.YtnlmmjmcackgjaaT5
set_option linter.unusedVariables false
set_option linter.unusedSimpArgs false
namespace Go.Proofs.Ytnlmmjmcackgjaa
open Go.Sx Go.Np Go.Tp
set_option maxRecDepth 4000
set_option maxHeartbeats 2000000
theorem _root_.Go.Sx.Ctr.weak {P f args own} {Q Q' : SV → List Chunk → Prop} (h : Ctr P f args own Q) (hq : ∀ r o, Q r o → Q' r o) : Ctr P f args own Q' :=
  ⟨h.1, fun w σ β vs h1 h2 => (h.2 w σ β vs h1 h2).mono fun _ _ ⟨v, σ', β', own', s, a, b, c, d, e⟩ => ⟨v, σ', β', own', s, a, b, c, d, hq _ _ e⟩⟩
theorem tOrder_some (n : Nt) (hn : NL n) (h : chkN n = 0) {l : List Nat} (hl : ord (adj n) n.ln.length = some l) : Ctr Try.prog 19 [ntv n] [] (fun r o => o = [] ∧ r = .tup [.psl 1 (nts l), .bl true]) :=
  (tOrder_ok n hn h).weak fun r o ⟨x, hx, h1, h2⟩ => by rw [hl] at hx; subst hx; exact ⟨h1, h2⟩
theorem tOrder_none (n : Nt) (hn : NL n) (h : chkN n = 0) (hl : ord (adj n) n.ln.length = none) : Ctr Try.prog 19 [ntv n] [] (fun r o => o = [] ∧ r = .tup [.psl 1 (nts []), .bl false]) :=
  (tOrder_ok n hn h).weak fun r o ⟨x, hx, h1, h2⟩ => by rw [hl] at hx; subst hx; exact ⟨h1, h2⟩
theorem lvs_le {E : Gr} : ∀ (o : List Nat) (b : Nat), lvs E o b ≤ o.length := by
  refine rev_rec (by simp [lvs]) fun l a ih b => ?_
  rw [lvs_snoc, List.length_append, List.length_singleton]
  have := ih a
  have := ih b
  split <;> omega
theorem aP_T6 {A B K : Prop} (k : K) (a : A := by (simp only [zA, zT, zD, zC, zN, ints_len, zR, lnl, fll, stl]; omega)) (b : B := by (simp only [zA, zT, zD, zC, zN, ints_len, zR, lnl, fll, stl]; omega)) : (A ∧ B) ∧ K := ⟨⟨a, b⟩, k⟩
theorem tLevels_err (n : Nt) (hn : NL n) (h : chkN n ≠ 0) : Ctr Try.prog 21 [ntv n] [] (fun r o => o = [] ∧ r = .tup [.psl 1 (nts []), .bl false]) := by
  refine Ctr.imp ?_
  refine fn_intro (E := env 0) tys_ok rfl rfl rfl Try.func21 (by kernel_rfl) rfl (by kernel_rfl) ?_
  (repeat' (conv => whnf); first | refine AsgOb.nil ?_ | (refine aC (fun _ => ?_) (fun _ => ?_) <;> try (exfalso; omega)) | refine aS ?_ | refine aG ?_ | refine aD ?_ | refine aH ?_ | refine aP_T6 ?_ | refine aI ?_ | refine aJ ?_ | refine aW (.qs [0, 1, 2, 3, 4, 5, 6, 7, 8, 9, 10, 11, 12] (.l 13 [] .nil .no)) ?_ | (refine aK [] (tOrder_err n hn h) ?_) | fail); all_goals try (conv => whnf)
  exact ⟨rfl, Imp.tup ⟨Imp.nil _, Imp.refl _, trivial⟩⟩
theorem tLevels_none (n : Nt) (hn : NL n) (h : chkN n = 0) (hl : ord (adj n) n.ln.length = none) : Ctr Try.prog 21 [ntv n] [] (fun r o => o = [] ∧ r = .tup [.psl 1 (nts []), .bl false]) := by
  refine Ctr.imp ?_
  refine fn_intro (E := env 0) tys_ok rfl rfl rfl Try.func21 (by kernel_rfl) rfl (by kernel_rfl) ?_
  (repeat' (conv => whnf); first | refine AsgOb.nil ?_ | (refine aC (fun _ => ?_) (fun _ => ?_) <;> try (exfalso; omega)) | refine aS ?_ | refine aG ?_ | refine aD ?_ | refine aH ?_ | refine aP_T6 ?_ | refine aI ?_ | refine aJ ?_ | refine aW (.qs [0, 1, 2, 3, 4, 5, 6, 7, 8, 9, 10, 11, 12] (.l 13 [] .nil .no)) ?_ | (refine aK [] (tOrder_none n hn h hl) ?_) | fail); all_goals try (conv => whnf)
  exact ⟨rfl, Imp.tup ⟨Imp.nil _, Imp.refl _, trivial⟩⟩
theorem tLevels_some (n : Nt) (hn : NL n) (h : chkN n = 0) {l : List Nat} (hl : ord (adj n) n.ln.length = some l) : Ctr Try.prog 21 [ntv n] [] (fun r o => o = [] ∧ r = .tup [.psl 1 (ivs n.ln.length fun b => (lvs (adj n) l b : Nat)), .bl true]) := by
  refine Ctr.imp ?_
  refine fn_intro (E := env 0) tys_ok rfl rfl rfl Try.func21 (by kernel_rfl) rfl (by kernel_rfl) ?_
  have cT := tOrder_some n hn h hl
  have hE := adj_chk h
  obtain ⟨hT, hTl, _⟩ := ord_some hE hl
  have hL := (chkN_zero h).1
  have cO := of_ok n hn h
  clear hl
  generalize n.ln.length = L at *
  generalize adj n = E at *
  have hgl := gps_len L L E
  have hnl := nts_len l
  have hiv : List.replicate (gps L L E).length [i64 0] = ivs L fun _ => 0 := by rw [hgl, ivs_zero]
  (repeat' (conv => whnf); first | refine AsgOb.nil ?_ | (refine aC (fun _ => ?_) (fun _ => ?_) <;> try (exfalso; omega)) | refine aS ?_ | refine aG ?_ | refine aD ?_ | refine aH ?_ | refine aP_T6 ?_ | refine aI ?_ | refine aJ ?_ | refine ⟨_, _, rfl, rfl, Nat.le_refl _, ⟨by (simp only; omega), by omega⟩, ?_⟩ | refine aW (.qs [0, 1, 2, 3, 4, 5, 6, 7, 8, 9, 10, 11, 12] (.l 13 [] .nil .no)) ?_ | (refine aK [] cT ?_) | (refine aK [] cO ?_) | fail); all_goals try (conv => whnf)
  refine LoopOb.mk (Y := Nat) (st := fun i => ⟨[(26, i64 i), (25, i64 (nts l).length), (24, .psl 1 (nts l)), (7, .vec 0), (6, .psl 1 (gps L L E))], [.vec 1 (ivs L fun b => (lvs E (l.take i) b : Nat))]⟩)
    (inv := fun i => i ≤ L) (fun i => L - i) 0 [1] (by omega) (by rw [show (fun b => ((lvs E (l.take 0) b : Nat) : Int)) = fun _ => 0 from rfl, ← hiv]; (exact aL)) ?_
  intro i hi
  (repeat' (conv => whnf); first | refine aS ?_ | refine aG ?_ | refine aD ?_ | refine aH ?_ | refine aP_T6 ?_ | refine aI ?_ | refine aJ ?_ | refine aW (.qs [0, 1, 2, 3, 4, 5, 6, 7, 8, 9, 10, 11, 12] (.l 13 [] .nil .no)) ?_ | fail); all_goals try (conv => whnf)
  refine CondOb.mk (fun hlt => ?_) (fun hlt => ?_)
  · have hil : i < l.length := by omega
    have ha : l.getD i 0 < L := hT.b _ (getD_mem hil)
    have hgi := nts_get hil
    have e : l.take (i + 1) = l.take i ++ [l.getD i 0] := by
      rw [List.take_add_one, List.getD_eq_getElem?_getD, List.getElem?_eq_getElem hil]; rfl
    rw [← hTl] at *
    have hga := gps_get (n := l.length) (m := l.length) (E := E) ha
    have hbl := bls_len l.length (E (l.getD i 0))
    have hsc := fun b => lvs_snoc E (l.take i) (l.getD i 0) b
    have hle := fun b => lvs_le (E := E) (l.take i) b
    rw [List.length_take] at hle
    generalize l.getD i 0 = a at *
    generalize lvs E (l.take i) = V at *
    obtain ⟨G, hG⟩ : ∃ G : Nat → Nat → Int, ∀ b x, G b x = if x < b ∧ E a x = true then max (V x : Int) (V a + 1) else V x := ⟨_, fun _ _ => rfl⟩
    have hs0 : ivs l.length (fun b => (V b : Int)) = ivs l.length (G 0) := ivs_congr fun b _ => by rw [hG]; simp
    (repeat' (conv => whnf); first | (refine aC (fun _ => ?_) (fun _ => ?_) <;> try (exfalso; omega)) | refine aS ?_ | refine aG ?_ | refine aD ?_ | refine aH ?_ | refine aP_T6 ?_ | refine aI ?_ | refine aJ ?_ | refine aW (.qs [0, 1, 2, 3, 4, 5, 6, 7, 8, 9, 10, 11, 12] (.l 13 [] .nil .no)) ?_ | refine ⟨i, _, rfl, hgi, ?_⟩ | refine ⟨a, _, rfl, hga, ?_⟩ | fail); all_goals try (conv => whnf)
    refine LoopOb.mk (Y := Nat) (st := fun b => ⟨[(35, i64 b), (34, i64 (bls l.length (E a)).length), (33, .psl 1 (bls l.length (E a))), (9, i64 a), (26, i64 i), (25, i64 (nts l).length), (24, .psl 1 (nts l)), (7, .vec 0), (6, .psl 1 (gps l.length l.length E))], [.vec 1 (ivs l.length (G b))]⟩)
      (inv := fun b => b ≤ l.length) (fun b => l.length - b) 0 [0] (by omega) (by rw [← hs0]; (exact aL)) ?_
    intro b hb
    have hiG := ivs_len l.length (G b)
    (repeat' (conv => whnf); first | refine aS ?_ | refine aG ?_ | refine aD ?_ | refine aH ?_ | refine aP_T6 ?_ | refine aI ?_ | refine aJ ?_ | refine aW (.qs [0, 1, 2, 3, 4, 5, 6, 7, 8, 9, 10, 11, 12] (.l 13 [] .nil .no)) ?_ | fail); all_goals try (conv => whnf)
    refine CondOb.mk (fun hlt2 => ?_) (fun hlt2 => ?_)
    · have hbm : b < l.length := by omega
      have hg2 := bls_get (f := E a) hbm
      have hGb : G b b = V b := by rw [hG, if_neg (by omega)]
      have hGa : G b a = V a := by rw [hG, if_neg]; rintro ⟨_, h⟩; rw [hE.s] at h; contradiction
      have hlb := hle b
      have hla := hle a
      cases hab : E a b <;> rw [hab] at hg2
      · have hst : ivs l.length (G (b + 1)) = ivs l.length (G b) := ivs_congr fun x _ => by
          rw [hG, hG]
          by_cases e : x = b
          · subst e; rw [hab]; simp
          · have : (x < b + 1 ∧ E a x = true) ↔ (x < b ∧ E a x = true) := by constructor <;> rintro ⟨h1, h2⟩ <;> exact ⟨by omega, h2⟩
            simp only [this]
        (repeat' (conv => whnf); first | (refine aC (fun _ => ?_) (fun _ => ?_) <;> try (exfalso; omega)) | refine aS ?_ | refine aG ?_ | refine aD ?_ | refine aH ?_ | refine aP_T6 ?_ | refine aI ?_ | refine aJ ?_ | refine aW (.qs [0, 1, 2, 3, 4, 5, 6, 7, 8, 9, 10, 11, 12] (.l 13 [] .nil .no)) ?_ | refine ⟨b, _, rfl, hg2, ?_⟩ | fail); all_goals try (conv => whnf)
        exact ⟨b + 1, [0], by omega, by omega, by rw [hst]; (exact aL)⟩
      · have hst : (ivs l.length (G b)).set b [i64 (max (G b b) (G b a + 1))] = ivs l.length (G (b + 1)) := by
          rw [ivs_set]
          refine ivs_congr fun x _ => ?_
          by_cases e : x = b
          · subst e; rw [if_pos rfl, hGb, hGa]; exact ((hG (x + 1) x).trans (if_pos ⟨by omega, hab⟩)).symm
          · rw [if_neg e, hG, hG]
            have : (x < b + 1 ∧ E a x = true) ↔ (x < b ∧ E a x = true) := by constructor <;> rintro ⟨h1, h2⟩ <;> exact ⟨by omega, h2⟩
            simp only [this]
        (repeat' (conv => whnf); first | (refine aC (fun _ => ?_) (fun _ => ?_) <;> try (exfalso; omega)) | refine aS ?_ | refine aG ?_ | refine aD ?_ | refine aH ?_ | refine aP_T6 ?_ | refine aI ?_ | refine aJ ?_ | refine aW (.qs [0, 1, 2, 3, 4, 5, 6, 7, 8, 9, 10, 11, 12] (.l 13 [] .nil .no)) ?_ | refine ⟨b, _, rfl, hg2, ?_⟩ | refine ⟨b, rfl, by omega, ?_⟩ | refine ⟨a, rfl, by omega, ?_⟩ | refine ⟨_, ivs_get hbm, ?_⟩ | refine ⟨_, ivs_get ha, ?_⟩ | fail); all_goals try (conv => whnf)
        exact ⟨b + 1, [0], by omega, by omega, by rw [← hst]; (exact aL)⟩
    · (repeat' (conv => whnf); first | (refine aC (fun _ => ?_) (fun _ => ?_) <;> try (exfalso; omega)) | refine aS ?_ | refine aG ?_ | refine aD ?_ | refine aH ?_ | refine aP_T6 ?_ | refine aI ?_ | refine aJ ?_ | refine aW (.qs [0, 1, 2, 3, 4, 5, 6, 7, 8, 9, 10, 11, 12] (.l 13 [] .nil .no)) ?_ | fail); all_goals try (conv => whnf)
      have hbL : b = l.length := by omega
      subst hbL
      have hfin : ivs l.length (G l.length) = ivs l.length fun b => (lvs E (l.take (i + 1)) b : Nat) := by
        refine ivs_congr fun x hx => ?_
        rw [e, hsc, hG]
        by_cases h : E a x = true
        · rw [if_pos ⟨hx, h⟩, if_pos h]; omega
        · rw [if_neg (fun k => h k.2), if_neg h]
      exact ⟨i + 1, [0], by omega, by omega, by rw [← hfin]; (exact aL)⟩
  · have hi2 : i = l.length := by omega
    (repeat' (conv => whnf); first | (refine aC (fun _ => ?_) (fun _ => ?_) <;> try (exfalso; omega)) | refine aS ?_ | refine aG ?_ | refine aD ?_ | refine aP_T6 ?_ | refine aI ?_ | refine aJ ?_ | refine aW (.qs [0, 1, 2, 3, 4, 5, 6, 7, 8, 9, 10, 11, 12] (.l 13 [] .nil .no)) ?_ | fail); all_goals try (conv => whnf)
    refine .mk [.fa] ?_
    rw [hi2, List.take_length]
    (repeat' (conv => whnf); first | (refine aC (fun _ => ?_) (fun _ => ?_) <;> try (exfalso; omega)) | refine aS ?_ | refine aG ?_ | refine aD ?_ | refine aH ?_ | refine aP_T6 ?_ | refine aI ?_ | refine aJ ?_ | refine aW (.qs [0, 1, 2, 3, 4, 5, 6, 7, 8, 9, 10, 11, 12] (.l 13 [] .nil .no)) ?_ | fail); all_goals try (conv => whnf)
    exact ⟨rfl, Imp.refl _⟩
end Go.Proofs.Ytnlmmjmcackgjaa
