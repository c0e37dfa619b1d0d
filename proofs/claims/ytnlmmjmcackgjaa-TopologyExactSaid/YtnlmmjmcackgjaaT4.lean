/-
  A text of the proofs of this seat: lemmas that the statements' proofs use; it states nothing of the program by itself beyond the contracts that its theorems bear. Conditions: those that stand in each theorem. Its short name: T4.
-/
import Derived.Test.YtnlmmjmcackgjaaT3
import Derived.Test.YtnlmmjmcackgjaaPl
set_option linter.unusedVariables false
set_option linter.unusedSimpArgs false
namespace Go.Proofs.Ytnlmmjmcackgjaa
open Go.Sx Go.Np Go.Tp
set_option maxRecDepth 4000
set_option maxHeartbeats 2000000
/- integers in a row -/
abbrev ivs (m : Nat) (F : Nat → Int) : List (List SV) := (List.range m).map fun b => [i64 (F b)]
abbrev nts (l : List Nat) : List (List SV) := l.map fun (x : Nat) => [i64 x]
theorem nts_len (l : List Nat) : (nts l).length = l.length := by simp [nts]
theorem nts_app (l l' : List Nat) : nts (l ++ l') = nts l ++ nts l' := by simp [nts]
theorem ivs_len (m : Nat) (F : Nat → Int) : (ivs m F).length = m := by simp [ivs]
theorem ivs_get {m b : Nat} {F : Nat → Int} (h : b < m) : (ivs m F)[b]? = some [i64 (F b)] := by simp [ivs, h]
theorem ivs_set {m b : Nat} {F : Nat → Int} {v : Int} : (ivs m F).set b [i64 v] = ivs m (fun x => if x = b then v else F x) := by
  apply List.ext_getElem?
  intro i
  rw [List.getElem?_set]
  by_cases h : i < m
  · rw [ivs_get h, ivs_get h]
    by_cases e : b = i
    · subst e; rw [if_pos rfl, if_pos (by rw [ivs_len]; exact h), if_pos rfl]
    · rw [if_neg e, if_neg (fun k => e k.symm)]
  · rw [List.getElem?_eq_none (by rw [ivs_len]; omega), List.getElem?_eq_none (by rw [ivs_len]; omega)]
    split
    · rw [if_neg]; rw [ivs_len]; omega
    · rfl
theorem ivs_zero (m : Nat) : List.replicate m [i64 0] = ivs m fun _ => 0 := by
  apply List.ext_getElem <;> simp [ivs]
theorem ivs_congr {m : Nat} {F G : Nat → Int} (h : ∀ b, b < m → F b = G b) : ivs m F = ivs m G := by
  unfold ivs
  refine List.map_congr_left fun b hb => ?_
  rw [h b (List.mem_range.1 hb)]
/- the first place of a number, or -1 -/
def FstP (m : Nat) (F : Nat → Int) (v z : Int) : Prop := (z = -1 ∧ ∀ b, b < m → F b ≠ v) ∨ ∃ a : Nat, z = a ∧ a < m ∧ F a = v ∧ ∀ b, b < a → F b ≠ v
theorem aP_T4 {A B K : Prop} (k : K) (a : A := by (simp only [zA, zT, zD, zC, zN, ints_len, zR, lnl, fll, stl]; omega)) (b : B := by (simp only [zA, zT, zD, zC, zN, ints_len, zR, lnl, fll, stl]; omega)) : (A ∧ B) ∧ K := ⟨⟨a, b⟩, k⟩
theorem Index_ok (m : Nat) (hm : m ≤ 1000) (F : Nat → Int) (v : Int) : Ctr Try.prog 58 [.vec 0, i64 v] [.vec 1 (ivs m F)] (fun r o => ∃ z, FstP m F v z ∧ o = [.vec 1 (ivs m F)] ∧ r = i64 z) := by
  refine fn_intro (E := env 1) tys_ok rfl rfl rfl Try.func58 (by kernel_rfl) rfl (by kernel_rfl) ?_
  have hl := ivs_len m F
  (repeat' (conv => whnf); first | (refine aC (fun _ => ?_) (fun _ => ?_) <;> try (exfalso; omega)) | refine aS ?_ | refine aG ?_ | refine aD ?_ | refine aH ?_ | refine aP_T4 ?_ | refine aI ?_ | refine aJ ?_ | fail); all_goals try (conv => whnf)
  refine LoopOb.mk (Y := Nat) (st := fun i => ⟨[(8, i64 i), (7, i64 (ivs m F).length), (0, .vec 0), (1, i64 v)], [.vec 1 (ivs m F)]⟩)
    (inv := fun i => i ≤ m ∧ ∀ b, b < i → F b ≠ v) (fun i => m - i) 0 [0] ⟨by omega, by omega⟩ (by (exact aL)) ?_
  rintro i ⟨hi, hv⟩
  (repeat' (conv => whnf); first | refine aS ?_ | refine aG ?_ | refine aD ?_ | refine aH ?_ | refine aP_T4 ?_ | refine aI ?_ | refine aJ ?_ | fail); all_goals try (conv => whnf)
  refine CondOb.mk (fun hlt => ?_) (fun hlt => ?_)
  · have him : i < m := by omega
    have hg := ivs_get (F := F) him
    (repeat' (conv => whnf); first | (refine aC (fun _ => ?_) (fun _ => ?_) <;> try (exfalso; omega)) | refine aS ?_ | refine aG ?_ | refine aD ?_ | refine aH ?_ | refine aP_T4 ?_ | refine aI ?_ | refine aJ ?_ | refine ⟨i, rfl, by omega, ?_⟩ | refine ⟨_, hg, ?_⟩ | fail); all_goals try (conv => whnf)
    · exact ⟨i, .inr ⟨i, rfl, him, (by assumption : v = F i).symm, hv⟩, rfl, rfl⟩
    · refine ⟨i + 1, [0], ⟨by omega, fun b hb => ?_⟩, by omega, by (exact aL)⟩
      by_cases e : b = i
      · subst e; exact fun k => (by assumption : ¬v = F b) k.symm
      · exact hv b (by omega)
  · (repeat' (conv => whnf); first | (refine aC (fun _ => ?_) (fun _ => ?_) <;> try (exfalso; omega)) | refine aS ?_ | refine aG ?_ | refine aD ?_ | refine aH ?_ | refine aP_T4 ?_ | refine aI ?_ | refine aJ ?_ | fail); all_goals try (conv => whnf)
    exact ⟨-1, .inl ⟨rfl, fun b hb => hv b (by omega)⟩, rfl, rfl⟩
theorem tOrder_err (n : Nt) (hn : NL n) (h : chkN n ≠ 0) : Ctr Try.prog 19 [ntv n] [] (fun r o => o = [] ∧ r = .tup [.psl 1 (nts []), .bl false]) := by
  refine Ctr.imp ?_
  refine fn_intro (E := env 0) tys_ok rfl rfl rfl Try.func19 (by kernel_rfl) rfl (by kernel_rfl) ?_
  (repeat' (conv => whnf); first | refine AsgOb.nil ?_ | (refine aC (fun _ => ?_) (fun _ => ?_) <;> try (exfalso; omega)) | refine aS ?_ | refine aG ?_ | refine aD ?_ | refine aH ?_ | refine aP_T4 ?_ | refine aI ?_ | refine aJ ?_ | (refine aK [] (of_err n hn h) ?_) | fail); all_goals try (conv => whnf)
  exact ⟨rfl, Imp.tup ⟨Imp.nil _, Imp.refl _, trivial⟩⟩
theorem tOrder_ok (n : Nt) (hn : NL n) (h : chkN n = 0) : Ctr Try.prog 19 [ntv n] [] (fun r o => ∃ (x : List Nat × Bool), (match ord (adj n) n.ln.length with | some l => x = (l, true) | none => x = ([], false)) ∧ o = [] ∧ r = .tup [.psl 1 (nts x.1), .bl x.2]) := by
  refine Ctr.impE ?_
  refine fn_intro (E := env 0) tys_ok rfl rfl rfl Try.func19 (by kernel_rfl) rfl (by kernel_rfl) ?_
  have hL := (chkN_zero h).1
  have hE := adj_chk h
  have cO := of_ok n hn h
  have hgl := gps_len n.ln.length n.ln.length (adj n)
  generalize n.ln.length = L at *
  generalize adj n = E at *
  have hiv : List.replicate (gps L L E).length [i64 0] = ivs L fun _ => 0 := by rw [hgl, ivs_zero]
  have hne : gps L L E ≠ [] := fun k => by rw [k] at hgl; simp at hgl; omega
  have hed := edg_len (E := E) (m := L) (a := L)
  have hel := eds_len (edg E L L)
  have hLL : L * L ≤ 8 * 8 := Nat.mul_le_mul (by omega) (by omega)
  (repeat' (conv => whnf); first | refine AsgOb.nil ?_ | (refine aC (fun _ => ?_) (fun _ => ?_) <;> try (exfalso; omega)) | refine aS ?_ | refine aG ?_ | refine aD ?_ | refine aH ?_ | refine aP_T4 ?_ | refine aI ?_ | refine aJ ?_ | refine ⟨_, _, rfl, rfl, Nat.le_refl _, ⟨by (simp only; omega), by omega⟩, ?_⟩ | (refine aK [] cO ?_) | refine EqnOb.ne hne ?_ | (refine aK [] (gedges_ok L (by omega) E) ?_) | fail); all_goals try (conv => whnf)
  refine LoopOb.mk (Y := Nat × (Nat → Int)) (st := fun y => ⟨[(22, i64 y.1), (21, i64 (eds (edg E L L)).length), (20, .psl 2 (eds (edg E L L))), (5, .vec 0), (4, .psl 1 (gps L L E))], [.vec 1 (ivs L y.2)]⟩)
    (inv := fun y => y.1 ≤ (edg E L L).length ∧ ∀ b, b < L → y.2 b = (((edg E L L).take y.1).countP (fun e => decide (e.2 = b)) : Nat)) (fun y => (edg E L L).length - y.1) (0, fun _ => 0) [1] ⟨by simp, by simp⟩ (by rw [← hiv]; (exact aL)) ?_
  rintro ⟨i, F⟩ ⟨hi, hF⟩
  dsimp only at hi hF ⊢
  (repeat' (conv => whnf); first | refine aS ?_ | refine aG ?_ | refine aD ?_ | refine aH ?_ | refine aP_T4 ?_ | refine aI ?_ | refine aJ ?_ | fail); all_goals try (conv => whnf)
  refine CondOb.mk (fun hlt => ?_) (fun hlt => ?_)
  · have hil : i < (edg E L L).length := by omega
    have hg := eds_get hil
    (repeat' (conv => whnf); first | (refine aC (fun _ => ?_) (fun _ => ?_) <;> try (exfalso; omega)) | refine aS ?_ | refine aG ?_ | refine aD ?_ | refine aH ?_ | refine aP_T4 ?_ | refine aI ?_ | refine aJ ?_ | refine ⟨i, _, rfl, hg, ?_⟩ | refine ⟨1, rfl, by omega, ?_⟩ | fail); all_goals try (conv => whnf)
    obtain ⟨⟨x, y⟩, he⟩ : ∃ e : Ed, e = (edg E L L).getD i (0, 0) := ⟨_, rfl⟩
    have hm : (x, y) ∈ edg E L L := by rw [he, List.getD_eq_getElem?_getD, List.getElem?_eq_getElem hil]; exact List.getElem_mem _
    have hy := (mem_edg.1 hm).2.1
    dsimp only at hy
    have hFy := hF y hy
    have hcl : ((edg E L L).take i).countP (fun e => decide (e.2 = y)) ≤ ((edg E L L).take i).length := List.countP_le_length
    rw [List.length_take] at hcl
    have hstep : (edg E L L).take (i + 1) = (edg E L L).take i ++ [(x, y)] := by
      rw [List.take_add_one, he, List.getD_eq_getElem?_getD, List.getElem?_eq_getElem hil]; rfl
    rw [← he]
    have hil2 := ivs_len L F
    (repeat' (conv => whnf); first | refine ⟨y, rfl, by omega, ?_⟩ | (refine aC (fun _ => ?_) (fun _ => ?_) <;> try (exfalso; omega)) | refine aS ?_ | refine aG ?_ | refine aD ?_ | refine aH ?_ | refine aP_T4 ?_ | refine aI ?_ | refine aJ ?_ | refine ⟨_, ivs_get (by omega), ?_⟩ | fail); all_goals try (conv => whnf)
    refine ⟨(i + 1, fun z => if z = y then F y + 1 else F z), [0], ⟨by dsimp only; omega, fun b hb => ?_⟩, by dsimp only; omega, by dsimp only; rw [← ivs_set]; (exact aL)⟩
    dsimp only
    rw [hstep, List.countP_append]
    by_cases e : b = y
    · subst e; rw [if_pos rfl, hFy]; simp
    · rw [if_neg e, hF b hb]; simp [Ne.symm e]
  · (repeat' (conv => whnf); first | (refine aC (fun _ => ?_) (fun _ => ?_) <;> try (exfalso; omega)) | refine aS ?_ | refine aG ?_ | refine aD ?_ | refine aH ?_ | refine aP_T4 ?_ | refine aI ?_ | refine aJ ?_ | fail); all_goals try (conv => whnf)
    have hi2 : i = (edg E L L).length := by omega
    rw [hi2, List.take_length] at hF
    have hI := InP.init (E := E) (m := L) hF
    clear hF hi hi2 hlt hed hel
    refine LoopOb.mk (Y := List Nat × (Nat → Int)) (st := fun y => ⟨[(8, .vec 1), (5, .vec 0), (4, .psl 1 (gps L L E))], [.vec 1 (ivs L y.2), .vec 1 (nts y.1)]⟩)
      (inv := fun y => Top E L y.1 ∧ InP E L y.1 y.2 ∧ ord E L = kahn E L (L - y.1.length) y.1) (fun y => L - y.1.length) ([], F) [0, 1] ⟨Top.nil E L, hI, by simp [ord]⟩ (by (exact aL)) ?_
    clear hI F i
    rintro ⟨out, F⟩ ⟨hT, hI, hK⟩
    dsimp only at hT hI hK ⊢
    have hol := nts_len out
    have hoL : out.length ≤ L := nodup_le hT.n hT.b
    have hil := ivs_len L F
    (repeat' (conv => whnf); first | refine aS ?_ | refine aG ?_ | refine aD ?_ | refine aH ?_ | refine aP_T4 ?_ | refine aI ?_ | refine aJ ?_ | fail); all_goals try (conv => whnf)
    refine CondOb.mk (fun hlt => ?_) (fun hlt => ?_)
    · obtain ⟨k, hk⟩ : ∃ k, L - out.length = k + 1 := ⟨L - out.length - 1, by omega⟩
      rw [hk] at hK
      (repeat' (conv => whnf); first | (refine aC (fun _ => ?_) (fun _ => ?_) <;> try (exfalso; omega)) | refine aS ?_ | refine aG ?_ | refine aD ?_ | refine aP_T4 ?_ | refine aI ?_ | refine aJ ?_ | fail); all_goals try (conv => whnf)
      refine .mk [] ?_
      refine CallOb.mk [0] (Index_ok L (by omega) F 0) rfl (ImpL.refl _) rfl rfl ?_
      rintro _ _ ⟨z, hz, rfl, rfl⟩
      rcases hz with ⟨rfl, hz⟩ | ⟨a, rfl, ha, h0, hf⟩
      · rw [kahn_stop (hI.none hz)] at hK
        (repeat' (conv => whnf); first | refine AsgOb.nil ?_ | (refine aC (fun _ => ?_) (fun _ => ?_) <;> try (exfalso; omega)) | refine aS ?_ | refine aG ?_ | refine aD ?_ | refine aH ?_ | refine aP_T4 ?_ | refine aI ?_ | refine aJ ?_ | fail); all_goals try (conv => whnf)
        exact ⟨([], false), by rw [hK], rfl, Imp.tup ⟨Imp.nil _, Imp.refl _, trivial⟩⟩
      · have hnx := hI.some ha h0 hf
        have hno := (nx_some hnx).2.1
        rw [kahn_step hnx, show k = L - (out ++ [a]).length by simp; omega] at hK
        have hT2 := hT.snoc hE hnx
        have hga := gps_get (n := L) (m := L) (E := E) ha
        have hbl := bls_len L (E a)
        (repeat' (conv => whnf); first | (refine aC (fun _ => ?_) (fun _ => ?_) <;> try (exfalso; omega)) | refine aS ?_ | refine aG ?_ | refine aD ?_ | refine aH ?_ | refine aP_T4 ?_ | refine aI ?_ | refine aJ ?_ | refine ⟨a, rfl, by omega, ?_⟩ | refine ⟨_, ivs_get ha, ?_⟩ | refine ⟨a, _, rfl, hga, ?_⟩ | fail); all_goals try (conv => whnf)
        obtain ⟨G, hG⟩ : ∃ G : Nat → Nat → Int, ∀ b x, G b x = if x < b ∧ E a x = true then (if x = a then -1 else F x) - 1 else if x = a then -1 else F x := ⟨_, fun _ _ => rfl⟩
        have hs0 : (ivs L F).set a [i64 (-1)] = ivs L (G 0) := by
          rw [ivs_set]
          exact ivs_congr fun b _ => by rw [hG]; simp
        have hI2 : InP E L (out ++ [a]) (G L) := hI.snoc hE.s ha hno h0 fun b hb => by
          rw [hG]
          by_cases he : E a b = true
          · rw [if_pos ⟨hb, he⟩, if_pos he]
          · rw [if_neg (fun k => he k.2), if_neg he]
        have hbd : ∀ b, b < L → -100 ≤ F b ∧ F b ≤ 100 := fun b hb => by have := hI.l b hb; omega
        clear hI
        refine LoopOb.mk (Y := Nat) (st := fun b => ⟨[(55, i64 b), (54, i64 (bls L (E a)).length), (53, .psl 1 (bls L (E a))), (8, .vec 1), (5, .vec 0), (4, .psl 1 (gps L L E))], [.vec 1 (ivs L (G b)), .vec 1 (nts (out ++ [a]))]⟩)
          (inv := fun b => b ≤ L) (fun b => L - b) 0 [0, 3] (by omega) (by rw [← hs0, nts_app]; (exact aL)) ?_
        intro b hb
        have hiG := ivs_len L (G b)
        (repeat' (conv => whnf); first | refine aS ?_ | refine aG ?_ | refine aD ?_ | refine aH ?_ | refine aP_T4 ?_ | refine aI ?_ | refine aJ ?_ | fail); all_goals try (conv => whnf)
        refine CondOb.mk (fun hlt2 => ?_) (fun hlt2 => ?_)
        · have hbm : b < L := by omega
          have hg2 := bls_get (f := E a) hbm
          have hFb := hbd b hbm
          have hGb : G b b = if b = a then -1 else F b := by rw [hG, if_neg (by omega)]
          have hGbd : -100 ≤ G b b ∧ G b b ≤ 100 := by rw [hGb]; split <;> omega
          cases hab : E a b <;> rw [hab] at hg2
          · have hst : ivs L (G (b + 1)) = ivs L (G b) := ivs_congr fun x _ => by
              rw [hG, hG]
              by_cases e : x = b
              · subst e; rw [hab]; simp
              · have : (x < b + 1 ∧ E a x = true) ↔ (x < b ∧ E a x = true) := by constructor <;> rintro ⟨h1, h2⟩ <;> exact ⟨by omega, h2⟩
                simp only [this]
            (repeat' (conv => whnf); first | (refine aC (fun _ => ?_) (fun _ => ?_) <;> try (exfalso; omega)) | refine aS ?_ | refine aG ?_ | refine aD ?_ | refine aH ?_ | refine aP_T4 ?_ | refine aI ?_ | refine aJ ?_ | refine ⟨b, _, rfl, hg2, ?_⟩ | fail); all_goals try (conv => whnf)
            exact ⟨b + 1, [0, 1], by omega, by omega, by rw [hst]; (exact aL)⟩
          · have hst : (ivs L (G b)).set b [i64 (G b b - 1)] = ivs L (G (b + 1)) := by
              rw [ivs_set]
              refine ivs_congr fun x _ => ?_
              by_cases e : x = b
              · subst e; rw [if_pos rfl, hGb]; exact ((hG (x + 1) x).trans (if_pos ⟨by omega, hab⟩)).symm
              · rw [if_neg e, hG, hG]
                have : (x < b + 1 ∧ E a x = true) ↔ (x < b ∧ E a x = true) := by constructor <;> rintro ⟨h1, h2⟩ <;> exact ⟨by omega, h2⟩
                simp only [this]
            (repeat' (conv => whnf); first | (refine aC (fun _ => ?_) (fun _ => ?_) <;> try (exfalso; omega)) | refine aS ?_ | refine aG ?_ | refine aD ?_ | refine aH ?_ | refine aP_T4 ?_ | refine aI ?_ | refine aJ ?_ | refine ⟨b, _, rfl, hg2, ?_⟩ | refine ⟨b, rfl, by omega, ?_⟩ | refine ⟨_, ivs_get hbm, ?_⟩ | fail); all_goals try (conv => whnf)
            exact ⟨b + 1, [0, 1], by omega, by omega, by rw [← hst]; (exact aL)⟩
        · have hbL : b = L := by omega
          subst hbL
          (repeat' (conv => whnf); first | (refine aC (fun _ => ?_) (fun _ => ?_) <;> try (exfalso; omega)) | refine aS ?_ | refine aG ?_ | refine aD ?_ | refine aH ?_ | refine aP_T4 ?_ | refine aI ?_ | refine aJ ?_ | fail); all_goals try (conv => whnf)
          exact ⟨(out ++ [a], G b), [0, 1], ⟨hT2, hI2, hK⟩, by simp only [List.length_append, List.length_singleton]; omega, by (exact aL)⟩
    · have hl : out.length = L := by omega
      rw [hl, Nat.sub_self] at hK
      (repeat' (conv => whnf); first | (refine aC (fun _ => ?_) (fun _ => ?_) <;> try (exfalso; omega)) | refine aS ?_ | refine aG ?_ | refine aD ?_ | refine aP_T4 ?_ | refine aI ?_ | refine aJ ?_ | fail); all_goals try (conv => whnf)
      refine .mk [.fa] ?_
      (repeat' (conv => whnf); first | (refine aC (fun _ => ?_) (fun _ => ?_) <;> try (exfalso; omega)) | refine aS ?_ | refine aG ?_ | refine aD ?_ | refine aH ?_ | refine aP_T4 ?_ | refine aI ?_ | refine aJ ?_ | fail); all_goals try (conv => whnf)
      exact ⟨(out, true), by rw [hK]; rfl, rfl, Imp.refl _⟩
end Go.Proofs.Ytnlmmjmcackgjaa
