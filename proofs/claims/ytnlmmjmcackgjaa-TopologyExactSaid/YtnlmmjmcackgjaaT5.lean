/-
  A text of the proofs of this seat: lemmas that the statements' proofs use; it states nothing of the program by itself beyond the contracts that its theorems bear. Conditions: those that stand in each theorem. Its short name: T5.
-/
import Derived.Test.YtnlmmjmcackgjaaT4
set_option linter.unusedVariables false
set_option linter.unusedSimpArgs false
namespace Go.Proofs.Ytnlmmjmcackgjaa
open Go.Sx Go.Np Go.Tp
set_option maxRecDepth 4000
set_option maxHeartbeats 2000000
theorem nts_get {l : List Nat} {i : Nat} (h : i < l.length) : (nts l)[i]? = some [i64 (l.getD i 0 : Nat)] := by simp [nts, h]
theorem aP_T5 {A B K : Prop} (k : K) (a : A := by (simp only [zA, zT, zD, zC, zN, ints_len, zR, lnl, fll, stl]; omega)) (b : B := by (simp only [zA, zT, zD, zC, zN, ints_len, zR, lnl, fll, stl]; omega)) : (A ∧ B) ∧ K := ⟨⟨a, b⟩, k⟩
theorem IndexP_ok (l : List Nat) (hl : l.length ≤ 1000000) (v : Nat) : Ctr Try.prog 58 [.psl 1 (nts l), i64 v] [] (fun r o => ∃ z : Int, (0 ≤ z ↔ v ∈ l) ∧ o = [] ∧ r = i64 z) := by
  refine fn_intro (E := env 0) tys_ok rfl rfl rfl Try.func58 (by kernel_rfl) rfl (by kernel_rfl) ?_
  have hn := nts_len l
  (repeat' (conv => whnf); first | (refine aC (fun _ => ?_) (fun _ => ?_) <;> try (exfalso; omega)) | refine aS ?_ | refine aG ?_ | refine aD ?_ | refine aH ?_ | refine aP_T5 ?_ | refine aI ?_ | refine aJ ?_ | fail); all_goals try (conv => whnf)
  refine LoopOb.mk (Y := Nat) (st := fun i => ⟨[(8, i64 i), (7, i64 (nts l).length), (0, .psl 1 (nts l)), (1, i64 v)], []⟩)
    (inv := fun i => i ≤ l.length ∧ ∀ b, b < i → l.getD b 0 ≠ v) (fun i => l.length - i) 0 [] ⟨by omega, by omega⟩ (by (exact aL)) ?_
  rintro i ⟨hi, hv⟩
  (repeat' (conv => whnf); first | refine aS ?_ | refine aG ?_ | refine aD ?_ | refine aH ?_ | refine aP_T5 ?_ | refine aI ?_ | refine aJ ?_ | fail); all_goals try (conv => whnf)
  refine CondOb.mk (fun hlt => ?_) (fun hlt => ?_)
  · have him : i < l.length := by omega
    have hg := nts_get him
    (repeat' (conv => whnf); first | (refine aC (fun _ => ?_) (fun _ => ?_) <;> try (exfalso; omega)) | refine aS ?_ | refine aG ?_ | refine aD ?_ | refine aH ?_ | refine aP_T5 ?_ | refine aI ?_ | refine aJ ?_ | refine ⟨i, _, rfl, hg, ?_⟩ | fail); all_goals try (conv => whnf)
    · have e : (v : Int) = ((l.getD i 0 : Nat) : Int) := by assumption
      exact ⟨i, ⟨fun _ => by rw [show v = l.getD i 0 by omega]; exact getD_mem him, fun _ => by omega⟩, rfl, rfl⟩
    · have e : ¬(v : Int) = ((l.getD i 0 : Nat) : Int) := by assumption
      refine ⟨i + 1, [], ⟨by omega, fun b hb => ?_⟩, by omega, by (exact aL)⟩
      by_cases e2 : b = i
      · subst e2; omega
      · exact hv b (by omega)
  · (repeat' (conv => whnf); first | (refine aC (fun _ => ?_) (fun _ => ?_) <;> try (exfalso; omega)) | refine aS ?_ | refine aG ?_ | refine aD ?_ | refine aH ?_ | refine aP_T5 ?_ | refine aI ?_ | refine aJ ?_ | fail); all_goals try (conv => whnf)
    refine ⟨-1, ⟨fun h => by omega, fun h => ?_⟩, rfl, rfl⟩
    obtain ⟨i, hi, e⟩ := mem_getD h
    exact absurd e (hv i (by omega))
theorem Contains_ok (l : List Nat) (hl : l.length ≤ 1000000) (v : Nat) : Ctr Try.prog 87 [.psl 1 (nts l), i64 v] [] (fun r o => o = [] ∧ r = .bp (v ∈ l)) := by
  refine Ctr.imp ?_
  refine fn_intro (E := env 0) tys_ok rfl rfl rfl Try.func87 (by kernel_rfl) rfl (by kernel_rfl) ?_
  (repeat' (conv => whnf); first | (refine aC (fun _ => ?_) (fun _ => ?_) <;> try (exfalso; omega)) | refine aS ?_ | refine aG ?_ | refine aD ?_ | refine aH ?_ | refine aP_T5 ?_ | refine aI ?_ | refine aJ ?_ | fail); all_goals try (conv => whnf)
  refine CallOb.mk [] (IndexP_ok l hl v) rfl (ImpL.refl _) rfl rfl ?_
  rintro _ _ ⟨z, hz, rfl, rfl⟩
  (repeat' (conv => whnf); first | (refine aC (fun _ => ?_) (fun _ => ?_) <;> try (exfalso; omega)) | refine aS ?_ | refine aG ?_ | refine aD ?_ | refine aH ?_ | refine aP_T5 ?_ | refine aI ?_ | refine aJ ?_ | fail); all_goals try (conv => whnf)
  exact ⟨rfl, Imp.bp hz⟩
theorem CloneO_ok (l : List Nat) (h0 : l ≠ []) (hl : l.length ≤ 1000000) : Ctr Try.prog 88 [.psl 1 (nts l)] [] (fun r o => o = [.vec 1 (nts l)] ∧ r = .vec 0) := by
  refine fn_intro (E := env 0) tys_ok rfl rfl rfl Try.func88 (by kernel_rfl) rfl (by kernel_rfl) ?_
  have hn := nts_len l
  (repeat' (conv => whnf); first | refine AsgOb.nil ?_ | refine aC (fun _ => ?_) (fun _ => ?_) | refine aS ?_ | refine aG ?_ | refine aD ?_ | refine aH ?_ | refine aP_T5 ?_ | refine aI ?_ | refine aJ ?_ | fail); all_goals try (conv => whnf)
  refine .ne (by simpa using h0) ?_
  (repeat' (conv => whnf); first | refine aC (fun _ => ?_) (fun _ => ?_) | refine aS ?_ | refine aG ?_ | refine aD ?_ | refine aP_T5 ?_ | refine aI ?_ | refine aJ ?_ | fail); all_goals try (conv => whnf)
  refine .mk [.wk [1] ⟨[(2, .vec 0)], [.vec 1 (nts l)]⟩] ⟨by (exact aL), ?_⟩
  exact ⟨rfl, rfl⟩
theorem cycF_len {E : Gr} {m : Nat} : ∀ {k : Nat} {w c : List Nat}, cycF E m k w = some c → w.length ≤ c.length
  | 0, w, c, h => by
    unfold cycF at h
    split at h
    · cases h; exact Nat.le_refl _
    · contradiction
  | k + 1, w, c, h => by
    unfold cycF at h
    obtain ⟨b, hb, h2, _⟩ := range_find.1 h
    split at h2
    · have := cycF_len h2
      simp only [List.length_append, List.length_singleton] at this
      omega
    · contradiction
theorem nts_ne {c : List Nat} (h : 1 ≤ c.length) : nts c ≠ [] := fun e => by
  have := nts_len c
  rw [e] at this; simp at this; omega
/- what cycle tries with a line more -/
def cycA (E : Gr) (m k : Nat) (w : List Nat) (b : Nat) : Option (List Nat) := if w.getD 0 0 < b ∧ E (w.getD (w.length - 1) 0) b = true ∧ b ∉ w then cycF E m k (w ++ [b]) else none
def optP (x : Option (List Nat)) (r : SV) : Prop := match x with
  | none => r = .nil
  | some c => r = .psl 1 (nts c)
theorem gcyc_ok (m : Nat) (hm : m ≤ 1000) (E : Gr) : ∀ (k : Nat) (w : List Nat), 1 ≤ w.length → (∀ x ∈ w, x < m) → w.length + k ≤ 1000 →
    Ctr Try.prog 50 [.psl 1 (gps m m E), .psl 1 (nts w), i64 (w.length + k : Nat)] [] (fun r o => o = [] ∧ optP (cycF E m k w) r)
  | 0, w, h1, hw, hk => by
    refine fn_intro (E := env 0) tys_ok rfl rfl rfl Try.func50 (by kernel_rfl) rfl (by kernel_rfl) ?_
    have hwl := nts_len w
    have hgl := gps_len m m E
    have hla : w.getD (w.length - 1) 0 < m := hw _ (getD_mem (by omega))
    have hfi : w.getD 0 0 < m := hw _ (getD_mem (by omega))
    have hgw := nts_get (l := w) (i := w.length - 1) (by omega)
    have hg0 := nts_get (l := w) (i := 0) (by omega)
    have hF : cycF E m 0 w = if E (w.getD (w.length - 1) 0) (w.getD 0 0) = true then some w else none := rfl
    have hga := gps_get (n := m) (m := m) (E := E) hla
    have hbl := bls_len m (E (w.getD (w.length - 1) 0))
    have hgb := bls_get (f := E (w.getD (w.length - 1) 0)) hfi
    generalize w.getD (w.length - 1) 0 = x at *
    generalize w.getD 0 0 = y at *
    cases hxy : E x y <;> rw [hxy] at hgb hF
    all_goals rw [hF]
    · (repeat' (conv => whnf); first | refine AsgOb.nil ?_ | (refine aC (fun _ => ?_) (fun _ => ?_) <;> try (exfalso; omega)) | refine aS ?_ | refine aG ?_ | refine aD ?_ | refine aH ?_ | refine aP_T5 ?_ | refine aI ?_ | refine aJ ?_ | refine aW (.qs [0, 1, 2, 3, 4, 5, 6, 7, 8] .nil) ?_ | refine ⟨w.length - 1, _, by omega, hgw, ?_⟩ | refine ⟨x, _, rfl, hga, ?_⟩ | refine ⟨0, _, rfl, hg0, ?_⟩ | refine ⟨y, _, rfl, hgb, ?_⟩ | fail); all_goals try (conv => whnf)
      exact ⟨rfl, rfl⟩
    · (repeat' (conv => whnf); first | refine AsgOb.nil ?_ | (refine aC (fun _ => ?_) (fun _ => ?_) <;> try (exfalso; omega)) | refine aS ?_ | refine aG ?_ | refine aD ?_ | refine aH ?_ | refine aP_T5 ?_ | refine aI ?_ | refine aJ ?_ | refine aW (.qs [0, 1, 2, 3, 4, 5, 6, 7, 8] .nil) ?_ | refine ⟨w.length - 1, _, by omega, hgw, ?_⟩ | refine ⟨x, _, rfl, hga, ?_⟩ | refine ⟨0, _, rfl, hg0, ?_⟩ | refine ⟨y, _, rfl, hgb, ?_⟩ | fail); all_goals try (conv => whnf)
      exact ⟨rfl, rfl⟩
  | k + 1, w, h1, hw, hk => by
    refine fn_intro (E := env 0) tys_ok rfl rfl rfl Try.func50 (by kernel_rfl) rfl (by kernel_rfl) ?_
    have hwl := nts_len w
    have hgl := gps_len m m E
    have hla : w.getD (w.length - 1) 0 < m := hw _ (getD_mem (by omega))
    have hfi : w.getD 0 0 < m := hw _ (getD_mem (by omega))
    have hgw := nts_get (l := w) (i := w.length - 1) (by omega)
    have hg0 := nts_get (l := w) (i := 0) (by omega)
    have hF : cycF E m (k + 1) w = (List.range m).findSome? (cycA E m k w) := rfl
    have hA : ∀ b, cycA E m k w b = if w.getD 0 0 < b ∧ E (w.getD (w.length - 1) 0) b = true ∧ b ∉ w then cycF E m k (w ++ [b]) else none := fun _ => rfl
    have hga := gps_get (n := m) (m := m) (E := E) hla
    have hbl := bls_len m (E (w.getD (w.length - 1) 0))
    have hgb := fun b hb => bls_get (f := E (w.getD (w.length - 1) 0)) (m := m) (b := b) hb
    generalize w.getD (w.length - 1) 0 = x at *
    generalize w.getD 0 0 = y at *
    rw [hF]
    have hne : w ≠ [] := fun e => by rw [e] at h1; simp at h1
    (repeat' (conv => whnf); first | refine AsgOb.nil ?_ | (refine aC (fun _ => ?_) (fun _ => ?_) <;> try (exfalso; omega)) | refine aS ?_ | refine aG ?_ | refine aD ?_ | refine aH ?_ | refine aP_T5 ?_ | refine aI ?_ | refine aJ ?_ | refine aW (.qs [0, 1, 2, 3, 4, 5, 6, 7, 8] .nil) ?_ | refine ⟨w.length - 1, _, by omega, hgw, ?_⟩ | refine ⟨0, _, rfl, hg0, ?_⟩ | fail); all_goals try (conv => whnf)
    refine LoopOb.mk (Y := Nat) (st := fun b => ⟨[(8, i64 b), (7, i64 x), (0, .psl 1 (gps m m E)), (1, .psl 1 (nts w)), (2, i64 (w.length + (k + 1) : Nat))], []⟩)
      (inv := fun b => (y + 1 ≤ b ∧ b ≤ m) ∧ ∀ j, j < b → cycA E m k w j = none) (fun b => m - b) (y + 1) [] ⟨by omega, fun j hj => by rw [hA, if_neg]; rintro ⟨h, _⟩; omega⟩ (by (exact aL)) ?_
    rintro b ⟨hb, hv⟩
    (repeat' (conv => whnf); first | refine aS ?_ | refine aG ?_ | refine aD ?_ | refine aH ?_ | refine aP_T5 ?_ | refine aI ?_ | refine aJ ?_ | refine aW (.qs [0, 1, 2, 3, 4, 5, 6, 7, 8] .nil) ?_ | fail); all_goals try (conv => whnf)
    refine CondOb.mk (fun hlt => ?_) (fun hlt => ?_)
    · have hbm : b < m := by omega
      have hg2 := hgb b hbm
      have hnx : cycA E m k w b = none → ∀ j, j < b + 1 → cycA E m k w j = none := fun h j hj => by
        by_cases e : j = b
        · subst e; exact h
        · exact hv j (by omega)
      cases hxb : E x b <;> rw [hxb] at hg2
      · (repeat' (conv => whnf); first | (refine aC (fun _ => ?_) (fun _ => ?_) <;> try (exfalso; omega)) | refine aS ?_ | refine aG ?_ | refine aD ?_ | refine aH ?_ | refine aP_T5 ?_ | refine aI ?_ | refine aJ ?_ | refine aW (.qs [0, 1, 2, 3, 4, 5, 6, 7, 8] .nil) ?_ | refine ⟨x, _, rfl, hga, ?_⟩ | refine ⟨b, _, rfl, hg2, ?_⟩ | fail); all_goals try (conv => whnf)
        exact ⟨b + 1, [], ⟨by omega, hnx (by rw [hA, if_neg]; rw [hxb]; rintro ⟨_, h, _⟩; contradiction)⟩, by omega, by (exact aL)⟩
      · have hR := gcyc_ok m hm E k (w ++ [b]) (by simp) (fun z hz => by
          rcases List.mem_append.1 hz with hz | hz
          · exact hw z hz
          · rw [List.mem_singleton.1 hz]; exact hbm) (by simp only [List.length_append, List.length_singleton]; omega)
        rw [nts_app, show (w ++ [b]).length + k = w.length + (k + 1) by simp only [List.length_append, List.length_singleton]; omega] at hR
        (repeat' (conv => whnf); first | (refine Gh.mk [.fa] ?_; (conv => whnf); refine CallOb.mk [] hR rfl (ImpL.refl _) rfl rfl ?_; rintro r _ ⟨rfl, hr⟩; cases hc : cycF E m k (w ++ [b]) <;> rw [hc] at hr <;> dsimp only [optP] at hr <;> subst hr) | refine AsgOb.nil ?_ | (refine aC (fun _ => ?_) (fun _ => ?_) <;> try (exfalso; omega)) | refine aS ?_ | refine aG ?_ | refine aD ?_ | refine aH ?_ | refine aP_T5 ?_ | refine aI ?_ | refine aJ ?_ | refine aW (.qs [0, 1, 2, 3, 4, 5, 6, 7, 8] .nil) ?_ | refine EqnOb.ne (nts_ne (by have := cycF_len (by assumption : cycF E m k (w ++ [b]) = some _); simp only [List.length_append, List.length_singleton] at this; omega)) ?_ | refine ⟨x, _, rfl, hga, ?_⟩ | refine ⟨b, _, rfl, hg2, ?_⟩ | (refine aK [] (Contains_ok w (by omega) b) ?_) | (refine aK [] (CloneO_ok w hne (by omega)) ?_) | fail); all_goals try (conv => whnf)
        all_goals first
          | (have hc := (by assumption : cycF E m k (w ++ [b]) = none); exact ⟨b + 1, [], ⟨by omega, hnx (by rw [hA, hc]; simp)⟩, by omega, by (exact aL)⟩)
          | (have hc := (by assumption : cycF E m k (w ++ [b]) = some _); refine ⟨rfl, ?_⟩; rw [range_find.2 ⟨b, hbm, by rw [hA, if_pos ⟨by omega, hxb, by assumption⟩]; exact hc, hv⟩]; rfl)
          | (exact ⟨b + 1, [], ⟨by omega, hnx (by rw [hA, if_neg]; rintro ⟨_, _, h⟩; exact (by assumption : ¬¬b ∈ w) h)⟩, by omega, by (exact aL)⟩)
    · (repeat' (conv => whnf); first | refine AsgOb.nil ?_ | (refine aC (fun _ => ?_) (fun _ => ?_) <;> try (exfalso; omega)) | refine aS ?_ | refine aG ?_ | refine aD ?_ | refine aH ?_ | refine aP_T5 ?_ | refine aI ?_ | refine aJ ?_ | refine aW (.qs [0, 1, 2, 3, 4, 5, 6, 7, 8] .nil) ?_ | fail); all_goals try (conv => whnf)
      refine ⟨rfl, ?_⟩
      rw [range_none.2 fun j hj => hv j (by omega)]
      rfl
/- what Cycle returns -/
theorem tCycle_err (n : Nt) (hn : NL n) (h : chkN n ≠ 0) : Ctr Try.prog 15 [ntv n] [] (fun r o => o = [] ∧ r = .nil) := by
  refine fn_intro (E := env 0) tys_ok rfl rfl rfl Try.func15 (by kernel_rfl) rfl (by kernel_rfl) ?_
  (repeat' (conv => whnf); first | refine AsgOb.nil ?_ | (refine aC (fun _ => ?_) (fun _ => ?_) <;> try (exfalso; omega)) | refine aS ?_ | refine aG ?_ | refine aD ?_ | refine aH ?_ | refine aP_T5 ?_ | refine aI ?_ | refine aJ ?_ | (refine aK [] (of_err n hn h) ?_) | fail); all_goals try (conv => whnf)
  refine LoopOb.mk (Y := Unit) (st := fun _ => ⟨[(4, i64 2), (3, .nil)], []⟩) (inv := fun _ => True) (fun _ => 0) () [] trivial (by (exact aL)) ?_
  rintro _ _
  (repeat' (conv => whnf); first | refine AsgOb.nil ?_ | (refine aC (fun _ => ?_) (fun _ => ?_) <;> try (exfalso; omega)) | refine aS ?_ | refine aG ?_ | refine aD ?_ | refine aH ?_ | refine aP_T5 ?_ | refine aI ?_ | refine aJ ?_ | fail); all_goals try (conv => whnf)
  exact ⟨rfl, rfl⟩
theorem tCycle_ok (n : Nt) (hn : NL n) (h : chkN n = 0) : Ctr Try.prog 15 [ntv n] [] (fun r o => o = [] ∧ optP (cyc (adj n) n.ln.length) r) := by
  refine fn_intro (E := env 0) tys_ok rfl rfl rfl Try.func15 (by kernel_rfl) rfl (by kernel_rfl) ?_
  have hL := (chkN_zero h).1
  have cO := of_ok n hn h
  generalize n.ln.length = L at *
  generalize adj n = E at *
  have hgl := gps_len L L E
  have hC : ∀ s, (if s < 2 then none else (List.range L).findSome? fun a => cycF E L (s - 1) [a]) = none ↔ s < 2 ∨ ∀ a, a < L → cycF E L (s - 1) [a] = none := fun s => by
    by_cases hs : s < 2
    · simp [hs]
    · rw [if_neg hs, range_none]; simp [hs]
  (repeat' (conv => whnf); first | refine AsgOb.nil ?_ | (refine aC (fun _ => ?_) (fun _ => ?_) <;> try (exfalso; omega)) | refine aS ?_ | refine aG ?_ | refine aD ?_ | refine aH ?_ | refine aP_T5 ?_ | refine aI ?_ | refine aJ ?_ | (refine aK [] cO ?_) | fail); all_goals try (conv => whnf)
  refine LoopOb.mk (Y := Nat) (st := fun s => ⟨[(4, i64 s), (3, .psl 1 (gps L L E))], []⟩)
    (inv := fun s => (2 ≤ s ∧ s ≤ L + 2) ∧ ∀ t, t < s → (if t < 2 then none else (List.range L).findSome? fun a => cycF E L (t - 1) [a]) = none) (fun s => L + 2 - s) 2 [] ⟨by omega, fun t ht => by rw [if_pos ht]⟩ (by (exact aL)) ?_
  rintro s ⟨hs, hv⟩
  (repeat' (conv => whnf); first | refine aS ?_ | refine aG ?_ | refine aD ?_ | refine aH ?_ | refine aP_T5 ?_ | refine aI ?_ | refine aJ ?_ | fail); all_goals try (conv => whnf)
  refine CondOb.mk (fun hlt => ?_) (fun hlt => ?_)
  · (repeat' (conv => whnf); first | (refine aC (fun _ => ?_) (fun _ => ?_) <;> try (exfalso; omega)) | refine aS ?_ | refine aG ?_ | refine aD ?_ | refine aH ?_ | refine aP_T5 ?_ | refine aI ?_ | refine aJ ?_ | fail); all_goals try (conv => whnf)
    refine LoopOb.mk (Y := Nat) (st := fun a => ⟨[(17, i64 a), (16, i64 (gps L L E).length), (4, i64 s), (3, .psl 1 (gps L L E))], []⟩)
      (inv := fun a => a ≤ L ∧ ∀ b, b < a → cycF E L (s - 1) [b] = none) (fun a => L - a) 0 [] ⟨by omega, by omega⟩ (by (exact aL)) ?_
    rintro a ⟨ha, hw⟩
    (repeat' (conv => whnf); first | refine aS ?_ | refine aG ?_ | refine aD ?_ | refine aH ?_ | refine aP_T5 ?_ | refine aI ?_ | refine aJ ?_ | fail); all_goals try (conv => whnf)
    refine CondOb.mk (fun hlt2 => ?_) (fun hlt2 => ?_)
    · have haL : a < L := by omega
      have hR := gcyc_ok L (by omega) E (s - 1) [a] (by simp) (fun z hz => by rw [List.mem_singleton.1 hz]; exact haL) (by simp only [List.length_singleton]; omega)
      rw [show [a].length + (s - 1) = s by simp only [List.length_singleton]; omega] at hR
      (repeat' (conv => whnf); first | (refine Gh.mk [.fa] ?_; (conv => whnf); refine CallOb.mk [] hR rfl (ImpL.refl _) rfl rfl ?_; rintro r _ ⟨rfl, hr⟩; cases hc : cycF E L (s - 1) [a] <;> rw [hc] at hr <;> dsimp only [optP] at hr <;> subst hr) | refine AsgOb.nil ?_ | (refine aC (fun _ => ?_) (fun _ => ?_) <;> try (exfalso; omega)) | refine aS ?_ | refine aG ?_ | refine aD ?_ | refine aH ?_ | refine aP_T5 ?_ | refine aI ?_ | refine aJ ?_ | refine EqnOb.ne (nts_ne (by have := cycF_len (by assumption : cycF E L (s - 1) [a] = some _); simpa using this)) ?_ | fail); all_goals try (conv => whnf)
      · have hc := (by assumption : cycF E L (s - 1) [a] = none)
        refine ⟨a + 1, [], ⟨by omega, fun b hb => ?_⟩, by omega, by (exact aL)⟩
        by_cases e : b = a
        · subst e; exact hc
        · exact hw b (by omega)
      · have hc := (by assumption : cycF E L (s - 1) [a] = some _)
        refine ⟨rfl, ?_⟩
        unfold cyc
        rw [range_find.2 ⟨s, by omega, by rw [if_neg (by omega)]; exact range_find.2 ⟨a, haL, hc, hw⟩, hv⟩]
        rfl
    · (repeat' (conv => whnf); first | (refine aC (fun _ => ?_) (fun _ => ?_) <;> try (exfalso; omega)) | refine aS ?_ | refine aG ?_ | refine aD ?_ | refine aH ?_ | refine aP_T5 ?_ | refine aI ?_ | refine aJ ?_ | fail); all_goals try (conv => whnf)
      refine ⟨s + 1, [], ⟨by omega, fun t ht => ?_⟩, by omega, by (exact aL)⟩
      by_cases e : t = s
      · subst e; exact (hC t).2 (.inr fun b hb => hw b (by omega))
      · exact hv t (by omega)
  · (repeat' (conv => whnf); first | refine AsgOb.nil ?_ | (refine aC (fun _ => ?_) (fun _ => ?_) <;> try (exfalso; omega)) | refine aS ?_ | refine aG ?_ | refine aD ?_ | refine aH ?_ | refine aP_T5 ?_ | refine aI ?_ | refine aJ ?_ | fail); all_goals try (conv => whnf)
    refine ⟨rfl, ?_⟩
    unfold cyc
    rw [range_none.2 fun t ht => hv t (by omega)]
    rfl
end Go.Proofs.Ytnlmmjmcackgjaa
