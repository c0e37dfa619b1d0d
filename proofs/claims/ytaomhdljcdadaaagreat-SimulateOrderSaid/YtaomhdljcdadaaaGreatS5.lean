/-
  A text of the proofs of this seat: lemmas that the statements' proofs use; it states nothing of the program by itself beyond the contracts that its theorems bear. Conditions: those that stand in each theorem. Its short name: S5.
-/
import Derived.Test.YtaomhdljcdadaaaGreatS4
import Derived.Test.YtaomhdljcdadaaaGreatN3
set_option linter.unusedVariables false
set_option linter.unusedSimpArgs false
namespace Go.Proofs.YtaomhdljcdadaaaGreat
open Go.Sx Go.Pk Go.Mc Go.Np
set_option maxRecDepth 4000
set_option maxHeartbeats 2000000
/-! the run of a line -/
/- how a line chooses -/
def chL (l : Ln) : Ch := if l.k = 1 then fifoC else if l.k = 2 then prioC l.n.toNat else if l.k = 3 then robinC l.w else if l.k = 4 then defC l.w else slotC l.c.toNat l.s
theorem inR_get {l : List Int} {a b : Int} (h : inR l a b) {c : Nat} (hc : c < l.length) : a ≤ l.getD c 0 ∧ l.getD c 0 ≤ b := by
  rw [List.getD_eq_getElem?_getD, List.getElem?_eq_getElem hc]
  exact h _ (List.getElem_mem hc)
theorem lRun_fit {l : Ln} (h : lnErr l = 0) {p : List Pk} {T : Nat} (hp : PL p) (hcl : ∀ i, i < p.length → 0 ≤ cl p i ∧ cl p i < l.n) (hT : T ≤ 2000) :
    FitP p l.c.toNat l.n.toNat T ∧ l.c = (l.c.toNat : Nat) ∧ l.n = (l.n.toNat : Nat) ∧ 1 ≤ l.k ∧ l.k ≤ 5 ∧ (l.k = 3 → l.w.length = l.n.toNat ∧ inR l.w 1 20) ∧ (l.k = 4 → l.w.length = l.n.toNat ∧ inR l.w 1 6000) ∧ (l.k = 5 → l.s ≠ [] ∧ l.s.length ≤ 40) := by
  unfold lnErr at h
  split at h
  · cases h
  split at h
  · cases h
  unfold lsErr at h
  split at h
  · cases h
  rename_i h1 h2 h3
  refine ⟨⟨hp, by omega, by omega, by omega, by omega, fun i hi => by have := hcl i hi; omega, hT⟩, by omega, by omega, by omega, by omega, fun hk => ?_, fun hk => ?_, fun hk => ?_⟩
  · have : (l.w.length : Int) = l.n ∧ inR l.w 1 20 := Classical.byContradiction fun hn => h3 (.inl ⟨hk, hn⟩)
    exact ⟨by omega, this.2⟩
  · have : (l.w.length : Int) = l.n ∧ inR l.w 1 6000 := Classical.byContradiction fun hn => h3 (.inr (.inl ⟨hk, hn⟩))
    exact ⟨by omega, this.2⟩
  · have : 1 ≤ l.s.length ∧ l.s.length ≤ 40 ∧ inR l.s (-1) (l.n - 1) := Classical.byContradiction fun hn => h3 (.inr (.inr ⟨hk, hn⟩))
    exact ⟨fun e => by rw [e] at this; have := this.1; simp at this, this.2.1⟩
theorem aP_S5 {A B K : Prop} (k : K) (a : A := by (simp only [zA, zT, zD, zC, zN, ints_len, zR, Go.Cv.vals_len]; omega)) (b : B := by (simp only [zA, zT, zD, zC, zN, ints_len, zR, Go.Cv.vals_len]; omega)) : (A ∧ B) ∧ K := ⟨⟨a, b⟩, k⟩
theorem Slots_ok (c : Int) (tb : List Int) : Ctr Tryz.prog 253 [i64 c, .psl 1 (ints tb)] [] (fun r o => o = [] ∧ r = .fn 254 [.pptr [.psl 1 (ints tb)], .pptr [i64 c]]) := by
  refine fn_intro (E := env 0) tys_ok rfl rfl rfl Tryz.func253 (by kernel_rfl) rfl (by kernel_rfl) ?_
  (repeat' (conv => whnf); first | (refine aC (fun _ => ?_) (fun _ => ?_) <;> try (exfalso; omega)) | refine aS ?_ | refine aG ?_ | refine aD ?_ | refine aP_S5 ?_ | refine aI ?_ | refine aJ ?_ | fail); all_goals try (conv => whnf)
  refine .mk [.fb 0, .fb 1] ?_
  (repeat' (conv => whnf); first | (refine aC (fun _ => ?_) (fun _ => ?_) <;> try (exfalso; omega)) | refine aS ?_ | refine aG ?_ | refine aD ?_ | refine aH ?_ | refine aP_S5 ?_ | refine aI ?_ | refine aJ ?_ | fail); all_goals try (conv => whnf)
  exact ⟨rfl, rfl⟩
theorem runF_ok (l : Ln) (p : List Pk) (T : Nat) (h : FitP p l.c.toNat l.n.toNat T) (hc : l.c = l.c.toNat) (hn : l.n = l.n.toNat) : Ctr Tryz.prog 221 [.agg [], lv l, .psl 3 (pks p), i64 T] [] (fun r o => o = [] ∧ RunR p.length (run fifoC p l.c.toNat T).dn r) := by
  refine fn_intro (E := env 0) tys_ok rfl rfl rfl Tryz.func221 (by kernel_rfl) rfl (by kernel_rfl) ?_
  (repeat' (conv => whnf); first | (refine aC (fun _ => ?_) (fun _ => ?_) <;> try (exfalso; omega)) | refine aS ?_ | refine aG ?_ | refine aD ?_ | refine aH ?_ | refine aP_S5 ?_ | refine aI ?_ | refine aJ ?_ | fail); all_goals try (conv => whnf)
  refine CallOb.mk [] (fRun_ok p _ _ T h) rfl ⟨Imp.num (by omega), Imp.num (by omega), Imp.refl _, Imp.refl _, trivial⟩ rfl rfl ?_
  rintro _ _ ⟨rfl, x, ⟨ms, hms, rfl⟩, rfl⟩
  (repeat' (conv => whnf); first | (refine aC (fun _ => ?_) (fun _ => ?_) <;> try (exfalso; omega)) | refine aS ?_ | refine aG ?_ | refine aD ?_ | refine aH ?_ | refine aP_S5 ?_ | refine aI ?_ | refine aJ ?_ | fail); all_goals try (conv => whnf)
  exact ⟨rfl, _, ⟨ms, hms, rfl⟩, rfl⟩
theorem runP_ok (l : Ln) (p : List Pk) (T : Nat) (h : FitP p l.c.toNat l.n.toNat T) (hc : l.c = l.c.toNat) (hn : l.n = l.n.toNat) : Ctr Tryz.prog 229 [.agg [], lv l, .psl 3 (pks p), i64 T] [] (fun r o => o = [] ∧ RunR p.length (run (prioC l.n.toNat) p l.c.toNat T).dn r) := by
  refine fn_intro (E := env 0) tys_ok rfl rfl rfl Tryz.func229 (by kernel_rfl) rfl (by kernel_rfl) ?_
  (repeat' (conv => whnf); first | (refine aC (fun _ => ?_) (fun _ => ?_) <;> try (exfalso; omega)) | refine aS ?_ | refine aG ?_ | refine aD ?_ | refine aH ?_ | refine aP_S5 ?_ | refine aI ?_ | refine aJ ?_ | fail); all_goals try (conv => whnf)
  refine CallOb.mk [] (pRun_ok p _ _ T h) rfl ⟨Imp.num (by omega), Imp.num (by omega), Imp.refl _, Imp.refl _, trivial⟩ rfl rfl ?_
  rintro _ _ ⟨rfl, x, ⟨ms, hms, rfl⟩, rfl⟩
  (repeat' (conv => whnf); first | (refine aC (fun _ => ?_) (fun _ => ?_) <;> try (exfalso; omega)) | refine aS ?_ | refine aG ?_ | refine aD ?_ | refine aH ?_ | refine aP_S5 ?_ | refine aI ?_ | refine aJ ?_ | fail); all_goals try (conv => whnf)
  exact ⟨rfl, _, ⟨ms, hms, rfl⟩, rfl⟩
theorem runR_ok (l : Ln) (p : List Pk) (T : Nat) (h : FitP p l.c.toNat l.n.toNat T) (hc : l.c = l.c.toNat) (hn : l.n = l.n.toNat) (hw : l.w.length = l.n.toNat ∧ inR l.w 1 20) : Ctr Tryz.prog 235 [.agg [], lv l, .psl 3 (pks p), i64 T] [] (fun r o => o = [] ∧ RunR p.length (run (robinC l.w) p l.c.toNat T).dn r) := by
  refine fn_intro (E := env 0) tys_ok rfl rfl rfl Tryz.func235 (by kernel_rfl) rfl (by kernel_rfl) ?_
  (repeat' (conv => whnf); first | (refine aC (fun _ => ?_) (fun _ => ?_) <;> try (exfalso; omega)) | refine aS ?_ | refine aG ?_ | refine aD ?_ | refine aH ?_ | refine aP_S5 ?_ | refine aI ?_ | refine aJ ?_ | fail); all_goals try (conv => whnf)
  refine CallOb.mk [] (rRun_ok p _ _ T h l.w hw.1 (fun c hc => inR_get hw.2 (by omega))) rfl ⟨Imp.num (by omega), Imp.refl _, Imp.refl _, Imp.refl _, trivial⟩ rfl rfl ?_
  rintro _ _ ⟨rfl, x, ⟨ms, hms, rfl⟩, rfl⟩
  (repeat' (conv => whnf); first | (refine aC (fun _ => ?_) (fun _ => ?_) <;> try (exfalso; omega)) | refine aS ?_ | refine aG ?_ | refine aD ?_ | refine aH ?_ | refine aP_S5 ?_ | refine aI ?_ | refine aJ ?_ | fail); all_goals try (conv => whnf)
  exact ⟨rfl, _, ⟨ms, hms, rfl⟩, rfl⟩
theorem runD_ok (l : Ln) (p : List Pk) (T : Nat) (h : FitP p l.c.toNat l.n.toNat T) (hc : l.c = l.c.toNat) (hn : l.n = l.n.toNat) (hw : l.w.length = l.n.toNat ∧ inR l.w 1 6000) : Ctr Tryz.prog 245 [.agg [], lv l, .psl 3 (pks p), i64 T] [] (fun r o => o = [] ∧ RunR p.length (run (defC l.w) p l.c.toNat T).dn r) := by
  refine fn_intro (E := env 0) tys_ok rfl rfl rfl Tryz.func245 (by kernel_rfl) rfl (by kernel_rfl) ?_
  (repeat' (conv => whnf); first | (refine aC (fun _ => ?_) (fun _ => ?_) <;> try (exfalso; omega)) | refine aS ?_ | refine aG ?_ | refine aD ?_ | refine aH ?_ | refine aP_S5 ?_ | refine aI ?_ | refine aJ ?_ | fail); all_goals try (conv => whnf)
  refine CallOb.mk [] (dRun_ok p _ _ T h l.w hw.1 (fun c hc => inR_get hw.2 (by omega))) rfl ⟨Imp.num (by omega), Imp.refl _, Imp.refl _, Imp.refl _, trivial⟩ rfl rfl ?_
  rintro _ _ ⟨rfl, x, ⟨ms, hms, rfl⟩, rfl⟩
  (repeat' (conv => whnf); first | (refine aC (fun _ => ?_) (fun _ => ?_) <;> try (exfalso; omega)) | refine aS ?_ | refine aG ?_ | refine aD ?_ | refine aH ?_ | refine aP_S5 ?_ | refine aI ?_ | refine aJ ?_ | fail); all_goals try (conv => whnf)
  exact ⟨rfl, _, ⟨ms, hms, rfl⟩, rfl⟩
theorem runS_ok (l : Ln) (p : List Pk) (T : Nat) (h : FitP p l.c.toNat l.n.toNat T) (hc : l.c = l.c.toNat) (hn : l.n = l.n.toNat) (hs : l.s ≠ [] ∧ l.s.length ≤ 40) : Ctr Tryz.prog 252 [.agg [], lv l, .psl 3 (pks p), i64 T] [] (fun r o => o = [] ∧ RunR p.length (run (slotC l.c.toNat l.s) p l.c.toNat T).dn r) := by
  refine fn_intro (E := env 0) tys_ok rfl rfl rfl Tryz.func252 (by kernel_rfl) rfl (by kernel_rfl) ?_
  have h60 := h.hp.l
  (repeat' (conv => whnf); first | (refine aC (fun _ => ?_) (fun _ => ?_) <;> try (exfalso; omega)) | refine aS ?_ | refine aG ?_ | refine aD ?_ | refine aH ?_ | refine aP_S5 ?_ | refine aI ?_ | refine aJ ?_ | refine aW (.qs [0, 1, 2, 3, 4, 5, 6, 7, 8, 9] (.l 10 [3, 1] (.l 11 [] (.l 12 [] (.qs [13] .nil) .no) .no) .no)) ?_ | fail); all_goals try (conv => whnf)
  refine aK [] (Validate_ok p (by omega)) ?_
  rw [h.vld]
  (repeat' (conv => whnf); first | (refine aC (fun _ => ?_) (fun _ => ?_) <;> try (exfalso; omega)) | refine aS ?_ | refine aG ?_ | refine aD ?_ | refine aH ?_ | refine aP_S5 ?_ | refine aI ?_ | refine aJ ?_ | refine aW (.qs [0, 1, 2, 3, 4, 5, 6, 7, 8, 9] (.l 10 [3, 1] (.l 11 [] (.l 12 [] (.qs [13] .nil) .no) .no) .no)) ?_ | fail); all_goals try (conv => whnf)
  refine CallOb.mk [] (MChk_ok p _ _ T h) rfl ⟨Imp.num (by omega), Imp.num (by omega), Imp.refl _, Imp.refl _, trivial⟩ rfl rfl ?_
  rintro _ _ ⟨rfl, rfl⟩
  (repeat' (conv => whnf); first | (refine aC (fun _ => ?_) (fun _ => ?_) <;> try (exfalso; omega)) | refine aS ?_ | refine aG ?_ | refine aD ?_ | refine aH ?_ | refine aP_S5 ?_ | refine aI ?_ | refine aJ ?_ | refine aW (.qs [0, 1, 2, 3, 4, 5, 6, 7, 8, 9] (.l 10 [3, 1] (.l 11 [] (.l 12 [] (.qs [13] .nil) .no) .no) .no)) ?_ | fail); all_goals try (conv => whnf)
  refine CallOb.mk [] (Slots_ok (l.c.toNat : Nat) l.s) rfl ⟨Imp.num (by omega), Imp.refl _, trivial⟩ rfl rfl ?_
  rintro _ _ ⟨rfl, rfl⟩
  (repeat' (conv => whnf); first | (refine aC (fun _ => ?_) (fun _ => ?_) <;> try (exfalso; omega)) | refine aS ?_ | refine aG ?_ | refine aD ?_ | refine aH ?_ | refine aP_S5 ?_ | refine aI ?_ | refine aJ ?_ | refine aW (.qs [0, 1, 2, 3, 4, 5, 6, 7, 8, 9] (.l 10 [3, 1] (.l 11 [] (.l 12 [] (.qs [13] .nil) .no) .no) .no)) ?_ | (refine CallOb.mk [] (MRuns_ok p h.hp _ _ T h.c1 h.c2 h.n1 h.n2 h.cl h.t l.s hs.1 (by omega)) rfl ⟨Imp.num (by omega), Imp.num (by omega), Imp.refl _, Imp.refl _, Imp.fn ⟨Imp.shut rfl, Imp.shut rfl, trivial⟩, trivial⟩ rfl rfl ?_; rintro _ _ ⟨rfl, ms, hms, rfl⟩) | fail); all_goals try (conv => whnf)
  exact ⟨rfl, _, ⟨ms, hms, rfl⟩, rfl⟩
theorem lRun_ok (l : Ln) (hl : LL l) (he : lnErr l = 0) (p : List Pk) (T : Nat) (hp : PL p) (hcl : ∀ i, i < p.length → 0 ≤ cl p i ∧ cl p i < l.n) (hT : T ≤ 2000) : Ctr Tryz.prog 116 [lv l, .psl 3 (pks p), i64 T] [] (fun r o => o = [] ∧ RunR p.length (run (chL l) p l.c.toNat T).dn r) := by
  refine fn_intro (E := env 0) tys_ok rfl rfl rfl Tryz.func116 (by kernel_rfl) rfl (by kernel_rfl) ?_
  obtain ⟨h, hc, hn, k1, k5, hr, hd, hs⟩ := lRun_fit he hp hcl hT
  (repeat' (conv => whnf); first | (refine aC (fun _ => ?_) (fun _ => ?_) <;> try (exfalso; omega)) | refine aS ?_ | refine aG ?_ | refine aD ?_ | refine aH ?_ | refine aP_S5 ?_ | refine aI ?_ | refine aJ ?_ | fail); all_goals try (conv => whnf)
  refine aK [] (lCheck_ok l hl) ?_
  rw [he]
  (repeat' (conv => whnf); first | (refine aC (fun _ => ?_) (fun _ => ?_) <;> try (exfalso; omega)) | refine aS ?_ | refine aG ?_ | refine aD ?_ | refine aH ?_ | refine aP_S5 ?_ | refine aI ?_ | refine aJ ?_ | fail); all_goals try (conv => whnf)
  refine CallOb.mk [] (kind_ok l.k) rfl (ImpL.refl _) rfl rfl ?_
  rintro _ _ ⟨⟨s, b⟩, hk, rfl, rfl⟩
  dsimp only at hk ⊢
  rcases hk with ⟨hk, hs2⟩ | ⟨hk, hs2⟩ | ⟨hk, hs2⟩ | ⟨hk, hs2⟩ | ⟨hk, hs2⟩ | ⟨hk, hs2⟩
  · omega
  · cases hs2
    have e : chL l = fifoC := if_pos hk
    rw [e]
    (repeat' (conv => whnf); first | (refine aC (fun _ => ?_) (fun _ => ?_) <;> try (exfalso; omega)) | refine aS ?_ | refine aG ?_ | refine aD ?_ | refine aH ?_ | refine aP_S5 ?_ | refine aI ?_ | refine aJ ?_ | refine InvOb.mk 221 (by decide +kernel) ?_ | (refine CallOb.mk [] (runF_ok l p T h hc hn) rfl (ImpL.refl _) rfl rfl ?_; rintro _ _ ⟨rfl, x, ⟨ms, hms, rfl⟩, rfl⟩) | fail); all_goals try (conv => whnf)
    exact ⟨rfl, _, ⟨ms, hms, rfl⟩, rfl⟩
  · cases hs2
    have e : chL l = prioC l.n.toNat := by unfold chL; rw [if_neg (by omega), if_pos hk]
    rw [e]
    (repeat' (conv => whnf); first | (refine aC (fun _ => ?_) (fun _ => ?_) <;> try (exfalso; omega)) | refine aS ?_ | refine aG ?_ | refine aD ?_ | refine aH ?_ | refine aP_S5 ?_ | refine aI ?_ | refine aJ ?_ | refine InvOb.mk 229 (by decide +kernel) ?_ | (refine CallOb.mk [] (runP_ok l p T h hc hn) rfl (ImpL.refl _) rfl rfl ?_; rintro _ _ ⟨rfl, x, ⟨ms, hms, rfl⟩, rfl⟩) | fail); all_goals try (conv => whnf)
    exact ⟨rfl, _, ⟨ms, hms, rfl⟩, rfl⟩
  · cases hs2
    have e : chL l = robinC l.w := by unfold chL; rw [if_neg (by omega), if_neg (by omega), if_pos hk]
    rw [e]
    (repeat' (conv => whnf); first | (refine aC (fun _ => ?_) (fun _ => ?_) <;> try (exfalso; omega)) | refine aS ?_ | refine aG ?_ | refine aD ?_ | refine aH ?_ | refine aP_S5 ?_ | refine aI ?_ | refine aJ ?_ | refine InvOb.mk 235 (by decide +kernel) ?_ | (refine CallOb.mk [] (runR_ok l p T h hc hn (hr hk)) rfl (ImpL.refl _) rfl rfl ?_; rintro _ _ ⟨rfl, x, ⟨ms, hms, rfl⟩, rfl⟩) | fail); all_goals try (conv => whnf)
    exact ⟨rfl, _, ⟨ms, hms, rfl⟩, rfl⟩
  · cases hs2
    have e : chL l = defC l.w := by unfold chL; rw [if_neg (by omega), if_neg (by omega), if_neg (by omega), if_pos hk]
    rw [e]
    (repeat' (conv => whnf); first | (refine aC (fun _ => ?_) (fun _ => ?_) <;> try (exfalso; omega)) | refine aS ?_ | refine aG ?_ | refine aD ?_ | refine aH ?_ | refine aP_S5 ?_ | refine aI ?_ | refine aJ ?_ | refine InvOb.mk 245 (by decide +kernel) ?_ | (refine CallOb.mk [] (runD_ok l p T h hc hn (hd hk)) rfl (ImpL.refl _) rfl rfl ?_; rintro _ _ ⟨rfl, x, ⟨ms, hms, rfl⟩, rfl⟩) | fail); all_goals try (conv => whnf)
    exact ⟨rfl, _, ⟨ms, hms, rfl⟩, rfl⟩
  · cases hs2
    have e : chL l = slotC l.c.toNat l.s := by unfold chL; rw [if_neg (by omega), if_neg (by omega), if_neg (by omega), if_neg (by omega)]
    rw [e]
    (repeat' (conv => whnf); first | (refine aC (fun _ => ?_) (fun _ => ?_) <;> try (exfalso; omega)) | refine aS ?_ | refine aG ?_ | refine aD ?_ | refine aH ?_ | refine aP_S5 ?_ | refine aI ?_ | refine aJ ?_ | refine InvOb.mk 252 (by decide +kernel) ?_ | (refine CallOb.mk [] (runS_ok l p T h hc hn (hs hk)) rfl (ImpL.refl _) rfl rfl ?_; rintro _ _ ⟨rfl, x, ⟨ms, hms, rfl⟩, rfl⟩) | fail); all_goals try (conv => whnf)
    exact ⟨rfl, _, ⟨ms, hms, rfl⟩, rfl⟩
end Go.Proofs.YtaomhdljcdadaaaGreat
