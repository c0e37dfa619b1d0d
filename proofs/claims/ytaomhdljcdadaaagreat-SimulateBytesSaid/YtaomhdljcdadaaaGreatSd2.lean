/-
  A text of the proofs of this seat: lemmas that the statements' proofs use; it states nothing of the program by itself beyond the contracts that its theorems bear. Conditions: those that stand in each theorem. Its short name: Sd2 V1.
-/
import Derived.Test.YtaomhdljcdadaaaGreatKn
import Derived.Test.YtaomhdljcdadaaaGreatS6
import Derived.Test.YtaomhdljcdadaaaGreatSo10
import Derived.Test.YtaomhdljcdadaaaGreatNz
import Derived.Test.YtaomhdljcdadaaaGreatN6
set_option linter.unusedVariables false
set_option linter.unusedSimpArgs false
section
namespace Go.Proofs.YtaomhdljcdadaaaGreat
open Go.Sx Go.Pk Go.Mc Go.Np
set_option maxRecDepth 4000
set_option maxHeartbeats 2000000
theorem aP_Sd2 {A B K : Prop} (k : K) (a : A := by (simp only [zA, zT, zD, zC, zN, ints_len, zR, Go.Cv.vals_len]; omega)) (b : B := by (simp only [zA, zT, zD, zC, zN, ints_len, zR, Go.Cv.vals_len]; omega)) : (A ∧ B) ∧ K := ⟨⟨a, b⟩, k⟩
/-! packets for a network -/
theorem SendsO_ok (L : List Int) (k : Nat) (hL : L.length ≤ 2000) (hk : k ≤ 2000) (n : Nt) (h10 : n.fl.length ≤ 10) (hz : ∀ f ∈ n.fl, 1 ≤ f.lo ∧ f.lo ≤ f.hi ∧ f.hi ≤ 1500) (m : Nat) (hm : m ≤ 60) :
    Ctr Tryz.prog 15 [.ptr 0 0, .agg [.psl 1 (strs n.nm), .vec 1, .vec 2], i64 m] [src L k, .vec 5 (lns n.ln), .vec 8 (fls n.fl)] (fun r o => ∃ x : List Pk × Nat, (SndP n x.1 ∧ x.1.length ≤ m ∧ x.2 ≤ 2000) ∧ o = [src L x.2, .vec 5 (lns n.ln), .vec 8 (fls n.fl), .vec 3 (pks x.1)] ∧ r = .vec 3) := by
  refine fn_intro (E := env 3) tys_ok rfl rfl rfl Tryz.func15 (by kernel_rfl) rfl (by kernel_rfl) ?_
  have hfl := fll n.fl
  (repeat' (conv => whnf); first | (refine aC (fun _ => ?_) (fun _ => ?_) <;> try (exfalso; omega)) | refine aS ?_ | refine aG ?_ | refine aD ?_ | refine aH ?_ | refine aP_Sd2 ?_ | refine aI ?_ | refine aJ ?_ | fail); all_goals try (conv => whnf)
  refine CallOb.mk [0] (N_ok L k hL hk (m + 1) (by omega) (by omega)) rfl (ImpL.refl _) rfl rfl ?_
  rintro _ _ ⟨⟨v, k1⟩, ⟨v1, v2, hk1⟩, rfl, rfl⟩
  dsimp only at v1 v2 hk1 ⊢
  obtain ⟨v, rfl⟩ : ∃ a : Nat, v = a := ⟨v.toNat, by omega⟩
  (repeat' (conv => whnf); first | (refine aC (fun _ => ?_) (fun _ => ?_) <;> try (exfalso; omega)) | refine aS ?_ | refine aG ?_ | refine aD ?_ | refine aH ?_ | refine aP_Sd2 ?_ | refine aI ?_ | refine aJ ?_ | fail); all_goals try (conv => whnf)
  refine LoopOb.mk (Y := List Pk × Nat) (st := fun y => ⟨[(9, i64 ((v : Int) - y.1.length)), (8, i64 (lst y.1 y.1.length)), (7, .vec 4), (4, .ptr 3 0), (0, .ptr 0 0)], [src L y.2, .vec 5 (lns n.ln), .vec 8 (fls n.fl), .box [.psl 1 (strs n.nm), .vec 1, .vec 2], .vec 3 (pks y.1)]⟩)
    (inv := fun y => SndP n y.1 ∧ y.1.length ≤ v ∧ y.2 ≤ 2000) (fun y => v - y.1.length) ([], k1) [0, 1, 2, 3, 5] ⟨SndP.nil n, by simp, hk1⟩ (by simp only [lst, List.length_nil]; (exact aL)) ?_
  rintro ⟨p, k2⟩ ⟨hp, hpv, hk2⟩
  dsimp only at hp hpv hk2 ⊢
  have hpl := pks_len p
  have ht := hp.t p.length (Nat.le_refl _)
  by_cases hlt : p.length < v ∧ 0 < n.fl.length
  · generalize hla : lst p p.length = la at *
    (repeat' (conv => whnf); first | refine LitOb.ful ?_ | (refine aC (fun _ => ?_) (fun _ => ?_) <;> try (exfalso; omega)) | refine aS ?_ | refine aG ?_ | refine aD ?_ | refine aH ?_ | refine aP_Sd2 ?_ | refine aI ?_ | refine aJ ?_ | fail); all_goals try (conv => whnf)
    refine CallOb.mk [0] (Pick_ok L k2 hL hk2 [0, 0, 0, 1, 2, 5] (by decide) (by decide)) rfl ⟨Imp.refl _, Imp.fulp rfl, trivial⟩ rfl rfl ?_
    rintro _ _ ⟨⟨d, k3⟩, ⟨d1, hk3⟩, rfl, rfl⟩
    dsimp only at d1 hk3 ⊢
    have hd : 0 ≤ d ∧ d ≤ 5 := by
      simp only [List.mem_cons, List.not_mem_nil, or_false] at d1
      omega
    clear d1
    (repeat' (conv => whnf); first | (refine aC (fun _ => ?_) (fun _ => ?_) <;> try (exfalso; omega)) | refine aS ?_ | refine aG ?_ | refine aD ?_ | refine aH ?_ | refine aP_Sd2 ?_ | refine aI ?_ | refine aJ ?_ | fail); all_goals try (conv => whnf)
    refine CallOb.mk [0] (N_ok L k3 hL hk3 n.fl.length (by omega) (by omega)) rfl ⟨Imp.refl _, Imp.num (by omega), trivial⟩ rfl rfl ?_
    rintro _ _ ⟨⟨f, k4⟩, ⟨g1, g2, hk4⟩, rfl, rfl⟩
    dsimp only at g1 g2 hk4 ⊢
    obtain ⟨f, rfl⟩ : ∃ a : Nat, f = a := ⟨f.toNat, by omega⟩
    have hfg := flg (l := n.fl) (i := f) (by omega)
    have hzf := hz (n.fl.getD f fl0) (Go.Np.getD_in (by omega))
    have hpf : ∀ t s : Int, pfl n ⟨f, t, s⟩ = n.fl.getD f fl0 := fun t s => by unfold pfl; rw [Int.toNat_natCast]
    generalize n.fl.getD f fl0 = w at *
    (repeat' (conv => whnf); first | (refine aC (fun _ => ?_) (fun _ => ?_) <;> try (exfalso; omega)) | refine aS ?_ | refine aG ?_ | refine aD ?_ | refine aH ?_ | refine aP_Sd2 ?_ | refine aI ?_ | refine aJ ?_ | refine ⟨f, rfl, by omega, ?_⟩ | refine ⟨_, hfg, ?_⟩ | fail); all_goals try (conv => whnf)
    refine CallOb.mk [0] (Range_ok L k4 hL hk4 w.lo w.hi (by omega) (by omega) (by omega)) rfl (ImpL.refl _) rfl rfl ?_
    rintro _ _ ⟨⟨s, k5⟩, ⟨s1, s2, hk5⟩, rfl, rfl⟩
    dsimp only at s1 s2 hk5 ⊢
    obtain ⟨hap, hal⟩ := hp.app (x := ⟨f, la + d, s⟩) ⟨by dsimp only; omega, by dsimp only; omega⟩ (by rw [hpf]; exact ⟨s1, s2⟩) (by rw [hla]; dsimp only; omega)
    have hpe : pks p ++ [[i64 f, i64 (la + d), i64 s]] = pks (p ++ [⟨f, la + d, s⟩]) := by simp [pks, pkw]
    have hl2 : (p ++ [(⟨f, la + d, s⟩ : Pk)]).length = p.length + 1 := by simp
    (repeat' (conv => whnf); first | (refine aC (fun _ => ?_) (fun _ => ?_) <;> try (exfalso; omega)) | refine aS ?_ | refine aG ?_ | refine aD ?_ | refine aH ?_ | refine aP_Sd2 ?_ | refine aI ?_ | refine aJ ?_ | fail); all_goals try (conv => whnf)
    exact ⟨(p ++ [⟨f, la + d, s⟩], k5), [0, 1, 2, 3, 7], ⟨hap, by dsimp only; omega, hk5⟩, by dsimp only; omega, by dsimp only; rw [hal, ← hpe, hl2]; (exact aL)⟩
  · (repeat' (conv => whnf); first | (refine aC (fun _ => ?_) (fun _ => ?_) <;> try (exfalso; omega)) | refine aS ?_ | refine aG ?_ | refine aD ?_ | refine aP_Sd2 ?_ | refine aI ?_ | refine aJ ?_ | fail); all_goals try (conv => whnf)
    all_goals first
      | (refine .mk [.wk [0, 1, 2, 4] ⟨[(6, .vec 3)], [src L k2, .vec 5 (lns n.ln), .vec 8 (fls n.fl), .vec 3 (pks p)]⟩] ⟨by (exact aL), ?_⟩; exact ⟨(p, k2), ⟨hp, by dsimp only; omega, hk2⟩, rfl, rfl⟩)
      | trace_state
end Go.Proofs.YtaomhdljcdadaaaGreat
end
section
namespace Go.Proofs.YtaomhdljcdadaaaGreat
open Go.Sx Go.Np Go.Cv
set_option maxRecDepth 4000
set_option maxHeartbeats 2000000
theorem aP_V1 {A B K : Prop} (k : K) (a : A := by (simp only [zA, zT, zD, zC, zN, ints_len, zR, Go.Cv.vals_len]; omega)) (b : B := by (simp only [zA, zT, zD, zC, zN, ints_len, zR, Go.Cv.vals_len]; omega)) : (A ∧ B) ∧ K := ⟨⟨a, b⟩, k⟩
theorem FlowO_ok (L : List Int) (k : Nat) (hL : L.length ≤ 2000) (hk : k ≤ 2000) (nm : List ByteArray) (ls : List Ln) (fl : List Fl) (s : ByteArray) (c : Nat) (hc : 1 ≤ c ∧ c ≤ 2) (hm : 1 ≤ ls.length ∧ ls.length ≤ 4) :
    Ctr Tryz.prog 58 [.ptr 0 0, .agg [.psl 1 (strs nm), .vec 1, .vec 2], .str s, i64 c] [src L k, .vec 5 (lns ls), .vec 8 (fls fl)] (fun r o => ∃ x : Fl × Nat, (FlG ls.length c x.1 ∧ x.1.nm = s ∧ x.2 ≤ 2000) ∧ o = [src L x.2, .vec 5 (lns ls), .vec 8 (fls fl)] ∧ r = fv x.1) := by
  refine Ctr.impE ?_
  refine fn_intro (E := env 3) tys_ok rfl rfl rfl Tryz.func58 (by kernel_rfl) rfl (by kernel_rfl) ?_
  have hll := lnl ls
  (repeat' (conv => whnf); first | (refine aC (fun _ => ?_) (fun _ => ?_) <;> try (exfalso; omega)) | refine aS ?_ | refine aG ?_ | refine aD ?_ | refine aH ?_ | refine aP_V1 ?_ | refine aI ?_ | refine aJ ?_ | refine aW (.qs [0, 1, 2, 3] (.l 4 [2] (.qs [5, 6, 7] (.l 8 [] .nil .no)) .no)) ?_ | refine aW (.qs [0, 1, 2, 3, 4, 5, 6, 7, 8, 9, 10, 11, 12, 13, 14] .nil) ?_ | fail); all_goals try (conv => whnf)
  refine CallOb.mk [0] (N_ok L k hL hk c (by omega) (by omega)) rfl (ImpL.refl _) rfl rfl ?_
  rintro _ _ ⟨⟨cl, k1⟩, ⟨cl1, cl2, hk1⟩, rfl, rfl⟩
  dsimp only at cl1 cl2 hk1 ⊢
  (repeat' (conv => whnf); first | (refine aC (fun _ => ?_) (fun _ => ?_) <;> try (exfalso; omega)) | refine aS ?_ | refine aG ?_ | refine aD ?_ | refine aH ?_ | refine aP_V1 ?_ | refine aI ?_ | refine aJ ?_ | refine aW (.qs [0, 1, 2, 3] (.l 4 [2] (.qs [5, 6, 7] (.l 8 [] .nil .no)) .no)) ?_ | refine aW (.qs [0, 1, 2, 3, 4, 5, 6, 7, 8, 9, 10, 11, 12, 13, 14] .nil) ?_ | fail); all_goals try (conv => whnf)
  refine CallOb.mk [0] (Contract_ok L k1 hL hk1) rfl (ImpL.refl _) rfl rfl ?_
  rintro _ _ ⟨⟨⟨b, p, q⟩, k2⟩, ⟨⟨b1, b2⟩, ⟨p1, p2⟩, ⟨q1, q2⟩, hk2⟩, rfl, rfl⟩
  dsimp only at b1 b2 p1 p2 q1 q2 hk2 ⊢
  (repeat' (conv => whnf); first | (refine aC (fun _ => ?_) (fun _ => ?_) <;> try (exfalso; omega)) | refine aS ?_ | refine aG ?_ | refine aD ?_ | refine aH ?_ | refine aP_V1 ?_ | refine aI ?_ | refine aJ ?_ | refine aW (.qs [0, 1, 2, 3] (.l 4 [2] (.qs [5, 6, 7] (.l 8 [] .nil .no)) .no)) ?_ | refine aW (.qs [0, 1, 2, 3, 4, 5, 6, 7, 8, 9, 10, 11, 12, 13, 14] .nil) ?_ | fail); all_goals try (conv => whnf)
  refine CallOb.mk [0] (Range_ok L k2 hL hk2 1 3 (by omega) (by omega) (by omega)) rfl (ImpL.refl _) rfl rfl ?_
  rintro _ _ ⟨⟨lo, k3⟩, ⟨lo1, lo2, hk3⟩, rfl, rfl⟩
  dsimp only at lo1 lo2 hk3 ⊢
  (repeat' (conv => whnf); first | (refine aC (fun _ => ?_) (fun _ => ?_) <;> try (exfalso; omega)) | refine aS ?_ | refine aG ?_ | refine aD ?_ | refine aH ?_ | refine aP_V1 ?_ | refine aI ?_ | refine aJ ?_ | refine aW (.qs [0, 1, 2, 3] (.l 4 [2] (.qs [5, 6, 7] (.l 8 [] .nil .no)) .no)) ?_ | refine aW (.qs [0, 1, 2, 3, 4, 5, 6, 7, 8, 9, 10, 11, 12, 13, 14] .nil) ?_ | fail); all_goals try (conv => whnf)
  refine CallOb.mk [0] (N_ok L k3 hL hk3 5 (by omega) (by omega)) rfl (ImpL.refl _) rfl rfl ?_
  rintro _ _ ⟨⟨hi, k4⟩, ⟨hi1, hi2, hk4⟩, rfl, rfl⟩
  dsimp only at hi1 hi2 hk4 ⊢
  (repeat' (conv => whnf); first | (refine aC (fun _ => ?_) (fun _ => ?_) <;> try (exfalso; omega)) | refine aS ?_ | refine aG ?_ | refine aD ?_ | refine aH ?_ | refine aP_V1 ?_ | refine aI ?_ | refine aJ ?_ | refine aW (.qs [0, 1, 2, 3] (.l 4 [2] (.qs [5, 6, 7] (.l 8 [] .nil .no)) .no)) ?_ | refine aW (.qs [0, 1, 2, 3, 4, 5, 6, 7, 8, 9, 10, 11, 12, 13, 14] .nil) ?_ | fail); all_goals try (conv => whnf)
  refine CallOb.mk [0] (N_ok L k4 hL hk4 (lns ls).length (by omega) (by omega)) rfl (ImpL.refl _) rfl rfl ?_
  rintro _ _ ⟨⟨a, k5⟩, ⟨a1, a2, hk5⟩, rfl, rfl⟩
  dsimp only at a1 a2 hk5 ⊢
  (repeat' (conv => whnf); first | refine LitOb.ful ?_ | (refine aC (fun _ => ?_) (fun _ => ?_) <;> try (exfalso; omega)) | refine aS ?_ | refine aG ?_ | refine aD ?_ | refine aH ?_ | refine aP_V1 ?_ | refine aI ?_ | refine aJ ?_ | refine aW (.qs [0, 1, 2, 3] (.l 4 [2] (.qs [5, 6, 7] (.l 8 [] .nil .no)) .no)) ?_ | refine aW (.qs [0, 1, 2, 3, 4, 5, 6, 7, 8, 9, 10, 11, 12, 13, 14] .nil) ?_ | fail); all_goals try (conv => whnf)
  refine CallOb.mk [0] (Pick_ok L k5 hL hk5 [1, ((lns ls).length : Int) - 1] (by simp) (by simp)) rfl ⟨Imp.refl _, Imp.fulp rfl, trivial⟩ rfl rfl ?_
  rintro _ _ ⟨⟨st, k6⟩, ⟨st1, hk6⟩, rfl, rfl⟩
  dsimp only at st1 hk6 ⊢
  have st2 : st = 1 ∨ st + 1 = ls.length := by
    simp only [List.mem_cons, List.not_mem_nil, or_false] at st1; omega
  clear st1
  (repeat' (conv => whnf); first | (refine aC (fun _ => ?_) (fun _ => ?_) <;> try (exfalso; omega)) | refine aS ?_ | refine aG ?_ | refine aD ?_ | refine aH ?_ | refine aP_V1 ?_ | refine aI ?_ | refine aJ ?_ | refine aW (.qs [0, 1, 2, 3] (.l 4 [2] (.qs [5, 6, 7] (.l 8 [] .nil .no)) .no)) ?_ | refine aW (.qs [0, 1, 2, 3, 4, 5, 6, 7, 8, 9, 10, 11, 12, 13, 14] .nil) ?_ | fail); all_goals try (conv => whnf)
  refine CallOb.mk [0] (Range_ok L k6 hL hk6 1 (min 3 ((lns ls).length : Int)) (by omega) (by omega) (by omega)) rfl (ImpL.refl _) rfl rfl ?_
  rintro _ _ ⟨⟨v, k7⟩, ⟨v1, v2, hk7⟩, rfl, rfl⟩
  dsimp only at v1 v2 hk7 ⊢
  obtain ⟨a, rfl⟩ : ∃ n : Nat, a = n := ⟨a.toNat, by omega⟩
  obtain ⟨st, rfl⟩ : ∃ n : Nat, st = n := ⟨st.toNat, by omega⟩
  obtain ⟨v, rfl⟩ : ∃ n : Nat, v = n := ⟨v.toNat, by omega⟩
  have ha : a < ls.length := by omega
  obtain ⟨m, hme⟩ : ∃ m, m = ls.length := ⟨_, rfl⟩
  rw [← hme] at hm ha st2
  (repeat' (conv => whnf); first | (refine aC (fun _ => ?_) (fun _ => ?_) <;> try (exfalso; omega)) | refine aS ?_ | refine aG ?_ | refine aD ?_ | refine aP_V1 ?_ | refine aI ?_ | refine aJ ?_ | refine aW (.qs [0, 1, 2, 3] (.l 4 [2] (.qs [5, 6, 7] (.l 8 [] .nil .no)) .no)) ?_ | refine aW (.qs [0, 1, 2, 3, 4, 5, 6, 7, 8, 9, 10, 11, 12, 13, 14] .nil) ?_ | fail); all_goals try (conv => whnf)
  refine .mk [.nb 5 1 1] ?_
  refine LoopOb.mk (Y := Nat) (st := fun t => ⟨[(12, i64 ((v : Int) - t)), (11, i64 st), (10, i64 (((a + t * st) % m : Nat) : Int)), (9, .ptr 5 0), (8, .ptr 4 0), (5, .ptr 3 0), (0, .ptr 0 0)], [src L k7, .vec 5 (lns ls), .vec 8 (fls fl), .box [.psl 1 (strs nm), .vec 1, .vec 2], .box [.str ByteArray.empty, .nil, i64 0, i64 0, i64 0, .nil, i64 0, i64 0], .box [.str s, .vec 6, i64 cl, i64 lo, i64 (lo + hi), .psl 1 (ints (stv b p)), i64 p, i64 q], .vec 1 (ints (rr a st m t))]⟩)
    (inv := fun t => t ≤ v) (fun t => v - t) 0 [0, 1, 2, 3, 4, 5, 6] (by omega) (by rw [Nat.zero_mul, Nat.add_zero, Nat.mod_eq_of_lt ha]; (exact aL)) ?_
  intro t ht
  have hrl := ints_len (rr a st m t)
  have hrr := rr_len (a := a) (s := st) (m := m) (t := t)
  have hat := Nat.mod_lt (a + t * st) (show 0 < m by omega)
  (repeat' (conv => whnf); first | refine aS ?_ | refine aG ?_ | refine aD ?_ | refine aH ?_ | refine aP_V1 ?_ | refine aI ?_ | refine aJ ?_ | refine aW (.qs [0, 1, 2, 3] (.l 4 [2] (.qs [5, 6, 7] (.l 8 [] .nil .no)) .no)) ?_ | refine aW (.qs [0, 1, 2, 3, 4, 5, 6, 7, 8, 9, 10, 11, 12, 13, 14] .nil) ?_ | fail); all_goals try (conv => whnf)
  refine CondOb.mk (fun hlt => ?_) (fun hlt => ?_)
  · have hmd := md_nn (x := (((a + t * st) % m : Nat) : Int) + st) (n := ((lns ls).length : Int)) (by omega) (by omega)
    have hln : ((lns ls).length : Int) = m := by omega
    have hs2 := at_step (a := a) (s := st) (m := m) (t := t)
    have hsu := rr_succ (a := a) (s := st) (m := m) (t := t)
    rw [hln, hs2, ← hln] at hmd
    generalize (a + t * st) % m = x at *
    (repeat' (conv => whnf); first | (refine aC (fun _ => ?_) (fun _ => ?_) <;> try (exfalso; omega)) | refine aS ?_ | refine aG ?_ | refine aD ?_ | refine aH ?_ | refine aP_V1 ?_ | refine aI ?_ | refine aJ ?_ | refine aW (.qs [0, 1, 2, 3] (.l 4 [2] (.qs [5, 6, 7] (.l 8 [] .nil .no)) .no)) ?_ | refine aW (.qs [0, 1, 2, 3, 4, 5, 6, 7, 8, 9, 10, 11, 12, 13, 14] .nil) ?_ | (refine aK [] (Mod_ok ((x : Int) + st) ((lns ls).length : Int) (by omega) (by omega)) ?_) | fail); all_goals try (conv => whnf)
    exact ⟨t + 1, [0, 1, 2, 3, 4, 5, 8], by omega, by omega, by rw [hmd, hsu, ints_app]; (exact aL)⟩
  · have e : t = v := by omega
    subst e
    have hne : 2 ≤ t → (rr a st m t).getD 0 0 ≠ (rr a st m t).getD 1 0 := fun h2 => by
      rw [rr_get (by omega), rr_get (by omega)]
      have := rr_nd (m := m) (a := a) (s := st) (i := 0) (j := 1) (by omega) (by omega) ha (by omega) (by omega) (by omega) (by omega)
      omega
    (repeat' (conv => whnf); first | refine Gh.mk [.fz 6] ?_ | (refine CondOb.mk (fun h' => ?_) (fun h' => ?_) <;> first | (exfalso; first | omega | exact hne (by omega) h') | skip) | (refine aC (fun _ => ?_) (fun _ => ?_) <;> try (exfalso; omega)) | refine aS ?_ | refine aG ?_ | refine aD ?_ | refine aP_V1 ?_ | refine aI ?_ | refine aJ ?_ | refine aW (.qs [0, 1, 2, 3] (.l 4 [2] (.qs [5, 6, 7] (.l 8 [] .nil .no)) .no)) ?_ | refine aW (.qs [0, 1, 2, 3, 4, 5, 6, 7, 8, 9, 10, 11, 12, 13, 14] .nil) ?_ | refine ⟨0, rfl, by omega, ?_⟩ | refine ⟨1, rfl, by omega, ?_⟩ | refine ⟨_, ints_get (by omega), ?_⟩ | fail); all_goals try (conv => whnf)
    all_goals
      refine ⟨(⟨s, rr a st m t, cl, lo, lo + hi, stv b p, p, q⟩, k7), ⟨?_, rfl, hk7⟩, rfl, Imp.refl _⟩
      refine ⟨⟨cl1, cl2⟩, ⟨lo1, lo2⟩, ⟨by dsimp only; omega, by dsimp only; omega⟩, ⟨by dsimp only; omega, by dsimp only; omega⟩, ?_, ?_, ⟨b, b1, b2, by dsimp only; omega, ⟨by dsimp only; omega, Int.natCast_dvd_natCast.2 p2.2⟩, rfl, q1, q2⟩⟩
      · intro x hx
        have := rr_mem (by omega) hx
        omega
      · intro i j hij hj
        dsimp only at hj ⊢
        rw [hrr] at hj
        rw [rr_get (by omega), rr_get (by omega)]
        have := rr_nd (m := m) (a := a) (s := st) (i := i) (j := j) (by omega) (by omega) ha (by omega) (by omega) (by omega) (by omega)
        omega
end Go.Proofs.YtaomhdljcdadaaaGreat
end
