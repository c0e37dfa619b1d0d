/-
  A text of the proofs of this seat: lemmas that the statements' proofs use; it states nothing of the program by itself beyond the contracts that its theorems bear. Conditions: those that stand in each theorem. Its short name: Mw Sd1.
-/
import Derived.Test.YtaomhdljcdadaaaGreatSo8
import Derived.Test.YtaomhdljcdadaaaGreatKn
import Derived.Test.YtaomhdljcdadaaaGreatN7
set_option linter.unusedVariables false
set_option linter.unusedSimpArgs false
section
namespace Go.Mc
open Go.Pk Go.Np
/-! packets that are made for a network -/
structure SndP (n : Nt) (p : List Pk) : Prop where
  f : ∀ i, i < p.length → 0 ≤ (p.getD i pk0).f ∧ (p.getD i pk0).f < n.fl.length
  s : ∀ i, i < p.length → (pfl n (p.getD i pk0)).lo ≤ (p.getD i pk0).s ∧ (p.getD i pk0).s ≤ (pfl n (p.getD i pk0)).hi
  t : ∀ i, i ≤ p.length → 0 ≤ lst p i ∧ lst p i ≤ 5 * i
  o : ∀ i, i < p.length → lst p i ≤ (p.getD i pk0).t
theorem SndP.nil (n : Nt) : SndP n [] :=
  ⟨fun i hi => by simp at hi, fun i hi => by simp at hi, fun i hi => by
    have : i = 0 := by simpa using hi
    subst this; simp [lst], fun i hi => by simp at hi⟩
theorem app_lt {p : List Pk} {x : Pk} {i : Nat} (h : i < p.length) : (p ++ [x]).getD i pk0 = p.getD i pk0 := by
  simp [List.getD_eq_getElem?_getD, List.getElem?_append_left h]
theorem app_eq {p : List Pk} {x : Pk} : (p ++ [x]).getD p.length pk0 = x := by simp [List.getD_eq_getElem?_getD]
theorem lst_app {p : List Pk} {x : Pk} {i : Nat} (h : i ≤ p.length) : lst (p ++ [x]) i = lst p i := by
  cases i with
  | zero => rfl
  | succ i => simp only [lst]; rw [app_lt (by omega)]
theorem SndP.app {n : Nt} {p : List Pk} (h : SndP n p) {x : Pk} (hf : 0 ≤ x.f ∧ x.f < n.fl.length) (hs : (pfl n x).lo ≤ x.s ∧ x.s ≤ (pfl n x).hi) (ht : lst p p.length ≤ x.t ∧ x.t ≤ lst p p.length + 5) : SndP n (p ++ [x]) ∧ lst (p ++ [x]) (p ++ [x]).length = x.t := by
  have hl : (p ++ [x]).length = p.length + 1 := by simp
  have he : lst (p ++ [x]) (p.length + 1) = x.t := by simp only [lst]; rw [app_eq]
  have h0 := h.t p.length (Nat.le_refl _)
  refine ⟨⟨fun i hi => ?_, fun i hi => ?_, fun i hi => ?_, fun i hi => ?_⟩, by rw [hl, he]⟩
  · rcases Nat.lt_succ_iff_lt_or_eq.1 (by omega : i < p.length + 1) with e | e
    · rw [app_lt e]; exact h.f i e
    · subst e; rw [app_eq]; exact hf
  · rcases Nat.lt_succ_iff_lt_or_eq.1 (by omega : i < p.length + 1) with e | e
    · rw [app_lt e]; exact h.s i e
    · subst e; rw [app_eq]; exact hs
  · rcases Nat.lt_succ_iff_lt_or_eq.1 (by omega : i < p.length + 2) with e | e
    · rw [lst_app (by omega)]; exact h.t i (by omega)
    · subst e; rw [he]; omega
  · rcases Nat.lt_succ_iff_lt_or_eq.1 (by omega : i < p.length + 1) with e | e
    · rw [app_lt e, lst_app (by omega)]; exact h.o i e
    · subst e; rw [app_eq, lst_app (by omega)]; exact ht.1
theorem SndP.sk {n : Nt} {p : List Pk} (h : SndP n p) (hc : chkN n = 0) (hl : p.length ≤ 60) : SkP n p := by
  refine ⟨hc, hl, fun i hi => ?_, h.o⟩
  have h1 := h.f i hi
  have h2 := h.s i hi
  have h3 := h.t (i + 1) (by omega)
  have h4 := h.t i (by omega)
  have h5 := h.o i hi
  have h6 : lst p (i + 1) = (p.getD i pk0).t := rfl
  unfold bdP
  omega
end Go.Mc
end
section
namespace Go.Proofs.YtaomhdljcdadaaaGreat
open Go.Sx Go.Pk Go.Mc Go.Np
set_option maxRecDepth 4000
set_option maxHeartbeats 2000000
theorem aP_Sd1 {A B K : Prop} (k : K) (a : A := by (simp only [zA, zT, zD, zC, zN, ints_len, zR, Go.Cv.vals_len]; omega)) (b : B := by (simp only [zA, zT, zD, zC, zN, ints_len, zR, Go.Cv.vals_len]; omega)) : (A ∧ B) ∧ K := ⟨⟨a, b⟩, k⟩
/-! packets for a network -/
theorem Sends_ok (L : List Int) (k : Nat) (hL : L.length ≤ 2000) (hk : k ≤ 2000) (n : Nt) (hn : NL n) (h10 : n.fl.length ≤ 10) (hz : ∀ f ∈ n.fl, 1 ≤ f.lo ∧ f.lo ≤ f.hi ∧ f.hi ≤ 1500) (m : Nat) (hm : m ≤ 60) :
    Ctr Tryz.prog 15 [.ptr 0 0, ntv n, i64 m] [src L k] (fun r o => ∃ x : List Pk × Nat, (SndP n x.1 ∧ x.1.length ≤ m ∧ x.2 ≤ 2000) ∧ o = [src L x.2, .vec 3 (pks x.1)] ∧ r = .vec 1) := by
  refine fn_intro (E := env 1) tys_ok rfl rfl rfl Tryz.func15 (by kernel_rfl) rfl (by kernel_rfl) ?_
  have hfl := fll n.fl
  (repeat' (conv => whnf); first | (refine aC (fun _ => ?_) (fun _ => ?_) <;> try (exfalso; omega)) | refine aS ?_ | refine aG ?_ | refine aD ?_ | refine aH ?_ | refine aP_Sd1 ?_ | refine aI ?_ | refine aJ ?_ | fail); all_goals try (conv => whnf)
  refine CallOb.mk [0] (N_ok L k hL hk (m + 1) (by omega) (by omega)) rfl (ImpL.refl _) rfl rfl ?_
  rintro _ _ ⟨⟨v, k1⟩, ⟨v1, v2, hk1⟩, rfl, rfl⟩
  dsimp only at v1 v2 hk1 ⊢
  obtain ⟨v, rfl⟩ : ∃ a : Nat, v = a := ⟨v.toNat, by omega⟩
  (repeat' (conv => whnf); first | (refine aC (fun _ => ?_) (fun _ => ?_) <;> try (exfalso; omega)) | refine aS ?_ | refine aG ?_ | refine aD ?_ | refine aH ?_ | refine aP_Sd1 ?_ | refine aI ?_ | refine aJ ?_ | fail); all_goals try (conv => whnf)
  refine LoopOb.mk (Y := List Pk × Nat) (st := fun y => ⟨[(9, i64 ((v : Int) - y.1.length)), (8, i64 (lst y.1 y.1.length)), (7, .vec 2), (4, .ptr 1 0), (0, .ptr 0 0)], [src L y.2, nbx n, .vec 3 (pks y.1)]⟩)
    (inv := fun y => SndP n y.1 ∧ y.1.length ≤ v ∧ y.2 ≤ 2000) (fun y => v - y.1.length) ([], k1) [0, 1, 3] ⟨SndP.nil n, by simp, hk1⟩ (by simp only [lst, List.length_nil]; (exact aL)) ?_
  rintro ⟨p, k2⟩ ⟨hp, hpv, hk2⟩
  dsimp only at hp hpv hk2 ⊢
  have hpl := pks_len p
  have ht := hp.t p.length (Nat.le_refl _)
  by_cases hlt : p.length < v ∧ 0 < n.fl.length
  · generalize hla : lst p p.length = la at *
    (repeat' (conv => whnf); first | refine LitOb.ful ?_ | (refine aC (fun _ => ?_) (fun _ => ?_) <;> try (exfalso; omega)) | refine aS ?_ | refine aG ?_ | refine aD ?_ | refine aH ?_ | refine aP_Sd1 ?_ | refine aI ?_ | refine aJ ?_ | fail); all_goals try (conv => whnf)
    refine CallOb.mk [0] (Pick_ok L k2 hL hk2 [0, 0, 0, 1, 2, 5] (by decide) (by decide)) rfl ⟨Imp.refl _, Imp.fulp rfl, trivial⟩ rfl rfl ?_
    rintro _ _ ⟨⟨d, k3⟩, ⟨d1, hk3⟩, rfl, rfl⟩
    dsimp only at d1 hk3 ⊢
    have hd : 0 ≤ d ∧ d ≤ 5 := by
      simp only [List.mem_cons, List.not_mem_nil, or_false] at d1
      omega
    clear d1
    (repeat' (conv => whnf); first | (refine aC (fun _ => ?_) (fun _ => ?_) <;> try (exfalso; omega)) | refine aS ?_ | refine aG ?_ | refine aD ?_ | refine aH ?_ | refine aP_Sd1 ?_ | refine aI ?_ | refine aJ ?_ | fail); all_goals try (conv => whnf)
    refine CallOb.mk [0] (N_ok L k3 hL hk3 n.fl.length (by omega) (by omega)) rfl ⟨Imp.refl _, Imp.num (by omega), trivial⟩ rfl rfl ?_
    rintro _ _ ⟨⟨f, k4⟩, ⟨g1, g2, hk4⟩, rfl, rfl⟩
    dsimp only at g1 g2 hk4 ⊢
    obtain ⟨f, rfl⟩ : ∃ a : Nat, f = a := ⟨f.toNat, by omega⟩
    have hfg := flg (l := n.fl) (i := f) (by omega)
    have hzf := hz (n.fl.getD f fl0) (Go.Np.getD_in (by omega))
    have hpf : ∀ t s : Int, pfl n ⟨f, t, s⟩ = n.fl.getD f fl0 := fun t s => by unfold pfl; rw [Int.toNat_natCast]
    generalize n.fl.getD f fl0 = w at *
    (repeat' (conv => whnf); first | refine ⟨f, _, rfl, hfg, ?_⟩ | (refine aC (fun _ => ?_) (fun _ => ?_) <;> try (exfalso; omega)) | refine aS ?_ | refine aG ?_ | refine aD ?_ | refine aH ?_ | refine aP_Sd1 ?_ | refine aI ?_ | refine aJ ?_ | fail); all_goals try (conv => whnf)
    refine CallOb.mk [0] (Range_ok L k4 hL hk4 w.lo w.hi (by omega) (by omega) (by omega)) rfl (ImpL.refl _) rfl rfl ?_
    rintro _ _ ⟨⟨s, k5⟩, ⟨s1, s2, hk5⟩, rfl, rfl⟩
    dsimp only at s1 s2 hk5 ⊢
    obtain ⟨hap, hal⟩ := hp.app (x := ⟨f, la + d, s⟩) ⟨by dsimp only; omega, by dsimp only; omega⟩ (by rw [hpf]; exact ⟨s1, s2⟩) (by rw [hla]; dsimp only; omega)
    have hpe : pks p ++ [[i64 f, i64 (la + d), i64 s]] = pks (p ++ [⟨f, la + d, s⟩]) := by simp [pks, pkw]
    have hl2 : (p ++ [(⟨f, la + d, s⟩ : Pk)]).length = p.length + 1 := by simp
    (repeat' (conv => whnf); first | (refine aC (fun _ => ?_) (fun _ => ?_) <;> try (exfalso; omega)) | refine aS ?_ | refine aG ?_ | refine aD ?_ | refine aH ?_ | refine aP_Sd1 ?_ | refine aI ?_ | refine aJ ?_ | fail); all_goals try (conv => whnf)
    exact ⟨(p ++ [⟨f, la + d, s⟩], k5), [0, 1, 5], ⟨hap, by dsimp only; omega, hk5⟩, by dsimp only; omega, by dsimp only; rw [hal, ← hpe, hl2]; (exact aL)⟩
  · (repeat' (conv => whnf); first | (refine aC (fun _ => ?_) (fun _ => ?_) <;> try (exfalso; omega)) | refine aS ?_ | refine aG ?_ | refine aD ?_ | refine aP_Sd1 ?_ | refine aI ?_ | refine aJ ?_ | fail); all_goals try (conv => whnf)
    all_goals first
      | (refine .mk [.wk [0, 2] ⟨[(6, .vec 1)], [src L k2, .vec 3 (pks p)]⟩] ⟨by (exact aL), ?_⟩; exact ⟨(p, k2), ⟨hp, by dsimp only; omega, hk2⟩, rfl, rfl⟩)
      | trace_state
end Go.Proofs.YtaomhdljcdadaaaGreat
end
