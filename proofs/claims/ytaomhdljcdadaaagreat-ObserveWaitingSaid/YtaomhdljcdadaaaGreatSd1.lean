/- Lemmas that the proofs of this seat use (Sd1). Conditions: those that stand in each theorem. -/
import Derived.Test.YtaomhdljcdadaaaGreatO1
import Derived.Test.YtaomhdljcdadaaaGreatKs
import Derived.Test.YtaomhdljcdadaaaGreatS6
import Derived.Test.YtaomhdljcdadaaaGreatQc
set_option linter.unusedVariables false
set_option linter.unusedSimpArgs false
namespace Go.Proofs.YtaomhdljcdadaaaGreat
open Go.Sx Go.Pk Go.Mc Go.Np
set_option maxRecDepth 4000
set_option maxHeartbeats 2000000
theorem aP_Sd1 {A B K : Prop} (k : K) (a : A := by (simp only [zA, zT, zD, zC, zN, ints_len, zR, Go.Cv.vals_len]; omega)) (b : B := by (simp only [zA, zT, zD, zC, zN, ints_len, zR, Go.Cv.vals_len]; omega)) : (A ∧ B) ∧ K := ⟨⟨a, b⟩, k⟩
theorem z2_Sd1 {G H : Prop} (k : H) (h : H → G := by first | exact fun r => aS r | exact fun r => aG r | exact fun r => aD r | exact fun r => aP_Sd1 r | exact fun r => aI r | exact fun r => aJ r) : G := h k
theorem z1_Sd1 {G H : Prop} (k : H) (h : H → G := by first | exact fun r => aS r | exact fun r => aG r | exact fun r => aD r | exact fun r => aH r | exact fun r => aP_Sd1 r | exact fun r => aI r | exact fun r => aJ r) : G := h k
theorem Sends_ok (L : List Int) (k : Nat) (hL : L.length ≤ 2000) (hk : k ≤ 2000) (n : Nt) (hn : NL n) (h10 : n.fl.length ≤ 10) (hz : ∀ f ∈ n.fl, 1 ≤ f.lo ∧ f.lo ≤ f.hi ∧ f.hi ≤ 1500) (m : Nat) (hm : m ≤ 60) :
  Ctr Tryz.prog 15 [.ptr 0 0, ntv n, i64 m] [src L k] (fun r o => ∃ x : List Pk × Nat, (SndP n x.1 ∧ x.1.length ≤ m ∧ x.2 ≤ 2000) ∧ o = [src L x.2, .vec 3 (pks x.1)] ∧ r = .vec 1) := by
 refine fn_intro (E := env 1) tys_ok rfl rfl rfl Tryz.func15 (by kernel_rfl) rfl (by kernel_rfl) ?_
 have hfl := fll n.fl
 (repeat' (conv => whnf); first | (refine aC (fun _ => ?_) (fun _ => ?_) <;> try (exfalso; omega)) | refine z1_Sd1 ?_ | fail); all_goals try (conv => whnf)
 refine aM [0] (N_ok L k hL hk (m + 1) (by omega) (by omega)) rfl rfl ?_
 rintro _ _ ⟨⟨v, k1⟩, ⟨v1, v2, hk1⟩, rfl, rfl⟩
 dsimp only at v1 v2 hk1 ⊢
 obtain ⟨v, rfl⟩ : ∃ a : Nat, v = a := ⟨v.toNat, by omega⟩
 (repeat' (conv => whnf); first | (refine aC (fun _ => ?_) (fun _ => ?_) <;> try (exfalso; omega)) | refine z1_Sd1 ?_ | fail); all_goals try (conv => whnf)
 refine LoopOb.mk (Y := List Pk × Nat) (st := fun y => ⟨[(9, i64 ((v : Int) - y.1.length)), (8, i64 (lst y.1 y.1.length)), (7, .vec 2), (4, .ptr 1 0), (0, .ptr 0 0)], [src L y.2, nbx n, .vec 3 (pks y.1)]⟩)
  (inv := fun y => SndP n y.1 ∧ y.1.length ≤ v ∧ y.2 ≤ 2000) (fun y => v - y.1.length) ([], k1) [0, 1, 3] ⟨SndP.nil n, by simp, hk1⟩ (by simp only [lst, List.length_nil]; (exact aL)) ?_
 rintro ⟨p, k2⟩ ⟨hp, hpv, hk2⟩
 dsimp only at hp hpv hk2 ⊢
 have hpl := pks_len p
 have ht := hp.t p.length (Nat.le_refl _)
 by_cases hlt : p.length < v ∧ 0 < n.fl.length
 ·generalize hla : lst p p.length = la at *
  (repeat' (conv => whnf); first | refine LitOb.ful ?_ | (refine aC (fun _ => ?_) (fun _ => ?_) <;> try (exfalso; omega)) | refine z1_Sd1 ?_ | fail); all_goals try (conv => whnf)
  refine CallOb.mk [0] (Pick_ok L k2 hL hk2 [0, 0, 0, 1, 2, 5] (by decide) (by decide)) rfl ⟨Imp.refl _, Imp.fulp rfl, trivial⟩ rfl rfl ?_
  rintro _ _ ⟨⟨d, k3⟩, ⟨d1, hk3⟩, rfl, rfl⟩
  dsimp only at d1 hk3 ⊢
  have hd : 0 ≤ d ∧ d ≤ 5 := by
   simp only [List.mem_cons, List.not_mem_nil, or_false] at d1
   omega
  clear d1
  (repeat' (conv => whnf); first | (refine aC (fun _ => ?_) (fun _ => ?_) <;> try (exfalso; omega)) | refine z1_Sd1 ?_ | fail); all_goals try (conv => whnf)
  refine CallOb.mk [0] (N_ok L k3 hL hk3 n.fl.length (by omega) (by omega)) rfl ⟨Imp.refl _, Imp.num (by omega), trivial⟩ rfl rfl ?_
  rintro _ _ ⟨⟨f, k4⟩, ⟨g1, g2, hk4⟩, rfl, rfl⟩
  dsimp only at g1 g2 hk4 ⊢
  obtain ⟨f, rfl⟩ : ∃ a : Nat, f = a := ⟨f.toNat, by omega⟩
  have hfg := flg (l := n.fl) (i := f) (by omega)
  have hzf := hz (n.fl.getD f fl0) (Go.Np.getD_in (by omega))
  have hpf : ∀ t s : Int, pfl n ⟨f, t, s⟩ = n.fl.getD f fl0 := fun t s => by unfold pfl; rw [Int.toNat_natCast]
  generalize n.fl.getD f fl0 = w at *
  (repeat' (conv => whnf); first | refine ⟨f, _, rfl, hfg, ?_⟩ | (refine aC (fun _ => ?_) (fun _ => ?_) <;> try (exfalso; omega)) | refine z1_Sd1 ?_ | fail); all_goals try (conv => whnf)
  refine aM [0] (Range_ok L k4 hL hk4 w.lo w.hi (by omega) (by omega) (by omega)) rfl rfl ?_
  rintro _ _ ⟨⟨s, k5⟩, ⟨s1, s2, hk5⟩, rfl, rfl⟩
  dsimp only at s1 s2 hk5 ⊢
  obtain ⟨hap, hal⟩ := hp.app (x := ⟨f, la + d, s⟩) ⟨by dsimp only; omega, by dsimp only; omega⟩ (by rw [hpf]; exact ⟨s1, s2⟩) (by rw [hla]; dsimp only; omega)
  have hpe : pks p ++ [[i64 f, i64 (la + d), i64 s]] = pks (p ++ [⟨f, la + d, s⟩]) := by simp [pks, pkw]
  have hl2 : (p ++ [(⟨f, la + d, s⟩ : Pk)]).length = p.length + 1 := by simp
  (repeat' (conv => whnf); first | (refine aC (fun _ => ?_) (fun _ => ?_) <;> try (exfalso; omega)) | refine z1_Sd1 ?_ | fail); all_goals try (conv => whnf)
  exact ⟨(p ++ [⟨f, la + d, s⟩], k5), [0, 1, 5], ⟨hap, by dsimp only; omega, hk5⟩, by dsimp only; omega, by dsimp only; rw [hal, ← hpe, hl2]; (exact aL)⟩
 ·(repeat' (conv => whnf); first | (refine aC (fun _ => ?_) (fun _ => ?_) <;> try (exfalso; omega)) | refine z2_Sd1 ?_ | fail); all_goals try (conv => whnf)
  all_goals first
   |(refine .mk [.wk [0, 2] ⟨[(6, .vec 1)], [src L k2, .vec 3 (pks p)]⟩] ⟨by (exact aL), ?_⟩; exact ⟨(p, k2), ⟨hp, by dsimp only; omega, hk2⟩, rfl, rfl⟩)
   |trace_state
end Go.Proofs.YtaomhdljcdadaaaGreat
