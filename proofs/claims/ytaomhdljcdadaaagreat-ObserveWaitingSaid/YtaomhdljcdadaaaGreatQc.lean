/- Lemmas that the proofs of this seat use (Qc Mw Mbb Qd). Conditions: those that stand in each theorem. -/
import Derived.Test.YtaomhdljcdadaaaGreatQrf
import Derived.Test.YtaomhdljcdadaaaGreatQrp
import Derived.Test.YtaomhdljcdadaaaGreatQab
import Derived.Test.YtaomhdljcdadaaaGreatQrd
import Derived.Test.YtaomhdljcdadaaaGreatQrs
import Derived.Test.YtaomhdljcdadaaaGreatS9
import Derived.Test.YtaomhdljcdadaaaGreatMr
import Derived.Test.YtaomhdljcdadaaaGreatN3
set_option linter.unusedVariables false
set_option linter.unusedSimpArgs false
section
namespace Go.Proofs.YtaomhdljcdadaaaGreat
open Go.Sx Go.Pk Go.Mc Go.Np
set_option maxRecDepth 4000
set_option maxHeartbeats 2000000
theorem aP_Qc {A B K : Prop} (k : K) (a : A := by (simp only [zA, zT, zD, zC, zN, ints_len, zR, Go.Cv.vals_len]; omega)) (b : B := by (simp only [zA, zT, zD, zC, zN, ints_len, zR, Go.Cv.vals_len]; omega)) : (A ∧ B) ∧ K := ⟨⟨a, b⟩, k⟩
theorem z1_Qc {G H : Prop} (k : H) (h : H → G := by first | exact fun r => aS r | exact fun r => aG r | exact fun r => aD r | exact fun r => aH r | exact fun r => aP_Qc r | exact fun r => aI r | exact fun r => aJ r) : G := h k
theorem DRun_ok (l : Ln) (hl : LL l) (he : lnErr l = 0) (p : List Pk) (T : Nat) (hp : PL p) (hcl : ∀ i, i < p.length → 0 ≤ cl p i ∧ cl p i < l.n) (hT : T ≤ 2000) : Ctr Tryz.prog 98 [lv l, .psl 3 (pks p), i64 T] [] (fun r o => o = [] ∧ RunR p.length (run (chL l) p l.c.toNat T).dn r) := by
 refine fn_intro (E := env 0) tys_ok rfl rfl rfl Tryz.func98 (by kernel_rfl) rfl (by kernel_rfl) ?_
 obtain ⟨h, hc, hn, k1, k5, hr, hd, hs⟩ := lRun_fit he hp hcl hT
 (repeat' (conv => whnf); first | (refine aC (fun _ => ?_) (fun _ => ?_) <;> try (exfalso; omega)) | refine z1_Qc ?_ | fail); all_goals try (conv => whnf)
 refine aK [] (rlCheck_ok l hl) ?_
 rw [he]
 rcases (show l.k = 1 ∨ l.k = 2 ∨ l.k = 3 ∨ l.k = 4 ∨ l.k = 5 by omega) with hk | hk | hk | hk | hk
 ·have e : chL l = fifoC := if_pos hk
  rw [e]
  (repeat' (conv => whnf); first | (refine aC (fun _ => ?_) (fun _ => ?_) <;> try (exfalso; omega)) | refine z1_Qc ?_ | (refine CallOb.mk [] (DRunf_ok p _ _ T h) rfl ⟨Imp.num (by omega), Imp.num (by omega), Imp.refl _, Imp.refl _, trivial⟩ rfl rfl ?_; rintro _ _ ⟨rfl, x, ⟨ms, hms, rfl⟩, rfl⟩) | fail); all_goals try (conv => whnf)
  exact ⟨rfl, _, ⟨ms, hms, rfl⟩, rfl⟩
 ·have e : chL l = prioC l.n.toNat := by unfold chL; rw [if_neg (by omega), if_pos hk]
  rw [e]
  (repeat' (conv => whnf); first | (refine aC (fun _ => ?_) (fun _ => ?_) <;> try (exfalso; omega)) | refine z1_Qc ?_ | (refine CallOb.mk [] (DRunp_ok p _ _ T h) rfl ⟨Imp.num (by omega), Imp.num (by omega), Imp.refl _, Imp.refl _, trivial⟩ rfl rfl ?_; rintro _ _ ⟨rfl, x, ⟨ms, hms, rfl⟩, rfl⟩) | fail); all_goals try (conv => whnf)
  exact ⟨rfl, _, ⟨ms, hms, rfl⟩, rfl⟩
 ·have e : chL l = robinC l.w := by unfold chL; rw [if_neg (by omega), if_neg (by omega), if_pos hk]
  rw [e]
  obtain ⟨w1, w2⟩ := hr hk
  (repeat' (conv => whnf); first | (refine aC (fun _ => ?_) (fun _ => ?_) <;> try (exfalso; omega)) | refine z1_Qc ?_ | (refine CallOb.mk [] (DRunr_ok p _ _ T h l.w w1 (fun c hc => inR_get w2 (by omega))) rfl ⟨Imp.num (by omega), Imp.refl _, Imp.refl _, Imp.refl _, trivial⟩ rfl rfl ?_; rintro _ _ ⟨rfl, x, ⟨ms, hms, rfl⟩, rfl⟩) | fail); all_goals try (conv => whnf)
  exact ⟨rfl, _, ⟨ms, hms, rfl⟩, rfl⟩
 ·have e : chL l = defC l.w := by unfold chL; rw [if_neg (by omega), if_neg (by omega), if_neg (by omega), if_pos hk]
  rw [e]
  obtain ⟨w1, w2⟩ := hd hk
  (repeat' (conv => whnf); first | (refine aC (fun _ => ?_) (fun _ => ?_) <;> try (exfalso; omega)) | refine z1_Qc ?_ | (refine CallOb.mk [] (DRund_ok p _ _ T h l.w w1 (fun c hc => inR_get w2 (by omega))) rfl ⟨Imp.num (by omega), Imp.refl _, Imp.refl _, Imp.refl _, trivial⟩ rfl rfl ?_; rintro _ _ ⟨rfl, x, ⟨ms, hms, rfl⟩, rfl⟩) | fail); all_goals try (conv => whnf)
  exact ⟨rfl, _, ⟨ms, hms, rfl⟩, rfl⟩
 ·have e : chL l = slotC l.c.toNat l.s := by unfold chL; rw [if_neg (by omega), if_neg (by omega), if_neg (by omega), if_neg (by omega)]
  rw [e]
  obtain ⟨w1, w2⟩ := hs hk
  (repeat' (conv => whnf); first | (refine aC (fun _ => ?_) (fun _ => ?_) <;> try (exfalso; omega)) | refine z1_Qc ?_ | (refine CallOb.mk [] (DRuns_ok p _ _ T h l.s w1 (by omega)) rfl ⟨Imp.num (by omega), Imp.num (by omega), Imp.refl _, Imp.refl _, Imp.refl _, trivial⟩ rfl rfl ?_; rintro _ _ ⟨rfl, x, ⟨ms, hms, rfl⟩, rfl⟩) | fail); all_goals try (conv => whnf)
  exact ⟨rfl, _, ⟨ms, hms, rfl⟩, rfl⟩
end Go.Proofs.YtaomhdljcdadaaaGreat
end
section
namespace Go.Mc
open Go.Pk Go.Np
structure SndP (n : Nt) (p : List Pk) : Prop where
 f : ∀ i, i < p.length → 0 ≤ (p.getD i pk0).f ∧ (p.getD i pk0).f < n.fl.length
 s : ∀ i, i < p.length → (pfl n (p.getD i pk0)).lo ≤ (p.getD i pk0).s ∧ (p.getD i pk0).s ≤ (pfl n (p.getD i pk0)).hi
 t : ∀ i, i ≤ p.length → 0 ≤ lst p i ∧ lst p i ≤ 5 * i
 o : ∀ i, i < p.length → lst p i ≤ (p.getD i pk0).t
theorem SndP.nil (n : Nt) : SndP n [] :=
 ⟨fun i hi => by simp at hi, fun i hi => by simp at hi, fun i hi => by
  have : i = 0 := by simpa using hi
  subst this; simp [lst], fun i hi => by simp at hi⟩
theorem app_lt {p : List Pk} {x : Pk} {i : Nat} (h : i < p.length) : (p ++ [x]).getD i pk0 = p.getD i pk0 := by
 simp [List.getD_eq_getElem?_getD, List.getElem?_append_left h]
theorem app_eq {p : List Pk} {x : Pk} : (p ++ [x]).getD p.length pk0 = x := by simp [List.getD_eq_getElem?_getD]
theorem lst_app {p : List Pk} {x : Pk} {i : Nat} (h : i ≤ p.length) : lst (p ++ [x]) i = lst p i := by
 cases i with
 |zero => rfl
 |succ i => simp only [lst]; rw [app_lt (by omega)]
theorem SndP.app {n : Nt} {p : List Pk} (h : SndP n p) {x : Pk} (hf : 0 ≤ x.f ∧ x.f < n.fl.length) (hs : (pfl n x).lo ≤ x.s ∧ x.s ≤ (pfl n x).hi) (ht : lst p p.length ≤ x.t ∧ x.t ≤ lst p p.length + 5) : SndP n (p ++ [x]) ∧ lst (p ++ [x]) (p ++ [x]).length = x.t := by
 have hl : (p ++ [x]).length = p.length + 1 := by simp
 have he : lst (p ++ [x]) (p.length + 1) = x.t := by simp only [lst]; rw [app_eq]
 have h0 := h.t p.length (Nat.le_refl _)
 refine ⟨⟨fun i hi => ?_, fun i hi => ?_, fun i hi => ?_, fun i hi => ?_⟩, by rw [hl, he]⟩
 ·rcases Nat.lt_succ_iff_lt_or_eq.1 (by omega : i < p.length + 1) with e | e
  ·rw [app_lt e]; exact h.f i e
  ·subst e; rw [app_eq]; exact hf
 ·rcases Nat.lt_succ_iff_lt_or_eq.1 (by omega : i < p.length + 1) with e | e
  ·rw [app_lt e]; exact h.s i e
  ·subst e; rw [app_eq]; exact hs
 ·rcases Nat.lt_succ_iff_lt_or_eq.1 (by omega : i < p.length + 2) with e | e
  ·rw [lst_app (by omega)]; exact h.t i (by omega)
  ·subst e; rw [he]; omega
 ·rcases Nat.lt_succ_iff_lt_or_eq.1 (by omega : i < p.length + 1) with e | e
  ·rw [app_lt e, lst_app (by omega)]; exact h.o i e
  ·subst e; rw [app_eq, lst_app (by omega)]; exact ht.1
theorem SndP.sk {n : Nt} {p : List Pk} (h : SndP n p) (hc : chkN n = 0) (hl : p.length ≤ 60) : SkP n p := by
 refine ⟨hc, hl, fun i hi => ?_, h.o⟩
 have h1 := h.f i hi
 have h2 := h.s i hi
 have h3 := h.t (i + 1) (by omega)
 have h4 := h.t i (by omega)
 have h5 := h.o i hi
 have h6 : lst p (i + 1) = (p.getD i pk0).t := rfl
 unfold bdP
 omega
end Go.Mc
end
section
namespace Go.Mc
open Go.Pk Go.Np
def byN (p : List Pk) (i : Nat) : Nat := sumN (fun k => (p.getD k pk0).s.toNat) i
def laN (p : List Pk) : Nat → Int
 |0 => 0
 |i + 1 => max (laN p i) (p.getD i pk0).t
theorem laN_bd {p : List Pk} {B : Int} (h0 : 0 ≤ B) : ∀ {m : Nat}, (∀ i, i < m → (p.getD i pk0).t ≤ B) → 0 ≤ laN p m ∧ laN p m ≤ B ∧ ∀ i, i < m → (p.getD i pk0).t ≤ laN p m
  | 0, _ => ⟨Int.le_refl _, h0, fun i hi => by omega⟩
  | m + 1, h => by
    obtain ⟨a, b, c⟩ := laN_bd h0 (m := m) fun i hi => h i (by omega)
    have := h m (by omega)
    simp only [laN]
    refine ⟨by omega, by omega, fun i hi => ?_⟩
    rcases Nat.lt_succ_iff_lt_or_eq.1 hi with e | e
    · have := c i e; omega
    · subst e; omega
theorem byN_bd {p : List Pk} {B : Nat} : ∀ {m : Nat}, (∀ i, i < m → (p.getD i pk0).s ≤ B) → byN p m ≤ B * m
  | 0, _ => Nat.zero_le _
  | m + 1, h => by
    have := byN_bd (p := p) (B := B) (m := m) fun i hi => h i (by omega)
    have h2 := h m (by omega)
    unfold byN at *
    simp only [sumN]
    rw [Nat.mul_succ]
    omega
end Go.Mc
end
section
namespace Go.Proofs.YtaomhdljcdadaaaGreat
open Go.Sx Go.Pk Go.Mc Go.Np
set_option maxRecDepth 4000
set_option maxHeartbeats 2000000
theorem chL_idle1 {l : Ln} {T : Nat} {p : List Pk} (h : FitP p l.c.toNat l.n.toNat T) (h1 : 1 ≤ l.k) (h5 : l.k ≤ 5) (hr : l.k = 3 → l.w.length = l.n.toNat ∧ inR l.w 1 20) (hs : l.k = 5 → l.s ≠ [] ∧ l.s.length ≤ 40) : ∃ L, L ≤ 40 ∧ (l.k ≠ 5 → L = 1) ∧ Idle (chL l) p l.c.toNat L := by
 by_cases k1 : l.k = 1
 ·exact ⟨1, by omega, fun _ => rfl, by rw [show chL l = fifoC from if_pos k1]; exact fifo_idle _ _⟩
 by_cases k2 : l.k = 2
 ·exact ⟨1, by omega, fun _ => rfl, by rw [show chL l = prioC l.n.toNat by unfold chL; rw [if_neg k1, if_pos k2]]; exact prio_idle _ _ _⟩
 by_cases k3 : l.k = 3
 ·exact ⟨1, by omega, fun _ => rfl, by rw [show chL l = robinC l.w by unfold chL; rw [if_neg k1, if_neg k2, if_pos k3]]; exact robin_idle _ _ _⟩
 by_cases k4 : l.k = 4
 ·exact ⟨1, by omega, fun _ => rfl, by rw [show chL l = defC l.w by unfold chL; rw [if_neg k1, if_neg k2, if_neg k3, if_pos k4]]; exact def_idle _ _ _⟩
 obtain ⟨s1, s2⟩ := hs (by omega)
 refine ⟨l.s.length, s2, fun h => by omega, ?_⟩
 rw [show chL l = slotC l.c.toNat l.s by unfold chL; rw [if_neg k1, if_neg k2, if_neg k3, if_neg k4]]
 exact slot_idle _ _ (List.length_pos_iff.2 s1) _
def enD (l : Ln) (p : List Pk) : Int := laN p p.length + (byN p p.length : Nat) + 1 + if l.k = 5 then 41 * ((p.length : Int) + 1) else 0
theorem send_run {l : Ln} (he : lnErr l = 0) {p : List Pk} {N : Nat} (hp : PL p) (hcl : ∀ i, i < p.length → 0 ≤ cl p i ∧ cl p i < l.n) (hN : N ≤ 2000) : (run (chL l) p l.c.toNat (min (N : Int) (enD l p)).toNat).dn = (run (chL l) p l.c.toNat N).dn := by
 obtain ⟨h, hc, hn, k1, k5, hr, hd, hs⟩ := lRun_fit he hp hcl hN
 obtain ⟨L, hL, hL1, hI⟩ := chL_idle1 h k1 k5 hr hs
 obtain ⟨b1, b2, b3⟩ := laN_bd (p := p) (B := 2000) (by omega) (m := p.length) fun i hi => (hp.t i hi).2
 have hbt : byN p p.length = byt p := rfl
 have hen : (laN p p.length).toNat + byt p + (L - 1) * p.length ≤ (enD l p).toNat := by
  have h3 : (L - 1) * p.length ≤ 39 * p.length := Nat.mul_le_mul_right _ (by omega)
  unfold enD
  rw [hbt]
  split
  ·omega
  ·rw [hL1 (by assumption)]; omega
 by_cases hle : (N : Int) ≤ enD l p
 ·rw [show (min (N : Int) (enD l p)).toNat = N by omega]
 ·rw [show (min (N : Int) (enD l p)).toNat = (enD l p).toNat by omega]
  have hpos : Pos p := fun i hi => by have := (hp.s i hi).1; unfold sz; omega
  refine run_enough hp.a hpos hI h.c1 (last := (laN p p.length).toNat) (fun i hi => ?_) hen (by omega)
  have := b3 i hi
  unfold tm; omega
theorem aP_Qd {A B K : Prop} (k : K) (a : A := by (simp only [zA, zT, zD, zC, zN, ints_len, zR, Go.Cv.vals_len]; omega)) (b : B := by (simp only [zA, zT, zD, zC, zN, ints_len, zR, Go.Cv.vals_len]; omega)) : (A ∧ B) ∧ K := ⟨⟨a, b⟩, k⟩
theorem z1_Qd {G H : Prop} (k : H) (h : H → G := by first | exact fun r => aS r | exact fun r => aG r | exact fun r => aD r | exact fun r => aH r | exact fun r => aP_Qd r | exact fun r => aI r | exact fun r => aJ r | exact fun r => aW (.qs [0, 1, 2, 3, 4, 5, 6, 7, 8, 9, 10, 11, 12, 13, 14, 15] .nil) r) : G := h k
theorem RSnd_ok (l : Ln) (hl : LL l) (he : lnErr l = 0) (p : List Pk) (N : Nat) (hp : PL p) (hcl : ∀ i, i < p.length → 0 ≤ cl p i ∧ cl p i < l.n) (hN : N ≤ 2000) : Ctr Tryz.prog 61 [lv l, .psl 3 (pks p), i64 N] [] (fun r o => o = [] ∧ RunR p.length (run (chL l) p l.c.toNat N).dn r) := by
 refine fn_intro (E := env 0) tys_ok rfl rfl rfl Tryz.func61 (by kernel_rfl) rfl (by kernel_rfl) ?_
 have hpl := pks_len p
 have h60 := hp.l
 have hA := fun m (hm : m ≤ p.length) => laN_bd (p := p) (B := 2000) (by omega) (m := m) fun i hi => (hp.t i (by omega)).2
 have hB := fun m (hm : m ≤ p.length) => byN_bd (p := p) (B := 1500) (m := m) fun i hi => (hp.s i (by omega)).2
 (repeat' (conv => whnf); first | (refine aC (fun _ => ?_) (fun _ => ?_) <;> try (exfalso; omega)) | refine z1_Qd ?_ | fail); all_goals try (conv => whnf)
 refine LoopOb.mk (Y := Nat) (st := fun i => ⟨[(10, i64 i), (8, i64 (laN p i)), (9, i64 (byN p i : Nat)), (6, .ptr 1 0), (3, .ptr 0 0), (1, .psl 3 (pks p)), (2, i64 N)], [.box [i64 l.k, i64 l.c, i64 l.n, .psl 1 (ints l.w), .psl 1 (ints l.s)], .box [.nil, .nil]]⟩)
  (inv := fun i => i ≤ p.length) (fun i => p.length - i) 0 [0, 1] (by omega) (by (exact aL)) ?_
 rintro i hi
 have h1 := hA i hi
 have h2 := hB i hi
 by_cases hil : i < p.length
 ·have hg := pks_get hil
  have h3 := hp.t i hil
  have h4 := hp.s i hil
  have e1 : laN p (i + 1) = max (laN p i) (p.getD i pk0).t := rfl
  have e2 : ((byN p (i + 1) : Nat) : Int) = (byN p i : Nat) + (p.getD i pk0).s := by
   have : byN p (i + 1) = byN p i + (p.getD i pk0).s.toNat := rfl
   omega
  generalize p.getD i pk0 = x at *
  generalize laN p i = la at *
  generalize byN p i = by' at *
  (repeat' (conv => whnf); first | refine ⟨i, _, rfl, hg, ?_⟩ | (refine aC (fun _ => ?_) (fun _ => ?_) <;> try (exfalso; omega)) | refine z1_Qd ?_ | fail); all_goals try (conv => whnf)
  exact ⟨i + 1, [0, 1], by omega, by omega, by rw [e1, e2]; (exact aL)⟩
 ·obtain rfl : i = p.length := by omega
  have cD := DRun_ok l hl he p (min (N : Int) (enD l p)).toNat hp hcl (by omega)
  rw [send_run he hp hcl hN] at cD
  have hen : 0 ≤ enD l p := by unfold enD; split <;> omega
  have hcs : (l.k = 5 ∧ enD l p = laN p p.length + (byN p p.length : Nat) + 1 + 41 * ((p.length : Int) + 1)) ∨ (l.k ≠ 5 ∧ enD l p = laN p p.length + (byN p p.length : Nat) + 1) := by
   unfold enD
   by_cases h5 : l.k = 5
   ·exact .inl ⟨h5, by rw [if_pos h5]⟩
   ·exact .inr ⟨h5, by rw [if_neg h5]; omega⟩
  (repeat' (conv => whnf); first | (refine aC (fun _ => ?_) (fun _ => ?_) <;> try (exfalso; omega)) | refine z1_Qd ?_ | (refine CallOb.mk [] cD rfl ⟨Imp.refl _, Imp.refl _, Imp.num (by omega), trivial⟩ rfl rfl ?_; rintro _ _ ⟨rfl, x, ⟨ms, hms, rfl⟩, rfl⟩) | fail); all_goals try (conv => whnf)
  all_goals exact ⟨rfl, _, ⟨ms, hms, rfl⟩, rfl⟩
end Go.Proofs.YtaomhdljcdadaaaGreat
end
