/- Lemmas that the proofs of this seat use (S4 Vr S14). Conditions: those that stand in each theorem. -/
import Derived.Test.YtaomhdljcdadaaaGreatS2
import Derived.Test.YtaomhdljcdadaaaGreatS12
import Derived.Test.YtaomhdljcdadaaaGreatT1
set_option linter.unusedVariables false
set_option linter.unusedSimpArgs false
section
namespace Go.Proofs.YtaomhdljcdadaaaGreat
open Go.Sx Go.Pk Go.Mc
set_option maxRecDepth 4000
set_option maxHeartbeats 2000000
structure FitP (p : List Pk) (c N T : Nat) : Prop where
 hp : PL p
 c1 : 1 ≤ c
 c2 : c ≤ 4000
 n1 : 1 ≤ N
 n2 : N ≤ 6
 cl : ∀ i, i < p.length → 0 ≤ cl p i ∧ cl p i < N
 t : T ≤ 2000
theorem FitP.vld {p : List Pk} {c N T : Nat} (h : FitP p c N T) : vld p = 0 := by
 refine vld_zero.2 ⟨h.hp.l, fun i hi => ?_, fun i hi => ?_⟩
 ·have h1 := h.hp.s i hi
  have h2 := h.hp.t i hi
  have h3 := h.cl i hi
  have h4 := h.n2
  unfold Mc.cl at h3
  unfold bad; omega
 ·cases i with
  |zero => have := h.hp.t 0 hi; exact this.1
  |succ i => exact h.hp.a i (i + 1) (by omega) hi
def RunR (n : Nat) (dn : Nat → Int) (r : SV) : Prop := ∃ x, RunV n dn x ∧ r = .tup [x, i64 0]
end Go.Proofs.YtaomhdljcdadaaaGreat
end
section
namespace Go.Proofs.YtaomhdljcdadaaaGreat
open Go.Sx Go.Pk Go.Cv
set_option maxRecDepth 8000
set_option maxHeartbeats 2000000
theorem aP_Vr {A B K : Prop} (k : K) (a : A := by (simp only [zA, zT, zD, zC, zN, ints_len, zR, pks_len, Go.Cv.vals_len]; omega)) (b : B := by (simp only [zA, zT, zD, zC, zN, ints_len, zR, pks_len, Go.Cv.vals_len]; omega)) : (A ∧ B) ∧ K := ⟨⟨a, b⟩, k⟩
theorem z1_Vr {G H : Prop} (k : H) (h : H → G := by first | exact fun r => aS r | exact fun r => aG r | exact fun r => aD r | exact fun r => aH r | exact fun r => aP_Vr r | exact fun r => aI r | exact fun r => aJ r | exact fun r => aW (.qs [0, 1, 2, 3, 4, 5, 6, 7, 8, 9, 10, 11, 12] .nil) r) : G := h k
theorem rVal13_ok (p : List Pk) (hp : p.length ≤ 1000000) : Ctr Tryz.prog 192 [.psl 3 (pks p)] [] (fun r o => o = [] ∧ r = i64 (vld p)) := by
  refine Ctr.imp ?_
  refine fn_intro (E := env 0) tys_ok rfl rfl rfl Tryz.func192 (by kernel_rfl) rfl (by kernel_rfl) ?_
  have hpl := pks_len p
  (repeat' (conv => whnf); first | (refine aC (fun _ => ?_) (fun _ => ?_) <;> try (exfalso; omega)) | refine z1_Vr ?_ | fail); all_goals try (conv => whnf)
  · exact ⟨rfl, by unfold vld; rw [if_pos (by omega)]; exact Imp.refl _⟩
  refine LoopOb.mk (Y := Nat) (st := fun i => ⟨[(3, i64 i), (0, .psl 3 (pks p))], []⟩)
    (inv := fun i => i ≤ p.length ∧ vldN p i = 0) (fun i => p.length - i) 0 [] ⟨by omega, rfl⟩ (by (exact aL)) ?_
  rintro i ⟨hi, hv⟩
  (repeat' (conv => whnf); first | refine z1_Vr ?_ | fail); all_goals try (conv => whnf)
  refine CondOb.mk (fun hlt => ?_) (fun hlt => ?_)
  · have hil : i < p.length := by omega
    have hg := pks_get hil
    have hg1 : 0 < i → (pks p)[i - 1]? = some (pkw (p.getD (i - 1) pk0)) := fun h => pks_get (by omega)
    have hs0 : vldN p (i + 1) = if bad (p.getD i pk0) then 2 else if (p.getD i pk0).t < Go.Pk.lst p i then 7 else 0 := by simp only [vldN]; rw [if_neg (by omega)]
    have hs1 : bad (p.getD i pk0) → vldN p (i + 1) = 2 := fun h => by rw [hs0, if_pos h]
    have hs2 : ¬bad (p.getD i pk0) → (p.getD i pk0).t < Go.Pk.lst p i → vldN p (i + 1) = 7 := fun h h' => by rw [hs0, if_neg h, if_pos h']
    have hs3 : ¬bad (p.getD i pk0) → ¬(p.getD i pk0).t < Go.Pk.lst p i → vldN p (i + 1) = 0 := fun h h' => by rw [hs0, if_neg h, if_neg h']
    clear hs0
    have hl : 0 < i → Go.Pk.lst p i = (p.getD (i - 1) pk0).t := fun h => by
      obtain ⟨j, rfl⟩ : ∃ j, i = j + 1 := ⟨i - 1, by omega⟩
      rfl
    have hl0 : i = 0 → Go.Pk.lst p i = 0 := fun h => by subst h; rfl
    have hE : vldN p (i + 1) ≠ 0 → vld p = vldN p (i + 1) := fun h => by
      unfold vld; rw [if_neg (by omega)]; exact vldN_ge (by omega) h
    unfold bad at hs1 hs2 hs3
    generalize p.getD (i - 1) pk0 = z at *
    generalize p.getD i pk0 = x at *
    generalize Go.Pk.lst p i = y at *
    (repeat' (conv => whnf); first | refine ⟨i - 1, _, by omega, hg1 (by omega), ?_⟩ | refine ⟨i, _, rfl, hg, ?_⟩ | (refine aC (fun _ => ?_) (fun _ => ?_) <;> try (exfalso; omega)) | refine z1_Vr ?_ | fail); all_goals try (conv => whnf)
    all_goals first
      | (have e := hs3 (by omega) (by omega)
         exact ⟨i + 1, [], ⟨by omega, e⟩, by omega, by (exact aL)⟩)
      | (have e := hs1 (by omega)
         have e2 := (hE (by omega)).trans e
         rw [e2]
         exact ⟨rfl, Imp.refl _⟩)
      | (have e := hs2 (by omega) (by omega)
         have e2 := (hE (by omega)).trans e
         rw [e2]
         exact ⟨rfl, Imp.refl _⟩)
      | trace_state
  · have e : i = p.length := by omega
    subst e
    (repeat' (conv => whnf); first | (refine aC (fun _ => ?_) (fun _ => ?_) <;> try (exfalso; omega)) | refine z1_Vr ?_ | fail); all_goals try (conv => whnf)
    exact ⟨rfl, by unfold vld; rw [if_neg (by omega), hv]; exact Imp.refl _⟩
end Go.Proofs.YtaomhdljcdadaaaGreat
end
section
namespace Go.Proofs.YtaomhdljcdadaaaGreat
open Go.Sx Go.Pk Go.Mc
set_option maxRecDepth 4000
set_option maxHeartbeats 2000000
def gvn {σ : Type} (p : List Pk) (S : St σ) (i : Nat) : Int := if S.bg i = true then (if cI S.cur = i then (sz p i : Int) - cR S.cur else (sz p i : Nat)) else 0
def RqS {σ : Type} (p : List Pk) (S : St σ) : Prop := ∀ c, S.cur = some c → 1 ≤ c.2 ∧ c.2 ≤ sz p c.1
section
variable {σ : Type} {p : List Pk} {t : Nat} {S : St σ}
theorem bgO_gvn (hp : PL p) (hI : InvT p t S) (hq : RqS p S) {i : Nat} (hi : i < p.length) : bgO (gvn p S) (cI S.cur) i = S.bg i := by
  have hz : 1 ≤ sz p i := by have := (hp.s i hi).1; unfold sz; omega
  unfold bgO
  rw [Bool.eq_iff_iff, decide_eq_true_iff]
  unfold gvn
  cases hb : S.bg i with
  | true =>
    rw [if_pos rfl]
    by_cases e : cI S.cur = i
    · exact ⟨fun _ => rfl, fun _ => .inr e⟩
    · rw [if_neg e]; exact ⟨fun _ => rfl, fun _ => .inl (by omega)⟩
  | false =>
    rw [if_neg (by simp)]
    refine ⟨fun h => ?_, fun h => by cases h⟩
    rcases h with h | h
    · exact absurd rfl h
    · cases hc : S.cur with
      | none => rw [hc] at h; unfold cI at h; simp only at h; omega
      | some c =>
        rw [hc] at h
        have e : c.1 = i := by unfold cI at h; simp only at h; omega
        have := (hI.c c.1 c.2 hc).1
        rw [e, hb] at this; cases this
theorem wt_gvn (hp : PL p) (hI : InvT p t S) (hq : RqS p S) (i : Nat) : wt p t (bgO (gvn p S) (cI S.cur)) i = wt p t S.bg i := by
 by_cases hi : i < p.length
 ·unfold wt; rw [bgO_gvn hp hI hq hi]
 ·unfold wt; simp [hi]
theorem gvn_new {s' : σ} {i : Nat} (hc : S.cur = none) (hb : S.bg i = false) : gvn p (⟨s', some (i, sz p i), upd S.bg i true, S.dn⟩ : St σ) = gvn p S := funext fun j => by
 unfold gvn
 by_cases e : j = i
 ·subst e
  simp only [upd_same, cI, cR, hb, if_true, Bool.false_eq_true, if_false]; omega
 ·have h1 : ¬((i : Int) = j) := by omega
  have h2 : ¬((-1 : Int) = j) := by omega
  simp only [hc, upd_ne e, cI, cR, h1, h2, if_false]
theorem gvn_non {s' : σ} (hc : S.cur = none) : gvn p (⟨s', none, S.bg, S.dn⟩ : St σ) = gvn p S := by
 unfold gvn
 rw [hc]
theorem gvn_at {i r : Nat} (hI : InvT p t S) (hc : S.cur = some (i, r)) : gvn p S i = (sz p i : Int) - r := by
 unfold gvn
 simp only [(hI.c i r hc).1, hc, cI, cR, if_true]
theorem gvn_fi {i r : Nat} (hI : InvT p t S) (hc : S.cur = some (i, r)) : gvn p (S.fi i t) = upd (gvn p S) i (sz p i : Nat) := funext fun j => by
 have hb := (hI.c i r hc).1
 by_cases e : j = i
 ·subst e
  have h2 : ¬((-1 : Int) = j) := by omega
  unfold gvn
  simp only [upd_same, cI, hb, h2, if_true, if_false]
 ·have h1 : ¬((i : Int) = j) := by omega
  have h2 : ¬((-1 : Int) = j) := by omega
  rw [upd_ne e]
  unfold gvn
  simp only [hc, cI, h1, h2, if_false]
theorem gvn_cu {i r r' : Nat} (hI : InvT p t S) (hc : S.cur = some (i, r)) : gvn p (S.cu (some (i, r'))) = upd (gvn p S) i ((sz p i : Int) - r') := funext fun j => by
 have hb := (hI.c i r hc).1
 by_cases e : j = i
 ·subst e
  unfold gvn
  simp only [upd_same, cI, cR, hb, if_true]
 ·have h1 : ¬((i : Int) = j) := by omega
  rw [upd_ne e]
  unfold gvn
  simp only [hc, cI, h1, if_false]
theorem RqS.new {s' : σ} {i : Nat} (hp : PL p) (hi : i < p.length) : RqS p (⟨s', some (i, sz p i), upd S.bg i true, S.dn⟩ : St σ) := fun c hc => by
 simp only [Option.some.injEq] at hc
 subst hc
 have := (hp.s i hi).1
 exact ⟨by unfold sz; simp only; omega, Nat.le_refl _⟩
end
structure RnD (C : Ch) (p : List Pk) (c N T t : Nat) (ms : List (List Int)) : Prop where
 tt : t ≤ T
 m : Sn N (fun _ => t + 1) (4000 * t) ms
 q : RqS p (run C p c t)
structure TkD (C : Ch) (p : List Pk) (c N t left : Nat) (S : St C.σ) (ms : List (List Int)) : Prop where
 l : left ≤ 4000
 m : Sn N (fun _ => t + 2) (4000 * (t + 1) - left) ms
 q : RqS p S
 i : InvT p t S
 k : tk C p t left S = run C p c (t + 1)
 v : Rch C p S.s
theorem RnD.of {C : Ch} {p : List Pk} {c N T t : Nat} {ms : List (List Int)} {S : St C.σ} {B : Int} (hT : t < T) (e : run C p c (t + 1) = S) (hm : Sn N (fun _ => t + 2) B ms) (hB2 : B ≤ 4000 * (t + 1)) (hq : RqS p S) : RnD C p c N T (t + 1) ms :=
 ⟨hT, hm.up (by omega), by rw [e]; exact hq⟩
theorem aP_S14 {A B K : Prop} (k : K) (a : A := by (simp only [zA, zT, zD, zC, zN, ints_len, zR, Go.Cv.vals_len]; omega)) (b : B := by (simp only [zA, zT, zD, zC, zN, ints_len, zR, Go.Cv.vals_len]; omega)) : (A ∧ B) ∧ K := ⟨⟨a, b⟩, k⟩
theorem z1_S14 {G H : Prop} (k : H) (h : H → G := by first | exact fun r => aS r | exact fun r => aG r | exact fun r => aD r | exact fun r => aH r | exact fun r => aP_S14 r | exact fun r => aI r | exact fun r => aJ r) : G := h k
theorem RBad_ok (p : List Pk) (c N T : Nat) (h : FitP p c N T) : Ctr Tryz.prog 162 [i64 c, i64 N, .psl 3 (pks p), i64 T] [] (fun r o => o = [] ∧ r = i64 0) := by
 refine fn_intro (E := env 0) tys_ok rfl rfl rfl Tryz.func162 (by kernel_rfl) rfl (by kernel_rfl) ?_
 have hpl := pks_len p
 have h60 := h.hp.l
 have := h.c1; have := h.c2; have := h.n1; have := h.n2; have := h.t
 (repeat' (conv => whnf); first | (refine aC (fun _ => ?_) (fun _ => ?_) <;> try (exfalso; omega)) | refine z1_S14 ?_ | fail); all_goals try (conv => whnf)
 refine aK [] (rVal13_ok p (by omega)) ?_
 rw [h.vld]
 (repeat' (conv => whnf); first | (refine aC (fun _ => ?_) (fun _ => ?_) <;> try (exfalso; omega)) | refine z1_S14 ?_ | fail); all_goals try (conv => whnf)
 refine LoopOb.mk (Y := Nat) (st := fun i => ⟨[(10, i64 i), (2, .psl 3 (pks p)), (1, i64 N)], []⟩)
  (inv := fun i => i ≤ p.length) (fun i => p.length - i) 0 [] (by omega) (by (exact aL)) ?_
 rintro i hi
 by_cases hil : i < p.length
 ·have hg := pks_get hil
  have hc := h.cl i hil
  unfold Mc.cl at hc
  generalize p.getD i pk0 = x at *
  (repeat' (conv => whnf); first | refine ⟨i, _, rfl, hg, ?_⟩ | (refine aC (fun _ => ?_) (fun _ => ?_) <;> try (exfalso; omega)) | refine z1_S14 ?_ | fail); all_goals try (conv => whnf)
  exact ⟨i + 1, [], by omega, by omega, by (exact aL)⟩
 ·(repeat' (conv => whnf); first | (refine aC (fun _ => ?_) (fun _ => ?_) <;> try (exfalso; omega)) | refine z1_S14 ?_ | fail); all_goals try (conv => whnf)
  exact ⟨rfl, rfl⟩
end Go.Proofs.YtaomhdljcdadaaaGreat
end
