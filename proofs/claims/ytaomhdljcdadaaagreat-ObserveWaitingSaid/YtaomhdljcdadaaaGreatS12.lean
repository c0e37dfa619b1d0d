/- Lemmas that the proofs of this seat use (S12 S13 S2p S2s S2r S2d). Conditions: those that stand in each theorem. -/
import Derived.Test.YtaomhdljcdadaaaGreatS2
set_option linter.unusedVariables false
set_option linter.unusedSimpArgs false
section
namespace Go.Proofs.YtaomhdljcdadaaaGreat
open Go.Sx Go.Pk Go.Mc
set_option maxRecDepth 4000
set_option maxHeartbeats 2000000
theorem ivs_app (i : Nat) (f : Nat → Int) : ivs (i + 1) f = ivs i f ++ [[i64 (f i)]] := by simp [ivs, List.range_succ]
theorem rw0_rep (k : Nat) : rw0 k k = List.replicate k [0] := by
 refine List.ext_getElem (by simp [rw0]) fun i h1 h2 => ?_
 simp [rw0] at h1 ⊢; omega
theorem rw0_app (k : Nat) : mtz (rw0 (k + 1) (k + 1)) = mtz (rw0 k k) ++ [[[i64 0]]] := by
 rw [rw0_rep, rw0_rep, List.replicate_succ', mtz, List.map_append]; rfl
theorem aP_S12 {A B K : Prop} (k : K) (a : A := by (simp only [zA, zT, zD, zC, zN, ints_len, zR, Go.Cv.vals_len]; omega)) (b : B := by (simp only [zA, zT, zD, zC, zN, ints_len, zR, Go.Cv.vals_len]; omega)) : (A ∧ B) ∧ K := ⟨⟨a, b⟩, k⟩
theorem z2_S12 {G H : Prop} (k : H) (h : H → G := by first | exact fun r => aS r | exact fun r => aG r | exact fun r => aD r | exact fun r => aH r | exact fun r => aP_S12 r | exact fun r => aI r | exact fun r => aJ r) : G := h k
theorem z1_S12 {G H : Prop} (k : H) (h : H → G := by first | exact fun r => aS r | exact fun r => aG r | exact fun r => aD r | exact fun r => aP_S12 r | exact fun r => aI r | exact fun r => aJ r) : G := h k
theorem RNew_ok (N : Nat) (hN : 1 ≤ N) (hN2 : N ≤ 6) (p : List Pk) (hp : p.length ≤ 60) :
  Ctr Tryz.prog 163 [i64 N, .psl 3 (pks p)] [] (fun r o => o = stO p.length (fun _ => 0) (fun _ => -1) (rw0 N N) ++ [.box [i64 0, .vec 0, i64 (-1), .vec 1, .vec 2]] ∧ r = stV 0 (-1)) := by
 refine fn_intro (E := env 0) tys_ok rfl rfl rfl Tryz.func163 (by kernel_rfl) rfl (by kernel_rfl) ?_
 have hpl := pks_len p
 (repeat' (conv => whnf); first | (refine aC (fun _ => ?_) (fun _ => ?_) <;> try (exfalso; omega)) | refine z1_S12 ?_ | refine ⟨_, _, rfl, rfl, Nat.le_refl _, ⟨by (simp only; omega), by omega⟩, ?_⟩ | fail); all_goals try (conv => whnf)
 have hr : List.replicate (pks p).length [i64 0] = ivs p.length (fun _ => 0) := by rw [hpl]; exact ivs_rep _ 0
 have hil := fun (m : Nat) (f : Nat → Int) => ivs_len m f
 refine .mk [.nb 2 3 1, .nm 2 4 1] ?_
 refine LoopOb.mk (Y := Nat) (st := fun i => ⟨[(6, i64 i), (5, .ptr 2 0), (4, .ptr 0 0), (0, i64 N), (1, .psl 3 (pks p))], [.box [i64 0, .nil, i64 0, .nil, .nil], .vec 1 (ivs p.length (fun _ => 0)), .box [i64 0, .vec 1, i64 (-1), .vec 3, .vec 4], .vec 1 (ivs i (fun _ => -1)), .mat 1 []]⟩)
  (inv := fun i => i ≤ p.length) (fun i => p.length - i) 0 [0, 1, 2, 3, 4] (by omega) (by rw [← hr]; (exact aL)) ?_
 rintro i hi
 have h1 := hil i (fun _ => -1)
 by_cases hlt : i < p.length
 ·(repeat' (conv => whnf); first | (refine aC (fun _ => ?_) (fun _ => ?_) <;> try (exfalso; omega)) | refine z2_S12 ?_ | fail); all_goals try (conv => whnf)
  exact ⟨i + 1, [0, 1, 2, 6, 4], by omega, by omega, by rw [ivs_app]; (exact aL)⟩
 ·obtain rfl : i = p.length := by omega
  (repeat' (conv => whnf); first | (refine aC (fun _ => ?_) (fun _ => ?_) <;> try (exfalso; omega)) | refine z2_S12 ?_ | fail); all_goals try (conv => whnf)
  have hml := fun k => (mtz_len (rw0 k k)).trans (rw0_len k k)
  refine LoopOb.mk (Y := Nat) (st := fun k => ⟨[(7, i64 k), (5, .ptr 2 0), (4, .ptr 0 0), (0, i64 N), (1, .psl 3 (pks p))], [.box [i64 0, .nil, i64 0, .nil, .nil], .vec 1 (ivs p.length (fun _ => 0)), .box [i64 0, .vec 1, i64 (-1), .vec 3, .vec 4], .vec 1 (ivs p.length (fun _ => -1)), .mat 1 (mtz (rw0 k k))]⟩)
   (inv := fun k => k ≤ N) (fun k => N - k) 0 [0, 1, 2, 3, 4] (by omega) (by (exact aL)) ?_
  rintro k hk
  have h2 := hml k
  by_cases hlt : k < N
  ·(repeat' (conv => whnf); first | (refine aC (fun _ => ?_) (fun _ => ?_) <;> try (exfalso; omega)) | refine z2_S12 ?_ | fail); all_goals try (conv => whnf)
   exact ⟨k + 1, [0, 1, 2, 3, 7], by omega, by omega, by rw [rw0_app]; (exact aL)⟩
  ·obtain rfl : N = k := by omega
   (repeat' (conv => whnf); first | (refine aC (fun _ => ?_) (fun _ => ?_) <;> try (exfalso; omega)) | refine z1_S12 ?_ | fail); all_goals try (conv => whnf)
   refine .mk [.wk [1, 3, 4, 0] ⟨[(4, .ptr 3 0)], stO p.length (fun _ => 0) (fun _ => -1) (rw0 N N) ++ [.box [i64 0, .vec 0, i64 (-1), .vec 1, .vec 2]]⟩] ⟨by (exact aL), ?_⟩
   (repeat' (conv => whnf); first | (refine aC (fun _ => ?_) (fun _ => ?_) <;> try (exfalso; omega)) | refine z1_S12 ?_ | fail); all_goals try (conv => whnf)
   exact ⟨rfl, rfl⟩
end Go.Proofs.YtaomhdljcdadaaaGreat
end
section
namespace Go.Proofs.YtaomhdljcdadaaaGreat
open Go.Sx Go.Pk Go.Mc
set_option maxRecDepth 4000
set_option maxHeartbeats 2000000
theorem aP_S13 {A B K : Prop} (k : K) (a : A := by (simp only [zA, zT, zD, zC, zN, ints_len, zR, Go.Cv.vals_len]; omega)) (b : B := by (simp only [zA, zT, zD, zC, zN, ints_len, zR, Go.Cv.vals_len]; omega)) : (A ∧ B) ∧ K := ⟨⟨a, b⟩, k⟩
theorem RSend_ok (N T : Nat) (hN2 : N ≤ 6) (hT : T ≤ 2000) (B : Int) (hB : B ≤ 10000000) (p : List Pk) (hp : PL p) (hcl : ∀ i, i < p.length → 0 ≤ cl p i ∧ cl p i < N) (t i g : Nat) (G dn : Nat → Int) (ms : List (List Int)) (hS : Sn N (fun _ => T + 2) B ms)
  (hi : i < p.length) (hg : G i = g) (hgs : g < sz p i) (left : Nat) (hl : 1 ≤ left) (hl2 : left ≤ 4000) :
  Ctr Tryz.prog 166 [stV t i, .psl 3 (pks p), i64 left] (stO p.length G dn ms) (fun r o => ∃ m2,
   (sz p i ≤ g + left ∧ Sn N (fun _ => T + 2) (B + (sz p i - g : Nat)) m2 ∧ o = [.vec 1 (ivs p.length G), .vec 1 (ivs p.length dn), .mat 1 (mtz m2), .box [i64 t, .vec 5, i64 (-1), .vec 6, .vec 2], .box [i64 t, .vec 5, i64 (-1), .vec 6, .vec 2], .vec 1 (ivs p.length (upd G i (sz p i))), .vec 1 (ivs p.length (upd dn i t))] ∧ r = .tup [.agg [i64 t, .vec 5, i64 (-1), .vec 6, .vec 2], i64 (sz p i - g : Nat)]) ∨
   (g + left < sz p i ∧ Sn N (fun _ => T + 2) (B + left) m2 ∧ o = [.vec 1 (ivs p.length G), .vec 1 (ivs p.length dn), .mat 1 (mtz m2), .box [i64 t, .vec 5, i64 i, .vec 1, .vec 2], .box [i64 t, .vec 5, i64 i, .vec 1, .vec 2], .vec 1 (ivs p.length (upd G i (g + left : Nat)))] ∧ r = .tup [.agg [i64 t, .vec 5, i64 i, .vec 1, .vec 2], i64 left])) := by
 refine fn_intro (E := env 3) tys_ok rfl rfl rfl Tryz.func166 (by kernel_rfl) rfl (by kernel_rfl) ?_
 have hpl := pks_len p
 have h60 := hp.l
 have hgp := pks_get hi
 obtain ⟨z1, z2⟩ := hp.s i hi
 have hzI : ((sz p i : Nat) : Int) = (p.getD i pk0).s := by unfold sz; omega
 have gg := ivs_get (f := G) hi
 have gd := ivs_get (f := dn) hi
 have hil := fun (m : Nat) (f : Nat → Int) => ivs_len m f
 have hi1 := hil p.length G
 have hi2 := hil p.length dn
 obtain ⟨q, hqe⟩ : ∃ q : Nat, cl p i = q := ⟨(cl p i).toNat, by have := (hcl i hi).1; omega⟩
 have hqN : q < N := by have := (hcl i hi).2; omega
 have hgr := mtz_get (ms := ms) (c := q) (by have := hS.l; omega)
 have hrl := hS.r q hqN
 have hrv := hS.v q hqN
 have hml := (mtz_len ms).trans hS.l
 generalize ms.getD q [] = row at *
 have hil2 := ints_len row
 have hgv := ints_get (l := row) (j := T + 1) (by omega)
 generalize hvv : row.getD (T + 1) 0 = v at *
 have hv1 := hrv (T + 1)
 rw [hvv] at hv1
 rw [show cl p i = (p.getD i pk0).f from rfl] at hqe
 generalize p.getD i pk0 = x at *
 rw [hg] at gg
 have hst := fun B' (hB' : B ≤ B') r h1 h3 => hS.set (B' := B') (len' := fun _ => T + 2) hB' hqN (r := r) h1 (fun j hj => rfl) h3
 have hsv : ∀ n : Int, 0 ≤ n → ∀ j, 0 ≤ (row.set (T + 1) (v + n)).getD j 0 ∧ (row.set (T + 1) (v + n)).getD j 0 ≤ B + n := fun n h1 j => by
  rw [getD_setI (by omega)]
  split
  ·omega
  ·have := hrv j; omega
 have hsl : ∀ n : Int, (row.set (T + 1) (v + n)).length = T + 2 := fun n => by rw [List.length_set]; omega
 have hse : ∀ n : Int, (mtz ms).set q ((ints row).set (T + 1) [i64 (v + n)]) = mtz (ms.set q (row.set (T + 1) (v + n))) := fun n => by rw [← mtz_set]; simp [ints, List.map_set]
 have hu := fun n => hil p.length (upd G i n)
 have gu := fun n : Int => ivs_get (f := upd G i n) hi
 simp only [upd_same] at gu
 by_cases hfin : sz p i ≤ g + left
 ·have hmin : min (left : Int) (x.s - g) = x.s - g := by omega
  (repeat' (conv => whnf); first | refine ⟨i, _, rfl, hgp, ?_⟩ | (refine aC (fun _ => ?_) (fun _ => ?_) <;> try (exfalso; omega)) | refine aS ?_ | refine aG ?_ | refine aD ?_ | refine aH ?_ | refine aP_S13 ?_ | refine aI ?_ | refine aJ ?_ | refine ⟨_, _, rfl, rfl, Nat.le_refl _, ⟨by (simp only; omega), by omega⟩, ?_⟩ | refine aW (.qs [0, 1, 2, 3, 4, 5, 6, 7, 8, 9, 10, 11, 12, 13] .nil) ?_ | refine aW (.qs [0, 1, 2, 3, 4, 5, 6, 7, 8, 9, 10] .nil) ?_ | refine aW (.qs [0, 1, 2, 3, 4, 5, 6, 7, 8, 9] .nil) ?_ | refine ⟨i, rfl, by omega, ?_⟩ | refine ⟨_, gg, ?_⟩ | refine And.intro ⟨by simp only; omega, by omega⟩ ?_ | refine ⟨q, hqe, by omega, ?_⟩ | refine And.intro (show q < (mtz ms).length by omega) ?_ | refine ⟨T + 1, _, by omega, hgr, by omega, ?_⟩ | refine ⟨_, _, hgr, hgv, ?_⟩ | refine ⟨_, hgr, ?_⟩ | fail); all_goals try (conv => whnf)
  rw [hmin, show (g : Int) + (x.s - g) = (sz p i : Nat) by omega, ivs_set, hse]
  have hu1 := hu (sz p i : Nat)
  have gu1 := gu (sz p i : Nat)
  (repeat' (conv => whnf); first | refine ⟨i, _, rfl, hgp, ?_⟩ | (refine aC (fun _ => ?_) (fun _ => ?_) <;> try (exfalso; omega)) | refine aS ?_ | refine aG ?_ | refine aD ?_ | refine aH ?_ | refine aP_S13 ?_ | refine aI ?_ | refine aJ ?_ | refine ⟨_, _, rfl, rfl, Nat.le_refl _, ⟨by (simp only; omega), by omega⟩, ?_⟩ | refine aW (.qs [0, 1, 2, 3, 4, 5, 6, 7, 8, 9, 10, 11, 12, 13] .nil) ?_ | refine aW (.qs [0, 1, 2, 3, 4, 5, 6, 7, 8, 9, 10] .nil) ?_ | refine aW (.qs [0, 1, 2, 3, 4, 5, 6, 7, 8, 9] .nil) ?_ | refine ⟨i, rfl, by omega, ?_⟩ | refine ⟨_, gu1, ?_⟩ | refine And.intro ⟨by simp only; omega, by omega⟩ ?_ | refine ⟨i, rfl, by omega, ?_⟩ | refine ⟨_, gd, ?_⟩ | fail); all_goals try (conv => whnf)
  exact ⟨ms.set q (row.set (T + 1) (v + (x.s - g))), .inl ⟨hfin, hst (B + (sz p i - g : Nat)) (by omega) _ (hsl _) (fun j => by have := hsv (x.s - g) (by omega) j; omega), by dsimp only; rw [ivs_set], by rw [show ((sz p i - g : Nat) : Int) = x.s - g by omega]; rfl⟩⟩
 ·have hmin : min (left : Int) (x.s - g) = left := by omega
  (repeat' (conv => whnf); first | refine ⟨i, _, rfl, hgp, ?_⟩ | (refine aC (fun _ => ?_) (fun _ => ?_) <;> try (exfalso; omega)) | refine aS ?_ | refine aG ?_ | refine aD ?_ | refine aH ?_ | refine aP_S13 ?_ | refine aI ?_ | refine aJ ?_ | refine ⟨_, _, rfl, rfl, Nat.le_refl _, ⟨by (simp only; omega), by omega⟩, ?_⟩ | refine aW (.qs [0, 1, 2, 3, 4, 5, 6, 7, 8, 9, 10, 11, 12, 13] .nil) ?_ | refine aW (.qs [0, 1, 2, 3, 4, 5, 6, 7, 8, 9, 10] .nil) ?_ | refine aW (.qs [0, 1, 2, 3, 4, 5, 6, 7, 8, 9] .nil) ?_ | refine ⟨i, rfl, by omega, ?_⟩ | refine ⟨_, gg, ?_⟩ | refine And.intro ⟨by simp only; omega, by omega⟩ ?_ | refine ⟨q, hqe, by omega, ?_⟩ | refine And.intro (show q < (mtz ms).length by omega) ?_ | refine ⟨T + 1, _, by omega, hgr, by omega, ?_⟩ | refine ⟨_, _, hgr, hgv, ?_⟩ | refine ⟨_, hgr, ?_⟩ | fail); all_goals try (conv => whnf)
  rw [hmin, show (g : Int) + left = (g + left : Nat) by omega, ivs_set, hse]
  have hu1 := hu (g + left : Nat)
  have gu1 := gu (g + left : Nat)
  (repeat' (conv => whnf); first | refine ⟨i, _, rfl, hgp, ?_⟩ | (refine aC (fun _ => ?_) (fun _ => ?_) <;> try (exfalso; omega)) | refine aS ?_ | refine aG ?_ | refine aD ?_ | refine aH ?_ | refine aP_S13 ?_ | refine aI ?_ | refine aJ ?_ | refine ⟨_, _, rfl, rfl, Nat.le_refl _, ⟨by (simp only; omega), by omega⟩, ?_⟩ | refine aW (.qs [0, 1, 2, 3, 4, 5, 6, 7, 8, 9, 10, 11, 12, 13] .nil) ?_ | refine aW (.qs [0, 1, 2, 3, 4, 5, 6, 7, 8, 9, 10] .nil) ?_ | refine aW (.qs [0, 1, 2, 3, 4, 5, 6, 7, 8, 9] .nil) ?_ | refine ⟨i, rfl, by omega, ?_⟩ | refine ⟨_, gu1, ?_⟩ | fail); all_goals try (conv => whnf)
  exact ⟨_, .inr ⟨by omega, hst (B + left) (by omega) _ (hsl _) (fun j => hsv left (by omega) j), rfl, rfl⟩⟩
end Go.Proofs.YtaomhdljcdadaaaGreat
end
section
namespace Go.Proofs.YtaomhdljcdadaaaGreat
open Go.Sx Go.Pk Go.Mc
set_option maxRecDepth 4000
set_option maxHeartbeats 2000000
theorem pri_none {f : Int → Option Nat} : ∀ {n : Nat}, pri f n = none ↔ ∀ c : Nat, c < n → f c = none
  | 0 => by simp [pri]
  | n + 1 => by
    simp only [pri]
    cases h : pri f n with
    | some i =>
      obtain ⟨c, h1, h2⟩ := pri_some h
      simp only [reduceCtorEq, false_iff]
      intro h3
      rw [h3 c (by omega)] at h2; cases h2
    | none =>
      have ih := pri_none.1 h
      simp only
      constructor
      · intro h2 c hc
        by_cases e : c = n
        · subst e; exact h2
        · exact ih c (by omega)
      · intro h2; exact h2 n (by omega)
theorem pri_le {f : Int → Option Nat} {c : Nat} {i : Nat} (h : ∀ d : Nat, d < c → f d = none) (hi : f c = some i) : ∀ {n : Nat}, c < n → pri f n = some i
  | 0, h2 => by omega
  | n + 1, h2 => by
    simp only [pri]
    by_cases e : c = n
    · subst e
      rw [pri_none.2 h]; exact hi
    · rw [pri_le h hi (n := n) (by omega)]
end Go.Proofs.YtaomhdljcdadaaaGreat
end
section
namespace Go.Proofs.YtaomhdljcdadaaaGreat
open Go.Sx Go.Pk Go.Mc
set_option maxRecDepth 4000
set_option maxHeartbeats 2000000
theorem ahd_step {tb : List Int} {c : Int} {t : Nat} {n k : Nat} (h : ∀ j, j < n → tb.getD ((t + j) % tb.length) 0 = c) (hn : tb.getD ((t + n) % tb.length) 0 ≠ c) : n < k → ahd tb c t k = some n := by
  have h0 : ∀ m, m ≤ n → ahd tb c t m = none := by
    intro m
    induction m with
    | zero => intro _; rfl
    | succ m ih => intro hm; rw [ahd, ih (by omega)]; simp only; rw [if_neg (by rw [h m (by omega)]; simp)]
  induction k with
  | zero => intro hk; omega
  | succ k ih =>
    intro hk
    by_cases e : n = k
    · subst e; rw [ahd, h0 n (by omega)]; simp only; rw [if_pos hn]
    · rw [ahd, ih (by omega)]
theorem ahd_none {tb : List Int} {c : Int} {t : Nat} : ∀ {n : Nat}, (∀ j, j < n → tb.getD ((t + j) % tb.length) 0 = c) → ahd tb c t n = none
 |0, _ => rfl
 |n + 1, h => by rw [ahd, ahd_none fun j hj => h j (by omega)]; simp only; rw [if_neg (by rw [h n (by omega)]; simp)]
theorem ahd_lt {tb : List Int} {c : Int} {t : Nat} : ∀ {k n : Nat}, ahd tb c t k = some n → n < k
  | 0, n, h => by cases h
  | k + 1, n, h => by
    simp only [ahd] at h
    split at h
    · rename_i j hj
      have := ahd_lt hj
      simp only [Option.some.injEq] at h
      omega
    · split at h
      · simp only [Option.some.injEq] at h; omega
      · cases h
end Go.Proofs.YtaomhdljcdadaaaGreat
end
section
namespace Go.Proofs.YtaomhdljcdadaaaGreat
open Go.Sx Go.Pk Go.Mc
set_option maxRecDepth 4000
set_option maxHeartbeats 2000000
structure WgP (wl : List Int) (N : Nat) (M : Int) : Prop where
 l : wl.length = N
 w : ∀ c, c < N → 1 ≤ wl.getD c 0 ∧ wl.getD c 0 ≤ M
theorem rob_st {f : Int → Option Nat} {wl : Nat → Int} {N : Nat} {M : Int} (hN : 1 ≤ N) (hw : ∀ c, c < N → 1 ≤ wl c ∧ wl c ≤ M) : ∀ {k : Nat} {s : Nat × Int}, s.1 < N → 0 ≤ s.2 ∧ s.2 ≤ M → (rob f wl N k s).1.1 < N ∧ 0 ≤ (rob f wl N k s).1.2 ∧ (rob f wl N k s).1.2 ≤ M
  | 0, s, h1, h2 => ⟨h1, h2⟩
  | k + 1, s, h1, h2 => by
    have h3 : (s.1 + 1) % N < N := Nat.mod_lt _ hN
    have h4 := hw _ h3
    have ih := rob_st (f := f) hN hw (k := k) (s := ((s.1 + 1) % N, wl ((s.1 + 1) % N))) h3 ⟨by simp only; omega, h4.2⟩
    simp only [rob]
    split
    · split
      · exact ⟨h1, by simp only; omega, by simp only; omega⟩
      · exact ih
    · exact ih
theorem rob_rch {wl : List Int} {N : Nat} {M : Int} (hN : 1 ≤ N) (hw : WgP wl N M) {p : List Pk} {s : (robinC wl).σ} (h : Rch (robinC wl) p s) : (s : Nat × Int).1 < N ∧ 0 ≤ (s : Nat × Int).2 ∧ (s : Nat × Int).2 ≤ M := by
  induction h with
  | z => exact ⟨hN, by have := hw.w 0 (by omega); exact ⟨by show (0 : Int) ≤ wl.getD 0 0; omega, this.2⟩⟩
  | @s t l w s _ ih =>
    show (Ch.ch (robinC wl) p t l w s).1.1 < N ∧ _
    simp only [robinC]
    split
    · exact ih
    · split
      · rw [hw.l]
        exact rob_st hN (fun c hc => hw.w c hc) ih.1 ih.2
      · exact ih
end Go.Proofs.YtaomhdljcdadaaaGreat
end
section
namespace Go.Proofs.YtaomhdljcdadaaaGreat
open Go.Sx Go.Pk Go.Mc
set_option maxRecDepth 4000
set_option maxHeartbeats 2000000
structure QtP (q : List Int) (N : Nat) : Prop where
 l : q.length = N
 w : ∀ c, c < N → 1 ≤ q.getD c 0 ∧ q.getD c 0 ≤ 6000
structure DfP (N : Nat) (s : Df) : Prop where
 c : s.c < N
 d : ∀ c, 0 ≤ s.d c ∧ s.d c ≤ 7500
 o : ∀ c, (c ≠ s.c ∨ s.b = false) → s.d c ≤ 1500
theorem DfP.q {N : Nat} {q : Nat → Int} (hq : ∀ c, c < N → 1 ≤ q c ∧ q c ≤ 6000) {s : Df} (h : DfP N s) : (∀ c, 0 ≤ dq q s c ∧ dq q s c ≤ 7500) ∧ (∀ c, c ≠ s.c → dq q s c = s.d c) := by
 unfold dq
 split
 ·exact ⟨h.d, fun _ _ => rfl⟩
 ·rename_i hb
  have hb : s.b = false := by simpa using hb
  refine ⟨fun c => ?_, fun c hc => upd_ne hc⟩
  by_cases e : c = s.c
  ·subst e; rw [upd_same]; have := h.d s.c; have := hq _ h.c; have := h.o s.c (.inr hb); omega
  ·rw [upd_ne e]; exact h.d c
theorem DfP.n {N : Nat} {q : Nat → Int} (hN : 1 ≤ N) (hq : ∀ c, c < N → 1 ≤ q c ∧ q c ≤ 6000) {s : Df} (h : DfP N s) (hz : dq q s s.c ≤ 1500) : DfP N ⟨(s.c + 1) % N, false, dq q s⟩ := by
 obtain ⟨h1, h3⟩ := h.q hq
 refine ⟨Nat.mod_lt _ hN, h1, fun c _ => ?_⟩
 dsimp only
 by_cases e : c = s.c
 ·subst e; exact hz
 ·rw [h3 c e]; exact h.o c (.inl e)
theorem DfP.e {N : Nat} (hN : 1 ≤ N) {s : Df} (h : DfP N s) : DfP N ⟨(s.c + 1) % N, false, upd s.d s.c 0⟩ := by
 refine ⟨Nat.mod_lt _ hN, fun c => ?_, fun c _ => ?_⟩
 ·dsimp only
  by_cases e : c = s.c
  ·subst e; rw [upd_same]; omega
  ·rw [upd_ne e]; exact h.d c
 ·dsimp only
  by_cases e : c = s.c
  ·subst e; rw [upd_same]; omega
  ·rw [upd_ne e]; exact h.o c (.inl e)
theorem DfP.t {N : Nat} {q : Nat → Int} (hq : ∀ c, c < N → 1 ≤ q c ∧ q c ≤ 6000) {s : Df} (h : DfP N s) {z : Int} (h0 : 0 ≤ z) (hz : z ≤ dq q s s.c) : DfP N ⟨s.c, true, upd (dq q s) s.c (dq q s s.c - z)⟩ := by
 obtain ⟨h1, h3⟩ := h.q hq
 refine ⟨h.c, fun c => ?_, fun c ho => ?_⟩
 ·dsimp only
  by_cases e : c = s.c
  ·subst e; rw [upd_same]; have := h1 s.c; omega
  ·rw [upd_ne e]; exact h1 c
 ·dsimp only at ho ⊢
  have e : c ≠ s.c := by
   rcases ho with h | h
   ·exact h
   ·cases h
  rw [upd_ne e, h3 c e]; exact h.o c (.inl e)
theorem dfc_st {f : Int → Option Nat} {z : Nat → Nat} {q : Nat → Int} {N : Nat} (hN : 1 ≤ N) (hq : ∀ c, c < N → 1 ≤ q c ∧ q c ≤ 6000) (hz : ∀ c i, f c = some i → z i ≤ 1500) : ∀ {k : Nat} {s : Df}, DfP N s → DfP N (dfc f z q N k s).1
  | 0, s, h => h
  | k + 1, s, h => by
    simp only [dfc]
    split
    · rename_i i hi
      have := hz _ _ hi
      split
      · rename_i hle
        exact h.t hq (by omega) hle
      · exact dfc_st hN hq hz (h.n hN hq (by omega))
    · exact dfc_st hN hq hz (h.e hN)
theorem dfc_rch {q : List Int} {N : Nat} (hN : 1 ≤ N) (hq : QtP q N) {p : List Pk} (hp : PL p) {s : (defC q).σ} (h : Rch (defC q) p s) : DfP N s := by
  induction h with
  | z => exact ⟨hN, fun c => ⟨Int.le_refl _, by show (0 : Int) ≤ 7500; omega⟩, fun c _ => by show (0 : Int) ≤ 1500; omega⟩
  | @s t l w s _ ih =>
    show DfP N (Ch.ch (defC q) p t l w s).1
    simp only [defC]
    split
    · exact ih
    · split
      · rw [hq.l]
        exact dfc_st hN (fun c hc => hq.w c hc) (fun c i hi => by have := hp.s i (fc_some.1 hi).1; unfold sz; omega) ih
      · exact ih
end Go.Proofs.YtaomhdljcdadaaaGreat
end
