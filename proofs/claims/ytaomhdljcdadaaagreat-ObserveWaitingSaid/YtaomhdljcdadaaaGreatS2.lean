/- Lemmas that the proofs of this seat use (S2 S10 S11). Conditions: those that stand in each theorem. -/
import Derived.Test.YtaomhdljcdadaaaGreatMob
set_option linter.unusedVariables false
set_option linter.unusedSimpArgs false
section
namespace Go.Proofs.YtaomhdljcdadaaaGreat
open Go.Sx Go.Pk Go.Mc
set_option maxRecDepth 4000
set_option maxHeartbeats 2000000
structure Sn (N : Nat) (len : Nat → Nat) (B : Int) (ms : List (List Int)) : Prop where
 l : ms.length = N
 r : ∀ c, c < N → (ms.getD c []).length = len c
 v : ∀ c, c < N → ∀ k, 0 ≤ (ms.getD c []).getD k 0 ∧ (ms.getD c []).getD k 0 ≤ B
abbrev mtz (ms : List (List Int)) : List (List (List SV)) := ms.map ints
theorem mtz_len (ms : List (List Int)) : (mtz ms).length = ms.length := by simp [mtz]
theorem mtz_get {ms : List (List Int)} {c : Nat} (h : c < ms.length) : (mtz ms)[c]? = some (ints (ms.getD c [])) := by simp [mtz, h]
theorem mtz_set {ms : List (List Int)} {c : Nat} {r : List Int} : (mtz ms).set c (ints r) = mtz (ms.set c r) := by simp [mtz, List.map_set]
theorem Sn.set {N : Nat} {len len' : Nat → Nat} {B B' : Int} {ms : List (List Int)} (h : Sn N len B ms) (hB : B ≤ B') {c : Nat} (hc : c < N) {r : List Int} (h1 : r.length = len' c) (h2 : ∀ k, k ≠ c → len' k = len k) (h3 : ∀ k, 0 ≤ r.getD k 0 ∧ r.getD k 0 ≤ B') : Sn N len' B' (ms.set c r) := by
 have hl := h.l
 have key : ∀ k, k < N → (ms.set c r).getD k [] = if k = c then r else ms.getD k [] := fun k hk => by
  rw [List.getD_eq_getElem?_getD, List.getElem?_set]
  by_cases e : c = k
  ·subst e; rw [if_pos rfl, if_pos (by omega), if_pos rfl]; rfl
  ·rw [if_neg e, if_neg (fun e' => e e'.symm), List.getD_eq_getElem?_getD]
 refine ⟨by rw [List.length_set]; exact hl, fun k hk => ?_, fun k hk j => ?_⟩
 ·rw [key k hk]; split
  ·rename_i e; subst e; exact h1
  ·rename_i e; rw [h2 k e]; exact h.r k hk
 ·rw [key k hk]; split
  ·exact h3 j
  ·have := h.v k hk j; omega
theorem Sn.up {N : Nat} {len : Nat → Nat} {B B' : Int} {ms : List (List Int)} (h : Sn N len B ms) (hB : B ≤ B') : Sn N len B' ms := ⟨h.l, h.r, fun c hc k => by have := h.v c hc k; omega⟩
theorem getD_app {l : List Int} {x : Int} {k : Nat} : (l ++ [x]).getD k 0 = if k < l.length then l.getD k 0 else if k = l.length then x else 0 := by
 rw [List.getD_eq_getElem?_getD, List.getElem?_append]
 split
 ·rw [List.getD_eq_getElem?_getD]
 ·rename_i h
  split
  ·rename_i e; subst e; simp
  ·rw [List.getElem?_eq_none (by simp; omega)]; rfl
theorem getD_setI {l : List Int} {x : Int} {j k : Nat} (hj : j < l.length) : (l.set j x).getD k 0 = if k = j then x else l.getD k 0 := by
 rw [List.getD_eq_getElem?_getD, List.getElem?_set]
 by_cases e : j = k
 ·subst e; rw [if_pos rfl, if_pos hj, if_pos rfl]; rfl
 ·rw [if_neg e, if_neg (fun e' => e e'.symm), List.getD_eq_getElem?_getD]
theorem ivs_congr {m : Nat} {f g : Nat → Int} (h : ∀ b, b < m → f b = g b) : ivs m f = ivs m g := List.map_congr_left fun b hb => by rw [h b (List.mem_range.1 hb)]
def neg (i : Nat) : Nat → Int := fun j => if j < i then -1 else 0
theorem neg_zero : neg 0 = fun _ => 0 := funext fun j => if_neg (by omega)
theorem neg_set {n i : Nat} : (ivs n (neg i)).set i [i64 (-1)] = ivs n (neg (i + 1)) := by
 rw [ivs_set]
 refine ivs_congr fun j _ => ?_
 unfold neg
 by_cases e : j = i
 ·subst e; rw [upd_same, if_pos (by omega)]
 ·rw [upd_ne e]
  by_cases h : j < i
  ·rw [if_pos h, if_pos (by omega)]
  ·rw [if_neg h, if_neg (by omega)]
theorem neg_all (n : Nat) : ivs n (neg n) = ivs n fun _ => -1 := ivs_congr fun j hj => if_pos hj
def rw0 (N k : Nat) : List (List Int) := (List.range N).map fun c => if c < k then [0] else []
theorem rw0_len (N k : Nat) : (rw0 N k).length = N := by simp [rw0]
theorem rw0_sn (N : Nat) : Sn N (fun _ => 1) 0 (rw0 N N) := by
 have key : ∀ c, c < N → (rw0 N N).getD c [] = [0] := fun c hc => by simp [rw0, hc]
 refine ⟨rw0_len N N, fun c hc => by rw [key c hc]; rfl, fun c hc k => ?_⟩
 rw [key c hc]
 cases k <;> simp
def cI : Option (Nat × Nat) → Int
 |none => -1
 |some c => c.1
def cR : Option (Nat × Nat) → Int
 |none => 0
 |some c => c.2
inductive Rch (C : Ch) (p : List Pk) : C.σ → Prop
 |z : Rch C p C.s0
 |s {t l : Nat} {w : Nat → Bool} {s : C.σ} (h : Rch C p s) : Rch C p (C.ch p t l w s).1
theorem sel_rch {C : Ch} {p : List Pk} {t l : Nat} {S : St C.σ} (h : Rch C p S.s) : Rch C p (Mc.sel C p t l S).1.s := by
  unfold Mc.sel
  cases S.cur with
  | some c => exact h
  | none =>
    simp only
    cases (C.ch p t l (wt p t S.bg) S.s).2 with
    | none => exact h.s
    | some i => exact h.s
theorem tk_rch {C : Ch} {p : List Pk} {t : Nat} : ∀ (l : Nat) {S : St C.σ}, Rch C p S.s → Rch C p (tk C p t l S).s := by
  intro l
  induction l using Nat.strongRecOn with
  | ind l ih =>
    intro S h
    cases l with
    | zero => rw [tk]; exact h
    | succ l =>
      rw [tk]
      have h1 := sel_rch (p := p) (t := t) (l := l + 1) h
      split
      · exact h1
      · split
        · exact ih _ (by omega) h1
        · exact h1
theorem run_rch {C : Ch} {p : List Pk} {c : Nat} : ∀ t, Rch C p (run C p c t).s
 |0 => .z
 |t + 1 => tk_rch c (run_rch t)
def RunV (n : Nat) (dn : Nat → Int) (r : SV) : Prop := ∃ ms : List (List Int), ms.length ≤ 6 ∧ r = .agg [.psl 1 (ivs n dn), .psl 1 ((mtz ms).map fun m => [.psl 1 m])]
end Go.Proofs.YtaomhdljcdadaaaGreat
end
section
namespace Go.Proofs.YtaomhdljcdadaaaGreat
open Go.Sx Go.Pk Go.Mc
set_option maxRecDepth 4000
set_option maxHeartbeats 2000000
abbrev stV (t now : Int) : SV := .agg [i64 t, .vec 0, i64 now, .vec 1, .vec 2]
abbrev stO (m : Nat) (G dn : Nat → Int) (ms : List (List Int)) : List Chunk := [.vec 1 (ivs m G), .vec 1 (ivs m dn), .mat 1 (mtz ms)]
def bgO (G : Nat → Int) (now : Int) (i : Nat) : Bool := decide (G i ≠ 0 ∨ now = i)
theorem aP_S10 {A B K : Prop} (k : K) (a : A := by (simp only [zA, zT, zD, zC, zN, ints_len, zR, Go.Cv.vals_len]; omega)) (b : B := by (simp only [zA, zT, zD, zC, zN, ints_len, zR, Go.Cv.vals_len]; omega)) : (A ∧ B) ∧ K := ⟨⟨a, b⟩, k⟩
theorem z1_S10 {G H : Prop} (k : H) (h : H → G := by first | exact fun r => aS r | exact fun r => aG r | exact fun r => aD r | exact fun r => aH r | exact fun r => aP_S10 r | exact fun r => aI r | exact fun r => aJ r | exact fun r => aW (.qs [0, 1, 2, 3, 4, 5, 6, 7, 8, 9, 10, 11, 12, 13, 14, 15, 16, 17, 18, 19, 20, 21, 22] .nil) r) : G := h k
theorem RWaits_ok (p : List Pk) (hp : p.length ≤ 1000) (t : Nat) (now : Int) (G dn : Nat → Int) (ms : List (List Int)) (i : Nat) (hi : i < p.length) :
  Ctr Tryz.prog 193 [stV t now, .psl 3 (pks p), i64 i] (stO p.length G dn ms) (fun r o => o = stO p.length G dn ms ∧ ((∃ P : Prop, (P ↔ wt p t (bgO G now) i = true) ∧ r = .bp P) ∨ (¬wt p t (bgO G now) i = true ∧ r = .bl false))) := by
 refine fn_intro (E := env 3) tys_ok rfl rfl rfl Tryz.func193 (by kernel_rfl) rfl (by kernel_rfl) ?_
 have hpl := pks_len p
 have hil := ivs_len p.length G
 have gg := ivs_get (f := G) hi
 have gp := pks_get hi
 have hw : wt p t (bgO G now) i = true ↔ ((p.getD i pk0).t ≤ t ∧ G i = 0 ∧ ¬now = i) := by
  rw [wt_iff]
  unfold bgO tm
  simp only [decide_eq_false_iff_not, not_or, Decidable.not_not]
  exact ⟨fun h => h.2, fun h => ⟨hi, h⟩⟩
 generalize p.getD i pk0 = x at *
 generalize G i = u at *
 (repeat' (conv => whnf); first | refine ⟨i, _, rfl, gp, ?_⟩ | (refine aC (fun _ => ?_) (fun _ => ?_) <;> try (exfalso; omega)) | refine z1_S10 ?_ | refine ⟨i, rfl, by omega, ?_⟩ | refine ⟨_, gg, ?_⟩ | fail); all_goals try (conv => whnf)
 all_goals first
  |exact ⟨rfl, .inl ⟨now ≠ i, by rw [hw]; omega, rfl⟩⟩
  |exact ⟨rfl, .inr ⟨by rw [hw]; omega, rfl⟩⟩
theorem z2_S10 {G H : Prop} (k : H) (h : H → G := by first | exact fun r => aS r | exact fun r => aG r | exact fun r => aD r | exact fun r => aH r | exact fun r => aP_S10 r | exact fun r => aI r | exact fun r => aJ r) : G := h k
theorem RFirst_ok (p : List Pk) (hp : p.length ≤ 1000) (t : Nat) (now : Int) (G dn : Nat → Int) (ms : List (List Int)) (c : Int) (q : Nat → Bool) (hq : ∀ i, i < p.length → (q i = true ↔ ((c = -1 ∨ cl p i = c) ∧ wt p t (bgO G now) i = true))) :
  Ctr Tryz.prog 169 [stV t now, .psl 3 (pks p), i64 c] (stO p.length G dn ms) (fun r o => o = stO p.length G dn ms ∧ r = i64 (oI (fst q p.length))) := by
 refine fn_intro (E := env 3) tys_ok rfl rfl rfl Tryz.func169 (by kernel_rfl) rfl (by kernel_rfl) ?_
 have hpl := pks_len p
 (repeat' (conv => whnf); first | (refine aC (fun _ => ?_) (fun _ => ?_) <;> try (exfalso; omega)) | refine z2_S10 ?_ | fail); all_goals try (conv => whnf)
 refine LoopOb.mk (Y := Nat) (st := fun i => ⟨[(7, i64 i), (3, .ptr 3 0), (1, .psl 3 (pks p)), (2, i64 c)], stO p.length G dn ms ++ [.box [i64 t, .vec 0, i64 now, .vec 1, .vec 2]]⟩)
  (inv := fun i => i ≤ p.length ∧ ∀ j, j < i → q j = false) (fun i => p.length - i) 0 [0, 1, 2, 3] ⟨by omega, fun j hj => by omega⟩ (by (exact aL)) ?_
 rintro i ⟨hi, hn⟩
 by_cases hil : i < p.length
 ·have gp := pks_get hil
  have hqi := hq i hil
  have hyes : q i = true → fst q p.length = some i := fun h => fst_some.2 ⟨hil, h, hn⟩
  have hnx : ¬q i = true → ∀ j, j < i + 1 → q j = false := fun h j hj => by
   by_cases e : j = i
   ·subst e; simpa using h
   ·exact hn j (by omega)
  have cW := RWaits_ok p hp t now G dn ms i hil
  unfold cl at hqi
  generalize p.getD i pk0 = x at *
  (repeat' (conv => whnf); first | refine ⟨i, _, rfl, gp, ?_⟩ | (refine aC (fun _ => ?_) (fun _ => ?_) <;> try (exfalso; omega)) | refine z2_S10 ?_ | (refine aM [0, 1, 2] cW rfl rfl ?_; rintro _ _ ⟨rfl, (⟨P, hP, rfl⟩ | ⟨hP, rfl⟩)⟩) | fail); all_goals try (conv => whnf)
  all_goals first
   |exact ⟨rfl, by rw [hyes (hqi.2 ⟨by omega, hP.1 (by assumption)⟩)]; rfl⟩
   |exact ⟨i + 1, [0, 1, 2, 3], ⟨by omega, hnx fun h => by have := (hqi.1 h).1; omega⟩, by omega, by (exact aL)⟩
   |exact ⟨i + 1, [0, 1, 2, 3], ⟨by omega, hnx fun h => absurd (hP.2 (hqi.1 h).2) (by assumption)⟩, by omega, by (exact aL)⟩
   |exact ⟨i + 1, [0, 1, 2, 3], ⟨by omega, hnx fun h => hP (hqi.1 h).2⟩, by omega, by (exact aL)⟩
   |trace_state
 ·obtain rfl : i = p.length := by omega
  (repeat' (conv => whnf); first | (refine aC (fun _ => ?_) (fun _ => ?_) <;> try (exfalso; omega)) | refine z2_S10 ?_ | fail); all_goals try (conv => whnf)
  exact ⟨rfl, by rw [fst_none.2 hn]; rfl⟩
end Go.Proofs.YtaomhdljcdadaaaGreat
end
section
namespace Go.Proofs.YtaomhdljcdadaaaGreat
open Go.Sx Go.Pk Go.Mc
set_option maxRecDepth 4000
set_option maxHeartbeats 2000000
theorem aP_S11 {A B K : Prop} (k : K) (a : A := by (simp only [zA, zT, zD, zC, zN, ints_len, zR, Go.Cv.vals_len]; omega)) (b : B := by (simp only [zA, zT, zD, zC, zN, ints_len, zR, Go.Cv.vals_len]; omega)) : (A ∧ B) ∧ K := ⟨⟨a, b⟩, k⟩
theorem z2_S11 {G H : Prop} (k : H) (h : H → G := by first | exact fun r => aS r | exact fun r => aG r | exact fun r => aD r | exact fun r => aP_S11 r | exact fun r => aI r | exact fun r => aJ r | exact fun r => aW (.qs [0, 1, 2, 3, 4, 5, 6, 7, 8, 9, 10] (.l 11 [2] (.l 12 [2] (.qs [13] (.l 14 [] .nil .no)) .no) .no)) r) : G := h k
theorem z1_S11 {G H : Prop} (k : H) (h : H → G := by first | exact fun r => aS r | exact fun r => aG r | exact fun r => aD r | exact fun r => aH r | exact fun r => aP_S11 r | exact fun r => aI r | exact fun r => aJ r | exact fun r => aW (.qs [0, 1, 2, 3, 4, 5, 6, 7, 8, 9, 10] (.l 11 [2] (.l 12 [2] (.qs [13] (.l 14 [] .nil .no)) .no) .no)) r) : G := h k
theorem RBegin_ok (N T : Nat) (hT : T ≤ 2000) (B : Int) (hB : B ≤ 10000000) (t now : Int) (m : Nat) (G dn : Nat → Int) (ms : List (List Int)) (hS : Sn N (fun _ => T + 1) B ms) (hN1 : 1 ≤ N) (hN : N ≤ 6) :
  Ctr Tryz.prog 164 [stV t now] (stO m G dn ms) (fun r o => ∃ m2, Sn N (fun _ => T + 2) B m2 ∧ o = [.vec 1 (ivs m G), .vec 1 (ivs m dn), .dead, .box [i64 t, .vec 0, i64 now, .vec 1, .vec 4], .mat 1 (mtz m2)] ∧ r = .agg [i64 t, .vec 0, i64 now, .vec 1, .vec 4]) := by
 refine fn_intro (E := env 3) tys_ok rfl rfl rfl Tryz.func164 (by kernel_rfl) rfl (by kernel_rfl) ?_
 have hml := (mtz_len ms).trans hS.l
 (repeat' (conv => whnf); first | (refine aC (fun _ => ?_) (fun _ => ?_) <;> try (exfalso; omega)) | refine z1_S11 ?_ | fail); all_goals try (conv => whnf)
 refine LoopOb.mk (Y := Bool × Nat × List (List Int)) (st := fun y => ⟨[(3, i64 y.2.1), (2, .ptr 4 0), (1, .ptr 3 0)], match y.1 with
   |false => [.vec 1 (ivs m G), .vec 1 (ivs m dn), .mat 1 (mtz y.2.2), .box [i64 t, .vec 0, i64 now, .vec 1, .vec 2], .box [i64 0, .nil, i64 0, .nil, .nil]]
   |true => [.vec 1 (ivs m G), .vec 1 (ivs m dn), .dead, .box [i64 t, .vec 0, i64 now, .vec 1, .vec 5], .box [i64 0, .nil, i64 0, .nil, .nil], .mat 1 (mtz y.2.2)]⟩)
  (inv := fun y => y.2.1 ≤ N ∧ Sn N (fun j => if j < y.2.1 then T + 2 else T + 1) B y.2.2 ∧ (y.1 = false → y.2.1 = 0)) (fun y => N - y.2.1) (false, 0, ms) [0, 1, 2, 3, 4] ⟨Nat.zero_le _, by simpa using hS, fun _ => rfl⟩ (by (exact aL)) ?_
 rintro ⟨b, k, m2⟩ ⟨hk, hm2, hb⟩
 dsimp only at hk hm2 hb ⊢
 have hml2 := (mtz_len m2).trans hm2.l
 by_cases hkN : k < N
 ·have hgr := mtz_get (ms := m2) (c := k) (by have := hm2.l; omega)
  have hrl := hm2.r k hkN
  rw [if_neg (by omega)] at hrl
  have hrv := hm2.v k hkN
  have hst := fun r h1 h3 => hm2.set (B' := B) (len' := fun j => if j < k + 1 then T + 2 else T + 1) (Int.le_refl _) hkN (r := r) h1 (fun j hj => by
   by_cases h : j < k
   ·rw [if_pos h, if_pos (by omega)]
   ·rw [if_neg h, if_neg (by omega)]) h3
  generalize m2.getD k [] = row at *
  have hil2 := ints_len row
  have hgv := ints_get (l := row) (j := T) (by omega)
  generalize hv : row.getD T 0 = v at *
  have h1 : (row ++ [v]).length = if k < k + 1 then T + 2 else T + 1 := by rw [if_pos (by omega), List.length_append, List.length_singleton]; omega
  have h3 : ∀ j, 0 ≤ (row ++ [v]).getD j 0 ∧ (row ++ [v]).getD j 0 ≤ B := fun j => by
   rw [getD_app]
   split
   ·exact hrv j
   ·split
    ·rw [← hv]; exact hrv T
    ·have := hrv 0; omega
  have hmm : ∀ j : Nat, (mtz m2).set k (ints row ++ [[i64 v]]) = mtz (m2.set k (row ++ [v])) := fun _ => by rw [← mtz_set, show ints (row ++ [v]) = ints row ++ [[i64 v]] by simp [ints]]
  cases b
  ·dsimp only
   (repeat' (conv => whnf); first | refine DrawOb.re [] (.qs [0, 1, 2, 3, 4, 5, 6, 7, 8, 9, 10] (.l 11 [2] (.l 12 [2] (.qs [13] (.l 14 [] .nil .no)) .no) .no)) (by decide +kernel) ?_ | (refine aC (fun _ => ?_) (fun _ => ?_) <;> try (exfalso; omega)) | refine z1_S11 ?_ | refine And.intro ⟨rfl, rfl⟩ ?_ | refine ⟨k, rfl, by omega, ?_⟩ | refine And.intro (show k < (mtz m2).length by omega) ?_ | refine ⟨T, _, by omega, hgr, by omega, ?_⟩ | refine ⟨_, _, hgr, hgv, ?_⟩ | refine ⟨_, hgr, ?_⟩ | refine And.intro (rfl : k = k) ?_ | fail); all_goals try (conv => whnf)
   exact ⟨(true, k + 1, m2.set k (row ++ [v])), [0, 1, 2, 3, 4, 9], ⟨by dsimp only; omega, hst _ h1 h3, fun e => by cases e⟩, by dsimp only; omega, by dsimp only; rw [← hmm 0]; (exact aL)⟩
  ·dsimp only
   (repeat' (conv => whnf); first | refine DrawOb.re [] (.qs [0, 1, 2, 3, 4, 5, 6, 7, 8, 9, 10] (.l 11 [2] (.l 12 [2] (.qs [13] (.l 14 [] .nil .no)) .no) .no)) (by decide +kernel) ?_ | (refine aC (fun _ => ?_) (fun _ => ?_) <;> try (exfalso; omega)) | refine z1_S11 ?_ | refine And.intro ⟨rfl, rfl⟩ ?_ | refine ⟨k, rfl, by omega, ?_⟩ | refine And.intro (show k < (mtz m2).length by omega) ?_ | refine ⟨T, _, by omega, hgr, by omega, ?_⟩ | refine ⟨_, _, hgr, hgv, ?_⟩ | refine ⟨_, hgr, ?_⟩ | refine And.intro (rfl : k = k) ?_ | fail); all_goals try (conv => whnf)
   exact ⟨(true, k + 1, m2.set k (row ++ [v])), [0, 1, 2, 3, 4, 10], ⟨by dsimp only; omega, hst _ h1 h3, fun e => by cases e⟩, by dsimp only; omega, by dsimp only; rw [← hmm 0]; (exact aL)⟩
 ·obtain rfl : N = k := by omega
  have hfin : Sn N (fun _ => T + 2) B m2 := ⟨hm2.l, fun j hj => by rw [hm2.r j hj, if_pos hj], hm2.v⟩
  cases b
  ·have := hb rfl; omega
  ·dsimp only
   (repeat' (conv => whnf); first | (refine aC (fun _ => ?_) (fun _ => ?_) <;> try (exfalso; omega)) | refine z2_S11 ?_ | fail); all_goals try (conv => whnf)
   refine .mk [.wk [0, 1, 2, 4, 5] ⟨[(2, .ptr 3 0)], [.vec 1 (ivs m G), .vec 1 (ivs m dn), .dead, .box [i64 t, .vec 0, i64 now, .vec 1, .vec 4], .mat 1 (mtz m2)]⟩] ⟨by (exact aL), ?_⟩
   (repeat' (conv => whnf); first | (refine aC (fun _ => ?_) (fun _ => ?_) <;> try (exfalso; omega)) | refine z2_S11 ?_ | fail); all_goals try (conv => whnf)
   exact ⟨m2, hfin, rfl, rfl⟩
end Go.Proofs.YtaomhdljcdadaaaGreat
end
