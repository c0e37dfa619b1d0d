/-
  A text of the proofs of this seat: lemmas that the statements' proofs use; it states nothing of the program by itself beyond the contracts that its theorems bear. Conditions: those that stand in each theorem. Its short name: So1 S0.
-/
import Derived.Test.YtaomhdljcdadaaaGreatLib
import Derived.Test.YtaomhdljcdadaaaGreatMr
import Derived.Test.YtaomhdljcdadaaaGreatS7
import Derived.Test.YtaomhdljcdadaaaGreatSrt
import Derived.Test.YtaomhdljcdadaaaGreatT1
import Derived.Test.YtaomhdljcdadaaaGreatMq
set_option linter.unusedVariables false
set_option linter.unusedSimpArgs false
section
namespace Go.Proofs.YtaomhdljcdadaaaGreat
open Go.Sx Go.Pk Go.Mc Go.Np
set_option maxRecDepth 4000
set_option maxHeartbeats 2000000
theorem aP_So1 {A B K : Prop} (k : K) (a : A := by (simp only [zA, zT, zD, zC, zN, ints_len, zR, Go.Cv.vals_len]; omega)) (b : B := by (simp only [zA, zT, zD, zC, zN, ints_len, zR, Go.Cv.vals_len]; omega)) : (A ∧ B) ∧ K := ⟨⟨a, b⟩, k⟩
/-! the order of a queue -/
theorem nan_ok (x : Int) : Ctr Tryz.prog 122 [i64 x] [] (fun r o => o = [] ∧ r = .bp (x ≠ x)) := by
  refine fn_intro (E := env 0) tys_ok rfl rfl rfl Tryz.func122 (by kernel_rfl) rfl (by kernel_rfl) ?_
  (repeat' (conv => whnf); first | (refine aC (fun _ => ?_) (fun _ => ?_) <;> try (exfalso; omega)) | refine aS ?_ | refine aG ?_ | refine aD ?_ | refine aH ?_ | refine aP_So1 ?_ | refine aI ?_ | refine aJ ?_ | fail); all_goals try (conv => whnf)
  exact ⟨rfl, rfl⟩
theorem cmp_ok (x y : Int) : Ctr Tryz.prog 95 [i64 x, i64 y] [] (fun r o => o = [] ∧ r = i64 (cmpI x y)) := by
  refine fn_intro (E := env 0) tys_ok rfl rfl rfl Tryz.func95 (by kernel_rfl) rfl (by kernel_rfl) ?_
  obtain ⟨v, hv⟩ : ∃ v, v = cmpI x y := ⟨_, rfl⟩
  rw [← hv]
  unfold cmpI at hv
  rcases Int.lt_trichotomy x y with h | h | h
  · rw [if_pos h] at hv
    subst hv
    (repeat' (conv => whnf); first | (refine aC (fun _ => ?_) (fun _ => ?_) <;> try (exfalso; omega)) | refine aS ?_ | refine aG ?_ | refine aD ?_ | refine aH ?_ | refine aP_So1 ?_ | refine aI ?_ | refine aJ ?_ | (refine CallOb.mk [] (nan_ok _) rfl (ImpL.refl _) rfl rfl ?_; rintro _ _ ⟨rfl, rfl⟩) | fail); all_goals try (conv => whnf)
    exact ⟨rfl, rfl⟩
  · rw [if_neg (by omega), if_neg (by omega)] at hv
    subst hv
    (repeat' (conv => whnf); first | (refine aC (fun _ => ?_) (fun _ => ?_) <;> try (exfalso; omega)) | refine aS ?_ | refine aG ?_ | refine aD ?_ | refine aH ?_ | refine aP_So1 ?_ | refine aI ?_ | refine aJ ?_ | (refine CallOb.mk [] (nan_ok _) rfl (ImpL.refl _) rfl rfl ?_; rintro _ _ ⟨rfl, rfl⟩) | fail); all_goals try (conv => whnf)
    exact ⟨rfl, rfl⟩
  · rw [if_neg (by omega), if_pos h] at hv
    subst hv
    (repeat' (conv => whnf); first | (refine aC (fun _ => ?_) (fun _ => ?_) <;> try (exfalso; omega)) | refine aS ?_ | refine aG ?_ | refine aD ?_ | refine aH ?_ | refine aP_So1 ?_ | refine aI ?_ | refine aJ ?_ | (refine CallOb.mk [] (nan_ok _) rfl (ImpL.refl _) rfl rfl ?_; rintro _ _ ⟨rfl, rfl⟩) | fail); all_goals try (conv => whnf)
    exact ⟨rfl, rfl⟩
theorem or_ok (l : List Int) (hl : l.length ≤ 100) : Ctr Tryz.prog 94 [.vec 0] [.vec 1 (ints l)] (fun r o => o = [.vec 1 (ints l)] ∧ r = i64 ((l.find? fun x => decide (x ≠ 0)).getD 0)) := by
  refine fn_intro (E := env 1) tys_ok rfl rfl rfl Tryz.func94 (by kernel_rfl) rfl (by kernel_rfl) ?_
  have hil := ints_len l
  (repeat' (conv => whnf); first | (refine aC (fun _ => ?_) (fun _ => ?_) <;> try (exfalso; omega)) | refine aS ?_ | refine aG ?_ | refine aD ?_ | refine aH ?_ | refine aP_So1 ?_ | refine aI ?_ | refine aJ ?_ | fail); all_goals try (conv => whnf)
  refine LoopOb.mk (Y := Nat) (st := fun i => ⟨[(8, i64 i), (7, i64 (ints l).length), (6, .vec 0), (3, i64 0)], [.vec 1 (ints l)]⟩)
    (inv := fun i => i ≤ l.length ∧ l.find? (fun x => decide (x ≠ 0)) = (l.drop i).find? fun x => decide (x ≠ 0)) (fun i => l.length - i) 0 [0] ⟨by omega, rfl⟩ (by (exact aL)) ?_
  rintro i ⟨hi, he⟩
  rw [he]
  (repeat' (conv => whnf); first | refine aS ?_ | refine aG ?_ | refine aD ?_ | refine aH ?_ | refine aP_So1 ?_ | refine aI ?_ | refine aJ ?_ | fail); all_goals try (conv => whnf)
  refine CondOb.mk (fun hlt => ?_) (fun hlt => ?_)
  · have hil2 : i < l.length := by omega
    have hg := ints_get (l := l) (j := i) hil2
    have hd : l.drop i = l.getD i 0 :: l.drop (i + 1) := by
      rw [List.drop_eq_getElem_cons hil2, List.getD_eq_getElem?_getD, List.getElem?_eq_getElem hil2]; rfl
    rw [hd] at he ⊢
    generalize l.getD i 0 = v at *
    by_cases hv : v = 0
    · subst hv
      simp only [List.find?_cons, ne_eq, not_true_eq_false, decide_false] at he ⊢
      (repeat' (conv => whnf); first | (refine aC (fun _ => ?_) (fun _ => ?_) <;> try (exfalso; omega)) | refine aS ?_ | refine aG ?_ | refine aD ?_ | refine aH ?_ | refine aP_So1 ?_ | refine aI ?_ | refine aJ ?_ | refine ⟨i, rfl, by omega, ?_⟩ | refine ⟨_, hg, ?_⟩ | fail); all_goals try (conv => whnf)
      exact ⟨i + 1, [0], ⟨by omega, by first | rfl | exact he⟩, by omega, by (exact aL)⟩
    · have e : List.find? (fun x => decide (x ≠ 0)) (v :: l.drop (i + 1)) = some v := by simp [hv]
      rw [e]
      (repeat' (conv => whnf); first | (refine aC (fun _ => ?_) (fun _ => ?_) <;> try (exfalso; omega)) | refine aS ?_ | refine aG ?_ | refine aD ?_ | refine aH ?_ | refine aP_So1 ?_ | refine aI ?_ | refine aJ ?_ | refine ⟨i, rfl, by omega, ?_⟩ | refine ⟨_, hg, ?_⟩ | fail); all_goals try (conv => whnf)
      exact ⟨rfl, rfl⟩
  · obtain rfl : i = l.length := by omega
    rw [List.drop_length]
    (repeat' (conv => whnf); first | (refine aC (fun _ => ?_) (fun _ => ?_) <;> try (exfalso; omega)) | refine aS ?_ | refine aG ?_ | refine aD ?_ | refine aH ?_ | refine aP_So1 ?_ | refine aI ?_ | refine aJ ?_ | fail); all_goals try (conv => whnf)
    exact ⟨rfl, rfl⟩
/- what a row of the queue holds -/
abbrev wcl (F : Tf) (x : Wt) : List Int := [F.cs x.i, x.a, F.s x.i, x.f, (x.i : Int)]
theorem q1_ok (F : Tf) (x y : Wt) : Ctr Tryz.prog 93 [.agg (sRow (wcl F) x), .agg (sRow (wcl F) y)] [] (fun r o => r = i64 (cmpW x y)) := by
  refine fn_intro (E := env 0) tys_ok rfl rfl rfl Tryz.func93 (by kernel_rfl) rfl (by kernel_rfl) ?_
  have e : ([cmpI x.a y.a, cmpI x.f y.f, cmpI x.i y.i].find? fun x => decide (x ≠ 0)).getD 0 = cmpW x y := by
    unfold cmpW
    generalize cmpI x.a y.a = a
    generalize cmpI x.f y.f = b
    generalize cmpI x.i y.i = c
    by_cases h1 : a = 0
    · by_cases h2 : b = 0
      · by_cases h3 : c = 0 <;> simp [h1, h2, h3]
      · simp [h1, h2]
    · simp [h1]
  simp only [sRow, List.map_cons, List.map_nil]
  (repeat' (conv => whnf); first | (refine aC (fun _ => ?_) (fun _ => ?_) <;> try (exfalso; omega)) | refine aS ?_ | refine aG ?_ | refine aD ?_ | refine aH ?_ | refine aP_So1 ?_ | refine aI ?_ | refine aJ ?_ | refine aW (.qs [0, 1, 2, 3, 4, 5, 7, 8, 9, 10, 12, 13, 14, 15] (.l 6 [15, 13, 10, 8] (.l 11 [15, 13] (.l 16 [] (.l 17 [] (.l 18 [] (.qs [19] .nil) .no) .no) .no) .no) .no)) ?_ | (refine CallOb.mk [] (cmp_ok _ _) rfl (ImpL.refl _) rfl rfl ?_; rintro _ _ ⟨rfl, rfl⟩) | (refine aK [2] (or_ok [cmpI x.a y.a, cmpI x.f y.f, cmpI x.i y.i] (by simp)) ?_; rw [e]) | fail); all_goals try (conv => whnf)
  exact rfl
instance : Inhabited Wt := ⟨⟨0, 0, 0⟩⟩
theorem cmpW_swo : Go.Sort.SWO (ltOf cmpW) where
  irrefl x := by
    simp only [ltOf, decide_eq_false_iff_not]
    rw [cmpW_lt]; exact fun h => Wt.lt_irr h
  trans x y z h1 h2 := by
    simp only [ltOf, decide_eq_true_eq, cmpW_lt] at *
    exact Wt.lt_tr h1 h2
  ntrans x y z h1 h2 := by
    simp only [ltOf, decide_eq_false_iff_not, cmpW_lt] at *
    intro h
    rcases Wt.lt_tri x y with k | k | k
    · exact h1 k
    · subst k; exact h2 h
    · exact h2 (Wt.lt_tr k h)
/- slices.SortFunc on the packets that wait -/
theorem sortW_ok (F : Tf) (q : List Wt) (hq : q.length ≤ 1000) : Ctr Tryz.prog 92 [.vec 0, .fn 93 []] [.vec 5 (q.map (sRow (wcl F)))] (fun r o => r = .tup [] ∧ ∃ q' : List Wt, q'.Perm q ∧ q'.Pairwise (fun x y => ¬y.lt x) ∧ o = [.vec 5 (q'.map (sRow (wcl F)))]) := by
  have eg : ∀ args w, (callFunc 93 args).run Tryz.prog w = .ok (.enter 93 args) w := enters_of Tryz.func93 (by kernel_rfl) rfl
  have h := SortFunc_ctr sortW (f := 92) rfl ⟨_, Tryz.func92, by kernel_rfl, by kernel_rfl⟩ 5 (by omega) Tryz.isAgg138 Tryz.sizeOf138 (wcl F) (fun _ => rfl) cmpW cmpW_swo 93 eg
    (fun x y W => ((q1_ok F x y).grown (vs := [.agg (vRow (wcl F) x).toArray, .agg (vRow (wcl F) y).toArray]) ⟨_, _, rfl, ⟨_, rfl, sRow_rel.2 rfl⟩, _, _, rfl, ⟨_, rfl, sRow_rel.2 rfl⟩, rfl⟩ W).mono (by
      rintro e w' ⟨v, r, o, σ', β', rfl, hr, rfl, hg⟩
      have : v = .int .i64 (cmpW x y) := hr
      subst this
      exact ⟨rfl, hg⟩)) q (by omega)
  refine h.mono ?_
  rintro r o ⟨h1, q', h2, h3, h4⟩
  exact ⟨h1, q', h2, h3.imp fun h => by rwa [cmpW_lt] at h, h4⟩
end Go.Proofs.YtaomhdljcdadaaaGreat
end
section
namespace Go.Proofs.YtaomhdljcdadaaaGreat
open Go.Sx Go.Pk Go.Mc
set_option maxRecDepth 4000
set_option maxHeartbeats 2000000
/-! lists by what stands at each place -/
abbrev bls (m : Nat) (f : Nat → Bool) : List (List SV) := (List.range m).map fun b => [.bl (f b)]
abbrev ivs (m : Nat) (f : Nat → Int) : List (List SV) := (List.range m).map fun b => [i64 (f b)]
theorem bls_len (m : Nat) (f : Nat → Bool) : (bls m f).length = m := by simp [bls]
theorem ivs_len (m : Nat) (f : Nat → Int) : (ivs m f).length = m := by simp [ivs]
theorem bls_get {m b : Nat} {f : Nat → Bool} (h : b < m) : (bls m f)[b]? = some [.bl (f b)] := by simp [bls, h]
theorem ivs_get {m b : Nat} {f : Nat → Int} (h : b < m) : (ivs m f)[b]? = some [i64 (f b)] := by simp [ivs, h]
theorem map_upd {α β : Type} {m b : Nat} {f : Nat → α} {v : α} {g : α → β} : ((List.range m).map fun i => g (f i)).set b (g v) = (List.range m).map fun i => g (upd f b v i) := by
  apply List.ext_getElem?; intro j
  rw [List.getElem?_set]
  by_cases e : b = j
  · subst e
    rw [if_pos rfl]
    by_cases h : b < m
    · simp [h, upd_same]
    · simp [h]
  · rw [if_neg e]
    by_cases h : j < m
    · simp [h, upd_ne (fun e' => e e'.symm)]
    · simp [h]
theorem bls_set {m b : Nat} {f : Nat → Bool} {v : Bool} : (bls m f).set b [.bl v] = bls m (upd f b v) := map_upd (g := fun x => [SV.bl x])
theorem ivs_set {m b : Nat} {f : Nat → Int} {v : Int} : (ivs m f).set b [i64 v] = ivs m (upd f b v) := map_upd (g := fun x => [i64 x])
theorem bls_rep (m : Nat) (v : Bool) : List.replicate m [SV.bl v] = bls m fun _ => v := by
  apply List.ext_getElem?; intro j
  by_cases h : j < m <;> simp [bls, h]
theorem ivs_rep (m : Nat) (v : Int) : List.replicate m [i64 v] = ivs m fun _ => v := by
  apply List.ext_getElem?; intro j
  by_cases h : j < m <;> simp [ivs, h]
/- which packet, as a number -/
def oI : Option Nat → Int
  | none => -1
  | some i => i
/- what a scheduler sees -/
abbrev stB (now left : Int) (p : List Pk) (bef : Nat) : Chunk := .box [i64 now, i64 left, .psl 3 (pks p), .vec 1, i64 bef]
/- packets that a line may be given -/
structure PL (p : List Pk) : Prop where
  l : p.length ≤ 60
  a : Asc p
  s : ∀ i, i < p.length → 1 ≤ (p.getD i pk0).s ∧ (p.getD i pk0).s ≤ 1500
  t : ∀ i, i < p.length → 0 ≤ (p.getD i pk0).t ∧ (p.getD i pk0).t ≤ 2000
end Go.Proofs.YtaomhdljcdadaaaGreat
end
