/- Lemmas that the proofs of this seat use (O1 Kn). Conditions: those that stand in each theorem. -/
import Derived.Test.YtaomhdljcdadaaaGreatS8
import Derived.Test.YtaomhdljcdadaaaGreatMr
import Derived.Test.YtaomhdljcdadaaaGreatLib
set_option linter.unusedVariables false
set_option linter.unusedSimpArgs false
section
namespace Go.Proofs.YtaomhdljcdadaaaGreat
open Go.Sx Go.Pk Go.Mc Go.Np
set_option maxRecDepth 4000
set_option maxHeartbeats 2000000
def dnO (D : Tp) (k h : Int) : Option Int := if k < 0 ∨ h < 0 ∨ D k.toNat h.toNat < 0 then none else some (D k.toNat h.toNat)
def delO (n : Nt) (p : List Pk) (D : Tp) (k h : Int) : Option Int := match arO n p D k h with
  | none => none
  | some a => match dnO D k h with
    | none => none
    | some d => some (d - a)
def enO (n : Nt) (p : List Pk) (D : Tp) (k : Int) : Option Int := if k < 0 ∨ (p.length : Int) ≤ k then none else match dnO D k (hps n p k - 1) with
 |none => none
 |some d => some (d - (p.getD k.toNat pk0).t)
theorem dR_out {ms : List (List Int)} {i j : Nat} (h : ms.length ≤ i ∨ (ms.getD i []).length ≤ j) : dR ms i j = -1 := by
 unfold dR
 rcases h with h | h
 ·rw [List.getD_eq_getElem?_getD (l := ms), List.getElem?_eq_none h]; simp
 ·rw [List.getD_eq_getElem?_getD, List.getElem?_eq_none h]; rfl
theorem dR_in {ms : List (List Int)} {i j : Nat} (h : j < (ms.getD i []).length) : (ms.getD i []).getD j 0 = dR ms i j := getD_dflt h
theorem aP_O1 {A B K : Prop} (k : K) (a : A := by (simp only [zA, zT, zD, zC, zN, ints_len, zR, Go.Cv.vals_len]; omega)) (b : B := by (simp only [zA, zT, zD, zC, zN, ints_len, zR, Go.Cv.vals_len]; omega)) : (A ∧ B) ∧ K := ⟨⟨a, b⟩, k⟩
theorem z1_O1 {G H : Prop} (k : H) (h : H → G := by first | exact fun r => aS r | exact fun r => aG r | exact fun r => aD r | exact fun r => aH r | exact fun r => aP_O1 r | exact fun r => aI r | exact fun r => aJ r) : G := h k
theorem ODone_ok (ms : List (List Int)) (hm : MsL ms) (k h : Int) : Ctr Tryz.prog 62 [.agg [.psl 1 (trs ms)], i64 k, i64 h] [] (fun r o => o = [] ∧ r = arrT (dnO (dR ms) k h)) := by
 refine fn_intro (E := env 0) tys_ok rfl rfl rfl Tryz.func62 (by kernel_rfl) rfl (by kernel_rfl) ?_
 have htl := trs_len ms
 have hml := hm.l
 have hnone : (k < 0 ∨ h < 0 ∨ dR ms k.toNat h.toNat < 0) → dnO (dR ms) k h = none := fun c => if_pos c
 have hsome : ¬(k < 0 ∨ h < 0 ∨ dR ms k.toNat h.toNat < 0) → dnO (dR ms) k h = some (dR ms k.toNat h.toNat) := fun c => if_neg c
 by_cases h1 : k < 0 ∨ (ms.length : Int) ≤ k
 ·rw [hnone (h1.elim .inl fun c => .inr (.inr (by rw [dR_out (.inl (by omega))]; omega)))]
  (repeat' (conv => whnf); first | (refine aC (fun _ => ?_) (fun _ => ?_) <;> try (exfalso; omega)) | refine z1_O1 ?_ | fail); all_goals try (conv => whnf)
  all_goals exact ⟨rfl, rfl⟩
 have hgt := trs_get (ms := ms) (i := k.toNat) (by omega)
 have hrl := hm.r k.toNat
 have hrv := hm.v k.toNat
 have hro := fun j => dR_out (ms := ms) (i := k.toNat) (j := j)
 have hri := fun j => dR_in (ms := ms) (i := k.toNat) (j := j)
 generalize ms.getD k.toNat [] = row at *
 have hil := ints_len row
 by_cases h2 : h < 0 ∨ (row.length : Int) ≤ h
 ·rw [hnone (h2.elim (fun c => .inr (.inl c)) fun c => .inr (.inr (by rw [hro _ (.inr (by omega))]; omega)))]
  (repeat' (conv => whnf); first | refine ⟨k.toNat, _, by omega, hgt, ?_⟩ | (refine aC (fun _ => ?_) (fun _ => ?_) <;> try (exfalso; omega)) | refine z1_O1 ?_ | fail); all_goals try (conv => whnf)
  all_goals exact ⟨rfl, rfl⟩
 have hgv := ints_get (l := row) (j := h.toNat) (by omega)
 rw [hri _ (by omega)] at hgv
 generalize dR ms k.toNat h.toNat = v at *
 (repeat' (conv => whnf); first | refine ⟨h.toNat, _, by omega, hgv, ?_⟩ | refine ⟨k.toNat, _, by omega, hgt, ?_⟩ | (refine aC (fun _ => ?_) (fun _ => ?_) <;> try (exfalso; omega)) | refine z1_O1 ?_ | fail); all_goals try (conv => whnf)
 all_goals first
  |exact ⟨rfl, by rw [hnone (by omega)]; rfl⟩
  |exact ⟨rfl, by rw [hsome (by omega)]; rfl⟩
theorem arO_bd {n : Nt} {p : List Pk} (hT : ∀ i, i < p.length → -1000000 ≤ (p.getD i pk0).t ∧ (p.getD i pk0).t ≤ 1000000) {ms : List (List Int)} (hm : MsL ms) {k h a : Int} (e : arO n p (dR ms) k h = some a) : -1000000 ≤ a ∧ a ≤ 4611686018427387905 ∧ 0 ≤ k ∧ k < p.length ∧ 0 ≤ h := by
 have hk : ¬(h < 0 ∨ hps n p k ≤ h) := fun c => by rw [arO_neg c] at e; cases e
 have hkk : 0 ≤ k ∧ k < p.length := by
  unfold hps at hk
  split at hk <;> omega
 by_cases h0 : h = 0
 ·subst h0
  rw [arO_zero hk] at e
  injection e with e
  have := hT k.toNat (by omega)
  omega
 ·rw [arO_pos hk h0] at e
  split at e
  ·rename_i hall
   injection e with e
   have h1 := hall (h.toNat - 1) (by omega)
   have h2 : dR ms k.toNat (h.toNat - 1) ≤ 4611686018427387904 := by
    by_cases c : h.toNat - 1 < (ms.getD k.toNat []).length
    ·rw [← dR_in c]; exact (hm.v _ _).2
    ·rw [dR_out (.inr (by omega))]; omega
   omega
  ·cases e
theorem dnO_bd {ms : List (List Int)} (hm : MsL ms) {k h d : Int} (e : dnO (dR ms) k h = some d) : 0 ≤ d ∧ d ≤ 4611686018427387904 := by
 unfold dnO at e
 split at e
 ·cases e
 ·rename_i hn
  injection e with e
  by_cases c : h.toNat < (ms.getD k.toNat []).length
  ·rw [← dR_in c] at e; have := hm.v k.toNat h.toNat; rw [dR_in c] at e this; omega
  ·have := dR_out (ms := ms) (i := k.toNat) (j := h.toNat) (.inr (by omega)); omega
theorem ODel_ok (n : Nt) (hn : NL n) (p : List Pk) (hp : p.length ≤ 9223372036854775807) (hT : ∀ i, i < p.length → -1000000 ≤ (p.getD i pk0).t ∧ (p.getD i pk0).t ≤ 1000000) (ms : List (List Int)) (hm : MsL ms) (k h : Int) : Ctr Tryz.prog 17 [ntv n, .psl 3 (pks p), .agg [.psl 1 (trs ms)], i64 k, i64 h] [] (fun r o => o = [] ∧ r = arrT (delO n p (dR ms) k h)) := by
  refine fn_intro (E := env 0) tys_ok rfl rfl rfl Tryz.func17 (by kernel_rfl) rfl (by kernel_rfl) ?_
  (repeat' (conv => whnf); first | (refine aC (fun _ => ?_) (fun _ => ?_) <;> try (exfalso; omega)) | refine z1_O1 ?_ | fail); all_goals try (conv => whnf)
  refine aK [] (Arr_ok n hn p hp ms hm k h) ?_
  unfold delO
  cases ha : arO n p (dR ms) k h with
  | none =>
    simp only [arrT]
    (repeat' (conv => whnf); first | (refine aC (fun _ => ?_) (fun _ => ?_) <;> try (exfalso; omega)) | refine z1_O1 ?_ | fail); all_goals try (conv => whnf)
    refine aK [] (ODone_ok ms hm k h) ?_
    cases dnO (dR ms) k h with
    | none =>
      simp only [arrT]
      (repeat' (conv => whnf); first | (refine aC (fun _ => ?_) (fun _ => ?_) <;> try (exfalso; omega)) | refine z1_O1 ?_ | fail); all_goals try (conv => whnf)
      exact ⟨rfl, rfl⟩
    | some d =>
      simp only [arrT]
      (repeat' (conv => whnf); first | (refine aC (fun _ => ?_) (fun _ => ?_) <;> try (exfalso; omega)) | refine z1_O1 ?_ | fail); all_goals try (conv => whnf)
      exact ⟨rfl, rfl⟩
  | some a =>
    simp only [arrT]
    have hb := arO_bd hT hm ha
    (repeat' (conv => whnf); first | (refine aC (fun _ => ?_) (fun _ => ?_) <;> try (exfalso; omega)) | refine z1_O1 ?_ | fail); all_goals try (conv => whnf)
    refine aK [] (ODone_ok ms hm k h) ?_
    cases hd : dnO (dR ms) k h with
    | none =>
      simp only [arrT]
      (repeat' (conv => whnf); first | (refine aC (fun _ => ?_) (fun _ => ?_) <;> try (exfalso; omega)) | refine z1_O1 ?_ | fail); all_goals try (conv => whnf)
      exact ⟨rfl, rfl⟩
    | some d =>
      simp only [arrT]
      have hb2 := dnO_bd hm hd
      (repeat' (conv => whnf); first | (refine aC (fun _ => ?_) (fun _ => ?_) <;> try (exfalso; omega)) | refine z1_O1 ?_ | fail); all_goals try (conv => whnf)
      exact ⟨rfl, rfl⟩
theorem z2_O1 {G H : Prop} (k : H) (h : H → G := by first | exact fun r => aS r | exact fun r => aG r | exact fun r => aD r | exact fun r => aH r | exact fun r => aP_O1 r | exact fun r => aI r | exact fun r => aJ r | exact fun r => aW (.qs [0, 1, 2, 3, 4, 5, 6, 7, 8, 9, 10, 11, 12, 13, 14, 15, 16, 17, 18, 19, 20, 21, 22, 23, 24, 25, 26] .nil) r | exact fun r => aW (.qs [0, 1, 2, 3, 4, 5, 6, 7, 8, 9, 10] .nil) r) : G := h k
theorem ORouO_ok (n : Nt) (hn : NL n) (p : List Pk) (hp : p.length ≤ 1000) (k : Int) (hk : k < 0 ∨ (p.length : Int) ≤ k) : Ctr Tryz.prog 63 [ntv n, .psl 3 (pks p), i64 k] [] (fun r o => o = [] ∧ r = .nil) := by
 refine fn_intro (E := env 0) tys_ok rfl rfl rfl Tryz.func63 (by kernel_rfl) rfl (by kernel_rfl) ?_
 have hpl := pks_len p
 (repeat' (conv => whnf); first | refine AsgOb.nil ?_ | (refine aC (fun _ => ?_) (fun _ => ?_) <;> try (exfalso; omega)) | refine z2_O1 ?_ | fail); all_goals try (conv => whnf)
 all_goals exact ⟨rfl, rfl⟩
theorem ORouI_ok (n : Nt) (hn : NL n) (p : List Pk) (h : SkP n p) (k : Nat) (hk : k < p.length) : Ctr Tryz.prog 63 [ntv n, .psl 3 (pks p), i64 k] [] (fun r o => o = [] ∧ r = .psl 1 (ints (pfl n (p.getD k pk0)).rt)) := by
 refine fn_intro (E := env 0) tys_ok rfl rfl rfl Tryz.func63 (by kernel_rfl) rfl (by kernel_rfl) ?_
 have hpl := pks_len p
 have hfl := fll n.fl
 have hg := pks_get hk
 obtain ⟨f1, f2, _, _, hRt, _⟩ := h.fl hk
 have hfg := flg (l := n.fl) (i := (p.getD k pk0).f.toNat) (by omega)
 unfold pfl
 generalize p.getD k pk0 = x at *
 (repeat' (conv => whnf); first | refine ⟨x.f.toNat, _, by omega, hfg, ?_⟩ | refine ⟨k, _, rfl, hg, ?_⟩ | refine AsgOb.nil ?_ | (refine aC (fun _ => ?_) (fun _ => ?_) <;> try (exfalso; omega)) | refine z2_O1 ?_ | fail); all_goals try (conv => whnf)
 exact ⟨rfl, rfl⟩
theorem enO_in {n : Nt} {p : List Pk} (h : SkP n p) {D : Tp} {k : Nat} (hk : k < p.length) : enO n p D k = match dnO D k (((pfl n (p.getD k pk0)).rt.length : Int) - 1) with
  |none => none
  |some d => some (d - (p.getD k pk0).t) := by
 unfold enO hps
 obtain ⟨f1, f2, _⟩ := h.fl hk
 rw [if_neg (by omega), if_neg (by simp only [Int.toNat_natCast]; omega)]
 rfl
theorem z3_O1 {G H : Prop} (k : H) (h : H → G := by first | exact fun r => aS r | exact fun r => aG r | exact fun r => aD r | exact fun r => aH r | exact fun r => aP_O1 r | exact fun r => aI r | exact fun r => aJ r | exact fun r => aW (.qs [0, 1, 2, 3, 4] (.l 5 [0] (.qs [6, 7] (.l 8 [] (.qs [9, 10, 11, 12, 13] .nil) .no)) .no)) r) : G := h k
theorem OEnd_ok (n : Nt) (hn : NL n) (p : List Pk) (h : SkP n p) (ms : List (List Int)) (hm : MsL ms) (k : Int) : Ctr Tryz.prog 18 [ntv n, .psl 3 (pks p), .agg [.psl 1 (trs ms)], i64 k] [] (fun r o => o = [] ∧ r = arrT (enO n p (dR ms) k)) := by
  refine fn_intro (E := env 0) tys_ok rfl rfl rfl Tryz.func18 (by kernel_rfl) rfl (by kernel_rfl) ?_
  have h60 := h.l
  have hpl := pks_len p
  by_cases hk : k < 0 ∨ (p.length : Int) ≤ k
  · have e : enO n p (dR ms) k = none := if_pos hk
    rw [e]
    (repeat' (conv => whnf); first | (refine aC (fun _ => ?_) (fun _ => ?_) <;> try (exfalso; omega)) | refine z3_O1 ?_ | (refine aK [] (ORouO_ok n hn p (by omega) k hk) ?_) | (refine CallOb.mk [] (ODone_ok ms hm k (0 - 1)) rfl ⟨Imp.refl _, Imp.refl _, Imp.num (by omega), trivial⟩ rfl rfl ?_; rintro _ _ ⟨rfl, rfl⟩; rw [show dnO (dR ms) k (0 - 1) = none from if_pos (.inr (.inl (by omega)))]; simp only [arrT]) | fail); all_goals try (conv => whnf)
    exact ⟨rfl, rfl⟩
  · obtain ⟨k, rfl⟩ : ∃ k' : Nat, k = k' := ⟨k.toNat, by omega⟩
    have hkl : k < p.length := by omega
    rw [enO_in h hkl]
    have cR := ORouI_ok n hn p h k hkl
    have hg := pks_get hkl
    obtain ⟨f1, f2, t1, t2, hRt, _⟩ := h.fl hkl
    have r4 := hRt.l2
    have hrl := ints_len (pfl n (p.getD k pk0)).rt
    generalize (pfl n (p.getD k pk0)).rt = rt at *
    generalize p.getD k pk0 = x at *
    have cD := ODone_ok ms hm k ((rt.length : Int) - 1)
    have hb := fun d => dnO_bd (d := d) hm (k := k) (h := (rt.length : Int) - 1)
    cases hd : dnO (dR ms) k ((rt.length : Int) - 1) with
    | none =>
      rw [hd] at cD
      simp only [arrT] at cD
      (repeat' (conv => whnf); first | (refine aC (fun _ => ?_) (fun _ => ?_) <;> try (exfalso; omega)) | refine z3_O1 ?_ | (refine aK [] cR ?_) | (refine CallOb.mk [] cD rfl ⟨Imp.refl _, Imp.refl _, Imp.num (by omega), trivial⟩ rfl rfl ?_; rintro _ _ ⟨rfl, rfl⟩) | fail); all_goals try (conv => whnf)
      exact ⟨rfl, rfl⟩
    | some d =>
      rw [hd] at cD
      have hb := hb d hd
      simp only [arrT] at cD
      (repeat' (conv => whnf); first | refine ⟨k, _, rfl, hg, ?_⟩ | (refine aC (fun _ => ?_) (fun _ => ?_) <;> try (exfalso; omega)) | refine z3_O1 ?_ | (refine aK [] cR ?_) | (refine CallOb.mk [] cD rfl ⟨Imp.refl _, Imp.refl _, Imp.num (by omega), trivial⟩ rfl rfl ?_; rintro _ _ ⟨rfl, rfl⟩) | fail); all_goals try (conv => whnf)
      exact ⟨rfl, rfl⟩
end Go.Proofs.YtaomhdljcdadaaaGreat
end
section
namespace Go.Proofs.YtaomhdljcdadaaaGreat
open Go.Sx
set_option maxRecDepth 4000
set_option maxHeartbeats 2000000
theorem ints_take (l : List Int) (k : Nat) : (ints l).take k = ints (l.take k) := by simp [ints, List.map_take]
abbrev src (L : List Int) (k : Nat) : Chunk := .box [.psl 1 (ints L), i64 k]
def md (x n : Int) : Int := if x.tmod n < 0 then x.tmod n + n else x.tmod n
theorem md_bd {x n : Int} (hn : 1 ≤ n) : 0 ≤ md x n ∧ md x n < n := by
 have h1 := Int.tmod_lt_of_pos x (show 0 < n by omega)
 have h2 : -n < x.tmod n := by
  have h3 := Int.tmod_lt_of_pos (-x) (show 0 < n by omega)
  rw [Int.neg_tmod] at h3
  omega
 unfold md; split <;> omega
theorem aP_Kn {A B K : Prop} (k : K) (a : A := by (simp only [zA, zT, zD, zC, zN, ints_len, zR, Go.Cv.vals_len]; omega)) (b : B := by (simp only [zA, zT, zD, zC, zN, ints_len, zR, Go.Cv.vals_len]; omega)) : (A ∧ B) ∧ K := ⟨⟨a, b⟩, k⟩
theorem z1_Kn {G H : Prop} (k : H) (h : H → G := by first | exact fun r => aS r | exact fun r => aG r | exact fun r => aD r | exact fun r => aH r | exact fun r => aP_Kn r | exact fun r => aI r | exact fun r => aJ r) : G := h k
theorem Mod_ok (x n : Int) (hn : 1 ≤ n) (hn2 : n ≤ 9223372036854775807) : Ctr Tryz.prog 73 [i64 x, i64 n] [] (fun r o => o = [] ∧ r = i64 (md x n)) := by
 refine fn_intro (E := env 0) tys_ok rfl rfl rfl Tryz.func73 (by kernel_rfl) rfl (by kernel_rfl) ?_
 have hb := md_bd (x := x) hn
 have h1 := Int.tmod_lt_of_pos x (show 0 < n by omega)
 unfold md at hb
 (repeat' (conv => whnf); first | (refine aC (fun _ => ?_) (fun _ => ?_) <;> try (exfalso; omega)) | refine z1_Kn ?_ | fail); all_goals try (conv => whnf)
 refine ⟨by omega, ?_⟩
 (repeat' (conv => whnf); first | (refine aC (fun _ => ?_) (fun _ => ?_) <;> try (exfalso; omega)) | refine z1_Kn ?_ | fail); all_goals try (conv => whnf)
 ·exact ⟨rfl, by simp only [oneS]; unfold md; rw [if_pos (by assumption)]⟩
 ·exact ⟨rfl, by simp only [oneS]; unfold md; rw [if_neg (by assumption)]⟩
theorem z2_Kn {G H : Prop} (k : H) (h : H → G := by first | exact fun r => aS r | exact fun r => aG r | exact fun r => aD r | exact fun r => aH r | exact fun r => aP_Kn r | exact fun r => aI r | exact fun r => aJ r | exact fun r => aW (.qs [0, 1, 2, 3, 4, 5, 6, 7, 8, 9] .nil) r | exact fun r => aW (.qs [0, 1, 2, 3, 4, 5, 6, 7, 8, 9, 10, 11] .nil) r) : G := h k
theorem Raw_ok (L : List Int) (k : Nat) (hL : L.length ≤ 2000) (hk : k ≤ 2000) :
  Ctr Tryz.prog 74 [.ptr 0 0] [src L k] (fun r o => ∃ x : Int × Nat, x.2 ≤ 2000 ∧ o = [src L x.2] ∧ r = i64 x.1) := by
 refine fn_intro (E := env 1) tys_ok rfl rfl rfl Tryz.func74 (by kernel_rfl) rfl (by kernel_rfl) ?_
 (repeat' (conv => whnf); first | refine aC (fun _ => ?_) (fun _ => ?_) | refine z2_Kn ?_ | fail); all_goals try (conv => whnf)
 ·exact ⟨(0, k), hk, rfl, rfl⟩
 ·simp only [ints_len] at *
  exact ⟨(_, k + 1), by simp only; omega, rfl, rfl⟩
theorem N_ok (L : List Int) (k : Nat) (hL : L.length ≤ 2000) (hk : k ≤ 2000) (n : Int) (hn : 1 ≤ n) (hn2 : n ≤ 9223372036854775807) :
  Ctr Tryz.prog 30 [.ptr 0 0, i64 n] [src L k] (fun r o => ∃ x : Int × Nat, (0 ≤ x.1 ∧ x.1 < n ∧ x.2 ≤ 2000) ∧ o = [src L x.2] ∧ r = i64 x.1) := by
 refine fn_intro (E := env 1) tys_ok rfl rfl rfl Tryz.func30 (by kernel_rfl) rfl (by kernel_rfl) ?_
 (repeat' (conv => whnf); first | refine aC (fun _ => ?_) (fun _ => ?_) | refine z1_Kn ?_ | fail); all_goals try (conv => whnf)
 refine aM [0] (Raw_ok L k hL hk) rfl rfl ?_
 rintro _ _ ⟨⟨v, k'⟩, hk', rfl, rfl⟩
 (repeat' (conv => whnf); first | refine aC (fun _ => ?_) (fun _ => ?_) | refine z1_Kn ?_ | fail); all_goals try (conv => whnf)
 refine aK [] (Mod_ok v n hn hn2) ?_
 (repeat' (conv => whnf); first | refine aC (fun _ => ?_) (fun _ => ?_) | refine z1_Kn ?_ | fail); all_goals try (conv => whnf)
 exact ⟨(md v n, k'), ⟨(md_bd hn).1, (md_bd hn).2, hk'⟩, rfl, rfl⟩
theorem getD_mem {l : List Int} {i : Nat} (h : i < l.length) : l.getD i 0 ∈ l := by
 rw [List.getD_eq_getElem?_getD, List.getElem?_eq_getElem h]; exact List.getElem_mem h
theorem Pick_ok (L : List Int) (k : Nat) (hL : L.length ≤ 2000) (hk : k ≤ 2000) (l : List Int) (hl : 1 ≤ l.length) (hl2 : l.length ≤ 1000000) :
  Ctr Tryz.prog 59 [.ptr 0 0, .psl 1 (ints l)] [src L k] (fun r o => ∃ x : Int × Nat, (x.1 ∈ l ∧ x.2 ≤ 2000) ∧ o = [src L x.2] ∧ r = i64 x.1) := by
 refine fn_intro (E := env 1) tys_ok rfl rfl rfl Tryz.func59 (by kernel_rfl) rfl (by kernel_rfl) ?_
 (repeat' (conv => whnf); first | refine aC (fun _ => ?_) (fun _ => ?_) | refine z1_Kn ?_ | fail); all_goals try (conv => whnf)
 refine aM [0] (N_ok L k hL hk _ (by rw [ints_len]; omega) (by rw [ints_len]; omega)) rfl rfl ?_
 rintro _ _ ⟨⟨v, k'⟩, ⟨h1, h2, hk'⟩, rfl, rfl⟩
 (repeat' (conv => whnf); first | refine aC (fun _ => ?_) (fun _ => ?_) | refine z1_Kn ?_ | fail); all_goals try (conv => whnf)
 refine ⟨(l.getD v.toNat 0, k'), ⟨getD_mem (by simp only [ints_len] at h2; omega), hk'⟩, rfl, rfl⟩
theorem New_ok (l : List Int) (hl : l.length ≤ 9223372036854775807) :
  Ctr Tryz.prog 13 [.psl 1 (ints l)] [] (fun r o => o = [src (l.take 2000) 0] ∧ r = .ptr 0 0) := by
 refine fn_intro (E := env 0) tys_ok rfl rfl rfl Tryz.func13 (by kernel_rfl) rfl (by kernel_rfl) ?_
 (repeat' (conv => whnf); first | refine aC (fun _ => ?_) (fun _ => ?_) | refine z1_Kn ?_ | fail); all_goals try (conv => whnf)
 simp only [ints_len]
 refine ⟨min l.length 2000, by omega, ⟨by omega, by omega⟩, ?_⟩
 (repeat' (conv => whnf); first | refine aC (fun _ => ?_) (fun _ => ?_) | refine z1_Kn ?_ | fail); all_goals try (conv => whnf)
 refine ⟨?_, rfl⟩
 have e : l.take (min l.length 2000) = l.take 2000 := by
  by_cases h : l.length ≤ 2000
  ·rw [Nat.min_eq_left h, List.take_of_length_le (Nat.le_refl _), List.take_of_length_le h]
  ·rw [Nat.min_eq_right (by omega)]
 rw [List.drop_zero, ints_take, e]
 rfl
end Go.Proofs.YtaomhdljcdadaaaGreat
end
