/- Lemmas that the proofs of this seat use (W3 X2 Mvi). Conditions: those that stand in each theorem. -/
import Derived.Test.YtaomhdljcdadaaaGreatO2
import Derived.Test.YtaomhdljcdadaaaGreatN6
import Derived.Test.YtaomhdljcdadaaaGreatPl
import Derived.Test.YtaomhdljcdadaaaGreatMq
set_option linter.unusedVariables false
set_option linter.unusedSimpArgs false
section
namespace Go.Proofs.YtaomhdljcdadaaaGreat
open Go.Sx Go.Cv
set_option maxRecDepth 4000
theorem aP_W3 {A B K : Prop} (k : K) (a : A := by (simp only [zA, zT, zD, zC, zN, ints_len, zR, Go.Cv.vals_len]; omega)) (b : B := by (simp only [zA, zT, zD, zC, zN, ints_len, zR, Go.Cv.vals_len]; omega)) : (A ∧ B) ∧ K := ⟨⟨a, b⟩, k⟩
theorem z1_W3 {G H : Prop} (k : H) (h : H → G := by first | exact fun r => aS r | exact fun r => aG r | exact fun r => aD r | exact fun r => aH r | exact fun r => aP_W3 r | exact fun r => aI r | exact fun r => aJ r) : G := h k
theorem WAt_ok (vs : List Int) (p : Nat) (q t : Int) (hb : Bd vs p q) (ht : 0 ≤ t) (ht2 : t ≤ 1048576) :
  Ctr Tryz.prog 137 [crv vs p q, i64 t] [] (fun r o => o = [] ∧ r = i64 (val vs p q t.toNat)) := by
 obtain ⟨p1, pn, hn, q0, q1, hv⟩ := hb
 obtain ⟨t, rfl⟩ := Int.eq_ofNat_of_zero_le ht
 simp only [Int.toNat_natCast]
 refine fn_intro (E := env 0) tys_ok rfl rfl rfl Tryz.func137 (by kernel_rfl) rfl (by kernel_rfl) ?_
 (repeat' (conv => whnf); first | refine aC (fun _ => ?_) (fun _ => ?_) | refine z1_W3 ?_ | fail); all_goals try (conv => whnf)
 all_goals try (simp only [ints_len] at *)
 all_goals try omega
 ·exact ⟨trivial, by simp only [oneS]; rw [val_lt (by omega)]⟩
 ·have hle : vs.length ≤ t := by omega
  have e1 : ((t : Int) - vs.length).tdiv p = ((t - vs.length) / p : Nat) := by
   rw [Int.tdiv_eq_ediv_of_nonneg (by omega)]
   push_cast [Int.ofNat_sub hle]; rfl
  have hx := at_idx hle p1 pn
  have hd : (t - vs.length) / p ≤ t - vs.length := Nat.div_le_self _ _
  have hval : val vs p q t = if vs.getD (t - ((t - vs.length) / p + 1) * p) 0 = INF then INF else vs.getD (t - ((t - vs.length) / p + 1) * p) 0 + ((t - vs.length) / p + 1 : Nat) * q := by
   simp only [val]; rw [if_neg (by omega)]
  rw [hval, e1]
  generalize (t - vs.length) / p = k at *
  have e3 : ((k : Int) + 1) * (p : Int) = ((k + 1) * p : Nat) := by push_cast; rfl
  have hkq := mul_bd (a := (k : Int) + 1) (b := q) (A := 1048577) (B := 1099511627776) (by omega) (by omega) (by omega) (by omega)
  have hv1 := hv ((t : Int) - ((k : Int) + 1) * p).toNat
  refine ⟨by omega, ?_⟩
  (repeat' (conv => whnf); first | refine aC (fun _ => ?_) (fun _ => ?_) | refine z1_W3 ?_ | fail); all_goals try (conv => whnf)
  all_goals rw [show ((t : Int) - ((k : Int) + 1) * p).toNat = t - (k + 1) * p by omega] at *
  ·exact ⟨rfl, by simp only [oneS]; rw [if_pos (by assumption)]; congr 1⟩
  ·exact ⟨rfl, by simp only [oneS]; rw [if_neg (by assumption)]; push_cast; rfl⟩
theorem z3_W3 {G H : Prop} (k : H) (h : H → G := by first | exact fun r => aS r | exact fun r => aG r | exact fun r => aD r | exact fun r => aH r | exact fun r => aP_W3 r | exact fun r => aI r | exact fun r => aJ r | exact fun r => aW (.qs [0, 1, 2, 3, 4, 5, 6, 7, 8, 9, 10, 11, 12, 13] .nil) r) : G := h k
theorem CValid_ok (vs : List Int) (p i : Int) (hlv : vs.length ≤ 140737488355328) :
  Ctr Tryz.prog 147 [crv vs p i] [] (fun r o => o = [] ∧ r = .bp (ValidP vs p i)) := by
 refine Ctr.imp ?_
 refine fn_intro (E := env 0) tys_ok rfl rfl rfl Tryz.func147 (by kernel_rfl) rfl (by kernel_rfl) ?_
 (repeat' (conv => whnf); first | refine aC (fun _ => ?_) (fun _ => ?_) | refine z3_W3 ?_ | fail); all_goals try (conv => whnf)
 all_goals try (refine And.intro rfl (Imp.bl ⟨fun h => (by cases h), fun h => ?_⟩); simp only [ints_len] at *; simp only [ValidP] at h; omega)
 rename_i h1 h2 h3 h4 h5 h6 h7
 simp only [ints_len] at *
 have bd : ∀ j, j < vs.length → (∀ k < j + 1, vs.getD k 0 = INF ∨ 0 ≤ vs.getD k 0 ∧ vs.getD k 0 ≤ 1073741824) → True := fun _ _ _ => trivial
 refine LoopOb.mk (Y := Nat) (st := fun j => ⟨[(45, i64 j), (44, i64 vs.length), (43, .psl 1 (ints vs)), (4, i64 (if j = 0 then 0 else vs.getD (j - 1) 0)), (3, i64 vs.length), (1, .ptr 0 0)], [.box [.psl 1 (ints vs), .num .i64 p, .num .i64 i]]⟩)
  (inv := fun j => j ≤ vs.length ∧ (∀ k < j, vs.getD k 0 = 4611686018427387904 ∨ 0 ≤ vs.getD k 0 ∧ vs.getD k 0 ≤ 1073741824) ∧ (∀ k, k + 1 < j → vs.getD k 0 ≤ vs.getD (k + 1) 0)) (fun j => vs.length - j) 0 [0] ⟨by omega, fun k hk => by omega, fun k hk => by omega⟩ (by (exact aL)) ?_
 rintro j ⟨hj, hv, hm⟩
 have hlast : j ≠ 0 → vs.getD (j - 1) 0 = 4611686018427387904 ∨ 0 ≤ vs.getD (j - 1) 0 ∧ vs.getD (j - 1) 0 ≤ 1073741824 := fun h => hv (j - 1) (by omega)
 (repeat' (conv => whnf); first | refine aC (fun _ => ?_) (fun _ => ?_) | refine z3_W3 ?_ | fail); all_goals try (conv => whnf)
 all_goals try (
  refine And.intro rfl (Imp.bl ⟨fun h => (by cases h), fun h => ?_⟩)
  obtain ⟨_, _, _, _, _, _, _, q1, q2, q3, _⟩ := h
  have q1 := q1 j
  have q2 := q2 (j - 1)
  rcases Nat.eq_zero_or_pos j with h0 | h0
  ·subst h0; simp only [if_true, Nat.zero_sub] at *; omega
  ·try rw [if_neg (show ¬j = 0 by omega)] at *
   rw [show j - 1 + 1 = j by omega] at q2
   omega)
 all_goals try (
  refine ⟨j + 1, [0], ⟨by omega, fun k hk => ?_, fun k hk => ?_⟩, by omega, ?_⟩
  ·by_cases hkj : k = j
   ·subst hkj
    rcases Nat.eq_zero_or_pos k with h0 | h0
    ·subst h0; simp only [if_true] at *; omega
    ·rw [if_neg (show ¬k = 0 by omega)] at *; omega
   ·exact hv k (by omega)
  ·by_cases hkj : k + 1 = j
   ·subst hkj; rw [if_neg (show ¬k + 1 = 0 by omega)] at *; simp only [Nat.add_sub_cancel] at *; omega
   ·exact hm k (by omega)
  ·refine Le.mk (by kernel_rfl) ?_ ?_ <;> repeat' (first | exact True.intro | refine And.intro ?_ ?_ | exact Imp.refl _ | exact Imp.any _ | exact Imp.num (by omega) | exact rfl | exact Imp.num (by simp)))
 all_goals have hjl : j = vs.length := by omega
 all_goals subst hjl
 all_goals rw [if_neg (show ¬vs.length = 0 by omega)] at *
 ·have hx2 : vs.getD (vs.length - 1) 0 = 4611686018427387904 := by assumption
  have hp : p = 1 := by assumption
  exact ⟨rfl, Imp.bp ⟨fun h => ⟨by omega, by omega, by omega, by omega, by omega, by omega, by omega, hv, hm, fun _ => ⟨hp, h⟩, fun h' => absurd hx2 h'⟩, fun h => by obtain ⟨_, _, _, _, _, _, _, _, _, q3, _⟩ := h; exact (q3 hx2).2⟩⟩
 ·have hx2 : vs.getD (vs.length - 1) 0 = 4611686018427387904 := by assumption
  refine ⟨rfl, Imp.bl ⟨fun h => (by cases h), fun h => ?_⟩⟩
  obtain ⟨_, _, _, _, _, _, _, _, _, q3, _⟩ := h
  have := (q3 hx2).1
  omega
 ·have hx2 : ¬vs.getD (vs.length - 1) 0 = 4611686018427387904 := by assumption
  have hq := hv (vs.length - p).toNat (by omega)
  refine ArOb.fits (by omega) ?_
  (repeat' (conv => whnf); first | refine aC (fun _ => ?_) (fun _ => ?_) | refine z3_W3 ?_ | fail); all_goals try (conv => whnf)
  rw [show (vs.length - p : Int).toNat = vs.length - p.toNat by omega] at *
  exact ⟨rfl, Imp.bp ⟨fun h => ⟨by omega, by omega, by omega, by omega, by omega, by omega, by omega, hv, hm, fun h' => absurd h' hx2, fun _ => h⟩, fun h => by obtain ⟨_, _, _, _, _, _, _, _, _, _, q4⟩ := h; exact q4 hx2⟩⟩
end Go.Proofs.YtaomhdljcdadaaaGreat
end
section
namespace Go.Proofs.YtaomhdljcdadaaaGreat
open Go.Sx Go.Np Go.Cv Go.Tp
set_option maxRecDepth 4000
set_option maxHeartbeats 2000000
abbrev dls (d : List (List Int)) : List (List SV) := d.map fun r => [.psl 1 (ints r)]
theorem dls_len (d : List (List Int)) : (dls d).length = d.length := by simp [dls]
theorem dls_get {d : List (List Int)} {i : Nat} (h : i < d.length) : (dls d)[i]? = some [.psl 1 (ints (d.getD i []))] := by simp [dls, h]
structure DL (d : List (List Int)) : Prop where
 l : d.length ≤ 9223372036854775807
 r : ∀ i, (d.getD i []).length ≤ 9223372036854775807
theorem aP_X2 {A B K : Prop} (k : K) (a : A := by (simp only [zA, zT, zD, zC, zN, ints_len, zR, Go.Cv.vals_len]; omega)) (b : B := by (simp only [zA, zT, zD, zC, zN, ints_len, zR, Go.Cv.vals_len]; omega)) : (A ∧ B) ∧ K := ⟨⟨a, b⟩, k⟩
theorem z1_X2 {G H : Prop} (k : H) (h : H → G := by first | exact fun r => aS r | exact fun r => aG r | exact fun r => aD r | exact fun r => aH r | exact fun r => aP_X2 r | exact fun r => aI r | exact fun r => aJ r) : G := h k
theorem Shape_ok (n : Nt) (hn : NL n) (d : List (List Int)) (hd : DL d) : Ctr Tryz.prog 79 [ntv n, .psl 1 (dls d)] [] (fun r o => o = [] ∧ r = .bp (ShapeP n d)) := by
 refine Ctr.imp ?_
 refine fn_intro (E := env 0) tys_ok rfl rfl rfl Tryz.func79 (by kernel_rfl) rfl (by kernel_rfl) ?_
 have cC := Check_ok n hn
 have hll := lnl n.ln
 have hdl := dls_len d
 have hd1 := hd.l
 (repeat' (conv => whnf); first | (refine aC (fun _ => ?_) (fun _ => ?_) <;> try (exfalso; omega)) | refine z1_X2 ?_ | (refine aK [] cC ?_) | fail); all_goals try (conv => whnf)
 all_goals try (exact ⟨rfl, Imp.bl ⟨fun h => (by cases h), fun h => by have := h.c; have := h.l; omega⟩⟩)
 have hc : chkN n = 0 := by omega
 have hl : d.length = n.ln.length := by omega
 refine LoopOb.mk (Y := Nat) (st := fun i => ⟨[(22, i64 i), (21, i64 (dls d).length), (20, .psl 1 (dls d)), (2, .ptr 0 0)], [.box [.psl 1 (strs n.nm), .psl 5 (lns n.ln), .psl 8 (fls n.fl)]]⟩)
  (inv := fun i => i ≤ d.length ∧ (∀ k, k < i → ((d.getD k []).length : Int) = (n.ln.getD k ln0).n) ∧ ∀ k, k < i → ∀ j, j < (d.getD k []).length → -1 ≤ (d.getD k []).getD j 0 ∧ (d.getD k []).getD j 0 ≤ 400) (fun i => d.length - i) 0 [0] ⟨by omega, by omega, by omega⟩ (by (exact aL)) ?_
 rintro i ⟨hi, hv1, hv2⟩
 (repeat' (conv => whnf); first | refine z1_X2 ?_ | fail); all_goals try (conv => whnf)
 refine CondOb.mk (fun hlt => ?_) (fun hlt => ?_)
 ·have hil : i < d.length := by omega
  have hg := dls_get hil
  have hg2 := lng (l := n.ln) (i := i) (by omega)
  have hrl := hd.r i
  have hS : (ShapeP n d → ((d.getD i []).length : Int) = (n.ln.getD i ln0).n ∧ ∀ j, j < (d.getD i []).length → -1 ≤ (d.getD i []).getD j 0 ∧ (d.getD i []).getD j 0 ≤ 400) := fun h => ⟨h.r i hil, h.b i hil⟩
  have hst : ((d.getD i []).length : Int) = (n.ln.getD i ln0).n → (∀ j, j < (d.getD i []).length → -1 ≤ (d.getD i []).getD j 0 ∧ (d.getD i []).getD j 0 ≤ 400) → (∀ k, k < i + 1 → ((d.getD k []).length : Int) = (n.ln.getD k ln0).n) ∧ ∀ k, k < i + 1 → ∀ j, j < (d.getD k []).length → -1 ≤ (d.getD k []).getD j 0 ∧ (d.getD k []).getD j 0 ≤ 400 := fun h1 h2 => by
   refine ⟨fun k hk => ?_, fun k hk => ?_⟩
   ·by_cases e : k = i
    ·rw [e]; exact h1
    ·exact hv1 k (by omega)
   ·by_cases e : k = i
    ·rw [e]; exact h2
    ·exact hv2 k (by omega)
  clear hv1 hv2
  generalize n.ln.getD i ln0 = ll at *
  generalize d.getD i [] = row at *
  have hil2 := ints_len row
  (repeat' (conv => whnf); first | refine ⟨i, _, rfl, hg2, ?_⟩ | refine ⟨i, _, rfl, hg, ?_⟩ | (refine aC (fun _ => ?_) (fun _ => ?_) <;> try (exfalso; omega)) | refine z1_X2 ?_ | fail); all_goals try (conv => whnf)
  ·exact ⟨rfl, Imp.bl ⟨fun h => (by cases h), fun h => by have := (hS h).1; omega⟩⟩
  have hrn : (row.length : Int) = ll.n := by omega
  refine LoopOb.mk (Y := Nat) (st := fun j => ⟨[(38, i64 j), (37, i64 (ints row).length), (36, .psl 1 (ints row)), (22, i64 i), (21, i64 (dls d).length), (20, .psl 1 (dls d)), (2, .ptr 0 0)], [.box [.psl 1 (strs n.nm), .psl 5 (lns n.ln), .psl 8 (fls n.fl)]]⟩)
   (inv := fun j => j ≤ row.length ∧ ∀ k, k < j → -1 ≤ row.getD k 0 ∧ row.getD k 0 ≤ 400) (fun j => row.length - j) 0 [0] ⟨by omega, by omega⟩ (by (exact aL)) ?_
  rintro j ⟨hj, hw⟩
  (repeat' (conv => whnf); first | refine z1_X2 ?_ | fail); all_goals try (conv => whnf)
  refine CondOb.mk (fun hlt2 => ?_) (fun hlt2 => ?_)
  ·have hjl : j < row.length := by omega
   have hS2 : ShapeP n d → -1 ≤ row.getD j 0 ∧ row.getD j 0 ≤ 400 := fun h => (hS h).2 j hjl
   have hst2 : -1 ≤ row.getD j 0 ∧ row.getD j 0 ≤ 400 → ∀ k, k < j + 1 → -1 ≤ row.getD k 0 ∧ row.getD k 0 ≤ 400 := fun h k hk => by
    by_cases e : k = j
    ·rw [e]; exact h
    ·exact hw k (by omega)
   (repeat' (conv => whnf); first | (refine aC (fun _ => ?_) (fun _ => ?_) <;> try (exfalso; omega)) | refine z1_X2 ?_ | fail); all_goals try (conv => whnf)
   all_goals first
    |exact ⟨j + 1, [0], ⟨by omega, hst2 (by omega)⟩, by omega, by (exact aL)⟩
    |exact ⟨rfl, Imp.bl ⟨fun h => (by cases h), fun h => by have := hS2 h; omega⟩⟩
  ·have e : j = row.length := by omega
   subst e
   obtain ⟨s1, s2⟩ := hst hrn hw
   (repeat' (conv => whnf); first | (refine aC (fun _ => ?_) (fun _ => ?_) <;> try (exfalso; omega)) | refine z1_X2 ?_ | fail); all_goals try (conv => whnf)
   exact ⟨i + 1, [0], ⟨by omega, s1, s2⟩, by omega, by (exact aL)⟩
 ·have e : i = d.length := by omega
  subst e
  (repeat' (conv => whnf); first | (refine aC (fun _ => ?_) (fun _ => ?_) <;> try (exfalso; omega)) | refine z1_X2 ?_ | fail); all_goals try (conv => whnf)
  exact ⟨rfl, Imp.bl ⟨fun _ => ⟨hc, hl, hv1, hv2⟩, fun _ => rfl⟩⟩
end Go.Proofs.YtaomhdljcdadaaaGreat
end
section
namespace Go.Mc
structure Vi where
 k : Nat
 h : Int
 x : Int
def optL (i : Nat) (h : Int) : Option Int → List Vi
 |none => []
 |some x => [⟨i, h, x⟩]
def hopL (g : Nat → Nat → Option Int) (i : Nat) : Nat → List Vi
 |0 => []
 |h + 1 => hopL g i h ++ optL i h (g i h)
def allL (g : Nat → Nat → Option Int) (e : Nat → Option Int) (m : Nat → Nat) : Nat → List Vi
 |0 => []
 |i + 1 => allL g e m i ++ (hopL g i (m i) ++ optL i (-1) (e i))
variable {g : Nat → Nat → Option Int} {e : Nat → Option Int} {m : Nat → Nat}
theorem hopL_pre {i h : Nat} : ∀ {k : Nat}, h ≤ k → ∃ r, hopL g i k = hopL g i h ++ r
  | 0, hk => by obtain rfl : h = 0 := by omega
                exact ⟨[], by simp⟩
  | k + 1, hk => by
    by_cases c : h = k + 1
    · subst c; exact ⟨[], by simp⟩
    · obtain ⟨r, hr⟩ := hopL_pre (i := i) (h := h) (k := k) (by omega)
      exact ⟨r ++ optL i k (g i k), by rw [hopL, hr, List.append_assoc]⟩
theorem allL_pre {i : Nat} : ∀ {k : Nat}, i ≤ k → ∃ r, allL g e m k = allL g e m i ++ r
  | 0, hk => by obtain rfl : i = 0 := by omega
                exact ⟨[], by simp⟩
  | k + 1, hk => by
    by_cases c : i = k + 1
    · subst c; exact ⟨[], by simp⟩
    · obtain ⟨r, hr⟩ := allL_pre (i := i) (k := k) (by omega)
      exact ⟨r ++ (hopL g k (m k) ++ optL k (-1) (e k)), by rw [allL, hr, List.append_assoc]⟩
theorem at_hop {N i h : Nat} {x : Int} (hi : i < N) (hh : h < m i) (hx : g i h = some x) : ∃ r, allL g e m N = (allL g e m i ++ hopL g i h) ++ ⟨i, h, x⟩ :: r := by
 obtain ⟨r1, h1⟩ := allL_pre (g := g) (e := e) (m := m) (i := i + 1) (k := N) hi
 obtain ⟨r2, h2⟩ := hopL_pre (g := g) (i := i) (h := h + 1) (k := m i) hh
 rw [hopL, hx] at h2
 exact ⟨r2 ++ optL i (-1) (e i) ++ r1, by rw [h1, allL, h2]; simp [optL]⟩
theorem at_end {N i : Nat} {x : Int} (hi : i < N) (hx : e i = some x) : ∃ r, allL g e m N = (allL g e m i ++ hopL g i (m i)) ++ ⟨i, -1, x⟩ :: r := by
 obtain ⟨r1, h1⟩ := allL_pre (g := g) (e := e) (m := m) (i := i + 1) (k := N) hi
 exact ⟨r1, by rw [h1, allL, hx]; simp [optL]⟩
theorem hopL_mem {i : Nat} {v : Vi} : ∀ {k : Nat}, v ∈ hopL g i k → v.k = i ∧ ∃ h : Nat, h < k ∧ v.h = h ∧ g i h = some v.x
  | 0, hv => by cases hv
  | k + 1, hv => by
    rw [hopL, List.mem_append] at hv
    rcases hv with hv | hv
    · obtain ⟨a, h, b, c⟩ := hopL_mem hv
      exact ⟨a, h, by omega, c⟩
    · cases hg : g i k with
      | none => rw [hg] at hv; cases hv
      | some x =>
        rw [hg, optL, List.mem_singleton] at hv
        subst hv
        exact ⟨rfl, k, by omega, rfl, hg⟩
theorem allL_mem {v : Vi} : ∀ {N : Nat}, v ∈ allL g e m N → v.k < N ∧ ((v.h = -1 ∧ e v.k = some v.x) ∨ ∃ h : Nat, h < m v.k ∧ v.h = h ∧ g v.k h = some v.x)
  | 0, hv => by cases hv
  | N + 1, hv => by
    rw [allL, List.mem_append, List.mem_append] at hv
    rcases hv with hv | hv | hv
    · obtain ⟨a, b⟩ := allL_mem hv
      exact ⟨by omega, b⟩
    · obtain ⟨a, h, b, c, d⟩ := hopL_mem hv
      rw [a]
      exact ⟨by omega, .inr ⟨h, b, c, d⟩⟩
    · cases he : e N with
      | none => rw [he] at hv; cases hv
      | some x =>
        rw [he, optL, List.mem_singleton] at hv
        subst hv
        exact ⟨by simp only; omega, .inl ⟨rfl, he⟩⟩
theorem pick_at {α : Type} {L P r : List α} {v : α} (h : L = P ++ v :: r) : L[P.length]? = some v ∧ L.take P.length = P ∧ L.take (P.length + 1) = P ++ [v] := by
 subst h
 refine ⟨by simp, by simp, ?_⟩
 rw [List.take_append, List.take_of_length_le (by omega), show P.length + 1 - P.length = 1 by omega]; rfl
end Go.Mc
end
