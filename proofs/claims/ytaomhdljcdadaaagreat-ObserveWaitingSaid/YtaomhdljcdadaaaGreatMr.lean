/- Lemmas that the proofs of this seat use (Mr Mtt). Conditions: those that stand in each theorem. -/
import Derived.Test.YtaomhdljcdadaaaGreatS8
set_option linter.unusedVariables false
set_option linter.unusedSimpArgs false
section
namespace Go.Mc
open Go.Pk Go.Np
variable {F : Tf} {Z : Li} {N l : Nat} {ms : List (List Int)} {S : Nat → Bool}
theorem rows_ext {ms ms' : List (List Int)} (h1 : ms.length = ms'.length) (h2 : ∀ i, (ms.getD i []).length = (ms'.getD i []).length) (h3 : ∀ i h, i < ms.length → h < (ms.getD i []).length → dR ms i h = dR ms' i h) : ms = ms' := by
 refine List.ext_getElem h1 fun i a b => ?_
 have e1 : ms.getD i [] = ms[i] := by rw [List.getD_eq_getElem?_getD, List.getElem?_eq_getElem a]; rfl
 have e2 : ms'.getD i [] = ms'[i] := by rw [List.getD_eq_getElem?_getD, List.getElem?_eq_getElem b]; rfl
 have h2 := h2 i
 have h3 := h3 i
 unfold dR at h3
 rw [e1, e2] at h2
 rw [e1, e2] at h3
 refine List.ext_getElem h2 fun h c d => ?_
 have := h3 h a c
 rw [List.getD_eq_getElem?_getD, List.getElem?_eq_getElem c, List.getD_eq_getElem?_getD, List.getElem?_eq_getElem d] at this
 exact this
structure ShM (F : Tf) (N : Nat) (ms : List (List Int)) : Prop where
 l : ms.length = F.np
 r : ∀ i, i < F.np → (ms.getD i []).length = (F.rt i).length
 b : ∀ i h, i < F.np → h < (F.rt i).length → -1 ≤ dR ms i h ∧ dR ms i h < N
noncomputable def trR (F : Tf) (Z : Li) (N : Nat) : List (List Int) := (List.range F.np).map fun i => (List.range (F.rt i).length).map fun h => tr F Z N i h
theorem trR_at {i h : Nat} (hi : i < F.np) (hh : h < (F.rt i).length) : dR (trR F Z N) i h = tr F Z N i h := by
 unfold dR trR
 simp [List.getD_eq_getElem?_getD, hi, hh]
theorem trR_rlen {i : Nat} (hi : i < F.np) : ((trR F Z N).getD i []).length = (F.rt i).length := by
 unfold trR
 simp [List.getD_eq_getElem?_getD, hi]
theorem trR_len : (trR F Z N).length = F.np := by simp [trR]
theorem trR_eq (h : ShM F N ms) (e : ∀ i k, i < F.np → k < (F.rt i).length → dR ms i k = tr F Z N i k) : ms = trR F Z N :=
 rows_ext (by rw [trR_len, h.l]) (fun i => by
  by_cases hi : i < F.np
  ·rw [trR_rlen hi, h.r i hi]
  ·rw [List.getD_eq_getElem?_getD, List.getElem?_eq_none (by rw [h.l]; omega), List.getD_eq_getElem?_getD, List.getElem?_eq_none (by rw [trR_len]; omega)]) fun i k hi hk => by
  rw [h.l] at hi
  rw [h.r i hi] at hk
  rw [e i k hi hk, trR_at hi hk]
theorem trR_sh (hR : Rts F) : ShM F N (trR F Z N) :=
 ⟨trR_len, fun i hi => trR_rlen hi, fun i h hi hh => by
  rw [trR_at hi hh]
  rcases tr_bd hR Z N hi hh with e | ⟨e1, e2, _⟩ <;> omega⟩
end Go.Mc
end
section
namespace Go.Mc
open Go.Pk Go.Np
structure RtG (n : Nt) (f : Fl) : Prop where
 l1 : 1 ≤ f.rt.length
 l2 : f.rt.length ≤ 4
 b : ∀ i, i < f.rt.length → 0 ≤ f.rt.getD i 0 ∧ f.rt.getD i 0 < n.ln.length
 d : ∀ i j, i < j → j < f.rt.length → f.rt.getD i 0 ≠ f.rt.getD j 0
 c : ∀ i, i < f.rt.length → 0 ≤ f.cl ∧ f.cl < (n.ln.getD (f.rt.getD i 0).toNat ln0).n
 s1 : 1 ≤ f.lo
 s2 : f.hi ≤ 1500
theorem mem_takeG {l : List Int} {i j : Nat} (h1 : j < i) (h2 : j < l.length) : l.getD j 0 ∈ l.take i := by
 rw [List.mem_iff_getElem]
 refine ⟨j, by rw [List.length_take]; omega, ?_⟩
 rw [List.getElem_take]
 simp [List.getD_eq_getElem?_getD, h2]
theorem chk_rt {n : Nt} (h : chkN n = 0) {j : Nat} (hj : j < n.fl.length) : RtG n (n.fl.getD j fl0) := by
 have h1 := (chkN_zero h).2.2.2 j hj
 unfold flowE at h1
 generalize n.fl.getD j fl0 = f at *
 split at h1
 ·exact absurd h1 (by assumption)
 ·split at h1
  ·exact absurd h1 (by assumption)
  ·rename_i _ h2
   have hs : 1 ≤ f.lo ∧ f.hi ≤ 1500 := by
    unfold trafE at h1
    split at h1
    ·cases h1
    ·omega
   have h : routeE n.ln f = 0 := by omega
   unfold routeE at h
   split at h
   ·omega
   ·split at h
    ·omega
    ·rename_i h1 h2
     have hz := firstE_zero h
     have key : ∀ i, i < f.rt.length → (0 ≤ f.rt.getD i 0 ∧ f.rt.getD i 0 < n.ln.length) ∧ f.rt.getD i 0 ∉ f.rt.take i ∧ 0 ≤ f.cl ∧ f.cl < (n.ln.getD (f.rt.getD i 0).toNat ln0).n := by
      intro i hi
      have h3 := hz i hi
      unfold hopE at h3
      split at h3
      ·omega
      ·split at h3
       ·omega
       ·split at h3
        ·omega
        ·exact ⟨by omega, by assumption, by omega, by omega⟩
     refine ⟨by omega, by omega, fun i hi => (key i hi).1, fun i j hij hj e => ?_, fun i hi => (key i hi).2.2, hs.1, hs.2⟩
     have := (key j hj).2.1
     rw [← e] at this
     exact this (mem_takeG hij (by omega))
theorem chk_ln {n : Nt} (h : chkN n = 0) {j : Nat} (hj : j < n.ln.length) : lnErr (n.ln.getD j ln0) = 0 := by
 have h1 := (chkN_zero h).2.2.1 j hj
 unfold lineE at h1
 split at h1
 ·exact absurd h1 (by assumption)
 ·exact h1
theorem chk_n {n : Nt} (h : chkN n = 0) : n.ln.length ≤ 8 ∧ n.fl.length ≤ 10 := by
 have h1 := (chkN_zero h).1
 omega
theorem SkP.fl {n : Nt} {p : List Pk} (h : SkP n p) {i : Nat} (hi : i < p.length) : 0 ≤ (p.getD i pk0).f ∧ (p.getD i pk0).f < n.fl.length ∧ 0 ≤ (p.getD i pk0).t ∧ (p.getD i pk0).t ≤ 380 ∧ RtG n (pfl n (p.getD i pk0)) ∧ (pfl n (p.getD i pk0)).lo ≤ (p.getD i pk0).s ∧ (p.getD i pk0).s ≤ (pfl n (p.getD i pk0)).hi := by
 have h1 := h.g i hi
 unfold bdP at h1
 refine ⟨by omega, by omega, by omega, by omega, chk_rt h.h (by omega), by omega, by omega⟩
theorem SkP.rt {n : Nt} {p : List Pk} (h : SkP n p) : RtP n p := by
 refine ⟨fun i hi => ⟨(h.fl hi).1, (h.fl hi).2.1⟩, fun i hi x hx => ?_⟩
 obtain ⟨_, _, _, _, hG, _⟩ := h.fl hi
 obtain ⟨j, hj, rfl⟩ := List.mem_iff_getElem.1 hx
 have := (hG.b j hj).1
 rw [List.getD_eq_getElem?_getD, List.getElem?_eq_getElem hj] at this
 exact this
theorem SkP.lnn {n : Nt} {p : List Pk} (h : SkP n p) {i k : Nat} (hi : i < p.length) (hk : k < ((toF n p).rt i).length) : ((lin (toF n p) i k : Nat) : Int) = (pfl n (p.getD i pk0)).rt.getD k 0 ∧ lin (toF n p) i k < n.ln.length := by
 obtain ⟨_, _, _, _, hG, _⟩ := h.fl hi
 have hk2 : k < (pfl n (p.getD i pk0)).rt.length := by simpa [toF] using hk
 have hb := hG.b k hk2
 have e : lin (toF n p) i k = ((pfl n (p.getD i pk0)).rt.getD k 0).toNat := by
  show ((pfl n (p.getD i pk0)).rt.map Int.toNat).getD k 0 = _
  generalize (pfl n (p.getD i pk0)).rt = r at hk2 ⊢
  rw [List.getD_eq_getElem?_getD, List.getElem?_map, List.getD_eq_getElem?_getD, List.getElem?_eq_getElem hk2]; rfl
 rw [e]; omega
theorem SkP.rts {n : Nt} {p : List Pk} (h : SkP n p) : Rts (toF n p) := by
 intro i hi
 obtain ⟨_, _, _, _, hG, _⟩ := h.fl hi
 show ((pfl n (p.getD i pk0)).rt.map Int.toNat).Nodup
 generalize pfl n (p.getD i pk0) = f at hG
 refine List.pairwise_iff_getElem.2 fun a b ha hb hab => ?_
 rw [List.length_map] at hb
 rw [List.getElem_map, List.getElem_map]
 have h1 := hG.b a (by omega)
 have h2 := hG.b b hb
 have h3 := hG.d a b hab hb
 rw [List.getD_eq_getElem?_getD, List.getElem?_eq_getElem (Nat.lt_trans hab hb)] at h1 h3
 rw [List.getD_eq_getElem?_getD, List.getElem?_eq_getElem hb] at h2 h3
 simp only [Option.getD_some, ne_eq] at *
 omega
theorem SkP.qu {n : Nt} {p : List Pk} (h : SkP n p) {D : Tp} {N : Nat} (hN : N ≤ 2000) (hb : ∀ i k, i < p.length → k < ((toF n p).rt i).length → D i k < N) {l : Nat} {x : Wt} (hx : x ∈ qu (toF n p) D l) :
  x.i < p.length ∧ 1 ≤ (p.getD x.i pk0).s ∧ (p.getD x.i pk0).s ≤ 1500 ∧ 0 ≤ x.a ∧ x.a ≤ 2000 ∧ 0 ≤ (pfl n (p.getD x.i pk0)).cl ∧ (pfl n (p.getD x.i pk0)).cl < (n.ln.getD l ln0).n ∧ (∃ k, hp (toF n p) l x.i = some k) := by
 obtain ⟨h1, ⟨k, h2, h3⟩, h4⟩ := ((qu_ok (toF n p) D l).m x).1 hx
 have h1 : x.i < p.length := h1
 obtain ⟨_, _, t1, t2, hG, s1, s2⟩ := h.fl h1
 obtain ⟨k1, k2⟩ := hp_some h2
 have k3 : k < (pfl n (p.getD x.i pk0)).rt.length := by simpa [toF] using k1
 have hc := hG.c k k3
 have hl := (h.lnn h1 k1).1
 rw [k2] at hl
 rw [← hl, Int.toNat_natCast] at hc
 have ha : 0 ≤ x.a ∧ x.a ≤ 2000 := by
  unfold arr at h3
  split at h3
  ·have e : (p.getD x.i pk0).t = x.a := Option.some.inj h3
   omega
  ·split at h3
   ·rename_i hk0 hall
    have e : D x.i (k - 1) + 1 = x.a := Option.some.inj h3
    have := hall (k - 1) (by omega)
    have := hb x.i (k - 1) h1 (by omega)
    omega
   ·cases h3
 have := hG.s1; have := hG.s2
 exact ⟨h1, by omega, by omega, ha.1, ha.2, hc.1, hc.2, k, h2⟩
theorem qu_len (n : Nt) (p : List Pk) (D : Tp) (l : Nat) : (qu (toF n p) D l).length ≤ p.length := by
 have := quL_len (n := n) (p := p) (D := D) (l := l) p.length
 rw [quL_nat] at this
 exact this
def inQ (q : List Wt) (i : Nat) : Bool := q.any fun x => decide (x.i = i)
theorem inQ_iff {q : List Wt} {i : Nat} : inQ q i = true ↔ ∃ x ∈ q, x.i = i := by simp [inQ]
theorem inQ_take {q : List Wt} {k : Nat} (hk : k < q.length) (i : Nat) : inQ (q.take (k + 1)) i = (inQ (q.take k) i || decide (q[k].i = i)) := by
 unfold inQ
 rw [List.take_succ_eq_append_getElem hk, List.any_append]
 simp
theorem Qu.fresh {F : Tf} {D : Tp} {l : Nat} {q : List Wt} (h : Qu F D l q) {k : Nat} (hk : k < q.length) : inQ (q.take k) q[k].i = false := by
  cases hb : inQ (q.take k) q[k].i with
  | false => rfl
  | true =>
    obtain ⟨x, hx, e⟩ := inQ_iff.1 hb
    obtain ⟨j, hj, rfl⟩ := List.mem_iff_getElem.1 hx
    rw [List.length_take] at hj
    rw [List.getElem_take] at e
    have := h.inj (by omega) hk e
    omega
theorem pas_out {F : Tf} {Z : Li} {N l i : Nat} {D : Tp} {q : List Wt} (h : Qu F D l q) (hi : inQ q i = false) : pas F Z N D l i = -1 := by
 have e := h.uniq (qu_ok F D l)
 subst e
 unfold pas
 rw [plc_none.2 fun x hx e => ?_]
 have : inQ (qu F D l) i = true := inQ_iff.2 ⟨x, hx, e⟩
 rw [hi] at this; cases this
end Go.Mc
end
