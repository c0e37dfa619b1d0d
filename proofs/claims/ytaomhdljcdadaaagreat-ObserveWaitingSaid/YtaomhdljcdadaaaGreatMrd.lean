/- Lemmas that the proofs of this seat use (Mrd). Conditions: those that stand in each theorem. -/
import Derived.Test.YtaomhdljcdadaaaGreatMr
import Derived.Test.YtaomhdljcdadaaaGreatMq
set_option linter.unusedVariables false
set_option linter.unusedSimpArgs false
namespace Go.Mc
open Go.Pk
variable {F : Tf} {Z : Li} {N : Nat}
def CT (F : Tf) (Z : Li) (N T : Nat) (D : Tp) : Prop := ∀ i h, i < F.np → h < (F.rt i).length → D i h = cut T (tr F Z N i h)
theorem CT.zero {D : Tp} (h : ∀ i k, i < F.np → k < (F.rt i).length → D i k = -1) : CT F Z N 0 D := fun i k hi hk => by
 rw [h i k hi hk]; unfold cut; rw [if_neg (by omega)]
theorem CT.av (hR : Rts F) {T : Nat} {D : Tp} (h : CT F Z N T D) {i k : Nat} (hi : i < F.np) (hk : k < (F.rt i).length) : Av (T + 1) (pas F Z N D (lin F i k) i) (tr F Z N i k) := tr_step hR Z (ag_cut h) hi hk
theorem CT.mon (hR : Rts F) {T : Nat} {D : Tp} (h : CT F Z N T D) : Mon F D := fun i k hi hk h0 => by
 rw [h i (k + 1) hi hk] at h0 ⊢
 rw [h i k hi (by omega)]
 obtain ⟨c1, c2, c3⟩ := cut_nonneg h0
 obtain ⟨m1, m2⟩ := tr_mon hR Z N i k hi hk c2
 have e : cut T (tr F Z N i k) = tr F Z N i k := by unfold cut; rw [if_pos ⟨m1, by omega⟩]
 rw [c1, e]; exact ⟨m1, m2⟩
theorem CT.ge (hR : Rts F) {T : Nat} {D : Tp} (h : CT F Z N T D) {i k : Nat} (hi : i < F.np) (hk : k < (F.rt i).length) (h0 : 0 ≤ pas F Z N D (lin F i k) i) (hD : D i k < 0) : (T : Int) ≤ pas F Z N D (lin F i k) i := by
 refine Classical.byContradiction fun hn => ?_
 have e := h.av hR hi hk (.inl ⟨h0, by omega⟩)
 rw [h i k hi hk, ← e] at hD
 unfold cut at hD
 rw [if_pos ⟨h0, by omega⟩] at hD
 omega
theorem CT.up1 (hR : Rts F) {T : Nat} {D : Tp} (h : CT F Z N T D) (hn : ∀ i k, i < F.np → k < (F.rt i).length → D i k < 0 → pas F Z N D (lin F i k) i ≠ T) : CT F Z N (T + 1) D := fun i k hi hk => by
 have h1 := h i k hi hk
 by_cases e : tr F Z N i k = T
 ·have h2 := h.av hR hi hk (.inr ⟨by omega, by omega⟩)
  have h3 : D i k = -1 := by rw [h1]; unfold cut; rw [if_neg (by omega)]
  exact absurd (h2.trans e) (hn i k hi hk (by omega))
 ·rw [h1]
  unfold cut
  by_cases c : 0 ≤ tr F Z N i k ∧ tr F Z N i k < T
  ·rw [if_pos c, if_pos ⟨c.1, by omega⟩]
  ·rw [if_neg c, if_neg (by omega)]
theorem CT.up (hR : Rts F) {D : Tp} {L : Nat} (hL : ∀ i k, i < F.np → k < (F.rt i).length → D i k < 0 → 0 ≤ pas F Z N D (lin F i k) i → (L : Int) ≤ pas F Z N D (lin F i k) i) : ∀ {j T : Nat}, CT F Z N T D → T + j = L → CT F Z N L D
 |0, T, h, e => by rw [← e]; exact h
 |j + 1, T, h, e => CT.up hR hL (j := j) (h.up1 hR fun i k hi hk hd hp => by have := hL i k hi hk hd (by omega); omega) (by omega)
theorem CT.step (hR : Rts F) {D D' : Tp} {L : Nat} (h : CT F Z N L D) (hD : ∀ i k, i < F.np → k < (F.rt i).length → D' i k = if pas F Z N D (lin F i k) i = L ∧ D i k < 0 then (L : Int) else D i k) : CT F Z N (L + 1) D' := fun i k hi hk => by
 have h1 := h i k hi hk
 have h2 := h.av hR hi hk
 rw [hD i k hi hk]
 by_cases e : tr F Z N i k = L
 ·have h3 := h2 (.inr ⟨by omega, by omega⟩)
  have h4 : D i k = -1 := by rw [h1]; unfold cut; rw [if_neg (by omega)]
  rw [if_pos ⟨h3.trans e, by omega⟩]
  unfold cut; rw [if_pos ⟨by omega, by omega⟩]; exact e.symm
 ·rw [if_neg (fun c => e ((h2 (.inl ⟨by omega, by omega⟩)).symm.trans c.1)), h1]
  unfold cut
  by_cases c : 0 ≤ tr F Z N i k ∧ tr F Z N i k < L
  ·rw [if_pos c, if_pos ⟨c.1, by omega⟩]
  ·rw [if_neg c, if_neg (by omega)]
theorem CT.lt (hR : Rts F) {D : Tp} {T : Nat} (h : CT F Z N T D) (hT : N ≤ T) : ∀ i k, i < F.np → k < (F.rt i).length → D i k = tr F Z N i k := fun i k hi hk => by
 rw [h i k hi hk]
 rcases tr_bd hR Z N hi hk with e | ⟨e1, e2, _⟩
 ·rw [e]; unfold cut; rw [if_neg (by omega)]
 ·unfold cut; rw [if_pos ⟨e1, by omega⟩]
theorem CT.fin (hR : Rts F) {D : Tp} {T : Nat} (h : CT F Z N T D) (hn : ∀ i k, i < F.np → k < (F.rt i).length → D i k < 0 → pas F Z N D (lin F i k) i < 0) : ∀ i k, i < F.np → k < (F.rt i).length → D i k = tr F Z N i k :=
 (CT.up hR (L := T + N) (fun i k hi hk hd h0 => by have := hn i k hi hk hd; omega) h (j := N) rfl).lt hR (by omega)
theorem arr_mon {D : Tp} (hM : Mon F D) {i h : Nat} (hi : i < F.np) (hh : h < (F.rt i).length) : arr F D i h = if h = 0 then some (F.t i) else if 0 ≤ D i (h - 1) then some (D i (h - 1) + 1) else none := by
 unfold arr
 by_cases h0 : h = 0
 ·rw [if_pos h0, if_pos h0]
 ·rw [if_neg h0, if_neg h0]
  by_cases hd : 0 ≤ D i (h - 1)
  ·rw [if_pos hd, if_pos fun j hj => ?_]
   by_cases e : j = h - 1
   ·rw [e]; exact hd
   ·exact (hM.lt hi (h := h - 1) (by omega) hd j (by omega)).1
  ·rw [if_neg hd, if_neg fun c => hd (c (h - 1) (by omega))]
theorem qu_keep {D D' : Tp} (hM : Mon F D) (hM' : Mon F D') {l : Nat} (h : ∀ i k, i < F.np → k + 1 < (F.rt i).length → lin F i (k + 1) = l → D' i k = D i k) : qu F D' l = qu F D l := by
 refine ord_uniq (qu_ok F _ l).o (qu_ok F _ l).o fun x => ?_
 have key : ∀ i k, i < F.np → hp F l i = some k → arr F D' i k = arr F D i k := fun i k hi hk => by
  obtain ⟨h1, h2⟩ := hp_some hk
  rw [arr_mon hM' hi h1, arr_mon hM hi h1]
  by_cases h0 : k = 0
  ·rw [if_pos h0, if_pos h0]
  ·rw [if_neg h0, if_neg h0, h i (k - 1) hi (by omega) (by rw [show k - 1 + 1 = k by omega]; exact h2)]
 rw [(qu_ok F _ l).m, (qu_ok F _ l).m]
 constructor
 ·rintro ⟨a, ⟨k, b, c⟩, d⟩; exact ⟨a, ⟨k, b, by rw [← key x.i k a b]; exact c⟩, d⟩
 ·rintro ⟨a, ⟨k, b, c⟩, d⟩; exact ⟨a, ⟨k, b, by rw [key x.i k a b]; exact c⟩, d⟩
theorem ite_of {α : Type} {p q : Prop} {i1 : Decidable p} {i2 : Decidable q} (h : p ↔ q) {a b : α} : @ite α p i1 a b = @ite α q i2 a b := by
 by_cases c : p
 ·rw [if_pos c, if_pos (h.1 c)]
 ·rw [if_neg c, if_neg fun k => c (h.2 k)]
open Classical in
noncomputable def rdM (F : Tf) (Z : Li) (N : Nat) (ms : List (List Int)) (L : Int) (S : Nat → Nat → Prop) : List (List Int) :=
 ms.mapIdx fun i r => r.mapIdx fun h v => if S (lin F i h) i ∧ pas F Z N (dR ms) (lin F i h) i = L ∧ v < 0 then L else v
variable {ms : List (List Int)} {L : Int} {S S' : Nat → Nat → Prop}
theorem rdM_len : (rdM F Z N ms L S).length = ms.length := by simp [rdM]
theorem rdM_rlen {i : Nat} : ((rdM F Z N ms L S).getD i []).length = (ms.getD i []).length := by
 unfold rdM
 rw [List.getD_eq_getElem?_getD, List.getElem?_mapIdx, List.getD_eq_getElem?_getD]
 cases ms[i]? with
 |none => rfl
 |some r => simp
open Classical in
theorem rdM_at {i h : Nat} (hh : h < (ms.getD i []).length) : dR (rdM F Z N ms L S) i h = if S (lin F i h) i ∧ pas F Z N (dR ms) (lin F i h) i = L ∧ dR ms i h < 0 then L else dR ms i h := by
 have hi : i < ms.length := Classical.byContradiction fun hn => by
  rw [List.getD_eq_getElem?_getD, List.getElem?_eq_none (by omega)] at hh; simp at hh
 unfold dR rdM
 rw [List.getD_eq_getElem?_getD (l := List.mapIdx _ _), List.getElem?_mapIdx, List.getD_eq_getElem?_getD (l := ms), List.getElem?_eq_getElem hi]
 rw [List.getD_eq_getElem?_getD (l := ms), List.getElem?_eq_getElem hi] at hh
 simp only [Option.map_some, Option.getD_some] at hh ⊢
 rw [List.getD_eq_getElem?_getD, List.getElem?_mapIdx, List.getD_eq_getElem?_getD, List.getElem?_eq_getElem hh]
 rfl
theorem rdM_none (h : ∀ l i, ¬S l i) : rdM F Z N ms L S = ms :=
 rows_ext rdM_len (fun _ => rdM_rlen) fun i k hi hk => by
  rw [rdM_len] at hi
  rw [rdM_rlen] at hk
  rw [rdM_at hk, if_neg fun c => h _ _ c.1]
theorem rdM_ext (h : ∀ l i, S l i ↔ S' l i) : rdM F Z N ms L S = rdM F Z N ms L S' := by
 have : S = S' := funext fun l => funext fun i => propext (h l i)
 rw [this]
theorem rdM_sh (hS : ShM F N ms) (hL : -1 ≤ L ∧ L < N) : ShM F N (rdM F Z N ms L S) :=
 ⟨by rw [rdM_len, hS.l], fun i hi => by rw [rdM_rlen, hS.r i hi], fun i k hi hk => by
  rw [rdM_at (by rw [hS.r i hi]; exact hk)]
  split
  ·exact hL
  ·exact hS.b i k hi hk⟩
theorem rdM_put (hR : Rts F) (hS : ShM F N ms) {l i h : Nat} (hi : i < F.np) (hh : hp F l i = some h) (hS' : ∀ l' i', S' l' i' ↔ S l' i' ∨ (l' = l ∧ i' = i)) (hn : ¬S l i) (hp : pas F Z N (dR ms) l i = L) (hd : dR (rdM F Z N ms L S) i h < 0) :
  rdM F Z N ms L S' = (rdM F Z N ms L S).set i (((rdM F Z N ms L S).getD i []).set h L) := by
 obtain ⟨h1, h2⟩ := hp_some hh
 have hrl := hS.r i hi
 have hdm : dR ms i h < 0 := by
  rw [rdM_at (by rw [hrl]; exact h1), if_neg (by rw [h2]; exact fun c => hn c.1)] at hd; exact hd
 refine rows_ext (by rw [rdM_len, List.length_set, rdM_len]) (fun j => ?_) fun j k hj hk => ?_
 ·rw [rdM_rlen]
  by_cases e : j = i
  ·subst e
   rw [List.getD_eq_getElem?_getD (l := List.set _ _ _), List.getElem?_set_self (by rw [rdM_len, hS.l]; exact hi), Option.getD_some, List.length_set, rdM_rlen]
  ·rw [List.getD_eq_getElem?_getD (l := List.set _ _ _), List.getElem?_set_ne (fun c => e c.symm), ← List.getD_eq_getElem?_getD, rdM_rlen]
 ·rw [rdM_len, hS.l] at hj
  rw [rdM_rlen] at hk
  rw [rdM_at hk]
  by_cases e : j = i
  ·subst e
   unfold dR
   rw [List.getD_eq_getElem?_getD (l := List.set _ _ _), List.getElem?_set_self (by rw [rdM_len, hS.l]; exact hi), Option.getD_some]
   by_cases ek : k = h
   ·subst ek
    rw [List.getD_eq_getElem?_getD (l := List.set _ _ _), List.getElem?_set_self (by rw [rdM_rlen]; exact hk), Option.getD_some]
    rw [h2, hS']
    exact if_pos ⟨.inr ⟨rfl, rfl⟩, hp, hdm⟩
   ·rw [List.getD_eq_getElem?_getD (l := List.set _ _ _), List.getElem?_set_ne (fun c => ek c.symm), ← List.getD_eq_getElem?_getD]
    have := rdM_at (F := F) (Z := Z) (N := N) (L := L) (S := S) hk
    unfold dR at this
    rw [this]
    have hne : lin F j k ≠ l := fun c => ek (by
     have h3 := hp_lin hR hi (h := k) (by rw [← hrl]; exact hk)
     rw [c, hh] at h3
     exact (Option.some.inj h3).symm)
    exact ite_of (by rw [hS']; exact ⟨fun c => ⟨c.1.resolve_right fun e => hne e.1, c.2⟩, fun c => ⟨.inl c.1, c.2⟩⟩)
  ·unfold dR
   rw [List.getD_eq_getElem?_getD (l := List.set _ _ _), List.getElem?_set_ne (fun c => e c.symm), ← List.getD_eq_getElem?_getD]
   have := rdM_at (F := F) (Z := Z) (N := N) (L := L) (S := S) hk
   unfold dR at this
   rw [this]
   exact ite_of (by rw [hS']; exact ⟨fun c => ⟨c.1.resolve_right fun e2 => e e2.2, c.2⟩, fun c => ⟨.inl c.1, c.2⟩⟩)
theorem rdM_skip (hR : Rts F) (hS : ShM F N ms) {l i h : Nat} (hi : i < F.np) (hh : hp F l i = some h) (hS' : ∀ l' i', S' l' i' ↔ S l' i' ∨ (l' = l ∧ i' = i)) (hn : ¬S l i) (hc : ¬(pas F Z N (dR ms) l i = L ∧ dR (rdM F Z N ms L S) i h < 0)) :
  rdM F Z N ms L S' = rdM F Z N ms L S := by
 obtain ⟨h1, h2⟩ := hp_some hh
 have hrl := hS.r i hi
 rw [rdM_at (by rw [hrl]; exact h1), if_neg (by rw [h2]; exact fun c => hn c.1)] at hc
 refine rows_ext (by rw [rdM_len, rdM_len]) (fun j => by rw [rdM_rlen, rdM_rlen]) fun j k hj hk => ?_
 rw [rdM_len, hS.l] at hj
 rw [rdM_rlen] at hk
 rw [rdM_at hk, rdM_at hk]
 by_cases e : lin F j k = l ∧ j = i
 ·obtain ⟨e1, e2⟩ := e
  subst e2
  have h3 := hp_lin hR hi (h := k) (by rw [← hrl]; exact hk)
  rw [e1, hh] at h3
  have ek := Option.some.inj h3
  subst ek
  rw [e1, if_neg (fun c => hc c.2), if_neg (fun c => hc c.2)]
 ·exact ite_of (by rw [hS']; exact ⟨fun c => ⟨c.1.resolve_right e, c.2⟩, fun c => ⟨.inl c.1, c.2⟩⟩)
end Go.Mc
