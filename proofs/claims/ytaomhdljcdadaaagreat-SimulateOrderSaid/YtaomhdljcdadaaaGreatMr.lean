/-
  A text of the proofs of this seat: lemmas that the statements' proofs use; it states nothing of the program by itself beyond the contracts that its theorems bear. Conditions: those that stand in each theorem. Its short name: Mr.
-/
import Derived.Test.YtaomhdljcdadaaaGreatMo
set_option linter.unusedVariables false
set_option linter.unusedSimpArgs false
namespace Go.Mc
open Go.Pk Go.Np
/-! passes of lines over rows -/
/- what is noted of some packets at a line -/
noncomputable def nteM (F : Tf) (Z : Li) (N : Nat) (l : Nat) (ms : List (List Int)) (S : Nat → Bool) : List (List Int) :=
  ms.mapIdx fun i row => row.mapIdx fun h v => if S i = true ∧ hp F l i = some h then pas F Z N (dR ms) l i else v
noncomputable def pasM (F : Tf) (Z : Li) (N : Nat) (l : Nat) (ms : List (List Int)) : List (List Int) := nteM F Z N l ms fun _ => true
/- whether something is different -/
def ChgM (F : Tf) (Z : Li) (N : Nat) (l : Nat) (ms : List (List Int)) (S : Nat → Bool) : Prop := ∃ i h, i < F.np ∧ S i = true ∧ hp F l i = some h ∧ pas F Z N (dR ms) l i ≠ dR ms i h
variable {F : Tf} {Z : Li} {N l : Nat} {ms : List (List Int)} {S : Nat → Bool}
theorem nte_len : (nteM F Z N l ms S).length = ms.length := by simp [nteM]
theorem nte_row {i : Nat} : (nteM F Z N l ms S).getD i [] = (ms.getD i []).mapIdx fun h v => if S i = true ∧ hp F l i = some h then pas F Z N (dR ms) l i else v := by
  unfold nteM
  rw [List.getD_eq_getElem?_getD, List.getElem?_mapIdx, List.getD_eq_getElem?_getD]
  cases ms[i]? <;> simp
theorem nte_rlen {i : Nat} : ((nteM F Z N l ms S).getD i []).length = (ms.getD i []).length := by rw [nte_row]; simp
theorem nte_at {i h : Nat} (hh : h < (ms.getD i []).length) : dR (nteM F Z N l ms S) i h = if S i = true ∧ hp F l i = some h then pas F Z N (dR ms) l i else dR ms i h := by
  show ((nteM F Z N l ms S).getD i []).getD h (-1) = if S i = true ∧ hp F l i = some h then pas F Z N (dR ms) l i else (ms.getD i []).getD h (-1)
  rw [nte_row]
  generalize ms.getD i [] = row at hh ⊢
  simp only [List.getD_eq_getElem?_getD, List.getElem?_mapIdx, List.getElem?_eq_getElem hh, Option.map_some, Option.getD_some]
/- rows of a given shape are given by their entries -/
theorem rows_ext {ms ms' : List (List Int)} (h1 : ms.length = ms'.length) (h2 : ∀ i, (ms.getD i []).length = (ms'.getD i []).length) (h3 : ∀ i h, i < ms.length → h < (ms.getD i []).length → dR ms i h = dR ms' i h) : ms = ms' := by
  refine List.ext_getElem h1 fun i a b => ?_
  have e1 : ms.getD i [] = ms[i] := by rw [List.getD_eq_getElem?_getD, List.getElem?_eq_getElem a]; rfl
  have e2 : ms'.getD i [] = ms'[i] := by rw [List.getD_eq_getElem?_getD, List.getElem?_eq_getElem b]; rfl
  have h2 := h2 i
  have h3 := h3 i
  unfold dR at h3
  rw [e1, e2] at h2
  rw [e1, e2] at h3
  refine List.ext_getElem h2 fun h c d => ?_
  have := h3 h a c
  rw [List.getD_eq_getElem?_getD, List.getElem?_eq_getElem c, List.getD_eq_getElem?_getD, List.getElem?_eq_getElem d] at this
  exact this
theorem nte_none (h : ∀ i, i < ms.length → ∀ k, S i = true → hp F l i ≠ some k) : nteM F Z N l ms S = ms :=
  rows_ext nte_len (fun _ => nte_rlen) fun i k hi hk => by
    rw [nte_len] at hi
    rw [nte_rlen] at hk
    rw [nte_at hk, if_neg fun e => h i hi k e.1 e.2]
/- one packet more is noted -/
theorem nte_step {S' : Nat → Bool} {i h : Nat} (hi : i < ms.length) (hh : hp F l i = some h) (h1 : S' i = true) (h2 : ∀ j, j ≠ i → S' j = S j) :
    (nteM F Z N l ms S).set i (((nteM F Z N l ms S).getD i []).set h (pas F Z N (dR ms) l i)) = nteM F Z N l ms S' := by
  have hi' : i < (nteM F Z N l ms S).length := by rw [nte_len]; exact hi
  have er : ∀ (r : List Int) (j : Nat), ((nteM F Z N l ms S).set i r).getD j [] = if j = i then r else (nteM F Z N l ms S).getD j [] := fun r j => by
    rw [List.getD_eq_getElem?_getD, List.getElem?_set, List.getD_eq_getElem?_getD]
    by_cases e : i = j
    · subst e; simp [hi']
    · rw [if_neg e, if_neg (Ne.symm e)]
  refine rows_ext (by simp [nte_len]) (fun j => ?_) fun j k hj hk => ?_
  · rw [er]
    split
    · rename_i e; subst e; rw [List.length_set, nte_rlen, nte_rlen]
    · rw [nte_rlen, nte_rlen]
  · rw [er] at hk
    unfold dR
    rw [er]
    split
    · rename_i e
      subst e
      rw [if_pos rfl, List.length_set] at hk
      have hk2 := hk
      rw [nte_rlen] at hk2
      have := nte_at (F := F) (Z := Z) (N := N) (l := l) (S := S') hk2
      have h0 := nte_at (F := F) (Z := Z) (N := N) (l := l) (S := S) hk2
      unfold dR at this h0
      rw [this, List.getD_eq_getElem?_getD, List.getElem?_set]
      by_cases e : h = k
      · subst e; rw [if_pos rfl, if_pos hk, if_pos ⟨h1, hh⟩]; rfl
      · rw [if_neg e, ← List.getD_eq_getElem?_getD, h0, if_neg fun c => e (by have := c.2; rw [hh] at this; exact Option.some.inj this), if_neg fun c => e (by have := c.2; rw [hh] at this; exact Option.some.inj this)]
    · rename_i e
      rw [if_neg e, nte_rlen] at hk
      have := nte_at (F := F) (Z := Z) (N := N) (l := l) (S := S') hk
      have h0 := nte_at (F := F) (Z := Z) (N := N) (l := l) (S := S) hk
      unfold dR at this h0
      rw [this, h0, h2 j e]
theorem nte_skip {S' : Nat → Bool} {i : Nat} (hh : hp F l i = none ∨ S i = true) (h1 : S' i = true) (h2 : ∀ j, j ≠ i → S' j = S j) : nteM F Z N l ms S = nteM F Z N l ms S' :=
  rows_ext (by rw [nte_len, nte_len]) (fun _ => by rw [nte_rlen, nte_rlen]) fun j k hj hk => by
    rw [nte_rlen] at hk
    rw [nte_at hk, nte_at hk]
    by_cases e : j = i
    · subst e
      rcases hh with hh | hh
      · rw [hh]; simp
      · rw [hh, h1]
    · rw [h2 j e]
theorem nte_old {i h : Nat} (hh : h < (ms.getD i []).length) (hS : S i = false) : dR (nteM F Z N l ms S) i h = dR ms i h := by
  rw [nte_at hh, if_neg]; rintro ⟨e, _⟩; rw [hS] at e; cases e
theorem chg_step {S' : Nat → Bool} {i h : Nat} (hi : i < F.np) (hh : hp F l i = some h) (h1 : S' i = true) (h2 : ∀ j, j ≠ i → S' j = S j) : ChgM F Z N l ms S' ↔ ChgM F Z N l ms S ∨ pas F Z N (dR ms) l i ≠ dR ms i h := by
  constructor
  · rintro ⟨j, k, a, b, c, d⟩
    by_cases e : j = i
    · subst e
      have : h = k := by rw [hh] at c; exact Option.some.inj c
      subst this
      exact .inr d
    · exact .inl ⟨j, k, a, by rw [← h2 j e]; exact b, c, d⟩
  · rintro (⟨j, k, a, b, c, d⟩ | h)
    · refine ⟨j, k, a, ?_, c, d⟩
      by_cases e : j = i
      · subst e; exact h1
      · rw [h2 j e]; exact b
    · exact ⟨i, _, hi, h1, hh, h⟩
theorem chg_skip {S' : Nat → Bool} {i : Nat} (hh : hp F l i = none ∨ S i = true) (h1 : S' i = true) (h2 : ∀ j, j ≠ i → S' j = S j) : ChgM F Z N l ms S' ↔ ChgM F Z N l ms S := by
  constructor
  · rintro ⟨j, k, a, b, c, d⟩
    by_cases e : j = i
    · subst e
      rcases hh with hh | hh
      · rw [hh] at c; cases c
      · exact ⟨j, k, a, hh, c, d⟩
    · exact ⟨j, k, a, by rw [← h2 j e]; exact b, c, d⟩
  · rintro ⟨j, k, a, b, c, d⟩
    refine ⟨j, k, a, ?_, c, d⟩
    by_cases e : j = i
    · subst e; exact h1
    · rw [h2 j e]; exact b
/-! sweeps -/
/- rows as routes have them, with entries that a run of N ticks makes -/
structure ShM (F : Tf) (N : Nat) (ms : List (List Int)) : Prop where
  l : ms.length = F.np
  r : ∀ i, i < F.np → (ms.getD i []).length = (F.rt i).length
  b : ∀ i h, i < F.np → h < (F.rt i).length → -1 ≤ dR ms i h ∧ dR ms i h < N
theorem pasM_sh (h : ShM F N ms) : ShM F N (pasM F Z N l ms) :=
  ⟨by rw [pasM, nte_len, h.l], fun i hi => by rw [pasM, nte_rlen, h.r i hi], fun i k hi hk => by
    rw [pasM, nte_at (by rw [h.r i hi]; exact hk)]
    split
    · rcases pas_bd F Z N (dR ms) l i with e | ⟨e1, e2, _⟩
      · have := h.b i k hi hk
        omega
      · omega
    · exact h.b i k hi hk⟩
theorem pasM_at (hR : Rts F) (h : ShM F N ms) {i k : Nat} (hi : i < F.np) (hk : k < (F.rt i).length) : dR (pasM F Z N l ms) i k = if lin F i k = l then pas F Z N (dR ms) l i else dR ms i k := by
  rw [pasM, nte_at (by rw [h.r i hi]; exact hk)]
  by_cases e : lin F i k = l
  · rw [if_pos e, if_pos ⟨rfl, by rw [← e]; exact hp_lin hR hi hk⟩]
  · rw [if_neg e, if_neg fun c => e (hp_some c.2).2]
/- the rows of the trip -/
noncomputable def trR (F : Tf) (Z : Li) (N : Nat) : List (List Int) := (List.range F.np).map fun i => (List.range (F.rt i).length).map fun h => tr F Z N i h
theorem trR_at {i h : Nat} (hi : i < F.np) (hh : h < (F.rt i).length) : dR (trR F Z N) i h = tr F Z N i h := by
  unfold dR trR
  simp [List.getD_eq_getElem?_getD, hi, hh]
theorem trR_rlen {i : Nat} (hi : i < F.np) : ((trR F Z N).getD i []).length = (F.rt i).length := by
  unfold trR
  simp [List.getD_eq_getElem?_getD, hi]
theorem trR_len : (trR F Z N).length = F.np := by simp [trR]
theorem trR_eq (h : ShM F N ms) (e : ∀ i k, i < F.np → k < (F.rt i).length → dR ms i k = tr F Z N i k) : ms = trR F Z N :=
  rows_ext (by rw [trR_len, h.l]) (fun i => by
    by_cases hi : i < F.np
    · rw [trR_rlen hi, h.r i hi]
    · rw [List.getD_eq_getElem?_getD, List.getElem?_eq_none (by rw [h.l]; omega), List.getD_eq_getElem?_getD, List.getElem?_eq_none (by rw [trR_len]; omega)]) fun i k hi hk => by
    rw [h.l] at hi
    rw [h.r i hi] at hk
    rw [e i k hi hk, trR_at hi hk]
/- within a sweep: the lines before l have been passed -/
def AgL (F : Tf) (Z : Li) (N k l : Nat) (D : Tp) : Prop := ∀ i h, i < F.np → h < (F.rt i).length → Av (if lin F i h < l then k + 1 else k) (D i h) (tr F Z N i h)
theorem AgL.ag {k l : Nat} {D : Tp} (h : AgL F Z N k l D) : Ag F k D (tr F Z N) := fun i h1 a b => (h i h1 a b).le (by split <;> omega)
theorem AgL.step (hR : Rts F) {k l : Nat} (hS : ShM F N ms) (h : AgL F Z N k l (dR ms)) : AgL F Z N k (l + 1) (dR (pasM F Z N l ms)) := by
  intro i j hi hj
  rw [pasM_at hR hS hi hj]
  by_cases e : lin F i j = l
  · rw [if_pos e, if_pos (by omega), ← e]
    exact tr_step hR Z h.ag hi hj
  · rw [if_neg e]
    have := h i j hi hj
    by_cases c : lin F i j < l
    · rw [if_pos (by omega)]; rw [if_pos c] at this; exact this
    · rw [if_neg (by omega)]; rw [if_neg c] at this; exact this
theorem AgL.zero {k : Nat} {D : Tp} (h : Ag F k D (tr F Z N)) : AgL F Z N k 0 D := fun i j hi hj => by rw [if_neg (by omega)]; exact h i j hi hj
/- the routes' lines are there -/
def LnP (F : Tf) (Z : Li) : Prop := ∀ i h, i < F.np → h < (F.rt i).length → lin F i h < Z.n
theorem AgL.done {k : Nat} {D : Tp} (hL : LnP F Z) (h : AgL F Z N k Z.n D) : Ag F (k + 1) D (tr F Z N) := fun i j hi hj => by have := h i j hi hj; rw [if_pos (hL i j hi hj)] at this; exact this
theorem ag_end (hR : Rts F) {k : Nat} (hk : N ≤ k) (hS : ShM F N ms) (h : Ag F k (dR ms) (tr F Z N)) : ms = trR F Z N := by
  refine trR_eq hS fun i j hi hj => ?_
  have h1 := h i j hi hj
  have h2 := hS.b i j hi hj
  rcases tr_bd hR Z N hi hj with e | ⟨e1, e2, _⟩
  · by_cases c : 0 ≤ dR ms i j
    · exact h1 (.inl ⟨c, by omega⟩)
    · omega
  · exact h1 (.inr ⟨e1, by omega⟩)
/- nothing is different -/
theorem pasM_same (hR : Rts F) (hS : ShM F N ms) (h : ¬ChgM F Z N l ms fun _ => true) : pasM F Z N l ms = ms :=
  rows_ext (by rw [pasM, nte_len]) (fun _ => by rw [pasM, nte_rlen]) fun i j hi hj => by
    rw [pasM, nte_len, hS.l] at hi
    rw [pasM, nte_rlen, hS.r i hi] at hj
    rw [pasM_at hR hS hi hj]
    split
    · rename_i e
      refine Classical.byContradiction fun hne => h ⟨i, j, hi, rfl, ?_, hne⟩
      rw [← e]; exact hp_lin hR hi hj
    · rfl
theorem con_end (hR : Rts F) (hL : LnP F Z) (hS : ShM F N ms) (h : ∀ l, l < Z.n → ¬ChgM F Z N l ms fun _ => true) : ms = trR F Z N := by
  have hC : Con F Z N (dR ms) := fun i j hi hj => by
    refine Classical.byContradiction fun hne => h (lin F i j) (hL i j hi hj) ⟨i, j, hi, rfl, hp_lin hR hi hj, fun e => hne e.symm⟩
  exact trR_eq hS fun i j hi hj => tr_uniq hR Z hC i j hi hj
/- the trip's rows change no more -/
theorem tr_fix (hR : Rts F) : ¬ChgM F Z N l (trR F Z N) fun _ => true := by
  rintro ⟨i, h, hi, _, hh, hne⟩
  obtain ⟨h1, h2⟩ := hp_some hh
  have hS : Same F (dR (trR F Z N)) (tr F Z N) l N := same_of (fun i j hi hj => by rw [trR_at hi hj]; exact Av.refl) (tr_mon hR Z N) l
  rw [trR_at hi h1, pas_end ((pas_same (N := N) hS i).le (Nat.le_succ N)), tr_con hR Z N i h hi h1, h2] at hne
  exact hne rfl
theorem trR_sh (hR : Rts F) : ShM F N (trR F Z N) :=
  ⟨trR_len, fun i hi => trR_rlen hi, fun i h hi hh => by
    rw [trR_at hi hh]
    rcases tr_bd hR Z N hi hh with e | ⟨e1, e2, _⟩ <;> omega⟩
end Go.Mc
