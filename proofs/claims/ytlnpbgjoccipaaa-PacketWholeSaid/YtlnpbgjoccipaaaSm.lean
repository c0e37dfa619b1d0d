/-
  A text of the proofs of this seat: lemmas that the statements' proofs use; it states nothing of the program by itself beyond the contracts that its theorems bear. Conditions: those that stand in each theorem. Its short name: Sm.
-/
import Derived.Test.YtlnpbgjoccipaaaPl
set_option linter.unusedVariables false
set_option linter.unusedSimpArgs false
namespace Go.St
/-! merging in place, plainly -/
variable {α : Type}
theorem srt_app {k : α → Int} : ∀ {a b : List α}, Srt k (a ++ b) ↔ Srt k a ∧ Srt k b ∧ ∀ x ∈ a, ∀ y ∈ b, k x ≤ k y
  | [], b => by simp [Srt]
  | x :: a, b => by
    simp only [List.cons_append, Srt]
    rw [srt_app (a := a) (b := b)]
    constructor
    · rintro ⟨h1, h2, h3, h4⟩
      refine ⟨⟨fun y hy => h1 y (List.mem_append_left _ hy), h2⟩, h3, fun z hz y hy => ?_⟩
      rcases List.mem_cons.1 hz with rfl | hz
      · exact h1 y (List.mem_append_right _ hy)
      · exact h4 z hz y hy
    · rintro ⟨⟨h1, h2⟩, h3, h4⟩
      refine ⟨fun y hy => ?_, h2, h3, fun z hz => h4 z (List.mem_cons_of_mem _ hz)⟩
      rcases List.mem_append.1 hy with hy | hy
      · exact h1 y hy
      · exact h4 x (by simp) y hy
abbrev flt (k : α → Int) (t : Int) (l : List α) : List α := l.filter fun y => k y == t
theorem flt_cons (k : α → Int) (t : Int) (x : α) (l : List α) : flt k t (x :: l) = if k x = t then x :: flt k t l else flt k t l := by
  unfold flt; rw [List.filter_cons]
  by_cases h : k x = t <;> simp [h]
theorem flt_nil {k : α → Int} {t : Int} {l : List α} (h : ∀ x ∈ l, k x ≠ t) : flt k t l = [] := by
  unfold flt; rw [List.filter_eq_nil_iff]
  intro x hx; simpa using h x hx
theorem mem_flt {k : α → Int} {l : List α} {x : α} (h : x ∈ l) : x ∈ flt k (k x) l := by
  unfold flt; rw [List.mem_filter]; exact ⟨h, by simp⟩
theorem srt_uniq {k : α → Int} : ∀ {a b : List α}, Srt k a → Srt k b → (∀ t, flt k t a = flt k t b) → a = b
  | [], [], _, _, _ => rfl
  | [], y :: b, _, _, h => by
    have := h (k y); rw [flt_cons, if_pos rfl] at this; cases this
  | x :: a, [], _, _, h => by
    have := h (k x); rw [flt_cons, if_pos rfl] at this; cases this
  | x :: a, y :: b, ha, hb, h => by
    have e : k x = k y := by
      have h1 : k x ≤ k y := by
        have m : y ∈ x :: a := by
          have := h (k y)
          have m2 : y ∈ flt k (k y) (x :: a) := by rw [this]; exact mem_flt (by simp)
          exact (List.mem_filter.1 m2).1
        rcases List.mem_cons.1 m with rfl | m
        · exact Int.le_refl _
        · exact ha.1 y m
      have h2 : k y ≤ k x := by
        have m : x ∈ y :: b := by
          have := h (k x)
          have m2 : x ∈ flt k (k x) (y :: b) := by rw [← this]; exact mem_flt (by simp)
          exact (List.mem_filter.1 m2).1
        rcases List.mem_cons.1 m with rfl | m
        · exact Int.le_refl _
        · exact hb.1 x m
      omega
    have h1 := h (k x)
    rw [flt_cons, if_pos rfl, flt_cons, if_pos e.symm] at h1
    have e2 : x = y := (List.cons.inj h1).1
    subst e2
    congr 1
    refine srt_uniq ha.2 hb.2 fun t => ?_
    have := h t
    rw [flt_cons, flt_cons] at this
    split at this
    · exact (List.cons.inj this).2
    · exact this
theorem srt_flt (k : α → Int) (t : Int) (l : List α) : flt k t (srt k l) = flt k t l := srt_filter k t l
theorem eq_srt {k : α → Int} {a l : List α} (h1 : Srt k a) (h2 : ∀ t, flt k t a = flt k t l) : a = srt k l :=
  srt_uniq h1 (srt_sorted k l) fun t => by rw [h2, srt_flt]
theorem flt_app (k : α → Int) (t : Int) (a b : List α) : flt k t (a ++ b) = flt k t a ++ flt k t b := List.filter_append ..
/- the four parts of a merge -/
structure Quart (k : α → Int) (A1 A2 B1 B2 : List α) : Prop where
  a : Srt k (A1 ++ A2)
  b : Srt k (B1 ++ B2)
  lo : ∀ x ∈ A1, ∀ y ∈ B2, k x ≤ k y
  hi : ∀ y ∈ B1, ∀ x ∈ A2, k y < k x
theorem Quart.fl {k : α → Int} {A1 A2 B1 B2 : List α} (h : Quart k A1 A2 B1 B2) (t : Int) : flt k t ((A1 ++ B1) ++ (A2 ++ B2)) = flt k t ((A1 ++ A2) ++ (B1 ++ B2)) := by
  simp only [flt_app, List.append_assoc]
  congr 1
  rw [← List.append_assoc, ← List.append_assoc]
  congr 1
  by_cases e : flt k t B1 = []
  · rw [e]; simp
  · have : flt k t A2 = [] := flt_nil fun x hx hk => by
      obtain ⟨y, hy⟩ := List.exists_mem_of_ne_nil _ e
      have hy := List.mem_filter.1 hy
      have := h.hi y hy.1 x hx
      have e2 : k y = t := by simpa using hy.2
      omega
    rw [this]; simp
theorem Quart.eq {k : α → Int} {A1 A2 B1 B2 : List α} (h : Quart k A1 A2 B1 B2) : srt k (A1 ++ B1) ++ srt k (A2 ++ B2) = srt k ((A1 ++ A2) ++ (B1 ++ B2)) := by
  refine eq_srt ?_ fun t => ?_
  · rw [srt_app]
    refine ⟨srt_sorted _ _, srt_sorted _ _, fun x hx y hy => ?_⟩
    rw [srt_mem] at hx hy
    have ha := (srt_app.1 h.a).2.2
    have hb := (srt_app.1 h.b).2.2
    rcases List.mem_append.1 hx with hx | hx <;> rcases List.mem_append.1 hy with hy | hy
    · exact ha x hx y hy
    · exact h.lo x hx y hy
    · have := h.hi x hx y hy; omega
    · exact hb x hx y hy
  · rw [flt_app, srt_flt, srt_flt, ← flt_app, h.fl]
theorem srt_left {k : α → Int} {a : List α} (h : Srt k a) : srt k (a ++ []) = a := by rw [List.append_nil, srt_self h]
theorem Quart.done1 {k : α → Int} {A2 B1 B2 : List α} (h : Quart k [] A2 B1 B2) : srt k ([] ++ B1) = B1 := by
  rw [List.nil_append, srt_self (srt_app.1 h.b).1]
theorem Quart.done2 {k : α → Int} {A1 A2 B2 : List α} (h : Quart k A1 A2 [] B2) : srt k (A1 ++ []) = A1 := srt_left (srt_app.1 h.a).1
theorem Quart.done3 {k : α → Int} {A1 B1 B2 : List α} (h : Quart k A1 [] B1 B2) : srt k ([] ++ B2) = B2 := by
  rw [List.nil_append, srt_self (srt_app.1 h.b).2.1]
theorem Quart.done4 {k : α → Int} {A1 A2 B1 : List α} (h : Quart k A1 A2 B1 []) : srt k (A2 ++ []) = A2 := srt_left (srt_app.1 h.a).2.1
/- blocks of s that are sorted, below a -/
structure BlkTo (k : α → Int) (s a : Nat) (l : List α) : Prop where
  s : ∀ i j (hi : i < l.length) (hj : j < l.length), i < j → j < a → i / s = j / s → k l[i] ≤ k l[j]
theorem srt_getE {k : α → Int} : ∀ {l : List α}, Srt k l ↔ ∀ i j (hi : i < l.length) (hj : j < l.length), i < j → k l[i] ≤ k l[j]
  | [] => by simp [Srt]
  | x :: l => by
    simp only [Srt]
    rw [srt_getE (l := l)]
    constructor
    · rintro ⟨h1, h2⟩ i j hi hj hij
      cases j with
      | zero => omega
      | succ j =>
        cases i with
        | zero => exact h1 _ (List.getElem_mem _)
        | succ i => exact h2 i j (by simpa using hi) (by simpa using hj) (by omega)
    · intro h
      refine ⟨fun y hy => ?_, fun i j hi hj hij => h (i + 1) (j + 1) (by simpa using hi) (by simpa using hj) (by omega)⟩
      obtain ⟨j, hj, rfl⟩ := List.mem_iff_getElem.1 hy
      exact h 0 (j + 1) (by simp) (by simpa using hj) (by omega)
end Go.St
