/-
  A text of the proofs of this seat: lemmas that the statements' proofs use; it states nothing of the program by itself beyond the contracts that its theorems bear. Conditions: those that stand in each theorem. Its short name: Ui.
-/
import Derived.Test.YtnlmmjmcackgjaaTx
set_option linter.unusedVariables false
set_option linter.unusedSimpArgs false
namespace Go.Tp
/-! edges in order; the next line of a cycle -/
def ltE (e f : Ed) : Prop := e.1 < f.1 ∨ (e.1 = f.1 ∧ e.2 < f.2)
theorem er_ord {E : Gr} {a : Nat} : ∀ {b : Nat}, (er E a b).Pairwise ltE
  | 0 => by simp [er]
  | b + 1 => by
    unfold er
    split
    · rw [List.pairwise_append]
      refine ⟨er_ord, by simp, fun x hx y hy => ?_⟩
      have h := mem_er.1 hx
      rw [List.mem_singleton.1 hy]
      exact .inr ⟨h.1, h.2.1⟩
    · exact er_ord
theorem edg_ord {E : Gr} {m : Nat} : ∀ {a : Nat}, (edg E m a).Pairwise ltE
  | 0 => by simp [edg]
  | a + 1 => by
    unfold edg
    rw [List.pairwise_append]
    refine ⟨edg_ord, er_ord, fun x hx y hy => ?_⟩
    have h1 := mem_edg.1 hx
    have h2 := mem_er.1 hy
    exact .inl (by omega)
def subl (l : List Ed) (a : Nat) : List Ed := l.filter fun e => decide (a ≤ e.1) && decide (a ≤ e.2)
theorem mem_subl {E : Gr} {l : List Ed} {a : Nat} (hl : ∀ x y, (x, y) ∈ l ↔ E x y = true) (x y : Nat) : (x, y) ∈ subl l a ↔ sub E a x y = true := by
  unfold subl
  rw [List.mem_filter, hl, sub_true]
  simp
theorem subl_ord {l : List Ed} (h : l.Pairwise ltE) (a : Nat) : (subl l a).Pairwise ltE := h.sublist List.filter_sublist
theorem subl_take {l : List Ed} {a i : Nat} (h : i < l.length) : subl (l.take (i + 1)) a = if a ≤ (l.getD i (0, 0)).1 ∧ a ≤ (l.getD i (0, 0)).2 then subl (l.take i) a ++ [l.getD i (0, 0)] else subl (l.take i) a := by
  unfold subl
  rw [List.take_add_one, List.filter_append, List.getD_eq_getElem?_getD, List.getElem?_eq_getElem h]
  by_cases h1 : a ≤ l[i].1 <;> by_cases h2 : a ≤ l[i].2 <;> simp [h1, h2]
theorem subl_len (l : List Ed) (a : Nat) : (subl l a).length ≤ l.length := List.length_filter_le _ _
def NxS (P : Ed → Prop) (l : List Ed) (z : Int) : Prop := (z = -1 ∧ ∀ e ∈ l, ¬P e) ∨ ∃ b : Nat, z = b ∧ (∃ e ∈ l, P e ∧ e.2 = b) ∧ ∀ e ∈ l, P e → b ≤ e.2
theorem NxS.nil (P : Ed → Prop) : NxS P [] (-1) := .inl ⟨rfl, by simp⟩
theorem NxS.no {P : Ed → Prop} {l : List Ed} {e : Ed} {z : Int} (h : NxS P l z) (he : ¬P e) : NxS P (e :: l) z := by
  rcases h with ⟨h1, h2⟩ | ⟨b, h1, ⟨f, h2, h3⟩, h4⟩
  · refine .inl ⟨h1, fun f hf => ?_⟩
    rcases List.mem_cons.1 hf with rfl | hf
    · exact he
    · exact h2 f hf
  · refine .inr ⟨b, h1, ⟨f, by simp [h2], h3⟩, fun g hg hp => ?_⟩
    rcases List.mem_cons.1 hg with rfl | hg
    · exact absurd hp he
    · exact h4 g hg hp
theorem NxS.yes {P : Ed → Prop} {l : List Ed} {e : Ed} (he : P e) (hl : ∀ f ∈ l, P f → e.2 ≤ f.2) : NxS P (e :: l) e.2 := by
  refine .inr ⟨e.2, rfl, ⟨e, by simp, he, rfl⟩, fun g hg hp => ?_⟩
  rcases List.mem_cons.1 hg with rfl | hg
  · exact Nat.le_refl _
  · exact hl g hg hp
theorem drop_at {l : List Ed} {k : Nat} (h : k < l.length) : l.drop k = l.getD k (0, 0) :: l.drop (k + 1) := by
  rw [List.getD_eq_getElem?_getD, List.getElem?_eq_getElem h]
  exact List.drop_eq_getElem_cons h
theorem ord_drop {l : List Ed} (h : l.Pairwise ltE) {k : Nat} (hk : k < l.length) : ∀ f ∈ l.drop (k + 1), f.1 = (l.getD k (0, 0)).1 → (l.getD k (0, 0)).2 ≤ f.2 := by
  intro f hf e
  have h1 : (l.drop k).Pairwise ltE := h.sublist (List.drop_sublist _ _)
  rw [drop_at hk, List.pairwise_cons] at h1
  rcases h1.1 f hf with h2 | h2 <;> omega
theorem Lst.edge {E : Gr} {a L : Nat} (h : Lst E a L) : ∃ x y, E x y = true := by
  obtain ⟨f, _, _, hf⟩ := h.w
  exact ⟨_, _, (sub_true.1 (hf 0 h.p)).1⟩
theorem Bst.none {E : Gr} {m a : Nat} {o : Option (List Nat)} (h : Bst E m a o) (_ : a ≤ m) (hn : ∀ b L, ¬Lst E b L) : Bst E m m o := by
  rcases h with ⟨h1, _⟩ | ⟨c, b, _, _, h3, _⟩
  · exact .inl ⟨h1, fun b _ L => hn b L⟩
  · exact absurd h3 (hn _ _)
theorem Bst.pos {E : Gr} {m a : Nat} {c : List Nat} (h : Bst E m a (some c)) : 1 ≤ c.length := by
  rcases h with ⟨h1, _⟩ | ⟨d, b, h1, _, h3, _⟩
  · cases h1
  · cases h1; exact h3.p
/- the edges that go on -/
def Pg (E : Gr) (a L : Nat) (w : List Nat) (e : Ed) : Prop := e.1 = w.getD (w.length - 1) 0 ∧ e.2 ≠ a ∧ Dst (sub E a) e.2 a (L - w.length)
theorem NxS.end {E : Gr} {m a L : Nat} {w : List Nat} {l : List Ed} {z : Int} (hl : ∀ x y, (x, y) ∈ l ↔ sub E a x y = true) (hL : Lst E a L) (hp : Pre E m a L w) (hw : w.length < L) (h : NxS (Pg E a L w) l z) :
    ∃ b : Nat, z = b ∧ Nxt E a L w b ∧ ∀ c, c < b → ¬Nxt E a L w c := by
  have key : ∀ c, Nxt E a L w c → (w.getD (w.length - 1) 0, c) ∈ l ∧ Pg E a L w (w.getD (w.length - 1) 0, c) := fun c hc => ⟨(hl _ _).2 hc.1, rfl, hc.2⟩
  rcases h with ⟨_, h2⟩ | ⟨b, h1, ⟨⟨x, y⟩, h2, ⟨h3, h4⟩, h5⟩, h6⟩
  · obtain ⟨c, hc⟩ := hp.next hL hw
    exact absurd (key c hc).2 (h2 _ (key c hc).1)
  · dsimp only at h3 h4 h5
    subst h3 h5
    exact ⟨y, h1, ⟨(hl _ _).1 h2, h4⟩, fun c hc hn => by
      have := h6 _ (key c hn).1 (key c hn).2
      dsimp only at this; omega⟩
end Go.Tp
