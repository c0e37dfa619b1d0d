/-
  A text of the proofs of this seat: lemmas that the statements' proofs use; it states nothing of the program by itself beyond the contracts that its theorems bear. Conditions: those that stand in each theorem. Its short name: Tx.
-/
import Derived.Test.YtnlmmjmcackgjaaTw
set_option linter.unusedVariables false
set_option linter.unusedSimpArgs false
namespace Go.Tp
/-! the first least cycle, as it is looked for -/
/- the least cycle through a, of the edges looked at -/
def LsI (E : Gr) (a : Nat) (l : List Ed) (z : Int) : Prop :=
  (z = -1 ∧ ∀ e ∈ l, e.1 = a → ¬Rch (sub E a) e.2 a) ∨ (∃ d : Nat, z = (d : Int) + 1 ∧ (∃ e ∈ l, e.1 = a ∧ Dst (sub E a) e.2 a d) ∧ ∀ e ∈ l, e.1 = a → ∀ k, Dst (sub E a) e.2 a k → d ≤ k)
theorem LsI.nil (E : Gr) (a : Nat) : LsI E a [] (-1) := .inl ⟨rfl, by simp⟩
theorem LsI.skip {E : Gr} {a : Nat} {l : List Ed} {e : Ed} {z : Int} (h : LsI E a l z) (hn : e.1 = a → ¬Rch (sub E a) e.2 a) : LsI E a (l ++ [e]) z := by
  rcases h with ⟨h1, h2⟩ | ⟨d, h1, ⟨x, hx, h2⟩, h3⟩
  · refine .inl ⟨h1, fun y hy => ?_⟩
    rcases List.mem_append.1 hy with hy | hy
    · exact h2 y hy
    · rw [List.mem_singleton.1 hy]; exact hn
  · refine .inr ⟨d, h1, ⟨x, by simp [hx], h2⟩, fun y hy hya k hk => ?_⟩
    rcases List.mem_append.1 hy with hy | hy
    · exact h3 y hy hya k hk
    · rw [List.mem_singleton.1 hy] at hya hk
      exact absurd ⟨k, hk.1⟩ (hn hya)
theorem LsI.keep {E : Gr} {a k : Nat} {l : List Ed} {e : Ed} {z : Int} (h : LsI E a l z) (hk : Dst (sub E a) e.2 a k) (hz : 0 ≤ z) (hle : z ≤ (k : Int) + 1) : LsI E a (l ++ [e]) z := by
  rcases h with ⟨h1, _⟩ | ⟨d, h1, ⟨x, hx, h2⟩, h3⟩
  · omega
  · refine .inr ⟨d, h1, ⟨x, by simp [hx], h2⟩, fun y hy hya j hj => ?_⟩
    rcases List.mem_append.1 hy with hy | hy
    · exact h3 y hy hya j hj
    · rw [List.mem_singleton.1 hy] at hj
      have := hj.uniq hk
      omega
theorem LsI.less {E : Gr} {a k : Nat} {l : List Ed} {e : Ed} {z : Int} (h : LsI E a l z) (ha : e.1 = a) (hk : Dst (sub E a) e.2 a k) (hz : z < 0 ∨ (k : Int) + 1 < z) : LsI E a (l ++ [e]) ((k : Int) + 1) := by
  refine .inr ⟨k, rfl, ⟨e, by simp, ha, hk⟩, fun y hy hya j hj => ?_⟩
  rcases List.mem_append.1 hy with hy | hy
  · rcases h with ⟨h1, h2⟩ | ⟨d, h1, _, h3⟩
    · exact absurd ⟨j, hj.1⟩ (h2 y hy hya)
    · have := h3 y hy hya j hj
      omega
  · rw [List.mem_singleton.1 hy] at hj
    have := hj.uniq hk
    omega
theorem LsI.end {E : Gr} {a : Nat} {l : List Ed} {z : Int} (hl : ∀ x y, (x, y) ∈ l ↔ sub E a x y = true) (h : LsI E a l z) : (z = -1 ∧ ∀ L, ¬Lst E a L) ∨ ∃ L : Nat, z = L ∧ Lst E a L := by
  rcases h with ⟨h1, h2⟩ | ⟨d, h1, ⟨⟨x, y⟩, hx, hxa, hd⟩, h3⟩
  · refine .inl ⟨h1, fun L hL => ?_⟩
    have hw := hL.w
    rw [show L = (L - 1) + 1 by have := hL.p; omega] at hw
    obtain ⟨b, hb, hw2⟩ := hw.first
    exact h2 (a, b) ((hl _ _).2 hb) rfl ⟨_, hw2⟩
  · dsimp only at hxa hd
    subst hxa
    refine .inr ⟨d + 1, by omega, by omega, ?_, fun j hj hjd hw => ?_⟩
    · have := (Way.one ((hl _ _).1 hx)).trans hd.1
      rwa [Nat.add_comm] at this
    · rw [show j = (j - 1) + 1 by omega] at hw
      obtain ⟨b, hb, hw2⟩ := hw.first
      obtain ⟨k, hk, hD⟩ := Dst.of hw2
      have := h3 (x, b) ((hl _ _).2 hb) rfl k hD
      omega
/- the best cycle of the numbers looked at -/
def Bst (E : Gr) (m n : Nat) (o : Option (List Nat)) : Prop :=
  (o = none ∧ ∀ a, a < n → ∀ L, ¬Lst E a L) ∨ (∃ c a, o = some c ∧ a < n ∧ Lst E a c.length ∧ cycF E m (c.length - 1) [a] = some c ∧ (∀ b, b < n → ∀ L, Lst E b L → c.length ≤ L) ∧ ∀ b, b < a → ∀ L, Lst E b L → c.length < L)
theorem Bst.zero (E : Gr) (m : Nat) : Bst E m 0 none := .inl ⟨rfl, fun a h => by omega⟩
theorem Bst.skip {E : Gr} {m n : Nat} {o : Option (List Nat)} (h : Bst E m n o) (hn : ∀ L, Lst E n L → ∃ c, o = some c ∧ c.length ≤ L) : Bst E m (n + 1) o := by
  rcases h with ⟨h1, h2⟩ | ⟨c, a, h1, h2, h3, h4, h5, h6⟩
  · refine .inl ⟨h1, fun a ha L hL => ?_⟩
    by_cases e : a = n
    · subst e
      obtain ⟨c, hc, _⟩ := hn L hL
      rw [h1] at hc; contradiction
    · exact h2 a (by omega) L hL
  · refine .inr ⟨c, a, h1, by omega, h3, h4, fun b hb L hL => ?_, h6⟩
    by_cases e : b = n
    · subst e
      obtain ⟨c', hc', hle⟩ := hn L hL
      rw [h1] at hc'
      cases hc'; exact hle
    · exact h5 b (by omega) L hL
theorem Bst.new {E : Gr} {m n : Nat} {o : Option (List Nat)} {c : List Nat} (h : Bst E m n o) (hL : Lst E n c.length) (hc : cycF E m (c.length - 1) [n] = some c) (hlt : ∀ c', o = some c' → c.length < c'.length) : Bst E m (n + 1) (some c) := by
  refine .inr ⟨c, n, rfl, by omega, hL, hc, fun b hb L hLb => ?_, fun b hb L hLb => ?_⟩
  · by_cases e : b = n
    · subst e; rw [hL.uniq hLb]; exact Nat.le_refl _
    · rcases h with ⟨h1, h2⟩ | ⟨c', a, h1, h2, h3, h4, h5, h6⟩
      · exact absurd hLb (h2 b (by omega) L)
      · have := h5 b (by omega) L hLb
        have := hlt c' h1
        omega
  · rcases h with ⟨h1, h2⟩ | ⟨c', a, h1, h2, h3, h4, h5, h6⟩
    · exact absurd hLb (h2 b hb L)
    · have := h5 b hb L hLb
      have := hlt c' h1
      omega
theorem Bst.cyc {E : Gr} {m : Nat} {o : Option (List Nat)} (hE : GOK E m) (h : Bst E m m o) : cyc E m = o := by
  have key : ∀ s a c, 2 ≤ s → cycF E m (s - 1) [a] = some c → ∃ L, L ≤ s ∧ Lst E a L := fun s a c hs hc => by
    have hw := cycF_way hc (by simp) (by simp)
    simp only [List.length_singleton, Nat.sub_self, List.getD_cons_zero] at hw
    rw [show s - 1 + 1 = s by omega] at hw
    exact Lst.ex (by omega) hw
  unfold Go.Tp.cyc
  rcases h with ⟨rfl, h2⟩ | ⟨c, a, rfl, h2, h3, h4, h5, h6⟩
  · rw [range_none]
    intro s hs
    split
    · rfl
    · rename_i hs2
      rw [range_none]
      intro a ha
      cases hc : cycF E m (s - 1) [a] with
      | none => rfl
      | some c =>
        obtain ⟨L, _, hL⟩ := key s a c (by omega) hc
        exact absurd hL (h2 a ha L)
  · have h22 := h3.two hE
    have hcm : c.length ≤ m := by
      have hs := cycF_sound h4 (CW.one E h2) (by simp)
      exact nodup_le hs.1.n hs.1.b
    refine range_find.2 ⟨c.length, by omega, ?_, fun s hs => ?_⟩
    · rw [if_neg (by omega)]
      refine range_find.2 ⟨a, h2, h4, fun b hb => ?_⟩
      cases hc : cycF E m (c.length - 1) [b] with
      | none => rfl
      | some c' =>
        obtain ⟨L, hle, hL⟩ := key c.length b c' h22 hc
        have := h6 b hb L hL
        omega
    · split
      · rfl
      · rename_i hs2
        rw [range_none]
        intro b hb
        cases hc : cycF E m (s - 1) [b] with
        | none => rfl
        | some c' =>
          obtain ⟨L, hle, hL⟩ := key s b c' (by omega) hc
          have := h5 b hb L hL
          omega
end Go.Tp
