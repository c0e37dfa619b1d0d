/-
  A text of the proofs of this seat: lemmas that the statements' proofs use; it states nothing of the program by itself beyond the contracts that its theorems bear. Conditions: those that stand in each theorem. Its short name: Tz.
-/
import Derived.Test.YtnlmmjmcackgjaaPl
set_option linter.unusedVariables false
set_option linter.unusedSimpArgs false
namespace Go.Tp
/-! distances, found breadth-first -/
def Dst (E : Gr) (a b k : Nat) : Prop := Way E k a b ∧ ∀ j, j < k → ¬Way E j a b
theorem Dst.uniq {E : Gr} {a b k l : Nat} (h : Dst E a b k) (h' : Dst E a b l) : k = l := by
  rcases Nat.lt_trichotomy k l with e | e | e
  · exact absurd h.1 (h'.2 _ e)
  · exact e
  · exact absurd h'.1 (h.2 _ e)
theorem Dst.of {E : Gr} {a b k : Nat} (h : Way E k a b) : ∃ j, j ≤ k ∧ Dst E a b j := by
  obtain ⟨j, h1, h2⟩ := least_ex (P := fun j => Way E j a b) ⟨k, h⟩
  exact ⟨j, Nat.le_of_not_lt fun hx => h2 _ hx h, h1, h2⟩
theorem Dst.zero (E : Gr) (a : Nat) : Dst E a a 0 := ⟨.zero E a, fun j hj => by omega⟩
theorem Dst.lt {E : Gr} {m a b k : Nat} (hE : GOK E m) (ha : a < m) (h : Dst E a b k) : k < m := by
  apply Classical.byContradiction
  intro hk
  obtain ⟨⟨f, f0, f1, f2⟩, hmin⟩ := h
  have hf : ∀ i, i ≤ k → f i < m := fun i hi => by
    cases i with
    | zero => rw [f0]; exact ha
    | succ i => exact (hE.b _ _ (f2 i (by omega))).2
  have hg : ∀ i, (if i ≤ k then f i else a) < m := fun i => by
    split
    · exact hf i (by assumption)
    · exact ha
  obtain ⟨i, j, hij, hj, e⟩ := meets hg
  rw [if_pos (by omega), if_pos (by omega)] at e
  have w1 : Way E i a (f i) := ⟨f, f0, rfl, fun t ht => f2 t (by omega)⟩
  have w2 : Way E (k - j) (f j) b := ⟨fun t => f (t + j), by simp, by dsimp only; rw [show k - j + j = k by omega]; exact f1, fun t ht => by
    have := f2 (t + j) (by omega)
    rw [show t + j + 1 = t + 1 + j by omega] at this; exact this⟩
  rw [← e] at w2
  exact hmin (i + (k - j)) (by omega) (w1.trans w2)
theorem Dst.last {E : Gr} {a b k : Nat} (h : Dst E a b (k + 1)) : ∃ x, Dst E a x k ∧ E x b = true := by
  obtain ⟨x, h1, h2⟩ := h.1.last
  exact ⟨x, ⟨h1, fun j hj w => h.2 (j + 1) (by omega) (w.trans (.one h2))⟩, h2⟩
theorem Dst.first {E : Gr} {a b k : Nat} (h : Dst E a b (k + 1)) : ∃ x, E a x = true ∧ Dst E x b k := by
  obtain ⟨x, h1, h2⟩ := h.1.first
  exact ⟨x, h1, h2, fun j hj w => h.2 (j + 1) (by omega) (by have := (Way.one h1).trans w; rwa [Nat.add_comm] at this)⟩
/- what is known after so many passes -/
structure Bfs (E : Gr) (m a d : Nat) (F : Nat → Int) : Prop where
  neg : ∀ y, F y = -1 ∨ 0 ≤ F y
  iff : ∀ y, y < m → ∀ k : Nat, F y = k ↔ k ≤ d ∧ Dst E a y k
def fars (d : Nat) (G : Nat → Int) (e : Ed) : Nat → Int := if G e.1 = d ∧ G e.2 < 0 then fun y => if y = e.2 then (d : Int) + 1 else G y else G
def far0 (a : Nat) : Nat → Int := fun y => if y = a then 0 else -1
def farD (l : List Ed) (a : Nat) : Nat → Nat → Int
  | 0 => far0 a
  | d + 1 => l.foldl (fars d) (farD l a d)
theorem Bfs.init {E : Gr} {m a : Nat} : Bfs E m a 0 (far0 a) := by
  refine ⟨fun y => ?_, fun y hy k => ?_⟩
  · unfold far0; split
    · exact .inr (Int.le_refl _)
    · exact .inl rfl
  · unfold far0
    by_cases h : y = a
    · subst h; rw [if_pos rfl]
      constructor
      · intro h; have : k = 0 := by omega
        subst this; exact ⟨Nat.le_refl _, .zero E y⟩
      · rintro ⟨h, _⟩; omega
    · rw [if_neg h]
      constructor
      · intro h; omega
      · rintro ⟨h1, h2⟩
        have : k = 0 := by omega
        subst this
        obtain ⟨f, f0, f1, _⟩ := h2.1
        exact absurd (f1.symm.trans f0) h
structure Pas (F : Nat → Int) (d : Nat) (l : List Ed) (G : Nat → Int) : Prop where
  or : ∀ y, G y = F y ∨ (F y < 0 ∧ G y = (d : Int) + 1 ∧ ∃ e ∈ l, e.2 = y ∧ F e.1 = d)
  met : ∀ e ∈ l, F e.1 = d → 0 ≤ G e.2
theorem pas_ok {F : Nat → Int} {d : Nat} : ∀ l : List Ed, Pas F d l (l.foldl (fars d) F) := by
  apply rev_rec
  · exact ⟨fun y => .inl rfl, fun e he => by simp at he⟩
  · intro l e h
    rw [List.foldl_append]
    simp only [List.foldl_cons, List.foldl_nil]
    generalize l.foldl (fars d) F = G at *
    have hd : ∀ x, G x = d ↔ F x = d := fun x => by
      rcases h.or x with h | ⟨h1, h2, _⟩
      · rw [h]
      · constructor <;> intro h <;> omega
    unfold fars
    by_cases hc : G e.1 = d ∧ G e.2 < 0
    · rw [if_pos hc]
      refine ⟨fun y => ?_, fun x hx hF => ?_⟩
      · by_cases hy : y = e.2
        · subst hy
          rw [if_pos rfl]
          right
          rcases h.or e.2 with h' | ⟨_, h', _⟩
          · exact ⟨by omega, rfl, e, by simp, rfl, (hd _).1 hc.1⟩
          · have := hc.2; omega
        · rw [if_neg hy]
          rcases h.or y with h' | ⟨h1, h2, x, hx, h3⟩
          · exact .inl h'
          · exact .inr ⟨h1, h2, x, by simp [hx], h3⟩
      · split
        · omega
        · rename_i hne
          rcases List.mem_append.1 hx with hx | hx
          · exact h.met x hx hF
          · rw [List.mem_singleton.1 hx] at hne; exact absurd rfl hne
    · rw [if_neg hc]
      refine ⟨fun y => ?_, fun x hx hF => ?_⟩
      · rcases h.or y with h' | ⟨h1, h2, x, hx, h3⟩
        · exact .inl h'
        · exact .inr ⟨h1, h2, x, by simp [hx], h3⟩
      · rcases List.mem_append.1 hx with hx | hx
        · exact h.met x hx hF
        · rw [List.mem_singleton.1 hx] at hF ⊢
          have := (hd _).2 hF
          apply Classical.byContradiction
          intro hn
          exact hc ⟨this, by omega⟩
theorem Bfs.step {E : Gr} {m a d : Nat} {F : Nat → Int} {l : List Ed} (hE : GOK E m) (hl : ∀ x y, (x, y) ∈ l ↔ E x y = true) (h : Bfs E m a d F) (ha : a < m) : Bfs E m a (d + 1) (l.foldl (fars d) F) := by
  have hp := pas_ok (F := F) (d := d) l
  generalize l.foldl (fars d) F = G at *
  refine ⟨fun y => ?_, fun y hy k => ?_⟩
  · rcases hp.or y with h1 | ⟨_, h1, _⟩
    · rw [h1]; exact h.neg y
    · right; omega
  · constructor
    · intro hk
      rcases hp.or y with h1 | ⟨h0, h1, e, he, h2, h3⟩
      · rw [h1] at hk
        obtain ⟨g1, g2⟩ := (h.iff y hy k).1 hk
        exact ⟨by omega, g2⟩
      · have hkd : k = d + 1 := by omega
        subst hkd
        have hee : E e.1 y = true := (hl _ _).1 (by rw [← h2]; exact he)
        obtain ⟨_, g2⟩ := (h.iff e.1 (hE.b _ _ hee).1 d).1 h3
        refine ⟨Nat.le_refl _, g2.1.trans (.one hee), fun j hj hw => ?_⟩
        obtain ⟨j0, hj0, hD⟩ := Dst.of hw
        have := (h.iff y hy j0).2 ⟨by omega, hD⟩
        omega
    · rintro ⟨hk, hD⟩
      by_cases hkd : k ≤ d
      · have hF := (h.iff y hy k).2 ⟨hkd, hD⟩
        rcases hp.or y with h1 | ⟨h0, _⟩
        · rw [h1]; exact hF
        · omega
      · have : k = d + 1 := by omega
        subst this
        obtain ⟨x, hx, hxy⟩ := hD.last
        have hFx := (h.iff x (hE.b _ _ hxy).1 d).2 ⟨Nat.le_refl _, hx⟩
        have hm := hp.met (x, y) ((hl _ _).2 hxy) hFx
        dsimp only at hm
        rcases hp.or y with h1 | ⟨h0, h1, _⟩
        · rw [h1] at hm
          obtain ⟨k', hk'⟩ : ∃ k' : Nat, F y = k' := ⟨(F y).toNat, by omega⟩
          obtain ⟨g1, g2⟩ := (h.iff y hy k').1 hk'
          have := g2.uniq hD
          omega
        · rw [h1]; rfl
theorem bfs_ok {E : Gr} {m a : Nat} {l : List Ed} (hE : GOK E m) (hl : ∀ x y, (x, y) ∈ l ↔ E x y = true) (ha : a < m) : ∀ d, Bfs E m a d (farD l a d)
  | 0 => .init
  | d + 1 => (bfs_ok hE hl ha d).step hE hl ha
/- the distances, when all passes are done -/
theorem bfs_all {E : Gr} {m a : Nat} {l : List Ed} (hE : GOK E m) (hl : ∀ x y, (x, y) ∈ l ↔ E x y = true) (ha : a < m) {y : Nat} (hy : y < m) : (∀ k : Nat, farD l a m y = k ↔ Dst E a y k) ∧ (farD l a m y < 0 ↔ ¬Rch E a y) ∧ (farD l a m y = -1 ∨ 0 ≤ farD l a m y) := by
  have h := bfs_ok hE hl ha m
  have h1 : ∀ k : Nat, farD l a m y = k ↔ Dst E a y k := fun k => by
    rw [h.iff y hy k]
    exact ⟨fun h => h.2, fun h => ⟨Nat.le_of_lt (h.lt hE ha), h⟩⟩
  refine ⟨h1, ?_, h.neg y⟩
  constructor
  · rintro hn ⟨k, hk⟩
    obtain ⟨j, _, hD⟩ := Dst.of hk
    have := (h1 j).2 hD
    omega
  · intro hn
    apply Classical.byContradiction
    intro h0
    obtain ⟨k, hk⟩ : ∃ k : Nat, farD l a m y = k := ⟨(farD l a m y).toNat, by omega⟩
    exact hn ⟨k, ((h1 k).1 hk).1⟩
end Go.Tp
