/-
  A text of the proofs of this seat: lemmas that the statements' proofs use; it states nothing of the program by itself beyond the contracts that its theorems bear. Conditions: those that stand in each theorem. Its short name: Tw.
-/
import Derived.Test.YtnlmmjmcackgjaaTz
set_option linter.unusedVariables false
set_option linter.unusedSimpArgs false
namespace Go.Tp
/-! cycles that are completed step by step -/
/- the edges among numbers that are not less than a -/
def sub (E : Gr) (a : Nat) : Gr := fun x y => E x y && (decide (a ≤ x) && decide (a ≤ y))
theorem sub_true {E : Gr} {a x y : Nat} : sub E a x y = true ↔ E x y = true ∧ a ≤ x ∧ a ≤ y := by simp [sub]
theorem sub_ok {E : Gr} {m a : Nat} (hE : GOK E m) : GOK (sub E a) m :=
  ⟨fun x y h => hE.b _ _ (sub_true.1 h).1, fun x => by
    have := hE.s x
    simp [sub, this]⟩
/- the least cycle through a among them -/
structure Lst (E : Gr) (a L : Nat) : Prop where
  p : 0 < L
  w : Way (sub E a) L a a
  m : ∀ j, 0 < j → j < L → ¬Way (sub E a) j a a
theorem Lst.two {E : Gr} {m a L : Nat} (hE : GOK E m) (h : Lst E a L) : 2 ≤ L := by
  apply Classical.byContradiction
  intro hn
  have : L = 1 := by have := h.p; omega
  subst this
  obtain ⟨f, f0, f1, f2⟩ := h.w
  have := f2 0 (by omega)
  rw [f0, f1] at this
  have := (sub_true.1 this).1
  rw [hE.s] at this; contradiction
theorem Lst.uniq {E : Gr} {a L L' : Nat} (h : Lst E a L) (k : Lst E a L') : L = L' := by
  rcases Nat.lt_trichotomy L L' with e | e | e
  · exact absurd h.w (k.m _ h.p e)
  · exact e
  · exact absurd k.w (h.m _ k.p e)
theorem Lst.ex {E : Gr} {a L : Nat} (h0 : 0 < L) (h : Way (sub E a) L a a) : ∃ L', L' ≤ L ∧ Lst E a L' := by
  obtain ⟨j, ⟨h1, h2⟩, h3⟩ := least_ex (P := fun j => 0 < j ∧ Way (sub E a) j a a) ⟨L, h0, h⟩
  exact ⟨j, Nat.le_of_not_lt fun hx => h3 _ hx ⟨h0, h⟩, h1, h2, fun i hi hij hw => h3 i hij ⟨hi, hw⟩⟩
/- a way that cycF completes leads back -/
theorem cycF_way {E : Gr} {m : Nat} : ∀ {k : Nat} {v c : List Nat}, cycF E m k v = some c → 1 ≤ v.length → v.getD 0 0 ≤ v.getD (v.length - 1) 0 → Way (sub E (v.getD 0 0)) (k + 1) (v.getD (v.length - 1) 0) (v.getD 0 0)
  | 0, v, c, h, hv, hle => by
    unfold cycF at h
    split at h
    · exact .one (sub_true.2 ⟨by assumption, hle, Nat.le_refl _⟩)
    · contradiction
  | k + 1, v, c, h, hv, hle => by
    unfold cycF at h
    obtain ⟨b, hb, h1, _⟩ := range_find.1 h
    split at h1
    · rename_i hc
      have e0 : (v ++ [b]).getD 0 0 = v.getD 0 0 := getD_app_l (by omega)
      have e1 : (v ++ [b]).getD ((v ++ [b]).length - 1) 0 = b := by
        rw [List.length_append, List.length_singleton, Nat.add_sub_cancel]; exact getD_app_r
      have := cycF_way h1 (by simp) (by rw [e0, e1]; omega)
      rw [e0, e1] at this
      have h2 := (Way.one (E := sub E (v.getD 0 0)) (sub_true.2 ⟨hc.2.1, hle, by omega⟩)).trans this
      rwa [Nat.add_comm] at h2
    · contradiction
/- a way that is a beginning of the first least cycle -/
structure Pre (E : Gr) (m a L : Nat) (w : List Nat) : Prop where
  n : 1 ≤ w.length
  h : w.getD 0 0 = a
  b : ∀ x ∈ w, x < m
  le : w.length ≤ L
  ds : ∀ i, 1 ≤ i → i < w.length → Dst (sub E a) (w.getD i 0) a (L - i)
  wy : Way (sub E a) (w.length - 1) a (w.getD (w.length - 1) 0)
  ge : a ≤ w.getD (w.length - 1) 0
/- the numbers from which it can go on -/
def Nxt (E : Gr) (a L : Nat) (w : List Nat) (b : Nat) : Prop := sub E a (w.getD (w.length - 1) 0) b = true ∧ b ≠ a ∧ Dst (sub E a) b a (L - w.length)
theorem Pre.one {E : Gr} {m a L : Nat} (ha : a < m) (hL : 1 ≤ L) : Pre E m a L [a] :=
  ⟨by simp, rfl, by simpa using ha, by simpa using hL, fun i h1 h2 => by simp at h2; omega, by simpa using Way.zero _ a, by simp⟩
theorem Pre.snoc {E : Gr} {m a L b : Nat} {w : List Nat} (hE : GOK E m) (h : Pre E m a L w) (hl : w.length < L) (hb : Nxt E a L w b) : Pre E m a L (w ++ [b]) := by
  have e1 : (w ++ [b]).getD ((w ++ [b]).length - 1) 0 = b := by
    rw [List.length_append, List.length_singleton, Nat.add_sub_cancel]; exact getD_app_r
  have hbs := sub_true.1 hb.1
  refine ⟨by simp, ?_, fun x hx => ?_, by simp; omega, fun i h1 h2 => ?_, ?_, ?_⟩
  · rw [getD_app_l (by have := h.n; omega)]; exact h.h
  · rcases List.mem_append.1 hx with hx | hx
    · exact h.b x hx
    · rw [List.mem_singleton.1 hx]; exact (hE.b _ _ hbs.1).2
  · simp only [List.length_append, List.length_singleton] at h2
    by_cases hi : i < w.length
    · rw [getD_app_l hi]; exact h.ds i h1 hi
    · have : i = w.length := by omega
      subst this
      rw [getD_app_r]; exact hb.2.2
  · rw [e1]
    have := h.wy.trans (.one hb.1)
    rw [List.length_append, List.length_singleton, Nat.add_sub_cancel]
    rwa [show w.length - 1 + 1 = w.length by have := h.n; omega] at this
  · rw [e1]; exact hbs.2.2
theorem Pre.notin {E : Gr} {m a L b : Nat} {w : List Nat} (h : Pre E m a L w) (hl : w.length < L) (hb : Nxt E a L w b) : b ∉ w := by
  intro hm
  obtain ⟨i, hi, e⟩ := mem_getD hm
  by_cases h0 : i = 0
  · subst h0; rw [h.h] at e; exact hb.2.1 e.symm
  · have := h.ds i (by omega) hi
    rw [e] at this
    have := this.uniq hb.2.2
    omega
/- the next number exists -/
theorem Pre.next {E : Gr} {m a L : Nat} {w : List Nat} (hL : Lst E a L) (h : Pre E m a L w) (hl : w.length < L) : ∃ b, Nxt E a L w b := by
  have hn := h.n
  have key : ∃ k, L - w.length = k ∧ 1 ≤ k := ⟨_, rfl, by omega⟩
  obtain ⟨k, hk, hk1⟩ := key
  have hne : ∀ b, Dst (sub E a) b a k → b ≠ a := fun b hb e => by
    subst e
    have := hb.uniq (.zero _ _)
    omega
  by_cases h1 : w.length = 1
  · have e : w.getD (w.length - 1) 0 = a := by rw [h1]; exact h.h
    have hw := hL.w
    rw [show L = k + 1 by omega] at hw
    obtain ⟨b, hb1, hb2⟩ := hw.first
    have hD : Dst (sub E a) b a k := ⟨hb2, fun j hj hw => by
      have h2 := (Way.one hb1).trans hw
      exact hL.m (1 + j) (by omega) (by omega) h2⟩
    exact ⟨b, by rw [e]; exact hb1, hne b hD, by rw [hk]; exact hD⟩
  · have hd := h.ds (w.length - 1) (by omega) (by omega)
    rw [show L - (w.length - 1) = k + 1 by omega] at hd
    obtain ⟨b, hb1, hb2⟩ := hd.first
    exact ⟨b, hb1, hne b hb2, by rw [hk]; exact hb2⟩
/- what completes the way is what begins with its least next number -/
theorem Pre.go {E : Gr} {m a L : Nat} (hE : GOK E m) (hL : Lst E a L) : ∀ {k : Nat} {w : List Nat}, Pre E m a L w → w.length + k = L →
    cycF E m k w ≠ none ∧ (k = 0 → cycF E m 0 w = some w) ∧ ∀ b j, k = j + 1 → Nxt E a L w b → (∀ c, c < b → ¬Nxt E a L w c) → cycF E m k w = cycF E m j (w ++ [b])
  | 0, w, h, hl => by
    have hn := h.n
    have he : E (w.getD (w.length - 1) 0) (w.getD 0 0) = true := by
      rw [h.h]
      have h2 := hL.two hE
      have hd := h.ds (w.length - 1) (by omega) (by omega)
      rw [show L - (w.length - 1) = 0 + 1 by omega] at hd
      obtain ⟨x, h1, h3⟩ := hd.first
      obtain ⟨f, f0, f1, _⟩ := h3.1
      have : x = a := f0.symm.trans f1
      subst this
      exact (sub_true.1 h1).1
    have : cycF E m 0 w = some w := by unfold cycF; rw [if_pos he]
    exact ⟨by rw [this]; simp, fun _ => this, fun b j h => by omega⟩
  | k + 1, w, h, hl => by
    have hn := h.n
    have hlt : w.length < L := by omega
    obtain ⟨b0, ⟨hb0, hmin⟩⟩ := least_ex (h.next hL hlt)
    have ih := Pre.go hE hL (k := k) (w := w ++ [b0]) (h.snoc hE hlt hb0) (by simp; omega)
    have hs := sub_true.1 hb0.1
    have hcond : w.getD 0 0 < b0 ∧ E (w.getD (w.length - 1) 0) b0 = true ∧ b0 ∉ w := ⟨by rw [h.h]; have := hb0.2.1; omega, hs.1, h.notin hlt hb0⟩
    have hfirst : ∀ c, cycF E m k (w ++ [b0]) = some c → cycF E m (k + 1) w = some c := fun c hc => by
      unfold cycF
      refine range_find.2 ⟨b0, (hE.b _ _ hs.1).2, by rw [if_pos hcond]; exact hc, fun x hx => ?_⟩
      split
      · rename_i hcx
        cases hfx : cycF E m k (w ++ [x]) with
        | none => rfl
        | some cx =>
          exfalso
          have e0 : (w ++ [x]).getD 0 0 = a := by rw [getD_app_l (by omega)]; exact h.h
          have e1 : (w ++ [x]).getD ((w ++ [x]).length - 1) 0 = x := by
            rw [List.length_append, List.length_singleton, Nat.add_sub_cancel]; exact getD_app_r
          rw [h.h] at hcx
          have hw := cycF_way hfx (by simp) (by rw [e0, e1]; omega)
          rw [e0, e1] at hw
          refine hmin x hx ⟨sub_true.2 ⟨hcx.2.1, h.ge, by omega⟩, by omega, ?_⟩
          rw [show L - w.length = k + 1 by omega]
          refine ⟨hw, fun j hj hwj => ?_⟩
          have h3 := (h.wy.trans (.one (sub_true.2 ⟨hcx.2.1, h.ge, by omega⟩))).trans hwj
          by_cases hz : w.length - 1 + 1 + j = 0
          · omega
          · exact hL.m _ (by omega) (by omega) h3
      · rfl
    cases hc : cycF E m k (w ++ [b0]) with
    | none => exact absurd hc ih.1
    | some c =>
      have := hfirst c hc
      refine ⟨by rw [this]; simp, fun h => by omega, fun b j hj hb hbm => ?_⟩
      have hjk : j = k := by omega
      subst hjk
      have : b = b0 := by
        rcases Nat.lt_trichotomy b b0 with e | e | e
        · exact absurd hb (hmin b e)
        · exact e
        · exact absurd hb0 (hbm b0 e)
      subst this
      rw [hfirst c hc, hc]
end Go.Tp
