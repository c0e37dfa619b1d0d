/-
  A text of the proofs of this seat: lemmas that the statements' proofs use; it states nothing of the program by itself beyond the contracts that its theorems bear. Conditions: those that stand in each theorem. Its short name: Pl.
-/
set_option linter.unusedVariables false
set_option linter.unusedSimpArgs false
section
namespace Go.Cv
/-! plain laws of functions that repeat with a gain -/
def Per (F : Nat → Int) (s p : Nat) (q : Int) : Prop := ∀ t, s ≤ t → F (t + p) = F t + q
theorem Per.mono {F s s' p q} (h : Per F s p q) (hs : s ≤ s') : Per F s' p q := fun t ht => h t (by omega)
theorem Per.mul {F s p q} (h : Per F s p q) : ∀ k : Nat, Per F s (k * p) (k * q)
  | 0 => fun t _ => by simp
  | k + 1 => fun t ht => by
    have h1 := Per.mul h k t ht
    have h2 := h (t + k * p) (by omega)
    rw [show t + (k + 1) * p = t + k * p + p by rw [Nat.add_mul]; omega, h2, h1]
    push_cast; rw [Int.add_mul]; omega
theorem Per.back {F s s' n p Q q} (hn : 1 ≤ n) (h : Per F s n Q) (h' : Per F s' p q) : Per F s p q := by
  intro t ht
  have h1 := h.mul s' t ht
  have h2 := h.mul s' (t + p) (by omega)
  have hle : s' ≤ t + s' * n := by have := Nat.mul_le_mul_left s' hn; omega
  have h3 := h' (t + s' * n) hle
  rw [show t + s' * n + p = t + p + s' * n by omega, h2, h1] at h3
  omega
theorem Per.uniq {F s s' p q q'} (h : Per F s p q) (h' : Per F s' p q') : q = q' := by
  have h1 := h (max s s') (by omega)
  have h2 := h' (max s s') (by omega)
  omega
/- p is the least period -/
def Min (F : Nat → Int) (p : Nat) : Prop := ∀ s' p' q', 1 ≤ p' → Per F s' p' q' → p ≤ p'
theorem Per.dvd {F s p n q Q} (hp : 1 ≤ p) (h : Per F s p q) (hm : Min F p) (hn : Per F s n Q) : p ∣ n := by
  rcases Nat.eq_zero_or_pos (n % p) with h0 | h0
  · exact Nat.dvd_of_mod_eq_zero h0
  · have hr : Per F s (n % p) (Q - (n / p : Nat) * q) := by
      intro t ht
      have h1 := hn t ht
      have h2 := h.mul (n / p) (t + n % p) (by omega)
      have h3 := Nat.div_add_mod n p
      rw [show t + n % p + n / p * p = t + n by rw [Nat.mul_comm]; omega, h1] at h2
      omega
    have := hm s (n % p) _ h0 hr
    have := Nat.mod_lt n hp
    omega
theorem exists_min {F s n Q} (hn : 1 ≤ n) (h : Per F s n Q) : ∃ p q, 1 ≤ p ∧ Per F s p q ∧ Min F p := by
  have key : ∀ (k n : Nat) (s : Nat) (Q : Int), n ≤ k → 1 ≤ n → Per F s n Q → ∃ s' p q, 1 ≤ p ∧ Per F s' p q ∧ Min F p := by
    intro k
    induction k with
    | zero => intro n s Q h1 h2; omega
    | succ k ih =>
      intro n s Q hk hn h
      by_cases hm : Min F n
      · exact ⟨s, n, Q, hn, h, hm⟩
      · simp only [Min, Classical.not_forall] at hm
        obtain ⟨s', p', q', hp', hq, hlt⟩ := hm
        exact ih p' s' q' (by omega) hp' hq
  obtain ⟨s', p, q, hp, hq, hm⟩ := key n n s Q (by omega) hn h
  exact ⟨p, q, hp, Per.back hn h hq, hm⟩
/- what the programs ask of a period -/
def Fits (F : Nat → Int) (s n : Nat) (Q : Int) (p : Nat) : Prop := n % p = 0 ∧ Q * p % n = 0 ∧ ∀ t, s ≤ t → t < s + n → F (t + p) = F t + Q * p / n
theorem Fits.per {F s n Q p} (hn : 1 ≤ n) (h : Per F s n Q) (hf : Fits F s n Q p) : Per F s p (Q * p / n) := by
  obtain ⟨_, _, h3⟩ := hf
  intro t ht
  have hd := Nat.div_add_mod (t - s) n
  have hl := Nat.mod_lt (t - s) hn
  have h1 := h.mul ((t - s) / n) (s + (t - s) % n) (by omega)
  have h2 := h.mul ((t - s) / n) (s + (t - s) % n + p) (by omega)
  have h4 := h3 (s + (t - s) % n) (by omega) (by omega)
  have e : s + (t - s) % n + (t - s) / n * n = t := by rw [Nat.mul_comm]; omega
  rw [e] at h1
  rw [show s + (t - s) % n + p + (t - s) / n * n = t + p by omega] at h2
  omega
theorem fits_of {F s n Q p q} (hn : 1 ≤ n) (h : Per F s n Q) (hp : p ∣ n) (hq : Per F s p q) : Fits F s n Q p ∧ Q * p / n = q := by
  obtain ⟨k, rfl⟩ := hp
  have h1 := hq.mul k
  rw [Nat.mul_comm] at h1
  have hQ := h.uniq h1
  have e : Q * (p : Int) = q * ((p * k : Nat) : Int) := by rw [hQ]; push_cast; ac_rfl
  have hne : ((p * k : Nat) : Int) ≠ 0 := by omega
  have e2 : Q * (p : Int) / ((p * k : Nat) : Int) = q := by rw [e]; exact Int.mul_ediv_cancel _ hne
  exact ⟨⟨Nat.mul_mod_right p k, by rw [e]; exact Int.mul_emod_left _ _, fun t ht _ => by rw [e2]; exact hq t ht⟩, e2⟩
theorem Fits.min {F s n Q p} (hn : 1 ≤ n) (h : Per F s n Q) (hl : ∀ p', 1 ≤ p' → p' < p → ¬Fits F s n Q p') : Min F p := by
  obtain ⟨p0, q0, h0, hq0, hm⟩ := exists_min hn h
  have hd := hq0.dvd h0 hm h
  have hf0 := (fits_of hn h hd hq0).1
  have : p ≤ p0 := by
    rcases Nat.lt_or_ge p0 p with h1 | h1
    · exact absurd hf0 (hl p0 h0 h1)
    · exact h1
  intro s' p' q' hp' hq'
  have := hm s' p' q' hp' hq'
  omega
theorem fits_self {F s n Q} (hn : 1 ≤ n) (h : Per F s n Q) : Fits F s n Q n := (fits_of hn h (Nat.dvd_refl n) h).1

/- the least start -/
def MinS (F : Nat → Int) (s p : Nat) (q : Int) : Prop := ∀ s', Per F s' p q → s ≤ s'
theorem minS_of {F s p q} (h : s = 0 ∨ F (s - 1 + p) ≠ F (s - 1) + q) : MinS F s p q := by
  intro s' hs'
  rcases Nat.lt_or_ge s' s with h1 | h1
  · rcases h with h | h
    · omega
    · exact absurd (hs' (s - 1) (by omega)) h
  · exact h1
theorem Per.pred {F s p q} (h : Per F s p q) (h1 : F (s - 1 + p) = F (s - 1) + q) : Per F (s - 1) p q := by
  intro t ht
  rcases Nat.lt_or_ge t s with h2 | h2
  · have : t = s - 1 := by omega
    subst this; exact h1
  · exact h t h2

abbrev INF : Int := 4611686018427387904
def vals (F : Nat → Int) (n : Nat) : List Int := (List.range n).map F
theorem vals_len (F : Nat → Int) (n : Nat) : (vals F n).length = n := by simp [vals]
theorem vals_get {F : Nat → Int} {n t : Nat} (h : t < n) : (vals F n).getD t 0 = F t := by simp [vals, h]
theorem vals_succ (F : Nat → Int) (n : Nat) : vals F (n + 1) = vals F n ++ [F n] := by simp [vals, List.range_succ]
/- the normal form of a function that repeats -/
def NF (F : Nat → Int) (vs : List Int) (p : Nat) (q : Int) : Prop := ∃ s, 1 ≤ p ∧ Per F s p q ∧ Min F p ∧ MinS F s p q ∧ vs = vals F (s + p)
theorem NF.uniq {F vs p q vs' p' q'} (h : NF F vs p q) (h' : NF F vs' p' q') : vs = vs' ∧ p = p' ∧ q = q' := by
  obtain ⟨s, h2, h3, h4, h5, h6⟩ := h
  obtain ⟨s', g2, g3, g4, g5, g6⟩ := h'
  have e1 := h4 s' p' q' g2 g3
  have e2 := g4 s p q h2 h3
  have : p = p' := by omega
  subst this
  have hq := h3.uniq g3
  subst hq
  have e3 := h5 s' g3
  have e4 := g5 s h3
  have : s = s' := by omega
  subst this
  exact ⟨by rw [h6, g6], rfl, rfl⟩
/- what ends in the infinite -/
theorem NF.inf {F : Nat → Int} {m : Nat} (h1 : ∀ t, m ≤ t → F t = INF) (h2 : ∀ t < m, F t ≠ INF) : NF F (vals F (m + 1)) 1 0 := by
  refine ⟨m, by omega, fun t ht => by rw [h1 t ht, h1 (t + 1) (by omega)]; rfl, fun _ p' _ hp' _ => hp', fun s' hs' => ?_, rfl⟩
  rcases Nat.lt_or_ge s' m with h | h
  · have := hs' (m - 1) (by omega)
    rw [show m - 1 + 1 = m by omega, h1 m (by omega)] at this
    exact absurd (by omega) (h2 (m - 1) (by omega))
  · exact h

/-! the function of a curve -/
def val (vs : List Int) (p : Nat) (q : Int) (t : Nat) : Int :=
  if t < vs.length then vs.getD t 0 else
  if vs.getD (t - ((t - vs.length) / p + 1) * p) 0 = INF then INF else vs.getD (t - ((t - vs.length) / p + 1) * p) 0 + ((t - vs.length) / p + 1 : Nat) * q
theorem val_lt {vs p q t} (h : t < vs.length) : val vs p q t = vs.getD t 0 := by simp [val, h]
theorem val_per {vs : List Int} {p : Nat} {q : Int} (hp : 1 ≤ p) (hn : p ≤ vs.length) (hf : ∀ t, vs.length - p ≤ t → t < vs.length → vs.getD t 0 ≠ INF) : Per (val vs p q) (vs.length - p) p q := by
  have idx : ∀ t, vs.length ≤ t → vs.length - p ≤ t - ((t - vs.length) / p + 1) * p ∧ t - ((t - vs.length) / p + 1) * p < vs.length ∧ ((t - vs.length) / p + 1) * p ≤ t := by
    intro t ht
    have h1 := Nat.div_add_mod (t - vs.length) p
    have h2 := Nat.mod_lt (t - vs.length) hp
    have h3 : ((t - vs.length) / p + 1) * p = p * ((t - vs.length) / p) + p := by rw [Nat.add_mul, Nat.one_mul, Nat.mul_comm]
    omega
  intro t ht
  obtain ⟨i1, i2, i3⟩ := idx (t + p) (by omega)
  have hne := hf _ i1 i2
  have e1 : val vs p q (t + p) = vs.getD (t + p - ((t + p - vs.length) / p + 1) * p) 0 + ((t + p - vs.length) / p + 1 : Nat) * q := by
    simp only [val]; rw [if_neg (by omega), if_neg hne]
  rw [e1]
  by_cases hlt : t < vs.length
  · have : (t + p - vs.length) / p = 0 := Nat.div_eq_of_lt (by omega)
    rw [this, val_lt hlt]
    simp
  · obtain ⟨j1, j2, j3⟩ := idx t (by omega)
    have hne' := hf _ j1 j2
    have e2 : val vs p q t = vs.getD (t - ((t - vs.length) / p + 1) * p) 0 + ((t - vs.length) / p + 1 : Nat) * q := by
      simp only [val]; rw [if_neg hlt, if_neg hne']
    have e3 : (t + p - vs.length) / p = (t - vs.length) / p + 1 := by
      rw [show t + p - vs.length = t - vs.length + p by omega, Nat.add_div_right _ hp]
    rw [e2, e3]
    have e4 : t + p - ((t - vs.length) / p + 1 + 1) * p = t - ((t - vs.length) / p + 1) * p := by
      rw [Nat.add_mul ((t - vs.length) / p + 1) 1 p]; omega
    rw [e4]
    generalize (t - vs.length) / p = k
    have : ((k + 1 + 1 : Nat) : Int) * q = ((k + 1 : Nat) : Int) * q + q := by push_cast; rw [Int.add_mul, Int.one_mul]
    omega
def ValidP (vs : List Int) (p i : Int) : Prop :=
  1 ≤ vs.length ∧ vs.length ≤ 400 ∧ 1 ≤ p ∧ p ≤ 120 ∧ p ≤ vs.length ∧ 0 ≤ i ∧ i ≤ 1073741824 ∧
  (∀ j < vs.length, vs.getD j 0 = 4611686018427387904 ∨ 0 ≤ vs.getD j 0 ∧ vs.getD j 0 ≤ 1073741824) ∧
  (∀ j, j + 1 < vs.length → vs.getD j 0 ≤ vs.getD (j + 1) 0) ∧
  (vs.getD (vs.length - 1) 0 = 4611686018427387904 → p = 1 ∧ i = 0) ∧
  (vs.getD (vs.length - 1) 0 ≠ 4611686018427387904 → vs.getD (vs.length - p.toNat) 0 + i ≥ vs.getD (vs.length - 1) 0)
/- what Least returns -/
def LeastP (vs : List Int) (P : Nat) (Q : Int) (vs' : List Int) (p' : Nat) (q' : Int) : Prop :=
  (∃ m, m < vs.length ∧ vs.getD m 0 = INF ∧ (∀ k < m, vs.getD k 0 ≠ INF) ∧ vs' = vs.take (m + 1) ∧ p' = 1 ∧ q' = 0) ∨
  ((∀ k < vs.length, vs.getD k 0 ≠ INF) ∧ NF (val vs P Q) vs' p' q')

structure VF (vs : List Int) (p : Nat) (q : Int) : Prop where
  n1 : 1 ≤ vs.length
  n2 : vs.length ≤ 400
  p1 : 1 ≤ p
  p2 : p ≤ 120
  pn : p ≤ vs.length
  q0 : 0 ≤ q
  q1 : q ≤ 1073741824
  v : ∀ j < vs.length, vs.getD j 0 = INF ∨ 0 ≤ vs.getD j 0 ∧ vs.getD j 0 ≤ 1073741824
  mono : ∀ j k, j ≤ k → k < vs.length → vs.getD j 0 ≤ vs.getD k 0
  inf : vs.getD (vs.length - 1) 0 = INF → p = 1 ∧ q = 0
  fin : vs.getD (vs.length - 1) 0 ≠ INF → vs.getD (vs.length - p) 0 + q ≥ vs.getD (vs.length - 1) 0
theorem mono_of {vs : List Int} (h : ∀ j, j + 1 < vs.length → vs.getD j 0 ≤ vs.getD (j + 1) 0) : ∀ j k, j ≤ k → k < vs.length → vs.getD j 0 ≤ vs.getD k 0 := by
  intro j k hjk
  induction k with
  | zero => intro _; have : j = 0 := by omega
            subst this; exact Int.le_refl _
  | succ k ih =>
    intro hk
    by_cases e : j = k + 1
    · subst e; exact Int.le_refl _
    · have := ih (by omega) (by omega)
      have := h k hk
      omega
theorem ValidP.vf {vs p q} (h : ValidP vs p q) : ∃ p' : Nat, p = p' ∧ VF vs p' q := by
  obtain ⟨h1, h2, h3, h4, h5, h6, h7, h8, h9, h10, h11⟩ := h
  refine ⟨p.toNat, by omega, h1, h2, by omega, by omega, by omega, h6, h7, h8, mono_of h9, fun e => ?_, fun e => h11 e⟩
  have := h10 e
  omega
theorem VF.noinf {vs p q} (h : VF vs p q) (hf : vs.getD (vs.length - 1) 0 ≠ INF) : ∀ k < vs.length, vs.getD k 0 ≠ INF := by
  intro k hk e
  have h1 := h.mono k (vs.length - 1) (by omega) (by omega)
  have := h.v (vs.length - 1) (by have := h.n1; omega)
  rw [e] at h1
  simp only [INF] at *
  omega
theorem VF.val_inf {vs p q} (h : VF vs p q) (hf : vs.getD (vs.length - 1) 0 = INF) {m : Nat} (hm : vs.getD m 0 = INF) : ∀ t, m ≤ t → val vs p q t = INF := by
  intro t ht
  obtain ⟨rfl, rfl⟩ := h.inf hf
  by_cases hlt : t < vs.length
  · rw [val_lt hlt]
    have h1 := h.mono m t ht hlt
    have := h.v t hlt
    rw [hm] at h1
    simp only [INF] at *
    omega
  · simp only [val]
    rw [if_neg hlt]
    have : t - ((t - vs.length) / 1 + 1) * 1 = vs.length - 1 := by have := h.n1; omega
    rw [this, if_pos hf]
theorem LeastP.nf {vs p q vs' p' q'} (h : VF vs p q) (hl : LeastP vs p q vs' p' q') : NF (val vs p q) vs' p' q' := by
  rcases hl with ⟨m, h1, h2, h3, rfl, rfl, rfl⟩ | ⟨_, h1⟩
  · have hf : vs.getD (vs.length - 1) 0 = INF := by
      have h4 := h.mono m (vs.length - 1) (by omega) (by omega)
      have := h.v (vs.length - 1) (by omega)
      rw [h2] at h4
      simp only [INF] at *
      omega
    have e : vs.take (m + 1) = vals (val vs p q) (m + 1) := by
      apply List.ext_getElem
      · rw [vals_len, List.length_take]; omega
      · intro i h5 h6
        rw [vals_len] at h6
        simp only [vals, List.getElem_map, List.getElem_range, List.getElem_take]
        rw [val_lt (by omega), List.getD_eq_getElem?_getD, List.getElem?_eq_getElem (by omega)]
        rfl
    rw [e]
    exact NF.inf (h.val_inf hf h2) (fun t ht => by rw [val_lt (by omega)]; exact h3 t ht)
  · exact h1
def MadeP (vs : List Int) (P : Nat) (Q : Int) (vs' : List Int) (p' q' e : Int) : Prop :=
  ∃ ws p1 q1, LeastP vs P Q ws p1 q1 ∧ ((ValidP ws p1 q1 ∧ vs' = ws ∧ p' = p1 ∧ q' = q1 ∧ e = 0) ∨ (¬ValidP ws p1 q1 ∧ vs' = [] ∧ p' = 0 ∧ q' = 0 ∧ e = 3))
def NormP (vs : List Int) (p q : Int) (vs' : List Int) (p' q' e : Int) : Prop :=
  (e = 0 ∧ ∃ p0 p1 : Nat, p = p0 ∧ p' = p1 ∧ VF vs p0 q ∧ NF (val vs p0 q) vs' p1 q') ∨ (¬ValidP vs p q ∧ vs' = [] ∧ p' = 0 ∧ q' = 0 ∧ e = 1)
end Go.Cv
end
section
namespace Go.Pk
/-! packets, plainly -/
structure Pk where
  f : Int
  t : Int
  s : Int
def sel (flow : Int) (x : Pk) : Prop := flow = -1 ∨ (x.f = flow ∧ 0 ≤ flow)
instance (flow : Int) (x : Pk) : Decidable (sel flow x) := inferInstanceAs (Decidable (_ ∨ _))
abbrev pk0 : Pk := ⟨0, 0, 0⟩
/- the packets of a flow among the first i, with their indices -/
def selN (p : List Pk) (flow : Int) : Nat → List (Nat × Pk)
  | 0 => []
  | i + 1 => if sel flow (p.getD i pk0) then selN p flow i ++ [(i, p.getD i pk0)] else selN p flow i
theorem selN_pre (p : List Pk) (flow : Int) {i : Nat} : ∀ {m : Nat}, i ≤ m → ∃ r, selN p flow m = selN p flow i ++ r
  | 0, h => by have : i = 0 := by omega
               subst this; exact ⟨[], by simp [selN]⟩
  | m + 1, h => by
    by_cases e : i = m + 1
    · subst e; exact ⟨[], by simp⟩
    · obtain ⟨r, hr⟩ := selN_pre p flow (i := i) (m := m) (by omega)
      simp only [selN]
      split
      · exact ⟨r ++ [(m, p.getD m pk0)], by rw [hr, List.append_assoc]⟩
      · exact ⟨r, hr⟩
theorem selN_at {p : List Pk} {flow : Int} {i : Nat} (hi : i < p.length) (h : sel flow (p.getD i pk0)) : (selN p flow p.length)[(selN p flow i).length]? = some (i, p.getD i pk0) := by
  obtain ⟨r, hr⟩ := selN_pre p flow (i := i + 1) (m := p.length) (by omega)
  rw [hr]
  simp only [selN]
  rw [if_pos h, List.append_assoc, List.getElem?_append_right (Nat.le_refl _), Nat.sub_self]
  rfl
theorem selN_len (p : List Pk) (flow : Int) : ∀ i, (selN p flow i).length ≤ i
  | 0 => by simp [selN]
  | i + 1 => by have := selN_len p flow i; simp only [selN]; split <;> simp <;> omega
theorem selN_step (p : List Pk) (flow : Int) (i : Nat) : (sel flow (p.getD i pk0) → selN p flow (i + 1) = selN p flow i ++ [(i, p.getD i pk0)]) ∧ (¬sel flow (p.getD i pk0) → selN p flow (i + 1) = selN p flow i) :=
  ⟨fun h => by simp only [selN]; rw [if_pos h], fun h => by simp only [selN]; rw [if_neg h]⟩
/- bytes before a tick -/
def bysL (t : Int) : List (Nat × Pk) → Int
  | [] => 0
  | x :: l => (if x.2.t < t then x.2.s else 0) + bysL t l
theorem bysL_app (t : Int) : ∀ a b : List (Nat × Pk), bysL t (a ++ b) = bysL t a + bysL t b
  | [], b => by simp [bysL]
  | x :: a, b => by simp only [List.cons_append, bysL]; rw [bysL_app]; omega
def bys (p : List Pk) (flow t : Int) : Int := bysL t (selN p flow p.length)
theorem bysL_take (t : Int) {l : List (Nat × Pk)} {j : Nat} {x : Nat × Pk} (h : l[j]? = some x) : bysL t (l.take (j + 1)) = bysL t (l.take j) + if x.2.t < t then x.2.s else 0 := by
  obtain ⟨hj, e⟩ := List.getElem?_eq_some_iff.1 h
  rw [List.take_succ_eq_append_getElem hj, bysL_app, e]
  simp [bysL]
theorem getD_memP {l : List Pk} {i : Nat} (h : i < l.length) : l.getD i pk0 ∈ l := by
  rw [List.getD_eq_getElem?_getD, List.getElem?_eq_getElem h]; exact List.getElem_mem h
theorem selN_mem {p : List Pk} {flow : Int} : ∀ {i : Nat}, i ≤ p.length → ∀ x ∈ selN p flow i, x.1 < i ∧ x.2 = p.getD x.1 pk0 ∧ x.2 ∈ p
  | 0, _, x, h => by simp [selN] at h
  | i + 1, hi, x, h => by
    have ih := selN_mem (p := p) (flow := flow) (i := i) (by omega)
    simp only [selN] at h
    split at h
    · rcases List.mem_append.1 h with h | h
      · have := ih x h; exact ⟨by omega, this.2⟩
      · rw [List.mem_singleton.1 h]; exact ⟨by simp, rfl, getD_memP (by omega)⟩
    · have := ih x h; exact ⟨by omega, this.2⟩
/- sizes that are small -/
def Sml (p : List Pk) : Prop := ∀ x ∈ p, 0 ≤ x.s ∧ x.s ≤ 1000000
theorem bysL_bd {t : Int} : ∀ {l : List (Nat × Pk)}, (∀ x ∈ l, 0 ≤ x.2.s ∧ x.2.s ≤ 1000000) → 0 ≤ bysL t l ∧ bysL t l ≤ 1000000 * l.length
  | [], _ => by simp [bysL]
  | x :: l, h => by
    have h1 := h x (by simp)
    have h2 := bysL_bd (t := t) (l := l) fun y hy => h y (List.mem_cons_of_mem _ hy)
    simp only [bysL, List.length_cons]
    split <;> (push_cast; omega)
theorem sel_bd {p : List Pk} {flow t : Int} (hs : Sml p) (j : Nat) : 0 ≤ bysL t ((selN p flow p.length).take j) ∧ bysL t ((selN p flow p.length).take j) ≤ 1000000 * p.length := by
  have h1 := bysL_bd (t := t) (l := (selN p flow p.length).take j) fun x hx => hs x.2 (selN_mem (Nat.le_refl _) x (List.mem_of_mem_take hx)).2.2
  have h2 := selN_len p flow p.length
  have h3 : ((selN p flow p.length).take j).length ≤ p.length := by rw [List.length_take]; omega
  omega
/-! what is wrong with a trace -/
def bad (x : Pk) : Prop := x.f < 0 ∨ 60 ≤ x.f ∨ x.t < 0 ∨ 2000 < x.t ∨ x.s < 1 ∨ 1500 < x.s
instance (x : Pk) : Decidable (bad x) := inferInstanceAs (Decidable (_ ∨ _))
def lst (p : List Pk) : Nat → Int
  | 0 => 0
  | i + 1 => (p.getD i pk0).t
def vldN (p : List Pk) : Nat → Int
  | 0 => 0
  | i + 1 => if vldN p i ≠ 0 then vldN p i else if bad (p.getD i pk0) then 2 else if (p.getD i pk0).t < lst p i then 7 else 0
def vld (p : List Pk) : Int := if 60 < p.length then 3 else vldN p p.length
theorem vldN_ge {p : List Pk} {i : Nat} : ∀ {m : Nat}, i ≤ m → vldN p i ≠ 0 → vldN p m = vldN p i
  | 0, h, _ => by have : i = 0 := by omega
                  subst this; rfl
  | m + 1, h, hn => by
    by_cases e : i = m + 1
    · subst e; rfl
    · have := vldN_ge (p := p) (i := i) (m := m) (by omega) hn
      simp only [vldN]; rw [if_pos (by rw [this]; exact hn), this]
theorem vldN_zero {p : List Pk} : ∀ {m : Nat}, vldN p m = 0 ↔ ∀ i, i < m → ¬bad (p.getD i pk0) ∧ lst p i ≤ (p.getD i pk0).t
  | 0 => by simp [vldN]
  | m + 1 => by
    have ih := vldN_zero (p := p) (m := m)
    simp only [vldN]
    constructor
    · intro h
      split at h
      · exact absurd h (by assumption)
      · rename_i h0
        split at h
        · cases h
        · split at h
          · cases h
          · rename_i h1 h2
            intro i hi
            by_cases e : i = m
            · subst e; exact ⟨h1, by omega⟩
            · exact ih.1 (by omega) i (by omega)
    · intro h
      have h0 := ih.2 fun i hi => h i (by omega)
      rw [if_neg (by omega), if_neg (h m (by omega)).1, if_neg (by have := (h m (by omega)).2; omega)]
/- a trace that is right -/
structure Vld (p : List Pk) : Prop where
  l : p.length ≤ 60
  g : ∀ i, i < p.length → ¬bad (p.getD i pk0)
  o : ∀ i, i < p.length → lst p i ≤ (p.getD i pk0).t
theorem vld_zero {p : List Pk} : vld p = 0 ↔ Vld p := by
  unfold vld
  constructor
  · intro h
    split at h
    · cases h
    · rename_i hl
      have := vldN_zero.1 h
      exact ⟨by omega, fun i hi => (this i hi).1, fun i hi => (this i hi).2⟩
  · rintro ⟨h1, h2, h3⟩
    rw [if_neg (by omega), vldN_zero]
    exact fun i hi => ⟨h2 i hi, h3 i hi⟩
theorem Vld.mem {p : List Pk} (h : Vld p) : ∀ x ∈ p, ¬bad x := fun x hx => by
  obtain ⟨i, hi, rfl⟩ := List.mem_iff_getElem.1 hx
  have := h.g i hi
  rwa [List.getD_eq_getElem?_getD, List.getElem?_eq_getElem hi] at this
theorem Vld.sml {p : List Pk} (h : Vld p) : Sml p := fun x hx => by
  have := h.mem x hx
  unfold bad at this; omega
/-! sums by ticks -/
def incL (u : Int) : List (Nat × Pk) → Int
  | [] => 0
  | x :: l => (if x.2.t + 1 = u then x.2.s else 0) + incL u l
theorem incL_app (u : Int) : ∀ a b : List (Nat × Pk), incL u (a ++ b) = incL u a + incL u b
  | [], b => by simp [incL]
  | x :: a, b => by simp only [List.cons_append, incL]; rw [incL_app]; omega
theorem incL_take (u : Int) {l : List (Nat × Pk)} {j : Nat} {x : Nat × Pk} (h : l[j]? = some x) : incL u (l.take (j + 1)) = incL u (l.take j) + if x.2.t + 1 = u then x.2.s else 0 := by
  obtain ⟨hj, e⟩ := List.getElem?_eq_some_iff.1 h
  rw [List.take_succ_eq_append_getElem hj, incL_app, e]
  simp [incL]
theorem bysL_inc (u : Int) : ∀ l : List (Nat × Pk), bysL (u + 1) l = bysL u l + incL (u + 1) l
  | [] => rfl
  | x :: l => by
    simp only [bysL, incL]
    rw [bysL_inc u l]
    split <;> split <;> split <;> omega
theorem bysL_zero : ∀ {l : List (Nat × Pk)}, (∀ x ∈ l, 0 ≤ x.2.t) → bysL 0 l = 0 ∧ incL 0 l = 0
  | [], _ => ⟨rfl, rfl⟩
  | x :: l, h => by
    have h1 := h x (by simp)
    have h2 := bysL_zero (l := l) fun y hy => h y (List.mem_cons_of_mem _ hy)
    simp only [bysL, incL]
    rw [if_neg (by omega), if_neg (by omega), h2.1, h2.2]; exact ⟨rfl, rfl⟩
theorem incL_bd {u : Int} : ∀ {l : List (Nat × Pk)}, (∀ x ∈ l, 0 ≤ x.2.s ∧ x.2.s ≤ 1000000) → 0 ≤ incL u l ∧ incL u l ≤ 1000000 * l.length
  | [], _ => by simp [incL]
  | x :: l, h => by
    have h1 := h x (by simp)
    have h2 := incL_bd (u := u) (l := l) fun y hy => h y (List.mem_cons_of_mem _ hy)
    simp only [incL, List.length_cons]
    split <;> (push_cast; omega)
theorem inc_bd {p : List Pk} {flow u : Int} (hs : Sml p) (j : Nat) : 0 ≤ incL u ((selN p flow p.length).take j) ∧ incL u ((selN p flow p.length).take j) ≤ 1000000 * p.length := by
  have h1 := incL_bd (u := u) (l := (selN p flow p.length).take j) fun x hx => hs x.2 (selN_mem (Nat.le_refl _) x (List.mem_of_mem_take hx)).2.2
  have h2 := selN_len p flow p.length
  have h3 : ((selN p flow p.length).take j).length ≤ p.length := by rw [List.length_take]; omega
  omega
open Go.Cv in
theorem vals_set {F : Nat → Int} {n k : Nat} (hk : k < n) (v : Int) : (vals F n).set k v = vals (fun u => if u = k then v else F u) n := by
  apply List.ext_getElem
  · simp [vals]
  · intro i h1 h2
    simp only [vals, List.getElem_set, List.getElem_map, List.getElem_range]
    by_cases e : k = i
    · subst e; simp
    · rw [if_neg e, if_neg (fun h => e h.symm)]
open Go.Cv in
theorem vals_congr {F G : Nat → Int} {n : Nat} (h : ∀ i, i < n → F i = G i) : vals F n = vals G n := by
  unfold vals
  exact List.map_congr_left fun i hi => h i (List.mem_range.1 hi)
end Go.Pk
end
section
namespace Go.St
/-! stable sorting, plainly -/
variable {α : Type}
def insR (k : α → Int) (x : α) : List α → List α
  | [] => [x]
  | y :: r => if k x < k y then y :: insR k x r else x :: y :: r
/- sorted, the last first -/
def srtR (k : α → Int) (l : List α) : List α := l.foldl (fun R x => insR k x R) []
def srt (k : α → Int) (l : List α) : List α := (srtR k l).reverse
theorem srtR_snoc (k : α → Int) (l : List α) (x : α) : srtR k (l ++ [x]) = insR k x (srtR k l) := by simp [srtR]
theorem insR_len (k : α → Int) (x : α) : ∀ R : List α, (insR k x R).length = R.length + 1
  | [] => rfl
  | y :: r => by simp only [insR]; split <;> simp [insR_len k x r]
theorem srtR_len (k : α → Int) (l : List α) : (srtR k l).length = l.length := by
  suffices h : ∀ (l R : List α), (l.foldl (fun R x => insR k x R) R).length = R.length + l.length by simpa [srtR] using h l []
  intro l
  induction l with
  | nil => simp
  | cons x l ih => intro R; simp only [List.foldl_cons, List.length_cons]; rw [ih, insR_len]; omega
theorem srt_len (k : α → Int) (l : List α) : (srt k l).length = l.length := by rw [srt, List.length_reverse, srtR_len]
theorem insR_app {k : α → Int} {x : α} : ∀ {R1 R2 : List α}, (∀ y ∈ R1, k x < k y) → insR k x (R1 ++ R2) = R1 ++ insR k x R2
  | [], _, _ => rfl
  | y :: r, R2, h => by
    simp only [List.cons_append, insR]
    rw [if_pos (h y (by simp)), insR_app fun z hz => h z (List.mem_cons_of_mem _ hz)]
/- where insertion stops -/
theorem insR_stop {k : α → Int} {x : α} {R : List α} {m : Nat} (h : ∀ y ∈ R.take m, k x < k y) (hs : ∀ y, R[m]? = some y → ¬k x < k y) : insR k x R = R.take m ++ x :: R.drop m := by
  have e : R = R.take m ++ R.drop m := (List.take_append_drop m R).symm
  rw [show insR k x R = insR k x (R.take m ++ R.drop m) by rw [← e], insR_app h]
  congr 1
  cases hd : R.drop m with
  | nil => rfl
  | cons y r =>
    have : R[m]? = some y := by
      have := congrArg (·[0]?) hd
      simpa [List.getElem?_drop] using this
    simp only [insR]
    rw [if_neg (hs y this)]
/- the list while x sinks -/
def lay (P R : List α) (x : α) (T : List α) (m : Nat) : List α := P ++ ((R.drop m).reverse ++ x :: ((R.take m).reverse ++ T))
theorem lay_zero (P R : List α) (x : α) (T : List α) : lay P R x T 0 = P ++ (R.reverse ++ x :: T) := by simp [lay]
theorem lay_len (P R : List α) (x : α) (T : List α) (m : Nat) : (lay P R x T m).length = P.length + R.length + 1 + T.length := by
  simp only [lay, List.length_append, List.length_reverse, List.length_cons, List.length_drop, List.length_take]; omega
theorem lay_step (P R : List α) (x : α) (T : List α) {m : Nat} (h : m < R.length) : ∃ A B y, R[m]? = some y ∧ A.length + 1 = P.length + (R.length - m) ∧ lay P R x T m = A ++ y :: x :: B ∧ lay P R x T (m + 1) = A ++ x :: y :: B := by
  refine ⟨P ++ (R.drop (m + 1)).reverse, (R.take m).reverse ++ T, R[m], List.getElem?_eq_getElem h, ?_, ?_, ?_⟩
  · simp only [List.length_append, List.length_reverse, List.length_drop]; omega
  · have e1 : (R.drop m).reverse = (R.drop (m + 1)).reverse ++ [R[m]] := by rw [List.drop_eq_getElem_cons h, List.reverse_cons]
    unfold lay
    rw [e1]
    simp only [List.append_assoc, List.cons_append, List.nil_append]
  · have e2 : (R.take (m + 1)).reverse = R[m] :: (R.take m).reverse := by rw [List.take_succ_eq_append_getElem h, List.reverse_append]; rfl
    unfold lay
    rw [e2]
    simp only [List.append_assoc, List.cons_append]
theorem lay_stop {k : α → Int} (P : List α) {R : List α} {x : α} (T : List α) {m : Nat} (h : ∀ y ∈ R.take m, k x < k y) (hs : ∀ y, R[m]? = some y → ¬k x < k y) : lay P R x T m = P ++ ((insR k x R).reverse ++ T) := by
  rw [insR_stop h hs, lay]; simp
/-! what sorting does -/
def Srt (k : α → Int) : List α → Prop
  | [] => True
  | x :: l => (∀ y ∈ l, k x ≤ k y) ∧ Srt k l
theorem insR_mem {k : α → Int} {x y : α} : ∀ {R : List α}, y ∈ insR k x R ↔ y = x ∨ y ∈ R
  | [] => by simp [insR]
  | z :: r => by
    simp only [insR]
    split
    · rw [List.mem_cons, List.mem_cons, insR_mem]
      constructor
      · rintro (rfl | rfl | h)
        · exact .inr (.inl rfl)
        · exact .inl rfl
        · exact .inr (.inr h)
      · rintro (rfl | rfl | h)
        · exact .inr (.inl rfl)
        · exact .inl rfl
        · exact .inr (.inr h)
    · rw [List.mem_cons]
theorem srtR_mem {k : α → Int} {y : α} (l : List α) : y ∈ srtR k l ↔ y ∈ l := by
  suffices h : ∀ (l R : List α), y ∈ l.foldl (fun R x => insR k x R) R ↔ y ∈ R ∨ y ∈ l by simpa [srtR] using h l []
  intro l
  induction l with
  | nil => simp
  | cons x l ih =>
    intro R
    simp only [List.foldl_cons, List.mem_cons]
    rw [ih, insR_mem]
    constructor
    · rintro ((h | h) | h)
      · exact .inr (.inl h)
      · exact .inl h
      · exact .inr (.inr h)
    · rintro (h | h | h)
      · exact .inl (.inr h)
      · exact .inl (.inl h)
      · exact .inr h
theorem srt_mem {k : α → Int} {y : α} {l : List α} : y ∈ srt k l ↔ y ∈ l := by rw [srt, List.mem_reverse, srtR_mem]
/- sorted downwards, the last first -/
def Dn (k : α → Int) : List α → Prop
  | [] => True
  | x :: l => (∀ y ∈ l, k y ≤ k x) ∧ Dn k l
theorem insR_dn {k : α → Int} {x : α} : ∀ {R : List α}, Dn k R → Dn k (insR k x R)
  | [], _ => ⟨by simp, trivial⟩
  | y :: r, h => by
    simp only [insR]
    split
    · rename_i hxy
      refine ⟨fun z hz => ?_, insR_dn h.2⟩
      rcases insR_mem.1 hz with rfl | hz
      · omega
      · exact h.1 z hz
    · rename_i hxy
      refine ⟨fun z hz => ?_, h⟩
      rcases List.mem_cons.1 hz with rfl | hz
      · omega
      · have := h.1 z hz; omega
theorem srtR_dn (k : α → Int) (l : List α) : Dn k (srtR k l) := by
  suffices h : ∀ (l R : List α), Dn k R → Dn k (l.foldl (fun R x => insR k x R) R) from h l [] trivial
  intro l
  induction l with
  | nil => exact fun _ h => h
  | cons x l ih => exact fun R h => ih _ (insR_dn h)
theorem srt_app_up {k : α → Int} : ∀ {a : List α} {x : α}, Srt k a → (∀ y ∈ a, k y ≤ k x) → Srt k (a ++ [x])
  | [], x, _, _ => ⟨by simp, trivial⟩
  | z :: a, x, h, hx => ⟨fun y hy => by
      rcases List.mem_append.1 hy with hy | hy
      · exact h.1 y hy
      · rw [List.mem_singleton.1 hy]; exact hx z (by simp), srt_app_up h.2 fun y hy => hx y (List.mem_cons_of_mem _ hy)⟩
theorem dn_rev {k : α → Int} : ∀ {R : List α}, Dn k R → Srt k R.reverse
  | [], _ => trivial
  | x :: r, h => by
    rw [List.reverse_cons]
    exact srt_app_up (dn_rev h.2) fun y hy => h.1 y (List.mem_reverse.1 hy)
theorem srt_sorted (k : α → Int) (l : List α) : Srt k (srt k l) := dn_rev (srtR_dn k l)
/- equal keys keep their order -/
theorem insR_filter {k : α → Int} {x : α} (t : Int) : ∀ {R : List α}, Dn k R → (insR k x R).filter (fun y => k y == t) = if k x = t then x :: R.filter (fun y => k y == t) else R.filter (fun y => k y == t)
  | [], _ => by simp only [insR, List.filter_cons, List.filter_nil]; by_cases h : k x = t <;> simp [h]
  | y :: r, h => by
    simp only [insR]
    split
    · rename_i hxy
      rw [List.filter_cons, insR_filter t h.2, List.filter_cons]
      by_cases hx : k x = t
      · rw [if_pos hx, if_pos hx]
        have hy : (k y == t) = false := by simp; omega
        rw [hy]; simp
      · rw [if_neg hx, if_neg hx]
    · rw [List.filter_cons]
      by_cases hx : k x = t
      · rw [if_pos hx, if_pos (by simp [hx])]
      · rw [if_neg hx, if_neg (by simp [hx])]
theorem srt_filter (k : α → Int) (t : Int) (l : List α) : (srt k l).filter (fun y => k y == t) = l.filter (fun y => k y == t) := by
  suffices h : ∀ (l R : List α), Dn k R → (l.foldl (fun R x => insR k x R) R).filter (fun y => k y == t) = (l.filter (fun y => k y == t)).reverse ++ R.filter (fun y => k y == t) by
    have := h l [] trivial
    rw [srt, List.filter_reverse, srtR, this]; simp
  intro l
  induction l with
  | nil => simp
  | cons x l ih =>
    intro R hR
    simp only [List.foldl_cons]
    rw [ih _ (insR_dn hR), insR_filter t hR, List.filter_cons]
    by_cases hx : k x = t
    · rw [if_pos hx, if_pos (by simp [hx])]; simp
    · rw [if_neg hx, if_neg (by simp [hx])]
/- what is sorted stays -/
theorem insR_top {k : α → Int} {x : α} {R : List α} (h : ∀ y ∈ R, k y ≤ k x) : insR k x R = x :: R := by
  cases R with
  | nil => rfl
  | cons y r => simp only [insR]; rw [if_neg (by have := h y (by simp); omega)]
theorem srt_self {k : α → Int} {l : List α} (h : Srt k l) : srt k l = l := by
  suffices h2 : ∀ (l R : List α), Srt k l → (∀ y ∈ R, ∀ x ∈ l, k y ≤ k x) → l.foldl (fun R x => insR k x R) R = l.reverse ++ R by
    have := h2 l [] h (by simp)
    rw [srt, srtR, this]; simp
  intro l
  induction l with
  | nil => simp
  | cons x l ih =>
    intro R hl hR
    simp only [List.foldl_cons]
    rw [insR_top fun y hy => hR y hy x (by simp), ih _ hl.2]
    · simp
    · intro y hy z hz
      rcases List.mem_cons.1 hy with rfl | hy
      · exact hl.1 z hz
      · exact hR y hy z (List.mem_cons_of_mem _ hz)
end Go.St
end
section
namespace Go.Pk
open Go.St
/-! traces that are made are right -/
abbrev ptm (x : Pk) : Int := x.t
theorem srt_get {k : Pk → Int} : ∀ {p : List Pk}, Srt k p → ∀ {i j : Nat}, i < j → j < p.length → k (p.getD i pk0) ≤ k (p.getD j pk0)
  | [], _, i, j, _, h => by simp at h
  | x :: p, h, 0, j + 1, _, hj => h.1 _ (by
      have : j < p.length := by simpa using hj
      show p.getD j pk0 ∈ p
      exact getD_memP this)
  | x :: p, h, i + 1, j + 1, hij, hj => srt_get (p := p) h.2 (i := i) (j := j) (by omega) (by simpa using hj)
theorem vld_of {p : List Pk} (hl : p.length ≤ 60) (hb : ∀ x ∈ p, ¬bad x) (hs : Srt ptm p) : Vld p := ⟨hl, fun i hi => hb _ (getD_memP hi), fun i hi => by
  cases i with
  | zero => have := hb _ (getD_memP hi); unfold bad at this; show (0 : Int) ≤ _; omega
  | succ i => exact srt_get hs (Nat.lt_succ_self i) hi⟩
/- each packet later -/
def late (d : Int) (p : List Pk) : List Pk := p.map fun x => ⟨x.f, x.t + d, x.s⟩
theorem late_len (d : Int) (p : List Pk) : (late d p).length = p.length := by simp [late]
def lt1 (d : Int) (x : Nat × Pk) : Nat × Pk := (x.1, ⟨x.2.f, x.2.t + d, x.2.s⟩)
theorem late_get (d : Int) {p : List Pk} {i : Nat} (h : i < p.length) : (late d p).getD i pk0 = ⟨(p.getD i pk0).f, (p.getD i pk0).t + d, (p.getD i pk0).s⟩ := by
  simp [late, List.getD_eq_getElem?_getD, h]
theorem selN_late (d : Int) (p : List Pk) (flow : Int) : ∀ i, i ≤ p.length → selN (late d p) flow i = (selN p flow i).map (lt1 d)
  | 0, _ => rfl
  | i + 1, h => by
    have e := late_get d (p := p) (i := i) (by omega)
    simp only [selN]
    rw [e, selN_late d p flow i (by omega)]
    by_cases hs : sel flow (p.getD i pk0)
    · rw [if_pos (show sel flow ⟨(p.getD i pk0).f, (p.getD i pk0).t + d, (p.getD i pk0).s⟩ from hs), if_pos hs]; simp [lt1]
    · rw [if_neg (show ¬sel flow ⟨(p.getD i pk0).f, (p.getD i pk0).t + d, (p.getD i pk0).s⟩ from hs), if_neg hs]
theorem bysL_late (d t : Int) : ∀ l : List (Nat × Pk), bysL (t + d) (l.map (lt1 d)) = bysL t l
  | [] => rfl
  | x :: l => by
    simp only [List.map_cons, bysL, lt1]
    rw [bysL_late]
    by_cases h : x.2.t < t
    · rw [if_pos (show x.2.t + d < t + d by omega), if_pos h]
    · rw [if_neg (show ¬x.2.t + d < t + d by omega), if_neg h]
theorem bys_late (d t : Int) (p : List Pk) (flow : Int) : bys (late d p) flow (t + d) = bys p flow t := by
  unfold bys; rw [late_len, selN_late d p flow _ (Nat.le_refl _), bysL_late]
/- the packets of one tick -/
def atT (t : Int) (l : List Pk) : List Pk := l.filter fun x => x.t == t
theorem atT_step (t : Int) {l : List Pk} {i : Nat} (h : i < l.length) : atT t (l.take (i + 1)) = if (l.getD i pk0).t = t then atT t (l.take i) ++ [l.getD i pk0] else atT t (l.take i) := by
  rw [List.take_succ_eq_append_getElem h]
  have e : l.getD i pk0 = l[i] := by simp [List.getD_eq_getElem?_getD, h]
  rw [e]
  unfold atT
  rw [List.filter_append]
  by_cases hx : l[i].t = t
  · rw [if_pos hx]; simp [hx]
  · rw [if_neg hx]; simp [hx]
theorem atT_len (t : Int) (l : List Pk) : (atT t l).length ≤ l.length := List.length_filter_le _ _
/- a mixed list -/
def mix (p : List Pk) (l : List Int) : List Pk := l.map fun i => p.getD i.toNat pk0
theorem mix_step (p : List Pk) {l : List Int} {i : Nat} (h : i < l.length) : mix p (l.take (i + 1)) = mix p (l.take i) ++ [p.getD (l.getD i 0).toNat pk0] := by
  have e : l.getD i 0 = l[i] := by simp [List.getD_eq_getElem?_getD, h]
  rw [List.take_succ_eq_append_getElem h, e, mix, List.map_append]; rfl
end Go.Pk
end
section
namespace Go.St
/-! merging in place, plainly -/
variable {α : Type}
theorem srt_app {k : α → Int} : ∀ {a b : List α}, Srt k (a ++ b) ↔ Srt k a ∧ Srt k b ∧ ∀ x ∈ a, ∀ y ∈ b, k x ≤ k y
  | [], b => by simp [Srt]
  | x :: a, b => by
    simp only [List.cons_append, Srt]
    rw [srt_app (a := a) (b := b)]
    constructor
    · rintro ⟨h1, h2, h3, h4⟩
      refine ⟨⟨fun y hy => h1 y (List.mem_append_left _ hy), h2⟩, h3, fun z hz y hy => ?_⟩
      rcases List.mem_cons.1 hz with rfl | hz
      · exact h1 y (List.mem_append_right _ hy)
      · exact h4 z hz y hy
    · rintro ⟨⟨h1, h2⟩, h3, h4⟩
      refine ⟨fun y hy => ?_, h2, h3, fun z hz => h4 z (List.mem_cons_of_mem _ hz)⟩
      rcases List.mem_append.1 hy with hy | hy
      · exact h1 y hy
      · exact h4 x (by simp) y hy
abbrev flt (k : α → Int) (t : Int) (l : List α) : List α := l.filter fun y => k y == t
theorem flt_cons (k : α → Int) (t : Int) (x : α) (l : List α) : flt k t (x :: l) = if k x = t then x :: flt k t l else flt k t l := by
  unfold flt; rw [List.filter_cons]
  by_cases h : k x = t <;> simp [h]
theorem flt_nil {k : α → Int} {t : Int} {l : List α} (h : ∀ x ∈ l, k x ≠ t) : flt k t l = [] := by
  unfold flt; rw [List.filter_eq_nil_iff]
  intro x hx; simpa using h x hx
theorem mem_flt {k : α → Int} {l : List α} {x : α} (h : x ∈ l) : x ∈ flt k (k x) l := by
  unfold flt; rw [List.mem_filter]; exact ⟨h, by simp⟩
theorem srt_uniq {k : α → Int} : ∀ {a b : List α}, Srt k a → Srt k b → (∀ t, flt k t a = flt k t b) → a = b
  | [], [], _, _, _ => rfl
  | [], y :: b, _, _, h => by
    have := h (k y); rw [flt_cons, if_pos rfl] at this; cases this
  | x :: a, [], _, _, h => by
    have := h (k x); rw [flt_cons, if_pos rfl] at this; cases this
  | x :: a, y :: b, ha, hb, h => by
    have e : k x = k y := by
      have h1 : k x ≤ k y := by
        have m : y ∈ x :: a := by
          have := h (k y)
          have m2 : y ∈ flt k (k y) (x :: a) := by rw [this]; exact mem_flt (by simp)
          exact (List.mem_filter.1 m2).1
        rcases List.mem_cons.1 m with rfl | m
        · exact Int.le_refl _
        · exact ha.1 y m
      have h2 : k y ≤ k x := by
        have m : x ∈ y :: b := by
          have := h (k x)
          have m2 : x ∈ flt k (k x) (y :: b) := by rw [← this]; exact mem_flt (by simp)
          exact (List.mem_filter.1 m2).1
        rcases List.mem_cons.1 m with rfl | m
        · exact Int.le_refl _
        · exact hb.1 x m
      omega
    have h1 := h (k x)
    rw [flt_cons, if_pos rfl, flt_cons, if_pos e.symm] at h1
    have e2 : x = y := (List.cons.inj h1).1
    subst e2
    congr 1
    refine srt_uniq ha.2 hb.2 fun t => ?_
    have := h t
    rw [flt_cons, flt_cons] at this
    split at this
    · exact (List.cons.inj this).2
    · exact this
theorem srt_flt (k : α → Int) (t : Int) (l : List α) : flt k t (srt k l) = flt k t l := srt_filter k t l
theorem eq_srt {k : α → Int} {a l : List α} (h1 : Srt k a) (h2 : ∀ t, flt k t a = flt k t l) : a = srt k l :=
  srt_uniq h1 (srt_sorted k l) fun t => by rw [h2, srt_flt]
theorem flt_app (k : α → Int) (t : Int) (a b : List α) : flt k t (a ++ b) = flt k t a ++ flt k t b := List.filter_append ..
/- the four parts of a merge -/
structure Quart (k : α → Int) (A1 A2 B1 B2 : List α) : Prop where
  a : Srt k (A1 ++ A2)
  b : Srt k (B1 ++ B2)
  lo : ∀ x ∈ A1, ∀ y ∈ B2, k x ≤ k y
  hi : ∀ y ∈ B1, ∀ x ∈ A2, k y < k x
theorem Quart.fl {k : α → Int} {A1 A2 B1 B2 : List α} (h : Quart k A1 A2 B1 B2) (t : Int) : flt k t ((A1 ++ B1) ++ (A2 ++ B2)) = flt k t ((A1 ++ A2) ++ (B1 ++ B2)) := by
  simp only [flt_app, List.append_assoc]
  congr 1
  rw [← List.append_assoc, ← List.append_assoc]
  congr 1
  by_cases e : flt k t B1 = []
  · rw [e]; simp
  · have : flt k t A2 = [] := flt_nil fun x hx hk => by
      obtain ⟨y, hy⟩ := List.exists_mem_of_ne_nil _ e
      have hy := List.mem_filter.1 hy
      have := h.hi y hy.1 x hx
      have e2 : k y = t := by simpa using hy.2
      omega
    rw [this]; simp
theorem Quart.eq {k : α → Int} {A1 A2 B1 B2 : List α} (h : Quart k A1 A2 B1 B2) : srt k (A1 ++ B1) ++ srt k (A2 ++ B2) = srt k ((A1 ++ A2) ++ (B1 ++ B2)) := by
  refine eq_srt ?_ fun t => ?_
  · rw [srt_app]
    refine ⟨srt_sorted _ _, srt_sorted _ _, fun x hx y hy => ?_⟩
    rw [srt_mem] at hx hy
    have ha := (srt_app.1 h.a).2.2
    have hb := (srt_app.1 h.b).2.2
    rcases List.mem_append.1 hx with hx | hx <;> rcases List.mem_append.1 hy with hy | hy
    · exact ha x hx y hy
    · exact h.lo x hx y hy
    · have := h.hi x hx y hy; omega
    · exact hb x hx y hy
  · rw [flt_app, srt_flt, srt_flt, ← flt_app, h.fl]
theorem srt_left {k : α → Int} {a : List α} (h : Srt k a) : srt k (a ++ []) = a := by rw [List.append_nil, srt_self h]
theorem Quart.done1 {k : α → Int} {A2 B1 B2 : List α} (h : Quart k [] A2 B1 B2) : srt k ([] ++ B1) = B1 := by
  rw [List.nil_append, srt_self (srt_app.1 h.b).1]
theorem Quart.done2 {k : α → Int} {A1 A2 B2 : List α} (h : Quart k A1 A2 [] B2) : srt k (A1 ++ []) = A1 := srt_left (srt_app.1 h.a).1
theorem Quart.done3 {k : α → Int} {A1 B1 B2 : List α} (h : Quart k A1 [] B1 B2) : srt k ([] ++ B2) = B2 := by
  rw [List.nil_append, srt_self (srt_app.1 h.b).2.1]
theorem Quart.done4 {k : α → Int} {A1 A2 B1 : List α} (h : Quart k A1 A2 B1 []) : srt k (A2 ++ []) = A2 := srt_left (srt_app.1 h.a).2.1
/- blocks of s that are sorted, below a -/
structure BlkTo (k : α → Int) (s a : Nat) (l : List α) : Prop where
  s : ∀ i j (hi : i < l.length) (hj : j < l.length), i < j → j < a → i / s = j / s → k l[i] ≤ k l[j]
theorem srt_getE {k : α → Int} : ∀ {l : List α}, Srt k l ↔ ∀ i j (hi : i < l.length) (hj : j < l.length), i < j → k l[i] ≤ k l[j]
  | [] => by simp [Srt]
  | x :: l => by
    simp only [Srt]
    rw [srt_getE (l := l)]
    constructor
    · rintro ⟨h1, h2⟩ i j hi hj hij
      cases j with
      | zero => omega
      | succ j =>
        cases i with
        | zero => exact h1 _ (List.getElem_mem _)
        | succ i => exact h2 i j (by simpa using hi) (by simpa using hj) (by omega)
    · intro h
      refine ⟨fun y hy => ?_, fun i j hi hj hij => h (i + 1) (j + 1) (by simpa using hi) (by simpa using hj) (by omega)⟩
      obtain ⟨j, hj, rfl⟩ := List.mem_iff_getElem.1 hy
      exact h 0 (j + 1) (by simp) (by simpa using hj) (by omega)
end Go.St
end
section
namespace Go.St
/-! where a merge in place is cut, plainly -/
variable {α : Type}
theorem srt_getD {k : α → Int} {d : α} {l : List α} (h : Srt k l) {i j : Nat} (hij : i ≤ j) (hj : j < l.length) : k (l.getD i d) ≤ k (l.getD j d) := by
  by_cases e : i = j
  · subst e; exact Int.le_refl _
  · have := (srt_getE.1 h) i j (by omega) hj (by omega)
    rw [List.getD_eq_getElem?_getD, List.getD_eq_getElem?_getD, List.getElem?_eq_getElem (by omega), List.getElem?_eq_getElem hj]
    exact this
theorem mem_take_getD {d : α} {l : List α} {s : Nat} {x : α} (h : x ∈ l.take s) : ∃ i, i < s ∧ i < l.length ∧ x = l.getD i d := by
  obtain ⟨i, hi, rfl⟩ := List.mem_iff_getElem.1 h
  rw [List.length_take] at hi
  refine ⟨i, by omega, by omega, ?_⟩
  rw [List.getElem_take, List.getD_eq_getElem?_getD, List.getElem?_eq_getElem (by omega)]; rfl
theorem mem_drop_getD {d : α} {l : List α} {s : Nat} {x : α} (h : x ∈ l.drop s) : ∃ i, s ≤ i ∧ i < l.length ∧ x = l.getD i d := by
  obtain ⟨i, hi, rfl⟩ := List.mem_iff_getElem.1 h
  rw [List.length_drop] at hi
  refine ⟨s + i, by omega, by omega, ?_⟩
  rw [List.getElem_drop, List.getD_eq_getElem?_getD, List.getElem?_eq_getElem (by omega)]; rfl
theorem quart_of {k : α → Int} (d : α) {A B : List α} (hA : Srt k A) (hB : Srt k B) {h s : Nat} (hs1 : h - B.length ≤ s) (hs2 : s ≤ h) (hs3 : s ≤ A.length)
    (hlo : s = h - B.length ∨ k (A.getD (s - 1) d) ≤ k (B.getD (h - s) d)) (hhi : s = A.length ∨ s = h ∨ k (B.getD (h - 1 - s) d) < k (A.getD s d)) :
    Quart k (A.take s) (A.drop s) (B.take (h - s)) (B.drop (h - s)) := by
  refine ⟨by rw [List.take_append_drop]; exact hA, by rw [List.take_append_drop]; exact hB, fun x hx y hy => ?_, fun y hy x hx => ?_⟩
  · obtain ⟨i, i1, i2, rfl⟩ := mem_take_getD (d := d) hx
    obtain ⟨j, j1, j2, rfl⟩ := mem_drop_getD (d := d) hy
    rcases hlo with e | e
    · exfalso; omega
    · have h1 := srt_getD (d := d) hA (i := i) (j := s - 1) (by omega) (by omega)
      have h2 := srt_getD (d := d) hB (i := h - s) (j := j) j1 j2
      omega
  · obtain ⟨i, i1, i2, rfl⟩ := mem_take_getD (d := d) hy
    obtain ⟨j, j1, j2, rfl⟩ := mem_drop_getD (d := d) hx
    rcases hhi with e | e | e
    · exfalso; omega
    · exfalso; omega
    · have h1 := srt_getD (d := d) hB (i := i) (j := h - 1 - s) (by omega) (by omega)
      have h2 := srt_getD (d := d) hA (i := s) (j := j) j1 j2
      omega
/- the search: up to c one list is at most the other, read backwards -/
theorem cut_up {k : α → Int} {d : α} {A B : List α} (hA : Srt k A) (hB : Srt k B) {h c : Nat} (hcA : c < A.length) (hb : h - B.length ≤ c) (hch : c < h) (hq : k (A.getD c d) ≤ k (B.getD (h - 1 - c) d)) {i : Nat} (hi : i ≤ c) (hib : h - B.length ≤ i) : k (A.getD i d) ≤ k (B.getD (h - 1 - i) d) := by
  have h1 := srt_getD (d := d) hA (i := i) (j := c) hi hcA
  have h2 := srt_getD (d := d) hB (i := h - 1 - c) (j := h - 1 - i) (by omega) (by omega)
  omega
theorem cut_dn {k : α → Int} {d : α} {A B : List α} (hA : Srt k A) (hB : Srt k B) {h c : Nat} (hb : h - B.length ≤ c) (hch : c < h) (hq : k (B.getD (h - 1 - c) d) < k (A.getD c d)) {i : Nat} (hi : c ≤ i) (hiA : i < A.length) (hih : i < h) : k (B.getD (h - 1 - i) d) < k (A.getD i d) := by
  have h1 := srt_getD (d := d) hA (i := c) (j := i) hi hiA
  have h2 := srt_getD (d := d) hB (i := h - 1 - i) (j := h - 1 - c) (by omega) (by omega)
  omega
/- one element before a list that is sorted -/
theorem ins_front {k : α → Int} {x : α} {B : List α} (hB : Srt k B) {i : Nat} (d : α) (h1 : ∀ j, j < i → j < B.length → k (B.getD j d) < k x) (h2 : ∀ j, i ≤ j → j < B.length → k x ≤ k (B.getD j d)) :
    B.take i ++ (x :: B.drop i) = srt k (x :: B) := by
  have q : Quart k [] [x] (B.take i) (B.drop i) := ⟨⟨by simp, trivial⟩, by rw [List.take_append_drop]; exact hB, fun x hx => by simp at hx, fun y hy z hz => by
    rw [List.mem_singleton.1 hz]
    obtain ⟨j, j1, j2, rfl⟩ := mem_take_getD (d := d) hy
    exact h1 j j1 j2⟩
  have e := q.eq
  rw [List.nil_append, List.nil_append, List.take_append_drop, srt_self (srt_app.1 q.b).1, srt_self (l := [x] ++ B.drop i)] at e
  · exact e
  · refine ⟨fun y hy => ?_, (srt_app.1 q.b).2.1⟩
    obtain ⟨j, j1, j2, rfl⟩ := mem_drop_getD (d := d) (by simpa using hy)
    exact h2 j j1 j2
/- one element behind a list that is sorted -/
theorem ins_back {k : α → Int} {y : α} {A : List α} (hA : Srt k A) {i : Nat} (d : α) (h1 : ∀ j, j < i → j < A.length → k (A.getD j d) ≤ k y) (h2 : ∀ j, i ≤ j → j < A.length → k y < k (A.getD j d)) :
    A.take i ++ (y :: A.drop i) = srt k (A ++ [y]) := by
  have q : Quart k (A.take i) (A.drop i) [y] [] := ⟨by rw [List.take_append_drop]; exact hA, by simp [Srt], fun x hx y hy => by simp at hy, fun z hz x hx => by
    rw [List.mem_singleton.1 hz]
    obtain ⟨j, j1, j2, rfl⟩ := mem_drop_getD (d := d) hx
    exact h2 j j1 j2⟩
  have e := q.eq
  rw [List.append_nil, List.append_nil, List.take_append_drop, srt_self (srt_app.1 q.a).2.1, srt_self (l := A.take i ++ [y])] at e
  · rw [← e]; simp
  · refine srt_app.2 ⟨(srt_app.1 q.a).1, ⟨by simp, trivial⟩, fun x hx z hz => ?_⟩
    rw [List.mem_singleton.1 hz]
    obtain ⟨j, j1, j2, rfl⟩ := mem_take_getD (d := d) hx
    exact h1 j j1 j2
end Go.St
end
section
namespace Go.St
/-! sorted blocks, plainly -/
variable {α : Type}
def sbF (k : α → Int) (s : Nat) : Nat → List α → List α
  | 0, l => srt k l
  | n + 1, l => if l.length ≤ s then srt k l else srt k (l.take s) ++ sbF k s n (l.drop s)
theorem sbF_eq {k : α → Int} {s : Nat} (hs : 1 ≤ s) : ∀ {n m : Nat} {l : List α}, l.length ≤ n → l.length ≤ m → sbF k s n l = sbF k s m l
  | 0, 0, _, _, _ => rfl
  | 0, m + 1, l, h1, _ => by simp only [sbF]; rw [if_pos (by omega)]
  | n + 1, 0, l, _, h2 => by simp only [sbF]; rw [if_pos (by omega)]
  | n + 1, m + 1, l, h1, h2 => by
    simp only [sbF]
    split
    · rfl
    · rw [sbF_eq hs (n := n) (m := m) (by rw [List.length_drop]; omega) (by rw [List.length_drop]; omega)]
def sb (k : α → Int) (s : Nat) (l : List α) : List α := sbF k s l.length l
theorem sb_small {k : α → Int} {s : Nat} {l : List α} (h : l.length ≤ s) : sb k s l = srt k l := by
  unfold sb
  cases l.length with
  | zero => rfl
  | succ n => simp only [sbF]; rw [if_pos h]
theorem sb_ge {k : α → Int} {s : Nat} (hs : 1 ≤ s) {l : List α} (h : s ≤ l.length) : sb k s l = srt k (l.take s) ++ sb k s (l.drop s) := by
  by_cases e : l.length = s
  · have e2 : l.drop s = [] := List.drop_of_length_le (by omega)
    rw [sb_small (by omega), e2, List.take_of_length_le (by omega), sb_small (by simp)]
    simp [srt, srtR]
  · obtain ⟨n, hn⟩ : ∃ n, l.length = n + 1 := ⟨l.length - 1, by omega⟩
    show sbF k s l.length l = _
    rw [hn]
    simp only [sbF]
    rw [if_neg (by omega)]
    congr 1
    exact sbF_eq hs (by rw [List.length_drop]; omega) (Nat.le_refl _)
theorem sb_len {k : α → Int} {s : Nat} (hs : 1 ≤ s) (l : List α) : (sb k s l).length = l.length := by
  suffices h : ∀ n (l : List α), (sbF k s n l).length = l.length from h _ _
  intro n
  induction n with
  | zero => intro l; exact srt_len ..
  | succ n ih =>
    intro l
    simp only [sbF]
    split
    · exact srt_len ..
    · rw [List.length_append, srt_len, ih, List.length_take, List.length_drop]; omega
theorem srt_srt {k : α → Int} (a b : List α) : srt k (srt k a ++ srt k b) = srt k (a ++ b) := by
  refine eq_srt (srt_sorted _ _) fun t => ?_
  rw [srt_flt, flt_app, srt_flt, srt_flt, flt_app]
/- two blocks at the front -/
theorem sb_two {k : α → Int} {s : Nat} (hs : 1 ≤ s) {l : List α} (h : 2 * s ≤ l.length) : sb k s l = srt k (l.take s) ++ (srt k ((l.drop s).take s) ++ sb k s (l.drop (2 * s))) ∧
    sb k (2 * s) l = srt k (srt k (l.take s) ++ srt k ((l.drop s).take s)) ++ sb k (2 * s) (l.drop (2 * s)) := by
  have e : (l.drop s).drop s = l.drop (2 * s) := by rw [List.drop_drop]; congr 1; omega
  refine ⟨?_, ?_⟩
  · rw [sb_ge hs (by omega), sb_ge hs (l := l.drop s) (by rw [List.length_drop]; omega), e]
  · rw [sb_ge (by omega) h, srt_srt, ← List.take_append_drop s (l.take (2 * s)), List.take_take, show min s (2 * s) = s by omega, List.drop_take, show 2 * s - s = s by omega]
/- the last block, and a part of one -/
theorem sb_tail {k : α → Int} {s : Nat} (hs : 1 ≤ s) {l : List α} (h1 : s < l.length) (h2 : l.length < 2 * s) : sb k s l = srt k (l.take s) ++ srt k (l.drop s) ∧ sb k (2 * s) l = srt k (srt k (l.take s) ++ srt k (l.drop s)) := by
  refine ⟨?_, ?_⟩
  · rw [sb_ge hs (by omega), sb_small (l := l.drop s) (by rw [List.length_drop]; omega)]
  · rw [sb_small (by omega), srt_srt, List.take_append_drop]
theorem sb_last {k : α → Int} {s : Nat} {l : List α} (h : l.length ≤ s) : sb k s l = sb k (2 * s) l := by rw [sb_small h, sb_small (by omega)]
end Go.St
end
section
namespace Go.Pk
open Go.St Go.Cv
/-! whole packets, plainly -/
def smL (l : List Pk) : Nat → Int
  | 0 => 0
  | j + 1 => smL l j + (l.getD j pk0).s
def bsL (l : List Pk) (n : Int) : Nat → Int
  | 0 => 0
  | j + 1 => if smL l (j + 1) ≤ n then max (bsL l n j) (smL l (j + 1)) else bsL l n j
def msL (l : List Pk) : Nat → Int
  | 0 => 0
  | j + 1 => max (msL l j) (l.getD j pk0).s
def whl (l : List Pk) (n : Int) : Int := bsL l n l.length
theorem smL_bd {l : List Pk} (h : ∀ x ∈ l, 0 ≤ x.s ∧ x.s ≤ 1000000) : ∀ j, j ≤ l.length → 0 ≤ smL l j ∧ smL l j ≤ 1000000 * j
  | 0, _ => by simp [smL]
  | j + 1, hj => by
    have h1 := smL_bd h j (by omega)
    have h2 := h _ (getD_memP (l := l) (i := j) (by omega))
    simp only [smL]; push_cast; omega
theorem bsL_bd {l : List Pk} (h : ∀ x ∈ l, 0 ≤ x.s ∧ x.s ≤ 1000000) {n : Int} (hn : 0 ≤ n) : ∀ j, j ≤ l.length → 0 ≤ bsL l n j ∧ bsL l n j ≤ n ∧ bsL l n j ≤ smL l j
  | 0, _ => by simp [bsL, smL]; omega
  | j + 1, hj => by
    have h1 := bsL_bd h hn j (by omega)
    have h2 := h _ (getD_memP (l := l) (i := j) (by omega))
    have h3 : smL l (j + 1) = smL l j + (l.getD j pk0).s := rfl
    simp only [bsL]
    split <;> omega
theorem msL_bd {l : List Pk} : ∀ j, 0 ≤ msL l j
  | 0 => by simp [msL]
  | j + 1 => by have := msL_bd (l := l) j; simp only [msL]; omega
theorem bsL_low {l : List Pk} (h : ∀ x ∈ l, 0 ≤ x.s ∧ x.s ≤ 1000000) {n : Int} (hn : 0 ≤ n) : ∀ j, j ≤ l.length → bsL l n j = smL l j ∨ n - msL l j < bsL l n j
  | 0, _ => .inl rfl
  | j + 1, hj => by
    have h1 := bsL_low h hn j (by omega)
    have h2 := h _ (getD_memP (l := l) (i := j) (by omega))
    have h3 : smL l (j + 1) = smL l j + (l.getD j pk0).s := rfl
    have h4 := bsL_bd h hn j (by omega)
    have h5 : msL l (j + 1) = max (msL l j) (l.getD j pk0).s := rfl
    simp only [bsL]
    split <;> omega
theorem bsL_mono {l : List Pk} {n n' : Int} (hn : n ≤ n') : ∀ j, bsL l n j ≤ bsL l n' j
  | 0 => by simp [bsL]
  | j + 1 => by
    have h1 := bsL_mono (l := l) hn j
    simp only [bsL]
    split <;> split <;> omega
/-! arrays that are filled -/
def prt {α : Type} (l : List α) (k : Nat) (z : α) : List α := l.take k ++ List.replicate (l.length - k) z
theorem prt_len {α : Type} (l : List α) (k : Nat) (z : α) (h : k ≤ l.length) : (prt l k z).length = l.length := by
  simp only [prt, List.length_append, List.length_take, List.length_replicate]; omega
theorem prt_zero {α : Type} (l : List α) (z : α) : prt l 0 z = List.replicate l.length z := by simp [prt]
theorem prt_full {α : Type} (l : List α) (z : α) : prt l l.length z = l := by simp [prt]
theorem prt_set {α : Type} {l : List α} {k : Nat} {x : α} (z : α) (h : l[k]? = some x) : (prt l k z).set k x = prt l (k + 1) z := by
  obtain ⟨hk, e⟩ := List.getElem?_eq_some_iff.1 h
  have hl : (l.take k).length = k := by rw [List.length_take]; omega
  unfold prt
  rw [List.set_append_right _ _ (by omega), hl, Nat.sub_self, show l.length - k = l.length - (k + 1) + 1 by omega, List.replicate_succ, List.take_succ_eq_append_getElem hk, e]
  simp
theorem prt_get {α : Type} {l : List α} {k : Nat} (z : α) (h : k < l.length) : (prt l k z)[k]? = some z := by
  have hl : (l.take k).length = k := by rw [List.length_take]; omega
  unfold prt
  rw [List.getElem?_append_right (by omega), hl, Nat.sub_self, show l.length - k = l.length - (k + 1) + 1 by omega, List.replicate_succ]
  rfl
end Go.Pk
end
section
namespace Go.Pk
open Go.St Go.Cv
/-! sums that do not depend on the order -/
def sumA {α : Type} (f : α → Int) : List α → Int
  | [] => 0
  | x :: l => f x + sumA f l
theorem sumA_app {α : Type} (f : α → Int) : ∀ a b : List α, sumA f (a ++ b) = sumA f a + sumA f b
  | [], b => by simp [sumA]
  | x :: a, b => by simp only [List.cons_append, sumA]; rw [sumA_app]; omega
theorem sumA_insR {α : Type} (f : α → Int) (k : α → Int) (x : α) : ∀ R : List α, sumA f (insR k x R) = f x + sumA f R
  | [] => rfl
  | y :: r => by
    simp only [insR]
    split
    · simp only [sumA]; rw [sumA_insR f k x r]; omega
    · rfl
theorem sumA_srtR {α : Type} (f : α → Int) (k : α → Int) (l : List α) : sumA f (srtR k l) = sumA f l := by
  suffices h : ∀ (l R : List α), sumA f (l.foldl (fun R x => insR k x R) R) = sumA f R + sumA f l by
    have := h l []
    simpa [srtR, sumA] using this
  intro l
  induction l with
  | nil => intro R; simp [sumA]
  | cons x l ih => intro R; simp only [List.foldl_cons, sumA]; rw [ih, sumA_insR]; omega
theorem sumA_rev {α : Type} (f : α → Int) : ∀ l : List α, sumA f l.reverse = sumA f l
  | [] => rfl
  | x :: l => by rw [List.reverse_cons, sumA_app, sumA_rev f l]; simp only [sumA]; omega
theorem sumA_srt {α : Type} (f : α → Int) (k : α → Int) (l : List α) : sumA f (srt k l) = sumA f l := by rw [srt, sumA_rev, sumA_srtR]
theorem sumA_map {α β : Type} (f : β → Int) (g : α → β) : ∀ l : List α, sumA f (l.map g) = sumA (fun a => f (g a)) l
  | [] => rfl
  | x :: l => by simp only [List.map_cons, sumA]; rw [sumA_map f g l]
abbrev bef (t : Int) (x : Pk) : Int := if x.t < t then x.s else 0
theorem bys_all (q : List Pk) (t : Int) : bys q (-1) t = sumA (bef t) q := by
  suffices h : ∀ i, i ≤ q.length → bysL t (selN q (-1) i) = sumA (bef t) (q.take i) by
    have := h q.length (Nat.le_refl _)
    rw [List.take_length] at this; exact this
  intro i
  induction i with
  | zero => intro _; rfl
  | succ i ih =>
    intro hi
    obtain ⟨h1, _⟩ := selN_step q (-1) i
    rw [h1 (.inl rfl), bysL_app, ih (by omega), List.take_succ_eq_append_getElem (by omega), sumA_app]
    have e : q.getD i pk0 = q[i] := by simp [List.getD_eq_getElem?_getD, show i < q.length by omega]
    simp only [bysL, sumA, e, bef]
theorem srt_map {k : Pk → Int} {α : Type} {g : α → Pk} : ∀ {l : List α}, Srt (fun a => k (g a)) l → Srt k (l.map g)
  | [], _ => trivial
  | x :: l, h => ⟨fun y hy => by
      obtain ⟨z, hz, rfl⟩ := List.mem_map.1 hy
      exact h.1 z hz, srt_map h.2⟩
end Go.Pk
end
