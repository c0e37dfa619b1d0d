/-
  A text of the proofs of this seat: lemmas that the statements' proofs use; it states nothing of the program by itself beyond the contracts that its theorems bear. Conditions: those that stand in each theorem. Its short name: Pl.
-/
set_option linter.unusedVariables false
set_option linter.unusedSimpArgs false
section
namespace Go.Cv
/-! plain laws of functions that repeat with a gain -/
def Per (F : Nat → Int) (s p : Nat) (q : Int) : Prop := ∀ t, s ≤ t → F (t + p) = F t + q
theorem Per.mono {F s s' p q} (h : Per F s p q) (hs : s ≤ s') : Per F s' p q := fun t ht => h t (by omega)
theorem Per.mul {F s p q} (h : Per F s p q) : ∀ k : Nat, Per F s (k * p) (k * q)
  | 0 => fun t _ => by simp
  | k + 1 => fun t ht => by
    have h1 := Per.mul h k t ht
    have h2 := h (t + k * p) (by omega)
    rw [show t + (k + 1) * p = t + k * p + p by rw [Nat.add_mul]; omega, h2, h1]
    push_cast; rw [Int.add_mul]; omega
theorem Per.back {F s s' n p Q q} (hn : 1 ≤ n) (h : Per F s n Q) (h' : Per F s' p q) : Per F s p q := by
  intro t ht
  have h1 := h.mul s' t ht
  have h2 := h.mul s' (t + p) (by omega)
  have hle : s' ≤ t + s' * n := by have := Nat.mul_le_mul_left s' hn; omega
  have h3 := h' (t + s' * n) hle
  rw [show t + s' * n + p = t + p + s' * n by omega, h2, h1] at h3
  omega
theorem Per.uniq {F s s' p q q'} (h : Per F s p q) (h' : Per F s' p q') : q = q' := by
  have h1 := h (max s s') (by omega)
  have h2 := h' (max s s') (by omega)
  omega
/- p is the least period -/
def Min (F : Nat → Int) (p : Nat) : Prop := ∀ s' p' q', 1 ≤ p' → Per F s' p' q' → p ≤ p'
theorem Per.dvd {F s p n q Q} (hp : 1 ≤ p) (h : Per F s p q) (hm : Min F p) (hn : Per F s n Q) : p ∣ n := by
  rcases Nat.eq_zero_or_pos (n % p) with h0 | h0
  · exact Nat.dvd_of_mod_eq_zero h0
  · have hr : Per F s (n % p) (Q - (n / p : Nat) * q) := by
      intro t ht
      have h1 := hn t ht
      have h2 := h.mul (n / p) (t + n % p) (by omega)
      have h3 := Nat.div_add_mod n p
      rw [show t + n % p + n / p * p = t + n by rw [Nat.mul_comm]; omega, h1] at h2
      omega
    have := hm s (n % p) _ h0 hr
    have := Nat.mod_lt n hp
    omega
theorem exists_min {F s n Q} (hn : 1 ≤ n) (h : Per F s n Q) : ∃ p q, 1 ≤ p ∧ Per F s p q ∧ Min F p := by
  have key : ∀ (k n : Nat) (s : Nat) (Q : Int), n ≤ k → 1 ≤ n → Per F s n Q → ∃ s' p q, 1 ≤ p ∧ Per F s' p q ∧ Min F p := by
    intro k
    induction k with
    | zero => intro n s Q h1 h2; omega
    | succ k ih =>
      intro n s Q hk hn h
      by_cases hm : Min F n
      · exact ⟨s, n, Q, hn, h, hm⟩
      · simp only [Min, Classical.not_forall] at hm
        obtain ⟨s', p', q', hp', hq, hlt⟩ := hm
        exact ih p' s' q' (by omega) hp' hq
  obtain ⟨s', p, q, hp, hq, hm⟩ := key n n s Q (by omega) hn h
  exact ⟨p, q, hp, Per.back hn h hq, hm⟩
/- what the programs ask of a period -/
def Fits (F : Nat → Int) (s n : Nat) (Q : Int) (p : Nat) : Prop := n % p = 0 ∧ Q * p % n = 0 ∧ ∀ t, s ≤ t → t < s + n → F (t + p) = F t + Q * p / n
theorem Fits.per {F s n Q p} (hn : 1 ≤ n) (h : Per F s n Q) (hf : Fits F s n Q p) : Per F s p (Q * p / n) := by
  obtain ⟨_, _, h3⟩ := hf
  intro t ht
  have hd := Nat.div_add_mod (t - s) n
  have hl := Nat.mod_lt (t - s) hn
  have h1 := h.mul ((t - s) / n) (s + (t - s) % n) (by omega)
  have h2 := h.mul ((t - s) / n) (s + (t - s) % n + p) (by omega)
  have h4 := h3 (s + (t - s) % n) (by omega) (by omega)
  have e : s + (t - s) % n + (t - s) / n * n = t := by rw [Nat.mul_comm]; omega
  rw [e] at h1
  rw [show s + (t - s) % n + p + (t - s) / n * n = t + p by omega] at h2
  omega
theorem fits_of {F s n Q p q} (hn : 1 ≤ n) (h : Per F s n Q) (hp : p ∣ n) (hq : Per F s p q) : Fits F s n Q p ∧ Q * p / n = q := by
  obtain ⟨k, rfl⟩ := hp
  have h1 := hq.mul k
  rw [Nat.mul_comm] at h1
  have hQ := h.uniq h1
  have e : Q * (p : Int) = q * ((p * k : Nat) : Int) := by rw [hQ]; push_cast; ac_rfl
  have hne : ((p * k : Nat) : Int) ≠ 0 := by omega
  have e2 : Q * (p : Int) / ((p * k : Nat) : Int) = q := by rw [e]; exact Int.mul_ediv_cancel _ hne
  exact ⟨⟨Nat.mul_mod_right p k, by rw [e]; exact Int.mul_emod_left _ _, fun t ht _ => by rw [e2]; exact hq t ht⟩, e2⟩
theorem Fits.min {F s n Q p} (hn : 1 ≤ n) (h : Per F s n Q) (hl : ∀ p', 1 ≤ p' → p' < p → ¬Fits F s n Q p') : Min F p := by
  obtain ⟨p0, q0, h0, hq0, hm⟩ := exists_min hn h
  have hd := hq0.dvd h0 hm h
  have hf0 := (fits_of hn h hd hq0).1
  have : p ≤ p0 := by
    rcases Nat.lt_or_ge p0 p with h1 | h1
    · exact absurd hf0 (hl p0 h0 h1)
    · exact h1
  intro s' p' q' hp' hq'
  have := hm s' p' q' hp' hq'
  omega
theorem fits_self {F s n Q} (hn : 1 ≤ n) (h : Per F s n Q) : Fits F s n Q n := (fits_of hn h (Nat.dvd_refl n) h).1

/- the least start -/
def MinS (F : Nat → Int) (s p : Nat) (q : Int) : Prop := ∀ s', Per F s' p q → s ≤ s'
theorem minS_of {F s p q} (h : s = 0 ∨ F (s - 1 + p) ≠ F (s - 1) + q) : MinS F s p q := by
  intro s' hs'
  rcases Nat.lt_or_ge s' s with h1 | h1
  · rcases h with h | h
    · omega
    · exact absurd (hs' (s - 1) (by omega)) h
  · exact h1
theorem Per.pred {F s p q} (h : Per F s p q) (h1 : F (s - 1 + p) = F (s - 1) + q) : Per F (s - 1) p q := by
  intro t ht
  rcases Nat.lt_or_ge t s with h2 | h2
  · have : t = s - 1 := by omega
    subst this; exact h1
  · exact h t h2

abbrev INF : Int := 4611686018427387904
def vals (F : Nat → Int) (n : Nat) : List Int := (List.range n).map F
theorem vals_len (F : Nat → Int) (n : Nat) : (vals F n).length = n := by simp [vals]
theorem vals_get {F : Nat → Int} {n t : Nat} (h : t < n) : (vals F n).getD t 0 = F t := by simp [vals, h]
theorem vals_succ (F : Nat → Int) (n : Nat) : vals F (n + 1) = vals F n ++ [F n] := by simp [vals, List.range_succ]
/- the normal form of a function that repeats -/
def NF (F : Nat → Int) (vs : List Int) (p : Nat) (q : Int) : Prop := ∃ s, 1 ≤ p ∧ Per F s p q ∧ Min F p ∧ MinS F s p q ∧ vs = vals F (s + p)
theorem NF.uniq {F vs p q vs' p' q'} (h : NF F vs p q) (h' : NF F vs' p' q') : vs = vs' ∧ p = p' ∧ q = q' := by
  obtain ⟨s, h2, h3, h4, h5, h6⟩ := h
  obtain ⟨s', g2, g3, g4, g5, g6⟩ := h'
  have e1 := h4 s' p' q' g2 g3
  have e2 := g4 s p q h2 h3
  have : p = p' := by omega
  subst this
  have hq := h3.uniq g3
  subst hq
  have e3 := h5 s' g3
  have e4 := g5 s h3
  have : s = s' := by omega
  subst this
  exact ⟨by rw [h6, g6], rfl, rfl⟩
/- what ends in the infinite -/
theorem NF.inf {F : Nat → Int} {m : Nat} (h1 : ∀ t, m ≤ t → F t = INF) (h2 : ∀ t < m, F t ≠ INF) : NF F (vals F (m + 1)) 1 0 := by
  refine ⟨m, by omega, fun t ht => by rw [h1 t ht, h1 (t + 1) (by omega)]; rfl, fun _ p' _ hp' _ => hp', fun s' hs' => ?_, rfl⟩
  rcases Nat.lt_or_ge s' m with h | h
  · have := hs' (m - 1) (by omega)
    rw [show m - 1 + 1 = m by omega, h1 m (by omega)] at this
    exact absurd (by omega) (h2 (m - 1) (by omega))
  · exact h

/-! the function of a curve -/
def val (vs : List Int) (p : Nat) (q : Int) (t : Nat) : Int :=
  if t < vs.length then vs.getD t 0 else
  if vs.getD (t - ((t - vs.length) / p + 1) * p) 0 = INF then INF else vs.getD (t - ((t - vs.length) / p + 1) * p) 0 + ((t - vs.length) / p + 1 : Nat) * q
theorem val_lt {vs p q t} (h : t < vs.length) : val vs p q t = vs.getD t 0 := by simp [val, h]
theorem val_per {vs : List Int} {p : Nat} {q : Int} (hp : 1 ≤ p) (hn : p ≤ vs.length) (hf : ∀ t, vs.length - p ≤ t → t < vs.length → vs.getD t 0 ≠ INF) : Per (val vs p q) (vs.length - p) p q := by
  have idx : ∀ t, vs.length ≤ t → vs.length - p ≤ t - ((t - vs.length) / p + 1) * p ∧ t - ((t - vs.length) / p + 1) * p < vs.length ∧ ((t - vs.length) / p + 1) * p ≤ t := by
    intro t ht
    have h1 := Nat.div_add_mod (t - vs.length) p
    have h2 := Nat.mod_lt (t - vs.length) hp
    have h3 : ((t - vs.length) / p + 1) * p = p * ((t - vs.length) / p) + p := by rw [Nat.add_mul, Nat.one_mul, Nat.mul_comm]
    omega
  intro t ht
  obtain ⟨i1, i2, i3⟩ := idx (t + p) (by omega)
  have hne := hf _ i1 i2
  have e1 : val vs p q (t + p) = vs.getD (t + p - ((t + p - vs.length) / p + 1) * p) 0 + ((t + p - vs.length) / p + 1 : Nat) * q := by
    simp only [val]; rw [if_neg (by omega), if_neg hne]
  rw [e1]
  by_cases hlt : t < vs.length
  · have : (t + p - vs.length) / p = 0 := Nat.div_eq_of_lt (by omega)
    rw [this, val_lt hlt]
    simp
  · obtain ⟨j1, j2, j3⟩ := idx t (by omega)
    have hne' := hf _ j1 j2
    have e2 : val vs p q t = vs.getD (t - ((t - vs.length) / p + 1) * p) 0 + ((t - vs.length) / p + 1 : Nat) * q := by
      simp only [val]; rw [if_neg hlt, if_neg hne']
    have e3 : (t + p - vs.length) / p = (t - vs.length) / p + 1 := by
      rw [show t + p - vs.length = t - vs.length + p by omega, Nat.add_div_right _ hp]
    rw [e2, e3]
    have e4 : t + p - ((t - vs.length) / p + 1 + 1) * p = t - ((t - vs.length) / p + 1) * p := by
      rw [Nat.add_mul ((t - vs.length) / p + 1) 1 p]; omega
    rw [e4]
    generalize (t - vs.length) / p = k
    have : ((k + 1 + 1 : Nat) : Int) * q = ((k + 1 : Nat) : Int) * q + q := by push_cast; rw [Int.add_mul, Int.one_mul]
    omega
def ValidP (vs : List Int) (p i : Int) : Prop :=
  1 ≤ vs.length ∧ vs.length ≤ 400 ∧ 1 ≤ p ∧ p ≤ 120 ∧ p ≤ vs.length ∧ 0 ≤ i ∧ i ≤ 1073741824 ∧
  (∀ j < vs.length, vs.getD j 0 = 4611686018427387904 ∨ 0 ≤ vs.getD j 0 ∧ vs.getD j 0 ≤ 1073741824) ∧
  (∀ j, j + 1 < vs.length → vs.getD j 0 ≤ vs.getD (j + 1) 0) ∧
  (vs.getD (vs.length - 1) 0 = 4611686018427387904 → p = 1 ∧ i = 0) ∧
  (vs.getD (vs.length - 1) 0 ≠ 4611686018427387904 → vs.getD (vs.length - p.toNat) 0 + i ≥ vs.getD (vs.length - 1) 0)
/- what Least returns -/
def LeastP (vs : List Int) (P : Nat) (Q : Int) (vs' : List Int) (p' : Nat) (q' : Int) : Prop :=
  (∃ m, m < vs.length ∧ vs.getD m 0 = INF ∧ (∀ k < m, vs.getD k 0 ≠ INF) ∧ vs' = vs.take (m + 1) ∧ p' = 1 ∧ q' = 0) ∨
  ((∀ k < vs.length, vs.getD k 0 ≠ INF) ∧ NF (val vs P Q) vs' p' q')

structure VF (vs : List Int) (p : Nat) (q : Int) : Prop where
  n1 : 1 ≤ vs.length
  n2 : vs.length ≤ 400
  p1 : 1 ≤ p
  p2 : p ≤ 120
  pn : p ≤ vs.length
  q0 : 0 ≤ q
  q1 : q ≤ 1073741824
  v : ∀ j < vs.length, vs.getD j 0 = INF ∨ 0 ≤ vs.getD j 0 ∧ vs.getD j 0 ≤ 1073741824
  mono : ∀ j k, j ≤ k → k < vs.length → vs.getD j 0 ≤ vs.getD k 0
  inf : vs.getD (vs.length - 1) 0 = INF → p = 1 ∧ q = 0
  fin : vs.getD (vs.length - 1) 0 ≠ INF → vs.getD (vs.length - p) 0 + q ≥ vs.getD (vs.length - 1) 0
theorem mono_of {vs : List Int} (h : ∀ j, j + 1 < vs.length → vs.getD j 0 ≤ vs.getD (j + 1) 0) : ∀ j k, j ≤ k → k < vs.length → vs.getD j 0 ≤ vs.getD k 0 := by
  intro j k hjk
  induction k with
  | zero => intro _; have : j = 0 := by omega
            subst this; exact Int.le_refl _
  | succ k ih =>
    intro hk
    by_cases e : j = k + 1
    · subst e; exact Int.le_refl _
    · have := ih (by omega) (by omega)
      have := h k hk
      omega
theorem ValidP.vf {vs p q} (h : ValidP vs p q) : ∃ p' : Nat, p = p' ∧ VF vs p' q := by
  obtain ⟨h1, h2, h3, h4, h5, h6, h7, h8, h9, h10, h11⟩ := h
  refine ⟨p.toNat, by omega, h1, h2, by omega, by omega, by omega, h6, h7, h8, mono_of h9, fun e => ?_, fun e => h11 e⟩
  have := h10 e
  omega
theorem VF.noinf {vs p q} (h : VF vs p q) (hf : vs.getD (vs.length - 1) 0 ≠ INF) : ∀ k < vs.length, vs.getD k 0 ≠ INF := by
  intro k hk e
  have h1 := h.mono k (vs.length - 1) (by omega) (by omega)
  have := h.v (vs.length - 1) (by have := h.n1; omega)
  rw [e] at h1
  simp only [INF] at *
  omega
theorem VF.val_inf {vs p q} (h : VF vs p q) (hf : vs.getD (vs.length - 1) 0 = INF) {m : Nat} (hm : vs.getD m 0 = INF) : ∀ t, m ≤ t → val vs p q t = INF := by
  intro t ht
  obtain ⟨rfl, rfl⟩ := h.inf hf
  by_cases hlt : t < vs.length
  · rw [val_lt hlt]
    have h1 := h.mono m t ht hlt
    have := h.v t hlt
    rw [hm] at h1
    simp only [INF] at *
    omega
  · simp only [val]
    rw [if_neg hlt]
    have : t - ((t - vs.length) / 1 + 1) * 1 = vs.length - 1 := by have := h.n1; omega
    rw [this, if_pos hf]
theorem LeastP.nf {vs p q vs' p' q'} (h : VF vs p q) (hl : LeastP vs p q vs' p' q') : NF (val vs p q) vs' p' q' := by
  rcases hl with ⟨m, h1, h2, h3, rfl, rfl, rfl⟩ | ⟨_, h1⟩
  · have hf : vs.getD (vs.length - 1) 0 = INF := by
      have h4 := h.mono m (vs.length - 1) (by omega) (by omega)
      have := h.v (vs.length - 1) (by omega)
      rw [h2] at h4
      simp only [INF] at *
      omega
    have e : vs.take (m + 1) = vals (val vs p q) (m + 1) := by
      apply List.ext_getElem
      · rw [vals_len, List.length_take]; omega
      · intro i h5 h6
        rw [vals_len] at h6
        simp only [vals, List.getElem_map, List.getElem_range, List.getElem_take]
        rw [val_lt (by omega), List.getD_eq_getElem?_getD, List.getElem?_eq_getElem (by omega)]
        rfl
    rw [e]
    exact NF.inf (h.val_inf hf h2) (fun t ht => by rw [val_lt (by omega)]; exact h3 t ht)
  · exact h1
def MadeP (vs : List Int) (P : Nat) (Q : Int) (vs' : List Int) (p' q' e : Int) : Prop :=
  ∃ ws p1 q1, LeastP vs P Q ws p1 q1 ∧ ((ValidP ws p1 q1 ∧ vs' = ws ∧ p' = p1 ∧ q' = q1 ∧ e = 0) ∨ (¬ValidP ws p1 q1 ∧ vs' = [] ∧ p' = 0 ∧ q' = 0 ∧ e = 3))
def NormP (vs : List Int) (p q : Int) (vs' : List Int) (p' q' e : Int) : Prop :=
  (e = 0 ∧ ∃ p0 p1 : Nat, p = p0 ∧ p' = p1 ∧ VF vs p0 q ∧ NF (val vs p0 q) vs' p1 q') ∨ (¬ValidP vs p q ∧ vs' = [] ∧ p' = 0 ∧ q' = 0 ∧ e = 1)
end Go.Cv
end
section
namespace Go.Cv
def Mono (F : Nat → Int) : Prop := ∀ t, F t ≤ F (t + 1)
theorem Mono.le {F} (h : Mono F) : ∀ {s t : Nat}, s ≤ t → F s ≤ F t := by
  intro s t hst
  induction t with
  | zero => have : s = 0 := by omega
            subst this; exact Int.le_refl _
  | succ t ih =>
    by_cases e : s = t + 1
    · subst e; exact Int.le_refl _
    · exact Int.le_trans (ih (by omega)) (h t)
theorem VF.per {vs p q} (h : VF vs p q) : Per (val vs p q) (vs.length - p) p q := by
  by_cases hf : vs.getD (vs.length - 1) 0 = INF
  · obtain ⟨rfl, rfl⟩ := h.inf hf
    have hi := h.val_inf hf hf
    intro t ht
    rw [hi t (by omega), hi (t + 1) (by omega)]; rfl
  · exact val_per h.p1 h.pn (fun t _ ht => h.noinf hf t ht)
theorem VF.mono' {vs p q} (h : VF vs p q) : Mono (val vs p q) := by
  have hper := h.per
  have n1 := h.n1
  have p1 := h.p1
  have pn := h.pn
  intro t
  induction t using Nat.strongRecOn with
  | _ t ih =>
    by_cases h1 : t + 1 < vs.length
    · rw [val_lt (by omega), val_lt h1]; exact h.mono t (t + 1) (by omega) h1
    · by_cases h2 : t + 1 = vs.length
      · have e := hper (vs.length - p) (by omega)
        rw [show vs.length - p + p = t + 1 by omega] at e
        rw [e, val_lt (by omega), val_lt (by omega)]
        rw [show t = vs.length - 1 by omega]
        by_cases hf : vs.getD (vs.length - 1) 0 = INF
        · obtain ⟨rfl, rfl⟩ := h.inf hf
          omega
        · have := h.fin hf; omega
      · have e1 := hper (t - p) (by omega)
        have e2 := hper (t + 1 - p) (by omega)
        have := ih (t - p) (by omega)
        rw [show t - p + p = t by omega] at e1
        rw [show t + 1 - p + p = t + 1 by omega] at e2
        rw [show t - p + 1 = t + 1 - p by omega] at this
        omega
theorem VF.nonneg {vs p q} (h : VF vs p q) (t : Nat) : 0 ≤ val vs p q t := by
  have h0 := h.mono'.le (Nat.zero_le t)
  have : 0 ≤ val vs p q 0 := by
    rw [val_lt (by have := h.n1; omega)]
    have := h.v 0 (by have := h.n1; omega)
    simp only [INF] at this; omega
  omega
/- the function of a normal form -/
theorem NF.val {F vs p q} (h : NF F vs p q) (hi : q ≠ 0 → ∀ t < vs.length, F t ≠ INF) : ∀ t, val vs p q t = F t := by
  obtain ⟨s, p1, hper, hmin, hms, rfl⟩ := h
  intro t
  rw [vals_len] at hi
  by_cases hlt : t < s + p
  · rw [val_lt (by rw [vals_len]; exact hlt), vals_get hlt]
  · simp only [Cv.val]
    rw [if_neg (by rw [vals_len]; exact hlt), vals_len]
    have hd := Nat.div_add_mod (t - (s + p)) p
    have hm := Nat.mod_lt (t - (s + p)) p1
    have hk : ((t - (s + p)) / p + 1) * p = p * ((t - (s + p)) / p) + p := by rw [Nat.add_mul, Nat.one_mul, Nat.mul_comm]
    generalize (t - (s + p)) / p + 1 = k at *
    have hidx : t - k * p < s + p ∧ s ≤ t - k * p ∧ k * p ≤ t := by omega
    rw [vals_get hidx.1]
    have e := hper.mul k (t - k * p) hidx.2.1
    rw [show t - k * p + k * p = t by omega] at e
    rw [e]
    split
    · rename_i hINF
      by_cases hq : q = 0
      · subst hq; rw [hINF]; simp
      · exact absurd hINF (hi hq _ hidx.1)
    · rfl
theorem NF.vf {vs p q vs' p' q'} (h : VF vs p q) (hn : NF (Cv.val vs p q) vs' p' q') : VF vs' p' q' ∧ ∀ t, Cv.val vs' p' q' t = Cv.val vs p q t := by
  have hper := h.per
  have hmo := h.mono'
  have n1 := h.n1
  have p1 := h.p1
  have pn := h.pn
  have hn0 := hn
  obtain ⟨s, g1, g2, g3, g4, g5⟩ := hn
  have hpp : p' ≤ p := g3 _ p q p1 hper
  have hb := Per.back p1 hper g2
  have hs : s ≤ vs.length - p := g4 _ hb
  have hlen : vs'.length = s + p' := by rw [g5, vals_len]
  have hq0 : 0 ≤ q' := by have := g2 s (Nat.le_refl _); have := hmo.le (show s ≤ s + p' by omega); omega
  have hdvd := Per.dvd g1 hb g3 hper
  obtain ⟨k, hk⟩ := hdvd
  have hqk : q = k * q' := by
    have := hb.mul k
    rw [show k * p' = p by rw [hk, Nat.mul_comm]] at this
    exact hper.uniq this
  have hk1 : 1 ≤ k := by
    rcases Nat.eq_zero_or_pos k with h0 | h0
    · subst h0; omega
    · exact h0
  have hqq : q' ≤ q := by
    rw [hqk]
    have : 1 * q' ≤ (k : Int) * q' := Int.mul_le_mul_of_nonneg_right (by omega) hq0
    omega
  have hget : ∀ j, j < vs'.length → vs'.getD j 0 = vs.getD j 0 := by
    intro j hj
    rw [g5, vals_get (by omega), val_lt (by omega)]
  have hi : q' ≠ 0 → ∀ t < vs'.length, Cv.val vs p q t ≠ INF := by
    intro hq t ht
    rw [val_lt (by omega)]
    apply h.noinf _ t (by omega)
    intro hinf
    have := h.inf hinf
    apply hq
    have e := this.2
    rw [hqk] at e
    have h2 : 1 * q' ≤ (k : Int) * q' := Int.mul_le_mul_of_nonneg_right (by omega) hq0
    omega
  refine ⟨⟨by omega, by have := h.n2; omega, g1, by have := h.p2; omega, by omega, hq0, by have := h.q1; omega, ?_, ?_, ?_, ?_⟩, hn0.val hi⟩
  · intro j hj; rw [hget j hj]; exact h.v j (by omega)
  · intro j k hjk hk; rw [hget j (by omega), hget k hk]; exact h.mono j k hjk (by omega)
  · intro he
    rw [hget _ (by omega)] at he
    have hlast : vs.getD (vs.length - 1) 0 = INF := by
      have h4 := h.mono (vs'.length - 1) (vs.length - 1) (by omega) (by omega)
      have := h.v (vs.length - 1) (by omega)
      rw [he] at h4
      simp only [INF] at *
      omega
    obtain ⟨rfl, rfl⟩ := h.inf hlast
    exact ⟨by omega, by omega⟩
  · intro he
    have e := g2 s (Nat.le_refl _)
    have hle := hmo.le (show s + p' - 1 ≤ s + p' by omega)
    rw [hget _ (by omega), hget _ (by omega), hlen, show s + p' - p' = s by omega, ← val_lt (vs := vs) (p := p) (q := q) (t := s) (by omega), ← val_lt (vs := vs) (p := p) (q := q) (t := s + p' - 1) (by omega)]
    omega
/-! ### what the builders of curves return -/
def CheckP (v : List Int) (p q : Int) (x : List Int × Int × Int × Int) : Prop :=
  ((400 < v.length ∨ ∃ j < v.length, v.getD j 0 ≠ INF ∧ 1073741824 < v.getD j 0) ∧ x = ([], 0, 0, 3)) ∨
  (v.length ≤ 400 ∧ (∀ j < v.length, v.getD j 0 = INF ∨ v.getD j 0 ≤ 1073741824) ∧ x = (v, p, q, 0))
def BuildP (F : Nat → Int) (N : Nat) (x : List Int × Int × Int × Int) : Prop :=
  (∃ m, m < N ∧ F m = INF ∧ (∀ k < m, F k ≠ INF) ∧ CheckP (vals F (m + 1)) 1 0 x) ∨
  ((∀ k < N, F k ≠ INF) ∧ ∃ (vs : List Int) (p : Nat) (q : Int), NF F vs p q ∧ vs.length ≤ N ∧ (((120 < p ∨ 1073741824 < q) ∧ x = ([], 0, 0, 3)) ∨ (p ≤ 120 ∧ q ≤ 1073741824 ∧ CheckP vs p q x)))

/- the normal form of a function, if it is a curve -/
def MkP (F : Nat → Int) (x : List Int × Int × Int × Int) : Prop :=
  (∃ (vs : List Int) (p : Nat) (q : Int), NF F vs p q ∧ VF vs p q ∧ x = (vs, (p : Int), q, 0)) ∨ ((∀ (vs : List Int) (p : Nat) (q : Int), NF F vs p q → ¬VF vs p q) ∧ x = ([], 0, 0, 3))
theorem MkP.uniq {F x y} (h : MkP F x) (h' : MkP F y) : x = y := by
  rcases h with ⟨vs, p, q, h1, h2, rfl⟩ | ⟨h1, rfl⟩
  · rcases h' with ⟨vs', p', q', h1', h2', rfl⟩ | ⟨h1', rfl⟩
    · obtain ⟨rfl, rfl, rfl⟩ := h1.uniq h1'; rfl
    · exact absurd h2 (h1' _ _ _ h1)
  · rcases h' with ⟨vs', p', q', h1', h2', rfl⟩ | ⟨h1', rfl⟩
    · exact absurd h2' (h1 _ _ _ h1')
    · rfl
theorem VF.valid {vs : List Int} {p : Nat} {q : Int} (h : VF vs p q) : ValidP vs p q := by
  have n1 := h.n1; have n2 := h.n2; have p1 := h.p1; have p2 := h.p2; have pn := h.pn
  refine ⟨by omega, by omega, by omega, by omega, by omega, h.q0, h.q1, h.v, fun j hj => h.mono j (j + 1) (by omega) hj, fun e => ?_, fun e => ?_⟩
  · have := h.inf e; omega
  · rw [Int.toNat_natCast]; exact h.fin e
theorem checkP_mk {F : Nat → Int} {vs : List Int} {p : Nat} {q : Int} {x : List Int × Int × Int × Int} (h0 : 0 ≤ F 0) (hm : Mono F) (h : NF F vs p q) (hp : p ≤ 120) (hq : q ≤ 1073741824) (hle : ∀ j < vs.length, F j ≤ INF)
    (hi : vs.getD (vs.length - 1) 0 = INF → p = 1 ∧ q = 0) (hc : CheckP vs p q x) : MkP F x := by
  have h' := h
  obtain ⟨s, p1, hper, hmin, hms, rfl⟩ := h
  rw [vals_len] at hi hle
  rcases hc with ⟨hbad, rfl⟩ | ⟨hl, hv, rfl⟩
  · refine .inr ⟨fun vs' p' q' hnf hvf => ?_, rfl⟩
    obtain ⟨rfl, rfl, rfl⟩ := h'.uniq hnf
    rcases hbad with hbad | ⟨j, hj, h1, h2⟩
    · have := hvf.n2; omega
    · have := hvf.v j hj; simp only [INF] at *; omega
  · refine .inl ⟨_, _, _, h', ⟨by rw [vals_len]; omega, hl, p1, hp, by rw [vals_len]; omega, ?_, hq, ?_, ?_, by rw [vals_len]; exact hi, ?_⟩, rfl⟩
    · have := hper s (Nat.le_refl _); have := hm.le (show s ≤ s + p by omega); omega
    · intro j hj
      have h1 := hv j hj
      rw [vals_len] at hj
      rw [vals_get hj] at h1 ⊢
      have := hm.le (Nat.zero_le j)
      rcases h1 with h1 | h1
      · exact .inl h1
      · exact .inr ⟨by omega, h1⟩
    · intro j k hjk hk
      rw [vals_len] at hk
      rw [vals_get (by omega), vals_get hk]; exact hm.le hjk
    · intro _
      rw [vals_len, show s + p - p = s by omega, vals_get (by omega), vals_get (by omega)]
      have := hper s (Nat.le_refl _); have := hm.le (show s + p - 1 ≤ s + p by omega); omega
theorem buildP_mk {F : Nat → Int} {N : Nat} {x : List Int × Int × Int × Int} (h0 : 0 ≤ F 0) (hm : Mono F) (hle : ∀ t < N, F t ≤ INF) (hinf : ∀ m < N, F m = INF → ∀ t, m ≤ t → F t = INF) (h : BuildP F N x) : MkP F x := by
  rcases h with ⟨m, h1, h2, h3, hc⟩ | ⟨h1, vs, p, q, hnf, hl, hc⟩
  · have hnf : NF F (vals F (m + 1)) 1 0 := NF.inf (hinf m h1 h2) h3
    refine checkP_mk (p := 1) h0 hm hnf (by omega) (by omega) (fun j hj => ?_) (fun _ => ⟨rfl, rfl⟩) hc
    rw [vals_len] at hj; exact hle j (by omega)
  · rcases hc with ⟨hbad, rfl⟩ | ⟨hp, hq, hc⟩
    · refine .inr ⟨fun vs' p' q' hnf' hvf => ?_, rfl⟩
      obtain ⟨rfl, rfl, rfl⟩ := hnf.uniq hnf'
      have := hvf.p2; have := hvf.q1; omega
    · refine checkP_mk h0 hm hnf (by omega) hq (fun j hj => hle j (by omega)) (fun e => ?_) hc
      exfalso
      obtain ⟨s, p1, _, _, _, rfl⟩ := hnf
      rw [vals_len] at e hl
      rw [vals_get (by omega)] at e
      exact h1 _ (by omega) e
/- the function of a list that repeats with a gain -/
theorem val_of_per {F : Nat → Int} {vs : List Int} {P : Nat} {Q : Int} (hP : 1 ≤ P) (hn : P ≤ vs.length) (hv : ∀ t < vs.length, F t = vs.getD t 0) (hf : ∀ k < vs.length, vs.getD k 0 ≠ INF) (hper : Per F (vs.length - P) P Q) : ∀ t, val vs P Q t = F t := by
  have hp2 := val_per (q := Q) hP hn (fun t _ ht => hf t ht)
  intro t
  induction t using Nat.strongRecOn with
  | _ t ih =>
    by_cases h1 : t < vs.length
    · rw [val_lt h1, hv t h1]
    · have e1 := hp2 (t - P) (by omega)
      have e2 := hper (t - P) (by omega)
      rw [show t - P + P = t by omega] at e1 e2
      rw [e1, e2, ih (t - P) (by omega)]
theorem madeP_mk {F : Nat → Int} {vs : List Int} {P : Nat} {Q : Int} {x : List Int × Int × Int × Int} (hP : 1 ≤ P) (hn : P ≤ vs.length) (hv : ∀ t < vs.length, F t = vs.getD t 0)
    (hinf : ∀ m < vs.length, F m = INF → ∀ t, m ≤ t → F t = INF) (hper : (∀ t < vs.length, F t ≠ INF) → Per F (vs.length - P) P Q) (h : MadeP vs P Q x.1 x.2.1 x.2.2.1 x.2.2.2) : MkP F x := by
  obtain ⟨ws, p1, q1, hL, hx⟩ := h
  have hnf : NF F ws p1 q1 := by
    rcases hL with ⟨m, h1, h2, h3, rfl, rfl, rfl⟩ | ⟨h1, h2⟩
    · have e : vs.take (m + 1) = vals F (m + 1) := by
        apply List.ext_getElem
        · rw [vals_len, List.length_take]; omega
        · intro i h5 h6
          rw [vals_len] at h6
          simp only [vals, List.getElem_map, List.getElem_range, List.getElem_take]
          rw [hv i (by omega), List.getD_eq_getElem?_getD, List.getElem?_eq_getElem (by omega)]
          rfl
      rw [e]
      exact NF.inf (hinf m h1 (by rw [hv m h1]; exact h2)) (fun t ht => by rw [hv t (by omega)]; exact h3 t ht)
    · have : val vs P Q = F := funext (val_of_per hP hn hv h1 (hper (fun t ht => by rw [hv t ht]; exact h1 t ht)))
      rw [← this]; exact h2
  obtain ⟨x1, x2, x3, x4⟩ := x
  rcases hx with ⟨hv, rfl, rfl, rfl, rfl⟩ | ⟨hv, rfl, rfl, rfl, rfl⟩
  · obtain ⟨p', e, hvf⟩ := hv.vf
    have : p1 = p' := by omega
    subst this
    exact .inl ⟨_, _, _, hnf, hvf, rfl⟩
  · refine .inr ⟨fun vs' p' q' hnf' hvf => ?_, rfl⟩
    obtain ⟨rfl, rfl, rfl⟩ := hnf.uniq hnf'
    exact hv hvf.valid
theorem mkP_lim {F : Nat → Int} (h : ∀ (vs : List Int) (p : Nat) (q : Int), NF F vs p q → ¬VF vs p q) : MkP F ([], 0, 0, 3) := .inr ⟨h, rfl⟩
theorem VF.sound {vs p q F} (h : VF vs p q) (hn : NF F vs p q) : ∀ t, val vs p q t = F t := by
  refine hn.val (fun hq t ht e => ?_)
  obtain ⟨s, _, _, _, _, rfl⟩ := hn
  rw [vals_len] at ht
  rw [← vals_get (F := F) ht] at e
  by_cases hf : (vals F (s + p)).getD ((vals F (s + p)).length - 1) 0 = INF
  · exact hq (h.inf hf).2
  · exact h.noinf hf t (by rw [vals_len]; exact ht) e
end Go.Cv
end
section
namespace Go.Cv
/-! plain laws of what is left of a curve -/
abbrev C3 := List Int × Nat × Int
def cv (a : C3) (t : Nat) : Int := val a.1 a.2.1 a.2.2 t
abbrev VC (a : C3) : Prop := VF a.1 a.2.1 a.2.2
def infAt (vs : List Int) (t : Nat) : Prop := vs.getD (min t (vs.length - 1)) 0 = INF
instance (vs : List Int) (t : Nat) : Decidable (infAt vs t) := inferInstanceAs (Decidable (_ = _))
def FinC (a : C3) : Prop := a.1.getD (a.1.length - 1) 0 ≠ INF
instance (a : C3) : Decidable (FinC a) := inferInstanceAs (Decidable (¬ _ = _))
theorem VF.val_le {vs p q} (h : VF vs p q) (hf : vs.getD (vs.length - 1) 0 ≠ INF) (t : Nat) : val vs p q t ≤ 1073741824 + (t + 1 : Nat) * q := by
  have n1 := h.n1
  have p1 := h.p1
  have pn := h.pn
  have q0 := h.q0
  have hv : ∀ j, j < vs.length → vs.getD j 0 ≤ 1073741824 := by
    intro j hj
    have h1 := h.v j hj
    have h2 := h.noinf hf j hj
    simp only [INF] at *; omega
  by_cases hlt : t < vs.length
  · rw [val_lt hlt]
    have h1 := hv t hlt
    have : (0 : Int) ≤ (t + 1 : Nat) * q := Int.mul_nonneg (by omega) q0
    omega
  · simp only [val]
    rw [if_neg hlt]
    have hd := Nat.div_le_self (t - vs.length) p
    have h1 := Nat.div_add_mod (t - vs.length) p
    have h2 := Nat.mod_lt (t - vs.length) p1
    have h3 : ((t - vs.length) / p + 1) * p = p * ((t - vs.length) / p) + p := by rw [Nat.add_mul, Nat.one_mul, Nat.mul_comm]
    have hidx : t - ((t - vs.length) / p + 1) * p < vs.length := by omega
    rw [if_neg (h.noinf hf _ hidx)]
    have h4 := hv _ hidx
    have h5 : (((t - vs.length) / p + 1 : Nat) : Int) * q ≤ (t + 1 : Nat) * q := Int.mul_le_mul_of_nonneg_right (by omega) q0
    omega
theorem VF.inf_iff {vs p q} (h : VF vs p q) {t : Nat} (ht : t ≤ 1048576) : val vs p q t = INF ↔ infAt vs t := by
  have n1 := h.n1
  unfold infAt
  by_cases hlt : t < vs.length
  · rw [val_lt hlt, Nat.min_eq_left (by omega)]
  · rw [Nat.min_eq_right (by omega)]
    constructor
    · intro he
      apply Classical.byContradiction
      intro hf
      have h1 := h.val_le hf t
      have h2 : ((t + 1 : Nat) : Int) * q ≤ 1048577 * 1073741824 := Int.mul_le_mul (by omega) h.q1 h.q0 (by omega)
      rw [he] at h1
      simp only [INF] at h1
      omega
    · intro he
      exact h.val_inf he he t (by omega)
theorem VF.infAt_mono {vs p q} (h : VF vs p q) {s t : Nat} (hst : s ≤ t) (hs : infAt vs s) : infAt vs t := by
  have n1 := h.n1
  unfold infAt at *
  have h1 := h.mono (min s (vs.length - 1)) (min t (vs.length - 1)) (by omega) (by omega)
  have h2 := h.v (min t (vs.length - 1)) (by omega)
  rw [hs] at h1
  simp only [INF] at *
  omega
theorem FinC.not {a : C3} (h : VC a) (hf : FinC a) (t : Nat) : ¬infAt a.1 t := by
  have n1 := h.n1
  exact h.noinf hf _ (by omega)
theorem inf_late {a : C3} (hf : ¬FinC a) {t : Nat} (ht : a.1.length - 1 ≤ t) : infAt a.1 t := by
  unfold FinC at hf
  unfold infAt
  rw [Nat.min_eq_right ht]
  exact Classical.not_not.1 hf
theorem inf_p {a : C3} (h : VC a) (hf : ¬FinC a) : a.2.1 = 1 ∧ a.2.2 = 0 := h.inf (Classical.not_not.1 hf)

/- the difference -/
def dif (a b : C3) (t : Nat) : Int := if infAt b.1 t then 0 else if infAt a.1 t then INF else cv a t - cv b t
def frm (a b : C3) : Nat := max (a.1.length - a.2.1) (b.1.length - b.2.1)
def com (a b : C3) : Nat := Nat.lcm a.2.1 b.2.1
def drf (a b : C3) : Int := a.2.2 * ((com a b / a.2.1 : Nat) : Int) - b.2.2 * ((com a b / b.2.1 : Nat) : Int)
theorem com_pos {a b : C3} (ha : VC a) (hb : VC b) : 1 ≤ com a b := Nat.lcm_pos ha.p1 hb.p1
theorem cv_com_l {a b : C3} (ha : VC a) {t : Nat} (ht : frm a b ≤ t) : cv a (t + com a b) = cv a t + a.2.2 * ((com a b / a.2.1 : Nat) : Int) := by
  obtain ⟨k, hk⟩ := Nat.dvd_lcm_left a.2.1 b.2.1
  have h1 := ha.per.mul k t (by unfold frm at ht; omega)
  have e : com a b = k * a.2.1 := by unfold com; rw [hk, Nat.mul_comm]
  have e2 : com a b / a.2.1 = k := by rw [e]; exact Nat.mul_div_cancel k ha.p1
  unfold cv
  rw [e2, e, h1, Int.mul_comm]
theorem cv_com_r {a b : C3} (hb : VC b) {t : Nat} (ht : frm a b ≤ t) : cv b (t + com a b) = cv b t + b.2.2 * ((com a b / b.2.1 : Nat) : Int) := by
  obtain ⟨k, hk⟩ := Nat.dvd_lcm_right a.2.1 b.2.1
  have h1 := hb.per.mul k t (by unfold frm at ht; omega)
  have e : com a b = k * b.2.1 := by unfold com; rw [hk, Nat.mul_comm]
  have e2 : com a b / b.2.1 = k := by rw [e]; exact Nat.mul_div_cancel k hb.p1
  unfold cv
  rw [e2, e, h1, Int.mul_comm]
theorem dif_fin {a b : C3} (ha : VC a) (hb : VC b) (fa : FinC a) (fb : FinC b) (t : Nat) : dif a b t = cv a t - cv b t := by
  unfold dif; rw [if_neg (fb.not hb t), if_neg (fa.not ha t)]
theorem dif_per {a b : C3} (ha : VC a) (hb : VC b) (fa : FinC a) (fb : FinC b) : Per (dif a b) (frm a b) (com a b) (drf a b) := by
  intro t ht
  rw [dif_fin ha hb fa fb, dif_fin ha hb fa fb, cv_com_l ha ht, cv_com_r hb ht]
  unfold drf; omega
/- where one is not finite the difference is constant at last -/
theorem dif_late {a b : C3} (ha : VC a) (hb : VC b) (h : ¬(FinC a ∧ FinC b)) {t : Nat} (ht : frm a b ≤ t) : dif a b t = if FinC b then INF else 0 := by
  unfold frm at ht
  unfold dif
  by_cases fb : FinC b
  · have fa : ¬FinC a := fun fa => h ⟨fa, fb⟩
    have := (inf_p ha fa).1
    rw [if_neg (fb.not hb t), if_pos (inf_late fa (by omega)), if_pos fb]
  · have := (inf_p hb fb).1
    rw [if_pos (inf_late fb (by omega)), if_neg fb]
theorem frm_le {a b : C3} (ha : VC a) (hb : VC b) : frm a b ≤ 399 := by
  have := ha.n2; have := ha.p1; have := hb.n2; have := hb.p1
  unfold frm; omega
theorem cv_nonneg {a : C3} (ha : VC a) (t : Nat) : 0 ≤ cv a t := ha.nonneg t
theorem dif_le_cv {a b : C3} (ha : VC a) (hb : VC b) (t : Nat) (hi : ¬infAt a.1 t) : dif a b t ≤ cv a t := by
  have := cv_nonneg ha t
  have := cv_nonneg hb t
  unfold dif
  by_cases h : infAt b.1 t
  · rw [if_pos h]; omega
  · rw [if_neg h, if_neg hi]; omega

/-! ### the greatest so far -/
def rmx (d : Nat → Int) : Nat → Int
  | 0 => max 0 (d 0)
  | t + 1 => max (rmx d t) (d (t + 1))
theorem rmx_nonneg (d : Nat → Int) : ∀ t, 0 ≤ rmx d t
  | 0 => by simp only [rmx]; omega
  | t + 1 => by have := rmx_nonneg d t; simp only [rmx]; omega
theorem rmx_mono (d : Nat → Int) : Mono (rmx d) := fun t => by simp only [rmx]; omega
theorem rmx_ge (d : Nat → Int) : ∀ {s t : Nat}, s ≤ t → d s ≤ rmx d t := by
  intro s t hst
  have h1 : d s ≤ rmx d s := by cases s <;> simp only [rmx] <;> omega
  have := (rmx_mono d).le hst
  omega
theorem rmx_le {d : Nat → Int} {m : Int} (h0 : 0 ≤ m) : ∀ {t : Nat}, (∀ s ≤ t, d s ≤ m) → rmx d t ≤ m
  | 0, h => by have := h 0 (by omega); simp only [rmx]; omega
  | t + 1, h => by have h1 := rmx_le h0 (t := t) (fun s hs => h s (by omega)); have := h (t + 1) (by omega); simp only [rmx]; omega
theorem rmx_at (d : Nat → Int) : ∀ t, rmx d t = 0 ∨ ∃ s ≤ t, rmx d t = d s
  | 0 => by
    rcases Int.le_total 0 (d 0) with h | h
    · right; exact ⟨0, by omega, by simp only [rmx]; omega⟩
    · left; simp only [rmx]; omega
  | t + 1 => by
    simp only [rmx]
    rcases Int.le_total (d (t + 1)) (rmx d t) with h | h
    · rw [Int.max_eq_left h]
      rcases rmx_at d t with h1 | ⟨s, h1, h2⟩
      · exact .inl h1
      · exact .inr ⟨s, by omega, h2⟩
    · rw [Int.max_eq_right h]; exact .inr ⟨t + 1, by omega, rfl⟩
/- one point decides -/
theorem rmx_one {d : Nat → Int} {s p u : Nat} {q : Int} (hd : Per d s p q) (hu : s ≤ u) (h : rmx d (u + p) = rmx d u + q) : Per (rmx d) u p q := by
  intro t ht
  induction t with
  | zero => have : u = 0 := by omega
            subst this; exact h
  | succ t ih =>
    by_cases e : u = t + 1
    · rw [← e]; exact h
    · have h1 := ih (by omega)
      have h2 := hd (t + 1) (by omega)
      rw [show t + 1 + p = t + p + 1 by omega] at h2 ⊢
      simp only [rmx]
      rw [h1, h2]; omega
theorem rmx_const {d : Nat → Int} {s : Nat} (h : ∀ t, s ≤ t → d t ≤ rmx d s) : Per (rmx d) s 1 0 := by
  have key : ∀ t, s ≤ t → rmx d t = rmx d s := by
    intro t ht
    induction t with
    | zero => have : s = 0 := by omega
              subst this; rfl
    | succ t ih =>
      by_cases e : s = t + 1
      · rw [e]
      · have h1 := ih (by omega)
        have h2 := h (t + 1) (by omega)
        simp only [rmx]; omega
  intro t ht
  rw [key t ht, key (t + 1) (by omega)]; omega
/- what does not grow reaches its greatest within a period -/
theorem rmx_still {d : Nat → Int} {s p : Nat} {q : Int} (hp : 1 ≤ p) (hd : Per d s p q) (hq : q ≤ 0) : Per (rmx d) (s + p - 1) 1 0 := by
  apply rmx_const
  intro t ht
  have hm := hd.mul ((t - s) / p) (s + (t - s) % p) (by omega)
  have h1 := Nat.div_add_mod (t - s) p
  have h2 := Nat.mod_lt (t - s) hp
  rw [show s + (t - s) % p + (t - s) / p * p = t by rw [Nat.mul_comm]; omega] at hm
  have h3 : (((t - s) / p : Nat) : Int) * q ≤ 0 := Int.mul_nonpos_of_nonneg_of_nonpos (Int.natCast_nonneg _) hq
  have h4 := rmx_ge d (s := s + (t - s) % p) (t := s + p - 1) (by omega)
  omega
/- what grows overtakes -/
theorem rmx_grow {d : Nat → Int} {s p : Nat} {q : Int} (hp : 1 ≤ p) (hd : Per d s p q) (hq : 0 < q) : ∃ u, Per (rmx d) u p q := by
  -- the window that ends at u has the greatest value so far
  have ex : ∃ k : Nat, rmx d (s + p) ≤ d (s + k * p) := by
    refine ⟨(rmx d (s + p) - d s).toNat, ?_⟩
    have h1 := hd.mul (rmx d (s + p) - d s).toNat s (by omega)
    rw [h1]
    have h2 : ((rmx d (s + p) - d s).toNat : Int) * 1 ≤ ((rmx d (s + p) - d s).toNat : Int) * q := Int.mul_le_mul_of_nonneg_left (by omega) (by omega)
    omega
  obtain ⟨k, hk⟩ := ex
  refine ⟨s + p + k * p, rmx_one hd (by omega) ?_⟩
  have hle : rmx d (s + p + k * p + p) ≤ rmx d (s + p + k * p) + q := by
    have h0 := rmx_nonneg d (s + p + k * p)
    apply rmx_le (by omega)
    intro t ht
    by_cases h1 : s + p ≤ t
    · have := hd (t - p) (by omega)
      rw [show t - p + p = t by omega] at this
      have := rmx_ge d (s := t - p) (t := s + p + k * p) (by omega)
      omega
    · have h2 := rmx_ge d (s := t) (t := s + p) (by omega)
      have h3 := rmx_ge d (s := s + k * p) (t := s + p + k * p) (by omega)
      omega
  have hge : rmx d (s + p + k * p) + q ≤ rmx d (s + p + k * p + p) := by
    rcases rmx_at d (s + p + k * p) with h1 | ⟨t, h1, h2⟩
    · have h3 := rmx_ge d (s := s + k * p) (t := s + p + k * p) (by omega)
      have h4 := rmx_nonneg d (s + p)
      have h5 := hd (s + k * p) (by omega)
      have h6 := rmx_ge d (s := s + k * p + p) (t := s + p + k * p + p) (by omega)
      omega
    · by_cases h3 : s ≤ t
      · have h4 := hd t h3
        have h5 := rmx_ge d (s := t + p) (t := s + p + k * p + p) (by omega)
        omega
      · have h3 := rmx_ge d (s := t) (t := s + p) (by omega)
        have h5 := hd (s + k * p) (by omega)
        have h6 := rmx_ge d (s := s + k * p + p) (t := s + p + k * p + p) (by omega)
        omega
  omega

/-! ### the least from here on -/
/- of n + 1 ticks from t on -/
def wmn (d : Nat → Int) : Nat → Nat → Int
  | 0, t => d t
  | n + 1, t => min (d t) (wmn d n (t + 1))
theorem wmn_le {d : Nat → Int} : ∀ {n t s : Nat}, t ≤ s → s ≤ t + n → wmn d n t ≤ d s
  | 0, t, s, h1, h2 => by have : s = t := by omega
                          subst this; simp only [wmn]; omega
  | n + 1, t, s, h1, h2 => by
    simp only [wmn]
    by_cases e : s = t
    · subst e; omega
    · have := wmn_le (d := d) (n := n) (t := t + 1) (s := s) (by omega) (by omega); omega
theorem wmn_at (d : Nat → Int) : ∀ (n t : Nat), ∃ s, t ≤ s ∧ s ≤ t + n ∧ wmn d n t = d s
  | 0, t => ⟨t, by omega, by omega, rfl⟩
  | n + 1, t => by
    obtain ⟨s, h1, h2, h3⟩ := wmn_at d n (t + 1)
    simp only [wmn]
    rcases Int.le_total (d t) (wmn d n (t + 1)) with h | h
    · exact ⟨t, by omega, by omega, by omega⟩
    · exact ⟨s, by omega, by omega, by omega⟩
/- two windows with the same least -/
theorem wmn_eq {d : Nat → Int} {n m t u : Nat} (h1 : ∀ s, t ≤ s → s ≤ t + n → ∃ r, u ≤ r ∧ r ≤ u + m ∧ d r ≤ d s) (h2 : ∀ r, u ≤ r → r ≤ u + m → ∃ s, t ≤ s ∧ s ≤ t + n ∧ d s ≤ d r) : wmn d n t = wmn d m u := by
  obtain ⟨s, a1, a2, a3⟩ := wmn_at d n t
  obtain ⟨r, b1, b2, b3⟩ := wmn_at d m u
  obtain ⟨r', c1, c2, c3⟩ := h1 s a1 a2
  obtain ⟨s', e1, e2, e3⟩ := h2 r b1 b2
  have := wmn_le (d := d) (n := m) c1 c2
  have := wmn_le (d := d) (n := n) e1 e2
  omega
/- every later tick has a tick of the window below it -/
theorem per_down {d : Nat → Int} {s p : Nat} {q : Int} (hp : 1 ≤ p) (hd : Per d s p q) (hq : 0 ≤ q) {t u : Nat} (ht : t ≤ u) : ∃ r, t ≤ r ∧ r < max t s + p ∧ d r ≤ d u := by
  by_cases hu : u < max t s + p
  · exact ⟨u, ht, hu, Int.le_refl _⟩
  · have hm := hd.mul ((u - max t s) / p) (max t s + (u - max t s) % p) (by omega)
    have h1 := Nat.div_add_mod (u - max t s) p
    have h2 := Nat.mod_lt (u - max t s) hp
    rw [show max t s + (u - max t s) % p + (u - max t s) / p * p = u by rw [Nat.mul_comm]; omega] at hm
    have h3 : 0 ≤ (((u - max t s) / p : Nat) : Int) * q := Int.mul_nonneg (Int.natCast_nonneg _) hq
    exact ⟨max t s + (u - max t s) % p, by omega, by omega, by omega⟩

/-! ### bounds -/
theorem cv_small {a : C3} (ha : VC a) {t : Nat} (ht : t ≤ 1048576) (hi : ¬infAt a.1 t) : cv a t ≤ 2000000000000000 := by
  have n1 := ha.n1
  by_cases hf : FinC a
  · have h1 := ha.val_le hf t
    have h2 : ((t + 1 : Nat) : Int) * a.2.2 ≤ 1048577 * 1073741824 := Int.mul_le_mul (by omega) ha.q1 ha.q0 (by omega)
    unfold cv; omega
  · have hlt : t < a.1.length - 1 := by
      rcases Nat.lt_or_ge t (a.1.length - 1) with h | h
      · exact h
      · exact absurd (inf_late hf h) hi
    unfold cv
    rw [val_lt (by omega)]
    have h1 := ha.v t (by omega)
    unfold infAt at hi
    rw [Nat.min_eq_left (by omega)] at hi
    simp only [INF] at *
    omega
theorem dif_le {a b : C3} (ha : VC a) (hb : VC b) {t : Nat} (ht : t ≤ 1048576) : dif a b t ≤ INF := by
  by_cases h : infAt a.1 t
  · unfold dif
    by_cases h' : infAt b.1 t
    · rw [if_pos h']; simp [INF]
    · rw [if_neg h', if_pos h]; exact Int.le_refl _
  · have h1 := dif_le_cv ha hb t h
    have h2 := cv_small ha ht h
    simp only [INF] at *; omega
theorem dif_ge {a b : C3} (ha : VC a) (hb : VC b) {t : Nat} (ht : t ≤ 1048576) : -2000000000000000 ≤ dif a b t := by
  unfold dif
  by_cases h' : infAt b.1 t
  · rw [if_pos h']; omega
  · rw [if_neg h']
    have h2 := cv_small hb ht h'
    have h3 := cv_nonneg ha t
    by_cases h : infAt a.1 t
    · rw [if_pos h]; simp only [INF]; omega
    · rw [if_neg h]; omega
theorem dif_le_all {a b : C3} (ha : VC a) (hb : VC b) (hf : ¬FinC a) (t : Nat) : dif a b t ≤ INF := by
  by_cases h : infAt a.1 t
  · unfold dif
    by_cases h' : infAt b.1 t
    · rw [if_pos h']; simp [INF]
    · rw [if_neg h', if_pos h]; exact Int.le_refl _
  · have hlt : t < a.1.length - 1 := by
      rcases Nat.lt_or_ge t (a.1.length - 1) with h1 | h1
      · exact h1
      · exact absurd (inf_late hf h1) h
    exact dif_le ha hb (by have := ha.n2; omega)
/- where the difference is infinite -/
theorem dif_inf {a b : C3} (ha : VC a) (hb : VC b) {t : Nat} (ht : t ≤ 1048576) : dif a b t = INF ↔ infAt a.1 t ∧ ¬infAt b.1 t := by
  constructor
  · intro h
    by_cases h1 : infAt a.1 t
    · refine ⟨h1, fun h2 => ?_⟩
      unfold dif at h
      rw [if_pos h2] at h
      simp [INF] at h
    · have h2 := dif_le_cv ha hb t h1
      have h3 := cv_small ha ht h1
      rw [h] at h2
      simp only [INF] at *
      omega
  · rintro ⟨h1, h2⟩
    unfold dif; rw [if_neg h2, if_pos h1]

/-! ### the program's two maxima -/
def mst (d : Nat → Int) (f : Nat) : Nat → Int
  | 0 => 0
  | t + 1 => if f ≤ t then mst d f t else max (mst d f t) (d t)
def tls (d : Nat → Int) (f : Nat) : Nat → Int
  | 0 => -INF
  | t + 1 => if f ≤ t then max (tls d f t) (d t) else tls d f t
theorem mst_nonneg (d f) : ∀ t, 0 ≤ mst d f t
  | 0 => Int.le_refl _
  | t + 1 => by have := mst_nonneg d f t; simp only [mst]; split <;> omega
theorem rmx_two {d : Nat → Int} {f : Nat} {N : Nat} (hd : ∀ t < N, -INF ≤ d t) : ∀ t, t < N → rmx d t = max (mst d f (t + 1)) (tls d f (t + 1))
  | 0, h => by
    have := hd 0 h
    simp only [rmx, mst, tls, INF] at *
    split <;> omega
  | t + 1, h => by
    have h1 := rmx_two (f := f) hd t (by omega)
    simp only [rmx]
    rw [h1]
    conv => rhs; rw [mst, tls]
    split <;> omega
theorem tls_ge {d : Nat → Int} {f : Nat} : ∀ {t u : Nat}, f ≤ u → u < t → d u ≤ tls d f t
  | 0, u, _, h => by omega
  | t + 1, u, h1, h2 => by
    simp only [tls]
    by_cases e : u = t
    · subst e; rw [if_pos h1]; omega
    · have := tls_ge (d := d) (f := f) (t := t) h1 (by omega)
      split <;> omega
theorem tls_at {d : Nat → Int} {f : Nat} : ∀ {t : Nat}, (∀ u < t, -INF ≤ d u) → f < t → ∃ u, f ≤ u ∧ u < t ∧ tls d f t = d u
  | 0, _, h => by omega
  | t + 1, hd, h => by
    simp only [tls]
    rw [if_pos (by omega)]
    by_cases e : f = t
    · have h1 : tls d f t = -INF := by
        have key : ∀ k, k ≤ f → tls d f k = -INF := by
          intro k
          induction k with
          | zero => intro _; rfl
          | succ k ih => intro hk; simp only [tls]; rw [if_neg (by omega)]; exact ih (by omega)
        exact key t (by omega)
      have := hd t (by omega)
      exact ⟨t, by omega, by omega, by omega⟩
    · obtain ⟨u, h1, h2, h3⟩ := tls_at (d := d) (f := f) (t := t) (fun u hu => hd u (by omega)) (by omega)
      rcases Int.le_total (tls d f t) (d t) with h4 | h4
      · exact ⟨t, by omega, by omega, by omega⟩
      · exact ⟨u, h1, by omega, by omega⟩
theorem mst_le_rmx {d : Nat → Int} {f : Nat} : ∀ {t u : Nat}, f ≤ u + 1 → mst d f t ≤ rmx d u
  | 0, u, _ => rmx_nonneg d u
  | t + 1, u, h => by
    have h1 := mst_le_rmx (d := d) (t := t) h
    simp only [mst]
    split
    · exact h1
    · have := rmx_ge d (s := t) (t := u) (by omega); omega
/- if the tail has not overtaken by then, there is no normal form within the limits -/
theorem rest_err {d : Nat → Int} {f l s : Nat} {dr : Int} (hl : 1 ≤ l) (hf : f ≤ 399) (hd : Per d f l dr) (hdr : 0 < dr) (hs : s = max 400 (f + l)) (hlow : ∀ t < s + 1, -INF ≤ d t)
    (hlt : tls d f (s + 1) < mst d f (s + 1)) : ∀ (vs : List Int) (p : Nat) (q : Int), NF (rmx d) vs p q → ¬VF vs p q := by
  intro vs p q hnf hvf
  obtain ⟨s0, p1, hper, hmin, hms, rfl⟩ := hnf
  have hn := hvf.n2
  rw [vals_len] at hn
  have hM : rmx d s = mst d f (s + 1) := by
    rw [rmx_two (f := f) (N := s + 1) hlow s (by omega)]; omega
  obtain ⟨u, hu⟩ := rmx_grow hl hd hdr
  have hu' := Per.back hl hu hper
  -- the long period from s0 on
  have hlp : Per (rmx d) s0 l dr := by
    have hdvd := Per.dvd p1 (s := max s0 u) (hper.mono (by omega)) hmin (hu.mono (by omega))
    obtain ⟨k, hk⟩ := hdvd
    have h1 := hper.mul k
    rw [show k * p = l by rw [hk, Nat.mul_comm]] at h1
    have h2 := h1.uniq hu
    rw [← h2]; exact h1
  have ht := hlp (max s0 f) (by omega)
  have h1 := mst_le_rmx (d := d) (f := f) (t := s + 1) (u := max s0 f) (by omega)
  have h2 := (rmx_mono d).le (show max s0 f ≤ s by omega)
  have h3 : rmx d (max s0 f) = rmx d s := by omega
  by_cases h4 : max s0 f + l ≤ s
  · have := (rmx_mono d).le h4; omega
  · rcases rmx_at d (max s0 f + l) with h5 | ⟨v, h5, h6⟩
    · have := rmx_nonneg d s; omega
    · have h7 : s < v := by
        rcases Nat.lt_or_ge s v with h | h
        · exact h
        · have := rmx_ge d h; omega
      have h8 := hd (v - l) (by omega)
      rw [show v - l + l = v by omega] at h8
      have h9 := tls_ge (d := d) (f := f) (t := s + 1) (u := v - l) (by omega) (by omega)
      omega
theorem rest_per {d : Nat → Int} {f l s : Nat} {dr : Int} (hl : 1 ≤ l) (hd : Per d f l dr) (hdr : 0 < dr) (hs : f + l ≤ s) (hlow : ∀ t < s + 1, -INF ≤ d t)
    (hge : ¬tls d f (s + 1) < mst d f (s + 1)) : Per (rmx d) s l dr := by
  have hM : rmx d s = tls d f (s + 1) := by
    rw [rmx_two (f := f) (N := s + 1) hlow s (by omega)]; omega
  obtain ⟨u, h1, h2, h3⟩ := tls_at (d := d) (f := f) (t := s + 1) hlow (by omega)
  refine rmx_one hd (by omega) ?_
  have hle : rmx d (s + l) ≤ rmx d s + dr := by
    apply rmx_le (by have := rmx_nonneg d s; omega)
    intro t ht
    by_cases h4 : f + l ≤ t
    · have h5 := hd (t - l) (by omega)
      rw [show t - l + l = t by omega] at h5
      have := rmx_ge d (s := t - l) (t := s) (by omega)
      omega
    · have := rmx_ge d (s := t) (t := s) (by omega); omega
  have hge : rmx d s + dr ≤ rmx d (s + l) := by
    have h5 := hd u h1
    have := rmx_ge d (s := u + l) (t := s + l) (by omega)
    omega
  omega
theorem rest_still {a b : C3} (ha : VC a) (hb : VC b) (h : ¬(FinC a ∧ FinC b ∧ 0 < drf a b)) : Per (rmx (dif a b)) (frm a b + com a b) 1 0 := by
  have hl := com_pos ha hb
  by_cases hf : FinC a ∧ FinC b
  · exact (rmx_still hl (dif_per ha hb hf.1 hf.2) (by
      have : ¬0 < drf a b := fun h' => h ⟨hf.1, hf.2, h'⟩
      omega)).mono (by omega)
  · refine (rmx_const (s := frm a b) (fun t ht => ?_)).mono (by omega)
    have e1 := dif_late ha hb hf ht
    have e2 := dif_late ha hb hf (Nat.le_refl (frm a b))
    have := rmx_ge (dif a b) (Nat.le_refl (frm a b))
    omega
theorem rmx_dif_le {a b : C3} (ha : VC a) (hb : VC b) {t : Nat} (ht : t ≤ 1048576) : 0 ≤ rmx (dif a b) t ∧ rmx (dif a b) t ≤ INF :=
  ⟨rmx_nonneg _ _, rmx_le (by simp [INF]) (fun s hs => dif_le ha hb (by omega))⟩
theorem rmx_dif_inf {a b : C3} (ha : VC a) (hb : VC b) {m : Nat} (hm : m ≤ 1048576) (h : rmx (dif a b) m = INF) : ∀ t, m ≤ t → rmx (dif a b) t = INF := by
  intro t ht
  rcases rmx_at (dif a b) m with h1 | ⟨s, h1, h2⟩
  · rw [h] at h1; simp [INF] at h1
  · have h3 := (dif_inf ha hb (by omega)).1 (h2.symm.trans h)
    have hf : ¬FinC a := fun hf => hf.not ha s h3.1
    have h4 := (rmx_mono (dif a b)).le ht
    have h5 : rmx (dif a b) t ≤ INF := rmx_le (by simp [INF]) (fun s _ => dif_le_all ha hb hf s)
    omega

/-! ### the reference's check -/
theorem nf_per {F : Nat → Int} {vs : List Int} {p : Nat} {q : Int} {u l : Nat} {inc : Int} (hl : 1 ≤ l) (hnf : NF F vs p q) (hvf : VF vs p q) (hev : Per F u l inc) : ∃ s0, s0 + p ≤ 400 ∧ Per F s0 p q ∧ Per F s0 l inc ∧ 1 ≤ p ∧ ∃ k : Nat, l = k * p ∧ inc = k * q := by
  obtain ⟨s0, p1, hper, hmin, hms, rfl⟩ := hnf
  have hn := hvf.n2
  rw [vals_len] at hn
  have hdvd := Per.dvd p1 (s := max s0 u) (hper.mono (by omega)) hmin (hev.mono (by omega))
  obtain ⟨k, hk⟩ := hdvd
  have h1 := hper.mul k
  rw [show k * p = l by rw [hk, Nat.mul_comm]] at h1
  have h2 := h1.uniq hev
  exact ⟨s0, hn, hper, by rw [← h2]; exact h1, p1, k, by rw [hk, Nat.mul_comm], h2.symm⟩
theorem ref_err {F : Nat → Int} {u l : Nat} {inc : Int} (hl : 1 ≤ l) (hev : Per F u l inc) (hne : F (400 + l) ≠ F 400 + inc) : ∀ (vs : List Int) (p : Nat) (q : Int), NF F vs p q → ¬VF vs p q := by
  intro vs p q hnf hvf
  obtain ⟨s0, h1, _, h3, _⟩ := nf_per hl hnf hvf hev
  exact hne (h3 400 (by omega))
/- some late period -/
theorem rest_ev {a b : C3} (ha : VC a) (hb : VC b) : ∃ u, Per (rmx (dif a b)) u (com a b) (if FinC a ∧ FinC b then max 0 (drf a b) else 0) := by
  have hl := com_pos ha hb
  by_cases h : FinC a ∧ FinC b ∧ 0 < drf a b
  · obtain ⟨u, hu⟩ := rmx_grow hl (dif_per ha hb h.1 h.2.1) h.2.2
    refine ⟨u, ?_⟩
    rw [if_pos ⟨h.1, h.2.1⟩, Int.max_eq_right (by omega)]; exact hu
  · have h1 := (rest_still ha hb h).mul (com a b)
    rw [Nat.mul_one, Int.mul_zero] at h1
    refine ⟨frm a b + com a b, ?_⟩
    by_cases hf : FinC a ∧ FinC b
    · rw [if_pos hf, Int.max_eq_left (by
        have : ¬0 < drf a b := fun h' => h ⟨hf.1, hf.2, h'⟩
        omega)]; exact h1
    · rw [if_neg hf]; exact h1
theorem rest_ref {a b : C3} (ha : VC a) (hb : VC b) (he : rmx (dif a b) (400 + com a b) = rmx (dif a b) 400 + (if FinC a ∧ FinC b then max 0 (drf a b) else 0)) :
    Per (rmx (dif a b)) 400 (com a b) (if FinC a ∧ FinC b then max 0 (drf a b) else 0) := by
  have hl := com_pos ha hb
  have hf := frm_le ha hb
  by_cases h : FinC a ∧ FinC b ∧ 0 < drf a b
  · rw [if_pos ⟨h.1, h.2.1⟩, Int.max_eq_right (by omega)] at *
    exact rmx_one (dif_per ha hb h.1 h.2.1) (by omega) he
  · have h0 : (if FinC a ∧ FinC b then max 0 (drf a b) else 0) = 0 := by
      by_cases hf : FinC a ∧ FinC b
      · rw [if_pos hf, Int.max_eq_left (by
          have : ¬0 < drf a b := fun h' => h ⟨hf.1, hf.2, h'⟩
          omega)]
      · rw [if_neg hf]
    rw [h0] at he ⊢
    have h1 := (rest_still ha hb h).mul (com a b)
    rw [Nat.mul_one, Int.mul_zero] at h1
    intro t ht
    by_cases h2 : frm a b + com a b ≤ t
    · exact h1 t h2
    · have m1 := (rmx_mono (dif a b)).le (show 400 ≤ t by omega)
      have m2 := (rmx_mono (dif a b)).le (show t ≤ 400 + com a b by omega)
      have m3 := (rmx_mono (dif a b)).le (show t ≤ t + com a b by omega)
      have m4 := (rest_still ha hb h).mul (t + com a b - (frm a b + com a b)) (frm a b + com a b) (by omega)
      have m5 := (rmx_mono (dif a b)).le (show frm a b + com a b ≤ 400 + com a b by omega)
      rw [Nat.mul_one, Int.mul_zero, show frm a b + com a b + (t + com a b - (frm a b + com a b)) = t + com a b by omega] at m4
      omega
theorem rest_inf_late {a b : C3} (ha : VC a) (hb : VC b) (h : rmx (dif a b) (400 + com a b) = INF) (hc : com a b ≤ 120) : rmx (dif a b) 399 = INF := by
  rcases rmx_at (dif a b) (400 + com a b) with h1 | ⟨s, h1, h2⟩
  · rw [h] at h1; simp [INF] at h1
  · have h3 := (dif_inf ha hb (by omega)).1 (h2.symm.trans h)
    have hfa : ¬FinC a := fun hf => hf.not ha s h3.1
    have hle := (rmx_dif_le ha hb (t := 399) (by omega)).2
    have key : ∃ u, u ≤ 399 ∧ dif a b u = INF := by
      by_cases h4 : s ≤ 399
      · exact ⟨s, h4, by rw [← h2]; exact h⟩
      · refine ⟨399, by omega, (dif_inf ha hb (by omega)).2 ⟨inf_late hfa (by have := ha.n2; omega), fun h5 => h3.2 (hb.infAt_mono (by omega) h5)⟩⟩
    obtain ⟨u, h4, h5⟩ := key
    have := rmx_ge (dif a b) h4
    omega

/-! ### the least difference -/
def amn (a b : C3) (t : Nat) : Int := max 0 (wmn (dif a b) (frm a b + com a b) t)
theorem down {a b : C3} (ha : VC a) (hb : VC b) (fb : FinC b) (hd : FinC a → 0 ≤ drf a b) {t u : Nat} (ht : t ≤ u) : ∃ r, t ≤ r ∧ r < max t (frm a b) + com a b ∧ dif a b r ≤ dif a b u := by
  by_cases fa : FinC a
  · exact per_down (com_pos ha hb) (dif_per ha hb fa fb) (hd fa) ht
  · have hl := com_pos ha hb
    by_cases hu : u < max t (frm a b) + com a b
    · exact ⟨u, ht, hu, Int.le_refl _⟩
    · refine ⟨t, Nat.le_refl _, by omega, ?_⟩
      rw [dif_late ha hb (fun h => fa h.1) (show frm a b ≤ u by omega), if_pos fb]
      exact dif_le_all ha hb fa t
theorem wmn_any {a b : C3} (ha : VC a) (hb : VC b) (fb : FinC b) (hd : FinC a → 0 ≤ drf a b) {t n : Nat} (hn : max t (frm a b) + com a b ≤ t + n + 1) : wmn (dif a b) n t = wmn (dif a b) (frm a b + com a b) t := by
  apply wmn_eq
  · intro s h1 h2
    obtain ⟨r, h3, h4, h5⟩ := down ha hb fb hd h1
    exact ⟨r, h3, by omega, h5⟩
  · intro s h1 h2
    obtain ⟨r, h3, h4, h5⟩ := down ha hb fb hd h1
    exact ⟨r, h3, by omega, h5⟩
theorem wmn_ge {d : Nat → Int} {n t : Nat} {m : Int} (h : ∀ u, t ≤ u → u ≤ t + n → m ≤ d u) : m ≤ wmn d n t := by
  obtain ⟨s, h1, h2, h3⟩ := wmn_at d n t
  rw [h3]; exact h s h1 h2
theorem amn_mono {a b : C3} (ha : VC a) (hb : VC b) (fb : FinC b) (hd : FinC a → 0 ≤ drf a b) : Mono (amn a b) := by
  intro t
  unfold amn
  have : wmn (dif a b) (frm a b + com a b) t ≤ wmn (dif a b) (frm a b + com a b) (t + 1) := by
    apply wmn_ge
    intro u h1 h2
    obtain ⟨r, h3, h4, h5⟩ := down ha hb fb hd (show t ≤ u by omega)
    have := wmn_le (d := dif a b) (n := frm a b + com a b) h3 (by omega)
    omega
  omega
theorem wmn_shift {d : Nat → Int} {l : Nat} {q : Int} : ∀ {n t : Nat}, (∀ u, t ≤ u → u ≤ t + n → d (u + l) = d u + q) → wmn d n (t + l) = wmn d n t + q
  | 0, t, h => h t (Nat.le_refl _) (by omega)
  | n + 1, t, h => by
    simp only [wmn]
    have h1 := h t (Nat.le_refl _) (by omega)
    have h2 := wmn_shift (d := d) (l := l) (q := q) (n := n) (t := t + 1) (fun u h3 h4 => h u (by omega) (by omega))
    rw [show t + 1 + l = t + l + 1 by omega] at h2
    rw [h1, h2]; omega
theorem amn_per {a b : C3} (ha : VC a) (hb : VC b) (fa : FinC a) (fb : FinC b) {s : Nat} (hs : frm a b ≤ s) (h0 : ∀ u, s ≤ u → 0 ≤ dif a b u) : Per (amn a b) s (com a b) (drf a b) := by
  intro t ht
  have h1 := wmn_shift (d := dif a b) (l := com a b) (q := drf a b) (n := frm a b + com a b) (t := t) (fun u h3 _ => dif_per ha hb fa fb u (by omega))
  have h2 : 0 ≤ wmn (dif a b) (frm a b + com a b) t := wmn_ge (fun u h3 _ => h0 u (by omega))
  have h3 : 0 ≤ wmn (dif a b) (frm a b + com a b) (t + com a b) := wmn_ge (fun u h3 _ => h0 u (by omega))
  unfold amn; omega
theorem amn_still {a b : C3} (ha : VC a) (hb : VC b) (fb : FinC b) (h : FinC a → drf a b = 0) : Per (amn a b) (frm a b) 1 0 := by
  intro t ht
  have hl := com_pos ha hb
  have : wmn (dif a b) (frm a b + com a b) t = wmn (dif a b) (frm a b + com a b) (t + 1) := by
    by_cases fa : FinC a
    · have hp := dif_per ha hb fa fb
      rw [h fa] at hp
      apply wmn_eq
      · intro s h1 h2
        by_cases e : s = t
        · subst e
          exact ⟨s + com a b, by omega, by omega, by rw [hp s ht]; omega⟩
        · exact ⟨s, by omega, by omega, Int.le_refl _⟩
      · intro s h1 h2
        by_cases e : s ≤ t + (frm a b + com a b)
        · exact ⟨s, by omega, e, Int.le_refl _⟩
        · have := hp (s - com a b) (by omega)
          rw [show s - com a b + com a b = s by omega] at this
          exact ⟨s - com a b, by omega, by omega, by omega⟩
    · apply wmn_eq
      · intro s h1 h2
        refine ⟨t + 1, by omega, by omega, ?_⟩
        rw [dif_late ha hb (fun h => fa h.1) (show frm a b ≤ t + 1 by omega), dif_late ha hb (fun h => fa h.1) (show frm a b ≤ s by omega)]; exact Int.le_refl _
      · intro s h1 h2
        refine ⟨t, by omega, by omega, ?_⟩
        rw [dif_late ha hb (fun h => fa h.1) (show frm a b ≤ t by omega), dif_late ha hb (fun h => fa h.1) (show frm a b ≤ s by omega)]; exact Int.le_refl _
  unfold amn; rw [this]; omega
/- what grows is not negative at last -/
theorem dif_up {a b : C3} (ha : VC a) (hb : VC b) (fa : FinC a) (fb : FinC b) (hd : 0 < drf a b) : ∃ s, frm a b ≤ s ∧ ∀ u, s ≤ u → 0 ≤ dif a b u := by
  have hl := com_pos ha hb
  have hp := dif_per ha hb fa fb
  refine ⟨frm a b + (-(wmn (dif a b) (com a b) (frm a b))).toNat * com a b, by omega, fun u hu => ?_⟩
  have h1 := Nat.div_add_mod (u - frm a b) (com a b)
  have h2 := Nat.mod_lt (u - frm a b) hl
  have h3 := hp.mul ((u - frm a b) / com a b) (frm a b + (u - frm a b) % com a b) (by omega)
  rw [show frm a b + (u - frm a b) % com a b + (u - frm a b) / com a b * com a b = u by rw [Nat.mul_comm]; omega] at h3
  have h4 := wmn_le (d := dif a b) (n := com a b) (t := frm a b) (s := frm a b + (u - frm a b) % com a b) (by omega) (by omega)
  have h5 : (-(wmn (dif a b) (com a b) (frm a b))).toNat ≤ (u - frm a b) / com a b := by
    rw [Nat.le_div_iff_mul_le hl]; omega
  have h6 : ((u - frm a b) / com a b : Nat) * (1 : Int) ≤ ((u - frm a b) / com a b : Nat) * drf a b := Int.mul_le_mul_of_nonneg_left (by omega) (Int.natCast_nonneg _)
  omega
theorem above_err {a b : C3} (ha : VC a) (hb : VC b) (fa : FinC a) (fb : FinC b) (hd : 0 < drf a b) (h : ∃ u, 400 ≤ u ∧ dif a b u < 0) : ∀ (vs : List Int) (p : Nat) (q : Int), NF (amn a b) vs p q → ¬VF vs p q := by
  intro vs p q hnf hvf
  have hl := com_pos ha hb
  obtain ⟨s, hs, h0⟩ := dif_up ha hb fa fb hd
  obtain ⟨s0, h1, h2, h3, h4, k, h5, h6⟩ := nf_per hl hnf hvf (amn_per ha hb fa fb hs h0)
  obtain ⟨u, hu1, hu2⟩ := h
  have zero : ∀ t, t ≤ 400 → amn a b t = 0 := by
    intro t ht
    obtain ⟨r, h7, h8, h9⟩ := down ha hb fb (fun _ => by omega) (show t ≤ u by omega)
    have := wmn_le (d := dif a b) (n := frm a b + com a b) h7 (by omega)
    unfold amn; omega
  have h7 := h2 (400 - p) (by omega)
  rw [show 400 - p + p = 400 by omega, zero 400 (by omega), zero (400 - p) (by omega)] at h7
  have : q = 0 := by omega
  subst this
  omega
theorem amn_bd {a b : C3} (ha : VC a) (hb : VC b) {t : Nat} (ht : t ≤ 1048576) : 0 ≤ amn a b t ∧ amn a b t ≤ INF := by
  have h1 := dif_le ha hb ht
  have h2 := wmn_le (d := dif a b) (n := frm a b + com a b) (Nat.le_refl t) (by omega)
  unfold amn
  simp only [INF] at *
  omega
theorem amn_inf {a b : C3} (ha : VC a) (hb : VC b) (fb : FinC b) {m : Nat} (hm : m ≤ 1048576) (h : amn a b m = INF) : ∀ t, m ≤ t → amn a b t = INF := by
  intro t ht
  have h1 := wmn_le (d := dif a b) (n := frm a b + com a b) (Nat.le_refl m) (by omega)
  have h2 := dif_le ha hb hm
  have h3 : dif a b m = INF := by unfold amn at h; simp only [INF] at *; omega
  have h4 := ((dif_inf ha hb hm).1 h3).1
  have hall : ∀ u, m ≤ u → dif a b u = INF := by
    intro u hu
    unfold dif
    rw [if_neg (fb.not hb u), if_pos (ha.infAt_mono hu h4)]
  have h5 : wmn (dif a b) (frm a b + com a b) t = INF := by
    obtain ⟨s, g1, g2, g3⟩ := wmn_at (dif a b) (frm a b + com a b) t
    rw [g3]; exact hall s (by omega)
  unfold amn; rw [h5]; simp only [INF]; omega
end Go.Cv
end
section
namespace Go.Cv
/-! plain laws of comparing and adding curves -/
def abv (f g : C3) (t : Nat) : Int := if infAt g.1 t then 0 else if infAt f.1 t then 1 else cv f t - cv g t
def grw (f g : C3) : Int := f.2.2 * ((com f g / f.2.1 : Nat) : Int) - g.2.2 * ((com f g / g.2.1 : Nat) : Int)
def win (f g : C3) : Nat := max f.1.length g.1.length
def AtMostP (f g : C3) : Prop := (∀ t < win f g + com f g, abv f g t ≤ 0) ∧ ¬(FinC f ∧ FinC g ∧ 0 < grw f g)
theorem grw_drf (f g : C3) : grw f g = drf f g := rfl
theorem atMost_of {f g : C3} (hf : VC f) (hg : VC g) (hc : com f g ≤ 1000000) (h : ∀ t, cv f t ≤ cv g t) : AtMostP f g := by
  refine ⟨fun t ht => ?_, fun ⟨ff, fg, hd⟩ => ?_⟩
  · have h1 := hf.n2
    have h2 := hg.n2
    have ht2 : t ≤ 1048576 := by unfold win at ht; omega
    unfold abv
    by_cases hi : infAt g.1 t
    · rw [if_pos hi]; exact Int.le_refl _
    · rw [if_neg hi]
      have h3 := cv_small hg ht2 hi
      have h4 := h t
      by_cases hj : infAt f.1 t
      · exfalso
        have h5 : cv f t = INF := (hf.inf_iff ht2).2 hj
        rw [h5] at h4
        simp only [INF] at h4; omega
      · rw [if_neg hj]; omega
  · obtain ⟨s, hs, h0⟩ := dif_up hf hg ff fg hd
    have hp := dif_per hf hg ff fg s hs
    have h1 := h0 s (Nat.le_refl _)
    have h2 := h (s + com f g)
    rw [dif_fin hf hg ff fg, dif_fin hf hg ff fg] at hp
    rw [dif_fin hf hg ff fg] at h1
    rw [grw_drf] at hd
    omega
theorem atMost_le {f g : C3} (hf : VC f) (hg : VC g) (h : AtMostP f g) {t : Nat} (hi : ¬infAt g.1 t) : ¬infAt f.1 t ∧ cv f t ≤ cv g t := by
  obtain ⟨h1, h2⟩ := h
  have hl := com_pos hf hg
  have n1 := hf.n1
  have n2 := hg.n1
  have key : ∀ t, ¬infAt g.1 t → abv f g t ≤ 0 := by
    intro t
    induction t using Nat.strongRecOn with
    | _ t ih =>
      intro hi
      by_cases hlt : t < win f g + com f g
      · exact h1 t hlt
      · have hw : win f g ≤ t - com f g := by omega
        have hi2 : ¬infAt g.1 (t - com f g) := fun h => hi (hg.infAt_mono (by omega) h)
        have h3 := ih (t - com f g) (by omega) hi2
        unfold abv at h3 ⊢
        rw [if_neg hi2] at h3
        rw [if_neg hi]
        have fg : FinC g := by
          apply Classical.byContradiction
          intro hn
          exact hi (inf_late hn (by unfold win at hw; omega))
        by_cases hj : infAt f.1 (t - com f g)
        · rw [if_pos hj] at h3; omega
        · rw [if_neg hj] at h3
          have ff : FinC f := by
            apply Classical.byContradiction
            intro hn
            exact hj (inf_late hn (by unfold win at hw; omega))
          have hd : ¬0 < grw f g := fun h => h2 ⟨ff, fg, h⟩
          rw [grw_drf] at hd
          rw [if_neg (ff.not hf t)]
          have hfr : frm f g ≤ t - com f g := by unfold frm; unfold win at hw; omega
          have hp := dif_per hf hg ff fg (t - com f g) hfr
          rw [show t - com f g + com f g = t by omega, dif_fin hf hg ff fg, dif_fin hf hg ff fg] at hp
          omega
  have h3 := key t hi
  unfold abv at h3
  rw [if_neg hi] at h3
  by_cases hj : infAt f.1 t
  · rw [if_pos hj] at h3; omega
  · rw [if_neg hj] at h3; exact ⟨hj, by omega⟩

/-! ### sums -/
def pls (a b : C3) (t : Nat) : Int := if infAt a.1 t ∨ infAt b.1 t then INF else cv a t + cv b t
theorem pls_nonneg {a b : C3} (ha : VC a) (hb : VC b) (t : Nat) : 0 ≤ pls a b t := by
  have := cv_nonneg ha t
  have := cv_nonneg hb t
  unfold pls; split
  · simp [INF]
  · omega
theorem pls_le {a b : C3} (ha : VC a) (hb : VC b) {t : Nat} (ht : t ≤ 1048576) : pls a b t ≤ INF := by
  unfold pls; split
  · exact Int.le_refl _
  · rename_i h
    have h1 := cv_small ha ht (fun h' => h (.inl h'))
    have h2 := cv_small hb ht (fun h' => h (.inr h'))
    simp only [INF]; omega
theorem pls_inf {a b : C3} (ha : VC a) (hb : VC b) {t : Nat} (ht : t ≤ 1048576) : pls a b t = INF ↔ infAt a.1 t ∨ infAt b.1 t := by
  constructor
  · intro h
    apply Classical.byContradiction
    intro hn
    have h1 := cv_small ha ht (fun h' => hn (.inl h'))
    have h2 := cv_small hb ht (fun h' => hn (.inr h'))
    unfold pls at h
    rw [if_neg hn] at h
    simp only [INF] at h; omega
  · intro h; unfold pls; rw [if_pos h]
theorem pls_inf_late {a b : C3} (ha : VC a) (hb : VC b) {m : Nat} (hm : m ≤ 1048576) (h : pls a b m = INF) : ∀ t, m ≤ t → pls a b t = INF := by
  intro t ht
  have h1 := (pls_inf ha hb hm).1 h
  unfold pls
  rw [if_pos]
  rcases h1 with h1 | h1
  · exact .inl (ha.infAt_mono ht h1)
  · exact .inr (hb.infAt_mono ht h1)
def sgn (a b : C3) : Int := a.2.2 * ((com a b / a.2.1 : Nat) : Int) + b.2.2 * ((com a b / b.2.1 : Nat) : Int)
theorem pls_per {a b : C3} (ha : VC a) (hb : VC b) (h : FinC a ∧ FinC b) : Per (pls a b) (frm a b) (com a b) (sgn a b) := by
  intro t ht
  unfold pls
  rw [if_neg (fun h' => h'.elim (h.1.not ha _) (h.2.not hb _)), if_neg (fun h' => h'.elim (h.1.not ha _) (h.2.not hb _)), cv_com_l ha ht, cv_com_r hb ht]
  unfold sgn; omega
theorem pls_late {a b : C3} (h : ¬(FinC a ∧ FinC b)) {t : Nat} (ht : win a b ≤ t) : pls a b t = INF := by
  unfold pls
  rw [if_pos]
  unfold win at ht
  by_cases fa : FinC a
  · exact .inr (inf_late (fun fb => h ⟨fa, fb⟩) (by omega))
  · exact .inl (inf_late fa (by omega))
theorem VF.cvle {a : C3} (ha : VC a) {s t : Nat} (h : s ≤ t) : cv a s ≤ cv a t := ha.mono'.le h
/- what the reading of a result tells -/
theorem mk_read {F : Nat → Int} {x : List Int × Int × Int × Int} (h : MkP F x) (he : x.2.2.2 = 0) : ∃ c : C3, VC c ∧ NF F c.1 c.2.1 c.2.2 ∧ x = (c.1, (c.2.1 : Int), c.2.2, 0) ∧ ∀ t, cv c t = F t := by
  rcases h with ⟨vs, p, q, h1, h2, rfl⟩ | ⟨_, rfl⟩
  · exact ⟨(vs, p, q), h2, h1, rfl, h2.sound h1⟩
  · simp at he
theorem mk_err {F : Nat → Int} {x : List Int × Int × Int × Int} (h : MkP F x) (he : x.2.2.2 ≠ 0) : x = ([], 0, 0, 3) := by
  rcases h with ⟨vs, p, q, h1, h2, rfl⟩ | ⟨_, rfl⟩
  · exact absurd rfl he
  · rfl
/- a curve that is in normal form is what is made of its function -/
theorem mk_self {F : Nat → Int} {c : C3} (hc : VC c) (hn : NF F c.1 c.2.1 c.2.2) : MkP F (c.1, (c.2.1 : Int), c.2.2, 0) := .inl ⟨_, _, _, hn, hc, rfl⟩
/- there is a normal form -/
theorem nf_exists {F : Nat → Int} {s n : Nat} {Q : Int} (hn : 1 ≤ n) (h : Per F s n Q) : ∃ (vs : List Int) (p : Nat) (q : Int), NF F vs p q ∧ vs.length ≤ s + n ∧ p ≤ n ∧ p ∣ n ∧ ∃ k : Nat, 1 ≤ k ∧ Q = k * q := by
  obtain ⟨p, q, p1, hp, hm⟩ := exists_min hn h
  have hd := hp.dvd p1 hm h
  obtain ⟨k, hk⟩ := hd
  -- the least start
  have key : ∀ m, m ≤ s → Per F m p q → ∃ s0, s0 ≤ m ∧ Per F s0 p q ∧ MinS F s0 p q := by
    intro m
    induction m with
    | zero => intro _ hp; exact ⟨0, by omega, hp, fun s' _ => by omega⟩
    | succ m ih =>
      intro hm hp
      by_cases h0 : Per F m p q
      · obtain ⟨s0, h1, h2, h3⟩ := ih (by omega) h0
        exact ⟨s0, by omega, h2, h3⟩
      · refine ⟨m + 1, by omega, hp, fun s' hs' => ?_⟩
        rcases Nat.lt_or_ge s' (m + 1) with h1 | h1
        · exact absurd (hs'.mono (show s' ≤ m by omega)) h0
        · exact h1
  obtain ⟨s0, h1, h2, h3⟩ := key s (Nat.le_refl _) hp
  have hk1 : 1 ≤ k := by
    rcases Nat.eq_zero_or_pos k with h0 | h0
    · subst h0; omega
    · exact h0
  refine ⟨vals F (s0 + p), p, q, ⟨s0, p1, h2, hm, h3, rfl⟩, ?_, ?_, ⟨k, hk⟩, k, hk1, ?_⟩
  · rw [vals_len]; have : p * 1 ≤ p * k := Nat.mul_le_mul_left _ hk1; omega
  · have : p * 1 ≤ p * k := Nat.mul_le_mul_left _ hk1; omega
  · have h4 := hp.mul k
    rw [show k * p = n by rw [hk, Nat.mul_comm]] at h4
    exact h.uniq h4
/- a monotone function with small values and a period is a curve -/
theorem vf_exists {F : Nat → Int} {s n : Nat} {Q : Int} (hn : 1 ≤ n) (h : Per F s n Q) (h0 : 0 ≤ F 0) (hm : Mono F) (hlen : s + n ≤ 400) (hn2 : n ≤ 120) (hQ : Q ≤ 1073741824) (hb : ∀ t < s + n, F t ≤ 1073741824) :
    ∃ c : C3, NF F c.1 c.2.1 c.2.2 ∧ VC c ∧ c.1.length ≤ s + n ∧ c.2.1 ≤ n ∧ c.2.1 ∣ n := by
  obtain ⟨vs, p, q, hnf, h1, h2, hd, k, hk, h3⟩ := nf_exists hn h
  have hnf' := hnf
  obtain ⟨s0, p1, hper, _, _, rfl⟩ := hnf
  rw [vals_len] at h1
  have hq0 : 0 ≤ q := by have := hper s0 (Nat.le_refl _); have := hm.le (show s0 ≤ s0 + p by omega); omega
  have hq : q ≤ Q := by
    rw [h3]
    have : 1 * q ≤ (k : Int) * q := Int.mul_le_mul_of_nonneg_right (by omega) hq0
    omega
  have hfin : (vals F (s0 + p)).getD ((vals F (s0 + p)).length - 1) 0 ≠ INF := by
    rw [vals_len, vals_get (by omega)]
    have := hb (s0 + p - 1) (by omega)
    simp only [INF]; omega
  have hvf : VF (vals F (s0 + p)) p q := by
    refine ⟨by rw [vals_len]; omega, by rw [vals_len]; omega, p1, by omega, by rw [vals_len]; omega, hq0, by omega, ?_, ?_, fun e => absurd e hfin, ?_⟩
    · intro j hj
      rw [vals_len] at hj
      rw [vals_get hj]
      have := hm.le (Nat.zero_le j)
      exact .inr ⟨by omega, hb j (by omega)⟩
    · intro j k hjk hk
      rw [vals_len] at hk
      rw [vals_get (by omega), vals_get hk]; exact hm.le hjk
    · intro _
      rw [vals_len, vals_get (show s0 + p - p < s0 + p by omega), vals_get (show s0 + p - 1 < s0 + p by omega)]
      have := hper s0 (Nat.le_refl _); have := hm.le (show s0 + p - 1 ≤ s0 + p by omega)
      rw [show s0 + p - p = s0 by omega]
      omega
  exact ⟨(vals F (s0 + p), p, q), hnf', hvf, by rw [vals_len]; omega, h2, hd⟩
end Go.Cv
end
section
namespace Go.Cv
/-! the example of the chapter -/
def exF : C3 := ([0], 1, 10)
def exG : C3 := ([0, 14, 14, 28], 2, 14)
def exH : C3 := ([0, 14], 2, 14)
theorem mono_dec {vs : List Int} (h : ∀ j < vs.length, j + 1 < vs.length → vs.getD j 0 ≤ vs.getD (j + 1) 0) : ∀ j k, j ≤ k → k < vs.length → vs.getD j 0 ≤ vs.getD k 0 := mono_of (fun j hj => h j (by omega) hj)
theorem vf_of_dec {vs : List Int} {p : Nat} {q : Int} (h : ValidP vs p q) : VF vs p q := by
  obtain ⟨p', e, hv⟩ := h.vf
  have : p = p' := by omega
  subst this; exact hv
theorem exF_v : VC exF := ⟨by decide, by decide, by decide, by decide, by decide, by decide, by decide, by decide, fun j k h1 h2 => by
  have : k = 0 := by simp [exF] at h2; omega
  subst this
  have : j = 0 := by omega
  subst this; exact Int.le_refl _, fun h => by revert h; decide, fun _ => by decide⟩
theorem exG_v : VC exG := ⟨by decide, by decide, by decide, by decide, by decide, by decide, by decide, by decide, mono_dec (by decide), fun h => by revert h; decide, fun _ => by decide⟩
theorem exH_v : VC exH := ⟨by decide, by decide, by decide, by decide, by decide, by decide, by decide, by decide, mono_dec (by decide), fun h => by revert h; decide, fun _ => by decide⟩
theorem exF_nf : NF (cv exF) exF.1 exF.2.1 exF.2.2 :=
  ⟨0, by decide, exF_v.per, fun s' p' q' h _ => h, fun s' _ => Nat.zero_le _, by decide⟩
theorem exG_per : Per (cv exG) 0 2 14 := by
  have h : Per (cv exG) 2 2 14 := exG_v.per
  have h1 : Per (cv exG) 1 2 14 := h.pred (by decide)
  exact h1.pred (by decide)
theorem exG_nf : NF (cv exG) exH.1 exH.2.1 exH.2.2 := by
  refine ⟨0, by decide, exG_per, ?_, fun s' _ => Nat.zero_le _, by decide⟩
  refine Fits.min (by decide) exG_per (fun p' h1 h2 => ?_)
  have : p' = 1 := by simp only [exH] at h2; omega
  subst this
  rintro ⟨_, _, h3⟩
  have := h3 0 (by decide) (by decide)
  revert this; decide
theorem ex_prep {a b : C3} (ha : NF (cv exF) a.1 a.2.1 a.2.2) (hb : NF (cv exG) b.1 b.2.1 b.2.2) : a = exF ∧ b = exH := by
  obtain ⟨h1, h2, h3⟩ := ha.uniq exF_nf
  obtain ⟨h4, h5, h6⟩ := hb.uniq exG_nf
  exact ⟨Prod.ext h1 (Prod.ext h2 h3), Prod.ext h4 (Prod.ext h5 h6)⟩
theorem ex_com : com exF exH = 2 := by decide
theorem ex_frm : frm exF exH = 0 := by decide
theorem ex_drf : drf exF exH = 6 := by decide
theorem exF_f : FinC exF := by decide
theorem exH_f : FinC exH := by decide
theorem ex_rest {x : List Int × Int × Int × Int} (h : MkP (rmx (dif exF exH)) x) : ∃ c : C3, VC c ∧ x = (c.1, (c.2.1 : Int), c.2.2, 0) ∧ ∀ t, cv c t = rmx (dif exF exH) t := by
  have hd := dif_per exF_v exH_v exF_f exH_f
  rw [ex_frm, ex_com, ex_drf] at hd
  have hper : Per (rmx (dif exF exH)) 4 2 6 := rest_per (by decide) hd (by decide) (by decide) (by decide +kernel) (by decide +kernel)
  obtain ⟨c, h1, h2, _⟩ := vf_exists (by decide) hper (rmx_nonneg _ _) (rmx_mono _) (by decide) (by decide) (by decide) (by decide +kernel)
  rcases h with ⟨vs, p, q, h3, h4, rfl⟩ | ⟨h3, _⟩
  · exact ⟨(vs, p, q), h4, rfl, h4.sound h3⟩
  · exact absurd h2 (h3 _ _ _ h1)
theorem ex_above {x : List Int × Int × Int × Int} (h : MkP (amn exF exH) x) : ∃ c : C3, VC c ∧ x = (c.1, (c.2.1 : Int), c.2.2, 0) ∧ ∀ t, cv c t = amn exF exH t := by
  have hd := dif_per exF_v exH_v exF_f exH_f
  have h0 : ∀ u, 2 ≤ u → 0 ≤ dif exF exH u := by
    intro u hu
    rw [ex_frm, ex_com, ex_drf] at hd
    obtain ⟨r, h1, h2, h3⟩ := per_down (by decide) hd (by decide) hu
    have h4 : ∀ r, 2 ≤ r → r < 4 → 0 ≤ dif exF exH r := fun r h5 h6 => by
      have : r = 2 ∨ r = 3 := by omega
      rcases this with rfl | rfl <;> decide +kernel
    have := h4 r h1 (by omega)
    omega
  have hper := amn_per exF_v exH_v exF_f exH_f (s := 2) (by decide) h0
  rw [ex_com, ex_drf] at hper
  obtain ⟨c, h1, h2, _⟩ := vf_exists (by decide) hper (by decide +kernel) (amn_mono exF_v exH_v exH_f (fun _ => by decide)) (by decide) (by decide) (by decide) (by decide +kernel)
  rcases h with ⟨vs, p, q, h3, h4, rfl⟩ | ⟨h3, _⟩
  · exact ⟨(vs, p, q), h4, rfl, h4.sound h3⟩
  · exact absurd h2 (h3 _ _ _ h1)
end Go.Cv
end
section
namespace Go.Cv
/-! plain laws behind the statements of the remainder -/
def exZ : C3 := ([0], 1, 0)
theorem exZ_v : VC exZ := ⟨by decide, by decide, by decide, by decide, by decide, by decide, by decide, by decide, mono_dec (by decide), fun h => by revert h; decide, fun _ => by decide⟩
theorem cv_exZ (t : Nat) : cv exZ t = 0 := by
  unfold cv val exZ
  by_cases h : t < 1
  · have : t = 0 := by omega
    subst this; rfl
  · rw [if_neg (by simpa using h)]
    have : t - ((t - [(0 : Int)].length) / 1 + 1) * 1 = 0 := by simp; omega
    rw [this]
    simp [INF]
theorem exZ_nf : NF (fun _ => 0) exZ.1 exZ.2.1 exZ.2.2 := ⟨0, by decide, fun t _ => rfl, fun s' p' q' h _ => h, fun s' _ => Nat.zero_le _, rfl⟩
theorem mk_zero {x : List Int × Int × Int × Int} (h : MkP (fun _ => 0) x) : x = ([0], 1, 0, 0) := h.uniq (mk_self exZ_v exZ_nf)
theorem exZ_nf' : NF (cv exZ) exZ.1 exZ.2.1 exZ.2.2 := by
  have : cv exZ = fun _ => 0 := funext cv_exZ
  rw [this]; exact exZ_nf
/- a curve in normal form, of the function of another -/
def NrmOf (f a : C3) : Prop := VC a ∧ NF (cv f) a.1 a.2.1 a.2.2
theorem NrmOf.cv {f a : C3} (h : NrmOf f a) (t : Nat) : cv a t = Cv.cv f t := h.1.sound h.2 t
theorem NrmOf.self {f a : C3} (h : NrmOf f a) : NF (Cv.cv a) a.1 a.2.1 a.2.2 := by
  have : Cv.cv a = Cv.cv f := funext h.cv
  rw [this]; exact h.2
theorem NrmOf.uniq {f a b : C3} (h : NrmOf f a) (h' : NrmOf f b) : a = b := by
  obtain ⟨h1, h2, h3⟩ := h.2.uniq h'.2
  exact Prod.ext h1 (Prod.ext h2 h3)
theorem inf_late_cv {a : C3} (ha : VC a) (hf : ¬FinC a) {t : Nat} : infAt a.1 t ↔ cv a t = INF := by
  have n1 := ha.n1
  constructor
  · intro h
    unfold infAt at h
    by_cases ht : t < a.1.length
    · rw [Nat.min_eq_left (by omega)] at h
      unfold cv; rw [val_lt ht]; exact h
    · rw [Nat.min_eq_right (by omega)] at h
      exact ha.val_inf h h t (by omega)
  · intro h
    by_cases ht : t < a.1.length
    · unfold cv at h; rw [val_lt ht] at h
      unfold infAt; rw [Nat.min_eq_left (by omega)]; exact h
    · exact inf_late hf (by omega)
theorem dif_zero {a : C3} (ha : VC a) : dif a exZ = cv a := by
  funext t
  have hz : ¬infAt exZ.1 t := (show FinC exZ by decide).not exZ_v t
  unfold dif
  rw [if_neg hz, cv_exZ]
  by_cases hf : FinC a
  · rw [if_neg (hf.not ha t)]; omega
  · by_cases hi : infAt a.1 t
    · rw [if_pos hi, (inf_late_cv ha hf).1 hi]
    · rw [if_neg hi]; omega
theorem rmx_self {F : Nat → Int} (h0 : ∀ t, 0 ≤ F t) (hm : Mono F) : rmx F = F := by
  funext t
  have h1 := rmx_ge F (Nat.le_refl t)
  have h2 := rmx_le (d := F) (h0 t) (t := t) (fun s hs => hm.le hs)
  omega
theorem amn_zero {a : C3} (ha : VC a) : amn a exZ = cv a := by
  funext t
  unfold amn
  rw [dif_zero ha]
  have h1 := wmn_le (d := cv a) (n := frm a exZ + com a exZ) (Nat.le_refl t) (by omega)
  have h2 : cv a t ≤ wmn (cv a) (frm a exZ + com a exZ) t := wmn_ge (fun u h3 _ => VF.cvle ha h3)
  have := cv_nonneg ha t
  omega
theorem amn_le_dif {a b : C3} {t s : Nat} (ha : VC a) (hb : VC b) (fb : FinC b) (hd : FinC a → 0 ≤ drf a b) (h : t ≤ s) : amn a b t ≤ max 0 (dif a b s) := by
  obtain ⟨r, h1, h2, h3⟩ := down ha hb fb hd h
  have := wmn_le (d := dif a b) (n := frm a b + com a b) h1 (by omega)
  unfold amn; omega
theorem amn_ge {a b : C3} {t : Nat} {m : Int} (h0 : m ≤ 0 ∨ True) (h : ∀ s, t ≤ s → m ≤ max 0 (dif a b s)) : m ≤ amn a b t := by
  obtain ⟨s, h1, h2, h3⟩ := wmn_at (dif a b) (frm a b + com a b) t
  have := h s h1
  unfold amn; omega
/- with the second curve added again -/
theorem back_ge {a b r : C3} (ha : VC a) (hb : VC b) (hr : VC r) (h : ∀ t, cv r t = rmx (dif a b) t) {t : Nat} (ht : t ≤ 1048576) : cv a t ≤ pls r b t := by
  unfold pls
  split
  · by_cases hi : infAt a.1 t
    · rw [(ha.inf_iff ht).2 hi |> fun e => (show cv a t = INF from e)]; exact Int.le_refl _
    · have := cv_small ha ht hi; simp only [INF]; omega
  · rename_i hn
    have hnb : ¬infAt b.1 t := fun h => hn (.inr h)
    have hnr : ¬infAt r.1 t := fun h => hn (.inl h)
    have h1 := rmx_ge (dif a b) (Nat.le_refl t)
    rw [← h t] at h1
    by_cases hi : infAt a.1 t
    · exfalso
      have h2 := cv_small hr ht hnr
      rw [(dif_inf ha hb ht).2 ⟨hi, hnb⟩] at h1
      simp only [INF] at h1; omega
    · unfold dif at h1
      rw [if_neg hnb, if_neg hi] at h1
      omega
theorem amn_le_rmx {a b : C3} (ha : VC a) (hb : VC b) (fb : FinC b) (hd : FinC a → 0 ≤ drf a b) (t : Nat) : amn a b t ≤ rmx (dif a b) t := by
  have h1 := amn_le_dif ha hb fb hd (Nat.le_refl t)
  have h2 := rmx_ge (dif a b) (Nat.le_refl t)
  have := rmx_nonneg (dif a b) t
  omega
end Go.Cv
end
section
namespace Go.Cv
/-! curves as functions to the integers with an infinite value above all -/
def Ge (m : Int) (c : C3) (t : Nat) : Prop := infAt c.1 t ∨ m ≤ cv c t
/- m is at most the greater one of 0 and the difference -/
def GeD (m : Int) (a b : C3) (s : Nat) : Prop := m ≤ 0 ∨ (¬infAt b.1 s ∧ (infAt a.1 s ∨ m ≤ cv a s - cv b s))
def Leq (f g : C3) : Prop := ∀ m t, Ge m f t → Ge m g t
theorem Leq.refl (f : C3) : Leq f f := fun _ _ h => h
theorem Leq.inf {f g : C3} (h : Leq f g) {t : Nat} (hi : infAt f.1 t) : infAt g.1 t := by
  rcases h (cv g t + 1) t (.inl hi) with h1 | h1
  · exact h1
  · omega
theorem Leq.le {f g : C3} (h : Leq f g) {t : Nat} (hi : ¬infAt g.1 t) : cv f t ≤ cv g t := by
  rcases h (cv f t) t (.inr (Int.le_refl _)) with h1 | h1
  · exact absurd h1 hi
  · exact h1
theorem Leq.mk {f g : C3} (h : ∀ t, ¬infAt g.1 t → ¬infAt f.1 t ∧ cv f t ≤ cv g t) : Leq f g := by
  intro m t hm
  by_cases hi : infAt g.1 t
  · exact .inl hi
  · obtain ⟨h1, h2⟩ := h t hi
    rcases hm with h3 | h3
    · exact absurd h3 h1
    · exact .inr (by omega)
theorem atMost_iff {f g : C3} (hf : VC f) (hg : VC g) (hc : com f g ≤ 1000000) : AtMostP f g ↔ Leq f g := by
  constructor
  · intro h
    exact Leq.mk (fun t hi => atMost_le hf hg h hi)
  · intro h
    refine ⟨fun t ht => ?_, fun ⟨ff, fg, hd⟩ => ?_⟩
    · unfold abv
      by_cases hi : infAt g.1 t
      · rw [if_pos hi]; exact Int.le_refl _
      · rw [if_neg hi, if_neg (fun hj => hi (h.inf hj))]
        have := h.le hi; omega
    · obtain ⟨s, hs, h0⟩ := dif_up hf hg ff fg hd
      have hp := dif_per hf hg ff fg s hs
      have h1 := h0 s (Nat.le_refl _)
      have h2 := h.le (t := s + com f g) (fg.not hg _)
      rw [dif_fin hf hg ff fg, dif_fin hf hg ff fg] at hp
      rw [dif_fin hf hg ff fg] at h1
      rw [grw_drf] at hd
      omega
theorem infAt_clip {vs : List Int} {t n : Nat} (hn : vs.length ≤ n) : infAt vs t ↔ infAt vs (min t n) := by
  unfold infAt
  rw [show min (min t n) (vs.length - 1) = min t (vs.length - 1) by omega]
theorem VF.clip {c : C3} (h : VC c) (t : Nat) : infAt c.1 t ↔ infAt c.1 (min t 1000) := infAt_clip (by have := h.n2; omega)
/- the infinite ticks are those where the value is it, early -/
theorem VF.inf_clip {c : C3} (h : VC c) (t : Nat) : infAt c.1 t ↔ cv c (min t 1000) = INF := by
  rw [VF.clip h]; exact (h.inf_iff (by omega)).symm
theorem GeD.mono {m : Int} {a b a' b' : C3} (h1 : Leq a a') (h2 : Leq b' b) {s : Nat} (h : GeD m a b s) : GeD m a' b' s := by
  rcases h with h | ⟨h3, h4⟩
  · exact .inl h
  · have h5 : ¬infAt b'.1 s := fun h => h3 (h2.inf h)
    have h6 := h2.le h3
    refine .inr ⟨h5, ?_⟩
    by_cases hi : infAt a'.1 s
    · exact .inl hi
    · have h7 := h1.le hi
      rcases h4 with h4 | h4
      · exact absurd (h1.inf h4) hi
      · exact .inr (by omega)
theorem rest_infAt {a b c : C3} (ha : VC a) (hb : VC b) (hc : VC c) (h : ∀ t, cv c t = rmx (dif a b) t) (t : Nat) : infAt c.1 t ↔ ∃ s, s ≤ t ∧ infAt a.1 s ∧ ¬infAt b.1 s := by
  rw [VF.inf_clip hc, h]
  constructor
  · intro he
    rcases rmx_at (dif a b) (min t 1000) with h1 | ⟨s, h1, h2⟩
    · rw [h1] at he; simp only [INF] at he; omega
    · rw [h2] at he
      exact ⟨s, by omega, (dif_inf ha hb (by omega)).1 he⟩
  · rintro ⟨s, hs, h1, h2⟩
    have h3 : dif a b (min s 1000) = INF := (dif_inf ha hb (by omega)).2 ⟨(VF.clip ha s).1 h1, fun h => h2 ((VF.clip hb s).2 h)⟩
    have h4 := rmx_ge (dif a b) (show min s 1000 ≤ min t 1000 by omega)
    have h5 := (rmx_dif_le ha hb (t := min t 1000) (by omega)).2
    omega
theorem rest_ge {a b c : C3} (ha : VC a) (hb : VC b) (hc : VC c) (h : ∀ t, cv c t = rmx (dif a b) t) (m : Int) (t : Nat) : Ge m c t ↔ ∃ s, s ≤ t ∧ GeD m a b s := by
  constructor
  · rintro (hi | hm)
    · obtain ⟨s, h1, h2, h3⟩ := (rest_infAt ha hb hc h t).1 hi
      exact ⟨s, h1, .inr ⟨h3, .inl h2⟩⟩
    · rw [h] at hm
      rcases rmx_at (dif a b) t with h1 | ⟨s, h1, h2⟩
      · exact ⟨t, Nat.le_refl _, .inl (by omega)⟩
      · refine ⟨s, h1, ?_⟩
        rw [h2] at hm
        unfold dif at hm
        by_cases hbi : infAt b.1 s
        · rw [if_pos hbi] at hm; exact .inl hm
        · rw [if_neg hbi] at hm
          by_cases hai : infAt a.1 s
          · exact .inr ⟨hbi, .inl hai⟩
          · rw [if_neg hai] at hm; exact .inr ⟨hbi, .inr hm⟩
  · rintro ⟨s, hs, h1 | ⟨h1, h2⟩⟩
    · have := cv_nonneg hc t; exact .inr (by omega)
    · by_cases hai : infAt a.1 s
      · exact .inl ((rest_infAt ha hb hc h t).2 ⟨s, hs, hai, h1⟩)
      · rcases h2 with h2 | h2
        · exact absurd h2 hai
        · have h3 := rmx_ge (dif a b) hs
          rw [← h] at h3
          unfold dif at h3
          rw [if_neg h1, if_neg hai] at h3
          exact .inr (by omega)
theorem rest_leq {a b c a' b' c' : C3} (ha : VC a) (hb : VC b) (hc : VC c) (h : ∀ t, cv c t = rmx (dif a b) t) (ha' : VC a') (hb' : VC b') (hc' : VC c') (h' : ∀ t, cv c' t = rmx (dif a' b') t)
    (h1 : Leq a a') (h2 : Leq b' b) : Leq c c' := by
  intro m t hm
  obtain ⟨s, h3, h4⟩ := (rest_ge ha hb hc h m t).1 hm
  exact (rest_ge ha' hb' hc' h' m t).2 ⟨s, h3, h4.mono h1 h2⟩
/- what Above computes -/
def AbvF (a b : C3) (F : Nat → Int) : Prop := (¬(FinC b ∧ (FinC a → 0 ≤ drf a b)) ∧ F = fun _ => 0) ∨ ((FinC b ∧ (FinC a → 0 ≤ drf a b)) ∧ F = amn a b)
theorem amn_infAt {a b c : C3} (ha : VC a) (hb : VC b) (hc : VC c) (fb : FinC b) (hd : FinC a → 0 ≤ drf a b) (h : ∀ t, cv c t = amn a b t) (t : Nat) : infAt c.1 t ↔ infAt a.1 t := by
  rw [VF.inf_clip hc, h, VF.clip ha]
  constructor
  · intro he
    have h1 := amn_le_dif ha hb fb hd (Nat.le_refl (min t 1000))
    have h2 := dif_le ha hb (t := min t 1000) (by omega)
    exact ((dif_inf ha hb (by omega)).1 (by simp only [INF] at *; omega)).1
  · intro hi
    have h1 : INF ≤ amn a b (min t 1000) := amn_ge (.inr trivial) (fun s hs => by
      unfold dif
      rw [if_neg (fb.not hb s), if_pos (ha.infAt_mono hs hi)]
      simp only [INF]; omega)
    have h2 := (amn_bd ha hb (t := min t 1000) (by omega)).2
    omega
theorem drf_swap {a b : C3} : drf b a = -drf a b := by
  have : com b a = com a b := Nat.lcm_comm _ _
  unfold drf
  rw [this]; omega
theorem above_ge {a b c : C3} (ha : VC a) (hb : VC b) (hc : VC c) {F : Nat → Int} (hF : AbvF a b F) (h : ∀ t, cv c t = F t) (m : Int) (t : Nat) : Ge m c t ↔ ∀ s, t ≤ s → GeD m a b s := by
  rcases hF with ⟨hn, rfl⟩ | ⟨⟨fb, hd⟩, rfl⟩
  · have hni : ¬infAt c.1 t := by
      rw [VF.inf_clip hc, h]; simp only [INF]; omega
    constructor
    · rintro (h1 | h1)
      · exact absurd h1 hni
      · rw [h] at h1; exact fun s _ => .inl h1
    · intro hall
      refine .inr ?_
      rw [h]
      show m ≤ 0
      by_cases fb : FinC b
      · have fa : FinC a := Classical.byContradiction (fun hx => hn ⟨fb, fun hh => absurd hh hx⟩)
        have hneg : ¬0 ≤ drf a b := fun hx => hn ⟨fb, fun _ => hx⟩
        obtain ⟨u, _, hu⟩ := dif_up hb ha fb fa (by rw [drf_swap]; omega)
        have h2 := hu (max u t) (by omega)
        rw [dif_fin hb ha fb fa] at h2
        rcases hall (max u t) (by omega) with h3 | ⟨_, h3 | h3⟩
        · exact h3
        · exact absurd h3 (fa.not ha _)
        · omega
      · rcases hall (max t b.1.length) (by omega) with h3 | ⟨h3, _⟩
        · exact h3
        · exact absurd (inf_late fb (by omega)) h3
  · have hia := amn_infAt ha hb hc fb hd h t
    constructor
    · rintro (h1 | h1)
      · intro s hs
        exact .inr ⟨fb.not hb s, .inl (ha.infAt_mono hs (hia.1 h1))⟩
      · intro s hs
        rw [h] at h1
        have h2 := amn_le_dif ha hb fb hd hs
        by_cases h0 : m ≤ 0
        · exact .inl h0
        · refine .inr ⟨fb.not hb s, ?_⟩
          by_cases hai : infAt a.1 s
          · exact .inl hai
          · unfold dif at h2
            rw [if_neg (fb.not hb s), if_neg hai] at h2
            exact .inr (by omega)
    · intro hall
      by_cases hai : infAt a.1 t
      · exact .inl (hia.2 hai)
      · refine .inr ?_
        rw [h]
        refine amn_ge (.inr trivial) (fun s hs => ?_)
        rcases hall s hs with h3 | ⟨_, h3⟩
        · omega
        · unfold dif
          rw [if_neg (fb.not hb s)]
          by_cases has : infAt a.1 s
          · rw [if_pos has]
            have hfa : ¬FinC a := fun hx => hx.not ha s has
            have hlt : t ≤ 1048576 := by
              apply Classical.byContradiction
              intro _
              have := ha.n2
              exact hai (inf_late hfa (by omega))
            have h2 := dif_le ha hb hlt
            unfold dif at h2
            rw [if_neg (fb.not hb t), if_neg hai] at h2
            rcases hall t (Nat.le_refl _) with h4 | ⟨_, h4 | h4⟩
            · simp only [INF]; omega
            · exact absurd h4 hai
            · omega
          · rw [if_neg has]
            rcases h3 with h3 | h3
            · exact absurd h3 has
            · omega
theorem above_leq {a b c a' b' c' : C3} {F F' : Nat → Int} (ha : VC a) (hb : VC b) (hc : VC c) (hF : AbvF a b F) (h : ∀ t, cv c t = F t) (ha' : VC a') (hb' : VC b') (hc' : VC c') (hF' : AbvF a' b' F') (h' : ∀ t, cv c' t = F' t)
    (h1 : Leq a a') (h2 : Leq b' b) : Leq c c' :=
  fun m t hm => (above_ge ha' hb' hc' hF' h' m t).2 (fun s hs => ((above_ge ha hb hc hF h m t).1 hm s hs).mono h1 h2)
theorem pls_infAt {a b c : C3} (ha : VC a) (hb : VC b) (hc : VC c) (h : ∀ t, cv c t = pls a b t) (t : Nat) : infAt c.1 t ↔ infAt a.1 t ∨ infAt b.1 t := by
  rw [VF.inf_clip hc, h, pls_inf ha hb (by omega), ← VF.clip ha, ← VF.clip hb]
theorem pls_leq {a b c : C3} (ha : VC a) (hb : VC b) (hc : VC c) (h : ∀ t, cv c t = pls a b t) : Leq a c := by
  refine Leq.mk (fun t hi => ?_)
  rw [pls_infAt ha hb hc h] at hi
  refine ⟨fun h => hi (.inl h), ?_⟩
  rw [h]
  unfold pls
  rw [if_neg hi]
  have := cv_nonneg hb t
  omega
theorem cv_le2 {a : C3} (h : VC a) (hf : FinC a) {B : Int} (hB : ∀ j < a.1.length, a.1.getD j 0 = INF ∨ a.1.getD j 0 ≤ B) (t : Nat) : cv a t ≤ B + t * a.2.2 := by
  induction t using Nat.strongRecOn with
  | _ t ih =>
    by_cases hlt : t < a.1.length
    · unfold cv
      rw [val_lt hlt]
      have h2 := hB t hlt
      have h3 := h.noinf hf t hlt
      have : 0 ≤ (t : Int) * a.2.2 := Int.mul_nonneg (by omega) h.q0
      simp only [INF] at *; omega
    · have pn := h.pn
      have p1 := h.p1
      have e := h.per (t - a.2.1) (by omega)
      rw [show t - a.2.1 + a.2.1 = t by omega] at e
      have h2 := ih (t - a.2.1) (by omega)
      have h3 : ((t - a.2.1 : Nat) : Int) * a.2.2 + a.2.2 ≤ t * a.2.2 := by
        have h4 : ((t - a.2.1 : Nat) + 1 : Int) * a.2.2 ≤ (t : Int) * a.2.2 := Int.mul_le_mul_of_nonneg_right (by omega) h.q0
        rw [Int.add_mul, Int.one_mul] at h4; exact h4
      unfold cv at *
      omega
theorem pls_mono {a b : C3} (ha : VC a) (hb : VC b) {s t : Nat} (hst : s ≤ t) (ht : t ≤ 1048576) : pls a b s ≤ pls a b t := by
  by_cases h : infAt a.1 t ∨ infAt b.1 t
  · have := pls_le ha hb (t := s) (by omega)
    rw [(pls_inf ha hb ht).2 h]; exact this
  · have h1 : ¬(infAt a.1 s ∨ infAt b.1 s) := fun hh => h (hh.imp (ha.infAt_mono hst) (hb.infAt_mono hst))
    unfold pls
    rw [if_neg h, if_neg h1]
    have := ha.cvle hst
    have := hb.cvle hst
    omega
theorem least_inf {F : Nat → Int} : ∀ n, F n = INF → ∃ m, m ≤ n ∧ F m = INF ∧ ∀ t, t < m → F t ≠ INF := by
  intro n
  induction n using Nat.strongRecOn with
  | _ n ih =>
    intro h
    by_cases hx : ∃ t, t < n ∧ F t = INF
    · obtain ⟨t, h1, h2⟩ := hx
      obtain ⟨m, h3, h4, h5⟩ := ih t h1 h2
      exact ⟨m, by omega, h4, h5⟩
    · exact ⟨n, Nat.le_refl _, h, fun t ht he => hx ⟨t, ht, he⟩⟩
structure Sml (a : C3) (B : Int) : Prop where
  v : VC a
  n : a.1.length ≤ 20
  p : a.2.1 ≤ 8
  q : a.2.2 ≤ 100
  b : ∀ j < a.1.length, a.1.getD j 0 = INF ∨ a.1.getD j 0 ≤ B
theorem mul_le' {a b A B : Int} (ha : 0 ≤ a) (hb : 0 ≤ b) (hA : a ≤ A) (hB : b ≤ B) : 0 ≤ a * b ∧ a * b ≤ A * B :=
  ⟨Int.mul_nonneg ha hb, Int.mul_le_mul hA hB hb (by omega)⟩
/- the sum of two small curves is a curve -/
theorem sum_small {a d : C3} {B : Int} (ha : Sml a B) (hd : Sml d B) (hB : B ≤ 100000) {x : List Int × Int × Int × Int} (h : MkP (pls a d) x) : x.2.2.2 = 0 := by
  rcases h with ⟨_, _, _, _, _, rfl⟩ | ⟨hno, rfl⟩
  · rfl
  exfalso
  have va := ha.v
  have vd := hd.v
  have n1 := ha.n
  have n2 := hd.n
  have l1 := va.n1
  have l2 := vd.n1
  have p1 := va.p1
  have p2 := vd.p1
  have hc : com a d ≤ 64 := by
    have h3 : com a d ≤ a.2.1 * d.2.1 := Nat.le_of_dvd (Nat.mul_pos p1 p2) (Nat.lcm_dvd_mul _ _)
    have h4 : a.2.1 * d.2.1 ≤ 8 * 8 := Nat.mul_le_mul ha.p hd.p
    omega
  have hc1 := com_pos va vd
  by_cases hf : FinC a ∧ FinC d
  · have hper := pls_per va vd hf
    have k1 := mul_le' (A := 100) (B := 64) va.q0 (Int.natCast_nonneg (com a d / a.2.1)) ha.q (by have := Nat.div_le_self (com a d) a.2.1; omega)
    have k2 := mul_le' (A := 100) (B := 64) vd.q0 (Int.natCast_nonneg (com a d / d.2.1)) hd.q (by have := Nat.div_le_self (com a d) d.2.1; omega)
    have hfr : frm a d ≤ 20 := by unfold frm; omega
    have hval : ∀ t, pls a d t = cv a t + cv d t := by
      intro t; unfold pls; rw [if_neg (fun h => h.elim (hf.1.not va t) (hf.2.not vd t))]
    obtain ⟨c, h1, h2, _⟩ := vf_exists hc1 hper (pls_nonneg va vd 0) (fun t => by
        rw [hval, hval]; have := va.cvle (show t ≤ t + 1 by omega); have := vd.cvle (show t ≤ t + 1 by omega); omega) (by omega) (by omega) (by unfold sgn; omega)
      (fun t ht => by
        rw [hval]
        have e1 := cv_le2 va hf.1 ha.b t
        have e2 := cv_le2 vd hf.2 hd.b t
        have m1 := mul_le' (a := (t : Int)) (A := 100) (B := 100) (by omega) va.q0 (by omega) ha.q
        have m2 := mul_le' (a := (t : Int)) (A := 100) (B := 100) (by omega) vd.q0 (by omega) hd.q
        omega)
    exact hno _ _ _ h1 h2
  · have hw : win a d ≤ 20 := by unfold win; omega
    obtain ⟨m, h1, h2, h3⟩ := least_inf _ (pls_late hf (Nat.le_refl (win a d)))
    have h4 := pls_inf_late va vd (by omega) h2
    have hnf := NF.inf h4 h3
    refine hno _ _ _ hnf ?_
    have hfin : ∀ t, t < m → pls a d t ≤ 1073741824 := by
      intro t ht
      have hni : ¬(infAt a.1 t ∨ infAt d.1 t) := fun h => h3 t ht ((pls_inf va vd (by omega)).2 h)
      have e1 : cv a t ≤ B + t * 100 := by
        have hq := va.q0
        by_cases fa : FinC a
        · have := cv_le2 va fa ha.b t
          have : (t : Int) * a.2.2 ≤ t * 100 := Int.mul_le_mul_of_nonneg_left ha.q (by omega)
          omega
        · have hlt : t < a.1.length := by
            apply Classical.byContradiction
            intro hx
            exact hni (.inl (inf_late fa (by omega)))
          have h5 := ha.b t hlt
          unfold cv
          rw [val_lt hlt]
          rcases h5 with h5 | h5
          · exfalso; apply hni; left; unfold infAt; rw [Nat.min_eq_left (by omega)]; exact h5
          · omega
      have e2 : cv d t ≤ B + t * 100 := by
        have hq := vd.q0
        by_cases fa : FinC d
        · have := cv_le2 vd fa hd.b t
          have : (t : Int) * d.2.2 ≤ t * 100 := Int.mul_le_mul_of_nonneg_left hd.q (by omega)
          omega
        · have hlt : t < d.1.length := by
            apply Classical.byContradiction
            intro hx
            exact hni (.inr (inf_late fa (by omega)))
          have h5 := hd.b t hlt
          unfold cv
          rw [val_lt hlt]
          rcases h5 with h5 | h5
          · exfalso; apply hni; right; unfold infAt; rw [Nat.min_eq_left (by omega)]; exact h5
          · omega
      unfold pls
      rw [if_neg hni]
      omega
    have hlast : (vals (pls a d) (m + 1)).getD ((vals (pls a d) (m + 1)).length - 1) 0 = INF := by
      rw [vals_len, Nat.add_sub_cancel, vals_get (by omega)]; exact h2
    refine ⟨by rw [vals_len]; omega, by rw [vals_len]; omega, by omega, by omega, by rw [vals_len]; omega, by omega, by omega, fun j hj => ?_, fun j k hjk hk => ?_, fun _ => ⟨rfl, rfl⟩, fun e => absurd hlast e⟩
    · rw [vals_len] at hj
      rw [vals_get hj]
      by_cases hjm : j = m
      · subst hjm; exact .inl h2
      · exact .inr ⟨pls_nonneg va vd j, hfin j (by omega)⟩
    · rw [vals_len] at hk
      rw [vals_get (by omega), vals_get hk]
      exact pls_mono va vd hjk (by omega)
theorem sum_per {a d m : C3} (ha : VC a) (hd : VC d) (h : NF (pls a d) m.1 m.2.1 m.2.2) : m.2.1 ≤ com a d := by
  obtain ⟨s, g1, g2, g3, _⟩ := h
  by_cases hf : FinC a ∧ FinC d
  · exact g3 _ _ _ (com_pos ha hd) (pls_per ha hd hf)
  · have h1 : Per (pls a d) (win a d) 1 0 := fun t ht => by
      rw [pls_late hf ht, pls_late hf (by omega)]; simp
    have h2 := g3 _ _ _ (Nat.le_refl 1) h1
    have := com_pos ha hd
    omega
theorem com_le_mul {a b : C3} (ha : VC a) (hb : VC b) {A B : Nat} (h1 : a.2.1 ≤ A) (h2 : b.2.1 ≤ B) : com a b ≤ A * B := by
  have h3 : com a b ≤ a.2.1 * b.2.1 := Nat.le_of_dvd (Nat.mul_pos ha.p1 hb.p1) (Nat.lcm_dvd_mul _ _)
  have h4 := Nat.mul_le_mul h1 h2
  omega
end Go.Cv
end
section
namespace Go.Cv
/-! curves that are lowered, or raised after the tick 0 -/
def low (x : C3) (v : Int) : C3 := (x.1.map (fun y => y - v), x.2.1, x.2.2)
theorem low_len (x : C3) (v : Int) : (low x v).1.length = x.1.length := by simp [low]
theorem low_get {x : C3} {v : Int} {j : Nat} (h : j < x.1.length) : (low x v).1.getD j 0 = x.1.getD j 0 - v := by
  simp [low, List.getElem?_eq_getElem h]
theorem low_vc {x : C3} {v : Int} (h : VC x) (hf : FinC x) (h0 : 0 ≤ v) (h1 : v ≤ x.1.getD 0 0) : VC (low x v) ∧ FinC (low x v) ∧ ∀ t, cv (low x v) t = cv x t - v := by
  have n1 := h.n1
  have hl := low_len x v
  have hb : ∀ j < x.1.length, x.1.getD j 0 ≠ INF ∧ v ≤ x.1.getD j 0 ∧ x.1.getD j 0 ≤ 1073741824 := by
    intro j hj
    have h2 := h.noinf hf j hj
    have h3 := h.mono 0 j (by omega) hj
    refine ⟨h2, by omega, ?_⟩
    rcases h.v j hj with h4 | h4
    · exact absurd h4 h2
    · exact h4.2
  have hfin : FinC (low x v) := by
    unfold FinC
    rw [hl, low_get (by omega)]
    have := hb (x.1.length - 1) (by omega)
    simp only [INF] at *; omega
  have hv : VC (low x v) := by
    refine ⟨by rw [hl]; exact h.n1, by rw [hl]; exact h.n2, h.p1, h.p2, by rw [hl]; exact h.pn, h.q0, h.q1, fun j hj => ?_, fun j k hjk hk => ?_, fun e => absurd e hfin, fun _ => ?_⟩
    · rw [hl] at hj
      rw [low_get hj]
      have := hb j hj
      exact .inr ⟨by omega, by omega⟩
    · rw [hl] at hk
      rw [low_get (by omega), low_get hk]
      have := h.mono j k hjk hk
      omega
    · have p1 := h.p1
      have h2 := h.fin hf
      have h3 : (low x v).2.1 = x.2.1 := rfl
      have h4 : (low x v).2.2 = x.2.2 := rfl
      rw [hl, h3, h4, low_get (by omega), low_get (by omega)]
      omega
  refine ⟨hv, hfin, fun t => ?_⟩
  have hper := h.per
  refine val_of_per (F := fun t => cv x t - v) h.p1 (by rw [hl]; exact h.pn) (fun t ht => ?_) (fun k hk => hv.noinf hfin k hk) ?_ t
  · rw [hl] at ht
    rw [low_get ht]
    unfold cv
    rw [val_lt ht]
  · intro t ht
    rw [hl] at ht
    have := hper t ht
    unfold cv
    show val x.1 x.2.1 x.2.2 (t + x.2.1) - v = val x.1 x.2.1 x.2.2 t - v + x.2.2
    omega
theorem per_add {F : Nat → Int} {s p : Nat} {q v : Int} : Per (fun t => F t - v) s p q ↔ Per F s p q :=
  ⟨fun h t ht => by have := h t ht; simp only at this; omega, fun h t ht => by have := h t ht; simp only; omega⟩
theorem low_nf {F : Nat → Int} {vs : List Int} {p : Nat} {q : Int} (v : Int) (h : NF F vs p q) : NF (fun t => F t - v) (vs.map (fun y => y - v)) p q := by
  obtain ⟨s, h1, h2, h3, h4, h5⟩ := h
  refine ⟨s, h1, per_add.2 h2, fun s' p' q' h6 h7 => h3 s' p' q' h6 (per_add.1 h7), fun s' h6 => h4 s' (per_add.1 h6), ?_⟩
  rw [h5]; simp [vals]
theorem fin_nrm {f a : C3} (hf : VC f) (hfin : FinC f) (h : NrmOf f a) : FinC a := by
  have va := h.1
  intro e
  have n1 := va.n1
  have n2 := va.n2
  have h1 : cv a (a.1.length - 1) = INF := by unfold cv; rw [val_lt (by omega)]; exact e
  rw [h.cv] at h1
  exact hfin.not hf _ ((hf.inf_iff (by omega)).1 h1)
/- a small curve in normal form with 0 at the tick 0 -/
structure Zer (most : Nat) (a : C3) : Prop where
  v : VC a
  f : FinC a
  z : cv a 0 = 0
  p : a.2.1 ≤ 4
  n : a.1.length ≤ most + 1
  q : a.2.2 ≤ 35
  b : ∀ j < a.1.length, a.1.getD j 0 ≤ 9 * most + 3
  s : ∀ t, cv a (t + 1) ≤ cv a t + 9
theorem low_nrm {f a : C3} {v : Int} (hf : VC f) (hfin : FinC f) (h : NrmOf f a) (h0 : 0 ≤ v) (h1 : v ≤ f.1.getD 0 0) : NrmOf (low f v) (low a v) := by
  have fa := fin_nrm hf hfin h
  have e : f.1.getD 0 0 = a.1.getD 0 0 := by
    have e1 := h.cv 0
    unfold cv at e1
    rw [val_lt h.1.n1, val_lt hf.n1] at e1
    exact e1.symm
  refine ⟨(low_vc h.1 fa h0 (by omega)).1, ?_⟩
  have h2 := low_nf v h.2
  rw [show Cv.cv (low f v) = fun t => Cv.cv f t - v from funext (low_vc hf hfin h0 h1).2.2]
  exact h2
end Go.Cv
end
section
namespace Go.Cv
/-! a curve moved to earlier ticks -/
def ahd (f : C3) (d t : Nat) : Int := if t = 0 then 0 else cv f (t + d)
theorem ahd_mono {f : C3} (hf : VC f) (d : Nat) : Mono (ahd f d) := by
  intro t
  unfold ahd
  rw [if_neg (show ¬t + 1 = 0 by omega)]
  split
  · exact hf.nonneg _
  · have := hf.mono' (t + d)
    rw [show t + d + 1 = t + 1 + d by omega] at this
    exact this
theorem ahd_congr {f a : C3} (h : ∀ t, cv a t = cv f t) (d : Nat) : ahd a d = ahd f d := by
  funext t; unfold ahd; rw [h]
theorem ahd_per {a : C3} (ha : VC a) (d s : Nat) (h1 : 1 ≤ s) (h2 : a.1.length - a.2.1 - d ≤ s) : Per (ahd a d) s a.2.1 a.2.2 := by
  intro t ht
  unfold ahd
  rw [if_neg (show ¬t = 0 by omega), if_neg (show ¬t + a.2.1 = 0 by have := ha.p1; omega)]
  have := ha.per (t + d) (by omega)
  rw [show t + a.2.1 + d = t + d + a.2.1 by omega]
  exact this
theorem ahd_bd {f : C3} (hf : VC f) (ff : FinC f) {d t : Nat} (h : t + d ≤ 1048576) : 0 ≤ ahd f d t ∧ ahd f d t ≤ 2000000000000000 := by
  unfold ahd
  split
  · omega
  · exact ⟨cv_nonneg hf _, cv_small hf h (ff.not hf _)⟩
/- small curves stay curves -/
theorem mk_fits {F : Nat → Int} {x : List Int × Int × Int × Int} {s p : Nat} {q : Int} (h : MkP F x) (h0 : 0 ≤ F 0) (hm : Mono F) (hp : Per F s p q) (hp1 : 1 ≤ p) (hp2 : p ≤ 120) (hs : s + p ≤ 400) (hq2 : q ≤ 1073741824) (hv : ∀ t, t < s + p → F t ≤ 1073741824) : ∃ c : C3, VC c ∧ (∀ t, cv c t = F t) ∧ x = (c.1, (c.2.1 : Int), c.2.2, 0) := by
  obtain ⟨c, hn, hc, _⟩ := vf_exists hp1 hp h0 hm hs hp2 hq2 hv
  rcases h with ⟨vs, p', q', hn', hvf, rfl⟩ | ⟨hno, _⟩
  · exact ⟨(vs, p', q'), hvf, hvf.sound hn', rfl⟩
  · exact absurd hc (hno _ _ _ hn)
end Go.Cv
end
section
namespace Go.Pk
/-! packets, plainly -/
structure Pk where
  f : Int
  t : Int
  s : Int
def sel (flow : Int) (x : Pk) : Prop := flow = -1 ∨ (x.f = flow ∧ 0 ≤ flow)
instance (flow : Int) (x : Pk) : Decidable (sel flow x) := inferInstanceAs (Decidable (_ ∨ _))
abbrev pk0 : Pk := ⟨0, 0, 0⟩
/- the packets of a flow among the first i, with their indices -/
def selN (p : List Pk) (flow : Int) : Nat → List (Nat × Pk)
  | 0 => []
  | i + 1 => if sel flow (p.getD i pk0) then selN p flow i ++ [(i, p.getD i pk0)] else selN p flow i
theorem selN_pre (p : List Pk) (flow : Int) {i : Nat} : ∀ {m : Nat}, i ≤ m → ∃ r, selN p flow m = selN p flow i ++ r
  | 0, h => by have : i = 0 := by omega
               subst this; exact ⟨[], by simp [selN]⟩
  | m + 1, h => by
    by_cases e : i = m + 1
    · subst e; exact ⟨[], by simp⟩
    · obtain ⟨r, hr⟩ := selN_pre p flow (i := i) (m := m) (by omega)
      simp only [selN]
      split
      · exact ⟨r ++ [(m, p.getD m pk0)], by rw [hr, List.append_assoc]⟩
      · exact ⟨r, hr⟩
theorem selN_at {p : List Pk} {flow : Int} {i : Nat} (hi : i < p.length) (h : sel flow (p.getD i pk0)) : (selN p flow p.length)[(selN p flow i).length]? = some (i, p.getD i pk0) := by
  obtain ⟨r, hr⟩ := selN_pre p flow (i := i + 1) (m := p.length) (by omega)
  rw [hr]
  simp only [selN]
  rw [if_pos h, List.append_assoc, List.getElem?_append_right (Nat.le_refl _), Nat.sub_self]
  rfl
theorem selN_len (p : List Pk) (flow : Int) : ∀ i, (selN p flow i).length ≤ i
  | 0 => by simp [selN]
  | i + 1 => by have := selN_len p flow i; simp only [selN]; split <;> simp <;> omega
theorem selN_step (p : List Pk) (flow : Int) (i : Nat) : (sel flow (p.getD i pk0) → selN p flow (i + 1) = selN p flow i ++ [(i, p.getD i pk0)]) ∧ (¬sel flow (p.getD i pk0) → selN p flow (i + 1) = selN p flow i) :=
  ⟨fun h => by simp only [selN]; rw [if_pos h], fun h => by simp only [selN]; rw [if_neg h]⟩
/- bytes before a tick -/
def bysL (t : Int) : List (Nat × Pk) → Int
  | [] => 0
  | x :: l => (if x.2.t < t then x.2.s else 0) + bysL t l
theorem bysL_app (t : Int) : ∀ a b : List (Nat × Pk), bysL t (a ++ b) = bysL t a + bysL t b
  | [], b => by simp [bysL]
  | x :: a, b => by simp only [List.cons_append, bysL]; rw [bysL_app]; omega
def bys (p : List Pk) (flow t : Int) : Int := bysL t (selN p flow p.length)
theorem bysL_take (t : Int) {l : List (Nat × Pk)} {j : Nat} {x : Nat × Pk} (h : l[j]? = some x) : bysL t (l.take (j + 1)) = bysL t (l.take j) + if x.2.t < t then x.2.s else 0 := by
  obtain ⟨hj, e⟩ := List.getElem?_eq_some_iff.1 h
  rw [List.take_succ_eq_append_getElem hj, bysL_app, e]
  simp [bysL]
theorem getD_memP {l : List Pk} {i : Nat} (h : i < l.length) : l.getD i pk0 ∈ l := by
  rw [List.getD_eq_getElem?_getD, List.getElem?_eq_getElem h]; exact List.getElem_mem h
theorem selN_mem {p : List Pk} {flow : Int} : ∀ {i : Nat}, i ≤ p.length → ∀ x ∈ selN p flow i, x.1 < i ∧ x.2 = p.getD x.1 pk0 ∧ x.2 ∈ p
  | 0, _, x, h => by simp [selN] at h
  | i + 1, hi, x, h => by
    have ih := selN_mem (p := p) (flow := flow) (i := i) (by omega)
    simp only [selN] at h
    split at h
    · rcases List.mem_append.1 h with h | h
      · have := ih x h; exact ⟨by omega, this.2⟩
      · rw [List.mem_singleton.1 h]; exact ⟨by simp, rfl, getD_memP (by omega)⟩
    · have := ih x h; exact ⟨by omega, this.2⟩
/- sizes that are small -/
def Sml (p : List Pk) : Prop := ∀ x ∈ p, 0 ≤ x.s ∧ x.s ≤ 1000000
theorem bysL_bd {t : Int} : ∀ {l : List (Nat × Pk)}, (∀ x ∈ l, 0 ≤ x.2.s ∧ x.2.s ≤ 1000000) → 0 ≤ bysL t l ∧ bysL t l ≤ 1000000 * l.length
  | [], _ => by simp [bysL]
  | x :: l, h => by
    have h1 := h x (by simp)
    have h2 := bysL_bd (t := t) (l := l) fun y hy => h y (List.mem_cons_of_mem _ hy)
    simp only [bysL, List.length_cons]
    split <;> (push_cast; omega)
theorem sel_bd {p : List Pk} {flow t : Int} (hs : Sml p) (j : Nat) : 0 ≤ bysL t ((selN p flow p.length).take j) ∧ bysL t ((selN p flow p.length).take j) ≤ 1000000 * p.length := by
  have h1 := bysL_bd (t := t) (l := (selN p flow p.length).take j) fun x hx => hs x.2 (selN_mem (Nat.le_refl _) x (List.mem_of_mem_take hx)).2.2
  have h2 := selN_len p flow p.length
  have h3 : ((selN p flow p.length).take j).length ≤ p.length := by rw [List.length_take]; omega
  omega
/-! what is wrong with a trace -/
def bad (x : Pk) : Prop := x.f < 0 ∨ 60 ≤ x.f ∨ x.t < 0 ∨ 2000 < x.t ∨ x.s < 1 ∨ 1500 < x.s
instance (x : Pk) : Decidable (bad x) := inferInstanceAs (Decidable (_ ∨ _))
def lst (p : List Pk) : Nat → Int
  | 0 => 0
  | i + 1 => (p.getD i pk0).t
def vldN (p : List Pk) : Nat → Int
  | 0 => 0
  | i + 1 => if vldN p i ≠ 0 then vldN p i else if bad (p.getD i pk0) then 2 else if (p.getD i pk0).t < lst p i then 7 else 0
def vld (p : List Pk) : Int := if 60 < p.length then 3 else vldN p p.length
theorem vldN_ge {p : List Pk} {i : Nat} : ∀ {m : Nat}, i ≤ m → vldN p i ≠ 0 → vldN p m = vldN p i
  | 0, h, _ => by have : i = 0 := by omega
                  subst this; rfl
  | m + 1, h, hn => by
    by_cases e : i = m + 1
    · subst e; rfl
    · have := vldN_ge (p := p) (i := i) (m := m) (by omega) hn
      simp only [vldN]; rw [if_pos (by rw [this]; exact hn), this]
theorem vldN_zero {p : List Pk} : ∀ {m : Nat}, vldN p m = 0 ↔ ∀ i, i < m → ¬bad (p.getD i pk0) ∧ lst p i ≤ (p.getD i pk0).t
  | 0 => by simp [vldN]
  | m + 1 => by
    have ih := vldN_zero (p := p) (m := m)
    simp only [vldN]
    constructor
    · intro h
      split at h
      · exact absurd h (by assumption)
      · rename_i h0
        split at h
        · cases h
        · split at h
          · cases h
          · rename_i h1 h2
            intro i hi
            by_cases e : i = m
            · subst e; exact ⟨h1, by omega⟩
            · exact ih.1 (by omega) i (by omega)
    · intro h
      have h0 := ih.2 fun i hi => h i (by omega)
      rw [if_neg (by omega), if_neg (h m (by omega)).1, if_neg (by have := (h m (by omega)).2; omega)]
/- a trace that is right -/
structure Vld (p : List Pk) : Prop where
  l : p.length ≤ 60
  g : ∀ i, i < p.length → ¬bad (p.getD i pk0)
  o : ∀ i, i < p.length → lst p i ≤ (p.getD i pk0).t
theorem vld_zero {p : List Pk} : vld p = 0 ↔ Vld p := by
  unfold vld
  constructor
  · intro h
    split at h
    · cases h
    · rename_i hl
      have := vldN_zero.1 h
      exact ⟨by omega, fun i hi => (this i hi).1, fun i hi => (this i hi).2⟩
  · rintro ⟨h1, h2, h3⟩
    rw [if_neg (by omega), vldN_zero]
    exact fun i hi => ⟨h2 i hi, h3 i hi⟩
theorem Vld.mem {p : List Pk} (h : Vld p) : ∀ x ∈ p, ¬bad x := fun x hx => by
  obtain ⟨i, hi, rfl⟩ := List.mem_iff_getElem.1 hx
  have := h.g i hi
  rwa [List.getD_eq_getElem?_getD, List.getElem?_eq_getElem hi] at this
theorem Vld.sml {p : List Pk} (h : Vld p) : Sml p := fun x hx => by
  have := h.mem x hx
  unfold bad at this; omega
/-! sums by ticks -/
def incL (u : Int) : List (Nat × Pk) → Int
  | [] => 0
  | x :: l => (if x.2.t + 1 = u then x.2.s else 0) + incL u l
theorem incL_app (u : Int) : ∀ a b : List (Nat × Pk), incL u (a ++ b) = incL u a + incL u b
  | [], b => by simp [incL]
  | x :: a, b => by simp only [List.cons_append, incL]; rw [incL_app]; omega
theorem incL_take (u : Int) {l : List (Nat × Pk)} {j : Nat} {x : Nat × Pk} (h : l[j]? = some x) : incL u (l.take (j + 1)) = incL u (l.take j) + if x.2.t + 1 = u then x.2.s else 0 := by
  obtain ⟨hj, e⟩ := List.getElem?_eq_some_iff.1 h
  rw [List.take_succ_eq_append_getElem hj, incL_app, e]
  simp [incL]
theorem bysL_inc (u : Int) : ∀ l : List (Nat × Pk), bysL (u + 1) l = bysL u l + incL (u + 1) l
  | [] => rfl
  | x :: l => by
    simp only [bysL, incL]
    rw [bysL_inc u l]
    split <;> split <;> split <;> omega
theorem bysL_zero : ∀ {l : List (Nat × Pk)}, (∀ x ∈ l, 0 ≤ x.2.t) → bysL 0 l = 0 ∧ incL 0 l = 0
  | [], _ => ⟨rfl, rfl⟩
  | x :: l, h => by
    have h1 := h x (by simp)
    have h2 := bysL_zero (l := l) fun y hy => h y (List.mem_cons_of_mem _ hy)
    simp only [bysL, incL]
    rw [if_neg (by omega), if_neg (by omega), h2.1, h2.2]; exact ⟨rfl, rfl⟩
theorem incL_bd {u : Int} : ∀ {l : List (Nat × Pk)}, (∀ x ∈ l, 0 ≤ x.2.s ∧ x.2.s ≤ 1000000) → 0 ≤ incL u l ∧ incL u l ≤ 1000000 * l.length
  | [], _ => by simp [incL]
  | x :: l, h => by
    have h1 := h x (by simp)
    have h2 := incL_bd (u := u) (l := l) fun y hy => h y (List.mem_cons_of_mem _ hy)
    simp only [incL, List.length_cons]
    split <;> (push_cast; omega)
theorem inc_bd {p : List Pk} {flow u : Int} (hs : Sml p) (j : Nat) : 0 ≤ incL u ((selN p flow p.length).take j) ∧ incL u ((selN p flow p.length).take j) ≤ 1000000 * p.length := by
  have h1 := incL_bd (u := u) (l := (selN p flow p.length).take j) fun x hx => hs x.2 (selN_mem (Nat.le_refl _) x (List.mem_of_mem_take hx)).2.2
  have h2 := selN_len p flow p.length
  have h3 : ((selN p flow p.length).take j).length ≤ p.length := by rw [List.length_take]; omega
  omega
open Go.Cv in
theorem vals_set {F : Nat → Int} {n k : Nat} (hk : k < n) (v : Int) : (vals F n).set k v = vals (fun u => if u = k then v else F u) n := by
  apply List.ext_getElem
  · simp [vals]
  · intro i h1 h2
    simp only [vals, List.getElem_set, List.getElem_map, List.getElem_range]
    by_cases e : k = i
    · subst e; simp
    · rw [if_neg e, if_neg (fun h => e h.symm)]
open Go.Cv in
theorem vals_congr {F G : Nat → Int} {n : Nat} (h : ∀ i, i < n → F i = G i) : vals F n = vals G n := by
  unfold vals
  exact List.map_congr_left fun i hi => h i (List.mem_range.1 hi)
end Go.Pk
end
section
namespace Go.St
/-! stable sorting, plainly -/
variable {α : Type}
def insR (k : α → Int) (x : α) : List α → List α
  | [] => [x]
  | y :: r => if k x < k y then y :: insR k x r else x :: y :: r
/- sorted, the last first -/
def srtR (k : α → Int) (l : List α) : List α := l.foldl (fun R x => insR k x R) []
def srt (k : α → Int) (l : List α) : List α := (srtR k l).reverse
theorem srtR_snoc (k : α → Int) (l : List α) (x : α) : srtR k (l ++ [x]) = insR k x (srtR k l) := by simp [srtR]
theorem insR_len (k : α → Int) (x : α) : ∀ R : List α, (insR k x R).length = R.length + 1
  | [] => rfl
  | y :: r => by simp only [insR]; split <;> simp [insR_len k x r]
theorem srtR_len (k : α → Int) (l : List α) : (srtR k l).length = l.length := by
  suffices h : ∀ (l R : List α), (l.foldl (fun R x => insR k x R) R).length = R.length + l.length by simpa [srtR] using h l []
  intro l
  induction l with
  | nil => simp
  | cons x l ih => intro R; simp only [List.foldl_cons, List.length_cons]; rw [ih, insR_len]; omega
theorem srt_len (k : α → Int) (l : List α) : (srt k l).length = l.length := by rw [srt, List.length_reverse, srtR_len]
theorem insR_app {k : α → Int} {x : α} : ∀ {R1 R2 : List α}, (∀ y ∈ R1, k x < k y) → insR k x (R1 ++ R2) = R1 ++ insR k x R2
  | [], _, _ => rfl
  | y :: r, R2, h => by
    simp only [List.cons_append, insR]
    rw [if_pos (h y (by simp)), insR_app fun z hz => h z (List.mem_cons_of_mem _ hz)]
/- where insertion stops -/
theorem insR_stop {k : α → Int} {x : α} {R : List α} {m : Nat} (h : ∀ y ∈ R.take m, k x < k y) (hs : ∀ y, R[m]? = some y → ¬k x < k y) : insR k x R = R.take m ++ x :: R.drop m := by
  have e : R = R.take m ++ R.drop m := (List.take_append_drop m R).symm
  rw [show insR k x R = insR k x (R.take m ++ R.drop m) by rw [← e], insR_app h]
  congr 1
  cases hd : R.drop m with
  | nil => rfl
  | cons y r =>
    have : R[m]? = some y := by
      have := congrArg (·[0]?) hd
      simpa [List.getElem?_drop] using this
    simp only [insR]
    rw [if_neg (hs y this)]
/- the list while x sinks -/
def lay (P R : List α) (x : α) (T : List α) (m : Nat) : List α := P ++ ((R.drop m).reverse ++ x :: ((R.take m).reverse ++ T))
theorem lay_zero (P R : List α) (x : α) (T : List α) : lay P R x T 0 = P ++ (R.reverse ++ x :: T) := by simp [lay]
theorem lay_len (P R : List α) (x : α) (T : List α) (m : Nat) : (lay P R x T m).length = P.length + R.length + 1 + T.length := by
  simp only [lay, List.length_append, List.length_reverse, List.length_cons, List.length_drop, List.length_take]; omega
theorem lay_step (P R : List α) (x : α) (T : List α) {m : Nat} (h : m < R.length) : ∃ A B y, R[m]? = some y ∧ A.length + 1 = P.length + (R.length - m) ∧ lay P R x T m = A ++ y :: x :: B ∧ lay P R x T (m + 1) = A ++ x :: y :: B := by
  refine ⟨P ++ (R.drop (m + 1)).reverse, (R.take m).reverse ++ T, R[m], List.getElem?_eq_getElem h, ?_, ?_, ?_⟩
  · simp only [List.length_append, List.length_reverse, List.length_drop]; omega
  · have e1 : (R.drop m).reverse = (R.drop (m + 1)).reverse ++ [R[m]] := by rw [List.drop_eq_getElem_cons h, List.reverse_cons]
    unfold lay
    rw [e1]
    simp only [List.append_assoc, List.cons_append, List.nil_append]
  · have e2 : (R.take (m + 1)).reverse = R[m] :: (R.take m).reverse := by rw [List.take_succ_eq_append_getElem h, List.reverse_append]; rfl
    unfold lay
    rw [e2]
    simp only [List.append_assoc, List.cons_append]
theorem lay_stop {k : α → Int} (P : List α) {R : List α} {x : α} (T : List α) {m : Nat} (h : ∀ y ∈ R.take m, k x < k y) (hs : ∀ y, R[m]? = some y → ¬k x < k y) : lay P R x T m = P ++ ((insR k x R).reverse ++ T) := by
  rw [insR_stop h hs, lay]; simp
/-! what sorting does -/
def Srt (k : α → Int) : List α → Prop
  | [] => True
  | x :: l => (∀ y ∈ l, k x ≤ k y) ∧ Srt k l
theorem insR_mem {k : α → Int} {x y : α} : ∀ {R : List α}, y ∈ insR k x R ↔ y = x ∨ y ∈ R
  | [] => by simp [insR]
  | z :: r => by
    simp only [insR]
    split
    · rw [List.mem_cons, List.mem_cons, insR_mem]
      constructor
      · rintro (rfl | rfl | h)
        · exact .inr (.inl rfl)
        · exact .inl rfl
        · exact .inr (.inr h)
      · rintro (rfl | rfl | h)
        · exact .inr (.inl rfl)
        · exact .inl rfl
        · exact .inr (.inr h)
    · rw [List.mem_cons]
theorem srtR_mem {k : α → Int} {y : α} (l : List α) : y ∈ srtR k l ↔ y ∈ l := by
  suffices h : ∀ (l R : List α), y ∈ l.foldl (fun R x => insR k x R) R ↔ y ∈ R ∨ y ∈ l by simpa [srtR] using h l []
  intro l
  induction l with
  | nil => simp
  | cons x l ih =>
    intro R
    simp only [List.foldl_cons, List.mem_cons]
    rw [ih, insR_mem]
    constructor
    · rintro ((h | h) | h)
      · exact .inr (.inl h)
      · exact .inl h
      · exact .inr (.inr h)
    · rintro (h | h | h)
      · exact .inl (.inr h)
      · exact .inl (.inl h)
      · exact .inr h
theorem srt_mem {k : α → Int} {y : α} {l : List α} : y ∈ srt k l ↔ y ∈ l := by rw [srt, List.mem_reverse, srtR_mem]
/- sorted downwards, the last first -/
def Dn (k : α → Int) : List α → Prop
  | [] => True
  | x :: l => (∀ y ∈ l, k y ≤ k x) ∧ Dn k l
theorem insR_dn {k : α → Int} {x : α} : ∀ {R : List α}, Dn k R → Dn k (insR k x R)
  | [], _ => ⟨by simp, trivial⟩
  | y :: r, h => by
    simp only [insR]
    split
    · rename_i hxy
      refine ⟨fun z hz => ?_, insR_dn h.2⟩
      rcases insR_mem.1 hz with rfl | hz
      · omega
      · exact h.1 z hz
    · rename_i hxy
      refine ⟨fun z hz => ?_, h⟩
      rcases List.mem_cons.1 hz with rfl | hz
      · omega
      · have := h.1 z hz; omega
theorem srtR_dn (k : α → Int) (l : List α) : Dn k (srtR k l) := by
  suffices h : ∀ (l R : List α), Dn k R → Dn k (l.foldl (fun R x => insR k x R) R) from h l [] trivial
  intro l
  induction l with
  | nil => exact fun _ h => h
  | cons x l ih => exact fun R h => ih _ (insR_dn h)
theorem srt_app_up {k : α → Int} : ∀ {a : List α} {x : α}, Srt k a → (∀ y ∈ a, k y ≤ k x) → Srt k (a ++ [x])
  | [], x, _, _ => ⟨by simp, trivial⟩
  | z :: a, x, h, hx => ⟨fun y hy => by
      rcases List.mem_append.1 hy with hy | hy
      · exact h.1 y hy
      · rw [List.mem_singleton.1 hy]; exact hx z (by simp), srt_app_up h.2 fun y hy => hx y (List.mem_cons_of_mem _ hy)⟩
theorem dn_rev {k : α → Int} : ∀ {R : List α}, Dn k R → Srt k R.reverse
  | [], _ => trivial
  | x :: r, h => by
    rw [List.reverse_cons]
    exact srt_app_up (dn_rev h.2) fun y hy => h.1 y (List.mem_reverse.1 hy)
theorem srt_sorted (k : α → Int) (l : List α) : Srt k (srt k l) := dn_rev (srtR_dn k l)
/- equal keys keep their order -/
theorem insR_filter {k : α → Int} {x : α} (t : Int) : ∀ {R : List α}, Dn k R → (insR k x R).filter (fun y => k y == t) = if k x = t then x :: R.filter (fun y => k y == t) else R.filter (fun y => k y == t)
  | [], _ => by simp only [insR, List.filter_cons, List.filter_nil]; by_cases h : k x = t <;> simp [h]
  | y :: r, h => by
    simp only [insR]
    split
    · rename_i hxy
      rw [List.filter_cons, insR_filter t h.2, List.filter_cons]
      by_cases hx : k x = t
      · rw [if_pos hx, if_pos hx]
        have hy : (k y == t) = false := by simp; omega
        rw [hy]; simp
      · rw [if_neg hx, if_neg hx]
    · rw [List.filter_cons]
      by_cases hx : k x = t
      · rw [if_pos hx, if_pos (by simp [hx])]
      · rw [if_neg hx, if_neg (by simp [hx])]
theorem srt_filter (k : α → Int) (t : Int) (l : List α) : (srt k l).filter (fun y => k y == t) = l.filter (fun y => k y == t) := by
  suffices h : ∀ (l R : List α), Dn k R → (l.foldl (fun R x => insR k x R) R).filter (fun y => k y == t) = (l.filter (fun y => k y == t)).reverse ++ R.filter (fun y => k y == t) by
    have := h l [] trivial
    rw [srt, List.filter_reverse, srtR, this]; simp
  intro l
  induction l with
  | nil => simp
  | cons x l ih =>
    intro R hR
    simp only [List.foldl_cons]
    rw [ih _ (insR_dn hR), insR_filter t hR, List.filter_cons]
    by_cases hx : k x = t
    · rw [if_pos hx, if_pos (by simp [hx])]; simp
    · rw [if_neg hx, if_neg (by simp [hx])]
/- what is sorted stays -/
theorem insR_top {k : α → Int} {x : α} {R : List α} (h : ∀ y ∈ R, k y ≤ k x) : insR k x R = x :: R := by
  cases R with
  | nil => rfl
  | cons y r => simp only [insR]; rw [if_neg (by have := h y (by simp); omega)]
theorem srt_self {k : α → Int} {l : List α} (h : Srt k l) : srt k l = l := by
  suffices h2 : ∀ (l R : List α), Srt k l → (∀ y ∈ R, ∀ x ∈ l, k y ≤ k x) → l.foldl (fun R x => insR k x R) R = l.reverse ++ R by
    have := h2 l [] h (by simp)
    rw [srt, srtR, this]; simp
  intro l
  induction l with
  | nil => simp
  | cons x l ih =>
    intro R hl hR
    simp only [List.foldl_cons]
    rw [insR_top fun y hy => hR y hy x (by simp), ih _ hl.2]
    · simp
    · intro y hy z hz
      rcases List.mem_cons.1 hy with rfl | hy
      · exact hl.1 z hz
      · exact hR y hy z (List.mem_cons_of_mem _ hz)
end Go.St
end
section
namespace Go.Pk
open Go.St
/-! traces that are made are right -/
abbrev ptm (x : Pk) : Int := x.t
theorem srt_get {k : Pk → Int} : ∀ {p : List Pk}, Srt k p → ∀ {i j : Nat}, i < j → j < p.length → k (p.getD i pk0) ≤ k (p.getD j pk0)
  | [], _, i, j, _, h => by simp at h
  | x :: p, h, 0, j + 1, _, hj => h.1 _ (by
      have : j < p.length := by simpa using hj
      show p.getD j pk0 ∈ p
      exact getD_memP this)
  | x :: p, h, i + 1, j + 1, hij, hj => srt_get (p := p) h.2 (i := i) (j := j) (by omega) (by simpa using hj)
theorem vld_of {p : List Pk} (hl : p.length ≤ 60) (hb : ∀ x ∈ p, ¬bad x) (hs : Srt ptm p) : Vld p := ⟨hl, fun i hi => hb _ (getD_memP hi), fun i hi => by
  cases i with
  | zero => have := hb _ (getD_memP hi); unfold bad at this; show (0 : Int) ≤ _; omega
  | succ i => exact srt_get hs (Nat.lt_succ_self i) hi⟩
/- each packet later -/
def late (d : Int) (p : List Pk) : List Pk := p.map fun x => ⟨x.f, x.t + d, x.s⟩
theorem late_len (d : Int) (p : List Pk) : (late d p).length = p.length := by simp [late]
def lt1 (d : Int) (x : Nat × Pk) : Nat × Pk := (x.1, ⟨x.2.f, x.2.t + d, x.2.s⟩)
theorem late_get (d : Int) {p : List Pk} {i : Nat} (h : i < p.length) : (late d p).getD i pk0 = ⟨(p.getD i pk0).f, (p.getD i pk0).t + d, (p.getD i pk0).s⟩ := by
  simp [late, List.getD_eq_getElem?_getD, h]
theorem selN_late (d : Int) (p : List Pk) (flow : Int) : ∀ i, i ≤ p.length → selN (late d p) flow i = (selN p flow i).map (lt1 d)
  | 0, _ => rfl
  | i + 1, h => by
    have e := late_get d (p := p) (i := i) (by omega)
    simp only [selN]
    rw [e, selN_late d p flow i (by omega)]
    by_cases hs : sel flow (p.getD i pk0)
    · rw [if_pos (show sel flow ⟨(p.getD i pk0).f, (p.getD i pk0).t + d, (p.getD i pk0).s⟩ from hs), if_pos hs]; simp [lt1]
    · rw [if_neg (show ¬sel flow ⟨(p.getD i pk0).f, (p.getD i pk0).t + d, (p.getD i pk0).s⟩ from hs), if_neg hs]
theorem bysL_late (d t : Int) : ∀ l : List (Nat × Pk), bysL (t + d) (l.map (lt1 d)) = bysL t l
  | [] => rfl
  | x :: l => by
    simp only [List.map_cons, bysL, lt1]
    rw [bysL_late]
    by_cases h : x.2.t < t
    · rw [if_pos (show x.2.t + d < t + d by omega), if_pos h]
    · rw [if_neg (show ¬x.2.t + d < t + d by omega), if_neg h]
theorem bys_late (d t : Int) (p : List Pk) (flow : Int) : bys (late d p) flow (t + d) = bys p flow t := by
  unfold bys; rw [late_len, selN_late d p flow _ (Nat.le_refl _), bysL_late]
/- the packets of one tick -/
def atT (t : Int) (l : List Pk) : List Pk := l.filter fun x => x.t == t
theorem atT_step (t : Int) {l : List Pk} {i : Nat} (h : i < l.length) : atT t (l.take (i + 1)) = if (l.getD i pk0).t = t then atT t (l.take i) ++ [l.getD i pk0] else atT t (l.take i) := by
  rw [List.take_succ_eq_append_getElem h]
  have e : l.getD i pk0 = l[i] := by simp [List.getD_eq_getElem?_getD, h]
  rw [e]
  unfold atT
  rw [List.filter_append]
  by_cases hx : l[i].t = t
  · rw [if_pos hx]; simp [hx]
  · rw [if_neg hx]; simp [hx]
theorem atT_len (t : Int) (l : List Pk) : (atT t l).length ≤ l.length := List.length_filter_le _ _
/- a mixed list -/
def mix (p : List Pk) (l : List Int) : List Pk := l.map fun i => p.getD i.toNat pk0
theorem mix_step (p : List Pk) {l : List Int} {i : Nat} (h : i < l.length) : mix p (l.take (i + 1)) = mix p (l.take i) ++ [p.getD (l.getD i 0).toNat pk0] := by
  have e : l.getD i 0 = l[i] := by simp [List.getD_eq_getElem?_getD, h]
  rw [List.take_succ_eq_append_getElem h, e, mix, List.map_append]; rfl
end Go.Pk
end
section
namespace Go.St
/-! merging in place, plainly -/
variable {α : Type}
theorem srt_app {k : α → Int} : ∀ {a b : List α}, Srt k (a ++ b) ↔ Srt k a ∧ Srt k b ∧ ∀ x ∈ a, ∀ y ∈ b, k x ≤ k y
  | [], b => by simp [Srt]
  | x :: a, b => by
    simp only [List.cons_append, Srt]
    rw [srt_app (a := a) (b := b)]
    constructor
    · rintro ⟨h1, h2, h3, h4⟩
      refine ⟨⟨fun y hy => h1 y (List.mem_append_left _ hy), h2⟩, h3, fun z hz y hy => ?_⟩
      rcases List.mem_cons.1 hz with rfl | hz
      · exact h1 y (List.mem_append_right _ hy)
      · exact h4 z hz y hy
    · rintro ⟨⟨h1, h2⟩, h3, h4⟩
      refine ⟨fun y hy => ?_, h2, h3, fun z hz => h4 z (List.mem_cons_of_mem _ hz)⟩
      rcases List.mem_append.1 hy with hy | hy
      · exact h1 y hy
      · exact h4 x (by simp) y hy
abbrev flt (k : α → Int) (t : Int) (l : List α) : List α := l.filter fun y => k y == t
theorem flt_cons (k : α → Int) (t : Int) (x : α) (l : List α) : flt k t (x :: l) = if k x = t then x :: flt k t l else flt k t l := by
  unfold flt; rw [List.filter_cons]
  by_cases h : k x = t <;> simp [h]
theorem flt_nil {k : α → Int} {t : Int} {l : List α} (h : ∀ x ∈ l, k x ≠ t) : flt k t l = [] := by
  unfold flt; rw [List.filter_eq_nil_iff]
  intro x hx; simpa using h x hx
theorem mem_flt {k : α → Int} {l : List α} {x : α} (h : x ∈ l) : x ∈ flt k (k x) l := by
  unfold flt; rw [List.mem_filter]; exact ⟨h, by simp⟩
theorem srt_uniq {k : α → Int} : ∀ {a b : List α}, Srt k a → Srt k b → (∀ t, flt k t a = flt k t b) → a = b
  | [], [], _, _, _ => rfl
  | [], y :: b, _, _, h => by
    have := h (k y); rw [flt_cons, if_pos rfl] at this; cases this
  | x :: a, [], _, _, h => by
    have := h (k x); rw [flt_cons, if_pos rfl] at this; cases this
  | x :: a, y :: b, ha, hb, h => by
    have e : k x = k y := by
      have h1 : k x ≤ k y := by
        have m : y ∈ x :: a := by
          have := h (k y)
          have m2 : y ∈ flt k (k y) (x :: a) := by rw [this]; exact mem_flt (by simp)
          exact (List.mem_filter.1 m2).1
        rcases List.mem_cons.1 m with rfl | m
        · exact Int.le_refl _
        · exact ha.1 y m
      have h2 : k y ≤ k x := by
        have m : x ∈ y :: b := by
          have := h (k x)
          have m2 : x ∈ flt k (k x) (y :: b) := by rw [← this]; exact mem_flt (by simp)
          exact (List.mem_filter.1 m2).1
        rcases List.mem_cons.1 m with rfl | m
        · exact Int.le_refl _
        · exact hb.1 x m
      omega
    have h1 := h (k x)
    rw [flt_cons, if_pos rfl, flt_cons, if_pos e.symm] at h1
    have e2 : x = y := (List.cons.inj h1).1
    subst e2
    congr 1
    refine srt_uniq ha.2 hb.2 fun t => ?_
    have := h t
    rw [flt_cons, flt_cons] at this
    split at this
    · exact (List.cons.inj this).2
    · exact this
theorem srt_flt (k : α → Int) (t : Int) (l : List α) : flt k t (srt k l) = flt k t l := srt_filter k t l
theorem eq_srt {k : α → Int} {a l : List α} (h1 : Srt k a) (h2 : ∀ t, flt k t a = flt k t l) : a = srt k l :=
  srt_uniq h1 (srt_sorted k l) fun t => by rw [h2, srt_flt]
theorem flt_app (k : α → Int) (t : Int) (a b : List α) : flt k t (a ++ b) = flt k t a ++ flt k t b := List.filter_append ..
/- the four parts of a merge -/
structure Quart (k : α → Int) (A1 A2 B1 B2 : List α) : Prop where
  a : Srt k (A1 ++ A2)
  b : Srt k (B1 ++ B2)
  lo : ∀ x ∈ A1, ∀ y ∈ B2, k x ≤ k y
  hi : ∀ y ∈ B1, ∀ x ∈ A2, k y < k x
theorem Quart.fl {k : α → Int} {A1 A2 B1 B2 : List α} (h : Quart k A1 A2 B1 B2) (t : Int) : flt k t ((A1 ++ B1) ++ (A2 ++ B2)) = flt k t ((A1 ++ A2) ++ (B1 ++ B2)) := by
  simp only [flt_app, List.append_assoc]
  congr 1
  rw [← List.append_assoc, ← List.append_assoc]
  congr 1
  by_cases e : flt k t B1 = []
  · rw [e]; simp
  · have : flt k t A2 = [] := flt_nil fun x hx hk => by
      obtain ⟨y, hy⟩ := List.exists_mem_of_ne_nil _ e
      have hy := List.mem_filter.1 hy
      have := h.hi y hy.1 x hx
      have e2 : k y = t := by simpa using hy.2
      omega
    rw [this]; simp
theorem Quart.eq {k : α → Int} {A1 A2 B1 B2 : List α} (h : Quart k A1 A2 B1 B2) : srt k (A1 ++ B1) ++ srt k (A2 ++ B2) = srt k ((A1 ++ A2) ++ (B1 ++ B2)) := by
  refine eq_srt ?_ fun t => ?_
  · rw [srt_app]
    refine ⟨srt_sorted _ _, srt_sorted _ _, fun x hx y hy => ?_⟩
    rw [srt_mem] at hx hy
    have ha := (srt_app.1 h.a).2.2
    have hb := (srt_app.1 h.b).2.2
    rcases List.mem_append.1 hx with hx | hx <;> rcases List.mem_append.1 hy with hy | hy
    · exact ha x hx y hy
    · exact h.lo x hx y hy
    · have := h.hi x hx y hy; omega
    · exact hb x hx y hy
  · rw [flt_app, srt_flt, srt_flt, ← flt_app, h.fl]
theorem srt_left {k : α → Int} {a : List α} (h : Srt k a) : srt k (a ++ []) = a := by rw [List.append_nil, srt_self h]
theorem Quart.done1 {k : α → Int} {A2 B1 B2 : List α} (h : Quart k [] A2 B1 B2) : srt k ([] ++ B1) = B1 := by
  rw [List.nil_append, srt_self (srt_app.1 h.b).1]
theorem Quart.done2 {k : α → Int} {A1 A2 B2 : List α} (h : Quart k A1 A2 [] B2) : srt k (A1 ++ []) = A1 := srt_left (srt_app.1 h.a).1
theorem Quart.done3 {k : α → Int} {A1 B1 B2 : List α} (h : Quart k A1 [] B1 B2) : srt k ([] ++ B2) = B2 := by
  rw [List.nil_append, srt_self (srt_app.1 h.b).2.1]
theorem Quart.done4 {k : α → Int} {A1 A2 B1 : List α} (h : Quart k A1 A2 B1 []) : srt k (A2 ++ []) = A2 := srt_left (srt_app.1 h.a).2.1
/- blocks of s that are sorted, below a -/
structure BlkTo (k : α → Int) (s a : Nat) (l : List α) : Prop where
  s : ∀ i j (hi : i < l.length) (hj : j < l.length), i < j → j < a → i / s = j / s → k l[i] ≤ k l[j]
theorem srt_getE {k : α → Int} : ∀ {l : List α}, Srt k l ↔ ∀ i j (hi : i < l.length) (hj : j < l.length), i < j → k l[i] ≤ k l[j]
  | [] => by simp [Srt]
  | x :: l => by
    simp only [Srt]
    rw [srt_getE (l := l)]
    constructor
    · rintro ⟨h1, h2⟩ i j hi hj hij
      cases j with
      | zero => omega
      | succ j =>
        cases i with
        | zero => exact h1 _ (List.getElem_mem _)
        | succ i => exact h2 i j (by simpa using hi) (by simpa using hj) (by omega)
    · intro h
      refine ⟨fun y hy => ?_, fun i j hi hj hij => h (i + 1) (j + 1) (by simpa using hi) (by simpa using hj) (by omega)⟩
      obtain ⟨j, hj, rfl⟩ := List.mem_iff_getElem.1 hy
      exact h 0 (j + 1) (by simp) (by simpa using hj) (by omega)
end Go.St
end
section
namespace Go.Pk
open Go.St Go.Cv
/-! whole packets, plainly -/
def smL (l : List Pk) : Nat → Int
  | 0 => 0
  | j + 1 => smL l j + (l.getD j pk0).s
def bsL (l : List Pk) (n : Int) : Nat → Int
  | 0 => 0
  | j + 1 => if smL l (j + 1) ≤ n then max (bsL l n j) (smL l (j + 1)) else bsL l n j
def msL (l : List Pk) : Nat → Int
  | 0 => 0
  | j + 1 => max (msL l j) (l.getD j pk0).s
def whl (l : List Pk) (n : Int) : Int := bsL l n l.length
theorem smL_bd {l : List Pk} (h : ∀ x ∈ l, 0 ≤ x.s ∧ x.s ≤ 1000000) : ∀ j, j ≤ l.length → 0 ≤ smL l j ∧ smL l j ≤ 1000000 * j
  | 0, _ => by simp [smL]
  | j + 1, hj => by
    have h1 := smL_bd h j (by omega)
    have h2 := h _ (getD_memP (l := l) (i := j) (by omega))
    simp only [smL]; push_cast; omega
theorem bsL_bd {l : List Pk} (h : ∀ x ∈ l, 0 ≤ x.s ∧ x.s ≤ 1000000) {n : Int} (hn : 0 ≤ n) : ∀ j, j ≤ l.length → 0 ≤ bsL l n j ∧ bsL l n j ≤ n ∧ bsL l n j ≤ smL l j
  | 0, _ => by simp [bsL, smL]; omega
  | j + 1, hj => by
    have h1 := bsL_bd h hn j (by omega)
    have h2 := h _ (getD_memP (l := l) (i := j) (by omega))
    have h3 : smL l (j + 1) = smL l j + (l.getD j pk0).s := rfl
    simp only [bsL]
    split <;> omega
theorem msL_bd {l : List Pk} : ∀ j, 0 ≤ msL l j
  | 0 => by simp [msL]
  | j + 1 => by have := msL_bd (l := l) j; simp only [msL]; omega
theorem bsL_low {l : List Pk} (h : ∀ x ∈ l, 0 ≤ x.s ∧ x.s ≤ 1000000) {n : Int} (hn : 0 ≤ n) : ∀ j, j ≤ l.length → bsL l n j = smL l j ∨ n - msL l j < bsL l n j
  | 0, _ => .inl rfl
  | j + 1, hj => by
    have h1 := bsL_low h hn j (by omega)
    have h2 := h _ (getD_memP (l := l) (i := j) (by omega))
    have h3 : smL l (j + 1) = smL l j + (l.getD j pk0).s := rfl
    have h4 := bsL_bd h hn j (by omega)
    have h5 : msL l (j + 1) = max (msL l j) (l.getD j pk0).s := rfl
    simp only [bsL]
    split <;> omega
theorem bsL_mono {l : List Pk} {n n' : Int} (hn : n ≤ n') : ∀ j, bsL l n j ≤ bsL l n' j
  | 0 => by simp [bsL]
  | j + 1 => by
    have h1 := bsL_mono (l := l) hn j
    simp only [bsL]
    split <;> split <;> omega
/-! arrays that are filled -/
def prt {α : Type} (l : List α) (k : Nat) (z : α) : List α := l.take k ++ List.replicate (l.length - k) z
theorem prt_len {α : Type} (l : List α) (k : Nat) (z : α) (h : k ≤ l.length) : (prt l k z).length = l.length := by
  simp only [prt, List.length_append, List.length_take, List.length_replicate]; omega
theorem prt_zero {α : Type} (l : List α) (z : α) : prt l 0 z = List.replicate l.length z := by simp [prt]
theorem prt_full {α : Type} (l : List α) (z : α) : prt l l.length z = l := by simp [prt]
theorem prt_set {α : Type} {l : List α} {k : Nat} {x : α} (z : α) (h : l[k]? = some x) : (prt l k z).set k x = prt l (k + 1) z := by
  obtain ⟨hk, e⟩ := List.getElem?_eq_some_iff.1 h
  have hl : (l.take k).length = k := by rw [List.length_take]; omega
  unfold prt
  rw [List.set_append_right _ _ (by omega), hl, Nat.sub_self, show l.length - k = l.length - (k + 1) + 1 by omega, List.replicate_succ, List.take_succ_eq_append_getElem hk, e]
  simp
theorem prt_get {α : Type} {l : List α} {k : Nat} (z : α) (h : k < l.length) : (prt l k z)[k]? = some z := by
  have hl : (l.take k).length = k := by rw [List.length_take]; omega
  unfold prt
  rw [List.getElem?_append_right (by omega), hl, Nat.sub_self, show l.length - k = l.length - (k + 1) + 1 by omega, List.replicate_succ]
  rfl
end Go.Pk
end
section
namespace Go.Pk
open Go.St Go.Cv
/-! sums that do not depend on the order -/
def sumA {α : Type} (f : α → Int) : List α → Int
  | [] => 0
  | x :: l => f x + sumA f l
theorem sumA_app {α : Type} (f : α → Int) : ∀ a b : List α, sumA f (a ++ b) = sumA f a + sumA f b
  | [], b => by simp [sumA]
  | x :: a, b => by simp only [List.cons_append, sumA]; rw [sumA_app]; omega
theorem sumA_insR {α : Type} (f : α → Int) (k : α → Int) (x : α) : ∀ R : List α, sumA f (insR k x R) = f x + sumA f R
  | [] => rfl
  | y :: r => by
    simp only [insR]
    split
    · simp only [sumA]; rw [sumA_insR f k x r]; omega
    · rfl
theorem sumA_srtR {α : Type} (f : α → Int) (k : α → Int) (l : List α) : sumA f (srtR k l) = sumA f l := by
  suffices h : ∀ (l R : List α), sumA f (l.foldl (fun R x => insR k x R) R) = sumA f R + sumA f l by
    have := h l []
    simpa [srtR, sumA] using this
  intro l
  induction l with
  | nil => intro R; simp [sumA]
  | cons x l ih => intro R; simp only [List.foldl_cons, sumA]; rw [ih, sumA_insR]; omega
theorem sumA_rev {α : Type} (f : α → Int) : ∀ l : List α, sumA f l.reverse = sumA f l
  | [] => rfl
  | x :: l => by rw [List.reverse_cons, sumA_app, sumA_rev f l]; simp only [sumA]; omega
theorem sumA_srt {α : Type} (f : α → Int) (k : α → Int) (l : List α) : sumA f (srt k l) = sumA f l := by rw [srt, sumA_rev, sumA_srtR]
theorem sumA_map {α β : Type} (f : β → Int) (g : α → β) : ∀ l : List α, sumA f (l.map g) = sumA (fun a => f (g a)) l
  | [] => rfl
  | x :: l => by simp only [List.map_cons, sumA]; rw [sumA_map f g l]
abbrev bef (t : Int) (x : Pk) : Int := if x.t < t then x.s else 0
theorem bys_all (q : List Pk) (t : Int) : bys q (-1) t = sumA (bef t) q := by
  suffices h : ∀ i, i ≤ q.length → bysL t (selN q (-1) i) = sumA (bef t) (q.take i) by
    have := h q.length (Nat.le_refl _)
    rw [List.take_length] at this; exact this
  intro i
  induction i with
  | zero => intro _; rfl
  | succ i ih =>
    intro hi
    obtain ⟨h1, _⟩ := selN_step q (-1) i
    rw [h1 (.inl rfl), bysL_app, ih (by omega), List.take_succ_eq_append_getElem (by omega), sumA_app]
    have e : q.getD i pk0 = q[i] := by simp [List.getD_eq_getElem?_getD, show i < q.length by omega]
    simp only [bysL, sumA, e, bef]
theorem srt_map {k : Pk → Int} {α : Type} {g : α → Pk} : ∀ {l : List α}, Srt (fun a => k (g a)) l → Srt k (l.map g)
  | [], _ => trivial
  | x :: l, h => ⟨fun y hy => by
      obtain ⟨z, hz, rfl⟩ := List.mem_map.1 hy
      exact h.1 z hz, srt_map h.2⟩
end Go.Pk
end
section
namespace Go.Pk
open Go.Cv Go.St
/-! traces that keep curves, plainly -/
/- sums that begin with 0, do not decrease, and grow at ticks in which packets arrive -/
structure Cum (A : Nat → Int) (p : List Pk) (N : Nat) : Prop where
  z : A 0 = 0
  m : ∀ t, A t ≤ A (t + 1)
  e : ∀ t, N ≤ t → A t = A N
  w : ∀ t : Nat, A (t + 1) ≠ A t → ∃ x ∈ p, x.t = (t : Int)
theorem Cum.mono {A : Nat → Int} {p : List Pk} {N : Nat} (h : Cum A p N) : ∀ {s t : Nat}, s ≤ t → A s ≤ A t := by
  intro s t hst
  induction t with
  | zero => rw [show s = 0 by omega]; exact Int.le_refl _
  | succ t ih =>
    by_cases e : s = t + 1
    · subst e; exact Int.le_refl _
    · have := ih (by omega); have := h.m t; omega
theorem Cum.nn {A : Nat → Int} {p : List Pk} {N : Nat} (h : Cum A p N) (t : Nat) : 0 ≤ A t := by
  have := h.mono (Nat.zero_le t); rw [h.z] at this; exact this
/- the first packet of a window -/
theorem Cum.first {A : Nat → Int} {p : List Pk} {N : Nat} (h : Cum A p N) : ∀ (d s : Nat), A (s + d) ≠ A s → ∃ u, s ≤ u ∧ u < s + d ∧ A u = A s ∧ ∃ x ∈ p, x.t = (u : Int)
  | 0, s, hn => absurd rfl hn
  | d + 1, s, hn => by
    by_cases e : A (s + 1) = A s
    · obtain ⟨u, h1, h2, h3, h4⟩ := h.first d (s + 1) (by rw [show s + 1 + d = s + (d + 1) by omega, e]; exact hn)
      exact ⟨u, by omega, by omega, by rw [h3, e], h4⟩
    · exact ⟨s, Nat.le_refl _, by omega, rfl, h.w s e⟩
/- a curve is kept -/
def Kp (A F : Nat → Int) (N : Nat) : Prop := ∀ s t, s < t → t ≤ N → A t - A s ≤ F (t - s)
theorem Kp.all {A F : Nat → Int} {p : List Pk} {N : Nat} (h : Cum A p N) (hF : ∀ t, 0 ≤ F t) (hm : ∀ {s t : Nat}, s ≤ t → F s ≤ F t) (hk : Kp A F N) (s t : Nat) (hst : s < t) : A t - A s ≤ F (t - s) := by
  by_cases h1 : t ≤ N
  · exact hk s t hst h1
  · rw [h.e t (by omega)]
    by_cases h2 : s < N
    · have := hk s N h2 (Nat.le_refl _)
      have := hm (s := N - s) (t := t - s) (by omega)
      omega
    · rw [h.e s (by omega)]; have := hF (t - s); omega
/-! the least curve that is kept -/
def vmx (A : Nat → Int) (N : Nat) (p : List Pk) : Nat → Nat → Int
  | 0, _ => 0
  | i + 1, k => if (p.getD i pk0).t.toNat + k ≤ N then max (vmx A N p i k) (A ((p.getD i pk0).t.toNat + k) - A (p.getD i pk0).t.toNat) else vmx A N p i k
def pmx (v : Nat → Int) : Nat → Int
  | 0 => v 0
  | k + 1 => max (v (k + 1)) (pmx v k)
def lst' (A : Nat → Int) (N : Nat) (p : List Pk) (t : Nat) : Int := pmx (vmx A N p p.length) (min t N)
theorem vmx_nn (A : Nat → Int) (N : Nat) (p : List Pk) : ∀ i k, 0 ≤ vmx A N p i k
  | 0, _ => Int.le_refl _
  | i + 1, k => by have := vmx_nn A N p i k; simp only [vmx]; split <;> omega
theorem vmx_ge {A : Nat → Int} {N : Nat} {p : List Pk} : ∀ {i j k : Nat}, j < i → (p.getD j pk0).t.toNat + k ≤ N → A ((p.getD j pk0).t.toNat + k) - A (p.getD j pk0).t.toNat ≤ vmx A N p i k
  | i + 1, j, k, hj, hk => by
    simp only [vmx]
    by_cases e : j = i
    · subst e; rw [if_pos hk]; omega
    · have := vmx_ge (A := A) (N := N) (p := p) (i := i) (j := j) (k := k) (by omega) hk
      split <;> omega
theorem vmx_le {A : Nat → Int} {N : Nat} {p : List Pk} {k : Nat} {G : Int} (h0 : 0 ≤ G) : ∀ {i : Nat}, (∀ j, j < i → (p.getD j pk0).t.toNat + k ≤ N → A ((p.getD j pk0).t.toNat + k) - A (p.getD j pk0).t.toNat ≤ G) → vmx A N p i k ≤ G
  | 0, _ => h0
  | i + 1, h => by
    have h1 := vmx_le (A := A) (N := N) (p := p) (k := k) h0 (i := i) fun j hj => h j (by omega)
    have h2 := h i (by omega)
    simp only [vmx]
    split
    · have := h2 (by assumption); omega
    · exact h1
theorem pmx_ge {v : Nat → Int} : ∀ {k j : Nat}, j ≤ k → v j ≤ pmx v k
  | 0, j, h => by rw [show j = 0 by omega]; exact Int.le_refl _
  | k + 1, j, h => by
    simp only [pmx]
    by_cases e : j = k + 1
    · subst e; omega
    · have := pmx_ge (v := v) (k := k) (j := j) (by omega); omega
theorem pmx_le {v : Nat → Int} {G : Int} : ∀ {k : Nat}, (∀ j, j ≤ k → v j ≤ G) → pmx v k ≤ G
  | 0, h => h 0 (Nat.le_refl _)
  | k + 1, h => by
    have h1 := pmx_le (v := v) (G := G) (k := k) fun j hj => h j (by omega)
    have h2 := h (k + 1) (Nat.le_refl _)
    simp only [pmx]; omega
theorem lst_nn (A : Nat → Int) (N : Nat) (p : List Pk) (t : Nat) : 0 ≤ lst' A N p t := by
  have h1 := vmx_nn A N p p.length 0
  have h2 := pmx_ge (v := vmx A N p p.length) (k := min t N) (j := 0) (Nat.zero_le _)
  unfold lst'; omega
theorem lst_mono (A : Nat → Int) (N : Nat) (p : List Pk) {s t : Nat} (h : s ≤ t) : lst' A N p s ≤ lst' A N p t :=
  pmx_le fun j hj => pmx_ge (by omega)
/- it is kept -/
theorem lst_ge {A : Nat → Int} {N : Nat} {p : List Pk} (h : Cum A p N) (hp : ∀ x ∈ p, 0 ≤ x.t) {s t : Nat} (hst : s ≤ t) : A t - A s ≤ lst' A N p (t - s) := by
  have key : ∀ t, s ≤ t → t ≤ N → A t - A s ≤ lst' A N p (t - s) := by
    intro t hst htN
    by_cases e : A t = A s
    · have := lst_nn A N p (t - s); omega
    · obtain ⟨u, h1, h2, h3, x, hx, hxu⟩ := h.first (t - s) s (by rw [show s + (t - s) = t by omega]; exact e)
      obtain ⟨j, hj, rfl⟩ := List.mem_iff_getElem.1 hx
      have hg : p.getD j pk0 = p[j] := by simp [List.getD_eq_getElem?_getD, hj]
      have h4 := vmx_ge (A := A) (N := N) (p := p) (i := p.length) (j := j) (k := t - u) hj (by rw [hg, hxu]; omega)
      rw [hg, hxu, Int.toNat_natCast, show u + (t - u) = t by omega, h3] at h4
      have h5 := pmx_ge (v := vmx A N p p.length) (k := min (t - s) N) (j := t - u) (by omega)
      unfold lst'; omega
  by_cases htN : t ≤ N
  · exact key t hst htN
  · rw [h.e t (by omega)]
    by_cases hsN : s ≤ N
    · have h1 := key N hsN (Nat.le_refl _)
      have h2 := lst_mono A N p (s := N - s) (t := t - s) (by omega)
      omega
    · rw [h.e s (by omega)]; have := lst_nn A N p (t - s); omega
/- and it is the least one -/
theorem lst_le {A G : Nat → Int} {N : Nat} {p : List Pk} (h0 : ∀ t, 0 ≤ G t) (hm : ∀ {s t : Nat}, s ≤ t → G s ≤ G t) (h : ∀ x ∈ p, ∀ k, x.t.toNat + k ≤ N → A (x.t.toNat + k) - A x.t.toNat ≤ G k) (t : Nat) : lst' A N p t ≤ G t := by
  refine pmx_le fun j hj => ?_
  have h1 := vmx_le (A := A) (N := N) (p := p) (k := j) (h0 j) (i := p.length) fun i hi hk => h _ (getD_memP hi) j hk
  have := hm (s := j) (t := t) (by omega)
  omega
theorem lst_sub {A : Nat → Int} {N : Nat} {p : List Pk} (h : Cum A p N) (hp : ∀ x ∈ p, 0 ≤ x.t) (s u : Nat) : lst' A N p (s + u) ≤ lst' A N p s + lst' A N p u := by
  have := lst_le (A := A) (N := N) (p := p) (G := fun t => lst' A N p (min t s) + lst' A N p (t - s)) (fun t => by
    have h1 := lst_nn A N p (min t s)
    have h2 := lst_nn A N p (t - s)
    omega) (fun {a b} hab => by
    have h1 := lst_mono A N p (s := min a s) (t := min b s) (by omega)
    have h2 := lst_mono A N p (s := a - s) (t := b - s) (by omega)
    show _ ≤ _; omega) (fun x hx k hk => by
    by_cases hks : k ≤ s
    · rw [show min k s = k by omega]
      have h1 := lst_ge h hp (s := x.t.toNat) (t := x.t.toNat + k) (by omega)
      rw [show x.t.toNat + k - x.t.toNat = k by omega] at h1
      have h2 := lst_nn A N p (k - s)
      omega
    · rw [show min k s = s by omega]
      have h1 := lst_ge h hp (s := x.t.toNat) (t := x.t.toNat + s) (by omega)
      have h2 := lst_ge h hp (s := x.t.toNat + s) (t := x.t.toNat + k) (by omega)
      rw [show x.t.toNat + s - x.t.toNat = s by omega] at h1
      rw [show x.t.toNat + k - (x.t.toNat + s) = k - s by omega] at h2
      omega) (s + u)
  rw [show min (s + u) s = s by omega, show s + u - s = u by omega] at this
  exact this
theorem kp_iff {A F : Nat → Int} {N : Nat} {p : List Pk} (h : Cum A p N) (hp : ∀ x ∈ p, 0 ≤ x.t) (hF : ∀ t, 0 ≤ F t) (hm : ∀ {s t : Nat}, s ≤ t → F s ≤ F t) {B : Nat} (hB : N ≤ B) : Kp A F N ↔ ∀ t, 1 ≤ t → t ≤ B → lst' A N p t ≤ F t := by
  constructor
  · intro hk t h1 _
    refine lst_le hF hm (fun x hx k hk2 => ?_) t
    by_cases e : k = 0
    · subst e; have := hF 0; simp; omega
    · have := hk x.t.toNat (x.t.toNat + k) (by omega) hk2
      rw [show x.t.toNat + k - x.t.toNat = k by omega] at this
      exact this
  · intro hk s t hst htN
    have h1 := lst_ge h hp (s := s) (t := t) (by omega)
    have h2 := hk (t - s) (by omega) (by omega)
    omega
/-! sums of a trace -/
def endN (p : List Pk) : Nat := match p.length with
  | 0 => 0
  | i + 1 => ((p.getD i pk0).t + 1).toNat
abbrev csm (p : List Pk) (flow : Int) (t : Nat) : Int := bys p flow t
theorem end_lt {p : List Pk} (hv : Vld p) : ∀ x ∈ p, 0 ≤ x.t ∧ x.t < endN p := by
  intro x hx
  have hb := hv.mem x hx
  unfold bad at hb
  refine ⟨by omega, ?_⟩
  obtain ⟨j, hj, rfl⟩ := List.mem_iff_getElem.1 hx
  have hg : p.getD j pk0 = p[j] := by simp [List.getD_eq_getElem?_getD, hj]
  obtain ⟨n, hn⟩ : ∃ n, p.length = n + 1 := ⟨p.length - 1, by omega⟩
  have hs : ∀ k, j ≤ k → k < p.length → (p.getD j pk0).t ≤ (p.getD k pk0).t := by
    intro k hjk hk
    induction k with
    | zero => rw [show j = 0 by omega]; exact Int.le_refl _
    | succ k ih =>
      by_cases e : j = k + 1
      · subst e; exact Int.le_refl _
      · have h1 := ih (by omega) (by omega)
        have h2 := hv.o (k + 1) hk
        simp only [lst] at h2
        omega
  have h1 := hs n (by omega) (by omega)
  unfold endN
  rw [hn]
  rw [hg] at h1
  dsimp only
  omega
theorem bysL_end {T : Int} : ∀ {l : List (Nat × Pk)}, (∀ x ∈ l, x.2.t < T) → ∀ t, T ≤ t → bysL t l = bysL T l
  | [], _, _, _ => rfl
  | x :: l, h, t, ht => by
    have h1 := h x (by simp)
    simp only [bysL]
    rw [if_pos (by omega), if_pos (by omega), bysL_end (fun y hy => h y (List.mem_cons_of_mem _ hy)) t ht]
theorem incL_mem {u : Int} : ∀ {l : List (Nat × Pk)}, incL u l ≠ 0 → ∃ x ∈ l, x.2.t + 1 = u
  | [], h => absurd rfl h
  | x :: l, h => by
    by_cases e : x.2.t + 1 = u
    · exact ⟨x, by simp, e⟩
    · simp only [incL] at h
      rw [if_neg e, Int.zero_add] at h
      obtain ⟨y, hy, he⟩ := incL_mem h
      exact ⟨y, List.mem_cons_of_mem _ hy, he⟩
theorem csm_cum {p : List Pk} (hv : Vld p) (flow : Int) : Cum (csm p flow) p (endN p) := by
  have hm := fun x hx => (selN_mem (p := p) (flow := flow) (Nat.le_refl _) x hx).2.2
  have he := end_lt hv
  refine ⟨?_, fun t => ?_, fun t ht => ?_, fun t hn => ?_⟩
  · exact (bysL_zero fun x hx => (he _ (hm x hx)).1).1
  · show bysL _ _ ≤ bysL _ _
    push_cast
    rw [bysL_inc]
    have := (incL_bd (u := (t : Int) + 1) (l := selN p flow p.length) fun x hx => hv.sml _ (hm x hx)).1
    omega
  · exact bysL_end (fun x hx => (he _ (hm x hx)).2) _ (by omega)
  · have h1 : bysL ((t : Int) + 1) (selN p flow p.length) ≠ bysL t (selN p flow p.length) := by
      have : csm p flow (t + 1) = bysL ((t : Int) + 1) (selN p flow p.length) := by show bysL _ _ = _; push_cast; rfl
      rw [← this]; exact hn
    rw [bysL_inc] at h1
    obtain ⟨x, hx, e⟩ := incL_mem (u := (t : Int) + 1) (l := selN p flow p.length) (by omega)
    exact ⟨x.2, hm x hx, by omega⟩
end Go.Pk
end
section
namespace Go.Pk
open Go.Cv Go.St
/-! the least curve of a trace -/
abbrev lsF (p : List Pk) (flow : Int) : Nat → Int := lst' (csm p flow) (endN p) p
theorem lsF_mono (p : List Pk) (flow : Int) : Mono (lsF p flow) := fun t => lst_mono _ _ _ (Nat.le_succ t)
theorem lsF_per (p : List Pk) (flow : Int) : Per (lsF p flow) (endN p) 1 0 := by
  intro t ht
  show lst' _ _ _ (t + 1) = lst' _ _ _ t + 0
  unfold lst'
  rw [show min (t + 1) (endN p) = min t (endN p) by omega, Int.add_zero]
theorem csm_bd {p : List Pk} (hv : Vld p) (flow : Int) (t : Nat) : 0 ≤ csm p flow t ∧ csm p flow t ≤ 60000000 := by
  have h1 := sel_bd (flow := flow) (t := (t : Int)) hv.sml (selN p flow p.length).length
  rw [List.take_length] at h1
  have h2 := hv.l
  show 0 ≤ bysL _ _ ∧ bysL _ _ ≤ _
  omega
theorem lsF_le {p : List Pk} (hv : Vld p) (flow : Int) (t : Nat) : 0 ≤ lsF p flow t ∧ lsF p flow t ≤ 60000000 := by
  refine ⟨lst_nn _ _ _ _, ?_⟩
  refine lst_le (G := fun _ => 60000000) (fun _ => by decide) (fun _ => Int.le_refl _) (fun x hx k _ => ?_) t
  have h1 := csm_bd hv flow (x.t.toNat + k)
  have h2 := csm_bd hv flow x.t.toNat
  omega
theorem ptimes {p : List Pk} (hv : Vld p) : ∀ x ∈ p, 0 ≤ x.t := fun x hx => (end_lt hv x hx).1
/- later traces have the same least curves -/
theorem lsF_late {p : List Pk} (hv : Vld p) {d : Nat} (hq : Vld (late d p)) (flow : Int) : lsF (late d p) flow = lsF p flow := by
  have e : ∀ t : Nat, csm (late d p) flow (t + d) = csm p flow t := fun t => by
    show bys (late d p) flow ((t + d : Nat) : Int) = bys p flow t
    push_cast
    exact bys_late d t p flow
  funext t
  apply Int.le_antisymm
  · refine lst_le (fun t => lst_nn _ _ _ _) (fun h => lst_mono _ _ _ h) (fun y hy k _ => ?_) t
    obtain ⟨x, hx, rfl⟩ := List.mem_map.1 hy
    have h0 := ptimes hv x hx
    dsimp only
    rw [show (x.t + (d : Int)).toNat + k = x.t.toNat + k + d by omega, show (x.t + (d : Int)).toNat = x.t.toNat + d by omega, e, e]
    have := lst_ge (csm_cum hv flow) (ptimes hv) (s := x.t.toNat) (t := x.t.toNat + k) (by omega)
    rwa [show x.t.toNat + k - x.t.toNat = k by omega] at this
  · refine lst_le (fun t => lst_nn _ _ _ _) (fun h => lst_mono _ _ _ h) (fun x hx k _ => ?_) t
    have := lst_ge (csm_cum hq flow) (ptimes hq) (s := x.t.toNat + d) (t := x.t.toNat + k + d) (by omega)
    rwa [e, e, show x.t.toNat + k + d - (x.t.toNat + d) = k by omega] at this
theorem kp_late {p : List Pk} (hv : Vld p) {d : Nat} (hq : Vld (late d p)) (flow : Int) {F : Nat → Int} (hF : ∀ t, 0 ≤ F t) (hm : ∀ {s t : Nat}, s ≤ t → F s ≤ F t) : Kp (csm (late d p) flow) F (endN (late d p)) ↔ Kp (csm p flow) F (endN p) := by
  rw [kp_iff (csm_cum hv flow) (ptimes hv) hF hm (B := max (endN p) (endN (late d p))) (by omega), kp_iff (csm_cum hq flow) (ptimes hq) hF hm (B := max (endN p) (endN (late d p))) (by omega)]
  have := lsF_late hv hq flow
  rw [show lst' (csm (late d p) flow) (endN (late d p)) (late d p) = lst' (csm p flow) (endN p) p from this]
/- all flows together -/
theorem csm_sum {p : List Pk} (hf : ∀ x ∈ p, 0 ≤ x.f ∧ x.f < 3) (t : Nat) : csm p (-1) t = csm p 0 t + csm p 1 t + csm p 2 t := by
  suffices h : ∀ i, i ≤ p.length → bysL t (selN p (-1) i) = bysL t (selN p 0 i) + bysL t (selN p 1 i) + bysL t (selN p 2 i) from h _ (Nat.le_refl _)
  intro i
  induction i with
  | zero => intro _; rfl
  | succ i ih =>
    intro hi
    have h0 := hf _ (getD_memP (l := p) (i := i) (by omega))
    have ih := ih (by omega)
    have a1 := (selN_step p (-1) i).1 (.inl rfl)
    rw [a1, bysL_app, ih]
    have b : ∀ f : Int, 0 ≤ f → bysL t (selN p f (i + 1)) = bysL t (selN p f i) + if (p.getD i pk0).f = f then bysL t [(i, p.getD i pk0)] else 0 := fun f hf0 => by
      by_cases e : (p.getD i pk0).f = f
      · rw [(selN_step p f i).1 (.inr ⟨e, hf0⟩), bysL_app, if_pos e]
      · rw [(selN_step p f i).2 (fun h => by rcases h with h | h; omega; exact e h.1), if_neg e, Int.add_zero]
    rw [b 0 (by omega), b 1 (by omega), b 2 (by omega)]
    generalize bysL t [(i, p.getD i pk0)] = B
    have h3 : (p.getD i pk0).f = 0 ∨ (p.getD i pk0).f = 1 ∨ (p.getD i pk0).f = 2 := by omega
    rcases h3 with h3 | h3 | h3 <;> rw [h3] <;> simp <;> omega
theorem kp_sum {p : List Pk} (hv : Vld p) (hf : ∀ x ∈ p, 0 ≤ x.f ∧ x.f < 3) {F : Nat → Int} (hF : ∀ t, lsF p 0 t + lsF p 1 t + lsF p 2 t ≤ F t) : Kp (csm p (-1)) F (endN p) := by
  intro s t hst _
  rw [csm_sum hf, csm_sum hf]
  have h0 := lst_ge (csm_cum hv 0) (ptimes hv) (s := s) (t := t) (by omega)
  have h1 := lst_ge (csm_cum hv 1) (ptimes hv) (s := s) (t := t) (by omega)
  have h2 := lst_ge (csm_cum hv 2) (ptimes hv) (s := s) (t := t) (by omega)
  have h3 := hF (t - s)
  unfold lsF at h3
  omega
end Go.Pk
end
section
namespace Go.Pk
open Go.Cv Go.St
/-! the earliest tick of one packet more, plainly -/
def srch (f : C3) (v : Int) : Nat → Nat → Option Nat
  | 0, _ => none
  | n + 1, k => if v ≤ cv f k then some k else srch f v n (k + 1)
theorem srch_some {f : C3} {v : Int} : ∀ {n k j : Nat}, k ≤ j → j < k + n → v ≤ cv f j → (∀ i, k ≤ i → i < j → cv f i < v) → srch f v n k = some j
  | 0, k, j, h1, h2, _, _ => by omega
  | n + 1, k, j, h1, h2, h3, h4 => by
    simp only [srch]
    by_cases e : k = j
    · subst e; rw [if_pos h3]
    · have := h4 k (Nat.le_refl _) (by omega)
      rw [if_neg (by omega)]
      exact srch_some (by omega) (by omega) h3 fun i hi hij => h4 i (by omega) hij
theorem srch_none {f : C3} {v : Int} (h : ∀ i, cv f i < v) : ∀ n k, srch f v n k = none
  | 0, _ => rfl
  | n + 1, k => by
    have := h k
    simp only [srch]; rw [if_neg (by omega)]; exact srch_none h n _
/- the least tick with a value -/
def rch (f : C3) (v : Int) : Option Nat := srch f v 1000000000 0
theorem rch_some {f : C3} {v : Int} {j : Nat} (hj : j < 1000000000) (h1 : v ≤ cv f j) (h2 : ∀ i, i < j → cv f i < v) : rch f v = some j :=
  srch_some (Nat.zero_le _) (by omega) h1 fun i _ hi => h2 i hi
theorem rch_none {f : C3} {v : Int} (h : ∀ i, cv f i < v) : rch f v = none := srch_none h _ _
def erl (f : C3) : List (Int × Int) → Int → Int → Option Int
  | [], _, t => some t
  | x :: r, sum, t => match rch f (sum + x.2) with
    | none => none
    | some k => erl f r (sum + x.2) (max (max t x.1) (x.1 + k - 1))
def ear (f : C3) (R : List (Int × Int)) (t s : Int) : Option Int := if cv f 1 < s then none else erl f R s t
/- packets that are shaped -/
def mine (flow : Int) (x : Pk) : Prop := flow = -1 ∨ x.f = flow
instance (flow : Int) (x : Pk) : Decidable (mine flow x) := inferInstanceAs (Decidable (_ ∨ _))
def shN (f : C3) (flow : Int) (p : List Pk) : Nat → Option (List (Int × Int) × List Pk)
  | 0 => some ([], [])
  | i + 1 => match shN f flow p i with
    | none => none
    | some (R, o) => if mine flow (p.getD i pk0) then
        match ear f R (p.getD i pk0).t (p.getD i pk0).s with
        | none => none
        | some t => if 2000 < t then none else some ((t, (p.getD i pk0).s) :: R, o ++ [⟨(p.getD i pk0).f, t, (p.getD i pk0).s⟩])
      else some (R, o ++ [p.getD i pk0])
/- greedy packets -/
def grN (f : C3) (size ticks : Int) : Nat → List (Int × Int)
  | 0 => []
  | i + 1 => match ear f (grN f size ticks i) 0 size with
    | none => grN f size ticks i
    | some t => if ticks < t then grN f size ticks i else (t, size) :: grN f size ticks i
theorem grN_stop {f : C3} {size ticks : Int} {i : Nat} (h : grN f size ticks (i + 1) = grN f size ticks i) : ∀ j, i ≤ j → grN f size ticks j = grN f size ticks i := by
  intro j hj
  induction j with
  | zero => rw [show i = 0 by omega]
  | succ j ih =>
    by_cases e : i = j + 1
    · subst e; rfl
    · have ih := ih (by omega)
      have : grN f size ticks (j + 1) = grN f size ticks (i + 1) := by simp only [grN]; rw [ih]
      rw [this, h]
abbrev exC : C3 := ([0, 10, 12], 1, 2)
abbrev exQ : List Pk := [⟨0, 0, 6⟩, ⟨0, 0, 6⟩]
theorem exSh : shN exC 0 exQ 2 = some ([(1, 6), (0, 6)], [⟨0, 0, 6⟩, ⟨0, 1, 6⟩]) := by rfl
theorem exGr : grN exC 6 10 60 = [(10, 6), (7, 6), (4, 6), (1, 6), (0, 6)] := by decide +kernel
end Go.Pk
end
section
namespace Go.Pk
open Go.Cv Go.St
theorem shN_step {f : C3} {flow : Int} {p : List Pk} {i : Nat} {R : List (Int × Int)} {o : List Pk} (h : shN f flow p i = some (R, o)) :
    (¬mine flow (p.getD i pk0) → shN f flow p (i + 1) = some (R, o ++ [p.getD i pk0])) ∧
    (mine flow (p.getD i pk0) → ear f R (p.getD i pk0).t (p.getD i pk0).s = none → shN f flow p (i + 1) = none) ∧
    (∀ u, mine flow (p.getD i pk0) → ear f R (p.getD i pk0).t (p.getD i pk0).s = some u → 2000 < u → shN f flow p (i + 1) = none) ∧
    (∀ u, mine flow (p.getD i pk0) → ear f R (p.getD i pk0).t (p.getD i pk0).s = some u → ¬2000 < u → shN f flow p (i + 1) = some ((u, (p.getD i pk0).s) :: R, o ++ [⟨(p.getD i pk0).f, u, (p.getD i pk0).s⟩])) := by
  refine ⟨fun h1 => ?_, fun h1 h2 => ?_, fun u h1 h2 h3 => ?_, fun u h1 h2 h3 => ?_⟩
  · simp only [shN, h]; rw [if_neg h1]
  · simp only [shN, h, h2]; rw [if_pos h1]
  · simp only [shN, h, h2]; rw [if_pos h1, if_pos h3]
  · simp only [shN, h, h2]; rw [if_pos h1, if_neg h3]
theorem shN_none {f : C3} {flow : Int} {p : List Pk} {i : Nat} (h : shN f flow p i = none) : ∀ j, i ≤ j → shN f flow p j = none := by
  intro j hj
  induction j with
  | zero => rw [show i = 0 by omega] at h; exact h
  | succ j ih =>
    by_cases e : i = j + 1
    · subst e; exact h
    · simp only [shN, ih (by omega)]
/- a trace whose first packets are shaped -/
def shO (p o : List Pk) : List Pk := o ++ p.drop o.length
theorem shO_len {p o : List Pk} (h : o.length ≤ p.length) : (shO p o).length = p.length := by
  simp only [shO, List.length_append, List.length_drop]; omega
theorem shO_keep {p o : List Pk} (h : o.length < p.length) : shO p (o ++ [p.getD o.length pk0]) = shO p o := by
  have e : p.getD o.length pk0 = p[o.length] := by simp [List.getD_eq_getElem?_getD, h]
  unfold shO
  rw [e, List.length_append, List.length_singleton, List.append_assoc, List.singleton_append, ← List.drop_eq_getElem_cons h]
theorem shO_get {p o : List Pk} (h : o.length < p.length) : (shO p o)[o.length]? = some (p.getD o.length pk0) := by
  have e : p.getD o.length pk0 = p[o.length] := by simp [List.getD_eq_getElem?_getD, h]
  unfold shO
  rw [List.getElem?_append_right (Nat.le_refl _), Nat.sub_self, List.drop_eq_getElem_cons h, e]; rfl
theorem shO_set {p o : List Pk} (h : o.length < p.length) (y : Pk) : (shO p o).set o.length y = shO p (o ++ [y]) := by
  unfold shO
  rw [List.set_append_right _ _ (Nat.le_refl _), Nat.sub_self, List.drop_eq_getElem_cons h, List.length_append, List.length_singleton, List.append_assoc]
  rfl
theorem shO_full {p o : List Pk} (h : o.length = p.length) : shO p o = o := by
  unfold shO; rw [h, List.drop_length, List.append_nil]
theorem sumA_take {α : Type} (g : α → Int) {l : List α} {i : Nat} (h : i < l.length) : sumA g (l.take (i + 1)) = sumA g (l.take i) + g l[i] := by
  rw [List.take_succ_eq_append_getElem h, sumA_app]; simp [sumA]
theorem sumA_nn {α : Type} (g : α → Int) {l : List α} (h : ∀ x ∈ l, 0 ≤ g x) : 0 ≤ sumA g l := by
  induction l with
  | nil => exact Int.le_refl _
  | cons x l ih => have := ih fun y hy => h y (List.mem_cons_of_mem _ hy); have := h x (by simp); simp only [sumA]; omega
theorem sumA_take_le {α : Type} (g : α → Int) {l : List α} (h : ∀ x ∈ l, 0 ≤ g x) (i : Nat) : sumA g (l.take i) ≤ sumA g l := by
  have := sumA_app g (l.take i) (l.drop i)
  rw [List.take_append_drop] at this
  have := sumA_nn g (l := l.drop i) fun x hx => h x (List.mem_of_mem_drop hx)
  omega
end Go.Pk
end
section
namespace Go.Pk
open Go.Cv Go.St
/-! what is let through keeps the curve, plainly -/
theorem srch_spec {f : C3} {v : Int} : ∀ {n k j : Nat}, srch f v n k = some j → v ≤ cv f j ∧ ∀ i, k ≤ i → i < j → cv f i < v
  | 0, _, _, h => by cases h
  | n + 1, k, j, h => by
    simp only [srch] at h
    split at h
    · cases h; exact ⟨by assumption, fun i h1 h2 => by omega⟩
    · obtain ⟨h1, h2⟩ := srch_spec h
      refine ⟨h1, fun i hi hij => ?_⟩
      by_cases e : i = k
      · subst e; omega
      · exact h2 i (by omega) hij
theorem rch_spec {f : C3} {v : Int} {k : Nat} (h : rch f v = some k) : v ≤ cv f k ∧ ∀ i, i < k → cv f i < v := by
  obtain ⟨h1, h2⟩ := srch_spec h
  exact ⟨h1, fun i hi => h2 i (Nat.zero_le _) hi⟩
/- the sizes of the last packets -/
def sm (R : List (Int × Int)) (m : Nat) : Int := sumA (fun y : Int × Int => y.2) (R.take m)
theorem sm_cons (y : Int × Int) (R : List (Int × Int)) (m : Nat) : sm (y :: R) (m + 1) = y.2 + sm R m := rfl
abbrev g0 : Int × Int := (0, 0)
theorem erl_facts {f : C3} : ∀ {R : List (Int × Int)} {sum t u : Int}, erl f R sum t = some u →
    t ≤ u ∧ (∀ m, m < R.length → (R.getD m g0).1 ≤ u ∧ ∃ k, rch f (sum + sm R (m + 1)) = some k ∧ (R.getD m g0).1 + k - 1 ≤ u) ∧
    (u = t ∨ ∃ m, m < R.length ∧ (u = (R.getD m g0).1 ∨ ∃ k, rch f (sum + sm R (m + 1)) = some k ∧ u = (R.getD m g0).1 + k - 1)) ∧
    ∀ t', t ≤ t' → t' ≤ u → erl f R sum t' = some u
  | [], sum, t, u, h => by
    simp only [erl] at h; cases h
    exact ⟨Int.le_refl _, fun m hm => by simp at hm, .inl rfl, fun t' h1 h2 => by simp only [erl]; congr 1; omega⟩
  | y :: R, sum, t, u, h => by
    simp only [erl] at h
    cases hr : rch f (sum + y.2) with
    | none => rw [hr] at h; cases h
    | some k =>
      rw [hr] at h
      obtain ⟨h1, h2, h3, h4⟩ := erl_facts (R := R) h
      have e0 : sum + sm (y :: R) 1 = sum + y.2 := by rw [show (1 : Nat) = 0 + 1 from rfl, sm_cons]; simp [sm, sumA]
      have es : ∀ m, sum + sm (y :: R) (m + 1 + 1) = sum + y.2 + sm R (m + 1) := fun m => by rw [sm_cons]; omega
      refine ⟨by omega, fun m hm => ?_, ?_, fun t' ht1 ht2 => ?_⟩
      · cases m with
        | zero => exact ⟨by show y.1 ≤ u; omega, k, by rw [e0]; exact hr, by show y.1 + k - 1 ≤ u; omega⟩
        | succ m =>
          obtain ⟨g1, j, g2, g3⟩ := h2 m (by simpa using hm)
          exact ⟨g1, j, by rw [es]; exact g2, g3⟩
      · rcases h3 with h3 | ⟨m, hm, h3⟩
        · have : u = t ∨ u = y.1 ∨ u = y.1 + k - 1 := by omega
          rcases this with h | h | h
          · exact .inl h
          · exact .inr ⟨0, by simp, .inl h⟩
          · exact .inr ⟨0, by simp, .inr ⟨k, by rw [e0]; exact hr, h⟩⟩
        · refine .inr ⟨m + 1, by simpa using hm, ?_⟩
          rcases h3 with h3 | ⟨j, h3, h5⟩
          · exact .inl h3
          · exact .inr ⟨j, by rw [es]; exact h3, h5⟩
      · simp only [erl, hr]
        clear h2 h3
        exact h4 _ (by omega) (by omega)
/- packets that keep a curve pair by pair, the last first -/
def Par (f : C3) : List (Int × Int) → Prop
  | [] => True
  | y :: R => y.2 ≤ cv f 1 ∧ (∀ m, m < R.length → (R.getD m g0).1 ≤ y.1 ∧ y.2 + sm R (m + 1) ≤ cv f (y.1 - (R.getD m g0).1 + 1).toNat) ∧ Par f R
/- packets that would not be later -/
def Idm (f : C3) : List (Int × Int) → Prop
  | [] => True
  | y :: R => ear f R y.1 y.2 = some y.1 ∧ Idm f R
theorem Idm.app {f : C3} : ∀ {A B : List (Int × Int)}, Idm f (A ++ B) → Idm f B
  | [], _, h => h
  | _ :: A, _, h => Idm.app (A := A) h.2
theorem ear_facts {f : C3} {R : List (Int × Int)} {t s u : Int} (h : ear f R t s = some u) : s ≤ cv f 1 ∧ erl f R s t = some u := by
  unfold ear at h
  split at h
  · cases h
  · exact ⟨by omega, h⟩
theorem ear_par {f : C3} (vf : VC f) {R : List (Int × Int)} {t s u : Int} (h : ear f R t s = some u) (hp : Par f R) : Par f ((u, s) :: R) := by
  obtain ⟨h1, h2⟩ := ear_facts h
  obtain ⟨_, h3, _, _⟩ := erl_facts h2
  refine ⟨h1, fun m hm => ?_, hp⟩
  obtain ⟨g1, k, g2, g3⟩ := h3 m hm
  have g4 := (rch_spec g2).1
  have g5 := vf.cvle (s := k) (t := (u - (R.getD m g0).1 + 1).toNat) (by omega)
  exact ⟨g1, by show s + _ ≤ cv f (u - _ + 1).toNat; omega⟩
theorem ear_idm {f : C3} {R : List (Int × Int)} {t s u : Int} (h : ear f R t s = some u) : ear f R u s = some u := by
  obtain ⟨h1, h2⟩ := ear_facts h
  obtain ⟨h3, _, _, h4⟩ := erl_facts h2
  unfold ear
  rw [if_neg (by omega)]
  exact h4 u h3 (Int.le_refl _)
/-! sums of windows -/
def befR (t : Int) (y : Int × Int) : Int := if y.1 < t then y.2 else 0
theorem befR_lt {t : Int} {y : Int × Int} (h : y.1 < t) : befR t y = y.2 := if_pos h
theorem befR_ge {t : Int} {y : Int × Int} (h : ¬y.1 < t) : befR t y = 0 := if_neg h
theorem befR_le {t : Int} {y : Int × Int} (h : 0 ≤ y.2) : befR t y ≤ y.2 := by unfold befR; split <;> omega
theorem befR_sum {t : Int} : ∀ {R : List (Int × Int)}, (∀ y ∈ R, 0 ≤ y.2) → sumA (befR t) R ≤ sumA (fun y : Int × Int => y.2) R
  | [], _ => Int.le_refl _
  | y :: R, h => by
    have h1 := befR_le (t := t) (h y (by simp))
    have h2 := befR_sum (t := t) (R := R) fun z hz => h z (List.mem_cons_of_mem _ hz)
    simp only [sumA]; omega
theorem win_pre {s : Int} : ∀ {R : List (Int × Int)}, (∀ m, m + 1 < R.length → (R.getD (m + 1) g0).1 ≤ (R.getD m g0).1) → (∀ y ∈ R, 0 ≤ y.2) →
    ∃ m, m ≤ R.length ∧ sumA (fun y : Int × Int => y.2) R - sumA (befR s) R = sm R m ∧ (m = 0 ∨ s ≤ (R.getD (m - 1) g0).1)
  | [], _, _ => ⟨0, Nat.le_refl _, rfl, .inl rfl⟩
  | y :: R, h, h0 => by
    obtain ⟨m, h1, h2, h3⟩ := win_pre (s := s) (R := R) (fun m hm => h (m + 1) (by simpa using hm)) (fun z hz => h0 z (List.mem_cons_of_mem _ hz))
    by_cases hy : y.1 < s
    · refine ⟨0, Nat.zero_le _, ?_, .inl rfl⟩
      have hm0 : m = 0 := by
        rcases h3 with h3 | h3
        · exact h3
        · by_cases e : m = 0
          · exact e
          · exfalso
            have hle : ∀ j, j < R.length → (R.getD j g0).1 ≤ y.1 := by
              intro j
              induction j with
              | zero => intro hj; exact h 0 (by simpa using hj)
              | succ j ih => intro hj; have := ih (by omega); have := h (j + 1) (by simpa using hj); have e2 : (R.getD (j + 1) g0).1 ≤ (R.getD j g0).1 := this; omega
            have := hle (m - 1) (by omega)
            omega
      subst hm0
      simp only [sumA]
      rw [befR_lt hy]
      have : sm R 0 = 0 := rfl
      have e : sm (y :: R) 0 = 0 := rfl
      rw [e]; omega
    · refine ⟨m + 1, by simpa using h1, ?_, .inr ?_⟩
      · rw [sm_cons]
        simp only [sumA]
        rw [befR_ge hy]
        omega
      · cases m with
        | zero => show s ≤ y.1; omega
        | succ m =>
          rcases h3 with h3 | h3
          · omega
          · exact h3
theorem Par.dec {f : C3} : ∀ {R : List (Int × Int)}, Par f R → ∀ m, m + 1 < R.length → (R.getD (m + 1) g0).1 ≤ (R.getD m g0).1
  | [], _, m, h => by simp at h
  | y :: R, hp, m, h => by
    cases m with
    | zero => exact (hp.2.1 0 (by simpa using h)).1
    | succ m => exact Par.dec (R := R) hp.2.2 m (by simpa using h)
theorem bef_all {t : Int} : ∀ {R : List (Int × Int)}, (∀ y ∈ R, y.1 < t) → sumA (befR t) R = sumA (fun y : Int × Int => y.2) R
  | [], _ => rfl
  | y :: R, h => by
    simp only [sumA]
    rw [befR_lt (h y (by simp)), bef_all (t := t) (R := R) fun z hz => h z (List.mem_cons_of_mem _ hz)]
theorem Par.le {f : C3} {y : Int × Int} {R : List (Int × Int)} (h : Par f (y :: R)) : ∀ z ∈ R, z.1 ≤ y.1 := by
  intro z hz
  obtain ⟨m, hm, rfl⟩ := List.mem_iff_getElem.1 hz
  have := (h.2.1 m hm).1
  rwa [List.getD_eq_getElem?_getD, List.getElem?_eq_getElem hm] at this
/- pair by pair, and so in every window -/
theorem Par.kp {f : C3} (vf : VC f) : ∀ {R : List (Int × Int)}, Par f R → (∀ y ∈ R, 0 ≤ y.2) → ∀ s t : Nat, s < t → sumA (befR t) R - sumA (befR s) R ≤ cv f (t - s)
  | [], _, _, s, t, _ => by have := cv_nonneg vf (t - s); simp [sumA]; omega
  | y :: R, hp, h0, s, t, hst => by
    have ih := Par.kp vf (R := R) hp.2.2 (fun z hz => h0 z (List.mem_cons_of_mem _ hz)) s t hst
    have hy0 := h0 y (by simp)
    by_cases h1 : y.1 < s
    · simp only [sumA]; rw [befR_lt h1, befR_lt (by omega)]; omega
    · by_cases h2 : y.1 < t
      · obtain ⟨m, hm, hw, hm2⟩ := win_pre (s := (s : Int)) (R := R) hp.2.2.dec (fun z hz => h0 z (List.mem_cons_of_mem _ hz))
        have hall := bef_all (t := (t : Int)) (R := R) fun z hz => by have := hp.le z hz; omega
        simp only [sumA]
        have e1 : befR t y = y.2 := befR_lt h2
        have e2 : befR s y = 0 := befR_ge h1
        rw [e1, e2, hall]
        by_cases e : m = 0
        · subst e
          have e3 : sm R 0 = 0 := rfl
          have h3 := hp.1
          have h4 := vf.cvle (s := 1) (t := t - s) (by omega)
          omega
        · have h3 := hp.2.1 (m - 1) (by omega)
          rw [show m - 1 + 1 = m by omega] at h3
          rcases hm2 with hm2 | hm2
          · omega
          · have h4 := vf.cvle (s := (y.1 - (R.getD (m - 1) g0).1 + 1).toNat) (t := t - s) (by omega)
            omega
      · simp only [sumA]; rw [befR_ge h1, befR_ge h2]; omega
theorem win_ge {a : Int} : ∀ {R : List (Int × Int)}, (∀ m, m + 1 < R.length → (R.getD (m + 1) g0).1 ≤ (R.getD m g0).1) → (∀ y ∈ R, 0 ≤ y.2) → ∀ m, m < R.length → a ≤ (R.getD m g0).1 →
    sm R (m + 1) ≤ sumA (fun y : Int × Int => y.2) R - sumA (befR a) R
  | [], _, _, m, hm, _ => by simp at hm
  | y :: R, h, h0, m, hm, ha => by
    have hd : ∀ m, m + 1 < R.length → (R.getD (m + 1) g0).1 ≤ (R.getD m g0).1 := fun m hm => h (m + 1) (by simpa using hm)
    have h0' : ∀ z ∈ R, 0 ≤ z.2 := fun z hz => h0 z (List.mem_cons_of_mem _ hz)
    cases m with
    | zero =>
      have hb := befR_sum (t := a) h0'
      have ha2 : a ≤ y.1 := ha
      have e : sm R 0 = 0 := rfl
      rw [sm_cons]
      simp only [sumA]
      rw [befR_ge (by omega)]; omega
    | succ m =>
      have ih := win_ge (a := a) hd h0' m (by simpa using hm) ha
      have hle : ∀ j, j < R.length → (R.getD j g0).1 ≤ y.1 := by
        intro j
        induction j with
        | zero => intro hj; exact h 0 (by simpa using hj)
        | succ j ih => intro hj; have := ih (by omega); have := h (j + 1) (by simpa using hj); have e2 : (R.getD (j + 1) g0).1 ≤ (R.getD j g0).1 := this; omega
      have h1 := hle m (by simpa using hm)
      have ha2 : a ≤ (R.getD m g0).1 := ha
      rw [sm_cons]
      simp only [sumA]
      rw [befR_ge (by omega)]; omega
/- one tick earlier the curve is not kept -/
theorem ear_min {f : C3} {R : List (Int × Int)} {t s u : Int} (h : ear f R t s = some u) (hp : Par f R) (h0 : ∀ y ∈ R, 0 ≤ y.1 ∧ 0 ≤ y.2) (hu : u ≠ t) (hR : ∀ y ∈ R, y.1 < u) :
    ∃ a : Nat, (a : Int) < u ∧ cv f (u - a).toNat < sumA (befR u) ((u - 1, s) :: R) - sumA (befR a) ((u - 1, s) :: R) := by
  obtain ⟨_, h2⟩ := ear_facts h
  obtain ⟨_, _, h3, _⟩ := erl_facts h2
  rcases h3 with h3 | ⟨m, hm, h3⟩
  · exact absurd h3 hu
  · have hmem : R.getD m g0 ∈ R := by
      rw [List.getD_eq_getElem?_getD, List.getElem?_eq_getElem hm]; exact List.getElem_mem hm
    have hb := h0 _ hmem
    have hlt := hR _ hmem
    rcases h3 with h3 | ⟨k, hk, h3⟩
    · omega
    · have hr := (rch_spec hk).2
      obtain ⟨a, ha⟩ : ∃ a : Nat, (R.getD m g0).1 = a := ⟨(R.getD m g0).1.toNat, by omega⟩
      refine ⟨a, by omega, ?_⟩
      have hk1 := hr (u - a).toNat (by omega)
      have e2 : befR (a : Int) (u - 1, s) = 0 := befR_ge (by show ¬u - 1 < a; omega)
      have e3 : befR u (u - 1, s) = s := befR_lt (by show u - 1 < u; omega)
      have hw := win_ge (a := (a : Int)) hp.dec (fun z hz => (h0 z hz).2) m hm (by omega)
      simp only [sumA]
      rw [e2, e3, bef_all hR]
      omega
end Go.Pk
end
section
namespace Go.Pk
open Go.Cv Go.St
/-! shaped traces, plainly -/
abbrev fs (flow : Int) (l : List Pk) : List Pk := l.filter fun x => decide (sel flow x)
theorem fs_snoc (flow : Int) (l : List Pk) (x : Pk) : (sel flow x → fs flow (l ++ [x]) = fs flow l ++ [x]) ∧ (¬sel flow x → fs flow (l ++ [x]) = fs flow l) := by
  unfold fs
  rw [List.filter_append]
  exact ⟨fun h => by simp [h], fun h => by simp [h]⟩
theorem selN_fs (p : List Pk) (flow : Int) : ∀ i, i ≤ p.length → (selN p flow i).map (·.2) = fs flow (p.take i)
  | 0, _ => rfl
  | i + 1, hi => by
    have ih := selN_fs p flow i (by omega)
    obtain ⟨h1, h2⟩ := selN_step p flow i
    have e : p.getD i pk0 = p[i] := by simp [List.getD_eq_getElem?_getD, show i < p.length by omega]
    rw [List.take_succ_eq_append_getElem (by omega), ← e]
    obtain ⟨f1, f2⟩ := fs_snoc flow (p.take i) (p.getD i pk0)
    by_cases h : sel flow (p.getD i pk0)
    · rw [h1 h, f1 h, List.map_append, ih]; rfl
    · rw [h2 h, f2 h, ih]
theorem bysL_map (t : Int) : ∀ l : List (Nat × Pk), bysL t l = sumA (bef t) (l.map (·.2))
  | [] => rfl
  | x :: l => by simp only [bysL, List.map_cons, sumA, bef]; rw [bysL_map t l]
theorem csm_fs (p : List Pk) (flow : Int) (t : Nat) : csm p flow t = sumA (bef t) (fs flow p) := by
  show bysL t (selN p flow p.length) = _
  rw [bysL_map, selN_fs p flow _ (Nat.le_refl _), List.take_length]
abbrev gp (x : Pk) : Int × Int := (x.t, x.s)
abbrev rv (l : List Pk) : List (Int × Int) := (l.map gp).reverse
theorem rv_snoc (l : List Pk) (x : Pk) : rv (l ++ [x]) = gp x :: rv l := by simp [rv]
theorem bef_rv (t : Int) (l : List Pk) : sumA (bef t) l = sumA (befR t) (rv l) := by
  rw [rv, sumA_rev, sumA_map]; rfl
/- packets and when they are let through -/
structure ShA (f : C3) (a b : List Pk) : Prop where
  l : b.length = a.length
  e : ∀ i, i < a.length → ear f (rv (b.take i)) (a.getD i pk0).t (a.getD i pk0).s = some (b.getD i pk0).t ∧ (b.getD i pk0).s = (a.getD i pk0).s ∧ (b.getD i pk0).t ≤ 2000
theorem getD_app1 {l : List Pk} {x : Pk} {i : Nat} (h : i < l.length) : (l ++ [x]).getD i pk0 = l.getD i pk0 := by
  rw [List.getD_eq_getElem?_getD, List.getElem?_append_left h, ← List.getD_eq_getElem?_getD]
theorem getD_app2 {l : List Pk} {x : Pk} : (l ++ [x]).getD l.length pk0 = x := by simp
theorem ShA.snoc {f : C3} {a b : List Pk} (h : ShA f a b) {x : Pk} {u : Int} (hu : ear f (rv b) x.t x.s = some u) (h2 : u ≤ 2000) : ShA f (a ++ [x]) (b ++ [⟨x.f, u, x.s⟩]) := by
  have hl := h.l
  refine ⟨by simp [hl], fun i hi => ?_⟩
  rw [List.length_append, List.length_singleton] at hi
  by_cases e : i = a.length
  · subst e
    rw [getD_app2, ← hl, getD_app2, List.take_left']
    · exact ⟨hu, rfl, h2⟩
    · rfl
  · rw [getD_app1 (by omega), getD_app1 (by omega), List.take_append_of_le_length (by omega)]
    exact h.e i (by omega)
theorem mine_sel (x : Pk) : mine 0 x ↔ sel 0 x := by unfold mine sel; omega
theorem shN_inv {f : C3} {p : List Pk} : ∀ {i : Nat} {R : List (Int × Int)} {o : List Pk}, i ≤ p.length → shN f 0 p i = some (R, o) →
    R = rv (fs 0 o) ∧ o.length = i ∧ fs 1 o = fs 1 (p.take i) ∧ ShA f (fs 0 (p.take i)) (fs 0 o) ∧ ∀ j, j < i → (o.getD j pk0).f = (p.getD j pk0).f ∧ (o.getD j pk0).s = (p.getD j pk0).s ∧ ((o.getD j pk0) = p.getD j pk0 ∨ ((p.getD j pk0).t ≤ (o.getD j pk0).t ∧ (o.getD j pk0).t ≤ 2000))
  | 0, R, o, _, h => by
    simp only [shN] at h; cases h
    exact ⟨rfl, rfl, rfl, ⟨rfl, fun i hi => by simp at hi⟩, fun j hj => by omega⟩
  | i + 1, R, o, hi, h => by
    simp only [shN] at h
    have hx : p.getD i pk0 = p[i] := by simp [List.getD_eq_getElem?_getD, show i < p.length by omega]
    have htk : p.take (i + 1) = p.take i ++ [p.getD i pk0] := by rw [List.take_succ_eq_append_getElem (by omega), hx]
    cases hs : shN f 0 p i with
    | none => rw [hs] at h; cases h
    | some y =>
      obtain ⟨R0, o0⟩ := y
      rw [hs] at h
      dsimp only at h
      obtain ⟨h1, h2, h3, h4, h5⟩ := shN_inv (by omega) hs
      have hold : ∀ y : Pk, ∀ j, j < i → (o0 ++ [y]).getD j pk0 = o0.getD j pk0 := fun y j hj => getD_app1 (by omega)
      have hnew : ∀ y : Pk, (o0 ++ [y]).getD i pk0 = y := fun y => by rw [← h2]; exact getD_app2
      rw [htk]
      clear htk hx
      generalize hxx : p.getD i pk0 = x at *
      by_cases hm : mine 0 x
      · rw [if_pos hm] at h
        have hsel := (mine_sel x).1 hm
        have hf : x.f = 0 := by unfold mine at hm; omega
        cases he : ear f R0 x.t x.s with
        | none => rw [he] at h; cases h
        | some u =>
          rw [he] at h
          dsimp only at h
          split at h
          · cases h
          · rename_i hu
            cases h
            have hs2 : sel 0 (⟨x.f, u, x.s⟩ : Pk) := hsel
            have hn1 : ¬sel 1 x := by unfold sel; omega
            have hn2 : ¬sel 1 (⟨x.f, u, x.s⟩ : Pk) := by unfold sel; dsimp only; omega
            rw [(fs_snoc 0 o0 _).1 hs2, (fs_snoc 1 o0 _).2 hn2, (fs_snoc 0 (p.take i) _).1 hsel, (fs_snoc 1 (p.take i) _).2 hn1]
            obtain ⟨he1, he2⟩ := ear_facts he
            obtain ⟨he3, _⟩ := erl_facts he2
            refine ⟨by rw [rv_snoc, h1], by rw [List.length_append, h2]; rfl, h3, h4.snoc (by rw [← h1]; exact he) (by omega), fun j hj => ?_⟩
            by_cases e : j = i
            · subst e; rw [hnew, hxx]; exact ⟨rfl, rfl, .inr ⟨he3, by show u ≤ 2000; omega⟩⟩
            · rw [hold _ j (by omega)]; exact h5 j (by omega)
      · rw [if_neg hm] at h
        cases h
        have hn0 : ¬sel 0 x := fun h => hm ((mine_sel x).2 h)
        rw [(fs_snoc 0 o0 _).2 hn0, (fs_snoc 0 (p.take i) _).2 hn0]
        refine ⟨h1, by rw [List.length_append, h2]; rfl, ?_, h4, fun j hj => ?_⟩
        · by_cases h11 : sel 1 x
          · rw [(fs_snoc 1 o0 _).1 h11, (fs_snoc 1 (p.take i) _).1 h11, h3]
          · rw [(fs_snoc 1 o0 _).2 h11, (fs_snoc 1 (p.take i) _).2 h11, h3]
        · by_cases e : j = i
          · subst e; rw [hnew, hxx]; exact ⟨rfl, rfl, .inl rfl⟩
          · rw [hold _ j (by omega)]; exact h5 j (by omega)
theorem take_snoc {b : List Pk} {i : Nat} (h : i < b.length) : b.take (i + 1) = b.take i ++ [b.getD i pk0] := by
  have e : b.getD i pk0 = b[i] := by simp [List.getD_eq_getElem?_getD, h]
  rw [List.take_succ_eq_append_getElem h, e]
theorem ShA.par {f : C3} (vf : VC f) {a b : List Pk} (h : ShA f a b) : ∀ i, i ≤ b.length → Par f (rv (b.take i)) ∧ Idm f (rv (b.take i))
  | 0, _ => ⟨trivial, trivial⟩
  | i + 1, hi => by
    obtain ⟨h1, h2⟩ := h.par vf i (by omega)
    obtain ⟨e1, e2, _⟩ := h.e i (by rw [← h.l]; omega)
    rw [take_snoc (by omega), rv_snoc]
    have hp := ear_par vf e1 h1
    have hd := ear_idm e1
    rw [← e2] at hp hd
    exact ⟨hp, hd, h2⟩
theorem ShA.srt {f : C3} (vf : VC f) {a b : List Pk} (h : ShA f a b) : Srt ptm b := by
  rw [srt_getE]
  intro i j hi hj hij
  have hp := (h.par vf (j + 1) (by omega)).1
  rw [take_snoc hj, rv_snoc] at hp
  have := hp.le (gp b[i]) (by
    rw [List.mem_reverse]
    refine List.mem_map.2 ⟨b[i], ?_, rfl⟩
    rw [List.mem_iff_getElem]
    exact ⟨i, by rw [List.length_take]; omega, by simp⟩)
  have e : b.getD j pk0 = b[j] := by simp [List.getD_eq_getElem?_getD, hj]
  rw [e] at this
  exact this
theorem srt_fil {k : Pk → Int} {P : Pk → Bool} : ∀ {l : List Pk}, Srt k l → Srt k (l.filter P)
  | [], _ => trivial
  | x :: l, h => by
    rw [List.filter_cons]
    split
    · exact ⟨fun y hy => h.1 y (List.mem_filter.1 hy).1, srt_fil h.2⟩
    · exact srt_fil h.2
theorem fs_srt {flow : Int} {o : List Pk} (h : Srt ptm (fs flow o)) : fs flow (srt ptm o) = fs flow o := by
  refine srt_uniq (k := ptm) (srt_fil (srt_sorted _ _)) h fun t => ?_
  have hc : ∀ l : List Pk, flt ptm t (fs flow l) = fs flow (flt ptm t l) := fun l => by
    unfold flt fs
    rw [List.filter_filter, List.filter_filter]
    congr 1
    funext x
    exact Bool.and_comm _ _
  rw [hc, hc, srt_flt]
/- what is shaped stays -/
theorem shN_again {f : C3} {q : List Pk} (hd : Idm f (rv (fs 0 q))) (ht : ∀ x ∈ q, x.t ≤ 2000) : ∀ i, i ≤ q.length → shN f 0 q i = some (rv (fs 0 (q.take i)), q.take i)
  | 0, _ => rfl
  | i + 1, hi => by
    have ih := shN_again hd ht i (by omega)
    obtain ⟨s1, _, _, s4⟩ := shN_step ih
    have hmem := ht _ (getD_memP (l := q) (i := i) (by omega))
    have hd2 : Idm f (rv (fs 0 (q.take (i + 1)))) := by
      have e : fs 0 q = fs 0 (q.take (i + 1)) ++ fs 0 (q.drop (i + 1)) := by
        unfold fs; rw [← List.filter_append, List.take_append_drop]
      rw [e, rv, List.map_append, List.reverse_append] at hd
      exact Idm.app hd
    rw [take_snoc (by omega)] at hd2 ⊢
    generalize q.getD i pk0 = x at *
    by_cases hm : mine 0 x
    · have hsel := (mine_sel x).1 hm
      rw [(fs_snoc 0 _ _).1 hsel, rv_snoc] at hd2
      rw [(fs_snoc 0 _ _).1 hsel, rv_snoc]
      exact s4 x.t hm hd2.1 (by omega)
    · have hn : ¬sel 0 x := fun h => hm ((mine_sel x).2 h)
      rw [(fs_snoc 0 _ _).2 hn]
      exact s1 hm
end Go.Pk
end
section
namespace Go.Pk
open Go.Cv Go.St
/- packets up to one, and this one a tick earlier -/
def ely (b : List Pk) (i : Nat) : List Pk := b.take i ++ [⟨(b.getD i pk0).f, (b.getD i pk0).t - 1, (b.getD i pk0).s⟩]
/- what the law says of a shaped trace -/
structure ShQ (f : C3) (p q : List Pk) : Prop where
  v : Vld q
  n : (fs 0 q).length = (fs 0 p).length
  k : Kp (csm q 0) (cv f) (endN q)
  a : shN f 0 q q.length = some (rv (fs 0 q), q) ∧ srt ptm q = q
  o : fs 1 p = fs 1 q
  ln : q.length = p.length
  z : ∀ x ∈ q, ∃ y ∈ p, x.s = y.s
  e : ∀ i, i < (fs 0 p).length → ((fs 0 q).getD i pk0).s = ((fs 0 p).getD i pk0).s ∧ ((fs 0 p).getD i pk0).t ≤ ((fs 0 q).getD i pk0).t ∧
    (((fs 0 q).getD i pk0).t = ((fs 0 p).getD i pk0).t ∨ (0 < i ∧ ((fs 0 q).getD i pk0).t = ((fs 0 q).getD (i - 1) pk0).t) ∨ (Vld (ely (fs 0 q) i) ∧ ¬Kp (csm (ely (fs 0 q) i) 0) (cv f) (endN (ely (fs 0 q) i))))
theorem fs_mem {flow : Int} {l : List Pk} {x : Pk} (h : x ∈ fs flow l) : x ∈ l ∧ sel flow x := by
  have := List.mem_filter.1 h
  exact ⟨this.1, by simpa using this.2⟩
theorem fs_idem {flow : Int} : ∀ {l : List Pk}, (∀ x ∈ l, sel flow x) → fs flow l = l
  | [], _ => rfl
  | x :: l, h => by
    unfold fs
    rw [List.filter_cons, if_pos (by simpa using h x (by simp))]
    congr 1
    exact fs_idem fun y hy => h y (List.mem_cons_of_mem _ hy)
theorem rv_mem {l : List Pk} {y : Int × Int} (h : y ∈ rv l) : ∃ x ∈ l, y = gp x := by
  rw [List.mem_reverse] at h
  obtain ⟨x, hx, rfl⟩ := List.mem_map.1 h
  exact ⟨x, hx, rfl⟩
theorem srt_of_vld {p : List Pk} (hv : Vld p) : Srt ptm p := by
  rw [srt_getE]
  intro i j hi hj hij
  have key : ∀ k, i ≤ k → k < p.length → (p.getD i pk0).t ≤ (p.getD k pk0).t := by
    intro k hik hk
    induction k with
    | zero => rw [show i = 0 by omega]; exact Int.le_refl _
    | succ k ih =>
      by_cases e : i = k + 1
      · subst e; exact Int.le_refl _
      · have h1 := ih (by omega) (by omega)
        have h2 := hv.o (k + 1) hk
        simp only [lst] at h2
        omega
  have := key j (by omega) hj
  have e1 : p.getD i pk0 = p[i] := by simp [List.getD_eq_getElem?_getD, hi]
  have e2 : p.getD j pk0 = p[j] := by simp [List.getD_eq_getElem?_getD, hj]
  rw [e1, e2] at this
  exact this
theorem shaped {f : C3} (vf : VC f) {p : List Pk} (hv : Vld p) {R : List (Int × Int)} {o : List Pk} (h : shN f 0 p p.length = some (R, o)) : ShQ f p (srt ptm o) := by
  obtain ⟨h1, h2, h3, h4, h5⟩ := shN_inv (Nat.le_refl _) h
  rw [List.take_length] at h3 h4
  have hb0 := h4.srt vf
  have e0 : fs 0 (srt ptm o) = fs 0 o := fs_srt hb0
  have e1 : fs 1 (srt ptm o) = fs 1 o := fs_srt (by rw [h3]; exact srt_fil (srt_of_vld hv))
  have hol : ∀ x ∈ o, ¬bad x := fun x hx => by
    obtain ⟨j, hj, rfl⟩ := List.mem_iff_getElem.1 hx
    have e : o.getD j pk0 = o[j] := by simp [List.getD_eq_getElem?_getD, hj]
    obtain ⟨g1, g2, g3⟩ := h5 j (by omega)
    have g4 := hv.g j (by omega)
    rw [e] at g1 g2 g3
    rcases g3 with g3 | g3
    · rw [g3]; exact g4
    · unfold bad at g4 ⊢; omega
  have hq : Vld (srt ptm o) := vld_of (by rw [srt_len, h2]; exact hv.l) (fun x hx => hol x (srt_mem.1 hx)) (srt_sorted _ _)
  have hpar := fun i hi => h4.par vf i hi
  obtain ⟨pa, pd⟩ := hpar _ (Nat.le_refl _)
  rw [List.take_length] at pa pd
  have hnn : ∀ y ∈ rv (fs 0 o), 0 ≤ y.1 ∧ 0 ≤ y.2 := fun y hy => by
    obtain ⟨x, hx, rfl⟩ := rv_mem hy
    have := hol x (fs_mem hx).1
    unfold bad at this
    dsimp only; omega
  refine ⟨hq, by rw [e0, h4.l], ?_, ⟨?_, srt_self (srt_sorted _ _)⟩, by rw [e1, h3], by rw [srt_len, h2], fun x hx => ?_, fun i hi => ?_⟩
  · intro s t hst _
    rw [csm_fs, csm_fs, e0, bef_rv, bef_rv]
    exact Par.kp vf pa (fun y hy => (hnn y hy).2) s t hst
  · have := shN_again (f := f) (q := srt ptm o) (by rw [e0]; exact pd) (fun x hx => by have := hq.mem x hx; unfold bad at this; omega) _ (Nat.le_refl _)
    rwa [List.take_length] at this
  · obtain ⟨j, hj, rfl⟩ := List.mem_iff_getElem.1 (srt_mem.1 hx)
    have e : o.getD j pk0 = o[j] := by simp [List.getD_eq_getElem?_getD, hj]
    have g := (h5 j (by omega)).2.1
    rw [e] at g
    exact ⟨_, getD_memP (l := p) (i := j) (by omega), g⟩
  · rw [e0]
    obtain ⟨g1, g2, g3⟩ := h4.e i hi
    have hib : i < (fs 0 o).length := by rw [h4.l]; exact hi
    obtain ⟨k1, k2⟩ := ear_facts g1
    obtain ⟨k3, _⟩ := erl_facts k2
    refine ⟨g2, k3, ?_⟩
    by_cases c1 : ((fs 0 o).getD i pk0).t = ((fs 0 p).getD i pk0).t
    · exact .inl c1
    · by_cases c2 : 0 < i ∧ ((fs 0 o).getD i pk0).t = ((fs 0 o).getD (i - 1) pk0).t
      · exact .inr (.inl c2)
      · refine .inr (.inr ?_)
        have hp := (hpar i (by omega)).1
        have hmemb : ∀ x ∈ (fs 0 o).take i, ¬bad x ∧ sel 0 x := fun x hx => by
          have := fs_mem (List.mem_of_mem_take hx)
          exact ⟨hol x this.1, this.2⟩
        have hbi := fs_mem (getD_memP hib)
        have hbb := hol _ hbi.1
        have ha := hv.mem _ (fs_mem (getD_memP hi)).1
        generalize hB : fs 0 o = b at *
        have hlt : ∀ x ∈ b.take i, x.t < (b.getD i pk0).t := fun x hx => by
          obtain ⟨j, hj, rfl⟩ := List.mem_iff_getElem.1 hx
          rw [List.length_take] at hj
          have e : (b.take i)[j] = b[j] := by simp
          rw [e]
          have e2 : b.getD i pk0 = b[i] := by simp [List.getD_eq_getElem?_getD, hib]
          have e3 : b.getD (i - 1) pk0 = b[i - 1] := by simp [List.getD_eq_getElem?_getD, show i - 1 < b.length by omega]
          have s1 : b[j].t ≤ b[i - 1].t := by
            by_cases e4 : j = i - 1
            · subst e4; exact Int.le_refl _
            · exact (srt_getE.1 hb0) j (i - 1) (by omega) (by omega) (by omega)
          have s2 : b[i - 1].t ≤ b[i].t := (srt_getE.1 hb0) (i - 1) i (by omega) (by omega) (by omega)
          rw [e2, e3] at c2
          rw [e2]
          have : ¬b[i].t = b[i - 1].t := fun h => c2 ⟨by omega, h⟩
          omega
        have hmin := ear_min g1 hp (fun y hy => by
          obtain ⟨x, hx, rfl⟩ := rv_mem hy
          have := (hmemb x hx).1
          unfold bad at this; dsimp only; omega) c1 (fun y hy => by
          obtain ⟨x, hx, rfl⟩ := rv_mem hy
          exact hlt x hx)
        obtain ⟨a, ha1, ha2⟩ := hmin
        rw [← g2] at ha2
        unfold bad at hbb ha
        have hsel : ∀ x ∈ ely b i, sel 0 x := fun x hx => by
          rcases List.mem_append.1 hx with hx | hx
          · exact (hmemb x hx).2
          · rw [List.mem_singleton.1 hx]; exact hbi.2
        have hve : Vld (ely b i) := by
          refine vld_of ?_ (fun x hx => ?_) ?_
          · have := hv.l
            have h6 : b.length ≤ o.length := by rw [← hB]; exact List.length_filter_le _ _
            simp only [ely, List.length_append, List.length_take, List.length_singleton]; omega
          · rcases List.mem_append.1 hx with hx | hx
            · exact (hmemb x hx).1
            · rw [List.mem_singleton.1 hx]; unfold bad; dsimp only; omega
          · refine srt_app_up ?_ (fun x hx => ?_)
            · have := srt_app.1 (show Srt ptm (b.take i ++ b.drop i) by rw [List.take_append_drop]; exact hb0)
              exact this.1
            · have := hlt x hx
              show x.t ≤ (b.getD i pk0).t - 1
              omega
        refine ⟨hve, fun hk => ?_⟩
        obtain ⟨u, hu⟩ : ∃ u : Nat, (b.getD i pk0).t = u := ⟨(b.getD i pk0).t.toNat, by omega⟩
        have hlen : (ely b i).length = i + 1 := by simp only [ely, List.length_append, List.length_take, List.length_singleton]; omega
        have hend : endN (ely b i) = u := by
          unfold endN
          rw [hlen]
          dsimp only
          have : (ely b i).getD i pk0 = ⟨(b.getD i pk0).f, (b.getD i pk0).t - 1, (b.getD i pk0).s⟩ := by
            have h7 : (b.take i).length = i := by rw [List.length_take]; omega
            unfold ely
            rw [List.getD_eq_getElem?_getD, List.getElem?_append_right (by omega), h7, Nat.sub_self]; rfl
          rw [this]
          dsimp only
          omega
        have h8 := hk a u (by omega) (by rw [hend]; exact Nat.le_refl _)
        rw [csm_fs, csm_fs, fs_idem hsel, bef_rv, bef_rv] at h8
        unfold ely at h8
        rw [rv_snoc] at h8
        rw [hu] at ha2
        rw [show ((u : Int) - a).toNat = u - a by omega] at ha2
        dsimp only [gp] at h8
        rw [hu] at h8
        omega
theorem sumA_le {g : Pk → Int} {B : Int} (hB : 0 ≤ B) : ∀ {l : List Pk}, (∀ x ∈ l, g x ≤ B) → sumA g l ≤ B * l.length
  | [], _ => by simp [sumA]
  | x :: l, h => by
    have h1 := h x (by simp)
    have h2 := sumA_le hB (l := l) fun y hy => h y (List.mem_cons_of_mem _ hy)
    simp only [sumA, List.length_cons]
    push_cast
    rw [Int.mul_add, Int.mul_one]; omega
/- a curve that grows faster -/
theorem faster {f : C3} (vf : VC f) (ff : FinC f) (hq : f.2.2 ≤ 100000) : VC (f.1, f.2.1, f.2.2 + f.2.1) := by
  have p1 := vf.p1
  have p2 := vf.p2
  have q0 := vf.q0
  refine ⟨vf.n1, vf.n2, p1, p2, vf.pn, by show 0 ≤ f.2.2 + f.2.1; omega, by show f.2.2 + (f.2.1 : Int) ≤ 1073741824; omega, vf.v, vf.mono, fun h => absurd h ff, fun h => ?_⟩
  have := vf.fin h
  show f.1.getD (f.1.length - f.2.1) 0 + (f.2.2 + f.2.1) ≥ f.1.getD (f.1.length - 1) 0
  omega
end Go.Pk
end
section
namespace Go.Pk
open Go.Cv Go.St
/-! policed traces, plainly -/
def pol (f : C3) (flow : Int) (p : List Pk) : Nat → List (Int × Int) × List Pk × List Int
  | 0 => ([], [], [])
  | i + 1 => if mine flow (p.getD i pk0) then
      if ear f (pol f flow p i).1 (p.getD i pk0).t (p.getD i pk0).s = some (p.getD i pk0).t then (gp (p.getD i pk0) :: (pol f flow p i).1, (pol f flow p i).2.1 ++ [p.getD i pk0], (pol f flow p i).2.2)
      else ((pol f flow p i).1, (pol f flow p i).2.1, (pol f flow p i).2.2 ++ [(i : Int)])
    else ((pol f flow p i).1, (pol f flow p i).2.1 ++ [p.getD i pk0], (pol f flow p i).2.2)
theorem pol_step {f : C3} {flow : Int} {p : List Pk} {i : Nat} {R : List (Int × Int)} {q : List Pk} {g : List Int} (h : pol f flow p i = (R, q, g)) :
    (¬mine flow (p.getD i pk0) → pol f flow p (i + 1) = (R, q ++ [p.getD i pk0], g)) ∧
    (mine flow (p.getD i pk0) → ear f R (p.getD i pk0).t (p.getD i pk0).s = some (p.getD i pk0).t → pol f flow p (i + 1) = (gp (p.getD i pk0) :: R, q ++ [p.getD i pk0], g)) ∧
    (mine flow (p.getD i pk0) → ear f R (p.getD i pk0).t (p.getD i pk0).s ≠ some (p.getD i pk0).t → pol f flow p (i + 1) = (R, q, g ++ [(i : Int)])) := by
  refine ⟨fun h1 => ?_, fun h1 h2 => ?_, fun h1 h2 => ?_⟩
  · simp only [pol, h]; rw [if_neg h1]
  · simp only [pol, h]; rw [if_pos h1, if_pos h2]
  · simp only [pol, h]; rw [if_pos h1, if_neg h2]
theorem drop_erase {q p : List Pk} {i : Nat} (h : i < p.length) : (q ++ p.drop i).eraseIdx q.length = q ++ p.drop (i + 1) := by
  rw [List.drop_eq_getElem_cons h, List.eraseIdx_append_of_length_le (Nat.le_refl _), Nat.sub_self]; rfl
theorem drop_snoc {q p : List Pk} {i : Nat} (h : i < p.length) : q ++ p.drop i = q ++ [p.getD i pk0] ++ p.drop (i + 1) := by
  rw [List.drop_eq_getElem_cons h, show p.getD i pk0 = p[i] by simp [List.getD_eq_getElem?_getD, h]]; simp
end Go.Pk
end
section
namespace Go.Pk
open Go.Cv Go.St
/-! what the law says of a policed trace, plainly -/
theorem sub_srt {k : Pk → Int} {q p : List Pk} (h : q.Sublist p) : Srt k p → Srt k q := by
  induction h with
  | slnil => exact id
  | cons x _ ih => exact fun h => ih h.2
  | cons_cons x hs ih => exact fun h => ⟨fun y hy => h.1 y (hs.subset hy), ih h.2⟩
theorem pol_inv {f : C3} (vf : VC f) {p : List Pk} : ∀ {i : Nat} {R : List (Int × Int)} {q : List Pk} {g : List Int}, i ≤ p.length → pol f 0 p i = (R, q, g) →
    R = rv (fs 0 q) ∧ Par f R ∧ Idm f R ∧ fs 1 q = fs 1 (p.take i) ∧ q.length + g.length = i ∧ q.Sublist (p.take i)
  | 0, R, q, g, _, h => by
    simp only [pol] at h; cases h
    exact ⟨rfl, trivial, trivial, rfl, rfl, List.Sublist.refl _⟩
  | i + 1, R, q, g, hi, h => by
    obtain ⟨R0, q0, g0', h0⟩ : ∃ R0 q0 g0', pol f 0 p i = (R0, q0, g0') := ⟨_, _, _, rfl⟩
    obtain ⟨a1, a2, a3, a4, a5, a6⟩ := pol_inv vf (by omega) h0
    obtain ⟨s1, s2, s3⟩ := pol_step h0
    rw [take_snoc (by omega)]
    generalize p.getD i pk0 = x at *
    by_cases hm : mine 0 x
    · have hsel := (mine_sel x).1 hm
      have hn1 : ¬sel 1 x := by unfold sel at hsel ⊢; omega
      by_cases he : ear f R0 x.t x.s = some x.t
      · have e := s2 hm he
        rw [h] at e; cases e
        rw [(fs_snoc 0 q0 x).1 hsel, (fs_snoc 1 q0 x).2 hn1, (fs_snoc 1 (p.take i) x).2 hn1, rv_snoc]
        exact ⟨by rw [a1], ear_par vf he a2, ⟨he, a3⟩, a4, by rw [List.length_append, List.length_singleton]; omega, List.Sublist.append a6 (List.Sublist.refl _)⟩
      · have e := s3 hm he
        rw [h] at e; cases e
        rw [(fs_snoc 1 (p.take i) x).2 hn1]
        exact ⟨a1, a2, a3, a4, by rw [List.length_append, List.length_singleton]; omega, a6.trans (List.sublist_append_left _ _)⟩
    · have e := s1 hm
      rw [h] at e; cases e
      have hn0 : ¬sel 0 x := fun h => hm ((mine_sel x).2 h)
      rw [(fs_snoc 0 q0 x).2 hn0]
      refine ⟨a1, a2, a3, ?_, by rw [List.length_append, List.length_singleton]; omega, List.Sublist.append a6 (List.Sublist.refl _)⟩
      by_cases h1 : sel 1 x
      · rw [(fs_snoc 1 q0 x).1 h1, (fs_snoc 1 (p.take i) x).1 h1, a4]
      · rw [(fs_snoc 1 q0 x).2 h1, (fs_snoc 1 (p.take i) x).2 h1, a4]
/- what keeps the curve pair by pair is let through -/
theorem pol_again {f : C3} {q : List Pk} (hd : Idm f (rv (fs 0 q))) : ∀ i, i ≤ q.length → pol f 0 q i = (rv (fs 0 (q.take i)), q.take i, [])
  | 0, _ => rfl
  | i + 1, hi => by
    have ih := pol_again hd i (by omega)
    obtain ⟨s1, s2, _⟩ := pol_step ih
    have hd2 : Idm f (rv (fs 0 (q.take (i + 1)))) := by
      have e : fs 0 q = fs 0 (q.take (i + 1)) ++ fs 0 (q.drop (i + 1)) := by
        unfold fs; rw [← List.filter_append, List.take_append_drop]
      rw [e, rv, List.map_append, List.reverse_append] at hd
      exact Idm.app hd
    rw [take_snoc (by omega)] at hd2 ⊢
    generalize q.getD i pk0 = x at *
    by_cases hm : mine 0 x
    · have hsel := (mine_sel x).1 hm
      rw [(fs_snoc 0 _ _).1 hsel, rv_snoc] at hd2
      rw [(fs_snoc 0 _ _).1 hsel, rv_snoc]
      exact s2 hm hd2.1
    · have hn : ¬sel 0 x := fun h => hm ((mine_sel x).2 h)
      rw [(fs_snoc 0 _ _).2 hn]
      exact s1 hm
theorem rch_le {f : C3} (vf : VC f) {v : Int} : ∀ {n : Nat}, n < 1000000000 → v ≤ cv f n → ∃ k, k ≤ n ∧ rch f v = some k
  | 0, _, h => ⟨0, Nat.le_refl _, rch_some (by omega) h fun i hi => by omega⟩
  | n + 1, hn, h => by
    by_cases h1 : v ≤ cv f n
    · obtain ⟨k, h2, h3⟩ := rch_le vf (by omega) h1
      exact ⟨k, by omega, h3⟩
    · exact ⟨n + 1, Nat.le_refl _, rch_some hn h fun i hi => by have := vf.cvle (s := i) (t := n) (by omega); omega⟩
theorem erl_self {f : C3} : ∀ {R : List (Int × Int)} {sum t : Int}, (∀ m, m < R.length → (R.getD m g0).1 ≤ t ∧ ∃ k, rch f (sum + sm R (m + 1)) = some k ∧ (R.getD m g0).1 + k - 1 ≤ t) → erl f R sum t = some t
  | [], _, _, _ => rfl
  | y :: R, sum, t, h => by
    obtain ⟨h1, k, h2, h3⟩ := h 0 (by simp)
    have e0 : sum + sm (y :: R) 1 = sum + y.2 := by rw [show (1 : Nat) = 0 + 1 from rfl, sm_cons]; simp [sm, sumA]
    rw [e0] at h2
    have h1 : y.1 ≤ t := h1
    have h3 : y.1 + k - 1 ≤ t := h3
    simp only [erl, h2]
    rw [show max (max t y.1) (y.1 + k - 1) = t by omega]
    refine erl_self fun m hm => ?_
    obtain ⟨g1, j, g2, g3⟩ := h (m + 1) (by simpa using hm)
    rw [sm_cons, ← Int.add_assoc] at g2
    exact ⟨g1, j, g2, g3⟩
theorem Par.idm {f : C3} (vf : VC f) : ∀ {R : List (Int × Int)}, (∀ y ∈ R, 0 ≤ y.1 ∧ y.1 ≤ 100000) → Par f R → Idm f R
  | [], _, _ => trivial
  | y :: R, hb, hp => by
    refine ⟨?_, Par.idm vf (fun z hz => hb z (List.mem_cons_of_mem _ hz)) hp.2.2⟩
    have hy := hb y (by simp)
    unfold ear
    rw [if_neg (by have := hp.1; omega)]
    refine erl_self fun m hm => ?_
    obtain ⟨h1, h2⟩ := hp.2.1 m hm
    have hmem : R.getD m g0 ∈ R := by
      rw [List.getD_eq_getElem?_getD, List.getElem?_eq_getElem hm]; exact List.getElem_mem hm
    have hz := hb _ (List.mem_cons_of_mem _ hmem)
    obtain ⟨k, h3, h4⟩ := rch_le vf (by omega) h2
    exact ⟨h1, k, h4, by omega⟩
/- window by window, and so pair by pair -/
theorem par_of {f : C3} : ∀ {R : List (Int × Int)}, (∀ m, m + 1 < R.length → (R.getD (m + 1) g0).1 ≤ (R.getD m g0).1) → (∀ y ∈ R, 0 ≤ y.1 ∧ 0 ≤ y.2) →
    (∀ s t : Nat, s < t → sumA (befR t) R - sumA (befR s) R ≤ cv f (t - s)) → Par f R
  | [], _, _, _ => trivial
  | y :: R, hd, h0, hw => by
    have hd' : ∀ m, m + 1 < R.length → (R.getD (m + 1) g0).1 ≤ (R.getD m g0).1 := fun m hm => hd (m + 1) (by simpa using hm)
    have h0' : ∀ z ∈ R, 0 ≤ z.1 ∧ 0 ≤ z.2 := fun z hz => h0 z (List.mem_cons_of_mem _ hz)
    have hy := h0 y (by simp)
    have hle : ∀ j, j < R.length → (R.getD j g0).1 ≤ y.1 := by
      intro j
      induction j with
      | zero => intro hj; exact hd 0 (by simpa using hj)
      | succ j ih => intro hj; have := ih (by omega); have := hd (j + 1) (by simpa using hj); have e2 : (R.getD (j + 1) g0).1 ≤ (R.getD j g0).1 := this; omega
    have hlt : ∀ z ∈ R, z.1 < y.1 + 1 := fun z hz => by
      obtain ⟨m, hm, rfl⟩ := List.mem_iff_getElem.1 hz
      have := hle m hm
      rw [List.getD_eq_getElem?_getD, List.getElem?_eq_getElem hm] at this
      have e : R[m].1 ≤ y.1 := this
      omega
    obtain ⟨T, hT⟩ : ∃ T : Nat, y.1 = T := ⟨y.1.toNat, by omega⟩
    have hall := bef_all (t := y.1 + 1) (R := R) hlt
    have key : ∀ a : Nat, (a : Int) ≤ y.1 → y.2 + (sumA (fun z : Int × Int => z.2) R - sumA (befR a) R) ≤ cv f (T + 1 - a) := fun a ha => by
      have h := hw a (T + 1) (by omega)
      have e : ((T + 1 : Nat) : Int) = y.1 + 1 := by omega
      rw [e] at h
      simp only [sumA] at h
      rw [hall, befR_lt (t := y.1 + 1) (by omega), befR_ge (t := (a : Int)) (y := y) (by omega)] at h
      omega
    refine ⟨?_, fun m hm => ⟨hle m hm, ?_⟩, par_of hd' h0' fun s t hst => ?_⟩
    · have h := key T (by omega)
      have := befR_sum (t := (T : Int)) (R := R) fun z hz => (h0' z hz).2
      rw [show T + 1 - T = 1 by omega] at h
      omega
    · have hmem : R.getD m g0 ∈ R := by
        rw [List.getD_eq_getElem?_getD, List.getElem?_eq_getElem hm]; exact List.getElem_mem hm
      have hz := h0' _ hmem
      obtain ⟨a, ha⟩ : ∃ a : Nat, (R.getD m g0).1 = a := ⟨(R.getD m g0).1.toNat, by omega⟩
      have h := key a (by have := hle m hm; omega)
      have hg := win_ge (a := (a : Int)) hd' (fun z hz => (h0' z hz).2) m hm (by omega)
      rw [ha, show (y.1 - (a : Int) + 1).toNat = T + 1 - a by have := hle m hm; omega]
      omega
    · have h := hw s t hst
      simp only [sumA] at h
      have : 0 ≤ befR t y - befR s y := by unfold befR; split <;> split <;> omega
      omega
theorem rv_dec {l : List Pk} (h : Srt ptm l) : ∀ m, m + 1 < (rv l).length → ((rv l).getD (m + 1) g0).1 ≤ ((rv l).getD m g0).1 := by
  intro m hm
  have hl : (rv l).length = l.length := by simp [rv]
  rw [hl] at hm
  have e : ∀ j, j < l.length → ((rv l).getD j g0).1 = (l.getD (l.length - 1 - j) pk0).t := fun j hj => by
    unfold rv
    rw [List.getD_eq_getElem?_getD, List.getElem?_reverse (by simpa using hj), List.length_map, List.getElem?_map, List.getD_eq_getElem?_getD, List.getElem?_eq_getElem (by omega)]; rfl
  rw [e _ hm, e _ (by omega)]
  exact srt_get h (by omega) (by omega)
structure PoQ (f : C3) (p q : List Pk) (g : List Int) : Prop where
  v : Vld q
  l : q.length + g.length = p.length
  k : Kp (csm q 0) (cv f) (endN q)
  a : pol f 0 q q.length = (rv (fs 0 q), q, [])
  o : fs 1 q = fs 1 p
  d : Kp (csm p 0) (cv f) (endN p) ↔ g.length = 0
  z : ∀ x ∈ q, x ∈ p
theorem policed {f : C3} (vf : VC f) {p : List Pk} (hv : Vld p) {R : List (Int × Int)} {q : List Pk} {g : List Int} (h : pol f 0 p p.length = (R, q, g)) : PoQ f p q g := by
  obtain ⟨h1, h2, h3, h4, h5, h6⟩ := pol_inv vf (Nat.le_refl _) h
  rw [List.take_length] at h4 h6
  subst h1
  have hs := srt_of_vld hv
  have hq : Vld q := vld_of (by have := hv.l; omega) (fun x hx => hv.mem x (h6.subset hx)) (sub_srt h6 hs)
  have hnn : ∀ (r : List Pk), Vld r → ∀ y ∈ rv (fs 0 r), (0 ≤ y.1 ∧ y.1 ≤ 100000) ∧ 0 ≤ y.2 := fun r hr y hy => by
    obtain ⟨x, hx, rfl⟩ := rv_mem hy
    have := hr.mem x (fs_mem hx).1
    unfold bad at this
    dsimp only; omega
  have hk : Kp (csm q 0) (cv f) (endN q) := fun s t hst _ => by
    rw [csm_fs, csm_fs, bef_rv, bef_rv]
    exact Par.kp vf h2 (fun y hy => (hnn q hq y hy).2) s t hst
  refine ⟨hq, h5, hk, ?_, h4, ⟨fun hp => ?_, fun hg => ?_⟩, fun x hx => h6.subset hx⟩
  · have := pol_again (f := f) h3 _ (Nat.le_refl _)
    rwa [List.take_length] at this
  · have hwin : ∀ s t : Nat, s < t → sumA (befR t) (rv (fs 0 p)) - sumA (befR s) (rv (fs 0 p)) ≤ cv f (t - s) := fun s t hst => by
      have h := Kp.all (csm_cum hv 0) (fun t => cv_nonneg vf t) (fun h => vf.cvle h) hp s t hst
      rw [csm_fs, csm_fs, bef_rv, bef_rv] at h
      exact h
    have hpar := par_of (f := f) (rv_dec (srt_fil hs)) (fun y hy => ⟨(hnn p hv y hy).1.1, (hnn p hv y hy).2⟩) hwin
    have hid := hpar.idm vf fun y hy => (hnn p hv y hy).1
    have := pol_again (f := f) hid _ (Nat.le_refl _)
    rw [h] at this
    have e : g = [] := congrArg (fun z : List (Int × Int) × List Pk × List Int => z.2.2) this
    rw [e]; rfl
  · have e : q = p := h6.eq_of_length (by omega)
    rw [← e]; exact hk
end Go.Pk
end
section
namespace Go.Pk
open Go.Cv Go.St
/-! greedy packets are the earliest ones, plainly -/
theorem erl_up {f : C3} {T : Int} : ∀ {R : List (Int × Int)} {sum t : Int}, t ≤ T → (∀ m, m < R.length → (R.getD m g0).1 ≤ T ∧ ∃ k, rch f (sum + sm R (m + 1)) = some k ∧ (R.getD m g0).1 + k - 1 ≤ T) → ∃ u, u ≤ T ∧ erl f R sum t = some u
  | [], _, t, ht, _ => ⟨t, ht, rfl⟩
  | y :: R, sum, t, ht, h => by
    obtain ⟨h1, k, h2, h3⟩ := h 0 (by simp)
    have e0 : sum + sm (y :: R) 1 = sum + y.2 := by rw [show (1 : Nat) = 0 + 1 from rfl, sm_cons]; simp [sm, sumA]
    rw [e0] at h2
    have h1 : y.1 ≤ T := h1
    have h3 : y.1 + k - 1 ≤ T := h3
    simp only [erl, h2]
    refine erl_up (by omega) fun m hm => ?_
    obtain ⟨g1, j, g2, g3⟩ := h (m + 1) (by simpa using hm)
    rw [sm_cons, ← Int.add_assoc] at g2
    exact ⟨g1, j, g2, g3⟩
theorem sm_size {size : Int} : ∀ {R : List (Int × Int)}, (∀ y ∈ R, y.2 = size) → ∀ {m : Nat}, m ≤ R.length → sm R m = size * m
  | _, _, 0, _ => by simp [sm, sumA]
  | [], _, m + 1, h => by simp at h
  | y :: R, h, m + 1, hm => by
    rw [sm_cons, sm_size (fun z hz => h z (List.mem_cons_of_mem _ hz)) (by simpa using hm), h y (by simp)]
    push_cast; rw [Int.mul_add, Int.mul_one]; omega
theorem grN_mem {f : C3} {size ticks : Int} : ∀ {i : Nat} {y : Int × Int}, y ∈ grN f size ticks i → y.2 = size ∧ y.1 ≤ ticks
  | i + 1, y, h => by
    simp only [grN] at h
    split at h
    · exact grN_mem h
    · split at h
      · exact grN_mem h
      · rcases List.mem_cons.1 h with rfl | h
        · exact ⟨rfl, by dsimp only; omega⟩
        · exact grN_mem h
theorem grN_par {f : C3} (vf : VC f) {size ticks : Int} : ∀ i, Par f (grN f size ticks i) ∧ ∀ y ∈ grN f size ticks i, 0 ≤ y.1
  | 0 => ⟨trivial, fun y h => by simp [grN] at h⟩
  | i + 1 => by
    obtain ⟨h1, h2⟩ := grN_par vf (size := size) (ticks := ticks) i
    simp only [grN]
    split
    · exact ⟨h1, h2⟩
    · rename_i u hu
      split
      · exact ⟨h1, h2⟩
      · refine ⟨ear_par vf hu h1, fun y hy => ?_⟩
        rcases List.mem_cons.1 hy with rfl | hy
        · exact (erl_facts (ear_facts hu).2).1
        · exact h2 y hy
/- no packets are earlier -/
theorem grN_best {f : C3} (vf : VC f) {size ticks : Int} (ht : ticks ≤ 100000) : ∀ {R : List (Int × Int)}, Par f R → (∀ y ∈ R, y.2 = size) → (∀ y ∈ R, 0 ≤ y.1 ∧ y.1 ≤ ticks) →
    (grN f size ticks R.length).length = R.length ∧ ∀ m, m < R.length → ((grN f size ticks R.length).getD m g0).1 ≤ (R.getD m g0).1
  | [], _, _, _ => ⟨rfl, fun m hm => by simp at hm⟩
  | y :: R, hp, hs, hb => by
    obtain ⟨h1, h2⟩ := grN_best vf ht (R := R) hp.2.2 (fun z hz => hs z (List.mem_cons_of_mem _ hz)) fun z hz => hb z (List.mem_cons_of_mem _ hz)
    have hy := hb y (by simp)
    have hys := hs y (by simp)
    have hms := fun z hz => (grN_mem (f := f) (size := size) (ticks := ticks) (i := R.length) (y := z) hz).1
    obtain ⟨u, hu1, hu2⟩ : ∃ u, u ≤ y.1 ∧ ear f (grN f size ticks R.length) 0 size = some u := by
      have hp1 := hp.1
      unfold ear
      rw [if_neg (by omega)]
      refine erl_up hy.1 fun m hm => ?_
      rw [h1] at hm
      obtain ⟨g1, g2⟩ := hp.2.1 m hm
      have g3 := h2 m hm
      have hmem : R.getD m g0 ∈ R := by
        rw [List.getD_eq_getElem?_getD, List.getElem?_eq_getElem hm]; exact List.getElem_mem hm
      have hz := hb _ (List.mem_cons_of_mem _ hmem)
      rw [sm_size (fun z hz => hs z (List.mem_cons_of_mem _ hz)) (by omega)] at g2
      rw [sm_size hms (by omega)]
      rw [hys] at g2
      obtain ⟨k, h3, h4⟩ := rch_le vf (by omega) g2
      exact ⟨by omega, k, h4, by omega⟩
    have e : grN f size ticks (R.length + 1) = (u, size) :: grN f size ticks R.length := by
      simp only [grN, hu2]; rw [if_neg (by omega)]
    rw [List.length_cons, e]
    refine ⟨by rw [List.length_cons, h1], fun m hm => ?_⟩
    cases m with
    | zero => exact hu1
    | succ m => exact h2 m (by simpa using hm)
theorem befR_nn {t : Int} {y : Int × Int} (h : 0 ≤ y.2) : 0 ≤ befR t y := by unfold befR; split <;> omega
theorem grN_up {f : C3} {size ticks t : Int} (hs : 0 ≤ size) {i : Nat} : ∀ {j : Nat}, i ≤ j → sumA (befR t) (grN f size ticks i) ≤ sumA (befR t) (grN f size ticks j)
  | 0, h => by rw [show i = 0 by omega]; exact Int.le_refl _
  | j + 1, h => by
    by_cases e : i = j + 1
    · subst e; exact Int.le_refl _
    · have ih := grN_up (f := f) (ticks := ticks) (t := t) hs (i := i) (j := j) (by omega)
      simp only [grN]
      split
      · exact ih
      · split
        · exact ih
        · have := befR_nn (t := t) (y := (‹Int›, size)) hs
          simp only [sumA]; omega
/- the packets before a tick are the first ones -/
theorem bef_suf {t : Int} : ∀ {R : List (Int × Int)}, (∀ m, m + 1 < R.length → (R.getD (m + 1) g0).1 ≤ (R.getD m g0).1) → ∃ m, m ≤ R.length ∧ sumA (befR t) R = sumA (fun y : Int × Int => y.2) (R.drop m) ∧ ∀ y ∈ R.drop m, y.1 < t
  | [], _ => ⟨0, Nat.le_refl _, rfl, fun y hy => by simp at hy⟩
  | y :: R, h => by
    by_cases hy : y.1 < t
    · have hle : ∀ j, j < R.length → (R.getD j g0).1 ≤ y.1 := by
        intro j
        induction j with
        | zero => intro hj; exact h 0 (by simpa using hj)
        | succ j ih => intro hj; have := ih (by omega); have := h (j + 1) (by simpa using hj); have e2 : (R.getD (j + 1) g0).1 ≤ (R.getD j g0).1 := this; omega
      have hall : ∀ z ∈ y :: R, z.1 < t := fun z hz => by
        rcases List.mem_cons.1 hz with rfl | hz
        · exact hy
        · obtain ⟨m, hm, rfl⟩ := List.mem_iff_getElem.1 hz
          have := hle m hm
          rw [List.getD_eq_getElem?_getD, List.getElem?_eq_getElem hm] at this
          have e : R[m].1 ≤ y.1 := this
          omega
      exact ⟨0, Nat.zero_le _, bef_all hall, hall⟩
    · obtain ⟨m, h1, h2, h3⟩ := bef_suf (t := t) (R := R) fun m hm => h (m + 1) (by simpa using hm)
      exact ⟨m + 1, by simpa using h1, by simp only [sumA]; rw [befR_ge hy, h2, List.drop_succ_cons]; omega, h3⟩
theorem Par.drop {f : C3} : ∀ (m : Nat) {R : List (Int × Int)}, Par f R → Par f (R.drop m)
  | 0, _, h => h
  | m + 1, [], h => by simp [Par]
  | m + 1, _ :: R, h => Par.drop m (R := R) h.2.2
theorem sm_all (R : List (Int × Int)) : sumA (fun y : Int × Int => y.2) R = sm R R.length := by simp [sm]
/- greedy packets are the most -/
theorem greedy_most {f : C3} (vf : VC f) {size ticks : Int} (hs : 0 ≤ size) (ht : 0 ≤ ticks ∧ ticks ≤ 100000) {R : List (Int × Int)} (hp : Par f R) (hR : ∀ y ∈ R, y.2 = size) (h0 : ∀ y ∈ R, 0 ≤ y.1) {N : Nat} (hN : R.length ≤ N) {t : Int} (htt : t ≤ ticks + 1) :
    sumA (befR t) R ≤ sumA (befR t) (grN f size ticks N) := by
  obtain ⟨m, h1, h2, h3⟩ := bef_suf (t := t) hp.dec
  have hsz : ∀ y ∈ R.drop m, y.2 = size := fun y hy => hR y (List.mem_of_mem_drop hy)
  obtain ⟨g1, g2⟩ := grN_best vf (size := size) (ticks := ticks) ht.2 (hp.drop m) hsz fun y hy => ⟨h0 y (List.mem_of_mem_drop hy), by have := h3 y hy; omega⟩
  have hlt : ∀ y ∈ grN f size ticks (R.drop m).length, y.1 < t := fun y hy => by
    obtain ⟨j, hj, rfl⟩ := List.mem_iff_getElem.1 hy
    have hj2 : j < (R.drop m).length := by omega
    have h4 := g2 j hj2
    rw [List.getD_eq_getElem?_getD, List.getElem?_eq_getElem hj] at h4
    have h5 := h3 ((R.drop m).getD j g0) (by rw [List.getD_eq_getElem?_getD, List.getElem?_eq_getElem hj2]; exact List.getElem_mem hj2)
    have h6 : (grN f size ticks (R.drop m).length)[j].1 ≤ ((R.drop m).getD j g0).1 := h4
    omega
  have h7 := grN_up (f := f) (ticks := ticks) (t := t) hs (i := (R.drop m).length) (j := N) (by rw [List.length_drop]; omega)
  rw [bef_all hlt, sm_all, sm_size (fun y hy => (grN_mem hy).1) (Nat.le_refl _), g1] at h7
  rw [h2, sm_all, sm_size hsz (Nat.le_refl _)]
  exact h7
end Go.Pk
end
