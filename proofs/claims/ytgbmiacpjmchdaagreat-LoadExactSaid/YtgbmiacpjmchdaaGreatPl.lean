/-
  A text of the proofs of this seat: lemmas that the statements' proofs use; it states nothing of the program by itself beyond the contracts that its theorems bear. Conditions: those that stand in each theorem. Its short name: Pl.
-/
set_option linter.unusedVariables false
set_option linter.unusedSimpArgs false
section
namespace Go.Cv
/-! plain laws of functions that repeat with a gain -/
def Per (F : Nat → Int) (s p : Nat) (q : Int) : Prop := ∀ t, s ≤ t → F (t + p) = F t + q
theorem Per.mono {F s s' p q} (h : Per F s p q) (hs : s ≤ s') : Per F s' p q := fun t ht => h t (by omega)
theorem Per.mul {F s p q} (h : Per F s p q) : ∀ k : Nat, Per F s (k * p) (k * q)
  | 0 => fun t _ => by simp
  | k + 1 => fun t ht => by
    have h1 := Per.mul h k t ht
    have h2 := h (t + k * p) (by omega)
    rw [show t + (k + 1) * p = t + k * p + p by rw [Nat.add_mul]; omega, h2, h1]
    push_cast; rw [Int.add_mul]; omega
theorem Per.back {F s s' n p Q q} (hn : 1 ≤ n) (h : Per F s n Q) (h' : Per F s' p q) : Per F s p q := by
  intro t ht
  have h1 := h.mul s' t ht
  have h2 := h.mul s' (t + p) (by omega)
  have hle : s' ≤ t + s' * n := by have := Nat.mul_le_mul_left s' hn; omega
  have h3 := h' (t + s' * n) hle
  rw [show t + s' * n + p = t + p + s' * n by omega, h2, h1] at h3
  omega
theorem Per.uniq {F s s' p q q'} (h : Per F s p q) (h' : Per F s' p q') : q = q' := by
  have h1 := h (max s s') (by omega)
  have h2 := h' (max s s') (by omega)
  omega
/- p is the least period -/
def Min (F : Nat → Int) (p : Nat) : Prop := ∀ s' p' q', 1 ≤ p' → Per F s' p' q' → p ≤ p'
theorem Per.dvd {F s p n q Q} (hp : 1 ≤ p) (h : Per F s p q) (hm : Min F p) (hn : Per F s n Q) : p ∣ n := by
  rcases Nat.eq_zero_or_pos (n % p) with h0 | h0
  · exact Nat.dvd_of_mod_eq_zero h0
  · have hr : Per F s (n % p) (Q - (n / p : Nat) * q) := by
      intro t ht
      have h1 := hn t ht
      have h2 := h.mul (n / p) (t + n % p) (by omega)
      have h3 := Nat.div_add_mod n p
      rw [show t + n % p + n / p * p = t + n by rw [Nat.mul_comm]; omega, h1] at h2
      omega
    have := hm s (n % p) _ h0 hr
    have := Nat.mod_lt n hp
    omega
theorem exists_min {F s n Q} (hn : 1 ≤ n) (h : Per F s n Q) : ∃ p q, 1 ≤ p ∧ Per F s p q ∧ Min F p := by
  have key : ∀ (k n : Nat) (s : Nat) (Q : Int), n ≤ k → 1 ≤ n → Per F s n Q → ∃ s' p q, 1 ≤ p ∧ Per F s' p q ∧ Min F p := by
    intro k
    induction k with
    | zero => intro n s Q h1 h2; omega
    | succ k ih =>
      intro n s Q hk hn h
      by_cases hm : Min F n
      · exact ⟨s, n, Q, hn, h, hm⟩
      · simp only [Min, Classical.not_forall] at hm
        obtain ⟨s', p', q', hp', hq, hlt⟩ := hm
        exact ih p' s' q' (by omega) hp' hq
  obtain ⟨s', p, q, hp, hq, hm⟩ := key n n s Q (by omega) hn h
  exact ⟨p, q, hp, Per.back hn h hq, hm⟩
/- what the programs ask of a period -/
def Fits (F : Nat → Int) (s n : Nat) (Q : Int) (p : Nat) : Prop := n % p = 0 ∧ Q * p % n = 0 ∧ ∀ t, s ≤ t → t < s + n → F (t + p) = F t + Q * p / n
theorem Fits.per {F s n Q p} (hn : 1 ≤ n) (h : Per F s n Q) (hf : Fits F s n Q p) : Per F s p (Q * p / n) := by
  obtain ⟨_, _, h3⟩ := hf
  intro t ht
  have hd := Nat.div_add_mod (t - s) n
  have hl := Nat.mod_lt (t - s) hn
  have h1 := h.mul ((t - s) / n) (s + (t - s) % n) (by omega)
  have h2 := h.mul ((t - s) / n) (s + (t - s) % n + p) (by omega)
  have h4 := h3 (s + (t - s) % n) (by omega) (by omega)
  have e : s + (t - s) % n + (t - s) / n * n = t := by rw [Nat.mul_comm]; omega
  rw [e] at h1
  rw [show s + (t - s) % n + p + (t - s) / n * n = t + p by omega] at h2
  omega
theorem fits_of {F s n Q p q} (hn : 1 ≤ n) (h : Per F s n Q) (hp : p ∣ n) (hq : Per F s p q) : Fits F s n Q p ∧ Q * p / n = q := by
  obtain ⟨k, rfl⟩ := hp
  have h1 := hq.mul k
  rw [Nat.mul_comm] at h1
  have hQ := h.uniq h1
  have e : Q * (p : Int) = q * ((p * k : Nat) : Int) := by rw [hQ]; push_cast; ac_rfl
  have hne : ((p * k : Nat) : Int) ≠ 0 := by omega
  have e2 : Q * (p : Int) / ((p * k : Nat) : Int) = q := by rw [e]; exact Int.mul_ediv_cancel _ hne
  exact ⟨⟨Nat.mul_mod_right p k, by rw [e]; exact Int.mul_emod_left _ _, fun t ht _ => by rw [e2]; exact hq t ht⟩, e2⟩
theorem Fits.min {F s n Q p} (hn : 1 ≤ n) (h : Per F s n Q) (hl : ∀ p', 1 ≤ p' → p' < p → ¬Fits F s n Q p') : Min F p := by
  obtain ⟨p0, q0, h0, hq0, hm⟩ := exists_min hn h
  have hd := hq0.dvd h0 hm h
  have hf0 := (fits_of hn h hd hq0).1
  have : p ≤ p0 := by
    rcases Nat.lt_or_ge p0 p with h1 | h1
    · exact absurd hf0 (hl p0 h0 h1)
    · exact h1
  intro s' p' q' hp' hq'
  have := hm s' p' q' hp' hq'
  omega
theorem fits_self {F s n Q} (hn : 1 ≤ n) (h : Per F s n Q) : Fits F s n Q n := (fits_of hn h (Nat.dvd_refl n) h).1

/- the least start -/
def MinS (F : Nat → Int) (s p : Nat) (q : Int) : Prop := ∀ s', Per F s' p q → s ≤ s'
theorem minS_of {F s p q} (h : s = 0 ∨ F (s - 1 + p) ≠ F (s - 1) + q) : MinS F s p q := by
  intro s' hs'
  rcases Nat.lt_or_ge s' s with h1 | h1
  · rcases h with h | h
    · omega
    · exact absurd (hs' (s - 1) (by omega)) h
  · exact h1
theorem Per.pred {F s p q} (h : Per F s p q) (h1 : F (s - 1 + p) = F (s - 1) + q) : Per F (s - 1) p q := by
  intro t ht
  rcases Nat.lt_or_ge t s with h2 | h2
  · have : t = s - 1 := by omega
    subst this; exact h1
  · exact h t h2

abbrev INF : Int := 4611686018427387904
def vals (F : Nat → Int) (n : Nat) : List Int := (List.range n).map F
theorem vals_len (F : Nat → Int) (n : Nat) : (vals F n).length = n := by simp [vals]
theorem vals_get {F : Nat → Int} {n t : Nat} (h : t < n) : (vals F n).getD t 0 = F t := by simp [vals, h]
theorem vals_succ (F : Nat → Int) (n : Nat) : vals F (n + 1) = vals F n ++ [F n] := by simp [vals, List.range_succ]
/- the normal form of a function that repeats -/
def NF (F : Nat → Int) (vs : List Int) (p : Nat) (q : Int) : Prop := ∃ s, 1 ≤ p ∧ Per F s p q ∧ Min F p ∧ MinS F s p q ∧ vs = vals F (s + p)
theorem NF.uniq {F vs p q vs' p' q'} (h : NF F vs p q) (h' : NF F vs' p' q') : vs = vs' ∧ p = p' ∧ q = q' := by
  obtain ⟨s, h2, h3, h4, h5, h6⟩ := h
  obtain ⟨s', g2, g3, g4, g5, g6⟩ := h'
  have e1 := h4 s' p' q' g2 g3
  have e2 := g4 s p q h2 h3
  have : p = p' := by omega
  subst this
  have hq := h3.uniq g3
  subst hq
  have e3 := h5 s' g3
  have e4 := g5 s h3
  have : s = s' := by omega
  subst this
  exact ⟨by rw [h6, g6], rfl, rfl⟩
/- what ends in the infinite -/
theorem NF.inf {F : Nat → Int} {m : Nat} (h1 : ∀ t, m ≤ t → F t = INF) (h2 : ∀ t < m, F t ≠ INF) : NF F (vals F (m + 1)) 1 0 := by
  refine ⟨m, by omega, fun t ht => by rw [h1 t ht, h1 (t + 1) (by omega)]; rfl, fun _ p' _ hp' _ => hp', fun s' hs' => ?_, rfl⟩
  rcases Nat.lt_or_ge s' m with h | h
  · have := hs' (m - 1) (by omega)
    rw [show m - 1 + 1 = m by omega, h1 m (by omega)] at this
    exact absurd (by omega) (h2 (m - 1) (by omega))
  · exact h

/-! the function of a curve -/
def val (vs : List Int) (p : Nat) (q : Int) (t : Nat) : Int :=
  if t < vs.length then vs.getD t 0 else
  if vs.getD (t - ((t - vs.length) / p + 1) * p) 0 = INF then INF else vs.getD (t - ((t - vs.length) / p + 1) * p) 0 + ((t - vs.length) / p + 1 : Nat) * q
theorem val_lt {vs p q t} (h : t < vs.length) : val vs p q t = vs.getD t 0 := by simp [val, h]
theorem val_per {vs : List Int} {p : Nat} {q : Int} (hp : 1 ≤ p) (hn : p ≤ vs.length) (hf : ∀ t, vs.length - p ≤ t → t < vs.length → vs.getD t 0 ≠ INF) : Per (val vs p q) (vs.length - p) p q := by
  have idx : ∀ t, vs.length ≤ t → vs.length - p ≤ t - ((t - vs.length) / p + 1) * p ∧ t - ((t - vs.length) / p + 1) * p < vs.length ∧ ((t - vs.length) / p + 1) * p ≤ t := by
    intro t ht
    have h1 := Nat.div_add_mod (t - vs.length) p
    have h2 := Nat.mod_lt (t - vs.length) hp
    have h3 : ((t - vs.length) / p + 1) * p = p * ((t - vs.length) / p) + p := by rw [Nat.add_mul, Nat.one_mul, Nat.mul_comm]
    omega
  intro t ht
  obtain ⟨i1, i2, i3⟩ := idx (t + p) (by omega)
  have hne := hf _ i1 i2
  have e1 : val vs p q (t + p) = vs.getD (t + p - ((t + p - vs.length) / p + 1) * p) 0 + ((t + p - vs.length) / p + 1 : Nat) * q := by
    simp only [val]; rw [if_neg (by omega), if_neg hne]
  rw [e1]
  by_cases hlt : t < vs.length
  · have : (t + p - vs.length) / p = 0 := Nat.div_eq_of_lt (by omega)
    rw [this, val_lt hlt]
    simp
  · obtain ⟨j1, j2, j3⟩ := idx t (by omega)
    have hne' := hf _ j1 j2
    have e2 : val vs p q t = vs.getD (t - ((t - vs.length) / p + 1) * p) 0 + ((t - vs.length) / p + 1 : Nat) * q := by
      simp only [val]; rw [if_neg hlt, if_neg hne']
    have e3 : (t + p - vs.length) / p = (t - vs.length) / p + 1 := by
      rw [show t + p - vs.length = t - vs.length + p by omega, Nat.add_div_right _ hp]
    rw [e2, e3]
    have e4 : t + p - ((t - vs.length) / p + 1 + 1) * p = t - ((t - vs.length) / p + 1) * p := by
      rw [Nat.add_mul ((t - vs.length) / p + 1) 1 p]; omega
    rw [e4]
    generalize (t - vs.length) / p = k
    have : ((k + 1 + 1 : Nat) : Int) * q = ((k + 1 : Nat) : Int) * q + q := by push_cast; rw [Int.add_mul, Int.one_mul]
    omega
def ValidP (vs : List Int) (p i : Int) : Prop :=
  1 ≤ vs.length ∧ vs.length ≤ 400 ∧ 1 ≤ p ∧ p ≤ 120 ∧ p ≤ vs.length ∧ 0 ≤ i ∧ i ≤ 1073741824 ∧
  (∀ j < vs.length, vs.getD j 0 = 4611686018427387904 ∨ 0 ≤ vs.getD j 0 ∧ vs.getD j 0 ≤ 1073741824) ∧
  (∀ j, j + 1 < vs.length → vs.getD j 0 ≤ vs.getD (j + 1) 0) ∧
  (vs.getD (vs.length - 1) 0 = 4611686018427387904 → p = 1 ∧ i = 0) ∧
  (vs.getD (vs.length - 1) 0 ≠ 4611686018427387904 → vs.getD (vs.length - p.toNat) 0 + i ≥ vs.getD (vs.length - 1) 0)
/- what Least returns -/
def LeastP (vs : List Int) (P : Nat) (Q : Int) (vs' : List Int) (p' : Nat) (q' : Int) : Prop :=
  (∃ m, m < vs.length ∧ vs.getD m 0 = INF ∧ (∀ k < m, vs.getD k 0 ≠ INF) ∧ vs' = vs.take (m + 1) ∧ p' = 1 ∧ q' = 0) ∨
  ((∀ k < vs.length, vs.getD k 0 ≠ INF) ∧ NF (val vs P Q) vs' p' q')

structure VF (vs : List Int) (p : Nat) (q : Int) : Prop where
  n1 : 1 ≤ vs.length
  n2 : vs.length ≤ 400
  p1 : 1 ≤ p
  p2 : p ≤ 120
  pn : p ≤ vs.length
  q0 : 0 ≤ q
  q1 : q ≤ 1073741824
  v : ∀ j < vs.length, vs.getD j 0 = INF ∨ 0 ≤ vs.getD j 0 ∧ vs.getD j 0 ≤ 1073741824
  mono : ∀ j k, j ≤ k → k < vs.length → vs.getD j 0 ≤ vs.getD k 0
  inf : vs.getD (vs.length - 1) 0 = INF → p = 1 ∧ q = 0
  fin : vs.getD (vs.length - 1) 0 ≠ INF → vs.getD (vs.length - p) 0 + q ≥ vs.getD (vs.length - 1) 0
theorem mono_of {vs : List Int} (h : ∀ j, j + 1 < vs.length → vs.getD j 0 ≤ vs.getD (j + 1) 0) : ∀ j k, j ≤ k → k < vs.length → vs.getD j 0 ≤ vs.getD k 0 := by
  intro j k hjk
  induction k with
  | zero => intro _; have : j = 0 := by omega
            subst this; exact Int.le_refl _
  | succ k ih =>
    intro hk
    by_cases e : j = k + 1
    · subst e; exact Int.le_refl _
    · have := ih (by omega) (by omega)
      have := h k hk
      omega
theorem ValidP.vf {vs p q} (h : ValidP vs p q) : ∃ p' : Nat, p = p' ∧ VF vs p' q := by
  obtain ⟨h1, h2, h3, h4, h5, h6, h7, h8, h9, h10, h11⟩ := h
  refine ⟨p.toNat, by omega, h1, h2, by omega, by omega, by omega, h6, h7, h8, mono_of h9, fun e => ?_, fun e => h11 e⟩
  have := h10 e
  omega
theorem VF.noinf {vs p q} (h : VF vs p q) (hf : vs.getD (vs.length - 1) 0 ≠ INF) : ∀ k < vs.length, vs.getD k 0 ≠ INF := by
  intro k hk e
  have h1 := h.mono k (vs.length - 1) (by omega) (by omega)
  have := h.v (vs.length - 1) (by have := h.n1; omega)
  rw [e] at h1
  simp only [INF] at *
  omega
theorem VF.val_inf {vs p q} (h : VF vs p q) (hf : vs.getD (vs.length - 1) 0 = INF) {m : Nat} (hm : vs.getD m 0 = INF) : ∀ t, m ≤ t → val vs p q t = INF := by
  intro t ht
  obtain ⟨rfl, rfl⟩ := h.inf hf
  by_cases hlt : t < vs.length
  · rw [val_lt hlt]
    have h1 := h.mono m t ht hlt
    have := h.v t hlt
    rw [hm] at h1
    simp only [INF] at *
    omega
  · simp only [val]
    rw [if_neg hlt]
    have : t - ((t - vs.length) / 1 + 1) * 1 = vs.length - 1 := by have := h.n1; omega
    rw [this, if_pos hf]
theorem LeastP.nf {vs p q vs' p' q'} (h : VF vs p q) (hl : LeastP vs p q vs' p' q') : NF (val vs p q) vs' p' q' := by
  rcases hl with ⟨m, h1, h2, h3, rfl, rfl, rfl⟩ | ⟨_, h1⟩
  · have hf : vs.getD (vs.length - 1) 0 = INF := by
      have h4 := h.mono m (vs.length - 1) (by omega) (by omega)
      have := h.v (vs.length - 1) (by omega)
      rw [h2] at h4
      simp only [INF] at *
      omega
    have e : vs.take (m + 1) = vals (val vs p q) (m + 1) := by
      apply List.ext_getElem
      · rw [vals_len, List.length_take]; omega
      · intro i h5 h6
        rw [vals_len] at h6
        simp only [vals, List.getElem_map, List.getElem_range, List.getElem_take]
        rw [val_lt (by omega), List.getD_eq_getElem?_getD, List.getElem?_eq_getElem (by omega)]
        rfl
    rw [e]
    exact NF.inf (h.val_inf hf h2) (fun t ht => by rw [val_lt (by omega)]; exact h3 t ht)
  · exact h1
def MadeP (vs : List Int) (P : Nat) (Q : Int) (vs' : List Int) (p' q' e : Int) : Prop :=
  ∃ ws p1 q1, LeastP vs P Q ws p1 q1 ∧ ((ValidP ws p1 q1 ∧ vs' = ws ∧ p' = p1 ∧ q' = q1 ∧ e = 0) ∨ (¬ValidP ws p1 q1 ∧ vs' = [] ∧ p' = 0 ∧ q' = 0 ∧ e = 3))
def NormP (vs : List Int) (p q : Int) (vs' : List Int) (p' q' e : Int) : Prop :=
  (e = 0 ∧ ∃ p0 p1 : Nat, p = p0 ∧ p' = p1 ∧ VF vs p0 q ∧ NF (val vs p0 q) vs' p1 q') ∨ (¬ValidP vs p q ∧ vs' = [] ∧ p' = 0 ∧ q' = 0 ∧ e = 1)
end Go.Cv
end
section
namespace Go.Cv
def Mono (F : Nat → Int) : Prop := ∀ t, F t ≤ F (t + 1)
theorem Mono.le {F} (h : Mono F) : ∀ {s t : Nat}, s ≤ t → F s ≤ F t := by
  intro s t hst
  induction t with
  | zero => have : s = 0 := by omega
            subst this; exact Int.le_refl _
  | succ t ih =>
    by_cases e : s = t + 1
    · subst e; exact Int.le_refl _
    · exact Int.le_trans (ih (by omega)) (h t)
theorem VF.per {vs p q} (h : VF vs p q) : Per (val vs p q) (vs.length - p) p q := by
  by_cases hf : vs.getD (vs.length - 1) 0 = INF
  · obtain ⟨rfl, rfl⟩ := h.inf hf
    have hi := h.val_inf hf hf
    intro t ht
    rw [hi t (by omega), hi (t + 1) (by omega)]; rfl
  · exact val_per h.p1 h.pn (fun t _ ht => h.noinf hf t ht)
theorem VF.mono' {vs p q} (h : VF vs p q) : Mono (val vs p q) := by
  have hper := h.per
  have n1 := h.n1
  have p1 := h.p1
  have pn := h.pn
  intro t
  induction t using Nat.strongRecOn with
  | _ t ih =>
    by_cases h1 : t + 1 < vs.length
    · rw [val_lt (by omega), val_lt h1]; exact h.mono t (t + 1) (by omega) h1
    · by_cases h2 : t + 1 = vs.length
      · have e := hper (vs.length - p) (by omega)
        rw [show vs.length - p + p = t + 1 by omega] at e
        rw [e, val_lt (by omega), val_lt (by omega)]
        rw [show t = vs.length - 1 by omega]
        by_cases hf : vs.getD (vs.length - 1) 0 = INF
        · obtain ⟨rfl, rfl⟩ := h.inf hf
          omega
        · have := h.fin hf; omega
      · have e1 := hper (t - p) (by omega)
        have e2 := hper (t + 1 - p) (by omega)
        have := ih (t - p) (by omega)
        rw [show t - p + p = t by omega] at e1
        rw [show t + 1 - p + p = t + 1 by omega] at e2
        rw [show t - p + 1 = t + 1 - p by omega] at this
        omega
theorem VF.nonneg {vs p q} (h : VF vs p q) (t : Nat) : 0 ≤ val vs p q t := by
  have h0 := h.mono'.le (Nat.zero_le t)
  have : 0 ≤ val vs p q 0 := by
    rw [val_lt (by have := h.n1; omega)]
    have := h.v 0 (by have := h.n1; omega)
    simp only [INF] at this; omega
  omega
/- the function of a normal form -/
theorem NF.val {F vs p q} (h : NF F vs p q) (hi : q ≠ 0 → ∀ t < vs.length, F t ≠ INF) : ∀ t, val vs p q t = F t := by
  obtain ⟨s, p1, hper, hmin, hms, rfl⟩ := h
  intro t
  rw [vals_len] at hi
  by_cases hlt : t < s + p
  · rw [val_lt (by rw [vals_len]; exact hlt), vals_get hlt]
  · simp only [Cv.val]
    rw [if_neg (by rw [vals_len]; exact hlt), vals_len]
    have hd := Nat.div_add_mod (t - (s + p)) p
    have hm := Nat.mod_lt (t - (s + p)) p1
    have hk : ((t - (s + p)) / p + 1) * p = p * ((t - (s + p)) / p) + p := by rw [Nat.add_mul, Nat.one_mul, Nat.mul_comm]
    generalize (t - (s + p)) / p + 1 = k at *
    have hidx : t - k * p < s + p ∧ s ≤ t - k * p ∧ k * p ≤ t := by omega
    rw [vals_get hidx.1]
    have e := hper.mul k (t - k * p) hidx.2.1
    rw [show t - k * p + k * p = t by omega] at e
    rw [e]
    split
    · rename_i hINF
      by_cases hq : q = 0
      · subst hq; rw [hINF]; simp
      · exact absurd hINF (hi hq _ hidx.1)
    · rfl
theorem NF.vf {vs p q vs' p' q'} (h : VF vs p q) (hn : NF (Cv.val vs p q) vs' p' q') : VF vs' p' q' ∧ ∀ t, Cv.val vs' p' q' t = Cv.val vs p q t := by
  have hper := h.per
  have hmo := h.mono'
  have n1 := h.n1
  have p1 := h.p1
  have pn := h.pn
  have hn0 := hn
  obtain ⟨s, g1, g2, g3, g4, g5⟩ := hn
  have hpp : p' ≤ p := g3 _ p q p1 hper
  have hb := Per.back p1 hper g2
  have hs : s ≤ vs.length - p := g4 _ hb
  have hlen : vs'.length = s + p' := by rw [g5, vals_len]
  have hq0 : 0 ≤ q' := by have := g2 s (Nat.le_refl _); have := hmo.le (show s ≤ s + p' by omega); omega
  have hdvd := Per.dvd g1 hb g3 hper
  obtain ⟨k, hk⟩ := hdvd
  have hqk : q = k * q' := by
    have := hb.mul k
    rw [show k * p' = p by rw [hk, Nat.mul_comm]] at this
    exact hper.uniq this
  have hk1 : 1 ≤ k := by
    rcases Nat.eq_zero_or_pos k with h0 | h0
    · subst h0; omega
    · exact h0
  have hqq : q' ≤ q := by
    rw [hqk]
    have : 1 * q' ≤ (k : Int) * q' := Int.mul_le_mul_of_nonneg_right (by omega) hq0
    omega
  have hget : ∀ j, j < vs'.length → vs'.getD j 0 = vs.getD j 0 := by
    intro j hj
    rw [g5, vals_get (by omega), val_lt (by omega)]
  have hi : q' ≠ 0 → ∀ t < vs'.length, Cv.val vs p q t ≠ INF := by
    intro hq t ht
    rw [val_lt (by omega)]
    apply h.noinf _ t (by omega)
    intro hinf
    have := h.inf hinf
    apply hq
    have e := this.2
    rw [hqk] at e
    have h2 : 1 * q' ≤ (k : Int) * q' := Int.mul_le_mul_of_nonneg_right (by omega) hq0
    omega
  refine ⟨⟨by omega, by have := h.n2; omega, g1, by have := h.p2; omega, by omega, hq0, by have := h.q1; omega, ?_, ?_, ?_, ?_⟩, hn0.val hi⟩
  · intro j hj; rw [hget j hj]; exact h.v j (by omega)
  · intro j k hjk hk; rw [hget j (by omega), hget k hk]; exact h.mono j k hjk (by omega)
  · intro he
    rw [hget _ (by omega)] at he
    have hlast : vs.getD (vs.length - 1) 0 = INF := by
      have h4 := h.mono (vs'.length - 1) (vs.length - 1) (by omega) (by omega)
      have := h.v (vs.length - 1) (by omega)
      rw [he] at h4
      simp only [INF] at *
      omega
    obtain ⟨rfl, rfl⟩ := h.inf hlast
    exact ⟨by omega, by omega⟩
  · intro he
    have e := g2 s (Nat.le_refl _)
    have hle := hmo.le (show s + p' - 1 ≤ s + p' by omega)
    rw [hget _ (by omega), hget _ (by omega), hlen, show s + p' - p' = s by omega, ← val_lt (vs := vs) (p := p) (q := q) (t := s) (by omega), ← val_lt (vs := vs) (p := p) (q := q) (t := s + p' - 1) (by omega)]
    omega
/-! ### what the builders of curves return -/
def CheckP (v : List Int) (p q : Int) (x : List Int × Int × Int × Int) : Prop :=
  ((400 < v.length ∨ ∃ j < v.length, v.getD j 0 ≠ INF ∧ 1073741824 < v.getD j 0) ∧ x = ([], 0, 0, 3)) ∨
  (v.length ≤ 400 ∧ (∀ j < v.length, v.getD j 0 = INF ∨ v.getD j 0 ≤ 1073741824) ∧ x = (v, p, q, 0))
def BuildP (F : Nat → Int) (N : Nat) (x : List Int × Int × Int × Int) : Prop :=
  (∃ m, m < N ∧ F m = INF ∧ (∀ k < m, F k ≠ INF) ∧ CheckP (vals F (m + 1)) 1 0 x) ∨
  ((∀ k < N, F k ≠ INF) ∧ ∃ (vs : List Int) (p : Nat) (q : Int), NF F vs p q ∧ vs.length ≤ N ∧ (((120 < p ∨ 1073741824 < q) ∧ x = ([], 0, 0, 3)) ∨ (p ≤ 120 ∧ q ≤ 1073741824 ∧ CheckP vs p q x)))

/- the normal form of a function, if it is a curve -/
def MkP (F : Nat → Int) (x : List Int × Int × Int × Int) : Prop :=
  (∃ (vs : List Int) (p : Nat) (q : Int), NF F vs p q ∧ VF vs p q ∧ x = (vs, (p : Int), q, 0)) ∨ ((∀ (vs : List Int) (p : Nat) (q : Int), NF F vs p q → ¬VF vs p q) ∧ x = ([], 0, 0, 3))
theorem MkP.uniq {F x y} (h : MkP F x) (h' : MkP F y) : x = y := by
  rcases h with ⟨vs, p, q, h1, h2, rfl⟩ | ⟨h1, rfl⟩
  · rcases h' with ⟨vs', p', q', h1', h2', rfl⟩ | ⟨h1', rfl⟩
    · obtain ⟨rfl, rfl, rfl⟩ := h1.uniq h1'; rfl
    · exact absurd h2 (h1' _ _ _ h1)
  · rcases h' with ⟨vs', p', q', h1', h2', rfl⟩ | ⟨h1', rfl⟩
    · exact absurd h2' (h1 _ _ _ h1')
    · rfl
theorem VF.valid {vs : List Int} {p : Nat} {q : Int} (h : VF vs p q) : ValidP vs p q := by
  have n1 := h.n1; have n2 := h.n2; have p1 := h.p1; have p2 := h.p2; have pn := h.pn
  refine ⟨by omega, by omega, by omega, by omega, by omega, h.q0, h.q1, h.v, fun j hj => h.mono j (j + 1) (by omega) hj, fun e => ?_, fun e => ?_⟩
  · have := h.inf e; omega
  · rw [Int.toNat_natCast]; exact h.fin e
theorem checkP_mk {F : Nat → Int} {vs : List Int} {p : Nat} {q : Int} {x : List Int × Int × Int × Int} (h0 : 0 ≤ F 0) (hm : Mono F) (h : NF F vs p q) (hp : p ≤ 120) (hq : q ≤ 1073741824) (hle : ∀ j < vs.length, F j ≤ INF)
    (hi : vs.getD (vs.length - 1) 0 = INF → p = 1 ∧ q = 0) (hc : CheckP vs p q x) : MkP F x := by
  have h' := h
  obtain ⟨s, p1, hper, hmin, hms, rfl⟩ := h
  rw [vals_len] at hi hle
  rcases hc with ⟨hbad, rfl⟩ | ⟨hl, hv, rfl⟩
  · refine .inr ⟨fun vs' p' q' hnf hvf => ?_, rfl⟩
    obtain ⟨rfl, rfl, rfl⟩ := h'.uniq hnf
    rcases hbad with hbad | ⟨j, hj, h1, h2⟩
    · have := hvf.n2; omega
    · have := hvf.v j hj; simp only [INF] at *; omega
  · refine .inl ⟨_, _, _, h', ⟨by rw [vals_len]; omega, hl, p1, hp, by rw [vals_len]; omega, ?_, hq, ?_, ?_, by rw [vals_len]; exact hi, ?_⟩, rfl⟩
    · have := hper s (Nat.le_refl _); have := hm.le (show s ≤ s + p by omega); omega
    · intro j hj
      have h1 := hv j hj
      rw [vals_len] at hj
      rw [vals_get hj] at h1 ⊢
      have := hm.le (Nat.zero_le j)
      rcases h1 with h1 | h1
      · exact .inl h1
      · exact .inr ⟨by omega, h1⟩
    · intro j k hjk hk
      rw [vals_len] at hk
      rw [vals_get (by omega), vals_get hk]; exact hm.le hjk
    · intro _
      rw [vals_len, show s + p - p = s by omega, vals_get (by omega), vals_get (by omega)]
      have := hper s (Nat.le_refl _); have := hm.le (show s + p - 1 ≤ s + p by omega); omega
theorem buildP_mk {F : Nat → Int} {N : Nat} {x : List Int × Int × Int × Int} (h0 : 0 ≤ F 0) (hm : Mono F) (hle : ∀ t < N, F t ≤ INF) (hinf : ∀ m < N, F m = INF → ∀ t, m ≤ t → F t = INF) (h : BuildP F N x) : MkP F x := by
  rcases h with ⟨m, h1, h2, h3, hc⟩ | ⟨h1, vs, p, q, hnf, hl, hc⟩
  · have hnf : NF F (vals F (m + 1)) 1 0 := NF.inf (hinf m h1 h2) h3
    refine checkP_mk (p := 1) h0 hm hnf (by omega) (by omega) (fun j hj => ?_) (fun _ => ⟨rfl, rfl⟩) hc
    rw [vals_len] at hj; exact hle j (by omega)
  · rcases hc with ⟨hbad, rfl⟩ | ⟨hp, hq, hc⟩
    · refine .inr ⟨fun vs' p' q' hnf' hvf => ?_, rfl⟩
      obtain ⟨rfl, rfl, rfl⟩ := hnf.uniq hnf'
      have := hvf.p2; have := hvf.q1; omega
    · refine checkP_mk h0 hm hnf (by omega) hq (fun j hj => hle j (by omega)) (fun e => ?_) hc
      exfalso
      obtain ⟨s, p1, _, _, _, rfl⟩ := hnf
      rw [vals_len] at e hl
      rw [vals_get (by omega)] at e
      exact h1 _ (by omega) e
/- the function of a list that repeats with a gain -/
theorem val_of_per {F : Nat → Int} {vs : List Int} {P : Nat} {Q : Int} (hP : 1 ≤ P) (hn : P ≤ vs.length) (hv : ∀ t < vs.length, F t = vs.getD t 0) (hf : ∀ k < vs.length, vs.getD k 0 ≠ INF) (hper : Per F (vs.length - P) P Q) : ∀ t, val vs P Q t = F t := by
  have hp2 := val_per (q := Q) hP hn (fun t _ ht => hf t ht)
  intro t
  induction t using Nat.strongRecOn with
  | _ t ih =>
    by_cases h1 : t < vs.length
    · rw [val_lt h1, hv t h1]
    · have e1 := hp2 (t - P) (by omega)
      have e2 := hper (t - P) (by omega)
      rw [show t - P + P = t by omega] at e1 e2
      rw [e1, e2, ih (t - P) (by omega)]
theorem madeP_mk {F : Nat → Int} {vs : List Int} {P : Nat} {Q : Int} {x : List Int × Int × Int × Int} (hP : 1 ≤ P) (hn : P ≤ vs.length) (hv : ∀ t < vs.length, F t = vs.getD t 0)
    (hinf : ∀ m < vs.length, F m = INF → ∀ t, m ≤ t → F t = INF) (hper : (∀ t < vs.length, F t ≠ INF) → Per F (vs.length - P) P Q) (h : MadeP vs P Q x.1 x.2.1 x.2.2.1 x.2.2.2) : MkP F x := by
  obtain ⟨ws, p1, q1, hL, hx⟩ := h
  have hnf : NF F ws p1 q1 := by
    rcases hL with ⟨m, h1, h2, h3, rfl, rfl, rfl⟩ | ⟨h1, h2⟩
    · have e : vs.take (m + 1) = vals F (m + 1) := by
        apply List.ext_getElem
        · rw [vals_len, List.length_take]; omega
        · intro i h5 h6
          rw [vals_len] at h6
          simp only [vals, List.getElem_map, List.getElem_range, List.getElem_take]
          rw [hv i (by omega), List.getD_eq_getElem?_getD, List.getElem?_eq_getElem (by omega)]
          rfl
      rw [e]
      exact NF.inf (hinf m h1 (by rw [hv m h1]; exact h2)) (fun t ht => by rw [hv t (by omega)]; exact h3 t ht)
    · have : val vs P Q = F := funext (val_of_per hP hn hv h1 (hper (fun t ht => by rw [hv t ht]; exact h1 t ht)))
      rw [← this]; exact h2
  obtain ⟨x1, x2, x3, x4⟩ := x
  rcases hx with ⟨hv, rfl, rfl, rfl, rfl⟩ | ⟨hv, rfl, rfl, rfl, rfl⟩
  · obtain ⟨p', e, hvf⟩ := hv.vf
    have : p1 = p' := by omega
    subst this
    exact .inl ⟨_, _, _, hnf, hvf, rfl⟩
  · refine .inr ⟨fun vs' p' q' hnf' hvf => ?_, rfl⟩
    obtain ⟨rfl, rfl, rfl⟩ := hnf.uniq hnf'
    exact hv hvf.valid
theorem VF.sound {vs p q F} (h : VF vs p q) (hn : NF F vs p q) : ∀ t, val vs p q t = F t := by
  refine hn.val (fun hq t ht e => ?_)
  obtain ⟨s, _, _, _, _, rfl⟩ := hn
  rw [vals_len] at ht
  rw [← vals_get (F := F) ht] at e
  by_cases hf : (vals F (s + p)).getD ((vals F (s + p)).length - 1) 0 = INF
  · exact hq (h.inf hf).2
  · exact h.noinf hf t (by rw [vals_len]; exact ht) e
end Go.Cv
end
section
namespace Go.Cv
/-! plain laws of what is left of a curve -/
abbrev C3 := List Int × Nat × Int
def cv (a : C3) (t : Nat) : Int := val a.1 a.2.1 a.2.2 t
abbrev VC (a : C3) : Prop := VF a.1 a.2.1 a.2.2
def infAt (vs : List Int) (t : Nat) : Prop := vs.getD (min t (vs.length - 1)) 0 = INF
instance (vs : List Int) (t : Nat) : Decidable (infAt vs t) := inferInstanceAs (Decidable (_ = _))
def FinC (a : C3) : Prop := a.1.getD (a.1.length - 1) 0 ≠ INF
instance (a : C3) : Decidable (FinC a) := inferInstanceAs (Decidable (¬ _ = _))
theorem VF.val_le {vs p q} (h : VF vs p q) (hf : vs.getD (vs.length - 1) 0 ≠ INF) (t : Nat) : val vs p q t ≤ 1073741824 + (t + 1 : Nat) * q := by
  have n1 := h.n1
  have p1 := h.p1
  have pn := h.pn
  have q0 := h.q0
  have hv : ∀ j, j < vs.length → vs.getD j 0 ≤ 1073741824 := by
    intro j hj
    have h1 := h.v j hj
    have h2 := h.noinf hf j hj
    simp only [INF] at *; omega
  by_cases hlt : t < vs.length
  · rw [val_lt hlt]
    have h1 := hv t hlt
    have : (0 : Int) ≤ (t + 1 : Nat) * q := Int.mul_nonneg (by omega) q0
    omega
  · simp only [val]
    rw [if_neg hlt]
    have hd := Nat.div_le_self (t - vs.length) p
    have h1 := Nat.div_add_mod (t - vs.length) p
    have h2 := Nat.mod_lt (t - vs.length) p1
    have h3 : ((t - vs.length) / p + 1) * p = p * ((t - vs.length) / p) + p := by rw [Nat.add_mul, Nat.one_mul, Nat.mul_comm]
    have hidx : t - ((t - vs.length) / p + 1) * p < vs.length := by omega
    rw [if_neg (h.noinf hf _ hidx)]
    have h4 := hv _ hidx
    have h5 : (((t - vs.length) / p + 1 : Nat) : Int) * q ≤ (t + 1 : Nat) * q := Int.mul_le_mul_of_nonneg_right (by omega) q0
    omega
theorem VF.inf_iff {vs p q} (h : VF vs p q) {t : Nat} (ht : t ≤ 1048576) : val vs p q t = INF ↔ infAt vs t := by
  have n1 := h.n1
  unfold infAt
  by_cases hlt : t < vs.length
  · rw [val_lt hlt, Nat.min_eq_left (by omega)]
  · rw [Nat.min_eq_right (by omega)]
    constructor
    · intro he
      apply Classical.byContradiction
      intro hf
      have h1 := h.val_le hf t
      have h2 : ((t + 1 : Nat) : Int) * q ≤ 1048577 * 1073741824 := Int.mul_le_mul (by omega) h.q1 h.q0 (by omega)
      rw [he] at h1
      simp only [INF] at h1
      omega
    · intro he
      exact h.val_inf he he t (by omega)
theorem VF.infAt_mono {vs p q} (h : VF vs p q) {s t : Nat} (hst : s ≤ t) (hs : infAt vs s) : infAt vs t := by
  have n1 := h.n1
  unfold infAt at *
  have h1 := h.mono (min s (vs.length - 1)) (min t (vs.length - 1)) (by omega) (by omega)
  have h2 := h.v (min t (vs.length - 1)) (by omega)
  rw [hs] at h1
  simp only [INF] at *
  omega
theorem FinC.not {a : C3} (h : VC a) (hf : FinC a) (t : Nat) : ¬infAt a.1 t := by
  have n1 := h.n1
  exact h.noinf hf _ (by omega)
theorem inf_late {a : C3} (hf : ¬FinC a) {t : Nat} (ht : a.1.length - 1 ≤ t) : infAt a.1 t := by
  unfold FinC at hf
  unfold infAt
  rw [Nat.min_eq_right ht]
  exact Classical.not_not.1 hf
def frm (a b : C3) : Nat := max (a.1.length - a.2.1) (b.1.length - b.2.1)
def com (a b : C3) : Nat := Nat.lcm a.2.1 b.2.1
theorem com_pos {a b : C3} (ha : VC a) (hb : VC b) : 1 ≤ com a b := Nat.lcm_pos ha.p1 hb.p1
theorem cv_com_l {a b : C3} (ha : VC a) {t : Nat} (ht : frm a b ≤ t) : cv a (t + com a b) = cv a t + a.2.2 * ((com a b / a.2.1 : Nat) : Int) := by
  obtain ⟨k, hk⟩ := Nat.dvd_lcm_left a.2.1 b.2.1
  have h1 := ha.per.mul k t (by unfold frm at ht; omega)
  have e : com a b = k * a.2.1 := by unfold com; rw [hk, Nat.mul_comm]
  have e2 : com a b / a.2.1 = k := by rw [e]; exact Nat.mul_div_cancel k ha.p1
  unfold cv
  rw [e2, e, h1, Int.mul_comm]
theorem cv_com_r {a b : C3} (hb : VC b) {t : Nat} (ht : frm a b ≤ t) : cv b (t + com a b) = cv b t + b.2.2 * ((com a b / b.2.1 : Nat) : Int) := by
  obtain ⟨k, hk⟩ := Nat.dvd_lcm_right a.2.1 b.2.1
  have h1 := hb.per.mul k t (by unfold frm at ht; omega)
  have e : com a b = k * b.2.1 := by unfold com; rw [hk, Nat.mul_comm]
  have e2 : com a b / b.2.1 = k := by rw [e]; exact Nat.mul_div_cancel k hb.p1
  unfold cv
  rw [e2, e, h1, Int.mul_comm]
theorem frm_le {a b : C3} (ha : VC a) (hb : VC b) : frm a b ≤ 399 := by
  have := ha.n2; have := ha.p1; have := hb.n2; have := hb.p1
  unfold frm; omega
theorem cv_nonneg {a : C3} (ha : VC a) (t : Nat) : 0 ≤ cv a t := ha.nonneg t
/-! ### bounds -/
theorem cv_small {a : C3} (ha : VC a) {t : Nat} (ht : t ≤ 1048576) (hi : ¬infAt a.1 t) : cv a t ≤ 2000000000000000 := by
  have n1 := ha.n1
  by_cases hf : FinC a
  · have h1 := ha.val_le hf t
    have h2 : ((t + 1 : Nat) : Int) * a.2.2 ≤ 1048577 * 1073741824 := Int.mul_le_mul (by omega) ha.q1 ha.q0 (by omega)
    unfold cv; omega
  · have hlt : t < a.1.length - 1 := by
      rcases Nat.lt_or_ge t (a.1.length - 1) with h | h
      · exact h
      · exact absurd (inf_late hf h) hi
    unfold cv
    rw [val_lt (by omega)]
    have h1 := ha.v t (by omega)
    unfold infAt at hi
    rw [Nat.min_eq_left (by omega)] at hi
    simp only [INF] at *
    omega
end Go.Cv
end
section
namespace Go.Cv
def win (f g : C3) : Nat := max f.1.length g.1.length
/-! ### sums -/
def pls (a b : C3) (t : Nat) : Int := if infAt a.1 t ∨ infAt b.1 t then INF else cv a t + cv b t
theorem pls_nonneg {a b : C3} (ha : VC a) (hb : VC b) (t : Nat) : 0 ≤ pls a b t := by
  have := cv_nonneg ha t
  have := cv_nonneg hb t
  unfold pls; split
  · simp [INF]
  · omega
theorem pls_le {a b : C3} (ha : VC a) (hb : VC b) {t : Nat} (ht : t ≤ 1048576) : pls a b t ≤ INF := by
  unfold pls; split
  · exact Int.le_refl _
  · rename_i h
    have h1 := cv_small ha ht (fun h' => h (.inl h'))
    have h2 := cv_small hb ht (fun h' => h (.inr h'))
    simp only [INF]; omega
theorem pls_inf {a b : C3} (ha : VC a) (hb : VC b) {t : Nat} (ht : t ≤ 1048576) : pls a b t = INF ↔ infAt a.1 t ∨ infAt b.1 t := by
  constructor
  · intro h
    apply Classical.byContradiction
    intro hn
    have h1 := cv_small ha ht (fun h' => hn (.inl h'))
    have h2 := cv_small hb ht (fun h' => hn (.inr h'))
    unfold pls at h
    rw [if_neg hn] at h
    simp only [INF] at h; omega
  · intro h; unfold pls; rw [if_pos h]
theorem pls_inf_late {a b : C3} (ha : VC a) (hb : VC b) {m : Nat} (hm : m ≤ 1048576) (h : pls a b m = INF) : ∀ t, m ≤ t → pls a b t = INF := by
  intro t ht
  have h1 := (pls_inf ha hb hm).1 h
  unfold pls
  rw [if_pos]
  rcases h1 with h1 | h1
  · exact .inl (ha.infAt_mono ht h1)
  · exact .inr (hb.infAt_mono ht h1)
def sgn (a b : C3) : Int := a.2.2 * ((com a b / a.2.1 : Nat) : Int) + b.2.2 * ((com a b / b.2.1 : Nat) : Int)
theorem pls_per {a b : C3} (ha : VC a) (hb : VC b) (h : FinC a ∧ FinC b) : Per (pls a b) (frm a b) (com a b) (sgn a b) := by
  intro t ht
  unfold pls
  rw [if_neg (fun h' => h'.elim (h.1.not ha _) (h.2.not hb _)), if_neg (fun h' => h'.elim (h.1.not ha _) (h.2.not hb _)), cv_com_l ha ht, cv_com_r hb ht]
  unfold sgn; omega
theorem pls_late {a b : C3} (h : ¬(FinC a ∧ FinC b)) {t : Nat} (ht : win a b ≤ t) : pls a b t = INF := by
  unfold pls
  rw [if_pos]
  unfold win at ht
  by_cases fa : FinC a
  · exact .inr (inf_late (fun fb => h ⟨fa, fb⟩) (by omega))
  · exact .inl (inf_late fa (by omega))
/- what the reading of a result tells -/
theorem mk_read {F : Nat → Int} {x : List Int × Int × Int × Int} (h : MkP F x) (he : x.2.2.2 = 0) : ∃ c : C3, VC c ∧ NF F c.1 c.2.1 c.2.2 ∧ x = (c.1, (c.2.1 : Int), c.2.2, 0) ∧ ∀ t, cv c t = F t := by
  rcases h with ⟨vs, p, q, h1, h2, rfl⟩ | ⟨_, rfl⟩
  · exact ⟨(vs, p, q), h2, h1, rfl, h2.sound h1⟩
  · simp at he
/- there is a normal form -/
theorem nf_exists {F : Nat → Int} {s n : Nat} {Q : Int} (hn : 1 ≤ n) (h : Per F s n Q) : ∃ (vs : List Int) (p : Nat) (q : Int), NF F vs p q ∧ vs.length ≤ s + n ∧ p ≤ n ∧ p ∣ n ∧ ∃ k : Nat, 1 ≤ k ∧ Q = k * q := by
  obtain ⟨p, q, p1, hp, hm⟩ := exists_min hn h
  have hd := hp.dvd p1 hm h
  obtain ⟨k, hk⟩ := hd
  -- the least start
  have key : ∀ m, m ≤ s → Per F m p q → ∃ s0, s0 ≤ m ∧ Per F s0 p q ∧ MinS F s0 p q := by
    intro m
    induction m with
    | zero => intro _ hp; exact ⟨0, by omega, hp, fun s' _ => by omega⟩
    | succ m ih =>
      intro hm hp
      by_cases h0 : Per F m p q
      · obtain ⟨s0, h1, h2, h3⟩ := ih (by omega) h0
        exact ⟨s0, by omega, h2, h3⟩
      · refine ⟨m + 1, by omega, hp, fun s' hs' => ?_⟩
        rcases Nat.lt_or_ge s' (m + 1) with h1 | h1
        · exact absurd (hs'.mono (show s' ≤ m by omega)) h0
        · exact h1
  obtain ⟨s0, h1, h2, h3⟩ := key s (Nat.le_refl _) hp
  have hk1 : 1 ≤ k := by
    rcases Nat.eq_zero_or_pos k with h0 | h0
    · subst h0; omega
    · exact h0
  refine ⟨vals F (s0 + p), p, q, ⟨s0, p1, h2, hm, h3, rfl⟩, ?_, ?_, ⟨k, hk⟩, k, hk1, ?_⟩
  · rw [vals_len]; have : p * 1 ≤ p * k := Nat.mul_le_mul_left _ hk1; omega
  · have : p * 1 ≤ p * k := Nat.mul_le_mul_left _ hk1; omega
  · have h4 := hp.mul k
    rw [show k * p = n by rw [hk, Nat.mul_comm]] at h4
    exact h.uniq h4
/- a monotone function with small values and a period is a curve -/
theorem vf_exists {F : Nat → Int} {s n : Nat} {Q : Int} (hn : 1 ≤ n) (h : Per F s n Q) (h0 : 0 ≤ F 0) (hm : Mono F) (hlen : s + n ≤ 400) (hn2 : n ≤ 120) (hQ : Q ≤ 1073741824) (hb : ∀ t < s + n, F t ≤ 1073741824) :
    ∃ c : C3, NF F c.1 c.2.1 c.2.2 ∧ VC c ∧ c.1.length ≤ s + n ∧ c.2.1 ≤ n ∧ c.2.1 ∣ n := by
  obtain ⟨vs, p, q, hnf, h1, h2, hd, k, hk, h3⟩ := nf_exists hn h
  have hnf' := hnf
  obtain ⟨s0, p1, hper, _, _, rfl⟩ := hnf
  rw [vals_len] at h1
  have hq0 : 0 ≤ q := by have := hper s0 (Nat.le_refl _); have := hm.le (show s0 ≤ s0 + p by omega); omega
  have hq : q ≤ Q := by
    rw [h3]
    have : 1 * q ≤ (k : Int) * q := Int.mul_le_mul_of_nonneg_right (by omega) hq0
    omega
  have hfin : (vals F (s0 + p)).getD ((vals F (s0 + p)).length - 1) 0 ≠ INF := by
    rw [vals_len, vals_get (by omega)]
    have := hb (s0 + p - 1) (by omega)
    simp only [INF]; omega
  have hvf : VF (vals F (s0 + p)) p q := by
    refine ⟨by rw [vals_len]; omega, by rw [vals_len]; omega, p1, by omega, by rw [vals_len]; omega, hq0, by omega, ?_, ?_, fun e => absurd e hfin, ?_⟩
    · intro j hj
      rw [vals_len] at hj
      rw [vals_get hj]
      have := hm.le (Nat.zero_le j)
      exact .inr ⟨by omega, hb j (by omega)⟩
    · intro j k hjk hk
      rw [vals_len] at hk
      rw [vals_get (by omega), vals_get hk]; exact hm.le hjk
    · intro _
      rw [vals_len, vals_get (show s0 + p - p < s0 + p by omega), vals_get (show s0 + p - 1 < s0 + p by omega)]
      have := hper s0 (Nat.le_refl _); have := hm.le (show s0 + p - 1 ≤ s0 + p by omega)
      rw [show s0 + p - p = s0 by omega]
      omega
  exact ⟨(vals F (s0 + p), p, q), hnf', hvf, by rw [vals_len]; omega, h2, hd⟩
end Go.Cv
end
section
namespace Go.Fq
/-! Fractions of the program as rational numbers. -/
def MT : Nat := 1073741824
def Sm (r : Rat) : Prop := r.num.natAbs ≤ MT ∧ r.den ≤ MT
instance (r : Rat) : Decidable (Sm r) := inferInstanceAs (Decidable (_ ∧ _))
def VF (a : Int × Int) : Prop := 1 ≤ a.2 ∧ a.2 ≤ 1073741824 ∧ -1073741824 ≤ a.1 ∧ a.1 ≤ 1073741824 ∧ Nat.gcd a.1.natAbs a.2.natAbs = 1
instance (a : Int × Int) : Decidable (VF a) := inferInstanceAs (Decidable (_ ∧ _ ∧ _ ∧ _ ∧ _))
def val (a : Int × Int) : Rat := Rat.divInt a.1 a.2
def enc (r : Rat) : Int × Int := (r.num, r.den)
def fenc (r : Rat) : Int × Int × Int := if Sm r then (r.num, r.den, 0) else (0, 0, 3)
def fnew (n d : Int) : Int × Int × Int := if d = 0 then (0, 0, 2) else fenc (Rat.divInt n d)
theorem VF.num {a} (h : VF a) : (val a).num = a.1 := by
  obtain ⟨h1, h2, h3, h4, h5⟩ := h
  unfold val
  rw [Rat.num_divInt, Int.gcd, Nat.gcd_comm, h5]
  have : a.2.sign = 1 := Int.sign_eq_one_of_pos (by omega)
  simp [this]
theorem VF.den {a} (h : VF a) : ((val a).den : Int) = a.2 := by
  obtain ⟨h1, h2, h3, h4, h5⟩ := h
  unfold val
  rw [Rat.den_divInt, Int.gcd, Nat.gcd_comm, h5, if_neg (by omega)]
  simp; omega
theorem VF.sm {a} (h : VF a) : Sm (val a) := by
  have h1 := h.num; have h2 := h.den
  obtain ⟨k1, k2, k3, k4, k5⟩ := h
  unfold Sm MT; omega
theorem VF.enc {a} (h : VF a) : enc (val a) = a := by
  unfold Fq.enc; rw [h.num, h.den]
theorem vf_enc {r : Rat} (h : Sm r) : VF (enc r) := by
  unfold Sm MT at h
  have := r.den_pos
  have hr := r.reduced
  refine ⟨?_, ?_, ?_, ?_, ?_⟩ <;> simp only [enc] <;> try omega
  simpa [Nat.Coprime] using hr
theorem val_enc {r : Rat} : val (enc r) = r := by
  unfold val enc; exact Rat.num_divInt_den r
theorem VF.cmp {a b} (h : VF a) (k : VF b) : a.1 * b.2 < b.1 * a.2 ↔ val a < val b := by
  rw [Rat.lt_iff, h.num, h.den, k.num, k.den]
theorem VF.add {a b} (h : VF a) (k : VF b) : fnew (a.1 * b.2 + b.1 * a.2) (a.2 * b.2) = fenc (val a + val b) := by
  have ha := h.1; have hb := k.1
  have : a.2 * b.2 ≠ 0 := Int.mul_ne_zero (by omega) (by omega)
  unfold fnew val
  rw [if_neg this, Rat.divInt_add_divInt _ _ (by omega) (by omega)]
theorem VF.mul {a b} (h : VF a) (k : VF b) : fnew (a.1 * b.1) (a.2 * b.2) = fenc (val a * val b) := by
  have ha := h.1; have hb := k.1
  have : a.2 * b.2 ≠ 0 := Int.mul_ne_zero (by omega) (by omega)
  unfold fnew val
  rw [if_neg this, Rat.divInt_mul_divInt]
/- the terms of a quotient in lowest terms -/
theorem divInt_terms (n d : Int) (hd : d ≠ 0) :
    (Rat.divInt n d).den = d.natAbs / Nat.gcd n.natAbs d.natAbs ∧
    (Rat.divInt n d).num = if (n < 0 ↔ d < 0) then ((n.natAbs / Nat.gcd n.natAbs d.natAbs : Nat) : Int) else -((n.natAbs / Nat.gcd n.natAbs d.natAbs : Nat) : Int) := by
  have hg : (Nat.gcd n.natAbs d.natAbs : Int) ∣ (n.natAbs : Int) := Int.natCast_dvd_natCast.2 (Nat.gcd_dvd_left _ _)
  constructor
  · rw [Rat.den_divInt, if_neg hd, Int.gcd, Nat.gcd_comm]
  · rw [Rat.num_divInt, Int.gcd, Nat.gcd_comm]
    have hn : n = (n.natAbs : Int) ∨ n = -(n.natAbs : Int) := by omega
    rw [Int.natCast_ediv]
    rcases Int.lt_trichotomy d 0 with h | h | h
    · rw [Int.sign_eq_neg_one_of_neg h, Int.neg_mul, Int.one_mul]
      split
      · rename_i hh
        have : n < 0 := hh.2 h
        congr 1; omega
      · rename_i hh
        have : ¬ n < 0 := fun x => hh ⟨fun _ => h, fun _ => x⟩
        rw [Int.neg_ediv_of_dvd (by rw [show n = (n.natAbs : Int) by omega]; exact hg)]
        congr 2; omega
    · exact absurd h hd
    · rw [Int.sign_eq_one_of_pos h, Int.one_mul]
      split
      · rename_i hh
        have : ¬ n < 0 := fun x => by have := hh.1 x; omega
        congr 1; omega
      · rename_i hh
        have : n < 0 := Classical.byContradiction fun x => hh ⟨fun y => absurd y x, fun y => by omega⟩
        conv => lhs; rw [show n = -(n.natAbs : Int) by omega]
        rw [Int.neg_ediv_of_dvd (by simpa using hg)]; simp
theorem sm_of {r : Rat} {n d : Nat} (hn : r.num.natAbs = n) (hd : r.den = d) : Sm r ↔ n ≤ 1073741824 ∧ d ≤ 1073741824 := by
  unfold Sm MT; rw [hn, hd]
/- what New computes -/
theorem fnew_eq (n d : Int) (hd : d ≠ 0) : fnew n d =
    (if 1073741824 < n.natAbs / Nat.gcd n.natAbs d.natAbs ∨ 1073741824 < d.natAbs / Nat.gcd n.natAbs d.natAbs then (0, 0, 3)
     else if (n < 0 ↔ d < 0) then (((n.natAbs / Nat.gcd n.natAbs d.natAbs : Nat) : Int), ((d.natAbs / Nat.gcd n.natAbs d.natAbs : Nat) : Int), 0)
     else (-((n.natAbs / Nat.gcd n.natAbs d.natAbs : Nat) : Int), ((d.natAbs / Nat.gcd n.natAbs d.natAbs : Nat) : Int), 0)) := by
  obtain ⟨h1, h2⟩ := divInt_terms n d hd
  generalize n.natAbs / Nat.gcd n.natAbs d.natAbs = x at *
  generalize d.natAbs / Nat.gcd n.natAbs d.natAbs = y at *
  have h3 : (Rat.divInt n d).num.natAbs = x := by rw [h2]; split <;> simp
  have hs := sm_of h3 h1
  unfold fnew fenc
  rw [if_neg hd]
  by_cases hb : 1073741824 < x ∨ 1073741824 < y
  · rw [if_pos hb, if_neg (by rw [hs]; omega)]
  · rw [if_neg hb, if_pos (by rw [hs]; omega), h1, h2]
    split <;> rfl
theorem tdiv_nat (n : Int) (g : Nat) : n.tdiv g = if n < 0 then -((n.natAbs / g : Nat) : Int) else ((n.natAbs / g : Nat) : Int) := by
  split
  · have e : n = -(n.natAbs : Int) := by omega
    conv => lhs; rw [e]
    rw [Int.neg_tdiv, Int.tdiv_eq_ediv_of_nonneg (by omega)]; rfl
  · have e : n = (n.natAbs : Int) := by omega
    conv => lhs; rw [e]
    rw [Int.tdiv_eq_ediv_of_nonneg (by omega)]; rfl
theorem new_pos {n d : Int} (hd : 0 < d) : n.tdiv (Nat.gcd n.natAbs d.natAbs) = (Rat.divInt n d).num ∧ d.tdiv (Nat.gcd n.natAbs d.natAbs) = (Rat.divInt n d).den := by
  obtain ⟨h1, h2⟩ := divInt_terms n d (by omega)
  rw [h1, h2, tdiv_nat, tdiv_nat, if_neg (show ¬ d < 0 by omega)]
  refine ⟨?_, rfl⟩
  by_cases h : n < 0
  · rw [if_pos h, if_neg (by omega)]
  · rw [if_neg h, if_pos (by omega)]
theorem new_neg {n d : Int} (hd : d < 0) : (0 - n).tdiv (Nat.gcd n.natAbs d.natAbs) = (Rat.divInt n d).num ∧ (0 - d).tdiv (Nat.gcd n.natAbs d.natAbs) = (Rat.divInt n d).den := by
  obtain ⟨h1, h2⟩ := divInt_terms n d (by omega)
  have e1 : (0 - n).natAbs = n.natAbs := by omega
  have e2 : (0 - d).natAbs = d.natAbs := by omega
  rw [h1, h2, tdiv_nat, tdiv_nat, e1, e2, if_neg (show ¬ 0 - d < 0 by omega)]
  refine ⟨?_, rfl⟩
  by_cases h : n < 0
  · rw [if_neg (by omega), if_pos (by omega)]
  · by_cases h0 : n = 0
    · subst h0; simp
    · rw [if_pos (by omega), if_neg (by omega)]
theorem vf_enc_iff {r : Rat} : VF (r.num, (r.den : Int)) ↔ Sm r := by
  constructor
  · intro h
    have := h.sm
    have e : val (r.num, (r.den : Int)) = r := val_enc
    rwa [e] at this
  · exact vf_enc
end Go.Fq
end
section
namespace Go.Fq
/-! Sums of rational numbers, and weak duality. -/
def sm : Nat → (Nat → Rat) → Rat
  | 0, _ => 0
  | n + 1, f => sm n f + f n
theorem sm_le {f g : Nat → Rat} : ∀ {n : Nat}, (∀ i < n, f i ≤ g i) → sm n f ≤ sm n g
  | 0, _ => by simp [sm]
  | n + 1, h => by
    have h1 := sm_le (f := f) (g := g) (n := n) (fun i hi => h i (by omega))
    have h2 := h n (by omega)
    simp only [sm]; grind
theorem sm_congr {f g : Nat → Rat} : ∀ {n : Nat}, (∀ i < n, f i = g i) → sm n f = sm n g
  | 0, _ => by simp [sm]
  | n + 1, h => by simp only [sm]; rw [sm_congr (n := n) (fun i hi => h i (by omega)), h n (by omega)]
theorem sm_add {f g : Nat → Rat} : ∀ {n : Nat}, sm n (fun i => f i + g i) = sm n f + sm n g
  | 0 => by simp only [sm]; exact (Rat.add_zero 0).symm
  | n + 1 => by simp only [sm]; rw [sm_add]; grind
theorem sm_mul {f : Nat → Rat} {c : Rat} : ∀ {n : Nat}, sm n (fun i => f i * c) = sm n f * c
  | 0 => by simp [sm]
  | n + 1 => by simp only [sm]; rw [sm_mul]; grind
theorem sm_zero {n : Nat} : sm n (fun _ => 0) = 0 := by
  induction n with
  | zero => rfl
  | succ n ih => simp only [sm]; rw [ih]; grind
theorem sm_comm {f : Nat → Nat → Rat} {m : Nat} : ∀ {n : Nat}, sm n (fun i => sm m (fun j => f i j)) = sm m (fun j => sm n (fun i => f i j))
  | 0 => by simp only [sm]; exact sm_zero.symm
  | n + 1 => by
    simp only [sm]; rw [sm_comm (n := n), ← sm_add]
/- weak duality -/
theorem weak {n m : Nat} {a : Nat → Nat → Rat} {b c x y : Nat → Rat} (hx : ∀ j < n, 0 ≤ x j) (hc : ∀ j < n, sm m (fun i => a i j * y i) ≤ c j)
    (hb : ∀ i < m, b i * y i ≤ sm n (fun j => a i j * x j) * y i) : sm m (fun i => b i * y i) ≤ sm n (fun j => c j * x j) := by
  have h1 : sm m (fun i => b i * y i) ≤ sm m (fun i => sm n (fun j => a i j * x j) * y i) := sm_le hb
  have h2 : sm m (fun i => sm n (fun j => a i j * x j) * y i) = sm n (fun j => sm m (fun i => a i j * y i) * x j) := by
    have e1 : sm m (fun i => sm n (fun j => a i j * x j) * y i) = sm m (fun i => sm n (fun j => a i j * x j * y i)) := sm_congr (fun i _ => sm_mul.symm)
    have e2 : sm n (fun j => sm m (fun i => a i j * y i) * x j) = sm n (fun j => sm m (fun i => a i j * x j * y i)) :=
      sm_congr (fun j _ => by rw [← sm_mul]; exact sm_congr (fun i _ => by grind))
    rw [e1, e2, sm_comm]
  have h3 : sm n (fun j => sm m (fun i => a i j * y i) * x j) ≤ sm n (fun j => c j * x j) :=
    sm_le (fun j hj => Rat.mul_le_mul_of_nonneg_right (hc j hj) (hx j hj))
  grind
end Go.Fq
end
section
namespace Go.Fq
abbrev F := Int × Int
abbrev R := Int × Int × Int
def fadd (a b : F) : R := if VF a ∧ VF b then fenc (val a + val b) else (0, 0, 2)
def fcmp (a b : F) : Int := if VF a ∧ VF b then (if val a < val b then -1 else if val b < val a then 1 else 0) else 0
/-! ### programmes -/
abbrev Rw := List F × Int × F
structure Pr where
  c : List F
  r : List Rw
def keeps (w : Rw) (k : Int) : Prop := (w.2.1 = 1 ∧ k ≤ 0) ∨ (w.2.1 = 2 ∧ 0 ≤ k) ∨ (w.2.1 = 3 ∧ k = 0)
end Go.Fq
end
section
namespace Go.Np
/-! networks, plainly -/
structure Ln where
  k : Int
  c : Int
  n : Int
  w : List Int
  s : List Int
structure Fl where
  nm : ByteArray
  rt : List Int
  cl : Int
  lo : Int
  hi : Int
  v : List Int
  p : Int
  q : Int
structure Nt where
  nm : List ByteArray
  ln : List Ln
  fl : List Fl
abbrev ln0 : Ln := ⟨0, 0, 0, [], []⟩
abbrev fl0 : Fl := ⟨ByteArray.empty, [], 0, 0, 0, [], 0, 0⟩
abbrev bs0 : ByteArray := ByteArray.empty
def bt (s : ByteArray) (i : Nat) : Int := ((s[i]?).getD 0).toNat
def okC (c : Int) : Prop := c = 45 ∨ (48 ≤ c ∧ c ≤ 57) ∨ (97 ≤ c ∧ c ≤ 122)
def WordP (s : ByteArray) : Prop := 1 ≤ s.size ∧ s.size ≤ 12 ∧ (97 ≤ bt s 0 ∧ bt s 0 ≤ 122) ∧ ∀ i, i < s.size → okC (bt s i)
instance {c : Int} : Decidable (okC c) := by unfold okC; infer_instance
instance {s : ByteArray} : Decidable (WordP s) := by unfold WordP; infer_instance
def inR (l : List Int) (a b : Int) : Prop := ∀ x ∈ l, a ≤ x ∧ x ≤ b
instance {l : List Int} {a b : Int} : Decidable (inR l a b) := by unfold inR; infer_instance
/- the lists of a line: its error -/
def lsErr (l : Ln) : Int :=
  if l.k = 3 ∧ ¬((l.w.length : Int) = l.n ∧ inR l.w 1 20) ∨ l.k = 4 ∧ ¬((l.w.length : Int) = l.n ∧ inR l.w 1 6000) ∨ l.k = 5 ∧ ¬(1 ≤ l.s.length ∧ l.s.length ≤ 40 ∧ inR l.s (-1) (l.n - 1)) then 2
  else if (l.k ≠ 3 ∧ l.k ≠ 4 ∧ l.w.length ≠ 0) ∨ (l.k ≠ 5 ∧ l.s.length ≠ 0) then 6 else 0
def lnErr (l : Ln) : Int :=
  if l.k < 1 ∨ 5 < l.k then 9
  else if l.c < 1 ∨ 4000 < l.c ∨ l.n < 1 ∨ 6 < l.n then 2
  else lsErr l
open Classical in
noncomputable def nmErr (met : List ByteArray) (s : ByteArray) : Int := if ¬WordP s then 4 else if s ∈ met then 60 else 0
/- the first error of some -/
def firstE (f : Nat → Int) : Nat → Int
  | 0 => 0
  | m + 1 => if firstE f m ≠ 0 then firstE f m else f m
theorem firstE_all {f : Nat → Int} : ∀ {m : Nat}, (∀ i < m, f i = 0) → firstE f m = 0
  | 0, _ => rfl
  | m + 1, h => by
    simp only [firstE]
    rw [firstE_all (fun i hi => h i (by omega)), if_neg (by simp)]
    exact h m (by omega)
theorem firstE_ge {f : Nat → Int} {i : Nat} : ∀ {m : Nat}, i ≤ m → firstE f i ≠ 0 → firstE f m = firstE f i
  | 0, h, _ => by have : i = 0 := by omega
                  subst this; rfl
  | m + 1, h, hn => by
    by_cases e : i = m + 1
    · subst e; rfl
    · have := firstE_ge (m := m) (by omega) hn
      simp only [firstE]
      rw [this, if_pos hn]
theorem firstE_at {f : Nat → Int} {i m : Nat} (hi : i < m) (h : ∀ j < i, f j = 0) (hn : f i ≠ 0) : firstE f m = f i := by
  have e : firstE f (i + 1) = f i := by simp only [firstE]; rw [firstE_all h, if_neg (by simp)]
  rw [firstE_ge (i := i + 1) (by omega) (by rw [e]; exact hn), e]
theorem firstE_zero {f : Nat → Int} {m : Nat} (h : firstE f m = 0) : ∀ i < m, f i = 0 := by
  intro i hi
  induction i using Nat.strongRecOn with
  | ind i ih =>
    by_cases hn : f i = 0
    · exact hn
    · have := firstE_at hi (fun j hj => ih j hj (by omega)) hn
      rw [h] at this; exact absurd this.symm hn
noncomputable def lineE (n : Nt) (i : Nat) : Int := if nmErr (n.nm.take i) (n.nm.getD i bs0) ≠ 0 then nmErr (n.nm.take i) (n.nm.getD i bs0) else lnErr (n.ln.getD i ln0)
/- a hop of a route -/
def hopE (ls : List Ln) (f : Fl) (k : Nat) : Int :=
  if f.rt.getD k 0 < 0 ∨ (ls.length : Int) ≤ f.rt.getD k 0 then 2
  else if f.rt.getD k 0 ∈ f.rt.take k then 60
  else if f.cl < 0 ∨ (ls.getD (f.rt.getD k 0).toNat ln0).n ≤ f.cl then 2 else 0
def routeE (ls : List Ln) (f : Fl) : Int := if f.rt.length = 0 then 5 else if 4 < f.rt.length then 3 else firstE (hopE ls f) f.rt.length
/- V: the contract is a curve; N: it is finite -/
def trafE (V N : Prop) [Decidable V] [Decidable N] (f : Fl) : Int :=
  if f.lo < 1 ∨ f.hi < f.lo ∨ 1500 < f.hi then 2 else if ¬V then 1 else if f.v.getD 0 0 ≠ 0 then 6 else if ¬N then 2 else 0
/-! the users of a line -/
def hop (n : Nt) (f l : Int) : Int :=
  if f < 0 ∨ (n.fl.length : Int) ≤ f then -1
  else if l ∈ (n.fl.getD f.toNat fl0).rt then ((n.fl.getD f.toNat fl0).rt.idxOf l : Nat) else -1
def usr (n : Nt) (l : Int) : Nat → List Int
  | 0 => []
  | i + 1 => if 0 ≤ hop n i l then usr n l i ++ [(i : Int)] else usr n l i
def users (n : Nt) (l : Int) : List Int := usr n l n.fl.length
theorem usr_len {n : Nt} {l : Int} : ∀ {i : Nat}, (usr n l i).length ≤ i
  | 0 => by simp [usr]
  | i + 1 => by
    have := usr_len (n := n) (l := l) (i := i)
    simp only [usr]; split <;> simp <;> omega
theorem mem_usr {n : Nt} {l x : Int} : ∀ {i : Nat}, x ∈ usr n l i ↔ ∃ j : Nat, j < i ∧ x = j ∧ 0 ≤ hop n j l
  | 0 => by simp [usr]
  | i + 1 => by
    have ih := mem_usr (n := n) (l := l) (x := x) (i := i)
    simp only [usr]
    split
    · rename_i h
      rw [List.mem_append, ih, List.mem_singleton]
      constructor
      · rintro (⟨j, h1, h2, h3⟩ | h1)
        · exact ⟨j, by omega, h2, h3⟩
        · exact ⟨i, by omega, h1, h⟩
      · rintro ⟨j, h1, h2, h3⟩
        by_cases e : j = i
        · subst e; exact .inr h2
        · exact .inl ⟨j, by omega, h2, h3⟩
    · rename_i h
      rw [ih]
      constructor
      · rintro ⟨j, h1, h2, h3⟩; exact ⟨j, by omega, h2, h3⟩
      · rintro ⟨j, h1, h2, h3⟩
        by_cases e : j = i
        · subst e; exact absurd h3 h
        · exact ⟨j, by omega, h2, h3⟩
theorem users_bd {n : Nt} {l x : Int} (h : x ∈ users n l) : 0 ≤ x ∧ x < n.fl.length := by
  obtain ⟨j, h1, h2, _⟩ := mem_usr.1 h; omega
def mbr (n : Nt) (c : Int) : List Int → List Int
  | [] => []
  | x :: r => if (n.fl.getD x.toNat fl0).cl = c then x :: mbr n c r else mbr n c r
def members (n : Nt) (l c : Int) : List Int := mbr n c (users n l)
theorem mbr_append {n : Nt} {c : Int} : ∀ {a b : List Int}, mbr n c (a ++ b) = mbr n c a ++ mbr n c b
  | [], b => rfl
  | x :: a, b => by simp only [List.cons_append, mbr]; rw [mbr_append]; split <;> rfl
theorem mbr_len {n : Nt} {c : Int} : ∀ {a : List Int}, (mbr n c a).length ≤ a.length
  | [] => by simp [mbr]
  | y :: a => by
    have := mbr_len (n := n) (c := c) (a := a)
    simp only [mbr]; split <;> simp <;> omega
theorem mbr_step {n : Nt} {c : Int} {l : List Int} {i : Nat} (h : i < l.length) : mbr n c (l.take (i + 1)) = if (n.fl.getD (l.getD i 0).toNat fl0).cl = c then mbr n c (l.take i) ++ [l.getD i 0] else mbr n c (l.take i) := by
  rw [List.take_succ_eq_append_getElem h, mbr_append]
  have e : l.getD i 0 = l[i] := by simp [List.getD_eq_getElem?_getD, h]
  rw [e]
  simp only [mbr]; split <;> simp
end Go.Np
end
section
namespace Go.Np
open Go.Cv
def FinP (vs : List Int) : Prop := vs.getD (vs.length - 1) 0 ≠ INF
open Classical in
noncomputable def flowE (n : Nt) (i : Nat) : Int :=
  if nmErr ((n.fl.take i).map (·.nm)) (n.fl.getD i fl0).nm ≠ 0 then nmErr ((n.fl.take i).map (·.nm)) (n.fl.getD i fl0).nm
  else if routeE n.ln (n.fl.getD i fl0) ≠ 0 then routeE n.ln (n.fl.getD i fl0)
  else trafE (ValidP (n.fl.getD i fl0).v (n.fl.getD i fl0).p (n.fl.getD i fl0).q) (FinP (n.fl.getD i fl0).v) (n.fl.getD i fl0)
noncomputable def chkN (n : Nt) : Int :=
  if n.ln.length = 0 ∨ 8 < n.ln.length ∨ 10 < n.fl.length then 3
  else if n.nm.length ≠ n.ln.length then 2
  else if firstE (lineE n) n.ln.length ≠ 0 then firstE (lineE n) n.ln.length
  else firstE (flowE n) n.fl.length
theorem chkN_line {n : Nt} {i : Nat} (h1 : ¬(n.ln.length = 0 ∨ 8 < n.ln.length ∨ 10 < n.fl.length)) (h2 : n.nm.length = n.ln.length) (hi : i < n.ln.length) (h : ∀ j < i, lineE n j = 0) (hn : lineE n i ≠ 0) : chkN n = lineE n i := by
  unfold chkN
  rw [if_neg h1, if_neg (by omega), firstE_at hi h hn, if_pos hn]
theorem chkN_flow {n : Nt} {i : Nat} (h1 : ¬(n.ln.length = 0 ∨ 8 < n.ln.length ∨ 10 < n.fl.length)) (h2 : n.nm.length = n.ln.length) (hl : ∀ j < n.ln.length, lineE n j = 0) (hi : i < n.fl.length) (h : ∀ j < i, flowE n j = 0) (hn : flowE n i ≠ 0) : chkN n = flowE n i := by
  unfold chkN
  rw [if_neg h1, if_neg (by omega), firstE_all hl, if_neg (by simp), firstE_at hi h hn]
theorem chkN_ok {n : Nt} (h1 : ¬(n.ln.length = 0 ∨ 8 < n.ln.length ∨ 10 < n.fl.length)) (h2 : n.nm.length = n.ln.length) (hl : ∀ j < n.ln.length, lineE n j = 0) (h : ∀ j < n.fl.length, flowE n j = 0) : chkN n = 0 := by
  unfold chkN
  rw [if_neg h1, if_neg (by omega), firstE_all hl, if_neg (by simp), firstE_all h]
theorem chkN_zero {n : Nt} (h : chkN n = 0) : ¬(n.ln.length = 0 ∨ 8 < n.ln.length ∨ 10 < n.fl.length) ∧ n.nm.length = n.ln.length ∧ (∀ j < n.ln.length, lineE n j = 0) ∧ ∀ j < n.fl.length, flowE n j = 0 := by
  unfold chkN at h
  split at h
  · omega
  · split at h
    · omega
    · split at h
      · contradiction
      · rename_i h1 h2 h3
        exact ⟨h1, by omega, firstE_zero (by omega), firstE_zero h⟩
/-! the networks that are made -/
def lname (i : Nat) : ByteArray := ⟨#[(97 + i).toUInt8]⟩
def fname (i : Nat) : ByteArray := ⟨#[(102 + i).toUInt8]⟩
structure FlG (m k : Nat) (f : Fl) : Prop where
  cl : 0 ≤ f.cl ∧ f.cl < k
  lo : 1 ≤ f.lo ∧ f.lo ≤ 3
  hi : f.lo ≤ f.hi ∧ f.hi ≤ 7
  r1 : 1 ≤ f.rt.length ∧ f.rt.length ≤ 3
  rb : ∀ x ∈ f.rt, 0 ≤ x ∧ x < m
  nd : ∀ i j, i < j → j < f.rt.length → f.rt.getD i 0 ≠ f.rt.getD j 0
  ct : ∃ b : Int, 4 ≤ b ∧ b ≤ 16 ∧ 1 ≤ f.p ∧ (f.p ≤ 12 ∧ f.p ∣ 12) ∧ f.v = 0 :: List.replicate f.p.toNat b ∧ 0 ≤ f.q ∧ f.q ≤ 3
structure NtG (k : Nat) (n : Nt) : Prop where
  k1 : 1 ≤ k ∧ k ≤ 2
  ll : 1 ≤ n.ln.length ∧ n.ln.length ≤ 4
  nl : n.nm.length = n.ln.length
  nm : ∀ i, i < n.ln.length → n.nm.getD i bs0 = lname i
  le : ∀ l ∈ n.ln, lnErr l = 0 ∧ l.n = k
  fl : n.fl.length ≤ 5
  fn : ∀ i, i < n.fl.length → (n.fl.getD i fl0).nm = fname i
  fg : ∀ f ∈ n.fl, FlG n.ln.length k f
theorem getD_in {α : Type} {l : List α} {d : α} {i : Nat} (h : i < l.length) : l.getD i d ∈ l := by
  rw [List.getD_eq_getElem?_getD, List.getElem?_eq_getElem h]; exact List.getElem_mem h
theorem mem_take {α : Type} {l : List α} {d x : α} {i : Nat} (h : x ∈ l.take i) : ∃ j, j < i ∧ j < l.length ∧ x = l.getD j d := by
  obtain ⟨j, hj, e⟩ := List.mem_iff_getElem.1 h
  rw [List.length_take] at hj
  refine ⟨j, by omega, by omega, ?_⟩
  rw [← e, List.getElem_take]
  simp [List.getD_eq_getElem?_getD, show j < l.length by omega]
theorem lname_word : ∀ i < 4, WordP (lname i) := by decide +kernel
theorem fname_word : ∀ i < 5, WordP (fname i) := by decide +kernel
theorem lname_inj : ∀ i < 4, ∀ j < 4, lname i = lname j → i = j := by decide +kernel
theorem fname_inj : ∀ i < 5, ∀ j < 5, fname i = fname j → i = j := by decide +kernel
theorem nm_fresh {met : List ByteArray} {s : ByteArray} (h : WordP s) (hm : s ∉ met) : nmErr met s = 0 := by
  unfold nmErr; rw [if_neg (fun k => k h), if_neg hm]
theorem FlG.valid {m k : Nat} {f : Fl} (g : FlG m k f) : ValidP f.v f.p f.q ∧ FinP f.v := by
  obtain ⟨b, b1, b2, p1, p2, hv, q1, q2⟩ := g.ct
  have hlen : f.v.length = f.p.toNat + 1 := by rw [hv]; simp
  have hg : ∀ j, j < f.p.toNat + 1 → f.v.getD j 0 = if j = 0 then 0 else b := by
    intro j hj
    rw [hv]
    cases j with
    | zero => rfl
    | succ j => simp [List.getD_eq_getElem?_getD, List.getElem?_replicate, show j < f.p.toNat by omega]
  have hlast : f.v.getD (f.v.length - 1) 0 = b := by rw [hg _ (by omega), if_neg (by omega)]
  refine ⟨⟨by omega, by omega, by omega, by omega, by omega, by omega, by omega, ?_, ?_, ?_, ?_⟩, ?_⟩
  · intro j hj; rw [hg j (by omega)]; split <;> omega
  · intro j hj; rw [hg j (by omega), hg (j + 1) (by omega)]; split <;> split <;> omega
  · intro h; rw [hlast] at h; omega
  · intro _; rw [hlast, hg _ (by omega)]; split <;> omega
  · unfold FinP; rw [hlast]; unfold INF; omega
theorem FlG.route {m k : Nat} {ls : List Ln} {f : Fl} (g : FlG m k f) (hm : ls.length = m) (hk : ∀ l ∈ ls, l.n = k) : routeE ls f = 0 := by
  have r1 := g.r1
  unfold routeE
  rw [if_neg (by omega), if_neg (by omega)]
  apply firstE_all
  intro i hi
  have hx := g.rb _ (getD_in (d := 0) hi)
  have hc := g.cl
  unfold hopE
  rw [if_neg (by omega), if_neg, if_neg]
  · have := hk (ls.getD (f.rt.getD i 0).toNat ln0) (getD_in (by omega))
    omega
  · intro h
    obtain ⟨j, hj, _, e⟩ := mem_take (d := 0) h
    exact g.nd j i hj hi e.symm
theorem NtG.line {k : Nat} {n : Nt} (g : NtG k n) : ∀ i < n.ln.length, lineE n i = 0 := by
  intro i hi
  have h4 := g.ll.2
  have e := g.nm i hi
  have hf : nmErr (n.nm.take i) (n.nm.getD i bs0) = 0 := by
    rw [e]
    refine nm_fresh (lname_word i (by omega)) fun h => ?_
    obtain ⟨j, hj, hj2, e2⟩ := mem_take (d := bs0) h
    rw [g.nm j (by omega)] at e2
    have := lname_inj i (by omega) j (by omega) e2
    omega
  unfold lineE
  rw [hf, if_neg (by simp)]
  exact (g.le _ (getD_in hi)).1
theorem NtG.flow {k : Nat} {n : Nt} (g : NtG k n) : ∀ i < n.fl.length, flowE n i = 0 := by
  intro i hi
  have h5 := g.fl
  have e := g.fn i hi
  have hf : nmErr ((n.fl.take i).map (·.nm)) (n.fl.getD i fl0).nm = 0 := by
    rw [e]
    refine nm_fresh (fname_word i (by omega)) fun h => ?_
    obtain ⟨x, hx, e1⟩ := List.mem_map.1 h
    obtain ⟨j, hj, hj2, e2⟩ := mem_take (d := fl0) hx
    rw [e2, g.fn j (by omega)] at e1
    have := fname_inj j (by omega) i (by omega) e1
    omega
  have G := g.fg _ (getD_in (d := fl0) hi)
  have hr := G.route rfl (fun l hl => (g.le l hl).2)
  have hv := G.valid
  unfold flowE
  rw [hf, if_neg (by simp), hr, if_neg (by simp)]
  have l1 := G.lo
  have l2 := G.hi
  obtain ⟨b, _, _, _, _, hv0, _⟩ := G.ct
  unfold trafE
  rw [if_neg (by omega), if_neg (fun h => h hv.1), if_neg (by rw [hv0]; simp), if_neg (fun h => h hv.2)]
theorem NtG.chk {k : Nat} {n : Nt} (g : NtG k n) : chkN n = 0 := by
  have h1 := g.ll
  have h2 := g.fl
  exact chkN_ok (by omega) g.nl g.line g.flow
end Go.Np
end
section
namespace Go.Tp
/-! graphs, plainly -/
abbrev Gr := Nat → Nat → Bool
/- a way of k edges -/
def Way (E : Gr) (k a b : Nat) : Prop := ∃ f : Nat → Nat, f 0 = a ∧ f k = b ∧ ∀ i < k, E (f i) (f (i + 1)) = true
def Rch (E : Gr) (a b : Nat) : Prop := ∃ k, Way E k a b
def Cyc (E : Gr) : Prop := ∃ k a, 0 < k ∧ Way E k a a
theorem Way.zero (E : Gr) (a : Nat) : Way E 0 a a := ⟨fun _ => a, rfl, rfl, fun i hi => by omega⟩
theorem Way.trans {E : Gr} {k l a b c : Nat} (h : Way E k a b) (h' : Way E l b c) : Way E (k + l) a c := by
  obtain ⟨f, f0, f1, f2⟩ := h
  obtain ⟨g, g0, g1, g2⟩ := h'
  refine ⟨fun i => if i ≤ k then f i else g (i - k), by simp [f0], ?_, fun i hi => ?_⟩
  · dsimp only
    by_cases hl : l = 0
    · subst hl; rw [if_pos (by omega)]; simp only [Nat.add_zero]; rw [f1, ← g1, g0]
    · rw [if_neg (by omega), show k + l - k = l by omega, g1]
  · dsimp only
    by_cases h1 : i < k
    · rw [if_pos (by omega), if_pos (by omega)]; exact f2 i h1
    · rw [if_neg (show ¬(i + 1 ≤ k) by omega), show i + 1 - k = i - k + 1 by omega]
      have := g2 (i - k) (by omega)
      by_cases h2 : i = k
      · subst h2
        rw [if_pos (Nat.le_refl _), f1]
        rw [Nat.sub_self, g0] at this
        rw [Nat.sub_self]; exact this
      · rw [if_neg (by omega)]; exact this
theorem Way.one {E : Gr} {a b : Nat} (h : E a b = true) : Way E 1 a b :=
  ⟨fun i => if i = 0 then a else b, rfl, rfl, fun i hi => by have : i = 0 := by omega
                                                             subst this; exact h⟩
theorem Way.first {E : Gr} {k a c : Nat} (h : Way E (k + 1) a c) : ∃ b, E a b = true ∧ Way E k b c := by
  obtain ⟨f, f0, f1, f2⟩ := h
  exact ⟨f 1, by rw [← f0]; exact f2 0 (by omega), fun i => f (i + 1), rfl, f1, fun i hi => f2 (i + 1) (by omega)⟩
theorem Way.mono {E E' : Gr} (hE : ∀ a b, E a b = true → E' a b = true) {k a b : Nat} (h : Way E k a b) : Way E' k a b := by
  obtain ⟨f, f0, f1, f2⟩ := h
  exact ⟨f, f0, f1, fun i hi => hE _ _ (f2 i hi)⟩
theorem Rch.refl (E : Gr) (a : Nat) : Rch E a a := ⟨0, .zero E a⟩
theorem Rch.one {E : Gr} {a b : Nat} (h : E a b = true) : Rch E a b := ⟨1, .one h⟩
theorem Rch.trans {E : Gr} {a b c : Nat} (h : Rch E a b) (h' : Rch E b c) : Rch E a c := by
  obtain ⟨k, h⟩ := h
  obtain ⟨l, h'⟩ := h'
  exact ⟨_, h.trans h'⟩
theorem Rch.mono {E E' : Gr} (hE : ∀ a b, E a b = true → E' a b = true) {a b : Nat} (h : Rch E a b) : Rch E' a b := by
  obtain ⟨k, h⟩ := h
  exact ⟨k, h.mono hE⟩
theorem Cyc.mono {E E' : Gr} (hE : ∀ a b, E a b = true → E' a b = true) (h : Cyc E) : Cyc E' := by
  obtain ⟨k, a, h0, h⟩ := h
  exact ⟨k, a, h0, h.mono hE⟩
/- what is closed under edges holds all that is reached -/
theorem Rch.closed {E : Gr} {P : Nat → Prop} (hc : ∀ a b, P a → E a b = true → P b) {a b : Nat} (ha : P a) (h : Rch E a b) : P b := by
  obtain ⟨k, f, f0, f1, f2⟩ := h
  have : ∀ i, i ≤ k → P (f i) := by
    intro i
    induction i with
    | zero => intro _; rw [f0]; exact ha
    | succ i ih => intro hi; exact hc _ _ (ih (by omega)) (f2 i (by omega))
  rw [← f1]; exact this k (Nat.le_refl _)
/-! an order -/
def nx (E : Gr) (m : Nat) (out : List Nat) : Option Nat := (List.range m).find? fun a => !out.contains a && (List.range m).all fun p => !E p a || out.contains p
/- edges among the numbers below m, and none from a number to itself -/
structure GOK (E : Gr) (m : Nat) : Prop where
  b : ∀ a b, E a b = true → a < m ∧ b < m
  s : ∀ a, E a a = false
theorem nx_some {E : Gr} {m a : Nat} {out : List Nat} (h : nx E m out = some a) : a < m ∧ a ∉ out ∧ ∀ p, p < m → E p a = true → p ∈ out := by
  unfold nx at h
  have h1 := List.find?_some h
  have h2 := List.mem_of_find?_eq_some h
  simp only [Bool.and_eq_true, Bool.not_eq_true', List.contains_eq_mem, decide_eq_false_iff_not, List.all_eq_true, List.mem_range, Bool.or_eq_true, decide_eq_true_eq] at h1
  refine ⟨List.mem_range.1 h2, h1.1, fun p hp he => ?_⟩
  rcases h1.2 p hp with h3 | h3
  · rw [he] at h3; contradiction
  · exact h3
/- an order of some numbers: different ones below m, each behind those that lead to it -/
structure Top (E : Gr) (m : Nat) (o : List Nat) : Prop where
  n : o.Nodup
  b : ∀ x ∈ o, x < m
  e : ∀ j, j < o.length → ∀ p, E p (o.getD j 0) = true → ∃ i, i < j ∧ o.getD i 0 = p
theorem Top.nil (E : Gr) (m : Nat) : Top E m [] := ⟨.nil, by simp, by simp⟩
theorem getD_app_l {o : List Nat} {a i : Nat} (h : i < o.length) : (o ++ [a]).getD i 0 = o.getD i 0 := by simp [List.getD_eq_getElem?_getD, List.getElem?_append_left h]
theorem getD_app_r {o : List Nat} {a : Nat} : (o ++ [a]).getD o.length 0 = a := by simp [List.getD_eq_getElem?_getD]
theorem mem_getD {o : List Nat} {x : Nat} (h : x ∈ o) : ∃ i, i < o.length ∧ o.getD i 0 = x := by
  obtain ⟨i, hi, rfl⟩ := List.mem_iff_getElem.1 h
  exact ⟨i, hi, by simp [List.getD_eq_getElem?_getD, hi]⟩
theorem getD_mem {o : List Nat} {i : Nat} (h : i < o.length) : o.getD i 0 ∈ o := by
  rw [List.getD_eq_getElem?_getD, List.getElem?_eq_getElem h]; exact List.getElem_mem h
theorem Top.snoc {E : Gr} {m a : Nat} {o : List Nat} (hE : GOK E m) (h : Top E m o) (ha : nx E m o = some a) : Top E m (o ++ [a]) := by
  obtain ⟨h1, h2, h3⟩ := nx_some ha
  refine ⟨?_, fun x hx => ?_, fun j hj p hp => ?_⟩
  · rw [List.nodup_append]
    exact ⟨h.n, by simp, fun x hx y hy => by rw [List.mem_singleton.1 hy]; intro e; exact h2 (e ▸ hx)⟩
  · rcases List.mem_append.1 hx with hx | hx
    · exact h.b x hx
    · rw [List.mem_singleton.1 hx]; exact h1
  · simp only [List.length_append, List.length_singleton] at hj
    by_cases hl : j < o.length
    · rw [getD_app_l hl] at hp
      obtain ⟨i, hi, e⟩ := h.e j hl p hp
      exact ⟨i, hi, by rw [getD_app_l (by omega)]; exact e⟩
    · have hj : j = o.length := by omega
      subst hj
      rw [getD_app_r] at hp
      obtain ⟨i, hi, e⟩ := mem_getD (h3 p (hE.b _ _ hp).1 hp)
      exact ⟨i, hi, by rw [getD_app_l hi]; exact e⟩
end Go.Tp
end
section
namespace Go.Tp
/- a way of different lines, the first of which is the least -/
structure CW (E : Gr) (m : Nat) (c : List Nat) : Prop where
  n : c.Nodup
  b : ∀ x ∈ c, x < m
  e : ∀ i, i + 1 < c.length → E (c.getD i 0) (c.getD (i + 1) 0) = true
  h : ∀ i, 0 < i → i < c.length → c.getD 0 0 < c.getD i 0
theorem CW.one (E : Gr) {m a : Nat} (h : a < m) : CW E m [a] := ⟨by simp, by simpa using h, fun i hi => by simp at hi, fun i h1 h2 => by simp at h2; omega⟩
theorem CW.snoc {E : Gr} {m b : Nat} {w : List Nat} (h : CW E m w) (hw : 1 ≤ w.length) (hb : b < m) (h1 : w.getD 0 0 < b) (h2 : E (w.getD (w.length - 1) 0) b = true) (h3 : b ∉ w) : CW E m (w ++ [b]) := by
  refine ⟨?_, fun x hx => ?_, fun i hi => ?_, fun i hi hl => ?_⟩
  · rw [List.nodup_append]
    exact ⟨h.n, by simp, fun x hx y hy => by rw [List.mem_singleton.1 hy]; intro e; exact h3 (e ▸ hx)⟩
  · rcases List.mem_append.1 hx with hx | hx
    · exact h.b x hx
    · rw [List.mem_singleton.1 hx]; exact hb
  · simp only [List.length_append, List.length_singleton] at hi
    rw [getD_app_l (by omega)]
    by_cases hl : i + 1 < w.length
    · rw [getD_app_l hl]; exact h.e i hl
    · have : i + 1 = w.length := by omega
      rw [this, getD_app_r]
      rw [show i = w.length - 1 by omega]; exact h2
  · simp only [List.length_append, List.length_singleton] at hl
    rw [getD_app_l (by omega)]
    by_cases hl2 : i < w.length
    · rw [getD_app_l hl2]; exact h.h i hi hl2
    · have : i = w.length := by omega
      rw [this, getD_app_r]; exact h1
/- a closed way of different lines, the first of which is the least -/
structure CG (E : Gr) (L : Nat) (g : Nat → Nat) : Prop where
  e : ∀ i, i < L → E (g i) (g (i + 1)) = true
  c : g L = g 0
  i : ∀ i j, i < j → j < L → g i ≠ g j
  h : ∀ i, 0 < i → i < L → g 0 < g i
/- levels of the lines -/
structure LvP (E : Gr) (L : Nat → Nat) : Prop where
  u : ∀ a b, E a b = true → L a + 1 ≤ L b
  a : ∀ b, L b = 0 ∨ ∃ a, E a b = true ∧ L b = L a + 1
theorem LvP.uniq {E : Gr} {L L' : Nat → Nat} (h : LvP E L) (h' : LvP E L') : ∀ b, L b = L' b := by
  have key : ∀ {L L' : Nat → Nat}, LvP E L → LvP E L' → ∀ n b, L b ≤ n → L b ≤ L' b := by
    intro L L' h h' n
    induction n with
    | zero => intro b hb; omega
    | succ n ih =>
      intro b hb
      rcases h.a b with h1 | ⟨a, h1, h2⟩
      · omega
      · have := ih a (by omega)
        have := h'.u a b h1
        omega
  intro b
  have := key h h' _ b (Nat.le_refl _)
  have := key h' h _ b (Nat.le_refl _)
  omega
/-! edges -/
abbrev Ed := Nat × Nat
/-! the cut -/
def has (K : List Ed) : Gr := fun a b => decide ((a, b) ∈ K)
structure CutP (l : List Ed) (s : List Ed × List Ed) : Prop where
  ac : ¬Cyc (has s.1)
  o : ∀ e ∈ s.2, Rch (has s.1) e.2 e.1
  m : ∀ e, e ∈ l ↔ e ∈ s.1 ∨ e ∈ s.2
  n : s.1.length + s.2.length = l.length
  k : l.Nodup → s.1 = l.filter fun e => decide (e ∉ s.2)
end Go.Tp
end
section
namespace Go.Tp
open Go.Np
theorem mem_takeD {α : Type} {l : List α} {d x : α} {i : Nat} : x ∈ l.take i ↔ ∃ j, j < i ∧ j < l.length ∧ x = l.getD j d := by
  constructor
  · intro h; exact mem_take h
  · rintro ⟨j, h1, h2, rfl⟩
    rw [List.mem_iff_getElem]
    refine ⟨j, by rw [List.length_take]; omega, ?_⟩
    rw [List.getElem_take]
    simp [List.getD_eq_getElem?_getD, h2]
structure RtOK (n : Nt) (f : Fl) : Prop where
  l1 : 1 ≤ f.rt.length
  l2 : f.rt.length ≤ 4
  b : ∀ i, i < f.rt.length → 0 ≤ f.rt.getD i 0 ∧ f.rt.getD i 0 < n.ln.length
  d : ∀ i j, i < j → j < f.rt.length → f.rt.getD i 0 ≠ f.rt.getD j 0
  c : ∀ i, i < f.rt.length → 0 ≤ f.cl ∧ f.cl < (n.ln.getD (f.rt.getD i 0).toNat ln0).n
theorem routeE_ok {n : Nt} {f : Fl} (h : routeE n.ln f = 0) : RtOK n f := by
  unfold routeE at h
  split at h
  · omega
  · split at h
    · omega
    · rename_i h1 h2
      have hz := firstE_zero h
      have key : ∀ i, i < f.rt.length → (0 ≤ f.rt.getD i 0 ∧ f.rt.getD i 0 < n.ln.length) ∧ f.rt.getD i 0 ∉ f.rt.take i ∧ 0 ≤ f.cl ∧ f.cl < (n.ln.getD (f.rt.getD i 0).toNat ln0).n := by
        intro i hi
        have h3 := hz i hi
        unfold hopE at h3
        split at h3
        · omega
        · split at h3
          · omega
          · split at h3
            · omega
            · exact ⟨by omega, by assumption, by omega, by omega⟩
      refine ⟨by omega, by omega, fun i hi => (key i hi).1, fun i j hij hj e => ?_, fun i hi => (key i hi).2.2⟩
      exact (key j hj).2.1 ((mem_takeD (d := 0)).2 ⟨i, hij, by omega, e.symm⟩)
theorem chk_fl {n : Nt} (h : chkN n = 0) : ∀ j, j < n.fl.length → RtOK n (n.fl.getD j fl0) := by
  intro j hj
  have h1 := (chkN_zero h).2.2.2 j hj
  unfold flowE at h1
  split at h1
  · contradiction
  · split at h1
    · contradiction
    · exact routeE_ok (by omega)
end Go.Tp
end
section
namespace Go.Lp
/- a sum over a list, up to the first error -/
def foldE (f : Int × Int → Int → Int × Int × Int) : List Int → Int × Int → Int × Int × Int
  | [], a => (a.1, a.2, 0)
  | x :: l, a => if (f a x).2.2 ≠ 0 then (0, 0, (f a x).2.2) else foldE f l ((f a x).1, (f a x).2.1)
abbrev C4 := List Int × Int × Int
end Go.Lp
end
section
namespace Go.Cv
/-! a curve moved to earlier ticks -/
def ahd (f : C3) (d t : Nat) : Int := if t = 0 then 0 else cv f (t + d)
theorem ahd_mono {f : C3} (hf : VC f) (d : Nat) : Mono (ahd f d) := by
  intro t
  unfold ahd
  rw [if_neg (show ¬t + 1 = 0 by omega)]
  split
  · exact hf.nonneg _
  · have := hf.mono' (t + d)
    rw [show t + d + 1 = t + 1 + d by omega] at this
    exact this
theorem ahd_congr {f a : C3} (h : ∀ t, cv a t = cv f t) (d : Nat) : ahd a d = ahd f d := by
  funext t; unfold ahd; rw [h]
theorem ahd_per {a : C3} (ha : VC a) (d s : Nat) (h1 : 1 ≤ s) (h2 : a.1.length - a.2.1 - d ≤ s) : Per (ahd a d) s a.2.1 a.2.2 := by
  intro t ht
  unfold ahd
  rw [if_neg (show ¬t = 0 by omega), if_neg (show ¬t + a.2.1 = 0 by have := ha.p1; omega)]
  have := ha.per (t + d) (by omega)
  rw [show t + a.2.1 + d = t + d + a.2.1 by omega]
  exact this
theorem ahd_bd {f : C3} (hf : VC f) (ff : FinC f) {d t : Nat} (h : t + d ≤ 1048576) : 0 ≤ ahd f d t ∧ ahd f d t ≤ 2000000000000000 := by
  unfold ahd
  split
  · omega
  · exact ⟨cv_nonneg hf _, cv_small hf h (ff.not hf _)⟩
/- small curves stay curves -/
theorem mk_fits {F : Nat → Int} {x : List Int × Int × Int × Int} {s p : Nat} {q : Int} (h : MkP F x) (h0 : 0 ≤ F 0) (hm : Mono F) (hp : Per F s p q) (hp1 : 1 ≤ p) (hp2 : p ≤ 120) (hs : s + p ≤ 400) (hq2 : q ≤ 1073741824) (hv : ∀ t, t < s + p → F t ≤ 1073741824) : ∃ c : C3, VC c ∧ (∀ t, cv c t = F t) ∧ x = (c.1, (c.2.1 : Int), c.2.2, 0) := by
  obtain ⟨c, hn, hc, _⟩ := vf_exists hp1 hp h0 hm hs hp2 hq2 hv
  rcases h with ⟨vs, p', q', hn', hvf, rfl⟩ | ⟨hno, _⟩
  · exact ⟨(vs, p', q'), hvf, hvf.sound hn', rfl⟩
  · exact absurd hc (hno _ _ _ hn)
end Go.Cv
end
section
namespace Go.Np
open Go.Cv Go.Tp
/-! contracts along the routes, plainly -/
structure ShapeP (n : Nt) (d : List (List Int)) : Prop where
  c : chkN n = 0
  l : d.length = n.ln.length
  r : ∀ i, i < d.length → ((d.getD i []).length : Int) = (n.ln.getD i ln0).n
  b : ∀ i, i < d.length → ∀ j, j < (d.getD i []).length → -1 ≤ (d.getD i []).getD j 0 ∧ (d.getD i []).getD j 0 ≤ 400
def HopP (n : Nt) (f h : Int) : Prop := 0 ≤ f ∧ f < n.fl.length ∧ 0 ≤ h ∧ h < (n.fl.getD f.toNat fl0).rt.length
/- the delay of a class at a line -/
def dly (d : List (List Int)) (f : Fl) (i : Nat) : Int := (d.getD (f.rt.getD i 0).toNat []).getD f.cl.toNat 0
/- the delays before a hop -/
def bef (d : List (List Int)) (f : Fl) : Nat → Option Nat
  | 0 => some 0
  | i + 1 => match bef d f i with
    | none => none
    | some s => if dly d f i < 0 then none else some (s + (dly d f i).toNat)
theorem bef_none {d : List (List Int)} {f : Fl} {i : Nat} (h : bef d f i = none) : ∀ {m : Nat}, i ≤ m → bef d f m = none
  | 0, hm => by have : i = 0 := by omega
                subst this; exact h
  | m + 1, hm => by
    by_cases e : i = m + 1
    · subst e; exact h
    · simp only [bef]; rw [bef_none h (m := m) (by omega)]
theorem ShapeP.dly {n : Nt} {d : List (List Int)} (h : ShapeP n d) {f : Fl} (hf : RtOK n f) {i : Nat} (hi : i < f.rt.length) :
    (f.rt.getD i 0).toNat < d.length ∧ f.cl.toNat < (d.getD (f.rt.getD i 0).toNat []).length ∧ -1 ≤ dly d f i ∧ dly d f i ≤ 400 := by
  have h1 := hf.b i hi
  have h2 := hf.c i hi
  have h3 := h.l
  have h4 := h.r (f.rt.getD i 0).toNat (by omega)
  have h5 := h.b (f.rt.getD i 0).toNat (by omega) f.cl.toNat (by omega)
  exact ⟨by omega, by omega, h5⟩
theorem bef_le {n : Nt} {d : List (List Int)} (h : ShapeP n d) {f : Fl} (hf : RtOK n f) : ∀ {i s : Nat}, i ≤ f.rt.length → bef d f i = some s → s ≤ 400 * i
  | 0, s, _, hs => by simp only [bef, Option.some.injEq] at hs; omega
  | i + 1, s, hi, hs => by
    simp only [bef] at hs
    split at hs
    · contradiction
    · rename_i s' hs'
      have h1 := bef_le h hf (i := i) (s := s') (by omega) hs'
      have h2 := (h.dly hf (i := i) (by omega)).2.2
      split at hs
      · contradiction
      · simp only [Option.some.injEq] at hs; omega
/- a contract of a net that is right -/
abbrev ctc (f : Fl) : C3 := (f.v, f.p.toNat, f.q)
theorem chk_ct {n : Nt} (h : chkN n = 0) : ∀ j, j < n.fl.length → VC (ctc (n.fl.getD j fl0)) ∧ FinC (ctc (n.fl.getD j fl0)) ∧ 1 ≤ (n.fl.getD j fl0).p ∧ (n.fl.getD j fl0).v.getD 0 0 = 0 := by
  intro j hj
  have h1 := (chkN_zero h).2.2.2 j hj
  unfold flowE at h1
  split at h1
  · contradiction
  · split at h1
    · contradiction
    · unfold trafE at h1
      split at h1
      · contradiction
      · split at h1
        · contradiction
        · split at h1
          · contradiction
          · split at h1
            · contradiction
            · rename_i h2 h3 h4
              obtain ⟨p, e, hv⟩ := (Classical.not_not.1 h2).vf
              refine ⟨?_, Classical.not_not.1 h4, ?_, by omega⟩
              · show VF _ (n.fl.getD j fl0).p.toNat _
                rw [e, Int.toNat_natCast]; exact hv
              · have := hv.p1; omega
/- the contract of a flow at a hop: e is its error -/
def AtP (n : Nt) (d : List (List Int)) (f h : Int) (x : List Int × Int × Int × Int) : Prop :=
  (¬ShapeP n d ∧ x = ([], 0, 0, 6)) ∨ (ShapeP n d ∧ ¬HopP n f h ∧ x = ([], 0, 0, 2)) ∨
  (ShapeP n d ∧ HopP n f h ∧ ((bef d (n.fl.getD f.toNat fl0) h.toNat = none ∧ x = ([], 0, 0, 5)) ∨ ∃ s, bef d (n.fl.getD f.toNat fl0) h.toNat = some s ∧ MkP (ahd (ctc (n.fl.getD f.toNat fl0)) s) x))
end Go.Np
end
section
namespace Go.Np
open Go.Cv Go.Tp
/- stairs are curves -/
theorem stair_vf {b q : Int} {p : Nat} (p1 : 1 ≤ p) (p2 : p ≤ 120) (b1 : 0 ≤ b) (b2 : b ≤ 1073741824) (q1 : 0 ≤ q) (q2 : q ≤ 1073741824) : VC (0 :: List.replicate p b, p, q) ∧ FinC (0 :: List.replicate p b, p, q) := by
  have hg : ∀ j, j < p + 1 → (0 :: List.replicate p b).getD j 0 = if j = 0 then 0 else b := by
    intro j hj
    cases j with
    | zero => rfl
    | succ j => simp [List.getD_eq_getElem?_getD, List.getElem?_replicate, show j < p by omega]
  have hlen : (0 :: List.replicate p b).length = p + 1 := by simp
  have hlast : (0 :: List.replicate p b).getD (p + 1 - 1) 0 = b := by rw [hg _ (by omega), if_neg (by omega)]
  have hV : ValidP (0 :: List.replicate p b) p q := by
    refine ⟨by omega, by omega, by omega, by omega, by omega, by omega, by omega, ?_, ?_, ?_, ?_⟩
    · intro j hj; rw [hg j (by omega)]; split <;> omega
    · intro j hj; rw [hg j (by omega), hg (j + 1) (by omega)]; split <;> split <;> omega
    · intro h; rw [hlen, hlast] at h; omega
    · intro _; rw [hlen, hlast, hg _ (by omega)]; split <;> omega
  obtain ⟨p', e, hv⟩ := hV.vf
  have : p' = p := by omega
  subst this
  exact ⟨hv, by show (0 :: List.replicate p' b).getD ((0 :: List.replicate p' b).length - 1) 0 ≠ INF; rw [hlen, hlast]; unfold INF; omega⟩
/- the example of the chapter -/
abbrev chL : Ln := ⟨1, 10, 1, [], []⟩
abbrev chF : Fl := ⟨⟨#[102]⟩, [0, 1, 2], 0, 1, 4, 0 :: List.replicate 10 100, 10, 100⟩
def chN : Nt := ⟨[⟨#[97]⟩, ⟨#[98]⟩, ⟨#[99]⟩], [chL, chL, chL], [chF]⟩
theorem ch_ct : VC (ctc chF) ∧ FinC (ctc chF) := stair_vf (b := 100) (q := 100) (p := 10) (by decide) (by decide) (by decide) (by decide) (by decide) (by decide)
theorem ch_chk : chkN chN = 0 := by
  refine chkN_ok (by decide) rfl ?_ ?_
  · intro j hj
    have h3 : j = 0 ∨ j = 1 ∨ j = 2 := by have : chN.ln.length = 3 := rfl; omega
    have e : chN.nm.getD j bs0 = lname j ∧ chN.ln.getD j ln0 = chL := by rcases h3 with rfl | rfl | rfl <;> exact ⟨rfl, rfl⟩
    have hf : nmErr (chN.nm.take j) (chN.nm.getD j bs0) = 0 := by
      rw [e.1]
      refine nm_fresh (lname_word j (by omega)) fun h => ?_
      obtain ⟨k, hk, hk2, e2⟩ := mem_take (d := bs0) h
      have e3 : chN.nm.getD k bs0 = lname k := by rcases (show k = 0 ∨ k = 1 ∨ k = 2 by omega) with rfl | rfl | rfl <;> rfl
      rw [e3] at e2
      have := lname_inj j (by omega) k (by omega) e2
      omega
    unfold lineE
    rw [hf, if_neg (by simp), e.2]
    decide +kernel
  · intro j hj
    have : j = 0 := by have : chN.fl.length = 1 := rfl; omega
    subst this
    have hf : nmErr ((chN.fl.take 0).map (·.nm)) (chN.fl.getD 0 fl0).nm = 0 := nm_fresh (fname_word 0 (by decide)) (by simp)
    have hr : routeE chN.ln (chN.fl.getD 0 fl0) = 0 := by decide +kernel
    unfold flowE
    rw [hf, if_neg (by simp), hr, if_neg (by simp)]
    have hG : chN.fl.getD 0 fl0 = chF := rfl
    rw [hG]
    unfold trafE
    rw [if_neg (by decide), if_neg (fun k => k ch_ct.1.valid), if_neg (by decide), if_neg (fun k => k ch_ct.2)]
abbrev chD : List (List Int) := [[3], [1], [0]]
theorem ch_shape : ShapeP chN chD := by
  refine ⟨ch_chk, rfl, fun i hi => ?_, fun i hi j hj => ?_⟩
  · rcases (show i = 0 ∨ i = 1 ∨ i = 2 by have : chD.length = 3 := rfl; omega) with rfl | rfl | rfl <;> rfl
  · rcases (show i = 0 ∨ i = 1 ∨ i = 2 by have : chD.length = 3 := rfl; omega) with rfl | rfl | rfl <;> (have : j = 0 := by simp at hj; omega) <;> subst this <;> decide
theorem ch_hop : HopP chN 0 1 ∧ HopP chN 0 2 := by
  refine ⟨⟨by decide, by decide, by decide, by decide⟩, ⟨by decide, by decide, by decide, by decide⟩⟩
theorem ch_bef : bef chD chF 1 = some 3 ∧ bef chD chF 2 = some 4 := by decide
theorem ch_at {x : List Int × Int × Int × Int} (h : AtP chN chD 0 1 x) : ∃ c : C3, VC c ∧ cv c 7 = 100 ∧ cv c 8 = 200 ∧ x = (c.1, (c.2.1 : Int), c.2.2, 0) := by
  rcases h with ⟨h, _⟩ | ⟨_, h, _⟩ | ⟨_, _, h⟩
  · exact absurd ch_shape h
  · exact absurd ch_hop.1 h
  · rcases h with ⟨h, _⟩ | ⟨s, hs, hm⟩
    · have : bef chD chF 1 = none := h
      rw [ch_bef.1] at this; contradiction
    · have hs' : bef chD chF 1 = some s := hs
      rw [ch_bef.1] at hs'
      have : s = 3 := by simpa using hs'.symm
      subst this
      have hm' : MkP (ahd (ctc chF) 3) x := hm
      obtain ⟨c, h1, h2, h3⟩ := mk_fits hm' (by decide) (ahd_mono ch_ct.1 3) (ahd_per ch_ct.1 3 1 (by decide) (by decide)) (by decide) (by decide) (by decide) (by decide) (fun t ht => by
        have ht' : t < 11 := ht
        have : ∀ t < 11, ahd (ctc chF) 3 t ≤ 1073741824 := by decide +kernel
        exact this t ht')
      refine ⟨c, h1, ?_, ?_, h3⟩
      · rw [h2]; decide +kernel
      · rw [h2]; decide +kernel
end Go.Np
end
