/-
  A text of the proofs of this seat: lemmas that the statements' proofs use; it states nothing of the program by itself beyond the contracts that its theorems bear. Conditions: those that stand in each theorem. Its short name: Pl.
-/
set_option linter.unusedVariables false
set_option linter.unusedSimpArgs false
section
namespace Go.Cv
/-! plain laws of functions that repeat with a gain -/
def Per (F : Nat → Int) (s p : Nat) (q : Int) : Prop := ∀ t, s ≤ t → F (t + p) = F t + q
theorem Per.mono {F s s' p q} (h : Per F s p q) (hs : s ≤ s') : Per F s' p q := fun t ht => h t (by omega)
theorem Per.mul {F s p q} (h : Per F s p q) : ∀ k : Nat, Per F s (k * p) (k * q)
  | 0 => fun t _ => by simp
  | k + 1 => fun t ht => by
    have h1 := Per.mul h k t ht
    have h2 := h (t + k * p) (by omega)
    rw [show t + (k + 1) * p = t + k * p + p by rw [Nat.add_mul]; omega, h2, h1]
    push_cast; rw [Int.add_mul]; omega
theorem Per.back {F s s' n p Q q} (hn : 1 ≤ n) (h : Per F s n Q) (h' : Per F s' p q) : Per F s p q := by
  intro t ht
  have h1 := h.mul s' t ht
  have h2 := h.mul s' (t + p) (by omega)
  have hle : s' ≤ t + s' * n := by have := Nat.mul_le_mul_left s' hn; omega
  have h3 := h' (t + s' * n) hle
  rw [show t + s' * n + p = t + p + s' * n by omega, h2, h1] at h3
  omega
theorem Per.uniq {F s s' p q q'} (h : Per F s p q) (h' : Per F s' p q') : q = q' := by
  have h1 := h (max s s') (by omega)
  have h2 := h' (max s s') (by omega)
  omega
/- p is the least period -/
def Min (F : Nat → Int) (p : Nat) : Prop := ∀ s' p' q', 1 ≤ p' → Per F s' p' q' → p ≤ p'
theorem Per.dvd {F s p n q Q} (hp : 1 ≤ p) (h : Per F s p q) (hm : Min F p) (hn : Per F s n Q) : p ∣ n := by
  rcases Nat.eq_zero_or_pos (n % p) with h0 | h0
  · exact Nat.dvd_of_mod_eq_zero h0
  · have hr : Per F s (n % p) (Q - (n / p : Nat) * q) := by
      intro t ht
      have h1 := hn t ht
      have h2 := h.mul (n / p) (t + n % p) (by omega)
      have h3 := Nat.div_add_mod n p
      rw [show t + n % p + n / p * p = t + n by rw [Nat.mul_comm]; omega, h1] at h2
      omega
    have := hm s (n % p) _ h0 hr
    have := Nat.mod_lt n hp
    omega
theorem exists_min {F s n Q} (hn : 1 ≤ n) (h : Per F s n Q) : ∃ p q, 1 ≤ p ∧ Per F s p q ∧ Min F p := by
  have key : ∀ (k n : Nat) (s : Nat) (Q : Int), n ≤ k → 1 ≤ n → Per F s n Q → ∃ s' p q, 1 ≤ p ∧ Per F s' p q ∧ Min F p := by
    intro k
    induction k with
    | zero => intro n s Q h1 h2; omega
    | succ k ih =>
      intro n s Q hk hn h
      by_cases hm : Min F n
      · exact ⟨s, n, Q, hn, h, hm⟩
      · simp only [Min, Classical.not_forall] at hm
        obtain ⟨s', p', q', hp', hq, hlt⟩ := hm
        exact ih p' s' q' (by omega) hp' hq
  obtain ⟨s', p, q, hp, hq, hm⟩ := key n n s Q (by omega) hn h
  exact ⟨p, q, hp, Per.back hn h hq, hm⟩
/- what the programs ask of a period -/
def Fits (F : Nat → Int) (s n : Nat) (Q : Int) (p : Nat) : Prop := n % p = 0 ∧ Q * p % n = 0 ∧ ∀ t, s ≤ t → t < s + n → F (t + p) = F t + Q * p / n
theorem Fits.per {F s n Q p} (hn : 1 ≤ n) (h : Per F s n Q) (hf : Fits F s n Q p) : Per F s p (Q * p / n) := by
  obtain ⟨_, _, h3⟩ := hf
  intro t ht
  have hd := Nat.div_add_mod (t - s) n
  have hl := Nat.mod_lt (t - s) hn
  have h1 := h.mul ((t - s) / n) (s + (t - s) % n) (by omega)
  have h2 := h.mul ((t - s) / n) (s + (t - s) % n + p) (by omega)
  have h4 := h3 (s + (t - s) % n) (by omega) (by omega)
  have e : s + (t - s) % n + (t - s) / n * n = t := by rw [Nat.mul_comm]; omega
  rw [e] at h1
  rw [show s + (t - s) % n + p + (t - s) / n * n = t + p by omega] at h2
  omega
theorem fits_of {F s n Q p q} (hn : 1 ≤ n) (h : Per F s n Q) (hp : p ∣ n) (hq : Per F s p q) : Fits F s n Q p ∧ Q * p / n = q := by
  obtain ⟨k, rfl⟩ := hp
  have h1 := hq.mul k
  rw [Nat.mul_comm] at h1
  have hQ := h.uniq h1
  have e : Q * (p : Int) = q * ((p * k : Nat) : Int) := by rw [hQ]; push_cast; ac_rfl
  have hne : ((p * k : Nat) : Int) ≠ 0 := by omega
  have e2 : Q * (p : Int) / ((p * k : Nat) : Int) = q := by rw [e]; exact Int.mul_ediv_cancel _ hne
  exact ⟨⟨Nat.mul_mod_right p k, by rw [e]; exact Int.mul_emod_left _ _, fun t ht _ => by rw [e2]; exact hq t ht⟩, e2⟩
theorem Fits.min {F s n Q p} (hn : 1 ≤ n) (h : Per F s n Q) (hl : ∀ p', 1 ≤ p' → p' < p → ¬Fits F s n Q p') : Min F p := by
  obtain ⟨p0, q0, h0, hq0, hm⟩ := exists_min hn h
  have hd := hq0.dvd h0 hm h
  have hf0 := (fits_of hn h hd hq0).1
  have : p ≤ p0 := by
    rcases Nat.lt_or_ge p0 p with h1 | h1
    · exact absurd hf0 (hl p0 h0 h1)
    · exact h1
  intro s' p' q' hp' hq'
  have := hm s' p' q' hp' hq'
  omega
theorem fits_self {F s n Q} (hn : 1 ≤ n) (h : Per F s n Q) : Fits F s n Q n := (fits_of hn h (Nat.dvd_refl n) h).1

/- the least start -/
def MinS (F : Nat → Int) (s p : Nat) (q : Int) : Prop := ∀ s', Per F s' p q → s ≤ s'
theorem minS_of {F s p q} (h : s = 0 ∨ F (s - 1 + p) ≠ F (s - 1) + q) : MinS F s p q := by
  intro s' hs'
  rcases Nat.lt_or_ge s' s with h1 | h1
  · rcases h with h | h
    · omega
    · exact absurd (hs' (s - 1) (by omega)) h
  · exact h1
theorem Per.pred {F s p q} (h : Per F s p q) (h1 : F (s - 1 + p) = F (s - 1) + q) : Per F (s - 1) p q := by
  intro t ht
  rcases Nat.lt_or_ge t s with h2 | h2
  · have : t = s - 1 := by omega
    subst this; exact h1
  · exact h t h2

abbrev INF : Int := 4611686018427387904
def vals (F : Nat → Int) (n : Nat) : List Int := (List.range n).map F
theorem vals_len (F : Nat → Int) (n : Nat) : (vals F n).length = n := by simp [vals]
theorem vals_get {F : Nat → Int} {n t : Nat} (h : t < n) : (vals F n).getD t 0 = F t := by simp [vals, h]
theorem vals_succ (F : Nat → Int) (n : Nat) : vals F (n + 1) = vals F n ++ [F n] := by simp [vals, List.range_succ]
/- the normal form of a function that repeats -/
def NF (F : Nat → Int) (vs : List Int) (p : Nat) (q : Int) : Prop := ∃ s, 1 ≤ p ∧ Per F s p q ∧ Min F p ∧ MinS F s p q ∧ vs = vals F (s + p)
theorem NF.uniq {F vs p q vs' p' q'} (h : NF F vs p q) (h' : NF F vs' p' q') : vs = vs' ∧ p = p' ∧ q = q' := by
  obtain ⟨s, h2, h3, h4, h5, h6⟩ := h
  obtain ⟨s', g2, g3, g4, g5, g6⟩ := h'
  have e1 := h4 s' p' q' g2 g3
  have e2 := g4 s p q h2 h3
  have : p = p' := by omega
  subst this
  have hq := h3.uniq g3
  subst hq
  have e3 := h5 s' g3
  have e4 := g5 s h3
  have : s = s' := by omega
  subst this
  exact ⟨by rw [h6, g6], rfl, rfl⟩
/- what ends in the infinite -/
theorem NF.inf {F : Nat → Int} {m : Nat} (h1 : ∀ t, m ≤ t → F t = INF) (h2 : ∀ t < m, F t ≠ INF) : NF F (vals F (m + 1)) 1 0 := by
  refine ⟨m, by omega, fun t ht => by rw [h1 t ht, h1 (t + 1) (by omega)]; rfl, fun _ p' _ hp' _ => hp', fun s' hs' => ?_, rfl⟩
  rcases Nat.lt_or_ge s' m with h | h
  · have := hs' (m - 1) (by omega)
    rw [show m - 1 + 1 = m by omega, h1 m (by omega)] at this
    exact absurd (by omega) (h2 (m - 1) (by omega))
  · exact h

/-! the function of a curve -/
def val (vs : List Int) (p : Nat) (q : Int) (t : Nat) : Int :=
  if t < vs.length then vs.getD t 0 else
  if vs.getD (t - ((t - vs.length) / p + 1) * p) 0 = INF then INF else vs.getD (t - ((t - vs.length) / p + 1) * p) 0 + ((t - vs.length) / p + 1 : Nat) * q
theorem val_lt {vs p q t} (h : t < vs.length) : val vs p q t = vs.getD t 0 := by simp [val, h]
theorem val_per {vs : List Int} {p : Nat} {q : Int} (hp : 1 ≤ p) (hn : p ≤ vs.length) (hf : ∀ t, vs.length - p ≤ t → t < vs.length → vs.getD t 0 ≠ INF) : Per (val vs p q) (vs.length - p) p q := by
  have idx : ∀ t, vs.length ≤ t → vs.length - p ≤ t - ((t - vs.length) / p + 1) * p ∧ t - ((t - vs.length) / p + 1) * p < vs.length ∧ ((t - vs.length) / p + 1) * p ≤ t := by
    intro t ht
    have h1 := Nat.div_add_mod (t - vs.length) p
    have h2 := Nat.mod_lt (t - vs.length) hp
    have h3 : ((t - vs.length) / p + 1) * p = p * ((t - vs.length) / p) + p := by rw [Nat.add_mul, Nat.one_mul, Nat.mul_comm]
    omega
  intro t ht
  obtain ⟨i1, i2, i3⟩ := idx (t + p) (by omega)
  have hne := hf _ i1 i2
  have e1 : val vs p q (t + p) = vs.getD (t + p - ((t + p - vs.length) / p + 1) * p) 0 + ((t + p - vs.length) / p + 1 : Nat) * q := by
    simp only [val]; rw [if_neg (by omega), if_neg hne]
  rw [e1]
  by_cases hlt : t < vs.length
  · have : (t + p - vs.length) / p = 0 := Nat.div_eq_of_lt (by omega)
    rw [this, val_lt hlt]
    simp
  · obtain ⟨j1, j2, j3⟩ := idx t (by omega)
    have hne' := hf _ j1 j2
    have e2 : val vs p q t = vs.getD (t - ((t - vs.length) / p + 1) * p) 0 + ((t - vs.length) / p + 1 : Nat) * q := by
      simp only [val]; rw [if_neg hlt, if_neg hne']
    have e3 : (t + p - vs.length) / p = (t - vs.length) / p + 1 := by
      rw [show t + p - vs.length = t - vs.length + p by omega, Nat.add_div_right _ hp]
    rw [e2, e3]
    have e4 : t + p - ((t - vs.length) / p + 1 + 1) * p = t - ((t - vs.length) / p + 1) * p := by
      rw [Nat.add_mul ((t - vs.length) / p + 1) 1 p]; omega
    rw [e4]
    generalize (t - vs.length) / p = k
    have : ((k + 1 + 1 : Nat) : Int) * q = ((k + 1 : Nat) : Int) * q + q := by push_cast; rw [Int.add_mul, Int.one_mul]
    omega
def ValidP (vs : List Int) (p i : Int) : Prop :=
  1 ≤ vs.length ∧ vs.length ≤ 400 ∧ 1 ≤ p ∧ p ≤ 120 ∧ p ≤ vs.length ∧ 0 ≤ i ∧ i ≤ 1073741824 ∧
  (∀ j < vs.length, vs.getD j 0 = 4611686018427387904 ∨ 0 ≤ vs.getD j 0 ∧ vs.getD j 0 ≤ 1073741824) ∧
  (∀ j, j + 1 < vs.length → vs.getD j 0 ≤ vs.getD (j + 1) 0) ∧
  (vs.getD (vs.length - 1) 0 = 4611686018427387904 → p = 1 ∧ i = 0) ∧
  (vs.getD (vs.length - 1) 0 ≠ 4611686018427387904 → vs.getD (vs.length - p.toNat) 0 + i ≥ vs.getD (vs.length - 1) 0)
/- what Least returns -/
def LeastP (vs : List Int) (P : Nat) (Q : Int) (vs' : List Int) (p' : Nat) (q' : Int) : Prop :=
  (∃ m, m < vs.length ∧ vs.getD m 0 = INF ∧ (∀ k < m, vs.getD k 0 ≠ INF) ∧ vs' = vs.take (m + 1) ∧ p' = 1 ∧ q' = 0) ∨
  ((∀ k < vs.length, vs.getD k 0 ≠ INF) ∧ NF (val vs P Q) vs' p' q')

structure VF (vs : List Int) (p : Nat) (q : Int) : Prop where
  n1 : 1 ≤ vs.length
  n2 : vs.length ≤ 400
  p1 : 1 ≤ p
  p2 : p ≤ 120
  pn : p ≤ vs.length
  q0 : 0 ≤ q
  q1 : q ≤ 1073741824
  v : ∀ j < vs.length, vs.getD j 0 = INF ∨ 0 ≤ vs.getD j 0 ∧ vs.getD j 0 ≤ 1073741824
  mono : ∀ j k, j ≤ k → k < vs.length → vs.getD j 0 ≤ vs.getD k 0
  inf : vs.getD (vs.length - 1) 0 = INF → p = 1 ∧ q = 0
  fin : vs.getD (vs.length - 1) 0 ≠ INF → vs.getD (vs.length - p) 0 + q ≥ vs.getD (vs.length - 1) 0
theorem mono_of {vs : List Int} (h : ∀ j, j + 1 < vs.length → vs.getD j 0 ≤ vs.getD (j + 1) 0) : ∀ j k, j ≤ k → k < vs.length → vs.getD j 0 ≤ vs.getD k 0 := by
  intro j k hjk
  induction k with
  | zero => intro _; have : j = 0 := by omega
            subst this; exact Int.le_refl _
  | succ k ih =>
    intro hk
    by_cases e : j = k + 1
    · subst e; exact Int.le_refl _
    · have := ih (by omega) (by omega)
      have := h k hk
      omega
theorem ValidP.vf {vs p q} (h : ValidP vs p q) : ∃ p' : Nat, p = p' ∧ VF vs p' q := by
  obtain ⟨h1, h2, h3, h4, h5, h6, h7, h8, h9, h10, h11⟩ := h
  refine ⟨p.toNat, by omega, h1, h2, by omega, by omega, by omega, h6, h7, h8, mono_of h9, fun e => ?_, fun e => h11 e⟩
  have := h10 e
  omega
theorem VF.noinf {vs p q} (h : VF vs p q) (hf : vs.getD (vs.length - 1) 0 ≠ INF) : ∀ k < vs.length, vs.getD k 0 ≠ INF := by
  intro k hk e
  have h1 := h.mono k (vs.length - 1) (by omega) (by omega)
  have := h.v (vs.length - 1) (by have := h.n1; omega)
  rw [e] at h1
  simp only [INF] at *
  omega
theorem VF.val_inf {vs p q} (h : VF vs p q) (hf : vs.getD (vs.length - 1) 0 = INF) {m : Nat} (hm : vs.getD m 0 = INF) : ∀ t, m ≤ t → val vs p q t = INF := by
  intro t ht
  obtain ⟨rfl, rfl⟩ := h.inf hf
  by_cases hlt : t < vs.length
  · rw [val_lt hlt]
    have h1 := h.mono m t ht hlt
    have := h.v t hlt
    rw [hm] at h1
    simp only [INF] at *
    omega
  · simp only [val]
    rw [if_neg hlt]
    have : t - ((t - vs.length) / 1 + 1) * 1 = vs.length - 1 := by have := h.n1; omega
    rw [this, if_pos hf]
theorem LeastP.nf {vs p q vs' p' q'} (h : VF vs p q) (hl : LeastP vs p q vs' p' q') : NF (val vs p q) vs' p' q' := by
  rcases hl with ⟨m, h1, h2, h3, rfl, rfl, rfl⟩ | ⟨_, h1⟩
  · have hf : vs.getD (vs.length - 1) 0 = INF := by
      have h4 := h.mono m (vs.length - 1) (by omega) (by omega)
      have := h.v (vs.length - 1) (by omega)
      rw [h2] at h4
      simp only [INF] at *
      omega
    have e : vs.take (m + 1) = vals (val vs p q) (m + 1) := by
      apply List.ext_getElem
      · rw [vals_len, List.length_take]; omega
      · intro i h5 h6
        rw [vals_len] at h6
        simp only [vals, List.getElem_map, List.getElem_range, List.getElem_take]
        rw [val_lt (by omega), List.getD_eq_getElem?_getD, List.getElem?_eq_getElem (by omega)]
        rfl
    rw [e]
    exact NF.inf (h.val_inf hf h2) (fun t ht => by rw [val_lt (by omega)]; exact h3 t ht)
  · exact h1
def MadeP (vs : List Int) (P : Nat) (Q : Int) (vs' : List Int) (p' q' e : Int) : Prop :=
  ∃ ws p1 q1, LeastP vs P Q ws p1 q1 ∧ ((ValidP ws p1 q1 ∧ vs' = ws ∧ p' = p1 ∧ q' = q1 ∧ e = 0) ∨ (¬ValidP ws p1 q1 ∧ vs' = [] ∧ p' = 0 ∧ q' = 0 ∧ e = 3))
def NormP (vs : List Int) (p q : Int) (vs' : List Int) (p' q' e : Int) : Prop :=
  (e = 0 ∧ ∃ p0 p1 : Nat, p = p0 ∧ p' = p1 ∧ VF vs p0 q ∧ NF (val vs p0 q) vs' p1 q') ∨ (¬ValidP vs p q ∧ vs' = [] ∧ p' = 0 ∧ q' = 0 ∧ e = 1)
end Go.Cv
end
section
namespace Go.Cv
def Mono (F : Nat → Int) : Prop := ∀ t, F t ≤ F (t + 1)
theorem Mono.le {F} (h : Mono F) : ∀ {s t : Nat}, s ≤ t → F s ≤ F t := by
  intro s t hst
  induction t with
  | zero => have : s = 0 := by omega
            subst this; exact Int.le_refl _
  | succ t ih =>
    by_cases e : s = t + 1
    · subst e; exact Int.le_refl _
    · exact Int.le_trans (ih (by omega)) (h t)
theorem VF.per {vs p q} (h : VF vs p q) : Per (val vs p q) (vs.length - p) p q := by
  by_cases hf : vs.getD (vs.length - 1) 0 = INF
  · obtain ⟨rfl, rfl⟩ := h.inf hf
    have hi := h.val_inf hf hf
    intro t ht
    rw [hi t (by omega), hi (t + 1) (by omega)]; rfl
  · exact val_per h.p1 h.pn (fun t _ ht => h.noinf hf t ht)
theorem VF.mono' {vs p q} (h : VF vs p q) : Mono (val vs p q) := by
  have hper := h.per
  have n1 := h.n1
  have p1 := h.p1
  have pn := h.pn
  intro t
  induction t using Nat.strongRecOn with
  | _ t ih =>
    by_cases h1 : t + 1 < vs.length
    · rw [val_lt (by omega), val_lt h1]; exact h.mono t (t + 1) (by omega) h1
    · by_cases h2 : t + 1 = vs.length
      · have e := hper (vs.length - p) (by omega)
        rw [show vs.length - p + p = t + 1 by omega] at e
        rw [e, val_lt (by omega), val_lt (by omega)]
        rw [show t = vs.length - 1 by omega]
        by_cases hf : vs.getD (vs.length - 1) 0 = INF
        · obtain ⟨rfl, rfl⟩ := h.inf hf
          omega
        · have := h.fin hf; omega
      · have e1 := hper (t - p) (by omega)
        have e2 := hper (t + 1 - p) (by omega)
        have := ih (t - p) (by omega)
        rw [show t - p + p = t by omega] at e1
        rw [show t + 1 - p + p = t + 1 by omega] at e2
        rw [show t - p + 1 = t + 1 - p by omega] at this
        omega
theorem VF.nonneg {vs p q} (h : VF vs p q) (t : Nat) : 0 ≤ val vs p q t := by
  have h0 := h.mono'.le (Nat.zero_le t)
  have : 0 ≤ val vs p q 0 := by
    rw [val_lt (by have := h.n1; omega)]
    have := h.v 0 (by have := h.n1; omega)
    simp only [INF] at this; omega
  omega
/- the function of a normal form -/
theorem NF.val {F vs p q} (h : NF F vs p q) (hi : q ≠ 0 → ∀ t < vs.length, F t ≠ INF) : ∀ t, val vs p q t = F t := by
  obtain ⟨s, p1, hper, hmin, hms, rfl⟩ := h
  intro t
  rw [vals_len] at hi
  by_cases hlt : t < s + p
  · rw [val_lt (by rw [vals_len]; exact hlt), vals_get hlt]
  · simp only [Cv.val]
    rw [if_neg (by rw [vals_len]; exact hlt), vals_len]
    have hd := Nat.div_add_mod (t - (s + p)) p
    have hm := Nat.mod_lt (t - (s + p)) p1
    have hk : ((t - (s + p)) / p + 1) * p = p * ((t - (s + p)) / p) + p := by rw [Nat.add_mul, Nat.one_mul, Nat.mul_comm]
    generalize (t - (s + p)) / p + 1 = k at *
    have hidx : t - k * p < s + p ∧ s ≤ t - k * p ∧ k * p ≤ t := by omega
    rw [vals_get hidx.1]
    have e := hper.mul k (t - k * p) hidx.2.1
    rw [show t - k * p + k * p = t by omega] at e
    rw [e]
    split
    · rename_i hINF
      by_cases hq : q = 0
      · subst hq; rw [hINF]; simp
      · exact absurd hINF (hi hq _ hidx.1)
    · rfl
theorem NF.vf {vs p q vs' p' q'} (h : VF vs p q) (hn : NF (Cv.val vs p q) vs' p' q') : VF vs' p' q' ∧ ∀ t, Cv.val vs' p' q' t = Cv.val vs p q t := by
  have hper := h.per
  have hmo := h.mono'
  have n1 := h.n1
  have p1 := h.p1
  have pn := h.pn
  have hn0 := hn
  obtain ⟨s, g1, g2, g3, g4, g5⟩ := hn
  have hpp : p' ≤ p := g3 _ p q p1 hper
  have hb := Per.back p1 hper g2
  have hs : s ≤ vs.length - p := g4 _ hb
  have hlen : vs'.length = s + p' := by rw [g5, vals_len]
  have hq0 : 0 ≤ q' := by have := g2 s (Nat.le_refl _); have := hmo.le (show s ≤ s + p' by omega); omega
  have hdvd := Per.dvd g1 hb g3 hper
  obtain ⟨k, hk⟩ := hdvd
  have hqk : q = k * q' := by
    have := hb.mul k
    rw [show k * p' = p by rw [hk, Nat.mul_comm]] at this
    exact hper.uniq this
  have hk1 : 1 ≤ k := by
    rcases Nat.eq_zero_or_pos k with h0 | h0
    · subst h0; omega
    · exact h0
  have hqq : q' ≤ q := by
    rw [hqk]
    have : 1 * q' ≤ (k : Int) * q' := Int.mul_le_mul_of_nonneg_right (by omega) hq0
    omega
  have hget : ∀ j, j < vs'.length → vs'.getD j 0 = vs.getD j 0 := by
    intro j hj
    rw [g5, vals_get (by omega), val_lt (by omega)]
  have hi : q' ≠ 0 → ∀ t < vs'.length, Cv.val vs p q t ≠ INF := by
    intro hq t ht
    rw [val_lt (by omega)]
    apply h.noinf _ t (by omega)
    intro hinf
    have := h.inf hinf
    apply hq
    have e := this.2
    rw [hqk] at e
    have h2 : 1 * q' ≤ (k : Int) * q' := Int.mul_le_mul_of_nonneg_right (by omega) hq0
    omega
  refine ⟨⟨by omega, by have := h.n2; omega, g1, by have := h.p2; omega, by omega, hq0, by have := h.q1; omega, ?_, ?_, ?_, ?_⟩, hn0.val hi⟩
  · intro j hj; rw [hget j hj]; exact h.v j (by omega)
  · intro j k hjk hk; rw [hget j (by omega), hget k hk]; exact h.mono j k hjk (by omega)
  · intro he
    rw [hget _ (by omega)] at he
    have hlast : vs.getD (vs.length - 1) 0 = INF := by
      have h4 := h.mono (vs'.length - 1) (vs.length - 1) (by omega) (by omega)
      have := h.v (vs.length - 1) (by omega)
      rw [he] at h4
      simp only [INF] at *
      omega
    obtain ⟨rfl, rfl⟩ := h.inf hlast
    exact ⟨by omega, by omega⟩
  · intro he
    have e := g2 s (Nat.le_refl _)
    have hle := hmo.le (show s + p' - 1 ≤ s + p' by omega)
    rw [hget _ (by omega), hget _ (by omega), hlen, show s + p' - p' = s by omega, ← val_lt (vs := vs) (p := p) (q := q) (t := s) (by omega), ← val_lt (vs := vs) (p := p) (q := q) (t := s + p' - 1) (by omega)]
    omega
/-! ### what the builders of curves return -/
def CheckP (v : List Int) (p q : Int) (x : List Int × Int × Int × Int) : Prop :=
  ((400 < v.length ∨ ∃ j < v.length, v.getD j 0 ≠ INF ∧ 1073741824 < v.getD j 0) ∧ x = ([], 0, 0, 3)) ∨
  (v.length ≤ 400 ∧ (∀ j < v.length, v.getD j 0 = INF ∨ v.getD j 0 ≤ 1073741824) ∧ x = (v, p, q, 0))
def BuildP (F : Nat → Int) (N : Nat) (x : List Int × Int × Int × Int) : Prop :=
  (∃ m, m < N ∧ F m = INF ∧ (∀ k < m, F k ≠ INF) ∧ CheckP (vals F (m + 1)) 1 0 x) ∨
  ((∀ k < N, F k ≠ INF) ∧ ∃ (vs : List Int) (p : Nat) (q : Int), NF F vs p q ∧ vs.length ≤ N ∧ (((120 < p ∨ 1073741824 < q) ∧ x = ([], 0, 0, 3)) ∨ (p ≤ 120 ∧ q ≤ 1073741824 ∧ CheckP vs p q x)))

/- the normal form of a function, if it is a curve -/
def MkP (F : Nat → Int) (x : List Int × Int × Int × Int) : Prop :=
  (∃ (vs : List Int) (p : Nat) (q : Int), NF F vs p q ∧ VF vs p q ∧ x = (vs, (p : Int), q, 0)) ∨ ((∀ (vs : List Int) (p : Nat) (q : Int), NF F vs p q → ¬VF vs p q) ∧ x = ([], 0, 0, 3))
theorem MkP.uniq {F x y} (h : MkP F x) (h' : MkP F y) : x = y := by
  rcases h with ⟨vs, p, q, h1, h2, rfl⟩ | ⟨h1, rfl⟩
  · rcases h' with ⟨vs', p', q', h1', h2', rfl⟩ | ⟨h1', rfl⟩
    · obtain ⟨rfl, rfl, rfl⟩ := h1.uniq h1'; rfl
    · exact absurd h2 (h1' _ _ _ h1)
  · rcases h' with ⟨vs', p', q', h1', h2', rfl⟩ | ⟨h1', rfl⟩
    · exact absurd h2' (h1 _ _ _ h1')
    · rfl
theorem VF.valid {vs : List Int} {p : Nat} {q : Int} (h : VF vs p q) : ValidP vs p q := by
  have n1 := h.n1; have n2 := h.n2; have p1 := h.p1; have p2 := h.p2; have pn := h.pn
  refine ⟨by omega, by omega, by omega, by omega, by omega, h.q0, h.q1, h.v, fun j hj => h.mono j (j + 1) (by omega) hj, fun e => ?_, fun e => ?_⟩
  · have := h.inf e; omega
  · rw [Int.toNat_natCast]; exact h.fin e
theorem checkP_mk {F : Nat → Int} {vs : List Int} {p : Nat} {q : Int} {x : List Int × Int × Int × Int} (h0 : 0 ≤ F 0) (hm : Mono F) (h : NF F vs p q) (hp : p ≤ 120) (hq : q ≤ 1073741824) (hle : ∀ j < vs.length, F j ≤ INF)
    (hi : vs.getD (vs.length - 1) 0 = INF → p = 1 ∧ q = 0) (hc : CheckP vs p q x) : MkP F x := by
  have h' := h
  obtain ⟨s, p1, hper, hmin, hms, rfl⟩ := h
  rw [vals_len] at hi hle
  rcases hc with ⟨hbad, rfl⟩ | ⟨hl, hv, rfl⟩
  · refine .inr ⟨fun vs' p' q' hnf hvf => ?_, rfl⟩
    obtain ⟨rfl, rfl, rfl⟩ := h'.uniq hnf
    rcases hbad with hbad | ⟨j, hj, h1, h2⟩
    · have := hvf.n2; omega
    · have := hvf.v j hj; simp only [INF] at *; omega
  · refine .inl ⟨_, _, _, h', ⟨by rw [vals_len]; omega, hl, p1, hp, by rw [vals_len]; omega, ?_, hq, ?_, ?_, by rw [vals_len]; exact hi, ?_⟩, rfl⟩
    · have := hper s (Nat.le_refl _); have := hm.le (show s ≤ s + p by omega); omega
    · intro j hj
      have h1 := hv j hj
      rw [vals_len] at hj
      rw [vals_get hj] at h1 ⊢
      have := hm.le (Nat.zero_le j)
      rcases h1 with h1 | h1
      · exact .inl h1
      · exact .inr ⟨by omega, h1⟩
    · intro j k hjk hk
      rw [vals_len] at hk
      rw [vals_get (by omega), vals_get hk]; exact hm.le hjk
    · intro _
      rw [vals_len, show s + p - p = s by omega, vals_get (by omega), vals_get (by omega)]
      have := hper s (Nat.le_refl _); have := hm.le (show s + p - 1 ≤ s + p by omega); omega
theorem buildP_mk {F : Nat → Int} {N : Nat} {x : List Int × Int × Int × Int} (h0 : 0 ≤ F 0) (hm : Mono F) (hle : ∀ t < N, F t ≤ INF) (hinf : ∀ m < N, F m = INF → ∀ t, m ≤ t → F t = INF) (h : BuildP F N x) : MkP F x := by
  rcases h with ⟨m, h1, h2, h3, hc⟩ | ⟨h1, vs, p, q, hnf, hl, hc⟩
  · have hnf : NF F (vals F (m + 1)) 1 0 := NF.inf (hinf m h1 h2) h3
    refine checkP_mk (p := 1) h0 hm hnf (by omega) (by omega) (fun j hj => ?_) (fun _ => ⟨rfl, rfl⟩) hc
    rw [vals_len] at hj; exact hle j (by omega)
  · rcases hc with ⟨hbad, rfl⟩ | ⟨hp, hq, hc⟩
    · refine .inr ⟨fun vs' p' q' hnf' hvf => ?_, rfl⟩
      obtain ⟨rfl, rfl, rfl⟩ := hnf.uniq hnf'
      have := hvf.p2; have := hvf.q1; omega
    · refine checkP_mk h0 hm hnf (by omega) hq (fun j hj => hle j (by omega)) (fun e => ?_) hc
      exfalso
      obtain ⟨s, p1, _, _, _, rfl⟩ := hnf
      rw [vals_len] at e hl
      rw [vals_get (by omega)] at e
      exact h1 _ (by omega) e
/- the function of a list that repeats with a gain -/
theorem val_of_per {F : Nat → Int} {vs : List Int} {P : Nat} {Q : Int} (hP : 1 ≤ P) (hn : P ≤ vs.length) (hv : ∀ t < vs.length, F t = vs.getD t 0) (hf : ∀ k < vs.length, vs.getD k 0 ≠ INF) (hper : Per F (vs.length - P) P Q) : ∀ t, val vs P Q t = F t := by
  have hp2 := val_per (q := Q) hP hn (fun t _ ht => hf t ht)
  intro t
  induction t using Nat.strongRecOn with
  | _ t ih =>
    by_cases h1 : t < vs.length
    · rw [val_lt h1, hv t h1]
    · have e1 := hp2 (t - P) (by omega)
      have e2 := hper (t - P) (by omega)
      rw [show t - P + P = t by omega] at e1 e2
      rw [e1, e2, ih (t - P) (by omega)]
theorem madeP_mk {F : Nat → Int} {vs : List Int} {P : Nat} {Q : Int} {x : List Int × Int × Int × Int} (hP : 1 ≤ P) (hn : P ≤ vs.length) (hv : ∀ t < vs.length, F t = vs.getD t 0)
    (hinf : ∀ m < vs.length, F m = INF → ∀ t, m ≤ t → F t = INF) (hper : (∀ t < vs.length, F t ≠ INF) → Per F (vs.length - P) P Q) (h : MadeP vs P Q x.1 x.2.1 x.2.2.1 x.2.2.2) : MkP F x := by
  obtain ⟨ws, p1, q1, hL, hx⟩ := h
  have hnf : NF F ws p1 q1 := by
    rcases hL with ⟨m, h1, h2, h3, rfl, rfl, rfl⟩ | ⟨h1, h2⟩
    · have e : vs.take (m + 1) = vals F (m + 1) := by
        apply List.ext_getElem
        · rw [vals_len, List.length_take]; omega
        · intro i h5 h6
          rw [vals_len] at h6
          simp only [vals, List.getElem_map, List.getElem_range, List.getElem_take]
          rw [hv i (by omega), List.getD_eq_getElem?_getD, List.getElem?_eq_getElem (by omega)]
          rfl
      rw [e]
      exact NF.inf (hinf m h1 (by rw [hv m h1]; exact h2)) (fun t ht => by rw [hv t (by omega)]; exact h3 t ht)
    · have : val vs P Q = F := funext (val_of_per hP hn hv h1 (hper (fun t ht => by rw [hv t ht]; exact h1 t ht)))
      rw [← this]; exact h2
  obtain ⟨x1, x2, x3, x4⟩ := x
  rcases hx with ⟨hv, rfl, rfl, rfl, rfl⟩ | ⟨hv, rfl, rfl, rfl, rfl⟩
  · obtain ⟨p', e, hvf⟩ := hv.vf
    have : p1 = p' := by omega
    subst this
    exact .inl ⟨_, _, _, hnf, hvf, rfl⟩
  · refine .inr ⟨fun vs' p' q' hnf' hvf => ?_, rfl⟩
    obtain ⟨rfl, rfl, rfl⟩ := hnf.uniq hnf'
    exact hv hvf.valid
theorem mkP_lim {F : Nat → Int} (h : ∀ (vs : List Int) (p : Nat) (q : Int), NF F vs p q → ¬VF vs p q) : MkP F ([], 0, 0, 3) := .inr ⟨h, rfl⟩
theorem VF.sound {vs p q F} (h : VF vs p q) (hn : NF F vs p q) : ∀ t, val vs p q t = F t := by
  refine hn.val (fun hq t ht e => ?_)
  obtain ⟨s, _, _, _, _, rfl⟩ := hn
  rw [vals_len] at ht
  rw [← vals_get (F := F) ht] at e
  by_cases hf : (vals F (s + p)).getD ((vals F (s + p)).length - 1) 0 = INF
  · exact hq (h.inf hf).2
  · exact h.noinf hf t (by rw [vals_len]; exact ht) e
end Go.Cv
end
section
namespace Go.Cv
/-! plain laws of what is left of a curve -/
abbrev C3 := List Int × Nat × Int
def cv (a : C3) (t : Nat) : Int := val a.1 a.2.1 a.2.2 t
abbrev VC (a : C3) : Prop := VF a.1 a.2.1 a.2.2
def infAt (vs : List Int) (t : Nat) : Prop := vs.getD (min t (vs.length - 1)) 0 = INF
instance (vs : List Int) (t : Nat) : Decidable (infAt vs t) := inferInstanceAs (Decidable (_ = _))
def FinC (a : C3) : Prop := a.1.getD (a.1.length - 1) 0 ≠ INF
instance (a : C3) : Decidable (FinC a) := inferInstanceAs (Decidable (¬ _ = _))
theorem VF.val_le {vs p q} (h : VF vs p q) (hf : vs.getD (vs.length - 1) 0 ≠ INF) (t : Nat) : val vs p q t ≤ 1073741824 + (t + 1 : Nat) * q := by
  have n1 := h.n1
  have p1 := h.p1
  have pn := h.pn
  have q0 := h.q0
  have hv : ∀ j, j < vs.length → vs.getD j 0 ≤ 1073741824 := by
    intro j hj
    have h1 := h.v j hj
    have h2 := h.noinf hf j hj
    simp only [INF] at *; omega
  by_cases hlt : t < vs.length
  · rw [val_lt hlt]
    have h1 := hv t hlt
    have : (0 : Int) ≤ (t + 1 : Nat) * q := Int.mul_nonneg (by omega) q0
    omega
  · simp only [val]
    rw [if_neg hlt]
    have hd := Nat.div_le_self (t - vs.length) p
    have h1 := Nat.div_add_mod (t - vs.length) p
    have h2 := Nat.mod_lt (t - vs.length) p1
    have h3 : ((t - vs.length) / p + 1) * p = p * ((t - vs.length) / p) + p := by rw [Nat.add_mul, Nat.one_mul, Nat.mul_comm]
    have hidx : t - ((t - vs.length) / p + 1) * p < vs.length := by omega
    rw [if_neg (h.noinf hf _ hidx)]
    have h4 := hv _ hidx
    have h5 : (((t - vs.length) / p + 1 : Nat) : Int) * q ≤ (t + 1 : Nat) * q := Int.mul_le_mul_of_nonneg_right (by omega) q0
    omega
theorem VF.inf_iff {vs p q} (h : VF vs p q) {t : Nat} (ht : t ≤ 1048576) : val vs p q t = INF ↔ infAt vs t := by
  have n1 := h.n1
  unfold infAt
  by_cases hlt : t < vs.length
  · rw [val_lt hlt, Nat.min_eq_left (by omega)]
  · rw [Nat.min_eq_right (by omega)]
    constructor
    · intro he
      apply Classical.byContradiction
      intro hf
      have h1 := h.val_le hf t
      have h2 : ((t + 1 : Nat) : Int) * q ≤ 1048577 * 1073741824 := Int.mul_le_mul (by omega) h.q1 h.q0 (by omega)
      rw [he] at h1
      simp only [INF] at h1
      omega
    · intro he
      exact h.val_inf he he t (by omega)
theorem VF.infAt_mono {vs p q} (h : VF vs p q) {s t : Nat} (hst : s ≤ t) (hs : infAt vs s) : infAt vs t := by
  have n1 := h.n1
  unfold infAt at *
  have h1 := h.mono (min s (vs.length - 1)) (min t (vs.length - 1)) (by omega) (by omega)
  have h2 := h.v (min t (vs.length - 1)) (by omega)
  rw [hs] at h1
  simp only [INF] at *
  omega
theorem FinC.not {a : C3} (h : VC a) (hf : FinC a) (t : Nat) : ¬infAt a.1 t := by
  have n1 := h.n1
  exact h.noinf hf _ (by omega)
theorem inf_late {a : C3} (hf : ¬FinC a) {t : Nat} (ht : a.1.length - 1 ≤ t) : infAt a.1 t := by
  unfold FinC at hf
  unfold infAt
  rw [Nat.min_eq_right ht]
  exact Classical.not_not.1 hf
theorem inf_p {a : C3} (h : VC a) (hf : ¬FinC a) : a.2.1 = 1 ∧ a.2.2 = 0 := h.inf (Classical.not_not.1 hf)

/- the difference -/
def dif (a b : C3) (t : Nat) : Int := if infAt b.1 t then 0 else if infAt a.1 t then INF else cv a t - cv b t
def frm (a b : C3) : Nat := max (a.1.length - a.2.1) (b.1.length - b.2.1)
def com (a b : C3) : Nat := Nat.lcm a.2.1 b.2.1
def drf (a b : C3) : Int := a.2.2 * ((com a b / a.2.1 : Nat) : Int) - b.2.2 * ((com a b / b.2.1 : Nat) : Int)
theorem com_pos {a b : C3} (ha : VC a) (hb : VC b) : 1 ≤ com a b := Nat.lcm_pos ha.p1 hb.p1
theorem cv_com_l {a b : C3} (ha : VC a) {t : Nat} (ht : frm a b ≤ t) : cv a (t + com a b) = cv a t + a.2.2 * ((com a b / a.2.1 : Nat) : Int) := by
  obtain ⟨k, hk⟩ := Nat.dvd_lcm_left a.2.1 b.2.1
  have h1 := ha.per.mul k t (by unfold frm at ht; omega)
  have e : com a b = k * a.2.1 := by unfold com; rw [hk, Nat.mul_comm]
  have e2 : com a b / a.2.1 = k := by rw [e]; exact Nat.mul_div_cancel k ha.p1
  unfold cv
  rw [e2, e, h1, Int.mul_comm]
theorem cv_com_r {a b : C3} (hb : VC b) {t : Nat} (ht : frm a b ≤ t) : cv b (t + com a b) = cv b t + b.2.2 * ((com a b / b.2.1 : Nat) : Int) := by
  obtain ⟨k, hk⟩ := Nat.dvd_lcm_right a.2.1 b.2.1
  have h1 := hb.per.mul k t (by unfold frm at ht; omega)
  have e : com a b = k * b.2.1 := by unfold com; rw [hk, Nat.mul_comm]
  have e2 : com a b / b.2.1 = k := by rw [e]; exact Nat.mul_div_cancel k hb.p1
  unfold cv
  rw [e2, e, h1, Int.mul_comm]
theorem dif_fin {a b : C3} (ha : VC a) (hb : VC b) (fa : FinC a) (fb : FinC b) (t : Nat) : dif a b t = cv a t - cv b t := by
  unfold dif; rw [if_neg (fb.not hb t), if_neg (fa.not ha t)]
theorem dif_per {a b : C3} (ha : VC a) (hb : VC b) (fa : FinC a) (fb : FinC b) : Per (dif a b) (frm a b) (com a b) (drf a b) := by
  intro t ht
  rw [dif_fin ha hb fa fb, dif_fin ha hb fa fb, cv_com_l ha ht, cv_com_r hb ht]
  unfold drf; omega
/- where one is not finite the difference is constant at last -/
theorem dif_late {a b : C3} (ha : VC a) (hb : VC b) (h : ¬(FinC a ∧ FinC b)) {t : Nat} (ht : frm a b ≤ t) : dif a b t = if FinC b then INF else 0 := by
  unfold frm at ht
  unfold dif
  by_cases fb : FinC b
  · have fa : ¬FinC a := fun fa => h ⟨fa, fb⟩
    have := (inf_p ha fa).1
    rw [if_neg (fb.not hb t), if_pos (inf_late fa (by omega)), if_pos fb]
  · have := (inf_p hb fb).1
    rw [if_pos (inf_late fb (by omega)), if_neg fb]
theorem frm_le {a b : C3} (ha : VC a) (hb : VC b) : frm a b ≤ 399 := by
  have := ha.n2; have := ha.p1; have := hb.n2; have := hb.p1
  unfold frm; omega
theorem cv_nonneg {a : C3} (ha : VC a) (t : Nat) : 0 ≤ cv a t := ha.nonneg t
theorem dif_le_cv {a b : C3} (ha : VC a) (hb : VC b) (t : Nat) (hi : ¬infAt a.1 t) : dif a b t ≤ cv a t := by
  have := cv_nonneg ha t
  have := cv_nonneg hb t
  unfold dif
  by_cases h : infAt b.1 t
  · rw [if_pos h]; omega
  · rw [if_neg h, if_neg hi]; omega

/-! ### the greatest so far -/
def rmx (d : Nat → Int) : Nat → Int
  | 0 => max 0 (d 0)
  | t + 1 => max (rmx d t) (d (t + 1))
theorem rmx_nonneg (d : Nat → Int) : ∀ t, 0 ≤ rmx d t
  | 0 => by simp only [rmx]; omega
  | t + 1 => by have := rmx_nonneg d t; simp only [rmx]; omega
theorem rmx_mono (d : Nat → Int) : Mono (rmx d) := fun t => by simp only [rmx]; omega
theorem rmx_ge (d : Nat → Int) : ∀ {s t : Nat}, s ≤ t → d s ≤ rmx d t := by
  intro s t hst
  have h1 : d s ≤ rmx d s := by cases s <;> simp only [rmx] <;> omega
  have := (rmx_mono d).le hst
  omega
theorem rmx_le {d : Nat → Int} {m : Int} (h0 : 0 ≤ m) : ∀ {t : Nat}, (∀ s ≤ t, d s ≤ m) → rmx d t ≤ m
  | 0, h => by have := h 0 (by omega); simp only [rmx]; omega
  | t + 1, h => by have h1 := rmx_le h0 (t := t) (fun s hs => h s (by omega)); have := h (t + 1) (by omega); simp only [rmx]; omega
theorem rmx_at (d : Nat → Int) : ∀ t, rmx d t = 0 ∨ ∃ s ≤ t, rmx d t = d s
  | 0 => by
    rcases Int.le_total 0 (d 0) with h | h
    · right; exact ⟨0, by omega, by simp only [rmx]; omega⟩
    · left; simp only [rmx]; omega
  | t + 1 => by
    simp only [rmx]
    rcases Int.le_total (d (t + 1)) (rmx d t) with h | h
    · rw [Int.max_eq_left h]
      rcases rmx_at d t with h1 | ⟨s, h1, h2⟩
      · exact .inl h1
      · exact .inr ⟨s, by omega, h2⟩
    · rw [Int.max_eq_right h]; exact .inr ⟨t + 1, by omega, rfl⟩
/- one point decides -/
theorem rmx_one {d : Nat → Int} {s p u : Nat} {q : Int} (hd : Per d s p q) (hu : s ≤ u) (h : rmx d (u + p) = rmx d u + q) : Per (rmx d) u p q := by
  intro t ht
  induction t with
  | zero => have : u = 0 := by omega
            subst this; exact h
  | succ t ih =>
    by_cases e : u = t + 1
    · rw [← e]; exact h
    · have h1 := ih (by omega)
      have h2 := hd (t + 1) (by omega)
      rw [show t + 1 + p = t + p + 1 by omega] at h2 ⊢
      simp only [rmx]
      rw [h1, h2]; omega
theorem rmx_const {d : Nat → Int} {s : Nat} (h : ∀ t, s ≤ t → d t ≤ rmx d s) : Per (rmx d) s 1 0 := by
  have key : ∀ t, s ≤ t → rmx d t = rmx d s := by
    intro t ht
    induction t with
    | zero => have : s = 0 := by omega
              subst this; rfl
    | succ t ih =>
      by_cases e : s = t + 1
      · rw [e]
      · have h1 := ih (by omega)
        have h2 := h (t + 1) (by omega)
        simp only [rmx]; omega
  intro t ht
  rw [key t ht, key (t + 1) (by omega)]; omega
/- what does not grow reaches its greatest within a period -/
theorem rmx_still {d : Nat → Int} {s p : Nat} {q : Int} (hp : 1 ≤ p) (hd : Per d s p q) (hq : q ≤ 0) : Per (rmx d) (s + p - 1) 1 0 := by
  apply rmx_const
  intro t ht
  have hm := hd.mul ((t - s) / p) (s + (t - s) % p) (by omega)
  have h1 := Nat.div_add_mod (t - s) p
  have h2 := Nat.mod_lt (t - s) hp
  rw [show s + (t - s) % p + (t - s) / p * p = t by rw [Nat.mul_comm]; omega] at hm
  have h3 : (((t - s) / p : Nat) : Int) * q ≤ 0 := Int.mul_nonpos_of_nonneg_of_nonpos (Int.natCast_nonneg _) hq
  have h4 := rmx_ge d (s := s + (t - s) % p) (t := s + p - 1) (by omega)
  omega
/- what grows overtakes -/
theorem rmx_grow {d : Nat → Int} {s p : Nat} {q : Int} (hp : 1 ≤ p) (hd : Per d s p q) (hq : 0 < q) : ∃ u, Per (rmx d) u p q := by
  -- the window that ends at u has the greatest value so far
  have ex : ∃ k : Nat, rmx d (s + p) ≤ d (s + k * p) := by
    refine ⟨(rmx d (s + p) - d s).toNat, ?_⟩
    have h1 := hd.mul (rmx d (s + p) - d s).toNat s (by omega)
    rw [h1]
    have h2 : ((rmx d (s + p) - d s).toNat : Int) * 1 ≤ ((rmx d (s + p) - d s).toNat : Int) * q := Int.mul_le_mul_of_nonneg_left (by omega) (by omega)
    omega
  obtain ⟨k, hk⟩ := ex
  refine ⟨s + p + k * p, rmx_one hd (by omega) ?_⟩
  have hle : rmx d (s + p + k * p + p) ≤ rmx d (s + p + k * p) + q := by
    have h0 := rmx_nonneg d (s + p + k * p)
    apply rmx_le (by omega)
    intro t ht
    by_cases h1 : s + p ≤ t
    · have := hd (t - p) (by omega)
      rw [show t - p + p = t by omega] at this
      have := rmx_ge d (s := t - p) (t := s + p + k * p) (by omega)
      omega
    · have h2 := rmx_ge d (s := t) (t := s + p) (by omega)
      have h3 := rmx_ge d (s := s + k * p) (t := s + p + k * p) (by omega)
      omega
  have hge : rmx d (s + p + k * p) + q ≤ rmx d (s + p + k * p + p) := by
    rcases rmx_at d (s + p + k * p) with h1 | ⟨t, h1, h2⟩
    · have h3 := rmx_ge d (s := s + k * p) (t := s + p + k * p) (by omega)
      have h4 := rmx_nonneg d (s + p)
      have h5 := hd (s + k * p) (by omega)
      have h6 := rmx_ge d (s := s + k * p + p) (t := s + p + k * p + p) (by omega)
      omega
    · by_cases h3 : s ≤ t
      · have h4 := hd t h3
        have h5 := rmx_ge d (s := t + p) (t := s + p + k * p + p) (by omega)
        omega
      · have h3 := rmx_ge d (s := t) (t := s + p) (by omega)
        have h5 := hd (s + k * p) (by omega)
        have h6 := rmx_ge d (s := s + k * p + p) (t := s + p + k * p + p) (by omega)
        omega
  omega

/-! ### the least from here on -/
/- of n + 1 ticks from t on -/
def wmn (d : Nat → Int) : Nat → Nat → Int
  | 0, t => d t
  | n + 1, t => min (d t) (wmn d n (t + 1))
theorem wmn_le {d : Nat → Int} : ∀ {n t s : Nat}, t ≤ s → s ≤ t + n → wmn d n t ≤ d s
  | 0, t, s, h1, h2 => by have : s = t := by omega
                          subst this; simp only [wmn]; omega
  | n + 1, t, s, h1, h2 => by
    simp only [wmn]
    by_cases e : s = t
    · subst e; omega
    · have := wmn_le (d := d) (n := n) (t := t + 1) (s := s) (by omega) (by omega); omega
theorem wmn_at (d : Nat → Int) : ∀ (n t : Nat), ∃ s, t ≤ s ∧ s ≤ t + n ∧ wmn d n t = d s
  | 0, t => ⟨t, by omega, by omega, rfl⟩
  | n + 1, t => by
    obtain ⟨s, h1, h2, h3⟩ := wmn_at d n (t + 1)
    simp only [wmn]
    rcases Int.le_total (d t) (wmn d n (t + 1)) with h | h
    · exact ⟨t, by omega, by omega, by omega⟩
    · exact ⟨s, by omega, by omega, by omega⟩
/- two windows with the same least -/
theorem wmn_eq {d : Nat → Int} {n m t u : Nat} (h1 : ∀ s, t ≤ s → s ≤ t + n → ∃ r, u ≤ r ∧ r ≤ u + m ∧ d r ≤ d s) (h2 : ∀ r, u ≤ r → r ≤ u + m → ∃ s, t ≤ s ∧ s ≤ t + n ∧ d s ≤ d r) : wmn d n t = wmn d m u := by
  obtain ⟨s, a1, a2, a3⟩ := wmn_at d n t
  obtain ⟨r, b1, b2, b3⟩ := wmn_at d m u
  obtain ⟨r', c1, c2, c3⟩ := h1 s a1 a2
  obtain ⟨s', e1, e2, e3⟩ := h2 r b1 b2
  have := wmn_le (d := d) (n := m) c1 c2
  have := wmn_le (d := d) (n := n) e1 e2
  omega
/- every later tick has a tick of the window below it -/
theorem per_down {d : Nat → Int} {s p : Nat} {q : Int} (hp : 1 ≤ p) (hd : Per d s p q) (hq : 0 ≤ q) {t u : Nat} (ht : t ≤ u) : ∃ r, t ≤ r ∧ r < max t s + p ∧ d r ≤ d u := by
  by_cases hu : u < max t s + p
  · exact ⟨u, ht, hu, Int.le_refl _⟩
  · have hm := hd.mul ((u - max t s) / p) (max t s + (u - max t s) % p) (by omega)
    have h1 := Nat.div_add_mod (u - max t s) p
    have h2 := Nat.mod_lt (u - max t s) hp
    rw [show max t s + (u - max t s) % p + (u - max t s) / p * p = u by rw [Nat.mul_comm]; omega] at hm
    have h3 : 0 ≤ (((u - max t s) / p : Nat) : Int) * q := Int.mul_nonneg (Int.natCast_nonneg _) hq
    exact ⟨max t s + (u - max t s) % p, by omega, by omega, by omega⟩

/-! ### bounds -/
theorem cv_small {a : C3} (ha : VC a) {t : Nat} (ht : t ≤ 1048576) (hi : ¬infAt a.1 t) : cv a t ≤ 2000000000000000 := by
  have n1 := ha.n1
  by_cases hf : FinC a
  · have h1 := ha.val_le hf t
    have h2 : ((t + 1 : Nat) : Int) * a.2.2 ≤ 1048577 * 1073741824 := Int.mul_le_mul (by omega) ha.q1 ha.q0 (by omega)
    unfold cv; omega
  · have hlt : t < a.1.length - 1 := by
      rcases Nat.lt_or_ge t (a.1.length - 1) with h | h
      · exact h
      · exact absurd (inf_late hf h) hi
    unfold cv
    rw [val_lt (by omega)]
    have h1 := ha.v t (by omega)
    unfold infAt at hi
    rw [Nat.min_eq_left (by omega)] at hi
    simp only [INF] at *
    omega
theorem dif_le {a b : C3} (ha : VC a) (hb : VC b) {t : Nat} (ht : t ≤ 1048576) : dif a b t ≤ INF := by
  by_cases h : infAt a.1 t
  · unfold dif
    by_cases h' : infAt b.1 t
    · rw [if_pos h']; simp [INF]
    · rw [if_neg h', if_pos h]; exact Int.le_refl _
  · have h1 := dif_le_cv ha hb t h
    have h2 := cv_small ha ht h
    simp only [INF] at *; omega
theorem dif_ge {a b : C3} (ha : VC a) (hb : VC b) {t : Nat} (ht : t ≤ 1048576) : -2000000000000000 ≤ dif a b t := by
  unfold dif
  by_cases h' : infAt b.1 t
  · rw [if_pos h']; omega
  · rw [if_neg h']
    have h2 := cv_small hb ht h'
    have h3 := cv_nonneg ha t
    by_cases h : infAt a.1 t
    · rw [if_pos h]; simp only [INF]; omega
    · rw [if_neg h]; omega
theorem dif_le_all {a b : C3} (ha : VC a) (hb : VC b) (hf : ¬FinC a) (t : Nat) : dif a b t ≤ INF := by
  by_cases h : infAt a.1 t
  · unfold dif
    by_cases h' : infAt b.1 t
    · rw [if_pos h']; simp [INF]
    · rw [if_neg h', if_pos h]; exact Int.le_refl _
  · have hlt : t < a.1.length - 1 := by
      rcases Nat.lt_or_ge t (a.1.length - 1) with h1 | h1
      · exact h1
      · exact absurd (inf_late hf h1) h
    exact dif_le ha hb (by have := ha.n2; omega)
/- where the difference is infinite -/
theorem dif_inf {a b : C3} (ha : VC a) (hb : VC b) {t : Nat} (ht : t ≤ 1048576) : dif a b t = INF ↔ infAt a.1 t ∧ ¬infAt b.1 t := by
  constructor
  · intro h
    by_cases h1 : infAt a.1 t
    · refine ⟨h1, fun h2 => ?_⟩
      unfold dif at h
      rw [if_pos h2] at h
      simp [INF] at h
    · have h2 := dif_le_cv ha hb t h1
      have h3 := cv_small ha ht h1
      rw [h] at h2
      simp only [INF] at *
      omega
  · rintro ⟨h1, h2⟩
    unfold dif; rw [if_neg h2, if_pos h1]

/-! ### the program's two maxima -/
def mst (d : Nat → Int) (f : Nat) : Nat → Int
  | 0 => 0
  | t + 1 => if f ≤ t then mst d f t else max (mst d f t) (d t)
def tls (d : Nat → Int) (f : Nat) : Nat → Int
  | 0 => -INF
  | t + 1 => if f ≤ t then max (tls d f t) (d t) else tls d f t
theorem mst_nonneg (d f) : ∀ t, 0 ≤ mst d f t
  | 0 => Int.le_refl _
  | t + 1 => by have := mst_nonneg d f t; simp only [mst]; split <;> omega
theorem rmx_two {d : Nat → Int} {f : Nat} {N : Nat} (hd : ∀ t < N, -INF ≤ d t) : ∀ t, t < N → rmx d t = max (mst d f (t + 1)) (tls d f (t + 1))
  | 0, h => by
    have := hd 0 h
    simp only [rmx, mst, tls, INF] at *
    split <;> omega
  | t + 1, h => by
    have h1 := rmx_two (f := f) hd t (by omega)
    simp only [rmx]
    rw [h1]
    conv => rhs; rw [mst, tls]
    split <;> omega
theorem tls_ge {d : Nat → Int} {f : Nat} : ∀ {t u : Nat}, f ≤ u → u < t → d u ≤ tls d f t
  | 0, u, _, h => by omega
  | t + 1, u, h1, h2 => by
    simp only [tls]
    by_cases e : u = t
    · subst e; rw [if_pos h1]; omega
    · have := tls_ge (d := d) (f := f) (t := t) h1 (by omega)
      split <;> omega
theorem tls_at {d : Nat → Int} {f : Nat} : ∀ {t : Nat}, (∀ u < t, -INF ≤ d u) → f < t → ∃ u, f ≤ u ∧ u < t ∧ tls d f t = d u
  | 0, _, h => by omega
  | t + 1, hd, h => by
    simp only [tls]
    rw [if_pos (by omega)]
    by_cases e : f = t
    · have h1 : tls d f t = -INF := by
        have key : ∀ k, k ≤ f → tls d f k = -INF := by
          intro k
          induction k with
          | zero => intro _; rfl
          | succ k ih => intro hk; simp only [tls]; rw [if_neg (by omega)]; exact ih (by omega)
        exact key t (by omega)
      have := hd t (by omega)
      exact ⟨t, by omega, by omega, by omega⟩
    · obtain ⟨u, h1, h2, h3⟩ := tls_at (d := d) (f := f) (t := t) (fun u hu => hd u (by omega)) (by omega)
      rcases Int.le_total (tls d f t) (d t) with h4 | h4
      · exact ⟨t, by omega, by omega, by omega⟩
      · exact ⟨u, h1, by omega, by omega⟩
theorem mst_le_rmx {d : Nat → Int} {f : Nat} : ∀ {t u : Nat}, f ≤ u + 1 → mst d f t ≤ rmx d u
  | 0, u, _ => rmx_nonneg d u
  | t + 1, u, h => by
    have h1 := mst_le_rmx (d := d) (t := t) h
    simp only [mst]
    split
    · exact h1
    · have := rmx_ge d (s := t) (t := u) (by omega); omega
/- if the tail has not overtaken by then, there is no normal form within the limits -/
theorem rest_err {d : Nat → Int} {f l s : Nat} {dr : Int} (hl : 1 ≤ l) (hf : f ≤ 399) (hd : Per d f l dr) (hdr : 0 < dr) (hs : s = max 400 (f + l)) (hlow : ∀ t < s + 1, -INF ≤ d t)
    (hlt : tls d f (s + 1) < mst d f (s + 1)) : ∀ (vs : List Int) (p : Nat) (q : Int), NF (rmx d) vs p q → ¬VF vs p q := by
  intro vs p q hnf hvf
  obtain ⟨s0, p1, hper, hmin, hms, rfl⟩ := hnf
  have hn := hvf.n2
  rw [vals_len] at hn
  have hM : rmx d s = mst d f (s + 1) := by
    rw [rmx_two (f := f) (N := s + 1) hlow s (by omega)]; omega
  obtain ⟨u, hu⟩ := rmx_grow hl hd hdr
  have hu' := Per.back hl hu hper
  -- the long period from s0 on
  have hlp : Per (rmx d) s0 l dr := by
    have hdvd := Per.dvd p1 (s := max s0 u) (hper.mono (by omega)) hmin (hu.mono (by omega))
    obtain ⟨k, hk⟩ := hdvd
    have h1 := hper.mul k
    rw [show k * p = l by rw [hk, Nat.mul_comm]] at h1
    have h2 := h1.uniq hu
    rw [← h2]; exact h1
  have ht := hlp (max s0 f) (by omega)
  have h1 := mst_le_rmx (d := d) (f := f) (t := s + 1) (u := max s0 f) (by omega)
  have h2 := (rmx_mono d).le (show max s0 f ≤ s by omega)
  have h3 : rmx d (max s0 f) = rmx d s := by omega
  by_cases h4 : max s0 f + l ≤ s
  · have := (rmx_mono d).le h4; omega
  · rcases rmx_at d (max s0 f + l) with h5 | ⟨v, h5, h6⟩
    · have := rmx_nonneg d s; omega
    · have h7 : s < v := by
        rcases Nat.lt_or_ge s v with h | h
        · exact h
        · have := rmx_ge d h; omega
      have h8 := hd (v - l) (by omega)
      rw [show v - l + l = v by omega] at h8
      have h9 := tls_ge (d := d) (f := f) (t := s + 1) (u := v - l) (by omega) (by omega)
      omega
theorem rest_per {d : Nat → Int} {f l s : Nat} {dr : Int} (hl : 1 ≤ l) (hd : Per d f l dr) (hdr : 0 < dr) (hs : f + l ≤ s) (hlow : ∀ t < s + 1, -INF ≤ d t)
    (hge : ¬tls d f (s + 1) < mst d f (s + 1)) : Per (rmx d) s l dr := by
  have hM : rmx d s = tls d f (s + 1) := by
    rw [rmx_two (f := f) (N := s + 1) hlow s (by omega)]; omega
  obtain ⟨u, h1, h2, h3⟩ := tls_at (d := d) (f := f) (t := s + 1) hlow (by omega)
  refine rmx_one hd (by omega) ?_
  have hle : rmx d (s + l) ≤ rmx d s + dr := by
    apply rmx_le (by have := rmx_nonneg d s; omega)
    intro t ht
    by_cases h4 : f + l ≤ t
    · have h5 := hd (t - l) (by omega)
      rw [show t - l + l = t by omega] at h5
      have := rmx_ge d (s := t - l) (t := s) (by omega)
      omega
    · have := rmx_ge d (s := t) (t := s) (by omega); omega
  have hge : rmx d s + dr ≤ rmx d (s + l) := by
    have h5 := hd u h1
    have := rmx_ge d (s := u + l) (t := s + l) (by omega)
    omega
  omega
theorem rest_still {a b : C3} (ha : VC a) (hb : VC b) (h : ¬(FinC a ∧ FinC b ∧ 0 < drf a b)) : Per (rmx (dif a b)) (frm a b + com a b) 1 0 := by
  have hl := com_pos ha hb
  by_cases hf : FinC a ∧ FinC b
  · exact (rmx_still hl (dif_per ha hb hf.1 hf.2) (by
      have : ¬0 < drf a b := fun h' => h ⟨hf.1, hf.2, h'⟩
      omega)).mono (by omega)
  · refine (rmx_const (s := frm a b) (fun t ht => ?_)).mono (by omega)
    have e1 := dif_late ha hb hf ht
    have e2 := dif_late ha hb hf (Nat.le_refl (frm a b))
    have := rmx_ge (dif a b) (Nat.le_refl (frm a b))
    omega
theorem rmx_dif_le {a b : C3} (ha : VC a) (hb : VC b) {t : Nat} (ht : t ≤ 1048576) : 0 ≤ rmx (dif a b) t ∧ rmx (dif a b) t ≤ INF :=
  ⟨rmx_nonneg _ _, rmx_le (by simp [INF]) (fun s hs => dif_le ha hb (by omega))⟩
theorem rmx_dif_inf {a b : C3} (ha : VC a) (hb : VC b) {m : Nat} (hm : m ≤ 1048576) (h : rmx (dif a b) m = INF) : ∀ t, m ≤ t → rmx (dif a b) t = INF := by
  intro t ht
  rcases rmx_at (dif a b) m with h1 | ⟨s, h1, h2⟩
  · rw [h] at h1; simp [INF] at h1
  · have h3 := (dif_inf ha hb (by omega)).1 (h2.symm.trans h)
    have hf : ¬FinC a := fun hf => hf.not ha s h3.1
    have h4 := (rmx_mono (dif a b)).le ht
    have h5 : rmx (dif a b) t ≤ INF := rmx_le (by simp [INF]) (fun s _ => dif_le_all ha hb hf s)
    omega

/-! ### the reference's check -/
theorem nf_per {F : Nat → Int} {vs : List Int} {p : Nat} {q : Int} {u l : Nat} {inc : Int} (hl : 1 ≤ l) (hnf : NF F vs p q) (hvf : VF vs p q) (hev : Per F u l inc) : ∃ s0, s0 + p ≤ 400 ∧ Per F s0 p q ∧ Per F s0 l inc ∧ 1 ≤ p ∧ ∃ k : Nat, l = k * p ∧ inc = k * q := by
  obtain ⟨s0, p1, hper, hmin, hms, rfl⟩ := hnf
  have hn := hvf.n2
  rw [vals_len] at hn
  have hdvd := Per.dvd p1 (s := max s0 u) (hper.mono (by omega)) hmin (hev.mono (by omega))
  obtain ⟨k, hk⟩ := hdvd
  have h1 := hper.mul k
  rw [show k * p = l by rw [hk, Nat.mul_comm]] at h1
  have h2 := h1.uniq hev
  exact ⟨s0, hn, hper, by rw [← h2]; exact h1, p1, k, by rw [hk, Nat.mul_comm], h2.symm⟩
theorem ref_err {F : Nat → Int} {u l : Nat} {inc : Int} (hl : 1 ≤ l) (hev : Per F u l inc) (hne : F (400 + l) ≠ F 400 + inc) : ∀ (vs : List Int) (p : Nat) (q : Int), NF F vs p q → ¬VF vs p q := by
  intro vs p q hnf hvf
  obtain ⟨s0, h1, _, h3, _⟩ := nf_per hl hnf hvf hev
  exact hne (h3 400 (by omega))
/- some late period -/
theorem rest_ev {a b : C3} (ha : VC a) (hb : VC b) : ∃ u, Per (rmx (dif a b)) u (com a b) (if FinC a ∧ FinC b then max 0 (drf a b) else 0) := by
  have hl := com_pos ha hb
  by_cases h : FinC a ∧ FinC b ∧ 0 < drf a b
  · obtain ⟨u, hu⟩ := rmx_grow hl (dif_per ha hb h.1 h.2.1) h.2.2
    refine ⟨u, ?_⟩
    rw [if_pos ⟨h.1, h.2.1⟩, Int.max_eq_right (by omega)]; exact hu
  · have h1 := (rest_still ha hb h).mul (com a b)
    rw [Nat.mul_one, Int.mul_zero] at h1
    refine ⟨frm a b + com a b, ?_⟩
    by_cases hf : FinC a ∧ FinC b
    · rw [if_pos hf, Int.max_eq_left (by
        have : ¬0 < drf a b := fun h' => h ⟨hf.1, hf.2, h'⟩
        omega)]; exact h1
    · rw [if_neg hf]; exact h1
theorem rest_ref {a b : C3} (ha : VC a) (hb : VC b) (he : rmx (dif a b) (400 + com a b) = rmx (dif a b) 400 + (if FinC a ∧ FinC b then max 0 (drf a b) else 0)) :
    Per (rmx (dif a b)) 400 (com a b) (if FinC a ∧ FinC b then max 0 (drf a b) else 0) := by
  have hl := com_pos ha hb
  have hf := frm_le ha hb
  by_cases h : FinC a ∧ FinC b ∧ 0 < drf a b
  · rw [if_pos ⟨h.1, h.2.1⟩, Int.max_eq_right (by omega)] at *
    exact rmx_one (dif_per ha hb h.1 h.2.1) (by omega) he
  · have h0 : (if FinC a ∧ FinC b then max 0 (drf a b) else 0) = 0 := by
      by_cases hf : FinC a ∧ FinC b
      · rw [if_pos hf, Int.max_eq_left (by
          have : ¬0 < drf a b := fun h' => h ⟨hf.1, hf.2, h'⟩
          omega)]
      · rw [if_neg hf]
    rw [h0] at he ⊢
    have h1 := (rest_still ha hb h).mul (com a b)
    rw [Nat.mul_one, Int.mul_zero] at h1
    intro t ht
    by_cases h2 : frm a b + com a b ≤ t
    · exact h1 t h2
    · have m1 := (rmx_mono (dif a b)).le (show 400 ≤ t by omega)
      have m2 := (rmx_mono (dif a b)).le (show t ≤ 400 + com a b by omega)
      have m3 := (rmx_mono (dif a b)).le (show t ≤ t + com a b by omega)
      have m4 := (rest_still ha hb h).mul (t + com a b - (frm a b + com a b)) (frm a b + com a b) (by omega)
      have m5 := (rmx_mono (dif a b)).le (show frm a b + com a b ≤ 400 + com a b by omega)
      rw [Nat.mul_one, Int.mul_zero, show frm a b + com a b + (t + com a b - (frm a b + com a b)) = t + com a b by omega] at m4
      omega
theorem rest_inf_late {a b : C3} (ha : VC a) (hb : VC b) (h : rmx (dif a b) (400 + com a b) = INF) (hc : com a b ≤ 120) : rmx (dif a b) 399 = INF := by
  rcases rmx_at (dif a b) (400 + com a b) with h1 | ⟨s, h1, h2⟩
  · rw [h] at h1; simp [INF] at h1
  · have h3 := (dif_inf ha hb (by omega)).1 (h2.symm.trans h)
    have hfa : ¬FinC a := fun hf => hf.not ha s h3.1
    have hle := (rmx_dif_le ha hb (t := 399) (by omega)).2
    have key : ∃ u, u ≤ 399 ∧ dif a b u = INF := by
      by_cases h4 : s ≤ 399
      · exact ⟨s, h4, by rw [← h2]; exact h⟩
      · refine ⟨399, by omega, (dif_inf ha hb (by omega)).2 ⟨inf_late hfa (by have := ha.n2; omega), fun h5 => h3.2 (hb.infAt_mono (by omega) h5)⟩⟩
    obtain ⟨u, h4, h5⟩ := key
    have := rmx_ge (dif a b) h4
    omega

/-! ### the least difference -/
def amn (a b : C3) (t : Nat) : Int := max 0 (wmn (dif a b) (frm a b + com a b) t)
theorem down {a b : C3} (ha : VC a) (hb : VC b) (fb : FinC b) (hd : FinC a → 0 ≤ drf a b) {t u : Nat} (ht : t ≤ u) : ∃ r, t ≤ r ∧ r < max t (frm a b) + com a b ∧ dif a b r ≤ dif a b u := by
  by_cases fa : FinC a
  · exact per_down (com_pos ha hb) (dif_per ha hb fa fb) (hd fa) ht
  · have hl := com_pos ha hb
    by_cases hu : u < max t (frm a b) + com a b
    · exact ⟨u, ht, hu, Int.le_refl _⟩
    · refine ⟨t, Nat.le_refl _, by omega, ?_⟩
      rw [dif_late ha hb (fun h => fa h.1) (show frm a b ≤ u by omega), if_pos fb]
      exact dif_le_all ha hb fa t
theorem wmn_any {a b : C3} (ha : VC a) (hb : VC b) (fb : FinC b) (hd : FinC a → 0 ≤ drf a b) {t n : Nat} (hn : max t (frm a b) + com a b ≤ t + n + 1) : wmn (dif a b) n t = wmn (dif a b) (frm a b + com a b) t := by
  apply wmn_eq
  · intro s h1 h2
    obtain ⟨r, h3, h4, h5⟩ := down ha hb fb hd h1
    exact ⟨r, h3, by omega, h5⟩
  · intro s h1 h2
    obtain ⟨r, h3, h4, h5⟩ := down ha hb fb hd h1
    exact ⟨r, h3, by omega, h5⟩
theorem wmn_ge {d : Nat → Int} {n t : Nat} {m : Int} (h : ∀ u, t ≤ u → u ≤ t + n → m ≤ d u) : m ≤ wmn d n t := by
  obtain ⟨s, h1, h2, h3⟩ := wmn_at d n t
  rw [h3]; exact h s h1 h2
theorem amn_mono {a b : C3} (ha : VC a) (hb : VC b) (fb : FinC b) (hd : FinC a → 0 ≤ drf a b) : Mono (amn a b) := by
  intro t
  unfold amn
  have : wmn (dif a b) (frm a b + com a b) t ≤ wmn (dif a b) (frm a b + com a b) (t + 1) := by
    apply wmn_ge
    intro u h1 h2
    obtain ⟨r, h3, h4, h5⟩ := down ha hb fb hd (show t ≤ u by omega)
    have := wmn_le (d := dif a b) (n := frm a b + com a b) h3 (by omega)
    omega
  omega
theorem wmn_shift {d : Nat → Int} {l : Nat} {q : Int} : ∀ {n t : Nat}, (∀ u, t ≤ u → u ≤ t + n → d (u + l) = d u + q) → wmn d n (t + l) = wmn d n t + q
  | 0, t, h => h t (Nat.le_refl _) (by omega)
  | n + 1, t, h => by
    simp only [wmn]
    have h1 := h t (Nat.le_refl _) (by omega)
    have h2 := wmn_shift (d := d) (l := l) (q := q) (n := n) (t := t + 1) (fun u h3 h4 => h u (by omega) (by omega))
    rw [show t + 1 + l = t + l + 1 by omega] at h2
    rw [h1, h2]; omega
theorem amn_per {a b : C3} (ha : VC a) (hb : VC b) (fa : FinC a) (fb : FinC b) {s : Nat} (hs : frm a b ≤ s) (h0 : ∀ u, s ≤ u → 0 ≤ dif a b u) : Per (amn a b) s (com a b) (drf a b) := by
  intro t ht
  have h1 := wmn_shift (d := dif a b) (l := com a b) (q := drf a b) (n := frm a b + com a b) (t := t) (fun u h3 _ => dif_per ha hb fa fb u (by omega))
  have h2 : 0 ≤ wmn (dif a b) (frm a b + com a b) t := wmn_ge (fun u h3 _ => h0 u (by omega))
  have h3 : 0 ≤ wmn (dif a b) (frm a b + com a b) (t + com a b) := wmn_ge (fun u h3 _ => h0 u (by omega))
  unfold amn; omega
theorem amn_still {a b : C3} (ha : VC a) (hb : VC b) (fb : FinC b) (h : FinC a → drf a b = 0) : Per (amn a b) (frm a b) 1 0 := by
  intro t ht
  have hl := com_pos ha hb
  have : wmn (dif a b) (frm a b + com a b) t = wmn (dif a b) (frm a b + com a b) (t + 1) := by
    by_cases fa : FinC a
    · have hp := dif_per ha hb fa fb
      rw [h fa] at hp
      apply wmn_eq
      · intro s h1 h2
        by_cases e : s = t
        · subst e
          exact ⟨s + com a b, by omega, by omega, by rw [hp s ht]; omega⟩
        · exact ⟨s, by omega, by omega, Int.le_refl _⟩
      · intro s h1 h2
        by_cases e : s ≤ t + (frm a b + com a b)
        · exact ⟨s, by omega, e, Int.le_refl _⟩
        · have := hp (s - com a b) (by omega)
          rw [show s - com a b + com a b = s by omega] at this
          exact ⟨s - com a b, by omega, by omega, by omega⟩
    · apply wmn_eq
      · intro s h1 h2
        refine ⟨t + 1, by omega, by omega, ?_⟩
        rw [dif_late ha hb (fun h => fa h.1) (show frm a b ≤ t + 1 by omega), dif_late ha hb (fun h => fa h.1) (show frm a b ≤ s by omega)]; exact Int.le_refl _
      · intro s h1 h2
        refine ⟨t, by omega, by omega, ?_⟩
        rw [dif_late ha hb (fun h => fa h.1) (show frm a b ≤ t by omega), dif_late ha hb (fun h => fa h.1) (show frm a b ≤ s by omega)]; exact Int.le_refl _
  unfold amn; rw [this]; omega
/- what grows is not negative at last -/
theorem dif_up {a b : C3} (ha : VC a) (hb : VC b) (fa : FinC a) (fb : FinC b) (hd : 0 < drf a b) : ∃ s, frm a b ≤ s ∧ ∀ u, s ≤ u → 0 ≤ dif a b u := by
  have hl := com_pos ha hb
  have hp := dif_per ha hb fa fb
  refine ⟨frm a b + (-(wmn (dif a b) (com a b) (frm a b))).toNat * com a b, by omega, fun u hu => ?_⟩
  have h1 := Nat.div_add_mod (u - frm a b) (com a b)
  have h2 := Nat.mod_lt (u - frm a b) hl
  have h3 := hp.mul ((u - frm a b) / com a b) (frm a b + (u - frm a b) % com a b) (by omega)
  rw [show frm a b + (u - frm a b) % com a b + (u - frm a b) / com a b * com a b = u by rw [Nat.mul_comm]; omega] at h3
  have h4 := wmn_le (d := dif a b) (n := com a b) (t := frm a b) (s := frm a b + (u - frm a b) % com a b) (by omega) (by omega)
  have h5 : (-(wmn (dif a b) (com a b) (frm a b))).toNat ≤ (u - frm a b) / com a b := by
    rw [Nat.le_div_iff_mul_le hl]; omega
  have h6 : ((u - frm a b) / com a b : Nat) * (1 : Int) ≤ ((u - frm a b) / com a b : Nat) * drf a b := Int.mul_le_mul_of_nonneg_left (by omega) (Int.natCast_nonneg _)
  omega
theorem above_err {a b : C3} (ha : VC a) (hb : VC b) (fa : FinC a) (fb : FinC b) (hd : 0 < drf a b) (h : ∃ u, 400 ≤ u ∧ dif a b u < 0) : ∀ (vs : List Int) (p : Nat) (q : Int), NF (amn a b) vs p q → ¬VF vs p q := by
  intro vs p q hnf hvf
  have hl := com_pos ha hb
  obtain ⟨s, hs, h0⟩ := dif_up ha hb fa fb hd
  obtain ⟨s0, h1, h2, h3, h4, k, h5, h6⟩ := nf_per hl hnf hvf (amn_per ha hb fa fb hs h0)
  obtain ⟨u, hu1, hu2⟩ := h
  have zero : ∀ t, t ≤ 400 → amn a b t = 0 := by
    intro t ht
    obtain ⟨r, h7, h8, h9⟩ := down ha hb fb (fun _ => by omega) (show t ≤ u by omega)
    have := wmn_le (d := dif a b) (n := frm a b + com a b) h7 (by omega)
    unfold amn; omega
  have h7 := h2 (400 - p) (by omega)
  rw [show 400 - p + p = 400 by omega, zero 400 (by omega), zero (400 - p) (by omega)] at h7
  have : q = 0 := by omega
  subst this
  omega
theorem amn_bd {a b : C3} (ha : VC a) (hb : VC b) {t : Nat} (ht : t ≤ 1048576) : 0 ≤ amn a b t ∧ amn a b t ≤ INF := by
  have h1 := dif_le ha hb ht
  have h2 := wmn_le (d := dif a b) (n := frm a b + com a b) (Nat.le_refl t) (by omega)
  unfold amn
  simp only [INF] at *
  omega
theorem amn_inf {a b : C3} (ha : VC a) (hb : VC b) (fb : FinC b) {m : Nat} (hm : m ≤ 1048576) (h : amn a b m = INF) : ∀ t, m ≤ t → amn a b t = INF := by
  intro t ht
  have h1 := wmn_le (d := dif a b) (n := frm a b + com a b) (Nat.le_refl m) (by omega)
  have h2 := dif_le ha hb hm
  have h3 : dif a b m = INF := by unfold amn at h; simp only [INF] at *; omega
  have h4 := ((dif_inf ha hb hm).1 h3).1
  have hall : ∀ u, m ≤ u → dif a b u = INF := by
    intro u hu
    unfold dif
    rw [if_neg (fb.not hb u), if_pos (ha.infAt_mono hu h4)]
  have h5 : wmn (dif a b) (frm a b + com a b) t = INF := by
    obtain ⟨s, g1, g2, g3⟩ := wmn_at (dif a b) (frm a b + com a b) t
    rw [g3]; exact hall s (by omega)
  unfold amn; rw [h5]; simp only [INF]; omega
end Go.Cv
end
section
namespace Go.Cv
/-! plain laws of comparing and adding curves -/
def abv (f g : C3) (t : Nat) : Int := if infAt g.1 t then 0 else if infAt f.1 t then 1 else cv f t - cv g t
def grw (f g : C3) : Int := f.2.2 * ((com f g / f.2.1 : Nat) : Int) - g.2.2 * ((com f g / g.2.1 : Nat) : Int)
def win (f g : C3) : Nat := max f.1.length g.1.length
def AtMostP (f g : C3) : Prop := (∀ t < win f g + com f g, abv f g t ≤ 0) ∧ ¬(FinC f ∧ FinC g ∧ 0 < grw f g)
theorem grw_drf (f g : C3) : grw f g = drf f g := rfl
theorem atMost_of {f g : C3} (hf : VC f) (hg : VC g) (hc : com f g ≤ 1000000) (h : ∀ t, cv f t ≤ cv g t) : AtMostP f g := by
  refine ⟨fun t ht => ?_, fun ⟨ff, fg, hd⟩ => ?_⟩
  · have h1 := hf.n2
    have h2 := hg.n2
    have ht2 : t ≤ 1048576 := by unfold win at ht; omega
    unfold abv
    by_cases hi : infAt g.1 t
    · rw [if_pos hi]; exact Int.le_refl _
    · rw [if_neg hi]
      have h3 := cv_small hg ht2 hi
      have h4 := h t
      by_cases hj : infAt f.1 t
      · exfalso
        have h5 : cv f t = INF := (hf.inf_iff ht2).2 hj
        rw [h5] at h4
        simp only [INF] at h4; omega
      · rw [if_neg hj]; omega
  · obtain ⟨s, hs, h0⟩ := dif_up hf hg ff fg hd
    have hp := dif_per hf hg ff fg s hs
    have h1 := h0 s (Nat.le_refl _)
    have h2 := h (s + com f g)
    rw [dif_fin hf hg ff fg, dif_fin hf hg ff fg] at hp
    rw [dif_fin hf hg ff fg] at h1
    rw [grw_drf] at hd
    omega
theorem atMost_le {f g : C3} (hf : VC f) (hg : VC g) (h : AtMostP f g) {t : Nat} (hi : ¬infAt g.1 t) : ¬infAt f.1 t ∧ cv f t ≤ cv g t := by
  obtain ⟨h1, h2⟩ := h
  have hl := com_pos hf hg
  have n1 := hf.n1
  have n2 := hg.n1
  have key : ∀ t, ¬infAt g.1 t → abv f g t ≤ 0 := by
    intro t
    induction t using Nat.strongRecOn with
    | _ t ih =>
      intro hi
      by_cases hlt : t < win f g + com f g
      · exact h1 t hlt
      · have hw : win f g ≤ t - com f g := by omega
        have hi2 : ¬infAt g.1 (t - com f g) := fun h => hi (hg.infAt_mono (by omega) h)
        have h3 := ih (t - com f g) (by omega) hi2
        unfold abv at h3 ⊢
        rw [if_neg hi2] at h3
        rw [if_neg hi]
        have fg : FinC g := by
          apply Classical.byContradiction
          intro hn
          exact hi (inf_late hn (by unfold win at hw; omega))
        by_cases hj : infAt f.1 (t - com f g)
        · rw [if_pos hj] at h3; omega
        · rw [if_neg hj] at h3
          have ff : FinC f := by
            apply Classical.byContradiction
            intro hn
            exact hj (inf_late hn (by unfold win at hw; omega))
          have hd : ¬0 < grw f g := fun h => h2 ⟨ff, fg, h⟩
          rw [grw_drf] at hd
          rw [if_neg (ff.not hf t)]
          have hfr : frm f g ≤ t - com f g := by unfold frm; unfold win at hw; omega
          have hp := dif_per hf hg ff fg (t - com f g) hfr
          rw [show t - com f g + com f g = t by omega, dif_fin hf hg ff fg, dif_fin hf hg ff fg] at hp
          omega
  have h3 := key t hi
  unfold abv at h3
  rw [if_neg hi] at h3
  by_cases hj : infAt f.1 t
  · rw [if_pos hj] at h3; omega
  · rw [if_neg hj] at h3; exact ⟨hj, by omega⟩

/-! ### sums -/
def pls (a b : C3) (t : Nat) : Int := if infAt a.1 t ∨ infAt b.1 t then INF else cv a t + cv b t
theorem pls_nonneg {a b : C3} (ha : VC a) (hb : VC b) (t : Nat) : 0 ≤ pls a b t := by
  have := cv_nonneg ha t
  have := cv_nonneg hb t
  unfold pls; split
  · simp [INF]
  · omega
theorem pls_le {a b : C3} (ha : VC a) (hb : VC b) {t : Nat} (ht : t ≤ 1048576) : pls a b t ≤ INF := by
  unfold pls; split
  · exact Int.le_refl _
  · rename_i h
    have h1 := cv_small ha ht (fun h' => h (.inl h'))
    have h2 := cv_small hb ht (fun h' => h (.inr h'))
    simp only [INF]; omega
theorem pls_inf {a b : C3} (ha : VC a) (hb : VC b) {t : Nat} (ht : t ≤ 1048576) : pls a b t = INF ↔ infAt a.1 t ∨ infAt b.1 t := by
  constructor
  · intro h
    apply Classical.byContradiction
    intro hn
    have h1 := cv_small ha ht (fun h' => hn (.inl h'))
    have h2 := cv_small hb ht (fun h' => hn (.inr h'))
    unfold pls at h
    rw [if_neg hn] at h
    simp only [INF] at h; omega
  · intro h; unfold pls; rw [if_pos h]
theorem pls_inf_late {a b : C3} (ha : VC a) (hb : VC b) {m : Nat} (hm : m ≤ 1048576) (h : pls a b m = INF) : ∀ t, m ≤ t → pls a b t = INF := by
  intro t ht
  have h1 := (pls_inf ha hb hm).1 h
  unfold pls
  rw [if_pos]
  rcases h1 with h1 | h1
  · exact .inl (ha.infAt_mono ht h1)
  · exact .inr (hb.infAt_mono ht h1)
def sgn (a b : C3) : Int := a.2.2 * ((com a b / a.2.1 : Nat) : Int) + b.2.2 * ((com a b / b.2.1 : Nat) : Int)
theorem pls_per {a b : C3} (ha : VC a) (hb : VC b) (h : FinC a ∧ FinC b) : Per (pls a b) (frm a b) (com a b) (sgn a b) := by
  intro t ht
  unfold pls
  rw [if_neg (fun h' => h'.elim (h.1.not ha _) (h.2.not hb _)), if_neg (fun h' => h'.elim (h.1.not ha _) (h.2.not hb _)), cv_com_l ha ht, cv_com_r hb ht]
  unfold sgn; omega
theorem pls_late {a b : C3} (h : ¬(FinC a ∧ FinC b)) {t : Nat} (ht : win a b ≤ t) : pls a b t = INF := by
  unfold pls
  rw [if_pos]
  unfold win at ht
  by_cases fa : FinC a
  · exact .inr (inf_late (fun fb => h ⟨fa, fb⟩) (by omega))
  · exact .inl (inf_late fa (by omega))
theorem VF.cvle {a : C3} (ha : VC a) {s t : Nat} (h : s ≤ t) : cv a s ≤ cv a t := ha.mono'.le h
/- what the reading of a result tells -/
theorem mk_read {F : Nat → Int} {x : List Int × Int × Int × Int} (h : MkP F x) (he : x.2.2.2 = 0) : ∃ c : C3, VC c ∧ NF F c.1 c.2.1 c.2.2 ∧ x = (c.1, (c.2.1 : Int), c.2.2, 0) ∧ ∀ t, cv c t = F t := by
  rcases h with ⟨vs, p, q, h1, h2, rfl⟩ | ⟨_, rfl⟩
  · exact ⟨(vs, p, q), h2, h1, rfl, h2.sound h1⟩
  · simp at he
theorem mk_err {F : Nat → Int} {x : List Int × Int × Int × Int} (h : MkP F x) (he : x.2.2.2 ≠ 0) : x = ([], 0, 0, 3) := by
  rcases h with ⟨vs, p, q, h1, h2, rfl⟩ | ⟨_, rfl⟩
  · exact absurd rfl he
  · rfl
/- a curve that is in normal form is what is made of its function -/
theorem mk_self {F : Nat → Int} {c : C3} (hc : VC c) (hn : NF F c.1 c.2.1 c.2.2) : MkP F (c.1, (c.2.1 : Int), c.2.2, 0) := .inl ⟨_, _, _, hn, hc, rfl⟩
/- there is a normal form -/
theorem nf_exists {F : Nat → Int} {s n : Nat} {Q : Int} (hn : 1 ≤ n) (h : Per F s n Q) : ∃ (vs : List Int) (p : Nat) (q : Int), NF F vs p q ∧ vs.length ≤ s + n ∧ p ≤ n ∧ p ∣ n ∧ ∃ k : Nat, 1 ≤ k ∧ Q = k * q := by
  obtain ⟨p, q, p1, hp, hm⟩ := exists_min hn h
  have hd := hp.dvd p1 hm h
  obtain ⟨k, hk⟩ := hd
  -- the least start
  have key : ∀ m, m ≤ s → Per F m p q → ∃ s0, s0 ≤ m ∧ Per F s0 p q ∧ MinS F s0 p q := by
    intro m
    induction m with
    | zero => intro _ hp; exact ⟨0, by omega, hp, fun s' _ => by omega⟩
    | succ m ih =>
      intro hm hp
      by_cases h0 : Per F m p q
      · obtain ⟨s0, h1, h2, h3⟩ := ih (by omega) h0
        exact ⟨s0, by omega, h2, h3⟩
      · refine ⟨m + 1, by omega, hp, fun s' hs' => ?_⟩
        rcases Nat.lt_or_ge s' (m + 1) with h1 | h1
        · exact absurd (hs'.mono (show s' ≤ m by omega)) h0
        · exact h1
  obtain ⟨s0, h1, h2, h3⟩ := key s (Nat.le_refl _) hp
  have hk1 : 1 ≤ k := by
    rcases Nat.eq_zero_or_pos k with h0 | h0
    · subst h0; omega
    · exact h0
  refine ⟨vals F (s0 + p), p, q, ⟨s0, p1, h2, hm, h3, rfl⟩, ?_, ?_, ⟨k, hk⟩, k, hk1, ?_⟩
  · rw [vals_len]; have : p * 1 ≤ p * k := Nat.mul_le_mul_left _ hk1; omega
  · have : p * 1 ≤ p * k := Nat.mul_le_mul_left _ hk1; omega
  · have h4 := hp.mul k
    rw [show k * p = n by rw [hk, Nat.mul_comm]] at h4
    exact h.uniq h4
/- a monotone function with small values and a period is a curve -/
theorem vf_exists {F : Nat → Int} {s n : Nat} {Q : Int} (hn : 1 ≤ n) (h : Per F s n Q) (h0 : 0 ≤ F 0) (hm : Mono F) (hlen : s + n ≤ 400) (hn2 : n ≤ 120) (hQ : Q ≤ 1073741824) (hb : ∀ t < s + n, F t ≤ 1073741824) :
    ∃ c : C3, NF F c.1 c.2.1 c.2.2 ∧ VC c ∧ c.1.length ≤ s + n ∧ c.2.1 ≤ n ∧ c.2.1 ∣ n := by
  obtain ⟨vs, p, q, hnf, h1, h2, hd, k, hk, h3⟩ := nf_exists hn h
  have hnf' := hnf
  obtain ⟨s0, p1, hper, _, _, rfl⟩ := hnf
  rw [vals_len] at h1
  have hq0 : 0 ≤ q := by have := hper s0 (Nat.le_refl _); have := hm.le (show s0 ≤ s0 + p by omega); omega
  have hq : q ≤ Q := by
    rw [h3]
    have : 1 * q ≤ (k : Int) * q := Int.mul_le_mul_of_nonneg_right (by omega) hq0
    omega
  have hfin : (vals F (s0 + p)).getD ((vals F (s0 + p)).length - 1) 0 ≠ INF := by
    rw [vals_len, vals_get (by omega)]
    have := hb (s0 + p - 1) (by omega)
    simp only [INF]; omega
  have hvf : VF (vals F (s0 + p)) p q := by
    refine ⟨by rw [vals_len]; omega, by rw [vals_len]; omega, p1, by omega, by rw [vals_len]; omega, hq0, by omega, ?_, ?_, fun e => absurd e hfin, ?_⟩
    · intro j hj
      rw [vals_len] at hj
      rw [vals_get hj]
      have := hm.le (Nat.zero_le j)
      exact .inr ⟨by omega, hb j (by omega)⟩
    · intro j k hjk hk
      rw [vals_len] at hk
      rw [vals_get (by omega), vals_get hk]; exact hm.le hjk
    · intro _
      rw [vals_len, vals_get (show s0 + p - p < s0 + p by omega), vals_get (show s0 + p - 1 < s0 + p by omega)]
      have := hper s0 (Nat.le_refl _); have := hm.le (show s0 + p - 1 ≤ s0 + p by omega)
      rw [show s0 + p - p = s0 by omega]
      omega
  exact ⟨(vals F (s0 + p), p, q), hnf', hvf, by rw [vals_len]; omega, h2, hd⟩
end Go.Cv
end
section
namespace Go.Cv
/-! the example of the chapter -/
def exF : C3 := ([0], 1, 10)
def exG : C3 := ([0, 14, 14, 28], 2, 14)
def exH : C3 := ([0, 14], 2, 14)
theorem mono_dec {vs : List Int} (h : ∀ j < vs.length, j + 1 < vs.length → vs.getD j 0 ≤ vs.getD (j + 1) 0) : ∀ j k, j ≤ k → k < vs.length → vs.getD j 0 ≤ vs.getD k 0 := mono_of (fun j hj => h j (by omega) hj)
theorem vf_of_dec {vs : List Int} {p : Nat} {q : Int} (h : ValidP vs p q) : VF vs p q := by
  obtain ⟨p', e, hv⟩ := h.vf
  have : p = p' := by omega
  subst this; exact hv
theorem exF_v : VC exF := ⟨by decide, by decide, by decide, by decide, by decide, by decide, by decide, by decide, fun j k h1 h2 => by
  have : k = 0 := by simp [exF] at h2; omega
  subst this
  have : j = 0 := by omega
  subst this; exact Int.le_refl _, fun h => by revert h; decide, fun _ => by decide⟩
theorem exG_v : VC exG := ⟨by decide, by decide, by decide, by decide, by decide, by decide, by decide, by decide, mono_dec (by decide), fun h => by revert h; decide, fun _ => by decide⟩
theorem exH_v : VC exH := ⟨by decide, by decide, by decide, by decide, by decide, by decide, by decide, by decide, mono_dec (by decide), fun h => by revert h; decide, fun _ => by decide⟩
theorem exF_nf : NF (cv exF) exF.1 exF.2.1 exF.2.2 :=
  ⟨0, by decide, exF_v.per, fun s' p' q' h _ => h, fun s' _ => Nat.zero_le _, by decide⟩
theorem exG_per : Per (cv exG) 0 2 14 := by
  have h : Per (cv exG) 2 2 14 := exG_v.per
  have h1 : Per (cv exG) 1 2 14 := h.pred (by decide)
  exact h1.pred (by decide)
theorem exG_nf : NF (cv exG) exH.1 exH.2.1 exH.2.2 := by
  refine ⟨0, by decide, exG_per, ?_, fun s' _ => Nat.zero_le _, by decide⟩
  refine Fits.min (by decide) exG_per (fun p' h1 h2 => ?_)
  have : p' = 1 := by simp only [exH] at h2; omega
  subst this
  rintro ⟨_, _, h3⟩
  have := h3 0 (by decide) (by decide)
  revert this; decide
theorem ex_prep {a b : C3} (ha : NF (cv exF) a.1 a.2.1 a.2.2) (hb : NF (cv exG) b.1 b.2.1 b.2.2) : a = exF ∧ b = exH := by
  obtain ⟨h1, h2, h3⟩ := ha.uniq exF_nf
  obtain ⟨h4, h5, h6⟩ := hb.uniq exG_nf
  exact ⟨Prod.ext h1 (Prod.ext h2 h3), Prod.ext h4 (Prod.ext h5 h6)⟩
theorem ex_com : com exF exH = 2 := by decide
theorem ex_frm : frm exF exH = 0 := by decide
theorem ex_drf : drf exF exH = 6 := by decide
theorem exF_f : FinC exF := by decide
theorem exH_f : FinC exH := by decide
theorem ex_rest {x : List Int × Int × Int × Int} (h : MkP (rmx (dif exF exH)) x) : ∃ c : C3, VC c ∧ x = (c.1, (c.2.1 : Int), c.2.2, 0) ∧ ∀ t, cv c t = rmx (dif exF exH) t := by
  have hd := dif_per exF_v exH_v exF_f exH_f
  rw [ex_frm, ex_com, ex_drf] at hd
  have hper : Per (rmx (dif exF exH)) 4 2 6 := rest_per (by decide) hd (by decide) (by decide) (by decide +kernel) (by decide +kernel)
  obtain ⟨c, h1, h2, _⟩ := vf_exists (by decide) hper (rmx_nonneg _ _) (rmx_mono _) (by decide) (by decide) (by decide) (by decide +kernel)
  rcases h with ⟨vs, p, q, h3, h4, rfl⟩ | ⟨h3, _⟩
  · exact ⟨(vs, p, q), h4, rfl, h4.sound h3⟩
  · exact absurd h2 (h3 _ _ _ h1)
theorem ex_above {x : List Int × Int × Int × Int} (h : MkP (amn exF exH) x) : ∃ c : C3, VC c ∧ x = (c.1, (c.2.1 : Int), c.2.2, 0) ∧ ∀ t, cv c t = amn exF exH t := by
  have hd := dif_per exF_v exH_v exF_f exH_f
  have h0 : ∀ u, 2 ≤ u → 0 ≤ dif exF exH u := by
    intro u hu
    rw [ex_frm, ex_com, ex_drf] at hd
    obtain ⟨r, h1, h2, h3⟩ := per_down (by decide) hd (by decide) hu
    have h4 : ∀ r, 2 ≤ r → r < 4 → 0 ≤ dif exF exH r := fun r h5 h6 => by
      have : r = 2 ∨ r = 3 := by omega
      rcases this with rfl | rfl <;> decide +kernel
    have := h4 r h1 (by omega)
    omega
  have hper := amn_per exF_v exH_v exF_f exH_f (s := 2) (by decide) h0
  rw [ex_com, ex_drf] at hper
  obtain ⟨c, h1, h2, _⟩ := vf_exists (by decide) hper (by decide +kernel) (amn_mono exF_v exH_v exH_f (fun _ => by decide)) (by decide) (by decide) (by decide) (by decide +kernel)
  rcases h with ⟨vs, p, q, h3, h4, rfl⟩ | ⟨h3, _⟩
  · exact ⟨(vs, p, q), h4, rfl, h4.sound h3⟩
  · exact absurd h2 (h3 _ _ _ h1)
end Go.Cv
end
section
namespace Go.Cv
/-! plain laws behind the statements of the remainder -/
def exZ : C3 := ([0], 1, 0)
theorem exZ_v : VC exZ := ⟨by decide, by decide, by decide, by decide, by decide, by decide, by decide, by decide, mono_dec (by decide), fun h => by revert h; decide, fun _ => by decide⟩
theorem cv_exZ (t : Nat) : cv exZ t = 0 := by
  unfold cv val exZ
  by_cases h : t < 1
  · have : t = 0 := by omega
    subst this; rfl
  · rw [if_neg (by simpa using h)]
    have : t - ((t - [(0 : Int)].length) / 1 + 1) * 1 = 0 := by simp; omega
    rw [this]
    simp [INF]
theorem exZ_nf : NF (fun _ => 0) exZ.1 exZ.2.1 exZ.2.2 := ⟨0, by decide, fun t _ => rfl, fun s' p' q' h _ => h, fun s' _ => Nat.zero_le _, rfl⟩
theorem mk_zero {x : List Int × Int × Int × Int} (h : MkP (fun _ => 0) x) : x = ([0], 1, 0, 0) := h.uniq (mk_self exZ_v exZ_nf)
theorem exZ_nf' : NF (cv exZ) exZ.1 exZ.2.1 exZ.2.2 := by
  have : cv exZ = fun _ => 0 := funext cv_exZ
  rw [this]; exact exZ_nf
/- a curve in normal form, of the function of another -/
def NrmOf (f a : C3) : Prop := VC a ∧ NF (cv f) a.1 a.2.1 a.2.2
theorem NrmOf.cv {f a : C3} (h : NrmOf f a) (t : Nat) : cv a t = Cv.cv f t := h.1.sound h.2 t
theorem NrmOf.self {f a : C3} (h : NrmOf f a) : NF (Cv.cv a) a.1 a.2.1 a.2.2 := by
  have : Cv.cv a = Cv.cv f := funext h.cv
  rw [this]; exact h.2
theorem NrmOf.uniq {f a b : C3} (h : NrmOf f a) (h' : NrmOf f b) : a = b := by
  obtain ⟨h1, h2, h3⟩ := h.2.uniq h'.2
  exact Prod.ext h1 (Prod.ext h2 h3)
theorem inf_late_cv {a : C3} (ha : VC a) (hf : ¬FinC a) {t : Nat} : infAt a.1 t ↔ cv a t = INF := by
  have n1 := ha.n1
  constructor
  · intro h
    unfold infAt at h
    by_cases ht : t < a.1.length
    · rw [Nat.min_eq_left (by omega)] at h
      unfold cv; rw [val_lt ht]; exact h
    · rw [Nat.min_eq_right (by omega)] at h
      exact ha.val_inf h h t (by omega)
  · intro h
    by_cases ht : t < a.1.length
    · unfold cv at h; rw [val_lt ht] at h
      unfold infAt; rw [Nat.min_eq_left (by omega)]; exact h
    · exact inf_late hf (by omega)
theorem dif_zero {a : C3} (ha : VC a) : dif a exZ = cv a := by
  funext t
  have hz : ¬infAt exZ.1 t := (show FinC exZ by decide).not exZ_v t
  unfold dif
  rw [if_neg hz, cv_exZ]
  by_cases hf : FinC a
  · rw [if_neg (hf.not ha t)]; omega
  · by_cases hi : infAt a.1 t
    · rw [if_pos hi, (inf_late_cv ha hf).1 hi]
    · rw [if_neg hi]; omega
theorem rmx_self {F : Nat → Int} (h0 : ∀ t, 0 ≤ F t) (hm : Mono F) : rmx F = F := by
  funext t
  have h1 := rmx_ge F (Nat.le_refl t)
  have h2 := rmx_le (d := F) (h0 t) (t := t) (fun s hs => hm.le hs)
  omega
theorem amn_zero {a : C3} (ha : VC a) : amn a exZ = cv a := by
  funext t
  unfold amn
  rw [dif_zero ha]
  have h1 := wmn_le (d := cv a) (n := frm a exZ + com a exZ) (Nat.le_refl t) (by omega)
  have h2 : cv a t ≤ wmn (cv a) (frm a exZ + com a exZ) t := wmn_ge (fun u h3 _ => VF.cvle ha h3)
  have := cv_nonneg ha t
  omega
theorem amn_le_dif {a b : C3} {t s : Nat} (ha : VC a) (hb : VC b) (fb : FinC b) (hd : FinC a → 0 ≤ drf a b) (h : t ≤ s) : amn a b t ≤ max 0 (dif a b s) := by
  obtain ⟨r, h1, h2, h3⟩ := down ha hb fb hd h
  have := wmn_le (d := dif a b) (n := frm a b + com a b) h1 (by omega)
  unfold amn; omega
theorem amn_ge {a b : C3} {t : Nat} {m : Int} (h0 : m ≤ 0 ∨ True) (h : ∀ s, t ≤ s → m ≤ max 0 (dif a b s)) : m ≤ amn a b t := by
  obtain ⟨s, h1, h2, h3⟩ := wmn_at (dif a b) (frm a b + com a b) t
  have := h s h1
  unfold amn; omega
/- with the second curve added again -/
theorem back_ge {a b r : C3} (ha : VC a) (hb : VC b) (hr : VC r) (h : ∀ t, cv r t = rmx (dif a b) t) {t : Nat} (ht : t ≤ 1048576) : cv a t ≤ pls r b t := by
  unfold pls
  split
  · by_cases hi : infAt a.1 t
    · rw [(ha.inf_iff ht).2 hi |> fun e => (show cv a t = INF from e)]; exact Int.le_refl _
    · have := cv_small ha ht hi; simp only [INF]; omega
  · rename_i hn
    have hnb : ¬infAt b.1 t := fun h => hn (.inr h)
    have hnr : ¬infAt r.1 t := fun h => hn (.inl h)
    have h1 := rmx_ge (dif a b) (Nat.le_refl t)
    rw [← h t] at h1
    by_cases hi : infAt a.1 t
    · exfalso
      have h2 := cv_small hr ht hnr
      rw [(dif_inf ha hb ht).2 ⟨hi, hnb⟩] at h1
      simp only [INF] at h1; omega
    · unfold dif at h1
      rw [if_neg hnb, if_neg hi] at h1
      omega
theorem amn_le_rmx {a b : C3} (ha : VC a) (hb : VC b) (fb : FinC b) (hd : FinC a → 0 ≤ drf a b) (t : Nat) : amn a b t ≤ rmx (dif a b) t := by
  have h1 := amn_le_dif ha hb fb hd (Nat.le_refl t)
  have h2 := rmx_ge (dif a b) (Nat.le_refl t)
  have := rmx_nonneg (dif a b) t
  omega
end Go.Cv
end
section
namespace Go.Cv
/-! curves as functions to the integers with an infinite value above all -/
def Ge (m : Int) (c : C3) (t : Nat) : Prop := infAt c.1 t ∨ m ≤ cv c t
/- m is at most the greater one of 0 and the difference -/
def GeD (m : Int) (a b : C3) (s : Nat) : Prop := m ≤ 0 ∨ (¬infAt b.1 s ∧ (infAt a.1 s ∨ m ≤ cv a s - cv b s))
def Leq (f g : C3) : Prop := ∀ m t, Ge m f t → Ge m g t
theorem Leq.refl (f : C3) : Leq f f := fun _ _ h => h
theorem Leq.inf {f g : C3} (h : Leq f g) {t : Nat} (hi : infAt f.1 t) : infAt g.1 t := by
  rcases h (cv g t + 1) t (.inl hi) with h1 | h1
  · exact h1
  · omega
theorem Leq.le {f g : C3} (h : Leq f g) {t : Nat} (hi : ¬infAt g.1 t) : cv f t ≤ cv g t := by
  rcases h (cv f t) t (.inr (Int.le_refl _)) with h1 | h1
  · exact absurd h1 hi
  · exact h1
theorem Leq.mk {f g : C3} (h : ∀ t, ¬infAt g.1 t → ¬infAt f.1 t ∧ cv f t ≤ cv g t) : Leq f g := by
  intro m t hm
  by_cases hi : infAt g.1 t
  · exact .inl hi
  · obtain ⟨h1, h2⟩ := h t hi
    rcases hm with h3 | h3
    · exact absurd h3 h1
    · exact .inr (by omega)
theorem atMost_iff {f g : C3} (hf : VC f) (hg : VC g) (hc : com f g ≤ 1000000) : AtMostP f g ↔ Leq f g := by
  constructor
  · intro h
    exact Leq.mk (fun t hi => atMost_le hf hg h hi)
  · intro h
    refine ⟨fun t ht => ?_, fun ⟨ff, fg, hd⟩ => ?_⟩
    · unfold abv
      by_cases hi : infAt g.1 t
      · rw [if_pos hi]; exact Int.le_refl _
      · rw [if_neg hi, if_neg (fun hj => hi (h.inf hj))]
        have := h.le hi; omega
    · obtain ⟨s, hs, h0⟩ := dif_up hf hg ff fg hd
      have hp := dif_per hf hg ff fg s hs
      have h1 := h0 s (Nat.le_refl _)
      have h2 := h.le (t := s + com f g) (fg.not hg _)
      rw [dif_fin hf hg ff fg, dif_fin hf hg ff fg] at hp
      rw [dif_fin hf hg ff fg] at h1
      rw [grw_drf] at hd
      omega
theorem infAt_clip {vs : List Int} {t n : Nat} (hn : vs.length ≤ n) : infAt vs t ↔ infAt vs (min t n) := by
  unfold infAt
  rw [show min (min t n) (vs.length - 1) = min t (vs.length - 1) by omega]
theorem VF.clip {c : C3} (h : VC c) (t : Nat) : infAt c.1 t ↔ infAt c.1 (min t 1000) := infAt_clip (by have := h.n2; omega)
/- the infinite ticks are those where the value is it, early -/
theorem VF.inf_clip {c : C3} (h : VC c) (t : Nat) : infAt c.1 t ↔ cv c (min t 1000) = INF := by
  rw [VF.clip h]; exact (h.inf_iff (by omega)).symm
theorem GeD.mono {m : Int} {a b a' b' : C3} (h1 : Leq a a') (h2 : Leq b' b) {s : Nat} (h : GeD m a b s) : GeD m a' b' s := by
  rcases h with h | ⟨h3, h4⟩
  · exact .inl h
  · have h5 : ¬infAt b'.1 s := fun h => h3 (h2.inf h)
    have h6 := h2.le h3
    refine .inr ⟨h5, ?_⟩
    by_cases hi : infAt a'.1 s
    · exact .inl hi
    · have h7 := h1.le hi
      rcases h4 with h4 | h4
      · exact absurd (h1.inf h4) hi
      · exact .inr (by omega)
theorem rest_infAt {a b c : C3} (ha : VC a) (hb : VC b) (hc : VC c) (h : ∀ t, cv c t = rmx (dif a b) t) (t : Nat) : infAt c.1 t ↔ ∃ s, s ≤ t ∧ infAt a.1 s ∧ ¬infAt b.1 s := by
  rw [VF.inf_clip hc, h]
  constructor
  · intro he
    rcases rmx_at (dif a b) (min t 1000) with h1 | ⟨s, h1, h2⟩
    · rw [h1] at he; simp only [INF] at he; omega
    · rw [h2] at he
      exact ⟨s, by omega, (dif_inf ha hb (by omega)).1 he⟩
  · rintro ⟨s, hs, h1, h2⟩
    have h3 : dif a b (min s 1000) = INF := (dif_inf ha hb (by omega)).2 ⟨(VF.clip ha s).1 h1, fun h => h2 ((VF.clip hb s).2 h)⟩
    have h4 := rmx_ge (dif a b) (show min s 1000 ≤ min t 1000 by omega)
    have h5 := (rmx_dif_le ha hb (t := min t 1000) (by omega)).2
    omega
theorem rest_ge {a b c : C3} (ha : VC a) (hb : VC b) (hc : VC c) (h : ∀ t, cv c t = rmx (dif a b) t) (m : Int) (t : Nat) : Ge m c t ↔ ∃ s, s ≤ t ∧ GeD m a b s := by
  constructor
  · rintro (hi | hm)
    · obtain ⟨s, h1, h2, h3⟩ := (rest_infAt ha hb hc h t).1 hi
      exact ⟨s, h1, .inr ⟨h3, .inl h2⟩⟩
    · rw [h] at hm
      rcases rmx_at (dif a b) t with h1 | ⟨s, h1, h2⟩
      · exact ⟨t, Nat.le_refl _, .inl (by omega)⟩
      · refine ⟨s, h1, ?_⟩
        rw [h2] at hm
        unfold dif at hm
        by_cases hbi : infAt b.1 s
        · rw [if_pos hbi] at hm; exact .inl hm
        · rw [if_neg hbi] at hm
          by_cases hai : infAt a.1 s
          · exact .inr ⟨hbi, .inl hai⟩
          · rw [if_neg hai] at hm; exact .inr ⟨hbi, .inr hm⟩
  · rintro ⟨s, hs, h1 | ⟨h1, h2⟩⟩
    · have := cv_nonneg hc t; exact .inr (by omega)
    · by_cases hai : infAt a.1 s
      · exact .inl ((rest_infAt ha hb hc h t).2 ⟨s, hs, hai, h1⟩)
      · rcases h2 with h2 | h2
        · exact absurd h2 hai
        · have h3 := rmx_ge (dif a b) hs
          rw [← h] at h3
          unfold dif at h3
          rw [if_neg h1, if_neg hai] at h3
          exact .inr (by omega)
theorem rest_leq {a b c a' b' c' : C3} (ha : VC a) (hb : VC b) (hc : VC c) (h : ∀ t, cv c t = rmx (dif a b) t) (ha' : VC a') (hb' : VC b') (hc' : VC c') (h' : ∀ t, cv c' t = rmx (dif a' b') t)
    (h1 : Leq a a') (h2 : Leq b' b) : Leq c c' := by
  intro m t hm
  obtain ⟨s, h3, h4⟩ := (rest_ge ha hb hc h m t).1 hm
  exact (rest_ge ha' hb' hc' h' m t).2 ⟨s, h3, h4.mono h1 h2⟩
/- what Above computes -/
def AbvF (a b : C3) (F : Nat → Int) : Prop := (¬(FinC b ∧ (FinC a → 0 ≤ drf a b)) ∧ F = fun _ => 0) ∨ ((FinC b ∧ (FinC a → 0 ≤ drf a b)) ∧ F = amn a b)
theorem amn_infAt {a b c : C3} (ha : VC a) (hb : VC b) (hc : VC c) (fb : FinC b) (hd : FinC a → 0 ≤ drf a b) (h : ∀ t, cv c t = amn a b t) (t : Nat) : infAt c.1 t ↔ infAt a.1 t := by
  rw [VF.inf_clip hc, h, VF.clip ha]
  constructor
  · intro he
    have h1 := amn_le_dif ha hb fb hd (Nat.le_refl (min t 1000))
    have h2 := dif_le ha hb (t := min t 1000) (by omega)
    exact ((dif_inf ha hb (by omega)).1 (by simp only [INF] at *; omega)).1
  · intro hi
    have h1 : INF ≤ amn a b (min t 1000) := amn_ge (.inr trivial) (fun s hs => by
      unfold dif
      rw [if_neg (fb.not hb s), if_pos (ha.infAt_mono hs hi)]
      simp only [INF]; omega)
    have h2 := (amn_bd ha hb (t := min t 1000) (by omega)).2
    omega
theorem drf_swap {a b : C3} : drf b a = -drf a b := by
  have : com b a = com a b := Nat.lcm_comm _ _
  unfold drf
  rw [this]; omega
theorem above_ge {a b c : C3} (ha : VC a) (hb : VC b) (hc : VC c) {F : Nat → Int} (hF : AbvF a b F) (h : ∀ t, cv c t = F t) (m : Int) (t : Nat) : Ge m c t ↔ ∀ s, t ≤ s → GeD m a b s := by
  rcases hF with ⟨hn, rfl⟩ | ⟨⟨fb, hd⟩, rfl⟩
  · have hni : ¬infAt c.1 t := by
      rw [VF.inf_clip hc, h]; simp only [INF]; omega
    constructor
    · rintro (h1 | h1)
      · exact absurd h1 hni
      · rw [h] at h1; exact fun s _ => .inl h1
    · intro hall
      refine .inr ?_
      rw [h]
      show m ≤ 0
      by_cases fb : FinC b
      · have fa : FinC a := Classical.byContradiction (fun hx => hn ⟨fb, fun hh => absurd hh hx⟩)
        have hneg : ¬0 ≤ drf a b := fun hx => hn ⟨fb, fun _ => hx⟩
        obtain ⟨u, _, hu⟩ := dif_up hb ha fb fa (by rw [drf_swap]; omega)
        have h2 := hu (max u t) (by omega)
        rw [dif_fin hb ha fb fa] at h2
        rcases hall (max u t) (by omega) with h3 | ⟨_, h3 | h3⟩
        · exact h3
        · exact absurd h3 (fa.not ha _)
        · omega
      · rcases hall (max t b.1.length) (by omega) with h3 | ⟨h3, _⟩
        · exact h3
        · exact absurd (inf_late fb (by omega)) h3
  · have hia := amn_infAt ha hb hc fb hd h t
    constructor
    · rintro (h1 | h1)
      · intro s hs
        exact .inr ⟨fb.not hb s, .inl (ha.infAt_mono hs (hia.1 h1))⟩
      · intro s hs
        rw [h] at h1
        have h2 := amn_le_dif ha hb fb hd hs
        by_cases h0 : m ≤ 0
        · exact .inl h0
        · refine .inr ⟨fb.not hb s, ?_⟩
          by_cases hai : infAt a.1 s
          · exact .inl hai
          · unfold dif at h2
            rw [if_neg (fb.not hb s), if_neg hai] at h2
            exact .inr (by omega)
    · intro hall
      by_cases hai : infAt a.1 t
      · exact .inl (hia.2 hai)
      · refine .inr ?_
        rw [h]
        refine amn_ge (.inr trivial) (fun s hs => ?_)
        rcases hall s hs with h3 | ⟨_, h3⟩
        · omega
        · unfold dif
          rw [if_neg (fb.not hb s)]
          by_cases has : infAt a.1 s
          · rw [if_pos has]
            have hfa : ¬FinC a := fun hx => hx.not ha s has
            have hlt : t ≤ 1048576 := by
              apply Classical.byContradiction
              intro _
              have := ha.n2
              exact hai (inf_late hfa (by omega))
            have h2 := dif_le ha hb hlt
            unfold dif at h2
            rw [if_neg (fb.not hb t), if_neg hai] at h2
            rcases hall t (Nat.le_refl _) with h4 | ⟨_, h4 | h4⟩
            · simp only [INF]; omega
            · exact absurd h4 hai
            · omega
          · rw [if_neg has]
            rcases h3 with h3 | h3
            · exact absurd h3 has
            · omega
theorem above_leq {a b c a' b' c' : C3} {F F' : Nat → Int} (ha : VC a) (hb : VC b) (hc : VC c) (hF : AbvF a b F) (h : ∀ t, cv c t = F t) (ha' : VC a') (hb' : VC b') (hc' : VC c') (hF' : AbvF a' b' F') (h' : ∀ t, cv c' t = F' t)
    (h1 : Leq a a') (h2 : Leq b' b) : Leq c c' :=
  fun m t hm => (above_ge ha' hb' hc' hF' h' m t).2 (fun s hs => ((above_ge ha hb hc hF h m t).1 hm s hs).mono h1 h2)
theorem pls_infAt {a b c : C3} (ha : VC a) (hb : VC b) (hc : VC c) (h : ∀ t, cv c t = pls a b t) (t : Nat) : infAt c.1 t ↔ infAt a.1 t ∨ infAt b.1 t := by
  rw [VF.inf_clip hc, h, pls_inf ha hb (by omega), ← VF.clip ha, ← VF.clip hb]
theorem pls_leq {a b c : C3} (ha : VC a) (hb : VC b) (hc : VC c) (h : ∀ t, cv c t = pls a b t) : Leq a c := by
  refine Leq.mk (fun t hi => ?_)
  rw [pls_infAt ha hb hc h] at hi
  refine ⟨fun h => hi (.inl h), ?_⟩
  rw [h]
  unfold pls
  rw [if_neg hi]
  have := cv_nonneg hb t
  omega
theorem cv_le2 {a : C3} (h : VC a) (hf : FinC a) {B : Int} (hB : ∀ j < a.1.length, a.1.getD j 0 = INF ∨ a.1.getD j 0 ≤ B) (t : Nat) : cv a t ≤ B + t * a.2.2 := by
  induction t using Nat.strongRecOn with
  | _ t ih =>
    by_cases hlt : t < a.1.length
    · unfold cv
      rw [val_lt hlt]
      have h2 := hB t hlt
      have h3 := h.noinf hf t hlt
      have : 0 ≤ (t : Int) * a.2.2 := Int.mul_nonneg (by omega) h.q0
      simp only [INF] at *; omega
    · have pn := h.pn
      have p1 := h.p1
      have e := h.per (t - a.2.1) (by omega)
      rw [show t - a.2.1 + a.2.1 = t by omega] at e
      have h2 := ih (t - a.2.1) (by omega)
      have h3 : ((t - a.2.1 : Nat) : Int) * a.2.2 + a.2.2 ≤ t * a.2.2 := by
        have h4 : ((t - a.2.1 : Nat) + 1 : Int) * a.2.2 ≤ (t : Int) * a.2.2 := Int.mul_le_mul_of_nonneg_right (by omega) h.q0
        rw [Int.add_mul, Int.one_mul] at h4; exact h4
      unfold cv at *
      omega
theorem pls_mono {a b : C3} (ha : VC a) (hb : VC b) {s t : Nat} (hst : s ≤ t) (ht : t ≤ 1048576) : pls a b s ≤ pls a b t := by
  by_cases h : infAt a.1 t ∨ infAt b.1 t
  · have := pls_le ha hb (t := s) (by omega)
    rw [(pls_inf ha hb ht).2 h]; exact this
  · have h1 : ¬(infAt a.1 s ∨ infAt b.1 s) := fun hh => h (hh.imp (ha.infAt_mono hst) (hb.infAt_mono hst))
    unfold pls
    rw [if_neg h, if_neg h1]
    have := ha.cvle hst
    have := hb.cvle hst
    omega
theorem least_inf {F : Nat → Int} : ∀ n, F n = INF → ∃ m, m ≤ n ∧ F m = INF ∧ ∀ t, t < m → F t ≠ INF := by
  intro n
  induction n using Nat.strongRecOn with
  | _ n ih =>
    intro h
    by_cases hx : ∃ t, t < n ∧ F t = INF
    · obtain ⟨t, h1, h2⟩ := hx
      obtain ⟨m, h3, h4, h5⟩ := ih t h1 h2
      exact ⟨m, by omega, h4, h5⟩
    · exact ⟨n, Nat.le_refl _, h, fun t ht he => hx ⟨t, ht, he⟩⟩
structure Sml (a : C3) (B : Int) : Prop where
  v : VC a
  n : a.1.length ≤ 20
  p : a.2.1 ≤ 8
  q : a.2.2 ≤ 100
  b : ∀ j < a.1.length, a.1.getD j 0 = INF ∨ a.1.getD j 0 ≤ B
theorem mul_le' {a b A B : Int} (ha : 0 ≤ a) (hb : 0 ≤ b) (hA : a ≤ A) (hB : b ≤ B) : 0 ≤ a * b ∧ a * b ≤ A * B :=
  ⟨Int.mul_nonneg ha hb, Int.mul_le_mul hA hB hb (by omega)⟩
/- the sum of two small curves is a curve -/
theorem sum_small {a d : C3} {B : Int} (ha : Sml a B) (hd : Sml d B) (hB : B ≤ 100000) {x : List Int × Int × Int × Int} (h : MkP (pls a d) x) : x.2.2.2 = 0 := by
  rcases h with ⟨_, _, _, _, _, rfl⟩ | ⟨hno, rfl⟩
  · rfl
  exfalso
  have va := ha.v
  have vd := hd.v
  have n1 := ha.n
  have n2 := hd.n
  have l1 := va.n1
  have l2 := vd.n1
  have p1 := va.p1
  have p2 := vd.p1
  have hc : com a d ≤ 64 := by
    have h3 : com a d ≤ a.2.1 * d.2.1 := Nat.le_of_dvd (Nat.mul_pos p1 p2) (Nat.lcm_dvd_mul _ _)
    have h4 : a.2.1 * d.2.1 ≤ 8 * 8 := Nat.mul_le_mul ha.p hd.p
    omega
  have hc1 := com_pos va vd
  by_cases hf : FinC a ∧ FinC d
  · have hper := pls_per va vd hf
    have k1 := mul_le' (A := 100) (B := 64) va.q0 (Int.natCast_nonneg (com a d / a.2.1)) ha.q (by have := Nat.div_le_self (com a d) a.2.1; omega)
    have k2 := mul_le' (A := 100) (B := 64) vd.q0 (Int.natCast_nonneg (com a d / d.2.1)) hd.q (by have := Nat.div_le_self (com a d) d.2.1; omega)
    have hfr : frm a d ≤ 20 := by unfold frm; omega
    have hval : ∀ t, pls a d t = cv a t + cv d t := by
      intro t; unfold pls; rw [if_neg (fun h => h.elim (hf.1.not va t) (hf.2.not vd t))]
    obtain ⟨c, h1, h2, _⟩ := vf_exists hc1 hper (pls_nonneg va vd 0) (fun t => by
        rw [hval, hval]; have := va.cvle (show t ≤ t + 1 by omega); have := vd.cvle (show t ≤ t + 1 by omega); omega) (by omega) (by omega) (by unfold sgn; omega)
      (fun t ht => by
        rw [hval]
        have e1 := cv_le2 va hf.1 ha.b t
        have e2 := cv_le2 vd hf.2 hd.b t
        have m1 := mul_le' (a := (t : Int)) (A := 100) (B := 100) (by omega) va.q0 (by omega) ha.q
        have m2 := mul_le' (a := (t : Int)) (A := 100) (B := 100) (by omega) vd.q0 (by omega) hd.q
        omega)
    exact hno _ _ _ h1 h2
  · have hw : win a d ≤ 20 := by unfold win; omega
    obtain ⟨m, h1, h2, h3⟩ := least_inf _ (pls_late hf (Nat.le_refl (win a d)))
    have h4 := pls_inf_late va vd (by omega) h2
    have hnf := NF.inf h4 h3
    refine hno _ _ _ hnf ?_
    have hfin : ∀ t, t < m → pls a d t ≤ 1073741824 := by
      intro t ht
      have hni : ¬(infAt a.1 t ∨ infAt d.1 t) := fun h => h3 t ht ((pls_inf va vd (by omega)).2 h)
      have e1 : cv a t ≤ B + t * 100 := by
        have hq := va.q0
        by_cases fa : FinC a
        · have := cv_le2 va fa ha.b t
          have : (t : Int) * a.2.2 ≤ t * 100 := Int.mul_le_mul_of_nonneg_left ha.q (by omega)
          omega
        · have hlt : t < a.1.length := by
            apply Classical.byContradiction
            intro hx
            exact hni (.inl (inf_late fa (by omega)))
          have h5 := ha.b t hlt
          unfold cv
          rw [val_lt hlt]
          rcases h5 with h5 | h5
          · exfalso; apply hni; left; unfold infAt; rw [Nat.min_eq_left (by omega)]; exact h5
          · omega
      have e2 : cv d t ≤ B + t * 100 := by
        have hq := vd.q0
        by_cases fa : FinC d
        · have := cv_le2 vd fa hd.b t
          have : (t : Int) * d.2.2 ≤ t * 100 := Int.mul_le_mul_of_nonneg_left hd.q (by omega)
          omega
        · have hlt : t < d.1.length := by
            apply Classical.byContradiction
            intro hx
            exact hni (.inr (inf_late fa (by omega)))
          have h5 := hd.b t hlt
          unfold cv
          rw [val_lt hlt]
          rcases h5 with h5 | h5
          · exfalso; apply hni; right; unfold infAt; rw [Nat.min_eq_left (by omega)]; exact h5
          · omega
      unfold pls
      rw [if_neg hni]
      omega
    have hlast : (vals (pls a d) (m + 1)).getD ((vals (pls a d) (m + 1)).length - 1) 0 = INF := by
      rw [vals_len, Nat.add_sub_cancel, vals_get (by omega)]; exact h2
    refine ⟨by rw [vals_len]; omega, by rw [vals_len]; omega, by omega, by omega, by rw [vals_len]; omega, by omega, by omega, fun j hj => ?_, fun j k hjk hk => ?_, fun _ => ⟨rfl, rfl⟩, fun e => absurd hlast e⟩
    · rw [vals_len] at hj
      rw [vals_get hj]
      by_cases hjm : j = m
      · subst hjm; exact .inl h2
      · exact .inr ⟨pls_nonneg va vd j, hfin j (by omega)⟩
    · rw [vals_len] at hk
      rw [vals_get (by omega), vals_get hk]
      exact pls_mono va vd hjk (by omega)
theorem sum_per {a d m : C3} (ha : VC a) (hd : VC d) (h : NF (pls a d) m.1 m.2.1 m.2.2) : m.2.1 ≤ com a d := by
  obtain ⟨s, g1, g2, g3, _⟩ := h
  by_cases hf : FinC a ∧ FinC d
  · exact g3 _ _ _ (com_pos ha hd) (pls_per ha hd hf)
  · have h1 : Per (pls a d) (win a d) 1 0 := fun t ht => by
      rw [pls_late hf ht, pls_late hf (by omega)]; simp
    have h2 := g3 _ _ _ (Nat.le_refl 1) h1
    have := com_pos ha hd
    omega
theorem com_le_mul {a b : C3} (ha : VC a) (hb : VC b) {A B : Nat} (h1 : a.2.1 ≤ A) (h2 : b.2.1 ≤ B) : com a b ≤ A * B := by
  have h3 : com a b ≤ a.2.1 * b.2.1 := Nat.le_of_dvd (Nat.mul_pos ha.p1 hb.p1) (Nat.lcm_dvd_mul _ _)
  have h4 := Nat.mul_le_mul h1 h2
  omega
end Go.Cv
end
section
namespace Go.Cv
/-! curves that are lowered, or raised after the tick 0 -/
def low (x : C3) (v : Int) : C3 := (x.1.map (fun y => y - v), x.2.1, x.2.2)
theorem low_len (x : C3) (v : Int) : (low x v).1.length = x.1.length := by simp [low]
theorem low_get {x : C3} {v : Int} {j : Nat} (h : j < x.1.length) : (low x v).1.getD j 0 = x.1.getD j 0 - v := by
  simp [low, List.getElem?_eq_getElem h]
theorem low_vc {x : C3} {v : Int} (h : VC x) (hf : FinC x) (h0 : 0 ≤ v) (h1 : v ≤ x.1.getD 0 0) : VC (low x v) ∧ FinC (low x v) ∧ ∀ t, cv (low x v) t = cv x t - v := by
  have n1 := h.n1
  have hl := low_len x v
  have hb : ∀ j < x.1.length, x.1.getD j 0 ≠ INF ∧ v ≤ x.1.getD j 0 ∧ x.1.getD j 0 ≤ 1073741824 := by
    intro j hj
    have h2 := h.noinf hf j hj
    have h3 := h.mono 0 j (by omega) hj
    refine ⟨h2, by omega, ?_⟩
    rcases h.v j hj with h4 | h4
    · exact absurd h4 h2
    · exact h4.2
  have hfin : FinC (low x v) := by
    unfold FinC
    rw [hl, low_get (by omega)]
    have := hb (x.1.length - 1) (by omega)
    simp only [INF] at *; omega
  have hv : VC (low x v) := by
    refine ⟨by rw [hl]; exact h.n1, by rw [hl]; exact h.n2, h.p1, h.p2, by rw [hl]; exact h.pn, h.q0, h.q1, fun j hj => ?_, fun j k hjk hk => ?_, fun e => absurd e hfin, fun _ => ?_⟩
    · rw [hl] at hj
      rw [low_get hj]
      have := hb j hj
      exact .inr ⟨by omega, by omega⟩
    · rw [hl] at hk
      rw [low_get (by omega), low_get hk]
      have := h.mono j k hjk hk
      omega
    · have p1 := h.p1
      have h2 := h.fin hf
      have h3 : (low x v).2.1 = x.2.1 := rfl
      have h4 : (low x v).2.2 = x.2.2 := rfl
      rw [hl, h3, h4, low_get (by omega), low_get (by omega)]
      omega
  refine ⟨hv, hfin, fun t => ?_⟩
  have hper := h.per
  refine val_of_per (F := fun t => cv x t - v) h.p1 (by rw [hl]; exact h.pn) (fun t ht => ?_) (fun k hk => hv.noinf hfin k hk) ?_ t
  · rw [hl] at ht
    rw [low_get ht]
    unfold cv
    rw [val_lt ht]
  · intro t ht
    rw [hl] at ht
    have := hper t ht
    unfold cv
    show val x.1 x.2.1 x.2.2 (t + x.2.1) - v = val x.1 x.2.1 x.2.2 t - v + x.2.2
    omega
theorem per_add {F : Nat → Int} {s p : Nat} {q v : Int} : Per (fun t => F t - v) s p q ↔ Per F s p q :=
  ⟨fun h t ht => by have := h t ht; simp only at this; omega, fun h t ht => by have := h t ht; simp only; omega⟩
theorem low_nf {F : Nat → Int} {vs : List Int} {p : Nat} {q : Int} (v : Int) (h : NF F vs p q) : NF (fun t => F t - v) (vs.map (fun y => y - v)) p q := by
  obtain ⟨s, h1, h2, h3, h4, h5⟩ := h
  refine ⟨s, h1, per_add.2 h2, fun s' p' q' h6 h7 => h3 s' p' q' h6 (per_add.1 h7), fun s' h6 => h4 s' (per_add.1 h6), ?_⟩
  rw [h5]; simp [vals]
theorem fin_nrm {f a : C3} (hf : VC f) (hfin : FinC f) (h : NrmOf f a) : FinC a := by
  have va := h.1
  intro e
  have n1 := va.n1
  have n2 := va.n2
  have h1 : cv a (a.1.length - 1) = INF := by unfold cv; rw [val_lt (by omega)]; exact e
  rw [h.cv] at h1
  exact hfin.not hf _ ((hf.inf_iff (by omega)).1 h1)
/- a small curve in normal form with 0 at the tick 0 -/
structure Zer (most : Nat) (a : C3) : Prop where
  v : VC a
  f : FinC a
  z : cv a 0 = 0
  p : a.2.1 ≤ 4
  n : a.1.length ≤ most + 1
  q : a.2.2 ≤ 35
  b : ∀ j < a.1.length, a.1.getD j 0 ≤ 9 * most + 3
  s : ∀ t, cv a (t + 1) ≤ cv a t + 9
theorem low_nrm {f a : C3} {v : Int} (hf : VC f) (hfin : FinC f) (h : NrmOf f a) (h0 : 0 ≤ v) (h1 : v ≤ f.1.getD 0 0) : NrmOf (low f v) (low a v) := by
  have fa := fin_nrm hf hfin h
  have e : f.1.getD 0 0 = a.1.getD 0 0 := by
    have e1 := h.cv 0
    unfold cv at e1
    rw [val_lt h.1.n1, val_lt hf.n1] at e1
    exact e1.symm
  refine ⟨(low_vc h.1 fa h0 (by omega)).1, ?_⟩
  have h2 := low_nf v h.2
  rw [show Cv.cv (low f v) = fun t => Cv.cv f t - v from funext (low_vc hf hfin h0 h1).2.2]
  exact h2
end Go.Cv
end
section
namespace Go.Cv
/-! the rest of two small curves with 0 at the tick 0 repeats early -/
theorem cv_bd9 {most : Nat} {a : C3} (h : Zer most a) (t : Nat) : cv a t ≤ 9 * t := by
  induction t with
  | zero => rw [h.z]; omega
  | succ t ih => have := h.s t; omega
theorem Zer.sml {most : Nat} {a : C3} (h : Zer most a) (hm : most ≤ 12) : Sml a 200 :=
  ⟨h.v, by have := h.n; omega, by have := h.p; omega, by have := h.q; omega, fun j hj => .inr (by have := h.b j hj; omega)⟩
theorem small_com {p q : Nat} (hp : 1 ≤ p) (hp4 : p ≤ 4) (hq : 1 ≤ q) (hq4 : q ≤ 4) : Nat.lcm p q ≤ 4 ∨ (Nat.lcm p q ≤ 6 ∧ 2 ≤ p ∧ 2 ≤ q) ∨ (Nat.lcm p q = 12 ∧ 3 ≤ p ∧ 3 ≤ q) := by
  have h1 : p = 1 ∨ p = 2 ∨ p = 3 ∨ p = 4 := by omega
  have h2 : q = 1 ∨ q = 2 ∨ q = 3 ∨ q = 4 := by omega
  rcases h1 with rfl | rfl | rfl | rfl <;> rcases h2 with rfl | rfl | rfl | rfl <;> decide
theorem late_bd {m n : Nat} {a b : C3} (ha : Zer m a) (hb : Zer n b) (hm : m ≤ 5) (hn : n ≤ 5) : frm a b ≤ 5 ∧ com a b ≤ 12 ∧ frm a b + (9 * frm a b + 2) * com a b ≤ 360 := by
  have h1 := ha.n
  have h2 := hb.n
  have h3 := ha.v.p1
  have h4 := hb.v.p1
  have key := small_com h3 ha.p h4 hb.p
  have hf : frm a b ≤ 5 := by unfold frm; omega
  unfold com
  generalize Nat.lcm a.2.1 b.2.1 = L at *
  refine ⟨hf, by omega, ?_⟩
  rcases key with h5 | ⟨h5, h6, h7⟩ | ⟨h5, h6, h7⟩
  · have := Nat.mul_le_mul (show 9 * frm a b + 2 ≤ 47 by omega) h5; omega
  · have hf2 : frm a b ≤ 4 := by unfold frm; omega
    have := Nat.mul_le_mul (show 9 * frm a b + 2 ≤ 38 by omega) h5; omega
  · have hf2 : frm a b ≤ 3 := by unfold frm; omega
    have := Nat.mul_le_mul (show 9 * frm a b + 2 ≤ 29 by omega) (Nat.le_of_eq h5); omega
theorem dif_step {m n : Nat} {a b : C3} (ha : Zer m a) (hb : Zer n b) {s : Nat} : ∀ k : Nat, dif a b s - 9 * k ≤ dif a b (s + k) := by
  intro k
  induction k with
  | zero => simp
  | succ k ih =>
    have h1 := ha.v.cvle (show s + k ≤ s + k + 1 by omega)
    have h2 := hb.s (s + k)
    have e1 := dif_fin ha.v hb.v ha.f hb.f (s + k)
    have e2 := dif_fin ha.v hb.v ha.f hb.f (s + k + 1)
    rw [show s + (k + 1) = s + k + 1 by omega]
    omega
theorem rest_late {m n : Nat} {a b : C3} (ha : Zer m a) (hb : Zer n b) : ∃ Q : Int, 0 ≤ Q ∧ Q ≤ 35 * com a b ∧ Per (rmx (dif a b)) (frm a b + (9 * frm a b + 1) * com a b) (com a b) Q := by
  have hl := com_pos ha.v hb.v
  have hper := dif_per ha.v hb.v ha.f hb.f
  by_cases hD : 0 < drf a b
  · refine ⟨drf a b, by omega, ?_, ?_⟩
    · unfold drf
      have h1 := Nat.div_le_self (com a b) a.2.1
      have h2 := (mul_le' (A := 35) (B := com a b) ha.v.q0 (Int.natCast_nonneg (com a b / a.2.1)) ha.q (by omega)).2
      have h3 := Int.mul_nonneg hb.v.q0 (Int.natCast_nonneg (com a b / b.2.1))
      omega
    · generalize hF : frm a b = F at *
      generalize hL : com a b = L at *
      generalize hDe : drf a b = D at *
      have hk := hper.mul (9 * F) F (Nat.le_refl _)
      have hM : rmx (dif a b) F - 9 * F ≤ dif a b F := by
        rcases rmx_at (dif a b) F with h | ⟨s, h1, h2⟩
        · have := dif_step ha hb (s := 0) F
          rw [dif_fin ha.v hb.v ha.f hb.f 0, ha.z, hb.z, Nat.zero_add] at this
          omega
        · have := dif_step ha hb (s := s) (F - s)
          rw [show s + (F - s) = F by omega] at this
          omega
      have hMD : rmx (dif a b) F ≤ dif a b (F + 9 * F * L) := by
        have h1 : ((9 * F : Nat) : Int) * 1 ≤ ((9 * F : Nat) : Int) * D := Int.mul_le_mul_of_nonneg_left (by omega) (by omega)
        omega
      have hmul : (9 * F + 1) * L = 9 * F * L + L := by rw [Nat.add_mul, Nat.one_mul]
      intro t ht
      -- the greatest difference lies late
      have h5 : ∃ s, F ≤ s ∧ s ≤ t ∧ rmx (dif a b) t = dif a b s := by
        have h6 := rmx_ge (dif a b) (show F + 9 * F * L ≤ t by omega)
        have h7 : ∀ x, x ≤ F → dif a b x ≤ dif a b (F + 9 * F * L) := fun x hx => by have := rmx_ge (dif a b) hx; omega
        have h8 := rmx_nonneg (dif a b) F
        rcases rmx_at (dif a b) t with h | ⟨s, h1, h2⟩
        · exact ⟨F + 9 * F * L, by omega, by omega, by omega⟩
        · by_cases hs : F ≤ s
          · exact ⟨s, hs, h1, h2⟩
          · have := h7 s (by omega)
            exact ⟨F + 9 * F * L, by omega, by omega, by omega⟩
      obtain ⟨s, h6, h7, h8⟩ := h5
      have h9 := rmx_ge (dif a b) (show s + L ≤ t + L by omega)
      rw [hper s h6] at h9
      have h10 : rmx (dif a b) (t + L) ≤ rmx (dif a b) t + D := by
        refine rmx_le (by have := rmx_nonneg (dif a b) t; omega) (fun x hx => ?_)
        by_cases hxs : F + L ≤ x
        · have e := hper (x - L) (by omega)
          rw [show x - L + L = x by omega] at e
          have := rmx_ge (dif a b) (show x - L ≤ t by omega)
          omega
        · have := rmx_ge (dif a b) (show x ≤ t by omega)
          omega
      omega
  · refine ⟨0, by omega, by omega, ?_⟩
    have h1 := (rest_still ha.v hb.v (fun h => hD h.2.2)).mul (com a b)
    simp only [Nat.mul_one, Int.mul_zero] at h1
    refine h1.mono ?_
    have : 1 * com a b ≤ (9 * frm a b + 1) * com a b := Nat.mul_le_mul_right _ (by omega)
    omega
theorem leq_fin {f g : C3} (hf : VC f) (hg : VC g) (ff : FinC f) (fg : FinC g) : Leq f g ↔ ∀ t, cv f t ≤ cv g t :=
  ⟨fun h t => h.le (fg.not hg t), fun h => Leq.mk (fun t _ => ⟨ff.not hf t, h t⟩)⟩
theorem fin_of {c : C3} (h : ∀ t, ¬infAt c.1 t) : FinC c := Classical.byContradiction (fun hx => h c.1.length (inf_late hx (by omega)))
theorem rest_fin {a b c : C3} (ha : VC a) (hb : VC b) (fa : FinC a) (hc : VC c) (h : ∀ t, cv c t = rmx (dif a b) t) : FinC c :=
  fin_of (fun t hi => by obtain ⟨s, _, h2, _⟩ := (rest_infAt ha hb hc h t).1 hi; exact fa.not ha s h2)
theorem sum_fin {a b c : C3} (ha : VC a) (hb : VC b) (fa : FinC a) (fb : FinC b) (hc : VC c) (h : ∀ t, cv c t = pls a b t) : FinC c ∧ ∀ t, cv c t = cv a t + cv b t :=
  ⟨fin_of (fun t hi => by rcases (pls_infAt ha hb hc h t).1 hi with h2 | h2; exact fa.not ha t h2; exact fb.not hb t h2), fun t => by
    rw [h]; unfold pls; rw [if_neg (fun h => h.elim (fa.not ha t) (fb.not hb t))]⟩
/- the rest is the least curve that, added to the second one, is at least the first one -/
theorem rest_least {f a b r h s : C3} (hf : VC f) (ha : VC a) (hb : VC b) (fa : FinC a) (fb : FinC b) (ff : FinC f) (hfa : ∀ t, cv f t = cv a t) (hr : VC r) (hrv : ∀ t, cv r t = rmx (dif a b) t) (hh : VC h) (fh : FinC h) (hs : VC s) (hsv : ∀ t, cv s t = cv h t + cv b t) (fs : FinC s) :
    Leq r h ↔ Leq f s := by
  rw [leq_fin hr hh (rest_fin ha hb fa hr hrv) fh, leq_fin hf hs ff fs]
  constructor
  · intro h1 t
    have h2 := h1 t
    have h3 := rmx_ge (dif a b) (Nat.le_refl t)
    rw [dif_fin ha hb fa fb] at h3
    rw [hrv] at h2
    rw [hfa, hsv]; omega
  · intro h1 t
    rw [hrv]
    refine rmx_le (cv_nonneg hh t) (fun x hx => ?_)
    have h2 := h1 x
    rw [hfa, hsv] at h2
    rw [dif_fin ha hb fa fb]
    have := hh.cvle hx
    omega
/- a curve that is raised after the tick 0 -/
def rai (a : C3) (c : Int) (t : Nat) : Int := if t = 0 then 0 else cv a t + c
theorem rmx_bd9 {m n : Nat} {a b : C3} (ha : Zer m a) (hb : Zer n b) (t : Nat) : rmx (dif a b) t ≤ 9 * t := by
  refine rmx_le (by omega) (fun s hs => ?_)
  rw [dif_fin ha.v hb.v ha.f hb.f]
  have := cv_bd9 ha s
  have := cv_nonneg hb.v s
  omega
structure Raised (a b h : C3) : Prop where
  v : VC h
  f : FinC h
  c : com h b ≤ 120
  s : ∀ x, MkP (pls h b) x → x.2.2.2 = 0
theorem raised_of {m n : Nat} {a b r h : C3} {c : Int} (ha : Zer m a) (hb : Zer n b) (hm : m ≤ 5) (hn : n ≤ 5) (hr : VC r) (hrv : ∀ t, cv r t = rmx (dif a b) t) (hc : 0 ≤ c) (hc2 : c ≤ 100) (hh : VC h) (hnf : NF (rai r c) h.1 h.2.1 h.2.2) : Raised a b h := by
  obtain ⟨b1, b2, b3⟩ := late_bd ha hb hm hn
  obtain ⟨Q, q0, q1, hper⟩ := rest_late ha hb
  have hl := com_pos ha.v hb.v
  have hhv : ∀ t, cv h t = rai r c t := hh.sound hnf
  have hbd : ∀ t, 0 ≤ cv h t ∧ cv h t ≤ 9 * t + 100 := by
    intro t
    have h1 := rmx_bd9 ha hb t
    have h2 := rmx_nonneg (dif a b) t
    rw [hhv]; unfold rai
    rw [hrv]
    split <;> omega
  have hf : FinC h := fin_of (fun t hi => by
    rw [VF.inf_clip hh] at hi
    have := (hbd (min t 1000)).2
    rw [hi] at this
    simp only [INF] at this; omega)
  have hmul : (9 * frm a b + 2) * com a b = (9 * frm a b + 1) * com a b + com a b := by
    rw [show 9 * frm a b + 2 = 9 * frm a b + 1 + 1 by omega, Nat.add_mul (9 * frm a b + 1) 1, Nat.one_mul]
  generalize hu : frm a b + (9 * frm a b + 1) * com a b = u at *
  have hperh : Per (rai r c) (u + 1) (com a b) Q := by
    intro t ht
    have := hper t (by omega)
    unfold rai
    rw [if_neg (by omega), if_neg (by omega), hrv, hrv]
    omega
  obtain ⟨s, g1, g2, g3, _⟩ := hnf
  have hp : h.2.1 ≤ com a b := g3 _ _ _ hl hperh
  have hch : com h b ≤ 120 := by
    have := com_le_mul (A := 12) (B := 4) hh hb.v (by omega) hb.p
    omega
  refine ⟨hh, hf, hch, fun x hx => ?_⟩
  rcases hx with ⟨_, _, _, _, _, rfl⟩ | ⟨hno, rfl⟩
  · rfl
  exfalso
  have hval : ∀ t, pls h b t = cv h t + cv b t := by
    intro t; unfold pls; rw [if_neg (fun e => e.elim (hf.not hh t) (hb.f.not hb.v t))]
  have hpb : Per (cv b) (b.1.length - b.2.1) (com a b) ((com a b / b.2.1 : Nat) * b.2.2) := by
    have h1 := hb.v.per.mul (com a b / b.2.1)
    rw [show com a b / b.2.1 * b.2.1 = com a b from Nat.div_mul_cancel (Nat.dvd_lcm_right a.2.1 b.2.1)] at h1
    exact h1
  have hfb : b.1.length - b.2.1 ≤ u := by
    have : b.1.length - b.2.1 ≤ frm a b := by unfold frm; omega
    omega
  have hps : Per (pls h b) (u + 1) (com a b) (Q + (com a b / b.2.1 : Nat) * b.2.2) := by
    intro t ht
    have e1 := hperh t ht
    have e2 := hpb t (by omega)
    rw [hval, hval, hhv, hhv, e1, e2]; omega
  have hq2 := (mul_le' (a := ((com a b / b.2.1 : Nat) : Int)) (A := 12) (B := 35) (Int.natCast_nonneg _) hb.v.q0 (by have := Nat.div_le_self (com a b) b.2.1; omega) hb.q).2
  obtain ⟨c, h1, h2, _⟩ := vf_exists hl hps (pls_nonneg hh hb.v 0) (fun t => by
      rw [hval, hval]; have := hh.cvle (show t ≤ t + 1 by omega); have := hb.v.cvle (show t ≤ t + 1 by omega); omega) (by omega) (by omega) (by omega)
    (fun t ht => by
      rw [hval]
      have := hbd t
      have := cv_bd9 hb t
      omega)
  exact hno _ _ _ h1 h2
theorem zer_raised {m n : Nat} {a b h : C3} (hh : Zer m h) (hb : Zer n b) (hm : m ≤ 5) (hn : n ≤ 5) : Raised a b h :=
  ⟨hh.v, hh.f, by have := com_le_mul (A := 4) (B := 4) hh.v hb.v hh.p hb.p; omega, fun x hx => sum_small (hh.sml (by omega)) (hb.sml (by omega)) (by omega) hx⟩
theorem fin_back {f a : C3} (hf : VC f) (fa : FinC a) (h : NrmOf f a) : FinC f :=
  fin_of (fun t hi => by
    rw [VF.inf_clip hf, ← h.cv] at hi
    exact fa.not h.1 _ ((h.1.inf_iff (by omega)).1 hi))
end Go.Cv
end
section
namespace Go.Cv
/-! a curve moved to earlier ticks -/
def ahd (f : C3) (d t : Nat) : Int := if t = 0 then 0 else cv f (t + d)
theorem ahd_mono {f : C3} (hf : VC f) (d : Nat) : Mono (ahd f d) := by
  intro t
  unfold ahd
  rw [if_neg (show ¬t + 1 = 0 by omega)]
  split
  · exact hf.nonneg _
  · have := hf.mono' (t + d)
    rw [show t + d + 1 = t + 1 + d by omega] at this
    exact this
theorem ahd_congr {f a : C3} (h : ∀ t, cv a t = cv f t) (d : Nat) : ahd a d = ahd f d := by
  funext t; unfold ahd; rw [h]
theorem ahd_per {a : C3} (ha : VC a) (d s : Nat) (h1 : 1 ≤ s) (h2 : a.1.length - a.2.1 - d ≤ s) : Per (ahd a d) s a.2.1 a.2.2 := by
  intro t ht
  unfold ahd
  rw [if_neg (show ¬t = 0 by omega), if_neg (show ¬t + a.2.1 = 0 by have := ha.p1; omega)]
  have := ha.per (t + d) (by omega)
  rw [show t + a.2.1 + d = t + d + a.2.1 by omega]
  exact this
theorem ahd_bd {f : C3} (hf : VC f) (ff : FinC f) {d t : Nat} (h : t + d ≤ 1048576) : 0 ≤ ahd f d t ∧ ahd f d t ≤ 2000000000000000 := by
  unfold ahd
  split
  · omega
  · exact ⟨cv_nonneg hf _, cv_small hf h (ff.not hf _)⟩
/- small curves stay curves -/
theorem mk_fits {F : Nat → Int} {x : List Int × Int × Int × Int} {s p : Nat} {q : Int} (h : MkP F x) (h0 : 0 ≤ F 0) (hm : Mono F) (hp : Per F s p q) (hp1 : 1 ≤ p) (hp2 : p ≤ 120) (hs : s + p ≤ 400) (hq2 : q ≤ 1073741824) (hv : ∀ t, t < s + p → F t ≤ 1073741824) : ∃ c : C3, VC c ∧ (∀ t, cv c t = F t) ∧ x = (c.1, (c.2.1 : Int), c.2.2, 0) := by
  obtain ⟨c, hn, hc, _⟩ := vf_exists hp1 hp h0 hm hs hp2 hq2 hv
  rcases h with ⟨vs, p', q', hn', hvf, rfl⟩ | ⟨hno, _⟩
  · exact ⟨(vs, p', q'), hvf, hvf.sound hn', rfl⟩
  · exact absurd hc (hno _ _ _ hn)
end Go.Cv
end
section
namespace Go.Pk
/-! packets, plainly -/
structure Pk where
  f : Int
  t : Int
  s : Int
def sel (flow : Int) (x : Pk) : Prop := flow = -1 ∨ (x.f = flow ∧ 0 ≤ flow)
instance (flow : Int) (x : Pk) : Decidable (sel flow x) := inferInstanceAs (Decidable (_ ∨ _))
abbrev pk0 : Pk := ⟨0, 0, 0⟩
/- the packets of a flow among the first i, with their indices -/
def selN (p : List Pk) (flow : Int) : Nat → List (Nat × Pk)
  | 0 => []
  | i + 1 => if sel flow (p.getD i pk0) then selN p flow i ++ [(i, p.getD i pk0)] else selN p flow i
theorem selN_pre (p : List Pk) (flow : Int) {i : Nat} : ∀ {m : Nat}, i ≤ m → ∃ r, selN p flow m = selN p flow i ++ r
  | 0, h => by have : i = 0 := by omega
               subst this; exact ⟨[], by simp [selN]⟩
  | m + 1, h => by
    by_cases e : i = m + 1
    · subst e; exact ⟨[], by simp⟩
    · obtain ⟨r, hr⟩ := selN_pre p flow (i := i) (m := m) (by omega)
      simp only [selN]
      split
      · exact ⟨r ++ [(m, p.getD m pk0)], by rw [hr, List.append_assoc]⟩
      · exact ⟨r, hr⟩
theorem selN_at {p : List Pk} {flow : Int} {i : Nat} (hi : i < p.length) (h : sel flow (p.getD i pk0)) : (selN p flow p.length)[(selN p flow i).length]? = some (i, p.getD i pk0) := by
  obtain ⟨r, hr⟩ := selN_pre p flow (i := i + 1) (m := p.length) (by omega)
  rw [hr]
  simp only [selN]
  rw [if_pos h, List.append_assoc, List.getElem?_append_right (Nat.le_refl _), Nat.sub_self]
  rfl
theorem selN_len (p : List Pk) (flow : Int) : ∀ i, (selN p flow i).length ≤ i
  | 0 => by simp [selN]
  | i + 1 => by have := selN_len p flow i; simp only [selN]; split <;> simp <;> omega
theorem selN_step (p : List Pk) (flow : Int) (i : Nat) : (sel flow (p.getD i pk0) → selN p flow (i + 1) = selN p flow i ++ [(i, p.getD i pk0)]) ∧ (¬sel flow (p.getD i pk0) → selN p flow (i + 1) = selN p flow i) :=
  ⟨fun h => by simp only [selN]; rw [if_pos h], fun h => by simp only [selN]; rw [if_neg h]⟩
/- bytes before a tick -/
def bysL (t : Int) : List (Nat × Pk) → Int
  | [] => 0
  | x :: l => (if x.2.t < t then x.2.s else 0) + bysL t l
theorem bysL_app (t : Int) : ∀ a b : List (Nat × Pk), bysL t (a ++ b) = bysL t a + bysL t b
  | [], b => by simp [bysL]
  | x :: a, b => by simp only [List.cons_append, bysL]; rw [bysL_app]; omega
def bys (p : List Pk) (flow t : Int) : Int := bysL t (selN p flow p.length)
theorem bysL_take (t : Int) {l : List (Nat × Pk)} {j : Nat} {x : Nat × Pk} (h : l[j]? = some x) : bysL t (l.take (j + 1)) = bysL t (l.take j) + if x.2.t < t then x.2.s else 0 := by
  obtain ⟨hj, e⟩ := List.getElem?_eq_some_iff.1 h
  rw [List.take_succ_eq_append_getElem hj, bysL_app, e]
  simp [bysL]
theorem getD_memP {l : List Pk} {i : Nat} (h : i < l.length) : l.getD i pk0 ∈ l := by
  rw [List.getD_eq_getElem?_getD, List.getElem?_eq_getElem h]; exact List.getElem_mem h
theorem selN_mem {p : List Pk} {flow : Int} : ∀ {i : Nat}, i ≤ p.length → ∀ x ∈ selN p flow i, x.1 < i ∧ x.2 = p.getD x.1 pk0 ∧ x.2 ∈ p
  | 0, _, x, h => by simp [selN] at h
  | i + 1, hi, x, h => by
    have ih := selN_mem (p := p) (flow := flow) (i := i) (by omega)
    simp only [selN] at h
    split at h
    · rcases List.mem_append.1 h with h | h
      · have := ih x h; exact ⟨by omega, this.2⟩
      · rw [List.mem_singleton.1 h]; exact ⟨by simp, rfl, getD_memP (by omega)⟩
    · have := ih x h; exact ⟨by omega, this.2⟩
/- sizes that are small -/
def Sml (p : List Pk) : Prop := ∀ x ∈ p, 0 ≤ x.s ∧ x.s ≤ 1000000
theorem bysL_bd {t : Int} : ∀ {l : List (Nat × Pk)}, (∀ x ∈ l, 0 ≤ x.2.s ∧ x.2.s ≤ 1000000) → 0 ≤ bysL t l ∧ bysL t l ≤ 1000000 * l.length
  | [], _ => by simp [bysL]
  | x :: l, h => by
    have h1 := h x (by simp)
    have h2 := bysL_bd (t := t) (l := l) fun y hy => h y (List.mem_cons_of_mem _ hy)
    simp only [bysL, List.length_cons]
    split <;> (push_cast; omega)
theorem sel_bd {p : List Pk} {flow t : Int} (hs : Sml p) (j : Nat) : 0 ≤ bysL t ((selN p flow p.length).take j) ∧ bysL t ((selN p flow p.length).take j) ≤ 1000000 * p.length := by
  have h1 := bysL_bd (t := t) (l := (selN p flow p.length).take j) fun x hx => hs x.2 (selN_mem (Nat.le_refl _) x (List.mem_of_mem_take hx)).2.2
  have h2 := selN_len p flow p.length
  have h3 : ((selN p flow p.length).take j).length ≤ p.length := by rw [List.length_take]; omega
  omega
/-! what is wrong with a trace -/
def bad (x : Pk) : Prop := x.f < 0 ∨ 60 ≤ x.f ∨ x.t < 0 ∨ 2000 < x.t ∨ x.s < 1 ∨ 1500 < x.s
instance (x : Pk) : Decidable (bad x) := inferInstanceAs (Decidable (_ ∨ _))
def lst (p : List Pk) : Nat → Int
  | 0 => 0
  | i + 1 => (p.getD i pk0).t
def vldN (p : List Pk) : Nat → Int
  | 0 => 0
  | i + 1 => if vldN p i ≠ 0 then vldN p i else if bad (p.getD i pk0) then 2 else if (p.getD i pk0).t < lst p i then 7 else 0
def vld (p : List Pk) : Int := if 60 < p.length then 3 else vldN p p.length
theorem vldN_ge {p : List Pk} {i : Nat} : ∀ {m : Nat}, i ≤ m → vldN p i ≠ 0 → vldN p m = vldN p i
  | 0, h, _ => by have : i = 0 := by omega
                  subst this; rfl
  | m + 1, h, hn => by
    by_cases e : i = m + 1
    · subst e; rfl
    · have := vldN_ge (p := p) (i := i) (m := m) (by omega) hn
      simp only [vldN]; rw [if_pos (by rw [this]; exact hn), this]
theorem vldN_zero {p : List Pk} : ∀ {m : Nat}, vldN p m = 0 ↔ ∀ i, i < m → ¬bad (p.getD i pk0) ∧ lst p i ≤ (p.getD i pk0).t
  | 0 => by simp [vldN]
  | m + 1 => by
    have ih := vldN_zero (p := p) (m := m)
    simp only [vldN]
    constructor
    · intro h
      split at h
      · exact absurd h (by assumption)
      · rename_i h0
        split at h
        · cases h
        · split at h
          · cases h
          · rename_i h1 h2
            intro i hi
            by_cases e : i = m
            · subst e; exact ⟨h1, by omega⟩
            · exact ih.1 (by omega) i (by omega)
    · intro h
      have h0 := ih.2 fun i hi => h i (by omega)
      rw [if_neg (by omega), if_neg (h m (by omega)).1, if_neg (by have := (h m (by omega)).2; omega)]
/- a trace that is right -/
structure Vld (p : List Pk) : Prop where
  l : p.length ≤ 60
  g : ∀ i, i < p.length → ¬bad (p.getD i pk0)
  o : ∀ i, i < p.length → lst p i ≤ (p.getD i pk0).t
theorem vld_zero {p : List Pk} : vld p = 0 ↔ Vld p := by
  unfold vld
  constructor
  · intro h
    split at h
    · cases h
    · rename_i hl
      have := vldN_zero.1 h
      exact ⟨by omega, fun i hi => (this i hi).1, fun i hi => (this i hi).2⟩
  · rintro ⟨h1, h2, h3⟩
    rw [if_neg (by omega), vldN_zero]
    exact fun i hi => ⟨h2 i hi, h3 i hi⟩
theorem Vld.mem {p : List Pk} (h : Vld p) : ∀ x ∈ p, ¬bad x := fun x hx => by
  obtain ⟨i, hi, rfl⟩ := List.mem_iff_getElem.1 hx
  have := h.g i hi
  rwa [List.getD_eq_getElem?_getD, List.getElem?_eq_getElem hi] at this
theorem Vld.sml {p : List Pk} (h : Vld p) : Sml p := fun x hx => by
  have := h.mem x hx
  unfold bad at this; omega
/-! sums by ticks -/
def incL (u : Int) : List (Nat × Pk) → Int
  | [] => 0
  | x :: l => (if x.2.t + 1 = u then x.2.s else 0) + incL u l
theorem incL_app (u : Int) : ∀ a b : List (Nat × Pk), incL u (a ++ b) = incL u a + incL u b
  | [], b => by simp [incL]
  | x :: a, b => by simp only [List.cons_append, incL]; rw [incL_app]; omega
theorem incL_take (u : Int) {l : List (Nat × Pk)} {j : Nat} {x : Nat × Pk} (h : l[j]? = some x) : incL u (l.take (j + 1)) = incL u (l.take j) + if x.2.t + 1 = u then x.2.s else 0 := by
  obtain ⟨hj, e⟩ := List.getElem?_eq_some_iff.1 h
  rw [List.take_succ_eq_append_getElem hj, incL_app, e]
  simp [incL]
theorem bysL_inc (u : Int) : ∀ l : List (Nat × Pk), bysL (u + 1) l = bysL u l + incL (u + 1) l
  | [] => rfl
  | x :: l => by
    simp only [bysL, incL]
    rw [bysL_inc u l]
    split <;> split <;> split <;> omega
theorem bysL_zero : ∀ {l : List (Nat × Pk)}, (∀ x ∈ l, 0 ≤ x.2.t) → bysL 0 l = 0 ∧ incL 0 l = 0
  | [], _ => ⟨rfl, rfl⟩
  | x :: l, h => by
    have h1 := h x (by simp)
    have h2 := bysL_zero (l := l) fun y hy => h y (List.mem_cons_of_mem _ hy)
    simp only [bysL, incL]
    rw [if_neg (by omega), if_neg (by omega), h2.1, h2.2]; exact ⟨rfl, rfl⟩
theorem incL_bd {u : Int} : ∀ {l : List (Nat × Pk)}, (∀ x ∈ l, 0 ≤ x.2.s ∧ x.2.s ≤ 1000000) → 0 ≤ incL u l ∧ incL u l ≤ 1000000 * l.length
  | [], _ => by simp [incL]
  | x :: l, h => by
    have h1 := h x (by simp)
    have h2 := incL_bd (u := u) (l := l) fun y hy => h y (List.mem_cons_of_mem _ hy)
    simp only [incL, List.length_cons]
    split <;> (push_cast; omega)
theorem inc_bd {p : List Pk} {flow u : Int} (hs : Sml p) (j : Nat) : 0 ≤ incL u ((selN p flow p.length).take j) ∧ incL u ((selN p flow p.length).take j) ≤ 1000000 * p.length := by
  have h1 := incL_bd (u := u) (l := (selN p flow p.length).take j) fun x hx => hs x.2 (selN_mem (Nat.le_refl _) x (List.mem_of_mem_take hx)).2.2
  have h2 := selN_len p flow p.length
  have h3 : ((selN p flow p.length).take j).length ≤ p.length := by rw [List.length_take]; omega
  omega
open Go.Cv in
theorem vals_set {F : Nat → Int} {n k : Nat} (hk : k < n) (v : Int) : (vals F n).set k v = vals (fun u => if u = k then v else F u) n := by
  apply List.ext_getElem
  · simp [vals]
  · intro i h1 h2
    simp only [vals, List.getElem_set, List.getElem_map, List.getElem_range]
    by_cases e : k = i
    · subst e; simp
    · rw [if_neg e, if_neg (fun h => e h.symm)]
open Go.Cv in
theorem vals_congr {F G : Nat → Int} {n : Nat} (h : ∀ i, i < n → F i = G i) : vals F n = vals G n := by
  unfold vals
  exact List.map_congr_left fun i hi => h i (List.mem_range.1 hi)
end Go.Pk
end
section
namespace Go.St
/-! stable sorting, plainly -/
variable {α : Type}
def insR (k : α → Int) (x : α) : List α → List α
  | [] => [x]
  | y :: r => if k x < k y then y :: insR k x r else x :: y :: r
/- sorted, the last first -/
def srtR (k : α → Int) (l : List α) : List α := l.foldl (fun R x => insR k x R) []
def srt (k : α → Int) (l : List α) : List α := (srtR k l).reverse
theorem srtR_snoc (k : α → Int) (l : List α) (x : α) : srtR k (l ++ [x]) = insR k x (srtR k l) := by simp [srtR]
theorem insR_len (k : α → Int) (x : α) : ∀ R : List α, (insR k x R).length = R.length + 1
  | [] => rfl
  | y :: r => by simp only [insR]; split <;> simp [insR_len k x r]
theorem srtR_len (k : α → Int) (l : List α) : (srtR k l).length = l.length := by
  suffices h : ∀ (l R : List α), (l.foldl (fun R x => insR k x R) R).length = R.length + l.length by simpa [srtR] using h l []
  intro l
  induction l with
  | nil => simp
  | cons x l ih => intro R; simp only [List.foldl_cons, List.length_cons]; rw [ih, insR_len]; omega
theorem srt_len (k : α → Int) (l : List α) : (srt k l).length = l.length := by rw [srt, List.length_reverse, srtR_len]
theorem insR_app {k : α → Int} {x : α} : ∀ {R1 R2 : List α}, (∀ y ∈ R1, k x < k y) → insR k x (R1 ++ R2) = R1 ++ insR k x R2
  | [], _, _ => rfl
  | y :: r, R2, h => by
    simp only [List.cons_append, insR]
    rw [if_pos (h y (by simp)), insR_app fun z hz => h z (List.mem_cons_of_mem _ hz)]
/- where insertion stops -/
theorem insR_stop {k : α → Int} {x : α} {R : List α} {m : Nat} (h : ∀ y ∈ R.take m, k x < k y) (hs : ∀ y, R[m]? = some y → ¬k x < k y) : insR k x R = R.take m ++ x :: R.drop m := by
  have e : R = R.take m ++ R.drop m := (List.take_append_drop m R).symm
  rw [show insR k x R = insR k x (R.take m ++ R.drop m) by rw [← e], insR_app h]
  congr 1
  cases hd : R.drop m with
  | nil => rfl
  | cons y r =>
    have : R[m]? = some y := by
      have := congrArg (·[0]?) hd
      simpa [List.getElem?_drop] using this
    simp only [insR]
    rw [if_neg (hs y this)]
/- the list while x sinks -/
def lay (P R : List α) (x : α) (T : List α) (m : Nat) : List α := P ++ ((R.drop m).reverse ++ x :: ((R.take m).reverse ++ T))
theorem lay_zero (P R : List α) (x : α) (T : List α) : lay P R x T 0 = P ++ (R.reverse ++ x :: T) := by simp [lay]
theorem lay_len (P R : List α) (x : α) (T : List α) (m : Nat) : (lay P R x T m).length = P.length + R.length + 1 + T.length := by
  simp only [lay, List.length_append, List.length_reverse, List.length_cons, List.length_drop, List.length_take]; omega
theorem lay_step (P R : List α) (x : α) (T : List α) {m : Nat} (h : m < R.length) : ∃ A B y, R[m]? = some y ∧ A.length + 1 = P.length + (R.length - m) ∧ lay P R x T m = A ++ y :: x :: B ∧ lay P R x T (m + 1) = A ++ x :: y :: B := by
  refine ⟨P ++ (R.drop (m + 1)).reverse, (R.take m).reverse ++ T, R[m], List.getElem?_eq_getElem h, ?_, ?_, ?_⟩
  · simp only [List.length_append, List.length_reverse, List.length_drop]; omega
  · have e1 : (R.drop m).reverse = (R.drop (m + 1)).reverse ++ [R[m]] := by rw [List.drop_eq_getElem_cons h, List.reverse_cons]
    unfold lay
    rw [e1]
    simp only [List.append_assoc, List.cons_append, List.nil_append]
  · have e2 : (R.take (m + 1)).reverse = R[m] :: (R.take m).reverse := by rw [List.take_succ_eq_append_getElem h, List.reverse_append]; rfl
    unfold lay
    rw [e2]
    simp only [List.append_assoc, List.cons_append]
theorem lay_stop {k : α → Int} (P : List α) {R : List α} {x : α} (T : List α) {m : Nat} (h : ∀ y ∈ R.take m, k x < k y) (hs : ∀ y, R[m]? = some y → ¬k x < k y) : lay P R x T m = P ++ ((insR k x R).reverse ++ T) := by
  rw [insR_stop h hs, lay]; simp
/-! what sorting does -/
def Srt (k : α → Int) : List α → Prop
  | [] => True
  | x :: l => (∀ y ∈ l, k x ≤ k y) ∧ Srt k l
theorem insR_mem {k : α → Int} {x y : α} : ∀ {R : List α}, y ∈ insR k x R ↔ y = x ∨ y ∈ R
  | [] => by simp [insR]
  | z :: r => by
    simp only [insR]
    split
    · rw [List.mem_cons, List.mem_cons, insR_mem]
      constructor
      · rintro (rfl | rfl | h)
        · exact .inr (.inl rfl)
        · exact .inl rfl
        · exact .inr (.inr h)
      · rintro (rfl | rfl | h)
        · exact .inr (.inl rfl)
        · exact .inl rfl
        · exact .inr (.inr h)
    · rw [List.mem_cons]
theorem srtR_mem {k : α → Int} {y : α} (l : List α) : y ∈ srtR k l ↔ y ∈ l := by
  suffices h : ∀ (l R : List α), y ∈ l.foldl (fun R x => insR k x R) R ↔ y ∈ R ∨ y ∈ l by simpa [srtR] using h l []
  intro l
  induction l with
  | nil => simp
  | cons x l ih =>
    intro R
    simp only [List.foldl_cons, List.mem_cons]
    rw [ih, insR_mem]
    constructor
    · rintro ((h | h) | h)
      · exact .inr (.inl h)
      · exact .inl h
      · exact .inr (.inr h)
    · rintro (h | h | h)
      · exact .inl (.inr h)
      · exact .inl (.inl h)
      · exact .inr h
theorem srt_mem {k : α → Int} {y : α} {l : List α} : y ∈ srt k l ↔ y ∈ l := by rw [srt, List.mem_reverse, srtR_mem]
/- sorted downwards, the last first -/
def Dn (k : α → Int) : List α → Prop
  | [] => True
  | x :: l => (∀ y ∈ l, k y ≤ k x) ∧ Dn k l
theorem insR_dn {k : α → Int} {x : α} : ∀ {R : List α}, Dn k R → Dn k (insR k x R)
  | [], _ => ⟨by simp, trivial⟩
  | y :: r, h => by
    simp only [insR]
    split
    · rename_i hxy
      refine ⟨fun z hz => ?_, insR_dn h.2⟩
      rcases insR_mem.1 hz with rfl | hz
      · omega
      · exact h.1 z hz
    · rename_i hxy
      refine ⟨fun z hz => ?_, h⟩
      rcases List.mem_cons.1 hz with rfl | hz
      · omega
      · have := h.1 z hz; omega
theorem srtR_dn (k : α → Int) (l : List α) : Dn k (srtR k l) := by
  suffices h : ∀ (l R : List α), Dn k R → Dn k (l.foldl (fun R x => insR k x R) R) from h l [] trivial
  intro l
  induction l with
  | nil => exact fun _ h => h
  | cons x l ih => exact fun R h => ih _ (insR_dn h)
theorem srt_app_up {k : α → Int} : ∀ {a : List α} {x : α}, Srt k a → (∀ y ∈ a, k y ≤ k x) → Srt k (a ++ [x])
  | [], x, _, _ => ⟨by simp, trivial⟩
  | z :: a, x, h, hx => ⟨fun y hy => by
      rcases List.mem_append.1 hy with hy | hy
      · exact h.1 y hy
      · rw [List.mem_singleton.1 hy]; exact hx z (by simp), srt_app_up h.2 fun y hy => hx y (List.mem_cons_of_mem _ hy)⟩
theorem dn_rev {k : α → Int} : ∀ {R : List α}, Dn k R → Srt k R.reverse
  | [], _ => trivial
  | x :: r, h => by
    rw [List.reverse_cons]
    exact srt_app_up (dn_rev h.2) fun y hy => h.1 y (List.mem_reverse.1 hy)
theorem srt_sorted (k : α → Int) (l : List α) : Srt k (srt k l) := dn_rev (srtR_dn k l)
/- equal keys keep their order -/
theorem insR_filter {k : α → Int} {x : α} (t : Int) : ∀ {R : List α}, Dn k R → (insR k x R).filter (fun y => k y == t) = if k x = t then x :: R.filter (fun y => k y == t) else R.filter (fun y => k y == t)
  | [], _ => by simp only [insR, List.filter_cons, List.filter_nil]; by_cases h : k x = t <;> simp [h]
  | y :: r, h => by
    simp only [insR]
    split
    · rename_i hxy
      rw [List.filter_cons, insR_filter t h.2, List.filter_cons]
      by_cases hx : k x = t
      · rw [if_pos hx, if_pos hx]
        have hy : (k y == t) = false := by simp; omega
        rw [hy]; simp
      · rw [if_neg hx, if_neg hx]
    · rw [List.filter_cons]
      by_cases hx : k x = t
      · rw [if_pos hx, if_pos (by simp [hx])]
      · rw [if_neg hx, if_neg (by simp [hx])]
theorem srt_filter (k : α → Int) (t : Int) (l : List α) : (srt k l).filter (fun y => k y == t) = l.filter (fun y => k y == t) := by
  suffices h : ∀ (l R : List α), Dn k R → (l.foldl (fun R x => insR k x R) R).filter (fun y => k y == t) = (l.filter (fun y => k y == t)).reverse ++ R.filter (fun y => k y == t) by
    have := h l [] trivial
    rw [srt, List.filter_reverse, srtR, this]; simp
  intro l
  induction l with
  | nil => simp
  | cons x l ih =>
    intro R hR
    simp only [List.foldl_cons]
    rw [ih _ (insR_dn hR), insR_filter t hR, List.filter_cons]
    by_cases hx : k x = t
    · rw [if_pos hx, if_pos (by simp [hx])]; simp
    · rw [if_neg hx, if_neg (by simp [hx])]
/- what is sorted stays -/
theorem insR_top {k : α → Int} {x : α} {R : List α} (h : ∀ y ∈ R, k y ≤ k x) : insR k x R = x :: R := by
  cases R with
  | nil => rfl
  | cons y r => simp only [insR]; rw [if_neg (by have := h y (by simp); omega)]
theorem srt_self {k : α → Int} {l : List α} (h : Srt k l) : srt k l = l := by
  suffices h2 : ∀ (l R : List α), Srt k l → (∀ y ∈ R, ∀ x ∈ l, k y ≤ k x) → l.foldl (fun R x => insR k x R) R = l.reverse ++ R by
    have := h2 l [] h (by simp)
    rw [srt, srtR, this]; simp
  intro l
  induction l with
  | nil => simp
  | cons x l ih =>
    intro R hl hR
    simp only [List.foldl_cons]
    rw [insR_top fun y hy => hR y hy x (by simp), ih _ hl.2]
    · simp
    · intro y hy z hz
      rcases List.mem_cons.1 hy with rfl | hy
      · exact hl.1 z hz
      · exact hR y hy z (List.mem_cons_of_mem _ hz)
end Go.St
end
section
namespace Go.Pk
open Go.St
/-! traces that are made are right -/
abbrev ptm (x : Pk) : Int := x.t
theorem srt_get {k : Pk → Int} : ∀ {p : List Pk}, Srt k p → ∀ {i j : Nat}, i < j → j < p.length → k (p.getD i pk0) ≤ k (p.getD j pk0)
  | [], _, i, j, _, h => by simp at h
  | x :: p, h, 0, j + 1, _, hj => h.1 _ (by
      have : j < p.length := by simpa using hj
      show p.getD j pk0 ∈ p
      exact getD_memP this)
  | x :: p, h, i + 1, j + 1, hij, hj => srt_get (p := p) h.2 (i := i) (j := j) (by omega) (by simpa using hj)
theorem vld_of {p : List Pk} (hl : p.length ≤ 60) (hb : ∀ x ∈ p, ¬bad x) (hs : Srt ptm p) : Vld p := ⟨hl, fun i hi => hb _ (getD_memP hi), fun i hi => by
  cases i with
  | zero => have := hb _ (getD_memP hi); unfold bad at this; show (0 : Int) ≤ _; omega
  | succ i => exact srt_get hs (Nat.lt_succ_self i) hi⟩
/- each packet later -/
def late (d : Int) (p : List Pk) : List Pk := p.map fun x => ⟨x.f, x.t + d, x.s⟩
theorem late_len (d : Int) (p : List Pk) : (late d p).length = p.length := by simp [late]
def lt1 (d : Int) (x : Nat × Pk) : Nat × Pk := (x.1, ⟨x.2.f, x.2.t + d, x.2.s⟩)
theorem late_get (d : Int) {p : List Pk} {i : Nat} (h : i < p.length) : (late d p).getD i pk0 = ⟨(p.getD i pk0).f, (p.getD i pk0).t + d, (p.getD i pk0).s⟩ := by
  simp [late, List.getD_eq_getElem?_getD, h]
theorem selN_late (d : Int) (p : List Pk) (flow : Int) : ∀ i, i ≤ p.length → selN (late d p) flow i = (selN p flow i).map (lt1 d)
  | 0, _ => rfl
  | i + 1, h => by
    have e := late_get d (p := p) (i := i) (by omega)
    simp only [selN]
    rw [e, selN_late d p flow i (by omega)]
    by_cases hs : sel flow (p.getD i pk0)
    · rw [if_pos (show sel flow ⟨(p.getD i pk0).f, (p.getD i pk0).t + d, (p.getD i pk0).s⟩ from hs), if_pos hs]; simp [lt1]
    · rw [if_neg (show ¬sel flow ⟨(p.getD i pk0).f, (p.getD i pk0).t + d, (p.getD i pk0).s⟩ from hs), if_neg hs]
theorem bysL_late (d t : Int) : ∀ l : List (Nat × Pk), bysL (t + d) (l.map (lt1 d)) = bysL t l
  | [] => rfl
  | x :: l => by
    simp only [List.map_cons, bysL, lt1]
    rw [bysL_late]
    by_cases h : x.2.t < t
    · rw [if_pos (show x.2.t + d < t + d by omega), if_pos h]
    · rw [if_neg (show ¬x.2.t + d < t + d by omega), if_neg h]
theorem bys_late (d t : Int) (p : List Pk) (flow : Int) : bys (late d p) flow (t + d) = bys p flow t := by
  unfold bys; rw [late_len, selN_late d p flow _ (Nat.le_refl _), bysL_late]
/- the packets of one tick -/
def atT (t : Int) (l : List Pk) : List Pk := l.filter fun x => x.t == t
theorem atT_step (t : Int) {l : List Pk} {i : Nat} (h : i < l.length) : atT t (l.take (i + 1)) = if (l.getD i pk0).t = t then atT t (l.take i) ++ [l.getD i pk0] else atT t (l.take i) := by
  rw [List.take_succ_eq_append_getElem h]
  have e : l.getD i pk0 = l[i] := by simp [List.getD_eq_getElem?_getD, h]
  rw [e]
  unfold atT
  rw [List.filter_append]
  by_cases hx : l[i].t = t
  · rw [if_pos hx]; simp [hx]
  · rw [if_neg hx]; simp [hx]
theorem atT_len (t : Int) (l : List Pk) : (atT t l).length ≤ l.length := List.length_filter_le _ _
/- a mixed list -/
def mix (p : List Pk) (l : List Int) : List Pk := l.map fun i => p.getD i.toNat pk0
theorem mix_step (p : List Pk) {l : List Int} {i : Nat} (h : i < l.length) : mix p (l.take (i + 1)) = mix p (l.take i) ++ [p.getD (l.getD i 0).toNat pk0] := by
  have e : l.getD i 0 = l[i] := by simp [List.getD_eq_getElem?_getD, h]
  rw [List.take_succ_eq_append_getElem h, e, mix, List.map_append]; rfl
end Go.Pk
end
section
namespace Go.St
/-! merging in place, plainly -/
variable {α : Type}
theorem srt_app {k : α → Int} : ∀ {a b : List α}, Srt k (a ++ b) ↔ Srt k a ∧ Srt k b ∧ ∀ x ∈ a, ∀ y ∈ b, k x ≤ k y
  | [], b => by simp [Srt]
  | x :: a, b => by
    simp only [List.cons_append, Srt]
    rw [srt_app (a := a) (b := b)]
    constructor
    · rintro ⟨h1, h2, h3, h4⟩
      refine ⟨⟨fun y hy => h1 y (List.mem_append_left _ hy), h2⟩, h3, fun z hz y hy => ?_⟩
      rcases List.mem_cons.1 hz with rfl | hz
      · exact h1 y (List.mem_append_right _ hy)
      · exact h4 z hz y hy
    · rintro ⟨⟨h1, h2⟩, h3, h4⟩
      refine ⟨fun y hy => ?_, h2, h3, fun z hz => h4 z (List.mem_cons_of_mem _ hz)⟩
      rcases List.mem_append.1 hy with hy | hy
      · exact h1 y hy
      · exact h4 x (by simp) y hy
abbrev flt (k : α → Int) (t : Int) (l : List α) : List α := l.filter fun y => k y == t
theorem flt_cons (k : α → Int) (t : Int) (x : α) (l : List α) : flt k t (x :: l) = if k x = t then x :: flt k t l else flt k t l := by
  unfold flt; rw [List.filter_cons]
  by_cases h : k x = t <;> simp [h]
theorem flt_nil {k : α → Int} {t : Int} {l : List α} (h : ∀ x ∈ l, k x ≠ t) : flt k t l = [] := by
  unfold flt; rw [List.filter_eq_nil_iff]
  intro x hx; simpa using h x hx
theorem mem_flt {k : α → Int} {l : List α} {x : α} (h : x ∈ l) : x ∈ flt k (k x) l := by
  unfold flt; rw [List.mem_filter]; exact ⟨h, by simp⟩
theorem srt_uniq {k : α → Int} : ∀ {a b : List α}, Srt k a → Srt k b → (∀ t, flt k t a = flt k t b) → a = b
  | [], [], _, _, _ => rfl
  | [], y :: b, _, _, h => by
    have := h (k y); rw [flt_cons, if_pos rfl] at this; cases this
  | x :: a, [], _, _, h => by
    have := h (k x); rw [flt_cons, if_pos rfl] at this; cases this
  | x :: a, y :: b, ha, hb, h => by
    have e : k x = k y := by
      have h1 : k x ≤ k y := by
        have m : y ∈ x :: a := by
          have := h (k y)
          have m2 : y ∈ flt k (k y) (x :: a) := by rw [this]; exact mem_flt (by simp)
          exact (List.mem_filter.1 m2).1
        rcases List.mem_cons.1 m with rfl | m
        · exact Int.le_refl _
        · exact ha.1 y m
      have h2 : k y ≤ k x := by
        have m : x ∈ y :: b := by
          have := h (k x)
          have m2 : x ∈ flt k (k x) (y :: b) := by rw [← this]; exact mem_flt (by simp)
          exact (List.mem_filter.1 m2).1
        rcases List.mem_cons.1 m with rfl | m
        · exact Int.le_refl _
        · exact hb.1 x m
      omega
    have h1 := h (k x)
    rw [flt_cons, if_pos rfl, flt_cons, if_pos e.symm] at h1
    have e2 : x = y := (List.cons.inj h1).1
    subst e2
    congr 1
    refine srt_uniq ha.2 hb.2 fun t => ?_
    have := h t
    rw [flt_cons, flt_cons] at this
    split at this
    · exact (List.cons.inj this).2
    · exact this
theorem srt_flt (k : α → Int) (t : Int) (l : List α) : flt k t (srt k l) = flt k t l := srt_filter k t l
theorem eq_srt {k : α → Int} {a l : List α} (h1 : Srt k a) (h2 : ∀ t, flt k t a = flt k t l) : a = srt k l :=
  srt_uniq h1 (srt_sorted k l) fun t => by rw [h2, srt_flt]
theorem flt_app (k : α → Int) (t : Int) (a b : List α) : flt k t (a ++ b) = flt k t a ++ flt k t b := List.filter_append ..
/- the four parts of a merge -/
structure Quart (k : α → Int) (A1 A2 B1 B2 : List α) : Prop where
  a : Srt k (A1 ++ A2)
  b : Srt k (B1 ++ B2)
  lo : ∀ x ∈ A1, ∀ y ∈ B2, k x ≤ k y
  hi : ∀ y ∈ B1, ∀ x ∈ A2, k y < k x
theorem Quart.fl {k : α → Int} {A1 A2 B1 B2 : List α} (h : Quart k A1 A2 B1 B2) (t : Int) : flt k t ((A1 ++ B1) ++ (A2 ++ B2)) = flt k t ((A1 ++ A2) ++ (B1 ++ B2)) := by
  simp only [flt_app, List.append_assoc]
  congr 1
  rw [← List.append_assoc, ← List.append_assoc]
  congr 1
  by_cases e : flt k t B1 = []
  · rw [e]; simp
  · have : flt k t A2 = [] := flt_nil fun x hx hk => by
      obtain ⟨y, hy⟩ := List.exists_mem_of_ne_nil _ e
      have hy := List.mem_filter.1 hy
      have := h.hi y hy.1 x hx
      have e2 : k y = t := by simpa using hy.2
      omega
    rw [this]; simp
theorem Quart.eq {k : α → Int} {A1 A2 B1 B2 : List α} (h : Quart k A1 A2 B1 B2) : srt k (A1 ++ B1) ++ srt k (A2 ++ B2) = srt k ((A1 ++ A2) ++ (B1 ++ B2)) := by
  refine eq_srt ?_ fun t => ?_
  · rw [srt_app]
    refine ⟨srt_sorted _ _, srt_sorted _ _, fun x hx y hy => ?_⟩
    rw [srt_mem] at hx hy
    have ha := (srt_app.1 h.a).2.2
    have hb := (srt_app.1 h.b).2.2
    rcases List.mem_append.1 hx with hx | hx <;> rcases List.mem_append.1 hy with hy | hy
    · exact ha x hx y hy
    · exact h.lo x hx y hy
    · have := h.hi x hx y hy; omega
    · exact hb x hx y hy
  · rw [flt_app, srt_flt, srt_flt, ← flt_app, h.fl]
theorem srt_left {k : α → Int} {a : List α} (h : Srt k a) : srt k (a ++ []) = a := by rw [List.append_nil, srt_self h]
theorem Quart.done1 {k : α → Int} {A2 B1 B2 : List α} (h : Quart k [] A2 B1 B2) : srt k ([] ++ B1) = B1 := by
  rw [List.nil_append, srt_self (srt_app.1 h.b).1]
theorem Quart.done2 {k : α → Int} {A1 A2 B2 : List α} (h : Quart k A1 A2 [] B2) : srt k (A1 ++ []) = A1 := srt_left (srt_app.1 h.a).1
theorem Quart.done3 {k : α → Int} {A1 B1 B2 : List α} (h : Quart k A1 [] B1 B2) : srt k ([] ++ B2) = B2 := by
  rw [List.nil_append, srt_self (srt_app.1 h.b).2.1]
theorem Quart.done4 {k : α → Int} {A1 A2 B1 : List α} (h : Quart k A1 A2 B1 []) : srt k (A2 ++ []) = A2 := srt_left (srt_app.1 h.a).2.1
/- blocks of s that are sorted, below a -/
structure BlkTo (k : α → Int) (s a : Nat) (l : List α) : Prop where
  s : ∀ i j (hi : i < l.length) (hj : j < l.length), i < j → j < a → i / s = j / s → k l[i] ≤ k l[j]
theorem srt_getE {k : α → Int} : ∀ {l : List α}, Srt k l ↔ ∀ i j (hi : i < l.length) (hj : j < l.length), i < j → k l[i] ≤ k l[j]
  | [] => by simp [Srt]
  | x :: l => by
    simp only [Srt]
    rw [srt_getE (l := l)]
    constructor
    · rintro ⟨h1, h2⟩ i j hi hj hij
      cases j with
      | zero => omega
      | succ j =>
        cases i with
        | zero => exact h1 _ (List.getElem_mem _)
        | succ i => exact h2 i j (by simpa using hi) (by simpa using hj) (by omega)
    · intro h
      refine ⟨fun y hy => ?_, fun i j hi hj hij => h (i + 1) (j + 1) (by simpa using hi) (by simpa using hj) (by omega)⟩
      obtain ⟨j, hj, rfl⟩ := List.mem_iff_getElem.1 hy
      exact h 0 (j + 1) (by simp) (by simpa using hj) (by omega)
end Go.St
end
section
namespace Go.Pk
open Go.St Go.Cv
/-! whole packets, plainly -/
def smL (l : List Pk) : Nat → Int
  | 0 => 0
  | j + 1 => smL l j + (l.getD j pk0).s
def bsL (l : List Pk) (n : Int) : Nat → Int
  | 0 => 0
  | j + 1 => if smL l (j + 1) ≤ n then max (bsL l n j) (smL l (j + 1)) else bsL l n j
def msL (l : List Pk) : Nat → Int
  | 0 => 0
  | j + 1 => max (msL l j) (l.getD j pk0).s
def whl (l : List Pk) (n : Int) : Int := bsL l n l.length
theorem smL_bd {l : List Pk} (h : ∀ x ∈ l, 0 ≤ x.s ∧ x.s ≤ 1000000) : ∀ j, j ≤ l.length → 0 ≤ smL l j ∧ smL l j ≤ 1000000 * j
  | 0, _ => by simp [smL]
  | j + 1, hj => by
    have h1 := smL_bd h j (by omega)
    have h2 := h _ (getD_memP (l := l) (i := j) (by omega))
    simp only [smL]; push_cast; omega
theorem bsL_bd {l : List Pk} (h : ∀ x ∈ l, 0 ≤ x.s ∧ x.s ≤ 1000000) {n : Int} (hn : 0 ≤ n) : ∀ j, j ≤ l.length → 0 ≤ bsL l n j ∧ bsL l n j ≤ n ∧ bsL l n j ≤ smL l j
  | 0, _ => by simp [bsL, smL]; omega
  | j + 1, hj => by
    have h1 := bsL_bd h hn j (by omega)
    have h2 := h _ (getD_memP (l := l) (i := j) (by omega))
    have h3 : smL l (j + 1) = smL l j + (l.getD j pk0).s := rfl
    simp only [bsL]
    split <;> omega
theorem msL_bd {l : List Pk} : ∀ j, 0 ≤ msL l j
  | 0 => by simp [msL]
  | j + 1 => by have := msL_bd (l := l) j; simp only [msL]; omega
theorem bsL_low {l : List Pk} (h : ∀ x ∈ l, 0 ≤ x.s ∧ x.s ≤ 1000000) {n : Int} (hn : 0 ≤ n) : ∀ j, j ≤ l.length → bsL l n j = smL l j ∨ n - msL l j < bsL l n j
  | 0, _ => .inl rfl
  | j + 1, hj => by
    have h1 := bsL_low h hn j (by omega)
    have h2 := h _ (getD_memP (l := l) (i := j) (by omega))
    have h3 : smL l (j + 1) = smL l j + (l.getD j pk0).s := rfl
    have h4 := bsL_bd h hn j (by omega)
    have h5 : msL l (j + 1) = max (msL l j) (l.getD j pk0).s := rfl
    simp only [bsL]
    split <;> omega
theorem bsL_mono {l : List Pk} {n n' : Int} (hn : n ≤ n') : ∀ j, bsL l n j ≤ bsL l n' j
  | 0 => by simp [bsL]
  | j + 1 => by
    have h1 := bsL_mono (l := l) hn j
    simp only [bsL]
    split <;> split <;> omega
/-! arrays that are filled -/
def prt {α : Type} (l : List α) (k : Nat) (z : α) : List α := l.take k ++ List.replicate (l.length - k) z
theorem prt_len {α : Type} (l : List α) (k : Nat) (z : α) (h : k ≤ l.length) : (prt l k z).length = l.length := by
  simp only [prt, List.length_append, List.length_take, List.length_replicate]; omega
theorem prt_zero {α : Type} (l : List α) (z : α) : prt l 0 z = List.replicate l.length z := by simp [prt]
theorem prt_full {α : Type} (l : List α) (z : α) : prt l l.length z = l := by simp [prt]
theorem prt_set {α : Type} {l : List α} {k : Nat} {x : α} (z : α) (h : l[k]? = some x) : (prt l k z).set k x = prt l (k + 1) z := by
  obtain ⟨hk, e⟩ := List.getElem?_eq_some_iff.1 h
  have hl : (l.take k).length = k := by rw [List.length_take]; omega
  unfold prt
  rw [List.set_append_right _ _ (by omega), hl, Nat.sub_self, show l.length - k = l.length - (k + 1) + 1 by omega, List.replicate_succ, List.take_succ_eq_append_getElem hk, e]
  simp
theorem prt_get {α : Type} {l : List α} {k : Nat} (z : α) (h : k < l.length) : (prt l k z)[k]? = some z := by
  have hl : (l.take k).length = k := by rw [List.length_take]; omega
  unfold prt
  rw [List.getElem?_append_right (by omega), hl, Nat.sub_self, show l.length - k = l.length - (k + 1) + 1 by omega, List.replicate_succ]
  rfl
end Go.Pk
end
section
namespace Go.Pk
open Go.St Go.Cv
/-! sums that do not depend on the order -/
def sumA {α : Type} (f : α → Int) : List α → Int
  | [] => 0
  | x :: l => f x + sumA f l
theorem sumA_app {α : Type} (f : α → Int) : ∀ a b : List α, sumA f (a ++ b) = sumA f a + sumA f b
  | [], b => by simp [sumA]
  | x :: a, b => by simp only [List.cons_append, sumA]; rw [sumA_app]; omega
theorem sumA_insR {α : Type} (f : α → Int) (k : α → Int) (x : α) : ∀ R : List α, sumA f (insR k x R) = f x + sumA f R
  | [] => rfl
  | y :: r => by
    simp only [insR]
    split
    · simp only [sumA]; rw [sumA_insR f k x r]; omega
    · rfl
theorem sumA_srtR {α : Type} (f : α → Int) (k : α → Int) (l : List α) : sumA f (srtR k l) = sumA f l := by
  suffices h : ∀ (l R : List α), sumA f (l.foldl (fun R x => insR k x R) R) = sumA f R + sumA f l by
    have := h l []
    simpa [srtR, sumA] using this
  intro l
  induction l with
  | nil => intro R; simp [sumA]
  | cons x l ih => intro R; simp only [List.foldl_cons, sumA]; rw [ih, sumA_insR]; omega
theorem sumA_rev {α : Type} (f : α → Int) : ∀ l : List α, sumA f l.reverse = sumA f l
  | [] => rfl
  | x :: l => by rw [List.reverse_cons, sumA_app, sumA_rev f l]; simp only [sumA]; omega
theorem sumA_srt {α : Type} (f : α → Int) (k : α → Int) (l : List α) : sumA f (srt k l) = sumA f l := by rw [srt, sumA_rev, sumA_srtR]
theorem sumA_map {α β : Type} (f : β → Int) (g : α → β) : ∀ l : List α, sumA f (l.map g) = sumA (fun a => f (g a)) l
  | [] => rfl
  | x :: l => by simp only [List.map_cons, sumA]; rw [sumA_map f g l]
abbrev bef (t : Int) (x : Pk) : Int := if x.t < t then x.s else 0
theorem bys_all (q : List Pk) (t : Int) : bys q (-1) t = sumA (bef t) q := by
  suffices h : ∀ i, i ≤ q.length → bysL t (selN q (-1) i) = sumA (bef t) (q.take i) by
    have := h q.length (Nat.le_refl _)
    rw [List.take_length] at this; exact this
  intro i
  induction i with
  | zero => intro _; rfl
  | succ i ih =>
    intro hi
    obtain ⟨h1, _⟩ := selN_step q (-1) i
    rw [h1 (.inl rfl), bysL_app, ih (by omega), List.take_succ_eq_append_getElem (by omega), sumA_app]
    have e : q.getD i pk0 = q[i] := by simp [List.getD_eq_getElem?_getD, show i < q.length by omega]
    simp only [bysL, sumA, e, bef]
theorem srt_map {k : Pk → Int} {α : Type} {g : α → Pk} : ∀ {l : List α}, Srt (fun a => k (g a)) l → Srt k (l.map g)
  | [], _ => trivial
  | x :: l, h => ⟨fun y hy => by
      obtain ⟨z, hz, rfl⟩ := List.mem_map.1 hy
      exact h.1 z hz, srt_map h.2⟩
end Go.Pk
end
section
namespace Go.Cv
/-! hop curves, plainly -/
def hpf (f : C3) (m : Int) (t : Nat) : Int := if t = 0 then 0 else if infAt f.1 (t - 1) then INF else max 0 (cv f (t - 1) - (m - 1))
theorem infAt_congr {f a : C3} (hf : VC f) (ha : VC a) (h : ∀ t, cv a t = cv f t) (t : Nat) : infAt a.1 t ↔ infAt f.1 t := by
  rw [ha.inf_clip, hf.inf_clip, h]
theorem hpf_congr {f a : C3} (hf : VC f) (ha : VC a) (h : ∀ t, cv a t = cv f t) (m : Int) : hpf a m = hpf f m := by
  funext t; unfold hpf; simp only [h, infAt_congr hf ha h]
theorem inf_small {a : C3} (ha : VC a) {t : Nat} (h : infAt a.1 (t + 1)) (hn : ¬infAt a.1 t) : cv a t ≤ 2000000000000000 := by
  have hf : ¬FinC a := fun hf => hf.not ha _ h
  have : t < a.1.length - 1 := Classical.byContradiction fun hx => hn (inf_late hf (by omega))
  exact cv_small ha (by have := ha.n2; omega) hn
theorem hpf_mono {a : C3} (ha : VC a) {m : Int} (hm : 1 ≤ m) : Mono (hpf a m) := by
  intro t
  unfold hpf
  rw [if_neg (show ¬t + 1 = 0 by omega), Nat.add_sub_cancel]
  split
  · split
    · decide
    · omega
  · rename_i ht
    obtain ⟨u, rfl⟩ : ∃ u, t = u + 1 := ⟨t - 1, by omega⟩
    rw [Nat.add_sub_cancel]
    split
    · rw [if_pos (ha.infAt_mono (Nat.le_succ u) (by assumption))]; exact Int.le_refl _
    · split
      · have := inf_small ha (t := u) (by assumption) (by assumption)
        simp only [INF]; omega
      · have := ha.mono' u
        have e : cv a u ≤ cv a (u + 1) := this
        omega
theorem hpf_bd {a : C3} (ha : VC a) {m : Int} (hm : 1 ≤ m) {t : Nat} (ht : t ≤ 1048576) : 0 ≤ hpf a m t ∧ hpf a m t ≤ INF := by
  unfold hpf
  split
  · decide
  · split
    · decide
    · have := cv_small ha (t := t - 1) (by omega) (by assumption)
      simp only [INF]; omega
theorem hpf_inf {a : C3} (ha : VC a) {m : Int} (hm : 1 ≤ m) {t : Nat} (ht : t ≤ 1048576) : hpf a m t = INF ↔ t ≠ 0 ∧ infAt a.1 (t - 1) := by
  unfold hpf
  split
  · rename_i h; simp only [INF]; constructor
    · intro h; cases h
    · rintro ⟨h1, _⟩; exact absurd h h1
  · rename_i h
    split
    · rename_i h2; exact ⟨fun _ => ⟨h, h2⟩, fun _ => rfl⟩
    · rename_i h2
      have := cv_small ha (t := t - 1) (by omega) h2
      constructor
      · intro h3; simp only [INF] at h3; omega
      · rintro ⟨_, h3⟩; exact absurd h3 h2
theorem hpf_late {a : C3} (ha : VC a) {m : Int} (hm : 1 ≤ m) {s : Nat} (hs : s ≤ 1048576) (h : hpf a m s = INF) : ∀ t, s ≤ t → hpf a m t = INF := by
  intro t ht
  obtain ⟨h1, h2⟩ := (hpf_inf ha hm hs).1 h
  unfold hpf
  rw [if_neg (by omega), if_pos (ha.infAt_mono (by omega) h2)]
theorem hpf_per {a : C3} (ha : VC a) (fa : FinC a) {m : Int} {s : Nat} (h1 : a.1.length - a.2.1 + 1 ≤ s) (h2 : a.2.2 = 0 ∨ m - 1 ≤ cv a (s - 1)) : Per (hpf a m) s a.2.1 a.2.2 := by
  intro t ht
  have hp := ha.per (t - 1) (by omega)
  have hp2 : cv a (t + a.2.1 - 1) = cv a (t - 1) + a.2.2 := by rw [show t + a.2.1 - 1 = t - 1 + a.2.1 by omega]; exact hp
  have hle := ha.cvle (s := s - 1) (t := t - 1) (by omega)
  unfold hpf
  rw [if_neg (show ¬t + a.2.1 = 0 by omega), if_neg (show ¬t = 0 by omega), if_neg (fa.not ha _), if_neg (fa.not ha _), hp2]
  have := ha.q0
  omega
theorem q_pos {f a : C3} (hf : VC f) (ha : VC a) (h : ∀ t, cv a t = cv f t) : 0 < a.2.2 ↔ 0 < f.2.2 := by
  have e : cv a = cv f := funext h
  have h1 := ha.per
  have h2 := hf.per
  rw [show val a.1 a.2.1 a.2.2 = val f.1 f.2.1 f.2.2 from e] at h1
  have h3 := h1.mul f.2.1
  have h4 := h2.mul a.2.1
  rw [Nat.mul_comm] at h4
  have h5 := h3.uniq h4
  have p1 := hf.p1
  have p2 := ha.p1
  have q1 := hf.q0
  have q2 := ha.q0
  constructor
  · intro h
    have : 0 < (f.2.1 : Int) * a.2.2 := Int.mul_pos (by omega) h
    rw [h5] at this
    rcases Int.lt_or_eq_of_le q1 with h | h
    · exact h
    · rw [← h, Int.mul_zero] at this; omega
  · intro h
    have : 0 < (a.2.1 : Int) * f.2.2 := Int.mul_pos (by omega) h
    rw [← h5] at this
    rcases Int.lt_or_eq_of_le q2 with h | h
    · exact h
    · rw [← h, Int.mul_zero] at this; omega
/- what Hop returns -/
def HopR (f : C3) (m : Int) (x : List Int × Int × Int × Int) : Prop := ((0 < f.2.2 ∧ cv f 399 < m - 1) ∧ x = ([], 0, 0, 3)) ∨ (¬(0 < f.2.2 ∧ cv f 399 < m - 1) ∧ MkP (hpf f m) x)
end Go.Cv
end
section
namespace Go.Cv
/-! curves that are later, or lower -/
def lat (f : C3) (t : Nat) : Int := if t = 0 then 0 else cv f (t - 1)
def lwr (f : C3) (c : Int) (t : Nat) : Int := if infAt f.1 t then INF else max 0 (cv f t - c)
theorem lat_congr {f a : C3} (h : ∀ t, cv a t = cv f t) : lat a = lat f := by funext t; unfold lat; simp only [h]
theorem lwr_congr {f a : C3} (hf : VC f) (ha : VC a) (h : ∀ t, cv a t = cv f t) (c : Int) : lwr a c = lwr f c := by
  funext t; unfold lwr; simp only [h, infAt_congr hf ha h]
theorem lat_mono {a : C3} (ha : VC a) : Mono (lat a) := by
  intro t
  unfold lat
  rw [if_neg (show ¬t + 1 = 0 by omega), Nat.add_sub_cancel]
  split
  · exact ha.nonneg _
  · rename_i h
    obtain ⟨u, rfl⟩ : ∃ u, t = u + 1 := ⟨t - 1, by omega⟩
    rw [Nat.add_sub_cancel]; exact ha.mono' u
theorem lat_per {a : C3} (ha : VC a) {s : Nat} (h : a.1.length - a.2.1 + 1 ≤ s) : Per (lat a) s a.2.1 a.2.2 := by
  intro t ht
  unfold lat
  rw [if_neg (show ¬t + a.2.1 = 0 by omega), if_neg (show ¬t = 0 by omega), show t + a.2.1 - 1 = t - 1 + a.2.1 by omega]
  exact ha.per (t - 1) (by omega)
theorem lwr_per {a : C3} (ha : VC a) (fa : FinC a) {c : Int} {s : Nat} (h1 : a.1.length - a.2.1 ≤ s) (h2 : a.2.2 = 0 ∨ c ≤ cv a s) : Per (lwr a c) s a.2.1 a.2.2 := by
  intro t ht
  have hp : cv a (t + a.2.1) = cv a t + a.2.2 := ha.per t (by omega)
  have hle := ha.cvle (s := s) (t := t) ht
  unfold lwr
  rw [if_neg (fa.not ha _), if_neg (fa.not ha _), hp]
  have := ha.q0
  omega
theorem per_pos {F : Nat → Int} {s p s' p' : Nat} {q q' : Int} (h1 : Per F s p q) (h2 : Per F s' p' q') (p1 : 1 ≤ p) (p2 : 1 ≤ p') (q1 : 0 ≤ q) (q2 : 0 ≤ q') : 0 < q ↔ 0 < q' := by
  have h3 := h1.mul p'
  have h4 := h2.mul p
  rw [Nat.mul_comm] at h4
  have h5 := h3.uniq h4
  constructor
  · intro h
    have : 0 < (p' : Int) * q := Int.mul_pos (by omega) h
    rw [h5] at this
    rcases Int.lt_or_eq_of_le q2 with h | h
    · exact h
    · rw [← h, Int.mul_zero] at this; omega
  · intro h
    have : 0 < (p : Int) * q' := Int.mul_pos (by omega) h
    rw [← h5] at this
    rcases Int.lt_or_eq_of_le q1 with h | h
    · exact h
    · rw [← h, Int.mul_zero] at this; omega
theorem lat_inf {f c : C3} (hf : VC f) (hc : VC c) (h : ∀ t, cv c t = lat f t) (t : Nat) : infAt c.1 t ↔ t ≠ 0 ∧ infAt f.1 (t - 1) := by
  rw [hc.inf_clip, h, infAt_clip (vs := f.1) (n := 999) (by have := hf.n2; omega)]
  unfold lat
  by_cases e : t = 0
  · subst e; simp [INF]
  · rw [if_neg (by omega), show min t 1000 - 1 = min (t - 1) 999 by omega]
    have := hf.inf_iff (t := min (t - 1) 999) (by omega)
    constructor
    · intro h; exact ⟨e, this.1 h⟩
    · rintro ⟨_, h⟩; exact this.2 h
/- lower and later: the hop curve -/
theorem lwr_lat {f c : C3} (hf : VC f) (hc : VC c) (h : ∀ t, cv c t = lat f t) {m : Int} (hm : 1 ≤ m) : lwr c (m - 1) = hpf f m := by
  funext t
  unfold lwr hpf
  simp only [lat_inf hf hc h, h, lat]
  by_cases e : t = 0
  · subst e; simp; omega
  · simp only [e, if_false, ne_eq, not_false_eq_true, true_and]
theorem hop_inf {f c : C3} (hf : VC f) (hc : VC c) {m : Int} (hm : 1 ≤ m) (h : ∀ t, cv c t = hpf f m t) (t : Nat) : infAt c.1 t ↔ t ≠ 0 ∧ infAt f.1 (t - 1) := by
  rw [hc.inf_clip, h, hpf_inf hf hm (by omega), infAt_clip (vs := f.1) (n := 999) (by have := hf.n2; omega), infAt_clip (vs := f.1) (t := t - 1) (n := 999) (by have := hf.n2; omega)]
  by_cases e : t = 0
  · subst e; simp
  · rw [show min (min t 1000 - 1) 999 = min (t - 1) 999 by omega]
    constructor
    · rintro ⟨_, h⟩; exact ⟨e, h⟩
    · rintro ⟨_, h⟩; exact ⟨by omega, h⟩
/- hop curves are greater for greater curves and lesser packets -/
theorem hop_leq {f g c d : C3} (hf : VC f) (hg : VC g) (hc : VC c) (hd : VC d) {m n : Int} (hm : 1 ≤ m) (hn : 1 ≤ n) (e1 : ∀ t, cv c t = hpf f m t) (e2 : ∀ t, cv d t = hpf g n t) (h : Leq f g) (hmn : n ≤ m) : Leq c d := by
  refine Leq.mk fun t ht => ?_
  have h1 : ¬infAt c.1 t := fun hx => ht ((hop_inf hg hd hn e2 t).2 (by
    obtain ⟨h2, h3⟩ := (hop_inf hf hc hm e1 t).1 hx
    exact ⟨h2, h.inf h3⟩))
  refine ⟨h1, ?_⟩
  rw [e1, e2]
  unfold hpf
  by_cases e : t = 0
  · rw [if_pos e, if_pos e]; exact Int.le_refl _
  · have h4 : ¬infAt g.1 (t - 1) := fun hx => ht ((hop_inf hg hd hn e2 t).2 ⟨e, hx⟩)
    have h5 : ¬infAt f.1 (t - 1) := fun hx => h4 (h.inf hx)
    rw [if_neg e, if_neg e, if_neg h4, if_neg h5]
    have := h.le h4
    omega
end Go.Cv
namespace Go.Cv
theorem lat_late {a : C3} (ha : VC a) {m : Nat} (hm : m ≤ 1048576) (h : lat a m = INF) : ∀ t, m ≤ t → lat a t = INF := by
  intro t ht
  unfold lat at h ⊢
  by_cases e : m = 0
  · rw [if_pos e] at h; cases h
  · rw [if_neg e] at h
    have h1 := (ha.inf_iff (t := m - 1) (by omega)).1 h
    have hf : ¬FinC a := fun hf => hf.not ha _ h1
    rw [if_neg (by omega)]
    exact (inf_late_cv ha hf).1 (ha.infAt_mono (by omega) h1)
theorem lat_end {a : C3} (ha : VC a) (hf : ¬FinC a) : lat a a.1.length = INF := by
  have := ha.n1
  unfold lat
  rw [if_neg (by omega)]
  exact (inf_late_cv ha hf).1 (inf_late hf (Nat.le_refl _))
theorem lat_val {a : C3} (ha : VC a) {t : Nat} (ht : t < a.1.length + 1) : lat a t = INF ∨ (0 ≤ lat a t ∧ lat a t ≤ 1073741824) := by
  unfold lat
  split
  · exact .inr (by decide)
  · unfold cv; rw [val_lt (by omega)]; exact ha.v _ (by omega)
theorem exists_least {P : Nat → Prop} {n : Nat} (h : P n) : ∃ m, m ≤ n ∧ P m ∧ ∀ t, t < m → ¬P t := by
  induction n using Nat.strongRecOn with
  | _ n ih =>
    by_cases hx : ∃ t, t < n ∧ P t
    · obtain ⟨t, h1, h2⟩ := hx
      obtain ⟨m, h3, h4⟩ := ih t h1 h2
      exact ⟨m, by omega, h4⟩
    · exact ⟨n, Nat.le_refl _, h, fun t ht hp => hx ⟨t, ht, hp⟩⟩
theorem lat_fits {a : C3} (ha : VC a) (hl : a.1.length ≤ 300) {x : List Int × Int × Int × Int} (h : MkP (lat a) x) : x.2.2.2 = 0 := by
  rcases h with ⟨_, _, _, _, _, rfl⟩ | ⟨hno, rfl⟩
  · rfl
  exfalso
  by_cases fa : FinC a
  · obtain ⟨c, h1, h2, _⟩ := vf_exists (F := lat a) (s := a.1.length - a.2.1 + 1) (n := a.2.1) (Q := a.2.2) ha.p1 (lat_per ha (Nat.le_refl _)) (by unfold lat; rw [if_pos rfl]; decide) (lat_mono ha) (by have := ha.pn; omega) ha.p2 ha.q1 (fun t ht => by
      have h1 := ha.pn
      rcases lat_val ha (t := t) (by omega) with h2 | h2
      · exfalso
        unfold lat at h2
        split at h2
        · cases h2
        · exact fa.not ha _ ((ha.inf_iff (t := t - 1) (by have := ha.n2; omega)).1 h2)
      · exact h2.2)
    exact hno _ _ _ h1 h2
  · obtain ⟨m, hle, hm, hlt⟩ := exists_least (P := fun m => lat a m = INF) (lat_end ha fa)
    have hn := NF.inf (F := lat a) (m := m) (lat_late ha (by omega) hm) hlt
    refine hno _ _ _ hn ⟨by rw [vals_len]; omega, by rw [vals_len]; omega, by decide, by decide, by rw [vals_len]; omega, by decide, by decide, fun j hj => ?_, fun j k hjk hk => ?_, fun _ => ⟨rfl, rfl⟩, fun hx => ?_⟩
    · rw [vals_len] at hj; rw [vals_get hj]; exact lat_val ha (by omega)
    · rw [vals_len] at hk; rw [vals_get (by omega), vals_get hk]; exact (lat_mono ha).le hjk
    · exfalso; apply hx; rw [vals_len, vals_get (by omega)]; exact hm
theorem lat_nf_pos {f c : C3} (hf : VC f) (hc : VC c) (h : ∀ t, cv c t = lat f t) : 0 < c.2.2 ↔ 0 < f.2.2 := by
  have e : val c.1 c.2.1 c.2.2 = lat f := funext h
  have h1 := hc.per
  rw [e] at h1
  exact per_pos h1 (lat_per hf (Nat.le_refl _)) hc.p1 hf.p1 hc.q0 hf.q0
theorem lwr_bd {a : C3} (ha : VC a) {c : Int} (hc : 0 ≤ c) {t : Nat} (ht : t ≤ 1048576) : 0 ≤ lwr a c t ∧ lwr a c t ≤ INF := by
  unfold lwr
  split
  · decide
  · have := cv_small ha ht (by assumption)
    simp only [INF]; omega
theorem lwr_late {a : C3} (ha : VC a) {c : Int} (hc : 0 ≤ c) {m : Nat} (hm : m ≤ 1048576) (h : lwr a c m = INF) : ∀ t, m ≤ t → lwr a c t = INF := by
  intro t ht
  have hi : infAt a.1 m := Classical.byContradiction fun hx => by
    unfold lwr at h
    rw [if_neg hx] at h
    have := cv_small ha hm hx
    simp only [INF] at h; omega
  unfold lwr; rw [if_pos (ha.infAt_mono ht hi)]
theorem lwr_end {a : C3} (ha : VC a) (hf : ¬FinC a) {c : Int} : lwr a c a.1.length = INF := by
  unfold lwr; rw [if_pos (inf_late hf (by omega))]
/- what Lower returns -/
def LwrR (f : C3) (c : Int) (x : List Int × Int × Int × Int) : Prop := ((0 < f.2.2 ∧ cv f 400 < c) ∧ x = ([], 0, 0, 3)) ∨ (¬(0 < f.2.2 ∧ cv f 400 < c) ∧ MkP (lwr f c) x)
theorem HopR.uniq {f : C3} {m : Int} {x y} (h : HopR f m x) (h' : HopR f m y) : x = y := by
  rcases h with ⟨h1, rfl⟩ | ⟨h1, h2⟩ <;> rcases h' with ⟨h3, rfl⟩ | ⟨h3, h4⟩
  · rfl
  · exact absurd h1 h3
  · exact absurd h3 h1
  · exact h2.uniq h4
theorem LwrR.hop {f c : C3} (hf : VC f) (hc : VC c) (h : ∀ t, cv c t = lat f t) {m : Int} (hm : 1 ≤ m) {x} (hx : LwrR c (m - 1) x) : HopR f m x := by
  have e1 := lat_nf_pos hf hc h
  have e2 : cv c 400 = cv f 399 := by rw [h]; rfl
  rw [LwrR, e1, e2, lwr_lat hf hc h hm] at hx
  exact hx
end Go.Cv
end
section
namespace Go.Pk
open Go.Cv Go.St
/-! the theorem of the hop, plainly -/
theorem smL_mono {p : List Pk} (h : ∀ x ∈ p, 0 ≤ x.s) : ∀ {i j : Nat}, i ≤ j → j ≤ p.length → smL p i ≤ smL p j := by
  intro i j hij hj
  induction j with
  | zero => rw [show i = 0 by omega]; exact Int.le_refl _
  | succ j ih =>
    by_cases e : i = j + 1
    · subst e; exact Int.le_refl _
    · have h1 := ih (by omega) (by omega)
      have h2 := h _ (getD_memP (l := p) (i := j) (by omega))
      simp only [smL]; omega
theorem smL_lt {p : List Pk} (h : ∀ x ∈ p, 1 ≤ x.s) {i j : Nat} (hij : smL p i ≤ smL p j) (hi : i ≤ p.length) (hj : j ≤ p.length) : i ≤ j := by
  apply Classical.byContradiction
  intro hx
  have h1 := smL_mono (p := p) (fun x hx => by have := h x hx; omega) (i := j + 1) (j := i) (by omega) hi
  have h2 := h _ (getD_memP (l := p) (i := j) (by omega))
  have h3 : smL p (j + 1) = smL p j + (p.getD j pk0).s := rfl
  omega
theorem vld_le {p : List Pk} (hv : Vld p) {i j : Nat} (hij : i ≤ j) (hj : j < p.length) : (p.getD i pk0).t ≤ (p.getD j pk0).t := by
  induction j with
  | zero => rw [show i = 0 by omega]; exact Int.le_refl _
  | succ j ih =>
    by_cases e : i = j + 1
    · subst e; exact Int.le_refl _
    · have h1 := ih (by omega) (by omega)
      have h2 := hv.o (j + 1) hj
      simp only [lst] at h2
      omega
/- arrivals are sums of first packets -/
theorem arr_pre {p : List Pk} (hv : Vld p) (t : Int) : ∃ m, m ≤ p.length ∧ bys p (-1) t = smL p m ∧ ∀ j, j < m → (p.getD j pk0).t < t := by
  suffices h : ∀ i, i ≤ p.length → ∃ m, m ≤ i ∧ bysL t (selN p (-1) i) = smL p m ∧ (∀ j, j < m → (p.getD j pk0).t < t) ∧ ∀ j, m ≤ j → j < i → t ≤ (p.getD j pk0).t by
    obtain ⟨m, h1, h2, h3, _⟩ := h _ (Nat.le_refl _)
    exact ⟨m, h1, h2, h3⟩
  intro i
  induction i with
  | zero => intro _; exact ⟨0, Nat.le_refl _, rfl, fun j hj => by omega, fun j _ hj => by omega⟩
  | succ i ih =>
    intro hi
    obtain ⟨m, h1, h2, h3, h4⟩ := ih (by omega)
    have hs := (selN_step p (-1) i).1 (.inl rfl)
    rw [hs, bysL_app, h2]
    by_cases hx : (p.getD i pk0).t < t
    · have hm : m = i := by
        apply Classical.byContradiction
        intro hne
        have := h4 m (Nat.le_refl _) (by omega)
        have := vld_le hv (i := m) (j := i) (by omega) (by omega)
        omega
      subst hm
      refine ⟨m + 1, Nat.le_refl _, ?_, fun j hj => ?_, fun j h5 h6 => by omega⟩
      · simp only [bysL, smL]; rw [if_pos hx]; omega
      · by_cases e : j = m
        · subst e; exact hx
        · exact h3 j (by omega)
    · refine ⟨m, by omega, ?_, h3, fun j h5 h6 => ?_⟩
      · simp only [bysL]; rw [if_neg hx]; omega
      · by_cases e : j = i
        · subst e; omega
        · exact h4 j h5 (by omega)
/- what the curve asks for -/
def ndk (A F : Nat → Int) (t : Nat) : Nat → Int
  | 0 => A t
  | k + 1 => min (ndk A F t k) (A k + F (t - k))
theorem ndk_le (A F : Nat → Int) (t : Nat) : ∀ k, ndk A F t k ≤ A t
  | 0 => Int.le_refl _
  | k + 1 => by have := ndk_le A F t k; simp only [ndk]; omega
theorem ndk_at {A F : Nat → Int} (h0 : F 0 = 0) (t : Nat) : ∀ k, k ≤ t → ∃ u, u ≤ t ∧ ndk A F t k = A u + F (t - u)
  | 0, _ => ⟨t, Nat.le_refl _, by simp [ndk, h0]⟩
  | k + 1, hk => by
    obtain ⟨u, h1, h2⟩ := ndk_at (A := A) h0 t k (by omega)
    simp only [ndk]
    by_cases h : ndk A F t k ≤ A k + F (t - k)
    · exact ⟨u, h1, by rw [← h2]; omega⟩
    · exact ⟨k, by omega, by omega⟩
/- bytes that are sent, up to a tick -/
structure Snt (A F S : Nat → Int) (T : Nat) : Prop where
  z : S 0 = 0
  m : ∀ t, t < T → S t ≤ S (t + 1)
  a : ∀ t, t ≤ T → S t ≤ A t
  n : ∀ t, t ≤ T → ndk A F t t ≤ S t
theorem Snt.mono {A F S : Nat → Int} {T : Nat} (h : Snt A F S T) : ∀ {s t : Nat}, s ≤ t → t ≤ T → S s ≤ S t := by
  intro s t hst htT
  induction t with
  | zero => rw [show s = 0 by omega]; exact Int.le_refl _
  | succ t ih =>
    by_cases e : s = t + 1
    · subst e; exact Int.le_refl _
    · have := ih (by omega) (by omega); have := h.m t (by omega); omega
/- when packets are finished, up to a tick -/
def DnP (p : List Pk) (S : Nat → Int) (T : Nat) (d : List Int) (i : Nat) : Prop :=
  (d.getD i 0 = -1 ∧ S T < smL p (i + 1)) ∨ (∃ u : Nat, 1 ≤ u ∧ u ≤ T ∧ d.getD i 0 = (u : Int) - 1 ∧ smL p (i + 1) ≤ S u ∧ S (u - 1) < smL p (i + 1))
def dnS (p : List Pk) (d : List Int) (n : Int) : Nat → Int
  | 0 => 0
  | i + 1 => if 0 ≤ d.getD i 0 ∧ d.getD i 0 + 1 < n then dnS p d n i + (p.getD i pk0).s else dnS p d n i
/- what arrives at the next line is a sum of first packets -/
theorem dnS_pre {p : List Pk} (hs : ∀ x ∈ p, 1 ≤ x.s) {A F S : Nat → Int} {T : Nat} (hS : Snt A F S T) {d : List Int} (hd : ∀ i, i < p.length → DnP p S T d i) {t : Nat} (ht1 : 1 ≤ t) (ht : t ≤ T + 1) :
    ∃ W, W ≤ p.length ∧ dnS p d t p.length = smL p W ∧ smL p W ≤ S (t - 1) ∧ (W = p.length ∨ S (t - 1) < smL p (W + 1)) := by
  have hc : ∀ i, i < p.length → ((0 ≤ d.getD i 0 ∧ d.getD i 0 + 1 < (t : Int)) ↔ smL p (i + 1) ≤ S (t - 1)) := fun i hi => by
    rcases hd i hi with ⟨h1, h2⟩ | ⟨u, h1, h2, h3, h4, h5⟩
    · have := hS.mono (s := t - 1) (t := T) (by omega) (Nat.le_refl _)
      omega
    · constructor
      · intro h
        have := hS.mono (s := u) (t := t - 1) (by omega) (by omega)
        omega
      · intro h
        refine ⟨by omega, ?_⟩
        apply Classical.byContradiction
        intro hx
        have := hS.mono (s := t - 1) (t := u - 1) (by omega) (by omega)
        omega
  have h0 : 0 ≤ S (t - 1) := by have := hS.mono (s := 0) (t := t - 1) (by omega) (by omega); rw [hS.z] at this; exact this
  have hsm := fun {i j : Nat} (h1 : i ≤ j) (h2 : j ≤ p.length) => smL_mono (p := p) (fun x hx => by have := hs x hx; omega) h1 h2
  suffices h : ∀ i, i ≤ p.length → ∃ W, W ≤ i ∧ dnS p d t i = smL p W ∧ smL p W ≤ S (t - 1) ∧ (W = i ∨ S (t - 1) < smL p (W + 1)) from h _ (Nat.le_refl _)
  intro i
  induction i with
  | zero => intro _; exact ⟨0, Nat.le_refl _, rfl, h0, .inl rfl⟩
  | succ i ih =>
    intro hi
    obtain ⟨W, h1, h2, h3, h4⟩ := ih (by omega)
    have hci := hc i (by omega)
    simp only [dnS]
    by_cases hx : smL p (i + 1) ≤ S (t - 1)
    · have hW : W = i := by
        rcases h4 with h4 | h4
        · exact h4
        · by_cases e : W = i
          · exact e
          · exfalso
            have := hsm (i := W + 1) (j := i + 1) (by omega) hi
            omega
      subst hW
      rw [if_pos (hci.2 hx)]
      exact ⟨W + 1, Nat.le_refl _, by rw [h2]; rfl, hx, .inl rfl⟩
    · rw [if_neg (fun h => hx (hci.1 h))]
      refine ⟨W, by omega, h2, h3, .inr ?_⟩
      rcases h4 with h4 | h4
      · subst h4; omega
      · exact h4
/- the theorem of the hop -/
theorem hop_thm {p : List Pk} (hv : Vld p) {F S : Nat → Int} {T : Nat} (hF : ∀ t, 0 ≤ F t) (hF0 : F 0 = 0) (hS : Snt (fun t => bys p (-1) t) F S T) {d : List Int} (hd : ∀ i, i < p.length → DnP p S T d i) {most : Int} (hm : 1 ≤ most) (hms : ∀ x ∈ p, x.s ≤ most)
    {H : Nat → Int} (hH0 : H 0 = 0) (hH : ∀ k, H (k + 1) = max 0 (F k - (most - 1))) (t : Nat) (ht : t ≤ T + 1) : ∃ u, u ≤ t ∧ bys p (-1) u + H (t - u) ≤ dnS p d t p.length := by
  have hs1 : ∀ x ∈ p, 1 ≤ x.s := fun x hx => by have := hv.mem x hx; unfold bad at this; omega
  have hsm := fun {i j : Nat} (h1 : i ≤ j) (h2 : j ≤ p.length) => smL_mono (p := p) (fun x hx => by have := hs1 x hx; omega) h1 h2
  by_cases ht0 : t = 0
  · subst ht0
    refine ⟨0, Nat.le_refl _, ?_⟩
    obtain ⟨m, h1, h2, h3⟩ := arr_pre hv ((0 : Nat) : Int)
    have hm0 : m = 0 := by
      apply Classical.byContradiction
      intro hne
      have h4 := h3 0 (by omega)
      have h5 := hv.g 0 (by omega)
      unfold bad at h5
      omega
    subst hm0
    have hz : ∀ i, dnS p d ((0 : Nat) : Int) i = 0 := by
      intro i
      induction i with
      | zero => rfl
      | succ i ih => simp only [dnS]; rw [if_neg (by omega), ih]
    rw [hz, h2, Nat.sub_self, hH0]
    exact Int.le_refl _
  · obtain ⟨W, w1, w2, w3, w4⟩ := dnS_pre hs1 hS hd (t := t) (by omega) ht
    rw [w2]
    rcases w4 with w4 | w4
    · refine ⟨t, Nat.le_refl _, ?_⟩
      obtain ⟨m, h1, h2, _⟩ := arr_pre hv (t : Int)
      have := hsm (i := m) (j := p.length) h1 (Nat.le_refl _)
      rw [h2, Nat.sub_self, hH0, w4]; omega
    · obtain ⟨u, u1, u2⟩ := ndk_at (A := fun t => bys p (-1) t) hF0 (t - 1) (t - 1) (Nat.le_refl _)
      have hn := hS.n (t - 1) (by omega)
      rw [u2] at hn
      have hWl : W < p.length := by
        apply Classical.byContradiction
        intro hx
        have e : W = p.length := by omega
        subst e
        have h1 := hS.a (t - 1) (by omega)
        obtain ⟨m, m1, m2, _⟩ := arr_pre hv ((t - 1 : Nat) : Int)
        have := hsm (i := m) (j := p.length) m1 (Nat.le_refl _)
        have h3 : smL p (p.length + 1) = smL p p.length + (p.getD p.length pk0).s := rfl
        have h4 : p.getD p.length pk0 = pk0 := by rw [List.getD_eq_getElem?_getD, List.getElem?_eq_none (Nat.le_refl _)]; rfl
        rw [h4] at h3
        simp only at h3
        omega
      have hsW := hms _ (getD_memP hWl)
      have h3 : smL p (W + 1) = smL p W + (p.getD W pk0).s := rfl
      refine ⟨u, by omega, ?_⟩
      rw [show t - u = (t - 1 - u) + 1 by omega, hH]
      by_cases hf : most - 1 ≤ F (t - 1 - u)
      · omega
      · obtain ⟨m, m1, m2, _⟩ := arr_pre hv (u : Int)
        have hFn := hF (t - 1 - u)
        rw [m2] at hn ⊢
        have : m ≤ W := by
          apply Classical.byContradiction
          intro hx
          have := hsm (i := W + 1) (j := m) (by omega) m1
          omega
        have := hsm this w1
        omega
/- one tick more -/
theorem Snt.snoc {A F : Nat → Int} {sl : List Int} {n : Nat} (hl : sl.length = n + 1) (h : Snt A F (fun u => sl.getD u 0) n) (hA : A n ≤ A (n + 1)) {r v : Int} (hr : 0 ≤ r) (hv : v = max (sl.getD n 0) (min (A (n + 1)) (ndk A F (n + 1) (n + 1) + r))) : Snt A F (fun u => (sl ++ [v]).getD u 0) (n + 1) := by
  have e1 : ∀ u, u ≤ n → (sl ++ [v]).getD u 0 = sl.getD u 0 := fun u hu => by
    rw [List.getD_eq_getElem?_getD, List.getElem?_append_left (by omega), ← List.getD_eq_getElem?_getD]
  have e2 : (sl ++ [v]).getD (n + 1) 0 = v := by rw [← hl]; simp
  have h1 := ndk_le A F (n + 1) (n + 1)
  refine ⟨by show (sl ++ [v]).getD 0 0 = 0; rw [e1 0 (by omega)]; exact h.z, fun t ht => ?_, fun t ht => ?_, fun t ht => ?_⟩
  · show (sl ++ [v]).getD t 0 ≤ (sl ++ [v]).getD (t + 1) 0
    by_cases e : t = n
    · subst e; rw [e1 t (by omega), e2]; omega
    · rw [e1 t (by omega), e1 (t + 1) (by omega)]; exact h.m t (by omega)
  · show (sl ++ [v]).getD t 0 ≤ A t
    by_cases e : t = n + 1
    · subst e; rw [e2]
      have := h.a n (Nat.le_refl _)
      omega
    · rw [e1 t (by omega)]; exact h.a t (by omega)
  · show ndk A F t t ≤ (sl ++ [v]).getD t 0
    by_cases e : t = n + 1
    · subst e; rw [e2]; omega
    · rw [e1 t (by omega)]; exact h.n t (by omega)
theorem DnP.congr {p : List Pk} {S S' : Nat → Int} {T : Nat} {d : List Int} {i : Nat} (h : DnP p S T d i) (hS : ∀ u, u ≤ T → S' u = S u) : DnP p S' T d i := by
  rcases h with ⟨h1, h2⟩ | ⟨u, h1, h2, h3, h4, h5⟩
  · exact .inl ⟨h1, by rw [hS T (Nat.le_refl _)]; exact h2⟩
  · exact .inr ⟨u, h1, h2, h3, by rw [hS u h2]; exact h4, by rw [hS (u - 1) (by omega)]; exact h5⟩
theorem DnP.other {p : List Pk} {S : Nat → Int} {T : Nat} {d : List Int} {i j : Nat} {v : Int} (h : DnP p S T d i) (hij : i ≠ j) : DnP p S T (d.set j v) i := by
  unfold DnP at h ⊢
  have e : (d.set j v).getD i 0 = d.getD i 0 := by
    rw [List.getD_eq_getElem?_getD, List.getElem?_set_ne (fun h => hij h.symm), ← List.getD_eq_getElem?_getD]
  rw [e]; exact h
theorem DnP.put {p : List Pk} {S : Nat → Int} {n : Nat} {d : List Int} {i : Nat} (h : DnP p S n d i) (hi : i < d.length) (h1 : smL p (i + 1) ≤ S (n + 1)) (h2 : d.getD i 0 < 0) : DnP p S (n + 1) (d.set i (n : Int)) i := by
  have e : (d.set i (n : Int)).getD i 0 = n := by
    rw [List.getD_eq_getElem?_getD, List.getElem?_set_self hi]; rfl
  rcases h with ⟨_, h4⟩ | ⟨u, h3, _, h5, _⟩
  · exact .inr ⟨n + 1, by omega, Nat.le_refl _, by rw [e]; push_cast; omega, h1, h4⟩
  · exfalso; omega
theorem DnP.stay {p : List Pk} {S : Nat → Int} {n : Nat} {d : List Int} {i : Nat} (h : DnP p S n d i) (hm : ∀ u, u ≤ n + 1 → S u ≤ S (n + 1)) (hn : ¬(smL p (i + 1) ≤ S (n + 1) ∧ d.getD i 0 < 0)) : DnP p S (n + 1) d i := by
  rcases h with ⟨h3, h4⟩ | ⟨u, h3, h4, h5, h6, h7⟩
  · exact .inl ⟨h3, by omega⟩
  · exact .inr ⟨u, h3, by omega, h5, h6, h7⟩
/- packets are finished after they arrive -/
theorem DnP.tick {p : List Pk} (hv : Vld p) {F S : Nat → Int} {T : Nat} (hS : Snt (fun t => bys p (-1) t) F S T) {d : List Int} {i : Nat} (hi : i < p.length) (h : DnP p S T d i) : d.getD i 0 = -1 ∨ ((p.getD i pk0).t ≤ d.getD i 0 ∧ d.getD i 0 < T) := by
  have hs1 : ∀ x ∈ p, 1 ≤ x.s := fun x hx => by have := hv.mem x hx; unfold bad at this; omega
  rcases h with ⟨h3, _⟩ | ⟨u, h3, h4, h5, h6, _⟩
  · exact .inl h3
  · have h7 := hS.a u h4
    obtain ⟨m, m1, m2, m3⟩ := arr_pre hv (u : Int)
    rw [m2] at h7
    have := smL_lt hs1 (i := i + 1) (j := m) (by omega) (by omega) m1
    have := m3 i (by omega)
    exact .inr (by omega)
theorem msL_ge {p : List Pk} : ∀ {i j : Nat}, j < i → (p.getD j pk0).s ≤ msL p i
  | i + 1, j, h => by
    simp only [msL]
    by_cases e : j = i
    · subst e; omega
    · have := msL_ge (p := p) (i := i) (j := j) (by omega); omega
theorem msL_mem {p : List Pk} : ∀ x ∈ p, x.s ≤ msL p p.length := fun x hx => by
  obtain ⟨j, hj, rfl⟩ := List.mem_iff_getElem.1 hx
  have := msL_ge (p := p) hj
  rwa [List.getD_eq_getElem?_getD, List.getElem?_eq_getElem hj] at this
/- a minimum over ticks -/
def lsk (G : Nat → Int) : Nat → Int
  | 0 => INF
  | k + 1 => min (lsk G k) (G k)
theorem lsk_le {G : Nat → Int} : ∀ {k u : Nat}, u < k → lsk G k ≤ G u
  | k + 1, u, h => by
    simp only [lsk]
    by_cases e : u = k
    · subst e; omega
    · have := lsk_le (G := G) (k := k) (u := u) (by omega); omega
theorem lsk_bd {G : Nat → Int} (h : ∀ u, 0 ≤ G u) : ∀ k, 0 ≤ lsk G k ∧ lsk G k ≤ INF
  | 0 => by simp [lsk, INF]
  | k + 1 => by have h1 := lsk_bd h k; have := h k; simp only [lsk]; omega
end Go.Pk
end
