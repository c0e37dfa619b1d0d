/-
  A text of the proofs of this seat: lemmas that the statements' proofs use; it states nothing of the program by itself beyond the contracts that its theorems bear. Conditions: those that stand in each theorem. Its short name: Pl.
-/
set_option linter.unusedVariables false
set_option linter.unusedSimpArgs false
section
namespace Go.Cv
/-! plain laws of functions that repeat with a gain -/
def Per (F : Nat → Int) (s p : Nat) (q : Int) : Prop := ∀ t, s ≤ t → F (t + p) = F t + q
theorem Per.mono {F s s' p q} (h : Per F s p q) (hs : s ≤ s') : Per F s' p q := fun t ht => h t (by omega)
theorem Per.mul {F s p q} (h : Per F s p q) : ∀ k : Nat, Per F s (k * p) (k * q)
  | 0 => fun t _ => by simp
  | k + 1 => fun t ht => by
    have h1 := Per.mul h k t ht
    have h2 := h (t + k * p) (by omega)
    rw [show t + (k + 1) * p = t + k * p + p by rw [Nat.add_mul]; omega, h2, h1]
    push_cast; rw [Int.add_mul]; omega
theorem Per.back {F s s' n p Q q} (hn : 1 ≤ n) (h : Per F s n Q) (h' : Per F s' p q) : Per F s p q := by
  intro t ht
  have h1 := h.mul s' t ht
  have h2 := h.mul s' (t + p) (by omega)
  have hle : s' ≤ t + s' * n := by have := Nat.mul_le_mul_left s' hn; omega
  have h3 := h' (t + s' * n) hle
  rw [show t + s' * n + p = t + p + s' * n by omega, h2, h1] at h3
  omega
theorem Per.uniq {F s s' p q q'} (h : Per F s p q) (h' : Per F s' p q') : q = q' := by
  have h1 := h (max s s') (by omega)
  have h2 := h' (max s s') (by omega)
  omega
/- p is the least period -/
def Min (F : Nat → Int) (p : Nat) : Prop := ∀ s' p' q', 1 ≤ p' → Per F s' p' q' → p ≤ p'
theorem Per.dvd {F s p n q Q} (hp : 1 ≤ p) (h : Per F s p q) (hm : Min F p) (hn : Per F s n Q) : p ∣ n := by
  rcases Nat.eq_zero_or_pos (n % p) with h0 | h0
  · exact Nat.dvd_of_mod_eq_zero h0
  · have hr : Per F s (n % p) (Q - (n / p : Nat) * q) := by
      intro t ht
      have h1 := hn t ht
      have h2 := h.mul (n / p) (t + n % p) (by omega)
      have h3 := Nat.div_add_mod n p
      rw [show t + n % p + n / p * p = t + n by rw [Nat.mul_comm]; omega, h1] at h2
      omega
    have := hm s (n % p) _ h0 hr
    have := Nat.mod_lt n hp
    omega
theorem exists_min {F s n Q} (hn : 1 ≤ n) (h : Per F s n Q) : ∃ p q, 1 ≤ p ∧ Per F s p q ∧ Min F p := by
  have key : ∀ (k n : Nat) (s : Nat) (Q : Int), n ≤ k → 1 ≤ n → Per F s n Q → ∃ s' p q, 1 ≤ p ∧ Per F s' p q ∧ Min F p := by
    intro k
    induction k with
    | zero => intro n s Q h1 h2; omega
    | succ k ih =>
      intro n s Q hk hn h
      by_cases hm : Min F n
      · exact ⟨s, n, Q, hn, h, hm⟩
      · simp only [Min, Classical.not_forall] at hm
        obtain ⟨s', p', q', hp', hq, hlt⟩ := hm
        exact ih p' s' q' (by omega) hp' hq
  obtain ⟨s', p, q, hp, hq, hm⟩ := key n n s Q (by omega) hn h
  exact ⟨p, q, hp, Per.back hn h hq, hm⟩
/- what the programs ask of a period -/
def Fits (F : Nat → Int) (s n : Nat) (Q : Int) (p : Nat) : Prop := n % p = 0 ∧ Q * p % n = 0 ∧ ∀ t, s ≤ t → t < s + n → F (t + p) = F t + Q * p / n
theorem Fits.per {F s n Q p} (hn : 1 ≤ n) (h : Per F s n Q) (hf : Fits F s n Q p) : Per F s p (Q * p / n) := by
  obtain ⟨_, _, h3⟩ := hf
  intro t ht
  have hd := Nat.div_add_mod (t - s) n
  have hl := Nat.mod_lt (t - s) hn
  have h1 := h.mul ((t - s) / n) (s + (t - s) % n) (by omega)
  have h2 := h.mul ((t - s) / n) (s + (t - s) % n + p) (by omega)
  have h4 := h3 (s + (t - s) % n) (by omega) (by omega)
  have e : s + (t - s) % n + (t - s) / n * n = t := by rw [Nat.mul_comm]; omega
  rw [e] at h1
  rw [show s + (t - s) % n + p + (t - s) / n * n = t + p by omega] at h2
  omega
theorem fits_of {F s n Q p q} (hn : 1 ≤ n) (h : Per F s n Q) (hp : p ∣ n) (hq : Per F s p q) : Fits F s n Q p ∧ Q * p / n = q := by
  obtain ⟨k, rfl⟩ := hp
  have h1 := hq.mul k
  rw [Nat.mul_comm] at h1
  have hQ := h.uniq h1
  have e : Q * (p : Int) = q * ((p * k : Nat) : Int) := by rw [hQ]; push_cast; ac_rfl
  have hne : ((p * k : Nat) : Int) ≠ 0 := by omega
  have e2 : Q * (p : Int) / ((p * k : Nat) : Int) = q := by rw [e]; exact Int.mul_ediv_cancel _ hne
  exact ⟨⟨Nat.mul_mod_right p k, by rw [e]; exact Int.mul_emod_left _ _, fun t ht _ => by rw [e2]; exact hq t ht⟩, e2⟩
theorem Fits.min {F s n Q p} (hn : 1 ≤ n) (h : Per F s n Q) (hl : ∀ p', 1 ≤ p' → p' < p → ¬Fits F s n Q p') : Min F p := by
  obtain ⟨p0, q0, h0, hq0, hm⟩ := exists_min hn h
  have hd := hq0.dvd h0 hm h
  have hf0 := (fits_of hn h hd hq0).1
  have : p ≤ p0 := by
    rcases Nat.lt_or_ge p0 p with h1 | h1
    · exact absurd hf0 (hl p0 h0 h1)
    · exact h1
  intro s' p' q' hp' hq'
  have := hm s' p' q' hp' hq'
  omega
theorem fits_self {F s n Q} (hn : 1 ≤ n) (h : Per F s n Q) : Fits F s n Q n := (fits_of hn h (Nat.dvd_refl n) h).1

/- the least start -/
def MinS (F : Nat → Int) (s p : Nat) (q : Int) : Prop := ∀ s', Per F s' p q → s ≤ s'
theorem minS_of {F s p q} (h : s = 0 ∨ F (s - 1 + p) ≠ F (s - 1) + q) : MinS F s p q := by
  intro s' hs'
  rcases Nat.lt_or_ge s' s with h1 | h1
  · rcases h with h | h
    · omega
    · exact absurd (hs' (s - 1) (by omega)) h
  · exact h1
theorem Per.pred {F s p q} (h : Per F s p q) (h1 : F (s - 1 + p) = F (s - 1) + q) : Per F (s - 1) p q := by
  intro t ht
  rcases Nat.lt_or_ge t s with h2 | h2
  · have : t = s - 1 := by omega
    subst this; exact h1
  · exact h t h2

abbrev INF : Int := 4611686018427387904
def vals (F : Nat → Int) (n : Nat) : List Int := (List.range n).map F
theorem vals_len (F : Nat → Int) (n : Nat) : (vals F n).length = n := by simp [vals]
theorem vals_get {F : Nat → Int} {n t : Nat} (h : t < n) : (vals F n).getD t 0 = F t := by simp [vals, h]
theorem vals_succ (F : Nat → Int) (n : Nat) : vals F (n + 1) = vals F n ++ [F n] := by simp [vals, List.range_succ]
/- the normal form of a function that repeats -/
def NF (F : Nat → Int) (vs : List Int) (p : Nat) (q : Int) : Prop := ∃ s, 1 ≤ p ∧ Per F s p q ∧ Min F p ∧ MinS F s p q ∧ vs = vals F (s + p)
theorem NF.uniq {F vs p q vs' p' q'} (h : NF F vs p q) (h' : NF F vs' p' q') : vs = vs' ∧ p = p' ∧ q = q' := by
  obtain ⟨s, h2, h3, h4, h5, h6⟩ := h
  obtain ⟨s', g2, g3, g4, g5, g6⟩ := h'
  have e1 := h4 s' p' q' g2 g3
  have e2 := g4 s p q h2 h3
  have : p = p' := by omega
  subst this
  have hq := h3.uniq g3
  subst hq
  have e3 := h5 s' g3
  have e4 := g5 s h3
  have : s = s' := by omega
  subst this
  exact ⟨by rw [h6, g6], rfl, rfl⟩
/- what ends in the infinite -/
theorem NF.inf {F : Nat → Int} {m : Nat} (h1 : ∀ t, m ≤ t → F t = INF) (h2 : ∀ t < m, F t ≠ INF) : NF F (vals F (m + 1)) 1 0 := by
  refine ⟨m, by omega, fun t ht => by rw [h1 t ht, h1 (t + 1) (by omega)]; rfl, fun _ p' _ hp' _ => hp', fun s' hs' => ?_, rfl⟩
  rcases Nat.lt_or_ge s' m with h | h
  · have := hs' (m - 1) (by omega)
    rw [show m - 1 + 1 = m by omega, h1 m (by omega)] at this
    exact absurd (by omega) (h2 (m - 1) (by omega))
  · exact h

/-! the function of a curve -/
def val (vs : List Int) (p : Nat) (q : Int) (t : Nat) : Int :=
  if t < vs.length then vs.getD t 0 else
  if vs.getD (t - ((t - vs.length) / p + 1) * p) 0 = INF then INF else vs.getD (t - ((t - vs.length) / p + 1) * p) 0 + ((t - vs.length) / p + 1 : Nat) * q
theorem val_lt {vs p q t} (h : t < vs.length) : val vs p q t = vs.getD t 0 := by simp [val, h]
theorem val_per {vs : List Int} {p : Nat} {q : Int} (hp : 1 ≤ p) (hn : p ≤ vs.length) (hf : ∀ t, vs.length - p ≤ t → t < vs.length → vs.getD t 0 ≠ INF) : Per (val vs p q) (vs.length - p) p q := by
  have idx : ∀ t, vs.length ≤ t → vs.length - p ≤ t - ((t - vs.length) / p + 1) * p ∧ t - ((t - vs.length) / p + 1) * p < vs.length ∧ ((t - vs.length) / p + 1) * p ≤ t := by
    intro t ht
    have h1 := Nat.div_add_mod (t - vs.length) p
    have h2 := Nat.mod_lt (t - vs.length) hp
    have h3 : ((t - vs.length) / p + 1) * p = p * ((t - vs.length) / p) + p := by rw [Nat.add_mul, Nat.one_mul, Nat.mul_comm]
    omega
  intro t ht
  obtain ⟨i1, i2, i3⟩ := idx (t + p) (by omega)
  have hne := hf _ i1 i2
  have e1 : val vs p q (t + p) = vs.getD (t + p - ((t + p - vs.length) / p + 1) * p) 0 + ((t + p - vs.length) / p + 1 : Nat) * q := by
    simp only [val]; rw [if_neg (by omega), if_neg hne]
  rw [e1]
  by_cases hlt : t < vs.length
  · have : (t + p - vs.length) / p = 0 := Nat.div_eq_of_lt (by omega)
    rw [this, val_lt hlt]
    simp
  · obtain ⟨j1, j2, j3⟩ := idx t (by omega)
    have hne' := hf _ j1 j2
    have e2 : val vs p q t = vs.getD (t - ((t - vs.length) / p + 1) * p) 0 + ((t - vs.length) / p + 1 : Nat) * q := by
      simp only [val]; rw [if_neg hlt, if_neg hne']
    have e3 : (t + p - vs.length) / p = (t - vs.length) / p + 1 := by
      rw [show t + p - vs.length = t - vs.length + p by omega, Nat.add_div_right _ hp]
    rw [e2, e3]
    have e4 : t + p - ((t - vs.length) / p + 1 + 1) * p = t - ((t - vs.length) / p + 1) * p := by
      rw [Nat.add_mul ((t - vs.length) / p + 1) 1 p]; omega
    rw [e4]
    generalize (t - vs.length) / p = k
    have : ((k + 1 + 1 : Nat) : Int) * q = ((k + 1 : Nat) : Int) * q + q := by push_cast; rw [Int.add_mul, Int.one_mul]
    omega
def ValidP (vs : List Int) (p i : Int) : Prop :=
  1 ≤ vs.length ∧ vs.length ≤ 400 ∧ 1 ≤ p ∧ p ≤ 120 ∧ p ≤ vs.length ∧ 0 ≤ i ∧ i ≤ 1073741824 ∧
  (∀ j < vs.length, vs.getD j 0 = 4611686018427387904 ∨ 0 ≤ vs.getD j 0 ∧ vs.getD j 0 ≤ 1073741824) ∧
  (∀ j, j + 1 < vs.length → vs.getD j 0 ≤ vs.getD (j + 1) 0) ∧
  (vs.getD (vs.length - 1) 0 = 4611686018427387904 → p = 1 ∧ i = 0) ∧
  (vs.getD (vs.length - 1) 0 ≠ 4611686018427387904 → vs.getD (vs.length - p.toNat) 0 + i ≥ vs.getD (vs.length - 1) 0)
/- what Least returns -/
def LeastP (vs : List Int) (P : Nat) (Q : Int) (vs' : List Int) (p' : Nat) (q' : Int) : Prop :=
  (∃ m, m < vs.length ∧ vs.getD m 0 = INF ∧ (∀ k < m, vs.getD k 0 ≠ INF) ∧ vs' = vs.take (m + 1) ∧ p' = 1 ∧ q' = 0) ∨
  ((∀ k < vs.length, vs.getD k 0 ≠ INF) ∧ NF (val vs P Q) vs' p' q')

structure VF (vs : List Int) (p : Nat) (q : Int) : Prop where
  n1 : 1 ≤ vs.length
  n2 : vs.length ≤ 400
  p1 : 1 ≤ p
  p2 : p ≤ 120
  pn : p ≤ vs.length
  q0 : 0 ≤ q
  q1 : q ≤ 1073741824
  v : ∀ j < vs.length, vs.getD j 0 = INF ∨ 0 ≤ vs.getD j 0 ∧ vs.getD j 0 ≤ 1073741824
  mono : ∀ j k, j ≤ k → k < vs.length → vs.getD j 0 ≤ vs.getD k 0
  inf : vs.getD (vs.length - 1) 0 = INF → p = 1 ∧ q = 0
  fin : vs.getD (vs.length - 1) 0 ≠ INF → vs.getD (vs.length - p) 0 + q ≥ vs.getD (vs.length - 1) 0
theorem mono_of {vs : List Int} (h : ∀ j, j + 1 < vs.length → vs.getD j 0 ≤ vs.getD (j + 1) 0) : ∀ j k, j ≤ k → k < vs.length → vs.getD j 0 ≤ vs.getD k 0 := by
  intro j k hjk
  induction k with
  | zero => intro _; have : j = 0 := by omega
            subst this; exact Int.le_refl _
  | succ k ih =>
    intro hk
    by_cases e : j = k + 1
    · subst e; exact Int.le_refl _
    · have := ih (by omega) (by omega)
      have := h k hk
      omega
theorem ValidP.vf {vs p q} (h : ValidP vs p q) : ∃ p' : Nat, p = p' ∧ VF vs p' q := by
  obtain ⟨h1, h2, h3, h4, h5, h6, h7, h8, h9, h10, h11⟩ := h
  refine ⟨p.toNat, by omega, h1, h2, by omega, by omega, by omega, h6, h7, h8, mono_of h9, fun e => ?_, fun e => h11 e⟩
  have := h10 e
  omega
theorem VF.noinf {vs p q} (h : VF vs p q) (hf : vs.getD (vs.length - 1) 0 ≠ INF) : ∀ k < vs.length, vs.getD k 0 ≠ INF := by
  intro k hk e
  have h1 := h.mono k (vs.length - 1) (by omega) (by omega)
  have := h.v (vs.length - 1) (by have := h.n1; omega)
  rw [e] at h1
  simp only [INF] at *
  omega
theorem VF.val_inf {vs p q} (h : VF vs p q) (hf : vs.getD (vs.length - 1) 0 = INF) {m : Nat} (hm : vs.getD m 0 = INF) : ∀ t, m ≤ t → val vs p q t = INF := by
  intro t ht
  obtain ⟨rfl, rfl⟩ := h.inf hf
  by_cases hlt : t < vs.length
  · rw [val_lt hlt]
    have h1 := h.mono m t ht hlt
    have := h.v t hlt
    rw [hm] at h1
    simp only [INF] at *
    omega
  · simp only [val]
    rw [if_neg hlt]
    have : t - ((t - vs.length) / 1 + 1) * 1 = vs.length - 1 := by have := h.n1; omega
    rw [this, if_pos hf]
theorem LeastP.nf {vs p q vs' p' q'} (h : VF vs p q) (hl : LeastP vs p q vs' p' q') : NF (val vs p q) vs' p' q' := by
  rcases hl with ⟨m, h1, h2, h3, rfl, rfl, rfl⟩ | ⟨_, h1⟩
  · have hf : vs.getD (vs.length - 1) 0 = INF := by
      have h4 := h.mono m (vs.length - 1) (by omega) (by omega)
      have := h.v (vs.length - 1) (by omega)
      rw [h2] at h4
      simp only [INF] at *
      omega
    have e : vs.take (m + 1) = vals (val vs p q) (m + 1) := by
      apply List.ext_getElem
      · rw [vals_len, List.length_take]; omega
      · intro i h5 h6
        rw [vals_len] at h6
        simp only [vals, List.getElem_map, List.getElem_range, List.getElem_take]
        rw [val_lt (by omega), List.getD_eq_getElem?_getD, List.getElem?_eq_getElem (by omega)]
        rfl
    rw [e]
    exact NF.inf (h.val_inf hf h2) (fun t ht => by rw [val_lt (by omega)]; exact h3 t ht)
  · exact h1
def MadeP (vs : List Int) (P : Nat) (Q : Int) (vs' : List Int) (p' q' e : Int) : Prop :=
  ∃ ws p1 q1, LeastP vs P Q ws p1 q1 ∧ ((ValidP ws p1 q1 ∧ vs' = ws ∧ p' = p1 ∧ q' = q1 ∧ e = 0) ∨ (¬ValidP ws p1 q1 ∧ vs' = [] ∧ p' = 0 ∧ q' = 0 ∧ e = 3))
def NormP (vs : List Int) (p q : Int) (vs' : List Int) (p' q' e : Int) : Prop :=
  (e = 0 ∧ ∃ p0 p1 : Nat, p = p0 ∧ p' = p1 ∧ VF vs p0 q ∧ NF (val vs p0 q) vs' p1 q') ∨ (¬ValidP vs p q ∧ vs' = [] ∧ p' = 0 ∧ q' = 0 ∧ e = 1)
end Go.Cv
end
section
namespace Go.Fq
/-! Fractions of the program as rational numbers. -/
def MT : Nat := 1073741824
def Sm (r : Rat) : Prop := r.num.natAbs ≤ MT ∧ r.den ≤ MT
instance (r : Rat) : Decidable (Sm r) := inferInstanceAs (Decidable (_ ∧ _))
def VF (a : Int × Int) : Prop := 1 ≤ a.2 ∧ a.2 ≤ 1073741824 ∧ -1073741824 ≤ a.1 ∧ a.1 ≤ 1073741824 ∧ Nat.gcd a.1.natAbs a.2.natAbs = 1
instance (a : Int × Int) : Decidable (VF a) := inferInstanceAs (Decidable (_ ∧ _ ∧ _ ∧ _ ∧ _))
def val (a : Int × Int) : Rat := Rat.divInt a.1 a.2
def enc (r : Rat) : Int × Int := (r.num, r.den)
def fenc (r : Rat) : Int × Int × Int := if Sm r then (r.num, r.den, 0) else (0, 0, 3)
def fnew (n d : Int) : Int × Int × Int := if d = 0 then (0, 0, 2) else fenc (Rat.divInt n d)
theorem VF.num {a} (h : VF a) : (val a).num = a.1 := by
  obtain ⟨h1, h2, h3, h4, h5⟩ := h
  unfold val
  rw [Rat.num_divInt, Int.gcd, Nat.gcd_comm, h5]
  have : a.2.sign = 1 := Int.sign_eq_one_of_pos (by omega)
  simp [this]
theorem VF.den {a} (h : VF a) : ((val a).den : Int) = a.2 := by
  obtain ⟨h1, h2, h3, h4, h5⟩ := h
  unfold val
  rw [Rat.den_divInt, Int.gcd, Nat.gcd_comm, h5, if_neg (by omega)]
  simp; omega
theorem VF.sm {a} (h : VF a) : Sm (val a) := by
  have h1 := h.num; have h2 := h.den
  obtain ⟨k1, k2, k3, k4, k5⟩ := h
  unfold Sm MT; omega
theorem VF.enc {a} (h : VF a) : enc (val a) = a := by
  unfold Fq.enc; rw [h.num, h.den]
theorem vf_enc {r : Rat} (h : Sm r) : VF (enc r) := by
  unfold Sm MT at h
  have := r.den_pos
  have hr := r.reduced
  refine ⟨?_, ?_, ?_, ?_, ?_⟩ <;> simp only [enc] <;> try omega
  simpa [Nat.Coprime] using hr
theorem val_enc {r : Rat} : val (enc r) = r := by
  unfold val enc; exact Rat.num_divInt_den r
theorem vf_zero : VF (0, 1) := by decide
theorem val_zero : val (0, 1) = 0 := by decide +kernel
theorem VF.inj {a b} (h : VF a) (k : VF b) (e : val a = val b) : a = b := by rw [← h.enc, ← k.enc, e]
theorem VF.cmp {a b} (h : VF a) (k : VF b) : a.1 * b.2 < b.1 * a.2 ↔ val a < val b := by
  rw [Rat.lt_iff, h.num, h.den, k.num, k.den]
theorem VF.add {a b} (h : VF a) (k : VF b) : fnew (a.1 * b.2 + b.1 * a.2) (a.2 * b.2) = fenc (val a + val b) := by
  have ha := h.1; have hb := k.1
  have : a.2 * b.2 ≠ 0 := Int.mul_ne_zero (by omega) (by omega)
  unfold fnew val
  rw [if_neg this, Rat.divInt_add_divInt _ _ (by omega) (by omega)]
theorem VF.mul {a b} (h : VF a) (k : VF b) : fnew (a.1 * b.1) (a.2 * b.2) = fenc (val a * val b) := by
  have ha := h.1; have hb := k.1
  have : a.2 * b.2 ≠ 0 := Int.mul_ne_zero (by omega) (by omega)
  unfold fnew val
  rw [if_neg this, Rat.divInt_mul_divInt]
theorem fenc_ok {r : Rat} {x y : Int} (h : fenc r = (x, y, 0)) : Sm r ∧ (x, y) = enc r := by
  unfold fenc at h
  split at h
  · rename_i hs; simp only [Prod.mk.injEq, and_true] at h; exact ⟨hs, by simp [enc, h.1, h.2]⟩
  · simp at h
/- the terms of a quotient in lowest terms -/
theorem divInt_terms (n d : Int) (hd : d ≠ 0) :
    (Rat.divInt n d).den = d.natAbs / Nat.gcd n.natAbs d.natAbs ∧
    (Rat.divInt n d).num = if (n < 0 ↔ d < 0) then ((n.natAbs / Nat.gcd n.natAbs d.natAbs : Nat) : Int) else -((n.natAbs / Nat.gcd n.natAbs d.natAbs : Nat) : Int) := by
  have hg : (Nat.gcd n.natAbs d.natAbs : Int) ∣ (n.natAbs : Int) := Int.natCast_dvd_natCast.2 (Nat.gcd_dvd_left _ _)
  constructor
  · rw [Rat.den_divInt, if_neg hd, Int.gcd, Nat.gcd_comm]
  · rw [Rat.num_divInt, Int.gcd, Nat.gcd_comm]
    have hn : n = (n.natAbs : Int) ∨ n = -(n.natAbs : Int) := by omega
    rw [Int.natCast_ediv]
    rcases Int.lt_trichotomy d 0 with h | h | h
    · rw [Int.sign_eq_neg_one_of_neg h, Int.neg_mul, Int.one_mul]
      split
      · rename_i hh
        have : n < 0 := hh.2 h
        congr 1; omega
      · rename_i hh
        have : ¬ n < 0 := fun x => hh ⟨fun _ => h, fun _ => x⟩
        rw [Int.neg_ediv_of_dvd (by rw [show n = (n.natAbs : Int) by omega]; exact hg)]
        congr 2; omega
    · exact absurd h hd
    · rw [Int.sign_eq_one_of_pos h, Int.one_mul]
      split
      · rename_i hh
        have : ¬ n < 0 := fun x => by have := hh.1 x; omega
        congr 1; omega
      · rename_i hh
        have : n < 0 := Classical.byContradiction fun x => hh ⟨fun y => absurd y x, fun y => by omega⟩
        conv => lhs; rw [show n = -(n.natAbs : Int) by omega]
        rw [Int.neg_ediv_of_dvd (by simpa using hg)]; simp
theorem sm_of {r : Rat} {n d : Nat} (hn : r.num.natAbs = n) (hd : r.den = d) : Sm r ↔ n ≤ 1073741824 ∧ d ≤ 1073741824 := by
  unfold Sm MT; rw [hn, hd]
/- what New computes -/
theorem fnew_eq (n d : Int) (hd : d ≠ 0) : fnew n d =
    (if 1073741824 < n.natAbs / Nat.gcd n.natAbs d.natAbs ∨ 1073741824 < d.natAbs / Nat.gcd n.natAbs d.natAbs then (0, 0, 3)
     else if (n < 0 ↔ d < 0) then (((n.natAbs / Nat.gcd n.natAbs d.natAbs : Nat) : Int), ((d.natAbs / Nat.gcd n.natAbs d.natAbs : Nat) : Int), 0)
     else (-((n.natAbs / Nat.gcd n.natAbs d.natAbs : Nat) : Int), ((d.natAbs / Nat.gcd n.natAbs d.natAbs : Nat) : Int), 0)) := by
  obtain ⟨h1, h2⟩ := divInt_terms n d hd
  generalize n.natAbs / Nat.gcd n.natAbs d.natAbs = x at *
  generalize d.natAbs / Nat.gcd n.natAbs d.natAbs = y at *
  have h3 : (Rat.divInt n d).num.natAbs = x := by rw [h2]; split <;> simp
  have hs := sm_of h3 h1
  unfold fnew fenc
  rw [if_neg hd]
  by_cases hb : 1073741824 < x ∨ 1073741824 < y
  · rw [if_pos hb, if_neg (by rw [hs]; omega)]
  · rw [if_neg hb, if_pos (by rw [hs]; omega), h1, h2]
    split <;> rfl
theorem tdiv_nat (n : Int) (g : Nat) : n.tdiv g = if n < 0 then -((n.natAbs / g : Nat) : Int) else ((n.natAbs / g : Nat) : Int) := by
  split
  · have e : n = -(n.natAbs : Int) := by omega
    conv => lhs; rw [e]
    rw [Int.neg_tdiv, Int.tdiv_eq_ediv_of_nonneg (by omega)]; rfl
  · have e : n = (n.natAbs : Int) := by omega
    conv => lhs; rw [e]
    rw [Int.tdiv_eq_ediv_of_nonneg (by omega)]; rfl
theorem new_pos {n d : Int} (hd : 0 < d) : n.tdiv (Nat.gcd n.natAbs d.natAbs) = (Rat.divInt n d).num ∧ d.tdiv (Nat.gcd n.natAbs d.natAbs) = (Rat.divInt n d).den := by
  obtain ⟨h1, h2⟩ := divInt_terms n d (by omega)
  rw [h1, h2, tdiv_nat, tdiv_nat, if_neg (show ¬ d < 0 by omega)]
  refine ⟨?_, rfl⟩
  by_cases h : n < 0
  · rw [if_pos h, if_neg (by omega)]
  · rw [if_neg h, if_pos (by omega)]
theorem new_neg {n d : Int} (hd : d < 0) : (0 - n).tdiv (Nat.gcd n.natAbs d.natAbs) = (Rat.divInt n d).num ∧ (0 - d).tdiv (Nat.gcd n.natAbs d.natAbs) = (Rat.divInt n d).den := by
  obtain ⟨h1, h2⟩ := divInt_terms n d (by omega)
  have e1 : (0 - n).natAbs = n.natAbs := by omega
  have e2 : (0 - d).natAbs = d.natAbs := by omega
  rw [h1, h2, tdiv_nat, tdiv_nat, e1, e2, if_neg (show ¬ 0 - d < 0 by omega)]
  refine ⟨?_, rfl⟩
  by_cases h : n < 0
  · rw [if_neg (by omega), if_pos (by omega)]
  · by_cases h0 : n = 0
    · subst h0; simp
    · rw [if_pos (by omega), if_neg (by omega)]
theorem vf_enc_iff {r : Rat} : VF (r.num, (r.den : Int)) ↔ Sm r := by
  constructor
  · intro h
    have := h.sm
    have e : val (r.num, (r.den : Int)) = r := val_enc
    rwa [e] at this
  · exact vf_enc
end Go.Fq
end
section
namespace Go.Fq
/-! Sums of rational numbers, and weak duality. -/
def sm : Nat → (Nat → Rat) → Rat
  | 0, _ => 0
  | n + 1, f => sm n f + f n
theorem sm_le {f g : Nat → Rat} : ∀ {n : Nat}, (∀ i < n, f i ≤ g i) → sm n f ≤ sm n g
  | 0, _ => by simp [sm]
  | n + 1, h => by
    have h1 := sm_le (f := f) (g := g) (n := n) (fun i hi => h i (by omega))
    have h2 := h n (by omega)
    simp only [sm]; grind
theorem sm_congr {f g : Nat → Rat} : ∀ {n : Nat}, (∀ i < n, f i = g i) → sm n f = sm n g
  | 0, _ => by simp [sm]
  | n + 1, h => by simp only [sm]; rw [sm_congr (n := n) (fun i hi => h i (by omega)), h n (by omega)]
theorem sm_add {f g : Nat → Rat} : ∀ {n : Nat}, sm n (fun i => f i + g i) = sm n f + sm n g
  | 0 => by simp only [sm]; exact (Rat.add_zero 0).symm
  | n + 1 => by simp only [sm]; rw [sm_add]; grind
theorem sm_mul {f : Nat → Rat} {c : Rat} : ∀ {n : Nat}, sm n (fun i => f i * c) = sm n f * c
  | 0 => by simp [sm]
  | n + 1 => by simp only [sm]; rw [sm_mul]; grind
theorem sm_mul' {f : Nat → Rat} {c : Rat} : ∀ {n : Nat}, sm n (fun i => c * f i) = c * sm n f
  | 0 => by simp [sm]
  | n + 1 => by simp only [sm]; rw [sm_mul']; grind
theorem sm_zero {n : Nat} : sm n (fun _ => 0) = 0 := by
  induction n with
  | zero => rfl
  | succ n ih => simp only [sm]; rw [ih]; grind
theorem sm_comm {f : Nat → Nat → Rat} {m : Nat} : ∀ {n : Nat}, sm n (fun i => sm m (fun j => f i j)) = sm m (fun j => sm n (fun i => f i j))
  | 0 => by simp only [sm]; exact sm_zero.symm
  | n + 1 => by
    simp only [sm]; rw [sm_comm (n := n), ← sm_add]
/- weak duality -/
theorem weak {n m : Nat} {a : Nat → Nat → Rat} {b c x y : Nat → Rat} (hx : ∀ j < n, 0 ≤ x j) (hc : ∀ j < n, sm m (fun i => a i j * y i) ≤ c j)
    (hb : ∀ i < m, b i * y i ≤ sm n (fun j => a i j * x j) * y i) : sm m (fun i => b i * y i) ≤ sm n (fun j => c j * x j) := by
  have h1 : sm m (fun i => b i * y i) ≤ sm m (fun i => sm n (fun j => a i j * x j) * y i) := sm_le hb
  have h2 : sm m (fun i => sm n (fun j => a i j * x j) * y i) = sm n (fun j => sm m (fun i => a i j * y i) * x j) := by
    have e1 : sm m (fun i => sm n (fun j => a i j * x j) * y i) = sm m (fun i => sm n (fun j => a i j * x j * y i)) := sm_congr (fun i _ => sm_mul.symm)
    have e2 : sm n (fun j => sm m (fun i => a i j * y i) * x j) = sm n (fun j => sm m (fun i => a i j * x j * y i)) :=
      sm_congr (fun j _ => by rw [← sm_mul]; exact sm_congr (fun i _ => by grind))
    rw [e1, e2, sm_comm]
  have h3 : sm n (fun j => sm m (fun i => a i j * y i) * x j) ≤ sm n (fun j => c j * x j) :=
    sm_le (fun j hj => Rat.mul_le_mul_of_nonneg_right (hc j hj) (hx j hj))
  grind
end Go.Fq
end
section
namespace Go.Fq
abbrev F := Int × Int
abbrev R := Int × Int × Int
def fmul (a b : F) : R := if VF a ∧ VF b then fenc (val a * val b) else (0, 0, 2)
def fadd (a b : F) : R := if VF a ∧ VF b then fenc (val a + val b) else (0, 0, 2)
def fdiv (a b : F) : R := if VF a ∧ VF b ∧ b.1 ≠ 0 then fenc (val a / val b) else (0, 0, 2)
theorem VF.div {a b : F} (h : VF a) (k : VF b) (hb : b.1 ≠ 0) : fnew (a.1 * b.2) (a.2 * b.1) = fenc (val a / val b) := by
  have ha := h.1; have hc := k.1
  have : a.2 * b.1 ≠ 0 := Int.mul_ne_zero (by omega) hb
  unfold fnew val
  rw [if_neg this, Rat.div_def, Rat.inv_divInt, Rat.divInt_mul_divInt]
def fcmp (a b : F) : Int := if VF a ∧ VF b then (if val a < val b then -1 else if val b < val a then 1 else 0) else 0
def pgo : List F → List F → F → R
  | x :: xs, y :: ys, s =>
    if (fmul x y).2.2 = 0 then
      if (fadd s ((fmul x y).1, (fmul x y).2.1)).2.2 = 0 then pgo xs ys ((fadd s ((fmul x y).1, (fmul x y).2.1)).1, (fadd s ((fmul x y).1, (fmul x y).2.1)).2.1)
      else (0, 0, 3)
    else (0, 0, 3)
  | _, _, s => (s.1, s.2, 0)
def prod (a b : List F) : R := if a.length = b.length then pgo a b (0, 1) else (0, 0, 2)
/- the i-th fraction of a list -/
def at' (l : List F) (i : Nat) : Rat := val (l.getD i (0, 1))
theorem fmul_ok {a b : F} {x y : Int} (h : fmul a b = (x, y, 0)) : VF a ∧ VF b ∧ VF (x, y) ∧ val (x, y) = val a * val b := by
  unfold fmul at h
  split at h
  · rename_i hv
    obtain ⟨hs, e⟩ := fenc_ok h
    exact ⟨hv.1, hv.2, by rw [e]; exact vf_enc hs, by rw [e]; exact val_enc⟩
  · simp at h
theorem fadd_ok {a b : F} {x y : Int} (h : fadd a b = (x, y, 0)) : VF a ∧ VF b ∧ VF (x, y) ∧ val (x, y) = val a + val b := by
  unfold fadd at h
  split at h
  · rename_i hv
    obtain ⟨hs, e⟩ := fenc_ok h
    exact ⟨hv.1, hv.2, by rw [e]; exact vf_enc hs, by rw [e]; exact val_enc⟩
  · simp at h
theorem sm_succ' {f : Nat → Rat} : ∀ {n : Nat}, sm (n + 1) f = f 0 + sm n (fun i => f (i + 1))
  | 0 => by simp only [sm]; grind
  | n + 1 => by
    have := sm_succ' (f := f) (n := n)
    simp only [sm] at this ⊢; rw [this]; grind
theorem pgo_ok : ∀ {a b : List F} {s : F} {x y : Int}, a.length = b.length → VF s → pgo a b s = (x, y, 0) →
    (∀ f ∈ a, VF f) ∧ (∀ f ∈ b, VF f) ∧ VF (x, y) ∧ val (x, y) = val s + sm a.length (fun i => at' a i * at' b i)
  | [], [], s, x, y, _, hs, h => by
    simp only [pgo, Prod.mk.injEq, and_true] at h
    obtain ⟨rfl, rfl⟩ := h
    refine ⟨by simp, by simp, hs, ?_⟩
    simp only [List.length_nil, sm]; grind
  | u :: us, v :: vs, s, x, y, hl, hs, h => by
    simp only [pgo] at h
    split at h
    · rename_i h1
      split at h
      · rename_i h2
        obtain ⟨k1, k2, k3, k4⟩ := fmul_ok (a := u) (b := v) (x := (fmul u v).1) (y := (fmul u v).2.1) (by rw [← h1])
        obtain ⟨k5, k6, k7, k8⟩ := fadd_ok (a := s) (b := ((fmul u v).1, (fmul u v).2.1)) (by rw [← h2])
        obtain ⟨k9, k10, k11, k12⟩ := pgo_ok (by simpa using hl) k7 h
        refine ⟨List.forall_mem_cons.2 ⟨k1, k9⟩, List.forall_mem_cons.2 ⟨k2, k10⟩, k11, ?_⟩
        rw [k12, k8, k4, List.length_cons, sm_succ']
        simp only [at', List.getD_cons_zero, List.getD_cons_succ]
        grind
      · simp at h
    · simp at h
theorem prod_ok {a b : List F} {x y : Int} (h : prod a b = (x, y, 0)) :
    a.length = b.length ∧ (∀ f ∈ a, VF f) ∧ (∀ f ∈ b, VF f) ∧ VF (x, y) ∧ val (x, y) = sm a.length (fun i => at' a i * at' b i) := by
  unfold prod at h
  split at h
  · rename_i hl
    obtain ⟨h1, h2, h3, h4⟩ := pgo_ok hl vf_zero h
    refine ⟨hl, h1, h2, h3, ?_⟩
    rw [h4, val_zero]; grind
  · simp at h
theorem pgo_err : ∀ {a b : List F} {s : F}, (pgo a b s).2.2 = 0 ∨ pgo a b s = (0, 0, 3)
  | [], _, s => by simp [pgo]
  | _ :: _, [], s => by simp [pgo]
  | u :: us, v :: vs, s => by
    simp only [pgo]
    split
    · split
      · exact pgo_err
      · simp
    · simp
/-! ### programmes -/
abbrev Rw := List F × Int × F
structure Pr where
  c : List F
  r : List Rw
def VP (p : Pr) : Prop := 1 ≤ p.c.length ∧ p.c.length ≤ 6 ∧ p.r.length ≤ 24 ∧ (∀ f ∈ p.c, VF f) ∧
  ∀ w ∈ p.r, w.1.length = p.c.length ∧ 1 ≤ w.2.1 ∧ w.2.1 ≤ 3 ∧ (∀ f ∈ w.1, VF f) ∧ VF w.2.2
def keeps (w : Rw) (k : Int) : Prop := (w.2.1 = 1 ∧ k ≤ 0) ∨ (w.2.1 = 2 ∧ 0 ≤ k) ∨ (w.2.1 = 3 ∧ k = 0)
def rowOK (w : Rw) (x : List F) : Prop := (prod w.1 x).2.2 = 0 ∧ keeps w (fcmp ((prod w.1 x).1, (prod w.1 x).2.1) w.2.2)
def Feas (p : Pr) (x : List F) : Prop := VP p ∧ x.length = p.c.length ∧ (∀ f ∈ x, VF f) ∧ (∀ f ∈ x, 0 ≤ f.1) ∧ ∀ w ∈ p.r, rowOK w x
def Sgn (p : Pr) (y : List F) : Prop := VP p ∧ y.length = p.r.length ∧ ∀ (i : Nat) (w : Rw) (f : F), p.r[i]? = some w → y[i]? = some f → VF f ∧ ¬(w.2.1 = 1 ∧ 0 < f.1) ∧ ¬(w.2.1 = 2 ∧ f.1 < 0)
def col (p : Pr) (j : Nat) : List F := p.r.map fun w => w.1.getD j (0, 1)
def bds (p : Pr) : List F := p.r.map fun w => w.2.2
/- each column's product is at most a limit -/
def Blw (p : Pr) (y : List F) (l : Nat → F) : Prop := ∀ j < p.c.length, (prod (col p j) y).2.2 = 0 ∧ fcmp ((prod (col p j) y).1, (prod (col p j) y).2.1) (l j) ≤ 0
noncomputable def bound (p : Pr) (y : List F) : R :=
  open Classical in if ¬VP p then (0, 0, 2) else if Sgn p y ∧ Blw p y (fun j => p.c.getD j (0, 1)) then prod (bds p) y else (0, 0, 8)
def Opt (p : Pr) (x y : List F) : Prop := Feas p x ∧ (bound p y).2.2 = 0 ∧ prod p.c x = bound p y
def Inf (p : Pr) (y : List F) : Prop := Sgn p y ∧ Blw p y (fun _ => (0, 1)) ∧ (prod (bds p) y).2.2 = 0 ∧ 0 < (prod (bds p) y).1
def Unb (p : Pr) (x ray : List F) : Prop := Feas p x ∧ Feas ⟨p.c, p.r.map fun w => (w.1, w.2.1, (0, 1))⟩ ray ∧ (prod p.c ray).2.2 = 0 ∧ (prod p.c ray).1 < 0
end Go.Fq
end
section
namespace Go.Np
/-! networks, plainly -/
structure Ln where
  k : Int
  c : Int
  n : Int
  w : List Int
  s : List Int
structure Fl where
  nm : ByteArray
  rt : List Int
  cl : Int
  lo : Int
  hi : Int
  v : List Int
  p : Int
  q : Int
structure Nt where
  nm : List ByteArray
  ln : List Ln
  fl : List Fl
abbrev ln0 : Ln := ⟨0, 0, 0, [], []⟩
abbrev fl0 : Fl := ⟨ByteArray.empty, [], 0, 0, 0, [], 0, 0⟩
abbrev bs0 : ByteArray := ByteArray.empty
def bt (s : ByteArray) (i : Nat) : Int := ((s[i]?).getD 0).toNat
def okC (c : Int) : Prop := c = 45 ∨ (48 ≤ c ∧ c ≤ 57) ∨ (97 ≤ c ∧ c ≤ 122)
def WordP (s : ByteArray) : Prop := 1 ≤ s.size ∧ s.size ≤ 12 ∧ (97 ≤ bt s 0 ∧ bt s 0 ≤ 122) ∧ ∀ i, i < s.size → okC (bt s i)
instance {c : Int} : Decidable (okC c) := by unfold okC; infer_instance
instance {s : ByteArray} : Decidable (WordP s) := by unfold WordP; infer_instance
def inR (l : List Int) (a b : Int) : Prop := ∀ x ∈ l, a ≤ x ∧ x ≤ b
instance {l : List Int} {a b : Int} : Decidable (inR l a b) := by unfold inR; infer_instance
/- the lists of a line: its error -/
def lsErr (l : Ln) : Int :=
  if l.k = 3 ∧ ¬((l.w.length : Int) = l.n ∧ inR l.w 1 20) ∨ l.k = 4 ∧ ¬((l.w.length : Int) = l.n ∧ inR l.w 1 6000) ∨ l.k = 5 ∧ ¬(1 ≤ l.s.length ∧ l.s.length ≤ 40 ∧ inR l.s (-1) (l.n - 1)) then 2
  else if (l.k ≠ 3 ∧ l.k ≠ 4 ∧ l.w.length ≠ 0) ∨ (l.k ≠ 5 ∧ l.s.length ≠ 0) then 6 else 0
def lnErr (l : Ln) : Int :=
  if l.k < 1 ∨ 5 < l.k then 9
  else if l.c < 1 ∨ 4000 < l.c ∨ l.n < 1 ∨ 6 < l.n then 2
  else lsErr l
open Classical in
noncomputable def nmErr (met : List ByteArray) (s : ByteArray) : Int := if ¬WordP s then 4 else if s ∈ met then 60 else 0
/- the first error of some -/
def firstE (f : Nat → Int) : Nat → Int
  | 0 => 0
  | m + 1 => if firstE f m ≠ 0 then firstE f m else f m
theorem firstE_all {f : Nat → Int} : ∀ {m : Nat}, (∀ i < m, f i = 0) → firstE f m = 0
  | 0, _ => rfl
  | m + 1, h => by
    simp only [firstE]
    rw [firstE_all (fun i hi => h i (by omega)), if_neg (by simp)]
    exact h m (by omega)
theorem firstE_ge {f : Nat → Int} {i : Nat} : ∀ {m : Nat}, i ≤ m → firstE f i ≠ 0 → firstE f m = firstE f i
  | 0, h, _ => by have : i = 0 := by omega
                  subst this; rfl
  | m + 1, h, hn => by
    by_cases e : i = m + 1
    · subst e; rfl
    · have := firstE_ge (m := m) (by omega) hn
      simp only [firstE]
      rw [this, if_pos hn]
theorem firstE_at {f : Nat → Int} {i m : Nat} (hi : i < m) (h : ∀ j < i, f j = 0) (hn : f i ≠ 0) : firstE f m = f i := by
  have e : firstE f (i + 1) = f i := by simp only [firstE]; rw [firstE_all h, if_neg (by simp)]
  rw [firstE_ge (i := i + 1) (by omega) (by rw [e]; exact hn), e]
theorem firstE_zero {f : Nat → Int} {m : Nat} (h : firstE f m = 0) : ∀ i < m, f i = 0 := by
  intro i hi
  induction i using Nat.strongRecOn with
  | ind i ih =>
    by_cases hn : f i = 0
    · exact hn
    · have := firstE_at hi (fun j hj => ih j hj (by omega)) hn
      rw [h] at this; exact absurd this.symm hn
theorem firstE_congr {f g : Nat → Int} : ∀ {m : Nat}, (∀ i < m, f i = g i) → firstE f m = firstE g m
  | 0, _ => rfl
  | m + 1, h => by simp only [firstE]; rw [firstE_congr (fun i hi => h i (by omega)), h m (by omega)]
noncomputable def lineE (n : Nt) (i : Nat) : Int := if nmErr (n.nm.take i) (n.nm.getD i bs0) ≠ 0 then nmErr (n.nm.take i) (n.nm.getD i bs0) else lnErr (n.ln.getD i ln0)
/- a hop of a route -/
def hopE (ls : List Ln) (f : Fl) (k : Nat) : Int :=
  if f.rt.getD k 0 < 0 ∨ (ls.length : Int) ≤ f.rt.getD k 0 then 2
  else if f.rt.getD k 0 ∈ f.rt.take k then 60
  else if f.cl < 0 ∨ (ls.getD (f.rt.getD k 0).toNat ln0).n ≤ f.cl then 2 else 0
def routeE (ls : List Ln) (f : Fl) : Int := if f.rt.length = 0 then 5 else if 4 < f.rt.length then 3 else firstE (hopE ls f) f.rt.length
/- V: the contract is a curve; N: it is finite -/
def trafE (V N : Prop) [Decidable V] [Decidable N] (f : Fl) : Int :=
  if f.lo < 1 ∨ f.hi < f.lo ∨ 1500 < f.hi then 2 else if ¬V then 1 else if f.v.getD 0 0 ≠ 0 then 6 else if ¬N then 2 else 0
/-! the users of a line -/
def hop (n : Nt) (f l : Int) : Int :=
  if f < 0 ∨ (n.fl.length : Int) ≤ f then -1
  else if l ∈ (n.fl.getD f.toNat fl0).rt then ((n.fl.getD f.toNat fl0).rt.idxOf l : Nat) else -1
theorem hop_nn {n : Nt} {i : Nat} {l : Int} (h : i < n.fl.length) : 0 ≤ hop n i l ↔ l ∈ (n.fl.getD i fl0).rt := by
  unfold hop
  rw [if_neg (by omega), Int.toNat_natCast]
  split
  · exact ⟨fun _ => by assumption, fun _ => by omega⟩
  · exact ⟨fun h => by omega, fun h => absurd h (by assumption)⟩
def usr (n : Nt) (l : Int) : Nat → List Int
  | 0 => []
  | i + 1 => if 0 ≤ hop n i l then usr n l i ++ [(i : Int)] else usr n l i
def users (n : Nt) (l : Int) : List Int := usr n l n.fl.length
theorem usr_len {n : Nt} {l : Int} : ∀ {i : Nat}, (usr n l i).length ≤ i
  | 0 => by simp [usr]
  | i + 1 => by
    have := usr_len (n := n) (l := l) (i := i)
    simp only [usr]; split <;> simp <;> omega
theorem mem_usr {n : Nt} {l x : Int} : ∀ {i : Nat}, x ∈ usr n l i ↔ ∃ j : Nat, j < i ∧ x = j ∧ 0 ≤ hop n j l
  | 0 => by simp [usr]
  | i + 1 => by
    have ih := mem_usr (n := n) (l := l) (x := x) (i := i)
    simp only [usr]
    split
    · rename_i h
      rw [List.mem_append, ih, List.mem_singleton]
      constructor
      · rintro (⟨j, h1, h2, h3⟩ | h1)
        · exact ⟨j, by omega, h2, h3⟩
        · exact ⟨i, by omega, h1, h⟩
      · rintro ⟨j, h1, h2, h3⟩
        by_cases e : j = i
        · subst e; exact .inr h2
        · exact .inl ⟨j, by omega, h2, h3⟩
    · rename_i h
      rw [ih]
      constructor
      · rintro ⟨j, h1, h2, h3⟩; exact ⟨j, by omega, h2, h3⟩
      · rintro ⟨j, h1, h2, h3⟩
        by_cases e : j = i
        · subst e; exact absurd h3 h
        · exact ⟨j, by omega, h2, h3⟩
theorem users_bd {n : Nt} {l x : Int} (h : x ∈ users n l) : 0 ≤ x ∧ x < n.fl.length := by
  obtain ⟨j, h1, h2, _⟩ := mem_usr.1 h; omega
def mbr (n : Nt) (c : Int) : List Int → List Int
  | [] => []
  | x :: r => if (n.fl.getD x.toNat fl0).cl = c then x :: mbr n c r else mbr n c r
def members (n : Nt) (l c : Int) : List Int := mbr n c (users n l)
theorem mbr_append {n : Nt} {c : Int} : ∀ {a b : List Int}, mbr n c (a ++ b) = mbr n c a ++ mbr n c b
  | [], b => rfl
  | x :: a, b => by simp only [List.cons_append, mbr]; rw [mbr_append]; split <;> rfl
theorem mem_mbr {n : Nt} {c x : Int} : ∀ {a : List Int}, x ∈ mbr n c a ↔ x ∈ a ∧ (n.fl.getD x.toNat fl0).cl = c
  | [] => by simp [mbr]
  | y :: a => by
    simp only [mbr]
    split
    · rename_i h
      rw [List.mem_cons, List.mem_cons, mem_mbr]
      constructor
      · rintro (rfl | ⟨h1, h2⟩)
        · exact ⟨.inl rfl, h⟩
        · exact ⟨.inr h1, h2⟩
      · rintro ⟨rfl | h1, h2⟩
        · exact .inl rfl
        · exact .inr ⟨h1, h2⟩
    · rename_i h
      rw [List.mem_cons, mem_mbr]
      constructor
      · rintro ⟨h1, h2⟩; exact ⟨.inr h1, h2⟩
      · rintro ⟨rfl | h1, h2⟩
        · exact absurd h2 h
        · exact ⟨h1, h2⟩
theorem mbr_len {n : Nt} {c : Int} : ∀ {a : List Int}, (mbr n c a).length ≤ a.length
  | [] => by simp [mbr]
  | y :: a => by
    have := mbr_len (n := n) (c := c) (a := a)
    simp only [mbr]; split <;> simp <;> omega
theorem mbr_step {n : Nt} {c : Int} {l : List Int} {i : Nat} (h : i < l.length) : mbr n c (l.take (i + 1)) = if (n.fl.getD (l.getD i 0).toNat fl0).cl = c then mbr n c (l.take i) ++ [l.getD i 0] else mbr n c (l.take i) := by
  rw [List.take_succ_eq_append_getElem h, mbr_append]
  have e : l.getD i 0 = l[i] := by simp [List.getD_eq_getElem?_getD, h]
  rw [e]
  simp only [mbr]; split <;> simp
/- the sizes of some flows -/
def szs (n : Nt) : List Int → Int × Int
  | [] => (1, 1)
  | x :: r => (r.foldl (fun a y => (min a.1 (n.fl.getD y.toNat fl0).lo, max a.2 (n.fl.getD y.toNat fl0).hi)) ((n.fl.getD x.toNat fl0).lo, (n.fl.getD x.toNat fl0).hi))
theorem szs_step {n : Nt} {l : List Int} {y : Int} (h : l ≠ []) : szs n (l ++ [y]) = (min (szs n l).1 (n.fl.getD y.toNat fl0).lo, max (szs n l).2 (n.fl.getD y.toNat fl0).hi) := by
  cases l with
  | nil => exact absurd rfl h
  | cons x r => simp only [List.cons_append, szs, List.foldl_append, List.foldl_cons, List.foldl_nil]
theorem szs_one {n : Nt} {y : Int} : szs n [y] = ((n.fl.getD y.toNat fl0).lo, (n.fl.getD y.toNat fl0).hi) := rfl
open Classical in
noncomputable def findF (n : Nt) (s : ByteArray) : Nat → Int
  | 0 => -1
  | i + 1 => if 0 ≤ findF n s i then findF n s i else if (n.fl.getD i fl0).nm = s then (i : Int) else -1
end Go.Np
end
section
namespace Go.Np
open Go.Cv
def FinP (vs : List Int) : Prop := vs.getD (vs.length - 1) 0 ≠ INF
open Classical in
noncomputable def flowE (n : Nt) (i : Nat) : Int :=
  if nmErr ((n.fl.take i).map (·.nm)) (n.fl.getD i fl0).nm ≠ 0 then nmErr ((n.fl.take i).map (·.nm)) (n.fl.getD i fl0).nm
  else if routeE n.ln (n.fl.getD i fl0) ≠ 0 then routeE n.ln (n.fl.getD i fl0)
  else trafE (ValidP (n.fl.getD i fl0).v (n.fl.getD i fl0).p (n.fl.getD i fl0).q) (FinP (n.fl.getD i fl0).v) (n.fl.getD i fl0)
noncomputable def chkN (n : Nt) : Int :=
  if n.ln.length = 0 ∨ 8 < n.ln.length ∨ 10 < n.fl.length then 3
  else if n.nm.length ≠ n.ln.length then 2
  else if firstE (lineE n) n.ln.length ≠ 0 then firstE (lineE n) n.ln.length
  else firstE (flowE n) n.fl.length
theorem chkN_line {n : Nt} {i : Nat} (h1 : ¬(n.ln.length = 0 ∨ 8 < n.ln.length ∨ 10 < n.fl.length)) (h2 : n.nm.length = n.ln.length) (hi : i < n.ln.length) (h : ∀ j < i, lineE n j = 0) (hn : lineE n i ≠ 0) : chkN n = lineE n i := by
  unfold chkN
  rw [if_neg h1, if_neg (by omega), firstE_at hi h hn, if_pos hn]
theorem chkN_flow {n : Nt} {i : Nat} (h1 : ¬(n.ln.length = 0 ∨ 8 < n.ln.length ∨ 10 < n.fl.length)) (h2 : n.nm.length = n.ln.length) (hl : ∀ j < n.ln.length, lineE n j = 0) (hi : i < n.fl.length) (h : ∀ j < i, flowE n j = 0) (hn : flowE n i ≠ 0) : chkN n = flowE n i := by
  unfold chkN
  rw [if_neg h1, if_neg (by omega), firstE_all hl, if_neg (by simp), firstE_at hi h hn]
theorem chkN_ok {n : Nt} (h1 : ¬(n.ln.length = 0 ∨ 8 < n.ln.length ∨ 10 < n.fl.length)) (h2 : n.nm.length = n.ln.length) (hl : ∀ j < n.ln.length, lineE n j = 0) (h : ∀ j < n.fl.length, flowE n j = 0) : chkN n = 0 := by
  unfold chkN
  rw [if_neg h1, if_neg (by omega), firstE_all hl, if_neg (by simp), firstE_all h]
theorem chkN_zero {n : Nt} (h : chkN n = 0) : ¬(n.ln.length = 0 ∨ 8 < n.ln.length ∨ 10 < n.fl.length) ∧ n.nm.length = n.ln.length ∧ (∀ j < n.ln.length, lineE n j = 0) ∧ ∀ j < n.fl.length, flowE n j = 0 := by
  unfold chkN at h
  split at h
  · omega
  · split at h
    · omega
    · split at h
      · contradiction
      · rename_i h1 h2 h3
        exact ⟨h1, by omega, firstE_zero (by omega), firstE_zero h⟩
/-! the networks that are made -/
def lname (i : Nat) : ByteArray := ⟨#[(97 + i).toUInt8]⟩
def fname (i : Nat) : ByteArray := ⟨#[(102 + i).toUInt8]⟩
structure FlG (m k : Nat) (f : Fl) : Prop where
  cl : 0 ≤ f.cl ∧ f.cl < k
  lo : 1 ≤ f.lo ∧ f.lo ≤ 3
  hi : f.lo ≤ f.hi ∧ f.hi ≤ 7
  r1 : 1 ≤ f.rt.length ∧ f.rt.length ≤ 3
  rb : ∀ x ∈ f.rt, 0 ≤ x ∧ x < m
  nd : ∀ i j, i < j → j < f.rt.length → f.rt.getD i 0 ≠ f.rt.getD j 0
  ct : ∃ b : Int, 4 ≤ b ∧ b ≤ 16 ∧ 1 ≤ f.p ∧ f.p ≤ 12 ∧ f.v = 0 :: List.replicate f.p.toNat b ∧ 0 ≤ f.q ∧ f.q ≤ 3
structure NtG (k : Nat) (n : Nt) : Prop where
  k1 : 1 ≤ k ∧ k ≤ 2
  ll : 1 ≤ n.ln.length ∧ n.ln.length ≤ 4
  nl : n.nm.length = n.ln.length
  nm : ∀ i, i < n.ln.length → n.nm.getD i bs0 = lname i
  le : ∀ l ∈ n.ln, lnErr l = 0 ∧ l.n = k
  fl : n.fl.length ≤ 5
  fn : ∀ i, i < n.fl.length → (n.fl.getD i fl0).nm = fname i
  fg : ∀ f ∈ n.fl, FlG n.ln.length k f
theorem getD_in {α : Type} {l : List α} {d : α} {i : Nat} (h : i < l.length) : l.getD i d ∈ l := by
  rw [List.getD_eq_getElem?_getD, List.getElem?_eq_getElem h]; exact List.getElem_mem h
theorem mem_take {α : Type} {l : List α} {d x : α} {i : Nat} (h : x ∈ l.take i) : ∃ j, j < i ∧ j < l.length ∧ x = l.getD j d := by
  obtain ⟨j, hj, e⟩ := List.mem_iff_getElem.1 h
  rw [List.length_take] at hj
  refine ⟨j, by omega, by omega, ?_⟩
  rw [← e, List.getElem_take]
  simp [List.getD_eq_getElem?_getD, show j < l.length by omega]
theorem lname_word : ∀ i < 4, WordP (lname i) := by decide +kernel
theorem fname_word : ∀ i < 5, WordP (fname i) := by decide +kernel
theorem lname_inj : ∀ i < 4, ∀ j < 4, lname i = lname j → i = j := by decide +kernel
theorem fname_inj : ∀ i < 5, ∀ j < 5, fname i = fname j → i = j := by decide +kernel
theorem nm_fresh {met : List ByteArray} {s : ByteArray} (h : WordP s) (hm : s ∉ met) : nmErr met s = 0 := by
  unfold nmErr; rw [if_neg (fun k => k h), if_neg hm]
theorem FlG.valid {m k : Nat} {f : Fl} (g : FlG m k f) : ValidP f.v f.p f.q ∧ FinP f.v := by
  obtain ⟨b, b1, b2, p1, p2, hv, q1, q2⟩ := g.ct
  have hlen : f.v.length = f.p.toNat + 1 := by rw [hv]; simp
  have hg : ∀ j, j < f.p.toNat + 1 → f.v.getD j 0 = if j = 0 then 0 else b := by
    intro j hj
    rw [hv]
    cases j with
    | zero => rfl
    | succ j => simp [List.getD_eq_getElem?_getD, List.getElem?_replicate, show j < f.p.toNat by omega]
  have hlast : f.v.getD (f.v.length - 1) 0 = b := by rw [hg _ (by omega), if_neg (by omega)]
  refine ⟨⟨by omega, by omega, by omega, by omega, by omega, by omega, by omega, ?_, ?_, ?_, ?_⟩, ?_⟩
  · intro j hj; rw [hg j (by omega)]; split <;> omega
  · intro j hj; rw [hg j (by omega), hg (j + 1) (by omega)]; split <;> split <;> omega
  · intro h; rw [hlast] at h; omega
  · intro _; rw [hlast, hg _ (by omega)]; split <;> omega
  · unfold FinP; rw [hlast]; unfold INF; omega
theorem FlG.route {m k : Nat} {ls : List Ln} {f : Fl} (g : FlG m k f) (hm : ls.length = m) (hk : ∀ l ∈ ls, l.n = k) : routeE ls f = 0 := by
  have r1 := g.r1
  unfold routeE
  rw [if_neg (by omega), if_neg (by omega)]
  apply firstE_all
  intro i hi
  have hx := g.rb _ (getD_in (d := 0) hi)
  have hc := g.cl
  unfold hopE
  rw [if_neg (by omega), if_neg, if_neg]
  · have := hk (ls.getD (f.rt.getD i 0).toNat ln0) (getD_in (by omega))
    omega
  · intro h
    obtain ⟨j, hj, _, e⟩ := mem_take (d := 0) h
    exact g.nd j i hj hi e.symm
theorem NtG.line {k : Nat} {n : Nt} (g : NtG k n) : ∀ i < n.ln.length, lineE n i = 0 := by
  intro i hi
  have h4 := g.ll.2
  have e := g.nm i hi
  have hf : nmErr (n.nm.take i) (n.nm.getD i bs0) = 0 := by
    rw [e]
    refine nm_fresh (lname_word i (by omega)) fun h => ?_
    obtain ⟨j, hj, hj2, e2⟩ := mem_take (d := bs0) h
    rw [g.nm j (by omega)] at e2
    have := lname_inj i (by omega) j (by omega) e2
    omega
  unfold lineE
  rw [hf, if_neg (by simp)]
  exact (g.le _ (getD_in hi)).1
theorem NtG.flow {k : Nat} {n : Nt} (g : NtG k n) : ∀ i < n.fl.length, flowE n i = 0 := by
  intro i hi
  have h5 := g.fl
  have e := g.fn i hi
  have hf : nmErr ((n.fl.take i).map (·.nm)) (n.fl.getD i fl0).nm = 0 := by
    rw [e]
    refine nm_fresh (fname_word i (by omega)) fun h => ?_
    obtain ⟨x, hx, e1⟩ := List.mem_map.1 h
    obtain ⟨j, hj, hj2, e2⟩ := mem_take (d := fl0) hx
    rw [e2, g.fn j (by omega)] at e1
    have := fname_inj j (by omega) i (by omega) e1
    omega
  have G := g.fg _ (getD_in (d := fl0) hi)
  have hr := G.route rfl (fun l hl => (g.le l hl).2)
  have hv := G.valid
  unfold flowE
  rw [hf, if_neg (by simp), hr, if_neg (by simp)]
  have l1 := G.lo
  have l2 := G.hi
  obtain ⟨b, _, _, _, _, hv0, _⟩ := G.ct
  unfold trafE
  rw [if_neg (by omega), if_neg (fun h => h hv.1), if_neg (by rw [hv0]; simp), if_neg (fun h => h hv.2)]
theorem NtG.chk {k : Nat} {n : Nt} (g : NtG k n) : chkN n = 0 := by
  have h1 := g.ll
  have h2 := g.fl
  exact chkN_ok (by omega) g.nl g.line g.flow
end Go.Np
end
