/-
  A text of the proofs of this seat: lemmas that the statements' proofs use; it states nothing of the program by itself beyond the contracts that its theorems bear. Conditions: those that stand in each theorem. Its short name: Pl.
-/
set_option linter.unusedVariables false
set_option linter.unusedSimpArgs false
section
namespace Go.Cv
/-! plain laws of functions that repeat with a gain -/
def Per (F : Nat → Int) (s p : Nat) (q : Int) : Prop := ∀ t, s ≤ t → F (t + p) = F t + q
theorem Per.mono {F s s' p q} (h : Per F s p q) (hs : s ≤ s') : Per F s' p q := fun t ht => h t (by omega)
theorem Per.mul {F s p q} (h : Per F s p q) : ∀ k : Nat, Per F s (k * p) (k * q)
  | 0 => fun t _ => by simp
  | k + 1 => fun t ht => by
    have h1 := Per.mul h k t ht
    have h2 := h (t + k * p) (by omega)
    rw [show t + (k + 1) * p = t + k * p + p by rw [Nat.add_mul]; omega, h2, h1]
    push_cast; rw [Int.add_mul]; omega
theorem Per.back {F s s' n p Q q} (hn : 1 ≤ n) (h : Per F s n Q) (h' : Per F s' p q) : Per F s p q := by
  intro t ht
  have h1 := h.mul s' t ht
  have h2 := h.mul s' (t + p) (by omega)
  have hle : s' ≤ t + s' * n := by have := Nat.mul_le_mul_left s' hn; omega
  have h3 := h' (t + s' * n) hle
  rw [show t + s' * n + p = t + p + s' * n by omega, h2, h1] at h3
  omega
theorem Per.uniq {F s s' p q q'} (h : Per F s p q) (h' : Per F s' p q') : q = q' := by
  have h1 := h (max s s') (by omega)
  have h2 := h' (max s s') (by omega)
  omega
/- p is the least period -/
def Min (F : Nat → Int) (p : Nat) : Prop := ∀ s' p' q', 1 ≤ p' → Per F s' p' q' → p ≤ p'
theorem Per.dvd {F s p n q Q} (hp : 1 ≤ p) (h : Per F s p q) (hm : Min F p) (hn : Per F s n Q) : p ∣ n := by
  rcases Nat.eq_zero_or_pos (n % p) with h0 | h0
  · exact Nat.dvd_of_mod_eq_zero h0
  · have hr : Per F s (n % p) (Q - (n / p : Nat) * q) := by
      intro t ht
      have h1 := hn t ht
      have h2 := h.mul (n / p) (t + n % p) (by omega)
      have h3 := Nat.div_add_mod n p
      rw [show t + n % p + n / p * p = t + n by rw [Nat.mul_comm]; omega, h1] at h2
      omega
    have := hm s (n % p) _ h0 hr
    have := Nat.mod_lt n hp
    omega
theorem exists_min {F s n Q} (hn : 1 ≤ n) (h : Per F s n Q) : ∃ p q, 1 ≤ p ∧ Per F s p q ∧ Min F p := by
  have key : ∀ (k n : Nat) (s : Nat) (Q : Int), n ≤ k → 1 ≤ n → Per F s n Q → ∃ s' p q, 1 ≤ p ∧ Per F s' p q ∧ Min F p := by
    intro k
    induction k with
    | zero => intro n s Q h1 h2; omega
    | succ k ih =>
      intro n s Q hk hn h
      by_cases hm : Min F n
      · exact ⟨s, n, Q, hn, h, hm⟩
      · simp only [Min, Classical.not_forall] at hm
        obtain ⟨s', p', q', hp', hq, hlt⟩ := hm
        exact ih p' s' q' (by omega) hp' hq
  obtain ⟨s', p, q, hp, hq, hm⟩ := key n n s Q (by omega) hn h
  exact ⟨p, q, hp, Per.back hn h hq, hm⟩
/- what the programs ask of a period -/
def Fits (F : Nat → Int) (s n : Nat) (Q : Int) (p : Nat) : Prop := n % p = 0 ∧ Q * p % n = 0 ∧ ∀ t, s ≤ t → t < s + n → F (t + p) = F t + Q * p / n
theorem fits_of {F s n Q p q} (hn : 1 ≤ n) (h : Per F s n Q) (hp : p ∣ n) (hq : Per F s p q) : Fits F s n Q p ∧ Q * p / n = q := by
  obtain ⟨k, rfl⟩ := hp
  have h1 := hq.mul k
  rw [Nat.mul_comm] at h1
  have hQ := h.uniq h1
  have e : Q * (p : Int) = q * ((p * k : Nat) : Int) := by rw [hQ]; push_cast; ac_rfl
  have hne : ((p * k : Nat) : Int) ≠ 0 := by omega
  have e2 : Q * (p : Int) / ((p * k : Nat) : Int) = q := by rw [e]; exact Int.mul_ediv_cancel _ hne
  exact ⟨⟨Nat.mul_mod_right p k, by rw [e]; exact Int.mul_emod_left _ _, fun t ht _ => by rw [e2]; exact hq t ht⟩, e2⟩
theorem Fits.min {F s n Q p} (hn : 1 ≤ n) (h : Per F s n Q) (hl : ∀ p', 1 ≤ p' → p' < p → ¬Fits F s n Q p') : Min F p := by
  obtain ⟨p0, q0, h0, hq0, hm⟩ := exists_min hn h
  have hd := hq0.dvd h0 hm h
  have hf0 := (fits_of hn h hd hq0).1
  have : p ≤ p0 := by
    rcases Nat.lt_or_ge p0 p with h1 | h1
    · exact absurd hf0 (hl p0 h0 h1)
    · exact h1
  intro s' p' q' hp' hq'
  have := hm s' p' q' hp' hq'
  omega
/- the least start -/
def MinS (F : Nat → Int) (s p : Nat) (q : Int) : Prop := ∀ s', Per F s' p q → s ≤ s'
abbrev INF : Int := 4611686018427387904
def vals (F : Nat → Int) (n : Nat) : List Int := (List.range n).map F
/- the normal form of a function that repeats -/
def NF (F : Nat → Int) (vs : List Int) (p : Nat) (q : Int) : Prop := ∃ s, 1 ≤ p ∧ Per F s p q ∧ Min F p ∧ MinS F s p q ∧ vs = vals F (s + p)
theorem NF.uniq {F vs p q vs' p' q'} (h : NF F vs p q) (h' : NF F vs' p' q') : vs = vs' ∧ p = p' ∧ q = q' := by
  obtain ⟨s, h2, h3, h4, h5, h6⟩ := h
  obtain ⟨s', g2, g3, g4, g5, g6⟩ := h'
  have e1 := h4 s' p' q' g2 g3
  have e2 := g4 s p q h2 h3
  have : p = p' := by omega
  subst this
  have hq := h3.uniq g3
  subst hq
  have e3 := h5 s' g3
  have e4 := g5 s h3
  have : s = s' := by omega
  subst this
  exact ⟨by rw [h6, g6], rfl, rfl⟩
/- what ends in the infinite -/
theorem NF.inf {F : Nat → Int} {m : Nat} (h1 : ∀ t, m ≤ t → F t = INF) (h2 : ∀ t < m, F t ≠ INF) : NF F (vals F (m + 1)) 1 0 := by
  refine ⟨m, by omega, fun t ht => by rw [h1 t ht, h1 (t + 1) (by omega)]; rfl, fun _ p' _ hp' _ => hp', fun s' hs' => ?_, rfl⟩
  rcases Nat.lt_or_ge s' m with h | h
  · have := hs' (m - 1) (by omega)
    rw [show m - 1 + 1 = m by omega, h1 m (by omega)] at this
    exact absurd (by omega) (h2 (m - 1) (by omega))
  · exact h

/-! the function of a curve -/
def val (vs : List Int) (p : Nat) (q : Int) (t : Nat) : Int :=
  if t < vs.length then vs.getD t 0 else
  if vs.getD (t - ((t - vs.length) / p + 1) * p) 0 = INF then INF else vs.getD (t - ((t - vs.length) / p + 1) * p) 0 + ((t - vs.length) / p + 1 : Nat) * q
def ValidP (vs : List Int) (p i : Int) : Prop :=
  1 ≤ vs.length ∧ vs.length ≤ 400 ∧ 1 ≤ p ∧ p ≤ 120 ∧ p ≤ vs.length ∧ 0 ≤ i ∧ i ≤ 1073741824 ∧
  (∀ j < vs.length, vs.getD j 0 = 4611686018427387904 ∨ 0 ≤ vs.getD j 0 ∧ vs.getD j 0 ≤ 1073741824) ∧
  (∀ j, j + 1 < vs.length → vs.getD j 0 ≤ vs.getD (j + 1) 0) ∧
  (vs.getD (vs.length - 1) 0 = 4611686018427387904 → p = 1 ∧ i = 0) ∧
  (vs.getD (vs.length - 1) 0 ≠ 4611686018427387904 → vs.getD (vs.length - p.toNat) 0 + i ≥ vs.getD (vs.length - 1) 0)
structure VF (vs : List Int) (p : Nat) (q : Int) : Prop where
  n1 : 1 ≤ vs.length
  n2 : vs.length ≤ 400
  p1 : 1 ≤ p
  p2 : p ≤ 120
  pn : p ≤ vs.length
  q0 : 0 ≤ q
  q1 : q ≤ 1073741824
  v : ∀ j < vs.length, vs.getD j 0 = INF ∨ 0 ≤ vs.getD j 0 ∧ vs.getD j 0 ≤ 1073741824
  mono : ∀ j k, j ≤ k → k < vs.length → vs.getD j 0 ≤ vs.getD k 0
  inf : vs.getD (vs.length - 1) 0 = INF → p = 1 ∧ q = 0
  fin : vs.getD (vs.length - 1) 0 ≠ INF → vs.getD (vs.length - p) 0 + q ≥ vs.getD (vs.length - 1) 0
end Go.Cv
end
section
namespace Go.Fq
/-! Fractions of the program as rational numbers. -/
def MT : Nat := 1073741824
def Sm (r : Rat) : Prop := r.num.natAbs ≤ MT ∧ r.den ≤ MT
instance (r : Rat) : Decidable (Sm r) := inferInstanceAs (Decidable (_ ∧ _))
def VF (a : Int × Int) : Prop := 1 ≤ a.2 ∧ a.2 ≤ 1073741824 ∧ -1073741824 ≤ a.1 ∧ a.1 ≤ 1073741824 ∧ Nat.gcd a.1.natAbs a.2.natAbs = 1
instance (a : Int × Int) : Decidable (VF a) := inferInstanceAs (Decidable (_ ∧ _ ∧ _ ∧ _ ∧ _))
def val (a : Int × Int) : Rat := Rat.divInt a.1 a.2
def enc (r : Rat) : Int × Int := (r.num, r.den)
def fenc (r : Rat) : Int × Int × Int := if Sm r then (r.num, r.den, 0) else (0, 0, 3)
def fnew (n d : Int) : Int × Int × Int := if d = 0 then (0, 0, 2) else fenc (Rat.divInt n d)
theorem VF.num {a} (h : VF a) : (val a).num = a.1 := by
  obtain ⟨h1, h2, h3, h4, h5⟩ := h
  unfold val
  rw [Rat.num_divInt, Int.gcd, Nat.gcd_comm, h5]
  have : a.2.sign = 1 := Int.sign_eq_one_of_pos (by omega)
  simp [this]
theorem VF.den {a} (h : VF a) : ((val a).den : Int) = a.2 := by
  obtain ⟨h1, h2, h3, h4, h5⟩ := h
  unfold val
  rw [Rat.den_divInt, Int.gcd, Nat.gcd_comm, h5, if_neg (by omega)]
  simp; omega
theorem VF.sm {a} (h : VF a) : Sm (val a) := by
  have h1 := h.num; have h2 := h.den
  obtain ⟨k1, k2, k3, k4, k5⟩ := h
  unfold Sm MT; omega
theorem VF.enc {a} (h : VF a) : enc (val a) = a := by
  unfold Fq.enc; rw [h.num, h.den]
theorem VF.add {a b} (h : VF a) (k : VF b) : fnew (a.1 * b.2 + b.1 * a.2) (a.2 * b.2) = fenc (val a + val b) := by
  have ha := h.1; have hb := k.1
  have : a.2 * b.2 ≠ 0 := Int.mul_ne_zero (by omega) (by omega)
  unfold fnew val
  rw [if_neg this, Rat.divInt_add_divInt _ _ (by omega) (by omega)]
theorem VF.mul {a b} (h : VF a) (k : VF b) : fnew (a.1 * b.1) (a.2 * b.2) = fenc (val a * val b) := by
  have ha := h.1; have hb := k.1
  have : a.2 * b.2 ≠ 0 := Int.mul_ne_zero (by omega) (by omega)
  unfold fnew val
  rw [if_neg this, Rat.divInt_mul_divInt]
end Go.Fq
end
section
namespace Go.Fq
/-! Sums of rational numbers, and weak duality. -/
def sm : Nat → (Nat → Rat) → Rat
  | 0, _ => 0
  | n + 1, f => sm n f + f n
theorem sm_le {f g : Nat → Rat} : ∀ {n : Nat}, (∀ i < n, f i ≤ g i) → sm n f ≤ sm n g
  | 0, _ => by simp [sm]
  | n + 1, h => by
    have h1 := sm_le (f := f) (g := g) (n := n) (fun i hi => h i (by omega))
    have h2 := h n (by omega)
    simp only [sm]; grind
theorem sm_congr {f g : Nat → Rat} : ∀ {n : Nat}, (∀ i < n, f i = g i) → sm n f = sm n g
  | 0, _ => by simp [sm]
  | n + 1, h => by simp only [sm]; rw [sm_congr (n := n) (fun i hi => h i (by omega)), h n (by omega)]
theorem sm_add {f g : Nat → Rat} : ∀ {n : Nat}, sm n (fun i => f i + g i) = sm n f + sm n g
  | 0 => by simp only [sm]; exact (Rat.add_zero 0).symm
  | n + 1 => by simp only [sm]; rw [sm_add]; grind
theorem sm_mul {f : Nat → Rat} {c : Rat} : ∀ {n : Nat}, sm n (fun i => f i * c) = sm n f * c
  | 0 => by simp [sm]
  | n + 1 => by simp only [sm]; rw [sm_mul]; grind
theorem sm_zero {n : Nat} : sm n (fun _ => 0) = 0 := by
  induction n with
  | zero => rfl
  | succ n ih => simp only [sm]; rw [ih]; grind
theorem sm_comm {f : Nat → Nat → Rat} {m : Nat} : ∀ {n : Nat}, sm n (fun i => sm m (fun j => f i j)) = sm m (fun j => sm n (fun i => f i j))
  | 0 => by simp only [sm]; exact sm_zero.symm
  | n + 1 => by
    simp only [sm]; rw [sm_comm (n := n), ← sm_add]
/- weak duality -/
theorem weak {n m : Nat} {a : Nat → Nat → Rat} {b c x y : Nat → Rat} (hx : ∀ j < n, 0 ≤ x j) (hc : ∀ j < n, sm m (fun i => a i j * y i) ≤ c j)
    (hb : ∀ i < m, b i * y i ≤ sm n (fun j => a i j * x j) * y i) : sm m (fun i => b i * y i) ≤ sm n (fun j => c j * x j) := by
  have h1 : sm m (fun i => b i * y i) ≤ sm m (fun i => sm n (fun j => a i j * x j) * y i) := sm_le hb
  have h2 : sm m (fun i => sm n (fun j => a i j * x j) * y i) = sm n (fun j => sm m (fun i => a i j * y i) * x j) := by
    have e1 : sm m (fun i => sm n (fun j => a i j * x j) * y i) = sm m (fun i => sm n (fun j => a i j * x j * y i)) := sm_congr (fun i _ => sm_mul.symm)
    have e2 : sm n (fun j => sm m (fun i => a i j * y i) * x j) = sm n (fun j => sm m (fun i => a i j * x j * y i)) :=
      sm_congr (fun j _ => by rw [← sm_mul]; exact sm_congr (fun i _ => by grind))
    rw [e1, e2, sm_comm]
  have h3 : sm n (fun j => sm m (fun i => a i j * y i) * x j) ≤ sm n (fun j => c j * x j) :=
    sm_le (fun j hj => Rat.mul_le_mul_of_nonneg_right (hc j hj) (hx j hj))
  grind
end Go.Fq
end
section
namespace Go.Fq
abbrev F := Int × Int
abbrev R := Int × Int × Int
/-! ### programmes -/
abbrev Rw := List F × Int × F
structure Pr where
  c : List F
  r : List Rw
def keeps (w : Rw) (k : Int) : Prop := (w.2.1 = 1 ∧ k ≤ 0) ∨ (w.2.1 = 2 ∧ 0 ≤ k) ∨ (w.2.1 = 3 ∧ k = 0)
end Go.Fq
end
section
namespace Go.Np
/-! networks, plainly -/
structure Ln where
  k : Int
  c : Int
  n : Int
  w : List Int
  s : List Int
structure Fl where
  nm : ByteArray
  rt : List Int
  cl : Int
  lo : Int
  hi : Int
  v : List Int
  p : Int
  q : Int
structure Nt where
  nm : List ByteArray
  ln : List Ln
  fl : List Fl
abbrev ln0 : Ln := ⟨0, 0, 0, [], []⟩
abbrev fl0 : Fl := ⟨ByteArray.empty, [], 0, 0, 0, [], 0, 0⟩
abbrev bs0 : ByteArray := ByteArray.empty
def bt (s : ByteArray) (i : Nat) : Int := ((s[i]?).getD 0).toNat
def okC (c : Int) : Prop := c = 45 ∨ (48 ≤ c ∧ c ≤ 57) ∨ (97 ≤ c ∧ c ≤ 122)
def WordP (s : ByteArray) : Prop := 1 ≤ s.size ∧ s.size ≤ 12 ∧ (97 ≤ bt s 0 ∧ bt s 0 ≤ 122) ∧ ∀ i, i < s.size → okC (bt s i)
instance {c : Int} : Decidable (okC c) := by unfold okC; infer_instance
instance {s : ByteArray} : Decidable (WordP s) := by unfold WordP; infer_instance
def inR (l : List Int) (a b : Int) : Prop := ∀ x ∈ l, a ≤ x ∧ x ≤ b
instance {l : List Int} {a b : Int} : Decidable (inR l a b) := by unfold inR; infer_instance
/- the lists of a line: its error -/
def lsErr (l : Ln) : Int :=
  if l.k = 3 ∧ ¬((l.w.length : Int) = l.n ∧ inR l.w 1 20) ∨ l.k = 4 ∧ ¬((l.w.length : Int) = l.n ∧ inR l.w 1 6000) ∨ l.k = 5 ∧ ¬(1 ≤ l.s.length ∧ l.s.length ≤ 40 ∧ inR l.s (-1) (l.n - 1)) then 2
  else if (l.k ≠ 3 ∧ l.k ≠ 4 ∧ l.w.length ≠ 0) ∨ (l.k ≠ 5 ∧ l.s.length ≠ 0) then 6 else 0
def lnErr (l : Ln) : Int :=
  if l.k < 1 ∨ 5 < l.k then 9
  else if l.c < 1 ∨ 4000 < l.c ∨ l.n < 1 ∨ 6 < l.n then 2
  else lsErr l
open Classical in
noncomputable def nmErr (met : List ByteArray) (s : ByteArray) : Int := if ¬WordP s then 4 else if s ∈ met then 60 else 0
/- the first error of some -/
def firstE (f : Nat → Int) : Nat → Int
  | 0 => 0
  | m + 1 => if firstE f m ≠ 0 then firstE f m else f m
theorem firstE_all {f : Nat → Int} : ∀ {m : Nat}, (∀ i < m, f i = 0) → firstE f m = 0
  | 0, _ => rfl
  | m + 1, h => by
    simp only [firstE]
    rw [firstE_all (fun i hi => h i (by omega)), if_neg (by simp)]
    exact h m (by omega)
theorem firstE_ge {f : Nat → Int} {i : Nat} : ∀ {m : Nat}, i ≤ m → firstE f i ≠ 0 → firstE f m = firstE f i
  | 0, h, _ => by have : i = 0 := by omega
                  subst this; rfl
  | m + 1, h, hn => by
    by_cases e : i = m + 1
    · subst e; rfl
    · have := firstE_ge (m := m) (by omega) hn
      simp only [firstE]
      rw [this, if_pos hn]
theorem firstE_at {f : Nat → Int} {i m : Nat} (hi : i < m) (h : ∀ j < i, f j = 0) (hn : f i ≠ 0) : firstE f m = f i := by
  have e : firstE f (i + 1) = f i := by simp only [firstE]; rw [firstE_all h, if_neg (by simp)]
  rw [firstE_ge (i := i + 1) (by omega) (by rw [e]; exact hn), e]
theorem firstE_zero {f : Nat → Int} {m : Nat} (h : firstE f m = 0) : ∀ i < m, f i = 0 := by
  intro i hi
  induction i using Nat.strongRecOn with
  | ind i ih =>
    by_cases hn : f i = 0
    · exact hn
    · have := firstE_at hi (fun j hj => ih j hj (by omega)) hn
      rw [h] at this; exact absurd this.symm hn
noncomputable def lineE (n : Nt) (i : Nat) : Int := if nmErr (n.nm.take i) (n.nm.getD i bs0) ≠ 0 then nmErr (n.nm.take i) (n.nm.getD i bs0) else lnErr (n.ln.getD i ln0)
/- a hop of a route -/
def hopE (ls : List Ln) (f : Fl) (k : Nat) : Int :=
  if f.rt.getD k 0 < 0 ∨ (ls.length : Int) ≤ f.rt.getD k 0 then 2
  else if f.rt.getD k 0 ∈ f.rt.take k then 60
  else if f.cl < 0 ∨ (ls.getD (f.rt.getD k 0).toNat ln0).n ≤ f.cl then 2 else 0
def routeE (ls : List Ln) (f : Fl) : Int := if f.rt.length = 0 then 5 else if 4 < f.rt.length then 3 else firstE (hopE ls f) f.rt.length
/- V: the contract is a curve; N: it is finite -/
def trafE (V N : Prop) [Decidable V] [Decidable N] (f : Fl) : Int :=
  if f.lo < 1 ∨ f.hi < f.lo ∨ 1500 < f.hi then 2 else if ¬V then 1 else if f.v.getD 0 0 ≠ 0 then 6 else if ¬N then 2 else 0
/-! the users of a line -/
def hop (n : Nt) (f l : Int) : Int :=
  if f < 0 ∨ (n.fl.length : Int) ≤ f then -1
  else if l ∈ (n.fl.getD f.toNat fl0).rt then ((n.fl.getD f.toNat fl0).rt.idxOf l : Nat) else -1
end Go.Np
end
section
namespace Go.Np
open Go.Cv
def FinP (vs : List Int) : Prop := vs.getD (vs.length - 1) 0 ≠ INF
open Classical in
noncomputable def flowE (n : Nt) (i : Nat) : Int :=
  if nmErr ((n.fl.take i).map (·.nm)) (n.fl.getD i fl0).nm ≠ 0 then nmErr ((n.fl.take i).map (·.nm)) (n.fl.getD i fl0).nm
  else if routeE n.ln (n.fl.getD i fl0) ≠ 0 then routeE n.ln (n.fl.getD i fl0)
  else trafE (ValidP (n.fl.getD i fl0).v (n.fl.getD i fl0).p (n.fl.getD i fl0).q) (FinP (n.fl.getD i fl0).v) (n.fl.getD i fl0)
noncomputable def chkN (n : Nt) : Int :=
  if n.ln.length = 0 ∨ 8 < n.ln.length ∨ 10 < n.fl.length then 3
  else if n.nm.length ≠ n.ln.length then 2
  else if firstE (lineE n) n.ln.length ≠ 0 then firstE (lineE n) n.ln.length
  else firstE (flowE n) n.fl.length
theorem chkN_line {n : Nt} {i : Nat} (h1 : ¬(n.ln.length = 0 ∨ 8 < n.ln.length ∨ 10 < n.fl.length)) (h2 : n.nm.length = n.ln.length) (hi : i < n.ln.length) (h : ∀ j < i, lineE n j = 0) (hn : lineE n i ≠ 0) : chkN n = lineE n i := by
  unfold chkN
  rw [if_neg h1, if_neg (by omega), firstE_at hi h hn, if_pos hn]
theorem chkN_flow {n : Nt} {i : Nat} (h1 : ¬(n.ln.length = 0 ∨ 8 < n.ln.length ∨ 10 < n.fl.length)) (h2 : n.nm.length = n.ln.length) (hl : ∀ j < n.ln.length, lineE n j = 0) (hi : i < n.fl.length) (h : ∀ j < i, flowE n j = 0) (hn : flowE n i ≠ 0) : chkN n = flowE n i := by
  unfold chkN
  rw [if_neg h1, if_neg (by omega), firstE_all hl, if_neg (by simp), firstE_at hi h hn]
theorem chkN_ok {n : Nt} (h1 : ¬(n.ln.length = 0 ∨ 8 < n.ln.length ∨ 10 < n.fl.length)) (h2 : n.nm.length = n.ln.length) (hl : ∀ j < n.ln.length, lineE n j = 0) (h : ∀ j < n.fl.length, flowE n j = 0) : chkN n = 0 := by
  unfold chkN
  rw [if_neg h1, if_neg (by omega), firstE_all hl, if_neg (by simp), firstE_all h]
theorem chkN_zero {n : Nt} (h : chkN n = 0) : ¬(n.ln.length = 0 ∨ 8 < n.ln.length ∨ 10 < n.fl.length) ∧ n.nm.length = n.ln.length ∧ (∀ j < n.ln.length, lineE n j = 0) ∧ ∀ j < n.fl.length, flowE n j = 0 := by
  unfold chkN at h
  split at h
  · omega
  · split at h
    · omega
    · split at h
      · contradiction
      · rename_i h1 h2 h3
        exact ⟨h1, by omega, firstE_zero (by omega), firstE_zero h⟩
/-! the networks that are made -/
def lname (i : Nat) : ByteArray := ⟨#[(97 + i).toUInt8]⟩
def fname (i : Nat) : ByteArray := ⟨#[(102 + i).toUInt8]⟩
structure FlG (m k : Nat) (f : Fl) : Prop where
  cl : 0 ≤ f.cl ∧ f.cl < k
  lo : 1 ≤ f.lo ∧ f.lo ≤ 3
  hi : f.lo ≤ f.hi ∧ f.hi ≤ 7
  r1 : 1 ≤ f.rt.length ∧ f.rt.length ≤ 3
  rb : ∀ x ∈ f.rt, 0 ≤ x ∧ x < m
  nd : ∀ i j, i < j → j < f.rt.length → f.rt.getD i 0 ≠ f.rt.getD j 0
  ct : ∃ b : Int, 4 ≤ b ∧ b ≤ 16 ∧ 1 ≤ f.p ∧ f.p ≤ 12 ∧ f.v = 0 :: List.replicate f.p.toNat b ∧ 0 ≤ f.q ∧ f.q ≤ 3
structure NtG (k : Nat) (n : Nt) : Prop where
  k1 : 1 ≤ k ∧ k ≤ 2
  ll : 1 ≤ n.ln.length ∧ n.ln.length ≤ 4
  nl : n.nm.length = n.ln.length
  nm : ∀ i, i < n.ln.length → n.nm.getD i bs0 = lname i
  le : ∀ l ∈ n.ln, lnErr l = 0 ∧ l.n = k
  fl : n.fl.length ≤ 5
  fn : ∀ i, i < n.fl.length → (n.fl.getD i fl0).nm = fname i
  fg : ∀ f ∈ n.fl, FlG n.ln.length k f
theorem getD_in {α : Type} {l : List α} {d : α} {i : Nat} (h : i < l.length) : l.getD i d ∈ l := by
  rw [List.getD_eq_getElem?_getD, List.getElem?_eq_getElem h]; exact List.getElem_mem h
theorem mem_take {α : Type} {l : List α} {d x : α} {i : Nat} (h : x ∈ l.take i) : ∃ j, j < i ∧ j < l.length ∧ x = l.getD j d := by
  obtain ⟨j, hj, e⟩ := List.mem_iff_getElem.1 h
  rw [List.length_take] at hj
  refine ⟨j, by omega, by omega, ?_⟩
  rw [← e, List.getElem_take]
  simp [List.getD_eq_getElem?_getD, show j < l.length by omega]
theorem lname_word : ∀ i < 4, WordP (lname i) := by decide +kernel
theorem fname_word : ∀ i < 5, WordP (fname i) := by decide +kernel
theorem lname_inj : ∀ i < 4, ∀ j < 4, lname i = lname j → i = j := by decide +kernel
theorem fname_inj : ∀ i < 5, ∀ j < 5, fname i = fname j → i = j := by decide +kernel
theorem nm_fresh {met : List ByteArray} {s : ByteArray} (h : WordP s) (hm : s ∉ met) : nmErr met s = 0 := by
  unfold nmErr; rw [if_neg (fun k => k h), if_neg hm]
theorem FlG.valid {m k : Nat} {f : Fl} (g : FlG m k f) : ValidP f.v f.p f.q ∧ FinP f.v := by
  obtain ⟨b, b1, b2, p1, p2, hv, q1, q2⟩ := g.ct
  have hlen : f.v.length = f.p.toNat + 1 := by rw [hv]; simp
  have hg : ∀ j, j < f.p.toNat + 1 → f.v.getD j 0 = if j = 0 then 0 else b := by
    intro j hj
    rw [hv]
    cases j with
    | zero => rfl
    | succ j => simp [List.getD_eq_getElem?_getD, List.getElem?_replicate, show j < f.p.toNat by omega]
  have hlast : f.v.getD (f.v.length - 1) 0 = b := by rw [hg _ (by omega), if_neg (by omega)]
  refine ⟨⟨by omega, by omega, by omega, by omega, by omega, by omega, by omega, ?_, ?_, ?_, ?_⟩, ?_⟩
  · intro j hj; rw [hg j (by omega)]; split <;> omega
  · intro j hj; rw [hg j (by omega), hg (j + 1) (by omega)]; split <;> split <;> omega
  · intro h; rw [hlast] at h; omega
  · intro _; rw [hlast, hg _ (by omega)]; split <;> omega
  · unfold FinP; rw [hlast]; unfold INF; omega
theorem FlG.route {m k : Nat} {ls : List Ln} {f : Fl} (g : FlG m k f) (hm : ls.length = m) (hk : ∀ l ∈ ls, l.n = k) : routeE ls f = 0 := by
  have r1 := g.r1
  unfold routeE
  rw [if_neg (by omega), if_neg (by omega)]
  apply firstE_all
  intro i hi
  have hx := g.rb _ (getD_in (d := 0) hi)
  have hc := g.cl
  unfold hopE
  rw [if_neg (by omega), if_neg, if_neg]
  · have := hk (ls.getD (f.rt.getD i 0).toNat ln0) (getD_in (by omega))
    omega
  · intro h
    obtain ⟨j, hj, _, e⟩ := mem_take (d := 0) h
    exact g.nd j i hj hi e.symm
theorem NtG.line {k : Nat} {n : Nt} (g : NtG k n) : ∀ i < n.ln.length, lineE n i = 0 := by
  intro i hi
  have h4 := g.ll.2
  have e := g.nm i hi
  have hf : nmErr (n.nm.take i) (n.nm.getD i bs0) = 0 := by
    rw [e]
    refine nm_fresh (lname_word i (by omega)) fun h => ?_
    obtain ⟨j, hj, hj2, e2⟩ := mem_take (d := bs0) h
    rw [g.nm j (by omega)] at e2
    have := lname_inj i (by omega) j (by omega) e2
    omega
  unfold lineE
  rw [hf, if_neg (by simp)]
  exact (g.le _ (getD_in hi)).1
theorem NtG.flow {k : Nat} {n : Nt} (g : NtG k n) : ∀ i < n.fl.length, flowE n i = 0 := by
  intro i hi
  have h5 := g.fl
  have e := g.fn i hi
  have hf : nmErr ((n.fl.take i).map (·.nm)) (n.fl.getD i fl0).nm = 0 := by
    rw [e]
    refine nm_fresh (fname_word i (by omega)) fun h => ?_
    obtain ⟨x, hx, e1⟩ := List.mem_map.1 h
    obtain ⟨j, hj, hj2, e2⟩ := mem_take (d := fl0) hx
    rw [e2, g.fn j (by omega)] at e1
    have := fname_inj j (by omega) i (by omega) e1
    omega
  have G := g.fg _ (getD_in (d := fl0) hi)
  have hr := G.route rfl (fun l hl => (g.le l hl).2)
  have hv := G.valid
  unfold flowE
  rw [hf, if_neg (by simp), hr, if_neg (by simp)]
  have l1 := G.lo
  have l2 := G.hi
  obtain ⟨b, _, _, _, _, hv0, _⟩ := G.ct
  unfold trafE
  rw [if_neg (by omega), if_neg (fun h => h hv.1), if_neg (by rw [hv0]; simp), if_neg (fun h => h hv.2)]
theorem NtG.chk {k : Nat} {n : Nt} (g : NtG k n) : chkN n = 0 := by
  have h1 := g.ll
  have h2 := g.fl
  exact chkN_ok (by omega) g.nl g.line g.flow
end Go.Np
end
section
namespace Go.Tp
/-! graphs, plainly -/
abbrev Gr := Nat → Nat → Bool
/- a way of k edges -/
def Way (E : Gr) (k a b : Nat) : Prop := ∃ f : Nat → Nat, f 0 = a ∧ f k = b ∧ ∀ i < k, E (f i) (f (i + 1)) = true
def Rch (E : Gr) (a b : Nat) : Prop := ∃ k, Way E k a b
def Cyc (E : Gr) : Prop := ∃ k a, 0 < k ∧ Way E k a a
theorem Way.zero (E : Gr) (a : Nat) : Way E 0 a a := ⟨fun _ => a, rfl, rfl, fun i hi => by omega⟩
theorem Way.trans {E : Gr} {k l a b c : Nat} (h : Way E k a b) (h' : Way E l b c) : Way E (k + l) a c := by
  obtain ⟨f, f0, f1, f2⟩ := h
  obtain ⟨g, g0, g1, g2⟩ := h'
  refine ⟨fun i => if i ≤ k then f i else g (i - k), by simp [f0], ?_, fun i hi => ?_⟩
  · dsimp only
    by_cases hl : l = 0
    · subst hl; rw [if_pos (by omega)]; simp only [Nat.add_zero]; rw [f1, ← g1, g0]
    · rw [if_neg (by omega), show k + l - k = l by omega, g1]
  · dsimp only
    by_cases h1 : i < k
    · rw [if_pos (by omega), if_pos (by omega)]; exact f2 i h1
    · rw [if_neg (show ¬(i + 1 ≤ k) by omega), show i + 1 - k = i - k + 1 by omega]
      have := g2 (i - k) (by omega)
      by_cases h2 : i = k
      · subst h2
        rw [if_pos (Nat.le_refl _), f1]
        rw [Nat.sub_self, g0] at this
        rw [Nat.sub_self]; exact this
      · rw [if_neg (by omega)]; exact this
theorem Way.one {E : Gr} {a b : Nat} (h : E a b = true) : Way E 1 a b :=
  ⟨fun i => if i = 0 then a else b, rfl, rfl, fun i hi => by have : i = 0 := by omega
                                                             subst this; exact h⟩
theorem Way.last {E : Gr} {k a c : Nat} (h : Way E (k + 1) a c) : ∃ b, Way E k a b ∧ E b c = true := by
  obtain ⟨f, f0, f1, f2⟩ := h
  exact ⟨f k, ⟨f, f0, rfl, fun i hi => f2 i (by omega)⟩, by rw [← f1]; exact f2 k (by omega)⟩
theorem Way.first {E : Gr} {k a c : Nat} (h : Way E (k + 1) a c) : ∃ b, E a b = true ∧ Way E k b c := by
  obtain ⟨f, f0, f1, f2⟩ := h
  exact ⟨f 1, by rw [← f0]; exact f2 0 (by omega), fun i => f (i + 1), rfl, f1, fun i hi => f2 (i + 1) (by omega)⟩
theorem Way.mono {E E' : Gr} (hE : ∀ a b, E a b = true → E' a b = true) {k a b : Nat} (h : Way E k a b) : Way E' k a b := by
  obtain ⟨f, f0, f1, f2⟩ := h
  exact ⟨f, f0, f1, fun i hi => hE _ _ (f2 i hi)⟩
theorem Rch.refl (E : Gr) (a : Nat) : Rch E a a := ⟨0, .zero E a⟩
theorem Rch.one {E : Gr} {a b : Nat} (h : E a b = true) : Rch E a b := ⟨1, .one h⟩
theorem Rch.trans {E : Gr} {a b c : Nat} (h : Rch E a b) (h' : Rch E b c) : Rch E a c := by
  obtain ⟨k, h⟩ := h
  obtain ⟨l, h'⟩ := h'
  exact ⟨_, h.trans h'⟩
theorem Rch.mono {E E' : Gr} (hE : ∀ a b, E a b = true → E' a b = true) {a b : Nat} (h : Rch E a b) : Rch E' a b := by
  obtain ⟨k, h⟩ := h
  exact ⟨k, h.mono hE⟩
theorem Cyc.mono {E E' : Gr} (hE : ∀ a b, E a b = true → E' a b = true) (h : Cyc E) : Cyc E' := by
  obtain ⟨k, a, h0, h⟩ := h
  exact ⟨k, a, h0, h.mono hE⟩
/- what is closed under edges holds all that is reached -/
theorem Rch.closed {E : Gr} {P : Nat → Prop} (hc : ∀ a b, P a → E a b = true → P b) {a b : Nat} (ha : P a) (h : Rch E a b) : P b := by
  obtain ⟨k, f, f0, f1, f2⟩ := h
  have : ∀ i, i ≤ k → P (f i) := by
    intro i
    induction i with
    | zero => intro _; rw [f0]; exact ha
    | succ i ih => intro hi; exact hc _ _ (ih (by omega)) (f2 i (by omega))
  rw [← f1]; exact this k (Nat.le_refl _)
theorem Rch.cyc {E : Gr} {a b : Nat} (h : E a b = true) (h' : Rch E b a) : Cyc E := by
  obtain ⟨k, h'⟩ := h'
  exact ⟨1 + k, a, by omega, (Way.one h).trans h'⟩
theorem Cyc.edge {E : Gr} (h : Cyc E) : ∃ a b, E a b = true ∧ Rch E b a := by
  obtain ⟨k, a, h0, h⟩ := h
  obtain ⟨k, rfl⟩ : ∃ j, k = j + 1 := ⟨k - 1, by omega⟩
  obtain ⟨b, h1, h2⟩ := h.first
  exact ⟨a, b, h1, k, h2⟩
/- the graph of an edge more -/
def addE (E : Gr) (x y : Nat) : Gr := fun a b => E a b || (decide (a = x) && decide (b = y))
theorem addE_true {E : Gr} {x y a b : Nat} : addE E x y a b = true ↔ E a b = true ∨ a = x ∧ b = y := by simp [addE]
/- a way through the edge more has one to x and one from y -/
theorem way_add {E : Gr} {x y : Nat} : ∀ {k a b : Nat}, Way (addE E x y) k a b → Rch E a b ∨ (Rch E a x ∧ Rch E y b)
  | 0, a, b, h => by
    obtain ⟨f, f0, f1, _⟩ := h
    rw [← f0, ← f1]; exact .inl (Rch.refl _ _)
  | k + 1, a, c, h => by
    obtain ⟨b, h1, h2⟩ := h.last
    rcases addE_true.1 h2 with h3 | ⟨rfl, rfl⟩
    · rcases way_add h1 with h4 | ⟨h4, h5⟩
      · exact .inl (h4.trans (.one h3))
      · exact .inr ⟨h4, h5.trans (.one h3)⟩
    · rcases way_add h1 with h4 | ⟨h4, h5⟩
      · exact .inr ⟨h4, .refl _ _⟩
      · exact .inr ⟨h4, .refl _ _⟩
theorem cyc_add {E : Gr} {x y : Nat} (h : ¬Cyc E) (h' : ¬Rch E y x) : ¬Cyc (addE E x y) := by
  intro hc
  obtain ⟨a, b, h1, k, h2⟩ := hc.edge
  rcases addE_true.1 h1 with h3 | ⟨rfl, rfl⟩
  · rcases way_add h2 with h4 | ⟨h4, h5⟩
    · exact h (Rch.cyc h3 h4)
    · exact h' (h5.trans ((Rch.one h3).trans h4))
  · rcases way_add h2 with h4 | ⟨h4, _⟩
    · exact h' h4
    · exact h' h4
/-! lists of different numbers below a bound -/
theorem nodup_le : ∀ {m : Nat} {l : List Nat}, l.Nodup → (∀ x ∈ l, x < m) → l.length ≤ m
  | 0, l, _, h => by
    cases l with
    | nil => simp
    | cons a l => exact absurd (h a (by simp)) (by omega)
  | m + 1, l, hn, h => by
    have h1 : (l.erase m).length ≤ m := nodup_le (hn.erase m) fun x hx => by
      have := (hn.mem_erase_iff).1 hx
      have := h x this.2
      omega
    have := List.length_erase (a := m) (l := l)
    split at this <;> omega
theorem full_of {m : Nat} {l : List Nat} (hn : l.Nodup) (h : ∀ x ∈ l, x < m) (hl : m ≤ l.length) {x : Nat} (hx : x < m) : x ∈ l := by
  apply Classical.byContradiction
  intro hm
  have : (x :: l).length ≤ m := nodup_le (List.nodup_cons.2 ⟨hm, hn⟩) fun y hy => by
    rcases List.mem_cons.1 hy with rfl | hy
    · exact hx
    · exact h y hy
  simp only [List.length_cons] at this
  omega
theorem free_of {m : Nat} {l : List Nat} (hl : l.length < m) : ∃ x, x < m ∧ x ∉ l := by
  apply Classical.byContradiction
  intro h
  have h : ∀ x, x < m → x ∈ l := fun x hx => Classical.byContradiction fun k => h ⟨x, hx, k⟩
  have key : ∀ (m : Nat) (l : List Nat), (∀ x, x < m → x ∈ l) → m ≤ l.length := by
    intro m
    induction m with
    | zero => intro l _; omega
    | succ m ih =>
      intro l h
      have := ih (l.erase m) fun x hx => (List.mem_erase_of_ne (by omega)).2 (h x (by omega))
      have h2 := List.length_erase_of_mem (h m (by omega))
      have h3 := List.length_pos_of_mem (h m (by omega))
      omega
  have := key m l h
  omega
/- a sequence below a bound meets itself -/
theorem meets {m : Nat} {g : Nat → Nat} (h : ∀ i, g i < m) : ∃ i j, i < j ∧ j ≤ m ∧ g i = g j := by
  apply Classical.byContradiction
  intro hc
  have hn : ((List.range (m + 1)).map g).Nodup := by
    rw [List.nodup_iff_pairwise_ne, List.pairwise_map]
    refine List.Pairwise.imp_of_mem (R := (· < ·)) (fun {a b} ha hb hab he => ?_) List.pairwise_lt_range
    rw [List.mem_range] at ha hb
    exact hc ⟨a, b, hab, by omega, he⟩
  have := nodup_le hn (m := m) fun x hx => by
    obtain ⟨i, _, rfl⟩ := List.mem_map.1 hx
    exact h i
  simp at this
  omega
theorem nodup_at {l : List Nat} (h : l.Nodup) {i j : Nat} (hi : i < l.length) (hj : j < l.length) (e : l.getD i 0 = l.getD j 0) : i = j := by
  rw [List.getD_eq_getElem?_getD, List.getD_eq_getElem?_getD, List.getElem?_eq_getElem hi, List.getElem?_eq_getElem hj, Option.getD_some, Option.getD_some] at e
  have hp := List.pairwise_iff_getElem.1 h
  rcases Nat.lt_trichotomy i j with g | g | g
  · exact absurd e (hp i j hi hj g)
  · exact g
  · exact absurd e.symm (hp j i hj hi g)
/-! an order -/
def nx (E : Gr) (m : Nat) (out : List Nat) : Option Nat := (List.range m).find? fun a => !out.contains a && (List.range m).all fun p => !E p a || out.contains p
def kahn (E : Gr) (m : Nat) : Nat → List Nat → Option (List Nat)
  | 0, out => some out
  | k + 1, out => match nx E m out with
    | none => none
    | some a => kahn E m k (out ++ [a])
def ord (E : Gr) (m : Nat) : Option (List Nat) := kahn E m m []
/- edges among the numbers below m, and none from a number to itself -/
structure GOK (E : Gr) (m : Nat) : Prop where
  b : ∀ a b, E a b = true → a < m ∧ b < m
  s : ∀ a, E a a = false
theorem nx_some {E : Gr} {m a : Nat} {out : List Nat} (h : nx E m out = some a) : a < m ∧ a ∉ out ∧ ∀ p, p < m → E p a = true → p ∈ out := by
  unfold nx at h
  have h1 := List.find?_some h
  have h2 := List.mem_of_find?_eq_some h
  simp only [Bool.and_eq_true, Bool.not_eq_true', List.contains_eq_mem, decide_eq_false_iff_not, List.all_eq_true, List.mem_range, Bool.or_eq_true, decide_eq_true_eq] at h1
  refine ⟨List.mem_range.1 h2, h1.1, fun p hp he => ?_⟩
  rcases h1.2 p hp with h3 | h3
  · rw [he] at h3; contradiction
  · exact h3
theorem nx_none {E : Gr} {m : Nat} {out : List Nat} (h : nx E m out = none) {a : Nat} (ha : a < m) (hm : a ∉ out) : ∃ p, p < m ∧ E p a = true ∧ p ∉ out := by
  unfold nx at h
  have h1 := List.find?_eq_none.1 h a (List.mem_range.2 ha)
  simp only [Bool.and_eq_true, Bool.not_eq_true', List.contains_eq_mem, decide_eq_false_iff_not, List.all_eq_true, List.mem_range, Bool.or_eq_true, decide_eq_true_eq, not_and, Classical.not_forall] at h1
  obtain ⟨p, hp, h2⟩ := h1 hm
  simp only [not_or, Bool.not_eq_false] at h2
  exact ⟨p, hp, h2.1, h2.2⟩
/- an order of some numbers: different ones below m, each behind those that lead to it -/
structure Top (E : Gr) (m : Nat) (o : List Nat) : Prop where
  n : o.Nodup
  b : ∀ x ∈ o, x < m
  e : ∀ j, j < o.length → ∀ p, E p (o.getD j 0) = true → ∃ i, i < j ∧ o.getD i 0 = p
theorem Top.nil (E : Gr) (m : Nat) : Top E m [] := ⟨.nil, by simp, by simp⟩
theorem getD_app_l {o : List Nat} {a i : Nat} (h : i < o.length) : (o ++ [a]).getD i 0 = o.getD i 0 := by simp [List.getD_eq_getElem?_getD, List.getElem?_append_left h]
theorem getD_app_r {o : List Nat} {a : Nat} : (o ++ [a]).getD o.length 0 = a := by simp [List.getD_eq_getElem?_getD]
theorem mem_getD {o : List Nat} {x : Nat} (h : x ∈ o) : ∃ i, i < o.length ∧ o.getD i 0 = x := by
  obtain ⟨i, hi, rfl⟩ := List.mem_iff_getElem.1 h
  exact ⟨i, hi, by simp [List.getD_eq_getElem?_getD, hi]⟩
theorem getD_mem {o : List Nat} {i : Nat} (h : i < o.length) : o.getD i 0 ∈ o := by
  rw [List.getD_eq_getElem?_getD, List.getElem?_eq_getElem h]; exact List.getElem_mem h
theorem Top.snoc {E : Gr} {m a : Nat} {o : List Nat} (hE : GOK E m) (h : Top E m o) (ha : nx E m o = some a) : Top E m (o ++ [a]) := by
  obtain ⟨h1, h2, h3⟩ := nx_some ha
  refine ⟨?_, fun x hx => ?_, fun j hj p hp => ?_⟩
  · rw [List.nodup_append]
    exact ⟨h.n, by simp, fun x hx y hy => by rw [List.mem_singleton.1 hy]; intro e; exact h2 (e ▸ hx)⟩
  · rcases List.mem_append.1 hx with hx | hx
    · exact h.b x hx
    · rw [List.mem_singleton.1 hx]; exact h1
  · simp only [List.length_append, List.length_singleton] at hj
    by_cases hl : j < o.length
    · rw [getD_app_l hl] at hp
      obtain ⟨i, hi, e⟩ := h.e j hl p hp
      exact ⟨i, hi, by rw [getD_app_l (by omega)]; exact e⟩
    · have hj : j = o.length := by omega
      subst hj
      rw [getD_app_r] at hp
      obtain ⟨i, hi, e⟩ := mem_getD (h3 p (hE.b _ _ hp).1 hp)
      exact ⟨i, hi, by rw [getD_app_l hi]; exact e⟩
theorem kahn_ok {E : Gr} {m : Nat} (hE : GOK E m) : ∀ {k : Nat} {out : List Nat}, Top E m out → out.length + k = m → match kahn E m k out with
    | some o => Top E m o ∧ o.length = m
    | none => Cyc E
  | 0, out, h, hl => ⟨h, by omega⟩
  | k + 1, out, h, hl => by
    unfold kahn
    match hn : nx E m out with
    | some a => exact kahn_ok hE (h.snoc hE hn) (by simp only [List.length_append, List.length_singleton]; omega)
    | none =>
      show Cyc E
      obtain ⟨a0, ha0, hm0⟩ := free_of (m := m) (l := out) (by omega)
      have hp : ∀ a : {a : Nat // a < m ∧ a ∉ out}, ∃ p : {a : Nat // a < m ∧ a ∉ out}, E p.1 a.1 = true := fun a => by
        obtain ⟨p, p1, p2, p3⟩ := nx_none hn a.2.1 a.2.2
        exact ⟨⟨p, p1, p3⟩, p2⟩
      let g : Nat → {a : Nat // a < m ∧ a ∉ out} := fun i => Nat.rec ⟨a0, ha0, hm0⟩ (fun _ x => Classical.choose (hp x)) i
      have hg : ∀ i, E (g (i + 1)).1 (g i).1 = true := fun i => Classical.choose_spec (hp (g i))
      obtain ⟨i, j, hij, _, he⟩ := meets (m := m) (g := fun i => (g i).1) fun i => (g i).2.1
      refine ⟨j - i, (g j).1, by omega, fun t => (g (j - t)).1, by simp, ?_, fun t ht => ?_⟩
      · dsimp only; rw [show j - (j - i) = i by omega]; exact he
      · dsimp only
        have := hg (j - (t + 1))
        rw [show j - (t + 1) + 1 = j - t by omega] at this
        exact this
theorem Top.acyclic {E : Gr} {m : Nat} {o : List Nat} (hE : GOK E m) (h : Top E m o) (hl : o.length = m) : ¬Cyc E := by
  intro ⟨k, a, h0, f, f0, f1, f2⟩
  have hp : ∀ x, x < m → ∃ i, i < m ∧ o.getD i 0 = x := fun x hx => by
    obtain ⟨i, hi, e⟩ := mem_getD (full_of h.n h.b (by omega) hx)
    exact ⟨i, by omega, e⟩
  -- places fall along a way
  have key : ∀ t, t ≤ k → ∀ i, i < m → o.getD i 0 = f t → ∃ j, o.getD j 0 = f 0 ∧ j + t ≤ i := by
    intro t
    induction t with
    | zero => intro _ i _ e; exact ⟨i, e, by omega⟩
    | succ t ih =>
      intro ht i hi e
      have he := f2 t (by omega)
      rw [← e] at he
      obtain ⟨j, hj, e2⟩ := h.e i (by omega) _ he
      obtain ⟨j2, h3, h4⟩ := ih (by omega) j (by omega) e2
      exact ⟨j2, h3, by omega⟩
  have ha : a < m := by
    have := hE.b _ _ (f2 0 h0)
    rw [← f0]; exact this.1
  obtain ⟨i, hi, e⟩ := hp a ha
  -- places are unique
  obtain ⟨j, hj, h4⟩ := key k (Nat.le_refl _) i hi (by rw [e, f1])
  have : j = i := by
    exact nodup_at h.n (by omega) (by omega) (by rw [hj, e, f0])
  omega
theorem ord_some {E : Gr} {m : Nat} {o : List Nat} (hE : GOK E m) (h : ord E m = some o) : Top E m o ∧ o.length = m ∧ ¬Cyc E := by
  have := kahn_ok hE (k := m) (Top.nil E m) (by simp)
  unfold ord at h
  rw [h] at this
  exact ⟨this.1, this.2, this.1.acyclic hE this.2⟩
end Go.Tp
end
section
namespace Go.Tp
/-! cycles -/
theorem range_find {α : Type} {f : Nat → Option α} {b : α} : ∀ {n : Nat}, (List.range n).findSome? f = some b ↔ ∃ i, i < n ∧ f i = some b ∧ ∀ j, j < i → f j = none
  | 0 => by simp
  | n + 1 => by
    have ih := range_find (f := f) (b := b) (n := n)
    rw [List.range_succ, List.findSome?_append]
    match hn : (List.range n).findSome? f with
    | some c =>
      rw [hn] at ih
      simp only [Option.some_or]
      constructor
      · intro h
        obtain ⟨i, h1, h2⟩ := ih.1 h
        exact ⟨i, by omega, h2⟩
      · rintro ⟨i, h1, h2, h3⟩
        by_cases e : i = n
        · subst e
          have := List.exists_of_findSome?_eq_some hn
          obtain ⟨j, hj, hj2⟩ := this
          rw [h3 j (List.mem_range.1 hj)] at hj2
          contradiction
        · exact ih.2 ⟨i, by omega, h2, h3⟩
    | none =>
      have hno := List.findSome?_eq_none_iff.1 hn
      simp only [Option.none_or, List.findSome?_cons, List.findSome?_nil]
      constructor
      · intro h
        refine ⟨n, by omega, ?_, fun j hj => hno j (List.mem_range.2 hj)⟩
        cases hf : f n with
        | none => rw [hf] at h; contradiction
        | some x => rw [hf] at h; exact h
      · rintro ⟨i, h1, h2, h3⟩
        have e : i = n := by
          apply Classical.byContradiction
          intro e
          have := hno i (List.mem_range.2 (by omega))
          rw [h2] at this
          contradiction
        subst e
        rw [h2]
theorem range_none {α : Type} {f : Nat → Option α} {n : Nat} : (List.range n).findSome? f = none ↔ ∀ i, i < n → f i = none := by
  rw [List.findSome?_eq_none_iff]
  exact ⟨fun h i hi => h i (List.mem_range.2 hi), fun h i hi => h i (List.mem_range.1 hi)⟩
/- the first end of a way with k more lines that is a cycle -/
def cycF (E : Gr) (m : Nat) : Nat → List Nat → Option (List Nat)
  | 0, w => if E (w.getD (w.length - 1) 0) (w.getD 0 0) = true then some w else none
  | k + 1, w => (List.range m).findSome? fun b => if w.getD 0 0 < b ∧ E (w.getD (w.length - 1) 0) b = true ∧ b ∉ w then cycF E m k (w ++ [b]) else none
def cyc (E : Gr) (m : Nat) : Option (List Nat) := (List.range (m + 1)).findSome? fun s => if s < 2 then none else (List.range m).findSome? fun a => cycF E m (s - 1) [a]
/- a way of different lines, the first of which is the least -/
structure CW (E : Gr) (m : Nat) (c : List Nat) : Prop where
  n : c.Nodup
  b : ∀ x ∈ c, x < m
  e : ∀ i, i + 1 < c.length → E (c.getD i 0) (c.getD (i + 1) 0) = true
  h : ∀ i, 0 < i → i < c.length → c.getD 0 0 < c.getD i 0
theorem CW.one (E : Gr) {m a : Nat} (h : a < m) : CW E m [a] := ⟨by simp, by simpa using h, fun i hi => by simp at hi, fun i h1 h2 => by simp at h2; omega⟩
theorem CW.snoc {E : Gr} {m b : Nat} {w : List Nat} (h : CW E m w) (hw : 1 ≤ w.length) (hb : b < m) (h1 : w.getD 0 0 < b) (h2 : E (w.getD (w.length - 1) 0) b = true) (h3 : b ∉ w) : CW E m (w ++ [b]) := by
  refine ⟨?_, fun x hx => ?_, fun i hi => ?_, fun i hi hl => ?_⟩
  · rw [List.nodup_append]
    exact ⟨h.n, by simp, fun x hx y hy => by rw [List.mem_singleton.1 hy]; intro e; exact h3 (e ▸ hx)⟩
  · rcases List.mem_append.1 hx with hx | hx
    · exact h.b x hx
    · rw [List.mem_singleton.1 hx]; exact hb
  · simp only [List.length_append, List.length_singleton] at hi
    rw [getD_app_l (by omega)]
    by_cases hl : i + 1 < w.length
    · rw [getD_app_l hl]; exact h.e i hl
    · have : i + 1 = w.length := by omega
      rw [this, getD_app_r]
      rw [show i = w.length - 1 by omega]; exact h2
  · simp only [List.length_append, List.length_singleton] at hl
    rw [getD_app_l (by omega)]
    by_cases hl2 : i < w.length
    · rw [getD_app_l hl2]; exact h.h i hi hl2
    · have : i = w.length := by omega
      rw [this, getD_app_r]; exact h1
theorem cycF_sound {E : Gr} {m : Nat} : ∀ {k : Nat} {w c : List Nat}, cycF E m k w = some c → CW E m w → 1 ≤ w.length → CW E m c ∧ c.length = w.length + k ∧ E (c.getD (c.length - 1) 0) (c.getD 0 0) = true
  | 0, w, c, h, hw, h1 => by
    unfold cycF at h
    split at h
    · cases h; exact ⟨hw, rfl, by assumption⟩
    · contradiction
  | k + 1, w, c, h, hw, h1 => by
    unfold cycF at h
    obtain ⟨b, hb, h2, _⟩ := range_find.1 h
    split at h2
    · rename_i hc
      obtain ⟨g1, g2, g3⟩ := cycF_sound h2 (hw.snoc h1 hb hc.1 hc.2.1 hc.2.2) (by simp)
      exact ⟨g1, by rw [g2, List.length_append, List.length_singleton]; omega, g3⟩
    · contradiction
theorem least_ex {P : Nat → Prop} (h : ∃ n, P n) : ∃ n, P n ∧ ∀ j, j < n → ¬P j := by
  obtain ⟨n, hn⟩ := h
  induction n using Nat.strongRecOn with
  | _ n ih =>
    by_cases hx : ∃ j, j < n ∧ P j
    · obtain ⟨j, hj, hp⟩ := hx
      exact ih j hj hp
    · exact ⟨n, hn, fun j hj hp => hx ⟨j, hj, hp⟩⟩
/- a closed way of different lines, the first of which is the least -/
structure CG (E : Gr) (L : Nat) (g : Nat → Nat) : Prop where
  e : ∀ i, i < L → E (g i) (g (i + 1)) = true
  c : g L = g 0
  i : ∀ i j, i < j → j < L → g i ≠ g j
  h : ∀ i, 0 < i → i < L → g 0 < g i
theorem cg_ex {E : Gr} {L a : Nat} (h0 : 0 < L) (h : Way E L a a) (hm : ∀ j, j < L → 0 < j → ∀ b, ¬Way E j b b) : ∃ g, CG E L g := by
  obtain ⟨f, f0, f1, f2⟩ := h
  -- the lines differ
  have hd : ∀ i j, i < j → j < L → f i ≠ f j := fun i j hij hj e => by
    refine hm (j - i) (by omega) (by omega) (f i) ⟨fun t => f (i + t), rfl, by dsimp only; rw [show i + (j - i) = j by omega]; exact e.symm, fun t ht => ?_⟩
    exact f2 (i + t) (by omega)
  -- the least of them
  obtain ⟨v, ⟨s, hs, hv⟩, hl⟩ := least_ex (P := fun v => ∃ s, s < L ∧ f s = v) ⟨f 0, 0, h0, rfl⟩
  let g : Nat → Nat := fun t => if s + t < L then f (s + t) else f (s + t - L)
  have hg : ∀ t, t < L → ∃ r, r < L ∧ g t = f r ∧ (s + t < L ∧ r = s + t ∨ L ≤ s + t ∧ r = s + t - L) := fun t ht => by
    by_cases h1 : s + t < L
    · exact ⟨s + t, h1, by simp only [g]; rw [if_pos h1], .inl ⟨h1, rfl⟩⟩
    · exact ⟨s + t - L, by omega, by simp only [g]; rw [if_neg h1], .inr ⟨by omega, rfl⟩⟩
  have hinj : ∀ i j, i < j → j < L → g i ≠ g j := fun i j hij hj e => by
    obtain ⟨r, r1, r2, r3⟩ := hg i (by omega)
    obtain ⟨q, q1, q2, q3⟩ := hg j hj
    rw [r2, q2] at e
    rcases Nat.lt_trichotomy r q with h1 | h1 | h1
    · exact hd r q h1 q1 e
    · omega
    · exact hd q r h1 r1 e.symm
  refine ⟨g, fun i hi => ?_, ?_, hinj, fun i h1 h2 => ?_⟩
  · simp only [g]
    by_cases h1 : s + i + 1 < L
    · rw [if_pos (by omega), if_pos (by omega)]; exact f2 _ (by omega)
    · by_cases h2 : s + i < L
      · rw [if_pos h2, if_neg (by omega)]
        have := f2 (s + i) h2
        rw [show s + i + 1 = L by omega, f1] at this
        rw [show s + (i + 1) - L = 0 by omega, f0]; exact this
      · rw [if_neg h2, if_neg (by omega)]
        have := f2 (s + i - L) (by omega)
        rw [show s + i - L + 1 = s + (i + 1) - L by omega] at this
        exact this
  · simp only [g]
    rw [if_neg (by omega), Nat.add_zero, if_pos hs, show s + L - L = s by omega]
  · have e0 : g 0 = v := by simp only [g]; rw [Nat.add_zero, if_pos hs]; exact hv
    obtain ⟨r, r1, r2, _⟩ := hg i h2
    have h3 := hinj 0 i h1 h2
    rcases Nat.lt_or_ge (g i) v with h4 | h4
    · exact absurd ⟨r, r1, r2.symm⟩ (hl (g i) h4)
    · omega
theorem map_range_getD {g : Nat → Nat} {n i : Nat} (h : i < n) : ((List.range n).map g).getD i 0 = g i := by simp [List.getD_eq_getElem?_getD, h]
theorem cycF_full {E : Gr} {m L : Nat} {g : Nat → Nat} (hE : GOK E m) (hg : CG E L g) : ∀ {k j : Nat}, 1 ≤ j → j + k = L → cycF E m k ((List.range j).map g) ≠ none
  | 0, j, h1, h2 => by
    unfold cycF
    simp only [List.length_map, List.length_range]
    rw [map_range_getD (by omega), map_range_getD (by omega), if_pos]
    · simp
    · have := hg.e (j - 1) (by omega)
      rw [show j - 1 + 1 = L by omega, hg.c] at this
      exact this
  | k + 1, j, h1, h2 => by
    intro hn
    unfold cycF at hn
    have h3 := range_none.1 hn (g j) (hE.b _ _ (hg.e j (by omega))).1
    simp only [List.length_map, List.length_range] at h3
    rw [map_range_getD (by omega), map_range_getD (by omega), if_pos] at h3
    · have := cycF_full hE hg (k := k) (j := j + 1) (by omega) (by omega)
      rw [List.range_succ, List.map_append, List.map_singleton] at this
      exact this h3
    · refine ⟨hg.h j (by omega) (by omega), ?_, fun hm => ?_⟩
      · have := hg.e (j - 1) (by omega)
        rw [show j - 1 + 1 = j by omega] at this
        exact this
      · obtain ⟨i, hi, e⟩ := List.mem_map.1 hm
        exact hg.i i j (List.mem_range.1 hi) (by omega) e
theorem CW.way {E : Gr} {m : Nat} {c : List Nat} (h : CW E m c) (hl : 1 ≤ c.length) (he : E (c.getD (c.length - 1) 0) (c.getD 0 0) = true) : Way E c.length (c.getD 0 0) (c.getD 0 0) := by
  refine ⟨fun i => if i < c.length then c.getD i 0 else c.getD 0 0, by dsimp only; rw [if_pos (by omega)], by simp, fun i hi => ?_⟩
  dsimp only
  rw [if_pos hi]
  by_cases h1 : i + 1 < c.length
  · rw [if_pos h1]; exact h.e i h1
  · rw [if_neg h1, show i = c.length - 1 by omega]; exact he
/- the length of a shortest closed way, and what Cycle finds -/
theorem cyc_cases {E : Gr} {m : Nat} (hE : GOK E m) : (¬Cyc E ∧ cyc E m = none) ∨ ∃ c, cyc E m = some c ∧ CW E m c ∧ 2 ≤ c.length ∧ E (c.getD (c.length - 1) 0) (c.getD 0 0) = true ∧ ∀ L a, 0 < L → Way E L a a → c.length ≤ L := by
  have sound : ∀ c, cyc E m = some c → ∃ s, 2 ≤ s ∧ s ≤ m ∧ (∀ s', s' < s → 2 ≤ s' → ∀ a, a < m → cycF E m (s' - 1) [a] = none) ∧ CW E m c ∧ c.length = s ∧ E (c.getD (c.length - 1) 0) (c.getD 0 0) = true := fun c h => by
    unfold cyc at h
    obtain ⟨s, h1, h2, h3⟩ := range_find.1 h
    split at h2
    · contradiction
    · obtain ⟨a, ha, h4, _⟩ := range_find.1 h2
      obtain ⟨g1, g2, g3⟩ := cycF_sound h4 (CW.one E ha) (by simp)
      refine ⟨s, by omega, by omega, fun s' hs' h5 a' ha' => ?_, g1, by rw [g2]; simp; omega, g3⟩
      have := h3 s' hs'
      rw [if_neg (by omega)] at this
      exact range_none.1 this a' ha'
  by_cases hc : Cyc E
  · right
    obtain ⟨L, ⟨h0, a, hw⟩, hm⟩ := least_ex (P := fun L => 0 < L ∧ ∃ a, Way E L a a) (by obtain ⟨k, a, h0, h⟩ := hc; exact ⟨k, h0, a, h⟩)
    obtain ⟨g, hg⟩ := cg_ex h0 hw fun j hj h1 b hb => hm j hj ⟨h1, b, hb⟩
    have hL2 : 2 ≤ L := by
      apply Classical.byContradiction
      intro h
      have e : L = 1 := by omega
      subst e
      have h1 := hg.e 0 (by omega)
      rw [hg.c, hE.s] at h1
      contradiction
    have hLm : L ≤ m := by
      have : ((List.range L).map g).length ≤ m := nodup_le (by
        rw [List.nodup_iff_pairwise_ne, List.pairwise_map]
        refine List.Pairwise.imp_of_mem (R := (· < ·)) (fun {a b} ha hb hab he => ?_) List.pairwise_lt_range
        exact hg.i a b hab (List.mem_range.1 hb) he) fun x hx => by
          obtain ⟨i, hi, rfl⟩ := List.mem_map.1 hx
          exact (hE.b _ _ (hg.e i (List.mem_range.1 hi))).1
      simpa using this
    have hf := cycF_full hE hg (k := L - 1) (j := 1) (by omega) (by omega)
    have ha0 : g 0 < m := (hE.b _ _ (hg.e 0 (by omega))).1
    have hf : cycF E m (L - 1) [g 0] ≠ none := hf
    cases hcy : cyc E m with
    | none =>
      unfold cyc at hcy
      have := range_none.1 hcy L (by omega)
      rw [if_neg (by omega)] at this
      exact absurd (range_none.1 this (g 0) ha0) hf
    | some c =>
      obtain ⟨s, s1, s2, s3, s4, s5, s6⟩ := sound c hcy
      refine ⟨c, rfl, s4, by omega, s6, fun L' a' h0' hw' => ?_⟩
      have h1 : s ≤ L := by
        apply Classical.byContradiction
        intro h
        exact hf (s3 L (by omega) hL2 (g 0) ha0)
      have h2 : L ≤ L' := by
        apply Classical.byContradiction
        intro h
        exact hm L' (by omega) ⟨h0', a', hw'⟩
      omega
  · left
    refine ⟨hc, ?_⟩
    cases hcy : cyc E m with
    | none => rfl
    | some c =>
      obtain ⟨s, s1, s2, s3, s4, s5, s6⟩ := sound c hcy
      exact absurd ⟨c.length, _, by omega, s4.way (by omega) s6⟩ hc
/-! levels -/
def lvs (E : Gr) (o : List Nat) : Nat → Nat := o.foldl (fun L a b => if E a b = true then max (L b) (L a + 1) else L b) (fun _ => 0)
theorem lvs_snoc (E : Gr) (o : List Nat) (a b : Nat) : lvs E (o ++ [a]) b = if E a b = true then max (lvs E o b) (lvs E o a + 1) else lvs E o b := by simp [lvs]
/- levels of the lines -/
structure LvP (E : Gr) (L : Nat → Nat) : Prop where
  u : ∀ a b, E a b = true → L a + 1 ≤ L b
  a : ∀ b, L b = 0 ∨ ∃ a, E a b = true ∧ L b = L a + 1
theorem lvs_pre {E : Gr} {m : Nat} {o : List Nat} (hE : GOK E m) (h : Top E m o) : ∀ j, j ≤ o.length →
    (∀ a ∈ o.take j, ∀ b, E a b = true → lvs E (o.take j) a + 1 ≤ lvs E (o.take j) b) ∧ (∀ b, lvs E (o.take j) b = 0 ∨ ∃ a ∈ o.take j, E a b = true ∧ lvs E (o.take j) b = lvs E (o.take j) a + 1) := by
  intro j
  induction j with
  | zero => intro _; exact ⟨by simp, fun b => .inl (by simp [lvs])⟩
  | succ j ih =>
    intro hj
    obtain ⟨h1, h2⟩ := ih (by omega)
    have e : o.take (j + 1) = o.take j ++ [o.getD j 0] := by
      rw [List.take_add_one, List.getD_eq_getElem?_getD, List.getElem?_eq_getElem (by omega)]; rfl
    rw [e]
    -- what j leads to stands behind it
    have hback : ∀ a ∈ o.take j, E (o.getD j 0) a = false := fun a ha => by
      apply Classical.byContradiction
      intro hc
      have hc : E (o.getD j 0) a = true := by simpa using hc
      obtain ⟨i, hi, rfl⟩ := List.mem_iff_getElem.1 ha
      rw [List.length_take] at hi
      have e2 : (o.take j)[i] = o.getD i 0 := by rw [List.getElem_take]; simp [List.getD_eq_getElem?_getD, show i < o.length by omega]
      rw [e2] at hc
      obtain ⟨i', hi', e3⟩ := h.e i (by omega) _ hc
      have := nodup_at h.n (by omega) (by omega) e3
      omega
    have hold : ∀ a ∈ o.take j, lvs E (o.take j ++ [o.getD j 0]) a = lvs E (o.take j) a := fun a ha => by
      rw [lvs_snoc, hback a ha]; simp
    have hself : lvs E (o.take j ++ [o.getD j 0]) (o.getD j 0) = lvs E (o.take j) (o.getD j 0) := by
      rw [lvs_snoc, hE.s]; simp
    refine ⟨fun a ha b hab => ?_, fun b => ?_⟩
    · rcases List.mem_append.1 ha with ha | ha
      · rw [hold a ha, lvs_snoc]
        have := h1 a ha b hab
        split <;> omega
      · rw [List.mem_singleton.1 ha] at hab ⊢
        rw [hself, lvs_snoc, if_pos hab]; omega
    · rw [lvs_snoc]
      split
      · rename_i hb
        by_cases hm : lvs E (o.take j) (o.getD j 0) + 1 ≤ lvs E (o.take j) b
        · rw [Nat.max_eq_left hm]
          rcases h2 b with h3 | ⟨a, ha, h3, h4⟩
          · omega
          · exact .inr ⟨a, by simp [ha], h3, by rw [hold a ha]; exact h4⟩
        · rw [Nat.max_eq_right (by omega)]
          exact .inr ⟨o.getD j 0, by simp, hb, by rw [hself]⟩
      · rcases h2 b with h3 | ⟨a, ha, h3, h4⟩
        · exact .inl h3
        · exact .inr ⟨a, by simp [ha], h3, by rw [hold a ha]; exact h4⟩
theorem lvs_ok {E : Gr} {m : Nat} {o : List Nat} (hE : GOK E m) (h : Top E m o) (hl : o.length = m) : LvP E (lvs E o) := by
  obtain ⟨h1, h2⟩ := lvs_pre hE h o.length (Nat.le_refl _)
  rw [List.take_length] at h1 h2
  refine ⟨fun a b hab => h1 a (full_of h.n h.b (by omega) (hE.b a b hab).1) b hab, fun b => ?_⟩
  rcases h2 b with h3 | ⟨a, _, h3⟩
  · exact .inl h3
  · exact .inr ⟨a, h3⟩
theorem LvP.uniq {E : Gr} {L L' : Nat → Nat} (h : LvP E L) (h' : LvP E L') : ∀ b, L b = L' b := by
  have key : ∀ {L L' : Nat → Nat}, LvP E L → LvP E L' → ∀ n b, L b ≤ n → L b ≤ L' b := by
    intro L L' h h' n
    induction n with
    | zero => intro b hb; omega
    | succ n ih =>
      intro b hb
      rcases h.a b with h1 | ⟨a, h1, h2⟩
      · omega
      · have := ih a (by omega)
        have := h'.u a b h1
        omega
  intro b
  have := key h h' _ b (Nat.le_refl _)
  have := key h' h _ b (Nat.le_refl _)
  omega
/-! edges -/
abbrev Ed := Nat × Nat
def er (E : Gr) (a : Nat) : Nat → List Ed
  | 0 => []
  | b + 1 => if E a b = true then er E a b ++ [(a, b)] else er E a b
def edg (E : Gr) (m : Nat) : Nat → List Ed
  | 0 => []
  | a + 1 => edg E m a ++ er E a m
theorem mem_er {E : Gr} {a : Nat} {e : Ed} : ∀ {b : Nat}, e ∈ er E a b ↔ e.1 = a ∧ e.2 < b ∧ E e.1 e.2 = true
  | 0 => by simp [er]
  | b + 1 => by
    have ih := mem_er (E := E) (a := a) (e := e) (b := b)
    simp only [er]
    split
    · rename_i h
      rw [List.mem_append, ih, List.mem_singleton]
      constructor
      · rintro (⟨h1, h2, h3⟩ | rfl)
        · exact ⟨h1, by omega, h3⟩
        · exact ⟨rfl, by omega, h⟩
      · rintro ⟨h1, h2, h3⟩
        by_cases e2 : e.2 = b
        · exact .inr (Prod.ext h1 e2)
        · exact .inl ⟨h1, by omega, h3⟩
    · rename_i h
      rw [ih]
      constructor
      · rintro ⟨h1, h2, h3⟩; exact ⟨h1, by omega, h3⟩
      · rintro ⟨h1, h2, h3⟩
        refine ⟨h1, ?_, h3⟩
        apply Classical.byContradiction
        intro hn
        have e2 : e.2 = b := by omega
        rw [h1, e2] at h3
        exact h h3
theorem mem_edg {E : Gr} {m : Nat} {e : Ed} : ∀ {a : Nat}, e ∈ edg E m a ↔ e.1 < a ∧ e.2 < m ∧ E e.1 e.2 = true
  | 0 => by simp [edg]
  | a + 1 => by
    simp only [edg]
    rw [List.mem_append, mem_edg, mem_er]
    constructor
    · rintro (⟨h1, h2, h3⟩ | ⟨h1, h2, h3⟩)
      · exact ⟨by omega, h2, h3⟩
      · exact ⟨by omega, h2, h3⟩
    · rintro ⟨h1, h2, h3⟩
      by_cases e2 : e.1 = a
      · exact .inr ⟨e2, h2, h3⟩
      · exact .inl ⟨by omega, h2, h3⟩
theorem er_len {E : Gr} {a : Nat} : ∀ {b : Nat}, (er E a b).length ≤ b
  | 0 => by simp [er]
  | b + 1 => by
    have := er_len (E := E) (a := a) (b := b)
    simp only [er]; split <;> simp <;> omega
theorem edg_len {E : Gr} {m : Nat} : ∀ {a : Nat}, (edg E m a).length ≤ a * m
  | 0 => by simp [edg]
  | a + 1 => by
    have h1 := edg_len (E := E) (m := m) (a := a)
    have h2 := er_len (E := E) (a := a) (b := m)
    simp only [edg, List.length_append]
    rw [Nat.add_mul]; omega
/-! the cut -/
def has (K : List Ed) : Gr := fun a b => decide ((a, b) ∈ K)
theorem has_true {K : List Ed} {a b : Nat} : has K a b = true ↔ (a, b) ∈ K := by simp [has]
open Classical in
noncomputable def cutS (s : List Ed × List Ed) (e : Ed) : List Ed × List Ed := if Rch (has s.1) e.2 e.1 then (s.1, s.2 ++ [e]) else (s.1 ++ [e], s.2)
noncomputable def cutF (l : List Ed) : List Ed × List Ed := l.foldl cutS ([], [])
theorem cutF_snoc (l : List Ed) (e : Ed) : cutF (l ++ [e]) = cutS (cutF l) e := by simp [cutF]
structure CutP (l : List Ed) (s : List Ed × List Ed) : Prop where
  ac : ¬Cyc (has s.1)
  o : ∀ e ∈ s.2, Rch (has s.1) e.2 e.1
  m : ∀ e, e ∈ l ↔ e ∈ s.1 ∨ e ∈ s.2
  n : s.1.length + s.2.length = l.length
  k : l.Nodup → s.1 = l.filter fun e => decide (e ∉ s.2)
theorem rev_rec {α : Type} {P : List α → Prop} (h0 : P []) (h1 : ∀ l a, P l → P (l ++ [a])) : ∀ l, P l := by
  intro l
  rw [← List.reverse_reverse l]
  induction l.reverse with
  | nil => exact h0
  | cons a l ih => rw [List.reverse_cons]; exact h1 _ _ ih
theorem cutF_ok : ∀ l : List Ed, CutP l (cutF l) := by
  refine rev_rec ⟨?_, by simp [cutF], by simp [cutF], by simp [cutF], by simp [cutF]⟩ fun l e ih => ?_
  · rintro hc
    obtain ⟨a, b, h, _⟩ := hc.edge
    simp [has, cutF] at h
  · rw [cutF_snoc]
    unfold cutS
    split
    · rename_i hr
      refine ⟨ih.ac, fun x hx => ?_, fun x => ?_, by simp only [List.length_append, List.length_singleton]; have := ih.n; omega, fun hn => ?_⟩
      · rcases List.mem_append.1 hx with hx | hx
        · exact ih.o x hx
        · rw [List.mem_singleton.1 hx]; exact hr
      · rw [List.mem_append, ih.m]
        dsimp only
        rw [List.mem_append, or_assoc]
      · rw [List.nodup_append] at hn
        have h1 := ih.k hn.1
        dsimp only
        rw [List.filter_append]
        rw [List.filter_cons_of_neg (by simp), List.filter_nil, List.append_nil, h1]
        refine List.filter_congr fun x hx => ?_
        have hne : x ≠ e := fun h => hn.2.2 x hx e (by simp) h
        rw [← h1]
        simp [List.mem_append, hne]
    · rename_i hr
      have hmono : ∀ a b, has (cutF l).1 a b = true → has ((cutF l).1 ++ [e]) a b = true := fun a b h => by
        rw [has_true] at h ⊢; simp [h]
      have hadd : has ((cutF l).1 ++ [e]) = addE (has (cutF l).1) e.1 e.2 := by
        funext a b
        rw [Bool.eq_iff_iff, has_true, addE_true, has_true, List.mem_append, List.mem_singleton, Prod.ext_iff]
      refine ⟨?_, fun x hx => (ih.o x hx).mono hmono, fun x => ?_, by simp only [List.length_append, List.length_singleton]; have := ih.n; omega, fun hn => ?_⟩
      · dsimp only; rw [hadd]; exact cyc_add ih.ac hr
      · rw [List.mem_append, ih.m]
        dsimp only
        rw [List.mem_append]
        constructor
        · rintro ((h | h) | h)
          · exact .inl (.inl h)
          · exact .inr h
          · exact .inl (.inr h)
        · rintro ((h | h) | h)
          · exact .inl (.inl h)
          · exact .inr h
          · exact .inl (.inr h)
      · rw [List.nodup_append] at hn
        have h1 := ih.k hn.1
        dsimp only
        rw [List.filter_append, ← h1, List.filter_cons_of_pos, List.filter_nil]
        have : e ∉ (cutF l).2 := fun h => hn.2.2 e ((ih.m e).2 (.inr h)) e (by simp) rfl
        simpa using this
end Go.Tp
end
section
namespace Go.Tp
open Go.Np
/- an edge of a flow -/
def FE (f : Fl) (a b : Nat) : Prop := ∃ h, 1 ≤ h ∧ h < f.rt.length ∧ f.rt.getD (h - 1) 0 = (a : Int) ∧ f.rt.getD h 0 = (b : Int)
/- the graph of a net -/
def adj (n : Nt) : Gr := fun a b => n.fl.any fun f => (List.range f.rt.length).any fun h => decide (1 ≤ h) && (decide (f.rt.getD (h - 1) 0 = (a : Int)) && decide (f.rt.getD h 0 = (b : Int)))
theorem adj_true {n : Nt} {a b : Nat} : adj n a b = true ↔ ∃ f ∈ n.fl, FE f a b := by
  unfold adj FE
  simp only [List.any_eq_true, List.mem_range, Bool.and_eq_true, decide_eq_true_eq]
  constructor
  · rintro ⟨f, hf, h, h1, h2, h3, h4⟩; exact ⟨f, hf, h, h2, h1, h3, h4⟩
  · rintro ⟨f, hf, h, h2, h1, h3, h4⟩; exact ⟨f, hf, h, h1, h2, h3, h4⟩
theorem mem_takeD {α : Type} {l : List α} {d x : α} {i : Nat} : x ∈ l.take i ↔ ∃ j, j < i ∧ j < l.length ∧ x = l.getD j d := by
  constructor
  · intro h; exact mem_take h
  · rintro ⟨j, h1, h2, rfl⟩
    rw [List.mem_iff_getElem]
    refine ⟨j, by rw [List.length_take]; omega, ?_⟩
    rw [List.getElem_take]
    simp [List.getD_eq_getElem?_getD, h2]
structure RtOK (n : Nt) (f : Fl) : Prop where
  l1 : 1 ≤ f.rt.length
  l2 : f.rt.length ≤ 4
  b : ∀ i, i < f.rt.length → 0 ≤ f.rt.getD i 0 ∧ f.rt.getD i 0 < n.ln.length
  d : ∀ i j, i < j → j < f.rt.length → f.rt.getD i 0 ≠ f.rt.getD j 0
  c : ∀ i, i < f.rt.length → 0 ≤ f.cl ∧ f.cl < (n.ln.getD (f.rt.getD i 0).toNat ln0).n
theorem routeE_ok {n : Nt} {f : Fl} (h : routeE n.ln f = 0) : RtOK n f := by
  unfold routeE at h
  split at h
  · omega
  · split at h
    · omega
    · rename_i h1 h2
      have hz := firstE_zero h
      have key : ∀ i, i < f.rt.length → (0 ≤ f.rt.getD i 0 ∧ f.rt.getD i 0 < n.ln.length) ∧ f.rt.getD i 0 ∉ f.rt.take i ∧ 0 ≤ f.cl ∧ f.cl < (n.ln.getD (f.rt.getD i 0).toNat ln0).n := by
        intro i hi
        have h3 := hz i hi
        unfold hopE at h3
        split at h3
        · omega
        · split at h3
          · omega
          · split at h3
            · omega
            · exact ⟨by omega, by assumption, by omega, by omega⟩
      refine ⟨by omega, by omega, fun i hi => (key i hi).1, fun i j hij hj e => ?_, fun i hi => (key i hi).2.2⟩
      exact (key j hj).2.1 ((mem_takeD (d := 0)).2 ⟨i, hij, by omega, e.symm⟩)
theorem chk_fl {n : Nt} (h : chkN n = 0) : ∀ j, j < n.fl.length → RtOK n (n.fl.getD j fl0) := by
  intro j hj
  have h1 := (chkN_zero h).2.2.2 j hj
  unfold flowE at h1
  split at h1
  · contradiction
  · split at h1
    · contradiction
    · exact routeE_ok (by omega)
theorem chk_mem {n : Nt} (h : chkN n = 0) : ∀ f ∈ n.fl, RtOK n f := by
  intro f hf
  obtain ⟨j, hj, rfl⟩ := List.mem_iff_getElem.1 hf
  have := chk_fl h j hj
  rw [List.getD_eq_getElem?_getD, List.getElem?_eq_getElem hj] at this
  exact this
theorem adj_ok {n : Nt} (h : ∀ f ∈ n.fl, RtOK n f) : GOK (adj n) n.ln.length := by
  refine ⟨fun a b hab => ?_, fun a => ?_⟩
  · obtain ⟨f, hf, k, k1, k2, k3, k4⟩ := adj_true.1 hab
    have r := h f hf
    have r1 := r.b (k - 1) (by omega)
    have r2 := r.b k k2
    omega
  · apply Classical.byContradiction
    intro hc
    obtain ⟨f, hf, k, k1, k2, k3, k4⟩ := adj_true.1 (by simpa using hc)
    have r := h f hf
    exact r.d (k - 1) k (by omega) k2 (by rw [k3, k4])
theorem adj_chk {n : Nt} (h : chkN n = 0) : GOK (adj n) n.ln.length := adj_ok (chk_mem h)
end Go.Tp
end
section
namespace Go.Tp
def pin (E : Gr) (out : List Nat) (b : Nat) : Nat → Nat
  | 0 => 0
  | m + 1 => pin E out b m + if E m b = true ∧ m ∉ out then 1 else 0
theorem pin_le {E : Gr} {out : List Nat} {b : Nat} : ∀ m, pin E out b m ≤ m
  | 0 => Nat.le_refl _
  | m + 1 => by have := pin_le (E := E) (out := out) (b := b) m; simp only [pin]; split <;> omega
theorem cp_er {E : Gr} {a b : Nat} : ∀ m, (er E a m).countP (fun e => decide (e.2 = b)) = if b < m ∧ E a b = true then 1 else 0
  | 0 => by simp [er]
  | m + 1 => by
    have ih := cp_er (E := E) (a := a) (b := b) m
    simp only [er]
    by_cases h : E a m = true
    · rw [if_pos h, List.countP_append, ih]
      simp only [List.countP_cons, List.countP_nil]
      by_cases e : m = b
      · subst e; simp [h]
      · have : (b < m + 1 ∧ E a b = true) ↔ (b < m ∧ E a b = true) := by
          constructor <;> rintro ⟨h1, h2⟩ <;> exact ⟨by omega, h2⟩
        simp only [this]
        simp [e]
    · rw [if_neg h, ih]
      by_cases e : m = b
      · subst e; simp [h]
      · have : (b < m + 1 ∧ E a b = true) ↔ (b < m ∧ E a b = true) := by
          constructor <;> rintro ⟨h1, h2⟩ <;> exact ⟨by omega, h2⟩
        simp only [this]
theorem cp_edg {E : Gr} {m b : Nat} (hb : b < m) : ∀ a, (edg E m a).countP (fun e => decide (e.2 = b)) = pin E [] b a
  | 0 => by simp [edg, pin]
  | a + 1 => by
    simp only [edg, pin]
    rw [List.countP_append, cp_edg hb a, cp_er]
    simp [hb]
theorem pin_zero {E : Gr} {out : List Nat} {b : Nat} : ∀ {m}, pin E out b m = 0 ↔ ∀ p, p < m → E p b = true → p ∈ out
  | 0 => by simp [pin]
  | m + 1 => by
    have ih := pin_zero (E := E) (out := out) (b := b) (m := m)
    simp only [pin]
    constructor
    · intro h p hp he
      have h1 : pin E out b m = 0 := by omega
      by_cases e : p = m
      · subst e
        apply Classical.byContradiction
        intro hn
        rw [if_pos ⟨he, hn⟩] at h
        omega
      · exact ih.1 h1 p (by omega) he
    · intro h
      have h1 := ih.2 fun p hp he => h p (by omega) he
      rw [h1, if_neg]
      rintro ⟨h2, h3⟩
      exact h3 (h m (by omega) h2)
theorem pin_snoc {E : Gr} {out : List Nat} {a b : Nat} (ha : a ∉ out) : ∀ {m}, pin E out b m = pin E (out ++ [a]) b m + if a < m ∧ E a b = true then 1 else 0
  | 0 => by simp [pin]
  | m + 1 => by
    have ih := pin_snoc (E := E) (b := b) ha (m := m)
    simp only [pin]
    rw [ih]
    by_cases e : m = a
    · subst e
      by_cases h : E m b = true
      · simp [h, ha]
      · simp [h]
    · have h1 : (m ∉ out ++ [a]) ↔ m ∉ out := by simp [e]
      have h2 : (a < m + 1 ∧ E a b = true) ↔ (a < m ∧ E a b = true) := by
        constructor <;> rintro ⟨h1, h2⟩ <;> exact ⟨by omega, h2⟩
      simp only [h1, h2]
      omega
theorem nx_iff {E : Gr} {m a : Nat} {out : List Nat} : nx E m out = some a ↔ a < m ∧ (a ∉ out ∧ ∀ p, p < m → E p a = true → p ∈ out) ∧ ∀ b, b < a → b ∈ out ∨ ∃ p, p < m ∧ E p b = true ∧ p ∉ out := by
  have hP : ∀ b, ((!out.contains b && (List.range m).all fun p => !E p b || out.contains p) = true) ↔ (b ∉ out ∧ ∀ p, p < m → E p b = true → p ∈ out) := fun b => by
    simp only [Bool.and_eq_true, Bool.not_eq_true', List.contains_eq_mem, decide_eq_false_iff_not, List.all_eq_true, List.mem_range, Bool.or_eq_true, decide_eq_true_eq]
    constructor
    · rintro ⟨h1, h2⟩
      refine ⟨h1, fun p hp he => ?_⟩
      rcases h2 p hp with h | h
      · rw [he] at h; contradiction
      · exact h
    · rintro ⟨h1, h2⟩
      refine ⟨h1, fun p hp => ?_⟩
      cases he : E p b
      · exact .inl rfl
      · exact .inr (h2 p hp he)
  unfold nx
  rw [List.find?_range_eq_some, hP]
  simp only [Bool.not_eq_true']
  constructor
  · rintro ⟨h1, h2, h3⟩
    refine ⟨List.mem_range.1 h2, h1, fun b hb => ?_⟩
    have h4 := h3 b hb
    apply Classical.byContradiction
    intro hn
    have h5 : (b ∉ out ∧ ∀ p, p < m → E p b = true → p ∈ out) := ⟨fun k => hn (.inl k), fun p hp he => Classical.byContradiction fun k => hn (.inr ⟨p, hp, he, k⟩)⟩
    have h6 := (hP b).2 h5
    rw [h6] at h4
    contradiction
  · rintro ⟨h1, h2, h3⟩
    refine ⟨h2, List.mem_range.2 h1, fun b hb => ?_⟩
    apply Classical.byContradiction
    intro hn
    rw [Bool.not_eq_false] at hn
    have h4 := (hP b).1 hn
    rcases h3 b hb with h5 | ⟨p, p1, p2, p3⟩
    · exact h4.1 h5
    · exact p3 (h4.2 p p1 p2)
/- the counts of the edges that lead to the lines that are left -/
structure InP (E : Gr) (m : Nat) (out : List Nat) (F : Nat → Int) : Prop where
  n : ∀ b, b < m → b ∉ out → F b = pin E out b m
  o : ∀ b, b < m → b ∈ out → F b < 0
  l : ∀ b, b < m → -((out.length : Int) + 1) ≤ F b ∧ F b ≤ m
theorem InP.some {E : Gr} {m a : Nat} {out : List Nat} {F : Nat → Int} (h : InP E m out F) (ha : a < m) (h0 : F a = 0) (hf : ∀ b, b < a → F b ≠ 0) : nx E m out = some a := by
  have key : ∀ b, b < m → (F b = 0 ↔ b ∉ out ∧ ∀ p, p < m → E p b = true → p ∈ out) := fun b hb => by
    constructor
    · intro h1
      have h2 : b ∉ out := fun k => by have := h.o b hb k; omega
      refine ⟨h2, pin_zero.1 ?_⟩
      have := h.n b hb h2
      omega
    · rintro ⟨h1, h2⟩
      rw [h.n b hb h1, pin_zero.2 h2]; rfl
  refine nx_iff.2 ⟨ha, (key a ha).1 h0, fun b hb => ?_⟩
  apply Classical.byContradiction
  intro hn
  exact hf b hb ((key b (by omega)).2 ⟨fun k => hn (.inl k), fun p hp he => Classical.byContradiction fun k => hn (.inr ⟨p, hp, he, k⟩)⟩)
theorem InP.none {E : Gr} {m : Nat} {out : List Nat} {F : Nat → Int} (h : InP E m out F) (hf : ∀ b, b < m → F b ≠ 0) : nx E m out = none := by
  cases hn : nx E m out with
  | none => rfl
  | some a =>
    obtain ⟨h1, ⟨h2, h3⟩, _⟩ := nx_iff.1 hn
    exact absurd (by rw [h.n a h1 h2, pin_zero.2 h3]; rfl) (hf a h1)
theorem InP.init {E : Gr} {m : Nat} {F : Nat → Int} (h : ∀ b, b < m → F b = ((edg E m m).countP (fun e => decide (e.2 = b)) : Nat)) : InP E m [] F := by
  refine ⟨fun b hb _ => ?_, fun b _ hb => by simp at hb, fun b hb => ?_⟩
  · rw [h b hb, cp_edg hb]
  · rw [h b hb, cp_edg hb]
    have := pin_le (E := E) (out := []) (b := b) m
    simp only [List.length_nil]; omega
theorem InP.snoc {E : Gr} {m a : Nat} {out : List Nat} {F G : Nat → Int} (h : InP E m out F) (hs : ∀ x, E x x = false) (ha : a < m) (hn : a ∉ out) (h0 : F a = 0)
    (hG : ∀ b, b < m → G b = if E a b = true then (if b = a then -1 else F b) - 1 else if b = a then -1 else F b) : InP E m (out ++ [a]) G := by
  have ea : G a = -1 := by rw [hG a ha, hs a]; simp
  refine ⟨fun b hb hb2 => ?_, fun b hb hb2 => ?_, fun b hb => ?_⟩
  · have hba : b ≠ a := fun e => hb2 (by simp [e])
    have hbo : b ∉ out := fun k => hb2 (by simp [k])
    have h1 := h.n b hb hbo
    have h2 := pin_snoc (E := E) (b := b) hn (m := m)
    rw [hG b hb, if_neg hba, h1, h2]
    by_cases he : E a b = true
    · rw [if_pos he, if_pos ⟨ha, he⟩]; omega
    · rw [if_neg he, if_neg (fun k => he k.2)]; omega
  · by_cases e : b = a
    · subst e; rw [ea]; omega
    · have hbo : b ∈ out := by simpa [e] using hb2
      have := h.o b hb hbo
      rw [hG b hb, if_neg e]
      split <;> omega
  · have := h.l b hb
    simp only [List.length_append, List.length_singleton]
    rw [hG b hb]
    split <;> split <;> omega
theorem kahn_step {E : Gr} {m a : Nat} {out : List Nat} (h : nx E m out = some a) (k : Nat) : kahn E m (k + 1) out = kahn E m k (out ++ [a]) := by
  rw [kahn]; rw [h]
theorem kahn_stop {E : Gr} {m : Nat} {out : List Nat} (h : nx E m out = none) (k : Nat) : kahn E m (k + 1) out = none := by
  rw [kahn]; rw [h]
end Go.Tp
end
section
namespace Go.Tp
open Go.Np
/-! the networks of the statements: fifo lines, and flows over some routes -/
def rt1 (i : Nat) (r : List Int) : Fl := ⟨fname i, r, 0, 1, 1, [0, 4], 1, 0⟩
def rtl : Ln := ⟨1, 10, 1, [], []⟩
def rtfs (R : List (List Int)) : Nat → List Fl
  | 0 => []
  | i + 1 => rtfs R i ++ [rt1 i (R.getD i [])]
def rtN (k : Nat) (R : List (List Int)) : Nt := ⟨(List.range k).map lname, List.replicate k rtl, rtfs R R.length⟩
theorem rtfs_len {R : List (List Int)} : ∀ {i}, (rtfs R i).length = i
  | 0 => rfl
  | i + 1 => by simp only [rtfs, List.length_append, List.length_singleton]; rw [rtfs_len]
theorem rtfs_get {R : List (List Int)} {j : Nat} : ∀ {i}, j < i → (rtfs R i).getD j fl0 = rt1 j (R.getD j [])
  | 0, h => by omega
  | i + 1, h => by
    have hl := rtfs_len (R := R) (i := i)
    simp only [rtfs]
    by_cases e : j = i
    · subst e
      simp [List.getD_eq_getElem?_getD, List.getElem?_append_right, hl]
    · have hji : j < i := by omega
      rw [← rtfs_get (i := i) hji]
      have hj : j < (rtfs R i).length := by omega
      rw [List.getD_eq_getElem?_getD, List.getElem?_append_left hj, ← List.getD_eq_getElem?_getD]
/- a route that is right -/
structure RtI (k : Nat) (r : List Int) : Prop where
  l1 : 1 ≤ r.length
  l2 : r.length ≤ 4
  b : ∀ i, i < r.length → 0 ≤ r.getD i 0 ∧ r.getD i 0 < k
  d : ∀ i j, i < j → j < r.length → r.getD i 0 ≠ r.getD j 0
theorem lname_word8 : ∀ i < 8, WordP (lname i) := by decide +kernel
theorem fname_word10 : ∀ i < 10, WordP (fname i) := by decide +kernel
theorem lname_inj8 : ∀ i < 8, ∀ j < 8, lname i = lname j → i = j := by decide +kernel
theorem fname_inj10 : ∀ i < 10, ∀ j < 10, fname i = fname j → i = j := by decide +kernel
theorem rt_valid : Go.Cv.ValidP [0, 4] 1 0 ∧ FinP [0, 4] := by
  refine ⟨⟨by decide, by decide, by decide, by decide, by decide, by decide, by decide, by decide +kernel, fun j hj => ?_, by decide +kernel, by decide +kernel⟩, by unfold FinP Go.Cv.INF; decide +kernel⟩
  have : j = 0 := by simp only [List.length_cons, List.length_nil] at hj; omega
  subst this; decide +kernel
theorem rtN_line {k : Nat} {R : List (List Int)} {i : Nat} (hi : i < k) : (rtN k R).ln.getD i ln0 = rtl ∧ (rtN k R).nm.getD i bs0 = lname i := by
  constructor
  · simp [rtN, List.getD_eq_getElem?_getD, hi]
  · simp [rtN, List.getD_eq_getElem?_getD, hi]
theorem rtN_ll {k : Nat} {R : List (List Int)} : (rtN k R).ln.length = k := by simp [rtN]
theorem rtN_nl {k : Nat} {R : List (List Int)} : (rtN k R).nm.length = k := by simp [rtN]
theorem rtN_fl {k : Nat} {R : List (List Int)} : (rtN k R).fl.length = R.length := rtfs_len
theorem rtN_chk {k : Nat} {R : List (List Int)} (hk : 1 ≤ k ∧ k ≤ 8) (hR : R.length ≤ 10) (h : ∀ i, i < R.length → RtI k (R.getD i [])) : chkN (rtN k R) = 0 := by
  refine chkN_ok ?_ ?_ ?_ ?_
  · rw [rtN_ll, rtN_fl]; omega
  · rw [rtN_nl, rtN_ll]
  · intro j hj
    rw [rtN_ll] at hj
    obtain ⟨h1, h2⟩ := rtN_line (R := R) hj
    have hf : nmErr ((rtN k R).nm.take j) ((rtN k R).nm.getD j bs0) = 0 := by
      rw [h2]
      refine nm_fresh (lname_word8 j (by omega)) fun hm => ?_
      obtain ⟨i, hi, hi2, e⟩ := (mem_takeD (d := bs0)).1 hm
      rw [(rtN_line (R := R) (by omega)).2] at e
      have := lname_inj8 j (by omega) i (by omega) e
      omega
    unfold lineE
    rw [hf, if_neg (by simp), h1]
    decide +kernel
  · intro j hj
    rw [rtN_fl] at hj
    have hg : ∀ i, i < R.length → (rtN k R).fl.getD i fl0 = rt1 i (R.getD i []) := fun i hi => rtfs_get hi
    have hf : nmErr (((rtN k R).fl.take j).map (·.nm)) ((rtN k R).fl.getD j fl0).nm = 0 := by
      rw [hg j hj]
      refine nm_fresh (fname_word10 j (by omega)) fun hm => ?_
      obtain ⟨x, hx, e1⟩ := List.mem_map.1 hm
      obtain ⟨i, hi, hi2, e⟩ := (mem_takeD (d := fl0)).1 hx
      rw [e, hg i (by omega)] at e1
      have := fname_inj10 i (by omega) j (by omega) e1
      omega
    have hr : routeE (rtN k R).ln ((rtN k R).fl.getD j fl0) = 0 := by
      rw [hg j hj]
      have q := h j hj
      obtain ⟨f, hfe⟩ : ∃ f, f = rt1 j (R.getD j []) := ⟨_, rfl⟩
      have c1 : f.rt = R.getD j [] := by rw [hfe]; rfl
      have c2 : f.cl = 0 := by rw [hfe]; rfl
      rw [← hfe]
      rw [← c1] at q
      have q1 := q.l1
      have q2 := q.l2
      unfold routeE
      rw [if_neg (by omega), if_neg (by omega)]
      apply firstE_all
      intro i hi
      have q3 := q.b i hi
      unfold hopE
      rw [rtN_ll, if_neg (by omega), if_neg, if_neg]
      · have hl := (rtN_line (R := R) (k := k) (i := (f.rt.getD i 0).toNat) (by omega)).1
        rw [hl, c2]
        decide
      · intro hm
        obtain ⟨i', hi', _, e⟩ := (mem_takeD (d := 0)).1 hm
        exact q.d i' i hi' hi e.symm
    unfold flowE
    rw [hf, if_neg (by simp), hr, if_neg (by simp), hg j hj]
    obtain ⟨f, hfe⟩ : ∃ f, f = rt1 j (R.getD j []) := ⟨_, rfl⟩
    have c1 : f.lo = 1 ∧ f.hi = 1 := by rw [hfe]; exact ⟨rfl, rfl⟩
    have c2 : f.v = [0, 4] ∧ f.p = 1 ∧ f.q = 0 := by rw [hfe]; exact ⟨rfl, rfl, rfl⟩
    rw [← hfe]
    unfold trafE
    rw [if_neg (by omega), if_neg (fun k => k (by rw [c2.1, c2.2.1, c2.2.2]; exact rt_valid.1)), if_neg (by rw [c2.1]; decide), if_neg (fun k => k (by rw [c2.1]; exact rt_valid.2))]
end Go.Tp
end
