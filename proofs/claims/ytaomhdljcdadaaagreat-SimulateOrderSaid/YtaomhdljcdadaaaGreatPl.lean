/-
  A text of the proofs of this seat: lemmas that the statements' proofs use; it states nothing of the program by itself beyond the contracts that its theorems bear. Conditions: those that stand in each theorem. Its short name: Pl.
-/
set_option linter.unusedVariables false
set_option linter.unusedSimpArgs false
section
namespace Go.Cv
/-! plain laws of functions that repeat with a gain -/
def Per (F : Nat → Int) (s p : Nat) (q : Int) : Prop := ∀ t, s ≤ t → F (t + p) = F t + q
theorem Per.mono {F s s' p q} (h : Per F s p q) (hs : s ≤ s') : Per F s' p q := fun t ht => h t (by omega)
theorem Per.mul {F s p q} (h : Per F s p q) : ∀ k : Nat, Per F s (k * p) (k * q)
  | 0 => fun t _ => by simp
  | k + 1 => fun t ht => by
    have h1 := Per.mul h k t ht
    have h2 := h (t + k * p) (by omega)
    rw [show t + (k + 1) * p = t + k * p + p by rw [Nat.add_mul]; omega, h2, h1]
    push_cast; rw [Int.add_mul]; omega
theorem Per.back {F s s' n p Q q} (hn : 1 ≤ n) (h : Per F s n Q) (h' : Per F s' p q) : Per F s p q := by
  intro t ht
  have h1 := h.mul s' t ht
  have h2 := h.mul s' (t + p) (by omega)
  have hle : s' ≤ t + s' * n := by have := Nat.mul_le_mul_left s' hn; omega
  have h3 := h' (t + s' * n) hle
  rw [show t + s' * n + p = t + p + s' * n by omega, h2, h1] at h3
  omega
theorem Per.uniq {F s s' p q q'} (h : Per F s p q) (h' : Per F s' p q') : q = q' := by
  have h1 := h (max s s') (by omega)
  have h2 := h' (max s s') (by omega)
  omega
/- p is the least period -/
def Min (F : Nat → Int) (p : Nat) : Prop := ∀ s' p' q', 1 ≤ p' → Per F s' p' q' → p ≤ p'
theorem Per.dvd {F s p n q Q} (hp : 1 ≤ p) (h : Per F s p q) (hm : Min F p) (hn : Per F s n Q) : p ∣ n := by
  rcases Nat.eq_zero_or_pos (n % p) with h0 | h0
  · exact Nat.dvd_of_mod_eq_zero h0
  · have hr : Per F s (n % p) (Q - (n / p : Nat) * q) := by
      intro t ht
      have h1 := hn t ht
      have h2 := h.mul (n / p) (t + n % p) (by omega)
      have h3 := Nat.div_add_mod n p
      rw [show t + n % p + n / p * p = t + n by rw [Nat.mul_comm]; omega, h1] at h2
      omega
    have := hm s (n % p) _ h0 hr
    have := Nat.mod_lt n hp
    omega
theorem exists_min {F s n Q} (hn : 1 ≤ n) (h : Per F s n Q) : ∃ p q, 1 ≤ p ∧ Per F s p q ∧ Min F p := by
  have key : ∀ (k n : Nat) (s : Nat) (Q : Int), n ≤ k → 1 ≤ n → Per F s n Q → ∃ s' p q, 1 ≤ p ∧ Per F s' p q ∧ Min F p := by
    intro k
    induction k with
    | zero => intro n s Q h1 h2; omega
    | succ k ih =>
      intro n s Q hk hn h
      by_cases hm : Min F n
      · exact ⟨s, n, Q, hn, h, hm⟩
      · simp only [Min, Classical.not_forall] at hm
        obtain ⟨s', p', q', hp', hq, hlt⟩ := hm
        exact ih p' s' q' (by omega) hp' hq
  obtain ⟨s', p, q, hp, hq, hm⟩ := key n n s Q (by omega) hn h
  exact ⟨p, q, hp, Per.back hn h hq, hm⟩
/- what the programs ask of a period -/
def Fits (F : Nat → Int) (s n : Nat) (Q : Int) (p : Nat) : Prop := n % p = 0 ∧ Q * p % n = 0 ∧ ∀ t, s ≤ t → t < s + n → F (t + p) = F t + Q * p / n
theorem fits_of {F s n Q p q} (hn : 1 ≤ n) (h : Per F s n Q) (hp : p ∣ n) (hq : Per F s p q) : Fits F s n Q p ∧ Q * p / n = q := by
  obtain ⟨k, rfl⟩ := hp
  have h1 := hq.mul k
  rw [Nat.mul_comm] at h1
  have hQ := h.uniq h1
  have e : Q * (p : Int) = q * ((p * k : Nat) : Int) := by rw [hQ]; push_cast; ac_rfl
  have hne : ((p * k : Nat) : Int) ≠ 0 := by omega
  have e2 : Q * (p : Int) / ((p * k : Nat) : Int) = q := by rw [e]; exact Int.mul_ediv_cancel _ hne
  exact ⟨⟨Nat.mul_mod_right p k, by rw [e]; exact Int.mul_emod_left _ _, fun t ht _ => by rw [e2]; exact hq t ht⟩, e2⟩
theorem Fits.min {F s n Q p} (hn : 1 ≤ n) (h : Per F s n Q) (hl : ∀ p', 1 ≤ p' → p' < p → ¬Fits F s n Q p') : Min F p := by
  obtain ⟨p0, q0, h0, hq0, hm⟩ := exists_min hn h
  have hd := hq0.dvd h0 hm h
  have hf0 := (fits_of hn h hd hq0).1
  have : p ≤ p0 := by
    rcases Nat.lt_or_ge p0 p with h1 | h1
    · exact absurd hf0 (hl p0 h0 h1)
    · exact h1
  intro s' p' q' hp' hq'
  have := hm s' p' q' hp' hq'
  omega
/- the least start -/
def MinS (F : Nat → Int) (s p : Nat) (q : Int) : Prop := ∀ s', Per F s' p q → s ≤ s'
abbrev INF : Int := 4611686018427387904
def vals (F : Nat → Int) (n : Nat) : List Int := (List.range n).map F
theorem vals_len (F : Nat → Int) (n : Nat) : (vals F n).length = n := by simp [vals]
/- the normal form of a function that repeats -/
def NF (F : Nat → Int) (vs : List Int) (p : Nat) (q : Int) : Prop := ∃ s, 1 ≤ p ∧ Per F s p q ∧ Min F p ∧ MinS F s p q ∧ vs = vals F (s + p)
theorem NF.uniq {F vs p q vs' p' q'} (h : NF F vs p q) (h' : NF F vs' p' q') : vs = vs' ∧ p = p' ∧ q = q' := by
  obtain ⟨s, h2, h3, h4, h5, h6⟩ := h
  obtain ⟨s', g2, g3, g4, g5, g6⟩ := h'
  have e1 := h4 s' p' q' g2 g3
  have e2 := g4 s p q h2 h3
  have : p = p' := by omega
  subst this
  have hq := h3.uniq g3
  subst hq
  have e3 := h5 s' g3
  have e4 := g5 s h3
  have : s = s' := by omega
  subst this
  exact ⟨by rw [h6, g6], rfl, rfl⟩
/- what ends in the infinite -/
theorem NF.inf {F : Nat → Int} {m : Nat} (h1 : ∀ t, m ≤ t → F t = INF) (h2 : ∀ t < m, F t ≠ INF) : NF F (vals F (m + 1)) 1 0 := by
  refine ⟨m, by omega, fun t ht => by rw [h1 t ht, h1 (t + 1) (by omega)]; rfl, fun _ p' _ hp' _ => hp', fun s' hs' => ?_, rfl⟩
  rcases Nat.lt_or_ge s' m with h | h
  · have := hs' (m - 1) (by omega)
    rw [show m - 1 + 1 = m by omega, h1 m (by omega)] at this
    exact absurd (by omega) (h2 (m - 1) (by omega))
  · exact h

/-! the function of a curve -/
def val (vs : List Int) (p : Nat) (q : Int) (t : Nat) : Int :=
  if t < vs.length then vs.getD t 0 else
  if vs.getD (t - ((t - vs.length) / p + 1) * p) 0 = INF then INF else vs.getD (t - ((t - vs.length) / p + 1) * p) 0 + ((t - vs.length) / p + 1 : Nat) * q
def ValidP (vs : List Int) (p i : Int) : Prop :=
  1 ≤ vs.length ∧ vs.length ≤ 400 ∧ 1 ≤ p ∧ p ≤ 120 ∧ p ≤ vs.length ∧ 0 ≤ i ∧ i ≤ 1073741824 ∧
  (∀ j < vs.length, vs.getD j 0 = 4611686018427387904 ∨ 0 ≤ vs.getD j 0 ∧ vs.getD j 0 ≤ 1073741824) ∧
  (∀ j, j + 1 < vs.length → vs.getD j 0 ≤ vs.getD (j + 1) 0) ∧
  (vs.getD (vs.length - 1) 0 = 4611686018427387904 → p = 1 ∧ i = 0) ∧
  (vs.getD (vs.length - 1) 0 ≠ 4611686018427387904 → vs.getD (vs.length - p.toNat) 0 + i ≥ vs.getD (vs.length - 1) 0)
structure VF (vs : List Int) (p : Nat) (q : Int) : Prop where
  n1 : 1 ≤ vs.length
  n2 : vs.length ≤ 400
  p1 : 1 ≤ p
  p2 : p ≤ 120
  pn : p ≤ vs.length
  q0 : 0 ≤ q
  q1 : q ≤ 1073741824
  v : ∀ j < vs.length, vs.getD j 0 = INF ∨ 0 ≤ vs.getD j 0 ∧ vs.getD j 0 ≤ 1073741824
  mono : ∀ j k, j ≤ k → k < vs.length → vs.getD j 0 ≤ vs.getD k 0
  inf : vs.getD (vs.length - 1) 0 = INF → p = 1 ∧ q = 0
  fin : vs.getD (vs.length - 1) 0 ≠ INF → vs.getD (vs.length - p) 0 + q ≥ vs.getD (vs.length - 1) 0
end Go.Cv
end
section
namespace Go.Np
/-! networks, plainly -/
structure Ln where
  k : Int
  c : Int
  n : Int
  w : List Int
  s : List Int
structure Fl where
  nm : ByteArray
  rt : List Int
  cl : Int
  lo : Int
  hi : Int
  v : List Int
  p : Int
  q : Int
structure Nt where
  nm : List ByteArray
  ln : List Ln
  fl : List Fl
abbrev ln0 : Ln := ⟨0, 0, 0, [], []⟩
abbrev fl0 : Fl := ⟨ByteArray.empty, [], 0, 0, 0, [], 0, 0⟩
abbrev bs0 : ByteArray := ByteArray.empty
def bt (s : ByteArray) (i : Nat) : Int := ((s[i]?).getD 0).toNat
def okC (c : Int) : Prop := c = 45 ∨ (48 ≤ c ∧ c ≤ 57) ∨ (97 ≤ c ∧ c ≤ 122)
def WordP (s : ByteArray) : Prop := 1 ≤ s.size ∧ s.size ≤ 12 ∧ (97 ≤ bt s 0 ∧ bt s 0 ≤ 122) ∧ ∀ i, i < s.size → okC (bt s i)
instance {c : Int} : Decidable (okC c) := by unfold okC; infer_instance
instance {s : ByteArray} : Decidable (WordP s) := by unfold WordP; infer_instance
def inR (l : List Int) (a b : Int) : Prop := ∀ x ∈ l, a ≤ x ∧ x ≤ b
instance {l : List Int} {a b : Int} : Decidable (inR l a b) := by unfold inR; infer_instance
/- the lists of a line: its error -/
def lsErr (l : Ln) : Int :=
  if l.k = 3 ∧ ¬((l.w.length : Int) = l.n ∧ inR l.w 1 20) ∨ l.k = 4 ∧ ¬((l.w.length : Int) = l.n ∧ inR l.w 1 6000) ∨ l.k = 5 ∧ ¬(1 ≤ l.s.length ∧ l.s.length ≤ 40 ∧ inR l.s (-1) (l.n - 1)) then 2
  else if (l.k ≠ 3 ∧ l.k ≠ 4 ∧ l.w.length ≠ 0) ∨ (l.k ≠ 5 ∧ l.s.length ≠ 0) then 6 else 0
def lnErr (l : Ln) : Int :=
  if l.k < 1 ∨ 5 < l.k then 9
  else if l.c < 1 ∨ 4000 < l.c ∨ l.n < 1 ∨ 6 < l.n then 2
  else lsErr l
open Classical in
noncomputable def nmErr (met : List ByteArray) (s : ByteArray) : Int := if ¬WordP s then 4 else if s ∈ met then 60 else 0
/- the first error of some -/
def firstE (f : Nat → Int) : Nat → Int
  | 0 => 0
  | m + 1 => if firstE f m ≠ 0 then firstE f m else f m
theorem firstE_all {f : Nat → Int} : ∀ {m : Nat}, (∀ i < m, f i = 0) → firstE f m = 0
  | 0, _ => rfl
  | m + 1, h => by
    simp only [firstE]
    rw [firstE_all (fun i hi => h i (by omega)), if_neg (by simp)]
    exact h m (by omega)
theorem firstE_ge {f : Nat → Int} {i : Nat} : ∀ {m : Nat}, i ≤ m → firstE f i ≠ 0 → firstE f m = firstE f i
  | 0, h, _ => by have : i = 0 := by omega
                  subst this; rfl
  | m + 1, h, hn => by
    by_cases e : i = m + 1
    · subst e; rfl
    · have := firstE_ge (m := m) (by omega) hn
      simp only [firstE]
      rw [this, if_pos hn]
theorem firstE_at {f : Nat → Int} {i m : Nat} (hi : i < m) (h : ∀ j < i, f j = 0) (hn : f i ≠ 0) : firstE f m = f i := by
  have e : firstE f (i + 1) = f i := by simp only [firstE]; rw [firstE_all h, if_neg (by simp)]
  rw [firstE_ge (i := i + 1) (by omega) (by rw [e]; exact hn), e]
theorem firstE_zero {f : Nat → Int} {m : Nat} (h : firstE f m = 0) : ∀ i < m, f i = 0 := by
  intro i hi
  induction i using Nat.strongRecOn with
  | ind i ih =>
    by_cases hn : f i = 0
    · exact hn
    · have := firstE_at hi (fun j hj => ih j hj (by omega)) hn
      rw [h] at this; exact absurd this.symm hn
noncomputable def lineE (n : Nt) (i : Nat) : Int := if nmErr (n.nm.take i) (n.nm.getD i bs0) ≠ 0 then nmErr (n.nm.take i) (n.nm.getD i bs0) else lnErr (n.ln.getD i ln0)
/- a hop of a route -/
def hopE (ls : List Ln) (f : Fl) (k : Nat) : Int :=
  if f.rt.getD k 0 < 0 ∨ (ls.length : Int) ≤ f.rt.getD k 0 then 2
  else if f.rt.getD k 0 ∈ f.rt.take k then 60
  else if f.cl < 0 ∨ (ls.getD (f.rt.getD k 0).toNat ln0).n ≤ f.cl then 2 else 0
def routeE (ls : List Ln) (f : Fl) : Int := if f.rt.length = 0 then 5 else if 4 < f.rt.length then 3 else firstE (hopE ls f) f.rt.length
/- V: the contract is a curve; N: it is finite -/
def trafE (V N : Prop) [Decidable V] [Decidable N] (f : Fl) : Int :=
  if f.lo < 1 ∨ f.hi < f.lo ∨ 1500 < f.hi then 2 else if ¬V then 1 else if f.v.getD 0 0 ≠ 0 then 6 else if ¬N then 2 else 0
/-! the users of a line -/
def hop (n : Nt) (f l : Int) : Int :=
  if f < 0 ∨ (n.fl.length : Int) ≤ f then -1
  else if l ∈ (n.fl.getD f.toNat fl0).rt then ((n.fl.getD f.toNat fl0).rt.idxOf l : Nat) else -1
/- the sizes of some flows -/
def szs (n : Nt) : List Int → Int × Int
  | [] => (1, 1)
  | x :: r => (r.foldl (fun a y => (min a.1 (n.fl.getD y.toNat fl0).lo, max a.2 (n.fl.getD y.toNat fl0).hi)) ((n.fl.getD x.toNat fl0).lo, (n.fl.getD x.toNat fl0).hi))
end Go.Np
end
section
namespace Go.Np
open Go.Cv
def FinP (vs : List Int) : Prop := vs.getD (vs.length - 1) 0 ≠ INF
open Classical in
noncomputable def flowE (n : Nt) (i : Nat) : Int :=
  if nmErr ((n.fl.take i).map (·.nm)) (n.fl.getD i fl0).nm ≠ 0 then nmErr ((n.fl.take i).map (·.nm)) (n.fl.getD i fl0).nm
  else if routeE n.ln (n.fl.getD i fl0) ≠ 0 then routeE n.ln (n.fl.getD i fl0)
  else trafE (ValidP (n.fl.getD i fl0).v (n.fl.getD i fl0).p (n.fl.getD i fl0).q) (FinP (n.fl.getD i fl0).v) (n.fl.getD i fl0)
noncomputable def chkN (n : Nt) : Int :=
  if n.ln.length = 0 ∨ 8 < n.ln.length ∨ 10 < n.fl.length then 3
  else if n.nm.length ≠ n.ln.length then 2
  else if firstE (lineE n) n.ln.length ≠ 0 then firstE (lineE n) n.ln.length
  else firstE (flowE n) n.fl.length
theorem chkN_line {n : Nt} {i : Nat} (h1 : ¬(n.ln.length = 0 ∨ 8 < n.ln.length ∨ 10 < n.fl.length)) (h2 : n.nm.length = n.ln.length) (hi : i < n.ln.length) (h : ∀ j < i, lineE n j = 0) (hn : lineE n i ≠ 0) : chkN n = lineE n i := by
  unfold chkN
  rw [if_neg h1, if_neg (by omega), firstE_at hi h hn, if_pos hn]
theorem chkN_flow {n : Nt} {i : Nat} (h1 : ¬(n.ln.length = 0 ∨ 8 < n.ln.length ∨ 10 < n.fl.length)) (h2 : n.nm.length = n.ln.length) (hl : ∀ j < n.ln.length, lineE n j = 0) (hi : i < n.fl.length) (h : ∀ j < i, flowE n j = 0) (hn : flowE n i ≠ 0) : chkN n = flowE n i := by
  unfold chkN
  rw [if_neg h1, if_neg (by omega), firstE_all hl, if_neg (by simp), firstE_at hi h hn]
theorem chkN_ok {n : Nt} (h1 : ¬(n.ln.length = 0 ∨ 8 < n.ln.length ∨ 10 < n.fl.length)) (h2 : n.nm.length = n.ln.length) (hl : ∀ j < n.ln.length, lineE n j = 0) (h : ∀ j < n.fl.length, flowE n j = 0) : chkN n = 0 := by
  unfold chkN
  rw [if_neg h1, if_neg (by omega), firstE_all hl, if_neg (by simp), firstE_all h]
theorem chkN_zero {n : Nt} (h : chkN n = 0) : ¬(n.ln.length = 0 ∨ 8 < n.ln.length ∨ 10 < n.fl.length) ∧ n.nm.length = n.ln.length ∧ (∀ j < n.ln.length, lineE n j = 0) ∧ ∀ j < n.fl.length, flowE n j = 0 := by
  unfold chkN at h
  split at h
  · omega
  · split at h
    · omega
    · split at h
      · contradiction
      · rename_i h1 h2 h3
        exact ⟨h1, by omega, firstE_zero (by omega), firstE_zero h⟩
/-! the networks that are made -/
def lname (i : Nat) : ByteArray := ⟨#[(97 + i).toUInt8]⟩
def fname (i : Nat) : ByteArray := ⟨#[(102 + i).toUInt8]⟩
structure FlG (m k : Nat) (f : Fl) : Prop where
  cl : 0 ≤ f.cl ∧ f.cl < k
  lo : 1 ≤ f.lo ∧ f.lo ≤ 3
  hi : f.lo ≤ f.hi ∧ f.hi ≤ 7
  r1 : 1 ≤ f.rt.length ∧ f.rt.length ≤ 3
  rb : ∀ x ∈ f.rt, 0 ≤ x ∧ x < m
  nd : ∀ i j, i < j → j < f.rt.length → f.rt.getD i 0 ≠ f.rt.getD j 0
  ct : ∃ b : Int, 4 ≤ b ∧ b ≤ 16 ∧ 1 ≤ f.p ∧ (f.p ≤ 12 ∧ f.p ∣ 12) ∧ f.v = 0 :: List.replicate f.p.toNat b ∧ 0 ≤ f.q ∧ f.q ≤ 3
structure NtG (k : Nat) (n : Nt) : Prop where
  k1 : 1 ≤ k ∧ k ≤ 2
  ll : 1 ≤ n.ln.length ∧ n.ln.length ≤ 4
  nl : n.nm.length = n.ln.length
  nm : ∀ i, i < n.ln.length → n.nm.getD i bs0 = lname i
  le : ∀ l ∈ n.ln, lnErr l = 0 ∧ l.n = k
  fl : n.fl.length ≤ 5
  fn : ∀ i, i < n.fl.length → (n.fl.getD i fl0).nm = fname i
  fg : ∀ f ∈ n.fl, FlG n.ln.length k f
theorem getD_in {α : Type} {l : List α} {d : α} {i : Nat} (h : i < l.length) : l.getD i d ∈ l := by
  rw [List.getD_eq_getElem?_getD, List.getElem?_eq_getElem h]; exact List.getElem_mem h
theorem mem_take {α : Type} {l : List α} {d x : α} {i : Nat} (h : x ∈ l.take i) : ∃ j, j < i ∧ j < l.length ∧ x = l.getD j d := by
  obtain ⟨j, hj, e⟩ := List.mem_iff_getElem.1 h
  rw [List.length_take] at hj
  refine ⟨j, by omega, by omega, ?_⟩
  rw [← e, List.getElem_take]
  simp [List.getD_eq_getElem?_getD, show j < l.length by omega]
theorem lname_word : ∀ i < 4, WordP (lname i) := by decide +kernel
theorem fname_word : ∀ i < 5, WordP (fname i) := by decide +kernel
theorem lname_inj : ∀ i < 4, ∀ j < 4, lname i = lname j → i = j := by decide +kernel
theorem fname_inj : ∀ i < 5, ∀ j < 5, fname i = fname j → i = j := by decide +kernel
theorem nm_fresh {met : List ByteArray} {s : ByteArray} (h : WordP s) (hm : s ∉ met) : nmErr met s = 0 := by
  unfold nmErr; rw [if_neg (fun k => k h), if_neg hm]
theorem FlG.valid {m k : Nat} {f : Fl} (g : FlG m k f) : ValidP f.v f.p f.q ∧ FinP f.v := by
  obtain ⟨b, b1, b2, p1, p2, hv, q1, q2⟩ := g.ct
  have hlen : f.v.length = f.p.toNat + 1 := by rw [hv]; simp
  have hg : ∀ j, j < f.p.toNat + 1 → f.v.getD j 0 = if j = 0 then 0 else b := by
    intro j hj
    rw [hv]
    cases j with
    | zero => rfl
    | succ j => simp [List.getD_eq_getElem?_getD, List.getElem?_replicate, show j < f.p.toNat by omega]
  have hlast : f.v.getD (f.v.length - 1) 0 = b := by rw [hg _ (by omega), if_neg (by omega)]
  refine ⟨⟨by omega, by omega, by omega, by omega, by omega, by omega, by omega, ?_, ?_, ?_, ?_⟩, ?_⟩
  · intro j hj; rw [hg j (by omega)]; split <;> omega
  · intro j hj; rw [hg j (by omega), hg (j + 1) (by omega)]; split <;> split <;> omega
  · intro h; rw [hlast] at h; omega
  · intro _; rw [hlast, hg _ (by omega)]; split <;> omega
  · unfold FinP; rw [hlast]; unfold INF; omega
theorem FlG.route {m k : Nat} {ls : List Ln} {f : Fl} (g : FlG m k f) (hm : ls.length = m) (hk : ∀ l ∈ ls, l.n = k) : routeE ls f = 0 := by
  have r1 := g.r1
  unfold routeE
  rw [if_neg (by omega), if_neg (by omega)]
  apply firstE_all
  intro i hi
  have hx := g.rb _ (getD_in (d := 0) hi)
  have hc := g.cl
  unfold hopE
  rw [if_neg (by omega), if_neg, if_neg]
  · have := hk (ls.getD (f.rt.getD i 0).toNat ln0) (getD_in (by omega))
    omega
  · intro h
    obtain ⟨j, hj, _, e⟩ := mem_take (d := 0) h
    exact g.nd j i hj hi e.symm
theorem NtG.line {k : Nat} {n : Nt} (g : NtG k n) : ∀ i < n.ln.length, lineE n i = 0 := by
  intro i hi
  have h4 := g.ll.2
  have e := g.nm i hi
  have hf : nmErr (n.nm.take i) (n.nm.getD i bs0) = 0 := by
    rw [e]
    refine nm_fresh (lname_word i (by omega)) fun h => ?_
    obtain ⟨j, hj, hj2, e2⟩ := mem_take (d := bs0) h
    rw [g.nm j (by omega)] at e2
    have := lname_inj i (by omega) j (by omega) e2
    omega
  unfold lineE
  rw [hf, if_neg (by simp)]
  exact (g.le _ (getD_in hi)).1
theorem NtG.flow {k : Nat} {n : Nt} (g : NtG k n) : ∀ i < n.fl.length, flowE n i = 0 := by
  intro i hi
  have h5 := g.fl
  have e := g.fn i hi
  have hf : nmErr ((n.fl.take i).map (·.nm)) (n.fl.getD i fl0).nm = 0 := by
    rw [e]
    refine nm_fresh (fname_word i (by omega)) fun h => ?_
    obtain ⟨x, hx, e1⟩ := List.mem_map.1 h
    obtain ⟨j, hj, hj2, e2⟩ := mem_take (d := fl0) hx
    rw [e2, g.fn j (by omega)] at e1
    have := fname_inj j (by omega) i (by omega) e1
    omega
  have G := g.fg _ (getD_in (d := fl0) hi)
  have hr := G.route rfl (fun l hl => (g.le l hl).2)
  have hv := G.valid
  unfold flowE
  rw [hf, if_neg (by simp), hr, if_neg (by simp)]
  have l1 := G.lo
  have l2 := G.hi
  obtain ⟨b, _, _, _, _, hv0, _⟩ := G.ct
  unfold trafE
  rw [if_neg (by omega), if_neg (fun h => h hv.1), if_neg (by rw [hv0]; simp), if_neg (fun h => h hv.2)]
theorem NtG.chk {k : Nat} {n : Nt} (g : NtG k n) : chkN n = 0 := by
  have h1 := g.ll
  have h2 := g.fl
  exact chkN_ok (by omega) g.nl g.line g.flow
end Go.Np
end
section
namespace Go.Pk
/-! packets, plainly -/
structure Pk where
  f : Int
  t : Int
  s : Int
def sel (flow : Int) (x : Pk) : Prop := flow = -1 ∨ (x.f = flow ∧ 0 ≤ flow)
instance (flow : Int) (x : Pk) : Decidable (sel flow x) := inferInstanceAs (Decidable (_ ∨ _))
abbrev pk0 : Pk := ⟨0, 0, 0⟩
/-! what is wrong with a trace -/
def bad (x : Pk) : Prop := x.f < 0 ∨ 60 ≤ x.f ∨ x.t < 0 ∨ 2000 < x.t ∨ x.s < 1 ∨ 1500 < x.s
instance (x : Pk) : Decidable (bad x) := inferInstanceAs (Decidable (_ ∨ _))
def lst (p : List Pk) : Nat → Int
  | 0 => 0
  | i + 1 => (p.getD i pk0).t
def vldN (p : List Pk) : Nat → Int
  | 0 => 0
  | i + 1 => if vldN p i ≠ 0 then vldN p i else if bad (p.getD i pk0) then 2 else if (p.getD i pk0).t < lst p i then 7 else 0
def vld (p : List Pk) : Int := if 60 < p.length then 3 else vldN p p.length
theorem vldN_ge {p : List Pk} {i : Nat} : ∀ {m : Nat}, i ≤ m → vldN p i ≠ 0 → vldN p m = vldN p i
  | 0, h, _ => by have : i = 0 := by omega
                  subst this; rfl
  | m + 1, h, hn => by
    by_cases e : i = m + 1
    · subst e; rfl
    · have := vldN_ge (p := p) (i := i) (m := m) (by omega) hn
      simp only [vldN]; rw [if_pos (by rw [this]; exact hn), this]
theorem vldN_zero {p : List Pk} : ∀ {m : Nat}, vldN p m = 0 ↔ ∀ i, i < m → ¬bad (p.getD i pk0) ∧ lst p i ≤ (p.getD i pk0).t
  | 0 => by simp [vldN]
  | m + 1 => by
    have ih := vldN_zero (p := p) (m := m)
    simp only [vldN]
    constructor
    · intro h
      split at h
      · exact absurd h (by assumption)
      · rename_i h0
        split at h
        · cases h
        · split at h
          · cases h
          · rename_i h1 h2
            intro i hi
            by_cases e : i = m
            · subst e; exact ⟨h1, by omega⟩
            · exact ih.1 (by omega) i (by omega)
    · intro h
      have h0 := ih.2 fun i hi => h i (by omega)
      rw [if_neg (by omega), if_neg (h m (by omega)).1, if_neg (by have := (h m (by omega)).2; omega)]
/- a trace that is right -/
structure Vld (p : List Pk) : Prop where
  l : p.length ≤ 60
  g : ∀ i, i < p.length → ¬bad (p.getD i pk0)
  o : ∀ i, i < p.length → lst p i ≤ (p.getD i pk0).t
theorem vld_zero {p : List Pk} : vld p = 0 ↔ Vld p := by
  unfold vld
  constructor
  · intro h
    split at h
    · cases h
    · rename_i hl
      have := vldN_zero.1 h
      exact ⟨by omega, fun i hi => (this i hi).1, fun i hi => (this i hi).2⟩
  · rintro ⟨h1, h2, h3⟩
    rw [if_neg (by omega), vldN_zero]
    exact fun i hi => ⟨h2 i hi, h3 i hi⟩
theorem Vld.mem {p : List Pk} (h : Vld p) : ∀ x ∈ p, ¬bad x := fun x hx => by
  obtain ⟨i, hi, rfl⟩ := List.mem_iff_getElem.1 hx
  have := h.g i hi
  rwa [List.getD_eq_getElem?_getD, List.getElem?_eq_getElem hi] at this
end Go.Pk
end
