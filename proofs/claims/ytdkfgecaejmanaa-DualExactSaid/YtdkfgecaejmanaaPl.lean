/-
  A text of the proofs of this seat: lemmas that the statements' proofs use; it states nothing of the program by itself beyond the contracts that its theorems bear. Conditions: those that stand in each theorem. Its short name: Pl.
-/
set_option linter.unusedVariables false
set_option linter.unusedSimpArgs false
section
namespace Go.Fq
/-! Fractions of the program as rational numbers. -/
def MT : Nat := 1073741824
def Sm (r : Rat) : Prop := r.num.natAbs ≤ MT ∧ r.den ≤ MT
instance (r : Rat) : Decidable (Sm r) := inferInstanceAs (Decidable (_ ∧ _))
def VF (a : Int × Int) : Prop := 1 ≤ a.2 ∧ a.2 ≤ 1073741824 ∧ -1073741824 ≤ a.1 ∧ a.1 ≤ 1073741824 ∧ Nat.gcd a.1.natAbs a.2.natAbs = 1
instance (a : Int × Int) : Decidable (VF a) := inferInstanceAs (Decidable (_ ∧ _ ∧ _ ∧ _ ∧ _))
def val (a : Int × Int) : Rat := Rat.divInt a.1 a.2
def enc (r : Rat) : Int × Int := (r.num, r.den)
def fenc (r : Rat) : Int × Int × Int := if Sm r then (r.num, r.den, 0) else (0, 0, 3)
def fnew (n d : Int) : Int × Int × Int := if d = 0 then (0, 0, 2) else fenc (Rat.divInt n d)
theorem VF.num {a} (h : VF a) : (val a).num = a.1 := by
  obtain ⟨h1, h2, h3, h4, h5⟩ := h
  unfold val
  rw [Rat.num_divInt, Int.gcd, Nat.gcd_comm, h5]
  have : a.2.sign = 1 := Int.sign_eq_one_of_pos (by omega)
  simp [this]
theorem VF.den {a} (h : VF a) : ((val a).den : Int) = a.2 := by
  obtain ⟨h1, h2, h3, h4, h5⟩ := h
  unfold val
  rw [Rat.den_divInt, Int.gcd, Nat.gcd_comm, h5, if_neg (by omega)]
  simp; omega
theorem VF.sm {a} (h : VF a) : Sm (val a) := by
  have h1 := h.num; have h2 := h.den
  obtain ⟨k1, k2, k3, k4, k5⟩ := h
  unfold Sm MT; omega
theorem VF.enc {a} (h : VF a) : enc (val a) = a := by
  unfold Fq.enc; rw [h.num, h.den]
theorem vf_enc {r : Rat} (h : Sm r) : VF (enc r) := by
  unfold Sm MT at h
  have := r.den_pos
  have hr := r.reduced
  refine ⟨?_, ?_, ?_, ?_, ?_⟩ <;> simp only [enc] <;> try omega
  simpa [Nat.Coprime] using hr
theorem val_enc {r : Rat} : val (enc r) = r := by
  unfold val enc; exact Rat.num_divInt_den r
theorem vf_zero : VF (0, 1) := by decide
theorem val_zero : val (0, 1) = 0 := by decide +kernel
theorem VF.inj {a b} (h : VF a) (k : VF b) (e : val a = val b) : a = b := by rw [← h.enc, ← k.enc, e]
theorem VF.cmp {a b} (h : VF a) (k : VF b) : a.1 * b.2 < b.1 * a.2 ↔ val a < val b := by
  rw [Rat.lt_iff, h.num, h.den, k.num, k.den]
theorem VF.add {a b} (h : VF a) (k : VF b) : fnew (a.1 * b.2 + b.1 * a.2) (a.2 * b.2) = fenc (val a + val b) := by
  have ha := h.1; have hb := k.1
  have : a.2 * b.2 ≠ 0 := Int.mul_ne_zero (by omega) (by omega)
  unfold fnew val
  rw [if_neg this, Rat.divInt_add_divInt _ _ (by omega) (by omega)]
theorem VF.mul {a b} (h : VF a) (k : VF b) : fnew (a.1 * b.1) (a.2 * b.2) = fenc (val a * val b) := by
  have ha := h.1; have hb := k.1
  have : a.2 * b.2 ≠ 0 := Int.mul_ne_zero (by omega) (by omega)
  unfold fnew val
  rw [if_neg this, Rat.divInt_mul_divInt]
theorem fenc_ok {r : Rat} {x y : Int} (h : fenc r = (x, y, 0)) : Sm r ∧ (x, y) = enc r := by
  unfold fenc at h
  split at h
  · rename_i hs; simp only [Prod.mk.injEq, and_true] at h; exact ⟨hs, by simp [enc, h.1, h.2]⟩
  · simp at h
/- the terms of a quotient in lowest terms -/
theorem divInt_terms (n d : Int) (hd : d ≠ 0) :
    (Rat.divInt n d).den = d.natAbs / Nat.gcd n.natAbs d.natAbs ∧
    (Rat.divInt n d).num = if (n < 0 ↔ d < 0) then ((n.natAbs / Nat.gcd n.natAbs d.natAbs : Nat) : Int) else -((n.natAbs / Nat.gcd n.natAbs d.natAbs : Nat) : Int) := by
  have hg : (Nat.gcd n.natAbs d.natAbs : Int) ∣ (n.natAbs : Int) := Int.natCast_dvd_natCast.2 (Nat.gcd_dvd_left _ _)
  constructor
  · rw [Rat.den_divInt, if_neg hd, Int.gcd, Nat.gcd_comm]
  · rw [Rat.num_divInt, Int.gcd, Nat.gcd_comm]
    have hn : n = (n.natAbs : Int) ∨ n = -(n.natAbs : Int) := by omega
    rw [Int.natCast_ediv]
    rcases Int.lt_trichotomy d 0 with h | h | h
    · rw [Int.sign_eq_neg_one_of_neg h, Int.neg_mul, Int.one_mul]
      split
      · rename_i hh
        have : n < 0 := hh.2 h
        congr 1; omega
      · rename_i hh
        have : ¬ n < 0 := fun x => hh ⟨fun _ => h, fun _ => x⟩
        rw [Int.neg_ediv_of_dvd (by rw [show n = (n.natAbs : Int) by omega]; exact hg)]
        congr 2; omega
    · exact absurd h hd
    · rw [Int.sign_eq_one_of_pos h, Int.one_mul]
      split
      · rename_i hh
        have : ¬ n < 0 := fun x => by have := hh.1 x; omega
        congr 1; omega
      · rename_i hh
        have : n < 0 := Classical.byContradiction fun x => hh ⟨fun y => absurd y x, fun y => by omega⟩
        conv => lhs; rw [show n = -(n.natAbs : Int) by omega]
        rw [Int.neg_ediv_of_dvd (by simpa using hg)]; simp
theorem sm_of {r : Rat} {n d : Nat} (hn : r.num.natAbs = n) (hd : r.den = d) : Sm r ↔ n ≤ 1073741824 ∧ d ≤ 1073741824 := by
  unfold Sm MT; rw [hn, hd]
/- what New computes -/
theorem fnew_eq (n d : Int) (hd : d ≠ 0) : fnew n d =
    (if 1073741824 < n.natAbs / Nat.gcd n.natAbs d.natAbs ∨ 1073741824 < d.natAbs / Nat.gcd n.natAbs d.natAbs then (0, 0, 3)
     else if (n < 0 ↔ d < 0) then (((n.natAbs / Nat.gcd n.natAbs d.natAbs : Nat) : Int), ((d.natAbs / Nat.gcd n.natAbs d.natAbs : Nat) : Int), 0)
     else (-((n.natAbs / Nat.gcd n.natAbs d.natAbs : Nat) : Int), ((d.natAbs / Nat.gcd n.natAbs d.natAbs : Nat) : Int), 0)) := by
  obtain ⟨h1, h2⟩ := divInt_terms n d hd
  generalize n.natAbs / Nat.gcd n.natAbs d.natAbs = x at *
  generalize d.natAbs / Nat.gcd n.natAbs d.natAbs = y at *
  have h3 : (Rat.divInt n d).num.natAbs = x := by rw [h2]; split <;> simp
  have hs := sm_of h3 h1
  unfold fnew fenc
  rw [if_neg hd]
  by_cases hb : 1073741824 < x ∨ 1073741824 < y
  · rw [if_pos hb, if_neg (by rw [hs]; omega)]
  · rw [if_neg hb, if_pos (by rw [hs]; omega), h1, h2]
    split <;> rfl
theorem tdiv_nat (n : Int) (g : Nat) : n.tdiv g = if n < 0 then -((n.natAbs / g : Nat) : Int) else ((n.natAbs / g : Nat) : Int) := by
  split
  · have e : n = -(n.natAbs : Int) := by omega
    conv => lhs; rw [e]
    rw [Int.neg_tdiv, Int.tdiv_eq_ediv_of_nonneg (by omega)]; rfl
  · have e : n = (n.natAbs : Int) := by omega
    conv => lhs; rw [e]
    rw [Int.tdiv_eq_ediv_of_nonneg (by omega)]; rfl
theorem new_pos {n d : Int} (hd : 0 < d) : n.tdiv (Nat.gcd n.natAbs d.natAbs) = (Rat.divInt n d).num ∧ d.tdiv (Nat.gcd n.natAbs d.natAbs) = (Rat.divInt n d).den := by
  obtain ⟨h1, h2⟩ := divInt_terms n d (by omega)
  rw [h1, h2, tdiv_nat, tdiv_nat, if_neg (show ¬ d < 0 by omega)]
  refine ⟨?_, rfl⟩
  by_cases h : n < 0
  · rw [if_pos h, if_neg (by omega)]
  · rw [if_neg h, if_pos (by omega)]
theorem new_neg {n d : Int} (hd : d < 0) : (0 - n).tdiv (Nat.gcd n.natAbs d.natAbs) = (Rat.divInt n d).num ∧ (0 - d).tdiv (Nat.gcd n.natAbs d.natAbs) = (Rat.divInt n d).den := by
  obtain ⟨h1, h2⟩ := divInt_terms n d (by omega)
  have e1 : (0 - n).natAbs = n.natAbs := by omega
  have e2 : (0 - d).natAbs = d.natAbs := by omega
  rw [h1, h2, tdiv_nat, tdiv_nat, e1, e2, if_neg (show ¬ 0 - d < 0 by omega)]
  refine ⟨?_, rfl⟩
  by_cases h : n < 0
  · rw [if_neg (by omega), if_pos (by omega)]
  · by_cases h0 : n = 0
    · subst h0; simp
    · rw [if_pos (by omega), if_neg (by omega)]
theorem vf_enc_iff {r : Rat} : VF (r.num, (r.den : Int)) ↔ Sm r := by
  constructor
  · intro h
    have := h.sm
    have e : val (r.num, (r.den : Int)) = r := val_enc
    rwa [e] at this
  · exact vf_enc
end Go.Fq
end
section
namespace Go.Fq
/-! Sums of rational numbers, and weak duality. -/
def sm : Nat → (Nat → Rat) → Rat
  | 0, _ => 0
  | n + 1, f => sm n f + f n
theorem sm_le {f g : Nat → Rat} : ∀ {n : Nat}, (∀ i < n, f i ≤ g i) → sm n f ≤ sm n g
  | 0, _ => by simp [sm]
  | n + 1, h => by
    have h1 := sm_le (f := f) (g := g) (n := n) (fun i hi => h i (by omega))
    have h2 := h n (by omega)
    simp only [sm]; grind
theorem sm_congr {f g : Nat → Rat} : ∀ {n : Nat}, (∀ i < n, f i = g i) → sm n f = sm n g
  | 0, _ => by simp [sm]
  | n + 1, h => by simp only [sm]; rw [sm_congr (n := n) (fun i hi => h i (by omega)), h n (by omega)]
theorem sm_add {f g : Nat → Rat} : ∀ {n : Nat}, sm n (fun i => f i + g i) = sm n f + sm n g
  | 0 => by simp only [sm]; exact (Rat.add_zero 0).symm
  | n + 1 => by simp only [sm]; rw [sm_add]; grind
theorem sm_mul {f : Nat → Rat} {c : Rat} : ∀ {n : Nat}, sm n (fun i => f i * c) = sm n f * c
  | 0 => by simp [sm]
  | n + 1 => by simp only [sm]; rw [sm_mul]; grind
theorem sm_mul' {f : Nat → Rat} {c : Rat} : ∀ {n : Nat}, sm n (fun i => c * f i) = c * sm n f
  | 0 => by simp [sm]
  | n + 1 => by simp only [sm]; rw [sm_mul']; grind
theorem sm_zero {n : Nat} : sm n (fun _ => 0) = 0 := by
  induction n with
  | zero => rfl
  | succ n ih => simp only [sm]; rw [ih]; grind
theorem sm_comm {f : Nat → Nat → Rat} {m : Nat} : ∀ {n : Nat}, sm n (fun i => sm m (fun j => f i j)) = sm m (fun j => sm n (fun i => f i j))
  | 0 => by simp only [sm]; exact sm_zero.symm
  | n + 1 => by
    simp only [sm]; rw [sm_comm (n := n), ← sm_add]
/- weak duality -/
theorem weak {n m : Nat} {a : Nat → Nat → Rat} {b c x y : Nat → Rat} (hx : ∀ j < n, 0 ≤ x j) (hc : ∀ j < n, sm m (fun i => a i j * y i) ≤ c j)
    (hb : ∀ i < m, b i * y i ≤ sm n (fun j => a i j * x j) * y i) : sm m (fun i => b i * y i) ≤ sm n (fun j => c j * x j) := by
  have h1 : sm m (fun i => b i * y i) ≤ sm m (fun i => sm n (fun j => a i j * x j) * y i) := sm_le hb
  have h2 : sm m (fun i => sm n (fun j => a i j * x j) * y i) = sm n (fun j => sm m (fun i => a i j * y i) * x j) := by
    have e1 : sm m (fun i => sm n (fun j => a i j * x j) * y i) = sm m (fun i => sm n (fun j => a i j * x j * y i)) := sm_congr (fun i _ => sm_mul.symm)
    have e2 : sm n (fun j => sm m (fun i => a i j * y i) * x j) = sm n (fun j => sm m (fun i => a i j * x j * y i)) :=
      sm_congr (fun j _ => by rw [← sm_mul]; exact sm_congr (fun i _ => by grind))
    rw [e1, e2, sm_comm]
  have h3 : sm n (fun j => sm m (fun i => a i j * y i) * x j) ≤ sm n (fun j => c j * x j) :=
    sm_le (fun j hj => Rat.mul_le_mul_of_nonneg_right (hc j hj) (hx j hj))
  grind
end Go.Fq
end
section
namespace Go.Fq
abbrev F := Int × Int
abbrev R := Int × Int × Int
def fmul (a b : F) : R := if VF a ∧ VF b then fenc (val a * val b) else (0, 0, 2)
def fadd (a b : F) : R := if VF a ∧ VF b then fenc (val a + val b) else (0, 0, 2)
def fdiv (a b : F) : R := if VF a ∧ VF b ∧ b.1 ≠ 0 then fenc (val a / val b) else (0, 0, 2)
theorem VF.div {a b : F} (h : VF a) (k : VF b) (hb : b.1 ≠ 0) : fnew (a.1 * b.2) (a.2 * b.1) = fenc (val a / val b) := by
  have ha := h.1; have hc := k.1
  have : a.2 * b.1 ≠ 0 := Int.mul_ne_zero (by omega) hb
  unfold fnew val
  rw [if_neg this, Rat.div_def, Rat.inv_divInt, Rat.divInt_mul_divInt]
def fcmp (a b : F) : Int := if VF a ∧ VF b then (if val a < val b then -1 else if val b < val a then 1 else 0) else 0
def pgo : List F → List F → F → R
  | x :: xs, y :: ys, s =>
    if (fmul x y).2.2 = 0 then
      if (fadd s ((fmul x y).1, (fmul x y).2.1)).2.2 = 0 then pgo xs ys ((fadd s ((fmul x y).1, (fmul x y).2.1)).1, (fadd s ((fmul x y).1, (fmul x y).2.1)).2.1)
      else (0, 0, 3)
    else (0, 0, 3)
  | _, _, s => (s.1, s.2, 0)
def prod (a b : List F) : R := if a.length = b.length then pgo a b (0, 1) else (0, 0, 2)
/- the i-th fraction of a list -/
def at' (l : List F) (i : Nat) : Rat := val (l.getD i (0, 1))
theorem fmul_ok {a b : F} {x y : Int} (h : fmul a b = (x, y, 0)) : VF a ∧ VF b ∧ VF (x, y) ∧ val (x, y) = val a * val b := by
  unfold fmul at h
  split at h
  · rename_i hv
    obtain ⟨hs, e⟩ := fenc_ok h
    exact ⟨hv.1, hv.2, by rw [e]; exact vf_enc hs, by rw [e]; exact val_enc⟩
  · simp at h
theorem fadd_ok {a b : F} {x y : Int} (h : fadd a b = (x, y, 0)) : VF a ∧ VF b ∧ VF (x, y) ∧ val (x, y) = val a + val b := by
  unfold fadd at h
  split at h
  · rename_i hv
    obtain ⟨hs, e⟩ := fenc_ok h
    exact ⟨hv.1, hv.2, by rw [e]; exact vf_enc hs, by rw [e]; exact val_enc⟩
  · simp at h
theorem sm_succ' {f : Nat → Rat} : ∀ {n : Nat}, sm (n + 1) f = f 0 + sm n (fun i => f (i + 1))
  | 0 => by simp only [sm]; grind
  | n + 1 => by
    have := sm_succ' (f := f) (n := n)
    simp only [sm] at this ⊢; rw [this]; grind
theorem pgo_ok : ∀ {a b : List F} {s : F} {x y : Int}, a.length = b.length → VF s → pgo a b s = (x, y, 0) →
    (∀ f ∈ a, VF f) ∧ (∀ f ∈ b, VF f) ∧ VF (x, y) ∧ val (x, y) = val s + sm a.length (fun i => at' a i * at' b i)
  | [], [], s, x, y, _, hs, h => by
    simp only [pgo, Prod.mk.injEq, and_true] at h
    obtain ⟨rfl, rfl⟩ := h
    refine ⟨by simp, by simp, hs, ?_⟩
    simp only [List.length_nil, sm]; grind
  | u :: us, v :: vs, s, x, y, hl, hs, h => by
    simp only [pgo] at h
    split at h
    · rename_i h1
      split at h
      · rename_i h2
        obtain ⟨k1, k2, k3, k4⟩ := fmul_ok (a := u) (b := v) (x := (fmul u v).1) (y := (fmul u v).2.1) (by rw [← h1])
        obtain ⟨k5, k6, k7, k8⟩ := fadd_ok (a := s) (b := ((fmul u v).1, (fmul u v).2.1)) (by rw [← h2])
        obtain ⟨k9, k10, k11, k12⟩ := pgo_ok (by simpa using hl) k7 h
        refine ⟨List.forall_mem_cons.2 ⟨k1, k9⟩, List.forall_mem_cons.2 ⟨k2, k10⟩, k11, ?_⟩
        rw [k12, k8, k4, List.length_cons, sm_succ']
        simp only [at', List.getD_cons_zero, List.getD_cons_succ]
        grind
      · simp at h
    · simp at h
theorem prod_ok {a b : List F} {x y : Int} (h : prod a b = (x, y, 0)) :
    a.length = b.length ∧ (∀ f ∈ a, VF f) ∧ (∀ f ∈ b, VF f) ∧ VF (x, y) ∧ val (x, y) = sm a.length (fun i => at' a i * at' b i) := by
  unfold prod at h
  split at h
  · rename_i hl
    obtain ⟨h1, h2, h3, h4⟩ := pgo_ok hl vf_zero h
    refine ⟨hl, h1, h2, h3, ?_⟩
    rw [h4, val_zero]; grind
  · simp at h
theorem pgo_err : ∀ {a b : List F} {s : F}, (pgo a b s).2.2 = 0 ∨ pgo a b s = (0, 0, 3)
  | [], _, s => by simp [pgo]
  | _ :: _, [], s => by simp [pgo]
  | u :: us, v :: vs, s => by
    simp only [pgo]
    split
    · split
      · exact pgo_err
      · simp
    · simp
/-! ### programmes -/
abbrev Rw := List F × Int × F
structure Pr where
  c : List F
  r : List Rw
def VP (p : Pr) : Prop := 1 ≤ p.c.length ∧ p.c.length ≤ 6 ∧ p.r.length ≤ 24 ∧ (∀ f ∈ p.c, VF f) ∧
  ∀ w ∈ p.r, w.1.length = p.c.length ∧ 1 ≤ w.2.1 ∧ w.2.1 ≤ 3 ∧ (∀ f ∈ w.1, VF f) ∧ VF w.2.2
def keeps (w : Rw) (k : Int) : Prop := (w.2.1 = 1 ∧ k ≤ 0) ∨ (w.2.1 = 2 ∧ 0 ≤ k) ∨ (w.2.1 = 3 ∧ k = 0)
def rowOK (w : Rw) (x : List F) : Prop := (prod w.1 x).2.2 = 0 ∧ keeps w (fcmp ((prod w.1 x).1, (prod w.1 x).2.1) w.2.2)
def Feas (p : Pr) (x : List F) : Prop := VP p ∧ x.length = p.c.length ∧ (∀ f ∈ x, VF f) ∧ (∀ f ∈ x, 0 ≤ f.1) ∧ ∀ w ∈ p.r, rowOK w x
def Sgn (p : Pr) (y : List F) : Prop := VP p ∧ y.length = p.r.length ∧ ∀ (i : Nat) (w : Rw) (f : F), p.r[i]? = some w → y[i]? = some f → VF f ∧ ¬(w.2.1 = 1 ∧ 0 < f.1) ∧ ¬(w.2.1 = 2 ∧ f.1 < 0)
def col (p : Pr) (j : Nat) : List F := p.r.map fun w => w.1.getD j (0, 1)
def bds (p : Pr) : List F := p.r.map fun w => w.2.2
/- each column's product is at most a limit -/
def Blw (p : Pr) (y : List F) (l : Nat → F) : Prop := ∀ j < p.c.length, (prod (col p j) y).2.2 = 0 ∧ fcmp ((prod (col p j) y).1, (prod (col p j) y).2.1) (l j) ≤ 0
noncomputable def bound (p : Pr) (y : List F) : R :=
  open Classical in if ¬VP p then (0, 0, 2) else if Sgn p y ∧ Blw p y (fun j => p.c.getD j (0, 1)) then prod (bds p) y else (0, 0, 8)
def Opt (p : Pr) (x y : List F) : Prop := Feas p x ∧ (bound p y).2.2 = 0 ∧ prod p.c x = bound p y
def Inf (p : Pr) (y : List F) : Prop := Sgn p y ∧ Blw p y (fun _ => (0, 1)) ∧ (prod (bds p) y).2.2 = 0 ∧ 0 < (prod (bds p) y).1
def Unb (p : Pr) (x ray : List F) : Prop := Feas p x ∧ Feas ⟨p.c, p.r.map fun w => (w.1, w.2.1, (0, 1))⟩ ray ∧ (prod p.c ray).2.2 = 0 ∧ (prod p.c ray).1 < 0
end Go.Fq
end
section
namespace Go.Fq
theorem fcmp_lt {a b : F} (h : VF a) (k : VF b) : fcmp a b < 0 ↔ val a < val b := by
  unfold fcmp; rw [if_pos ⟨h, k⟩]
  split
  · simp [*]
  · split <;> simp [*]
theorem fcmp_gt {a b : F} (h : VF a) (k : VF b) : 0 < fcmp a b ↔ val b < val a := by
  unfold fcmp; rw [if_pos ⟨h, k⟩]
  split
  · rename_i g
    have : ¬ val b < val a := by grind
    simp [this]
  · split <;> simp [*]
theorem fcmp_le {a b : F} (h : VF a) (k : VF b) : fcmp a b ≤ 0 ↔ val a ≤ val b := by
  have := fcmp_gt h k
  constructor
  · intro g; have : ¬ val b < val a := fun x => by have := this.2 x; omega
    grind
  · intro g; have : ¬ 0 < fcmp a b := fun x => by have := this.1 x; grind
    omega
theorem fcmp_ge {a b : F} (h : VF a) (k : VF b) : 0 ≤ fcmp a b ↔ val b ≤ val a := by
  have := fcmp_lt h k
  constructor
  · intro g; have : ¬ val a < val b := fun x => by have := this.2 x; omega
    grind
  · intro g; have : ¬ fcmp a b < 0 := fun x => by have := this.1 x; grind
    omega
theorem fcmp_eq {a b : F} (h : VF a) (k : VF b) : fcmp a b = 0 ↔ val a = val b := by
  have h1 := fcmp_le h k
  have h2 := fcmp_ge h k
  constructor
  · intro g
    have := h1.1 (by omega); have := h2.1 (by omega); grind
  · intro g
    have := h1.2 (by grind); have := h2.2 (by grind); omega
theorem VF.nonneg {f : F} (h : VF f) : 0 ≤ f.1 ↔ 0 ≤ val f := by rw [← Rat.num_nonneg, h.num]
theorem VF.pos {f : F} (h : VF f) : 0 < f.1 ↔ 0 < val f := by rw [Rat.lt_iff, h.num]; simp
theorem VF.neg {f : F} (h : VF f) : f.1 < 0 ↔ val f < 0 := by
  have := h.nonneg
  constructor
  · intro g; have : ¬ 0 ≤ val f := fun x => by have := this.2 x; omega
    grind
  · intro g; have : ¬ 0 ≤ f.1 := fun x => by have := this.1 x; grind
    omega
def A (p : Pr) (i j : Nat) : Rat := at' (p.r.getD i ([], 0, (0, 1))).1 j
def B (p : Pr) (i : Nat) : Rat := at' (bds p) i
theorem at_col {p : Pr} {i j : Nat} (hi : i < p.r.length) : at' (col p j) i = A p i j := by
  unfold at' A col at'
  rw [List.getD_eq_getElem?_getD, List.getD_eq_getElem?_getD (l := p.r)]
  simp [hi]
theorem at_bds {p : Pr} {i : Nat} (hi : i < p.r.length) : at' (bds p) i = val (p.r[i]).2.2 := by
  unfold at' bds
  rw [List.getD_eq_getElem?_getD]; simp [hi]
theorem at_row {p : Pr} {i j : Nat} (hi : i < p.r.length) : A p i j = at' (p.r[i]).1 j := by
  unfold A
  rw [List.getD_eq_getElem?_getD]; simp [hi]
theorem at_get {l : List F} {i : Nat} (hi : i < l.length) : at' l i = val l[i] := by
  unfold at'; rw [List.getD_eq_getElem?_getD]; simp [hi]
theorem bound_ok {p : Pr} {y : List F} (h : (bound p y).2.2 = 0) : VP p ∧ Sgn p y ∧ Blw p y (fun j => p.c.getD j (0, 1)) ∧ bound p y = prod (bds p) y := by
  unfold bound at h ⊢
  split at h
  · simp at h
  · rename_i hv
    rw [if_neg hv]
    split at h
    · rename_i hs
      rw [if_pos hs]; exact ⟨Classical.not_not.1 hv, hs.1, hs.2, rfl⟩
    · simp at h
theorem prod_ok' {a b : List F} (h : (prod a b).2.2 = 0) :
    a.length = b.length ∧ (∀ f ∈ a, VF f) ∧ (∀ f ∈ b, VF f) ∧ VF ((prod a b).1, (prod a b).2.1) ∧ val ((prod a b).1, (prod a b).2.1) = sm a.length (fun i => at' a i * at' b i) :=
  prod_ok (x := (prod a b).1) (y := (prod a b).2.1) (by rw [← h])
/- what a column's product below a limit says -/
theorem blw_le {p : Pr} {y : List F} {l : Nat → F} (h : Blw p y l) {j : Nat} (hj : j < p.c.length) (hl : VF (l j)) : sm p.r.length (fun i => A p i j * at' y i) ≤ val (l j) := by
  obtain ⟨h1, h2⟩ := h j hj
  obtain ⟨k1, k2, k3, k4, k5⟩ := prod_ok' h1
  have := (fcmp_le k4 hl).1 h2
  rw [k5] at this
  have e : (col p j).length = p.r.length := by simp [col]
  rw [e] at this
  rw [sm_congr (g := fun i => at' (col p j) i * at' y i) (fun i hi => by rw [at_col hi])]
  exact this
theorem row_le {p : Pr} {x y : List F} (hs : Sgn p y) (hf : Feas p x) {i : Nat} (hi : i < p.r.length) :
    at' (bds p) i * at' y i ≤ sm p.c.length (fun j => A p i j * at' x j) * at' y i := by
  obtain ⟨hv, hyl, hy⟩ := hs
  obtain ⟨_, hxl, hxv, hx0, hrow⟩ := hf
  have hw := hrow p.r[i] (List.getElem_mem hi)
  obtain ⟨h1, h2⟩ := hw
  obtain ⟨k1, k2, k3, k4, k5⟩ := prod_ok' h1
  obtain ⟨v1, v2, v3, v4, v5⟩ := hv.2.2.2.2 p.r[i] (List.getElem_mem hi)
  have hiy : i < y.length := by omega
  obtain ⟨g1, g2, g3⟩ := hy i p.r[i] y[i] (List.getElem?_eq_getElem hi) (List.getElem?_eq_getElem hiy)
  rw [at_bds hi, at_get hiy]
  have e : sm p.c.length (fun j => A p i j * at' x j) = val ((prod p.r[i].1 x).1, (prod p.r[i].1 x).2.1) := by
    rw [k5, v1]; exact sm_congr (fun j _ => by rw [at_row hi])
  rw [e]
  rcases h2 with ⟨hs, h2⟩ | ⟨hs, h2⟩ | ⟨hs, h2⟩
  · have a1 := (fcmp_le k4 v5).1 h2
    have a2 : ¬ 0 < y[i].1 := fun x => g2 ⟨hs, x⟩
    have a3 : val y[i] ≤ 0 := by
      have := g1.pos
      have : ¬ 0 < val y[i] := fun x => a2 (this.2 x)
      grind
    have a4 : 0 ≤ -val y[i] := by grind
    have := Rat.mul_le_mul_of_nonneg_right a1 a4
    grind
  · have a1 := (fcmp_ge k4 v5).1 h2
    have a2 : ¬ y[i].1 < 0 := fun x => g3 ⟨hs, x⟩
    have a4 : 0 ≤ val y[i] := g1.nonneg.1 (by omega)
    exact Rat.mul_le_mul_of_nonneg_right a1 a4
  · have a1 := (fcmp_eq k4 v5).1 h2
    rw [a1]; grind
theorem feas_x {p : Pr} {x : List F} (hf : Feas p x) {j : Nat} (hj : j < p.c.length) : 0 ≤ at' x j := by
  obtain ⟨_, hxl, hxv, hx0, _⟩ := hf
  have h : j < x.length := by omega
  rw [at_get h]
  exact (hxv _ (List.getElem_mem h)).nonneg.1 (hx0 _ (List.getElem_mem h))
theorem bds_len {p : Pr} : (bds p).length = p.r.length := by simp [bds]
/- no feasible point costs less than the bound of numbers of the rows -/
theorem weak_ok {p : Pr} {x y : List F} (hb : (bound p y).2.2 = 0) (hf : Feas p x) (hc : (prod p.c x).2.2 = 0) :
    ¬ fcmp ((prod p.c x).1, (prod p.c x).2.1) ((bound p y).1, (bound p y).2.1) < 0 := by
  obtain ⟨hv, hs, hl, e⟩ := bound_ok hb
  rw [e] at hb ⊢
  obtain ⟨k1, k2, k3, k4, k5⟩ := prod_ok' hb
  obtain ⟨c1, c2, c3, c4, c5⟩ := prod_ok' hc
  rw [fcmp_lt c4 k4, k5, c5, bds_len]
  have := weak (n := p.c.length) (m := p.r.length) (a := A p) (b := at' (bds p)) (c := at' p.c) (x := at' x) (y := at' y) (fun j hj => feas_x hf hj)
    (fun j hj => by
      have := blw_le hl hj (by rw [List.getD_eq_getElem?_getD]; simp only [hj, List.getElem?_eq_getElem, Option.getD_some]; exact c2 _ (List.getElem_mem hj))
      exact this)
    (fun i hi => row_le hs hf hi)
  grind
theorem weak_inf {p : Pr} {x y : List F} (hf : Feas p x) : ¬ Inf p y := by
  rintro ⟨hs, hl, h1, h2⟩
  obtain ⟨k1, k2, k3, k4, k5⟩ := prod_ok' h1
  have h3 := k4.pos.1 h2
  rw [k5, bds_len] at h3
  have := weak (n := p.c.length) (m := p.r.length) (a := A p) (b := at' (bds p)) (c := fun _ => 0) (x := at' x) (y := at' y) (fun j hj => feas_x hf hj)
    (fun j hj => by have := blw_le hl hj vf_zero; rw [val_zero] at this; exact this)
    (fun i hi => row_le hs hf hi)
  have e : sm p.c.length (fun j => (0 : Rat) * at' x j) = 0 := by
    rw [sm_congr (g := fun _ => 0) (fun j _ => by grind)]; exact sm_zero
  rw [e] at this
  grind
end Go.Fq
end
