/- Lemmas that the proofs of this seat use (Pl). Conditions: those that stand in each theorem. -/
set_option linter.unusedVariables false
set_option linter.unusedSimpArgs false
section
namespace Go.Cv
def Per (F : Nat → Int) (s p : Nat) (q : Int) : Prop := ∀ t, s ≤ t → F (t + p) = F t + q
abbrev INF : Int := 4611686018427387904
def vals (F : Nat → Int) (n : Nat) : List Int := (List.range n).map F
theorem vals_len (F : Nat → Int) (n : Nat) : (vals F n).length = n := by simp [vals]
theorem vals_get {F : Nat → Int} {n t : Nat} (h : t < n) : (vals F n).getD t 0 = F t := by simp [vals, h]
theorem vals_succ (F : Nat → Int) (n : Nat) : vals F (n + 1) = vals F n ++ [F n] := by simp [vals, List.range_succ]
def val (vs : List Int) (p : Nat) (q : Int) (t : Nat) : Int :=
 if t < vs.length then vs.getD t 0 else
 if vs.getD (t - ((t - vs.length) / p + 1) * p) 0 = INF then INF else vs.getD (t - ((t - vs.length) / p + 1) * p) 0 + ((t - vs.length) / p + 1 : Nat) * q
theorem val_lt {vs p q t} (h : t < vs.length) : val vs p q t = vs.getD t 0 := by simp [val, h]
theorem val_per {vs : List Int} {p : Nat} {q : Int} (hp : 1 ≤ p) (hn : p ≤ vs.length) (hf : ∀ t, vs.length - p ≤ t → t < vs.length → vs.getD t 0 ≠ INF) : Per (val vs p q) (vs.length - p) p q := by
 have idx : ∀ t, vs.length ≤ t → vs.length - p ≤ t - ((t - vs.length) / p + 1) * p ∧ t - ((t - vs.length) / p + 1) * p < vs.length ∧ ((t - vs.length) / p + 1) * p ≤ t := by
  intro t ht
  have h1 := Nat.div_add_mod (t - vs.length) p
  have h2 := Nat.mod_lt (t - vs.length) hp
  have h3 : ((t - vs.length) / p + 1) * p = p * ((t - vs.length) / p) + p := by rw [Nat.add_mul, Nat.one_mul, Nat.mul_comm]
  omega
 intro t ht
 obtain ⟨i1, i2, i3⟩ := idx (t + p) (by omega)
 have hne := hf _ i1 i2
 have e1 : val vs p q (t + p) = vs.getD (t + p - ((t + p - vs.length) / p + 1) * p) 0 + ((t + p - vs.length) / p + 1 : Nat) * q := by
  simp only [val]; rw [if_neg (by omega), if_neg hne]
 rw [e1]
 by_cases hlt : t < vs.length
 ·have : (t + p - vs.length) / p = 0 := Nat.div_eq_of_lt (by omega)
  rw [this, val_lt hlt]
  simp
 ·obtain ⟨j1, j2, j3⟩ := idx t (by omega)
  have hne' := hf _ j1 j2
  have e2 : val vs p q t = vs.getD (t - ((t - vs.length) / p + 1) * p) 0 + ((t - vs.length) / p + 1 : Nat) * q := by
   simp only [val]; rw [if_neg hlt, if_neg hne']
  have e3 : (t + p - vs.length) / p = (t - vs.length) / p + 1 := by
   rw [show t + p - vs.length = t - vs.length + p by omega, Nat.add_div_right _ hp]
  rw [e2, e3]
  have e4 : t + p - ((t - vs.length) / p + 1 + 1) * p = t - ((t - vs.length) / p + 1) * p := by
   rw [Nat.add_mul ((t - vs.length) / p + 1) 1 p]; omega
  rw [e4]
  generalize (t - vs.length) / p = k
  have : ((k + 1 + 1 : Nat) : Int) * q = ((k + 1 : Nat) : Int) * q + q := by push_cast; rw [Int.add_mul, Int.one_mul]
  omega
def ValidP (vs : List Int) (p i : Int) : Prop :=
 1 ≤ vs.length ∧ vs.length ≤ 400 ∧ 1 ≤ p ∧ p ≤ 120 ∧ p ≤ vs.length ∧ 0 ≤ i ∧ i ≤ 1073741824 ∧
 (∀ j < vs.length, vs.getD j 0 = 4611686018427387904 ∨ 0 ≤ vs.getD j 0 ∧ vs.getD j 0 ≤ 1073741824) ∧
 (∀ j, j + 1 < vs.length → vs.getD j 0 ≤ vs.getD (j + 1) 0) ∧
 (vs.getD (vs.length - 1) 0 = 4611686018427387904 → p = 1 ∧ i = 0) ∧
 (vs.getD (vs.length - 1) 0 ≠ 4611686018427387904 → vs.getD (vs.length - p.toNat) 0 + i ≥ vs.getD (vs.length - 1) 0)
structure VF (vs : List Int) (p : Nat) (q : Int) : Prop where
 n1 : 1 ≤ vs.length
 n2 : vs.length ≤ 400
 p1 : 1 ≤ p
 p2 : p ≤ 120
 pn : p ≤ vs.length
 q0 : 0 ≤ q
 q1 : q ≤ 1073741824
 v : ∀ j < vs.length, vs.getD j 0 = INF ∨ 0 ≤ vs.getD j 0 ∧ vs.getD j 0 ≤ 1073741824
 mono : ∀ j k, j ≤ k → k < vs.length → vs.getD j 0 ≤ vs.getD k 0
 inf : vs.getD (vs.length - 1) 0 = INF → p = 1 ∧ q = 0
 fin : vs.getD (vs.length - 1) 0 ≠ INF → vs.getD (vs.length - p) 0 + q ≥ vs.getD (vs.length - 1) 0
theorem mono_of {vs : List Int} (h : ∀ j, j + 1 < vs.length → vs.getD j 0 ≤ vs.getD (j + 1) 0) : ∀ j k, j ≤ k → k < vs.length → vs.getD j 0 ≤ vs.getD k 0 := by
  intro j k hjk
  induction k with
  | zero => intro _; have : j = 0 := by omega
            subst this; exact Int.le_refl _
  | succ k ih =>
    intro hk
    by_cases e : j = k + 1
    · subst e; exact Int.le_refl _
    · have := ih (by omega) (by omega)
      have := h k hk
      omega
theorem ValidP.vf {vs p q} (h : ValidP vs p q) : ∃ p' : Nat, p = p' ∧ VF vs p' q := by
 obtain ⟨h1, h2, h3, h4, h5, h6, h7, h8, h9, h10, h11⟩ := h
 refine ⟨p.toNat, by omega, h1, h2, by omega, by omega, by omega, h6, h7, h8, mono_of h9, fun e => ?_, fun e => h11 e⟩
 have := h10 e
 omega
theorem VF.noinf {vs p q} (h : VF vs p q) (hf : vs.getD (vs.length - 1) 0 ≠ INF) : ∀ k < vs.length, vs.getD k 0 ≠ INF := by
 intro k hk e
 have h1 := h.mono k (vs.length - 1) (by omega) (by omega)
 have := h.v (vs.length - 1) (by have := h.n1; omega)
 rw [e] at h1
 simp only [INF] at *
 omega
theorem VF.val_inf {vs p q} (h : VF vs p q) (hf : vs.getD (vs.length - 1) 0 = INF) {m : Nat} (hm : vs.getD m 0 = INF) : ∀ t, m ≤ t → val vs p q t = INF := by
 intro t ht
 obtain ⟨rfl, rfl⟩ := h.inf hf
 by_cases hlt : t < vs.length
 ·rw [val_lt hlt]
  have h1 := h.mono m t ht hlt
  have := h.v t hlt
  rw [hm] at h1
  simp only [INF] at *
  omega
 ·simp only [val]
  rw [if_neg hlt]
  have : t - ((t - vs.length) / 1 + 1) * 1 = vs.length - 1 := by have := h.n1; omega
  rw [this, if_pos hf]
end Go.Cv
end
section
namespace Go.Cv
def Mono (F : Nat → Int) : Prop := ∀ t, F t ≤ F (t + 1)
theorem Mono.le {F} (h : Mono F) : ∀ {s t : Nat}, s ≤ t → F s ≤ F t := by
  intro s t hst
  induction t with
  | zero => have : s = 0 := by omega
            subst this; exact Int.le_refl _
  | succ t ih =>
    by_cases e : s = t + 1
    · subst e; exact Int.le_refl _
    · exact Int.le_trans (ih (by omega)) (h t)
theorem VF.per {vs p q} (h : VF vs p q) : Per (val vs p q) (vs.length - p) p q := by
 by_cases hf : vs.getD (vs.length - 1) 0 = INF
 ·obtain ⟨rfl, rfl⟩ := h.inf hf
  have hi := h.val_inf hf hf
  intro t ht
  rw [hi t (by omega), hi (t + 1) (by omega)]; rfl
 ·exact val_per h.p1 h.pn (fun t _ ht => h.noinf hf t ht)
theorem VF.mono' {vs p q} (h : VF vs p q) : Mono (val vs p q) := by
  have hper := h.per
  have n1 := h.n1
  have p1 := h.p1
  have pn := h.pn
  intro t
  induction t using Nat.strongRecOn with
  | _ t ih =>
    by_cases h1 : t + 1 < vs.length
    · rw [val_lt (by omega), val_lt h1]; exact h.mono t (t + 1) (by omega) h1
    · by_cases h2 : t + 1 = vs.length
      · have e := hper (vs.length - p) (by omega)
        rw [show vs.length - p + p = t + 1 by omega] at e
        rw [e, val_lt (by omega), val_lt (by omega)]
        rw [show t = vs.length - 1 by omega]
        by_cases hf : vs.getD (vs.length - 1) 0 = INF
        · obtain ⟨rfl, rfl⟩ := h.inf hf
          omega
        · have := h.fin hf; omega
      · have e1 := hper (t - p) (by omega)
        have e2 := hper (t + 1 - p) (by omega)
        have := ih (t - p) (by omega)
        rw [show t - p + p = t by omega] at e1
        rw [show t + 1 - p + p = t + 1 by omega] at e2
        rw [show t - p + 1 = t + 1 - p by omega] at this
        omega
theorem VF.nonneg {vs p q} (h : VF vs p q) (t : Nat) : 0 ≤ val vs p q t := by
 have h0 := h.mono'.le (Nat.zero_le t)
 have : 0 ≤ val vs p q 0 := by
  rw [val_lt (by have := h.n1; omega)]
  have := h.v 0 (by have := h.n1; omega)
  simp only [INF] at this; omega
 omega
theorem VF.valid {vs : List Int} {p : Nat} {q : Int} (h : VF vs p q) : ValidP vs p q := by
 have n1 := h.n1; have n2 := h.n2; have p1 := h.p1; have p2 := h.p2; have pn := h.pn
 refine ⟨by omega, by omega, by omega, by omega, by omega, h.q0, h.q1, h.v, fun j hj => h.mono j (j + 1) (by omega) hj, fun e => ?_, fun e => ?_⟩
 ·have := h.inf e; omega
 ·rw [Int.toNat_natCast]; exact h.fin e
end Go.Cv
end
section
namespace Go.Cv
abbrev C3 := List Int × Nat × Int
def cv (a : C3) (t : Nat) : Int := val a.1 a.2.1 a.2.2 t
abbrev VC (a : C3) : Prop := VF a.1 a.2.1 a.2.2
def infAt (vs : List Int) (t : Nat) : Prop := vs.getD (min t (vs.length - 1)) 0 = INF
instance (vs : List Int) (t : Nat) : Decidable (infAt vs t) := inferInstanceAs (Decidable (_ = _))
def FinC (a : C3) : Prop := a.1.getD (a.1.length - 1) 0 ≠ INF
instance (a : C3) : Decidable (FinC a) := inferInstanceAs (Decidable (¬ _ = _))
theorem cv_nonneg {a : C3} (ha : VC a) (t : Nat) : 0 ≤ cv a t := ha.nonneg t
end Go.Cv
end
section
namespace Go.Cv
theorem VF.cvle {a : C3} (ha : VC a) {s t : Nat} (h : s ≤ t) : cv a s ≤ cv a t := ha.mono'.le h
end Go.Cv
end
section
namespace Go.Np
structure Ln where
 k : Int
 c : Int
 n : Int
 w : List Int
 s : List Int
structure Fl where
 nm : ByteArray
 rt : List Int
 cl : Int
 lo : Int
 hi : Int
 v : List Int
 p : Int
 q : Int
structure Nt where
 nm : List ByteArray
 ln : List Ln
 fl : List Fl
abbrev ln0 : Ln := ⟨0, 0, 0, [], []⟩
abbrev fl0 : Fl := ⟨ByteArray.empty, [], 0, 0, 0, [], 0, 0⟩
abbrev bs0 : ByteArray := ByteArray.empty
def bt (s : ByteArray) (i : Nat) : Int := ((s[i]?).getD 0).toNat
def okC (c : Int) : Prop := c = 45 ∨ (48 ≤ c ∧ c ≤ 57) ∨ (97 ≤ c ∧ c ≤ 122)
def WordP (s : ByteArray) : Prop := 1 ≤ s.size ∧ s.size ≤ 12 ∧ (97 ≤ bt s 0 ∧ bt s 0 ≤ 122) ∧ ∀ i, i < s.size → okC (bt s i)
instance {c : Int} : Decidable (okC c) := by unfold okC; infer_instance
instance {s : ByteArray} : Decidable (WordP s) := by unfold WordP; infer_instance
def inR (l : List Int) (a b : Int) : Prop := ∀ x ∈ l, a ≤ x ∧ x ≤ b
instance {l : List Int} {a b : Int} : Decidable (inR l a b) := by unfold inR; infer_instance
def lsErr (l : Ln) : Int :=
 if l.k = 3 ∧ ¬((l.w.length : Int) = l.n ∧ inR l.w 1 20) ∨ l.k = 4 ∧ ¬((l.w.length : Int) = l.n ∧ inR l.w 1 6000) ∨ l.k = 5 ∧ ¬(1 ≤ l.s.length ∧ l.s.length ≤ 40 ∧ inR l.s (-1) (l.n - 1)) then 2
 else if (l.k ≠ 3 ∧ l.k ≠ 4 ∧ l.w.length ≠ 0) ∨ (l.k ≠ 5 ∧ l.s.length ≠ 0) then 6 else 0
def lnErr (l : Ln) : Int :=
 if l.k < 1 ∨ 5 < l.k then 9
 else if l.c < 1 ∨ 4000 < l.c ∨ l.n < 1 ∨ 6 < l.n then 2
 else lsErr l
open Classical in
noncomputable def nmErr (met : List ByteArray) (s : ByteArray) : Int := if ¬WordP s then 4 else if s ∈ met then 60 else 0
def firstE (f : Nat → Int) : Nat → Int
 |0 => 0
 |m + 1 => if firstE f m ≠ 0 then firstE f m else f m
theorem firstE_all {f : Nat → Int} : ∀ {m : Nat}, (∀ i < m, f i = 0) → firstE f m = 0
  | 0, _ => rfl
  | m + 1, h => by
    simp only [firstE]
    rw [firstE_all (fun i hi => h i (by omega)), if_neg (by simp)]
    exact h m (by omega)
theorem firstE_ge {f : Nat → Int} {i : Nat} : ∀ {m : Nat}, i ≤ m → firstE f i ≠ 0 → firstE f m = firstE f i
  | 0, h, _ => by have : i = 0 := by omega
                  subst this; rfl
  | m + 1, h, hn => by
    by_cases e : i = m + 1
    · subst e; rfl
    · have := firstE_ge (m := m) (by omega) hn
      simp only [firstE]
      rw [this, if_pos hn]
theorem firstE_at {f : Nat → Int} {i m : Nat} (hi : i < m) (h : ∀ j < i, f j = 0) (hn : f i ≠ 0) : firstE f m = f i := by
 have e : firstE f (i + 1) = f i := by simp only [firstE]; rw [firstE_all h, if_neg (by simp)]
 rw [firstE_ge (i := i + 1) (by omega) (by rw [e]; exact hn), e]
theorem firstE_zero {f : Nat → Int} {m : Nat} (h : firstE f m = 0) : ∀ i < m, f i = 0 := by
  intro i hi
  induction i using Nat.strongRecOn with
  | ind i ih =>
    by_cases hn : f i = 0
    · exact hn
    · have := firstE_at hi (fun j hj => ih j hj (by omega)) hn
      rw [h] at this; exact absurd this.symm hn
noncomputable def lineE (n : Nt) (i : Nat) : Int := if nmErr (n.nm.take i) (n.nm.getD i bs0) ≠ 0 then nmErr (n.nm.take i) (n.nm.getD i bs0) else lnErr (n.ln.getD i ln0)
def hopE (ls : List Ln) (f : Fl) (k : Nat) : Int :=
 if f.rt.getD k 0 < 0 ∨ (ls.length : Int) ≤ f.rt.getD k 0 then 2
 else if f.rt.getD k 0 ∈ f.rt.take k then 60
 else if f.cl < 0 ∨ (ls.getD (f.rt.getD k 0).toNat ln0).n ≤ f.cl then 2 else 0
def routeE (ls : List Ln) (f : Fl) : Int := if f.rt.length = 0 then 5 else if 4 < f.rt.length then 3 else firstE (hopE ls f) f.rt.length
def trafE (V N : Prop) [Decidable V] [Decidable N] (f : Fl) : Int :=
 if f.lo < 1 ∨ f.hi < f.lo ∨ 1500 < f.hi then 2 else if ¬V then 1 else if f.v.getD 0 0 ≠ 0 then 6 else if ¬N then 2 else 0
def hop (n : Nt) (f l : Int) : Int :=
 if f < 0 ∨ (n.fl.length : Int) ≤ f then -1
 else if l ∈ (n.fl.getD f.toNat fl0).rt then ((n.fl.getD f.toNat fl0).rt.idxOf l : Nat) else -1
end Go.Np
end
section
namespace Go.Np
open Go.Cv
def FinP (vs : List Int) : Prop := vs.getD (vs.length - 1) 0 ≠ INF
open Classical in
noncomputable def flowE (n : Nt) (i : Nat) : Int :=
 if nmErr ((n.fl.take i).map (·.nm)) (n.fl.getD i fl0).nm ≠ 0 then nmErr ((n.fl.take i).map (·.nm)) (n.fl.getD i fl0).nm
 else if routeE n.ln (n.fl.getD i fl0) ≠ 0 then routeE n.ln (n.fl.getD i fl0)
 else trafE (ValidP (n.fl.getD i fl0).v (n.fl.getD i fl0).p (n.fl.getD i fl0).q) (FinP (n.fl.getD i fl0).v) (n.fl.getD i fl0)
noncomputable def chkN (n : Nt) : Int :=
 if n.ln.length = 0 ∨ 8 < n.ln.length ∨ 10 < n.fl.length then 3
 else if n.nm.length ≠ n.ln.length then 2
 else if firstE (lineE n) n.ln.length ≠ 0 then firstE (lineE n) n.ln.length
 else firstE (flowE n) n.fl.length
theorem chkN_line {n : Nt} {i : Nat} (h1 : ¬(n.ln.length = 0 ∨ 8 < n.ln.length ∨ 10 < n.fl.length)) (h2 : n.nm.length = n.ln.length) (hi : i < n.ln.length) (h : ∀ j < i, lineE n j = 0) (hn : lineE n i ≠ 0) : chkN n = lineE n i := by
 unfold chkN
 rw [if_neg h1, if_neg (by omega), firstE_at hi h hn, if_pos hn]
theorem chkN_flow {n : Nt} {i : Nat} (h1 : ¬(n.ln.length = 0 ∨ 8 < n.ln.length ∨ 10 < n.fl.length)) (h2 : n.nm.length = n.ln.length) (hl : ∀ j < n.ln.length, lineE n j = 0) (hi : i < n.fl.length) (h : ∀ j < i, flowE n j = 0) (hn : flowE n i ≠ 0) : chkN n = flowE n i := by
 unfold chkN
 rw [if_neg h1, if_neg (by omega), firstE_all hl, if_neg (by simp), firstE_at hi h hn]
theorem chkN_ok {n : Nt} (h1 : ¬(n.ln.length = 0 ∨ 8 < n.ln.length ∨ 10 < n.fl.length)) (h2 : n.nm.length = n.ln.length) (hl : ∀ j < n.ln.length, lineE n j = 0) (h : ∀ j < n.fl.length, flowE n j = 0) : chkN n = 0 := by
 unfold chkN
 rw [if_neg h1, if_neg (by omega), firstE_all hl, if_neg (by simp), firstE_all h]
theorem chkN_zero {n : Nt} (h : chkN n = 0) : ¬(n.ln.length = 0 ∨ 8 < n.ln.length ∨ 10 < n.fl.length) ∧ n.nm.length = n.ln.length ∧ (∀ j < n.ln.length, lineE n j = 0) ∧ ∀ j < n.fl.length, flowE n j = 0 := by
 unfold chkN at h
 split at h
 ·omega
 ·split at h
  ·omega
  ·split at h
   ·contradiction
   ·rename_i h1 h2 h3
    exact ⟨h1, by omega, firstE_zero (by omega), firstE_zero h⟩
def lname (i : Nat) : ByteArray := ⟨#[(97 + i).toUInt8]⟩
def fname (i : Nat) : ByteArray := ⟨#[(102 + i).toUInt8]⟩
structure FlG (m k : Nat) (f : Fl) : Prop where
 cl : 0 ≤ f.cl ∧ f.cl < k
 lo : 1 ≤ f.lo ∧ f.lo ≤ 3
 hi : f.lo ≤ f.hi ∧ f.hi ≤ 7
 r1 : 1 ≤ f.rt.length ∧ f.rt.length ≤ 3
 rb : ∀ x ∈ f.rt, 0 ≤ x ∧ x < m
 nd : ∀ i j, i < j → j < f.rt.length → f.rt.getD i 0 ≠ f.rt.getD j 0
 ct : ∃ b : Int, 4 ≤ b ∧ b ≤ 16 ∧ 1 ≤ f.p ∧ (f.p ≤ 12 ∧ f.p ∣ 12) ∧ f.v = 0 :: List.replicate f.p.toNat b ∧ 0 ≤ f.q ∧ f.q ≤ 3
structure NtG (k : Nat) (n : Nt) : Prop where
 k1 : 1 ≤ k ∧ k ≤ 2
 ll : 1 ≤ n.ln.length ∧ n.ln.length ≤ 4
 nl : n.nm.length = n.ln.length
 nm : ∀ i, i < n.ln.length → n.nm.getD i bs0 = lname i
 le : ∀ l ∈ n.ln, lnErr l = 0 ∧ l.n = k
 fl : n.fl.length ≤ 5
 fn : ∀ i, i < n.fl.length → (n.fl.getD i fl0).nm = fname i
 fg : ∀ f ∈ n.fl, FlG n.ln.length k f
theorem getD_in {α : Type} {l : List α} {d : α} {i : Nat} (h : i < l.length) : l.getD i d ∈ l := by
 rw [List.getD_eq_getElem?_getD, List.getElem?_eq_getElem h]; exact List.getElem_mem h
theorem mem_take {α : Type} {l : List α} {d x : α} {i : Nat} (h : x ∈ l.take i) : ∃ j, j < i ∧ j < l.length ∧ x = l.getD j d := by
 obtain ⟨j, hj, e⟩ := List.mem_iff_getElem.1 h
 rw [List.length_take] at hj
 refine ⟨j, by omega, by omega, ?_⟩
 rw [← e, List.getElem_take]
 simp [List.getD_eq_getElem?_getD, show j < l.length by omega]
theorem lname_word : ∀ i < 4, WordP (lname i) := by decide +kernel
theorem fname_word : ∀ i < 5, WordP (fname i) := by decide +kernel
theorem lname_inj : ∀ i < 4, ∀ j < 4, lname i = lname j → i = j := by decide +kernel
theorem fname_inj : ∀ i < 5, ∀ j < 5, fname i = fname j → i = j := by decide +kernel
theorem nm_fresh {met : List ByteArray} {s : ByteArray} (h : WordP s) (hm : s ∉ met) : nmErr met s = 0 := by
 unfold nmErr; rw [if_neg (fun k => k h), if_neg hm]
theorem FlG.valid {m k : Nat} {f : Fl} (g : FlG m k f) : ValidP f.v f.p f.q ∧ FinP f.v := by
 obtain ⟨b, b1, b2, p1, p2, hv, q1, q2⟩ := g.ct
 have hlen : f.v.length = f.p.toNat + 1 := by rw [hv]; simp
 have hg : ∀ j, j < f.p.toNat + 1 → f.v.getD j 0 = if j = 0 then 0 else b := by
  intro j hj
  rw [hv]
  cases j with
  |zero => rfl
  |succ j => simp [List.getD_eq_getElem?_getD, List.getElem?_replicate, show j < f.p.toNat by omega]
 have hlast : f.v.getD (f.v.length - 1) 0 = b := by rw [hg _ (by omega), if_neg (by omega)]
 refine ⟨⟨by omega, by omega, by omega, by omega, by omega, by omega, by omega, ?_, ?_, ?_, ?_⟩, ?_⟩
 ·intro j hj; rw [hg j (by omega)]; split <;> omega
 ·intro j hj; rw [hg j (by omega), hg (j + 1) (by omega)]; split <;> split <;> omega
 ·intro h; rw [hlast] at h; omega
 ·intro _; rw [hlast, hg _ (by omega)]; split <;> omega
 ·unfold FinP; rw [hlast]; unfold INF; omega
theorem FlG.route {m k : Nat} {ls : List Ln} {f : Fl} (g : FlG m k f) (hm : ls.length = m) (hk : ∀ l ∈ ls, l.n = k) : routeE ls f = 0 := by
 have r1 := g.r1
 unfold routeE
 rw [if_neg (by omega), if_neg (by omega)]
 apply firstE_all
 intro i hi
 have hx := g.rb _ (getD_in (d := 0) hi)
 have hc := g.cl
 unfold hopE
 rw [if_neg (by omega), if_neg, if_neg]
 ·have := hk (ls.getD (f.rt.getD i 0).toNat ln0) (getD_in (by omega))
  omega
 ·intro h
  obtain ⟨j, hj, _, e⟩ := mem_take (d := 0) h
  exact g.nd j i hj hi e.symm
theorem NtG.line {k : Nat} {n : Nt} (g : NtG k n) : ∀ i < n.ln.length, lineE n i = 0 := by
 intro i hi
 have h4 := g.ll.2
 have e := g.nm i hi
 have hf : nmErr (n.nm.take i) (n.nm.getD i bs0) = 0 := by
  rw [e]
  refine nm_fresh (lname_word i (by omega)) fun h => ?_
  obtain ⟨j, hj, hj2, e2⟩ := mem_take (d := bs0) h
  rw [g.nm j (by omega)] at e2
  have := lname_inj i (by omega) j (by omega) e2
  omega
 unfold lineE
 rw [hf, if_neg (by simp)]
 exact (g.le _ (getD_in hi)).1
theorem NtG.flow {k : Nat} {n : Nt} (g : NtG k n) : ∀ i < n.fl.length, flowE n i = 0 := by
 intro i hi
 have h5 := g.fl
 have e := g.fn i hi
 have hf : nmErr ((n.fl.take i).map (·.nm)) (n.fl.getD i fl0).nm = 0 := by
  rw [e]
  refine nm_fresh (fname_word i (by omega)) fun h => ?_
  obtain ⟨x, hx, e1⟩ := List.mem_map.1 h
  obtain ⟨j, hj, hj2, e2⟩ := mem_take (d := fl0) hx
  rw [e2, g.fn j (by omega)] at e1
  have := fname_inj j (by omega) i (by omega) e1
  omega
 have G := g.fg _ (getD_in (d := fl0) hi)
 have hr := G.route rfl (fun l hl => (g.le l hl).2)
 have hv := G.valid
 unfold flowE
 rw [hf, if_neg (by simp), hr, if_neg (by simp)]
 have l1 := G.lo
 have l2 := G.hi
 obtain ⟨b, _, _, _, _, hv0, _⟩ := G.ct
 unfold trafE
 rw [if_neg (by omega), if_neg (fun h => h hv.1), if_neg (by rw [hv0]; simp), if_neg (fun h => h hv.2)]
theorem NtG.chk {k : Nat} {n : Nt} (g : NtG k n) : chkN n = 0 := by
 have h1 := g.ll
 have h2 := g.fl
 exact chkN_ok (by omega) g.nl g.line g.flow
end Go.Np
end
section
namespace Go.Tp
open Go.Np
theorem mem_takeD {α : Type} {l : List α} {d x : α} {i : Nat} : x ∈ l.take i ↔ ∃ j, j < i ∧ j < l.length ∧ x = l.getD j d := by
 constructor
 ·intro h; exact mem_take h
 ·rintro ⟨j, h1, h2, rfl⟩
  rw [List.mem_iff_getElem]
  refine ⟨j, by rw [List.length_take]; omega, ?_⟩
  rw [List.getElem_take]
  simp [List.getD_eq_getElem?_getD, h2]
structure RtOK (n : Nt) (f : Fl) : Prop where
 l1 : 1 ≤ f.rt.length
 l2 : f.rt.length ≤ 4
 b : ∀ i, i < f.rt.length → 0 ≤ f.rt.getD i 0 ∧ f.rt.getD i 0 < n.ln.length
 d : ∀ i j, i < j → j < f.rt.length → f.rt.getD i 0 ≠ f.rt.getD j 0
 c : ∀ i, i < f.rt.length → 0 ≤ f.cl ∧ f.cl < (n.ln.getD (f.rt.getD i 0).toNat ln0).n
theorem routeE_ok {n : Nt} {f : Fl} (h : routeE n.ln f = 0) : RtOK n f := by
 unfold routeE at h
 split at h
 ·omega
 ·split at h
  ·omega
  ·rename_i h1 h2
   have hz := firstE_zero h
   have key : ∀ i, i < f.rt.length → (0 ≤ f.rt.getD i 0 ∧ f.rt.getD i 0 < n.ln.length) ∧ f.rt.getD i 0 ∉ f.rt.take i ∧ 0 ≤ f.cl ∧ f.cl < (n.ln.getD (f.rt.getD i 0).toNat ln0).n := by
    intro i hi
    have h3 := hz i hi
    unfold hopE at h3
    split at h3
    ·omega
    ·split at h3
     ·omega
     ·split at h3
      ·omega
      ·exact ⟨by omega, by assumption, by omega, by omega⟩
   refine ⟨by omega, by omega, fun i hi => (key i hi).1, fun i j hij hj e => ?_, fun i hi => (key i hi).2.2⟩
   exact (key j hj).2.1 ((mem_takeD (d := 0)).2 ⟨i, hij, by omega, e.symm⟩)
theorem chk_fl {n : Nt} (h : chkN n = 0) : ∀ j, j < n.fl.length → RtOK n (n.fl.getD j fl0) := by
 intro j hj
 have h1 := (chkN_zero h).2.2.2 j hj
 unfold flowE at h1
 split at h1
 ·contradiction
 ·split at h1
  ·contradiction
  ·exact routeE_ok (by omega)
end Go.Tp
end
section
namespace Go.Np
open Go.Cv Go.Tp
structure ShapeP (n : Nt) (d : List (List Int)) : Prop where
 c : chkN n = 0
 l : d.length = n.ln.length
 r : ∀ i, i < d.length → ((d.getD i []).length : Int) = (n.ln.getD i ln0).n
 b : ∀ i, i < d.length → ∀ j, j < (d.getD i []).length → -1 ≤ (d.getD i []).getD j 0 ∧ (d.getD i []).getD j 0 ≤ 400
def dly (d : List (List Int)) (f : Fl) (i : Nat) : Int := (d.getD (f.rt.getD i 0).toNat []).getD f.cl.toNat 0
def bef (d : List (List Int)) (f : Fl) : Nat → Option Nat
  | 0 => some 0
  | i + 1 => match bef d f i with
    | none => none
    | some s => if dly d f i < 0 then none else some (s + (dly d f i).toNat)
theorem bef_none {d : List (List Int)} {f : Fl} {i : Nat} (h : bef d f i = none) : ∀ {m : Nat}, i ≤ m → bef d f m = none
  | 0, hm => by have : i = 0 := by omega
                subst this; exact h
  | m + 1, hm => by
    by_cases e : i = m + 1
    · subst e; exact h
    · simp only [bef]; rw [bef_none h (m := m) (by omega)]
theorem ShapeP.dly {n : Nt} {d : List (List Int)} (h : ShapeP n d) {f : Fl} (hf : RtOK n f) {i : Nat} (hi : i < f.rt.length) :
  (f.rt.getD i 0).toNat < d.length ∧ f.cl.toNat < (d.getD (f.rt.getD i 0).toNat []).length ∧ -1 ≤ dly d f i ∧ dly d f i ≤ 400 := by
 have h1 := hf.b i hi
 have h2 := hf.c i hi
 have h3 := h.l
 have h4 := h.r (f.rt.getD i 0).toNat (by omega)
 have h5 := h.b (f.rt.getD i 0).toNat (by omega) f.cl.toNat (by omega)
 exact ⟨by omega, by omega, h5⟩
theorem bef_le {n : Nt} {d : List (List Int)} (h : ShapeP n d) {f : Fl} (hf : RtOK n f) : ∀ {i s : Nat}, i ≤ f.rt.length → bef d f i = some s → s ≤ 400 * i
  | 0, s, _, hs => by simp only [bef, Option.some.injEq] at hs; omega
  | i + 1, s, hi, hs => by
    simp only [bef] at hs
    split at hs
    · contradiction
    · rename_i s' hs'
      have h1 := bef_le h hf (i := i) (s := s') (by omega) hs'
      have h2 := (h.dly hf (i := i) (by omega)).2.2
      split at hs
      · contradiction
      · simp only [Option.some.injEq] at hs; omega
abbrev ctc (f : Fl) : C3 := (f.v, f.p.toNat, f.q)
theorem chk_ct {n : Nt} (h : chkN n = 0) : ∀ j, j < n.fl.length → VC (ctc (n.fl.getD j fl0)) ∧ FinC (ctc (n.fl.getD j fl0)) ∧ 1 ≤ (n.fl.getD j fl0).p ∧ (n.fl.getD j fl0).v.getD 0 0 = 0 := by
 intro j hj
 have h1 := (chkN_zero h).2.2.2 j hj
 unfold flowE at h1
 split at h1
 ·contradiction
 ·split at h1
  ·contradiction
  ·unfold trafE at h1
   split at h1
   ·contradiction
   ·split at h1
    ·contradiction
    ·split at h1
     ·contradiction
     ·split at h1
      ·contradiction
      ·rename_i h2 h3 h4
       obtain ⟨p, e, hv⟩ := (Classical.not_not.1 h2).vf
       refine ⟨?_, Classical.not_not.1 h4, ?_, by omega⟩
       ·show VF _ (n.fl.getD j fl0).p.toNat _
        rw [e, Int.toNat_natCast]; exact hv
       ·have := hv.p1; omega
end Go.Np
end
section
namespace Go.Pk
structure Pk where
 f : Int
 t : Int
 s : Int
def sel (flow : Int) (x : Pk) : Prop := flow = -1 ∨ (x.f = flow ∧ 0 ≤ flow)
instance (flow : Int) (x : Pk) : Decidable (sel flow x) := inferInstanceAs (Decidable (_ ∨ _))
abbrev pk0 : Pk := ⟨0, 0, 0⟩
def selN (p : List Pk) (flow : Int) : Nat → List (Nat × Pk)
 |0 => []
 |i + 1 => if sel flow (p.getD i pk0) then selN p flow i ++ [(i, p.getD i pk0)] else selN p flow i
theorem selN_pre (p : List Pk) (flow : Int) {i : Nat} : ∀ {m : Nat}, i ≤ m → ∃ r, selN p flow m = selN p flow i ++ r
  | 0, h => by have : i = 0 := by omega
               subst this; exact ⟨[], by simp [selN]⟩
  | m + 1, h => by
    by_cases e : i = m + 1
    · subst e; exact ⟨[], by simp⟩
    · obtain ⟨r, hr⟩ := selN_pre p flow (i := i) (m := m) (by omega)
      simp only [selN]
      split
      · exact ⟨r ++ [(m, p.getD m pk0)], by rw [hr, List.append_assoc]⟩
      · exact ⟨r, hr⟩
theorem selN_at {p : List Pk} {flow : Int} {i : Nat} (hi : i < p.length) (h : sel flow (p.getD i pk0)) : (selN p flow p.length)[(selN p flow i).length]? = some (i, p.getD i pk0) := by
 obtain ⟨r, hr⟩ := selN_pre p flow (i := i + 1) (m := p.length) (by omega)
 rw [hr]
 simp only [selN]
 rw [if_pos h, List.append_assoc, List.getElem?_append_right (Nat.le_refl _), Nat.sub_self]
 rfl
theorem selN_len (p : List Pk) (flow : Int) : ∀ i, (selN p flow i).length ≤ i
 |0 => by simp [selN]
 |i + 1 => by have := selN_len p flow i; simp only [selN]; split <;> simp <;> omega
theorem selN_step (p : List Pk) (flow : Int) (i : Nat) : (sel flow (p.getD i pk0) → selN p flow (i + 1) = selN p flow i ++ [(i, p.getD i pk0)]) ∧ (¬sel flow (p.getD i pk0) → selN p flow (i + 1) = selN p flow i) :=
 ⟨fun h => by simp only [selN]; rw [if_pos h], fun h => by simp only [selN]; rw [if_neg h]⟩
def bysL (t : Int) : List (Nat × Pk) → Int
 |[] => 0
 |x :: l => (if x.2.t < t then x.2.s else 0) + bysL t l
theorem bysL_app (t : Int) : ∀ a b : List (Nat × Pk), bysL t (a ++ b) = bysL t a + bysL t b
 |[], b => by simp [bysL]
 |x :: a, b => by simp only [List.cons_append, bysL]; rw [bysL_app]; omega
def bys (p : List Pk) (flow t : Int) : Int := bysL t (selN p flow p.length)
theorem bysL_take (t : Int) {l : List (Nat × Pk)} {j : Nat} {x : Nat × Pk} (h : l[j]? = some x) : bysL t (l.take (j + 1)) = bysL t (l.take j) + if x.2.t < t then x.2.s else 0 := by
 obtain ⟨hj, e⟩ := List.getElem?_eq_some_iff.1 h
 rw [List.take_succ_eq_append_getElem hj, bysL_app, e]
 simp [bysL]
theorem getD_memP {l : List Pk} {i : Nat} (h : i < l.length) : l.getD i pk0 ∈ l := by
 rw [List.getD_eq_getElem?_getD, List.getElem?_eq_getElem h]; exact List.getElem_mem h
theorem selN_mem {p : List Pk} {flow : Int} : ∀ {i : Nat}, i ≤ p.length → ∀ x ∈ selN p flow i, x.1 < i ∧ x.2 = p.getD x.1 pk0 ∧ x.2 ∈ p
  | 0, _, x, h => by simp [selN] at h
  | i + 1, hi, x, h => by
    have ih := selN_mem (p := p) (flow := flow) (i := i) (by omega)
    simp only [selN] at h
    split at h
    · rcases List.mem_append.1 h with h | h
      · have := ih x h; exact ⟨by omega, this.2⟩
      · rw [List.mem_singleton.1 h]; exact ⟨by simp, rfl, getD_memP (by omega)⟩
    · have := ih x h; exact ⟨by omega, this.2⟩
def Sml (p : List Pk) : Prop := ∀ x ∈ p, 0 ≤ x.s ∧ x.s ≤ 1000000
theorem bysL_bd {t : Int} : ∀ {l : List (Nat × Pk)}, (∀ x ∈ l, 0 ≤ x.2.s ∧ x.2.s ≤ 1000000) → 0 ≤ bysL t l ∧ bysL t l ≤ 1000000 * l.length
  | [], _ => by simp [bysL]
  | x :: l, h => by
    have h1 := h x (by simp)
    have h2 := bysL_bd (t := t) (l := l) fun y hy => h y (List.mem_cons_of_mem _ hy)
    simp only [bysL, List.length_cons]
    split <;> (push_cast; omega)
theorem sel_bd {p : List Pk} {flow t : Int} (hs : Sml p) (j : Nat) : 0 ≤ bysL t ((selN p flow p.length).take j) ∧ bysL t ((selN p flow p.length).take j) ≤ 1000000 * p.length := by
 have h1 := bysL_bd (t := t) (l := (selN p flow p.length).take j) fun x hx => hs x.2 (selN_mem (Nat.le_refl _) x (List.mem_of_mem_take hx)).2.2
 have h2 := selN_len p flow p.length
 have h3 : ((selN p flow p.length).take j).length ≤ p.length := by rw [List.length_take]; omega
 omega
def bad (x : Pk) : Prop := x.f < 0 ∨ 60 ≤ x.f ∨ x.t < 0 ∨ 2000 < x.t ∨ x.s < 1 ∨ 1500 < x.s
instance (x : Pk) : Decidable (bad x) := inferInstanceAs (Decidable (_ ∨ _))
def lst (p : List Pk) : Nat → Int
 |0 => 0
 |i + 1 => (p.getD i pk0).t
def vldN (p : List Pk) : Nat → Int
 |0 => 0
 |i + 1 => if vldN p i ≠ 0 then vldN p i else if bad (p.getD i pk0) then 2 else if (p.getD i pk0).t < lst p i then 7 else 0
def vld (p : List Pk) : Int := if 60 < p.length then 3 else vldN p p.length
theorem vldN_ge {p : List Pk} {i : Nat} : ∀ {m : Nat}, i ≤ m → vldN p i ≠ 0 → vldN p m = vldN p i
  | 0, h, _ => by have : i = 0 := by omega
                  subst this; rfl
  | m + 1, h, hn => by
    by_cases e : i = m + 1
    · subst e; rfl
    · have := vldN_ge (p := p) (i := i) (m := m) (by omega) hn
      simp only [vldN]; rw [if_pos (by rw [this]; exact hn), this]
theorem vldN_zero {p : List Pk} : ∀ {m : Nat}, vldN p m = 0 ↔ ∀ i, i < m → ¬bad (p.getD i pk0) ∧ lst p i ≤ (p.getD i pk0).t
  | 0 => by simp [vldN]
  | m + 1 => by
    have ih := vldN_zero (p := p) (m := m)
    simp only [vldN]
    constructor
    · intro h
      split at h
      · exact absurd h (by assumption)
      · rename_i h0
        split at h
        · cases h
        · split at h
          · cases h
          · rename_i h1 h2
            intro i hi
            by_cases e : i = m
            · subst e; exact ⟨h1, by omega⟩
            · exact ih.1 (by omega) i (by omega)
    · intro h
      have h0 := ih.2 fun i hi => h i (by omega)
      rw [if_neg (by omega), if_neg (h m (by omega)).1, if_neg (by have := (h m (by omega)).2; omega)]
structure Vld (p : List Pk) : Prop where
 l : p.length ≤ 60
 g : ∀ i, i < p.length → ¬bad (p.getD i pk0)
 o : ∀ i, i < p.length → lst p i ≤ (p.getD i pk0).t
theorem vld_zero {p : List Pk} : vld p = 0 ↔ Vld p := by
 unfold vld
 constructor
 ·intro h
  split at h
  ·cases h
  ·rename_i hl
   have := vldN_zero.1 h
   exact ⟨by omega, fun i hi => (this i hi).1, fun i hi => (this i hi).2⟩
 ·rintro ⟨h1, h2, h3⟩
  rw [if_neg (by omega), vldN_zero]
  exact fun i hi => ⟨h2 i hi, h3 i hi⟩
theorem Vld.mem {p : List Pk} (h : Vld p) : ∀ x ∈ p, ¬bad x := fun x hx => by
 obtain ⟨i, hi, rfl⟩ := List.mem_iff_getElem.1 hx
 have := h.g i hi
 rwa [List.getD_eq_getElem?_getD, List.getElem?_eq_getElem hi] at this
theorem Vld.sml {p : List Pk} (h : Vld p) : Sml p := fun x hx => by
 have := h.mem x hx
 unfold bad at this; omega
def incL (u : Int) : List (Nat × Pk) → Int
 |[] => 0
 |x :: l => (if x.2.t + 1 = u then x.2.s else 0) + incL u l
theorem bysL_inc (u : Int) : ∀ l : List (Nat × Pk), bysL (u + 1) l = bysL u l + incL (u + 1) l
  | [] => rfl
  | x :: l => by
    simp only [bysL, incL]
    rw [bysL_inc u l]
    split <;> split <;> split <;> omega
theorem bysL_zero : ∀ {l : List (Nat × Pk)}, (∀ x ∈ l, 0 ≤ x.2.t) → bysL 0 l = 0 ∧ incL 0 l = 0
  | [], _ => ⟨rfl, rfl⟩
  | x :: l, h => by
    have h1 := h x (by simp)
    have h2 := bysL_zero (l := l) fun y hy => h y (List.mem_cons_of_mem _ hy)
    simp only [bysL, incL]
    rw [if_neg (by omega), if_neg (by omega), h2.1, h2.2]; exact ⟨rfl, rfl⟩
theorem incL_bd {u : Int} : ∀ {l : List (Nat × Pk)}, (∀ x ∈ l, 0 ≤ x.2.s ∧ x.2.s ≤ 1000000) → 0 ≤ incL u l ∧ incL u l ≤ 1000000 * l.length
  | [], _ => by simp [incL]
  | x :: l, h => by
    have h1 := h x (by simp)
    have h2 := incL_bd (u := u) (l := l) fun y hy => h y (List.mem_cons_of_mem _ hy)
    simp only [incL, List.length_cons]
    split <;> (push_cast; omega)
end Go.Pk
end
section
namespace Go.St
variable {α : Type}
end Go.St
end
section
namespace Go.Pk
open Go.St
def late (d : Int) (p : List Pk) : List Pk := p.map fun x => ⟨x.f, x.t + d, x.s⟩
def mix (p : List Pk) (l : List Int) : List Pk := l.map fun i => p.getD i.toNat pk0
end Go.Pk
end
section
namespace Go.Pk
open Go.Cv Go.St
structure Cum (A : Nat → Int) (p : List Pk) (N : Nat) : Prop where
 z : A 0 = 0
 m : ∀ t, A t ≤ A (t + 1)
 e : ∀ t, N ≤ t → A t = A N
 w : ∀ t : Nat, A (t + 1) ≠ A t → ∃ x ∈ p, x.t = (t : Int)
def Kp (A F : Nat → Int) (N : Nat) : Prop := ∀ s t, s < t → t ≤ N → A t - A s ≤ F (t - s)
def endN (p : List Pk) : Nat := match p.length with
 |0 => 0
 |i + 1 => ((p.getD i pk0).t + 1).toNat
abbrev csm (p : List Pk) (flow : Int) (t : Nat) : Int := bys p flow t
theorem end_lt {p : List Pk} (hv : Vld p) : ∀ x ∈ p, 0 ≤ x.t ∧ x.t < endN p := by
  intro x hx
  have hb := hv.mem x hx
  unfold bad at hb
  refine ⟨by omega, ?_⟩
  obtain ⟨j, hj, rfl⟩ := List.mem_iff_getElem.1 hx
  have hg : p.getD j pk0 = p[j] := by simp [List.getD_eq_getElem?_getD, hj]
  obtain ⟨n, hn⟩ : ∃ n, p.length = n + 1 := ⟨p.length - 1, by omega⟩
  have hs : ∀ k, j ≤ k → k < p.length → (p.getD j pk0).t ≤ (p.getD k pk0).t := by
    intro k hjk hk
    induction k with
    | zero => rw [show j = 0 by omega]; exact Int.le_refl _
    | succ k ih =>
      by_cases e : j = k + 1
      · subst e; exact Int.le_refl _
      · have h1 := ih (by omega) (by omega)
        have h2 := hv.o (k + 1) hk
        simp only [lst] at h2
        omega
  have h1 := hs n (by omega) (by omega)
  unfold endN
  rw [hn]
  rw [hg] at h1
  dsimp only
  omega
theorem bysL_end {T : Int} : ∀ {l : List (Nat × Pk)}, (∀ x ∈ l, x.2.t < T) → ∀ t, T ≤ t → bysL t l = bysL T l
  | [], _, _, _ => rfl
  | x :: l, h, t, ht => by
    have h1 := h x (by simp)
    simp only [bysL]
    rw [if_pos (by omega), if_pos (by omega), bysL_end (fun y hy => h y (List.mem_cons_of_mem _ hy)) t ht]
theorem incL_mem {u : Int} : ∀ {l : List (Nat × Pk)}, incL u l ≠ 0 → ∃ x ∈ l, x.2.t + 1 = u
  | [], h => absurd rfl h
  | x :: l, h => by
    by_cases e : x.2.t + 1 = u
    · exact ⟨x, by simp, e⟩
    · simp only [incL] at h
      rw [if_neg e, Int.zero_add] at h
      obtain ⟨y, hy, he⟩ := incL_mem h
      exact ⟨y, List.mem_cons_of_mem _ hy, he⟩
theorem csm_cum {p : List Pk} (hv : Vld p) (flow : Int) : Cum (csm p flow) p (endN p) := by
 have hm := fun x hx => (selN_mem (p := p) (flow := flow) (Nat.le_refl _) x hx).2.2
 have he := end_lt hv
 refine ⟨?_, fun t => ?_, fun t ht => ?_, fun t hn => ?_⟩
 ·exact (bysL_zero fun x hx => (he _ (hm x hx)).1).1
 ·show bysL _ _ ≤ bysL _ _
  push_cast
  rw [bysL_inc]
  have := (incL_bd (u := (t : Int) + 1) (l := selN p flow p.length) fun x hx => hv.sml _ (hm x hx)).1
  omega
 ·exact bysL_end (fun x hx => (he _ (hm x hx)).2) _ (by omega)
 ·have h1 : bysL ((t : Int) + 1) (selN p flow p.length) ≠ bysL t (selN p flow p.length) := by
   have : csm p flow (t + 1) = bysL ((t : Int) + 1) (selN p flow p.length) := by show bysL _ _ = _; push_cast; rfl
   rw [← this]; exact hn
  rw [bysL_inc] at h1
  obtain ⟨x, hx, e⟩ := incL_mem (u := (t : Int) + 1) (l := selN p flow p.length) (by omega)
  exact ⟨x.2, hm x hx, by omega⟩
end Go.Pk
end
section
namespace Go.Pk
open Go.Cv Go.St
theorem csm_bd {p : List Pk} (hv : Vld p) (flow : Int) (t : Nat) : 0 ≤ csm p flow t ∧ csm p flow t ≤ 60000000 := by
 have h1 := sel_bd (flow := flow) (t := (t : Int)) hv.sml (selN p flow p.length).length
 rw [List.take_length] at h1
 have h2 := hv.l
 show 0 ≤ bysL _ _ ∧ bysL _ _ ≤ _
 omega
end Go.Pk
end
section
namespace Go.Pk
open Go.Cv Go.St
def mine (flow : Int) (x : Pk) : Prop := flow = -1 ∨ x.f = flow
instance (flow : Int) (x : Pk) : Decidable (mine flow x) := inferInstanceAs (Decidable (_ ∨ _))
end Go.Pk
end
