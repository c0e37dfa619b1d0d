/-
  A text of the proofs of this seat: lemmas that the statements' proofs use; it states nothing of the program by itself beyond the contracts that its theorems bear. Conditions: those that stand in each theorem. Its short name: Rm.
-/
import Derived.Test.YtppdpfaipkjpmaaCw
set_option linter.unusedVariables false
set_option linter.unusedSimpArgs false
namespace Go.Cv
/-! plain laws of what is left of a curve -/
abbrev C3 := List Int × Nat × Int
def cv (a : C3) (t : Nat) : Int := val a.1 a.2.1 a.2.2 t
abbrev VC (a : C3) : Prop := VF a.1 a.2.1 a.2.2
def infAt (vs : List Int) (t : Nat) : Prop := vs.getD (min t (vs.length - 1)) 0 = INF
instance (vs : List Int) (t : Nat) : Decidable (infAt vs t) := inferInstanceAs (Decidable (_ = _))
def FinC (a : C3) : Prop := a.1.getD (a.1.length - 1) 0 ≠ INF
instance (a : C3) : Decidable (FinC a) := inferInstanceAs (Decidable (¬ _ = _))
theorem VF.val_le {vs p q} (h : VF vs p q) (hf : vs.getD (vs.length - 1) 0 ≠ INF) (t : Nat) : val vs p q t ≤ 1073741824 + (t + 1 : Nat) * q := by
  have n1 := h.n1
  have p1 := h.p1
  have pn := h.pn
  have q0 := h.q0
  have hv : ∀ j, j < vs.length → vs.getD j 0 ≤ 1073741824 := by
    intro j hj
    have h1 := h.v j hj
    have h2 := h.noinf hf j hj
    simp only [INF] at *; omega
  by_cases hlt : t < vs.length
  · rw [val_lt hlt]
    have h1 := hv t hlt
    have : (0 : Int) ≤ (t + 1 : Nat) * q := Int.mul_nonneg (by omega) q0
    omega
  · simp only [val]
    rw [if_neg hlt]
    have hd := Nat.div_le_self (t - vs.length) p
    have h1 := Nat.div_add_mod (t - vs.length) p
    have h2 := Nat.mod_lt (t - vs.length) p1
    have h3 : ((t - vs.length) / p + 1) * p = p * ((t - vs.length) / p) + p := by rw [Nat.add_mul, Nat.one_mul, Nat.mul_comm]
    have hidx : t - ((t - vs.length) / p + 1) * p < vs.length := by omega
    rw [if_neg (h.noinf hf _ hidx)]
    have h4 := hv _ hidx
    have h5 : (((t - vs.length) / p + 1 : Nat) : Int) * q ≤ (t + 1 : Nat) * q := Int.mul_le_mul_of_nonneg_right (by omega) q0
    omega
theorem VF.inf_iff {vs p q} (h : VF vs p q) {t : Nat} (ht : t ≤ 1048576) : val vs p q t = INF ↔ infAt vs t := by
  have n1 := h.n1
  unfold infAt
  by_cases hlt : t < vs.length
  · rw [val_lt hlt, Nat.min_eq_left (by omega)]
  · rw [Nat.min_eq_right (by omega)]
    constructor
    · intro he
      apply Classical.byContradiction
      intro hf
      have h1 := h.val_le hf t
      have h2 : ((t + 1 : Nat) : Int) * q ≤ 1048577 * 1073741824 := Int.mul_le_mul (by omega) h.q1 h.q0 (by omega)
      rw [he] at h1
      simp only [INF] at h1
      omega
    · intro he
      exact h.val_inf he he t (by omega)
theorem VF.infAt_mono {vs p q} (h : VF vs p q) {s t : Nat} (hst : s ≤ t) (hs : infAt vs s) : infAt vs t := by
  have n1 := h.n1
  unfold infAt at *
  have h1 := h.mono (min s (vs.length - 1)) (min t (vs.length - 1)) (by omega) (by omega)
  have h2 := h.v (min t (vs.length - 1)) (by omega)
  rw [hs] at h1
  simp only [INF] at *
  omega
theorem FinC.not {a : C3} (h : VC a) (hf : FinC a) (t : Nat) : ¬infAt a.1 t := by
  have n1 := h.n1
  exact h.noinf hf _ (by omega)
theorem inf_late {a : C3} (hf : ¬FinC a) {t : Nat} (ht : a.1.length - 1 ≤ t) : infAt a.1 t := by
  unfold FinC at hf
  unfold infAt
  rw [Nat.min_eq_right ht]
  exact Classical.not_not.1 hf
theorem inf_p {a : C3} (h : VC a) (hf : ¬FinC a) : a.2.1 = 1 ∧ a.2.2 = 0 := h.inf (Classical.not_not.1 hf)

/- the difference -/
def dif (a b : C3) (t : Nat) : Int := if infAt b.1 t then 0 else if infAt a.1 t then INF else cv a t - cv b t
def frm (a b : C3) : Nat := max (a.1.length - a.2.1) (b.1.length - b.2.1)
def com (a b : C3) : Nat := Nat.lcm a.2.1 b.2.1
def drf (a b : C3) : Int := a.2.2 * ((com a b / a.2.1 : Nat) : Int) - b.2.2 * ((com a b / b.2.1 : Nat) : Int)
theorem com_pos {a b : C3} (ha : VC a) (hb : VC b) : 1 ≤ com a b := Nat.lcm_pos ha.p1 hb.p1
theorem cv_com_l {a b : C3} (ha : VC a) {t : Nat} (ht : frm a b ≤ t) : cv a (t + com a b) = cv a t + a.2.2 * ((com a b / a.2.1 : Nat) : Int) := by
  obtain ⟨k, hk⟩ := Nat.dvd_lcm_left a.2.1 b.2.1
  have h1 := ha.per.mul k t (by unfold frm at ht; omega)
  have e : com a b = k * a.2.1 := by unfold com; rw [hk, Nat.mul_comm]
  have e2 : com a b / a.2.1 = k := by rw [e]; exact Nat.mul_div_cancel k ha.p1
  unfold cv
  rw [e2, e, h1, Int.mul_comm]
theorem cv_com_r {a b : C3} (hb : VC b) {t : Nat} (ht : frm a b ≤ t) : cv b (t + com a b) = cv b t + b.2.2 * ((com a b / b.2.1 : Nat) : Int) := by
  obtain ⟨k, hk⟩ := Nat.dvd_lcm_right a.2.1 b.2.1
  have h1 := hb.per.mul k t (by unfold frm at ht; omega)
  have e : com a b = k * b.2.1 := by unfold com; rw [hk, Nat.mul_comm]
  have e2 : com a b / b.2.1 = k := by rw [e]; exact Nat.mul_div_cancel k hb.p1
  unfold cv
  rw [e2, e, h1, Int.mul_comm]
theorem dif_fin {a b : C3} (ha : VC a) (hb : VC b) (fa : FinC a) (fb : FinC b) (t : Nat) : dif a b t = cv a t - cv b t := by
  unfold dif; rw [if_neg (fb.not hb t), if_neg (fa.not ha t)]
theorem dif_per {a b : C3} (ha : VC a) (hb : VC b) (fa : FinC a) (fb : FinC b) : Per (dif a b) (frm a b) (com a b) (drf a b) := by
  intro t ht
  rw [dif_fin ha hb fa fb, dif_fin ha hb fa fb, cv_com_l ha ht, cv_com_r hb ht]
  unfold drf; omega
/- where one is not finite the difference is constant at last -/
theorem dif_late {a b : C3} (ha : VC a) (hb : VC b) (h : ¬(FinC a ∧ FinC b)) {t : Nat} (ht : frm a b ≤ t) : dif a b t = if FinC b then INF else 0 := by
  unfold frm at ht
  unfold dif
  by_cases fb : FinC b
  · have fa : ¬FinC a := fun fa => h ⟨fa, fb⟩
    have := (inf_p ha fa).1
    rw [if_neg (fb.not hb t), if_pos (inf_late fa (by omega)), if_pos fb]
  · have := (inf_p hb fb).1
    rw [if_pos (inf_late fb (by omega)), if_neg fb]
theorem frm_le {a b : C3} (ha : VC a) (hb : VC b) : frm a b ≤ 399 := by
  have := ha.n2; have := ha.p1; have := hb.n2; have := hb.p1
  unfold frm; omega
theorem cv_nonneg {a : C3} (ha : VC a) (t : Nat) : 0 ≤ cv a t := ha.nonneg t
theorem dif_le_cv {a b : C3} (ha : VC a) (hb : VC b) (t : Nat) (hi : ¬infAt a.1 t) : dif a b t ≤ cv a t := by
  have := cv_nonneg ha t
  have := cv_nonneg hb t
  unfold dif
  by_cases h : infAt b.1 t
  · rw [if_pos h]; omega
  · rw [if_neg h, if_neg hi]; omega

/-! ### the greatest so far -/
def rmx (d : Nat → Int) : Nat → Int
  | 0 => max 0 (d 0)
  | t + 1 => max (rmx d t) (d (t + 1))
theorem rmx_nonneg (d : Nat → Int) : ∀ t, 0 ≤ rmx d t
  | 0 => by simp only [rmx]; omega
  | t + 1 => by have := rmx_nonneg d t; simp only [rmx]; omega
theorem rmx_mono (d : Nat → Int) : Mono (rmx d) := fun t => by simp only [rmx]; omega
theorem rmx_ge (d : Nat → Int) : ∀ {s t : Nat}, s ≤ t → d s ≤ rmx d t := by
  intro s t hst
  have h1 : d s ≤ rmx d s := by cases s <;> simp only [rmx] <;> omega
  have := (rmx_mono d).le hst
  omega
theorem rmx_le {d : Nat → Int} {m : Int} (h0 : 0 ≤ m) : ∀ {t : Nat}, (∀ s ≤ t, d s ≤ m) → rmx d t ≤ m
  | 0, h => by have := h 0 (by omega); simp only [rmx]; omega
  | t + 1, h => by have h1 := rmx_le h0 (t := t) (fun s hs => h s (by omega)); have := h (t + 1) (by omega); simp only [rmx]; omega
theorem rmx_at (d : Nat → Int) : ∀ t, rmx d t = 0 ∨ ∃ s ≤ t, rmx d t = d s
  | 0 => by
    rcases Int.le_total 0 (d 0) with h | h
    · right; exact ⟨0, by omega, by simp only [rmx]; omega⟩
    · left; simp only [rmx]; omega
  | t + 1 => by
    simp only [rmx]
    rcases Int.le_total (d (t + 1)) (rmx d t) with h | h
    · rw [Int.max_eq_left h]
      rcases rmx_at d t with h1 | ⟨s, h1, h2⟩
      · exact .inl h1
      · exact .inr ⟨s, by omega, h2⟩
    · rw [Int.max_eq_right h]; exact .inr ⟨t + 1, by omega, rfl⟩
/- one point decides -/
theorem rmx_one {d : Nat → Int} {s p u : Nat} {q : Int} (hd : Per d s p q) (hu : s ≤ u) (h : rmx d (u + p) = rmx d u + q) : Per (rmx d) u p q := by
  intro t ht
  induction t with
  | zero => have : u = 0 := by omega
            subst this; exact h
  | succ t ih =>
    by_cases e : u = t + 1
    · rw [← e]; exact h
    · have h1 := ih (by omega)
      have h2 := hd (t + 1) (by omega)
      rw [show t + 1 + p = t + p + 1 by omega] at h2 ⊢
      simp only [rmx]
      rw [h1, h2]; omega
theorem rmx_const {d : Nat → Int} {s : Nat} (h : ∀ t, s ≤ t → d t ≤ rmx d s) : Per (rmx d) s 1 0 := by
  have key : ∀ t, s ≤ t → rmx d t = rmx d s := by
    intro t ht
    induction t with
    | zero => have : s = 0 := by omega
              subst this; rfl
    | succ t ih =>
      by_cases e : s = t + 1
      · rw [e]
      · have h1 := ih (by omega)
        have h2 := h (t + 1) (by omega)
        simp only [rmx]; omega
  intro t ht
  rw [key t ht, key (t + 1) (by omega)]; omega
/- what does not grow reaches its greatest within a period -/
theorem rmx_still {d : Nat → Int} {s p : Nat} {q : Int} (hp : 1 ≤ p) (hd : Per d s p q) (hq : q ≤ 0) : Per (rmx d) (s + p - 1) 1 0 := by
  apply rmx_const
  intro t ht
  have hm := hd.mul ((t - s) / p) (s + (t - s) % p) (by omega)
  have h1 := Nat.div_add_mod (t - s) p
  have h2 := Nat.mod_lt (t - s) hp
  rw [show s + (t - s) % p + (t - s) / p * p = t by rw [Nat.mul_comm]; omega] at hm
  have h3 : (((t - s) / p : Nat) : Int) * q ≤ 0 := Int.mul_nonpos_of_nonneg_of_nonpos (Int.natCast_nonneg _) hq
  have h4 := rmx_ge d (s := s + (t - s) % p) (t := s + p - 1) (by omega)
  omega
/- what grows overtakes -/
theorem rmx_grow {d : Nat → Int} {s p : Nat} {q : Int} (hp : 1 ≤ p) (hd : Per d s p q) (hq : 0 < q) : ∃ u, Per (rmx d) u p q := by
  -- the window that ends at u has the greatest value so far
  have ex : ∃ k : Nat, rmx d (s + p) ≤ d (s + k * p) := by
    refine ⟨(rmx d (s + p) - d s).toNat, ?_⟩
    have h1 := hd.mul (rmx d (s + p) - d s).toNat s (by omega)
    rw [h1]
    have h2 : ((rmx d (s + p) - d s).toNat : Int) * 1 ≤ ((rmx d (s + p) - d s).toNat : Int) * q := Int.mul_le_mul_of_nonneg_left (by omega) (by omega)
    omega
  obtain ⟨k, hk⟩ := ex
  refine ⟨s + p + k * p, rmx_one hd (by omega) ?_⟩
  have hle : rmx d (s + p + k * p + p) ≤ rmx d (s + p + k * p) + q := by
    have h0 := rmx_nonneg d (s + p + k * p)
    apply rmx_le (by omega)
    intro t ht
    by_cases h1 : s + p ≤ t
    · have := hd (t - p) (by omega)
      rw [show t - p + p = t by omega] at this
      have := rmx_ge d (s := t - p) (t := s + p + k * p) (by omega)
      omega
    · have h2 := rmx_ge d (s := t) (t := s + p) (by omega)
      have h3 := rmx_ge d (s := s + k * p) (t := s + p + k * p) (by omega)
      omega
  have hge : rmx d (s + p + k * p) + q ≤ rmx d (s + p + k * p + p) := by
    rcases rmx_at d (s + p + k * p) with h1 | ⟨t, h1, h2⟩
    · have h3 := rmx_ge d (s := s + k * p) (t := s + p + k * p) (by omega)
      have h4 := rmx_nonneg d (s + p)
      have h5 := hd (s + k * p) (by omega)
      have h6 := rmx_ge d (s := s + k * p + p) (t := s + p + k * p + p) (by omega)
      omega
    · by_cases h3 : s ≤ t
      · have h4 := hd t h3
        have h5 := rmx_ge d (s := t + p) (t := s + p + k * p + p) (by omega)
        omega
      · have h3 := rmx_ge d (s := t) (t := s + p) (by omega)
        have h5 := hd (s + k * p) (by omega)
        have h6 := rmx_ge d (s := s + k * p + p) (t := s + p + k * p + p) (by omega)
        omega
  omega

/-! ### the least from here on -/
/- of n + 1 ticks from t on -/
def wmn (d : Nat → Int) : Nat → Nat → Int
  | 0, t => d t
  | n + 1, t => min (d t) (wmn d n (t + 1))
theorem wmn_le {d : Nat → Int} : ∀ {n t s : Nat}, t ≤ s → s ≤ t + n → wmn d n t ≤ d s
  | 0, t, s, h1, h2 => by have : s = t := by omega
                          subst this; simp only [wmn]; omega
  | n + 1, t, s, h1, h2 => by
    simp only [wmn]
    by_cases e : s = t
    · subst e; omega
    · have := wmn_le (d := d) (n := n) (t := t + 1) (s := s) (by omega) (by omega); omega
theorem wmn_at (d : Nat → Int) : ∀ (n t : Nat), ∃ s, t ≤ s ∧ s ≤ t + n ∧ wmn d n t = d s
  | 0, t => ⟨t, by omega, by omega, rfl⟩
  | n + 1, t => by
    obtain ⟨s, h1, h2, h3⟩ := wmn_at d n (t + 1)
    simp only [wmn]
    rcases Int.le_total (d t) (wmn d n (t + 1)) with h | h
    · exact ⟨t, by omega, by omega, by omega⟩
    · exact ⟨s, by omega, by omega, by omega⟩
/- two windows with the same least -/
theorem wmn_eq {d : Nat → Int} {n m t u : Nat} (h1 : ∀ s, t ≤ s → s ≤ t + n → ∃ r, u ≤ r ∧ r ≤ u + m ∧ d r ≤ d s) (h2 : ∀ r, u ≤ r → r ≤ u + m → ∃ s, t ≤ s ∧ s ≤ t + n ∧ d s ≤ d r) : wmn d n t = wmn d m u := by
  obtain ⟨s, a1, a2, a3⟩ := wmn_at d n t
  obtain ⟨r, b1, b2, b3⟩ := wmn_at d m u
  obtain ⟨r', c1, c2, c3⟩ := h1 s a1 a2
  obtain ⟨s', e1, e2, e3⟩ := h2 r b1 b2
  have := wmn_le (d := d) (n := m) c1 c2
  have := wmn_le (d := d) (n := n) e1 e2
  omega
/- every later tick has a tick of the window below it -/
theorem per_down {d : Nat → Int} {s p : Nat} {q : Int} (hp : 1 ≤ p) (hd : Per d s p q) (hq : 0 ≤ q) {t u : Nat} (ht : t ≤ u) : ∃ r, t ≤ r ∧ r < max t s + p ∧ d r ≤ d u := by
  by_cases hu : u < max t s + p
  · exact ⟨u, ht, hu, Int.le_refl _⟩
  · have hm := hd.mul ((u - max t s) / p) (max t s + (u - max t s) % p) (by omega)
    have h1 := Nat.div_add_mod (u - max t s) p
    have h2 := Nat.mod_lt (u - max t s) hp
    rw [show max t s + (u - max t s) % p + (u - max t s) / p * p = u by rw [Nat.mul_comm]; omega] at hm
    have h3 : 0 ≤ (((u - max t s) / p : Nat) : Int) * q := Int.mul_nonneg (Int.natCast_nonneg _) hq
    exact ⟨max t s + (u - max t s) % p, by omega, by omega, by omega⟩

/-! ### bounds -/
theorem cv_small {a : C3} (ha : VC a) {t : Nat} (ht : t ≤ 1048576) (hi : ¬infAt a.1 t) : cv a t ≤ 2000000000000000 := by
  have n1 := ha.n1
  by_cases hf : FinC a
  · have h1 := ha.val_le hf t
    have h2 : ((t + 1 : Nat) : Int) * a.2.2 ≤ 1048577 * 1073741824 := Int.mul_le_mul (by omega) ha.q1 ha.q0 (by omega)
    unfold cv; omega
  · have hlt : t < a.1.length - 1 := by
      rcases Nat.lt_or_ge t (a.1.length - 1) with h | h
      · exact h
      · exact absurd (inf_late hf h) hi
    unfold cv
    rw [val_lt (by omega)]
    have h1 := ha.v t (by omega)
    unfold infAt at hi
    rw [Nat.min_eq_left (by omega)] at hi
    simp only [INF] at *
    omega
theorem dif_le {a b : C3} (ha : VC a) (hb : VC b) {t : Nat} (ht : t ≤ 1048576) : dif a b t ≤ INF := by
  by_cases h : infAt a.1 t
  · unfold dif
    by_cases h' : infAt b.1 t
    · rw [if_pos h']; simp [INF]
    · rw [if_neg h', if_pos h]; exact Int.le_refl _
  · have h1 := dif_le_cv ha hb t h
    have h2 := cv_small ha ht h
    simp only [INF] at *; omega
theorem dif_ge {a b : C3} (ha : VC a) (hb : VC b) {t : Nat} (ht : t ≤ 1048576) : -2000000000000000 ≤ dif a b t := by
  unfold dif
  by_cases h' : infAt b.1 t
  · rw [if_pos h']; omega
  · rw [if_neg h']
    have h2 := cv_small hb ht h'
    have h3 := cv_nonneg ha t
    by_cases h : infAt a.1 t
    · rw [if_pos h]; simp only [INF]; omega
    · rw [if_neg h]; omega
theorem dif_le_all {a b : C3} (ha : VC a) (hb : VC b) (hf : ¬FinC a) (t : Nat) : dif a b t ≤ INF := by
  by_cases h : infAt a.1 t
  · unfold dif
    by_cases h' : infAt b.1 t
    · rw [if_pos h']; simp [INF]
    · rw [if_neg h', if_pos h]; exact Int.le_refl _
  · have hlt : t < a.1.length - 1 := by
      rcases Nat.lt_or_ge t (a.1.length - 1) with h1 | h1
      · exact h1
      · exact absurd (inf_late hf h1) h
    exact dif_le ha hb (by have := ha.n2; omega)
/- where the difference is infinite -/
theorem dif_inf {a b : C3} (ha : VC a) (hb : VC b) {t : Nat} (ht : t ≤ 1048576) : dif a b t = INF ↔ infAt a.1 t ∧ ¬infAt b.1 t := by
  constructor
  · intro h
    by_cases h1 : infAt a.1 t
    · refine ⟨h1, fun h2 => ?_⟩
      unfold dif at h
      rw [if_pos h2] at h
      simp [INF] at h
    · have h2 := dif_le_cv ha hb t h1
      have h3 := cv_small ha ht h1
      rw [h] at h2
      simp only [INF] at *
      omega
  · rintro ⟨h1, h2⟩
    unfold dif; rw [if_neg h2, if_pos h1]

/-! ### the program's two maxima -/
def mst (d : Nat → Int) (f : Nat) : Nat → Int
  | 0 => 0
  | t + 1 => if f ≤ t then mst d f t else max (mst d f t) (d t)
def tls (d : Nat → Int) (f : Nat) : Nat → Int
  | 0 => -INF
  | t + 1 => if f ≤ t then max (tls d f t) (d t) else tls d f t
theorem mst_nonneg (d f) : ∀ t, 0 ≤ mst d f t
  | 0 => Int.le_refl _
  | t + 1 => by have := mst_nonneg d f t; simp only [mst]; split <;> omega
theorem rmx_two {d : Nat → Int} {f : Nat} {N : Nat} (hd : ∀ t < N, -INF ≤ d t) : ∀ t, t < N → rmx d t = max (mst d f (t + 1)) (tls d f (t + 1))
  | 0, h => by
    have := hd 0 h
    simp only [rmx, mst, tls, INF] at *
    split <;> omega
  | t + 1, h => by
    have h1 := rmx_two (f := f) hd t (by omega)
    simp only [rmx]
    rw [h1]
    conv => rhs; rw [mst, tls]
    split <;> omega
theorem tls_ge {d : Nat → Int} {f : Nat} : ∀ {t u : Nat}, f ≤ u → u < t → d u ≤ tls d f t
  | 0, u, _, h => by omega
  | t + 1, u, h1, h2 => by
    simp only [tls]
    by_cases e : u = t
    · subst e; rw [if_pos h1]; omega
    · have := tls_ge (d := d) (f := f) (t := t) h1 (by omega)
      split <;> omega
theorem tls_at {d : Nat → Int} {f : Nat} : ∀ {t : Nat}, (∀ u < t, -INF ≤ d u) → f < t → ∃ u, f ≤ u ∧ u < t ∧ tls d f t = d u
  | 0, _, h => by omega
  | t + 1, hd, h => by
    simp only [tls]
    rw [if_pos (by omega)]
    by_cases e : f = t
    · have h1 : tls d f t = -INF := by
        have key : ∀ k, k ≤ f → tls d f k = -INF := by
          intro k
          induction k with
          | zero => intro _; rfl
          | succ k ih => intro hk; simp only [tls]; rw [if_neg (by omega)]; exact ih (by omega)
        exact key t (by omega)
      have := hd t (by omega)
      exact ⟨t, by omega, by omega, by omega⟩
    · obtain ⟨u, h1, h2, h3⟩ := tls_at (d := d) (f := f) (t := t) (fun u hu => hd u (by omega)) (by omega)
      rcases Int.le_total (tls d f t) (d t) with h4 | h4
      · exact ⟨t, by omega, by omega, by omega⟩
      · exact ⟨u, h1, by omega, by omega⟩
theorem mst_le_rmx {d : Nat → Int} {f : Nat} : ∀ {t u : Nat}, f ≤ u + 1 → mst d f t ≤ rmx d u
  | 0, u, _ => rmx_nonneg d u
  | t + 1, u, h => by
    have h1 := mst_le_rmx (d := d) (t := t) h
    simp only [mst]
    split
    · exact h1
    · have := rmx_ge d (s := t) (t := u) (by omega); omega
/- if the tail has not overtaken by then, there is no normal form within the limits -/
theorem rest_err {d : Nat → Int} {f l s : Nat} {dr : Int} (hl : 1 ≤ l) (hf : f ≤ 399) (hd : Per d f l dr) (hdr : 0 < dr) (hs : s = max 400 (f + l)) (hlow : ∀ t < s + 1, -INF ≤ d t)
    (hlt : tls d f (s + 1) < mst d f (s + 1)) : ∀ (vs : List Int) (p : Nat) (q : Int), NF (rmx d) vs p q → ¬VF vs p q := by
  intro vs p q hnf hvf
  obtain ⟨s0, p1, hper, hmin, hms, rfl⟩ := hnf
  have hn := hvf.n2
  rw [vals_len] at hn
  have hM : rmx d s = mst d f (s + 1) := by
    rw [rmx_two (f := f) (N := s + 1) hlow s (by omega)]; omega
  obtain ⟨u, hu⟩ := rmx_grow hl hd hdr
  have hu' := Per.back hl hu hper
  -- the long period from s0 on
  have hlp : Per (rmx d) s0 l dr := by
    have hdvd := Per.dvd p1 (s := max s0 u) (hper.mono (by omega)) hmin (hu.mono (by omega))
    obtain ⟨k, hk⟩ := hdvd
    have h1 := hper.mul k
    rw [show k * p = l by rw [hk, Nat.mul_comm]] at h1
    have h2 := h1.uniq hu
    rw [← h2]; exact h1
  have ht := hlp (max s0 f) (by omega)
  have h1 := mst_le_rmx (d := d) (f := f) (t := s + 1) (u := max s0 f) (by omega)
  have h2 := (rmx_mono d).le (show max s0 f ≤ s by omega)
  have h3 : rmx d (max s0 f) = rmx d s := by omega
  by_cases h4 : max s0 f + l ≤ s
  · have := (rmx_mono d).le h4; omega
  · rcases rmx_at d (max s0 f + l) with h5 | ⟨v, h5, h6⟩
    · have := rmx_nonneg d s; omega
    · have h7 : s < v := by
        rcases Nat.lt_or_ge s v with h | h
        · exact h
        · have := rmx_ge d h; omega
      have h8 := hd (v - l) (by omega)
      rw [show v - l + l = v by omega] at h8
      have h9 := tls_ge (d := d) (f := f) (t := s + 1) (u := v - l) (by omega) (by omega)
      omega
theorem rest_per {d : Nat → Int} {f l s : Nat} {dr : Int} (hl : 1 ≤ l) (hd : Per d f l dr) (hdr : 0 < dr) (hs : f + l ≤ s) (hlow : ∀ t < s + 1, -INF ≤ d t)
    (hge : ¬tls d f (s + 1) < mst d f (s + 1)) : Per (rmx d) s l dr := by
  have hM : rmx d s = tls d f (s + 1) := by
    rw [rmx_two (f := f) (N := s + 1) hlow s (by omega)]; omega
  obtain ⟨u, h1, h2, h3⟩ := tls_at (d := d) (f := f) (t := s + 1) hlow (by omega)
  refine rmx_one hd (by omega) ?_
  have hle : rmx d (s + l) ≤ rmx d s + dr := by
    apply rmx_le (by have := rmx_nonneg d s; omega)
    intro t ht
    by_cases h4 : f + l ≤ t
    · have h5 := hd (t - l) (by omega)
      rw [show t - l + l = t by omega] at h5
      have := rmx_ge d (s := t - l) (t := s) (by omega)
      omega
    · have := rmx_ge d (s := t) (t := s) (by omega); omega
  have hge : rmx d s + dr ≤ rmx d (s + l) := by
    have h5 := hd u h1
    have := rmx_ge d (s := u + l) (t := s + l) (by omega)
    omega
  omega
theorem rest_still {a b : C3} (ha : VC a) (hb : VC b) (h : ¬(FinC a ∧ FinC b ∧ 0 < drf a b)) : Per (rmx (dif a b)) (frm a b + com a b) 1 0 := by
  have hl := com_pos ha hb
  by_cases hf : FinC a ∧ FinC b
  · exact (rmx_still hl (dif_per ha hb hf.1 hf.2) (by
      have : ¬0 < drf a b := fun h' => h ⟨hf.1, hf.2, h'⟩
      omega)).mono (by omega)
  · refine (rmx_const (s := frm a b) (fun t ht => ?_)).mono (by omega)
    have e1 := dif_late ha hb hf ht
    have e2 := dif_late ha hb hf (Nat.le_refl (frm a b))
    have := rmx_ge (dif a b) (Nat.le_refl (frm a b))
    omega
theorem rmx_dif_le {a b : C3} (ha : VC a) (hb : VC b) {t : Nat} (ht : t ≤ 1048576) : 0 ≤ rmx (dif a b) t ∧ rmx (dif a b) t ≤ INF :=
  ⟨rmx_nonneg _ _, rmx_le (by simp [INF]) (fun s hs => dif_le ha hb (by omega))⟩
theorem rmx_dif_inf {a b : C3} (ha : VC a) (hb : VC b) {m : Nat} (hm : m ≤ 1048576) (h : rmx (dif a b) m = INF) : ∀ t, m ≤ t → rmx (dif a b) t = INF := by
  intro t ht
  rcases rmx_at (dif a b) m with h1 | ⟨s, h1, h2⟩
  · rw [h] at h1; simp [INF] at h1
  · have h3 := (dif_inf ha hb (by omega)).1 (h2.symm.trans h)
    have hf : ¬FinC a := fun hf => hf.not ha s h3.1
    have h4 := (rmx_mono (dif a b)).le ht
    have h5 : rmx (dif a b) t ≤ INF := rmx_le (by simp [INF]) (fun s _ => dif_le_all ha hb hf s)
    omega

/-! ### the reference's check -/
theorem nf_per {F : Nat → Int} {vs : List Int} {p : Nat} {q : Int} {u l : Nat} {inc : Int} (hl : 1 ≤ l) (hnf : NF F vs p q) (hvf : VF vs p q) (hev : Per F u l inc) : ∃ s0, s0 + p ≤ 400 ∧ Per F s0 p q ∧ Per F s0 l inc ∧ 1 ≤ p ∧ ∃ k : Nat, l = k * p ∧ inc = k * q := by
  obtain ⟨s0, p1, hper, hmin, hms, rfl⟩ := hnf
  have hn := hvf.n2
  rw [vals_len] at hn
  have hdvd := Per.dvd p1 (s := max s0 u) (hper.mono (by omega)) hmin (hev.mono (by omega))
  obtain ⟨k, hk⟩ := hdvd
  have h1 := hper.mul k
  rw [show k * p = l by rw [hk, Nat.mul_comm]] at h1
  have h2 := h1.uniq hev
  exact ⟨s0, hn, hper, by rw [← h2]; exact h1, p1, k, by rw [hk, Nat.mul_comm], h2.symm⟩
theorem ref_err {F : Nat → Int} {u l : Nat} {inc : Int} (hl : 1 ≤ l) (hev : Per F u l inc) (hne : F (400 + l) ≠ F 400 + inc) : ∀ (vs : List Int) (p : Nat) (q : Int), NF F vs p q → ¬VF vs p q := by
  intro vs p q hnf hvf
  obtain ⟨s0, h1, _, h3, _⟩ := nf_per hl hnf hvf hev
  exact hne (h3 400 (by omega))
/- some late period -/
theorem rest_ev {a b : C3} (ha : VC a) (hb : VC b) : ∃ u, Per (rmx (dif a b)) u (com a b) (if FinC a ∧ FinC b then max 0 (drf a b) else 0) := by
  have hl := com_pos ha hb
  by_cases h : FinC a ∧ FinC b ∧ 0 < drf a b
  · obtain ⟨u, hu⟩ := rmx_grow hl (dif_per ha hb h.1 h.2.1) h.2.2
    refine ⟨u, ?_⟩
    rw [if_pos ⟨h.1, h.2.1⟩, Int.max_eq_right (by omega)]; exact hu
  · have h1 := (rest_still ha hb h).mul (com a b)
    rw [Nat.mul_one, Int.mul_zero] at h1
    refine ⟨frm a b + com a b, ?_⟩
    by_cases hf : FinC a ∧ FinC b
    · rw [if_pos hf, Int.max_eq_left (by
        have : ¬0 < drf a b := fun h' => h ⟨hf.1, hf.2, h'⟩
        omega)]; exact h1
    · rw [if_neg hf]; exact h1
theorem rest_ref {a b : C3} (ha : VC a) (hb : VC b) (he : rmx (dif a b) (400 + com a b) = rmx (dif a b) 400 + (if FinC a ∧ FinC b then max 0 (drf a b) else 0)) :
    Per (rmx (dif a b)) 400 (com a b) (if FinC a ∧ FinC b then max 0 (drf a b) else 0) := by
  have hl := com_pos ha hb
  have hf := frm_le ha hb
  by_cases h : FinC a ∧ FinC b ∧ 0 < drf a b
  · rw [if_pos ⟨h.1, h.2.1⟩, Int.max_eq_right (by omega)] at *
    exact rmx_one (dif_per ha hb h.1 h.2.1) (by omega) he
  · have h0 : (if FinC a ∧ FinC b then max 0 (drf a b) else 0) = 0 := by
      by_cases hf : FinC a ∧ FinC b
      · rw [if_pos hf, Int.max_eq_left (by
          have : ¬0 < drf a b := fun h' => h ⟨hf.1, hf.2, h'⟩
          omega)]
      · rw [if_neg hf]
    rw [h0] at he ⊢
    have h1 := (rest_still ha hb h).mul (com a b)
    rw [Nat.mul_one, Int.mul_zero] at h1
    intro t ht
    by_cases h2 : frm a b + com a b ≤ t
    · exact h1 t h2
    · have m1 := (rmx_mono (dif a b)).le (show 400 ≤ t by omega)
      have m2 := (rmx_mono (dif a b)).le (show t ≤ 400 + com a b by omega)
      have m3 := (rmx_mono (dif a b)).le (show t ≤ t + com a b by omega)
      have m4 := (rest_still ha hb h).mul (t + com a b - (frm a b + com a b)) (frm a b + com a b) (by omega)
      have m5 := (rmx_mono (dif a b)).le (show frm a b + com a b ≤ 400 + com a b by omega)
      rw [Nat.mul_one, Int.mul_zero, show frm a b + com a b + (t + com a b - (frm a b + com a b)) = t + com a b by omega] at m4
      omega
theorem rest_inf_late {a b : C3} (ha : VC a) (hb : VC b) (h : rmx (dif a b) (400 + com a b) = INF) (hc : com a b ≤ 120) : rmx (dif a b) 399 = INF := by
  rcases rmx_at (dif a b) (400 + com a b) with h1 | ⟨s, h1, h2⟩
  · rw [h] at h1; simp [INF] at h1
  · have h3 := (dif_inf ha hb (by omega)).1 (h2.symm.trans h)
    have hfa : ¬FinC a := fun hf => hf.not ha s h3.1
    have hle := (rmx_dif_le ha hb (t := 399) (by omega)).2
    have key : ∃ u, u ≤ 399 ∧ dif a b u = INF := by
      by_cases h4 : s ≤ 399
      · exact ⟨s, h4, by rw [← h2]; exact h⟩
      · refine ⟨399, by omega, (dif_inf ha hb (by omega)).2 ⟨inf_late hfa (by have := ha.n2; omega), fun h5 => h3.2 (hb.infAt_mono (by omega) h5)⟩⟩
    obtain ⟨u, h4, h5⟩ := key
    have := rmx_ge (dif a b) h4
    omega

/-! ### the least difference -/
def amn (a b : C3) (t : Nat) : Int := max 0 (wmn (dif a b) (frm a b + com a b) t)
theorem down {a b : C3} (ha : VC a) (hb : VC b) (fb : FinC b) (hd : FinC a → 0 ≤ drf a b) {t u : Nat} (ht : t ≤ u) : ∃ r, t ≤ r ∧ r < max t (frm a b) + com a b ∧ dif a b r ≤ dif a b u := by
  by_cases fa : FinC a
  · exact per_down (com_pos ha hb) (dif_per ha hb fa fb) (hd fa) ht
  · have hl := com_pos ha hb
    by_cases hu : u < max t (frm a b) + com a b
    · exact ⟨u, ht, hu, Int.le_refl _⟩
    · refine ⟨t, Nat.le_refl _, by omega, ?_⟩
      rw [dif_late ha hb (fun h => fa h.1) (show frm a b ≤ u by omega), if_pos fb]
      exact dif_le_all ha hb fa t
theorem wmn_any {a b : C3} (ha : VC a) (hb : VC b) (fb : FinC b) (hd : FinC a → 0 ≤ drf a b) {t n : Nat} (hn : max t (frm a b) + com a b ≤ t + n + 1) : wmn (dif a b) n t = wmn (dif a b) (frm a b + com a b) t := by
  apply wmn_eq
  · intro s h1 h2
    obtain ⟨r, h3, h4, h5⟩ := down ha hb fb hd h1
    exact ⟨r, h3, by omega, h5⟩
  · intro s h1 h2
    obtain ⟨r, h3, h4, h5⟩ := down ha hb fb hd h1
    exact ⟨r, h3, by omega, h5⟩
theorem wmn_ge {d : Nat → Int} {n t : Nat} {m : Int} (h : ∀ u, t ≤ u → u ≤ t + n → m ≤ d u) : m ≤ wmn d n t := by
  obtain ⟨s, h1, h2, h3⟩ := wmn_at d n t
  rw [h3]; exact h s h1 h2
theorem amn_mono {a b : C3} (ha : VC a) (hb : VC b) (fb : FinC b) (hd : FinC a → 0 ≤ drf a b) : Mono (amn a b) := by
  intro t
  unfold amn
  have : wmn (dif a b) (frm a b + com a b) t ≤ wmn (dif a b) (frm a b + com a b) (t + 1) := by
    apply wmn_ge
    intro u h1 h2
    obtain ⟨r, h3, h4, h5⟩ := down ha hb fb hd (show t ≤ u by omega)
    have := wmn_le (d := dif a b) (n := frm a b + com a b) h3 (by omega)
    omega
  omega
theorem wmn_shift {d : Nat → Int} {l : Nat} {q : Int} : ∀ {n t : Nat}, (∀ u, t ≤ u → u ≤ t + n → d (u + l) = d u + q) → wmn d n (t + l) = wmn d n t + q
  | 0, t, h => h t (Nat.le_refl _) (by omega)
  | n + 1, t, h => by
    simp only [wmn]
    have h1 := h t (Nat.le_refl _) (by omega)
    have h2 := wmn_shift (d := d) (l := l) (q := q) (n := n) (t := t + 1) (fun u h3 h4 => h u (by omega) (by omega))
    rw [show t + 1 + l = t + l + 1 by omega] at h2
    rw [h1, h2]; omega
theorem amn_per {a b : C3} (ha : VC a) (hb : VC b) (fa : FinC a) (fb : FinC b) {s : Nat} (hs : frm a b ≤ s) (h0 : ∀ u, s ≤ u → 0 ≤ dif a b u) : Per (amn a b) s (com a b) (drf a b) := by
  intro t ht
  have h1 := wmn_shift (d := dif a b) (l := com a b) (q := drf a b) (n := frm a b + com a b) (t := t) (fun u h3 _ => dif_per ha hb fa fb u (by omega))
  have h2 : 0 ≤ wmn (dif a b) (frm a b + com a b) t := wmn_ge (fun u h3 _ => h0 u (by omega))
  have h3 : 0 ≤ wmn (dif a b) (frm a b + com a b) (t + com a b) := wmn_ge (fun u h3 _ => h0 u (by omega))
  unfold amn; omega
theorem amn_still {a b : C3} (ha : VC a) (hb : VC b) (fb : FinC b) (h : FinC a → drf a b = 0) : Per (amn a b) (frm a b) 1 0 := by
  intro t ht
  have hl := com_pos ha hb
  have : wmn (dif a b) (frm a b + com a b) t = wmn (dif a b) (frm a b + com a b) (t + 1) := by
    by_cases fa : FinC a
    · have hp := dif_per ha hb fa fb
      rw [h fa] at hp
      apply wmn_eq
      · intro s h1 h2
        by_cases e : s = t
        · subst e
          exact ⟨s + com a b, by omega, by omega, by rw [hp s ht]; omega⟩
        · exact ⟨s, by omega, by omega, Int.le_refl _⟩
      · intro s h1 h2
        by_cases e : s ≤ t + (frm a b + com a b)
        · exact ⟨s, by omega, e, Int.le_refl _⟩
        · have := hp (s - com a b) (by omega)
          rw [show s - com a b + com a b = s by omega] at this
          exact ⟨s - com a b, by omega, by omega, by omega⟩
    · apply wmn_eq
      · intro s h1 h2
        refine ⟨t + 1, by omega, by omega, ?_⟩
        rw [dif_late ha hb (fun h => fa h.1) (show frm a b ≤ t + 1 by omega), dif_late ha hb (fun h => fa h.1) (show frm a b ≤ s by omega)]; exact Int.le_refl _
      · intro s h1 h2
        refine ⟨t, by omega, by omega, ?_⟩
        rw [dif_late ha hb (fun h => fa h.1) (show frm a b ≤ t by omega), dif_late ha hb (fun h => fa h.1) (show frm a b ≤ s by omega)]; exact Int.le_refl _
  unfold amn; rw [this]; omega
/- what grows is not negative at last -/
theorem dif_up {a b : C3} (ha : VC a) (hb : VC b) (fa : FinC a) (fb : FinC b) (hd : 0 < drf a b) : ∃ s, frm a b ≤ s ∧ ∀ u, s ≤ u → 0 ≤ dif a b u := by
  have hl := com_pos ha hb
  have hp := dif_per ha hb fa fb
  refine ⟨frm a b + (-(wmn (dif a b) (com a b) (frm a b))).toNat * com a b, by omega, fun u hu => ?_⟩
  have h1 := Nat.div_add_mod (u - frm a b) (com a b)
  have h2 := Nat.mod_lt (u - frm a b) hl
  have h3 := hp.mul ((u - frm a b) / com a b) (frm a b + (u - frm a b) % com a b) (by omega)
  rw [show frm a b + (u - frm a b) % com a b + (u - frm a b) / com a b * com a b = u by rw [Nat.mul_comm]; omega] at h3
  have h4 := wmn_le (d := dif a b) (n := com a b) (t := frm a b) (s := frm a b + (u - frm a b) % com a b) (by omega) (by omega)
  have h5 : (-(wmn (dif a b) (com a b) (frm a b))).toNat ≤ (u - frm a b) / com a b := by
    rw [Nat.le_div_iff_mul_le hl]; omega
  have h6 : ((u - frm a b) / com a b : Nat) * (1 : Int) ≤ ((u - frm a b) / com a b : Nat) * drf a b := Int.mul_le_mul_of_nonneg_left (by omega) (Int.natCast_nonneg _)
  omega
theorem above_err {a b : C3} (ha : VC a) (hb : VC b) (fa : FinC a) (fb : FinC b) (hd : 0 < drf a b) (h : ∃ u, 400 ≤ u ∧ dif a b u < 0) : ∀ (vs : List Int) (p : Nat) (q : Int), NF (amn a b) vs p q → ¬VF vs p q := by
  intro vs p q hnf hvf
  have hl := com_pos ha hb
  obtain ⟨s, hs, h0⟩ := dif_up ha hb fa fb hd
  obtain ⟨s0, h1, h2, h3, h4, k, h5, h6⟩ := nf_per hl hnf hvf (amn_per ha hb fa fb hs h0)
  obtain ⟨u, hu1, hu2⟩ := h
  have zero : ∀ t, t ≤ 400 → amn a b t = 0 := by
    intro t ht
    obtain ⟨r, h7, h8, h9⟩ := down ha hb fb (fun _ => by omega) (show t ≤ u by omega)
    have := wmn_le (d := dif a b) (n := frm a b + com a b) h7 (by omega)
    unfold amn; omega
  have h7 := h2 (400 - p) (by omega)
  rw [show 400 - p + p = 400 by omega, zero 400 (by omega), zero (400 - p) (by omega)] at h7
  have : q = 0 := by omega
  subst this
  omega
theorem amn_bd {a b : C3} (ha : VC a) (hb : VC b) {t : Nat} (ht : t ≤ 1048576) : 0 ≤ amn a b t ∧ amn a b t ≤ INF := by
  have h1 := dif_le ha hb ht
  have h2 := wmn_le (d := dif a b) (n := frm a b + com a b) (Nat.le_refl t) (by omega)
  unfold amn
  simp only [INF] at *
  omega
theorem amn_inf {a b : C3} (ha : VC a) (hb : VC b) (fb : FinC b) {m : Nat} (hm : m ≤ 1048576) (h : amn a b m = INF) : ∀ t, m ≤ t → amn a b t = INF := by
  intro t ht
  have h1 := wmn_le (d := dif a b) (n := frm a b + com a b) (Nat.le_refl m) (by omega)
  have h2 := dif_le ha hb hm
  have h3 : dif a b m = INF := by unfold amn at h; simp only [INF] at *; omega
  have h4 := ((dif_inf ha hb hm).1 h3).1
  have hall : ∀ u, m ≤ u → dif a b u = INF := by
    intro u hu
    unfold dif
    rw [if_neg (fb.not hb u), if_pos (ha.infAt_mono hu h4)]
  have h5 : wmn (dif a b) (frm a b + com a b) t = INF := by
    obtain ⟨s, g1, g2, g3⟩ := wmn_at (dif a b) (frm a b + com a b) t
    rw [g3]; exact hall s (by omega)
  unfold amn; rw [h5]; simp only [INF]; omega
end Go.Cv
