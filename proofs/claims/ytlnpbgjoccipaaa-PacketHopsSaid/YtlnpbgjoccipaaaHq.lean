/-
  A text of the proofs of this seat: lemmas that the statements' proofs use; it states nothing of the program by itself beyond the contracts that its theorems bear. Conditions: those that stand in each theorem. Its short name: Hq.
-/
import Derived.Test.YtlnpbgjoccipaaaPl
set_option linter.unusedVariables false
set_option linter.unusedSimpArgs false
namespace Go.Cv
/-! curves that are later, or lower -/
def lat (f : C3) (t : Nat) : Int := if t = 0 then 0 else cv f (t - 1)
def lwr (f : C3) (c : Int) (t : Nat) : Int := if infAt f.1 t then INF else max 0 (cv f t - c)
theorem lat_congr {f a : C3} (h : ∀ t, cv a t = cv f t) : lat a = lat f := by funext t; unfold lat; simp only [h]
theorem lwr_congr {f a : C3} (hf : VC f) (ha : VC a) (h : ∀ t, cv a t = cv f t) (c : Int) : lwr a c = lwr f c := by
  funext t; unfold lwr; simp only [h, infAt_congr hf ha h]
theorem lat_mono {a : C3} (ha : VC a) : Mono (lat a) := by
  intro t
  unfold lat
  rw [if_neg (show ¬t + 1 = 0 by omega), Nat.add_sub_cancel]
  split
  · exact ha.nonneg _
  · rename_i h
    obtain ⟨u, rfl⟩ : ∃ u, t = u + 1 := ⟨t - 1, by omega⟩
    rw [Nat.add_sub_cancel]; exact ha.mono' u
theorem lat_per {a : C3} (ha : VC a) {s : Nat} (h : a.1.length - a.2.1 + 1 ≤ s) : Per (lat a) s a.2.1 a.2.2 := by
  intro t ht
  unfold lat
  rw [if_neg (show ¬t + a.2.1 = 0 by omega), if_neg (show ¬t = 0 by omega), show t + a.2.1 - 1 = t - 1 + a.2.1 by omega]
  exact ha.per (t - 1) (by omega)
theorem lwr_per {a : C3} (ha : VC a) (fa : FinC a) {c : Int} {s : Nat} (h1 : a.1.length - a.2.1 ≤ s) (h2 : a.2.2 = 0 ∨ c ≤ cv a s) : Per (lwr a c) s a.2.1 a.2.2 := by
  intro t ht
  have hp : cv a (t + a.2.1) = cv a t + a.2.2 := ha.per t (by omega)
  have hle := ha.cvle (s := s) (t := t) ht
  unfold lwr
  rw [if_neg (fa.not ha _), if_neg (fa.not ha _), hp]
  have := ha.q0
  omega
theorem per_pos {F : Nat → Int} {s p s' p' : Nat} {q q' : Int} (h1 : Per F s p q) (h2 : Per F s' p' q') (p1 : 1 ≤ p) (p2 : 1 ≤ p') (q1 : 0 ≤ q) (q2 : 0 ≤ q') : 0 < q ↔ 0 < q' := by
  have h3 := h1.mul p'
  have h4 := h2.mul p
  rw [Nat.mul_comm] at h4
  have h5 := h3.uniq h4
  constructor
  · intro h
    have : 0 < (p' : Int) * q := Int.mul_pos (by omega) h
    rw [h5] at this
    rcases Int.lt_or_eq_of_le q2 with h | h
    · exact h
    · rw [← h, Int.mul_zero] at this; omega
  · intro h
    have : 0 < (p : Int) * q' := Int.mul_pos (by omega) h
    rw [← h5] at this
    rcases Int.lt_or_eq_of_le q1 with h | h
    · exact h
    · rw [← h, Int.mul_zero] at this; omega
theorem lat_inf {f c : C3} (hf : VC f) (hc : VC c) (h : ∀ t, cv c t = lat f t) (t : Nat) : infAt c.1 t ↔ t ≠ 0 ∧ infAt f.1 (t - 1) := by
  rw [hc.inf_clip, h, infAt_clip (vs := f.1) (n := 999) (by have := hf.n2; omega)]
  unfold lat
  by_cases e : t = 0
  · subst e; simp [INF]
  · rw [if_neg (by omega), show min t 1000 - 1 = min (t - 1) 999 by omega]
    have := hf.inf_iff (t := min (t - 1) 999) (by omega)
    constructor
    · intro h; exact ⟨e, this.1 h⟩
    · rintro ⟨_, h⟩; exact this.2 h
/- lower and later: the hop curve -/
theorem lwr_lat {f c : C3} (hf : VC f) (hc : VC c) (h : ∀ t, cv c t = lat f t) {m : Int} (hm : 1 ≤ m) : lwr c (m - 1) = hpf f m := by
  funext t
  unfold lwr hpf
  simp only [lat_inf hf hc h, h, lat]
  by_cases e : t = 0
  · subst e; simp; omega
  · simp only [e, if_false, ne_eq, not_false_eq_true, true_and]
theorem hop_inf {f c : C3} (hf : VC f) (hc : VC c) {m : Int} (hm : 1 ≤ m) (h : ∀ t, cv c t = hpf f m t) (t : Nat) : infAt c.1 t ↔ t ≠ 0 ∧ infAt f.1 (t - 1) := by
  rw [hc.inf_clip, h, hpf_inf hf hm (by omega), infAt_clip (vs := f.1) (n := 999) (by have := hf.n2; omega), infAt_clip (vs := f.1) (t := t - 1) (n := 999) (by have := hf.n2; omega)]
  by_cases e : t = 0
  · subst e; simp
  · rw [show min (min t 1000 - 1) 999 = min (t - 1) 999 by omega]
    constructor
    · rintro ⟨_, h⟩; exact ⟨e, h⟩
    · rintro ⟨_, h⟩; exact ⟨by omega, h⟩
/- hop curves are greater for greater curves and lesser packets -/
theorem hop_leq {f g c d : C3} (hf : VC f) (hg : VC g) (hc : VC c) (hd : VC d) {m n : Int} (hm : 1 ≤ m) (hn : 1 ≤ n) (e1 : ∀ t, cv c t = hpf f m t) (e2 : ∀ t, cv d t = hpf g n t) (h : Leq f g) (hmn : n ≤ m) : Leq c d := by
  refine Leq.mk fun t ht => ?_
  have h1 : ¬infAt c.1 t := fun hx => ht ((hop_inf hg hd hn e2 t).2 (by
    obtain ⟨h2, h3⟩ := (hop_inf hf hc hm e1 t).1 hx
    exact ⟨h2, h.inf h3⟩))
  refine ⟨h1, ?_⟩
  rw [e1, e2]
  unfold hpf
  by_cases e : t = 0
  · rw [if_pos e, if_pos e]; exact Int.le_refl _
  · have h4 : ¬infAt g.1 (t - 1) := fun hx => ht ((hop_inf hg hd hn e2 t).2 ⟨e, hx⟩)
    have h5 : ¬infAt f.1 (t - 1) := fun hx => h4 (h.inf hx)
    rw [if_neg e, if_neg e, if_neg h4, if_neg h5]
    have := h.le h4
    omega
end Go.Cv
namespace Go.Cv
theorem lat_late {a : C3} (ha : VC a) {m : Nat} (hm : m ≤ 1048576) (h : lat a m = INF) : ∀ t, m ≤ t → lat a t = INF := by
  intro t ht
  unfold lat at h ⊢
  by_cases e : m = 0
  · rw [if_pos e] at h; cases h
  · rw [if_neg e] at h
    have h1 := (ha.inf_iff (t := m - 1) (by omega)).1 h
    have hf : ¬FinC a := fun hf => hf.not ha _ h1
    rw [if_neg (by omega)]
    exact (inf_late_cv ha hf).1 (ha.infAt_mono (by omega) h1)
theorem lat_end {a : C3} (ha : VC a) (hf : ¬FinC a) : lat a a.1.length = INF := by
  have := ha.n1
  unfold lat
  rw [if_neg (by omega)]
  exact (inf_late_cv ha hf).1 (inf_late hf (Nat.le_refl _))
theorem lat_val {a : C3} (ha : VC a) {t : Nat} (ht : t < a.1.length + 1) : lat a t = INF ∨ (0 ≤ lat a t ∧ lat a t ≤ 1073741824) := by
  unfold lat
  split
  · exact .inr (by decide)
  · unfold cv; rw [val_lt (by omega)]; exact ha.v _ (by omega)
theorem exists_least {P : Nat → Prop} {n : Nat} (h : P n) : ∃ m, m ≤ n ∧ P m ∧ ∀ t, t < m → ¬P t := by
  induction n using Nat.strongRecOn with
  | _ n ih =>
    by_cases hx : ∃ t, t < n ∧ P t
    · obtain ⟨t, h1, h2⟩ := hx
      obtain ⟨m, h3, h4⟩ := ih t h1 h2
      exact ⟨m, by omega, h4⟩
    · exact ⟨n, Nat.le_refl _, h, fun t ht hp => hx ⟨t, ht, hp⟩⟩
theorem lat_fits {a : C3} (ha : VC a) (hl : a.1.length ≤ 300) {x : List Int × Int × Int × Int} (h : MkP (lat a) x) : x.2.2.2 = 0 := by
  rcases h with ⟨_, _, _, _, _, rfl⟩ | ⟨hno, rfl⟩
  · rfl
  exfalso
  by_cases fa : FinC a
  · obtain ⟨c, h1, h2, _⟩ := vf_exists (F := lat a) (s := a.1.length - a.2.1 + 1) (n := a.2.1) (Q := a.2.2) ha.p1 (lat_per ha (Nat.le_refl _)) (by unfold lat; rw [if_pos rfl]; decide) (lat_mono ha) (by have := ha.pn; omega) ha.p2 ha.q1 (fun t ht => by
      have h1 := ha.pn
      rcases lat_val ha (t := t) (by omega) with h2 | h2
      · exfalso
        unfold lat at h2
        split at h2
        · cases h2
        · exact fa.not ha _ ((ha.inf_iff (t := t - 1) (by have := ha.n2; omega)).1 h2)
      · exact h2.2)
    exact hno _ _ _ h1 h2
  · obtain ⟨m, hle, hm, hlt⟩ := exists_least (P := fun m => lat a m = INF) (lat_end ha fa)
    have hn := NF.inf (F := lat a) (m := m) (lat_late ha (by omega) hm) hlt
    refine hno _ _ _ hn ⟨by rw [vals_len]; omega, by rw [vals_len]; omega, by decide, by decide, by rw [vals_len]; omega, by decide, by decide, fun j hj => ?_, fun j k hjk hk => ?_, fun _ => ⟨rfl, rfl⟩, fun hx => ?_⟩
    · rw [vals_len] at hj; rw [vals_get hj]; exact lat_val ha (by omega)
    · rw [vals_len] at hk; rw [vals_get (by omega), vals_get hk]; exact (lat_mono ha).le hjk
    · exfalso; apply hx; rw [vals_len, vals_get (by omega)]; exact hm
theorem lat_nf_pos {f c : C3} (hf : VC f) (hc : VC c) (h : ∀ t, cv c t = lat f t) : 0 < c.2.2 ↔ 0 < f.2.2 := by
  have e : val c.1 c.2.1 c.2.2 = lat f := funext h
  have h1 := hc.per
  rw [e] at h1
  exact per_pos h1 (lat_per hf (Nat.le_refl _)) hc.p1 hf.p1 hc.q0 hf.q0
theorem lwr_bd {a : C3} (ha : VC a) {c : Int} (hc : 0 ≤ c) {t : Nat} (ht : t ≤ 1048576) : 0 ≤ lwr a c t ∧ lwr a c t ≤ INF := by
  unfold lwr
  split
  · decide
  · have := cv_small ha ht (by assumption)
    simp only [INF]; omega
theorem lwr_late {a : C3} (ha : VC a) {c : Int} (hc : 0 ≤ c) {m : Nat} (hm : m ≤ 1048576) (h : lwr a c m = INF) : ∀ t, m ≤ t → lwr a c t = INF := by
  intro t ht
  have hi : infAt a.1 m := Classical.byContradiction fun hx => by
    unfold lwr at h
    rw [if_neg hx] at h
    have := cv_small ha hm hx
    simp only [INF] at h; omega
  unfold lwr; rw [if_pos (ha.infAt_mono ht hi)]
theorem lwr_end {a : C3} (ha : VC a) (hf : ¬FinC a) {c : Int} : lwr a c a.1.length = INF := by
  unfold lwr; rw [if_pos (inf_late hf (by omega))]
/- what Lower returns -/
def LwrR (f : C3) (c : Int) (x : List Int × Int × Int × Int) : Prop := ((0 < f.2.2 ∧ cv f 400 < c) ∧ x = ([], 0, 0, 3)) ∨ (¬(0 < f.2.2 ∧ cv f 400 < c) ∧ MkP (lwr f c) x)
theorem HopR.uniq {f : C3} {m : Int} {x y} (h : HopR f m x) (h' : HopR f m y) : x = y := by
  rcases h with ⟨h1, rfl⟩ | ⟨h1, h2⟩ <;> rcases h' with ⟨h3, rfl⟩ | ⟨h3, h4⟩
  · rfl
  · exact absurd h1 h3
  · exact absurd h3 h1
  · exact h2.uniq h4
theorem LwrR.hop {f c : C3} (hf : VC f) (hc : VC c) (h : ∀ t, cv c t = lat f t) {m : Int} (hm : 1 ≤ m) {x} (hx : LwrR c (m - 1) x) : HopR f m x := by
  have e1 := lat_nf_pos hf hc h
  have e2 : cv c 400 = cv f 399 := by rw [h]; rfl
  rw [LwrR, e1, e2, lwr_lat hf hc h hm] at hx
  exact hx
end Go.Cv
