/-
  A text of the proofs of this seat: lemmas that the statements' proofs use; it states nothing of the program by itself beyond the contracts that its theorems bear. Conditions: those that stand in each theorem. Its short name: Am.
-/
import Derived.Test.YtppdpfaipkjpmaaRm
set_option linter.unusedVariables false
set_option linter.unusedSimpArgs false
namespace Go.Cv
/-! plain laws of comparing and adding curves -/
def abv (f g : C3) (t : Nat) : Int := if infAt g.1 t then 0 else if infAt f.1 t then 1 else cv f t - cv g t
def grw (f g : C3) : Int := f.2.2 * ((com f g / f.2.1 : Nat) : Int) - g.2.2 * ((com f g / g.2.1 : Nat) : Int)
def win (f g : C3) : Nat := max f.1.length g.1.length
def AtMostP (f g : C3) : Prop := (∀ t < win f g + com f g, abv f g t ≤ 0) ∧ ¬(FinC f ∧ FinC g ∧ 0 < grw f g)
theorem grw_drf (f g : C3) : grw f g = drf f g := rfl
theorem atMost_of {f g : C3} (hf : VC f) (hg : VC g) (hc : com f g ≤ 1000000) (h : ∀ t, cv f t ≤ cv g t) : AtMostP f g := by
  refine ⟨fun t ht => ?_, fun ⟨ff, fg, hd⟩ => ?_⟩
  · have h1 := hf.n2
    have h2 := hg.n2
    have ht2 : t ≤ 1048576 := by unfold win at ht; omega
    unfold abv
    by_cases hi : infAt g.1 t
    · rw [if_pos hi]; exact Int.le_refl _
    · rw [if_neg hi]
      have h3 := cv_small hg ht2 hi
      have h4 := h t
      by_cases hj : infAt f.1 t
      · exfalso
        have h5 : cv f t = INF := (hf.inf_iff ht2).2 hj
        rw [h5] at h4
        simp only [INF] at h4; omega
      · rw [if_neg hj]; omega
  · obtain ⟨s, hs, h0⟩ := dif_up hf hg ff fg hd
    have hp := dif_per hf hg ff fg s hs
    have h1 := h0 s (Nat.le_refl _)
    have h2 := h (s + com f g)
    rw [dif_fin hf hg ff fg, dif_fin hf hg ff fg] at hp
    rw [dif_fin hf hg ff fg] at h1
    rw [grw_drf] at hd
    omega
theorem atMost_le {f g : C3} (hf : VC f) (hg : VC g) (h : AtMostP f g) {t : Nat} (hi : ¬infAt g.1 t) : ¬infAt f.1 t ∧ cv f t ≤ cv g t := by
  obtain ⟨h1, h2⟩ := h
  have hl := com_pos hf hg
  have n1 := hf.n1
  have n2 := hg.n1
  have key : ∀ t, ¬infAt g.1 t → abv f g t ≤ 0 := by
    intro t
    induction t using Nat.strongRecOn with
    | _ t ih =>
      intro hi
      by_cases hlt : t < win f g + com f g
      · exact h1 t hlt
      · have hw : win f g ≤ t - com f g := by omega
        have hi2 : ¬infAt g.1 (t - com f g) := fun h => hi (hg.infAt_mono (by omega) h)
        have h3 := ih (t - com f g) (by omega) hi2
        unfold abv at h3 ⊢
        rw [if_neg hi2] at h3
        rw [if_neg hi]
        have fg : FinC g := by
          apply Classical.byContradiction
          intro hn
          exact hi (inf_late hn (by unfold win at hw; omega))
        by_cases hj : infAt f.1 (t - com f g)
        · rw [if_pos hj] at h3; omega
        · rw [if_neg hj] at h3
          have ff : FinC f := by
            apply Classical.byContradiction
            intro hn
            exact hj (inf_late hn (by unfold win at hw; omega))
          have hd : ¬0 < grw f g := fun h => h2 ⟨ff, fg, h⟩
          rw [grw_drf] at hd
          rw [if_neg (ff.not hf t)]
          have hfr : frm f g ≤ t - com f g := by unfold frm; unfold win at hw; omega
          have hp := dif_per hf hg ff fg (t - com f g) hfr
          rw [show t - com f g + com f g = t by omega, dif_fin hf hg ff fg, dif_fin hf hg ff fg] at hp
          omega
  have h3 := key t hi
  unfold abv at h3
  rw [if_neg hi] at h3
  by_cases hj : infAt f.1 t
  · rw [if_pos hj] at h3; omega
  · rw [if_neg hj] at h3; exact ⟨hj, by omega⟩

/-! ### sums -/
def pls (a b : C3) (t : Nat) : Int := if infAt a.1 t ∨ infAt b.1 t then INF else cv a t + cv b t
theorem pls_nonneg {a b : C3} (ha : VC a) (hb : VC b) (t : Nat) : 0 ≤ pls a b t := by
  have := cv_nonneg ha t
  have := cv_nonneg hb t
  unfold pls; split
  · simp [INF]
  · omega
theorem pls_le {a b : C3} (ha : VC a) (hb : VC b) {t : Nat} (ht : t ≤ 1048576) : pls a b t ≤ INF := by
  unfold pls; split
  · exact Int.le_refl _
  · rename_i h
    have h1 := cv_small ha ht (fun h' => h (.inl h'))
    have h2 := cv_small hb ht (fun h' => h (.inr h'))
    simp only [INF]; omega
theorem pls_inf {a b : C3} (ha : VC a) (hb : VC b) {t : Nat} (ht : t ≤ 1048576) : pls a b t = INF ↔ infAt a.1 t ∨ infAt b.1 t := by
  constructor
  · intro h
    apply Classical.byContradiction
    intro hn
    have h1 := cv_small ha ht (fun h' => hn (.inl h'))
    have h2 := cv_small hb ht (fun h' => hn (.inr h'))
    unfold pls at h
    rw [if_neg hn] at h
    simp only [INF] at h; omega
  · intro h; unfold pls; rw [if_pos h]
theorem pls_inf_late {a b : C3} (ha : VC a) (hb : VC b) {m : Nat} (hm : m ≤ 1048576) (h : pls a b m = INF) : ∀ t, m ≤ t → pls a b t = INF := by
  intro t ht
  have h1 := (pls_inf ha hb hm).1 h
  unfold pls
  rw [if_pos]
  rcases h1 with h1 | h1
  · exact .inl (ha.infAt_mono ht h1)
  · exact .inr (hb.infAt_mono ht h1)
def sgn (a b : C3) : Int := a.2.2 * ((com a b / a.2.1 : Nat) : Int) + b.2.2 * ((com a b / b.2.1 : Nat) : Int)
theorem pls_per {a b : C3} (ha : VC a) (hb : VC b) (h : FinC a ∧ FinC b) : Per (pls a b) (frm a b) (com a b) (sgn a b) := by
  intro t ht
  unfold pls
  rw [if_neg (fun h' => h'.elim (h.1.not ha _) (h.2.not hb _)), if_neg (fun h' => h'.elim (h.1.not ha _) (h.2.not hb _)), cv_com_l ha ht, cv_com_r hb ht]
  unfold sgn; omega
theorem pls_late {a b : C3} (h : ¬(FinC a ∧ FinC b)) {t : Nat} (ht : win a b ≤ t) : pls a b t = INF := by
  unfold pls
  rw [if_pos]
  unfold win at ht
  by_cases fa : FinC a
  · exact .inr (inf_late (fun fb => h ⟨fa, fb⟩) (by omega))
  · exact .inl (inf_late fa (by omega))
theorem VF.cvle {a : C3} (ha : VC a) {s t : Nat} (h : s ≤ t) : cv a s ≤ cv a t := ha.mono'.le h
/- what the reading of a result tells -/
theorem mk_read {F : Nat → Int} {x : List Int × Int × Int × Int} (h : MkP F x) (he : x.2.2.2 = 0) : ∃ c : C3, VC c ∧ NF F c.1 c.2.1 c.2.2 ∧ x = (c.1, (c.2.1 : Int), c.2.2, 0) ∧ ∀ t, cv c t = F t := by
  rcases h with ⟨vs, p, q, h1, h2, rfl⟩ | ⟨_, rfl⟩
  · exact ⟨(vs, p, q), h2, h1, rfl, h2.sound h1⟩
  · simp at he
theorem mk_err {F : Nat → Int} {x : List Int × Int × Int × Int} (h : MkP F x) (he : x.2.2.2 ≠ 0) : x = ([], 0, 0, 3) := by
  rcases h with ⟨vs, p, q, h1, h2, rfl⟩ | ⟨_, rfl⟩
  · exact absurd rfl he
  · rfl
/- a curve that is in normal form is what is made of its function -/
theorem mk_self {F : Nat → Int} {c : C3} (hc : VC c) (hn : NF F c.1 c.2.1 c.2.2) : MkP F (c.1, (c.2.1 : Int), c.2.2, 0) := .inl ⟨_, _, _, hn, hc, rfl⟩
/- there is a normal form -/
theorem nf_exists {F : Nat → Int} {s n : Nat} {Q : Int} (hn : 1 ≤ n) (h : Per F s n Q) : ∃ (vs : List Int) (p : Nat) (q : Int), NF F vs p q ∧ vs.length ≤ s + n ∧ p ≤ n ∧ p ∣ n ∧ ∃ k : Nat, 1 ≤ k ∧ Q = k * q := by
  obtain ⟨p, q, p1, hp, hm⟩ := exists_min hn h
  have hd := hp.dvd p1 hm h
  obtain ⟨k, hk⟩ := hd
  -- the least start
  have key : ∀ m, m ≤ s → Per F m p q → ∃ s0, s0 ≤ m ∧ Per F s0 p q ∧ MinS F s0 p q := by
    intro m
    induction m with
    | zero => intro _ hp; exact ⟨0, by omega, hp, fun s' _ => by omega⟩
    | succ m ih =>
      intro hm hp
      by_cases h0 : Per F m p q
      · obtain ⟨s0, h1, h2, h3⟩ := ih (by omega) h0
        exact ⟨s0, by omega, h2, h3⟩
      · refine ⟨m + 1, by omega, hp, fun s' hs' => ?_⟩
        rcases Nat.lt_or_ge s' (m + 1) with h1 | h1
        · exact absurd (hs'.mono (show s' ≤ m by omega)) h0
        · exact h1
  obtain ⟨s0, h1, h2, h3⟩ := key s (Nat.le_refl _) hp
  have hk1 : 1 ≤ k := by
    rcases Nat.eq_zero_or_pos k with h0 | h0
    · subst h0; omega
    · exact h0
  refine ⟨vals F (s0 + p), p, q, ⟨s0, p1, h2, hm, h3, rfl⟩, ?_, ?_, ⟨k, hk⟩, k, hk1, ?_⟩
  · rw [vals_len]; have : p * 1 ≤ p * k := Nat.mul_le_mul_left _ hk1; omega
  · have : p * 1 ≤ p * k := Nat.mul_le_mul_left _ hk1; omega
  · have h4 := hp.mul k
    rw [show k * p = n by rw [hk, Nat.mul_comm]] at h4
    exact h.uniq h4
/- a monotone function with small values and a period is a curve -/
theorem vf_exists {F : Nat → Int} {s n : Nat} {Q : Int} (hn : 1 ≤ n) (h : Per F s n Q) (h0 : 0 ≤ F 0) (hm : Mono F) (hlen : s + n ≤ 400) (hn2 : n ≤ 120) (hQ : Q ≤ 1073741824) (hb : ∀ t < s + n, F t ≤ 1073741824) :
    ∃ c : C3, NF F c.1 c.2.1 c.2.2 ∧ VC c ∧ c.1.length ≤ s + n ∧ c.2.1 ≤ n ∧ c.2.1 ∣ n := by
  obtain ⟨vs, p, q, hnf, h1, h2, hd, k, hk, h3⟩ := nf_exists hn h
  have hnf' := hnf
  obtain ⟨s0, p1, hper, _, _, rfl⟩ := hnf
  rw [vals_len] at h1
  have hq0 : 0 ≤ q := by have := hper s0 (Nat.le_refl _); have := hm.le (show s0 ≤ s0 + p by omega); omega
  have hq : q ≤ Q := by
    rw [h3]
    have : 1 * q ≤ (k : Int) * q := Int.mul_le_mul_of_nonneg_right (by omega) hq0
    omega
  have hfin : (vals F (s0 + p)).getD ((vals F (s0 + p)).length - 1) 0 ≠ INF := by
    rw [vals_len, vals_get (by omega)]
    have := hb (s0 + p - 1) (by omega)
    simp only [INF]; omega
  have hvf : VF (vals F (s0 + p)) p q := by
    refine ⟨by rw [vals_len]; omega, by rw [vals_len]; omega, p1, by omega, by rw [vals_len]; omega, hq0, by omega, ?_, ?_, fun e => absurd e hfin, ?_⟩
    · intro j hj
      rw [vals_len] at hj
      rw [vals_get hj]
      have := hm.le (Nat.zero_le j)
      exact .inr ⟨by omega, hb j (by omega)⟩
    · intro j k hjk hk
      rw [vals_len] at hk
      rw [vals_get (by omega), vals_get hk]; exact hm.le hjk
    · intro _
      rw [vals_len, vals_get (show s0 + p - p < s0 + p by omega), vals_get (show s0 + p - 1 < s0 + p by omega)]
      have := hper s0 (Nat.le_refl _); have := hm.le (show s0 + p - 1 ≤ s0 + p by omega)
      rw [show s0 + p - p = s0 by omega]
      omega
  exact ⟨(vals F (s0 + p), p, q), hnf', hvf, by rw [vals_len]; omega, h2, hd⟩
end Go.Cv
