/-
  A text of the proofs of this seat: lemmas that the statements' proofs use; it states nothing of the program by itself beyond the contracts that its theorems bear. Conditions: those that stand in each theorem. Its short name: Mt.
-/
import Derived.Test.YtppdpfaipkjpmaaBt
set_option linter.unusedVariables false
set_option linter.unusedSimpArgs false
namespace Go.Cv
/-! curves as functions to the integers with an infinite value above all -/
def Ge (m : Int) (c : C3) (t : Nat) : Prop := infAt c.1 t ∨ m ≤ cv c t
/- m is at most the greater one of 0 and the difference -/
def GeD (m : Int) (a b : C3) (s : Nat) : Prop := m ≤ 0 ∨ (¬infAt b.1 s ∧ (infAt a.1 s ∨ m ≤ cv a s - cv b s))
def Leq (f g : C3) : Prop := ∀ m t, Ge m f t → Ge m g t
theorem Leq.refl (f : C3) : Leq f f := fun _ _ h => h
theorem Leq.inf {f g : C3} (h : Leq f g) {t : Nat} (hi : infAt f.1 t) : infAt g.1 t := by
  rcases h (cv g t + 1) t (.inl hi) with h1 | h1
  · exact h1
  · omega
theorem Leq.le {f g : C3} (h : Leq f g) {t : Nat} (hi : ¬infAt g.1 t) : cv f t ≤ cv g t := by
  rcases h (cv f t) t (.inr (Int.le_refl _)) with h1 | h1
  · exact absurd h1 hi
  · exact h1
theorem Leq.mk {f g : C3} (h : ∀ t, ¬infAt g.1 t → ¬infAt f.1 t ∧ cv f t ≤ cv g t) : Leq f g := by
  intro m t hm
  by_cases hi : infAt g.1 t
  · exact .inl hi
  · obtain ⟨h1, h2⟩ := h t hi
    rcases hm with h3 | h3
    · exact absurd h3 h1
    · exact .inr (by omega)
theorem atMost_iff {f g : C3} (hf : VC f) (hg : VC g) (hc : com f g ≤ 1000000) : AtMostP f g ↔ Leq f g := by
  constructor
  · intro h
    exact Leq.mk (fun t hi => atMost_le hf hg h hi)
  · intro h
    refine ⟨fun t ht => ?_, fun ⟨ff, fg, hd⟩ => ?_⟩
    · unfold abv
      by_cases hi : infAt g.1 t
      · rw [if_pos hi]; exact Int.le_refl _
      · rw [if_neg hi, if_neg (fun hj => hi (h.inf hj))]
        have := h.le hi; omega
    · obtain ⟨s, hs, h0⟩ := dif_up hf hg ff fg hd
      have hp := dif_per hf hg ff fg s hs
      have h1 := h0 s (Nat.le_refl _)
      have h2 := h.le (t := s + com f g) (fg.not hg _)
      rw [dif_fin hf hg ff fg, dif_fin hf hg ff fg] at hp
      rw [dif_fin hf hg ff fg] at h1
      rw [grw_drf] at hd
      omega
theorem infAt_clip {vs : List Int} {t n : Nat} (hn : vs.length ≤ n) : infAt vs t ↔ infAt vs (min t n) := by
  unfold infAt
  rw [show min (min t n) (vs.length - 1) = min t (vs.length - 1) by omega]
theorem VF.clip {c : C3} (h : VC c) (t : Nat) : infAt c.1 t ↔ infAt c.1 (min t 1000) := infAt_clip (by have := h.n2; omega)
/- the infinite ticks are those where the value is it, early -/
theorem VF.inf_clip {c : C3} (h : VC c) (t : Nat) : infAt c.1 t ↔ cv c (min t 1000) = INF := by
  rw [VF.clip h]; exact (h.inf_iff (by omega)).symm
theorem GeD.mono {m : Int} {a b a' b' : C3} (h1 : Leq a a') (h2 : Leq b' b) {s : Nat} (h : GeD m a b s) : GeD m a' b' s := by
  rcases h with h | ⟨h3, h4⟩
  · exact .inl h
  · have h5 : ¬infAt b'.1 s := fun h => h3 (h2.inf h)
    have h6 := h2.le h3
    refine .inr ⟨h5, ?_⟩
    by_cases hi : infAt a'.1 s
    · exact .inl hi
    · have h7 := h1.le hi
      rcases h4 with h4 | h4
      · exact absurd (h1.inf h4) hi
      · exact .inr (by omega)
theorem rest_infAt {a b c : C3} (ha : VC a) (hb : VC b) (hc : VC c) (h : ∀ t, cv c t = rmx (dif a b) t) (t : Nat) : infAt c.1 t ↔ ∃ s, s ≤ t ∧ infAt a.1 s ∧ ¬infAt b.1 s := by
  rw [VF.inf_clip hc, h]
  constructor
  · intro he
    rcases rmx_at (dif a b) (min t 1000) with h1 | ⟨s, h1, h2⟩
    · rw [h1] at he; simp only [INF] at he; omega
    · rw [h2] at he
      exact ⟨s, by omega, (dif_inf ha hb (by omega)).1 he⟩
  · rintro ⟨s, hs, h1, h2⟩
    have h3 : dif a b (min s 1000) = INF := (dif_inf ha hb (by omega)).2 ⟨(VF.clip ha s).1 h1, fun h => h2 ((VF.clip hb s).2 h)⟩
    have h4 := rmx_ge (dif a b) (show min s 1000 ≤ min t 1000 by omega)
    have h5 := (rmx_dif_le ha hb (t := min t 1000) (by omega)).2
    omega
theorem rest_ge {a b c : C3} (ha : VC a) (hb : VC b) (hc : VC c) (h : ∀ t, cv c t = rmx (dif a b) t) (m : Int) (t : Nat) : Ge m c t ↔ ∃ s, s ≤ t ∧ GeD m a b s := by
  constructor
  · rintro (hi | hm)
    · obtain ⟨s, h1, h2, h3⟩ := (rest_infAt ha hb hc h t).1 hi
      exact ⟨s, h1, .inr ⟨h3, .inl h2⟩⟩
    · rw [h] at hm
      rcases rmx_at (dif a b) t with h1 | ⟨s, h1, h2⟩
      · exact ⟨t, Nat.le_refl _, .inl (by omega)⟩
      · refine ⟨s, h1, ?_⟩
        rw [h2] at hm
        unfold dif at hm
        by_cases hbi : infAt b.1 s
        · rw [if_pos hbi] at hm; exact .inl hm
        · rw [if_neg hbi] at hm
          by_cases hai : infAt a.1 s
          · exact .inr ⟨hbi, .inl hai⟩
          · rw [if_neg hai] at hm; exact .inr ⟨hbi, .inr hm⟩
  · rintro ⟨s, hs, h1 | ⟨h1, h2⟩⟩
    · have := cv_nonneg hc t; exact .inr (by omega)
    · by_cases hai : infAt a.1 s
      · exact .inl ((rest_infAt ha hb hc h t).2 ⟨s, hs, hai, h1⟩)
      · rcases h2 with h2 | h2
        · exact absurd h2 hai
        · have h3 := rmx_ge (dif a b) hs
          rw [← h] at h3
          unfold dif at h3
          rw [if_neg h1, if_neg hai] at h3
          exact .inr (by omega)
theorem rest_leq {a b c a' b' c' : C3} (ha : VC a) (hb : VC b) (hc : VC c) (h : ∀ t, cv c t = rmx (dif a b) t) (ha' : VC a') (hb' : VC b') (hc' : VC c') (h' : ∀ t, cv c' t = rmx (dif a' b') t)
    (h1 : Leq a a') (h2 : Leq b' b) : Leq c c' := by
  intro m t hm
  obtain ⟨s, h3, h4⟩ := (rest_ge ha hb hc h m t).1 hm
  exact (rest_ge ha' hb' hc' h' m t).2 ⟨s, h3, h4.mono h1 h2⟩
/- what Above computes -/
def AbvF (a b : C3) (F : Nat → Int) : Prop := (¬(FinC b ∧ (FinC a → 0 ≤ drf a b)) ∧ F = fun _ => 0) ∨ ((FinC b ∧ (FinC a → 0 ≤ drf a b)) ∧ F = amn a b)
theorem amn_infAt {a b c : C3} (ha : VC a) (hb : VC b) (hc : VC c) (fb : FinC b) (hd : FinC a → 0 ≤ drf a b) (h : ∀ t, cv c t = amn a b t) (t : Nat) : infAt c.1 t ↔ infAt a.1 t := by
  rw [VF.inf_clip hc, h, VF.clip ha]
  constructor
  · intro he
    have h1 := amn_le_dif ha hb fb hd (Nat.le_refl (min t 1000))
    have h2 := dif_le ha hb (t := min t 1000) (by omega)
    exact ((dif_inf ha hb (by omega)).1 (by simp only [INF] at *; omega)).1
  · intro hi
    have h1 : INF ≤ amn a b (min t 1000) := amn_ge (.inr trivial) (fun s hs => by
      unfold dif
      rw [if_neg (fb.not hb s), if_pos (ha.infAt_mono hs hi)]
      simp only [INF]; omega)
    have h2 := (amn_bd ha hb (t := min t 1000) (by omega)).2
    omega
theorem drf_swap {a b : C3} : drf b a = -drf a b := by
  have : com b a = com a b := Nat.lcm_comm _ _
  unfold drf
  rw [this]; omega
theorem above_ge {a b c : C3} (ha : VC a) (hb : VC b) (hc : VC c) {F : Nat → Int} (hF : AbvF a b F) (h : ∀ t, cv c t = F t) (m : Int) (t : Nat) : Ge m c t ↔ ∀ s, t ≤ s → GeD m a b s := by
  rcases hF with ⟨hn, rfl⟩ | ⟨⟨fb, hd⟩, rfl⟩
  · have hni : ¬infAt c.1 t := by
      rw [VF.inf_clip hc, h]; simp only [INF]; omega
    constructor
    · rintro (h1 | h1)
      · exact absurd h1 hni
      · rw [h] at h1; exact fun s _ => .inl h1
    · intro hall
      refine .inr ?_
      rw [h]
      show m ≤ 0
      by_cases fb : FinC b
      · have fa : FinC a := Classical.byContradiction (fun hx => hn ⟨fb, fun hh => absurd hh hx⟩)
        have hneg : ¬0 ≤ drf a b := fun hx => hn ⟨fb, fun _ => hx⟩
        obtain ⟨u, _, hu⟩ := dif_up hb ha fb fa (by rw [drf_swap]; omega)
        have h2 := hu (max u t) (by omega)
        rw [dif_fin hb ha fb fa] at h2
        rcases hall (max u t) (by omega) with h3 | ⟨_, h3 | h3⟩
        · exact h3
        · exact absurd h3 (fa.not ha _)
        · omega
      · rcases hall (max t b.1.length) (by omega) with h3 | ⟨h3, _⟩
        · exact h3
        · exact absurd (inf_late fb (by omega)) h3
  · have hia := amn_infAt ha hb hc fb hd h t
    constructor
    · rintro (h1 | h1)
      · intro s hs
        exact .inr ⟨fb.not hb s, .inl (ha.infAt_mono hs (hia.1 h1))⟩
      · intro s hs
        rw [h] at h1
        have h2 := amn_le_dif ha hb fb hd hs
        by_cases h0 : m ≤ 0
        · exact .inl h0
        · refine .inr ⟨fb.not hb s, ?_⟩
          by_cases hai : infAt a.1 s
          · exact .inl hai
          · unfold dif at h2
            rw [if_neg (fb.not hb s), if_neg hai] at h2
            exact .inr (by omega)
    · intro hall
      by_cases hai : infAt a.1 t
      · exact .inl (hia.2 hai)
      · refine .inr ?_
        rw [h]
        refine amn_ge (.inr trivial) (fun s hs => ?_)
        rcases hall s hs with h3 | ⟨_, h3⟩
        · omega
        · unfold dif
          rw [if_neg (fb.not hb s)]
          by_cases has : infAt a.1 s
          · rw [if_pos has]
            have hfa : ¬FinC a := fun hx => hx.not ha s has
            have hlt : t ≤ 1048576 := by
              apply Classical.byContradiction
              intro _
              have := ha.n2
              exact hai (inf_late hfa (by omega))
            have h2 := dif_le ha hb hlt
            unfold dif at h2
            rw [if_neg (fb.not hb t), if_neg hai] at h2
            rcases hall t (Nat.le_refl _) with h4 | ⟨_, h4 | h4⟩
            · simp only [INF]; omega
            · exact absurd h4 hai
            · omega
          · rw [if_neg has]
            rcases h3 with h3 | h3
            · exact absurd h3 has
            · omega
theorem above_leq {a b c a' b' c' : C3} {F F' : Nat → Int} (ha : VC a) (hb : VC b) (hc : VC c) (hF : AbvF a b F) (h : ∀ t, cv c t = F t) (ha' : VC a') (hb' : VC b') (hc' : VC c') (hF' : AbvF a' b' F') (h' : ∀ t, cv c' t = F' t)
    (h1 : Leq a a') (h2 : Leq b' b) : Leq c c' :=
  fun m t hm => (above_ge ha' hb' hc' hF' h' m t).2 (fun s hs => ((above_ge ha hb hc hF h m t).1 hm s hs).mono h1 h2)
theorem pls_infAt {a b c : C3} (ha : VC a) (hb : VC b) (hc : VC c) (h : ∀ t, cv c t = pls a b t) (t : Nat) : infAt c.1 t ↔ infAt a.1 t ∨ infAt b.1 t := by
  rw [VF.inf_clip hc, h, pls_inf ha hb (by omega), ← VF.clip ha, ← VF.clip hb]
theorem pls_leq {a b c : C3} (ha : VC a) (hb : VC b) (hc : VC c) (h : ∀ t, cv c t = pls a b t) : Leq a c := by
  refine Leq.mk (fun t hi => ?_)
  rw [pls_infAt ha hb hc h] at hi
  refine ⟨fun h => hi (.inl h), ?_⟩
  rw [h]
  unfold pls
  rw [if_neg hi]
  have := cv_nonneg hb t
  omega
theorem cv_le2 {a : C3} (h : VC a) (hf : FinC a) {B : Int} (hB : ∀ j < a.1.length, a.1.getD j 0 = INF ∨ a.1.getD j 0 ≤ B) (t : Nat) : cv a t ≤ B + t * a.2.2 := by
  induction t using Nat.strongRecOn with
  | _ t ih =>
    by_cases hlt : t < a.1.length
    · unfold cv
      rw [val_lt hlt]
      have h2 := hB t hlt
      have h3 := h.noinf hf t hlt
      have : 0 ≤ (t : Int) * a.2.2 := Int.mul_nonneg (by omega) h.q0
      simp only [INF] at *; omega
    · have pn := h.pn
      have p1 := h.p1
      have e := h.per (t - a.2.1) (by omega)
      rw [show t - a.2.1 + a.2.1 = t by omega] at e
      have h2 := ih (t - a.2.1) (by omega)
      have h3 : ((t - a.2.1 : Nat) : Int) * a.2.2 + a.2.2 ≤ t * a.2.2 := by
        have h4 : ((t - a.2.1 : Nat) + 1 : Int) * a.2.2 ≤ (t : Int) * a.2.2 := Int.mul_le_mul_of_nonneg_right (by omega) h.q0
        rw [Int.add_mul, Int.one_mul] at h4; exact h4
      unfold cv at *
      omega
theorem pls_mono {a b : C3} (ha : VC a) (hb : VC b) {s t : Nat} (hst : s ≤ t) (ht : t ≤ 1048576) : pls a b s ≤ pls a b t := by
  by_cases h : infAt a.1 t ∨ infAt b.1 t
  · have := pls_le ha hb (t := s) (by omega)
    rw [(pls_inf ha hb ht).2 h]; exact this
  · have h1 : ¬(infAt a.1 s ∨ infAt b.1 s) := fun hh => h (hh.imp (ha.infAt_mono hst) (hb.infAt_mono hst))
    unfold pls
    rw [if_neg h, if_neg h1]
    have := ha.cvle hst
    have := hb.cvle hst
    omega
theorem least_inf {F : Nat → Int} : ∀ n, F n = INF → ∃ m, m ≤ n ∧ F m = INF ∧ ∀ t, t < m → F t ≠ INF := by
  intro n
  induction n using Nat.strongRecOn with
  | _ n ih =>
    intro h
    by_cases hx : ∃ t, t < n ∧ F t = INF
    · obtain ⟨t, h1, h2⟩ := hx
      obtain ⟨m, h3, h4, h5⟩ := ih t h1 h2
      exact ⟨m, by omega, h4, h5⟩
    · exact ⟨n, Nat.le_refl _, h, fun t ht he => hx ⟨t, ht, he⟩⟩
structure Sml (a : C3) (B : Int) : Prop where
  v : VC a
  n : a.1.length ≤ 20
  p : a.2.1 ≤ 8
  q : a.2.2 ≤ 100
  b : ∀ j < a.1.length, a.1.getD j 0 = INF ∨ a.1.getD j 0 ≤ B
theorem mul_le' {a b A B : Int} (ha : 0 ≤ a) (hb : 0 ≤ b) (hA : a ≤ A) (hB : b ≤ B) : 0 ≤ a * b ∧ a * b ≤ A * B :=
  ⟨Int.mul_nonneg ha hb, Int.mul_le_mul hA hB hb (by omega)⟩
/- the sum of two small curves is a curve -/
theorem sum_small {a d : C3} {B : Int} (ha : Sml a B) (hd : Sml d B) (hB : B ≤ 100000) {x : List Int × Int × Int × Int} (h : MkP (pls a d) x) : x.2.2.2 = 0 := by
  rcases h with ⟨_, _, _, _, _, rfl⟩ | ⟨hno, rfl⟩
  · rfl
  exfalso
  have va := ha.v
  have vd := hd.v
  have n1 := ha.n
  have n2 := hd.n
  have l1 := va.n1
  have l2 := vd.n1
  have p1 := va.p1
  have p2 := vd.p1
  have hc : com a d ≤ 64 := by
    have h3 : com a d ≤ a.2.1 * d.2.1 := Nat.le_of_dvd (Nat.mul_pos p1 p2) (Nat.lcm_dvd_mul _ _)
    have h4 : a.2.1 * d.2.1 ≤ 8 * 8 := Nat.mul_le_mul ha.p hd.p
    omega
  have hc1 := com_pos va vd
  by_cases hf : FinC a ∧ FinC d
  · have hper := pls_per va vd hf
    have k1 := mul_le' (A := 100) (B := 64) va.q0 (Int.natCast_nonneg (com a d / a.2.1)) ha.q (by have := Nat.div_le_self (com a d) a.2.1; omega)
    have k2 := mul_le' (A := 100) (B := 64) vd.q0 (Int.natCast_nonneg (com a d / d.2.1)) hd.q (by have := Nat.div_le_self (com a d) d.2.1; omega)
    have hfr : frm a d ≤ 20 := by unfold frm; omega
    have hval : ∀ t, pls a d t = cv a t + cv d t := by
      intro t; unfold pls; rw [if_neg (fun h => h.elim (hf.1.not va t) (hf.2.not vd t))]
    obtain ⟨c, h1, h2, _⟩ := vf_exists hc1 hper (pls_nonneg va vd 0) (fun t => by
        rw [hval, hval]; have := va.cvle (show t ≤ t + 1 by omega); have := vd.cvle (show t ≤ t + 1 by omega); omega) (by omega) (by omega) (by unfold sgn; omega)
      (fun t ht => by
        rw [hval]
        have e1 := cv_le2 va hf.1 ha.b t
        have e2 := cv_le2 vd hf.2 hd.b t
        have m1 := mul_le' (a := (t : Int)) (A := 100) (B := 100) (by omega) va.q0 (by omega) ha.q
        have m2 := mul_le' (a := (t : Int)) (A := 100) (B := 100) (by omega) vd.q0 (by omega) hd.q
        omega)
    exact hno _ _ _ h1 h2
  · have hw : win a d ≤ 20 := by unfold win; omega
    obtain ⟨m, h1, h2, h3⟩ := least_inf _ (pls_late hf (Nat.le_refl (win a d)))
    have h4 := pls_inf_late va vd (by omega) h2
    have hnf := NF.inf h4 h3
    refine hno _ _ _ hnf ?_
    have hfin : ∀ t, t < m → pls a d t ≤ 1073741824 := by
      intro t ht
      have hni : ¬(infAt a.1 t ∨ infAt d.1 t) := fun h => h3 t ht ((pls_inf va vd (by omega)).2 h)
      have e1 : cv a t ≤ B + t * 100 := by
        have hq := va.q0
        by_cases fa : FinC a
        · have := cv_le2 va fa ha.b t
          have : (t : Int) * a.2.2 ≤ t * 100 := Int.mul_le_mul_of_nonneg_left ha.q (by omega)
          omega
        · have hlt : t < a.1.length := by
            apply Classical.byContradiction
            intro hx
            exact hni (.inl (inf_late fa (by omega)))
          have h5 := ha.b t hlt
          unfold cv
          rw [val_lt hlt]
          rcases h5 with h5 | h5
          · exfalso; apply hni; left; unfold infAt; rw [Nat.min_eq_left (by omega)]; exact h5
          · omega
      have e2 : cv d t ≤ B + t * 100 := by
        have hq := vd.q0
        by_cases fa : FinC d
        · have := cv_le2 vd fa hd.b t
          have : (t : Int) * d.2.2 ≤ t * 100 := Int.mul_le_mul_of_nonneg_left hd.q (by omega)
          omega
        · have hlt : t < d.1.length := by
            apply Classical.byContradiction
            intro hx
            exact hni (.inr (inf_late fa (by omega)))
          have h5 := hd.b t hlt
          unfold cv
          rw [val_lt hlt]
          rcases h5 with h5 | h5
          · exfalso; apply hni; right; unfold infAt; rw [Nat.min_eq_left (by omega)]; exact h5
          · omega
      unfold pls
      rw [if_neg hni]
      omega
    have hlast : (vals (pls a d) (m + 1)).getD ((vals (pls a d) (m + 1)).length - 1) 0 = INF := by
      rw [vals_len, Nat.add_sub_cancel, vals_get (by omega)]; exact h2
    refine ⟨by rw [vals_len]; omega, by rw [vals_len]; omega, by omega, by omega, by rw [vals_len]; omega, by omega, by omega, fun j hj => ?_, fun j k hjk hk => ?_, fun _ => ⟨rfl, rfl⟩, fun e => absurd hlast e⟩
    · rw [vals_len] at hj
      rw [vals_get hj]
      by_cases hjm : j = m
      · subst hjm; exact .inl h2
      · exact .inr ⟨pls_nonneg va vd j, hfin j (by omega)⟩
    · rw [vals_len] at hk
      rw [vals_get (by omega), vals_get hk]
      exact pls_mono va vd hjk (by omega)
theorem sum_per {a d m : C3} (ha : VC a) (hd : VC d) (h : NF (pls a d) m.1 m.2.1 m.2.2) : m.2.1 ≤ com a d := by
  obtain ⟨s, g1, g2, g3, _⟩ := h
  by_cases hf : FinC a ∧ FinC d
  · exact g3 _ _ _ (com_pos ha hd) (pls_per ha hd hf)
  · have h1 : Per (pls a d) (win a d) 1 0 := fun t ht => by
      rw [pls_late hf ht, pls_late hf (by omega)]; simp
    have h2 := g3 _ _ _ (Nat.le_refl 1) h1
    have := com_pos ha hd
    omega
theorem com_le_mul {a b : C3} (ha : VC a) (hb : VC b) {A B : Nat} (h1 : a.2.1 ≤ A) (h2 : b.2.1 ≤ B) : com a b ≤ A * B := by
  have h3 : com a b ≤ a.2.1 * b.2.1 := Nat.le_of_dvd (Nat.mul_pos ha.p1 hb.p1) (Nat.lcm_dvd_mul _ _)
  have h4 := Nat.mul_le_mul h1 h2
  omega
end Go.Cv
