/-
  A text of the proofs of this seat: lemmas that the statements' proofs use; it states nothing of the program by itself beyond the contracts that its theorems bear. Conditions: those that stand in each theorem. Its short name: Cw.
-/
import Derived.Test.YtppdpfaipkjpmaaCv
set_option linter.unusedVariables false
set_option linter.unusedSimpArgs false
namespace Go.Cv
def Mono (F : Nat → Int) : Prop := ∀ t, F t ≤ F (t + 1)
theorem Mono.le {F} (h : Mono F) : ∀ {s t : Nat}, s ≤ t → F s ≤ F t := by
  intro s t hst
  induction t with
  | zero => have : s = 0 := by omega
            subst this; exact Int.le_refl _
  | succ t ih =>
    by_cases e : s = t + 1
    · subst e; exact Int.le_refl _
    · exact Int.le_trans (ih (by omega)) (h t)
theorem VF.per {vs p q} (h : VF vs p q) : Per (val vs p q) (vs.length - p) p q := by
  by_cases hf : vs.getD (vs.length - 1) 0 = INF
  · obtain ⟨rfl, rfl⟩ := h.inf hf
    have hi := h.val_inf hf hf
    intro t ht
    rw [hi t (by omega), hi (t + 1) (by omega)]; rfl
  · exact val_per h.p1 h.pn (fun t _ ht => h.noinf hf t ht)
theorem VF.mono' {vs p q} (h : VF vs p q) : Mono (val vs p q) := by
  have hper := h.per
  have n1 := h.n1
  have p1 := h.p1
  have pn := h.pn
  intro t
  induction t using Nat.strongRecOn with
  | _ t ih =>
    by_cases h1 : t + 1 < vs.length
    · rw [val_lt (by omega), val_lt h1]; exact h.mono t (t + 1) (by omega) h1
    · by_cases h2 : t + 1 = vs.length
      · have e := hper (vs.length - p) (by omega)
        rw [show vs.length - p + p = t + 1 by omega] at e
        rw [e, val_lt (by omega), val_lt (by omega)]
        rw [show t = vs.length - 1 by omega]
        by_cases hf : vs.getD (vs.length - 1) 0 = INF
        · obtain ⟨rfl, rfl⟩ := h.inf hf
          omega
        · have := h.fin hf; omega
      · have e1 := hper (t - p) (by omega)
        have e2 := hper (t + 1 - p) (by omega)
        have := ih (t - p) (by omega)
        rw [show t - p + p = t by omega] at e1
        rw [show t + 1 - p + p = t + 1 by omega] at e2
        rw [show t - p + 1 = t + 1 - p by omega] at this
        omega
theorem VF.nonneg {vs p q} (h : VF vs p q) (t : Nat) : 0 ≤ val vs p q t := by
  have h0 := h.mono'.le (Nat.zero_le t)
  have : 0 ≤ val vs p q 0 := by
    rw [val_lt (by have := h.n1; omega)]
    have := h.v 0 (by have := h.n1; omega)
    simp only [INF] at this; omega
  omega
/- the function of a normal form -/
theorem NF.val {F vs p q} (h : NF F vs p q) (hi : q ≠ 0 → ∀ t < vs.length, F t ≠ INF) : ∀ t, val vs p q t = F t := by
  obtain ⟨s, p1, hper, hmin, hms, rfl⟩ := h
  intro t
  rw [vals_len] at hi
  by_cases hlt : t < s + p
  · rw [val_lt (by rw [vals_len]; exact hlt), vals_get hlt]
  · simp only [Cv.val]
    rw [if_neg (by rw [vals_len]; exact hlt), vals_len]
    have hd := Nat.div_add_mod (t - (s + p)) p
    have hm := Nat.mod_lt (t - (s + p)) p1
    have hk : ((t - (s + p)) / p + 1) * p = p * ((t - (s + p)) / p) + p := by rw [Nat.add_mul, Nat.one_mul, Nat.mul_comm]
    generalize (t - (s + p)) / p + 1 = k at *
    have hidx : t - k * p < s + p ∧ s ≤ t - k * p ∧ k * p ≤ t := by omega
    rw [vals_get hidx.1]
    have e := hper.mul k (t - k * p) hidx.2.1
    rw [show t - k * p + k * p = t by omega] at e
    rw [e]
    split
    · rename_i hINF
      by_cases hq : q = 0
      · subst hq; rw [hINF]; simp
      · exact absurd hINF (hi hq _ hidx.1)
    · rfl
theorem NF.vf {vs p q vs' p' q'} (h : VF vs p q) (hn : NF (Cv.val vs p q) vs' p' q') : VF vs' p' q' ∧ ∀ t, Cv.val vs' p' q' t = Cv.val vs p q t := by
  have hper := h.per
  have hmo := h.mono'
  have n1 := h.n1
  have p1 := h.p1
  have pn := h.pn
  have hn0 := hn
  obtain ⟨s, g1, g2, g3, g4, g5⟩ := hn
  have hpp : p' ≤ p := g3 _ p q p1 hper
  have hb := Per.back p1 hper g2
  have hs : s ≤ vs.length - p := g4 _ hb
  have hlen : vs'.length = s + p' := by rw [g5, vals_len]
  have hq0 : 0 ≤ q' := by have := g2 s (Nat.le_refl _); have := hmo.le (show s ≤ s + p' by omega); omega
  have hdvd := Per.dvd g1 hb g3 hper
  obtain ⟨k, hk⟩ := hdvd
  have hqk : q = k * q' := by
    have := hb.mul k
    rw [show k * p' = p by rw [hk, Nat.mul_comm]] at this
    exact hper.uniq this
  have hk1 : 1 ≤ k := by
    rcases Nat.eq_zero_or_pos k with h0 | h0
    · subst h0; omega
    · exact h0
  have hqq : q' ≤ q := by
    rw [hqk]
    have : 1 * q' ≤ (k : Int) * q' := Int.mul_le_mul_of_nonneg_right (by omega) hq0
    omega
  have hget : ∀ j, j < vs'.length → vs'.getD j 0 = vs.getD j 0 := by
    intro j hj
    rw [g5, vals_get (by omega), val_lt (by omega)]
  have hi : q' ≠ 0 → ∀ t < vs'.length, Cv.val vs p q t ≠ INF := by
    intro hq t ht
    rw [val_lt (by omega)]
    apply h.noinf _ t (by omega)
    intro hinf
    have := h.inf hinf
    apply hq
    have e := this.2
    rw [hqk] at e
    have h2 : 1 * q' ≤ (k : Int) * q' := Int.mul_le_mul_of_nonneg_right (by omega) hq0
    omega
  refine ⟨⟨by omega, by have := h.n2; omega, g1, by have := h.p2; omega, by omega, hq0, by have := h.q1; omega, ?_, ?_, ?_, ?_⟩, hn0.val hi⟩
  · intro j hj; rw [hget j hj]; exact h.v j (by omega)
  · intro j k hjk hk; rw [hget j (by omega), hget k hk]; exact h.mono j k hjk (by omega)
  · intro he
    rw [hget _ (by omega)] at he
    have hlast : vs.getD (vs.length - 1) 0 = INF := by
      have h4 := h.mono (vs'.length - 1) (vs.length - 1) (by omega) (by omega)
      have := h.v (vs.length - 1) (by omega)
      rw [he] at h4
      simp only [INF] at *
      omega
    obtain ⟨rfl, rfl⟩ := h.inf hlast
    exact ⟨by omega, by omega⟩
  · intro he
    have e := g2 s (Nat.le_refl _)
    have hle := hmo.le (show s + p' - 1 ≤ s + p' by omega)
    rw [hget _ (by omega), hget _ (by omega), hlen, show s + p' - p' = s by omega, ← val_lt (vs := vs) (p := p) (q := q) (t := s) (by omega), ← val_lt (vs := vs) (p := p) (q := q) (t := s + p' - 1) (by omega)]
    omega
/-! ### what the builders of curves return -/
def CheckP (v : List Int) (p q : Int) (x : List Int × Int × Int × Int) : Prop :=
  ((400 < v.length ∨ ∃ j < v.length, v.getD j 0 ≠ INF ∧ 1073741824 < v.getD j 0) ∧ x = ([], 0, 0, 3)) ∨
  (v.length ≤ 400 ∧ (∀ j < v.length, v.getD j 0 = INF ∨ v.getD j 0 ≤ 1073741824) ∧ x = (v, p, q, 0))
def BuildP (F : Nat → Int) (N : Nat) (x : List Int × Int × Int × Int) : Prop :=
  (∃ m, m < N ∧ F m = INF ∧ (∀ k < m, F k ≠ INF) ∧ CheckP (vals F (m + 1)) 1 0 x) ∨
  ((∀ k < N, F k ≠ INF) ∧ ∃ (vs : List Int) (p : Nat) (q : Int), NF F vs p q ∧ vs.length ≤ N ∧ (((120 < p ∨ 1073741824 < q) ∧ x = ([], 0, 0, 3)) ∨ (p ≤ 120 ∧ q ≤ 1073741824 ∧ CheckP vs p q x)))

/- the normal form of a function, if it is a curve -/
def MkP (F : Nat → Int) (x : List Int × Int × Int × Int) : Prop :=
  (∃ (vs : List Int) (p : Nat) (q : Int), NF F vs p q ∧ VF vs p q ∧ x = (vs, (p : Int), q, 0)) ∨ ((∀ (vs : List Int) (p : Nat) (q : Int), NF F vs p q → ¬VF vs p q) ∧ x = ([], 0, 0, 3))
theorem MkP.uniq {F x y} (h : MkP F x) (h' : MkP F y) : x = y := by
  rcases h with ⟨vs, p, q, h1, h2, rfl⟩ | ⟨h1, rfl⟩
  · rcases h' with ⟨vs', p', q', h1', h2', rfl⟩ | ⟨h1', rfl⟩
    · obtain ⟨rfl, rfl, rfl⟩ := h1.uniq h1'; rfl
    · exact absurd h2 (h1' _ _ _ h1)
  · rcases h' with ⟨vs', p', q', h1', h2', rfl⟩ | ⟨h1', rfl⟩
    · exact absurd h2' (h1 _ _ _ h1')
    · rfl
theorem VF.valid {vs : List Int} {p : Nat} {q : Int} (h : VF vs p q) : ValidP vs p q := by
  have n1 := h.n1; have n2 := h.n2; have p1 := h.p1; have p2 := h.p2; have pn := h.pn
  refine ⟨by omega, by omega, by omega, by omega, by omega, h.q0, h.q1, h.v, fun j hj => h.mono j (j + 1) (by omega) hj, fun e => ?_, fun e => ?_⟩
  · have := h.inf e; omega
  · rw [Int.toNat_natCast]; exact h.fin e
theorem checkP_mk {F : Nat → Int} {vs : List Int} {p : Nat} {q : Int} {x : List Int × Int × Int × Int} (h0 : 0 ≤ F 0) (hm : Mono F) (h : NF F vs p q) (hp : p ≤ 120) (hq : q ≤ 1073741824) (hle : ∀ j < vs.length, F j ≤ INF)
    (hi : vs.getD (vs.length - 1) 0 = INF → p = 1 ∧ q = 0) (hc : CheckP vs p q x) : MkP F x := by
  have h' := h
  obtain ⟨s, p1, hper, hmin, hms, rfl⟩ := h
  rw [vals_len] at hi hle
  rcases hc with ⟨hbad, rfl⟩ | ⟨hl, hv, rfl⟩
  · refine .inr ⟨fun vs' p' q' hnf hvf => ?_, rfl⟩
    obtain ⟨rfl, rfl, rfl⟩ := h'.uniq hnf
    rcases hbad with hbad | ⟨j, hj, h1, h2⟩
    · have := hvf.n2; omega
    · have := hvf.v j hj; simp only [INF] at *; omega
  · refine .inl ⟨_, _, _, h', ⟨by rw [vals_len]; omega, hl, p1, hp, by rw [vals_len]; omega, ?_, hq, ?_, ?_, by rw [vals_len]; exact hi, ?_⟩, rfl⟩
    · have := hper s (Nat.le_refl _); have := hm.le (show s ≤ s + p by omega); omega
    · intro j hj
      have h1 := hv j hj
      rw [vals_len] at hj
      rw [vals_get hj] at h1 ⊢
      have := hm.le (Nat.zero_le j)
      rcases h1 with h1 | h1
      · exact .inl h1
      · exact .inr ⟨by omega, h1⟩
    · intro j k hjk hk
      rw [vals_len] at hk
      rw [vals_get (by omega), vals_get hk]; exact hm.le hjk
    · intro _
      rw [vals_len, show s + p - p = s by omega, vals_get (by omega), vals_get (by omega)]
      have := hper s (Nat.le_refl _); have := hm.le (show s + p - 1 ≤ s + p by omega); omega
theorem buildP_mk {F : Nat → Int} {N : Nat} {x : List Int × Int × Int × Int} (h0 : 0 ≤ F 0) (hm : Mono F) (hle : ∀ t < N, F t ≤ INF) (hinf : ∀ m < N, F m = INF → ∀ t, m ≤ t → F t = INF) (h : BuildP F N x) : MkP F x := by
  rcases h with ⟨m, h1, h2, h3, hc⟩ | ⟨h1, vs, p, q, hnf, hl, hc⟩
  · have hnf : NF F (vals F (m + 1)) 1 0 := NF.inf (hinf m h1 h2) h3
    refine checkP_mk (p := 1) h0 hm hnf (by omega) (by omega) (fun j hj => ?_) (fun _ => ⟨rfl, rfl⟩) hc
    rw [vals_len] at hj; exact hle j (by omega)
  · rcases hc with ⟨hbad, rfl⟩ | ⟨hp, hq, hc⟩
    · refine .inr ⟨fun vs' p' q' hnf' hvf => ?_, rfl⟩
      obtain ⟨rfl, rfl, rfl⟩ := hnf.uniq hnf'
      have := hvf.p2; have := hvf.q1; omega
    · refine checkP_mk h0 hm hnf (by omega) hq (fun j hj => hle j (by omega)) (fun e => ?_) hc
      exfalso
      obtain ⟨s, p1, _, _, _, rfl⟩ := hnf
      rw [vals_len] at e hl
      rw [vals_get (by omega)] at e
      exact h1 _ (by omega) e
/- the function of a list that repeats with a gain -/
theorem val_of_per {F : Nat → Int} {vs : List Int} {P : Nat} {Q : Int} (hP : 1 ≤ P) (hn : P ≤ vs.length) (hv : ∀ t < vs.length, F t = vs.getD t 0) (hf : ∀ k < vs.length, vs.getD k 0 ≠ INF) (hper : Per F (vs.length - P) P Q) : ∀ t, val vs P Q t = F t := by
  have hp2 := val_per (q := Q) hP hn (fun t _ ht => hf t ht)
  intro t
  induction t using Nat.strongRecOn with
  | _ t ih =>
    by_cases h1 : t < vs.length
    · rw [val_lt h1, hv t h1]
    · have e1 := hp2 (t - P) (by omega)
      have e2 := hper (t - P) (by omega)
      rw [show t - P + P = t by omega] at e1 e2
      rw [e1, e2, ih (t - P) (by omega)]
theorem madeP_mk {F : Nat → Int} {vs : List Int} {P : Nat} {Q : Int} {x : List Int × Int × Int × Int} (hP : 1 ≤ P) (hn : P ≤ vs.length) (hv : ∀ t < vs.length, F t = vs.getD t 0)
    (hinf : ∀ m < vs.length, F m = INF → ∀ t, m ≤ t → F t = INF) (hper : (∀ t < vs.length, F t ≠ INF) → Per F (vs.length - P) P Q) (h : MadeP vs P Q x.1 x.2.1 x.2.2.1 x.2.2.2) : MkP F x := by
  obtain ⟨ws, p1, q1, hL, hx⟩ := h
  have hnf : NF F ws p1 q1 := by
    rcases hL with ⟨m, h1, h2, h3, rfl, rfl, rfl⟩ | ⟨h1, h2⟩
    · have e : vs.take (m + 1) = vals F (m + 1) := by
        apply List.ext_getElem
        · rw [vals_len, List.length_take]; omega
        · intro i h5 h6
          rw [vals_len] at h6
          simp only [vals, List.getElem_map, List.getElem_range, List.getElem_take]
          rw [hv i (by omega), List.getD_eq_getElem?_getD, List.getElem?_eq_getElem (by omega)]
          rfl
      rw [e]
      exact NF.inf (hinf m h1 (by rw [hv m h1]; exact h2)) (fun t ht => by rw [hv t (by omega)]; exact h3 t ht)
    · have : val vs P Q = F := funext (val_of_per hP hn hv h1 (hper (fun t ht => by rw [hv t ht]; exact h1 t ht)))
      rw [← this]; exact h2
  obtain ⟨x1, x2, x3, x4⟩ := x
  rcases hx with ⟨hv, rfl, rfl, rfl, rfl⟩ | ⟨hv, rfl, rfl, rfl, rfl⟩
  · obtain ⟨p', e, hvf⟩ := hv.vf
    have : p1 = p' := by omega
    subst this
    exact .inl ⟨_, _, _, hnf, hvf, rfl⟩
  · refine .inr ⟨fun vs' p' q' hnf' hvf => ?_, rfl⟩
    obtain ⟨rfl, rfl, rfl⟩ := hnf.uniq hnf'
    exact hv hvf.valid
theorem mkP_lim {F : Nat → Int} (h : ∀ (vs : List Int) (p : Nat) (q : Int), NF F vs p q → ¬VF vs p q) : MkP F ([], 0, 0, 3) := .inr ⟨h, rfl⟩
theorem VF.sound {vs p q F} (h : VF vs p q) (hn : NF F vs p q) : ∀ t, val vs p q t = F t := by
  refine hn.val (fun hq t ht e => ?_)
  obtain ⟨s, _, _, _, _, rfl⟩ := hn
  rw [vals_len] at ht
  rw [← vals_get (F := F) ht] at e
  by_cases hf : (vals F (s + p)).getD ((vals F (s + p)).length - 1) 0 = INF
  · exact hq (h.inf hf).2
  · exact h.noinf hf t (by rw [vals_len]; exact ht) e
end Go.Cv
