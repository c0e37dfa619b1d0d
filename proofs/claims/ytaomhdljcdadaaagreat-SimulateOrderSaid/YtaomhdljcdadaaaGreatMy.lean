/-
  A text of the proofs of this seat: lemmas that the statements' proofs use; it states nothing of the program by itself beyond the contracts that its theorems bear. Conditions: those that stand in each theorem. Its short name: My Mlk Mbb Mbc Mbd Mbe.
-/
import Derived.Test.YtaomhdljcdadaaaGreatMw
import Derived.Test.YtaomhdljcdadaaaGreatSxB
set_option linter.unusedVariables false
set_option linter.unusedSimpArgs false
section
namespace Go.Mc
open Go.Pk Go.Np
theorem SkP.mono {n : Nt} {p : List Pk} (h : SkP n p) : ∀ {j i : Nat}, i ≤ j → j < p.length → (p.getD i pk0).t ≤ (p.getD j pk0).t
  | 0, i, h1, _ => by rw [show i = 0 by omega]; exact Int.le_refl _
  | j + 1, i, h1, h2 => by
    rcases Nat.lt_or_ge j i with c | c
    · rw [show i = j + 1 by omega]; exact Int.le_refl _
    · have := h.mono (j := j) c (by omega)
      have h3 := h.o (j + 1) h2
      have e : lst p (j + 1) = (p.getD j pk0).t := rfl
      omega
theorem take_getD {p : List Pk} {m i : Nat} (h : i < m) : (p.take m).getD i pk0 = p.getD i pk0 := by
  simp [List.getD_eq_getElem?_getD, List.getElem?_take, h]
theorem SkP.take {n : Nt} {p : List Pk} (h : SkP n p) (m : Nat) : SkP n (p.take m) := by
  refine ⟨h.h, by rw [List.length_take]; have := h.l; omega, fun i hi => ?_, fun i hi => ?_⟩
  · rw [List.length_take] at hi
    rw [take_getD (by omega)]; exact h.g i (by omega)
  · rw [List.length_take] at hi
    rw [take_getD (by omega)]
    have := h.o i (by omega)
    cases i with
    | zero => exact this
    | succ i =>
      simp only [lst] at this ⊢
      rw [take_getD (by omega)]; exact this
theorem trR_get {F : Tf} {Z : Li} {N i k : Nat} (hi : i < F.np) (hk : k < (F.rt i).length) : ((trR F Z N).getD i []).getD k 0 = tr F Z N i k := by
  have := trR_at (Z := Z) (N := N) hi hk
  unfold dR at this
  rw [← this]
  have hl : k < ((trR F Z N).getD i []).length := by rw [trR_rlen hi]; exact hk
  generalize (trR F Z N).getD i [] = r at hl ⊢
  rw [List.getD_eq_getElem?_getD, List.getD_eq_getElem?_getD, List.getElem?_eq_getElem hl]; rfl
end Go.Mc
end
section
namespace Go.Sx
/-! maps by their lookups -/
theorem lookup_cons' {α : Type} {k a : Int} {v : α} {l : List (Int × α)} : ((a, v) :: l).lookup k = if k = a then some v else l.lookup k := by
  rw [List.lookup_cons]
  by_cases h : k = a
  · subst h; simp
  · have e : (k == a) = false := by simp [h]
    rw [e, if_neg h]
theorem put_miss {n : Int} {v : SV} : ∀ {l : List (Int × SV)}, l.lookup n = none → ∀ k, (l ++ [(n, v)]).lookup k = if k = n then some v else l.lookup k
  | [], _, k => by rw [List.nil_append, lookup_cons']
  | (a, w) :: l, h, k => by
    rw [lookup_cons'] at h
    split at h
    · cases h
    · rename_i hne
      rw [List.cons_append, lookup_cons', put_miss h k, lookup_cons']
      by_cases e : k = a
      · rw [if_pos e, if_pos e, if_neg (fun e2 => hne (by rw [← e2, e]))]
      · rw [if_neg e, if_neg e]
theorem put_hit {n : Int} {v : SV} : ∀ {l : List (Int × SV)}, l.lookup n ≠ none → ∀ k, (mset l n v).lookup k = if k = n then some v else l.lookup k
  | [], h, k => absurd rfl h
  | (a, w) :: l, h, k => by
    rw [lookup_cons'] at h
    by_cases e : n = a
    · subst e
      have : mset ((n, w) :: l) n v = (n, v) :: l := by simp [mset]
      rw [this, lookup_cons', lookup_cons']
      split <;> rfl
    · rw [if_neg e] at h
      have : mset ((a, w) :: l) n v = (a, w) :: mset l n v := by
        simp [mset, e, Ne.symm e]
      rw [this, lookup_cons', put_hit h k, lookup_cons']
      by_cases e2 : k = a
      · rw [if_pos e2, if_pos e2, if_neg (fun e3 => e (by rw [← e3, e2]))]
      · rw [if_neg e2, if_neg e2]
end Go.Sx
end
section
namespace Go.Mc
open Go.Pk Go.Np
/- how flows may be changed -/
structure FzG (g : Fl → Fl) (f : Fl) : Prop where
  nm : (g f).nm = f.nm
  rt : (g f).rt = f.rt
  cl : (g f).cl = 0
  v : (g f).v = f.v ∧ (g f).p = f.p ∧ (g f).q = f.q
  s : 1 ≤ (g f).lo ∧ (g f).lo ≤ (g f).hi ∧ (g f).hi ≤ 1500
end Go.Mc
end
section
namespace Go.Mc
open Go.Pk Go.Np
/-! one packet in a network of one flow -/
/- how many ticks more a hop needs -/
def kc (z c : Nat) : Nat := (z + c - 1) / c - 1
theorem kc_ok {z c : Nat} (hz : 1 ≤ z) (hc : 1 ≤ c) : kc z c * c < z ∧ z ≤ (kc z c + 1) * c := by
  unfold kc
  have h1 : 1 ≤ (z + c - 1) / c := by rw [Nat.le_div_iff_mul_le (by omega)]; omega
  have h2 := Nat.div_mul_le_self (z + c - 1) c
  have h3 := Nat.lt_div_mul_add (a := z + c - 1) (b := c) (by omega)
  generalize (z + c - 1) / c = m at *
  obtain ⟨m, rfl⟩ : ∃ k, m = k + 1 := ⟨m - 1, by omega⟩
  rw [Nat.add_sub_cancel]
  have h4 : (m + 1) * c = m * c + c := Nat.succ_mul m c
  omega
theorem kc_le {z c : Nat} (hz : z ≤ 1500) (hc : 4 ≤ c) : kc z c ≤ 375 := by
  unfold kc
  have h1 : (z + c - 1) / c ≤ 376 := by
    refine Nat.lt_succ_iff.1 ((Nat.div_lt_iff_lt_mul (by omega)).2 ?_)
    have : 377 * c = 376 * c + c := by omega
    have : 376 * 4 ≤ 376 * c := Nat.mul_le_mul_left 376 hc
    omega
  omega
theorem dnA_le {t B : Nat} {K : Nat → Nat} : ∀ h, (∀ j, j ≤ h → K j ≤ B) → dnA t K h ≤ t + h * (B + 1) + B
  | 0, hK => by have := hK 0 (Nat.le_refl _); simp only [dnA]; omega
  | h + 1, hK => by
    have := dnA_le (t := t) (K := K) h fun j hj => hK j (by omega)
    have h2 := hK (h + 1) (Nat.le_refl _)
    simp only [dnA]
    have : (h + 1) * (B + 1) = h * (B + 1) + (B + 1) := Nat.succ_mul h (B + 1)
    omega
/- a packet alone -/
theorem bytes {n : Nt} {t z : Nat} (hK : SkP n [⟨0, t, z⟩]) (h255 : t ≤ 255) (hz : 1 ≤ z ∧ z ≤ 1500) {Z : Li} (hf : ∀ l, l < n.ln.length → Z.C l = fifoC ∧ 4 ≤ Z.c l) (h3 : (n.fl.getD 0 fl0).rt.length ≤ 3) :
    ∀ h, h < (n.fl.getD 0 fl0).rt.length → tr (toF n [⟨0, t, z⟩]) Z 2000 0 h = dnA t (fun j => kc z (Z.c ((n.fl.getD 0 fl0).rt.getD j 0).toNat)) h ∧ dnA t (fun j => kc z (Z.c ((n.fl.getD 0 fl0).rt.getD j 0).toNat)) h ≤ 1400 := by
  intro h hh
  have hlen : ((toF n [⟨0, t, z⟩]).rt 0).length = (n.fl.getD 0 fl0).rt.length := List.length_map _
  have hlin : ∀ j, j < (n.fl.getD 0 fl0).rt.length → lin (toF n [⟨0, t, z⟩]) 0 j = ((n.fl.getD 0 fl0).rt.getD j 0).toNat ∧ lin (toF n [⟨0, t, z⟩]) 0 j < n.ln.length := fun j hj => by
    have := hK.lnn (i := 0) (k := j) (by simp) (by rw [hlen]; exact hj)
    have e : (pfl n ([⟨0, t, z⟩].getD 0 pk0)).rt.getD j 0 = (n.fl.getD 0 fl0).rt.getD j 0 := rfl
    rw [e] at this
    exact ⟨by omega, this.2⟩
  have hk : ∀ j, j < (n.fl.getD 0 fl0).rt.length → kc z (Z.c ((n.fl.getD 0 fl0).rt.getD j 0).toNat) ≤ 375 := fun j hj => by
    have h1 := hlin j hj
    have := (hf _ h1.2).2
    rw [h1.1] at this
    exact kc_le hz.2 this
  have hd := dnA_le (t := t) (B := 375) (K := fun j => kc z (Z.c ((n.fl.getD 0 fl0).rt.getD j 0).toNat)) h fun j hj => hk j (by omega)
  have hm : h * (375 + 1) ≤ 2 * 376 := Nat.mul_le_mul_right 376 (by omega)
  refine ⟨tr_one (F := toF n [⟨0, t, z⟩]) (Z := Z) (N := 2000) (t := t) (z := z) (K := fun j => kc z (Z.c ((n.fl.getD 0 fl0).rt.getD j 0).toNat)) rfl hK.rts rfl rfl (fun j hj => ?_) h (by rw [hlen]; exact hh) (by omega), by omega⟩
  rw [hlen] at hj
  have h1 := hlin j hj
  have h2 := hf _ h1.2
  rw [h1.1] at h2 ⊢
  have := kc_ok (z := z) (c := Z.c ((n.fl.getD 0 fl0).rt.getD j 0).toNat) hz.1 (by omega)
  exact ⟨h2.1, by omega, this.1, this.2⟩
end Go.Mc
end
section
namespace Go.Mc
open Go.Pk Go.Np
/-! a line sends at most its capacity in a tick -/
/- the bytes of the packets that are done, and of the one that is begun -/
def sentB {σ : Type} (p : List Pk) (S : St σ) (i : Nat) : Nat :=
  if S.dn i ≠ -1 then sz p i else match S.cur with
    | some c => if c.1 = i then sz p i - c.2 else 0
    | none => 0
def SentB {σ : Type} (p : List Pk) (S : St σ) : Nat := sumN (sentB p S) p.length
/- what is left of a packet is at most its size -/
def Rz {σ : Type} (p : List Pk) (S : St σ) : Prop := ∀ i r, S.cur = some (i, r) → r ≤ sz p i ∧ i < p.length
theorem sel_sent {C : Ch} {p : List Pk} (hp : Asc p) {t left : Nat} {S : St C.σ} (h : InvT p t S) (hz : Rz p S) {c : Nat × Nat} (hc : (sel C p t left S).2 = some c) :
    Rz p ((sel C p t left S).1.cu (some c)) ∧ SentB p ((sel C p t left S).1.cu (some c)) = SentB p S := by
  obtain ⟨s1, s2, _⟩ := sel_inv hp (left := left) h
  have hi := s2 c hc
  obtain ⟨q1, q2⟩ := hi.c c.1 c.2 rfl
  have hl := (hi.b c.1 q1).1
  cases hcur : S.cur with
  | some c' =>
    have hse := sel_cur (C := C) (p := p) (t := t) (left := left) hcur
    rw [hse] at hc ⊢
    simp only [Option.some.injEq] at hc
    subst hc
    have : S.cu (some c') = S := by unfold St.cu; rw [← hcur]
    dsimp only
    rw [this]
    exact ⟨hz, rfl⟩
  | none =>
    cases hk : (C.ch p t left (wt p t S.bg) S.s).2 with
    | none => rw [sel_non hcur hk] at hc; cases hc
    | some i =>
      have hse := sel_new hcur hk
      rw [hse] at hc ⊢
      simp only [Option.some.injEq] at hc
      subst hc
      dsimp only at hl ⊢
      have q2 : S.dn i = -1 := by rw [← congrFun s1 i]; exact q2
      refine ⟨fun j r hj => ?_, sumN_congr fun j _ => ?_⟩
      · simp only [Option.some.injEq, Prod.mk.injEq] at hj
        obtain ⟨rfl, rfl⟩ := hj
        exact ⟨Nat.le_refl _, hl⟩
      · unfold sentB
        simp only [hcur]
        by_cases e : S.dn j ≠ -1
        · rw [if_pos e, if_pos e]
        · rw [if_neg e, if_neg e]
          by_cases e2 : i = j
          · subst e2; simp
          · rw [if_neg e2]
theorem tk_sent {C : Ch} {p : List Pk} (hp : Asc p) {t : Nat} : ∀ (left : Nat) {S : St C.σ}, InvT p t S → Rz p S → Rz p (tk C p t left S) ∧ SentB p (tk C p t left S) ≤ SentB p S + left := by
  intro left
  induction left using Nat.strongRecOn with
  | ind left ih =>
    intro S h hz
    cases left with
    | zero => rw [tk]; exact ⟨hz, Nat.le_refl _⟩
    | succ left =>
      rw [tk]
      obtain ⟨s1, s2, s3⟩ := sel_inv hp (left := left + 1) h
      cases hc : (sel C p t (left + 1) S).2 with
      | none =>
        simp only
        obtain ⟨i1, i2⟩ := s3 hc
        refine ⟨fun i r hi => (by rw [i2] at hi; cases hi), ?_⟩
        have hcur : S.cur = none := by
          unfold sel at hc
          cases hcur : S.cur with
          | none => rfl
          | some c => simp only [hcur] at hc; cases hc
        have : SentB p (sel C p t (left + 1) S).1 = SentB p S := sumN_congr fun i _ => by unfold sentB; rw [i2, hcur, s1]
        omega
      | some c =>
        obtain ⟨z1, z2⟩ := sel_sent hp (left := left + 1) h hz hc
        have hi := s2 c hc
        obtain ⟨q1, q2⟩ := hi.c c.1 c.2 rfl
        have hl := (hi.b c.1 q1).1
        have hr := (z1 c.1 c.2 rfl).1
        simp only
        split
        · rename_i hle
          have hfi : InvT p t ((sel C p t (left + 1) S).1.fi c.1 t) := fi_inv (C := C) hp hi (i := c.1) (r := c.2) rfl
          have hz2 : Rz p ((sel C p t (left + 1) S).1.fi c.1 t) := fun i r hh => by cases hh
          have := ih (left - (c.2 - 1)) (by omega) hfi hz2
          have hs : SentB p ((sel C p t (left + 1) S).1.fi c.1 t) = SentB p ((sel C p t (left + 1) S).1.cu (some c)) + c.2 := by
            unfold SentB
            have hu := sumN_upd (F := sentB p ((sel C p t (left + 1) S).1.fi c.1 t)) (G := sentB p ((sel C p t (left + 1) S).1.cu (some c))) hl fun j hj _ => by
              unfold sentB
              simp only [St.fi, St.cu, upd_ne hj]
              split
              · rfl
              · rw [if_neg (Ne.symm hj)]
            have e1 : sentB p ((sel C p t (left + 1) S).1.fi c.1 t) c.1 = sz p c.1 := by
              unfold sentB
              simp only [St.fi, upd_same]
              rw [if_pos (by omega)]
            have e2 : sentB p ((sel C p t (left + 1) S).1.cu (some c)) c.1 = sz p c.1 - c.2 := by
              unfold sentB
              simp only [St.cu]
              rw [if_neg (by simpa using q2), if_pos trivial]
            rw [e1, e2] at hu
            omega
          refine ⟨this.1, ?_⟩
          have h2 := this.2
          by_cases hc0 : c.2 = 0
          · rw [hc0] at hs h2 ⊢
            omega
          · omega
        · rename_i hgt
          refine ⟨fun i r hh => ?_, ?_⟩
          · simp only [Option.some.injEq, Prod.mk.injEq] at hh
            obtain ⟨rfl, rfl⟩ := hh
            exact ⟨by omega, hl⟩
          · have hs : SentB p ((sel C p t (left + 1) S).1.cu (some (c.1, c.2 - (left + 1)))) = SentB p ((sel C p t (left + 1) S).1.cu (some c)) + (left + 1) := by
              unfold SentB
              have hu := sumN_upd (F := sentB p ((sel C p t (left + 1) S).1.cu (some (c.1, c.2 - (left + 1))))) (G := sentB p ((sel C p t (left + 1) S).1.cu (some c))) hl fun j hj _ => by
                unfold sentB
                simp only [St.cu]
                split
                · rfl
                · rw [if_neg (Ne.symm hj), if_neg (Ne.symm hj)]
              have e1 : sentB p ((sel C p t (left + 1) S).1.cu (some (c.1, c.2 - (left + 1)))) c.1 = sz p c.1 - (c.2 - (left + 1)) := by
                unfold sentB
                simp only [St.cu]
                rw [if_neg (by simpa using q2), if_pos trivial]
              have e2 : sentB p ((sel C p t (left + 1) S).1.cu (some c)) c.1 = sz p c.1 - c.2 := by
                unfold sentB
                simp only [St.cu]
                rw [if_neg (by simpa using q2), if_pos trivial]
              rw [e1, e2] at hu
              omega
            omega
end Go.Mc
end
section
namespace Go.Mc
open Go.Pk Go.Np
theorem run_sent {C : Ch} {p : List Pk} (hp : Asc p) {c : Nat} : ∀ t, Rz p (run C p c t) ∧ SentB p (run C p c (t + 1)) ≤ SentB p (run C p c t) + c
  | 0 => by
    have h0 : Rz p (run C p c 0) := fun i r h => by cases h
    exact ⟨h0, (tk_sent hp c (run_inv hp 0).inT h0).2⟩
  | t + 1 => by
    have h0 := run_sent hp (C := C) (c := c) t
    have h1 := (tk_sent hp c (run_inv hp t).inT h0.1).1
    exact ⟨h1, (tk_sent hp c (run_inv hp (t + 1)).inT h1).2⟩
/- before the first arrival nothing is sent -/
theorem sent_zero {C : Ch} {p : List Pk} (hp : Asc p) {c t : Nat} {a : Int} (ha : ∀ i, i < p.length → a ≤ tm p i) (ht : (t : Int) ≤ a) : SentB p (run C p c t) = 0 := by
  have hI := run_inv hp (C := C) (c := c) t
  have hb : ∀ i, (run C p c t).bg i = false := fun i => by
    cases hb : (run C p c t).bg i with
    | false => rfl
    | true =>
      have := hI.b i hb
      have := ha i this.1
      omega
  have : ∀ n, sumN (sentB p (run C p c t)) n = 0 := by
    intro n
    induction n with
    | zero => rfl
    | succ n ih =>
      simp only [sumN]
      rw [ih]
      unfold sentB
      rcases hI.d n with h | h
      · rw [if_neg (by simpa using h)]
        cases hc : (run C p c t).cur with
        | none => rfl
        | some cc =>
          have := (hI.c cc.1 cc.2 hc).1
          rw [hb] at this; cases this
      · rw [hb] at h; cases h.1
  exact this _
theorem sent_le {C : Ch} {p : List Pk} (hp : Asc p) {c : Nat} {a : Nat} (ha : ∀ i, i < p.length → (a : Int) ≤ tm p i) : ∀ k, SentB p (run C p c (a + k)) ≤ c * k
  | 0 => by rw [Nat.add_zero, sent_zero hp ha (Int.le_refl _)]; exact Nat.zero_le _
  | k + 1 => by
    have h1 := sent_le hp (C := C) (c := c) ha k
    have h2 := (run_sent hp (C := C) (c := c) (a + k)).2
    rw [show a + k + 1 = a + (k + 1) by omega] at h2
    rw [Nat.mul_succ]; omega
/- the bytes that are done in a tick -/
def doneA (p : List Pk) (d : Nat → Int) (v : Int) (i : Nat) : Nat := sumN (fun k => if d k = v then sz p k else 0) i
/- the bytes that are done in some ticks -/
def doneS (p : List Pk) (d : Nat → Int) (a : Nat) : Nat → Nat
  | 0 => 0
  | k + 1 => doneS p d a k + doneA p d ((a + k : Nat) : Int) p.length
theorem doneS_eq {p : List Pk} {d : Nat → Int} {a : Nat} : ∀ k, doneS p d a k = sumN (fun i => if (a : Int) ≤ d i ∧ d i < ((a + k : Nat) : Int) then sz p i else 0) p.length
  | 0 => by
    have : ∀ n, sumN (fun i => if (a : Int) ≤ d i ∧ d i < ((a + 0 : Nat) : Int) then sz p i else 0) n = 0 := by
      intro n
      induction n with
      | zero => rfl
      | succ n ih => simp only [sumN] at *; rw [ih, if_neg (by omega)]
    rw [this]; rfl
  | k + 1 => by
    have hadd : ∀ n, sumN (fun i => if (a : Int) ≤ d i ∧ d i < ((a + k : Nat) : Int) then sz p i else 0) n + doneA p d ((a + k : Nat) : Int) n = sumN (fun i => if (a : Int) ≤ d i ∧ d i < ((a + (k + 1) : Nat) : Int) then sz p i else 0) n := by
      intro n
      induction n with
      | zero => rfl
      | succ n ih =>
        unfold doneA at ih ⊢
        simp only [sumN] at *
        by_cases e1 : (a : Int) ≤ d n ∧ d n < ((a + k : Nat) : Int)
        · rw [if_pos e1, if_neg (by omega), if_pos (by omega)]; omega
        · by_cases e2 : d n = ((a + k : Nat) : Int)
          · rw [if_neg e1, if_pos e2, if_pos (by omega)]; omega
          · rw [if_neg e1, if_neg e2, if_neg (by omega)]; omega
    simp only [doneS]
    rw [doneS_eq k, hadd]
/- a line sends at most its capacity in each tick from the first arrival on -/
theorem cap_ok {C : Ch} {p : List Pk} (hp : Asc p) {c N a k : Nat} (ha : ∀ i, i < p.length → (a : Int) ≤ tm p i) (hN : a + k ≤ N) : doneS p (run C p c N).dn a k ≤ c * k := by
  rw [doneS_eq]
  refine Nat.le_trans (sumN_le fun i _ => ?_) (sent_le hp (C := C) (c := c) ha k)
  unfold sentB
  have := run_cut hp (C := C) (c := c) hN i
  split
  · rename_i h
    have e : (run C p c (a + k)).dn i ≠ -1 := by rw [this, if_pos (by omega)]; omega
    simp only [e, ne_eq, not_false_eq_true, if_true]
    exact Nat.le_refl _
  · exact Nat.zero_le _
end Go.Mc
end
