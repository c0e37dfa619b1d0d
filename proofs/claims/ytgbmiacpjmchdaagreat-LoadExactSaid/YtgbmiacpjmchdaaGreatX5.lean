/-
  A text of the proofs of this seat: lemmas that the statements' proofs use; it states nothing of the program by itself beyond the contracts that its theorems bear. Conditions: those that stand in each theorem. Its short name: X5 Kq.
-/
import Derived.Test.YtgbmiacpjmchdaaGreatU1
import Derived.Test.YtgbmiacpjmchdaaGreatPl
import Derived.Test.YtgbmiacpjmchdaaGreatNd
set_option linter.unusedVariables false
set_option linter.unusedSimpArgs false
section
namespace Go.Proofs.YtgbmiacpjmchdaaGreat
open Go.Sx Go.Np Go.Cv Go.Tp Go.Fq Go.Lp
set_option maxRecDepth 4000
set_option maxHeartbeats 2000000
/- nets with small rates -/
structure RN (n : Nt) : Prop where
  c : chkN n = 0
  f : ∀ i, i < n.fl.length → (n.fl.getD i fl0).p ∣ 27720 ∧ 0 ≤ (n.fl.getD i fl0).q ∧ (n.fl.getD i fl0).q * (27720 / (n.fl.getD i fl0).p) ≤ 300000
def uwt (f : Fl) : Int := f.q * (27720 / f.p)
def wsum (n : Nt) : List Int → Int
  | [] => 0
  | x :: l => uwt (n.fl.getD x.toNat fl0) + wsum n l
abbrev fr (K : Int) : Rat := Rat.divInt K 27720
theorem fr_sm {K : Int} (h0 : 0 ≤ K) (h1 : K ≤ 1073741824) : Sm (fr K) := by
  obtain ⟨h2, h3⟩ := divInt_terms K 27720 (by decide)
  unfold Sm MT
  have d1 : K.natAbs / Nat.gcd K.natAbs (27720 : Int).natAbs ≤ K.natAbs := Nat.div_le_self _ _
  have d2 : (27720 : Int).natAbs / Nat.gcd K.natAbs (27720 : Int).natAbs ≤ (27720 : Int).natAbs := Nat.div_le_self _ _
  have d3 : (27720 : Int).natAbs = 27720 := rfl
  rw [if_pos (by omega)] at h3
  rw [h2, h3, Int.natAbs_natCast]
  omega
theorem fenc_sm {r : Rat} (h : Sm r) : fenc r = (r.num, (r.den : Int), 0) := by unfold fenc; rw [if_pos h]
theorem fr_add (A B : Int) : fr A + fr B = fr (A + B) := by
  unfold fr
  rw [Rat.divInt_add_divInt _ _ (by decide) (by decide), ← Int.add_mul, Rat.divInt_mul_right (by decide)]
theorem fr_rate {f : Fl} (hp : 1 ≤ f.p) (hd : f.p ∣ 27720) : Rat.divInt f.q f.p = fr (uwt f) := by
  obtain ⟨k, hk⟩ := hd
  have hk2 : (27720 : Int) / f.p = k := by rw [hk]; exact Int.mul_ediv_cancel_left _ (by omega)
  have hk0 : k ≠ 0 := by intro h; rw [h, Int.mul_zero] at hk; omega
  unfold fr uwt
  rw [hk2, hk, Rat.divInt_mul_right hk0]
theorem RN.rte {n : Nt} (h : RN n) {i : Nat} (hi : i < n.fl.length) : 0 ≤ uwt (n.fl.getD i fl0) ∧ uwt (n.fl.getD i fl0) ≤ 300000 ∧ rate (n.fl.getD i fl0).v (n.fl.getD i fl0).p (n.fl.getD i fl0).q = ((fr (uwt (n.fl.getD i fl0))).num, ((fr (uwt (n.fl.getD i fl0))).den : Int), 0) := by
  obtain ⟨hv, hf, hp, _⟩ := chk_ct h.c i hi
  obtain ⟨h1, h2, h3⟩ := h.f i hi
  generalize n.fl.getD i fl0 = f at *
  have h0 : 0 ≤ uwt f := Int.mul_nonneg h2 (Int.ediv_nonneg (by decide) (by omega))
  have hV : ValidP f.v f.p f.q := by
    have := hv.valid
    rw [show (((ctc f).2.1 : Nat) : Int) = f.p by show ((f.p.toNat : Nat) : Int) = f.p; omega] at this
    exact this
  refine ⟨h0, h3, ?_⟩
  unfold rate
  rw [if_neg (fun k => k hV), if_neg (fun k => k hf)]
  unfold fnew
  rw [if_neg (by omega), fr_rate hp h1, fenc_sm (fr_sm h0 (by have : uwt f ≤ 300000 := h3; omega))]
theorem fold_fr {n : Nt} (h : RN n) : ∀ (l : List Int) (A : Int), 0 ≤ A → A + 300000 * l.length ≤ 1000000000 → (∀ x ∈ l, 0 ≤ x ∧ x < n.fl.length) → foldE (uStep n) l ((fr A).num, ((fr A).den : Int)) = ((fr (A + wsum n l)).num, ((fr (A + wsum n l)).den : Int), 0) ∧ 0 ≤ wsum n l ∧ wsum n l ≤ 300000 * l.length
  | [], A, h0, h1, _ => by simp [foldE, wsum]
  | x :: l, A, h0, h1, hx => by
    have hx1 := hx x (by simp)
    rw [List.length_cons] at h1
    obtain ⟨i, rfl⟩ := Int.eq_ofNat_of_zero_le hx1.1
    obtain ⟨r1, r2, r3⟩ := h.rte (i := i) (by omega)
    have ih := fold_fr h l (A + uwt (n.fl.getD i fl0)) (by omega) (by push_cast at h1; omega) (fun y hy => hx y (List.mem_cons_of_mem _ hy))
    have hs : uStep n ((fr A).num, ((fr A).den : Int)) i = ((fr (A + uwt (n.fl.getD i fl0))).num, ((fr (A + uwt (n.fl.getD i fl0))).den : Int), 0) := by
      unfold uStep
      rw [Int.toNat_natCast, r3, if_neg (by simp)]
      have e1 : VF ((fr A).num, ((fr A).den : Int)) := vf_enc (fr_sm h0 (by push_cast at h1; omega))
      have e2 : VF ((fr (uwt (n.fl.getD i fl0))).num, ((fr (uwt (n.fl.getD i fl0))).den : Int)) := vf_enc (fr_sm r1 (by omega))
      unfold fadd
      rw [if_pos ⟨e1, e2⟩]
      rw [show val ((fr A).num, ((fr A).den : Int)) = fr A from val_enc, show val ((fr (uwt (n.fl.getD i fl0))).num, ((fr (uwt (n.fl.getD i fl0))).den : Int)) = fr (uwt (n.fl.getD i fl0)) from val_enc, fr_add]
      exact fenc_sm (fr_sm (by omega) (by push_cast at h1; omega))
    have hw : wsum n ((i : Int) :: l) = uwt (n.fl.getD i fl0) + wsum n l := by simp only [wsum]; rw [Int.toNat_natCast]
    rw [foldE, hs, if_neg (by simp), hw, ← Int.add_assoc]
    refine ⟨ih.1, by omega, ?_⟩
    rw [List.length_cons]; push_cast; omega
/- what is used, in a net with small rates -/
theorem used_fr {n : Nt} (h : RN n) {l : Nat} (hl : l < n.ln.length) : usedP n l = ((fr (wsum n (users n l))).num, ((fr (wsum n (users n l))).den : Int), 0) ∧ 0 ≤ wsum n (users n l) ∧ wsum n (users n l) ≤ 3000000 := by
  have hfl := (chkN_zero h.c).1
  have hul : (users n l).length ≤ 10 := by have := usr_len (n := n) (l := l) (i := n.fl.length); unfold users; omega
  have hU : usedP n l = foldE (uStep n) (users n l) (0, 1) := by
    unfold usedP; rw [if_neg (by have := h.c; omega), if_neg (by omega)]
  have := fold_fr h (users n l) 0 (by omega) (by omega) (fun x hx => by have := users_bd hx; omega)
  rw [show (((fr 0).num, ((fr 0).den : Int)) : Int × Int) = (0, 1) by decide +kernel, Int.zero_add] at this
  rw [hU]
  exact ⟨this.1, this.2.1, by omega⟩
theorem fcmp_fr {K c : Int} (hK : 0 ≤ K) (hK2 : K ≤ 3000000) (hc : 1 ≤ c) (hc2 : c ≤ 4000) : 0 < fcmp ((fr K).num, ((fr K).den : Int)) (c, 1) ↔ c * (fr K).den < (fr K).num := by
  have e1 : VF ((fr K).num, ((fr K).den : Int)) := vf_enc (fr_sm hK (by omega))
  have e2 : VF (c, 1) := ⟨by show (1 : Int) ≤ 1; omega, by show (1 : Int) ≤ 1073741824; omega, by show -1073741824 ≤ c; omega, by show c ≤ 1073741824; omega, by show Nat.gcd c.natAbs 1 = 1; exact Nat.gcd_one_right _⟩
  have hc := e2.cmp e1
  dsimp only at hc
  rw [Int.mul_one] at hc
  rw [hc]
  unfold fcmp
  rw [if_pos ⟨e1, e2⟩]
  constructor
  · intro h
    split at h
    · omega
    · split at h
      · assumption
      · omega
  · intro h
    rw [if_neg, if_pos h]
    · omega
    · intro h2; exact absurd (Std.lt_trans h h2) Rat.lt_irrefl
theorem chk_cap {n : Nt} (h : chkN n = 0) {i : Nat} (hi : i < n.ln.length) : 1 ≤ (n.ln.getD i ln0).c ∧ (n.ln.getD i ln0).c ≤ 4000 := by
  have h1 := (chkN_zero h).2.2.1 i hi
  unfold lineE at h1
  split at h1
  · contradiction
  · unfold lnErr at h1
    split at h1
    · contradiction
    · split at h1
      · contradiction
      · omega
/- which lines are overloaded -/
theorem over_fr {n : Nt} (h : RN n) : ∀ i, i ≤ n.ln.length → (ovS n i).2 = 0 ∧ ∀ x : Int, x ∈ (ovS n i).1 ↔ ∃ j : Nat, j < i ∧ x = j ∧ (n.ln.getD j ln0).c * (usedP n j).2.1 < (usedP n j).1
  | 0, _ => by simp [ovS]
  | i + 1, hi => by
    obtain ⟨h1, h2⟩ := over_fr h i (by omega)
    obtain ⟨u1, u2, u3⟩ := used_fr h (l := i) (by omega)
    obtain ⟨c1, c2⟩ := chk_cap h.c (i := i) (by omega)
    have hF := fcmp_fr (K := wsum n (users n i)) (c := (n.ln.getD i ln0).c) u2 u3 c1 c2
    have e1 : (usedP n i).1 = (fr (wsum n (users n i))).num := by rw [u1]
    have e2 : (usedP n i).2.1 = ((fr (wsum n (users n i))).den : Int) := by rw [u1]
    have e3 : (usedP n i).2.2 = 0 := by rw [u1]
    rw [← e1, ← e2] at hF
    simp only [ovS]
    rw [if_neg (by omega), if_neg (by omega)]
    split
    · rename_i hh
      refine ⟨rfl, fun x => ?_⟩
      rw [List.mem_append, h2, List.mem_singleton]
      constructor
      · rintro (⟨j, hj, hx, hc⟩ | hx)
        · exact ⟨j, by omega, hx, hc⟩
        · exact ⟨i, by omega, hx, hF.1 hh⟩
      · rintro ⟨j, hj, hx, hc⟩
        by_cases e : j = i
        · subst e; exact .inr hx
        · exact .inl ⟨j, by omega, hx, hc⟩
    · rename_i hh
      refine ⟨rfl, fun x => ?_⟩
      dsimp only
      rw [h2]
      constructor
      · rintro ⟨j, hj, hx, hc⟩; exact ⟨j, by omega, hx, hc⟩
      · rintro ⟨j, hj, hx, hc⟩
        by_cases e : j = i
        · subst e; exact absurd (hF.2 hc) hh
        · exact ⟨j, by omega, hx, hc⟩
end Go.Proofs.YtgbmiacpjmchdaaGreat
end
section
namespace Go.Proofs.YtgbmiacpjmchdaaGreat
open Go.Sx Go.Cv
set_option maxRecDepth 4000
set_option maxHeartbeats 2000000
theorem mulB {a b A B : Int} (ha : 0 ≤ a) (ha2 : a ≤ A) (hb : 0 ≤ b) (hb2 : b ≤ B) : 0 ≤ a * b ∧ a * b ≤ A * B :=
  ⟨Int.mul_nonneg ha hb, Int.mul_le_mul ha2 hb2 hb (by omega)⟩
theorem kAt_idx {vs : List Int} {p t : Nat} (hp : 1 ≤ p) (hn : p ≤ vs.length) (ht : vs.length ≤ t) : ((t - vs.length) / p + 1) * p ≤ t ∧ t - ((t - vs.length) / p + 1) * p < vs.length ∧ vs.length - p ≤ t - ((t - vs.length) / p + 1) * p ∧ (t - vs.length) / p + 1 ≤ t + 1 := by
  have h1 := Nat.div_add_mod (t - vs.length) p
  have h2 := Nat.mod_lt (t - vs.length) hp
  have h3 := Nat.div_le_self (t - vs.length) p
  rw [Nat.add_mul, Nat.one_mul, Nat.mul_comm]
  omega
theorem aP_Kq {A B K : Prop} (k : K) (a : A := by (simp only [zA, zT, zD, zC, zN, ints_len, zR, lnl, fll, stl]; omega)) (b : B := by (simp only [zA, zT, zD, zC, zN, ints_len, zR, lnl, fll, stl]; omega)) : (A ∧ B) ∧ K := ⟨⟨a, b⟩, k⟩
theorem kAt_ok (vs : List Int) (p : Nat) (q : Int) (h : VF vs p q) (t : Nat) (ht : t ≤ 1048576) : Ctr Tryz.prog 28 [crv vs p q, i64 t] [] (fun r o => o = [] ∧ r = i64 (val vs p q t)) := by
  refine fn_intro (E := env 0) tys_ok rfl rfl rfl Tryz.func28 (by kernel_rfl) rfl (by kernel_rfl) ?_
  have n1 := h.n1
  have n2 := h.n2
  have p1 := h.p1
  have p2 := h.p2
  have pn := h.pn
  have q0 := h.q0
  have q1 := h.q1
  have hil := ints_len vs
  (repeat' (conv => whnf); first | (refine aC (fun _ => ?_) (fun _ => ?_) <;> try (exfalso; omega)) | refine aS ?_ | refine aG ?_ | refine aD ?_ | refine aH ?_ | refine aP_Kq ?_ | refine aI ?_ | refine aJ ?_ | refine aW (.qs [0, 1, 2, 3, 4, 5, 6, 7, 8, 9, 10, 11, 12, 13, 14, 15] .nil) ?_ | fail); all_goals try (conv => whnf)
  · exact ⟨rfl, by rw [val_lt (by omega)]; rfl⟩
  · have hlast := h.v (vs.length - 1) (by omega)
    have hI : vs.getD (vs.length - 1) 0 = INF := by
      have hx := (by assumption : 4611686018427387904 ≤ vs.getD (((ints vs).length : Int) - 1).toNat 0)
      rw [hil, show ((vs.length : Int) - 1).toNat = vs.length - 1 by omega] at hx
      simp only [INF] at hlast ⊢; omega
    have := h.val_inf hI hI t (by omega)
    exact ⟨rfl, by rw [this]; rfl⟩
  have htn : vs.length ≤ t := by omega
  obtain ⟨i1, i2, i3, i4⟩ := kAt_idx p1 pn htn
  have hd : ((t : Int) - ((ints vs).length : Int) + p).tdiv p = (((t - vs.length) / p + 1 : Nat) : Int) := by
    rw [Int.tdiv_eq_ediv_of_nonneg (by omega), show (t : Int) - ((ints vs).length : Int) + p = ((t - vs.length : Nat) : Int) + 1 * p by rw [hil]; omega, Int.add_mul_ediv_right _ _ (by omega)]
    push_cast; rfl
  have hlast := h.v (vs.length - 1) (by omega)
  have hf : vs.getD (vs.length - 1) 0 ≠ INF := by
    have hx := (by assumption : ¬4611686018427387904 ≤ vs.getD (((ints vs).length : Int) - 1).toNat 0)
    rw [hil, show ((vs.length : Int) - 1).toNat = vs.length - 1 by omega] at hx
    simp only [INF]; omega
  have hne := h.noinf hf _ i2
  have hv : val vs p q t = vs.getD (t - ((t - vs.length) / p + 1) * p) 0 + (((t - vs.length) / p + 1 : Nat) : Int) * q := by
    unfold val
    rw [if_neg (by omega), if_neg (h.noinf hf _ i2)]
  have hvb := h.v (t - ((t - vs.length) / p + 1) * p) i2
  rw [hv]
  refine ⟨by omega, ?_⟩
  rw [hd]
  generalize (t - vs.length) / p + 1 = k at *
  have hkp : ((k * p : Nat) : Int) = (k : Int) * p := by push_cast; rfl
  generalize k * p = m at *
  have b := mulB (a := (k : Int)) (b := q) (A := 1048577) (B := 1073741824) (by omega) (by omega) (by omega) (by omega)
  (repeat' (conv => whnf); first | (refine aC (fun _ => ?_) (fun _ => ?_) <;> try (exfalso; omega)) | refine aS ?_ | refine aG ?_ | refine aD ?_ | refine aH ?_ | refine aP_Kq ?_ | refine aI ?_ | refine aJ ?_ | refine aW (.qs [0, 1, 2, 3, 4, 5, 6, 7, 8, 9, 10, 11, 12, 13, 14, 15] .nil) ?_ | refine ArOb.fits (by rw [← hkp]; omega) ?_ | fail); all_goals try (conv => whnf)
  all_goals rw [show ((t : Int) - (k : Int) * p).toNat = t - m by rw [← hkp]; omega]
  all_goals refine ArOb.fits (by simp only [INF] at hvb hne; omega) ?_
  (repeat' (conv => whnf); first | (refine aC (fun _ => ?_) (fun _ => ?_) <;> try (exfalso; omega)) | refine aS ?_ | refine aG ?_ | refine aD ?_ | refine aH ?_ | refine aP_Kq ?_ | refine aI ?_ | refine aJ ?_ | refine aW (.qs [0, 1, 2, 3, 4, 5, 6, 7, 8, 9, 10, 11, 12, 13, 14, 15] .nil) ?_ | fail); all_goals try (conv => whnf)
  all_goals exact ⟨rfl, rfl⟩
end Go.Proofs.YtgbmiacpjmchdaaGreat
end
