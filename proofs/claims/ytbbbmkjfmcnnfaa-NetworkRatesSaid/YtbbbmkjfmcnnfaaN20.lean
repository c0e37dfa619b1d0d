/-
  A text of the proofs of this seat: lemmas that the statements' proofs use; it states nothing of the program by itself beyond the contracts that its theorems bear. Conditions: those that stand in each theorem. Its short name: N20.
-/
import Derived.Test.YtbbbmkjfmcnnfaaN17
import Derived.Test.YtbbbmkjfmcnnfaaKl
set_option linter.unusedVariables false
set_option linter.unusedSimpArgs false
namespace Go.Proofs.Ytbbbmkjfmcnnfaa
open Go.Sx Go.Np Go.Cv Go.Fq
set_option maxRecDepth 4000
set_option maxHeartbeats 2000000
theorem fr_eq (q p : Int) (hp : p ≠ 0) : q * ((Rat.divInt q p).den : Int) = (Rat.divInt q p).num * p := by
  have h := Rat.num_divInt_den (Rat.divInt q p)
  have := (Rat.divInt_eq_divInt_iff (by have := (Rat.divInt q p).den_nz; omega) hp).1 h
  omega
theorem fr_scale (q p t : Int) (ht : t ≠ 0) : fnew (q * t) (p * t) = fnew q p := by
  unfold fnew
  by_cases hp : p = 0
  · subst hp; simp
  · rw [if_neg (by intro h; rcases Int.mul_eq_zero.1 h with h | h <;> contradiction), if_neg hp, Rat.divInt_mul_right ht]
theorem fr_small (q p : Int) (h0 : 0 ≤ q) (h1 : q ≤ 1000) (h2 : 1 ≤ p) (h3 : p ≤ 1000) : 0 ≤ (Rat.divInt q p).num ∧ (Rat.divInt q p).num ≤ 1000 ∧ (Rat.divInt q p).den ≤ 1000 ∧ fnew q p = ((Rat.divInt q p).num, ((Rat.divInt q p).den : Int), 0) := by
  have hn : (Rat.divInt q p).num = q.tdiv (Nat.gcd q.natAbs p.natAbs) := (new_pos (by omega)).1.symm
  have hd : ((Rat.divInt q p).den : Int) = p.tdiv (Nat.gcd q.natAbs p.natAbs) := (new_pos (by omega)).2.symm
  have b1 := Int.tdiv_le_self (a := q) (Nat.gcd q.natAbs p.natAbs) h0
  have b2 := Int.tdiv_le_self (a := p) (Nat.gcd q.natAbs p.natAbs) (by omega)
  have b3 := Int.tdiv_nonneg h0 (show (0 : Int) ≤ (Nat.gcd q.natAbs p.natAbs : Nat) by omega)
  have hs : Sm (Rat.divInt q p) := by unfold Sm MT; omega
  refine ⟨by omega, by omega, by omega, ?_⟩
  unfold fnew fenc
  rw [if_neg (by omega), if_pos hs]
theorem stv_vf {b : Int} {p : Nat} {q : Int} (hb : 4 ≤ b ∧ b ≤ 16) (hp : 1 ≤ p ∧ p ≤ 12) (hq : 0 ≤ q ∧ q ≤ 3) : VF (stv b p) p q ∧ FinP (stv b p) := by
  have g : FlG 1 1 ⟨ByteArray.empty, [0], 0, 1, 1, stv b p, p, q⟩ := ⟨by dsimp only; omega, by dsimp only; omega, by dsimp only; omega, by simp, by simp, fun i j hij hj => by simp only [List.length_cons, List.length_nil] at hj; omega, ⟨b, hb.1, hb.2, by dsimp only; omega, by dsimp only; omega, by dsimp only [stv]; rw [Int.toNat_natCast], hq.1, hq.2⟩⟩
  have h := g.valid
  obtain ⟨p', e, hv⟩ := h.1.vf
  have : p' = p := by have : (p : Int) = p' := e; omega
  subst this
  exact ⟨hv, h.2⟩
theorem rate_small {v : List Int} {p : Nat} {q : Int} (h : VF v p q) (hf : FinP v) : rate v p q = fnew q p := by
  unfold rate
  rw [if_neg (fun k => k h.valid), if_neg (fun k => k hf)]
theorem stv_get {b : Int} {p j : Nat} : (stv b p).getD j 0 = INF ∨ (stv b p).getD j 0 ≤ max b 0 := by
  right
  cases j with
  | zero => simp [stv]; omega
  | succ j =>
    simp only [stv, List.getD_eq_getElem?_getD, List.getElem?_cons_succ, List.getElem?_replicate]
    split <;> simp <;> omega
theorem Rates_ok (l : List Int) (hl : l.length ≤ 9223372036854775807) (more times : Int) (m0 : 0 ≤ more) (m1 : more ≤ 255) (t0 : 0 ≤ times) (t1 : times ≤ 255) : Ctr Try.prog 5 [.psl 1 (ints l), .num .u8 more, .num .u8 times] [] (fun r o => r = .bl true) := by
  refine fn_intro (E := env 0) tys_ok rfl rfl rfl Try.func5 (by kernel_rfl) rfl (by kernel_rfl) ?_
  have hL : (l.take 2000).length ≤ 2000 := by rw [List.length_take]; omega
  obtain ⟨m, hm, hm2⟩ : ∃ m : Nat, more.tmod 9 = m ∧ m ≤ 8 := by
    obtain ⟨e1, e2, e3⟩ := tmod_bd m0 (show (1 : Int) ≤ 9 by omega)
    exact ⟨(more % 9).toNat, by omega, by omega⟩
  obtain ⟨t, ht, ht2⟩ : ∃ m : Nat, times.tmod 4 = m ∧ m ≤ 3 := by
    obtain ⟨e1, e2, e3⟩ := tmod_bd t0 (show (1 : Int) ≤ 4 by omega)
    exact ⟨(times % 4).toNat, by omega, by omega⟩
  obtain ⟨k, rfl⟩ : ∃ k : Nat, more = k := ⟨more.toNat, by omega⟩
  repeat' (conv => whnf
           first | (refine CondOb.mk (fun _ => ?_) (fun _ => ?_) <;> first | (exfalso; omega) | skip) | refine ArOb.fits (by first | omega | (simp only [ints_len] at *; omega)) ?_ | refine LitOb.vec ?_ | refine MakeOb.vec ?_ | refine AllocOb.box ?_ | refine AggOb.mk (by decide +kernel) ?_ | refine ArU.fits (by first | omega | (simp only [ints_len] at *; omega)) ?_ | refine ArB.fits (by first | omega | (simp only [ints_len] at *; omega)) ?_ | refine CutOb.split ?_ | refine Gh.mk [] ?_ | refine And.intro (And.intro (by (simp only [List.length_append, List.length_take, List.length_drop, List.length_cons, List.length_nil, ints_len, List.length_replicate, lnl, fll, stl]; omega)) (by (simp only [List.length_append, List.length_take, List.length_drop, List.length_cons, List.length_nil, ints_len, List.length_replicate, lnl, fll, stl]; omega))) ?_ | refine ⟨_, _, rfl, ints_get (by first | omega | (simp only [ints_len] at *; omega)), ?_⟩ | refine ⟨_, _, (Int.toNat_of_nonneg (by first | omega | (simp only [ints_len] at *; omega))).symm, ints_get (by first | omega | (simp only [ints_len] at *; omega)), ?_⟩ | refine DrawOb.mk [] (.qs [0, 2, 3, 4, 5, 6, 7] (.l 1 [5, 2] (.l 8 [] (.qs [9, 10] .nil) .no) .no)) (by decide +kernel) ?_ | (refine CallOb.mk [] (sane_ok) rfl (ImpL.refl _) rfl rfl ?_; rintro _ _ ⟨rfl, rfl⟩) | (refine CallOb.mk [] (New_ok l hl) rfl (ImpL.refl _) rfl rfl ?_; rintro _ _ ⟨rfl, rfl⟩) | fail)
  all_goals try (conv => whnf)
  · rfl
  refine CallOb.mk [0] (Contract_ok _ 0 hL (by omega)) rfl (ImpL.refl _) rfl rfl ?_
  rintro _ _ ⟨⟨⟨b, p, q⟩, k1⟩, ⟨⟨b1, b2⟩, ⟨p1, p2⟩, ⟨q1, q2⟩, hk1⟩, rfl, rfl⟩
  dsimp only at b1 b2 p1 p2 q1 q2 hk1 ⊢
  obtain ⟨hv, hf⟩ := stv_vf ⟨b1, b2⟩ ⟨p1, p2⟩ ⟨q1, q2⟩
  have hpt : p * (1 + t) ≤ 12 * 4 := Nat.mul_le_mul p2 (by omega)
  have hpt2 : t * p ≤ 3 * 12 := Nat.mul_le_mul ht2 p2
  have hkp : (1 + k) * p ≤ 256 * 12 := Nat.mul_le_mul (by omega) p2
  repeat' (conv => whnf
           first | (refine CondOb.mk (fun _ => ?_) (fun _ => ?_) <;> first | (exfalso; omega) | skip) | refine ArOb.fits (by first | omega | (simp only [ints_len] at *; omega)) ?_ | refine LitOb.vec ?_ | refine MakeOb.vec ?_ | refine AllocOb.box ?_ | refine AggOb.mk (by decide +kernel) ?_ | refine ArU.fits (by first | omega | (simp only [ints_len] at *; omega)) ?_ | refine ArB.fits (by first | omega | (simp only [ints_len] at *; omega)) ?_ | refine CutOb.split ?_ | refine Gh.mk [] ?_ | refine And.intro (And.intro (by (simp only [List.length_append, List.length_take, List.length_drop, List.length_cons, List.length_nil, ints_len, List.length_replicate, lnl, fll, stl]; omega)) (by (simp only [List.length_append, List.length_take, List.length_drop, List.length_cons, List.length_nil, ints_len, List.length_replicate, lnl, fll, stl]; omega))) ?_ | refine ⟨_, _, rfl, ints_get (by first | omega | (simp only [ints_len] at *; omega)), ?_⟩ | refine ⟨_, _, (Int.toNat_of_nonneg (by first | omega | (simp only [ints_len] at *; omega))).symm, ints_get (by first | omega | (simp only [ints_len] at *; omega)), ?_⟩ | refine DrawOb.mk [] (.qs [0, 2, 3, 4, 5, 6, 7] (.l 1 [5, 2] (.l 8 [] (.qs [9, 10] .nil) .no) .no)) (by decide +kernel) ?_ | refine ⟨by decide, ?_⟩ | fail)
  all_goals try (conv => whnf)
  refine CallOb.mk [] (Longer_ok (stv b p) p q m (1 + t) hv (by omega) (by omega) (by omega)) rfl ⟨Imp.refl _, Imp.num hm, Imp.num (by rw [ht]; push_cast; rfl), trivial⟩ rfl rfl ?_
  rintro _ _ ⟨⟨dv, dp, dq⟩, hd, rfl, rfl⟩
  have hdv : VC (dv, dp, dq) ∧ FinP dv ∧ dp = p * (1 + t) ∧ dq = q * ((1 + t : Nat) : Int) := by
    obtain ⟨h1, h2, h3, h4, h5⟩ := longP_vf hv (by omega) (fun j hj => by have := stv_get (b := b) (p := p) (j := j); omega) (by omega) (by omega) (by rw [stv_len, show 1 + t - 1 = t by omega]; omega) hd
    refine ⟨h1, h3.2 hf, ?_, ?_⟩
    · unfold LongP at hd; rw [if_pos (show FinC (stv b p, p, q) from hf)] at hd
      exact congrArg (·.2.1) hd
    · unfold LongP at hd; rw [if_pos (show FinC (stv b p, p, q) from hf)] at hd
      exact congrArg (·.2.2) hd
  clear hd
  obtain ⟨dv1, dv2, rfl, rfl⟩ := hdv
  dsimp only
  obtain ⟨s1, s2, s3, s4⟩ := fr_small q p (by omega) (by omega) (by omega) (by omega)
  have s5 := fr_eq q p (by omega)
  have r1 : rate (stv b p) p q = ((Rat.divInt q p).num, ((Rat.divInt q p).den : Int), 0) := by rw [rate_small hv hf, s4]
  have r2 : rate dv ((p * (1 + t) : Nat) : Int) (q * ((1 + t : Nat) : Int)) = ((Rat.divInt q p).num, ((Rat.divInt q p).den : Int), 0) := by
    rw [rate_small dv1 dv2, Int.natCast_mul, fr_scale _ _ _ (by omega), s4]
  have c1 := Rate_ok (stv b p) p q
  have c2 := Rate_ok dv ((p * (1 + t) : Nat) : Int) (q * ((1 + t : Nat) : Int))
  rw [r1] at c1
  rw [r2] at c2
  have a1 := kAt_ok (stv b p) p q hv 60 (by omega)
  have a2 := kAt_ok (stv b p) p q hv (60 + (1 + k) * p) (by omega)
  have e0 := (hv.per).mul (1 + k) 60 (by rw [stv_len]; omega)
  rw [e0] at a2
  have e1 : (((1 + k : Nat) : Int) * q) * ((Rat.divInt q p).den : Int) = (Rat.divInt q p).num * ((1 + k : Nat) : Int) * p := by
    rw [Int.mul_assoc, s5]; ac_rfl
  have v1 := hv.nonneg 60
  have v2 := hv.val_le hf 60
  have b3 := mulB (a := ((1 + k : Nat) : Int)) (b := q) (A := 256) (B := 3) (by omega) (by omega) (by omega) (by omega)
  have b4 := mulB (a := (Rat.divInt q p).num) (b := ((1 + k : Nat) : Int)) (A := 1000) (B := 256) (by omega) (by omega) (by omega) (by omega)
  have b5 := mulB (a := (Rat.divInt q p).num * ((1 + k : Nat) : Int)) (b := (p : Int)) (A := 256000) (B := 12) (by omega) (by omega) (by omega) (by omega)
  have hkp2 : (1 + (k : Int)) * p = (((1 + k) * p : Nat) : Int) := by push_cast; rfl
  have hk2 : (1 + (k : Int)) = ((1 + k : Nat) : Int) := by push_cast; rfl
  clear e0 s4 r1 r2 s5
  dsimp only [res] at c1 c2
  generalize (Rat.divInt q p).num = num at *
  generalize (Rat.divInt q p).den = den at *
  generalize val (stv b p) p q 60 = v60 at *
  generalize (((1 + k : Nat) : Int) * q) = kq at *
  generalize (1 + k) * p = kp at *
  repeat' (conv => whnf
           first | (refine CondOb.mk (fun _ => ?_) (fun _ => ?_) <;> first | (exfalso; omega) | skip) | refine ArOb.fits (by first | omega | (simp only [ints_len] at *; omega)) ?_ | refine LitOb.vec ?_ | refine MakeOb.vec ?_ | refine AllocOb.box ?_ | refine AggOb.mk (by decide +kernel) ?_ | refine ArU.fits (by first | omega | (simp only [ints_len] at *; omega)) ?_ | refine ArB.fits (by first | omega | (simp only [ints_len] at *; omega)) ?_ | refine CutOb.split ?_ | refine Gh.mk [] ?_ | refine And.intro (And.intro (by (simp only [List.length_append, List.length_take, List.length_drop, List.length_cons, List.length_nil, ints_len, List.length_replicate, lnl, fll, stl]; omega)) (by (simp only [List.length_append, List.length_take, List.length_drop, List.length_cons, List.length_nil, ints_len, List.length_replicate, lnl, fll, stl]; omega))) ?_ | refine ⟨_, _, rfl, ints_get (by first | omega | (simp only [ints_len] at *; omega)), ?_⟩ | refine ⟨_, _, (Int.toNat_of_nonneg (by first | omega | (simp only [ints_len] at *; omega))).symm, ints_get (by first | omega | (simp only [ints_len] at *; omega)), ?_⟩ | refine DrawOb.mk [] (.qs [0, 2, 3, 4, 5, 6, 7] (.l 1 [5, 2] (.l 8 [] (.qs [9, 10] .nil) .no) .no)) (by decide +kernel) ?_ | (refine CallOb.mk [] c1 rfl (ImpL.refl _) rfl rfl ?_; rintro _ _ ⟨rfl, rfl⟩) | (refine CallOb.mk [] c2 rfl (ImpL.refl _) rfl rfl ?_; rintro _ _ ⟨rfl, rfl⟩) | (refine CallOb.mk [] a1 rfl (ImpL.refl _) rfl rfl ?_; rintro _ _ ⟨rfl, rfl⟩) | refine ArOb.fits (by rw [hkp2]; omega) ?_ | (refine CallOb.mk [] a2 rfl ⟨Imp.refl _, Imp.num (by rw [hkp2]; push_cast; rfl), trivial⟩ rfl rfl ?_; rintro _ _ ⟨rfl, rfl⟩) | refine ArOb.fits (by rw [show v60 + kq - v60 = kq by omega, e1]; omega) ?_ | refine ArOb.fits (by rw [hk2]; omega) ?_ | (refine CallOb.mk [] (sane_ok) rfl (ImpL.refl _) rfl rfl ?_; rintro _ _ ⟨rfl, rfl⟩) | fail)
  all_goals try (conv => whnf)
  all_goals first
    | rfl
    | (exfalso; omega)
    | (exfalso; refine absurd ?_ (by assumption : ¬(v60 + kq - v60) * (den : Int) = num * (1 + (k : Int)) * p); rw [show v60 + kq - v60 = kq by omega, e1, hk2]; done)
    | (exfalso; refine absurd ?_ (by assumption : ¬conj _); simp [conj]; done)
    | trace_state
end Go.Proofs.Ytbbbmkjfmcnnfaa
