/-
  A text of the proofs of this seat: lemmas that the statements' proofs use; it states nothing of the program by itself beyond the contracts that its theorems bear. Conditions: those that stand in each theorem. Its short name: Xc.
-/
import Derived.Test.YtnlmmjmcackgjaaX4
import Derived.Test.YtnlmmjmcackgjaaX5
import Derived.Test.YtnlmmjmcackgjaaX8
import Derived.Test.YtnlmmjmcackgjaaPl
import Derived.Test.YtnlmmjmcackgjaaNv
set_option linter.unusedVariables false
set_option linter.unusedSimpArgs false
namespace Go.Proofs.Ytnlmmjmcackgjaa
open Go.Sx Go.Np Go.Cv Go.Tp Go.Fq
set_option maxRecDepth 4000
set_option maxHeartbeats 2000000
theorem DelP.shape {n : Nt} {d : List (List Int)} (h : DelP n n.ln.length d) (hc : chkN n = 0) : ShapeP n d := ⟨hc, h.l, fun i hi => h.r i (by have := h.l; omega), fun i hi j hj => by
  have := h.b i (by have := h.l; omega) _ (Go.Np.getD_in (d := 0) hj)
  omega⟩
theorem dv12 : ∀ p : Nat, p < 13 → 1 ≤ p → ((p : Nat) : Int) ∣ 27720 ∧ (0 : Int) ≤ 27720 / ((p : Nat) : Int) ∧ 27720 / ((p : Nat) : Int) ≤ 27720 := by decide +kernel
theorem lAtN {n : Nt} (hn : NL n) {d : List (List Int)} (hd : DL d) (hS : ShapeP n d) {i h : Nat} (hi : i < n.fl.length) (hh : h < (n.fl.getD i fl0).rt.length) (hb : bef d (n.fl.getD i fl0) h = none) :
    Ctr Try.prog 35 [ntv n, .psl 1 (dls d), i64 i, i64 h] [] (fun r o => o = [] ∧ r = .tup [crv [] 0 0, i64 5]) :=
  (lAt_ok n hn d hd i h).mono fun r o ⟨x, h1, h2, h3⟩ => by
    have hP : HopP n i h := ⟨by omega, by omega, by omega, by rw [Int.toNat_natCast]; omega⟩
    rcases h1 with ⟨a, _⟩ | ⟨_, a, _⟩ | ⟨_, _, a⟩
    · exact absurd hS a
    · exact absurd hP a
    · rw [Int.toNat_natCast, Int.toNat_natCast] at a
      rcases a with ⟨_, rfl⟩ | ⟨s, e, _⟩
      · exact ⟨h2, h3⟩
      · rw [hb] at e; contradiction
theorem lAtS {n : Nt} (hn : NL n) {d : List (List Int)} (hd : DL d) (hS : ShapeP n d) {i h s : Nat} (hi : i < n.fl.length) (hh : h < (n.fl.getD i fl0).rt.length) (hb : bef d (n.fl.getD i fl0) h = some s) (hf : StC (n.fl.getD i fl0)) (hs : s ≤ 1600) :
    Ctr Try.prog 35 [ntv n, .psl 1 (dls d), i64 i, i64 h] [] (fun r o => ∃ c : C3, (VC c ∧ FinC c ∧ (∀ t, cv c t = ahd (ctc (n.fl.getD i fl0)) s t) ∧ (n.fl.getD i fl0).q * (c.2.1 : Int) = c.2.2 * (n.fl.getD i fl0).p) ∧ o = [] ∧ r = .tup [crv c.1 c.2.1 c.2.2, i64 0]) :=
  (lAt_ok n hn d hd i h).mono fun r o ⟨x, h1, h2, h3⟩ => by
    have hP : HopP n i h := ⟨by omega, by omega, by omega, by rw [Int.toNat_natCast]; omega⟩
    rcases h1 with ⟨a, _⟩ | ⟨_, a, _⟩ | ⟨_, _, a⟩
    · exact absurd hS a
    · exact absurd hP a
    · rw [Int.toNat_natCast, Int.toNat_natCast] at a
      rcases a with ⟨e, _⟩ | ⟨s', e, hm⟩
      · rw [hb] at e; contradiction
      · rw [hb] at e
        have : s' = s := by simpa using e.symm
        subst this
        obtain ⟨c, c1, c2, c3, rfl, c5⟩ := hf.ahead hs hm
        exact ⟨c, ⟨c1, c2, c3, c5⟩, h2, h3⟩
theorem rate_same {c : C3} (hv : VC c) (hfi : FinC c) {f : Fl} (hf : StC f) (h : f.q * (c.2.1 : Int) = c.2.2 * f.p) : ∃ r1 r2 : Int, rate c.1 c.2.1 c.2.2 = (r1, r2, 0) ∧ rate f.v f.p f.q = (r1, r2, 0) := by
  have p1 := hf.p1
  have p2 := hf.p2
  have q1 := hf.q1
  have q2 := hf.q2
  have c1 := hv.p1
  obtain ⟨p, hp⟩ := Int.eq_ofNat_of_zero_le (show 0 ≤ f.p by omega)
  obtain ⟨d1, d2, d3⟩ := dv12 p (by omega) (by omega)
  rw [← hp] at d1 d2 d3
  have hm := Int.mul_le_mul q2 d3 d2 (by omega)
  have h0 : 0 ≤ uwt f := Int.mul_nonneg q1 d2
  have hsm := fr_sm h0 (by unfold uwt; omega)
  have hV : ValidP f.v f.p f.q := by
    have := hf.v.valid
    rw [show (((ctc f).2.1 : Nat) : Int) = f.p by show ((f.p.toNat : Nat) : Int) = f.p; omega] at this
    exact this
  have e2 : rate f.v f.p f.q = ((fr (uwt f)).num, ((fr (uwt f)).den : Int), 0) := by
    unfold rate
    rw [if_neg (fun k => k hV), if_neg (fun k => k hf.n)]
    unfold fnew
    rw [if_neg (by omega), fr_rate p1 d1, fenc_sm hsm]
  have e1 : rate c.1 c.2.1 c.2.2 = ((fr (uwt f)).num, ((fr (uwt f)).den : Int), 0) := by
    unfold rate
    rw [if_neg (fun k => k hv.valid), if_neg (fun k => k hfi)]
    unfold fnew
    rw [if_neg (by omega), show Rat.divInt c.2.2 (c.2.1 : Int) = Rat.divInt f.q f.p from (Rat.divInt_eq_divInt_iff (by omega) (by omega)).2 (by rw [h]), fr_rate p1 d1, fenc_sm hsm]
  exact ⟨_, _, e1, e2⟩
end Go.Proofs.Ytnlmmjmcackgjaa
