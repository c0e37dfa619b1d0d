/-
  A text of the proofs of this seat: lemmas that the statements' proofs use; it states nothing of the program by itself beyond the contracts that its theorems bear. Conditions: those that stand in each theorem. Its short name: X19.
-/
import Derived.Test.YtnlmmjmcackgjaaX18
import Derived.Test.YtnlmmjmcackgjaaNq
import Derived.Test.YtnlmmjmcackgjaaPl
set_option linter.unusedVariables false
set_option linter.unusedSimpArgs false
namespace Go.Proofs.Ytnlmmjmcackgjaa
open Go.Sx Go.Np Go.Cv Go.Tp Go.Fq
set_option maxRecDepth 4000
set_option maxHeartbeats 2000000
theorem mem_hop {n : Nt} {l c x : Int} (h : x ∈ members n l c) : ∃ i k : Nat, x = i ∧ i < n.fl.length ∧ hop n x l = k ∧ k < (n.fl.getD i fl0).rt.length ∧ (n.fl.getD i fl0).cl = c := by
  obtain ⟨h1, hc⟩ := mem_mbr.1 h
  obtain ⟨j, h2, rfl, h3⟩ := mem_usr.1 h1
  rw [Int.toNat_natCast] at hc
  have h4 := (hop_nn (n := n) (i := j) (l := l) h2).1 h3
  refine ⟨j, (n.fl.getD j fl0).rt.idxOf l, rfl, h2, ?_, List.idxOf_lt_length_of_mem h4, hc⟩
  unfold hop
  rw [if_neg (by omega), Int.toNat_natCast, if_pos h4]
/- what is known of the contract of a flow at a line -/
abbrev AtQ (n : Nt) (d : List (List Int)) (l x : Int) (c : C3) : Prop := ∃ s, mv n d l x = some s ∧ s ≤ 1600 ∧ VC c ∧ FinC c ∧ ∀ t, cv c t = ahd (ctc (n.fl.getD x.toNat fl0)) s t
theorem lAtQ (n : Nt) (hn : NL n) (hst : ∀ i, i < n.fl.length → StC (n.fl.getD i fl0)) (d : List (List Int)) (hd : DL d) (hS : ShapeP n d) (l c x : Int) (h : x ∈ members n l c) :
    Ctr Try.prog 35 [ntv n, .psl 1 (dls d), i64 x, i64 (hop n x l)] [] (fun r o => ∃ y : C3 × Int, ((y.2 = 0 → AtQ n d l x y.1) ∧ ((∃ s, mv n d l x = some s) → y.2 = 0)) ∧ o = [] ∧ r = .tup [crv y.1.1 y.1.2.1 y.1.2.2, i64 y.2]) := by
  obtain ⟨i, k, rfl, hi, hk, hkl, _⟩ := mem_hop h
  have hm : mv n d l i = bef d (n.fl.getD i fl0) k := by unfold mv; rw [hk, Int.toNat_natCast, Int.toNat_natCast]
  rw [hk]
  cases hb : bef d (n.fl.getD i fl0) k with
  | none => exact (lAtN hn hd hS hi hkl hb).mono fun r o ⟨h1, h2⟩ => ⟨(([], 0, 0), 5), ⟨fun h => by omega, fun ⟨s, hs⟩ => by rw [hm, hb] at hs; contradiction⟩, h1, h2⟩
  | some s =>
    have h4 := (chk_fl hS.c i hi).l2
    have hs := bef_le hS (chk_fl hS.c i hi) (i := k) (s := s) (by omega) hb
    exact (lAtS hn hd hS hi hkl hb (hst i hi) (by omega)).mono fun r o ⟨c, ⟨c1, c2, c3, _⟩, h2, h3⟩ => ⟨(c, 0), ⟨fun _ => ⟨s, by rw [hm, hb], by omega, c1, c2, by rw [Int.toNat_natCast]; exact c3⟩, fun _ => rfl⟩, h2, h3⟩
theorem ClassS_ok (n : Nt) (hn : NL n) (hb : n.fl.length ≤ 5) (hst : ∀ i, i < n.fl.length → StC (n.fl.getD i fl0)) (d : List (List Int)) (hd : DL d) (hS : ShapeP n d) (l c : Int) (hl : 0 ≤ l ∧ l < n.ln.length) (hc : 0 ≤ c ∧ c < (n.ln.getD l.toNat ln0).n) :
    Ctr Try.prog 83 [ntv n, .psl 1 (dls d), i64 l, i64 c] [] (fun r o => ∃ y : C3 × Int, (y.2 = 0 → SumP n d l (members n l c) y.1) ∧ o = [] ∧ r = .tup [crv y.1.1 y.1.2.1 y.1.2.2, i64 y.2]) := by
  have hul : (users n l).length ≤ 5 := by have := usr_len (n := n) (l := l) (i := n.fl.length); unfold users; omega
  have hml : (members n l c).length ≤ 5 := by have := mbr_len (n := n) (c := c) (a := users n l); unfold members; omega
  have := Class_ok n hn (by omega) d hd hS l c hl hc (by omega) (fun i a => SumP n d l ((members n l c).take i) a) (SumP.zero n d l) (fun i a hi hI => by
    have hx : (members n l c).getD i 0 ∈ members n l c := Go.Np.getD_in hi
    have ht : (members n l c).take (i + 1) = (members n l c).take i ++ [(members n l c).getD i 0] := by
      rw [List.take_succ_eq_append_getElem hi]; simp [List.getD_eq_getElem?_getD, hi]
    obtain ⟨j, k, hj, hjl, _⟩ := mem_hop hx
    have hf : StC (n.fl.getD ((members n l c).getD i 0).toNat fl0) := by rw [hj, Int.toNat_natCast]; exact hst j hjl
    rw [ht]
    generalize (members n l c).getD i 0 = x at *
    have htl : ((members n l c).take i).length ≤ 10 := by rw [List.length_take]; omega
    generalize (members n l c).take i = ms at *
    refine ClassC_ok n hn d l a x (AtQ n d l x) _ ((lAtQ n hn hst d hd hS l c x hx).mono fun r o ⟨y, h1, h2, h3⟩ => ⟨y, h1.1, h2, h3⟩) ?_
    rintro c' ⟨s, s1, s2, v1, f1, e1⟩
    have hper : Per (cv c') 1 12 (rt12 (n.fl.getD x.toNat fl0)) := fun t ht => by rw [e1, e1]; exact hf.ahd_per s t ht
    refine (Sum_ok a c' hI.v v1 hI.f f1 fun a' b' ha hb' => com_12 (nf_dvd ha.2.2.2 hI.per) (nf_dvd hb'.2.2.2 hper)).mono ?_
    rintro r o ⟨y, hy, h1, h2⟩
    obtain ⟨b, hb1, rfl⟩ := hI.step htl s1 s2 hf e1 (F := pl2 a c') (fun t => rfl) hy (pl2_mono hI.v v1)
    exact ⟨b, hb1, h1, h2⟩)
  exact this.mono fun r o ⟨y, h1, h2, h3⟩ => ⟨y, fun h => by have := h1 h; rwa [List.take_length] at this, h2, h3⟩
theorem ContractsS_ok (n : Nt) (hn : NL n) (hb : n.fl.length ≤ 5) (hst : ∀ i, i < n.fl.length → StC (n.fl.getD i fl0)) (d : List (List Int)) (hd : DL d) (hS : ShapeP n d) (l : Int) (N : Nat) (hl : 0 ≤ l ∧ l < n.ln.length) (hN : (n.ln.getD l.toNat ln0).n = N) (hN6 : N ≤ 6) :
    Ctr Try.prog 44 [ntv n, .psl 1 (dls d), i64 l] [] (fun r o => ∃ y : List C3 × Int, (y.2 = 0 → y.1.length = N ∧ ∀ c, c < N → SumP n d l (members n l c) (y.1.getD c ([], 0, 0))) ∧ o = [] ∧ r = .tup [.psl 3 (y.1.map cvw), i64 y.2]) :=
  Contracts_ok n hn d hd hS l N hl hN hN6 (fun c b => SumP n d l (members n l c) b) fun c hc => ClassS_ok n hn hb hst d hd hS l c hl ⟨by omega, by omega⟩
theorem stc_uwt {f : Fl} (h : StC f) : uwt f = 2310 * rt12 f := by
  obtain ⟨k, hk, hk2, _⟩ := h.rt
  have p1 := h.p1
  have e : f.p * (k : Int) = 12 := by
    have h1 : ((k * f.p.toNat : Nat) : Int) = 12 := by omega
    push_cast at h1
    rw [Int.toNat_of_nonneg (by omega)] at h1
    rw [Int.mul_comm]; exact h1
  have e2 : (27720 : Int) / f.p = 2310 * k := by
    rw [show (27720 : Int) = f.p * (2310 * k) by rw [← Int.mul_assoc, Int.mul_comm f.p, Int.mul_assoc, e]; rfl]
    exact Int.mul_ediv_cancel_left _ (by omega)
  unfold uwt
  rw [e2, ← hk2, Int.mul_comm, Int.mul_assoc]
theorem wsum_q {n : Nt} (hst : ∀ i, i < n.fl.length → StC (n.fl.getD i fl0)) : ∀ l : List Int, (∀ x ∈ l, 0 ≤ x ∧ x < n.fl.length) → wsum n l = 2310 * qsm n l
  | [], _ => rfl
  | x :: l, h => by
    have := h x (by simp)
    simp only [wsum, qsm]
    rw [stc_uwt (hst x.toNat (by omega)), wsum_q hst l fun y hy => h y (List.mem_cons_of_mem _ hy), Int.mul_add]
theorem RN_of {n : Nt} (hc : chkN n = 0) (hst : ∀ i, i < n.fl.length → StC (n.fl.getD i fl0)) : RN n := ⟨hc, fun i hi => by
  have h := hst i hi
  obtain ⟨_, _, _, r1, r2⟩ := h.rt
  have hu := stc_uwt h
  refine ⟨Int.dvd_trans h.pd (by decide), h.q1, ?_⟩
  show uwt (n.fl.getD i fl0) ≤ 300000
  omega⟩
theorem sumP_rate {n : Nt} {d : List (List Int)} {l : Int} {ms : List Int} {a : C3} (h : SumP n d l ms a) (hl : ms.length ≤ 10) : rate a.1 a.2.1 a.2.2 = ((fr (2310 * qsm n ms)).num, ((fr (2310 * qsm n ms)).den : Int), 0) := by
  have q1 := h.q
  have c1 := h.v.p1
  have hsm := fr_sm (K := 2310 * qsm n ms) (by omega) (by omega)
  have m1 := h.per.mul a.2.1
  have m2 := (show Per (cv a) (a.1.length - a.2.1) a.2.1 a.2.2 from h.v.per).mul 12
  rw [Nat.mul_comm] at m1
  have e := m1.uniq m2
  unfold rate
  rw [if_neg (fun k => k h.v.valid), if_neg (fun k => k h.f)]
  unfold fnew
  rw [if_neg (by omega), show Rat.divInt a.2.2 (a.2.1 : Int) = fr (2310 * qsm n ms) from (Rat.divInt_eq_divInt_iff (by omega) (by omega)).2 (by
    rw [show (27720 : Int) = 2310 * 12 by rfl, Int.mul_assoc, Int.mul_comm (qsm n ms), e]
    rw [Int.mul_comm a.2.2, Int.mul_assoc]; rfl), fenc_sm hsm]
end Go.Proofs.Ytnlmmjmcackgjaa
