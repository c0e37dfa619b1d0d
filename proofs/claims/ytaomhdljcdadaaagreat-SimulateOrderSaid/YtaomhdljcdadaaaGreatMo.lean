/-
  A text of the proofs of this seat: lemmas that the statements' proofs use; it states nothing of the program by itself beyond the contracts that its theorems bear. Conditions: those that stand in each theorem. Its short name: Mo Mp.
-/
import Derived.Test.YtaomhdljcdadaaaGreatMq
set_option linter.unusedVariables false
set_option linter.unusedSimpArgs false
section
namespace Go.Mc
open Go.Pk Go.Np
/-! queues of a network -/
theorem idx_nat {l : Nat} : ∀ {rt : List Int}, (∀ x ∈ rt, 0 ≤ x) → (rt.map Int.toNat).idxOf l = rt.idxOf (l : Int) ∧ (l ∈ rt.map Int.toNat ↔ (l : Int) ∈ rt)
  | [], _ => by simp
  | x :: rt, h => by
    obtain ⟨h1, h2⟩ := idx_nat (l := l) (rt := rt) fun y hy => h y (by simp [hy])
    have hx := h x (by simp)
    by_cases e : x = (l : Int)
    · subst e; simp
    · have e2 : ¬x.toNat = l := by omega
      refine ⟨?_, ?_⟩
      · rw [List.map_cons, List.idxOf_cons, List.idxOf_cons, h1]
        have b1 : (x.toNat == l) = false := by simp [e2]
        have b2 : (x == (l : Int)) = false := by simp [e]
        rw [b1, b2]
      · rw [List.map_cons, List.mem_cons, List.mem_cons, h2]
        constructor
        · rintro (h | h)
          · exact absurd h.symm e2
          · exact .inr h
        · rintro (h | h)
          · exact absurd h.symm e
          · exact .inr h
/- routes of a network whose numbers are right -/
structure RtP (n : Nt) (p : List Pk) : Prop where
  f : ∀ i, i < p.length → 0 ≤ (p.getD i pk0).f ∧ (p.getD i pk0).f < n.fl.length
  r : ∀ i, i < p.length → ∀ x ∈ (pfl n (p.getD i pk0)).rt, 0 ≤ x
theorem hop_hp {n : Nt} {p : List Pk} (hR : RtP n p) {i l : Nat} (hi : i < p.length) : hop n (p.getD i pk0).f l = match hp (toF n p) l i with
    | some h => (h : Int)
    | none => -1 := by
  obtain ⟨f1, f2⟩ := hR.f i hi
  obtain ⟨h1, h2⟩ := idx_nat (l := l) (hR.r i hi)
  unfold hop hp
  rw [if_neg (by omega)]
  show (if (l : Int) ∈ (pfl n (p.getD i pk0)).rt then (((pfl n (p.getD i pk0)).rt.idxOf (l : Int) : Nat) : Int) else -1) = _
  by_cases hm : (l : Int) ∈ (pfl n (p.getD i pk0)).rt
  · rw [if_pos hm, if_pos (show l ∈ (toF n p).rt i from h2.2 hm)]
    show _ = ((((pfl n (p.getD i pk0)).rt.map Int.toNat).idxOf l : Nat) : Int)
    rw [h1]
  · rw [if_neg hm, if_neg (show ¬l ∈ (toF n p).rt i from fun h => hm (h2.1 h))]
theorem hop_neg {n : Nt} {p : List Pk} (hR : RtP n p) {i : Nat} {l : Int} (hl : l < 0) (hi : i < p.length) : hop n (p.getD i pk0).f l = -1 := by
  obtain ⟨f1, f2⟩ := hR.f i hi
  unfold hop
  rw [if_neg (by omega), if_neg fun hm => by have := hR.r i hi l hm; omega]
/- the arrival of a packet at a line -/
def arL (n : Nt) (p : List Pk) (D : Tp) (l : Int) (i : Nat) : Option Int := if l < 0 then none else match hp (toF n p) l.toNat i with
  | some h => arr (toF n p) D i h
  | none => none
theorem arO_arL {n : Nt} {p : List Pk} (hR : RtP n p) {D : Tp} {l : Int} {i : Nat} (hi : i < p.length) : arO n p D i (hop n (p.getD i pk0).f l) = arL n p D l i := by
  obtain ⟨f1, f2⟩ := hR.f i hi
  unfold arL
  by_cases hl : l < 0
  · rw [if_pos hl, hop_neg hR hl hi, arO_neg (.inl (by omega))]
  · rw [if_neg hl]
    obtain ⟨l, rfl⟩ : ∃ k : Nat, l = k := ⟨l.toNat, by omega⟩
    rw [hop_hp hR hi, Int.toNat_natCast]
    cases hh : hp (toF n p) l i with
    | none => exact arO_neg (.inl (by simp only; omega))
    | some h =>
      have h1 := hp_some hh
      have h2 : h < (pfl n (p.getD i pk0)).rt.length := by simpa [toF] using h1.1
      have h3 : hps n p i = ((pfl n (p.getD i pk0)).rt.length : Nat) := by
        unfold hps
        rw [Int.toNat_natCast, if_neg (by omega)]
      simp only
      unfold arO
      rw [h3, if_neg (by omega), Int.toNat_natCast, Int.toNat_natCast]
/- the queue among the first packets -/
noncomputable def quL (n : Nt) (p : List Pk) (D : Tp) (l : Int) : Nat → List Wt
  | 0 => []
  | i + 1 => match arL n p D l i with
    | none => quL n p D l i
    | some a => insW ⟨a, (p.getD i pk0).f, i⟩ (quL n p D l i)
theorem quL_nat {n : Nt} {p : List Pk} {D : Tp} {l : Nat} : ∀ i, quL n p D l i = quN (toF n p) D l i
  | 0 => rfl
  | i + 1 => by
    simp only [quL, quN, quL_nat i]
    unfold arL
    rw [if_neg (by omega), Int.toNat_natCast]
    cases hp (toF n p) l i with
    | none => rfl
    | some h => rfl
theorem quL_neg {n : Nt} {p : List Pk} {D : Tp} {l : Int} (h : l < 0) : ∀ i, quL n p D l i = []
  | 0 => rfl
  | i + 1 => by
    simp only [quL, quL_neg h i]
    unfold arL
    rw [if_pos h]
theorem quL_ok {n : Nt} {p : List Pk} {D : Tp} {l : Int} (i : Nat) : (quL n p D l i).Pairwise Wt.lt ∧ ∀ x ∈ quL n p D l i, x.i < i := by
  by_cases h : l < 0
  · rw [quL_neg h]; exact ⟨List.Pairwise.nil, fun x hx => by simp at hx⟩
  · obtain ⟨l, rfl⟩ : ∃ k : Nat, l = k := ⟨l.toNat, by omega⟩
    rw [quL_nat]
    obtain ⟨h1, h2⟩ := quN_ok (toF n p) D l i
    exact ⟨h1, fun x hx => ((h2 x).1 hx).1⟩
theorem quL_len {n : Nt} {p : List Pk} {D : Tp} {l : Int} : ∀ (i : Nat), (quL n p D l i).length ≤ i
  | 0 => by simp [quL]
  | i + 1 => by
    have ih := quL_len (n := n) (p := p) (D := D) (l := l) i
    have hin : ∀ (x : Wt) (q : List Wt), (insW x q).length = q.length + 1 := by
      intro x q
      induction q with
      | nil => rfl
      | cons y q ih => simp only [insW]; split <;> simp [ih]
    simp only [quL]
    cases arL n p D l i with
    | none => simp only; omega
    | some a => simp only [hin]; omega
end Go.Mc
end
section
namespace Go.Mc
open Go.Pk Go.Np
/-! the queue out of the arrivals, sorted -/
/- the arrivals at a line, in the order of the packets -/
def arQ (n : Nt) (p : List Pk) (D : Tp) (l : Int) : Nat → List Wt
  | 0 => []
  | i + 1 => match arL n p D l i with
    | none => arQ n p D l i
    | some a => arQ n p D l i ++ [⟨a, (p.getD i pk0).f, i⟩]
theorem arQ_mem {n : Nt} {p : List Pk} {D : Tp} {l : Int} {x : Wt} : ∀ {i : Nat}, x ∈ arQ n p D l i ↔ x.i < i ∧ x.f = (p.getD x.i pk0).f ∧ arL n p D l x.i = some x.a
  | 0 => by simp [arQ]
  | i + 1 => by
    have ih := arQ_mem (n := n) (p := p) (D := D) (l := l) (x := x) (i := i)
    simp only [arQ]
    cases ha : arL n p D l i with
    | none =>
      simp only
      rw [ih]
      constructor
      · rintro ⟨h1, h2⟩; exact ⟨by omega, h2⟩
      · rintro ⟨h1, h2, h3⟩
        refine ⟨?_, h2, h3⟩
        rcases Nat.lt_succ_iff_lt_or_eq.1 h1 with h | h
        · exact h
        · rw [h, ha] at h3; cases h3
    | some a =>
      simp only
      rw [List.mem_append, ih, List.mem_singleton]
      constructor
      · rintro (⟨h1, h2⟩ | rfl)
        · exact ⟨by omega, h2⟩
        · exact ⟨by simp, rfl, ha⟩
      · rintro ⟨h1, h2, h3⟩
        rcases Nat.lt_succ_iff_lt_or_eq.1 h1 with h | h
        · exact .inl ⟨h, h2, h3⟩
        · refine .inr ?_
          rw [h, ha] at h3
          rw [h] at h2
          exact Wt.ext' (Option.some.inj h3).symm h2 h
theorem quL_mem {n : Nt} {p : List Pk} {D : Tp} {l : Int} {x : Wt} : ∀ {i : Nat}, x ∈ quL n p D l i ↔ x.i < i ∧ x.f = (p.getD x.i pk0).f ∧ arL n p D l x.i = some x.a
  | 0 => by simp [quL]
  | i + 1 => by
    have ih := quL_mem (n := n) (p := p) (D := D) (l := l) (x := x) (i := i)
    simp only [quL]
    cases ha : arL n p D l i with
    | none =>
      simp only
      rw [ih]
      constructor
      · rintro ⟨h1, h2⟩; exact ⟨by omega, h2⟩
      · rintro ⟨h1, h2, h3⟩
        refine ⟨?_, h2, h3⟩
        rcases Nat.lt_succ_iff_lt_or_eq.1 h1 with h | h
        · exact h
        · rw [h, ha] at h3; cases h3
    | some a =>
      simp only
      rw [insW_mem, ih]
      constructor
      · rintro (rfl | ⟨h1, h2⟩)
        · exact ⟨by simp, rfl, ha⟩
        · exact ⟨by omega, h2⟩
      · rintro ⟨h1, h2, h3⟩
        rcases Nat.lt_succ_iff_lt_or_eq.1 h1 with h | h
        · exact .inr ⟨h, h2, h3⟩
        · refine .inl ?_
          rw [h, ha] at h3
          rw [h] at h2
          exact Wt.ext' (Option.some.inj h3).symm h2 h
theorem arQ_nodup {n : Nt} {p : List Pk} {D : Tp} {l : Int} : ∀ i, (arQ n p D l i).Nodup
  | 0 => by simp [arQ]
  | i + 1 => by
    simp only [arQ]
    cases ha : arL n p D l i with
    | none => exact arQ_nodup i
    | some a =>
      simp only
      rw [List.nodup_append]
      refine ⟨arQ_nodup i, by simp, fun x hx y hy => ?_⟩
      rw [List.mem_singleton] at hy
      have := (arQ_mem.1 hx).1
      rintro rfl
      rw [hy] at this
      simp at this
theorem arQ_len {n : Nt} {p : List Pk} {D : Tp} {l : Int} : ∀ i, (arQ n p D l i).length ≤ i
  | 0 => by simp [arQ]
  | i + 1 => by
    have := arQ_len (n := n) (p := p) (D := D) (l := l) i
    simp only [arQ]
    cases arL n p D l i with
    | none => simp only; omega
    | some a => simp only [List.length_append, List.length_singleton]; omega
/- whatever sorts the arrivals makes the queue -/
theorem sort_quL {n : Nt} {p : List Pk} {D : Tp} {l : Int} {i : Nat} {q : List Wt} (hp : q.Perm (arQ n p D l i)) (hs : q.Pairwise fun x y => ¬y.lt x) : q = quL n p D l i := by
  have hnd : q.Nodup := hp.nodup_iff.2 (arQ_nodup i)
  refine ord_uniq ?_ (quL_ok i).1 fun x => by rw [hp.mem_iff, arQ_mem, quL_mem]
  have : q.Pairwise fun x y => ¬y.lt x ∧ x ≠ y := List.Pairwise.and hs hnd
  refine this.imp fun {x y} h => ?_
  rcases Wt.lt_tri x y with k | k | k
  · exact k
  · exact absurd k h.2
  · exact absurd k h.1
/- comparing as cmp.Compare does -/
def cmpI (x y : Int) : Int := if x < y then -1 else if y < x then 1 else 0
def cmpW (x y : Wt) : Int := if cmpI x.a y.a ≠ 0 then cmpI x.a y.a else if cmpI x.f y.f ≠ 0 then cmpI x.f y.f else cmpI x.i y.i
theorem cmpW_lt {x y : Wt} : cmpW x y < 0 ↔ x.lt y := by
  unfold cmpW cmpI Wt.lt
  constructor
  · intro h
    (repeat' split at h) <;> omega
  · intro h
    (repeat' split) <;> omega
end Go.Mc
end
