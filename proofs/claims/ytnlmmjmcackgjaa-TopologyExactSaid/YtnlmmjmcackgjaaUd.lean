/-
  A text of the proofs of this seat: lemmas that the statements' proofs use; it states nothing of the program by itself beyond the contracts that its theorems bear. Conditions: those that stand in each theorem. Its short name: Ud.
-/
import Derived.Test.YtnlmmjmcackgjaaUc
set_option linter.unusedVariables false
set_option linter.unusedSimpArgs false
namespace Go.Proofs.Ytnlmmjmcackgjaa
open Go.Sx Go.Np Go.Tp
set_option maxRecDepth 4000
set_option maxHeartbeats 2000000
--APPX eds_len, nts_len, ivs_len
theorem aP_Ud {A B K : Prop} (k : K) (a : A := by (simp only [zA, zT, zD, zC, zN, ints_len, zR, eds_len, nts_len, ivs_len]; omega)) (b : B := by (simp only [zA, zT, zD, zC, zN, ints_len, zR, eds_len, nts_len, ivs_len]; omega)) : (A ∧ B) ∧ K := ⟨⟨a, b⟩, k⟩
/-! the document's order -/
theorem rEdges_err (n : Nt) (hn : NL n) (h : chkN n ≠ 0) : Ctr Try.prog 25 [ntv n] [] (fun r o => o = [] ∧ r = .psl 2 (eds [])) := by
  refine Ctr.imp ?_
  refine fn_intro (E := env 0) tys_ok rfl rfl rfl Try.func25 (by kernel_rfl) rfl (by kernel_rfl) ?_
  have cC := rCheck_ok n hn
  generalize chkN n = c at *
  (repeat' (conv => whnf); first | refine AsgOb.nil ?_ | (refine aC (fun _ => ?_) (fun _ => ?_) <;> try (exfalso; omega)) | refine aS ?_ | refine aG ?_ | refine aD ?_ | refine aH ?_ | refine aP_Ud ?_ | refine aI ?_ | refine aJ ?_ | refine aW (.qs [0, 1, 2, 3, 4, 5, 6, 7, 8, 9, 10] (.l 11 [] .nil .no)) ?_ | (refine aK [] cC ?_) | fail); all_goals try (conv => whnf)
  exact ⟨rfl, Imp.nil _⟩
def frb (E : Gr) (m : Nat) (out : List Nat) (b : Nat) : Bool := !out.contains b && (List.range m).all fun p => !E p b || out.contains p
def frl (l : List Ed) (out : List Nat) (b : Nat) : Bool := !out.contains b && l.all fun e => !Nat.beq e.2 b || out.contains e.1
theorem frl_eq {E : Gr} {m : Nat} {out : List Nat} {b : Nat} (hE : GOK E m) (hb : b < m) : frl (edg E m m) out b = frb E m out b := by
  unfold frl frb
  congr 1
  rw [Bool.eq_iff_iff]
  simp only [List.all_eq_true, Bool.or_eq_true, Bool.not_eq_true', List.mem_range]
  constructor
  · intro h p hp
    cases hpb : E p b
    · exact .inl rfl
    · rcases h (p, b) (mem_edg.2 ⟨hp, hb, hpb⟩) with h1 | h1
      · simp at h1
      · exact .inr h1
  · rintro h ⟨x, y⟩ he
    obtain ⟨h1, h2, h3⟩ := mem_edg.1 he
    dsimp only at h1 h2 h3 ⊢
    cases hy : Nat.beq y b
    · exact .inl rfl
    · have := Nat.eq_of_beq_eq_true hy
      subst this
      rcases h x h1 with h4 | h4
      · rw [h3] at h4; contradiction
      · exact .inr h4
def NxI (P : Nat → Bool) (m k : Nat) (z : Int) : Prop := (z = -1 ∧ ∀ b, k ≤ b → b < m → P b = false) ∨ ∃ a : Nat, z = a ∧ k ≤ a ∧ a < m ∧ P a = true ∧ ∀ b, k ≤ b → b < a → P b = false
theorem NxI.zero (P : Nat → Bool) (m : Nat) : NxI P m m (-1) := .inl ⟨rfl, fun b h1 h2 => by omega⟩
theorem NxI.no {P : Nat → Bool} {m k : Nat} {z : Int} (h : NxI P m (k + 1) z) (hk : P k = false) : NxI P m k z := by
  rcases h with ⟨h1, h2⟩ | ⟨a, h1, h2, h3, h4, h5⟩
  · refine .inl ⟨h1, fun b hb hm => ?_⟩
    by_cases e : b = k
    · subst e; exact hk
    · exact h2 b (by omega) hm
  · refine .inr ⟨a, h1, by omega, h3, h4, fun b hb hm => ?_⟩
    by_cases e : b = k
    · subst e; exact hk
    · exact h5 b (by omega) hm
theorem NxI.yes {P : Nat → Bool} {m k : Nat} (hm : k < m) (hk : P k = true) : NxI P m k k := .inr ⟨k, rfl, by omega, hm, hk, fun b h1 h2 => by omega⟩
theorem NxI.end {P : Nat → Bool} {m : Nat} {z : Int} (h : NxI P m 0 z) : (z = -1 ∧ (List.range m).find? P = none) ∨ ∃ a : Nat, z = a ∧ a < m ∧ (List.range m).find? P = some a := by
  rcases h with ⟨h1, h2⟩ | ⟨a, h1, h2, h3, h4, h5⟩
  · refine .inl ⟨h1, ?_⟩
    rw [List.find?_eq_none]
    intro b hb
    rw [h2 b (by omega) (List.mem_range.1 hb)]; simp
  · refine .inr ⟨a, h1, h3, ?_⟩
    rw [List.find?_range_eq_some]
    exact ⟨h4, List.mem_range.2 h3, fun b hb => by rw [h5 b (by omega) hb]; rfl⟩
theorem frl_take {l : List Ed} {out : List Nat} {b i : Nat} (h : i < l.length) : frl (l.take (i + 1)) out b = (frl (l.take i) out b && (!Nat.beq (l.getD i (0, 0)).2 b || out.contains (l.getD i (0, 0)).1)) := by
  unfold frl
  rw [List.take_add_one, List.all_append, List.getD_eq_getElem?_getD, List.getElem?_eq_getElem h, Bool.and_assoc]
  simp
theorem fr1 {u u2 c : Bool} {y k : Nat} (hst : u2 = (u && (!Nat.beq y k || c))) (h : u = true) (hy : (y : Int) ≠ k) : true = true ↔ u2 = true := by
  have e : Nat.beq y k = false := by
    cases hb : Nat.beq y k
    · rfl
    · have := Nat.eq_of_beq_eq_true hb; omega
  subst hst
  rw [h, e]; simp
theorem fr2 {u u2 c : Bool} {y k : Nat} (hst : u2 = (u && (!Nat.beq y k || c))) (h : u = true) (hy : ¬(y : Int) ≠ k) : c = true ↔ u2 = true := by
  have e : y = k := by omega
  subst hst e
  rw [h, Nat.beq_refl]; simp
theorem fr3 {u u2 c : Bool} (hst : u2 = (u && c)) (h : ¬u = true) : false = true ↔ u2 = true := by
  subst hst
  cases u
  · simp
  · exact absurd rfl h
theorem find_congr {P Q : Nat → Bool} : ∀ {l : List Nat}, (∀ x ∈ l, P x = Q x) → l.find? P = l.find? Q
  | [], _ => rfl
  | a :: t, h => by
    rw [List.find?_cons, List.find?_cons, h a (by simp), find_congr fun x hx => h x (by simp [hx])]
theorem nx_find {E : Gr} {m : Nat} {out : List Nat} (hE : GOK E m) : (List.range m).find? (frl (edg E m m) out) = nx E m out :=
  find_congr fun x hx => frl_eq hE (List.mem_range.1 hx)
theorem bls_add (L a : Nat) (out : List Nat) : (bls L (fun x => out.contains x)).set a [.bl true] = bls L (fun x => (out ++ [a]).contains x) := by
  rw [bls_set]
  refine bls_congr fun b _ => ?_
  by_cases e : b = a
  · subst e; simp
  · rw [if_neg e, Bool.eq_iff_iff]; simp [e]
end Go.Proofs.Ytnlmmjmcackgjaa
