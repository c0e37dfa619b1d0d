/-
  A text of the proofs of this seat: lemmas that the statements' proofs use; it states nothing of the program by itself beyond the contracts that its theorems bear. Conditions: those that stand in each theorem. Its short name: Um.
-/
import Derived.Test.YtnlmmjmcackgjaaUk
import Derived.Test.YtnlmmjmcackgjaaUg
import Derived.Test.YtnlmmjmcackgjaaUf
import Derived.Test.YtnlmmjmcackgjaaT6
import Derived.Test.YtnlmmjmcackgjaaT7
import Derived.Test.YtnlmmjmcackgjaaT8
set_option linter.unusedVariables false
set_option linter.unusedSimpArgs false
namespace Go.Proofs.Ytnlmmjmcackgjaa
open Go.Sx Go.Np Go.Tp
set_option maxRecDepth 4000
set_option maxHeartbeats 2000000
/-! both sides by what they answer -/
theorem nts_ints (l : List Nat) : nts l = ints (l.map fun (x : Nat) => (x : Int)) := by simp [nts, ints]
theorem ivs_ints (m : Nat) (F : Nat → Int) : ivs m F = ints ((List.range m).map F) := by simp [ivs, ints]
noncomputable def ordX (n : Nt) : List Int × Bool := if chkN n = 0 then (match ord (adj n) n.ln.length with | some l => (l.map (fun (x : Nat) => (x : Int)), true) | none => ([], false)) else ([], false)
noncomputable def levX (n : Nt) : List Int × Bool := if chkN n = 0 then (match ord (adj n) n.ln.length with | some l => ((List.range n.ln.length).map (fun b => (lvs (adj n) l b : Int)), true) | none => ([], false)) else ([], false)
noncomputable def edgX (n : Nt) : List Ed := if chkN n = 0 then edg (adj n) n.ln.length n.ln.length else []
noncomputable def cutX (n : Nt) : List Ed := if chkN n = 0 then (cutF (edg (adj n) n.ln.length n.ln.length)).2 else []
noncomputable def cycX (n : Nt) : List Int := if chkN n = 0 then (match cyc (adj n) n.ln.length with | some l => l.map (fun (x : Nat) => (x : Int)) | none => []) else []
theorem tOrdX (n : Nt) (hn : NL n) : Ctr Try.prog 19 [ntv n] [] (fun r o => o = [] ∧ r = .tup [.psl 1 (ints (ordX n).1), .bl (ordX n).2]) := by
  by_cases h : chkN n = 0
  · cases hl : ord (adj n) n.ln.length with
    | none =>
      rw [show ordX n = ([], false) by unfold ordX; rw [if_pos h, hl]]
      exact tOrder_none n hn h hl
    | some l =>
      rw [show ordX n = (l.map (fun (x : Nat) => (x : Int)), true) by unfold ordX; rw [if_pos h, hl], ← nts_ints]
      exact tOrder_some n hn h hl
  · rw [show ordX n = ([], false) by unfold ordX; rw [if_neg h]]
    exact tOrder_err n hn h
theorem tLevX (n : Nt) (hn : NL n) : Ctr Try.prog 21 [ntv n] [] (fun r o => o = [] ∧ r = .tup [.psl 1 (ints (levX n).1), .bl (levX n).2]) := by
  by_cases h : chkN n = 0
  · cases hl : ord (adj n) n.ln.length with
    | none =>
      rw [show levX n = ([], false) by unfold levX; rw [if_pos h, hl]]
      exact tLevels_none n hn h hl
    | some l =>
      rw [show levX n = ((List.range n.ln.length).map (fun b => (lvs (adj n) l b : Int)), true) by unfold levX; rw [if_pos h, hl], ← ivs_ints]
      exact tLevels_some n hn h hl
  · rw [show levX n = ([], false) by unfold levX; rw [if_neg h]]
    exact tLevels_err n hn h
theorem tEdgX (n : Nt) (hn : NL n) : Ctr Try.prog 24 [ntv n] [] (fun r o => o = [] ∧ r = .psl 2 (eds (edgX n))) := by
  unfold edgX
  split
  · exact tEdges_ok n hn (by assumption)
  · exact tEdges_err n hn (by assumption)
theorem tCutX (n : Nt) (hn : NL n) : Ctr Try.prog 26 [ntv n] [] (fun r o => o = [] ∧ r = .psl 2 (eds (cutX n))) := by
  unfold cutX
  split
  · exact tCut_ok n hn (by assumption)
  · exact tCut_err n hn (by assumption)
theorem rOrdX (n : Nt) (hn : NL n) : Ctr Try.prog 20 [ntv n] [] (fun r o => o = [] ∧ r = .tup [.psl 1 (ints (ordX n).1), .bl (ordX n).2]) := by
  by_cases h : chkN n = 0
  · cases hl : ord (adj n) n.ln.length with
    | none =>
      rw [show ordX n = ([], false) by unfold ordX; rw [if_pos h, hl]]
      exact rOrder_none n hn h hl
    | some l =>
      rw [show ordX n = (l.map (fun (x : Nat) => (x : Int)), true) by unfold ordX; rw [if_pos h, hl], ← nts_ints]
      exact rOrder_some n hn h hl
  · rw [show ordX n = ([], false) by unfold ordX; rw [if_neg h]]
    exact rOrder_err n hn h
theorem rLevX (n : Nt) (hn : NL n) : Ctr Try.prog 22 [ntv n] [] (fun r o => o = [] ∧ r = .tup [.psl 1 (ints (levX n).1), .bl (levX n).2]) := by
  by_cases h : chkN n = 0
  · cases hl : ord (adj n) n.ln.length with
    | none =>
      rw [show levX n = ([], false) by unfold levX; rw [if_pos h, hl]]
      exact rLevels_none n hn h hl
    | some l =>
      rw [show levX n = ((List.range n.ln.length).map (fun b => (lvs (adj n) l b : Int)), true) by unfold levX; rw [if_pos h, hl], ← ivs_ints]
      exact rLevels_some n hn h hl
  · rw [show levX n = ([], false) by unfold levX; rw [if_neg h]]
    exact rLevels_err n hn h
theorem rEdgX (n : Nt) (hn : NL n) : Ctr Try.prog 25 [ntv n] [] (fun r o => o = [] ∧ r = .psl 2 (eds (edgX n))) := by
  unfold edgX
  split
  · exact rEdges_ok n hn (by assumption)
  · exact rEdges_err n hn (by assumption)
theorem rCutX (n : Nt) (hn : NL n) : Ctr Try.prog 27 [ntv n] [] (fun r o => o = [] ∧ r = .psl 2 (eds (cutX n))) := by
  unfold cutX
  split
  · exact rCut_ok n hn (by assumption)
  · exact rCut_err n hn (by assumption)
theorem tCycX (n : Nt) (hn : NL n) : Ctr Try.prog 15 [ntv n] [] (fun r o => o = [] ∧ r = .psl 1 (ints (cycX n))) := by
  refine Ctr.imp ?_
  unfold cycX
  split
  · refine (tCycle_ok n hn (by assumption)).weak fun r o ⟨h1, h2⟩ => ⟨h1, ?_⟩
    cases hc : cyc (adj n) n.ln.length with
    | none => rw [hc] at h2; rw [show r = .nil from h2]; exact Imp.nil _
    | some c => rw [hc] at h2; rw [show r = .psl 1 (nts c) from h2, nts_ints]; exact Imp.refl _
  · refine (tCycle_err n hn (by assumption)).weak fun r o ⟨h1, h2⟩ => ⟨h1, ?_⟩
    rw [h2]; exact Imp.nil _
theorem rCycX (n : Nt) (hn : NL n) : Ctr Try.prog 29 [ntv n] [] (fun r o => o = [] ∧ r = .psl 1 (ints (cycX n))) := by
  refine Ctr.imp ?_
  unfold cycX
  split
  · refine (rCycle_ok n hn (by assumption)).weak fun r o ⟨h1, h2⟩ => ⟨h1, ?_⟩
    cases hc : cyc (adj n) n.ln.length with
    | none => rw [hc] at h2; rw [show r = .nil from h2]; exact Imp.nil _
    | some c => rw [hc] at h2; rw [show r = .psl 1 (nts c) from h2, nts_ints]; exact Imp.refl _
  · refine (rCycle_err n hn (by assumption)).weak fun r o ⟨h1, h2⟩ => ⟨h1, ?_⟩
    rw [h2]; exact Imp.nil _
theorem edg_len64 {n : Nt} (h : chkN n = 0) : (edg (adj n) n.ln.length n.ln.length).length ≤ 64 := by
  have hL := (chkN_zero h).1
  have h1 := edg_len (E := adj n) (m := n.ln.length) (a := n.ln.length)
  have h2 : n.ln.length * n.ln.length ≤ 8 * 8 := Nat.mul_le_mul (by omega) (by omega)
  omega
theorem edgX_len (n : Nt) : (edgX n).length ≤ 1000 := by
  unfold edgX
  split
  · have := edg_len64 (n := n) (by assumption); omega
  · simp
theorem cutX_len (n : Nt) : (cutX n).length ≤ 1000 := by
  unfold cutX
  split
  · have := edg_len64 (n := n) (by assumption)
    have := (cutF_ok (edg (adj n) n.ln.length n.ln.length)).n
    omega
  · simp
theorem ordX_len (n : Nt) : (ordX n).1.length ≤ 1000 := by
  unfold ordX
  split
  · have hL := (chkN_zero (n := n) (by assumption)).1
    cases hl : ord (adj n) n.ln.length with
    | none => simp
    | some l =>
      have := (ord_some (adj_chk (n := n) (by assumption)) hl).2.1
      simp only [List.length_map]; omega
  · simp
theorem levX_len (n : Nt) : (levX n).1.length ≤ 1000 := by
  unfold levX
  split
  · have hL := (chkN_zero (n := n) (by assumption)).1
    cases hl : ord (adj n) n.ln.length with
    | none => simp
    | some l => simp only [List.length_map, List.length_range]; omega
  · simp
theorem cycX_len (n : Nt) : (cycX n).length ≤ 1000 := by
  unfold cycX
  split
  · have h : chkN n = 0 := by assumption
    have hL := (chkN_zero h).1
    rcases cyc_cases (adj_chk h) with ⟨_, h2⟩ | ⟨c, h1, hw, _⟩
    · rw [h2]; simp
    · rw [h1]
      have := nodup_le hw.n hw.b
      simp only [List.length_map]; omega
  · simp
end Go.Proofs.Ytnlmmjmcackgjaa
