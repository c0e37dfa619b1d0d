/-
  A text of the proofs of this seat: lemmas that the statements' proofs use; it states nothing of the program by itself beyond the contracts that its theorems bear. Conditions: those that stand in each theorem. Its short name: Uk Ul.
-/
import Derived.Test.YtnlmmjmcackgjaaUj
import Derived.Test.YtnlmmjmcackgjaaUd
set_option linter.unusedVariables false
set_option linter.unusedSimpArgs false
section
namespace Go.Proofs.Ytnlmmjmcackgjaa
open Go.Sx Go.Np Go.Tp
set_option maxRecDepth 4000
set_option maxHeartbeats 2000000
--APPX eds_len, nts_len, ivs_len
theorem aP_Uk {A B K : Prop} (k : K) (a : A := by (simp only [zA, zT, zD, zC, zN, ints_len, zR, eds_len, nts_len, ivs_len]; omega)) (b : B := by (simp only [zA, zT, zD, zC, zN, ints_len, zR, eds_len, nts_len, ivs_len]; omega)) : (A ∧ B) ∧ K := ⟨⟨a, b⟩, k⟩
/-! the document's cycle of a wrong net -/
theorem rCycle_err (n : Nt) (hn : NL n) (h : chkN n ≠ 0) : Ctr Try.prog 29 [ntv n] [] (fun r o => o = [] ∧ r = .nil) := by
  refine fn_intro (E := env 0) tys_ok rfl rfl rfl Try.func29 (by kernel_rfl) rfl (by kernel_rfl) ?_
  have cE := rEdges_err n hn h
  have hll := lnl n.ln
  have h3 := hn.ln
  (repeat' (conv => whnf); first | refine AsgOb.nil ?_ | (refine aC (fun _ => ?_) (fun _ => ?_) <;> try (exfalso; omega)) | refine aS ?_ | refine aG ?_ | refine aD ?_ | refine aH ?_ | refine aP_Uk ?_ | refine aI ?_ | refine aJ ?_ | refine aW (.qs [0, 1, 2, 3, 4, 5, 6, 7, 8, 9] (.l 10 [] (.qs [11] .nil) .no)) ?_ | refine aW (.qs [0, 1, 2, 3, 4, 5, 6, 7, 8, 9, 10, 11, 12, 13, 14, 15, 16, 17, 18, 19, 20, 21, 22, 23, 24, 25, 26, 28, 29, 30, 31] (.l 27 [] (.qs [32, 33] .nil) .no)) ?_ | (refine aK [] cE ?_) | fail); all_goals try (conv => whnf)
  refine LoopOb.mk (Y := Unit) (st := fun _ => ⟨[(5, i64 0), (4, .nil), (3, .psl 2 (eds [])), (1, .ptr 0 0)], [.box [.psl 1 (strs n.nm), .psl 5 (lns n.ln), .psl 8 (fls n.fl)]]⟩) (inv := fun _ => True) (fun _ => 0) () [0] trivial (by (exact aL)) ?_
  rintro _ _
  have he0 : (eds []).length = 0 := rfl
  (repeat' (conv => whnf); first | refine AsgOb.nil ?_ | (refine aC (fun _ => ?_) (fun _ => ?_) <;> try (exfalso; omega)) | refine aS ?_ | refine aG ?_ | refine aD ?_ | refine aH ?_ | refine aP_Uk ?_ | refine aI ?_ | refine aJ ?_ | refine aW (.qs [0, 1, 2, 3, 4, 5, 6, 7, 8, 9] (.l 10 [] (.qs [11] .nil) .no)) ?_ | refine aW (.qs [0, 1, 2, 3, 4, 5, 6, 7, 8, 9, 10, 11, 12, 13, 14, 15, 16, 17, 18, 19, 20, 21, 22, 23, 24, 25, 26, 28, 29, 30, 31] (.l 27 [] (.qs [32, 33] .nil) .no)) ?_ | fail); all_goals try (conv => whnf)
  all_goals first
    | exact ⟨rfl, rfl⟩
    | (exfalso; simp only [eds_len, List.length_nil] at *; omega)
    | trace_state
end Go.Proofs.Ytnlmmjmcackgjaa
end
section
namespace Go.Proofs.Ytnlmmjmcackgjaa
open Go.Sx Go.Np Go.Tp
set_option maxRecDepth 4000
set_option maxHeartbeats 2000000
--APPX eds_len, nts_len, ivs_len
theorem aP_Ul {A B K : Prop} (k : K) (a : A := by (simp only [zA, zT, zD, zC, zN, ints_len, zR, eds_len, nts_len, ivs_len]; omega)) (b : B := by (simp only [zA, zT, zD, zC, zN, ints_len, zR, eds_len, nts_len, ivs_len]; omega)) : (A ∧ B) ∧ K := ⟨⟨a, b⟩, k⟩
/-! the same edges -/
theorem pairs_ok (l : List Ed) (hl : l.length ≤ 1000) : Ctr Try.prog 23 [.psl 2 (eds l), .psl 2 (eds l)] [] (fun r o => o = [] ∧ r = .bl true) := by
  refine fn_intro (E := env 0) tys_ok rfl rfl rfl Try.func23 (by kernel_rfl) rfl (by kernel_rfl) ?_
  have hle := eds_len l
  (repeat' (conv => whnf); first | refine aC (fun _ => ?_) (fun _ => ?_) | refine aS ?_ | refine aG ?_ | refine aD ?_ | refine aH ?_ | refine aP_Ul ?_ | refine aI ?_ | refine aJ ?_ | refine aW (.qs [0, 1, 2, 3, 4, 5, 6, 7, 8] .nil) ?_ | fail); all_goals try (conv => whnf)
  · omega
  refine LoopOb.mk (Y := Nat) (st := fun i => ⟨[(13, i64 i), (12, i64 (eds l).length), (4, .bl false), (0, .psl 2 (eds l)), (1, .psl 2 (eds l))], []⟩) (inv := fun i => i ≤ l.length) (fun i => l.length - i) 0 [] (by omega) (by (exact aL)) ?_
  intro i hi
  (repeat' (conv => whnf); first | refine aS ?_ | refine aG ?_ | refine aD ?_ | refine aH ?_ | refine aP_Ul ?_ | refine aI ?_ | refine aJ ?_ | refine aW (.qs [0, 1, 2, 3, 4, 5, 6, 7, 8] .nil) ?_ | fail); all_goals try (conv => whnf)
  refine CondOb.mk (fun hlt => ?_) (fun hlt => ?_)
  · have hil : i < l.length := by omega
    have hg := eds_get hil
    generalize l.getD i (0, 0) = e at *
    obtain ⟨x, y⟩ := e
    dsimp only at hg
    (repeat' (conv => whnf); first | refine ⟨i, _, rfl, hg, ?_⟩ | refine aC (fun _ => ?_) (fun _ => ?_) | refine aS ?_ | refine aG ?_ | refine aD ?_ | refine aH ?_ | refine aP_Ul ?_ | refine aI ?_ | refine aJ ?_ | refine aW (.qs [0, 1, 2, 3, 4, 5, 6, 7, 8] .nil) ?_ | fail); all_goals try (conv => whnf)
    · rename_i hc
      exact absurd ⟨rfl, rfl⟩ hc
    · exact ⟨i + 1, [], by omega, by omega, by (exact aL)⟩
  (repeat' (conv => whnf); first | refine aC (fun _ => ?_) (fun _ => ?_) | refine aS ?_ | refine aG ?_ | refine aD ?_ | refine aH ?_ | refine aP_Ul ?_ | refine aI ?_ | refine aJ ?_ | refine aW (.qs [0, 1, 2, 3, 4, 5, 6, 7, 8] .nil) ?_ | fail); all_goals try (conv => whnf)
  exact ⟨rfl, rfl⟩
end Go.Proofs.Ytnlmmjmcackgjaa
end
