/-
  A text of the proofs of this seat: lemmas that the statements' proofs use; it states nothing of the program by itself beyond the contracts that its theorems bear. Conditions: those that stand in each theorem. Its short name: Ue.
-/
import Derived.Test.YtnlmmjmcackgjaaUd
set_option linter.unusedVariables false
set_option linter.unusedSimpArgs false
namespace Go.Proofs.Ytnlmmjmcackgjaa
open Go.Sx Go.Np Go.Tp
set_option maxRecDepth 4000
set_option maxHeartbeats 2000000
--APPX eds_len, nts_len, ivs_len
theorem aP_Ue {A B K : Prop} (k : K) (a : A := by (simp only [zA, zT, zD, zC, zN, ints_len, zR, eds_len, nts_len, ivs_len]; omega)) (b : B := by (simp only [zA, zT, zD, zC, zN, ints_len, zR, eds_len, nts_len, ivs_len]; omega)) : (A ∧ B) ∧ K := ⟨⟨a, b⟩, k⟩
/-! the document's order -/
theorem rOrder_err (n : Nt) (hn : NL n) (h : chkN n ≠ 0) : Ctr Try.prog 20 [ntv n] [] (fun r o => o = [] ∧ r = .tup [.psl 1 (nts []), .bl false]) := by
  refine Ctr.imp ?_
  refine fn_intro (E := env 0) tys_ok rfl rfl rfl Try.func20 (by kernel_rfl) rfl (by kernel_rfl) ?_
  have cC := rCheck_ok n hn
  generalize chkN n = c at *
  (repeat' (conv => whnf); first | refine AsgOb.nil ?_ | (refine aC (fun _ => ?_) (fun _ => ?_) <;> try (exfalso; omega)) | refine aS ?_ | refine aG ?_ | refine aD ?_ | refine aH ?_ | refine aP_Ue ?_ | refine aI ?_ | refine aJ ?_ | (refine aK [] cC ?_) | fail); all_goals try (conv => whnf)
  exact ⟨rfl, Imp.tup ⟨Imp.nil _, Imp.refl _, trivial⟩⟩
theorem rOrder_ok (n : Nt) (hn : NL n) (h : chkN n = 0) : Ctr Try.prog 20 [ntv n] [] (fun r o => ∃ (x : List Nat × Bool), (match ord (adj n) n.ln.length with | some l => x = (l, true) | none => x = ([], false)) ∧ o = [] ∧ r = .tup [.psl 1 (nts x.1), .bl x.2]) := by
  refine Ctr.impE ?_
  refine fn_intro (E := env 0) tys_ok rfl rfl rfl Try.func20 (by kernel_rfl) rfl (by kernel_rfl) ?_
  have cC := rCheck_ok n hn
  have cE := rEdges_ok n hn h
  rw [h] at cC
  have hL := (chkN_zero h).1
  have hll := lnl n.ln
  have hE := adj_chk h
  generalize hLe : n.ln.length = L at *
  generalize adj n = E at *
  have hel := edg_len (E := E) (m := L) (a := L)
  have hmm : L * L ≤ 8 * 8 := Nat.mul_le_mul (by omega) (by omega)
  have hfr := fun out => nx_find (out := out) hE
  have hmem : ∀ e ∈ edg E L L, e.1 < L ∧ e.2 < L := fun e he => let h := mem_edg.1 he; ⟨h.1, h.2.1⟩
  generalize edg E L L = l at *
  have hle := eds_len l
  have hrep := rep_bls L
  (repeat' (conv => whnf); first | refine aC (fun _ => ?_) (fun _ => ?_) | refine aS ?_ | refine aG ?_ | refine aD ?_ | refine aH ?_ | refine aP_Ue ?_ | refine aI ?_ | refine aJ ?_ | refine ⟨_, _, rfl, rfl, Nat.le_refl _, ⟨by (simp only; omega), by omega⟩, ?_⟩ | (refine aK [] cC ?_) | (refine aK [] cE ?_) | fail); all_goals try (conv => whnf)
  · contradiction
  have e0 : bls L (fun x => List.contains [] x) = List.replicate (lns n.ln).length [.bl false] := by rw [hll]; exact hrep.symm
  refine LoopOb.mk (Y := List Nat) (st := fun out => ⟨[(6, .vec 2), (5, .vec 1), (4, .psl 2 (eds l)), (1, .ptr 0 0)], [.box [.psl 1 (strs n.nm), .psl 5 (lns n.ln), .psl 8 (fls n.fl)], .vec 1 (bls L (fun x => out.contains x)), .vec 1 (nts out)]⟩)
    (inv := fun out => kahn E L (L - out.length) out = ord E L ∧ out.length ≤ L) (fun out => L - out.length) [] [0, 2, 3] ⟨by simp; rfl, by simp⟩ (by rw [e0]; (exact aL)) ?_
  rintro out ⟨h1, h2⟩
  have hnl := nts_len out
  (repeat' (conv => whnf); first | refine aS ?_ | refine aG ?_ | refine aD ?_ | refine aH ?_ | refine aP_Ue ?_ | refine aI ?_ | refine aJ ?_ | fail); all_goals try (conv => whnf)
  refine CondOb.mk (fun hlt => ?_) (fun hlt => ?_)
  · have holt : out.length < L := by omega
    (repeat' (conv => whnf); first | refine aC (fun _ => ?_) (fun _ => ?_) | refine aS ?_ | refine aG ?_ | refine aD ?_ | refine aH ?_ | refine aP_Ue ?_ | refine aI ?_ | refine aJ ?_ | fail); all_goals try (conv => whnf)
    refine LoopOb.mk (Y := Nat × Int) (st := fun y => ⟨[(8, i64 ((y.1 : Int) - 1)), (7, i64 y.2), (6, .vec 2), (5, .vec 1), (4, .psl 2 (eds l)), (1, .ptr 0 0)], [.box [.psl 1 (strs n.nm), .psl 5 (lns n.ln), .psl 8 (fls n.fl)], .vec 1 (bls L (fun x => out.contains x)), .vec 1 (nts out)]⟩)
      (inv := fun y => y.1 ≤ L ∧ NxI (frl l out) L y.1 y.2) (fun y => y.1) (L, -1) [0, 1, 2] ⟨by simp, NxI.zero _ _⟩ (by (exact aL)) ?_
    rintro ⟨k, z⟩ ⟨hk, hN⟩
    dsimp only at hk hN ⊢
    (repeat' (conv => whnf); first | refine aS ?_ | refine aG ?_ | refine aD ?_ | refine aH ?_ | refine aP_Ue ?_ | refine aI ?_ | refine aJ ?_ | fail); all_goals try (conv => whnf)
    refine CondOb.mk (fun hge => ?_) (fun hge => ?_)
    · obtain ⟨k, rfl⟩ : ∃ j, k = j + 1 := ⟨k - 1, by omega⟩
      have hck := bls_get (m := L) (b := k) (f := fun x => out.contains x) (by omega)
      have hbl := bls_len L (fun x => out.contains x)
      (repeat' (conv => whnf); first | refine aC (fun _ => ?_) (fun _ => ?_) | refine aS ?_ | refine aG ?_ | refine aH ?_ | refine aP_Ue ?_ | refine aI ?_ | refine aJ ?_ | fail); all_goals try (conv => whnf)
      refine CutOb.cut (Y := Int) (st := fun z => ⟨[(8, i64 k), (7, i64 z), (6, .vec 2), (5, .vec 1), (4, .psl 2 (eds l)), (1, .ptr 0 0)], [.box [.psl 1 (strs n.nm), .psl 5 (lns n.ln), .psl 8 (fls n.fl)], .vec 1 (bls L (fun x => out.contains x)), .vec 1 (nts out)]⟩) (inv := fun z => NxI (frl l out) L k z) ?_ ?_
      · cases hoc : out.contains k <;> rw [hoc] at hck
        · have hp : true = true ↔ frl (l.take 0) out k = true := iff_of_true rfl (by unfold frl; rw [hoc]; rfl)
          (repeat' (conv => whnf); first | refine ⟨_, hck, ?_⟩ | refine ⟨k, by omega, by omega, ?_⟩ | refine aC (fun _ => ?_) (fun _ => ?_) | refine aS ?_ | refine aG ?_ | refine aD ?_ | refine aH ?_ | refine aP_Ue ?_ | refine aI ?_ | refine aJ ?_ | fail); all_goals try (conv => whnf)
          refine LoopOb.mk (Y := Nat) (st := fun i => ⟨[(10, i64 i), (9, .bp (frl (l.take i) out k = true)), (8, i64 k), (7, i64 z), (6, .vec 2), (5, .vec 1), (4, .psl 2 (eds l)), (1, .ptr 0 0)], [.box [.psl 1 (strs n.nm), .psl 5 (lns n.ln), .psl 8 (fls n.fl)], .vec 1 (bls L (fun x => out.contains x)), .vec 1 (nts out)]⟩)
            (inv := fun i => i ≤ l.length) (fun i => l.length - i) 0 [0, 1, 2] (by omega) (by refine Le.mk (by kernel_rfl) ?_ ?_ <;> repeat' (first | exact True.intro | refine And.intro ?_ ?_ | exact Imp.refl _ | exact Imp.bl hp | exact Imp.num (by omega) | exact rfl)) ?_
          intro i hi
          (repeat' (conv => whnf); first | refine aS ?_ | refine aG ?_ | refine aD ?_ | refine aH ?_ | refine aP_Ue ?_ | refine aI ?_ | refine aJ ?_ | fail); all_goals try (conv => whnf)
          refine CondOb.mk (fun hlt2 => ?_) (fun hlt2 => ?_)
          · have hil : i < l.length := by omega
            have hg := eds_get hil
            have hb := hmem _ (ed_memU hil)
            have hst := frl_take (out := out) (b := k) hil
            generalize hu2 : frl (l.take (i + 1)) out k = u2 at hst
            generalize frl (l.take i) out k = u at *
            generalize l.getD i (0, 0) = e at *
            obtain ⟨x, y⟩ := e
            dsimp only at hb hg hst
            have hcx := bls_get (m := L) (b := x) (f := fun x => out.contains x) hb.1
            generalize out.contains x = c at *
            (repeat' (conv => whnf); first | refine ⟨_, hcx, ?_⟩ | refine ⟨x, rfl, by omega, ?_⟩ | refine ⟨1, rfl, by omega, ?_⟩ | refine ⟨0, rfl, by omega, ?_⟩ | refine ⟨i, _, rfl, hg, ?_⟩ | refine aC (fun _ => ?_) (fun _ => ?_) | refine aS ?_ | refine aG ?_ | refine aD ?_ | refine aH ?_ | refine aP_Ue ?_ | refine aI ?_ | refine aJ ?_ | fail); all_goals try (conv => whnf)
            · have hp : true = true ↔ u2 = true := fr1 hst (by assumption) (by assumption)
              refine ⟨i + 1, [0, 1, 2], by omega, by omega, ?_⟩
              rw [hu2]
              refine Le.mk (by kernel_rfl) ?_ ?_ <;> repeat' (first | exact True.intro | refine And.intro ?_ ?_ | exact Imp.refl _ | exact Imp.bl hp | exact Imp.num (by omega) | exact rfl)
            · have hp : c = true ↔ u2 = true := fr2 hst (by assumption) (by assumption)
              refine ⟨i + 1, [0, 1, 2], by omega, by omega, ?_⟩
              rw [hu2]
              refine Le.mk (by kernel_rfl) ?_ ?_ <;> repeat' (first | exact True.intro | refine And.intro ?_ ?_ | exact Imp.refl _ | exact Imp.bl hp | exact Imp.num (by omega) | exact rfl)
            · have hp : false = true ↔ u2 = true := fr3 hst (by assumption)
              refine ⟨i + 1, [0, 1, 2], by omega, by omega, ?_⟩
              rw [hu2]
              refine Le.mk (by kernel_rfl) ?_ ?_ <;> repeat' (first | exact True.intro | refine And.intro ?_ ?_ | exact Imp.refl _ | exact Imp.bl hp | exact Imp.num (by omega) | exact rfl)
          have e : i = l.length := by omega
          rw [e, List.take_length]
          clear hp
          (repeat' (conv => whnf); first | refine aC (fun _ => ?_) (fun _ => ?_) | refine aS ?_ | refine aG ?_ | refine aD ?_ | refine aH ?_ | refine aP_Ue ?_ | refine aI ?_ | refine aJ ?_ | fail); all_goals try (conv => whnf)
          · exact ⟨k, [0, 1, 2], NxI.yes (by omega) (by assumption), by (exact aL)⟩
          · exact ⟨z, [0, 1, 2], hN.no (by simpa using ‹¬frl l out k = true›), by (exact aL)⟩
        · have hf : frl l out k = false := by unfold frl; rw [hoc]; rfl
          (repeat' (conv => whnf); first | refine ⟨_, hck, ?_⟩ | refine ⟨k, by omega, by omega, ?_⟩ | refine aC (fun _ => ?_) (fun _ => ?_) | refine aS ?_ | refine aG ?_ | refine aD ?_ | refine aH ?_ | refine aP_Ue ?_ | refine aI ?_ | refine aJ ?_ | fail); all_goals try (conv => whnf)
          refine LoopOb.mk (Y := Nat) (st := fun i => ⟨[(10, i64 i), (9, .bl false), (8, i64 k), (7, i64 z), (6, .vec 2), (5, .vec 1), (4, .psl 2 (eds l)), (1, .ptr 0 0)], [.box [.psl 1 (strs n.nm), .psl 5 (lns n.ln), .psl 8 (fls n.fl)], .vec 1 (bls L (fun x => out.contains x)), .vec 1 (nts out)]⟩)
            (inv := fun i => i ≤ l.length) (fun i => l.length - i) 0 [0, 1, 2] (by omega) (by (exact aL)) ?_
          intro i hi
          (repeat' (conv => whnf); first | refine aS ?_ | refine aG ?_ | refine aD ?_ | refine aH ?_ | refine aP_Ue ?_ | refine aI ?_ | refine aJ ?_ | fail); all_goals try (conv => whnf)
          refine CondOb.mk (fun hlt2 => ?_) (fun hlt2 => ?_)
          · have hil : i < l.length := by omega
            (repeat' (conv => whnf); first | refine aC (fun _ => ?_) (fun _ => ?_) | refine aS ?_ | refine aG ?_ | refine aD ?_ | refine aH ?_ | refine aP_Ue ?_ | refine aI ?_ | refine aJ ?_ | fail); all_goals try (conv => whnf)
            exact ⟨i + 1, [0, 1, 2], by omega, by omega, by (exact aL)⟩
          (repeat' (conv => whnf); first | refine aC (fun _ => ?_) (fun _ => ?_) | refine aS ?_ | refine aG ?_ | refine aD ?_ | refine aH ?_ | refine aP_Ue ?_ | refine aI ?_ | refine aJ ?_ | fail); all_goals try (conv => whnf)
          exact ⟨z, [0, 1, 2], hN.no hf, by (exact aL)⟩
      rintro z' hN'
      (repeat' (conv => whnf); first | refine aC (fun _ => ?_) (fun _ => ?_) | refine aS ?_ | refine aG ?_ | refine aD ?_ | refine aH ?_ | refine aP_Ue ?_ | refine aI ?_ | refine aJ ?_ | fail); all_goals try (conv => whnf)
      exact ⟨(k, z'), [0, 1, 2], ⟨by dsimp only; omega, hN'⟩, by dsimp only; omega, by (exact aL)⟩
    have hk0 : k = 0 := by omega
    subst hk0
    obtain ⟨j, hj⟩ : ∃ j, L - out.length = j + 1 := ⟨L - out.length - 1, by omega⟩
    have hbl := bls_len L (fun x => out.contains x)
    have hfr := hfr out
    rcases hN.end with ⟨rfl, hn⟩ | ⟨a, rfl, ha, hn⟩
    · rw [hn] at hfr
      have hnone : ord E L = none := by rw [← h1, hj]; unfold kahn; rw [← hfr]
      (repeat' (conv => whnf); first | refine AsgOb.nil ?_ | (refine aC (fun _ => ?_) (fun _ => ?_) <;> try (exfalso; omega)) | refine aS ?_ | refine aG ?_ | refine aD ?_ | refine aH ?_ | refine aP_Ue ?_ | refine aI ?_ | refine aJ ?_ | fail); all_goals try (conv => whnf)
      exact ⟨([], false), by rw [hnone], rfl, Imp.tup ⟨Imp.nil _, Imp.refl _, trivial⟩⟩
    · rw [hn] at hfr
      have hk1 : kahn E L j (out ++ [a]) = ord E L := by rw [← h1, hj]; conv => rhs; unfold kahn; rw [← hfr]
      have hset := bls_add L a out
      have happ := nts_app out [a]
      have hga := bls_get (m := L) (b := a) (f := fun x => out.contains x) ha
      (repeat' (conv => whnf); first | refine ⟨_, hga, ?_⟩ | refine ⟨a, rfl, by omega, ?_⟩ | refine aC (fun _ => ?_) (fun _ => ?_) | refine aS ?_ | refine aG ?_ | refine aD ?_ | refine aH ?_ | refine aP_Ue ?_ | refine aI ?_ | refine aJ ?_ | fail); all_goals try (conv => whnf)
      · omega
      refine ⟨out ++ [a], [0, 1, 4], ⟨by rw [List.length_append, List.length_singleton, show L - (out.length + 1) = j by omega]; exact hk1, by simp; omega⟩, by simp; omega, ?_⟩
      rw [← hset, happ]
      (exact aL)
  have hk1 : ord E L = some out := by rw [← h1, show L - out.length = 0 by omega]; rfl
  (repeat' (conv => whnf); first | refine aC (fun _ => ?_) (fun _ => ?_) | refine aS ?_ | refine aG ?_ | refine aD ?_ | refine aP_Ue ?_ | refine aI ?_ | refine aJ ?_ | fail); all_goals try (conv => whnf)
  refine .mk [.fa] ?_
  exact ⟨(out, true), by rw [hk1], rfl, Imp.tup ⟨Imp.refl _, Imp.refl _, trivial⟩⟩
end Go.Proofs.Ytnlmmjmcackgjaa
