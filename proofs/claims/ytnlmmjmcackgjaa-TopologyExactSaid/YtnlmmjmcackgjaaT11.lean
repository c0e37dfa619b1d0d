/-
  A text of the proofs of this seat: lemmas that the statements' proofs use; it states nothing of the program by itself beyond the contracts that its theorems bear. Conditions: those that stand in each theorem. Its short name: T11 T12.
-/
import Derived.Test.YtnlmmjmcackgjaaT10
set_option linter.unusedVariables false
set_option linter.unusedSimpArgs false
section
namespace Go.Proofs.Ytnlmmjmcackgjaa
open Go.Sx Go.Np Go.Tp
set_option maxRecDepth 4000
set_option maxHeartbeats 2000000
abbrev sn2 : Nt := rtN 2 [[0, 1], [1, 0]]
abbrev sn3 : Nt := rtN 3 [[0, 1, 2]]
theorem rti_of {k : Nat} {r : List Int} (h1 : 1 ≤ r.length) (h2 : r.length ≤ 4) (h3 : ∀ x ∈ r, 0 ≤ x ∧ x < k) (h4 : r.Nodup) : RtI k r := by
  refine ⟨h1, h2, fun i hi => h3 _ (Go.Np.getD_in hi), fun i j hij hj e => ?_⟩
  rw [List.getD_eq_getElem?_getD, List.getD_eq_getElem?_getD, List.getElem?_eq_getElem (show i < r.length by omega), List.getElem?_eq_getElem hj, Option.getD_some, Option.getD_some] at e
  exact (List.pairwise_iff_getElem.1 h4) i j (by omega) hj hij e
theorem GrG.nl {k : Nat} {R : List (List Int)} (hk : k ≤ 8) (hR : R.length ≤ 20) (h : ∀ r ∈ R, r.length ≤ 100) : NL (rtN k R) := by
  refine ⟨by rw [rtN_nl]; omega, by rw [rtN_ll]; omega, by rw [rtN_fl]; omega, fun s hs => ?_, fun l hl => ?_, fun f hf => ?_⟩
  · obtain ⟨i, _, rfl⟩ := List.mem_map.1 hs
    simp [lname, ByteArray.size]
  · have := List.eq_of_mem_replicate hl
    rw [this]; simp [rtl]
  · obtain ⟨i, hi, rfl⟩ := List.mem_iff_getElem.1 hf
    have hi2 : i < R.length := by rw [rtN_fl] at hi; exact hi
    have e : (rtN k R).fl[i] = rt1 i (R.getD i []) := by
      rw [← rtfs_get hi2, List.getD_eq_getElem?_getD]
      show _ = ((rtN k R).fl[i]?).getD fl0
      rw [List.getElem?_eq_getElem hi]; rfl
    have := h (R.getD i []) (by rw [List.getD_eq_getElem?_getD, List.getElem?_eq_getElem hi2]; exact List.getElem_mem hi2)
    rw [e]
    exact ⟨by simp [rt1, fname, ByteArray.size], by show (R.getD i []).length ≤ _; omega, by show [0, 4].length ≤ _; simp⟩
theorem sn2_chk : chkN sn2 = 0 := rtN_chk (by decide) (by decide) fun i hi => by
  rcases (show i = 0 ∨ i = 1 by simp only [List.length_cons, List.length_nil] at hi; omega) with rfl | rfl
  · exact rti_of (r := [0, 1]) (by decide) (by decide) (by decide) (by decide)
  · exact rti_of (r := [1, 0]) (by decide) (by decide) (by decide) (by decide)
theorem sn3_chk : chkN sn3 = 0 := rtN_chk (by decide) (by decide) fun i hi => by
  have : i = 0 := by simp only [List.length_cons, List.length_nil] at hi; omega
  subst this
  exact rti_of (r := [0, 1, 2]) (by decide) (by decide) (by decide) (by decide)
theorem sn2_nl : NL sn2 := GrG.nl (by decide) (by decide) (by decide)
theorem sn3_nl : NL sn3 := GrG.nl (by decide) (by decide) (by decide)
theorem sn3_ord : ord (adj sn3) 3 = some [0, 1, 2] := by decide +kernel
theorem sn3_lv : ivs 3 (fun b => (lvs (adj sn3) [0, 1, 2] b : Nat)) = ints [0, 1, 2] := by
  have h0 : lvs (adj sn3) [0, 1, 2] 0 = 0 := by decide +kernel
  have h1 : lvs (adj sn3) [0, 1, 2] 1 = 1 := by decide +kernel
  have h2 : lvs (adj sn3) [0, 1, 2] 2 = 2 := by decide +kernel
  show [[i64 (lvs (adj sn3) [0, 1, 2] 0 : Nat)], [i64 (lvs (adj sn3) [0, 1, 2] 1 : Nat)], [i64 (lvs (adj sn3) [0, 1, 2] 2 : Nat)]] = _
  rw [h0, h1, h2]; rfl
theorem sn2_ord : ord (adj sn2) 2 = none := by decide +kernel
theorem sn2_cyc : cyc (adj sn2) 2 = some [0, 1] := by decide +kernel
theorem sn2_edg : edg (adj sn2) 2 2 = [(0, 1), (1, 0)] := by decide +kernel
theorem sn2_cut : (cutF (edg (adj sn2) 2 2)).2 = [(1, 0)] := by
  rw [sn2_edg]
  have h1 : cutS ([], []) (0, 1) = ([(0, 1)], []) := by
    unfold cutS
    rw [if_neg]
    · rfl
    · intro h
      have := Rch.closed (P := fun x => x = 1) (fun a b _ h => by simp [has] at h) rfl h
      contradiction
  have h2 : cutS ([(0, 1)], []) (1, 0) = ([(0, 1)], [(1, 0)]) := by
    unfold cutS
    rw [if_pos]
    · rfl
    · exact Rch.one (by decide)
  show (cutS (cutS ([], []) (0, 1)) (1, 0)).2 = _
  rw [h1, h2]
theorem sn2_r : RchN sn2 0 1 := ⟨sn2_chk, by decide, by decide, Rch.one (show adj sn2 0 1 = true by decide +kernel)⟩
theorem aP_T11 {A B K : Prop} (k : K) (a : A := by (simp only [zA, zT, zD, zC, zN, ints_len, zR, lnl, fll, stl]; omega)) (b : B := by (simp only [zA, zT, zD, zC, zN, ints_len, zR, lnl, fll, stl]; omega)) : (A ∧ B) ∧ K := ⟨⟨a, b⟩, k⟩
theorem sane_ok : Ctr Try.prog 12 [] [] (fun r o => o = [] ∧ r = .bl true) := by
  refine Ctr.imp ?_
  refine fn_intro (E := env 0) tys_ok rfl rfl rfl Try.func12 (by kernel_rfl) rfl (by kernel_rfl) ?_
  have cR2 : Ctr Try.prog 32 [i64 2, .psl 1 (rws [[0, 1], [1, 0]])] [] (fun r o => o = [] ∧ r = ntv sn2) := lroute_ok 2 (by decide) _ (by decide)
  have cR3 : Ctr Try.prog 32 [i64 3, .psl 1 (rws [[0, 1, 2]])] [] (fun r o => o = [] ∧ r = ntv sn3) := lroute_ok 3 (by decide) _ (by decide)
  have cL := tLevels_some sn3 sn3_nl sn3_chk (l := [0, 1, 2]) sn3_ord
  rw [show sn3.ln.length = 3 from rfl, sn3_lv] at cL
  have cO := tOrder_none sn2 sn2_nl sn2_chk sn2_ord
  have cC := tCut_ok sn2 sn2_nl sn2_chk
  rw [show sn2.ln.length = 2 from rfl, sn2_cut] at cC
  have cY : Ctr Try.prog 15 [ntv sn2] [] (fun r o => o = [] ∧ r = .psl 1 (ints [0, 1])) := (tCycle_ok sn2 sn2_nl sn2_chk).weak fun r o ⟨h1, h2⟩ => ⟨h1, by
    rw [show sn2.ln.length = 2 from rfl, sn2_cyc] at h2
    exact h2⟩
  have cX := tReaches_ok sn2 sn2_nl 0 1
  have hX := sn2_r
  generalize RchN sn2 0 1 = X at *
  generalize sn2 = m2 at *
  generalize sn3 = m3 at *
  (repeat' (conv => whnf); first | refine LitOb.ful ?_ | (refine aC (fun _ => ?_) (fun _ => ?_) <;> try (exfalso; omega)) | refine aS ?_ | refine aG ?_ | refine aD ?_ | refine aH ?_ | refine aP_T11 ?_ | refine aI ?_ | refine aJ ?_ | refine And.intro rfl ?_ | (refine CallOb.mk [] cR2 rfl ⟨Imp.refl _, Imp.fulr ⟨⟨Imp.fulp rfl, trivial⟩, ⟨Imp.fulp rfl, trivial⟩, trivial⟩, trivial⟩ rfl rfl ?_; rintro _ _ ⟨rfl, rfl⟩) | (refine CallOb.mk [] cR3 rfl ⟨Imp.refl _, Imp.fulr ⟨⟨Imp.fulp rfl, trivial⟩, trivial⟩, trivial⟩ rfl rfl ?_; rintro _ _ ⟨rfl, rfl⟩) | (refine aK [] cL ?_) | (refine aK [] cO ?_) | (refine aK [] cC ?_) | (refine aK [] cY ?_) | (refine aK [] cX ?_) | (refine CallOb.mk [] (kInts_ok [0, 1] [0, 1] (by decide)) rfl ⟨Imp.refl _, Imp.fulp rfl, trivial⟩ rfl rfl ?_; rintro _ _ ⟨rfl, rfl⟩) | (refine CallOb.mk [] (kInts_ok [0, 1, 2] [0, 1, 2] (by decide)) rfl ⟨Imp.refl _, Imp.fulp rfl, trivial⟩ rfl rfl ?_; rintro _ _ ⟨rfl, rfl⟩) | refine ⟨0, _, rfl, rfl, ?_⟩ | fail); all_goals try (conv => whnf)
  all_goals first
    | exact ⟨rfl, Imp.refl _⟩
    | exact ⟨rfl, Imp.bpl ⟨fun _ => rfl, fun _ => hX⟩⟩
    | exact Imp.bpl ⟨fun _ => rfl, fun _ => hX⟩
    | (exfalso; first | exact absurd rfl (by assumption : ¬[0, 1] = [0, 1]) | (simp [eds, conj] at *; done))
    | trace_state
end Go.Proofs.Ytnlmmjmcackgjaa
end
section
namespace Go.Proofs.Ytnlmmjmcackgjaa
open Go.Sx Go.Np Go.Tp
set_option maxRecDepth 4000
set_option maxHeartbeats 2000000
theorem GrG.nl' {k : Nat} {R : List (List Int)} (h : GrG k R) : NL (rtN k R) := GrG.nl (by have := h.k2; omega) (by have := h.l; omega) fun r hr => by have := (h.r r hr).l2; omega
end Go.Proofs.Ytnlmmjmcackgjaa
end
