/-
  A text of the proofs of this seat: lemmas that the statements' proofs use; it states nothing of the program by itself beyond the contracts that its theorems bear. Conditions: those that stand in each theorem. Its short name: Ug Tv.
-/
import Derived.Test.YtnlmmjmcackgjaaUe
import Derived.Test.YtnlmmjmcackgjaaTx
set_option linter.unusedVariables false
set_option linter.unusedSimpArgs false
section
namespace Go.Proofs.Ytnlmmjmcackgjaa
open Go.Sx Go.Np Go.Tp
set_option maxRecDepth 4000
set_option maxHeartbeats 2000000
--APPX eds_len, nts_len, ivs_len
theorem aP_Ug {A B K : Prop} (k : K) (a : A := by (simp only [zA, zT, zD, zC, zN, ints_len, zR, eds_len, nts_len, ivs_len]; omega)) (b : B := by (simp only [zA, zT, zD, zC, zN, ints_len, zR, eds_len, nts_len, ivs_len]; omega)) : (A ∧ B) ∧ K := ⟨⟨a, b⟩, k⟩
/-! the document's ways and cuts -/
theorem rReaches_ok (n : Nt) (hn : NL n) (a b : Int) : Ctr Try.prog 31 [ntv n, i64 a, i64 b] [] (fun r o => o = [] ∧ r = .bp (RchN n a b)) := by
  refine Ctr.imp ?_
  refine fn_intro (E := env 0) tys_ok rfl rfl rfl Try.func31 (by kernel_rfl) rfl (by kernel_rfl) ?_
  have cC := rCheck_ok n hn
  have hll := lnl n.ln
  by_cases h : chkN n = 0
  · rw [h] at cC
    have hL := (chkN_zero h).1
    have hE := adj_chk h
    have cE := rEdges_ok n hn h
    have hR : RchN n a b ↔ (0 ≤ a ∧ a < n.ln.length) ∧ (0 ≤ b ∧ b < n.ln.length) ∧ Rch (adj n) a.toNat b.toNat := ⟨fun k => k.2, fun k => ⟨h, k⟩⟩
    generalize n.ln.length = L at *
    generalize adj n = E at *
    have hel := edg_len (E := E) (m := L) (a := L)
    have hmm : L * L ≤ 8 * 8 := Nat.mul_le_mul (by omega) (by omega)
    have hmem : ∀ x y, (x, y) ∈ edg E L L ↔ E x y = true := fun x y => by
      rw [mem_edg]
      exact ⟨fun h => h.2.2, fun h => ⟨(hE.b _ _ h).1, (hE.b _ _ h).2, h⟩⟩
    have hbd : ∀ e ∈ edg E L L, e.1 < L ∧ e.2 < L := fun e he => let h := mem_edg.1 he; ⟨h.1, h.2.1⟩
    generalize edg E L L = es at *
    (repeat' (conv => whnf); first | refine aC (fun _ => ?_) (fun _ => ?_) | refine aS ?_ | refine aG ?_ | refine aD ?_ | refine aH ?_ | refine aP_Ug ?_ | refine aI ?_ | refine aJ ?_ | refine aW (.qs [0, 2, 3, 4, 5, 7] (.l 1 [3] (.l 6 [] (.qs [8, 9, 10, 11] .nil) .no) .no)) ?_ | (refine aK [] cC ?_) | (refine aK [] cE ?_) | fail); all_goals try (conv => whnf)
    all_goals try contradiction
    all_goals try (refine ⟨rfl, Imp.bl ⟨fun k => (by cases k), fun k => ?_⟩⟩; rw [hR] at k; omega)
    obtain ⟨a, rfl⟩ : ∃ k : Nat, a = k := ⟨a.toNat, by omega⟩
    obtain ⟨b, rfl⟩ : ∃ k : Nat, b = k := ⟨b.toNat, by omega⟩
    rw [Int.toNat_natCast, Int.toNat_natCast] at hR
    have hbL : b < L := by omega
    have hg := ivs_get (F := farD es a L) hbL
    have hb := (bfs_all hE hmem (show a < L by omega) hbL).2.1
    have hvl := ivs_len L (farD es a L)
    refine CallOb.mk [] (rreach_ok es L a hbd (by omega) (by omega) (by omega)) rfl ⟨Imp.refl _, Imp.num (by rw [hll]), Imp.refl _, trivial⟩ rfl rfl ?_
    rintro _ _ ⟨rfl, rfl⟩
    (repeat' (conv => whnf); first | refine aC (fun _ => ?_) (fun _ => ?_) | refine aS ?_ | refine aG ?_ | refine aD ?_ | refine aH ?_ | refine aP_Ug ?_ | refine aI ?_ | refine aJ ?_ | refine aW (.qs [0, 2, 3, 4, 5, 7] (.l 1 [3] (.l 6 [] (.qs [8, 9, 10, 11] .nil) .no) .no)) ?_ | refine ⟨b, _, rfl, hg, ?_⟩ | fail); all_goals try (conv => whnf)
    refine ⟨rfl, Imp.bp ⟨fun k => hR.2 ⟨by omega, by omega, Classical.byContradiction fun hr => ?_⟩, fun k => ?_⟩⟩
    · have := hb.2 hr; omega
    · have h1 := (hR.1 k).2.2
      exact Int.not_lt.1 fun hl => hb.1 hl h1
  · have hR : ¬RchN n a b := fun k => h k.1
    generalize chkN n = c at *
    (repeat' (conv => whnf); first | refine aC (fun _ => ?_) (fun _ => ?_) | refine aS ?_ | refine aG ?_ | refine aD ?_ | refine aH ?_ | refine aP_Ug ?_ | refine aI ?_ | refine aJ ?_ | refine aW (.qs [0, 2, 3, 4, 5, 7] (.l 1 [3] (.l 6 [] (.qs [8, 9, 10, 11] .nil) .no) .no)) ?_ | (refine aK [] cC ?_) | fail); all_goals try (conv => whnf)
    all_goals first
      | exact ⟨rfl, Imp.bl ⟨fun k => (by cases k), fun k => absurd k hR⟩⟩
      | omega
end Go.Proofs.Ytnlmmjmcackgjaa
end
section
namespace Go.Tp
/-! levels, found by what leads to a line -/
structure LvA (E : Gr) (o : List Nat) (i : Nat) (L : Nat → Nat) : Prop where
  u : ∀ j, j < i → ∀ a, E a (o.getD j 0) = true → L a + 1 ≤ L (o.getD j 0)
  a : ∀ j, j < i → L (o.getD j 0) = 0 ∨ ∃ a, E a (o.getD j 0) = true ∧ L (o.getD j 0) = L a + 1
  z : ∀ b, (∀ j, j < i → o.getD j 0 ≠ b) → L b = 0
theorem LvA.zero (E : Gr) (o : List Nat) : LvA E o 0 (fun _ => 0) := ⟨fun j h => by omega, fun j h => by omega, fun _ _ => rfl⟩
theorem LvA.step {E : Gr} {m i z : Nat} {o : List Nat} {L : Nat → Nat} (h : LvA E o i L) (hT : Top E m o) (hi : i < o.length) (h1 : ∀ a, E a (o.getD i 0) = true → L a + 1 ≤ z) (h2 : z = 0 ∨ ∃ a, E a (o.getD i 0) = true ∧ z = L a + 1) (hs : ∀ x, E x x = false) :
    LvA E o (i + 1) (fun x => if x = o.getD i 0 then z else L x) := by
  have hne : ∀ j, j < i → o.getD j 0 ≠ o.getD i 0 := fun j hj e => by
    have := nodup_at hT.n (by omega) hi e
    omega
  have hpr : ∀ j, j < i → ∀ a, E a (o.getD j 0) = true → a ≠ o.getD i 0 := fun j hj a ha e => by
    obtain ⟨k, hk, ek⟩ := hT.e j (by omega) a ha
    have := hne k (by omega)
    exact this (ek.trans e)
  refine ⟨fun j hj a ha => ?_, fun j hj => ?_, fun b hb => ?_⟩
  · by_cases e : j = i
    · subst e
      have hae : a ≠ o.getD j 0 := fun e => by rw [← e, hs] at ha; contradiction
      rw [if_neg hae, if_pos rfl]; exact h1 a ha
    · rw [if_neg (hpr j (by omega) a ha), if_neg (hne j (by omega))]
      exact h.u j (by omega) a ha
  · by_cases e : j = i
    · subst e
      rw [if_pos rfl]
      rcases h2 with h2 | ⟨a, ha, h2⟩
      · exact .inl h2
      · have hae : a ≠ o.getD j 0 := fun e => by rw [← e, hs] at ha; contradiction
        exact .inr ⟨a, ha, by rw [if_neg hae]; exact h2⟩
    · rw [if_neg (hne j (by omega))]
      rcases h.a j (by omega) with h3 | ⟨a, ha, h3⟩
      · exact .inl h3
      · exact .inr ⟨a, ha, by rw [if_neg (hpr j (by omega) a ha)]; exact h3⟩
  · rw [if_neg (fun e => hb i (by omega) e.symm)]
    exact h.z b fun j hj => hb j (by omega)
theorem LvA.end {E : Gr} {m : Nat} {o : List Nat} {L : Nat → Nat} (hE : GOK E m) (hT : Top E m o) (hm : o.length = m) (h : LvA E o m L) : LvP E L := by
  refine ⟨fun a b hab => ?_, fun b => ?_⟩
  · have hb := (hE.b _ _ hab).2
    obtain ⟨j, hj, e⟩ := mem_getD (full_of hT.n hT.b (by omega) hb)
    have := h.u j (by omega) a (by rw [e]; exact hab)
    rwa [e] at this
  · by_cases hb : b < m
    · obtain ⟨j, hj, e⟩ := mem_getD (full_of hT.n hT.b (by omega) hb)
      have := h.a j (by omega)
      rwa [e] at this
    · exact .inl (h.z b fun j hj e => hb (by rw [← e]; exact hT.b _ (getD_mem (by omega))))
end Go.Tp
end
