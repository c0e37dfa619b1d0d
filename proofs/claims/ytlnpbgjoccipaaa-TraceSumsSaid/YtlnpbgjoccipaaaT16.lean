/-
  A text of the proofs of this seat: lemmas that the statements' proofs use; it states nothing of the program by itself beyond the contracts that its theorems bear. Conditions: those that stand in each theorem. Its short name: T16.
-/
import Derived.Test.YtlnpbgjoccipaaaT15
import Derived.Test.YtlnpbgjoccipaaaT3
import Derived.Test.YtlnpbgjoccipaaaT9
import Derived.Test.YtlnpbgjoccipaaaT8
import Derived.Test.YtlnpbgjoccipaaaPl
set_option linter.unusedVariables false
set_option linter.unusedSimpArgs false
namespace Go.Proofs.Ytlnpbgjoccipaaa
open Go.Sx Go.Pk Go.Cv Go.St
set_option maxRecDepth 4000
set_option maxHeartbeats 2000000
--APPX pks_len
theorem bys_flows {p : List Pk} (h : ∀ x ∈ p, 0 ≤ x.f ∧ x.f < 3) (t : Int) : bys p 0 t + bys p 1 t + bys p 2 t = bys p (-1) t := by
  suffices q : ∀ i, i ≤ p.length → bysL t (selN p 0 i) + bysL t (selN p 1 i) + bysL t (selN p 2 i) = bysL t (selN p (-1) i) from q _ (Nat.le_refl _)
  intro i
  induction i with
  | zero => intro _; rfl
  | succ i ih =>
    intro hi
    have ih := ih (by omega)
    have hx := h _ (getD_memP (l := p) (i := i) (by omega))
    obtain ⟨a1, a2⟩ := selN_step p 0 i
    obtain ⟨b1, b2⟩ := selN_step p 1 i
    obtain ⟨c1, c2⟩ := selN_step p 2 i
    rw [(selN_step p (-1) i).1 (.inl rfl), bysL_app, ← ih]
    generalize p.getD i pk0 = x at *
    obtain h | h | h : x.f = 0 ∨ x.f = 1 ∨ x.f = 2 := by omega
    · rw [a1 (.inr ⟨h, by omega⟩), b2 (by unfold sel; omega), c2 (by unfold sel; omega), bysL_app]; omega
    · rw [a2 (by unfold sel; omega), b1 (.inr ⟨h, by omega⟩), c2 (by unfold sel; omega), bysL_app]; omega
    · rw [a2 (by unfold sel; omega), b2 (by unfold sel; omega), c1 (.inr ⟨h, by omega⟩), bysL_app]; omega
def sumB (m : List Pk) : Nat → Nat → Int
  | 0, _ => 0
  | j + 1, u => sumB m j u + bys m (j : Int) u
abbrev mixV (F G : Nat → Int) (t u : Nat) : Int := if u < t then G u else F u
theorem mixV_set {F G : Nat → Int} {t n : Nat} (h : t < n) : (ints (vals (mixV F G t) n)).set t [i64 (G t)] = ints (vals (mixV F G (t + 1)) n) := by
  have e : (ints (vals (mixV F G t) n)).set t [i64 (G t)] = ints ((vals (mixV F G t) n).set t (G t)) := by simp [ints, List.map_set]
  rw [e, vals_set h]
  congr 1
  refine vals_congr fun u hu => ?_
  by_cases h1 : u = t
  · subst h1; rw [if_pos rfl]; unfold mixV; rw [if_pos (by omega)]
  · by_cases h2 : u < t
    · rw [if_neg h1]; unfold mixV; rw [if_pos h2, if_pos (by omega)]
    · rw [if_neg h1]; unfold mixV; rw [if_neg h2, if_neg (by omega)]
theorem Merge_ok (a b : List Pk) (va : Vld a) (vb : Vld b) (h : a.length + b.length ≤ 60) : Ctr Try.prog 20 [.psl 3 (pks a), .psl 3 (pks b)] [] (fun r o => o = [] ∧ r = .tup [.psl 3 (pks (srt ptm (a ++ b))), i64 0]) := by
  refine Ctr.imp ?_
  refine fn_intro (E := env 0) tys_ok rfl rfl rfl Try.func20 (by kernel_rfl) rfl (by kernel_rfl) ?_
  have hal := pks_len a
  have hbl := pks_len b
  have c1 := Validate_ok a (by omega)
  have c2 := Validate_ok b (by omega)
  rw [vld_zero.2 va] at c1
  rw [vld_zero.2 vb] at c2
  have cC := Concat_ok a b (by omega) (by omega)
  have cO := OrderN_ok (a ++ b) (by rw [List.length_append]; omega)
  repeat' (conv => whnf
           first | refine LitOb.ful ?_ | refine AsgOb.nil ?_ | (refine CondOb.mk (fun _ => ?_) (fun _ => ?_) <;> first | (exfalso; omega) | skip) | refine ArOb.fits (by first | omega | (simp only [ints_len] at *; omega)) ?_ | refine LitOb.vec ?_ | refine MakeOb.vec ?_ | refine AllocOb.box ?_ | refine AsgOb.vec ?_ | refine AggOb.mk (by decide +kernel) ?_ | refine ArU.fits (by first | omega | (simp only [ints_len] at *; omega)) ?_ | refine ArB.fits (by first | omega | (simp only [ints_len] at *; omega)) ?_ | refine CutOb.split ?_ | refine Gh.mk [] ?_ | refine And.intro (And.intro (by (simp only [List.length_append, List.length_take, List.length_drop, List.length_cons, List.length_nil, ints_len, List.length_replicate, pks_len]; omega)) (by (simp only [List.length_append, List.length_take, List.length_drop, List.length_cons, List.length_nil, ints_len, List.length_replicate, pks_len]; omega))) ?_ | refine ⟨_, _, rfl, ints_get (by first | omega | (simp only [ints_len] at *; omega)), ?_⟩ | refine ⟨_, _, (Int.toNat_of_nonneg (by first | omega | (simp only [ints_len] at *; omega))).symm, ints_get (by first | omega | (simp only [ints_len] at *; omega)), ?_⟩ | (refine CallOb.mk [] c1 rfl (ImpL.refl _) rfl rfl ?_; rintro _ _ ⟨rfl, rfl⟩) | (refine CallOb.mk [] c2 rfl (ImpL.refl _) rfl rfl ?_; rintro _ _ ⟨rfl, rfl⟩) | (refine CallOb.mk [] cC rfl ⟨Imp.fulp rfl, trivial⟩ rfl rfl ?_; rintro _ _ ⟨rfl, rfl⟩) | (refine CallOb.mk [] cO rfl (ImpL.refl _) rfl rfl ?_; rintro _ _ ⟨rfl, rfl⟩) | fail)
  all_goals try (conv => whnf)
  all_goals first
    | exact ⟨rfl, Imp.refl _⟩
    | trace_state
theorem Sums_ok (l : List Int) (hl : l.length ≤ 9223372036854775807) : Ctr Try.prog 4 [.psl 1 (ints l)] [] (fun r o => r = .bl true) := by
  refine fn_intro (E := env 0) tys_ok rfl rfl rfl Try.func4 (by kernel_rfl) rfl (by kernel_rfl) ?_
  have hL : (l.take 2000).length ≤ 2000 := by rw [List.length_take]; omega
  repeat' (conv => whnf
           first | (refine CondOb.mk (fun _ => ?_) (fun _ => ?_) <;> first | (exfalso; omega) | skip) | refine ArOb.fits (by first | omega | (simp only [ints_len] at *; omega)) ?_ | refine LitOb.vec ?_ | refine MakeOb.vec ?_ | refine AllocOb.box ?_ | refine AsgOb.vec ?_ | refine AggOb.mk (by decide +kernel) ?_ | refine ArU.fits (by first | omega | (simp only [ints_len] at *; omega)) ?_ | refine ArB.fits (by first | omega | (simp only [ints_len] at *; omega)) ?_ | refine CutOb.split ?_ | refine Gh.mk [] ?_ | refine And.intro (And.intro (by (simp only [List.length_append, List.length_take, List.length_drop, List.length_cons, List.length_nil, ints_len, List.length_replicate, pks_len]; omega)) (by (simp only [List.length_append, List.length_take, List.length_drop, List.length_cons, List.length_nil, ints_len, List.length_replicate, pks_len]; omega))) ?_ | refine ⟨_, _, rfl, ints_get (by first | omega | (simp only [ints_len] at *; omega)), ?_⟩ | refine ⟨_, _, (Int.toNat_of_nonneg (by first | omega | (simp only [ints_len] at *; omega))).symm, ints_get (by first | omega | (simp only [ints_len] at *; omega)), ?_⟩ | refine DrawOb.mk [] (.qs [0, 1, 2, 3, 4, 5, 6, 7, 8, 9] (.l 10 [] .nil .no)) (by decide +kernel) ?_ | refine DrawOb.mk [] (.qs [0, 1, 2, 3, 4, 5, 6, 7, 8, 9, 10, 11, 12, 13, 14, 15, 16, 17, 18, 19, 20, 21, 22, 23, 24, 25, 26, 27, 28, 29, 30, 31, 32, 33, 34, 35, 36, 37, 38, 39, 40] .nil) (by decide +kernel) ?_ | (refine CallOb.mk [] (New_ok l hl) rfl (ImpL.refl _) rfl rfl ?_; rintro _ _ ⟨rfl, rfl⟩) | fail)
  all_goals try (conv => whnf)
  refine CallOb.mk [0] (Traffic_ok _ 0 hL (by omega) 12 (by omega) 3 90 (by omega) (by omega)) rfl (ImpL.refl _) rfl rfl ?_
  rintro _ _ ⟨⟨⟨p, tp⟩, k1⟩, ⟨⟨hP, hpl⟩, hk1⟩, rfl, rfl⟩
  dsimp only at hP hpl hk1 ⊢
  repeat' (conv => whnf
           first | (refine CondOb.mk (fun _ => ?_) (fun _ => ?_) <;> first | (exfalso; omega) | skip) | refine ArOb.fits (by first | omega | (simp only [ints_len] at *; omega)) ?_ | refine LitOb.vec ?_ | refine MakeOb.vec ?_ | refine AllocOb.box ?_ | refine AsgOb.vec ?_ | refine AggOb.mk (by decide +kernel) ?_ | refine ArU.fits (by first | omega | (simp only [ints_len] at *; omega)) ?_ | refine ArB.fits (by first | omega | (simp only [ints_len] at *; omega)) ?_ | refine CutOb.split ?_ | refine Gh.mk [] ?_ | refine And.intro (And.intro (by (simp only [List.length_append, List.length_take, List.length_drop, List.length_cons, List.length_nil, ints_len, List.length_replicate, pks_len]; omega)) (by (simp only [List.length_append, List.length_take, List.length_drop, List.length_cons, List.length_nil, ints_len, List.length_replicate, pks_len]; omega))) ?_ | refine ⟨_, _, rfl, ints_get (by first | omega | (simp only [ints_len] at *; omega)), ?_⟩ | refine ⟨_, _, (Int.toNat_of_nonneg (by first | omega | (simp only [ints_len] at *; omega))).symm, ints_get (by first | omega | (simp only [ints_len] at *; omega)), ?_⟩ | refine DrawOb.mk [] (.qs [0, 1, 2, 3, 4, 5, 6, 7, 8, 9] (.l 10 [] .nil .no)) (by decide +kernel) ?_ | refine DrawOb.mk [] (.qs [0, 1, 2, 3, 4, 5, 6, 7, 8, 9, 10, 11, 12, 13, 14, 15, 16, 17, 18, 19, 20, 21, 22, 23, 24, 25, 26, 27, 28, 29, 30, 31, 32, 33, 34, 35, 36, 37, 38, 39, 40] .nil) (by decide +kernel) ?_ | fail)
  all_goals try (conv => whnf)
  refine CallOb.mk [0] (Traffic_ok _ k1 hL hk1 12 (by omega) 3 90 (by omega) (by omega)) rfl (ImpL.refl _) rfl rfl ?_
  rintro _ _ ⟨⟨⟨q, tq⟩, k2⟩, ⟨⟨hQ, hql⟩, hk2⟩, rfl, rfl⟩
  dsimp only at hQ hql hk2 ⊢
  have hVp := hP.vld (by decide) (by decide) (by omega)
  have hVq := hQ.vld (by decide) (by decide) (by omega)
  have cM := Merge_ok p q hVp hVq (by omega)
  have hmem : ∀ x ∈ srt ptm (p ++ q), x ∈ p ∨ x ∈ q := fun x hx => List.mem_append.1 (srt_mem.1 hx)
  have hml : (srt ptm (p ++ q)).length ≤ 24 := by rw [srt_len, List.length_append]; omega
  have hVm : Vld (srt ptm (p ++ q)) := vld_of (by omega) (fun x hx => by
    rcases hmem x hx with h | h
    · exact hVp.mem x h
    · exact hVq.mem x h) (srt_sorted _ _)
  have hfl : ∀ x ∈ srt ptm (p ++ q), 0 ≤ x.f ∧ x.f < 3 := fun x hx => by
    rcases hmem x hx with h | h
    · have := hP.b x h; omega
    · have := hQ.b x h; omega
  have hadd : ∀ t : Nat, bys (srt ptm (p ++ q)) (-1) t = bys p (-1) t + bys q (-1) t := fun t => by rw [bys_all, bys_all, bys_all, sumA_srt, sumA_app]
  generalize srt ptm (p ++ q) = m at *
  have c1 := Cumulative_ok p hVp (-1) (by omega) 100 (by omega)
  have c2 := Cumulative_ok q hVq (-1) (by omega) 100 (by omega)
  have c3 := Cumulative_ok m hVm (-1) (by omega) 100 (by omega)
  have c4 := fun j : Nat => Cumulative_ok m hVm j (by omega) 100 (by omega)
  have bd : ∀ (r : List Pk), Vld r → r.length ≤ 24 → ∀ flow t, 0 ≤ bys r flow t ∧ bys r flow t ≤ 24000000 := fun r hr hl flow t => by
    have h1 := sel_bd (flow := flow) (t := t) hr.sml (selN r flow r.length).length
    rw [List.take_length] at h1
    show 0 ≤ bysL _ _ ∧ bysL _ _ ≤ _
    omega
  have bA := fun t : Nat => bd p hVp (by omega) (-1) t
  have bB := fun t : Nat => bd q hVq (by omega) (-1) t
  have bC := fun t : Nat => bd m hVm (by omega) (-1) t
  have bJ := fun j t : Nat => bd m hVm (by omega) (j : Int) t
  have hs3 : ∀ u : Nat, sumB m 3 u = bys m (-1) u := fun u => by
    rw [← bys_flows hfl]
    show 0 + bys m ((0 : Nat) : Int) u + bys m ((1 : Nat) : Int) u + bys m ((2 : Nat) : Int) u = _
    push_cast; omega
  have hsj : ∀ j : Nat, j ≤ 3 → ∀ u : Nat, 0 ≤ sumB m j u ∧ sumB m j u ≤ 24000000 * j := by
    intro j
    induction j with
    | zero => intro _ u; simp [sumB]
    | succ j ih => intro h u; have h1 := ih (by omega) u; have h2 := bJ j u; simp only [sumB]; push_cast; omega
  have hC0 : bys p (-1) (0 : Nat) = 0 := by
    have h := (bysL_zero (l := selN p (-1) p.length) fun x hx => by
      have := hVp.mem x.2 (selN_mem (Nat.le_refl _) x hx).2.2
      unfold bad at this; omega).1
    exact h
  have hCm : ∀ t : Nat, bys m (-1) t ≤ bys m (-1) (t + 1 : Nat) := fun t => by
    show bysL _ _ ≤ bysL _ _
    push_cast
    rw [bysL_inc]
    have := (incL_bd (u := (t : Int) + 1) (l := selN m (-1) m.length) fun x hx => hVm.sml _ (selN_mem (Nat.le_refl _) x hx).2.2).1
    omega
  clear hfl hmem hP hQ bd
  obtain ⟨A, hA⟩ : ∃ A : Nat → Int, ∀ t : Nat, bys p (-1) t = A t := ⟨fun t => bys p (-1) t, fun _ => rfl⟩
  obtain ⟨B, hB⟩ : ∃ B : Nat → Int, ∀ t : Nat, bys q (-1) t = B t := ⟨fun t => bys q (-1) t, fun _ => rfl⟩
  obtain ⟨C, hC⟩ : ∃ C : Nat → Int, ∀ t : Nat, bys m (-1) t = C t := ⟨fun t => bys m (-1) t, fun _ => rfl⟩
  simp only [hA, hB, hC] at *
  have c1 : Ctr _ _ _ _ (fun r o => o = [] ∧ r = .tup [.psl 1 (ints (vals A 101)), i64 0]) := c1
  have c2 : Ctr _ _ _ _ (fun r o => o = [] ∧ r = .tup [.psl 1 (ints (vals B 101)), i64 0]) := c2
  have c3 : Ctr _ _ _ _ (fun r o => o = [] ∧ r = .tup [.psl 1 (ints (vals C 101)), i64 0]) := c3
  have lA : (ints (vals A 101)).length = 101 := by rw [ints_len, vals_len]
  have lB : (ints (vals B 101)).length = 101 := by rw [ints_len, vals_len]
  have lC : (ints (vals C 101)).length = 101 := by rw [ints_len, vals_len]
  have gA := fun (t : Nat) (h : t < 101) => (ints_get (l := vals A 101) (j := t) (by rw [vals_len]; omega)).trans (by rw [vals_get h])
  have gB := fun (t : Nat) (h : t < 101) => (ints_get (l := vals B 101) (j := t) (by rw [vals_len]; omega)).trans (by rw [vals_get h])
  have gC := fun (t : Nat) (h : t < 101) => (ints_get (l := vals C 101) (j := t) (by rw [vals_len]; omega)).trans (by rw [vals_get h])
  have hrep : List.replicate 101 ([i64 0] : List SV) = ints (vals (sumB m 0) 101) := by simp [ints, vals, sumB, List.map_const']
  have g0 := gA 0 (by omega)
  rw [hC0] at g0
  repeat' (conv => whnf
           first | refine ⟨101, 101, rfl, rfl, Nat.le_refl _, ⟨by decide, by decide⟩, ?_⟩ | refine ⟨0, _, rfl, g0, ?_⟩ | (refine CondOb.mk (fun _ => ?_) (fun _ => ?_) <;> first | (exfalso; omega) | skip) | refine ArOb.fits (by first | omega | (simp only [ints_len] at *; omega)) ?_ | refine LitOb.vec ?_ | refine MakeOb.vec ?_ | refine AllocOb.box ?_ | refine AsgOb.vec ?_ | refine AggOb.mk (by decide +kernel) ?_ | refine ArU.fits (by first | omega | (simp only [ints_len] at *; omega)) ?_ | refine ArB.fits (by first | omega | (simp only [ints_len] at *; omega)) ?_ | refine CutOb.split ?_ | refine Gh.mk [] ?_ | refine And.intro (And.intro (by (simp only [List.length_append, List.length_take, List.length_drop, List.length_cons, List.length_nil, ints_len, List.length_replicate, pks_len]; omega)) (by (simp only [List.length_append, List.length_take, List.length_drop, List.length_cons, List.length_nil, ints_len, List.length_replicate, pks_len]; omega))) ?_ | refine ⟨_, _, rfl, ints_get (by first | omega | (simp only [ints_len] at *; omega)), ?_⟩ | refine ⟨_, _, (Int.toNat_of_nonneg (by first | omega | (simp only [ints_len] at *; omega))).symm, ints_get (by first | omega | (simp only [ints_len] at *; omega)), ?_⟩ | refine ⟨_, _, rfl, rfl, Nat.le_refl _, ⟨by (simp only; omega), by omega⟩, ?_⟩ | refine DrawOb.mk [] (.qs [0, 1, 2, 3, 4, 5, 6, 7, 8, 9] (.l 10 [] .nil .no)) (by decide +kernel) ?_ | refine DrawOb.mk [] (.qs [0, 1, 2, 3, 4, 5, 6, 7, 8, 9, 10, 11, 12, 13, 14, 15, 16, 17, 18, 19, 20, 21, 22, 23, 24, 25, 26, 27, 28, 29, 30, 31, 32, 33, 34, 35, 36, 37, 38, 39, 40] .nil) (by decide +kernel) ?_ | (refine CallOb.mk [] cM rfl (ImpL.refl _) rfl rfl ?_; rintro _ _ ⟨rfl, rfl⟩) | (refine CallOb.mk [] c1 rfl (ImpL.refl _) rfl rfl ?_; rintro _ _ ⟨rfl, rfl⟩) | (refine CallOb.mk [] c2 rfl (ImpL.refl _) rfl rfl ?_; rintro _ _ ⟨rfl, rfl⟩) | (refine CallOb.mk [] c3 rfl (ImpL.refl _) rfl rfl ?_; rintro _ _ ⟨rfl, rfl⟩) | fail)
  all_goals try (conv => whnf)
  all_goals try (exfalso; omega)
  refine LoopOb.mk (Y := Nat) (st := fun j => ⟨[(15, i64 j), (14, .vec 0), (12, .psl 1 (ints (vals C 101))), (10, .psl 1 (ints (vals B 101))), (8, .psl 1 (ints (vals A 101))), (6, .psl 3 (pks m))], [.vec 1 (ints (vals (sumB m j) 101))]⟩)
    (inv := fun j => j ≤ 3) (fun j => 3 - j) 0 [1] (by omega) (by rw [← hrep]; (refine Le.mk (by kernel_rfl) ?_ ?_ <;> repeat' (first | exact True.intro | refine And.intro ?_ ?_ | exact Imp.refl _ | exact Imp.any _ | exact Imp.num (by first | omega | simp only [ints_len]) | exact rfl | exact Imp.bl (by simp)))) ?_
  intro j hj
  repeat' (conv => whnf
           first | refine ArOb.fits (by first | omega | (simp only [ints_len] at *; omega)) ?_ | refine LitOb.vec ?_ | refine MakeOb.vec ?_ | refine AllocOb.box ?_ | refine AsgOb.vec ?_ | refine AggOb.mk (by decide +kernel) ?_ | refine ArU.fits (by first | omega | (simp only [ints_len] at *; omega)) ?_ | refine ArB.fits (by first | omega | (simp only [ints_len] at *; omega)) ?_ | refine CutOb.split ?_ | refine Gh.mk [] ?_ | refine And.intro (And.intro (by (simp only [List.length_append, List.length_take, List.length_drop, List.length_cons, List.length_nil, ints_len, List.length_replicate, pks_len]; omega)) (by (simp only [List.length_append, List.length_take, List.length_drop, List.length_cons, List.length_nil, ints_len, List.length_replicate, pks_len]; omega))) ?_ | refine ⟨_, _, rfl, ints_get (by first | omega | (simp only [ints_len] at *; omega)), ?_⟩ | refine ⟨_, _, (Int.toNat_of_nonneg (by first | omega | (simp only [ints_len] at *; omega))).symm, ints_get (by first | omega | (simp only [ints_len] at *; omega)), ?_⟩ | refine DrawOb.mk [] (.qs [0, 1, 2, 3, 4, 5, 6, 7, 8, 9] (.l 10 [] .nil .no)) (by decide +kernel) ?_ | refine DrawOb.mk [] (.qs [0, 1, 2, 3, 4, 5, 6, 7, 8, 9, 10, 11, 12, 13, 14, 15, 16, 17, 18, 19, 20, 21, 22, 23, 24, 25, 26, 27, 28, 29, 30, 31, 32, 33, 34, 35, 36, 37, 38, 39, 40] .nil) (by decide +kernel) ?_ | fail)
  all_goals try (conv => whnf)
  refine CondOb.mk (fun hlt => ?_) (fun hlt => ?_)
  · obtain ⟨F, hF⟩ : ∃ F : Nat → Int, (fun u : Nat => bys m (j : Int) u) = F := ⟨_, rfl⟩
    have c5 := c4 j
    rw [hF] at c5
    have c5 : Ctr _ _ _ _ (fun r o => o = [] ∧ r = .tup [.psl 1 (ints (vals F 101)), i64 0]) := c5
    have hs := hsj j hj
    have bF : ∀ u, 0 ≤ F u ∧ F u ≤ 24000000 := fun u => by rw [← hF]; exact bJ j u
    have hstep : ∀ u, sumB m (j + 1) u = sumB m j u + F u := fun u => by rw [← hF]; rfl
    have lF : (ints (vals F 101)).length = 101 := by rw [ints_len, vals_len]
    have gF := fun (t : Nat) (h : t < 101) => (ints_get (l := vals F 101) (j := t) (by rw [vals_len]; omega)).trans (by rw [vals_get h])
    repeat' (conv => whnf
             first | (refine CondOb.mk (fun _ => ?_) (fun _ => ?_) <;> first | (exfalso; omega) | skip) | refine ArOb.fits (by first | omega | (simp only [ints_len] at *; omega)) ?_ | refine LitOb.vec ?_ | refine MakeOb.vec ?_ | refine AllocOb.box ?_ | refine AsgOb.vec ?_ | refine AggOb.mk (by decide +kernel) ?_ | refine ArU.fits (by first | omega | (simp only [ints_len] at *; omega)) ?_ | refine ArB.fits (by first | omega | (simp only [ints_len] at *; omega)) ?_ | refine CutOb.split ?_ | refine Gh.mk [] ?_ | refine And.intro (And.intro (by (simp only [List.length_append, List.length_take, List.length_drop, List.length_cons, List.length_nil, ints_len, List.length_replicate, pks_len]; omega)) (by (simp only [List.length_append, List.length_take, List.length_drop, List.length_cons, List.length_nil, ints_len, List.length_replicate, pks_len]; omega))) ?_ | refine ⟨_, _, rfl, ints_get (by first | omega | (simp only [ints_len] at *; omega)), ?_⟩ | refine ⟨_, _, (Int.toNat_of_nonneg (by first | omega | (simp only [ints_len] at *; omega))).symm, ints_get (by first | omega | (simp only [ints_len] at *; omega)), ?_⟩ | refine DrawOb.mk [] (.qs [0, 1, 2, 3, 4, 5, 6, 7, 8, 9] (.l 10 [] .nil .no)) (by decide +kernel) ?_ | refine DrawOb.mk [] (.qs [0, 1, 2, 3, 4, 5, 6, 7, 8, 9, 10, 11, 12, 13, 14, 15, 16, 17, 18, 19, 20, 21, 22, 23, 24, 25, 26, 27, 28, 29, 30, 31, 32, 33, 34, 35, 36, 37, 38, 39, 40] .nil) (by decide +kernel) ?_ | (refine CallOb.mk [] c5 rfl (ImpL.refl _) rfl rfl ?_; rintro _ _ ⟨rfl, rfl⟩) | fail)
    all_goals try (conv => whnf)
    refine LoopOb.mk (Y := Nat) (st := fun t => ⟨[(102, i64 t), (101, i64 101), (16, .psl 1 (ints (vals F 101))), (15, i64 j), (14, .vec 0), (12, .psl 1 (ints (vals C 101))), (10, .psl 1 (ints (vals B 101))), (8, .psl 1 (ints (vals A 101))), (6, .psl 3 (pks m))], [.vec 1 (ints (vals (mixV (sumB m j) (sumB m (j + 1)) t) 101))]⟩)
      (inv := fun t => t ≤ 101) (fun t => 101 - t) 0 [0] (by omega) ?_ ?_
    · have e : vals (sumB m j) 101 = vals (mixV (sumB m j) (sumB m (j + 1)) 0) 101 := vals_congr fun u _ => by unfold mixV; rw [if_neg (by omega)]
      have lS : (ints (vals (sumB m j) 101)).length = 101 := by rw [ints_len, vals_len]
      rw [e] at lS ⊢
      (refine Le.mk (by kernel_rfl) ?_ ?_ <;> repeat' (first | exact True.intro | refine And.intro ?_ ?_ | exact Imp.refl _ | exact Imp.any _ | exact Imp.num (by first | omega | simp only [ints_len]) | exact rfl | exact Imp.bl (by simp)))
    intro t ht
    repeat' (conv => whnf
             first | refine ArOb.fits (by first | omega | (simp only [ints_len] at *; omega)) ?_ | refine LitOb.vec ?_ | refine MakeOb.vec ?_ | refine AllocOb.box ?_ | refine AsgOb.vec ?_ | refine AggOb.mk (by decide +kernel) ?_ | refine ArU.fits (by first | omega | (simp only [ints_len] at *; omega)) ?_ | refine ArB.fits (by first | omega | (simp only [ints_len] at *; omega)) ?_ | refine CutOb.split ?_ | refine Gh.mk [] ?_ | refine And.intro (And.intro (by (simp only [List.length_append, List.length_take, List.length_drop, List.length_cons, List.length_nil, ints_len, List.length_replicate, pks_len]; omega)) (by (simp only [List.length_append, List.length_take, List.length_drop, List.length_cons, List.length_nil, ints_len, List.length_replicate, pks_len]; omega))) ?_ | refine ⟨_, _, rfl, ints_get (by first | omega | (simp only [ints_len] at *; omega)), ?_⟩ | refine ⟨_, _, (Int.toNat_of_nonneg (by first | omega | (simp only [ints_len] at *; omega))).symm, ints_get (by first | omega | (simp only [ints_len] at *; omega)), ?_⟩ | refine DrawOb.mk [] (.qs [0, 1, 2, 3, 4, 5, 6, 7, 8, 9] (.l 10 [] .nil .no)) (by decide +kernel) ?_ | refine DrawOb.mk [] (.qs [0, 1, 2, 3, 4, 5, 6, 7, 8, 9, 10, 11, 12, 13, 14, 15, 16, 17, 18, 19, 20, 21, 22, 23, 24, 25, 26, 27, 28, 29, 30, 31, 32, 33, 34, 35, 36, 37, 38, 39, 40] .nil) (by decide +kernel) ?_ | fail)
    all_goals try (conv => whnf)
    refine CondOb.mk (fun hl2 => ?_) (fun hl2 => ?_)
    · have htl : t < 101 := by omega
      have g1 := gF t htl
      have g2 := (ints_get (l := vals (mixV (sumB m j) (sumB m (j + 1)) t) 101) (j := t) (by rw [vals_len]; omega)).trans (by rw [vals_get htl, mixV, if_neg (by omega)])
      have hset := mixV_set (F := sumB m j) (G := sumB m (j + 1)) (t := t) (n := 101) htl
      rw [hstep] at hset
      have lM : (ints (vals (mixV (sumB m j) (sumB m (j + 1)) t) 101)).length = 101 := by rw [ints_len, vals_len]
      have hs := hs t
      have bF := bF t
      generalize sumB m j t = x at g2 hs hset
      generalize F t = y at g1 bF hset
      repeat' (conv => whnf
               first | refine ⟨_, g2, ?_⟩ | refine ⟨t, by omega, by (first | omega | (simp only [List.length_set]; omega)), ?_⟩ | refine ⟨t, _, rfl, g1, ?_⟩ | (refine CondOb.mk (fun _ => ?_) (fun _ => ?_) <;> first | (exfalso; omega) | skip) | refine ArOb.fits (by first | omega | (simp only [ints_len] at *; omega)) ?_ | refine LitOb.vec ?_ | refine MakeOb.vec ?_ | refine AllocOb.box ?_ | refine AsgOb.vec ?_ | refine AggOb.mk (by decide +kernel) ?_ | refine ArU.fits (by first | omega | (simp only [ints_len] at *; omega)) ?_ | refine ArB.fits (by first | omega | (simp only [ints_len] at *; omega)) ?_ | refine CutOb.split ?_ | refine Gh.mk [] ?_ | refine And.intro (And.intro (by (simp only [List.length_append, List.length_take, List.length_drop, List.length_cons, List.length_nil, ints_len, List.length_replicate, pks_len]; omega)) (by (simp only [List.length_append, List.length_take, List.length_drop, List.length_cons, List.length_nil, ints_len, List.length_replicate, pks_len]; omega))) ?_ | refine ⟨_, _, rfl, ints_get (by first | omega | (simp only [ints_len] at *; omega)), ?_⟩ | refine ⟨_, _, (Int.toNat_of_nonneg (by first | omega | (simp only [ints_len] at *; omega))).symm, ints_get (by first | omega | (simp only [ints_len] at *; omega)), ?_⟩ | refine DrawOb.mk [] (.qs [0, 1, 2, 3, 4, 5, 6, 7, 8, 9] (.l 10 [] .nil .no)) (by decide +kernel) ?_ | refine DrawOb.mk [] (.qs [0, 1, 2, 3, 4, 5, 6, 7, 8, 9, 10, 11, 12, 13, 14, 15, 16, 17, 18, 19, 20, 21, 22, 23, 24, 25, 26, 27, 28, 29, 30, 31, 32, 33, 34, 35, 36, 37, 38, 39, 40] .nil) (by decide +kernel) ?_ | fail)
      all_goals try (conv => whnf)
      exact ⟨t + 1, [0], by omega, by omega, by rw [← hset]; (refine Le.mk (by kernel_rfl) ?_ ?_ <;> repeat' (first | exact True.intro | refine And.intro ?_ ?_ | exact Imp.refl _ | exact Imp.any _ | exact Imp.num (by first | omega | simp only [ints_len]) | exact rfl | exact Imp.bl (by simp)))⟩
    · have e : t = 101 := by omega
      subst e
      have e : vals (mixV (sumB m j) (sumB m (j + 1)) 101) 101 = vals (sumB m (j + 1)) 101 := vals_congr fun u hu => by unfold mixV; rw [if_pos hu]
      rw [e]
      repeat' (conv => whnf
               first | (refine CondOb.mk (fun _ => ?_) (fun _ => ?_) <;> first | (exfalso; omega) | skip) | refine ArOb.fits (by first | omega | (simp only [ints_len] at *; omega)) ?_ | refine LitOb.vec ?_ | refine MakeOb.vec ?_ | refine AllocOb.box ?_ | refine AsgOb.vec ?_ | refine AggOb.mk (by decide +kernel) ?_ | refine ArU.fits (by first | omega | (simp only [ints_len] at *; omega)) ?_ | refine ArB.fits (by first | omega | (simp only [ints_len] at *; omega)) ?_ | refine CutOb.split ?_ | refine Gh.mk [] ?_ | refine And.intro (And.intro (by (simp only [List.length_append, List.length_take, List.length_drop, List.length_cons, List.length_nil, ints_len, List.length_replicate, pks_len]; omega)) (by (simp only [List.length_append, List.length_take, List.length_drop, List.length_cons, List.length_nil, ints_len, List.length_replicate, pks_len]; omega))) ?_ | refine ⟨_, _, rfl, ints_get (by first | omega | (simp only [ints_len] at *; omega)), ?_⟩ | refine ⟨_, _, (Int.toNat_of_nonneg (by first | omega | (simp only [ints_len] at *; omega))).symm, ints_get (by first | omega | (simp only [ints_len] at *; omega)), ?_⟩ | refine DrawOb.mk [] (.qs [0, 1, 2, 3, 4, 5, 6, 7, 8, 9] (.l 10 [] .nil .no)) (by decide +kernel) ?_ | refine DrawOb.mk [] (.qs [0, 1, 2, 3, 4, 5, 6, 7, 8, 9, 10, 11, 12, 13, 14, 15, 16, 17, 18, 19, 20, 21, 22, 23, 24, 25, 26, 27, 28, 29, 30, 31, 32, 33, 34, 35, 36, 37, 38, 39, 40] .nil) (by decide +kernel) ?_ | fail)
      all_goals try (conv => whnf)
      exact ⟨j + 1, [0], by omega, by omega, by (refine Le.mk (by kernel_rfl) ?_ ?_ <;> repeat' (first | exact True.intro | refine And.intro ?_ ?_ | exact Imp.refl _ | exact Imp.any _ | exact Imp.num (by first | omega | simp only [ints_len]) | exact rfl | exact Imp.bl (by simp)))⟩
  · have e : j = 3 := by omega
    subst e
    have lS : (ints (vals (sumB m 3) 101)).length = 101 := by rw [ints_len, vals_len]
    have gS := fun (t : Nat) (h : t < 101) => (ints_get (l := vals (sumB m 3) 101) (j := t) (by rw [vals_len]; omega)).trans (by rw [vals_get h, hs3])
    have cV := Validate_ok m (by omega)
    rw [vld_zero.2 hVm] at cV
    generalize vals (sumB m 3) 101 = S at *
    repeat' (conv => whnf
             first | (refine CondOb.mk (fun _ => ?_) (fun _ => ?_) <;> first | (exfalso; omega) | skip) | refine ArOb.fits (by first | omega | (simp only [ints_len] at *; omega)) ?_ | refine LitOb.vec ?_ | refine MakeOb.vec ?_ | refine AllocOb.box ?_ | refine AsgOb.vec ?_ | refine AggOb.mk (by decide +kernel) ?_ | refine ArU.fits (by first | omega | (simp only [ints_len] at *; omega)) ?_ | refine ArB.fits (by first | omega | (simp only [ints_len] at *; omega)) ?_ | refine CutOb.split ?_ | refine Gh.mk [] ?_ | refine And.intro (And.intro (by (simp only [List.length_append, List.length_take, List.length_drop, List.length_cons, List.length_nil, ints_len, List.length_replicate, pks_len]; omega)) (by (simp only [List.length_append, List.length_take, List.length_drop, List.length_cons, List.length_nil, ints_len, List.length_replicate, pks_len]; omega))) ?_ | refine ⟨_, _, rfl, ints_get (by first | omega | (simp only [ints_len] at *; omega)), ?_⟩ | refine ⟨_, _, (Int.toNat_of_nonneg (by first | omega | (simp only [ints_len] at *; omega))).symm, ints_get (by first | omega | (simp only [ints_len] at *; omega)), ?_⟩ | refine DrawOb.mk [] (.qs [0, 1, 2, 3, 4, 5, 6, 7, 8, 9] (.l 10 [] .nil .no)) (by decide +kernel) ?_ | refine DrawOb.mk [] (.qs [0, 1, 2, 3, 4, 5, 6, 7, 8, 9, 10, 11, 12, 13, 14, 15, 16, 17, 18, 19, 20, 21, 22, 23, 24, 25, 26, 27, 28, 29, 30, 31, 32, 33, 34, 35, 36, 37, 38, 39, 40] .nil) (by decide +kernel) ?_ | fail)
    all_goals try (conv => whnf)
    refine LoopOb.mk (Y := Nat) (st := fun t => ⟨[(118, i64 t), (117, i64 101), (14, .vec 0), (12, .psl 1 (ints (vals C 101))), (10, .psl 1 (ints (vals B 101))), (8, .psl 1 (ints (vals A 101))), (6, .psl 3 (pks m))], [.vec 1 (ints S)]⟩)
      (inv := fun t => t ≤ 101) (fun t => 101 - t) 0 [0] (by omega) (by (refine Le.mk (by kernel_rfl) ?_ ?_ <;> repeat' (first | exact True.intro | refine And.intro ?_ ?_ | exact Imp.refl _ | exact Imp.any _ | exact Imp.num (by first | omega | simp only [ints_len]) | exact rfl | exact Imp.bl (by simp)))) ?_
    intro t ht
    repeat' (conv => whnf
             first | refine ArOb.fits (by first | omega | (simp only [ints_len] at *; omega)) ?_ | refine LitOb.vec ?_ | refine MakeOb.vec ?_ | refine AllocOb.box ?_ | refine AsgOb.vec ?_ | refine AggOb.mk (by decide +kernel) ?_ | refine ArU.fits (by first | omega | (simp only [ints_len] at *; omega)) ?_ | refine ArB.fits (by first | omega | (simp only [ints_len] at *; omega)) ?_ | refine CutOb.split ?_ | refine Gh.mk [] ?_ | refine And.intro (And.intro (by (simp only [List.length_append, List.length_take, List.length_drop, List.length_cons, List.length_nil, ints_len, List.length_replicate, pks_len]; omega)) (by (simp only [List.length_append, List.length_take, List.length_drop, List.length_cons, List.length_nil, ints_len, List.length_replicate, pks_len]; omega))) ?_ | refine ⟨_, _, rfl, ints_get (by first | omega | (simp only [ints_len] at *; omega)), ?_⟩ | refine ⟨_, _, (Int.toNat_of_nonneg (by first | omega | (simp only [ints_len] at *; omega))).symm, ints_get (by first | omega | (simp only [ints_len] at *; omega)), ?_⟩ | refine DrawOb.mk [] (.qs [0, 1, 2, 3, 4, 5, 6, 7, 8, 9] (.l 10 [] .nil .no)) (by decide +kernel) ?_ | refine DrawOb.mk [] (.qs [0, 1, 2, 3, 4, 5, 6, 7, 8, 9, 10, 11, 12, 13, 14, 15, 16, 17, 18, 19, 20, 21, 22, 23, 24, 25, 26, 27, 28, 29, 30, 31, 32, 33, 34, 35, 36, 37, 38, 39, 40] .nil) (by decide +kernel) ?_ | fail)
    all_goals try (conv => whnf)
    refine CondOb.mk (fun hl2 => ?_) (fun hl2 => ?_)
    · have htl : t < 101 := by omega
      have g1 := gA t htl
      have g2 := gB t htl
      have g3 := gC t htl
      have g4 := gS t htl
      have g5 := fun h : 0 < t => gC (t - 1) (by omega)
      have hm := fun h : 0 < t => hCm (t - 1)
      have ha := hadd t
      have b1 := bA t
      have b2 := bB t
      have hm : 0 < t → C (t - 1) ≤ C t := fun h => by have h2 := hm h; rw [show t - 1 + 1 = t by omega] at h2; exact h2
      generalize C (t - 1) = c' at *
      generalize C t = c at *
      generalize A t = a at *
      generalize B t = b at *
      repeat' (conv => whnf
               first | refine ⟨_, g4, ?_⟩ | refine ⟨t, by omega, by omega, ?_⟩ | refine ⟨t - 1, _, by omega, g5 (by omega), ?_⟩ | refine ⟨t, _, rfl, g3, ?_⟩ | refine ⟨t, _, rfl, g2, ?_⟩ | refine ⟨t, _, rfl, g1, ?_⟩ | (refine CondOb.mk (fun _ => ?_) (fun _ => ?_) <;> first | (exfalso; omega) | skip) | refine ArOb.fits (by first | omega | (simp only [ints_len] at *; omega)) ?_ | refine LitOb.vec ?_ | refine MakeOb.vec ?_ | refine AllocOb.box ?_ | refine AsgOb.vec ?_ | refine AggOb.mk (by decide +kernel) ?_ | refine ArU.fits (by first | omega | (simp only [ints_len] at *; omega)) ?_ | refine ArB.fits (by first | omega | (simp only [ints_len] at *; omega)) ?_ | refine CutOb.split ?_ | refine Gh.mk [] ?_ | refine And.intro (And.intro (by (simp only [List.length_append, List.length_take, List.length_drop, List.length_cons, List.length_nil, ints_len, List.length_replicate, pks_len]; omega)) (by (simp only [List.length_append, List.length_take, List.length_drop, List.length_cons, List.length_nil, ints_len, List.length_replicate, pks_len]; omega))) ?_ | refine ⟨_, _, rfl, ints_get (by first | omega | (simp only [ints_len] at *; omega)), ?_⟩ | refine ⟨_, _, (Int.toNat_of_nonneg (by first | omega | (simp only [ints_len] at *; omega))).symm, ints_get (by first | omega | (simp only [ints_len] at *; omega)), ?_⟩ | refine DrawOb.mk [] (.qs [0, 1, 2, 3, 4, 5, 6, 7, 8, 9] (.l 10 [] .nil .no)) (by decide +kernel) ?_ | refine DrawOb.mk [] (.qs [0, 1, 2, 3, 4, 5, 6, 7, 8, 9, 10, 11, 12, 13, 14, 15, 16, 17, 18, 19, 20, 21, 22, 23, 24, 25, 26, 27, 28, 29, 30, 31, 32, 33, 34, 35, 36, 37, 38, 39, 40] .nil) (by decide +kernel) ?_ | fail)
      all_goals try (conv => whnf)
      all_goals first
        | exact ⟨t + 1, [0], by omega, by omega, by (refine Le.mk (by kernel_rfl) ?_ ?_ <;> repeat' (first | exact True.intro | refine And.intro ?_ ?_ | exact Imp.refl _ | exact Imp.any _ | exact Imp.num (by first | omega | simp only [ints_len]) | exact rfl | exact Imp.bl (by simp)))⟩
        | (exfalso; omega)
        | trace_state
    · repeat' (conv => whnf
               first | (refine CondOb.mk (fun _ => ?_) (fun _ => ?_) <;> first | (exfalso; omega) | skip) | refine ArOb.fits (by first | omega | (simp only [ints_len] at *; omega)) ?_ | refine LitOb.vec ?_ | refine MakeOb.vec ?_ | refine AllocOb.box ?_ | refine AsgOb.vec ?_ | refine AggOb.mk (by decide +kernel) ?_ | refine ArU.fits (by first | omega | (simp only [ints_len] at *; omega)) ?_ | refine ArB.fits (by first | omega | (simp only [ints_len] at *; omega)) ?_ | refine CutOb.split ?_ | refine Gh.mk [] ?_ | refine And.intro (And.intro (by (simp only [List.length_append, List.length_take, List.length_drop, List.length_cons, List.length_nil, ints_len, List.length_replicate, pks_len]; omega)) (by (simp only [List.length_append, List.length_take, List.length_drop, List.length_cons, List.length_nil, ints_len, List.length_replicate, pks_len]; omega))) ?_ | refine ⟨_, _, rfl, ints_get (by first | omega | (simp only [ints_len] at *; omega)), ?_⟩ | refine ⟨_, _, (Int.toNat_of_nonneg (by first | omega | (simp only [ints_len] at *; omega))).symm, ints_get (by first | omega | (simp only [ints_len] at *; omega)), ?_⟩ | refine DrawOb.mk [] (.qs [0, 1, 2, 3, 4, 5, 6, 7, 8, 9] (.l 10 [] .nil .no)) (by decide +kernel) ?_ | refine DrawOb.mk [] (.qs [0, 1, 2, 3, 4, 5, 6, 7, 8, 9, 10, 11, 12, 13, 14, 15, 16, 17, 18, 19, 20, 21, 22, 23, 24, 25, 26, 27, 28, 29, 30, 31, 32, 33, 34, 35, 36, 37, 38, 39, 40] .nil) (by decide +kernel) ?_ | (refine CallOb.mk [] cV rfl (ImpL.refl _) rfl rfl ?_; rintro _ _ ⟨rfl, rfl⟩) | (refine CallOb.mk [] (awake_ok) rfl (ImpL.refl _) rfl rfl ?_; rintro _ _ ⟨rfl, rfl⟩) | fail)
      all_goals try (conv => whnf)
      all_goals first
        | rfl
        | (exfalso; omega)
        | trace_state
end Go.Proofs.Ytlnpbgjoccipaaa
