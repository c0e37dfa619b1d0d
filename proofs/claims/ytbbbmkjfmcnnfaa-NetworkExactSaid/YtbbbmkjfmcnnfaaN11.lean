/-
  A text of the proofs of this seat: lemmas that the statements' proofs use; it states nothing of the program by itself beyond the contracts that its theorems bear. Conditions: those that stand in each theorem. Its short name: N11.
-/
import Derived.Test.YtbbbmkjfmcnnfaaN10
set_option linter.unusedVariables false
set_option linter.unusedSimpArgs false
namespace Go.Proofs.Ytbbbmkjfmcnnfaa
open Go.Sx Go.Np Go.Cv
set_option maxRecDepth 4000
set_option maxHeartbeats 2000000
abbrev Sz := Int × Int
def sf (C : Nat) (g : Nat → Sz) : List (List SV) := (List.range C).map fun j => [i64 (g j).1, i64 (g j).2]
theorem sf_len {C : Nat} {g : Nat → Sz} : (sf C g).length = C := by simp [sf]
theorem sf_get {C : Nat} {g : Nat → Sz} {j : Nat} (h : j < C) : (sf C g)[j]? = some [i64 (g j).1, i64 (g j).2] := by simp [sf, h]
def su (g : Nat → Sz) (i : Nat) (z : Sz) (j : Nat) : Sz := if j = i then z else g j
theorem sf_set {C : Nat} {g : Nat → Sz} {i : Nat} {a b : Int} : (sf C g).set i [i64 a, i64 b] = sf C (su g i (a, b)) := by
  apply List.ext_getElem
  · simp [sf]
  · intro j h1 h2
    simp only [sf, List.length_set, List.length_map, List.length_range] at h1
    rw [List.getElem_set]
    simp only [sf, List.getElem_map, List.getElem_range, su]
    by_cases e : i = j
    · subst e; simp
    · rw [if_neg e, if_neg (Ne.symm e)]
theorem sf_congr {C : Nat} {g h : Nat → Sz} (e : ∀ j < C, g j = h j) : sf C g = sf C h := by
  unfold sf; apply List.map_congr_left; intro j hj; rw [e j (List.mem_range.1 hj)]
theorem sf_succ {C : Nat} {g : Nat → Sz} : sf (C + 1) g = sf C g ++ [[i64 (g C).1, i64 (g C).2]] := by simp [sf, List.range_succ]
theorem su_su {g : Nat → Sz} {i : Nat} {a b : Sz} : su (su g i a) i b = su g i b := by funext j; unfold su; split <;> rfl
/- the sizes of a line -/
noncomputable def szC (n : Nt) (l : Int) : Nat := if chkN n ≠ 0 ∨ l < 0 ∨ (n.ln.length : Int) ≤ l then 0 else (n.ln.getD l.toNat ln0).n.toNat
noncomputable def szR (n : Nt) (l : Int) : List (List SV) := sf (szC n l) fun c => szs n (members n l c)
theorem chk_n {n : Nt} (h : chkN n = 0) {i : Nat} (hi : i < n.ln.length) : 1 ≤ (n.ln.getD i ln0).n ∧ (n.ln.getD i ln0).n ≤ 6 := by
  have := (chkN_zero h).2.2.1 i hi
  unfold lineE at this
  split at this
  · contradiction
  · unfold lnErr at this
    split at this
    · omega
    · split at this <;> omega
theorem chk_f {n : Nt} (h : chkN n = 0) : n.fl.length ≤ 10 := by have := (chkN_zero h).1; omega
def osz (n : Nt) (l : Int) (c j : Nat) : Sz := if j < c then szs n (members n l j) else (0, 0)
theorem osz_step {n : Nt} {l : Int} {c : Nat} : su (osz n l c) c (szs n (members n l c)) = osz n l (c + 1) := by
  funext j; unfold su osz
  by_cases e : j = c
  · subst e; simp
  · rw [if_neg e]; simp only [show j < c ↔ j < c + 1 by omega]
theorem sf_zero {C : Nat} {n : Nt} {l : Int} : sf C (osz n l 0) = List.replicate C [i64 0, i64 0] := by
  apply List.ext_getElem
  · simp [sf]
  · intro j h1 h2
    simp [sf, osz]
theorem su_same {g : Nat → Sz} {i : Nat} {z : Sz} : su g i z i = z := by simp [su]
theorem szs_snoc {n : Nt} {m : List Int} {k : Nat} (h : k < m.length) : szs n (m.take (k + 1)) = if k = 0 then ((n.fl.getD (m.getD k 0).toNat fl0).lo, (n.fl.getD (m.getD k 0).toNat fl0).hi) else (min (szs n (m.take k)).1 (n.fl.getD (m.getD k 0).toNat fl0).lo, max (szs n (m.take k)).2 (n.fl.getD (m.getD k 0).toNat fl0).hi) := by
  rw [take_succ' (d := 0) h]
  split
  · rename_i e; subst e; rfl
  · rw [szs_step]
    intro e
    have := congrArg List.length e
    rw [List.length_take] at this
    simp only [List.length_nil] at this
    omega
theorem Sizes_ok (n : Nt) (hn : NL n) (l : Int) : Ctr Try.prog 21 [ntv n, i64 l] [] (fun r o => o = [] ∧ r = .psl 2 (szR n l)) := by
  refine Ctr.imp ?_
  refine fn_intro (E := env 0) tys_ok rfl rfl rfl Try.func21 (by kernel_rfl) rfl (by kernel_rfl) ?_
  have hll := lnl n.ln
  have hfl := fll n.fl
  have h2 := hn.ln
  have cC := Check_ok n hn
  have z0 : chkN n ≠ 0 ∨ l < 0 ∨ (n.ln.length : Int) ≤ l → szR n l = [] := fun h => by unfold szR szC; rw [if_pos h]; rfl
  have z1 : ¬(chkN n ≠ 0 ∨ l < 0 ∨ (n.ln.length : Int) ≤ l) → szR n l = sf (n.ln.getD l.toNat ln0).n.toNat fun c => szs n (members n l c) := fun h => by unfold szR szC; rw [if_neg h]
  have c0 : chkN n = 0 → n.fl.length ≤ 10 := chk_f
  have c1 : chkN n = 0 → ∀ i < n.ln.length, 1 ≤ (n.ln.getD i ln0).n ∧ (n.ln.getD i ln0).n ≤ 6 := fun h i hi => chk_n h hi
  generalize szR n l = Z at *
  generalize chkN n = E at *
  repeat' (conv => whnf
           first | (refine Gh.mk [.fa] ?_; (conv => whnf); refine ⟨rfl, ?_⟩; rw [z0 (by omega)]; exact Imp.refl _) | (refine CondOb.mk (fun _ => ?_) (fun _ => ?_) <;> first | (exfalso; omega) | skip) | refine ArOb.fits (by first | omega | (simp only [ints_len] at *; omega)) ?_ | refine LitOb.vec ?_ | refine MakeOb.vec ?_ | refine AllocOb.box ?_ | refine AggOb.mk (by decide +kernel) ?_ | refine ArU.fits (by first | omega | (simp only [ints_len] at *; omega)) ?_ | refine ArB.fits (by first | omega | (simp only [ints_len] at *; omega)) ?_ | refine CutOb.split ?_ | refine Gh.mk [] ?_ | refine And.intro (And.intro (by (simp only [List.length_append, List.length_take, List.length_drop, List.length_cons, List.length_nil, ints_len, List.length_replicate, lnl, fll, stl]; omega)) (by (simp only [List.length_append, List.length_take, List.length_drop, List.length_cons, List.length_nil, ints_len, List.length_replicate, lnl, fll, stl]; omega))) ?_ | refine ⟨_, _, rfl, ints_get (by first | omega | (simp only [ints_len] at *; omega)), ?_⟩ | refine ⟨_, _, (Int.toNat_of_nonneg (by first | omega | (simp only [ints_len] at *; omega))).symm, ints_get (by first | omega | (simp only [ints_len] at *; omega)), ?_⟩ | refine DrawOb.mk [] (.qs [0, 1, 2, 3, 4, 5, 6, 7, 8, 9, 10, 11, 12, 13, 14, 15, 16, 17, 18, 19] (.l 20 [] .nil .no)) (by decide +kernel) ?_ | (refine CallOb.mk [] cC rfl (ImpL.refl _) rfl rfl ?_; rintro _ _ ⟨rfl, rfl⟩) | fail)
  all_goals try (conv => whnf)
  have z1 := z1 (by omega)
  have c0 := c0 (by omega)
  have hil : l.toNat < n.ln.length := by omega
  have c1 := c1 (by omega) _ hil
  have hg := lng hil
  generalize n.ln.getD l.toNat ln0 = g at *
  clear z0
  repeat' (conv => whnf
           first | (refine CondOb.mk (fun _ => ?_) (fun _ => ?_) <;> first | (exfalso; omega) | skip) | refine ArOb.fits (by first | omega | (simp only [ints_len] at *; omega)) ?_ | refine LitOb.vec ?_ | refine MakeOb.vec ?_ | refine AllocOb.box ?_ | refine AggOb.mk (by decide +kernel) ?_ | refine ArU.fits (by first | omega | (simp only [ints_len] at *; omega)) ?_ | refine ArB.fits (by first | omega | (simp only [ints_len] at *; omega)) ?_ | refine CutOb.split ?_ | refine Gh.mk [] ?_ | refine And.intro (And.intro (by (simp only [List.length_append, List.length_take, List.length_drop, List.length_cons, List.length_nil, ints_len, List.length_replicate, lnl, fll, stl]; omega)) (by (simp only [List.length_append, List.length_take, List.length_drop, List.length_cons, List.length_nil, ints_len, List.length_replicate, lnl, fll, stl]; omega))) ?_ | refine ⟨_, _, rfl, ints_get (by first | omega | (simp only [ints_len] at *; omega)), ?_⟩ | refine ⟨_, _, (Int.toNat_of_nonneg (by first | omega | (simp only [ints_len] at *; omega))).symm, ints_get (by first | omega | (simp only [ints_len] at *; omega)), ?_⟩ | refine DrawOb.mk [] (.qs [0, 1, 2, 3, 4, 5, 6, 7, 8, 9, 10, 11, 12, 13, 14, 15, 16, 17, 18, 19] (.l 20 [] .nil .no)) (by decide +kernel) ?_ | refine ⟨l.toNat, _, by omega, hg, ?_⟩ | fail)
  all_goals try (conv => whnf)
  obtain ⟨C, hC⟩ : ∃ C : Nat, g.n = C := ⟨g.n.toNat, by omega⟩
  rw [hC, Int.toNat_natCast] at z1
  rw [hC] at c1
  refine ⟨C, C, hC, hC, Nat.le_refl _, ⟨by dsimp only; omega, by omega⟩, ?_⟩
  rw [hC]
  repeat' (conv => whnf
           first | (refine CondOb.mk (fun _ => ?_) (fun _ => ?_) <;> first | (exfalso; omega) | skip) | refine ArOb.fits (by first | omega | (simp only [ints_len] at *; omega)) ?_ | refine LitOb.vec ?_ | refine MakeOb.vec ?_ | refine AllocOb.box ?_ | refine AggOb.mk (by decide +kernel) ?_ | refine ArU.fits (by first | omega | (simp only [ints_len] at *; omega)) ?_ | refine ArB.fits (by first | omega | (simp only [ints_len] at *; omega)) ?_ | refine CutOb.split ?_ | refine Gh.mk [] ?_ | refine And.intro (And.intro (by (simp only [List.length_append, List.length_take, List.length_drop, List.length_cons, List.length_nil, ints_len, List.length_replicate, lnl, fll, stl]; omega)) (by (simp only [List.length_append, List.length_take, List.length_drop, List.length_cons, List.length_nil, ints_len, List.length_replicate, lnl, fll, stl]; omega))) ?_ | refine ⟨_, _, rfl, ints_get (by first | omega | (simp only [ints_len] at *; omega)), ?_⟩ | refine ⟨_, _, (Int.toNat_of_nonneg (by first | omega | (simp only [ints_len] at *; omega))).symm, ints_get (by first | omega | (simp only [ints_len] at *; omega)), ?_⟩ | refine DrawOb.mk [] (.qs [0, 1, 2, 3, 4, 5, 6, 7, 8, 9, 10, 11, 12, 13, 14, 15, 16, 17, 18, 19] (.l 20 [] .nil .no)) (by decide +kernel) ?_ | fail)
  all_goals try (conv => whnf)
  have hN := hn
  refine LoopOb.mk (Y := Nat) (st := fun c => ⟨[(33, i64 c), (32, i64 C), (5, .vec 1), (2, .ptr 0 0), (1, i64 l)], [.box [.psl 1 (strs n.nm), .psl 5 (lns n.ln), .psl 8 (fls n.fl)], .vec 2 (sf C (osz n l c))]⟩)
    (inv := fun c => c ≤ C) (fun c => C - c) 0 [0, 2] (by omega) (by rw [sf_zero, List.length_replicate]; (refine Le.mk (by kernel_rfl) ?_ ?_ <;> repeat' (first | exact True.intro | refine And.intro ?_ ?_ | exact Imp.refl _ | exact Imp.any _ | exact Imp.num (by first | omega | simp only [ints_len]) | exact rfl | exact Imp.bl (by simp)))) ?_
  intro c hc
  have hsl := sf_len (C := C) (g := osz n l c)
  repeat' (conv => whnf
           first | refine ArOb.fits (by first | omega | (simp only [ints_len] at *; omega)) ?_ | refine LitOb.vec ?_ | refine MakeOb.vec ?_ | refine AllocOb.box ?_ | refine AggOb.mk (by decide +kernel) ?_ | refine ArU.fits (by first | omega | (simp only [ints_len] at *; omega)) ?_ | refine ArB.fits (by first | omega | (simp only [ints_len] at *; omega)) ?_ | refine CutOb.split ?_ | refine Gh.mk [] ?_ | refine And.intro (And.intro (by (simp only [List.length_append, List.length_take, List.length_drop, List.length_cons, List.length_nil, ints_len, List.length_replicate, lnl, fll, stl]; omega)) (by (simp only [List.length_append, List.length_take, List.length_drop, List.length_cons, List.length_nil, ints_len, List.length_replicate, lnl, fll, stl]; omega))) ?_ | refine ⟨_, _, rfl, ints_get (by first | omega | (simp only [ints_len] at *; omega)), ?_⟩ | refine ⟨_, _, (Int.toNat_of_nonneg (by first | omega | (simp only [ints_len] at *; omega))).symm, ints_get (by first | omega | (simp only [ints_len] at *; omega)), ?_⟩ | refine DrawOb.mk [] (.qs [0, 1, 2, 3, 4, 5, 6, 7, 8, 9, 10, 11, 12, 13, 14, 15, 16, 17, 18, 19] (.l 20 [] .nil .no)) (by decide +kernel) ?_ | fail)
  all_goals try (conv => whnf)
  refine CondOb.mk (fun hlt => ?_) (fun hlt => ?_)
  · have hcC : c < C := by omega
    have hos := osz_step (n := n) (l := l) (c := c)
    have cM := Members_ok n hN (by omega) l c
    have hbd : ∀ x ∈ members n l c, 0 ≤ x ∧ x < n.fl.length := fun x hx => users_bd (mem_mbr.1 hx).1
    have hml : (members n l c).length ≤ n.fl.length := Nat.le_trans mbr_len usr_len
    generalize members n l c = m at *
    generalize osz n l c = o at *
    repeat' (conv => whnf
             first | (refine CondOb.mk (fun _ => ?_) (fun _ => ?_) <;> first | (exfalso; omega) | skip) | refine ArOb.fits (by first | omega | (simp only [ints_len] at *; omega)) ?_ | refine LitOb.vec ?_ | refine MakeOb.vec ?_ | refine AllocOb.box ?_ | refine AggOb.mk (by decide +kernel) ?_ | refine ArU.fits (by first | omega | (simp only [ints_len] at *; omega)) ?_ | refine ArB.fits (by first | omega | (simp only [ints_len] at *; omega)) ?_ | refine CutOb.split ?_ | refine Gh.mk [] ?_ | refine And.intro (And.intro (by (simp only [List.length_append, List.length_take, List.length_drop, List.length_cons, List.length_nil, ints_len, List.length_replicate, lnl, fll, stl]; omega)) (by (simp only [List.length_append, List.length_take, List.length_drop, List.length_cons, List.length_nil, ints_len, List.length_replicate, lnl, fll, stl]; omega))) ?_ | refine ⟨_, _, rfl, ints_get (by first | omega | (simp only [ints_len] at *; omega)), ?_⟩ | refine ⟨_, _, (Int.toNat_of_nonneg (by first | omega | (simp only [ints_len] at *; omega))).symm, ints_get (by first | omega | (simp only [ints_len] at *; omega)), ?_⟩ | refine DrawOb.mk [] (.qs [0, 1, 2, 3, 4, 5, 6, 7, 8, 9, 10, 11, 12, 13, 14, 15, 16, 17, 18, 19] (.l 20 [] .nil .no)) (by decide +kernel) ?_ | refine ⟨c, rfl, by omega, ?_⟩ | refine ⟨_, sf_get hcC, ?_⟩ | (refine CallOb.mk [] cM rfl (ImpL.refl _) rfl rfl ?_; rintro _ _ ⟨rfl, rfl⟩) | fail)
    all_goals try (conv => whnf)
    have hmi := ints_len m
    refine LoopOb.mk (Y := Nat) (st := fun k => ⟨[(45, i64 k), (44, i64 (ints m).length), (43, .psl 1 (ints m)), (6, i64 c), (33, i64 c), (32, i64 C), (5, .vec 1), (2, .ptr 0 0), (1, i64 l)], [.box [.psl 1 (strs n.nm), .psl 5 (lns n.ln), .psl 8 (fls n.fl)], .vec 2 (sf C (su o c (szs n (m.take k))))]⟩)
      (inv := fun k => k ≤ m.length) (fun k => m.length - k) 0 [0, 1] (by omega) (by rw [sf_set]; (refine Le.mk (by kernel_rfl) ?_ ?_ <;> repeat' (first | exact True.intro | refine And.intro ?_ ?_ | exact Imp.refl _ | exact Imp.any _ | exact Imp.num (by first | omega | simp only [ints_len]) | exact rfl | exact Imp.bl (by simp)))) ?_
    intro k hk
    repeat' (conv => whnf
             first | refine ArOb.fits (by first | omega | (simp only [ints_len] at *; omega)) ?_ | refine LitOb.vec ?_ | refine MakeOb.vec ?_ | refine AllocOb.box ?_ | refine AggOb.mk (by decide +kernel) ?_ | refine ArU.fits (by first | omega | (simp only [ints_len] at *; omega)) ?_ | refine ArB.fits (by first | omega | (simp only [ints_len] at *; omega)) ?_ | refine CutOb.split ?_ | refine Gh.mk [] ?_ | refine And.intro (And.intro (by (simp only [List.length_append, List.length_take, List.length_drop, List.length_cons, List.length_nil, ints_len, List.length_replicate, lnl, fll, stl]; omega)) (by (simp only [List.length_append, List.length_take, List.length_drop, List.length_cons, List.length_nil, ints_len, List.length_replicate, lnl, fll, stl]; omega))) ?_ | refine ⟨_, _, rfl, ints_get (by first | omega | (simp only [ints_len] at *; omega)), ?_⟩ | refine ⟨_, _, (Int.toNat_of_nonneg (by first | omega | (simp only [ints_len] at *; omega))).symm, ints_get (by first | omega | (simp only [ints_len] at *; omega)), ?_⟩ | refine DrawOb.mk [] (.qs [0, 1, 2, 3, 4, 5, 6, 7, 8, 9, 10, 11, 12, 13, 14, 15, 16, 17, 18, 19] (.l 20 [] .nil .no)) (by decide +kernel) ?_ | fail)
    all_goals try (conv => whnf)
    refine CondOb.mk (fun hlt2 => ?_) (fun hlt2 => ?_)
    · have hkl : k < m.length := by omega
      have hsn := szs_snoc (n := n) hkl
      have hx := hbd _ (getD_in (d := 0) hkl)
      have hgf := flg (l := n.fl) (i := (m.getD k 0).toNat) (by omega)
      have hgs := sf_get (g := su o c (szs n (m.take k))) hcC
      rw [su_same] at hgs
      have hsl2 := sf_len (C := C) (g := su o c (szs n (m.take k)))
      generalize n.fl.getD (m.getD k 0).toNat fl0 = f at *
      generalize szs n (m.take k) = z at *
      repeat' (conv => whnf
               first | (refine CondOb.mk (fun _ => ?_) (fun _ => ?_) <;> first | (exfalso; omega) | skip) | refine ArOb.fits (by first | omega | (simp only [ints_len] at *; omega)) ?_ | refine LitOb.vec ?_ | refine MakeOb.vec ?_ | refine AllocOb.box ?_ | refine AggOb.mk (by decide +kernel) ?_ | refine ArU.fits (by first | omega | (simp only [ints_len] at *; omega)) ?_ | refine ArB.fits (by first | omega | (simp only [ints_len] at *; omega)) ?_ | refine CutOb.split ?_ | refine Gh.mk [] ?_ | refine And.intro (And.intro (by (simp only [List.length_append, List.length_take, List.length_drop, List.length_cons, List.length_nil, ints_len, List.length_replicate, lnl, fll, stl]; omega)) (by (simp only [List.length_append, List.length_take, List.length_drop, List.length_cons, List.length_nil, ints_len, List.length_replicate, lnl, fll, stl]; omega))) ?_ | refine ⟨_, _, rfl, ints_get (by first | omega | (simp only [ints_len] at *; omega)), ?_⟩ | refine ⟨_, _, (Int.toNat_of_nonneg (by first | omega | (simp only [ints_len] at *; omega))).symm, ints_get (by first | omega | (simp only [ints_len] at *; omega)), ?_⟩ | refine DrawOb.mk [] (.qs [0, 1, 2, 3, 4, 5, 6, 7, 8, 9, 10, 11, 12, 13, 14, 15, 16, 17, 18, 19] (.l 20 [] .nil .no)) (by decide +kernel) ?_ | refine ⟨(m.getD k 0).toNat, _, by omega, hgf, ?_⟩ | refine ⟨c, rfl, by omega, ?_⟩ | refine ⟨_, hgs, ?_⟩ | refine ⟨_, sf_get hcC, ?_⟩ | fail)
      all_goals try (conv => whnf)
      · rw [if_pos (by omega)] at hsn
        exact ⟨k + 1, [0, 1], by omega, by omega, by rw [hsn, sf_set, su_su]; (refine Le.mk (by kernel_rfl) ?_ ?_ <;> repeat' (first | exact True.intro | refine And.intro ?_ ?_ | exact Imp.refl _ | exact Imp.any _ | exact Imp.num (by first | omega | simp only [ints_len]) | exact rfl | exact Imp.bl (by simp)))⟩
      · rw [if_neg (by omega)] at hsn
        exact ⟨k + 1, [0, 1], by omega, by omega, by rw [hsn, sf_set, su_su]; (refine Le.mk (by kernel_rfl) ?_ ?_ <;> repeat' (first | exact True.intro | refine And.intro ?_ ?_ | exact Imp.refl _ | exact Imp.any _ | exact Imp.num (by first | omega | simp only [ints_len]) | exact rfl | exact Imp.bl (by simp)))⟩
    · rw [List.take_of_length_le (show m.length ≤ k by omega), hos]
      repeat' (conv => whnf
               first | (refine CondOb.mk (fun _ => ?_) (fun _ => ?_) <;> first | (exfalso; omega) | skip) | refine ArOb.fits (by first | omega | (simp only [ints_len] at *; omega)) ?_ | refine LitOb.vec ?_ | refine MakeOb.vec ?_ | refine AllocOb.box ?_ | refine AggOb.mk (by decide +kernel) ?_ | refine ArU.fits (by first | omega | (simp only [ints_len] at *; omega)) ?_ | refine ArB.fits (by first | omega | (simp only [ints_len] at *; omega)) ?_ | refine CutOb.split ?_ | refine Gh.mk [] ?_ | refine And.intro (And.intro (by (simp only [List.length_append, List.length_take, List.length_drop, List.length_cons, List.length_nil, ints_len, List.length_replicate, lnl, fll, stl]; omega)) (by (simp only [List.length_append, List.length_take, List.length_drop, List.length_cons, List.length_nil, ints_len, List.length_replicate, lnl, fll, stl]; omega))) ?_ | refine ⟨_, _, rfl, ints_get (by first | omega | (simp only [ints_len] at *; omega)), ?_⟩ | refine ⟨_, _, (Int.toNat_of_nonneg (by first | omega | (simp only [ints_len] at *; omega))).symm, ints_get (by first | omega | (simp only [ints_len] at *; omega)), ?_⟩ | refine DrawOb.mk [] (.qs [0, 1, 2, 3, 4, 5, 6, 7, 8, 9, 10, 11, 12, 13, 14, 15, 16, 17, 18, 19] (.l 20 [] .nil .no)) (by decide +kernel) ?_ | fail)
      all_goals try (conv => whnf)
      exact ⟨c + 1, [0, 1], by omega, by omega, by (refine Le.mk (by kernel_rfl) ?_ ?_ <;> repeat' (first | exact True.intro | refine And.intro ?_ ?_ | exact Imp.refl _ | exact Imp.any _ | exact Imp.num (by first | omega | simp only [ints_len]) | exact rfl | exact Imp.bl (by simp)))⟩
  · have e : c = C := by omega
    subst e
    repeat' (conv => whnf
             first | refine CondOb.mk (fun _ => ?_) (fun _ => ?_) | refine ArOb.fits (by first | omega | (simp only [ints_len] at *; omega)) ?_ | refine LitOb.vec ?_ | refine MakeOb.vec ?_ | refine AllocOb.box ?_ | refine AggOb.mk (by decide +kernel) ?_ | refine ArU.fits (by first | omega | (simp only [ints_len] at *; omega)) ?_ | refine ArB.fits (by first | omega | (simp only [ints_len] at *; omega)) ?_ | refine CutOb.split ?_ | refine And.intro (And.intro (by (simp only [List.length_append, List.length_take, List.length_drop, List.length_cons, List.length_nil, ints_len, List.length_replicate, lnl, fll, stl]; omega)) (by (simp only [List.length_append, List.length_take, List.length_drop, List.length_cons, List.length_nil, ints_len, List.length_replicate, lnl, fll, stl]; omega))) ?_ | refine ⟨_, _, rfl, ints_get (by first | omega | (simp only [ints_len] at *; omega)), ?_⟩ | refine ⟨_, _, (Int.toNat_of_nonneg (by first | omega | (simp only [ints_len] at *; omega))).symm, ints_get (by first | omega | (simp only [ints_len] at *; omega)), ?_⟩ | refine DrawOb.mk [] (.qs [0, 1, 2, 3, 4, 5, 6, 7, 8, 9, 10, 11, 12, 13, 14, 15, 16, 17, 18, 19] (.l 20 [] .nil .no)) (by decide +kernel) ?_ | fail)
    all_goals try (conv => whnf)
    refine .mk [.fz 1] ?_
    repeat' (conv => whnf
             first | refine CondOb.mk (fun _ => ?_) (fun _ => ?_) | refine ArOb.fits (by first | omega | (simp only [ints_len] at *; omega)) ?_ | refine LitOb.vec ?_ | refine MakeOb.vec ?_ | refine AllocOb.box ?_ | refine AggOb.mk (by decide +kernel) ?_ | refine ArU.fits (by first | omega | (simp only [ints_len] at *; omega)) ?_ | refine ArB.fits (by first | omega | (simp only [ints_len] at *; omega)) ?_ | refine CutOb.split ?_ | refine Gh.mk [] ?_ | refine And.intro (And.intro (by (simp only [List.length_append, List.length_take, List.length_drop, List.length_cons, List.length_nil, ints_len, List.length_replicate, lnl, fll, stl]; omega)) (by (simp only [List.length_append, List.length_take, List.length_drop, List.length_cons, List.length_nil, ints_len, List.length_replicate, lnl, fll, stl]; omega))) ?_ | refine ⟨_, _, rfl, ints_get (by first | omega | (simp only [ints_len] at *; omega)), ?_⟩ | refine ⟨_, _, (Int.toNat_of_nonneg (by first | omega | (simp only [ints_len] at *; omega))).symm, ints_get (by first | omega | (simp only [ints_len] at *; omega)), ?_⟩ | refine DrawOb.mk [] (.qs [0, 1, 2, 3, 4, 5, 6, 7, 8, 9, 10, 11, 12, 13, 14, 15, 16, 17, 18, 19] (.l 20 [] .nil .no)) (by decide +kernel) ?_ | fail)
    all_goals try (conv => whnf)
    refine ⟨rfl, ?_⟩
    rw [z1, sf_congr (g := fun c => szs n (members n l c)) (h := osz n l c) (fun j hj => by unfold osz; rw [if_pos hj])]
    exact Imp.refl _
theorem rSizes_ok (n : Nt) (hn : NL n) (l : Int) : Ctr Try.prog 22 [ntv n, i64 l] [] (fun r o => o = [] ∧ r = .psl 2 (szR n l)) := by
  refine Ctr.imp ?_
  refine fn_intro (E := env 0) tys_ok rfl rfl rfl Try.func22 (by kernel_rfl) rfl (by kernel_rfl) ?_
  have hll := lnl n.ln
  have hfl := fll n.fl
  have h2 := hn.ln
  have cC := rCheck_ok n hn
  have z0 : chkN n ≠ 0 ∨ l < 0 ∨ (n.ln.length : Int) ≤ l → szR n l = [] := fun h => by unfold szR szC; rw [if_pos h]; rfl
  have z1 : ¬(chkN n ≠ 0 ∨ l < 0 ∨ (n.ln.length : Int) ≤ l) → szR n l = sf (n.ln.getD l.toNat ln0).n.toNat fun c => szs n (members n l c) := fun h => by unfold szR szC; rw [if_neg h]
  have c0 : chkN n = 0 → n.fl.length ≤ 10 := chk_f
  have c1 : chkN n = 0 → ∀ i < n.ln.length, 1 ≤ (n.ln.getD i ln0).n ∧ (n.ln.getD i ln0).n ≤ 6 := fun h i hi => chk_n h hi
  generalize szR n l = Z at *
  generalize chkN n = E at *
  repeat' (conv => whnf
           first | (refine Gh.mk [.fa] ?_; (conv => whnf); refine ⟨rfl, ?_⟩; rw [z0 (by omega)]; exact Imp.refl _) | (refine CondOb.mk (fun _ => ?_) (fun _ => ?_) <;> first | (exfalso; omega) | skip) | refine ArOb.fits (by first | omega | (simp only [ints_len] at *; omega)) ?_ | refine LitOb.vec ?_ | refine MakeOb.vec ?_ | refine AllocOb.box ?_ | refine AggOb.mk (by decide +kernel) ?_ | refine ArU.fits (by first | omega | (simp only [ints_len] at *; omega)) ?_ | refine ArB.fits (by first | omega | (simp only [ints_len] at *; omega)) ?_ | refine CutOb.split ?_ | refine Gh.mk [] ?_ | refine And.intro (And.intro (by (simp only [List.length_append, List.length_take, List.length_drop, List.length_cons, List.length_nil, ints_len, List.length_replicate, lnl, fll, stl]; omega)) (by (simp only [List.length_append, List.length_take, List.length_drop, List.length_cons, List.length_nil, ints_len, List.length_replicate, lnl, fll, stl]; omega))) ?_ | refine ⟨_, _, rfl, ints_get (by first | omega | (simp only [ints_len] at *; omega)), ?_⟩ | refine ⟨_, _, (Int.toNat_of_nonneg (by first | omega | (simp only [ints_len] at *; omega))).symm, ints_get (by first | omega | (simp only [ints_len] at *; omega)), ?_⟩ | refine DrawOb.mk [] (.qs [0, 1, 2, 3, 4, 5, 6, 7, 8] (.l 9 [8, 5, 1] (.l 10 [] .nil .no) .no)) (by decide +kernel) ?_ | (refine CallOb.mk [] cC rfl (ImpL.refl _) rfl rfl ?_; rintro _ _ ⟨rfl, rfl⟩) | fail)
  all_goals try (conv => whnf)
  have z1 := z1 (by omega)
  have c0 := c0 (by omega)
  have hil : l.toNat < n.ln.length := by omega
  have c1 := c1 (by omega) _ hil
  have hg := lng hil
  generalize n.ln.getD l.toNat ln0 = g at *
  clear z0
  obtain ⟨C, hC⟩ : ∃ C : Nat, g.n = C := ⟨g.n.toNat, by omega⟩
  rw [hC, Int.toNat_natCast] at z1
  rw [hC] at c1
  repeat' (conv => whnf
           first | (refine CondOb.mk (fun _ => ?_) (fun _ => ?_) <;> first | (exfalso; omega) | skip) | refine ArOb.fits (by first | omega | (simp only [ints_len] at *; omega)) ?_ | refine LitOb.vec ?_ | refine MakeOb.vec ?_ | refine AllocOb.box ?_ | refine AggOb.mk (by decide +kernel) ?_ | refine ArU.fits (by first | omega | (simp only [ints_len] at *; omega)) ?_ | refine ArB.fits (by first | omega | (simp only [ints_len] at *; omega)) ?_ | refine CutOb.split ?_ | refine Gh.mk [] ?_ | refine And.intro (And.intro (by (simp only [List.length_append, List.length_take, List.length_drop, List.length_cons, List.length_nil, ints_len, List.length_replicate, lnl, fll, stl]; omega)) (by (simp only [List.length_append, List.length_take, List.length_drop, List.length_cons, List.length_nil, ints_len, List.length_replicate, lnl, fll, stl]; omega))) ?_ | refine ⟨_, _, rfl, ints_get (by first | omega | (simp only [ints_len] at *; omega)), ?_⟩ | refine ⟨_, _, (Int.toNat_of_nonneg (by first | omega | (simp only [ints_len] at *; omega))).symm, ints_get (by first | omega | (simp only [ints_len] at *; omega)), ?_⟩ | refine DrawOb.mk [] (.qs [0, 1, 2, 3, 4, 5, 6, 7, 8] (.l 9 [8, 5, 1] (.l 10 [] .nil .no) .no)) (by decide +kernel) ?_ | fail)
  all_goals try (conv => whnf)
  have hmx : ∀ c : Nat, (members n l c).length ≤ n.fl.length := fun c => Nat.le_trans mbr_len usr_len
  generalize hG : (fun c : Nat => szs n (members n l c)) = G at *
  refine LoopOb.mk (Y := Nat) (st := fun c => ⟨[(6, i64 c), (5, .vec 1), (2, .ptr 0 0), (1, i64 l)], [.box [.psl 1 (strs n.nm), .psl 5 (lns n.ln), .psl 8 (fls n.fl)], .vec 2 (sf c G)]⟩)
    (inv := fun c => c ≤ C) (fun c => C - c) 0 [0, 2] (by omega) (by (refine Le.mk (by kernel_rfl) ?_ ?_ <;> repeat' (first | exact True.intro | refine And.intro ?_ ?_ | exact Imp.refl _ | exact Imp.any _ | exact Imp.num (by first | omega | simp only [ints_len]) | exact rfl | exact Imp.bl (by simp)))) ?_
  intro c hc
  have hsl := sf_len (C := c) (g := G)
  repeat' (conv => whnf
           first | refine ArOb.fits (by first | omega | (simp only [ints_len] at *; omega)) ?_ | refine LitOb.vec ?_ | refine MakeOb.vec ?_ | refine AllocOb.box ?_ | refine AggOb.mk (by decide +kernel) ?_ | refine ArU.fits (by first | omega | (simp only [ints_len] at *; omega)) ?_ | refine ArB.fits (by first | omega | (simp only [ints_len] at *; omega)) ?_ | refine CutOb.split ?_ | refine Gh.mk [] ?_ | refine And.intro (And.intro (by (simp only [List.length_append, List.length_take, List.length_drop, List.length_cons, List.length_nil, ints_len, List.length_replicate, lnl, fll, stl]; omega)) (by (simp only [List.length_append, List.length_take, List.length_drop, List.length_cons, List.length_nil, ints_len, List.length_replicate, lnl, fll, stl]; omega))) ?_ | refine ⟨_, _, rfl, ints_get (by first | omega | (simp only [ints_len] at *; omega)), ?_⟩ | refine ⟨_, _, (Int.toNat_of_nonneg (by first | omega | (simp only [ints_len] at *; omega))).symm, ints_get (by first | omega | (simp only [ints_len] at *; omega)), ?_⟩ | refine DrawOb.mk [] (.qs [0, 1, 2, 3, 4, 5, 6, 7, 8] (.l 9 [8, 5, 1] (.l 10 [] .nil .no) .no)) (by decide +kernel) ?_ | refine ⟨l.toNat, _, by omega, hg, ?_⟩ | fail)
  all_goals try (conv => whnf)
  rw [hC]
  refine CondOb.mk (fun hlt => ?_) (fun hlt => ?_)
  · have hcC : c < C := by omega
    have hGc : szs n (members n l c) = G c := by rw [← hG]
    have cM := rMembers_ok n hn (by omega) l c
    have hbd : ∀ x ∈ members n l c, 0 ≤ x ∧ x < n.fl.length := fun x hx => users_bd (mem_mbr.1 hx).1
    have hml := hmx c
    generalize members n l c = m at *
    have hmi := ints_len m
    repeat' (conv => whnf
             first | (refine CondOb.mk (fun _ => ?_) (fun _ => ?_) <;> first | (exfalso; omega) | skip) | refine ArOb.fits (by first | omega | (simp only [ints_len] at *; omega)) ?_ | refine LitOb.vec ?_ | refine MakeOb.vec ?_ | refine AllocOb.box ?_ | refine AggOb.mk (by decide +kernel) ?_ | refine ArU.fits (by first | omega | (simp only [ints_len] at *; omega)) ?_ | refine ArB.fits (by first | omega | (simp only [ints_len] at *; omega)) ?_ | refine CutOb.split ?_ | refine Gh.mk [] ?_ | refine And.intro (And.intro (by (simp only [List.length_append, List.length_take, List.length_drop, List.length_cons, List.length_nil, ints_len, List.length_replicate, lnl, fll, stl]; omega)) (by (simp only [List.length_append, List.length_take, List.length_drop, List.length_cons, List.length_nil, ints_len, List.length_replicate, lnl, fll, stl]; omega))) ?_ | refine ⟨_, _, rfl, ints_get (by first | omega | (simp only [ints_len] at *; omega)), ?_⟩ | refine ⟨_, _, (Int.toNat_of_nonneg (by first | omega | (simp only [ints_len] at *; omega))).symm, ints_get (by first | omega | (simp only [ints_len] at *; omega)), ?_⟩ | refine DrawOb.mk [] (.qs [0, 1, 2, 3, 4, 5, 6, 7, 8] (.l 9 [8, 5, 1] (.l 10 [] .nil .no) .no)) (by decide +kernel) ?_ | (refine CallOb.mk [] cM rfl (ImpL.refl _) rfl rfl ?_; rintro _ _ ⟨rfl, rfl⟩) | fail)
    all_goals try (conv => whnf)
    refine LoopOb.mk (Y := Nat) (st := fun k => ⟨[(9, i64 k), (8, .psl 1 (ints m)), (7, .ptr 2 0), (6, i64 c), (5, .vec 1), (2, .ptr 0 0), (1, i64 l)], [.box [.psl 1 (strs n.nm), .psl 5 (lns n.ln), .psl 8 (fls n.fl)], .vec 2 (sf c G), .box [i64 (szs n (m.take k)).1, i64 (szs n (m.take k)).2]]⟩)
      (inv := fun k => k ≤ m.length) (fun k => m.length - k) 0 [0, 1, 2] (by omega) (by rw [List.take_zero]; (refine Le.mk (by kernel_rfl) ?_ ?_ <;> repeat' (first | exact True.intro | refine And.intro ?_ ?_ | exact Imp.refl _ | exact Imp.any _ | exact Imp.num (by first | omega | simp only [ints_len]) | exact rfl | exact Imp.bl (by simp)))) ?_
    intro k hk
    repeat' (conv => whnf
             first | refine ArOb.fits (by first | omega | (simp only [ints_len] at *; omega)) ?_ | refine LitOb.vec ?_ | refine MakeOb.vec ?_ | refine AllocOb.box ?_ | refine AggOb.mk (by decide +kernel) ?_ | refine ArU.fits (by first | omega | (simp only [ints_len] at *; omega)) ?_ | refine ArB.fits (by first | omega | (simp only [ints_len] at *; omega)) ?_ | refine CutOb.split ?_ | refine Gh.mk [] ?_ | refine And.intro (And.intro (by (simp only [List.length_append, List.length_take, List.length_drop, List.length_cons, List.length_nil, ints_len, List.length_replicate, lnl, fll, stl]; omega)) (by (simp only [List.length_append, List.length_take, List.length_drop, List.length_cons, List.length_nil, ints_len, List.length_replicate, lnl, fll, stl]; omega))) ?_ | refine ⟨_, _, rfl, ints_get (by first | omega | (simp only [ints_len] at *; omega)), ?_⟩ | refine ⟨_, _, (Int.toNat_of_nonneg (by first | omega | (simp only [ints_len] at *; omega))).symm, ints_get (by first | omega | (simp only [ints_len] at *; omega)), ?_⟩ | refine DrawOb.mk [] (.qs [0, 1, 2, 3, 4, 5, 6, 7, 8] (.l 9 [8, 5, 1] (.l 10 [] .nil .no) .no)) (by decide +kernel) ?_ | fail)
    all_goals try (conv => whnf)
    refine CondOb.mk (fun hlt2 => ?_) (fun hlt2 => ?_)
    · have hkl : k < m.length := by omega
      have hsn := szs_snoc (n := n) hkl
      have hx := hbd _ (getD_in (d := 0) hkl)
      have hgf := flg (l := n.fl) (i := (m.getD k 0).toNat) (by omega)
      generalize n.fl.getD (m.getD k 0).toNat fl0 = f at *
      generalize szs n (m.take k) = z at *
      repeat' (conv => whnf
               first | (refine CondOb.mk (fun _ => ?_) (fun _ => ?_) <;> first | (exfalso; omega) | skip) | refine ArOb.fits (by first | omega | (simp only [ints_len] at *; omega)) ?_ | refine LitOb.vec ?_ | refine MakeOb.vec ?_ | refine AllocOb.box ?_ | refine AggOb.mk (by decide +kernel) ?_ | refine ArU.fits (by first | omega | (simp only [ints_len] at *; omega)) ?_ | refine ArB.fits (by first | omega | (simp only [ints_len] at *; omega)) ?_ | refine CutOb.split ?_ | refine Gh.mk [] ?_ | refine And.intro (And.intro (by (simp only [List.length_append, List.length_take, List.length_drop, List.length_cons, List.length_nil, ints_len, List.length_replicate, lnl, fll, stl]; omega)) (by (simp only [List.length_append, List.length_take, List.length_drop, List.length_cons, List.length_nil, ints_len, List.length_replicate, lnl, fll, stl]; omega))) ?_ | refine ⟨_, _, rfl, ints_get (by first | omega | (simp only [ints_len] at *; omega)), ?_⟩ | refine ⟨_, _, (Int.toNat_of_nonneg (by first | omega | (simp only [ints_len] at *; omega))).symm, ints_get (by first | omega | (simp only [ints_len] at *; omega)), ?_⟩ | refine DrawOb.mk [] (.qs [0, 1, 2, 3, 4, 5, 6, 7, 8] (.l 9 [8, 5, 1] (.l 10 [] .nil .no) .no)) (by decide +kernel) ?_ | refine ⟨(m.getD k 0).toNat, _, by omega, hgf, ?_⟩ | fail)
      all_goals try (conv => whnf)
      · rw [if_pos (by omega)] at hsn
        exact ⟨k + 1, [0, 1, 2], by omega, by omega, by rw [hsn]; (refine Le.mk (by kernel_rfl) ?_ ?_ <;> repeat' (first | exact True.intro | refine And.intro ?_ ?_ | exact Imp.refl _ | exact Imp.any _ | exact Imp.num (by first | omega | simp only [ints_len]) | exact rfl | exact Imp.bl (by simp)))⟩
      · rw [if_neg (by omega)] at hsn
        exact ⟨k + 1, [0, 1, 2], by omega, by omega, by rw [hsn]; (refine Le.mk (by kernel_rfl) ?_ ?_ <;> repeat' (first | exact True.intro | refine And.intro ?_ ?_ | exact Imp.refl _ | exact Imp.any _ | exact Imp.num (by first | omega | simp only [ints_len]) | exact rfl | exact Imp.bl (by simp)))⟩
    · rw [List.take_of_length_le (show m.length ≤ k by omega), hGc]
      repeat' (conv => whnf
               first | (refine CondOb.mk (fun _ => ?_) (fun _ => ?_) <;> first | (exfalso; omega) | skip) | refine ArOb.fits (by first | omega | (simp only [ints_len] at *; omega)) ?_ | refine LitOb.vec ?_ | refine MakeOb.vec ?_ | refine AllocOb.box ?_ | refine AggOb.mk (by decide +kernel) ?_ | refine ArU.fits (by first | omega | (simp only [ints_len] at *; omega)) ?_ | refine ArB.fits (by first | omega | (simp only [ints_len] at *; omega)) ?_ | refine CutOb.split ?_ | refine Gh.mk [] ?_ | refine And.intro (And.intro (by (simp only [List.length_append, List.length_take, List.length_drop, List.length_cons, List.length_nil, ints_len, List.length_replicate, lnl, fll, stl]; omega)) (by (simp only [List.length_append, List.length_take, List.length_drop, List.length_cons, List.length_nil, ints_len, List.length_replicate, lnl, fll, stl]; omega))) ?_ | refine ⟨_, _, rfl, ints_get (by first | omega | (simp only [ints_len] at *; omega)), ?_⟩ | refine ⟨_, _, (Int.toNat_of_nonneg (by first | omega | (simp only [ints_len] at *; omega))).symm, ints_get (by first | omega | (simp only [ints_len] at *; omega)), ?_⟩ | refine DrawOb.mk [] (.qs [0, 1, 2, 3, 4, 5, 6, 7, 8] (.l 9 [8, 5, 1] (.l 10 [] .nil .no) .no)) (by decide +kernel) ?_ | fail)
      all_goals try (conv => whnf)
      exact ⟨c + 1, [0, 4], by omega, by omega, by rw [sf_succ]; (refine Le.mk (by kernel_rfl) ?_ ?_ <;> repeat' (first | exact True.intro | refine And.intro ?_ ?_ | exact Imp.refl _ | exact Imp.any _ | exact Imp.num (by first | omega | simp only [ints_len]) | exact rfl | exact Imp.bl (by simp)))⟩
  · have e : c = C := by omega
    subst e
    repeat' (conv => whnf
             first | refine CondOb.mk (fun _ => ?_) (fun _ => ?_) | refine ArOb.fits (by first | omega | (simp only [ints_len] at *; omega)) ?_ | refine LitOb.vec ?_ | refine MakeOb.vec ?_ | refine AllocOb.box ?_ | refine AggOb.mk (by decide +kernel) ?_ | refine ArU.fits (by first | omega | (simp only [ints_len] at *; omega)) ?_ | refine ArB.fits (by first | omega | (simp only [ints_len] at *; omega)) ?_ | refine CutOb.split ?_ | refine And.intro (And.intro (by (simp only [List.length_append, List.length_take, List.length_drop, List.length_cons, List.length_nil, ints_len, List.length_replicate, lnl, fll, stl]; omega)) (by (simp only [List.length_append, List.length_take, List.length_drop, List.length_cons, List.length_nil, ints_len, List.length_replicate, lnl, fll, stl]; omega))) ?_ | refine ⟨_, _, rfl, ints_get (by first | omega | (simp only [ints_len] at *; omega)), ?_⟩ | refine ⟨_, _, (Int.toNat_of_nonneg (by first | omega | (simp only [ints_len] at *; omega))).symm, ints_get (by first | omega | (simp only [ints_len] at *; omega)), ?_⟩ | refine DrawOb.mk [] (.qs [0, 1, 2, 3, 4, 5, 6, 7, 8] (.l 9 [8, 5, 1] (.l 10 [] .nil .no) .no)) (by decide +kernel) ?_ | fail)
    all_goals try (conv => whnf)
    refine .mk [.fz 1] ?_
    repeat' (conv => whnf
             first | refine CondOb.mk (fun _ => ?_) (fun _ => ?_) | refine ArOb.fits (by first | omega | (simp only [ints_len] at *; omega)) ?_ | refine LitOb.vec ?_ | refine MakeOb.vec ?_ | refine AllocOb.box ?_ | refine AggOb.mk (by decide +kernel) ?_ | refine ArU.fits (by first | omega | (simp only [ints_len] at *; omega)) ?_ | refine ArB.fits (by first | omega | (simp only [ints_len] at *; omega)) ?_ | refine CutOb.split ?_ | refine Gh.mk [] ?_ | refine And.intro (And.intro (by (simp only [List.length_append, List.length_take, List.length_drop, List.length_cons, List.length_nil, ints_len, List.length_replicate, lnl, fll, stl]; omega)) (by (simp only [List.length_append, List.length_take, List.length_drop, List.length_cons, List.length_nil, ints_len, List.length_replicate, lnl, fll, stl]; omega))) ?_ | refine ⟨_, _, rfl, ints_get (by first | omega | (simp only [ints_len] at *; omega)), ?_⟩ | refine ⟨_, _, (Int.toNat_of_nonneg (by first | omega | (simp only [ints_len] at *; omega))).symm, ints_get (by first | omega | (simp only [ints_len] at *; omega)), ?_⟩ | refine DrawOb.mk [] (.qs [0, 1, 2, 3, 4, 5, 6, 7, 8] (.l 9 [8, 5, 1] (.l 10 [] .nil .no) .no)) (by decide +kernel) ?_ | fail)
    all_goals try (conv => whnf)
    refine ⟨rfl, ?_⟩
    rw [z1]
    exact Imp.refl _
end Go.Proofs.Ytbbbmkjfmcnnfaa
