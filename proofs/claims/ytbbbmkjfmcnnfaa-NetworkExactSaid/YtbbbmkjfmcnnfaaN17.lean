/-
  A text of the proofs of this seat: lemmas that the statements' proofs use; it states nothing of the program by itself beyond the contracts that its theorems bear. Conditions: those that stand in each theorem. Its short name: N17.
-/
import Derived.Test.YtbbbmkjfmcnnfaaN16
set_option linter.unusedVariables false
set_option linter.unusedSimpArgs false
namespace Go.Proofs.Ytbbbmkjfmcnnfaa
open Go.Sx Go.Np Go.Cv
set_option maxRecDepth 4000
set_option maxHeartbeats 2000000
def sumM (n : Nt) (a : List Int) : Nat → Nat
  | 0 => 0
  | c + 1 => sumM n a c + (mbr n c a).length
theorem sumM_cons {n : Nt} {x : Int} {a : List Int} {c0 : Nat} (hx : (n.fl.getD x.toNat fl0).cl = c0) : ∀ {c : Nat}, sumM n (x :: a) c = sumM n a c + if c0 < c then 1 else 0
  | 0 => by simp [sumM]
  | c + 1 => by
    simp only [sumM]
    rw [sumM_cons hx]
    have h1 : (if c0 < c + 1 then 1 else 0) = (if c0 < c then 1 else 0) + (if c0 = c then 1 else 0) := by split <;> split <;> split <;> omega
    have h2 : (mbr n c (x :: a)).length = (mbr n c a).length + if c0 = c then 1 else 0 := by
      simp only [mbr, hx]
      by_cases e : c0 = c
      · rw [if_pos (by omega), if_pos e]; rfl
      · rw [if_neg (by omega), if_neg e]; rfl
    rw [h1, h2]; omega
theorem sumM_all {n : Nt} {k : Nat} : ∀ {a : List Int}, (∀ x ∈ a, 0 ≤ (n.fl.getD x.toNat fl0).cl ∧ (n.fl.getD x.toNat fl0).cl < k) → sumM n a k = a.length
  | [], _ => by
    have : ∀ c, sumM n [] c = 0 := by
      intro c; induction c with
      | zero => rfl
      | succ c ih => simp only [sumM, ih, mbr]; rfl
    rw [this]; rfl
  | x :: a, h => by
    have hx := h x (by simp)
    rw [sumM_cons (c0 := (n.fl.getD x.toNat fl0).cl.toNat) (by omega), sumM_all (fun y hy => h y (by simp [hy])), if_pos (by omega)]
    rfl
theorem users_hop {n : Nt} {l x : Int} (h : x ∈ users n l) : 0 ≤ x ∧ x < n.fl.length ∧ 0 ≤ hop n x l ∧ hop n x l < (n.fl.getD x.toNat fl0).rt.length ∧ (n.fl.getD x.toNat fl0).rt.getD (hop n x l).toNat 0 = l ∧ x ∈ members n l (n.fl.getD x.toNat fl0).cl := by
  have hb := users_bd h
  obtain ⟨j, h1, h2, h3⟩ := mem_usr.1 h
  subst h2
  have hm := (hop_nn h1).1 h3
  have e : hop n j l = ((n.fl.getD j fl0).rt.idxOf l : Nat) := by
    unfold hop; rw [if_neg (by omega), Int.toNat_natCast, if_pos hm]
  have hlt := List.idxOf_lt_length_of_mem hm
  refine ⟨hb.1, hb.2, h3, by rw [e, Int.toNat_natCast]; omega, ?_, ?_⟩
  · rw [e, Int.toNat_natCast, Int.toNat_natCast, List.getD_eq_getElem?_getD, List.getElem?_eq_getElem hlt, Option.getD_some]
    exact List.getElem_idxOf hlt
  · exact mem_mbr.2 ⟨h, rfl⟩
theorem mem_users {n : Nt} {i : Nat} {l : Int} (hi : i < n.fl.length) (hl : l ∈ (n.fl.getD i fl0).rt) : (i : Int) ∈ users n l := mem_usr.2 ⟨i, hi, rfl, (hop_nn hi).2 hl⟩
theorem Divides_ok (l : List Int) (hl : l.length ≤ 9223372036854775807) : Ctr Try.prog 4 [.psl 1 (ints l)] [] (fun r o => r = .bl true) := by
  refine fn_intro (E := env 0) tys_ok rfl rfl rfl Try.func4 (by kernel_rfl) rfl (by kernel_rfl) ?_
  have hL : (l.take 2000).length ≤ 2000 := by rw [List.length_take]; omega
  repeat' (conv => whnf
           first | (refine CondOb.mk (fun _ => ?_) (fun _ => ?_) <;> first | (exfalso; omega) | skip) | refine ArOb.fits (by first | omega | (simp only [ints_len] at *; omega)) ?_ | refine LitOb.vec ?_ | refine MakeOb.vec ?_ | refine AllocOb.box ?_ | refine AggOb.mk (by decide +kernel) ?_ | refine ArU.fits (by first | omega | (simp only [ints_len] at *; omega)) ?_ | refine ArB.fits (by first | omega | (simp only [ints_len] at *; omega)) ?_ | refine CutOb.split ?_ | refine Gh.mk [] ?_ | refine And.intro (And.intro (by (simp only [List.length_append, List.length_take, List.length_drop, List.length_cons, List.length_nil, ints_len, List.length_replicate, lnl, fll, stl]; omega)) (by (simp only [List.length_append, List.length_take, List.length_drop, List.length_cons, List.length_nil, ints_len, List.length_replicate, lnl, fll, stl]; omega))) ?_ | refine ⟨_, _, rfl, ints_get (by first | omega | (simp only [ints_len] at *; omega)), ?_⟩ | refine ⟨_, _, (Int.toNat_of_nonneg (by first | omega | (simp only [ints_len] at *; omega))).symm, ints_get (by first | omega | (simp only [ints_len] at *; omega)), ?_⟩ | refine DrawOb.mk [] (.qs [0, 1, 2, 3, 4, 5, 6, 7, 8, 9, 10, 11, 12, 13, 14, 15, 16, 17, 18, 19, 20, 21, 22, 23, 24, 25, 26, 27, 28, 29, 30, 31, 32, 33, 34, 36] (.l 35 [] (.l 37 [] (.qs [38, 39] .nil) .no) .no)) (by decide +kernel) ?_ | (refine CallOb.mk [] (sane_ok) rfl (ImpL.refl _) rfl rfl ?_; rintro _ _ ⟨rfl, rfl⟩) | (refine CallOb.mk [] (New_ok l hl) rfl (ImpL.refl _) rfl rfl ?_; rintro _ _ ⟨rfl, rfl⟩) | fail)
  all_goals try (conv => whnf)
  · rfl
  refine CallOb.mk [0] (Net_ok _ 0 hL (by omega) 4 5 (by omega) (by omega)) rfl (ImpL.refl _) rfl rfl ?_
  rintro _ _ ⟨⟨n, k, p1⟩, ⟨hG, hp1⟩, rfl, rfl⟩
  dsimp only at hG hp1 ⊢
  have hn := hG.nl
  have g := hG.g
  have g1 := g.k1
  have g2 := g.ll
  have g3 := g.fl
  have hll := lnl n.ln
  have hfl := fll n.fl
  repeat' (conv => whnf
           first | (refine CondOb.mk (fun _ => ?_) (fun _ => ?_) <;> first | (exfalso; omega) | skip) | refine ArOb.fits (by first | omega | (simp only [ints_len] at *; omega)) ?_ | refine LitOb.vec ?_ | refine MakeOb.vec ?_ | refine AllocOb.box ?_ | refine AggOb.mk (by decide +kernel) ?_ | refine ArU.fits (by first | omega | (simp only [ints_len] at *; omega)) ?_ | refine ArB.fits (by first | omega | (simp only [ints_len] at *; omega)) ?_ | refine CutOb.split ?_ | refine Gh.mk [] ?_ | refine And.intro (And.intro (by (simp only [List.length_append, List.length_take, List.length_drop, List.length_cons, List.length_nil, ints_len, List.length_replicate, lnl, fll, stl]; omega)) (by (simp only [List.length_append, List.length_take, List.length_drop, List.length_cons, List.length_nil, ints_len, List.length_replicate, lnl, fll, stl]; omega))) ?_ | refine ⟨_, _, rfl, ints_get (by first | omega | (simp only [ints_len] at *; omega)), ?_⟩ | refine ⟨_, _, (Int.toNat_of_nonneg (by first | omega | (simp only [ints_len] at *; omega))).symm, ints_get (by first | omega | (simp only [ints_len] at *; omega)), ?_⟩ | refine DrawOb.mk [] (.qs [0, 1, 2, 3, 4, 5, 6, 7, 8, 9, 10, 11, 12, 13, 14, 15, 16, 17, 18, 19, 20, 21, 22, 23, 24, 25, 26, 27, 28, 29, 30, 31, 32, 33, 34, 36] (.l 35 [] (.l 37 [] (.qs [38, 39] .nil) .no) .no)) (by decide +kernel) ?_ | fail)
  all_goals try (conv => whnf)
  have hcl : ∀ x : Int, 0 ≤ x → x < n.fl.length → 0 ≤ (n.fl.getD x.toNat fl0).cl ∧ (n.fl.getD x.toNat fl0).cl < k := fun x h1 h2 => (g.fg _ (getD_in (d := fl0) (show x.toNat < n.fl.length by omega))).cl
  refine LoopOb.mk (Y := Nat) (st := fun i => ⟨[(4, i64 i), (3, .ptr 0 0)], [.box [.psl 1 (strs n.nm), .psl 5 (lns n.ln), .psl 8 (fls n.fl)]]⟩)
    (inv := fun i => i ≤ n.ln.length) (fun i => n.ln.length - i) 0 [1] (by omega) (by (refine Le.mk (by kernel_rfl) ?_ ?_ <;> repeat' (first | exact True.intro | refine And.intro ?_ ?_ | exact Imp.refl _ | exact Imp.any _ | exact Imp.num (by first | omega | simp only [ints_len]) | exact rfl | exact Imp.bl (by simp)))) ?_
  intro i hi
  repeat' (conv => whnf
           first | refine ArOb.fits (by first | omega | (simp only [ints_len] at *; omega)) ?_ | refine LitOb.vec ?_ | refine MakeOb.vec ?_ | refine AllocOb.box ?_ | refine AggOb.mk (by decide +kernel) ?_ | refine ArU.fits (by first | omega | (simp only [ints_len] at *; omega)) ?_ | refine ArB.fits (by first | omega | (simp only [ints_len] at *; omega)) ?_ | refine CutOb.split ?_ | refine Gh.mk [] ?_ | refine And.intro (And.intro (by (simp only [List.length_append, List.length_take, List.length_drop, List.length_cons, List.length_nil, ints_len, List.length_replicate, lnl, fll, stl]; omega)) (by (simp only [List.length_append, List.length_take, List.length_drop, List.length_cons, List.length_nil, ints_len, List.length_replicate, lnl, fll, stl]; omega))) ?_ | refine ⟨_, _, rfl, ints_get (by first | omega | (simp only [ints_len] at *; omega)), ?_⟩ | refine ⟨_, _, (Int.toNat_of_nonneg (by first | omega | (simp only [ints_len] at *; omega))).symm, ints_get (by first | omega | (simp only [ints_len] at *; omega)), ?_⟩ | refine DrawOb.mk [] (.qs [0, 1, 2, 3, 4, 5, 6, 7, 8, 9, 10, 11, 12, 13, 14, 15, 16, 17, 18, 19, 20, 21, 22, 23, 24, 25, 26, 27, 28, 29, 30, 31, 32, 33, 34, 36] (.l 35 [] (.l 37 [] (.qs [38, 39] .nil) .no) .no)) (by decide +kernel) ?_ | fail)
  all_goals try (conv => whnf)
  refine CondOb.mk (fun hlt => ?_) (fun hlt => ?_)
  · have hil : i < n.ln.length := by omega
    have hg := lng hil
    have hk : (n.ln.getD i ln0).n = k := (g.le _ (getD_in hil)).2
    generalize n.ln.getD i ln0 = ll at *
    repeat' (conv => whnf
             first | (refine CondOb.mk (fun _ => ?_) (fun _ => ?_) <;> first | (exfalso; omega) | skip) | refine ArOb.fits (by first | omega | (simp only [ints_len] at *; omega)) ?_ | refine LitOb.vec ?_ | refine MakeOb.vec ?_ | refine AllocOb.box ?_ | refine AggOb.mk (by decide +kernel) ?_ | refine ArU.fits (by first | omega | (simp only [ints_len] at *; omega)) ?_ | refine ArB.fits (by first | omega | (simp only [ints_len] at *; omega)) ?_ | refine CutOb.split ?_ | refine Gh.mk [] ?_ | refine And.intro (And.intro (by (simp only [List.length_append, List.length_take, List.length_drop, List.length_cons, List.length_nil, ints_len, List.length_replicate, lnl, fll, stl]; omega)) (by (simp only [List.length_append, List.length_take, List.length_drop, List.length_cons, List.length_nil, ints_len, List.length_replicate, lnl, fll, stl]; omega))) ?_ | refine ⟨_, _, rfl, ints_get (by first | omega | (simp only [ints_len] at *; omega)), ?_⟩ | refine ⟨_, _, (Int.toNat_of_nonneg (by first | omega | (simp only [ints_len] at *; omega))).symm, ints_get (by first | omega | (simp only [ints_len] at *; omega)), ?_⟩ | refine DrawOb.mk [] (.qs [0, 1, 2, 3, 4, 5, 6, 7, 8, 9, 10, 11, 12, 13, 14, 15, 16, 17, 18, 19, 20, 21, 22, 23, 24, 25, 26, 27, 28, 29, 30, 31, 32, 33, 34, 36] (.l 35 [] (.l 37 [] (.qs [38, 39] .nil) .no) .no)) (by decide +kernel) ?_ | (refine CallOb.mk [] (Users_ok n hn (by omega) i) rfl (ImpL.refl _) rfl rfl ?_; rintro _ _ ⟨rfl, rfl⟩) | fail)
    all_goals try (conv => whnf)
    have hul := ints_len (users n i)
    have hub : (users n i).length ≤ 5 := by have := usr_len (n := n) (l := i) (i := n.fl.length); unfold users; omega
    refine LoopOb.mk (Y := Nat) (st := fun c => ⟨[(7, i64 c), (6, i64 (sumM n (users n i) c)), (5, .psl 1 (ints (users n i))), (4, i64 i), (3, .ptr 0 0)], [.box [.psl 1 (strs n.nm), .psl 5 (lns n.ln), .psl 8 (fls n.fl)]]⟩)
      (inv := fun c => c ≤ k ∧ sumM n (users n i) c ≤ 5 * c) (fun c => k - c) 0 [0] ⟨by omega, by simp [sumM]⟩ (by (refine Le.mk (by kernel_rfl) ?_ ?_ <;> repeat' (first | exact True.intro | refine And.intro ?_ ?_ | exact Imp.refl _ | exact Imp.any _ | exact Imp.num (by first | omega | simp only [ints_len]) | exact rfl | exact Imp.bl (by simp)))) ?_
    rintro c ⟨hc, hsb⟩
    repeat' (conv => whnf
             first | refine ArOb.fits (by first | omega | (simp only [ints_len] at *; omega)) ?_ | refine LitOb.vec ?_ | refine MakeOb.vec ?_ | refine AllocOb.box ?_ | refine AggOb.mk (by decide +kernel) ?_ | refine ArU.fits (by first | omega | (simp only [ints_len] at *; omega)) ?_ | refine ArB.fits (by first | omega | (simp only [ints_len] at *; omega)) ?_ | refine CutOb.split ?_ | refine Gh.mk [] ?_ | refine And.intro (And.intro (by (simp only [List.length_append, List.length_take, List.length_drop, List.length_cons, List.length_nil, ints_len, List.length_replicate, lnl, fll, stl]; omega)) (by (simp only [List.length_append, List.length_take, List.length_drop, List.length_cons, List.length_nil, ints_len, List.length_replicate, lnl, fll, stl]; omega))) ?_ | refine ⟨_, _, rfl, ints_get (by first | omega | (simp only [ints_len] at *; omega)), ?_⟩ | refine ⟨_, _, (Int.toNat_of_nonneg (by first | omega | (simp only [ints_len] at *; omega))).symm, ints_get (by first | omega | (simp only [ints_len] at *; omega)), ?_⟩ | refine DrawOb.mk [] (.qs [0, 1, 2, 3, 4, 5, 6, 7, 8, 9, 10, 11, 12, 13, 14, 15, 16, 17, 18, 19, 20, 21, 22, 23, 24, 25, 26, 27, 28, 29, 30, 31, 32, 33, 34, 36] (.l 35 [] (.l 37 [] (.qs [38, 39] .nil) .no) .no)) (by decide +kernel) ?_ | refine ⟨i, _, rfl, hg, ?_⟩ | fail)
    all_goals try (conv => whnf)
    rw [hk]
    refine CondOb.mk (fun hlt2 => ?_) (fun hlt2 => ?_)
    · have hsm : sumM n (users n i) (c + 1) = sumM n (users n i) c + (members n i c).length := rfl
      have hml : (members n i c).length ≤ 5 := by have := mbr_len (n := n) (c := c) (a := users n i); unfold members; omega
      have hmi := ints_len (members n i c)
      repeat' (conv => whnf
               first | (refine CondOb.mk (fun _ => ?_) (fun _ => ?_) <;> first | (exfalso; omega) | skip) | refine ArOb.fits (by first | omega | (simp only [ints_len] at *; omega)) ?_ | refine LitOb.vec ?_ | refine MakeOb.vec ?_ | refine AllocOb.box ?_ | refine AggOb.mk (by decide +kernel) ?_ | refine ArU.fits (by first | omega | (simp only [ints_len] at *; omega)) ?_ | refine ArB.fits (by first | omega | (simp only [ints_len] at *; omega)) ?_ | refine CutOb.split ?_ | refine Gh.mk [] ?_ | refine And.intro (And.intro (by (simp only [List.length_append, List.length_take, List.length_drop, List.length_cons, List.length_nil, ints_len, List.length_replicate, lnl, fll, stl]; omega)) (by (simp only [List.length_append, List.length_take, List.length_drop, List.length_cons, List.length_nil, ints_len, List.length_replicate, lnl, fll, stl]; omega))) ?_ | refine ⟨_, _, rfl, ints_get (by first | omega | (simp only [ints_len] at *; omega)), ?_⟩ | refine ⟨_, _, (Int.toNat_of_nonneg (by first | omega | (simp only [ints_len] at *; omega))).symm, ints_get (by first | omega | (simp only [ints_len] at *; omega)), ?_⟩ | refine DrawOb.mk [] (.qs [0, 1, 2, 3, 4, 5, 6, 7, 8, 9, 10, 11, 12, 13, 14, 15, 16, 17, 18, 19, 20, 21, 22, 23, 24, 25, 26, 27, 28, 29, 30, 31, 32, 33, 34, 36] (.l 35 [] (.l 37 [] (.qs [38, 39] .nil) .no) .no)) (by decide +kernel) ?_ | (refine CallOb.mk [] (Members_ok n hn (by omega) i c) rfl (ImpL.refl _) rfl rfl ?_; rintro _ _ ⟨rfl, rfl⟩) | fail)
      all_goals try (conv => whnf)
      exact ⟨c + 1, [0], ⟨by omega, by omega⟩, by omega, by rw [hsm]; (refine Le.mk (by kernel_rfl) ?_ ?_ <;> repeat' (first | exact True.intro | refine And.intro ?_ ?_ | exact Imp.refl _ | exact Imp.any _ | exact Imp.num (by first | omega | simp only [ints_len]) | exact rfl | exact Imp.bl (by simp)))⟩
    have hck : c = k := by omega
    subst hck
    have hall : sumM n (users n i) c = (users n i).length := sumM_all fun x hx => hcl x (users_bd hx).1 (users_bd hx).2
    repeat' (conv => whnf
             first | (refine CondOb.mk (fun _ => ?_) (fun _ => ?_) <;> first | (exfalso; omega) | skip) | refine ArOb.fits (by first | omega | (simp only [ints_len] at *; omega)) ?_ | refine LitOb.vec ?_ | refine MakeOb.vec ?_ | refine AllocOb.box ?_ | refine AggOb.mk (by decide +kernel) ?_ | refine ArU.fits (by first | omega | (simp only [ints_len] at *; omega)) ?_ | refine ArB.fits (by first | omega | (simp only [ints_len] at *; omega)) ?_ | refine CutOb.split ?_ | refine Gh.mk [] ?_ | refine And.intro (And.intro (by (simp only [List.length_append, List.length_take, List.length_drop, List.length_cons, List.length_nil, ints_len, List.length_replicate, lnl, fll, stl]; omega)) (by (simp only [List.length_append, List.length_take, List.length_drop, List.length_cons, List.length_nil, ints_len, List.length_replicate, lnl, fll, stl]; omega))) ?_ | refine ⟨_, _, rfl, ints_get (by first | omega | (simp only [ints_len] at *; omega)), ?_⟩ | refine ⟨_, _, (Int.toNat_of_nonneg (by first | omega | (simp only [ints_len] at *; omega))).symm, ints_get (by first | omega | (simp only [ints_len] at *; omega)), ?_⟩ | refine DrawOb.mk [] (.qs [0, 1, 2, 3, 4, 5, 6, 7, 8, 9, 10, 11, 12, 13, 14, 15, 16, 17, 18, 19, 20, 21, 22, 23, 24, 25, 26, 27, 28, 29, 30, 31, 32, 33, 34, 36] (.l 35 [] (.l 37 [] (.qs [38, 39] .nil) .no) .no)) (by decide +kernel) ?_ | fail)
    all_goals try (conv => whnf)
    refine LoopOb.mk (Y := Nat) (st := fun j => ⟨[(54, i64 j), (53, i64 (ints (users n i)).length), (52, .psl 1 (ints (users n i))), (4, i64 i), (3, .ptr 0 0)], [.box [.psl 1 (strs n.nm), .psl 5 (lns n.ln), .psl 8 (fls n.fl)]]⟩)
      (inv := fun j => j ≤ (users n i).length) (fun j => (users n i).length - j) 0 [0] (by omega) (by (refine Le.mk (by kernel_rfl) ?_ ?_ <;> repeat' (first | exact True.intro | refine And.intro ?_ ?_ | exact Imp.refl _ | exact Imp.any _ | exact Imp.num (by first | omega | simp only [ints_len]) | exact rfl | exact Imp.bl (by simp)))) ?_
    intro j hj
    repeat' (conv => whnf
             first | refine ArOb.fits (by first | omega | (simp only [ints_len] at *; omega)) ?_ | refine LitOb.vec ?_ | refine MakeOb.vec ?_ | refine AllocOb.box ?_ | refine AggOb.mk (by decide +kernel) ?_ | refine ArU.fits (by first | omega | (simp only [ints_len] at *; omega)) ?_ | refine ArB.fits (by first | omega | (simp only [ints_len] at *; omega)) ?_ | refine CutOb.split ?_ | refine Gh.mk [] ?_ | refine And.intro (And.intro (by (simp only [List.length_append, List.length_take, List.length_drop, List.length_cons, List.length_nil, ints_len, List.length_replicate, lnl, fll, stl]; omega)) (by (simp only [List.length_append, List.length_take, List.length_drop, List.length_cons, List.length_nil, ints_len, List.length_replicate, lnl, fll, stl]; omega))) ?_ | refine ⟨_, _, rfl, ints_get (by first | omega | (simp only [ints_len] at *; omega)), ?_⟩ | refine ⟨_, _, (Int.toNat_of_nonneg (by first | omega | (simp only [ints_len] at *; omega))).symm, ints_get (by first | omega | (simp only [ints_len] at *; omega)), ?_⟩ | refine DrawOb.mk [] (.qs [0, 1, 2, 3, 4, 5, 6, 7, 8, 9, 10, 11, 12, 13, 14, 15, 16, 17, 18, 19, 20, 21, 22, 23, 24, 25, 26, 27, 28, 29, 30, 31, 32, 33, 34, 36] (.l 35 [] (.l 37 [] (.qs [38, 39] .nil) .no) .no)) (by decide +kernel) ?_ | fail)
    all_goals try (conv => whnf)
    refine CondOb.mk (fun hlt3 => ?_) (fun hlt3 => ?_)
    · have hin := getD_in (d := 0) (show j < (users n i).length by omega)
      obtain ⟨u1, u2, u3, u4, u5, u6⟩ := users_hop hin
      have hgf := flg (l := n.fl) (i := ((users n i).getD j 0).toNat) (by omega)
      have cH := Hop_ok n hn ((users n i).getD j 0) i
      generalize hop n ((users n i).getD j 0) i = h at *
      generalize n.fl.getD ((users n i).getD j 0).toNat fl0 = f at *
      have hrl := ints_len f.rt
      have cM := Members_ok n hn (by omega) i f.cl
      have hml : (members n i f.cl).length ≤ 5 := by have := mbr_len (n := n) (c := f.cl) (a := users n i); unfold members; omega
      repeat' (conv => whnf
               first | (refine CondOb.mk (fun h' => ?_) (fun h' => ?_) <;> first | (exfalso; first | omega | exact h' u6) | skip) | (refine CondOb.mk (fun _ => ?_) (fun _ => ?_) <;> first | (exfalso; omega) | skip) | refine ArOb.fits (by first | omega | (simp only [ints_len] at *; omega)) ?_ | refine LitOb.vec ?_ | refine MakeOb.vec ?_ | refine AllocOb.box ?_ | refine AggOb.mk (by decide +kernel) ?_ | refine ArU.fits (by first | omega | (simp only [ints_len] at *; omega)) ?_ | refine ArB.fits (by first | omega | (simp only [ints_len] at *; omega)) ?_ | refine CutOb.split ?_ | refine Gh.mk [] ?_ | refine And.intro (And.intro (by (simp only [List.length_append, List.length_take, List.length_drop, List.length_cons, List.length_nil, ints_len, List.length_replicate, lnl, fll, stl]; omega)) (by (simp only [List.length_append, List.length_take, List.length_drop, List.length_cons, List.length_nil, ints_len, List.length_replicate, lnl, fll, stl]; omega))) ?_ | refine ⟨_, _, rfl, ints_get (by first | omega | (simp only [ints_len] at *; omega)), ?_⟩ | refine ⟨_, _, (Int.toNat_of_nonneg (by first | omega | (simp only [ints_len] at *; omega))).symm, ints_get (by first | omega | (simp only [ints_len] at *; omega)), ?_⟩ | refine DrawOb.mk [] (.qs [0, 1, 2, 3, 4, 5, 6, 7, 8, 9, 10, 11, 12, 13, 14, 15, 16, 17, 18, 19, 20, 21, 22, 23, 24, 25, 26, 27, 28, 29, 30, 31, 32, 33, 34, 36] (.l 35 [] (.l 37 [] (.qs [38, 39] .nil) .no) .no)) (by decide +kernel) ?_ | refine ⟨((users n i).getD j 0).toNat, _, by omega, hgf, ?_⟩ | (refine CallOb.mk [] cH rfl (ImpL.refl _) rfl rfl ?_; rintro _ _ ⟨rfl, rfl⟩) | (refine CallOb.mk [] cM rfl (ImpL.refl _) rfl rfl ?_; rintro _ _ ⟨rfl, rfl⟩) | (refine CallOb.mk [] (In_ok (members n i f.cl) (by omega) ((users n i).getD j 0)) rfl (ImpL.refl _) rfl rfl ?_; rintro _ _ ⟨rfl, rfl⟩) | fail)
      all_goals try (conv => whnf)
      all_goals first
        | rfl
        | exact ⟨j + 1, [0], by omega, by omega, by (refine Le.mk (by kernel_rfl) ?_ ?_ <;> repeat' (first | exact True.intro | refine And.intro ?_ ?_ | exact Imp.refl _ | exact Imp.any _ | exact Imp.num (by first | omega | simp only [ints_len]) | exact rfl | exact Imp.bl (by simp)))⟩
        | trace_state
    · repeat' (conv => whnf
               first | (refine CondOb.mk (fun _ => ?_) (fun _ => ?_) <;> first | (exfalso; omega) | skip) | refine ArOb.fits (by first | omega | (simp only [ints_len] at *; omega)) ?_ | refine LitOb.vec ?_ | refine MakeOb.vec ?_ | refine AllocOb.box ?_ | refine AggOb.mk (by decide +kernel) ?_ | refine ArU.fits (by first | omega | (simp only [ints_len] at *; omega)) ?_ | refine ArB.fits (by first | omega | (simp only [ints_len] at *; omega)) ?_ | refine CutOb.split ?_ | refine Gh.mk [] ?_ | refine And.intro (And.intro (by (simp only [List.length_append, List.length_take, List.length_drop, List.length_cons, List.length_nil, ints_len, List.length_replicate, lnl, fll, stl]; omega)) (by (simp only [List.length_append, List.length_take, List.length_drop, List.length_cons, List.length_nil, ints_len, List.length_replicate, lnl, fll, stl]; omega))) ?_ | refine ⟨_, _, rfl, ints_get (by first | omega | (simp only [ints_len] at *; omega)), ?_⟩ | refine ⟨_, _, (Int.toNat_of_nonneg (by first | omega | (simp only [ints_len] at *; omega))).symm, ints_get (by first | omega | (simp only [ints_len] at *; omega)), ?_⟩ | refine DrawOb.mk [] (.qs [0, 1, 2, 3, 4, 5, 6, 7, 8, 9, 10, 11, 12, 13, 14, 15, 16, 17, 18, 19, 20, 21, 22, 23, 24, 25, 26, 27, 28, 29, 30, 31, 32, 33, 34, 36] (.l 35 [] (.l 37 [] (.qs [38, 39] .nil) .no) .no)) (by decide +kernel) ?_ | fail)
      all_goals try (conv => whnf)
      exact ⟨i + 1, [0], by omega, by omega, by (refine Le.mk (by kernel_rfl) ?_ ?_ <;> repeat' (first | exact True.intro | refine And.intro ?_ ?_ | exact Imp.refl _ | exact Imp.any _ | exact Imp.num (by first | omega | simp only [ints_len]) | exact rfl | exact Imp.bl (by simp)))⟩
  repeat' (conv => whnf
           first | (refine CondOb.mk (fun _ => ?_) (fun _ => ?_) <;> first | (exfalso; omega) | skip) | refine ArOb.fits (by first | omega | (simp only [ints_len] at *; omega)) ?_ | refine LitOb.vec ?_ | refine MakeOb.vec ?_ | refine AllocOb.box ?_ | refine AggOb.mk (by decide +kernel) ?_ | refine ArU.fits (by first | omega | (simp only [ints_len] at *; omega)) ?_ | refine ArB.fits (by first | omega | (simp only [ints_len] at *; omega)) ?_ | refine CutOb.split ?_ | refine Gh.mk [] ?_ | refine And.intro (And.intro (by (simp only [List.length_append, List.length_take, List.length_drop, List.length_cons, List.length_nil, ints_len, List.length_replicate, lnl, fll, stl]; omega)) (by (simp only [List.length_append, List.length_take, List.length_drop, List.length_cons, List.length_nil, ints_len, List.length_replicate, lnl, fll, stl]; omega))) ?_ | refine ⟨_, _, rfl, ints_get (by first | omega | (simp only [ints_len] at *; omega)), ?_⟩ | refine ⟨_, _, (Int.toNat_of_nonneg (by first | omega | (simp only [ints_len] at *; omega))).symm, ints_get (by first | omega | (simp only [ints_len] at *; omega)), ?_⟩ | refine DrawOb.mk [] (.qs [0, 1, 2, 3, 4, 5, 6, 7, 8, 9, 10, 11, 12, 13, 14, 15, 16, 17, 18, 19, 20, 21, 22, 23, 24, 25, 26, 27, 28, 29, 30, 31, 32, 33, 34, 36] (.l 35 [] (.l 37 [] (.qs [38, 39] .nil) .no) .no)) (by decide +kernel) ?_ | fail)
  all_goals try (conv => whnf)
  refine LoopOb.mk (Y := Nat) (st := fun i => ⟨[(11, i64 i), (3, .ptr 0 0)], [.box [.psl 1 (strs n.nm), .psl 5 (lns n.ln), .psl 8 (fls n.fl)]]⟩)
    (inv := fun i => i ≤ n.fl.length) (fun i => n.fl.length - i) 0 [0] (by omega) (by (refine Le.mk (by kernel_rfl) ?_ ?_ <;> repeat' (first | exact True.intro | refine And.intro ?_ ?_ | exact Imp.refl _ | exact Imp.any _ | exact Imp.num (by first | omega | simp only [ints_len]) | exact rfl | exact Imp.bl (by simp)))) ?_
  intro i2 hi2
  repeat' (conv => whnf
           first | refine ArOb.fits (by first | omega | (simp only [ints_len] at *; omega)) ?_ | refine LitOb.vec ?_ | refine MakeOb.vec ?_ | refine AllocOb.box ?_ | refine AggOb.mk (by decide +kernel) ?_ | refine ArU.fits (by first | omega | (simp only [ints_len] at *; omega)) ?_ | refine ArB.fits (by first | omega | (simp only [ints_len] at *; omega)) ?_ | refine CutOb.split ?_ | refine Gh.mk [] ?_ | refine And.intro (And.intro (by (simp only [List.length_append, List.length_take, List.length_drop, List.length_cons, List.length_nil, ints_len, List.length_replicate, lnl, fll, stl]; omega)) (by (simp only [List.length_append, List.length_take, List.length_drop, List.length_cons, List.length_nil, ints_len, List.length_replicate, lnl, fll, stl]; omega))) ?_ | refine ⟨_, _, rfl, ints_get (by first | omega | (simp only [ints_len] at *; omega)), ?_⟩ | refine ⟨_, _, (Int.toNat_of_nonneg (by first | omega | (simp only [ints_len] at *; omega))).symm, ints_get (by first | omega | (simp only [ints_len] at *; omega)), ?_⟩ | refine DrawOb.mk [] (.qs [0, 1, 2, 3, 4, 5, 6, 7, 8, 9, 10, 11, 12, 13, 14, 15, 16, 17, 18, 19, 20, 21, 22, 23, 24, 25, 26, 27, 28, 29, 30, 31, 32, 33, 34, 36] (.l 35 [] (.l 37 [] (.qs [38, 39] .nil) .no) .no)) (by decide +kernel) ?_ | fail)
  all_goals try (conv => whnf)
  refine CondOb.mk (fun hlt2 => ?_) (fun hlt2 => ?_)
  · have hil : i2 < n.fl.length := by omega
    have hgf := flg hil
    have hmu : ∀ l, l ∈ (n.fl.getD i2 fl0).rt → (i2 : Int) ∈ users n l := fun l h => mem_users hil h
    have hr3 := (g.fg _ (getD_in (d := fl0) hil)).r1
    generalize n.fl.getD i2 fl0 = f at *
    have hrl := ints_len f.rt
    repeat' (conv => whnf
             first | (refine CondOb.mk (fun _ => ?_) (fun _ => ?_) <;> first | (exfalso; omega) | skip) | refine ArOb.fits (by first | omega | (simp only [ints_len] at *; omega)) ?_ | refine LitOb.vec ?_ | refine MakeOb.vec ?_ | refine AllocOb.box ?_ | refine AggOb.mk (by decide +kernel) ?_ | refine ArU.fits (by first | omega | (simp only [ints_len] at *; omega)) ?_ | refine ArB.fits (by first | omega | (simp only [ints_len] at *; omega)) ?_ | refine CutOb.split ?_ | refine Gh.mk [] ?_ | refine And.intro (And.intro (by (simp only [List.length_append, List.length_take, List.length_drop, List.length_cons, List.length_nil, ints_len, List.length_replicate, lnl, fll, stl]; omega)) (by (simp only [List.length_append, List.length_take, List.length_drop, List.length_cons, List.length_nil, ints_len, List.length_replicate, lnl, fll, stl]; omega))) ?_ | refine ⟨_, _, rfl, ints_get (by first | omega | (simp only [ints_len] at *; omega)), ?_⟩ | refine ⟨_, _, (Int.toNat_of_nonneg (by first | omega | (simp only [ints_len] at *; omega))).symm, ints_get (by first | omega | (simp only [ints_len] at *; omega)), ?_⟩ | refine DrawOb.mk [] (.qs [0, 1, 2, 3, 4, 5, 6, 7, 8, 9, 10, 11, 12, 13, 14, 15, 16, 17, 18, 19, 20, 21, 22, 23, 24, 25, 26, 27, 28, 29, 30, 31, 32, 33, 34, 36] (.l 35 [] (.l 37 [] (.qs [38, 39] .nil) .no) .no)) (by decide +kernel) ?_ | refine ⟨i2, _, rfl, hgf, ?_⟩ | fail)
    all_goals try (conv => whnf)
    refine LoopOb.mk (Y := Nat) (st := fun j => ⟨[(126, i64 j), (125, i64 (ints f.rt).length), (124, .psl 1 (ints f.rt)), (11, i64 i2), (3, .ptr 0 0)], [.box [.psl 1 (strs n.nm), .psl 5 (lns n.ln), .psl 8 (fls n.fl)]]⟩)
      (inv := fun j => j ≤ f.rt.length) (fun j => f.rt.length - j) 0 [0] (by omega) (by (refine Le.mk (by kernel_rfl) ?_ ?_ <;> repeat' (first | exact True.intro | refine And.intro ?_ ?_ | exact Imp.refl _ | exact Imp.any _ | exact Imp.num (by first | omega | simp only [ints_len]) | exact rfl | exact Imp.bl (by simp)))) ?_
    intro j hj
    repeat' (conv => whnf
             first | refine ArOb.fits (by first | omega | (simp only [ints_len] at *; omega)) ?_ | refine LitOb.vec ?_ | refine MakeOb.vec ?_ | refine AllocOb.box ?_ | refine AggOb.mk (by decide +kernel) ?_ | refine ArU.fits (by first | omega | (simp only [ints_len] at *; omega)) ?_ | refine ArB.fits (by first | omega | (simp only [ints_len] at *; omega)) ?_ | refine CutOb.split ?_ | refine Gh.mk [] ?_ | refine And.intro (And.intro (by (simp only [List.length_append, List.length_take, List.length_drop, List.length_cons, List.length_nil, ints_len, List.length_replicate, lnl, fll, stl]; omega)) (by (simp only [List.length_append, List.length_take, List.length_drop, List.length_cons, List.length_nil, ints_len, List.length_replicate, lnl, fll, stl]; omega))) ?_ | refine ⟨_, _, rfl, ints_get (by first | omega | (simp only [ints_len] at *; omega)), ?_⟩ | refine ⟨_, _, (Int.toNat_of_nonneg (by first | omega | (simp only [ints_len] at *; omega))).symm, ints_get (by first | omega | (simp only [ints_len] at *; omega)), ?_⟩ | refine DrawOb.mk [] (.qs [0, 1, 2, 3, 4, 5, 6, 7, 8, 9, 10, 11, 12, 13, 14, 15, 16, 17, 18, 19, 20, 21, 22, 23, 24, 25, 26, 27, 28, 29, 30, 31, 32, 33, 34, 36] (.l 35 [] (.l 37 [] (.qs [38, 39] .nil) .no) .no)) (by decide +kernel) ?_ | fail)
    all_goals try (conv => whnf)
    refine CondOb.mk (fun hlt3 => ?_) (fun hlt3 => ?_)
    · have hm := hmu _ (getD_in (d := 0) (show j < f.rt.length by omega))
      have hub : (users n (f.rt.getD j 0)).length ≤ 5 := by have := usr_len (n := n) (l := f.rt.getD j 0) (i := n.fl.length); unfold users; omega
      repeat' (conv => whnf
               first | (refine CondOb.mk (fun h' => ?_) (fun h' => ?_) <;> first | (exfalso; first | omega | exact h' hm) | skip) | (refine CondOb.mk (fun _ => ?_) (fun _ => ?_) <;> first | (exfalso; omega) | skip) | refine ArOb.fits (by first | omega | (simp only [ints_len] at *; omega)) ?_ | refine LitOb.vec ?_ | refine MakeOb.vec ?_ | refine AllocOb.box ?_ | refine AggOb.mk (by decide +kernel) ?_ | refine ArU.fits (by first | omega | (simp only [ints_len] at *; omega)) ?_ | refine ArB.fits (by first | omega | (simp only [ints_len] at *; omega)) ?_ | refine CutOb.split ?_ | refine Gh.mk [] ?_ | refine And.intro (And.intro (by (simp only [List.length_append, List.length_take, List.length_drop, List.length_cons, List.length_nil, ints_len, List.length_replicate, lnl, fll, stl]; omega)) (by (simp only [List.length_append, List.length_take, List.length_drop, List.length_cons, List.length_nil, ints_len, List.length_replicate, lnl, fll, stl]; omega))) ?_ | refine ⟨_, _, rfl, ints_get (by first | omega | (simp only [ints_len] at *; omega)), ?_⟩ | refine ⟨_, _, (Int.toNat_of_nonneg (by first | omega | (simp only [ints_len] at *; omega))).symm, ints_get (by first | omega | (simp only [ints_len] at *; omega)), ?_⟩ | refine DrawOb.mk [] (.qs [0, 1, 2, 3, 4, 5, 6, 7, 8, 9, 10, 11, 12, 13, 14, 15, 16, 17, 18, 19, 20, 21, 22, 23, 24, 25, 26, 27, 28, 29, 30, 31, 32, 33, 34, 36] (.l 35 [] (.l 37 [] (.qs [38, 39] .nil) .no) .no)) (by decide +kernel) ?_ | (refine CallOb.mk [] (Users_ok n hn (by omega) (f.rt.getD j 0)) rfl (ImpL.refl _) rfl rfl ?_; rintro _ _ ⟨rfl, rfl⟩) | (refine CallOb.mk [] (In_ok (users n (f.rt.getD j 0)) (by omega) i2) rfl (ImpL.refl _) rfl rfl ?_; rintro _ _ ⟨rfl, rfl⟩) | fail)
      all_goals try (conv => whnf)
      exact ⟨j + 1, [0], by omega, by omega, by (refine Le.mk (by kernel_rfl) ?_ ?_ <;> repeat' (first | exact True.intro | refine And.intro ?_ ?_ | exact Imp.refl _ | exact Imp.any _ | exact Imp.num (by first | omega | simp only [ints_len]) | exact rfl | exact Imp.bl (by simp)))⟩
    · repeat' (conv => whnf
               first | (refine CondOb.mk (fun _ => ?_) (fun _ => ?_) <;> first | (exfalso; omega) | skip) | refine ArOb.fits (by first | omega | (simp only [ints_len] at *; omega)) ?_ | refine LitOb.vec ?_ | refine MakeOb.vec ?_ | refine AllocOb.box ?_ | refine AggOb.mk (by decide +kernel) ?_ | refine ArU.fits (by first | omega | (simp only [ints_len] at *; omega)) ?_ | refine ArB.fits (by first | omega | (simp only [ints_len] at *; omega)) ?_ | refine CutOb.split ?_ | refine Gh.mk [] ?_ | refine And.intro (And.intro (by (simp only [List.length_append, List.length_take, List.length_drop, List.length_cons, List.length_nil, ints_len, List.length_replicate, lnl, fll, stl]; omega)) (by (simp only [List.length_append, List.length_take, List.length_drop, List.length_cons, List.length_nil, ints_len, List.length_replicate, lnl, fll, stl]; omega))) ?_ | refine ⟨_, _, rfl, ints_get (by first | omega | (simp only [ints_len] at *; omega)), ?_⟩ | refine ⟨_, _, (Int.toNat_of_nonneg (by first | omega | (simp only [ints_len] at *; omega))).symm, ints_get (by first | omega | (simp only [ints_len] at *; omega)), ?_⟩ | refine DrawOb.mk [] (.qs [0, 1, 2, 3, 4, 5, 6, 7, 8, 9, 10, 11, 12, 13, 14, 15, 16, 17, 18, 19, 20, 21, 22, 23, 24, 25, 26, 27, 28, 29, 30, 31, 32, 33, 34, 36] (.l 35 [] (.l 37 [] (.qs [38, 39] .nil) .no) .no)) (by decide +kernel) ?_ | fail)
      all_goals try (conv => whnf)
      exact ⟨i2 + 1, [0], by omega, by omega, by (refine Le.mk (by kernel_rfl) ?_ ?_ <;> repeat' (first | exact True.intro | refine And.intro ?_ ?_ | exact Imp.refl _ | exact Imp.any _ | exact Imp.num (by first | omega | simp only [ints_len]) | exact rfl | exact Imp.bl (by simp)))⟩
  · have cC := Check_ok n hn
    rw [g.chk] at cC
    repeat' (conv => whnf
             first | (refine CondOb.mk (fun _ => ?_) (fun _ => ?_) <;> first | (exfalso; omega) | skip) | refine ArOb.fits (by first | omega | (simp only [ints_len] at *; omega)) ?_ | refine LitOb.vec ?_ | refine MakeOb.vec ?_ | refine AllocOb.box ?_ | refine AggOb.mk (by decide +kernel) ?_ | refine ArU.fits (by first | omega | (simp only [ints_len] at *; omega)) ?_ | refine ArB.fits (by first | omega | (simp only [ints_len] at *; omega)) ?_ | refine CutOb.split ?_ | refine Gh.mk [] ?_ | refine And.intro (And.intro (by (simp only [List.length_append, List.length_take, List.length_drop, List.length_cons, List.length_nil, ints_len, List.length_replicate, lnl, fll, stl]; omega)) (by (simp only [List.length_append, List.length_take, List.length_drop, List.length_cons, List.length_nil, ints_len, List.length_replicate, lnl, fll, stl]; omega))) ?_ | refine ⟨_, _, rfl, ints_get (by first | omega | (simp only [ints_len] at *; omega)), ?_⟩ | refine ⟨_, _, (Int.toNat_of_nonneg (by first | omega | (simp only [ints_len] at *; omega))).symm, ints_get (by first | omega | (simp only [ints_len] at *; omega)), ?_⟩ | refine DrawOb.mk [] (.qs [0, 1, 2, 3, 4, 5, 6, 7, 8, 9, 10, 11, 12, 13, 14, 15, 16, 17, 18, 19, 20, 21, 22, 23, 24, 25, 26, 27, 28, 29, 30, 31, 32, 33, 34, 36] (.l 35 [] (.l 37 [] (.qs [38, 39] .nil) .no) .no)) (by decide +kernel) ?_ | (refine CallOb.mk [] cC rfl (ImpL.refl _) rfl rfl ?_; rintro _ _ ⟨rfl, rfl⟩) | (refine CallOb.mk [] (sane_ok) rfl (ImpL.refl _) rfl rfl ?_; rintro _ _ ⟨rfl, rfl⟩) | fail)
    all_goals try (conv => whnf)
    all_goals first
      | rfl
      | (exfalso; omega)
      | trace_state
end Go.Proofs.Ytbbbmkjfmcnnfaa
