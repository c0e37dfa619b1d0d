/-
  A text of the proofs of this seat: lemmas that the statements' proofs use; it states nothing of the program by itself beyond the contracts that its theorems bear. Conditions: those that stand in each theorem. Its short name: T14.
-/
import Derived.Test.YtnlmmjmcackgjaaT13
set_option linter.unusedVariables false
set_option linter.unusedSimpArgs false
namespace Go.Proofs.Ytnlmmjmcackgjaa
open Go.Sx Go.Np Go.Tp
set_option maxRecDepth 4000
set_option maxHeartbeats 2000000
/- one more than the greatest level of a line from which an edge leads -/
def wt (L : Nat → Nat) (b : Nat) : List Ed → Nat
  | [] => 0
  | e :: l => if e.2 = b then max (L e.1 + 1) (wt L b l) else wt L b l
theorem wt_snoc {L : Nat → Nat} {b : Nat} {e : Ed} : ∀ {l : List Ed}, wt L b (l ++ [e]) = if e.2 = b then max (wt L b l) (L e.1 + 1) else wt L b l
  | [] => by simp only [List.nil_append, wt]; split <;> omega
  | x :: l => by
    simp only [List.cons_append, wt]
    rw [wt_snoc]
    split <;> split <;> omega
theorem wt_le {L : Nat → Nat} {b m : Nat} : ∀ {l : List Ed}, (∀ e ∈ l, e.2 = b → L e.1 + 1 ≤ m) → wt L b l ≤ m
  | [], _ => by simp [wt]
  | x :: l, h => by
    have ih := wt_le (l := l) fun e he => h e (by simp [he])
    have := h x (by simp)
    simp only [wt]
    split
    · rename_i hx; have := this hx; omega
    · exact ih
theorem wt_ge {L : Nat → Nat} {b : Nat} {e : Ed} : ∀ {l : List Ed}, e ∈ l → e.2 = b → L e.1 + 1 ≤ wt L b l
  | [], h, _ => by simp at h
  | x :: l, h, hb => by
    simp only [wt]
    rcases List.mem_cons.1 h with rfl | h
    · rw [if_pos hb]; omega
    · have := wt_ge (L := L) h hb
      split <;> omega
theorem wt_lv {E : Gr} {L : Nat → Nat} {m : Nat} (hE : GOK E m) (h : LvP E L) (b : Nat) : wt L b (edg E m m) = L b := by
  have h1 : wt L b (edg E m m) ≤ L b := wt_le fun e he hb => by
    have := (mem_edg.1 he).2.2
    rw [hb] at this
    exact h.u _ _ this
  rcases h.a b with h2 | ⟨a, h2, h3⟩
  · omega
  · have := wt_ge (L := L) (b := b) (e := (a, b)) (mem_edg.2 ⟨(hE.b _ _ h2).1, (hE.b _ _ h2).2, h2⟩) rfl
    dsimp only at this
    omega
theorem Levels_ok (l : List Int) (hl : l.length ≤ 9223372036854775807) :
    Ctr Try.prog 7 [.psl 1 (ints l)] [] (fun r o => r = .bl true) := by
  refine fn_intro (E := env 0) tys_ok rfl rfl rfl Try.func7 (by kernel_rfl) rfl (by kernel_rfl) ?_
  repeat' (conv => whnf
           first | (refine CondOb.mk (fun _ => ?_) (fun _ => ?_) <;> first | (exfalso; omega) | skip) | refine ArOb.fits (by first | omega | (simp only [ints_len] at *; omega)) ?_ | refine LitOb.vec ?_ | refine MakeOb.vec ?_ | refine AllocOb.box ?_ | refine AsgOb.vec ?_ | refine AggOb.mk (by decide +kernel) ?_ | refine ArU.fits (by first | omega | (simp only [ints_len] at *; omega)) ?_ | refine ArB.fits (by first | omega | (simp only [ints_len] at *; omega)) ?_ | refine CutOb.split ?_ | refine Gh.mk [] ?_ | refine And.intro (And.intro (by (simp only [List.length_append, List.length_take, List.length_drop, List.length_cons, List.length_nil, ints_len, List.length_replicate, lnl, fll, stl]; omega)) (by (simp only [List.length_append, List.length_take, List.length_drop, List.length_cons, List.length_nil, ints_len, List.length_replicate, lnl, fll, stl]; omega))) ?_ | refine ⟨_, _, rfl, ints_get (by first | omega | (simp only [ints_len] at *; omega)), ?_⟩ | refine ⟨_, _, (Int.toNat_of_nonneg (by first | omega | (simp only [ints_len] at *; omega))).symm, ints_get (by first | omega | (simp only [ints_len] at *; omega)), ?_⟩ | (refine CallOb.mk [] (sane_ok) rfl (ImpL.refl _) rfl rfl ?_; rintro _ _ ⟨rfl, rfl⟩) | fail)
  all_goals try (conv => whnf)
  · rfl
  refine CallOb.mk [] (graph_ok l hl) rfl (ImpL.refl _) rfl rfl ?_
  rintro _ _ ⟨⟨k, R⟩, hG, rfl, rfl⟩
  dsimp only at hG ⊢
  have hn := hG.nl'
  have hc := hG.chk
  have hk1 := hG.k1
  have hk2 := hG.k2
  have hln : (lns (rtN k R).ln).length = k := by rw [lnl, rtN_ll]
  have hE := adj_chk hc
  have cE := tEdges_ok _ hn hc
  have ho := fun {o} h => ord_some (o := o) hE h
  have ho' := fun h => ord_none hE h
  cases hO : ord (adj (rtN k R)) (rtN k R).ln.length with
  | none =>
    obtain ⟨c, c1, c2, c3, cY⟩ := cyc_some hn hc (ho' hO)
    have cL := tLevels_none _ hn hc hO
    clear ho ho' hO
    rw [rtN_ll] at *
    generalize rtN k R = n at *
    generalize adj n = E at *
    have hcl := nts_len c
    repeat' (conv => whnf
             first | (refine CondOb.mk (fun _ => ?_) (fun _ => ?_) <;> first | (exfalso; omega) | skip) | refine ArOb.fits (by first | omega | (simp only [ints_len] at *; omega)) ?_ | refine LitOb.vec ?_ | refine MakeOb.vec ?_ | refine AllocOb.box ?_ | refine AsgOb.vec ?_ | refine AggOb.mk (by decide +kernel) ?_ | refine ArU.fits (by first | omega | (simp only [ints_len] at *; omega)) ?_ | refine ArB.fits (by first | omega | (simp only [ints_len] at *; omega)) ?_ | refine CutOb.split ?_ | refine Gh.mk [] ?_ | refine And.intro (And.intro (by (simp only [List.length_append, List.length_take, List.length_drop, List.length_cons, List.length_nil, ints_len, List.length_replicate, lnl, fll, stl]; omega)) (by (simp only [List.length_append, List.length_take, List.length_drop, List.length_cons, List.length_nil, ints_len, List.length_replicate, lnl, fll, stl]; omega))) ?_ | refine ⟨_, _, rfl, ints_get (by first | omega | (simp only [ints_len] at *; omega)), ?_⟩ | refine ⟨_, _, (Int.toNat_of_nonneg (by first | omega | (simp only [ints_len] at *; omega))).symm, ints_get (by first | omega | (simp only [ints_len] at *; omega)), ?_⟩ | (refine CallOb.mk [] cL rfl (ImpL.refl _) rfl rfl ?_; rintro _ _ ⟨rfl, rfl⟩) | (refine CallOb.mk [] cY rfl (ImpL.refl _) rfl rfl ?_; rintro _ _ ⟨rfl, rfl⟩) | (refine CallOb.mk [] (sane_ok) rfl (ImpL.refl _) rfl rfl ?_; rintro _ _ ⟨rfl, rfl⟩) | fail)
    all_goals try (conv => whnf)
    all_goals first
      | rfl
      | (exfalso; omega)
  | some o =>
    obtain ⟨hT, hTl, hac⟩ := ho hO
    have cL := tLevels_some _ hn hc hO
    have hV := lvs_ok hE hT hTl
    have hlb := fun b => lvs_le (E := adj (rtN k R)) o b
    clear ho ho' hO
    rw [rtN_ll] at *
    generalize rtN k R = n at *
    generalize adj n = E at *
    have hwl := fun b => wt_lv hE hV b
    have hil := ivs_len k fun b => (lvs E o b : Nat)
    have hgl := fun b (hb : b < k) => ivs_get (F := fun b => ((lvs E o b : Nat) : Int)) hb
    generalize lvs E o = L at *
    have hel := eds_len (edg E k k)
    have hed := edg_len (E := E) (m := k) (a := k)
    have hkk : k * k ≤ 8 * 8 := Nat.mul_le_mul (by omega) (by omega)
    repeat' (conv => whnf
             first | (refine CondOb.mk (fun _ => ?_) (fun _ => ?_) <;> first | (exfalso; omega) | skip) | refine ArOb.fits (by first | omega | (simp only [ints_len] at *; omega)) ?_ | refine LitOb.vec ?_ | refine MakeOb.vec ?_ | refine AllocOb.box ?_ | refine AsgOb.vec ?_ | refine AggOb.mk (by decide +kernel) ?_ | refine ArU.fits (by first | omega | (simp only [ints_len] at *; omega)) ?_ | refine ArB.fits (by first | omega | (simp only [ints_len] at *; omega)) ?_ | refine CutOb.split ?_ | refine Gh.mk [] ?_ | refine And.intro (And.intro (by (simp only [List.length_append, List.length_take, List.length_drop, List.length_cons, List.length_nil, ints_len, List.length_replicate, lnl, fll, stl]; omega)) (by (simp only [List.length_append, List.length_take, List.length_drop, List.length_cons, List.length_nil, ints_len, List.length_replicate, lnl, fll, stl]; omega))) ?_ | refine ⟨_, _, rfl, ints_get (by first | omega | (simp only [ints_len] at *; omega)), ?_⟩ | refine ⟨_, _, (Int.toNat_of_nonneg (by first | omega | (simp only [ints_len] at *; omega))).symm, ints_get (by first | omega | (simp only [ints_len] at *; omega)), ?_⟩ | (refine CallOb.mk [] cL rfl (ImpL.refl _) rfl rfl ?_; rintro _ _ ⟨rfl, rfl⟩) | (refine CallOb.mk [] cE rfl (ImpL.refl _) rfl rfl ?_; rintro _ _ ⟨rfl, rfl⟩) | fail)
    all_goals try (conv => whnf)
    refine LoopOb.mk (Y := Nat) (st := fun i => ⟨[(36, i64 i), (35, i64 (lns n.ln).length), (6, .psl 2 (eds (edg E k k))), (4, .psl 1 (ivs k fun b => (L b : Nat)))], []⟩)
      (inv := fun i => i ≤ k) (fun i => k - i) 0 [] (by omega) (by (refine Le.mk (by kernel_rfl) ?_ ?_ <;> repeat' (first | exact True.intro | refine And.intro ?_ ?_ | exact Imp.refl _ | exact Imp.any _ | exact Imp.num (by first | omega | simp only [ints_len]) | exact rfl | exact Imp.bl (by simp)))) ?_
    intro i hi
    repeat' (conv => whnf
             first | refine ArOb.fits (by first | omega | (simp only [ints_len] at *; omega)) ?_ | refine LitOb.vec ?_ | refine MakeOb.vec ?_ | refine AllocOb.box ?_ | refine AsgOb.vec ?_ | refine AggOb.mk (by decide +kernel) ?_ | refine ArU.fits (by first | omega | (simp only [ints_len] at *; omega)) ?_ | refine ArB.fits (by first | omega | (simp only [ints_len] at *; omega)) ?_ | refine CutOb.split ?_ | refine Gh.mk [] ?_ | refine And.intro (And.intro (by (simp only [List.length_append, List.length_take, List.length_drop, List.length_cons, List.length_nil, ints_len, List.length_replicate, lnl, fll, stl]; omega)) (by (simp only [List.length_append, List.length_take, List.length_drop, List.length_cons, List.length_nil, ints_len, List.length_replicate, lnl, fll, stl]; omega))) ?_ | refine ⟨_, _, rfl, ints_get (by first | omega | (simp only [ints_len] at *; omega)), ?_⟩ | refine ⟨_, _, (Int.toNat_of_nonneg (by first | omega | (simp only [ints_len] at *; omega))).symm, ints_get (by first | omega | (simp only [ints_len] at *; omega)), ?_⟩ | fail)
    all_goals try (conv => whnf)
    refine CondOb.mk (fun hlt => ?_) (fun hlt => ?_)
    · have hik : i < k := by omega
      have hgi := hgl i hik
      repeat' (conv => whnf
               first | (refine CondOb.mk (fun _ => ?_) (fun _ => ?_) <;> first | (exfalso; omega) | skip) | refine ArOb.fits (by first | omega | (simp only [ints_len] at *; omega)) ?_ | refine LitOb.vec ?_ | refine MakeOb.vec ?_ | refine AllocOb.box ?_ | refine AsgOb.vec ?_ | refine AggOb.mk (by decide +kernel) ?_ | refine ArU.fits (by first | omega | (simp only [ints_len] at *; omega)) ?_ | refine ArB.fits (by first | omega | (simp only [ints_len] at *; omega)) ?_ | refine CutOb.split ?_ | refine Gh.mk [] ?_ | refine And.intro (And.intro (by (simp only [List.length_append, List.length_take, List.length_drop, List.length_cons, List.length_nil, ints_len, List.length_replicate, lnl, fll, stl]; omega)) (by (simp only [List.length_append, List.length_take, List.length_drop, List.length_cons, List.length_nil, ints_len, List.length_replicate, lnl, fll, stl]; omega))) ?_ | refine ⟨_, _, rfl, ints_get (by first | omega | (simp only [ints_len] at *; omega)), ?_⟩ | refine ⟨_, _, (Int.toNat_of_nonneg (by first | omega | (simp only [ints_len] at *; omega))).symm, ints_get (by first | omega | (simp only [ints_len] at *; omega)), ?_⟩ | fail)
      all_goals try (conv => whnf)
      refine LoopOb.mk (Y := Nat) (st := fun j => ⟨[(41, i64 j), (40, i64 (eds (edg E k k)).length), (39, .psl 2 (eds (edg E k k))), (8, i64 (wt L i ((edg E k k).take j) : Nat)), (7, i64 i), (36, i64 i), (35, i64 (lns n.ln).length), (6, .psl 2 (eds (edg E k k))), (4, .psl 1 (ivs k fun b => (L b : Nat)))], []⟩)
        (inv := fun j => j ≤ (edg E k k).length) (fun j => (edg E k k).length - j) 0 [] (by omega) (by (refine Le.mk (by kernel_rfl) ?_ ?_ <;> repeat' (first | exact True.intro | refine And.intro ?_ ?_ | exact Imp.refl _ | exact Imp.any _ | exact Imp.num (by first | omega | simp only [ints_len]) | exact rfl | exact Imp.bl (by simp)))) ?_
      intro j hj
      repeat' (conv => whnf
               first | refine ArOb.fits (by first | omega | (simp only [ints_len] at *; omega)) ?_ | refine LitOb.vec ?_ | refine MakeOb.vec ?_ | refine AllocOb.box ?_ | refine AsgOb.vec ?_ | refine AggOb.mk (by decide +kernel) ?_ | refine ArU.fits (by first | omega | (simp only [ints_len] at *; omega)) ?_ | refine ArB.fits (by first | omega | (simp only [ints_len] at *; omega)) ?_ | refine CutOb.split ?_ | refine Gh.mk [] ?_ | refine And.intro (And.intro (by (simp only [List.length_append, List.length_take, List.length_drop, List.length_cons, List.length_nil, ints_len, List.length_replicate, lnl, fll, stl]; omega)) (by (simp only [List.length_append, List.length_take, List.length_drop, List.length_cons, List.length_nil, ints_len, List.length_replicate, lnl, fll, stl]; omega))) ?_ | refine ⟨_, _, rfl, ints_get (by first | omega | (simp only [ints_len] at *; omega)), ?_⟩ | refine ⟨_, _, (Int.toNat_of_nonneg (by first | omega | (simp only [ints_len] at *; omega))).symm, ints_get (by first | omega | (simp only [ints_len] at *; omega)), ?_⟩ | fail)
      all_goals try (conv => whnf)
      refine CondOb.mk (fun hlt2 => ?_) (fun hlt2 => ?_)
      · have hjl : j < (edg E k k).length := by omega
        have hg := eds_get hjl
        have hm := mem_edg.1 (ed_mem hjl)
        have hst := wt_snoc (L := L) (b := i) (e := (edg E k k).getD j (0, 0)) (l := (edg E k k).take j)
        rw [← take_ed hjl] at hst
        have hw : wt L i ((edg E k k).take j) ≤ o.length := wt_le fun e he hb => by
          have := (mem_edg.1 (List.mem_of_mem_take he)).2.2
          rw [hb] at this
          have := hV.u _ _ this
          have := hlb i
          omega
        generalize (edg E k k).getD j (0, 0) = e at *
        obtain ⟨x, y⟩ := e
        dsimp only at hg hm hst
        have hgx := hgl x hm.1
        have hlx := hlb x
        generalize wt L i ((edg E k k).take j) = W at *
        repeat' (conv => whnf
                 first | refine ⟨j, _, rfl, hg, ?_⟩ | (refine CondOb.mk (fun _ => ?_) (fun _ => ?_) <;> first | (exfalso; omega) | skip) | refine ArOb.fits (by first | omega | (simp only [ints_len] at *; omega)) ?_ | refine LitOb.vec ?_ | refine MakeOb.vec ?_ | refine AllocOb.box ?_ | refine AsgOb.vec ?_ | refine AggOb.mk (by decide +kernel) ?_ | refine ArU.fits (by first | omega | (simp only [ints_len] at *; omega)) ?_ | refine ArB.fits (by first | omega | (simp only [ints_len] at *; omega)) ?_ | refine CutOb.split ?_ | refine Gh.mk [] ?_ | refine And.intro (And.intro (by (simp only [List.length_append, List.length_take, List.length_drop, List.length_cons, List.length_nil, ints_len, List.length_replicate, lnl, fll, stl]; omega)) (by (simp only [List.length_append, List.length_take, List.length_drop, List.length_cons, List.length_nil, ints_len, List.length_replicate, lnl, fll, stl]; omega))) ?_ | refine ⟨_, _, rfl, ints_get (by first | omega | (simp only [ints_len] at *; omega)), ?_⟩ | refine ⟨_, _, (Int.toNat_of_nonneg (by first | omega | (simp only [ints_len] at *; omega))).symm, ints_get (by first | omega | (simp only [ints_len] at *; omega)), ?_⟩ | refine ⟨0, rfl, by omega, ?_⟩ | refine ⟨1, rfl, by omega, ?_⟩ | refine ⟨x, _, rfl, hgx, ?_⟩ | fail)
        all_goals try (conv => whnf)
        all_goals refine ⟨j + 1, [], by omega, by omega, ?_⟩
        all_goals rw [hst]
        · rw [if_pos (by omega)]
          refine Le.mk (by kernel_rfl) ?_ ?_ <;> repeat' (first | exact True.intro | refine And.intro ?_ ?_ | exact Imp.refl _ | exact Imp.any _ | exact Imp.num (by omega) | exact rfl)
        · rw [if_neg (by omega)]
          (refine Le.mk (by kernel_rfl) ?_ ?_ <;> repeat' (first | exact True.intro | refine And.intro ?_ ?_ | exact Imp.refl _ | exact Imp.any _ | exact Imp.num (by first | omega | simp only [ints_len]) | exact rfl | exact Imp.bl (by simp)))
      · have hjl : j = (edg E k k).length := by omega
        subst hjl
        rw [List.take_length, hwl]
        repeat' (conv => whnf
                 first | (refine CondOb.mk (fun _ => ?_) (fun _ => ?_) <;> first | (exfalso; omega) | skip) | refine ArOb.fits (by first | omega | (simp only [ints_len] at *; omega)) ?_ | refine LitOb.vec ?_ | refine MakeOb.vec ?_ | refine AllocOb.box ?_ | refine AsgOb.vec ?_ | refine AggOb.mk (by decide +kernel) ?_ | refine ArU.fits (by first | omega | (simp only [ints_len] at *; omega)) ?_ | refine ArB.fits (by first | omega | (simp only [ints_len] at *; omega)) ?_ | refine CutOb.split ?_ | refine Gh.mk [] ?_ | refine And.intro (And.intro (by (simp only [List.length_append, List.length_take, List.length_drop, List.length_cons, List.length_nil, ints_len, List.length_replicate, lnl, fll, stl]; omega)) (by (simp only [List.length_append, List.length_take, List.length_drop, List.length_cons, List.length_nil, ints_len, List.length_replicate, lnl, fll, stl]; omega))) ?_ | refine ⟨_, _, rfl, ints_get (by first | omega | (simp only [ints_len] at *; omega)), ?_⟩ | refine ⟨_, _, (Int.toNat_of_nonneg (by first | omega | (simp only [ints_len] at *; omega))).symm, ints_get (by first | omega | (simp only [ints_len] at *; omega)), ?_⟩ | refine ⟨i, _, rfl, hgi, ?_⟩ | fail)
        all_goals try (conv => whnf)
        exact ⟨i + 1, [], by omega, by omega, by (refine Le.mk (by kernel_rfl) ?_ ?_ <;> repeat' (first | exact True.intro | refine And.intro ?_ ?_ | exact Imp.refl _ | exact Imp.any _ | exact Imp.num (by first | omega | simp only [ints_len]) | exact rfl | exact Imp.bl (by simp)))⟩
    · repeat' (conv => whnf
               first | (refine CondOb.mk (fun _ => ?_) (fun _ => ?_) <;> first | (exfalso; omega) | skip) | refine ArOb.fits (by first | omega | (simp only [ints_len] at *; omega)) ?_ | refine LitOb.vec ?_ | refine MakeOb.vec ?_ | refine AllocOb.box ?_ | refine AsgOb.vec ?_ | refine AggOb.mk (by decide +kernel) ?_ | refine ArU.fits (by first | omega | (simp only [ints_len] at *; omega)) ?_ | refine ArB.fits (by first | omega | (simp only [ints_len] at *; omega)) ?_ | refine CutOb.split ?_ | refine Gh.mk [] ?_ | refine And.intro (And.intro (by (simp only [List.length_append, List.length_take, List.length_drop, List.length_cons, List.length_nil, ints_len, List.length_replicate, lnl, fll, stl]; omega)) (by (simp only [List.length_append, List.length_take, List.length_drop, List.length_cons, List.length_nil, ints_len, List.length_replicate, lnl, fll, stl]; omega))) ?_ | refine ⟨_, _, rfl, ints_get (by first | omega | (simp only [ints_len] at *; omega)), ?_⟩ | refine ⟨_, _, (Int.toNat_of_nonneg (by first | omega | (simp only [ints_len] at *; omega))).symm, ints_get (by first | omega | (simp only [ints_len] at *; omega)), ?_⟩ | (refine CallOb.mk [] (sane_ok) rfl (ImpL.refl _) rfl rfl ?_; rintro _ _ ⟨rfl, rfl⟩) | fail)
      all_goals try (conv => whnf)
      rfl
end Go.Proofs.Ytnlmmjmcackgjaa
