/-
  A text of the proofs of this seat: lemmas that the statements' proofs use; it states nothing of the program by itself beyond the contracts that its theorems bear. Conditions: those that stand in each theorem. Its short name: T15.
-/
import Derived.Test.YtnlmmjmcackgjaaT14
import Derived.Test.YtnlmmjmcackgjaaPl
set_option linter.unusedVariables false
set_option linter.unusedSimpArgs false
namespace Go.Proofs.Ytnlmmjmcackgjaa
open Go.Sx Go.Np Go.Tp
set_option maxRecDepth 4000
set_option maxHeartbeats 2000000
theorem nl_rm {n : Nt} (h : NL n) (i : Nat) : NL (rmF n i) :=
  ⟨h.nm, h.ln, by have := (rmF_sub n i).length_le; have := h.fl; omega, h.ns, h.lw, fun f hf => h.fs f ((rmF_sub n i).subset hf)⟩
theorem fls_rm (n : Nt) (i : Nat) : (fls n.fl).take i ++ (fls n.fl).drop (i + 1) = fls (rmF n i).fl := by
  show _ = fls (n.fl.take i ++ n.fl.drop (i + 1))
  simp [fls, List.map_take, List.map_drop]
/- Order by whether there is a cycle -/
theorem order_cyc {n : Nt} (hn : NL n) (h : chkN n = 0) (hc : Cyc (adj n)) : Ctr Try.prog 19 [ntv n] [] (fun r o => o = [] ∧ r = .tup [.psl 1 (nts []), .bl false]) := by
  cases hO : ord (adj n) n.ln.length with
  | none => exact tOrder_none n hn h hO
  | some o => exact absurd hc (ord_some (adj_chk h) hO).2.2
theorem order_ac {n : Nt} (hn : NL n) (h : chkN n = 0) (hc : ¬Cyc (adj n)) : ∃ l, Ctr Try.prog 19 [ntv n] [] (fun r o => o = [] ∧ r = .tup [.psl 1 (nts l), .bl true]) := by
  cases hO : ord (adj n) n.ln.length with
  | none => exact absurd (ord_none (adj_chk h) hO) hc
  | some o => exact ⟨o, tOrder_some n hn h hO⟩
theorem cyc_least {n : Nt} (hn : NL n) (h : chkN n = 0) (hc : Cyc (adj n)) : ∃ c, 2 ≤ c.length ∧ (∀ L a, 0 < L → Go.Tp.Way (adj n) L a a → c.length ≤ L) ∧ Go.Tp.Way (adj n) c.length (c.getD 0 0) (c.getD 0 0) ∧ Ctr Try.prog 15 [ntv n] [] (fun r o => o = [] ∧ r = .psl 1 (nts c)) := by
  rcases cyc_cases (adj_chk h) with ⟨h1, _⟩ | ⟨c, h1, h2, h3, h4, h5⟩
  · exact absurd hc h1
  · exact ⟨c, h3, h5, h2.way (by omega) h4, (tCycle_ok n hn h).weak fun r o ⟨h5, h6⟩ => ⟨h5, by rw [h1] at h6; exact h6⟩⟩
theorem edg_none {E : Gr} {m a : Nat} (h : ∀ x y, E x y = false) : edg E m a = [] := by
  apply List.eq_nil_iff_forall_not_mem.2
  intro e he
  have := (mem_edg.1 he).2.2
  rw [h] at this
  contradiction
theorem Fewer_ok (l : List Int) (hl : l.length ≤ 9223372036854775807) (which : Int) (w0 : 0 ≤ which ∧ which ≤ 255) :
    Ctr Try.prog 8 [.psl 1 (ints l), .num .u8 which] [] (fun r o => r = .bl true) := by
  refine fn_intro (E := env 0) tys_ok rfl rfl rfl Try.func8 (by kernel_rfl) rfl (by kernel_rfl) ?_
  repeat' (conv => whnf
           first | (refine CondOb.mk (fun _ => ?_) (fun _ => ?_) <;> first | (exfalso; omega) | skip) | refine ArOb.fits (by first | omega | (simp only [ints_len] at *; omega)) ?_ | refine LitOb.vec ?_ | refine MakeOb.vec ?_ | refine AllocOb.box ?_ | refine AsgOb.vec ?_ | refine AggOb.mk (by decide +kernel) ?_ | refine ArU.fits (by first | omega | (simp only [ints_len] at *; omega)) ?_ | refine ArB.fits (by first | omega | (simp only [ints_len] at *; omega)) ?_ | refine CutOb.split ?_ | refine Gh.mk [] ?_ | refine And.intro (And.intro (by (simp only [List.length_append, List.length_take, List.length_drop, List.length_cons, List.length_nil, ints_len, List.length_replicate, lnl, fll, stl]; omega)) (by (simp only [List.length_append, List.length_take, List.length_drop, List.length_cons, List.length_nil, ints_len, List.length_replicate, lnl, fll, stl]; omega))) ?_ | refine ⟨_, _, rfl, ints_get (by first | omega | (simp only [ints_len] at *; omega)), ?_⟩ | refine ⟨_, _, (Int.toNat_of_nonneg (by first | omega | (simp only [ints_len] at *; omega))).symm, ints_get (by first | omega | (simp only [ints_len] at *; omega)), ?_⟩ | refine DrawOb.mk [] (.qs [0, 1, 2, 3, 5, 6, 7, 8, 9] (.l 4 [6] (.l 10 [] (.qs [11] (.l 12 [] .nil .no)) .no) .no)) (by decide +kernel) ?_ | refine DrawOb.mk [] (.qs [0, 2] (.l 1 [2] (.l 3 [] (.qs [4, 5] .nil) .no) .no)) (by decide +kernel) ?_ | (refine CallOb.mk [] (sane_ok) rfl (ImpL.refl _) rfl rfl ?_; rintro _ _ ⟨rfl, rfl⟩) | fail)
  all_goals try (conv => whnf)
  · rfl
  refine CallOb.mk [] (graph_ok l hl) rfl (ImpL.refl _) rfl rfl ?_
  rintro _ _ ⟨⟨k, R⟩, hG, rfl, rfl⟩
  dsimp only at hG ⊢
  have hn := hG.nl'
  have hc := hG.chk
  have hRl := hG.l
  have hfl : (fls (rtN k R).fl).length = R.length := by rw [fll, rtN_fl]
  have hfl2 : (rtN k R).fl.length = R.length := rtN_fl
  have hE := adj_chk hc
  have cE := tEdges_ok _ hn hc
  have cT := tCut_ok _ hn hc
  have h0 : R.length = 0 → edg (adj (rtN k R)) (rtN k R).ln.length (rtN k R).ln.length = [] := fun h => edg_none fun x y => by
    apply Classical.byContradiction
    intro hxy
    obtain ⟨f, hf, _⟩ := adj_true.1 (by simpa using hxy)
    have := List.length_pos_of_mem hf
    rw [rtN_fl] at this
    omega
  repeat' (conv => whnf
           first | refine ArOb.fits (by first | omega | (simp only [ints_len] at *; omega)) ?_ | refine LitOb.vec ?_ | refine MakeOb.vec ?_ | refine AllocOb.box ?_ | refine AsgOb.vec ?_ | refine AggOb.mk (by decide +kernel) ?_ | refine ArU.fits (by first | omega | (simp only [ints_len] at *; omega)) ?_ | refine ArB.fits (by first | omega | (simp only [ints_len] at *; omega)) ?_ | refine CutOb.split ?_ | refine Gh.mk [] ?_ | refine And.intro (And.intro (by (simp only [List.length_append, List.length_take, List.length_drop, List.length_cons, List.length_nil, ints_len, List.length_replicate, lnl, fll, stl]; omega)) (by (simp only [List.length_append, List.length_take, List.length_drop, List.length_cons, List.length_nil, ints_len, List.length_replicate, lnl, fll, stl]; omega))) ?_ | refine ⟨_, _, rfl, ints_get (by first | omega | (simp only [ints_len] at *; omega)), ?_⟩ | refine ⟨_, _, (Int.toNat_of_nonneg (by first | omega | (simp only [ints_len] at *; omega))).symm, ints_get (by first | omega | (simp only [ints_len] at *; omega)), ?_⟩ | refine DrawOb.mk [] (.qs [0, 1, 2, 3, 5, 6, 7, 8, 9] (.l 4 [6] (.l 10 [] (.qs [11] (.l 12 [] .nil .no)) .no) .no)) (by decide +kernel) ?_ | refine DrawOb.mk [] (.qs [0, 2] (.l 1 [2] (.l 3 [] (.qs [4, 5] .nil) .no) .no)) (by decide +kernel) ?_ | fail)
  all_goals try (conv => whnf)
  refine CondOb.mk (fun hz => ?_) (fun hz => ?_)
  · rw [h0 (by omega)] at cE cT
    rw [show (cutF []).2 = [] from rfl] at cT
    generalize rtN k R = n at *
    repeat' (conv => whnf
             first | (refine CondOb.mk (fun _ => ?_) (fun _ => ?_) <;> first | (exfalso; omega) | skip) | refine ArOb.fits (by first | omega | (simp only [ints_len] at *; omega)) ?_ | refine LitOb.vec ?_ | refine MakeOb.vec ?_ | refine AllocOb.box ?_ | refine AsgOb.vec ?_ | refine AggOb.mk (by decide +kernel) ?_ | refine ArU.fits (by first | omega | (simp only [ints_len] at *; omega)) ?_ | refine ArB.fits (by first | omega | (simp only [ints_len] at *; omega)) ?_ | refine CutOb.split ?_ | refine Gh.mk [] ?_ | refine And.intro (And.intro (by (simp only [List.length_append, List.length_take, List.length_drop, List.length_cons, List.length_nil, ints_len, List.length_replicate, lnl, fll, stl]; omega)) (by (simp only [List.length_append, List.length_take, List.length_drop, List.length_cons, List.length_nil, ints_len, List.length_replicate, lnl, fll, stl]; omega))) ?_ | refine ⟨_, _, rfl, ints_get (by first | omega | (simp only [ints_len] at *; omega)), ?_⟩ | refine ⟨_, _, (Int.toNat_of_nonneg (by first | omega | (simp only [ints_len] at *; omega))).symm, ints_get (by first | omega | (simp only [ints_len] at *; omega)), ?_⟩ | refine DrawOb.mk [] (.qs [0, 1, 2, 3, 5, 6, 7, 8, 9] (.l 4 [6] (.l 10 [] (.qs [11] (.l 12 [] .nil .no)) .no) .no)) (by decide +kernel) ?_ | refine DrawOb.mk [] (.qs [0, 2] (.l 1 [2] (.l 3 [] (.qs [4, 5] .nil) .no) .no)) (by decide +kernel) ?_ | (refine CallOb.mk [] cE rfl (ImpL.refl _) rfl rfl ?_; rintro _ _ ⟨rfl, rfl⟩) | (refine CallOb.mk [] cT rfl (ImpL.refl _) rfl rfl ?_; rintro _ _ ⟨rfl, rfl⟩) | (refine CallOb.mk [] (sane_ok) rfl (ImpL.refl _) rfl rfl ?_; rintro _ _ ⟨rfl, rfl⟩) | fail)
    all_goals try (conv => whnf)
    all_goals first
      | rfl
      | (exfalso; simp [eds] at *; done)
  have hRp : 1 ≤ R.length := by omega
  obtain ⟨i, hi, hil⟩ : ∃ i : Nat, which.tmod ((fls (rtN k R).fl).length : Int) = i ∧ i < R.length := by
    obtain ⟨e1, e2, e3⟩ := tmod_bd w0.1 (show (1 : Int) ≤ ((fls (rtN k R).fl).length : Int) by omega)
    exact ⟨(which % ((fls (rtN k R).fl).length : Int)).toNat, by omega, by omega⟩
  have hmn : NL (rmF (rtN k R) i) := nl_rm hn i
  have hmc : chkN (rmF (rtN k R) i) = 0 := chk_sub hc rfl rfl (rmF_sub _ i)
  have cEm := tEdges_ok _ hmn hmc
  have hsub : ∀ a b, adj (rmF (rtN k R) i) a b = true → adj (rtN k R) a b = true := fun a b => adj_sub (rmF_sub _ i)
  have hfr := fls_rm (rtN k R) i
  have hml : (rmF (rtN k R) i).ln.length = (rtN k R).ln.length := rfl
  have e1 : (rmF (rtN k R) i).nm = (rtN k R).nm := rfl
  have e2 : (rmF (rtN k R) i).ln = (rtN k R).ln := rfl
  have o1 := fun h => order_cyc hn hc h
  have o2 := fun h => order_ac hn hc h
  have o3 := fun h => order_cyc hmn hmc h
  have o4 := fun h => order_ac hmn hmc h
  have y1 := fun h => cyc_least hn hc h
  have y2 := fun h => cyc_none hn hc h
  have y3 := fun h => cyc_least hmn hmc h
  have y4 := fun h => cyc_none hmn hmc h
  have hmono : Cyc (adj (rmF (rtN k R) i)) → Cyc (adj (rtN k R)) := fun h => h.mono hsub
  have hmem : ∀ e, e ∈ edg (adj (rmF (rtN k R) i)) (rtN k R).ln.length (rtN k R).ln.length → e ∈ edg (adj (rtN k R)) (rtN k R).ln.length (rtN k R).ln.length := fun e he => by
    obtain ⟨p1, p2, p3⟩ := mem_edg.1 he
    exact mem_edg.2 ⟨p1, p2, hsub _ _ p3⟩
  have hkk : (rtN k R).ln.length * (rtN k R).ln.length ≤ 8 * 8 := by rw [rtN_ll]; have := hG.k2; exact Nat.mul_le_mul (by omega) (by omega)
  rw [hml] at cEm
  clear h0 cT hE
  generalize hnn : rtN k R = n at *
  generalize hmm : rmF n i = m at *
  have hd1 := edg_len (E := adj n) (m := n.ln.length) (a := n.ln.length)
  have hd2 := edg_len (E := adj m) (m := n.ln.length) (a := n.ln.length)
  have hel1 := eds_len (edg (adj n) n.ln.length n.ln.length)
  have hel2 := eds_len (edg (adj m) n.ln.length n.ln.length)
  generalize hA : edg (adj n) n.ln.length n.ln.length = A at *
  generalize hB : edg (adj m) n.ln.length n.ln.length = B at *
  have hfr2 : [] ++ List.drop 0 (List.take i (fls n.fl)) ++ List.drop (i + 1) (List.take (fls n.fl).length (fls n.fl)) = fls m.fl := by rw [← hfr, List.take_length, List.drop_zero]; rfl
  repeat' (conv => whnf
           first | (refine Gh.mk [.fa] ?_; (conv => whnf); refine CallOb.mk [] cEm rfl ⟨Imp.agg ⟨Imp.psl (by rw [e1]), Imp.psl (by rw [e2]), Imp.psl (by rw [← hfr, List.take_length, List.drop_zero]), trivial⟩, trivial⟩ rfl rfl ?_; rintro _ _ ⟨rfl, rfl⟩) | (refine CondOb.mk (fun _ => ?_) (fun _ => ?_) <;> first | (exfalso; omega) | skip) | refine ArOb.fits (by first | omega | (simp only [ints_len] at *; omega)) ?_ | refine LitOb.vec ?_ | refine MakeOb.vec ?_ | refine AllocOb.box ?_ | refine AsgOb.vec ?_ | refine AggOb.mk (by decide +kernel) ?_ | refine ArU.fits (by first | omega | (simp only [ints_len] at *; omega)) ?_ | refine ArB.fits (by first | omega | (simp only [ints_len] at *; omega)) ?_ | refine CutOb.split ?_ | refine Gh.mk [] ?_ | refine And.intro (And.intro (by (simp only [List.length_append, List.length_take, List.length_drop, List.length_cons, List.length_nil, ints_len, List.length_replicate, lnl, fll, stl]; omega)) (by (simp only [List.length_append, List.length_take, List.length_drop, List.length_cons, List.length_nil, ints_len, List.length_replicate, lnl, fll, stl]; omega))) ?_ | refine ⟨_, _, rfl, ints_get (by first | omega | (simp only [ints_len] at *; omega)), ?_⟩ | refine ⟨_, _, (Int.toNat_of_nonneg (by first | omega | (simp only [ints_len] at *; omega))).symm, ints_get (by first | omega | (simp only [ints_len] at *; omega)), ?_⟩ | refine DrawOb.mk [] (.qs [0, 1, 2, 3, 5, 6, 7, 8, 9] (.l 4 [6] (.l 10 [] (.qs [11] (.l 12 [] .nil .no)) .no) .no)) (by decide +kernel) ?_ | refine DrawOb.mk [] (.qs [0, 2] (.l 1 [2] (.l 3 [] (.qs [4, 5] .nil) .no) .no)) (by decide +kernel) ?_ | refine And.intro (by omega) ?_ | refine ⟨i, hi, ?_⟩ | refine ⟨And.intro (by omega) (by omega), ?_⟩ | refine ⟨i + 1, by omega, ?_⟩ | fail)
  all_goals try (conv => whnf)
  refine LoopOb.mk (Y := Nat) (st := fun j => ⟨[(64, i64 j), (63, i64 (eds B).length), (62, .psl 2 (eds B)), (6, .ptr 1 0), (5, .ptr 0 0)], [.box [.psl 1 (strs n.nm), .psl 5 (lns n.ln), .psl 8 (fls n.fl)], .box [.psl 1 (strs n.nm), .psl 5 (lns n.ln), .psl 8 (fls m.fl)]]⟩)
    (inv := fun j => j ≤ B.length) (fun j => B.length - j) 0 [0, 1] (by omega) (by rw [← hfr2]; (refine Le.mk (by kernel_rfl) ?_ ?_ <;> repeat' (first | exact True.intro | refine And.intro ?_ ?_ | exact Imp.refl _ | exact Imp.any _ | exact Imp.num (by first | omega | simp only [ints_len]) | exact rfl | exact Imp.bl (by simp)))) ?_
  intro j hj
  repeat' (conv => whnf
           first | refine ArOb.fits (by first | omega | (simp only [ints_len] at *; omega)) ?_ | refine LitOb.vec ?_ | refine MakeOb.vec ?_ | refine AllocOb.box ?_ | refine AsgOb.vec ?_ | refine AggOb.mk (by decide +kernel) ?_ | refine ArU.fits (by first | omega | (simp only [ints_len] at *; omega)) ?_ | refine ArB.fits (by first | omega | (simp only [ints_len] at *; omega)) ?_ | refine CutOb.split ?_ | refine Gh.mk [] ?_ | refine And.intro (And.intro (by (simp only [List.length_append, List.length_take, List.length_drop, List.length_cons, List.length_nil, ints_len, List.length_replicate, lnl, fll, stl]; omega)) (by (simp only [List.length_append, List.length_take, List.length_drop, List.length_cons, List.length_nil, ints_len, List.length_replicate, lnl, fll, stl]; omega))) ?_ | refine ⟨_, _, rfl, ints_get (by first | omega | (simp only [ints_len] at *; omega)), ?_⟩ | refine ⟨_, _, (Int.toNat_of_nonneg (by first | omega | (simp only [ints_len] at *; omega))).symm, ints_get (by first | omega | (simp only [ints_len] at *; omega)), ?_⟩ | refine DrawOb.mk [] (.qs [0, 1, 2, 3, 5, 6, 7, 8, 9] (.l 4 [6] (.l 10 [] (.qs [11] (.l 12 [] .nil .no)) .no) .no)) (by decide +kernel) ?_ | refine DrawOb.mk [] (.qs [0, 2] (.l 1 [2] (.l 3 [] (.qs [4, 5] .nil) .no) .no)) (by decide +kernel) ?_ | fail)
  all_goals try (conv => whnf)
  refine CondOb.mk (fun hlt => ?_) (fun hlt => ?_)
  · have hjl : j < B.length := by omega
    have hg := eds_get hjl
    have heA := hmem _ (ed_mem hjl)
    generalize B.getD j (0, 0) = e at *
    obtain ⟨x, y⟩ := e
    dsimp only at hg
    repeat' (conv => whnf
             first | refine ⟨j, _, rfl, hg, ?_⟩ | (refine CondOb.mk (fun _ => ?_) (fun _ => ?_) <;> first | (exfalso; omega) | skip) | refine ArOb.fits (by first | omega | (simp only [ints_len] at *; omega)) ?_ | refine LitOb.vec ?_ | refine MakeOb.vec ?_ | refine AllocOb.box ?_ | refine AsgOb.vec ?_ | refine AggOb.mk (by decide +kernel) ?_ | refine ArU.fits (by first | omega | (simp only [ints_len] at *; omega)) ?_ | refine ArB.fits (by first | omega | (simp only [ints_len] at *; omega)) ?_ | refine CutOb.split ?_ | refine Gh.mk [] ?_ | refine And.intro (And.intro (by (simp only [List.length_append, List.length_take, List.length_drop, List.length_cons, List.length_nil, ints_len, List.length_replicate, lnl, fll, stl]; omega)) (by (simp only [List.length_append, List.length_take, List.length_drop, List.length_cons, List.length_nil, ints_len, List.length_replicate, lnl, fll, stl]; omega))) ?_ | refine ⟨_, _, rfl, ints_get (by first | omega | (simp only [ints_len] at *; omega)), ?_⟩ | refine ⟨_, _, (Int.toNat_of_nonneg (by first | omega | (simp only [ints_len] at *; omega))).symm, ints_get (by first | omega | (simp only [ints_len] at *; omega)), ?_⟩ | refine DrawOb.mk [] (.qs [0, 1, 2, 3, 5, 6, 7, 8, 9] (.l 4 [6] (.l 10 [] (.qs [11] (.l 12 [] .nil .no)) .no) .no)) (by decide +kernel) ?_ | refine DrawOb.mk [] (.qs [0, 2] (.l 1 [2] (.l 3 [] (.qs [4, 5] .nil) .no) .no)) (by decide +kernel) ?_ | (refine CallOb.mk [] cE rfl (ImpL.refl _) rfl rfl ?_; rintro _ _ ⟨rfl, rfl⟩) | fail)
    all_goals try (conv => whnf)
    refine LoopOb.mk (Y := Nat) (st := fun t => ⟨[(71, i64 t), (70, i64 (eds A).length), (69, .psl 2 (eds A)), (10, .bp ((x, y) ∈ A.take t)), (9, .ptr 2 0), (64, i64 j), (63, i64 (eds B).length), (62, .psl 2 (eds B)), (6, .ptr 1 0), (5, .ptr 0 0)], [.box [.psl 1 (strs n.nm), .psl 5 (lns n.ln), .psl 8 (fls n.fl)], .box [.psl 1 (strs n.nm), .psl 5 (lns n.ln), .psl 8 (fls m.fl)], .box [i64 x, i64 y]]⟩)
      (inv := fun t => t ≤ A.length) (fun t => A.length - t) 0 [0, 1, 2] (by omega) (by (refine Le.mk (by kernel_rfl) ?_ ?_ <;> repeat' (first | exact True.intro | refine And.intro ?_ ?_ | exact Imp.refl _ | exact Imp.any _ | exact Imp.num (by first | omega | simp only [ints_len]) | exact rfl | exact Imp.bl (by simp)))) ?_
    intro t ht
    repeat' (conv => whnf
             first | refine ArOb.fits (by first | omega | (simp only [ints_len] at *; omega)) ?_ | refine LitOb.vec ?_ | refine MakeOb.vec ?_ | refine AllocOb.box ?_ | refine AsgOb.vec ?_ | refine AggOb.mk (by decide +kernel) ?_ | refine ArU.fits (by first | omega | (simp only [ints_len] at *; omega)) ?_ | refine ArB.fits (by first | omega | (simp only [ints_len] at *; omega)) ?_ | refine CutOb.split ?_ | refine Gh.mk [] ?_ | refine And.intro (And.intro (by (simp only [List.length_append, List.length_take, List.length_drop, List.length_cons, List.length_nil, ints_len, List.length_replicate, lnl, fll, stl]; omega)) (by (simp only [List.length_append, List.length_take, List.length_drop, List.length_cons, List.length_nil, ints_len, List.length_replicate, lnl, fll, stl]; omega))) ?_ | refine ⟨_, _, rfl, ints_get (by first | omega | (simp only [ints_len] at *; omega)), ?_⟩ | refine ⟨_, _, (Int.toNat_of_nonneg (by first | omega | (simp only [ints_len] at *; omega))).symm, ints_get (by first | omega | (simp only [ints_len] at *; omega)), ?_⟩ | refine DrawOb.mk [] (.qs [0, 1, 2, 3, 5, 6, 7, 8, 9] (.l 4 [6] (.l 10 [] (.qs [11] (.l 12 [] .nil .no)) .no) .no)) (by decide +kernel) ?_ | refine DrawOb.mk [] (.qs [0, 2] (.l 1 [2] (.l 3 [] (.qs [4, 5] .nil) .no) .no)) (by decide +kernel) ?_ | fail)
    all_goals try (conv => whnf)
    refine CondOb.mk (fun hlt2 => ?_) (fun hlt2 => ?_)
    · have htl : t < A.length := by omega
      have hg2 := eds_get htl
      have hst := take_ed htl
      generalize A.getD t (0, 0) = e at *
      obtain ⟨u, v⟩ := e
      dsimp only at hg2
      repeat' (conv => whnf
               first | refine ⟨t, _, rfl, hg2, ?_⟩ | (refine CondOb.mk (fun _ => ?_) (fun _ => ?_) <;> first | (exfalso; omega) | skip) | refine ArOb.fits (by first | omega | (simp only [ints_len] at *; omega)) ?_ | refine LitOb.vec ?_ | refine MakeOb.vec ?_ | refine AllocOb.box ?_ | refine AsgOb.vec ?_ | refine AggOb.mk (by decide +kernel) ?_ | refine ArU.fits (by first | omega | (simp only [ints_len] at *; omega)) ?_ | refine ArB.fits (by first | omega | (simp only [ints_len] at *; omega)) ?_ | refine CutOb.split ?_ | refine Gh.mk [] ?_ | refine And.intro (And.intro (by (simp only [List.length_append, List.length_take, List.length_drop, List.length_cons, List.length_nil, ints_len, List.length_replicate, lnl, fll, stl]; omega)) (by (simp only [List.length_append, List.length_take, List.length_drop, List.length_cons, List.length_nil, ints_len, List.length_replicate, lnl, fll, stl]; omega))) ?_ | refine ⟨_, _, rfl, ints_get (by first | omega | (simp only [ints_len] at *; omega)), ?_⟩ | refine ⟨_, _, (Int.toNat_of_nonneg (by first | omega | (simp only [ints_len] at *; omega))).symm, ints_get (by first | omega | (simp only [ints_len] at *; omega)), ?_⟩ | refine DrawOb.mk [] (.qs [0, 1, 2, 3, 5, 6, 7, 8, 9] (.l 4 [6] (.l 10 [] (.qs [11] (.l 12 [] .nil .no)) .no) .no)) (by decide +kernel) ?_ | refine DrawOb.mk [] (.qs [0, 2] (.l 1 [2] (.l 3 [] (.qs [4, 5] .nil) .no) .no)) (by decide +kernel) ?_ | fail)
      all_goals try (conv => whnf)
      all_goals refine ⟨t + 1, [0, 1, 2], by omega, by omega, ?_⟩
      all_goals refine Le.mk (by kernel_rfl) ?_ ?_ <;> repeat' (first | exact True.intro | refine And.intro ?_ ?_ | exact Imp.refl _ | exact Imp.any _ | exact Imp.num (by first | omega | simp only [ints_len]) | exact rfl | refine Imp.bl ?_ | refine Imp.bp ?_)
      all_goals rw [hst, List.mem_append, List.mem_singleton]
      · simp [*]
      · rw [conj2]; simp [*]
    · have htl : t = A.length := by omega
      subst htl
      rw [List.take_length]
      repeat' (conv => whnf
               first | (refine CondOb.mk (fun _ => ?_) (fun _ => ?_) <;> first | (exfalso; omega) | skip) | refine ArOb.fits (by first | omega | (simp only [ints_len] at *; omega)) ?_ | refine LitOb.vec ?_ | refine MakeOb.vec ?_ | refine AllocOb.box ?_ | refine AsgOb.vec ?_ | refine AggOb.mk (by decide +kernel) ?_ | refine ArU.fits (by first | omega | (simp only [ints_len] at *; omega)) ?_ | refine ArB.fits (by first | omega | (simp only [ints_len] at *; omega)) ?_ | refine CutOb.split ?_ | refine Gh.mk [] ?_ | refine And.intro (And.intro (by (simp only [List.length_append, List.length_take, List.length_drop, List.length_cons, List.length_nil, ints_len, List.length_replicate, lnl, fll, stl]; omega)) (by (simp only [List.length_append, List.length_take, List.length_drop, List.length_cons, List.length_nil, ints_len, List.length_replicate, lnl, fll, stl]; omega))) ?_ | refine ⟨_, _, rfl, ints_get (by first | omega | (simp only [ints_len] at *; omega)), ?_⟩ | refine ⟨_, _, (Int.toNat_of_nonneg (by first | omega | (simp only [ints_len] at *; omega))).symm, ints_get (by first | omega | (simp only [ints_len] at *; omega)), ?_⟩ | refine DrawOb.mk [] (.qs [0, 1, 2, 3, 5, 6, 7, 8, 9] (.l 4 [6] (.l 10 [] (.qs [11] (.l 12 [] .nil .no)) .no) .no)) (by decide +kernel) ?_ | refine DrawOb.mk [] (.qs [0, 2] (.l 1 [2] (.l 3 [] (.qs [4, 5] .nil) .no) .no)) (by decide +kernel) ?_ | fail)
      all_goals try (conv => whnf)
      all_goals first
        | exact ⟨j + 1, [0, 1], by omega, by omega, by (refine Le.mk (by kernel_rfl) ?_ ?_ <;> repeat' (first | exact True.intro | refine And.intro ?_ ?_ | exact Imp.refl _ | exact Imp.any _ | exact Imp.num (by first | omega | simp only [ints_len]) | exact rfl | exact Imp.bl (by simp)))⟩
        | exact absurd heA (by assumption)
        | trace_state
  · have hAg : ntv m = .agg [.psl 1 (strs n.nm), .psl 5 (lns n.ln), .psl 8 (fls m.fl)] := by dsimp only [ntv]; rw [e1, e2]
    have hfin : (Cyc (adj m) → Cyc (adj n)) := hmono
    rw [hAg] at o3 o4 y3 y4
    by_cases hcn : Cyc (adj n)
    · obtain ⟨c, c1, c2, c3, yn⟩ := y1 hcn
      have on := o1 hcn
      have hcl := nts_len c
      by_cases hcm : Cyc (adj m)
      · obtain ⟨d, d1, d2, d3, ym⟩ := y3 hcm
        have om := o3 hcm
        have hdl := nts_len d
        have hcd := c2 d.length _ (by omega) (d3.mono hsub)
        clear o1 o2 o3 o4 y1 y2 y3 y4
        repeat' (conv => whnf
                 first | (refine CondOb.mk (fun _ => ?_) (fun _ => ?_) <;> first | (exfalso; omega) | skip) | refine ArOb.fits (by first | omega | (simp only [ints_len] at *; omega)) ?_ | refine LitOb.vec ?_ | refine MakeOb.vec ?_ | refine AllocOb.box ?_ | refine AsgOb.vec ?_ | refine AggOb.mk (by decide +kernel) ?_ | refine ArU.fits (by first | omega | (simp only [ints_len] at *; omega)) ?_ | refine ArB.fits (by first | omega | (simp only [ints_len] at *; omega)) ?_ | refine CutOb.split ?_ | refine Gh.mk [] ?_ | refine And.intro (And.intro (by (simp only [List.length_append, List.length_take, List.length_drop, List.length_cons, List.length_nil, ints_len, List.length_replicate, lnl, fll, stl]; omega)) (by (simp only [List.length_append, List.length_take, List.length_drop, List.length_cons, List.length_nil, ints_len, List.length_replicate, lnl, fll, stl]; omega))) ?_ | refine ⟨_, _, rfl, ints_get (by first | omega | (simp only [ints_len] at *; omega)), ?_⟩ | refine ⟨_, _, (Int.toNat_of_nonneg (by first | omega | (simp only [ints_len] at *; omega))).symm, ints_get (by first | omega | (simp only [ints_len] at *; omega)), ?_⟩ | refine DrawOb.mk [] (.qs [0, 1, 2, 3, 5, 6, 7, 8, 9] (.l 4 [6] (.l 10 [] (.qs [11] (.l 12 [] .nil .no)) .no) .no)) (by decide +kernel) ?_ | refine DrawOb.mk [] (.qs [0, 2] (.l 1 [2] (.l 3 [] (.qs [4, 5] .nil) .no) .no)) (by decide +kernel) ?_ | (refine CallOb.mk [] on rfl (ImpL.refl _) rfl rfl ?_; rintro _ _ ⟨rfl, rfl⟩) | (refine CallOb.mk [] om rfl (ImpL.refl _) rfl rfl ?_; rintro _ _ ⟨rfl, rfl⟩) | (refine CallOb.mk [] yn rfl (ImpL.refl _) rfl rfl ?_; rintro _ _ ⟨rfl, rfl⟩) | (refine CallOb.mk [] ym rfl (ImpL.refl _) rfl rfl ?_; rintro _ _ ⟨rfl, rfl⟩) | (refine CallOb.mk [] (sane_ok) rfl (ImpL.refl _) rfl rfl ?_; rintro _ _ ⟨rfl, rfl⟩) | fail)
        all_goals try (conv => whnf)
        all_goals first
          | rfl
          | (exfalso; omega)
          | (exfalso; simp only [List.length_nil] at *; omega)
      · obtain ⟨lm, om⟩ := o4 hcm
        have ym := y4 hcm
        clear o1 o2 o3 o4 y1 y2 y3 y4
        repeat' (conv => whnf
                 first | (refine CondOb.mk (fun _ => ?_) (fun _ => ?_) <;> first | (exfalso; omega) | skip) | refine ArOb.fits (by first | omega | (simp only [ints_len] at *; omega)) ?_ | refine LitOb.vec ?_ | refine MakeOb.vec ?_ | refine AllocOb.box ?_ | refine AsgOb.vec ?_ | refine AggOb.mk (by decide +kernel) ?_ | refine ArU.fits (by first | omega | (simp only [ints_len] at *; omega)) ?_ | refine ArB.fits (by first | omega | (simp only [ints_len] at *; omega)) ?_ | refine CutOb.split ?_ | refine Gh.mk [] ?_ | refine And.intro (And.intro (by (simp only [List.length_append, List.length_take, List.length_drop, List.length_cons, List.length_nil, ints_len, List.length_replicate, lnl, fll, stl]; omega)) (by (simp only [List.length_append, List.length_take, List.length_drop, List.length_cons, List.length_nil, ints_len, List.length_replicate, lnl, fll, stl]; omega))) ?_ | refine ⟨_, _, rfl, ints_get (by first | omega | (simp only [ints_len] at *; omega)), ?_⟩ | refine ⟨_, _, (Int.toNat_of_nonneg (by first | omega | (simp only [ints_len] at *; omega))).symm, ints_get (by first | omega | (simp only [ints_len] at *; omega)), ?_⟩ | refine DrawOb.mk [] (.qs [0, 1, 2, 3, 5, 6, 7, 8, 9] (.l 4 [6] (.l 10 [] (.qs [11] (.l 12 [] .nil .no)) .no) .no)) (by decide +kernel) ?_ | refine DrawOb.mk [] (.qs [0, 2] (.l 1 [2] (.l 3 [] (.qs [4, 5] .nil) .no) .no)) (by decide +kernel) ?_ | (refine CallOb.mk [] on rfl (ImpL.refl _) rfl rfl ?_; rintro _ _ ⟨rfl, rfl⟩) | (refine CallOb.mk [] om rfl (ImpL.refl _) rfl rfl ?_; rintro _ _ ⟨rfl, rfl⟩) | (refine CallOb.mk [] yn rfl (ImpL.refl _) rfl rfl ?_; rintro _ _ ⟨rfl, rfl⟩) | (refine CallOb.mk [] ym rfl (ImpL.refl _) rfl rfl ?_; rintro _ _ ⟨rfl, rfl⟩) | (refine CallOb.mk [] (sane_ok) rfl (ImpL.refl _) rfl rfl ?_; rintro _ _ ⟨rfl, rfl⟩) | fail)
        all_goals try (conv => whnf)
        all_goals first
          | rfl
          | (exfalso; omega)
          | (exfalso; simp only [List.length_nil] at *; omega)
    · have hcm : ¬Cyc (adj m) := fun h => hcn (hmono h)
      obtain ⟨ln', on⟩ := o2 hcn
      obtain ⟨lm, om⟩ := o4 hcm
      have yn := y2 hcn
      have ym := y4 hcm
      clear o1 o2 o3 o4 y1 y2 y3 y4
      repeat' (conv => whnf
               first | (refine CondOb.mk (fun _ => ?_) (fun _ => ?_) <;> first | (exfalso; omega) | skip) | refine ArOb.fits (by first | omega | (simp only [ints_len] at *; omega)) ?_ | refine LitOb.vec ?_ | refine MakeOb.vec ?_ | refine AllocOb.box ?_ | refine AsgOb.vec ?_ | refine AggOb.mk (by decide +kernel) ?_ | refine ArU.fits (by first | omega | (simp only [ints_len] at *; omega)) ?_ | refine ArB.fits (by first | omega | (simp only [ints_len] at *; omega)) ?_ | refine CutOb.split ?_ | refine Gh.mk [] ?_ | refine And.intro (And.intro (by (simp only [List.length_append, List.length_take, List.length_drop, List.length_cons, List.length_nil, ints_len, List.length_replicate, lnl, fll, stl]; omega)) (by (simp only [List.length_append, List.length_take, List.length_drop, List.length_cons, List.length_nil, ints_len, List.length_replicate, lnl, fll, stl]; omega))) ?_ | refine ⟨_, _, rfl, ints_get (by first | omega | (simp only [ints_len] at *; omega)), ?_⟩ | refine ⟨_, _, (Int.toNat_of_nonneg (by first | omega | (simp only [ints_len] at *; omega))).symm, ints_get (by first | omega | (simp only [ints_len] at *; omega)), ?_⟩ | refine DrawOb.mk [] (.qs [0, 1, 2, 3, 5, 6, 7, 8, 9] (.l 4 [6] (.l 10 [] (.qs [11] (.l 12 [] .nil .no)) .no) .no)) (by decide +kernel) ?_ | refine DrawOb.mk [] (.qs [0, 2] (.l 1 [2] (.l 3 [] (.qs [4, 5] .nil) .no) .no)) (by decide +kernel) ?_ | (refine CallOb.mk [] on rfl (ImpL.refl _) rfl rfl ?_; rintro _ _ ⟨rfl, rfl⟩) | (refine CallOb.mk [] om rfl (ImpL.refl _) rfl rfl ?_; rintro _ _ ⟨rfl, rfl⟩) | (refine CallOb.mk [] yn rfl (ImpL.refl _) rfl rfl ?_; rintro _ _ ⟨rfl, rfl⟩) | (refine CallOb.mk [] ym rfl (ImpL.refl _) rfl rfl ?_; rintro _ _ ⟨rfl, rfl⟩) | (refine CallOb.mk [] (sane_ok) rfl (ImpL.refl _) rfl rfl ?_; rintro _ _ ⟨rfl, rfl⟩) | fail)
      all_goals try (conv => whnf)
      all_goals first
        | rfl
        | (exfalso; omega)
        | (exfalso; simp only [List.length_nil] at *; omega)
end Go.Proofs.Ytnlmmjmcackgjaa
