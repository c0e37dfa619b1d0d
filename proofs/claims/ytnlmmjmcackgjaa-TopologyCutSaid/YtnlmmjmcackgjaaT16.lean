/-
  A text of the proofs of this seat: lemmas that the statements' proofs use; it states nothing of the program by itself beyond the contracts that its theorems bear. Conditions: those that stand in each theorem. Its short name: T16.
-/
import Derived.Test.YtnlmmjmcackgjaaT15
set_option linter.unusedVariables false
set_option linter.unusedSimpArgs false
namespace Go.Proofs.Ytnlmmjmcackgjaa
open Go.Sx Go.Np Go.Tp
set_option maxRecDepth 4000
set_option maxHeartbeats 2000000
/- edges as routes of two lines -/
abbrev edR (l : List Ed) : List (List Int) := l.map fun e => [(e.1 : Int), (e.2 : Int)]
abbrev rwf (l : List Ed) : List (List SV) := l.map fun e => [.ful 1 [[i64 e.1], [i64 e.2]]]
theorem rwf_len (l : List Ed) : (rwf l).length = l.length := by simp [rwf]
theorem rwf_app (l l' : List Ed) : rwf (l ++ l') = rwf l ++ rwf l' := by simp [rwf]
theorem edR_len (l : List Ed) : (edR l).length = l.length := by simp [edR]
theorem rwf_imp : ∀ l : List Ed, ImpR (rwf l) (rws (edR l))
  | [] => trivial
  | _ :: l => ⟨⟨Imp.fulp rfl, trivial⟩, rwf_imp l⟩
theorem edR_get {l : List Ed} {i : Nat} (h : i < l.length) : (edR l).getD i [] = [((l.getD i (0, 0)).1 : Int), ((l.getD i (0, 0)).2 : Int)] := by simp [edR, List.getD_eq_getElem?_getD, h]
theorem edR_rt {k : Nat} {l : List Ed} (h : ∀ e ∈ l, e.1 < k ∧ e.2 < k ∧ e.1 ≠ e.2) : ∀ i, i < (edR l).length → RtI k ((edR l).getD i []) := by
  intro i hi
  rw [edR_len] at hi
  rw [edR_get hi]
  have := h _ (ed_mem hi)
  refine rti_of (by simp) (by simp) (fun x hx => ?_) (by simp only [List.nodup_cons, List.mem_singleton, List.not_mem_nil, not_false_eq_true, List.nodup_nil, and_true]; omega)
  simp only [List.mem_cons, List.not_mem_nil, or_false] at hx
  omega
theorem edR_adj {k : Nat} {l : List Ed} : adj (rtN k (edR l)) = has l := by
  funext a b
  rw [Bool.eq_iff_iff, rtN_adj, has_true, edR_len]
  constructor
  · rintro ⟨i, hi, h, h1, h2, h3, h4⟩
    rw [edR_get hi] at h2 h3 h4
    have : h = 1 := by simp only [List.length_cons, List.length_nil] at h2; omega
    subst this
    have e1 : (l.getD i (0, 0)).1 = a := by have : (((l.getD i (0, 0)).1 : Nat) : Int) = a := h3; omega
    have e2 : (l.getD i (0, 0)).2 = b := by have : (((l.getD i (0, 0)).2 : Nat) : Int) = b := h4; omega
    have hm := ed_mem hi
    rw [show l.getD i (0, 0) = (a, b) from Prod.ext e1 e2] at hm
    exact hm
  · intro hm
    obtain ⟨i, hi, e⟩ := List.mem_iff_getElem.1 hm
    have e2 : l.getD i (0, 0) = (a, b) := by rw [List.getD_eq_getElem?_getD, List.getElem?_eq_getElem hi]; exact e
    refine ⟨i, hi, 1, by omega, ?_, ?_, ?_⟩
    · rw [edR_get hi]; simp
    · rw [edR_get hi, e2]; rfl
    · rw [edR_get hi, e2]; rfl
theorem edR_nl {k : Nat} (hk : k ≤ 8) {l : List Ed} (hl : l.length ≤ 20) : NL (rtN k (edR l)) := GrG.nl hk (by rw [edR_len]; exact hl) fun r hr => by
  obtain ⟨e, _, rfl⟩ := List.mem_map.1 hr
  simp
theorem TCut_ok (l : List Int) (hl : l.length ≤ 9223372036854775807) :
    Ctr Try.prog 6 [.psl 1 (ints l)] [] (fun r o => r = .bl true) := by
  refine fn_intro (E := env 0) tys_ok rfl rfl rfl Try.func6 (by kernel_rfl) rfl (by kernel_rfl) ?_
  repeat' (conv => whnf
           first | (refine CondOb.mk (fun _ => ?_) (fun _ => ?_) <;> first | (exfalso; omega) | skip) | refine ArOb.fits (by first | omega | (simp only [ints_len] at *; omega)) ?_ | refine LitOb.vec ?_ | refine MakeOb.vec ?_ | refine AllocOb.box ?_ | refine AsgOb.vec ?_ | refine AggOb.mk (by decide +kernel) ?_ | refine ArU.fits (by first | omega | (simp only [ints_len] at *; omega)) ?_ | refine ArB.fits (by first | omega | (simp only [ints_len] at *; omega)) ?_ | refine CutOb.split ?_ | refine Gh.mk [] ?_ | refine And.intro (And.intro (by (simp only [List.length_append, List.length_take, List.length_drop, List.length_cons, List.length_nil, ints_len, List.length_replicate, lnl, fll, stl]; omega)) (by (simp only [List.length_append, List.length_take, List.length_drop, List.length_cons, List.length_nil, ints_len, List.length_replicate, lnl, fll, stl]; omega))) ?_ | refine ⟨_, _, rfl, ints_get (by first | omega | (simp only [ints_len] at *; omega)), ?_⟩ | refine ⟨_, _, (Int.toNat_of_nonneg (by first | omega | (simp only [ints_len] at *; omega))).symm, ints_get (by first | omega | (simp only [ints_len] at *; omega)), ?_⟩ | (refine CallOb.mk [] (sane_ok) rfl (ImpL.refl _) rfl rfl ?_; rintro _ _ ⟨rfl, rfl⟩) | fail)
  all_goals try (conv => whnf)
  · rfl
  refine CallOb.mk [] (graph_ok l hl) rfl (ImpL.refl _) rfl rfl ?_
  rintro _ _ ⟨⟨k, R⟩, hG, rfl, rfl⟩
  dsimp only at hG ⊢
  have hn := hG.nl'
  have hc := hG.chk
  have hk1 := hG.k1
  have hk2 := hG.k2
  have hln : (lns (rtN k R).ln).length = k := by rw [lnl, rtN_ll]
  have hE := adj_chk hc
  have cE := tEdges_ok _ hn hc
  have cT := tCut_ok _ hn hc
  have y1 := fun h => cyc_pos hn hc h
  have y2 := fun h => cyc_none hn hc h
  rw [rtN_ll] at *
  generalize rtN k R = n at *
  generalize adj n = E at *
  have hP := cutF_ok (edg E k k)
  have hkn := hP.k edg_nodup
  have hAm : ∀ e, e ∈ edg E k k ↔ E e.1 e.2 = true := fun e => by
    rw [mem_edg]
    exact ⟨fun h => h.2.2, fun h => ⟨(hE.b _ _ h).1, (hE.b _ _ h).2, h⟩⟩
  have hel := eds_len (edg E k k)
  have hed := edg_len (E := E) (m := k) (a := k)
  have hkk : k * k ≤ 8 * 8 := Nat.mul_le_mul (by omega) (by omega)
  generalize edg E k k = A at *
  generalize cutF A = KO at *
  obtain ⟨K, O⟩ := KO
  dsimp only at cT hkn
  have hac := hP.ac
  have hoo := hP.o
  have hmm := hP.m
  have hnn := hP.n
  dsimp only at hac hoo hmm hnn
  have hol := eds_len O
  repeat' (conv => whnf
           first | (refine CondOb.mk (fun _ => ?_) (fun _ => ?_) <;> first | (exfalso; omega) | skip) | refine ArOb.fits (by first | omega | (simp only [ints_len] at *; omega)) ?_ | refine LitOb.vec ?_ | refine MakeOb.vec ?_ | refine AllocOb.box ?_ | refine AsgOb.vec ?_ | refine AggOb.mk (by decide +kernel) ?_ | refine ArU.fits (by first | omega | (simp only [ints_len] at *; omega)) ?_ | refine ArB.fits (by first | omega | (simp only [ints_len] at *; omega)) ?_ | refine CutOb.split ?_ | refine Gh.mk [] ?_ | refine And.intro (And.intro (by (simp only [List.length_append, List.length_take, List.length_drop, List.length_cons, List.length_nil, ints_len, List.length_replicate, lnl, fll, stl]; omega)) (by (simp only [List.length_append, List.length_take, List.length_drop, List.length_cons, List.length_nil, ints_len, List.length_replicate, lnl, fll, stl]; omega))) ?_ | refine ⟨_, _, rfl, ints_get (by first | omega | (simp only [ints_len] at *; omega)), ?_⟩ | refine ⟨_, _, (Int.toNat_of_nonneg (by first | omega | (simp only [ints_len] at *; omega))).symm, ints_get (by first | omega | (simp only [ints_len] at *; omega)), ?_⟩ | (refine CallOb.mk [] cT rfl (ImpL.refl _) rfl rfl ?_; rintro _ _ ⟨rfl, rfl⟩) | (refine CallOb.mk [] cE rfl (ImpL.refl _) rfl rfl ?_; rintro _ _ ⟨rfl, rfl⟩) | fail)
  all_goals try (conv => whnf)
  refine LoopOb.mk (Y := Nat) (st := fun j => ⟨[(28, i64 j), (27, i64 (eds A).length), (26, .psl 2 (eds A)), (5, .vec 1), (4, .psl 2 (eds O)), (3, .ptr 0 0)], [.box [.psl 1 (strs n.nm), .psl 5 (lns n.ln), .psl 8 (fls n.fl)], .vec 1 (rwf ((A.take j).filter fun e => decide (e ∉ O)))]⟩)
    (inv := fun j => j ≤ A.length) (fun j => A.length - j) 0 [0, 1] (by omega) (by (refine Le.mk (by kernel_rfl) ?_ ?_ <;> repeat' (first | exact True.intro | refine And.intro ?_ ?_ | exact Imp.refl _ | exact Imp.any _ | exact Imp.num (by first | omega | simp only [ints_len]) | exact rfl | exact Imp.bl (by simp)))) ?_
  intro j hj
  have hrl := rwf_len ((A.take j).filter fun e => decide (e ∉ O))
  have hfl := List.length_filter_le (fun e => decide (e ∉ O)) (A.take j)
  rw [List.length_take] at hfl
  repeat' (conv => whnf
           first | refine ArOb.fits (by first | omega | (simp only [ints_len] at *; omega)) ?_ | refine LitOb.vec ?_ | refine MakeOb.vec ?_ | refine AllocOb.box ?_ | refine AsgOb.vec ?_ | refine AggOb.mk (by decide +kernel) ?_ | refine ArU.fits (by first | omega | (simp only [ints_len] at *; omega)) ?_ | refine ArB.fits (by first | omega | (simp only [ints_len] at *; omega)) ?_ | refine CutOb.split ?_ | refine Gh.mk [] ?_ | refine And.intro (And.intro (by (simp only [List.length_append, List.length_take, List.length_drop, List.length_cons, List.length_nil, ints_len, List.length_replicate, lnl, fll, stl]; omega)) (by (simp only [List.length_append, List.length_take, List.length_drop, List.length_cons, List.length_nil, ints_len, List.length_replicate, lnl, fll, stl]; omega))) ?_ | refine ⟨_, _, rfl, ints_get (by first | omega | (simp only [ints_len] at *; omega)), ?_⟩ | refine ⟨_, _, (Int.toNat_of_nonneg (by first | omega | (simp only [ints_len] at *; omega))).symm, ints_get (by first | omega | (simp only [ints_len] at *; omega)), ?_⟩ | fail)
  all_goals try (conv => whnf)
  refine CondOb.mk (fun hlt => ?_) (fun hlt => ?_)
  · have hjl : j < A.length := by omega
    have hg := eds_get hjl
    have hstA := take_ed hjl
    generalize A.getD j (0, 0) = e at *
    obtain ⟨x, y⟩ := e
    dsimp only at hg
    repeat' (conv => whnf
             first | refine ⟨j, _, rfl, hg, ?_⟩ | (refine CondOb.mk (fun _ => ?_) (fun _ => ?_) <;> first | (exfalso; omega) | skip) | refine ArOb.fits (by first | omega | (simp only [ints_len] at *; omega)) ?_ | refine LitOb.vec ?_ | refine MakeOb.vec ?_ | refine AllocOb.box ?_ | refine AsgOb.vec ?_ | refine AggOb.mk (by decide +kernel) ?_ | refine ArU.fits (by first | omega | (simp only [ints_len] at *; omega)) ?_ | refine ArB.fits (by first | omega | (simp only [ints_len] at *; omega)) ?_ | refine CutOb.split ?_ | refine Gh.mk [] ?_ | refine And.intro (And.intro (by (simp only [List.length_append, List.length_take, List.length_drop, List.length_cons, List.length_nil, ints_len, List.length_replicate, lnl, fll, stl]; omega)) (by (simp only [List.length_append, List.length_take, List.length_drop, List.length_cons, List.length_nil, ints_len, List.length_replicate, lnl, fll, stl]; omega))) ?_ | refine ⟨_, _, rfl, ints_get (by first | omega | (simp only [ints_len] at *; omega)), ?_⟩ | refine ⟨_, _, (Int.toNat_of_nonneg (by first | omega | (simp only [ints_len] at *; omega))).symm, ints_get (by first | omega | (simp only [ints_len] at *; omega)), ?_⟩ | fail)
    all_goals try (conv => whnf)
    refine LoopOb.mk (Y := Nat) (st := fun t => ⟨[(34, i64 t), (33, i64 (eds O).length), (32, .psl 2 (eds O)), (8, .bp ((x, y) ∈ O.take t)), (7, .ptr 2 0), (28, i64 j), (27, i64 (eds A).length), (26, .psl 2 (eds A)), (5, .vec 1), (4, .psl 2 (eds O)), (3, .ptr 0 0)], [.box [.psl 1 (strs n.nm), .psl 5 (lns n.ln), .psl 8 (fls n.fl)], .vec 1 (rwf ((A.take j).filter fun e => decide (e ∉ O))), .box [i64 x, i64 y]]⟩)
      (inv := fun t => t ≤ O.length) (fun t => O.length - t) 0 [0, 1, 2] (by omega) (by (refine Le.mk (by kernel_rfl) ?_ ?_ <;> repeat' (first | exact True.intro | refine And.intro ?_ ?_ | exact Imp.refl _ | exact Imp.any _ | exact Imp.num (by first | omega | simp only [ints_len]) | exact rfl | exact Imp.bl (by simp)))) ?_
    intro t ht
    repeat' (conv => whnf
             first | refine ArOb.fits (by first | omega | (simp only [ints_len] at *; omega)) ?_ | refine LitOb.vec ?_ | refine MakeOb.vec ?_ | refine AllocOb.box ?_ | refine AsgOb.vec ?_ | refine AggOb.mk (by decide +kernel) ?_ | refine ArU.fits (by first | omega | (simp only [ints_len] at *; omega)) ?_ | refine ArB.fits (by first | omega | (simp only [ints_len] at *; omega)) ?_ | refine CutOb.split ?_ | refine Gh.mk [] ?_ | refine And.intro (And.intro (by (simp only [List.length_append, List.length_take, List.length_drop, List.length_cons, List.length_nil, ints_len, List.length_replicate, lnl, fll, stl]; omega)) (by (simp only [List.length_append, List.length_take, List.length_drop, List.length_cons, List.length_nil, ints_len, List.length_replicate, lnl, fll, stl]; omega))) ?_ | refine ⟨_, _, rfl, ints_get (by first | omega | (simp only [ints_len] at *; omega)), ?_⟩ | refine ⟨_, _, (Int.toNat_of_nonneg (by first | omega | (simp only [ints_len] at *; omega))).symm, ints_get (by first | omega | (simp only [ints_len] at *; omega)), ?_⟩ | fail)
    all_goals try (conv => whnf)
    refine CondOb.mk (fun hlt2 => ?_) (fun hlt2 => ?_)
    · have htl : t < O.length := by omega
      have hg2 := eds_get htl
      have hst := take_ed htl
      generalize O.getD t (0, 0) = e at *
      obtain ⟨u, v⟩ := e
      dsimp only at hg2
      repeat' (conv => whnf
               first | refine ⟨t, _, rfl, hg2, ?_⟩ | (refine CondOb.mk (fun _ => ?_) (fun _ => ?_) <;> first | (exfalso; omega) | skip) | refine ArOb.fits (by first | omega | (simp only [ints_len] at *; omega)) ?_ | refine LitOb.vec ?_ | refine MakeOb.vec ?_ | refine AllocOb.box ?_ | refine AsgOb.vec ?_ | refine AggOb.mk (by decide +kernel) ?_ | refine ArU.fits (by first | omega | (simp only [ints_len] at *; omega)) ?_ | refine ArB.fits (by first | omega | (simp only [ints_len] at *; omega)) ?_ | refine CutOb.split ?_ | refine Gh.mk [] ?_ | refine And.intro (And.intro (by (simp only [List.length_append, List.length_take, List.length_drop, List.length_cons, List.length_nil, ints_len, List.length_replicate, lnl, fll, stl]; omega)) (by (simp only [List.length_append, List.length_take, List.length_drop, List.length_cons, List.length_nil, ints_len, List.length_replicate, lnl, fll, stl]; omega))) ?_ | refine ⟨_, _, rfl, ints_get (by first | omega | (simp only [ints_len] at *; omega)), ?_⟩ | refine ⟨_, _, (Int.toNat_of_nonneg (by first | omega | (simp only [ints_len] at *; omega))).symm, ints_get (by first | omega | (simp only [ints_len] at *; omega)), ?_⟩ | fail)
      all_goals try (conv => whnf)
      all_goals refine ⟨t + 1, [0, 1, 2], by omega, by omega, ?_⟩
      all_goals refine Le.mk (by kernel_rfl) ?_ ?_ <;> repeat' (first | exact True.intro | refine And.intro ?_ ?_ | exact Imp.refl _ | exact Imp.any _ | exact Imp.num (by first | omega | simp only [ints_len]) | exact rfl | refine Imp.bl ?_ | refine Imp.bp ?_)
      all_goals rw [hst, List.mem_append, List.mem_singleton]
      · simp [*]
      · rw [conj2]; simp [*]
    · have htl : t = O.length := by omega
      subst htl
      rw [List.take_length]
      have f1 : (x, y) ∈ O → (A.take (j + 1)).filter (fun e => decide (e ∉ O)) = (A.take j).filter (fun e => decide (e ∉ O)) := fun h => by
        rw [hstA, List.filter_append, List.filter_cons_of_neg (by simpa using h)]; simp
      have f2 : (x, y) ∉ O → (A.take (j + 1)).filter (fun e => decide (e ∉ O)) = (A.take j).filter (fun e => decide (e ∉ O)) ++ [(x, y)] := fun h => by
        rw [hstA, List.filter_append, List.filter_cons_of_pos (by simpa using h)]; simp
      repeat' (conv => whnf
               first | refine LitOb.ful ?_ | (refine CondOb.mk (fun _ => ?_) (fun _ => ?_) <;> first | (exfalso; omega) | skip) | refine ArOb.fits (by first | omega | (simp only [ints_len] at *; omega)) ?_ | refine LitOb.vec ?_ | refine MakeOb.vec ?_ | refine AllocOb.box ?_ | refine AsgOb.vec ?_ | refine AggOb.mk (by decide +kernel) ?_ | refine ArU.fits (by first | omega | (simp only [ints_len] at *; omega)) ?_ | refine ArB.fits (by first | omega | (simp only [ints_len] at *; omega)) ?_ | refine CutOb.split ?_ | refine Gh.mk [] ?_ | refine And.intro (And.intro (by (simp only [List.length_append, List.length_take, List.length_drop, List.length_cons, List.length_nil, ints_len, List.length_replicate, lnl, fll, stl]; omega)) (by (simp only [List.length_append, List.length_take, List.length_drop, List.length_cons, List.length_nil, ints_len, List.length_replicate, lnl, fll, stl]; omega))) ?_ | refine ⟨_, _, rfl, ints_get (by first | omega | (simp only [ints_len] at *; omega)), ?_⟩ | refine ⟨_, _, (Int.toNat_of_nonneg (by first | omega | (simp only [ints_len] at *; omega))).symm, ints_get (by first | omega | (simp only [ints_len] at *; omega)), ?_⟩ | refine ⟨0, rfl, by omega, ?_⟩ | refine ⟨1, rfl, by omega, ?_⟩ | fail)
      all_goals try (conv => whnf)
      all_goals first
        | (have h := Classical.not_not.1 (by assumption : ¬¬(x, y) ∈ O); refine ⟨j + 1, [0, 1], by omega, by omega, ?_⟩; rw [f1 h]; (refine Le.mk (by kernel_rfl) ?_ ?_ <;> repeat' (first | exact True.intro | refine And.intro ?_ ?_ | exact Imp.refl _ | exact Imp.any _ | exact Imp.num (by first | omega | simp only [ints_len]) | exact rfl | exact Imp.bl (by simp))); done)
        | (have h := (by assumption : ¬(x, y) ∈ O); refine ⟨j + 1, [0, 3], by omega, by omega, ?_⟩; rw [f2 h, rwf_app]; (refine Le.mk (by kernel_rfl) ?_ ?_ <;> repeat' (first | exact True.intro | refine And.intro ?_ ?_ | exact Imp.refl _ | exact Imp.any _ | exact Imp.num (by first | omega | simp only [ints_len]) | exact rfl | exact Imp.bl (by simp))); done)
        | trace_state
  · have hjl : j = A.length := by omega
    subst hjl
    rw [List.take_length, ← hkn]
    rw [List.take_length, ← hkn] at hrl
    clear hfl
    have hKE : ∀ e ∈ K, e.1 < k ∧ e.2 < k ∧ e.1 ≠ e.2 := fun e he => by
      have h1 := (hAm e).1 ((hmm e).2 (.inl he))
      have h2 := hE.b _ _ h1
      exact ⟨h2.1, h2.2, fun h => by rw [h, hE.s] at h1; contradiction⟩
    have hOE : ∀ e ∈ O, e.1 < k ∧ e.2 < k ∧ e.1 ≠ e.2 := fun e he => by
      have h1 := (hAm e).1 ((hmm e).2 (.inr he))
      have h2 := hE.b _ _ h1
      exact ⟨h2.1, h2.2, fun h => by rw [h, hE.s] at h1; contradiction⟩
    have hcyc : O.length = 0 ↔ ¬Cyc E := by
      constructor
      · intro h
        have h0 := List.length_eq_zero_iff.1 h
        have : E = has K := by
          funext a b
          rw [Bool.eq_iff_iff, has_true]
          have := hAm (a, b)
          rw [hmm, h0] at this
          simpa using this.symm
        rw [this]; exact hac
      · intro h
        apply Classical.byContradiction
        intro h0
        obtain ⟨e, he⟩ := List.exists_mem_of_length_pos (show 0 < O.length by omega)
        have h1 := (hAm e).1 ((hmm e).2 (.inr he))
        exact h (Rch.cyc h1 ((hoo e he).mono fun a b hab => (hAm (a, b)).1 ((hmm (a, b)).2 (.inl (has_true.1 hab)))))
    repeat' (conv => whnf
             first | refine ArOb.fits (by first | omega | (simp only [ints_len] at *; omega)) ?_ | refine LitOb.vec ?_ | refine MakeOb.vec ?_ | refine AllocOb.box ?_ | refine AsgOb.vec ?_ | refine AggOb.mk (by decide +kernel) ?_ | refine ArU.fits (by first | omega | (simp only [ints_len] at *; omega)) ?_ | refine ArB.fits (by first | omega | (simp only [ints_len] at *; omega)) ?_ | refine CutOb.split ?_ | refine Gh.mk [] ?_ | refine And.intro (And.intro (by (simp only [List.length_append, List.length_take, List.length_drop, List.length_cons, List.length_nil, ints_len, List.length_replicate, lnl, fll, stl]; omega)) (by (simp only [List.length_append, List.length_take, List.length_drop, List.length_cons, List.length_nil, ints_len, List.length_replicate, lnl, fll, stl]; omega))) ?_ | refine ⟨_, _, rfl, ints_get (by first | omega | (simp only [ints_len] at *; omega)), ?_⟩ | refine ⟨_, _, (Int.toNat_of_nonneg (by first | omega | (simp only [ints_len] at *; omega))).symm, ints_get (by first | omega | (simp only [ints_len] at *; omega)), ?_⟩ | fail)
    all_goals try (conv => whnf)
    refine CondOb.mk (fun hbig => ?_) (fun hbig => ?_)
    · repeat' (conv => whnf
               first | (refine CondOb.mk (fun _ => ?_) (fun _ => ?_) <;> first | (exfalso; omega) | skip) | refine ArOb.fits (by first | omega | (simp only [ints_len] at *; omega)) ?_ | refine LitOb.vec ?_ | refine MakeOb.vec ?_ | refine AllocOb.box ?_ | refine AsgOb.vec ?_ | refine AggOb.mk (by decide +kernel) ?_ | refine ArU.fits (by first | omega | (simp only [ints_len] at *; omega)) ?_ | refine ArB.fits (by first | omega | (simp only [ints_len] at *; omega)) ?_ | refine CutOb.split ?_ | refine Gh.mk [] ?_ | refine And.intro (And.intro (by (simp only [List.length_append, List.length_take, List.length_drop, List.length_cons, List.length_nil, ints_len, List.length_replicate, lnl, fll, stl]; omega)) (by (simp only [List.length_append, List.length_take, List.length_drop, List.length_cons, List.length_nil, ints_len, List.length_replicate, lnl, fll, stl]; omega))) ?_ | refine ⟨_, _, rfl, ints_get (by first | omega | (simp only [ints_len] at *; omega)), ?_⟩ | refine ⟨_, _, (Int.toNat_of_nonneg (by first | omega | (simp only [ints_len] at *; omega))).symm, ints_get (by first | omega | (simp only [ints_len] at *; omega)), ?_⟩ | (refine CallOb.mk [] cE rfl (ImpL.refl _) rfl rfl ?_; rintro _ _ ⟨rfl, rfl⟩) | (refine CallOb.mk [] (sane_ok) rfl (ImpL.refl _) rfl rfl ?_; rintro _ _ ⟨rfl, rfl⟩) | fail)
      all_goals try (conv => whnf)
      all_goals first
        | rfl
        | (exfalso; omega)
    have hK10 : K.length ≤ 10 := by omega
    have cR := lroute_ok k (by omega) (edR K) (by rw [edR_len]; omega)
    have hKc : chkN (rtN k (edR K)) = 0 := rtN_chk ⟨hk1, by omega⟩ (by rw [edR_len]; omega) (edR_rt hKE)
    obtain ⟨lo, cO⟩ := order_ac (edR_nl (k := k) (by omega) (l := K) (by omega)) hKc (by rw [edR_adj]; exact hac)
    generalize rtN k (edR K) = nk at *
    repeat' (conv => whnf
             first | (refine Gh.mk [.fa] ?_; (conv => whnf); refine CallOb.mk [] cR rfl ⟨Imp.num (by rw [hln]), Imp.pslr (rwf_imp K), trivial⟩ rfl rfl ?_; rintro _ _ ⟨rfl, rfl⟩) | (refine CondOb.mk (fun _ => ?_) (fun _ => ?_) <;> first | (exfalso; omega) | skip) | refine ArOb.fits (by first | omega | (simp only [ints_len] at *; omega)) ?_ | refine LitOb.vec ?_ | refine MakeOb.vec ?_ | refine AllocOb.box ?_ | refine AsgOb.vec ?_ | refine AggOb.mk (by decide +kernel) ?_ | refine ArU.fits (by first | omega | (simp only [ints_len] at *; omega)) ?_ | refine ArB.fits (by first | omega | (simp only [ints_len] at *; omega)) ?_ | refine CutOb.split ?_ | refine Gh.mk [] ?_ | refine And.intro (And.intro (by (simp only [List.length_append, List.length_take, List.length_drop, List.length_cons, List.length_nil, ints_len, List.length_replicate, lnl, fll, stl]; omega)) (by (simp only [List.length_append, List.length_take, List.length_drop, List.length_cons, List.length_nil, ints_len, List.length_replicate, lnl, fll, stl]; omega))) ?_ | refine ⟨_, _, rfl, ints_get (by first | omega | (simp only [ints_len] at *; omega)), ?_⟩ | refine ⟨_, _, (Int.toNat_of_nonneg (by first | omega | (simp only [ints_len] at *; omega))).symm, ints_get (by first | omega | (simp only [ints_len] at *; omega)), ?_⟩ | (refine CallOb.mk [] cO rfl (ImpL.refl _) rfl rfl ?_; rintro _ _ ⟨rfl, rfl⟩) | fail)
    all_goals try (conv => whnf)
    refine LoopOb.mk (Y := Nat) (st := fun j => ⟨[(84, i64 j), (83, i64 (eds O).length), (82, .psl 2 (eds O)), (5, .psl 1 (rwf K)), (4, .psl 2 (eds O)), (3, .ptr 0 0)], [.box [.psl 1 (strs n.nm), .psl 5 (lns n.ln), .psl 8 (fls n.fl)]]⟩)
      (inv := fun j => j ≤ O.length) (fun j => O.length - j) 0 [0] (by omega) (by (refine Le.mk (by kernel_rfl) ?_ ?_ <;> repeat' (first | exact True.intro | refine And.intro ?_ ?_ | exact Imp.refl _ | exact Imp.any _ | exact Imp.num (by first | omega | simp only [ints_len]) | exact rfl | exact Imp.bl (by simp)))) ?_
    intro j hj
    repeat' (conv => whnf
             first | refine ArOb.fits (by first | omega | (simp only [ints_len] at *; omega)) ?_ | refine LitOb.vec ?_ | refine MakeOb.vec ?_ | refine AllocOb.box ?_ | refine AsgOb.vec ?_ | refine AggOb.mk (by decide +kernel) ?_ | refine ArU.fits (by first | omega | (simp only [ints_len] at *; omega)) ?_ | refine ArB.fits (by first | omega | (simp only [ints_len] at *; omega)) ?_ | refine CutOb.split ?_ | refine Gh.mk [] ?_ | refine And.intro (And.intro (by (simp only [List.length_append, List.length_take, List.length_drop, List.length_cons, List.length_nil, ints_len, List.length_replicate, lnl, fll, stl]; omega)) (by (simp only [List.length_append, List.length_take, List.length_drop, List.length_cons, List.length_nil, ints_len, List.length_replicate, lnl, fll, stl]; omega))) ?_ | refine ⟨_, _, rfl, ints_get (by first | omega | (simp only [ints_len] at *; omega)), ?_⟩ | refine ⟨_, _, (Int.toNat_of_nonneg (by first | omega | (simp only [ints_len] at *; omega))).symm, ints_get (by first | omega | (simp only [ints_len] at *; omega)), ?_⟩ | fail)
    all_goals try (conv => whnf)
    refine CondOb.mk (fun hlt => ?_) (fun hlt => ?_)
    · have hjl : j < O.length := by omega
      have hg := eds_get hjl
      have hem := ed_mem hjl
      generalize O.getD j (0, 0) = e at *
      have he := hOE e hem
      have hro := hoo e hem
      have hcy : Cyc (has (K ++ [e])) := by
        have hmo : ∀ a b, has K a b = true → has (K ++ [e]) a b = true := fun a b h => by rw [has_true] at h ⊢; simp [h]
        exact Rch.cyc (a := e.1) (b := e.2) (by rw [has_true]; simp) (hro.mono hmo)
      have hL11 : (K ++ [e]).length = K.length + 1 := by simp
      have cR2 := lroute_ok k (by omega) (edR (K ++ [e])) (by rw [edR_len]; omega)
      have cO2 : K.length < 10 → Ctr Try.prog 19 [ntv (rtN k (edR (K ++ [e])))] [] (fun r o => o = [] ∧ r = .tup [.psl 1 (nts []), .bl false]) := fun h =>
        order_cyc (edR_nl (k := k) (by omega) (l := K ++ [e]) (by omega)) (rtN_chk ⟨hk1, by omega⟩ (by rw [edR_len]; omega) (edR_rt fun x hx => by
          rcases List.mem_append.1 hx with hx | hx
          · exact hKE x hx
          · rw [List.mem_singleton.1 hx]; exact he)) (by rw [edR_adj]; exact hcy)
      have himp : ImpR (rwf K ++ [[.ful 1 [[i64 e.1], [i64 e.2]]]]) (rws (edR (K ++ [e]))) := by
        have := rwf_imp (K ++ [e])
        rw [rwf_app] at this
        exact this
      generalize rtN k (edR (K ++ [e])) = ne at *
      obtain ⟨x, y⟩ := e
      dsimp only at hg himp
      repeat' (conv => whnf
               first | refine ⟨j, _, rfl, hg, ?_⟩ | refine ArOb.fits (by first | omega | (simp only [ints_len] at *; omega)) ?_ | refine LitOb.vec ?_ | refine MakeOb.vec ?_ | refine AllocOb.box ?_ | refine AsgOb.vec ?_ | refine AggOb.mk (by decide +kernel) ?_ | refine ArU.fits (by first | omega | (simp only [ints_len] at *; omega)) ?_ | refine ArB.fits (by first | omega | (simp only [ints_len] at *; omega)) ?_ | refine CutOb.split ?_ | refine Gh.mk [] ?_ | refine And.intro (And.intro (by (simp only [List.length_append, List.length_take, List.length_drop, List.length_cons, List.length_nil, ints_len, List.length_replicate, lnl, fll, stl]; omega)) (by (simp only [List.length_append, List.length_take, List.length_drop, List.length_cons, List.length_nil, ints_len, List.length_replicate, lnl, fll, stl]; omega))) ?_ | refine ⟨_, _, rfl, ints_get (by first | omega | (simp only [ints_len] at *; omega)), ?_⟩ | refine ⟨_, _, (Int.toNat_of_nonneg (by first | omega | (simp only [ints_len] at *; omega))).symm, ints_get (by first | omega | (simp only [ints_len] at *; omega)), ?_⟩ | fail)
      all_goals try (conv => whnf)
      refine CondOb.mk (fun hsm => ?_) (fun hsm => ?_)
      · have cO2 := cO2 (by omega)
        repeat' (conv => whnf
                 first | refine LitOb.ful ?_ | (refine Gh.mk [.fa] ?_; (conv => whnf); refine CallOb.mk [] cR2 rfl ⟨Imp.num (by rw [hln]), Imp.pslr himp, trivial⟩ rfl rfl ?_; rintro _ _ ⟨rfl, rfl⟩) | (refine CondOb.mk (fun _ => ?_) (fun _ => ?_) <;> first | (exfalso; omega) | skip) | refine ArOb.fits (by first | omega | (simp only [ints_len] at *; omega)) ?_ | refine LitOb.vec ?_ | refine MakeOb.vec ?_ | refine AllocOb.box ?_ | refine AsgOb.vec ?_ | refine AggOb.mk (by decide +kernel) ?_ | refine ArU.fits (by first | omega | (simp only [ints_len] at *; omega)) ?_ | refine ArB.fits (by first | omega | (simp only [ints_len] at *; omega)) ?_ | refine CutOb.split ?_ | refine Gh.mk [] ?_ | refine And.intro (And.intro (by (simp only [List.length_append, List.length_take, List.length_drop, List.length_cons, List.length_nil, ints_len, List.length_replicate, lnl, fll, stl]; omega)) (by (simp only [List.length_append, List.length_take, List.length_drop, List.length_cons, List.length_nil, ints_len, List.length_replicate, lnl, fll, stl]; omega))) ?_ | refine ⟨_, _, rfl, ints_get (by first | omega | (simp only [ints_len] at *; omega)), ?_⟩ | refine ⟨_, _, (Int.toNat_of_nonneg (by first | omega | (simp only [ints_len] at *; omega))).symm, ints_get (by first | omega | (simp only [ints_len] at *; omega)), ?_⟩ | refine DrawOb.mk [] (.qs [0, 1, 2, 3, 5, 6, 7, 8] (.l 4 [8, 6, 1] (.l 9 [1] (.l 10 [1] (.l 11 [1] (.l 12 [] (.l 13 [] (.qs [14, 15, 16, 17, 18] .nil) .no) .no) .no) .no) .no) (.l 9 [1] (.l 4 [1] (.l 10 [1] (.l 11 [1] (.l 12 [] (.l 13 [] (.qs [14, 15, 16, 17, 18] .nil) .no) .no) .no) .no) (.l 10 [1] (.l 4 [1] (.l 11 [1] (.l 12 [] (.l 13 [] (.qs [14, 15, 16, 17, 18] .nil) .no) .no) .no) .no) .no)) .no))) (by decide +kernel) ?_ | (refine CallOb.mk [] cO2 rfl (ImpL.refl _) rfl rfl ?_; rintro _ _ ⟨rfl, rfl⟩) | refine ⟨0, rfl, by omega, ?_⟩ | refine ⟨1, rfl, by omega, ?_⟩ | refine And.intro ?_ ?_ | fail)
        all_goals try (conv => whnf)
        all_goals first
          | exact ⟨j + 1, [0], by omega, by omega, by (refine Le.mk (by kernel_rfl) ?_ ?_ <;> repeat' (first | exact True.intro | refine And.intro ?_ ?_ | exact Imp.refl _ | exact Imp.any _ | exact Imp.num (by first | omega | simp only [ints_len]) | exact rfl | exact Imp.bl (by simp)))⟩
          | (show (rwf K).length ≤ 140737488355328; omega)
          | (show (rwf K).length * 24 ≤ 140737488355328; omega)
          | trace_state
      · repeat' (conv => whnf
                 first | (refine CondOb.mk (fun _ => ?_) (fun _ => ?_) <;> first | (exfalso; omega) | skip) | refine ArOb.fits (by first | omega | (simp only [ints_len] at *; omega)) ?_ | refine LitOb.vec ?_ | refine MakeOb.vec ?_ | refine AllocOb.box ?_ | refine AsgOb.vec ?_ | refine AggOb.mk (by decide +kernel) ?_ | refine ArU.fits (by first | omega | (simp only [ints_len] at *; omega)) ?_ | refine ArB.fits (by first | omega | (simp only [ints_len] at *; omega)) ?_ | refine CutOb.split ?_ | refine Gh.mk [] ?_ | refine And.intro (And.intro (by (simp only [List.length_append, List.length_take, List.length_drop, List.length_cons, List.length_nil, ints_len, List.length_replicate, lnl, fll, stl]; omega)) (by (simp only [List.length_append, List.length_take, List.length_drop, List.length_cons, List.length_nil, ints_len, List.length_replicate, lnl, fll, stl]; omega))) ?_ | refine ⟨_, _, rfl, ints_get (by first | omega | (simp only [ints_len] at *; omega)), ?_⟩ | refine ⟨_, _, (Int.toNat_of_nonneg (by first | omega | (simp only [ints_len] at *; omega))).symm, ints_get (by first | omega | (simp only [ints_len] at *; omega)), ?_⟩ | fail)
        all_goals try (conv => whnf)
        exact ⟨j + 1, [0], by omega, by omega, by (refine Le.mk (by kernel_rfl) ?_ ?_ <;> repeat' (first | exact True.intro | refine And.intro ?_ ?_ | exact Imp.refl _ | exact Imp.any _ | exact Imp.num (by first | omega | simp only [ints_len]) | exact rfl | exact Imp.bl (by simp)))⟩
    · by_cases hcn : Cyc E
      · obtain ⟨c, c1, cY⟩ := y1 hcn
        have hcl := nts_len c
        have hO : ¬O.length = 0 := fun h => hcyc.1 h hcn
        repeat' (conv => whnf
                 first | (refine CondOb.mk (fun _ => ?_) (fun _ => ?_) <;> first | (exfalso; omega) | skip) | refine ArOb.fits (by first | omega | (simp only [ints_len] at *; omega)) ?_ | refine LitOb.vec ?_ | refine MakeOb.vec ?_ | refine AllocOb.box ?_ | refine AsgOb.vec ?_ | refine AggOb.mk (by decide +kernel) ?_ | refine ArU.fits (by first | omega | (simp only [ints_len] at *; omega)) ?_ | refine ArB.fits (by first | omega | (simp only [ints_len] at *; omega)) ?_ | refine CutOb.split ?_ | refine Gh.mk [] ?_ | refine And.intro (And.intro (by (simp only [List.length_append, List.length_take, List.length_drop, List.length_cons, List.length_nil, ints_len, List.length_replicate, lnl, fll, stl]; omega)) (by (simp only [List.length_append, List.length_take, List.length_drop, List.length_cons, List.length_nil, ints_len, List.length_replicate, lnl, fll, stl]; omega))) ?_ | refine ⟨_, _, rfl, ints_get (by first | omega | (simp only [ints_len] at *; omega)), ?_⟩ | refine ⟨_, _, (Int.toNat_of_nonneg (by first | omega | (simp only [ints_len] at *; omega))).symm, ints_get (by first | omega | (simp only [ints_len] at *; omega)), ?_⟩ | (refine CallOb.mk [] cY rfl (ImpL.refl _) rfl rfl ?_; rintro _ _ ⟨rfl, rfl⟩) | (refine CallOb.mk [] (sane_ok) rfl (ImpL.refl _) rfl rfl ?_; rintro _ _ ⟨rfl, rfl⟩) | fail)
        all_goals try (conv => whnf)
        all_goals first
          | rfl
          | (exfalso; omega)
          | trace_state
      · have cY := y2 hcn
        have hO : O.length = 0 := hcyc.2 hcn
        repeat' (conv => whnf
                 first | (refine CondOb.mk (fun _ => ?_) (fun _ => ?_) <;> first | (exfalso; omega) | skip) | refine ArOb.fits (by first | omega | (simp only [ints_len] at *; omega)) ?_ | refine LitOb.vec ?_ | refine MakeOb.vec ?_ | refine AllocOb.box ?_ | refine AsgOb.vec ?_ | refine AggOb.mk (by decide +kernel) ?_ | refine ArU.fits (by first | omega | (simp only [ints_len] at *; omega)) ?_ | refine ArB.fits (by first | omega | (simp only [ints_len] at *; omega)) ?_ | refine CutOb.split ?_ | refine Gh.mk [] ?_ | refine And.intro (And.intro (by (simp only [List.length_append, List.length_take, List.length_drop, List.length_cons, List.length_nil, ints_len, List.length_replicate, lnl, fll, stl]; omega)) (by (simp only [List.length_append, List.length_take, List.length_drop, List.length_cons, List.length_nil, ints_len, List.length_replicate, lnl, fll, stl]; omega))) ?_ | refine ⟨_, _, rfl, ints_get (by first | omega | (simp only [ints_len] at *; omega)), ?_⟩ | refine ⟨_, _, (Int.toNat_of_nonneg (by first | omega | (simp only [ints_len] at *; omega))).symm, ints_get (by first | omega | (simp only [ints_len] at *; omega)), ?_⟩ | (refine CallOb.mk [] cY rfl (ImpL.refl _) rfl rfl ?_; rintro _ _ ⟨rfl, rfl⟩) | (refine CallOb.mk [] (sane_ok) rfl (ImpL.refl _) rfl rfl ?_; rintro _ _ ⟨rfl, rfl⟩) | fail)
        all_goals try (conv => whnf)
        all_goals first
          | rfl
          | (exfalso; omega)
          | trace_state
end Go.Proofs.Ytnlmmjmcackgjaa
