/-
  A text of the proofs of this seat: lemmas that the statements' proofs use; it states nothing of the program by itself beyond the contracts that its theorems bear. Conditions: those that stand in each theorem. Its short name: E3.
-/
import Derived.Test.YtifcdempdcolkabE1
import Derived.Test.YtifcdempdcolkabW4
set_option linter.unusedVariables false
set_option linter.unusedSimpArgs false
namespace Go.Proofs.Ytifcdempdcolkab
open Go.Sx Go.Cv
set_option maxRecDepth 4000
set_option maxHeartbeats 2000000
theorem aP_E3 {A B K : Prop} (k : K) (a : A := by (simp only [zA, zT, zD, zC, zN, ints_len, zR, Go.Cv.vals_len]; omega)) (b : B := by (simp only [zA, zT, zD, zC, zN, ints_len, zR, Go.Cv.vals_len]; omega)) : (A ∧ B) ∧ K := ⟨⟨a, b⟩, k⟩
theorem Table_ok (a : C3) (ha : VC a) (n : Nat) (hn : n ≤ 10000) : Ctr Try.prog 67 [crv a.1 a.2.1 a.2.2, i64 n] [] (fun r o => o = [] ∧ r = .psl 1 (ints (vals (cv a) n))) := by
  refine Ctr.imp ?_
  refine fn_intro (E := env 0) tys_ok rfl rfl rfl Try.func67 (by kernel_rfl) rfl (by kernel_rfl) ?_
  (repeat' (conv => whnf); first | refine aC (fun _ => ?_) (fun _ => ?_) | refine aS ?_ | refine aG ?_ | refine aD ?_ | refine aH ?_ | refine aP_E3 ?_ | refine aI ?_ | refine aJ ?_ | refine ⟨_, _, rfl, rfl, Nat.le_refl _, ⟨by (simp only; omega), by omega⟩, ?_⟩ | fail); all_goals try (conv => whnf)
  refine LoopOb.mk (Y := Nat) (st := fun t => ⟨[(11, i64 t), (10, i64 n), (5, .vec 1), (2, .ptr 0 0)], [.box [.psl 1 (ints a.1), i64 a.2.1, i64 a.2.2], .vec 1 (ints (rowsAt (cv a) t n))]⟩)
    (inv := fun t => t ≤ n) (fun t => n - t) 0 [0, 2] (by omega) (by (refine Le.mk (by kernel_rfl) ?_ ?_ <;> repeat' (first | exact True.intro | refine And.intro ?_ ?_ | exact Imp.refl _ | exact Imp.any _ | exact Imp.num (by first | omega | simp only [List.length_replicate, ints_len]) | exact rfl | exact (rowsAt_zero _ _).symm))) ?_
  intro t ht
  have hl : (rowsAt (cv a) t n).length = n := rowsAt_len _ ht
  have hil := ints_len (rowsAt (cv a) t n)
  have hset : t < n → (ints (rowsAt (cv a) t n)).set t [i64 (cv a t)] = ints (rowsAt (cv a) (t + 1) n) := fun h => rowsAt_set _ h
  have cA := WAt_ok a.1 a.2.1 a.2.2 (t : Int) (bd_of ha) (by omega) (by omega)
  rw [Int.toNat_natCast, show val a.1 a.2.1 a.2.2 t = cv a t from rfl] at cA
  have hfull : t = n → rowsAt (cv a) t n = vals (cv a) n := fun h => by rw [h]; exact rowsAt_full _ _
  generalize rowsAt (cv a) t n = R at *
  generalize cv a t = x at *
  (repeat' (conv => whnf); first | refine aS ?_ | refine aG ?_ | refine aD ?_ | refine aH ?_ | refine aP_E3 ?_ | refine aI ?_ | refine aJ ?_ | fail); all_goals try (conv => whnf)
  refine CondOb.mk (fun hlt => ?_) (fun hlt => ?_)
  · (repeat' (conv => whnf); first | refine ⟨_, ints_get (by omega), ?_⟩ | refine ⟨t, rfl, by rw [hil, hl]; omega, ?_⟩ | refine aC (fun _ => ?_) (fun _ => ?_) | refine aS ?_ | refine aG ?_ | refine aD ?_ | refine aH ?_ | refine aP_E3 ?_ | refine aI ?_ | refine aJ ?_ | (refine aK [] cA ?_) | fail); all_goals try (conv => whnf)
    exact ⟨t + 1, [0, 1], by omega, by omega, by rw [← hset (by omega)]; (exact aL)⟩
  have e : t = n := by omega
  subst e
  rw [hfull rfl]
  (repeat' (conv => whnf); first | refine aC (fun _ => ?_) (fun _ => ?_) | refine aS ?_ | refine aG ?_ | refine aD ?_ | refine aP_E3 ?_ | refine aI ?_ | refine aJ ?_ | fail); all_goals try (conv => whnf)
  refine .mk [.fz 1] ?_
  (repeat' (conv => whnf); first | refine aC (fun _ => ?_) (fun _ => ?_) | refine aS ?_ | refine aG ?_ | refine aD ?_ | refine aH ?_ | refine aP_E3 ?_ | refine aI ?_ | refine aJ ?_ | fail); all_goals try (conv => whnf)
  exact ⟨rfl, Imp.refl _⟩
theorem chk_inf {x : List Int × Int × Int × Int} (h : CheckP [INF] 1 0 x) : x = ([INF], 1, 0, 0) := by
  rcases h with ⟨h, _⟩ | ⟨_, _, h⟩
  · rcases h with h | ⟨j, h1, h2, _⟩
    · exact absurd h (by decide)
    · have : j = 0 := by simp at h1; exact h1
      subst this
      exact absurd rfl h2
  · exact h
/- what the deconvolution of two curves is -/
def DofP (a b : C3) (x : List Int × Int × Int × Int) : Prop := (loo a b ∧ x = ([INF], 1, 0, 0)) ∨ (¬loo a b ∧ MkP (dcv a b) x)
theorem DofP.uniq {a b : C3} {x y} (h : DofP a b x) (k : DofP a b y) : x = y := by
  rcases h with ⟨h1, rfl⟩ | ⟨h1, h2⟩ <;> rcases k with ⟨k1, rfl⟩ | ⟨k1, k2⟩
  · rfl
  · exact absurd h1 k1
  · exact absurd k1 h1
  · exact h2.uniq k2
theorem dof_inf {a b : C3} (ha : VC a) (hb : VC b) (hc : com a b ≤ 120) {x} (h : CheckP [INF] 1 0 x) (hor : loo a b ∨ (¬FinC a ∧ FinC b)) : DofP a b x := by
  by_cases hl : loo a b
  · exact .inl ⟨hl, chk_inf h⟩
  · obtain ⟨fa, fb⟩ := hor.resolve_left hl
    have h0 := dcv_all ha hb fa fb
    refine .inr ⟨hl, buildP_mk (N := 1) (mxG_nn _) (dcv_mono ha hb) (fun t ht => (dcv_bd ha hb hc (by omega)).2) (fun m hm h t ht => dcv_late ha hb hc (by omega) h t ht) (.inl ⟨0, by omega, h0, fun k hk => by omega, ?_⟩)⟩
    have : vals (dcv a b) (0 + 1) = [INF] := by simp [vals, h0]
    rw [this]; exact h
theorem dof_build {a b : C3} (ha : VC a) (hb : VC b) (hc : com a b ≤ 120) (h0 : cv b 0 = 0) (hl : ¬loo a b) {x} (h : BuildP (dcv a b) a.1.length x) : DofP a b x :=
  .inr ⟨hl, buildP_mk (mxG_nn _) (dcv_mono ha hb) (fun t ht => (dcv_bd ha hb hc (by have := ha.n2; omega)).2) (fun m hm h t ht => dcv_late ha hb hc (by have := ha.n2; omega) h t ht) h⟩
theorem dOfC_ok (F : Nat → Int) (N t : Nat) (h : t < N) (hN : N ≤ 1000000) : Ctr Try.prog 68 [i64 t, .pptr [.psl 1 (ints (vals F N))]] [] (fun r o => o = [] ∧ r = i64 (F t)) := by
  refine fn_intro (E := env 0) tys_ok rfl rfl rfl Try.func68 (by kernel_rfl) rfl (by kernel_rfl) ?_
  (repeat' (conv => whnf); first | refine aC (fun _ => ?_) (fun _ => ?_) | refine aS ?_ | refine aG ?_ | refine aD ?_ | refine aH ?_ | refine aP_E3 ?_ | refine aI ?_ | refine aJ ?_ | fail); all_goals try (conv => whnf)
  refine ⟨t, _, rfl, ints_get (by rw [vals_len]; exact h), ?_⟩
  rw [vals_get h]
  (repeat' (conv => whnf); first | refine aC (fun _ => ?_) (fun _ => ?_) | refine aS ?_ | refine aG ?_ | refine aD ?_ | refine aH ?_ | refine aP_E3 ?_ | refine aI ?_ | refine aJ ?_ | fail); all_goals try (conv => whnf)
  exact ⟨rfl, rfl⟩
/- the row of a tick while its maximum is sought -/
def rwk (a b : C3) (t u : Nat) : List Int := (rowsAt (dcv a b) t a.1.length).set t (mxG a b t u)
theorem ints_setI {l : List Int} {t : Nat} {x : Int} : (ints l).set t [i64 x] = ints (l.set t x) := by simp [ints, List.map_set]
theorem rwk_len {a b : C3} {t u : Nat} (h : t ≤ a.1.length) : (rwk a b t u).length = a.1.length := by unfold rwk; rw [List.length_set, rowsAt_len _ h]
theorem rwk_get {a b : C3} {t u : Nat} (h : t < a.1.length) : (rwk a b t u).getD t 0 = mxG a b t u := by
  unfold rwk
  rw [List.getD_eq_getElem?_getD, List.getElem?_set_self (by rw [rowsAt_len _ (by omega)]; exact h)]; rfl
theorem rwk_set {a b : C3} {t u : Nat} {x : Int} : (ints (rwk a b t u)).set t [i64 x] = ints ((rowsAt (dcv a b) t a.1.length).set t x) := by
  unfold rwk; rw [ints_setI, List.set_set]
theorem rwk_end {a b : C3} {t : Nat} (h : t < a.1.length) : ints ((rowsAt (dcv a b) t a.1.length).set t (dcv a b t)) = ints (rowsAt (dcv a b) (t + 1) a.1.length) := by
  rw [← ints_setI]; exact rowsAt_set _ h
theorem rwk_zero {a b : C3} {t : Nat} (h : t < a.1.length) : ints (rwk a b t 0) = ints (rowsAt (dcv a b) t a.1.length) := by
  unfold rwk
  show ints ((rowsAt (dcv a b) t a.1.length).set t 0) = _
  congr 1
  unfold rowsAt
  rw [List.set_append, if_neg (by rw [vals_len]; omega), vals_len, Nat.sub_self]
  obtain ⟨k, hk⟩ : ∃ k, a.1.length - t = k + 1 := ⟨a.1.length - t - 1, by omega⟩
  rw [hk, List.replicate_succ]; rfl
theorem dof_ok (a b : C3) (ha : VC a) (hb : VC b) (hc : com a b ≤ 120) (h0 : cv b 0 = 0) : Ctr Try.prog 58 [.agg (dpr a b)] [] (fun r o => ∃ x, DofP a b x ∧ o = [] ∧ r = crvE x) := by
  refine Ctr.impE ?_
  refine fn_intro (E := env 0) tys_ok rfl rfl rfl Try.func58 (by kernel_rfl) rfl (by kernel_rfl) ?_
  have a1 := ha.n1
  have a2 := ha.n2
  have b1 := hb.n1
  have b2 := hb.n2
  have pa := ha.pn
  have hr := rch_le ha hb hc
  have hr1 := rch_pos ha hb h0
  have hinf := @dof_inf a b ha hb hc
  have hbld := @dof_build a b ha hb hc h0
  (repeat' (conv => whnf); first | (refine aC (fun _ => ?_) (fun _ => ?_) <;> try (exfalso; omega)) | refine aS ?_ | refine aG ?_ | refine aH ?_ | refine aP_E3 ?_ | refine aI ?_ | refine aJ ?_ | refine aW (.qs [0, 1, 2, 3, 4, 5, 7, 8, 9, 10] (.l 6 [10, 8] (.l 11 [] (.qs [12, 13] .nil) .no) .no)) ?_ | refine aW (.qs [0, 1, 2, 3, 4, 5, 6, 7, 8, 9, 10, 11, 12, 13, 14, 15] (.l 16 [] .nil .no)) ?_ | fail); all_goals try (conv => whnf)
  refine CutOb.cut (Y := Unit) (st := fun _ => ⟨[(1, .ptr 0 0), (2, .ptr 1 0)], [.box (dpr a b), .box [.nil, i64 0, i64 0]]⟩) (inv := fun _ => ¬loo a b ∧ ¬(¬FinC a ∧ FinC b)) ?_ ?_
  · (repeat' (conv => whnf); first | refine LitOb.ful ?_ | (refine aC (fun _ => ?_) (fun _ => ?_) <;> try (exfalso; omega)) | refine aS ?_ | refine aG ?_ | refine aD ?_ | refine aH ?_ | refine aP_E3 ?_ | refine aI ?_ | refine aJ ?_ | refine aW (.qs [0, 1, 2, 3, 4, 5, 7, 8, 9, 10] (.l 6 [10, 8] (.l 11 [] (.qs [12, 13] .nil) .no) .no)) ?_ | refine aW (.qs [0, 1, 2, 3, 4, 5, 6, 7, 8, 9, 10, 11, 12, 13, 14, 15] (.l 16 [] .nil .no)) ?_ | (refine aK [] (WFinite_ok a.1 a.2.1 a.2.2 a1 (by omega)) ?_) | (refine aK [] (WFinite_ok b.1 b.2.1 b.2.2 b1 (by omega)) ?_) | (refine CallOb.mk [] (Ending_ok [4611686018427387904] (by decide) (by decide)) rfl ⟨Imp.fulp rfl, trivial⟩ rfl rfl ?_; rintro _ _ ⟨⟨x1, x2, x3, x4⟩, hx, rfl, rfl⟩) | fail); all_goals try (conv => whnf)
    all_goals first
      | exact ⟨(x1, x2, x3, x4), hinf hx (.inl (by assumption)), rfl, Imp.refl _⟩
      | exact ⟨(x1, x2, x3, x4), hinf hx (.inr ⟨by assumption, by assumption⟩), rfl, Imp.refl _⟩
      | exact ⟨(), [0, 1], ⟨by assumption, fun h => absurd h.2 (by assumption)⟩, by (exact aL)⟩
      | exact ⟨(), [0, 1], ⟨by assumption, fun h => h.1 (Classical.not_not.1 (by assumption))⟩, by (exact aL)⟩
      | trace_state
  rintro - ⟨hl, hn⟩
  have hbld := fun x => @hbld hl x
  clear hinf
  have cT := Table_ok a ha (a.1.length + rch a b) (by omega)
  have cU := Table_ok b hb (rch a b) (by omega)
  obtain ⟨T, hT⟩ : ∃ T, vals (cv a) (a.1.length + rch a b) = T := ⟨_, rfl⟩
  obtain ⟨U, hU⟩ : ∃ U, vals (cv b) (rch a b) = U := ⟨_, rfl⟩
  have hTl : T.length = a.1.length + rch a b := by rw [← hT, vals_len]
  have hUl : U.length = rch a b := by rw [← hU, vals_len]
  have hTg : ∀ k, k < a.1.length + rch a b → T.getD k 0 = cv a k := fun k hk => by rw [← hT, vals_get hk]
  have hUg : ∀ k, k < rch a b → U.getD k 0 = cv b k := fun k hk => by rw [← hU, vals_get hk]
  rw [hT] at cT
  rw [hU] at cU
  have hTi := ints_len T
  have hUi := ints_len U
  (repeat' (conv => whnf); first | refine aC (fun _ => ?_) (fun _ => ?_) | refine aS ?_ | refine aG ?_ | refine aD ?_ | refine aH ?_ | refine aP_E3 ?_ | refine aI ?_ | refine aJ ?_ | refine aW (.qs [0, 1, 2, 3, 4, 5, 7, 8, 9, 10] (.l 6 [10, 8] (.l 11 [] (.qs [12, 13] .nil) .no) .no)) ?_ | refine aW (.qs [0, 1, 2, 3, 4, 5, 6, 7, 8, 9, 10, 11, 12, 13, 14, 15] (.l 16 [] .nil .no)) ?_ | (refine aK [] (Start_ok a.1 a.2.1 a.2.2 pa (by omega)) ?_) | (refine CallOb.mk [] cT rfl ⟨Imp.refl _, Imp.num (by omega), trivial⟩ rfl rfl ?_; rintro _ _ ⟨rfl, rfl⟩) | (refine aK [] cU ?_) | refine ⟨a.1.length, a.1.length, by omega, by omega, Nat.le_refl _, ⟨by simp only; omega, by omega⟩, ?_⟩ | fail); all_goals try (conv => whnf)
  refine LoopOb.mk (Y := Nat) (st := fun t => ⟨[(53, i64 t), (52, i64 a.1.length), (8, .ptr 3 0), (7, .psl 1 (ints U)), (6, .psl 1 (ints T)), (4, i64 (a.1.length - a.2.1 : Nat)), (2, .ptr 1 0), (1, .ptr 0 0)], [.box (dpr a b), .box [.nil, i64 0, i64 0], .vec 1 (ints (rowsAt (dcv a b) t a.1.length)), .box [.vec 2]]⟩)
    (inv := fun t => t ≤ a.1.length) (fun t => a.1.length - t) 0 [0, 1, 2, 3] (by omega) (by (refine Le.mk (by kernel_rfl) ?_ ?_ <;> repeat' (first | exact True.intro | refine And.intro ?_ ?_ | exact Imp.refl _ | exact Imp.any _ | exact Imp.num (by first | omega | simp only [List.length_replicate, ints_len]) | exact rfl | exact (rowsAt_zero _ _).symm))) ?_
  intro t ht
  (repeat' (conv => whnf); first | refine aS ?_ | refine aG ?_ | refine aD ?_ | refine aH ?_ | refine aP_E3 ?_ | refine aI ?_ | refine aJ ?_ | refine aW (.qs [0, 1, 2, 3, 4, 5, 7, 8, 9, 10] (.l 6 [10, 8] (.l 11 [] (.qs [12, 13] .nil) .no) .no)) ?_ | refine aW (.qs [0, 1, 2, 3, 4, 5, 6, 7, 8, 9, 10, 11, 12, 13, 14, 15] (.l 16 [] .nil .no)) ?_ | fail); all_goals try (conv => whnf)
  refine CondOb.mk (fun hlt => ?_) (fun hlt => ?_)
  · have htn : t < a.1.length := by omega
    have hz := rwk_zero (b := b) htn
    (repeat' (conv => whnf); first | refine aS ?_ | refine aG ?_ | refine aD ?_ | refine aH ?_ | refine aP_E3 ?_ | refine aI ?_ | refine aJ ?_ | refine aW (.qs [0, 1, 2, 3, 4, 5, 7, 8, 9, 10] (.l 6 [10, 8] (.l 11 [] (.qs [12, 13] .nil) .no) .no)) ?_ | refine aW (.qs [0, 1, 2, 3, 4, 5, 6, 7, 8, 9, 10, 11, 12, 13, 14, 15] (.l 16 [] .nil .no)) ?_ | fail); all_goals try (conv => whnf)
    refine LoopOb.mk (Y := Nat) (st := fun u => ⟨[(58, i64 u), (57, i64 (rch a b)), (56, .psl 1 (ints U)), (9, i64 t), (53, i64 t), (52, i64 a.1.length), (8, .ptr 3 0), (7, .psl 1 (ints U)), (6, .psl 1 (ints T)), (4, i64 (a.1.length - a.2.1 : Nat)), (2, .ptr 1 0), (1, .ptr 0 0)], [.box (dpr a b), .box [.nil, i64 0, i64 0], .vec 1 (ints (rwk a b t u)), .box [.vec 2]]⟩)
      (inv := fun u => u ≤ rch a b ∧ ∀ k < u, ¬infAt a.1 (t + k)) (fun u => rch a b - u) 0 [0, 1, 2, 3] ⟨by omega, by omega⟩ (by rw [hz, ← hUl, ← hUi]; (exact aL)) ?_
    rintro u ⟨hu, hni⟩
    (repeat' (conv => whnf); first | refine aS ?_ | refine aG ?_ | refine aD ?_ | refine aH ?_ | refine aP_E3 ?_ | refine aI ?_ | refine aJ ?_ | refine aW (.qs [0, 1, 2, 3, 4, 5, 7, 8, 9, 10] (.l 6 [10, 8] (.l 11 [] (.qs [12, 13] .nil) .no) .no)) ?_ | refine aW (.qs [0, 1, 2, 3, 4, 5, 6, 7, 8, 9, 10, 11, 12, 13, 14, 15] (.l 16 [] .nil .no)) ?_ | fail); all_goals try (conv => whnf)
    refine CondOb.mk (fun hlt2 => ?_) (fun hlt2 => ?_)
    · have hur : u < rch a b := by omega
      have hgT : (ints T)[t + u]? = some [i64 (cv a (t + u))] := by rw [ints_get (show t + u < T.length by omega), hTg _ (by omega)]
      have hgU : (ints U)[u]? = some [i64 (cv b u)] := by rw [ints_get (show u < U.length by omega), hUg _ hur]
      have hWl : (rwk a b t u).length = a.1.length := rwk_len (by omega)
      have hWi := ints_len (rwk a b t u)
      have hgW : (ints (rwk a b t u))[t]? = some [i64 (mxG a b t u)] := by rw [ints_get (show t < (rwk a b t u).length by omega), rwk_get htn]
      have hx := val_bd (bd_of ha) (t := t + u) (by omega)
      have hy := val_bd (bd_of hb) (t := u) (by omega)
      have hx : 0 ≤ cv a (t + u) ∧ cv a (t + u) ≤ 6000000000000000000 := hx
      have hy : 0 ≤ cv b u ∧ cv b u ≤ 6000000000000000000 := hy
      have hin : cv a (t + u) = 4611686018427387904 → (ints (rwk a b t u)).set t [i64 4611686018427387904] = ints (rowsAt (dcv a b) (t + 1) a.1.length) := fun h => by
        have hi := (ha.inf_iff (t := t + u) (by omega)).1 h
        have h1 := mxG_inf (b := b) hur hi
        have h2 := (dcv_bd ha hb hc (t := t) (by omega)).2
        have e : dcv a b t = 4611686018427387904 := Int.le_antisymm h2 h1
        rw [rwk_set, ← e]; exact rwk_end htn
      have hst : ¬cv a (t + u) = 4611686018427387904 → (∀ k < u + 1, ¬infAt a.1 (t + k)) ∧ (ints (rwk a b t u)).set t [i64 (max (mxG a b t u) (cv a (t + u) - cv b u))] = ints (rwk a b t (u + 1)) := fun h => by
        have hi : ¬infAt a.1 (t + u) := fun hi => h ((ha.inf_iff (t := t + u) (by omega)).2 hi)
        refine ⟨fun k hk => ?_, ?_⟩
        · by_cases e : k = u
          · subst e; exact hi
          · exact hni k (by omega)
        · rw [rwk_set]
          have : mxG a b t (u + 1) = max (mxG a b t u) (cv a (t + u) - cv b u) := by
            show max _ (gnR a b t u) = _
            unfold gnR; rw [if_neg hi]
          unfold rwk; rw [this]
      generalize rwk a b t u = W at *
      generalize mxG a b t u = m at *
      generalize cv a (t + u) = x at *
      generalize cv b u = y at *
      (repeat' (conv => whnf); first | refine ⟨_, hgW, ?_⟩ | refine ⟨t, rfl, by rw [hWi, hWl]; omega, ?_⟩ | refine ⟨t + u, _, by omega, hgT, ?_⟩ | refine ⟨u, _, rfl, hgU, ?_⟩ | refine aC (fun _ => ?_) (fun _ => ?_) | refine aS ?_ | refine aG ?_ | refine aD ?_ | refine aH ?_ | refine aP_E3 ?_ | refine aI ?_ | refine aJ ?_ | refine aW (.qs [0, 1, 2, 3, 4, 5, 7, 8, 9, 10] (.l 6 [10, 8] (.l 11 [] (.qs [12, 13] .nil) .no) .no)) ?_ | refine aW (.qs [0, 1, 2, 3, 4, 5, 6, 7, 8, 9, 10, 11, 12, 13, 14, 15] (.l 16 [] .nil .no)) ?_ | fail); all_goals try (conv => whnf)
      all_goals first
        | exact ⟨t + 1, [0, 1, 2, 3], by omega, by omega, by rw [← hin (by assumption)]; (exact aL)⟩
        | exact ⟨u + 1, [0, 1, 2, 3], ⟨by omega, (hst (by assumption)).1⟩, by omega, by rw [← (hst (by assumption)).2]; (exact aL)⟩
        | trace_state
    have e : u = rch a b := by omega
    subst e
    have hend : ints (rwk a b t (rch a b)) = ints (rowsAt (dcv a b) (t + 1) a.1.length) := rwk_end htn
    rw [hend]
    (repeat' (conv => whnf); first | refine aC (fun _ => ?_) (fun _ => ?_) | refine aS ?_ | refine aG ?_ | refine aD ?_ | refine aH ?_ | refine aP_E3 ?_ | refine aI ?_ | refine aJ ?_ | refine aW (.qs [0, 1, 2, 3, 4, 5, 7, 8, 9, 10] (.l 6 [10, 8] (.l 11 [] (.qs [12, 13] .nil) .no) .no)) ?_ | refine aW (.qs [0, 1, 2, 3, 4, 5, 6, 7, 8, 9, 10, 11, 12, 13, 14, 15] (.l 16 [] .nil .no)) ?_ | fail); all_goals try (conv => whnf)
    exact ⟨t + 1, [0, 1, 2, 3], by omega, by omega, by (exact aL)⟩
  have e : t = a.1.length := by omega
  subst e
  rw [rowsAt_full]
  (repeat' (conv => whnf); first | refine aC (fun _ => ?_) (fun _ => ?_) | refine aS ?_ | refine aG ?_ | refine aD ?_ | refine aP_E3 ?_ | refine aI ?_ | refine aJ ?_ | refine aW (.qs [0, 1, 2, 3, 4, 5, 7, 8, 9, 10] (.l 6 [10, 8] (.l 11 [] (.qs [12, 13] .nil) .no) .no)) ?_ | refine aW (.qs [0, 1, 2, 3, 4, 5, 6, 7, 8, 9, 10, 11, 12, 13, 14, 15] (.l 16 [] .nil .no)) ?_ | fail); all_goals try (conv => whnf)
  refine .mk [.fz 2, .fb 3] ?_
  (repeat' (conv => whnf); first | refine aC (fun _ => ?_) (fun _ => ?_) | refine aS ?_ | refine aG ?_ | refine aD ?_ | refine aP_E3 ?_ | refine aI ?_ | refine aJ ?_ | refine aW (.qs [0, 1, 2, 3, 4, 5, 7, 8, 9, 10] (.l 6 [10, 8] (.l 11 [] (.qs [12, 13] .nil) .no) .no)) ?_ | refine aW (.qs [0, 1, 2, 3, 4, 5, 6, 7, 8, 9, 10, 11, 12, 13, 14, 15] (.l 16 [] .nil .no)) ?_ | fail); all_goals try (conv => whnf)
  have q0 := ha.q0
  have q1 := ha.q1
  have p1 := ha.p1
  have hN : a.1.length - a.2.1 + a.2.1 = a.1.length := by omega
  refine CallOb.mk [] (Build_ok 68 (.pptr [.psl 1 (ints (vals (dcv a b) a.1.length))]) (dcv a b) (a.1.length - a.2.1) a.2.1 a.2.2 p1 (by omega) q0 (by omega) (fun t ht => dcv_bd ha hb hc (by omega)) (fun t ht => dOfC_ok (dcv a b) a.1.length t (by omega) (by omega)) (fun hn => by
      by_cases fa : FinC a
      · exact dcv_per ha hb fa h0
      · exact absurd (dcv_end ha hb fa h0 (Nat.le_refl _)) (hn (a.1.length - 1) (by omega)))) rfl ⟨Imp.fn ⟨Imp.shut rfl, trivial⟩, Imp.refl _, Imp.refl _, Imp.refl _, trivial⟩ rfl rfl ?_
  rintro _ _ ⟨⟨x1, x2, x3, x4⟩, hx, rfl, rfl⟩
  rw [hN] at hx
  (repeat' (conv => whnf); first | refine aC (fun _ => ?_) (fun _ => ?_) | refine aS ?_ | refine aG ?_ | refine aD ?_ | refine aH ?_ | refine aP_E3 ?_ | refine aI ?_ | refine aJ ?_ | refine aW (.qs [0, 1, 2, 3, 4, 5, 7, 8, 9, 10] (.l 6 [10, 8] (.l 11 [] (.qs [12, 13] .nil) .no) .no)) ?_ | refine aW (.qs [0, 1, 2, 3, 4, 5, 6, 7, 8, 9, 10, 11, 12, 13, 14, 15] (.l 16 [] .nil .no)) ?_ | fail); all_goals try (conv => whnf)
  exact ⟨(x1, x2, x3, x4), hbld _ hx, rfl, Imp.refl _⟩
/- the deconvolution for any curves -/
def DecP (vs : List Int) (p q : Int) (ws : List Int) (p' q' : Int) (x : List Int × Int × Int × Int) : Prop :=
  (∃ e, DPrepE vs p q ws p' q' e ∧ x = ([], 0, 0, e)) ∨ (∃ a b, Prep vs p q ws p' q' a b ∧ cv b 0 = 0 ∧ com a b ≤ 120 ∧ DofP a b x)
def DBq (vs : List Int) (p q : Int) (ws : List Int) (p' q' : Int) : Int ⊕ (C3 × C3) → Prop
  | .inl e => DPrepE vs p q ws p' q' e
  | .inr y => Prep vs p q ws p' q' y.1 y.2 ∧ cv y.2 0 = 0 ∧ com y.1 y.2 ≤ 120
abbrev dbs : Int ⊕ (C3 × C3) → SV
  | .inl e => .tup [dpr0, i64 e]
  | .inr y => .tup [.agg (dpr y.1 y.2), i64 0]
theorem dboth' (vs : List Int) (p q : Int) (ws : List Int) (p' q' : Int) (hv : vs.length ≤ 140737488355328) (hw : ws.length ≤ 140737488355328) :
    Ctr Try.prog 57 [crv vs p q, crv ws p' q'] [] (fun r o => ∃ y, DBq vs p q ws p' q' y ∧ o = [] ∧ r = dbs y) :=
  Ctr.impE ((dboth_ok vs p q ws p' q' hv hw).mono (fun r o ⟨h1, h2⟩ => by
    rcases h2 with ⟨e, h, rfl⟩ | ⟨a, b, h3, h4, h5, h6⟩
    · exact ⟨.inl e, h, h1, Imp.refl _⟩
    · exact ⟨.inr (a, b), ⟨h3, h4, h5⟩, h1, h6⟩))
theorem Dof_ok (vs : List Int) (p q : Int) (ws : List Int) (p' q' : Int) (hv : vs.length ≤ 140737488355328) (hw : ws.length ≤ 140737488355328) :
    Ctr Try.prog 42 [crv vs p q, crv ws p' q'] [] (fun r o => ∃ x, DecP vs p q ws p' q' x ∧ o = [] ∧ r = crvE x) := by
  refine Ctr.impE ?_
  refine fn_intro (E := env 0) tys_ok rfl rfl rfl Try.func42 (by kernel_rfl) rfl (by kernel_rfl) ?_
  (repeat' (conv => whnf); first | refine aC (fun _ => ?_) (fun _ => ?_) | refine aS ?_ | refine aG ?_ | refine aD ?_ | refine aH ?_ | refine aP_E3 ?_ | refine aI ?_ | refine aJ ?_ | fail); all_goals try (conv => whnf)
  refine CallOb.mk [] (dboth' vs p q ws p' q' hv hw) rfl (ImpL.refl _) rfl rfl ?_
  rintro _ _ ⟨e | ⟨a, b⟩, h, rfl, rfl⟩
  · have he : e ≠ 0 := by
      rcases h with ⟨h, _⟩ | ⟨_, _, _, ⟨h, _⟩ | ⟨h, _⟩⟩ <;> omega
    (repeat' (conv => whnf); first | (refine aC (fun _ => ?_) (fun _ => ?_) <;> try (exfalso; omega)) | refine aS ?_ | refine aG ?_ | refine aD ?_ | refine aH ?_ | refine aP_E3 ?_ | refine aI ?_ | refine aJ ?_ | fail); all_goals try (conv => whnf)
    exact ⟨([], 0, 0, e), .inl ⟨e, h, rfl⟩, rfl, Imp.tup ⟨imp_zero, Imp.refl _, trivial⟩⟩
  obtain ⟨h1, h2, h3⟩ := h
  dsimp only at h1 h2 h3 ⊢
  have cO := dof_ok a b h1.va h1.vb h3 h2
  (repeat' (conv => whnf); first | (refine aC (fun _ => ?_) (fun _ => ?_) <;> try (exfalso; omega)) | refine aS ?_ | refine aG ?_ | refine aD ?_ | refine aH ?_ | refine aP_E3 ?_ | refine aI ?_ | refine aJ ?_ | fail); all_goals try (conv => whnf)
  refine CallOb.mk [] cO rfl (ImpL.refl _) rfl rfl ?_
  rintro _ _ ⟨⟨x1, x2, x3, x4⟩, hx, rfl, rfl⟩
  (repeat' (conv => whnf); first | (refine aC (fun _ => ?_) (fun _ => ?_) <;> try (exfalso; omega)) | refine aS ?_ | refine aG ?_ | refine aD ?_ | refine aH ?_ | refine aP_E3 ?_ | refine aI ?_ | refine aJ ?_ | fail); all_goals try (conv => whnf)
  exact ⟨(x1, x2, x3, x4), .inr ⟨a, b, h1, h2, h3, hx⟩, rfl, Imp.refl _⟩
end Go.Proofs.Ytifcdempdcolkab
