/-
  A text of the proofs of this seat: lemmas that the statements' proofs use; it states nothing of the program by itself beyond the contracts that its theorems bear. Conditions: those that stand in each theorem. Its short name: Un.
-/
import Derived.Test.YtnlmmjmcackgjaaUm
import Derived.Test.YtnlmmjmcackgjaaT11
import Derived.Test.YtnlmmjmcackgjaaN15
import Derived.Test.YtnlmmjmcackgjaaKw
set_option linter.unusedVariables false
set_option linter.unusedSimpArgs false
namespace Go.Proofs.Ytnlmmjmcackgjaa
open Go.Sx Go.Np Go.Tp
set_option maxRecDepth 4000
set_option maxHeartbeats 2000000
--APPX eds_len, nts_len, ivs_len
/-! the law TopologyExact -/
theorem need_mk {α : Type} {o : Option α} {k : α → Prop} {a : α} (h : o = some a) (hk : k a) : need o k := by rw [h]; exact hk
theorem noteq {α : Sort _} {a : α} (h : ¬ a = a) : False := h rfl
theorem noiff {p : Prop} (h : ¬ (p ↔ p)) : False := h Iff.rfl
theorem aP_Un {A B K : Prop} (k : K) (a : A := by (simp only [zA, zT, zD, zC, zN, ints_len, zR, eds_len, nts_len, ivs_len]; omega)) (b : B := by (simp only [zA, zT, zD, zC, zN, ints_len, zR, eds_len, nts_len, ivs_len]; omega)) : (A ∧ B) ∧ K := ⟨⟨a, b⟩, k⟩
theorem exact_ok (l : List Int) (hl : l.length ≤ 9223372036854775807) (raw : Nt) (hn : (raw.nm.length ≤ 12 ∧ raw.ln.length ≤ 12 ∧ raw.fl.length ≤ 12) → NL raw) (a b : Int) :
    Ctr Try.prog 4 [.psl 1 (ints l), ntv raw, i64 a, i64 b] [] (fun r o => o = [] ∧ r = .bl true) := by
  refine fn_intro (E := env 0) tys_ok rfl rfl rfl Try.func4 (by kernel_rfl) rfl (by kernel_rfl) ?_
  have hil := ints_len l
  have h1 := stl raw.nm
  have h2 := lnl raw.ln
  have h3 := fll raw.fl
  (repeat' (conv => whnf); first | refine aC (fun _ => ?_) (fun _ => ?_) | refine aS ?_ | refine aG ?_ | refine aD ?_ | refine aH ?_ | refine aP_Un ?_ | refine aI ?_ | refine aJ ?_ | refine aW (.qs [0, 2, 3, 6, 8] (.l 1 [6] (.l 4 [6] (.l 5 [6] (.qs [7] .nil) .no) .no) .no)) ?_ | refine aW (.qs [0, 2] (.l 1 [2] (.l 3 [] (.l 4 [] (.qs [5, 6, 7, 9] (.l 8 [9] (.l 10 [] (.l 11 [] (.qs [12, 13, 14, 15, 16] (.l 17 [] (.qs [18, 19, 20, 21, 22, 23, 24, 25, 26, 27] (.l 28 [] (.qs [29, 30, 31, 32, 33, 34, 35, 36, 37, 39] (.l 38 [39] (.l 40 [] (.l 41 [] (.qs [42, 43] .nil) .no) .no) .no)) .no)) .no)) .no) .no) .no)) .no) .no) .no)) ?_ | refine aW (.qs [0, 1, 2, 3, 4, 6, 7, 8, 9, 10] (.l 5 [10, 8, 6] (.l 11 [] (.qs [12] .nil) .no) .no)) ?_ | (refine aK [] (sane_ok) ?_) | fail); all_goals try (conv => whnf)
  all_goals try exact ⟨rfl, rfl⟩
  have hraw : NL raw := hn (by omega)
  have hL : (l.take 2000).length ≤ 2000 := by rw [List.length_take]; omega
  refine aK [] (New_ok l hl) ?_
  (repeat' (conv => whnf); first | (refine aC (fun _ => ?_) (fun _ => ?_) <;> try (exfalso; omega)) | refine aS ?_ | refine aG ?_ | refine aD ?_ | refine aH ?_ | refine aP_Un ?_ | refine aI ?_ | refine aJ ?_ | refine aW (.qs [0, 2, 3, 6, 8] (.l 1 [6] (.l 4 [6] (.l 5 [6] (.qs [7] .nil) .no) .no) .no)) ?_ | refine aW (.qs [0, 2] (.l 1 [2] (.l 3 [] (.l 4 [] (.qs [5, 6, 7, 9] (.l 8 [9] (.l 10 [] (.l 11 [] (.qs [12, 13, 14, 15, 16] (.l 17 [] (.qs [18, 19, 20, 21, 22, 23, 24, 25, 26, 27] (.l 28 [] (.qs [29, 30, 31, 32, 33, 34, 35, 36, 37, 39] (.l 38 [39] (.l 40 [] (.l 41 [] (.qs [42, 43] .nil) .no) .no) .no)) .no)) .no)) .no) .no) .no)) .no) .no) .no)) ?_ | refine aW (.qs [0, 1, 2, 3, 4, 6, 7, 8, 9, 10] (.l 5 [10, 8, 6] (.l 11 [] (.qs [12] .nil) .no) .no)) ?_ | (refine CallOb.mk [] (graph_ok l hl) rfl (ImpL.refl _) rfl rfl ?_; rintro _ _ ⟨g, hg, rfl, rfl⟩) | fail); all_goals try (conv => whnf)
  refine CallOb.mk [1] (Net_ok _ 0 hL (by omega) 4 4 (by omega) (by omega)) rfl (ImpL.refl _) rfl rfl ?_
  rintro _ _ ⟨⟨n, k, p1⟩, ⟨hG, hp1⟩, rfl, rfl⟩
  dsimp only at hG hp1 ⊢
  have hgn := hg.nl'
  generalize rtN g.1 g.2 = u0 at *
  (repeat' (conv => whnf); first | (refine aC (fun _ => ?_) (fun _ => ?_) <;> try (exfalso; omega)) | refine aS ?_ | refine aG ?_ | refine aD ?_ | refine aH ?_ | refine aP_Un ?_ | refine aI ?_ | refine aJ ?_ | refine aW (.qs [0, 2, 3, 6, 8] (.l 1 [6] (.l 4 [6] (.l 5 [6] (.qs [7] .nil) .no) .no) .no)) ?_ | refine aW (.qs [0, 2] (.l 1 [2] (.l 3 [] (.l 4 [] (.qs [5, 6, 7, 9] (.l 8 [9] (.l 10 [] (.l 11 [] (.qs [12, 13, 14, 15, 16] (.l 17 [] (.qs [18, 19, 20, 21, 22, 23, 24, 25, 26, 27] (.l 28 [] (.qs [29, 30, 31, 32, 33, 34, 35, 36, 37, 39] (.l 38 [39] (.l 40 [] (.l 41 [] (.qs [42, 43] .nil) .no) .no) .no)) .no)) .no)) .no) .no) .no)) .no) .no) .no)) ?_ | refine aW (.qs [0, 1, 2, 3, 4, 6, 7, 8, 9, 10] (.l 5 [10, 8, 6] (.l 11 [] (.qs [12] .nil) .no) .no)) ?_ | fail); all_goals try (conv => whnf)
  refine CallOb.mk [1] (BentNet_ok _ _ hL hp1 4 4 k n hG) rfl (ImpL.refl _) rfl rfl ?_
  rintro _ _ ⟨⟨m, p2⟩, ⟨hm, hp2⟩, rfl, rfl⟩
  dsimp only at hm hp2 ⊢
  (repeat' (conv => whnf); first | (refine aC (fun _ => ?_) (fun _ => ?_) <;> try (exfalso; omega)) | refine aS ?_ | refine aG ?_ | refine aD ?_ | refine aH ?_ | refine aP_Un ?_ | refine aI ?_ | refine aJ ?_ | refine aW (.qs [0, 2, 3, 6, 8] (.l 1 [6] (.l 4 [6] (.l 5 [6] (.qs [7] .nil) .no) .no) .no)) ?_ | refine aW (.qs [0, 2] (.l 1 [2] (.l 3 [] (.l 4 [] (.qs [5, 6, 7, 9] (.l 8 [9] (.l 10 [] (.l 11 [] (.qs [12, 13, 14, 15, 16] (.l 17 [] (.qs [18, 19, 20, 21, 22, 23, 24, 25, 26, 27] (.l 28 [] (.qs [29, 30, 31, 32, 33, 34, 35, 36, 37, 39] (.l 38 [39] (.l 40 [] (.l 41 [] (.qs [42, 43] .nil) .no) .no) .no)) .no)) .no)) .no) .no) .no)) .no) .no) .no)) ?_ | refine aW (.qs [0, 1, 2, 3, 4, 6, 7, 8, 9, 10] (.l 5 [10, 8, 6] (.l 11 [] (.qs [12] .nil) .no) .no)) ?_ | fail); all_goals try (conv => whnf)
  have hM := hm.nl
  have hf := hm.fb
  clear hg hG hm
  refine LoopOb.mk (Y := Nat × Nat) (st := fun y => ⟨[(54, i64 y.1), (53, .agg [.psl 1 (strs u0.nm), .psl 5 (lns u0.ln), .psl 8 (fls u0.fl), .psl 1 (strs m.nm), .psl 5 (lns m.ln), .psl 8 (fls m.fl), .psl 1 (strs raw.nm), .psl 5 (lns raw.ln), .psl 8 (fls raw.fl)]), (9, .ptr 1 0), (8, .bl false), (2, i64 a), (3, i64 b)], [.box [.psl 1 (strs raw.nm), .psl 5 (lns raw.ln), .psl 8 (fls raw.fl)], src (l.take 2000) y.2]⟩)
    (inv := fun y => y.1 ≤ 3 ∧ y.2 ≤ 2000) (fun y => 3 - y.1) (0, p2) [0, 1] ⟨by simp, hp2⟩ (by (exact aL)) ?_
  clear hp1 hp2 p1 p2
  rintro ⟨i, k⟩ ⟨hi, hk⟩
  dsimp only at hi hk ⊢
  (repeat' (conv => whnf); first | refine aS ?_ | refine aG ?_ | refine aD ?_ | refine aH ?_ | refine aP_Un ?_ | refine aI ?_ | refine aJ ?_ | refine aW (.qs [0, 2, 3, 6, 8] (.l 1 [6] (.l 4 [6] (.l 5 [6] (.qs [7] .nil) .no) .no) .no)) ?_ | refine aW (.qs [0, 2] (.l 1 [2] (.l 3 [] (.l 4 [] (.qs [5, 6, 7, 9] (.l 8 [9] (.l 10 [] (.l 11 [] (.qs [12, 13, 14, 15, 16] (.l 17 [] (.qs [18, 19, 20, 21, 22, 23, 24, 25, 26, 27] (.l 28 [] (.qs [29, 30, 31, 32, 33, 34, 35, 36, 37, 39] (.l 38 [39] (.l 40 [] (.l 41 [] (.qs [42, 43] .nil) .no) .no) .no)) .no)) .no)) .no) .no) .no)) .no) .no) .no)) ?_ | refine aW (.qs [0, 1, 2, 3, 4, 6, 7, 8, 9, 10] (.l 5 [10, 8, 6] (.l 11 [] (.qs [12] .nil) .no) .no)) ?_ | fail); all_goals try (conv => whnf)
  refine CondOb.mk (fun hlt => ?_) (fun hlt => ?_)
  · have hi3 : i < 3 := by omega
    obtain ⟨u, hu, he⟩ : ∃ u, NL u ∧ (i = 0 ∧ u = u0 ∨ i = 1 ∧ u = m ∨ i = 2 ∧ u = raw) := by
      rcases (show i = 0 ∨ i = 1 ∨ i = 2 by omega) with h | h | h
      · exact ⟨u0, hgn, .inl ⟨h, rfl⟩⟩
      · exact ⟨m, hM, .inr (.inl ⟨h, rfl⟩)⟩
      · exact ⟨raw, hraw, .inr (.inr ⟨h, rfl⟩)⟩
    (repeat' (conv => whnf); first | refine aS ?_ | refine aG ?_ | refine aD ?_ | refine aH ?_ | refine aP_Un ?_ | refine aI ?_ | refine aJ ?_ | refine aW (.qs [0, 2, 3, 6, 8] (.l 1 [6] (.l 4 [6] (.l 5 [6] (.qs [7] .nil) .no) .no) .no)) ?_ | refine aW (.qs [0, 2] (.l 1 [2] (.l 3 [] (.l 4 [] (.qs [5, 6, 7, 9] (.l 8 [9] (.l 10 [] (.l 11 [] (.qs [12, 13, 14, 15, 16] (.l 17 [] (.qs [18, 19, 20, 21, 22, 23, 24, 25, 26, 27] (.l 28 [] (.qs [29, 30, 31, 32, 33, 34, 35, 36, 37, 39] (.l 38 [39] (.l 40 [] (.l 41 [] (.qs [42, 43] .nil) .no) .no) .no)) .no)) .no)) .no) .no) .no)) .no) .no) .no)) ?_ | refine aW (.qs [0, 1, 2, 3, 4, 6, 7, 8, 9, 10] (.l 5 [10, 8, 6] (.l 11 [] (.qs [12] .nil) .no) .no)) ?_ | fail); all_goals try (conv => whnf)
    refine ⟨i, rfl, hi3, need_mk (a := ntv u) (by rcases he with ⟨rfl, rfl⟩ | ⟨rfl, rfl⟩ | ⟨rfl, rfl⟩ <;> rfl) ?_⟩
    have c1 := tOrdX u hu
    have c2 := rOrdX u hu
    have c3 := tLevX u hu
    have c4 := rLevX u hu
    have c5 := tCycX u hu
    have c6 := rCycX u hu
    have l1 : (ordX u).1.length ≤ 1000 := ordX_len u
    have l2 : (levX u).1.length ≤ 1000 := levX_len u
    have l3 : (cycX u).length ≤ 1000 := cycX_len u
    have l4 : (edgX u).length ≤ 1000 := edgX_len u
    have l5 : (cutX u).length ≤ 1000 := cutX_len u
    have c7 := tEdgX u hu
    have c8 := rEdgX u hu
    have c9 := tCutX u hu
    have c10 := rCutX u hu
    generalize ordX u = X1 at *
    generalize levX u = X2 at *
    generalize cycX u = X3 at *
    generalize edgX u = X4 at *
    generalize cutX u = X5 at *
    obtain ⟨po, pb⟩ := X1
    obtain ⟨vo, vb⟩ := X2
    dsimp only at c1 c2 c3 c4 l1 l2
    cases pb <;> cases vb
    all_goals
      (repeat' (conv => whnf); first | (refine aC (fun _ => ?_) (fun _ => ?_) <;> try (exfalso; omega)) | refine aS ?_ | refine aG ?_ | refine aD ?_ | refine aH ?_ | refine aP_Un ?_ | refine aI ?_ | refine aJ ?_ | refine aW (.qs [0, 2, 3, 6, 8] (.l 1 [6] (.l 4 [6] (.l 5 [6] (.qs [7] .nil) .no) .no) .no)) ?_ | refine aW (.qs [0, 2] (.l 1 [2] (.l 3 [] (.l 4 [] (.qs [5, 6, 7, 9] (.l 8 [9] (.l 10 [] (.l 11 [] (.qs [12, 13, 14, 15, 16] (.l 17 [] (.qs [18, 19, 20, 21, 22, 23, 24, 25, 26, 27] (.l 28 [] (.qs [29, 30, 31, 32, 33, 34, 35, 36, 37, 39] (.l 38 [39] (.l 40 [] (.l 41 [] (.qs [42, 43] .nil) .no) .no) .no)) .no)) .no)) .no) .no) .no)) .no) .no) .no)) ?_ | refine aW (.qs [0, 1, 2, 3, 4, 6, 7, 8, 9, 10] (.l 5 [10, 8, 6] (.l 11 [] (.qs [12] .nil) .no) .no)) ?_ | (refine aK [] c1 ?_) | (refine aK [] c2 ?_) | (refine aK [] c3 ?_) | (refine aK [] c4 ?_) | (refine aK [] c5 ?_) | (refine aK [] c6 ?_) | (refine aK [] c7 ?_) | (refine aK [] c8 ?_) | (refine aK [] c9 ?_) | (refine aK [] c10 ?_) | (refine aK [] (pairs_ok X4 l4) ?_) | (refine aK [] (pairs_ok X5 l5) ?_) | (refine aK [] (kInts_ok po po (by omega)) ?_) | (refine aK [] (kInts_ok vo vo (by omega)) ?_) | (refine aK [] (kInts_ok X3 X3 (by omega)) ?_) | (refine CallOb.mk [1] (N_ok _ k hL hk 6 (by omega) (by omega)) rfl (ImpL.refl _) rfl rfl ?_; rintro _ _ ⟨⟨v0, k0⟩, ⟨n1, n2, hk0⟩, rfl, rfl⟩; dsimp only at n1 n2 hk0 ⊢) | (refine CallOb.mk [1] (N_ok _ k0 hL hk0 6 (by omega) (by omega)) rfl (ImpL.refl _) rfl rfl ?_; rintro _ _ ⟨⟨v1, k1⟩, ⟨n3, n4, hk1⟩, rfl, rfl⟩; dsimp only at n3 n4 hk1 ⊢) | fail); all_goals try (conv => whnf)
    all_goals try (exfalso; first | exact noteq (by assumption) | exact noiff (by assumption))
    all_goals
      refine LoopOb.mk (Y := Nat) (st := fun j => ⟨[(131, i64 j), (130, .agg [i64 a, i64 b, i64 v0, i64 v1, i64 0, i64 1]), (54, i64 i), (53, .agg [.psl 1 (strs u0.nm), .psl 5 (lns u0.ln), .psl 8 (fls u0.fl), .psl 1 (strs m.nm), .psl 5 (lns m.ln), .psl 8 (fls m.fl), .psl 1 (strs raw.nm), .psl 5 (lns raw.ln), .psl 8 (fls raw.fl)]), (11, .ptr 2 0), (9, .ptr 1 0), (8, .bl false), (2, i64 a), (3, i64 b)], [.box [.psl 1 (strs raw.nm), .psl 5 (lns raw.ln), .psl 8 (fls raw.fl)], src (l.take 2000) k1, .box [.psl 1 (strs u.nm), .psl 5 (lns u.ln), .psl 8 (fls u.fl)]]⟩)
        (inv := fun j => j ≤ 3) (fun j => 3 - j) 0 [0, 1, 2] (by omega) (by (exact aL)) ?_
      rintro j hj
      (repeat' (conv => whnf); first | refine aS ?_ | refine aG ?_ | refine aD ?_ | refine aH ?_ | refine aP_Un ?_ | refine aI ?_ | refine aJ ?_ | refine aW (.qs [0, 2, 3, 6, 8] (.l 1 [6] (.l 4 [6] (.l 5 [6] (.qs [7] .nil) .no) .no) .no)) ?_ | refine aW (.qs [0, 2] (.l 1 [2] (.l 3 [] (.l 4 [] (.qs [5, 6, 7, 9] (.l 8 [9] (.l 10 [] (.l 11 [] (.qs [12, 13, 14, 15, 16] (.l 17 [] (.qs [18, 19, 20, 21, 22, 23, 24, 25, 26, 27] (.l 28 [] (.qs [29, 30, 31, 32, 33, 34, 35, 36, 37, 39] (.l 38 [39] (.l 40 [] (.l 41 [] (.qs [42, 43] .nil) .no) .no) .no)) .no)) .no)) .no) .no) .no)) .no) .no) .no)) ?_ | refine aW (.qs [0, 1, 2, 3, 4, 6, 7, 8, 9, 10] (.l 5 [10, 8, 6] (.l 11 [] (.qs [12] .nil) .no) .no)) ?_ | fail); all_goals try (conv => whnf)
      refine CondOb.mk (fun hjt => ?_) (fun hjt => ?_)
    all_goals
      first
      | (obtain ⟨x, y, hxy⟩ : ∃ x y : Int, (j = 0 ∧ x = a ∧ y = b) ∨ (j = 1 ∧ x = v0 ∧ y = v1) ∨ (j = 2 ∧ x = 0 ∧ y = 1) := by
          rcases (show j = 0 ∨ j = 1 ∨ j = 2 by omega) with h | h | h
          · exact ⟨_, _, .inl ⟨h, rfl, rfl⟩⟩
          · exact ⟨_, _, .inr (.inl ⟨h, rfl, rfl⟩)⟩
          · exact ⟨_, _, .inr (.inr ⟨h, rfl, rfl⟩)⟩
         (repeat' (conv => whnf); first | refine aS ?_ | refine aG ?_ | refine aD ?_ | refine aH ?_ | refine aP_Un ?_ | refine aI ?_ | refine aJ ?_ | refine aW (.qs [0, 2, 3, 6, 8] (.l 1 [6] (.l 4 [6] (.l 5 [6] (.qs [7] .nil) .no) .no) .no)) ?_ | refine aW (.qs [0, 2] (.l 1 [2] (.l 3 [] (.l 4 [] (.qs [5, 6, 7, 9] (.l 8 [9] (.l 10 [] (.l 11 [] (.qs [12, 13, 14, 15, 16] (.l 17 [] (.qs [18, 19, 20, 21, 22, 23, 24, 25, 26, 27] (.l 28 [] (.qs [29, 30, 31, 32, 33, 34, 35, 36, 37, 39] (.l 38 [39] (.l 40 [] (.l 41 [] (.qs [42, 43] .nil) .no) .no) .no)) .no)) .no)) .no) .no) .no)) .no) .no) .no)) ?_ | refine aW (.qs [0, 1, 2, 3, 4, 6, 7, 8, 9, 10] (.l 5 [10, 8, 6] (.l 11 [] (.qs [12] .nil) .no) .no)) ?_ | fail); all_goals try (conv => whnf)
         refine ⟨j, rfl, (by omega), need_mk (a := .agg [i64 x, i64 y]) (by rcases hxy with ⟨rfl, rfl, rfl⟩ | ⟨rfl, rfl, rfl⟩ | ⟨rfl, rfl, rfl⟩ <;> rfl) ?_⟩
         (repeat' (conv => whnf); first | (refine aC (fun _ => ?_) (fun _ => ?_) <;> try (exfalso; omega)) | refine aS ?_ | refine aG ?_ | refine aD ?_ | refine aH ?_ | refine aP_Un ?_ | refine aI ?_ | refine aJ ?_ | refine aW (.qs [0, 2, 3, 6, 8] (.l 1 [6] (.l 4 [6] (.l 5 [6] (.qs [7] .nil) .no) .no) .no)) ?_ | refine aW (.qs [0, 2] (.l 1 [2] (.l 3 [] (.l 4 [] (.qs [5, 6, 7, 9] (.l 8 [9] (.l 10 [] (.l 11 [] (.qs [12, 13, 14, 15, 16] (.l 17 [] (.qs [18, 19, 20, 21, 22, 23, 24, 25, 26, 27] (.l 28 [] (.qs [29, 30, 31, 32, 33, 34, 35, 36, 37, 39] (.l 38 [39] (.l 40 [] (.l 41 [] (.qs [42, 43] .nil) .no) .no) .no)) .no)) .no)) .no) .no) .no)) .no) .no) .no)) ?_ | refine aW (.qs [0, 1, 2, 3, 4, 6, 7, 8, 9, 10] (.l 5 [10, 8, 6] (.l 11 [] (.qs [12] .nil) .no) .no)) ?_ | (refine aK [] (tReaches_ok u hu x y) ?_) | (refine aK [] (rReaches_ok u hu x y) ?_) | refine ⟨0, rfl, by omega, ?_⟩ | refine ⟨1, rfl, by omega, ?_⟩ | fail); all_goals try (conv => whnf)
         all_goals first | (exfalso; first | exact noteq (by assumption) | exact noiff (by assumption)) | skip
         exact ⟨j + 1, [0, 1, 2], by omega, by omega, by (exact aL)⟩
         done)
      | (skip
         (repeat' (conv => whnf); first | refine aS ?_ | refine aG ?_ | refine aD ?_ | refine aH ?_ | refine aP_Un ?_ | refine aI ?_ | refine aJ ?_ | refine aW (.qs [0, 2, 3, 6, 8] (.l 1 [6] (.l 4 [6] (.l 5 [6] (.qs [7] .nil) .no) .no) .no)) ?_ | refine aW (.qs [0, 2] (.l 1 [2] (.l 3 [] (.l 4 [] (.qs [5, 6, 7, 9] (.l 8 [9] (.l 10 [] (.l 11 [] (.qs [12, 13, 14, 15, 16] (.l 17 [] (.qs [18, 19, 20, 21, 22, 23, 24, 25, 26, 27] (.l 28 [] (.qs [29, 30, 31, 32, 33, 34, 35, 36, 37, 39] (.l 38 [39] (.l 40 [] (.l 41 [] (.qs [42, 43] .nil) .no) .no) .no)) .no)) .no)) .no) .no) .no)) .no) .no) .no)) ?_ | refine aW (.qs [0, 1, 2, 3, 4, 6, 7, 8, 9, 10] (.l 5 [10, 8, 6] (.l 11 [] (.qs [12] .nil) .no) .no)) ?_ | fail); all_goals try (conv => whnf)
         exact ⟨(i + 1, k1), [0, 1], ⟨by omega, hk1⟩, by omega, by (exact aL)⟩)
  · (repeat' (conv => whnf); first | (refine aC (fun _ => ?_) (fun _ => ?_) <;> try (exfalso; omega)) | refine aS ?_ | refine aG ?_ | refine aD ?_ | refine aH ?_ | refine aP_Un ?_ | refine aI ?_ | refine aJ ?_ | refine aW (.qs [0, 2, 3, 6, 8] (.l 1 [6] (.l 4 [6] (.l 5 [6] (.qs [7] .nil) .no) .no) .no)) ?_ | refine aW (.qs [0, 2] (.l 1 [2] (.l 3 [] (.l 4 [] (.qs [5, 6, 7, 9] (.l 8 [9] (.l 10 [] (.l 11 [] (.qs [12, 13, 14, 15, 16] (.l 17 [] (.qs [18, 19, 20, 21, 22, 23, 24, 25, 26, 27] (.l 28 [] (.qs [29, 30, 31, 32, 33, 34, 35, 36, 37, 39] (.l 38 [39] (.l 40 [] (.l 41 [] (.qs [42, 43] .nil) .no) .no) .no)) .no)) .no)) .no) .no) .no)) .no) .no) .no)) ?_ | refine aW (.qs [0, 1, 2, 3, 4, 6, 7, 8, 9, 10] (.l 5 [10, 8, 6] (.l 11 [] (.qs [12] .nil) .no) .no)) ?_ | (refine aK [] (sane_ok) ?_) | fail); all_goals try (conv => whnf)
    all_goals exact ⟨rfl, rfl⟩
end Go.Proofs.Ytnlmmjmcackgjaa
