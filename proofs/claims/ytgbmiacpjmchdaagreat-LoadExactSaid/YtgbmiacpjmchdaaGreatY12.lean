/-
  A text of the proofs of this seat: lemmas that the statements' proofs use; it states nothing of the program by itself beyond the contracts that its theorems bear. Conditions: those that stand in each theorem. Its short name: Y12.
-/
import Derived.Test.YtgbmiacpjmchdaaGreatY9
import Derived.Test.YtgbmiacpjmchdaaGreatFb
import Derived.Test.YtgbmiacpjmchdaaGreatY11
import Derived.Test.YtgbmiacpjmchdaaGreatX6
import Derived.Test.YtgbmiacpjmchdaaGreatX8
import Derived.Test.YtgbmiacpjmchdaaGreatNw
import Derived.Test.YtgbmiacpjmchdaaGreatKw
set_option linter.unusedVariables false
set_option linter.unusedSimpArgs false
namespace Go.Proofs.YtgbmiacpjmchdaaGreat
open Go.Sx Go.Np Go.Cv Go.Tp Go.Fq Go.Lp
set_option maxRecDepth 4000
set_option maxHeartbeats 2000000
/-! the law LoadExact -/
theorem need_mk {α : Type} {o : Option α} {k : α → Prop} {a : α} (h : o = some a) (hk : k a) : need o k := by rw [h]; exact hk
theorem noteq {α : Sort _} {a : α} (h : ¬ a = a) : False := h rfl
theorem noiff {p : Prop} (h : ¬ (p ↔ p)) : False := h Iff.rfl
theorem nothree {α β γ : Type} {a : α} {b : β} {c : γ} (h : ¬(a = a ∧ b = b ∧ c = c)) : False := h ⟨rfl, rfl, rfl⟩
theorem cvw_get {cs : List C3} {t : Nat} (h : t < cs.length) : (cs.map cvw)[t]? = some (cvw (cs.getD t ([], 0, 0))) := by simp [h]
theorem noconj {a b : Int} (h : ¬conj ([a = a] ++ ([b = b] ++ []))) : False := h (by simp [conj])
theorem befR_eq (o : Option Nat) : befR o = .tup [i64 (o.getD 0 : Nat), .bl o.isSome] := by cases o <;> rfl
theorem mk_len {F : Nat → Int} {x : E4} (h : MkP F x) : x.1.length ≤ 400 := by
  rcases h with ⟨vs, p, q, _, h, rfl⟩ | ⟨_, rfl⟩
  · exact h.n2
  · exact Nat.zero_le _
theorem atP_len {n : Nt} {d : List (List Int)} {f h : Int} {x : E4} (hx : AtP n d f h x) : x.1.length ≤ 400 := by
  rcases hx with ⟨a, rfl⟩ | ⟨a, b, rfl⟩ | ⟨a, b, ⟨_, rfl⟩ | ⟨s, _, h⟩⟩
  · exact Nat.zero_le _
  · exact Nat.zero_le _
  · exact Nat.zero_le _
  · exact mk_len h
theorem foldR_good {n : Nt} {d : List (List Int)} {l : Int} {ms : List Int} {N i : Nat} {a : C3} {y : C3 × Int} (h : FoldR (fun i a y => StepR n d l (ms.getD i 0) a y) N i a y) (ha : Good a) : y.1.1.length ≤ 400 := by
  induction h with
  | stop a => exact ha.1.n2
  | go h1 h2 h3 _ ih => exact ih (StepR.good h2 ha h3)
  | err => exact Nat.zero_le _
theorem clsP_len {n : Nt} {d : List (List Int)} {l c : Int} {y : C3 × Int} (h : ClsP n d l c y) : y.1.1.length ≤ 400 := by
  rcases h with ⟨a, rfl⟩ | ⟨a, b, rfl⟩ | ⟨a, b, h⟩
  · exact Nat.zero_le _
  · exact Nat.zero_le _
  · exact foldR_good h zero_good
theorem conR_len {n : Nt} {d : List (List Int)} {l : Int} {N : Nat} {cs : List C3} {y : List C3 × Int} (h : ConR (fun (c : Nat) y => ClsP n d l c y) N cs y) (hc : cs.length ≤ N) (ha : ∀ c ∈ cs, c.1.length ≤ 400) : y.1.length ≤ N ∧ ∀ c ∈ y.1, c.1.length ≤ 400 := by
  induction h with
  | stop cs h => exact ⟨by dsimp only; omega, ha⟩
  | go h1 h2 _ ih =>
    refine ih (by rw [List.length_append, List.length_singleton]; omega) fun c hc => ?_
    rcases List.mem_append.1 hc with hc | hc
    · exact ha c hc
    · rw [List.mem_singleton.1 hc]; exact clsP_len h2
  | err => exact ⟨Nat.zero_le _, by simp⟩
theorem conP_len {n : Nt} {d : List (List Int)} {l : Int} {y : List C3 × Int} (h : ConP n d l y) : y.1.length ≤ 6 ∧ ∀ c ∈ y.1, c.1.length ≤ 400 := by
  rcases h with ⟨a, rfl⟩ | ⟨a, b, rfl⟩ | ⟨a, b, h⟩
  · exact ⟨Nat.zero_le _, by simp⟩
  · exact ⟨Nat.zero_le _, by simp⟩
  · have := chk_cls a.c (i := l.toNat) (by omega)
    have h2 := conR_len h (Nat.zero_le _) (by simp)
    exact ⟨by omega, h2.2⟩
theorem overP_len (n : Nt) : (overP n).1.length ≤ 1000000 := by
  unfold overP
  split
  · simp
  · have h := (chkN_zero (Classical.not_not.1 (by assumption : ¬chkN n ≠ 0))).1
    have := ovS_len n n.ln.length
    omega
theorem aP_Y12 {A B K : Prop} (k : K) (a : A := by (simp only [zA, zT, zD, zC, zN, ints_len, zR, lnl, fll, stl]; omega)) (b : B := by (simp only [zA, zT, zD, zC, zN, ints_len, zR, lnl, fll, stl]; omega)) : (A ∧ B) ∧ K := ⟨⟨a, b⟩, k⟩
theorem lexact_ok (l : List Int) (hl : l.length ≤ 9223372036854775807) (raw : Nt) (hraw : NL raw) (odd : List (List Int)) (hodd : DL odd) (fw hp lw cw : Int) :
    Ctr Tryz.prog 3 [.psl 1 (ints l), ntv raw, .psl 1 (dls odd), i64 fw, i64 hp, i64 lw, i64 cw] [] (fun r o => r = .bl true) := by
  refine fn_intro (E := env 0) tys_ok rfl rfl rfl Tryz.func3 (by kernel_rfl) rfl (by kernel_rfl) ?_
  have hil := ints_len l
  have h1 := stl raw.nm
  have h2 := lnl raw.ln
  have h3 := fll raw.fl
  have h4 := dls_len odd
  (repeat' (conv => whnf); first | refine aC (fun _ => ?_) (fun _ => ?_) | refine aS ?_ | refine aG ?_ | refine aD ?_ | refine aH ?_ | refine aP_Y12 ?_ | refine aI ?_ | refine aJ ?_ | refine aW (.qs [0, 1, 2, 4, 6] (.l 3 [4, 0] (.qs [5] .nil) .no)) ?_ | refine aW (.qs [0, 1, 3, 4] (.l 2 [3] (.l 5 [] (.qs [6] .nil) .no) .no)) ?_ | refine aW (.qs [0, 1, 2, 3, 4, 5, 6, 7] (.l 8 [] (.qs [9] .nil) .no)) ?_ | (refine aK [] (sane_ok) ?_) | fail); all_goals try (conv => whnf)
  all_goals try rfl
  have hrf : raw.fl.length ≤ 1000 := by omega
  have hL : (l.take 2000).length ≤ 2000 := by rw [List.length_take]; omega
  refine aK [] (New_ok l hl) ?_
  (repeat' (conv => whnf); first | (refine aC (fun _ => ?_) (fun _ => ?_) <;> try (exfalso; omega)) | refine aS ?_ | refine aG ?_ | refine aD ?_ | refine aH ?_ | refine aP_Y12 ?_ | refine aI ?_ | refine aJ ?_ | refine aW (.qs [0, 1, 2, 4, 6] (.l 3 [4, 0] (.qs [5] .nil) .no)) ?_ | refine aW (.qs [0, 1, 3, 4] (.l 2 [3] (.l 5 [] (.qs [6] .nil) .no) .no)) ?_ | refine aW (.qs [0, 1, 2, 3, 4, 5, 6, 7] (.l 8 [] (.qs [9] .nil) .no)) ?_ | fail); all_goals try (conv => whnf)
  refine CallOb.mk [1] (Net_ok _ 0 hL (by omega) 3 4 (by omega) (by omega)) rfl (ImpL.refl _) rfl rfl ?_
  rintro _ _ ⟨⟨n, k, p1⟩, ⟨hG, hp1⟩, rfl, rfl⟩
  dsimp only at hG hp1 ⊢
  have hn := hG.nl
  have g := hG.g
  have g2 := g.ll
  have g3 := g.fl
  have gk := g.k1
  have hnf : n.fl.length ≤ 1000 := by omega
  (repeat' (conv => whnf); first | (refine aC (fun _ => ?_) (fun _ => ?_) <;> try (exfalso; omega)) | refine aS ?_ | refine aG ?_ | refine aD ?_ | refine aH ?_ | refine aP_Y12 ?_ | refine aI ?_ | refine aJ ?_ | refine aW (.qs [0, 1, 2, 4, 6] (.l 3 [4, 0] (.qs [5] .nil) .no)) ?_ | refine aW (.qs [0, 1, 3, 4] (.l 2 [3] (.l 5 [] (.qs [6] .nil) .no) .no)) ?_ | refine aW (.qs [0, 1, 2, 3, 4, 5, 6, 7] (.l 8 [] (.qs [9] .nil) .no)) ?_ | fail); all_goals try (conv => whnf)
  refine CallOb.mk [1] (Delays_ok _ p1 hL hp1 n (by omega) (fun i hi => by
    have := (g.le _ (Go.Np.getD_in (d := ln0) hi)).2; omega)) rfl (ImpL.refl _) rfl rfl ?_
  rintro _ _ ⟨⟨d, p2⟩, ⟨hD, hp2⟩, rfl, rfl⟩
  dsimp only at hD hp2 ⊢
  have hDS : DS d := ⟨by have := hD.l; omega, fun r hr => by
    obtain ⟨i, hi, rfl⟩ := List.getElem_of_mem hr
    have h1 := hD.r i (by have := hD.l; omega)
    have h2 := (g.le _ (Go.Np.getD_in (d := ln0) (show i < n.ln.length by have := hD.l; omega))).2
    rw [List.getD_eq_getElem?_getD, List.getElem?_eq_getElem hi] at h1
    dsimp only [Option.getD_some] at h1
    omega, fun r hr x hx => by
    obtain ⟨i, hi, rfl⟩ := List.getElem_of_mem hr
    have h1 := hD.b i (by have := hD.l; omega) x (by rw [List.getD_eq_getElem?_getD, List.getElem?_eq_getElem hi]; exact hx)
    omega⟩
  (repeat' (conv => whnf); first | (refine aC (fun _ => ?_) (fun _ => ?_) <;> try (exfalso; omega)) | refine aS ?_ | refine aG ?_ | refine aD ?_ | refine aH ?_ | refine aP_Y12 ?_ | refine aI ?_ | refine aJ ?_ | refine aW (.qs [0, 1, 2, 4, 6] (.l 3 [4, 0] (.qs [5] .nil) .no)) ?_ | refine aW (.qs [0, 1, 3, 4] (.l 2 [3] (.l 5 [] (.qs [6] .nil) .no) .no)) ?_ | refine aW (.qs [0, 1, 2, 3, 4, 5, 6, 7] (.l 8 [] (.qs [9] .nil) .no)) ?_ | fail); all_goals try (conv => whnf)
  refine CallOb.mk [1] (BentNet_ok _ _ hL (by assumption) 3 4 k n hG) rfl (ImpL.refl _) rfl rfl ?_
  rintro _ _ ⟨⟨m, p3⟩, ⟨hm, hp3⟩, rfl, rfl⟩
  dsimp only at hm hp3 ⊢
  (repeat' (conv => whnf); first | (refine aC (fun _ => ?_) (fun _ => ?_) <;> try (exfalso; omega)) | refine aS ?_ | refine aG ?_ | refine aD ?_ | refine aH ?_ | refine aP_Y12 ?_ | refine aI ?_ | refine aJ ?_ | refine aW (.qs [0, 1, 2, 4, 6] (.l 3 [4, 0] (.qs [5] .nil) .no)) ?_ | refine aW (.qs [0, 1, 3, 4] (.l 2 [3] (.l 5 [] (.qs [6] .nil) .no) .no)) ?_ | refine aW (.qs [0, 1, 2, 3, 4, 5, 6, 7] (.l 8 [] (.qs [9] .nil) .no)) ?_ | fail); all_goals try (conv => whnf)
  have hM := hm.nl
  have hmf := hm.fb
  clear hm hD hp1 hp2
  clear g g2 g3 gk hG
  refine LoopOb.mk (Y := Nat × Nat) (st := fun y => ⟨[(96, i64 y.1), (95, .agg [.psl 1 (strs n.nm), .psl 5 (lns n.ln), .psl 8 (fls n.fl), .psl 1 (strs m.nm), .psl 5 (lns m.ln), .psl 8 (fls m.fl), .psl 1 (strs raw.nm), .psl 5 (lns raw.ln), .psl 8 (fls raw.fl)]), (17, .psl 1 (dls d)), (15, .ptr 1 0), (14, .bl false), (2, .psl 1 (dls odd)), (3, i64 fw), (4, i64 hp), (5, i64 lw), (6, i64 cw)], [.box [.psl 1 (strs raw.nm), .psl 5 (lns raw.ln), .psl 8 (fls raw.fl)], src (l.take 2000) y.2, .box [.psl 1 (strs n.nm), .psl 5 (lns n.ln), .psl 8 (fls n.fl)]]⟩)
    (inv := fun y => y.1 ≤ 3 ∧ y.2 ≤ 2000) (fun y => 3 - y.1) (0, p3) [0, 1, 2] ⟨by simp, hp3⟩ (by (exact aL)) ?_
  clear hp3 p3 p2 p1 k
  rintro ⟨i, k⟩ ⟨hi, hk⟩
  dsimp only at hi hk ⊢
  (repeat' (conv => whnf); first | refine aS ?_ | refine aG ?_ | refine aD ?_ | refine aH ?_ | refine aP_Y12 ?_ | refine aI ?_ | refine aJ ?_ | refine aW (.qs [0, 1, 2, 4, 6] (.l 3 [4, 0] (.qs [5] .nil) .no)) ?_ | refine aW (.qs [0, 1, 3, 4] (.l 2 [3] (.l 5 [] (.qs [6] .nil) .no) .no)) ?_ | refine aW (.qs [0, 1, 2, 3, 4, 5, 6, 7] (.l 8 [] (.qs [9] .nil) .no)) ?_ | fail); all_goals try (conv => whnf)
  refine CondOb.mk (fun hlt => ?_) (fun hlt => ?_)
  · have hi3 : i < 3 := by omega
    obtain ⟨u, hu, hub, he⟩ : ∃ u, NL u ∧ u.fl.length ≤ 1000 ∧ (i = 0 ∧ u = n ∨ i = 1 ∧ u = m ∨ i = 2 ∧ u = raw) := by
      rcases (show i = 0 ∨ i = 1 ∨ i = 2 by omega) with h | h | h
      · exact ⟨n, hn, hnf, .inl ⟨h, rfl⟩⟩
      · exact ⟨m, hM, by omega, .inr (.inl ⟨h, rfl⟩)⟩
      · exact ⟨raw, hraw, hrf, .inr (.inr ⟨h, rfl⟩)⟩
    (repeat' (conv => whnf); first | refine aS ?_ | refine aG ?_ | refine aD ?_ | refine aH ?_ | refine aP_Y12 ?_ | refine aI ?_ | refine aJ ?_ | refine aW (.qs [0, 1, 2, 4, 6] (.l 3 [4, 0] (.qs [5] .nil) .no)) ?_ | refine aW (.qs [0, 1, 3, 4] (.l 2 [3] (.l 5 [] (.qs [6] .nil) .no) .no)) ?_ | refine aW (.qs [0, 1, 2, 3, 4, 5, 6, 7] (.l 8 [] (.qs [9] .nil) .no)) ?_ | fail); all_goals try (conv => whnf)
    refine ⟨i, rfl, hi3, need_mk (a := ntv u) (by rcases he with ⟨rfl, rfl⟩ | ⟨rfl, rfl⟩ | ⟨rfl, rfl⟩ <;> rfl) ?_⟩
    (repeat' (conv => whnf); first | (refine aC (fun _ => ?_) (fun _ => ?_) <;> try (exfalso; omega)) | refine aS ?_ | refine aG ?_ | refine aD ?_ | refine aH ?_ | refine aP_Y12 ?_ | refine aI ?_ | refine aJ ?_ | refine aW (.qs [0, 1, 2, 4, 6] (.l 3 [4, 0] (.qs [5] .nil) .no)) ?_ | refine aW (.qs [0, 1, 3, 4] (.l 2 [3] (.l 5 [] (.qs [6] .nil) .no) .no)) ?_ | refine aW (.qs [0, 1, 2, 3, 4, 5, 6, 7] (.l 8 [] (.qs [9] .nil) .no)) ?_ | fail); all_goals try (conv => whnf)
    refine CallOb.mk [1] (BentD_ok _ k hL hk d hDS) rfl (ImpL.refl _) rfl rfl ?_
    rintro _ _ ⟨⟨dm, k1⟩, ⟨hdm, hk1⟩, rfl, rfl⟩
    dsimp only at hdm hk1 ⊢
    (repeat' (conv => whnf); first | (refine aC (fun _ => ?_) (fun _ => ?_) <;> try (exfalso; omega)) | refine aS ?_ | refine aG ?_ | refine aD ?_ | refine aH ?_ | refine aP_Y12 ?_ | refine aI ?_ | refine aJ ?_ | refine aW (.qs [0, 1, 2, 4, 6] (.l 3 [4, 0] (.qs [5] .nil) .no)) ?_ | refine aW (.qs [0, 1, 3, 4] (.l 2 [3] (.l 5 [] (.qs [6] .nil) .no) .no)) ?_ | refine aW (.qs [0, 1, 2, 3, 4, 5, 6, 7] (.l 8 [] (.qs [9] .nil) .no)) ?_ | fail); all_goals try (conv => whnf)
    refine LoopOb.mk (Y := Nat × Nat) (st := fun y => ⟨[(105, i64 y.1), (104, .agg [.psl 1 (dls d), .psl 1 (dls dm), .psl 1 (dls odd)]), (19, .ptr 3 0), (96, i64 i), (95, .agg [.psl 1 (strs n.nm), .psl 5 (lns n.ln), .psl 8 (fls n.fl), .psl 1 (strs m.nm), .psl 5 (lns m.ln), .psl 8 (fls m.fl), .psl 1 (strs raw.nm), .psl 5 (lns raw.ln), .psl 8 (fls raw.fl)]), (17, .psl 1 (dls d)), (15, .ptr 1 0), (14, .bl false), (2, .psl 1 (dls odd)), (3, i64 fw), (4, i64 hp), (5, i64 lw), (6, i64 cw)], [.box [.psl 1 (strs raw.nm), .psl 5 (lns raw.ln), .psl 8 (fls raw.fl)], src (l.take 2000) y.2, .box [.psl 1 (strs n.nm), .psl 5 (lns n.ln), .psl 8 (fls n.fl)], .box [.psl 1 (strs u.nm), .psl 5 (lns u.ln), .psl 8 (fls u.fl)]]⟩)
      (inv := fun y => y.1 ≤ 3 ∧ y.2 ≤ 2000) (fun y => 3 - y.1) (0, k1) [0, 1, 2, 3] ⟨by simp, hk1⟩ (by (exact aL)) ?_
    clear hk1 k1 hk k
    rintro ⟨j, k⟩ ⟨hj, hk⟩
    dsimp only at hj hk ⊢
    (repeat' (conv => whnf); first | refine aS ?_ | refine aG ?_ | refine aD ?_ | refine aH ?_ | refine aP_Y12 ?_ | refine aI ?_ | refine aJ ?_ | refine aW (.qs [0, 1, 2, 4, 6] (.l 3 [4, 0] (.qs [5] .nil) .no)) ?_ | refine aW (.qs [0, 1, 3, 4] (.l 2 [3] (.l 5 [] (.qs [6] .nil) .no) .no)) ?_ | refine aW (.qs [0, 1, 2, 3, 4, 5, 6, 7] (.l 8 [] (.qs [9] .nil) .no)) ?_ | fail); all_goals try (conv => whnf)
    refine CondOb.mk (fun hlt2 => ?_) (fun hlt2 => ?_)
    · obtain ⟨e, hE, he2⟩ : ∃ e, DL e ∧ (j = 0 ∧ e = d ∨ j = 1 ∧ e = dm ∨ j = 2 ∧ e = odd) := by
        rcases (show j = 0 ∨ j = 1 ∨ j = 2 by omega) with h | h | h
        · exact ⟨d, hDS.dl, .inl ⟨h, rfl⟩⟩
        · exact ⟨dm, hdm, .inr (.inl ⟨h, rfl⟩)⟩
        · exact ⟨odd, hodd, .inr (.inr ⟨h, rfl⟩)⟩
      (repeat' (conv => whnf); first | refine aS ?_ | refine aG ?_ | refine aD ?_ | refine aH ?_ | refine aP_Y12 ?_ | refine aI ?_ | refine aJ ?_ | refine aW (.qs [0, 1, 2, 4, 6] (.l 3 [4, 0] (.qs [5] .nil) .no)) ?_ | refine aW (.qs [0, 1, 3, 4] (.l 2 [3] (.l 5 [] (.qs [6] .nil) .no) .no)) ?_ | refine aW (.qs [0, 1, 2, 3, 4, 5, 6, 7] (.l 8 [] (.qs [9] .nil) .no)) ?_ | fail); all_goals try (conv => whnf)
      refine ⟨j, rfl, (by omega), need_mk (a := .psl 1 (dls e)) (by rcases he2 with ⟨rfl, rfl⟩ | ⟨rfl, rfl⟩ | ⟨rfl, rfl⟩ <;> rfl) ?_⟩
      (repeat' (conv => whnf); first | (refine aC (fun _ => ?_) (fun _ => ?_) <;> try (exfalso; omega)) | refine aS ?_ | refine aG ?_ | refine aD ?_ | refine aH ?_ | refine aP_Y12 ?_ | refine aI ?_ | refine aJ ?_ | refine aW (.qs [0, 1, 2, 4, 6] (.l 3 [4, 0] (.qs [5] .nil) .no)) ?_ | refine aW (.qs [0, 1, 3, 4] (.l 2 [3] (.l 5 [] (.qs [6] .nil) .no) .no)) ?_ | refine aW (.qs [0, 1, 2, 3, 4, 5, 6, 7] (.l 8 [] (.qs [9] .nil) .no)) ?_ | (refine aK [] (Shape_ok u hu e hE) ?_) | (refine aK [] (rShape_ok u hu e hE) ?_) | (refine CallOb.mk [1] (N_ok _ k hL hk 4 (by omega) (by omega)) rfl (ImpL.refl _) rfl rfl ?_; rintro _ _ ⟨⟨v1, k1⟩, ⟨_, _, hk1⟩, rfl, rfl⟩; dsimp only at hk1 ⊢) | (refine CallOb.mk [1] (N_ok _ k1 hL hk1 3 (by omega) (by omega)) rfl (ImpL.refl _) rfl rfl ?_; rintro _ _ ⟨⟨v2, k2⟩, ⟨_, _, hk2⟩, rfl, rfl⟩; dsimp only at hk2 ⊢) | (refine CallOb.mk [1] (N_ok _ k2 hL hk2 4 (by omega) (by omega)) rfl (ImpL.refl _) rfl rfl ?_; rintro _ _ ⟨⟨v3, k3⟩, ⟨_, _, hk3⟩, rfl, rfl⟩; dsimp only at hk3 ⊢) | fail); all_goals try (conv => whnf)
      all_goals try (exfalso; first | exact noteq (by assumption) | exact noiff (by assumption))
      refine LoopOb.mk (Y := Nat) (st := fun c => ⟨[(127, i64 c), (126, .agg [i64 fw, i64 hp, i64 v1, i64 v2, i64 v3, i64 0]), (21, .psl 1 (dls e)), (105, i64 j), (104, .agg [.psl 1 (dls d), .psl 1 (dls dm), .psl 1 (dls odd)]), (19, .ptr 3 0), (96, i64 i), (95, .agg [.psl 1 (strs n.nm), .psl 5 (lns n.ln), .psl 8 (fls n.fl), .psl 1 (strs m.nm), .psl 5 (lns m.ln), .psl 8 (fls m.fl), .psl 1 (strs raw.nm), .psl 5 (lns raw.ln), .psl 8 (fls raw.fl)]), (17, .psl 1 (dls d)), (15, .ptr 1 0), (14, .bl false), (2, .psl 1 (dls odd)), (3, i64 fw), (4, i64 hp), (5, i64 lw), (6, i64 cw)], [.box [.psl 1 (strs raw.nm), .psl 5 (lns raw.ln), .psl 8 (fls raw.fl)], src (l.take 2000) k3, .box [.psl 1 (strs n.nm), .psl 5 (lns n.ln), .psl 8 (fls n.fl)], .box [.psl 1 (strs u.nm), .psl 5 (lns u.ln), .psl 8 (fls u.fl)]]⟩)
        (inv := fun c => c ≤ 3) (fun c => 3 - c) 0 [0, 1, 2, 3] (by simp) (by (exact aL)) ?_
      rintro c hc
      (repeat' (conv => whnf); first | refine aS ?_ | refine aG ?_ | refine aD ?_ | refine aH ?_ | refine aP_Y12 ?_ | refine aI ?_ | refine aJ ?_ | refine aW (.qs [0, 1, 2, 4, 6] (.l 3 [4, 0] (.qs [5] .nil) .no)) ?_ | refine aW (.qs [0, 1, 3, 4] (.l 2 [3] (.l 5 [] (.qs [6] .nil) .no) .no)) ?_ | refine aW (.qs [0, 1, 2, 3, 4, 5, 6, 7] (.l 8 [] (.qs [9] .nil) .no)) ?_ | fail); all_goals try (conv => whnf)
      refine CondOb.mk (fun hlt3 => ?_) (fun hlt3 => ?_)
      · obtain ⟨x, y, hxy⟩ : ∃ x y : Int, (c = 0 ∧ x = fw ∧ y = hp) ∨ (c = 1 ∧ x = v1 ∧ y = v2) ∨ (c = 2 ∧ x = v3 ∧ y = 0) := by
          rcases (show c = 0 ∨ c = 1 ∨ c = 2 by omega) with h | h | h
          · exact ⟨_, _, .inl ⟨h, rfl, rfl⟩⟩
          · exact ⟨_, _, .inr (.inl ⟨h, rfl, rfl⟩)⟩
          · exact ⟨_, _, .inr (.inr ⟨h, rfl, rfl⟩)⟩
        (repeat' (conv => whnf); first | refine aS ?_ | refine aG ?_ | refine aD ?_ | refine aH ?_ | refine aP_Y12 ?_ | refine aI ?_ | refine aJ ?_ | refine aW (.qs [0, 1, 2, 4, 6] (.l 3 [4, 0] (.qs [5] .nil) .no)) ?_ | refine aW (.qs [0, 1, 3, 4] (.l 2 [3] (.l 5 [] (.qs [6] .nil) .no) .no)) ?_ | refine aW (.qs [0, 1, 2, 3, 4, 5, 6, 7] (.l 8 [] (.qs [9] .nil) .no)) ?_ | fail); all_goals try (conv => whnf)
        refine ⟨c, rfl, (by omega), need_mk (a := .agg [i64 x, i64 y]) (by rcases hxy with ⟨rfl, rfl, rfl⟩ | ⟨rfl, rfl, rfl⟩ | ⟨rfl, rfl, rfl⟩ <;> rfl) ?_⟩
        have cB := Before_ok u hu e hE x y
        have cR := rBefore_ok u hu e hE x y
        rw [befR_eq] at cB cR
        generalize ((befP u e x y).getD 0 : Nat) = b1 at *
        generalize (befP u e x y).isSome = b2 at *
        (repeat' (conv => whnf); first | (refine aC (fun _ => ?_) (fun _ => ?_) <;> try (exfalso; omega)) | refine aS ?_ | refine aG ?_ | refine aD ?_ | refine aH ?_ | refine aP_Y12 ?_ | refine aI ?_ | refine aJ ?_ | refine aW (.qs [0, 1, 2, 4, 6] (.l 3 [4, 0] (.qs [5] .nil) .no)) ?_ | refine aW (.qs [0, 1, 3, 4] (.l 2 [3] (.l 5 [] (.qs [6] .nil) .no) .no)) ?_ | refine aW (.qs [0, 1, 2, 3, 4, 5, 6, 7] (.l 8 [] (.qs [9] .nil) .no)) ?_ | refine ⟨0, rfl, by omega, ?_⟩ | refine ⟨1, rfl, by omega, ?_⟩ | (refine aK [] cB ?_) | (refine aK [] cR ?_) | (refine CallOb.mk [] (lAt_ok u hu e hE x y) rfl (ImpL.refl _) rfl rfl ?_; rintro _ _ ⟨⟨x1, x2, x3, x4⟩, hx, rfl, rfl⟩) | (refine CallOb.mk [] (rAtL_ok u hu e hE x y) rfl (ImpL.refl _) rfl rfl ?_; rintro _ _ ⟨z, hz, rfl, rfl⟩; cases atP_uniq hx hz) | (refine aK [] (Same_ok x1 x1 x2 x3 x2 x3 (by have := atP_len hx; dsimp only at this; omega)) ?_) | fail); all_goals try (conv => whnf)
        all_goals try (exfalso; first | exact noteq (by assumption) | exact noiff (by assumption) | exact nothree (by assumption))
        exact ⟨c + 1, [0, 1, 2, 3], by omega, by omega, by (exact aL)⟩
      · (repeat' (conv => whnf); first | (refine aC (fun _ => ?_) (fun _ => ?_) <;> try (exfalso; omega)) | refine aS ?_ | refine aG ?_ | refine aD ?_ | refine aH ?_ | refine aP_Y12 ?_ | refine aI ?_ | refine aJ ?_ | refine aW (.qs [0, 1, 2, 4, 6] (.l 3 [4, 0] (.qs [5] .nil) .no)) ?_ | refine aW (.qs [0, 1, 3, 4] (.l 2 [3] (.l 5 [] (.qs [6] .nil) .no) .no)) ?_ | refine aW (.qs [0, 1, 2, 3, 4, 5, 6, 7] (.l 8 [] (.qs [9] .nil) .no)) ?_ | (refine CallOb.mk [1] (N_ok _ k3 hL hk3 3 (by omega) (by omega)) rfl (ImpL.refl _) rfl rfl ?_; rintro _ _ ⟨⟨w1, k4⟩, ⟨_, _, hk4⟩, rfl, rfl⟩; dsimp only at hk4 ⊢) | (refine CallOb.mk [1] (N_ok _ k4 hL hk4 2 (by omega) (by omega)) rfl (ImpL.refl _) rfl rfl ?_; rintro _ _ ⟨⟨w2, k5⟩, ⟨_, _, hk5⟩, rfl, rfl⟩; dsimp only at hk5 ⊢) | fail); all_goals try (conv => whnf)
        refine LoopOb.mk (Y := Nat) (st := fun c => ⟨[(199, i64 c), (198, .agg [i64 lw, i64 cw, i64 w1, i64 w2]), (21, .psl 1 (dls e)), (105, i64 j), (104, .agg [.psl 1 (dls d), .psl 1 (dls dm), .psl 1 (dls odd)]), (19, .ptr 3 0), (96, i64 i), (95, .agg [.psl 1 (strs n.nm), .psl 5 (lns n.ln), .psl 8 (fls n.fl), .psl 1 (strs m.nm), .psl 5 (lns m.ln), .psl 8 (fls m.fl), .psl 1 (strs raw.nm), .psl 5 (lns raw.ln), .psl 8 (fls raw.fl)]), (17, .psl 1 (dls d)), (15, .ptr 1 0), (14, .bl false), (2, .psl 1 (dls odd)), (3, i64 fw), (4, i64 hp), (5, i64 lw), (6, i64 cw)], [.box [.psl 1 (strs raw.nm), .psl 5 (lns raw.ln), .psl 8 (fls raw.fl)], src (l.take 2000) k5, .box [.psl 1 (strs n.nm), .psl 5 (lns n.ln), .psl 8 (fls n.fl)], .box [.psl 1 (strs u.nm), .psl 5 (lns u.ln), .psl 8 (fls u.fl)]]⟩)
          (inv := fun c => c ≤ 2) (fun c => 2 - c) 0 [0, 1, 2, 3] (by simp) (by (exact aL)) ?_
        clear hlt3 hc c
        rintro c hc
        (repeat' (conv => whnf); first | refine aS ?_ | refine aG ?_ | refine aD ?_ | refine aH ?_ | refine aP_Y12 ?_ | refine aI ?_ | refine aJ ?_ | refine aW (.qs [0, 1, 2, 4, 6] (.l 3 [4, 0] (.qs [5] .nil) .no)) ?_ | refine aW (.qs [0, 1, 3, 4] (.l 2 [3] (.l 5 [] (.qs [6] .nil) .no) .no)) ?_ | refine aW (.qs [0, 1, 2, 3, 4, 5, 6, 7] (.l 8 [] (.qs [9] .nil) .no)) ?_ | fail); all_goals try (conv => whnf)
        refine CondOb.mk (fun hlt3 => ?_) (fun hlt3 => ?_)
        · obtain ⟨x, y, hxy⟩ : ∃ x y : Int, (c = 0 ∧ x = lw ∧ y = cw) ∨ (c = 1 ∧ x = w1 ∧ y = w2) := by
            rcases (show c = 0 ∨ c = 1 by omega) with h | h
            · exact ⟨_, _, .inl ⟨h, rfl, rfl⟩⟩
            · exact ⟨_, _, .inr ⟨h, rfl, rfl⟩⟩
          (repeat' (conv => whnf); first | refine aS ?_ | refine aG ?_ | refine aD ?_ | refine aH ?_ | refine aP_Y12 ?_ | refine aI ?_ | refine aJ ?_ | refine aW (.qs [0, 1, 2, 4, 6] (.l 3 [4, 0] (.qs [5] .nil) .no)) ?_ | refine aW (.qs [0, 1, 3, 4] (.l 2 [3] (.l 5 [] (.qs [6] .nil) .no) .no)) ?_ | refine aW (.qs [0, 1, 2, 3, 4, 5, 6, 7] (.l 8 [] (.qs [9] .nil) .no)) ?_ | fail); all_goals try (conv => whnf)
          refine ⟨c, rfl, (by omega), need_mk (a := .agg [i64 x, i64 y]) (by rcases hxy with ⟨rfl, rfl, rfl⟩ | ⟨rfl, rfl, rfl⟩ <;> rfl) ?_⟩
          (repeat' (conv => whnf); first | (refine aC (fun _ => ?_) (fun _ => ?_) <;> try (exfalso; omega)) | refine aS ?_ | refine aG ?_ | refine aD ?_ | refine aH ?_ | refine aP_Y12 ?_ | refine aI ?_ | refine aJ ?_ | refine aW (.qs [0, 1, 2, 4, 6] (.l 3 [4, 0] (.qs [5] .nil) .no)) ?_ | refine aW (.qs [0, 1, 3, 4] (.l 2 [3] (.l 5 [] (.qs [6] .nil) .no) .no)) ?_ | refine aW (.qs [0, 1, 2, 3, 4, 5, 6, 7] (.l 8 [] (.qs [9] .nil) .no)) ?_ | refine ⟨0, rfl, by omega, ?_⟩ | refine ⟨1, rfl, by omega, ?_⟩ | (refine CallOb.mk [] (ClassX_ok u hu hub e hE x y) rfl (ImpL.refl _) rfl rfl ?_; rintro _ _ ⟨⟨⟨x1, x2, x3⟩, x4⟩, hx, rfl, rfl⟩) | (refine CallOb.mk [] (rClassX_ok u hu hub e hE x y) rfl (ImpL.refl _) rfl rfl ?_; rintro _ _ ⟨z, hz, rfl, rfl⟩; cases hx.uniq hz) | (refine CallOb.mk [] (ContractsX_ok u hu hub e hE x) rfl (ImpL.refl _) rfl rfl ?_; rintro _ _ ⟨⟨cs, ce⟩, hcs, rfl, rfl⟩) | (refine CallOb.mk [] (rContractsX_ok u hu hub e hE x) rfl (ImpL.refl _) rfl rfl ?_; rintro _ _ ⟨z, hz, rfl, rfl⟩; cases hcs.uniq hz) | (refine aK [] (Same_ok x1 x1 x2 x3 x2 x3 (by have := clsP_len hx; dsimp only at this; omega)) ?_) | fail); all_goals try (conv => whnf)
          all_goals try (exfalso; first | exact noteq (by assumption) | exact noiff (by assumption) | exact nothree (by assumption))
          have hcl := conP_len hcs
          clear hcs hx
          dsimp only at hcl
          have hcwl := cvw_len cs
          refine LoopOb.mk (Y := Nat) (st := fun t => ⟨[(261, i64 t), (260, i64 (cs.map cvw).length), (40, .psl 3 (cs.map cvw)), (38, .psl 3 (cs.map cvw)), (199, i64 c), (198, .agg [i64 lw, i64 cw, i64 w1, i64 w2]), (21, .psl 1 (dls e)), (105, i64 j), (104, .agg [.psl 1 (dls d), .psl 1 (dls dm), .psl 1 (dls odd)]), (19, .ptr 3 0), (96, i64 i), (95, .agg [.psl 1 (strs n.nm), .psl 5 (lns n.ln), .psl 8 (fls n.fl), .psl 1 (strs m.nm), .psl 5 (lns m.ln), .psl 8 (fls m.fl), .psl 1 (strs raw.nm), .psl 5 (lns raw.ln), .psl 8 (fls raw.fl)]), (17, .psl 1 (dls d)), (15, .ptr 1 0), (14, .bl false), (2, .psl 1 (dls odd)), (3, i64 fw), (4, i64 hp), (5, i64 lw), (6, i64 cw)], [.box [.psl 1 (strs raw.nm), .psl 5 (lns raw.ln), .psl 8 (fls raw.fl)], src (l.take 2000) k5, .box [.psl 1 (strs n.nm), .psl 5 (lns n.ln), .psl 8 (fls n.fl)], .box [.psl 1 (strs u.nm), .psl 5 (lns u.ln), .psl 8 (fls u.fl)]]⟩)
            (inv := fun t => t ≤ cs.length) (fun t => cs.length - t) 0 [0, 1, 2, 3] (by simp) (by (exact aL)) ?_
          rintro t ht
          (repeat' (conv => whnf); first | refine aS ?_ | refine aG ?_ | refine aD ?_ | refine aH ?_ | refine aP_Y12 ?_ | refine aI ?_ | refine aJ ?_ | refine aW (.qs [0, 1, 2, 4, 6] (.l 3 [4, 0] (.qs [5] .nil) .no)) ?_ | refine aW (.qs [0, 1, 3, 4] (.l 2 [3] (.l 5 [] (.qs [6] .nil) .no) .no)) ?_ | refine aW (.qs [0, 1, 2, 3, 4, 5, 6, 7] (.l 8 [] (.qs [9] .nil) .no)) ?_ | fail); all_goals try (conv => whnf)
          refine CondOb.mk (fun hlt4 => ?_) (fun hlt4 => ?_)
          · have htl : t < cs.length := by omega
            have hgt := cvw_get htl
            have hbl := hcl.2 _ (getD_in (d := ([], 0, 0)) htl)
            generalize cs.getD t ([], 0, 0) = q at *
            obtain ⟨q1, q2, q3⟩ := q
            dsimp only at hbl
            (repeat' (conv => whnf); first | refine ⟨t, _, rfl, hgt, ?_⟩ | (refine aC (fun _ => ?_) (fun _ => ?_) <;> try (exfalso; omega)) | refine aS ?_ | refine aG ?_ | refine aD ?_ | refine aH ?_ | refine aP_Y12 ?_ | refine aI ?_ | refine aJ ?_ | refine aW (.qs [0, 1, 2, 4, 6] (.l 3 [4, 0] (.qs [5] .nil) .no)) ?_ | refine aW (.qs [0, 1, 3, 4] (.l 2 [3] (.l 5 [] (.qs [6] .nil) .no) .no)) ?_ | refine aW (.qs [0, 1, 2, 3, 4, 5, 6, 7] (.l 8 [] (.qs [9] .nil) .no)) ?_ | (refine aK [] (Same_ok q1 q1 q2 q3 q2 q3 (by omega)) ?_) | fail); all_goals try (conv => whnf)
            all_goals try (exfalso; first | exact noteq (by assumption) | exact noiff (by assumption) | exact nothree (by assumption))
            exact ⟨t + 1, [0, 1, 2, 3], by omega, by omega, by (exact aL)⟩
          · (repeat' (conv => whnf); first | (refine aC (fun _ => ?_) (fun _ => ?_) <;> try (exfalso; omega)) | refine aS ?_ | refine aG ?_ | refine aD ?_ | refine aH ?_ | refine aP_Y12 ?_ | refine aI ?_ | refine aJ ?_ | refine aW (.qs [0, 1, 2, 4, 6] (.l 3 [4, 0] (.qs [5] .nil) .no)) ?_ | refine aW (.qs [0, 1, 3, 4] (.l 2 [3] (.l 5 [] (.qs [6] .nil) .no) .no)) ?_ | refine aW (.qs [0, 1, 2, 3, 4, 5, 6, 7] (.l 8 [] (.qs [9] .nil) .no)) ?_ | fail); all_goals try (conv => whnf)
            exact ⟨c + 1, [0, 1, 2, 3], by omega, by omega, by (exact aL)⟩
        · (repeat' (conv => whnf); first | (refine aC (fun _ => ?_) (fun _ => ?_) <;> try (exfalso; omega)) | refine aS ?_ | refine aG ?_ | refine aD ?_ | refine aH ?_ | refine aP_Y12 ?_ | refine aI ?_ | refine aJ ?_ | refine aW (.qs [0, 1, 2, 4, 6] (.l 3 [4, 0] (.qs [5] .nil) .no)) ?_ | refine aW (.qs [0, 1, 3, 4] (.l 2 [3] (.l 5 [] (.qs [6] .nil) .no) .no)) ?_ | refine aW (.qs [0, 1, 2, 3, 4, 5, 6, 7] (.l 8 [] (.qs [9] .nil) .no)) ?_ | fail); all_goals try (conv => whnf)
          exact ⟨(j + 1, k5), [0, 1, 2, 3], ⟨by dsimp only; omega, hk5⟩, by dsimp only; omega, by (exact aL)⟩
    · have cu1 := Used_ok u hu hub lw
      have cr1 := rUsed_ok u hu hub lw
      generalize usedP u lw = U1 at *
      obtain ⟨x1, x2, x3⟩ := U1
      dsimp only [res] at cu1 cr1
      have co1 := Over_ok u hu hub
      have co2 := rOver_ok u hu hub
      have hol : (overP u).1.length ≤ 1000000 := overP_len u
      generalize overP u = OO at *
      obtain ⟨O1, O2⟩ := OO
      dsimp only at co1 co2 hol
      (repeat' (conv => whnf); first | (refine aC (fun _ => ?_) (fun _ => ?_) <;> try (exfalso; omega)) | refine aS ?_ | refine aG ?_ | refine aD ?_ | refine aH ?_ | refine aP_Y12 ?_ | refine aI ?_ | refine aJ ?_ | refine aW (.qs [0, 1, 2, 4, 6] (.l 3 [4, 0] (.qs [5] .nil) .no)) ?_ | refine aW (.qs [0, 1, 3, 4] (.l 2 [3] (.l 5 [] (.qs [6] .nil) .no) .no)) ?_ | refine aW (.qs [0, 1, 2, 3, 4, 5, 6, 7] (.l 8 [] (.qs [9] .nil) .no)) ?_ | (refine aK [] cu1 ?_) | (refine aK [] cr1 ?_) | (refine CallOb.mk [1] (N_ok _ k hL hk 3 (by omega) (by omega)) rfl (ImpL.refl _) rfl rfl ?_; rintro _ _ ⟨⟨w1, k4⟩, ⟨_, _, hk4⟩, rfl, rfl⟩; dsimp only at hk4 ⊢) | (have cu2 := Used_ok u hu hub w1; have cr2 := rUsed_ok u hu hub w1; generalize usedP u w1 = U2 at *; obtain ⟨y1, y2, y3⟩ := U2; dsimp only [res] at cu2 cr2; refine aK [] cu2 ?_) | (refine aK [] cr2 ?_) | (refine aK [] co1 ?_) | (refine aK [] co2 ?_) | (refine aK [] (kInts_ok O1 O1 (by omega)) ?_) | fail); all_goals try (conv => whnf)
      all_goals try (exfalso; first | exact noteq (by assumption) | exact noiff (by assumption) | exact nothree (by assumption) | exact noconj (by assumption))
      exact ⟨(i + 1, k4), [0, 1, 2], ⟨by dsimp only; omega, hk4⟩, by dsimp only; omega, by (exact aL)⟩
  · (repeat' (conv => whnf); first | (refine aC (fun _ => ?_) (fun _ => ?_) <;> try (exfalso; omega)) | refine aS ?_ | refine aG ?_ | refine aD ?_ | refine aH ?_ | refine aP_Y12 ?_ | refine aI ?_ | refine aJ ?_ | refine aW (.qs [0, 1, 2, 4, 6] (.l 3 [4, 0] (.qs [5] .nil) .no)) ?_ | refine aW (.qs [0, 1, 3, 4] (.l 2 [3] (.l 5 [] (.qs [6] .nil) .no) .no)) ?_ | refine aW (.qs [0, 1, 2, 3, 4, 5, 6, 7] (.l 8 [] (.qs [9] .nil) .no)) ?_ | (refine aK [] (sane_ok) ?_) | fail); all_goals try (conv => whnf)
    all_goals rfl
end Go.Proofs.YtgbmiacpjmchdaaGreat
