/-
  A text of the proofs of this seat: lemmas that the statements' proofs use; it states nothing of the program by itself beyond the contracts that its theorems bear. Conditions: those that stand in each theorem. Its short name: Y9.
-/
import Derived.Test.YtgbmiacpjmchdaaGreatY8
set_option linter.unusedVariables false
set_option linter.unusedSimpArgs false
namespace Go.Proofs.YtgbmiacpjmchdaaGreat
open Go.Sx Go.Np Go.Cv Go.Tp
set_option maxRecDepth 4000
set_option maxHeartbeats 2000000
/-! the contracts of all classes -/
inductive ConR (J : Nat → C3 × Int → Prop) (N : Nat) : List C3 → List C3 × Int → Prop
  | stop (cs : List C3) : cs.length = N → ConR J N cs (cs, 0)
  | go {cs : List C3} {b : C3} {y : List C3 × Int} : cs.length < N → J cs.length (b, 0) → ConR J N (cs ++ [b]) y → ConR J N cs y
  | err {cs : List C3} {x : C3 × Int} : cs.length < N → J cs.length x → x.2 ≠ 0 → ConR J N cs ([], x.2)
theorem ConR.uniq {J : Nat → C3 × Int → Prop} {N : Nat} (hJ : ∀ c x y, J c x → J c y → x = y) : ∀ {cs : List C3} {y z : List C3 × Int}, ConR J N cs y → ConR J N cs z → y = z := by
  intro cs y z h
  induction h with
  | stop cs h => intro k; cases k with
    | stop => rfl
    | go h => omega
    | err h => omega
  | go h1 h2 _ ih => intro k; cases k with
    | stop => omega
    | go k1 k2 k3 => cases hJ _ _ _ h2 k2; exact ih k3
    | err k1 k2 k3 => cases hJ _ _ _ h2 k2; exact absurd rfl k3
  | err h1 h2 h3 => intro k; cases k with
    | stop => omega
    | go k1 k2 k3 => cases hJ _ _ _ h2 k2; exact absurd rfl h3
    | err k1 k2 k3 => cases hJ _ _ _ h2 k2; rfl
def ConP (n : Nt) (d : List (List Int)) (l : Int) (y : List C3 × Int) : Prop :=
  (¬ShapeP n d ∧ y = ([], 6)) ∨ (ShapeP n d ∧ ¬(0 ≤ l ∧ l < n.ln.length) ∧ y = ([], 2)) ∨
  (ShapeP n d ∧ (0 ≤ l ∧ l < n.ln.length) ∧ ConR (fun (c : Nat) y => ClsP n d l c y) (n.ln.getD l.toNat ln0).n.toNat [] y)
theorem ConP.uniq {n : Nt} {d : List (List Int)} {l : Int} {y z : List C3 × Int} (h : ConP n d l y) (k : ConP n d l z) : y = z := by
  rcases h with ⟨a, rfl⟩ | ⟨a, b, rfl⟩ | ⟨a, b, h⟩ <;> rcases k with ⟨a', rfl⟩ | ⟨a', b', rfl⟩ | ⟨a', b', h'⟩
  · rfl
  · exact absurd a' a
  · exact absurd a' a
  · exact absurd a a'
  · rfl
  · exact absurd b' b
  · exact absurd a a'
  · exact absurd b b'
  · exact ConR.uniq (fun c x y h k => h.uniq k) h h'
abbrev cvw (c : C3) : List SV := [.psl 1 (ints c.1), i64 c.2.1, i64 c.2.2]
/- the contracts of the first classes, and nothing behind them -/
abbrev cvx (cs : List C3) (N : Nat) : List (List SV) := cs.map cvw ++ List.replicate (N - cs.length) [.nil, i64 0, i64 0]
theorem cvx_len {cs : List C3} {N : Nat} (h : cs.length ≤ N) : (cvx cs N).length = N := by simp [cvx]; omega
theorem cvx_set {cs : List C3} {N : Nat} (h : cs.length < N) (c : C3) : (cvx cs N).set cs.length (cvw c) = cvx (cs ++ [c]) N := by
  have e : N - cs.length = (N - (cs.length + 1)) + 1 := by omega
  simp only [cvx]
  rw [e, List.replicate_succ, List.set_append_right _ _ (by simp)]
  simp
theorem cvx_get {cs : List C3} {N : Nat} (h : cs.length < N) : (cvx cs N)[cs.length]? = some [.nil, i64 0, i64 0] := by
  have e : N - cs.length = (N - (cs.length + 1)) + 1 := by omega
  simp only [cvx]
  rw [e, List.replicate_succ, List.getElem?_append_right (by simp)]
  simp
theorem chk_cls {n : Nt} (h : chkN n = 0) {i : Nat} (hi : i < n.ln.length) : 1 ≤ (n.ln.getD i ln0).n ∧ (n.ln.getD i ln0).n ≤ 6 := by
  have h1 := (chkN_zero h).2.2.1 i hi
  unfold lineE at h1
  split at h1
  · contradiction
  · unfold lnErr at h1
    split at h1
    · contradiction
    · split at h1
      · contradiction
      · omega
theorem aP_Y9 {A B K : Prop} (k : K) (a : A := by (simp only [zA, zT, zD, zC, zN, ints_len, zR, lnl, fll, stl]; omega)) (b : B := by (simp only [zA, zT, zD, zC, zN, ints_len, zR, lnl, fll, stl]; omega)) : (A ∧ B) ∧ K := ⟨⟨a, b⟩, k⟩
theorem ContractsX_ok (n : Nt) (hn : NL n) (hb : n.fl.length ≤ 1000) (d : List (List Int)) (hd : DL d) (l : Int) :
    Ctr Tryz.prog 20 [ntv n, .psl 1 (dls d), i64 l] [] (fun r o => ∃ y : List C3 × Int, ConP n d l y ∧ o = [] ∧ r = .tup [.psl 3 (y.1.map cvw), i64 y.2]) := by
  refine Ctr.impE ?_
  refine fn_intro (E := env 0) tys_ok rfl rfl rfl Tryz.func20 (by kernel_rfl) rfl (by kernel_rfl) ?_
  have hll := lnl n.ln
  by_cases hR : ShapeP n d ∧ (0 ≤ l ∧ l < n.ln.length)
  · obtain ⟨hS, hl⟩ := hR
    have hg := lng (l := n.ln) (i := l.toNat) (by omega)
    obtain ⟨N, hN, hN6⟩ : ∃ N : Nat, (n.ln.getD l.toNat ln0).n = N ∧ N ≤ 6 := by
      have := chk_cls hS.c (i := l.toNat) (by omega)
      exact ⟨(n.ln.getD l.toNat ln0).n.toNat, by omega, by omega⟩
    have hY : ∀ y, ConR (fun (c : Nat) y => ClsP n d l c y) N [] y → ConP n d l y := fun y h => .inr (.inr ⟨hS, hl, by rw [hN, Int.toNat_natCast]; exact h⟩)
    generalize n.ln.getD l.toNat ln0 = ll at *
    (repeat' (conv => whnf); first | refine ⟨l.toNat, _, by omega, hg, ?_⟩ | (refine aC (fun _ => ?_) (fun _ => ?_) <;> try (exfalso; omega)) | refine aS ?_ | refine aG ?_ | refine aD ?_ | refine aH ?_ | refine aP_Y9 ?_ | refine aI ?_ | refine aJ ?_ | refine ⟨_, _, rfl, rfl, Nat.le_refl _, ⟨by (simp only; omega), by omega⟩, ?_⟩ | (refine aK [] (Shape_ok n hn d hd) ?_) | fail); all_goals try (conv => whnf)
    · exact absurd hS (by assumption)
    refine ⟨N, N, hN, hN, Nat.le_refl _, ⟨by simp only; omega, by omega⟩, ?_⟩
    (repeat' (conv => whnf); first | (refine aC (fun _ => ?_) (fun _ => ?_) <;> try (exfalso; omega)) | refine aS ?_ | refine aG ?_ | refine aD ?_ | refine aP_Y9 ?_ | refine aI ?_ | refine aJ ?_ | fail); all_goals try (conv => whnf)
    refine .mk [] ?_
    refine LoopOb.mk (Y := List C3) (st := fun cs => ⟨[(33, i64 cs.length), (32, i64 (List.replicate N ([.nil, i64 0, i64 0] : List SV)).length), (8, .vec 1), (3, .ptr 0 0), (1, .psl 1 (dls d)), (2, i64 l)], [.box [.psl 1 (strs n.nm), .psl 5 (lns n.ln), .psl 8 (fls n.fl)], .vec 3 (cvx cs N)]⟩)
      (inv := fun cs => cs.length ≤ N ∧ ∀ z, ConR (fun (c : Nat) y => ClsP n d l c y) N cs z → ConP n d l z) (fun cs => N - cs.length) [] [0, 2] ⟨by simp, hY⟩ (by (exact aL)) ?_
    rintro cs ⟨hc, hz⟩
    have hrl : (List.replicate N ([.nil, i64 0, i64 0] : List SV)).length = N := List.length_replicate
    have hxl := cvx_len hc
    (repeat' (conv => whnf); first | refine aS ?_ | refine aG ?_ | refine aD ?_ | refine aH ?_ | refine aP_Y9 ?_ | refine aI ?_ | refine aJ ?_ | fail); all_goals try (conv => whnf)
    refine CondOb.mk (fun hlt => ?_) (fun hlt => ?_)
    · have hcl2 : cs.length < N := by omega
      have cC := ClassX_ok n hn hb d hd l cs.length
      (repeat' (conv => whnf); first | refine AsgOb.nil ?_ | (refine aC (fun _ => ?_) (fun _ => ?_) <;> try (exfalso; omega)) | refine aS ?_ | refine aG ?_ | refine aD ?_ | refine aP_Y9 ?_ | refine aI ?_ | refine aJ ?_ | (refine Gh.mk [] ?_; (conv => whnf); refine CallOb.mk [] cC rfl (ImpL.refl _) rfl rfl ?_; rintro _ _ ⟨⟨b, e⟩, hb, rfl, rfl⟩; dsimp only at hb ⊢) | refine ⟨cs.length, rfl, by omega, ?_⟩ | refine ⟨_, cvx_get hcl2, ?_⟩ | fail); all_goals try (conv => whnf)
      · refine .mk [.fa] ?_
        (repeat' (conv => whnf); first | (refine aC (fun _ => ?_) (fun _ => ?_) <;> try (exfalso; omega)) | refine aS ?_ | refine aG ?_ | refine aD ?_ | refine aH ?_ | refine aP_Y9 ?_ | refine aI ?_ | refine aJ ?_ | fail); all_goals try (conv => whnf)
        exact ⟨([], e), hz _ (.err (x := (b, e)) hcl2 hb (by assumption)), rfl, Imp.tup ⟨Imp.nil _, Imp.refl _, trivial⟩⟩
      · have hs := cvx_set hcl2 b
        obtain rfl : e = 0 := by omega
        refine .mk [] ?_
        exact ⟨cs ++ [b], [0, 1], ⟨by rw [List.length_append, List.length_singleton]; omega, fun z h => hz z (.go hcl2 hb h)⟩, by rw [List.length_append, List.length_singleton]; omega, by rw [← hs, List.length_append, List.length_singleton]; (exact aL)⟩
    · have e : cs.length = N := by omega
      have hx : cvx cs N = cs.map cvw := by simp [cvx, e]
      rw [hx]
      (repeat' (conv => whnf); first | (refine aC (fun _ => ?_) (fun _ => ?_) <;> try (exfalso; omega)) | refine aS ?_ | refine aG ?_ | refine aD ?_ | refine aP_Y9 ?_ | refine aI ?_ | refine aJ ?_ | fail); all_goals try (conv => whnf)
      refine .mk [.fa] ?_
      (repeat' (conv => whnf); first | (refine aC (fun _ => ?_) (fun _ => ?_) <;> try (exfalso; omega)) | refine aS ?_ | refine aG ?_ | refine aD ?_ | refine aH ?_ | refine aP_Y9 ?_ | refine aI ?_ | refine aJ ?_ | fail); all_goals try (conv => whnf)
      exact ⟨(cs, 0), hz _ (.stop cs e), rfl, Imp.refl _⟩
  · (repeat' (conv => whnf); first | refine ⟨l.toNat, _, by omega, lng (l := n.ln) (i := l.toNat) (by omega), ?_⟩ | refine AsgOb.nil ?_ | (refine aC (fun _ => ?_) (fun _ => ?_) <;> try (exfalso; omega)) | refine aS ?_ | refine aG ?_ | refine aD ?_ | refine aH ?_ | refine aP_Y9 ?_ | refine aI ?_ | refine aJ ?_ | refine ⟨_, _, rfl, rfl, Nat.le_refl _, ⟨by (simp only; omega), by omega⟩, ?_⟩ | (refine aK [] (Shape_ok n hn d hd) ?_) | fail); all_goals try (conv => whnf)
    all_goals try exact ⟨([], 6), .inl ⟨by assumption, rfl⟩, rfl, Imp.tup ⟨Imp.nil _, Imp.refl _, trivial⟩⟩
    all_goals
      have hSp : ShapeP n d := Classical.not_not.1 (by assumption)
      have hno : ¬(0 ≤ l ∧ l < n.ln.length) := fun k => hR ⟨hSp, k⟩
    all_goals first
      | (refine ⟨([], 2), .inr (.inl ⟨hSp, hno, rfl⟩), rfl, Imp.tup ⟨Imp.nil _, Imp.refl _, trivial⟩⟩; done)
      | (exfalso; omega)
theorem cvw_len (cs : List C3) : (cs.map cvw).length = cs.length := by simp
theorem rContractsX_ok (n : Nt) (hn : NL n) (hb : n.fl.length ≤ 1000) (d : List (List Int)) (hd : DL d) (l : Int) :
    Ctr Tryz.prog 21 [ntv n, .psl 1 (dls d), i64 l] [] (fun r o => ∃ y : List C3 × Int, ConP n d l y ∧ o = [] ∧ r = .tup [.psl 3 (y.1.map cvw), i64 y.2]) := by
  refine Ctr.impE ?_
  refine fn_intro (E := env 0) tys_ok rfl rfl rfl Tryz.func21 (by kernel_rfl) rfl (by kernel_rfl) ?_
  have hll := lnl n.ln
  by_cases hR : ShapeP n d ∧ (0 ≤ l ∧ l < n.ln.length)
  · obtain ⟨hS, hl⟩ := hR
    have hg := lng (l := n.ln) (i := l.toNat) (by omega)
    obtain ⟨N, hN, hN6⟩ : ∃ N : Nat, (n.ln.getD l.toNat ln0).n = N ∧ N ≤ 6 := by
      have := chk_cls hS.c (i := l.toNat) (by omega)
      exact ⟨(n.ln.getD l.toNat ln0).n.toNat, by omega, by omega⟩
    have hY : ∀ y, ConR (fun (c : Nat) y => ClsP n d l c y) N [] y → ConP n d l y := fun y h => .inr (.inr ⟨hS, hl, by rw [hN, Int.toNat_natCast]; exact h⟩)
    generalize n.ln.getD l.toNat ln0 = ll at *
    (repeat' (conv => whnf); first | refine ⟨l.toNat, _, by omega, hg, ?_⟩ | (refine aC (fun _ => ?_) (fun _ => ?_) <;> try (exfalso; omega)) | refine aS ?_ | refine aG ?_ | refine aD ?_ | refine aH ?_ | refine aP_Y9 ?_ | refine aI ?_ | refine aJ ?_ | (refine aK [] (rShape_ok n hn d hd) ?_) | fail); all_goals try (conv => whnf)
    all_goals try exact absurd hS (by assumption)
    refine LoopOb.mk (Y := List C3) (st := fun cs => ⟨[(9, i64 cs.length), (8, .vec 1), (3, .ptr 0 0), (1, .psl 1 (dls d)), (2, i64 l)], [.box [.psl 1 (strs n.nm), .psl 5 (lns n.ln), .psl 8 (fls n.fl)], .vec 3 (cs.map cvw)]⟩)
      (inv := fun cs => cs.length ≤ N ∧ ∀ z, ConR (fun (c : Nat) y => ClsP n d l c y) N cs z → ConP n d l z) (fun cs => N - cs.length) [] [0, 2] ⟨by simp, hY⟩ (by (exact aL)) ?_
    rintro cs ⟨hc, hz⟩
    have hxl := cvw_len cs
    (repeat' (conv => whnf); first | refine ⟨l.toNat, _, by omega, hg, ?_⟩ | refine aS ?_ | refine aG ?_ | refine aD ?_ | refine aH ?_ | refine aP_Y9 ?_ | refine aI ?_ | refine aJ ?_ | fail); all_goals try (conv => whnf)
    refine CondOb.mk (fun hlt => ?_) (fun hlt => ?_)
    · have hcl2 : cs.length < N := by omega
      have cC := rClassX_ok n hn hb d hd l cs.length
      (repeat' (conv => whnf); first | refine AsgOb.nil ?_ | (refine aC (fun _ => ?_) (fun _ => ?_) <;> try (exfalso; omega)) | refine aS ?_ | refine aG ?_ | refine aD ?_ | refine aH ?_ | refine aP_Y9 ?_ | refine aI ?_ | refine aJ ?_ | (refine CallOb.mk [] cC rfl (ImpL.refl _) rfl rfl ?_; rintro _ _ ⟨⟨b, e⟩, hb, rfl, rfl⟩; dsimp only at hb ⊢) | fail); all_goals try (conv => whnf)
      all_goals first
        | exact ⟨([], e), hz _ (.err (x := (b, e)) hcl2 hb (by assumption)), rfl, Imp.tup ⟨Imp.nil _, Imp.refl _, trivial⟩⟩
        | (obtain rfl : e = 0 := by omega
           exact ⟨cs ++ [b], [0, 4], ⟨by rw [List.length_append, List.length_singleton]; omega, fun z h => hz z (.go hcl2 hb h)⟩, by rw [List.length_append, List.length_singleton]; omega, by rw [List.map_append, List.map_singleton, List.length_append, List.length_singleton]; (exact aL)⟩)
    · have e : cs.length = N := by omega
      (repeat' (conv => whnf); first | (refine aC (fun _ => ?_) (fun _ => ?_) <;> try (exfalso; omega)) | refine aS ?_ | refine aG ?_ | refine aD ?_ | refine aP_Y9 ?_ | refine aI ?_ | refine aJ ?_ | fail); all_goals try (conv => whnf)
      refine .mk [.fa] ?_
      (repeat' (conv => whnf); first | (refine aC (fun _ => ?_) (fun _ => ?_) <;> try (exfalso; omega)) | refine aS ?_ | refine aG ?_ | refine aD ?_ | refine aH ?_ | refine aP_Y9 ?_ | refine aI ?_ | refine aJ ?_ | fail); all_goals try (conv => whnf)
      exact ⟨(cs, 0), hz _ (.stop cs e), rfl, Imp.refl _⟩
  · (repeat' (conv => whnf); first | refine ⟨l.toNat, _, by omega, lng (l := n.ln) (i := l.toNat) (by omega), ?_⟩ | refine AsgOb.nil ?_ | (refine aC (fun _ => ?_) (fun _ => ?_) <;> try (exfalso; omega)) | refine aS ?_ | refine aG ?_ | refine aD ?_ | refine aH ?_ | refine aP_Y9 ?_ | refine aI ?_ | refine aJ ?_ | (refine aK [] (rShape_ok n hn d hd) ?_) | fail); all_goals try (conv => whnf)
    all_goals try exact ⟨([], 6), .inl ⟨by assumption, rfl⟩, rfl, Imp.tup ⟨Imp.nil _, Imp.refl _, trivial⟩⟩
    all_goals
      have hSp : ShapeP n d := Classical.not_not.1 (by assumption)
      have hno : ¬(0 ≤ l ∧ l < n.ln.length) := fun k => hR ⟨hSp, k⟩
    all_goals first
      | (refine ⟨([], 2), .inr (.inl ⟨hSp, hno, rfl⟩), rfl, Imp.tup ⟨Imp.nil _, Imp.refl _, trivial⟩⟩; done)
      | (exfalso; omega)
      | trace_state
end Go.Proofs.YtgbmiacpjmchdaaGreat
