/-
  A text of the proofs of this seat: lemmas that the statements' proofs use; it states nothing of the program by itself beyond the contracts that its theorems bear. Conditions: those that stand in each theorem. Its short name: U1.
-/
import Derived.Test.YtgbmiacpjmchdaaGreatFn
import Derived.Test.YtgbmiacpjmchdaaGreatKs
import Derived.Test.YtgbmiacpjmchdaaGreatSxC
import Derived.Test.YtgbmiacpjmchdaaGreatPl
set_option linter.unusedVariables false
set_option linter.unusedSimpArgs false
namespace Go.Proofs.YtgbmiacpjmchdaaGreat
open Go.Sx Go.Np Go.Cv Go.Fq Go.Lp
set_option maxRecDepth 4000
set_option maxHeartbeats 2000000
theorem aP_U1 {A B K : Prop} (k : K) (a : A := by (simp only [zA, zT, zD, zC, zN, ints_len, zR, lnl, fll, stl]; omega)) (b : B := by (simp only [zA, zT, zD, zC, zN, ints_len, zR, lnl, fll, stl]; omega)) : (A ∧ B) ∧ K := ⟨⟨a, b⟩, k⟩
theorem foldF_ok (g : Nat) (c : SV) (f : Int × Int → Int → Int × Int × Int) (l : List Int) (hl : l.length ≤ 1000000) (v : Int × Int)
    (hcall : ∀ a x, x ∈ l → Ctr Tryz.prog g [.agg [i64 a.1, i64 a.2], i64 x, c] [] (fun r o => o = [] ∧ r = res (f a x))) :
    Ctr Tryz.prog 53 [.psl 1 (ints l), .agg [i64 v.1, i64 v.2], .fn g [.shut c]] [] (fun r o => o = [] ∧ r = res (foldE f l v)) := by
  refine fn_intro (E := env 0) tys_ok rfl rfl rfl Tryz.func53 (by kernel_rfl) rfl (by kernel_rfl) ?_
  have hil := ints_len l
  (repeat' (conv => whnf); first | (refine aC (fun _ => ?_) (fun _ => ?_) <;> try (exfalso; omega)) | refine aS ?_ | refine aG ?_ | refine aD ?_ | refine aH ?_ | refine aP_U1 ?_ | refine aI ?_ | refine aJ ?_ | fail); all_goals try (conv => whnf)
  refine LoopOb.mk (Y := Nat × (Int × Int)) (st := fun y => ⟨[(15, i64 y.1), (14, i64 (ints l).length), (13, .psl 1 (ints l)), (4, .ptr 0 0), (6, .ptr 1 0), (2, .fn g [.shut c])], [.box [i64 y.2.1, i64 y.2.2], .box [i64 0, i64 0]]⟩)
    (inv := fun y => y.1 ≤ l.length ∧ foldE f l v = foldE f (l.drop y.1) y.2) (fun y => l.length - y.1) (0, v) [0, 1] ⟨by simp, by simp⟩ (by (exact aL)) ?_
  rintro ⟨i, a⟩ ⟨hi, hF⟩
  dsimp only at hi hF ⊢
  (repeat' (conv => whnf); first | refine aS ?_ | refine aG ?_ | refine aD ?_ | refine aH ?_ | refine aP_U1 ?_ | refine aI ?_ | refine aJ ?_ | fail); all_goals try (conv => whnf)
  refine CondOb.mk (fun hlt => ?_) (fun hlt => ?_)
  · have hil : i < l.length := by omega
    have hd : l.drop i = l.getD i 0 :: l.drop (i + 1) := by
      rw [List.drop_eq_getElem_cons hil, List.getD_eq_getElem?_getD, List.getElem?_eq_getElem hil]; rfl
    rw [hd, foldE] at hF
    have hg := ints_get hil
    have cC := hcall a (l.getD i 0) (getD_in hil)
    generalize l.getD i 0 = x at *
    generalize f a x = z at *
    obtain ⟨z1, z2, z3⟩ := z
    dsimp only [res] at cC hF
    (repeat' (conv => whnf); first | refine ⟨i, _, rfl, hg, ?_⟩ | (refine aC (fun _ => ?_) (fun _ => ?_) <;> try (exfalso; omega)) | refine aS ?_ | refine aG ?_ | refine aD ?_ | refine aH ?_ | refine aP_U1 ?_ | refine aI ?_ | refine aJ ?_ | (refine CallOb.mk [] cC rfl ⟨Imp.refl _, Imp.refl _, Imp.unshut _, trivial⟩ rfl rfl ?_; rintro _ _ ⟨rfl, rfl⟩) | fail); all_goals try (conv => whnf)
    · have h := (by assumption : ¬z3 = 0)
      rw [if_pos h] at hF
      exact ⟨rfl, by rw [hF]; rfl⟩
    · have h := (by assumption : ¬z3 ≠ 0)
      rw [if_neg h] at hF
      exact ⟨(i + 1, (z1, z2)), [0, 1], ⟨by dsimp only; omega, hF⟩, by dsimp only; omega, by (exact aL)⟩
  · have hil : i = l.length := by omega
    subst hil
    rw [List.drop_length, foldE] at hF
    (repeat' (conv => whnf); first | (refine aC (fun _ => ?_) (fun _ => ?_) <;> try (exfalso; omega)) | refine aS ?_ | refine aG ?_ | refine aD ?_ | refine aH ?_ | refine aP_U1 ?_ | refine aI ?_ | refine aJ ?_ | fail); all_goals try (conv => whnf)
    exact ⟨rfl, by rw [hF]; rfl⟩
/- a flow more that uses a line -/
noncomputable def uStep (n : Nt) (a : Int × Int) (i : Int) : Int × Int × Int :=
  if (rate (n.fl.getD i.toNat fl0).v (n.fl.getD i.toNat fl0).p (n.fl.getD i.toNat fl0).q).2.2 ≠ 0 then (0, 0, (rate (n.fl.getD i.toNat fl0).v (n.fl.getD i.toNat fl0).p (n.fl.getD i.toNat fl0).q).2.2)
  else fadd a ((rate (n.fl.getD i.toNat fl0).v (n.fl.getD i.toNat fl0).p (n.fl.getD i.toNat fl0).q).1, (rate (n.fl.getD i.toNat fl0).v (n.fl.getD i.toNat fl0).p (n.fl.getD i.toNat fl0).q).2.1)
noncomputable def usedP (n : Nt) (l : Int) : Int × Int × Int := if chkN n ≠ 0 then (0, 0, 6) else if l < 0 ∨ (n.ln.length : Int) ≤ l then (0, 0, 2) else foldE (uStep n) (users n l) (0, 1)
theorem UsedC_ok (n : Nt) (hn : NL n) (a : Int × Int) (i : Nat) (hi : i < n.fl.length) : Ctr Tryz.prog 55 [.agg [i64 a.1, i64 a.2], i64 i, .pptr [.psl 1 (strs n.nm), .psl 5 (lns n.ln), .psl 8 (fls n.fl)]] [] (fun r o => o = [] ∧ r = res (uStep n a i)) := by
  refine fn_intro (E := env 0) tys_ok rfl rfl rfl Tryz.func55 (by kernel_rfl) rfl (by kernel_rfl) ?_
  have hg := flg hi
  have hU : uStep n a i = if (rate (n.fl.getD i fl0).v (n.fl.getD i fl0).p (n.fl.getD i fl0).q).2.2 ≠ 0 then (0, 0, (rate (n.fl.getD i fl0).v (n.fl.getD i fl0).p (n.fl.getD i fl0).q).2.2)
    else fadd a ((rate (n.fl.getD i fl0).v (n.fl.getD i fl0).p (n.fl.getD i fl0).q).1, (rate (n.fl.getD i fl0).v (n.fl.getD i fl0).p (n.fl.getD i fl0).q).2.1) := by unfold uStep; rw [Int.toNat_natCast]
  have cR := Rate_ok (n.fl.getD i fl0).v (n.fl.getD i fl0).p (n.fl.getD i fl0).q
  have hfl := fll n.fl
  rw [hU]
  generalize n.fl.getD i fl0 = f at *
  generalize rate f.v f.p f.q = z at *
  obtain ⟨z1, z2, z3⟩ := z
  dsimp only [res] at cR
  dsimp only
  (repeat' (conv => whnf); first | refine ⟨i, _, rfl, hg, ?_⟩ | (refine aC (fun _ => ?_) (fun _ => ?_) <;> try (exfalso; omega)) | refine aS ?_ | refine aG ?_ | refine aD ?_ | refine aH ?_ | refine aP_U1 ?_ | refine aI ?_ | refine aJ ?_ | (refine aK [] cR ?_) | (refine aK [] (fAdd_ok a.1 a.2 z1 z2) ?_) | fail); all_goals try (conv => whnf)
  · rw [if_pos (by assumption)]; exact ⟨rfl, rfl⟩
  · rw [if_neg (by assumption)]; exact ⟨rfl, rfl⟩
theorem Used_ok (n : Nt) (hn : NL n) (hb : n.fl.length ≤ 1000) (l : Int) : Ctr Tryz.prog 22 [ntv n, i64 l] [] (fun r o => o = [] ∧ r = res (usedP n l)) := by
  refine fn_intro (E := env 0) tys_ok rfl rfl rfl Tryz.func22 (by kernel_rfl) rfl (by kernel_rfl) ?_
  have cC := Check_ok n hn
  have hll := lnl n.ln
  have hU : usedP n l = if chkN n ≠ 0 then (0, 0, 6) else if l < 0 ∨ (n.ln.length : Int) ≤ l then (0, 0, 2) else foldE (uStep n) (users n l) (0, 1) := rfl
  have hul : (users n l).length ≤ 1000 := by have := usr_len (n := n) (l := l) (i := n.fl.length); unfold users; omega
  have cF := foldF_ok 55 (.pptr [.psl 1 (strs n.nm), .psl 5 (lns n.ln), .psl 8 (fls n.fl)]) (uStep n) (users n l) (by omega) (0, 1) fun a x hx => by
    obtain ⟨i, hi, rfl⟩ : ∃ i : Nat, i < n.fl.length ∧ x = i := by
      have := users_bd hx
      exact ⟨x.toNat, by omega, by omega⟩
    exact UsedC_ok n hn a i hi
  rw [hU]
  generalize chkN n = ck at *
  (repeat' (conv => whnf); first | (refine Gh.mk [.fb 0] ?_; (conv => whnf); refine CallOb.mk [] cF rfl ⟨Imp.refl _, Imp.refl _, Imp.fn ⟨Imp.shut rfl, trivial⟩, trivial⟩ rfl rfl ?_; rintro _ _ ⟨rfl, rfl⟩) | (refine aC (fun _ => ?_) (fun _ => ?_) <;> try (exfalso; omega)) | refine aS ?_ | refine aG ?_ | refine aD ?_ | refine aH ?_ | refine aP_U1 ?_ | refine aI ?_ | refine aJ ?_ | (refine aK [] cC ?_) | (refine aK [] (Users_ok n hn hb l) ?_) | fail); all_goals try (conv => whnf)
  all_goals first
    | (rw [if_pos (by assumption)]; exact ⟨rfl, rfl⟩)
    | (rw [if_neg (by assumption), if_pos (by omega)]; exact ⟨rfl, rfl⟩)
    | (rw [if_neg (by assumption), if_neg (by omega)]; exact ⟨rfl, rfl⟩)
    | trace_state
/- the lines that are used by more than their capacity, up to the first error -/
noncomputable def ovS (n : Nt) : Nat → List Int × Int
  | 0 => ([], 0)
  | i + 1 => if (ovS n i).2 ≠ 0 then ovS n i else if (usedP n i).2.2 ≠ 0 then ([], (usedP n i).2.2) else if 0 < fcmp ((usedP n i).1, (usedP n i).2.1) ((n.ln.getD i ln0).c, 1) then ((ovS n i).1 ++ [(i : Int)], 0) else ((ovS n i).1, 0)
noncomputable def overP (n : Nt) : List Int × Int := if chkN n ≠ 0 then ([], 6) else ovS n n.ln.length
theorem ovS_len (n : Nt) : ∀ i, (ovS n i).1.length ≤ i
  | 0 => by simp [ovS]
  | i + 1 => by
    have := ovS_len n i
    simp only [ovS]
    split
    · omega
    · split
      · simp
      · split
        · simp only [List.length_append, List.length_singleton]; omega
        · dsimp only; omega
theorem ovS_ge {n : Nt} {i : Nat} : ∀ {m : Nat}, i ≤ m → (ovS n i).2 ≠ 0 → ovS n m = ovS n i
  | 0, h, _ => by have : i = 0 := by omega
                  subst this; rfl
  | m + 1, h, hn => by
    by_cases e : i = m + 1
    · subst e; rfl
    · have := ovS_ge (m := m) (by omega) hn
      simp only [ovS]
      rw [this, if_pos hn]
theorem Over_ok (n : Nt) (hn : NL n) (hb : n.fl.length ≤ 1000) : Ctr Tryz.prog 24 [ntv n] [] (fun r o => o = [] ∧ r = .tup [.psl 1 (ints (overP n).1), i64 (overP n).2]) := by
  refine Ctr.imp ?_
  refine fn_intro (E := env 0) tys_ok rfl rfl rfl Tryz.func24 (by kernel_rfl) rfl (by kernel_rfl) ?_
  have cC := Check_ok n hn
  have hll := lnl n.ln
  have hO : overP n = if chkN n ≠ 0 then ([], 6) else ovS n n.ln.length := rfl
  by_cases hc : chkN n ≠ 0
  · rw [hO, if_pos hc]
    (repeat' (conv => whnf); first | refine AsgOb.nil ?_ | (refine aC (fun _ => ?_) (fun _ => ?_) <;> try (exfalso; omega)) | refine aS ?_ | refine aG ?_ | refine aD ?_ | refine aH ?_ | refine aP_U1 ?_ | refine aI ?_ | refine aJ ?_ | (refine aK [] cC ?_) | fail); all_goals try (conv => whnf)
    exact ⟨rfl, Imp.tup ⟨Imp.nil _, Imp.refl _, trivial⟩⟩
  rw [hO, if_neg hc]
  have hL := (chkN_zero (Classical.not_not.1 hc)).1
  (repeat' (conv => whnf); first | (refine aC (fun _ => ?_) (fun _ => ?_) <;> try (exfalso; omega)) | refine aS ?_ | refine aG ?_ | refine aD ?_ | refine aH ?_ | refine aP_U1 ?_ | refine aI ?_ | refine aJ ?_ | (refine aK [] cC ?_) | fail); all_goals try (conv => whnf)
  refine LoopOb.mk (Y := Nat) (st := fun i => ⟨[(15, i64 i), (14, i64 (lns n.ln).length), (13, .psl 5 (lns n.ln)), (4, .vec 1), (1, .ptr 0 0)], [.box [.psl 1 (strs n.nm), .psl 5 (lns n.ln), .psl 8 (fls n.fl)], .vec 1 (ints (ovS n i).1)]⟩)
    (inv := fun i => i ≤ n.ln.length ∧ (ovS n i).2 = 0) (fun i => n.ln.length - i) 0 [0, 2] ⟨by omega, rfl⟩ (by (exact aL)) ?_
  rintro i ⟨hi, hz⟩
  have hol := ints_len (ovS n i).1
  have hov := ovS_len n i
  (repeat' (conv => whnf); first | refine aS ?_ | refine aG ?_ | refine aD ?_ | refine aH ?_ | refine aP_U1 ?_ | refine aI ?_ | refine aJ ?_ | fail); all_goals try (conv => whnf)
  refine CondOb.mk (fun hlt => ?_) (fun hlt => ?_)
  · have hil : i < n.ln.length := by omega
    have hg := lng hil
    have cU := Used_ok n hn hb i
    have hst : ovS n (i + 1) = if (usedP n i).2.2 ≠ 0 then ([], (usedP n i).2.2) else if 0 < fcmp ((usedP n i).1, (usedP n i).2.1) ((n.ln.getD i ln0).c, 1) then ((ovS n i).1 ++ [(i : Int)], 0) else ((ovS n i).1, 0) := by
      simp only [ovS]; rw [if_neg (by omega)]
    have hge : (ovS n (i + 1)).2 ≠ 0 → ovS n n.ln.length = ovS n (i + 1) := fun h => ovS_ge (by omega) h
    generalize n.ln.getD i ln0 = ll at *
    generalize usedP n i = U at *
    obtain ⟨u1, u2, u3⟩ := U
    dsimp only [res] at cU hst
    (repeat' (conv => whnf); first | refine ⟨i, _, rfl, hg, ?_⟩ | refine AsgOb.nil ?_ | (refine aC (fun _ => ?_) (fun _ => ?_) <;> try (exfalso; omega)) | refine aS ?_ | refine aG ?_ | refine aD ?_ | refine aH ?_ | refine aP_U1 ?_ | refine aI ?_ | refine aJ ?_ | (refine aK [] cU ?_) | (refine aK [] (fCompare_ok u1 u2 ll.c 1) ?_) | fail); all_goals try (conv => whnf)
    all_goals first
      | (have h := (by assumption : u3 ≠ 0); rw [if_pos h] at hst; rw [hge (by rw [hst]; exact h), hst]; exact ⟨rfl, Imp.tup ⟨Imp.nil _, Imp.refl _, trivial⟩⟩)
      | (have h := (by assumption : ¬u3 ≠ 0); have h2 := (by assumption : 0 < fcmp (u1, u2) (ll.c, 1)); rw [if_neg h, if_pos h2] at hst; refine ⟨i + 1, [0, 5], ⟨by omega, by rw [hst]⟩, by omega, ?_⟩; rw [hst]; dsimp only; rw [ints_app]; (exact aL); done)
      | (have h := (by assumption : ¬u3 ≠ 0); have h2 := (by assumption : ¬0 < fcmp (u1, u2) (ll.c, 1)); rw [if_neg h, if_neg h2] at hst; refine ⟨i + 1, [0, 1], ⟨by omega, by rw [hst]⟩, by omega, ?_⟩; rw [hst]; (exact aL); done)
      | trace_state
  · have hil : i = n.ln.length := by omega
    subst hil
    (repeat' (conv => whnf); first | (refine aC (fun _ => ?_) (fun _ => ?_) <;> try (exfalso; omega)) | refine aS ?_ | refine aG ?_ | refine aD ?_ | refine aP_U1 ?_ | refine aI ?_ | refine aJ ?_ | fail); all_goals try (conv => whnf)
    refine .mk [.fa] ?_
    (repeat' (conv => whnf); first | (refine aC (fun _ => ?_) (fun _ => ?_) <;> try (exfalso; omega)) | refine aS ?_ | refine aG ?_ | refine aD ?_ | refine aH ?_ | refine aP_U1 ?_ | refine aI ?_ | refine aJ ?_ | fail); all_goals try (conv => whnf)
    rw [hz]
    exact ⟨rfl, Imp.refl _⟩
end Go.Proofs.YtgbmiacpjmchdaaGreat
