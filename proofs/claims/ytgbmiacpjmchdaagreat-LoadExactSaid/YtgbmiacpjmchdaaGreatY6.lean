/-
  A text of the proofs of this seat: lemmas that the statements' proofs use; it states nothing of the program by itself beyond the contracts that its theorems bear. Conditions: those that stand in each theorem. Its short name: Y6.
-/
import Derived.Test.YtgbmiacpjmchdaaGreatY1
import Derived.Test.YtgbmiacpjmchdaaGreatY5
import Derived.Test.YtgbmiacpjmchdaaGreatNx
set_option linter.unusedVariables false
set_option linter.unusedSimpArgs false
namespace Go.Proofs.YtgbmiacpjmchdaaGreat
open Go.Sx Go.Np Go.Cv Go.Tp
set_option maxRecDepth 4000
set_option maxHeartbeats 2000000
/-! folds up to the first error; the contract of a class -/
abbrev toX (y : C3 × Int) : E4 := (y.1.1, (y.1.2.1 : Int), y.1.2.2, y.2)
theorem toX_inj {y z : C3 × Int} (h : toX y = toX z) : y = z := by
  obtain ⟨⟨a, b, c⟩, e⟩ := y
  obtain ⟨⟨a', b', c'⟩, e'⟩ := z
  simp only [toX, Prod.mk.injEq] at h
  obtain ⟨rfl, h2, rfl, rfl⟩ := h
  have : b = b' := by omega
  subst this; rfl
abbrev zE (e : Int) : C3 × Int := (([], 0, 0), e)
inductive FoldR (F : Nat → C3 → C3 × Int → Prop) (n : Nat) : Nat → C3 → C3 × Int → Prop
  | stop (a : C3) : FoldR F n n a (a, 0)
  | go {i : Nat} {a : C3} {x y : C3 × Int} : i < n → F i a x → x.2 = 0 → FoldR F n (i + 1) x.1 y → FoldR F n i a y
  | err {i : Nat} {a : C3} {x : C3 × Int} : i < n → F i a x → x.2 ≠ 0 → FoldR F n i a (zE x.2)
theorem FoldR.uniq {F : Nat → C3 → C3 × Int → Prop} {n : Nat} {I : C3 → Prop} (hF : ∀ i a x y, F i a x → F i a y → x = y) : ∀ {i : Nat} {a : C3} {y z : C3 × Int}, FoldR F n i a y → FoldR F n i a z → y = z := by
  intro i a y z h
  induction h with
  | stop a => intro k; cases k with
    | stop => rfl
    | go h => omega
    | err h => omega
  | go h1 h2 h3 _ ih => intro k; cases k with
    | stop => omega
    | go k1 k2 k3 k4 => cases hF _ _ _ _ h2 k2; exact ih k4
    | err k1 k2 k3 => cases hF _ _ _ _ h2 k2; exact absurd h3 k3
  | err h1 h2 h3 => intro k; cases k with
    | stop => omega
    | go k1 k2 k3 k4 => cases hF _ _ _ _ h2 k2; exact absurd k3 h3
    | err k1 k2 k3 => cases hF _ _ _ _ h2 k2; rfl
/- one more flow -/
def StepR (n : Nt) (d : List (List Int)) (line x : Int) (a : C3) (y : C3 × Int) : Prop :=
  ∃ c : C3 × Int, AtP n d x (hop n x line) (toX c) ∧ ((c.2 ≠ 0 ∧ y = zE c.2) ∨ (c.2 = 0 ∧ SumX a c.1 (toX y)))
theorem atP_uniq {n : Nt} {d : List (List Int)} {f h : Int} {x y : E4} (hx : AtP n d f h x) (hy : AtP n d f h y) : x = y := by
  rcases hx with ⟨a, rfl⟩ | ⟨a, b, rfl⟩ | ⟨a, b, h⟩ <;> rcases hy with ⟨a', rfl⟩ | ⟨a', b', rfl⟩ | ⟨a', b', h'⟩
  · rfl
  · exact absurd a' a
  · exact absurd a' a
  · exact absurd a a'
  · rfl
  · exact absurd b' b
  · exact absurd a a'
  · exact absurd b b'
  · rcases h with ⟨h1, rfl⟩ | ⟨s, h1, h2⟩ <;> rcases h' with ⟨k1, rfl⟩ | ⟨s', k1, k2⟩
    · rfl
    · rw [h1] at k1; cases k1
    · rw [h1] at k1; cases k1
    · rw [h1] at k1; cases k1; exact h2.uniq k2
theorem StepR.uniq {n : Nt} {d : List (List Int)} {line x : Int} {a : C3} {y z : C3 × Int} (h : StepR n d line x a y) (k : StepR n d line x a z) : y = z := by
  obtain ⟨c, h1, h2⟩ := h
  obtain ⟨c', k1, k2⟩ := k
  cases toX_inj (atP_uniq h1 k1)
  rcases h2 with ⟨h2, rfl⟩ | ⟨h2, h3⟩ <;> rcases k2 with ⟨k2, rfl⟩ | ⟨k2, k3⟩
  · rfl
  · exact absurd k2 h2
  · exact absurd h2 k2
  · exact toX_inj (h3.uniq k3)
abbrev Good (a : C3) : Prop := VC a ∧ FinC a
/- small curves have an end -/
theorem fin_of {c : C3} (hc : VC c) (h : cv c (c.1.length - 1) ≤ 4000000000000000) : FinC c := fun hi => by
  have h6 := VF.val_inf hc hi hi (t := c.1.length - 1) (Nat.le_refl _)
  unfold cv at h
  rw [h6] at h
  simp only [INF] at h
  omega
theorem mk_good {F : Nat → Int} {y : C3 × Int} (h : MkP F (toX y)) (he : y.2 = 0) (hb : ∀ t, t ≤ 1000 → F t ≤ 4000000000000000) : Good y.1 ∧ ∀ t, cv y.1 t = F t := by
  obtain ⟨c, h1, _, h2, h3⟩ := mk_read h he
  have e : y = (c, 0) := toX_inj (y := y) (z := (c, 0)) h2
  subst e
  have := h1.n2
  exact ⟨⟨h1, fin_of h1 (by rw [h3]; exact hb _ (by dsimp only; omega))⟩, h3⟩
theorem atP_good {n : Nt} {d : List (List Int)} {f h : Int} {y : C3 × Int} (hx : AtP n d f h (toX y)) (he : y.2 = 0) : Good y.1 := by
  rcases hx with ⟨a, h⟩ | ⟨a, b, h⟩ | ⟨a, b, h⟩
  · have := congrArg (fun z => z.2.2.2) h; dsimp only at this; omega
  · have := congrArg (fun z => z.2.2.2) h; dsimp only at this; omega
  · rcases h with ⟨_, h⟩ | ⟨s, h1, h2⟩
    · have := congrArg (fun z => z.2.2.2) h; dsimp only at this; omega
    · obtain ⟨b1, b2, b3, b4⟩ := b
      obtain ⟨hv, hfi, hp, _⟩ := chk_ct a.c f.toNat (by omega)
      have hle := bef_le a (chk_fl a.c f.toNat (by omega)) (i := h.toNat) (s := s) (by omega) h1
      have hr4 := (chk_fl a.c f.toNat (by omega)).l2
      exact (mk_good h2 he fun t ht => by have := ahd_bd hv hfi (d := s) (t := t) (by omega); omega).1
theorem StepR.good {n : Nt} {d : List (List Int)} {line x : Int} {a : C3} {y : C3 × Int} (h : StepR n d line x a y) (ha : Good a) (he : y.2 = 0) : Good y.1 := by
  obtain ⟨c, h1, h2⟩ := h
  rcases h2 with ⟨h2, rfl⟩ | ⟨h2, a', b', _, _, h3⟩
  · exact absurd he h2
  · have hc := atP_good h1 h2
    rcases h3 with ⟨_, h3⟩ | ⟨_, h3⟩
    · exact (mk_good h3 he fun t ht => (pl2_bd ha.1 hc.1 ha.2 hc.2 (t := t) (by omega)).2).1
    · have := congrArg (fun z => z.2.2.2) h3; dsimp only at this; omega
/- what Class answers -/
def ClsP (n : Nt) (d : List (List Int)) (l c : Int) (y : C3 × Int) : Prop :=
  (¬ShapeP n d ∧ y = zE 6) ∨ (ShapeP n d ∧ ¬(0 ≤ l ∧ l < n.ln.length ∧ 0 ≤ c ∧ c < (n.ln.getD l.toNat ln0).n) ∧ y = zE 2) ∨
  (ShapeP n d ∧ (0 ≤ l ∧ l < n.ln.length ∧ 0 ≤ c ∧ c < (n.ln.getD l.toNat ln0).n) ∧ FoldR (fun i a y => StepR n d l ((members n l c).getD i 0) a y) (members n l c).length 0 ([0], 1, 0) y)
theorem ClsP.uniq {n : Nt} {d : List (List Int)} {l c : Int} {y z : C3 × Int} (h : ClsP n d l c y) (k : ClsP n d l c z) : y = z := by
  rcases h with ⟨a, rfl⟩ | ⟨a, b, rfl⟩ | ⟨a, b, h⟩ <;> rcases k with ⟨a', rfl⟩ | ⟨a', b', rfl⟩ | ⟨a', b', h'⟩
  · rfl
  · exact absurd a' a
  · exact absurd a' a
  · exact absurd a a'
  · rfl
  · exact absurd b' b
  · exact absurd a a'
  · exact absurd b b'
  · exact FoldR.uniq (I := fun _ => True) (fun i a x y h k => h.uniq k) h h'
theorem zero_good : Good ([0], 1, 0) := by
  have h : VC ([0], 1, 0) := by
    constructor <;> simp
    intro j k h1 h2; subst h2; have : j = 0 := by omega
    subst this; exact Int.le_refl _
  exact ⟨h, by unfold FinC; simp [INF]⟩
theorem atC_of {g : Nat} {vs : List SV} {P : E4 → Prop} (h : Ctr Tryz.prog g vs [] (fun r o => ∃ x, P x ∧ o = [] ∧ r = crvE x)) (hp : ∀ x, P x → 0 ≤ x.2.1) : Ctr Tryz.prog g vs [] (fun r o => ∃ y : C3 × Int, P (toX y) ∧ o = [] ∧ r = .tup [crv y.1.1 y.1.2.1 y.1.2.2, i64 y.2]) :=
  h.mono fun r o ⟨⟨x1, x2, x3, x4⟩, h1, h2, h3⟩ => by
    obtain ⟨p, rfl⟩ := Int.eq_ofNat_of_zero_le (hp _ h1)
    exact ⟨((x1, p, x3), x4), h1, h2, h3⟩
theorem mk_pos {F : Nat → Int} {x : E4} (h : MkP F x) : 0 ≤ x.2.1 := by
  rcases h with ⟨vs, p, q, _, _, rfl⟩ | ⟨_, rfl⟩
  · exact Int.natCast_nonneg _
  · exact Int.le_refl _
theorem atP_pos {n : Nt} {d : List (List Int)} {f h : Int} {x : E4} (hx : AtP n d f h x) : 0 ≤ x.2.1 := by
  rcases hx with ⟨a, rfl⟩ | ⟨a, b, rfl⟩ | ⟨a, b, ⟨_, rfl⟩ | ⟨s, _, h⟩⟩
  · exact Int.le_refl _
  · exact Int.le_refl _
  · exact Int.le_refl _
  · exact mk_pos h
theorem sumX_pos {f g : C3} {x : E4} (h : SumX f g x) : 0 ≤ x.2.1 := by
  obtain ⟨a, b, _, _, ⟨_, h⟩ | ⟨_, rfl⟩⟩ := h
  · exact mk_pos h
  · exact Int.le_refl _
theorem aP_Y6 {A B K : Prop} (k : K) (a : A := by (simp only [zA, zT, zD, zC, zN, ints_len, zR, lnl, fll, stl]; omega)) (b : B := by (simp only [zA, zT, zD, zC, zN, ints_len, zR, lnl, fll, stl]; omega)) : (A ∧ B) ∧ K := ⟨⟨a, b⟩, k⟩
theorem foldX_ok (g : Nat) (c1 c2 c3 : SV) (l : List Int) (hl : l.length ≤ 1000000) (I : C3 → Prop) (F : Nat → C3 → C3 × Int → Prop) (v : C3) (h0 : I v)
    (hF : ∀ i a y, I a → F i a y → y.2 = 0 → I y.1)
    (hcall : ∀ i a, i < l.length → I a → Ctr Tryz.prog g [crv a.1 a.2.1 a.2.2, i64 (l.getD i 0), c1, c2, c3] [] (fun r o => ∃ y : C3 × Int, F i a y ∧ o = [] ∧ r = .tup [crv y.1.1 y.1.2.1 y.1.2.2, i64 y.2])) :
    Ctr Tryz.prog 44 [.psl 1 (ints l), crv v.1 v.2.1 v.2.2, .fn g [.shut c1, .shut c2, .shut c3]] [] (fun r o => ∃ y : C3 × Int, FoldR F l.length 0 v y ∧ o = [] ∧ r = .tup [crv y.1.1 y.1.2.1 y.1.2.2, i64 y.2]) := by
  refine Ctr.impE ?_
  refine fn_intro (E := env 0) tys_ok rfl rfl rfl Tryz.func44 (by kernel_rfl) rfl (by kernel_rfl) ?_
  have hil := ints_len l
  (repeat' (conv => whnf); first | (refine aC (fun _ => ?_) (fun _ => ?_) <;> try (exfalso; omega)) | refine aS ?_ | refine aG ?_ | refine aD ?_ | refine aH ?_ | refine aP_Y6 ?_ | refine aI ?_ | refine aJ ?_ | fail); all_goals try (conv => whnf)
  refine LoopOb.mk (Y := Nat × C3) (st := fun y => ⟨[(15, i64 y.1), (14, i64 (ints l).length), (13, .psl 1 (ints l)), (4, .ptr 0 0), (6, .ptr 1 0), (2, .fn g [.shut c1, .shut c2, .shut c3])], [.box [.psl 1 (ints y.2.1), i64 y.2.2.1, i64 y.2.2.2], .box [.nil, i64 0, i64 0]]⟩)
    (inv := fun y => y.1 ≤ l.length ∧ I y.2 ∧ ∀ z, FoldR F l.length y.1 y.2 z → FoldR F l.length 0 v z) (fun y => l.length - y.1) (0, v) [0, 1] ⟨by simp, h0, fun _ h => h⟩ (by (exact aL)) ?_
  rintro ⟨i, a⟩ ⟨hi, hI, hz⟩
  dsimp only at hi hI hz ⊢
  (repeat' (conv => whnf); first | refine aS ?_ | refine aG ?_ | refine aD ?_ | refine aH ?_ | refine aP_Y6 ?_ | refine aI ?_ | refine aJ ?_ | fail); all_goals try (conv => whnf)
  refine CondOb.mk (fun hlt => ?_) (fun hlt => ?_)
  · have hil : i < l.length := by omega
    have hg := ints_get hil
    have cC := hcall i a hil hI
    generalize l.getD i 0 = x at *
    (repeat' (conv => whnf); first | refine ⟨i, _, rfl, hg, ?_⟩ | (refine aC (fun _ => ?_) (fun _ => ?_) <;> try (exfalso; omega)) | refine aS ?_ | refine aG ?_ | refine aD ?_ | refine aH ?_ | refine aP_Y6 ?_ | refine aI ?_ | refine aJ ?_ | (refine CallOb.mk [] cC rfl ⟨Imp.refl _, Imp.refl _, Imp.unshut _, Imp.unshut _, Imp.unshut _, trivial⟩ rfl rfl ?_; rintro _ _ ⟨⟨b, e⟩, hb, rfl, rfl⟩; dsimp only at hb ⊢) | fail); all_goals try (conv => whnf)
    all_goals first
      | exact ⟨zE e, hz _ (.err (x := (b, e)) hil hb (by assumption)), rfl, Imp.tup ⟨imp_zero, Imp.refl _, trivial⟩⟩
      | exact ⟨(i + 1, b), [0, 1], ⟨by dsimp only; omega, hF i a (b, e) hI hb (show e = 0 by omega), fun z h => hz z (.go (x := (b, e)) hil hb (show e = 0 by omega) h)⟩, by dsimp only; omega, by (exact aL)⟩
      | trace_state
  · have hil : i = l.length := by omega
    subst hil
    (repeat' (conv => whnf); first | (refine aC (fun _ => ?_) (fun _ => ?_) <;> try (exfalso; omega)) | refine aS ?_ | refine aG ?_ | refine aD ?_ | refine aH ?_ | refine aP_Y6 ?_ | refine aI ?_ | refine aJ ?_ | fail); all_goals try (conv => whnf)
    exact ⟨(a, 0), hz _ (.stop a), rfl, Imp.refl _⟩
end Go.Proofs.YtgbmiacpjmchdaaGreat
