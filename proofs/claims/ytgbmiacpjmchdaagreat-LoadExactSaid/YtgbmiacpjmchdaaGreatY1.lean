/-
  A text of the proofs of this seat: lemmas that the statements' proofs use; it states nothing of the program by itself beyond the contracts that its theorems bear. Conditions: those that stand in each theorem. Its short name: Y1 W4 R7 R9.
-/
import Derived.Test.YtgbmiacpjmchdaaGreatX1
import Derived.Test.YtgbmiacpjmchdaaGreatW3
import Derived.Test.YtgbmiacpjmchdaaGreatPl
set_option linter.unusedVariables false
set_option linter.unusedSimpArgs false
section
namespace Go.Proofs.YtgbmiacpjmchdaaGreat
open Go.Sx Go.Cv
set_option maxRecDepth 4000
set_option maxHeartbeats 2000000
/-! sums of any two curves -/
abbrev E4 := List Int × Int × Int × Int
/- what both answers: the normal forms and a common period, or an error -/
def BothX (f g : C3) (x : C3 × C3 × Nat × Int) : Prop := ∃ a b, NmC f a ∧ NmC g b ∧ ((com a b ≤ 120 ∧ x = (a, b, com a b, 0)) ∨ (120 < com a b ∧ x = (([], 0, 0), ([], 0, 0), 0, 3)))
/- the sum, or an error -/
def SumX (f g : C3) (x : E4) : Prop := ∃ a b, NmC f a ∧ NmC g b ∧ ((com a b ≤ 120 ∧ MkP (pl2 f g) x) ∨ (120 < com a b ∧ x = ([], 0, 0, 3)))
theorem NmC.uniq {f a b : C3} (h : NmC f a) (k : NmC f b) : a = b := by
  obtain ⟨h1, h2, h3⟩ := h.2.2.2.uniq k.2.2.2
  exact Prod.ext h1 (Prod.ext h2 h3)
theorem SumX.uniq {f g : C3} {x y : E4} (h : SumX f g x) (k : SumX f g y) : x = y := by
  obtain ⟨a, b, ha, hb, h⟩ := h
  obtain ⟨a', b', ha', hb', k⟩ := k
  cases ha.uniq ha'
  cases hb.uniq hb'
  rcases h with ⟨h1, h2⟩ | ⟨h1, rfl⟩ <;> rcases k with ⟨k1, k2⟩ | ⟨k1, rfl⟩
  · exact h2.uniq k2
  · omega
  · omega
  · rfl
theorem aP_Y1 {A B K : Prop} (k : K) (a : A := by (simp only [zA, zT, zD, zC, zN, ints_len, zR, lnl, fll, stl]; omega)) (b : B := by (simp only [zA, zT, zD, zC, zN, ints_len, zR, lnl, fll, stl]; omega)) : (A ∧ B) ∧ K := ⟨⟨a, b⟩, k⟩
theorem pBothX_ok (f g : C3) (hf : VC f) (hg : VC g) : Ctr Tryz.prog 80 [crv f.1 f.2.1 f.2.2, crv g.1 g.2.1 g.2.2] [] (fun r o => ∃ x : C3 × C3 × Nat × Int, BothX f g x ∧ o = [] ∧ r = .tup [crv x.1.1 x.1.2.1 x.1.2.2, crv x.2.1.1 x.2.1.2.1 x.2.1.2.2, i64 x.2.2.1, i64 x.2.2.2]) := by
  refine Ctr.impE ?_
  refine fn_intro (E := env 0) tys_ok rfl rfl rfl Tryz.func80 (by kernel_rfl) rfl (by kernel_rfl) ?_
  (repeat' (conv => whnf); first | (refine aC (fun _ => ?_) (fun _ => ?_) <;> try (exfalso; omega)) | refine aS ?_ | refine aG ?_ | refine aD ?_ | refine aH ?_ | refine aP_Y1 ?_ | refine aI ?_ | refine aJ ?_ | refine aW (.qs [0, 1, 2] (.l 3 [1] (.l 4 [] (.qs [5, 6] .nil) .no) .no)) ?_ | fail); all_goals try (conv => whnf)
  refine CallOb.mk [] (CNormN f hf) rfl (ImpL.refl _) rfl rfl ?_
  rintro _ _ ⟨a, ha, rfl, rfl⟩
  (repeat' (conv => whnf); first | (refine aC (fun _ => ?_) (fun _ => ?_) <;> try (exfalso; omega)) | refine aS ?_ | refine aG ?_ | refine aD ?_ | refine aH ?_ | refine aP_Y1 ?_ | refine aI ?_ | refine aJ ?_ | refine aW (.qs [0, 1, 2] (.l 3 [1] (.l 4 [] (.qs [5, 6] .nil) .no) .no)) ?_ | fail); all_goals try (conv => whnf)
  refine CallOb.mk [] (CNormN g hg) rfl (ImpL.refl _) rfl rfl ?_
  rintro _ _ ⟨b, hb, rfl, rfl⟩
  have cC := Common_ok a.2.1 b.2.1 ha.1.p1 hb.1.p1 (by have := ha.1.p2; omega) (by have := hb.1.p2; omega)
  rw [show Nat.lcm a.2.1 b.2.1 = com a b from rfl] at cC
  have hX : ∀ c : Nat, com a b = c → (c ≤ 120 → BothX f g (a, b, c, 0)) ∧ (120 < c → BothX f g (([], 0, 0), ([], 0, 0), 0, 3)) := fun c e => ⟨fun h => ⟨a, b, ha, hb, .inl ⟨by omega, by rw [e]⟩⟩, fun h => ⟨a, b, ha, hb, .inr ⟨by omega, rfl⟩⟩⟩
  obtain ⟨hX1, hX2⟩ := hX _ rfl
  generalize com a b = c at *
  (repeat' (conv => whnf); first | (refine aC (fun _ => ?_) (fun _ => ?_) <;> try (exfalso; omega)) | refine aS ?_ | refine aG ?_ | refine aD ?_ | refine aH ?_ | refine aP_Y1 ?_ | refine aI ?_ | refine aJ ?_ | refine aW (.qs [0, 1, 2] (.l 3 [1] (.l 4 [] (.qs [5, 6] .nil) .no) .no)) ?_ | (refine aK [] cC ?_) | fail); all_goals try (conv => whnf)
  all_goals first
    | exact ⟨_, hX1 (by omega), rfl, Imp.refl _⟩
    | exact ⟨_, hX2 (by omega), rfl, Imp.tup ⟨imp_zero, imp_zero, Imp.refl _, Imp.refl _, trivial⟩⟩
    | trace_state
theorem pl2_mono {f g : C3} (hf : VC f) (hg : VC g) : Mono (pl2 f g) := fun t => by
  have h1 := hf.mono' t
  have h2 := hg.mono' t
  unfold pl2 cv; omega
theorem pl2_bd {f g : C3} (hf : VC f) (hg : VC g) (ff : FinC f) (fg : FinC g) {t : Nat} (h : t ≤ 1000000) : 0 ≤ pl2 f g t ∧ pl2 f g t ≤ 4000000000000000 := by
  have a1 := cv_nonneg hf t
  have b1 := cv_nonneg hg t
  have a2 := cv_small hf (t := t) (by omega) (ff.not hf _)
  have b2 := cv_small hg (t := t) (by omega) (fg.not hg _)
  unfold pl2; omega
theorem SumX_ok (f g : C3) (hf : VC f) (hg : VC g) (ff : FinC f) (fg : FinC g) : Ctr Tryz.prog 48 [crv f.1 f.2.1 f.2.2, crv g.1 g.2.1 g.2.2] [] (fun r o => ∃ x, SumX f g x ∧ o = [] ∧ r = crvE x) := by
  refine Ctr.impE ?_
  refine fn_intro (E := env 0) tys_ok rfl rfl rfl Tryz.func48 (by kernel_rfl) rfl (by kernel_rfl) ?_
  (repeat' (conv => whnf); first | (refine aC (fun _ => ?_) (fun _ => ?_) <;> try (exfalso; omega)) | refine aS ?_ | refine aG ?_ | refine aD ?_ | refine aH ?_ | refine aP_Y1 ?_ | refine aI ?_ | refine aJ ?_ | refine aW (.qs [0, 1, 3, 6, 7, 8, 10, 11] (.l 2 [10, 7, 3] (.l 4 [10, 7] (.qs [5] (.l 9 [10] (.l 12 [] (.qs [13] (.l 14 [] (.qs [15, 16] (.l 17 [] (.qs [18] .nil) .no)) .no)) .no) .no)) .no) .no)) ?_ | fail); all_goals try (conv => whnf)
  refine CallOb.mk [] (pBothX_ok f g hf hg) rfl (ImpL.refl _) rfl rfl ?_
  rintro _ _ ⟨_, ⟨a, b, ha, hb, ⟨hc, rfl⟩ | ⟨hc, rfl⟩⟩, rfl, rfl⟩
  case inr =>
    dsimp only
    (repeat' (conv => whnf); first | (refine aC (fun _ => ?_) (fun _ => ?_) <;> try (exfalso; omega)) | refine aS ?_ | refine aG ?_ | refine aD ?_ | refine aH ?_ | refine aP_Y1 ?_ | refine aI ?_ | refine aJ ?_ | refine aW (.qs [0, 1, 3, 6, 7, 8, 10, 11] (.l 2 [10, 7, 3] (.l 4 [10, 7] (.qs [5] (.l 9 [10] (.l 12 [] (.qs [13] (.l 14 [] (.qs [15, 16] (.l 17 [] (.qs [18] .nil) .no)) .no)) .no) .no)) .no) .no)) ?_ | fail); all_goals try (conv => whnf)
    exact ⟨([], 0, 0, 3), ⟨a, b, ha, hb, .inr ⟨hc, rfl⟩⟩, rfl, Imp.tup ⟨imp_zero, Imp.refl _, trivial⟩⟩
  dsimp only
  have n1 := ha.1.n2
  have n2 := hb.1.n2
  have p1 := ha.1.pn
  have p2 := hb.1.pn
  have fa := ha.2.2.1 ff
  have fb := hb.2.2.1 fg
  have hc1 := com_pos ha.1 hb.1
  have cSa := Start_ok a.1 a.2.1 a.2.2 p1 (by omega)
  have cSb := Start_ok b.1 b.2.1 b.2.2 p2 (by omega)
  have cGa := wGain_ok a ha.1 (com a b) (by omega) (Nat.dvd_lcm_left _ _)
  have cGb := wGain_ok b hb.1 (com a b) (by omega) (Nat.dvd_lcm_right _ _)
  have d1 : com a b / a.2.1 ≤ com a b := Nat.div_le_self _ _
  have d2 : com a b / b.2.1 ≤ com a b := Nat.div_le_self _ _
  have hper : Per (pl2 a b) (frm a b) (com a b) (((com a b / a.2.1 : Nat) : Int) * a.2.2 + ((com a b / b.2.1 : Nat) : Int) * b.2.2) := fun t ht => by
    unfold pl2
    rw [cv_com_l ha.1 ht, cv_com_r hb.1 ht, Int.mul_comm a.2.2, Int.mul_comm b.2.2]; omega
  have hfr := frm_le ha.1 hb.1
  have hmx : max ((a.1.length - a.2.1 : Nat) : Int) ((b.1.length - b.2.1 : Nat) : Int) = (frm a b : Nat) := by unfold frm; omega
  generalize com a b / a.2.1 = k1 at *
  generalize com a b / b.2.1 = k2 at *
  have m1 := mul_bd (a := (k1 : Int)) (b := a.2.2) (A := 120) (B := 1073741824) (by omega) (by omega) ha.1.q0 ha.1.q1
  have m2 := mul_bd (a := (k2 : Int)) (b := b.2.2) (A := 120) (B := 1073741824) (by omega) (by omega) hb.1.q0 hb.1.q1
  generalize (k1 : Int) * a.2.2 = g1 at *
  generalize (k2 : Int) * b.2.2 = g2 at *
  (repeat' (conv => whnf); first | (refine aC (fun _ => ?_) (fun _ => ?_) <;> try (exfalso; omega)) | refine aS ?_ | refine aG ?_ | refine aD ?_ | refine aP_Y1 ?_ | refine aI ?_ | refine aJ ?_ | refine aW (.qs [0, 1, 3, 6, 7, 8, 10, 11] (.l 2 [10, 7, 3] (.l 4 [10, 7] (.qs [5] (.l 9 [10] (.l 12 [] (.qs [13] (.l 14 [] (.qs [15, 16] (.l 17 [] (.qs [18] .nil) .no)) .no)) .no) .no)) .no) .no)) ?_ | (refine Gh.mk [] ?_; (conv => whnf); refine aK [] cSa ?_) | (refine Gh.mk [] ?_; (conv => whnf); refine aK [] cSb ?_) | (refine Gh.mk [] ?_; (conv => whnf); refine aK [] cGa ?_) | (refine Gh.mk [] ?_; (conv => whnf); refine aK [] cGb ?_) | fail); all_goals try (conv => whnf)
  rw [hmx]
  refine .mk [.fb 3, .fb 4] ?_
  have he : pl2 a b = pl2 f g := funext fun t => by unfold pl2; rw [ha.2.1, hb.2.1]
  refine CallOb.mk [] (Build2_ok 81 (.pptr [.psl 1 (ints a.1), i64 a.2.1, i64 a.2.2]) (.pptr [.psl 1 (ints b.1), i64 b.2.1, i64 b.2.2]) (pl2 a b) (frm a b) (com a b) (g1 + g2) hc1 (by omega) (by omega) (by omega) (fun t ht => by
      have := pl2_bd ha.1 hb.1 fa fb (t := t) (by omega)
      omega) (fun t ht => SumC_ok a b ha.1 hb.1 fa fb t (by omega)) (fun _ => hper)) rfl ?_ rfl rfl ?_
  · exact ⟨Imp.fn ⟨Imp.shut rfl, Imp.shut rfl, trivial⟩, Imp.refl _, Imp.refl _, Imp.refl _, trivial⟩
  rintro _ _ ⟨⟨x1, x2, x3, x4⟩, hx, rfl, rfl⟩
  have hmk : MkP (pl2 a b) (x1, x2, x3, x4) := buildP_mk (pl2_bd ha.1 hb.1 fa fb (by omega)).1 (pl2_mono ha.1 hb.1) (fun t ht => by have := (pl2_bd ha.1 hb.1 fa fb (t := t) (by omega)).2; simp only [INF]; omega) (fun m hm h => by
    have := (pl2_bd ha.1 hb.1 fa fb (t := m) (by omega)).2
    rw [h] at this; simp only [INF] at this; omega) hx
  rw [he] at hmk
  (repeat' (conv => whnf); first | (refine aC (fun _ => ?_) (fun _ => ?_) <;> try (exfalso; omega)) | refine aS ?_ | refine aG ?_ | refine aD ?_ | refine aH ?_ | refine aP_Y1 ?_ | refine aI ?_ | refine aJ ?_ | refine aW (.qs [0, 1, 3, 6, 7, 8, 10, 11] (.l 2 [10, 7, 3] (.l 4 [10, 7] (.qs [5] (.l 9 [10] (.l 12 [] (.qs [13] (.l 14 [] (.qs [15, 16] (.l 17 [] (.qs [18] .nil) .no)) .no)) .no) .no)) .no) .no)) ?_ | fail); all_goals try (conv => whnf)
  all_goals exact ⟨(x1, x2, x3, x4), ⟨a, b, ha, hb, .inl ⟨hc, hmk⟩⟩, rfl, Imp.refl _⟩
end Go.Proofs.YtgbmiacpjmchdaaGreat
end
section
--APPX Go.Cv.vals_len
namespace Go.Proofs.YtgbmiacpjmchdaaGreat
open Go.Sx Go.Cv
set_option maxRecDepth 4000
set_option maxHeartbeats 2000000
structure Prep (vs : List Int) (p q : Int) (ws : List Int) (p' q' : Int) (a b : C3) : Prop where
  f : ∃ p0 : Nat, p = p0 ∧ VF vs p0 q ∧ NF (val vs p0 q) a.1 a.2.1 a.2.2
  g : ∃ p0 : Nat, p' = p0 ∧ VF ws p0 q' ∧ NF (val ws p0 q') b.1 b.2.1 b.2.2
  va : VC a
  vb : VC b
/- the errors that come first -/
def PrepE (vs : List Int) (p q : Int) (ws : List Int) (p' q' : Int) (e : Int) : Prop :=
  (e = 1 ∧ (¬ValidP vs p q ∨ ¬ValidP ws p' q')) ∨ (e = 3 ∧ ∃ a b, Prep vs p q ws p' q' a b ∧ 120 < com a b)
theorem normP_ne {vs p q x} (h : NormP vs p q x.1 x.2.1 x.2.2.1 x.2.2.2) (he : x.2.2.2 ≠ 0) : ¬ValidP vs p q ∧ x = ([], 0, 0, 1) := by
  obtain ⟨x1, x2, x3, x4⟩ := x
  rcases h with ⟨h, _⟩ | ⟨h1, h2, h3, h4, h5⟩
  · exact absurd h he
  · simp only at h2 h3 h4 h5; subst h2 h3 h4 h5; exact ⟨h1, rfl⟩
end Go.Proofs.YtgbmiacpjmchdaaGreat
end
section
--APPX Go.Cv.vals_len
namespace Go.Proofs.YtgbmiacpjmchdaaGreat
open Go.Sx Go.Cv
set_option maxRecDepth 4000
set_option maxHeartbeats 2000000
theorem pair_prep {vs p q ws p' q' A B l e} (h : PairP vs p q ws p' q' A B l e) :
    (PrepE vs p q ws p' q' e ∧ e ≠ 0) ∨ (e = 0 ∧ ∃ a b : C3, Prep vs p q ws p' q' a b ∧ com a b ≤ 120 ∧ A = (a.1, (a.2.1 : Int), a.2.2) ∧ B = (b.1, (b.2.1 : Int), b.2.2) ∧ l = com a b) := by
  obtain ⟨ea, eb, hA, hB, h⟩ := h
  obtain ⟨A1, A2, A3⟩ := A
  obtain ⟨B1, B2, B3⟩ := B
  rcases h with ⟨h1, rfl, rfl⟩ | ⟨rfl, rfl, h⟩
  · refine .inl ⟨.inl ⟨rfl, ?_⟩, by omega⟩
    rcases h1 with h1 | h1
    · exact .inl (normP_ne (x := (A1, A2, A3, ea)) hA h1).1
    · exact .inr (normP_ne (x := (B1, B2, B3, eb)) hB h1).1
  · obtain ⟨p0, pa, rfl, hpa, vf, nf, va⟩ := norm_ok hA
    obtain ⟨p0', pb, rfl, hpb, vg, ng, vb⟩ := norm_ok hB
    simp only at hpa hpb nf ng va vb h
    subst hpa
    subst hpb
    have hP : Prep vs p0 q ws p0' q' (A1, pa, A3) (B1, pb, B3) := ⟨⟨p0, rfl, vf, nf⟩, ⟨p0', rfl, vg, ng⟩, va, vb⟩
    simp only [Int.toNat_natCast] at h
    rcases h with ⟨h1, rfl, rfl⟩ | ⟨h1, rfl, rfl⟩
    · exact .inl ⟨.inr ⟨rfl, _, _, hP, by unfold com; simp only; omega⟩, by omega⟩
    · exact .inr ⟨rfl, _, _, hP, by unfold com; simp only; omega, rfl, rfl, rfl⟩
theorem bd_vals {F : Nat → Int} {N P : Nat} {Q : Int} (hF : ∀ t, t < N → 0 ≤ F t ∧ F t ≤ INF) (h1 : 1 ≤ P) (h2 : P ≤ N) (h3 : N ≤ 2000) (h4 : 0 ≤ Q) (h5 : Q ≤ 1099511627776) : Bd (vals F N) P Q :=
  ⟨h1, by rw [vals_len]; exact h2, by rw [vals_len]; exact h3, h4, h5, fun j => by
    by_cases hj : j < N
    · rw [vals_get hj]; exact hF j hj
    · rw [List.getD_eq_getElem?_getD, List.getElem?_eq_none (by rw [vals_len]; omega)]; simp⟩
end Go.Proofs.YtgbmiacpjmchdaaGreat
end
section
--APPX Go.Cv.vals_len
namespace Go.Proofs.YtgbmiacpjmchdaaGreat
open Go.Sx Go.Cv
set_option maxRecDepth 4000
set_option maxHeartbeats 2000000
theorem vc_bd {a : C3} (h : VC a) {t : Nat} (ht : t ≤ 1048576) : 0 ≤ cv a t ∧ cv a t ≤ 6000000000000000000 := val_bd (bd_of h) ht
theorem rAt_ok (a : C3) (t : Nat) (ha : VC a) (ht : t ≤ 1048576) : Ctr Tryz.prog 78 [crv a.1 a.2.1 a.2.2, i64 t] [] (fun r o => o = [] ∧ r = i64 (cv a t)) :=
  (At_ok a.1 a.2.1 a.2.2 t (bd_of ha) (by omega) (by omega)).mono (fun r o ⟨h1, h2⟩ => ⟨h1, by rw [h2]; simp [cv]⟩)
end Go.Proofs.YtgbmiacpjmchdaaGreat
end
