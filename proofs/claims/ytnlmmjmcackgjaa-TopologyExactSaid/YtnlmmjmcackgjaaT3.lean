/-
  A text of the proofs of this seat: lemmas that the statements' proofs use; it states nothing of the program by itself beyond the contracts that its theorems bear. Conditions: those that stand in each theorem. Its short name: T3.
-/
import Derived.Test.YtnlmmjmcackgjaaT2
set_option linter.unusedVariables false
set_option linter.unusedSimpArgs false
namespace Go.Proofs.Ytnlmmjmcackgjaa
open Go.Sx Go.Np Go.Tp
set_option maxRecDepth 4000
set_option maxHeartbeats 2000000
/- how many are not met -/
def cnt (met : Nat → Bool) : Nat → Nat
  | 0 => 0
  | m + 1 => cnt met m + if met m = true then 0 else 1
theorem cnt_le {met met' : Nat → Bool} (h : ∀ x, met x = true → met' x = true) : ∀ m, cnt met' m ≤ cnt met m
  | 0 => Nat.le_refl _
  | m + 1 => by
    have := cnt_le h m
    have := h m
    simp only [cnt]
    by_cases e : met m = true
    · rw [if_pos e, if_pos (h m e)]; omega
    · rw [if_neg e]; split <;> omega
theorem cnt_lt {met met' : Nat → Bool} (h : ∀ x, met x = true → met' x = true) {a : Nat} (ha : met a = false) (ha' : met' a = true) : ∀ {m}, a < m → cnt met' m < cnt met m
  | 0, hm => by omega
  | m + 1, hm => by
    simp only [cnt]
    by_cases e : a = m
    · subst e
      have := cnt_le h a
      rw [ha, ha']; simp; omega
    · have := cnt_lt h ha ha' (m := m) (by omega)
      by_cases e2 : met m = true
      · rw [if_pos e2, if_pos (h m e2)]; omega
      · rw [if_neg e2]; split <;> omega
/- what a visit does -/
structure VsP (E : Gr) (met : Nat → Bool) (a : Nat) (met' : Nat → Bool) : Prop where
  k : ∀ x, met x = true → met' x = true
  s : met' a = true
  r : ∀ x, met' x = true → met x = true ∨ Rch E a x
  c : ∀ x y, met' x = true → met x = false → E x y = true → met' y = true
structure LpP (E : Gr) (met : Nat → Bool) (a b : Nat) (met' : Nat → Bool) : Prop where
  k : ∀ x, met x = true → met' x = true
  s : met' a = true
  r : ∀ x, met' x = true → met x = true ∨ Rch E a x
  c : ∀ x y, met' x = true → met x = false → x ≠ a → E x y = true → met' y = true
  e : ∀ y, y < b → E a y = true → met' y = true
abbrev vown (m : Nat) (E : Gr) (met : Nat → Bool) : List Chunk := [.box [.vec 3], .box [.psl 1 (gps m m E)], .box [.fn 86 [.ptr 0 0, .ptr 1 0, .ptr 2 0]], .vec 1 (bls m met)]
theorem aP_T3 {A B K : Prop} (k : K) (a : A := by (simp only [zA, zT, zD, zC, zN, ints_len, zR, lnl, fll, stl]; omega)) (b : B := by (simp only [zA, zT, zD, zC, zN, ints_len, zR, lnl, fll, stl]; omega)) : (A ∧ B) ∧ K := ⟨⟨a, b⟩, k⟩
theorem visit_ok (m : Nat) (hm : m ≤ 1000) (E : Gr) (hE : GOK E m) : ∀ (k : Nat) (met : Nat → Bool) (a : Nat), cnt met m ≤ k → a < m → met a = false →
    Ctr Try.prog 86 [i64 a, .ptr 0 0, .ptr 1 0, .ptr 2 0] (vown m E met) (fun r o => ∃ met', VsP E met a met' ∧ o = vown m E met' ∧ r = .tup [])
  | 0, met, a, hk, ha, hma => by
    exfalso
    have := cnt_lt (met := met) (met' := fun _ => true) (fun _ _ => rfl) hma rfl ha
    omega
  | k + 1, met, a, hk, ha, hma => by
    refine fn_intro (E := env 4) tys_ok rfl rfl rfl Try.func86 (by kernel_rfl) rfl (by kernel_rfl) ?_
    have hbl := bls_len m met
    have hg := gps_get (n := m) (m := m) (E := E) ha
    have hbE := bls_len m (E a)
    have hgl := gps_len m m E
    have hset := bls_set (m := m) (b := a) (f := met) (v := true)
    (repeat' (conv => whnf); first | (refine aC (fun _ => ?_) (fun _ => ?_) <;> try (exfalso; omega)) | refine aS ?_ | refine aG ?_ | refine aD ?_ | refine aH ?_ | refine aP_T3 ?_ | refine aI ?_ | refine aJ ?_ | refine ⟨a, rfl, by rw [hbl]; exact ha, ?_⟩ | refine ⟨_, bls_get ha, ?_⟩ | refine ⟨a, _, rfl, hg, ?_⟩ | fail); all_goals try (conv => whnf)
    have h1k : ∀ x, met x = true → (if x = a then true else met x) = true := fun x hx => by rw [hx]; simp
    refine LoopOb.mk (Y := Nat × (Nat → Bool)) (st := fun y => ⟨[(15, i64 y.1), (14, i64 (bls m (E a)).length), (13, .psl 1 (bls m (E a))), (1, .ptr 0 0), (3, .ptr 2 0)], vown m E y.2⟩)
      (inv := fun y => y.1 ≤ m ∧ LpP E met a y.1 y.2) (fun y => m - y.1) (0, fun x => if x = a then true else met x) [0, 1, 2, 3] ⟨by simp, ⟨h1k, by simp, fun x hx => by
        dsimp only at hx
        by_cases e : x = a
        · subst e; exact .inr (.refl _ _)
        · rw [if_neg e] at hx; exact .inl hx, fun x y hx hn hne _ => by
        dsimp only at hx
        rw [if_neg hne] at hx; rw [hx] at hn; contradiction, fun y hy => by omega⟩⟩ (by rw [hset]; (exact aL)) ?_
    rintro ⟨b, mt⟩ ⟨hb, hP⟩
    dsimp only at hb hP ⊢
    have hbt := bls_len m mt
    (repeat' (conv => whnf); first | refine aS ?_ | refine aG ?_ | refine aD ?_ | refine aH ?_ | refine aP_T3 ?_ | refine aI ?_ | refine aJ ?_ | fail); all_goals try (conv => whnf)
    refine CondOb.mk (fun hlt => ?_) (fun hlt => ?_)
    · have hbm : b < m := by omega
      have hg1 := bls_get (f := E a) hbm
      have hg2 := bls_get (f := mt) hbm
      have hnx : (E a b = true → mt b = true) → LpP E met a (b + 1) mt := fun h => ⟨hP.k, hP.s, hP.r, hP.c, fun y hy he => by
        by_cases e : y = b
        · subst e; exact h he
        · exact hP.e y (by omega) he⟩
      cases hab : E a b
      · rw [hab] at hg1 hnx
        (repeat' (conv => whnf); first | (refine aC (fun _ => ?_) (fun _ => ?_) <;> try (exfalso; omega)) | refine aS ?_ | refine aG ?_ | refine aD ?_ | refine aH ?_ | refine aP_T3 ?_ | refine aI ?_ | refine aJ ?_ | refine ⟨b, _, rfl, hg1, ?_⟩ | fail); all_goals try (conv => whnf)
        exact ⟨(b + 1, mt), [0, 1, 2, 3], ⟨by dsimp only; omega, hnx (fun h => by contradiction)⟩, by dsimp only; omega, by (exact aL)⟩
      · rw [hab] at hg1 hnx
        cases hmb : mt b
        · rw [hmb] at hg2 hnx
          have hck : cnt mt m < cnt met m := cnt_lt hP.k hma hP.s ha
          (repeat' (conv => whnf); first | (refine aC (fun _ => ?_) (fun _ => ?_) <;> try (exfalso; omega)) | refine aS ?_ | refine aG ?_ | refine aD ?_ | refine aH ?_ | refine aP_T3 ?_ | refine aI ?_ | refine aJ ?_ | refine ⟨b, _, rfl, hg1, ?_⟩ | refine ⟨b, rfl, by rw [hbt]; exact hbm, ?_⟩ | refine ⟨_, hg2, ?_⟩ | fail); all_goals try (conv => whnf)
          refine CallOb.mk [0, 1, 2, 3] (visit_ok m hm E hE k mt b (by omega) hbm hmb) rfl (ImpL.refl _) rfl rfl ?_
          rintro _ _ ⟨mt', hV, rfl, rfl⟩
          have hN : LpP E met a (b + 1) mt' := by
            refine ⟨fun x hx => hV.k x (hP.k x hx), hV.k a hP.s, fun x hx => ?_, fun x y hx hn hne he => ?_, fun y hy he => ?_⟩
            · rcases hV.r x hx with h | h
              · exact hP.r x h
              · exact .inr ((Rch.one hab).trans h)
            · cases hmx : mt x
              · exact hV.c x y hx hmx he
              · exact hV.k y (hP.c x y hmx hn hne he)
            · by_cases e : y = b
              · subst e; exact hV.s
              · exact hV.k y (hP.e y (by omega) he)
          (repeat' (conv => whnf); first | (refine aC (fun _ => ?_) (fun _ => ?_) <;> try (exfalso; omega)) | refine aS ?_ | refine aG ?_ | refine aD ?_ | refine aH ?_ | refine aP_T3 ?_ | refine aI ?_ | refine aJ ?_ | fail); all_goals try (conv => whnf)
          exact ⟨(b + 1, mt'), [0, 1, 2, 3], ⟨by dsimp only; omega, hN⟩, by dsimp only; omega, by (exact aL)⟩
        · rw [hmb] at hg2 hnx
          (repeat' (conv => whnf); first | (refine aC (fun _ => ?_) (fun _ => ?_) <;> try (exfalso; omega)) | refine aS ?_ | refine aG ?_ | refine aD ?_ | refine aH ?_ | refine aP_T3 ?_ | refine aI ?_ | refine aJ ?_ | refine ⟨b, _, rfl, hg1, ?_⟩ | refine ⟨b, rfl, by rw [hbt]; exact hbm, ?_⟩ | refine ⟨_, hg2, ?_⟩ | fail); all_goals try (conv => whnf)
          exact ⟨(b + 1, mt), [0, 1, 2, 3], ⟨by dsimp only; omega, hnx (fun _ => rfl)⟩, by dsimp only; omega, by (exact aL)⟩
    · (repeat' (conv => whnf); first | (refine aC (fun _ => ?_) (fun _ => ?_) <;> try (exfalso; omega)) | refine aS ?_ | refine aG ?_ | refine aD ?_ | refine aH ?_ | refine aP_T3 ?_ | refine aI ?_ | refine aJ ?_ | fail); all_goals try (conv => whnf)
      refine ⟨mt, ⟨hP.k, hP.s, hP.r, fun x y hx hn he => ?_⟩, rfl, rfl⟩
      by_cases e : x = a
      · subst e; exact hP.e y (by have := (hE.b _ _ he).2; omega) he
      · exact hP.c x y hx hn e he
/- all that is reached from a line -/
theorem VsP.full {E : Gr} {a : Nat} {met' : Nat → Bool} (h : VsP E (fun _ => false) a met') (x : Nat) : met' x = true ↔ Rch E a x := by
  constructor
  · intro hx
    rcases h.r x hx with h1 | h1
    · contradiction
    · exact h1
  · exact Rch.closed (P := fun x => met' x = true) (fun x y hx he => h.c x y hx rfl he) h.s
open Classical in
noncomputable def rch (E : Gr) (a b : Nat) : Bool := decide (Rch E a b)
theorem rch_true {E : Gr} {a b : Nat} : rch E a b = true ↔ Rch E a b := by simp [rch]
theorem reach_ok (m : Nat) (hm : m ≤ 1000) (E : Gr) (hE : GOK E m) (a : Nat) (ha : a < m) :
    Ctr Try.prog 49 [.psl 1 (gps m m E), i64 a] [] (fun r o => o = [] ∧ r = .psl 1 (bls m (rch E a))) := by
  refine Ctr.imp ?_
  refine fn_intro (E := env 0) tys_ok rfl rfl rfl Try.func49 (by kernel_rfl) rfl (by kernel_rfl) ?_
  have hgl := gps_len m m E
  have hrep := rep_bls m
  (repeat' (conv => whnf); first | refine AsgOb.nil ?_ | (refine aC (fun _ => ?_) (fun _ => ?_) <;> try (exfalso; omega)) | refine aS ?_ | refine aG ?_ | refine aD ?_ | refine aH ?_ | refine aP_T3 ?_ | refine aI ?_ | refine aJ ?_ | refine ⟨_, _, rfl, rfl, Nat.le_refl _, ⟨by (simp only; omega), by omega⟩, ?_⟩ | fail); all_goals try (conv => whnf)
  have cV := visit_ok m hm E hE _ (fun _ => false) a (Nat.le_refl _) ha rfl
  have e : bls m (fun _ => false) = List.replicate (gps m m E).length [SV.bl false] := by rw [hgl, hrep]
  dsimp only [vown] at cV
  rw [e] at cV
  refine CallOb.mk [2, 0, 3, 1] cV rfl (ImpL.refl _) rfl rfl ?_
  rintro _ _ ⟨mt, hV, rfl, rfl⟩
  have hB : bls m mt = bls m (rch E a) := bls_congr fun b _ => by rw [Bool.eq_iff_iff, rch_true]; exact hV.full b
  (repeat' (conv => whnf); first | (refine aC (fun _ => ?_) (fun _ => ?_) <;> try (exfalso; omega)) | refine aS ?_ | refine aG ?_ | refine aD ?_ | refine aP_T3 ?_ | refine aI ?_ | refine aJ ?_ | fail); all_goals try (conv => whnf)
  refine .mk [.fa] ?_
  exact ⟨rfl, Imp.psl hB⟩
/- there is a way from a line to another one -/
def RchN (n : Nt) (a b : Int) : Prop := chkN n = 0 ∧ (0 ≤ a ∧ a < n.ln.length) ∧ (0 ≤ b ∧ b < n.ln.length) ∧ Rch (adj n) a.toNat b.toNat
theorem tReaches_ok (n : Nt) (hn : NL n) (a b : Int) : Ctr Try.prog 14 [ntv n, i64 a, i64 b] [] (fun r o => o = [] ∧ r = .bp (RchN n a b)) := by
  refine Ctr.imp ?_
  refine fn_intro (E := env 0) tys_ok rfl rfl rfl Try.func14 (by kernel_rfl) rfl (by kernel_rfl) ?_
  by_cases h : chkN n = 0
  · have hL := (chkN_zero h).1
    have hgl := gps_len n.ln.length n.ln.length (adj n)
    have hE := adj_chk h
    have cO := of_ok n hn h
    have hR : RchN n a b ↔ (0 ≤ a ∧ a < n.ln.length) ∧ (0 ≤ b ∧ b < n.ln.length) ∧ Rch (adj n) a.toNat b.toNat := ⟨fun k => k.2, fun k => ⟨h, k⟩⟩
    generalize n.ln.length = L at *
    generalize adj n = E at *
    (repeat' (conv => whnf); first | (refine aC (fun _ => ?_) (fun _ => ?_) <;> try (exfalso; omega)) | refine aS ?_ | refine aG ?_ | refine aD ?_ | refine aH ?_ | refine aP_T3 ?_ | refine aI ?_ | refine aJ ?_ | (refine aK [] cO ?_) | fail); all_goals try (conv => whnf)
    all_goals try (refine ⟨rfl, Imp.bl ⟨fun k => (by cases k), fun k => ?_⟩⟩; rw [hR] at k; omega)
    obtain ⟨a, rfl⟩ : ∃ k : Nat, a = k := ⟨a.toNat, by omega⟩
    obtain ⟨b, rfl⟩ : ∃ k : Nat, b = k := ⟨b.toNat, by omega⟩
    have hg := bls_get (m := L) (f := rch E a) (b := b) (by omega)
    refine aK [] (reach_ok L (by omega) E hE a (by omega)) ?_
    rw [Int.toNat_natCast, Int.toNat_natCast] at hR
    have hbl := bls_len L (rch E a)
    cases hc : rch E a b
    · rw [hc] at hg
      (repeat' (conv => whnf); first | (refine aC (fun _ => ?_) (fun _ => ?_) <;> try (exfalso; omega)) | refine aS ?_ | refine aG ?_ | refine aD ?_ | refine aH ?_ | refine aP_T3 ?_ | refine aI ?_ | refine aJ ?_ | refine ⟨b, _, rfl, hg, ?_⟩ | fail); all_goals try (conv => whnf)
      refine ⟨rfl, Imp.bl ⟨fun k => (by cases k), fun k => ?_⟩⟩
      have := rch_true.2 (hR.1 k).2.2
      rw [hc] at this; contradiction
    · rw [hc] at hg
      (repeat' (conv => whnf); first | (refine aC (fun _ => ?_) (fun _ => ?_) <;> try (exfalso; omega)) | refine aS ?_ | refine aG ?_ | refine aD ?_ | refine aH ?_ | refine aP_T3 ?_ | refine aI ?_ | refine aJ ?_ | refine ⟨b, _, rfl, hg, ?_⟩ | fail); all_goals try (conv => whnf)
      exact ⟨rfl, Imp.bl ⟨fun k => hR.2 ⟨by omega, by omega, rch_true.1 hc⟩, fun _ => rfl⟩⟩
  · have hR : ¬RchN n a b := fun k => h k.1
    (repeat' (conv => whnf); first | (refine aC (fun _ => ?_) (fun _ => ?_) <;> try (exfalso; omega)) | refine aS ?_ | refine aG ?_ | refine aD ?_ | refine aH ?_ | refine aP_T3 ?_ | refine aI ?_ | refine aJ ?_ | (refine aK [] (of_err n hn h) ?_) | fail); all_goals try (conv => whnf)
    all_goals first
      | exact ⟨rfl, Imp.bl ⟨fun k => (by cases k), fun k => absurd k hR⟩⟩
      | (exfalso; simp only [List.length_nil] at *; omega)
end Go.Proofs.Ytnlmmjmcackgjaa
