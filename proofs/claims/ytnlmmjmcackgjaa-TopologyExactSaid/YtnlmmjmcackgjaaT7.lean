/-
  A text of the proofs of this seat: lemmas that the statements' proofs use; it states nothing of the program by itself beyond the contracts that its theorems bear. Conditions: those that stand in each theorem. Its short name: T7.
-/
import Derived.Test.YtnlmmjmcackgjaaT6
set_option linter.unusedVariables false
set_option linter.unusedSimpArgs false
namespace Go.Proofs.Ytnlmmjmcackgjaa
open Go.Sx Go.Np Go.Tp
set_option maxRecDepth 4000
set_option maxHeartbeats 2000000
abbrev vownM (m : Nat) (E : Gr) (met : Nat → Bool) : List Chunk := [.box [.vec 3], .box [.vec 4], .box [.fn 86 [.ptr 0 0, .ptr 1 0, .ptr 2 0]], .vec 1 (bls m met), .mat 1 (gms m m E)]
theorem aP_T7 {A B K : Prop} (k : K) (a : A := by (simp only [zA, zT, zD, zC, zN, ints_len, zR, lnl, fll, stl]; omega)) (b : B := by (simp only [zA, zT, zD, zC, zN, ints_len, zR, lnl, fll, stl]; omega)) : (A ∧ B) ∧ K := ⟨⟨a, b⟩, k⟩
theorem visitM_ok (m : Nat) (hm : m ≤ 1000) (E : Gr) (hE : GOK E m) : ∀ (k : Nat) (met : Nat → Bool) (a : Nat), cnt met m ≤ k → a < m → met a = false →
    Ctr Try.prog 86 [i64 a, .ptr 0 0, .ptr 1 0, .ptr 2 0] (vownM m E met) (fun r o => ∃ met', VsP E met a met' ∧ o = vownM m E met' ∧ r = .tup [])
  | 0, met, a, hk, ha, hma => by
    exfalso
    have := cnt_lt (met := met) (met' := fun _ => true) (fun _ _ => rfl) hma rfl ha
    omega
  | k + 1, met, a, hk, ha, hma => by
    refine fn_intro (E := env 5) tys_ok rfl rfl rfl Try.func86 (by kernel_rfl) rfl (by kernel_rfl) ?_
    have hbl := bls_len m met
    have hg := gms_get (n := m) (m := m) (E := E) ha
    have hbE := bls_len m (E a)
    have hgl := gms_len m m E
    have hset := bls_set (m := m) (b := a) (f := met) (v := true)
    (repeat' (conv => whnf); first | (refine aC (fun _ => ?_) (fun _ => ?_) <;> try (exfalso; omega)) | refine aS ?_ | refine aG ?_ | refine aD ?_ | refine aH ?_ | refine aP_T7 ?_ | refine aI ?_ | refine aJ ?_ | refine ⟨a, rfl, by rw [hbl]; exact ha, ?_⟩ | refine ⟨_, bls_get ha, ?_⟩ | refine ⟨a, rfl, by rw [hgl]; exact ha, ?_⟩ | refine And.intro (by rw [hgl]; exact ha) ?_ | refine ⟨_, hg, ?_⟩ | fail); all_goals try (conv => whnf)
    have h1k : ∀ x, met x = true → (if x = a then true else met x) = true := fun x hx => by rw [hx]; simp
    refine LoopOb.mk (Y := Nat × (Nat → Bool)) (st := fun y => ⟨[(15, i64 y.1), (14, i64 (bls m (E a)).length), (13, .row 4 a), (1, .ptr 0 0), (3, .ptr 2 0)], vownM m E y.2⟩)
      (inv := fun y => y.1 ≤ m ∧ LpP E met a y.1 y.2) (fun y => m - y.1) (0, fun x => if x = a then true else met x) [0, 1, 2, 3, 4] ⟨by simp, ⟨h1k, by simp, fun x hx => by
        dsimp only at hx
        by_cases e : x = a
        · subst e; exact .inr (.refl _ _)
        · rw [if_neg e] at hx; exact .inl hx, fun x y hx hn hne _ => by
        dsimp only at hx
        rw [if_neg hne] at hx; rw [hx] at hn; contradiction, fun y hy => by omega⟩⟩ (by rw [hset]; (exact aL)) ?_
    rintro ⟨b, mt⟩ ⟨hb, hP⟩
    dsimp only at hb hP ⊢
    have hbt := bls_len m mt
    (repeat' (conv => whnf); first | refine aS ?_ | refine aG ?_ | refine aD ?_ | refine aH ?_ | refine aP_T7 ?_ | refine aI ?_ | refine aJ ?_ | fail); all_goals try (conv => whnf)
    refine CondOb.mk (fun hlt => ?_) (fun hlt => ?_)
    · have hbm : b < m := by omega
      have hg1 := bls_get (f := E a) hbm
      have hg2 := bls_get (f := mt) hbm
      have hnx : (E a b = true → mt b = true) → LpP E met a (b + 1) mt := fun h => ⟨hP.k, hP.s, hP.r, hP.c, fun y hy he => by
        by_cases e : y = b
        · subst e; exact h he
        · exact hP.e y (by omega) he⟩
      cases hab : E a b
      · rw [hab] at hg1 hnx
        (repeat' (conv => whnf); first | (refine aC (fun _ => ?_) (fun _ => ?_) <;> try (exfalso; omega)) | refine aS ?_ | refine aG ?_ | refine aD ?_ | refine aH ?_ | refine aP_T7 ?_ | refine aI ?_ | refine aJ ?_ | refine ⟨_, _, rfl, hg, by rw [hbE]; exact hbm, ?_⟩ | refine ⟨_, _, hg, hg1, ?_⟩ | fail); all_goals try (conv => whnf)
        exact ⟨(b + 1, mt), [0, 1, 2, 3, 4], ⟨by dsimp only; omega, hnx (fun h => by contradiction)⟩, by dsimp only; omega, by (exact aL)⟩
      · rw [hab] at hg1 hnx
        cases hmb : mt b
        · rw [hmb] at hg2 hnx
          have hck : cnt mt m < cnt met m := cnt_lt hP.k hma hP.s ha
          (repeat' (conv => whnf); first | (refine aC (fun _ => ?_) (fun _ => ?_) <;> try (exfalso; omega)) | refine aS ?_ | refine aG ?_ | refine aD ?_ | refine aH ?_ | refine aP_T7 ?_ | refine aI ?_ | refine aJ ?_ | refine ⟨_, _, rfl, hg, by rw [hbE]; exact hbm, ?_⟩ | refine ⟨_, _, hg, hg1, ?_⟩ | refine ⟨b, rfl, by rw [hbt]; exact hbm, ?_⟩ | refine ⟨_, hg2, ?_⟩ | fail); all_goals try (conv => whnf)
          refine CallOb.mk [0, 1, 2, 3, 4] (visitM_ok m hm E hE k mt b (by omega) hbm hmb) rfl (ImpL.refl _) rfl rfl ?_
          rintro _ _ ⟨mt', hV, rfl, rfl⟩
          have hN : LpP E met a (b + 1) mt' := by
            refine ⟨fun x hx => hV.k x (hP.k x hx), hV.k a hP.s, fun x hx => ?_, fun x y hx hn hne he => ?_, fun y hy he => ?_⟩
            · rcases hV.r x hx with h | h
              · exact hP.r x h
              · exact .inr ((Rch.one hab).trans h)
            · cases hmx : mt x
              · exact hV.c x y hx hmx he
              · exact hV.k y (hP.c x y hmx hn hne he)
            · by_cases e : y = b
              · subst e; exact hV.s
              · exact hV.k y (hP.e y (by omega) he)
          (repeat' (conv => whnf); first | (refine aC (fun _ => ?_) (fun _ => ?_) <;> try (exfalso; omega)) | refine aS ?_ | refine aG ?_ | refine aD ?_ | refine aH ?_ | refine aP_T7 ?_ | refine aI ?_ | refine aJ ?_ | fail); all_goals try (conv => whnf)
          exact ⟨(b + 1, mt'), [0, 1, 2, 3, 4], ⟨by dsimp only; omega, hN⟩, by dsimp only; omega, by (exact aL)⟩
        · rw [hmb] at hg2 hnx
          (repeat' (conv => whnf); first | (refine aC (fun _ => ?_) (fun _ => ?_) <;> try (exfalso; omega)) | refine aS ?_ | refine aG ?_ | refine aD ?_ | refine aH ?_ | refine aP_T7 ?_ | refine aI ?_ | refine aJ ?_ | refine ⟨_, _, rfl, hg, by rw [hbE]; exact hbm, ?_⟩ | refine ⟨_, _, hg, hg1, ?_⟩ | refine ⟨b, rfl, by rw [hbt]; exact hbm, ?_⟩ | refine ⟨_, hg2, ?_⟩ | fail); all_goals try (conv => whnf)
          exact ⟨(b + 1, mt), [0, 1, 2, 3, 4], ⟨by dsimp only; omega, hnx (fun _ => rfl)⟩, by dsimp only; omega, by (exact aL)⟩
    · (repeat' (conv => whnf); first | (refine aC (fun _ => ?_) (fun _ => ?_) <;> try (exfalso; omega)) | refine aS ?_ | refine aG ?_ | refine aD ?_ | refine aH ?_ | refine aP_T7 ?_ | refine aI ?_ | refine aJ ?_ | fail); all_goals try (conv => whnf)
      refine ⟨mt, ⟨hP.k, hP.s, hP.r, fun x y hx hn he => ?_⟩, rfl, rfl⟩
      by_cases e : x = a
      · subst e; exact hP.e y (by have := (hE.b _ _ he).2; omega) he
      · exact hP.c x y hx hn e he
theorem reachM_ok (m : Nat) (hm : m ≤ 1000) (E : Gr) (hE : GOK E m) (a : Nat) (ha : a < m) :
    Ctr Try.prog 49 [.vec 0, i64 a] [.mat 1 (gms m m E)] (fun r o => o = [.mat 1 (gms m m E)] ∧ r = .psl 1 (bls m (rch E a))) := by
  refine Ctr.imp ?_
  refine fn_intro (E := env 1) tys_ok rfl rfl rfl Try.func49 (by kernel_rfl) rfl (by kernel_rfl) ?_
  have hgl := gms_len m m E
  have hrep := rep_bls m
  (repeat' (conv => whnf); first | refine AsgOb.nil ?_ | (refine aC (fun _ => ?_) (fun _ => ?_) <;> try (exfalso; omega)) | refine aS ?_ | refine aG ?_ | refine aD ?_ | refine aH ?_ | refine aP_T7 ?_ | refine aI ?_ | refine aJ ?_ | refine ⟨_, _, rfl, rfl, Nat.le_refl _, ⟨by (simp only; omega), by omega⟩, ?_⟩ | fail); all_goals try (conv => whnf)
  have cV := visitM_ok m hm E hE _ (fun _ => false) a (Nat.le_refl _) ha rfl
  have e : bls m (fun _ => false) = List.replicate (gms m m E).length [SV.bl false] := by rw [hgl, hrep]
  dsimp only [vownM] at cV
  rw [e] at cV
  refine CallOb.mk [3, 1, 4, 2, 0] cV rfl (ImpL.refl _) rfl rfl ?_
  rintro _ _ ⟨mt, hV, rfl, rfl⟩
  have hB : bls m mt = bls m (rch E a) := bls_congr fun b _ => by rw [Bool.eq_iff_iff, rch_true]; exact hV.full b
  (repeat' (conv => whnf); first | (refine aC (fun _ => ?_) (fun _ => ?_) <;> try (exfalso; omega)) | refine aS ?_ | refine aG ?_ | refine aD ?_ | refine aP_T7 ?_ | refine aI ?_ | refine aJ ?_ | fail); all_goals try (conv => whnf)
  refine .mk [.fa] ?_
  exact ⟨rfl, Imp.psl hB⟩
end Go.Proofs.Ytnlmmjmcackgjaa
