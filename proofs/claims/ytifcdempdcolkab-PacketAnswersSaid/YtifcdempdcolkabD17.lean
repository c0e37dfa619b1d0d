/-
  A text of the proofs of this seat: lemmas that the statements' proofs use; it states nothing of the program by itself beyond the contracts that its theorems bear. Conditions: those that stand in each theorem. Its short name: D17 A4.
-/
import Derived.Test.YtifcdempdcolkabT1
import Derived.Test.YtifcdempdcolkabW4
import Derived.Test.YtifcdempdcolkabT4
import Derived.Test.YtifcdempdcolkabPl
import Derived.Test.YtifcdempdcolkabA3
import Derived.Test.YtifcdempdcolkabTi
import Derived.Test.YtifcdempdcolkabH1
set_option linter.unusedVariables false
set_option linter.unusedSimpArgs false
section
namespace Go.Proofs.Ytifcdempdcolkab
open Go.Sx Go.Pk Go.Cv
set_option maxRecDepth 8000
set_option maxHeartbeats 2000000
--APPX pks_len, Go.Cv.vals_len
theorem aP_D17 {A B K : Prop} (k : K) (a : A := by (simp only [zA, zT, zD, zC, zN, ints_len, zR, pks_len, Go.Cv.vals_len]; omega)) (b : B := by (simp only [zA, zT, zD, zC, zN, ints_len, zR, pks_len, Go.Cv.vals_len]; omega)) : (A ∧ B) ∧ K := ⟨⟨a, b⟩, k⟩
theorem Broken_ok (L : List Int) (k : Nat) (hL : L.length ≤ 2000) (hk : k ≤ 2000) (p : List Pk) (hp : p.length ≤ 60) :
    Ctr Try.prog 19 [.ptr 0 0, .psl 3 (pks p)] [src L k] (fun r o => ∃ x : List Pk × Nat, (x.1.length ≤ 100 ∧ x.2 ≤ 2000) ∧ o = [src L x.2] ∧ r = .psl 3 (pks x.1)) := by
  refine Ctr.impE ?_
  refine fn_intro (E := env 1) tys_ok rfl rfl rfl Try.func19 (by kernel_rfl) rfl (by kernel_rfl) ?_
  have hpl := pks_len p
  (repeat' (conv => whnf); first | refine AsgOb.nil ?_ | (refine aC (fun _ => ?_) (fun _ => ?_) <;> try (exfalso; omega)) | refine aS ?_ | refine aG ?_ | refine aD ?_ | refine aP_D17 ?_ | refine aI ?_ | refine aJ ?_ | fail); all_goals try (conv => whnf)
  · refine .mk [.fz 2] ?_
    (repeat' (conv => whnf); first | (refine aC (fun _ => ?_) (fun _ => ?_) <;> try (exfalso; omega)) | refine aS ?_ | refine aG ?_ | refine aD ?_ | refine aH ?_ | refine aP_D17 ?_ | refine aI ?_ | refine aJ ?_ | fail); all_goals try (conv => whnf)
    exact ⟨(p, k), ⟨by dsimp only; omega, hk⟩, rfl, Imp.refl _⟩
  have hne : ¬((pks p).length : Int) = 0 := by assumption
  refine .mk [] ?_
  refine CallOb.mk [0] (N_ok L k hL hk ((pks p).length : Int) (by omega) (by omega)) rfl (ImpL.refl _) rfl rfl ?_
  rintro _ _ ⟨⟨i, k1⟩, ⟨hi1, hi2, hk1⟩, rfl, rfl⟩
  dsimp only at hi1 hi2 hk1 ⊢
  obtain ⟨i, rfl⟩ : ∃ n : Nat, i = n := ⟨i.toNat, by omega⟩
  have hil : i < p.length := by omega
  have hg : (pks p)[i]? = some (pkw (p.getD i pk0)) := pks_get hil
  have hset : ∀ y : Pk, (pks p).set i (pkw y) = pks (p.set i y) := fun y => by simp [pks, List.map_set]
  generalize p.getD i pk0 = x at *
  (repeat' (conv => whnf); first | (refine aC (fun _ => ?_) (fun _ => ?_) <;> try (exfalso; omega)) | refine aS ?_ | refine aG ?_ | refine aD ?_ | refine aP_D17 ?_ | refine aI ?_ | refine aJ ?_ | fail); all_goals try (conv => whnf)
  refine .mk [] ?_
  refine CallOb.mk [0] (N_ok L k1 hL hk1 4 (by omega) (by omega)) rfl (ImpL.refl _) rfl rfl ?_
  rintro _ _ ⟨⟨w, k2⟩, ⟨hw1, hw2, hk2⟩, rfl, rfl⟩
  dsimp only at hw1 hw2 hk2 ⊢
  (repeat' (conv => whnf); first | (refine aC (fun _ => ?_) (fun _ => ?_) <;> try (exfalso; omega)) | refine aS ?_ | refine aG ?_ | refine aD ?_ | refine aP_D17 ?_ | refine aI ?_ | refine aJ ?_ | fail); all_goals try (conv => whnf)
  · refine .mk [.fz 3] ?_
    refine CallOb.mk [0] (Pick_ok L k2 hL hk2 [-1, 0, 6, 59, 60] (by decide) (by decide)) rfl (ImpL.refl _) rfl rfl ?_
    rintro _ _ ⟨⟨v, k3⟩, ⟨_, hk3⟩, rfl, rfl⟩
    dsimp only at hk3 ⊢
    (repeat' (conv => whnf); first | refine ⟨_, hg, ?_⟩ | refine ⟨i, rfl, (by show i < (pks p).length; omega), ?_⟩ | (refine aC (fun _ => ?_) (fun _ => ?_) <;> try (exfalso; omega)) | refine aS ?_ | refine aG ?_ | refine aD ?_ | refine aP_D17 ?_ | refine aI ?_ | refine aJ ?_ | fail); all_goals try (conv => whnf)
    refine .mk [.fz 2] ?_
    (repeat' (conv => whnf); first | (refine aC (fun _ => ?_) (fun _ => ?_) <;> try (exfalso; omega)) | refine aS ?_ | refine aG ?_ | refine aD ?_ | refine aH ?_ | refine aP_D17 ?_ | refine aI ?_ | refine aJ ?_ | fail); all_goals try (conv => whnf)
    exact ⟨(p.set i ⟨v, x.t, x.s⟩, k3), ⟨by simp only [List.length_set]; omega, hk3⟩, rfl, Imp.psl (hset ⟨v, x.t, x.s⟩)⟩
  · refine .mk [.fz 3] ?_
    refine CallOb.mk [0] (Pick_ok L k2 hL hk2 [-1, 0, 380, 2000, 2001] (by decide) (by decide)) rfl (ImpL.refl _) rfl rfl ?_
    rintro _ _ ⟨⟨v, k3⟩, ⟨_, hk3⟩, rfl, rfl⟩
    dsimp only at hk3 ⊢
    (repeat' (conv => whnf); first | refine ⟨_, hg, ?_⟩ | refine ⟨i, rfl, (by show i < (pks p).length; omega), ?_⟩ | (refine aC (fun _ => ?_) (fun _ => ?_) <;> try (exfalso; omega)) | refine aS ?_ | refine aG ?_ | refine aD ?_ | refine aP_D17 ?_ | refine aI ?_ | refine aJ ?_ | fail); all_goals try (conv => whnf)
    refine .mk [.fz 2] ?_
    (repeat' (conv => whnf); first | (refine aC (fun _ => ?_) (fun _ => ?_) <;> try (exfalso; omega)) | refine aS ?_ | refine aG ?_ | refine aD ?_ | refine aH ?_ | refine aP_D17 ?_ | refine aI ?_ | refine aJ ?_ | fail); all_goals try (conv => whnf)
    exact ⟨(p.set i ⟨x.f, v, x.s⟩, k3), ⟨by simp only [List.length_set]; omega, hk3⟩, rfl, Imp.psl (hset ⟨x.f, v, x.s⟩)⟩
  · refine .mk [.fz 3] ?_
    refine CallOb.mk [0] (Pick_ok L k2 hL hk2 [0, 1, 1500, 1501, -1] (by decide) (by decide)) rfl (ImpL.refl _) rfl rfl ?_
    rintro _ _ ⟨⟨v, k3⟩, ⟨_, hk3⟩, rfl, rfl⟩
    dsimp only at hk3 ⊢
    (repeat' (conv => whnf); first | refine ⟨_, hg, ?_⟩ | refine ⟨i, rfl, (by show i < (pks p).length; omega), ?_⟩ | (refine aC (fun _ => ?_) (fun _ => ?_) <;> try (exfalso; omega)) | refine aS ?_ | refine aG ?_ | refine aD ?_ | refine aP_D17 ?_ | refine aI ?_ | refine aJ ?_ | fail); all_goals try (conv => whnf)
    refine .mk [.fz 2] ?_
    (repeat' (conv => whnf); first | (refine aC (fun _ => ?_) (fun _ => ?_) <;> try (exfalso; omega)) | refine aS ?_ | refine aG ?_ | refine aD ?_ | refine aH ?_ | refine aP_D17 ?_ | refine aI ?_ | refine aJ ?_ | fail); all_goals try (conv => whnf)
    exact ⟨(p.set i ⟨x.f, x.t, v⟩, k3), ⟨by simp only [List.length_set]; omega, hk3⟩, rfl, Imp.psl (hset ⟨x.f, x.t, v⟩)⟩
  · refine .mk [] ?_
    refine LoopOb.mk (Y := List Pk × Nat) (st := fun y => ⟨[(5, .vec 1), (0, .ptr 0 0)], [src L y.2, .vec 3 (pks y.1)]⟩)
      (inv := fun y => 1 ≤ y.1.length ∧ y.1.length ≤ 62 ∧ y.2 ≤ 2000) (fun y => 64 - y.1.length) (p, k2) [0, 2] ⟨by dsimp only; omega, by dsimp only; omega, hk2⟩ (by (exact aL)) ?_
    rintro ⟨o, k4⟩ ⟨hl1, hl2, hk4⟩
    dsimp only at hl1 hl2 hk4 ⊢
    have hol := pks_len o
    have hgo : (pks o)[o.length - 1]? = some (pkw (o.getD (o.length - 1) pk0)) := pks_get (by omega)
    have hap := pks_app o (o.getD (o.length - 1) pk0)
    generalize o.getD (o.length - 1) pk0 = z at *
    (repeat' (conv => whnf); first | (refine aC (fun _ => ?_) (fun _ => ?_) <;> try (exfalso; omega)) | refine aS ?_ | refine aG ?_ | refine aD ?_ | refine aP_D17 ?_ | refine aI ?_ | refine aJ ?_ | fail); all_goals try (conv => whnf)
    refine .mk [] ?_
    refine CallOb.mk [0] (N_ok L k4 hL hk4 2 (by omega) (by omega)) rfl (ImpL.refl _) rfl rfl ?_
    rintro _ _ ⟨⟨w5, k5⟩, ⟨hw5, hw6, hk5⟩, rfl, rfl⟩
    dsimp only at hw5 hw6 hk5 ⊢
    (repeat' (conv => whnf); first | refine ⟨_, hgo, ?_⟩ | refine ⟨o.length - 1, by omega, by omega, ?_⟩ | refine LitOb.ful ?_ | (refine aC (fun _ => ?_) (fun _ => ?_) <;> try (exfalso; omega)) | refine aS ?_ | refine aG ?_ | refine aD ?_ | refine aP_D17 ?_ | refine aI ?_ | refine aJ ?_ | fail); all_goals try (conv => whnf)
    · refine .mk [] ⟨(o ++ [z], k5), [0, 2], ⟨?_, ?_, hk5⟩, ?_, ?_⟩
      · dsimp only; rw [List.length_append, List.length_singleton]; omega
      · dsimp only; rw [List.length_append, List.length_singleton]; omega
      · dsimp only; rw [List.length_append, List.length_singleton]; omega
      · dsimp only; rw [hap]; (exact aL)
    · refine .mk [.fz 1] ?_
      (repeat' (conv => whnf); first | (refine aC (fun _ => ?_) (fun _ => ?_) <;> try (exfalso; omega)) | refine aS ?_ | refine aG ?_ | refine aD ?_ | refine aH ?_ | refine aP_D17 ?_ | refine aI ?_ | refine aJ ?_ | fail); all_goals try (conv => whnf)
      exact ⟨(o, k5), ⟨by dsimp only; omega, hk5⟩, rfl, Imp.refl _⟩
end Go.Proofs.Ytifcdempdcolkab
end
section
namespace Go.Proofs.Ytifcdempdcolkab
open Go.Sx Go.Pk Go.Cv Go.St
set_option maxRecDepth 8000
set_option maxHeartbeats 2000000
theorem hAt_ok (a : C3) (t : Nat) (ha : VC a) (ht : t ≤ 1048576) : Ctr Try.prog 29 [crv a.1 a.2.1 a.2.2, i64 t] [] (fun r o => o = [] ∧ r = i64 (cv a t)) :=
  At_ok a.1 a.2.1 a.2.2 t (bd_of ha) (by omega) (by omega)
theorem hVal_ok (a : C3) (ha : VC a) : Ctr Try.prog 5 [crv a.1 a.2.1 a.2.2] [] (fun r o => o = [] ∧ r = .bl true) :=
  Ctr.imp ((Valid_ok a.1 a.2.1 a.2.2).mono (fun r o ⟨h1, h2⟩ => ⟨h1, by rw [h2]; exact Imp.bpl ⟨fun _ => rfl, fun _ => ha.valid⟩⟩))
/-! the examples of the chapter -/
abbrev exP : List Pk := [⟨0, 0, 10⟩, ⟨0, 0, 5⟩, ⟨0, 3, 20⟩]
abbrev exD : List Int := [-1, 2, 7]
theorem exP_v : Vld exP := vld_zero.1 (by decide +kernel)
theorem exD_o : OKd exP exD := ⟨rfl, fun i hi => by
  have : i < 3 := hi
  rcases i with _ | _ | _ | i
  · exact .inl rfl
  · exact .inr (by decide)
  · exact .inr (by decide)
  · omega⟩
theorem exW : whl (sels exP 0) 30 = 15 := by decide +kernel
theorem exFP : pks (fwP (fwd exP exD)) = pks [⟨0, 3, 5⟩, ⟨0, 8, 20⟩] := by rfl
theorem exFI : fwI (fwd exP exD) = [1, 2] := by rfl
theorem exDl : vals (dly exP exD) exP.length = [-1, 2, 4] := by decide +kernel
theorem exH {x : List Int × Int × Int × Int} (h : HopR exF 15 x) : ∃ c : C3, VC c ∧ (cv c 2 = 0 ∧ cv c 3 = 6 ∧ cv c 4 = 16) ∧ x = (c.1, (c.2.1 : Int), c.2.2, 0) := by
  have h399 : cv exF 399 = 3990 := by decide +kernel
  rcases h with ⟨⟨_, h⟩, _⟩ | ⟨_, h⟩
  · omega
  · have hv : ∀ t, t < 4 → hpf exF 15 t ≤ 1073741824 := by decide +kernel
    obtain ⟨c, h1, h2, h3⟩ := mk_fits (s := 3) (p := 1) (q := 10) h (by decide) (hpf_mono exF_v (by decide)) (hpf_per exF_v exF_f (by decide) (.inr (by decide +kernel))) (by decide) (by decide) (by decide) (by decide) hv
    exact ⟨c, h1, ⟨by rw [h2]; decide +kernel, by rw [h2]; decide +kernel, by rw [h2]; decide +kernel⟩, h3⟩
end Go.Proofs.Ytifcdempdcolkab
end
