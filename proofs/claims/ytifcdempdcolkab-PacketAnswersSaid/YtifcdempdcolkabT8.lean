/-
  A text of the proofs of this seat: lemmas that the statements' proofs use; it states nothing of the program by itself beyond the contracts that its theorems bear. Conditions: those that stand in each theorem. Its short name: T8.
-/
import Derived.Test.YtifcdempdcolkabT6
import Derived.Test.YtifcdempdcolkabW4
import Derived.Test.YtifcdempdcolkabPl
set_option linter.unusedVariables false
set_option linter.unusedSimpArgs false
namespace Go.Proofs.Ytifcdempdcolkab
open Go.Sx Go.Pk Go.Cv Go.St
set_option maxRecDepth 4000
set_option maxHeartbeats 2000000
--APPX pks_len
/- traces that are made -/
structure TrP (fl mo : Int) (p : List Pk) (t : Int) : Prop where
  b : ∀ x ∈ p, 0 ≤ x.f ∧ x.f < fl ∧ 1 ≤ x.s ∧ x.s ≤ mo ∧ 0 ≤ x.t ∧ x.t ≤ t
  s : Srt ptm p
  t : 0 ≤ t ∧ t ≤ 7 * p.length
theorem TrP.vld {fl mo : Int} {p : List Pk} {t : Int} (h : TrP fl mo p t) (hf : fl ≤ 60) (hm : mo ≤ 1500) (hl : p.length ≤ 60) : Vld p := vld_of hl (fun x hx => by
  have := h.b x hx
  have := h.t
  unfold bad; omega) h.s
theorem TrP.snoc {fl mo : Int} {p : List Pk} {t : Int} (h : TrP fl mo p t) {f s d : Int} (h1 : 0 ≤ f ∧ f < fl) (h2 : 1 ≤ s ∧ s ≤ mo) (h3 : 0 ≤ d ∧ d ≤ 7) : TrP fl mo (p ++ [⟨f, t, s⟩]) (t + d) := by
  have ht := h.t
  refine ⟨fun x hx => ?_, srt_app_up h.s fun y hy => (h.b y hy).2.2.2.2.2, by rw [List.length_append, List.length_singleton]; push_cast; omega⟩
  rcases List.mem_append.1 hx with hx | hx
  · have := h.b x hx; omega
  · rw [List.mem_singleton.1 hx]; dsimp only; omega
theorem aP_T8 {A B K : Prop} (k : K) (a : A := by (simp only [zA, zT, zD, zC, zN, ints_len, zR, pks_len]; omega)) (b : B := by (simp only [zA, zT, zD, zC, zN, ints_len, zR, pks_len]; omega)) : (A ∧ B) ∧ K := ⟨⟨a, b⟩, k⟩
theorem Traffic_ok (L : List Int) (k : Nat) (hL : L.length ≤ 2000) (hk : k ≤ 2000) (n : Nat) (hn : n ≤ 100) (fl mo : Int) (hf : 1 ≤ fl ∧ fl ≤ 1000) (hm : 1 ≤ mo ∧ mo ≤ 1000) :
    Ctr Try.prog 18 [.ptr 0 0, i64 n, i64 fl, i64 mo] [src L k] (fun r o => ∃ x : (List Pk × Int) × Nat, ((TrP fl mo x.1.1 x.1.2 ∧ x.1.1.length ≤ n) ∧ x.2 ≤ 2000) ∧ o = [src L x.2] ∧ r = .psl 3 (pks x.1.1)) := by
  refine fn_intro (E := env 1) tys_ok rfl rfl rfl Try.func18 (by kernel_rfl) rfl (by kernel_rfl) ?_
  (repeat' (conv => whnf); first | (refine aC (fun _ => ?_) (fun _ => ?_) <;> try (exfalso; omega)) | refine aS ?_ | refine aG ?_ | refine aD ?_ | refine aH ?_ | refine aP_T8 ?_ | refine aI ?_ | refine aJ ?_ | fail); all_goals try (conv => whnf)
  refine CallOb.mk [0] (N_ok L k hL hk (n + 1) (by omega) (by omega)) rfl (ImpL.refl _) rfl rfl ?_
  rintro _ _ ⟨⟨v, k1⟩, ⟨v1, v2, hk1⟩, rfl, rfl⟩
  dsimp only at v1 v2 hk1 ⊢
  obtain ⟨v, rfl⟩ : ∃ n : Nat, v = n := ⟨v.toNat, by omega⟩
  (repeat' (conv => whnf); first | (refine aC (fun _ => ?_) (fun _ => ?_) <;> try (exfalso; omega)) | refine aS ?_ | refine aG ?_ | refine aD ?_ | refine aH ?_ | refine aP_T8 ?_ | refine aI ?_ | refine aJ ?_ | fail); all_goals try (conv => whnf)
  refine LoopOb.mk (Y := (List Pk × Int) × Nat) (st := fun y => ⟨[(11, i64 ((v : Int) - y.1.1.length)), (10, i64 y.1.2), (9, .vec 1), (0, .ptr 0 0), (2, i64 fl), (3, i64 mo)], [src L y.2, .vec 3 (pks y.1.1)]⟩)
    (inv := fun y => (TrP fl mo y.1.1 y.1.2 ∧ y.1.1.length ≤ v) ∧ y.2 ≤ 2000) (fun y => v - y.1.1.length) (([], 0), k1) [0, 2] ⟨⟨⟨by simp, trivial, by simp⟩, by simp⟩, hk1⟩ (by (exact aL)) ?_
  clear hk hk1
  rintro ⟨⟨p, t⟩, k2⟩ ⟨⟨hP, hpv⟩, hk2⟩
  dsimp only at hP hpv hk2 ⊢
  have hpl := pks_len p
  have ht := hP.t
  (repeat' (conv => whnf); first | refine aS ?_ | refine aG ?_ | refine aD ?_ | refine aH ?_ | refine aP_T8 ?_ | refine aI ?_ | refine aJ ?_ | fail); all_goals try (conv => whnf)
  refine CondOb.mk (fun hlt => ?_) (fun hlt => ?_)
  · (repeat' (conv => whnf); first | (refine aC (fun _ => ?_) (fun _ => ?_) <;> try (exfalso; omega)) | refine aS ?_ | refine aG ?_ | refine aD ?_ | refine aH ?_ | refine aP_T8 ?_ | refine aI ?_ | refine aJ ?_ | fail); all_goals try (conv => whnf)
    refine CallOb.mk [0] (N_ok L k2 hL hk2 fl (by omega) (by omega)) rfl (ImpL.refl _) rfl rfl ?_
    rintro _ _ ⟨⟨f, k3⟩, ⟨f1, f2, hk3⟩, rfl, rfl⟩
    dsimp only at f1 f2 hk3 ⊢
    (repeat' (conv => whnf); first | (refine aC (fun _ => ?_) (fun _ => ?_) <;> try (exfalso; omega)) | refine aS ?_ | refine aG ?_ | refine aD ?_ | refine aH ?_ | refine aP_T8 ?_ | refine aI ?_ | refine aJ ?_ | fail); all_goals try (conv => whnf)
    refine CallOb.mk [0] (N_ok L k3 hL hk3 mo (by omega) (by omega)) rfl (ImpL.refl _) rfl rfl ?_
    rintro _ _ ⟨⟨s, k4⟩, ⟨s1, s2, hk4⟩, rfl, rfl⟩
    dsimp only at s1 s2 hk4 ⊢
    (repeat' (conv => whnf); first | refine LitOb.ful ?_ | (refine aC (fun _ => ?_) (fun _ => ?_) <;> try (exfalso; omega)) | refine aS ?_ | refine aG ?_ | refine aD ?_ | refine aH ?_ | refine aP_T8 ?_ | refine aI ?_ | refine aJ ?_ | refine And.intro (by simp only [List.length_append, pks_len]; simp; omega) ?_ | fail); all_goals try (conv => whnf)
    refine CallOb.mk [0] (Pick_ok L k4 hL hk4 [0, 0, 0, 1, 1, 2, 7] (by decide) (by decide)) rfl ⟨Imp.refl _, Imp.fulp rfl, trivial⟩ rfl rfl ?_
    rintro _ _ ⟨⟨d, k5⟩, ⟨hd, hk5⟩, rfl, rfl⟩
    dsimp only at hd hk5 ⊢
    have hd7 : 0 ≤ d ∧ d ≤ 7 := by simp only [List.mem_cons, List.not_mem_nil, or_false] at hd; omega
    (repeat' (conv => whnf); first | (refine aC (fun _ => ?_) (fun _ => ?_) <;> try (exfalso; omega)) | refine aS ?_ | refine aG ?_ | refine aD ?_ | refine aH ?_ | refine aP_T8 ?_ | refine aI ?_ | refine aJ ?_ | fail); all_goals try (conv => whnf)
    exact ⟨((p ++ [⟨f, t, 1 + s⟩], t + d), k5), [0, 2], ⟨⟨hP.snoc ⟨f1, f2⟩ ⟨by omega, by omega⟩ hd7, by simp only [List.length_append, List.length_singleton]; omega⟩, hk5⟩, by simp only [List.length_append, List.length_singleton]; omega, by dsimp only; rw [List.length_append, List.length_singleton, pks_app]; (exact aL)⟩
  · (repeat' (conv => whnf); first | (refine aC (fun _ => ?_) (fun _ => ?_) <;> try (exfalso; omega)) | refine aS ?_ | refine aG ?_ | refine aD ?_ | refine aP_T8 ?_ | refine aI ?_ | refine aJ ?_ | fail); all_goals try (conv => whnf)
    refine .mk [.fz 1] ?_
    (repeat' (conv => whnf); first | (refine aC (fun _ => ?_) (fun _ => ?_) <;> try (exfalso; omega)) | refine aS ?_ | refine aG ?_ | refine aD ?_ | refine aH ?_ | refine aP_T8 ?_ | refine aI ?_ | refine aJ ?_ | fail); all_goals try (conv => whnf)
    exact ⟨((p, t), k2), ⟨⟨hP, by dsimp only; omega⟩, hk2⟩, rfl, rfl⟩
/- numbers below n -/
def Blw (n : Nat) (l : List Int) : Prop := l.length = n ∧ ∀ x ∈ l, 0 ≤ x ∧ x < n
theorem Blw.set {n : Nat} {l : List Int} (h : Blw n l) {v : Int} (hv : 0 ≤ v ∧ v < n) (k : Nat) : Blw n (l.set k v) := ⟨by rw [List.length_set]; exact h.1, fun x hx => by
  rcases List.mem_or_eq_of_mem_set hx with hx | rfl
  · exact h.2 x hx
  · exact hv⟩
theorem Blw.get {n : Nat} {l : List Int} (h : Blw n l) {k : Nat} (hk : k < n) : 0 ≤ l.getD k 0 ∧ l.getD k 0 < n := h.2 _ (getD_mem (by rw [h.1]; exact hk))
end Go.Proofs.Ytifcdempdcolkab
