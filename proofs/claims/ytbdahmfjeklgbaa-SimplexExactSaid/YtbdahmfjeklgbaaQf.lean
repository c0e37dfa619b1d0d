/-
  A text of the proofs of this seat: lemmas that the statements' proofs use; it states nothing of the program by itself beyond the contracts that its theorems bear. Conditions: those that stand in each theorem. Its short name: Qf Qg.
-/
import Derived.Test.YtbdahmfjeklgbaaQe
import Derived.Test.YtbdahmfjeklgbaaQ3
import Derived.Test.YtbdahmfjeklgbaaPl
set_option linter.unusedVariables false
set_option linter.unusedSimpArgs false
section
namespace Go.Proofs.Ytbdahmfjeklgbaa
open Go.Sx Go.Fq Go.Dt
set_option maxRecDepth 4000
set_option maxHeartbeats 2000000
--APPX fr_len, rw_len, mts_len, vcs_len
/- nothing overflows -/
def Fits (p : Pr) : Prop := ∀ ov f bs tu sl co, BuA p p.r.length ov f bs tu sl co → ¬ov ∧ SvF p f bs tu sl co
structure SlP (p : Pr) (s : Int × List F × F × List F × List F) (e : Int) : Prop where
  no : ¬VP p → e = 2 ∧ s = (0, [], (0, 0), [], [])
  yes : VP p → (e = 0 ∧ VF s.2.2.1 ∧ RSol p s.1 (val s.2.2.1)) ∨ (e = 3 ∧ ¬Fits p)
theorem aP_Qf {A B K : Prop} (k : K) (a : A := by (simp only [zA, zT, zD, zC, zN, ints_len, zR, fr_len, rw_len, mts_len, vcs_len]; omega)) (b : B := by (simp only [zA, zT, zD, zC, zN, ints_len, zR, fr_len, rw_len, mts_len, vcs_len]; omega)) : (A ∧ B) ∧ K := ⟨⟨a, b⟩, k⟩
theorem Solve_ok' (p : Pr) (hp : PL p) :
    Ctr Try.prog 10 [prv p] [] (fun r o => ∃ x : (Int × List F × F × List F × List F) × Int, SlP p x.1 x.2 ∧ o = [] ∧ r = .tup [solw x.1, i64 x.2]) := by
  refine Ctr.impO ?_
  refine fn_intro (E := env 0) tys_ok rfl rfl rfl Try.func10 (by kernel_rfl) rfl (by kernel_rfl) ?_
  have cV := Valid_ok p hp
  (repeat' (conv => whnf); first | (refine aC (fun _ => ?_) (fun _ => ?_) <;> try (exfalso; omega)) | refine aS ?_ | refine aG ?_ | refine aD ?_ | refine aH ?_ | refine aP_Qf ?_ | refine aI ?_ | refine aJ ?_ | (refine aK [] cV ?_) | fail); all_goals try (conv => whnf)
  · exact ⟨((0, [], (0, 0), [], []), 2), ⟨fun _ => ⟨rfl, rfl⟩, fun h => absurd h (by assumption)⟩, OI.refl _, Imp.tup ⟨Imp.agg ⟨Imp.refl _, Imp.nil _, Imp.refl _, Imp.refl _, Imp.nil _, Imp.nil _, trivial⟩, Imp.refl _, trivial⟩⟩
  have hv : VP p := Classical.not_not.1 (by assumption)
  have cB := build_ok p hv
  refine CallOb.mk [] cB rfl (ImpL.refl _) rfl rfl ?_
  rintro _ _ ⟨⟨ov, f, bs, tu, sl, co⟩, hB, rfl, rfl⟩
  dsimp only at hB ⊢
  have cS := solve_ok' p hv f bs tu sl co ov hB
  (repeat' (conv => whnf); first | (refine aC (fun _ => ?_) (fun _ => ?_) <;> try (exfalso; omega)) | refine aS ?_ | refine aG ?_ | refine aD ?_ | refine aH ?_ | refine aP_Qf ?_ | refine aI ?_ | refine aJ ?_ | fail); all_goals try (conv => whnf)
  refine CallOb.mk [2, 3, 4, 5, 6] cS rfl (ImpL.refl _) rfl rfl ?_
  rintro _ _ ⟨⟨q, s, bs'⟩, hR, rfl, rfl⟩
  dsimp only at hR ⊢
  (repeat' (conv => whnf); first | (refine aC (fun _ => ?_) (fun _ => ?_) <;> try (exfalso; omega)) | refine aS ?_ | refine aG ?_ | refine aD ?_ | refine aH ?_ | refine aP_Qf ?_ | refine aI ?_ | refine aJ ?_ | fail); all_goals try (conv => whnf)
  · have hq : q := by assumption
    exact ⟨((0, [], (0, 0), [], []), 3), ⟨fun h => absurd hv h, fun _ => .inr ⟨rfl, fun Fi => (Fi _ _ _ _ _ _ hB).1 (hR.fit (Fi _ _ _ _ _ _ hB).2 hq)⟩⟩, OI.refl _, Imp.tup ⟨Imp.agg ⟨Imp.refl _, Imp.nil _, Imp.refl _, Imp.refl _, Imp.nil _, Imp.nil _, trivial⟩, Imp.refl _, trivial⟩⟩
  · have hq : ¬q := by assumption
    exact ⟨(s, 0), ⟨fun h => absurd hv h, fun _ => .inl ⟨rfl, (hR.ex hq).2.1, (hR.ex hq).2.2⟩⟩, OI.refl _, Imp.refl _⟩
end Go.Proofs.Ytbdahmfjeklgbaa
end
section
namespace Go.Proofs.Ytbdahmfjeklgbaa
open Go.Sx Go.Fq Go.Dt
set_option maxRecDepth 4000
set_option maxHeartbeats 2000000
/-! small programmes: nothing overflows -/
structure Sml (p : Pr) : Prop where
  n4 : p.c.length ≤ 4
  m4 : p.r.length ≤ 4
  c : ∀ f ∈ p.c, f.2 = 1 ∧ f.1.natAbs ≤ 10
  r : ∀ w ∈ p.r, (∀ f ∈ w.1, f.2 = 1 ∧ f.1.natAbs ≤ 10) ∧ w.2.2.2 = 1 ∧ w.2.2.1.natAbs ≤ 1000
theorem Sml.d1 {p : Pr} (h : Sml p) : D1 p := ⟨fun f hf => (h.c f hf).1, fun w hw => ⟨fun f hf => ((h.r w hw).1 f hf).1, (h.r w hw).2.1⟩⟩
theorem b62_of {x : Int} (h : x.natAbs ≤ 4000000000000000000) : B62 x := by unfold B62; omega
theorem b62_mul {x y : Int} (hx : x.natAbs ≤ 1000000000) (hy : y.natAbs ≤ 1000000000) : (x * y).natAbs ≤ 1000000000000000000 := by
  rw [Int.natAbs_mul]; exact Nat.mul_le_mul hx hy
theorem mulB {x y : Int} {a b : Nat} (hx : x.natAbs ≤ a) (hy : y.natAbs ≤ b) : (x * y).natAbs ≤ a * b := by
  rw [Int.natAbs_mul]; exact Nat.mul_le_mul hx hy
theorem fnew_fit {a b : Int} (hb : 0 < b) (h1 : a.natAbs ≤ 1073741824) (h2 : b.natAbs ≤ 1073741824) : (fnew a b).2.2 = 0 := by
  unfold fnew
  rw [if_neg (by omega), Rat.divInt_eq_div]
  exact (fenc_fit (sm_div hb h1 h2)).1
theorem rdc_bd {c : Nat → Int} {d : Int} {bs : Nat → Int} {f : Nat → Nat → Int} {m k : Nat} (hc : ∀ k, (c k).natAbs ≤ 10) (hd : d.natAbs ≤ 240000) (hf : ∀ i < m, (f i k).natAbs ≤ 24000000) : ∀ {i : Nat}, i ≤ m → (rdc c d bs f i k).natAbs ≤ 2400000 + i * 240000000
  | 0, _ => by
    have := mulB (hc k) hd
    simp only [rdc]; omega
  | i + 1, hi => by
    have h1 := rdc_bd hc hd hf (bs := bs) (show i ≤ m by omega)
    have h2 := mulB (hc (bs i).toNat) (hf i (by omega))
    simp only [rdc]; omega
theorem prF_small {c : Nat → Int} {d : Int} {bs : Nat → Int} {f : Nat → Nat → Int} {m w : Nat} (hm : m ≤ 4) (hc : ∀ k, (c k).natAbs ≤ 10) (hd : d.natAbs ≤ 240000) (hf : ∀ i < m, ∀ k < w, (f i k).natAbs ≤ 24000000) : PrF c d bs f m w := fun k hk =>
  ⟨fun i hi => b62_of (by have := rdc_bd (bs := bs) (k := k) hc hd (fun i hi => hf i hi k hk) hi; omega), fun i hi => b62_of (by have := mulB (hc (bs i).toNat) (hf i hi k hk); omega)⟩
structure TBd (m E : Nat) (s : TS) : Prop where
  d : 1 ≤ s.2.2 ∧ s.2.2 ≤ 240000
  e : ∀ i < m, ∀ k < E, (s.1 i k).natAbs ≤ 240000
  r : ∀ i < m, (s.1 i E).natAbs ≤ 24000000
  c : ∀ k < E, (s.1 m k).natAbs ≤ 12000000
  v : (s.1 m E).natAbs ≤ 960000000
theorem tbd_of {m E : Nat} {T0 : M} {u : Nat → Nat} {cf : Nat → Int} {s : TS} (hm : m ≤ 4) (I : Inv m (E + 1) T0 u cf s.1 (bN s) s.2.2) (hb : ∀ i < m, 0 ≤ s.2.1 i ∧ s.2.1 i < E) (h : ∀ l < m, ∀ k < E, (T0 l k).natAbs ≤ 10) (h1 : ∀ l < m, (T0 l E).natAbs ≤ 1000)
    (hc : ∀ k, (cf k).natAbs ≤ 10) (hE : cf E = 0) : TBd m E s := by
  obtain ⟨b1, b2, b3⟩ := I.bds (e := E) hm (by omega) (fun i hi => by have := hb i hi; show (s.2.1 i).toNat ≠ E; omega) (fun l hl k hk hn => h l hl k (by omega)) h1
  have d0 := I.d0
  refine ⟨⟨by omega, b1⟩, fun i hi k hk => b2 i hi k (by omega) (by omega), b3, fun k hk => ?_, ?_⟩
  · rw [I.cost k (by omega)]
    have e1 := mulB (x := s.2.2) (y := cf k) (a := 240000) (by omega) (hc k)
    have e2 := sI_abs (f := fun i => cf (bN s i) * s.1 i k) (B := 10 * 240000) (n := m) (fun i hi => mulB (hc _) (b2 i hi k (by omega) (by omega)))
    have e3 : m * (10 * 240000) ≤ 4 * (10 * 240000) := Nat.mul_le_mul_right _ hm
    omega
  · rw [I.cost E (by omega), hE, Int.mul_zero]
    have e2 := sI_abs (f := fun i => cf (bN s i) * s.1 i E) (B := 10 * 24000000) (n := m) (fun i hi => mulB (hc _) (b3 i hi))
    have e3 : m * (10 * 24000000) ≤ 4 * (10 * 24000000) := Nat.mul_le_mul_right _ hm
    omega
theorem TBd.all {m E : Nat} {s : TS} (h : TBd m E s) {a b : Nat} (ha : a < m + 1) (hb : b < E + 1) : (s.1 a b).natAbs ≤ 1000000000 := by
  by_cases e1 : a = m
  · subst e1
    by_cases e2 : b = E
    · subst e2; have := h.v; omega
    · have := h.c b (by omega); omega
  · by_cases e2 : b = E
    · subst e2; have := h.r a (by omega); omega
    · have := h.e a (by omega) b (by omega); omega
theorem TBd.f {m E : Nat} {s : TS} (h : TBd m E s) {c : Nat} (hc : c < E) : LeF s.1 m E c ∧ ∀ r < m, PvF s.1 m (E + 1) r c := by
  refine ⟨fun i hi k hk => b62_of (by have := b62_mul (h.all (show i < m + 1 by omega) (show E < E + 1 by omega)) (h.all (show k < m + 1 by omega) (show c < E + 1 by omega)); omega), fun r hr a ha b hb => ?_⟩
  have h1 := b62_mul (h.all ha hb) (h.all (show r < m + 1 by omega) (show c < E + 1 by omega))
  have h2 := b62_mul (h.all ha (show c < E + 1 by omega)) (h.all (show r < m + 1 by omega) hb)
  exact ⟨b62_of (by omega), b62_of (by omega), b62_of (by omega)⟩
theorem TBd.du {n m E : Nat} {s : TS} (hE : E = n + 2 * m) (h : TBd m E s) {own : Int} (ho : own = 0 ∨ own = 1) {tu sl : Nat → Int} {i : Nat} (hi : i < m) (ht : tu i = 1 ∨ tu i = -1) (hs : sl i = 1) : DuP s.1 s.2.2 n m own 1 tu sl i := by
  have hd := h.d
  have hc := h.c (n + m + i) (by omega)
  have e1 : own * s.2.2 = 0 ∨ own * s.2.2 = s.2.2 := by rcases ho with e | e <;> subst e <;> simp
  have hy : (own * s.2.2 - s.1 m (n + m + i)).natAbs ≤ 12240000 := by omega
  have e2 : ((own * s.2.2 - s.1 m (n + m + i)) * tu i).natAbs ≤ 12240000 := by
    rcases ht with e | e <;> rw [e] <;> omega
  refine ⟨b62_of (by omega), b62_of (by omega), b62_of (by omega), ?_, ?_, ?_, ?_⟩
  · rw [hs, Int.mul_one]; exact b62_of (by omega)
  · rw [Int.mul_one]; exact b62_of (by omega)
  · omega
  · rw [hs, Int.mul_one, Int.mul_one]; exact fnew_fit (by omega) (by omega) (by omega)
end Go.Proofs.Ytbdahmfjeklgbaa
end
