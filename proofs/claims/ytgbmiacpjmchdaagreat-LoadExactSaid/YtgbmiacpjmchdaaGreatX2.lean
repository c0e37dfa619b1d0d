/-
  A text of the proofs of this seat: lemmas that the statements' proofs use; it states nothing of the program by itself beyond the contracts that its theorems bear. Conditions: those that stand in each theorem. Its short name: X2.
-/
import Derived.Test.YtgbmiacpjmchdaaGreatX1
import Derived.Test.YtgbmiacpjmchdaaGreatN7
import Derived.Test.YtgbmiacpjmchdaaGreatPl
set_option linter.unusedVariables false
set_option linter.unusedSimpArgs false
namespace Go.Proofs.YtgbmiacpjmchdaaGreat
open Go.Sx Go.Np Go.Cv Go.Tp
set_option maxRecDepth 4000
set_option maxHeartbeats 2000000
abbrev dls (d : List (List Int)) : List (List SV) := d.map fun r => [.psl 1 (ints r)]
theorem dls_len (d : List (List Int)) : (dls d).length = d.length := by simp [dls]
theorem dls_get {d : List (List Int)} {i : Nat} (h : i < d.length) : (dls d)[i]? = some [.psl 1 (ints (d.getD i []))] := by simp [dls, h]
structure DL (d : List (List Int)) : Prop where
  l : d.length ≤ 9223372036854775807
  r : ∀ i, (d.getD i []).length ≤ 9223372036854775807
theorem aP_X2 {A B K : Prop} (k : K) (a : A := by (simp only [zA, zT, zD, zC, zN, ints_len, zR, lnl, fll, stl]; omega)) (b : B := by (simp only [zA, zT, zD, zC, zN, ints_len, zR, lnl, fll, stl]; omega)) : (A ∧ B) ∧ K := ⟨⟨a, b⟩, k⟩
theorem Shape_ok (n : Nt) (hn : NL n) (d : List (List Int)) (hd : DL d) : Ctr Tryz.prog 10 [ntv n, .psl 1 (dls d)] [] (fun r o => o = [] ∧ r = .bp (ShapeP n d)) := by
  refine Ctr.imp ?_
  refine fn_intro (E := env 0) tys_ok rfl rfl rfl Tryz.func10 (by kernel_rfl) rfl (by kernel_rfl) ?_
  have cC := Check_ok n hn
  have hll := lnl n.ln
  have hdl := dls_len d
  have hd1 := hd.l
  (repeat' (conv => whnf); first | (refine aC (fun _ => ?_) (fun _ => ?_) <;> try (exfalso; omega)) | refine aS ?_ | refine aG ?_ | refine aD ?_ | refine aH ?_ | refine aP_X2 ?_ | refine aI ?_ | refine aJ ?_ | (refine aK [] cC ?_) | fail); all_goals try (conv => whnf)
  all_goals try (exact ⟨rfl, Imp.bl ⟨fun h => (by cases h), fun h => by have := h.c; have := h.l; omega⟩⟩)
  have hc : chkN n = 0 := by omega
  have hl : d.length = n.ln.length := by omega
  refine LoopOb.mk (Y := Nat) (st := fun i => ⟨[(22, i64 i), (21, i64 (dls d).length), (20, .psl 1 (dls d)), (2, .ptr 0 0)], [.box [.psl 1 (strs n.nm), .psl 5 (lns n.ln), .psl 8 (fls n.fl)]]⟩)
    (inv := fun i => i ≤ d.length ∧ (∀ k, k < i → ((d.getD k []).length : Int) = (n.ln.getD k ln0).n) ∧ ∀ k, k < i → ∀ j, j < (d.getD k []).length → -1 ≤ (d.getD k []).getD j 0 ∧ (d.getD k []).getD j 0 ≤ 400) (fun i => d.length - i) 0 [0] ⟨by omega, by omega, by omega⟩ (by (exact aL)) ?_
  rintro i ⟨hi, hv1, hv2⟩
  (repeat' (conv => whnf); first | refine aS ?_ | refine aG ?_ | refine aD ?_ | refine aH ?_ | refine aP_X2 ?_ | refine aI ?_ | refine aJ ?_ | fail); all_goals try (conv => whnf)
  refine CondOb.mk (fun hlt => ?_) (fun hlt => ?_)
  · have hil : i < d.length := by omega
    have hg := dls_get hil
    have hg2 := lng (l := n.ln) (i := i) (by omega)
    have hrl := hd.r i
    have hS : (ShapeP n d → ((d.getD i []).length : Int) = (n.ln.getD i ln0).n ∧ ∀ j, j < (d.getD i []).length → -1 ≤ (d.getD i []).getD j 0 ∧ (d.getD i []).getD j 0 ≤ 400) := fun h => ⟨h.r i hil, h.b i hil⟩
    have hst : ((d.getD i []).length : Int) = (n.ln.getD i ln0).n → (∀ j, j < (d.getD i []).length → -1 ≤ (d.getD i []).getD j 0 ∧ (d.getD i []).getD j 0 ≤ 400) → (∀ k, k < i + 1 → ((d.getD k []).length : Int) = (n.ln.getD k ln0).n) ∧ ∀ k, k < i + 1 → ∀ j, j < (d.getD k []).length → -1 ≤ (d.getD k []).getD j 0 ∧ (d.getD k []).getD j 0 ≤ 400 := fun h1 h2 => by
      refine ⟨fun k hk => ?_, fun k hk => ?_⟩
      · by_cases e : k = i
        · rw [e]; exact h1
        · exact hv1 k (by omega)
      · by_cases e : k = i
        · rw [e]; exact h2
        · exact hv2 k (by omega)
    clear hv1 hv2
    generalize n.ln.getD i ln0 = ll at *
    generalize d.getD i [] = row at *
    have hil2 := ints_len row
    (repeat' (conv => whnf); first | refine ⟨i, _, rfl, hg2, ?_⟩ | refine ⟨i, _, rfl, hg, ?_⟩ | (refine aC (fun _ => ?_) (fun _ => ?_) <;> try (exfalso; omega)) | refine aS ?_ | refine aG ?_ | refine aD ?_ | refine aH ?_ | refine aP_X2 ?_ | refine aI ?_ | refine aJ ?_ | fail); all_goals try (conv => whnf)
    · exact ⟨rfl, Imp.bl ⟨fun h => (by cases h), fun h => by have := (hS h).1; omega⟩⟩
    have hrn : (row.length : Int) = ll.n := by omega
    refine LoopOb.mk (Y := Nat) (st := fun j => ⟨[(38, i64 j), (37, i64 (ints row).length), (36, .psl 1 (ints row)), (22, i64 i), (21, i64 (dls d).length), (20, .psl 1 (dls d)), (2, .ptr 0 0)], [.box [.psl 1 (strs n.nm), .psl 5 (lns n.ln), .psl 8 (fls n.fl)]]⟩)
      (inv := fun j => j ≤ row.length ∧ ∀ k, k < j → -1 ≤ row.getD k 0 ∧ row.getD k 0 ≤ 400) (fun j => row.length - j) 0 [0] ⟨by omega, by omega⟩ (by (exact aL)) ?_
    rintro j ⟨hj, hw⟩
    (repeat' (conv => whnf); first | refine aS ?_ | refine aG ?_ | refine aD ?_ | refine aH ?_ | refine aP_X2 ?_ | refine aI ?_ | refine aJ ?_ | fail); all_goals try (conv => whnf)
    refine CondOb.mk (fun hlt2 => ?_) (fun hlt2 => ?_)
    · have hjl : j < row.length := by omega
      have hS2 : ShapeP n d → -1 ≤ row.getD j 0 ∧ row.getD j 0 ≤ 400 := fun h => (hS h).2 j hjl
      have hst2 : -1 ≤ row.getD j 0 ∧ row.getD j 0 ≤ 400 → ∀ k, k < j + 1 → -1 ≤ row.getD k 0 ∧ row.getD k 0 ≤ 400 := fun h k hk => by
        by_cases e : k = j
        · rw [e]; exact h
        · exact hw k (by omega)
      (repeat' (conv => whnf); first | (refine aC (fun _ => ?_) (fun _ => ?_) <;> try (exfalso; omega)) | refine aS ?_ | refine aG ?_ | refine aD ?_ | refine aH ?_ | refine aP_X2 ?_ | refine aI ?_ | refine aJ ?_ | fail); all_goals try (conv => whnf)
      all_goals first
        | exact ⟨j + 1, [0], ⟨by omega, hst2 (by omega)⟩, by omega, by (exact aL)⟩
        | exact ⟨rfl, Imp.bl ⟨fun h => (by cases h), fun h => by have := hS2 h; omega⟩⟩
    · have e : j = row.length := by omega
      subst e
      obtain ⟨s1, s2⟩ := hst hrn hw
      (repeat' (conv => whnf); first | (refine aC (fun _ => ?_) (fun _ => ?_) <;> try (exfalso; omega)) | refine aS ?_ | refine aG ?_ | refine aD ?_ | refine aH ?_ | refine aP_X2 ?_ | refine aI ?_ | refine aJ ?_ | fail); all_goals try (conv => whnf)
      exact ⟨i + 1, [0], ⟨by omega, s1, s2⟩, by omega, by (exact aL)⟩
  · have e : i = d.length := by omega
    subst e
    (repeat' (conv => whnf); first | (refine aC (fun _ => ?_) (fun _ => ?_) <;> try (exfalso; omega)) | refine aS ?_ | refine aG ?_ | refine aD ?_ | refine aH ?_ | refine aP_X2 ?_ | refine aI ?_ | refine aJ ?_ | fail); all_goals try (conv => whnf)
    exact ⟨rfl, Imp.bl ⟨fun _ => ⟨hc, hl, hv1, hv2⟩, fun _ => rfl⟩⟩
theorem hopOf_ok (n : Nt) (hn : NL n) (f h : Int) : Ctr Tryz.prog 40 [ntv n, i64 f, i64 h] [] (fun r o => o = [] ∧ r = .bp (HopP n f h)) := by
  refine Ctr.imp ?_
  refine fn_intro (E := env 0) tys_ok rfl rfl rfl Tryz.func40 (by kernel_rfl) rfl (by kernel_rfl) ?_
  have hfl := fll n.fl
  have h1 := hn.fl
  by_cases hf : 0 ≤ f ∧ f < n.fl.length
  · obtain ⟨i, rfl⟩ := Int.eq_ofNat_of_zero_le hf.1
    have hil : i < n.fl.length := by omega
    have hg := flg hil
    have hP : HopP n i h ↔ 0 ≤ h ∧ h < (n.fl.getD i fl0).rt.length := by
      unfold HopP; rw [Int.toNat_natCast]; constructor
      · rintro ⟨_, _, a, b⟩; exact ⟨a, b⟩
      · rintro ⟨a, b⟩; exact ⟨by omega, by omega, a, b⟩
    have hrl := (hn.fs _ (Go.Np.getD_in (d := fl0) hil)).2.1
    generalize n.fl.getD i fl0 = g at *
    have hil2 := ints_len g.rt
    (repeat' (conv => whnf); first | refine ⟨i, _, rfl, hg, ?_⟩ | (refine aC (fun _ => ?_) (fun _ => ?_) <;> try (exfalso; omega)) | refine aS ?_ | refine aG ?_ | refine aD ?_ | refine aH ?_ | refine aP_X2 ?_ | refine aI ?_ | refine aJ ?_ | fail); all_goals try (conv => whnf)
    all_goals first
      | exact ⟨rfl, Imp.bl ⟨fun h => (by cases h), fun h => by have := hP.1 h; omega⟩⟩
      | exact ⟨rfl, Imp.bp ⟨fun h => hP.2 ⟨by omega, by omega⟩, fun h => by have := hP.1 h; omega⟩⟩
      | trace_state
  · (repeat' (conv => whnf); first | (refine aC (fun _ => ?_) (fun _ => ?_) <;> try (exfalso; omega)) | refine aS ?_ | refine aG ?_ | refine aD ?_ | refine aH ?_ | refine aP_X2 ?_ | refine aI ?_ | refine aJ ?_ | fail); all_goals try (conv => whnf)
    all_goals first
      | exact ⟨rfl, Imp.bl ⟨fun h => (by cases h), fun h => absurd ⟨h.1, h.2.1⟩ hf⟩⟩
      | exact ⟨rfl, Imp.bp ⟨fun h => by omega, fun h => absurd ⟨h.1, h.2.1⟩ hf⟩⟩
      | (exfalso; omega)
      | trace_state
end Go.Proofs.YtgbmiacpjmchdaaGreat
