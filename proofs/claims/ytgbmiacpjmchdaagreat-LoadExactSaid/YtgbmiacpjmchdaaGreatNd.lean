/-
  A text of the proofs of this seat: lemmas that the statements' proofs use; it states nothing of the program by itself beyond the contracts that its theorems bear. Conditions: those that stand in each theorem. Its short name: Nd Kn.
-/
import Derived.Test.YtgbmiacpjmchdaaGreatLib
import Derived.Test.YtgbmiacpjmchdaaGreatPl
set_option linter.unusedVariables false
set_option linter.unusedSimpArgs false
section
namespace Go.Proofs.YtgbmiacpjmchdaaGreat
open Go.Sx Go.Np
abbrev lnv (l : Ln) : List SV := [i64 l.k, i64 l.c, i64 l.n, .psl 1 (ints l.w), .psl 1 (ints l.s)]
abbrev flv (f : Fl) : List SV := [.str f.nm, .psl 1 (ints f.rt), i64 f.cl, i64 f.lo, i64 f.hi, .psl 1 (ints f.v), i64 f.p, i64 f.q]
abbrev lns (l : List Ln) : List (List SV) := l.map lnv
abbrev fls (l : List Fl) : List (List SV) := l.map flv
abbrev strs (l : List ByteArray) : List (List SV) := l.map fun s => [.str s]
abbrev ntv (n : Nt) : SV := .agg [.psl 1 (strs n.nm), .psl 5 (lns n.ln), .psl 8 (fls n.fl)]
theorem lnl (l : List Ln) : (lns l).length = l.length := by simp [lns]
theorem fll (l : List Fl) : (fls l).length = l.length := by simp [fls]
theorem stl (l : List ByteArray) : (strs l).length = l.length := by simp [strs]
theorem lng {l : List Ln} {i : Nat} (h : i < l.length) : (lns l)[i]? = some (lnv (l.getD i ln0)) := by simp [lns, h]
theorem flg {l : List Fl} {i : Nat} (h : i < l.length) : (fls l)[i]? = some (flv (l.getD i fl0)) := by simp [fls, h]
theorem stg {l : List ByteArray} {i : Nat} (h : i < l.length) : (strs l)[i]? = some [.str (l.getD i bs0)] := by simp [strs, h]
def bb (s : ByteArray) (i : Nat) : UInt8 := (s[i]?).getD 0
theorem bbg {s : ByteArray} {i : Nat} (h : i < s.size) : s[i]? = some (bb s i) := by
  unfold bb; rw [getElem?_pos s i h]; rfl
theorem ba_ne {s : ByteArray} (h : ¬s = ⟨#[]⟩) : 1 ≤ s.size := by
  rcases Nat.eq_zero_or_pos s.size with h0 | h0
  · refine absurd ?_ h
    cases s with | mk d => simp only [ByteArray.size] at h0; rw [Array.eq_empty_of_size_eq_zero h0]
  · exact h0
/- sizes that a slice can have -/
structure NL (n : Nt) : Prop where
  nm : n.nm.length ≤ 9223372036854775807
  ln : n.ln.length ≤ 9223372036854775807
  fl : n.fl.length ≤ 9223372036854775807
  ns : ∀ s ∈ n.nm, s.size ≤ 9223372036854775807
  lw : ∀ l ∈ n.ln, l.w.length ≤ 9223372036854775807 ∧ l.s.length ≤ 9223372036854775807
  fs : ∀ f ∈ n.fl, f.nm.size ≤ 9223372036854775807 ∧ f.rt.length ≤ 9223372036854775807 ∧ f.v.length ≤ 9223372036854775807
theorem getD_in {α : Type} {l : List α} {d : α} {i : Nat} (h : i < l.length) : l.getD i d ∈ l := by
  rw [List.getD_eq_getElem?_getD, List.getElem?_eq_getElem h]; exact List.getElem_mem h
end Go.Proofs.YtgbmiacpjmchdaaGreat
end
section
namespace Go.Proofs.YtgbmiacpjmchdaaGreat
open Go.Sx
set_option maxRecDepth 4000
set_option maxHeartbeats 2000000
theorem ints_take (l : List Int) (k : Nat) : (ints l).take k = ints (l.take k) := by simp [ints, List.map_take]
theorem ints_drop (l : List Int) (k : Nat) : (ints l).drop k = ints (l.drop k) := by simp [ints, List.map_drop]
/-! the reader of numbers -/
abbrev src (L : List Int) (k : Nat) : Chunk := .box [.psl 1 (ints L), i64 k]
def md (x n : Int) : Int := if x.tmod n < 0 then x.tmod n + n else x.tmod n
theorem md_bd {x n : Int} (hn : 1 ≤ n) : 0 ≤ md x n ∧ md x n < n := by
  have h1 := Int.tmod_lt_of_pos x (show 0 < n by omega)
  have h2 : -n < x.tmod n := by
    have h3 := Int.tmod_lt_of_pos (-x) (show 0 < n by omega)
    rw [Int.neg_tmod] at h3
    omega
  unfold md; split <;> omega
theorem aP_Kn {A B K : Prop} (k : K) (a : A := by (simp only [zA, zT, zD, zC, zN, ints_len, zR, lnl, fll, stl]; omega)) (b : B := by (simp only [zA, zT, zD, zC, zN, ints_len, zR, lnl, fll, stl]; omega)) : (A ∧ B) ∧ K := ⟨⟨a, b⟩, k⟩
theorem Mod_ok (x n : Int) (hn : 1 ≤ n) (hn2 : n ≤ 9223372036854775807) : Ctr Tryz.prog 38 [i64 x, i64 n] [] (fun r o => o = [] ∧ r = i64 (md x n)) := by
  refine fn_intro (E := env 0) tys_ok rfl rfl rfl Tryz.func38 (by kernel_rfl) rfl (by kernel_rfl) ?_
  have hb := md_bd (x := x) hn
  have h1 := Int.tmod_lt_of_pos x (show 0 < n by omega)
  unfold md at hb
  (repeat' (conv => whnf); first | (refine aC (fun _ => ?_) (fun _ => ?_) <;> try (exfalso; omega)) | refine aS ?_ | refine aG ?_ | refine aD ?_ | refine aH ?_ | refine aP_Kn ?_ | refine aI ?_ | refine aJ ?_ | fail); all_goals try (conv => whnf)
  refine ⟨by omega, ?_⟩
  (repeat' (conv => whnf); first | (refine aC (fun _ => ?_) (fun _ => ?_) <;> try (exfalso; omega)) | refine aS ?_ | refine aG ?_ | refine aD ?_ | refine aH ?_ | refine aP_Kn ?_ | refine aI ?_ | refine aJ ?_ | fail); all_goals try (conv => whnf)
  · exact ⟨rfl, by simp only [oneS]; unfold md; rw [if_pos (by assumption)]⟩
  · exact ⟨rfl, by simp only [oneS]; unfold md; rw [if_neg (by assumption)]⟩
theorem Raw_ok (L : List Int) (k : Nat) (hL : L.length ≤ 2000) (hk : k ≤ 2000) :
    Ctr Tryz.prog 39 [.ptr 0 0] [src L k] (fun r o => ∃ x : Int × Nat, x.2 ≤ 2000 ∧ o = [src L x.2] ∧ r = i64 x.1) := by
  refine fn_intro (E := env 1) tys_ok rfl rfl rfl Tryz.func39 (by kernel_rfl) rfl (by kernel_rfl) ?_
  (repeat' (conv => whnf); first | refine aC (fun _ => ?_) (fun _ => ?_) | refine aS ?_ | refine aG ?_ | refine aD ?_ | refine aH ?_ | refine aP_Kn ?_ | refine aI ?_ | refine aJ ?_ | refine aW (.qs [0, 1, 2, 3, 4, 5, 6, 7, 8, 9] .nil) ?_ | refine aW (.qs [0, 1, 2, 3, 4, 5, 6, 7, 8, 9, 10, 11] .nil) ?_ | fail); all_goals try (conv => whnf)
  · exact ⟨(0, k), hk, rfl, rfl⟩
  · simp only [ints_len] at *
    exact ⟨(_, k + 1), by simp only; omega, rfl, rfl⟩
theorem N_ok (L : List Int) (k : Nat) (hL : L.length ≤ 2000) (hk : k ≤ 2000) (n : Int) (hn : 1 ≤ n) (hn2 : n ≤ 9223372036854775807) :
    Ctr Tryz.prog 12 [.ptr 0 0, i64 n] [src L k] (fun r o => ∃ x : Int × Nat, (0 ≤ x.1 ∧ x.1 < n ∧ x.2 ≤ 2000) ∧ o = [src L x.2] ∧ r = i64 x.1) := by
  refine fn_intro (E := env 1) tys_ok rfl rfl rfl Tryz.func12 (by kernel_rfl) rfl (by kernel_rfl) ?_
  (repeat' (conv => whnf); first | refine aC (fun _ => ?_) (fun _ => ?_) | refine aS ?_ | refine aG ?_ | refine aD ?_ | refine aH ?_ | refine aP_Kn ?_ | refine aI ?_ | refine aJ ?_ | fail); all_goals try (conv => whnf)
  refine CallOb.mk [0] (Raw_ok L k hL hk) rfl (ImpL.refl _) rfl rfl ?_
  rintro _ _ ⟨⟨v, k'⟩, hk', rfl, rfl⟩
  (repeat' (conv => whnf); first | refine aC (fun _ => ?_) (fun _ => ?_) | refine aS ?_ | refine aG ?_ | refine aD ?_ | refine aH ?_ | refine aP_Kn ?_ | refine aI ?_ | refine aJ ?_ | fail); all_goals try (conv => whnf)
  refine aK [] (Mod_ok v n hn hn2) ?_
  (repeat' (conv => whnf); first | refine aC (fun _ => ?_) (fun _ => ?_) | refine aS ?_ | refine aG ?_ | refine aD ?_ | refine aH ?_ | refine aP_Kn ?_ | refine aI ?_ | refine aJ ?_ | fail); all_goals try (conv => whnf)
  exact ⟨(md v n, k'), ⟨(md_bd hn).1, (md_bd hn).2, hk'⟩, rfl, rfl⟩
theorem getD_mem {l : List Int} {i : Nat} (h : i < l.length) : l.getD i 0 ∈ l := by
  rw [List.getD_eq_getElem?_getD, List.getElem?_eq_getElem h]; exact List.getElem_mem h
theorem Pick_ok (L : List Int) (k : Nat) (hL : L.length ≤ 2000) (hk : k ≤ 2000) (l : List Int) (hl : 1 ≤ l.length) (hl2 : l.length ≤ 1000000) :
    Ctr Tryz.prog 32 [.ptr 0 0, .psl 1 (ints l)] [src L k] (fun r o => ∃ x : Int × Nat, (x.1 ∈ l ∧ x.2 ≤ 2000) ∧ o = [src L x.2] ∧ r = i64 x.1) := by
  refine fn_intro (E := env 1) tys_ok rfl rfl rfl Tryz.func32 (by kernel_rfl) rfl (by kernel_rfl) ?_
  (repeat' (conv => whnf); first | refine aC (fun _ => ?_) (fun _ => ?_) | refine aS ?_ | refine aG ?_ | refine aD ?_ | refine aH ?_ | refine aP_Kn ?_ | refine aI ?_ | refine aJ ?_ | fail); all_goals try (conv => whnf)
  refine CallOb.mk [0] (N_ok L k hL hk _ (by rw [ints_len]; omega) (by rw [ints_len]; omega)) rfl (ImpL.refl _) rfl rfl ?_
  rintro _ _ ⟨⟨v, k'⟩, ⟨h1, h2, hk'⟩, rfl, rfl⟩
  (repeat' (conv => whnf); first | refine aC (fun _ => ?_) (fun _ => ?_) | refine aS ?_ | refine aG ?_ | refine aD ?_ | refine aH ?_ | refine aP_Kn ?_ | refine aI ?_ | refine aJ ?_ | fail); all_goals try (conv => whnf)
  refine ⟨(l.getD v.toNat 0, k'), ⟨getD_mem (by simp only [ints_len] at h2; omega), hk'⟩, rfl, rfl⟩
theorem New_ok (l : List Int) (hl : l.length ≤ 9223372036854775807) :
    Ctr Tryz.prog 5 [.psl 1 (ints l)] [] (fun r o => o = [src (l.take 2000) 0] ∧ r = .ptr 0 0) := by
  refine fn_intro (E := env 0) tys_ok rfl rfl rfl Tryz.func5 (by kernel_rfl) rfl (by kernel_rfl) ?_
  (repeat' (conv => whnf); first | refine aC (fun _ => ?_) (fun _ => ?_) | refine aS ?_ | refine aG ?_ | refine aD ?_ | refine aH ?_ | refine aP_Kn ?_ | refine aI ?_ | refine aJ ?_ | fail); all_goals try (conv => whnf)
  simp only [ints_len]
  refine ⟨min l.length 2000, by omega, ⟨by omega, by omega⟩, ?_⟩
  (repeat' (conv => whnf); first | refine aC (fun _ => ?_) (fun _ => ?_) | refine aS ?_ | refine aG ?_ | refine aD ?_ | refine aH ?_ | refine aP_Kn ?_ | refine aI ?_ | refine aJ ?_ | fail); all_goals try (conv => whnf)
  refine ⟨?_, rfl⟩
  have e : l.take (min l.length 2000) = l.take 2000 := by
    by_cases h : l.length ≤ 2000
    · rw [Nat.min_eq_left h, List.take_of_length_le (Nat.le_refl _), List.take_of_length_le h]
    · rw [Nat.min_eq_right (by omega)]
  rw [List.drop_zero, ints_take, e]
  rfl
end Go.Proofs.YtgbmiacpjmchdaaGreat
end
