/- Lemmas that the proofs of this seat use (Ks N10). Conditions: those that stand in each theorem. -/
import Derived.Test.YtaomhdljcdadaaaGreatMq
import Derived.Test.YtaomhdljcdadaaaGreatPl
import Derived.Test.YtaomhdljcdadaaaGreatO1
import Derived.Test.YtaomhdljcdadaaaGreatN8
set_option linter.unusedVariables false
set_option linter.unusedSimpArgs false
section
namespace Go.Proofs.YtaomhdljcdadaaaGreat
open Go.Sx Go.Np Go.Cv
set_option maxRecDepth 4000
set_option maxHeartbeats 2000000
theorem ints_app (a b : List Int) : ints (a ++ b) = ints a ++ ints b := by simp [ints]
theorem idx_no {r : List Int} {l : Int} (h : ∀ j < r.length, ¬r.getD j 0 = l) : l ∉ r := by
 intro hm
 obtain ⟨j, hj, e⟩ := List.mem_iff_getElem.1 hm
 exact h j hj (by rw [List.getD_eq_getElem?_getD, List.getElem?_eq_getElem hj, Option.getD_some]; exact e)
theorem aP_Ks {A B K : Prop} (k : K) (a : A := by (simp only [zA, zT, zD, zC, zN, ints_len, zR, Go.Cv.vals_len]; omega)) (b : B := by (simp only [zA, zT, zD, zC, zN, ints_len, zR, Go.Cv.vals_len]; omega)) : (A ∧ B) ∧ K := ⟨⟨a, b⟩, k⟩
theorem z2_Ks {G H : Prop} (k : H) (h : H → G := by first | exact fun r => aS r | exact fun r => aG r | exact fun r => aD r | exact fun r => aH r | exact fun r => aP_Ks r | exact fun r => aI r | exact fun r => aJ r) : G := h k
def stv (b : Int) (p : Nat) : List Int := 0 :: List.replicate p b
theorem stv_len (b : Int) (p : Nat) : (stv b p).length = p + 1 := by simp [stv]
theorem stv_succ (b : Int) (p : Nat) : stv b (p + 1) = stv b p ++ [b] := by simp [stv, List.replicate_succ']
theorem z3_Ks {G H : Prop} (k : H) (h : H → G := by first | exact fun r => aS r | exact fun r => aG r | exact fun r => aD r | exact fun r => aP_Ks r | exact fun r => aI r | exact fun r => aJ r) : G := h k
theorem Stair_ok (b : Int) (p : Nat) (q : Int) (hp : p ≤ 1000) : Ctr Tryz.prog 96 [i64 b, i64 p, i64 q] [] (fun r o => o = [] ∧ r = crv (stv b p) p q) := by
 refine Ctr.imp ?_
 refine fn_intro (E := env 0) tys_ok rfl rfl rfl Tryz.func96 (by kernel_rfl) rfl (by kernel_rfl) ?_
 (repeat' (conv => whnf); first | refine aC (fun _ => ?_) (fun _ => ?_) | refine z2_Ks ?_ | fail); all_goals try (conv => whnf)
 refine LoopOb.mk (Y := Nat) (st := fun i => ⟨[(8, i64 i), (7, .ptr 2 0), (6, .ptr 0 0), (0, i64 b), (1, i64 p)], [.box [.nil, i64 0, i64 0], .vec 1 (ints (stv b i)), .box [.vec 1, i64 p, i64 q]]⟩)
  (inv := fun i => i ≤ p) (fun i => p - i) 0 [0, 1, 2] (by omega) (by (exact aL)) ?_
 intro i hi
 have hl := ints_len (stv b i)
 have hs := stv_len b i
 (repeat' (conv => whnf); first | refine z2_Ks ?_ | fail); all_goals try (conv => whnf)
 refine CondOb.mk (fun hlt => ?_) (fun hlt => ?_)
 ·(repeat' (conv => whnf); first | refine aC (fun _ => ?_) (fun _ => ?_) | refine z2_Ks ?_ | fail); all_goals try (conv => whnf)
  exact ⟨i + 1, [0, 4, 2], by omega, by omega, by rw [stv_succ, ints_app]; (exact aL)⟩
 ·have e : i = p := by omega
  subst e
  (repeat' (conv => whnf); first | refine aC (fun _ => ?_) (fun _ => ?_) | refine z3_Ks ?_ | fail); all_goals try (conv => whnf)
  refine .mk [.fz 1] ?_
  (repeat' (conv => whnf); first | refine aC (fun _ => ?_) (fun _ => ?_) | refine z2_Ks ?_ | fail); all_goals try (conv => whnf)
  exact ⟨rfl, Imp.refl _⟩
theorem Range_ok (L : List Int) (k : Nat) (hL : L.length ≤ 2000) (hk : k ≤ 2000) (lo hi : Int) (h1 : -1000000 ≤ lo) (h2 : lo ≤ hi) (h3 : hi ≤ 1000000) :
  Ctr Tryz.prog 56 [.ptr 0 0, i64 lo, i64 hi] [src L k] (fun r o => ∃ x : Int × Nat, (lo ≤ x.1 ∧ x.1 ≤ hi ∧ x.2 ≤ 2000) ∧ o = [src L x.2] ∧ r = i64 x.1) := by
 refine fn_intro (E := env 1) tys_ok rfl rfl rfl Tryz.func56 (by kernel_rfl) rfl (by kernel_rfl) ?_
 (repeat' (conv => whnf); first | refine aC (fun _ => ?_) (fun _ => ?_) | refine z2_Ks ?_ | fail); all_goals try (conv => whnf)
 refine aM [0] (N_ok L k hL hk (hi - lo + 1) (by omega) (by omega)) rfl rfl ?_
 rintro _ _ ⟨⟨v, k'⟩, ⟨h4, h5, hk'⟩, rfl, rfl⟩
 dsimp only at h4 h5 hk' ⊢
 (repeat' (conv => whnf); first | refine aC (fun _ => ?_) (fun _ => ?_) | refine z2_Ks ?_ | fail); all_goals try (conv => whnf)
 exact ⟨(lo + v, k'), ⟨by simp only; omega, by simp only; omega, hk'⟩, rfl, rfl⟩
def nms (t : Nat) : List ByteArray := (List.range t).map lname
theorem nms_len {t : Nat} : (nms t).length = t := by simp [nms]
theorem nms_succ {t : Nat} : nms (t + 1) = nms t ++ [lname t] := by simp [nms, List.range_succ]
theorem nms_get {t i : Nat} (h : i < t) : (nms t).getD i bs0 = lname i := by simp [nms, List.getD_eq_getElem?_getD, h]
theorem lns_app (a b : List Ln) : lns (a ++ b) = lns a ++ lns b := by simp [lns]
theorem fls_app (a b : List Fl) : fls (a ++ b) = fls a ++ fls b := by simp [fls]
theorem strs_app (a b : List ByteArray) : strs (a ++ b) = strs a ++ strs b := by simp [strs]
theorem all_app {α : Type} {P : α → Prop} {l : List α} {x : α} (h : ∀ a ∈ l, P a) (hx : P x) : ∀ a ∈ l ++ [x], P a := by
 intro a ha
 rcases List.mem_append.1 ha with ha | ha
 ·exact h a ha
 ·rw [List.mem_singleton.1 ha]; exact hx
end Go.Proofs.YtaomhdljcdadaaaGreat
end
section
namespace Go.Proofs.YtaomhdljcdadaaaGreat
open Go.Sx Go.Np Go.Cv
set_option maxRecDepth 4000
set_option maxHeartbeats 2000000
theorem idx_at {r : List Int} {l : Int} : ∀ {i : Nat}, (∀ j < i, ¬r.getD j 0 = l) → i < r.length → r.getD i 0 = l → l ∈ r ∧ r.idxOf l = i := by
 intro i hv hi e
 have hm : l ∈ r := by rw [← e]; exact getD_in hi
 refine ⟨hm, ?_⟩
 have h1 := List.idxOf_lt_length_of_mem hm
 have h2 : r[r.idxOf l] = l := List.getElem_idxOf h1
 have h3 : r.getD (r.idxOf l) 0 = l := by rw [List.getD_eq_getElem?_getD, List.getElem?_eq_getElem h1, Option.getD_some]; exact h2
 rcases Nat.lt_trichotomy (r.idxOf l) i with h | h | h
 ·exact absurd h3 (hv _ h)
 ·exact h
 ·have h4 : r[i] = l := by rw [← e, List.getD_eq_getElem?_getD, List.getElem?_eq_getElem hi, Option.getD_some]
  have := List.not_of_lt_findIdx (p := (· == l)) (xs := r) (i := i) h
  simp [h4] at this
theorem aP_N10 {A B K : Prop} (k : K) (a : A := by (simp only [zA, zT, zD, zC, zN, ints_len, zR, Go.Cv.vals_len]; omega)) (b : B := by (simp only [zA, zT, zD, zC, zN, ints_len, zR, Go.Cv.vals_len]; omega)) : (A ∧ B) ∧ K := ⟨⟨a, b⟩, k⟩
theorem z1_N10 {G H : Prop} (k : H) (h : H → G := by first | exact fun r => aS r | exact fun r => aG r | exact fun r => aD r | exact fun r => aH r | exact fun r => aP_N10 r | exact fun r => aI r | exact fun r => aJ r) : G := h k
theorem Hop_ok (n : Nt) (hn : NL n) (f l : Int) : Ctr Tryz.prog 65 [ntv n, i64 f, i64 l] [] (fun r o => o = [] ∧ r = i64 (hop n f l)) := by
 refine fn_intro (E := env 0) tys_ok rfl rfl rfl Tryz.func65 (by kernel_rfl) rfl (by kernel_rfl) ?_
 have hfl := fll n.fl
 have h3 := hn.fl
 (repeat' (conv => whnf); first | (refine aC (fun _ => ?_) (fun _ => ?_) <;> try (exfalso; omega)) | refine z1_N10 ?_ | fail); all_goals try (conv => whnf)
 ·exact ⟨rfl, by unfold hop; rw [if_pos (by omega)]; rfl⟩
 ·exact ⟨rfl, by unfold hop; rw [if_pos (by omega)]; rfl⟩
 have hil : f.toNat < n.fl.length := by omega
 have hg := flg hil
 have hL := (hn.flat hil).rt
 have hE : hop n f l = if l ∈ (n.fl.getD f.toNat fl0).rt then (((n.fl.getD f.toNat fl0).rt.idxOf l : Nat) : Int) else -1 := by unfold hop; rw [if_neg (by omega)]
 generalize hop n f l = E at *
 generalize n.fl.getD f.toNat fl0 = g at *
 have hrl := ints_len g.rt
 (repeat' (conv => whnf); first | (refine aC (fun _ => ?_) (fun _ => ?_) <;> try (exfalso; omega)) | refine z1_N10 ?_ | refine ⟨f.toNat, _, by omega, hg, ?_⟩ | fail); all_goals try (conv => whnf)
 refine LoopOb.mk (Y := Nat) (st := fun i => ⟨[(25, i64 i), (24, i64 (ints g.rt).length), (23, .psl 1 (ints g.rt)), (2, i64 l)], [.box [.psl 1 (strs n.nm), .psl 5 (lns n.ln), .psl 8 (fls n.fl)]]⟩)
  (inv := fun i => i ≤ g.rt.length ∧ ∀ j < i, ¬g.rt.getD j 0 = l) (fun i => g.rt.length - i) 0 [0] ⟨by omega, by omega⟩ (by (exact aL)) ?_
 rintro i ⟨hi, hv⟩
 (repeat' (conv => whnf); first | refine z1_N10 ?_ | refine ⟨f.toNat, _, by omega, hg, ?_⟩ | fail); all_goals try (conv => whnf)
 refine CondOb.mk (fun hlt => ?_) (fun hlt => ?_)
 ·have hst : ¬g.rt.getD i 0 = l → ∀ j < i + 1, ¬g.rt.getD j 0 = l := fun h j hj => by
   by_cases e : j = i
   ·rw [e]; exact h
   ·exact hv j (by omega)
  (repeat' (conv => whnf); first | (refine aC (fun _ => ?_) (fun _ => ?_) <;> try (exfalso; omega)) | refine z1_N10 ?_ | refine ⟨f.toNat, _, by omega, hg, ?_⟩ | fail); all_goals try (conv => whnf)
  ·obtain ⟨h1, h2⟩ := idx_at hv (by omega) (by assumption)
   exact ⟨rfl, by rw [hE, if_pos h1, h2]; rfl⟩
  ·exact ⟨i + 1, [0], ⟨by omega, hst (by assumption)⟩, by omega, by (exact aL)⟩
 ·(repeat' (conv => whnf); first | (refine aC (fun _ => ?_) (fun _ => ?_) <;> try (exfalso; omega)) | refine z1_N10 ?_ | fail); all_goals try (conv => whnf)
  exact ⟨rfl, by rw [hE, if_neg (idx_no fun j hj => hv j (by omega))]; rfl⟩
theorem rHop_ok (n : Nt) (hn : NL n) (f l : Int) : Ctr Tryz.prog 21 [ntv n, i64 f, i64 l] [] (fun r o => o = [] ∧ r = i64 (hop n f l)) := by
 refine fn_intro (E := env 0) tys_ok rfl rfl rfl Tryz.func21 (by kernel_rfl) rfl (by kernel_rfl) ?_
 have hfl := fll n.fl
 have h3 := hn.fl
 (repeat' (conv => whnf); first | (refine aC (fun _ => ?_) (fun _ => ?_) <;> try (exfalso; omega)) | refine z1_N10 ?_ | fail); all_goals try (conv => whnf)
 ·exact ⟨rfl, by unfold hop; rw [if_pos (by omega)]; rfl⟩
 ·exact ⟨rfl, by unfold hop; rw [if_pos (by omega)]; rfl⟩
 have hil : f.toNat < n.fl.length := by omega
 have hg := flg hil
 have hL := (hn.flat hil).rt
 have hE : hop n f l = if l ∈ (n.fl.getD f.toNat fl0).rt then (((n.fl.getD f.toNat fl0).rt.idxOf l : Nat) : Int) else -1 := by unfold hop; rw [if_neg (by omega)]
 generalize hop n f l = E at *
 generalize n.fl.getD f.toNat fl0 = g at *
 have hrl := ints_len g.rt
 refine LoopOb.mk (Y := Nat) (st := fun i => ⟨[(7, i64 i), (3, .ptr 0 0), (1, i64 f), (2, i64 l)], [.box [.psl 1 (strs n.nm), .psl 5 (lns n.ln), .psl 8 (fls n.fl)]]⟩)
  (inv := fun i => i ≤ g.rt.length ∧ ∀ j < i, ¬g.rt.getD j 0 = l) (fun i => g.rt.length - i) 0 [0] ⟨by omega, by omega⟩ (by (exact aL)) ?_
 rintro i ⟨hi, hv⟩
 (repeat' (conv => whnf); first | refine z1_N10 ?_ | refine ⟨f.toNat, _, by omega, hg, ?_⟩ | fail); all_goals try (conv => whnf)
 refine CondOb.mk (fun hlt => ?_) (fun hlt => ?_)
 ·have hst : ¬g.rt.getD i 0 = l → ∀ j < i + 1, ¬g.rt.getD j 0 = l := fun h j hj => by
   by_cases e : j = i
   ·rw [e]; exact h
   ·exact hv j (by omega)
  (repeat' (conv => whnf); first | (refine aC (fun _ => ?_) (fun _ => ?_) <;> try (exfalso; omega)) | refine z1_N10 ?_ | refine ⟨f.toNat, _, by omega, hg, ?_⟩ | fail); all_goals try (conv => whnf)
  ·obtain ⟨h1, h2⟩ := idx_at hv (by omega) (by assumption)
   exact ⟨rfl, by rw [hE, if_pos h1, h2]; rfl⟩
  ·exact ⟨i + 1, [0], ⟨by omega, hst (by assumption)⟩, by omega, by (exact aL)⟩
 ·(repeat' (conv => whnf); first | (refine aC (fun _ => ?_) (fun _ => ?_) <;> try (exfalso; omega)) | refine z1_N10 ?_ | fail); all_goals try (conv => whnf)
  exact ⟨rfl, by rw [hE, if_neg (idx_no fun j hj => hv j (by omega))]; rfl⟩
end Go.Proofs.YtaomhdljcdadaaaGreat
end
