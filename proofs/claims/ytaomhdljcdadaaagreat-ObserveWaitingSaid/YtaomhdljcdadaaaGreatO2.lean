/- Lemmas that the proofs of this seat use (O2 R1 R2 R4 W2). Conditions: those that stand in each theorem. -/
import Derived.Test.YtaomhdljcdadaaaGreatO1
import Derived.Test.YtaomhdljcdadaaaGreatKs
import Derived.Test.YtaomhdljcdadaaaGreatLib
import Derived.Test.YtaomhdljcdadaaaGreatPl
set_option linter.unusedVariables false
set_option linter.unusedSimpArgs false
section
namespace Go.Proofs.YtaomhdljcdadaaaGreat
open Go.Sx Go.Pk Go.Mc Go.Np
set_option maxRecDepth 4000
set_option maxHeartbeats 2000000
structure WrS where
 a : Int
 d : Int
 b : Bool
def worF (n : Nt) (p : List Pk) (D : Tp) (f : Int) : Nat → WrS
  | 0 => ⟨0, 0, false⟩
  | i + 1 => match enO n p D i with
    | none => worF n p D f i
    | some d => if (p.getD i pk0).f = f ∧ ((worF n p D f i).b = false ∨ (worF n p D f i).d < d) then ⟨i, d, true⟩ else worF n p D f i
abbrev wrV (s : WrS) : SV := .tup [i64 s.a, i64 s.d, .bl s.b]
theorem aP_O2 {A B K : Prop} (k : K) (a : A := by (simp only [zA, zT, zD, zC, zN, ints_len, zR, Go.Cv.vals_len]; omega)) (b : B := by (simp only [zA, zT, zD, zC, zN, ints_len, zR, Go.Cv.vals_len]; omega)) : (A ∧ B) ∧ K := ⟨⟨a, b⟩, k⟩
theorem z1_O2 {G H : Prop} (k : H) (h : H → G := by first | exact fun r => aS r | exact fun r => aG r | exact fun r => aD r | exact fun r => aH r | exact fun r => aP_O2 r | exact fun r => aI r | exact fun r => aJ r) : G := h k
theorem OWor_ok (n : Nt) (hn : NL n) (p : List Pk) (h : SkP n p) (ms : List (List Int)) (hm : MsL ms) (f : Int) : Ctr Tryz.prog 19 [ntv n, .psl 3 (pks p), .agg [.psl 1 (trs ms)], i64 f] [] (fun r o => o = [] ∧ r = wrV (worF n p (dR ms) f p.length)) := by
  refine fn_intro (E := env 0) tys_ok rfl rfl rfl Tryz.func19 (by kernel_rfl) rfl (by kernel_rfl) ?_
  have h60 := h.l
  have hpl := pks_len p
  (repeat' (conv => whnf); first | (refine aC (fun _ => ?_) (fun _ => ?_) <;> try (exfalso; omega)) | refine z1_O2 ?_ | fail); all_goals try (conv => whnf)
  refine LoopOb.mk (Y := Nat) (st := fun i => ⟨[(17, i64 i), (16, i64 (pks p).length), (15, .psl 3 (pks p)), (8, i64 (worF n p (dR ms) f i).a), (9, i64 (worF n p (dR ms) f i).d), (10, .bl (worF n p (dR ms) f i).b), (6, .ptr 1 0), (4, .ptr 0 0), (1, .psl 3 (pks p)), (3, i64 f)], [nbx n, .box [.psl 1 (trs ms)]]⟩)
    (inv := fun i => i ≤ p.length) (fun i => p.length - i) 0 [0, 1] (by omega) (by (exact aL)) ?_
  rintro i hi
  by_cases hil : i < p.length
  · have hg := pks_get hil
    have cE := OEnd_ok n hn p h ms hm i
    have hnx : worF n p (dR ms) f (i + 1) = match enO n p (dR ms) i with
      | none => worF n p (dR ms) f i
      | some d => if (p.getD i pk0).f = f ∧ ((worF n p (dR ms) f i).b = false ∨ (worF n p (dR ms) f i).d < d) then ⟨i, d, true⟩ else worF n p (dR ms) f i := rfl
    generalize p.getD i pk0 = x at *
    generalize worF n p (dR ms) f i = s at *
    obtain ⟨sa, sd, sb⟩ := s
    dsimp only at hnx ⊢
    cases he : enO n p (dR ms) i with
    | none =>
      rw [he] at cE hnx
      simp only [arrT] at cE hnx
      (repeat' (conv => whnf); first | refine ⟨i, _, rfl, hg, ?_⟩ | (refine aC (fun _ => ?_) (fun _ => ?_) <;> try (exfalso; omega)) | refine z1_O2 ?_ | (refine aK [] cE ?_) | fail); all_goals try (conv => whnf)
      all_goals exact ⟨i + 1, [0, 1], by omega, by omega, by rw [hnx]; (exact aL)⟩
    | some d =>
      rw [he] at cE hnx
      simp only [arrT] at cE hnx
      cases sb
      · (repeat' (conv => whnf); first | refine ⟨i, _, rfl, hg, ?_⟩ | (refine aC (fun _ => ?_) (fun _ => ?_) <;> try (exfalso; omega)) | refine z1_O2 ?_ | (refine aK [] cE ?_) | fail); all_goals try (conv => whnf)
        all_goals first
          | exact ⟨i + 1, [0, 1], by omega, by omega, by rw [hnx, if_neg (by omega)]; (exact aL)⟩
          | exact ⟨i + 1, [0, 1], by omega, by omega, by rw [hnx, if_pos ⟨by omega, .inl rfl⟩]; (exact aL)⟩
          | trace_state
      · have hnx2 := hnx
        simp only [Bool.true_eq_false, false_or] at hnx2
        (repeat' (conv => whnf); first | refine ⟨i, _, rfl, hg, ?_⟩ | (refine aC (fun _ => ?_) (fun _ => ?_) <;> try (exfalso; omega)) | refine z1_O2 ?_ | (refine aK [] cE ?_) | fail); all_goals try (conv => whnf)
        all_goals first
          | exact ⟨i + 1, [0, 1], by omega, by omega, by rw [hnx2, if_neg (by omega)]; (exact aL)⟩
          | exact ⟨i + 1, [0, 1], by omega, by omega, by rw [hnx2, if_pos ⟨by omega, by omega⟩]; (exact aL)⟩
          | trace_state
  · obtain rfl : i = p.length := by omega
    (repeat' (conv => whnf); first | (refine aC (fun _ => ?_) (fun _ => ?_) <;> try (exfalso; omega)) | refine z1_O2 ?_ | fail); all_goals try (conv => whnf)
    exact ⟨rfl, rfl⟩
def waiP (n : Nt) (p : List Pk) (D : Tp) (l c t : Int) (i : Nat) : Prop := ∃ a, arO n p D i (hop n (p.getD i pk0).f l) = some a ∧ a ≤ t ∧ (pfl n (p.getD i pk0)).cl = c ∧ ∀ d, dnO D i (hop n (p.getD i pk0).f l) = some d → t ≤ d
open Classical in
noncomputable def waiF (n : Nt) (p : List Pk) (D : Tp) (l c t : Int) : Nat → Int
 |0 => 0
 |i + 1 => waiF n p D l c t i + if waiP n p D l c t i then (p.getD i pk0).s else 0
theorem waiF_yes {n : Nt} {p : List Pk} {D : Tp} {l c t : Int} {i : Nat} (h : waiP n p D l c t i) : waiF n p D l c t (i + 1) = waiF n p D l c t i + (p.getD i pk0).s := by
 rw [waiF, if_pos h]
theorem waiF_no {n : Nt} {p : List Pk} {D : Tp} {l c t : Int} {i : Nat} (h : ¬waiP n p D l c t i) : waiF n p D l c t (i + 1) = waiF n p D l c t i := by
 rw [waiF, if_neg h, Int.add_zero]
theorem waiF_bd {n : Nt} {p : List Pk} (h : SkP n p) {D : Tp} {l c t : Int} : ∀ i, i ≤ p.length → 0 ≤ waiF n p D l c t i ∧ waiF n p D l c t i ≤ 1500 * i
  | 0, _ => ⟨Int.le_refl _, Int.le_refl _⟩
  | i + 1, hi => by
    have ih := waiF_bd h (D := D) (l := l) (c := c) (t := t) i (by omega)
    obtain ⟨_, _, _, _, hRt, s1, s2⟩ := h.fl (i := i) (by omega)
    have b1 := hRt.s1
    have b2 := hRt.s2
    by_cases hw : waiP n p D l c t i
    · rw [waiF_yes hw]; omega
    · rw [waiF_no hw]; omega
theorem OWai_ok (n : Nt) (hn : NL n) (p : List Pk) (h : SkP n p) (ms : List (List Int)) (hm : MsL ms) (l c t : Int) : Ctr Tryz.prog 22 [ntv n, .psl 3 (pks p), .agg [.psl 1 (trs ms)], i64 l, i64 c, i64 t] [] (fun r o => o = [] ∧ r = i64 (waiF n p (dR ms) l c t p.length)) := by
  refine fn_intro (E := env 0) tys_ok rfl rfl rfl Tryz.func22 (by kernel_rfl) rfl (by kernel_rfl) ?_
  have h60 := h.l
  have hpl := pks_len p
  have hfl := fll n.fl
  have hwb := fun i (hi : i ≤ p.length) => waiF_bd h (D := dR ms) (l := l) (c := c) (t := t) i hi
  (repeat' (conv => whnf); first | (refine aC (fun _ => ?_) (fun _ => ?_) <;> try (exfalso; omega)) | refine z1_O2 ?_ | fail); all_goals try (conv => whnf)
  refine LoopOb.mk (Y := Nat) (st := fun i => ⟨[(23, i64 i), (22, i64 (pks p).length), (21, .psl 3 (pks p)), (13, i64 (waiF n p (dR ms) l c t i)), (8, .ptr 1 0), (6, .ptr 0 0), (1, .psl 3 (pks p)), (3, i64 l), (4, i64 c), (5, i64 t)], [nbx n, .box [.psl 1 (trs ms)]]⟩)
    (inv := fun i => i ≤ p.length) (fun i => p.length - i) 0 [0, 1] (by omega) (by (exact aL)) ?_
  rintro i hi
  have hb := hwb i hi
  by_cases hil : i < p.length
  · have hg := pks_get hil
    obtain ⟨f1, f2, _, _, hRt, s1, s2⟩ := h.fl hil
    have hfg := flg (l := n.fl) (i := (p.getD i pk0).f.toNat) (by omega)
    have b1 := hRt.s1
    have b2 := hRt.s2
    have cA := Arr_ok n hn p (by omega) ms hm i (hop n (p.getD i pk0).f l)
    have cD := ODone_ok ms hm i (hop n (p.getD i pk0).f l)
    have hy := fun hw => waiF_yes (n := n) (p := p) (D := dR ms) (l := l) (c := c) (t := t) (i := i) hw
    have hno := fun hw => waiF_no (n := n) (p := p) (D := dR ms) (l := l) (c := c) (t := t) (i := i) hw
    unfold waiP at hy hno
    unfold pfl at hy hno
    generalize arO n p (dR ms) i (hop n (p.getD i pk0).f l) = ao at *
    generalize dnO (dR ms) i (hop n (p.getD i pk0).f l) = dn at *
    generalize waiF n p (dR ms) l c t i = w at *
    have cH := Hop_ok n hn (p.getD i pk0).f l
    generalize hop n (p.getD i pk0).f l = hh at *
    generalize n.fl.getD (p.getD i pk0).f.toNat fl0 = fw at *
    generalize p.getD i pk0 = x at *
    cases ao with
    | none =>
      have e := hno fun ⟨a, h1, _⟩ => by cases h1
      simp only [arrT] at cA
      (repeat' (conv => whnf); first | refine ⟨i, _, rfl, hg, ?_⟩ | (refine aC (fun _ => ?_) (fun _ => ?_) <;> try (exfalso; omega)) | refine z1_O2 ?_ | (refine aK [] cH ?_) | (refine aK [] cA ?_) | fail); all_goals try (conv => whnf)
      all_goals exact ⟨i + 1, [0, 1], by omega, by omega, by rw [e]; (exact aL)⟩
    | some a =>
      simp only [arrT] at cA
      cases dn with
      | none =>
        simp only [arrT] at cD
        have hy2 := fun (_ : Unit) (h1 : a ≤ t) (h2 : fw.cl = c) => hy ⟨a, rfl, h1, h2, fun d hd => by cases hd⟩
        have hno2 := fun (_ : Unit) (h1 : ¬(a ≤ t ∧ fw.cl = c)) => hno fun ⟨a', e, h2, h3, _⟩ => h1 ⟨by injection e with e; omega, h3⟩
        clear hy hno
        (repeat' (conv => whnf); first | refine ⟨x.f.toNat, _, by omega, hfg, ?_⟩ | refine ⟨i, _, rfl, hg, ?_⟩ | (refine aC (fun _ => ?_) (fun _ => ?_) <;> try (exfalso; omega)) | refine z1_O2 ?_ | (refine aK [] cH ?_) | (refine aK [] cA ?_) | (refine aK [] cD ?_) | fail); all_goals try (conv => whnf)
        all_goals first
          | exact ⟨i + 1, [0, 1], by omega, by omega, by rw [hy2 () (by omega) (by omega)]; (exact aL)⟩
          | exact ⟨i + 1, [0, 1], by omega, by omega, by rw [hno2 () (by omega)]; (exact aL)⟩
          | trace_state
      | some d =>
        simp only [arrT] at cD
        have hy2 := fun (_ : Unit) (h1 : a ≤ t) (h2 : fw.cl = c) (h3 : t ≤ d) => hy ⟨a, rfl, h1, h2, fun d' hd => by injection hd with hd; omega⟩
        have hno2 := fun (_ : Unit) (h1 : ¬(a ≤ t ∧ fw.cl = c ∧ t ≤ d)) => hno fun ⟨a', e, h2, h3, h4⟩ => h1 ⟨by injection e with e; omega, h3, h4 d rfl⟩
        clear hy hno
        (repeat' (conv => whnf); first | refine ⟨x.f.toNat, _, by omega, hfg, ?_⟩ | refine ⟨i, _, rfl, hg, ?_⟩ | (refine aC (fun _ => ?_) (fun _ => ?_) <;> try (exfalso; omega)) | refine z1_O2 ?_ | (refine aK [] cH ?_) | (refine aK [] cA ?_) | (refine aK [] cD ?_) | fail); all_goals try (conv => whnf)
        all_goals first
          | exact ⟨i + 1, [0, 1], by omega, by omega, by rw [hy2 () (by omega) (by omega) (by omega)]; (exact aL)⟩
          | exact ⟨i + 1, [0, 1], by omega, by omega, by rw [hno2 () (by omega)]; (exact aL)⟩
          | trace_state
  · obtain rfl : i = p.length := by omega
    (repeat' (conv => whnf); first | (refine aC (fun _ => ?_) (fun _ => ?_) <;> try (exfalso; omega)) | refine z1_O2 ?_ | fail); all_goals try (conv => whnf)
    exact ⟨rfl, rfl⟩
end Go.Proofs.YtaomhdljcdadaaaGreat
end
section
namespace Go.Proofs.YtaomhdljcdadaaaGreat
open Go.Sx Go.Cv
set_option maxRecDepth 4000
structure Bd (vs : List Int) (p : Nat) (q : Int) : Prop where
 p1 : 1 ≤ p
 pn : p ≤ vs.length
 n : vs.length ≤ 2000
 q0 : 0 ≤ q
 q1 : q ≤ 1099511627776
 v : ∀ j, 0 ≤ vs.getD j 0 ∧ vs.getD j 0 ≤ 4611686018427387904
theorem at_idx {n p t : Nat} (ht : n ≤ t) (hp : 1 ≤ p) (hp2 : p ≤ n) : ((t - n) / p + 1) * p ≤ t ∧ t - ((t - n) / p + 1) * p < n ∧ n - p ≤ t - ((t - n) / p + 1) * p := by
 have h1 := Nat.div_add_mod (t - n) p
 have h2 := Nat.mod_lt (t - n) hp
 have h3 : ((t - n) / p + 1) * p = p * ((t - n) / p) + p := by rw [Nat.add_mul, Nat.one_mul, Nat.mul_comm]
 omega
theorem mul_bd {a b A B : Int} (ha : 0 ≤ a) (ha2 : a ≤ A) (hb : 0 ≤ b) (hb2 : b ≤ B) : 0 ≤ a * b ∧ a * b ≤ A * B :=
 ⟨Int.mul_nonneg ha hb, Int.mul_le_mul ha2 hb2 hb (by omega)⟩
end Go.Proofs.YtaomhdljcdadaaaGreat
end
section
namespace Go.Proofs.YtaomhdljcdadaaaGreat
open Go.Sx Go.Cv
set_option maxRecDepth 4000
theorem val_bd {vs : List Int} {p : Nat} {q : Int} (hb : Bd vs p q) {t : Nat} (ht : t ≤ 1048576) : 0 ≤ val vs p q t ∧ val vs p q t ≤ 6000000000000000000 := by
 obtain ⟨p1, pn, hn, q0, q1, hv⟩ := hb
 by_cases h : t < vs.length
 ·rw [val_lt h]; have := hv t; omega
 ·simp only [val]
  rw [if_neg h]
  have hd : (t - vs.length) / p ≤ t - vs.length := Nat.div_le_self _ _
  generalize (t - vs.length) / p = k at *
  have hkq := mul_bd (a := ((k + 1 : Nat) : Int)) (b := q) (A := 1048577) (B := 1099511627776) (by omega) (by omega) (by omega) (by omega)
  have hv1 := hv (t - (k + 1) * p)
  split <;> omega
end Go.Proofs.YtaomhdljcdadaaaGreat
end
section
namespace Go.Proofs.YtaomhdljcdadaaaGreat
open Go.Sx Go.Cv
set_option maxRecDepth 4000
theorem bd_of {vs p q} (h : VF vs p q) : Bd vs p q := ⟨h.p1, h.pn, by have := h.n2; omega, h.q0, by have := h.q1; omega, fun j => by
 by_cases hj : j < vs.length
 ·have := h.v j hj; simp only [INF] at this; omega
 ·rw [List.getD_eq_getElem?_getD, List.getElem?_eq_none (by omega)]; simp⟩
end Go.Proofs.YtaomhdljcdadaaaGreat
end
section
namespace Go.Proofs.YtaomhdljcdadaaaGreat
open Go.Sx Go.Cv
set_option maxRecDepth 4000
def rowsAt (F : Nat → Int) (t N : Nat) : List Int := vals F t ++ List.replicate (N - t) 0
theorem rowsAt_len (F : Nat → Int) {t N : Nat} (h : t ≤ N) : (rowsAt F t N).length = N := by simp [rowsAt, vals_len]; omega
theorem rowsAt_set (F : Nat → Int) {t N : Nat} (h : t < N) : (ints (rowsAt F t N)).set t [i64 (F t)] = ints (rowsAt F (t + 1) N) := by
 have e : N - t = (N - (t + 1)) + 1 := by omega
 simp only [rowsAt, e, List.replicate_succ]
 simp only [ints, List.map_append, List.map_cons, vals_succ]
 rw [List.set_append_right _ _ (by simp [vals])]
 simp [vals]
theorem rowsAt_full (F : Nat → Int) (N : Nat) : rowsAt F N N = vals F N := by simp [rowsAt]
theorem rowsAt_zero (F : Nat → Int) (N : Nat) : ints (rowsAt F 0 N) = List.replicate N [i64 0] := by simp [rowsAt, vals, ints]
end Go.Proofs.YtaomhdljcdadaaaGreat
end
