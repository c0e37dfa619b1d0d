/- Lemmas that the proofs of this seat use (Qa). Conditions: those that stand in each theorem. -/
import Derived.Test.YtaomhdljcdadaaaGreatS4
set_option linter.unusedVariables false
set_option linter.unusedSimpArgs false
namespace Go.Proofs.YtaomhdljcdadaaaGreat
open Go.Sx Go.Pk Go.Mc
set_option maxRecDepth 4000
set_option maxHeartbeats 2000000
theorem RFa_ok (p : List Pk) (hp : p.length ≤ 1000) (t : Nat) (now : Int) (G dn : Nat → Int) (ms : List (List Int)) (bg : Nat → Bool) (hb : ∀ i, wt p t (bgO G now) i = wt p t bg i) :
  Ctr Tryz.prog 169 [stV t now, .psl 3 (pks p), i64 (-1)] (stO p.length G dn ms) (fun r o => o = stO p.length G dn ms ∧ r = i64 (oI (fst (wt p t bg) p.length))) :=
 RFirst_ok p hp t now G dn ms (-1) (wt p t bg) fun j hj => by rw [hb]; simp
theorem RFc_ok (p : List Pk) (hp : p.length ≤ 1000) (t : Nat) (now : Int) (G dn : Nat → Int) (ms : List (List Int)) (bg : Nat → Bool) (hb : ∀ i, wt p t (bgO G now) i = wt p t bg i) (c : Int) (hc : c ≠ -1) :
  Ctr Tryz.prog 169 [stV t now, .psl 3 (pks p), i64 c] (stO p.length G dn ms) (fun r o => o = stO p.length G dn ms ∧ r = i64 (oI (fc p (wt p t bg) c))) :=
 RFirst_ok p hp t now G dn ms c (fun i => wt p t bg i && decide (cl p i = c)) fun j hj => by rw [hb, Bool.and_eq_true, decide_eq_true_iff]; exact ⟨fun h => ⟨.inr h.2, h.1⟩, fun h => ⟨h.2, h.1.resolve_left hc⟩⟩
theorem aP_Qa {A B K : Prop} (k : K) (a : A := by (simp only [zA, zT, zD, zC, zN, ints_len, zR, Go.Cv.vals_len]; omega)) (b : B := by (simp only [zA, zT, zD, zC, zN, ints_len, zR, Go.Cv.vals_len]; omega)) : (A ∧ B) ∧ K := ⟨⟨a, b⟩, k⟩
theorem z1_Qa {G H : Prop} (k : H) (h : H → G := by first | exact fun r => aS r | exact fun r => aG r | exact fun r => aD r | exact fun r => aH r | exact fun r => aP_Qa r | exact fun r => aI r | exact fun r => aJ r) : G := h k
theorem DChoP_ok (p : List Pk) (hp : p.length ≤ 1000) (N : Nat) (hN : N ≤ 6) (t : Nat) (now : Int) (G dn : Nat → Int) (ms : List (List Int)) (bg : Nat → Bool) (hb : ∀ i, wt p t (bgO G now) i = wt p t bg i) :
    Ctr Tryz.prog 165 [stV t now, .psl 3 (pks p), i64 N] (stO p.length G dn ms) (fun r o => o = stO p.length G dn ms ∧ r = i64 (oI (pri (fc p (wt p t bg)) N))) := by
  refine fn_intro (E := env 3) tys_ok rfl rfl rfl Tryz.func165 (by kernel_rfl) rfl (by kernel_rfl) ?_
  (repeat' (conv => whnf); first | (refine aC (fun _ => ?_) (fun _ => ?_) <;> try (exfalso; omega)) | refine z1_Qa ?_ | fail); all_goals try (conv => whnf)
  refine LoopOb.mk (Y := Nat) (st := fun c => ⟨[(7, i64 c), (3, .ptr 3 0), (1, .psl 3 (pks p)), (2, i64 N)], stO p.length G dn ms ++ [.box [i64 t, .vec 0, i64 now, .vec 1, .vec 2]]⟩)
    (inv := fun c => c ≤ N ∧ ∀ d : Nat, d < c → fc p (wt p t bg) d = none) (fun c => N - c) 0 [0, 1, 2, 3] ⟨by omega, fun d hd => by omega⟩ (by (exact aL)) ?_
  rintro c ⟨hc, hn⟩
  by_cases hlt : c < N
  · (repeat' (conv => whnf); first | (refine aC (fun _ => ?_) (fun _ => ?_) <;> try (exfalso; omega)) | refine z1_Qa ?_ | fail); all_goals try (conv => whnf)
    refine aK [0, 1, 2] (RFc_ok p hp t now G dn ms bg hb c (by omega)) ?_
    cases hf : fc p (wt p t bg) c with
    | some i =>
      have hon : oI (some i) = i := rfl
      have e := pri_le hn hf (n := N) (by omega)
      rw [hon]
      (repeat' (conv => whnf); first | (refine aC (fun _ => ?_) (fun _ => ?_) <;> try (exfalso; omega)) | refine z1_Qa ?_ | fail); all_goals try (conv => whnf)
      exact ⟨rfl, by rw [e]; rfl⟩
    | none =>
      have hon : oI none = -1 := rfl
      rw [hon]
      (repeat' (conv => whnf); first | (refine aC (fun _ => ?_) (fun _ => ?_) <;> try (exfalso; omega)) | refine z1_Qa ?_ | fail); all_goals try (conv => whnf)
      exact ⟨c + 1, [0, 1, 2, 3], ⟨by omega, fun d hd => by
        by_cases e : d = c
        · subst e; exact hf
        · exact hn d (by omega)⟩, by omega, by (exact aL)⟩
  · (repeat' (conv => whnf); first | (refine aC (fun _ => ?_) (fun _ => ?_) <;> try (exfalso; omega)) | refine z1_Qa ?_ | fail); all_goals try (conv => whnf)
    obtain rfl : N = c := by omega
    have e := pri_none.2 hn
    exact ⟨rfl, by rw [e]; rfl⟩
theorem rob_yes {p : List Pk} {wl : List Int} {N : Nat} (hN : 1 ≤ N) (hw : WgP wl N 6000) (hcl : ∀ i, i < p.length → 0 ≤ cl p i ∧ cl p i < N) {t left : Nat} {bg : Nat → Bool} {s : Nat × Int} (s1 : s.1 < N) (h : fst (wt p t bg) p.length ≠ none) :
    (rob (fc p (wt p t bg)) (fun c => wl.getD c 0) N (N + 2) s).2 ≠ none ∧ (robinC wl).ch p t left (wt p t bg) s = rob (fc p (wt p t bg)) (fun c => wl.getD c 0) N (N + 2) s := by
  have h1 : (rob (fc p (wt p t bg)) (fun c => wl.getD c 0) N (N + 2) s).2 ≠ none := by
    cases hf : fst (wt p t bg) p.length with
    | none => exact absurd hf h
    | some i =>
      obtain ⟨f1, f2, f3⟩ := fst_some.1 hf
      obtain ⟨c1, c2⟩ := hcl i f1
      refine rob_ends hN (fun c hc => (hw.w c hc).1) (cs := (cl p i).toNat) (by omega) (fun hn => ?_) s1
      rw [Int.toNat_of_nonneg c1] at hn
      have := fc_none.1 hn i f1 rfl
      rw [f2] at this; cases this
  refine ⟨h1, ?_⟩
  refine (if_neg h).trans ?_
  rw [hw.l]
  cases hr : (rob (fc p (wt p t bg)) (fun c => wl.getD c 0) N (N + 2) s).2 with
  | none => exact absurd hr h1
  | some i => exact Prod.ext rfl hr.symm
abbrev rdV (s : Nat × Int) : SV := .agg [i64 s.1, i64 s.2]
theorem DChoR_ok (p : List Pk) (hp : p.length ≤ 1000) (wl : List Int) (N : Nat) (hN : 1 ≤ N) (hN2 : N ≤ 6) (hw : WgP wl N 6000) (t : Nat) (now : Int) (G dn : Nat → Int) (ms : List (List Int)) (bg : Nat → Bool) (hb : ∀ i, wt p t (bgO G now) i = wt p t bg i)
    (s : Nat × Int) (s1 : s.1 < N) (s2 : 0 ≤ s.2) (s3 : s.2 ≤ 6000) (hne : (rob (fc p (wt p t bg)) (fun c => wl.getD c 0) N (N + 2) s).2 ≠ none) :
    Ctr Tryz.prog 170 [rdV s, stV t now, .psl 1 (ints wl), .psl 3 (pks p)] (stO p.length G dn ms) (fun r o => o = stO p.length G dn ms ∧ r = .tup [rdV (rob (fc p (wt p t bg)) (fun c => wl.getD c 0) N (N + 2) s).1, i64 (oI (rob (fc p (wt p t bg)) (fun c => wl.getD c 0) N (N + 2) s).2)]) := by
  refine fn_intro (E := env 3) tys_ok rfl rfl rfl Tryz.func170 (by kernel_rfl) rfl (by kernel_rfl) ?_
  have hil := ints_len wl
  have hwl := hw.l
  generalize hW : rob (fc p (wt p t bg)) (fun c => wl.getD c 0) N (N + 2) s = W at *
  (repeat' (conv => whnf); first | (refine aC (fun _ => ?_) (fun _ => ?_) <;> try (exfalso; omega)) | refine z1_Qa ?_ | fail); all_goals try (conv => whnf)
  refine LoopOb.mk (Y := Nat × Nat × Int) (st := fun y => ⟨[(5, .ptr 4 0), (4, .ptr 3 0), (8, .ptr 5 0), (2, .psl 1 (ints wl)), (3, .psl 3 (pks p))], stO p.length G dn ms ++ [.box [i64 y.2.1, i64 y.2.2], .box [i64 t, .vec 0, i64 now, .vec 1, .vec 2], .box [i64 0, i64 0]]⟩)
    (inv := fun y => y.2.1 < N ∧ 0 ≤ y.2.2 ∧ y.2.2 ≤ 6000 ∧ rob (fc p (wt p t bg)) (fun c => wl.getD c 0) N y.1 y.2 = W) (fun y => y.1) (N + 2, s) [0, 1, 2, 3, 4, 5] ⟨s1, s2, s3, hW⟩ (by (exact aL)) ?_
  clear hW s1 s2 s3
  clear s
  rintro ⟨k, c, l⟩ ⟨h1, h2, h3, hr⟩
  dsimp only at h1 h2 h3 hr ⊢
  obtain ⟨k, rfl⟩ : ∃ k', k = k' + 1 := by
    cases k with
    | zero => rw [← hr] at hne; exact absurd rfl hne
    | succ k => exact ⟨k, rfl⟩
  rw [rob] at hr
  have hn1 : (c + 1) % N < N := Nat.mod_lt _ hN
  have hn2 := hw.w _ hn1
  have hgv := ints_get (l := wl) (j := (c + 1) % N) (by omega)
  have etm : ((c : Int) + 1).tmod (ints wl).length = ((c + 1) % N : Nat) := by rw [hil, hwl, Int.tmod_eq_emod_of_nonneg (by omega)]; rfl
  (repeat' (conv => whnf); first | (refine aC (fun _ => ?_) (fun _ => ?_) <;> try (exfalso; omega)) | refine z1_Qa ?_ | fail); all_goals try (conv => whnf)
  refine aK [0, 1, 2] (RFc_ok p hp t now G dn ms bg hb c (by omega)) ?_
  dsimp only at hr
  cases hf : fc p (wt p t bg) c with
  | some i =>
    have ho3 : oI (some i) = i := rfl
    rw [hf] at hr
    dsimp only at hr
    rw [ho3]
    by_cases hl : 0 < l
    · rw [if_pos hl] at hr
      (repeat' (conv => whnf); first | (refine aC (fun _ => ?_) (fun _ => ?_) <;> try (exfalso; omega)) | refine z1_Qa ?_ | fail); all_goals try (conv => whnf)
      exact ⟨rfl, by rw [← hr]; rfl⟩
    · rw [if_neg hl] at hr
      (repeat' (conv => whnf); first | (refine aC (fun _ => ?_) (fun _ => ?_) <;> try (exfalso; omega)) | refine z1_Qa ?_ | refine And.intro (by omega) ?_ | refine ⟨(c + 1) % N, _, etm, hgv, ?_⟩ | fail); all_goals try (conv => whnf)
      exact ⟨(k, (c + 1) % N, wl.getD ((c + 1) % N) 0), [0, 1, 2, 3, 4, 5], ⟨hn1, by dsimp only; omega, by dsimp only; omega, hr⟩, by dsimp only; omega, by rw [etm]; (exact aL)⟩
  | none =>
    have ho3 : oI none = -1 := rfl
    rw [hf] at hr
    dsimp only at hr
    rw [ho3]
    (repeat' (conv => whnf); first | (refine aC (fun _ => ?_) (fun _ => ?_) <;> try (exfalso; omega)) | refine z1_Qa ?_ | refine And.intro (by omega) ?_ | refine ⟨(c + 1) % N, _, etm, hgv, ?_⟩ | fail); all_goals try (conv => whnf)
    exact ⟨(k, (c + 1) % N, wl.getD ((c + 1) % N) 0), [0, 1, 2, 3, 4, 5], ⟨hn1, by dsimp only; omega, by dsimp only; omega, hr⟩, by dsimp only; omega, by rw [etm]; (exact aL)⟩
end Go.Proofs.YtaomhdljcdadaaaGreat
