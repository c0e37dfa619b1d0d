/-
  A text of the proofs of this seat: lemmas that the statements' proofs use; it states nothing of the program by itself beyond the contracts that its theorems bear. Conditions: those that stand in each theorem. Its short name: Mba Mbb Fz.
-/
import Derived.Test.YtaomhdljcdadaaaGreatMz
import Derived.Test.YtaomhdljcdadaaaGreatV2
import Derived.Test.YtaomhdljcdadaaaGreatSxC
import Derived.Test.YtaomhdljcdadaaaGreatSo7
set_option linter.unusedVariables false
set_option linter.unusedSimpArgs false
section
namespace Go.Mc
open Go.Pk Go.Np
/-! everything is sent in time, on lines in the order of arrival -/
theorem sumN_swap {f : Nat → Nat → Nat} {n : Nat} : ∀ m, sumN (fun l => sumN (fun i => f l i) n) m = sumN (fun i => sumN (fun l => f l i) m) n
  | 0 => by
    have : ∀ k, sumN (fun i => sumN (fun l => f l i) 0) k = 0 := by
      intro k; induction k with
      | zero => rfl
      | succ k ih => simp only [sumN] at *; omega
    rw [this]; rfl
  | m + 1 => by
    have hadd : ∀ (g h : Nat → Nat) k, sumN (fun i => g i + h i) k = sumN g k + sumN h k := by
      intro g h k; induction k with
      | zero => rfl
      | succ k ih => simp only [sumN] at *; omega
    show sumN (fun l => sumN (fun i => f l i) n) m + sumN (fun i => f m i) n = _
    rw [sumN_swap m, ← hadd]
    rfl
theorem sumN_list {s : Nat → Nat} {P : Nat → Bool} {n : Nat} : ∀ (L : List Nat), L.Nodup → (∀ x ∈ L, x < n ∧ P x = true) → (L.map s).sum ≤ sumN (fun i => if P i = true then s i else 0) n
  | [], _, _ => Nat.zero_le _
  | x :: L, hn, h => by
    rw [List.nodup_cons] at hn
    obtain ⟨h1, h2⟩ := h x (by simp)
    have ih := sumN_list (s := s) (P := fun i => P i && decide (i ≠ x)) (n := n) L hn.2 fun y hy => ⟨(h y (by simp [hy])).1, by
      simp only [Bool.and_eq_true, decide_eq_true_eq]
      exact ⟨(h y (by simp [hy])).2, fun e => hn.1 (e ▸ hy)⟩⟩
    have hu := sumN_upd (F := fun i => if P i = true then s i else 0) (G := fun i => if (P i && decide (i ≠ x)) = true then s i else 0) h1 fun j hj _ => by
      simp [hj]
    simp only [h2, if_true, ne_eq, not_true_eq_false, decide_false, Bool.and_false, Bool.false_eq_true, if_false] at hu
    rw [List.map_cons, List.sum_cons]
    simp only [ne_eq] at ih
    omega
theorem sumN_in {v : Nat} {n : Nat} : ∀ (L : List Nat), sumN (fun l => if l ∈ L then v else 0) n ≤ L.length * v
  | [] => by
    have : ∀ k, sumN (fun l => if l ∈ ([] : List Nat) then v else 0) k = 0 := by
      intro k; induction k with
      | zero => rfl
      | succ k ih => simp only [sumN] at *; rw [ih]; simp
    rw [this]; exact Nat.zero_le _
  | x :: L => by
    have ih := sumN_in (v := v) (n := n) L
    have hone : ∀ k, sumN (fun l => if l = x then v else 0) k ≤ v := by
      intro k
      have : ∀ k, k ≤ x → sumN (fun l => if l = x then v else 0) k = 0 := by
        intro k; induction k with
        | zero => intro _; rfl
        | succ k ih => intro h; simp only [sumN] at *; rw [ih (by omega), if_neg (by omega)]
      induction k with
      | zero => exact Nat.zero_le _
      | succ k ihk =>
        simp only [sumN]
        by_cases e : k = x
        · subst e; rw [if_pos rfl, this k (Nat.le_refl _)]; omega
        · rw [if_neg e]; exact ihk
    have hadd : ∀ k, sumN (fun l => if l ∈ x :: L then v else 0) k ≤ sumN (fun l => if l = x then v else 0) k + sumN (fun l => if l ∈ L then v else 0) k := by
      intro k; induction k with
      | zero => exact Nat.zero_le _
      | succ k ihk =>
        simp only [sumN, List.mem_cons] at *
        by_cases e1 : k = x
        · rw [if_pos (.inl e1), if_pos e1]; omega
        · by_cases e2 : k ∈ L
          · rw [if_pos (.inr e2), if_pos e2, if_neg e1]; omega
          · rw [if_neg (fun h => h.elim e1 e2), if_neg e1, if_neg e2]; omega
    have := hadd n
    have := hone n
    rw [List.length_cons, Nat.add_mul]; omega
theorem sumN_cons {G : Nat → Nat} : ∀ n, sumN G (n + 1) = G 0 + sumN (fun i => G (i + 1)) n
  | 0 => by simp [sumN]
  | n + 1 => by
    have := sumN_cons (G := G) n
    simp only [sumN] at *
    omega
theorem sumN_map {s : Nat → Nat} : ∀ {q : List Wt} {G : Nat → Nat}, (∀ k (hk : k < q.length), G k = s q[k].i) → sumN G q.length = ((q.map (·.i)).map s).sum
  | [], _, _ => rfl
  | x :: q, G, h => by
    rw [List.length_cons, sumN_cons, h 0 (by simp), sumN_map (q := q) (G := fun i => G (i + 1)) fun k hk => h (k + 1) (by simp; omega)]
    simp
theorem sumN_strict {f g : Nat → Nat} {j : Nat} : ∀ {n : Nat}, (∀ i, i < n → f i ≤ g i) → j < n → f j + 1 ≤ g j → sumN f n + 1 ≤ sumN g n
  | n + 1, h, hj, hlt => by
    simp only [sumN]
    rcases Nat.lt_succ_iff_lt_or_eq.1 hj with c | c
    · have := sumN_strict (f := f) (g := g) (n := n) (fun i hi => h i (by omega)) c hlt
      have := h n (by omega)
      omega
    · subst c
      have := sumN_le (F := f) (G := g) (n := j) fun i hi => h i (by omega)
      omega
theorem fifo_busy1 {p : List Pk} (hp : Asc p) {c t : Nat} {i : Nat} (hi : i < p.length) (ht : tm p i ≤ t) (h : (run fifoC p c t).dn i = -1) : (sel fifoC p t c (run fifoC p c t)).2 ≠ none := by
  unfold sel
  cases hc : (run fifoC p c t).cur with
  | some c0 => simp
  | none =>
    simp only
    have hI := run_inv hp (C := fifoC) (c := c) t
    have hb : (run fifoC p c t).bg i = false := by
      cases hb : (run fifoC p c t).bg i with
      | false => rfl
      | true =>
        obtain ⟨r, hr⟩ := hI.e i hb h
        rw [hc] at hr; cases hr
    cases hf : (fifoC.ch p t c (wt p t (run fifoC p c t).bg) (run fifoC p c t).s).2 with
    | some j => simp
    | none =>
      have : fst (wt p t (run fifoC p c t).bg) p.length = none := hf
      have := fst_none.1 this i hi
      have h2 := wt_iff.2 ⟨hi, ht, hb⟩
      rw [h2] at this; cases this
theorem ph_le {C : Ch} {p : List Pk} (hp : Asc p) (hs : Pos p) {c : Nat} : ∀ t, Ph p 1 (run C p c t) ≤ byt p
  | 0 => sumN_le fun i _ => by
      unfold ph
      simp [run]
  | t + 1 => Nat.le_trans (tk_ph hp hs 1 c (run_inv hp (C := C) (c := c) t).inT (run_rs hp hs t)).2.1 (ph_le hp hs t)
theorem tr_ends {F : Tf} {Z : Li} {N last : Nat} (hR : Rts F) (hL : LnP F Z) (hf : ∀ l, l < Z.n → Z.C l = fifoC ∧ 1 ≤ Z.c l) (hs : ∀ i, i < F.np → 1 ≤ F.s i) (ht : ∀ i, i < F.np → F.t i ≤ last) (h4 : ∀ i, i < F.np → (F.rt i).length ≤ 4)
    (hN : last + 4 * sumN (fun i => (F.s i).toNat) F.np + 1 ≤ N) : ∀ i h, i < F.np → h < (F.rt i).length → 0 ≤ tr F Z N i h := by
  intro i0 h0 hi0 hh0
  refine Classical.byContradiction fun hneg => ?_
  have hq := fun l => qu_ok F (tr F Z N) l
  have hasc := fun l => pkq_asc (F := F) (hq l).o
  have hpos : ∀ l, Pos (pkq F (qu F (tr F Z N) l)) := fun l k hk => by
    rw [pkq_len] at hk
    unfold sz
    rw [pkq_at hk]
    have := hs _ (((hq l).m _).1 (List.getElem_mem hk)).1
    simp only; omega
  have step : ∀ t, last ≤ t → t < N → sumN (fun l => Ph (pkq F (qu F (tr F Z N) l)) 1 (run fifoC (pkq F (qu F (tr F Z N) l)) (Z.c l) (t + 1))) Z.n + 1 ≤ sumN (fun l => Ph (pkq F (qu F (tr F Z N) l)) 1 (run fifoC (pkq F (qu F (tr F Z N) l)) (Z.c l) t)) Z.n := by
    intro t h1 h2
    have least : ∀ m, m ≤ h0 → (¬(0 ≤ tr F Z N i0 m ∧ tr F Z N i0 m < t)) → ∃ h, h ≤ h0 ∧ ¬(0 ≤ tr F Z N i0 h ∧ tr F Z N i0 h < t) ∧ ∀ j, j < h → 0 ≤ tr F Z N i0 j ∧ tr F Z N i0 j < t := by
      intro m
      induction m using Nat.strongRecOn with
      | ind m ih =>
        intro hm hno
        by_cases hall : ∀ j, j < m → 0 ≤ tr F Z N i0 j ∧ tr F Z N i0 j < t
        · exact ⟨m, hm, hno, hall⟩
        · obtain ⟨j, hj⟩ := Classical.not_forall.1 hall
          obtain ⟨hj1, hj2⟩ := Classical.not_imp.1 hj
          exact ih j hj1 (by omega) hj2
    obtain ⟨h, hh, hno, hall⟩ := least h0 (Nat.le_refl _) (fun k => hneg k.1)
    have hhl : h < (F.rt i0).length := by omega
    obtain ⟨a, ha, hat⟩ : ∃ a : Int, arr F (tr F Z N) i0 h = some a ∧ a ≤ t := by
      unfold arr
      by_cases e : h = 0
      · rw [if_pos e]; exact ⟨_, rfl, by have := ht i0 hi0; omega⟩
      · rw [if_neg e, if_pos fun j hj => (hall j hj).1]
        exact ⟨_, rfl, by have := (hall (h - 1) (by omega)).2; omega⟩
    have hpl := hp_lin hR hi0 hhl
    have hm : (⟨a, F.fl i0, i0⟩ : Wt) ∈ qu F (tr F Z N) (lin F i0 h) := ((hq _).m _).2 ⟨hi0, ⟨h, hpl, ha⟩, rfl⟩
    have hlz := hL i0 h hi0 hhl
    have hD := tr_con hR Z N i0 h hi0 hhl
    generalize lin F i0 h = l at *
    obtain ⟨k, hk, hke⟩ := List.mem_iff_getElem.1 hm
    have hpc := (hq l).plc hk
    rw [hke] at hpc
    unfold pas at hD
    rw [hpc, (hf l hlz).1] at hD
    simp only at hD
    have hkp : k < (pkq F (qu F (tr F Z N) l)).length := by rw [pkq_len]; exact hk
    have hdn : (run fifoC (pkq F (qu F (tr F Z N) l)) (Z.c l) t).dn k = -1 := by
      rw [run_cut (hasc l) (Nat.le_of_lt h2), ← hD, if_neg hno]
    have htm : tm (pkq F (qu F (tr F Z N) l)) k ≤ t := by
      unfold tm
      rw [pkq_at hk, hke]; exact hat
    have hb := fifo_busy1 (hasc l) (c := Z.c l) hkp htm hdn
    refine sumN_strict (j := l) (fun m hm => (tk_ph (hasc m) (hpos m) 1 (Z.c m) (run_inv (hasc m) (C := fifoC) (c := Z.c m) t).inT (run_rs (hasc m) (hpos m) t)).2.1) hlz ?_
    have := (tk_ph (hasc l) (hpos l) 1 (Z.c l) (run_inv (hasc l) (C := fifoC) (c := Z.c l) t).inT (run_rs (hasc l) (hpos l) t)).2.2 (hf l hlz).2 hb
    have e : run fifoC (pkq F (qu F (tr F Z N) l)) (Z.c l) (t + 1) = tk fifoC (pkq F (qu F (tr F Z N) l)) t (Z.c l) (run fifoC (pkq F (qu F (tr F Z N) l)) (Z.c l) t) := rfl
    simp only [e]
    omega
  have down : ∀ k, last + k ≤ N → sumN (fun l => Ph (pkq F (qu F (tr F Z N) l)) 1 (run fifoC (pkq F (qu F (tr F Z N) l)) (Z.c l) (last + k))) Z.n + k ≤ sumN (fun l => Ph (pkq F (qu F (tr F Z N) l)) 1 (run fifoC (pkq F (qu F (tr F Z N) l)) (Z.c l) last)) Z.n := by
    intro k
    induction k with
    | zero => intro _; exact Nat.le_refl _
    | succ k ih =>
      intro hk
      have := ih (by omega)
      have := step (last + k) (by omega) (by omega)
      rw [show last + k + 1 = last + (k + 1) by omega] at this
      omega
  have top : sumN (fun l => Ph (pkq F (qu F (tr F Z N) l)) 1 (run fifoC (pkq F (qu F (tr F Z N) l)) (Z.c l) last)) Z.n ≤ 4 * sumN (fun i => (F.s i).toNat) F.np := by
    have e1 : sumN (fun l => Ph (pkq F (qu F (tr F Z N) l)) 1 (run fifoC (pkq F (qu F (tr F Z N) l)) (Z.c l) last)) Z.n ≤ sumN (fun l => sumN (fun i => if decide (l ∈ F.rt i) = true then (F.s i).toNat else 0) F.np) Z.n := by
      refine sumN_le fun l _ => Nat.le_trans (ph_le (hasc l) (hpos l) last) ?_
      unfold byt
      rw [pkq_len, sumN_map (q := qu F (tr F Z N) l) (s := fun i => (F.s i).toNat) fun k hk => by unfold sz; rw [pkq_at hk]]
      refine sumN_list _ ?_ fun x hx => ?_
      · refine List.pairwise_iff_getElem.2 fun a b ha hb hab => ?_
        rw [List.length_map] at ha hb
        rw [List.getElem_map, List.getElem_map]
        intro e
        have := (hq l).inj ha hb e
        omega
      · obtain ⟨y, hy, rfl⟩ := List.mem_map.1 hx
        obtain ⟨a1, ⟨u, a2, _⟩, _⟩ := ((hq l).m y).1 hy
        refine ⟨a1, decide_eq_true ?_⟩
        unfold hp at a2
        split at a2
        · assumption
        · cases a2
    rw [sumN_swap] at e1
    refine Nat.le_trans e1 ?_
    have e2 : ∀ k, k ≤ F.np → sumN (fun i => sumN (fun l => if decide (l ∈ F.rt i) = true then (F.s i).toNat else 0) Z.n) k ≤ 4 * sumN (fun i => (F.s i).toNat) k := by
      intro k
      induction k with
      | zero => intro _; exact Nat.zero_le _
      | succ k ih =>
        intro hk
        have := ih (by omega)
        have h1 := sumN_in (v := (F.s k).toNat) (n := Z.n) (F.rt k)
        have h2 := Nat.mul_le_mul_right (F.s k).toNat (h4 k (by omega))
        simp only [sumN, decide_eq_true_eq] at *
        omega
    exact e2 F.np (Nat.le_refl _)
  have := down (N - last) (by omega)
  omega
end Go.Mc
end
section
namespace Go.Mc
open Go.Pk Go.Np
/-! a network whose lines send in the order of arrival -/
abbrev fzL (l : Ln) : Ln := ⟨1, l.c, 1, [], []⟩
def fzN (n : Nt) (g : Fl → Fl) : Nt := ⟨n.nm, n.ln.map fzL, n.fl.map g⟩
/- how flows may be changed -/
structure FzG (g : Fl → Fl) (f : Fl) : Prop where
  nm : (g f).nm = f.nm
  rt : (g f).rt = f.rt
  cl : (g f).cl = 0
  v : (g f).v = f.v ∧ (g f).p = f.p ∧ (g f).q = f.q
  s : 1 ≤ (g f).lo ∧ (g f).lo ≤ (g f).hi ∧ (g f).hi ≤ 1500
theorem map_getD {α β : Type} {g : α → β} {l : List α} {a : α} {b : β} {i : Nat} (h : i < l.length) : (l.map g).getD i b = g (l.getD i a) := by
  simp [List.getD_eq_getElem?_getD, h]
theorem fz_chk {n : Nt} {g : Fl → Fl} (h : chkN n = 0) (hg : ∀ f ∈ n.fl, FzG g f) : chkN (fzN n g) = 0 := by
  obtain ⟨h1, h2, h3, h4⟩ := chkN_zero h
  have hll : (fzN n g).ln.length = n.ln.length := List.length_map _
  have hfl : (fzN n g).fl.length = n.fl.length := List.length_map _
  refine chkN_ok (by rw [hll, hfl]; exact h1) (by rw [hll]; exact h2) ?_ ?_
  · intro j hj
    rw [hll] at hj
    have := h3 j hj
    have hln := chk_ln h hj
    have e : (fzN n g).ln.getD j ln0 = fzL (n.ln.getD j ln0) := map_getD hj
    have hz : lnErr (fzL (n.ln.getD j ln0)) = 0 := by
      unfold lnErr at hln
      split at hln
      · cases hln
      split at hln
      · cases hln
      unfold lnErr lsErr
      dsimp only
      rw [if_neg (by omega), if_neg (by omega), if_neg (by omega), if_neg (by simp)]
    unfold lineE at this ⊢
    rw [e, hz]
    show (if nmErr (n.nm.take j) (n.nm.getD j bs0) ≠ 0 then _ else _) = _
    split at this
    · exact absurd this (by assumption)
    · rename_i hc
      rw [if_neg hc]
  · intro j hj
    rw [hfl] at hj
    have := h4 j hj
    have e : (fzN n g).fl.getD j fl0 = g (n.fl.getD j fl0) := map_getD hj
    have hG := hg (n.fl.getD j fl0) (Go.Np.getD_in hj)
    have hR := chk_rt h hj
    have en : ((fzN n g).fl.take j).map (·.nm) = (n.fl.take j).map (·.nm) := by
      show ((n.fl.map g).take j).map (·.nm) = _
      rw [← List.map_take, List.map_map]
      refine List.map_congr_left fun f hf => ?_
      exact (hg f (List.mem_of_mem_take hf)).nm
    unfold flowE at this ⊢
    rw [e, en, hG.nm]
    split at this
    · exact absurd this (by assumption)
    · rename_i hc
      rw [if_neg hc]
      split at this
      · exact absurd this (by assumption)
      · have hr : routeE (fzN n g).ln (g (n.fl.getD j fl0)) = 0 := by
          unfold routeE
          rw [hG.rt, if_neg (by have := hR.l1; omega), if_neg (by have := hR.l2; omega)]
          refine firstE_all fun k hk => ?_
          have hb := hR.b k hk
          unfold hopE
          rw [hG.rt, hG.cl, hll, if_neg (by omega), if_neg, if_neg]
          · have e2 : (fzN n g).ln.getD ((n.fl.getD j fl0).rt.getD k 0).toNat ln0 = fzL (n.ln.getD ((n.fl.getD j fl0).rt.getD k 0).toNat ln0) := map_getD (by omega)
            rw [e2]; dsimp only; omega
          · intro hm
            rw [List.mem_iff_getElem] at hm
            obtain ⟨m, hm1, hm2⟩ := hm
            rw [List.length_take] at hm1
            rw [List.getElem_take] at hm2
            refine hR.d m k (by omega) hk ?_
            rw [← hm2, List.getD_eq_getElem?_getD, List.getElem?_eq_getElem (by omega)]; rfl
        rw [hr, if_neg (by simp)]
        unfold trafE at this ⊢
        rw [hG.v.1, hG.v.2.1, hG.v.2.2]
        have hs := hG.s
        rw [if_neg (by omega)]
        split at this
        · cases this
        · exact this
theorem fz_sk {n : Nt} {g : Fl → Fl} {p : List Pk} (h : chkN n = 0) (hS : SndP n p) (hl : p.length ≤ 60) (hg : ∀ f ∈ n.fl, FzG g f ∧ (g f).lo = f.lo ∧ (g f).hi = f.hi) : SkP (fzN n g) p := by
  have hfl : (fzN n g).fl.length = n.fl.length := List.length_map _
  refine SndP.sk ⟨fun i hi => ?_, fun i hi => ?_, hS.t, hS.o⟩ (fz_chk h fun f hf => (hg f hf).1) hl
  · rw [hfl]; exact hS.f i hi
  · have hf := hS.f i hi
    have e : pfl (fzN n g) (p.getD i pk0) = g (pfl n (p.getD i pk0)) := map_getD (by omega)
    have := (hg (pfl n (p.getD i pk0)) (Go.Np.getD_in (by omega))).2
    rw [e, this.1, this.2]
    exact hS.s i hi
/- sums and greatest ticks of packets -/
def byN (p : List Pk) (i : Nat) : Nat := sumN (fun k => (p.getD k pk0).s.toNat) i
def laN (p : List Pk) : Nat → Int
  | 0 => 0
  | i + 1 => max (laN p i) (p.getD i pk0).t
theorem laN_bd {p : List Pk} {B : Int} (h0 : 0 ≤ B) : ∀ {m : Nat}, (∀ i, i < m → (p.getD i pk0).t ≤ B) → 0 ≤ laN p m ∧ laN p m ≤ B ∧ ∀ i, i < m → (p.getD i pk0).t ≤ laN p m
  | 0, _ => ⟨Int.le_refl _, h0, fun i hi => by omega⟩
  | m + 1, h => by
    obtain ⟨a, b, c⟩ := laN_bd h0 (m := m) fun i hi => h i (by omega)
    have := h m (by omega)
    simp only [laN]
    refine ⟨by omega, by omega, fun i hi => ?_⟩
    rcases Nat.lt_succ_iff_lt_or_eq.1 hi with e | e
    · have := c i e; omega
    · subst e; omega
theorem byN_bd {p : List Pk} {B : Nat} : ∀ {m : Nat}, (∀ i, i < m → (p.getD i pk0).s ≤ B) → byN p m ≤ B * m
  | 0, _ => Nat.zero_le _
  | m + 1, h => by
    have := byN_bd (p := p) (B := B) (m := m) fun i hi => h i (by omega)
    have h2 := h m (by omega)
    unfold byN at *
    simp only [sumN]
    rw [Nat.mul_succ]
    omega
theorem ends {n : Nt} {p : List Pk} (h : SkP n p) {Z : Li} (hZ : Z.n = n.ln.length) (hf : ∀ l, l < Z.n → Z.C l = fifoC ∧ 1 ≤ Z.c l) {N : Nat} (hN : (N : Int) = 4 * ((byN p p.length : Nat) + 2) + laN p p.length + 1) :
    ∀ i, i < p.length → -1 ∉ (trR (toF n p) Z N).getD i [] := by
  have hla := laN_bd (p := p) (B := 380) (by omega) (m := p.length) fun i hi => (h.fl hi).2.2.2.1
  intro i hi hm
  rw [trR_row (show i < (toF n p).np from hi), List.mem_map] at hm
  obtain ⟨k, hk, e⟩ := hm
  rw [List.mem_range] at hk
  have := tr_ends (F := toF n p) (Z := Z) (N := N) (last := (laN p p.length).toNat) h.rts (fun i h' hi hh => by rw [hZ]; exact (h.lnn hi hh).2) hf (fun j hj => by
    obtain ⟨_, _, _, _, hG, s1, _⟩ := h.fl (i := j) hj
    have := hG.s1
    show 1 ≤ (p.getD j pk0).s
    omega) (fun j hj => by
    have := hla.2.2 j hj
    show (p.getD j pk0).t ≤ _
    omega) (fun j hj => by
    have := (h.fl (i := j) hj).2.2.2.2.1.l2
    show ((pfl n (p.getD j pk0)).rt.map Int.toNat).length ≤ 4
    rw [List.length_map]; exact this) (by
    show _ + 4 * sumN (fun i => ((p.getD i pk0).s).toNat) p.length + 1 ≤ N
    unfold byN at hN
    omega) i k hi hk
  omega
end Go.Mc
end
section
namespace Go.Proofs.YtaomhdljcdadaaaGreat
open Go.Sx Go.Pk Go.Mc Go.Np
set_option maxRecDepth 4000
set_option maxHeartbeats 2000000
/-! networks that are changed in place -/
abbrev lnz (l : Ln) : List SV := [i64 1, i64 l.c, i64 1, .nil, .nil]
def lzR (ls : List Ln) (i : Nat) : List (List SV) := (ls.take i).map lnz ++ lns (ls.drop i)
theorem lzR_len (ls : List Ln) (i : Nat) : (lzR ls i).length = ls.length := by
  simp only [lzR, List.length_append, List.length_map, List.length_take, lnl, List.length_drop]; omega
theorem lzR_get {ls : List Ln} {i : Nat} (h : i < ls.length) : (lzR ls i)[i]? = some (lnv (ls.getD i ln0)) := by
  have hl : ((ls.take i).map lnz).length = i := by simp; omega
  unfold lzR
  rw [List.getElem?_append_right (by omega), hl, Nat.sub_self]
  simp [lns, List.getD_eq_getElem?_getD, h]
theorem lzR_set {ls : List Ln} {i : Nat} (h : i < ls.length) : (lzR ls i).set i (lnz (ls.getD i ln0)) = lzR ls (i + 1) := by
  have hl : ((ls.take i).map lnz).length = i := by simp; omega
  have e : ls.getD i ln0 = ls[i] := by rw [List.getD_eq_getElem?_getD, List.getElem?_eq_getElem h]; rfl
  unfold lzR
  rw [List.set_append_right _ _ (by omega), hl, Nat.sub_self, List.drop_eq_getElem_cons h, List.take_succ_eq_append_getElem h, e]
  show (ls.take i).map lnz ++ lnz ls[i] :: lns (ls.drop (i + 1)) = (ls.take i ++ [ls[i]]).map lnz ++ lns (ls.drop (i + 1))
  rw [List.map_append, List.append_assoc]; rfl
theorem lzR_zero (ls : List Ln) : lzR ls 0 = lns ls := by simp [lzR]
theorem lzR_all (ls : List Ln) : lzR ls ls.length = ls.map lnz := by simp [lzR, lns]
def fzR (g : Fl → Fl) (fs : List Fl) (i : Nat) : List (List SV) := fls ((fs.take i).map g ++ fs.drop i)
theorem fzR_len (g : Fl → Fl) (fs : List Fl) (i : Nat) : (fzR g fs i).length = fs.length := by
  simp only [fzR, fll, List.length_append, List.length_map, List.length_take, List.length_drop]; omega
theorem fzR_get {g : Fl → Fl} {fs : List Fl} {i : Nat} (h : i < fs.length) : (fzR g fs i)[i]? = some (flv (fs.getD i fl0)) := by
  have hl : ((fs.take i).map g).length = i := by simp; omega
  unfold fzR fls
  rw [List.map_append, List.getElem?_append_right (by rw [List.length_map]; omega), List.length_map, hl, Nat.sub_self]
  simp [List.getD_eq_getElem?_getD, h]
theorem fzR_set {g : Fl → Fl} {fs : List Fl} {i : Nat} (h : i < fs.length) : (fzR g fs i).set i (flv (g (fs.getD i fl0))) = fzR g fs (i + 1) := by
  have hl : ((fs.take i).map g).length = i := by simp; omega
  have e : fs.getD i fl0 = fs[i] := by rw [List.getD_eq_getElem?_getD, List.getElem?_eq_getElem h]; rfl
  unfold fzR fls
  rw [List.map_append, List.set_append_right _ _ (by rw [List.length_map]; omega), List.length_map, hl, Nat.sub_self, List.drop_eq_getElem_cons h, List.take_succ_eq_append_getElem h, e]
  show ((fs.take i).map g).map flv ++ flv (g fs[i]) :: (fs.drop (i + 1)).map flv = ((fs.take i ++ [fs[i]]).map g ++ fs.drop (i + 1)).map flv
  rw [List.map_append, List.map_append, List.map_append, List.append_assoc]; rfl
theorem fzR_zero (g : Fl → Fl) (fs : List Fl) : fzR g fs 0 = fls fs := by simp [fzR]
theorem fzR_all (g : Fl → Fl) (fs : List Fl) : fzR g fs fs.length = fls (fs.map g) := by simp [fzR]
theorem lnz_imp : ∀ ls : List Ln, ImpR (ls.map lnz) (lns (ls.map fzL))
  | [] => trivial
  | l :: ls => ⟨⟨Imp.refl _, Imp.refl _, Imp.refl _, Imp.nil _, Imp.nil _, trivial⟩, lnz_imp ls⟩
theorem fz_nl {n : Nt} {g : Fl → Fl} (hn : NL n) (hg : ∀ f ∈ n.fl, FzG g f) : NL (fzN n g) := by
  refine ⟨hn.nm, ?_, ?_, hn.ns, fun l hl => ?_, fun f hf => ?_⟩
  · show (n.ln.map fzL).length ≤ _
    rw [List.length_map]; exact hn.ln
  · show (n.fl.map g).length ≤ _
    rw [List.length_map]; exact hn.fl
  · obtain ⟨l', _, rfl⟩ := List.mem_map.1 (show l ∈ n.ln.map fzL from hl)
    simp
  · obtain ⟨f', hf', rfl⟩ := List.mem_map.1 (show f ∈ n.fl.map g from hf)
    have := hn.fs f' hf'
    have h := hg f' hf'
    rw [h.nm, h.rt, h.v.1]; exact this
theorem fz_fifo {n : Nt} {g : Fl → Fl} (h : chkN n = 0) {l : Nat} (hl : l < n.ln.length) : (liN (fzN n g)).C l = fifoC ∧ 1 ≤ (liN (fzN n g)).c l ∧ (liN (fzN n g)).c l = (n.ln.getD l ln0).c.toNat := by
  have e : (fzN n g).ln.getD l ln0 = fzL (n.ln.getD l ln0) := map_getD hl
  have hc := chk_ln h hl
  have hb : 1 ≤ (n.ln.getD l ln0).c := by
    unfold lnErr at hc
    split at hc
    · cases hc
    split at hc
    · cases hc
    omega
  refine ⟨?_, ?_, ?_⟩
  · show chL ((fzN n g).ln.getD l ln0) = fifoC
    rw [e]; exact if_pos rfl
  · show 1 ≤ ((fzN n g).ln.getD l ln0).c.toNat
    rw [e]; dsimp only; omega
  · show ((fzN n g).ln.getD l ln0).c.toNat = _
    rw [e]
end Go.Proofs.YtaomhdljcdadaaaGreat
end
