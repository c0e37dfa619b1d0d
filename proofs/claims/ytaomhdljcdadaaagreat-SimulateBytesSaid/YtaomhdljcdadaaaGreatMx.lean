/-
  A text of the proofs of this seat: lemmas that the statements' proofs use; it states nothing of the program by itself beyond the contracts that its theorems bear. Conditions: those that stand in each theorem. Its short name: Mx My.
-/
import Derived.Test.YtaomhdljcdadaaaGreatSo10
set_option linter.unusedVariables false
set_option linter.unusedSimpArgs false
section
namespace Go.Mc
open Go.Pk Go.Np
/-! what happens below a tick -/
theorem pas_cut {F : Tf} {Z : Li} {T N l i : Nat} {D : Tp} (h : T ≤ N) : pas F Z T D l i = cut T (pas F Z N D l i) := by
  unfold pas
  cases plc (qu F D l) i with
  | none => rfl
  | some k =>
    simp only
    rw [run_cut (pkq_asc (qu_ok F D l).o) h]
    rfl
theorem cut_self {T : Nat} {x : Int} : Av T (cut T x) x := by
  intro h
  unfold cut at *
  split at h
  · rename_i c; rw [if_pos c]
  · rename_i c
    rcases h with h | h
    · omega
    · exact absurd h c
/- more ticks change nothing that was done -/
theorem tr_cut {F : Tf} (hR : Rts F) (Z : Li) {T N : Nat} (h : T ≤ N) {i k : Nat} (hi : i < F.np) (hk : k < (F.rt i).length) : tr F Z T i k = cut T (tr F Z N i k) := by
  have hA : Ag F T (fun i k => cut T (tr F Z N i k)) (tr F Z N) := fun i k _ _ => cut_self
  have hC : Con F Z T (fun i k => cut T (tr F Z N i k)) := by
    intro i k hi hk
    have hs := (pas_same (Z := Z) (N := N) (same_of hA (tr_mon hR Z N) (lin F i k)) i).le (Nat.le_succ T)
    show cut T (tr F Z N i k) = _
    rw [tr_con hR Z N i k hi hk, ← cut_av hs, pas_cut h]
  exact (tr_uniq hR Z hC i k hi hk).symm
theorem qu_split (F : Tf) (D : Tp) (l : Nat) (T : Int) : qu F D l = (qu F D l).filter (fun x => decide (x.a ≤ T)) ++ (qu F D l).filter (fun x => !decide (x.a ≤ T)) := split_ord T (qu_ok F D l).o
/- two lists of packets whose queues are the same below a tick -/
theorem pas_pre {F F' : Tf} {Z : Li} {D D' : Tp} {l T : Nat} (h : ∀ x : Wt, x.a < T → ((x ∈ qu F D l ↔ x ∈ qu F' D' l) ∧ (x ∈ qu F D l → F.cs x.i = F'.cs x.i ∧ F.s x.i = F'.s x.i))) (i : Nat) : pas F Z T D l i = pas F' Z T D' l i := by
  have hq := qu_ok F D l
  have hq' := qu_ok F' D' l
  have e1 := qu_split F D l (T - 1)
  have e2 := qu_split F' D' l (T - 1)
  have ep : (qu F D l).filter (fun x => decide (x.a ≤ (T : Int) - 1)) = (qu F' D' l).filter (fun x => decide (x.a ≤ (T : Int) - 1)) := by
    refine ord_uniq (hq.o.filter _) (hq'.o.filter _) fun x => ?_
    simp only [List.mem_filter, decide_eq_true_eq]
    constructor
    · rintro ⟨a, b⟩; exact ⟨(h x (by omega)).1.1 a, b⟩
    · rintro ⟨a, b⟩; exact ⟨(h x (by omega)).1.2 a, b⟩
  rw [← ep] at e2
  generalize hpre : (qu F D l).filter (fun x => decide (x.a ≤ (T : Int) - 1)) = pre at *
  have hpm : ∀ x ∈ pre, x ∈ qu F D l ∧ x.a ≤ (T : Int) - 1 := fun x hx => by
    rw [← hpre, List.mem_filter, decide_eq_true_eq] at hx; exact hx
  have hr : ∀ x ∈ (qu F D l).filter (fun x => !decide (x.a ≤ (T : Int) - 1)), (T : Int) ≤ x.a := fun x hx => by
    simp only [List.mem_filter, Bool.not_eq_true', decide_eq_false_iff_not] at hx; omega
  have hr' : ∀ x ∈ (qu F' D' l).filter (fun x => !decide (x.a ≤ (T : Int) - 1)), (T : Int) ≤ x.a := fun x hx => by
    simp only [List.mem_filter, Bool.not_eq_true', decide_eq_false_iff_not] at hx; omega
  generalize (qu F D l).filter (fun x => !decide (x.a ≤ (T : Int) - 1)) = r at *
  generalize (qu F' D' l).filter (fun x => !decide (x.a ≤ (T : Int) - 1)) = r' at *
  have ha := pkq_asc (F := F) hq.o
  have ha' := pkq_asc (F := F') hq'.o
  have late : ∀ {G : Tf} {q pre r : List Wt}, q = pre ++ r → (∀ x ∈ r, (T : Int) ≤ x.a) → ∀ k, pre.length ≤ k → k < (pkq G q).length → (T : Int) ≤ tm (pkq G q) k := by
    intro G q pre r e hr k h1 h2
    rw [pkq_len] at h2
    unfold tm; rw [pkq_at h2]
    simp only
    have : q[k] ∈ r := by
      have h3 : k < (pre ++ r).length := by rw [← e]; exact h2
      have h4 : (pre ++ r)[k] = q[k] := by congr 1; exact e.symm
      rw [← h4, List.getElem_append_right h1]
      exact List.getElem_mem _
    exact hr _ this
  have hP : Pre (pkq F (qu F D l)) (pkq F' (qu F' D' l)) pre.length T := by
    refine ⟨by rw [pkq_len, e1]; simp, by rw [pkq_len, e2]; simp, fun k hk => ?_, late e1 hr, late e2 hr'⟩
    have hm := hpm pre[k] (List.getElem_mem hk)
    have hc := (h pre[k] (by omega)).2 hm.1
    rw [e1, e2]
    simp [pkq, List.getD_eq_getElem?_getD, List.getElem?_append_left, hk, hc.1, hc.2]
  have hrun := hP.run (C := Z.C l) (c := Z.c l) T (Nat.le_refl T)
  have none1 : ∀ {G : Tf} {D : Tp} {pre r : List Wt}, qu G D l = pre ++ r → (∀ x ∈ r, (T : Int) ≤ x.a) → (∀ x ∈ pre, x.i ≠ i) → pas G Z T D l i = -1 := by
    intro G D pre r e hr hn
    unfold pas
    cases hp : plc (qu G D l) i with
    | none => rfl
    | some k =>
      simp only
      obtain ⟨hk, hki⟩ := plc_some hp
      have hkp : pre.length ≤ k := by
        rcases Nat.lt_or_ge k pre.length with hlt | hge
        · exfalso
          have h3 : k < (pre ++ r).length := by rw [← e]; exact hk
          have h4 : (pre ++ r)[k] = (qu G D l)[k] := by congr 1; exact e.symm
          rw [List.getElem_append_left hlt] at h4
          exact hn _ (List.getElem_mem hlt) (by rw [h4]; exact hki)
        · exact hge
      have hl := late (G := G) e hr k hkp (by rw [pkq_len]; exact hk)
      rcases (run_inv (pkq_asc (F := G) (qu_ok G D l).o) (C := Z.C l) (c := Z.c l) T).d k with h1 | ⟨_, h1, _, h2⟩
      · exact h1
      · omega
  by_cases hex : ∃ x ∈ pre, x.i = i
  · obtain ⟨x, hx, hxi⟩ := hex
    obtain ⟨k, hk, rfl⟩ := List.mem_iff_getElem.1 hx
    have g : ∀ {G : Tf} {D : Tp} {r : List Wt}, qu G D l = pre ++ r → pas G Z T D l i = (run (Z.C l) (pkq G (qu G D l)) (Z.c l) T).dn k := by
      intro G D r e
      have hk2 : k < (qu G D l).length := by rw [e, List.length_append]; omega
      have he : (qu G D l)[k] = pre[k] := by
        have h3 : k < (pre ++ r).length := by rw [← e]; exact hk2
        have h4 : (pre ++ r)[k] = (qu G D l)[k] := by congr 1; exact e.symm
        rw [← h4, List.getElem_append_left hk]
      have hpl := (qu_ok G D l).plc hk2
      rw [he, hxi] at hpl
      unfold pas
      rw [hpl]
    rw [g e1, g e2, hrun]
  · have hn : ∀ x ∈ pre, x.i ≠ i := fun x hx e => hex ⟨x, hx, e⟩
    rw [none1 e1 hr hn, none1 e2 hr' hn]
/- the first packets, if the others come at a tick or later -/
theorem tr_early {F F' : Tf} (hR : Rts F) (Z : Li) {T N : Nat} (hN : T ≤ N) (hnp : F'.np ≤ F.np) (hs : ∀ i, i < F'.np → F'.rt i = F.rt i ∧ F'.fl i = F.fl i ∧ F'.cs i = F.cs i ∧ F'.t i = F.t i ∧ F'.s i = F.s i)
    (hl : ∀ i, F'.np ≤ i → i < F.np → (T : Int) ≤ F.t i) {i k : Nat} (hi : i < F'.np) (hk : k < (F'.rt i).length) : cut T (tr F' Z N i k) = cut T (tr F Z N i k) := by
  have hR' : Rts F' := fun j hj => by rw [(hs j hj).1]; exact hR j (by omega)
  have hlin : ∀ {j h : Nat}, j < F'.np → lin F' j h = lin F j h := fun {j h} hj => by unfold Mc.lin; rw [(hs j hj).1]
  have hhp : ∀ {j l : Nat}, j < F'.np → hp F' l j = hp F l j := fun {j l} hj => by unfold hp; rw [(hs j hj).1]
  have harr : ∀ {j h : Nat} {D : Tp}, j < F'.np → arr F' D j h = arr F D j h := fun {j h D} hj => by unfold arr; rw [(hs j hj).2.2.2.1]
  have hC : Con F' Z T (tr F Z T) := by
    intro j h hj hh
    rw [(hs j hj).1] at hh
    rw [tr_con hR Z T j h (by omega) hh, hlin hj]
    refine (pas_pre (F := F) (F' := F') (D := tr F Z T) (D' := tr F Z T) (fun x hx => ?_) j)
    have key : x ∈ qu F (tr F Z T) (lin F j h) → x.i < F'.np := fun hm => by
      obtain ⟨a1, ⟨u, a2, a3⟩, a4⟩ := ((qu_ok F (tr F Z T) (lin F j h)).m x).1 hm
      rcases Nat.lt_or_ge x.i F'.np with c | c
      · exact c
      · exfalso
        have ht := hl x.i c a1
        have hmin : ∀ v, v < (F.rt x.i).length → 0 ≤ tr F Z T x.i v → F.t x.i ≤ tr F Z T x.i v := by
          intro v
          induction v with
          | zero =>
            intro hv h0
            rcases tr_bd hR Z T a1 hv with e | ⟨_, _, a, ha, hle⟩
            · omega
            · unfold arr at ha
              rw [if_pos rfl] at ha
              have := Option.some.inj ha; omega
          | succ v ihv =>
            intro hv h0
            have := tr_mon hR Z T x.i v a1 hv h0
            have := ihv (by omega) this.1
            omega
        unfold arr at a3
        split at a3
        · have := Option.some.inj a3; omega
        · split at a3
          · rename_i hu hall
            have e := Option.some.inj a3
            have h0 := hall (u - 1) (by omega)
            have hu2 := (hp_some a2).1
            have := hmin (u - 1) (by omega) h0
            rcases tr_bd hR Z T a1 (h := u - 1) (by omega) with e2 | ⟨_, e2, _⟩ <;> omega
          · cases a3
    refine ⟨⟨fun hm => ?_, fun hm => ?_⟩, fun hm => ?_⟩
    · have hk := key hm
      obtain ⟨a1, ⟨u, a2, a3⟩, a4⟩ := ((qu_ok F (tr F Z T) (lin F j h)).m x).1 hm
      exact ((qu_ok F' (tr F Z T) (lin F j h)).m x).2 ⟨hk, ⟨u, by rw [hhp hk]; exact a2, by rw [harr hk]; exact a3⟩, by rw [(hs x.i hk).2.1]; exact a4⟩
    · obtain ⟨hk, ⟨u, a2, a3⟩, a4⟩ := ((qu_ok F' (tr F Z T) (lin F j h)).m x).1 hm
      exact ((qu_ok F (tr F Z T) (lin F j h)).m x).2 ⟨by omega, ⟨u, by rw [← hhp hk]; exact a2, by rw [← harr hk]; exact a3⟩, by rw [← (hs x.i hk).2.1]; exact a4⟩
    · have hk := key hm
      exact ⟨(hs x.i hk).2.2.1.symm, (hs x.i hk).2.2.2.2.symm⟩
  have h1 := tr_uniq hR' Z hC i k hi hk
  rw [← tr_cut hR' Z hN hi hk, ← h1, tr_cut hR Z hN (by omega) (by rw [← (hs i hi).1]; exact hk)]
end Go.Mc
end
section
namespace Go.Mc
open Go.Pk Go.Np
theorem SkP.mono {n : Nt} {p : List Pk} (h : SkP n p) : ∀ {j i : Nat}, i ≤ j → j < p.length → (p.getD i pk0).t ≤ (p.getD j pk0).t
  | 0, i, h1, _ => by rw [show i = 0 by omega]; exact Int.le_refl _
  | j + 1, i, h1, h2 => by
    rcases Nat.lt_or_ge j i with c | c
    · rw [show i = j + 1 by omega]; exact Int.le_refl _
    · have := h.mono (j := j) c (by omega)
      have h3 := h.o (j + 1) h2
      have e : lst p (j + 1) = (p.getD j pk0).t := rfl
      omega
theorem take_getD {p : List Pk} {m i : Nat} (h : i < m) : (p.take m).getD i pk0 = p.getD i pk0 := by
  simp [List.getD_eq_getElem?_getD, List.getElem?_take, h]
theorem SkP.take {n : Nt} {p : List Pk} (h : SkP n p) (m : Nat) : SkP n (p.take m) := by
  refine ⟨h.h, by rw [List.length_take]; have := h.l; omega, fun i hi => ?_, fun i hi => ?_⟩
  · rw [List.length_take] at hi
    rw [take_getD (by omega)]; exact h.g i (by omega)
  · rw [List.length_take] at hi
    rw [take_getD (by omega)]
    have := h.o i (by omega)
    cases i with
    | zero => exact this
    | succ i =>
      simp only [lst] at this ⊢
      rw [take_getD (by omega)]; exact this
/- the packets that arrive before a tick are the first ones -/
theorem early_ok {n : Nt} {p : List Pk} (h : SkP n p) (T : Int) : ∃ m, m ≤ p.length ∧ p.filter (fun x => decide (x.t < T)) = p.take m ∧ ∀ i, m ≤ i → i < p.length → T ≤ (p.getD i pk0).t := by
  have key : ∀ k, k ≤ p.length → ∃ m, m ≤ k ∧ (∀ i, i < m → (p.getD i pk0).t < T) ∧ ∀ i, m ≤ i → i < k → T ≤ (p.getD i pk0).t := by
    intro k
    induction k with
    | zero => exact fun _ => ⟨0, Nat.le_refl _, fun i hi => by omega, fun i _ hi => by omega⟩
    | succ k ih =>
      intro hk
      obtain ⟨m, h1, h2, h3⟩ := ih (by omega)
      by_cases hT : T ≤ (p.getD k pk0).t
      · refine ⟨m, by omega, h2, fun i a b => ?_⟩
        rcases Nat.lt_succ_iff_lt_or_eq.1 b with c | c
        · exact h3 i a c
        · subst c; exact hT
      · have hm : m = k := by
          rcases Nat.lt_or_ge m k with c | c
          · have := h3 m (Nat.le_refl _) c
            have := h.mono (i := m) (j := k) (by omega) (by omega)
            omega
          · omega
        subst hm
        refine ⟨m + 1, Nat.le_refl _, fun i a => ?_, fun i a b => by omega⟩
        rcases Nat.lt_succ_iff_lt_or_eq.1 a with c | c
        · exact h2 i c
        · subst c; omega
  obtain ⟨m, h1, h2, h3⟩ := key p.length (Nat.le_refl _)
  refine ⟨m, h1, ?_, h3⟩
  have e : p = p.take m ++ p.drop m := (List.take_append_drop m p).symm
  have f1 : (p.take m).filter (fun x => decide (x.t < T)) = p.take m := by
    rw [List.filter_eq_self]
    intro x hx
    obtain ⟨i, hi, rfl⟩ := List.mem_iff_getElem.1 hx
    rw [List.length_take] at hi
    have := h2 i (by omega)
    rw [List.getD_eq_getElem?_getD, List.getElem?_eq_getElem (show i < p.length by omega)] at this
    rw [List.getElem_take]
    exact decide_eq_true this
  have f2 : (p.drop m).filter (fun x => decide (x.t < T)) = [] := by
    rw [List.filter_eq_nil_iff]
    intro x hx
    obtain ⟨i, hi, rfl⟩ := List.mem_iff_getElem.1 hx
    rw [List.length_drop] at hi
    have := h3 (m + i) (by omega) (by omega)
    rw [List.getD_eq_getElem?_getD, List.getElem?_eq_getElem (show m + i < p.length by omega)] at this
    rw [List.getElem_drop, decide_eq_true_eq]
    have e : (some p[m + i]).getD pk0 = p[m + i] := rfl
    rw [e] at this
    omega
  rw [e, List.filter_append, f1, f2, List.append_nil]
  rw [← e]
/- what the law says of causes -/
theorem causes {n : Nt} {p : List Pk} (h : SkP n p) (Z : Li) {T m : Nat} (hT : T ≤ 1000) (hm : m ≤ p.length) (hl : ∀ i, m ≤ i → i < p.length → (T : Int) ≤ (p.getD i pk0).t) {i k : Nat} (hi : i < p.length) (hk : k < ((toF n p).rt i).length) :
    tr (toF n p) Z T i k = (if (T : Int) ≤ tr (toF n p) Z 1000 i k then -1 else tr (toF n p) Z 1000 i k) ∧ -1 ≤ tr (toF n p) Z 1000 i k ∧
      (i < m → ((0 ≤ tr (toF n (p.take m)) Z 1000 i k ∧ tr (toF n (p.take m)) Z 1000 i k < T) ∨ 0 ≤ tr (toF n p) Z T i k) → tr (toF n (p.take m)) Z 1000 i k = tr (toF n p) Z T i k) := by
  have hR := h.rts
  have e1 := tr_cut hR Z hT (i := i) (k := k) hi hk
  have hb := tr_bd hR Z 1000 (i := i) (h := k) hi hk
  refine ⟨?_, by omega, fun him hc => ?_⟩
  · rw [e1]; unfold cut
    split
    · rw [if_neg (by omega)]
    · split
      · rfl
      · omega
  · have hml : (toF n (p.take m)).np = m := by
      show (p.take m).length = m
      rw [List.length_take]; omega
    have hs : ∀ j, j < (toF n (p.take m)).np → (toF n (p.take m)).rt j = (toF n p).rt j ∧ (toF n (p.take m)).fl j = (toF n p).fl j ∧ (toF n (p.take m)).cs j = (toF n p).cs j ∧ (toF n (p.take m)).t j = (toF n p).t j ∧ (toF n (p.take m)).s j = (toF n p).s j := by
      intro j hj
      rw [hml] at hj
      simp only [toF, take_getD hj, and_self]
    have e2 := tr_early (F := toF n p) (F' := toF n (p.take m)) hR Z (T := T) (N := 1000) hT (by rw [hml]; exact hm) hs (fun j a b => hl j (by rw [hml] at a; exact a) b) (i := i) (k := k) (by rw [hml]; exact him) (by rw [(hs i (by rw [hml]; exact him)).1]; exact hk)
    rw [← e1] at e2
    generalize tr (toF n (p.take m)) Z 1000 i k = y at *
    generalize tr (toF n p) Z T i k = x at *
    unfold cut at e2
    split at e2
    · exact e2
    · omega
theorem trR_get {F : Tf} {Z : Li} {N i k : Nat} (hi : i < F.np) (hk : k < (F.rt i).length) : ((trR F Z N).getD i []).getD k 0 = tr F Z N i k := by
  have := trR_at (Z := Z) (N := N) hi hk
  unfold dR at this
  rw [← this]
  have hl : k < ((trR F Z N).getD i []).length := by rw [trR_rlen hi]; exact hk
  generalize (trR F Z N).getD i [] = r at hl ⊢
  rw [List.getD_eq_getElem?_getD, List.getD_eq_getElem?_getD, List.getElem?_eq_getElem hl]; rfl
end Go.Mc
end
