/-
  A text of the proofs of this seat: lemmas that the statements' proofs use; it states nothing of the program by itself beyond the contracts that its theorems bear. Conditions: those that stand in each theorem. Its short name: S12.
-/
import Derived.Test.YtdkfgecaejmanaaS11
import Derived.Test.YtdkfgecaejmanaaP10
set_option linter.unusedVariables false
set_option linter.unusedSimpArgs false
namespace Go.Proofs.Ytdkfgecaejmanaa
open Go.Sx Go.Fq Go.Dt
set_option maxHeartbeats 1000000
theorem at_lst {n : Nat} {g : Nat → F} {k : Nat} (h : k < n) : at' (lst n g) k = val (g k) := by
  unfold at' lst; rw [List.getD_eq_getElem?_getD]; simp [h]
theorem bN_iff {p : Pr} {s0 s : TS} {co : Nat → Int} (I : TI p s0 co s) {i k : Nat} (hi : i < p.r.length) : s.2.1 i = k ↔ bN s i = k := by
  have := I.bs i hi; unfold bN; omega
theorem fr_val {a b : Int} (hb : b ≠ 0) (h : (fnew a b).2.2 = 0) : VF (fr a b) ∧ val (fr a b) = (a : Rat) / (b : Rat) := by
  have := fnew_ok hb (r3 h)
  exact ⟨this.1, by rw [← Rat.divInt_eq_div]; exact this.2⟩
theorem sI_miss {p : Pr} {s0 s : TS} {co : Nat → Int} (I : TI p s0 co s) {i k : Nat} (hi : i < p.r.length) (e : bN s i = k) {h : Nat → Int} : sI i (fun j => if bN s j = k then h j else 0) = 0 :=
  sI_zero fun j hj => by
    rw [if_neg]; intro e2
    have := I.inv.inj (i := j) (j := i) (by omega) hi (e2.trans e.symm)
    omega
theorem pt_val {p : Pr} {s0 s : TS} {co : Nat → Int} (I : TI p s0 co s) {k : Nat} (hk : k < p.c.length) (hX : ∀ i < p.r.length, s.2.1 i < p.c.length → (fnew (s.1 i (nE p)) s.2.2).2.2 = 0) :
    ∀ i, i ≤ p.r.length → VF (pt (nE p) s i k) ∧ val (pt (nE p) s i k) = ((sI i (fun j => if bN s j = k then s.1 j (nE p) else 0) : Int) : Rat) / (s.2.2 : Rat)
  | 0, _ => ⟨vf_zero, by simp only [pt, sI]; rw [val_zero]; simp [Rat.div_def, Rat.zero_mul]⟩
  | i + 1, hi => by
    have d0 := I.inv.d0
    simp only [pt, sI]
    by_cases e : s.2.1 i = k
    · have e2 := (bN_iff I (by omega)).1 e
      rw [if_pos e, if_pos e2, sI_miss I (by omega) e2, Int.zero_add]
      exact fr_val (by omega) (hX i (by omega) (by omega))
    · have e2 : ¬bN s i = k := fun h => e ((bN_iff I (by omega)).2 h)
      rw [if_neg e, if_neg e2, Int.add_zero]
      exact pt_val I hk hX i (by omega)
theorem ry_val {p : Pr} {s0 s : TS} {co : Nat → Int} (I : TI p s0 co s) {c k : Nat} (hk : k < p.c.length) (hneg : s.1 p.r.length c < 0) (hY : ∀ i < p.r.length, s.2.1 i < p.c.length → (fnew (0 - s.1 i c) s.2.2).2.2 = 0) :
    ∀ i, i ≤ p.r.length → VF (ry (c : Int) s i k) ∧ val (ry (c : Int) s i k) = (((if k = c then s.2.2 else 0) - sI i (fun j => if bN s j = k then s.1 j c else 0) : Int) : Rat) / (s.2.2 : Rat)
  | 0, _ => by
    have d0 := rq0 I.inv.d0
    simp only [ry, sI, Int.sub_zero]
    by_cases e : k = c
    · subst e; rw [if_pos rfl, if_pos rfl]
      exact ⟨by decide, by rw [show val (1, 1) = 1 from by decide +kernel]; grind⟩
    · rw [if_neg (by omega), if_neg e]; exact ⟨vf_zero, by rw [val_zero]; simp [Rat.div_def, Rat.zero_mul]⟩
  | i + 1, hi => by
    have d0 := I.inv.d0
    simp only [ry, sI]
    by_cases e : s.2.1 i = k
    · have e2 := (bN_iff I (by omega)).1 e
      have hkc : k ≠ c := fun h => by
        have := I.inv.cost0 (j := i) (by omega)
        rw [e2, h] at this; omega
      rw [if_pos ⟨by omega, e⟩, if_pos e2, sI_miss I (by omega) e2, if_neg hkc, Int.zero_add]
      exact fr_val (by omega) (hY i (by omega) (by omega))
    · have e2 : ¬bN s i = k := fun h => e ((bN_iff I (by omega)).2 h)
      rw [if_neg (fun h => e h.2), if_neg e2, Int.add_zero]
      exact ry_val I hk hneg hY i (by omega)
theorem cc_val {p : Pr} {sc : Int} (hv : VP p) (sc1 : 1 ≤ sc) (hd : ∀ f ∈ p.c, f.2 ∣ sc) {k : Nat} (hk : k < p.c.length) : at' p.c k = (cc p sc k : Rat) / (sc : Rat) := by
  have h0 := rq0 (show 0 < sc by omega)
  have h1 := all_at hv.2.2.2.1 (i := k) hk
  have h2 := all_at (P := fun f => f.2 ∣ sc) hd (i := k) hk
  unfold cc at'
  rw [if_pos hk, iv_val h1 h2]; grind
theorem cc_hi {p : Pr} {sc : Int} {k : Nat} (hk : p.c.length ≤ k) : cc p sc k = 0 := by unfold cc; rw [if_neg (by omega)]
/- the cost of a sum of columns -/
theorem cost_val {p : Pr} {sc : Int} (hv : VP p) (sc1 : 1 ≤ sc) (hd : ∀ f ∈ p.c, f.2 ∣ sc) {d : Int} (d0 : 0 < d) {x : List F} {g : Nat → Int} (hx : ∀ k < p.c.length, at' x k = (g k : Rat) / (d : Rat)) :
    sm p.c.length (fun k => at' p.c k * at' x k) = ((sI p.c.length (fun k => cc p sc k * g k) : Int) : Rat) / ((d : Rat) * (sc : Rat)) := by
  have h0 := rq0 (show 0 < sc by omega)
  have h1 := rq0 d0
  have e : sm p.c.length (fun k => at' p.c k * at' x k) = sm p.c.length (fun k => ((cc p sc k * g k : Int) : Rat) * (1 / ((d : Rat) * (sc : Rat)))) := by
    apply sm_congr; intro k hk
    rw [cc_val hv sc1 hd hk, hx k hk, Rat.intCast_mul]; grind
  rw [e, sm_mul, sm_int]; grind
theorem opt_dual {p : Pr} {by' : Nat → Int} {s0 s1 s2 s3 s4 : TS} {z z' sc : Int} {Y : List F} (h : Ph1 p by' s0 s1 z) (k : Ph2 p sc s1 s2 s3 s4 z') (hz : z' < 0) (hl : Y.length = p.r.length) (hY : ∀ i < p.r.length, DualAt p.r.length p.c.length s4.1 s4.2.2 by' 0 sc i (Y.getD i (0, 1)))
    (hp : (prod (bds p) Y).2.2 = 0 ∧ ∀ j < p.c.length, (prod (col p j) Y).2.2 = 0) : DualP p by' s0 s4 (cc p sc) sc Y := by
  obtain ⟨I, _⟩ := ph2_ti h k
  refine ⟨h.vp, h.ini, I, k.sc1.1, ?_, fun k _ => cc_hi (by omega), cc_hi (by unfold nE; omega), hl, fun i hi => ?_, hp⟩
  · rcases k.ends with ⟨_, h⟩ | ⟨c, hc, _⟩
    · exact h
    · omega
  · have h1 := dualAt_pi (hY i hi)
    refine ⟨h1.1, ?_⟩
    rw [h1.2]
    have e : cc p sc (uC p i) = 0 := cc_hi (by unfold uC; omega)
    unfold pi'
    rw [e, Int.mul_zero, Int.zero_mul]
theorem opt_ok {p : Pr} {by' : Nat → Int} {s0 s1 s2 s3 s4 : TS} {z z' sc : Int} {Y : List F} (h : Ph1 p by' s0 s1 z) (k : Ph2 p sc s1 s2 s3 s4 z') (hz : z' < 0) (hX : ∀ i < p.r.length, s4.2.1 i < p.c.length → (fnew (s4.1 i (nE p)) s4.2.2).2.2 = 0)
    (hf : Feas p (lst p.c.length (pt (nE p) s4 p.r.length))) (hl : Y.length = p.r.length) (hY : ∀ i < p.r.length, DualAt p.r.length p.c.length s4.1 s4.2.2 by' 0 sc i (Y.getD i (0, 1)))
    (hp : (prod (bds p) Y).2.2 = 0 ∧ ∀ j < p.c.length, (prod (col p j) Y).2.2 = 0) (hv : (prod p.c (lst p.c.length (pt (nE p) s4 p.r.length))).2.2 = 0) : Opt p (lst p.c.length (pt (nE p) s4 p.r.length)) Y := by
  have Dp := opt_dual h k hz hl hY hp
  have I := Dp.ti
  have d0 := I.inv.d0
  have hds : 0 < (s4.2.2 : Rat) * (sc : Rat) := Rat.mul_pos (rqp d0) (rqp (by have := k.sc1; omega))
  have hblw : Blw p Y (fun j => p.c.getD j (0, 1)) := fun j hj => by
    obtain ⟨v1, v2⟩ := Dp.col_val hj
    refine ⟨hp.2 j hj, ?_⟩
    have vc := all_at h.vp.2.2.2.1 (i := j) hj
    rw [fcmp_le v1 vc, v2]
    have e := cc_val h.vp k.sc1.1 k.scd hj
    unfold at' at e
    rw [e]
    have h1 := div_ge0 hds (Dp.nn j (by unfold nC; omega))
    have d1 := rq0 d0
    have c1 := rq0 (show 0 < sc by have := k.sc1; omega)
    have e2 : (((s4.2.2 * cc p sc j - s4.1 p.r.length j : Int)) : Rat) / ((s4.2.2 : Rat) * (sc : Rat)) = (cc p sc j : Rat) / (sc : Rat) - ((s4.1 p.r.length j : Int) : Rat) / ((s4.2.2 : Rat) * (sc : Rat)) := by
      rw [Rat.intCast_sub, Rat.intCast_mul]; grind
    rw [e2]; grind
  have hb := bound_yes h.vp ⟨Dp.sgn, hblw⟩
  refine ⟨hf, by rw [hb]; exact hp.1, ?_⟩
  rw [hb]
  obtain ⟨k1, k2, k3, k4, k5⟩ := prod_ok' hv
  obtain ⟨v1, v2⟩ := Dp.bds_val
  have e : val ((prod p.c (lst p.c.length (pt (nE p) s4 p.r.length))).1, (prod p.c (lst p.c.length (pt (nE p) s4 p.r.length))).2.1) = val ((prod (bds p) Y).1, (prod (bds p) Y).2.1) := by
    rw [k5, v2, cost_val h.vp k.sc1.1 k.scd d0 (g := fun k => sI p.r.length (fun j => if bN s4 j = k then s4.1 j (nE p) else 0)) (fun k hk => by rw [at_lst hk, (pt_val I hk hX _ (Nat.le_refl _)).2])]
    congr 2
    rw [sI_basis (fun j _ hb => cc_hi hb)]
    have := I.inv.cost (nE p) (by omega)
    rw [Dp.e0, Int.mul_zero] at this
    omega
  have e2 := k4.inj v1 e
  rw [Prod.mk.injEq] at e2
  exact (eqR hv hp.1).2 e2
theorem dir_nn {p : Pr} {s : TS} {d : Int} {c : Nat} (hd : 0 < d) (hle : ∀ i < p.r.length, s.1 i c ≤ 0) (k : Nat) : 0 ≤ dir p.r.length s.1 (bN s) d c k := by
  have h1 : 0 ≤ sI p.r.length (fun j => -(if bN s j = k then s.1 j c else 0)) := sI_nonneg fun j hj => by
    have := hle j hj; split <;> omega
  have h2 : sI p.r.length (fun j => -(if bN s j = k then s.1 j c else 0)) = -sI p.r.length (fun j => if bN s j = k then s.1 j c else 0) := by
    have := sI_mul (f := fun j => if bN s j = k then s.1 j c else 0) (c := -1) (n := p.r.length)
    simp only [Int.neg_mul, Int.one_mul] at this; exact this
  unfold dir
  split <;> omega
/- a column without a bound: along its direction nothing changes -/
theorem dir_row {p : Pr} {by' : Nat → Int} {s0 s : TS} {co : Nat → Int} (hi : Ini p by' s0) (I : TI p s0 co s) (Z : Azr p s) {c l : Nat} (hc : c < nC p) (hl : l < p.r.length) :
    sI p.c.length (fun k => s0.1 l k * dir p.r.length s.1 (bN s) s.2.2 c k) = -(sg (by' l) * sns (p.r.getD l rw0) * dir p.r.length s.1 (bN s) s.2.2 c (p.c.length + l)) := by
  have hcE : c < nE p := by unfold nC at hc; unfold nE; omega
  have h1 := sI_dir (n := nE p) (g := fun k => s0.1 l k) (f := s.1) (bs := bN s) (d := s.2.2) (c := c) (m := p.r.length) (fun j hj hb => by have := I.bs j hj; unfold bN at hb; omega) (fun h => by omega)
  have h2 := I.inv.col c (by omega) l hl
  have h3 : sI p.r.length (fun j => s0.1 l (bN s j) * s.1 j c) = sI p.r.length (fun j => s.1 j c * s0.1 l (bN s j)) := sI_congr fun j _ => Int.mul_comm _ _
  rw [h3, ← h2, Int.sub_self] at h1
  rw [show nE p = p.c.length + (p.r.length + p.r.length) by unfold nE; omega, sI_split, sI_split] at h1
  have e1 : sI p.r.length (fun i => s0.1 l (p.c.length + i) * dir p.r.length s.1 (bN s) s.2.2 c (p.c.length + i)) = sg (by' l) * sns (p.r.getD l rw0) * dir p.r.length s.1 (bN s) s.2.2 c (p.c.length + l) := by
    rw [sI_one hl (fun j hj hn => by rw [(hi.1 l hl).sl j hj, if_neg hn, Int.zero_mul]), (hi.1 l hl).sl l hl, if_pos rfl]
  have e2 : sI p.r.length (fun i => s0.1 l (p.c.length + (p.r.length + i)) * dir p.r.length s.1 (bN s) s.2.2 c (p.c.length + (p.r.length + i))) = 0 := by
    apply sI_zero; intro j hj
    have : dir p.r.length s.1 (bN s) s.2.2 c (p.c.length + (p.r.length + j)) = 0 := by
      unfold dir
      rw [if_neg (by unfold nC at hc; omega), sI_zero]
      · rfl
      · intro i hi'
        split
        · rename_i e
          exact Z i hi' (by have := I.bs i hi'; unfold bN at e; unfold nC; omega) c hc
        · rfl
    rw [this, Int.mul_zero]
  rw [e1, e2] at h1
  omega
theorem unb_ok {p : Pr} {by' : Nat → Int} {s0 s1 s2 s3 s4 : TS} {z sc : Int} {c : Nat} (h : Ph1 p by' s0 s1 z) (k : Ph2 p sc s1 s2 s3 s4 c) (hY : ∀ i < p.r.length, s4.2.1 i < p.c.length → (fnew (0 - s4.1 i c) s4.2.2).2.2 = 0)
    (hf : Feas p (lst p.c.length (pt (nE p) s4 p.r.length))) (hr : (∀ w ∈ p.r, (prod w.1 (lst p.c.length (ry c s4 p.r.length))).2.2 = 0) ∧ (prod p.c (lst p.c.length (ry c s4 p.r.length))).2.2 = 0) :
    Unb p (lst p.c.length (pt (nE p) s4 p.r.length)) (lst p.c.length (ry c s4 p.r.length)) := by
  obtain ⟨I, Z⟩ := ph2_ti h k
  have d0 := I.inv.d0
  obtain ⟨hcC, hneg, hle⟩ : c < nC p ∧ s4.1 p.r.length c < 0 ∧ ∀ i < p.r.length, s4.1 i c ≤ 0 := by
    rcases k.ends with ⟨e, _⟩ | ⟨c', e, a, b, d⟩
    · omega
    · have : c = c' := by omega
      subst this; exact ⟨a, b, d⟩
  have hcE : c < nE p := by unfold nC at hcC; unfold nE; omega
  have hx : ∀ j < p.c.length, VF (ry (c : Int) s4 p.r.length j) ∧ val (ry (c : Int) s4 p.r.length j) = ((dir p.r.length s4.1 (bN s4) s4.2.2 c j : Int) : Rat) / (s4.2.2 : Rat) := fun j hj => ry_val I hj hneg hY _ (Nat.le_refl _)
  have hxa : ∀ j < p.c.length, at' (lst p.c.length (ry c s4 p.r.length)) j = ((dir p.r.length s4.1 (bN s4) s4.2.2 c j : Int) : Rat) / (s4.2.2 : Rat) := fun j hj => by rw [at_lst hj, (hx j hj).2]
  refine unb_iff.2 ⟨hf, lst_len _ _, ?_, ?_, hr.2, ?_⟩
  · intro f hfm
    obtain ⟨j, hj, rfl⟩ := List.mem_map.1 hfm
    have hj : j < p.c.length := by simpa using hj
    refine ⟨(hx j hj).1, (hx j hj).1.nonneg.2 ?_⟩
    rw [(hx j hj).2]
    exact div_ge0 (rqp d0) (dir_nn d0 hle j)
  · intro w hw
    obtain ⟨l, hl, rfl⟩ := List.mem_iff_getElem.1 hw
    obtain ⟨k1, k2, k3, k4, k5⟩ := prod_ok' (hr.1 _ hw)
    have hwn : (p.r[l]).1.length = p.c.length := (h.vp.2.2.2.2 _ hw).1
    have hgd : p.r.getD l rw0 = p.r[l] := by rw [List.getD_eq_getElem?_getD]; simp [hl]
    have hR := h.ini.1 l hl
    have hrow := dir_row h.ini I Z hcC hl
    rw [hgd] at hR hrow
    have dq := rq0 d0
    have e1 : val ((prod (p.r[l]).1 (lst p.c.length (ry c s4 p.r.length))).1, (prod (p.r[l]).1 (lst p.c.length (ry c s4 p.r.length))).2.1) * ((s4.2.2 : Rat) * (by' l : Rat)) = ((sI p.c.length (fun k => s0.1 l k * dir p.r.length s4.1 (bN s4) s4.2.2 c k) : Int) : Rat) := by
      rw [k5, hwn, ← sm_int, ← sm_mul]
      apply sm_congr; intro j hj
      rw [hxa j hj, Rat.intCast_mul, hR.co j hj]
      unfold at'; grind
    rw [hrow] at e1
    have hba : (by' l : Rat) = (sg (by' l) : Rat) * ((by' l).natAbs : Int) := by rw [← Rat.intCast_mul, ← sg_abs]
    have hab : 0 < (((by' l).natAbs : Int) : Rat) := rqp (by have := hR.b0; omega)
    have hsg : (sg (by' l) : Rat) * (sg (by' l) : Rat) = 1 := by rw [← Rat.intCast_mul]; unfold sg; split <;> rfl
    have hdn := dir_nn (p := p) (s := s4) (c := c) d0 hle (p.c.length + l)
    generalize dir p.r.length s4.1 (bN s4) s4.2.2 c (p.c.length + l) = t at *
    generalize hV : val ((prod (p.r[l]).1 (lst p.c.length (ry c s4 p.r.length))).1, (prod (p.r[l]).1 (lst p.c.length (ry c s4 p.r.length))).2.1) = V at *
    have e2 : V * ((s4.2.2 : Rat) * (((by' l).natAbs : Int) : Rat)) = ((-(sns p.r[l] * t) : Int) : Rat) := by
      have e3 : V * ((s4.2.2 : Rat) * (by' l : Rat)) * (sg (by' l) : Rat) = ((-(sg (by' l) * sns p.r[l] * t) : Int) : Rat) * (sg (by' l) : Rat) := by rw [e1]
      rw [Rat.intCast_neg, Rat.intCast_mul, Rat.intCast_mul] at e3
      rw [Rat.intCast_neg, Rat.intCast_mul]
      rw [hba] at e3
      grind
    have hD : 0 < (s4.2.2 : Rat) * (((by' l).natAbs : Int) : Rat) := Rat.mul_pos (rqp d0) hab
    have e4 : V = ((-(sns p.r[l] * t) : Int) : Rat) / ((s4.2.2 : Rat) * (((by' l).natAbs : Int) : Rat)) := by
      rw [← e2]; grind
    refine ⟨hr.1 _ hw, ?_, ?_⟩
    · rintro ⟨hs, hpos⟩
      have := k4.pos.1 hpos
      rw [hV, e4] at this
      have : ((-(sns p.r[l] * t) : Int) : Rat) / ((s4.2.2 : Rat) * (((by' l).natAbs : Int) : Rat)) ≤ 0 := div_le0 hD (by
        have : 0 ≤ sns p.r[l] * t := Int.mul_nonneg (by unfold sns; split <;> first | omega | (rw [if_neg hs]; omega)) hdn
        omega)
      grind
    · rintro ⟨hs, hng⟩
      have := k4.neg.1 hng
      rw [hV, e4] at this
      have : 0 ≤ ((-(sns p.r[l] * t) : Int) : Rat) / ((s4.2.2 : Rat) * (((by' l).natAbs : Int) : Rat)) := div_ge0 hD (by
        have : sns p.r[l] * t ≤ 0 := Int.mul_nonpos_of_nonpos_of_nonneg (by unfold sns; rw [if_neg hs]; split <;> omega) hdn
        omega)
      grind
  · obtain ⟨k1, k2, k3, k4, k5⟩ := prod_ok' hr.2
    apply k4.neg.2
    rw [k5, cost_val h.vp k.sc1.1 k.scd d0 hxa, sI_dir (fun j _ hb => cc_hi hb) (fun hb => cc_hi hb)]
    have e := I.inv.cost c (by omega)
    rw [← e]
    have h2 : 0 < ((s4.2.2 : Rat) * (sc : Rat))⁻¹ := Rat.inv_pos.2 (Rat.mul_pos (rqp d0) (rqp (by have := k.sc1; omega)))
    have h3 : ((s4.1 p.r.length c : Int) : Rat) < 0 := Rat.intCast_neg_iff.2 hneg
    rw [Rat.div_def]
    have := Rat.mul_pos (a := -((s4.1 p.r.length c : Int) : Rat)) (by grind) h2
    grind
end Go.Proofs.Ytdkfgecaejmanaa
