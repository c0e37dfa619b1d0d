/-
  A text of the proofs of this seat: lemmas that the statements' proofs use; it states nothing of the program by itself beyond the contracts that its theorems bear. Conditions: those that stand in each theorem. Its short name: Mbf Mlo.
-/
import Derived.Test.YtaomhdljcdadaaaGreatMy
set_option linter.unusedVariables false
set_option linter.unusedSimpArgs false
section
namespace Go.Mc
open Go.Pk Go.Np
/- what a line does with its queue in a trip -/
structure LnO (F : Tf) (Z : Li) (N l : Nat) (q : List Wt) (d : Nat → Int) : Prop where
  v : ∀ k (hk : k < q.length) h, hp F l q[k].i = some h → tr F Z N q[k].i h = d k
  p : ∀ k (hk : k < q.length), q[k].i < F.np ∧ ∃ h, hp F l q[k].i = some h
  t : ∀ k (hk : k < q.length), d k = -1 ∨ (q[k].a ≤ d k ∧ 0 ≤ d k ∧ d k < N)
  m : ∀ j k (hj : j < q.length) (hk : k < q.length), j ≤ k → q[j].a ≤ q[k].a
  o : ∀ j k, j < k → cl (pkq F q) j = cl (pkq F q) k → d k ≠ -1 → d j ≠ -1 ∧ d j ≤ d k
  c : ∀ a k : Nat, (∀ (h0 : 0 < q.length), (a : Int) ≤ q[0].a) → a + k ≤ N → doneS (pkq F q) d a k ≤ Z.c l * k
theorem ln_order {F : Tf} (hR : Rts F) (Z : Li) (N l : Nat) : LnO F Z N l (qu F (tr F Z N) l) (fun k => (run (Z.C l) (pkq F (qu F (tr F Z N) l)) (Z.c l) N).dn k) := by
  have hq := qu_ok F (tr F Z N) l
  have hasc := pkq_asc (F := F) hq.o
  have hI := run_inv hasc (C := Z.C l) (c := Z.c l) N
  have hm : ∀ j k (hj : j < (qu F (tr F Z N) l).length) (hk : k < (qu F (tr F Z N) l).length), j ≤ k → (qu F (tr F Z N) l)[j].a ≤ (qu F (tr F Z N) l)[k].a := fun j k hj hk hjk => by
    have := hasc j k hjk (by rw [pkq_len]; exact hk)
    unfold tm at this
    rw [pkq_at hj, pkq_at hk] at this
    exact this
  refine ⟨fun k hk h hh => ?_, fun k hk => hq.hp (List.getElem_mem hk), fun k hk => ?_, hm, fun j k hjk hc hd => hI.o j k hjk hc hd, fun a k ha hN => ?_⟩
  · obtain ⟨h1, h2⟩ := hp_some hh
    rw [tr_con hR Z N _ h (hq.hp (List.getElem_mem hk)).1 h1, h2]
    unfold pas
    rw [hq.plc hk]
  · rcases hI.d k with h | ⟨_, h1, h2, h3⟩
    · exact .inl h
    · refine .inr ⟨?_, h2, h3⟩
      unfold tm at h1
      rw [pkq_at hk] at h1
      exact h1
  · refine cap_ok hasc (fun i hi => ?_) hN
    rw [pkq_len] at hi
    unfold tm
    rw [pkq_at hi]
    have := ha (by omega)
    have := hm 0 i (by omega) hi (Nat.zero_le _)
    simp only; omega
theorem doneA_succ {p : List Pk} {d : Nat → Int} {v : Int} {i : Nat} : doneA p d v (i + 1) = doneA p d v i + if d i = v then sz p i else 0 := rfl
theorem qu_trR {F : Tf} (Z : Li) (N l : Nat) : qu F (dR (trR F Z N)) l = qu F (tr F Z N) l := by
  refine ord_uniq (qu_ok F _ l).o (qu_ok F _ l).o fun x => ?_
  have key : ∀ i h, i < F.np → hp F l i = some h → arr F (dR (trR F Z N)) i h = arr F (tr F Z N) i h := fun i h hi hh => by
    have h1 := (hp_some hh).1
    have e : ∀ j, j < h → dR (trR F Z N) i j = tr F Z N i j := fun j hj => trR_at hi (by omega)
    unfold arr
    by_cases h0 : h = 0
    · rw [if_pos h0, if_pos h0]
    · rw [if_neg h0, if_neg h0, e (h - 1) (by omega)]
      by_cases hall : ∀ j, j < h → 0 ≤ tr F Z N i j
      · rw [if_pos hall, if_pos fun j hj => by rw [e j hj]; exact hall j hj]
      · rw [if_neg hall, if_neg fun hc => hall fun j hj => by rw [← e j hj]; exact hc j hj]
  rw [(qu_ok F _ l).m, (qu_ok F _ l).m]
  constructor
  · rintro ⟨a, ⟨h, b, c⟩, d⟩; exact ⟨a, ⟨h, b, by rw [← key x.i h a b]; exact c⟩, d⟩
  · rintro ⟨a, ⟨h, b, c⟩, d⟩; exact ⟨a, ⟨h, b, by rw [key x.i h a b]; exact c⟩, d⟩
/- what the law's first map says of some packets -/
def LastI (P : List Pk) (d : Nat → Int) (i : Nat) (g : Int → Option Int) : Prop := ∀ c x, g c = some x → ∃ j, j < i ∧ cl P j = c ∧ d j = x ∧ d j ≠ -1
theorem LastI.skip {P : List Pk} {d : Nat → Int} {i : Nat} {g : Int → Option Int} (h : LastI P d i g) : LastI P d (i + 1) g := fun c x hx => by
  obtain ⟨j, a, b⟩ := h c x hx
  exact ⟨j, by omega, b⟩
theorem LastI.put {P : List Pk} {d : Nat → Int} {i : Nat} {g g' : Int → Option Int} (h : LastI P d i g) (hd : d i ≠ -1) (hg : ∀ c, g' c = if c = cl P i then some (d i) else g c) : LastI P d (i + 1) g' := fun c x hx => by
  rw [hg] at hx
  split at hx
  · rename_i e
    exact ⟨i, by omega, e.symm, Option.some.inj hx, hd⟩
  · obtain ⟨j, a, b⟩ := h c x hx
    exact ⟨j, by omega, b⟩
/- what the second map says -/
def SentI (P : List Pk) (d : Nat → Int) (i : Nat) (g : Int → Option Int) : Prop := ∀ v, 0 ≤ v → (∀ x, g v = some x → x = (doneA P d v i : Nat)) ∧ (g v = none → doneA P d v i = 0)
theorem SentI.skip {P : List Pk} {d : Nat → Int} {i : Nat} {g : Int → Option Int} (h : SentI P d i g) (hd : d i = -1) : SentI P d (i + 1) g := fun v hv => by
  rw [doneA_succ, if_neg (by omega), Nat.add_zero]; exact h v hv
theorem SentI.put {P : List Pk} {d : Nat → Int} {i : Nat} {g g' : Int → Option Int} (h : SentI P d i g) (hg : ∀ v, g' v = if v = d i then some ((doneA P d (d i) i + sz P i : Nat) : Int) else g v) : SentI P d (i + 1) g' := fun v hv => by
  obtain ⟨h1, h2⟩ := h v hv
  rw [doneA_succ, hg]
  by_cases e : v = d i
  · subst e
    rw [if_pos rfl, if_pos rfl]
    exact ⟨fun x hx => (Option.some.inj hx).symm, fun hx => by cases hx⟩
  · rw [if_neg e, if_neg (fun k => e k.symm), Nat.add_zero]
    exact ⟨h1, h2⟩
theorem doneA_le {p : List Pk} {d : Nat → Int} {v : Int} {B : Nat} : ∀ {m : Nat}, (∀ i, i < m → sz p i ≤ B) → doneA p d v m ≤ B * m
  | 0, _ => Nat.zero_le _
  | m + 1, h => by
    have := doneA_le (p := p) (d := d) (v := v) (m := m) fun i hi => h i (by omega)
    have h2 := h m (by omega)
    rw [doneA_succ, Nat.mul_succ]
    split <;> omega
end Go.Mc
end
section
namespace Go.Mc
open Go.Sx Go.Pk
/- a map of integers by its lookups -/
def MpG (m : List (Int × SV)) (g : Int → Option Int) : Prop := ∀ c, m.lookup c = (g c).map fun x => SV.num .i64 x
theorem MpG.hit {m : List (Int × SV)} {g : Int → Option Int} (h : MpG m g) {n v : Int} (hm : m.lookup n ≠ none) : MpG (mset m n (.num .i64 v)) fun c => if c = n then some v else g c := fun c => by
  rw [put_hit hm]; dsimp only; split <;> first | rfl | exact h c
theorem MpG.miss {m : List (Int × SV)} {g : Int → Option Int} (h : MpG m g) {n v : Int} (hm : m.lookup n = none) : MpG (m ++ [(n, .num .i64 v)]) fun c => if c = n then some v else g c := fun c => by
  rw [put_miss hm]; dsimp only; split <;> first | rfl | exact h c
/- the last departures by class -/
structure OrL (P : List Pk) (d : Nat → Int) (m : List (Int × SV)) (k : Nat) : Prop where
  h : ∃ g, MpG m g ∧ LastI P d k g
theorem OrL.zero (P : List Pk) (d : Nat → Int) : OrL P d [] 0 := ⟨fun _ => none, fun _ => rfl, fun c x h => by cases h⟩
theorem OrL.skip {P : List Pk} {d : Nat → Int} {m : List (Int × SV)} {k : Nat} (h : OrL P d m k) : OrL P d m (k + 1) := by
  obtain ⟨g, a, b⟩ := h.h
  exact ⟨g, a, b.skip⟩
theorem OrL.look {P : List Pk} {d : Nat → Int} {m : List (Int × SV)} {k : Nat} (h : OrL P d m k) {c : Int} {v : SV} (hv : m.lookup c = some v) : ∃ j, j < k ∧ cl P j = c ∧ d j ≠ -1 ∧ v = .num .i64 (d j) := by
  obtain ⟨g, a, b⟩ := h.h
  rw [a c] at hv
  cases e : g c with
  | none => rw [e] at hv; cases hv
  | some x =>
    rw [e] at hv
    obtain ⟨j, h1, h2, h3, h4⟩ := b c x e
    exact ⟨j, h1, h2, h4, by rw [h3]; exact (Option.some.inj hv).symm⟩
theorem OrL.hit {P : List Pk} {d : Nat → Int} {m : List (Int × SV)} {k : Nat} (h : OrL P d m k) (hd : d k ≠ -1) (hm : m.lookup (cl P k) ≠ none) : OrL P d (mset m (cl P k) (.num .i64 (d k))) (k + 1) := by
  obtain ⟨g, a, b⟩ := h.h
  exact ⟨_, a.hit hm, b.put hd fun _ => rfl⟩
theorem OrL.miss {P : List Pk} {d : Nat → Int} {m : List (Int × SV)} {k : Nat} (h : OrL P d m k) (hd : d k ≠ -1) (hm : m.lookup (cl P k) = none) : OrL P d (m ++ [(cl P k, .num .i64 (d k))]) (k + 1) := by
  obtain ⟨g, a, b⟩ := h.h
  exact ⟨_, a.miss hm, b.put hd fun _ => rfl⟩
/- the bytes by the tick in which their packets end -/
structure OrM (P : List Pk) (d : Nat → Int) (m : List (Int × SV)) (k : Nat) : Prop where
  h : ∃ g, MpG m g ∧ SentI P d k g
theorem OrM.zero (P : List Pk) (d : Nat → Int) : OrM P d [] 0 := ⟨fun _ => none, fun _ => rfl, fun v _ => ⟨fun x h => (by cases h), fun _ => rfl⟩⟩
theorem OrM.skip {P : List Pk} {d : Nat → Int} {m : List (Int × SV)} {k : Nat} (h : OrM P d m k) (hd : d k = -1) : OrM P d m (k + 1) := by
  obtain ⟨g, a, b⟩ := h.h
  exact ⟨g, a, b.skip hd⟩
theorem OrM.look {P : List Pk} {d : Nat → Int} {m : List (Int × SV)} {k : Nat} (h : OrM P d m k) {u : Int} (hu : 0 ≤ u) : (∀ w, m.lookup u = some w → w = .num .i64 (doneA P d u k : Nat)) ∧ (m.lookup u = none → doneA P d u k = 0) := by
  obtain ⟨g, a, b⟩ := h.h
  obtain ⟨b1, b2⟩ := b u hu
  rw [a u]
  cases e : g u with
  | none => exact ⟨fun w hw => (by cases hw), fun _ => b2 e⟩
  | some x => exact ⟨fun w hw => by rw [← b1 x e]; exact (Option.some.inj hw).symm, fun hw => by cases hw⟩
theorem OrM.hit {P : List Pk} {d : Nat → Int} {m : List (Int × SV)} {k : Nat} (h : OrM P d m k) {u w : Int} (hu : u = d k) (hw : w = ((doneA P d u k + sz P k : Nat) : Int)) (hm : m.lookup u ≠ none) : OrM P d (mset m u (.num .i64 w)) (k + 1) := by
  obtain ⟨g, a, b⟩ := h.h
  subst hu hw
  exact ⟨_, a.hit hm, b.put fun _ => rfl⟩
theorem OrM.miss {P : List Pk} {d : Nat → Int} {m : List (Int × SV)} {k : Nat} (h : OrM P d m k) {u w : Int} (hu : u = d k) (hw : w = ((doneA P d u k + sz P k : Nat) : Int)) (hm : m.lookup u = none) : OrM P d (m ++ [(u, .num .i64 w)]) (k + 1) := by
  obtain ⟨g, a, b⟩ := h.h
  subst hu hw
  exact ⟨_, a.miss hm, b.put fun _ => rfl⟩
end Go.Mc
end
