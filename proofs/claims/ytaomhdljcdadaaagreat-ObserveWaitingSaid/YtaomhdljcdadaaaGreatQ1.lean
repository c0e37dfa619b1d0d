/- Lemmas that the proofs of this seat use (Q1 So4 Mre). Conditions: those that stand in each theorem. -/
import Derived.Test.YtaomhdljcdadaaaGreatQc
import Derived.Test.YtaomhdljcdadaaaGreatS9
import Derived.Test.YtaomhdljcdadaaaGreatMrd
import Derived.Test.YtaomhdljcdadaaaGreatSxW
import Derived.Test.YtaomhdljcdadaaaGreatQrs
import Derived.Test.YtaomhdljcdadaaaGreatMr
set_option linter.unusedVariables false
set_option linter.unusedSimpArgs false
section
namespace Go.Proofs.YtaomhdljcdadaaaGreat
open Go.Sx Go.Pk Go.Mc Go.Np
set_option maxRecDepth 4000
set_option maxHeartbeats 2000000
theorem RQuM_ok (n : Nt) (hn : NL n) (p : List Pk) (hp : p.length ≤ 60) (hR : RtP n p) (ms : List (List Int)) (hm : MsL ms) (l : Int) : Ctr Tryz.prog 20 [ntv n, .psl 3 (pks p), .agg [.vec 0], i64 l] [.mat 1 (ms.map ints)]
  (fun r o => o = [.mat 1 (ms.map ints), .vec 3 (pks (pkq (toF n p) (quL n p (dR ms) l p.length))), .vec 1 (ints (ixs (quL n p (dR ms) l p.length)))] ∧ r = .tup [.vec 1, .vec 2]) := by
 refine Ctr.mono (Ctr.borrowM (esz := 1) (ms := ms.map ints) (RQu_ok n hn p hp hR ms hm l) rfl ?_) ?_
 ·rintro r o ⟨rfl, rfl⟩
  refine ⟨rfl, fun c hc => ?_⟩
  simp only [List.mem_cons, List.not_mem_nil, or_false] at hc
  rcases hc with rfl | rfl
  ·refine ⟨_, _, rfl, fun r hr s hs => ?_⟩
   obtain ⟨x, _, rfl⟩ := List.mem_map.1 hr
   simp only [List.mem_cons, List.not_mem_nil, or_false] at hs
   rcases hs with rfl | rfl | rfl <;> rfl
  ·refine ⟨_, _, rfl, fun r hr s hs => ?_⟩
   obtain ⟨x, _, rfl⟩ := List.mem_map.1 hr
   simp only [List.mem_cons, List.not_mem_nil, or_false] at hs
   rcases hs with rfl; rfl
 ·rintro r o ⟨r1, o1, ⟨rfl, rfl⟩, rfl, rfl⟩
  exact ⟨rfl, rfl⟩
def emR (n : Nt) (p : List Pk) (i : Nat) : List (List Int) := (List.range i).map fun j => List.replicate (pfl n (p.getD j pk0)).rt.length (-1)
theorem emR_len (n : Nt) (p : List Pk) (i : Nat) : (emR n p i).length = i := by simp [emR]
theorem emR_app (n : Nt) (p : List Pk) (i : Nat) : mtz (emR n p (i + 1)) = mtz (emR n p i) ++ [ints (List.replicate (pfl n (p.getD i pk0)).rt.length (-1))] := by
 simp [emR, mtz, List.range_succ]
theorem emR_at {n : Nt} {p : List Pk} {i : Nat} (h : i < p.length) : (emR n p p.length).getD i [] = List.replicate (pfl n (p.getD i pk0)).rt.length (-1) := by
 simp [emR, List.getD_eq_getElem?_getD, h]
theorem emR_sh {n : Nt} {p : List Pk} {N : Nat} : ShM (toF n p) N (emR n p p.length) ∧ ∀ i k, i < p.length → k < ((toF n p).rt i).length → dR (emR n p p.length) i k = -1 := by
 have hl : ∀ i, ((toF n p).rt i).length = (pfl n (p.getD i pk0)).rt.length := fun i => List.length_map _
 have hd : ∀ i k, i < p.length → k < ((toF n p).rt i).length → dR (emR n p p.length) i k = -1 := fun i k hi hk => by
  rw [hl] at hk
  unfold dR
  rw [emR_at hi, List.getD_eq_getElem?_getD, List.getElem?_replicate, if_pos hk]; rfl
 exact ⟨⟨emR_len n p _, fun i hi => by rw [emR_at hi, List.length_replicate, hl], fun i k hi hk => by rw [hd i k hi hk]; omega⟩, hd⟩
theorem aP_Q1 {A B K : Prop} (k : K) (a : A := by (simp only [zA, zT, zD, zC, zN, ints_len, zR, Go.Cv.vals_len]; omega)) (b : B := by (simp only [zA, zT, zD, zC, zN, ints_len, zR, Go.Cv.vals_len]; omega)) : (A ∧ B) ∧ K := ⟨⟨a, b⟩, k⟩
theorem z2_Q1 {G H : Prop} (k : H) (h : H → G := by first | exact fun r => aS r | exact fun r => aG r | exact fun r => aD r | exact fun r => aH r | exact fun r => aP_Q1 r | exact fun r => aI r | exact fun r => aJ r | exact fun r => aW (.qs [0, 1, 2, 3, 4, 5, 6, 7, 8, 9, 10] (.l 11 [] (.qs [12] .nil) .no)) r) : G := h k
theorem z1_Q1 {G H : Prop} (k : H) (h : H → G := by first | exact fun r => aS r | exact fun r => aG r | exact fun r => aD r | exact fun r => aP_Q1 r | exact fun r => aI r | exact fun r => aJ r | exact fun r => aW (.qs [0, 1, 2, 3, 4, 5, 6, 7, 8, 9, 10] (.l 11 [] (.qs [12] .nil) .no)) r) : G := h k
theorem REmp_ok (n : Nt) (hn : NL n) (p : List Pk) (h : SkP n p) : Ctr Tryz.prog 60 [ntv n, .psl 3 (pks p)] [] (fun r o => o = [nbx n, .box [.vec 3], .box [.vec 3], .mat 1 (mtz (emR n p p.length))] ∧ r = .agg [.vec 3]) := by
 refine fn_intro (E := env 0) tys_ok rfl rfl rfl Tryz.func60 (by kernel_rfl) rfl (by kernel_rfl) ?_
 have h60 := h.l
 have hpl := pks_len p
 have hfl := fll n.fl
 (repeat' (conv => whnf); first | (refine aC (fun _ => ?_) (fun _ => ?_) <;> try (exfalso; omega)) | refine z1_Q1 ?_ | fail); all_goals try (conv => whnf)
 refine .mk [.nm 2 0 1] ?_
 refine LoopOb.mk (Y := Nat) (st := fun i => ⟨[(6, i64 i), (5, .ptr 2 0), (4, .ptr 1 0), (2, .ptr 0 0), (1, .psl 3 (pks p))], [nbx n, .box [.nil], .box [.vec 3], .mat 1 (mtz (emR n p i))]⟩)
  (inv := fun i => i ≤ p.length) (fun i => p.length - i) 0 [0, 1, 2, 3] (by omega) (by (exact aL)) ?_
 rintro i hi
 have hml := (mtz_len (emR n p i)).trans (emR_len n p i)
 by_cases hip : i < p.length
 ·have hg := pks_get hip
  obtain ⟨f1, f2, _, _, hRt, _⟩ := h.fl hip
  have hfg := flg (l := n.fl) (i := (p.getD i pk0).f.toNat) (by omega)
  have r4 := hRt.l2
  have hap := emR_app n p i
  unfold pfl at r4 hap
  generalize p.getD i pk0 = x at *
  generalize n.fl.getD x.f.toNat fl0 = f at *
  have hrl := ints_len f.rt
  (repeat' (conv => whnf); first | refine ⟨x.f.toNat, _, by omega, hfg, ?_⟩ | refine ⟨i, _, rfl, hg, ?_⟩ | (refine aC (fun _ => ?_) (fun _ => ?_) <;> try (exfalso; omega)) | refine aS ?_ | refine aG ?_ | refine aD ?_ | refine aH ?_ | refine aP_Q1 ?_ | refine aI ?_ | refine aJ ?_ | refine ⟨_, _, rfl, rfl, Nat.le_refl _, ⟨by (simp only; omega), by omega⟩, ?_⟩ | refine aW (.qs [0, 1, 2, 3, 4, 5, 6, 7, 8, 9, 10] (.l 11 [] (.qs [12] .nil) .no)) ?_ | fail); all_goals try (conv => whnf)
  have hr0 : List.replicate (ints f.rt).length [i64 0] = ivs f.rt.length (neg 0) := by rw [ints_len, neg_zero]; exact ivs_rep _ _
  have hil := fun F => ivs_len f.rt.length F
  have hi0 := hil (neg 0)
  refine LoopOb.mk (Y := Nat) (st := fun k => ⟨[(29, i64 k), (28, i64 (ivs f.rt.length (neg 0)).length), (7, .vec 4), (6, i64 i), (5, .ptr 2 0), (4, .ptr 1 0), (2, .ptr 0 0), (1, .psl 3 (pks p))], [nbx n, .box [.nil], .box [.vec 3], .mat 1 (mtz (emR n p i)), .vec 1 (ivs f.rt.length (neg k))]⟩)
   (inv := fun k => k ≤ f.rt.length) (fun k => f.rt.length - k) 0 [0, 1, 2, 3, 4] (by omega) (by rw [← hr0]; (exact aL)) ?_
  rintro k hk
  have hi1 := hil (neg k)
  by_cases hkl : k < f.rt.length
  ·(repeat' (conv => whnf); first | (refine aC (fun _ => ?_) (fun _ => ?_) <;> try (exfalso; omega)) | refine z2_Q1 ?_ | refine ⟨k, rfl, by omega, ?_⟩ | refine ⟨_, ivs_get hkl, ?_⟩ | fail); all_goals try (conv => whnf)
   exact ⟨k + 1, [0, 1, 2, 3, 4], by omega, by omega, by rw [← neg_set]; (exact aL)⟩
  ·obtain rfl : k = f.rt.length := by omega
   rw [neg_all]
   have hfin : ivs f.rt.length (fun _ => -1) = ints (List.replicate f.rt.length (-1)) := by rw [← ivs_rep]; simp [ints]
   rw [hfin]
   (repeat' (conv => whnf); first | (refine aC (fun _ => ?_) (fun _ => ?_) <;> try (exfalso; omega)) | refine z2_Q1 ?_ | fail); all_goals try (conv => whnf)
   exact ⟨i + 1, [0, 1, 2, 6], by omega, by omega, by rw [hap]; (exact aL)⟩
 ·obtain rfl : i = p.length := by omega
  (repeat' (conv => whnf); first | (refine aC (fun _ => ?_) (fun _ => ?_) <;> try (exfalso; omega)) | refine z2_Q1 ?_ | fail); all_goals try (conv => whnf)
  exact ⟨rfl, rfl⟩
end Go.Proofs.YtaomhdljcdadaaaGreat
end
section
namespace Go.Proofs.YtaomhdljcdadaaaGreat
open Go.Sx Go.Pk Go.Mc Go.Np
set_option maxRecDepth 4000
set_option maxHeartbeats 2000000
def liN (n : Nt) : Li := ⟨n.ln.length, fun l => chL (n.ln.getD l ln0), fun l => (n.ln.getD l ln0).c.toNat⟩
theorem MsL.of {n : Nt} {p : List Pk} (h : SkP n p) {N : Nat} (hN : N ≤ 2000) {ms : List (List Int)} (hm : ShM (toF n p) N ms) : MsL ms := by
 have hl : ms.length = p.length := hm.l
 have h60 := h.l
 have hr : ∀ i, i < p.length → (ms.getD i []).length ≤ 4 := fun i hi => by
  rw [hm.r i hi]
  have := (h.fl hi).2.2.2.2.1.l2
  show ((pfl n (p.getD i pk0)).rt.map Int.toNat).length ≤ 4
  rw [List.length_map]; exact this
 refine ⟨by omega, fun i => ?_, fun i j => ?_⟩
 ·by_cases hi : i < p.length
  ·have := hr i hi; omega
  ·rw [List.getD_eq_getElem?_getD, List.getElem?_eq_none (by omega)]; simp
 ·by_cases hi : i < p.length
  ·by_cases hj : j < (ms.getD i []).length
   ·have := hm.b i j hi (by rw [← hm.r i hi]; exact hj)
    rw [getD_dflt (b := -1) hj]
    unfold dR at this; omega
   ·rw [List.getD_eq_getElem?_getD, List.getElem?_eq_none (by omega)]; simp
  ·rw [List.getD_eq_getElem?_getD (l := ms), List.getElem?_eq_none (by omega)]; simp
theorem qu_PL {n : Nt} {p : List Pk} (h : SkP n p) {N : Nat} (hN : N ≤ 2000) {ms : List (List Int)} (hm : ShM (toF n p) N ms) {l : Nat} :
  PL (pkq (toF n p) (qu (toF n p) (dR ms) l)) ∧ ∀ k, k < (pkq (toF n p) (qu (toF n p) (dR ms) l)).length → 0 ≤ cl (pkq (toF n p) (qu (toF n p) (dR ms) l)) k ∧ cl (pkq (toF n p) (qu (toF n p) (dR ms) l)) k < (n.ln.getD l ln0).n := by
 have hq := qu_ok (toF n p) (dR ms) l
 have key : ∀ k, k < (qu (toF n p) (dR ms) l).length → ∃ x, (pkq (toF n p) (qu (toF n p) (dR ms) l)).getD k pk0 = ⟨(pfl n (p.getD x.i pk0)).cl, x.a, (p.getD x.i pk0).s⟩ ∧ x ∈ qu (toF n p) (dR ms) l := fun k hk => ⟨_, pkq_at hk, List.getElem_mem hk⟩
 have hb := fun i k (hi : i < p.length) hk => (hm.b i k hi hk).2
 refine ⟨⟨?_, pkq_asc hq.o, fun k hk => ?_, fun k hk => ?_⟩, fun k hk => ?_⟩
 ·rw [pkq_len]; have := qu_len n p (dR ms) l; have := h.l; omega
 ·rw [pkq_len] at hk
  obtain ⟨x, e, hx⟩ := key k hk
  have := h.qu hN hb hx
  rw [e]; exact ⟨this.2.1, this.2.2.1⟩
 ·rw [pkq_len] at hk
  obtain ⟨x, e, hx⟩ := key k hk
  have := h.qu hN hb hx
  rw [e]; exact ⟨this.2.2.2.1, this.2.2.2.2.1⟩
 ·rw [pkq_len] at hk
  obtain ⟨x, e, hx⟩ := key k hk
  have := h.qu hN hb hx
  unfold cl
  rw [e]; exact ⟨this.2.2.2.2.2.1, this.2.2.2.2.2.2.1⟩
theorem pas_at {F : Tf} {D : Tp} {l : Nat} {q : List Wt} (hq : Qu F D l q) (Z : Li) (N : Nat) {k : Nat} (hk : k < q.length) : pas F Z N D l q[k].i = (run (Z.C l) (pkq F q) (Z.c l) N).dn k := by
 have e := hq.uniq (qu_ok F D l)
 subst e
 unfold pas
 rw [hq.plc hk]
end Go.Proofs.YtaomhdljcdadaaaGreat
end
section
namespace Go.Mc
open Go.Pk
variable {F : Tf} {Z : Li} {N : Nat} {D : Tp}
def Eu (F : Tf) (D : Tp) (l x : Nat) : Prop := ∃ h, hp F l x = some h ∧ D x h < 0
structure LeI (F : Tf) (Z : Li) (N : Nat) (D : Tp) (S : Nat → Nat → Prop) (L : Int) : Prop where
 lo : -1 ≤ L
 mn : ∀ l x, S l x → 0 ≤ pas F Z N D l x → Eu F D l x → 0 ≤ L ∧ L ≤ pas F Z N D l x
 at' : 0 ≤ L → ∃ l x, x < F.np ∧ pas F Z N D l x = L ∧ Eu F D l x
def SQ (q : List Wt) (i k : Nat) : Nat → Nat → Prop := fun l x => l < i ∨ (l = i ∧ inQ (q.take k) x = true)
theorem SQ.next {q : List Wt} {i k : Nat} (hk : k < q.length) : ∀ l' x', SQ q i (k + 1) l' x' ↔ SQ q i k l' x' ∨ (l' = i ∧ x' = q[k].i) := fun l' x' => by
 unfold SQ
 rw [inQ_take hk, Bool.or_eq_true, decide_eq_true_iff]
 constructor
 ·rintro (h | ⟨h1, h2 | h2⟩)
  ·exact .inl (.inl h)
  ·exact .inl (.inr ⟨h1, h2⟩)
  ·exact .inr ⟨h1, h2.symm⟩
 ·rintro ((h | ⟨h1, h2⟩) | ⟨h1, h2⟩)
  ·exact .inl h
  ·exact .inr ⟨h1, .inl h2⟩
  ·exact .inr ⟨h1, .inr h2.symm⟩
theorem SQ.fresh {l' : Nat} {q : List Wt} (hq : Qu F D l' q) {i k : Nat} (hk : k < q.length) : ¬SQ q i k i q[k].i := fun h => by
 rcases h with h | ⟨_, h⟩
 ·omega
 ·rw [hq.fresh hk] at h; cases h
theorem SQ.zero (q : List Wt) (i : Nat) : ∀ l x, SQ q i 0 l x ↔ l < i := fun l x => by
 unfold SQ
 rw [List.take_zero]
 exact ⟨fun h => h.elim id fun h => (by cases h.2), .inl⟩
theorem LeI.put {S S' : Nat → Nat → Prop} {L : Int} (h : LeI F Z N D S L) {l x k : Nat} (hx : x < F.np) (hh : hp F l x = some k) (hS' : ∀ l' x', S' l' x' ↔ S l' x' ∨ (l' = l ∧ x' = x)) (h0 : 0 ≤ pas F Z N D l x) (hd : D x k < 0) (hc : L < 0 ∨ pas F Z N D l x < L) : LeI F Z N D S' (pas F Z N D l x) :=
 ⟨by omega, fun l' x' hs h1 h2 => by
  rcases (hS' l' x').1 hs with h3 | ⟨rfl, rfl⟩
  ·have := h.mn l' x' h3 h1 h2; omega
  ·omega, fun _ => ⟨l, x, hx, rfl, k, hh, hd⟩⟩
theorem LeI.skip {S S' : Nat → Nat → Prop} {L : Int} (h : LeI F Z N D S L) {l x k : Nat} (hh : hp F l x = some k) (hS' : ∀ l' x', S' l' x' ↔ S l' x' ∨ (l' = l ∧ x' = x)) (hc : ¬(0 ≤ pas F Z N D l x ∧ D x k < 0 ∧ (L < 0 ∨ pas F Z N D l x < L))) : LeI F Z N D S' L :=
 ⟨h.lo, fun l' x' hs h1 h2 => by
  rcases (hS' l' x').1 hs with h3 | ⟨rfl, rfl⟩
  ·exact h.mn l' x' h3 h1 h2
  ·obtain ⟨k', e1, e2⟩ := h2
   rw [hh] at e1
   obtain rfl := Option.some.inj e1
   omega, h.at'⟩
theorem LeI.weak {S S' : Nat → Nat → Prop} {L : Int} (h : LeI F Z N D S L) (hS' : ∀ l' x', S' l' x' → S l' x' ∨ pas F Z N D l' x' < 0) : LeI F Z N D S' L :=
 ⟨h.lo, fun l' x' hs h1 h2 => by
  rcases hS' l' x' hs with h3 | h3
  ·exact h.mn l' x' h3 h1 h2
  ·omega, h.at'⟩
theorem SQ.done {q : List Wt} {i : Nat} (hq : Qu F D i q) : ∀ l' x', l' < i + 1 → SQ q i q.length l' x' ∨ pas F Z N D l' x' < 0 := fun l' x' hl => by
 by_cases e : l' = i
 ·subst e
  unfold SQ
  rw [List.take_length]
  by_cases c : inQ q x' = true
  ·exact .inl (.inr ⟨rfl, c⟩)
  ·exact .inr (by rw [pas_out hq (by simpa using c)]; omega)
 ·exact .inl (.inl (by omega))
structure FrI (F : Tf) (Z : Li) (N : Nat) (D : Tp) (S : Nat → Nat → Prop) (L : Int) (fr : Nat → Bool) : Prop where
 f : ∀ x h, x < F.np → h + 1 < (F.rt x).length → fr (lin F x (h + 1)) = true → S (lin F x h) x → pas F Z N D (lin F x h) x = L → ¬D x h < 0
theorem FrI.zero {L : Int} {fr : Nat → Bool} {S : Nat → Nat → Prop} (h : ∀ l x, ¬S l x) : FrI F Z N D S L fr := ⟨fun _ _ _ _ _ hs => absurd hs (h _ _)⟩
theorem FrI.put (hR : Rts F) {S S' : Nat → Nat → Prop} {L : Int} {fr fr' : Nat → Bool} (h : FrI F Z N D S L fr) {l x k : Nat} (hx : x < F.np) (hh : hp F l x = some k) (hS' : ∀ l' x', S' l' x' ↔ S l' x' ∨ (l' = l ∧ x' = x))
  (hf : ∀ l', fr' l' = true → fr l' = true) (hc : pas F Z N D l x = L → D x k < 0 → k + 1 < (F.rt x).length → fr' (lin F x (k + 1)) = false) : FrI F Z N D S' L fr' :=
 ⟨fun x' h' hx' hh' h1 hs hp' hd' => by
  rcases (hS' _ _).1 hs with h3 | ⟨e1, rfl⟩
  ·exact h.f x' h' hx' hh' (hf _ h1) h3 hp' hd'
  ·have h4 := hp_lin hR hx (h := h') (by omega)
   rw [e1, hh] at h4
   obtain rfl := Option.some.inj h4
   rw [e1] at hp'
   rw [hc hp' hd' hh'] at h1; cases h1⟩
theorem FrI.weak {S S' : Nat → Nat → Prop} {L : Int} {fr : Nat → Bool} (h : FrI F Z N D S L fr) (hL : 0 ≤ L) (hS' : ∀ l' x', S' l' x' → S l' x' ∨ pas F Z N D l' x' < 0) : FrI F Z N D S' L fr :=
 ⟨fun x h' hx hh h1 hs hp' => by
  rcases hS' _ _ hs with h3 | h3
  ·exact h.f x h' hx hh h1 h3 hp'
  ·omega⟩
theorem LeI.end0 (hR : Rts F) {T : Nat} (hc : CT F Z N T D) (hL : ∀ i h, i < F.np → h < (F.rt i).length → lin F i h < Z.n) {L : Int} (h : LeI F Z N D (fun l _ => l < Z.n) L) (h0 : L < 0) : ∀ i k, i < F.np → k < (F.rt i).length → D i k = tr F Z N i k :=
 hc.fin hR fun i k hi hk hd => Classical.byContradiction fun hn => by
  have := h.mn (lin F i k) i (hL i k hi hk) (by omega) ⟨k, hp_lin hR hi hk, hd⟩
  omega
theorem LeI.end1 (hR : Rts F) {T : Nat} (hc : CT F Z N T D) (hL : ∀ i h, i < F.np → h < (F.rt i).length → lin F i h < Z.n) {L : Int} (h : LeI F Z N D (fun l _ => l < Z.n) L) (h0 : 0 ≤ L) : ∃ K : Nat, L = K ∧ T ≤ K ∧ K < N ∧ CT F Z N K D := by
 obtain ⟨l, x, hx, hp', k, hh, hd⟩ := h.at' h0
 obtain ⟨h1, h2⟩ := hp_some hh
 obtain ⟨K, rfl⟩ : ∃ K : Nat, L = K := ⟨L.toNat, by omega⟩
 have h3 := hc.ge hR hx h1 (by rw [h2, hp']; omega) hd
 rw [h2, hp'] at h3
 have h4 := pas_bd F Z N D l x
 refine ⟨K, rfl, by omega, by omega, CT.up hR (fun i k hi hk hd hp2 => ?_) hc (j := K - T) (by omega)⟩
 exact (h.mn (lin F i k) i (hL i k hi hk) hp2 ⟨k, hp_lin hR hi hk, hd⟩).2
theorem rdM_eqv {ms : List (List Int)} {L : Int} {S S' : Nat → Nat → Prop} (h : ∀ l i, pas F Z N (dR ms) l i = L → (S l i ↔ S' l i)) : rdM F Z N ms L S = rdM F Z N ms L S' :=
 rows_ext (by rw [rdM_len, rdM_len]) (fun j => by rw [rdM_rlen, rdM_rlen]) fun j k hj hk => by
  rw [rdM_rlen] at hk
  rw [rdM_at hk, rdM_at hk]
  exact ite_of ⟨fun c => ⟨(h _ _ c.2.1).1 c.1, c.2⟩, fun c => ⟨(h _ _ c.2.1).2 c.1, c.2⟩⟩
theorem rdM_ct (hR : Rts F) (hL : ∀ i h, i < F.np → h < (F.rt i).length → lin F i h < Z.n) {ms : List (List Int)} (hS : ShM F N ms) {K : Nat} (hc : CT F Z N K (dR ms)) : CT F Z N (K + 1) (dR (rdM F Z N ms K fun l _ => l < Z.n)) :=
 hc.step hR fun i k hi hk => by
  rw [rdM_at (by rw [hS.r i hi]; exact hk)]
  exact ite_of ⟨fun c => c.2, fun c => ⟨hL i k hi hk, c⟩⟩
theorem rdM_qu (hR : Rts F) (hL : ∀ i h, i < F.np → h < (F.rt i).length → lin F i h < Z.n) {ms : List (List Int)} (hS : ShM F N ms) {K : Nat} (hc : CT F Z N K (dR ms)) {fr : Nat → Bool} (hF : FrI F Z N (dR ms) (fun l _ => l < Z.n) K fr) {l : Nat} (hl : fr l = true) :
  qu F (dR (rdM F Z N ms K fun l _ => l < Z.n)) l = qu F (dR ms) l :=
 qu_keep (hc.mon hR) ((rdM_ct hR hL hS hc).mon hR) fun i k hi hk e => by
  rw [rdM_at (by rw [hS.r i hi]; omega)]
  refine if_neg fun c => ?_
  exact hF.f i k hi hk (by rw [e]; exact hl) (hL i k hi (by omega)) c.2.1 c.2.2
end Go.Mc
end
