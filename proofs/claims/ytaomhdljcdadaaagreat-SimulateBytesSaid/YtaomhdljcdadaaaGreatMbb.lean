/-
  A text of the proofs of this seat: lemmas that the statements' proofs use; it states nothing of the program by itself beyond the contracts that its theorems bear. Conditions: those that stand in each theorem. Its short name: Mbb Fz Len1.
-/
import Derived.Test.YtaomhdljcdadaaaGreatV2
import Derived.Test.YtaomhdljcdadaaaGreatSxC
import Derived.Test.YtaomhdljcdadaaaGreatSo7
import Derived.Test.YtaomhdljcdadaaaGreatSo10
import Derived.Test.YtaomhdljcdadaaaGreatSd2
set_option linter.unusedVariables false
set_option linter.unusedSimpArgs false
section
namespace Go.Mc
open Go.Pk Go.Np
/-! a network whose lines send in the order of arrival -/
abbrev fzL (l : Ln) : Ln := ⟨1, l.c, 1, [], []⟩
def fzN (n : Nt) (g : Fl → Fl) : Nt := ⟨n.nm, n.ln.map fzL, n.fl.map g⟩
/- how flows may be changed -/
structure FzG (g : Fl → Fl) (f : Fl) : Prop where
  nm : (g f).nm = f.nm
  rt : (g f).rt = f.rt
  cl : (g f).cl = 0
  v : (g f).v = f.v ∧ (g f).p = f.p ∧ (g f).q = f.q
  s : 1 ≤ (g f).lo ∧ (g f).lo ≤ (g f).hi ∧ (g f).hi ≤ 1500
theorem map_getD {α β : Type} {g : α → β} {l : List α} {a : α} {b : β} {i : Nat} (h : i < l.length) : (l.map g).getD i b = g (l.getD i a) := by
  simp [List.getD_eq_getElem?_getD, h]
theorem fz_chk {n : Nt} {g : Fl → Fl} (h : chkN n = 0) (hg : ∀ f ∈ n.fl, FzG g f) : chkN (fzN n g) = 0 := by
  obtain ⟨h1, h2, h3, h4⟩ := chkN_zero h
  have hll : (fzN n g).ln.length = n.ln.length := List.length_map _
  have hfl : (fzN n g).fl.length = n.fl.length := List.length_map _
  refine chkN_ok (by rw [hll, hfl]; exact h1) (by rw [hll]; exact h2) ?_ ?_
  · intro j hj
    rw [hll] at hj
    have := h3 j hj
    have hln := chk_ln h hj
    have e : (fzN n g).ln.getD j ln0 = fzL (n.ln.getD j ln0) := map_getD hj
    have hz : lnErr (fzL (n.ln.getD j ln0)) = 0 := by
      unfold lnErr at hln
      split at hln
      · cases hln
      split at hln
      · cases hln
      unfold lnErr lsErr
      dsimp only
      rw [if_neg (by omega), if_neg (by omega), if_neg (by omega), if_neg (by simp)]
    unfold lineE at this ⊢
    rw [e, hz]
    show (if nmErr (n.nm.take j) (n.nm.getD j bs0) ≠ 0 then _ else _) = _
    split at this
    · exact absurd this (by assumption)
    · rename_i hc
      rw [if_neg hc]
  · intro j hj
    rw [hfl] at hj
    have := h4 j hj
    have e : (fzN n g).fl.getD j fl0 = g (n.fl.getD j fl0) := map_getD hj
    have hG := hg (n.fl.getD j fl0) (Go.Np.getD_in hj)
    have hR := chk_rt h hj
    have en : ((fzN n g).fl.take j).map (·.nm) = (n.fl.take j).map (·.nm) := by
      show ((n.fl.map g).take j).map (·.nm) = _
      rw [← List.map_take, List.map_map]
      refine List.map_congr_left fun f hf => ?_
      exact (hg f (List.mem_of_mem_take hf)).nm
    unfold flowE at this ⊢
    rw [e, en, hG.nm]
    split at this
    · exact absurd this (by assumption)
    · rename_i hc
      rw [if_neg hc]
      split at this
      · exact absurd this (by assumption)
      · have hr : routeE (fzN n g).ln (g (n.fl.getD j fl0)) = 0 := by
          unfold routeE
          rw [hG.rt, if_neg (by have := hR.l1; omega), if_neg (by have := hR.l2; omega)]
          refine firstE_all fun k hk => ?_
          have hb := hR.b k hk
          unfold hopE
          rw [hG.rt, hG.cl, hll, if_neg (by omega), if_neg, if_neg]
          · have e2 : (fzN n g).ln.getD ((n.fl.getD j fl0).rt.getD k 0).toNat ln0 = fzL (n.ln.getD ((n.fl.getD j fl0).rt.getD k 0).toNat ln0) := map_getD (by omega)
            rw [e2]; dsimp only; omega
          · intro hm
            rw [List.mem_iff_getElem] at hm
            obtain ⟨m, hm1, hm2⟩ := hm
            rw [List.length_take] at hm1
            rw [List.getElem_take] at hm2
            refine hR.d m k (by omega) hk ?_
            rw [← hm2, List.getD_eq_getElem?_getD, List.getElem?_eq_getElem (by omega)]; rfl
        rw [hr, if_neg (by simp)]
        unfold trafE at this ⊢
        rw [hG.v.1, hG.v.2.1, hG.v.2.2]
        have hs := hG.s
        rw [if_neg (by omega)]
        split at this
        · cases this
        · exact this
theorem fz_sk {n : Nt} {g : Fl → Fl} {p : List Pk} (h : chkN n = 0) (hS : SndP n p) (hl : p.length ≤ 60) (hg : ∀ f ∈ n.fl, FzG g f ∧ (g f).lo = f.lo ∧ (g f).hi = f.hi) : SkP (fzN n g) p := by
  have hfl : (fzN n g).fl.length = n.fl.length := List.length_map _
  refine SndP.sk ⟨fun i hi => ?_, fun i hi => ?_, hS.t, hS.o⟩ (fz_chk h fun f hf => (hg f hf).1) hl
  · rw [hfl]; exact hS.f i hi
  · have hf := hS.f i hi
    have e : pfl (fzN n g) (p.getD i pk0) = g (pfl n (p.getD i pk0)) := map_getD (by omega)
    have := (hg (pfl n (p.getD i pk0)) (Go.Np.getD_in (by omega))).2
    rw [e, this.1, this.2]
    exact hS.s i hi
/- sums and greatest ticks of packets -/
def byN (p : List Pk) (i : Nat) : Nat := sumN (fun k => (p.getD k pk0).s.toNat) i
def laN (p : List Pk) : Nat → Int
  | 0 => 0
  | i + 1 => max (laN p i) (p.getD i pk0).t
theorem laN_bd {p : List Pk} {B : Int} (h0 : 0 ≤ B) : ∀ {m : Nat}, (∀ i, i < m → (p.getD i pk0).t ≤ B) → 0 ≤ laN p m ∧ laN p m ≤ B ∧ ∀ i, i < m → (p.getD i pk0).t ≤ laN p m
  | 0, _ => ⟨Int.le_refl _, h0, fun i hi => by omega⟩
  | m + 1, h => by
    obtain ⟨a, b, c⟩ := laN_bd h0 (m := m) fun i hi => h i (by omega)
    have := h m (by omega)
    simp only [laN]
    refine ⟨by omega, by omega, fun i hi => ?_⟩
    rcases Nat.lt_succ_iff_lt_or_eq.1 hi with e | e
    · have := c i e; omega
    · subst e; omega
theorem byN_bd {p : List Pk} {B : Nat} : ∀ {m : Nat}, (∀ i, i < m → (p.getD i pk0).s ≤ B) → byN p m ≤ B * m
  | 0, _ => Nat.zero_le _
  | m + 1, h => by
    have := byN_bd (p := p) (B := B) (m := m) fun i hi => h i (by omega)
    have h2 := h m (by omega)
    unfold byN at *
    simp only [sumN]
    rw [Nat.mul_succ]
    omega
theorem ends {n : Nt} {p : List Pk} (h : SkP n p) {Z : Li} (hZ : Z.n = n.ln.length) (hf : ∀ l, l < Z.n → Z.C l = fifoC ∧ 1 ≤ Z.c l) {N : Nat} (hN : (N : Int) = 4 * ((byN p p.length : Nat) + 2) + laN p p.length + 1) :
    ∀ i, i < p.length → -1 ∉ (trR (toF n p) Z N).getD i [] := by
  have hla := laN_bd (p := p) (B := 380) (by omega) (m := p.length) fun i hi => (h.fl hi).2.2.2.1
  intro i hi hm
  rw [trR_row (show i < (toF n p).np from hi), List.mem_map] at hm
  obtain ⟨k, hk, e⟩ := hm
  rw [List.mem_range] at hk
  have := tr_ends (F := toF n p) (Z := Z) (N := N) (last := (laN p p.length).toNat) h.rts (fun i h' hi hh => by rw [hZ]; exact (h.lnn hi hh).2) hf (fun j hj => by
    obtain ⟨_, _, _, _, hG, s1, _⟩ := h.fl (i := j) hj
    have := hG.s1
    show 1 ≤ (p.getD j pk0).s
    omega) (fun j hj => by
    have := hla.2.2 j hj
    show (p.getD j pk0).t ≤ _
    omega) (fun j hj => by
    have := (h.fl (i := j) hj).2.2.2.2.1.l2
    show ((pfl n (p.getD j pk0)).rt.map Int.toNat).length ≤ 4
    rw [List.length_map]; exact this) (by
    show _ + 4 * sumN (fun i => ((p.getD i pk0).s).toNat) p.length + 1 ≤ N
    unfold byN at hN
    omega) i k hi hk
  omega
end Go.Mc
end
section
namespace Go.Proofs.YtaomhdljcdadaaaGreat
open Go.Sx Go.Pk Go.Mc Go.Np
set_option maxRecDepth 4000
set_option maxHeartbeats 2000000
/-! networks that are changed in place -/
abbrev lnz (l : Ln) : List SV := [i64 1, i64 l.c, i64 1, .nil, .nil]
def lzR (ls : List Ln) (i : Nat) : List (List SV) := (ls.take i).map lnz ++ lns (ls.drop i)
theorem lzR_len (ls : List Ln) (i : Nat) : (lzR ls i).length = ls.length := by
  simp only [lzR, List.length_append, List.length_map, List.length_take, lnl, List.length_drop]; omega
theorem lzR_get {ls : List Ln} {i : Nat} (h : i < ls.length) : (lzR ls i)[i]? = some (lnv (ls.getD i ln0)) := by
  have hl : ((ls.take i).map lnz).length = i := by simp; omega
  unfold lzR
  rw [List.getElem?_append_right (by omega), hl, Nat.sub_self]
  simp [lns, List.getD_eq_getElem?_getD, h]
theorem lzR_set {ls : List Ln} {i : Nat} (h : i < ls.length) : (lzR ls i).set i (lnz (ls.getD i ln0)) = lzR ls (i + 1) := by
  have hl : ((ls.take i).map lnz).length = i := by simp; omega
  have e : ls.getD i ln0 = ls[i] := by rw [List.getD_eq_getElem?_getD, List.getElem?_eq_getElem h]; rfl
  unfold lzR
  rw [List.set_append_right _ _ (by omega), hl, Nat.sub_self, List.drop_eq_getElem_cons h, List.take_succ_eq_append_getElem h, e]
  show (ls.take i).map lnz ++ lnz ls[i] :: lns (ls.drop (i + 1)) = (ls.take i ++ [ls[i]]).map lnz ++ lns (ls.drop (i + 1))
  rw [List.map_append, List.append_assoc]; rfl
theorem lzR_zero (ls : List Ln) : lzR ls 0 = lns ls := by simp [lzR]
theorem lzR_all (ls : List Ln) : lzR ls ls.length = ls.map lnz := by simp [lzR, lns]
def fzR (g : Fl → Fl) (fs : List Fl) (i : Nat) : List (List SV) := fls ((fs.take i).map g ++ fs.drop i)
theorem fzR_len (g : Fl → Fl) (fs : List Fl) (i : Nat) : (fzR g fs i).length = fs.length := by
  simp only [fzR, fll, List.length_append, List.length_map, List.length_take, List.length_drop]; omega
theorem fzR_get {g : Fl → Fl} {fs : List Fl} {i : Nat} (h : i < fs.length) : (fzR g fs i)[i]? = some (flv (fs.getD i fl0)) := by
  have hl : ((fs.take i).map g).length = i := by simp; omega
  unfold fzR fls
  rw [List.map_append, List.getElem?_append_right (by rw [List.length_map]; omega), List.length_map, hl, Nat.sub_self]
  simp [List.getD_eq_getElem?_getD, h]
theorem fzR_set {g : Fl → Fl} {fs : List Fl} {i : Nat} (h : i < fs.length) : (fzR g fs i).set i (flv (g (fs.getD i fl0))) = fzR g fs (i + 1) := by
  have hl : ((fs.take i).map g).length = i := by simp; omega
  have e : fs.getD i fl0 = fs[i] := by rw [List.getD_eq_getElem?_getD, List.getElem?_eq_getElem h]; rfl
  unfold fzR fls
  rw [List.map_append, List.set_append_right _ _ (by rw [List.length_map]; omega), List.length_map, hl, Nat.sub_self, List.drop_eq_getElem_cons h, List.take_succ_eq_append_getElem h, e]
  show ((fs.take i).map g).map flv ++ flv (g fs[i]) :: (fs.drop (i + 1)).map flv = ((fs.take i ++ [fs[i]]).map g ++ fs.drop (i + 1)).map flv
  rw [List.map_append, List.map_append, List.map_append, List.append_assoc]; rfl
theorem fzR_zero (g : Fl → Fl) (fs : List Fl) : fzR g fs 0 = fls fs := by simp [fzR]
theorem fzR_all (g : Fl → Fl) (fs : List Fl) : fzR g fs fs.length = fls (fs.map g) := by simp [fzR]
theorem lnz_imp : ∀ ls : List Ln, ImpR (ls.map lnz) (lns (ls.map fzL))
  | [] => trivial
  | l :: ls => ⟨⟨Imp.refl _, Imp.refl _, Imp.refl _, Imp.nil _, Imp.nil _, trivial⟩, lnz_imp ls⟩
theorem fz_nl {n : Nt} {g : Fl → Fl} (hn : NL n) (hg : ∀ f ∈ n.fl, FzG g f) : NL (fzN n g) := by
  refine ⟨hn.nm, ?_, ?_, hn.ns, fun l hl => ?_, fun f hf => ?_⟩
  · show (n.ln.map fzL).length ≤ _
    rw [List.length_map]; exact hn.ln
  · show (n.fl.map g).length ≤ _
    rw [List.length_map]; exact hn.fl
  · obtain ⟨l', _, rfl⟩ := List.mem_map.1 (show l ∈ n.ln.map fzL from hl)
    simp
  · obtain ⟨f', hf', rfl⟩ := List.mem_map.1 (show f ∈ n.fl.map g from hf)
    have := hn.fs f' hf'
    have h := hg f' hf'
    rw [h.nm, h.rt, h.v.1]; exact this
theorem fz_fifo {n : Nt} {g : Fl → Fl} (h : chkN n = 0) {l : Nat} (hl : l < n.ln.length) : (liN (fzN n g)).C l = fifoC ∧ 1 ≤ (liN (fzN n g)).c l ∧ (liN (fzN n g)).c l = (n.ln.getD l ln0).c.toNat := by
  have e : (fzN n g).ln.getD l ln0 = fzL (n.ln.getD l ln0) := map_getD hl
  have hc := chk_ln h hl
  have hb : 1 ≤ (n.ln.getD l ln0).c := by
    unfold lnErr at hc
    split at hc
    · cases hc
    split at hc
    · cases hc
    omega
  refine ⟨?_, ?_, ?_⟩
  · show chL ((fzN n g).ln.getD l ln0) = fifoC
    rw [e]; exact if_pos rfl
  · show 1 ≤ ((fzN n g).ln.getD l ln0).c.toNat
    rw [e]; dsimp only; omega
  · show ((fzN n g).ln.getD l ln0).c.toNat = _
    rw [e]
end Go.Proofs.YtaomhdljcdadaaaGreat
end
section
namespace Go.Proofs.YtaomhdljcdadaaaGreat
open Go.Sx Go.Pk Go.Mc Go.Np
set_option maxRecDepth 4000
set_option maxHeartbeats 2000000
/-! SimulateEnds -/
abbrev cl0 (f : Fl) : Fl := { f with cl := 0 }
theorem cl0_g {ml mf k : Nat} {n : Nt} (h : NetG ml mf k n) : ∀ f ∈ n.fl, FzG cl0 f ∧ (cl0 f).lo = f.lo ∧ (cl0 f).hi = f.hi := fun f hf => by
  have := h.g.fg f hf
  have h1 := this.lo
  have h2 := this.hi
  exact ⟨⟨rfl, rfl, rfl, ⟨rfl, rfl, rfl⟩, by dsimp only; omega⟩, rfl, rfl⟩
theorem aP_Len1 {A B K : Prop} (k : K) (a : A := by (simp only [zA, zT, zD, zC, zN, ints_len, zR, Go.Cv.vals_len]; omega)) (b : B := by (simp only [zA, zT, zD, zC, zN, ints_len, zR, Go.Cv.vals_len]; omega)) : (A ∧ B) ∧ K := ⟨⟨a, b⟩, k⟩
theorem Ends_ok (l : List Int) (hl : l.length ≤ 9223372036854775807) :
    Ctr Tryz.prog 10 [.psl 1 (ints l)] [] (fun r o => r = .bl true) := by
  refine fn_intro (E := env 0) tys_ok rfl rfl rfl Tryz.func10 (by kernel_rfl) rfl (by kernel_rfl) ?_
  have hL : (l.take 2000).length ≤ 2000 := by rw [List.length_take]; omega
  (repeat' (conv => whnf); first | (refine aC (fun _ => ?_) (fun _ => ?_) <;> try (exfalso; omega)) | refine aS ?_ | refine aG ?_ | refine aD ?_ | refine aH ?_ | refine aP_Len1 ?_ | refine aI ?_ | refine aJ ?_ | refine aW (.qs [0, 1, 2, 3, 4, 5, 6, 7, 8, 9, 10] (.l 11 [] .nil .no)) ?_ | refine aW (.qs [0, 1, 2, 3, 4, 5, 6, 7, 8, 9, 10, 11, 12, 13, 14, 15, 16, 17, 18, 19, 20, 21, 22, 23] (.l 24 [] (.qs [25] .nil) .no)) ?_ | (refine aK [] (sane_ok) ?_) | (refine aK [] (New_ok l hl) ?_) | fail); all_goals try (conv => whnf)
  · rfl
  refine CallOb.mk [0] (NetO_ok _ 0 hL (by omega) 3 4 (by omega) (by omega)) rfl (ImpL.refl _) rfl rfl ?_
  rintro _ _ ⟨⟨n, k, p1⟩, ⟨hG, hp1⟩, rfl, rfl⟩
  dsimp only at hG hp1 ⊢
  have hn := hG.nl
  have hchk := hG.g.chk
  have hmf := hG.mf
  have hml := hG.ml
  have hsz : ∀ f ∈ n.fl, 1 ≤ f.lo ∧ f.lo ≤ f.hi ∧ f.hi ≤ 1500 := fun f hf => by
    have := hG.g.fg f hf
    have h1 := this.lo
    have h2 := this.hi
    omega
  have hsz7 : ∀ f ∈ n.fl, f.hi ≤ 7 := fun f hf => (hG.g.fg f hf).hi.2
  have hcg := cl0_g hG
  (repeat' (conv => whnf); first | (refine aC (fun _ => ?_) (fun _ => ?_) <;> try (exfalso; omega)) | refine aS ?_ | refine aG ?_ | refine aD ?_ | refine aH ?_ | refine aP_Len1 ?_ | refine aI ?_ | refine aJ ?_ | refine aW (.qs [0, 1, 2, 3, 4, 5, 6, 7, 8, 9, 10] (.l 11 [] .nil .no)) ?_ | refine aW (.qs [0, 1, 2, 3, 4, 5, 6, 7, 8, 9, 10, 11, 12, 13, 14, 15, 16, 17, 18, 19, 20, 21, 22, 23] (.l 24 [] (.qs [25] .nil) .no)) ?_ | fail); all_goals try (conv => whnf)
  refine CallOb.mk [0, 3, 4] (SendsO_ok _ p1 hL hp1 n (by omega) hsz 12 (by omega)) rfl (ImpL.refl _) rfl rfl ?_
  rintro _ _ ⟨⟨p, p2⟩, ⟨hS, hp12, hp2⟩, rfl, rfl⟩
  dsimp only at hS hp12 hp2 ⊢
  have hK := fz_sk hchk hS (by omega) hcg
  (repeat' (conv => whnf); first | (refine aC (fun _ => ?_) (fun _ => ?_) <;> try (exfalso; omega)) | refine aS ?_ | refine aG ?_ | refine aD ?_ | refine aH ?_ | refine aP_Len1 ?_ | refine aI ?_ | refine aJ ?_ | refine aW (.qs [0, 1, 2, 3, 4, 5, 6, 7, 8, 9, 10] (.l 11 [] .nil .no)) ?_ | refine aW (.qs [0, 1, 2, 3, 4, 5, 6, 7, 8, 9, 10, 11, 12, 13, 14, 15, 16, 17, 18, 19, 20, 21, 22, 23] (.l 24 [] (.qs [25] .nil) .no)) ?_ | fail); all_goals try (conv => whnf)
  have hpl := pks_len p
  have hll := lnl n.ln
  have hfl := fll n.fl
  refine LoopOb.mk (Y := Nat) (st := fun i => ⟨[(29, i64 i), (28, i64 (lns n.ln).length), (5, .vec 3), (4, .ptr 2 0)], [.vec 5 (lzR n.ln i), .vec 8 (fls n.fl), .box [.psl 1 (strs n.nm), .vec 0, .vec 1], .vec 3 (pks p)]⟩)
    (inv := fun i => i ≤ n.ln.length) (fun i => n.ln.length - i) 0 [3, 4, 5, 6] (by omega) (by rw [lzR_zero]; (exact aL)) ?_
  rintro i hi
  have hzl := lzR_len n.ln i
  by_cases hil : i < n.ln.length
  · have hg := lzR_get hil
    have hst := lzR_set hil
    generalize n.ln.getD i ln0 = w at *
    (repeat' (conv => whnf); first | (refine aC (fun _ => ?_) (fun _ => ?_) <;> try (exfalso; omega)) | refine aS ?_ | refine aG ?_ | refine aD ?_ | refine aH ?_ | refine aP_Len1 ?_ | refine aI ?_ | refine aJ ?_ | refine aW (.qs [0, 1, 2, 3, 4, 5, 6, 7, 8, 9, 10] (.l 11 [] .nil .no)) ?_ | refine aW (.qs [0, 1, 2, 3, 4, 5, 6, 7, 8, 9, 10, 11, 12, 13, 14, 15, 16, 17, 18, 19, 20, 21, 22, 23] (.l 24 [] (.qs [25] .nil) .no)) ?_ | refine ⟨i, rfl, by omega, ?_⟩ | refine ⟨_, hg, ?_⟩ | fail); all_goals try (conv => whnf)
    exact ⟨i + 1, [0, 1, 2, 3], by omega, by omega, by rw [← hst]; (exact aL)⟩
  obtain rfl : i = n.ln.length := by omega
  rw [lzR_all]
  have hzl : (n.ln.map lnz).length = n.ln.length := List.length_map _
  (repeat' (conv => whnf); first | (refine aC (fun _ => ?_) (fun _ => ?_) <;> try (exfalso; omega)) | refine aS ?_ | refine aG ?_ | refine aD ?_ | refine aH ?_ | refine aP_Len1 ?_ | refine aI ?_ | refine aJ ?_ | refine aW (.qs [0, 1, 2, 3, 4, 5, 6, 7, 8, 9, 10] (.l 11 [] .nil .no)) ?_ | refine aW (.qs [0, 1, 2, 3, 4, 5, 6, 7, 8, 9, 10, 11, 12, 13, 14, 15, 16, 17, 18, 19, 20, 21, 22, 23] (.l 24 [] (.qs [25] .nil) .no)) ?_ | fail); all_goals try (conv => whnf)
  refine LoopOb.mk (Y := Nat) (st := fun i => ⟨[(47, i64 i), (46, i64 (fls n.fl).length), (5, .vec 3), (4, .ptr 2 0)], [.vec 5 (n.ln.map lnz), .vec 8 (fzR cl0 n.fl i), .box [.psl 1 (strs n.nm), .vec 0, .vec 1], .vec 3 (pks p)]⟩)
    (inv := fun i => i ≤ n.fl.length) (fun i => n.fl.length - i) 0 [0, 1, 2, 3] (by omega) (by rw [fzR_zero]; (exact aL)) ?_
  clear hil hi hzl
  rintro i hi
  have hzl := fzR_len cl0 n.fl i
  by_cases hil : i < n.fl.length
  · have hg := fzR_get (g := cl0) hil
    have hst := fzR_set (g := cl0) hil
    generalize n.fl.getD i fl0 = w at *
    (repeat' (conv => whnf); first | (refine aC (fun _ => ?_) (fun _ => ?_) <;> try (exfalso; omega)) | refine aS ?_ | refine aG ?_ | refine aD ?_ | refine aH ?_ | refine aP_Len1 ?_ | refine aI ?_ | refine aJ ?_ | refine aW (.qs [0, 1, 2, 3, 4, 5, 6, 7, 8, 9, 10] (.l 11 [] .nil .no)) ?_ | refine aW (.qs [0, 1, 2, 3, 4, 5, 6, 7, 8, 9, 10, 11, 12, 13, 14, 15, 16, 17, 18, 19, 20, 21, 22, 23] (.l 24 [] (.qs [25] .nil) .no)) ?_ | refine ⟨i, rfl, by omega, ?_⟩ | refine ⟨_, hg, ?_⟩ | fail); all_goals try (conv => whnf)
    exact ⟨i + 1, [0, 1, 2, 3], by omega, by omega, by rw [← hst]; (exact aL)⟩
  obtain rfl : i = n.fl.length := by omega
  rw [fzR_all]
  clear hil hi hzl
  (repeat' (conv => whnf); first | (refine aC (fun _ => ?_) (fun _ => ?_) <;> try (exfalso; omega)) | refine aS ?_ | refine aG ?_ | refine aD ?_ | refine aP_Len1 ?_ | refine aI ?_ | refine aJ ?_ | refine aW (.qs [0, 1, 2, 3, 4, 5, 6, 7, 8, 9, 10] (.l 11 [] .nil .no)) ?_ | refine aW (.qs [0, 1, 2, 3, 4, 5, 6, 7, 8, 9, 10, 11, 12, 13, 14, 15, 16, 17, 18, 19, 20, 21, 22, 23] (.l 24 [] (.qs [25] .nil) .no)) ?_ | fail); all_goals try (conv => whnf)
  refine .mk [.fz 0, .fz 1, .fz 3] ?_
  have hl7 : ∀ i, i < p.length → (p.getD i pk0).s ≤ 7 := fun i hi => by
    have h1 := hS.f i hi
    have h2 := (hS.s i hi).2
    have := hsz7 (pfl n (p.getD i pk0)) (Go.Np.getD_in (by omega))
    omega
  have hs0 : ∀ i, i < p.length → 0 ≤ (p.getD i pk0).s := fun i hi => by
    have h1 := hS.f i hi
    have h2 := (hS.s i hi).1
    have := (hsz (pfl n (p.getD i pk0)) (Go.Np.getD_in (by omega))).1
    omega
  have hby := fun m (hm : m ≤ p.length) => byN_bd (p := p) (B := 7) (m := m) fun i hi => hl7 i (by omega)
  have hla := fun m (hm : m ≤ p.length) => laN_bd (p := p) (B := 380) (by omega) (m := m) fun i hi => (hK.fl (i := i) (by omega)).2.2.2.1
  have hst : ∀ i, i < p.length → 0 ≤ (p.getD i pk0).t ∧ (p.getD i pk0).t ≤ 380 := fun i hi => ⟨(hK.fl hi).2.2.1, (hK.fl hi).2.2.2.1⟩
  refine LoopOb.mk (Y := Nat) (st := fun i => ⟨[(58, i64 i), (57, i64 (pks p).length), (56, .psl 3 (pks p)), (9, i64 (laN p i)), (8, i64 (byN p i : Nat)), (5, .psl 3 (pks p)), (4, .ptr 0 0)], [.box [.psl 1 (strs n.nm), .psl 5 (n.ln.map lnz), .psl 8 (fls (n.fl.map cl0))]]⟩)
    (inv := fun i => i ≤ p.length) (fun i => p.length - i) 0 [2] (by omega) (by simp only [laN, byN, sumN]; (exact aL)) ?_
  rintro i hi
  have h1 := hby i hi
  have h2 := hla i hi
  by_cases hip : i < p.length
  · have hg := pks_get hip
    have h3 := hl7 i hip
    have h4 := hs0 i hip
    have h5 := hst i hip
    have e1 : laN p (i + 1) = max (laN p i) (p.getD i pk0).t := rfl
    have e2 : ((byN p (i + 1) : Nat) : Int) = (byN p i : Nat) + (p.getD i pk0).s := by
      have : byN p (i + 1) = byN p i + (p.getD i pk0).s.toNat := rfl
      omega
    generalize p.getD i pk0 = x at *
    generalize laN p i = la at *
    generalize byN p i = by' at *
    (repeat' (conv => whnf); first | refine ⟨i, _, rfl, hg, ?_⟩ | (refine aC (fun _ => ?_) (fun _ => ?_) <;> try (exfalso; omega)) | refine aS ?_ | refine aG ?_ | refine aD ?_ | refine aH ?_ | refine aP_Len1 ?_ | refine aI ?_ | refine aJ ?_ | refine aW (.qs [0, 1, 2, 3, 4, 5, 6, 7, 8, 9, 10] (.l 11 [] .nil .no)) ?_ | refine aW (.qs [0, 1, 2, 3, 4, 5, 6, 7, 8, 9, 10, 11, 12, 13, 14, 15, 16, 17, 18, 19, 20, 21, 22, 23] (.l 24 [] (.qs [25] .nil) .no)) ?_ | fail); all_goals try (conv => whnf)
    exact ⟨i + 1, [0], by omega, by omega, by rw [e1, e2]; (exact aL)⟩
  obtain rfl : i = p.length := by omega
  have h84 : byN p p.length ≤ 84 := by omega
  obtain ⟨N, hN⟩ : ∃ N : Nat, (N : Int) = 4 * ((byN p p.length : Nat) + 2) + laN p p.length + 1 := ⟨(4 * ((byN p p.length : Nat) + 2) + laN p p.length + 1).toNat, by omega⟩
  have hmn : (fzN n cl0).ln.length = n.ln.length := List.length_map _
  have hend := ends hK (Z := liN (fzN n cl0)) rfl (fun l hl => by
    have := fz_fifo (g := cl0) hchk (l := l) (by rw [← hmn]; exact hl)
    exact ⟨this.1, this.2.1⟩) hN
  have cA := Run_ok (fzN n cl0) (fz_nl hn fun f hf => (hcg f hf).1) p hK N (by omega)
  have hsA := trR_sh (F := toF (fzN n cl0) p) (Z := liN (fzN n cl0)) (N := N) hK.rts
  generalize trR (toF (fzN n cl0) p) (liN (fzN n cl0)) N = A at *
  have hlA : (A.map ints).length = p.length := by rw [List.length_map]; exact hsA.l
  generalize byN p p.length = by' at *
  generalize laN p p.length = la at *
  have hmul : (4 : Int) * ((by' : Int) + 2) ≤ 344 ∧ 0 ≤ (4 : Int) * ((by' : Int) + 2) := by omega
  (repeat' (conv => whnf); first | (refine aC (fun _ => ?_) (fun _ => ?_) <;> try (exfalso; omega)) | refine aS ?_ | refine aG ?_ | refine aD ?_ | refine aH ?_ | refine aP_Len1 ?_ | refine aI ?_ | refine aJ ?_ | refine aW (.qs [0, 1, 2, 3, 4, 5, 6, 7, 8, 9, 10] (.l 11 [] .nil .no)) ?_ | refine aW (.qs [0, 1, 2, 3, 4, 5, 6, 7, 8, 9, 10, 11, 12, 13, 14, 15, 16, 17, 18, 19, 20, 21, 22, 23] (.l 24 [] (.qs [25] .nil) .no)) ?_ | fail); all_goals try (conv => whnf)
  refine CallOb.mk [] cA rfl ⟨Imp.agg ⟨Imp.refl _, Imp.pslr (lnz_imp _), Imp.refl _, trivial⟩, Imp.refl _, Imp.num (by omega), trivial⟩ rfl rfl ?_
  rintro _ _ ⟨rfl, rfl⟩
  (repeat' (conv => whnf); first | (refine aC (fun _ => ?_) (fun _ => ?_) <;> try (exfalso; omega)) | refine aS ?_ | refine aG ?_ | refine aD ?_ | refine aP_Len1 ?_ | refine aI ?_ | refine aJ ?_ | refine aW (.qs [0, 1, 2, 3, 4, 5, 6, 7, 8, 9, 10] (.l 11 [] .nil .no)) ?_ | refine aW (.qs [0, 1, 2, 3, 4, 5, 6, 7, 8, 9, 10, 11, 12, 13, 14, 15, 16, 17, 18, 19, 20, 21, 22, 23] (.l 24 [] (.qs [25] .nil) .no)) ?_ | fail); all_goals try (conv => whnf)
  refine .mk [.fm 1] ?_
  have htA := trs_len A
  have hAl : A.length = p.length := hsA.l
  refine LoopOb.mk (Y := Nat) (st := fun i => ⟨[(96, i64 i), (95, i64 (A.map ints).length), (12, .ptr 1 0), (5, .psl 3 (pks p)), (4, .ptr 0 0)], [.box [.psl 1 (strs n.nm), .psl 5 (n.ln.map lnz), .psl 8 (fls (n.fl.map cl0))], .box [.psl 1 (trs A)]]⟩)
    (inv := fun i => i ≤ p.length) (fun i => p.length - i) 0 [0, 3] (by omega) (by (exact aL)) ?_
  rintro i hi
  by_cases hip : i < p.length
  · have hg := pks_get hip
    obtain ⟨f1, f2, _, _, hRt, _⟩ := hK.fl hip
    have hfml : (fzN n cl0).fl.length = n.fl.length := List.length_map _
    have hfg : (fls (n.fl.map cl0))[(p.getD i pk0).f.toNat]? = some (flv ((n.fl.map cl0).getD (p.getD i pk0).f.toNat fl0)) := flg (by rw [List.length_map]; omega)
    have hrt : ((toF (fzN n cl0) p).rt i).length = ((n.fl.map cl0).getD (p.getD i pk0).f.toNat fl0).rt.length := List.length_map _
    have gA := trs_get (ms := A) (i := i) (by omega)
    have rA := hsA.r i hip
    have r4 : ((n.fl.map cl0).getD (p.getD i pk0).f.toNat fl0).rt.length ≤ 4 := hRt.l2
    have hno := hend i hip
    have hff : (fls (n.fl.map cl0)).length = n.fl.length := by rw [fll, List.length_map]
    generalize p.getD i pk0 = x at *
    generalize (n.fl.map cl0).getD x.f.toNat fl0 = f at *
    generalize A.getD i [] = ra at *
    have cI := In_ok ra (by omega) (-1)
    have hrl := ints_len f.rt
    have hrl2 := ints_len ra
    rw [eq_false hno] at cI
    (repeat' (conv => whnf); first | refine ⟨x.f.toNat, _, by omega, hfg, ?_⟩ | refine ⟨i, _, rfl, gA, ?_⟩ | refine ⟨i, _, rfl, hg, ?_⟩ | (refine aC (fun _ => ?_) (fun _ => ?_) <;> try (exfalso; omega)) | refine aS ?_ | refine aG ?_ | refine aD ?_ | refine aH ?_ | refine aP_Len1 ?_ | refine aI ?_ | refine aJ ?_ | refine aW (.qs [0, 1, 2, 3, 4, 5, 6, 7, 8, 9, 10] (.l 11 [] .nil .no)) ?_ | refine aW (.qs [0, 1, 2, 3, 4, 5, 6, 7, 8, 9, 10, 11, 12, 13, 14, 15, 16, 17, 18, 19, 20, 21, 22, 23] (.l 24 [] (.qs [25] .nil) .no)) ?_ | (refine aK [] (cI) ?_) | fail); all_goals try (conv => whnf)
    exact ⟨i + 1, [0, 1], by omega, by omega, by (exact aL)⟩
  · obtain rfl : i = p.length := by omega
    (repeat' (conv => whnf); first | (refine aC (fun _ => ?_) (fun _ => ?_) <;> try (exfalso; omega)) | refine aS ?_ | refine aG ?_ | refine aD ?_ | refine aH ?_ | refine aP_Len1 ?_ | refine aI ?_ | refine aJ ?_ | refine aW (.qs [0, 1, 2, 3, 4, 5, 6, 7, 8, 9, 10] (.l 11 [] .nil .no)) ?_ | refine aW (.qs [0, 1, 2, 3, 4, 5, 6, 7, 8, 9, 10, 11, 12, 13, 14, 15, 16, 17, 18, 19, 20, 21, 22, 23] (.l 24 [] (.qs [25] .nil) .no)) ?_ | (refine aK [] (sane_ok) ?_) | fail); all_goals try (conv => whnf)
    rfl
end Go.Proofs.YtaomhdljcdadaaaGreat
end
