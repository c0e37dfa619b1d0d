/-
  A text of the proofs of this seat: lemmas that the statements' proofs use; it states nothing of the program by itself beyond the contracts that its theorems bear. Conditions: those that stand in each theorem. Its short name: Mz Lf1.
-/
import Derived.Test.YtaomhdljcdadaaaGreatMx
import Derived.Test.YtaomhdljcdadaaaGreatSo10
import Derived.Test.YtaomhdljcdadaaaGreatNw
import Derived.Test.YtaomhdljcdadaaaGreatKn
set_option linter.unusedVariables false
set_option linter.unusedSimpArgs false
section
namespace Go.Mc
open Go.Pk Go.Np
/-! flows that share no line with others -/
/- the places of the packets of a flow -/
def ofF (p : List Pk) (f : Int) : Nat → List Nat
  | 0 => []
  | i + 1 => if (p.getD i pk0).f = f then ofF p f i ++ [i] else ofF p f i
theorem ofF_mem {p : List Pk} {f : Int} {j : Nat} : ∀ {i : Nat}, j ∈ ofF p f i ↔ j < i ∧ (p.getD j pk0).f = f
  | 0 => by simp [ofF]
  | i + 1 => by
    have ih := ofF_mem (p := p) (f := f) (j := j) (i := i)
    simp only [ofF]
    split
    · rename_i h
      rw [List.mem_append, ih, List.mem_singleton]
      constructor
      · rintro (⟨a, b⟩ | rfl)
        · exact ⟨by omega, b⟩
        · exact ⟨by omega, h⟩
      · rintro ⟨a, b⟩
        rcases Nat.lt_succ_iff_lt_or_eq.1 a with c | c
        · exact .inl ⟨c, b⟩
        · exact .inr c
    · rename_i h
      rw [ih]
      constructor
      · rintro ⟨a, b⟩; exact ⟨by omega, b⟩
      · rintro ⟨a, b⟩
        rcases Nat.lt_succ_iff_lt_or_eq.1 a with c | c
        · exact ⟨c, b⟩
        · subst c; exact absurd b h
theorem ofF_ord {p : List Pk} {f : Int} : ∀ i, (ofF p f i).Pairwise (· < ·)
  | 0 => by simp [ofF]
  | i + 1 => by
    simp only [ofF]
    split
    · rw [List.pairwise_append]
      refine ⟨ofF_ord i, List.pairwise_singleton _ _, fun a ha b hb => ?_⟩
      rw [List.mem_singleton] at hb
      subst hb
      exact (ofF_mem.1 ha).1
    · exact ofF_ord i
theorem ofF_len {p : List Pk} {f : Int} : ∀ i, (ofF p f i).length ≤ i
  | 0 => by simp [ofF]
  | i + 1 => by
    have := ofF_len (p := p) (f := f) i
    simp only [ofF]
    split
    · rw [List.length_append, List.length_singleton]; omega
    · omega
/- the packets of a flow -/
def ownF (p : List Pk) (f : Int) (i : Nat) : List Pk := (ofF p f i).map fun j => p.getD j pk0
theorem ownF_len {p : List Pk} {f : Int} {i : Nat} : (ownF p f i).length = (ofF p f i).length := by simp [ownF]
theorem ownF_at {p : List Pk} {f : Int} {i j : Nat} (h : j < (ofF p f i).length) : (ownF p f i).getD j pk0 = p.getD ((ofF p f i)[j]) pk0 := by
  simp [ownF, List.getD_eq_getElem?_getD, h]
theorem ownF_sk {n : Nt} {p : List Pk} (h : SkP n p) (f : Int) : SkP n (ownF p f p.length) := by
  have hl := ofF_len (p := p) (f := f) p.length
  have hm : ∀ j (hj : j < (ofF p f p.length).length), (ofF p f p.length)[j] < p.length := fun j hj => (ofF_mem.1 (List.getElem_mem hj)).1
  refine ⟨h.h, by rw [ownF_len]; have := h.l; omega, fun i hi => ?_, fun i hi => ?_⟩
  · rw [ownF_len] at hi
    rw [ownF_at hi]
    exact h.g _ (hm i hi)
  · rw [ownF_len] at hi
    rw [ownF_at hi]
    cases i with
    | zero =>
      have := (h.fl (hm 0 hi)).2.2.1
      simpa [lst] using this
    | succ i =>
      simp only [lst]
      rw [ownF_at (show i < (ofF p f p.length).length by omega)]
      refine h.mono ?_ (hm _ hi)
      exact Nat.le_of_lt (List.pairwise_iff_getElem.1 (ofF_ord p.length) i (i + 1) (by omega) hi (by omega))
/- a flow that is alone on its lines is served as if there were no others -/
theorem tr_alone {n : Nt} {p : List Pk} (h : SkP n p) (Z : Li) {N : Nat} {f : Int} (hf : ∀ i, i < p.length → (p.getD i pk0).f ≠ f → ∀ j k l, j < p.length → (p.getD j pk0).f = f → hp (toF n p) l j = some k → hp (toF n p) l i = none)
    {j k : Nat} (hj : j < (ofF p f p.length).length) (hk : k < ((toF n (ownF p f p.length)).rt j).length) :
    tr (toF n (ownF p f p.length)) Z N j k = tr (toF n p) Z N ((ofF p f p.length)[j]) k := by
  have hK := ownF_sk h f
  have hR := hK.rts
  obtain ⟨at', hat⟩ : ∃ a, a = ofF p f p.length := ⟨_, rfl⟩
  have hm : ∀ j (hj : j < at'.length), at'[j] < p.length ∧ (p.getD at'[j] pk0).f = f := fun j hj => by subst hat; exact ofF_mem.1 (List.getElem_mem hj)
  have hmem : ∀ i, i < p.length → (p.getD i pk0).f = f → ∃ j, ∃ hj : j < at'.length, at'[j] = i := fun i hi e => by
    have : i ∈ at' := by rw [hat]; exact ofF_mem.2 ⟨hi, e⟩
    exact List.mem_iff_getElem.1 this
  have hord : ∀ i j (hi : i < at'.length) (hj : j < at'.length), i < j → at'[i] < at'[j] := fun i j hi hj hij => by
    subst hat; exact List.pairwise_iff_getElem.1 (ofF_ord p.length) i j hi hj hij
  have hnp : (toF n (ownF p f p.length)).np = at'.length := by rw [hat]; exact ownF_len
  have hfs : ∀ j (hj : j < at'.length), (toF n (ownF p f p.length)).rt j = (toF n p).rt at'[j] ∧ (toF n (ownF p f p.length)).fl j = (toF n p).fl at'[j] ∧ (toF n (ownF p f p.length)).cs j = (toF n p).cs at'[j] ∧ (toF n (ownF p f p.length)).t j = (toF n p).t at'[j] ∧ (toF n (ownF p f p.length)).s j = (toF n p).s at'[j] := fun j hj => by
    subst hat
    simp only [toF, ownF_at hj, and_self]
  have hj : j < at'.length := by rw [hat]; exact hj
  have goal : tr (toF n (ownF p f p.length)) Z N j k = tr (toF n p) Z N (at'.getD j 0) k := by
    generalize hF' : toF n (ownF p f p.length) = F' at *
    generalize hFF : toF n p = F at *
    have hRF : Rts F := by rw [← hFF]; exact h.rts
    have hnpF : F.np = p.length := by rw [← hFF]; rfl
    have hflF : ∀ i, F.fl i = (p.getD i pk0).f := fun i => by rw [← hFF]; rfl
    have hgd : ∀ j (hj : j < at'.length), at'.getD j 0 = at'[j] := fun j hj => by rw [List.getD_eq_getElem?_getD, List.getElem?_eq_getElem hj]; rfl
    have hhp : ∀ {j l : Nat} (hj : j < at'.length), hp F' l j = hp F l at'[j] := fun {j l} hj => by unfold hp; rw [(hfs j hj).1]
    have hlin : ∀ {j h : Nat} (hj : j < at'.length), lin F' j h = lin F at'[j] h := fun {j h} hj => by unfold Mc.lin; rw [(hfs j hj).1]
    have hC : Con F' Z N (fun j k => tr F Z N (at'.getD j 0) k) := by
      intro j k hj hk
      rw [hnp] at hj
      have hk2 : k < (F.rt at'[j]).length := by rw [← (hfs j hj).1]; exact hk
      have harr : ∀ {i h : Nat} (hi : i < at'.length), arr F' (fun j k => tr F Z N (at'.getD j 0) k) i h = arr F (tr F Z N) at'[i] h := fun {i h} hi => by
        unfold arr
        simp only [hgd i hi]
        rw [(hfs i hi).2.2.2.1]
      show tr F Z N (at'.getD j 0) k = _
      rw [hgd j hj, tr_con hRF Z N at'[j] k (by rw [hnpF]; exact (hm j hj).1) hk2, ← hlin hj]
      have hpj : hp F' (lin F' j k) j = some k := by
        rw [hhp hj, hlin hj]
        exact hp_lin hRF (by rw [hnpF]; exact (hm j hj).1) hk2
      generalize lin F' j k = l at hpj ⊢
      have hq' := qu_ok F' (fun j k => tr F Z N (at'.getD j 0) k) l
      have hq : Qu F (tr F Z N) l ((qu F' (fun j k => tr F Z N (at'.getD j 0) k) l).map fun x => ⟨x.a, x.f, at'.getD x.i 0⟩) := by
        constructor
        · rw [List.pairwise_map]
          refine hq'.o.imp_of_mem fun {x y} hx hy hlt => ?_
          have hx1 := ((hq'.m x).1 hx).1
          have hy1 := ((hq'.m y).1 hy).1
          rw [hnp] at hx1 hy1
          simp only [Wt.lt, hgd _ hx1, hgd _ hy1] at hlt ⊢
          rcases hlt with c | ⟨c, c2 | ⟨c2, c3⟩⟩
          · exact .inl c
          · exact .inr ⟨c, .inl c2⟩
          · exact .inr ⟨c, .inr ⟨c2, hord _ _ hx1 hy1 c3⟩⟩
        · intro x
          rw [List.mem_map]
          constructor
          · rintro ⟨y, hy, rfl⟩
            obtain ⟨a1, ⟨u, a2, a3⟩, a4⟩ := (hq'.m y).1 hy
            rw [hnp] at a1
            refine ⟨?_, ⟨u, ?_, ?_⟩, ?_⟩
            · show at'.getD y.i 0 < F.np
              rw [hgd _ a1, hnpF]; exact (hm _ a1).1
            · show hp F l (at'.getD y.i 0) = some u
              rw [hgd _ a1, ← hhp a1]; exact a2
            · show arr F (tr F Z N) (at'.getD y.i 0) u = some y.a
              rw [hgd _ a1, ← harr a1]; exact a3
            · show y.f = F.fl (at'.getD y.i 0)
              rw [hgd _ a1, ← (hfs _ a1).2.1]; exact a4
          · rintro ⟨a1, ⟨u, a2, a3⟩, a4⟩
            rw [hnpF] at a1
            have hxf : (p.getD x.i pk0).f = f := by
              refine Classical.byContradiction fun hne => ?_
              have hpj2 : hp F l at'[j] = some k := by rw [← hhp hj]; exact hpj
              have := hf x.i a1 hne at'[j] k l (hm j hj).1 (hm j hj).2 hpj2
              rw [this] at a2; cases a2
            obtain ⟨v, hv, e⟩ := hmem x.i a1 hxf
            refine ⟨⟨x.a, x.f, v⟩, (hq'.m _).2 ⟨by rw [hnp]; exact hv, ⟨u, by rw [hhp hv, e]; exact a2, ?_⟩, ?_⟩, ?_⟩
            · show arr F' _ v u = some x.a
              rw [harr hv, e]; exact a3
            · show x.f = F'.fl v
              rw [(hfs v hv).2.1, e]; exact a4
            · refine Wt.ext' rfl rfl ?_
              show at'.getD v 0 = x.i
              rw [hgd v hv, e]
      have hqe := hq.uniq (qu_ok F (tr F Z N) l)
      have hpk : pkq F (qu F (tr F Z N) l) = pkq F' (qu F' (fun j k => tr F Z N (at'.getD j 0) k) l) := by
        rw [← hqe]
        unfold pkq
        rw [List.map_map]
        refine List.map_congr_left fun x hx => ?_
        have hx1 := ((hq'.m x).1 hx).1
        rw [hnp] at hx1
        simp only [Function.comp, hgd _ hx1]
        rw [(hfs _ hx1).2.2.1, (hfs _ hx1).2.2.2.2]
      have hplc : plc (qu F (tr F Z N) l) at'[j] = plc (qu F' (fun j k => tr F Z N (at'.getD j 0) k) l) j := by
        rw [← hqe]
        unfold plc
        rw [List.findIdx?_map]
        have : ∀ x ∈ qu F' (fun j k => tr F Z N (at'.getD j 0) k) l, ((fun x : Wt => decide (x.i = at'[j])) ∘ fun x : Wt => (⟨x.a, x.f, at'.getD x.i 0⟩ : Wt)) x = decide (x.i = j) := fun x hx => by
          have hx1 := ((hq'.m x).1 hx).1
          rw [hnp] at hx1
          simp only [Function.comp, hgd _ hx1]
          rw [decide_eq_decide]
          constructor
          · intro e
            rcases Nat.lt_trichotomy x.i j with c | c | c
            · have := hord _ _ hx1 hj c; omega
            · exact c
            · have := hord _ _ hj hx1 c; omega
          · intro e; simp only [e]
        generalize qu F' (fun j k => tr F Z N (at'.getD j 0) k) l = q at this ⊢
        clear hq hqe hq' hpk hpj
        induction q with
        | nil => rfl
        | cons y q ih =>
          rw [List.findIdx?_cons, List.findIdx?_cons, this y (by simp), ih fun x hx => this x (by simp [hx])]
      unfold pas
      rw [hplc, hpk]
    exact (tr_uniq hR Z hC j k (by rw [hnp]; exact hj) hk).symm
  rw [goal, List.getD_eq_getElem?_getD]
  subst hat
  rw [List.getElem?_eq_getElem hj]; rfl
theorem one_el {α : Type} {l : List α} {x y : α} (h : l.length ≤ 1) (hx : x ∈ l) (hy : y ∈ l) : x = y := by
  match l, h, hx, hy with
  | [a], _, hx, hy => rw [List.mem_singleton.1 hx, List.mem_singleton.1 hy]
theorem alone_of {n : Nt} {p : List Pk} (h : SkP n p) {g : Nat} (hu : ∀ l ∈ (n.fl.getD g fl0).rt, (users n l).length ≤ 1) :
    ∀ i, i < p.length → (p.getD i pk0).f ≠ (g : Int) → ∀ j k l, j < p.length → (p.getD j pk0).f = (g : Int) → hp (toF n p) l j = some k → hp (toF n p) l i = none := by
  intro i hi hne j k l hj he hk
  cases hh : hp (toF n p) l i with
  | none => rfl
  | some k' =>
    exfalso
    have key : ∀ m kk, m < p.length → hp (toF n p) l m = some kk → (p.getD m pk0).f ∈ users n l := fun m kk hm hkk => by
      have h1 := hop_hp (l := l) h.rt hm
      rw [hkk] at h1
      simp only at h1
      obtain ⟨f1, f2, _⟩ := h.fl hm
      refine mem_usr.2 ⟨(p.getD m pk0).f.toNat, by omega, by omega, ?_⟩
      rw [Int.toNat_of_nonneg f1, h1]; omega
    have hl : (l : Int) ∈ (n.fl.getD g fl0).rt := by
      have h1 : l ∈ (toF n p).rt j := by
        unfold hp at hk
        split at hk
        · assumption
        · cases hk
      have h2 := (idx_nat (l := l) (h.rt.r j hj)).2.1 h1
      unfold pfl at h2
      rw [he, Int.toNat_natCast] at h2
      exact h2
    have := one_el (hu l hl) (key i k' hi hh) (key j k hj hk)
    rw [he] at this
    exact hne this
theorem trR_row {F : Tf} {Z : Li} {N i : Nat} (hi : i < F.np) : (trR F Z N).getD i [] = (List.range (F.rt i).length).map fun h => tr F Z N i h := by
  simp [trR, List.getD_eq_getElem?_getD, hi]
theorem alone_row {n : Nt} {p : List Pk} (h : SkP n p) (Z : Li) {N : Nat} {f : Int} (hf : ∀ i, i < p.length → (p.getD i pk0).f ≠ f → ∀ j k l, j < p.length → (p.getD j pk0).f = f → hp (toF n p) l j = some k → hp (toF n p) l i = none)
    {j : Nat} (hj : j < (ofF p f p.length).length) : (trR (toF n (ownF p f p.length)) Z N).getD j [] = (trR (toF n p) Z N).getD ((ofF p f p.length)[j]) [] := by
  have hm := (ofF_mem.1 (List.getElem_mem hj)).1
  rw [trR_row (show j < (toF n (ownF p f p.length)).np by show j < (ownF p f p.length).length; rw [ownF_len]; exact hj), trR_row (show (ofF p f p.length)[j] < (toF n p).np from hm)]
  have hrt : (toF n (ownF p f p.length)).rt j = (toF n p).rt ((ofF p f p.length)[j]) := by simp only [toF, ownF_at hj]
  rw [hrt]
  refine List.map_congr_left fun k hk => ?_
  rw [List.mem_range] at hk
  exact tr_alone h Z hf hj (by rw [hrt]; exact hk)
end Go.Mc
end
section
namespace Go.Proofs.YtaomhdljcdadaaaGreat
open Go.Sx Go.Pk Go.Mc Go.Np
set_option maxRecDepth 4000
set_option maxHeartbeats 2000000
/-! SimulateFlows -/
theorem NetG.szs {ml mf k : Nat} {n : Nt} (h : NetG ml mf k n) : ∀ f ∈ n.fl, 1 ≤ f.lo ∧ f.lo ≤ f.hi ∧ f.hi ≤ 1500 := fun f hf => by
  have := h.g.fg f hf
  have h1 := this.lo
  have h2 := this.hi
  omega
abbrev nts (l : List Nat) : List (List SV) := ints (l.map fun (x : Nat) => (x : Int))
theorem aP_Lf1 {A B K : Prop} (k : K) (a : A := by (simp only [zA, zT, zD, zC, zN, ints_len, zR, Go.Cv.vals_len]; omega)) (b : B := by (simp only [zA, zT, zD, zC, zN, ints_len, zR, Go.Cv.vals_len]; omega)) : (A ∧ B) ∧ K := ⟨⟨a, b⟩, k⟩
theorem Flows_ok (l : List Int) (hl : l.length ≤ 9223372036854775807) (a : Int) (a0 : 0 ≤ a ∧ a ≤ 255) :
    Ctr Tryz.prog 9 [.psl 1 (ints l), .num .u8 a] [] (fun r o => r = .bl true) := by
  refine fn_intro (E := env 0) tys_ok rfl rfl rfl Tryz.func9 (by kernel_rfl) rfl (by kernel_rfl) ?_
  have hL : (l.take 2000).length ≤ 2000 := by rw [List.length_take]; omega
  (repeat' (conv => whnf); first | (refine aC (fun _ => ?_) (fun _ => ?_) <;> try (exfalso; omega)) | refine aS ?_ | refine aG ?_ | refine aD ?_ | refine aH ?_ | refine aP_Lf1 ?_ | refine aI ?_ | refine aJ ?_ | refine aW (.qs [0, 1, 2, 3, 4, 5, 6, 7, 8, 9, 10, 11, 12] (.l 13 [] (.qs [14] .nil) .no)) ?_ | (refine aK [] (sane_ok) ?_) | (refine aK [] (New_ok l hl) ?_) | fail); all_goals try (conv => whnf)
  · rfl
  refine CallOb.mk [0] (Net_ok _ 0 hL (by omega) 4 4 (by omega) (by omega)) rfl (ImpL.refl _) rfl rfl ?_
  rintro _ _ ⟨⟨n, k, p1⟩, ⟨hG, hp1⟩, rfl, rfl⟩
  dsimp only at hG hp1 ⊢
  have hn := hG.nl
  have hchk := hG.g.chk
  have hmf := hG.mf
  have hsz := hG.szs
  have hfl := fll n.fl
  by_cases hz : n.fl.length = 0
  · (repeat' (conv => whnf); first | (refine aC (fun _ => ?_) (fun _ => ?_) <;> try (exfalso; omega)) | refine aS ?_ | refine aG ?_ | refine aD ?_ | refine aH ?_ | refine aP_Lf1 ?_ | refine aI ?_ | refine aJ ?_ | refine aW (.qs [0, 1, 2, 3, 4, 5, 6, 7, 8, 9, 10, 11, 12] (.l 13 [] (.qs [14] .nil) .no)) ?_ | (refine aK [] (sane_ok) ?_) | fail); all_goals try (conv => whnf)
    rfl
  obtain ⟨g, eg, hg⟩ : ∃ x : Nat, a.tmod ((fls n.fl).length : Int) = x ∧ x < n.fl.length := by
    obtain ⟨e1, e2, e3⟩ := tmod_bd a0.1 (show (1 : Int) ≤ ((fls n.fl).length : Int) by omega)
    exact ⟨(a % ((fls n.fl).length : Int)).toNat, by omega, by omega⟩
  have hfg := flg (l := n.fl) (i := g) hg
  have hRt := chk_rt hchk hg
  have hr4 := hRt.l2
  have hal := fun p (hK : SkP n p) => alone_of (p := p) hK (g := g)
  generalize n.fl.getD g fl0 = f at *
  have hrl := ints_len f.rt
  (repeat' (conv => whnf); first | (refine aC (fun _ => ?_) (fun _ => ?_) <;> try (exfalso; omega)) | refine aS ?_ | refine aG ?_ | refine aD ?_ | refine aH ?_ | refine aP_Lf1 ?_ | refine aI ?_ | refine aJ ?_ | refine aW (.qs [0, 1, 2, 3, 4, 5, 6, 7, 8, 9, 10, 11, 12] (.l 13 [] (.qs [14] .nil) .no)) ?_ | refine ⟨by omega, ?_⟩ | fail); all_goals try (conv => whnf)
  rw [eg]
  (repeat' (conv => whnf); first | (refine aC (fun _ => ?_) (fun _ => ?_) <;> try (exfalso; omega)) | refine aS ?_ | refine aG ?_ | refine aD ?_ | refine aH ?_ | refine aP_Lf1 ?_ | refine aI ?_ | refine aJ ?_ | refine aW (.qs [0, 1, 2, 3, 4, 5, 6, 7, 8, 9, 10, 11, 12] (.l 13 [] (.qs [14] .nil) .no)) ?_ | refine ⟨_, rfl, hfg, ?_⟩ | fail); all_goals try (conv => whnf)
  refine LoopOb.mk (Y := Nat) (st := fun i => ⟨[(46, i64 i), (45, i64 (ints f.rt).length), (44, .psl 1 (ints f.rt)), (7, i64 g), (6, .ptr 1 0), (5, .ptr 0 0)], [src (l.take 2000) p1, nbx n]⟩)
    (inv := fun i => i ≤ f.rt.length ∧ ∀ j, j < i → (users n (f.rt.getD j 0)).length ≤ 1) (fun i => f.rt.length - i) 0 [0, 1] ⟨by omega, fun j hj => by omega⟩ (by (exact aL)) ?_
  rintro i ⟨hi, hu⟩
  by_cases hil : i < f.rt.length
  · have hgi := ints_get (l := f.rt) (j := i) hil
    have hst : (users n (f.rt.getD i 0)).length ≤ 1 → ∀ j, j < i + 1 → (users n (f.rt.getD j 0)).length ≤ 1 := fun h j hj => by
      rcases Nat.lt_succ_iff_lt_or_eq.1 hj with c | c
      · exact hu j c
      · subst c; exact h
    have cU := rUsers_ok n hn (by omega) (f.rt.getD i 0)
    generalize f.rt.getD i 0 = v at *
    have hul := ints_len (users n v)
    (repeat' (conv => whnf); first | refine ⟨i, _, rfl, hgi, ?_⟩ | (refine aC (fun _ => ?_) (fun _ => ?_) <;> try (exfalso; omega)) | refine aS ?_ | refine aG ?_ | refine aD ?_ | refine aH ?_ | refine aP_Lf1 ?_ | refine aI ?_ | refine aJ ?_ | refine aW (.qs [0, 1, 2, 3, 4, 5, 6, 7, 8, 9, 10, 11, 12] (.l 13 [] (.qs [14] .nil) .no)) ?_ | (refine aK [] cU ?_) | (refine aK [] (sane_ok) ?_) | fail); all_goals try (conv => whnf)
    · rfl
    · exact ⟨i + 1, [0, 1], ⟨by omega, hst (by omega)⟩, by omega, by (exact aL)⟩
  obtain rfl : i = f.rt.length := by omega
  have hu' : ∀ x ∈ f.rt, (users n x).length ≤ 1 := fun x hx => by
    obtain ⟨j, hj, rfl⟩ := List.mem_iff_getElem.1 hx
    have := hu j hj
    rw [List.getD_eq_getElem?_getD, List.getElem?_eq_getElem hj] at this
    exact this
  clear hu hil hi
  (repeat' (conv => whnf); first | (refine aC (fun _ => ?_) (fun _ => ?_) <;> try (exfalso; omega)) | refine aS ?_ | refine aG ?_ | refine aD ?_ | refine aH ?_ | refine aP_Lf1 ?_ | refine aI ?_ | refine aJ ?_ | refine aW (.qs [0, 1, 2, 3, 4, 5, 6, 7, 8, 9, 10, 11, 12] (.l 13 [] (.qs [14] .nil) .no)) ?_ | fail); all_goals try (conv => whnf)
  refine CallOb.mk [0] (Sends_ok _ p1 hL hp1 n hn (by omega) hsz 12 (by omega)) rfl (ImpL.refl _) rfl rfl ?_
  rintro _ _ ⟨⟨p, p2⟩, ⟨hS, hp12, hp2⟩, rfl, rfl⟩
  dsimp only at hS hp12 hp2 ⊢
  have hK := hS.sk hchk (by omega)
  have hal := hal p hK hu'
  have hpl := pks_len p
  (repeat' (conv => whnf); first | (refine aC (fun _ => ?_) (fun _ => ?_) <;> try (exfalso; omega)) | refine aS ?_ | refine aG ?_ | refine aD ?_ | refine aH ?_ | refine aP_Lf1 ?_ | refine aI ?_ | refine aJ ?_ | refine aW (.qs [0, 1, 2, 3, 4, 5, 6, 7, 8, 9, 10, 11, 12] (.l 13 [] (.qs [14] .nil) .no)) ?_ | fail); all_goals try (conv => whnf)
  refine LoopOb.mk (Y := Nat) (st := fun i => ⟨[(62, i64 i), (61, i64 (pks p).length), (60, .vec 1), (12, .vec 3), (11, .vec 2), (10, .vec 1), (7, i64 g), (6, .ptr 0 0)], [nbx n, .vec 3 (pks p), .vec 3 (pks (ownF p g i)), .vec 1 (nts (ofF p g i))]⟩)
    (inv := fun i => i ≤ p.length) (fun i => p.length - i) 0 [1, 2, 3, 4] (by omega) (by (exact aL)) ?_
  rintro i hi
  have hol := ofF_len (p := p) (f := g) i
  have hwl := pks_len (ownF p g i)
  have hwl2 := ownF_len (p := p) (f := g) (i := i)
  have hnl : (nts (ofF p g i)).length = (ofF p g i).length := by simp [nts, ints]
  have hnm : ((ofF p g i).map fun (x : Nat) => (x : Int)).length = (ofF p g i).length := List.length_map _
  by_cases hip : i < p.length
  · have hg := pks_get hip
    have hnx : ofF p g (i + 1) = if (p.getD i pk0).f = (g : Int) then ofF p g i ++ [i] else ofF p g i := rfl
    have hnx2 : ownF p g (i + 1) = if (p.getD i pk0).f = (g : Int) then ownF p g i ++ [p.getD i pk0] else ownF p g i := by
      unfold ownF
      rw [hnx]
      split
      · rw [List.map_append]; rfl
      · rfl
    have hna : nts (ofF p g i ++ [i]) = nts (ofF p g i) ++ [[i64 (i : Int)]] := by simp [nts, ints]
    generalize ofF p g i = o at *
    generalize ownF p g i = w at *
    generalize p.getD i pk0 = x at *
    have hpe : pks w ++ [[i64 x.f, i64 x.t, i64 x.s]] = pks (w ++ [x]) := by simp [pks, pkw]
    (repeat' (conv => whnf); first | (refine aC (fun _ => ?_) (fun _ => ?_) <;> try (exfalso; omega)) | refine aS ?_ | refine aG ?_ | refine aD ?_ | refine aH ?_ | refine aP_Lf1 ?_ | refine aI ?_ | refine aJ ?_ | refine aW (.qs [0, 1, 2, 3, 4, 5, 6, 7, 8, 9, 10, 11, 12] (.l 13 [] (.qs [14] .nil) .no)) ?_ | refine ⟨i, rfl, by omega, ?_⟩ | refine ⟨_, hg, ?_⟩ | fail); all_goals try (conv => whnf)
    · rw [if_pos (by assumption)] at hnx hnx2
      exact ⟨i + 1, [0, 1, 6, 8], by omega, by omega, by rw [hnx, hnx2, hna, ← hpe]; (exact aL)⟩
    · rw [if_neg (by assumption)] at hnx hnx2
      exact ⟨i + 1, [0, 1, 2, 3], by omega, by omega, by rw [hnx, hnx2]; (exact aL)⟩
  · obtain rfl : i = p.length := by omega
    have hKo := ownF_sk hK (g : Int)
    have hrow := fun j => alone_row hK (liN n) (N := 800) hal (j := j)
    have hom := fun j (hj : j < (ofF p g p.length).length) => (ofF_mem.1 (List.getElem_mem hj)).1
    generalize ofF p g p.length = o at *
    generalize ownF p g p.length = w at *
    have cA := Run_ok n hn p hK 800 (by omega)
    have cB := Run_ok n hn w hKo 800 (by omega)
    have hsA := trR_sh (F := toF n p) (Z := liN n) (N := 800) hK.rts
    have hsB := trR_sh (F := toF n w) (Z := liN n) (N := 800) hKo.rts
    generalize trR (toF n p) (liN n) 800 = A at *
    generalize trR (toF n w) (liN n) 800 = B at *
    have hlA : (A.map ints).length = p.length := by rw [List.length_map]; exact hsA.l
    have hlB : (B.map ints).length = w.length := by rw [List.length_map]; exact hsB.l
    (repeat' (conv => whnf); first | (refine aC (fun _ => ?_) (fun _ => ?_) <;> try (exfalso; omega)) | refine aS ?_ | refine aG ?_ | refine aD ?_ | refine aP_Lf1 ?_ | refine aI ?_ | refine aJ ?_ | refine aW (.qs [0, 1, 2, 3, 4, 5, 6, 7, 8, 9, 10, 11, 12] (.l 13 [] (.qs [14] .nil) .no)) ?_ | fail); all_goals try (conv => whnf)
    refine .mk [.fz 1, .fz 2, .fz 3] ?_
    (repeat' (conv => whnf); first | (refine aC (fun _ => ?_) (fun _ => ?_) <;> try (exfalso; omega)) | refine aS ?_ | refine aG ?_ | refine aD ?_ | refine aH ?_ | refine aP_Lf1 ?_ | refine aI ?_ | refine aJ ?_ | refine aW (.qs [0, 1, 2, 3, 4, 5, 6, 7, 8, 9, 10, 11, 12] (.l 13 [] (.qs [14] .nil) .no)) ?_ | fail); all_goals try (conv => whnf)
    refine aK [] cA ?_
    (repeat' (conv => whnf); first | (refine aC (fun _ => ?_) (fun _ => ?_) <;> try (exfalso; omega)) | refine aS ?_ | refine aG ?_ | refine aD ?_ | refine aH ?_ | refine aP_Lf1 ?_ | refine aI ?_ | refine aJ ?_ | refine aW (.qs [0, 1, 2, 3, 4, 5, 6, 7, 8, 9, 10, 11, 12] (.l 13 [] (.qs [14] .nil) .no)) ?_ | fail); all_goals try (conv => whnf)
    refine aK [] cB ?_
    (repeat' (conv => whnf); first | (refine aC (fun _ => ?_) (fun _ => ?_) <;> try (exfalso; omega)) | refine aS ?_ | refine aG ?_ | refine aD ?_ | refine aP_Lf1 ?_ | refine aI ?_ | refine aJ ?_ | refine aW (.qs [0, 1, 2, 3, 4, 5, 6, 7, 8, 9, 10, 11, 12] (.l 13 [] (.qs [14] .nil) .no)) ?_ | fail); all_goals try (conv => whnf)
    refine .mk [.fm 4, .fm 7] ?_
    have htA := trs_len A
    have htB := trs_len B
    have hAl : A.length = p.length := hsA.l
    have hBl : B.length = w.length := hsB.l
    have hwp := pks_len w
    refine LoopOb.mk (Y := Nat) (st := fun i => ⟨[(116, i64 i), (115, i64 (pks w).length), (114, .psl 3 (pks w)), (17, .ptr 2 0), (15, .ptr 1 0), (12, .psl 1 (nts o)), (6, .ptr 0 0)], [nbx n, .box [.psl 1 (trs A)], .box [.psl 1 (trs B)]]⟩)
      (inv := fun i => i ≤ w.length) (fun i => w.length - i) 0 [0, 6, 9] (by omega) (by (exact aL)) ?_
    rintro i hi
    by_cases hil : i < w.length
    · have hio : i < o.length := by omega
      have go : (nts o)[i]? = some [i64 (o[i] : Int)] := by simp [nts, ints, hio]
      have hop := hom i hio
      have gA := trs_get (ms := A) (i := o[i]) (by omega)
      have gB := trs_get (ms := B) (i := i) (by omega)
      have hr := hrow i hio
      have hrl := hsA.r o[i] hop
      have hr4 := (hK.fl hop).2.2.2.2.1.l2
      have hrt : ((toF n p).rt o[i]).length = (pfl n (p.getD o[i] pk0)).rt.length := List.length_map _
      rw [hr] at gB
      have cI := kInts_ok (A.getD o[i] []) (A.getD o[i] []) (by omega)
      clear hrow hr hom
      generalize A.getD o[i] [] = ra at *
      generalize o[i] = j at *
      (repeat' (conv => whnf); first | refine ⟨i, _, rfl, gB, ?_⟩ | refine ⟨j, _, rfl, gA, ?_⟩ | refine ⟨i, _, rfl, go, ?_⟩ | (refine aC (fun _ => ?_) (fun _ => ?_) <;> try (exfalso; omega)) | refine aS ?_ | refine aG ?_ | refine aD ?_ | refine aH ?_ | refine aP_Lf1 ?_ | refine aI ?_ | refine aJ ?_ | refine aW (.qs [0, 1, 2, 3, 4, 5, 6, 7, 8, 9, 10, 11, 12] (.l 13 [] (.qs [14] .nil) .no)) ?_ | (refine aK [] (cI) ?_) | fail); all_goals try (conv => whnf)
      all_goals first
        | exact absurd rfl (by assumption)
        | exact ⟨i + 1, [0, 1, 2], by omega, by omega, by (exact aL)⟩
    · obtain rfl : i = w.length := by omega
      (repeat' (conv => whnf); first | (refine aC (fun _ => ?_) (fun _ => ?_) <;> try (exfalso; omega)) | refine aS ?_ | refine aG ?_ | refine aD ?_ | refine aH ?_ | refine aP_Lf1 ?_ | refine aI ?_ | refine aJ ?_ | refine aW (.qs [0, 1, 2, 3, 4, 5, 6, 7, 8, 9, 10, 11, 12] (.l 13 [] (.qs [14] .nil) .no)) ?_ | (refine aK [] (sane_ok) ?_) | fail); all_goals try (conv => whnf)
      rfl
end Go.Proofs.YtaomhdljcdadaaaGreat
end
