/-
  A text of the proofs of this seat: lemmas that the statements' proofs use; it states nothing of the program by itself beyond the contracts that its theorems bear. Conditions: those that stand in each theorem. Its short name: Len1.
-/
import Derived.Test.YtaomhdljcdadaaaGreatSo9
import Derived.Test.YtaomhdljcdadaaaGreatSd2
import Derived.Test.YtaomhdljcdadaaaGreatMba
set_option linter.unusedVariables false
set_option linter.unusedSimpArgs false
namespace Go.Proofs.YtaomhdljcdadaaaGreat
open Go.Sx Go.Pk Go.Mc Go.Np
set_option maxRecDepth 4000
set_option maxHeartbeats 2000000
/-! SimulateEnds -/
abbrev cl0 (f : Fl) : Fl := { f with cl := 0 }
theorem cl0_g {ml mf k : Nat} {n : Nt} (h : NetG ml mf k n) : ∀ f ∈ n.fl, FzG cl0 f ∧ (cl0 f).lo = f.lo ∧ (cl0 f).hi = f.hi := fun f hf => by
  have := h.g.fg f hf
  have h1 := this.lo
  have h2 := this.hi
  exact ⟨⟨rfl, rfl, rfl, ⟨rfl, rfl, rfl⟩, by dsimp only; omega⟩, rfl, rfl⟩
theorem aP_Len1 {A B K : Prop} (k : K) (a : A := by (simp only [zA, zT, zD, zC, zN, ints_len, zR, Go.Cv.vals_len]; omega)) (b : B := by (simp only [zA, zT, zD, zC, zN, ints_len, zR, Go.Cv.vals_len]; omega)) : (A ∧ B) ∧ K := ⟨⟨a, b⟩, k⟩
theorem Ends_ok (l : List Int) (hl : l.length ≤ 9223372036854775807) :
    Ctr Tryz.prog 10 [.psl 1 (ints l)] [] (fun r o => r = .bl true) := by
  refine fn_intro (E := env 0) tys_ok rfl rfl rfl Tryz.func10 (by kernel_rfl) rfl (by kernel_rfl) ?_
  have hL : (l.take 2000).length ≤ 2000 := by rw [List.length_take]; omega
  (repeat' (conv => whnf); first | (refine aC (fun _ => ?_) (fun _ => ?_) <;> try (exfalso; omega)) | refine aS ?_ | refine aG ?_ | refine aD ?_ | refine aH ?_ | refine aP_Len1 ?_ | refine aI ?_ | refine aJ ?_ | refine aW (.qs [0, 1, 2, 3, 4, 5, 6, 7, 8, 9, 10] (.l 11 [] .nil .no)) ?_ | refine aW (.qs [0, 1, 2, 3, 4, 5, 6, 7, 8, 9, 10, 11, 12, 13, 14, 15, 16, 17, 18, 19, 20, 21, 22, 23] (.l 24 [] (.qs [25] .nil) .no)) ?_ | (refine aK [] (sane_ok) ?_) | (refine aK [] (New_ok l hl) ?_) | fail); all_goals try (conv => whnf)
  · rfl
  refine CallOb.mk [0] (NetO_ok _ 0 hL (by omega) 3 4 (by omega) (by omega)) rfl (ImpL.refl _) rfl rfl ?_
  rintro _ _ ⟨⟨n, k, p1⟩, ⟨hG, hp1⟩, rfl, rfl⟩
  dsimp only at hG hp1 ⊢
  have hn := hG.nl
  have hchk := hG.g.chk
  have hmf := hG.mf
  have hml := hG.ml
  have hsz : ∀ f ∈ n.fl, 1 ≤ f.lo ∧ f.lo ≤ f.hi ∧ f.hi ≤ 1500 := fun f hf => by
    have := hG.g.fg f hf
    have h1 := this.lo
    have h2 := this.hi
    omega
  have hsz7 : ∀ f ∈ n.fl, f.hi ≤ 7 := fun f hf => (hG.g.fg f hf).hi.2
  have hcg := cl0_g hG
  (repeat' (conv => whnf); first | (refine aC (fun _ => ?_) (fun _ => ?_) <;> try (exfalso; omega)) | refine aS ?_ | refine aG ?_ | refine aD ?_ | refine aH ?_ | refine aP_Len1 ?_ | refine aI ?_ | refine aJ ?_ | refine aW (.qs [0, 1, 2, 3, 4, 5, 6, 7, 8, 9, 10] (.l 11 [] .nil .no)) ?_ | refine aW (.qs [0, 1, 2, 3, 4, 5, 6, 7, 8, 9, 10, 11, 12, 13, 14, 15, 16, 17, 18, 19, 20, 21, 22, 23] (.l 24 [] (.qs [25] .nil) .no)) ?_ | fail); all_goals try (conv => whnf)
  refine CallOb.mk [0, 3, 4] (SendsO_ok _ p1 hL hp1 n (by omega) hsz 12 (by omega)) rfl (ImpL.refl _) rfl rfl ?_
  rintro _ _ ⟨⟨p, p2⟩, ⟨hS, hp12, hp2⟩, rfl, rfl⟩
  dsimp only at hS hp12 hp2 ⊢
  have hK := fz_sk hchk hS (by omega) hcg
  (repeat' (conv => whnf); first | (refine aC (fun _ => ?_) (fun _ => ?_) <;> try (exfalso; omega)) | refine aS ?_ | refine aG ?_ | refine aD ?_ | refine aH ?_ | refine aP_Len1 ?_ | refine aI ?_ | refine aJ ?_ | refine aW (.qs [0, 1, 2, 3, 4, 5, 6, 7, 8, 9, 10] (.l 11 [] .nil .no)) ?_ | refine aW (.qs [0, 1, 2, 3, 4, 5, 6, 7, 8, 9, 10, 11, 12, 13, 14, 15, 16, 17, 18, 19, 20, 21, 22, 23] (.l 24 [] (.qs [25] .nil) .no)) ?_ | fail); all_goals try (conv => whnf)
  have hpl := pks_len p
  have hll := lnl n.ln
  have hfl := fll n.fl
  refine LoopOb.mk (Y := Nat) (st := fun i => ⟨[(29, i64 i), (28, i64 (lns n.ln).length), (5, .vec 3), (4, .ptr 2 0)], [.vec 5 (lzR n.ln i), .vec 8 (fls n.fl), .box [.psl 1 (strs n.nm), .vec 0, .vec 1], .vec 3 (pks p)]⟩)
    (inv := fun i => i ≤ n.ln.length) (fun i => n.ln.length - i) 0 [3, 4, 5, 6] (by omega) (by rw [lzR_zero]; (exact aL)) ?_
  rintro i hi
  have hzl := lzR_len n.ln i
  by_cases hil : i < n.ln.length
  · have hg := lzR_get hil
    have hst := lzR_set hil
    generalize n.ln.getD i ln0 = w at *
    (repeat' (conv => whnf); first | (refine aC (fun _ => ?_) (fun _ => ?_) <;> try (exfalso; omega)) | refine aS ?_ | refine aG ?_ | refine aD ?_ | refine aH ?_ | refine aP_Len1 ?_ | refine aI ?_ | refine aJ ?_ | refine aW (.qs [0, 1, 2, 3, 4, 5, 6, 7, 8, 9, 10] (.l 11 [] .nil .no)) ?_ | refine aW (.qs [0, 1, 2, 3, 4, 5, 6, 7, 8, 9, 10, 11, 12, 13, 14, 15, 16, 17, 18, 19, 20, 21, 22, 23] (.l 24 [] (.qs [25] .nil) .no)) ?_ | refine ⟨i, rfl, by omega, ?_⟩ | refine ⟨_, hg, ?_⟩ | fail); all_goals try (conv => whnf)
    exact ⟨i + 1, [0, 1, 2, 3], by omega, by omega, by rw [← hst]; (exact aL)⟩
  obtain rfl : i = n.ln.length := by omega
  rw [lzR_all]
  have hzl : (n.ln.map lnz).length = n.ln.length := List.length_map _
  (repeat' (conv => whnf); first | (refine aC (fun _ => ?_) (fun _ => ?_) <;> try (exfalso; omega)) | refine aS ?_ | refine aG ?_ | refine aD ?_ | refine aH ?_ | refine aP_Len1 ?_ | refine aI ?_ | refine aJ ?_ | refine aW (.qs [0, 1, 2, 3, 4, 5, 6, 7, 8, 9, 10] (.l 11 [] .nil .no)) ?_ | refine aW (.qs [0, 1, 2, 3, 4, 5, 6, 7, 8, 9, 10, 11, 12, 13, 14, 15, 16, 17, 18, 19, 20, 21, 22, 23] (.l 24 [] (.qs [25] .nil) .no)) ?_ | fail); all_goals try (conv => whnf)
  refine LoopOb.mk (Y := Nat) (st := fun i => ⟨[(47, i64 i), (46, i64 (fls n.fl).length), (5, .vec 3), (4, .ptr 2 0)], [.vec 5 (n.ln.map lnz), .vec 8 (fzR cl0 n.fl i), .box [.psl 1 (strs n.nm), .vec 0, .vec 1], .vec 3 (pks p)]⟩)
    (inv := fun i => i ≤ n.fl.length) (fun i => n.fl.length - i) 0 [0, 1, 2, 3] (by omega) (by rw [fzR_zero]; (exact aL)) ?_
  clear hil hi hzl
  rintro i hi
  have hzl := fzR_len cl0 n.fl i
  by_cases hil : i < n.fl.length
  · have hg := fzR_get (g := cl0) hil
    have hst := fzR_set (g := cl0) hil
    generalize n.fl.getD i fl0 = w at *
    (repeat' (conv => whnf); first | (refine aC (fun _ => ?_) (fun _ => ?_) <;> try (exfalso; omega)) | refine aS ?_ | refine aG ?_ | refine aD ?_ | refine aH ?_ | refine aP_Len1 ?_ | refine aI ?_ | refine aJ ?_ | refine aW (.qs [0, 1, 2, 3, 4, 5, 6, 7, 8, 9, 10] (.l 11 [] .nil .no)) ?_ | refine aW (.qs [0, 1, 2, 3, 4, 5, 6, 7, 8, 9, 10, 11, 12, 13, 14, 15, 16, 17, 18, 19, 20, 21, 22, 23] (.l 24 [] (.qs [25] .nil) .no)) ?_ | refine ⟨i, rfl, by omega, ?_⟩ | refine ⟨_, hg, ?_⟩ | fail); all_goals try (conv => whnf)
    exact ⟨i + 1, [0, 1, 2, 3], by omega, by omega, by rw [← hst]; (exact aL)⟩
  obtain rfl : i = n.fl.length := by omega
  rw [fzR_all]
  clear hil hi hzl
  (repeat' (conv => whnf); first | (refine aC (fun _ => ?_) (fun _ => ?_) <;> try (exfalso; omega)) | refine aS ?_ | refine aG ?_ | refine aD ?_ | refine aP_Len1 ?_ | refine aI ?_ | refine aJ ?_ | refine aW (.qs [0, 1, 2, 3, 4, 5, 6, 7, 8, 9, 10] (.l 11 [] .nil .no)) ?_ | refine aW (.qs [0, 1, 2, 3, 4, 5, 6, 7, 8, 9, 10, 11, 12, 13, 14, 15, 16, 17, 18, 19, 20, 21, 22, 23] (.l 24 [] (.qs [25] .nil) .no)) ?_ | fail); all_goals try (conv => whnf)
  refine .mk [.fz 0, .fz 1, .fz 3] ?_
  have hl7 : ∀ i, i < p.length → (p.getD i pk0).s ≤ 7 := fun i hi => by
    have h1 := hS.f i hi
    have h2 := (hS.s i hi).2
    have := hsz7 (pfl n (p.getD i pk0)) (Go.Np.getD_in (by omega))
    omega
  have hs0 : ∀ i, i < p.length → 0 ≤ (p.getD i pk0).s := fun i hi => by
    have h1 := hS.f i hi
    have h2 := (hS.s i hi).1
    have := (hsz (pfl n (p.getD i pk0)) (Go.Np.getD_in (by omega))).1
    omega
  have hby := fun m (hm : m ≤ p.length) => byN_bd (p := p) (B := 7) (m := m) fun i hi => hl7 i (by omega)
  have hla := fun m (hm : m ≤ p.length) => laN_bd (p := p) (B := 380) (by omega) (m := m) fun i hi => (hK.fl (i := i) (by omega)).2.2.2.1
  have hst : ∀ i, i < p.length → 0 ≤ (p.getD i pk0).t ∧ (p.getD i pk0).t ≤ 380 := fun i hi => ⟨(hK.fl hi).2.2.1, (hK.fl hi).2.2.2.1⟩
  refine LoopOb.mk (Y := Nat) (st := fun i => ⟨[(58, i64 i), (57, i64 (pks p).length), (56, .psl 3 (pks p)), (9, i64 (laN p i)), (8, i64 (byN p i : Nat)), (5, .psl 3 (pks p)), (4, .ptr 0 0)], [.box [.psl 1 (strs n.nm), .psl 5 (n.ln.map lnz), .psl 8 (fls (n.fl.map cl0))]]⟩)
    (inv := fun i => i ≤ p.length) (fun i => p.length - i) 0 [2] (by omega) (by simp only [laN, byN, sumN]; (exact aL)) ?_
  rintro i hi
  have h1 := hby i hi
  have h2 := hla i hi
  by_cases hip : i < p.length
  · have hg := pks_get hip
    have h3 := hl7 i hip
    have h4 := hs0 i hip
    have h5 := hst i hip
    have e1 : laN p (i + 1) = max (laN p i) (p.getD i pk0).t := rfl
    have e2 : ((byN p (i + 1) : Nat) : Int) = (byN p i : Nat) + (p.getD i pk0).s := by
      have : byN p (i + 1) = byN p i + (p.getD i pk0).s.toNat := rfl
      omega
    generalize p.getD i pk0 = x at *
    generalize laN p i = la at *
    generalize byN p i = by' at *
    (repeat' (conv => whnf); first | refine ⟨i, _, rfl, hg, ?_⟩ | (refine aC (fun _ => ?_) (fun _ => ?_) <;> try (exfalso; omega)) | refine aS ?_ | refine aG ?_ | refine aD ?_ | refine aH ?_ | refine aP_Len1 ?_ | refine aI ?_ | refine aJ ?_ | refine aW (.qs [0, 1, 2, 3, 4, 5, 6, 7, 8, 9, 10] (.l 11 [] .nil .no)) ?_ | refine aW (.qs [0, 1, 2, 3, 4, 5, 6, 7, 8, 9, 10, 11, 12, 13, 14, 15, 16, 17, 18, 19, 20, 21, 22, 23] (.l 24 [] (.qs [25] .nil) .no)) ?_ | fail); all_goals try (conv => whnf)
    exact ⟨i + 1, [0], by omega, by omega, by rw [e1, e2]; (exact aL)⟩
  obtain rfl : i = p.length := by omega
  have h84 : byN p p.length ≤ 84 := by omega
  obtain ⟨N, hN⟩ : ∃ N : Nat, (N : Int) = 4 * ((byN p p.length : Nat) + 2) + laN p p.length + 1 := ⟨(4 * ((byN p p.length : Nat) + 2) + laN p p.length + 1).toNat, by omega⟩
  have hmn : (fzN n cl0).ln.length = n.ln.length := List.length_map _
  have hend := ends hK (Z := liN (fzN n cl0)) rfl (fun l hl => by
    have := fz_fifo (g := cl0) hchk (l := l) (by rw [← hmn]; exact hl)
    exact ⟨this.1, this.2.1⟩) hN
  have cA := Run_ok (fzN n cl0) (fz_nl hn fun f hf => (hcg f hf).1) p hK N (by omega)
  have hsA := trR_sh (F := toF (fzN n cl0) p) (Z := liN (fzN n cl0)) (N := N) hK.rts
  generalize trR (toF (fzN n cl0) p) (liN (fzN n cl0)) N = A at *
  have hlA : (A.map ints).length = p.length := by rw [List.length_map]; exact hsA.l
  generalize byN p p.length = by' at *
  generalize laN p p.length = la at *
  have hmul : (4 : Int) * ((by' : Int) + 2) ≤ 344 ∧ 0 ≤ (4 : Int) * ((by' : Int) + 2) := by omega
  (repeat' (conv => whnf); first | (refine aC (fun _ => ?_) (fun _ => ?_) <;> try (exfalso; omega)) | refine aS ?_ | refine aG ?_ | refine aD ?_ | refine aH ?_ | refine aP_Len1 ?_ | refine aI ?_ | refine aJ ?_ | refine aW (.qs [0, 1, 2, 3, 4, 5, 6, 7, 8, 9, 10] (.l 11 [] .nil .no)) ?_ | refine aW (.qs [0, 1, 2, 3, 4, 5, 6, 7, 8, 9, 10, 11, 12, 13, 14, 15, 16, 17, 18, 19, 20, 21, 22, 23] (.l 24 [] (.qs [25] .nil) .no)) ?_ | fail); all_goals try (conv => whnf)
  refine CallOb.mk [] cA rfl ⟨Imp.agg ⟨Imp.refl _, Imp.pslr (lnz_imp _), Imp.refl _, trivial⟩, Imp.refl _, Imp.num (by omega), trivial⟩ rfl rfl ?_
  rintro _ _ ⟨rfl, rfl⟩
  (repeat' (conv => whnf); first | (refine aC (fun _ => ?_) (fun _ => ?_) <;> try (exfalso; omega)) | refine aS ?_ | refine aG ?_ | refine aD ?_ | refine aP_Len1 ?_ | refine aI ?_ | refine aJ ?_ | refine aW (.qs [0, 1, 2, 3, 4, 5, 6, 7, 8, 9, 10] (.l 11 [] .nil .no)) ?_ | refine aW (.qs [0, 1, 2, 3, 4, 5, 6, 7, 8, 9, 10, 11, 12, 13, 14, 15, 16, 17, 18, 19, 20, 21, 22, 23] (.l 24 [] (.qs [25] .nil) .no)) ?_ | fail); all_goals try (conv => whnf)
  refine .mk [.fm 1] ?_
  have htA := trs_len A
  have hAl : A.length = p.length := hsA.l
  refine LoopOb.mk (Y := Nat) (st := fun i => ⟨[(96, i64 i), (95, i64 (A.map ints).length), (12, .ptr 1 0), (5, .psl 3 (pks p)), (4, .ptr 0 0)], [.box [.psl 1 (strs n.nm), .psl 5 (n.ln.map lnz), .psl 8 (fls (n.fl.map cl0))], .box [.psl 1 (trs A)]]⟩)
    (inv := fun i => i ≤ p.length) (fun i => p.length - i) 0 [0, 3] (by omega) (by (exact aL)) ?_
  rintro i hi
  by_cases hip : i < p.length
  · have hg := pks_get hip
    obtain ⟨f1, f2, _, _, hRt, _⟩ := hK.fl hip
    have hfml : (fzN n cl0).fl.length = n.fl.length := List.length_map _
    have hfg : (fls (n.fl.map cl0))[(p.getD i pk0).f.toNat]? = some (flv ((n.fl.map cl0).getD (p.getD i pk0).f.toNat fl0)) := flg (by rw [List.length_map]; omega)
    have hrt : ((toF (fzN n cl0) p).rt i).length = ((n.fl.map cl0).getD (p.getD i pk0).f.toNat fl0).rt.length := List.length_map _
    have gA := trs_get (ms := A) (i := i) (by omega)
    have rA := hsA.r i hip
    have r4 : ((n.fl.map cl0).getD (p.getD i pk0).f.toNat fl0).rt.length ≤ 4 := hRt.l2
    have hno := hend i hip
    have hff : (fls (n.fl.map cl0)).length = n.fl.length := by rw [fll, List.length_map]
    generalize p.getD i pk0 = x at *
    generalize (n.fl.map cl0).getD x.f.toNat fl0 = f at *
    generalize A.getD i [] = ra at *
    have cI := In_ok ra (by omega) (-1)
    have hrl := ints_len f.rt
    have hrl2 := ints_len ra
    rw [eq_false hno] at cI
    (repeat' (conv => whnf); first | refine ⟨x.f.toNat, _, by omega, hfg, ?_⟩ | refine ⟨i, _, rfl, gA, ?_⟩ | refine ⟨i, _, rfl, hg, ?_⟩ | (refine aC (fun _ => ?_) (fun _ => ?_) <;> try (exfalso; omega)) | refine aS ?_ | refine aG ?_ | refine aD ?_ | refine aH ?_ | refine aP_Len1 ?_ | refine aI ?_ | refine aJ ?_ | refine aW (.qs [0, 1, 2, 3, 4, 5, 6, 7, 8, 9, 10] (.l 11 [] .nil .no)) ?_ | refine aW (.qs [0, 1, 2, 3, 4, 5, 6, 7, 8, 9, 10, 11, 12, 13, 14, 15, 16, 17, 18, 19, 20, 21, 22, 23] (.l 24 [] (.qs [25] .nil) .no)) ?_ | (refine aK [] (cI) ?_) | fail); all_goals try (conv => whnf)
    exact ⟨i + 1, [0, 1], by omega, by omega, by (exact aL)⟩
  · obtain rfl : i = p.length := by omega
    (repeat' (conv => whnf); first | (refine aC (fun _ => ?_) (fun _ => ?_) <;> try (exfalso; omega)) | refine aS ?_ | refine aG ?_ | refine aD ?_ | refine aH ?_ | refine aP_Len1 ?_ | refine aI ?_ | refine aJ ?_ | refine aW (.qs [0, 1, 2, 3, 4, 5, 6, 7, 8, 9, 10] (.l 11 [] .nil .no)) ?_ | refine aW (.qs [0, 1, 2, 3, 4, 5, 6, 7, 8, 9, 10, 11, 12, 13, 14, 15, 16, 17, 18, 19, 20, 21, 22, 23] (.l 24 [] (.qs [25] .nil) .no)) ?_ | (refine aK [] (sane_ok) ?_) | fail); all_goals try (conv => whnf)
    rfl
end Go.Proofs.YtaomhdljcdadaaaGreat
