/-
  A text of the proofs of this seat: lemmas that the statements' proofs use; it states nothing of the program by itself beyond the contracts that its theorems bear. Conditions: those that stand in each theorem. Its short name: X20.
-/
import Derived.Test.YtnlmmjmcackgjaaX19
import Derived.Test.YtnlmmjmcackgjaaX6
import Derived.Test.YtnlmmjmcackgjaaX8
import Derived.Test.YtnlmmjmcackgjaaFa
import Derived.Test.YtnlmmjmcackgjaaNv
import Derived.Test.YtnlmmjmcackgjaaNw
import Derived.Test.YtnlmmjmcackgjaaPl
set_option linter.unusedVariables false
set_option linter.unusedSimpArgs false
namespace Go.Proofs.Ytnlmmjmcackgjaa
open Go.Sx Go.Np Go.Cv Go.Tp Go.Fq
set_option maxRecDepth 4000
set_option maxHeartbeats 2000000
theorem fr_step (A B : Int) (hA : 0 ≤ A) (hB : 0 ≤ B) (h : A + B ≤ 1000000000) : fadd ((fr A).num, ((fr A).den : Int)) ((fr B).num, ((fr B).den : Int)) = ((fr (A + B)).num, ((fr (A + B)).den : Int), 0) := by
  have e1 : VF ((fr A).num, ((fr A).den : Int)) := vf_enc (fr_sm hA (by omega))
  have e2 : VF ((fr B).num, ((fr B).den : Int)) := vf_enc (fr_sm hB (by omega))
  unfold fadd
  rw [if_pos ⟨e1, e2⟩]
  rw [show val ((fr A).num, ((fr A).den : Int)) = fr A from val_enc, show val ((fr B).num, ((fr B).den : Int)) = fr B from val_enc, fr_add]
  exact fenc_sm (fr_sm (by omega) (by omega))
theorem ksum_bd {n : Nt} (hst : ∀ i, i < n.fl.length → StC (n.fl.getD i fl0)) (u : List Int) (hu : u.length ≤ 5) (hb : ∀ x ∈ u, 0 ≤ x ∧ x < n.fl.length) : ∀ N : Nat, 0 ≤ ksum n u N ∧ ksum n u N ≤ 180 * N
  | 0 => by simp [ksum]
  | N + 1 => by
    have ih := ksum_bd hst u hu hb N
    have hq : ∀ l : List Int, (∀ x ∈ l, 0 ≤ x ∧ x < n.fl.length) → 0 ≤ qsm n l ∧ qsm n l ≤ 36 * l.length := fun l => by
      induction l with
      | nil => intro _; simp [qsm]
      | cons x l ih =>
        intro h
        have h1 := h x (by simp)
        obtain ⟨_, _, _, r1, r2⟩ := (hst x.toNat (by omega)).rt
        have := ih fun y hy => h y (List.mem_cons_of_mem _ hy)
        simp only [qsm, List.length_cons]; push_cast; omega
    have h1 := hq (mbr n N u) fun x hx => hb x (mem_mbr.1 hx).1
    have h2 := mbr_len (n := n) (c := N) (a := u)
    simp only [ksum]
    push_cast
    omega
theorem csum_snoc (n : Nt) (d : List (List Int)) (l : Int) (ms : List Int) (t : Nat) {j : Nat} (hj : j < ms.length) : csum n d l (ms.take (j + 1)) t = csum n d l (ms.take j) t + ctA n d l (ms.getD j 0) t := by
  rw [List.take_succ_eq_append_getElem hj, csum_app]
  simp [List.getD_eq_getElem?_getD, hj]
theorem Adds_ok (l : List Int) (hl : l.length ≤ 9223372036854775807) (tk : Int) (tk0 : 0 ≤ tk ∧ tk ≤ 65535) : Ctr Try.prog 11 [.psl 1 (ints l), .num .u16 tk] [] (fun r o => r = .bl true) := by
  refine fn_intro (E := env 0) tys_ok rfl rfl rfl Try.func11 (by kernel_rfl) rfl (by kernel_rfl) ?_
  have hL : (l.take 2000).length ≤ 2000 := by rw [List.length_take]; omega
  repeat' (conv => whnf
           first | (refine CondOb.mk (fun _ => ?_) (fun _ => ?_) <;> first | (exfalso; omega) | skip) | refine ArOb.fits (by first | omega | (simp only [ints_len] at *; omega)) ?_ | refine LitOb.vec ?_ | refine MakeOb.vec ?_ | refine AllocOb.box ?_ | refine AsgOb.vec ?_ | refine AggOb.mk (by decide +kernel) ?_ | refine ArU.fits (by first | omega | (simp only [ints_len] at *; omega)) ?_ | refine ArB.fits (by first | omega | (simp only [ints_len] at *; omega)) ?_ | refine CutOb.split ?_ | refine Gh.mk [] ?_ | refine And.intro (And.intro (by (simp only [List.length_append, List.length_take, List.length_drop, List.length_cons, List.length_nil, ints_len, List.length_replicate, lnl, fll, stl]; omega)) (by (simp only [List.length_append, List.length_take, List.length_drop, List.length_cons, List.length_nil, ints_len, List.length_replicate, lnl, fll, stl]; omega))) ?_ | refine ⟨_, _, rfl, ints_get (by first | omega | (simp only [ints_len] at *; omega)), ?_⟩ | refine ⟨_, _, (Int.toNat_of_nonneg (by first | omega | (simp only [ints_len] at *; omega))).symm, ints_get (by first | omega | (simp only [ints_len] at *; omega)), ?_⟩ | (refine CallOb.mk [] (sane_ok) rfl (ImpL.refl _) rfl rfl ?_; rintro _ _ ⟨rfl, rfl⟩) | (refine CallOb.mk [] (New_ok l hl) rfl (ImpL.refl _) rfl rfl ?_; rintro _ _ ⟨rfl, rfl⟩) | fail)
  all_goals try (conv => whnf)
  · rfl
  refine CallOb.mk [0] (Net_ok _ 0 hL (by omega) 3 4 (by omega) (by omega)) rfl (ImpL.refl _) rfl rfl ?_
  rintro _ _ ⟨⟨n, k, p1⟩, ⟨hG, hp1⟩, rfl, rfl⟩
  dsimp only at hG hp1 ⊢
  have hn := hG.nl
  have g := hG.g
  have g2 := g.ll
  have g3 := g.fl
  have gk := g.k1
  have hll := lnl n.ln
  have hfl := fll n.fl
  have hst : ∀ i, i < n.fl.length → StC (n.fl.getD i fl0) := fun i hi => stc_of (g.fg _ (Go.Np.getD_in (d := fl0) hi))
  repeat' (conv => whnf
           first | (refine CondOb.mk (fun _ => ?_) (fun _ => ?_) <;> first | (exfalso; omega) | skip) | refine ArOb.fits (by first | omega | (simp only [ints_len] at *; omega)) ?_ | refine LitOb.vec ?_ | refine MakeOb.vec ?_ | refine AllocOb.box ?_ | refine AsgOb.vec ?_ | refine AggOb.mk (by decide +kernel) ?_ | refine ArU.fits (by first | omega | (simp only [ints_len] at *; omega)) ?_ | refine ArB.fits (by first | omega | (simp only [ints_len] at *; omega)) ?_ | refine CutOb.split ?_ | refine Gh.mk [] ?_ | refine And.intro (And.intro (by (simp only [List.length_append, List.length_take, List.length_drop, List.length_cons, List.length_nil, ints_len, List.length_replicate, lnl, fll, stl]; omega)) (by (simp only [List.length_append, List.length_take, List.length_drop, List.length_cons, List.length_nil, ints_len, List.length_replicate, lnl, fll, stl]; omega))) ?_ | refine ⟨_, _, rfl, ints_get (by first | omega | (simp only [ints_len] at *; omega)), ?_⟩ | refine ⟨_, _, (Int.toNat_of_nonneg (by first | omega | (simp only [ints_len] at *; omega))).symm, ints_get (by first | omega | (simp only [ints_len] at *; omega)), ?_⟩ | fail)
  all_goals try (conv => whnf)
  refine CallOb.mk [0] (Delays_ok _ p1 hL hp1 n (by omega) (fun i hi => by
    have := (g.le _ (Go.Np.getD_in (d := ln0) hi)).2; omega)) rfl (ImpL.refl _) rfl rfl ?_
  rintro _ _ ⟨⟨d, p2⟩, ⟨hD, hp2⟩, rfl, rfl⟩
  dsimp only at hD hp2 ⊢
  have hS := hD.shape g.chk
  have hdn := hD.l
  have hdd : DL d := by
    refine ⟨by omega, fun i => ?_⟩
    by_cases h : i < d.length
    · have h1 := hS.r i h
      have h2 := (g.le _ (Go.Np.getD_in (d := ln0) (show i < n.ln.length by omega))).2
      omega
    · rw [List.getD_eq_getElem?_getD, List.getElem?_eq_none (by omega)]; decide
  obtain ⟨kk, hkk, hk9⟩ : ∃ x : Nat, tk.tmod 900 = x ∧ x < 900 := ⟨(tk % 900).toNat, by rw [Int.tmod_eq_emod_of_nonneg tk0.1]; omega, by omega⟩
  have hRN := RN_of g.chk hst
  repeat' (conv => whnf
           first | (refine CondOb.mk (fun _ => ?_) (fun _ => ?_) <;> first | (exfalso; omega) | skip) | refine ArOb.fits (by first | omega | (simp only [ints_len] at *; omega)) ?_ | refine LitOb.vec ?_ | refine MakeOb.vec ?_ | refine AllocOb.box ?_ | refine AsgOb.vec ?_ | refine AggOb.mk (by decide +kernel) ?_ | refine ArU.fits (by first | omega | (simp only [ints_len] at *; omega)) ?_ | refine ArB.fits (by first | omega | (simp only [ints_len] at *; omega)) ?_ | refine CutOb.split ?_ | refine And.intro (And.intro (by (simp only [List.length_append, List.length_take, List.length_drop, List.length_cons, List.length_nil, ints_len, List.length_replicate, lnl, fll, stl]; omega)) (by (simp only [List.length_append, List.length_take, List.length_drop, List.length_cons, List.length_nil, ints_len, List.length_replicate, lnl, fll, stl]; omega))) ?_ | refine ⟨_, _, rfl, ints_get (by first | omega | (simp only [ints_len] at *; omega)), ?_⟩ | refine ⟨_, _, (Int.toNat_of_nonneg (by first | omega | (simp only [ints_len] at *; omega))).symm, ints_get (by first | omega | (simp only [ints_len] at *; omega)), ?_⟩ | refine And.intro (by decide) ?_ | fail)
  all_goals try (conv => whnf)
  rw [hkk]
  refine .mk [] ?_
  refine LoopOb.mk (Y := Nat) (st := fun i => ⟨[(40, i64 i), (39, i64 (lns n.ln).length), (8, i64 kk), (7, .psl 1 (dls d)), (6, .ptr 0 0)], [.box [.psl 1 (strs n.nm), .psl 5 (lns n.ln), .psl 8 (fls n.fl)]]⟩)
    (inv := fun i => i ≤ n.ln.length) (fun i => n.ln.length - i) 0 [1] (by omega) (by (refine Le.mk (by kernel_rfl) ?_ ?_ <;> repeat' (first | exact True.intro | refine And.intro ?_ ?_ | exact Imp.refl _ | exact Imp.any _ | exact Imp.num (by first | omega | simp only [ints_len]) | exact rfl | exact Imp.bl (by simp)))) ?_
  intro i hi
  repeat' (conv => whnf
           first | refine ArOb.fits (by first | omega | (simp only [ints_len] at *; omega)) ?_ | refine LitOb.vec ?_ | refine MakeOb.vec ?_ | refine AllocOb.box ?_ | refine AsgOb.vec ?_ | refine AggOb.mk (by decide +kernel) ?_ | refine ArU.fits (by first | omega | (simp only [ints_len] at *; omega)) ?_ | refine ArB.fits (by first | omega | (simp only [ints_len] at *; omega)) ?_ | refine CutOb.split ?_ | refine Gh.mk [] ?_ | refine And.intro (And.intro (by (simp only [List.length_append, List.length_take, List.length_drop, List.length_cons, List.length_nil, ints_len, List.length_replicate, lnl, fll, stl]; omega)) (by (simp only [List.length_append, List.length_take, List.length_drop, List.length_cons, List.length_nil, ints_len, List.length_replicate, lnl, fll, stl]; omega))) ?_ | refine ⟨_, _, rfl, ints_get (by first | omega | (simp only [ints_len] at *; omega)), ?_⟩ | refine ⟨_, _, (Int.toNat_of_nonneg (by first | omega | (simp only [ints_len] at *; omega))).symm, ints_get (by first | omega | (simp only [ints_len] at *; omega)), ?_⟩ | fail)
  all_goals try (conv => whnf)
  refine CondOb.mk (fun hlt => ?_) (fun hlt => ?_)
  · have hil : i < n.ln.length := by omega
    have hN : (n.ln.getD (i : Int).toNat ln0).n = k := by rw [Int.toNat_natCast]; exact (g.le _ (Go.Np.getD_in (d := ln0) hil)).2
    have cC := ContractsS_ok n hn (by omega) hst d hdd hS i k (by omega) hN (by omega)
    have hub : ∀ x ∈ users n i, 0 ≤ x ∧ x < n.fl.length := fun x hx => users_bd hx
    have hul : (users n i).length ≤ 5 := by have := usr_len (n := n) (l := i) (i := n.fl.length); unfold users; omega
    have hkb := ksum_bd hst (users n i) hul hub
    repeat' (conv => whnf
             first | (refine CondOb.mk (fun _ => ?_) (fun _ => ?_) <;> first | (exfalso; omega) | skip) | refine ArOb.fits (by first | omega | (simp only [ints_len] at *; omega)) ?_ | refine LitOb.vec ?_ | refine MakeOb.vec ?_ | refine AllocOb.box ?_ | refine AsgOb.vec ?_ | refine AggOb.mk (by decide +kernel) ?_ | refine ArU.fits (by first | omega | (simp only [ints_len] at *; omega)) ?_ | refine ArB.fits (by first | omega | (simp only [ints_len] at *; omega)) ?_ | refine CutOb.split ?_ | refine Gh.mk [] ?_ | refine And.intro (And.intro (by (simp only [List.length_append, List.length_take, List.length_drop, List.length_cons, List.length_nil, ints_len, List.length_replicate, lnl, fll, stl]; omega)) (by (simp only [List.length_append, List.length_take, List.length_drop, List.length_cons, List.length_nil, ints_len, List.length_replicate, lnl, fll, stl]; omega))) ?_ | refine ⟨_, _, rfl, ints_get (by first | omega | (simp only [ints_len] at *; omega)), ?_⟩ | refine ⟨_, _, (Int.toNat_of_nonneg (by first | omega | (simp only [ints_len] at *; omega))).symm, ints_get (by first | omega | (simp only [ints_len] at *; omega)), ?_⟩ | fail)
    all_goals try (conv => whnf)
    refine CallOb.mk [] cC rfl (ImpL.refl _) rfl rfl ?_
    rintro _ _ ⟨⟨cs, e⟩, hcs, rfl, rfl⟩
    dsimp only at hcs ⊢
    repeat' (conv => whnf
             first | (refine CondOb.mk (fun _ => ?_) (fun _ => ?_) <;> first | (exfalso; omega) | skip) | refine ArOb.fits (by first | omega | (simp only [ints_len] at *; omega)) ?_ | refine LitOb.vec ?_ | refine MakeOb.vec ?_ | refine AllocOb.box ?_ | refine AsgOb.vec ?_ | refine AggOb.mk (by decide +kernel) ?_ | refine ArU.fits (by first | omega | (simp only [ints_len] at *; omega)) ?_ | refine ArB.fits (by first | omega | (simp only [ints_len] at *; omega)) ?_ | refine CutOb.split ?_ | refine Gh.mk [] ?_ | refine And.intro (And.intro (by (simp only [List.length_append, List.length_take, List.length_drop, List.length_cons, List.length_nil, ints_len, List.length_replicate, lnl, fll, stl]; omega)) (by (simp only [List.length_append, List.length_take, List.length_drop, List.length_cons, List.length_nil, ints_len, List.length_replicate, lnl, fll, stl]; omega))) ?_ | refine ⟨_, _, rfl, ints_get (by first | omega | (simp only [ints_len] at *; omega)), ?_⟩ | refine ⟨_, _, (Int.toNat_of_nonneg (by first | omega | (simp only [ints_len] at *; omega))).symm, ints_get (by first | omega | (simp only [ints_len] at *; omega)), ?_⟩ | fail)
    all_goals try (conv => whnf)
    · exact ⟨i + 1, [0], by omega, by omega, by (refine Le.mk (by kernel_rfl) ?_ ?_ <;> repeat' (first | exact True.intro | refine And.intro ?_ ?_ | exact Imp.refl _ | exact Imp.any _ | exact Imp.num (by first | omega | simp only [ints_len]) | exact rfl | exact Imp.bl (by simp)))⟩
    obtain ⟨hcl, hcp⟩ := hcs (by omega)
    have hcm : (cs.map cvw).length = k := by rw [List.length_map, hcl]
    have h0 : (fr (2310 * ksum n (users n i) 0)).num = 0 ∧ ((fr (2310 * ksum n (users n i) 0)).den : Int) = 1 := by
      rw [show 2310 * ksum n (users n i) 0 = 0 from rfl]; decide +kernel
    refine LoopOb.mk (Y := Nat) (st := fun c => ⟨[(55, i64 c), (54, i64 (cs.map cvw).length), (12, .ptr 1 0), (10, .psl 3 (cs.map cvw)), (9, i64 i), (40, i64 i), (39, i64 (lns n.ln).length), (8, i64 kk), (7, .psl 1 (dls d)), (6, .ptr 0 0)], [.box [.psl 1 (strs n.nm), .psl 5 (lns n.ln), .psl 8 (fls n.fl)], .box [i64 (fr (2310 * ksum n (users n i) c)).num, i64 ((fr (2310 * ksum n (users n i) c)).den : Int)]]⟩)
      (inv := fun c => c ≤ k) (fun c => k - c) 0 [0, 1] (by omega) (by rw [h0.1, h0.2]; (refine Le.mk (by kernel_rfl) ?_ ?_ <;> repeat' (first | exact True.intro | refine And.intro ?_ ?_ | exact Imp.refl _ | exact Imp.any _ | exact Imp.num (by first | omega | simp only [ints_len]) | exact rfl | exact Imp.bl (by simp)))) ?_
    intro c hc
    have hkc := hkb c
    repeat' (conv => whnf
             first | refine ArOb.fits (by first | omega | (simp only [ints_len] at *; omega)) ?_ | refine LitOb.vec ?_ | refine MakeOb.vec ?_ | refine AllocOb.box ?_ | refine AsgOb.vec ?_ | refine AggOb.mk (by decide +kernel) ?_ | refine ArU.fits (by first | omega | (simp only [ints_len] at *; omega)) ?_ | refine ArB.fits (by first | omega | (simp only [ints_len] at *; omega)) ?_ | refine CutOb.split ?_ | refine Gh.mk [] ?_ | refine And.intro (And.intro (by (simp only [List.length_append, List.length_take, List.length_drop, List.length_cons, List.length_nil, ints_len, List.length_replicate, lnl, fll, stl]; omega)) (by (simp only [List.length_append, List.length_take, List.length_drop, List.length_cons, List.length_nil, ints_len, List.length_replicate, lnl, fll, stl]; omega))) ?_ | refine ⟨_, _, rfl, ints_get (by first | omega | (simp only [ints_len] at *; omega)), ?_⟩ | refine ⟨_, _, (Int.toNat_of_nonneg (by first | omega | (simp only [ints_len] at *; omega))).symm, ints_get (by first | omega | (simp only [ints_len] at *; omega)), ?_⟩ | fail)
    all_goals try (conv => whnf)
    refine CondOb.mk (fun hlt2 => ?_) (fun hlt2 => ?_)
    · have hck : c < k := by omega
      have hP := hcp c hck
      have hml : (members n i c).length ≤ 5 := by have := mbr_len (n := n) (c := c) (a := users n i); unfold members; omega
      have hat := fun x => lAtQ n hn hst d hdd hS i c x
      have hsc := fun (j : Nat) => csum_snoc n d i (members n i c) kk (j := j)
      have hR := sumP_rate hP (by omega)
      have hqq := hP.q
      have hcu : ksum n (users n i) (c + 1) = ksum n (users n i) c + qsm n (members n i c) := rfl
      have hgc : (cs.map cvw)[c]? = some (cvw (cs.getD c ([], 0, 0))) := by
        rw [List.getElem?_map, List.getElem?_eq_getElem (show c < cs.length by omega)]
        simp [List.getD_eq_getElem?_getD, show c < cs.length by omega]
      have hsum := hP.e kk
      have hms := hP.s
      have hmm : ∀ j, j < (members n i c).length → ∃ x : Nat, (members n i c).getD j 0 = x ∧ x < n.fl.length := fun j hj => by
        obtain ⟨x, _, e, hx, _⟩ := mem_hop (Go.Np.getD_in (d := 0) hj)
        exact ⟨x, e, hx⟩
      have hmi := fun j => Go.Np.getD_in (l := members n i c) (d := 0) (i := j)
      have cM := rMembers_ok n hn (by omega) i c
      have cHo := fun x => rHop_ok n hn x i
      have hvc := hP.v
      generalize cs.getD c ([], 0, 0) = cc at *
      generalize members n i c = ms at *
      have hil2 := ints_len ms
      repeat' (conv => whnf
               first | (refine CondOb.mk (fun _ => ?_) (fun _ => ?_) <;> first | (exfalso; omega) | skip) | refine ArOb.fits (by first | omega | (simp only [ints_len] at *; omega)) ?_ | refine LitOb.vec ?_ | refine MakeOb.vec ?_ | refine AllocOb.box ?_ | refine AsgOb.vec ?_ | refine AggOb.mk (by decide +kernel) ?_ | refine ArU.fits (by first | omega | (simp only [ints_len] at *; omega)) ?_ | refine ArB.fits (by first | omega | (simp only [ints_len] at *; omega)) ?_ | refine CutOb.split ?_ | refine Gh.mk [] ?_ | refine And.intro (And.intro (by (simp only [List.length_append, List.length_take, List.length_drop, List.length_cons, List.length_nil, ints_len, List.length_replicate, lnl, fll, stl]; omega)) (by (simp only [List.length_append, List.length_take, List.length_drop, List.length_cons, List.length_nil, ints_len, List.length_replicate, lnl, fll, stl]; omega))) ?_ | refine ⟨_, _, rfl, ints_get (by first | omega | (simp only [ints_len] at *; omega)), ?_⟩ | refine ⟨_, _, (Int.toNat_of_nonneg (by first | omega | (simp only [ints_len] at *; omega))).symm, ints_get (by first | omega | (simp only [ints_len] at *; omega)), ?_⟩ | (refine CallOb.mk [] cM rfl (ImpL.refl _) rfl rfl ?_; rintro _ _ ⟨rfl, rfl⟩) | fail)
      all_goals try (conv => whnf)
      refine LoopOb.mk (Y := Nat) (st := fun j => ⟨[(63, i64 j), (62, i64 (ints ms).length), (61, .psl 1 (ints ms)), (14, i64 (csum n d i (ms.take j) kk)), (13, i64 c), (55, i64 c), (54, i64 (cs.map cvw).length), (12, .ptr 1 0), (10, .psl 3 (cs.map cvw)), (9, i64 i), (40, i64 i), (39, i64 (lns n.ln).length), (8, i64 kk), (7, .psl 1 (dls d)), (6, .ptr 0 0)], [.box [.psl 1 (strs n.nm), .psl 5 (lns n.ln), .psl 8 (fls n.fl)], .box [i64 (fr (2310 * ksum n (users n i) c)).num, i64 ((fr (2310 * ksum n (users n i) c)).den : Int)]]⟩)
        (inv := fun j => j ≤ ms.length ∧ 0 ≤ csum n d i (ms.take j) kk ∧ csum n d i (ms.take j) kk ≤ 10000 * j) (fun j => ms.length - j) 0 [0, 1] ⟨by omega, by simp [csum], by simp [csum]⟩ (by (refine Le.mk (by kernel_rfl) ?_ ?_ <;> repeat' (first | exact True.intro | refine And.intro ?_ ?_ | exact Imp.refl _ | exact Imp.any _ | exact Imp.num (by first | omega | simp only [ints_len]) | exact rfl | exact Imp.bl (by simp)))) ?_
      rintro j ⟨hj, hj0, hj1⟩
      repeat' (conv => whnf
               first | refine ArOb.fits (by first | omega | (simp only [ints_len] at *; omega)) ?_ | refine LitOb.vec ?_ | refine MakeOb.vec ?_ | refine AllocOb.box ?_ | refine AsgOb.vec ?_ | refine AggOb.mk (by decide +kernel) ?_ | refine ArU.fits (by first | omega | (simp only [ints_len] at *; omega)) ?_ | refine ArB.fits (by first | omega | (simp only [ints_len] at *; omega)) ?_ | refine CutOb.split ?_ | refine Gh.mk [] ?_ | refine And.intro (And.intro (by (simp only [List.length_append, List.length_take, List.length_drop, List.length_cons, List.length_nil, ints_len, List.length_replicate, lnl, fll, stl]; omega)) (by (simp only [List.length_append, List.length_take, List.length_drop, List.length_cons, List.length_nil, ints_len, List.length_replicate, lnl, fll, stl]; omega))) ?_ | refine ⟨_, _, rfl, ints_get (by first | omega | (simp only [ints_len] at *; omega)), ?_⟩ | refine ⟨_, _, (Int.toNat_of_nonneg (by first | omega | (simp only [ints_len] at *; omega))).symm, ints_get (by first | omega | (simp only [ints_len] at *; omega)), ?_⟩ | fail)
      all_goals try (conv => whnf)
      refine CondOb.mk (fun hlt3 => ?_) (fun hlt3 => ?_)
      · have hjl : j < ms.length := by omega
        have hg := ints_get hjl
        have hsj := hsc j hjl
        obtain ⟨x, hx, hxl⟩ := hmm j hjl
        have hxm := hmi j hjl
        rw [hx] at hg hsj hxm
        have cA := hat x hxm
        obtain ⟨s, hs⟩ := hms x hxm
        have hfx := hst x hxl
        have cH := cHo x
        have cK : ∀ cx : C3, AtQ n d i x cx → (0 ≤ ctA n d i x kk ∧ ctA n d i x kk ≤ 7700) ∧ Ctr Try.prog 37 [crv cx.1 cx.2.1 cx.2.2, i64 kk] [] (fun r o => o = [] ∧ r = i64 (ctA n d i x kk)) := fun cx ⟨s', e1, e2, vx, fx, ex⟩ => by
          have hb := hfx.ahd_bd e2 kk
          have e3 : ctA n d i x kk = cv cx kk := by unfold ctA; rw [e1, ex]; rfl
          have e4 := ex kk
          rw [Int.toNat_natCast] at e4
          refine ⟨by omega, ?_⟩
          rw [e3]
          exact kAt_ok cx.1 cx.2.1 cx.2.2 vx kk (by omega)
        repeat' (conv => whnf
                 first | refine ⟨j, _, rfl, hg, ?_⟩ | (refine CondOb.mk (fun _ => ?_) (fun _ => ?_) <;> first | (exfalso; omega) | skip) | refine ArOb.fits (by first | omega | (simp only [ints_len] at *; omega)) ?_ | refine LitOb.vec ?_ | refine MakeOb.vec ?_ | refine AllocOb.box ?_ | refine AsgOb.vec ?_ | refine AggOb.mk (by decide +kernel) ?_ | refine ArU.fits (by first | omega | (simp only [ints_len] at *; omega)) ?_ | refine ArB.fits (by first | omega | (simp only [ints_len] at *; omega)) ?_ | refine CutOb.split ?_ | refine Gh.mk [] ?_ | refine And.intro (And.intro (by (simp only [List.length_append, List.length_take, List.length_drop, List.length_cons, List.length_nil, ints_len, List.length_replicate, lnl, fll, stl]; omega)) (by (simp only [List.length_append, List.length_take, List.length_drop, List.length_cons, List.length_nil, ints_len, List.length_replicate, lnl, fll, stl]; omega))) ?_ | refine ⟨_, _, rfl, ints_get (by first | omega | (simp only [ints_len] at *; omega)), ?_⟩ | refine ⟨_, _, (Int.toNat_of_nonneg (by first | omega | (simp only [ints_len] at *; omega))).symm, ints_get (by first | omega | (simp only [ints_len] at *; omega)), ?_⟩ | refine DrawOb.mk [] (.qs [0, 1, 2, 3, 4, 5] (.l 6 [0] (.l 7 [] (.qs [8, 9, 10] (.l 11 [] (.l 12 [] (.qs [13] .nil) .no) .no)) (.l 11 [0] (.l 7 [] (.qs [8, 9, 10] (.l 12 [] (.qs [13] .nil) .no)) .no) .no)) (.l 11 [3, 0] (.l 6 [0] (.l 7 [] (.qs [8, 9, 10] (.l 12 [] (.qs [13] .nil) .no)) .no) .no) .no))) (by decide +kernel) ?_ | (refine CallOb.mk [] cH rfl (ImpL.refl _) rfl rfl ?_; rintro _ _ ⟨rfl, rfl⟩) | (refine CallOb.mk [] cA rfl (ImpL.refl _) rfl rfl ?_; rintro _ _ ⟨⟨cx, ex⟩, ⟨hq, hz⟩, rfl, rfl⟩; dsimp only at hq hz ⊢; obtain rfl : ex = 0 := hz ⟨s, hs⟩; obtain ⟨hb, cKx⟩ := cK cx (hq rfl)) | (refine CallOb.mk [] cKx rfl (ImpL.refl _) rfl rfl ?_; rintro _ _ ⟨rfl, rfl⟩) | refine And.intro ?_ ?_ | fail)
        all_goals try (conv => whnf)
        all_goals exact ⟨j + 1, [0, 1], ⟨by omega, by omega, by omega⟩, by omega, by rw [hsj]; (refine Le.mk (by kernel_rfl) ?_ ?_ <;> repeat' (first | exact True.intro | refine And.intro ?_ ?_ | exact Imp.refl _ | exact Imp.any _ | exact Imp.num (by first | omega | simp only [ints_len]) | exact rfl | exact Imp.bl (by simp)))⟩
      · have e : j = ms.length := by omega
        subst e
        rw [List.take_length]
        rw [List.take_length] at hj0 hj1
        have cR := rRate_ok cc.1 cc.2.1 cc.2.2
        rw [hR] at cR
        have cA := rAdd_ok (fr (2310 * ksum n (users n i) c)).num ((fr (2310 * ksum n (users n i) c)).den : Int) (fr (2310 * qsm n ms)).num ((fr (2310 * qsm n ms)).den : Int)
        rw [fr_step _ _ (by omega) (by omega) (by omega), ← Int.mul_add, ← hcu] at cA
        have cK := kAt_ok cc.1 cc.2.1 cc.2.2 hvc kk (by omega)
        rw [show val cc.1 cc.2.1 cc.2.2 kk = csum n d i ms kk from hsum] at cK
        dsimp only [res] at cR cA
        generalize (fr (2310 * ksum n (users n i) c)) = r0 at *
        obtain ⟨r1, hr1⟩ : ∃ r, r = fr (2310 * ksum n (users n i) (c + 1)) := ⟨_, rfl⟩
        rw [← hr1] at cA
        generalize (fr (2310 * qsm n ms)) = r2 at *
        repeat' (conv => whnf
                 first | refine ⟨c, _, rfl, hgc, ?_⟩ | (refine CondOb.mk (fun _ => ?_) (fun _ => ?_) <;> first | (exfalso; omega) | skip) | refine ArOb.fits (by first | omega | (simp only [ints_len] at *; omega)) ?_ | refine LitOb.vec ?_ | refine MakeOb.vec ?_ | refine AllocOb.box ?_ | refine AsgOb.vec ?_ | refine AggOb.mk (by decide +kernel) ?_ | refine ArU.fits (by first | omega | (simp only [ints_len] at *; omega)) ?_ | refine ArB.fits (by first | omega | (simp only [ints_len] at *; omega)) ?_ | refine CutOb.split ?_ | refine Gh.mk [] ?_ | refine And.intro (And.intro (by (simp only [List.length_append, List.length_take, List.length_drop, List.length_cons, List.length_nil, ints_len, List.length_replicate, lnl, fll, stl]; omega)) (by (simp only [List.length_append, List.length_take, List.length_drop, List.length_cons, List.length_nil, ints_len, List.length_replicate, lnl, fll, stl]; omega))) ?_ | refine ⟨_, _, rfl, ints_get (by first | omega | (simp only [ints_len] at *; omega)), ?_⟩ | refine ⟨_, _, (Int.toNat_of_nonneg (by first | omega | (simp only [ints_len] at *; omega))).symm, ints_get (by first | omega | (simp only [ints_len] at *; omega)), ?_⟩ | (refine CallOb.mk [] cR rfl (ImpL.refl _) rfl rfl ?_; rintro _ _ ⟨rfl, rfl⟩) | (refine CallOb.mk [] cK rfl (ImpL.refl _) rfl rfl ?_; rintro _ _ ⟨rfl, rfl⟩) | (refine CallOb.mk [] cA rfl (ImpL.refl _) rfl rfl ?_; rintro _ _ ⟨rfl, rfl⟩) | fail)
        all_goals try (conv => whnf)
        exact ⟨c + 1, [0, 1], by omega, by omega, by rw [← hr1]; (refine Le.mk (by kernel_rfl) ?_ ?_ <;> repeat' (first | exact True.intro | refine And.intro ?_ ?_ | exact Imp.refl _ | exact Imp.any _ | exact Imp.num (by first | omega | simp only [ints_len]) | exact rfl | exact Imp.bl (by simp)))⟩
    have e2 : c = k := by omega
    subst e2
    have hcl2 : ∀ x ∈ users n i, 0 ≤ (n.fl.getD x.toNat fl0).cl ∧ (n.fl.getD x.toNat fl0).cl < c := fun x hx => by
      have := hub x hx
      exact (g.fg _ (Go.Np.getD_in (d := fl0) (show x.toNat < n.fl.length by omega))).cl
    have hW : 2310 * ksum n (users n i) c = wsum n (users n i) := by rw [qsm_cl _ hcl2, wsum_q hst _ hub]
    have cU := Used_ok n hn (by omega) i
    rw [(used_fr hRN hil).1, ← hW] at cU
    dsimp only [res] at cU
    generalize fr (2310 * ksum n (users n i) c) = r0 at *
    repeat' (conv => whnf
             first | (refine CondOb.mk (fun _ => ?_) (fun _ => ?_) <;> first | (exfalso; omega) | skip) | refine ArOb.fits (by first | omega | (simp only [ints_len] at *; omega)) ?_ | refine LitOb.vec ?_ | refine MakeOb.vec ?_ | refine AllocOb.box ?_ | refine AsgOb.vec ?_ | refine AggOb.mk (by decide +kernel) ?_ | refine ArU.fits (by first | omega | (simp only [ints_len] at *; omega)) ?_ | refine ArB.fits (by first | omega | (simp only [ints_len] at *; omega)) ?_ | refine CutOb.split ?_ | refine Gh.mk [] ?_ | refine And.intro (And.intro (by (simp only [List.length_append, List.length_take, List.length_drop, List.length_cons, List.length_nil, ints_len, List.length_replicate, lnl, fll, stl]; omega)) (by (simp only [List.length_append, List.length_take, List.length_drop, List.length_cons, List.length_nil, ints_len, List.length_replicate, lnl, fll, stl]; omega))) ?_ | refine ⟨_, _, rfl, ints_get (by first | omega | (simp only [ints_len] at *; omega)), ?_⟩ | refine ⟨_, _, (Int.toNat_of_nonneg (by first | omega | (simp only [ints_len] at *; omega))).symm, ints_get (by first | omega | (simp only [ints_len] at *; omega)), ?_⟩ | (refine CallOb.mk [] cU rfl (ImpL.refl _) rfl rfl ?_; rintro _ _ ⟨rfl, rfl⟩) | fail)
    all_goals try (conv => whnf)
    all_goals first
      | exact ⟨i + 1, [0], by omega, by omega, by (refine Le.mk (by kernel_rfl) ?_ ?_ <;> repeat' (first | exact True.intro | refine And.intro ?_ ?_ | exact Imp.refl _ | exact Imp.any _ | exact Imp.num (by first | omega | simp only [ints_len]) | exact rfl | exact Imp.bl (by simp)))⟩
      | (exfalso; have hcj := (by assumption : ¬conj _); exact hcj (by simp [conj]))
      | trace_state
  · repeat' (conv => whnf
             first | (refine CondOb.mk (fun _ => ?_) (fun _ => ?_) <;> first | (exfalso; omega) | skip) | refine ArOb.fits (by first | omega | (simp only [ints_len] at *; omega)) ?_ | refine LitOb.vec ?_ | refine MakeOb.vec ?_ | refine AllocOb.box ?_ | refine AsgOb.vec ?_ | refine AggOb.mk (by decide +kernel) ?_ | refine ArU.fits (by first | omega | (simp only [ints_len] at *; omega)) ?_ | refine ArB.fits (by first | omega | (simp only [ints_len] at *; omega)) ?_ | refine CutOb.split ?_ | refine Gh.mk [] ?_ | refine And.intro (And.intro (by (simp only [List.length_append, List.length_take, List.length_drop, List.length_cons, List.length_nil, ints_len, List.length_replicate, lnl, fll, stl]; omega)) (by (simp only [List.length_append, List.length_take, List.length_drop, List.length_cons, List.length_nil, ints_len, List.length_replicate, lnl, fll, stl]; omega))) ?_ | refine ⟨_, _, rfl, ints_get (by first | omega | (simp only [ints_len] at *; omega)), ?_⟩ | refine ⟨_, _, (Int.toNat_of_nonneg (by first | omega | (simp only [ints_len] at *; omega))).symm, ints_get (by first | omega | (simp only [ints_len] at *; omega)), ?_⟩ | (refine CallOb.mk [] (sane_ok) rfl (ImpL.refl _) rfl rfl ?_; rintro _ _ ⟨rfl, rfl⟩) | fail)
    all_goals try (conv => whnf)
    rfl
end Go.Proofs.Ytnlmmjmcackgjaa
