/-
  A text of the proofs of this seat: lemmas that the statements' proofs use; it states nothing of the program by itself beyond the contracts that its theorems bear. Conditions: those that stand in each theorem. Its short name: N18.
-/
import Derived.Test.YtbbbmkjfmcnnfaaN17
import Derived.Test.YtbbbmkjfmcnnfaaNp3
set_option linter.unusedVariables false
set_option linter.unusedSimpArgs false
namespace Go.Proofs.Ytbbbmkjfmcnnfaa
open Go.Sx Go.Np Go.Cv
set_option maxRecDepth 4000
set_option maxHeartbeats 2000000
theorem fls_set {l : List Fl} {i : Nat} {f : Fl} : (fls l).set i (flv f) = fls (l.set i f) := by simp [fls, List.map_set]
theorem ba_x : ∀ i < 4, (⟨#[120]⟩ : ByteArray) ++ baOf [97 + ((i : Nat) : Int)] = xname i := by decide +kernel
theorem ba_y : ∀ i < 5, (⟨#[121]⟩ : ByteArray) ++ baOf [97 + ((i : Nat) : Int)] = yname i := by decide +kernel
theorem ba_sz {x : UInt8} {n : Int} : (⟨#[x]⟩ : ByteArray).size + (baOf [n]).size ≤ 9223372036854775807 := by
  show 1 + 1 ≤ 9223372036854775807
  omega
theorem rn_fl {n : Nt} : (rn n).fl.length = n.fl.length := fr_len
theorem rn_nl {ml mf k : Nat} {n : Nt} (h : NetG ml mf k n) : NL (rn n) := by
  have hn := h.nl
  have g2 := h.g.ll
  refine ⟨by show (xs n.ln.length).length ≤ _; rw [xs_len]; omega, hn.ln, by rw [rn_fl]; exact hn.fl, fun s hs => ?_, hn.lw, fun f hf => ?_⟩
  · obtain ⟨i, _, rfl⟩ := List.mem_map.1 hs
    show 2 ≤ _; omega
  · obtain ⟨i, hi, rfl⟩ := List.mem_map.1 hf
    have hi := List.mem_range.1 hi
    have := hn.fs _ (getD_in (d := fl0) hi)
    rw [if_pos hi]
    exact ⟨by show 2 ≤ _; omega, this.2⟩
theorem szR_rn {k : Nat} {n : Nt} (g : NtG k n) {l : Int} : szR (rn n) l = szR n l := by
  have e : szC (rn n) l = szC n l := by
    unfold szC; rw [g.chk_rn, g.chk]; rfl
  unfold szR
  rw [e]
  exact sf_congr fun j _ => by rw [members_rn, szs_rn]
theorem Order_ok (l : List Int) (hl : l.length ≤ 9223372036854775807) : Ctr Try.prog 6 [.psl 1 (ints l)] [] (fun r o => r = .bl true) := by
  refine fn_intro (E := env 0) tys_ok rfl rfl rfl Try.func6 (by kernel_rfl) rfl (by kernel_rfl) ?_
  have hL : (l.take 2000).length ≤ 2000 := by rw [List.length_take]; omega
  repeat' (conv => whnf
           first | (refine CondOb.mk (fun _ => ?_) (fun _ => ?_) <;> first | (exfalso; omega) | skip) | refine ArOb.fits (by first | omega | (simp only [ints_len] at *; omega)) ?_ | refine LitOb.vec ?_ | refine MakeOb.vec ?_ | refine AllocOb.box ?_ | refine AggOb.mk (by decide +kernel) ?_ | refine ArU.fits (by first | omega | (simp only [ints_len] at *; omega)) ?_ | refine ArB.fits (by first | omega | (simp only [ints_len] at *; omega)) ?_ | refine CutOb.split ?_ | refine Gh.mk [] ?_ | refine And.intro (And.intro (by (simp only [List.length_append, List.length_take, List.length_drop, List.length_cons, List.length_nil, ints_len, List.length_replicate, lnl, fll, stl]; omega)) (by (simp only [List.length_append, List.length_take, List.length_drop, List.length_cons, List.length_nil, ints_len, List.length_replicate, lnl, fll, stl]; omega))) ?_ | refine ⟨_, _, rfl, ints_get (by first | omega | (simp only [ints_len] at *; omega)), ?_⟩ | refine ⟨_, _, (Int.toNat_of_nonneg (by first | omega | (simp only [ints_len] at *; omega))).symm, ints_get (by first | omega | (simp only [ints_len] at *; omega)), ?_⟩ | refine DrawOb.mk [] (.qs [0, 1, 3, 4] (.l 2 [3] (.l 5 [] (.l 6 [] (.qs [7, 8, 9, 10, 12, 13] (.l 11 [12] (.l 14 [] (.l 15 [] (.qs [16, 17, 18, 19, 20, 23, 24, 25, 26, 27, 28] (.l 21 [28, 24] (.qs [22, 29, 30] .nil) .no)) .no) .no) .no)) .no) .no) .no)) (by decide +kernel) ?_ | (refine CallOb.mk [] (sane_ok) rfl (ImpL.refl _) rfl rfl ?_; rintro _ _ ⟨rfl, rfl⟩) | (refine CallOb.mk [] (New_ok l hl) rfl (ImpL.refl _) rfl rfl ?_; rintro _ _ ⟨rfl, rfl⟩) | fail)
  all_goals try (conv => whnf)
  · rfl
  refine CallOb.mk [0] (Net_ok _ 0 hL (by omega) 4 5 (by omega) (by omega)) rfl (ImpL.refl _) rfl rfl ?_
  rintro _ _ ⟨⟨n, k, p1⟩, ⟨hG, hp1⟩, rfl, rfl⟩
  dsimp only at hG hp1 ⊢
  have hn := hG.nl
  have g := hG.g
  have g1 := g.k1
  have g2 := g.ll
  have g3 := g.fl
  have g4 := g.nl
  have hll := lnl n.ln
  have hfl := fll n.fl
  have hsl := stl n.nm
  repeat' (conv => whnf
           first | (refine CondOb.mk (fun _ => ?_) (fun _ => ?_) <;> first | (exfalso; omega) | skip) | refine ArOb.fits (by first | omega | (simp only [ints_len] at *; omega)) ?_ | refine LitOb.vec ?_ | refine MakeOb.vec ?_ | refine AllocOb.box ?_ | refine AggOb.mk (by decide +kernel) ?_ | refine ArU.fits (by first | omega | (simp only [ints_len] at *; omega)) ?_ | refine ArB.fits (by first | omega | (simp only [ints_len] at *; omega)) ?_ | refine CutOb.split ?_ | refine And.intro (And.intro (by (simp only [List.length_append, List.length_take, List.length_drop, List.length_cons, List.length_nil, ints_len, List.length_replicate, lnl, fll, stl]; omega)) (by (simp only [List.length_append, List.length_take, List.length_drop, List.length_cons, List.length_nil, ints_len, List.length_replicate, lnl, fll, stl]; omega))) ?_ | refine ⟨_, _, rfl, ints_get (by first | omega | (simp only [ints_len] at *; omega)), ?_⟩ | refine ⟨_, _, (Int.toNat_of_nonneg (by first | omega | (simp only [ints_len] at *; omega))).symm, ints_get (by first | omega | (simp only [ints_len] at *; omega)), ?_⟩ | refine DrawOb.mk [] (.qs [0, 1, 3, 4] (.l 2 [3] (.l 5 [] (.l 6 [] (.qs [7, 8, 9, 10, 12, 13] (.l 11 [12] (.l 14 [] (.l 15 [] (.qs [16, 17, 18, 19, 20, 23, 24, 25, 26, 27, 28] (.l 21 [28, 24] (.qs [22, 29, 30] .nil) .no)) .no) .no) .no)) .no) .no) .no)) (by decide +kernel) ?_ | fail)
  all_goals try (conv => whnf)
  refine .mk [.nb 2 0 1] ?_
  repeat' (conv => whnf
           first | (refine CondOb.mk (fun _ => ?_) (fun _ => ?_) <;> first | (exfalso; omega) | skip) | refine ArOb.fits (by first | omega | (simp only [ints_len] at *; omega)) ?_ | refine LitOb.vec ?_ | refine MakeOb.vec ?_ | refine AllocOb.box ?_ | refine AggOb.mk (by decide +kernel) ?_ | refine ArU.fits (by first | omega | (simp only [ints_len] at *; omega)) ?_ | refine ArB.fits (by first | omega | (simp only [ints_len] at *; omega)) ?_ | refine CutOb.split ?_ | refine And.intro (And.intro (by (simp only [List.length_append, List.length_take, List.length_drop, List.length_cons, List.length_nil, ints_len, List.length_replicate, lnl, fll, stl]; omega)) (by (simp only [List.length_append, List.length_take, List.length_drop, List.length_cons, List.length_nil, ints_len, List.length_replicate, lnl, fll, stl]; omega))) ?_ | refine ⟨_, _, rfl, ints_get (by first | omega | (simp only [ints_len] at *; omega)), ?_⟩ | refine ⟨_, _, (Int.toNat_of_nonneg (by first | omega | (simp only [ints_len] at *; omega))).symm, ints_get (by first | omega | (simp only [ints_len] at *; omega)), ?_⟩ | refine DrawOb.mk [] (.qs [0, 1, 3, 4] (.l 2 [3] (.l 5 [] (.l 6 [] (.qs [7, 8, 9, 10, 12, 13] (.l 11 [12] (.l 14 [] (.l 15 [] (.qs [16, 17, 18, 19, 20, 23, 24, 25, 26, 27, 28] (.l 21 [28, 24] (.qs [22, 29, 30] .nil) .no)) .no) .no) .no)) .no) .no) .no)) (by decide +kernel) ?_ | fail)
  all_goals try (conv => whnf)
  refine LoopOb.mk (Y := Nat) (st := fun i => ⟨[(24, i64 i), (23, i64 (strs n.nm).length), (4, .ptr 1 0), (3, .ptr 0 0)], [.box [.psl 1 (strs n.nm), .psl 5 (lns n.ln), .psl 8 (fls n.fl)], .box [.vec 2, .psl 5 (lns n.ln), .vec 3], .vec 1 (strs (xs i)), .vec 8 (fls n.fl)]⟩)
    (inv := fun i => i ≤ n.ln.length) (fun i => n.ln.length - i) 0 [1, 2, 4, 3] (by omega) (by (refine Le.mk (by kernel_rfl) ?_ ?_ <;> repeat' (first | exact True.intro | refine And.intro ?_ ?_ | exact Imp.refl _ | exact Imp.any _ | exact Imp.num (by first | omega | simp only [ints_len]) | exact rfl | exact Imp.bl (by simp)))) ?_
  intro i hi
  have hxl := stl (xs i)
  have hxs := xs_len (t := i)
  repeat' (conv => whnf
           first | refine ArOb.fits (by first | omega | (simp only [ints_len] at *; omega)) ?_ | refine LitOb.vec ?_ | refine MakeOb.vec ?_ | refine AllocOb.box ?_ | refine AggOb.mk (by decide +kernel) ?_ | refine ArU.fits (by first | omega | (simp only [ints_len] at *; omega)) ?_ | refine ArB.fits (by first | omega | (simp only [ints_len] at *; omega)) ?_ | refine CutOb.split ?_ | refine Gh.mk [] ?_ | refine And.intro (And.intro (by (simp only [List.length_append, List.length_take, List.length_drop, List.length_cons, List.length_nil, ints_len, List.length_replicate, lnl, fll, stl]; omega)) (by (simp only [List.length_append, List.length_take, List.length_drop, List.length_cons, List.length_nil, ints_len, List.length_replicate, lnl, fll, stl]; omega))) ?_ | refine ⟨_, _, rfl, ints_get (by first | omega | (simp only [ints_len] at *; omega)), ?_⟩ | refine ⟨_, _, (Int.toNat_of_nonneg (by first | omega | (simp only [ints_len] at *; omega))).symm, ints_get (by first | omega | (simp only [ints_len] at *; omega)), ?_⟩ | refine DrawOb.mk [] (.qs [0, 1, 3, 4] (.l 2 [3] (.l 5 [] (.l 6 [] (.qs [7, 8, 9, 10, 12, 13] (.l 11 [12] (.l 14 [] (.l 15 [] (.qs [16, 17, 18, 19, 20, 23, 24, 25, 26, 27, 28] (.l 21 [28, 24] (.qs [22, 29, 30] .nil) .no)) .no) .no) .no)) .no) .no) .no)) (by decide +kernel) ?_ | fail)
  all_goals try (conv => whnf)
  refine CondOb.mk (fun hlt => ?_) (fun hlt => ?_)
  · have hx := ba_x i (by omega)
    repeat' (conv => whnf
             first | (refine CondOb.mk (fun _ => ?_) (fun _ => ?_) <;> first | (exfalso; omega) | skip) | refine ArOb.fits (by first | omega | (simp only [ints_len] at *; omega)) ?_ | refine LitOb.vec ?_ | refine MakeOb.vec ?_ | refine AllocOb.box ?_ | refine AggOb.mk (by decide +kernel) ?_ | refine ArU.fits (by first | omega | (simp only [ints_len] at *; omega)) ?_ | refine ArB.fits (by first | omega | (simp only [ints_len] at *; omega)) ?_ | refine CutOb.split ?_ | refine Gh.mk [] ?_ | refine And.intro (And.intro (by (simp only [List.length_append, List.length_take, List.length_drop, List.length_cons, List.length_nil, ints_len, List.length_replicate, lnl, fll, stl]; omega)) (by (simp only [List.length_append, List.length_take, List.length_drop, List.length_cons, List.length_nil, ints_len, List.length_replicate, lnl, fll, stl]; omega))) ?_ | refine ⟨_, _, rfl, ints_get (by first | omega | (simp only [ints_len] at *; omega)), ?_⟩ | refine ⟨_, _, (Int.toNat_of_nonneg (by first | omega | (simp only [ints_len] at *; omega))).symm, ints_get (by first | omega | (simp only [ints_len] at *; omega)), ?_⟩ | refine DrawOb.mk [] (.qs [0, 1, 3, 4] (.l 2 [3] (.l 5 [] (.l 6 [] (.qs [7, 8, 9, 10, 12, 13] (.l 11 [12] (.l 14 [] (.l 15 [] (.qs [16, 17, 18, 19, 20, 23, 24, 25, 26, 27, 28] (.l 21 [28, 24] (.qs [22, 29, 30] .nil) .no)) .no) .no) .no)) .no) .no) .no)) (by decide +kernel) ?_ | refine ⟨[97 + (i : Int)], rfl, ?_⟩ | refine ⟨ba_sz, ?_⟩ | fail)
    all_goals try (conv => whnf)
    rw [hx]
    exact ⟨i + 1, [0, 1, 6, 3], by omega, by omega, by rw [xs_succ, strs_app]; (refine Le.mk (by kernel_rfl) ?_ ?_ <;> repeat' (first | exact True.intro | refine And.intro ?_ ?_ | exact Imp.refl _ | exact Imp.any _ | exact Imp.num (by first | omega | simp only [ints_len]) | exact rfl | exact Imp.bl (by simp)))⟩
  have hiL : i = n.ln.length := by omega
  subst hiL
  repeat' (conv => whnf
           first | (refine CondOb.mk (fun _ => ?_) (fun _ => ?_) <;> first | (exfalso; omega) | skip) | refine ArOb.fits (by first | omega | (simp only [ints_len] at *; omega)) ?_ | refine LitOb.vec ?_ | refine MakeOb.vec ?_ | refine AllocOb.box ?_ | refine AggOb.mk (by decide +kernel) ?_ | refine ArU.fits (by first | omega | (simp only [ints_len] at *; omega)) ?_ | refine ArB.fits (by first | omega | (simp only [ints_len] at *; omega)) ?_ | refine CutOb.split ?_ | refine Gh.mk [] ?_ | refine And.intro (And.intro (by (simp only [List.length_append, List.length_take, List.length_drop, List.length_cons, List.length_nil, ints_len, List.length_replicate, lnl, fll, stl]; omega)) (by (simp only [List.length_append, List.length_take, List.length_drop, List.length_cons, List.length_nil, ints_len, List.length_replicate, lnl, fll, stl]; omega))) ?_ | refine ⟨_, _, rfl, ints_get (by first | omega | (simp only [ints_len] at *; omega)), ?_⟩ | refine ⟨_, _, (Int.toNat_of_nonneg (by first | omega | (simp only [ints_len] at *; omega))).symm, ints_get (by first | omega | (simp only [ints_len] at *; omega)), ?_⟩ | refine DrawOb.mk [] (.qs [0, 1, 3, 4] (.l 2 [3] (.l 5 [] (.l 6 [] (.qs [7, 8, 9, 10, 12, 13] (.l 11 [12] (.l 14 [] (.l 15 [] (.qs [16, 17, 18, 19, 20, 23, 24, 25, 26, 27, 28] (.l 21 [28, 24] (.qs [22, 29, 30] .nil) .no)) .no) .no) .no)) .no) .no) .no)) (by decide +kernel) ?_ | fail)
  all_goals try (conv => whnf)
  refine LoopOb.mk (Y := Nat) (st := fun i => ⟨[(42, i64 i), (41, i64 (fls n.fl).length), (4, .ptr 1 0), (3, .ptr 0 0)], [.box [.psl 1 (strs n.nm), .psl 5 (lns n.ln), .psl 8 (fls n.fl)], .box [.vec 2, .psl 5 (lns n.ln), .vec 3], .vec 1 (strs (xs n.ln.length)), .vec 8 (fls (fr n.fl i))]⟩)
    (inv := fun i => i ≤ n.fl.length) (fun i => n.fl.length - i) 0 [0, 1, 2, 3] (by omega) (by rw [fr_zero]; (refine Le.mk (by kernel_rfl) ?_ ?_ <;> repeat' (first | exact True.intro | refine And.intro ?_ ?_ | exact Imp.refl _ | exact Imp.any _ | exact Imp.num (by first | omega | simp only [ints_len]) | exact rfl | exact Imp.bl (by simp)))) ?_
  intro i hi
  have hfr := fr_len (l := n.fl) (j := i)
  have hff := fll (fr n.fl i)
  repeat' (conv => whnf
           first | refine ArOb.fits (by first | omega | (simp only [ints_len] at *; omega)) ?_ | refine LitOb.vec ?_ | refine MakeOb.vec ?_ | refine AllocOb.box ?_ | refine AggOb.mk (by decide +kernel) ?_ | refine ArU.fits (by first | omega | (simp only [ints_len] at *; omega)) ?_ | refine ArB.fits (by first | omega | (simp only [ints_len] at *; omega)) ?_ | refine CutOb.split ?_ | refine Gh.mk [] ?_ | refine And.intro (And.intro (by (simp only [List.length_append, List.length_take, List.length_drop, List.length_cons, List.length_nil, ints_len, List.length_replicate, lnl, fll, stl]; omega)) (by (simp only [List.length_append, List.length_take, List.length_drop, List.length_cons, List.length_nil, ints_len, List.length_replicate, lnl, fll, stl]; omega))) ?_ | refine ⟨_, _, rfl, ints_get (by first | omega | (simp only [ints_len] at *; omega)), ?_⟩ | refine ⟨_, _, (Int.toNat_of_nonneg (by first | omega | (simp only [ints_len] at *; omega))).symm, ints_get (by first | omega | (simp only [ints_len] at *; omega)), ?_⟩ | refine DrawOb.mk [] (.qs [0, 1, 3, 4] (.l 2 [3] (.l 5 [] (.l 6 [] (.qs [7, 8, 9, 10, 12, 13] (.l 11 [12] (.l 14 [] (.l 15 [] (.qs [16, 17, 18, 19, 20, 23, 24, 25, 26, 27, 28] (.l 21 [28, 24] (.qs [22, 29, 30] .nil) .no)) .no) .no) .no)) .no) .no) .no)) (by decide +kernel) ?_ | fail)
  all_goals try (conv => whnf)
  refine CondOb.mk (fun hlt2 => ?_) (fun hlt2 => ?_)
  · have hx := ba_y i (by omega)
    have hgf := flg (l := fr n.fl i) (i := i) (by omega)
    have hge := fr_get (l := n.fl) (i := i) (j := i) (by omega)
    rw [if_neg (by omega)] at hge
    rw [hge] at hgf
    have hst := fr_step (l := n.fl) (j := i) (by omega)
    generalize n.fl.getD i fl0 = f at *
    repeat' (conv => whnf
             first | (refine CondOb.mk (fun _ => ?_) (fun _ => ?_) <;> first | (exfalso; omega) | skip) | refine ArOb.fits (by first | omega | (simp only [ints_len] at *; omega)) ?_ | refine LitOb.vec ?_ | refine MakeOb.vec ?_ | refine AllocOb.box ?_ | refine AggOb.mk (by decide +kernel) ?_ | refine ArU.fits (by first | omega | (simp only [ints_len] at *; omega)) ?_ | refine ArB.fits (by first | omega | (simp only [ints_len] at *; omega)) ?_ | refine CutOb.split ?_ | refine Gh.mk [] ?_ | refine And.intro (And.intro (by (simp only [List.length_append, List.length_take, List.length_drop, List.length_cons, List.length_nil, ints_len, List.length_replicate, lnl, fll, stl]; omega)) (by (simp only [List.length_append, List.length_take, List.length_drop, List.length_cons, List.length_nil, ints_len, List.length_replicate, lnl, fll, stl]; omega))) ?_ | refine ⟨_, _, rfl, ints_get (by first | omega | (simp only [ints_len] at *; omega)), ?_⟩ | refine ⟨_, _, (Int.toNat_of_nonneg (by first | omega | (simp only [ints_len] at *; omega))).symm, ints_get (by first | omega | (simp only [ints_len] at *; omega)), ?_⟩ | refine DrawOb.mk [] (.qs [0, 1, 3, 4] (.l 2 [3] (.l 5 [] (.l 6 [] (.qs [7, 8, 9, 10, 12, 13] (.l 11 [12] (.l 14 [] (.l 15 [] (.qs [16, 17, 18, 19, 20, 23, 24, 25, 26, 27, 28] (.l 21 [28, 24] (.qs [22, 29, 30] .nil) .no)) .no) .no) .no)) .no) .no) .no)) (by decide +kernel) ?_ | refine ⟨[97 + (i : Int)], rfl, ?_⟩ | refine ⟨ba_sz, ?_⟩ | refine ⟨i, rfl, by omega, ?_⟩ | refine ⟨_, hgf, ?_⟩ | fail)
    all_goals try (conv => whnf)
    rw [hx]
    exact ⟨i + 1, [0, 1, 2, 3], by omega, by omega, by rw [← hst, ← fls_set]; (refine Le.mk (by kernel_rfl) ?_ ?_ <;> repeat' (first | exact True.intro | refine And.intro ?_ ?_ | exact Imp.refl _ | exact Imp.any _ | exact Imp.num (by first | omega | simp only [ints_len]) | exact rfl | exact Imp.bl (by simp)))⟩
  have hiF : i = n.fl.length := by omega
  subst hiF
  have hm : NL (rn n) := rn_nl hG
  have hB : 4 = 4 := rfl
  repeat' (conv => whnf
           first | (refine CondOb.mk (fun _ => ?_) (fun _ => ?_) <;> first | (exfalso; omega) | skip) | refine ArOb.fits (by first | omega | (simp only [ints_len] at *; omega)) ?_ | refine LitOb.vec ?_ | refine MakeOb.vec ?_ | refine AllocOb.box ?_ | refine AggOb.mk (by decide +kernel) ?_ | refine ArU.fits (by first | omega | (simp only [ints_len] at *; omega)) ?_ | refine ArB.fits (by first | omega | (simp only [ints_len] at *; omega)) ?_ | refine CutOb.split ?_ | refine And.intro (And.intro (by (simp only [List.length_append, List.length_take, List.length_drop, List.length_cons, List.length_nil, ints_len, List.length_replicate, lnl, fll, stl]; omega)) (by (simp only [List.length_append, List.length_take, List.length_drop, List.length_cons, List.length_nil, ints_len, List.length_replicate, lnl, fll, stl]; omega))) ?_ | refine ⟨_, _, rfl, ints_get (by first | omega | (simp only [ints_len] at *; omega)), ?_⟩ | refine ⟨_, _, (Int.toNat_of_nonneg (by first | omega | (simp only [ints_len] at *; omega))).symm, ints_get (by first | omega | (simp only [ints_len] at *; omega)), ?_⟩ | refine DrawOb.mk [] (.qs [0, 1, 3, 4] (.l 2 [3] (.l 5 [] (.l 6 [] (.qs [7, 8, 9, 10, 12, 13] (.l 11 [12] (.l 14 [] (.l 15 [] (.qs [16, 17, 18, 19, 20, 23, 24, 25, 26, 27, 28] (.l 21 [28, 24] (.qs [22, 29, 30] .nil) .no)) .no) .no) .no)) .no) .no) .no)) (by decide +kernel) ?_ | fail)
  all_goals try (conv => whnf)
  refine .mk [.fz 2, .fz 3] ?_
  refine LoopOb.mk (Y := Nat) (st := fun i => ⟨[(7, i64 i), (4, .ptr 1 0), (3, .ptr 0 0)], [.box [.psl 1 (strs n.nm), .psl 5 (lns n.ln), .psl 8 (fls n.fl)], .box [.psl 1 (strs (rn n).nm), .psl 5 (lns (rn n).ln), .psl 8 (fls (rn n).fl)]]⟩)
    (inv := fun i => i ≤ n.ln.length) (fun i => n.ln.length - i) 0 [0, 1] (by omega) (by (refine Le.mk (by kernel_rfl) ?_ ?_ <;> repeat' (first | exact True.intro | refine And.intro ?_ ?_ | exact Imp.refl _ | exact Imp.any _ | exact Imp.num (by first | omega | simp only [ints_len]) | exact rfl | exact Imp.bl (by simp)))) ?_
  intro i hi
  repeat' (conv => whnf
           first | refine ArOb.fits (by first | omega | (simp only [ints_len] at *; omega)) ?_ | refine LitOb.vec ?_ | refine MakeOb.vec ?_ | refine AllocOb.box ?_ | refine AggOb.mk (by decide +kernel) ?_ | refine ArU.fits (by first | omega | (simp only [ints_len] at *; omega)) ?_ | refine ArB.fits (by first | omega | (simp only [ints_len] at *; omega)) ?_ | refine CutOb.split ?_ | refine Gh.mk [] ?_ | refine And.intro (And.intro (by (simp only [List.length_append, List.length_take, List.length_drop, List.length_cons, List.length_nil, ints_len, List.length_replicate, lnl, fll, stl]; omega)) (by (simp only [List.length_append, List.length_take, List.length_drop, List.length_cons, List.length_nil, ints_len, List.length_replicate, lnl, fll, stl]; omega))) ?_ | refine ⟨_, _, rfl, ints_get (by first | omega | (simp only [ints_len] at *; omega)), ?_⟩ | refine ⟨_, _, (Int.toNat_of_nonneg (by first | omega | (simp only [ints_len] at *; omega))).symm, ints_get (by first | omega | (simp only [ints_len] at *; omega)), ?_⟩ | refine DrawOb.mk [] (.qs [0, 1, 3, 4] (.l 2 [3] (.l 5 [] (.l 6 [] (.qs [7, 8, 9, 10, 12, 13] (.l 11 [12] (.l 14 [] (.l 15 [] (.qs [16, 17, 18, 19, 20, 23, 24, 25, 26, 27, 28] (.l 21 [28, 24] (.qs [22, 29, 30] .nil) .no)) .no) .no) .no)) .no) .no) .no)) (by decide +kernel) ?_ | fail)
  all_goals try (conv => whnf)
  refine CondOb.mk (fun hlt3 => ?_) (fun hlt3 => ?_)
  · have hil : i < n.ln.length := by omega
    have hg := lng hil
    have hk : (n.ln.getD i ln0).n = k := (g.le _ (getD_in hil)).2
    have cU := Users_ok (rn n) hm (by rw [rn_fl]; omega) i
    rw [users_rn] at cU
    have cS := Sizes_ok (rn n) hm i
    rw [szR_rn g] at cS
    have hsz : szR n i = sf k fun c => szs n (members n i c) := by
      unfold szR szC
      rw [g.chk, if_neg (by omega), Int.toNat_natCast, hk, Int.toNat_natCast]
    have hul : (users n i).length ≤ 5 := by have := usr_len (n := n) (l := i) (i := n.fl.length); unfold users; omega
    have hsl2 := sf_len (C := k) (g := fun c => szs n (members n i c))
    have cS0 := Sizes_ok n hn i
    rw [hsz] at cS cS0
    generalize (fun c : Nat => szs n (members n i c)) = G at *
    generalize n.ln.getD i ln0 = ll at *
    repeat' (conv => whnf
             first | (refine CondOb.mk (fun h' => ?_) (fun h' => ?_) <;> first | (exfalso; first | omega | exact h' rfl) | skip) | (refine CondOb.mk (fun _ => ?_) (fun _ => ?_) <;> first | (exfalso; omega) | skip) | refine ArOb.fits (by first | omega | (simp only [ints_len] at *; omega)) ?_ | refine LitOb.vec ?_ | refine MakeOb.vec ?_ | refine AllocOb.box ?_ | refine AggOb.mk (by decide +kernel) ?_ | refine ArU.fits (by first | omega | (simp only [ints_len] at *; omega)) ?_ | refine ArB.fits (by first | omega | (simp only [ints_len] at *; omega)) ?_ | refine CutOb.split ?_ | refine Gh.mk [] ?_ | refine And.intro (And.intro (by (simp only [List.length_append, List.length_take, List.length_drop, List.length_cons, List.length_nil, ints_len, List.length_replicate, lnl, fll, stl]; omega)) (by (simp only [List.length_append, List.length_take, List.length_drop, List.length_cons, List.length_nil, ints_len, List.length_replicate, lnl, fll, stl]; omega))) ?_ | refine ⟨_, _, rfl, ints_get (by first | omega | (simp only [ints_len] at *; omega)), ?_⟩ | refine ⟨_, _, (Int.toNat_of_nonneg (by first | omega | (simp only [ints_len] at *; omega))).symm, ints_get (by first | omega | (simp only [ints_len] at *; omega)), ?_⟩ | refine DrawOb.mk [] (.qs [0, 1, 3, 4] (.l 2 [3] (.l 5 [] (.l 6 [] (.qs [7, 8, 9, 10, 12, 13] (.l 11 [12] (.l 14 [] (.l 15 [] (.qs [16, 17, 18, 19, 20, 23, 24, 25, 26, 27, 28] (.l 21 [28, 24] (.qs [22, 29, 30] .nil) .no)) .no) .no) .no)) .no) .no) .no)) (by decide +kernel) ?_ | refine ⟨i, _, rfl, hg, ?_⟩ | (refine CallOb.mk [] (Users_ok n hn (by omega) i) rfl (ImpL.refl _) rfl rfl ?_; rintro _ _ ⟨rfl, rfl⟩) | (refine CallOb.mk [] cU rfl (ImpL.refl _) rfl rfl ?_; rintro _ _ ⟨rfl, rfl⟩) | (refine CallOb.mk [] cS rfl (ImpL.refl _) rfl rfl ?_; rintro _ _ ⟨rfl, rfl⟩) | (refine CallOb.mk [] cS0 rfl (ImpL.refl _) rfl rfl ?_; rintro _ _ ⟨rfl, rfl⟩) | (refine CallOb.mk [] (kInts_ok (users n i) (users n i) (by omega)) rfl (ImpL.refl _) rfl rfl ?_; rintro _ _ ⟨rfl, rfl⟩) | (refine CallOb.mk [] (sizes_eq k (by omega) G) rfl (ImpL.refl _) rfl rfl ?_; rintro _ _ ⟨rfl, rfl⟩) | fail)
    all_goals try (conv => whnf)
    all_goals first
      | rfl
      | exact ⟨i + 1, [0, 1], by omega, by omega, by (refine Le.mk (by kernel_rfl) ?_ ?_ <;> repeat' (first | exact True.intro | refine And.intro ?_ ?_ | exact Imp.refl _ | exact Imp.any _ | exact Imp.num (by first | omega | simp only [ints_len]) | exact rfl | exact Imp.bl (by simp)))⟩
      | trace_state
  · have cC := Check_ok (rn n) hm
    rw [g.chk_rn] at cC
    repeat' (conv => whnf
             first | (refine CondOb.mk (fun _ => ?_) (fun _ => ?_) <;> first | (exfalso; omega) | skip) | refine ArOb.fits (by first | omega | (simp only [ints_len] at *; omega)) ?_ | refine LitOb.vec ?_ | refine MakeOb.vec ?_ | refine AllocOb.box ?_ | refine AggOb.mk (by decide +kernel) ?_ | refine ArU.fits (by first | omega | (simp only [ints_len] at *; omega)) ?_ | refine ArB.fits (by first | omega | (simp only [ints_len] at *; omega)) ?_ | refine CutOb.split ?_ | refine Gh.mk [] ?_ | refine And.intro (And.intro (by (simp only [List.length_append, List.length_take, List.length_drop, List.length_cons, List.length_nil, ints_len, List.length_replicate, lnl, fll, stl]; omega)) (by (simp only [List.length_append, List.length_take, List.length_drop, List.length_cons, List.length_nil, ints_len, List.length_replicate, lnl, fll, stl]; omega))) ?_ | refine ⟨_, _, rfl, ints_get (by first | omega | (simp only [ints_len] at *; omega)), ?_⟩ | refine ⟨_, _, (Int.toNat_of_nonneg (by first | omega | (simp only [ints_len] at *; omega))).symm, ints_get (by first | omega | (simp only [ints_len] at *; omega)), ?_⟩ | refine DrawOb.mk [] (.qs [0, 1, 3, 4] (.l 2 [3] (.l 5 [] (.l 6 [] (.qs [7, 8, 9, 10, 12, 13] (.l 11 [12] (.l 14 [] (.l 15 [] (.qs [16, 17, 18, 19, 20, 23, 24, 25, 26, 27, 28] (.l 21 [28, 24] (.qs [22, 29, 30] .nil) .no)) .no) .no) .no)) .no) .no) .no)) (by decide +kernel) ?_ | (refine CallOb.mk [] cC rfl (ImpL.refl _) rfl rfl ?_; rintro _ _ ⟨rfl, rfl⟩) | (refine CallOb.mk [] (sane_ok) rfl (ImpL.refl _) rfl rfl ?_; rintro _ _ ⟨rfl, rfl⟩) | fail)
    all_goals try (conv => whnf)
    all_goals first
      | rfl
      | (exfalso; omega)
      | trace_state
end Go.Proofs.Ytbbbmkjfmcnnfaa
