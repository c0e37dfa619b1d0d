/-
  A text of the proofs of this seat: lemmas that the statements' proofs use; it states nothing of the program by itself beyond the contracts that its theorems bear. Conditions: those that stand in each theorem. Its short name: A3.
-/
import Derived.Test.YtifcdempdcolkabA2
set_option linter.unusedVariables false
set_option linter.unusedSimpArgs false
namespace Go.Proofs.Ytifcdempdcolkab
open Go.Sx Go.Pk Go.Cv Go.St
set_option maxRecDepth 4000
set_option maxHeartbeats 2000000
--APPX pks_len, avs_len
/- the arrivals of the first i packets -/
def arN (p : List Pk) (d : List Int) : Nat → List Av
  | 0 => []
  | i + 1 => if d.getD i 0 = -1 then arN p d i else if h : 0 ≤ d.getD i 0 + 1 ∧ d.getD i 0 + 1 ≤ 3000 then arN p d i ++ [⟨i, ⟨(p.getD i pk0).f, d.getD i 0 + 1, (p.getD i pk0).s⟩, h⟩] else arN p d i
theorem arN_len (p : List Pk) (d : List Int) : ∀ i, (arN p d i).length ≤ i
  | 0 => by simp [arN]
  | i + 1 => by
    have := arN_len p d i
    simp only [arN]
    split
    · omega
    · split
      · simp only [List.length_append, List.length_singleton]; omega
      · omega
theorem avs_app (l : List Av) (x : Av) : avs (l ++ [x]) = avs l ++ [avw x] := by simp [avs]
/- what is forwarded -/
def fwd (p : List Pk) (d : List Int) : List Av := srt avt (arN p d p.length)
abbrev fwP (l : List Av) : List Pk := l.map (·.x)
abbrev fwI (l : List Av) : List Int := l.map fun a => (a.i : Int)
theorem aP_A3 {A B K : Prop} (k : K) (a : A := by (simp only [zA, zT, zD, zC, zN, ints_len, zR, pks_len, avs_len]; omega)) (b : B := by (simp only [zA, zT, zD, zC, zN, ints_len, zR, pks_len, avs_len]; omega)) : (A ∧ B) ∧ K := ⟨⟨a, b⟩, k⟩
theorem Forward_ok (p : List Pk) (hv : Vld p) (hp : p.length ≤ 20) (d : List Int) (hd : OKd p d) : Ctr Try.prog 21 [.psl 3 (pks p), .psl 1 (ints d)] [] (fun r o => o = [] ∧ r = .tup [.psl 3 (pks (fwP (fwd p d))), .psl 1 (ints (fwI (fwd p d))), i64 0]) := by
  refine Ctr.imp ?_
  refine fn_intro (E := env 0) tys_ok rfl rfl rfl Try.func21 (by kernel_rfl) rfl (by kernel_rfl) ?_
  have hpl := pks_len p
  have hdl := ints_len d
  have hl := hd.l
  have cC := check_ok p hv d hd
  (repeat' (conv => whnf); first | (refine aC (fun _ => ?_) (fun _ => ?_) <;> try (exfalso; omega)) | refine aS ?_ | refine aG ?_ | refine aD ?_ | refine aH ?_ | refine aP_A3 ?_ | refine aI ?_ | refine aJ ?_ | refine aW (.qs [0, 1, 2, 3, 4, 5, 6, 7, 8] (.l 9 [7] (.qs [10] (.l 11 [] .nil .no)) .no)) ?_ | (refine aK [] cC ?_) | fail); all_goals try (conv => whnf)
  refine LoopOb.mk (Y := Nat) (st := fun i => ⟨[(24, i64 i), (23, i64 (ints d).length), (22, .psl 1 (ints d)), (8, .vec 0), (0, .psl 3 (pks p))], [.vec 4 (avs (arN p d i))]⟩)
    (inv := fun i => i ≤ d.length) (fun i => d.length - i) 0 [2] (by omega) (by (exact aL)) ?_
  intro i hi
  have hal := avs_len (arN p d i)
  have han := arN_len p d i
  (repeat' (conv => whnf); first | refine aS ?_ | refine aG ?_ | refine aD ?_ | refine aH ?_ | refine aP_A3 ?_ | refine aI ?_ | refine aJ ?_ | refine aW (.qs [0, 1, 2, 3, 4, 5, 6, 7, 8] (.l 9 [7] (.qs [10] (.l 11 [] .nil .no)) .no)) ?_ | fail); all_goals try (conv => whnf)
  refine CondOb.mk (fun hlt => ?_) (fun hlt => ?_)
  · have hil : i < p.length := by omega
    have hg1 := ints_get (l := d) (j := i) (by omega)
    have hg2 := pks_get hil
    have hb := hd.g i hil
    have hb2 := hv.g i hil
    unfold bad at hb2
    have h1 : d.getD i 0 = -1 → avs (arN p d (i + 1)) = avs (arN p d i) := fun h => by simp only [arN]; rw [if_pos h]
    have h2 : ¬d.getD i 0 = -1 → avs (arN p d (i + 1)) = avs (arN p d i) ++ [[i64 (p.getD i pk0).f, i64 (d.getD i 0 + 1), i64 (p.getD i pk0).s, i64 i]] := fun h => by
      simp only [arN]; rw [if_neg h, dif_pos (by omega), avs_app]
    generalize d.getD i 0 = t at *
    generalize p.getD i pk0 = x at *
    (repeat' (conv => whnf); first | refine ⟨i, _, rfl, hg2, ?_⟩ | refine ⟨i, _, rfl, hg1, ?_⟩ | (refine aC (fun _ => ?_) (fun _ => ?_) <;> try (exfalso; omega)) | refine aS ?_ | refine aG ?_ | refine aD ?_ | refine aH ?_ | refine aP_A3 ?_ | refine aI ?_ | refine aJ ?_ | refine aW (.qs [0, 1, 2, 3, 4, 5, 6, 7, 8] (.l 9 [7] (.qs [10] (.l 11 [] .nil .no)) .no)) ?_ | fail); all_goals try (conv => whnf)
    all_goals first
      | exact ⟨i + 1, [0], by omega, by omega, by rw [h1 (by assumption)]; (exact aL)⟩
      | exact ⟨i + 1, [3], by omega, by omega, by rw [h2 (by assumption)]; (exact aL)⟩
      | trace_state
  · have e : i = p.length := by omega
    subst e
    have hfl : (arN p d p.length).length ≤ 20 := by omega
    have cS := aSortStable_ok _ _ FwdC_ok (arN p d p.length) hfl
    rw [show srt avt (arN p d p.length) = fwd p d from rfl] at cS
    have hfd : (fwd p d).length = (arN p d p.length).length := srt_len _ _
    have hx1 := avs_len (fwd p d)
    generalize fwd p d = l at *
    generalize arN p d p.length = A at *
    obtain ⟨P, hP⟩ : ∃ P, pks (fwP l) = P := ⟨_, rfl⟩
    obtain ⟨I, hI⟩ : ∃ I, ints (fwI l) = I := ⟨_, rfl⟩
    have hPl : P.length = l.length := by rw [← hP]; simp
    have hIl : I.length = l.length := by rw [← hI]; simp
    have hPg : ∀ (i : Nat) (x : Av), (avs l)[i]? = some (avw x) → l[i]? = some x → P[i]? = some (pkw x.x) ∧ I[i]? = some [i64 x.i] := fun i x _ h => by
      rw [← hP, ← hI]
      have h1 : (fwP l)[i]? = some x.x := by rw [fwP, List.getElem?_map, h]; rfl
      have h2 : (fwI l)[i]? = some (x.i : Int) := by rw [fwI, List.getElem?_map, h]; rfl
      refine ⟨?_, ?_⟩
      · show ((fwP l).map pkw)[i]? = _
        rw [List.getElem?_map, h1]; rfl
      · show ((fwI l).map fun n => [i64 n])[i]? = _
        rw [List.getElem?_map, h2]; rfl
    rw [hP, hI]
    have e1 : List.replicate (avs l).length ([i64 0, i64 0, i64 0] : List SV) = prt P 0 [i64 0, i64 0, i64 0] := by rw [prt_zero, hPl, hx1]
    have e2 : List.replicate (avs l).length ([i64 0] : List SV) = prt I 0 [i64 0] := by rw [prt_zero, hIl, hx1]
    (repeat' (conv => whnf); first | (refine aC (fun _ => ?_) (fun _ => ?_) <;> try (exfalso; omega)) | refine aS ?_ | refine aG ?_ | refine aD ?_ | refine aP_A3 ?_ | refine aI ?_ | refine aJ ?_ | refine ⟨_, _, rfl, rfl, Nat.le_refl _, ⟨by (simp only; omega), by omega⟩, ?_⟩ | refine aW (.qs [0, 1, 2, 3, 4, 5, 6, 7, 8] (.l 9 [7] (.qs [10] (.l 11 [] .nil .no)) .no)) ?_ | (refine Gh.mk [] ?_; (conv => whnf); refine aK [0] cS ?_) | fail); all_goals try (conv => whnf)
    refine DrawOb.cut [] (.qs [0, 1, 3, 4] (.l 2 [] (.qs [6] (.l 5 [] (.qs [7] .nil) .no)) (.l 5 [] (.l 2 [] (.qs [6, 7] .nil) .no) .no))) (Y := Unit) (st := fun _ => ⟨[(12, .vec 1), (13, .vec 2), (8, .vec 0)], [.vec 4 (avs l), .vec 3 (prt P 0 [i64 0, i64 0, i64 0]), .vec 1 (prt I 0 [i64 0])]⟩) (inv := fun _ => True) (by decide +kernel) ?_ ?_
    · (repeat' (conv => whnf); first | (refine aC (fun _ => ?_) (fun _ => ?_) <;> try (exfalso; omega)) | refine aS ?_ | refine aG ?_ | refine aD ?_ | refine aP_A3 ?_ | refine aI ?_ | refine aJ ?_ | refine ⟨_, _, rfl, rfl, Nat.le_refl _, ⟨by (simp only; omega), by omega⟩, ?_⟩ | refine aW (.qs [0, 1, 2, 3, 4, 5, 6, 7, 8] (.l 9 [7] (.qs [10] (.l 11 [] .nil .no)) .no)) ?_ | refine And.intro ?_ ?_ | fail); all_goals try (conv => whnf)
      · exact .mk [] ⟨(), [0, 1, 2], trivial, by dsimp only; rw [← e1, ← e2]; (exact aL)⟩
      · exact .mk [] ⟨(), [0, 2, 1], trivial, by dsimp only; rw [← e1, ← e2]; (exact aL)⟩
    · rintro _ _
      (repeat' (conv => whnf); first | (refine aC (fun _ => ?_) (fun _ => ?_) <;> try (exfalso; omega)) | refine aS ?_ | refine aG ?_ | refine aD ?_ | refine aP_A3 ?_ | refine aI ?_ | refine aJ ?_ | refine ⟨_, _, rfl, rfl, Nat.le_refl _, ⟨by (simp only; omega), by omega⟩, ?_⟩ | refine aW (.qs [0, 1, 2, 3, 4, 5, 6, 7, 8] (.l 9 [7] (.qs [10] (.l 11 [] .nil .no)) .no)) ?_ | fail); all_goals try (conv => whnf)
      refine .mk [] ?_
      refine LoopOb.mk (Y := Nat) (st := fun i => ⟨[(56, i64 i), (55, i64 (avs l).length), (54, .vec 0), (12, .vec 1), (13, .vec 2)], [.vec 4 (avs l), .vec 3 (prt P i [i64 0, i64 0, i64 0]), .vec 1 (prt I i [i64 0])]⟩)
        (inv := fun i => i ≤ l.length) (fun i => l.length - i) 0 [0, 1, 2] (by omega) (by (exact aL)) ?_
      intro i hi
      have hq1 := prt_len P i [i64 0, i64 0, i64 0] (by omega)
      have hq2 := prt_len I i [i64 0] (by omega)
      (repeat' (conv => whnf); first | refine aS ?_ | refine aG ?_ | refine aD ?_ | refine aH ?_ | refine aP_A3 ?_ | refine aI ?_ | refine aJ ?_ | refine aW (.qs [0, 1, 2, 3, 4, 5, 6, 7, 8] (.l 9 [7] (.qs [10] (.l 11 [] .nil .no)) .no)) ?_ | fail); all_goals try (conv => whnf)
      refine CondOb.mk (fun hlt => ?_) (fun hlt => ?_)
      · have hil : i < l.length := by omega
        have hgl : l[i]? = some l[i] := List.getElem?_eq_getElem hil
        have hgv : (avs l)[i]? = some (avw l[i]) := by
          show (l.map avw)[i]? = _
          rw [List.getElem?_map, hgl]; rfl
        obtain ⟨g1, g2⟩ := hPg i l[i] hgv hgl
        have s1 := prt_set [i64 0, i64 0, i64 0] g1
        have s2 := prt_set [i64 0] g2
        have z1 := prt_get (l := P) (k := i) [i64 0, i64 0, i64 0] (by omega)
        have z2 := prt_get (l := I) (k := i) [i64 0] (by omega)
        generalize l[i] = x at *
        clear hPg
        (repeat' (conv => whnf); first | refine ⟨_, z2, ?_⟩ | refine ⟨_, z1, ?_⟩ | refine ⟨_, hgv, ?_⟩ | refine ⟨i, by omega, by omega, ?_⟩ | (refine aC (fun _ => ?_) (fun _ => ?_) <;> try (exfalso; omega)) | refine aS ?_ | refine aG ?_ | refine aD ?_ | refine aP_A3 ?_ | refine aI ?_ | refine aJ ?_ | refine aW (.qs [0, 1, 2, 3, 4, 5, 6, 7, 8] (.l 9 [7] (.qs [10] (.l 11 [] .nil .no)) .no)) ?_ | fail); all_goals try (conv => whnf)
        exact .mk [] ⟨i + 1, [0, 1, 2], by omega, by omega, by rw [← s1, ← s2]; (exact aL)⟩
      · have e : i = l.length := by omega
        have f1 : prt P i [i64 0, i64 0, i64 0] = P := by rw [show i = P.length by omega, prt_full]
        have f2 : prt I i [i64 0] = I := by rw [show i = I.length by omega, prt_full]
        rw [f1, f2]
        (repeat' (conv => whnf); first | (refine aC (fun _ => ?_) (fun _ => ?_) <;> try (exfalso; omega)) | refine aS ?_ | refine aG ?_ | refine aD ?_ | refine aP_A3 ?_ | refine aI ?_ | refine aJ ?_ | refine aW (.qs [0, 1, 2, 3, 4, 5, 6, 7, 8] (.l 9 [7] (.qs [10] (.l 11 [] .nil .no)) .no)) ?_ | fail); all_goals try (conv => whnf)
        refine .mk [.fz 1, .fz 2] ?_
        (repeat' (conv => whnf); first | (refine aC (fun _ => ?_) (fun _ => ?_) <;> try (exfalso; omega)) | refine aS ?_ | refine aG ?_ | refine aD ?_ | refine aH ?_ | refine aP_A3 ?_ | refine aI ?_ | refine aJ ?_ | refine aW (.qs [0, 1, 2, 3, 4, 5, 6, 7, 8] (.l 9 [7] (.qs [10] (.l 11 [] .nil .no)) .no)) ?_ | fail); all_goals try (conv => whnf)
        exact ⟨rfl, Imp.refl _⟩
end Go.Proofs.Ytifcdempdcolkab
