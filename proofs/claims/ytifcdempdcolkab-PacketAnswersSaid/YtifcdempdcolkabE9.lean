/-
  A text of the proofs of this seat: lemmas that the statements' proofs use; it states nothing of the program by itself beyond the contracts that its theorems bear. Conditions: those that stand in each theorem. Its short name: E9.
-/
import Derived.Test.YtifcdempdcolkabE8
import Derived.Test.YtifcdempdcolkabA3
import Derived.Test.YtifcdempdcolkabA14
set_option linter.unusedVariables false
set_option linter.unusedSimpArgs false
namespace Go.Proofs.Ytifcdempdcolkab
open Go.Sx Go.Pk Go.Cv Go.St
set_option maxRecDepth 4000
set_option maxHeartbeats 2000000
--APPX pks_len, avs_len, Go.Cv.vals_len
theorem aP_E9 {A B K : Prop} (k : K) (a : A := by (simp only [zA, zT, zD, zC, zN, ints_len, zR, pks_len, avs_len, Go.Cv.vals_len]; omega)) (b : B := by (simp only [zA, zT, zD, zC, zN, ints_len, zR, pks_len, avs_len, Go.Cv.vals_len]; omega)) : (A ∧ B) ∧ K := ⟨⟨a, b⟩, k⟩
theorem ForwardN_ok (p : List Pk) (hv : Vld p) (d : List Int) (hd : OKd p d) : Ctr Try.prog 21 [.psl 3 (pks p), .psl 1 (ints d)] [] (fun r o => o = [] ∧ r = .tup [.psl 3 (pks (fwP (fwd p d))), .psl 1 (ints (fwI (fwd p d))), i64 0]) := by
  refine Ctr.imp ?_
  refine fn_intro (E := env 0) tys_ok rfl rfl rfl Try.func21 (by kernel_rfl) rfl (by kernel_rfl) ?_
  have hpl := pks_len p
  have hdl := ints_len d
  have hl := hd.l
  have hp := hv.l
  have cC := check_ok p hv d hd
  (repeat' (conv => whnf); first | (refine aC (fun _ => ?_) (fun _ => ?_) <;> try (exfalso; omega)) | refine aS ?_ | refine aG ?_ | refine aD ?_ | refine aH ?_ | refine aP_E9 ?_ | refine aI ?_ | refine aJ ?_ | refine aW (.qs [0, 1, 2, 3, 4, 5, 6, 7, 8] (.l 9 [7] (.qs [10] (.l 11 [] .nil .no)) .no)) ?_ | (refine aK [] cC ?_) | fail); all_goals try (conv => whnf)
  refine LoopOb.mk (Y := Nat) (st := fun i => ⟨[(24, i64 i), (23, i64 (ints d).length), (22, .psl 1 (ints d)), (8, .vec 0), (0, .psl 3 (pks p))], [.vec 4 (avs (arN p d i))]⟩)
    (inv := fun i => i ≤ d.length) (fun i => d.length - i) 0 [2] (by omega) (by (exact aL)) ?_
  intro i hi
  have hal := avs_len (arN p d i)
  have han := arN_len p d i
  (repeat' (conv => whnf); first | refine aS ?_ | refine aG ?_ | refine aD ?_ | refine aH ?_ | refine aP_E9 ?_ | refine aI ?_ | refine aJ ?_ | refine aW (.qs [0, 1, 2, 3, 4, 5, 6, 7, 8] (.l 9 [7] (.qs [10] (.l 11 [] .nil .no)) .no)) ?_ | fail); all_goals try (conv => whnf)
  refine CondOb.mk (fun hlt => ?_) (fun hlt => ?_)
  · have hil : i < p.length := by omega
    have hg1 := ints_get (l := d) (j := i) (by omega)
    have hg2 := pks_get hil
    have hb := hd.g i hil
    have hb2 := hv.g i hil
    unfold bad at hb2
    have h1 : d.getD i 0 = -1 → avs (arN p d (i + 1)) = avs (arN p d i) := fun h => by simp only [arN]; rw [if_pos h]
    have h2 : ¬d.getD i 0 = -1 → avs (arN p d (i + 1)) = avs (arN p d i) ++ [[i64 (p.getD i pk0).f, i64 (d.getD i 0 + 1), i64 (p.getD i pk0).s, i64 i]] := fun h => by
      simp only [arN]; rw [if_neg h, dif_pos (by omega), avs_app]
    generalize d.getD i 0 = t at *
    generalize p.getD i pk0 = x at *
    (repeat' (conv => whnf); first | refine ⟨i, _, rfl, hg2, ?_⟩ | refine ⟨i, _, rfl, hg1, ?_⟩ | (refine aC (fun _ => ?_) (fun _ => ?_) <;> try (exfalso; omega)) | refine aS ?_ | refine aG ?_ | refine aD ?_ | refine aH ?_ | refine aP_E9 ?_ | refine aI ?_ | refine aJ ?_ | refine aW (.qs [0, 1, 2, 3, 4, 5, 6, 7, 8] (.l 9 [7] (.qs [10] (.l 11 [] .nil .no)) .no)) ?_ | fail); all_goals try (conv => whnf)
    all_goals first
      | exact ⟨i + 1, [0], by omega, by omega, by rw [h1 (by assumption)]; (exact aL)⟩
      | exact ⟨i + 1, [3], by omega, by omega, by rw [h2 (by assumption)]; (exact aL)⟩
      | trace_state
  · have e : i = p.length := by omega
    subst e
    have hp60 := hv.l
    have hfl : (arN p d p.length).length ≤ 100000 := by omega
    have cS := aSortStableN_ok _ _ FwdC_ok (arN p d p.length) hfl
    rw [show srt avt (arN p d p.length) = fwd p d from rfl] at cS
    have hfd : (fwd p d).length = (arN p d p.length).length := srt_len _ _
    have hx1 := avs_len (fwd p d)
    generalize fwd p d = l at *
    generalize arN p d p.length = A at *
    obtain ⟨P, hP⟩ : ∃ P, pks (fwP l) = P := ⟨_, rfl⟩
    obtain ⟨I, hI⟩ : ∃ I, ints (fwI l) = I := ⟨_, rfl⟩
    have hPl : P.length = l.length := by rw [← hP]; simp
    have hIl : I.length = l.length := by rw [← hI]; simp
    have hPg : ∀ (i : Nat) (x : Av), (avs l)[i]? = some (avw x) → l[i]? = some x → P[i]? = some (pkw x.x) ∧ I[i]? = some [i64 x.i] := fun i x _ h => by
      rw [← hP, ← hI]
      have h1 : (fwP l)[i]? = some x.x := by rw [fwP, List.getElem?_map, h]; rfl
      have h2 : (fwI l)[i]? = some (x.i : Int) := by rw [fwI, List.getElem?_map, h]; rfl
      refine ⟨?_, ?_⟩
      · show ((fwP l).map pkw)[i]? = _
        rw [List.getElem?_map, h1]; rfl
      · show ((fwI l).map fun n => [i64 n])[i]? = _
        rw [List.getElem?_map, h2]; rfl
    rw [hP, hI]
    have e1 : List.replicate (avs l).length ([i64 0, i64 0, i64 0] : List SV) = prt P 0 [i64 0, i64 0, i64 0] := by rw [prt_zero, hPl, hx1]
    have e2 : List.replicate (avs l).length ([i64 0] : List SV) = prt I 0 [i64 0] := by rw [prt_zero, hIl, hx1]
    (repeat' (conv => whnf); first | (refine aC (fun _ => ?_) (fun _ => ?_) <;> try (exfalso; omega)) | refine aS ?_ | refine aG ?_ | refine aD ?_ | refine aP_E9 ?_ | refine aI ?_ | refine aJ ?_ | refine ⟨_, _, rfl, rfl, Nat.le_refl _, ⟨by (simp only; omega), by omega⟩, ?_⟩ | refine aW (.qs [0, 1, 2, 3, 4, 5, 6, 7, 8] (.l 9 [7] (.qs [10] (.l 11 [] .nil .no)) .no)) ?_ | (refine Gh.mk [] ?_; (conv => whnf); refine aK [0] cS ?_) | fail); all_goals try (conv => whnf)
    refine DrawOb.cut [] (.qs [0, 1, 3, 4] (.l 2 [] (.qs [6] (.l 5 [] (.qs [7] .nil) .no)) (.l 5 [] (.l 2 [] (.qs [6, 7] .nil) .no) .no))) (Y := Unit) (st := fun _ => ⟨[(12, .vec 1), (13, .vec 2), (8, .vec 0)], [.vec 4 (avs l), .vec 3 (prt P 0 [i64 0, i64 0, i64 0]), .vec 1 (prt I 0 [i64 0])]⟩) (inv := fun _ => True) (by decide +kernel) ?_ ?_
    · (repeat' (conv => whnf); first | (refine aC (fun _ => ?_) (fun _ => ?_) <;> try (exfalso; omega)) | refine aS ?_ | refine aG ?_ | refine aD ?_ | refine aP_E9 ?_ | refine aI ?_ | refine aJ ?_ | refine ⟨_, _, rfl, rfl, Nat.le_refl _, ⟨by (simp only; omega), by omega⟩, ?_⟩ | refine aW (.qs [0, 1, 2, 3, 4, 5, 6, 7, 8] (.l 9 [7] (.qs [10] (.l 11 [] .nil .no)) .no)) ?_ | refine And.intro ?_ ?_ | fail); all_goals try (conv => whnf)
      · exact .mk [] ⟨(), [0, 1, 2], trivial, by dsimp only; rw [← e1, ← e2]; (exact aL)⟩
      · exact .mk [] ⟨(), [0, 2, 1], trivial, by dsimp only; rw [← e1, ← e2]; (exact aL)⟩
    · rintro _ _
      (repeat' (conv => whnf); first | (refine aC (fun _ => ?_) (fun _ => ?_) <;> try (exfalso; omega)) | refine aS ?_ | refine aG ?_ | refine aD ?_ | refine aP_E9 ?_ | refine aI ?_ | refine aJ ?_ | refine ⟨_, _, rfl, rfl, Nat.le_refl _, ⟨by (simp only; omega), by omega⟩, ?_⟩ | refine aW (.qs [0, 1, 2, 3, 4, 5, 6, 7, 8] (.l 9 [7] (.qs [10] (.l 11 [] .nil .no)) .no)) ?_ | fail); all_goals try (conv => whnf)
      refine .mk [] ?_
      refine LoopOb.mk (Y := Nat) (st := fun i => ⟨[(56, i64 i), (55, i64 (avs l).length), (54, .vec 0), (12, .vec 1), (13, .vec 2)], [.vec 4 (avs l), .vec 3 (prt P i [i64 0, i64 0, i64 0]), .vec 1 (prt I i [i64 0])]⟩)
        (inv := fun i => i ≤ l.length) (fun i => l.length - i) 0 [0, 1, 2] (by omega) (by (exact aL)) ?_
      intro i hi
      have hq1 := prt_len P i [i64 0, i64 0, i64 0] (by omega)
      have hq2 := prt_len I i [i64 0] (by omega)
      (repeat' (conv => whnf); first | refine aS ?_ | refine aG ?_ | refine aD ?_ | refine aH ?_ | refine aP_E9 ?_ | refine aI ?_ | refine aJ ?_ | refine aW (.qs [0, 1, 2, 3, 4, 5, 6, 7, 8] (.l 9 [7] (.qs [10] (.l 11 [] .nil .no)) .no)) ?_ | fail); all_goals try (conv => whnf)
      refine CondOb.mk (fun hlt => ?_) (fun hlt => ?_)
      · have hil : i < l.length := by omega
        have hgl : l[i]? = some l[i] := List.getElem?_eq_getElem hil
        have hgv : (avs l)[i]? = some (avw l[i]) := by
          show (l.map avw)[i]? = _
          rw [List.getElem?_map, hgl]; rfl
        obtain ⟨g1, g2⟩ := hPg i l[i] hgv hgl
        have s1 := prt_set [i64 0, i64 0, i64 0] g1
        have s2 := prt_set [i64 0] g2
        have z1 := prt_get (l := P) (k := i) [i64 0, i64 0, i64 0] (by omega)
        have z2 := prt_get (l := I) (k := i) [i64 0] (by omega)
        generalize l[i] = x at *
        clear hPg
        (repeat' (conv => whnf); first | refine ⟨_, z2, ?_⟩ | refine ⟨_, z1, ?_⟩ | refine ⟨_, hgv, ?_⟩ | refine ⟨i, by omega, by omega, ?_⟩ | (refine aC (fun _ => ?_) (fun _ => ?_) <;> try (exfalso; omega)) | refine aS ?_ | refine aG ?_ | refine aD ?_ | refine aP_E9 ?_ | refine aI ?_ | refine aJ ?_ | refine aW (.qs [0, 1, 2, 3, 4, 5, 6, 7, 8] (.l 9 [7] (.qs [10] (.l 11 [] .nil .no)) .no)) ?_ | fail); all_goals try (conv => whnf)
        exact .mk [] ⟨i + 1, [0, 1, 2], by omega, by omega, by rw [← s1, ← s2]; (exact aL)⟩
      · have e : i = l.length := by omega
        have f1 : prt P i [i64 0, i64 0, i64 0] = P := by rw [show i = P.length by omega, prt_full]
        have f2 : prt I i [i64 0] = I := by rw [show i = I.length by omega, prt_full]
        rw [f1, f2]
        (repeat' (conv => whnf); first | (refine aC (fun _ => ?_) (fun _ => ?_) <;> try (exfalso; omega)) | refine aS ?_ | refine aG ?_ | refine aD ?_ | refine aP_E9 ?_ | refine aI ?_ | refine aJ ?_ | refine aW (.qs [0, 1, 2, 3, 4, 5, 6, 7, 8] (.l 9 [7] (.qs [10] (.l 11 [] .nil .no)) .no)) ?_ | fail); all_goals try (conv => whnf)
        refine .mk [.fz 1, .fz 2] ?_
        (repeat' (conv => whnf); first | (refine aC (fun _ => ?_) (fun _ => ?_) <;> try (exfalso; omega)) | refine aS ?_ | refine aG ?_ | refine aD ?_ | refine aH ?_ | refine aP_E9 ?_ | refine aI ?_ | refine aJ ?_ | refine aW (.qs [0, 1, 2, 3, 4, 5, 6, 7, 8] (.l 9 [7] (.qs [10] (.l 11 [] .nil .no)) .no)) ?_ | fail); all_goals try (conv => whnf)
        exact ⟨rfl, Imp.refl _⟩
/-! tick by tick -/
def bkt (A : List Av) : Nat → List Av
  | 0 => []
  | T + 1 => bkt A T ++ flt avt ((T + 1 : Nat) : Int) A
theorem bkt_mem {A : List Av} : ∀ {T : Nat}, ∀ a ∈ bkt A T, avt a ≤ T
  | 0, a, h => by simp [bkt] at h
  | T + 1, a, h => by
    simp only [bkt, List.mem_append] at h
    rcases h with h | h
    · have := bkt_mem a h; omega
    · have := (List.mem_filter.1 h).2
      simp at this; omega
theorem srt_const {k : Av → Int} {c : Int} : ∀ {l : List Av}, (∀ x ∈ l, k x = c) → Srt k l := fun {l} h => by
  rw [srt_getE]
  intro i j hi hj _
  rw [h _ (List.getElem_mem hi), h _ (List.getElem_mem hj)]; exact Int.le_refl _
theorem bkt_srt {A : List Av} : ∀ T, Srt avt (bkt A T)
  | 0 => by simp [bkt, Srt]
  | T + 1 => by
    simp only [bkt]
    have hc : ∀ x ∈ flt avt ((T + 1 : Nat) : Int) A, avt x = ((T + 1 : Nat) : Int) := fun x hx => by
      have := (List.mem_filter.1 hx).2
      simpa using this
    rw [srt_app]
    refine ⟨bkt_srt T, srt_const hc, fun x hx y hy => ?_⟩
    have h1 := bkt_mem x hx
    have h2 := hc y hy
    omega
theorem flt_flt {k : Av → Int} {t u : Int} {A : List Av} : flt k t (flt k u A) = if t = u then flt k u A else [] := by
  unfold flt
  rw [List.filter_filter]
  split
  · rename_i h; subst h
    congr 1; funext a; simp
  · rename_i h
    rw [List.filter_eq_nil_iff]
    intro a _
    simp; intro h1 h2; omega
theorem bkt_flt {A : List Av} {t : Int} : ∀ T : Nat, flt avt t (bkt A T) = if 1 ≤ t ∧ t ≤ T then flt avt t A else []
  | 0 => by rw [if_neg (by omega)]; rfl
  | T + 1 => by
    simp only [bkt]
    rw [flt_app, bkt_flt T, flt_flt]
    by_cases h : t = ((T + 1 : Nat) : Int)
    · rw [if_neg (by omega), if_pos h, if_pos (by omega), h]; rfl
    · rw [if_neg h, List.append_nil]
      by_cases h2 : 1 ≤ t ∧ t ≤ (T : Int)
      · rw [if_pos h2, if_pos (by omega)]
      · rw [if_neg h2, if_neg (by omega)]
theorem bkt_all {A : List Av} {T : Nat} (h : ∀ a ∈ A, 1 ≤ avt a ∧ avt a ≤ T) : bkt A T = srt avt A := by
  refine eq_srt (bkt_srt T) fun t => ?_
  rw [bkt_flt]
  by_cases h2 : 1 ≤ t ∧ t ≤ (T : Int)
  · rw [if_pos h2]
  · rw [if_neg h2, flt_nil]
    intro x hx e
    have := h x hx
    omega
theorem arN_key {p : List Pk} {d : List Int} (hd : OKd p d) (hv : Vld p) : ∀ i, i ≤ p.length → ∀ a ∈ arN p d i, 1 ≤ avt a ∧ avt a ≤ (2000 : Nat)
  | 0, _, a, h => by simp [arN] at h
  | i + 1, hi, a, h => by
    have ih := arN_key hd hv i (by omega)
    simp only [arN] at h
    split at h
    · exact ih a h
    · split at h
      · rcases List.mem_append.1 h with h | h
        · exact ih a h
        · rw [List.mem_singleton.1 h]
          have h1 := hd.g i (by omega)
          have h2 := hv.g i (by omega)
          unfold bad at h2
          show 1 ≤ d.getD i 0 + 1 ∧ d.getD i 0 + 1 ≤ (2000 : Nat)
          omega
      · exact ih a h
theorem bkt_len {A : List Av} : ∀ T, (bkt A T).length ≤ T * A.length
  | 0 => by simp [bkt]
  | T + 1 => by
    have := bkt_len (A := A) T
    have h2 := List.length_filter_le (fun y => avt y == ((T + 1 : Nat) : Int)) A
    simp only [bkt, List.length_append, flt]
    rw [Nat.succ_mul]; omega
/- what is forwarded, or the error -/
def FwdG (p : List Pk) (d : List Int) (x : List Pk × List Int × Int) : Prop := x = if chk p d = 0 then (fwP (fwd p d), fwI (fwd p d), 0) else ([], [], chk p d)
theorem ForwardG_ok (p : List Pk) (d : List Int) (hp : p.length ≤ 1000000) (hd : d.length ≤ 1000000) : Ctr Try.prog 21 [.psl 3 (pks p), .psl 1 (ints d)] [] (fun r o => ∃ x, FwdG p d x ∧ o = [] ∧ r = .tup [.psl 3 (pks x.1), .psl 1 (ints x.2.1), i64 x.2.2]) := by
  by_cases h0 : chk p d = 0
  · obtain ⟨h1, h2⟩ := chk_zero.1 h0
    exact (ForwardN_ok p h1 d h2).mono (fun r o ⟨a, b⟩ => ⟨_, by unfold FwdG; rw [if_pos h0], a, b⟩)
  refine Ctr.impE ?_
  refine fn_intro (E := env 0) tys_ok rfl rfl rfl Try.func21 (by kernel_rfl) rfl (by kernel_rfl) ?_
  have cC := checkA_ok p d hp hd
  (repeat' (conv => whnf); first | refine AsgOb.nil ?_ | (refine aC (fun _ => ?_) (fun _ => ?_) <;> try (exfalso; omega)) | refine aS ?_ | refine aG ?_ | refine aD ?_ | refine aH ?_ | refine aP_E9 ?_ | refine aI ?_ | refine aJ ?_ | refine aW (.qs [0, 1, 2, 3, 4, 5, 6, 7, 8] (.l 9 [7] (.qs [10] (.l 11 [] .nil .no)) .no)) ?_ | (refine aK [] cC ?_) | fail); all_goals try (conv => whnf)
  exact ⟨([], [], chk p d), by unfold FwdG; rw [if_neg h0], rfl, Imp.tup ⟨Imp.nil _, Imp.nil _, Imp.refl _, trivial⟩⟩
theorem rForwardG_ok (p : List Pk) (d : List Int) (hp : p.length ≤ 1000000) (hd : d.length ≤ 1000000) : Ctr Try.prog 22 [.psl 3 (pks p), .psl 1 (ints d)] [] (fun r o => ∃ x, FwdG p d x ∧ o = [] ∧ r = .tup [.psl 3 (pks x.1), .psl 1 (ints x.2.1), i64 x.2.2]) := by
  refine Ctr.impE ?_
  refine fn_intro (E := env 0) tys_ok rfl rfl rfl Try.func22 (by kernel_rfl) rfl (by kernel_rfl) ?_
  have cC := rbad_ok p d hp hd
  have hpl := pks_len p
  have hdl := ints_len d
  have hD : ∀ x, FwdG p d x ↔ x = if chk p d = 0 then (fwP (fwd p d), fwI (fwd p d), 0) else ([], [], chk p d) := fun x => Iff.rfl
  have hz := chk_zero (p := p) (d := d)
  generalize chk p d = c at *
  (repeat' (conv => whnf); first | (refine aC (fun _ => ?_) (fun _ => ?_) <;> try (exfalso; omega)) | refine aS ?_ | refine aG ?_ | refine aD ?_ | refine aP_E9 ?_ | refine aI ?_ | refine aJ ?_ | (refine Gh.mk [] ?_; (conv => whnf); refine aK [] cC ?_) | fail); all_goals try (conv => whnf)
  · refine .mk [.fa] ?_
    (conv => whnf)
    exact ⟨([], [], c), (hD _).2 (by rw [if_neg (by assumption)]), rfl, Imp.refl _⟩
  have hc : c = 0 := Classical.not_not.1 (by assumption)
  subst hc
  obtain ⟨hv, hd'⟩ := hz.1 rfl
  have hl := hd'.l
  have hp60 := hv.l
  have hD := (hD (fwP (fwd p d), fwI (fwd p d), 0)).2 (by rw [if_pos rfl])
  have hbk : bkt (arN p d p.length) 2000 = fwd p d := bkt_all (arN_key hd' hv _ (Nat.le_refl _))
  refine .mk [] ?_
  refine LoopOb.mk (Y := Nat) (st := fun T => ⟨[(10, i64 T), (9, .vec 1), (8, .vec 0), (0, .psl 3 (pks p)), (1, .psl 1 (ints d))], [.vec 3 (pks (fwP (bkt (arN p d p.length) T))), .vec 1 (ints (fwI (bkt (arN p d p.length) T)))]⟩)
    (inv := fun T => T ≤ 2000) (fun T => 2000 - T) 0 [2, 3] (by omega) (by (exact aL)) ?_
  intro T hT
  (repeat' (conv => whnf); first | refine aS ?_ | refine aG ?_ | refine aD ?_ | refine aH ?_ | refine aP_E9 ?_ | refine aI ?_ | refine aJ ?_ | fail); all_goals try (conv => whnf)
  refine CondOb.mk (fun hlt => ?_) (fun hlt => ?_)
  · have hz0 : bkt (arN p d p.length) T ++ flt avt ((T + 1 : Nat) : Int) (arN p d 0) = bkt (arN p d p.length) T := by simp [arN, flt]
    (repeat' (conv => whnf); first | refine aS ?_ | refine aG ?_ | refine aD ?_ | refine aH ?_ | refine aP_E9 ?_ | refine aI ?_ | refine aJ ?_ | fail); all_goals try (conv => whnf)
    refine LoopOb.mk (Y := Nat) (st := fun i => ⟨[(11, i64 i), (10, i64 T), (9, .vec 1), (8, .vec 0), (0, .psl 3 (pks p)), (1, .psl 1 (ints d))], [.vec 3 (pks (fwP (bkt (arN p d p.length) T ++ flt avt ((T + 1 : Nat) : Int) (arN p d i)))), .vec 1 (ints (fwI (bkt (arN p d p.length) T ++ flt avt ((T + 1 : Nat) : Int) (arN p d i))))]⟩)
      (inv := fun i => i ≤ p.length) (fun i => p.length - i) 0 [0, 1] (by omega) (by rw [hz0]; (exact aL)) ?_
    intro i hi
    have hln : (bkt (arN p d p.length) T ++ flt avt ((T + 1 : Nat) : Int) (arN p d i)).length ≤ 200000 := by
      have h1 := bkt_len (A := arN p d p.length) T
      have h2 := arN_len p d p.length
      have h3 := arN_len p d i
      have h4 := List.length_filter_le (fun y => avt y == ((T + 1 : Nat) : Int)) (arN p d i)
      have h5 : T * (arN p d p.length).length ≤ 2000 * 60 := Nat.mul_le_mul (by omega) (by omega)
      simp only [List.length_append, flt]
      omega
    have hend : i = p.length → bkt (arN p d p.length) T ++ flt avt ((T + 1 : Nat) : Int) (arN p d i) = bkt (arN p d p.length) (T + 1) := fun h => by subst h; rfl
    have hno : d.getD i 0 ≠ T → flt avt ((T + 1 : Nat) : Int) (arN p d (i + 1)) = flt avt ((T + 1 : Nat) : Int) (arN p d i) := fun h => by
      simp only [arN]
      split
      · rfl
      · split
        · rw [flt_app, flt_cons, if_neg (show ¬(d.getD i 0 + 1 = ((T + 1 : Nat) : Int)) by omega)]; simp [flt]
        · rfl
    have hyes : i < p.length → d.getD i 0 = T → ∃ a : Av, flt avt ((T + 1 : Nat) : Int) (arN p d (i + 1)) = flt avt ((T + 1 : Nat) : Int) (arN p d i) ++ [a] ∧ a.x = ⟨(p.getD i pk0).f, T + 1, (p.getD i pk0).s⟩ ∧ a.i = i := fun hi' h => by
      simp only [arN]
      rw [if_neg (by omega), dif_pos (by omega), flt_app, flt_cons, if_pos (show d.getD i 0 + 1 = ((T + 1 : Nat) : Int) by omega)]
      exact ⟨_, rfl, by show (⟨_, d.getD i 0 + 1, _⟩ : Pk) = _; rw [h], rfl⟩
    have hnx : d.getD i 0 ≠ T → bkt (arN p d p.length) T ++ flt avt ((T + 1 : Nat) : Int) (arN p d (i + 1)) = bkt (arN p d p.length) T ++ flt avt ((T + 1 : Nat) : Int) (arN p d i) := fun h => by rw [hno h]
    have hny : i < p.length → d.getD i 0 = T → pks (fwP (bkt (arN p d p.length) T ++ flt avt ((T + 1 : Nat) : Int) (arN p d (i + 1)))) = pks (fwP (bkt (arN p d p.length) T ++ flt avt ((T + 1 : Nat) : Int) (arN p d i))) ++ [[i64 (p.getD i pk0).f, i64 ((T : Int) + 1), i64 (p.getD i pk0).s]] ∧ ints (fwI (bkt (arN p d p.length) T ++ flt avt ((T + 1 : Nat) : Int) (arN p d (i + 1)))) = ints (fwI (bkt (arN p d p.length) T ++ flt avt ((T + 1 : Nat) : Int) (arN p d i))) ++ [[i64 i]] := fun hi' h => by
      obtain ⟨a, h1, h2, h3⟩ := hyes hi' h
      rw [h1, ← List.append_assoc]
      simp [fwP, fwI, pks, ints, h2, h3]
    have hP1 : (pks (fwP (bkt (arN p d p.length) T ++ flt avt ((T + 1 : Nat) : Int) (arN p d i)))).length ≤ 200000 := by rw [pks_len, List.length_map]; exact hln
    have hP2 : (ints (fwI (bkt (arN p d p.length) T ++ flt avt ((T + 1 : Nat) : Int) (arN p d i)))).length ≤ 200000 := by rw [ints_len, List.length_map]; exact hln
    clear hno hyes hln
    (repeat' (conv => whnf); first | refine aS ?_ | refine aG ?_ | refine aD ?_ | refine aH ?_ | refine aP_E9 ?_ | refine aI ?_ | refine aJ ?_ | fail); all_goals try (conv => whnf)
    refine CondOb.mk (fun hlt2 => ?_) (fun hlt2 => ?_)
    · have hil : i < p.length := by omega
      have hg1 := ints_get (l := d) (j := i) (by omega)
      have hg2 := pks_get hil
      have hny := hny hil
      have hb := hd'.g i hil
      generalize bkt (arN p d p.length) T ++ flt avt ((T + 1 : Nat) : Int) (arN p d i) = L at *
      generalize d.getD i 0 = t at *
      generalize p.getD i pk0 = x at *
      generalize hPe : pks (fwP L) = P1 at *
      generalize hIe : ints (fwI L) = I1 at *
      (repeat' (conv => whnf); first | refine ⟨i, _, rfl, hg2, ?_⟩ | refine ⟨i, _, rfl, hg1, ?_⟩ | refine aC (fun _ => ?_) (fun _ => ?_) | refine aS ?_ | refine aG ?_ | refine aD ?_ | refine aH ?_ | refine aP_E9 ?_ | refine aI ?_ | refine aJ ?_ | fail); all_goals try (conv => whnf)
      · refine ⟨i + 1, [4, 6], by omega, by omega, ?_⟩
        obtain ⟨q1, q2⟩ := hny (by assumption)
        rw [q1, q2]
        (exact aL)
      · refine ⟨i + 1, [0, 1], by omega, by omega, ?_⟩
        rw [hnx (by assumption), hPe, hIe]
        (exact aL)
    have e : i = p.length := by omega
    rw [hend e]
    (repeat' (conv => whnf); first | refine aC (fun _ => ?_) (fun _ => ?_) | refine aS ?_ | refine aG ?_ | refine aD ?_ | refine aH ?_ | refine aP_E9 ?_ | refine aI ?_ | refine aJ ?_ | fail); all_goals try (conv => whnf)
    exact ⟨T + 1, [0, 1], by omega, by omega, by (exact aL)⟩
  have e : T = 2000 := by omega
  rw [show bkt (arN p d p.length) T = fwd p d by rw [e]; exact hbk]
  (repeat' (conv => whnf); first | refine aC (fun _ => ?_) (fun _ => ?_) | refine aS ?_ | refine aG ?_ | refine aD ?_ | refine aP_E9 ?_ | refine aI ?_ | refine aJ ?_ | fail); all_goals try (conv => whnf)
  refine .mk [.fz 0, .fz 1] ?_
  (conv => whnf)
  exact ⟨_, hD, rfl, Imp.refl _⟩
end Go.Proofs.Ytifcdempdcolkab
