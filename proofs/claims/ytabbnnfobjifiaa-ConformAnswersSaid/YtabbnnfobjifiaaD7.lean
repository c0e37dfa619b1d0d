/-
  A text of the proofs of this seat: lemmas that the statements' proofs use; it states nothing of the program by itself beyond the contracts that its theorems bear. Conditions: those that stand in each theorem. Its short name: D7 D8.
-/
import Derived.Test.YtabbnnfobjifiaaD1
import Derived.Test.YtabbnnfobjifiaaPl
set_option linter.unusedVariables false
set_option linter.unusedSimpArgs false
section
namespace Go.Proofs.Ytabbnnfobjifiaa
open Go.Sx Go.Pk Go.Cv Go.St
set_option maxRecDepth 8000
set_option maxHeartbeats 2000000
--APPX pks_len, Go.Cv.vals_len
theorem ints_app7 (l : List Int) (v : Int) : ints (l ++ [v]) = ints l ++ [[i64 v]] := by simp [ints]
theorem aP_D7 {A B K : Prop} (k : K) (a : A := by (simp only [zA, zT, zD, zC, zN, ints_len, zR, pks_len, Go.Cv.vals_len]; omega)) (b : B := by (simp only [zA, zT, zD, zC, zN, ints_len, zR, pks_len, Go.Cv.vals_len]; omega)) : (A ∧ B) ∧ K := ⟨⟨a, b⟩, k⟩
theorem rPolice_ok (p : List Pk) (hv : Vld p) (flow : Int) (hf : -1 ≤ flow) (f : C3) (vf : VC f) :
    Ctr Try.prog 35 [.psl 3 (pks p), i64 flow, crv f.1 f.2.1 f.2.2] [] (fun r o => o = [] ∧ r = .tup [.psl 3 (pks (pol f flow p p.length).2.1), .psl 1 (ints (pol f flow p p.length).2.2), i64 0]) := by
  refine Ctr.imp ?_
  refine fn_intro (E := env 0) tys_ok rfl rfl rfl Try.func35 (by kernel_rfl) rfl (by kernel_rfl) ?_
  have hpl := pks_len p
  have hl := hv.l
  have hs := srt_of_vld hv
  have cB := rbadG_ok p (by omega) flow f.1 f.2.1 f.2.2 (by have := vf.n2; omega)
  (repeat' (conv => whnf); first | (refine aC (fun _ => ?_) (fun _ => ?_) <;> try (exfalso; omega)) | refine aS ?_ | refine aG ?_ | refine aD ?_ | refine aH ?_ | refine aP_D7 ?_ | refine aI ?_ | refine aJ ?_ | refine aW (.qs [0, 1, 2, 3, 4, 5] (.l 6 [] (.qs [7] .nil) .no)) ?_ | fail); all_goals try (conv => whnf)
  refine CallOb.mk [] cB rfl (ImpL.refl _) rfl rfl ?_
  rintro _ _ ⟨e, he, rfl, rfl⟩
  have h0 : e = 0 := he.uniq (.ok (vld_zero.2 hv) hf vf.valid rfl)
  subst h0
  clear he cB
  (repeat' (conv => whnf); first | (refine aC (fun _ => ?_) (fun _ => ?_) <;> try (exfalso; omega)) | refine aS ?_ | refine aG ?_ | refine aD ?_ | refine aH ?_ | refine aP_D7 ?_ | refine aI ?_ | refine aJ ?_ | refine aW (.qs [0, 1, 2, 3, 4, 5] (.l 6 [] (.qs [7] .nil) .no)) ?_ | fail); all_goals try (conv => whnf)
  refine LoopOb.mk (Y := Nat × List Pk × List Pk × List Int) (st := fun y => ⟨[(13, i64 y.1), (12, .vec 3), (11, .vec 2), (10, .vec 1), (5, .ptr 0 0), (0, .psl 3 (pks p)), (1, i64 flow)], [.box [.psl 1 (ints f.1), i64 f.2.1, i64 f.2.2], .vec 3 (pks y.2.2.1), .vec 3 (pks y.2.1), .vec 1 (ints y.2.2.2)]⟩)
    (inv := fun y => (y.1 ≤ p.length ∧ pol f flow p y.1 = (rv y.2.1, y.2.2.1, y.2.2.2)) ∧ (y.2.1.length ≤ y.1 ∧ y.2.2.1.length ≤ y.1 ∧ y.2.2.2.length ≤ y.1) ∧ ∀ z ∈ y.2.1, ∃ j, j < y.1 ∧ z = p.getD j pk0) (fun y => p.length - y.1) (0, [], [], []) [0, 3, 4, 5]
    ⟨⟨by simp, rfl⟩, ⟨by simp, by simp, by simp⟩, by simp⟩ (by (exact aL)) ?_
  rintro ⟨i, B, q, g⟩ ⟨⟨hi, hN⟩, ⟨hB, hq, hg0⟩, hm⟩
  dsimp only at hi hN hB hq hg0 hm ⊢
  have hBl := pks_len B
  have hql := pks_len q
  have hgl := ints_len g
  (repeat' (conv => whnf); first | refine aS ?_ | refine aG ?_ | refine aD ?_ | refine aH ?_ | refine aP_D7 ?_ | refine aI ?_ | refine aJ ?_ | refine aW (.qs [0, 1, 2, 3, 4, 5] (.l 6 [] (.qs [7] .nil) .no)) ?_ | fail); all_goals try (conv => whnf)
  refine CondOb.mk (fun hlt => ?_) (fun hlt => ?_)
  · have hil : i < p.length := by omega
    have hg := pks_get hil
    have hb := hv.g i hil
    unfold bad at hb
    obtain ⟨s1, s2, s3⟩ := pol_step hN
    have hle : ∀ z ∈ B, 0 ≤ z.t ∧ z.t ≤ (p.getD i pk0).t ∧ 0 ≤ z.s ∧ z.s ≤ 1000000 := fun z hz => by
      obtain ⟨j, hj, rfl⟩ := hm z hz
      have h1 := hv.g j (by omega)
      unfold bad at h1
      have h2 : (p.getD j pk0).t ≤ (p.getD i pk0).t := srt_getD (k := ptm) (d := pk0) hs (by omega) hil
      omega
    have hpe := psp_ear vf (R := rv B) (y := gp (p.getD i pk0)) (fun m hm => by
      have hmem : (rv B).getD m g0 ∈ rv B := by rw [List.getD_eq_getElem?_getD, List.getElem?_eq_getElem hm]; exact List.getElem_mem hm
      obtain ⟨z, hz, e⟩ := rv_mem hmem
      have := hle z hz
      rw [e]; dsimp only; omega) (by dsimp only; omega)
    have hm1 : ∀ z ∈ B ++ [p.getD i pk0], ∃ j, j < i + 1 ∧ z = p.getD j pk0 := fun z hz => by
      rcases List.mem_append.1 hz with hz | hz
      · obtain ⟨j, hj, e⟩ := hm z hz; exact ⟨j, by omega, e⟩
      · exact ⟨i, by omega, List.mem_singleton.1 hz⟩
    have hm2 : ∀ z ∈ B, ∃ j, j < i + 1 ∧ z = p.getD j pk0 := fun z hz => by
      obtain ⟨j, hj, e⟩ := hm z hz; exact ⟨j, by omega, e⟩
    have hmi : mine flow (p.getD i pk0) ↔ flow = -1 ∨ (p.getD i pk0).f = flow := Iff.rfl
    have hrs := rv_snoc B (p.getD i pk0)
    generalize p.getD i pk0 = x at *
    have cP := passes_ok B x f vf (by omega) (fun y hy => by have := hle y hy; omega) (by omega)
    rw [← hrs] at s2
    have ea := pks_app B x
    have eb := pks_app q x
    have ec := ints_app7 g i
    dsimp only at hpe
    generalize PsP f (rv B) (gp x) = PP at *
    (repeat' (conv => whnf); first | refine ⟨i, _, rfl, hg, ?_⟩ | refine LitOb.ful ?_ | (refine aC (fun _ => ?_) (fun _ => ?_) <;> try (exfalso; omega)) | refine aS ?_ | refine aG ?_ | refine aD ?_ | refine aH ?_ | refine aP_D7 ?_ | refine aI ?_ | refine aJ ?_ | refine aW (.qs [0, 1, 2, 3, 4, 5] (.l 6 [] (.qs [7] .nil) .no)) ?_ | (refine aK [2] cP ?_) | fail); all_goals try (conv => whnf)
    all_goals first
      | (refine ⟨(i + 1, B, q, g ++ [(i : Int)]), [0, 1, 2, 4], ⟨⟨?_, s3 (hmi.2 (by first | exact .inl (by assumption) | exact .inr (by assumption))) fun h => (by assumption : ¬PP) (hpe.2 h)⟩, ⟨?_, ?_, ?_⟩, hm2⟩, ?_, ?_⟩
         · dsimp only; omega
         · dsimp only; omega
         · dsimp only; omega
         · dsimp only; rw [List.length_append, List.length_singleton]; omega
         · dsimp only; omega
         · dsimp only; rw [ec]; (exact aL))
      | (refine ⟨(i + 1, B ++ [x], q ++ [x], g), [0, 5, 4, 3], ⟨⟨?_, s2 (hmi.2 (by first | exact .inl (by assumption) | exact .inr (by assumption))) (hpe.1 (Classical.not_not.1 (by assumption)))⟩, ⟨?_, ?_, ?_⟩, hm1⟩, ?_, ?_⟩
         · dsimp only; omega
         · dsimp only; rw [List.length_append, List.length_singleton]; omega
         · dsimp only; rw [List.length_append, List.length_singleton]; omega
         · dsimp only; omega
         · dsimp only; omega
         · dsimp only; rw [ea, eb]; (exact aL))
      | (refine ⟨(i + 1, B, q ++ [x], g), [0, 4, 2, 3], ⟨⟨?_, s1 fun h => by rcases hmi.1 h with h | h <;> contradiction⟩, ⟨?_, ?_, ?_⟩, hm2⟩, ?_, ?_⟩
         · dsimp only; omega
         · dsimp only; omega
         · dsimp only; rw [List.length_append, List.length_singleton]; omega
         · dsimp only; omega
         · dsimp only; omega
         · dsimp only; rw [eb]; (exact aL))
      | trace_state
  · have e : i = p.length := by omega
    subst e
    rw [hN]
    (repeat' (conv => whnf); first | (refine aC (fun _ => ?_) (fun _ => ?_) <;> try (exfalso; omega)) | refine aS ?_ | refine aG ?_ | refine aD ?_ | refine aP_D7 ?_ | refine aI ?_ | refine aJ ?_ | refine aW (.qs [0, 1, 2, 3, 4, 5] (.l 6 [] (.qs [7] .nil) .no)) ?_ | fail); all_goals try (conv => whnf)
    refine .mk [.fz 1, .fz 3] ?_
    (repeat' (conv => whnf); first | (refine aC (fun _ => ?_) (fun _ => ?_) <;> try (exfalso; omega)) | refine aS ?_ | refine aG ?_ | refine aD ?_ | refine aH ?_ | refine aP_D7 ?_ | refine aI ?_ | refine aJ ?_ | refine aW (.qs [0, 1, 2, 3, 4, 5] (.l 6 [] (.qs [7] .nil) .no)) ?_ | fail); all_goals try (conv => whnf)
    exact ⟨rfl, Imp.refl _⟩
end Go.Proofs.Ytabbnnfobjifiaa
end
section
namespace Go.Proofs.Ytabbnnfobjifiaa
open Go.Sx Go.Pk Go.Cv Go.St
set_option maxRecDepth 8000
set_option maxHeartbeats 2000000
--APPX pks_len, Go.Cv.vals_len
/- what Police answers, whatever the arguments -/
def PolG (p : List Pk) (flow : Int) (vs : List Int) (q i : Int) (x : List Pk × List Int × Int) : Prop :=
  ChkR p flow (ValidP vs q i) x.2.2 ∧ (x.2.2 ≠ 0 → x.1 = [] ∧ x.2.1 = []) ∧ (x.2.2 = 0 → ∀ q' : Nat, q = q' → x.1 = (pol (vs, q', i) flow p p.length).2.1 ∧ x.2.1 = (pol (vs, q', i) flow p p.length).2.2)
theorem PolG.uniq {p : List Pk} {flow : Int} {vs : List Int} {q i : Int} {x y : List Pk × List Int × Int} (hx : PolG p flow vs q i x) (hy : PolG p flow vs q i y) : x = y := by
  obtain ⟨x1, x2, x3⟩ := x
  obtain ⟨y1, y2, y3⟩ := y
  obtain ⟨h1, h2, h3⟩ := hx
  obtain ⟨k1, k2, k3⟩ := hy
  dsimp only at h1 h2 h3 k1 k2 k3
  have e : x3 = y3 := h1.uniq k1
  subst e
  by_cases h : x3 = 0
  · subst h
    obtain ⟨_, _, hv⟩ := chk_ok h1
    obtain ⟨q', hq, _⟩ := hv.vf
    rw [(h3 rfl q' hq).1, (h3 rfl q' hq).2, (k3 rfl q' hq).1, (k3 rfl q' hq).2]
  · rw [(h2 h).1, (h2 h).2, (k2 h).1, (k2 h).2]
theorem aP_D8 {A B K : Prop} (k : K) (a : A := by (simp only [zA, zT, zD, zC, zN, ints_len, zR, pks_len, Go.Cv.vals_len]; omega)) (b : B := by (simp only [zA, zT, zD, zC, zN, ints_len, zR, pks_len, Go.Cv.vals_len]; omega)) : (A ∧ B) ∧ K := ⟨⟨a, b⟩, k⟩
theorem rPoliceG_ok (p : List Pk) (hp : p.length ≤ 1000000) (flow : Int) (vs : List Int) (q i : Int) (hv : vs.length ≤ 1000000) :
    Ctr Try.prog 35 [.psl 3 (pks p), i64 flow, crv vs q i] [] (fun r o => ∃ x : List Pk × List Int × Int, PolG p flow vs q i x ∧ o = [] ∧ r = .tup [.psl 3 (pks x.1), .psl 1 (ints x.2.1), i64 x.2.2]) := by
  by_cases hall : Vld p ∧ -1 ≤ flow ∧ ValidP vs q i
  · obtain ⟨hV, hf, hq⟩ := hall
    obtain ⟨q', rfl, vf⟩ := id hq.vf
    have hg : PolG p flow vs q' i ((pol (vs, q', i) flow p p.length).2.1, (pol (vs, q', i) flow p p.length).2.2, 0) := ⟨.ok (vld_zero.2 hV) hf hq rfl, fun h => absurd rfl h, fun _ q2 h => by
      have : q2 = q' := by omega
      subst this
      exact ⟨rfl, rfl⟩⟩
    exact (rPolice_ok p hV flow hf (vs, q', i) vf).mono fun r o ⟨h2, h3⟩ => ⟨_, hg, h2, h3⟩
  · refine Ctr.impE ?_
    refine fn_intro (E := env 0) tys_ok rfl rfl rfl Try.func35 (by kernel_rfl) rfl (by kernel_rfl) ?_
    have cB := rbadG_ok p hp flow vs q i hv
    (repeat' (conv => whnf); first | refine AsgOb.nil ?_ | (refine aC (fun _ => ?_) (fun _ => ?_) <;> try (exfalso; omega)) | refine aS ?_ | refine aG ?_ | refine aD ?_ | refine aH ?_ | refine aP_D8 ?_ | refine aI ?_ | refine aJ ?_ | refine aW (.qs [0, 1, 2, 3, 4, 5] (.l 6 [] (.qs [7] .nil) .no)) ?_ | fail); all_goals try (conv => whnf)
    refine CallOb.mk [] cB rfl (ImpL.refl _) rfl rfl ?_
    rintro _ _ ⟨e, he, rfl, rfl⟩
    have h0 : e ≠ 0 := fun h => by subst h; exact hall (chk_ok he)
    (repeat' (conv => whnf); first | refine AsgOb.nil ?_ | (refine aC (fun _ => ?_) (fun _ => ?_) <;> try (exfalso; omega)) | refine aS ?_ | refine aG ?_ | refine aD ?_ | refine aH ?_ | refine aP_D8 ?_ | refine aI ?_ | refine aJ ?_ | refine aW (.qs [0, 1, 2, 3, 4, 5] (.l 6 [] (.qs [7] .nil) .no)) ?_ | fail); all_goals try (conv => whnf)
    exact ⟨([], [], e), ⟨he, fun _ => ⟨rfl, rfl⟩, fun h => absurd h h0⟩, rfl, Imp.tup ⟨Imp.nil 3, Imp.nil 1, Imp.refl _, trivial⟩⟩
end Go.Proofs.Ytabbnnfobjifiaa
end
