/-
  A text of the proofs of this seat: lemmas that the statements' proofs use; it states nothing of the program by itself beyond the contracts that its theorems bear. Conditions: those that stand in each theorem. Its short name: D13.
-/
import Derived.Test.YtabbnnfobjifiaaD12
set_option linter.unusedVariables false
set_option linter.unusedSimpArgs false
namespace Go.Proofs.Ytabbnnfobjifiaa
open Go.Sx Go.Pk Go.Cv Go.St
set_option maxRecDepth 8000
set_option maxHeartbeats 2000000
--APPX pks_len, Go.Cv.vals_len
theorem erl_less {f : C3} : ∀ {R : List (Int × Int)} {sum t t0 u : Int}, erl f R sum t = some u → t0 ≤ t → ∃ u0, erl f R sum t0 = some u0 ∧ u0 ≤ u
  | [], sum, t, t0, u, h, h0 => by
    simp only [erl, Option.some.injEq] at h ⊢
    exact ⟨t0, rfl, by omega⟩
  | y :: R, sum, t, t0, u, h, h0 => by
    simp only [erl] at h ⊢
    cases hr : rch f (sum + y.2) with
    | none => rw [hr] at h; cases h
    | some k => rw [hr] at h; exact erl_less h (by omega)
/- a packet may follow at a tick exactly if that is not before the earliest tick -/
theorem psp_iff {f : C3} (vf : VC f) {R : List (Int × Int)} {y s t0 : Int} (h : ∀ m, m < R.length → 0 ≤ (R.getD m g0).1 ∧ (R.getD m g0).1 ≤ y) (hy : y ≤ 100000) (h0 : t0 ≤ y) : PsP f R (y, s) ↔ ∃ u, ear f R t0 s = some u ∧ u ≤ y := by
  rw [psp_ear vf (y := (y, s)) h hy]
  constructor
  · intro he
    obtain ⟨h1, h2⟩ := ear_facts he
    obtain ⟨u, h3, h4⟩ := erl_less h2 h0
    exact ⟨u, by unfold ear; rw [if_neg (by dsimp only at h1; omega)]; exact h3, h4⟩
  · rintro ⟨u, h1, h2⟩
    obtain ⟨h3, h4⟩ := ear_facts h1
    obtain ⟨_, h5, _, _⟩ := erl_facts h4
    unfold ear
    rw [if_neg (by omega)]
    refine erl_self fun m hm => ?_
    obtain ⟨h6, k, h7, h8⟩ := h5 m hm
    exact ⟨by dsimp only; omega, k, h7, by dsimp only; omega⟩
theorem ear_ge {f : C3} {R : List (Int × Int)} {t s u : Int} (h : ear f R t s = some u) : t ≤ u ∧ ∀ m, m < R.length → (R.getD m g0).1 ≤ u := by
  obtain ⟨_, h2⟩ := ear_facts h
  obtain ⟨h3, h4, _⟩ := erl_facts h2
  exact ⟨h3, fun m hm => (h4 m hm).1⟩
theorem aP_D13 {A B K : Prop} (k : K) (a : A := by (simp only [zA, zT, zD, zC, zN, ints_len, zR, pks_len, Go.Cv.vals_len]; omega)) (b : B := by (simp only [zA, zT, zD, zC, zN, ints_len, zR, pks_len, Go.Cv.vals_len]; omega)) : (A ∧ B) ∧ K := ⟨⟨a, b⟩, k⟩
theorem rShape_ok (p : List Pk) (hv : Vld p) (flow : Int) (hf : -1 ≤ flow) (f : C3) (vf : VC f) :
    Ctr Try.prog 37 [.psl 3 (pks p), i64 flow, crv f.1 f.2.1 f.2.2] [] (fun r o => ∃ x : List Pk × Int, ((∃ R q, shN f flow p p.length = some (R, q) ∧ x = (srt ptm q, 0)) ∨ (shN f flow p p.length = none ∧ x = ([], 5))) ∧ o = [] ∧ r = .tup [.psl 3 (pks x.1), i64 x.2]) := by
  refine Ctr.impE ?_
  refine fn_intro (E := env 0) tys_ok rfl rfl rfl Try.func37 (by kernel_rfl) rfl (by kernel_rfl) ?_
  have hpl := pks_len p
  have hl := hv.l
  have cB := rbadG_ok p (by omega) flow f.1 f.2.1 f.2.2 (by have := vf.n2; omega)
  (repeat' (conv => whnf); first | refine AsgOb.nil ?_ | (refine aC (fun _ => ?_) (fun _ => ?_) <;> try (exfalso; omega)) | refine aS ?_ | refine aG ?_ | refine aD ?_ | refine aH ?_ | refine aP_D13 ?_ | refine aI ?_ | refine aJ ?_ | refine aW (.qs [0, 1, 2, 3, 6, 7, 8] (.l 4 [8, 7] (.l 5 [8, 7] (.qs [9, 10, 11] (.l 12 [] .nil .no)) .no) .no)) ?_ | fail); all_goals try (conv => whnf)
  refine CallOb.mk [] cB rfl (ImpL.refl _) rfl rfl ?_
  rintro _ _ ⟨e, he, rfl, rfl⟩
  have h0 : e = 0 := he.uniq (.ok (vld_zero.2 hv) hf vf.valid rfl)
  subst h0
  clear he cB
  (repeat' (conv => whnf); first | (refine aC (fun _ => ?_) (fun _ => ?_) <;> try (exfalso; omega)) | refine aS ?_ | refine aG ?_ | refine aD ?_ | refine aH ?_ | refine aP_D13 ?_ | refine aI ?_ | refine aJ ?_ | refine aW (.qs [0, 1, 2, 3, 6, 7, 8] (.l 4 [8, 7] (.l 5 [8, 7] (.qs [9, 10, 11] (.l 12 [] .nil .no)) .no) .no)) ?_ | fail); all_goals try (conv => whnf)
  refine LoopOb.mk (Y := List Pk × List Pk × Int) (st := fun y => ⟨[(12, i64 y.2.1.length), (11, i64 y.2.2), (10, .vec 2), (9, .vec 1), (5, .ptr 0 0), (1, i64 flow)], [.box [.psl 1 (ints f.1), i64 f.2.1, i64 f.2.2], .vec 3 (pks (shO p y.2.1)), .vec 3 (pks y.1)]⟩)
    (inv := fun y => (y.2.1.length ≤ p.length ∧ shN f flow p y.2.1.length = some (rv y.1, y.2.1)) ∧ (y.1.length ≤ y.2.1.length ∧ (∀ z ∈ y.1, 0 ≤ z.t ∧ z.t ≤ y.2.2 ∧ 0 ≤ z.s ∧ z.s ≤ 1000000)) ∧ (0 ≤ y.2.2 ∧ y.2.2 ≤ 2000) ∧ (y.2.2 = 0 ∨ ∃ z ∈ y.1, z.t = y.2.2)) (fun y => p.length - y.2.1.length) ([], [], 0) [0, 1, 2]
    ⟨⟨by simp, rfl⟩, ⟨by simp, by simp⟩, by simp, .inl rfl⟩ (by (exact aL)) ?_
  rintro ⟨B, o, last⟩ ⟨⟨hi, hN⟩, ⟨hB1, hB2⟩, hla, hlz⟩
  dsimp only at hi hN hB1 hB2 hla hlz ⊢
  have hol := shO_len hi
  have hoo := pks_len (shO p o)
  have hBl := pks_len B
  (repeat' (conv => whnf); first | refine aS ?_ | refine aG ?_ | refine aD ?_ | refine aH ?_ | refine aP_D13 ?_ | refine aI ?_ | refine aJ ?_ | refine aW (.qs [0, 1, 2, 3, 6, 7, 8] (.l 4 [8, 7] (.l 5 [8, 7] (.qs [9, 10, 11] (.l 12 [] .nil .no)) .no) .no)) ?_ | fail); all_goals try (conv => whnf)
  refine CondOb.mk (fun hlt => ?_) (fun hlt => ?_)
  · have hil : o.length < p.length := by omega
    have hget : (pks (shO p o))[o.length]? = some (pkw (p.getD o.length pk0)) := by
      show ((shO p o).map pkw)[o.length]? = _
      rw [List.getElem?_map, shO_get hil]; rfl
    obtain ⟨s1, s2, s3, s4⟩ := shN_step hN
    have hkeep := shO_keep hil
    have hset : ∀ y : Pk, (pks (shO p o)).set o.length (pkw y) = pks (shO p (o ++ [y])) := fun y => by
      rw [← shO_set hil y]; simp [pks, List.map_set]
    have hb := hv.g _ hil
    unfold bad at hb
    have hnone : shN f flow p (o.length + 1) = none → shN f flow p p.length = none := fun h => shN_none h _ hil
    have hmi : mine flow (p.getD o.length pk0) ↔ flow = -1 ∨ (p.getD o.length pk0).f = flow := Iff.rfl
    generalize p.getD o.length pk0 = x at *
    have hrm : ∀ m, m < (rv B).length → 0 ≤ ((rv B).getD m g0).1 ∧ ((rv B).getD m g0).1 ≤ last := fun m hm => by
      have hmem : (rv B).getD m g0 ∈ rv B := by rw [List.getD_eq_getElem?_getD, List.getElem?_eq_getElem hm]; exact List.getElem_mem hm
      obtain ⟨z, hz, e⟩ := rv_mem hmem
      have := hB2 z hz
      rw [e]; dsimp only; omega
    have hpi : ∀ y : Int, max x.t last ≤ y → y ≤ 2001 → (PsP f (rv B) (y, x.s) ↔ ∃ u, ear f (rv B) x.t x.s = some u ∧ u ≤ y) := fun y h1 h2 => psp_iff vf (fun m hm => by have := hrm m hm; omega) (by omega) (by omega)
    have hge : ∀ u, ear f (rv B) x.t x.s = some u → max x.t last ≤ u := fun u hu => by
      obtain ⟨h1, h2⟩ := ear_ge hu
      rcases hlz with h | ⟨z, hz, h⟩
      · omega
      · have hm : gp z ∈ rv B := by simp only [rv, List.mem_reverse, List.mem_map]; exact ⟨z, hz, rfl⟩
        obtain ⟨m, hm, e⟩ := List.mem_iff_getElem.1 hm
        have := h2 m hm
        rw [List.getD_eq_getElem?_getD, List.getElem?_eq_getElem hm, Option.getD_some, e] at this
        dsimp only at this; omega
    have ea := fun y : Pk => pks_app B y
    have eb := fun y : Pk => rv_snoc B y
    (repeat' (conv => whnf); first | refine ⟨_, hget, ?_⟩ | refine ⟨o.length, by omega, by omega, ?_⟩ | (refine aC (fun _ => ?_) (fun _ => ?_) <;> try (exfalso; omega)) | refine aS ?_ | refine aG ?_ | refine aD ?_ | refine aH ?_ | refine aP_D13 ?_ | refine aI ?_ | refine aJ ?_ | refine aW (.qs [0, 1, 2, 3, 6, 7, 8] (.l 4 [8, 7] (.l 5 [8, 7] (.qs [9, 10, 11] (.l 12 [] .nil .no)) .no) .no)) ?_ | fail); all_goals try (conv => whnf)
    · refine ⟨(B, o ++ [x], last), [0, 1, 2], ⟨⟨?_, ?_⟩, ⟨?_, hB2⟩, hla, hlz⟩, ?_, ?_⟩
      · dsimp only; rw [List.length_append, List.length_singleton]; omega
      · dsimp only; rw [List.length_append, List.length_singleton]; exact s1 fun h => by rcases hmi.1 h with h | h <;> contradiction
      · dsimp only; rw [List.length_append, List.length_singleton]; omega
      · dsimp only; rw [List.length_append, List.length_singleton]; omega
      · dsimp only; rw [hkeep, List.length_append, List.length_singleton]; (exact aL)
    all_goals
      clear hlz
      have hm : mine flow x := hmi.2 (by first | exact .inl (by omega) | exact .inr (by omega))
      refine LoopOb.mk (Y := Int) (st := fun y => ⟨[(13, .ptr 3 0), (12, i64 o.length), (11, i64 last), (10, .vec 2), (9, .vec 1), (5, .ptr 0 0), (1, i64 flow)], [.box [.psl 1 (ints f.1), i64 f.2.1, i64 f.2.2], .vec 3 (pks (shO p o)), .vec 3 (pks B), .box [i64 x.f, i64 y, i64 x.s]]⟩)
        (inv := fun y => (max x.t last ≤ y ∧ y ≤ 2001) ∧ ∀ u, ear f (rv B) x.t x.s = some u → y ≤ u) (fun y => (2001 - y).toNat) (max x.t last) [0, 1, 2, 3] ⟨by omega, hge⟩ (by (exact aL)) ?_
      rintro y ⟨hy, hyu⟩
      have cP := passes_ok B ⟨x.f, y, x.s⟩ f vf (by omega) (fun z hz => by have := hB2 z hz; show _ ∧ z.t ≤ y + 1 ∧ _; omega) (by show 0 ≤ y ∧ y ≤ _ ∧ 0 ≤ x.s ∧ x.s ≤ _; omega)
      have hp := hpi y hy.1 hy.2
      have hst := hset ⟨x.f, y, x.s⟩
      have ea1 := ea ⟨x.f, y, x.s⟩
      have eb1 := eb ⟨x.f, y, x.s⟩
      have e4 := s4 y hm
      generalize PsP f (rv B) (y, x.s) = PP at *
      have hno : ¬y ≤ 2000 → shN f flow p (o.length + 1) = none := fun h => by
        cases hu : ear f (rv B) x.t x.s with
        | none => exact s2 hm hu
        | some u => exact s3 u hm hu (by have := hyu u hu; omega)
      have hyes : PP → y ≤ 2000 → shN f flow p (o.length + 1) = some (rv (B ++ [⟨x.f, y, x.s⟩]), o ++ [⟨x.f, y, x.s⟩]) := fun h h2 => by
        obtain ⟨u, hu, hle⟩ := hp.1 h
        have : u = y := by have := hyu u hu; omega
        subst this
        rw [eb1]; exact e4 hu (by omega)
      have hnx : ¬PP → ∀ u, ear f (rv B) x.t x.s = some u → y + 1 ≤ u := fun h u hu => by
        apply Classical.byContradiction
        intro h2
        exact h (hp.2 ⟨u, hu, by omega⟩)
      clear hp hpi hyu hge
      (repeat' (conv => whnf); first | refine ⟨_, hget, ?_⟩ | refine ⟨o.length, by omega, by omega, ?_⟩ | refine LitOb.ful ?_ | refine AsgOb.nil ?_ | (refine aC (fun _ => ?_) (fun _ => ?_) <;> try (exfalso; omega)) | refine aS ?_ | refine aG ?_ | refine aD ?_ | refine aH ?_ | refine aP_D13 ?_ | refine aI ?_ | refine aJ ?_ | refine aW (.qs [0, 1, 2, 3, 6, 7, 8] (.l 4 [8, 7] (.l 5 [8, 7] (.qs [9, 10, 11] (.l 12 [] .nil .no)) .no) .no)) ?_ | (refine aK [2] cP ?_) | fail); all_goals try (conv => whnf)
      all_goals first
        | exact ⟨y + 1, [0, 1, 2, 3], ⟨by omega, hnx (by assumption)⟩, by omega, by (exact aL)⟩
        | exact ⟨([], 5), .inr ⟨hnone (hno (by omega)), rfl⟩, rfl, Imp.tup ⟨Imp.nil 3, Imp.refl _, trivial⟩⟩
        | skip
      all_goals
          (refine ⟨(B ++ [⟨x.f, y, x.s⟩], o ++ [⟨x.f, y, x.s⟩], y), [0, 1, 4], ⟨⟨?_, ?_⟩, ⟨?_, ?_⟩, ?_, .inr ⟨⟨x.f, y, x.s⟩, List.mem_append_right _ (by simp), rfl⟩⟩, ?_, ?_⟩
           · dsimp only; rw [List.length_append, List.length_singleton]; omega
           · dsimp only; rw [List.length_append, List.length_singleton]; exact hyes (Classical.not_not.1 (by assumption)) (by omega)
           · dsimp only; simp only [List.length_append, List.length_singleton]; omega
           · intro z hz
             rcases List.mem_append.1 hz with hz | hz
             · have := hB2 z hz; dsimp only; omega
             · rw [List.mem_singleton.1 hz]; dsimp only; omega
           · dsimp only; omega
           · dsimp only; rw [List.length_append, List.length_singleton]; omega
           · dsimp only; rw [List.length_append, List.length_singleton, ← hst, ea1]; (exact aL))
  · have e : o.length = p.length := by omega
    rw [e] at hN
    rw [shO_full e]
    have cO := rOrder_ok o (by omega)
    (repeat' (conv => whnf); first | (refine aC (fun _ => ?_) (fun _ => ?_) <;> try (exfalso; omega)) | refine aS ?_ | refine aG ?_ | refine aD ?_ | refine aP_D13 ?_ | refine aI ?_ | refine aJ ?_ | refine aW (.qs [0, 1, 2, 3, 6, 7, 8] (.l 4 [8, 7] (.l 5 [8, 7] (.qs [9, 10, 11] (.l 12 [] .nil .no)) .no) .no)) ?_ | fail); all_goals try (conv => whnf)
    refine .mk [.fz 1] ?_
    (repeat' (conv => whnf); first | (refine aC (fun _ => ?_) (fun _ => ?_) <;> try (exfalso; omega)) | refine aS ?_ | refine aG ?_ | refine aD ?_ | refine aH ?_ | refine aP_D13 ?_ | refine aI ?_ | refine aJ ?_ | refine aW (.qs [0, 1, 2, 3, 6, 7, 8] (.l 4 [8, 7] (.l 5 [8, 7] (.qs [9, 10, 11] (.l 12 [] .nil .no)) .no) .no)) ?_ | (refine aK [] cO ?_) | fail); all_goals try (conv => whnf)
    exact ⟨(srt ptm o, 0), .inl ⟨_, _, hN, rfl⟩, rfl, Imp.refl _⟩
end Go.Proofs.Ytabbnnfobjifiaa
