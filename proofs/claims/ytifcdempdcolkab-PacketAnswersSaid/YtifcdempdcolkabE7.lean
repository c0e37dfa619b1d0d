/-
  A text of the proofs of this seat: lemmas that the statements' proofs use; it states nothing of the program by itself beyond the contracts that its theorems bear. Conditions: those that stand in each theorem. Its short name: E7.
-/
import Derived.Test.YtifcdempdcolkabT2
import Derived.Test.YtifcdempdcolkabA2
set_option linter.unusedVariables false
set_option linter.unusedSimpArgs false
namespace Go.Proofs.Ytifcdempdcolkab
open Go.Sx Go.Pk Go.Cv Go.St
set_option maxRecDepth 4000
set_option maxHeartbeats 2000000
--APPX pks_len, avs_len, Go.Cv.vals_len
/-! traces and ticks, however they are -/
def okd (p : List Pk) (d : List Int) (i : Nat) : Prop := d.getD i 0 = -1 ∨ ((p.getD i pk0).t ≤ d.getD i 0 ∧ d.getD i 0 < 2000)
open Classical in
noncomputable def chk (p : List Pk) (d : List Int) : Int := if vld p ≠ 0 then vld p else if d.length ≠ p.length then 7 else if ∀ i, i < p.length → okd p d i then 0 else 2
theorem chk_zero {p : List Pk} {d : List Int} : chk p d = 0 ↔ Vld p ∧ OKd p d := by
  unfold chk
  constructor
  · intro h
    split at h
    · contradiction
    · rename_i h0
      split at h
      · omega
      · rename_i h1
        split at h
        · rename_i h2; exact ⟨vld_zero.1 (by omega), by omega, h2⟩
        · omega
  · rintro ⟨h1, h2⟩
    rw [if_neg (by rw [vld_zero.2 h1]; omega), if_neg (by rw [h2.l]; omega), if_pos (show ∀ i, i < p.length → okd p d i from h2.g)]
theorem aP_E7 {A B K : Prop} (k : K) (a : A := by (simp only [zA, zT, zD, zC, zN, ints_len, zR, pks_len, avs_len, Go.Cv.vals_len]; omega)) (b : B := by (simp only [zA, zT, zD, zC, zN, ints_len, zR, pks_len, avs_len, Go.Cv.vals_len]; omega)) : (A ∧ B) ∧ K := ⟨⟨a, b⟩, k⟩
theorem checkA_ok (p : List Pk) (d : List Int) (hp : p.length ≤ 1000000) (hd : d.length ≤ 1000000) : Ctr Try.prog 44 [.psl 3 (pks p), .psl 1 (ints d)] [] (fun r o => o = [] ∧ r = i64 (chk p d)) := by
  refine fn_intro (E := env 0) tys_ok rfl rfl rfl Try.func44 (by kernel_rfl) rfl (by kernel_rfl) ?_
  have hpl := pks_len p
  have hdl := ints_len d
  have cV := Validate_ok p hp
  have e1 : vld p ≠ 0 → chk p d = vld p := fun h => if_pos h
  have e2 : vld p = 0 → d.length ≠ p.length → chk p d = 7 := fun h k => by unfold chk; rw [if_neg (by omega), if_pos k]
  have e3 : vld p = 0 → d.length = p.length → (∀ i, i < p.length → okd p d i) → chk p d = 0 := fun h k g => by unfold chk; rw [if_neg (by omega), if_neg (by omega), if_pos g]
  have e4 : ∀ i, vld p = 0 → d.length = p.length → i < p.length → ¬okd p d i → chk p d = 2 := fun i h k hi g => by unfold chk; rw [if_neg (by omega), if_neg (by omega), if_neg (fun h => g (h i hi))]
  generalize chk p d = c at *
  have hg : vld p = 0 → ∀ i, i < p.length → ¬bad (p.getD i pk0) := fun h => (vld_zero.1 h).g
  generalize vld p = v at *
  (repeat' (conv => whnf); first | (refine aC (fun _ => ?_) (fun _ => ?_) <;> try (exfalso; omega)) | refine aS ?_ | refine aG ?_ | refine aD ?_ | refine aH ?_ | refine aP_E7 ?_ | refine aI ?_ | refine aJ ?_ | (refine aK [] cV ?_) | fail); all_goals try (conv => whnf)
  · exact ⟨rfl, by rw [e1 (by assumption)]; rfl⟩
  · exact ⟨rfl, by rw [e2 (by omega) (by omega)]; rfl⟩
  have hv0 : v = 0 := by omega
  have hdp : d.length = p.length := by omega
  refine LoopOb.mk (Y := Nat) (st := fun i => ⟨[(20, i64 i), (19, i64 (ints d).length), (18, .psl 1 (ints d)), (0, .psl 3 (pks p))], []⟩)
    (inv := fun i => i ≤ d.length ∧ ∀ k < i, okd p d k) (fun i => d.length - i) 0 [] ⟨by omega, by omega⟩ (by (exact aL)) ?_
  rintro i ⟨hi, hok⟩
  (repeat' (conv => whnf); first | refine aS ?_ | refine aG ?_ | refine aD ?_ | refine aH ?_ | refine aP_E7 ?_ | refine aI ?_ | refine aJ ?_ | fail); all_goals try (conv => whnf)
  refine CondOb.mk (fun hlt => ?_) (fun hlt => ?_)
  · have hil : i < p.length := by omega
    have hg1 := ints_get (l := d) (j := i) (by omega)
    have hg2 := pks_get hil
    have hst : okd p d i → ∀ k < i + 1, okd p d k := fun h k hk => by
      by_cases e : k = i
      · subst e; exact h
      · exact hok k (by omega)
    have hno := fun h => e4 i hv0 hdp hil h
    have hdef : okd p d i ↔ (d.getD i 0 = -1 ∨ ((p.getD i pk0).t ≤ d.getD i 0 ∧ d.getD i 0 < 2000)) := Iff.rfl
    generalize okd p d i = Q at *
    generalize d.getD i 0 = t at *
    generalize p.getD i pk0 = x at *
    (repeat' (conv => whnf); first | refine ⟨i, _, rfl, hg2, ?_⟩ | refine ⟨i, _, rfl, hg1, ?_⟩ | (refine aC (fun _ => ?_) (fun _ => ?_) <;> try (exfalso; omega)) | refine aS ?_ | refine aG ?_ | refine aD ?_ | refine aH ?_ | refine aP_E7 ?_ | refine aI ?_ | refine aJ ?_ | fail); all_goals try (conv => whnf)
    all_goals first
      | exact ⟨rfl, by rw [hno (fun h => by have := hdef.1 h; omega)]; rfl⟩
      | exact ⟨i + 1, [], ⟨by omega, hst (hdef.2 (by omega))⟩, by omega, by (exact aL)⟩
      | trace_state
  · (repeat' (conv => whnf); first | (refine aC (fun _ => ?_) (fun _ => ?_) <;> try (exfalso; omega)) | refine aS ?_ | refine aG ?_ | refine aD ?_ | refine aH ?_ | refine aP_E7 ?_ | refine aI ?_ | refine aJ ?_ | fail); all_goals try (conv => whnf)
    exact ⟨rfl, by rw [e3 hv0 hdp (fun k hk => hok k (by omega))]; rfl⟩
theorem rbad_ok (p : List Pk) (d : List Int) (hp : p.length ≤ 1000000) (hd : d.length ≤ 1000000) : Ctr Try.prog 47 [.psl 3 (pks p), .psl 1 (ints d)] [] (fun r o => o = [] ∧ r = i64 (chk p d)) := by
  refine fn_intro (E := env 0) tys_ok rfl rfl rfl Try.func47 (by kernel_rfl) rfl (by kernel_rfl) ?_
  have hpl := pks_len p
  have hdl := ints_len d
  have cV := rVal13_ok p hp
  have e1 : vld p ≠ 0 → chk p d = vld p := fun h => if_pos h
  have e2 : vld p = 0 → d.length ≠ p.length → chk p d = 7 := fun h k => by unfold chk; rw [if_neg (by omega), if_pos k]
  have e3 : vld p = 0 → d.length = p.length → (∀ i, i < p.length → okd p d i) → chk p d = 0 := fun h k g => by unfold chk; rw [if_neg (by omega), if_neg (by omega), if_pos g]
  have e4 : ∀ i, vld p = 0 → d.length = p.length → i < p.length → ¬okd p d i → chk p d = 2 := fun i h k hi g => by unfold chk; rw [if_neg (by omega), if_neg (by omega), if_neg (fun h => g (h i hi))]
  generalize chk p d = c at *
  generalize vld p = v at *
  (repeat' (conv => whnf); first | (refine aC (fun _ => ?_) (fun _ => ?_) <;> try (exfalso; omega)) | refine aS ?_ | refine aG ?_ | refine aD ?_ | refine aH ?_ | refine aP_E7 ?_ | refine aI ?_ | refine aJ ?_ | refine aW (.qs [0, 1, 2, 3, 4, 5, 6, 7, 8, 9, 10, 11, 12, 13, 14, 15, 16, 17, 18, 19, 20, 21, 22, 23] .nil) ?_ | (refine aK [] cV ?_) | fail); all_goals try (conv => whnf)
  · exact ⟨rfl, by rw [e1 (by assumption)]; rfl⟩
  · exact ⟨rfl, by rw [e2 (by omega) (by omega)]; rfl⟩
  have hv0 : v = 0 := by omega
  have hdp : d.length = p.length := by omega
  refine LoopOb.mk (Y := Nat) (st := fun i => ⟨[(6, i64 i), (0, .psl 3 (pks p)), (1, .psl 1 (ints d))], []⟩)
    (inv := fun i => i ≤ p.length ∧ ∀ k < i, okd p d k) (fun i => p.length - i) 0 [] ⟨by omega, by omega⟩ (by (exact aL)) ?_
  rintro i ⟨hi, hok⟩
  (repeat' (conv => whnf); first | refine aS ?_ | refine aG ?_ | refine aD ?_ | refine aH ?_ | refine aP_E7 ?_ | refine aI ?_ | refine aJ ?_ | refine aW (.qs [0, 1, 2, 3, 4, 5, 6, 7, 8, 9, 10, 11, 12, 13, 14, 15, 16, 17, 18, 19, 20, 21, 22, 23] .nil) ?_ | fail); all_goals try (conv => whnf)
  refine CondOb.mk (fun hlt => ?_) (fun hlt => ?_)
  · have hil : i < p.length := by omega
    have hg1 := ints_get (l := d) (j := i) (by omega)
    have hg2 := pks_get hil
    have hst : okd p d i → ∀ k < i + 1, okd p d k := fun h k hk => by
      by_cases e : k = i
      · subst e; exact h
      · exact hok k (by omega)
    have hno := fun h => e4 i hv0 hdp hil h
    have hdef : okd p d i ↔ (d.getD i 0 = -1 ∨ ((p.getD i pk0).t ≤ d.getD i 0 ∧ d.getD i 0 < 2000)) := Iff.rfl
    generalize okd p d i = Q at *
    generalize d.getD i 0 = t at *
    generalize p.getD i pk0 = x at *
    (repeat' (conv => whnf); first | refine ⟨i, _, rfl, hg2, ?_⟩ | refine ⟨i, _, rfl, hg1, ?_⟩ | (refine aC (fun _ => ?_) (fun _ => ?_) <;> try (exfalso; omega)) | refine aS ?_ | refine aG ?_ | refine aD ?_ | refine aH ?_ | refine aP_E7 ?_ | refine aI ?_ | refine aJ ?_ | refine aW (.qs [0, 1, 2, 3, 4, 5, 6, 7, 8, 9, 10, 11, 12, 13, 14, 15, 16, 17, 18, 19, 20, 21, 22, 23] .nil) ?_ | fail); all_goals try (conv => whnf)
    all_goals first
      | exact ⟨rfl, by rw [hno (fun h => by have := hdef.1 h; omega)]; rfl⟩
      | exact ⟨i + 1, [], ⟨by omega, hst (hdef.2 (by omega))⟩, by omega, by (exact aL)⟩
      | trace_state
  · (repeat' (conv => whnf); first | (refine aC (fun _ => ?_) (fun _ => ?_) <;> try (exfalso; omega)) | refine aS ?_ | refine aG ?_ | refine aD ?_ | refine aH ?_ | refine aP_E7 ?_ | refine aI ?_ | refine aJ ?_ | refine aW (.qs [0, 1, 2, 3, 4, 5, 6, 7, 8, 9, 10, 11, 12, 13, 14, 15, 16, 17, 18, 19, 20, 21, 22, 23] .nil) ?_ | fail); all_goals try (conv => whnf)
    exact ⟨rfl, by rw [e3 hv0 hdp (fun k hk => hok k (by omega))]; rfl⟩
/- delays, or the error -/
def DelG (p : List Pk) (d : List Int) (x : List Int × Int) : Prop := x = if chk p d = 0 then (vals (dly p d) p.length, 0) else ([], chk p d)
theorem DelaysG_ok (p : List Pk) (d : List Int) (hp : p.length ≤ 1000000) (hd : d.length ≤ 1000000) : Ctr Try.prog 23 [.psl 3 (pks p), .psl 1 (ints d)] [] (fun r o => ∃ x, DelG p d x ∧ o = [] ∧ r = .tup [.psl 1 (ints x.1), i64 x.2]) := by
  by_cases h0 : chk p d = 0
  · obtain ⟨h1, h2⟩ := chk_zero.1 h0
    exact (Delays_ok p h1 d h2).mono (fun r o ⟨a, b⟩ => ⟨_, by unfold DelG; rw [if_pos h0], a, b⟩)
  refine Ctr.impE ?_
  refine fn_intro (E := env 0) tys_ok rfl rfl rfl Try.func23 (by kernel_rfl) rfl (by kernel_rfl) ?_
  have cC := checkA_ok p d hp hd
  (repeat' (conv => whnf); first | refine AsgOb.nil ?_ | (refine aC (fun _ => ?_) (fun _ => ?_) <;> try (exfalso; omega)) | refine aS ?_ | refine aG ?_ | refine aD ?_ | refine aH ?_ | refine aP_E7 ?_ | refine aI ?_ | refine aJ ?_ | refine ⟨_, _, rfl, rfl, Nat.le_refl _, ⟨by (simp only; omega), by omega⟩, ?_⟩ | (refine aK [] cC ?_) | fail); all_goals try (conv => whnf)
  all_goals first
    | exact ⟨([], chk p d), by unfold DelG; rw [if_neg h0], rfl, Imp.tup ⟨Imp.nil _, Imp.refl _, trivial⟩⟩
    | exact absurd (Classical.not_not.1 (by assumption)) h0
    | trace_state
theorem rDelaysG_ok (p : List Pk) (d : List Int) (hp : p.length ≤ 1000000) (hd : d.length ≤ 1000000) : Ctr Try.prog 24 [.psl 3 (pks p), .psl 1 (ints d)] [] (fun r o => ∃ x, DelG p d x ∧ o = [] ∧ r = .tup [.psl 1 (ints x.1), i64 x.2]) := by
  refine Ctr.impE ?_
  refine fn_intro (E := env 0) tys_ok rfl rfl rfl Try.func24 (by kernel_rfl) rfl (by kernel_rfl) ?_
  have cC := rbad_ok p d hp hd
  have hpl := pks_len p
  have hdl := ints_len d
  have hD : ∀ x, DelG p d x ↔ x = if chk p d = 0 then (vals (dly p d) p.length, 0) else ([], chk p d) := fun x => Iff.rfl
  have hz := chk_zero (p := p) (d := d)
  generalize chk p d = c at *
  (repeat' (conv => whnf); first | (refine aC (fun _ => ?_) (fun _ => ?_) <;> try (exfalso; omega)) | refine aS ?_ | refine aG ?_ | refine aD ?_ | refine aP_E7 ?_ | refine aI ?_ | refine aJ ?_ | refine aW (.qs [0, 1, 2, 3, 4, 5, 6, 7, 8, 9, 10] (.l 11 [] (.l 12 [] (.qs [13] .nil) .no) .no)) ?_ | (refine Gh.mk [] ?_; (conv => whnf); refine aK [] cC ?_) | fail); all_goals try (conv => whnf)
  · refine .mk [.fa] ?_
    (conv => whnf)
    exact ⟨([], c), (hD _).2 (by rw [if_neg (by assumption)]), rfl, Imp.refl _⟩
  have hc : c = 0 := Classical.not_not.1 (by assumption)
  subst hc
  obtain ⟨hv, hd'⟩ := hz.1 rfl
  have hl := hd'.l
  have hp60 := hv.l
  refine .mk [] ?_
  refine LoopOb.mk (Y := Nat) (st := fun i => ⟨[(8, i64 i), (7, .vec 0), (0, .psl 3 (pks p)), (1, .psl 1 (ints d))], [.vec 1 (ints (vals (dly p d) i))]⟩)
    (inv := fun i => i ≤ p.length) (fun i => p.length - i) 0 [1] (by omega) (by (exact aL)) ?_
  intro i hi
  have hvs : ints (vals (dly p d) (i + 1)) = ints (vals (dly p d) i) ++ [[i64 (dly p d i)]] := by simp [ints, vals_succ]
  have hvl := vals_len (dly p d) i
  have hvi := ints_len (vals (dly p d) i)
  have hfull : i = p.length → vals (dly p d) i = vals (dly p d) p.length := fun h => by rw [h]
  generalize vals (dly p d) i = V at *
  (repeat' (conv => whnf); first | refine aS ?_ | refine aG ?_ | refine aD ?_ | refine aH ?_ | refine aP_E7 ?_ | refine aI ?_ | refine aJ ?_ | refine aW (.qs [0, 1, 2, 3, 4, 5, 6, 7, 8, 9, 10] (.l 11 [] (.l 12 [] (.qs [13] .nil) .no) .no)) ?_ | fail); all_goals try (conv => whnf)
  refine CondOb.mk (fun hlt => ?_) (fun hlt => ?_)
  · have hil : i < p.length := by omega
    have hg1 := ints_get (l := d) (j := i) (by omega)
    have hg2 := pks_get hil
    have hb := hd'.g i hil
    have hb2 := hv.g i hil
    unfold bad at hb2
    have h1 : d.getD i 0 = -1 → dly p d i = -1 := fun h => by unfold dly; rw [if_pos h]
    have h2 : ¬d.getD i 0 = -1 → dly p d i = d.getD i 0 - (p.getD i pk0).t := fun h => by unfold dly; rw [if_neg h]
    generalize d.getD i 0 = t at *
    generalize p.getD i pk0 = x at *
    generalize dly p d i = w at *
    (repeat' (conv => whnf); first | refine ⟨i, _, rfl, hg2, ?_⟩ | refine ⟨i, _, rfl, hg1, ?_⟩ | refine aC (fun _ => ?_) (fun _ => ?_) | refine aS ?_ | refine aG ?_ | refine aD ?_ | refine aH ?_ | refine aP_E7 ?_ | refine aI ?_ | refine aJ ?_ | refine aW (.qs [0, 1, 2, 3, 4, 5, 6, 7, 8, 9, 10] (.l 11 [] (.l 12 [] (.qs [13] .nil) .no) .no)) ?_ | fail); all_goals try (conv => whnf)
    all_goals first
      | exact ⟨i + 1, [2], by omega, by omega, by rw [hvs, h1 (by assumption)]; (exact aL)⟩
      | exact ⟨i + 1, [2], by omega, by omega, by rw [hvs, h2 (by assumption)]; (exact aL)⟩
      | trace_state
  have e : i = p.length := by omega
  rw [hfull e]
  (repeat' (conv => whnf); first | refine aC (fun _ => ?_) (fun _ => ?_) | refine aS ?_ | refine aG ?_ | refine aD ?_ | refine aP_E7 ?_ | refine aI ?_ | refine aJ ?_ | refine aW (.qs [0, 1, 2, 3, 4, 5, 6, 7, 8, 9, 10] (.l 11 [] (.l 12 [] (.qs [13] .nil) .no) .no)) ?_ | fail); all_goals try (conv => whnf)
  refine .mk [.fz 0] ?_
  (conv => whnf)
  exact ⟨_, (hD _).2 (by rw [if_pos rfl]), rfl, Imp.refl _⟩
end Go.Proofs.Ytifcdempdcolkab
