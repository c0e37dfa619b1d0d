/-
  A text of the proofs of this seat: lemmas that the statements' proofs use; it states nothing of the program by itself beyond the contracts that its theorems bear. Conditions: those that stand in each theorem. Its short name: C3 C4 Dz.
-/
import Derived.Test.YtabbnnfobjifiaaC2
import Derived.Test.YtabbnnfobjifiaaSxC
import Derived.Laws.IdiomCopy
import Derived.Tactics
set_option linter.unusedVariables false
set_option linter.unusedSimpArgs false
section
namespace Go.Proofs.Ytabbnnfobjifiaa
open Go.Sx Go.Pk Go.Cv Go.St
set_option maxRecDepth 8000
set_option maxHeartbeats 2000000
--APPX pks_len, Go.Cv.vals_len
theorem cv_flat {f : C3} (vf : VC f) (hq : f.2.2 = 0) (t : Nat) (ht : f.1.length - 1 ≤ t) : cv f t = cv f (f.1.length - 1) := by
  have hp := vf.per
  have n1 := vf.n1
  have p1 := vf.p1
  have pn := vf.pn
  have h1 := vf.cvle (s := f.1.length - 1) (t := t) ht
  have h2 : cv f (f.1.length - 1 + (t + 1) * f.2.1) = cv f (f.1.length - 1) + ((t + 1 : Nat) : Int) * f.2.2 := hp.mul (t + 1) (f.1.length - 1) (by omega)
  rw [hq, Int.mul_zero, Int.add_zero] at h2
  have h3 := vf.cvle (s := t) (t := f.1.length - 1 + (t + 1) * f.2.1) (by
    have : (t + 1) * 1 ≤ (t + 1) * f.2.1 := Nat.mul_le_mul_left _ p1
    omega)
  omega
/- how many periods are needed -/
theorem reach_k {v V q : Int} (hq : 1 ≤ q) (hv : V < v) {k : Int} (hk : k = (v - V + q - 1) / q) : 1 ≤ k ∧ V + (k - 1) * q < v ∧ v ≤ V + k * q ∧ k ≤ v - V := by
  have h1 := Int.mul_ediv_add_emod (v - V + q - 1) q
  have h2 := Int.emod_nonneg (v - V + q - 1) (show q ≠ 0 by omega)
  have h3 := Int.emod_lt_of_pos (v - V + q - 1) (show 0 < q by omega)
  rw [← hk] at h1
  have e : (k - 1) * q = q * k - q := by rw [Int.sub_mul, Int.one_mul, Int.mul_comm]
  have e2 : k * q = q * k := Int.mul_comm _ _
  have h4 : 1 ≤ k := by
    apply Classical.byContradiction
    intro h
    have : q * k ≤ q * 0 := Int.mul_le_mul_of_nonneg_left (by omega) (by omega)
    omega
  refine ⟨h4, by omega, by omega, ?_⟩
  have h5 : 1 * (k - 1) ≤ q * (k - 1) := Int.mul_le_mul_of_nonneg_right (by omega) (by omega)
  have h6 : q * (k - 1) = q * k - q := by rw [Int.mul_sub, Int.mul_one]
  omega
end Go.Proofs.Ytabbnnfobjifiaa
end
section
namespace Go.Proofs.Ytabbnnfobjifiaa
open Go.Sx Go.Pk Go.Cv Go.St
set_option maxRecDepth 8000
set_option maxHeartbeats 2000000
--APPX pks_len, Go.Cv.vals_len
abbrev tms (R : List (Int × Int)) : List Int := R.reverse.map (·.1)
abbrev szs (R : List (Int × Int)) : List Int := R.reverse.map (·.2)
theorem tms_get {R : List (Int × Int)} {m i : Nat} (h : i + 1 + m = R.length) : (ints (tms R))[i]? = some [i64 (R.getD m (0, 0)).1] ∧ (ints (szs R))[i]? = some [i64 (R.getD m (0, 0)).2] := by
  have hr : R.reverse[i]? = some (R.getD m (0, 0)) := by
    rw [List.getElem?_reverse (by omega), show R.length - 1 - i = m by omega, List.getElem?_eq_getElem (by omega), List.getD_eq_getElem?_getD, List.getElem?_eq_getElem (by omega)]; rfl
  unfold ints tms szs
  rw [List.getElem?_map, List.getElem?_map, List.getElem?_map, List.getElem?_map, hr]; exact ⟨rfl, rfl⟩
theorem tms_cons (R : List (Int × Int)) (t s : Int) : ints (tms ((t, s) :: R)) = ints (tms R) ++ [[i64 t]] ∧ ints (szs ((t, s) :: R)) = ints (szs R) ++ [[i64 s]] := by simp [ints]
/- what has been let through -/
structure RunOK (R : List (Int × Int)) (B : Int) : Prop where
  n : R.length ≤ 60
  b : ∀ y ∈ R, 0 ≤ y.1 ∧ y.1 ≤ 2000 ∧ 0 ≤ y.2
  s : sumA (fun y : Int × Int => y.2) R ≤ B
abbrev runB (f : C3) (h1 h2 : SV) : Chunk := .box [.psl 1 (ints f.1), i64 f.2.1, i64 f.2.2, i64 (cv f 1), h1, h2]
theorem aP_C4 {A B K : Prop} (k : K) (a : A := by (simp only [zA, zT, zD, zC, zN, ints_len, zR, pks_len, Go.Cv.vals_len]; omega)) (b : B := by (simp only [zA, zT, zD, zC, zN, ints_len, zR, pks_len, Go.Cv.vals_len]; omega)) : (A ∧ B) ∧ K := ⟨⟨a, b⟩, k⟩
theorem begin_ok (f : C3) (vf : VC f) : Ctr Try.prog 43 [crv f.1 f.2.1 f.2.2] [] (fun r o => o = [runB f .nil .nil] ∧ r = .ptr 0 0) := by
  refine fn_intro (E := env 0) tys_ok rfl rfl rfl Try.func43 (by kernel_rfl) rfl (by kernel_rfl) ?_
  have cA := WAt_ok f.1 f.2.1 f.2.2 1 (bd_of vf) (by omega) (by omega)
  rw [show val f.1 f.2.1 f.2.2 (1 : Int).toNat = cv f 1 from rfl] at cA
  (repeat' (conv => whnf); first | (refine aC (fun _ => ?_) (fun _ => ?_) <;> try (exfalso; omega)) | refine aS ?_ | refine aG ?_ | refine aD ?_ | refine aP_C4 ?_ | refine aI ?_ | refine aJ ?_ | refine aW (.qs [0, 1] (.l 2 [0] (.qs [3] (.l 4 [] (.qs [5] .nil) .no)) .no)) ?_ | (refine Gh.mk [] ?_; (conv => whnf); refine aK [] cA ?_) | fail); all_goals try (conv => whnf)
  refine .mk [.wk [1] ⟨[(2, .ptr 0 0)], [runB f .nil .nil]⟩] ⟨by (exact aL), ?_⟩
  (repeat' (conv => whnf); first | refine aC (fun _ => ?_) (fun _ => ?_) | refine aS ?_ | refine aG ?_ | refine aD ?_ | refine aH ?_ | refine aP_C4 ?_ | refine aI ?_ | refine aJ ?_ | refine aW (.qs [0, 1] (.l 2 [0] (.qs [3] (.l 4 [] (.qs [5] .nil) .no)) .no)) ?_ | fail); all_goals try (conv => whnf)
  exact ⟨rfl, rfl⟩
theorem add_ok (f : C3) (T S : List Int) (t s : Int) (hT : T.length ≤ 100) (hS : S.length ≤ 100) :
    Ctr Try.prog 47 [.ptr 0 0, i64 t, i64 s] [runB f (.vec 1) (.vec 2), .vec 1 (ints T), .vec 1 (ints S)] (fun r o => o = [runB f (.vec 3) (.vec 4), .dead, .dead, .vec 1 (ints T ++ [[i64 t]]), .vec 1 (ints S ++ [[i64 s]])] ∧ r = .tup []) := by
  refine fn_intro (E := env 3) tys_ok rfl rfl rfl Try.func47 (by kernel_rfl) rfl (by kernel_rfl) ?_
  have hl1 := ints_len T
  have hl2 := ints_len S
  (repeat' (conv => whnf); first | refine LitOb.ful ?_ | (refine aC (fun _ => ?_) (fun _ => ?_) <;> try (exfalso; omega)) | refine aS ?_ | refine aG ?_ | refine aD ?_ | refine aH ?_ | refine aP_C4 ?_ | refine aI ?_ | refine aJ ?_ | refine aW (.qs [0, 1, 2, 3, 4, 5, 6, 9, 10, 11, 12, 13] (.l 7 [12, 5] (.l 8 [12] (.l 14 [12] (.l 15 [] (.qs [16, 17] (.l 18 [] (.qs [19, 20] (.l 21 [] .nil .no)) .no)) .no) .no) (.l 14 [12, 5] (.l 8 [12] (.l 15 [] (.qs [16, 17] (.l 18 [] (.qs [19, 20] (.l 21 [] .nil .no)) .no)) .no) .no) .no)) (.l 14 [12, 5] (.l 7 [12, 5] (.l 8 [12] (.l 15 [] (.qs [16, 17] (.l 18 [] (.qs [19, 20] (.l 21 [] .nil .no)) .no)) .no) .no) .no) .no))) ?_ | refine And.intro ?_ ?_ | fail); all_goals try (conv => whnf)
  all_goals rfl
end Go.Proofs.Ytabbnnfobjifiaa
end
section
namespace Go.Sx
/-! writing a run of cells into a block -/
theorem setCells_get {b : Nat} {T : TypeId} : ∀ (news : List Value) (w : World) (pre mid post : List Value), w.heap[b]? = some (.cells (pre ++ mid ++ post).toArray T (0, 0)) → news.length = mid.length →
    (w.setCells b pre.length news).heap[b]? = some (.cells (pre ++ news ++ post).toArray T (0, 0)) ∧ (∀ k, k ≠ b → (w.setCells b pre.length news).heap[k]? = w.heap[k]?) ∧ (w.setCells b pre.length news).heap.size = w.heap.size ∧
      (w.setCells b pre.length news).os = w.os ∧ (w.setCells b pre.length news).tape = w.tape ∧ (w.setCells b pre.length news).output = w.output
  | [], w, pre, mid, post, h, hl => by
    have : mid = [] := List.eq_nil_of_length_eq_zero (by simpa using hl.symm)
    subst this
    exact ⟨h, fun _ _ => rfl, rfl, rfl, rfl, rfl⟩
  | v :: r, w, pre, [], post, h, hl => by simp at hl
  | v :: r, w, pre, m :: mid, post, h, hl => by
    have hb := lt_of_get h
    have h1 : (w.setCell ⟨b, pre.length, none⟩ v).heap[b]? = some (.cells ((pre ++ [v]) ++ mid ++ post).toArray T (0, 0)) := by
      simp only [World.setCell, Array.getElem?_modify, if_true, h, Option.map_some]
      congr 2
      simp
    have ih := setCells_get r (w.setCell ⟨b, pre.length, none⟩ v) (pre ++ [v]) mid post h1 (by simpa using hl)
    rw [List.length_append, List.length_singleton] at ih
    refine ⟨by rw [World.setCells, ih.1]; simp, fun k hk => ?_, ?_, ?_, ?_, ?_⟩
    · rw [World.setCells, ih.2.1 k hk]
      simp only [World.setCell, Array.getElem?_modify, if_neg (Ne.symm hk)]
    · rw [World.setCells, ih.2.2.1]; simp [World.setCell]
    · rw [World.setCells, ih.2.2.2.1]; rfl
    · rw [World.setCells, ih.2.2.2.2.1]; rfl
    · rw [World.setCells, ih.2.2.2.2.2]; rfl
theorem clear_one {P : Program} (w : World) (t e ty : TypeId) (z : Value) (ht : P.underlying t = some (.slice e)) (hv : ∀ w, (zeroValue e).run P w = .ok z w) (zs : List Value) (hz : (Builtin.zeroCells z.cells 1).toList = zs) (h1 : ∀ v ∈ zs, v.oneCell' = true) (b o c : Nat)
    (hc : ∀ j, j < zs.length → (w.cell? ⟨b, o + j, none⟩).isSome = true) (hf : ∀ j, j < zs.length → w.frozen? ⟨b, o + j, none⟩ = false) :
    (Builtin.clear_ #[t] ty #[.slice (some ⟨b, o, none⟩) 1 c]).run P w = .ok (.tuple #[]) (w.setCells b o zs) := by
  have hst := run_storeCells_cells (P := P) b o zs 0 w (by simpa using hc) (by simpa using hf) h1
  simp only [Nat.add_zero] at hst
  simp [Builtin.clear_, run_underlying ht, hv, hz, hst]
theorem cell_at {w : World} {b : Nat} {T : TypeId} {cs : List Value} (h : w.heap[b]? = some (.cells cs.toArray T (0, 0))) (o : Nat) : w.cell? ⟨b, o, none⟩ = cs[o]? ∧ w.frozen? ⟨b, o, none⟩ = false := by
  constructor
  · simp [World.cell?, h]
  · simp [World.frozen?, h]
end Go.Sx
end
