/-
  A text of the proofs of this seat: lemmas that the statements' proofs use; it states nothing of the program by itself beyond the contracts that its theorems bear. Conditions: those that stand in each theorem. Its short name: Nz N4 N5.
-/
import Derived.Test.YtgbmiacpjmchdaaGreatN13
import Derived.Test.YtgbmiacpjmchdaaGreatN3
set_option linter.unusedVariables false
set_option linter.unusedSimpArgs false
section
namespace Go.Proofs.YtgbmiacpjmchdaaGreat
open Go.Sx Go.Np Go.Cv
set_option maxRecDepth 4000
set_option maxHeartbeats 2000000
def rr (a s m t : Nat) : List Int := (List.range t).map fun j => (((a + j * s) % m : Nat) : Int)
theorem rr_len {a s m t : Nat} : (rr a s m t).length = t := by simp [rr]
theorem rr_get {a s m t j : Nat} (h : j < t) : (rr a s m t).getD j 0 = ((a + j * s) % m : Nat) := by simp [rr, List.getD_eq_getElem?_getD, h]
theorem rr_succ {a s m t : Nat} : rr a s m (t + 1) = rr a s m t ++ [(((a + t * s) % m : Nat) : Int)] := by simp [rr, List.range_succ]
theorem rr_nd0 : ∀ m : Fin 5, ∀ a : Fin 5, ∀ s : Fin 5, ∀ j : Fin 3, ∀ i : Fin 3, (1 ≤ m.val ∧ a.val < m.val ∧ (s.val = 1 ∨ s.val + 1 = m.val) ∧ i.val < j.val ∧ j.val < m.val) → (a.val + i.val * s.val) % m.val ≠ (a.val + j.val * s.val) % m.val := by decide +kernel
theorem rr_nd {m a s j i : Nat} (hm : 1 ≤ m) (h4 : m ≤ 4) (ha : a < m) (hs : s = 1 ∨ s + 1 = m) (hij : i < j) (hj : j < m) (hj3 : j < 3) : (a + i * s) % m ≠ (a + j * s) % m :=
  rr_nd0 ⟨m, by omega⟩ ⟨a, by omega⟩ ⟨s, by omega⟩ ⟨j, hj3⟩ ⟨i, by omega⟩ ⟨hm, ha, hs, hij, hj⟩
theorem rr_mem {a s m t : Nat} {x : Int} (hm : 1 ≤ m) (h : x ∈ rr a s m t) : 0 ≤ x ∧ x < m := by
  unfold rr at h
  obtain ⟨j, _, rfl⟩ := List.mem_map.1 h
  have := Nat.mod_lt (a + j * s) (show 0 < m by omega)
  omega
theorem md_nn {x n : Int} (h : 0 ≤ x) (hn : 1 ≤ n) : md x n = x % n := by
  have e : x.tmod n = x % n := Int.tmod_eq_emod_of_nonneg h
  unfold md
  rw [e, if_neg (by have := Int.emod_nonneg x (show n ≠ 0 by omega); omega)]
theorem at_step {a s m t : Nat} : ((((a + t * s) % m : Nat) : Int) + s) % m = (((a + (t + 1) * s) % m : Nat) : Int) := by
  rw [Nat.add_mul, Nat.one_mul, ← Nat.add_assoc]
  push_cast
  rw [Int.emod_add_emod]
/- a line of a net that is made -/
structure LnG (k : Nat) (l : Ln) : Prop where
  p : PortG k l
  w : l.w.length ≤ 2
  s : l.s.length ≤ 4
structure NetG (ml mf k : Nat) (n : Nt) : Prop where
  g : NtG k n
  ml : n.ln.length ≤ ml
  mf : n.fl.length ≤ mf
  lg : ∀ l ∈ n.ln, LnG k l
theorem NetG.nl {ml mf k : Nat} {n : Nt} (h : NetG ml mf k n) : NL n := by
  have g := h.g
  refine ⟨by rw [g.nl]; have := g.ll; omega, by have := g.ll; omega, by have := g.fl; omega, fun s hs => ?_, fun l hl => ?_, fun f hf => ?_⟩
  · obtain ⟨i, hi, rfl⟩ := List.mem_iff_getElem.1 hs
    have := g.nm i (by rw [← g.nl]; exact hi)
    rw [List.getD_eq_getElem?_getD, List.getElem?_eq_getElem hi, Option.getD_some] at this
    rw [this]; simp [lname, ByteArray.size]
  · have := h.lg l hl
    have h1 := this.w
    have h2 := this.s
    omega
  · have := g.fg f hf
    have h1 := this.r1
    obtain ⟨b, _, _, p1, p2, hv, _⟩ := this.ct
    obtain ⟨i, hi, rfl⟩ := List.mem_iff_getElem.1 hf
    have hn := g.fn i hi
    rw [List.getD_eq_getElem?_getD, List.getElem?_eq_getElem hi, Option.getD_some] at hn
    refine ⟨by rw [hn]; simp [fname, ByteArray.size], by omega, by rw [hv]; simp; omega⟩
end Go.Proofs.YtgbmiacpjmchdaaGreat
end
section
namespace Go.Proofs.YtgbmiacpjmchdaaGreat
open Go.Sx Go.Np
set_option maxRecDepth 4000
set_option maxHeartbeats 2000000
theorem lk_cons {k a : Int} {v : SV} {l : List (Int × SV)} : List.lookup k ((a, v) :: l) = if k = a then some v else List.lookup k l := by
  by_cases h : k = a
  · subst h; simp [List.lookup]
  · rw [if_neg h]
    have : (k == a) = false := by simp [h]
    simp only [List.lookup, this]
theorem aP_N4 {A B K : Prop} (k : K) (a : A := by (simp only [zA, zT, zD, zC, zN, ints_len, zR, lnl, fll, stl]; omega)) (b : B := by (simp only [zA, zT, zD, zC, zN, ints_len, zR, lnl, fll, stl]; omega)) : (A ∧ B) ∧ K := ⟨⟨a, b⟩, k⟩
theorem kind_ok (k : Int) : Ctr Tryz.prog 95 [i64 k] [] (fun r o => ∃ s : SV × Bool, ((k < 1 ∨ 5 < k) ∧ s = (.raw .nilIface, false) ∨ k = 1 ∧ s = (.ifc 126 (.agg []), true) ∨ k = 2 ∧ s = (.ifc 127 (.agg []), true) ∨ k = 3 ∧ s = (.ifc 128 (.agg []), true) ∨ k = 4 ∧ s = (.ifc 129 (.agg []), true) ∨ k = 5 ∧ s = (.ifc 130 (.agg []), true)) ∧ o = [] ∧ r = .tup [s.1, .bl s.2]) := by
  refine fn_intro (E := env 0) tys_ok rfl rfl rfl Tryz.func95 (by kernel_rfl) rfl (by kernel_rfl) ?_
  (repeat' (conv => whnf); first | refine aC (fun _ => ?_) (fun _ => ?_) | refine aS ?_ | refine aG ?_ | refine aD ?_ | refine aH ?_ | refine aP_N4 ?_ | refine aI ?_ | refine aJ ?_ | refine PutOb.mk (fun h => absurd rfl h) (fun _ => ?_) | fail); all_goals try (conv => whnf)
  refine MapOb.mk (fun v hv => ?_) (fun hv => ?_)
  all_goals simp only [List.nil_append, List.cons_append, lk_cons, List.lookup_nil] at hv
  · repeat' (split at hv)
    all_goals first
      | (cases hv; done)
      | (injection hv with hv; subst hv)
    all_goals
      subst k
      (repeat' (conv => whnf); first | refine aC (fun _ => ?_) (fun _ => ?_) | refine aS ?_ | refine aG ?_ | refine aD ?_ | refine aH ?_ | refine aP_N4 ?_ | refine aI ?_ | refine aJ ?_ | refine PutOb.mk (fun h => absurd rfl h) (fun _ => ?_) | fail); all_goals try (conv => whnf)
      exact ⟨(_, true), by simp, rfl, rfl⟩
  · have hk : k < 1 ∨ 5 < k := by
      repeat' (split at hv)
      all_goals first
        | (cases hv; done)
        | omega
    (repeat' (conv => whnf); first | refine aC (fun _ => ?_) (fun _ => ?_) | refine aS ?_ | refine aG ?_ | refine aD ?_ | refine aH ?_ | refine aP_N4 ?_ | refine aI ?_ | refine aJ ?_ | fail); all_goals try (conv => whnf)
    exact ⟨(_, false), .inl ⟨hk, rfl⟩, rfl, rfl⟩
theorem lCheck_ok (l : Ln) (hl : LL l) : Ctr Tryz.prog 66 [lv l] [] (fun r o => o = [] ∧ r = i64 (lnErr l)) := by
  refine fn_intro (E := env 0) tys_ok rfl rfl rfl Tryz.func66 (by kernel_rfl) rfl (by kernel_rfl) ?_
  (repeat' (conv => whnf); first | refine aC (fun _ => ?_) (fun _ => ?_) | refine aS ?_ | refine aG ?_ | refine aD ?_ | refine aH ?_ | refine aP_N4 ?_ | refine aI ?_ | refine aJ ?_ | fail); all_goals try (conv => whnf)
  refine CallOb.mk [] (kind_ok l.k) rfl (ImpL.refl _) rfl rfl ?_
  rintro _ _ ⟨⟨s, b⟩, hs, rfl, rfl⟩
  dsimp only at hs ⊢
  have rng : ∀ {e : Int}, 1 ≤ l.k ∧ l.k ≤ 5 → (1 ≤ l.c ∧ l.c ≤ 4000 ∧ 1 ≤ l.n ∧ l.n ≤ 6) → e = lsErr l → e = lnErr l := fun h1 h2 h3 => by
    unfold lnErr; rw [if_neg (by omega), if_neg (by omega)]; exact h3
  rcases hs with ⟨hk, hs⟩ | ⟨hk, hs⟩ | ⟨hk, hs⟩ | ⟨hk, hs⟩ | ⟨hk, hs⟩ | ⟨hk, hs⟩
  · cases hs
    (repeat' (conv => whnf); first | refine aC (fun _ => ?_) (fun _ => ?_) | refine aS ?_ | refine aG ?_ | refine aD ?_ | refine aH ?_ | refine aP_N4 ?_ | refine aI ?_ | refine aJ ?_ | fail); all_goals try (conv => whnf)
    exact ⟨rfl, by unfold lnErr; rw [if_pos hk]; rfl⟩
  · cases hs
    (repeat' (conv => whnf); first | (refine aC (fun _ => ?_) (fun _ => ?_) <;> try (exfalso; omega)) | refine aS ?_ | refine aG ?_ | refine aD ?_ | refine aH ?_ | refine aP_N4 ?_ | refine aI ?_ | refine aJ ?_ | refine InvOb.mk 128 (by decide +kernel) ?_ | (refine aK [] (fifo_ok l hl hk) ?_) | fail); all_goals try (conv => whnf)
    all_goals first
      | exact ⟨rfl, by unfold lnErr; rw [if_neg (by omega), if_pos (by omega)]; rfl⟩
      | exact ⟨rfl, by unfold lnErr; rw [if_neg (by omega), if_neg (by omega)]; rfl⟩
      | trace_state
  · cases hs
    (repeat' (conv => whnf); first | (refine aC (fun _ => ?_) (fun _ => ?_) <;> try (exfalso; omega)) | refine aS ?_ | refine aG ?_ | refine aD ?_ | refine aH ?_ | refine aP_N4 ?_ | refine aI ?_ | refine aJ ?_ | refine InvOb.mk 132 (by decide +kernel) ?_ | (refine aK [] (ranks_ok l hl hk) ?_) | fail); all_goals try (conv => whnf)
    all_goals first
      | exact ⟨rfl, by unfold lnErr; rw [if_neg (by omega), if_pos (by omega)]; rfl⟩
      | exact ⟨rfl, by unfold lnErr; rw [if_neg (by omega), if_neg (by omega)]; rfl⟩
      | trace_state
  · cases hs
    (repeat' (conv => whnf); first | (refine aC (fun _ => ?_) (fun _ => ?_) <;> try (exfalso; omega)) | refine aS ?_ | refine aG ?_ | refine aD ?_ | refine aH ?_ | refine aP_N4 ?_ | refine aI ?_ | refine aJ ?_ | refine InvOb.mk 135 (by decide +kernel) ?_ | (refine aK [] (robin_ok l hl hk (by omega)) ?_) | fail); all_goals try (conv => whnf)
    all_goals first
      | exact ⟨rfl, by unfold lnErr; rw [if_neg (by omega), if_pos (by omega)]; rfl⟩
      | exact ⟨rfl, by unfold lnErr; rw [if_neg (by omega), if_neg (by omega)]; rfl⟩
      | trace_state
  · cases hs
    (repeat' (conv => whnf); first | (refine aC (fun _ => ?_) (fun _ => ?_) <;> try (exfalso; omega)) | refine aS ?_ | refine aG ?_ | refine aD ?_ | refine aH ?_ | refine aP_N4 ?_ | refine aI ?_ | refine aJ ?_ | refine InvOb.mk 142 (by decide +kernel) ?_ | (refine aK [] (deficits_ok l hl hk (by omega)) ?_) | fail); all_goals try (conv => whnf)
    all_goals first
      | exact ⟨rfl, by unfold lnErr; rw [if_neg (by omega), if_pos (by omega)]; rfl⟩
      | exact ⟨rfl, by unfold lnErr; rw [if_neg (by omega), if_neg (by omega)]; rfl⟩
      | trace_state
  · cases hs
    (repeat' (conv => whnf); first | (refine aC (fun _ => ?_) (fun _ => ?_) <;> try (exfalso; omega)) | refine aS ?_ | refine aG ?_ | refine aD ?_ | refine aH ?_ | refine aP_N4 ?_ | refine aI ?_ | refine aJ ?_ | refine InvOb.mk 145 (by decide +kernel) ?_ | (refine aK [] (times_ok l hl hk (by omega)) ?_) | fail); all_goals try (conv => whnf)
    all_goals first
      | exact ⟨rfl, by unfold lnErr; rw [if_neg (by omega), if_pos (by omega)]; rfl⟩
      | exact ⟨rfl, by unfold lnErr; rw [if_neg (by omega), if_neg (by omega)]; rfl⟩
      | trace_state
end Go.Proofs.YtgbmiacpjmchdaaGreat
end
section
namespace Go.Proofs.YtgbmiacpjmchdaaGreat
open Go.Sx Go.Np
set_option maxRecDepth 4000
set_option maxHeartbeats 2000000
theorem aP_N5 {A B K : Prop} (k : K) (a : A := by (simp only [zA, zT, zD, zC, zN, ints_len, zR, lnl, fll, stl]; omega)) (b : B := by (simp only [zA, zT, zD, zC, zN, ints_len, zR, lnl, fll, stl]; omega)) : (A ∧ B) ∧ K := ⟨⟨a, b⟩, k⟩
theorem rlCheck_ok (l : Ln) (hl : LL l) : Ctr Tryz.prog 70 [lv l] [] (fun r o => o = [] ∧ r = i64 (lnErr l)) := by
  refine fn_intro (E := env 0) tys_ok rfl rfl rfl Tryz.func70 (by kernel_rfl) rfl (by kernel_rfl) ?_
  have hw := hl.w
  have hs := hl.s
  have c1 := rwithin_ok l.w hl.w 1 20
  have c2 := rwithin_ok l.w hl.w 1 6000
  have c3 := rwithin_ok l.s hl.s (-1) (l.n - 1)
  have hlw := ints_len l.w
  have hls := ints_len l.s
  (repeat' (conv => whnf); first | (refine aC (fun _ => ?_) (fun _ => ?_) <;> try (exfalso; omega)) | refine aS ?_ | refine aG ?_ | refine aD ?_ | refine aH ?_ | refine aP_N5 ?_ | refine aI ?_ | refine aJ ?_ | (refine aK [] c1 ?_) | (refine aK [] c2 ?_) | (refine aK [] c3 ?_) | fail); all_goals try (conv => whnf)
  all_goals first
    | (refine ⟨rfl, ?_⟩; show SV.num IntKind.i64 _ = SV.num IntKind.i64 _; congr 1; unfold lnErr lsErr; clear c1 c2 c3; grind)
    | trace_state
end Go.Proofs.YtgbmiacpjmchdaaGreat
end
