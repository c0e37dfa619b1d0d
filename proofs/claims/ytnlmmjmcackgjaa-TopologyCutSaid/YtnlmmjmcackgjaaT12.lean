/-
  A text of the proofs of this seat: lemmas that the statements' proofs use; it states nothing of the program by itself beyond the contracts that its theorems bear. Conditions: those that stand in each theorem. Its short name: T12.
-/
import Derived.Test.YtnlmmjmcackgjaaT11
set_option linter.unusedVariables false
set_option linter.unusedSimpArgs false
namespace Go.Proofs.Ytnlmmjmcackgjaa
open Go.Sx Go.Np Go.Tp
set_option maxRecDepth 4000
set_option maxHeartbeats 2000000
theorem GrG.nl' {k : Nat} {R : List (List Int)} (h : GrG k R) : NL (rtN k R) := GrG.nl (by have := h.k2; omega) (by have := h.l; omega) fun r hr => by have := (h.r r hr).l2; omega
theorem rchN_iff {k : Nat} {R : List (List Int)} (h : GrG k R) {x y : Nat} (hx : x < k) (hy : y < k) : RchN (rtN k R) x y ↔ Rch (adj (rtN k R)) x y := by
  unfold RchN
  rw [rtN_ll, Int.toNat_natCast, Int.toNat_natCast]
  exact ⟨fun h => h.2.2.2, fun h' => ⟨h.chk, by omega, by omega, h'⟩⟩
/- Cycle, when there is one -/
theorem cyc_pos {n : Nt} (hn : NL n) (h : chkN n = 0) (hc : Cyc (adj n)) : ∃ c, 1 ≤ c.length ∧ Ctr Try.prog 15 [ntv n] [] (fun r o => o = [] ∧ r = .psl 1 (nts c)) := by
  rcases cyc_cases (adj_chk h) with ⟨h1, _⟩ | ⟨c, h1, _, h2, _⟩
  · exact absurd hc h1
  · exact ⟨c, by omega, (tCycle_ok n hn h).weak fun r o ⟨h3, h4⟩ => ⟨h3, by rw [h1] at h4; exact h4⟩⟩
theorem Reaches_ok (l : List Int) (hl : l.length ≤ 9223372036854775807) (a b c : Int) (a0 : 0 ≤ a ∧ a ≤ 255) (b0 : 0 ≤ b ∧ b ≤ 255) (c0 : 0 ≤ c ∧ c ≤ 255) :
    Ctr Try.prog 3 [.psl 1 (ints l), .num .u8 a, .num .u8 b, .num .u8 c] [] (fun r o => r = .bl true) := by
  refine fn_intro (E := env 0) tys_ok rfl rfl rfl Try.func3 (by kernel_rfl) rfl (by kernel_rfl) ?_
  repeat' (conv => whnf
           first | (refine CondOb.mk (fun _ => ?_) (fun _ => ?_) <;> first | (exfalso; omega) | skip) | refine ArOb.fits (by first | omega | (simp only [ints_len] at *; omega)) ?_ | refine LitOb.vec ?_ | refine MakeOb.vec ?_ | refine AllocOb.box ?_ | refine AsgOb.vec ?_ | refine AggOb.mk (by decide +kernel) ?_ | refine ArU.fits (by first | omega | (simp only [ints_len] at *; omega)) ?_ | refine ArB.fits (by first | omega | (simp only [ints_len] at *; omega)) ?_ | refine CutOb.split ?_ | refine Gh.mk [] ?_ | refine And.intro (And.intro (by (simp only [List.length_append, List.length_take, List.length_drop, List.length_cons, List.length_nil, ints_len, List.length_replicate, lnl, fll, stl]; omega)) (by (simp only [List.length_append, List.length_take, List.length_drop, List.length_cons, List.length_nil, ints_len, List.length_replicate, lnl, fll, stl]; omega))) ?_ | refine ⟨_, _, rfl, ints_get (by first | omega | (simp only [ints_len] at *; omega)), ?_⟩ | refine ⟨_, _, (Int.toNat_of_nonneg (by first | omega | (simp only [ints_len] at *; omega))).symm, ints_get (by first | omega | (simp only [ints_len] at *; omega)), ?_⟩ | refine DrawOb.mk [] (.qs [0, 1, 2, 3, 4, 5, 6, 7, 8, 9, 10, 11, 12, 13, 14] .nil) (by decide +kernel) ?_ | (refine CallOb.mk [] (sane_ok) rfl (ImpL.refl _) rfl rfl ?_; rintro _ _ ⟨rfl, rfl⟩) | fail)
  all_goals try (conv => whnf)
  · rfl
  refine CallOb.mk [] (graph_ok l hl) rfl (ImpL.refl _) rfl rfl ?_
  rintro _ _ ⟨⟨k, R⟩, hG, rfl, rfl⟩
  dsimp only at hG ⊢
  have hn := hG.nl'
  have hc := hG.chk
  have hk1 := hG.k1
  have hk2 := hG.k2
  have hI := fun x y (hx : x < k) (hy : y < k) => rchN_iff hG hx hy
  have hln : (lns (rtN k R).ln).length = k := by rw [lnl, rtN_ll]
  generalize rtN k R = n at *
  obtain ⟨x, ex, hx⟩ : ∃ x : Nat, a.tmod ((lns n.ln).length : Int) = x ∧ x < k := by
    obtain ⟨e1, e2, e3⟩ := tmod_bd a0.1 (show (1 : Int) ≤ ((lns n.ln).length : Int) by omega)
    exact ⟨(a % ((lns n.ln).length : Int)).toNat, by omega, by omega⟩
  obtain ⟨y, ey, hy⟩ : ∃ x : Nat, b.tmod ((lns n.ln).length : Int) = x ∧ x < k := by
    obtain ⟨e1, e2, e3⟩ := tmod_bd b0.1 (show (1 : Int) ≤ ((lns n.ln).length : Int) by omega)
    exact ⟨(b % ((lns n.ln).length : Int)).toNat, by omega, by omega⟩
  obtain ⟨z, ez, hz⟩ : ∃ x : Nat, c.tmod ((lns n.ln).length : Int) = x ∧ x < k := by
    obtain ⟨e1, e2, e3⟩ := tmod_bd c0.1 (show (1 : Int) ≤ ((lns n.ln).length : Int) by omega)
    exact ⟨(c % ((lns n.ln).length : Int)).toNat, by omega, by omega⟩
  have h1 : RchN n x x := (hI x x hx hx).2 (Rch.refl _ _)
  have h2 : RchN n x y → RchN n y z → RchN n x z := fun p q => (hI x z hx hz).2 (((hI x y hx hy).1 p).trans ((hI y z hy hz).1 q))
  have h3 : x ≠ y → RchN n x y → RchN n y x → Cyc (adj n) := fun e p q => cyc_two e ((hI x y hx hy).1 p) ((hI y x hy hx).1 q)
  have cA := tReaches_ok n hn x x
  have cB := tReaches_ok n hn x y
  have cC := tReaches_ok n hn y z
  have cD := tReaches_ok n hn x z
  have cE := tReaches_ok n hn y x
  clear hI
  generalize RchN n x x = Pxx at *
  generalize RchN n x y = Pxy at *
  generalize RchN n y z = Pyz at *
  generalize RchN n x z = Pxz at *
  generalize RchN n y x = Pyx at *
  rw [← ex] at cA cB cD cE
  rw [← ey] at cB cC cE
  rw [← ez] at cC cD
  repeat' (conv => whnf
           first | (refine CondOb.mk (fun _ => ?_) (fun _ => ?_) <;> first | (exfalso; omega) | skip) | refine ArOb.fits (by first | omega | (simp only [ints_len] at *; omega)) ?_ | refine LitOb.vec ?_ | refine MakeOb.vec ?_ | refine AllocOb.box ?_ | refine AsgOb.vec ?_ | refine AggOb.mk (by decide +kernel) ?_ | refine ArU.fits (by first | omega | (simp only [ints_len] at *; omega)) ?_ | refine ArB.fits (by first | omega | (simp only [ints_len] at *; omega)) ?_ | refine CutOb.split ?_ | refine Gh.mk [] ?_ | refine And.intro (And.intro (by (simp only [List.length_append, List.length_take, List.length_drop, List.length_cons, List.length_nil, ints_len, List.length_replicate, lnl, fll, stl]; omega)) (by (simp only [List.length_append, List.length_take, List.length_drop, List.length_cons, List.length_nil, ints_len, List.length_replicate, lnl, fll, stl]; omega))) ?_ | refine ⟨_, _, rfl, ints_get (by first | omega | (simp only [ints_len] at *; omega)), ?_⟩ | refine ⟨_, _, (Int.toNat_of_nonneg (by first | omega | (simp only [ints_len] at *; omega))).symm, ints_get (by first | omega | (simp only [ints_len] at *; omega)), ?_⟩ | refine DrawOb.mk [] (.qs [0, 1, 2, 3, 4, 5, 6, 7, 8, 9, 10, 11, 12, 13, 14] .nil) (by decide +kernel) ?_ | refine ⟨by omega, ?_⟩ | (refine CallOb.mk [] cA rfl (ImpL.refl _) rfl rfl ?_; rintro _ _ ⟨rfl, rfl⟩) | (refine CallOb.mk [] cB rfl (ImpL.refl _) rfl rfl ?_; rintro _ _ ⟨rfl, rfl⟩) | (refine CallOb.mk [] cC rfl (ImpL.refl _) rfl rfl ?_; rintro _ _ ⟨rfl, rfl⟩) | (refine CallOb.mk [] cD rfl (ImpL.refl _) rfl rfl ?_; rintro _ _ ⟨rfl, rfl⟩) | (refine CallOb.mk [] cE rfl (ImpL.refl _) rfl rfl ?_; rintro _ _ ⟨rfl, rfl⟩) | (obtain ⟨c', hc1, cY⟩ := cyc_pos hn hc (h3 (by omega) (Classical.not_not.1 (by assumption)) (Classical.not_not.1 (by assumption))); have hc2 := nts_len c'; refine CallOb.mk [] cY rfl (ImpL.refl _) rfl rfl ?_; rintro _ _ ⟨rfl, rfl⟩) | (refine CallOb.mk [] (sane_ok) rfl (ImpL.refl _) rfl rfl ?_; rintro _ _ ⟨rfl, rfl⟩) | fail)
  all_goals try (conv => whnf)
  all_goals first
    | rfl
    | (exfalso; clear cA cB cC cD cE h3; first | contradiction | omega | (simp only [Classical.not_not] at *; first | contradiction | exact absurd h1 (by assumption) | exact absurd (h2 (by assumption) (by assumption)) (by assumption)))
    | trace_state
end Go.Proofs.Ytnlmmjmcackgjaa
