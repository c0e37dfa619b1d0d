/-
  A text of the proofs of this seat: lemmas that the statements' proofs use; it states nothing of the program by itself beyond the contracts that its theorems bear. Conditions: those that stand in each theorem. Its short name: E11.
-/
import Derived.Test.YtifcdempdcolkabE6
import Derived.Test.YtifcdempdcolkabE9
import Derived.Test.YtifcdempdcolkabE10
import Derived.Test.YtifcdempdcolkabK11
import Derived.Test.YtifcdempdcolkabKd
import Derived.Test.YtifcdempdcolkabT8
import Derived.Test.YtifcdempdcolkabTi
import Derived.Test.YtifcdempdcolkabD17
import Derived.Test.YtifcdempdcolkabA5
set_option linter.unusedVariables false
set_option linter.unusedSimpArgs false
namespace Go.Proofs.Ytifcdempdcolkab
open Go.Sx Go.Pk Go.Cv Go.St
set_option maxRecDepth 8000
set_option maxHeartbeats 4000000
--APPX pks_len, avs_len, Go.Cv.vals_len
abbrev CI := List Int × Int × Int
abbrev cr (c : CI) : List SV := [.psl 1 (ints c.1), i64 c.2.1, i64 c.2.2]
theorem out_len {vs : List Int} {p q : Int} {ws : List Int} {p' q' m : Int} {x : List Int × Int × Int × Int} (h : OutG vs p q ws p' q' m x) : x.1.length ≤ 400 := by
  rcases h with ⟨_, rfl⟩ | ⟨_, _, _, ⟨_, rfl⟩ | ⟨_, h⟩⟩
  · simp
  · simp
  · rcases h with ⟨_, _, rfl⟩ | ⟨_, _, _, _, _, ⟨_, rfl⟩ | ⟨_, h⟩⟩
    · simp
    · simp
    · rcases h with ⟨vs, p, q, _, h, rfl⟩ | ⟨_, rfl⟩
      · exact h.n2
      · simp
theorem fwd_len {p : List Pk} {d : List Int} {x : List Pk × List Int × Int} (h : FwdG p d x) : x.1.length ≤ p.length ∧ x.2.1.length ≤ p.length := by
  unfold FwdG at h
  have h1 : (fwd p d).length ≤ p.length := by unfold fwd; rw [srt_len]; exact arN_len p d _
  split at h <;> subst h <;> simp <;> omega
theorem del_len {p : List Pk} {d : List Int} {x : List Int × Int} (h : DelG p d x) : x.1.length ≤ p.length := by
  unfold DelG at h
  split at h <;> subst h <;> simp [vals_len]
theorem aP_E11 {A B K : Prop} (k : K) (a : A := by (simp only [zA, zT, zD, zC, zN, ints_len, zR, pks_len, avs_len, Go.Cv.vals_len]; omega)) (b : B := by (simp only [zA, zT, zD, zC, zN, ints_len, zR, pks_len, avs_len, Go.Cv.vals_len]; omega)) : (A ∧ B) ∧ K := ⟨⟨a, b⟩, k⟩
theorem Answers_ok (raw other : CI) (p : List Pk) (done : List Int) (n : Int) (l : List Int) (hr : raw.1.length ≤ 9223372036854775807) (ho : other.1.length ≤ 9223372036854775807) (hp : p.length ≤ 9223372036854775807) (hd : done.length ≤ 9223372036854775807) (hl : l.length ≤ 9223372036854775807) :
    Ctr Try.prog 3 [crv raw.1 raw.2.1 raw.2.2, crv other.1 other.2.1 other.2.2, .psl 3 (pks p), .psl 1 (ints done), i64 n, .psl 1 (ints l)] [] (fun r o => r = .bl true) := by
  refine fn_intro (E := env 0) tys_ok rfl rfl rfl Try.func3 (by kernel_rfl) rfl (by kernel_rfl) ?_
  have hL : (l.take 2000).length ≤ 2000 := by rw [List.length_take]; omega
  have hpl := pks_len p
  have hdl := ints_len done
  have hri := ints_len raw.1
  have hoi := ints_len other.1
  (repeat' (conv => whnf); first | (refine aC (fun _ => ?_) (fun _ => ?_) <;> try (exfalso; omega)) | refine aS ?_ | refine aG ?_ | refine aH ?_ | refine aP_E11 ?_ | refine aI ?_ | refine aJ ?_ | refine aW (.qs [0, 1, 2, 3, 7] (.l 4 [1, 0] (.l 5 [] (.qs [6] .nil) .no) .no)) ?_ | fail); all_goals try (conv => whnf)
  refine CutOb.cut (Y := Unit) (st := fun _ => ⟨[(7, .ptr 1 0), (6, .ptr 0 0), (2, .psl 3 (pks p)), (3, .psl 1 (ints done)), (4, i64 n), (5, .psl 1 (ints l))], [.box [.psl 1 (ints raw.1), i64 raw.2.1, i64 raw.2.2], .box [.psl 1 (ints other.1), i64 other.2.1, i64 other.2.2]]⟩) (inv := fun _ => raw.1.length ≤ 800 ∧ other.1.length ≤ 800 ∧ p.length ≤ 70 ∧ done.length ≤ 100) ?_ ?_
  · have cV := Valid_ok raw.1 raw.2.1 raw.2.2
    generalize ValidP raw.1 raw.2.1 raw.2.2 = V at *
    (repeat' (conv => whnf); first | (refine aC (fun _ => ?_) (fun _ => ?_) <;> try (exfalso; omega)) | refine aS ?_ | refine aG ?_ | refine aD ?_ | refine aH ?_ | refine aP_E11 ?_ | refine aI ?_ | refine aJ ?_ | refine aW (.qs [0, 1, 2, 3, 7] (.l 4 [1, 0] (.l 5 [] (.qs [6] .nil) .no) .no)) ?_ | (refine aK [] (Small_ok raw.1 raw.2.1 raw.2.2) ?_) | (refine aK [] (Small_ok other.1 other.2.1 other.2.2) ?_) | (refine aK [] cV ?_) | (refine aK [] (awake15_ok) ?_) | fail); all_goals try (conv => whnf)
    all_goals first
      | rfl
      | exact ⟨(), [0, 1], ⟨by omega, by omega, by omega, by omega⟩, by (exact aL)⟩
      | trace_state
  rintro - ⟨b1, b2, b3, b4⟩
  (repeat' (conv => whnf); first | (refine aC (fun _ => ?_) (fun _ => ?_) <;> try (exfalso; omega)) | refine aS ?_ | refine aG ?_ | refine aD ?_ | refine aH ?_ | refine aP_E11 ?_ | refine aI ?_ | refine aJ ?_ | refine aW (.qs [0, 1, 2, 3, 7] (.l 4 [1, 0] (.l 5 [] (.qs [6] .nil) .no) .no)) ?_ | (refine aK [] (New_ok l hl) ?_) | fail); all_goals try (conv => whnf)
  refine CallOb.mk [2] (Ctr.impE (Curve_ok _ 0 hL (by omega) 7 (by omega) (by omega))) rfl (ImpL.refl _) rfl rfl ?_
  rintro _ _ ⟨⟨f, k1⟩, ⟨hf, hk1⟩, rfl, rfl⟩
  dsimp only at hf hk1 ⊢
  (repeat' (conv => whnf); first | (refine aC (fun _ => ?_) (fun _ => ?_) <;> try (exfalso; omega)) | refine aS ?_ | refine aG ?_ | refine aD ?_ | refine aH ?_ | refine aP_E11 ?_ | refine aI ?_ | refine aJ ?_ | refine aW (.qs [0, 1, 2, 3, 7] (.l 4 [1, 0] (.l 5 [] (.qs [6] .nil) .no) .no)) ?_ | fail); all_goals try (conv => whnf)
  refine CallOb.mk [2] (Ctr.impE (Zero_ok _ k1 hL hk1 7 (by omega) (by omega))) rfl (ImpL.refl _) rfl rfl ?_
  rintro _ _ ⟨⟨g, k2⟩, ⟨hg, hk2⟩, rfl, rfl⟩
  dsimp only at hg hk2 ⊢
  have f1 := hf.v.n1
  have f2 := hf.n
  have g2 := hg.v.n2
  have fb : ∀ j < f.1.length, -4611686018427387904 ≤ f.1.getD j 0 ∧ f.1.getD j 0 ≤ 4611686018427387904 := fun j hj => by
    rcases hf.v.v j hj with h | h
    · rw [h]; decide
    · omega
  (repeat' (conv => whnf); first | (refine aC (fun _ => ?_) (fun _ => ?_) <;> try (exfalso; omega)) | refine aS ?_ | refine aG ?_ | refine aD ?_ | refine aH ?_ | refine aP_E11 ?_ | refine aI ?_ | refine aJ ?_ | refine aW (.qs [0, 1, 2, 3, 7] (.l 4 [1, 0] (.l 5 [] (.qs [6] .nil) .no) .no)) ?_ | fail); all_goals try (conv => whnf)
  refine CallOb.mk [2] (Bent_ok _ k2 hL hk2 f.1 f.2.1 f.2.2 f1 (by omega) fb) rfl (ImpL.refl _) rfl rfl ?_
  rintro _ _ ⟨⟨q, k3⟩, ⟨hq, hk3⟩, rfl, rfl⟩
  dsimp only at hq hk3 ⊢
  (repeat' (conv => whnf); first | refine LitOb.ful ?_ | (refine aC (fun _ => ?_) (fun _ => ?_) <;> try (exfalso; omega)) | refine aS ?_ | refine aG ?_ | refine aD ?_ | refine aH ?_ | refine aP_E11 ?_ | refine aI ?_ | refine aJ ?_ | refine aW (.qs [0, 1, 2, 3, 7] (.l 4 [1, 0] (.l 5 [] (.qs [6] .nil) .no) .no)) ?_ | fail); all_goals try (conv => whnf)
  refine LoopOb.mk (Y := Nat × Nat) (st := fun y => ⟨[(92, i64 y.1), (91, i64 3), (90, .ful 3 [cr raw, cr (f.1, f.2.1, f.2.2), cr q]), (15, .ptr 2 0), (13, .ptr 0 0), (7, .ptr 1 0), (2, .psl 3 (pks p)), (3, .psl 1 (ints done)), (4, i64 n)], [src (l.take 2000) y.2, .box (cr other), .box (cr (g.1, g.2.1, g.2.2))]⟩)
    (inv := fun y => y.1 ≤ 3 ∧ y.2 ≤ 2000) (fun y => 3 - y.1) (0, k3) [2, 1, 4] ⟨by simp, hk3⟩ (by (exact aL)) ?_
  rintro ⟨i, k⟩ ⟨hi, hk⟩
  dsimp only at hi hk ⊢
  (repeat' (conv => whnf); first | refine aS ?_ | refine aG ?_ | refine aD ?_ | refine aH ?_ | refine aP_E11 ?_ | refine aI ?_ | refine aJ ?_ | refine aW (.qs [0, 1, 2, 3, 7] (.l 4 [1, 0] (.l 5 [] (.qs [6] .nil) .no) .no)) ?_ | fail); all_goals try (conv => whnf)
  refine CondOb.mk (fun hlt => ?_) (fun hlt => ?_)
  · obtain ⟨u, hu, hgu⟩ : ∃ u : CI, u.1.length ≤ 1000 ∧ ([cr raw, cr (f.1, f.2.1, f.2.2), cr q] : List (List SV))[i]? = some (cr u) := by
      rcases (show i = 0 ∨ i = 1 ∨ i = 2 by omega) with h | h | h <;> subst h
      · exact ⟨raw, by omega, rfl⟩
      · exact ⟨(f.1, f.2.1, f.2.2), by dsimp only; omega, rfl⟩
      · exact ⟨q, hq, rfl⟩
    (repeat' (conv => whnf); first | refine ⟨i, _, rfl, hgu, ?_⟩ | refine LitOb.ful ?_ | (refine aC (fun _ => ?_) (fun _ => ?_) <;> try (exfalso; omega)) | refine aS ?_ | refine aG ?_ | refine aD ?_ | refine aH ?_ | refine aP_E11 ?_ | refine aI ?_ | refine aJ ?_ | refine aW (.qs [0, 1, 2, 3, 7] (.l 4 [1, 0] (.l 5 [] (.qs [6] .nil) .no) .no)) ?_ | (refine CallOb.mk [0] (N_ok _ k hL hk 30 (by omega) (by omega)) rfl (ImpL.refl _) rfl rfl ?_; rintro _ _ ⟨⟨a, k1⟩, ⟨ha1, ha2, hk1⟩, rfl, rfl⟩; dsimp only at ha1 ha2 hk1 ⊢) | (refine CallOb.mk [0] (Pick_ok _ k1 hL hk1 [0, 1, 700, 1500, 1501] (by decide) (by decide)) rfl ⟨Imp.refl _, Imp.fulp rfl, trivial⟩ rfl rfl ?_; rintro _ _ ⟨⟨v, k2⟩, ⟨hv, hk2⟩, rfl, rfl⟩; dsimp only at hk2 ⊢) | fail); all_goals try (conv => whnf)
    refine LoopOb.mk (Y := Nat) (st := fun j => ⟨[(105, i64 j), (104, i64 3), (103, .ful 1 [[i64 n], [i64 (1 + a)], [i64 v]]), (17, .ptr 3 0), (92, i64 i), (91, i64 3), (90, .ful 3 [cr raw, cr (f.1, f.2.1, f.2.2), cr q]), (15, .ptr 2 0), (13, .ptr 0 0), (7, .ptr 1 0), (2, .psl 3 (pks p)), (3, .psl 1 (ints done)), (4, i64 n)], [src (l.take 2000) k2, .box (cr other), .box (cr (g.1, g.2.1, g.2.2)), .box (cr u)]⟩)
      (inv := fun j => j ≤ 3) (fun j => 3 - j) 0 [0, 1, 2, 3] (by omega) (by (exact aL)) ?_
    intro j hj
    (repeat' (conv => whnf); first | refine aS ?_ | refine aG ?_ | refine aD ?_ | refine aH ?_ | refine aP_E11 ?_ | refine aI ?_ | refine aJ ?_ | refine aW (.qs [0, 1, 2, 3, 7] (.l 4 [1, 0] (.l 5 [] (.qs [6] .nil) .no) .no)) ?_ | fail); all_goals try (conv => whnf)
    refine CondOb.mk (fun hlt2 => ?_) (fun hlt2 => ?_)
    · obtain ⟨m, hgm⟩ : ∃ m : Int, ([[i64 n], [i64 (1 + a)], [i64 v]] : List (List SV))[j]? = some [i64 m] := by
        rcases (show j = 0 ∨ j = 1 ∨ j = 2 by omega) with h | h | h <;> subst h
        · exact ⟨n, rfl⟩
        · exact ⟨1 + a, rfl⟩
        · exact ⟨v, rfl⟩
      (repeat' (conv => whnf); first | refine ⟨j, _, rfl, hgm, ?_⟩ | (refine aC (fun _ => ?_) (fun _ => ?_) <;> try (exfalso; omega)) | refine aS ?_ | refine aG ?_ | refine aD ?_ | refine aH ?_ | refine aP_E11 ?_ | refine aI ?_ | refine aJ ?_ | refine aW (.qs [0, 1, 2, 3, 7] (.l 4 [1, 0] (.l 5 [] (.qs [6] .nil) .no) .no)) ?_ | fail); all_goals try (conv => whnf)
      refine CallOb.mk [] (HopGP_ok u.1 u.2.1 u.2.2 m (by omega)) rfl (ImpL.refl _) rfl rfl ?_
      rintro _ _ ⟨⟨x1, x2, x3, e⟩, hx, rfl, rfl⟩
      (repeat' (conv => whnf); first | (refine aC (fun _ => ?_) (fun _ => ?_) <;> try (exfalso; omega)) | refine aS ?_ | refine aG ?_ | refine aD ?_ | refine aH ?_ | refine aP_E11 ?_ | refine aI ?_ | refine aJ ?_ | refine aW (.qs [0, 1, 2, 3, 7] (.l 4 [1, 0] (.l 5 [] (.qs [6] .nil) .no) .no)) ?_ | fail); all_goals try (conv => whnf)
      refine CallOb.mk [] (rHopG_ok u.1 u.2.1 u.2.2 m) rfl (ImpL.refl _) rfl rfl ?_
      rintro _ _ ⟨y, hy, rfl, rfl⟩
      have := hy.uniq hx
      subst this
      have hxl := hop_len hx
      dsimp only at hxl ⊢
      (repeat' (conv => whnf); first | refine LitOb.ful ?_ | (refine CondOb.mk (fun h' => ?_) (fun h' => ?_) <;> first | (exfalso; first | omega | exact h' rfl | exact h' ⟨rfl, rfl, rfl⟩ | (simp at h'; done)) | skip) | (refine aC (fun _ => ?_) (fun _ => ?_) <;> try (exfalso; omega)) | refine aS ?_ | refine aG ?_ | refine aD ?_ | refine aH ?_ | refine aP_E11 ?_ | refine aI ?_ | refine aJ ?_ | refine aW (.qs [0, 1, 2, 3, 7] (.l 4 [1, 0] (.l 5 [] (.qs [6] .nil) .no) .no)) ?_ | (refine aK [] (Same_ok x1 x1 x2 x3 x2 x3 (by omega)) ?_) | fail); all_goals try (conv => whnf)
      refine LoopOb.mk (Y := Nat × CI × CI) (st := fun z => ⟨[(134, i64 z.1), (133, i64 2), (132, .ful 3 [cr (g.1, g.2.1, g.2.2), cr other]), (22, .ptr 5 0), (20, .ptr 4 0), (19, i64 m), (105, i64 j), (104, i64 3), (103, .ful 1 [[i64 n], [i64 (1 + a)], [i64 v]]), (17, .ptr 3 0), (92, i64 i), (91, i64 3), (90, .ful 3 [cr raw, cr (f.1, f.2.1, f.2.2), cr q]), (15, .ptr 2 0), (13, .ptr 0 0), (7, .ptr 1 0), (2, .psl 3 (pks p)), (3, .psl 1 (ints done)), (4, i64 n)], [src (l.take 2000) k2, .box (cr other), .box (cr (g.1, g.2.1, g.2.2)), .box (cr u), .box (cr z.2.1), .box (cr z.2.2)]⟩)
        (inv := fun z => z.1 ≤ 2) (fun z => 2 - z.1) (0, (x1, x2, x3), (x1, x2, x3)) [0, 1, 2, 3, 4, 5] (by simp) (by (exact aL)) ?_
      rintro ⟨z, A, B⟩ hz
      dsimp only at hz ⊢
      (repeat' (conv => whnf); first | refine aS ?_ | refine aG ?_ | refine aD ?_ | refine aH ?_ | refine aP_E11 ?_ | refine aI ?_ | refine aJ ?_ | refine aW (.qs [0, 1, 2, 3, 7] (.l 4 [1, 0] (.l 5 [] (.qs [6] .nil) .no) .no)) ?_ | fail); all_goals try (conv => whnf)
      refine CondOb.mk (fun hlt3 => ?_) (fun hlt3 => ?_)
      · obtain ⟨w, hw, hgw⟩ : ∃ w : CI, w.1.length ≤ 1000 ∧ ([cr (g.1, g.2.1, g.2.2), cr other] : List (List SV))[z]? = some (cr w) := by
          rcases (show z = 0 ∨ z = 1 by omega) with h | h <;> subst h
          · exact ⟨(g.1, g.2.1, g.2.2), by dsimp only; omega, rfl⟩
          · exact ⟨other, by omega, rfl⟩
        (repeat' (conv => whnf); first | refine ⟨z, _, rfl, hgw, ?_⟩ | (refine aC (fun _ => ?_) (fun _ => ?_) <;> try (exfalso; omega)) | refine aS ?_ | refine aG ?_ | refine aD ?_ | refine aH ?_ | refine aP_E11 ?_ | refine aI ?_ | refine aJ ?_ | refine aW (.qs [0, 1, 2, 3, 7] (.l 4 [1, 0] (.l 5 [] (.qs [6] .nil) .no) .no)) ?_ | fail); all_goals try (conv => whnf)
        refine CallOb.mk [] (OutP_ok w.1 w.2.1 w.2.2 u.1 u.2.1 u.2.2 m (by omega) (by omega)) rfl (ImpL.refl _) rfl rfl ?_
        rintro _ _ ⟨⟨y1, y2, y3, e1⟩, hx1, rfl, rfl⟩
        (repeat' (conv => whnf); first | (refine aC (fun _ => ?_) (fun _ => ?_) <;> try (exfalso; omega)) | refine aS ?_ | refine aG ?_ | refine aD ?_ | refine aH ?_ | refine aP_E11 ?_ | refine aI ?_ | refine aJ ?_ | refine aW (.qs [0, 1, 2, 3, 7] (.l 4 [1, 0] (.l 5 [] (.qs [6] .nil) .no) .no)) ?_ | fail); all_goals try (conv => whnf)
        refine CallOb.mk [] (rOut_ok w.1 w.2.1 w.2.2 u.1 u.2.1 u.2.2 m) rfl (ImpL.refl _) rfl rfl ?_
        rintro _ _ ⟨y, hy1, rfl, rfl⟩
        have := hy1.uniq hx1
        subst this
        have hyl := out_len hx1
        dsimp only at hyl ⊢
        (repeat' (conv => whnf); first | (refine CondOb.mk (fun h' => ?_) (fun h' => ?_) <;> first | (exfalso; first | omega | exact h' rfl | exact h' ⟨rfl, rfl, rfl⟩ | (simp at h'; done)) | skip) | (refine aC (fun _ => ?_) (fun _ => ?_) <;> try (exfalso; omega)) | refine aS ?_ | refine aG ?_ | refine aD ?_ | refine aH ?_ | refine aP_E11 ?_ | refine aI ?_ | refine aJ ?_ | refine aW (.qs [0, 1, 2, 3, 7] (.l 4 [1, 0] (.l 5 [] (.qs [6] .nil) .no) .no)) ?_ | (refine aK [] (Same_ok y1 y1 y2 y3 y2 y3 (by omega)) ?_) | fail); all_goals try (conv => whnf)
        exact ⟨(z + 1, (y1, y2, y3), (y1, y2, y3)), [0, 1, 2, 3, 4, 5], by dsimp only; omega, by dsimp only; omega, by (exact aL)⟩
      (repeat' (conv => whnf); first | (refine aC (fun _ => ?_) (fun _ => ?_) <;> try (exfalso; omega)) | refine aS ?_ | refine aG ?_ | refine aD ?_ | refine aH ?_ | refine aP_E11 ?_ | refine aI ?_ | refine aJ ?_ | refine aW (.qs [0, 1, 2, 3, 7] (.l 4 [1, 0] (.l 5 [] (.qs [6] .nil) .no) .no)) ?_ | fail); all_goals try (conv => whnf)
      exact ⟨j + 1, [0, 1, 2, 3], by omega, by omega, by (exact aL)⟩
    (repeat' (conv => whnf); first | (refine aC (fun _ => ?_) (fun _ => ?_) <;> try (exfalso; omega)) | refine aS ?_ | refine aG ?_ | refine aD ?_ | refine aH ?_ | refine aP_E11 ?_ | refine aI ?_ | refine aJ ?_ | refine aW (.qs [0, 1, 2, 3, 7] (.l 4 [1, 0] (.l 5 [] (.qs [6] .nil) .no) .no)) ?_ | fail); all_goals try (conv => whnf)
    exact ⟨(i + 1, k2), [0, 1, 2], ⟨by dsimp only; omega, hk2⟩, by dsimp only; omega, by (exact aL)⟩
  clear hf hg hq f1 f2 g2 fb hk1 hk2 hk3 hi hlt
  (repeat' (conv => whnf); first | (refine aC (fun _ => ?_) (fun _ => ?_) <;> try (exfalso; omega)) | refine aS ?_ | refine aG ?_ | refine aD ?_ | refine aH ?_ | refine aP_E11 ?_ | refine aI ?_ | refine aJ ?_ | refine aW (.qs [0, 1, 2, 3, 7] (.l 4 [1, 0] (.l 5 [] (.qs [6] .nil) .no) .no)) ?_ | fail); all_goals try (conv => whnf)
  refine CallOb.mk [0] (Traffic_ok _ k hL hk 12 (by omega) 3 20 (by omega) (by omega)) rfl (ImpL.refl _) rfl rfl ?_
  rintro _ _ ⟨⟨⟨Q, tq⟩, k1⟩, ⟨⟨hQ, hQl⟩, hk1⟩, rfl, rfl⟩
  dsimp only at hQ hQl hk1 ⊢
  have hQt : ∀ x ∈ Q, 0 ≤ x.t ∧ x.t ≤ 100000 := fun x hx => by
    have h1 := hQ.b x hx
    have h2 := hQ.t
    omega
  (repeat' (conv => whnf); first | (refine aC (fun _ => ?_) (fun _ => ?_) <;> try (exfalso; omega)) | refine aS ?_ | refine aG ?_ | refine aD ?_ | refine aH ?_ | refine aP_E11 ?_ | refine aI ?_ | refine aJ ?_ | refine aW (.qs [0, 1, 2, 3, 7] (.l 4 [1, 0] (.l 5 [] (.qs [6] .nil) .no) .no)) ?_ | fail); all_goals try (conv => whnf)
  refine CallOb.mk [0] (Broken_ok _ k1 hL hk1 Q (by omega)) rfl (ImpL.refl _) rfl rfl ?_
  rintro _ _ ⟨⟨b, k2⟩, ⟨hb, hk2⟩, rfl, rfl⟩
  dsimp only at hb hk2 ⊢
  (repeat' (conv => whnf); first | refine LitOb.ful ?_ | (refine aC (fun _ => ?_) (fun _ => ?_) <;> try (exfalso; omega)) | refine aS ?_ | refine aG ?_ | refine aD ?_ | refine aH ?_ | refine aP_E11 ?_ | refine aI ?_ | refine aJ ?_ | refine aW (.qs [0, 1, 2, 3, 7] (.l 4 [1, 0] (.l 5 [] (.qs [6] .nil) .no) .no)) ?_ | fail); all_goals try (conv => whnf)
  clear hk hk1 hQ
  refine LoopOb.mk (Y := Nat × Nat) (st := fun y => ⟨[(173, i64 y.1), (172, i64 3), (171, .ful 1 [[.psl 3 (pks p)], [.psl 3 (pks Q)], [.psl 3 (pks b)]]), (26, .psl 3 (pks Q)), (13, .ptr 0 0), (3, .psl 1 (ints done)), (4, i64 n)], [src (l.take 2000) y.2]⟩)
    (inv := fun y => y.1 ≤ 3 ∧ y.2 ≤ 2000) (fun y => 3 - y.1) (0, k2) [0] ⟨by simp, hk2⟩ (by (exact aL)) ?_
  rintro ⟨i, k⟩ ⟨hi, hk⟩
  dsimp only at hi hk ⊢
  (repeat' (conv => whnf); first | refine aS ?_ | refine aG ?_ | refine aD ?_ | refine aH ?_ | refine aP_E11 ?_ | refine aI ?_ | refine aJ ?_ | refine aW (.qs [0, 1, 2, 3, 7] (.l 4 [1, 0] (.l 5 [] (.qs [6] .nil) .no) .no)) ?_ | fail); all_goals try (conv => whnf)
  refine CondOb.mk (fun hlt => ?_) (fun hlt => ?_)
  · obtain ⟨x, hx, hgx⟩ : ∃ x : List Pk, x.length ≤ 100 ∧ ([[.psl 3 (pks p)], [.psl 3 (pks Q)], [.psl 3 (pks b)]] : List (List SV))[i]? = some [.psl 3 (pks x)] := by
      rcases (show i = 0 ∨ i = 1 ∨ i = 2 by omega) with h | h | h <;> subst h
      · exact ⟨p, by omega, rfl⟩
      · exact ⟨Q, by omega, rfl⟩
      · exact ⟨b, hb, rfl⟩
    (repeat' (conv => whnf); first | refine ⟨i, _, rfl, hgx, ?_⟩ | (refine aC (fun _ => ?_) (fun _ => ?_) <;> try (exfalso; omega)) | refine aS ?_ | refine aG ?_ | refine aD ?_ | refine aH ?_ | refine aP_E11 ?_ | refine aI ?_ | refine aJ ?_ | refine aW (.qs [0, 1, 2, 3, 7] (.l 4 [1, 0] (.l 5 [] (.qs [6] .nil) .no) .no)) ?_ | fail); all_goals try (conv => whnf)
    refine CallOb.mk [0] (finish_ok _ k hL hk Q (by omega) hQt) rfl (ImpL.refl _) rfl rfl ?_
    rintro _ _ ⟨⟨fn, k1⟩, ⟨hfn, hk1⟩, rfl, rfl⟩
    dsimp only at hfn hk1 ⊢
    (repeat' (conv => whnf); first | refine LitOb.ful ?_ | (refine aC (fun _ => ?_) (fun _ => ?_) <;> try (exfalso; omega)) | refine aS ?_ | refine aG ?_ | refine aD ?_ | refine aH ?_ | refine aP_E11 ?_ | refine aI ?_ | refine aJ ?_ | refine aW (.qs [0, 1, 2, 3, 7] (.l 4 [1, 0] (.l 5 [] (.qs [6] .nil) .no) .no)) ?_ | fail); all_goals try (conv => whnf)
    refine LoopOb.mk (Y := Nat) (st := fun z => ⟨[(183, i64 z), (182, i64 2), (181, .ful 1 [[.psl 1 (ints done)], [.psl 1 (ints fn)]]), (28, .psl 3 (pks x)), (173, i64 i), (172, i64 3), (171, .ful 1 [[.psl 3 (pks p)], [.psl 3 (pks Q)], [.psl 3 (pks b)]]), (26, .psl 3 (pks Q)), (13, .ptr 0 0), (3, .psl 1 (ints done)), (4, i64 n)], [src (l.take 2000) k1]⟩)
      (inv := fun z => z ≤ 2) (fun z => 2 - z) 0 [0] (by omega) (by (exact aL)) ?_
    intro z hz
    (repeat' (conv => whnf); first | refine aS ?_ | refine aG ?_ | refine aD ?_ | refine aH ?_ | refine aP_E11 ?_ | refine aI ?_ | refine aJ ?_ | refine aW (.qs [0, 1, 2, 3, 7] (.l 4 [1, 0] (.l 5 [] (.qs [6] .nil) .no) .no)) ?_ | fail); all_goals try (conv => whnf)
    refine CondOb.mk (fun hlt2 => ?_) (fun hlt2 => ?_)
    · obtain ⟨d, hd', hgd⟩ : ∃ d : List Int, d.length ≤ 100 ∧ ([[.psl 1 (ints done)], [.psl 1 (ints fn)]] : List (List SV))[z]? = some [.psl 1 (ints d)] := by
        rcases (show z = 0 ∨ z = 1 by omega) with h | h <;> subst h
        · exact ⟨done, by omega, rfl⟩
        · exact ⟨fn, hfn, rfl⟩
      (repeat' (conv => whnf); first | refine ⟨z, _, rfl, hgd, ?_⟩ | (refine aC (fun _ => ?_) (fun _ => ?_) <;> try (exfalso; omega)) | refine aS ?_ | refine aG ?_ | refine aD ?_ | refine aH ?_ | refine aP_E11 ?_ | refine aI ?_ | refine aJ ?_ | refine aW (.qs [0, 1, 2, 3, 7] (.l 4 [1, 0] (.l 5 [] (.qs [6] .nil) .no) .no)) ?_ | fail); all_goals try (conv => whnf)
      refine CallOb.mk [] (ForwardG_ok x d (by omega) (by omega)) rfl (ImpL.refl _) rfl rfl ?_
      rintro _ _ ⟨⟨X1, X2, e1⟩, hX, rfl, rfl⟩
      (repeat' (conv => whnf); first | (refine aC (fun _ => ?_) (fun _ => ?_) <;> try (exfalso; omega)) | refine aS ?_ | refine aG ?_ | refine aD ?_ | refine aH ?_ | refine aP_E11 ?_ | refine aI ?_ | refine aJ ?_ | refine aW (.qs [0, 1, 2, 3, 7] (.l 4 [1, 0] (.l 5 [] (.qs [6] .nil) .no) .no)) ?_ | fail); all_goals try (conv => whnf)
      refine CallOb.mk [] (rForwardG_ok x d (by omega) (by omega)) rfl (ImpL.refl _) rfl rfl ?_
      rintro _ _ ⟨Y, hY, rfl, rfl⟩
      have := hY.trans hX.symm
      subst this
      have hXl := fwd_len hX
      dsimp only at hXl ⊢
      (repeat' (conv => whnf); first | (refine aC (fun _ => ?_) (fun _ => ?_) <;> try (exfalso; omega)) | refine aS ?_ | refine aG ?_ | refine aD ?_ | refine aH ?_ | refine aP_E11 ?_ | refine aI ?_ | refine aJ ?_ | refine aW (.qs [0, 1, 2, 3, 7] (.l 4 [1, 0] (.l 5 [] (.qs [6] .nil) .no) .no)) ?_ | fail); all_goals try (conv => whnf)
      refine CallOb.mk [] (DelaysG_ok x d (by omega) (by omega)) rfl (ImpL.refl _) rfl rfl ?_
      rintro _ _ ⟨⟨D1, e2⟩, hD, rfl, rfl⟩
      (repeat' (conv => whnf); first | (refine aC (fun _ => ?_) (fun _ => ?_) <;> try (exfalso; omega)) | refine aS ?_ | refine aG ?_ | refine aD ?_ | refine aH ?_ | refine aP_E11 ?_ | refine aI ?_ | refine aJ ?_ | refine aW (.qs [0, 1, 2, 3, 7] (.l 4 [1, 0] (.l 5 [] (.qs [6] .nil) .no) .no)) ?_ | fail); all_goals try (conv => whnf)
      refine CallOb.mk [] (rDelaysG_ok x d (by omega) (by omega)) rfl (ImpL.refl _) rfl rfl ?_
      rintro _ _ ⟨Y, hY2, rfl, rfl⟩
      have := hY2.trans hD.symm
      subst this
      have hDl := del_len hD
      dsimp only at hDl ⊢
      (repeat' (conv => whnf); first | (refine CondOb.mk (fun h' => ?_) (fun h' => ?_) <;> first | (exfalso; first | omega | exact h' rfl | (simp at h'; done)) | skip) | (refine aC (fun _ => ?_) (fun _ => ?_) <;> try (exfalso; omega)) | refine aS ?_ | refine aG ?_ | refine aD ?_ | refine aH ?_ | refine aP_E11 ?_ | refine aI ?_ | refine aJ ?_ | refine aW (.qs [0, 1, 2, 3, 7] (.l 4 [1, 0] (.l 5 [] (.qs [6] .nil) .no) .no)) ?_ | (refine aK [] (pSame_ok X1 X1 (by omega)) ?_) | (refine aK [] (rInts_ok X2 X2 (by omega)) ?_) | (refine aK [] (rInts_ok D1 D1 (by omega)) ?_) | fail); all_goals try (conv => whnf)
      exact ⟨z + 1, [0], by omega, by omega, by (exact aL)⟩
    (repeat' (conv => whnf); first | (refine aC (fun _ => ?_) (fun _ => ?_) <;> try (exfalso; omega)) | refine aS ?_ | refine aG ?_ | refine aD ?_ | refine aH ?_ | refine aP_E11 ?_ | refine aI ?_ | refine aJ ?_ | refine aW (.qs [0, 1, 2, 3, 7] (.l 4 [1, 0] (.l 5 [] (.qs [6] .nil) .no) .no)) ?_ | fail); all_goals try (conv => whnf)
    refine CallOb.mk [0] (N_ok _ k1 hL hk1 200 (by omega) (by omega)) rfl (ImpL.refl _) rfl rfl ?_
    rintro _ _ ⟨⟨a, k2⟩, ⟨ha1, ha2, hk2⟩, rfl, rfl⟩
    dsimp only at ha1 ha2 hk2 ⊢
    (repeat' (conv => whnf); first | refine LitOb.ful ?_ | (refine aC (fun _ => ?_) (fun _ => ?_) <;> try (exfalso; omega)) | refine aS ?_ | refine aG ?_ | refine aD ?_ | refine aH ?_ | refine aP_E11 ?_ | refine aI ?_ | refine aJ ?_ | refine aW (.qs [0, 1, 2, 3, 7] (.l 4 [1, 0] (.l 5 [] (.qs [6] .nil) .no) .no)) ?_ | fail); all_goals try (conv => whnf)

    refine LoopOb.mk (Y := Nat × Nat) (st := fun w => ⟨[(245, i64 w.1), (244, i64 3), (243, .ful 1 [[i64 n], [i64 a], [i64 (-1)]]), (28, .psl 3 (pks x)), (173, i64 i), (172, i64 3), (171, .ful 1 [[.psl 3 (pks p)], [.psl 3 (pks Q)], [.psl 3 (pks b)]]), (26, .psl 3 (pks Q)), (13, .ptr 0 0), (3, .psl 1 (ints done)), (4, i64 n)], [src (l.take 2000) w.2]⟩)
      (inv := fun w => w.1 ≤ 3 ∧ w.2 ≤ 2000) (fun w => 3 - w.1) (0, k2) [0] ⟨by simp, hk2⟩ (by (exact aL)) ?_
    rintro ⟨w, k⟩ ⟨hw, hk⟩
    dsimp only at hw hk ⊢
    (repeat' (conv => whnf); first | refine aS ?_ | refine aG ?_ | refine aD ?_ | refine aH ?_ | refine aP_E11 ?_ | refine aI ?_ | refine aJ ?_ | refine aW (.qs [0, 1, 2, 3, 7] (.l 4 [1, 0] (.l 5 [] (.qs [6] .nil) .no) .no)) ?_ | fail); all_goals try (conv => whnf)
    refine CondOb.mk (fun hlt3 => ?_) (fun hlt3 => ?_)
    · obtain ⟨m, hgm⟩ : ∃ m : Int, ([[i64 n], [i64 a], [i64 (-1)]] : List (List SV))[w]? = some [i64 m] := by
        rcases (show w = 0 ∨ w = 1 ∨ w = 2 by omega) with h | h | h <;> subst h
        · exact ⟨n, rfl⟩
        · exact ⟨a, rfl⟩
        · exact ⟨-1, rfl⟩
      (repeat' (conv => whnf); first | refine ⟨w, _, rfl, hgm, ?_⟩ | (refine aC (fun _ => ?_) (fun _ => ?_) <;> try (exfalso; omega)) | refine aS ?_ | refine aG ?_ | refine aD ?_ | refine aH ?_ | refine aP_E11 ?_ | refine aI ?_ | refine aJ ?_ | refine aW (.qs [0, 1, 2, 3, 7] (.l 4 [1, 0] (.l 5 [] (.qs [6] .nil) .no) .no)) ?_ | fail); all_goals try (conv => whnf)
      refine CallOb.mk [0] (N_ok _ k hL hk 5 (by omega) (by omega)) rfl (ImpL.refl _) rfl rfl ?_
      rintro _ _ ⟨⟨c, k4⟩, ⟨hc1, hc2, hk4⟩, rfl, rfl⟩
      dsimp only at hc1 hc2 hk4 ⊢
      have cW := WholeG_ok x (by omega) (c - 2) m
      have crW := rWhole_ok x (by omega) (c - 2) m
      generalize whG x (c - 2) m = W at *
      (repeat' (conv => whnf); first | (refine CondOb.mk (fun h' => ?_) (fun h' => ?_) <;> first | (exfalso; first | omega | exact h' rfl) | skip) | (refine aC (fun _ => ?_) (fun _ => ?_) <;> try (exfalso; omega)) | refine aS ?_ | refine aG ?_ | refine aD ?_ | refine aH ?_ | refine aP_E11 ?_ | refine aI ?_ | refine aJ ?_ | refine aW (.qs [0, 1, 2, 3, 7] (.l 4 [1, 0] (.l 5 [] (.qs [6] .nil) .no) .no)) ?_ | (refine aK [] cW ?_) | (refine aK [] crW ?_) | fail); all_goals try (conv => whnf)
      exact ⟨(w + 1, k4), [0], ⟨by dsimp only; omega, hk4⟩, by dsimp only; omega, by (exact aL)⟩
    (repeat' (conv => whnf); first | (refine aC (fun _ => ?_) (fun _ => ?_) <;> try (exfalso; omega)) | refine aS ?_ | refine aG ?_ | refine aD ?_ | refine aH ?_ | refine aP_E11 ?_ | refine aI ?_ | refine aJ ?_ | refine aW (.qs [0, 1, 2, 3, 7] (.l 4 [1, 0] (.l 5 [] (.qs [6] .nil) .no) .no)) ?_ | fail); all_goals try (conv => whnf)
    exact ⟨(i + 1, k), [0], ⟨by dsimp only; omega, hk⟩, by dsimp only; omega, by (exact aL)⟩
  (repeat' (conv => whnf); first | (refine aC (fun _ => ?_) (fun _ => ?_) <;> try (exfalso; omega)) | refine aS ?_ | refine aG ?_ | refine aD ?_ | refine aH ?_ | refine aP_E11 ?_ | refine aI ?_ | refine aJ ?_ | refine aW (.qs [0, 1, 2, 3, 7] (.l 4 [1, 0] (.l 5 [] (.qs [6] .nil) .no) .no)) ?_ | (refine aK [] (awake15_ok) ?_) | fail); all_goals try (conv => whnf)
  rfl
end Go.Proofs.Ytifcdempdcolkab
