/-
  A text of the proofs of this seat: lemmas that the statements' proofs use; it states nothing of the program by itself beyond the contracts that its theorems bear. Conditions: those that stand in each theorem. Its short name: X7.
-/
import Derived.Test.YtnlmmjmcackgjaaX6
import Derived.Test.YtnlmmjmcackgjaaPl
import Derived.Test.YtnlmmjmcackgjaaV2
set_option linter.unusedVariables false
set_option linter.unusedSimpArgs false
namespace Go.Proofs.Ytnlmmjmcackgjaa
open Go.Sx Go.Np Go.Cv Go.Tp Go.Fq
set_option maxRecDepth 4000
set_option maxHeartbeats 2000000
theorem div12 : ∀ p : Nat, p < 13 → 1 ≤ p → ((p : Nat) : Int) ∣ 27720 ∧ (0 : Int) ≤ 27720 / ((p : Nat) : Int) ∧ 27720 / ((p : Nat) : Int) ≤ 27720 := by decide +kernel
theorem _root_.Go.Np.NtS.rn {n : Nt} (g : NtS n) : RN n := ⟨g.chk, fun i hi => by
  obtain ⟨b, _, _, p1, p2, _, q1, q2⟩ := (g.fg i hi).ct
  generalize n.fl.getD i fl0 = f at *
  obtain ⟨p, hp⟩ := Int.eq_ofNat_of_zero_le (show 0 ≤ f.p by omega)
  obtain ⟨d1, d2, d3⟩ := div12 p (by omega) (by omega)
  rw [hp]
  refine ⟨d1, q1, ?_⟩
  have := Int.mul_le_mul q2 d3 d2 (by omega)
  omega⟩
theorem _root_.Go.Np.NtS.nls {n : Nt} (g : NtS n) : NL n := by
  refine ⟨by rw [g.nl]; have := g.ll; omega, by have := g.ll; omega, by have := g.fl; omega, fun s hs => ?_, fun l hl => ?_, fun f hf => ?_⟩
  · obtain ⟨i, hi, rfl⟩ := List.mem_iff_getElem.1 hs
    have := g.nm i (by rw [← g.nl]; exact hi)
    rw [List.getD_eq_getElem?_getD, List.getElem?_eq_getElem hi, Option.getD_some] at this
    rw [this]; simp [lname, ByteArray.size]
  · obtain ⟨i, hi, rfl⟩ := List.mem_iff_getElem.1 hl
    obtain ⟨c, _, _, h⟩ := g.le i hi
    rw [List.getD_eq_getElem?_getD, List.getElem?_eq_getElem hi, Option.getD_some] at h
    rw [h]; simp
  · obtain ⟨i, hi, rfl⟩ := List.mem_iff_getElem.1 hf
    have := g.fg i hi
    have hn := g.fn i hi
    rw [List.getD_eq_getElem?_getD, List.getElem?_eq_getElem hi, Option.getD_some] at hn this
    have h1 := this.r1
    obtain ⟨b, _, _, p1, p2, hv, _⟩ := this.ct
    refine ⟨by rw [hn]; simp [fname, ByteArray.size], by omega, by rw [hv]; simp; omega⟩
theorem users_congr {n m : Nt} (hl : m.fl.length = n.fl.length) (h : ∀ i, i < n.fl.length → (m.fl.getD i fl0).rt = (n.fl.getD i fl0).rt) (l : Int) : users m l = users n l := by
  have hh : ∀ i : Nat, i < n.fl.length → hop m i l = hop n i l := fun i hi => by
    unfold hop; rw [hl, Int.toNat_natCast, h i hi]
  have : ∀ i : Nat, i ≤ n.fl.length → usr m l i = usr n l i := by
    intro i
    induction i with
    | zero => intro _; rfl
    | succ i ih => intro hi; simp only [usr]; rw [ih (by omega), hh i (by omega)]
  unfold users; rw [hl]; exact this _ (Nat.le_refl _)
theorem wsum_congr {n m : Nt} (h : ∀ i, i < n.fl.length → uwt (m.fl.getD i fl0) = uwt (n.fl.getD i fl0)) : ∀ l : List Int, (∀ x ∈ l, 0 ≤ x ∧ x < n.fl.length) → wsum m l = wsum n l
  | [], _ => rfl
  | x :: l, hx => by
    have := hx x (by simp)
    simp only [wsum]
    rw [h x.toNat (by omega), wsum_congr h l (fun y hy => hx y (List.mem_cons_of_mem _ hy))]
/- what the three nets have in common -/
structure Three (n : Nt) (cs : List Int) (b : Int) : Prop where
  a : NtS (netA n cs)
  m : NtS (netM n cs b)
  z : NtS (netZ n cs)
theorem Three.used {n : Nt} {cs : List Int} {b : Int} (h : Three n cs b) {i : Nat} (hi : i < cs.length) : usedP (netM n cs b) i = usedP (netA n cs) i := by
  have hi' : i < (cs.map lfC).length := by rw [List.length_map]; exact hi
  have hA : (netA n cs).fl.length = n.fl.length := List.length_map _
  have hM : (netM n cs b).fl.length = n.fl.length := List.length_map _
  have hga : ∀ j, j < n.fl.length → (netA n cs).fl.getD j fl0 = cl0 (n.fl.getD j fl0) := fun j hj => getD_mapF hj
  have hgm : ∀ j, j < n.fl.length → (netM n cs b).fl.getD j fl0 = rsF b (cl0 (n.fl.getD j fl0)) := fun j hj => getD_mapF hj
  have e1 := (used_fr h.m.rn (l := i) hi').1
  have e2 := (used_fr h.a.rn (l := i) hi').1
  have hu : users (netM n cs b) i = users (netA n cs) i := users_congr (by rw [hA, hM]) (fun j hj => by rw [hA] at hj; rw [hga j hj, hgm j hj]; rfl) _
  have hw : wsum (netM n cs b) (users (netA n cs) i) = wsum (netA n cs) (users (netA n cs) i) := wsum_congr (fun j hj => by rw [hA] at hj; rw [hga j hj, hgm j hj]; rfl) _ (fun x hx => by have := users_bd hx; omega)
  rw [e1, e2, hu, hw]
theorem Three.over {n : Nt} {cs : List Int} {b : Int} (h : Three n cs b) : overP (netM n cs b) = overP (netA n cs) := by
  have e1 := h.m.chk
  have e2 := h.a.chk
  unfold overP
  rw [if_neg (by omega), if_neg (by omega)]
  have hl : (netA n cs).ln.length = cs.length := List.length_map _
  exact ovS_congr (n := netA n cs) (m := netM n cs b) rfl (fun i hi => h.used (by omega)) _ (Nat.le_refl _)
theorem Three.zused {n : Nt} {cs : List Int} {b : Int} (h : Three n cs b) {i : Nat} (hi : i < cs.length) : usedP (netZ n cs) i = (0, 1, 0) := by
  have hi' : i < (cs.map lfC).length := by rw [List.length_map]; exact hi
  have e1 := (used_fr h.z.rn (l := i) hi').1
  have hu : users (netZ n cs) i = [] := rfl
  rw [e1, hu]
  show ((fr 0).num, ((fr 0).den : Int), 0) = _
  decide +kernel
theorem Three.zover {n : Nt} {cs : List Int} {b : Int} (h : Three n cs b) : overP (netZ n cs) = ([], 0) := by
  have hc := h.z.chk
  have hl : (netZ n cs).ln.length = cs.length := List.length_map _
  obtain ⟨h1, h2⟩ := over_fr h.z.rn (netZ n cs).ln.length (Nat.le_refl _)
  have hO : overP (netZ n cs) = ovS (netZ n cs) (netZ n cs).ln.length := by unfold overP; rw [if_neg (by omega)]
  rw [hO]
  have he : (ovS (netZ n cs) (netZ n cs).ln.length).1 = [] := by
    rw [List.eq_nil_iff_forall_not_mem]
    intro x hx
    obtain ⟨j, hj, _, hcc⟩ := (h2 x).1 hx
    rw [h.zused (i := j) (by omega)] at hcc
    obtain ⟨c, c1, c2, e⟩ := h.z.le j hj
    rw [e] at hcc
    dsimp only at hcc
    omega
  exact Prod.ext he h1
abbrev lnw (c : Int) : List SV := [i64 1, i64 c, i64 1, .nil, .nil]
theorem lnw_imp : ∀ cs : List Int, ImpR (cs.map lnw) (lns (cs.map lfC))
  | [] => trivial
  | _ :: cs => ⟨⟨Imp.refl _, Imp.refl _, Imp.refl _, Imp.nil _, Imp.nil _, trivial⟩, lnw_imp cs⟩
/- the lines, up to some that are new -/
abbrev lnx (cs : List Int) (l : List Ln) : List (List SV) := cs.map lnw ++ (lns l).drop cs.length
theorem lnx_len {cs : List Int} {l : List Ln} (h : cs.length ≤ l.length) : (lnx cs l).length = l.length := by
  simp only [lnx, List.length_append, List.length_map, List.length_drop, lnl]; omega
theorem lnx_set {cs : List Int} {l : List Ln} (h : cs.length < l.length) (c : Int) : (lnx cs l).set cs.length (lnw c) = lnx (cs ++ [c]) l := by
  have hd : (lns l).drop cs.length = (lns l)[cs.length]'(by rw [lnl]; exact h) :: (lns l).drop (cs.length + 1) := List.drop_eq_getElem_cons _
  simp only [lnx]
  rw [hd, List.set_append_right _ _ (by simp)]
  simp
theorem lnx_get {cs : List Int} {l : List Ln} (h : cs.length < l.length) : (lnx cs l)[cs.length]? = some (lnv (l.getD cs.length ln0)) := by
  simp only [lnx]
  rw [List.getElem?_append_right (by simp), List.getElem?_drop]
  simp only [List.length_map, Nat.sub_self, Nat.add_zero]
  exact lng h
structure FlI (f : Fl → Fl) (l X : List Fl) (i : Nat) : Prop where
  len : X.length = l.length
  le : i ≤ l.length
  lo : ∀ j, j < i → X.getD j fl0 = f (l.getD j fl0)
  hi : ∀ j, i ≤ j → j < l.length → X.getD j fl0 = l.getD j fl0
theorem FlI.init (f : Fl → Fl) (l : List Fl) : FlI f l l 0 := ⟨rfl, by omega, fun j hj => by omega, fun j _ _ => rfl⟩
theorem FlI.step {f : Fl → Fl} {l X : List Fl} {i : Nat} (h : FlI f l X i) (hi : i < l.length) : FlI f l (X.set i (f (l.getD i fl0))) (i + 1) := by
  have h1 := h.len
  refine ⟨by rw [List.length_set]; exact h1, by omega, fun j hj => ?_, fun j h2 h3 => ?_⟩
  · by_cases e : j = i
    · subst e; simp [List.getD_eq_getElem?_getD, show j < X.length by omega]
    · rw [← h.lo j (by omega)]
      simp [List.getD_eq_getElem?_getD, List.getElem?_set_ne (show i ≠ j by omega)]
  · rw [← h.hi j (by omega) h3]
    simp [List.getD_eq_getElem?_getD, List.getElem?_set_ne (show i ≠ j by omega)]
theorem FlI.done {f : Fl → Fl} {l X : List Fl} {i : Nat} (h : FlI f l X i) (hi : i = l.length) : X = l.map f := by
  have h1 := h.len
  apply List.ext_getElem (by rw [List.length_map]; exact h1)
  intro j h2 h3
  have := h.lo j (by omega)
  rw [List.getD_eq_getElem?_getD, List.getElem?_eq_getElem h2, Option.getD_some, List.getD_eq_getElem?_getD, List.getElem?_eq_getElem (show j < l.length by omega), Option.getD_some] at this
  rw [this, List.getElem_map]
theorem fls_set7 (l : List Fl) (i : Nat) (f : Fl) : (fls l).set i (flv f) = fls (l.set i f) := by simp [fls, List.map_set]
/- the values of a contract while a burst is added -/
def vst (c b : Int) (p k : Nat) : List Int := 0 :: (List.replicate k (c + b) ++ List.replicate (p - k) c)
theorem vst_len {c b : Int} {p k : Nat} (h : k ≤ p) : (vst c b p k).length = p + 1 := by simp [vst]; omega
theorem vst_get {c b : Int} {p k : Nat} (h : k < p) : (vst c b p k).getD (k + 1) 0 = c := by
  simp [vst, List.getD_eq_getElem?_getD, List.getElem?_append_right, h, show 0 < p - k by omega]
theorem vst_set {c b : Int} {p k : Nat} (h : k < p) : (vst c b p k).set (k + 1) (c + b) = vst c b p (k + 1) := by
  have e : p - k = (p - (k + 1)) + 1 := by omega
  simp only [vst, List.set_cons_succ]
  rw [e, List.replicate_succ (n := p - (k + 1)), List.set_append_right _ _ (by simp), List.length_replicate, Nat.sub_self, List.set_cons_zero, List.replicate_succ' (n := k), List.append_assoc]
  rfl
theorem vst_zero (c b : Int) (p : Nat) : vst c b p 0 = 0 :: List.replicate p c := by simp [vst]
theorem vst_full (c b : Int) (p : Nat) : vst c b p p = 0 :: List.replicate p (c + b) := by simp [vst]
theorem ints_set7 (l : List Int) (i : Nat) (x : Int) : (ints l).set i [i64 x] = ints (l.set i x) := by simp [ints, List.map_set]
theorem Overl_ok (l : List Int) (hl : l.length ≤ 9223372036854775807) (b : Int) (b0 : 0 ≤ b ∧ b ≤ 255) : Ctr Try.prog 10 [.psl 1 (ints l), .num .u8 b] [] (fun r o => r = .bl true) := by
  refine fn_intro (E := env 0) tys_ok rfl rfl rfl Try.func10 (by kernel_rfl) rfl (by kernel_rfl) ?_
  have hL : (l.take 2000).length ≤ 2000 := by rw [List.length_take]; omega
  repeat' (conv => whnf
           first | (refine CondOb.mk (fun _ => ?_) (fun _ => ?_) <;> first | (exfalso; omega) | skip) | refine ArOb.fits (by first | omega | (simp only [ints_len] at *; omega)) ?_ | refine LitOb.vec ?_ | refine MakeOb.vec ?_ | refine AllocOb.box ?_ | refine AsgOb.vec ?_ | refine AggOb.mk (by decide +kernel) ?_ | refine ArU.fits (by first | omega | (simp only [ints_len] at *; omega)) ?_ | refine ArB.fits (by first | omega | (simp only [ints_len] at *; omega)) ?_ | refine CutOb.split ?_ | refine Gh.mk [] ?_ | refine And.intro (And.intro (by (simp only [List.length_append, List.length_take, List.length_drop, List.length_cons, List.length_nil, ints_len, List.length_replicate, lnl, fll, stl]; omega)) (by (simp only [List.length_append, List.length_take, List.length_drop, List.length_cons, List.length_nil, ints_len, List.length_replicate, lnl, fll, stl]; omega))) ?_ | refine ⟨_, _, rfl, ints_get (by first | omega | (simp only [ints_len] at *; omega)), ?_⟩ | refine ⟨_, _, (Int.toNat_of_nonneg (by first | omega | (simp only [ints_len] at *; omega))).symm, ints_get (by first | omega | (simp only [ints_len] at *; omega)), ?_⟩ | refine DrawOb.mk [] (.qs [0, 1, 2, 3] (.l 4 [1] (.qs [5, 6] (.l 7 [] .nil .no)) .no)) (by decide +kernel) ?_ | refine DrawOb.mk [] (.qs [0, 1, 2, 3, 4, 5, 6, 7, 8, 9, 10, 11, 12, 13, 15, 16, 17, 18, 19, 20, 21, 22, 23, 24, 25, 26] (.l 14 [24, 22, 18, 16] (.qs [27, 28] .nil) .no)) (by decide +kernel) ?_ | (refine CallOb.mk [] (sane_ok) rfl (ImpL.refl _) rfl rfl ?_; rintro _ _ ⟨rfl, rfl⟩) | (refine CallOb.mk [] (New_ok l hl) rfl (ImpL.refl _) rfl rfl ?_; rintro _ _ ⟨rfl, rfl⟩) | fail)
  all_goals try (conv => whnf)
  · rfl
  refine CallOb.mk [0] (NetO_ok _ 0 hL (by omega) 3 4 (by omega) (by omega)) rfl (ImpL.refl _) rfl rfl ?_
  rintro _ _ ⟨⟨n, k, p1⟩, ⟨hG, hp1⟩, rfl, rfl⟩
  dsimp only at hG hp1 ⊢
  have g := hG.g
  have g2 := g.ll
  have g3 := g.fl
  have hll := lnl n.ln
  have hfl := fll n.fl
  repeat' (conv => whnf
           first | (refine CondOb.mk (fun _ => ?_) (fun _ => ?_) <;> first | (exfalso; omega) | skip) | refine ArOb.fits (by first | omega | (simp only [ints_len] at *; omega)) ?_ | refine LitOb.vec ?_ | refine MakeOb.vec ?_ | refine AllocOb.box ?_ | refine AsgOb.vec ?_ | refine AggOb.mk (by decide +kernel) ?_ | refine ArU.fits (by first | omega | (simp only [ints_len] at *; omega)) ?_ | refine ArB.fits (by first | omega | (simp only [ints_len] at *; omega)) ?_ | refine CutOb.split ?_ | refine And.intro (And.intro (by (simp only [List.length_append, List.length_take, List.length_drop, List.length_cons, List.length_nil, ints_len, List.length_replicate, lnl, fll, stl]; omega)) (by (simp only [List.length_append, List.length_take, List.length_drop, List.length_cons, List.length_nil, ints_len, List.length_replicate, lnl, fll, stl]; omega))) ?_ | refine ⟨_, _, rfl, ints_get (by first | omega | (simp only [ints_len] at *; omega)), ?_⟩ | refine ⟨_, _, (Int.toNat_of_nonneg (by first | omega | (simp only [ints_len] at *; omega))).symm, ints_get (by first | omega | (simp only [ints_len] at *; omega)), ?_⟩ | refine DrawOb.mk [] (.qs [0, 1, 2, 3] (.l 4 [1] (.qs [5, 6] (.l 7 [] .nil .no)) .no)) (by decide +kernel) ?_ | refine DrawOb.mk [] (.qs [0, 1, 2, 3, 4, 5, 6, 7, 8, 9, 10, 11, 12, 13, 15, 16, 17, 18, 19, 20, 21, 22, 23, 24, 25, 26] (.l 14 [24, 22, 18, 16] (.qs [27, 28] .nil) .no)) (by decide +kernel) ?_ | fail)
  all_goals try (conv => whnf)
  refine .mk [] ?_
  refine LoopOb.mk (Y := List Int × Nat) (st := fun y => ⟨[(37, i64 y.1.length), (36, i64 (lns n.ln).length), (6, .ptr 3 0), (5, .ptr 0 0), (1, .num .u8 b)], [src (l.take 2000) y.2, .vec 5 (lnx y.1 n.ln), .vec 8 (fls n.fl), .box [.psl 1 (strs n.nm), .vec 1, .vec 2]]⟩)
    (inv := fun y => y.1.length ≤ n.ln.length ∧ (∀ c ∈ y.1, 1 ≤ c ∧ c ≤ 4) ∧ y.2 ≤ 2000) (fun y => n.ln.length - y.1.length) ([], p1) [0, 3, 4, 5] ⟨by simp, by simp, hp1⟩ (by (refine Le.mk (by kernel_rfl) ?_ ?_ <;> repeat' (first | exact True.intro | refine And.intro ?_ ?_ | exact Imp.refl _ | exact Imp.any _ | exact Imp.num (by first | omega | simp only [ints_len]) | exact rfl | exact Imp.bl (by simp)))) ?_
  rintro ⟨cs, p2⟩ ⟨hc1, hc2, hp2⟩
  dsimp only at hc1 hc2 hp2 ⊢
  have hxl := lnx_len hc1
  repeat' (conv => whnf
           first | refine ArOb.fits (by first | omega | (simp only [ints_len] at *; omega)) ?_ | refine LitOb.vec ?_ | refine MakeOb.vec ?_ | refine AllocOb.box ?_ | refine AsgOb.vec ?_ | refine AggOb.mk (by decide +kernel) ?_ | refine ArU.fits (by first | omega | (simp only [ints_len] at *; omega)) ?_ | refine ArB.fits (by first | omega | (simp only [ints_len] at *; omega)) ?_ | refine CutOb.split ?_ | refine Gh.mk [] ?_ | refine And.intro (And.intro (by (simp only [List.length_append, List.length_take, List.length_drop, List.length_cons, List.length_nil, ints_len, List.length_replicate, lnl, fll, stl]; omega)) (by (simp only [List.length_append, List.length_take, List.length_drop, List.length_cons, List.length_nil, ints_len, List.length_replicate, lnl, fll, stl]; omega))) ?_ | refine ⟨_, _, rfl, ints_get (by first | omega | (simp only [ints_len] at *; omega)), ?_⟩ | refine ⟨_, _, (Int.toNat_of_nonneg (by first | omega | (simp only [ints_len] at *; omega))).symm, ints_get (by first | omega | (simp only [ints_len] at *; omega)), ?_⟩ | refine DrawOb.mk [] (.qs [0, 1, 2, 3] (.l 4 [1] (.qs [5, 6] (.l 7 [] .nil .no)) .no)) (by decide +kernel) ?_ | refine DrawOb.mk [] (.qs [0, 1, 2, 3, 4, 5, 6, 7, 8, 9, 10, 11, 12, 13, 15, 16, 17, 18, 19, 20, 21, 22, 23, 24, 25, 26] (.l 14 [24, 22, 18, 16] (.qs [27, 28] .nil) .no)) (by decide +kernel) ?_ | fail)
  all_goals try (conv => whnf)
  refine CondOb.mk (fun hlt => ?_) (fun hlt => ?_)
  · have hcl : cs.length < n.ln.length := by omega
    repeat' (conv => whnf
             first | (refine CondOb.mk (fun _ => ?_) (fun _ => ?_) <;> first | (exfalso; omega) | skip) | refine ArOb.fits (by first | omega | (simp only [ints_len] at *; omega)) ?_ | refine LitOb.vec ?_ | refine MakeOb.vec ?_ | refine AllocOb.box ?_ | refine AsgOb.vec ?_ | refine AggOb.mk (by decide +kernel) ?_ | refine ArU.fits (by first | omega | (simp only [ints_len] at *; omega)) ?_ | refine ArB.fits (by first | omega | (simp only [ints_len] at *; omega)) ?_ | refine CutOb.split ?_ | refine Gh.mk [] ?_ | refine And.intro (And.intro (by (simp only [List.length_append, List.length_take, List.length_drop, List.length_cons, List.length_nil, ints_len, List.length_replicate, lnl, fll, stl]; omega)) (by (simp only [List.length_append, List.length_take, List.length_drop, List.length_cons, List.length_nil, ints_len, List.length_replicate, lnl, fll, stl]; omega))) ?_ | refine ⟨_, _, rfl, ints_get (by first | omega | (simp only [ints_len] at *; omega)), ?_⟩ | refine ⟨_, _, (Int.toNat_of_nonneg (by first | omega | (simp only [ints_len] at *; omega))).symm, ints_get (by first | omega | (simp only [ints_len] at *; omega)), ?_⟩ | refine DrawOb.mk [] (.qs [0, 1, 2, 3] (.l 4 [1] (.qs [5, 6] (.l 7 [] .nil .no)) .no)) (by decide +kernel) ?_ | refine DrawOb.mk [] (.qs [0, 1, 2, 3, 4, 5, 6, 7, 8, 9, 10, 11, 12, 13, 15, 16, 17, 18, 19, 20, 21, 22, 23, 24, 25, 26] (.l 14 [24, 22, 18, 16] (.qs [27, 28] .nil) .no)) (by decide +kernel) ?_ | (refine CallOb.mk [0] (Range_ok _ p2 hL hp2 1 4 (by omega) (by omega) (by omega)) rfl (ImpL.refl _) rfl rfl ?_; rintro _ _ ⟨⟨c, p3⟩, ⟨c1, c2, hp3⟩, rfl, rfl⟩; dsimp only at c1 c2 hp3 ⊢) | refine ⟨cs.length, rfl, by omega, ?_⟩ | refine ⟨_, lnx_get hcl, ?_⟩ | fail)
    all_goals try (conv => whnf)
    have hst := lnx_set hcl c
    rw [hst]
    exact ⟨(cs ++ [c], p3), [0, 1, 2, 3], ⟨by simp only [List.length_append, List.length_singleton]; omega, all_app hc2 ⟨c1, c2⟩, hp3⟩, by simp only [List.length_append, List.length_singleton]; omega, by dsimp only; rw [List.length_append, List.length_singleton]; (refine Le.mk (by kernel_rfl) ?_ ?_ <;> repeat' (first | exact True.intro | refine And.intro ?_ ?_ | exact Imp.refl _ | exact Imp.any _ | exact Imp.num (by first | omega | simp only [ints_len]) | exact rfl | exact Imp.bl (by simp)))⟩
  have hcl : cs.length = n.ln.length := by omega
  have hx : lnx cs n.ln = cs.map lnw := by
    show cs.map lnw ++ (lns n.ln).drop cs.length = _
    rw [List.drop_eq_nil_of_le (by omega), List.append_nil]
  rw [hx]
  have hwl : (cs.map lnw).length = n.ln.length := by rw [List.length_map]; exact hcl
  repeat' (conv => whnf
           first | (refine CondOb.mk (fun _ => ?_) (fun _ => ?_) <;> first | (exfalso; omega) | skip) | refine ArOb.fits (by first | omega | (simp only [ints_len] at *; omega)) ?_ | refine LitOb.vec ?_ | refine MakeOb.vec ?_ | refine AllocOb.box ?_ | refine AsgOb.vec ?_ | refine AggOb.mk (by decide +kernel) ?_ | refine ArU.fits (by first | omega | (simp only [ints_len] at *; omega)) ?_ | refine ArB.fits (by first | omega | (simp only [ints_len] at *; omega)) ?_ | refine CutOb.split ?_ | refine And.intro (And.intro (by (simp only [List.length_append, List.length_take, List.length_drop, List.length_cons, List.length_nil, ints_len, List.length_replicate, lnl, fll, stl]; omega)) (by (simp only [List.length_append, List.length_take, List.length_drop, List.length_cons, List.length_nil, ints_len, List.length_replicate, lnl, fll, stl]; omega))) ?_ | refine ⟨_, _, rfl, ints_get (by first | omega | (simp only [ints_len] at *; omega)), ?_⟩ | refine ⟨_, _, (Int.toNat_of_nonneg (by first | omega | (simp only [ints_len] at *; omega))).symm, ints_get (by first | omega | (simp only [ints_len] at *; omega)), ?_⟩ | refine DrawOb.mk [] (.qs [0, 1, 2, 3] (.l 4 [1] (.qs [5, 6] (.l 7 [] .nil .no)) .no)) (by decide +kernel) ?_ | refine DrawOb.mk [] (.qs [0, 1, 2, 3, 4, 5, 6, 7, 8, 9, 10, 11, 12, 13, 15, 16, 17, 18, 19, 20, 21, 22, 23, 24, 25, 26] (.l 14 [24, 22, 18, 16] (.qs [27, 28] .nil) .no)) (by decide +kernel) ?_ | fail)
  all_goals try (conv => whnf)
  refine .mk [] ?_
  refine LoopOb.mk (Y := Nat × List Fl) (st := fun y => ⟨[(51, i64 y.1), (50, i64 (fls n.fl).length), (6, .ptr 2 0), (1, .num .u8 b)], [.vec 5 (cs.map lnw), .vec 8 (fls y.2), .box [.psl 1 (strs n.nm), .vec 0, .vec 1]]⟩)
    (inv := fun y => FlI cl0 n.fl y.2 y.1) (fun y => n.fl.length - y.1) (0, n.fl) [1, 2, 3] (FlI.init _ _) (by (refine Le.mk (by kernel_rfl) ?_ ?_ <;> repeat' (first | exact True.intro | refine And.intro ?_ ?_ | exact Imp.refl _ | exact Imp.any _ | exact Imp.num (by first | omega | simp only [ints_len]) | exact rfl | exact Imp.bl (by simp)))) ?_
  rintro ⟨i, X⟩ hI
  dsimp only at hI ⊢
  have hXl := hI.len
  have hXf := fll X
  have hIi := hI.le
  repeat' (conv => whnf
           first | refine ArOb.fits (by first | omega | (simp only [ints_len] at *; omega)) ?_ | refine LitOb.vec ?_ | refine MakeOb.vec ?_ | refine AllocOb.box ?_ | refine AsgOb.vec ?_ | refine AggOb.mk (by decide +kernel) ?_ | refine ArU.fits (by first | omega | (simp only [ints_len] at *; omega)) ?_ | refine ArB.fits (by first | omega | (simp only [ints_len] at *; omega)) ?_ | refine CutOb.split ?_ | refine Gh.mk [] ?_ | refine And.intro (And.intro (by (simp only [List.length_append, List.length_take, List.length_drop, List.length_cons, List.length_nil, ints_len, List.length_replicate, lnl, fll, stl]; omega)) (by (simp only [List.length_append, List.length_take, List.length_drop, List.length_cons, List.length_nil, ints_len, List.length_replicate, lnl, fll, stl]; omega))) ?_ | refine ⟨_, _, rfl, ints_get (by first | omega | (simp only [ints_len] at *; omega)), ?_⟩ | refine ⟨_, _, (Int.toNat_of_nonneg (by first | omega | (simp only [ints_len] at *; omega))).symm, ints_get (by first | omega | (simp only [ints_len] at *; omega)), ?_⟩ | refine DrawOb.mk [] (.qs [0, 1, 2, 3] (.l 4 [1] (.qs [5, 6] (.l 7 [] .nil .no)) .no)) (by decide +kernel) ?_ | refine DrawOb.mk [] (.qs [0, 1, 2, 3, 4, 5, 6, 7, 8, 9, 10, 11, 12, 13, 15, 16, 17, 18, 19, 20, 21, 22, 23, 24, 25, 26] (.l 14 [24, 22, 18, 16] (.qs [27, 28] .nil) .no)) (by decide +kernel) ?_ | fail)
  all_goals try (conv => whnf)
  refine CondOb.mk (fun hlt2 => ?_) (fun hlt2 => ?_)
  · have hil : i < n.fl.length := by omega
    have hg := flg (l := X) (i := i) (by omega)
    rw [hI.hi i (Nat.le_refl _) hil] at hg
    have hs := hI.step hil
    have hset : (fls X).set i (flv (cl0 (n.fl.getD i fl0))) = fls (X.set i (cl0 (n.fl.getD i fl0))) := fls_set7 _ _ _
    generalize n.fl.getD i fl0 = f at *
    repeat' (conv => whnf
             first | (refine CondOb.mk (fun _ => ?_) (fun _ => ?_) <;> first | (exfalso; omega) | skip) | refine ArOb.fits (by first | omega | (simp only [ints_len] at *; omega)) ?_ | refine LitOb.vec ?_ | refine MakeOb.vec ?_ | refine AllocOb.box ?_ | refine AsgOb.vec ?_ | refine AggOb.mk (by decide +kernel) ?_ | refine ArU.fits (by first | omega | (simp only [ints_len] at *; omega)) ?_ | refine ArB.fits (by first | omega | (simp only [ints_len] at *; omega)) ?_ | refine CutOb.split ?_ | refine Gh.mk [] ?_ | refine And.intro (And.intro (by (simp only [List.length_append, List.length_take, List.length_drop, List.length_cons, List.length_nil, ints_len, List.length_replicate, lnl, fll, stl]; omega)) (by (simp only [List.length_append, List.length_take, List.length_drop, List.length_cons, List.length_nil, ints_len, List.length_replicate, lnl, fll, stl]; omega))) ?_ | refine ⟨_, _, rfl, ints_get (by first | omega | (simp only [ints_len] at *; omega)), ?_⟩ | refine ⟨_, _, (Int.toNat_of_nonneg (by first | omega | (simp only [ints_len] at *; omega))).symm, ints_get (by first | omega | (simp only [ints_len] at *; omega)), ?_⟩ | refine DrawOb.mk [] (.qs [0, 1, 2, 3] (.l 4 [1] (.qs [5, 6] (.l 7 [] .nil .no)) .no)) (by decide +kernel) ?_ | refine DrawOb.mk [] (.qs [0, 1, 2, 3, 4, 5, 6, 7, 8, 9, 10, 11, 12, 13, 15, 16, 17, 18, 19, 20, 21, 22, 23, 24, 25, 26] (.l 14 [24, 22, 18, 16] (.qs [27, 28] .nil) .no)) (by decide +kernel) ?_ | refine ⟨i, rfl, by omega, ?_⟩ | refine ⟨_, hg, ?_⟩ | fail)
    all_goals try (conv => whnf)
    exact ⟨(i + 1, X.set i (cl0 f)), [0, 1, 2], hs, by dsimp only; omega, by dsimp only; rw [← hset]; (refine Le.mk (by kernel_rfl) ?_ ?_ <;> repeat' (first | exact True.intro | refine And.intro ?_ ?_ | exact Imp.refl _ | exact Imp.any _ | exact Imp.num (by first | omega | simp only [ints_len]) | exact rfl | exact Imp.bl (by simp)))⟩
  have hil : i = n.fl.length := by omega
  obtain rfl := hI.done hil
  clear hIi hI hlt2
  have hAe : (netA n cs).fl = n.fl.map cl0 := rfl
  have hXv : ∀ i, i < n.fl.length → ∃ (c : Int) (p : Nat), (0 ≤ c ∧ c ≤ 16) ∧ p ≤ 12 ∧ ((n.fl.map cl0).getD i fl0).v = 0 :: List.replicate p c := fun i hi => by
    rw [getD_mapF (d := fl0) hi]
    obtain ⟨c, c1, c2, q1, q2, hv, _⟩ := (g.fg _ (Go.Np.getD_in (d := fl0) hi)).ct
    exact ⟨c, (n.fl.getD i fl0).p.toNat, ⟨by omega, c2⟩, by omega, hv⟩
  generalize hXe : n.fl.map cl0 = X at *
  repeat' (conv => whnf
           first | (refine CondOb.mk (fun _ => ?_) (fun _ => ?_) <;> first | (exfalso; omega) | skip) | refine ArOb.fits (by first | omega | (simp only [ints_len] at *; omega)) ?_ | refine LitOb.vec ?_ | refine MakeOb.vec ?_ | refine AllocOb.box ?_ | refine AsgOb.vec ?_ | refine AggOb.mk (by decide +kernel) ?_ | refine ArU.fits (by first | omega | (simp only [ints_len] at *; omega)) ?_ | refine ArB.fits (by first | omega | (simp only [ints_len] at *; omega)) ?_ | refine CutOb.split ?_ | refine Gh.mk [] ?_ | refine And.intro (And.intro (by (simp only [List.length_append, List.length_take, List.length_drop, List.length_cons, List.length_nil, ints_len, List.length_replicate, lnl, fll, stl]; omega)) (by (simp only [List.length_append, List.length_take, List.length_drop, List.length_cons, List.length_nil, ints_len, List.length_replicate, lnl, fll, stl]; omega))) ?_ | refine ⟨_, _, rfl, ints_get (by first | omega | (simp only [ints_len] at *; omega)), ?_⟩ | refine ⟨_, _, (Int.toNat_of_nonneg (by first | omega | (simp only [ints_len] at *; omega))).symm, ints_get (by first | omega | (simp only [ints_len] at *; omega)), ?_⟩ | refine DrawOb.mk [] (.qs [0, 1, 2, 3] (.l 4 [1] (.qs [5, 6] (.l 7 [] .nil .no)) .no)) (by decide +kernel) ?_ | refine DrawOb.mk [] (.qs [0, 1, 2, 3, 4, 5, 6, 7, 8, 9, 10, 11, 12, 13, 15, 16, 17, 18, 19, 20, 21, 22, 23, 24, 25, 26] (.l 14 [24, 22, 18, 16] (.qs [27, 28] .nil) .no)) (by decide +kernel) ?_ | fail)
  all_goals try (conv => whnf)
  refine DrawOb.cut [.fa] (.qs [0, 1] (.l 2 [1, 0] (.l 3 [1, 0] (.l 4 [1] (.l 5 [] .nil .no) .no) .no) (.l 3 [1, 0] (.l 2 [1, 0] (.l 4 [1] (.l 5 [] .nil .no) .no) .no) .no))) (Y := Unit) (st := fun _ => ⟨[(6, .ptr 0 0), (9, .ptr 1 0), (10, .ptr 2 0), (1, .num .u8 b)], [.box [.psl 1 (strs n.nm), .psl 5 (cs.map lnw), .psl 8 (fls X)], .box [.psl 1 (strs n.nm), .psl 5 (cs.map lnw), .psl 8 (fls X)], .box [.psl 1 (strs n.nm), .psl 5 (cs.map lnw), .psl 8 (fls X)]]⟩) (inv := fun _ => True) (by decide +kernel) ?_ ?_
  · repeat' (conv => whnf
             first | (refine CondOb.mk (fun _ => ?_) (fun _ => ?_) <;> first | (exfalso; omega) | skip) | refine ArOb.fits (by first | omega | (simp only [ints_len] at *; omega)) ?_ | refine LitOb.vec ?_ | refine MakeOb.vec ?_ | refine AllocOb.box ?_ | refine AsgOb.vec ?_ | refine AggOb.mk (by decide +kernel) ?_ | refine ArU.fits (by first | omega | (simp only [ints_len] at *; omega)) ?_ | refine ArB.fits (by first | omega | (simp only [ints_len] at *; omega)) ?_ | refine CutOb.split ?_ | refine Gh.mk [] ?_ | refine And.intro (And.intro (by (simp only [List.length_append, List.length_take, List.length_drop, List.length_cons, List.length_nil, ints_len, List.length_replicate, lnl, fll, stl]; omega)) (by (simp only [List.length_append, List.length_take, List.length_drop, List.length_cons, List.length_nil, ints_len, List.length_replicate, lnl, fll, stl]; omega))) ?_ | refine ⟨_, _, rfl, ints_get (by first | omega | (simp only [ints_len] at *; omega)), ?_⟩ | refine ⟨_, _, (Int.toNat_of_nonneg (by first | omega | (simp only [ints_len] at *; omega))).symm, ints_get (by first | omega | (simp only [ints_len] at *; omega)), ?_⟩ | refine DrawOb.mk [] (.qs [0, 1, 2, 3] (.l 4 [1] (.qs [5, 6] (.l 7 [] .nil .no)) .no)) (by decide +kernel) ?_ | refine DrawOb.mk [] (.qs [0, 1] (.l 2 [1, 0] (.l 3 [1, 0] (.l 4 [1] (.l 5 [] .nil .no) .no) .no) (.l 3 [1, 0] (.l 2 [1, 0] (.l 4 [1] (.l 5 [] .nil .no) .no) .no) .no))) (by decide +kernel) ?_ | refine DrawOb.mk [] (.qs [0, 1, 2, 3, 4, 5, 6, 7, 8, 9, 10, 11, 12, 13, 15, 16, 17, 18, 19, 20, 21, 22, 23, 24, 25, 26] (.l 14 [24, 22, 18, 16] (.qs [27, 28] .nil) .no)) (by decide +kernel) ?_ | refine And.intro ?_ ?_ | fail)
    all_goals try (conv => whnf)
    all_goals first
      | (refine ⟨(), [2, 3, 4], trivial, ?_⟩; (refine Le.mk (by kernel_rfl) ?_ ?_ <;> repeat' (first | exact True.intro | refine And.intro ?_ ?_ | exact Imp.refl _ | exact Imp.any _ | exact Imp.num (by first | omega | simp only [ints_len]) | exact rfl | exact Imp.bl (by simp))); done)
      | (refine ⟨(), [2, 4, 3], trivial, ?_⟩; (refine Le.mk (by kernel_rfl) ?_ ?_ <;> repeat' (first | exact True.intro | refine And.intro ?_ ?_ | exact Imp.refl _ | exact Imp.any _ | exact Imp.num (by first | omega | simp only [ints_len]) | exact rfl | exact Imp.bl (by simp))); done)
  rintro _ _
  have hfX := fll X
  obtain ⟨bb, hbb⟩ : ∃ x, x = b.tmod 9 := ⟨_, rfl⟩
  have hb9 : 0 ≤ bb ∧ bb ≤ 8 := by
    rw [hbb, Int.tmod_eq_emod_of_nonneg b0.1]; omega
  repeat' (conv => whnf
           first | (refine CondOb.mk (fun _ => ?_) (fun _ => ?_) <;> first | (exfalso; omega) | skip) | refine ArOb.fits (by first | omega | (simp only [ints_len] at *; omega)) ?_ | refine LitOb.vec ?_ | refine MakeOb.vec ?_ | refine AllocOb.box ?_ | refine AsgOb.vec ?_ | refine AggOb.mk (by decide +kernel) ?_ | refine ArU.fits (by first | omega | (simp only [ints_len] at *; omega)) ?_ | refine ArB.fits (by first | omega | (simp only [ints_len] at *; omega)) ?_ | refine CutOb.split ?_ | refine And.intro (And.intro (by (simp only [List.length_append, List.length_take, List.length_drop, List.length_cons, List.length_nil, ints_len, List.length_replicate, lnl, fll, stl]; omega)) (by (simp only [List.length_append, List.length_take, List.length_drop, List.length_cons, List.length_nil, ints_len, List.length_replicate, lnl, fll, stl]; omega))) ?_ | refine ⟨_, _, rfl, ints_get (by first | omega | (simp only [ints_len] at *; omega)), ?_⟩ | refine ⟨_, _, (Int.toNat_of_nonneg (by first | omega | (simp only [ints_len] at *; omega))).symm, ints_get (by first | omega | (simp only [ints_len] at *; omega)), ?_⟩ | refine DrawOb.mk [] (.qs [0, 1, 2, 3] (.l 4 [1] (.qs [5, 6] (.l 7 [] .nil .no)) .no)) (by decide +kernel) ?_ | refine DrawOb.mk [] (.qs [0, 1, 2, 3, 4, 5, 6, 7, 8, 9, 10, 11, 12, 13, 15, 16, 17, 18, 19, 20, 21, 22, 23, 24, 25, 26] (.l 14 [24, 22, 18, 16] (.qs [27, 28] .nil) .no)) (by decide +kernel) ?_ | fail)
  all_goals try (conv => whnf)
  refine .mk [] ?_
  refine LoopOb.mk (Y := Nat × List Fl) (st := fun y => ⟨[(70, i64 y.1), (69, i64 (fls X).length), (9, .ptr 1 0), (6, .ptr 0 0), (10, .ptr 2 0), (1, .num .u8 b)], [.box [.psl 1 (strs n.nm), .psl 5 (cs.map lnw), .psl 8 (fls X)], .box [.psl 1 (strs n.nm), .psl 5 (cs.map lnw), .vec 3], .box [.psl 1 (strs n.nm), .psl 5 (cs.map lnw), .nil], .vec 8 (fls y.2)]⟩)
    (inv := fun y => FlI (rsF bb) X y.2 y.1) (fun y => X.length - y.1) (0, X) [0, 1, 2, 3] (FlI.init _ _) (by (refine Le.mk (by kernel_rfl) ?_ ?_ <;> repeat' (first | exact True.intro | refine And.intro ?_ ?_ | exact Imp.refl _ | exact Imp.any _ | exact Imp.num (by first | omega | simp only [ints_len]) | exact rfl | exact Imp.bl (by simp)))) ?_
  rintro ⟨i, Y⟩ hI
  dsimp only at hI ⊢
  have hYl := hI.len
  have hYf := fll Y
  have hIi := hI.le
  repeat' (conv => whnf
           first | refine ArOb.fits (by first | omega | (simp only [ints_len] at *; omega)) ?_ | refine LitOb.vec ?_ | refine MakeOb.vec ?_ | refine AllocOb.box ?_ | refine AsgOb.vec ?_ | refine AggOb.mk (by decide +kernel) ?_ | refine ArU.fits (by first | omega | (simp only [ints_len] at *; omega)) ?_ | refine ArB.fits (by first | omega | (simp only [ints_len] at *; omega)) ?_ | refine CutOb.split ?_ | refine Gh.mk [] ?_ | refine And.intro (And.intro (by (simp only [List.length_append, List.length_take, List.length_drop, List.length_cons, List.length_nil, ints_len, List.length_replicate, lnl, fll, stl]; omega)) (by (simp only [List.length_append, List.length_take, List.length_drop, List.length_cons, List.length_nil, ints_len, List.length_replicate, lnl, fll, stl]; omega))) ?_ | refine ⟨_, _, rfl, ints_get (by first | omega | (simp only [ints_len] at *; omega)), ?_⟩ | refine ⟨_, _, (Int.toNat_of_nonneg (by first | omega | (simp only [ints_len] at *; omega))).symm, ints_get (by first | omega | (simp only [ints_len] at *; omega)), ?_⟩ | refine DrawOb.mk [] (.qs [0, 1, 2, 3] (.l 4 [1] (.qs [5, 6] (.l 7 [] .nil .no)) .no)) (by decide +kernel) ?_ | refine DrawOb.mk [] (.qs [0, 1, 2, 3, 4, 5, 6, 7, 8, 9, 10, 11, 12, 13, 15, 16, 17, 18, 19, 20, 21, 22, 23, 24, 25, 26] (.l 14 [24, 22, 18, 16] (.qs [27, 28] .nil) .no)) (by decide +kernel) ?_ | fail)
  all_goals try (conv => whnf)
  refine CondOb.mk (fun hlt3 => ?_) (fun hlt3 => ?_)
  · have hil : i < X.length := by omega
    have hg := flg (l := Y) (i := i) (by omega)
    rw [hI.hi i (Nat.le_refl _) hil] at hg
    have hs := hI.step hil
    have hset : (fls Y).set i (flv (rsF bb (X.getD i fl0))) = fls (Y.set i (rsF bb (X.getD i fl0))) := fls_set7 _ _ _
    obtain ⟨c, p, ⟨c1, c2⟩, hp, hv⟩ := hXv i (by omega)
    generalize X.getD i fl0 = f at *
    have hvl := ints_len f.v
    have hvl2 : f.v.length = p + 1 := by rw [hv]; simp
    have hrs : rsv bb f.v = vst c bb p p := by rw [hv, rsv_stair, vst_full]
    have hrf : flv (rsF bb f) = [.str f.nm, .psl 1 (ints f.rt), i64 f.cl, i64 f.lo, i64 f.hi, .psl 1 (ints (vst c bb p p)), i64 f.p, i64 f.q] := by rw [← hrs]; rfl
    rw [hrf] at hset
    repeat' (conv => whnf
             first | (refine CondOb.mk (fun _ => ?_) (fun _ => ?_) <;> first | (exfalso; omega) | skip) | refine ArOb.fits (by first | omega | (simp only [ints_len] at *; omega)) ?_ | refine LitOb.vec ?_ | refine MakeOb.vec ?_ | refine AllocOb.box ?_ | refine AsgOb.vec ?_ | refine AggOb.mk (by decide +kernel) ?_ | refine ArU.fits (by first | omega | (simp only [ints_len] at *; omega)) ?_ | refine ArB.fits (by first | omega | (simp only [ints_len] at *; omega)) ?_ | refine CutOb.split ?_ | refine And.intro (And.intro (by (simp only [List.length_append, List.length_take, List.length_drop, List.length_cons, List.length_nil, ints_len, List.length_replicate, lnl, fll, stl]; omega)) (by (simp only [List.length_append, List.length_take, List.length_drop, List.length_cons, List.length_nil, ints_len, List.length_replicate, lnl, fll, stl]; omega))) ?_ | refine ⟨_, _, rfl, ints_get (by first | omega | (simp only [ints_len] at *; omega)), ?_⟩ | refine ⟨_, _, (Int.toNat_of_nonneg (by first | omega | (simp only [ints_len] at *; omega))).symm, ints_get (by first | omega | (simp only [ints_len] at *; omega)), ?_⟩ | refine DrawOb.mk [] (.qs [0, 1, 2, 3] (.l 4 [1] (.qs [5, 6] (.l 7 [] .nil .no)) .no)) (by decide +kernel) ?_ | refine DrawOb.mk [] (.qs [0, 1, 2, 3, 4, 5, 6, 7, 8, 9, 10, 11, 12, 13, 15, 16, 17, 18, 19, 20, 21, 22, 23, 24, 25, 26] (.l 14 [24, 22, 18, 16] (.qs [27, 28] .nil) .no)) (by decide +kernel) ?_ | refine ⟨i, rfl, by omega, ?_⟩ | refine ⟨_, hg, ?_⟩ | fail)
    all_goals try (conv => whnf)
    refine .mk [] ?_
    refine LoopOb.mk (Y := Nat) (st := fun j => ⟨[(14, i64 ((j : Int) + 1)), (13, .vec 5), (12, .ptr 4 0), (11, i64 i), (70, i64 i), (69, i64 (fls X).length), (9, .ptr 1 0), (6, .ptr 0 0), (10, .ptr 2 0), (1, .num .u8 b)], [.box [.psl 1 (strs n.nm), .psl 5 (cs.map lnw), .psl 8 (fls X)], .box [.psl 1 (strs n.nm), .psl 5 (cs.map lnw), .vec 3], .box [.psl 1 (strs n.nm), .psl 5 (cs.map lnw), .nil], .vec 8 (fls Y), .box [.psl 1 (ints f.v), i64 f.p, i64 f.q], .vec 1 (ints (vst c bb p j))]⟩)
      (inv := fun j => j ≤ p) (fun j => p - j) 0 [0, 1, 2, 3, 4, 5] (by omega) (by rw [vst_zero, ← hv]; (refine Le.mk (by kernel_rfl) ?_ ?_ <;> repeat' (first | exact True.intro | refine And.intro ?_ ?_ | exact Imp.refl _ | exact Imp.any _ | exact Imp.num (by first | omega | simp only [ints_len]) | exact rfl | exact Imp.bl (by simp)))) ?_
    intro j hj
    have hwl2 := ints_len (vst c bb p j)
    have hwl3 := vst_len (c := c) (b := bb) hj
    repeat' (conv => whnf
             first | refine ArOb.fits (by first | omega | (simp only [ints_len] at *; omega)) ?_ | refine LitOb.vec ?_ | refine MakeOb.vec ?_ | refine AllocOb.box ?_ | refine AsgOb.vec ?_ | refine AggOb.mk (by decide +kernel) ?_ | refine ArU.fits (by first | omega | (simp only [ints_len] at *; omega)) ?_ | refine ArB.fits (by first | omega | (simp only [ints_len] at *; omega)) ?_ | refine CutOb.split ?_ | refine Gh.mk [] ?_ | refine And.intro (And.intro (by (simp only [List.length_append, List.length_take, List.length_drop, List.length_cons, List.length_nil, ints_len, List.length_replicate, lnl, fll, stl]; omega)) (by (simp only [List.length_append, List.length_take, List.length_drop, List.length_cons, List.length_nil, ints_len, List.length_replicate, lnl, fll, stl]; omega))) ?_ | refine ⟨_, _, rfl, ints_get (by first | omega | (simp only [ints_len] at *; omega)), ?_⟩ | refine ⟨_, _, (Int.toNat_of_nonneg (by first | omega | (simp only [ints_len] at *; omega))).symm, ints_get (by first | omega | (simp only [ints_len] at *; omega)), ?_⟩ | refine DrawOb.mk [] (.qs [0, 1, 2, 3] (.l 4 [1] (.qs [5, 6] (.l 7 [] .nil .no)) .no)) (by decide +kernel) ?_ | refine DrawOb.mk [] (.qs [0, 1, 2, 3, 4, 5, 6, 7, 8, 9, 10, 11, 12, 13, 15, 16, 17, 18, 19, 20, 21, 22, 23, 24, 25, 26] (.l 14 [24, 22, 18, 16] (.qs [27, 28] .nil) .no)) (by decide +kernel) ?_ | fail)
    all_goals try (conv => whnf)
    refine CondOb.mk (fun hlt4 => ?_) (fun hlt4 => ?_)
    · have hjl : j < p := by omega
      have hgj := ints_get (l := vst c bb p j) (j := j + 1) (by omega)
      rw [vst_get hjl] at hgj
      have hsj := ints_set7 (vst c bb p j) (j + 1) (c + bb)
      rw [vst_set hjl] at hsj
      repeat' (conv => whnf
               first | (refine CondOb.mk (fun _ => ?_) (fun _ => ?_) <;> first | (exfalso; omega) | skip) | refine ArOb.fits (by first | omega | (simp only [ints_len] at *; omega)) ?_ | refine LitOb.vec ?_ | refine MakeOb.vec ?_ | refine AllocOb.box ?_ | refine AsgOb.vec ?_ | refine AggOb.mk (by decide +kernel) ?_ | refine ArU.fits (by first | omega | (simp only [ints_len] at *; omega)) ?_ | refine ArB.fits (by first | omega | (simp only [ints_len] at *; omega)) ?_ | refine CutOb.split ?_ | refine Gh.mk [] ?_ | refine And.intro (And.intro (by (simp only [List.length_append, List.length_take, List.length_drop, List.length_cons, List.length_nil, ints_len, List.length_replicate, lnl, fll, stl]; omega)) (by (simp only [List.length_append, List.length_take, List.length_drop, List.length_cons, List.length_nil, ints_len, List.length_replicate, lnl, fll, stl]; omega))) ?_ | refine ⟨_, _, rfl, ints_get (by first | omega | (simp only [ints_len] at *; omega)), ?_⟩ | refine ⟨_, _, (Int.toNat_of_nonneg (by first | omega | (simp only [ints_len] at *; omega))).symm, ints_get (by first | omega | (simp only [ints_len] at *; omega)), ?_⟩ | refine DrawOb.mk [] (.qs [0, 1, 2, 3] (.l 4 [1] (.qs [5, 6] (.l 7 [] .nil .no)) .no)) (by decide +kernel) ?_ | refine DrawOb.mk [] (.qs [0, 1, 2, 3, 4, 5, 6, 7, 8, 9, 10, 11, 12, 13, 15, 16, 17, 18, 19, 20, 21, 22, 23, 24, 25, 26] (.l 14 [24, 22, 18, 16] (.qs [27, 28] .nil) .no)) (by decide +kernel) ?_ | refine ⟨j + 1, by omega, by omega, ?_⟩ | refine ⟨_, hgj, ?_⟩ | refine And.intro (by decide) ?_ | fail)
      all_goals try (conv => whnf)
      exact ⟨j + 1, [0, 1, 2, 3, 4, 5], by omega, by omega, by rw [← hsj, hbb]; (refine Le.mk (by kernel_rfl) ?_ ?_ <;> repeat' (first | exact True.intro | refine And.intro ?_ ?_ | exact Imp.refl _ | exact Imp.any _ | exact Imp.num (by first | omega | simp only [ints_len]) | exact rfl | exact Imp.bl (by simp)))⟩
    have hjl : j = p := by omega
    subst hjl
    repeat' (conv => whnf
             first | (refine CondOb.mk (fun _ => ?_) (fun _ => ?_) <;> first | (exfalso; omega) | skip) | refine ArOb.fits (by first | omega | (simp only [ints_len] at *; omega)) ?_ | refine LitOb.vec ?_ | refine MakeOb.vec ?_ | refine AllocOb.box ?_ | refine AsgOb.vec ?_ | refine AggOb.mk (by decide +kernel) ?_ | refine ArU.fits (by first | omega | (simp only [ints_len] at *; omega)) ?_ | refine ArB.fits (by first | omega | (simp only [ints_len] at *; omega)) ?_ | refine CutOb.split ?_ | refine And.intro (And.intro (by (simp only [List.length_append, List.length_take, List.length_drop, List.length_cons, List.length_nil, ints_len, List.length_replicate, lnl, fll, stl]; omega)) (by (simp only [List.length_append, List.length_take, List.length_drop, List.length_cons, List.length_nil, ints_len, List.length_replicate, lnl, fll, stl]; omega))) ?_ | refine ⟨_, _, rfl, ints_get (by first | omega | (simp only [ints_len] at *; omega)), ?_⟩ | refine ⟨_, _, (Int.toNat_of_nonneg (by first | omega | (simp only [ints_len] at *; omega))).symm, ints_get (by first | omega | (simp only [ints_len] at *; omega)), ?_⟩ | refine DrawOb.mk [] (.qs [0, 1, 2, 3] (.l 4 [1] (.qs [5, 6] (.l 7 [] .nil .no)) .no)) (by decide +kernel) ?_ | refine DrawOb.mk [] (.qs [0, 1, 2, 3, 4, 5, 6, 7, 8, 9, 10, 11, 12, 13, 15, 16, 17, 18, 19, 20, 21, 22, 23, 24, 25, 26] (.l 14 [24, 22, 18, 16] (.qs [27, 28] .nil) .no)) (by decide +kernel) ?_ | refine ⟨i, rfl, by omega, ?_⟩ | refine ⟨_, hg, ?_⟩ | fail)
    all_goals try (conv => whnf)
    refine .mk [.fz 5] ?_
    repeat' (conv => whnf
             first | (refine CondOb.mk (fun _ => ?_) (fun _ => ?_) <;> first | (exfalso; omega) | skip) | refine ArOb.fits (by first | omega | (simp only [ints_len] at *; omega)) ?_ | refine LitOb.vec ?_ | refine MakeOb.vec ?_ | refine AllocOb.box ?_ | refine AsgOb.vec ?_ | refine AggOb.mk (by decide +kernel) ?_ | refine ArU.fits (by first | omega | (simp only [ints_len] at *; omega)) ?_ | refine ArB.fits (by first | omega | (simp only [ints_len] at *; omega)) ?_ | refine CutOb.split ?_ | refine And.intro (And.intro (by (simp only [List.length_append, List.length_take, List.length_drop, List.length_cons, List.length_nil, ints_len, List.length_replicate, lnl, fll, stl]; omega)) (by (simp only [List.length_append, List.length_take, List.length_drop, List.length_cons, List.length_nil, ints_len, List.length_replicate, lnl, fll, stl]; omega))) ?_ | refine ⟨_, _, rfl, ints_get (by first | omega | (simp only [ints_len] at *; omega)), ?_⟩ | refine ⟨_, _, (Int.toNat_of_nonneg (by first | omega | (simp only [ints_len] at *; omega))).symm, ints_get (by first | omega | (simp only [ints_len] at *; omega)), ?_⟩ | refine DrawOb.mk [] (.qs [0, 1, 2, 3] (.l 4 [1] (.qs [5, 6] (.l 7 [] .nil .no)) .no)) (by decide +kernel) ?_ | refine DrawOb.mk [] (.qs [0, 1, 2, 3, 4, 5, 6, 7, 8, 9, 10, 11, 12, 13, 15, 16, 17, 18, 19, 20, 21, 22, 23, 24, 25, 26] (.l 14 [24, 22, 18, 16] (.qs [27, 28] .nil) .no)) (by decide +kernel) ?_ | refine ⟨i, rfl, by omega, ?_⟩ | refine ⟨_, hg, ?_⟩ | fail)
    all_goals try (conv => whnf)
    refine .mk [] ?_
    exact ⟨(i + 1, Y.set i (rsF bb f)), [0, 1, 2, 3], hs, by dsimp only; omega, by dsimp only; rw [← hset]; (refine Le.mk (by kernel_rfl) ?_ ?_ <;> repeat' (first | exact True.intro | refine And.intro ?_ ?_ | exact Imp.refl _ | exact Imp.any _ | exact Imp.num (by first | omega | simp only [ints_len]) | exact rfl | exact Imp.bl (by simp)))⟩
  have hil : i = X.length := by omega
  have hYe := hI.done hil
  have hT : Three n cs bb := ⟨netA_s g hcl hc2, netM_s g hcl hc2 hb9.1 hb9.2, netZ_s g hcl hc2⟩
  have hA : Imp (.agg [.psl 1 (strs n.nm), .psl 5 (cs.map lnw), .psl 8 (fls X)]) (ntv (netA n cs)) := Imp.agg ⟨Imp.refl _, Imp.pslr (lnw_imp cs), Imp.psl (by rw [← hXe]; rfl), trivial⟩
  have hM : Imp (.agg [.psl 1 (strs n.nm), .psl 5 (cs.map lnw), .psl 8 (fls Y)]) (ntv (netM n cs bb)) := Imp.agg ⟨Imp.refl _, Imp.pslr (lnw_imp cs), Imp.psl (by rw [hYe, ← hXe, List.map_map]; rfl), trivial⟩
  have hZ : Imp (.agg [.psl 1 (strs n.nm), .psl 5 (cs.map lnw), .nil]) (ntv (netZ n cs)) := Imp.agg ⟨Imp.refl _, Imp.pslr (lnw_imp cs), Imp.nil _, trivial⟩
  have hfa : (netA n cs).fl.length ≤ 1000 := by have := hT.a.fl; omega
  have hfm : (netM n cs bb).fl.length ≤ 1000 := by have := hT.m.fl; omega
  have hfz : (netZ n cs).fl.length ≤ 1000 := by have := hT.z.fl; omega
  obtain ⟨o1, o2⟩ := over_ok hT.a.rn
  have cA := Over_ok (netA n cs) hT.a.nls hfa
  have cM := Over_ok (netM n cs bb) hT.m.nls hfm
  have cZ := Over_ok (netZ n cs) hT.z.nls hfz
  rw [hT.over, o1] at cM
  rw [o1] at cA
  rw [hT.zover] at cZ
  dsimp only at cZ
  have hla : (netA n cs).ln.length = cs.length := List.length_map _
  have hge : ∀ i, i < cs.length → (netA n cs).ln.getD i ln0 = lfC (cs.getD i 0) := fun i hi => getD_mapF hi
  have hol : (overP (netA n cs)).1.length ≤ 100 := by
    have h1 := ovS_len (netA n cs) (netA n cs).ln.length
    have hO : overP (netA n cs) = ovS (netA n cs) (netA n cs).ln.length := by unfold overP; rw [if_neg (by have := hT.a.chk; omega)]
    rw [hO]; omega
  have cUA := fun i : Nat => Used_ok (netA n cs) hT.a.nls hfa i
  have cUZ := fun i : Nat => Used_ok (netZ n cs) hT.z.nls hfz i
  have hU : ∀ i : Nat, i < cs.length → ∃ u1 u2 : Int, usedP (netA n cs) i = (u1, u2, 0) ∧ 0 ≤ u1 ∧ u1 ≤ 1073741824 ∧ 0 ≤ u2 ∧ u2 ≤ 1073741824 ∧ ((i : Int) ∈ (overP (netA n cs)).1 ↔ cs.getD i 0 * u2 < u1) := fun i hi => by
    obtain ⟨e1, e2, e3⟩ := used_fr hT.a.rn (l := i) (by omega)
    have hm := o2 i (by omega)
    rw [hge i hi, e1] at hm
    have hsm := fr_sm e2 (by omega)
    unfold Sm MT at hsm
    have h0 : 0 ≤ (fr (wsum (netA n cs) (users (netA n cs) i))).num := by
      obtain ⟨_, h3⟩ := divInt_terms (wsum (netA n cs) (users (netA n cs) i)) 27720 (by decide)
      rw [if_pos (by omega)] at h3
      rw [h3]; exact Int.natCast_nonneg _
    exact ⟨_, _, e1, h0, by omega, by omega, by omega, hm⟩
  have hUz := fun (i : Nat) (hi : i < cs.length) => hT.zused hi
  generalize netA n cs = NA at *
  generalize netM n cs bb = NM at *
  generalize netZ n cs = NZ at *
  generalize (overP NA).1 = oA at *
  repeat' (conv => whnf
           first | (refine CondOb.mk (fun _ => ?_) (fun _ => ?_) <;> first | (exfalso; omega) | skip) | refine ArOb.fits (by first | omega | (simp only [ints_len] at *; omega)) ?_ | refine LitOb.vec ?_ | refine MakeOb.vec ?_ | refine AllocOb.box ?_ | refine AsgOb.vec ?_ | refine AggOb.mk (by decide +kernel) ?_ | refine ArU.fits (by first | omega | (simp only [ints_len] at *; omega)) ?_ | refine ArB.fits (by first | omega | (simp only [ints_len] at *; omega)) ?_ | refine CutOb.split ?_ | refine And.intro (And.intro (by (simp only [List.length_append, List.length_take, List.length_drop, List.length_cons, List.length_nil, ints_len, List.length_replicate, lnl, fll, stl]; omega)) (by (simp only [List.length_append, List.length_take, List.length_drop, List.length_cons, List.length_nil, ints_len, List.length_replicate, lnl, fll, stl]; omega))) ?_ | refine ⟨_, _, rfl, ints_get (by first | omega | (simp only [ints_len] at *; omega)), ?_⟩ | refine ⟨_, _, (Int.toNat_of_nonneg (by first | omega | (simp only [ints_len] at *; omega))).symm, ints_get (by first | omega | (simp only [ints_len] at *; omega)), ?_⟩ | refine DrawOb.mk [] (.qs [0, 1, 2, 3] (.l 4 [1] (.qs [5, 6] (.l 7 [] .nil .no)) .no)) (by decide +kernel) ?_ | refine DrawOb.mk [] (.qs [0, 1, 2, 3, 4, 5, 6, 7, 8, 9, 10, 11, 12, 13, 15, 16, 17, 18, 19, 20, 21, 22, 23, 24, 25, 26] (.l 14 [24, 22, 18, 16] (.qs [27, 28] .nil) .no)) (by decide +kernel) ?_ | fail)
  all_goals try (conv => whnf)
  refine .mk [.fa] ?_
  repeat' (conv => whnf
           first | (refine CondOb.mk (fun _ => ?_) (fun _ => ?_) <;> first | (exfalso; omega) | skip) | refine ArOb.fits (by first | omega | (simp only [ints_len] at *; omega)) ?_ | refine LitOb.vec ?_ | refine MakeOb.vec ?_ | refine AllocOb.box ?_ | refine AsgOb.vec ?_ | refine AggOb.mk (by decide +kernel) ?_ | refine ArU.fits (by first | omega | (simp only [ints_len] at *; omega)) ?_ | refine ArB.fits (by first | omega | (simp only [ints_len] at *; omega)) ?_ | refine CutOb.split ?_ | refine Gh.mk [] ?_ | refine And.intro (And.intro (by (simp only [List.length_append, List.length_take, List.length_drop, List.length_cons, List.length_nil, ints_len, List.length_replicate, lnl, fll, stl]; omega)) (by (simp only [List.length_append, List.length_take, List.length_drop, List.length_cons, List.length_nil, ints_len, List.length_replicate, lnl, fll, stl]; omega))) ?_ | refine ⟨_, _, rfl, ints_get (by first | omega | (simp only [ints_len] at *; omega)), ?_⟩ | refine ⟨_, _, (Int.toNat_of_nonneg (by first | omega | (simp only [ints_len] at *; omega))).symm, ints_get (by first | omega | (simp only [ints_len] at *; omega)), ?_⟩ | refine DrawOb.mk [] (.qs [0, 1, 2, 3] (.l 4 [1] (.qs [5, 6] (.l 7 [] .nil .no)) .no)) (by decide +kernel) ?_ | refine DrawOb.mk [] (.qs [0, 1, 2, 3, 4, 5, 6, 7, 8, 9, 10, 11, 12, 13, 15, 16, 17, 18, 19, 20, 21, 22, 23, 24, 25, 26] (.l 14 [24, 22, 18, 16] (.qs [27, 28] .nil) .no)) (by decide +kernel) ?_ | (refine CallOb.mk [] cA rfl ⟨hA, trivial⟩ rfl rfl ?_; rintro _ _ ⟨rfl, rfl⟩) | (refine CallOb.mk [] cM rfl ⟨hM, trivial⟩ rfl rfl ?_; rintro _ _ ⟨rfl, rfl⟩) | (refine CallOb.mk [] cZ rfl ⟨hZ, trivial⟩ rfl rfl ?_; rintro _ _ ⟨rfl, rfl⟩) | (refine CallOb.mk [] (kInts_ok oA oA (by omega)) rfl (ImpL.refl _) rfl rfl ?_; rintro _ _ ⟨rfl, rfl⟩) | (refine CallOb.mk [] (sane_ok) rfl (ImpL.refl _) rfl rfl ?_; rintro _ _ ⟨rfl, rfl⟩) | fail)
  all_goals try (conv => whnf)
  · exfalso; exact absurd rfl (by assumption : ¬oA = oA)
  · exfalso
    have : ((ints []).length : Int) = 0 := rfl
    omega
  refine LoopOb.mk (Y := Nat) (st := fun i => ⟨[(148, i64 i), (147, i64 (cs.map lnw).length), (6, .ptr 0 0), (10, .ptr 1 0), (15, .psl 1 (ints oA))], [.box [.psl 1 (strs n.nm), .psl 5 (cs.map lnw), .psl 8 (fls X)], .box [.psl 1 (strs n.nm), .psl 5 (cs.map lnw), .nil]]⟩)
    (inv := fun i => i ≤ cs.length) (fun i => cs.length - i) 0 [0, 2] (by omega) (by (refine Le.mk (by kernel_rfl) ?_ ?_ <;> repeat' (first | exact True.intro | refine And.intro ?_ ?_ | exact Imp.refl _ | exact Imp.any _ | exact Imp.num (by first | omega | simp only [ints_len]) | exact rfl | exact Imp.bl (by simp)))) ?_
  intro i hi
  have hcw : (cs.map lnw).length = cs.length := List.length_map _
  repeat' (conv => whnf
           first | refine ArOb.fits (by first | omega | (simp only [ints_len] at *; omega)) ?_ | refine LitOb.vec ?_ | refine MakeOb.vec ?_ | refine AllocOb.box ?_ | refine AsgOb.vec ?_ | refine AggOb.mk (by decide +kernel) ?_ | refine ArU.fits (by first | omega | (simp only [ints_len] at *; omega)) ?_ | refine ArB.fits (by first | omega | (simp only [ints_len] at *; omega)) ?_ | refine CutOb.split ?_ | refine Gh.mk [] ?_ | refine And.intro (And.intro (by (simp only [List.length_append, List.length_take, List.length_drop, List.length_cons, List.length_nil, ints_len, List.length_replicate, lnl, fll, stl]; omega)) (by (simp only [List.length_append, List.length_take, List.length_drop, List.length_cons, List.length_nil, ints_len, List.length_replicate, lnl, fll, stl]; omega))) ?_ | refine ⟨_, _, rfl, ints_get (by first | omega | (simp only [ints_len] at *; omega)), ?_⟩ | refine ⟨_, _, (Int.toNat_of_nonneg (by first | omega | (simp only [ints_len] at *; omega))).symm, ints_get (by first | omega | (simp only [ints_len] at *; omega)), ?_⟩ | refine DrawOb.mk [] (.qs [0, 1, 2, 3] (.l 4 [1] (.qs [5, 6] (.l 7 [] .nil .no)) .no)) (by decide +kernel) ?_ | refine DrawOb.mk [] (.qs [0, 1, 2, 3, 4, 5, 6, 7, 8, 9, 10, 11, 12, 13, 15, 16, 17, 18, 19, 20, 21, 22, 23, 24, 25, 26] (.l 14 [24, 22, 18, 16] (.qs [27, 28] .nil) .no)) (by decide +kernel) ?_ | fail)
  all_goals try (conv => whnf)
  refine CondOb.mk (fun hlt5 => ?_) (fun hlt5 => ?_)
  · have hil : i < cs.length := by omega
    obtain ⟨u1, u2, hu, a1, a2, a3, a4, hm⟩ := hU i hil
    have c5 := cUA i
    have c6 := cUZ i
    rw [hu] at c5
    rw [hUz i hil] at c6
    dsimp only [res] at c5 c6
    have hg : (cs.map lnw)[i]? = some (lnw (cs.getD i 0)) := by simp [hil]
    have hcb := hc2 _ (Go.Np.getD_in (d := 0) hil)
    have cI := In_ok oA (by omega) i
    clear hU cUA cUZ hUz o2 hge
    generalize ((i : Int) ∈ oA) = P at *
    generalize cs.getD i 0 = c at *
    have hmul : 0 ≤ c * u2 ∧ c * u2 ≤ 4 * 1073741824 := mul_bd (by omega) hcb.2 a3 a4
    repeat' (conv => whnf
             first | refine ⟨i, _, rfl, hg, ?_⟩ | (refine CondOb.mk (fun _ => ?_) (fun _ => ?_) <;> first | (exfalso; omega) | skip) | refine ArOb.fits (by first | omega | (simp only [ints_len] at *; omega)) ?_ | refine LitOb.vec ?_ | refine MakeOb.vec ?_ | refine AllocOb.box ?_ | refine AsgOb.vec ?_ | refine AggOb.mk (by decide +kernel) ?_ | refine ArU.fits (by first | omega | (simp only [ints_len] at *; omega)) ?_ | refine ArB.fits (by first | omega | (simp only [ints_len] at *; omega)) ?_ | refine CutOb.split ?_ | refine Gh.mk [] ?_ | refine And.intro (And.intro (by (simp only [List.length_append, List.length_take, List.length_drop, List.length_cons, List.length_nil, ints_len, List.length_replicate, lnl, fll, stl]; omega)) (by (simp only [List.length_append, List.length_take, List.length_drop, List.length_cons, List.length_nil, ints_len, List.length_replicate, lnl, fll, stl]; omega))) ?_ | refine ⟨_, _, rfl, ints_get (by first | omega | (simp only [ints_len] at *; omega)), ?_⟩ | refine ⟨_, _, (Int.toNat_of_nonneg (by first | omega | (simp only [ints_len] at *; omega))).symm, ints_get (by first | omega | (simp only [ints_len] at *; omega)), ?_⟩ | refine DrawOb.mk [] (.qs [0, 1, 2, 3] (.l 4 [1] (.qs [5, 6] (.l 7 [] .nil .no)) .no)) (by decide +kernel) ?_ | refine DrawOb.mk [] (.qs [0, 1, 2, 3, 4, 5, 6, 7, 8, 9, 10, 11, 12, 13, 15, 16, 17, 18, 19, 20, 21, 22, 23, 24, 25, 26] (.l 14 [24, 22, 18, 16] (.qs [27, 28] .nil) .no)) (by decide +kernel) ?_ | (refine CallOb.mk [] c5 rfl ⟨hA, Imp.refl _, trivial⟩ rfl rfl ?_; rintro _ _ ⟨rfl, rfl⟩) | (refine CallOb.mk [] c6 rfl ⟨hZ, Imp.refl _, trivial⟩ rfl rfl ?_; rintro _ _ ⟨rfl, rfl⟩) | (refine CallOb.mk [] cI rfl (ImpL.refl _) rfl rfl ?_; rintro _ _ ⟨rfl, rfl⟩) | fail)
    all_goals try (conv => whnf)
    · exact absurd hm (by assumption)
    · exact ⟨i + 1, [0, 1], by omega, by omega, by (refine Le.mk (by kernel_rfl) ?_ ?_ <;> repeat' (first | exact True.intro | refine And.intro ?_ ?_ | exact Imp.refl _ | exact Imp.any _ | exact Imp.num (by first | omega | simp only [ints_len]) | exact rfl | exact Imp.bl (by simp)))⟩
  · repeat' (conv => whnf
             first | (refine CondOb.mk (fun _ => ?_) (fun _ => ?_) <;> first | (exfalso; omega) | skip) | refine ArOb.fits (by first | omega | (simp only [ints_len] at *; omega)) ?_ | refine LitOb.vec ?_ | refine MakeOb.vec ?_ | refine AllocOb.box ?_ | refine AsgOb.vec ?_ | refine AggOb.mk (by decide +kernel) ?_ | refine ArU.fits (by first | omega | (simp only [ints_len] at *; omega)) ?_ | refine ArB.fits (by first | omega | (simp only [ints_len] at *; omega)) ?_ | refine CutOb.split ?_ | refine Gh.mk [] ?_ | refine And.intro (And.intro (by (simp only [List.length_append, List.length_take, List.length_drop, List.length_cons, List.length_nil, ints_len, List.length_replicate, lnl, fll, stl]; omega)) (by (simp only [List.length_append, List.length_take, List.length_drop, List.length_cons, List.length_nil, ints_len, List.length_replicate, lnl, fll, stl]; omega))) ?_ | refine ⟨_, _, rfl, ints_get (by first | omega | (simp only [ints_len] at *; omega)), ?_⟩ | refine ⟨_, _, (Int.toNat_of_nonneg (by first | omega | (simp only [ints_len] at *; omega))).symm, ints_get (by first | omega | (simp only [ints_len] at *; omega)), ?_⟩ | refine DrawOb.mk [] (.qs [0, 1, 2, 3] (.l 4 [1] (.qs [5, 6] (.l 7 [] .nil .no)) .no)) (by decide +kernel) ?_ | refine DrawOb.mk [] (.qs [0, 1, 2, 3, 4, 5, 6, 7, 8, 9, 10, 11, 12, 13, 15, 16, 17, 18, 19, 20, 21, 22, 23, 24, 25, 26] (.l 14 [24, 22, 18, 16] (.qs [27, 28] .nil) .no)) (by decide +kernel) ?_ | (refine CallOb.mk [] (sane_ok) rfl (ImpL.refl _) rfl rfl ?_; rintro _ _ ⟨rfl, rfl⟩) | fail)
    all_goals try (conv => whnf)
    rfl
end Go.Proofs.Ytnlmmjmcackgjaa
