/-
  A text of the proofs of this seat: lemmas that the statements' proofs use; it states nothing of the program by itself beyond the contracts that its theorems bear. Conditions: those that stand in each theorem. Its short name: N7 S6.
-/
import Derived.Test.YtaomhdljcdadaaaGreatVc
import Derived.Test.YtaomhdljcdadaaaGreatT1
import Derived.Test.YtaomhdljcdadaaaGreatMq
set_option linter.unusedVariables false
set_option linter.unusedSimpArgs false
section
namespace Go.Proofs.YtaomhdljcdadaaaGreat
open Go.Sx Go.Np Go.Cv
set_option maxRecDepth 4000
set_option maxHeartbeats 2000000
theorem NL.lnat {n : Nt} (h : NL n) {i : Nat} (hi : i < n.ln.length) : LL (n.ln.getD i ln0) := ⟨(h.lw _ (getD_in hi)).1, (h.lw _ (getD_in hi)).2⟩
theorem NL.flat {n : Nt} (h : NL n) {i : Nat} (hi : i < n.fl.length) : FL (n.fl.getD i fl0) := ⟨(h.fs _ (getD_in hi)).1, (h.fs _ (getD_in hi)).2.1, (h.fs _ (getD_in hi)).2.2⟩
theorem mtw_take {l : List ByteArray} {i : Nat} (h : i < l.length) (h0 : nmErr (l.take i) (l.getD i bs0) = 0) : mtw (l.take i) (l.getD i bs0) = l.take (i + 1) := by
  unfold mtw; rw [if_pos h0, take_succ' (d := bs0) h]
theorem flowE_eq (n : Nt) (i : Nat) : flowE n i = if nmErr ((n.fl.take i).map (·.nm)) (n.fl.getD i fl0).nm ≠ 0 then nmErr ((n.fl.take i).map (·.nm)) (n.fl.getD i fl0).nm
  else if routeE n.ln (n.fl.getD i fl0) ≠ 0 then routeE n.ln (n.fl.getD i fl0) else trf (n.fl.getD i fl0) := by unfold flowE trf; rfl
theorem aP_N7 {A B K : Prop} (k : K) (a : A := by (simp only [zA, zT, zD, zC, zN, ints_len, zR, Go.Cv.vals_len]; omega)) (b : B := by (simp only [zA, zT, zD, zC, zN, ints_len, zR, Go.Cv.vals_len]; omega)) : (A ∧ B) ∧ K := ⟨⟨a, b⟩, k⟩
theorem Check_ok (n : Nt) (hn : NL n) : Ctr Tryz.prog 85 [ntv n] [] (fun r o => o = [] ∧ r = i64 (chkN n)) := by
  refine fn_intro (E := env 0) tys_ok rfl rfl rfl Tryz.func85 (by kernel_rfl) rfl (by kernel_rfl) ?_
  have h1 := hn.nm
  have h2 := hn.ln
  have h3 := hn.fl
  have hs := stl n.nm
  have hll := lnl n.ln
  have hfl := fll n.fl
  (repeat' (conv => whnf); first | (refine aC (fun _ => ?_) (fun _ => ?_) <;> try (exfalso; omega)) | refine aS ?_ | refine aG ?_ | refine aD ?_ | refine aH ?_ | refine aP_N7 ?_ | refine aI ?_ | refine aJ ?_ | fail); all_goals try (conv => whnf)
  · exact ⟨rfl, by unfold chkN; rw [if_pos (by omega)]; rfl⟩
  · exact ⟨rfl, by unfold chkN; rw [if_pos (by omega)]; rfl⟩
  · exact ⟨rfl, by unfold chkN; rw [if_pos (by omega)]; rfl⟩
  · exact ⟨rfl, by unfold chkN; rw [if_neg (by omega), if_pos (by omega)]; rfl⟩
  have g1 : ¬(n.ln.length = 0 ∨ 8 < n.ln.length ∨ 10 < n.fl.length) := by omega
  have g2 : n.nm.length = n.ln.length := by omega
  refine LoopOb.mk (Y := Nat) (st := fun i => ⟨[(41, i64 i), (40, i64 (lns n.ln).length), (39, .psl 5 (lns n.ln)), (3, .mp 1), (1, .ptr 0 0)], [.box [.psl 1 (strs n.nm), .psl 5 (lns n.ln), .psl 8 (fls n.fl)], .mapS (mts (n.nm.take i))]⟩)
    (inv := fun i => i ≤ n.ln.length ∧ ∀ j < i, lineE n j = 0) (fun i => n.ln.length - i) 0 [0, 1] ⟨by omega, by omega⟩ (by rw [List.take_zero]; (exact aL)) ?_
  rintro i ⟨hi, hv⟩
  (repeat' (conv => whnf); first | refine aS ?_ | refine aG ?_ | refine aD ?_ | refine aH ?_ | refine aP_N7 ?_ | refine aI ?_ | refine aJ ?_ | fail); all_goals try (conv => whnf)
  refine CondOb.mk (fun hlt => ?_) (fun hlt => ?_)
  · have hil : i < n.ln.length := by omega
    have hE : lineE n i = if nmErr (n.nm.take i) (n.nm.getD i bs0) ≠ 0 then nmErr (n.nm.take i) (n.nm.getD i bs0) else lnErr (n.ln.getD i ln0) := rfl
    have hst : lineE n i = 0 → ∀ j < i + 1, lineE n j = 0 := fun h j hj => by
      by_cases e : j = i
      · rw [e]; exact h
      · exact hv j (by omega)
    have hat : lineE n i ≠ 0 → chkN n = lineE n i := fun h => chkN_line g1 g2 hil hv h
    have hg := lng hil
    have hsg := stg (l := n.nm) (i := i) (by omega)
    have hL := hn.lnat hil
    have hS := hn.ns _ (getD_in (d := bs0) (show i < n.nm.length by omega))
    have ht := mtw_take (l := n.nm) (i := i) (by omega)
    generalize n.ln.getD i ln0 = l at *
    have cF := fresh_ok (n.nm.take i) (n.nm.getD i bs0) hS
    generalize n.nm.getD i bs0 = s at *
    generalize nmErr (n.nm.take i) s = e1 at *
    have cL := lCheck_ok l hL
    generalize lnErr l = e2 at *
    generalize lineE n i = E at *
    (repeat' (conv => whnf); first | (refine aC (fun _ => ?_) (fun _ => ?_) <;> try (exfalso; omega)) | refine aS ?_ | refine aG ?_ | refine aD ?_ | refine aH ?_ | refine aP_N7 ?_ | refine aI ?_ | refine aJ ?_ | refine ⟨i, _, rfl, hg, ?_⟩ | refine ⟨i, _, rfl, hsg, ?_⟩ | (refine aK [1] cF ?_) | (refine aK [] cL ?_) | fail); all_goals try (conv => whnf)
    all_goals first
      | exact ⟨rfl, by rw [if_pos (by assumption)] at hE; rw [hat (by omega), hE]; rfl⟩
      | exact ⟨rfl, by rw [if_neg (by assumption)] at hE; rw [hat (by omega), hE]; rfl⟩
      | (rw [if_neg (by assumption)] at hE; exact ⟨i + 1, [0, 1], ⟨by omega, hst (by omega)⟩, by omega, by rw [← ht (by omega)]; (exact aL)⟩)
      | trace_state
  have hln : ∀ j < n.ln.length, lineE n j = 0 := fun j hj => hv j (by omega)
  (repeat' (conv => whnf); first | (refine aC (fun _ => ?_) (fun _ => ?_) <;> try (exfalso; omega)) | refine aS ?_ | refine aG ?_ | refine aD ?_ | refine aH ?_ | refine aP_N7 ?_ | refine aI ?_ | refine aJ ?_ | fail); all_goals try (conv => whnf)
  refine LoopOb.mk (Y := Nat) (st := fun i => ⟨[(66, i64 i), (65, i64 (fls n.fl).length), (64, .psl 8 (fls n.fl)), (8, .mp 1), (1, .ptr 0 0)], [.box [.psl 1 (strs n.nm), .psl 5 (lns n.ln), .psl 8 (fls n.fl)], .mapS (mts ((n.fl.take i).map (·.nm)))]⟩)
    (inv := fun i => i ≤ n.fl.length ∧ ∀ j < i, flowE n j = 0) (fun i => n.fl.length - i) 0 [0, 2] ⟨by omega, by omega⟩ (by rw [List.take_zero]; (exact aL)) ?_
  rintro i ⟨hi, hv⟩
  (repeat' (conv => whnf); first | refine aS ?_ | refine aG ?_ | refine aD ?_ | refine aH ?_ | refine aP_N7 ?_ | refine aI ?_ | refine aJ ?_ | fail); all_goals try (conv => whnf)
  refine CondOb.mk (fun hlt => ?_) (fun hlt => ?_)
  · have hil : i < n.fl.length := by omega
    have hE := flowE_eq n i
    have hst : flowE n i = 0 → ∀ j < i + 1, flowE n j = 0 := fun h j hj => by
      by_cases e : j = i
      · rw [e]; exact h
      · exact hv j (by omega)
    have hat : flowE n i ≠ 0 → chkN n = flowE n i := fun h => chkN_flow g1 g2 hln hil hv h
    have hg := flg hil
    have hL := hn.flat hil
    have ht : nmErr ((n.fl.take i).map (·.nm)) (n.fl.getD i fl0).nm = 0 → mtw ((n.fl.take i).map (·.nm)) (n.fl.getD i fl0).nm = (n.fl.take (i + 1)).map (·.nm) := fun h => by
      unfold mtw; rw [if_pos h, take_succ' (d := fl0) hil]; simp
    generalize n.fl.getD i fl0 = f at *
    have cF := fresh_ok ((n.fl.take i).map (·.nm)) f.nm hL.nm
    have cR := route_ok n h2 f hL
    have cT := traffic_ok f hL
    generalize nmErr ((n.fl.take i).map (·.nm)) f.nm = e1 at *
    generalize routeE n.ln f = e2 at *
    generalize trf f = e3 at *
    generalize flowE n i = E at *
    (repeat' (conv => whnf); first | (refine aC (fun _ => ?_) (fun _ => ?_) <;> try (exfalso; omega)) | refine aS ?_ | refine aG ?_ | refine aD ?_ | refine aH ?_ | refine aP_N7 ?_ | refine aI ?_ | refine aJ ?_ | refine ⟨i, _, rfl, hg, ?_⟩ | (refine aK [1] cF ?_) | (refine aK [] cR ?_) | (refine aK [] cT ?_) | fail); all_goals try (conv => whnf)
    all_goals first
      | exact ⟨rfl, by rw [if_pos (by omega)] at hE; rw [hat (by omega), hE]; rfl⟩
      | exact ⟨rfl, by rw [if_neg (by omega), if_pos (by omega)] at hE; rw [hat (by omega), hE]; rfl⟩
      | exact ⟨rfl, by rw [if_neg (by omega), if_neg (by omega)] at hE; rw [hat (by omega), hE]; rfl⟩
      | (rw [if_neg (by omega), if_neg (by omega)] at hE; exact ⟨i + 1, [0, 1], ⟨by omega, hst (by omega)⟩, by omega, by rw [← ht (by omega)]; (exact aL)⟩)
      | trace_state
  · (repeat' (conv => whnf); first | (refine aC (fun _ => ?_) (fun _ => ?_) <;> try (exfalso; omega)) | refine aS ?_ | refine aG ?_ | refine aD ?_ | refine aH ?_ | refine aP_N7 ?_ | refine aI ?_ | refine aJ ?_ | fail); all_goals try (conv => whnf)
    exact ⟨rfl, by rw [chkN_ok g1 g2 hln (fun j hj => hv j (by omega))]; rfl⟩
end Go.Proofs.YtaomhdljcdadaaaGreat
end
section
namespace Go.Proofs.YtaomhdljcdadaaaGreat
open Go.Sx Go.Pk Go.Mc Go.Np
set_option maxRecDepth 4000
set_option maxHeartbeats 2000000
/-! what is wrong with packets -/
abbrev nbx (n : Nt) : Chunk := .box [.psl 1 (strs n.nm), .psl 5 (lns n.ln), .psl 8 (fls n.fl)]
theorem sck_steps {n : Nt} {p : List Pk} (h0 : chkN n = 0) (h1 : ¬60 < p.length) {i : Nat} (hi : i < p.length) (hv : sckN n p i = 0) :
    (bdP n (p.getD i pk0) → sck n p = 2) ∧ (¬bdP n (p.getD i pk0) → (p.getD i pk0).t < lst p i → sck n p = 7) ∧ (¬bdP n (p.getD i pk0) → ¬(p.getD i pk0).t < lst p i → sckN n p (i + 1) = 0) := by
  have hs0 : sckN n p (i + 1) = if bdP n (p.getD i pk0) then 2 else if (p.getD i pk0).t < lst p i then 7 else 0 := by simp only [sckN]; rw [if_neg (by omega)]
  have hE : sckN n p (i + 1) ≠ 0 → sck n p = sckN n p (i + 1) := fun h => by
    unfold sck; rw [if_neg (by omega), if_neg h1]; exact sckN_ge (by omega) h
  refine ⟨fun h => ?_, fun h h2 => ?_, fun h h2 => ?_⟩
  · rw [if_pos h] at hs0; rw [hE (by omega), hs0]
  · rw [if_neg h, if_pos h2] at hs0; rw [hE (by omega), hs0]
  · rw [if_neg h, if_neg h2] at hs0; exact hs0
theorem aP_S6 {A B K : Prop} (k : K) (a : A := by (simp only [zA, zT, zD, zC, zN, ints_len, zR, Go.Cv.vals_len]; omega)) (b : B := by (simp only [zA, zT, zD, zC, zN, ints_len, zR, Go.Cv.vals_len]; omega)) : (A ∧ B) ∧ K := ⟨⟨a, b⟩, k⟩
theorem SChk_ok (n : Nt) (hn : NL n) (p : List Pk) (hp : p.length ≤ 9223372036854775807) : Ctr Tryz.prog 42 [ntv n, .psl 3 (pks p)] [] (fun r o => o = [] ∧ r = i64 (sck n p)) := by
  refine fn_intro (E := env 0) tys_ok rfl rfl rfl Tryz.func42 (by kernel_rfl) rfl (by kernel_rfl) ?_
  have hpl := pks_len p
  have hfl := fll n.fl
  have hnf := hn.fl
  (repeat' (conv => whnf); first | (refine aC (fun _ => ?_) (fun _ => ?_) <;> try (exfalso; omega)) | refine aS ?_ | refine aG ?_ | refine aD ?_ | refine aH ?_ | refine aP_S6 ?_ | refine aI ?_ | refine aJ ?_ | fail); all_goals try (conv => whnf)
  refine aK [] (Check_ok n hn) ?_
  have h6 : chkN n ≠ 0 → sck n p = 6 := fun h => by unfold sck; rw [if_pos h]
  have h3 : chkN n = 0 → 60 < p.length → sck n p = 3 := fun h h' => by unfold sck; rw [if_neg (by omega), if_pos h']
  have hz : chkN n = 0 → ¬60 < p.length → sckN n p p.length = 0 → sck n p = 0 := fun h h' h2 => by unfold sck; rw [if_neg (by omega), if_neg h', h2]
  have hst := fun h0 h1 i => sck_steps (n := n) (p := p) h0 h1 (i := i)
  generalize sck n p = E at *
  generalize chkN n = e at *
  (repeat' (conv => whnf); first | (refine aC (fun _ => ?_) (fun _ => ?_) <;> try (exfalso; omega)) | refine aS ?_ | refine aG ?_ | refine aD ?_ | refine aH ?_ | refine aP_S6 ?_ | refine aI ?_ | refine aJ ?_ | fail); all_goals try (conv => whnf)
  · exact ⟨rfl, by rw [h6 (by assumption)]; rfl⟩
  · exact ⟨rfl, by rw [h3 (by omega) (by omega)]; rfl⟩
  refine LoopOb.mk (Y := Nat) (st := fun i => ⟨[(17, i64 i), (16, i64 (pks p).length), (15, .psl 3 (pks p)), (5, i64 (lst p i)), (2, .ptr 0 0)], [nbx n]⟩)
    (inv := fun i => i ≤ p.length ∧ sckN n p i = 0) (fun i => p.length - i) 0 [0] ⟨by omega, rfl⟩ (by (exact aL)) ?_
  rintro i ⟨hi, hv⟩
  (repeat' (conv => whnf); first | refine aS ?_ | refine aG ?_ | refine aD ?_ | refine aH ?_ | refine aP_S6 ?_ | refine aI ?_ | refine aJ ?_ | fail); all_goals try (conv => whnf)
  refine CondOb.mk (fun hlt => ?_) (fun hlt => ?_)
  · have hil : i < p.length := by omega
    have hg := pks_get hil
    obtain ⟨s1, s2, s3⟩ := hst (by omega) (by omega) i hil hv
    clear hst h6 h3 hz
    have hl : lst p (i + 1) = (p.getD i pk0).t := rfl
    unfold bdP pfl at s1 s2 s3
    generalize p.getD i pk0 = x at *
    generalize lst p i = y at *
    by_cases hfr : x.f < 0 ∨ (n.fl.length : Int) ≤ x.f
    · (repeat' (conv => whnf); first | refine ⟨i, _, rfl, hg, ?_⟩ | (refine aC (fun _ => ?_) (fun _ => ?_) <;> try (exfalso; omega)) | refine aS ?_ | refine aG ?_ | refine aD ?_ | refine aH ?_ | refine aP_S6 ?_ | refine aI ?_ | refine aJ ?_ | fail); all_goals try (conv => whnf)
      all_goals first
        | exact ⟨rfl, by rw [s1 (.inl (by omega))]; rfl⟩
        | trace_state
    · have hfg := flg (l := n.fl) (i := x.f.toNat) (by omega)
      generalize n.fl.getD x.f.toNat fl0 = f at *
      (repeat' (conv => whnf); first | refine ⟨x.f.toNat, _, by omega, hfg, ?_⟩ | refine ⟨i, _, rfl, hg, ?_⟩ | (refine aC (fun _ => ?_) (fun _ => ?_) <;> try (exfalso; omega)) | refine aS ?_ | refine aG ?_ | refine aD ?_ | refine aH ?_ | refine aP_S6 ?_ | refine aI ?_ | refine aJ ?_ | fail); all_goals try (conv => whnf)
      all_goals first
        | exact ⟨rfl, by rw [s1 (by omega)]; rfl⟩
        | exact ⟨rfl, by rw [s2 (by omega) (by omega)]; rfl⟩
        | exact ⟨i + 1, [0], ⟨by omega, s3 (by omega) (by omega)⟩, by omega, by rw [hl]; (exact aL)⟩
        | trace_state
  · obtain rfl : i = p.length := by omega
    (repeat' (conv => whnf); first | (refine aC (fun _ => ?_) (fun _ => ?_) <;> try (exfalso; omega)) | refine aS ?_ | refine aG ?_ | refine aD ?_ | refine aH ?_ | refine aP_S6 ?_ | refine aI ?_ | refine aJ ?_ | fail); all_goals try (conv => whnf)
    exact ⟨rfl, by rw [hz (by omega) (by omega) hv]; rfl⟩
end Go.Proofs.YtaomhdljcdadaaaGreat
end
