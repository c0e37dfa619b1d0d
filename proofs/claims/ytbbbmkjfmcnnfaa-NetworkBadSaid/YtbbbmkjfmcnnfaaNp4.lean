/-
  A text of the proofs of this seat: lemmas that the statements' proofs use; it states nothing of the program by itself beyond the contracts that its theorems bear. Conditions: those that stand in each theorem. Its short name: Np4.
-/
import Derived.Test.YtbbbmkjfmcnnfaaNp3
set_option linter.unusedVariables false
set_option linter.unusedSimpArgs false
namespace Go.Np
open Go.Cv
/-! a net in which one flow is wrong -/
def setF (n : Nt) (i : Nat) (f : Fl) : Nt := ⟨n.nm, n.ln, n.fl.set i f⟩
theorem setF_get {n : Nt} {i : Nat} {f : Fl} (h : i < n.fl.length) : (setF n i f).fl.getD i fl0 = f := by
  simp [setF, List.getD_eq_getElem?_getD, h]
theorem setF_lt {n : Nt} {i j : Nat} {f : Fl} (h : j ≠ i) : (setF n i f).fl.getD j fl0 = n.fl.getD j fl0 := by
  simp [setF, List.getD_eq_getElem?_getD, List.getElem?_set_ne (Ne.symm h)]
theorem setF_take {n : Nt} {i j : Nat} {f : Fl} (h : j ≤ i) : (setF n i f).fl.take j = n.fl.take j := by
  show (n.fl.set i f).take j = _
  rw [List.take_set_of_le h]
theorem NtG.fresh {k : Nat} {n : Nt} (g : NtG k n) {i : Nat} (hi : i < n.fl.length) : nmErr ((n.fl.take i).map (·.nm)) (n.fl.getD i fl0).nm = 0 := by
  have h5 := g.fl
  rw [g.fn i hi]
  refine nm_fresh (fname_word i (by omega)) fun h => ?_
  obtain ⟨x, hx, e1⟩ := List.mem_map.1 h
  obtain ⟨j, hj, hj2, e2⟩ := mem_take (d := fl0) hx
  rw [e2, g.fn j (by omega)] at e1
  have := fname_inj j (by omega) i (by omega) e1
  omega
theorem setF_flow {k : Nat} {n : Nt} (g : NtG k n) {i : Nat} {f : Fl} (hi : i < n.fl.length) : ∀ j < i, flowE (setF n i f) j = 0 := by
  intro j hj
  have e : flowE (setF n i f) j = flowE n j := by
    unfold flowE
    rw [setF_take (by omega), setF_lt (by omega)]; rfl
  rw [e]; exact g.flow j (by omega)
theorem setF_chk {k : Nat} {n : Nt} (g : NtG k n) {i : Nat} {f : Fl} (hi : i < n.fl.length) {e : Int} (he : e ≠ 0) (h : flowE (setF n i f) i = e) : chkN (setF n i f) = e := by
  have h1 := g.ll
  have h2 := g.fl
  have hl : (setF n i f).fl.length = n.fl.length := by simp [setF]
  rw [← h]
  refine chkN_flow (by rw [hl]; show ¬(n.ln.length = 0 ∨ 8 < n.ln.length ∨ _); omega) g.nl (fun j hj => ?_) (by rw [hl]; exact hi) (setF_flow g hi) (by rw [h]; exact he)
  have e : lineE (setF n i f) j = lineE n j := rfl
  rw [e]; exact g.line j hj
/- the name is wrong -/
theorem bad_name {k : Nat} {n : Nt} (g : NtG k n) {i : Nat} {f : Fl} (hi : i < n.fl.length) (h : ¬WordP f.nm) : chkN (setF n i f) = 4 := by
  refine setF_chk g hi (by decide) ?_
  have e : nmErr ((n.fl.take i).map (·.nm)) f.nm = 4 := by unfold nmErr; rw [if_pos h]
  unfold flowE
  rw [setF_take (Nat.le_refl _), setF_get hi, e, if_pos (by decide)]
/- the route is wrong -/
theorem bad_route {k : Nat} {n : Nt} (g : NtG k n) {i : Nat} {f : Fl} (hi : i < n.fl.length) (hn : f.nm = (n.fl.getD i fl0).nm) {e : Int} (he : e ≠ 0) (h : routeE n.ln f = e) : chkN (setF n i f) = e := by
  refine setF_chk g hi he ?_
  unfold flowE
  rw [setF_take (Nat.le_refl _), setF_get hi, hn, g.fresh hi, if_neg (by decide)]
  show (if routeE n.ln f ≠ 0 then routeE n.ln f else _) = e
  rw [h, if_pos he]
open Classical in
theorem bad_traf {k : Nat} {n : Nt} (g : NtG k n) {i : Nat} {f : Fl} (hi : i < n.fl.length) (hn : f.nm = (n.fl.getD i fl0).nm) (hr : f.rt = (n.fl.getD i fl0).rt) (hc : f.cl = (n.fl.getD i fl0).cl) {e : Int} (he : e ≠ 0) (h : trafE (ValidP f.v f.p f.q) (FinP f.v) f = e) : chkN (setF n i f) = e := by
  refine setF_chk g hi he ?_
  have G := g.fg _ (getD_in (d := fl0) hi)
  have hr0 : routeE n.ln (n.fl.getD i fl0) = 0 := G.route rfl (fun l hl => (g.le l hl).2)
  have e1 : routeE n.ln f = 0 := by
    rw [← hr0]; unfold routeE
    rw [hr]
    have : hopE n.ln f = hopE n.ln (n.fl.getD i fl0) := by funext j; unfold hopE; rw [hr, hc]
    rw [this]
  unfold flowE
  rw [setF_take (Nat.le_refl _), setF_get hi, hn, g.fresh hi, if_neg (by decide)]
  show (if routeE n.ln f ≠ 0 then routeE n.ln f else _) = e
  rw [e1, if_neg (by decide)]
  exact h
theorem r_twice {m k : Nat} {ls : List Ln} {f : Fl} (g : FlG m k f) (hm : ls.length = m) (hk : ∀ l ∈ ls, l.n = k) : routeE ls ⟨f.nm, f.rt ++ [f.rt.getD 0 0], f.cl, f.lo, f.hi, f.v, f.p, f.q⟩ = 60 := by
  have r1 := g.r1
  unfold routeE
  dsimp only
  rw [List.length_append, List.length_singleton, if_neg (by omega), if_neg (by omega)]
  have hg : ∀ j < f.rt.length, (f.rt ++ [f.rt.getD 0 0]).getD j 0 = f.rt.getD j 0 := fun j hj => by
    simp [List.getD_eq_getElem?_getD, List.getElem?_append_left hj]
  have hl : (f.rt ++ [f.rt.getD 0 0]).getD f.rt.length 0 = f.rt.getD 0 0 := by simp [List.getD_eq_getElem?_getD]
  have h0 := g.rb _ (getD_in (d := 0) (show 0 < f.rt.length by omega))
  have hat : hopE ls ⟨f.nm, f.rt ++ [f.rt.getD 0 0], f.cl, f.lo, f.hi, f.v, f.p, f.q⟩ f.rt.length = 60 := by
    unfold hopE
    dsimp only
    rw [hl, if_neg (by omega), List.take_left' rfl, if_pos (getD_in (by omega))]
  rw [firstE_at (i := f.rt.length) (by omega) (fun j hj => ?_) (by rw [hat]; decide), hat]
  have hz := firstE_zero (f := hopE ls f) (m := f.rt.length) (by
    have := g.route hm hk
    unfold routeE at this
    rw [if_neg (by omega), if_neg (by omega)] at this
    exact this) j hj
  refine Eq.trans ?_ hz
  unfold hopE
  dsimp only
  rw [hg j hj, List.take_append_of_le_length (by omega)]
theorem r_range {ls : List Ln} {f : Fl} {c : Int} (h : f.rt.length ≤ 3) : routeE ls ⟨f.nm, (ls.length : Int) :: f.rt, f.cl, f.lo, f.hi, f.v, f.p, f.q⟩ = 2 := by
  unfold routeE
  dsimp only
  rw [List.length_cons, if_neg (by omega), if_neg (by omega)]
  have hat : hopE ls ⟨f.nm, (ls.length : Int) :: f.rt, f.cl, f.lo, f.hi, f.v, f.p, f.q⟩ 0 = 2 := by
    unfold hopE
    rw [if_pos (.inr (by simp))]
  rw [firstE_at (i := 0) (by omega) (fun j hj => by omega) (by rw [hat]; decide), hat]
end Go.Np
