/-
  A text of the proofs of this seat: lemmas that the statements' proofs use; it states nothing of the program by itself beyond the contracts that its theorems bear. Conditions: those that stand in each theorem. Its short name: Np3.
-/
import Derived.Test.YtbbbmkjfmcnnfaaPl
set_option linter.unusedVariables false
set_option linter.unusedSimpArgs false
namespace Go.Np
open Go.Cv
/-! a net with other names -/
def xname (i : Nat) : ByteArray := ⟨#[120, (97 + i).toUInt8]⟩
def yname (i : Nat) : ByteArray := ⟨#[121, (97 + i).toUInt8]⟩
theorem xname_word : ∀ i < 4, WordP (xname i) := by decide +kernel
theorem yname_word : ∀ i < 5, WordP (yname i) := by decide +kernel
theorem xname_inj : ∀ i < 4, ∀ j < 4, xname i = xname j → i = j := by decide +kernel
theorem yname_inj : ∀ i < 5, ∀ j < 5, yname i = yname j → i = j := by decide +kernel
def xs (t : Nat) : List ByteArray := (List.range t).map xname
theorem xs_len {t : Nat} : (xs t).length = t := by simp [xs]
theorem xs_succ {t : Nat} : xs (t + 1) = xs t ++ [xname t] := by simp [xs, List.range_succ]
theorem xs_get {t i : Nat} (h : i < t) : (xs t).getD i bs0 = xname i := by simp [xs, List.getD_eq_getElem?_getD, h]
def yf (f : Fl) (i : Nat) : Fl := ⟨yname i, f.rt, f.cl, f.lo, f.hi, f.v, f.p, f.q⟩
def fr (l : List Fl) (j : Nat) : List Fl := (List.range l.length).map fun i => if i < j then yf (l.getD i fl0) i else l.getD i fl0
theorem fr_len {l : List Fl} {j : Nat} : (fr l j).length = l.length := by simp [fr]
theorem fr_zero {l : List Fl} : fr l 0 = l := by
  apply List.ext_getElem
  · simp [fr]
  · intro i h1 h2; simp [fr, List.getD_eq_getElem?_getD, h2]
theorem fr_get {l : List Fl} {i j : Nat} (h : i < l.length) : (fr l j).getD i fl0 = if i < j then yf (l.getD i fl0) i else l.getD i fl0 := by simp [fr, List.getD_eq_getElem?_getD, h]
theorem fr_out {l : List Fl} {i j : Nat} (h : ¬i < l.length) : (fr l j).getD i fl0 = l.getD i fl0 := by
  rw [List.getD_eq_getElem?_getD, List.getD_eq_getElem?_getD, List.getElem?_eq_none (by rw [fr_len]; omega), List.getElem?_eq_none (by omega)]
theorem fr_step {l : List Fl} {j : Nat} (h : j < l.length) : (fr l j).set j (yf (l.getD j fl0) j) = fr l (j + 1) := by
  apply List.ext_getElem
  · simp [fr]
  · intro i h1 h2
    rw [List.getElem_set]
    simp only [fr, List.getElem_map, List.getElem_range]
    by_cases e : j = i
    · subst e; rw [if_pos rfl, if_pos (by omega)]
    · rw [if_neg e]; simp only [show i < j ↔ i < j + 1 by omega]
theorem fr_all {l : List Fl} {i j : Nat} : ((fr l j).getD i fl0).rt = (l.getD i fl0).rt ∧ ((fr l j).getD i fl0).cl = (l.getD i fl0).cl ∧ ((fr l j).getD i fl0).lo = (l.getD i fl0).lo ∧ ((fr l j).getD i fl0).hi = (l.getD i fl0).hi := by
  by_cases h : i < l.length
  · rw [fr_get h]; split <;> exact ⟨rfl, rfl, rfl, rfl⟩
  · rw [fr_out h]; exact ⟨rfl, rfl, rfl, rfl⟩
def rn (n : Nt) : Nt := ⟨xs n.ln.length, n.ln, fr n.fl n.fl.length⟩
theorem hop_rn {n : Nt} {f l : Int} : hop (rn n) f l = hop n f l := by
  unfold hop rn
  dsimp only
  rw [fr_len, (fr_all (l := n.fl) (i := f.toNat) (j := n.fl.length)).1]
theorem usr_rn {n : Nt} {l : Int} : ∀ {i : Nat}, usr (rn n) l i = usr n l i
  | 0 => rfl
  | i + 1 => by simp only [usr]; rw [hop_rn, usr_rn]
theorem users_rn {n : Nt} {l : Int} : users (rn n) l = users n l := by
  unfold users
  rw [usr_rn, show (rn n).fl.length = n.fl.length from fr_len]
theorem mbr_rn {n : Nt} {c : Int} : ∀ {a : List Int}, mbr (rn n) c a = mbr n c a
  | [] => rfl
  | x :: a => by
    simp only [mbr]
    rw [mbr_rn, show ((rn n).fl.getD x.toNat fl0).cl = (n.fl.getD x.toNat fl0).cl from fr_all.2.1]
theorem members_rn {n : Nt} {l c : Int} : members (rn n) l c = members n l c := by unfold members; rw [users_rn, mbr_rn]
theorem szs_rn {n : Nt} : ∀ {a : List Int}, szs (rn n) a = szs n a
  | [] => rfl
  | x :: r => by
    have hl : ∀ i, ((rn n).fl.getD i fl0).lo = (n.fl.getD i fl0).lo := fun i => (fr_all (l := n.fl) (i := i) (j := n.fl.length)).2.2.1
    have hh : ∀ i, ((rn n).fl.getD i fl0).hi = (n.fl.getD i fl0).hi := fun i => (fr_all (l := n.fl) (i := i) (j := n.fl.length)).2.2.2
    simp only [szs, hl, hh]
theorem NtG.chk_rn {k : Nat} {n : Nt} (g : NtG k n) : chkN (rn n) = 0 := by
  have h1 := g.ll
  have h2 := g.fl
  have hfl : (rn n).fl.length = n.fl.length := fr_len
  refine chkN_ok (by rw [hfl]; show ¬(n.ln.length = 0 ∨ 8 < n.ln.length ∨ _); omega) xs_len ?_ ?_
  · intro i hi
    have hi : i < n.ln.length := hi
    have e : (rn n).nm.getD i bs0 = xname i := xs_get hi
    have hf : nmErr ((rn n).nm.take i) ((rn n).nm.getD i bs0) = 0 := by
      rw [e]
      refine nm_fresh (xname_word i (by omega)) fun h => ?_
      obtain ⟨j, hj, hj2, e2⟩ := mem_take (d := bs0) h
      rw [show (rn n).nm.getD j bs0 = xname j from xs_get (by omega)] at e2
      have := xname_inj i (by omega) j (by omega) e2
      omega
    unfold lineE
    rw [hf, if_neg (by simp)]
    exact (g.le _ (getD_in hi)).1
  · intro i hi
    rw [hfl] at hi
    have e : (rn n).fl.getD i fl0 = yf (n.fl.getD i fl0) i := by
      show (fr n.fl n.fl.length).getD i fl0 = _
      rw [fr_get hi, if_pos hi]
    have hf : nmErr (((rn n).fl.take i).map (·.nm)) ((rn n).fl.getD i fl0).nm = 0 := by
      rw [e]
      refine nm_fresh (yname_word i (by omega)) fun h => ?_
      obtain ⟨x, hx, e1⟩ := List.mem_map.1 h
      obtain ⟨j, hj, hj2, e2⟩ := mem_take (d := fl0) hx
      rw [e2, show (rn n).fl.getD j fl0 = yf (n.fl.getD j fl0) j by show (fr n.fl n.fl.length).getD j fl0 = _; rw [fr_get (by omega), if_pos (by omega)]] at e1
      have := yname_inj j (by omega) i (by omega) e1
      omega
    have G := g.fg _ (getD_in (d := fl0) hi)
    have hr : routeE (rn n).ln (yf (n.fl.getD i fl0) i) = 0 := G.route rfl (fun l hl => (g.le l hl).2)
    have hv := G.valid
    unfold flowE
    rw [hf, if_neg (by simp), e, hr, if_neg (by simp)]
    have l1 := G.lo
    have l2 := G.hi
    obtain ⟨b, _, _, _, _, hv0, _⟩ := G.ct
    unfold trafE yf
    dsimp only
    rw [if_neg (by omega), if_neg (fun h => h hv.1), if_neg (by rw [hv0]; simp), if_neg (fun h => h hv.2)]
end Go.Np
