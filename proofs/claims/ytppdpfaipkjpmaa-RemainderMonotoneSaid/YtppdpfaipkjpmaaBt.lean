/-
  A text of the proofs of this seat: lemmas that the statements' proofs use; it states nothing of the program by itself beyond the contracts that its theorems bear. Conditions: those that stand in each theorem. Its short name: Bt.
-/
import Derived.Test.YtppdpfaipkjpmaaAw
set_option linter.unusedVariables false
set_option linter.unusedSimpArgs false
namespace Go.Cv
/-! plain laws behind the statements of the remainder -/
def exZ : C3 := ([0], 1, 0)
theorem exZ_v : VC exZ := ⟨by decide, by decide, by decide, by decide, by decide, by decide, by decide, by decide, mono_dec (by decide), fun h => by revert h; decide, fun _ => by decide⟩
theorem cv_exZ (t : Nat) : cv exZ t = 0 := by
  unfold cv val exZ
  by_cases h : t < 1
  · have : t = 0 := by omega
    subst this; rfl
  · rw [if_neg (by simpa using h)]
    have : t - ((t - [(0 : Int)].length) / 1 + 1) * 1 = 0 := by simp; omega
    rw [this]
    simp [INF]
theorem exZ_nf : NF (fun _ => 0) exZ.1 exZ.2.1 exZ.2.2 := ⟨0, by decide, fun t _ => rfl, fun s' p' q' h _ => h, fun s' _ => Nat.zero_le _, rfl⟩
theorem mk_zero {x : List Int × Int × Int × Int} (h : MkP (fun _ => 0) x) : x = ([0], 1, 0, 0) := h.uniq (mk_self exZ_v exZ_nf)
theorem exZ_nf' : NF (cv exZ) exZ.1 exZ.2.1 exZ.2.2 := by
  have : cv exZ = fun _ => 0 := funext cv_exZ
  rw [this]; exact exZ_nf
/- a curve in normal form, of the function of another -/
def NrmOf (f a : C3) : Prop := VC a ∧ NF (cv f) a.1 a.2.1 a.2.2
theorem NrmOf.cv {f a : C3} (h : NrmOf f a) (t : Nat) : cv a t = Cv.cv f t := h.1.sound h.2 t
theorem NrmOf.self {f a : C3} (h : NrmOf f a) : NF (Cv.cv a) a.1 a.2.1 a.2.2 := by
  have : Cv.cv a = Cv.cv f := funext h.cv
  rw [this]; exact h.2
theorem NrmOf.uniq {f a b : C3} (h : NrmOf f a) (h' : NrmOf f b) : a = b := by
  obtain ⟨h1, h2, h3⟩ := h.2.uniq h'.2
  exact Prod.ext h1 (Prod.ext h2 h3)
theorem inf_late_cv {a : C3} (ha : VC a) (hf : ¬FinC a) {t : Nat} : infAt a.1 t ↔ cv a t = INF := by
  have n1 := ha.n1
  constructor
  · intro h
    unfold infAt at h
    by_cases ht : t < a.1.length
    · rw [Nat.min_eq_left (by omega)] at h
      unfold cv; rw [val_lt ht]; exact h
    · rw [Nat.min_eq_right (by omega)] at h
      exact ha.val_inf h h t (by omega)
  · intro h
    by_cases ht : t < a.1.length
    · unfold cv at h; rw [val_lt ht] at h
      unfold infAt; rw [Nat.min_eq_left (by omega)]; exact h
    · exact inf_late hf (by omega)
theorem dif_zero {a : C3} (ha : VC a) : dif a exZ = cv a := by
  funext t
  have hz : ¬infAt exZ.1 t := (show FinC exZ by decide).not exZ_v t
  unfold dif
  rw [if_neg hz, cv_exZ]
  by_cases hf : FinC a
  · rw [if_neg (hf.not ha t)]; omega
  · by_cases hi : infAt a.1 t
    · rw [if_pos hi, (inf_late_cv ha hf).1 hi]
    · rw [if_neg hi]; omega
theorem rmx_self {F : Nat → Int} (h0 : ∀ t, 0 ≤ F t) (hm : Mono F) : rmx F = F := by
  funext t
  have h1 := rmx_ge F (Nat.le_refl t)
  have h2 := rmx_le (d := F) (h0 t) (t := t) (fun s hs => hm.le hs)
  omega
theorem amn_zero {a : C3} (ha : VC a) : amn a exZ = cv a := by
  funext t
  unfold amn
  rw [dif_zero ha]
  have h1 := wmn_le (d := cv a) (n := frm a exZ + com a exZ) (Nat.le_refl t) (by omega)
  have h2 : cv a t ≤ wmn (cv a) (frm a exZ + com a exZ) t := wmn_ge (fun u h3 _ => VF.cvle ha h3)
  have := cv_nonneg ha t
  omega
theorem amn_le_dif {a b : C3} {t s : Nat} (ha : VC a) (hb : VC b) (fb : FinC b) (hd : FinC a → 0 ≤ drf a b) (h : t ≤ s) : amn a b t ≤ max 0 (dif a b s) := by
  obtain ⟨r, h1, h2, h3⟩ := down ha hb fb hd h
  have := wmn_le (d := dif a b) (n := frm a b + com a b) h1 (by omega)
  unfold amn; omega
theorem amn_ge {a b : C3} {t : Nat} {m : Int} (h0 : m ≤ 0 ∨ True) (h : ∀ s, t ≤ s → m ≤ max 0 (dif a b s)) : m ≤ amn a b t := by
  obtain ⟨s, h1, h2, h3⟩ := wmn_at (dif a b) (frm a b + com a b) t
  have := h s h1
  unfold amn; omega
/- with the second curve added again -/
theorem back_ge {a b r : C3} (ha : VC a) (hb : VC b) (hr : VC r) (h : ∀ t, cv r t = rmx (dif a b) t) {t : Nat} (ht : t ≤ 1048576) : cv a t ≤ pls r b t := by
  unfold pls
  split
  · by_cases hi : infAt a.1 t
    · rw [(ha.inf_iff ht).2 hi |> fun e => (show cv a t = INF from e)]; exact Int.le_refl _
    · have := cv_small ha ht hi; simp only [INF]; omega
  · rename_i hn
    have hnb : ¬infAt b.1 t := fun h => hn (.inr h)
    have hnr : ¬infAt r.1 t := fun h => hn (.inl h)
    have h1 := rmx_ge (dif a b) (Nat.le_refl t)
    rw [← h t] at h1
    by_cases hi : infAt a.1 t
    · exfalso
      have h2 := cv_small hr ht hnr
      rw [(dif_inf ha hb ht).2 ⟨hi, hnb⟩] at h1
      simp only [INF] at h1; omega
    · unfold dif at h1
      rw [if_neg hnb, if_neg hi] at h1
      omega
theorem amn_le_rmx {a b : C3} (ha : VC a) (hb : VC b) (fb : FinC b) (hd : FinC a → 0 ≤ drf a b) (t : Nat) : amn a b t ≤ rmx (dif a b) t := by
  have h1 := amn_le_dif ha hb fb hd (Nat.le_refl t)
  have h2 := rmx_ge (dif a b) (Nat.le_refl t)
  have := rmx_nonneg (dif a b) t
  omega
end Go.Cv
