/-
  A text of the proofs of this seat: lemmas that the statements' proofs use; it states nothing of the program by itself beyond the contracts that its theorems bear. Conditions: those that stand in each theorem. Its short name: Q12.
-/
import Derived.Test.YtbdahmfjeklgbaaQ11
import Derived.Test.YtbdahmfjeklgbaaP6
import Derived.Test.YtbdahmfjeklgbaaPl
set_option linter.unusedVariables false
set_option linter.unusedSimpArgs false
namespace Go.Proofs.Ytbdahmfjeklgbaa
open Go.Sx Go.Fq Go.Dt
set_option maxHeartbeats 1000000
theorem cc_val {p : Pr} {sc : Int} (hv : VP p) (sc1 : 1 ≤ sc) (hd : ∀ f ∈ p.c, f.2 ∣ sc) {k : Nat} (hk : k < p.c.length) : at' p.c k = (cc p sc k : Rat) / (sc : Rat) := by
  have h0 := rq0 (show 0 < sc by omega)
  have h1 := all_at hv.2.2.2.1 (i := k) hk
  have h2 := all_at (P := fun f => f.2 ∣ sc) hd (i := k) hk
  unfold cc at'
  rw [if_pos hk, iv_val h1 h2]; grind
theorem cc_hi {p : Pr} {sc : Int} {k : Nat} (hk : p.c.length ≤ k) : cc p sc k = 0 := by unfold cc; rw [if_neg (by omega)]
theorem dir_nn {p : Pr} {s : TS} {d : Int} {c : Nat} (hd : 0 < d) (hle : ∀ i < p.r.length, s.1 i c ≤ 0) (k : Nat) : 0 ≤ dir p.r.length s.1 (bN s) d c k := by
  have h1 : 0 ≤ sI p.r.length (fun j => -(if bN s j = k then s.1 j c else 0)) := sI_nonneg fun j hj => by
    have := hle j hj; split <;> omega
  have h2 : sI p.r.length (fun j => -(if bN s j = k then s.1 j c else 0)) = -sI p.r.length (fun j => if bN s j = k then s.1 j c else 0) := by
    have := sI_mul (f := fun j => if bN s j = k then s.1 j c else 0) (c := -1) (n := p.r.length)
    simp only [Int.neg_mul, Int.one_mul] at this; exact this
  unfold dir
  split <;> omega
/- a column without a bound: along its direction nothing changes -/
theorem dir_row {p : Pr} {by' : Nat → Int} {s0 s : TS} {co : Nat → Int} (hi : Inj p by' s0) (I : TI p s0 co s) (Z : Azr p s) {c l : Nat} (hc : c < nC p) (hl : l < p.r.length) :
    sI p.c.length (fun k => s0.1 l k * dir p.r.length s.1 (bN s) s.2.2 c k) = -(sg (by' l) * sns (p.r.getD l rw0) * dir p.r.length s.1 (bN s) s.2.2 c (p.c.length + l)) := by
  have hcE : c < nE p := by unfold nC at hc; unfold nE; omega
  have h1 := sI_dir (n := nE p) (g := fun k => s0.1 l k) (f := s.1) (bs := bN s) (d := s.2.2) (c := c) (m := p.r.length) (fun j hj hb => by have := I.bs j hj; unfold bN at hb; omega) (fun h => by omega)
  have h2 := I.inv.col c (by omega) l hl
  have h3 : sI p.r.length (fun j => s0.1 l (bN s j) * s.1 j c) = sI p.r.length (fun j => s.1 j c * s0.1 l (bN s j)) := sI_congr fun j _ => Int.mul_comm _ _
  rw [h3, ← h2, Int.sub_self] at h1
  rw [show nE p = p.c.length + (p.r.length + p.r.length) by unfold nE; omega, sI_split, sI_split] at h1
  have e1 : sI p.r.length (fun i => s0.1 l (p.c.length + i) * dir p.r.length s.1 (bN s) s.2.2 c (p.c.length + i)) = sg (by' l) * sns (p.r.getD l rw0) * dir p.r.length s.1 (bN s) s.2.2 c (p.c.length + l) := by
    rw [sI_one hl (fun j hj hn => by rw [(hi.1 l hl).sl j hj, if_neg hn, Int.zero_mul]), (hi.1 l hl).sl l hl, if_pos rfl]
  have e2 : sI p.r.length (fun i => s0.1 l (p.c.length + (p.r.length + i)) * dir p.r.length s.1 (bN s) s.2.2 c (p.c.length + (p.r.length + i))) = 0 := by
    apply sI_zero; intro j hj
    have : dir p.r.length s.1 (bN s) s.2.2 c (p.c.length + (p.r.length + j)) = 0 := by
      unfold dir
      rw [if_neg (by unfold nC at hc; omega), sI_zero]
      · rfl
      · intro i hi'
        split
        · rename_i e
          exact Z i hi' (by have := I.bs i hi'; unfold bN at e; unfold nC; omega) c hc
        · rfl
    rw [this, Int.mul_zero]
  rw [e1, e2] at h1
  omega
end Go.Proofs.Ytbdahmfjeklgbaa
