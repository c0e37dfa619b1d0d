/-
  A text of the proofs of this seat: lemmas that the statements' proofs use; it states nothing of the program by itself beyond the contracts that its theorems bear. Conditions: those that stand in each theorem. Its short name: Sx4.
-/
import Derived.Test.YtppdpfaipkjpmaaSx3
import Derived.Laws.Strings
set_option linter.unusedVariables false
set_option linter.unusedSimpArgs false
namespace Go.Sx

def need {α : Type} (o : Option α) (k : α → Prop) : Prop :=
  match o with
  | some a => k a
  | none => False
theorem need_some {α : Type} {o : Option α} {k : α → Prop} (h : need o k) : ∃ a, o = some a ∧ k a := by
  cases o with
  | none => exact h.elim
  | some a => exact ⟨a, rfl, h⟩

/- 64-bit arithmetic: either the number fits, or it is wrapped. -/
inductive ArOb (x : Int) (k : Int → Prop) : Prop
  | fits (h : -9223372036854775808 ≤ x ∧ x ≤ 9223372036854775807) (hk : k x) : ArOb x k
  | wraps (hk : k (IntKind.i64.wrap x)) : ArOb x k
def arith (kd : IntKind) (x : Int) (k : Int → Prop) : Prop :=
  match kd with
  | .i64 => ArOb x k
  | kd => k (kd.wrap x)
theorem arith_ok {kd : IntKind} {x : Int} {k : Int → Prop} (h : arith kd x k) : k (kd.wrap x) := by
  cases kd <;> first | exact h | skip
  cases h with
  | fits h hk => rw [IntKind.wrap_i64]; have : (x + 9223372036854775808) % 18446744073709551616 - 9223372036854775808 = x := by omega
                 rw [this]; exact hk
  | wraps hk => exact hk
inductive CondOb (p : Prop) (A B : Prop) : Prop
  | mk (t : p → A) (f : ¬p → B) : CondOb p A B

def ikc : IntKind → Nat
  | .i8 => 0 | .i16 => 1 | .i32 => 2 | .i64 => 3 | .u8 => 4 | .u16 => 5 | .u32 => 6 | .u64 => 7
/- the kinds are the same: reckoned, no duty -/
def same (a b : IntKind) (p : Prop) : Prop :=
  match Nat.beq (ikc a) (ikc b) with
  | true => p
  | false => False
theorem same_ok {a b : IntKind} {p : Prop} (h : same a b p) : a = b ∧ p := by
  unfold same at h
  split at h
  · rename_i hb; exact ⟨by have := Nat.eq_of_beq_eq_true hb; revert this; cases a <;> cases b <;> simp [ikc], h⟩
  · exact h.elim
def binS (op : BinOp) (a b : SV) (k : SV → Prop) : Prop :=
  match a, b with
  | .num ka x, .num kb y =>
    match op with
    | .add => same ka kb (arith ka (x + y) fun r => k (.num ka r))
    | .sub => same ka kb (arith ka (x - y) fun r => k (.num ka r))
    | .mul => same ka kb (arith ka (x * y) fun r => k (.num ka r))
    | .quo => same ka kb (y ≠ 0 ∧ arith ka (x.tdiv y) fun r => k (.num ka r))
    | .rem => same ka kb (y ≠ 0 ∧ k (.num ka (x.tmod y)))
    | .eql => same ka kb (k (.bp (x = y)))
    | .neq => same ka kb (k (.bp (x ≠ y)))
    | .lss => same ka kb (k (.bp (x < y)))
    | .leq => same ka kb (k (.bp (x ≤ y)))
    | .gtr => same ka kb (k (.bp (y < x)))
    | .geq => same ka kb (k (.bp (y ≤ x)))
    | _ => False
  | .str x, .str y =>
    match op with
    | .eql => k (.bp (x = y))
    | .neq => k (.bp (x ≠ y))
    | _ => False
  | _, _ => False

theorem eqGuard_skip {P : Program} {op : BinOp} {t : TypeId} {x y : Operand} {a b : Value} (w : World) (h : (∃ k n, a = .int k n) ∨ (∃ s, a = .string s)) :
    (eqGuard op t x y a b).run P w = .ok () w := by
  rcases h with ⟨k, n, rfl⟩ | ⟨s, rfl⟩ <;> cases op <;> simp [eqGuard]

theorem ba_eq {x y : ByteArray} : (x.toList == y.toList) = true ↔ x = y := by
  simp only [beq_iff_eq]
  constructor
  · intro h; apply ByteArray.ext; rw [ByteArray.toList_eq, ByteArray.toList_eq] at h; exact Array.ext' h
  · rintro rfl; rfl

theorem binS_ok {P : Program} {σ : PH} {β : List HB} {op : BinOp} {t : TypeId} {x y : Operand} {sa sb : SV} {a b : Value} {k : SV → Prop}
    (h : binS op sa sb k) (ha : rel σ β sa a) (hb : rel σ β sb b) :
    ∃ v s, (∀ w, (do eqGuard op t x y a b; binOp op t a b : Sem Value).run P w = .ok v w) ∧ rel σ β s v ∧ k s := by
  unfold binS at h
  split at h
  · rename_i ka m kb n
    simp only [rel] at ha hb
    subst ha; subst hb
    split at h
    all_goals first
      | (obtain ⟨e, hq⟩ := same_ok h; clear h; subst e; exact ⟨_, _, (fun w => by simp [eqGuard, binOp, Op.intArith]; rfl), by simp only [rel], arith_ok hq⟩)
      | (obtain ⟨e, hy, hq⟩ := same_ok h; clear h; subst e; exact ⟨_, _, (fun w => by simp [eqGuard, binOp, Op.intDiv, hy]; rfl), by simp only [rel], arith_ok hq⟩)
      | (obtain ⟨e, hy, hq⟩ := same_ok h; clear h; subst e; exact ⟨_, _, (fun w => by simp [eqGuard, binOp, Op.intDiv, hy]; rfl), by simp only [rel], hq⟩)
      | (obtain ⟨e, hq⟩ := same_ok h; clear h; subst e; exact ⟨_, _, (fun w => by simp [eqGuard, binOp, Op.intCmp]; rfl), by simp only [rel]; exact ⟨_, rfl, by simp⟩, hq⟩)
      | exact h.elim
  · rename_i m n
    simp only [rel] at ha hb
    subst ha; subst hb
    split at h
    · exact ⟨_, _, (fun w => by simp [eqGuard, binOp, Op.stringOp]; rfl), by simp only [rel]; exact ⟨_, rfl, ba_eq⟩, h⟩
    · have e : (!(m.toList == n.toList)) = true ↔ m ≠ n := by rw [Bool.not_eq_true', ← Bool.not_eq_true, ba_eq]
      exact ⟨.bool (!(m.toList == n.toList)), _, (fun w => by simp [eqGuard, binOp, Op.stringOp]), by simp only [rel]; exact ⟨_, rfl, e⟩, h⟩
    · exact h.elim
  · exact h.elim
end Go.Sx
