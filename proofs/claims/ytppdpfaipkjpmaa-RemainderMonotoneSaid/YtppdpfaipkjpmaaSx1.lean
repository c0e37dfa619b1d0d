/-
  A text of the proofs of this seat: lemmas that the statements' proofs use; it states nothing of the program by itself beyond the contracts that its theorems bear. Conditions: those that stand in each theorem. Its short name: Sx1.
-/
import Derived.Calls
import Derived.Tactics
import Derived.OrdersHeld
set_option linter.unusedVariables false
set_option linter.unusedSimpArgs false
namespace Go.Sx

inductive SV where
  | any
  | num (k : IntKind) (n : Int)
  | bp (p : Prop)
  | bl (b : Bool)
  | str (s : ByteArray)
  | nil
  | psl (esz : Nat) (rows : List (List SV))
  | vec (h : Nat)
  | ptr (h off : Nat)
  | elt (h i off : Nat)
  | pptr (cells : List SV)
  | agg (l : List SV)
  | tup (l : List SV)
  | fn (f : Nat) (caps : List SV)
  | raw (v : Value)
  | shut (s : SV)

abbrev PH := Nat → Option (List Value)

structure HB where
  blk : Option Nat
  esz : Nat
  len : Nat
  cap : Nat

def HB.slice (x : HB) : Value := .slice (x.blk.map fun b => ⟨b, 0, none⟩) x.len x.cap

def scalar : Value → Bool
  | .agg _ | .tuple _ => false
  | _ => true
def At (σ : PH) (b off : Nat) (vs : List Value) : Prop := (∀ v ∈ vs, scalar v = true) ∧ ∃ pre post, σ b = some (pre ++ vs ++ post) ∧ pre.length = off

mutual
def rel (σ : PH) (β : List HB) : SV → Value → Prop
  | .any, _ => True
  | .num k n, v => v = .int k n
  | .bp p, v => ∃ b : Bool, v = .bool b ∧ (b = true ↔ p)
  | .bl b, v => v = .bool b
  | .str s, v => v = .string s
  | .nil, v => v = .slice none 0 0
  | .psl esz rows, v => ∃ a cap vss, v = .slice a rows.length cap ∧ rows.length ≤ cap ∧ relLL σ rows vss ∧ (∀ r ∈ rows, r.length = esz) ∧
      (rows = [] ∨ ∃ b off, a = some ⟨b, off, none⟩ ∧ At σ b off vss.flatten)
  | .vec h, v => ∃ x, β[h]? = some x ∧ v = x.slice
  | .ptr h off, v => ∃ x b, β[h]? = some x ∧ x.blk = some b ∧ v = .pointer (some ⟨b, off, none⟩)
  | .elt h i off, v => ∃ x b, β[h]? = some x ∧ x.blk = some b ∧ v = .pointer (some ⟨b, i * x.esz + off, none⟩)
  | .pptr cells, v => ∃ b off vs, v = .pointer (some ⟨b, off, none⟩) ∧ relL σ [] cells vs ∧ At σ b off vs
  | .agg l, v => ∃ vs, v = .agg vs.toArray ∧ relL σ β l vs
  | .tup l, v => ∃ vs, v = .tuple vs.toArray ∧ relL σ β l vs
  | .fn f caps, v => ∃ vs, v = .func (.func f) #[] vs.toArray ∧ relL σ β caps vs
  | .raw x, v => v = x
  | .shut s, v => rel σ [] s v
def relL (σ : PH) (β : List HB) : List SV → List Value → Prop
  | [], vs => vs = []
  | s :: ss, vs => ∃ v vs', vs = v :: vs' ∧ rel σ β s v ∧ relL σ β ss vs'
def relLL (σ : PH) : List (List SV) → List (List Value) → Prop
  | [], vss => vss = []
  | r :: rs, vss => ∃ vs vss', vss = vs :: vss' ∧ relL σ [] r vs ∧ relLL σ rs vss'
end

def PH.le (σ σ' : PH) : Prop := ∀ b cs, σ b = some cs → σ' b = some cs
def HB.le (β β' : List HB) : Prop := ∀ (h : Nat) (x : HB), β[h]? = some x → β'[h]? = some x

theorem At.mono {σ σ' : PH} (h : PH.le σ σ') {b off vs} : At σ b off vs → At σ' b off vs := by
  rintro ⟨hsc, p, q, e, l⟩; exact ⟨hsc, p, q, h _ _ e, l⟩

mutual
theorem rel.mono {σ σ' : PH} (hs : PH.le σ σ') {β β' : List HB} (hb : HB.le β β') : ∀ (s : SV) (v : Value), rel σ β s v → rel σ' β' s v
  | .any, _, _ => by simp [rel]
  | .num k n, v, h => by simpa [rel] using h
  | .bp p, v, h => by simpa [rel] using h
  | .bl b, v, h => by simpa [rel] using h
  | .str s, v, h => by simpa [rel] using h
  | .nil, v, h => by simpa [rel] using h
  | .psl esz rows, v, h => by
    simp only [rel] at h ⊢
    obtain ⟨a, cap, vss, e, hc, hr, hl, hat⟩ := h
    refine ⟨a, cap, vss, e, hc, relLL.mono hs rows vss hr, hl, ?_⟩
    rcases hat with h | ⟨b, off, ha, hat⟩
    · exact .inl h
    · exact .inr ⟨b, off, ha, hat.mono hs⟩
  | .vec h, v, hh => by simp only [rel] at hh ⊢; obtain ⟨x, hx, e⟩ := hh; exact ⟨x, hb _ _ hx, e⟩
  | .ptr h off, v, hh => by simp only [rel] at hh ⊢; obtain ⟨x, b, hx, e⟩ := hh; exact ⟨x, b, hb _ _ hx, e⟩
  | .elt h i off, v, hh => by simp only [rel] at hh ⊢; obtain ⟨x, b, hx, e⟩ := hh; exact ⟨x, b, hb _ _ hx, e⟩
  | .pptr cells, v, h => by
    simp only [rel] at h ⊢; obtain ⟨b, off, vs, e, hr, hat⟩ := h
    exact ⟨b, off, vs, e, relL.mono hs (fun _ _ h => h) cells vs hr, hat.mono hs⟩
  | .agg l, v, h => by simp only [rel] at h ⊢; obtain ⟨vs, e, hr⟩ := h; exact ⟨vs, e, relL.mono hs hb l vs hr⟩
  | .tup l, v, h => by simp only [rel] at h ⊢; obtain ⟨vs, e, hr⟩ := h; exact ⟨vs, e, relL.mono hs hb l vs hr⟩
  | .fn f caps, v, h => by simp only [rel] at h ⊢; obtain ⟨vs, e, hr⟩ := h; exact ⟨vs, e, relL.mono hs hb caps vs hr⟩
  | .raw x, v, h => by simpa [rel] using h
  | .shut s, v, h => by simp only [rel] at h ⊢; exact rel.mono hs (fun _ _ h => h) s v h
theorem relL.mono {σ σ' : PH} (hs : PH.le σ σ') {β β' : List HB} (hb : HB.le β β') : ∀ (l : List SV) (vs : List Value), relL σ β l vs → relL σ' β' l vs
  | [], vs, h => by simpa [relL] using h
  | s :: ss, vs, h => by
    simp only [relL] at h ⊢
    obtain ⟨v, vs', e, hr, hl⟩ := h
    exact ⟨v, vs', e, rel.mono hs hb s v hr, relL.mono hs hb ss vs' hl⟩
theorem relLL.mono {σ σ' : PH} (hs : PH.le σ σ') : ∀ (l : List (List SV)) (vss : List (List Value)), relLL σ l vss → relLL σ' l vss
  | [], vss, h => by simpa [relLL] using h
  | r :: rs, vss, h => by
    simp only [relLL] at h ⊢
    obtain ⟨vs, vss', e, hr, hl⟩ := h
    exact ⟨vs, vss', e, relL.mono hs (fun _ _ h => h) r vs hr, relLL.mono hs rs vss' hl⟩
end

theorem PH.le.refl (σ : PH) : PH.le σ σ := fun _ _ h => h
theorem PH.le.trans {a b c : PH} (h : PH.le a b) (k : PH.le b c) : PH.le a c := fun _ _ e => k _ _ (h _ _ e)
theorem HB.le.refl (β : List HB) : HB.le β β := fun _ _ h => h
theorem HB.le.trans {a b c : List HB} (h : HB.le a b) (k : HB.le b c) : HB.le a c := fun _ _ e => k _ _ (h _ _ e)
theorem HB.le_append (β l : List HB) : HB.le β (β ++ l) := fun h x e => by
  have : h < β.length := by
    rcases Nat.lt_or_ge h β.length with h' | h'
    · exact h'
    · rw [List.getElem?_eq_none h'] at e; cases e
  rw [List.getElem?_append_left this]; exact e

theorem relL_length {σ : PH} {β : List HB} : ∀ {l : List SV} {vs : List Value}, relL σ β l vs → vs.length = l.length
  | [], vs, h => by simp only [relL] at h; simp [h]
  | s :: ss, vs, h => by simp only [relL] at h; obtain ⟨v, vs', rfl, _, hl⟩ := h; simp [relL_length hl]
theorem relL_cons {σ : PH} {β : List HB} {s ss v vs} : relL σ β (s :: ss) (v :: vs) ↔ rel σ β s v ∧ relL σ β ss vs := by
  simp only [relL]; constructor
  · rintro ⟨v', vs', e, h1, h2⟩; cases e; exact ⟨h1, h2⟩
  · rintro ⟨h1, h2⟩; exact ⟨v, vs, rfl, h1, h2⟩
theorem relL_get {σ : PH} {β : List HB} : ∀ {l : List SV} {vs : List Value}, relL σ β l vs → ∀ {i : Nat} {s : SV}, l[i]? = some s → ∃ v, vs[i]? = some v ∧ rel σ β s v
  | [], vs, _, i, s, e => by simp at e
  | x :: ss, vs, h, i, s, e => by
    simp only [relL] at h; obtain ⟨v, vs', rfl, hr, hl⟩ := h
    cases i with
    | zero => simp at e; subst e; exact ⟨v, by simp, hr⟩
    | succ i => simp at e; obtain ⟨u, hu, hr'⟩ := relL_get hl e; exact ⟨u, by simpa using hu, hr'⟩
theorem relL_set {σ : PH} {β : List HB} : ∀ {l : List SV} {vs : List Value}, relL σ β l vs → ∀ {i s v}, rel σ β s v → relL σ β (l.set i s) (vs.set i v)
  | [], vs, h, i, s, v, _ => by simp only [relL] at h; subst h; simp [relL]
  | x :: ss, vs, h, i, s, v, hs => by
    simp only [relL] at h; obtain ⟨u, vs', rfl, hr, hl⟩ := h
    cases i with
    | zero => simp only [List.set_cons_zero]; exact relL_cons.2 ⟨hs, hl⟩
    | succ i => simp only [List.set_cons_succ]; exact relL_cons.2 ⟨hr, relL_set hl hs⟩
theorem relL_append {σ : PH} {β : List HB} : ∀ {l l' : List SV} {vs vs' : List Value}, relL σ β l vs → relL σ β l' vs' → relL σ β (l ++ l') (vs ++ vs')
  | [], l', vs, vs', h, h' => by simp only [relL] at h; subst h; simpa using h'
  | x :: ss, l', vs, vs', h, h' => by
    simp only [relL] at h; obtain ⟨u, vs1, rfl, hr, hl⟩ := h
    simp only [List.cons_append]; exact relL_cons.2 ⟨hr, relL_append hl h'⟩
theorem relL_take {σ : PH} {β : List HB} : ∀ (n : Nat) {l : List SV} {vs : List Value}, relL σ β l vs → relL σ β (l.take n) (vs.take n)
  | 0, l, vs, _ => by simp [relL]
  | n + 1, [], vs, h => by simp only [relL] at h; subst h; simp [relL]
  | n + 1, x :: ss, vs, h => by
    simp only [relL] at h; obtain ⟨u, vs1, rfl, hr, hl⟩ := h
    simp only [List.take_succ_cons]; exact relL_cons.2 ⟨hr, relL_take n hl⟩
theorem relL_drop {σ : PH} {β : List HB} : ∀ (n : Nat) {l : List SV} {vs : List Value}, relL σ β l vs → relL σ β (l.drop n) (vs.drop n)
  | 0, l, vs, h => by simpa using h
  | n + 1, [], vs, h => by simp only [relL] at h; subst h; simp [relL]
  | n + 1, x :: ss, vs, h => by
    simp only [relL] at h; obtain ⟨u, vs1, rfl, hr, hl⟩ := h
    simp only [List.drop_succ_cons]; exact relL_drop n hl
theorem relLL_length {σ : PH} : ∀ {l : List (List SV)} {vss : List (List Value)}, relLL σ l vss → vss.length = l.length
  | [], vs, h => by simp only [relLL] at h; simp [h]
  | s :: ss, vs, h => by simp only [relLL] at h; obtain ⟨v, vs', rfl, _, hl⟩ := h; simp [relLL_length hl]
theorem relLL_cons {σ : PH} {s ss v vs} : relLL σ (s :: ss) (v :: vs) ↔ relL σ [] s v ∧ relLL σ ss vs := by
  simp only [relLL]; constructor
  · rintro ⟨v', vs', e, h1, h2⟩; cases e; exact ⟨h1, h2⟩
  · rintro ⟨h1, h2⟩; exact ⟨v, vs, rfl, h1, h2⟩
theorem relLL_append {σ : PH} : ∀ {l l' : List (List SV)} {vs vs' : List (List Value)}, relLL σ l vs → relLL σ l' vs' → relLL σ (l ++ l') (vs ++ vs')
  | [], l', vs, vs', h, h' => by simp only [relLL] at h; subst h; simpa using h'
  | x :: ss, l', vs, vs', h, h' => by
    simp only [relLL] at h; obtain ⟨u, vs1, rfl, hr, hl⟩ := h
    simp only [List.cons_append]; exact relLL_cons.2 ⟨hr, relLL_append hl h'⟩
theorem relLL_take {σ : PH} : ∀ (n : Nat) {l : List (List SV)} {vs : List (List Value)}, relLL σ l vs → relLL σ (l.take n) (vs.take n)
  | 0, l, vs, _ => by simp [relLL]
  | n + 1, [], vs, h => by simp only [relLL] at h; subst h; simp [relLL]
  | n + 1, x :: ss, vs, h => by
    simp only [relLL] at h; obtain ⟨u, vs1, rfl, hr, hl⟩ := h
    simp only [List.take_succ_cons]; exact relLL_cons.2 ⟨hr, relLL_take n hl⟩
theorem relLL_drop {σ : PH} : ∀ (n : Nat) {l : List (List SV)} {vs : List (List Value)}, relLL σ l vs → relLL σ (l.drop n) (vs.drop n)
  | 0, l, vs, h => by simpa using h
  | n + 1, [], vs, h => by simp only [relLL] at h; subst h; simp [relLL]
  | n + 1, x :: ss, vs, h => by
    simp only [relLL] at h; obtain ⟨u, vs1, rfl, hr, hl⟩ := h
    simp only [List.drop_succ_cons]; exact relLL_drop n hl
theorem relLL_get {σ : PH} : ∀ {l : List (List SV)} {vs : List (List Value)}, relLL σ l vs → ∀ {i : Nat} {s : List SV}, l[i]? = some s → ∃ v, vs[i]? = some v ∧ relL σ [] s v
  | [], vs, _, i, s, e => by simp at e
  | x :: ss, vs, h, i, s, e => by
    simp only [relLL] at h; obtain ⟨v, vs', rfl, hr, hl⟩ := h
    cases i with
    | zero => simp at e; subst e; exact ⟨v, by simp, hr⟩
    | succ i => simp at e; obtain ⟨u, hu, hr'⟩ := relLL_get hl e; exact ⟨u, by simpa using hu, hr'⟩
theorem relLL_set {σ : PH} : ∀ {l : List (List SV)} {vs : List (List Value)}, relLL σ l vs → ∀ {i s v}, relL σ [] s v → relLL σ (l.set i s) (vs.set i v)
  | [], vs, h, i, s, v, _ => by simp only [relLL] at h; subst h; simp [relLL]
  | x :: ss, vs, h, i, s, v, hs => by
    simp only [relLL] at h; obtain ⟨u, vs', rfl, hr, hl⟩ := h
    cases i with
    | zero => simp only [List.set_cons_zero]; exact relLL_cons.2 ⟨hs, hl⟩
    | succ i => simp only [List.set_cons_succ]; exact relLL_cons.2 ⟨hr, relLL_set hl hs⟩

/- rows of one length, flat: the i-th row lies at i * esz. -/
theorem flat_length {esz : Nat} : ∀ {vss : List (List Value)}, (∀ r ∈ vss, r.length = esz) → vss.flatten.length = vss.length * esz
  | [], _ => by simp
  | v :: vs, h => by
    simp only [List.flatten_cons, List.length_append, List.length_cons]
    rw [flat_length (fun r hr => h r (by simp [hr])), h v (by simp), Nat.add_mul, Nat.one_mul, Nat.add_comm]
theorem relLL_rows {σ : PH} {esz : Nat} : ∀ {l : List (List SV)} {vss : List (List Value)}, relLL σ l vss → (∀ r ∈ l, r.length = esz) → ∀ r ∈ vss, r.length = esz
  | [], vss, h, _ => by simp only [relLL] at h; simp [h]
  | r :: rs, vss, h, hl => by
    simp only [relLL] at h; obtain ⟨v, vs', rfl, hr, ht⟩ := h
    intro x hx
    rcases List.mem_cons.1 hx with rfl | hx
    · rw [relL_length hr]; exact hl _ (by simp)
    · exact relLL_rows ht (fun r hr => hl r (by simp [hr])) x hx
theorem flat_split {esz : Nat} {vss : List (List Value)} (h : ∀ r ∈ vss, r.length = esz) {i : Nat} {vs : List Value} (hi : vss[i]? = some vs) :
    vss.flatten = (vss.take i).flatten ++ vs ++ (vss.drop (i + 1)).flatten ∧ (vss.take i).flatten.length = i * esz := by
  obtain ⟨hlt, rfl⟩ := List.getElem?_eq_some_iff.1 hi
  constructor
  · have e : vss = vss.take i ++ vss[i] :: vss.drop (i + 1) := by rw [← List.drop_eq_getElem_cons hlt, List.take_append_drop]
    have := congrArg List.flatten e
    rw [List.flatten_append, List.flatten_cons] at this
    rw [List.append_assoc]; exact this
  · rw [flat_length (esz := esz) (fun r hr => h r (List.mem_of_mem_take hr)), List.length_take, Nat.min_eq_left (by omega)]
end Go.Sx
