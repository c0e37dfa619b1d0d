/-
  A text of the proofs of this seat: lemmas that the statements' proofs use; it states nothing of the program by itself beyond the contracts that its theorems bear. Conditions: those that stand in each theorem. Its short name: Sx3.
-/
import Derived.Test.YtppdpfaipkjpmaaSx2
import Derived.Laws.Tables
import Derived.Laws.MakeOwn
import Derived.Laws.AppendOwn
import Derived.Laws.Wrap64
set_option linter.unusedVariables false
set_option linter.unusedSimpArgs false
namespace Go.Sx

/-! ### the types that a seat uses -/
structure TyD where
  size : Nat
  bytes : Nat
  desc : TypeDesc
  zero : Value
def TyOK (P : Program) (t : Nat) (d : TyD) : Prop :=
  (∃ i, P.info? t = some i ∧ i.size = d.size ∧ i.bytes = d.bytes ∧ i.zero = some d.zero) ∧ P.underlying t = some d.desc
theorem tyOK_mk {P : Program} {t : Nat} {d : TyD} (h1 : (P.info? t).map (fun i => (i.size, i.bytes, i.zero)) = some (d.size, d.bytes, some d.zero)) (h2 : P.underlying t = some d.desc) : TyOK P t d := by
  cases hi : P.info? t with
  | none => rw [hi] at h1; cases h1
  | some i => rw [hi] at h1; simp only [Option.map_some, Option.some.injEq, Prod.mk.injEq] at h1; exact ⟨⟨i, hi, h1.1, h1.2.1, h1.2.2⟩, h2⟩
structure Env where
  P : Program
  tys : List (Nat × TyD)
  npre : Nat
  free : Nat → Bool := fun _ => true
  nm : Bool := true
def look : List (Nat × TyD) → Nat → Option TyD
  | [], _ => none
  | (k, d) :: r, t => match Nat.beq k t with | true => some d | false => look r t
def EnvOK (E : Env) : Prop := ∀ p ∈ E.tys, TyOK E.P p.1 p.2
theorem look_ok {P : Program} : ∀ {l : List (Nat × TyD)} {t : Nat} {d : TyD}, (∀ p ∈ l, TyOK P p.1 p.2) → look l t = some d → TyOK P t d
  | [], t, d, _, e => by simp [look] at e
  | (k, d') :: r, t, d, h, e => by
    unfold look at e
    cases hb : Nat.beq k t with
    | true => rw [hb] at e; cases e; have := Nat.eq_of_beq_eq_true hb; subst this; exact h (k, d') (by simp)
    | false => rw [hb] at e; exact look_ok (fun p hp => h p (by simp [hp])) e
def aggD : TypeDesc → Bool
  | .struct _ => true
  | .array _ _ => true
  | _ => false

/-! ### values -/
def ofV1 : Value → SV
  | .int k n => .num k n
  | .bool b => .bl b
  | .slice none 0 0 => .nil
  | .string s => .str s
  | v => .raw v
def ofV : Value → SV
  | .agg cs => .agg (cs.toList.map ofV1)
  | v => ofV1 v
theorem rel_ofV1 (σ : PH) (β : List HB) (v : Value) : rel σ β (ofV1 v) v := by
  unfold ofV1; split <;> simp [rel]
theorem relL_ofV1 (σ : PH) (β : List HB) : ∀ l : List Value, relL σ β (l.map ofV1) l
  | [] => by simp [relL]
  | v :: l => by simp only [List.map_cons]; exact relL_cons.2 ⟨rel_ofV1 σ β v, relL_ofV1 σ β l⟩
theorem rel_ofV (σ : PH) (β : List HB) (v : Value) : rel σ β (ofV v) v := by
  unfold ofV; split
  · simp only [rel]; exact ⟨_, by simp, relL_ofV1 σ β _⟩
  · exact rel_ofV1 σ β v
def scS : SV → Bool
  | .any | .agg _ | .tup _ | .shut _ => false
  | .raw v => scalar v
  | _ => true
theorem scS_ok {σ β} : ∀ {s : SV} {v : Value}, scS s = true → rel σ β s v → scalar v = true
  | .any, _, h, _ | .agg _, _, h, _ | .tup _, _, h, _ | .shut _, _, h, _ => by simp [scS] at h
  | .num k n, v, _, h | .bl b, v, _, h | .str s, v, _, h | .nil, v, _, h => by simp only [rel] at h; subst h; rfl
  | .raw x, v, hs, h => by simp only [rel] at h; subst h; exact hs
  | .bp p, v, _, h => by simp only [rel] at h; obtain ⟨b, rfl, _⟩ := h; rfl
  | .psl _ _, v, _, h => by simp only [rel] at h; obtain ⟨a, cap, vss, rfl, _⟩ := h; rfl
  | .vec _, v, _, h => by simp only [rel] at h; obtain ⟨x, _, rfl⟩ := h; rfl
  | .ptr _ _, v, _, h => by simp only [rel] at h; obtain ⟨x, b, _, _, rfl⟩ := h; rfl
  | .elt _ _ _, v, _, h => by simp only [rel] at h; obtain ⟨x, b, _, _, rfl⟩ := h; rfl
  | .pptr _, v, _, h => by simp only [rel] at h; obtain ⟨b, off, vs, rfl, _⟩ := h; rfl
  | .fn _ _, v, _, h => by simp only [rel] at h; obtain ⟨vs, rfl, _⟩ := h; rfl
theorem scalar_cells {v : Value} (h : scalar v = true) : v.cells = #[v] := by cases v <;> simp [scalar, Value.cells] at h ⊢
def SV.cells : SV → Option (List SV)
  | .agg l => if l.all scS then some l else none
  | s => if scS s then some [s] else none
theorem relL_sc {σ β} : ∀ {l : List SV} {vs : List Value}, l.all scS = true → relL σ β l vs → ∀ v ∈ vs, scalar v = true
  | [], vs, _, h => by simp only [relL] at h; subst h; simp
  | s :: l, vs, hs, h => by
    simp only [relL] at h; obtain ⟨v, vs', rfl, hr, hl⟩ := h
    simp only [List.all_cons, Bool.and_eq_true] at hs
    intro u hu
    rcases List.mem_cons.1 hu with rfl | hu
    · exact scS_ok hs.1 hr
    · exact relL_sc hs.2 hl u hu
theorem cells_ok {σ β} {s : SV} {v : Value} {l : List SV} (hc : s.cells = some l) (h : rel σ β s v) :
    relL σ β l v.cells.toList ∧ (∀ u ∈ v.cells.toList, scalar u = true) := by
  have single : ∀ {s : SV}, scS s = true → l = [s] → rel σ β s v → relL σ β l v.cells.toList ∧ (∀ u ∈ v.cells.toList, scalar u = true) := by
    rintro s hs rfl hr
    have := scS_ok hs hr
    rw [scalar_cells this]
    refine ⟨relL_cons.2 ⟨hr, by simp [relL]⟩, ?_⟩
    intro u hu; simp at hu; subst hu; exact this
  unfold SV.cells at hc
  split at hc
  · split at hc
    · rename_i l' hall
      cases hc
      simp only [rel] at h
      obtain ⟨vs, rfl, hr⟩ := h
      exact ⟨by simpa [Value.cells] using hr, by simpa [Value.cells] using relL_sc hall hr⟩
    · cases hc
  · split at hc
    · rename_i hs; cases hc; exact single hs rfl h
    · cases hc
mutual
def closed : SV → Bool
  | .vec _ | .ptr _ _ | .elt _ _ _ => false
  | .agg l => closedL l
  | .tup l => closedL l
  | .fn _ l => closedL l
  | _ => true
def closedL : List SV → Bool
  | [] => true
  | s :: l => closed s && closedL l
end
mutual
theorem rel_closed {σ β} : ∀ (s : SV) (v : Value), closed s = true → rel σ β s v → rel σ [] s v
  | .vec _, _, h, _ | .ptr _ _, _, h, _ | .elt _ _ _, _, h, _ => by simp [closed] at h
  | .agg l, v, h, hr => by simp only [rel, closed] at *; obtain ⟨vs, e, hr⟩ := hr; exact ⟨vs, e, relL_closed l vs h hr⟩
  | .tup l, v, h, hr => by simp only [rel, closed] at *; obtain ⟨vs, e, hr⟩ := hr; exact ⟨vs, e, relL_closed l vs h hr⟩
  | .fn f l, v, h, hr => by simp only [rel, closed] at *; obtain ⟨vs, e, hr⟩ := hr; exact ⟨vs, e, relL_closed l vs h hr⟩
  | .any, _, _, _ => by simp [rel]
  | .num _ _, _, _, h | .bp _, _, _, h | .bl _, _, _, h | .str _, _, _, h | .nil, _, _, h | .raw _, _, _, h | .psl _ _, _, _, h | .pptr _, _, _, h | .shut _, _, _, h => by simpa only [rel] using h
theorem relL_closed {σ β} : ∀ (l : List SV) (vs : List Value), closedL l = true → relL σ β l vs → relL σ [] l vs
  | [], vs, _, h => by simpa only [relL] using h
  | s :: l, vs, h, hr => by
    simp only [relL, closedL, Bool.and_eq_true] at *
    obtain ⟨v, vs', e, h1, h2⟩ := hr
    exact ⟨v, vs', e, rel_closed s v h.1 h1, relL_closed l vs' h.2 h2⟩
end
theorem nbeq_false {a b : Nat} (h : Nat.beq a b = false) : a ≠ b := by rintro rfl; rw [Nat.beq_refl] at h; cases h

/-! ### forcing: the same, but reckoned to the end -/
def forceL {α : Type} : List α → (List α → Prop) → Prop
  | [], k => k []
  | x :: l, k => forceL l fun l' => k (x :: l')
theorem forceL_eq {α : Type} : ∀ (l : List α) (k : List α → Prop), forceL l k = k l
  | [], _ => rfl
  | x :: l, k => by simp only [forceL]; exact forceL_eq l _
def nats : List Nat := [0, 1, 2, 3, 4, 5, 6, 7, 8, 9, 10, 11, 12, 13, 14, 15, 16, 17, 18, 19, 20, 21, 22, 23, 24, 25, 26, 27, 28, 29, 30, 31, 32, 33, 34, 35, 36, 37, 38, 39, 40, 41, 42, 43, 44, 45, 46, 47, 48, 49, 50, 51, 52, 53, 54, 55, 56, 57, 58, 59, 60, 61, 62, 63, 64, 65, 66, 67, 68, 69, 70, 71, 72, 73, 74, 75, 76, 77, 78, 79, 80, 81, 82, 83, 84, 85, 86, 87, 88, 89, 90, 91, 92, 93, 94, 95, 96, 97, 98, 99, 100, 101, 102, 103, 104, 105, 106, 107, 108, 109, 110, 111, 112, 113, 114, 115, 116, 117, 118, 119, 120, 121, 122, 123, 124, 125, 126, 127, 128, 129, 130, 131, 132, 133, 134, 135, 136, 137, 138, 139, 140, 141, 142, 143, 144, 145, 146, 147, 148, 149, 150, 151, 152, 153, 154, 155, 156, 157, 158, 159]
def forceN (n : Nat) (k : Nat → Prop) : Prop :=
  match nats[n]? with
  | some m => k m
  | none => False
theorem nats_eq : nats = List.range 160 := by decide
theorem forceN_ok {n : Nat} {k : Nat → Prop} (h : forceN n k) : k n := by
  unfold forceN at h
  split at h
  · rename_i m hm
    rw [nats_eq] at hm
    obtain ⟨hlt, e⟩ := List.getElem?_eq_some_iff.1 hm
    simp at e; subst e; exact h
  · exact h.elim
def forceV0 (s : SV) (k : SV → Prop) : Prop :=
  match s with
  | .any => k .any
  | .num kd n => k (.num kd n)
  | .bp p => k (.bp p)
  | .bl b => k (.bl b)
  | .str s => k (.str s)
  | .nil => k .nil
  | .psl e r => k (.psl e r)
  | .vec h => k (.vec h)
  | .ptr h o => k (.ptr h o)
  | .elt h i o => k (.elt h i o)
  | .pptr c => k (.pptr c)
  | .agg l => k (.agg l)
  | .tup l => k (.tup l)
  | .fn f c => k (.fn f c)
  | .raw v => k (.raw v)
  | .shut s => k (.shut s)
theorem forceV0_eq (s : SV) (k : SV → Prop) : forceV0 s k = k s := by cases s <;> rfl
def forceFL (f : SV → (SV → Prop) → Prop) : List SV → (List SV → Prop) → Prop
  | [], k => k []
  | s :: l, k => f s fun s => forceFL f l fun l => k (s :: l)
theorem forceFL_eq {f : SV → (SV → Prop) → Prop} (hf : ∀ s k, f s k = k s) : ∀ (l : List SV) (k : List SV → Prop), forceFL f l k = k l
  | [], _ => rfl
  | s :: l, k => by simp only [forceFL, hf]; exact forceFL_eq hf l _
def forceF : Nat → SV → (SV → Prop) → Prop
  | 0, s, k => forceV0 s k
  | n + 1, s, k => match s with
    | .agg l => forceFL (forceF n) l fun l => k (.agg l)
    | .tup l => forceFL (forceF n) l fun l => k (.tup l)
    | .fn f l => forceFL (forceF n) l fun l => k (.fn f l)
    | .pptr l => forceFL (forceF n) l fun l => k (.pptr l)
    | .any => k .any
    | .num kd n => k (.num kd n)
    | .bp p => k (.bp p)
    | .bl b => k (.bl b)
    | .str s => k (.str s)
    | .nil => k .nil
    | .psl e r => k (.psl e r)
    | .vec h => k (.vec h)
    | .ptr h o => k (.ptr h o)
    | .elt h i o => k (.elt h i o)
    | .raw v => k (.raw v)
    | .shut s => k (.shut s)
theorem forceF_eq : ∀ (n : Nat) (s : SV) (k : SV → Prop), forceF n s k = k s
  | 0, s, k => forceV0_eq s k
  | n + 1, s, k => by cases s <;> simp only [forceF, forceFL_eq (forceF_eq n)]
def forceVL (l : List SV) (k : List SV → Prop) : Prop := forceFL (forceF 2) l k
theorem forceVL_eq (l : List SV) (k : List SV → Prop) : forceVL l k = k l := forceFL_eq (forceF_eq 2) l k
def forceC (c : Chunk) (k : Chunk → Prop) : Prop :=
  match c with
  | .box l => forceVL l fun l => k (.box l)
  | .vec e r => k (.vec e r)
  | .fro e r => k (.fro e r)
  | .frb l => k (.frb l)
  | .dead => k .dead
theorem forceC_eq (c : Chunk) (k : Chunk → Prop) : forceC c k = k c := by cases c <;> simp only [forceC, forceVL_eq]
def forceO : List Chunk → (List Chunk → Prop) → Prop
  | [], k => k []
  | c :: l, k => forceC c fun c => forceO l fun l => k (c :: l)
theorem forceO_eq : ∀ (l : List Chunk) (k : List Chunk → Prop), forceO l k = k l
  | [], _ => rfl
  | c :: l, k => by simp only [forceO, forceC_eq]; exact forceO_eq l _
def forceR : List (List SV) → (List (List SV) → Prop) → Prop
  | [], k => k []
  | r :: l, k => forceVL r fun r => forceR l fun l => k (r :: l)
theorem forceR_eq : ∀ (l : List (List SV)) (k : List (List SV) → Prop), forceR l k = k l
  | [], _ => rfl
  | r :: l, k => by simp only [forceR, forceVL_eq]; exact forceR_eq l _
def forceV (s : SV) (k : SV → Prop) : Prop :=
  match s with
  | .any => k .any
  | .num kd n => k (.num kd n)
  | .bp p => k (.bp p)
  | .bl b => k (.bl b)
  | .str s => k (.str s)
  | .nil => k .nil
  | .psl e r => k (.psl e r)
  | .vec h => forceN h fun h => k (.vec h)
  | .ptr h o => forceN h fun h => forceN o fun o => k (.ptr h o)
  | .elt h i o => forceN h fun h => forceN o fun o => k (.elt h i o)
  | .pptr c => forceVL c fun c => k (.pptr c)
  | .agg l => forceVL l fun l => k (.agg l)
  | .tup l => forceVL l fun l => k (.tup l)
  | .fn f c => forceVL c fun c => k (.fn f c)
  | .raw v => k (.raw v)
  | .shut s => k (.shut s)
theorem forceV_ok {s : SV} {k : SV → Prop} (h : forceV s k) : k s := by
  cases s <;> simp only [forceV, forceVL_eq] at h <;> first | exact h | exact forceN_ok h | exact forceN_ok (forceN_ok h) | exact forceN_ok (k := fun o => k (.ptr _ o)) (forceN_ok h) | exact forceN_ok (k := fun o => k (.elt _ _ o)) (forceN_ok h)

/-! ### the state -/
structure SS where
  tm : List (Nat × SV)
  own : List Chunk
def tlook : List (Nat × SV) → Nat → SV
  | [], _ => .any
  | (k, s) :: r, t => match Nat.beq k t with
    | true => s
    | false => tlook r t
def SS.ev (S : SS) (x : Operand) : SV :=
  match x with
  | .tmp t => tlook S.tm t
  | .const v => ofV v
  | .global g => .raw (.pointer (some ⟨g, 0, none⟩))
  | .func f => .fn f []
def SS.set (S : SS) (d : Option Tmp) (s : SV) : SS :=
  match d with
  | some d => ⟨(d, s) :: S.tm, S.own⟩
  | none => S
def SS.withTm (S : SS) (k : List (Nat × SV) → Prop) : Prop :=
  match S with
  | ⟨tm, _⟩ => k tm
def SS.un (S : SS) (k : List (Nat × SV) → List Chunk → Prop) : Prop :=
  match S with
  | ⟨tm, own⟩ => k tm own
theorem SS.un_eq (S : SS) (k : List (Nat × SV) → List Chunk → Prop) : S.un k = k S.tm S.own := rfl
theorem SS.withTm_eq (S : SS) (k : List (Nat × SV) → Prop) : S.withTm k = k S.tm := rfl
def SS.setK (S : SS) (d : Option Tmp) (s : SV) (k : SS → Prop) : Prop :=
  match S with
  | ⟨tm, own⟩ => match d with
    | some d => k ⟨(d, s) :: tm, own⟩
    | none => k ⟨tm, own⟩
theorem SS.setK_eq (S : SS) (d : Option Tmp) (s : SV) (k : SS → Prop) : S.setK d s k = k (S.set d s) := by cases S; cases d <;> rfl
def RT (σ : PH) (β : List HB) (tm : List (Nat × SV)) (tmps : Array Value) : Prop := ∀ t : Nat, rel σ β (tlook tm t) (tmps.getD t undef)
theorem RT.mono {σ σ' : PH} (hs : PH.le σ σ') {β β' : List HB} (hb : HB.le β β') {tm tmps} (h : RT σ β tm tmps) : RT σ' β' tm tmps := fun t => rel.mono hs hb _ _ (h t)
structure Par where
  n : Nat
  pin : Nat → Option Obj
  free : Nat → Bool
/- what is watched is as it was; what is free is not watched -/
structure PinOK (nt : Par) (w : World) (β : List HB) : Prop where
  at_ : ∀ b o, nt.pin b = some o → w.heap[b]? = some o
  fr : ∀ (h : Nat) (x : HB) (b : Nat), β[h]? = some x → nt.free h = true → x.blk = some b → nt.pin b = none
structure GG (w0 : World) (σ0 : PH) (β0 : List HB) (nt : Par) (σ : PH) (β : List HB) (S : SS) (a : Act) (w : World) : Prop where
  tm : RT σ β S.tm a.tmps
  sz : a.tmps.size = nt.n
  df : a.defers = []
  hp : HeapOK w σ β S.own
  fr : Fr w0 σ0 β0 w σ β
  pn : PinOK nt w β
def G (w0 : World) (σ0 : PH) (β0 : List HB) (nt : Par) (S : SS) (a : Act) (w : World) : Prop := ∃ σ β, GG w0 σ0 β0 nt σ β S a w
structure EOK (E : Env) (β0 : List HB) (nt : Par) : Prop where
  np : E.npre = β0.length
  fr : E.free = nt.free
  nm : E.nm = true → ∀ b, nt.pin b = none
theorem PinOK.lt {nt w β} (h : PinOK nt w β) {b : Nat} {o : Obj} (hb : nt.pin b = some o) : b < w.heap.size := lt_of_get (h.at_ b o hb)
theorem PinOK.new {nt w β} (h : PinOK nt w β) {b : Nat} (hb : w.heap.size ≤ b) : nt.pin b = none := by
  cases hp : nt.pin b with
  | none => rfl
  | some o => have := h.lt hp; omega
/- a step that leaves what is watched; new handles have free blocks -/
theorem PinOK.step {nt w w' β β'} (h : PinOK nt w β) (hk : ∀ b o, nt.pin b = some o → w.heap[b]? = some o → w'.heap[b]? = some o)
    (hn : ∀ (i : Nat) (x : HB) (b : Nat), β'[i]? = some x → nt.free i = true → x.blk = some b → β[i]? = some x ∨ nt.pin b = none) : PinOK nt w' β' :=
  ⟨fun b o hb => hk b o hb (h.at_ b o hb), fun i x b hi hf hb => by
    rcases hn i x b hi hf hb with h1 | h1
    · exact h.fr i x b h1 hf hb
    · exact h1⟩
theorem PinOK.alloc {nt w β} (h : PinOK nt w β) (o : Obj) : PinOK nt (w.alloc o) β :=
  h.step (fun b o' _ hb => by rw [heap_alloc_lt w o (lt_of_get hb)]; exact hb) (fun i x b hi _ _ => .inl hi)
theorem PinOK.push {nt w β} (h : PinOK nt w β) {x : HB} (hx : ∀ b, x.blk = some b → nt.pin b = none) : PinOK nt w (β ++ [x]) :=
  h.step (fun _ _ _ hb => hb) (fun i y b hi _ hb => by
    rcases getElem?_snoc hi with ⟨_, h4⟩ | ⟨_, rfl⟩
    · exact .inl h4
    · exact .inr (hx b hb))
theorem PinOK.put {nt w β} (h : PinOK nt w β) {b : Nat} {o : Obj} (hb : nt.pin b = none) : PinOK nt (put w b o) β :=
  h.step (fun k o' hk hk' => by rw [put_get_ne (by rintro rfl; rw [hb] at hk; cases hk)]; exact hk') (fun i x b hi _ _ => .inl hi)
theorem GG.ev {w0 σ0 β0 nt σ β S a w} (h : GG w0 σ0 β0 nt σ β S a w) (x : Operand) : rel σ β (S.ev x) (a.eval x) := by
  cases x with
  | tmp t => exact h.tm t
  | const v => exact rel_ofV σ β v
  | global g => simp [SS.ev, rel, Act.eval]
  | func f => simp only [SS.ev, rel, Act.eval]; exact ⟨[], rfl, by simp [relL]⟩
theorem GG.set {w0 σ0 β0 nt σ β S a w} (h : GG w0 σ0 β0 nt σ β S a w) {s : SV} {v : Value} (hr : rel σ β s v) (d : Option Tmp) (hd : ∀ t, d = some t → t < nt.n) :
    GG w0 σ0 β0 nt σ β (S.set d s) (a.put d v) w := by
  cases d with
  | none => exact h
  | some d =>
    refine ⟨fun t => ?_, by simpa [Act.put] using h.sz, h.df, h.hp, h.fr, h.pn⟩
    have hlt := hd d rfl
    rw [← h.sz] at hlt
    simp only [SS.set, Act.put, tlook]
    rw [Array.getD_eq_getD_getElem?, Array.getElem?_setIfInBounds]
    split
    · rename_i hb; have := Nat.eq_of_beq_eq_true hb; subst this
      rw [if_pos rfl, if_pos hlt]; exact hr
    · rename_i hb; rw [if_neg (nbeq_false hb), ← Array.getD_eq_getD_getElem?]; exact h.tm t
/-! ### what is frozen reads as persistent -/
mutual
def nrm (own : List Chunk) : SV → SV
  | .vec h => match own[h]? with
    | some (.fro e r) => .psl e r
    | _ => .vec h
  | .ptr h o => match own[h]? with
    | some (.frb cells) => match Nat.ble o cells.length with
      | true => .pptr (cells.drop o)
      | false => .ptr h o
    | _ => .ptr h o
  | .agg l => .agg (nrmL own l)
  | .tup l => .tup (nrmL own l)
  | .fn f l => .fn f (nrmL own l)
  | .any => .any
  | .num kd n => .num kd n
  | .bp p => .bp p
  | .bl b => .bl b
  | .str s => .str s
  | .nil => .nil
  | .psl e r => .psl e r
  | .elt h i o => .elt h i o
  | .pptr c => .pptr c
  | .raw v => .raw v
  | .shut s => .shut s
def nrmL (own : List Chunk) : List SV → List SV
  | [] => []
  | s :: l => nrm own s :: nrmL own l
end
mutual
theorem rel_nrm {w : World} {σ β own} (H : HeapOK w σ β own) : ∀ (s : SV) (v : Value), rel σ β s v → rel σ β (nrm own s) v
  | .vec h, v, hr => by
    simp only [nrm]; split
    · rename_i e r hc
      simp only [rel] at hr
      obtain ⟨x, hx, rfl⟩ := hr
      exact rel.mono (PH.le.refl _) (fun _ _ h => by simp at h) _ _ (H.ok _ _ _ hc hx).2
    · exact hr
  | .ptr h o, v, hr => by
    simp only [nrm]; split
    · rename_i cells hc
      split
      · rename_i hle
        have hle := Nat.le_of_ble_eq_true hle
        simp only [rel] at hr
        obtain ⟨x, b, hx, hb, rfl⟩ := hr
        obtain ⟨b', vs, hb', hrv, ⟨hscA, A, C, hσ, hA⟩⟩ := H.ok _ _ _ hc hx
        rw [hb] at hb'; cases hb'
        have hA0 : A = [] := List.length_eq_zero_iff.1 hA
        subst hA0
        have hlen := relL_length hrv
        simp only [rel]
        exact ⟨b, o, vs.drop o, rfl, relL_drop o hrv, ⟨fun v hv => hscA v (List.mem_of_mem_drop hv), vs.take o, C, by rw [hσ]; simp, by simp; omega⟩⟩
      · exact hr
    · exact hr
  | .agg l, v, hr => by simp only [rel, nrm] at *; obtain ⟨vs, e, hr⟩ := hr; exact ⟨vs, e, relL_nrm H l vs hr⟩
  | .tup l, v, hr => by simp only [rel, nrm] at *; obtain ⟨vs, e, hr⟩ := hr; exact ⟨vs, e, relL_nrm H l vs hr⟩
  | .fn f l, v, hr => by simp only [rel, nrm] at *; obtain ⟨vs, e, hr⟩ := hr; exact ⟨vs, e, relL_nrm H l vs hr⟩
  | .any, _, _ => by simp [rel, nrm]
  | .num _ _, _, h | .bp _, _, h | .bl _, _, h | .str _, _, h | .nil, _, h | .raw _, _, h | .psl _ _, _, h | .pptr _, _, h | .elt _ _ _, _, h | .shut _, _, h => by simpa only [nrm] using h
theorem relL_nrm {w : World} {σ β own} (H : HeapOK w σ β own) : ∀ (l : List SV) (vs : List Value), relL σ β l vs → relL σ β (nrmL own l) vs
  | [], vs, h => by simpa only [relL, nrmL] using h
  | s :: l, vs, hr => by
    simp only [relL, nrmL] at *
    obtain ⟨v, vs', e, h1, h2⟩ := hr
    exact ⟨v, vs', e, rel_nrm H s v h1, relL_nrm H l vs' h2⟩
end
def SS.evN (S : SS) (x : Operand) (k : SV → Prop) : Prop := forceV (nrm S.own (S.ev x)) k
theorem GG.evN {w0 σ0 β0 nt σ β S a w} (g : GG w0 σ0 β0 nt σ β S a w) {x : Operand} {k : SV → Prop} (h : S.evN x k) : ∃ s, rel σ β s (a.eval x) ∧ k s :=
  ⟨_, rel_nrm g.hp _ _ (g.ev x), forceV_ok h⟩
theorem GG.own {w0 σ0 β0 nt σ β S a w} (h : GG w0 σ0 β0 nt σ β S a w) : GG w0 σ0 β0 nt σ β ⟨S.tm, S.own⟩ a w := h
end Go.Sx
