/-
  A text of the proofs of this seat: lemmas that the statements' proofs use; it states nothing of the program by itself beyond the contracts that its theorems bear. Conditions: those that stand in each theorem. Its short name: Sx10.
-/
import Derived.Test.YtppdpfaipkjpmaaSx9
set_option linter.unusedVariables false
set_option linter.unusedSimpArgs false
namespace Go.Sx

/-! ### contracts -/
structure Ctr (P : Program) (f : Nat) (args : List SV) (own : List Chunk) (post : SV → List Chunk → Prop) : Prop where
  fn : ∃ fn, P.funcs[f]? = some fn ∧ (fn.name == "runtime.NumGoroutine") = false ∧ fn.body.isNone = false
  run : ∀ w σ β vs, HeapOK w σ β own → relL σ β args vs →
    Calls P f vs.toArray w fun e w' => ∃ v σ' β' own' r, e = .returned v ∧ HeapOK w' σ' β' own' ∧ Fr w σ β w' σ' β' ∧ rel σ' β' r v ∧ post r own'

theorem Ctr.mono {P f args own} {post post' : SV → List Chunk → Prop} (h : Ctr P f args own post) (hp : ∀ r o, post r o → post' r o) : Ctr P f args own post' :=
  ⟨h.1, fun w σ β vs h1 h2 => (h.2 w σ β vs h1 h2).mono fun _ _ ⟨v, σ', β', own', r, a, b, c, d, e⟩ => ⟨v, σ', β', own', r, a, b, c, d, hp _ _ e⟩⟩

def Imp (s s' : SV) : Prop := ∀ σ β v, rel σ β s v → rel σ β s' v
theorem Imp.refl (s : SV) : Imp s s := fun _ _ _ h => h
theorem Imp.of_eq {s s' : SV} (h : s = s') : Imp s s' := by subst h; exact Imp.refl s
theorem Imp.any (s : SV) : Imp s .any := fun _ _ _ _ => by simp [rel]
theorem Imp.trans {a b c : SV} (h : Imp a b) (k : Imp b c) : Imp a c := fun σ β v x => k σ β v (h σ β v x)
theorem Imp.bl {b : Bool} {p : Prop} (h : b = true ↔ p) : Imp (.bl b) (.bp p) := fun σ β v hv => by simp only [rel] at *; exact ⟨b, hv, h⟩
theorem Imp.bp {p q : Prop} (h : p ↔ q) : Imp (.bp p) (.bp q) := fun σ β v hv => by simp only [rel] at *; obtain ⟨b, e, hb⟩ := hv; exact ⟨b, e, hb.trans h⟩
theorem Imp.bpl {p : Prop} {b : Bool} (h : p ↔ b = true) : Imp (.bp p) (.bl b) := fun σ β v hv => by
  simp only [rel] at *; obtain ⟨c, e, hc⟩ := hv
  have : c = b := by cases c <;> cases b <;> simp_all
  rw [e, this]
theorem Imp.nil (esz : Nat) : Imp .nil (.psl esz []) := fun σ β v h => by simp only [rel] at *; exact ⟨none, 0, [], h, by simp, by simp [relLL], by simp, by simp⟩
theorem Imp.num {k : IntKind} {a b : Int} (h : a = b) : Imp (.num k a) (.num k b) := Imp.of_eq (by rw [h])
theorem Imp.psl {e : Nat} {a b : List (List SV)} (h : a = b) : Imp (.psl e a) (.psl e b) := Imp.of_eq (by rw [h])
def ImpL : List SV → List SV → Prop
  | [], [] => True
  | s :: l, s' :: l' => Imp s s' ∧ ImpL l l'
  | _, _ => False
theorem ImpL.ok : ∀ {l l' : List SV}, ImpL l l' → ∀ {σ β vs}, relL σ β l vs → relL σ β l' vs
  | [], [], _, _, _, _, h => h
  | s :: l, s' :: l', hi, σ, β, vs, h => by
    simp only [relL] at h; obtain ⟨v, vs', rfl, h1, h2⟩ := h
    exact relL_cons.2 ⟨hi.1 _ _ _ h1, hi.2.ok h2⟩
  | [], _ :: _, hi, _, _, _, _ => hi.elim
  | _ :: _, [], hi, _, _, _, _ => hi.elim
theorem ImpL.refl : ∀ l : List SV, ImpL l l
  | [] => trivial
  | s :: l => ⟨Imp.refl s, ImpL.refl l⟩
theorem Imp.agg {l l' : List SV} (h : ImpL l l') : Imp (.agg l) (.agg l') := fun σ β v hv => by simp only [rel] at *; obtain ⟨vs, e, hr⟩ := hv; exact ⟨vs, e, h.ok hr⟩
theorem Imp.tup {l l' : List SV} (h : ImpL l l') : Imp (.tup l) (.tup l') := fun σ β v hv => by simp only [rel] at *; obtain ⟨vs, e, hr⟩ := hv; exact ⟨vs, e, h.ok hr⟩

theorem Imp.unshut (s : SV) : Imp (.shut s) s := fun σ β v h => by simp only [rel] at h; exact rel.mono (PH.le.refl _) (fun _ _ h => by simp at h) _ _ h
theorem Imp.shut {s : SV} (hc : closed s = true) : Imp s (.shut s) := fun σ β v h => by simp only [rel]; exact rel_closed s v hc h
theorem Imp.fn {f : Nat} {l l' : List SV} (h : ImpL l l') : Imp (.fn f l) (.fn f l') := fun σ β v hv => by simp only [rel] at *; obtain ⟨vs, e, hr⟩ := hv; exact ⟨vs, e, h.ok hr⟩

/-! ### renaming of handles -/
mutual
def ren (ρ : Nat → Nat) : SV → SV
  | .vec h => .vec (ρ h)
  | .ptr h o => .ptr (ρ h) o
  | .elt h i o => .elt (ρ h) i o
  | .agg l => .agg (renL ρ l)
  | .tup l => .tup (renL ρ l)
  | .fn f l => .fn f (renL ρ l)
  | s => s
def renL (ρ : Nat → Nat) : List SV → List SV
  | [] => []
  | s :: l => ren ρ s :: renL ρ l
end
mutual
theorem rel_ren {σ} {β β' : List HB} {ρ : Nat → Nat} (hρ : ∀ (j : Nat) (x : HB), β[j]? = some x → β'[ρ j]? = some x) : ∀ (s : SV) (v : Value), rel σ β s v → rel σ β' (ren ρ s) v
  | .vec h, v, hr => by simp only [rel, ren] at *; obtain ⟨x, hx, e⟩ := hr; exact ⟨x, hρ _ _ hx, e⟩
  | .ptr h o, v, hr => by simp only [rel, ren] at *; obtain ⟨x, b, hx, e⟩ := hr; exact ⟨x, b, hρ _ _ hx, e⟩
  | .elt h i o, v, hr => by simp only [rel, ren] at *; obtain ⟨x, b, hx, e⟩ := hr; exact ⟨x, b, hρ _ _ hx, e⟩
  | .agg l, v, hr => by simp only [rel, ren] at *; obtain ⟨vs, e, hr⟩ := hr; exact ⟨vs, e, relL_ren hρ l vs hr⟩
  | .tup l, v, hr => by simp only [rel, ren] at *; obtain ⟨vs, e, hr⟩ := hr; exact ⟨vs, e, relL_ren hρ l vs hr⟩
  | .fn f l, v, hr => by simp only [rel, ren] at *; obtain ⟨vs, e, hr⟩ := hr; exact ⟨vs, e, relL_ren hρ l vs hr⟩
  | .any, _, _ => by simp [rel, ren]
  | .num _ _, _, h | .bp _, _, h | .bl _, _, h | .str _, _, h | .nil, _, h | .raw _, _, h | .psl _ _, _, h | .pptr _, _, h | .shut _, _, h => by simpa only [rel, ren] using h
theorem relL_ren {σ} {β β' : List HB} {ρ : Nat → Nat} (hρ : ∀ (j : Nat) (x : HB), β[j]? = some x → β'[ρ j]? = some x) : ∀ (l : List SV) (vs : List Value), relL σ β l vs → relL σ β' (renL ρ l) vs
  | [], vs, h => by simpa only [relL, renL] using h
  | s :: l, vs, hr => by
    simp only [relL, renL] at *
    obtain ⟨v, vs', e, h1, h2⟩ := hr
    exact ⟨v, vs', e, rel_ren hρ s v h1, relL_ren hρ l vs' h2⟩
end
def renC (ρ : Nat → Nat) : Chunk → Chunk
  | .box l => .box (renL ρ l)
  | c => c
/- an argument, as the callee names it -/
def idx (h : Nat) : List Nat → Nat → Option Nat
  | [], _ => none
  | x :: l, j => match Nat.beq x h with | true => some j | false => idx h l (j + 1)
theorem idx_ok {h : Nat} : ∀ {l : List Nat} {j k : Nat}, idx h l j = some k → j ≤ k ∧ l[k - j]? = some h
  | [], j, k, e => by simp [idx] at e
  | x :: l, j, k, e => by
    unfold idx at e
    split at e
    · rename_i hb; cases e; have := Nat.eq_of_beq_eq_true hb; subst this; simp
    · obtain ⟨h1, h2⟩ := idx_ok e
      refine ⟨by omega, ?_⟩
      rw [show k - j = (k - (j + 1)) + 1 by omega]; simpa using h2
def toC (hs : List Nat) : SV → Option SV
  | .vec h => match idx h hs 0 with | some j => some (.vec j) | none => none
  | .ptr h o => match idx h hs 0 with | some j => some (.ptr j o) | none => none
  | .elt h i o => match idx h hs 0 with | some j => some (.elt j i o) | none => none
  | s => match closed s with | true => some s | false => none
def toCL (hs : List Nat) : List SV → Option (List SV)
  | [] => some []
  | s :: l => match toC hs s, toCL hs l with
    | some s', some l' => some (s' :: l')
    | _, _ => none
theorem toC_ok {σ} {β βc : List HB} {hs : List Nat} (hβ : ∀ (j h : Nat), hs[j]? = some h → ∀ x, β[h]? = some x → βc[j]? = some x) : ∀ {s s' : SV} {v : Value}, toC hs s = some s' → rel σ β s v → rel σ βc s' v := by
  have cl : ∀ {s s' : SV} {v : Value}, (match closed s with | true => some s | false => none) = some s' → rel σ β s v → rel σ βc s' v := by
    intro s s' v h hr
    split at h
    · rename_i hc; cases h; exact rel.mono (PH.le.refl _) (fun _ _ h => by simp at h) _ _ (rel_closed s v hc hr)
    · cases h
  intro s s' v h hr
  cases s <;> simp only [toC] at h <;> try exact cl h hr
  all_goals
    split at h
    · rename_i j hj
      cases h
      obtain ⟨_, hj⟩ := idx_ok hj
      simp only [rel] at *
      first
        | (obtain ⟨x, hx, e⟩ := hr; exact ⟨x, hβ _ _ (by simpa using hj) _ hx, e⟩)
        | (obtain ⟨x, b, hx, e⟩ := hr; exact ⟨x, b, hβ _ _ (by simpa using hj) _ hx, e⟩)
    · cases h
theorem toCL_ok {σ} {β βc : List HB} {hs : List Nat} (hβ : ∀ (j h : Nat), hs[j]? = some h → ∀ x, β[h]? = some x → βc[j]? = some x) : ∀ {l l' : List SV} {vs : List Value}, toCL hs l = some l' → relL σ β l vs → relL σ βc l' vs
  | [], l', vs, h, hr => by simp only [toCL, Option.some.injEq] at h; subst h; simpa only [relL] using hr
  | s :: l, l', vs, h, hr => by
    simp only [toCL] at h
    split at h
    · rename_i s1 l1 h1 h2
      cases h
      simp only [relL] at hr
      obtain ⟨v, vs', rfl, hr1, hr2⟩ := hr
      exact relL_cons.2 ⟨toC_ok hβ h1 hr1, toCL_ok hβ h2 hr2⟩
    · cases h
def closedC : Chunk → Bool
  | .box l => closedL l
  | _ => true
/- the chunks that are lent -/
def lend (own : List Chunk) : List Nat → Option (List Chunk)
  | [] => some []
  | h :: hs => match own[h]?, lend own hs with
    | some c, some l => match closedC c && live c with | true => some (c :: l) | false => none
    | _, _ => none
theorem lend_ok {own : List Chunk} : ∀ {hs : List Nat} {l : List Chunk}, lend own hs = some l → l.length = hs.length ∧ ∀ (j h : Nat), hs[j]? = some h → ∃ c, own[h]? = some c ∧ l[j]? = some c ∧ closedC c = true ∧ live c = true
  | [], l, e => by simp only [lend, Option.some.injEq] at e; subst e; simp
  | h :: hs, l, e => by
    simp only [lend] at e
    split at e
    · rename_i c l' hc hl
      split at e
      · rename_i hcc; cases e
        rw [Bool.and_eq_true] at hcc
        obtain ⟨h1, h2⟩ := lend_ok hl
        refine ⟨by simp [h1], ?_⟩
        intro j k hj
        cases j with
        | zero => simp at hj; subst hj; exact ⟨c, hc, by simp, hcc⟩
        | succ j => simp at hj; obtain ⟨c', q1, q2, q3⟩ := h2 j k hj; exact ⟨c', q1, by simpa using q2, q3⟩
      · cases e
    · cases e
def back (hs : List Nat) (n : Nat) (j : Nat) : Nat :=
  match hs[j]? with
  | some h => h
  | none => n + (j - hs.length)
def giveBack : List Nat → List Chunk → List Chunk → List Chunk
  | h :: hs, c :: cs, own => giveBack hs cs (own.set h c)
  | _, _, own => own
theorem giveBack_len : ∀ (hs : List Nat) (cs own : List Chunk), (giveBack hs cs own).length = own.length
  | [], _, _ => by simp [giveBack]
  | h :: hs, [], own => by simp [giveBack]
  | h :: hs, c :: cs, own => by simp [giveBack, giveBack_len hs cs]
theorem giveBack_other : ∀ (hs : List Nat) (cs own : List Chunk) (i : Nat), i ∉ hs → (giveBack hs cs own)[i]? = own[i]?
  | [], _, _, _, _ => by simp [giveBack]
  | h :: hs, [], own, _, _ => by simp [giveBack]
  | h :: hs, c :: cs, own, i, hi => by
    simp only [List.mem_cons, not_or] at hi
    simp only [giveBack]; rw [giveBack_other hs cs _ i hi.2, List.getElem?_set_ne (Ne.symm hi.1)]
theorem giveBack_at : ∀ (hs : List Nat) (cs own : List Chunk) (j h : Nat) (c : Chunk), hs.Nodup → hs[j]? = some h → cs[j]? = some c → h < own.length → (giveBack hs cs own)[h]? = some c
  | [], _, _, j, h, c, _, hj, _, _ => by simp at hj
  | h0 :: hs, [], own, j, h, c, _, _, hc, _ => by simp at hc
  | h0 :: hs, c0 :: cs, own, j, h, c, hnd, hj, hc, hl => by
    simp only [List.nodup_cons] at hnd
    simp only [giveBack]
    cases j with
    | zero =>
      simp at hj hc; subst hj; subst hc
      rw [giveBack_other _ _ _ _ hnd.1, List.getElem?_set_self hl]
    | succ j =>
      simp at hj hc
      exact giveBack_at hs cs _ j h c hnd.2 hj hc (by simpa using hl)
def nodupB : List Nat → Bool
  | [] => true
  | h :: l => (match idx h l 0 with | none => true | some _ => false) && nodupB l
theorem idx_none {h : Nat} : ∀ {l : List Nat} {j : Nat}, idx h l j = none → h ∉ l
  | [], _, _ => by simp
  | x :: l, j, e => by
    unfold idx at e
    split at e
    · cases e
    · rename_i hb
      have := nbeq_false hb
      simp only [List.mem_cons, not_or]; exact ⟨Ne.symm this, idx_none e⟩
theorem nodupB_ok : ∀ {l : List Nat}, nodupB l = true → l.Nodup
  | [], _ => by simp
  | h :: l, e => by
    simp only [nodupB, Bool.and_eq_true] at e
    rw [List.nodup_cons]
    refine ⟨?_, nodupB_ok e.2⟩
    have := e.1
    split at this
    · rename_i hi; exact idx_none hi
    · cases this

def allFree (fr : Nat → Bool) : List Nat → Bool
  | [] => true
  | h :: l => fr h && allFree fr l
theorem allFree_ok {fr : Nat → Bool} : ∀ {l : List Nat}, allFree fr l = true → ∀ h ∈ l, fr h = true
  | [], _, h, hh => by simp at hh
  | x :: l, e, h, hh => by
    simp only [allFree, Bool.and_eq_true] at e
    rcases List.mem_cons.1 hh with rfl | hh
    · exact e.1
    · exact allFree_ok e.2 h hh
inductive CallOb (P : Program) (free : Nat → Bool) (f : Nat) (sargs : List SV) (S : SS) (k : SS → SV → Prop) : Prop
  | mk (hs : List Nat) {args' args : List SV} {own0 : List Chunk} {post : SV → List Chunk → Prop} (hf : Ctr P f args own0 post) (ha : toCL hs sargs = some args') (hi : ImpL args' args)
      (ho : lend S.own hs = some own0) (hnd : (nodupB hs && allFree free hs) = true)
      (hk : ∀ r own', post r own' → forceO (giveBack hs (own'.map (renC (back hs S.own.length))) S.own ++ (own'.drop hs.length).map (renC (back hs S.own.length))) fun own => forceV (ren (back hs S.own.length) r) fun s => S.withTm fun tm => k ⟨tm, own⟩ s) : CallOb P free f sargs S k

theorem call_ok {P : Program} {f : Nat} {sargs : List SV} {S : SS} {k : SS → SV → Prop} {w0 σ0 β0 nt σ β a w} (g : GG w0 σ0 β0 nt σ β S a w) (h : CallOb P nt.free f sargs S k) {vs : List Value} (hr : relL σ β sargs vs) :
    (∃ fn, P.funcs[f]? = some fn ∧ (fn.name == "runtime.NumGoroutine") = false ∧ fn.body.isNone = false) ∧
    Calls P f vs.toArray w fun e w' => ∃ v σ' β' S' s, e = .returned v ∧ GG w0 σ0 β0 nt σ' β' S' a w' ∧ rel σ' β' s v ∧ k S' s := by
  obtain ⟨hs, hf, ha, hi, ho, hnd, hk⟩ := h
  rename_i args' args own0 post
  rw [Bool.and_eq_true] at hnd
  have hfree := allFree_ok hnd.2
  have hnd := nodupB_ok hnd.1
  obtain ⟨hol, hoc⟩ := lend_ok ho
  have hlt : ∀ (j h : Nat), hs[j]? = some h → h < β.length := by
    intro j h hj
    obtain ⟨c, hc, _⟩ := hoc j h hj
    rw [g.hp.len]
    rcases Nat.lt_or_ge h S.own.length with h' | h'
    · exact h'
    · rw [List.getElem?_eq_none h'] at hc; cases hc
  let βc : List HB := hs.map fun h => (β[h]?).getD ⟨none, 0, 0, 0⟩
  have hβc : ∀ (j h : Nat), hs[j]? = some h → ∀ x, β[h]? = some x → βc[j]? = some x := by
    intro j h hj x hx
    simp only [βc, List.getElem?_map, hj, Option.map_some, hx, Option.getD_some]
  have hβc' : ∀ (j : Nat) (x : HB), βc[j]? = some x → ∃ h, hs[j]? = some h ∧ β[h]? = some x := by
    intro j x hx
    simp only [βc, List.getElem?_map] at hx
    cases hj : hs[j]? with
    | none => rw [hj] at hx; cases hx
    | some h =>
      rw [hj] at hx
      have := hlt j h hj
      simp only [Option.map_some, Option.some.injEq] at hx
      refine ⟨h, rfl, ?_⟩
      rw [List.getElem?_eq_getElem this] at hx ⊢
      simp only [Option.getD_some] at hx; rw [hx]
  have hβl : βc.length = hs.length := by simp [βc]
  have hH : HeapOK w σ βc own0 := by
    refine ⟨g.hp.ph, by rw [hβl, hol], ?_, ?_, ?_⟩
    · intro j c x hc hx
      obtain ⟨h, hj, hxx⟩ := hβc' j x hx
      obtain ⟨c', q1, q2, q3, _⟩ := hoc j h hj
      have hcc : c = c' := by rw [q2] at hc; cases hc; rfl
      subst hcc
      have hck := g.hp.ok h c x q1 hxx
      cases c with
      | box cells =>
        obtain ⟨b, vs, e, hσ, hO, hr⟩ := hck
        exact ⟨b, vs, e, hσ, hO, relL.mono (PH.le.refl _) (fun _ _ h => by simp at h) _ _ (relL_closed _ _ q3 hr)⟩
      | vec esz rows => exact hck
      | fro esz rows => exact hck
      | frb cells => exact hck
      | dead => trivial
    · intro j x b hx hb
      obtain ⟨h, hj, hxx⟩ := hβc' j x hx
      exact g.hp.lt h x b hxx hb
    · intro j j' d d' x x' b hd hd' hl hl' hx hx' hb hb'
      obtain ⟨h, hj, hxx⟩ := hβc' j x hx
      obtain ⟨h', hj', hxx'⟩ := hβc' j' x' hx'
      obtain ⟨c, q1, q2, _⟩ := hoc j h hj
      obtain ⟨c', q1', q2', _⟩ := hoc j' h' hj'
      rw [q2] at hd; cases hd
      rw [q2'] at hd'; cases hd'
      have := g.hp.apart h h' _ _ x x' b q1 q1' hl hl' hxx hxx' hb hb'
      subst this
      have l1 : j < hs.length := by
        rcases Nat.lt_or_ge j hs.length with h' | h'
        · exact h'
        · rw [List.getElem?_eq_none h'] at hj; cases hj
      exact (List.getElem?_inj l1 hnd).1 (hj.trans hj'.symm)
  have hargs : relL σ βc args vs := hi.ok (toCL_ok hβc ha hr)
  refine ⟨hf.1, (hf.2 w σ βc vs hH hargs).mono ?_⟩
  rintro e w' ⟨v, σ', β', own', r, rfl, hH', hF', hr', hp⟩
  let ρ := back hs S.own.length
  let βn := β ++ β'.drop hs.length
  have hlen' : hs.length ≤ β'.length := by
    rcases Nat.lt_or_ge β'.length hs.length with h' | h'
    · exfalso
      have hx : β'.length < βc.length := by omega
      have := hF'.pre β'.length _ (List.getElem?_eq_getElem hx)
      rw [List.getElem?_eq_none (Nat.le_refl _)] at this; cases this
    · exact h'
  have hρ : ∀ (j : Nat) (x : HB), β'[j]? = some x → βn[ρ j]? = some x := by
    intro j x hx
    simp only [ρ, back]
    cases hj : hs[j]? with
    | some h =>
      simp only
      have h1 := hlt j h hj
      have h2 : βc[j]? = some β[h] := hβc j h hj _ (List.getElem?_eq_getElem h1)
      have h3 := hF'.pre j _ h2
      rw [hx] at h3; cases h3
      rw [List.getElem?_append_left h1, List.getElem?_eq_getElem h1]
    | none =>
      simp only
      have hjl : hs.length ≤ j := by
        rcases Nat.lt_or_ge j hs.length with h' | h'
        · rw [List.getElem?_eq_getElem h'] at hj; cases hj
        · exact h'
      rw [← g.hp.len, List.getElem?_append_right (by omega), List.getElem?_drop]
      rw [show hs.length + (β.length + (j - hs.length) - β.length) = j by omega]; exact hx
  have hle : HB.le β βn := HB.le_append _ _
  -- what is new
  have hnew : ∀ (i : Nat) (x : HB), βn[i]? = some x → (i < β.length ∧ β[i]? = some x) ∨ (β.length ≤ i ∧ β'[hs.length + (i - β.length)]? = some x) := by
    intro i x hx
    rcases Nat.lt_or_ge i β.length with h' | h'
    · left; exact ⟨h', by rwa [List.getElem?_append_left h'] at hx⟩
    · right; refine ⟨h', ?_⟩
      rw [List.getElem?_append_right h', List.getElem?_drop] at hx; exact hx
  have hfresh : ∀ (i : Nat) (x : HB) (b : Nat), β'[hs.length + i]? = some x → x.blk = some b → w.heap.size ≤ b := by
    intro i x b hx hb; exact hF'.fresh _ x b hx (by omega) hb
  have hkeepblk : ∀ (i : Nat) (c : Chunk) (x : HB) (b : Nat), i ∉ hs → S.own[i]? = some c → live c = true → β[i]? = some x → x.blk = some b → w'.heap[b]? = w.heap[b]? := by
    intro i c x b hi hc hlv hx hb
    refine hF'.block b (g.hp.lt i x b hx hb) ?_
    intro j y hy hyb
    obtain ⟨h, hj, hxx⟩ := hβc' j y hy
    obtain ⟨c', q1, _, _, q4⟩ := hoc j h hj
    have := g.hp.apart i h c c' x y b hc q1 hlv q4 hx hxx hb hyb
    subst this
    exact hi (List.mem_of_getElem? hj)
  have hσn : ∀ b, b < w.heap.size → σ b = none → σ' b = none := by
    intro b hb hn
    cases h : σ' b with
    | none => rfl
    | some cs => rw [hF'.new b cs h hb] at hn; cases hn
  refine ⟨v, σ', βn, ⟨S.tm, giveBack hs (own'.map (renC ρ)) S.own ++ (own'.drop hs.length).map (renC ρ)⟩, ren ρ r, rfl, ⟨g.tm.mono hF'.le hle, g.sz, g.df, ⟨hH'.ph, ?_, ?_, ?_, ?_⟩, ⟨?_, ?_, ?_, ?_, ?_, ?_, ?_, ?_, ?_⟩, ?_⟩, rel_ren hρ _ _ hr', forceV_ok (k := fun s => k ⟨S.tm, giveBack hs (own'.map (renC ρ)) S.own ++ (own'.drop hs.length).map (renC ρ)⟩ s) (by have := hk r own' hp; rwa [forceO_eq] at this)⟩
  · simp only [βn, List.length_append, List.length_drop, giveBack_len, List.length_map, g.hp.len, hH'.len]
  · intro i c x hc hx
    rcases hnew i x hx with ⟨h1, h2⟩ | ⟨h1, h2⟩
    · rw [List.getElem?_append_left (by rw [giveBack_len, ← g.hp.len]; exact h1)] at hc
      by_cases him : i ∈ hs
      · obtain ⟨j, hj⟩ := List.getElem?_of_mem him
        have hb : βc[j]? = some x := hβc j i hj x h2
        have hb' := hF'.pre j x hb
        have hjl : j < own'.length := by
          rw [← hH'.len]
          rcases Nat.lt_or_ge j β'.length with h' | h'
          · exact h'
          · rw [List.getElem?_eq_none h'] at hb'; cases hb'
        rw [giveBack_at hs (own'.map (renC ρ)) S.own j i (renC ρ own'[j]) hnd hj (by rw [List.getElem?_map, List.getElem?_eq_getElem hjl]; rfl) (by rw [← g.hp.len]; exact h1)] at hc
        cases hc
        have hck := hH'.ok j _ x (List.getElem?_eq_getElem hjl) hb'
        -- cells in the callee's names: closed, or renamed
        revert hck
        generalize own'[j] = c
        intro hck
        cases c with
        | box cells =>
          obtain ⟨b, vs, e, hσ, hO, hr⟩ := hck
          exact ⟨b, vs, e, hσ, hO, relL_ren hρ _ _ hr⟩
        | vec esz rows => exact hck
        | fro esz rows => exact hck
        | frb cells => exact hck
        | dead => trivial
      · rw [giveBack_other _ _ _ _ him] at hc
        exact chunkOK.step hF'.le hle hσn (g.hp.ok i c x hc h2) (fun hl b hb => hkeepblk i c x b him hc hl h2 hb)
    · rw [List.getElem?_append_right (by rw [giveBack_len, ← g.hp.len]; exact h1), giveBack_len, ← g.hp.len, List.getElem?_map, List.getElem?_drop] at hc
      cases ho' : own'[hs.length + (i - β.length)]? with
      | none => rw [ho'] at hc; cases hc
      | some c0 =>
        rw [ho'] at hc; cases hc
        have hck := hH'.ok _ c0 x ho' h2
        cases c0 with
        | box cells => obtain ⟨b, vs, e, hσ, hO, hr⟩ := hck; exact ⟨b, vs, e, hσ, hO, relL_ren hρ _ _ hr⟩
        | vec esz rows => exact hck
        | fro esz rows => exact hck
        | frb cells => exact hck
        | dead => trivial
  · intro i x b hx hb
    rcases hnew i x hx with ⟨h1, h2⟩ | ⟨h1, h2⟩
    · have := g.hp.lt i x b h2 hb; have := hF'.size; omega
    · exact hH'.lt _ x b h2 hb
  · intro i j d d' x y b hd hd' hl hl' hx hy hb hb'
    have olds : ∀ (i : Nat) (d : Chunk) (x : HB), i < β.length → (giveBack hs (own'.map (renC ρ)) S.own ++ (own'.drop hs.length).map (renC ρ))[i]? = some d → live d = true → ∃ c, S.own[i]? = some c ∧ live c = true := by
      intro i d x hi hd hl
      by_cases him : i ∈ hs
      · obtain ⟨j, hj⟩ := List.getElem?_of_mem him
        obtain ⟨c', q1, _, _, q4⟩ := hoc j i hj
        exact ⟨c', q1, q4⟩
      · rw [List.getElem?_append_left (by rw [giveBack_len, ← g.hp.len]; exact hi), giveBack_other _ _ _ _ him] at hd
        exact ⟨d, hd, hl⟩
    have news : ∀ (i : Nat) (d : Chunk), β.length ≤ i → (giveBack hs (own'.map (renC ρ)) S.own ++ (own'.drop hs.length).map (renC ρ))[i]? = some d → live d = true → ∃ c, own'[hs.length + (i - β.length)]? = some c ∧ live c = true := by
      intro i d hi hd hl
      rw [List.getElem?_append_right (by rw [giveBack_len, ← g.hp.len]; exact hi), giveBack_len, ← g.hp.len, List.getElem?_map, List.getElem?_drop] at hd
      cases ho' : own'[hs.length + (i - β.length)]? with
      | none => rw [ho'] at hd; cases hd
      | some c0 => rw [ho'] at hd; cases hd; refine ⟨c0, rfl, ?_⟩; cases c0 <;> first | rfl | exact hl
    rcases hnew i x hx with ⟨h1, h2⟩ | ⟨h1, h2⟩ <;> rcases hnew j y hy with ⟨h3, h4⟩ | ⟨h3, h4⟩
    · obtain ⟨c1, q1, q2⟩ := olds i d x h1 hd hl
      obtain ⟨c2, q3, q4⟩ := olds j d' y h3 hd' hl'
      exact g.hp.apart i j c1 c2 x y b q1 q3 q2 q4 h2 h4 hb hb'
    · have := g.hp.lt i x b h2 hb; have := hfresh _ y b h4 hb'; omega
    · have := g.hp.lt j y b h4 hb'; have := hfresh _ x b h2 hb; omega
    · obtain ⟨c1, q1, q2⟩ := news i d h1 hd hl
      obtain ⟨c2, q3, q4⟩ := news j d' h3 hd' hl'
      have := hH'.apart _ _ c1 c2 x y b q1 q3 q2 q4 h2 h4 hb hb'; omega
  · exact hF'.os.trans g.fr.os
  · exact hF'.tape.trans g.fr.tape
  · exact hF'.output.trans g.fr.output
  · have := g.fr.size; have := hF'.size; omega
  · intro b hb hn
    rw [← g.fr.block b hb hn]
    refine hF'.block b (by have := g.fr.size; omega) ?_
    intro j y hy hyb
    obtain ⟨h, hj, hxx⟩ := hβc' j y hy
    rcases Nat.lt_or_ge h β0.length with h1 | h1
    · have h2 : β0[h]? = some β0[h] := List.getElem?_eq_getElem h1
      have := g.fr.pre h _ h2
      rw [hxx] at this; cases this
      exact hn h _ h2 hyb
    · have := g.fr.fresh h y b hxx h1 hyb; omega
  · exact g.fr.le.trans hF'.le
  · intro b cs hb hlt'
    exact g.fr.new b cs (hF'.new b cs hb (by have := g.fr.size; omega)) hlt'
  · exact g.fr.pre.trans hle
  · intro i x b hx hl hb
    rcases hnew i x hx with ⟨h1, h2⟩ | ⟨h1, h2⟩
    · exact g.fr.fresh i x b h2 hl hb
    · have := hfresh _ x b h2 hb; have := g.fr.size; omega
  · refine g.pn.step (fun b o hb hb' => ?_) (fun i x b hi hf hb => ?_)
    · rw [← hb']
      refine hF'.block b (g.pn.lt hb) ?_
      intro j y hy hyb
      obtain ⟨h, hj, hxx⟩ := hβc' j y hy
      rw [g.pn.fr h y b hxx (hfree h (List.mem_of_getElem? hj)) hyb] at hb; cases hb
    · rcases hnew i x hi with ⟨_, h2⟩ | ⟨_, h2⟩
      · exact .inl h2
      · exact .inr (g.pn.new (hfresh _ x b h2 hb))
end Go.Sx
