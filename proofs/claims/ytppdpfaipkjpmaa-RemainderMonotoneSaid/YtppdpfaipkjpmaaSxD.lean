/-
  A text of the proofs of this seat: lemmas that the statements' proofs use; it states nothing of the program by itself beyond the contracts that its theorems bear. Conditions: those that stand in each theorem. Its short name: SxD.
-/
import Derived.Test.YtppdpfaipkjpmaaSx12
import Derived.OrdersHeld
set_option linter.unusedVariables false
set_option linter.unusedSimpArgs false
namespace Go.Sx

/-! ### regions that draw their order: what only yields a value is taken first, behind a pin on the block that it reads -/
def edgesOf (ops : Array Oper) (j : Nat) : List Nat :=
  match ops[j]? with
  | some o => (o.after.toList.filter fun e => Region.binds .any e).map (·.on)
  | none => []
def reach (ops : Array Oper) : Nat → List Nat → List Nat → List Nat
  | 0, _, seen => seen
  | _ + 1, [], seen => seen
  | n + 1, x :: work, seen => if seen.contains x then reach ops n work seen else reach ops n (edgesOf ops x ++ work) (x :: seen)
def waits (ops : Array Oper) (j i : Nat) : Bool := (reach ops 2000 (edgesOf ops j) []).contains i

section
variable {P : Program} {ops : Array Oper} {Q : Exit → Act → World → Prop}

def wpAnyP (P : Program) (ops : Array Oper) (Q : Exit → Act → World → Prop) : Nat → List (Nat × (World → Prop)) → Array Bool → Act → World → Prop
  | 0, _, L, a, w => Region.ready .any ops L = [] ∧ Q .normal a w
  | n + 1, ps, L, a, w => (Region.ready .any ops L = [] → Q .normal a w) ∧
    ∀ j ∈ Region.ready .any ops L, wpOp P ops Q j (fun a' w' => (∀ p ∈ ps, waits ops j p.1 = false → p.2 w') ∧ wpAnyP P ops Q n (ps.filter fun p => !waits ops j p.1) (L.setIfInBounds j true) a' w') a w

theorem wpAny_of_P : ∀ (n : Nat) (ps : List (Nat × (World → Prop))) (L : Array Bool) (a : Act) (w : World), wpAnyP P ops Q n ps L a w → wpAny P .any ops Q n L a w
  | 0, _, _, _, _, h => h
  | n + 1, _, _, _, _, h => ⟨h.1, fun i hi => wpOp_mono (fun a' w' h' => wpAny_of_P n _ _ a' w' h'.2) (h.2 i hi)⟩

theorem wpAnyP_sub : ∀ (n : Nat) (ps ps' : List (Nat × (World → Prop))) (L : Array Bool) (a : Act) (w : World), (∀ p ∈ ps', p ∈ ps) → wpAnyP P ops Q n ps L a w → wpAnyP P ops Q n ps' L a w
  | 0, _, _, _, _, _, _, h => h
  | n + 1, ps, ps', L, a, w, hs, h => ⟨h.1, fun i hi => wpOp_mono (fun a' w' h' => ⟨fun p hp hw => h'.1 p (hs p hp) hw,
      wpAnyP_sub n _ _ _ a' w' (fun p hp => by rw [List.mem_filter] at *; exact ⟨hs p hp.1, hp.2⟩) h'.2⟩) (h.2 i hi)⟩

def Closed (ops : Array Oper) (L : Array Bool) : Prop := ∀ j oj, ops[j]? = some oj → L.getD j false = true → ∀ e ∈ oj.after, Region.binds .any e = true → L.getD e.on false = true
theorem Closed.edges {L : Array Bool} (hc : Closed ops L) {j : Nat} (hj : L.getD j false = true) : ∀ i ∈ edgesOf ops j, L.getD i false = true := by
  intro i hi
  unfold edgesOf at hi
  split at hi
  · rename_i o ho
    simp only [List.mem_map, List.mem_filter] at hi
    obtain ⟨e, ⟨he, hb⟩, rfl⟩ := hi
    exact hc j o ho hj e (by simpa using he) hb
  · simp at hi
theorem reach_listed {L : Array Bool} (hc : Closed ops L) : ∀ (n : Nat) (work seen : List Nat), (∀ i ∈ work, L.getD i false = true) → (∀ i ∈ seen, L.getD i false = true) → ∀ i ∈ reach ops n work seen, L.getD i false = true
  | 0, _, _, _, hs, i, hi => hs i hi
  | n + 1, [], seen, _, hs, i, hi => hs i hi
  | n + 1, x :: work, seen, hw, hs, i, hi => by
    simp only [reach] at hi
    split at hi
    · exact reach_listed hc n work seen (fun i h => hw i (by simp [h])) hs i hi
    · refine reach_listed hc n _ _ (fun k hk => ?_) (fun k hk => ?_) i hi
      · rcases List.mem_append.1 hk with hk | hk
        · exact hc.edges (hw x (by simp)) k hk
        · exact hw k (by simp [hk])
      · rcases List.mem_cons.1 hk with rfl | hk
        · exact hw _ (by simp)
        · exact hs k hk
theorem waits_listed {L : Array Bool} (hc : Closed ops L) {j i : Nat} (hj : j ∈ Region.ready .any ops L) (hw : waits ops j i = true) : L.getD i false = true := by
  refine reach_listed hc 2000 (edgesOf ops j) [] ?_ (by simp) i (by simpa [waits] using hw)
  intro k hk
  obtain ⟨_, o, ho, hall⟩ := mem_ready.1 hj
  unfold edgesOf at hk
  rw [ho] at hk
  simp only [List.mem_map, List.mem_filter] at hk
  obtain ⟨e, ⟨he, hb⟩, rfl⟩ := hk
  exact hall e (by simpa using he) hb
theorem Closed.add {L : Array Bool} (hc : Closed ops L) {j : Nat} (hj : j ∈ Region.ready .any ops L) : Closed ops (L.setIfInBounds j true) := by
  intro k ok hk hl e he hb
  by_cases hkj : j = k
  · subst hkj
    obtain ⟨_, o, ho, hall⟩ := mem_ready.1 hj
    rw [hk] at ho; cases ho
    exact getD_set_true (hall e he hb)
  · rw [getD_set_ne false hkj] at hl
    exact getD_set_true (hc k ok hk hl e he hb)
theorem not_listed {L : Array Bool} {i : Nat} (hi : i ∈ Region.ready .any ops L) : L.getD i false = false := by
  obtain ⟨h0, o, ho, _⟩ := mem_ready.1 hi
  rcases Nat.lt_or_ge i L.size with h | h
  · simp [h] at h0 ⊢; exact h0
  · simp [Array.getElem?_eq_none h] 

theorem wpAnyP_first {i : Nat} {oi : Oper} {v : Value} {pw : World → Prop} (hi : ops[i]? = some oi) (hsel : ∀ (j : Nat) (o : Oper) cs b, ops[j]? = some o → o.op ≠ .select cs b)
    (hQ : ∀ c a w, ¬Q (.panic c) a w) :
    ∀ (fuel : Nat) (ps : List (Nat × (World → Prop))) (L : Array Bool) (a : Act) (w : World), Closed ops L →
      (∀ j oj, ops[j]? = some oj → j ≠ i → L.getD j true = false → (∀ e ∈ oj.after, Region.binds .any e = true → e.on ≠ i) → oi.apart ops oj = true) →
      i ∈ Region.ready .any ops L → YieldsIf P ops pw oi v a → pw w → (∀ p ∈ ps, p.2 w) →
      wpAnyP P ops Q fuel ((i, pw) :: ps) (L.setIfInBounds i true) (a.put oi.dst v) w → wpAnyP P ops Q (fuel + 1) ps L a w := by
  have now : ∀ (fuel : Nat) (ps : List (Nat × (World → Prop))) (L : Array Bool) (a : Act) (w : World), YieldsIf P ops pw oi v a → pw w → (∀ p ∈ ps, p.2 w) →
      wpAnyP P ops Q fuel ((i, pw) :: ps) (L.setIfInBounds i true) (a.put oi.dst v) w →
      wpOp P ops Q i (fun a' w' => (∀ p ∈ ps, waits ops i p.1 = false → p.2 w') ∧ wpAnyP P ops Q fuel (ps.filter fun p => !waits ops i p.1) (L.setIfInBounds i true) a' w') a w := by
    intro fuel ps L a w hy hS hps H
    exact hy.wpOp hi hS ⟨fun p hp _ => hps p hp, wpAnyP_sub fuel _ _ _ _ _ (fun p hp => List.mem_cons_of_mem _ ((List.mem_filter.1 hp).1)) H⟩
  intro fuel
  induction fuel with
  | zero =>
    intro ps L a w _ _ hr hy hS hps H
    refine ⟨fun h => (by rw [h] at hr; cases hr), fun j hj => ?_⟩
    by_cases hji : j = i
    · subst hji; exact now 0 ps L a w hy hS hps H
    · have := ready_mono hj hji
      rw [H.1] at this
      cases this
  | succ fuel ih =>
    intro ps L a w hcl hfree hr hy hS hps H
    refine ⟨fun h => (by rw [h] at hr; cases hr), fun j hj => ?_⟩
    by_cases hji : j = i
    · subst hji; exact now (fuel + 1) ps L a w hy hS hps H
    · have h1 := H.2 j (ready_mono hj hji)
      obtain ⟨hjun, oj, hoj, hall⟩ := mem_ready.1 hj
      have hni := not_listed hr
      have hnot : ∀ e ∈ oj.after, Region.binds .any e = true → e.on ≠ i := fun e he hb heq => by
        have h1 := hall e he hb
        rw [heq, hni] at h1; cases h1
      have hwi : waits ops j i = false := by
        cases hw : waits ops j i with
        | false => rfl
        | true => have := waits_listed hcl hj hw; rw [hni] at this; cases this
      have h2 := wpOp_putIf hoj (hfree j oj hoj hji hjun hnot) (fun cs b => hsel i oi cs b hi) (fun cs b => hsel j oj cs b hoj) (fun c a w h => (hQ c _ w h).elim) hy h1
      have hfree' : ∀ k ok, ops[k]? = some ok → k ≠ i → (L.setIfInBounds j true).getD k true = false →
          (∀ e ∈ ok.after, Region.binds .any e = true → e.on ≠ i) → oi.apart ops ok = true := fun k ok hk hki hun hno => by
        refine hfree k ok hk hki ?_ hno
        by_cases hjk : j = k
        · subst hjk; exact hjun
        · rw [getD_set_ne true hjk] at hun; exact hun
      refine wpOp_mono (fun a' w' h3 => ?_) h2
      obtain ⟨h3a, h3b, h3c⟩ := h3
      have hS' : pw w' := h3b (i, pw) (by simp) hwi
      refine ⟨fun p hp hw => h3b p (by simp [hp]) hw, ih _ (L.setIfInBounds j true) a' w' (hcl.add hj) hfree' (ready_mono hr (Ne.symm hji)) h3a hS' ?_ ?_⟩
      · intro p hp
        rw [List.mem_filter] at hp
        exact h3b p (by simp [hp.1]) (by simpa using hp.2)
      · rw [Array.setIfInBounds_comm _ _ hji]
        rw [List.filter_cons, if_pos (by simp [hwi])] at h3c
        exact h3c
end

/-! ### the plan -/
inductive Plan
  | nil
  | no
  | q (i : Nat) (r : Plan)
  | l (i : Nat) (keep : List Nat) (r alts : Plan)
def Plan.qs : List Nat → Plan → Plan
  | [], r => r
  | i :: js, r => .q i (Plan.qs js r)
def Plan.dep : Plan → Nat
  | .nil => 0
  | .no => 0
  | .q _ r => r.dep + 1
  | .l _ _ r alts => max (r.dep + 1) alts.dep
def Plan.alts : Plan → List Nat
  | .l i _ _ a => i :: a.alts
  | _ => []
def isLoad (o : Oper) : Bool :=
  match o.op with
  | .load _ _ => true
  | _ => false
def chk (ops : Array Oper) : Plan → Bool → Array Bool → List Nat → Bool
  | .nil, hd, L, _ => hd && (Region.ready .any ops L).isEmpty
  | .no, hd, _, _ => !hd
  | .q i r, hd, L, T => hd && (Region.ready .any ops L).contains i && Region.free .any ops L i &&
      chk ops r true (L.setIfInBounds i true) (if ((ops[i]?).map isLoad).getD false then i :: T else T)
  | .l i keep r alts, hd, L, T => (!hd || (Region.ready .any ops L).all fun j => (i :: alts.alts).contains j) && (Region.ready .any ops L).contains i &&
      T.all (fun t => keep.contains t || waits ops i t) && chk ops r true (L.setIfInBounds i true) (T.filter fun t => keep.contains t) && chk ops alts false L T
def chkAll (ops : Array Oper) (p : Plan) : Bool := Nat.ble p.dep ops.size && Region.noSelect ops && chk ops p true (Array.replicate ops.size false) []

def nonL : Nat → List Chunk → List Nat
  | _, [] => []
  | i, c :: r => match live c with
    | true => nonL (i + 1) r
    | false => i :: nonL (i + 1) r
theorem nonL_mem : ∀ {l : List Chunk} {i h : Nat} {c : Chunk}, l[h]? = some c → live c = false → i + h ∈ nonL i l
  | [], i, h, c, e, _ => by simp at e
  | d :: l, i, 0, c, e, hl => by
    simp at e; subst e
    simp [nonL, hl]
  | d :: l, i, h + 1, c, e, hl => by
    have := nonL_mem (i := i + 1) (show l[h]? = some c by simpa using e) hl
    rw [show i + (h + 1) = i + 1 + h by omega]
    simp only [nonL]; split
    · exact this
    · exact List.mem_cons_of_mem _ this
def hasN : List Nat → Nat → Bool
  | [], _ => false
  | x :: l, i => match Nat.beq x i with
    | true => true
    | false => hasN l i
theorem hasN_iff : ∀ {l : List Nat} {i : Nat}, hasN l i = true ↔ i ∈ l
  | [], i => by simp [hasN]
  | x :: l, i => by
    simp only [hasN]
    split
    · rename_i h; simp [Nat.eq_of_beq_eq_true h]
    · rename_i h; rw [hasN_iff, List.mem_cons]; exact ⟨.inr, fun h' => h'.resolve_left (fun e => nbeq_false h e.symm)⟩
abbrev Pins := List (Nat × List Nat)
def keepP (keep : List Nat) : Pins → Pins
  | [] => []
  | (i, b) :: r => match hasN keep i with
    | true => (i, b) :: keepP keep r
    | false => keepP keep r
def badP : Pins → List Nat
  | [] => []
  | (_, b) :: r => b ++ badP r
def markP (b : List Nat) : Pins → Pins
  | [] => []
  | (i, _) :: r => (i, b) :: markP b r
def drawE (E : Env) (act : Pins) : Env :=
  match act with
  | [] => E
  | act => ⟨E.P, E.tys, E.npre, fun h => !hasN (badP act) h, false⟩
def noBool : Value → Bool
  | .bool _ => false
  | _ => true
theorem wanted_noBool {ops : Array Oper} {tmps : Array Value} {o : Oper} {j t : Nat} {want : Bool} (hg : o.guard = some (j, want)) (ht : (ops[j]?).bind (·.dst) = some t) (h : noBool (tmps.getD t undef) = true) :
    Region.wanted o (yielded ops tmps) = false := by
  simp only [Region.wanted, hg, yielded, ht, Option.bind_some]
  rw [Array.getD_eq_getD_getElem?] at h
  cases hv : tmps[t]? with
  | none => simp
  | some v => rw [hv] at h; cases v <;> simp [noBool] at h ⊢
def guardS (all : List Oper) (o : Oper) (S : SS) (run skip : SS → Prop) : Prop :=
  match o.guard with
  | none => run S
  | some (j, want) => match (all[j]?).bind (·.dst) with
    | some t => match tlook S.tm t with
      | .bl b => match b, want with
        | true, true => run S
        | false, false => run S
        | true, false => skip S
        | false, true => skip S
      | .bp p => S.un fun tm own => match want with
        | true => CondOb p (run ⟨(t, .bl true) :: tm, own⟩) (skip ⟨(t, .bl false) :: tm, own⟩)
        | false => CondOb p (skip ⟨(t, .bl true) :: tm, own⟩) (run ⟨(t, .bl false) :: tm, own⟩)
      | .raw v => match noBool v with
        | true => skip S
        | false => False
      | _ => False
    | none => False
def quietS (E : Env) (S : SS) (o : Oper) (k : SS → Option (List Nat) → Prop) : Prop :=
  match o.op with
  | .assign x => S.evN x fun s => match s with
    | .nil => need (elemD E o.type) fun de => forceN S.own.length fun n => forceL (S.own ++ [.vec de.size []]) fun own => S.withTm fun tm => SS.setK ⟨tm, own⟩ o.dst ((.vec n)) fun S => k S none
    | s => S.setK o.dst (s) fun S => k S none
  | .load T x => S.evN x fun sx => loadS E S T sx fun s => S.setK o.dst s fun S => match sx with
    | .ptr h _ => k S (some (h :: nonL 0 S.own))
    | .elt h _ _ => k S (some (h :: nonL 0 S.own))
    | _ => k S (some (nonL 0 S.own))
  | op => valS E S op fun s => S.setK o.dst s fun S => k S none
def addP (i : Nat) (b : Option (List Nat)) (pins : Pins) : Pins :=
  match b with
  | some b => (i, b) :: pins
  | none => pins
def runP (E : Env) (all : List Oper) : Plan → Pins → SS → (SS → Prop) → Prop
  | .nil, _, S, K => K S
  | .no, _, _, _ => True
  | .q i r, pins, S, K => match all[i]? with
    | some o => guardS all o S (fun S => quietS E S o fun S b => runP E all r (addP i b pins) S K) (fun S => SS.setK S o.dst (.raw undef) fun S => runP E all r pins S K)
    | none => False
  | .l i keep r alts, pins, S, K => match all[i]? with
    | some o => match alts with
      | .no => guardS all o S (fun S => stepS (drawE E (keepP keep pins)) S o fun S => runP E all r (markP (badP (keepP keep pins)) (keepP keep pins)) S K)
          (fun S => SS.setK S o.dst (.raw undef) fun S => runP E all r (markP (badP (keepP keep pins)) (keepP keep pins)) S K)
      | alts => guardS all o S (fun S => stepS (drawE E (keepP keep pins)) S o fun S => runP E all r (markP (badP (keepP keep pins)) (keepP keep pins)) S K)
          (fun S => SS.setK S o.dst (.raw undef) fun S => runP E all r (markP (badP (keepP keep pins)) (keepP keep pins)) S K) ∧ runP E all alts pins S K
    | none => False
theorem GG.know {w0 σ0 β0 nt σ β S a w} (g : GG w0 σ0 β0 nt σ β S a w) {t : Nat} {s' : SV} (hr : rel σ β s' (a.tmps.getD t undef)) : GG w0 σ0 β0 nt σ β ⟨(t, s') :: S.tm, S.own⟩ a w := by
  refine ⟨fun t' => ?_, g.sz, g.df, g.hp, g.fr, g.pn⟩
  simp only [tlook]
  split
  · rename_i hb; have := Nat.eq_of_beq_eq_true hb; subst this; exact hr
  · exact g.tm t'


theorem GG.par {w0 σ0 β0 nt σ β S a w} (g : GG w0 σ0 β0 nt σ β S a w) {nt' : Par} (hn : nt'.n = nt.n) (hp : PinOK nt' w β) : GG w0 σ0 β0 nt' σ β S a w :=
  ⟨g.tm, by rw [g.sz, hn], g.df, g.hp, g.fr, hp⟩
theorem guard_ok {w0 σ0 β0 nt σ β S a w} {ops : Array Oper} {all : List Oper} (hall : ops.toList = all) {o : Oper} {run skip : SS → Prop} (h : guardS all o S run skip) (g : GG w0 σ0 β0 nt σ β S a w) :
    (Region.wanted o (yielded ops a.tmps) = true ∧ ∃ S', GG w0 σ0 β0 nt σ β S' a w ∧ run S') ∨
    (Region.wanted o (yielded ops a.tmps) = false ∧ ∃ S', GG w0 σ0 β0 nt σ β S' a w ∧ skip S') := by
  unfold guardS at h
  split at h
  · rename_i hg
    exact .inl ⟨by simp [Region.wanted, hg], S, g, h⟩
  · rename_i j want hg
    split at h
    · rename_i t ht
      have hy : ∀ b, a.tmps.getD t undef = .bool b → yielded ops a.tmps j = some b := by
        intro b hv
        unfold yielded
        have : (ops[j]?).bind (·.dst) = some t := by rw [← ht, ← hall]; simp
        rw [this]
        rw [Array.getD_eq_getD_getElem?] at hv
        cases hq : a.tmps[t]? with
        | none => rw [hq] at hv; simp [undef] at hv
        | some v => rw [hq] at hv; simp at hv; subst hv; simp [hq]
      have hw : ∀ (b : Bool), a.tmps.getD t undef = .bool b → Region.wanted o (yielded ops a.tmps) = (b == want) := by
        intro b hb
        simp only [Region.wanted, hg, hy _ hb]
        cases b <;> cases want <;> rfl
      have hr := g.tm t
      split at h
      · rename_i b hs
        simp only [hs, rel] at hr
        rw [hw b hr]
        split at h
        · exact .inl ⟨by decide, S, g, h⟩
        · exact .inl ⟨by decide, S, g, h⟩
        · exact .inr ⟨by decide, S, g, h⟩
        · exact .inr ⟨by decide, S, g, h⟩
      · rename_i p hs
        simp only [hs, rel] at hr
        obtain ⟨b, hv, hbp⟩ := hr
        have gb := g.know (t := t) (s' := .bl b) (by simp only [rel]; exact hv)
        rw [hw b hv]
        simp only [SS.un_eq] at h
        split at h
        · obtain ⟨h1, h2⟩ := h
          cases b with
          | true => exact .inl ⟨by decide, _, gb, h1 (hbp.1 rfl)⟩
          | false => exact .inr ⟨by decide, _, gb, h2 (fun hp => by have := hbp.2 hp; cases this)⟩
        · obtain ⟨h1, h2⟩ := h
          cases b with
          | true => exact .inr ⟨by decide, _, gb, h1 (hbp.1 rfl)⟩
          | false => exact .inl ⟨by decide, _, gb, h2 (fun hp => by have := hbp.2 hp; cases this)⟩
      · rename_i v hs
        simp only [hs, rel] at hr
        split at h
        · rename_i hnb
          exact .inr ⟨wanted_noBool (t := t) hg (by rw [← ht, ← hall]; simp) (by rw [hr]; exact hnb), S, g, h⟩
        · exact h.elim
      · exact h.elim
    · exact h.elim

theorem HeapOK.own_at {w : World} {σ : PH} {β : List HB} {own : List Chunk} (H : HeapOK w σ β own) {h : Nat} {x : HB} (hx : β[h]? = some x) : ∃ c, own[h]? = some c := by
  have := lt_of_get? hx
  rw [H.len] at this
  exact ⟨_, List.getElem?_eq_getElem this⟩
theorem HeapOK.live_none {w : World} {σ : PH} {β : List HB} {own : List Chunk} (H : HeapOK w σ β own) {h : Nat} {x : HB} {c : Chunk} {b : Nat} (hc : own[h]? = some c) (hl : live c = true) (hx : β[h]? = some x) (hb : x.blk = some b) : σ b = none := by
  have := H.ok _ _ _ hc hx
  cases c with
  | box cells => obtain ⟨b', vs, h1, h2, _⟩ := this; rw [hb] at h1; cases h1; exact h2
  | vec e rows =>
    obtain ⟨_, _, _, h4⟩ := this
    rcases h4 with ⟨h1, _⟩ | ⟨b', vss, rest, h1, h2, _⟩
    · rw [hb] at h1; cases h1
    · rw [hb] at h1; cases h1; exact h2
  | _ => cases hl
def badOf (own : List Chunk) (s : SV) : List Nat :=
  match s with
  | .ptr h _ => h :: nonL 0 own
  | .elt h _ _ => h :: nonL 0 own
  | _ => nonL 0 own
theorem bad_ok {w : World} {σ : PH} {β : List HB} {own : List Chunk} (H : HeapOK w σ β own) {s : SV} {b : Nat} (hl : LdAt σ β own s b) : ∀ (h' : Nat) (x : HB), β[h']? = some x → h' ∉ badOf own s → x.blk ≠ some b := by
  intro h' x hx hn hb
  obtain ⟨c, hc⟩ := H.own_at hx
  have hlive : live c = true := by
    cases hlc : live c with
    | true => rfl
    | false =>
      have := nonL_mem (i := 0) hc hlc
      rw [Nat.zero_add] at this
      exfalso; apply hn
      unfold badOf; split
      · simp [this]
      · simp [this]
      · exact this
  have hσ := H.live_none hc hlive hx hb
  rcases hl with ⟨h, y, hs, hy, hyb, hd⟩ | ⟨_, cs, hcs⟩
  · rcases hd with ⟨d, hd, hld⟩ | ⟨cs, hcs⟩
    · have := H.apart h h' d c y x b hd hc hld hlive hy hx hyb hb
      subst this
      apply hn
      rcases hs with ⟨o, rfl⟩ | ⟨i, o, rfl⟩ <;> simp [badOf]
    · rw [hσ] at hcs; cases hcs
  · rw [hσ] at hcs; cases hcs

theorem quietS_ok {E : Env} (hE : EnvOK E) {w0 σ0 β0 nt σ β S a w} {o : Oper} {k : SS → Option (List Nat) → Prop} (hd : ∀ d, o.dst = some d → d < nt.n) (h : quietS E S o k) (g : GG w0 σ0 β0 nt σ β S a w) :
    ∃ v pb S' β' ob, (∀ w', PB pb w' → (execOp a.eval o).run E.P w' = .ok (.value v) w') ∧ PB pb w ∧ k S' ob ∧ GG w0 σ0 β0 nt σ β' S' (a.put o.dst v) w ∧
      (∀ (h : Nat) (x : HB) (b : Nat), β'[h]? = some x → x.blk = some b → β[h]? = some x) ∧
      (∀ b cs, pb = some (b, cs) → isLoad o = true ∧ ∃ bad, ob = some bad ∧ ∀ (h' : Nat) (x : HB), β'[h']? = some x → h' ∉ bad → x.blk ≠ some b) := by
  obtain ⟨dst, op, ty, pos, after, guard⟩ := o
  have other : (∀ T x, op ≠ .load T x) → valS E S op (fun s => k (S.set dst s) none) → ∃ v pb S' β' ob, (∀ w', PB pb w' → (execOp a.eval ⟨dst, op, ty, pos, after, guard⟩).run E.P w' = .ok (.value v) w') ∧ PB pb w ∧ k S' ob ∧ GG w0 σ0 β0 nt σ β' S' (a.put dst v) w ∧
      (∀ (h : Nat) (x : HB) (b : Nat), β'[h]? = some x → x.blk = some b → β[h]? = some x) ∧
      (∀ b cs, pb = some (b, cs) → isLoad ⟨dst, op, ty, pos, after, guard⟩ = true ∧ ∃ bad, ob = some bad ∧ ∀ (h' : Nat) (x : HB), β'[h']? = some x → h' ∉ bad → x.blk ≠ some b) := by
    intro hne h
    obtain ⟨v, s, pb, hrun, hpb, hr, hk, hld⟩ := valS_ok hE h g
    refine ⟨v, pb, _, β, none, fun w' hw' => hrun w' hw' _ _ _ _ _, hpb, hk, g.set hr _ hd, fun _ _ _ h _ => h, fun b cs e => ?_⟩
    obtain ⟨T, x, rfl⟩ := hld b cs e
    exact absurd rfl (hne T x)
  simp only [quietS, SS.setK_eq, SS.withTm_eq] at h
  cases op <;> simp only at h
  case assign x =>
    obtain ⟨s, hr, hq⟩ := g.evN h
    split at hq
    · obtain ⟨de, hde, hk⟩ := need_some hq
      have hk := forceN_ok hk
      rw [forceL_eq] at hk
      simp only [rel] at hr
      have g' := (g.nilVec de.size).set (s := .vec S.own.length) (v := a.eval x) (by
        rw [hr]; simp only [rel]
        exact ⟨⟨none, de.size, 0, 0⟩, by simp [← g.hp.len], rfl⟩) dst hd
      refine ⟨a.eval x, none, _, _, none, fun w' _ => by simp [execOp], trivial, hk, g', fun h y b hy hb => ?_, fun _ _ e => by cases e⟩
      rcases getElem?_snoc hy with ⟨_, h4⟩ | ⟨_, rfl⟩
      · exact h4
      · cases hb
    · exact ⟨a.eval x, none, _, β, none, fun w' _ => by simp [execOp], trivial, hq, g.set hr _ hd, fun _ _ _ h _ => h, fun _ _ e => by cases e⟩
  case load T x =>
    unfold SS.evN at h
    have h := forceV_ok h
    obtain ⟨v, s, b, cs, hB, hrun, hr, hk, hl⟩ := loadS_ok' hE g h (rel_nrm g.hp _ _ (g.ev x))
    have hb := bad_ok g.hp hl
    have g' := g.set hr dst hd
    have fin : k (S.set dst s) (some (badOf S.own (nrm S.own (S.ev x)))) := by
      clear hrun hl hb
      revert hk
      unfold badOf
      generalize nrm S.own (S.ev x) = sx
      intro hk
      cases dst <;> cases sx <;> exact hk
    exact ⟨v, some (b, cs), _, β, _, fun w' hw' => by simp only [execOp, Sem.run_bind, hrun w' hw', Result.andThen_ok]; rfl, hB, fin, g', fun _ _ _ h _ => h, fun b' cs' e => by
      cases e; exact ⟨rfl, _, rfl, hb⟩⟩
  all_goals exact other (fun T x e => by cases e) h

/- what is asked of the pins -/
def JP (ps : List (Nat × (World → Prop))) (T : List Nat) (pins : Pins) (w : World) (β : List HB) : Prop :=
  ∀ p ∈ ps, (∀ w', p.2 w') ∨ (p.1 ∈ T ∧ ∃ b cs bad, p.2 = (fun w' => Blk w' b cs) ∧ (p.1, bad) ∈ pins ∧ Blk w b cs ∧ ∀ (h' : Nat) (x : HB), β[h']? = some x → h' ∉ bad → x.blk ≠ some b)
theorem JP.now {ps T pins w β} (h : JP ps T pins w β) : ∀ p ∈ ps, p.2 w := by
  intro p hp
  rcases h p hp with h | ⟨_, b, cs, bad, e, _, hb, _⟩
  · exact h w
  · rw [e]; exact hb
theorem mem_keepP {keep : List Nat} : ∀ {pins : Pins} {i : Nat} {b : List Nat}, (i, b) ∈ pins → i ∈ keep → (i, b) ∈ keepP keep pins
  | [], _, _, h, _ => by simp at h
  | (j, c) :: r, i, b, h, hk => by
    simp only [keepP]
    rcases List.mem_cons.1 h with e | h
    · cases e
      rw [hasN_iff.2 hk]; simp
    · split
      · exact List.mem_cons_of_mem _ (mem_keepP h hk)
      · exact mem_keepP h hk
theorem mem_badP : ∀ {pins : Pins} {i : Nat} {b : List Nat} {h : Nat}, (i, b) ∈ pins → h ∈ b → h ∈ badP pins
  | [], _, _, _, h, _ => by simp at h
  | (j, c) :: r, i, b, hh, h, hb => by
    simp only [badP, List.mem_append]
    rcases List.mem_cons.1 h with e | h
    · cases e; exact .inl hb
    · exact .inr (mem_badP h hb)
theorem mem_markP {l : List Nat} : ∀ {pins : Pins} {i : Nat} {b : List Nat}, (i, b) ∈ pins → (i, l) ∈ markP l pins
  | [], _, _, h => by simp at h
  | (j, c) :: r, i, b, h => by
    simp only [markP]
    rcases List.mem_cons.1 h with e | h
    · cases e; simp
    · exact List.mem_cons_of_mem _ (mem_markP h)

theorem loud_ok {E : Env} (hE : EnvOK E) {w0 σ0 β0 nt} (hq0 : EOK E β0 nt) (hpn : ∀ b, nt.pin b = none) {S : SS} {o : Oper} {K : SS → Prop} {Q : Exit → Act → World → Prop} {a : Act} {w : World} {σ β} {next : Act → World → Prop}
    {ps : List (Nat × (World → Prop))} {T : List Nat} {act : Pins} (hd : ∀ d, o.dst = some d → d < nt.n)
    (h : stepS (drawE E act) S o K) (g : GG w0 σ0 β0 nt σ β S a w) (hJ : JP ps T act w β)
    (hn : ∀ S' a' w' σ' β', K S' → GG w0 σ0 β0 nt σ' β' S' a' w' → JP ps T (markP (badP act) act) w' β' → next a' w') : o.wp E.P a w next Q := by
  cases act with
  | nil =>
    refine stepS_ok hE hq0 hd (fun S' a' w' hk ⟨σ', β', hg⟩ => hn S' a' w' σ' β' hk hg ?_) h g
    intro p hp
    rcases hJ p hp with h | ⟨_, b, cs, bad, e, hm, _⟩
    · exact .inl h
    · simp at hm
  | cons q r =>
    generalize hact : q :: r = act at *
    have hEd : drawE E act = ⟨E.P, E.tys, E.npre, fun h => !hasN (badP act) h, false⟩ := by rw [← hact]; rfl
    rw [hEd] at h
    open Classical in
    let B : Nat → Prop := fun b => ∃ p ∈ ps, ∃ cs bad, p.2 = (fun w' => Blk w' b cs) ∧ (p.1, bad) ∈ act ∧ Blk w b cs ∧ ∀ (h' : Nat) (x : HB), β[h']? = some x → h' ∉ bad → x.blk ≠ some b
    let nt' : Par := ⟨nt.n, fun b => if B b then w.heap[b]? else none, fun h => !hasN (badP act) h⟩
    have hP : PinOK nt' w β := by
      refine ⟨fun b o h => ?_, fun h x b hx hf hb => ?_⟩
      · simp only [nt'] at h; split at h
        · exact h
        · cases h
      · simp only [nt'] at hf ⊢
        rw [if_neg]
        rintro ⟨p, _, cs, bad, _, hm, _, hfr⟩
        refine hfr h x hx (fun hbad => ?_) hb
        have := hasN_iff.2 (mem_badP hm hbad)
        rw [this] at hf; cases hf
    have hq' : EOK ⟨E.P, E.tys, E.npre, fun h => !hasN (badP act) h, false⟩ β0 nt' := ⟨hq0.np, rfl, fun h => by cases h⟩
    have hE' : EnvOK ⟨E.P, E.tys, E.npre, fun h => !hasN (badP act) h, false⟩ := hE
    refine stepS_ok hE' hq' hd (fun S' a' w' hk ⟨σ', β', hg⟩ => hn S' a' w' σ' β' hk (hg.par rfl ⟨fun b o h => (by rw [hpn] at h; cases h), fun _ _ b _ _ _ => hpn b⟩) ?_) h (g.par (nt' := nt') rfl hP)
    intro p hp
    rcases hJ p hp with h | ⟨hT, b, cs, bad, e, hm, hB, hfr⟩
    · exact .inl h
    · refine .inr ⟨hT, b, cs, badP act, e, mem_markP hm, ?_, fun h' x hx hnb hb => ?_⟩
      · have hBb : B b := ⟨p, hp, cs, bad, e, hm, hB, hfr⟩
        obtain ⟨T', fz, hh⟩ := hB
        refine ⟨T', fz, ?_⟩
        exact hg.pn.at_ b _ (by simp only [nt']; rw [if_pos hBb]; exact hh)
      · have hBb : B b := ⟨p, hp, cs, bad, e, hm, hB, hfr⟩
        have := hg.pn.fr h' x b hx (by simp only [nt']; cases hh : hasN (badP act) h' with | false => rfl | true => exact absurd (hasN_iff.1 hh) hnb) hb
        simp only [nt'] at this
        rw [if_pos hBb] at this
        obtain ⟨T', fz, hh⟩ := hB
        rw [hh] at this; cases this

theorem runP_ok {E : Env} (hE : EnvOK E) {w0 σ0 β0 nt} (hq0 : EOK E β0 nt) (hpn : ∀ b, nt.pin b = none) {ops : Array Oper} {all : List Oper} (hall : ops.toList = all) {Q : Exit → Act → World → Prop} {K : SS → Prop}
    (hQ : ∀ c a w, ¬Q (.panic c) a w) (hsel : Region.noSelect ops = true) (hd : ∀ o ∈ all, ∀ d, o.dst = some d → d < nt.n)
    (hK : ∀ S a w, K S → G w0 σ0 β0 nt S a w → Q .normal a w) : ∀ (p : Plan) (T : List Nat) (pins : Pins) (S : SS) (L : Array Bool) (ps : List (Nat × (World → Prop))) (a : Act) (w : World) (σ : PH) (β : List HB) (fuel : Nat),
      runP E all p pins S K → GG w0 σ0 β0 nt σ β S a w → JP ps T pins w β → Closed ops L → p.dep ≤ fuel →
      (chk ops p true L T = true → wpAnyP E.P ops Q fuel ps L a w) ∧
      (chk ops p false L T = true → ∀ f, fuel = f + 1 → ∀ j ∈ p.alts, wpOp E.P ops Q j (fun a' w' => (∀ p ∈ ps, waits ops j p.1 = false → p.2 w') ∧ wpAnyP E.P ops Q f (ps.filter fun p => !waits ops j p.1) (L.setIfInBounds j true) a' w') a w)
  | .nil, T, pins, S, L, ps, a, w, σ, β, fuel, h, g, hJ, hcl, hf => by
    refine ⟨fun hc => ?_, fun hc f e j hj => by simp [Plan.alts] at hj⟩
    simp only [chk, Bool.true_and, List.isEmpty_iff] at hc
    have hq : Q .normal a w := hK S a w h ⟨σ, β, g⟩
    cases fuel with
    | zero => exact ⟨hc, hq⟩
    | succ n => exact ⟨fun _ => hq, by rw [hc]; simp⟩
  | .no, T, pins, S, L, ps, a, w, σ, β, fuel, h, g, hJ, hcl, hf => ⟨fun hc => by simp [chk] at hc, fun hc f e j hj => by simp [Plan.alts] at hj⟩
  | .q i r, T, pins, S, L, ps, a, w, σ, β, fuel, h, g, hJ, hcl, hf => by
    refine ⟨fun hc => ?_, fun hc f e j hj => by simp [Plan.alts] at hj⟩
    simp only [chk, Bool.true_and, Bool.and_eq_true] at hc
    obtain ⟨⟨hr, hfree⟩, hc⟩ := hc
    simp only [Plan.dep] at hf
    obtain ⟨f, rfl⟩ : ∃ f, fuel = f + 1 := ⟨fuel - 1, by omega⟩
    simp only [runP] at h
    split at h
    · rename_i o ho
      have hop : ops[i]? = some o := by rw [← ho, ← hall]; simp
      have hdo := hd o (by rw [← hall]; simpa using Array.mem_of_getElem? hop)
      have hri : i ∈ Region.ready .any ops L := by simpa using hr
      rcases guard_ok hall h g with ⟨hw, S1, g1, h1⟩ | ⟨hw, S1, g1, h1⟩
      · obtain ⟨v, pb, S', β', ob, hrun, hpb, hk, g', hβ, hbad⟩ := quietS_ok hE hdo h1 g1
        refine wpAnyP_first (pw := PB pb) hop (Region.noSelect_spec hsel) hQ f ps L a w hcl (Region.free_spec hop hfree) hri (.inl ⟨hw, hrun⟩) hpb hJ.now ?_
        refine (runP_ok hE hq0 hpn hall hQ hsel hd hK r _ _ S' _ _ _ w σ β' f hk g' ?_ (hcl.add hri) (by omega)).1 hc
        intro p hp
        have hT' : ∀ t, t ∈ T → t ∈ (if ((ops[i]?).map isLoad).getD false then i :: T else T) := fun t ht => by split <;> simp [ht]
        rcases List.mem_cons.1 hp with rfl | hp
        · cases hpbc : pb with
          | none => exact .inl fun _ => trivial
          | some bc =>
            obtain ⟨b, cs⟩ := bc
            obtain ⟨hil, bad, rfl, hb⟩ := hbad b cs hpbc
            rw [hpbc] at hpb
            exact .inr ⟨by simp [hop, hil], b, cs, bad, rfl, by simp [addP], hpb, hb⟩
        · rcases hJ p hp with h | ⟨ht, b, cs, bad, e, hm, hB, hfr⟩
          · exact .inl h
          · refine .inr ⟨hT' _ ht, b, cs, bad, e, ?_, hB, fun h' x hx hn hb => hfr h' x (hβ h' x b hx hb) hn hb⟩
            unfold addP; split
            · exact List.mem_cons_of_mem _ hm
            · exact hm
      · rw [SS.setK_eq] at h1
        refine wpAnyP_first (v := undef) (pw := fun _ => True) hop (Region.noSelect_spec hsel) hQ f ps L a w hcl (Region.free_spec hop hfree) hri (.inr ⟨hw, rfl⟩) trivial hJ.now ?_
        refine (runP_ok hE hq0 hpn hall hQ hsel hd hK r _ _ _ _ _ _ w σ β f h1 (g1.set (s := .raw undef) (v := undef) (by simp [rel]) o.dst hdo) ?_ (hcl.add hri) (by omega)).1 hc
        intro p hp
        have hT' : ∀ t, t ∈ T → t ∈ (if ((ops[i]?).map isLoad).getD false then i :: T else T) := fun t ht => by split <;> simp [ht]
        rcases List.mem_cons.1 hp with rfl | hp
        · exact .inl fun _ => trivial
        · exact (hJ p hp).imp id (fun ⟨ht, r⟩ => ⟨hT' _ ht, r⟩)
    · exact h.elim
  | .l i keep r alts, T, pins, S, L, ps, a, w, σ, β, fuel, h, g, hJ, hcl, hf => by
    have two : chk ops (.l i keep r alts) false L T = true → ∀ f, fuel = f + 1 → ∀ j ∈ (Plan.l i keep r alts).alts, wpOp E.P ops Q j (fun a' w' => (∀ p ∈ ps, waits ops j p.1 = false → p.2 w') ∧ wpAnyP E.P ops Q f (ps.filter fun p => !waits ops j p.1) (L.setIfInBounds j true) a' w') a w := by
      intro hc f e j hj
      subst e
      simp only [chk, Bool.not_false, Bool.true_or, Bool.true_and, Bool.and_eq_true] at hc
      obtain ⟨⟨⟨hr, hT⟩, hc1⟩, hc2⟩ := hc
      have hri : i ∈ Region.ready .any ops L := by simpa using hr
      simp only [Plan.dep] at hf
      simp only [runP] at h
      split at h
      · rename_i o ho
        have hop : ops[i]? = some o := by rw [← ho, ← hall]; simp
        have hdo := hd o (by rw [← hall]; simpa using Array.mem_of_getElem? hop)
        have hboth : (guardS all o S (fun S => stepS (drawE E (keepP keep pins)) S o fun S => runP E all r (markP (badP (keepP keep pins)) (keepP keep pins)) S K)
          (fun S => SS.setK S o.dst (.raw undef) fun S => runP E all r (markP (badP (keepP keep pins)) (keepP keep pins)) S K)) ∧ (runP E all alts pins S K) := by
          cases alts <;> first | exact h | exact ⟨h, trivial⟩
        obtain ⟨h, halts⟩ := hboth
        simp only [Plan.alts, List.mem_cons] at hj
        rcases hj with rfl | hj
        · have hJ' : JP (ps.filter fun p => !waits ops j p.1) (T.filter fun t => keep.contains t) (keepP keep pins) w β := by
            intro p hp
            rw [List.mem_filter] at hp
            obtain ⟨hp, hw⟩ := hp
            rcases hJ p hp with h | ⟨ht, b, cs, bad, e, hm, hB, hfr⟩
            · exact .inl h
            · have := List.all_eq_true.1 hT _ ht
              have hw : waits ops j p.1 = false := by simpa using hw
              rw [hw, Bool.or_false] at this
              exact .inr ⟨by rw [List.mem_filter]; exact ⟨ht, this⟩, b, cs, bad, e, mem_keepP hm (by simpa using this), hB, hfr⟩
          have hnow : ∀ {a' w' β'}, JP (ps.filter fun p => !waits ops j p.1) (T.filter fun t => keep.contains t) (markP (badP (keepP keep pins)) (keepP keep pins)) w' β' →
              wpAnyP E.P ops Q f (ps.filter fun p => !waits ops j p.1) (L.setIfInBounds j true) a' w' →
              (∀ p ∈ ps, waits ops j p.1 = false → p.2 w') ∧ wpAnyP E.P ops Q f (ps.filter fun p => !waits ops j p.1) (L.setIfInBounds j true) a' w' := by
            intro a' w' β' hJn hw
            exact ⟨fun p hp hwt => hJn.now p (by rw [List.mem_filter]; exact ⟨hp, by simp [hwt]⟩), hw⟩
          have hf' : r.dep ≤ f := by omega
          unfold wpOp
          rw [hop]
          simp only
          rcases guard_ok hall h g with ⟨hw, S1, g1, h1⟩ | ⟨hw, S1, g1, h1⟩
          · rw [if_pos hw]
            refine .inl (loud_ok hE hq0 hpn hdo h1 g1 hJ' ?_)
            intro S' a' w' σ' β' hk hg hJn
            exact hnow hJn ((runP_ok hE hq0 hpn hall hQ hsel hd hK r _ _ S' _ _ a' w' σ' β' f hk hg hJn (hcl.add hri) hf').1 hc1)
          · rw [if_neg (by simp [hw])]
            rw [SS.setK_eq] at h1
            have hJn : JP (ps.filter fun p => !waits ops j p.1) (T.filter fun t => keep.contains t) (markP (badP (keepP keep pins)) (keepP keep pins)) w β := by
              intro p hp
              rcases hJ' p hp with h | ⟨ht, b, cs, bad, e, hm, hB, hfr⟩
              · exact .inl h
              · exact .inr ⟨ht, b, cs, _, e, mem_markP hm, hB, fun h' x hx hn hb => hfr h' x hx (fun hin => hn (mem_badP hm hin)) hb⟩
            exact hnow hJn ((runP_ok hE hq0 hpn hall hQ hsel hd hK r _ _ _ _ _ _ w σ β f h1 (g1.set (s := .raw undef) (v := undef) (by simp [rel]) o.dst hdo) hJn (hcl.add hri) hf').1 hc1)
        · exact (runP_ok hE hq0 hpn hall hQ hsel hd hK alts T pins S L ps a w σ β (f + 1) halts g hJ hcl (by omega)).2 hc2 f rfl j hj
      · exact h.elim
    refine ⟨fun hc => ?_, two⟩
    have hf' := hf
    simp only [Plan.dep] at hf'
    obtain ⟨f, rfl⟩ : ∃ f, fuel = f + 1 := ⟨fuel - 1, by omega⟩
    have hc' := hc
    simp only [chk, Bool.not_true, Bool.false_or, Bool.and_eq_true] at hc'
    obtain ⟨⟨⟨⟨hall', hr⟩, hT⟩, hc1⟩, hc2⟩ := hc'
    have hri : i ∈ Region.ready .any ops L := by simpa using hr
    refine ⟨fun h0 => (by rw [h0] at hri; cases hri), fun j hj => two ?_ f rfl j ?_⟩
    · simp only [chk, Bool.not_false, Bool.true_or, Bool.true_and, Bool.and_eq_true]
      exact ⟨⟨⟨hr, hT⟩, hc1⟩, hc2⟩
    · have := List.all_eq_true.1 hall' j hj
      simpa [Plan.alts] using this

/- the duty at such a region: ghost steps ahead of it, a plan, and the walk along it -/
inductive DrawOb (E : Env) (ops : Array Oper) (S : SS) (K : SS → Prop) : Prop
  | mk (gs : List Ghost) (p : Plan) (hc : chkAll ops p = true) (h : runG E.npre E.nm gs S fun S => runP E ops.toList p [] S K)
  | cut (gs : List Ghost) (p : Plan) {Y : Type} (st : Y → SS) (inv : Y → Prop) (hc : chkAll ops p = true)
      (h1 : runG E.npre E.nm gs S fun S => runP E ops.toList p [] S (Gh E.npre E.nm fun S' => ∃ y hs, inv y ∧ Le E.npre hs S' (st y))) (h2 : ∀ y, inv y → K (st y))

theorem GG.drawn {w0 σ0 β0 nt σ β S a w} (g : GG w0 σ0 β0 nt σ β S a w) (n : Nat) : GG w0 σ0 β0 nt σ β S a { w with drawn := n } :=
  ⟨g.tm, g.sz, g.df, ⟨g.hp.ph, g.hp.len, g.hp.ok, g.hp.lt, g.hp.apart⟩, ⟨g.fr.os, g.fr.tape, g.fr.output, g.fr.size, g.fr.block, g.fr.le, g.fr.new, g.fr.pre, g.fr.fresh⟩, ⟨g.pn.at_, g.pn.fr⟩⟩

theorem draw_ok {E : Env} (hE : EnvOK E) (hm : E.P.follows .mixedOrders = true) {w0 σ0 β0 nt} (hq0 : EOK E β0 nt) (hpn : ∀ b, nt.pin b = none) {ops : Array Oper} {Q : Exit → Act → World → Prop} {K : SS → Prop} {id : Nat} {S : SS} {a : Act} {w : World}
    (hQ : ∀ c a w, ¬Q (.panic c) a w) (hd : ∀ o ∈ ops.toList, ∀ d, o.dst = some d → d < nt.n)
    (hK : ∀ S a w, K S → G w0 σ0 β0 nt S a w → Q .normal a w) (h : DrawOb E ops S K) (g : G w0 σ0 β0 nt S a w) : (Code.region id ops true).wp E.P Q a w := by
  have core : ∀ (K' : SS → Prop) (gs : List Ghost) (p : Plan), chkAll ops p = true → (runG E.npre E.nm gs S fun S => runP E ops.toList p [] S K') → (∀ S a w, K' S → G w0 σ0 β0 nt S a w → Q .normal a w) → (Code.region id ops true).wp E.P Q a w := by
    intro K' gs p hc h hK'
    simp only [chkAll, Bool.and_eq_true] at hc
    obtain ⟨⟨hdep, hsel⟩, hc⟩ := hc
    obtain ⟨σ, β, g⟩ := g
    obtain ⟨S', σ', β', hk, g'⟩ := runG_ok gs S h hq0.np.symm hq0.nm g
    refine wp_region_any hm (wpAny_of_P _ [] _ _ _ ?_)
    refine (runP_ok hE hq0 hpn rfl hQ hsel hd hK' p [] [] S' _ [] a _ σ' β' ops.size hk (g'.drawn _) (fun p hp => by simp at hp) ?_ (Nat.le_of_ble_eq_true hdep)).1 hc
    intro j oj hj hl e he hb
    exfalso; rw [Array.getD_eq_getD_getElem?, Array.getElem?_replicate] at hl; split at hl <;> cases hl
  cases h with
  | mk gs p hc h => exact core K gs p hc h hK
  | @cut gs p Y st inv hc h1 h2 =>
    refine core _ gs p hc h1 ?_
    rintro S1 a1 w1 hk ⟨σ1, β1, g1⟩
    obtain ⟨S'', σ', β', ⟨y', hs, hi, hle⟩, hg'⟩ := Gh_ok hk hq0.np.symm hq0.nm g1
    obtain ⟨β'', hg''⟩ := hg'.weak hpn (by rw [← hq0.np]; exact hle)
    exact hK _ _ _ (h2 y' hi) ⟨_, _, hg''⟩
end Go.Sx
