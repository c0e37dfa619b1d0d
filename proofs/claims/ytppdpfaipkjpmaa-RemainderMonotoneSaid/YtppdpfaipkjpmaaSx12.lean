/-
  A text of the proofs of this seat: lemmas that the statements' proofs use; it states nothing of the program by itself beyond the contracts that its theorems bear. Conditions: those that stand in each theorem. Its short name: Sx12.
-/
import Derived.Test.YtppdpfaipkjpmaaSx11
set_option linter.unusedVariables false
set_option linter.unusedSimpArgs false
namespace Go.Sx

/-! ### one operation -/
def minS (kd : IntKind) (x : Int) (k : SV → Prop) : List SV → Prop
  | [] => k (.num kd x)
  | .num kb y :: r => same kd kb (minS kd (min x y) k r)
  | _ => False
def maxS (kd : IntKind) (x : Int) (k : SV → Prop) : List SV → Prop
  | [] => k (.num kd x)
  | .num kb y :: r => same kd kb (maxS kd (max x y) k r)
  | _ => False
def extS (mx : Bool) (l : List SV) (k : SV → Prop) : Prop :=
  match l with
  | .num kd x :: r => match mx with | true => maxS kd x k r | false => minS kd x k r
  | _ => False
theorem minS_ok {P : Program} {σ β} {k : SV → Prop} {kd : IntKind} : ∀ (l : List SV) (vs : List Value) (x : Int), minS kd x k l → relL σ β l vs →
    ∃ v s, (∀ w, (vs.foldlM Builtin.min2 (.int kd x)).run P w = .ok v w) ∧ rel σ β s v ∧ k s
  | [], vs, x, h, hr => by simp only [relL] at hr; subst hr; exact ⟨.int kd x, _, (fun w => by simp), by simp only [rel], h⟩
  | s :: l, vs, x, h, hr => by
    simp only [relL] at hr; obtain ⟨v, vs', rfl, h1, h2⟩ := hr
    cases s <;> simp only [minS] at h <;> try exact h.elim
    rename_i kb y
    obtain ⟨e0, hq⟩ := same_ok h
    clear h
    subst e0
    have h := hq
    simp only [rel] at h1; subst h1
    obtain ⟨u, s', e, h3, h4⟩ := minS_ok (P := P) l vs' _ h h2
    refine ⟨u, s', fun w => ?_, h3, h4⟩
    have : (if y < x then y else x) = min x y := by split <;> omega
    simp [Builtin.min2, this, e]
theorem maxS_ok {P : Program} {σ β} {k : SV → Prop} {kd : IntKind} : ∀ (l : List SV) (vs : List Value) (x : Int), maxS kd x k l → relL σ β l vs →
    ∃ v s, (∀ w, (vs.foldlM Builtin.max2 (.int kd x)).run P w = .ok v w) ∧ rel σ β s v ∧ k s
  | [], vs, x, h, hr => by simp only [relL] at hr; subst hr; exact ⟨.int kd x, _, (fun w => by simp), by simp only [rel], h⟩
  | s :: l, vs, x, h, hr => by
    simp only [relL] at hr; obtain ⟨v, vs', rfl, h1, h2⟩ := hr
    cases s <;> simp only [maxS] at h <;> try exact h.elim
    rename_i kb y
    obtain ⟨e0, hq⟩ := same_ok h
    clear h
    subst e0
    have h := hq
    simp only [rel] at h1; subst h1
    obtain ⟨u, s', e, h3, h4⟩ := maxS_ok (P := P) l vs' _ h h2
    refine ⟨u, s', fun w => ?_, h3, h4⟩
    have : (if x < y then y else x) = max x y := by split <;> omega
    simp [Builtin.max2, this, e]

def lenS (E : Env) (S : SS) (t : Nat) (x : SV) (k : SV → Prop) : Prop :=
  need (look E.tys t) fun d =>
    match d.desc with
    | .slice _ => match x with
      | .nil => k (.num .i64 0)
      | .psl _ rows => k (.num .i64 rows.length)
      | .vec h => match S.own[h]? with
        | some (.vec _ rows) => k (.num .i64 rows.length)
        | _ => False
      | _ => False
    | .string => match x with
      | .str s => k (.num .i64 s.size)
      | _ => False
    | _ => False

def bltS (E : Env) (S : SS) (b : Builtin) (ts : List Nat) (xs : List SV) (k : SV → Prop) : Prop :=
  match b with
  | .len => match ts, xs with
    | [t], [x] => lenS E S t x fun s => k s
    | _, _ => False
  | .min => extS false xs fun s => k s
  | .max => extS true xs fun s => k s
  | _ => False
def apdS (E : Env) (S : SS) (ts : List Nat) (xs : List SV) (k : SS → SV → Prop) : Prop :=
  match ts, xs with
  | [t, t'], [x, y] => match Nat.beq t t' with
    | true => appS E S t x y k
    | false => False
  | _, _ => False

def evL (S : SS) : List Operand → List SV
  | [] => []
  | x :: l => nrm S.own (S.ev x) :: evL S l
def evP (S : SS) (o : Option Operand) (k : Option SV → Prop) : Prop :=
  match o with
  | none => k none
  | some x => S.evN x fun s => k (some s)
/- a slice against nil -/
def neB (op : BinOp) : Bool :=
  match op with
  | .neq => true
  | _ => false
inductive EqnOb (rows : List (List SV)) (op : BinOp) (k : SV → Prop) : Prop
  | ne (h : rows ≠ []) (hk : k (.bl (neB op)))
  | unk (hk : ∀ p : Prop, k (.bp p))
def isEq (op : BinOp) : Bool :=
  match op with
  | .eql => true
  | .neq => true
  | _ => false
def eqnS (E : Env) (S : SS) (op : BinOp) (t : Nat) (x : SV) (k : SV → Prop) : Prop :=
  match isEq op with
  | true => need (look E.tys t) fun d => match d.desc with
    | .slice _ => match x with
      | .nil => k (.bl (!neB op))
      | .psl _ rows => EqnOb rows op k
      | .vec h => match S.own[h]? with
        | some (.vec _ rows) => EqnOb rows op k
        | _ => False
      | _ => False
    | _ => False
  | false => False
theorem eqn_run {P : Program} {t e : Nat} (hu : P.underlying t = some (.slice e)) (a : Option Addr) (n c : Nat) (w : World) :
    (Op.equal t (.slice a n c) (.slice none 0 0)).run P w = .ok a.isNone w ∧ (Op.equal t (.slice none 0 0) (.slice a n c)).run P w = .ok a.isNone w := by
  have hm : Op.maxDepth = Nat.succ 9999 := rfl
  constructor
  · unfold Op.equal; rw [hm, Op.equalIn]; cases a <;> simp [run_underlying hu]
  · unfold Op.equal; rw [hm, Op.equalIn]; cases a <;> simp [run_underlying hu]
theorem eqnS_ok {E : Env} (hE : EnvOK E) {w0 σ0 β0 nt σ β S a w} (g : GG w0 σ0 β0 nt σ β S a w) {op : BinOp} {t : Nat} {sx : SV} {v : Value} {k : SV → Prop} (h : eqnS E S op t sx k) (hr : rel σ β sx v) (x y : Operand) :
    (∃ u s, (∀ w, (do eqGuard op t x y v (.slice none 0 0); binOp op t v (.slice none 0 0) : Sem Value).run E.P w = .ok u w) ∧ rel σ β s u ∧ k s) ∧
    (∃ u s, (∀ w, (do eqGuard op t x y (.slice none 0 0) v; binOp op t (.slice none 0 0) v : Sem Value).run E.P w = .ok u w) ∧ rel σ β s u ∧ k s) := by
  unfold eqnS at h
  split at h
  · rename_i hop
    obtain ⟨d, hd, h1⟩ := need_some h
    have hu := (look_ok hE hd).2
    split at h1
    · rename_i e hdesc
      rw [hdesc] at hu
      have run1 : ∀ (ad : Option Addr) (n c : Nat), v = .slice ad n c → ∀ w, (do eqGuard op t x y v (.slice none 0 0); binOp op t v (.slice none 0 0) : Sem Value).run E.P w = .ok (.bool (neB op != ad.isNone)) w := by
        rintro ad n c rfl w
        have := eqn_run hu ad n c w
        cases op <;> simp [isEq] at hop <;> simp [eqGuard, binOp, this.1, neB]
      have run2 : ∀ (ad : Option Addr) (n c : Nat), v = .slice ad n c → ∀ w, (do eqGuard op t x y (.slice none 0 0) v; binOp op t (.slice none 0 0) v : Sem Value).run E.P w = .ok (.bool (neB op != ad.isNone)) w := by
        rintro ad n c rfl w
        have := eqn_run hu ad n c w
        cases op <;> simp [isEq] at hop <;> simp [eqGuard, binOp, this.2, neB]
      have fin : ∀ (ad : Option Addr) (n c : Nat) (s : SV), v = .slice ad n c → rel σ β s (.bool (neB op != ad.isNone)) → k s →
          (∃ u s, (∀ w, (do eqGuard op t x y v (.slice none 0 0); binOp op t v (.slice none 0 0) : Sem Value).run E.P w = .ok u w) ∧ rel σ β s u ∧ k s) ∧
          (∃ u s, (∀ w, (do eqGuard op t x y (.slice none 0 0) v; binOp op t (.slice none 0 0) v : Sem Value).run E.P w = .ok u w) ∧ rel σ β s u ∧ k s) :=
        fun ad n c s hv hr hk => ⟨⟨_, s, run1 ad n c hv, hr, hk⟩, ⟨_, s, run2 ad n c hv, hr, hk⟩⟩
      have ob : ∀ (rows : List (List SV)) (ad : Option Addr) (n c : Nat), v = .slice ad n c → (rows ≠ [] → ad ≠ none) → EqnOb rows op k →
          (∃ u s, (∀ w, (do eqGuard op t x y v (.slice none 0 0); binOp op t v (.slice none 0 0) : Sem Value).run E.P w = .ok u w) ∧ rel σ β s u ∧ k s) ∧
          (∃ u s, (∀ w, (do eqGuard op t x y (.slice none 0 0) v; binOp op t (.slice none 0 0) v : Sem Value).run E.P w = .ok u w) ∧ rel σ β s u ∧ k s) := by
        intro rows ad n c hv hne hob
        cases hob with
        | ne h hk =>
          have := hne h
          refine fin ad n c _ hv ?_ hk
          simp only [rel]
          cases ad with
          | none => exact absurd rfl this
          | some ad => simp
        | unk hk =>
          refine fin ad n c (.bp ((neB op != ad.isNone) = true)) hv ?_ (hk _)
          simp only [rel]; exact ⟨_, rfl, Iff.rfl⟩
      split at h1
      · simp only [rel] at hr
        refine fin none 0 0 _ hr ?_ h1
        simp only [rel]
        simp
      · rename_i esz rows
        simp only [rel] at hr
        obtain ⟨ad, cap, vss, hv, _, _, _, hd⟩ := hr
        refine ob rows ad _ cap hv (fun h => ?_) h1
        rcases hd with hd | ⟨b, off, rfl, _⟩
        · exact absurd hd h
        · simp
      · rename_i hh
        clear h
        split at h1
        · rename_i esz rows hc
          simp only [rel] at hr
          obtain ⟨y, hy, hv⟩ := hr
          obtain ⟨_, _, _, h4⟩ := g.hp.ok _ _ _ hc hy
          refine ob rows _ _ _ hv (fun h => ?_) h1
          rcases h4 with ⟨_, h5, _⟩ | ⟨b, _, _, h5, _⟩
          · exact absurd h5 h
          · rw [h5]; simp
        · exact h1.elim
      · exact h1.elim
    · exact h1.elim
  · exact h.elim
def binN (E : Env) (S : SS) (op : BinOp) (t : Nat) (sx sy : SV) (k : SV → Prop) : Prop :=
  match sy with
  | .nil => eqnS E S op t sx k
  | sy => match sx with
    | .nil => eqnS E S op t sy k
    | sx => binS op sx sy k
/- what only yields a value, and changes nothing -/
def valS (E : Env) (S : SS) (op : Op) (k : SV → Prop) : Prop :=
  match op with
  | .move x => S.evN x k
  | .assign x => S.evN x fun s => match s with
    | .nil => False
    | s => k s
  | .pick c x y => S.evN c fun s => match s with
    | .bl true => S.evN x k
    | .bl false => S.evN y k
    | .bp p => CondOb p (S.evN x k) (S.evN y k)
    | _ => False
  | .build t parts => stcS E S t parts.toList k
  | .load T x => S.evN x fun s => loadS E S T s k
  | .nilCheck x => S.evN x fun s => match s with
    | .ptr h off => k (.ptr h off)
    | .elt h i off => k (.elt h i off)
    | .pptr cs => k (.pptr cs)
    | .fn f cs => k (.fn f cs)
    | _ => False
  | .binOp op t x y _ => S.evN x fun sx => S.evN y fun sy => binN E S op t sx sy k
  | .unOp op _ x => S.evN x fun s => match op, s with
    | .not, .bp p => k (.bp (¬p))
    | .not, .bl true => k (.bl false)
    | .not, .bl false => k (.bl true)
    | .neg, .num kd n => arith kd (0 - n) fun r => k (.num kd r)
    | _, _ => False
  | .convert s t x => need (look E.tys s) fun _ => need (look E.tys t) fun d => S.evN x fun v => match d.desc, v with
    | .int kd, .num _ n => arith kd n fun r => k (.num kd r)
    | _, _ => False
  | .makeFunc fn first caps => match fn, first.toList with
    | .func f, [] => forceVL (evL S caps.toList) fun l => k (.fn f l)
    | _, _ => False
  | .slice t x lo hi mx => match mx with
    | none => S.evN x fun sx => evP S lo fun lo => evP S hi fun hi => sliceS E t sx lo hi k
    | some _ => False
  | .fieldAddr t x f => S.evN x fun s => fieldS E t f s k
  | .field t x f => need (look E.tys t) fun d => S.evN x fun s => match d.desc, s with
    | .struct fs, .agg l => need fs[f]? fun fl => need (look E.tys fl.type) fun df => need (sub (aggD df.desc) df.size fl.offset l) fun s => forceV s k
    | _, _ => False
  | .indexAddr t x i => S.evN x fun sx => S.evN i fun si => indexS E S t sx si k
  | .extract x i => S.evN x fun s => match s with
    | .tup l => need l[i]? fun s => forceV s k
    | _ => False
  | .call c => match c.callee with
    | .builtin b => forceVL (evL S c.args.toList) fun l => bltS E S b c.argTypes.toList l k
    | _ => False
  | _ => False
/- ahead of what may want a ghost step -/
def ghosted (E : Env) (S : SS) (x : SV) (k : SS → Prop) : Prop :=
  match x with
  | .vec _ => Gh E.npre E.nm k S
  | _ => k S
def stepS (E : Env) (S : SS) (o : Oper) (K : SS → Prop) : Prop :=
  match o.op with
  | .assign x => S.evN x fun s => match s with
    | .nil => need (elemD E o.type) fun de => forceN S.own.length fun n => forceL (S.own ++ [.vec de.size []]) fun own => S.withTm fun tm => SS.setK ⟨tm, own⟩ o.dst ((.vec n)) K
    | s => S.setK o.dst (s) K
  | .alloc T => need (look E.tys T) fun d => need (ofV d.zero).cells fun cs => forceVL cs fun cs => forceN S.own.length fun n => forceL (S.own ++ [.box cs]) fun own => S.withTm fun tm => SS.setK ⟨tm, own⟩ o.dst ((.ptr n 0)) K
  | .box _ x => S.evN x fun s => need s.cells fun cs => forceVL cs fun cs => forceN S.own.length fun n => forceL (S.own ++ [.box cs]) fun own => S.withTm fun tm => SS.setK ⟨tm, own⟩ o.dst ((.ptr n 0)) K
  | .buildSlice t len parts => litS E S t len parts.toList fun S' s => S'.setK o.dst (s) K
  | .store T x y => S.evN x fun sx => S.evN y fun sy => storeS E S T sx sy fun own => S.withTm fun tm => SS.setK ⟨tm, own⟩ o.dst (.any) K
  | .makeSlice t l c => S.evN l fun sl => S.evN c fun sc => makeS E S t sl sc fun S' s => S'.setK o.dst (s) K
  | .slice t x lo hi mx => match mx with
    | none => S.evN x fun sx => ghosted E S sx fun S => S.evN x fun sx => evP S lo fun lo => evP S hi fun hi => sliceS E t sx lo hi fun s => S.setK o.dst (s) K
    | some _ => False
  | .call c => match c.callee with
    | .builtin .append => forceVL (evL S c.args.toList) fun l => apdS E S c.argTypes.toList l fun S' s => S'.setK o.dst (s) K
    | .value f => S.evN f fun s => match s with
      | .fn g _ => Gh E.npre E.nm (fun S => S.evN f fun s => match s with
        | .fn _ caps => forceVL (evL S c.args.toList ++ caps) fun l => CallOb E.P E.free g l S fun S' s => S'.setK o.dst (s) K
        | _ => False) S
      | _ => False
    | _ => valS E S o.op fun s => S.setK o.dst s K
  | _ => valS E S o.op fun s => S.setK o.dst s K

section
variable {P : Program} {o : Oper} {a : Act} {w : World} {next : Act → World → Prop} {Q : Exit → Act → World → Prop}
theorem wp_val {v : Value} {w' : World} (h : (execOp a.eval o).run P w = .ok (.value v) w') (hn : next (a.put o.dst v) w') : o.wp P a w next Q := by
  unfold Oper.wp; rw [h]; exact hn
theorem wp_unit {w' : World} (h : (execOp a.eval o).run P w = .ok .skip w') (hn : next (a.put o.dst undef) w') : o.wp P a w next Q := by
  unfold Oper.wp; rw [h]; exact hn
theorem wp_enter {f : Nat} {args : Array Value} (h : (execOp a.eval o).run P w = .ok (.enter f args) w)
    (hc : Calls P f args w fun e w' => ∃ v, e = .returned v ∧ next (a.put o.dst v) w') : o.wp P a w next Q := by
  unfold Oper.wp; rw [h]
  refine Calls.mono hc ?_
  rintro e w' ⟨v, rfl, h⟩; exact h
end
theorem evL_ok {w0 σ0 β0 nt σ β S a w} (g : GG w0 σ0 β0 nt σ β S a w) : ∀ l : List Operand, relL σ β (evL S l) (l.map a.eval)
  | [] => by simp [evL, relL]
  | x :: l => by simp only [evL, List.map_cons]; exact relL_cons.2 ⟨rel_nrm g.hp _ _ (g.ev x), evL_ok g l⟩
theorem evP_ok {w0 σ0 β0 nt σ β S a w} (g : GG w0 σ0 β0 nt σ β S a w) {o : Option Operand} {k : Option SV → Prop} (h : evP S o k) :
    ∃ so, k so ∧ (∀ s, so = some s → ∃ v, o.map a.eval = some v ∧ rel σ β s v) ∧ (so = none → o.map a.eval = none) := by
  cases o with
  | none => exact ⟨none, h, by simp, by simp⟩
  | some x =>
    obtain ⟨s, hr, hk⟩ := g.evN h
    exact ⟨some s, hk, fun s' hs => by cases hs; exact ⟨_, rfl, hr⟩, fun h => by cases h⟩

def PB : Option (Nat × List Value) → World → Prop
  | none, _ => True
  | some (b, cs), w => Blk w b cs
def Yl (E : Env) (σ : PH) (β : List HB) (S : SS) (a : Act) (w : World) (op : Op) (k : SV → Prop) : Prop :=
  ∃ (v : Value) (s : SV) (pb : Option (Nat × List Value)), (∀ w', PB pb w' → ∀ dst ty pos after guard, (execOp a.eval ⟨dst, op, ty, pos, after, guard⟩).run E.P w' = .ok (.value v) w') ∧ PB pb w ∧ rel σ β s v ∧ k s ∧
    (∀ b cs, pb = some (b, cs) → ∃ T x, op = .load T x)
theorem yl {E : Env} {σ : PH} {β : List HB} {S : SS} {a : Act} {w : World} {op : Op} {k : SV → Prop} {v : Value} {s : SV}
    (h : ∀ w' dst ty pos after guard, (execOp a.eval ⟨dst, op, ty, pos, after, guard⟩).run E.P w' = .ok (.value v) w') (hr : rel σ β s v) (hk : k s) : Yl E σ β S a w op k :=
  ⟨v, s, none, fun w' _ => h w', trivial, hr, hk, fun _ _ h => by cases h⟩
theorem valS_ok {E : Env} (hE : EnvOK E) {w0 : World} {σ0 : PH} {β0 : List HB} {nt : Par} {S : SS} {op : Op} {k : SV → Prop} {a : Act} {w : World} {σ : PH} {β : List HB}
    (h : valS E S op k) (g : GG w0 σ0 β0 nt σ β S a w) : Yl E σ β S a w op k := by
  cases op <;> simp only [valS] at h <;> try exact h.elim
  case move x =>
    obtain ⟨s, hr, hq⟩ := g.evN h
    clear h
    have h := hq
    clear hq
    exact yl (v := a.eval x) (fun _ _ _ _ _ _ => by simp [execOp]) hr h
  case pick c x y =>
    obtain ⟨sc, hc, hq⟩ := g.evN h
    clear h
    have h := hq
    clear hq
    split at h
    · simp only [rel] at hc
      obtain ⟨s, hr, hq⟩ := g.evN h
      clear h
      have h := hq
      clear hq
      exact yl (v := a.eval x) (fun _ _ _ _ _ _ => by simp [execOp, hc, asBool]) hr h
    · simp only [rel] at hc
      obtain ⟨s, hr, hq⟩ := g.evN h
      clear h
      have h := hq
      clear hq
      exact yl (v := a.eval y) (fun _ _ _ _ _ _ => by simp [execOp, hc, asBool]) hr h
    · rename_i p
      simp only [rel] at hc
      obtain ⟨b, hc, hbp⟩ := hc
      obtain ⟨ht, hf⟩ := h
      cases b with
      | true =>
        obtain ⟨s, hr, h⟩ := g.evN (ht (hbp.1 rfl))
        exact yl (v := a.eval x) (fun _ _ _ _ _ _ => by simp [execOp, hc, asBool]) hr h
      | false =>
        obtain ⟨s, hr, h⟩ := g.evN (hf (fun hp => by have := hbp.2 hp; cases this))
        exact yl (v := a.eval y) (fun _ _ _ _ _ _ => by simp [execOp, hc, asBool]) hr h
    · exact h.elim
  case build t parts =>
    obtain ⟨v, s, hrun, hr, hk⟩ := stcS_ok hE g h
    exact yl (fun _ _ _ _ _ _ => by simp only [execOp, Sem.run_bind, hrun _, Result.andThen_ok]; rfl) hr hk
  case load T x =>
    unfold SS.evN at h
    have h := forceV_ok h
    obtain ⟨v, s, b, cs, hB, hrun, hr, hk, hp⟩ := loadS_ok' hE g h (rel_nrm g.hp _ _ (g.ev x))
    exact ⟨v, s, some (b, cs), fun w' hw' dst ty pos after guard => by simp only [execOp, Sem.run_bind, hrun w' hw', Result.andThen_ok]; rfl, hB, hr, hk, fun _ _ _ => ⟨T, x, rfl⟩⟩
  case nilCheck x =>
    obtain ⟨sx, hx, hq⟩ := g.evN h
    clear h
    have h := hq
    clear hq
    split at h
    · have hx' := hx; simp only [rel] at hx; obtain ⟨y, b, _, _, e⟩ := hx
      exact yl (v := a.eval x) (fun _ _ _ _ _ _ => by simp [execOp, e]) hx' h
    · have hx' := hx; simp only [rel] at hx; obtain ⟨y, b, _, _, e⟩ := hx
      exact yl (v := a.eval x) (fun _ _ _ _ _ _ => by simp [execOp, e]) hx' h
    · have hx' := hx; simp only [rel] at hx; obtain ⟨b, off, vs, e, _⟩ := hx
      exact yl (v := a.eval x) (fun _ _ _ _ _ _ => by simp [execOp, e]) hx' h
    · have hx' := hx; simp only [rel] at hx; obtain ⟨vs, e, _⟩ := hx
      exact yl (v := a.eval x) (fun _ _ _ _ _ _ => by simp [execOp, e]) hx' h
    · exact h.elim
  case binOp op t x y yt =>
    obtain ⟨sx, hx, hq⟩ := g.evN h
    clear h
    have h := hq
    clear hq
    obtain ⟨sy, hy, hq⟩ := g.evN h
    clear h
    have h := hq
    clear hq
    unfold binN at h
    split at h
    · simp only [rel] at hy
      obtain ⟨⟨v, s, hrun, hr, hk⟩, _⟩ := eqnS_ok hE g h hx x y
      exact yl (fun _ _ _ _ _ _ => by simp only [execOp]; rw [hy, Sem.run_bind, hrun _]; rfl) hr hk
    · split at h
      · simp only [rel] at hx
        obtain ⟨_, v, s, hrun, hr, hk⟩ := eqnS_ok hE g h hy x y
        exact yl (fun _ _ _ _ _ _ => by simp only [execOp]; rw [hx, Sem.run_bind, hrun _]; rfl) hr hk
      · obtain ⟨v, s, hrun, hr, hk⟩ := binS_ok (P := E.P) (t := t) (x := x) (y := y) h hx hy
        exact yl (fun _ _ _ _ _ _ => by simp only [execOp]; rw [Sem.run_bind, hrun _]; rfl) hr hk
  case unOp op t x =>
    obtain ⟨sx, hx, hq⟩ := g.evN h
    clear h
    have h := hq
    clear hq
    split at h
    · simp only [rel] at hx; obtain ⟨b, e, hb⟩ := hx
      refine yl (v := .bool (!b)) (fun _ _ _ _ _ _ => by simp [execOp, e, Op.unary]) ?_ h
      simp only [rel]; exact ⟨_, rfl, by rw [← hb]; cases b <;> simp⟩
    · simp only [rel] at hx
      exact yl (v := .bool false) (fun _ _ _ _ _ _ => by simp [execOp, hx, Op.unary]) (by simp only [rel]) h
    · simp only [rel] at hx
      exact yl (v := .bool true) (fun _ _ _ _ _ _ => by simp [execOp, hx, Op.unary]) (by simp only [rel]) h
    · rename_i k n
      simp only [rel] at hx
      exact yl (v := .int k (k.wrap (0 - n))) (fun _ _ _ _ _ _ => by simp [execOp, hx, Op.unary, Op.intArith]) (by simp only [rel]) (arith_ok h)
    · exact h.elim
  case convert s t x =>
    obtain ⟨d1, hd1, h1⟩ := need_some h
    obtain ⟨d, hd2, h2⟩ := need_some h1
    obtain ⟨sx, hx, hq⟩ := g.evN h2
    clear h2
    have h2 := hq
    clear hq
    split at h2
    · rename_i k k' n hdesc
      simp only [rel] at hx
      have u1 := (look_ok hE hd1).2
      have u2 := (look_ok hE hd2).2
      rw [hdesc] at u2
      refine yl (v := .int k (k.wrap n)) (fun w _ _ _ _ _ => ?_) (by simp only [rel]) (arith_ok h2)
      simp [execOp, hx, convert, run_underlying u1, run_underlying u2, Conv.intToInt]
    · exact h2.elim
  case makeFunc fn first caps =>
    split at h
    · rename_i f hf
      rw [forceVL_eq] at h
      have hf0 : first = #[] := by apply Array.ext'; simpa using hf
      subst hf0
      refine yl (v := .func (.func f) #[] (caps.map a.eval)) (fun _ _ _ _ _ _ => by simp [execOp, Instr.makeFunc]) ?_ h
      simp only [rel]; exact ⟨caps.toList.map a.eval, by congr 1; apply Array.ext'; simp, evL_ok g caps.toList⟩
    · exact h.elim
  case fieldAddr t x f =>
    obtain ⟨sx, hx, hq⟩ := g.evN h
    clear h
    have h := hq
    clear hq
    obtain ⟨v, s, hrun, hr, hk⟩ := fieldS_ok hE h hx
    exact yl (fun _ _ _ _ _ _ => by simp only [execOp, Sem.run_bind, hrun _, Result.andThen_ok]; rfl) hr hk
  case field t x f =>
    obtain ⟨d, hd2, h1⟩ := need_some h
    obtain ⟨sx, hx, hq⟩ := g.evN h1
    clear h1
    have h1 := hq
    clear hq
    split at h1
    · rename_i fs l hdesc
      simp only [rel] at hx
      obtain ⟨vs, hv, hr⟩ := hx
      obtain ⟨fl, hfl, h2⟩ := need_some h1
      obtain ⟨df, hdf, h3⟩ := need_some h2
      obtain ⟨s, hs, hk⟩ := need_some h3
      have hk := forceV_ok hk
      have hu := (look_ok hE hd2).2
      rw [hdesc] at hu
      have hF := look_ok hE hdf
      cases hag : aggD df.desc with
      | true =>
        rw [hag] at hs; simp only [sub] at hs
        split at hs
        · rename_i hble; cases hs
          have hle := Nat.le_of_ble_eq_true hble
          refine yl (v := .agg ((vs.drop fl.offset).take df.size).toArray) (fun w _ _ _ _ _ => ?_) ?_ hk
          · simp only [execOp, hv, Instr.field, Sem.run_bind, run_underlying hu, Result.andThen_ok, hfl, asAgg, Sem.run_pure, part, run_isAgg hF, hag, if_true, tyOK_size hF]
            simp [List.take_drop, Nat.add_comm]
          · simp only [rel]; exact ⟨_, rfl, relL_take _ (relL_drop _ hr)⟩
        · cases hs
      | false =>
        rw [hag] at hs; simp only [sub] at hs
        obtain ⟨v, hvv, hrv⟩ := relL_get hr hs
        refine yl (v := v) (fun w _ _ _ _ _ => ?_) hrv hk
        simp only [execOp, hv, Instr.field, Sem.run_bind, run_underlying hu, Result.andThen_ok, hfl, asAgg, Sem.run_pure, part, run_isAgg hF, hag]
        simp [hvv]
    · exact h1.elim
  case indexAddr t x i =>
    obtain ⟨sx, hx, hq⟩ := g.evN h
    clear h
    have h := hq
    clear hq
    obtain ⟨si, hi, hq⟩ := g.evN h
    clear h
    have h := hq
    clear hq
    obtain ⟨v, s, hrun, hr, hk⟩ := indexS_ok hE g h hx hi
    exact yl (fun _ _ _ _ _ _ => by simp only [execOp, Sem.run_bind, hrun _, Result.andThen_ok]; rfl) hr hk
  case extract x i =>
    obtain ⟨sx, hx, hq⟩ := g.evN h
    clear h
    have h := hq
    clear hq
    split at h
    · rename_i l
      simp only [rel] at hx
      obtain ⟨vs, hv, hr⟩ := hx
      obtain ⟨s, hs, hk⟩ := need_some h
      have hk := forceV_ok hk
      obtain ⟨v, hvv, hrv⟩ := relL_get hr hs
      exact yl (v := v) (fun _ _ _ _ _ _ => by simp [execOp, hv, Instr.extract, hvv]) hrv hk
    · exact h.elim
  case assign x =>
    obtain ⟨s, hr, hq⟩ := g.evN h
    clear h
    have h := hq
    clear hq
    split at h
    · exact h.elim
    · exact yl (v := a.eval x) (fun _ _ _ _ _ _ => by simp [execOp]) hr h
  case slice t x lo hi mx =>
    split at h
    · obtain ⟨sx, hx, hq⟩ := g.evN h
      obtain ⟨sl, hq, hl1, hl2⟩ := evP_ok g hq
      obtain ⟨sh, hq, hh1, hh2⟩ := evP_ok g hq
      obtain ⟨v, s, hrun, hr, hk⟩ := sliceS_ok (E := E) hE hq hx hh1 hh2 hl1 hl2
      exact yl (fun _ _ _ _ _ _ => by simp only [execOp, Option.map_none, Sem.run_bind, hrun _, Result.andThen_ok]; rfl) hr hk
    · exact h.elim
  case call c =>
    split at h
    · rename_i b hcal
      rw [forceVL_eq] at h
      have hargs := evL_ok g c.args.toList
      have hbase : ∀ {v : _}, (∀ w ty cs, (builtin b c.argTypes ty cs (c.args.map a.eval)).run E.P w = .ok (.value v) w) →
          ∀ w dst ty pos after guard, (execOp a.eval ⟨dst, .call c, ty, pos, after, guard⟩).run E.P w = .ok (.value v) w := by
        intro v hb w dst ty pos after guard
        simp only [execOp, resolve, hcal, Sem.run_bind, Sem.run_pure, Result.andThen_ok, invoke, hb]
      unfold bltS at h
      split at h
      · split at h
        · rename_i ts xs t x hts hxs
          rw [hxs] at hargs
          simp only [relL] at hargs
          obtain ⟨v, vs', he, hr, hnil⟩ := hargs
          subst hnil
          have hta : c.argTypes = #[t] := by apply Array.ext'; simpa using hts
          have hva : c.args.map a.eval = #[v] := by apply Array.ext'; simpa using he
          obtain ⟨d, hd2, h1⟩ := need_some h
          have hu := (look_ok hE hd2).2
          have hlen : ∀ {n : Nat}, (∃ ad cp, v = .slice ad n cp) → (∃ e, d.desc = .slice e) → ∀ w ty, (Builtin.len_ #[t] ty #[v]).run E.P w = .ok (.int .i64 n) w := by
            rintro n ⟨ad, cp, rfl⟩ ⟨e, hde⟩ w ty
            rw [hde] at hu
            simp [Builtin.len_, run_underlying hu, goInt]
          split at h1
          · rename_i e hdesc
            split at h1
            · simp only [rel] at hr
              refine yl (v := .int .i64 0) (hbase fun w ty _ => ?_) (by simp only [rel]) h1
              rw [hta, hva]; simp only [builtin, Sem.run_bind]
              rw [hlen (n := 0) ⟨none, 0, hr⟩ ⟨e, hdesc⟩]; rfl
            · rename_i esz rows
              simp only [rel] at hr; obtain ⟨ad, cap, vss, e1, _⟩ := hr
              refine yl (v := .int .i64 rows.length) (hbase fun w ty _ => ?_) (by simp only [rel]) h1
              rw [hta, hva]; simp only [builtin, Sem.run_bind]
              rw [hlen ⟨ad, cap, e1⟩ ⟨e, hdesc⟩]; rfl
            · rename_i hh
              split at h1
              · rename_i esz rows hc
                simp only [rel] at hr; obtain ⟨y, hy, e1⟩ := hr
                obtain ⟨_, h2, _⟩ := g.hp.ok _ _ _ hc hy
                refine yl (v := .int .i64 rows.length) (hbase fun w ty _ => ?_) (by simp only [rel]) h1
                rw [hta, hva]; simp only [builtin, Sem.run_bind]
                rw [hlen ⟨_, _, by rw [e1, HB.slice, h2]⟩ ⟨e, hdesc⟩]; rfl
              · exact h1.elim
            · exact h1.elim
          · rename_i hdesc
            split at h1
            · rename_i str
              simp only [rel] at hr
              rw [hdesc] at hu
              refine yl (v := .int .i64 str.size) (hbase fun w ty _ => ?_) (by simp only [rel]) h1
              rw [hta, hva, hr]; simp [builtin, Builtin.len_, run_underlying hu, goInt]
            · exact h1.elim
          · exact h1.elim
        · exact h.elim
      · unfold extS at h
        split at h
        · rename_i kd x r hxs
          rw [hxs] at hargs
          simp only [relL] at hargs
          obtain ⟨v, vs', he, hr, hrest⟩ := hargs
          simp only [rel] at hr; subst hr
          obtain ⟨u, s, hrun, hru, hk⟩ := minS_ok (P := E.P) r vs' x h hrest
          refine yl (v := u) (hbase fun w ty _ => ?_) hru hk
          simp [builtin, Builtin.min_, he, hrun]
        · exact h.elim
      · unfold extS at h
        split at h
        · rename_i kd x r hxs
          rw [hxs] at hargs
          simp only [relL] at hargs
          obtain ⟨v, vs', he, hr, hrest⟩ := hargs
          simp only [rel] at hr; subst hr
          obtain ⟨u, s, hrun, hru, hk⟩ := maxS_ok (P := E.P) r vs' x h hrest
          refine yl (v := u) (hbase fun w ty _ => ?_) hru hk
          simp [builtin, Builtin.max_, he, hrun]
        · exact h.elim
      · exact h.elim
    · exact h.elim
theorem stepS_ok {E : Env} (hE : EnvOK E) {w0 : World} {σ0 : PH} {β0 : List HB} {nt : Par} (hq0 : EOK E β0 nt) {S : SS} {o : Oper} {K : SS → Prop} {next : Act → World → Prop} {Q : Exit → Act → World → Prop} {a : Act} {w : World} {σ : PH} {β : List HB}
    (hd : ∀ d, o.dst = some d → d < nt.n)
    (hn : ∀ S' a' w', K S' → G w0 σ0 β0 nt S' a' w' → next a' w') (h : stepS E S o K) (g : GG w0 σ0 β0 nt σ β S a w) : o.wp E.P a w next Q := by
  have hnp := hq0.np
  have hfx := hq0.fr
  have fin : ∀ {v : Value} {s : SV} {σ' β' S' w'}, GG w0 σ0 β0 nt σ' β' S' a w' → rel σ' β' s v → K (S'.set o.dst s) → next (a.put o.dst v) w' := fun g' hr hk => hn _ _ _ hk ⟨_, _, g'.set hr _ hd⟩
  obtain ⟨dst, op, ty, pos, after, guard⟩ := o
  have quiet : valS E S op (fun s => K (S.set dst s)) → Oper.wp E.P ⟨dst, op, ty, pos, after, guard⟩ a w next Q := by
    intro h
    obtain ⟨v, s, pb, hrun, hpb, hr, hk, _⟩ := valS_ok hE h g
    exact wp_val (hrun w hpb _ _ _ _ _) (fin g hr hk)
  simp only [stepS, SS.setK_eq, SS.withTm_eq] at h
  cases op <;> simp only at h <;> first | exact quiet h | skip
  case assign x =>
    obtain ⟨s, hr, hq⟩ := g.evN h
    clear h
    have h := hq
    clear hq
    split at h
    · obtain ⟨de, hde, hk⟩ := need_some h
      have hk := forceN_ok hk
      rw [forceL_eq] at hk
      simp only [rel] at hr
      refine wp_val (v := a.eval x) (by simp [execOp]) (fin (g.nilVec de.size) ?_ hk)
      rw [hr]; simp only [rel]
      exact ⟨⟨none, de.size, 0, 0⟩, by simp [← g.hp.len], rfl⟩
    · exact wp_val (v := a.eval x) (by simp [execOp]) (fin g hr h)
  case alloc T =>
    obtain ⟨d, hd', h1⟩ := need_some h
    obtain ⟨cs, hcs, hk⟩ := need_some h1
    rw [forceVL_eq] at hk
    have hk := forceN_ok hk
    rw [forceL_eq] at hk
    have hT := look_ok hE hd'
    obtain ⟨hr, hs⟩ := cells_ok (σ := σ) (β := β) hcs (rel_ofV σ β d.zero)
    have hg := g.newBox hr hs T
    refine wp_val (v := .pointer (some ⟨w.heap.size, 0, none⟩)) (w' := w.alloc (.cells d.zero.cells.toList.toArray T)) ?_ (fin hg ?_ hk)
    · simp [execOp, Instr.alloc, tyOK_zero hT, newVar, newRow]
    · simp only [rel]; exact ⟨⟨some w.heap.size, 0, 0, 0⟩, w.heap.size, by rw [← g.hp.len]; simp, rfl, rfl⟩
  case box T x =>
    obtain ⟨s, hsr, hq⟩ := g.evN h
    clear h
    have h := hq
    clear hq
    obtain ⟨cs, hcs, hk⟩ := need_some h
    rw [forceVL_eq] at hk
    have hk := forceN_ok hk
    rw [forceL_eq] at hk
    obtain ⟨hr, hs⟩ := cells_ok hcs hsr
    have hg := g.newBox hr hs T
    refine wp_val (v := .pointer (some ⟨w.heap.size, 0, none⟩)) (w' := w.alloc (.cells (a.eval x).cells.toList.toArray T)) ?_ (fin hg ?_ hk)
    · simp [execOp, Instr.box, newVar, newRow]
    · simp only [rel]; exact ⟨⟨some w.heap.size, 0, 0, 0⟩, w.heap.size, by rw [← g.hp.len]; simp, rfl, rfl⟩
  case buildSlice t len parts =>
    obtain ⟨v, w', β', S', s, hrun, hg, hr, hk⟩ := litS_ok hE g h
    exact wp_val (by simp only [execOp, Sem.run_bind, hrun, Result.andThen_ok]; rfl) (fin hg hr hk)
  case store T x y =>
    obtain ⟨sx, hx, hq⟩ := g.evN h
    clear h
    have h := hq
    clear hq
    obtain ⟨sy, hy, hq⟩ := g.evN h
    clear h
    have h := hq
    clear hq
    obtain ⟨w', own', hrun, hg, hk⟩ := storeS_ok hE g hfx h hx hy
    exact wp_unit (by simp only [execOp, Sem.run_bind, hrun, Result.andThen_ok]; rfl) (fin hg (by simp [rel]) hk)
  case makeSlice t l c =>
    obtain ⟨sl, hl, hq⟩ := g.evN h
    clear h
    have h := hq
    clear hq
    obtain ⟨sc, hc, hq⟩ := g.evN h
    clear h
    have h := hq
    clear hq
    obtain ⟨v, w', β', S', s, hrun, hg, hr, hk⟩ := makeS_ok hE g h hl hc
    exact wp_val (by simp only [execOp, Sem.run_bind, hrun, Result.andThen_ok]; rfl) (fin hg hr hk)
  case slice t x lo hi mx =>
    have key : ∀ {σ β S}, GG w0 σ0 β0 nt σ β S a w → (S.evN x fun sx => evP S lo fun lo => evP S hi fun hi => sliceS E t sx lo hi fun s => K (S.set dst s)) → mx = none → Oper.wp E.P ⟨dst, .slice t x lo hi mx, ty, pos, after, guard⟩ a w next Q := by
      intro σ β S g hq hm
      clear h fin
      subst hm
      obtain ⟨sx, hx, hq⟩ := g.evN hq
      obtain ⟨sl, hq, hl1, hl2⟩ := evP_ok g hq
      obtain ⟨sh, hq, hh1, hh2⟩ := evP_ok g hq
      obtain ⟨v, s, hrun, hr, hk⟩ := sliceS_ok (E := E) hE hq hx hh1 hh2 hl1 hl2
      exact wp_val (by simp only [execOp, Option.map_none, Sem.run_bind, hrun, Result.andThen_ok]; rfl) (hn _ _ _ hk ⟨_, _, g.set hr _ hd⟩)
    split at h
    · obtain ⟨sx, hx, h⟩ := g.evN h
      unfold ghosted at h
      split at h
      · obtain ⟨S', σ', β', hk, hg⟩ := Gh_ok h hnp.symm hq0.nm g
        exact key hg hk rfl
      · exact key g h rfl
    · exact h.elim
  case call c =>
    split at h
    · rename_i hcal
      rw [forceVL_eq] at h
      have hargs := evL_ok g c.args.toList
      have hbase : ∀ {v w' : _}, (∀ cs, (builtin .append c.argTypes ty cs (c.args.map a.eval)).run E.P w = .ok (.value v) w') →
          (execOp a.eval ⟨dst, .call c, ty, pos, after, guard⟩).run E.P w = .ok (.value v) w' := by
        intro v w' hb
        simp only [execOp, resolve, hcal, Sem.run_bind, Sem.run_pure, Result.andThen_ok, invoke, hb]
      unfold apdS at h
      split at h
      · rename_i t t' x y hts hxs
        split at h
        · rename_i htt
          have htt := Nat.eq_of_beq_eq_true htt; subst htt
          rw [hxs] at hargs
          simp only [relL] at hargs
          obtain ⟨v1, vs1, he, hr1, v2, vs2, rfl, hr2, rfl⟩ := hargs
          obtain ⟨v, w', β', S', s, hrun, hg, hr, hk⟩ := appS_ok hE g hnp hfx ty h hr1 hr2
          have hta : c.argTypes = #[t, t] := by apply Array.ext'; simpa using hts
          have hva : c.args.map a.eval = #[v1, v2] := by apply Array.ext'; simpa using he
          refine wp_val (v := v) (w' := w') (hbase fun _ => ?_) (fin hg hr hk)
          rw [hta, hva]; simp only [builtin, Sem.run_bind, hrun]; rfl
        · exact h.elim
      · exact h.elim
    · rename_i f hcal
      obtain ⟨s0, hs0, hq⟩ := g.evN h
      clear h
      have h := hq
      clear hq
      split at h
      · rename_i gf cps
        obtain ⟨S', σ', β', hk, hg⟩ := Gh_ok h hnp.symm hq0.nm g
        obtain ⟨s1, hs1, hk⟩ := hg.evN hk
        split at hk
        · rename_i gf' caps
          rw [forceVL_eq] at hk
          simp only [rel] at hs0; obtain ⟨vs0, hfv0, _⟩ := hs0
          simp only [rel] at hs1; obtain ⟨vs1, hfv1, hcaps⟩ := hs1
          rw [hfv0] at hfv1; simp only [Value.func.injEq, Fn.func.injEq] at hfv1
          obtain ⟨hgf, _, hvs⟩ := hfv1
          have hargs := relL_append (evL_ok hg c.args.toList) hcaps
          obtain ⟨⟨fn, hfn, hnm, hbd⟩, hcall⟩ := call_ok hg (by rw [← hfx]; exact hk) hargs
          refine wp_enter (f := gf) (args := c.args.map a.eval ++ vs0.toArray) ?_ ?_
          · simp only [execOp, resolve, hcal, hfv0, Deferred.ofValue, Sem.run_bind, Sem.run_pure, Result.andThen_ok, invoke, callFunc]
            rw [run_program]
            simp only [Result.andThen_ok, hfn, hnm, hbd, Bool.false_eq_true, if_false, Sem.run_pure, Array.empty_append]
          · have e : c.args.map a.eval ++ vs0.toArray = (c.args.toList.map a.eval ++ vs1).toArray := by
              rw [hvs]; apply Array.ext'; simp
            rw [e]
            refine hcall.mono ?_
            rintro e w' ⟨v, σ'', β'', S'', s, rfl, hg', hr, hk'⟩
            exact ⟨v, rfl, hn _ _ _ hk' ⟨_, _, hg'.set hr _ hd⟩⟩
        · exact hk.elim
      · exact h.elim
    · exact quiet h
end Go.Sx
