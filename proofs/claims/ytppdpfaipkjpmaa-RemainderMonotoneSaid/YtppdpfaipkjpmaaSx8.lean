/-
  A text of the proofs of this seat: lemmas that the statements' proofs use; it states nothing of the program by itself beyond the contracts that its theorems bear. Conditions: those that stand in each theorem. Its short name: Sx8.
-/
import Derived.Test.YtppdpfaipkjpmaaSx7
set_option linter.unusedVariables false
set_option linter.unusedSimpArgs false
namespace Go.Sx

theorem fold_set : ∀ (vs : List Value) (j off : Nat) (cells : List Value), off + j + vs.length ≤ cells.length →
    ((vs.zipIdx j).foldl (fun cs (p : Value × Nat) => cs.set (off + p.2) p.1) cells) = cells.take (off + j) ++ vs ++ cells.drop (off + j + vs.length)
  | [], j, off, cells, _ => by simp
  | v :: vs, j, off, cells, h => by
    simp only [List.zipIdx_cons, List.foldl_cons]
    simp only [List.length_cons] at h
    rw [fold_set vs (j + 1) off _ (by simp; omega)]
    have hlt : off + j < cells.length := by omega
    have e1 : (cells.set (off + j) v).take (off + (j + 1)) = cells.take (off + j) ++ [v] := by
      rw [show off + (j + 1) = off + j + 1 by omega, List.take_succ_eq_append_getElem (by simpa using hlt)]
      simp [List.take_set_of_le]
    have e2 : (cells.set (off + j) v).drop (off + (j + 1) + vs.length) = cells.drop (off + j + (v :: vs).length) := by
      rw [List.drop_set_of_lt (by omega)]; congr 1; simp; omega
    rw [e1, e2]; simp

theorem fill_step (vs : Array Value) (off : Nat) (cells : Array Value) (h : off + vs.size ≤ cells.size) :
    (vs.zipIdx.foldl (fun cs (c, j) => cs.setIfInBounds (off + j) c) cells).toList = cells.toList.take off ++ vs.toList ++ cells.toList.drop (off + vs.size) := by
  have key : ∀ (l : List (Value × Nat)) (cs : Array Value), (l.foldl (fun cs (c, j) => cs.setIfInBounds (off + j) c) cs).toList = l.foldl (fun cs (p : Value × Nat) => cs.set (off + p.2) p.1) cs.toList := by
    intro l
    induction l with
    | nil => intro cs; rfl
    | cons p l ih => intro cs; simp only [List.foldl_cons]; rw [ih]; simp
  rw [← Array.foldl_toList, key]
  have := fold_set vs.toList 0 off cells.toList (by simpa using h)
  simpa using this

theorem range_rows (z : Array Value) (n : Nat) : ((List.range (n * z.size)).map (z[· % z.size]!)) = (List.replicate n z.toList).flatten := by
  induction n with
  | zero => simp
  | succ n ih =>
    rw [Nat.add_mul, Nat.one_mul, Nat.add_comm, List.range_add, List.map_append, List.replicate_succ, List.flatten_cons, List.map_map]
    congr 1
    · apply List.ext_getElem
      · simp
      · intro i h1 h2
        have hi : i < z.size := by simpa using h1
        simp only [List.getElem_map, List.getElem_range, Nat.mod_eq_of_lt hi]
        rw [getElem!_pos z i hi]; simp
    · rw [← ih]
      apply List.map_congr_left
      intro i _
      simp

/-! ### a slice literal -/
def litRows (S : SS) (esz len : Nat) : List (Nat × Operand) → List (List SV) → Option (List (List SV))
  | [], rows => some rows
  | (i, x) :: ps, rows => match (nrm S.own (S.ev x)).cells with
    | some cs => match Nat.beq cs.length esz && Nat.ble (i + 1) len && closedL cs with
      | true => litRows S esz len ps (rows.set i cs)
      | false => none
    | none => none
def litS (E : Env) (S : SS) (t len : Nat) (parts : List (Nat × Operand)) (k : SS → SV → Prop) : Prop :=
  need (elemD E t) fun de => need (ofV de.zero).cells fun zr =>
    match okD de && Nat.ble (len * de.size) 16777216 with
    | true => need (litRows S de.size len parts (List.replicate len zr)) fun rows => forceR rows fun rows => forceN S.own.length fun n => forceL (S.own ++ [.vec de.size rows]) fun own => S.withTm fun tm => k ⟨tm, own⟩ (.vec n)
    | false => False

theorem ofV_row {de : TyD} {zr : List SV} (h : (ofV de.zero).cells = some zr) (σ : PH) : relL σ [] zr de.zero.cells.toList :=
  (cells_ok (σ := σ) (β := []) h (rel_ofV σ [] de.zero)).1
theorem relLL_replicate {σ : PH} {zr : List SV} {z : List Value} (h : relL σ [] zr z) : ∀ n, relLL σ (List.replicate n zr) (List.replicate n z)
  | 0 => by simp [relLL]
  | n + 1 => by simp only [List.replicate_succ]; exact relLL_cons.2 ⟨h, relLL_replicate h n⟩

theorem litRows_ok {w0 σ0 β0 nt σ β S a w} (g : GG w0 σ0 β0 nt σ β S a w) {esz len : Nat} : ∀ (ps : List (Nat × Operand)) (rows : List (List SV)) (vss : List (List Value)) (cells : Array Value) {rows' : List (List SV)},
    litRows S esz len ps rows = some rows' → relLL σ rows vss → (∀ r ∈ rows, r.length = esz) → rows.length = len → cells.toList = vss.flatten → (∀ u ∈ vss.flatten, scalar u = true) →
    ∃ cells' vss', Instr.fill (fun i => some (i * esz, esz)) cells (ps.map fun (i, x) => (i, a.eval x)) = some cells' ∧ relLL σ rows' vss' ∧ (∀ r ∈ rows', r.length = esz) ∧ rows'.length = len ∧
      cells'.toList = vss'.flatten ∧ (∀ u ∈ vss'.flatten, scalar u = true)
  | [], rows, vss, cells, rows', h, hr, hl, hn, hc, hs => by
    simp only [litRows, Option.some.injEq] at h; subst h
    exact ⟨cells, vss, by simp [Instr.fill], hr, hl, hn, hc, hs⟩
  | (i, x) :: ps, rows, vss, cells, rows', h, hr, hl, hn, hc, hs => by
    simp only [litRows] at h
    split at h
    · rename_i cs hcs
      split at h
      · rename_i hb
        simp only [Bool.and_eq_true] at hb
        obtain ⟨⟨hb1, hb2⟩, hb3⟩ := hb
        have hlen := Nat.eq_of_beq_eq_true hb1
        have hi := Nat.le_of_ble_eq_true hb2
        obtain ⟨hrv, hsv⟩ := cells_ok hcs (rel_nrm g.hp _ _ (g.ev x))
        have hrv' := relL_closed _ _ hb3 hrv
        have hsz : (a.eval x).cells.size = esz := by rw [← Array.length_toList, relL_length hrv, hlen]
        have hvl := relLL_length hr
        have hilt : i < vss.length := by omega
        have hrows := relLL_rows hr hl
        have hfl : vss.flatten.length = vss.length * esz := flat_length hrows
        have hcsz : cells.size = vss.length * esz := by rw [← Array.length_toList, hc, hfl]
        have hoff : i * esz + esz ≤ cells.size := by
          rw [hcsz]; have : (i + 1) * esz ≤ vss.length * esz := Nat.mul_le_mul_right _ hilt
          rw [Nat.add_mul, Nat.one_mul] at this; exact this
        obtain ⟨ef, hl1⟩ := flat_split hrows (List.getElem?_eq_getElem hilt)
        have hm : (vss[i]).length = esz := hrows _ (List.getElem_mem hilt)
        have hset : (vss.set i (a.eval x).cells.toList).flatten = (vss.take i).flatten ++ (a.eval x).cells.toList ++ (vss.drop (i + 1)).flatten := by
          rw [List.set_eq_take_append_cons_drop, if_pos hilt]; simp
        have hnew : ((a.eval x).cells.zipIdx.foldl (fun cs (c, j) => cs.setIfInBounds (i * esz + j) c) cells).toList = (vss.set i (a.eval x).cells.toList).flatten := by
          rw [fill_step _ _ _ (by omega), hc, hset, ef, hsz]
          rw [List.append_assoc (vss.take i).flatten, List.take_left' hl1]
          congr 1
          rw [← List.append_assoc, List.drop_left' (by simp [hl1, hm])]
        obtain ⟨cells', vss', h1, h2, h3, h4, h5, h6⟩ := litRows_ok g ps (rows.set i cs) (vss.set i (a.eval x).cells.toList) _ h (relLL_set hr hrv') (by
            intro r hr'; rcases List.mem_or_eq_of_mem_set hr' with h | rfl
            · exact hl r h
            · exact hlen) (by simpa using hn) hnew (by
            intro u hu; rw [hset] at hu
            simp only [List.mem_append] at hu
            rcases hu with (hu | hu) | hu
            · exact hs u (by rw [ef]; simp [hu])
            · exact hsv u hu
            · exact hs u (by rw [ef]; simp [hu]))
        refine ⟨cells', vss', ?_, h2, h3, h4, h5, h6⟩
        simp only [List.map_cons, Instr.fill]
        rw [if_neg (by simp [hsz]; omega)]
        exact h1
      · cases h
    · cases h

theorem litS_ok {E : Env} (hE : EnvOK E) {w0 σ0 β0 nt σ β S a w} (g : GG w0 σ0 β0 nt σ β S a w) {t len : Nat} {parts : Array (Nat × Operand)} {k : SS → SV → Prop} (h : litS E S t len parts.toList k) :
    ∃ v w' β' S' s, (Instr.buildSlice t len (parts.map fun (i, x) => (i, a.eval x))).run E.P w = .ok v w' ∧ GG w0 σ0 β0 nt σ β' S' a w' ∧ rel σ β' s v ∧ k S' s := by
  obtain ⟨de, hde, h1⟩ := need_some h
  clear h
  obtain ⟨zr, hzr, h⟩ := need_some h1
  clear h1
  obtain ⟨d, e, hT, hd, he⟩ := elemD_ok hE hde
  split at h
  · rename_i hok
    rw [Bool.and_eq_true] at hok
    obtain ⟨hz1, hz2⟩ := okD_ok hok.1
    have hble := Nat.le_of_ble_eq_true hok.2
    obtain ⟨rows, hrows, hk⟩ := need_some h
    rw [forceR_eq] at hk
    have hk := forceN_ok hk
    simp only [forceL_eq, SS.withTm_eq] at hk
    have hrow := ofV_row hzr σ
    have hzl : zr.length = de.size := by rw [← relL_length hrow, Array.length_toList, hz1]
    have hz : ∀ u ∈ (List.replicate len de.zero.cells.toList).flatten, scalar u = true := by
      intro u hu
      simp only [List.mem_flatten, List.mem_replicate] at hu
      obtain ⟨l, ⟨_, rfl⟩, hu⟩ := hu
      rw [List.all_eq_true] at hz2; exact hz2 u hu
    have hcells : ((Array.range (len * de.size)).map (de.zero.cells[· % de.zero.cells.size]!)).toList = (List.replicate len de.zero.cells.toList).flatten := by
      rw [Array.toList_map, Array.toList_range, ← hz1, range_rows]
    obtain ⟨cells', vss', h1, h2, h3, h4, h5, h6⟩ := litRows_ok g parts.toList _ (List.replicate len de.zero.cells.toList) _ hrows (relLL_replicate hrow len)
      (by intro r hr; rw [List.mem_replicate] at hr; rw [hr.2]; exact hzl) (by simp) hcells hz
    have hu := hT.2
    rw [hd] at hu
    have hrun : (Instr.buildSlice t len (parts.map fun (i, x) => (i, a.eval x))).run E.P w = .ok (.slice (some ⟨w.heap.size, 0, none⟩) len len) (w.alloc (.cells cells' e)) := by
      obtain ⟨⟨i, hi, hsz, hby, hzz⟩, _⟩ := he
      have hnb : ¬ (16777216 < len * de.size) := by omega
      by_cases h0 : len * de.size = 0
      · have hc0 : ((Array.range (len * de.size)).map ((#[] : Array Value)[· % (#[] : Array Value).size]!)) = ((Array.range (len * de.size)).map (de.zero.cells[· % de.zero.cells.size]!)) := by
          rw [h0]; simp [Array.range_zero']
        rw [← hc0, h0] at h1
        simp [Instr.buildSlice, run_underlying hu, sizeOf, typeInfo, hi, hsz, h0, newRow]
        simp at h1
        rw [h1]; simp
      · simp [Instr.buildSlice, run_underlying hu, sizeOf, typeInfo, zeroValue, hi, hsz, hzz, h0, hnb, newRow]
        simp at h1
        rw [h1]; simp
    have hfl : vss'.flatten.length = len * de.size := by rw [flat_length (relLL_rows h2 h3), relLL_length h2, h4]
    have hg := g.newVec (esz := de.size) (cap := len) (rest := []) h2 h3 (by omega) (by rw [hfl]; simp) (by simpa using h6) e
    have ec : cells' = (vss'.flatten ++ []).toArray := by apply Array.ext'; simp [h5]
    rw [ec] at hrun
    refine ⟨_, _, _, _, _, hrun, hg, ?_, hk⟩
    simp only [rel]
    refine ⟨⟨some w.heap.size, de.size, rows.length, len⟩, by simp [← g.hp.len], by simp [HB.slice, h4]⟩
  · exact h.elim

/-! ### a struct literal -/
def stcCells (E : Env) (S : SS) (fs : Array Field) : List (Nat × Operand) → List SV → Option (List SV)
  | [], cs => some cs
  | (i, x) :: ps, cs => match fs[i]?, (nrm S.own (S.ev x)).cells with
    | some f, some vs => match look E.tys f.type with
      | some df => match Nat.beq vs.length df.size && Nat.ble (f.offset + df.size) cs.length with
        | true => stcCells E S fs ps (spl f.offset vs cs)
        | false => none
      | none => none
    | _, _ => none
def allKnown (E : Env) : List Field → Bool
  | [] => true
  | f :: fs => (look E.tys f.type).isSome && allKnown E fs
def stcS (E : Env) (S : SS) (t : Nat) (parts : List (Nat × Operand)) (k : SV → Prop) : Prop :=
  need (look E.tys t) fun d =>
    match d.desc with
    | .struct fs => match allKnown E fs.toList with
      | true => need (ofV d.zero).cells fun zc => need (stcCells E S fs parts zc) fun cs => forceVL cs fun cs => k (.agg cs)
      | false => False
    | _ => False

def placesOf (E : Env) (fs : List Field) : List (Nat × Nat) := fs.map fun f => (f.offset, ((look E.tys f.type).map (·.size)).getD 0)
theorem places_ok {E : Env} (hE : EnvOK E) : ∀ (fs : List Field), allKnown E fs = true → fs.mapM (fun f => (E.P.info? f.type).map fun i => (f.offset, i.size)) = some (placesOf E fs)
  | [], _ => by simp [placesOf]
  | f :: fs, h => by
    simp only [allKnown, Bool.and_eq_true] at h
    obtain ⟨df, hdf⟩ := Option.isSome_iff_exists.1 h.1
    obtain ⟨⟨i, hi, hs, _, _⟩, _⟩ := look_ok hE hdf
    simp only [List.mapM_cons, hi, Option.map_some, Option.bind_eq_bind, Option.bind_some, places_ok hE fs h.2]
    simp [placesOf, hdf, hs]

theorem stcCells_ok {E : Env} {w0 σ0 β0 nt σ β S a w} (g : GG w0 σ0 β0 nt σ β S a w) {fs : Array Field} : ∀ (ps : List (Nat × Operand)) (cs : List SV) (cells : Array Value) {cs' : List SV},
    stcCells E S fs ps cs = some cs' → relL σ β cs cells.toList →
    ∃ cells', Instr.fill ((placesOf E fs.toList).toArray[·]?) cells (ps.map fun (i, x) => (i, a.eval x)) = some cells' ∧ relL σ β cs' cells'.toList
  | [], cs, cells, cs', h, hr => by
    simp only [stcCells, Option.some.injEq] at h; subst h
    exact ⟨cells, by simp [Instr.fill], hr⟩
  | (i, x) :: ps, cs, cells, cs', h, hr => by
    simp only [stcCells] at h
    split at h
    · rename_i f vs hf hvs
      split at h
      · rename_i df hdf
        split at h
        · rename_i hb
          rw [Bool.and_eq_true] at hb
          have hlen := Nat.eq_of_beq_eq_true hb.1
          have hle := Nat.le_of_ble_eq_true hb.2
          obtain ⟨hrv, hsv⟩ := cells_ok hvs (rel_nrm g.hp _ _ (g.ev x))
          have hsz : (a.eval x).cells.size = df.size := by rw [← Array.length_toList, relL_length hrv, hlen]
          have hcl := relL_length hr
          have hcsz : cells.size = cs.length := by rw [← hcl]; simp
          have hnew : relL σ β (spl f.offset vs cs) ((a.eval x).cells.zipIdx.foldl (fun cs (c, j) => cs.setIfInBounds (f.offset + j) c) cells).toList := by
            rw [fill_step _ _ _ (by omega)]
            unfold spl
            rw [hlen, hsz]
            exact relL_append (relL_append (relL_take _ hr) hrv) (relL_drop _ hr)
          obtain ⟨cells', h1, h2⟩ := stcCells_ok g ps _ _ h hnew
          refine ⟨cells', ?_, h2⟩
          simp only [List.map_cons, Instr.fill]
          have hpl : (placesOf E fs.toList).toArray[i]? = some (f.offset, df.size) := by
            simp [placesOf, List.getElem?_map, hf, hdf]
          rw [hpl]
          simp only
          rw [if_neg (by simp [hsz]; omega)]
          exact h1
        · cases h
      · cases h
    · cases h

theorem stcS_ok {E : Env} (hE : EnvOK E) {w0 σ0 β0 nt σ β S a w} (g : GG w0 σ0 β0 nt σ β S a w) {t : Nat} {parts : Array (Nat × Operand)} {k : SV → Prop} (h : stcS E S t parts.toList k) :
    ∃ v s, (∀ w, (Instr.build t (parts.map fun (i, x) => (i, a.eval x))).run E.P w = .ok v w) ∧ rel σ β s v ∧ k s := by
  obtain ⟨d, hd, h1⟩ := need_some h
  clear h
  have hT := look_ok hE hd
  split at h1
  · rename_i fs hfs
    split at h1
    · rename_i hall
      obtain ⟨zc, hzc, h2⟩ := need_some h1
      clear h1
      obtain ⟨cs, hcs, hk⟩ := need_some h2
      simp only [forceVL_eq] at hk
      have hzr := (cells_ok (σ := σ) (β := β) hzc (rel_ofV σ β d.zero)).1
      obtain ⟨cells', hf, hr⟩ := stcCells_ok (E := E) g parts.toList zc _ hcs hzr
      obtain ⟨⟨i, hi, hs, hby, hz⟩, hu⟩ := hT
      rw [hfs] at hu
      refine ⟨.agg cells', .agg cs, fun w => run_build w t _ cells' ?_, by simp only [rel]; exact ⟨cells'.toList, by simp, hr⟩, hk⟩
      unfold Program.built
      simp only [hi, hu, hz, places_ok hE _ hall]
      simpa using hf
    · exact h1.elim
  · exact h1.elim
end Go.Sx
