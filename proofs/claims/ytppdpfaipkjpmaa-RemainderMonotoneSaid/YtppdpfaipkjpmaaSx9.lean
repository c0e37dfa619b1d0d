/-
  A text of the proofs of this seat: lemmas that the statements' proofs use; it states nothing of the program by itself beyond the contracts that its theorems bear. Conditions: those that stand in each theorem. Its short name: Sx9.
-/
import Derived.Test.YtppdpfaipkjpmaaSx8
set_option linter.unusedVariables false
set_option linter.unusedSimpArgs false
namespace Go.Sx

/-! ### make -/
def makeS (E : Env) (S : SS) (t : Nat) (l c : SV) (k : SS → SV → Prop) : Prop :=
  need (elemD E t) fun de => need (ofV de.zero).cells fun zr =>
    match okD de with
    | true => match l, c with
      | .num _ nl, .num _ nc => ∃ n m : Nat, nl = n ∧ nc = m ∧ n ≤ m ∧ (de.bytes * m ≤ 140737488355328 ∧ m ≤ 140737488355328) ∧
          forceN S.own.length fun q => forceL (S.own ++ [.vec de.size (List.replicate n zr)]) fun own => S.withTm fun tm => k ⟨tm, own⟩ (.vec q)
      | _, _ => False
    | false => False
theorem makeS_ok {E : Env} (hE : EnvOK E) {w0 σ0 β0 nt σ β S a w} (g : GG w0 σ0 β0 nt σ β S a w) {t : Nat} {sl sc : SV} {vl vc : Value} {k : SS → SV → Prop} (h : makeS E S t sl sc k) (hl : rel σ β sl vl) (hc : rel σ β sc vc) :
    ∃ v w' β' S' s, (Instr.makeSlice t vl vc).run E.P w = .ok v w' ∧ GG w0 σ0 β0 nt σ β' S' a w' ∧ rel σ β' s v ∧ k S' s := by
  obtain ⟨de, hde, h1⟩ := need_some h
  clear h
  obtain ⟨zr, hzr, h⟩ := need_some h1
  clear h1
  obtain ⟨d, e, hT, hd, he⟩ := elemD_ok hE hde
  split at h
  · rename_i hok
    obtain ⟨hz1, hz2⟩ := okD_ok hok
    split at h
    · rename_i kl nl kc nc
      obtain ⟨n, m, rfl, rfl, hnm, ⟨hb, h63⟩, hk⟩ := h
      have hk := forceN_ok hk
      simp only [forceL_eq, SS.withTm_eq] at hk
      simp only [rel] at hl hc; subst hl; subst hc
      have hu := hT.2
      rw [hd] at hu
      have hrow := ofV_row hzr σ
      have hzl : zr.length = de.size := by rw [← relL_length hrow, Array.length_toList, hz1]
      obtain ⟨⟨i, hi, hsz, hby, hzz⟩, _⟩ := he
      have hb' : (i.bytes : Int) * (m : Int) ≤ 281474976710656 := by
        have : ((i.bytes * m : Nat) : Int) ≤ 281474976710656 := by rw [hby]; omega
        rwa [Int.natCast_mul] at this
      have hrun := run_make (P := E.P) w t e i de.zero hu hi hzz kl kc n m (by omega) (by omega) hb' (by omega)
      simp only [Int.toNat_natCast] at hrun
      have hz : ∀ j, ∀ u ∈ (List.replicate j de.zero.cells.toList).flatten, scalar u = true := by
        intro j u hu
        simp only [List.mem_flatten, List.mem_replicate] at hu
        obtain ⟨l, ⟨_, rfl⟩, hu⟩ := hu
        rw [List.all_eq_true] at hz2; exact hz2 u hu
      have hrl : ∀ r ∈ List.replicate n zr, r.length = de.size := by intro r hr; rw [List.mem_replicate] at hr; rw [hr.2]; exact hzl
      have hflr : ∀ j, (List.replicate j de.zero.cells.toList).flatten.length = j * de.size := by
        intro j; rw [flat_length (esz := de.size) (by intro r hr; rw [List.mem_replicate] at hr; rw [hr.2]; simp [hz1])]; simp
      have hg := g.newVec (esz := de.size) (cap := m) (rows := List.replicate n zr) (vss := List.replicate n de.zero.cells.toList) (rest := (List.replicate (m - n) de.zero.cells.toList).flatten)
        (relLL_replicate hrow n) hrl (by simpa using hnm) (by rw [hflr, hflr, ← Nat.add_mul]; congr 1; omega)
        (by intro u hu; rcases List.mem_append.1 hu with hu | hu
            · exact hz _ u hu
            · exact hz _ u hu) e
      have ec : madeCells de.zero.cells (m * i.size) = ((List.replicate n de.zero.cells.toList).flatten ++ (List.replicate (m - n) de.zero.cells.toList).flatten).toArray := by
        apply Array.ext'
        simp only [madeCells, Array.toList_map, Array.toList_range]
        rw [hsz, ← hz1, range_rows, ← List.flatten_append, List.replicate_append_replicate]
        congr 2; omega
      rw [ec] at hrun
      refine ⟨_, _, _, _, _, hrun, hg, ?_, hk⟩
      simp only [rel]
      exact ⟨⟨some w.heap.size, de.size, (List.replicate n zr).length, m⟩, by simp [← g.hp.len], by simp [HB.slice]⟩
    · exact h.elim
  · exact h.elim

/-! ### addresses -/
def fieldS (E : Env) (t f : Nat) (x : SV) (k : SV → Prop) : Prop :=
  need (look E.tys t) fun d =>
    match d.desc with
    | .struct fs => need fs[f]? fun fl => need (look E.tys fl.type) fun df =>
      match df.size with
      | 0 => False
      | _ + 1 => match x with
        | .ptr h off => forceN (off + fl.offset) fun o => k (.ptr h o)
        | .elt h i off => forceN (off + fl.offset) fun o => k (.elt h i o)
        | .pptr cells => match Nat.ble fl.offset cells.length with
          | true => forceL (cells.drop fl.offset) fun l => k (.pptr l)
          | false => False
        | _ => False
    | _ => False
theorem addr_add (b off n : Nat) : (⟨b, off, none⟩ : Addr).add n = ⟨b, off + n, none⟩ := by
  unfold Addr.add; split
  · rename_i h; subst h; rfl
  · rfl
theorem fieldS_ok {E : Env} (hE : EnvOK E) {σ : PH} {β : List HB} {t f : Nat} {s : SV} {v : Value} {k : SV → Prop} (h : fieldS E t f s k) (hr : rel σ β s v) :
    ∃ u s', (∀ w, (Instr.fieldAt t v f).run E.P w = .ok u w) ∧ rel σ β s' u ∧ k s' := by
  obtain ⟨d, hd, h1⟩ := need_some h
  clear h
  have hT := look_ok hE hd
  split at h1
  · rename_i fs hfs
    obtain ⟨fl, hfl, h2⟩ := need_some h1
    clear h1
    obtain ⟨df, hdf, h⟩ := need_some h2
    clear h2
    have hF := look_ok hE hdf
    have hu := hT.2
    rw [hfs] at hu
    have key : ∀ (b off : Nat), df.size ≠ 0 → ∀ w, (Instr.fieldAt t (.pointer (some ⟨b, off, none⟩)) f).run E.P w = .ok (.pointer (some ⟨b, off + fl.offset, none⟩)) w := by
      intro b off h0 w
      simp [Instr.fieldAt, run_underlying hu, hfl, Instr.sureAddr, fieldPlace, tyOK_size hF, h0, addr_add]
    split at h
    · exact h.elim
    · rename_i n hn
      have h0 : df.size ≠ 0 := by omega
      split at h
      · simp only [rel] at hr; obtain ⟨x, b, hx, hb, rfl⟩ := hr
        exact ⟨_, _, key _ _ h0, by simp only [rel]; exact ⟨x, b, hx, hb, rfl⟩, forceN_ok h⟩
      · simp only [rel] at hr; obtain ⟨x, b, hx, hb, rfl⟩ := hr
        exact ⟨_, _, key _ _ h0, by simp only [rel]; exact ⟨x, b, hx, hb, by simp [Nat.add_assoc]⟩, forceN_ok h⟩
      · rename_i cells
        split at h
        · rename_i hle
          have hle := Nat.le_of_ble_eq_true hle
          simp only [forceL_eq] at h
          simp only [rel] at hr; obtain ⟨b, off, vs, rfl, hrv, ⟨hscA, A, C, hσ, hA⟩⟩ := hr
          refine ⟨_, _, key _ _ h0, ?_, h⟩
          simp only [rel]
          refine ⟨b, off + fl.offset, vs.drop fl.offset, rfl, relL_drop _ hrv, ⟨fun v hv => hscA v (List.mem_of_mem_drop hv), A ++ vs.take fl.offset, C, ?_, ?_⟩⟩
          · rw [hσ]; congr 1
            rw [List.append_assoc A (vs.take fl.offset), List.take_append_drop]
          · have := relL_length hrv; simp; omega
        · exact h.elim
      · exact h.elim
  · exact h1.elim

def indexS (E : Env) (S : SS) (t : Nat) (x i : SV) (k : SV → Prop) : Prop :=
  need (elemD E t) fun de =>
    match i with
    | .num _ n => match x with
      | .psl esz rows => match Nat.beq esz de.size with
        | true => ∃ (j : Nat) (r : List SV), n = j ∧ rows[j]? = some r ∧ k (.pptr r)
        | false => False
      | .vec h => match S.own[h]? with
        | some (.vec esz rows) => match Nat.beq esz de.size with
          | true => ∃ j : Nat, n = j ∧ j < rows.length ∧ k (.elt h j 0)
          | false => False
        | _ => False
      | _ => False
    | _ => False
theorem indexS_ok {E : Env} (hE : EnvOK E) {w0 σ0 β0 nt σ β S a w} (g : GG w0 σ0 β0 nt σ β S a w) {t : Nat} {s si : SV} {v vi : Value} {k : SV → Prop} (h : indexS E S t s si k) (hr : rel σ β s v) (hi : rel σ β si vi) :
    ∃ u s', (∀ w, (Instr.indexAt t v vi).run E.P w = .ok u w) ∧ rel σ β s' u ∧ k s' := by
  obtain ⟨de, hde, h1⟩ := need_some h
  clear h
  obtain ⟨d, e, hT, hd, he⟩ := elemD_ok hE hde
  have hu := hT.2
  rw [hd] at hu
  split at h1
  · rename_i kd n
    simp only [rel] at hi; subst hi
    split at h1
    · rename_i esz rows
      split at h1
      · rename_i hes
        have hes := Nat.eq_of_beq_eq_true hes; subst hes
        obtain ⟨j, r, rfl, hj, hk⟩ := h1
        simp only [rel] at hr
        obtain ⟨ad, cap, vss, rfl, hc, hrr, hl, hat⟩ := hr
        rcases hat with rfl | ⟨b, off, rfl, ⟨hscA, A, C, hσ, hA⟩⟩
        · simp at hj
        · have hjl : j < rows.length := by
            rcases Nat.lt_or_ge j rows.length with h' | h'
            · exact h'
            · rw [List.getElem?_eq_none h'] at hj; cases hj
          obtain ⟨vs, hvs, hrv⟩ := relLL_get hrr hj
          obtain ⟨ef, hfl⟩ := flat_split (relLL_rows hrr hl) hvs
          refine ⟨.pointer (some ⟨b, off + j * de.size, none⟩), .pptr r, ?_, ?_, hk⟩
          · intro w; simp [Instr.indexAt, asIntOf, run_underlying hu, hjl, tyOK_size he, addr_add]
          · simp only [rel]
            refine ⟨b, off + j * de.size, vs, rfl, hrv, ⟨fun v hv => hscA v (List.mem_flatten.2 ⟨vs, List.mem_of_getElem? hvs, hv⟩), A ++ (vss.take j).flatten, (vss.drop (j + 1)).flatten ++ C, ?_, ?_⟩⟩
            · rw [hσ, ef]; simp [List.append_assoc]
            · rw [List.length_append, hfl, hA]
      · exact h1.elim
    · rename_i hh
      split at h1
      · rename_i esz rows hc
        split at h1
        · rename_i hes
          have hes := Nat.eq_of_beq_eq_true hes; subst hes
          obtain ⟨j, rfl, hj, hk⟩ := h1
          simp only [rel] at hr
          obtain ⟨x, hx, rfl⟩ := hr
          obtain ⟨q1, q2, q3, q4⟩ := g.hp.ok _ _ _ hc hx
          rcases q4 with ⟨_, rfl, _⟩ | ⟨b, vss, rest, hb, hσ, hO, hrr, hcap, hlen⟩
          · simp at hj
          · refine ⟨.pointer (some ⟨b, j * de.size, none⟩), .elt hh j 0, ?_, ?_, hk⟩
            · intro w; simp [HB.slice, hb, Instr.indexAt, asIntOf, run_underlying hu, q2, hj, tyOK_size he, addr_add]
            · simp only [rel]; exact ⟨x, b, hx, hb, by simp [q1]⟩
        · exact h1.elim
      · exact h1.elim
    · exact h1.elim
  · exact h1.elim

/-! ### slicing what is persistent, or nil -/
def boundS (o : Option SV) (dflt : Nat) (k : Nat → Prop) : Prop :=
  match o with
  | none => k dflt
  | some (.num _ n) => ∃ m : Nat, n = m ∧ k m
  | some _ => False
def sliceS (E : Env) (t : Nat) (x : SV) (lo hi : Option SV) (k : SV → Prop) : Prop :=
  need (elemD E t) fun de =>
    match x with
    | .psl esz rows => match Nat.beq esz de.size with
      | true => boundS hi rows.length fun h => boundS lo 0 fun l => (l ≤ h ∧ h ≤ rows.length) ∧ k (.psl esz ((rows.take h).drop l))
      | false => False
    | .nil => boundS hi 0 fun h => boundS lo 0 fun l => (l ≤ h ∧ h ≤ 0) ∧ k .nil
    | _ => False
theorem run_bounds {P : Program} {σ β} {so lo : Option SV} {vh vl : Option Value} {len cap : Nat} {k : Nat → Nat → Prop}
    (h : boundS so len fun h => boundS lo 0 fun l => (l ≤ h ∧ h ≤ len) ∧ k l h) (hcap : len ≤ cap)
    (hh : ∀ s, so = some s → ∃ v, vh = some v ∧ rel σ β s v) (hn : so = none → vh = none) (hl : ∀ s, lo = some s → ∃ v, vl = some v ∧ rel σ β s v) (hln : lo = none → vl = none) :
    ∃ l h, (∀ w, (Instr.sliceBounds true len cap vl vh none).run P w = .ok (l, h, cap) w) ∧ l ≤ h ∧ h ≤ len ∧ k l h := by
  have step : ∀ (hb : Nat), (boundS lo 0 fun l => (l ≤ hb ∧ hb ≤ len) ∧ k l hb) → ((vh = none ∧ hb = len) ∨ ∃ kd, vh = some (.int kd (hb : Int))) →
      ∃ l h, (∀ w, (Instr.sliceBounds true len cap vl vh none).run P w = .ok (l, h, cap) w) ∧ l ≤ h ∧ h ≤ len ∧ k l h := by
    intro hb h2 hvh
    have hvl : ∃ l : Nat, ((l ≤ hb ∧ hb ≤ len) ∧ k l hb) ∧ ((vl = none ∧ l = 0) ∨ ∃ kd, vl = some (.int kd (l : Int))) := by
      unfold boundS at h2
      split at h2
      · exact ⟨0, h2, .inl ⟨hln rfl, rfl⟩⟩
      · rename_i kd n
        obtain ⟨m, rfl, h3⟩ := h2
        obtain ⟨v, rfl, hr⟩ := hl _ rfl
        simp only [rel] at hr; subst hr
        exact ⟨m, h3, .inr ⟨kd, rfl⟩⟩
      · exact h2.elim
    obtain ⟨l, ⟨⟨h3, h4⟩, hk⟩, hvl⟩ := hvl
    refine ⟨l, hb, fun w => ?_, h3, h4, hk⟩
    have hbc : hb ≤ cap := by omega
    rcases hvh with ⟨rfl, rfl⟩ | ⟨kd, rfl⟩ <;> rcases hvl with ⟨rfl, rfl⟩ | ⟨kd', rfl⟩ <;>
      simp [Instr.sliceBounds, Instr.sliceBound, asIntOf, h3, hbc]
  unfold boundS at h
  split at h
  · exact step _ h (.inl ⟨hn rfl, rfl⟩)
  · rename_i kd n
    obtain ⟨m, rfl, h3⟩ := h
    obtain ⟨v, rfl, hr⟩ := hh _ rfl
    simp only [rel] at hr; subst hr
    exact step _ h3 (.inr ⟨kd, rfl⟩)
  · exact h.elim
theorem sliceS_ok {E : Env} (hE : EnvOK E) {σ : PH} {β : List HB} {t : Nat} {s : SV} {v : Value} {lo hi : Option SV} {vl vh : Option Value} {k : SV → Prop} (h : sliceS E t s lo hi k) (hr : rel σ β s v)
    (hh : ∀ s, hi = some s → ∃ v, vh = some v ∧ rel σ β s v) (hn : hi = none → vh = none) (hl : ∀ s, lo = some s → ∃ v, vl = some v ∧ rel σ β s v) (hln : lo = none → vl = none) :
    ∃ u s', (∀ w, (Instr.sliceAt t v vl vh none).run E.P w = .ok u w) ∧ rel σ β s' u ∧ k s' := by
  obtain ⟨de, hde, h1⟩ := need_some h
  clear h
  obtain ⟨d, e, hT, hd, he⟩ := elemD_ok hE hde
  have hu := hT.2
  rw [hd] at hu
  split at h1
  · rename_i esz rows
    split at h1
    · rename_i hes
      have hes := Nat.eq_of_beq_eq_true hes; subst hes
      simp only [rel] at hr
      obtain ⟨ad, cap, vss, rfl, hc, hrr, hlr, hat⟩ := hr
      obtain ⟨l, hb, hrun, hlh, hhl, hk⟩ := run_bounds (P := E.P) h1 hc hh hn hl hln
      refine ⟨.slice (if cap = l then ad else ad.map (·.add (l * de.size))) (hb - l) (cap - l), .psl de.size ((rows.take hb).drop l), ?_, ?_, hk⟩
      · intro w; simp [Instr.sliceAt, Instr.slice, run_underlying hu, hrun, tyOK_size he]
      · simp only [rel]
        refine ⟨(if cap = l then ad else ad.map (·.add (l * de.size))), cap - l, (vss.take hb).drop l, by simp [Nat.min_eq_left hhl], by simp [Nat.min_eq_left hhl]; omega, relLL_drop l (relLL_take hb hrr), ?_, ?_⟩
        · intro r hr; exact hlr r (List.mem_of_mem_take (List.mem_of_mem_drop hr))
        · rcases hat with rfl | ⟨b, off, rfl, ⟨hscA, A, C, hσ, hA⟩⟩
          · left; simp
          · by_cases hcl : cap = l
            · left
              have : hb - l = 0 := by omega
              apply List.length_eq_zero_iff.1; simp; omega
            · right
              rw [if_neg hcl]
              refine ⟨b, off + l * de.size, by simp [addr_add], ⟨fun v hv => (by obtain ⟨q, hq, hv⟩ := List.mem_flatten.1 hv; exact hscA v (List.mem_flatten.2 ⟨q, List.mem_of_mem_take (List.mem_of_mem_drop hq), hv⟩)), A ++ (vss.take l).flatten, (vss.drop hb).flatten ++ C, ?_, ?_⟩⟩
              · rw [hσ]; congr 1
                have e1 : vss = vss.take l ++ (vss.take hb).drop l ++ vss.drop hb := by
                  conv => lhs; rw [← List.take_append_drop hb vss, ← List.take_append_drop l (vss.take hb), List.take_take, Nat.min_eq_left hlh]
                conv => lhs; rw [e1]
                simp [List.append_assoc]
              · rw [List.length_append, hA, flat_length (esz := de.size) (fun r hr => relLL_rows hrr hlr r (List.mem_of_mem_take hr)), List.length_take, relLL_length hrr, Nat.min_eq_left (by omega)]
    · exact h1.elim
  · simp only [rel] at hr; subst hr
    obtain ⟨l, hb, hrun, hlh, hhl, hk⟩ := run_bounds (P := E.P) (cap := 0) (k := fun _ _ => k .nil) h1 (Nat.le_refl _) hh hn hl hln
    have : hb = 0 := by omega
    subst this
    have : l = 0 := by omega
    subst this
    refine ⟨.slice none 0 0, .nil, ?_, by simp only [rel], hk⟩
    intro w; simp [Instr.sliceAt, Instr.slice, run_underlying hu, hrun, tyOK_size he]
  · exact h1.elim
end Go.Sx
