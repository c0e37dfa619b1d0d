/-
  A text of the proofs of this seat: lemmas that the statements' proofs use; it states nothing of the program by itself beyond the contracts that its theorems bear. Conditions: those that stand in each theorem. Its short name: Sx6.
-/
import Derived.Test.YtppdpfaipkjpmaaSx5
set_option linter.unusedVariables false
set_option linter.unusedSimpArgs false
namespace Go.Sx

/-! ### new blocks -/
theorem GG.newBox {w0 σ0 β0 nt σ β S a w} (g : GG w0 σ0 β0 nt σ β S a w) {cs : List SV} {vs : List Value} (hr : relL σ β cs vs) (hsc : ∀ u ∈ vs, scalar u = true) (T : TypeId) :
    GG w0 σ0 β0 nt σ (β ++ [⟨some w.heap.size, 0, 0, 0⟩]) ⟨S.tm, S.own ++ [.box cs]⟩ a (w.alloc (.cells vs.toArray T)) := by
  have hle : HB.le β (β ++ [⟨some w.heap.size, 0, 0, 0⟩]) := HB.le_append _ _
  have hσ : σ w.heap.size = none := by
    cases h : σ w.heap.size with
    | none => rfl
    | some cs => exact absurd (g.hp.ph _ _ h).lt (by omega)
  refine ⟨g.tm.mono (PH.le.refl _) hle, g.sz, g.df, (g.hp.alloc _).push ?_ ?_ ?_, (g.fr.alloc _).push ?_, (g.pn.alloc _).push ?_⟩
  · exact ⟨w.heap.size, vs, rfl, hσ, ⟨hsc, T, heap_alloc_new _ _⟩, relL.mono (PH.le.refl _) hle _ _ hr⟩
  · intro b hb; cases hb; simp
  · intro h y b hy hb hb'; cases hb'; have := g.hp.lt h y _ hy hb; omega
  · intro b hb; cases hb; exact g.fr.size
  · intro b hb; cases hb; exact g.pn.new (Nat.le_refl _)
theorem GG.newVec {w0 σ0 β0 nt σ β S a w} (g : GG w0 σ0 β0 nt σ β S a w) {esz cap : Nat} {rows : List (List SV)} {vss : List (List Value)} {rest : List Value}
    (hr : relLL σ rows vss) (hrl : ∀ r ∈ rows, r.length = esz) (hcap : rows.length ≤ cap) (hlen : vss.flatten.length + rest.length = cap * esz)
    (hsc : ∀ u ∈ vss.flatten ++ rest, scalar u = true) (T : TypeId) :
    GG w0 σ0 β0 nt σ (β ++ [⟨some w.heap.size, esz, rows.length, cap⟩]) ⟨S.tm, S.own ++ [.vec esz rows]⟩ a (w.alloc (.cells (vss.flatten ++ rest).toArray T)) := by
  have hle : HB.le β (β ++ [⟨some w.heap.size, esz, rows.length, cap⟩]) := HB.le_append _ _
  have hσ : σ w.heap.size = none := by
    cases h : σ w.heap.size with
    | none => rfl
    | some cs => exact absurd (g.hp.ph _ _ h).lt (by omega)
  refine ⟨g.tm.mono (PH.le.refl _) hle, g.sz, g.df, (g.hp.alloc _).push ?_ ?_ ?_, (g.fr.alloc _).push ?_, (g.pn.alloc _).push ?_⟩
  · exact ⟨rfl, rfl, hrl, .inr ⟨w.heap.size, vss, rest, rfl, hσ, ⟨hsc, T, heap_alloc_new _ _⟩, hr, hcap, hlen⟩⟩
  · intro b hb; cases hb; simp
  · intro h y b hy hb hb'; cases hb'; have := g.hp.lt h y _ hy hb; omega
  · intro b hb; cases hb; exact g.fr.size
  · intro b hb; cases hb; exact g.pn.new (Nat.le_refl _)
theorem GG.nilVec {w0 σ0 β0 nt σ β S a w} (g : GG w0 σ0 β0 nt σ β S a w) (esz : Nat) :
    GG w0 σ0 β0 nt σ (β ++ [⟨none, esz, 0, 0⟩]) ⟨S.tm, S.own ++ [.vec esz []]⟩ a w := by
  have hle : HB.le β (β ++ [⟨none, esz, 0, 0⟩]) := HB.le_append _ _
  refine ⟨g.tm.mono (PH.le.refl _) hle, g.sz, g.df, g.hp.push ?_ ?_ ?_, g.fr.push ?_, g.pn.push ?_⟩
  · exact ⟨rfl, rfl, by simp, .inl ⟨rfl, rfl, rfl⟩⟩
  · intro b hb; cases hb
  · intro h y b _ _ hb; cases hb
  · intro b hb; cases hb
  · intro b hb; cases hb

def elemD (E : Env) (t : Nat) : Option TyD :=
  match look E.tys t with
  | some d => match d.desc with
    | .slice e => look E.tys e
    | _ => none
  | none => none
theorem elemD_ok {E : Env} (hE : EnvOK E) {t : Nat} {de : TyD} (h : elemD E t = some de) : ∃ d e, TyOK E.P t d ∧ d.desc = .slice e ∧ TyOK E.P e de := by
  unfold elemD at h
  split at h
  · rename_i d hd
    split at h
    · rename_i e he; exact ⟨d, e, look_ok hE hd, he, look_ok hE h⟩
    · cases h
  · cases h

def loadS (E : Env) (S : SS) (T : Nat) (a : SV) (k : SV → Prop) : Prop :=
  need (look E.tys T) fun d =>
    match a with
    | .ptr h off => match S.own[h]? with
      | some (.box cells) => need (sub (aggD d.desc) d.size off cells) fun s => forceV s k
      | some (.frb cells) => need (sub (aggD d.desc) d.size off cells) fun s => forceV s k
      | _ => False
    | .elt h i off => match S.own[h]? with
      | some (.vec _ rows) => ∃ r, rows[i]? = some r ∧ need (sub (aggD d.desc) d.size off r) fun s => forceV s k
      | _ => False
    | .pptr cells => need (sub (aggD d.desc) d.size 0 cells) fun s => forceV s k
    | _ => False

theorem chunk_rows {w : World} {σ β} {esz : Nat} {rows : List (List SV)} {x : HB} (h : chunkOK w σ β (.vec esz rows) x) {i : Nat} {r : List SV} (hi : rows[i]? = some r) :
    ∃ b A vs C T, x.blk = some b ∧ x.esz = esz ∧ σ b = none ∧ w.heap[b]? = some (.cells (A ++ vs ++ C).toArray T (0, 0)) ∧ (∀ u ∈ A ++ vs ++ C, scalar u = true) ∧ A.length = i * esz ∧ relL σ [] r vs := by
  obtain ⟨h1, h2, h3, h4⟩ := h
  rcases h4 with ⟨_, rfl, _⟩ | ⟨b, vss, rest, hb, hσ, ⟨hsc, T, hO⟩, hr, _, _⟩
  · simp at hi
  · obtain ⟨vs, hvs, hrv⟩ := relLL_get hr hi
    obtain ⟨e, hl⟩ := flat_split (relLL_rows hr h3) hvs
    refine ⟨b, (vss.take i).flatten, vs, (vss.drop (i + 1)).flatten ++ rest, T, hb, h1, hσ, ?_, ?_, hl, hrv⟩
    · rw [hO]; rw [e]; simp [List.append_assoc]
    · intro u hu; apply hsc u; rw [e]; simpa [List.append_assoc] using hu

/- the block that a load reads -/
def LdAt (σ : PH) (β : List HB) (own : List Chunk) (s : SV) (b : Nat) : Prop :=
  (∃ (h : Nat) (x : HB), ((∃ o, s = .ptr h o) ∨ ∃ i o, s = .elt h i o) ∧ β[h]? = some x ∧ x.blk = some b ∧ ((∃ c, own[h]? = some c ∧ live c = true) ∨ ∃ cs, σ b = some cs)) ∨
  ((∃ cells, s = .pptr cells) ∧ ∃ cs, σ b = some cs)
theorem loadS_ok' {E : Env} (hE : EnvOK E) {w0 σ0 β0 nt σ β S a w} (g : GG w0 σ0 β0 nt σ β S a w) {T : Nat} {s : SV} {v : Value} {k : SV → Prop} (h : loadS E S T s k) (hr : rel σ β s v) :
    ∃ u s' b cs, Blk w b cs ∧ (∀ w', Blk w' b cs → (Instr.loadAt T v).run E.P w' = .ok u w') ∧ rel σ β s' u ∧ k s' ∧
      LdAt σ β S.own s b := by
  obtain ⟨d, hd, hq1⟩ := need_some h
  clear h
  have h := hq1
  clear hq1
  have hT := look_ok hE hd
  split at h
  · rename_i hh off
    split at h
    · rename_i cells hc
      obtain ⟨s', hs', hk⟩ := need_some h
      have hk := forceV_ok hk
      simp only [rel] at hr
      obtain ⟨x, b, hx, hb, rfl⟩ := hr
      obtain ⟨b', vs, hb', hσ, ⟨hsc, e, hO⟩, hcr⟩ := g.hp.ok _ _ _ hc hx
      rw [hb] at hb'; cases hb'
      obtain ⟨u, hu, hru⟩ := run_loadVar (P := E.P) hT (base := 0) (pre := []) (post := []) (vs := vs) (b := b) rfl hcr hs'
      exact ⟨u, s', b, vs, ⟨e, (0, 0), hO⟩, fun w' hw => by simpa using hu w' (by simpa using hw), hru, hk, .inl ⟨hh, x, .inl ⟨_, rfl⟩, hx, hb, .inl ⟨_, hc, rfl⟩⟩⟩
    · rename_i cells hc
      obtain ⟨s', hs', hk⟩ := need_some h
      have hk := forceV_ok hk
      simp only [rel] at hr
      obtain ⟨x, b, hx, hb, rfl⟩ := hr
      obtain ⟨b', vs, hb', hcr, ⟨hscA, A, C, hσ, hA⟩⟩ := g.hp.ok _ _ _ hc hx
      rw [hb] at hb'; cases hb'
      obtain ⟨u, hu, hru⟩ := run_loadVar (P := E.P) hT (b := b) (post := C) hA hcr hs'
      exact ⟨u, s', b, _, g.hp.ph _ _ hσ, fun w' hw => by simpa using hu w' hw, rel.mono (PH.le.refl _) (fun _ _ h => by simp at h) _ _ hru, hk, .inl ⟨hh, x, .inl ⟨_, rfl⟩, hx, hb, .inr ⟨_, hσ⟩⟩⟩
    · exact h.elim
  · rename_i hh i off
    split at h
    · rename_i esz rows hc
      obtain ⟨r, hr', h⟩ := h
      obtain ⟨s', hs', hk⟩ := need_some h
      have hk := forceV_ok hk
      simp only [rel] at hr
      obtain ⟨x, b, hx, hb, rfl⟩ := hr
      obtain ⟨b', A, vs, C, e, hb', hesz, hσ, hO, hsc, hA, hrv⟩ := chunk_rows (g.hp.ok _ _ _ hc hx) hr'
      rw [hb] at hb'; cases hb'
      subst hesz
      obtain ⟨u, hu, hru⟩ := run_loadVar (P := E.P) hT (b := b) (post := C) hA hrv hs'
      exact ⟨u, s', b, _, ⟨e, (0, 0), hO⟩, fun w' hw => hu w' hw, rel.mono (PH.le.refl _) (fun _ _ h => by simp at h) _ _ hru, hk, .inl ⟨hh, x, .inr ⟨_, _, rfl⟩, hx, hb, .inl ⟨_, hc, rfl⟩⟩⟩
    · exact h.elim
  · rename_i cells
    obtain ⟨s', hs', hk⟩ := need_some h
    have hk := forceV_ok hk
    simp only [rel] at hr
    obtain ⟨b, off, vs, rfl, hrv, ⟨hscA, A, C, hσ, hA⟩⟩ := hr
    have hB := g.hp.ph _ _ hσ
    obtain ⟨u, hu, hru⟩ := run_loadVar (P := E.P) hT (b := b) (post := C) hA hrv hs'
    exact ⟨u, s', b, _, hB, fun w' hw => by simpa using hu w' hw, rel.mono (PH.le.refl _) (fun _ _ h => by simp at h) _ _ hru, hk, .inr ⟨⟨_, rfl⟩, _, hσ⟩⟩
  · exact h.elim
theorem loadS_ok {E : Env} (hE : EnvOK E) {w0 σ0 β0 nt σ β S a w} (g : GG w0 σ0 β0 nt σ β S a w) {T : Nat} {s : SV} {v : Value} {k : SV → Prop} (h : loadS E S T s k) (hr : rel σ β s v) :
    ∃ u s', (Instr.loadAt T v).run E.P w = .ok u w ∧ rel σ β s' u ∧ k s' := by
  obtain ⟨u, s', b, cs, hB, hrun, hr, hk, _⟩ := loadS_ok' hE g h hr
  exact ⟨u, s', hrun w hB, hr, hk⟩

def storeS (E : Env) (S : SS) (T : Nat) (a v : SV) (k : List Chunk → Prop) : Prop :=
  need (look E.tys T) fun d => need v.cells fun cs =>
    match Nat.beq cs.length d.size with
    | false => False
    | true =>
      match a with
      | .ptr h off => match S.own[h]? with
        | some (.box cells) => match E.free h && Nat.ble (off + d.size) cells.length with
          | true => forceL (spl off cs cells) fun l => forceL (S.own.set h (.box l)) k
          | false => False
        | _ => False
      | .elt h i off => match S.own[h]? with
        | some (.vec esz rows) => match E.free h && closedL cs with
          | true => ∃ r, rows[i]? = some r ∧
            (match Nat.ble (off + d.size) r.length with
             | true => forceL (spl off cs r) fun l => forceL (S.own.set h (.vec esz (rows.set i l))) k
             | false => False)
          | false => False
        | _ => False
      | _ => False

theorem storeS_ok {E : Env} (hE : EnvOK E) {w0 σ0 β0 nt σ β S a w} (g : GG w0 σ0 β0 nt σ β S a w) (hfx : E.free = nt.free) {T : Nat} {sa sv : SV} {va vv : Value} {k : List Chunk → Prop} (h : storeS E S T sa sv k) (ha : rel σ β sa va) (hv : rel σ β sv vv) :
    ∃ w' own', (Instr.storeAt T va vv).run E.P w = .ok () w' ∧ GG w0 σ0 β0 nt σ β ⟨S.tm, own'⟩ a w' ∧ k own' := by
  obtain ⟨d, hd, hq1⟩ := need_some h
  clear h
  obtain ⟨cs, hcs, h⟩ := need_some hq1
  clear hq1
  have hT := look_ok hE hd
  obtain ⟨hvr, hvs⟩ := cells_ok hcs hv
  split at h
  · exact h.elim
  rename_i hlen
  have hlen := Nat.eq_of_beq_eq_true hlen
  split at h
  · rename_i hh off
    split at h
    · rename_i cells hc
      split at h
      · rename_i hle
        rw [Bool.and_eq_true, hfx] at hle
        have hfree := hle.1
        have hle := Nat.le_of_ble_eq_true hle.2
        simp only [forceL_eq] at h
        simp only [rel] at ha
        obtain ⟨x, b, hx, hb, rfl⟩ := ha
        obtain ⟨b', vs, hb', hσ, ⟨hsc, e, hO⟩, hcr⟩ := g.hp.ok _ _ _ hc hx
        rw [hb] at hb'; cases hb'
        obtain ⟨vs', hrun, hr', hl', hm'⟩ := run_storeVar (P := E.P) hT (base := 0) (pre := []) (post := []) (w := w) (b := b) (e := e) (by simpa using hO) rfl hcr hvr hvs hlen hle
        simp only [List.nil_append, List.append_nil, Nat.zero_add] at hrun
        refine ⟨_, S.own.set hh (.box (spl off cs cells)), hrun, ⟨g.tm, g.sz, g.df, g.hp.write hx hb hc rfl hσ ?_, g.fr.write hx hb, g.pn.put (g.pn.fr _ x b hx hfree hb)⟩, h⟩
        refine ⟨b, vs', hb, hσ, ⟨?_, e, put_get_same (lt_of_get hO)⟩, hr'⟩
        intro u hu; rcases hm' u hu with h | h
        · exact hsc u h
        · exact h
      · exact h.elim
    · exact h.elim
  · rename_i hh i off
    split at h
    · rename_i esz rows hc
      split at h
      · rename_i hcl
        rw [Bool.and_eq_true, hfx] at hcl
        have hfree := hcl.1
        have hcl := hcl.2
        obtain ⟨r, hr', h⟩ := h
        split at h
        · rename_i hle
          have hle := Nat.le_of_ble_eq_true hle
          simp only [forceL_eq] at h
          simp only [rel] at ha
          obtain ⟨x, b, hx, hb, rfl⟩ := ha
          have hck := g.hp.ok _ _ _ hc hx
          obtain ⟨h1, h2, h3, h4⟩ := hck
          rcases h4 with ⟨_, rfl, _⟩ | ⟨b', vss, rest, hb', hσ, ⟨hsc, e, hO⟩, hrr, hcap, hcl2⟩
          · simp at hr'
          rw [hb] at hb'; cases hb'
          obtain ⟨vs, hvs', hrv⟩ := relLL_get hrr hr'
          have hrowsv := relLL_rows hrr h3
          obtain ⟨ef, hl⟩ := flat_split hrowsv hvs'
          subst h1
          obtain ⟨vs', hrun, hr2, hl2, hm2⟩ := run_storeVar (P := E.P) hT (w := w) (b := b) (e := e) (pre := (vss.take i).flatten) (post := (vss.drop (i + 1)).flatten ++ rest)
            (by rw [hO, ef]; simp [List.append_assoc]) hl hrv (relL_closed _ _ hcl hvr) hvs hlen hle
          have hilt : i < vss.length := by
            rcases Nat.lt_or_ge i vss.length with h' | h'
            · exact h'
            · rw [List.getElem?_eq_none h'] at hvs'; cases hvs'
          have hset : (vss.set i vs').flatten = (vss.take i).flatten ++ vs' ++ (vss.drop (i + 1)).flatten := by
            rw [List.set_eq_take_append_cons_drop, if_pos hilt]; simp
          have hspl : (spl off cs r).length = r.length := by
            have := relL_length hr2; rw [hl2, relL_length hrv] at this; exact this.symm
          refine ⟨_, S.own.set hh (.vec x.esz (rows.set i (spl off cs r))), hrun, ⟨g.tm, g.sz, g.df, g.hp.write hx hb hc rfl hσ ?_, g.fr.write hx hb, g.pn.put (g.pn.fr _ x b hx hfree hb)⟩, h⟩
          refine ⟨rfl, by simpa using h2, ?_, .inr ⟨b, vss.set i vs', rest, hb, hσ, ⟨?_, e, ?_⟩, relLL_set hrr hr2, by simpa using hcap, ?_⟩⟩
          · intro q hq
            rcases List.mem_or_eq_of_mem_set hq with hq | rfl
            · exact h3 q hq
            · rw [hspl]; exact h3 r (List.mem_of_getElem? hr')
          · intro u hu
            rw [hset] at hu
            simp only [List.mem_append] at hu
            rcases hu with ((hu | hu) | hu) | hu
            · exact hsc u (by rw [ef]; simp [hu])
            · rcases hm2 u hu with h | h
              · exact hsc u (by rw [ef]; simp [h])
              · exact h
            · exact hsc u (by rw [ef]; simp [hu])
            · exact hsc u (by simp [hu])
          · rw [put_get_same (lt_of_get hO), hset]; simp [List.append_assoc]
          · rw [hset]; rw [ef] at hcl2; simp only [List.length_append] at hcl2 ⊢; omega
        · exact h.elim
      · exact h.elim
    · exact h.elim
  · exact h.elim
end Go.Sx
