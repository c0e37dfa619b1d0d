/-
  A text of the proofs of this seat: lemmas that the statements' proofs use; it states nothing of the program by itself beyond the contracts that its theorems bear. Conditions: those that stand in each theorem. Its short name: Sx7.
-/
import Derived.Test.YtppdpfaipkjpmaaSx6
set_option linter.unusedVariables false
set_option linter.unusedSimpArgs false
namespace Go.Sx

def rowsOf (S : SS) (esz : Nat) (s : SV) : Option (List (List SV)) :=
  match s with
  | .nil => some []
  | .psl e rows => match Nat.beq e esz with | true => some rows | false => none
  | .vec h => match S.own[h]? with
    | some (.vec e rows) => match Nat.beq e esz with | true => some rows | false => none
    | _ => none
  | _ => none

/- a slice that can be read: its cells lie in one block. -/
def Reads (σ : PH) (w : World) (esz : Nat) (rows : List (List SV)) (v : Value) (vss : List (List Value)) : Prop :=
  ∃ a cap, v = .slice a rows.length cap ∧ relLL σ rows vss ∧ (∀ r ∈ rows, r.length = esz) ∧ rows.length ≤ cap ∧ (∀ u ∈ vss.flatten, scalar u = true) ∧
    (rows = [] ∨ ∃ b off A C, a = some ⟨b, off, none⟩ ∧ Blk w b (A ++ vss.flatten ++ C) ∧ A.length = off)

theorem rowsOf_ok {w0 σ0 β0 nt σ β S a w} (g : GG w0 σ0 β0 nt σ β S a w) {esz : Nat} {s : SV} {rows : List (List SV)} {v : Value} (h : rowsOf S esz s = some rows) (hr : rel σ β s v) :
    ∃ vss, Reads σ w esz rows v vss := by
  unfold rowsOf at h
  split at h
  · cases h; simp only [rel] at hr; exact ⟨[], none, 0, hr, by simp [relLL], by simp, by simp, by simp, .inl rfl⟩
  · split at h
    · rename_i hb; cases h
      have := Nat.eq_of_beq_eq_true hb; subst this
      simp only [rel] at hr
      obtain ⟨a, cap, vss, e, hc, hrr, hl, hat⟩ := hr
      rcases hat with rfl | ⟨b, off, ha, ⟨hscA, A, C, hσ, hA⟩⟩
      · simp only [relLL] at hrr; subst hrr
        exact ⟨[], a, cap, e, by simp [relLL], by simp, by simp, by simp, .inl rfl⟩
      · have hB := g.hp.ph _ _ hσ
        exact ⟨vss, a, cap, e, hrr, hl, hc, hscA, .inr ⟨b, off, A, C, ha, hB, hA⟩⟩
    · cases h
  · split at h
    · rename_i hh e rows' hc
      split at h
      · rename_i hb; cases h
        have := Nat.eq_of_beq_eq_true hb; subst this
        simp only [rel] at hr
        obtain ⟨x, hx, rfl⟩ := hr
        obtain ⟨h1, h2, h3, h4⟩ := g.hp.ok _ _ _ hc hx
        rcases h4 with ⟨hn, rfl, hcap⟩ | ⟨b, vss, rest, hb', hσ, ⟨hsc, T, hO⟩, hrr, hcap, hl⟩
        · exact ⟨[], none, 0, by simp [HB.slice, hn, h2, hcap], by simp [relLL], by simp, by simp, by simp, .inl rfl⟩
        · refine ⟨vss, some ⟨b, 0, none⟩, x.cap, by simp [HB.slice, hb', h2], hrr, h3, hcap, fun u hu => hsc u (by simp [hu]), .inr ⟨b, 0, [], rest, rfl, ⟨T, _, by simpa using hO⟩, rfl⟩⟩
      · cases h
    · cases h
  · cases h

theorem Reads.first {P : Program} {σ w esz rows v vss} (h : Reads σ w esz rows v vss) {w' : World} (hw : w'.heap = w.heap) :
    (Builtin.firstCells esz rows.length v).run P w' = .ok vss.flatten.toArray w' ∧ (Builtin.lenOf v).run P w' = .ok rows.length w' := by
  obtain ⟨a, cap, rfl, hr, hl, hc, hs, hat⟩ := h
  refine ⟨?_, by simp [Builtin.lenOf]⟩
  have hlen : vss.flatten.length = rows.length * esz := by rw [flat_length (relLL_rows hr hl), relLL_length hr]
  rcases hat with rfl | ⟨b, off, A, C, rfl, hB, hA⟩
  · simp only [relLL] at hr; subst hr
    cases a with
    | none => simp [Builtin.firstCells]
    | some a => simp [Builtin.firstCells, loadCells, loadCellsFrom]
  · simp only [Builtin.firstCells]
    have hB' : Blk w' b (A ++ vss.flatten ++ C) := by obtain ⟨T, fz, h2⟩ := hB; exact ⟨T, fz, by rw [hw]; exact h2⟩
    exact run_loadSeg hB' hA hlen

def okD (de : TyD) : Bool := Nat.beq de.zero.cells.size de.size && de.zero.cells.toList.all scalar

theorem zeroCells_sc {z : Array Value} (h : z.toList.all scalar = true) (n : Nat) : ∀ u ∈ (Builtin.zeroCells z n).toList, scalar u = true := by
  intro u hu
  simp only [Builtin.zeroCells, Array.toList_map, List.mem_map] at hu
  obtain ⟨i, hi, rfl⟩ := hu
  simp only [Array.toList_range, List.mem_range] at hi
  have hz : 0 < z.size := by
    rcases Nat.eq_zero_or_pos z.size with h0 | h0
    · rw [h0, Nat.mul_zero] at hi; omega
    · exact h0
  have hlt : i % z.size < z.size := Nat.mod_lt _ hz
  rw [getElem!_pos z (i % z.size) hlt]
  rw [List.all_eq_true] at h
  exact h _ (by simp)

theorem run_app_nil {P : Program} {t e : Nat} {d de : TyD} (ht : TyOK P t d) (hd : d.desc = .slice e) (he : TyOK P e de) {σ : PH} {w : World} {yr : List (List SV)} {vy : Value} {vss : List (List Value)} (ty : TypeId)
    (hy : Reads σ w de.size yr vy vss) (hb : yr.length * de.bytes ≤ 140737488355328) (h63 : yr.length ≤ 140737488355328) :
    (yr = [] ∧ (Builtin.append_ #[t, t] ty #[.slice none 0 0, vy]).run P w = .ok (.slice none 0 0) w) ∨
    ∃ cap, yr.length ≤ cap ∧ (Builtin.append_ #[t, t] ty #[.slice none 0 0, vy]).run P w = .ok (.slice (some ⟨w.heap.size, 0, none⟩) yr.length cap)
      (w.drew.alloc (.cells (vss.flatten.toArray ++ Builtin.zeroCells de.zero.cells (cap - yr.length)) e)) := by
  obtain ⟨⟨i, hi, hsz, hby, hz⟩, hu⟩ := he
  have htu := ht.2
  rw [hd] at htu
  have hf := (hy.first (P := P) (w' := w) rfl)
  have hf' := (hy.first (P := P) (w' := w.drew) rfl)
  by_cases hn : yr.length = 0
  · left
    have : yr = [] := List.length_eq_zero_iff.1 hn
    subst this
    refine ⟨rfl, ?_⟩
    have h1 := hf.1; have h2 := hf.2
    simp only [List.length_nil] at h1 h2
    simp [Builtin.append_, run_underlying htu, sizeOf, typeInfo, hi, h1, h2, hsz]
  · right
    have h63' : ¬ (9223372036854775807 < ((yr.length : Nat) : Int)) := by omega
    have h48' : ¬ (281474976710656 < Builtin.nextslicecap yr.length 0 * de.bytes) := by
      have := growslice_fits (need := yr.length) (old := 0) (bytes := de.bytes) (by omega) hb; omega
    refine ⟨grownCap w yr.length 0 e, grownCap_ge _ _ _ _, ?_⟩
    have h2 := hf.2; have h1 := hf'.1
    simp [Builtin.append_, run_underlying htu, sizeOf, typeInfo, zeroValue, hi, hz, h2, hn, h63', h48', hby, hsz, Question.forced, run_firstCells_none, h1, newRow, grownCap]

theorem run_app_room {P : Program} {t e : Nat} {d de : TyD} (ht : TyOK P t d) (hd : d.desc = .slice e) (he : TyOK P e de) {σ : PH} {w : World} {yr : List (List SV)} {vy : Value} {vss : List (List Value)} (ty : TypeId)
    (hy : Reads σ w de.size yr vy vss) {b n cap : Nat} {A M C : List Value} {T : TypeId} (hb : w.heap[b]? = some (.cells (A ++ M ++ C).toArray T (0, 0))) (hA : A.length = n * de.size)
    (hM : M.length = vss.flatten.length) (hroom : n + yr.length ≤ cap) :
    (Builtin.append_ #[t, t] ty #[.slice (some ⟨b, 0, none⟩) n cap, vy]).run P w = .ok (.slice (some ⟨b, 0, none⟩) (n + yr.length) cap) (put w b (.cells (A ++ vss.flatten ++ C).toArray T (0, 0))) := by
  obtain ⟨⟨i, hi, hsz, hby, hz⟩, hu⟩ := he
  have htu := ht.2
  rw [hd] at htu
  have hf := (hy.first (P := P) (w' := w) rfl)
  have hsc : ∀ u ∈ vss.flatten, scalar u = true := by obtain ⟨a, c, _, _, _, _, hs, _⟩ := hy; exact hs
  have hst := run_storeSeg (P := P) (b := b) (off := n * de.size) (T := T) (post := C) vss.flatten M A w 0 hb (by omega) hM hsc
  have hadd : (⟨b, 0, none⟩ : Addr).add (n * de.size) = ⟨b, n * de.size, none⟩ := by
    unfold Addr.add; split
    · rename_i h; rw [h]
    · simp
  have h1 := hf.1; have h2 := hf.2
  simp [Builtin.append_, run_underlying htu, sizeOf, typeInfo, hi, h1, h2, hsz, hroom, hadd, hst]

theorem run_app_grow {P : Program} {t e : Nat} {d de : TyD} (ht : TyOK P t d) (hd : d.desc = .slice e) (he : TyOK P e de) {σ : PH} {w : World} {yr : List (List SV)} {vy : Value} {vss : List (List Value)} (ty : TypeId)
    (hy : Reads σ w de.size yr vy vss) {xr : List (List SV)} {vx : Value} {xss : List (List Value)} (hx : Reads σ w de.size xr vx xss) {a : Option Addr} {xcap : Nat} (hvx : vx = .slice a xr.length xcap)
    (hroom : ¬ (xr.length + yr.length ≤ xcap)) (hb : (xr.length + yr.length) * de.bytes ≤ 140737488355328) (h63 : xr.length + yr.length ≤ 140737488355328) :
    ∃ cap, xr.length + yr.length ≤ cap ∧ (Builtin.append_ #[t, t] ty #[vx, vy]).run P w = .ok (.slice (some ⟨w.heap.size, 0, none⟩) (xr.length + yr.length) cap)
      (w.drew.alloc (.cells (xss.flatten.toArray ++ vss.flatten.toArray ++ Builtin.zeroCells de.zero.cells (cap - (xr.length + yr.length))) e)) := by
  obtain ⟨⟨i, hi, hsz, hby, hz⟩, hu⟩ := he
  have htu := ht.2
  rw [hd] at htu
  have hf := (hy.first (P := P) (w' := w) rfl)
  have hf' := (hy.first (P := P) (w' := w.drew) rfl)
  have hfx := (hx.first (P := P) (w' := w.drew) rfl)
  subst hvx
  have h63' : ¬ (9223372036854775807 < ((xr.length : Nat) : Int) + ((yr.length : Nat) : Int)) := by omega
  have h48' : ¬ (281474976710656 < Builtin.nextslicecap (xr.length + yr.length) xcap * de.bytes) := by
    have := growslice_fits (need := xr.length + yr.length) (old := xcap) (bytes := de.bytes) (by omega) hb; omega
  refine ⟨grownCap w (xr.length + yr.length) xcap e, grownCap_ge _ _ _ _, ?_⟩
  have h2 := hf.2; have h1 := hf'.1; have h3 := hfx.1
  simp only [Builtin.append_]
  simp [run_underlying htu, sizeOf, typeInfo, zeroValue, hi, hz, h2, hroom, h63', h48', hby, hsz, Question.forced, h1, h3, newRow, grownCap]
  congr 2
  apply Array.ext'
  simp

/-! ### append -/
def appS (E : Env) (S : SS) (t : Nat) (x y : SV) (k : SS → SV → Prop) : Prop :=
  need (elemD E t) fun de => need (rowsOf S de.size y) fun yr =>
    match okD de with
    | false => False
    | true =>
      match x with
      | .nil => (yr.length * de.bytes ≤ 140737488355328 ∧ yr.length ≤ 140737488355328) ∧
          forceN S.own.length fun n => forceL (S.own ++ [.vec de.size yr]) fun own => S.withTm fun tm => k ⟨tm, own⟩ (.vec n)
      | .vec h =>
        match E.free h && Nat.ble E.npre h with
        | false => False
        | true =>
          match S.own[h]? with
          | some (.vec esz rows) =>
            match Nat.beq esz de.size with
            | true => ((rows.length + yr.length) * de.bytes ≤ 140737488355328 ∧ rows.length + yr.length ≤ 140737488355328) ∧
                forceN S.own.length fun n => forceL ((S.own.set h .dead) ++ [.vec esz (rows ++ yr)]) fun own => S.withTm fun tm => k ⟨tm, own⟩ (.vec n)
            | false => False
          | _ => False
      | _ => False

/- a handle dies, a new one takes its place -/
theorem GG.succ {w0 σ0 β0 nt σ β S a w} (g : GG w0 σ0 β0 nt σ β S a w) {h : Nat} {x x' : HB} {c0 c : Chunk} {w' : World} (hx : β[h]? = some x) (hc0 : S.own[h]? = some c0) (hlv : live c0 = true) (hpre : β0.length ≤ h)
    (hph : ∀ b cs, σ b = some cs → w'.heap[b]? = w.heap[b]?) (hsz : w.heap.size ≤ w'.heap.size) (hst : w'.os = w.os ∧ w'.tape = w.tape ∧ w'.output = w.output)
    (hkeep : ∀ b, b < w.heap.size → x.blk ≠ some b → w'.heap[b]? = w.heap[b]?)
    (hfree : nt.free h = true) (hpin : ∀ b o, nt.pin b = some o → w'.heap[b]? = w.heap[b]?)
    (hblk : x'.blk = x.blk ∨ x'.blk = some w.heap.size) (hlt : ∀ b, x'.blk = some b → b < w'.heap.size)
    (hc : chunkOK w' σ (β ++ [x']) c x') :
    GG w0 σ0 β0 nt σ (β ++ [x']) ⟨S.tm, (S.own.set h .dead) ++ [c]⟩ a w' := by
  have hlen := g.hp.len
  have hle : HB.le β (β ++ [x']) := HB.le_append _ _
  have hold : ∀ (i : Nat) (d : Chunk), i < β.length → ((S.own.set h .dead) ++ [c])[i]? = some d → (i = h ∧ d = .dead) ∨ (i ≠ h ∧ S.own[i]? = some d) := by
    intro i d hi hd
    rw [List.getElem?_append_left (by simp; omega)] at hd
    by_cases hih : i = h
    · subst hih
      rw [List.getElem?_set_self (by omega)] at hd
      cases hd; exact .inl ⟨rfl, rfl⟩
    · rw [List.getElem?_set_ne (Ne.symm hih)] at hd; exact .inr ⟨hih, hd⟩
  refine ⟨g.tm.mono (PH.le.refl _) hle, g.sz, g.df, ⟨?_, ?_, ?_, ?_, ?_⟩, ⟨?_, ?_, ?_, ?_, ?_, g.fr.le, g.fr.new, ?_, ?_⟩, ?_⟩
  · intro b cs hb
    obtain ⟨T, fz, e⟩ := g.hp.ph b cs hb
    exact ⟨T, fz, by rw [hph b cs hb]; exact e⟩
  · simp [hlen]
  · intro i ch y hch hy
    rcases getElem?_snoc hy with ⟨h3, h4⟩ | ⟨h3, rfl⟩
    · rcases hold i ch h3 hch with ⟨_, rfl⟩ | ⟨hih, hd⟩
      · trivial
      · refine chunkOK.step (PH.le.refl _) hle (fun _ _ h => h) (g.hp.ok i ch y hd h4) (fun hl b hb => hkeep b (g.hp.lt i y b h4 hb) (fun e => hih ?_))
        exact g.hp.apart i h _ _ y x b hd hc0 hl hlv h4 hx hb e
    · subst h3
      rw [List.getElem?_append_right (by simp [hlen])] at hch
      simp [hlen] at hch
      subst hch; exact hc
  · intro i y b hy hb
    rcases getElem?_snoc hy with ⟨h3, h4⟩ | ⟨h3, rfl⟩
    · have := g.hp.lt i y b h4 hb; omega
    · exact hlt b hb
  · intro i j d d' y z b hd hd' hl hl' hy hz hb hb'
    have cross : ∀ (i : Nat) (d : Chunk) (y : HB), i < β.length → ((S.own.set h .dead) ++ [c])[i]? = some d → live d = true → β[i]? = some y → y.blk = some b → x'.blk = some b → False := by
      intro i d y hi hd hl hy hb hb'
      rcases hold i d hi hd with ⟨_, rfl⟩ | ⟨hih, hd⟩
      · cases hl
      · rcases hblk with e | e
        · rw [e] at hb'; exact hih (g.hp.apart i h _ _ y x b hd hc0 hl hlv hy hx hb hb')
        · rw [e] at hb'; cases hb'; have := g.hp.lt i y _ hy hb; omega
    rcases getElem?_snoc hy with ⟨h3, h4⟩ | ⟨h3, rfl⟩
    · rcases getElem?_snoc hz with ⟨h5, h6⟩ | ⟨h5, rfl⟩
      · rcases hold i d h3 hd with ⟨_, rfl⟩ | ⟨_, hd⟩
        · cases hl
        · rcases hold j d' h5 hd' with ⟨_, rfl⟩ | ⟨_, hd'⟩
          · cases hl'
          · exact g.hp.apart i j d d' y z b hd hd' hl hl' h4 h6 hb hb'
      · exact (cross i d y h3 hd hl h4 hb hb').elim
    · rcases getElem?_snoc hz with ⟨h5, h6⟩ | ⟨h5, rfl⟩
      · exact (cross j d' z h5 hd' hl' h6 hb' hb).elim
      · omega
  · exact hst.1.trans g.fr.os
  · exact hst.2.1.trans g.fr.tape
  · exact hst.2.2.trans g.fr.output
  · have := g.fr.size; omega
  · intro b hb hn
    rw [hkeep b (by have := g.fr.size; omega) (fun e => by have := g.fr.fresh h x b hx hpre e; omega)]
    exact g.fr.block b hb hn
  · exact g.fr.pre.trans hle
  · intro i y b hy hl hb
    rcases getElem?_snoc hy with ⟨h3, h4⟩ | ⟨h3, rfl⟩
    · exact g.fr.fresh i y b h4 hl hb
    · rcases hblk with e | e
      · rw [e] at hb; exact g.fr.fresh h x b hx hpre hb
      · rw [e] at hb; cases hb; exact g.fr.size
  · refine g.pn.step (fun b o hb hb' => by rw [hpin b o hb]; exact hb') (fun i y b hi hf hb => ?_)
    rcases getElem?_snoc hi with ⟨_, h4⟩ | ⟨_, rfl⟩
    · exact .inl h4
    · right
      rcases hblk with e | e
      · rw [e] at hb; exact g.pn.fr h x b hx hfree hb
      · rw [e] at hb; cases hb; exact g.pn.new (Nat.le_refl _)

theorem okD_ok {de : TyD} (h : okD de = true) : de.zero.cells.size = de.size ∧ de.zero.cells.toList.all scalar = true := by
  unfold okD at h
  rw [Bool.and_eq_true] at h
  exact ⟨Nat.eq_of_beq_eq_true h.1, h.2⟩

theorem Reads.sc {σ w esz rows v vss} (h : Reads σ w esz rows v vss) : ∀ u ∈ vss.flatten, scalar u = true := by
  obtain ⟨a, c, _, _, _, _, hs, _⟩ := h; exact hs
theorem Reads.rl {σ w esz rows v vss} (h : Reads σ w esz rows v vss) : relLL σ rows vss := by
  obtain ⟨a, c, _, hr, _⟩ := h; exact hr
theorem Reads.ln {σ w esz rows v vss} (h : Reads σ w esz rows v vss) : ∀ r ∈ rows, r.length = esz := by
  obtain ⟨a, c, _, _, hl, _⟩ := h; exact hl
theorem Reads.flen {σ w esz rows v vss} (h : Reads σ w esz rows v vss) : vss.flatten.length = rows.length * esz := by
  rw [flat_length (relLL_rows h.rl h.ln), relLL_length h.rl]

theorem GG.drew {w0 σ0 β0 nt σ β S a w} (g : GG w0 σ0 β0 nt σ β S a w) : GG w0 σ0 β0 nt σ β S a w.drew := ⟨g.tm, g.sz, g.df, g.hp.drew, g.fr.drew, ⟨g.pn.at_, g.pn.fr⟩⟩

theorem zc_len (z : Array Value) (n : Nat) : (Builtin.zeroCells z n).toList.length = n * z.size := by simp [Builtin.zeroCells]

theorem appS_ok {E : Env} (hE : EnvOK E) {w0 σ0 β0 nt σ β S a w} (g : GG w0 σ0 β0 nt σ β S a w) (hnp : E.npre = β0.length) (hfx : E.free = nt.free) {t : Nat} {x y : SV} {vx vy : Value} {k : SS → SV → Prop} (ty : TypeId)
    (h : appS E S t x y k) (hx : rel σ β x vx) (hy : rel σ β y vy) :
    ∃ v w' β' S' s, (Builtin.append_ #[t, t] ty #[vx, vy]).run E.P w = .ok v w' ∧ GG w0 σ0 β0 nt σ β' S' a w' ∧ rel σ β' s v ∧ k S' s := by
  obtain ⟨de, hde, h1⟩ := need_some h
  clear h
  obtain ⟨yr, hyr, h⟩ := need_some h1
  clear h1
  obtain ⟨d, e, hT, hd, he⟩ := elemD_ok hE hde
  obtain ⟨vss, hR⟩ := rowsOf_ok g hyr hy
  split at h
  · exact h.elim
  rename_i hok
  obtain ⟨hz1, hz2⟩ := okD_ok hok
  split at h
  · obtain ⟨⟨hb, h63⟩, hk⟩ := h
    have hk := forceN_ok hk
    simp only [forceL_eq, SS.withTm_eq] at hk
    simp only [rel] at hx; subst hx
    rcases run_app_nil hT hd he ty hR hb h63 with ⟨rfl, hrun⟩ | ⟨cap, hcap, hrun⟩
    · refine ⟨_, _, _, _, _, hrun, g.nilVec de.size, ?_, hk⟩
      simp only [rel]
      refine ⟨⟨none, de.size, 0, 0⟩, by simp [← g.hp.len], rfl⟩
    · have hzl := zc_len de.zero.cells (cap - yr.length)
      have := (g.drew).newVec (esz := de.size) (cap := cap) (rows := yr) (vss := vss) (rest := (Builtin.zeroCells de.zero.cells (cap - yr.length)).toList) hR.rl hR.ln hcap
        (by rw [hR.flen, hzl, hz1, ← Nat.add_mul]; congr 1; omega)
        (by intro u hu; rcases List.mem_append.1 hu with hu | hu
            · exact hR.sc u hu
            · exact zeroCells_sc hz2 _ u hu) e
      have ea : vss.flatten.toArray ++ Builtin.zeroCells de.zero.cells (cap - yr.length) = (vss.flatten ++ (Builtin.zeroCells de.zero.cells (cap - yr.length)).toList).toArray := by
        apply Array.ext'; simp
      rw [ea] at hrun
      refine ⟨_, _, _, _, _, hrun, this, ?_, hk⟩
      · simp only [rel]
        refine ⟨⟨some w.heap.size, de.size, yr.length, cap⟩, by simp [← g.hp.len], rfl⟩
  · rename_i hh
    split at h
    · exact h.elim
    rename_i hnpre
    rw [Bool.and_eq_true, hfx] at hnpre
    have hfree := hnpre.1
    have hnpre := Nat.le_of_ble_eq_true hnpre.2
    split at h
    · rename_i esz rows hc
      split at h
      · rename_i hes
        have hes := Nat.eq_of_beq_eq_true hes
        subst hes
        obtain ⟨⟨hb, h63⟩, hk⟩ := h
        have hk := forceN_ok hk
        simp only [forceL_eq, SS.withTm_eq] at hk
        have hown := g.hp.len
        have hRx := rowsOf_ok (esz := de.size) (rows := rows) g (by simp [rowsOf, hc, Nat.beq_refl]) hx
        simp only [rel] at hx
        obtain ⟨xb, hxb, rfl⟩ := hx
        have hck := g.hp.ok _ _ _ hc hxb
        obtain ⟨h1, h2, h3, h4⟩ := hck
        have hhl : hh < β.length := by
          rcases Nat.lt_or_ge hh β.length with h' | h'
          · exact h'
          · rw [List.getElem?_eq_none h'] at hxb; cases hxb
        obtain ⟨xss, hRx⟩ := hRx
        have rowsl : ∀ r ∈ rows ++ yr, r.length = de.size := fun r hr => (List.mem_append.1 hr).elim (h3 r) (hR.ln r)
        by_cases hroom : rows.length + yr.length ≤ xb.cap
        · rcases h4 with ⟨hbn, rfl, hcap⟩ | ⟨b, vs0, rest, hbb, hσ, ⟨hsc, T, hO⟩, hrr, hcap, hl⟩
          · -- the nil slice, nothing appended
            have hy0 : yr = [] := List.length_eq_zero_iff.1 (by simp at hroom; omega)
            subst hy0
            have hsl : xb.slice = .slice none 0 0 := by simp [HB.slice, hbn, h2, hcap]
            rcases run_app_nil hT hd he ty hR (by simp) (by simp) with ⟨_, hrun⟩ | ⟨cap, _, _⟩
            · refine ⟨_, w, β ++ [xb], ⟨S.tm, (S.own.set hh .dead) ++ [.vec de.size ([] ++ [])]⟩, .vec S.own.length, by rw [hsl]; exact hrun, g.succ (x' := xb) (c := .vec de.size ([] ++ [])) hxb hc rfl (by omega) (fun _ _ _ => rfl) (Nat.le_refl _) ⟨rfl, rfl, rfl⟩ (fun _ _ _ => rfl) hfree (fun _ _ _ => rfl) (.inl rfl)
                (fun b hb => by rw [hbn] at hb; cases hb) ⟨h1, by simpa using h2, by simp, .inl ⟨hbn, rfl, hcap⟩⟩, ?_, hk⟩
              simp only [rel]
              exact ⟨xb, by simp [← hown], hsl.symm⟩
            · rename_i hrun2
              have hf := (hR.first (P := E.P) (w' := w) rfl)
              obtain ⟨⟨i, hi, hsz, hby, hz⟩, hu⟩ := he
              have htu := hT.2
              rw [hd] at htu
              have q1 := hf.1; have q2 := hf.2
              simp only [List.length_nil] at q1 q2
              simp [Builtin.append_, run_underlying htu, sizeOf, typeInfo, hi, q1, q2, hsz] at hrun2
          · -- in place
            have hsl : xb.slice = .slice (some ⟨b, 0, none⟩) rows.length xb.cap := by simp [HB.slice, hbb, h2]
            have hvl : vs0.flatten.length = rows.length * de.size := by rw [flat_length (relLL_rows hrr h3), relLL_length hrr]
            have hrl : yr.length * de.size ≤ rest.length := by
              have : (rows.length + yr.length) * de.size ≤ xb.cap * de.size := Nat.mul_le_mul_right _ hroom
              rw [Nat.add_mul] at this; omega
            have hrest : rest = rest.take (yr.length * de.size) ++ rest.drop (yr.length * de.size) := (List.take_append_drop _ _).symm
            have hrun := run_app_room (P := E.P) hT hd he ty hR (b := b) (n := rows.length) (cap := xb.cap) (A := vs0.flatten) (M := rest.take (yr.length * de.size)) (C := rest.drop (yr.length * de.size)) (T := T)
              (by rw [hO]; conv => lhs; rw [hrest]
                  simp [List.append_assoc]) hvl (by rw [List.length_take, hR.flen]; omega) hroom
            have hblt := lt_of_get hO
            refine ⟨_, put w b (.cells (vs0.flatten ++ vss.flatten ++ rest.drop (yr.length * de.size)).toArray T (0, 0)), β ++ [⟨some b, de.size, rows.length + yr.length, xb.cap⟩], _, _, by rw [hsl]; exact hrun,
              g.succ (w' := put w b (.cells (vs0.flatten ++ vss.flatten ++ rest.drop (yr.length * de.size)).toArray T (0, 0))) (c := .vec de.size (rows ++ yr)) (x' := ⟨some b, de.size, rows.length + yr.length, xb.cap⟩) hxb hc rfl (by omega) ?_ (by simp) ⟨rfl, rfl, rfl⟩ ?_ hfree (fun k o hk' => put_get_ne (by rintro rfl; rw [g.pn.fr hh xb k hxb hfree hbb] at hk'; cases hk')) (.inl (by simp [hbb])) ?_ ?_, ?_, hk⟩
            · intro k cs hk'; exact put_get_ne (by rintro rfl; rw [hσ] at hk'; cases hk')
            · intro k _ hne; exact put_get_ne (by rintro rfl; exact hne hbb)
            · intro k hk'; cases hk'; simpa using hblt
            · refine ⟨rfl, by simp, rowsl, .inr ⟨b, vs0 ++ vss, rest.drop (yr.length * de.size), rfl, hσ, ⟨?_, T, ?_⟩, relLL_append hrr hR.rl, by simpa using hroom, ?_⟩⟩
              · intro u hu
                simp only [List.flatten_append, List.mem_append] at hu
                rcases hu with (hu | hu) | hu
                · exact hsc u (by simp [hu])
                · exact hR.sc u hu
                · exact hsc u (by simp [List.mem_of_mem_drop hu])
              · rw [put_get_same hblt]; simp
              · simp only [List.flatten_append, List.length_append, hvl, hR.flen, List.length_drop]
                rw [hvl] at hl; omega
            · simp only [rel]
              refine ⟨_, by rw [← hown, List.getElem?_append_right (Nat.le_refl _), Nat.sub_self]; rfl, by simp [HB.slice]⟩
        · -- a new array
          have hsl : xb.slice = .slice (xb.blk.map fun b => ⟨b, 0, none⟩) rows.length xb.cap := by simp [HB.slice, h2]
          obtain ⟨cap, hcap, hrun⟩ := run_app_grow (P := E.P) hT hd he ty hR hRx hsl hroom hb h63
          have hzl := zc_len de.zero.cells (cap - (rows.length + yr.length))
          have hσ : σ w.heap.size = none := by
            cases h : σ w.heap.size with
            | none => rfl
            | some cs => exact absurd (g.hp.ph _ _ h).lt (by omega)
          refine ⟨_, _, β ++ [⟨some w.heap.size, de.size, rows.length + yr.length, cap⟩], _, _, hrun,
            g.succ (w' := w.drew.alloc (.cells (xss.flatten.toArray ++ vss.flatten.toArray ++ Builtin.zeroCells de.zero.cells (cap - (rows.length + yr.length))) e)) (c := .vec de.size (rows ++ yr)) (x' := ⟨some w.heap.size, de.size, rows.length + yr.length, cap⟩) hxb hc rfl (by omega) ?_ (by simp) ⟨rfl, rfl, rfl⟩ ?_ hfree (fun k o hk' => heap_alloc_lt w.drew _ (g.pn.lt hk')) (.inr rfl) ?_ ?_, ?_, hk⟩
          · intro b cs hb'; exact heap_alloc_lt w.drew _ (g.hp.ph b cs hb').lt
          · intro b hb' _; exact heap_alloc_lt w.drew _ hb'
          · intro b hb'; cases hb'; simp
          · refine ⟨rfl, by simp, rowsl, .inr ⟨w.heap.size, xss ++ vss, (Builtin.zeroCells de.zero.cells (cap - (rows.length + yr.length))).toList, rfl, hσ, ⟨?_, e, ?_⟩, relLL_append hRx.rl hR.rl, by simpa using hcap, ?_⟩⟩
            · intro u hu
              simp only [List.flatten_append, List.mem_append] at hu
              rcases hu with (hu | hu) | hu
              · exact hRx.sc u hu
              · exact hR.sc u hu
              · exact zeroCells_sc hz2 _ u hu
            · rw [show w.heap.size = w.drew.heap.size from rfl, heap_alloc_new]
              congr 2
              apply Array.ext'
              simp
            · simp only [List.flatten_append, List.length_append, hRx.flen, hR.flen, hzl, hz1]
              rw [← Nat.add_mul, ← Nat.add_mul]; congr 1; omega
          · simp only [rel]
            refine ⟨_, by rw [← hown, List.getElem?_append_right (Nat.le_refl _), Nat.sub_self]; rfl, by simp [HB.slice]⟩
      · exact h.elim
    · exact h.elim
  · exact h.elim
end Go.Sx
