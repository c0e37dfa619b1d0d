/- Lemmas of this seat. Conditions: as stated. -/
import Derived.Test.YtjhmjiimpmmnhaaGreatT13
import Derived.Test.YtjhmjiimpmmnhaaGreatMn
import Derived.Shelf.Bits.Mul64
import Derived.Shelf.Spec.SlicesInsert
import Derived.Sort.WalkB12
import Derived.Test.YtjhmjiimpmmnhaaGreatSo4
import Derived.Test.YtjhmjiimpmmnhaaGreatS6
import Derived.Test.YtjhmjiimpmmnhaaGreatSrt
set_option linter.unusedVariables false
set_option linter.unusedSimpArgs false
set_option maxHeartbeats 4000000
set_option maxRecDepth 1000000
namespace Go.Proofs.YtjhmjiimpmmnhaaGreat
section
open Go.Sx Go.Pk Go.Mc Go.RowKit Go.Lib Go.Sort Go.Shelf
theorem al_get (w:World) (c:List Value) (T:TypeId):(w.alloc (.cells c.toArray T)).heap[w.heap.size]? =some (.cells c.toArray T (0,0)):=by
 unfold World.alloc
 exact Array.getElem?_push_size
theorem al_set (w:World) (c:List Value) (T:TypeId) (o:Nat) (v:Value):(w.alloc (.cells c.toArray T)).setCell ⟨w.heap.size,o,none⟩ v=w.alloc (.cells (c.set o v).toArray T):=by
 unfold World.setCell World.alloc
 simp only
 congr 1
 apply Array.ext_getElem?
 intro i
 rw [Array.getElem?_modify]
 by_cases h:w.heap.size=i
 ·subst h
  rw [if_pos rfl,Array.getElem?_push_size,Array.getElem?_push_size]
  simp only [Option.map_some,Option.isSome_none,Bool.false_eq_true,if_false,List.setIfInBounds_toArray]
 ·rw [if_neg h,Array.getElem?_push,Array.getElem?_push,if_neg (Ne.symm h),if_neg (Ne.symm h)]
def setL:List Value→Nat→List Value→List Value
 |c,_,[]=>c
 |c,o,v::r=>setL (c.set o v) (o+1) r
theorem al_sets (w:World) (T:TypeId):∀(vs c:List Value) (o:Nat),(w.alloc (.cells c.toArray T)).setCells w.heap.size o vs=w.alloc (.cells (setL c o vs).toArray T)
 |[],_,_=>rfl
 |v::r,c,o=>by
  rw [World.setCells,al_set]
  exact al_sets w T r (c.set o v) (o+1)
theorem cp_al {T22:Tryz.prog.underlying 22=some (.slice 3)} {hsz:(Tryz.prog.info? 3).map (·.size)=some 1} (w:World) (c vs:List Value) (o dl dc sl sc:Nat) (ty:TypeId) (a:Addr) (hn:vs.length=Nat.min sl dl) (ho:o+vs.length≤c.length)
  (hsrc:∀j v,vs[j]? =some v→(w.alloc (.cells c.toArray 3)).cell? (a.add j)=some v) (h1:∀v∈vs,v.oneCell'=true):
  (Builtin.copy_ #[22,22] ty #[.slice (some ⟨w.heap.size,o,none⟩) dl dc, .slice (some a) sl sc]).run Tryz.prog (w.alloc (.cells c.toArray 3))= .ok (goInt vs.length) (w.alloc (.cells (setL c o vs).toArray 3)):=by
 have h:=run_copy_cells (P:=Tryz.prog) (w.alloc (.cells c.toArray 3)) 22 22 ty 3 w.heap.size o dl dc a sl sc vs T22 hsz hn hsrc (fun j hj=>by
  rw [(cell_at (al_get w c 3) (o+j)).1,List.getElem?_eq_getElem (by omega)];rfl) (fun j hj=>(cell_at (al_get w c 3) (o+j)).2) h1
 rw [h,al_sets]
theorem Rep1_run (w:World) (b:Nat) (v:Int) (T:TypeId) (rest:List Value) (cap:Nat) (hw:w.heap[b]? =some (.cells (.int .i64 v::rest).toArray T (0,0))):
  Calls Tryz.prog 75 #[.slice (some ⟨b,0,none⟩) 1 cap, .int .i64 1] w fun e w'=>e= .returned (.slice (some ⟨w.heap.size,0,none⟩) 1 1)∧∃q,w'=(w.drewN q).alloc (.cells (List.replicate 1 (Value.int .i64 v)).toArray 3):=by
 have mixed:Tryz.prog.follows .mixedOrders =true:=rfl
 have t22:Tryz.prog.underlying 22=some (.slice 3):=by kernel_rfl
 have hsz:(Tryz.prog.info? 3).map (·.size)=some 1:=by kernel_rfl
 have hmul:=fun(x y:Nat) (h1:x<18446744073709551616) (h2:y<18446744073709551616) W=>Any.bits_Mul bitsMul x y h1 h2 W
 change∀x y,_→_→∀W,Calls Tryz.prog 102 _ _ _ at hmul
 have hm1:=hmul 1 1 (by omega) (by omega)
 have hmk:∀w,(Instr.makeSlice 22 (.int .i64 1) (.int .i64 1)).run Tryz.prog w= .ok (.slice (some ⟨w.heap.size,0,none⟩) 1 1) (w.alloc (.cells #[Value.int .i64 0] 3)):=fun _=>by kernel_rfl
 have hsc:w.cell? ⟨b,0,none⟩=some (Value.int .i64 v):=(cell_at hw 0).1
 have hbl:=lt_of_get hw
 have hc1:∀ty,(Builtin.copy_ #[22,22] ty #[.slice (some ⟨w.heap.size,0,none⟩) 1 1, .slice (some ⟨b,0,none⟩) 1 cap]).run Tryz.prog (w.alloc (.cells #[Value.int .i64 0] 3))= .ok (goInt 1) (w.alloc (.cells #[Value.int .i64 v] 3)):=fun ty=>
  cp_al (T22:=t22) (hsz:=hsz) w [Value.int .i64 0] [Value.int .i64 v] 0 1 1 1 cap ty ⟨b,0,none⟩ rfl (by simp) (fun j u hj=>by
   cases j with
   |zero=>
    have:Value.int .i64 v=u:=by simpa using hj
    subst this
    show World.cell? _ ⟨b,0,none⟩=_
    unfold World.cell?
    have:(w.alloc (.cells [Value.int .i64 0].toArray 3)).heap[b]? =w.heap[b]? :=heap_alloc_lt _ _ hbl
    rw [this]
    exact hsc
   |succ j=>simp at hj) (fun u hu=>by rw [List.mem_singleton]at hu;subst hu;rfl)
 go_enter Tryz.func75,Tryz.ntmps75
 go_wp2_with (first|(go_at_call 102;refine(hm1 _).mono ?_;rintro e w' ⟨rfl,rfl⟩)|(at_builtin;refine wpList_copy_runI _ rfl _ _ 22 22 rfl _ _ rfl rfl (hc1 _) ?_))
 refine wp_loop_rounds 4 ?_
 rw [rounds_succ]
 go_wp2
 (try simp only [Exit.inBlock,Exit.then])
 go_wp2
 go_ret
 exact⟨rfl,0,rfl⟩
theorem Rep2_run (w:World) (b:Nat) (v:Int) (T:TypeId) (rest:List Value) (cap:Nat) (hw:w.heap[b]? =some (.cells (.int .i64 v::rest).toArray T (0,0))):
  Calls Tryz.prog 75 #[.slice (some ⟨b,0,none⟩) 1 cap, .int .i64 2] w fun e w'=>e= .returned (.slice (some ⟨w.heap.size,0,none⟩) 2 2)∧∃q,w'=(w.drewN q).alloc (.cells (List.replicate 2 (Value.int .i64 v)).toArray 3):=by
 have mixed:Tryz.prog.follows .mixedOrders =true:=rfl
 have t22:Tryz.prog.underlying 22=some (.slice 3):=by kernel_rfl
 have hsz:(Tryz.prog.info? 3).map (·.size)=some 1:=by kernel_rfl
 have hmul:=fun(x y:Nat) (h1:x<18446744073709551616) (h2:y<18446744073709551616) W=>Any.bits_Mul bitsMul x y h1 h2 W
 change∀x y,_→_→∀W,Calls Tryz.prog 102 _ _ _ at hmul
 have hm1:=hmul 1 2 (by omega) (by omega)
 have hmk:∀w,(Instr.makeSlice 22 (.int .i64 2) (.int .i64 2)).run Tryz.prog w= .ok (.slice (some ⟨w.heap.size,0,none⟩) 2 2) (w.alloc (.cells #[Value.int .i64 0,Value.int .i64 0] 3)):=fun _=>by kernel_rfl
 have hsc:w.cell? ⟨b,0,none⟩=some (Value.int .i64 v):=(cell_at hw 0).1
 have hbl:=lt_of_get hw
 have hc1:∀ty,(Builtin.copy_ #[22,22] ty #[.slice (some ⟨w.heap.size,0,none⟩) 2 2, .slice (some ⟨b,0,none⟩) 1 cap]).run Tryz.prog (w.alloc (.cells #[Value.int .i64 0,Value.int .i64 0] 3))= .ok (goInt 1) (w.alloc (.cells #[Value.int .i64 v,Value.int .i64 0] 3)):=fun ty=>
  cp_al (T22:=t22) (hsz:=hsz) w [Value.int .i64 0,Value.int .i64 0] [Value.int .i64 v] 0 2 2 1 cap ty ⟨b,0,none⟩ rfl (by simp) (fun j u hj=>by
   cases j with
   |zero=>
    have:Value.int .i64 v=u:=by simpa using hj
    subst this
    show World.cell? _ ⟨b,0,none⟩=_
    unfold World.cell?
    have:(w.alloc (.cells [Value.int .i64 0,Value.int .i64 0].toArray 3)).heap[b]? =w.heap[b]? :=heap_alloc_lt _ _ hbl
    rw [this]
    exact hsc
   |succ j=>simp at hj) (fun u hu=>by rw [List.mem_singleton]at hu;subst hu;rfl)
 have hc2:∀ty,(Builtin.copy_ #[22,22] ty #[.slice (some ⟨w.heap.size,1,none⟩) 1 1, .slice (some ⟨w.heap.size,0,none⟩) 1 2]).run Tryz.prog (w.drew.alloc (.cells #[Value.int .i64 v,Value.int .i64 0] 3))= .ok (goInt 1) (w.drew.alloc (.cells #[Value.int .i64 v,Value.int .i64 v] 3)):=fun ty=>
  cp_al (T22:=t22) (hsz:=hsz) w.drew [Value.int .i64 v,Value.int .i64 0] [Value.int .i64 v] 1 1 1 1 2 ty ⟨w.heap.size,0,none⟩ rfl (by simp) (fun j u hj=>by
   match j,hj with
   |0,hj=>
    have:Value.int .i64 v=u:=by simpa using hj
    subst this
    exact(cell_at (al_get w.drew _ 3) 0).1
   |j+1,hj=>simp at hj) (fun u hu=>by
   simp only [List.mem_cons,List.not_mem_nil,or_false,or_self]at hu
   subst hu;rfl)
 go_enter Tryz.func75,Tryz.ntmps75
 go_wp2_with (first|(go_at_call 102;refine(hm1 _).mono ?_;rintro e w' ⟨rfl,rfl⟩)|(at_builtin;refine wpList_copy_runI _ rfl _ _ 22 22 rfl _ _ rfl rfl (hc1 _) ?_))
 refine wp_loop_rounds 4 ?_
 rw [rounds_succ]
 go_wp2
 go_region_law_o (refine step_copy_runI rfl _ _ 22 22 rfl _ _ (by simp [Act.eval,Act.put]) (by simp [Act.eval,Act.put]) (hc2 _) ?_)
 go_wp2
 rw [rounds_succ]
 go_wp2
 (try simp only [Exit.inBlock,Exit.then])
 go_wp2
 go_ret
 exact⟨rfl,1,rfl⟩
theorem Rep3_run (w:World) (b:Nat) (v:Int) (T:TypeId) (rest:List Value) (cap:Nat) (hw:w.heap[b]? =some (.cells (.int .i64 v::rest).toArray T (0,0))):
  Calls Tryz.prog 75 #[.slice (some ⟨b,0,none⟩) 1 cap, .int .i64 3] w fun e w'=>e= .returned (.slice (some ⟨w.heap.size,0,none⟩) 3 3)∧∃q,w'=(w.drewN q).alloc (.cells (List.replicate 3 (Value.int .i64 v)).toArray 3):=by
 have mixed:Tryz.prog.follows .mixedOrders =true:=rfl
 have t22:Tryz.prog.underlying 22=some (.slice 3):=by kernel_rfl
 have hsz:(Tryz.prog.info? 3).map (·.size)=some 1:=by kernel_rfl
 have hmul:=fun(x y:Nat) (h1:x<18446744073709551616) (h2:y<18446744073709551616) W=>Any.bits_Mul bitsMul x y h1 h2 W
 change∀x y,_→_→∀W,Calls Tryz.prog 102 _ _ _ at hmul
 have hm1:=hmul 1 3 (by omega) (by omega)
 have hmk:∀w,(Instr.makeSlice 22 (.int .i64 3) (.int .i64 3)).run Tryz.prog w= .ok (.slice (some ⟨w.heap.size,0,none⟩) 3 3) (w.alloc (.cells #[Value.int .i64 0,Value.int .i64 0,Value.int .i64 0] 3)):=fun _=>by kernel_rfl
 have hsc:w.cell? ⟨b,0,none⟩=some (Value.int .i64 v):=(cell_at hw 0).1
 have hbl:=lt_of_get hw
 have hc1:∀ty,(Builtin.copy_ #[22,22] ty #[.slice (some ⟨w.heap.size,0,none⟩) 3 3, .slice (some ⟨b,0,none⟩) 1 cap]).run Tryz.prog (w.alloc (.cells #[Value.int .i64 0,Value.int .i64 0,Value.int .i64 0] 3))= .ok (goInt 1) (w.alloc (.cells #[Value.int .i64 v,Value.int .i64 0,Value.int .i64 0] 3)):=fun ty=>
  cp_al (T22:=t22) (hsz:=hsz) w [Value.int .i64 0,Value.int .i64 0,Value.int .i64 0] [Value.int .i64 v] 0 3 3 1 cap ty ⟨b,0,none⟩ rfl (by simp) (fun j u hj=>by
   cases j with
   |zero=>
    have:Value.int .i64 v=u:=by simpa using hj
    subst this
    show World.cell? _ ⟨b,0,none⟩=_
    unfold World.cell?
    have:(w.alloc (.cells [Value.int .i64 0,Value.int .i64 0,Value.int .i64 0].toArray 3)).heap[b]? =w.heap[b]? :=heap_alloc_lt _ _ hbl
    rw [this]
    exact hsc
   |succ j=>simp at hj) (fun u hu=>by rw [List.mem_singleton]at hu;subst hu;rfl)
 have hc2:∀ty,(Builtin.copy_ #[22,22] ty #[.slice (some ⟨w.heap.size,1,none⟩) 2 2, .slice (some ⟨w.heap.size,0,none⟩) 1 3]).run Tryz.prog (w.drew.alloc (.cells #[Value.int .i64 v,Value.int .i64 0,Value.int .i64 0] 3))= .ok (goInt 1) (w.drew.alloc (.cells #[Value.int .i64 v,Value.int .i64 v,Value.int .i64 0] 3)):=fun ty=>
  cp_al (T22:=t22) (hsz:=hsz) w.drew [Value.int .i64 v,Value.int .i64 0,Value.int .i64 0] [Value.int .i64 v] 1 2 2 1 3 ty ⟨w.heap.size,0,none⟩ rfl (by simp) (fun j u hj=>by
   match j,hj with
   |0,hj=>
    have:Value.int .i64 v=u:=by simpa using hj
    subst this
    exact(cell_at (al_get w.drew _ 3) 0).1
   |j+1,hj=>simp at hj) (fun u hu=>by
   simp only [List.mem_cons,List.not_mem_nil,or_false,or_self]at hu
   subst hu;rfl)
 have hc3:∀ty,(Builtin.copy_ #[22,22] ty #[.slice (some ⟨w.heap.size,2,none⟩) 1 1, .slice (some ⟨w.heap.size,0,none⟩) 2 3]).run Tryz.prog (w.drew.drew.alloc (.cells #[Value.int .i64 v,Value.int .i64 v,Value.int .i64 0] 3))= .ok (goInt 1) (w.drew.drew.alloc (.cells #[Value.int .i64 v,Value.int .i64 v,Value.int .i64 v] 3)):=fun ty=>
  cp_al (T22:=t22) (hsz:=hsz) w.drew.drew [Value.int .i64 v,Value.int .i64 v,Value.int .i64 0] [Value.int .i64 v] 2 1 1 2 3 ty ⟨w.heap.size,0,none⟩ rfl (by simp) (fun j u hj=>by
   match j,hj with
   |0,hj=>
    have:Value.int .i64 v=u:=by simpa using hj
    subst this
    exact(cell_at (al_get w.drew.drew _ 3) 0).1
   |j+1,hj=>simp at hj) (fun u hu=>by
   simp only [List.mem_cons,List.not_mem_nil,or_false,or_self]at hu
   subst hu;rfl)
 go_enter Tryz.func75,Tryz.ntmps75
 go_wp2_with (first|(go_at_call 102;refine(hm1 _).mono ?_;rintro e w' ⟨rfl,rfl⟩)|(at_builtin;refine wpList_copy_runI _ rfl _ _ 22 22 rfl _ _ rfl rfl (hc1 _) ?_))
 refine wp_loop_rounds 4 ?_
 rw [rounds_succ]
 go_wp2
 go_region_law_o (refine step_copy_runI rfl _ _ 22 22 rfl _ _ (by simp [Act.eval,Act.put]) (by simp [Act.eval,Act.put]) (hc2 _) ?_)
 go_wp2
 rw [rounds_succ]
 go_wp2
 go_region_law_o (refine step_copy_runI rfl _ _ 22 22 rfl _ _ (by simp [Act.eval,Act.put]) (by simp [Act.eval,Act.put]) (hc3 _) ?_)
 go_wp2
 rw [rounds_succ]
 go_wp2
 (try simp only [Exit.inBlock,Exit.then])
 go_wp2
 go_ret
 exact⟨rfl,2,rfl⟩
theorem Rep4_run (w:World) (b:Nat) (v:Int) (T:TypeId) (rest:List Value) (cap:Nat) (hw:w.heap[b]? =some (.cells (.int .i64 v::rest).toArray T (0,0))):
  Calls Tryz.prog 75 #[.slice (some ⟨b,0,none⟩) 1 cap, .int .i64 4] w fun e w'=>e= .returned (.slice (some ⟨w.heap.size,0,none⟩) 4 4)∧∃q,w'=(w.drewN q).alloc (.cells (List.replicate 4 (Value.int .i64 v)).toArray 3):=by
 have mixed:Tryz.prog.follows .mixedOrders =true:=rfl
 have t22:Tryz.prog.underlying 22=some (.slice 3):=by kernel_rfl
 have hsz:(Tryz.prog.info? 3).map (·.size)=some 1:=by kernel_rfl
 have hmul:=fun(x y:Nat) (h1:x<18446744073709551616) (h2:y<18446744073709551616) W=>Any.bits_Mul bitsMul x y h1 h2 W
 change∀x y,_→_→∀W,Calls Tryz.prog 102 _ _ _ at hmul
 have hm1:=hmul 1 4 (by omega) (by omega)
 have hmk:∀w,(Instr.makeSlice 22 (.int .i64 4) (.int .i64 4)).run Tryz.prog w= .ok (.slice (some ⟨w.heap.size,0,none⟩) 4 4) (w.alloc (.cells #[Value.int .i64 0,Value.int .i64 0,Value.int .i64 0,Value.int .i64 0] 3)):=fun _=>by kernel_rfl
 have hsc:w.cell? ⟨b,0,none⟩=some (Value.int .i64 v):=(cell_at hw 0).1
 have hbl:=lt_of_get hw
 have hc1:∀ty,(Builtin.copy_ #[22,22] ty #[.slice (some ⟨w.heap.size,0,none⟩) 4 4, .slice (some ⟨b,0,none⟩) 1 cap]).run Tryz.prog (w.alloc (.cells #[Value.int .i64 0,Value.int .i64 0,Value.int .i64 0,Value.int .i64 0] 3))= .ok (goInt 1) (w.alloc (.cells #[Value.int .i64 v,Value.int .i64 0,Value.int .i64 0,Value.int .i64 0] 3)):=fun ty=>
  cp_al (T22:=t22) (hsz:=hsz) w [Value.int .i64 0,Value.int .i64 0,Value.int .i64 0,Value.int .i64 0] [Value.int .i64 v] 0 4 4 1 cap ty ⟨b,0,none⟩ rfl (by simp) (fun j u hj=>by
   cases j with
   |zero=>
    have:Value.int .i64 v=u:=by simpa using hj
    subst this
    show World.cell? _ ⟨b,0,none⟩=_
    unfold World.cell?
    have:(w.alloc (.cells [Value.int .i64 0,Value.int .i64 0,Value.int .i64 0,Value.int .i64 0].toArray 3)).heap[b]? =w.heap[b]? :=heap_alloc_lt _ _ hbl
    rw [this]
    exact hsc
   |succ j=>simp at hj) (fun u hu=>by rw [List.mem_singleton]at hu;subst hu;rfl)
 have hc2:∀ty,(Builtin.copy_ #[22,22] ty #[.slice (some ⟨w.heap.size,1,none⟩) 3 3, .slice (some ⟨w.heap.size,0,none⟩) 1 4]).run Tryz.prog (w.drew.alloc (.cells #[Value.int .i64 v,Value.int .i64 0,Value.int .i64 0,Value.int .i64 0] 3))= .ok (goInt 1) (w.drew.alloc (.cells #[Value.int .i64 v,Value.int .i64 v,Value.int .i64 0,Value.int .i64 0] 3)):=fun ty=>
  cp_al (T22:=t22) (hsz:=hsz) w.drew [Value.int .i64 v,Value.int .i64 0,Value.int .i64 0,Value.int .i64 0] [Value.int .i64 v] 1 3 3 1 4 ty ⟨w.heap.size,0,none⟩ rfl (by simp) (fun j u hj=>by
   match j,hj with
   |0,hj=>
    have:Value.int .i64 v=u:=by simpa using hj
    subst this
    exact(cell_at (al_get w.drew _ 3) 0).1
   |j+1,hj=>simp at hj) (fun u hu=>by
   simp only [List.mem_cons,List.not_mem_nil,or_false,or_self]at hu
   subst hu;rfl)
 have hc3:∀ty,(Builtin.copy_ #[22,22] ty #[.slice (some ⟨w.heap.size,2,none⟩) 2 2, .slice (some ⟨w.heap.size,0,none⟩) 2 4]).run Tryz.prog (w.drew.drew.alloc (.cells #[Value.int .i64 v,Value.int .i64 v,Value.int .i64 0,Value.int .i64 0] 3))= .ok (goInt 2) (w.drew.drew.alloc (.cells #[Value.int .i64 v,Value.int .i64 v,Value.int .i64 v,Value.int .i64 v] 3)):=fun ty=>
  cp_al (T22:=t22) (hsz:=hsz) w.drew.drew [Value.int .i64 v,Value.int .i64 v,Value.int .i64 0,Value.int .i64 0] [Value.int .i64 v,Value.int .i64 v] 2 2 2 2 4 ty ⟨w.heap.size,0,none⟩ rfl (by simp) (fun j u hj=>by
   match j,hj with
   |0,hj=>
    have:Value.int .i64 v=u:=by simpa using hj
    subst this
    exact(cell_at (al_get w.drew.drew _ 3) 0).1
   |1,hj=>
    have:Value.int .i64 v=u:=by simpa using hj
    subst this
    exact(cell_at (al_get w.drew.drew _ 3) 1).1
   |j+2,hj=>simp at hj) (fun u hu=>by
   simp only [List.mem_cons,List.not_mem_nil,or_false,or_self]at hu
   subst hu;rfl)
 go_enter Tryz.func75,Tryz.ntmps75
 go_wp2_with (first|(go_at_call 102;refine(hm1 _).mono ?_;rintro e w' ⟨rfl,rfl⟩)|(at_builtin;refine wpList_copy_runI _ rfl _ _ 22 22 rfl _ _ rfl rfl (hc1 _) ?_))
 refine wp_loop_rounds 4 ?_
 rw [rounds_succ]
 go_wp2
 go_region_law_o (refine step_copy_runI rfl _ _ 22 22 rfl _ _ (by simp [Act.eval,Act.put]) (by simp [Act.eval,Act.put]) (hc2 _) ?_)
 go_wp2
 rw [rounds_succ]
 go_wp2
 go_region_law_o (refine step_copy_runI rfl _ _ 22 22 rfl _ _ (by simp [Act.eval,Act.put]) (by simp [Act.eval,Act.put]) (hc3 _) ?_)
 go_wp2
 rw [rounds_succ]
 go_wp2
 (try simp only [Exit.inBlock,Exit.then])
 go_wp2
 go_ret
 exact⟨rfl,2,rfl⟩
end
section
open Go.Sx Go.Pk Go.Mc
theorem rep_flat {α:Type} (k:Nat) (v:α):(List.replicate k [v]).flatten =List.replicate k v:=by
 induction k with
 |zero=>rfl
 |succ k ih=>rw [List.replicate_succ,List.flatten_cons,List.replicate_succ,ih];rfl
theorem rep_rel {σ:PH} (k:Nat) (v:Int):relLL σ (ints (List.replicate k v)) (List.replicate k [Value.int .i64 v]):=by
 induction k with
 |zero=>rfl
 |succ k ih=>
  rw [List.replicate_succ,List.replicate_succ]
  exact relLL_cons.2 ⟨⟨_,_,rfl,rfl,rfl⟩,ih⟩
theorem Rep_ok (k:Nat) (h1:1≤k) (h4:k≤4) (v:Int):Ctr Tryz.prog 75 [.vec 0,i64 k] [.vec 1 [[i64 v]]] (fun r o=>o=[.vec 1 [[i64 v]], .vec 1 (ints (List.replicate k v))]∧r= .vec 1):=by
 refine⟨⟨_,Tryz.func75,by kernel_rfl,by kernel_rfl⟩,fun w σ β vs hH hr=>?_⟩
 obtain⟨x,rfl⟩:∃x,β=[x]:=List.length_eq_one_iff.1 hH.len
 obtain⟨q1,q2,q3,q4⟩:=hH.ok 0 _ x rfl rfl
 rcases q4 with⟨_,h,_⟩|⟨b,vss,rest,hb,hσ,hO,hrr,hcap,hrest⟩
 ·cases h
 obtain⟨hsc,T,hw⟩:=hO
 obtain⟨v0,vs,rfl,h0,hr⟩:=hr
 obtain⟨v1,vs,rfl,h1',hr⟩:=hr
 have:vs=[]:=hr
 subst this
 obtain⟨y,hy,rfl⟩:=h0
 have:x=y:=by simpa using hy
 subst this
 have h1':v1= .int .i64 k:=h1'
 subst h1'
 have hvs:vss=[[Value.int .i64 v]]:=by
  obtain⟨a,b,rfl,ha,hb⟩:=hrr
  have hb:b=[]:=hb
  obtain⟨c,d,rfl,hc,hd⟩:=ha
  have hd:d=[]:=hd
  have hc:c= .int .i64 v:=hc
  subst hb hc hd;rfl
 subst hvs
 have hxs:x.slice= .slice (some ⟨b,0,none⟩) 1 x.cap:=by simp [HB.slice,adr,hb,q2]
 rw [hxs]
 have hw':w.heap[b]? =some (.cells (Value.int .i64 v::rest).toArray T (0,0)):=hw
 have hrun:Calls Tryz.prog 75 #[.slice (some ⟨b,0,none⟩) 1 x.cap, .int .i64 k] w fun e w'=>e= .returned (.slice (some ⟨w.heap.size,0,none⟩) k k)∧∃q,w'=(w.drewN q).alloc (.cells (List.replicate k (Value.int .i64 v)).toArray 3):=by
  obtain rfl|rfl|rfl|rfl:k=1∨k=2∨k=3∨k=4:=by omega
  ·exact Rep1_run w b v T rest x.cap hw'
  ·exact Rep2_run w b v T rest x.cap hw'
  ·exact Rep3_run w b v T rest x.cap hw'
  ·exact Rep4_run w b v T rest x.cap hw'
 refine hrun.mono ?_
 rintro e' w' ⟨rfl,q,rfl⟩
 have g:GG w σ [x] ⟨0,fun _=>none,fun _=>true,[],fun _=>false⟩ σ [x] ⟨[],[.vec 1 [[i64 v]]]⟩ {tmps:= #[],defers:=[]} w:=
  ⟨fun t=>by simp [tlook,rel],rfl,rfl,hH,Fr.refl w σ [x],⟨fun _ _ h=>(by cases h),fun _ _ _ _ _ _=>rfl⟩⟩
 have hfl:=rep_flat k (Value.int .i64 v)
 have g1:=(g.drawn (w.drawn+q) (Nat.le_add_right _ _)).newVec (esz:=1) (cap:=k) (rows:=ints (List.replicate k v)) (vss:=List.replicate k [Value.int .i64 v]) (rest:=[]) (rep_rel k v) (fun r hr=>by
  obtain⟨u,_,rfl⟩:=List.mem_map.1 hr;rfl) (by simp [ints]) (by rw [hfl];simp) (fun u hu=>by
  rw [hfl,List.append_nil,List.mem_replicate]at hu
  obtain⟨_,rfl⟩:=hu;rfl) 3
 rw [hfl,List.append_nil]at g1
 refine⟨_,σ,_,_, .vec 1,rfl,g1.hp,g1.fr,⟨_,rfl,?_⟩,rfl,rfl⟩
 simp [HB.slice,hb4,adr,ints]
end
end Go.Proofs.YtjhmjiimpmmnhaaGreat
