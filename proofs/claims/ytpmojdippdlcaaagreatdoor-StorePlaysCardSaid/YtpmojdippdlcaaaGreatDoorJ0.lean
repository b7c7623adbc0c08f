/- every call of any script on a store answers as the document says, while acts of the chip fail, as long as there are spares, and leaves the document's nodes, also when it is opened again; its conditions are the statement's own: the bounds of scripts, bodies and fails; the conditions are the statement's own: part 0. -/
import Derived.Tactics
import Derived.OrdersHeld
import Derived.OrdersIn
import Derived.RangeFuncRecord
import Derived.RangeFuncCalls
import Derived.Sort.LoopGhostIn
import Derived.Laws.Cells
import Derived.RowKit3
import Derived.NoCompiler
import Derived.KernelRfl
import Derived.Deep.LoopGhost
import Derived.Laws.Rows
import Derived.Laws.CopyRow
import Derived.Laws.Build
import Derived.IntWalk
import Derived.StillTail
import Derived.Laws.StructEq
import Derived.Laws.BytesString
import Derived.Laws.Externs
import Derived.Lib.MakeNoZero
set_option linter.unusedVariables false
set_option linter.unusedSimpArgs false
set_option maxRecDepth 100000
set_option maxHeartbeats 1000000
set_option synthInstance.maxSize 4000
set_option synthInstance.maxHeartbeats 400000
namespace Go.K
section
set_option linter.defProp false
def A3n:=@Array.ext_getElem?
def A14:=@Array.getD_eq_getD_getElem?
def A16:=@Array.getElem?_append_left
def A2b:=@Array.getElem?_eq_getElem
def A2n:=@Array.getElem?_eq_none
def A2t:=@Array.getElem?_modify
def A3g:=@Array.getElem?_push
def A12:=@Array.getElem?_setIfInBounds
def A1y:=@Array.getElem?_setIfInBounds_ne
def A2u:=@BitVec.eq_of_toNat_eq
def A26:=@BitVec.ofInt_natCast
def A4h:=@BitVec.toNat_add
def A4i:=@BitVec.toNat_and
def A3o:=@BitVec.toNat_ofInt
def A3p:=@BitVec.toNat_ofNat
def A4z:=@BitVec.toNat_or
def A2v:=@BitVec.toNat_setWidth
def A2o:=@BitVec.toNat_shiftLeft
def A2h:=@BitVec.toNat_ushiftRight
def A4j:=@BitVec.xor_assoc
def A2w:=@Bool.and_eq_false_iff
def A4k:=@Bool.and_eq_true
def A5s:=@Bool.and_true
def A5j:=@Bool.false_and
def A3q:=@Bool.false_eq_true
def A3r:=@Bool.false_ne_true
def A5t:=@Bool.false_or
def A3s:=@Bool.not_eq_false'
def A32:=@Bool.not_eq_true'
def A5u:=@Bool.not_true
def A27:=@Bool.or_eq_false_iff
def A40:=@Bool.or_eq_true
def A5v:=@Bool.true_and
def A6n:=@Go.Calls.mono
def A2c:=@Classical.byContradiction
def A5q:=@Go.DataW.trod_int
def A17:=@Int.fdiv_eq_ediv_of_nonneg
def A6g:=@Int.le_refl
def A3t:=@Int.natCast_nonneg
def A33:=@Int.toNat_natCast
def A3h:=@Int.toNat_of_nonneg
def A41:=@List.all_append
def A5w:=@List.all_cons
def A4l:=@List.all_eq_true
def A4m:=@List.any_eq_true
def A34:=@List.append_assoc
def A42:=@List.append_nil
def A43:=@List.cons.injEq
def A4n:=@List.cons_append
def A10:=@List.drop_append_of_le_length
def A5k:=@List.drop_drop
def A2d:=@List.drop_eq_getElem_cons
def A2p:=@List.drop_eq_nil_of_le
def A44:=@List.drop_left'
def A2q:=@List.drop_of_length_le
def A3i:=@List.drop_succ_cons
def A5l:=@List.drop_zero
def A4o:=@List.ext_getElem
def A35:=@List.ext_getElem?
def A3u:=@List.filter_append
def A3j:=@List.flatMap_append
def A36:=@List.flatMap_cons
def A37:=@List.foldl_append
def A45:=@List.foldl_cons
def A18:=@List.getD_eq_getElem?_getD
def A2e:=@List.getElem?_append_left
def A19:=@List.getElem?_append_right
def A2k:=@List.getElem?_cons_succ
def A3v:=@List.getElem?_drop
def A2i:=@List.getElem?_eq_getElem
def A2x:=@List.getElem?_eq_none
def A38:=@List.getElem?_map
def A2l:=@List.getElem?_replicate
def A39:=@List.getElem?_set
def A28:=@List.getElem?_set_ne
def A3w:=@List.getElem?_take
def A2y:=@List.getElem?_toArray
def A4p:=@List.getElem_mem
def A3k:=@List.getElem_of_mem
def A3x:=@List.length_append
def A4q:=@List.length_cons
def A4r:=@List.length_drop
def A2j:=@List.length_erase_of_mem
def A2z:=@List.length_filter_le
def A46:=@List.length_map
def A2r:=@List.length_pos_of_mem
def A20:=@List.length_replicate
def A47:=@List.length_set
def A21:=@List.length_singleton
def A4s:=@List.length_take
def A5m:=@List.mapM_cons
def A4a:=@List.mapM_toArray
def A48:=@List.map_append
def A3l:=@List.map_congr_left
def A5x:=@List.map_cons
def A51:=@List.map_map
def A52:=@List.map_nil
def A49:=@List.mem_append
def A29:=@List.mem_append_left
def A22:=@List.mem_append_right
def A5y:=@List.mem_cons
def A3a:=@List.mem_cons_of_mem
def A3y:=@List.mem_cons_self
def A5a:=@List.mem_filter
def A53:=@List.mem_map
def A3b:=@List.mem_of_getElem?
def A5n:=@List.mem_range
def A3z:=@List.mem_singleton
def A5b:=@List.nil_append
def A4b:=@List.nodup_append
def A5c:=@List.nodup_cons
def A2a:=@List.nodup_iff_pairwise_ne
def A5o:=@List.nodup_nil
def A30:=@List.pairwise_cons
def A2f:=@List.pairwise_iff_getElem
def A4c:=@List.pairwise_map
def A4t:=@List.perm_middle
def A5d:=@List.range_succ
def A54:=@List.set_set
def A4d:=@List.take_add_one
def A23:=@List.take_append_drop
def A11:=@List.take_append_of_le_length
def A5e:=@List.take_left'
def A4u:=@List.take_length
def A2s:=@List.take_of_length_le
def A3m:=@List.take_succ_cons
def A5z:=@Nat.add_assoc
def A55:=@Nat.add_comm
def A56:=@Nat.add_zero
def A5f:=@Nat.and_le_left
def A1z:=@Nat.and_two_pow_sub_one_eq_mod
def A24:=@Nat.eq_of_beq_eq_true
def A25:=@Nat.le_of_ble_eq_true
def A6h:=@Nat.le_refl
def A57:=@Nat.le_trans
def A58:=@Nat.lt_or_ge
def A5g:=@Nat.min_eq_left
def A4v:=@Nat.mod_eq_of_lt
def A6k:=@Nat.mod_lt
def A3c:=@Nat.mul_le_mul_right
def A6i:=@Nat.mul_one
def A2g:=@Nat.shiftRight_eq_div_pow
def A59:=@Nat.sub_self
def A6a:=@Nat.sub_zero
def A6b:=@Nat.succ_mul
def A15:=@Nat.two_pow_add_eq_or_of_lt
def A6c:=@Nat.zero_add
def A6j:=@Nat.zero_le
def A6s:=@Ne.symm
def A6d:=@Go.Oper.wp_mono
def A4w:=@Option.getD_some
def A5h:=@Option.map_some
def A5i:=@Option.some.inj
def A4e:=@Option.some.injEq
def A50:=@Prod.mk.injEq
def A4y:=@Go.Region.free_spec
def A3e:=@Go.Region.noSelect_spec
def A3f:=@Go.Region.waitsFor_spec
def A4g:=@Go.Result.andThen_ok
def A6l:=@Vector.ext
def A13:=@Vector.getElem_setIfInBounds
def A3d:=@Vector.length_toList
def A6m:=@beq_iff_eq
def A6e:=@Go.callsIn_wide
def A6r:=@congrArg
def A4x:=@decide_eq_decide
def A2m:=@decide_eq_false_iff_not
def A5p:=@decide_eq_true
def A4f:=@decide_eq_true_eq
def A6t:=@dif_pos
def A6u:=@if_neg
def A6v:=@if_pos
def A6p:=@Go.mem_ready
def A31:=@Go.run_loadCells_list
def A6o:=@Go.run_sizeOf
def A5r:=@Go.run_underlying
def A6q:=@Go.wpIn_mono
def A6f:=@Go.wpList_plain
open Go Go.Sem
class Rg where
 ds:List Deferred
 rd:Option Nat
instance Rg0:Rg:=⟨[],none⟩
def Rg.F [r:Rg]:Fence:={ Fence.wide with round:=r.rd }
def Um (o:Oper):Bool:=match o.op with | .defer _=>false | _=>true
theorem Atl {o:Oper} (h:Um o=true):∀ c,o.op≠.defer c:=by
 intro c e;simp [Um,e] at h
def Kc:Code→Bool
 | .seq x y=>Kc x && Kc y
 | .cond _ x y=>Kc x && Kc y
 | .block _ c=>Kc c
 | .loop c=>Kc c
 | .scope c=>Kc c
 | .region _ ops _=>ops.toList.all Um
 | .rangeFunc _ _ _ _=>false
 | _=>true
section
variable [r:Rg] {P:Program}
theorem Anp {f:FuncId} {args:Array Value} {w:World} {R:Ending→World→Prop} (n:Nat) (h:Calls P f args w R):CallsIn Rg.F n P f args w R:=(A6e (n:=n)).2 h
theorem Atm {row:String} {args:Array Value} {w:World} {R:Value→World→Prop} (n:Nat) (h:Rows P row args w R):RowsIn Rg.F n P row args w R :=
 fun c cs _=>let ⟨v,w',x,s⟩:=h c cs;⟨v,w',x,stepsIn_wide.2 s⟩
theorem Z7 {o:Oper} {a:Act} {w:World} {K K':Act→World→Prop} {Q Q':Exit→Act→World→Prop} (hk:∀ a w,K a w→K' a w) (hq:∀ e a w,e≠.normal→Q e a w→Q' e a w) (hn:r.rd.isSome=true→Um o=true) (h:o.wp P a w K Q):o.wpIn Rg.F 0 P a w K' Q':=by
 refine ⟨fun _ _=>trivial,?_⟩
 have he:o.semAt Rg.F.round a.eval=execOp a.eval o:=by
  show o.semAt r.rd a.eval=_
  cases hr:r.rd with
  | none=>rfl
  | some l=>exact Oper.semAt_eq _ _ _ (Atl (hn (by rw [hr];rfl)))
 rw [he]
 unfold Oper.wp at h
 generalize (execOp a.eval o).run P w=x at h ⊢
 have hd:(Rg.F (r:=r)).depth.isSome=true→1≤0:=fun e=>by cases e
 cases x with
 | ok x w2 =>
  cases x <;> simp only [Oper.upon,Oper.uponIn] at h ⊢
  case enter=>exact ⟨hd,Anp _ (h.mono fun e w' hh=>by cases e <;> first | exact hk _ _ hh | exact hq (.panic _) _ _ (fun e=>nomatch e) hh | exact let ⟨a,w,hh⟩:=hh;⟨a,w,hq .outgrown a w (fun e=>nomatch e) hh⟩)⟩
  case row=>exact ⟨hd,Atm _ (h.mono fun _ _ hh=>hk _ _ hh)⟩
  all_goals first | exact hk _ _ h | exact h.elim
 | halt x w2=>cases x <;> simp only [Oper.upon,Oper.uponIn] at h ⊢ <;> first | exact hq _ _ _ (fun e=>nomatch e) h | exact h
theorem Ph {ops:Array Oper} {Q Q':Exit→Act→World→Prop} (y:List Oper) (hk:∀ a w,Q .normal a w→wpListIn Rg.F 0 P ops Q' y a w) (hq:∀ e a w,e≠.normal→¬ Q e a w):∀ (l:List Oper) (a:Act) (w:World),(r.rd.isSome=true→l.all Um=true)→wpList P ops Q l a w→wpListIn Rg.F 0 P ops Q' (l++y) a w
 | [],a,w,_,h=>hk a w h
 | o::l,a,w,hn,h=>by
  simp only [wpList] at h
  simp only [A4n,wpListIn]
  have hn':r.rd.isSome=true→l.all Um=true:=fun e=>by have:=hn e;simp only [A5w,A4k] at this;exact this.2
  split
  ·rename_i hw
   rw [A6v hw] at h
   exact Z7 (fun a w hh=>Ph y hk hq l a w hn' hh) (fun e a w he hh=>absurd hh (hq e a w he)) (fun e=>by have:=hn e;simp only [A5w,A4k] at this;exact this.1) (h.resolve_right fun ⟨_,a,w,hh⟩=>hq .outgrown a w (fun e=>nomatch e) hh)
  ·rename_i hw
   rw [A6u hw] at h
   exact ⟨fun _ _=>trivial,Ph y hk hq l _ _ hn' h⟩
theorem Z8 {ops:Array Oper} {Q:Exit→Act→World→Prop} (hL:¬ LetsOut Q):∀ (l:List Oper) (a:Act) (w:World),(r.rd.isSome=true→l.all Um=true)→wpList P ops Q l a w→wpListIn Rg.F 0 P ops Q l a w
 | [],a,w,_,h=>h
 | o::l,a,w,hn,h=>by
  simp only [wpList] at h
  simp only [wpListIn]
  have hn':r.rd.isSome=true→l.all Um=true:=fun e=>by have:=hn e;simp only [A5w,A4k] at this;exact this.2
  split
  ·rename_i hw
   rw [A6v hw] at h
   exact Z7 (fun a w hh=>Z8 hL l a w hn' hh) (fun _ _ _ _ hh=>hh) (fun e=>by have:=hn e;simp only [A5w,A4k] at this;exact this.1) (h.resolve_right fun ⟨_,hh⟩=>hL hh)
  ·rename_i hw
   rw [A6u hw] at h
   exact ⟨fun _ _=>trivial,Z8 hL l _ _ hn' h⟩
theorem Z9 {ops:Array Oper} {Q:Exit→Act→World→Prop} (hL:¬ LetsOut Q) (hn:r.rd.isSome=true→ops.toList.all Um=true):∀ (f:Nat) (listed:Array Bool) (a:Act) (w:World),wpAny P .any ops Q f listed a w→wpAnyIn Rg.F 0 P .any ops Q f listed a w
 | 0,listed,a,w,h=>h
 | f+1,listed,a,w,h=>by
  refine ⟨h.1,fun i hi=> ?_⟩
  have hh:=h.2 i hi
  unfold wpOp at hh
  unfold wpOpIn
  split
  ·rename_i ho;simp only [ho] at hh;exact Z9 hL hn f _ _ _ hh
  ·rename_i o ho
   simp only [ho] at hh
   split
   ·rename_i hw
    rw [A6v hw] at hh
    exact Z7 (fun a w hh=>Z9 hL hn f _ a w hh) (fun _ _ _ _ hh=>hh) (fun e=>A4l.1 (hn e) o (by
     have:=Array.mem_of_getElem? ho;simpa using this)) (hh.resolve_right fun ⟨_,h2⟩=>hL h2)
   ·rename_i hw
    rw [A6u hw] at hh
    exact ⟨fun _ _=>trivial,Z9 hL hn f _ _ _ hh⟩
def wpR (P:Program) (c:Code) (Q:Exit→Act→World→Prop) (a:Act) (w:World):Prop :=
 (r.rd.isSome=true→¬ LetsOut Q∧Kc c=true)→c.wpIn Rg.F 0 P Q a w
variable {Q:Exit→Act→World→Prop} {a:Act} {w:World}
theorem Ke {c:Code} {Q':Exit→Act→World→Prop} (h:wpR P c Q a w) (hq:∀ e a w,Q e a w→Q' e a w):wpR P c Q' a w :=
 fun hp=>A6q (h fun e=>⟨fun ⟨a,w,hh⟩=>(hp e).1 ⟨a,w,hq _ _ _ hh⟩,(hp e).2⟩) hq
theorem Anq (h:Q .normal a w):wpR P .skip Q a w:=fun _=>wpIn_skip h
theorem Anr {i:Nat} (h:Q (.exit i) a w):wpR P (.exit i) Q a w:=fun _=>wpIn_exit h
theorem Atn (h:Q .ret a w):wpR P .ret Q a w:=fun _=>wpIn_ret h
theorem Ato {x y:Code} (h:wpR P x (Exit.then (wpR P y Q) Q) a w):wpR P (.seq x y) Q a w:=fun hp =>
 have h2:r.rd.isSome=true→Kc x=true∧Kc y=true:=fun e=>by have:=(hp e).2;simp only [Kc,A4k] at this;exact this
 wpIn_seq (A6q (h fun e=>⟨fun ⟨a,w,hh⟩=>(hp e).1 ⟨a,w,hh⟩,(h2 e).1⟩) fun e a w hh=>by
  cases e with
  | normal=>exact hh fun e=>⟨(hp e).1,(h2 e).2⟩
  | _=>exact hh)
theorem Un {c:Operand} {x y:Code} {t:Bool} (hc:a.eval c= .bool t) (ht:t=true→wpR P x Q a w) (hf:t=false→wpR P y Q a w):wpR P (.cond c x y) Q a w:=fun hp =>
 have h2:r.rd.isSome=true→Kc x=true∧Kc y=true:=fun e=>by have:=(hp e).2;simp only [Kc,A4k] at this;exact this
 wpIn_cond_split hc (fun e=>ht e fun e=>⟨(hp e).1,(h2 e).1⟩) (fun e=>hf e fun e=>⟨(hp e).1,(h2 e).2⟩)
theorem Aj8 {i:Nat} {c:Code} (h:wpR P c (Exit.inBlock i Q) a w):wpR P (.block i c) Q a w:=fun hp =>
 wpIn_block (h fun e=>⟨fun ⟨a,w,hh⟩=>(hp e).1 ⟨a,w,hh⟩,by have:=(hp e).2;simp only [Kc] at this;exact this⟩)
theorem Ans {c:Code} (I:Nat→Act→World→Prop) (n₀:Nat) (h₀:I n₀ a w)
  (round:∀ n a w,I n a w→wpR P c (Exit.then (fun a' w'=>∃ n',n'<n∧I n' a' w') Q) a w):wpR P (.loop c) Q a w:=fun hp =>
 wpIn_loop_ghost I n₀ h₀ fun n a w h=>round n a w h fun e=>⟨fun ⟨a,w,hh⟩=>(hp e).1 ⟨a,w,hh⟩,by have:=(hp e).2;simp only [Kc] at this;exact this⟩
theorem Ml {id:Nat} {l:List Oper} (h:wpList P l.toArray Q l a w):wpR P (.region id l.toArray false) Q a w:=fun hp=>by
 cases hr:r.rd with
 | none =>
  have:r.F=Fence.wide:=by show ({ Fence.wide with round:=r.rd }:Fence)=_;rw [hr];rfl
  rw [this]
  exact wpIn_wide.2 (wp_region_lit h)
 | some k =>
  have hp':=hp (by rw [hr];rfl)
  refine wpIn_region_lit (Z8 hp'.1 l a w (fun _=> ?_) h)
  have:=hp'.2
  simpa [Kc] using this
theorem I4 {id:Nat} {l:List Oper} (hm:P.follows .mixedOrders=true)
  (h:wpAny P .any l.toArray Q l.toArray.size (Array.replicate l.toArray.size false) a { w with drawn:=w.drawn+1 }):wpR P (.region id l.toArray true) Q a w:=fun hp=>by
 cases hr:r.rd with
 | none =>
  have:r.F=Fence.wide:=by show ({ Fence.wide with round:=r.rd }:Fence)=_;rw [hr];rfl
  rw [this]
  exact wpIn_wide.2 (wp_region_any hm h)
 | some k =>
  have hp':=hp (by rw [hr];rfl)
  refine wpIn_region_any hm (Z9 hp'.1 (fun _=> ?_) _ _ _ _ h)
  have:=hp'.2
  simpa [Kc] using this
end
theorem Ax2 {P:Program} {c:Code} {Q:Exit→Act→World→Prop} {a:Act} {w:World} (h:@wpR Rg0 P c Q a w):c.wp P Q a w:=wpIn_wide.1 (h fun e=>by cases e)
end
section
set_option linter.unusedSectionVars false
abbrev Env:=List (Nat×Value)
def fnd:Env→Nat→Option Value
 | [],_=>none
 | (k,v)::E,i=>bif Nat.beq k i then some v else fnd E i
def EnvOk (E:Env) (a:Act):Prop:=∀ i v,fnd E i=some v→a.tmps.getD i undef=v
theorem EnvOk.put {E:Env} {a:Act} {d:Nat} {v:Value} (h:EnvOk E a) (hd:d<a.tmps.size):EnvOk ((d,v)::E) (a.put (some d) v):=by
 intro i u hu
 unfold fnd at hu
 simp only [Act.put]
 cases hb:Nat.beq d i with
 | true =>
  have:d=i:=A24 hb
  simp_all
 | false =>
  have hne:d≠i:=fun e=>by simp_all
  simp [hb] at hu
  have:=h i u hu
  simp_all
abbrev Blk:=Nat×Bool×Obj
abbrev Hp:=List Blk
def CF (cs:List Value) (T:TypeId) (fr:Nat×Nat):Obj:= .cells cs.toArray T fr
abbrev C (cs:List Value) (T:TypeId):Obj:=CF cs T (0,0)
def Far (x y:Blk):Prop:=x.1=y.1→x.2.1=false∧y.2.1=false
theorem Far.symm {x y:Blk} (h:Far x y):Far y x:=fun e=>⟨(h e.symm).2,(h e.symm).1⟩
structure HpOk (H:Hp) (w:World):Prop where
 far:H.Pairwise Far
 here:∀ x∈H,w.heap[x.1]? =some x.2.2
theorem HpOk.lt {H:Hp} {w:World} (h:HpOk H w) {x:Blk} (hx:x∈H):x.1<w.heap.size:=by
 have:=h.here x hx
 grind
def Dom (H:Hp) (b:Nat):Prop:=∃ x∈H,x.1=b
def Acl (H:Hp) (b:Nat):Prop:=∃ x∈H,x.1=b∧x.2.1=true
structure Trk (w w':World) (H H':Hp):Prop where
 ok:HpOk H' w'
 os:w'.os=w.os
 tape:w'.tape=w.tape
 out:w'.output=w.output
 fz:∀ a,a.block<w.heap.size→w'.frozen? a=w.frozen? a
 size:w.heap.size≤w'.heap.size
 same:∀ b,b<w.heap.size→¬ Acl H b→w'.heap[b]? =w.heap[b]?
 dom:∀ b,Dom H' b→Dom H b∨w.heap.size≤b
 rw:∀ b,Acl H' b→Acl H b∨w.heap.size≤b
theorem Trk.refl {w:World} {H:Hp} (h:HpOk H w):Trk w w H H :=
 ⟨h,rfl,rfl,rfl,fun _ _=>rfl,A6h _,fun _ _ _=>rfl,fun _ h=> .inl h,fun _ h=> .inl h⟩
theorem Trk.trans {w0 w1 w2:World} {H0 H1 H2:Hp} (h:Trk w0 w1 H0 H1) (k:Trk w1 w2 H1 H2):Trk w0 w2 H0 H2 where
 ok:=k.ok
 os:=k.os.trans h.os
 tape:=k.tape.trans h.tape
 out:=k.out.trans h.out
 fz:=fun a ha=>(k.fz a (Nat.lt_of_lt_of_le ha h.size)).trans (h.fz a ha)
 size:=A57 h.size k.size
 same:=fun b hb hn=>by
  have h1:=h.same b hb hn
  have h2:=k.same b (Nat.lt_of_lt_of_le hb h.size) (fun hr=>by
   rcases h.rw b hr with h3 | h3
   ·exact hn h3
   ·omega)
  rw [h2,h1]
 dom:=fun b hb=>by
  rcases k.dom b hb with h1 | h1
  ·exact h.dom b h1
  ·exact .inr (A57 h.size h1)
 rw:=fun b hb=>by
  rcases k.rw b hb with h1 | h1
  ·exact h.rw b h1
  ·exact .inr (A57 h.size h1)
inductive Pick:Blk→Hp→Hp→Prop
 | here {x:Blk} {H:Hp}:Pick x (x::H) H
 | there {x y:Blk} {H F:Hp}:Pick x H F→Pick x (y::H) (y::F)
inductive Split:Hp→Hp→Hp→Prop
 | nil {H:Hp}:Split H [] H
 | cons {x:Blk} {H G F:Hp} {L:Hp}:Pick x H G→Split G L F→Split H (x::L) F
theorem Pick.perm {x:Blk} {H F:Hp} (h:Pick x H F):H.Perm (x::F):=by
 induction h with
 | here=>simp_all
 | there _ ih=>exact (List.Perm.cons _ ih).trans (List.Perm.swap _ _ _)
theorem Split.perm {H L F:Hp} (h:Split H L F):H.Perm (L++F):=by
 induction h with
 | nil=>simp_all
 | @cons x H G F L hp _ ih=>exact hp.perm.trans (List.Perm.cons x ih)
theorem HpOk.perm {H K:Hp} {w:World} (h:HpOk H w) (hp:H.Perm K):HpOk K w :=
 ⟨(hp.pairwise_iff (fun h=>Far.symm h)).1 h.far,fun x hx=>h.here x (hp.mem_iff.2 hx)⟩
theorem HpOk.left {L F:Hp} {w:World} (h:HpOk (L++F) w):HpOk L w :=
 ⟨(List.pairwise_append.1 h.far).1,fun x hx=>h.here x (A29 _ hx)⟩
theorem HpOk.right {L F:Hp} {w:World} (h:HpOk (L++F) w):HpOk F w :=
 ⟨(List.pairwise_append.1 h.far).2.1,fun x hx=>h.here x (A22 _ hx)⟩
theorem Trk.frame {w w':World} {H H' F:Hp} (h:Trk w w' H H') (hf:HpOk (H++F) w):Trk w w' (H++F) (H'++F):=by
 obtain ⟨n1,n2,n3⟩:=List.pairwise_append.1 hf.far
 have hF:∀ x∈F,w'.heap[x.1]? =some x.2.2:=fun x hx=>by
  rw [h.same x.1 (hf.lt (A22 _ hx)) (fun ⟨y,hy,e,hr⟩=>by have:=(n3 y hy x hx e).1;rw [hr] at this;cases this)]
  exact hf.here x (A22 _ hx)
 refine ⟨⟨?_,?_⟩,h.os,h.tape,h.out,h.fz,h.size,?_,?_,?_⟩
 ·refine List.pairwise_append.2 ⟨h.ok.far,n2,fun x hx y hy e=> ?_⟩
  have hylt:=hf.lt (A22 H hy)
  refine ⟨?_,?_⟩
  ·cases hr:x.2.1 with
   | false=>rfl
   | true =>
    rcases h.rw x.1 ⟨x,hx,rfl,hr⟩ with ⟨z,hz,ez,hzr⟩ | hd
    ·have:=(n3 z hz y hy (ez.trans e)).1;rw [hzr] at this;cases this
    ·omega
  ·rcases h.dom x.1 ⟨x,hx,rfl⟩ with ⟨z,hz,ez⟩ | hd
   ·exact (n3 z hz y hy (ez.trans e)).2
   ·omega
 ·intro x hx
  rcases A49.1 hx with hx | hx
  ·exact h.ok.here x hx
  grind
 ·intro b hb hn
  exact h.same b hb (fun ⟨x,hx,e⟩=>hn ⟨x,A29 _ hx,e⟩)
 ·rintro b ⟨x,hx,rfl⟩
  rcases A49.1 hx with hx | hx
  ·rcases h.dom _ ⟨x,hx,rfl⟩ with ⟨y,hy,e⟩ | h2
   ·exact .inl ⟨y,A29 _ hy,e⟩
   omega
  ·exact .inl ⟨x,A22 _ hx,rfl⟩
 ·rintro b ⟨x,hx,rfl,hr⟩
  rcases A49.1 hx with hx | hx
  ·rcases h.rw _ ⟨x,hx,rfl,hr⟩ with ⟨y,hy,e⟩ | h2
   ·exact .inl ⟨y,A29 _ hy,e⟩
   omega
  ·exact .inl ⟨x,A22 _ hx,rfl,hr⟩
theorem Trk.perm_left {w w':World} {H K H':Hp} (h:Trk w w' H H') (hp:H.Perm K):Trk w w' K H' :=
 have d:∀ b,Dom H b→Dom K b:=fun _ ⟨x,hx,e⟩=>⟨x,hp.mem_iff.1 hx,e⟩
 have r:∀ b,Acl H b→Acl K b:=fun _ ⟨x,hx,e⟩=>⟨x,hp.mem_iff.1 hx,e⟩
 ⟨h.ok,h.os,h.tape,h.out,h.fz,h.size,fun b hb hn=>h.same b hb (fun hr=>hn (r b hr)),fun b hb=>(h.dom b hb).imp (d b) id,fun b hb=>(h.rw b hb).imp (r b) id⟩
theorem Trk.sub {w w':World} {H H' K:Hp} (h:Trk w w' H H') (hk:HpOk K w') (hs:∀ x∈K,x∈H'):Trk w w' H K :=
 ⟨hk,h.os,h.tape,h.out,h.fz,h.size,h.same,fun b ⟨x,hx,e⟩=>h.dom b ⟨x,hs x hx,e⟩,fun b ⟨x,hx,e⟩=>h.rw b ⟨x,hs x hx,e⟩⟩
theorem Trk.split {w w':World} {H H' L F:Hp} (h:Trk w w' H H') (hs:Split H' L F):Trk w w' H L :=
 have hp:=hs.perm
 h.sub ((h.ok.perm hp).left) (fun x hx=>hp.mem_iff.2 (A29 _ hx))
def Does (P:Program) (f:FuncId) (args:List Value) (H:Hp) (R:Value→Hp→Prop):Prop :=
 ∀ w,HpOk H w→Calls P f args.toArray w fun e w'=>∃ v H',e= .returned v∧R v H'∧Trk w w' H H'
theorem Does.mono {P:Program} {f:FuncId} {args:List Value} {H:Hp} {R R':Value→Hp→Prop} (h:Does P f args H R) (hr:∀ v H',R v H'→R' v H'):Does P f args H R' :=
 fun w hw=>(h w hw).mono fun _ _ ⟨v,H',he,hR,ht⟩=>⟨v,H',he,hr v H' hR,ht⟩
abbrev C5:=Exit→Env→Hp→Prop
def Up [rg:Rg] (n:Nat) (w:World) (H:Hp) (Q:C5):Exit→Act→World→Prop :=
 fun e a' w'=>∃ E' H',EnvOk E' a'∧a'.tmps.size=n∧a'.defers=rg.ds∧Trk w w' H H'∧Q e E' H'
def SC [rg:Rg] (P:Program) (n:Nat) (c:Code) (E:Env) (H:Hp) (Q:C5):Prop :=
 ∀ a w,EnvOk E a→a.tmps.size=n→a.defers=rg.ds→HpOk H w→wpR P c (Up n w H Q) a w
theorem Up.after [rg:Rg] {n:Nat} {w w1:World} {H H1:Hp} {Q:C5} (ht:Trk w w1 H H1) {e:Exit} {a:Act} {w':World} (h:Up n w1 H1 Q e a w'):Up n w H Q e a w' :=
 let ⟨E',H',h1,h2,h3,h4,h5⟩:=h;⟨E',H',h1,h2,h3,ht.trans h4,h5⟩
def thn (K:Env→Hp→Prop) (Q:C5):C5
 | .normal,E,H=>K E H
 | e,E,H=>Q e E H
def blk (id:Nat) (Q:C5):C5
 | .exit i,E,H=>if i=id then Q .normal E H else Q (.exit i) E H
 | e,E,H=>Q e E H
section
variable [rg:Rg] {P:Program} {n:Nat} {E:Env} {H:Hp} {Q:C5}
theorem SC.mono {c:Code} {Q':C5} (h:SC P n c E H Q) (hq:∀ e E H,Q e E H→Q' e E H):SC P n c E H Q' :=
 fun a w h1 h2 h3 h4=>Ke (h a w h1 h2 h3 h4) fun e _ _ ⟨E',H',k1,k2,k3,k4,k5⟩=>⟨E',H',k1,k2,k3,k4,hq e E' H' k5⟩
theorem An {x y:Code} (h:SC P n x E H (thn (fun E H=>SC P n y E H Q) Q)):SC P n (.seq x y) E H Q:=by
 intro a w h1 h2 h3 h4
 refine Ato (Ke (h a w h1 h2 h3 h4) ?_)
 rintro e a' w' ⟨E',H',k1,k2,k3,k4,k5⟩
 cases e with
 | normal=>exact Ke (k5 a' w' k1 k2 k3 k4.ok) fun e _ _ hu=>hu.after k4
 | _=>exact ⟨E',H',k1,k2,k3,k4,k5⟩
theorem Cg (h:Q .normal E H):SC P n .skip E H Q :=
 fun a w h1 h2 h3 h4=>Anq ⟨E,H,h1,h2,h3,Trk.refl h4,h⟩
theorem Im (h:Q .ret E H):SC P n .ret E H Q :=
 fun a w h1 h2 h3 h4=>Atn ⟨E,H,h1,h2,h3,Trk.refl h4,h⟩
theorem Jy {i:Nat} (h:Q (.exit i) E H):SC P n (.exit i) E H Q :=
 fun a w h1 h2 h3 h4=>Anr ⟨E,H,h1,h2,h3,Trk.refl h4,h⟩
theorem Ct {i:Nat} {c:Code} (h:SC P n c E H (blk i Q)):SC P n (.block i c) E H Q:=by
 intro a w h1 h2 h3 h4
 refine Aj8 (Ke (h a w h1 h2 h3 h4) ?_)
 rintro e a' w' ⟨E',H',k1,k2,k3,k4,k5⟩
 cases e with
 | exit j =>
  simp only [Exit.inBlock,blk] at *
  split
  ·rename_i hj;rw [A6v hj] at k5;exact ⟨E',H',k1,k2,k3,k4,k5⟩
  ·rename_i hj;rw [A6u hj] at k5;exact ⟨E',H',k1,k2,k3,k4,k5⟩
 | _=>exact ⟨E',H',k1,k2,k3,k4,k5⟩
def ev (E:Env):Operand→Option Value
 | .tmp t=>fnd E t
 | .const v=>some v
 | .global g=>some (.pointer (some ⟨g,0,none⟩))
 | .func f=>some (.func (.func f) #[] #[])
theorem As {a:Act} (h:EnvOk E a) {x:Operand} {v:Value} (hx:ev E x=some v):a.eval x=v:=by
 cases x with
 | tmp t=>exact h t v hx
 | const u=>simpa [ev,Act.eval] using hx
 | global g=>simpa [ev,Act.eval] using hx
 | func f=>simpa [ev,Act.eval] using hx
theorem Aa {c:Operand} {x y:Code} {t:Bool} (hc:ev E c=some (.bool t)) (ht:t=true→SC P n x E H Q) (hf:t=false→SC P n y E H Q):SC P n (.cond c x y) E H Q:=by
 intro a w h1 h2 h3 h4
 exact Un (As h1 hc) (fun e=>ht e a w h1 h2 h3 h4) (fun e=>hf e a w h1 h2 h3 h4)
theorem Es {c:Operand} {x y:Code} (hc:ev E c=some (.bool true)) (ht:SC P n x E H Q):SC P n (.cond c x y) E H Q :=
 Aa hc (fun _=>ht) (fun e=>by cases e)
theorem Ay {c:Operand} {x y:Code} (hc:ev E c=some (.bool false)) (ht:SC P n y E H Q):SC P n (.cond c x y) E H Q :=
 Aa hc (fun e=>by cases e) (fun _=>ht)
inductive Keep (E:Env):Env→Prop
 | nil:Keep E []
 | cons {i:Nat} {v:Value} {F:Env}:fnd E i=some v→Keep E F→Keep E ((i,v)::F)
theorem Keep.ok {F:Env} {a:Act} (hk:Keep E F) (h:EnvOk E a):EnvOk F a:=by
 induction hk with
 | nil=>intro i v hv;cases hv
 | @cons i v F hi _ ih =>
  intro j u hu
  unfold fnd at hu
  cases hb:Nat.beq i j with
  | true=>have:i=j:=A24 hb;subst this;simp [hb] at hu;subst hu;exact h _ _ hi
  | false=>simp [hb] at hu;exact ih j u hu
theorem Ant {c:Code} {F:Env} {L R:Hp} (hk:Keep E F) (hs:Split H L R) (h:SC P n c F L Q):SC P n c E H Q:=by
 intro a w h1 h2 h3 h4
 have hp:=hs.perm
 refine Ke (h a w (hk.ok h1) h2 h3 ((h4.perm hp).left)) fun e a' w' hu=> ?_
 exact hu.after ((Trk.refl h4).split hs)
theorem Ax3 {σ:Type} {c:Code} (E0:σ→Env) (H0:σ→Hp) (inv:σ→Prop) (μ:σ→Nat) (s0:σ) (hi:inv s0)
  (hk:Keep E (E0 s0)) {R:Hp} (hs:Split H (H0 s0) R)
  (round:∀ s,inv s→SC P n c (E0 s) (H0 s) (thn (fun E' H'=>∃ s',inv s'∧μ s'<μ s∧Keep E' (E0 s')∧∃ R',Split H' (H0 s') R') Q)) :
  SC P n (.loop c) E H Q:=by
 intro a w h1 h2 h3 h4
 refine Ans (fun m a' w'=>∃ s,inv s∧μ s=m∧EnvOk (E0 s) a'∧a'.tmps.size=n∧a'.defers=rg.ds∧Trk w w' H (H0 s)) (μ s0)
  ⟨s0,hi,rfl,hk.ok h1,h2,h3,(Trk.refl h4).split hs⟩ ?_
 rintro m a' w' ⟨s,k1,rfl,k2,k3,k4,k5⟩
 refine Ke (round s k1 a' w' k2 k3 k4 k5.ok) ?_
 rintro e a2 w2 ⟨E',H',j1,j2,j3,j4,j5⟩
 cases e with
 | normal =>
  obtain ⟨s',l1,l2,l3,R',l4⟩:=j5
  exact ⟨μ s',l2,s',l1,rfl,l3.ok j1,j2,j3,(k5.trans j4).split l4⟩
 | _=>exact ⟨E',H',j1,j2,j3,k5.trans j4,j5⟩
end
def Og:Nat→List Value→Env
 | _,[]=>[]
 | i,v::vs=>(i,v)::Og (i+1) vs
theorem Ld:∀ (vs:List Value) (j i:Nat) (v:Value),fnd (Og j vs) i=some v→j≤i∧vs[i - j]? =some v
 | [],_,_,_,h=>by cases h
 | u::vs,j,i,v,h=>by
  unfold Og fnd at h
  cases hb:Nat.beq j i with
  | true =>
   have:j=i:=A24 hb
   grind
  | false =>
   simp [hb] at h
   obtain ⟨h1,h2⟩:=Ld vs (j+1) i v h
   grind
def Ret (P:Program) (fn:Func) (E:Env) (H:Hp) (v:Value):Prop :=
 ∀ a w,EnvOk E a→HpOk H w→(results fn a.tmps).run P w= .ok v w
def G0 (P:Program) (fn:Func) (R:Value→Hp→Prop):C5
 | .normal,E,H | .ret,E,H=>∃ v L F,Ret P fn E H v∧Split H L F∧R v L
 | _,_,_=>False
theorem Kf {P:Program} {f n:Nat} {fn:Func} {c:Code} {args:List Value} {H:Hp} {R:Value→Hp→Prop}
  (hf:P.funcs[f]? =some fn) (hn:fn.ntmps=n) (hb:fn.body=some c) (hl:args.length≤n) (h:SC P n c (Og 0 args) H (G0 P fn R)):Does P f args H R:=by
 intro w hw
 refine calls_of_wp hf hb (wp_mono (Ax2 (h { tmps:=args.toArray++Array.replicate (fn.ntmps - args.toArray.size) undef,defers:=[] } w ?_ ?_ rfl hw)) ?_)
 ·intro i v hv
  obtain ⟨_,h2⟩:=Ld args 0 i v hv
  have hi:i<args.length:=(List.getElem?_eq_some_iff.1 (by simpa using h2)).1
  simp only [A14]
  rw [A16 (by omega)]
  have h2':args[i]? =some v:=by omega
  simp [h2']
 ·simp;omega
 ·rintro e a' w' ⟨E',H',k1,k2,k3,k4,k5⟩
  cases e with
  | normal =>
   obtain ⟨v,L,F,h1,h2,h3⟩:=k5
   exact ⟨k3,v,h1 a' w' k1 k4.ok,v,L,rfl,h3,k4.split h2⟩
  | ret =>
   obtain ⟨v,L,F,h1,h2,h3⟩:=k5
   exact ⟨k3,v,h1 a' w' k1 k4.ok,v,L,rfl,h3,k4.split h2⟩
  | exit i=>exact k5.elim
  | goto l=>exact k5.elim
  | panic ch=>exact k5.elim
  | outgrown=>exact k5.elim
theorem Aj9 {P:Program} {fn:Func} {E:Env} {H:Hp} (h:fn.results=#[]):Ret P fn E H (.tuple #[]) :=
 fun a w _ _=>results_none h a.tmps P w
end
section
class Und (P:Program) (t:TypeId) (d:outParam TypeDesc):Prop where eq:P.underlying t=some d
class Siz (P:Program) (t:TypeId) (n:outParam Nat):Prop where eq:(P.info? t).map (·.size)=some n
class Zer (P:Program) (t:TypeId) (cs:outParam (List Value)):Prop where eq:(P.info? t).map (fun i=>i.zero.map (·.cells.toList))=some (some cs)
def agg:TypeDesc→Bool
 | .struct _ | .array _ _=>true
 | _=>false
theorem Bd {P:Program} {t:TypeId} {n:Nat} [h:Siz P t n] (w:World):(sizeOf t).run P w= .ok n w:=by
 have:=h.eq
 cases hq:P.info? t with
 | none=>grind
 | some i=>simp [hq] at this;simp [sizeOf,typeInfo,hq,this]
class Agg (P:Program) (t:TypeId) (b:outParam Bool):Prop where eq:∃ d,P.underlying t=some d∧agg d=b
theorem Hr {P:Program} {t:TypeId} {b:Bool} [h:Agg P t b] (w:World):(isAgg t).run P w= .ok b w:=by
 obtain ⟨d,h1,rfl⟩:=h.eq
 unfold isAgg
 rw [Sem.run_bind,A5r h1 w]
 cases d <;> rfl
theorem Ee {P:Program} {t:TypeId} {cs:List Value} [h:Zer P t cs] (w:World):∃ v,(zeroValue t).run P w= .ok v w∧v.cells=cs.toArray:=by
 have:=h.eq
 cases hq:P.info? t with
 | none=>grind
 | some i =>
  cases hz:i.zero with
  | none=>grind
  | some v =>
   simp [hq,hz] at this
   refine ⟨v,by simp [zeroValue,typeInfo,hq,hz],?_⟩
   rw [← this]
def nth:List Value→Nat→Option Value
 | [],_=>none
 | c::_,0=>some c
 | _::cs,n+1=>nth cs n
theorem Dk (cs:List Value) (i:Nat):nth cs i=cs[i]? :=by
 induction cs generalizing i with
 | nil=>rfl
 | cons c cs ih=>cases i <;> simp [nth,ih]
def cut:List Value→Nat→Nat→Option (List Value)
 | _,0,0=>some []
 | c::cs,0,n+1=>match cut cs 0 n with | some r=>some (c::r) | none=>none
 | _::cs,o+1,n=>cut cs o n
 | [],_,_=>none
theorem Ht:∀ (cs:List Value) (o n:Nat) (r:List Value),cut cs o n=some r→r=(cs.drop o).take n∧o+n≤cs.length∧r.length=n
 | cs,0,0,r,h=>by cases cs <;> simp [cut] at h <;> subst h <;> simp
 | c::cs,0,n+1,r,h=>by
  simp only [cut] at h
  split at h
  ·rename_i r' hr
   obtain ⟨h1,h2,h3⟩:=Ht cs 0 n r' hr
   grind
  ·cases h
 | c::cs,o+1,n,r,h=>by
  obtain ⟨h1,h2,h3⟩:=Ht cs o n r h
  grind
 | [],_+1,0,r,h=>by simp [cut] at h
 | [],0,_+1,r,h=>by simp [cut] at h
 | [],_+1,_+1,r,h=>by simp [cut] at h
def over:List Value→List Value→Option (List Value)
 | cs,[]=>some cs
 | _::cs,v::vs=>match over cs vs with | some r=>some (v::r) | none=>none
 | [],_::_=>none
def A7:List Value→Nat→List Value→Option (List Value)
 | cs,0,vs=>over cs vs
 | c::cs,o+1,vs=>match A7 cs o vs with | some r=>some (c::r) | none=>none
 | [],_+1,_=>none
theorem Ahz:∀ (cs vs r:List Value),over cs vs=some r→r=vs++cs.drop vs.length∧vs.length≤cs.length
 | cs,[],r,h=>by cases cs <;> simp [over] at h <;> subst h <;> simp
 | c::cs,v::vs,r,h=>by
  simp only [over] at h
  split at h
  ·rename_i r' hr
   obtain ⟨h1,h2⟩:=Ahz cs vs r' hr
   grind
  ·cases h
 | [],_::_,r,h=>by simp [over] at h
theorem Hu:∀ (cs:List Value) (o:Nat) (vs r:List Value),A7 cs o vs=some r→r=cs.take o++vs++cs.drop (o+vs.length)∧o+vs.length≤cs.length
 | cs,0,vs,r,h=>by
  have:over cs vs=some r:=by cases cs <;> simpa [A7] using h
  obtain ⟨h1,h2⟩:=Ahz cs vs r this
  grind
 | c::cs,o+1,vs,r,h=>by
  simp only [A7] at h
  split at h
  ·rename_i r' hr
   obtain ⟨h1,h2⟩:=Hu cs o vs r' hr
   grind
  ·cases h
 | [],_+1,_,r,h=>by simp [A7] at h
theorem Aae {cs r:List Value} {o n:Nat} (h:r=(cs.drop o).take n) (hl:o+n≤cs.length):cut cs o n=some r:=by
 subst h
 induction cs generalizing o n with
 | nil=>simp at hl;obtain ⟨rfl,rfl⟩:=hl;rfl
 | cons c cs ih =>
  cases o with
  | zero =>
   cases n with
   | zero=>rfl
   | succ n=>simp at hl;have:=ih (o:=0) (n:=n) (by omega);simp only [cut,this];simp
  | succ o=>simp at hl;have:=ih (o:=o) (n:=n) (by omega);simpa [cut] using this
theorem Atv {cs vs:List Value} (h:vs.length≤cs.length):over cs vs=some (vs++cs.drop vs.length):=by
 induction vs generalizing cs with
 | nil=>cases cs <;> rfl
 | cons v vs ih=>cases cs with
  | nil=>simp at h
  | cons c cs=>simp at h;simp only [over,ih h];simp
theorem Ex {cs vs r:List Value} {o:Nat} (h:r=cs.take o++vs++cs.drop (o+vs.length)) (hl:o+vs.length≤cs.length):A7 cs o vs=some r:=by
 subst h
 induction cs generalizing o with
 | nil=>simp at hl;obtain ⟨rfl,rfl⟩:=hl;rfl
 | cons c cs ih =>
  cases o with
  | zero=>have:=Atv (cs:=c::cs) (vs:=vs) (by omega);simp only [A7,this];simp
  | succ o=>simp at hl;have:=ih (o:=o) (by omega);simp only [A7];grind
def Ih:Value→Option (List Value)
 | .agg cs=>if cs.toList.all (·.oneCell') then some cs.toList else none
 | .tuple _=>none
 | v=>some [v]
theorem X6 {v:Value} {vs:List Value} (h:Ih v=some vs):v.cells=vs.toArray∧∀ x∈vs,x.oneCell'=true:=by
 cases v <;> simp only [Ih] at h
 case agg cs =>
  split at h
  ·cases h
   refine ⟨by simp [Value.cells],fun x hx=> ?_⟩
   grind
  ·cases h
 case tuple=>cases h
 all_goals (cases h;refine ⟨rfl,fun x hx=> ?_⟩;simp at hx;subst hx;rfl)
def B6 (w:World) (b:Nat) (o:Obj):World:={ w with heap:=w.heap.setIfInBounds b o }
inductive Upd (b:Nat) (o o':Obj):Hp→Hp→Prop
 | here {H:Hp}:Upd b o o' ((b,true,o)::H) ((b,true,o')::H)
 | there {x:Blk} {H K:Hp}:Upd b o o' H K→Upd b o o' (x::H) (x::K)
theorem Upd.mem {b:Nat} {o o':Obj} {H K:Hp} (h:Upd b o o' H K):(b,true,o)∈H:=by
 induction h with
 | here=>exact .head _
 | there _ ih=>grind
theorem Upd.of_mem {b:Nat} {o o':Obj} {H K:Hp} (h:Upd b o o' H K):∀ x∈K,x=(b,true,o')∨x∈H:=by
 induction h with
 | here=>grind
 | there _ ih=>grind
theorem H7 {w:World} {b:Nat} {cs:List Value} {T:TypeId} (h:w.heap[b]? =some (C cs T)) (o:Nat) (s:Option Nat):w.frozen? ⟨b,o,s⟩=false:=by
 simp [World.frozen?,h,C,CF]
theorem Upd.far {b:Nat} {o o':Obj} {H K:Hp} (hu:Upd b o o' H K) (h:H.Pairwise Far):K.Pairwise Far∧∀ x∈K,x=(b,true,o')∨(x∈H∧x.1≠b):=by
 induction hu with
 | @here H =>
  rw [A30] at h
  refine ⟨A30.2 ⟨fun y hy e=> ?_,h.2⟩,fun x hx=> ?_⟩
  ·have:=(h.1 y hy e).1;cases this
  ·cases hx with
   | head=>grind
   | tail _ hx=>exact .inr ⟨.tail _ hx,fun e=>by have:=(h.1 x hx e.symm).1;cases this⟩
 | @there x H K hu ih =>
  rw [A30] at h
  obtain ⟨i1,i2⟩:=ih h.2
  have hxb:x.1≠b:=fun e=>by have:=(h.1 _ hu.mem e).2;cases this
  refine ⟨A30.2 ⟨fun y hy e=> ?_,i1⟩,fun y hy=> ?_⟩
  ·rcases i2 y hy with rfl | ⟨hm,_⟩
   ·omega
   ·exact h.1 y hm e
  grind
theorem Pp {w:World} {b:Nat} {o o':Obj} {H K:Hp} (h:HpOk H w) (hu:Upd b o o' H K) (hf:∀ i s,(B6 w b o').frozen? ⟨b,i,s⟩=w.frozen? ⟨b,i,s⟩):Trk w (B6 w b o') H K:=by
 have hlt:=h.lt hu.mem
 obtain ⟨u1,u2⟩:=hu.far h.far
 refine ⟨⟨u1,fun x hx=> ?_⟩,rfl,rfl,rfl,fun a _=> ?_,by simp [B6],fun c hc hn=> ?_,fun c hc=> ?_,fun c hc=> ?_⟩
 ·rcases u2 x hx with rfl | ⟨hm,hb⟩
  ·simp [B6,hlt]
  ·simp [B6,A1y (A6s hb),h.here x hm]
 ·obtain ⟨ab,ao,as0⟩:=a
  by_cases hb:ab=b
  ·grind
  ·simp [World.frozen?,B6,A1y (A6s hb)]
 ·have:c≠b:=fun e=>hn ⟨_,hu.mem,e.symm,rfl⟩
  simp [B6,A1y (A6s this)]
 ·obtain ⟨x,hx,rfl⟩:=hc
  rcases hu.of_mem x hx with rfl | hm
  ·exact .inl ⟨_,hu.mem,rfl⟩
  ·exact .inl ⟨x,hm,rfl⟩
 ·obtain ⟨x,hx,rfl,hr⟩:=hc
  rcases hu.of_mem x hx with rfl | hm
  ·exact .inl ⟨_,hu.mem,rfl,rfl⟩
  ·exact .inl ⟨x,hm,rfl,hr⟩
theorem Aaf {w:World} {H:Hp} (h:HpOk H w) {o:Obj} (hf:∀ i s,({ w with heap:=w.heap.push o }:World).frozen? ⟨w.heap.size,i,s⟩=false):Trk w { w with heap:=w.heap.push o } H ((w.heap.size,true,o)::H):=by
 refine ⟨⟨?_,fun x hx=> ?_⟩,rfl,rfl,rfl,fun a _=> ?_,by simp,fun c hc _=> ?_,?_,?_⟩
 ·refine A30.2 ⟨fun x hx e=> ?_,h.far⟩
  have:=h.lt hx
  omega
 ·cases hx with
  | head=>simp
  | tail _ hx=>have:=h.lt hx;simp [A3g,h.here x hx];omega
 ·obtain ⟨ab,ao,as0⟩:=a
  by_cases hb:ab=w.heap.size
  ·grind
  ·simp [World.frozen?,A3g,hb]
 ·grind
 ·rintro c ⟨x,hx,rfl⟩
  cases hx with
  | head=>omega
  | tail _ hx=>exact .inl ⟨x,hx,rfl⟩
 ·rintro c ⟨x,hx,rfl,hr⟩
  cases hx with
  | head=>omega
  | tail _ hx=>exact .inl ⟨x,hx,rfl,hr⟩
theorem I5 {w:World} {H:Hp} (h:HpOk H w) {cs:List Value} {T:TypeId}:Trk w { w with heap:=w.heap.push (C cs T) } H ((w.heap.size,true,C cs T)::H) :=
 Aaf h (fun i s=>by simp [World.frozen?,C,CF])
theorem Pq {w:World} {b:Nat} {cs cs':List Value} {T:TypeId} {H K:Hp} (h:HpOk H w) (hu:Upd b (C cs T) (C cs' T) H K):Trk w (B6 w b (C cs' T)) H K :=
 Pp h hu (fun i s=>by
  have hlt:=h.lt hu.mem
  rw [H7 (h.here _ hu.mem)]
  simp [World.frozen?,B6,C,CF,hlt])
theorem Da {w:World} {H:Hp} (h:HpOk H w) (n:Nat):Trk w { w with drawn:=n } H H :=
 ⟨⟨h.far,h.here⟩,rfl,rfl,rfl,fun _ _=>rfl,A6h _,fun _ _ _=>rfl,fun _ h=> .inl h,fun _ h=> .inl h⟩
def Yok (ops:Array Oper) (Y:List (Nat×Nat)):Prop:=∀ j d,(j,d)∈Y→(ops[j]?).bind (·.dst)=some d
def yl:List (Nat×Nat)→Nat→Option Nat
 | [],_=>none
 | (j,d)::Y,i=>bif Nat.beq j i then some d else yl Y i
theorem Li:∀ {Y:List (Nat×Nat)} {i d:Nat},yl Y i=some d→(i,d)∈Y
 | [],_,_,h=>by cases h
 | (j,e)::Y,i,d,h=>by
  unfold yl at h
  cases hb:Nat.beq j i with
  | true=>have:j=i:=A24 hb;grind
  | false=>simp [hb] at h;exact .tail _ (Li h)
def SO [rg:Rg] (P:Program) (n:Nat) (ops:Array Oper) (l:List Oper) (E:Env) (H:Hp) (Q:C5):Prop :=
 ∀ a w,EnvOk E a→a.tmps.size=n→a.defers=rg.ds→HpOk H w→wpList P ops (Up n w H Q) l a w
section
variable {P:Program} {n:Nat} {E:Env} {H:Hp} {Q:C5} {ops:Array Oper} {rest:List Oper}
def Ac0 (l:List Oper) (Y:List (Nat×Nat)):Bool:=Y.all fun p=>(l[p.1]?).bind (·.dst) == some p.2
theorem Ake [rg:Rg] {id:Nat} {l:List Oper} (h:SO P n l.toArray l E H Q):SC P n (.region id l.toArray false) E H Q :=
 fun a w h1 h2 h3 h4=>Ml (h a w h1 h2 h3 h4)
theorem H8 [rg:Rg] {id:Nat} {l:List Oper} (Y:List (Nat×Nat)) (hY:Ac0 l Y=true) (h:∀ ops,Yok ops Y→SO P n ops l E H Q):SC P n (.region id l.toArray false) E H Q:=by
 intro a w h1 h2 h3 h4
 refine Ml (h _ ?_ a w h1 h2 h3 h4)
 intro j d hm
 have:=A4l.1 hY (j,d) hm
 grind
theorem Ad [rg:Rg] {id:Nat} {l:List Oper} (h:∀ ops,SO P n ops l E H Q):SC P n (.region id l.toArray false) E H Q :=
 H8 [] rfl fun ops _=>h ops
theorem Ag [rg:Rg] (h:Q .normal E H):SO P n ops [] E H Q :=
 fun a w h1 h2 h3 h4=>⟨E,H,h1,h2,h3,Trk.refl h4,h⟩
theorem Jm {Q Q':Exit→Act→World→Prop} (hq:∀ e a w,Q e a w→Q' e a w):∀ (l:List Oper) (a:Act) (w:World),wpList P ops Q l a w→wpList P ops Q' l a w
 | [],a,w,h=>hq _ _ _ h
 | o::l,a,w,h=>by
  have ih:=Jm hq l
  simp only [wpList] at h ⊢
  split
  ·rename_i hw
   rw [A6v hw] at h
   refine h.imp (fun h=> ?_) (fun ⟨h1,a0,w0,h2⟩=>⟨h1,a0,w0,hq _ _ _ h2⟩)
   unfold Oper.wp at h ⊢
   generalize (execOp a.eval o).run P w=r at h ⊢
   cases r with
   | ok x w2 =>
    cases x <;> simp only [Oper.upon] at h ⊢
    case value v=>grind
    case skip=>grind
    case defer d=>grind
    case enter f args =>
     refine A6n h fun e w3 he=> ?_
     cases e with
     | returned v=>grind
     | panicked c=>grind
     | outgrown=>exact (let ⟨a0,w0,h0⟩:=he;⟨a0,w0,hq _ _ _ h0⟩)
    case row row args=>exact Rows.mono h fun v w3 he=>ih _ _ he
   | halt x w2=>cases x <;> simp only [Oper.upon] at h ⊢ <;> exact hq _ _ _ h
  grind
theorem Br [rg:Rg] {w w1:World} {H1:Hp} (ht:Trk w w1 H H1) {l:List Oper} {a:Act} {w':World} (h:wpList P ops (Up n w1 H1 Q) l a w'):wpList P ops (Up n w H Q) l a w' :=
 Jm (fun _ _ _ hu=>hu.after ht) l a w' h
def Rd (P:Program) (E:Env) (H:Hp) (op:Op) (v:Value):Prop :=
 ∀ (a:Act) (w:World) (d:Option Tmp) (ty:TypeId) (pos:String) (af:Array Edge) (g:Option (Nat×Bool)),EnvOk E a→HpOk H w→(execOp a.eval ⟨d,op,ty,pos,af,g⟩).run P w= .ok (.value v) w
theorem Ae [rg:Rg] {d:Nat} {op:Op} {ty:TypeId} {pos:String} {af:Array Edge} {v:Value} (hr:Rd P E H op v) (hd:Nat.blt d n=true)
  (k:SO P n ops rest ((d,v)::E) H Q):SO P n ops (⟨some d,op,ty,pos,af,none⟩::rest) E H Q:=by
 intro a w h1 h2 h3 h4
 refine A6f rfl fun K hK=> ?_
 unfold Oper.wp
 rw [hr a w (some d) ty pos af none h1 h4]
 have hlt:d<a.tmps.size:=by rw [h2];simp_all
 exact hK _ _ (k _ w (h1.put hlt) (by simp [Act.put,h2]) h3 h4)
theorem o_g [rg:Rg] {d:Option Tmp} {op:Op} {ty:TypeId} {pos:String} {af:Array Edge} {j dj:Nat} {b:Bool} {Y:List (Nat×Nat)} (y:Yok ops Y) (hj:yl Y j=some dj) (hb:fnd E dj=some (.bool b))
  (k:SO P n ops (⟨d,op,ty,pos,af,none⟩::rest) E H Q):SO P n ops (⟨d,op,ty,pos,af,some (j,b)⟩::rest) E H Q:=by
 intro a w h1 h2 h3 h4
 have hk:=k a w h1 h2 h3 h4
 have hy:=y j dj (Li hj)
 have hv:=h1 dj _ hb
 have hw:Region.wanted ⟨d,op,ty,pos,af,some (j,b)⟩ (yielded ops a.tmps)=true:=by
  have hs:dj<a.tmps.size:=by
   rcases A58 dj a.tmps.size with h | h
   ·exact h
   ·rw [A14,A2n h] at hv;cases hv
  have:a.tmps[dj]? =some (.bool b):=by
   rw [A14] at hv
   rw [A2b hs] at hv ⊢
   grind
  simp [Region.wanted,yielded,hy,this]
 unfold wpList at hk ⊢
 rw [A6v hw]
 have h0:Region.wanted ⟨d,op,ty,pos,af,none⟩ (yielded ops a.tmps)=true:=rfl
 rw [A6v h0] at hk
 exact hk
theorem Atw [rg:Rg] {d:Option Tmp} {op:Op} {ty:TypeId} {pos:String} {af:Array Edge} {j dj:Nat} {b b':Bool} {Y:List (Nat×Nat)} (y:Yok ops Y) (hj:yl Y j=some dj) (hb:fnd E dj=some (.bool b')) (hne:b'= !b)
  (hd:(match d with | some d=>(fnd E d).isNone | none=>true)=true)
  (k:SO P n ops rest E H Q):SO P n ops (⟨d,op,ty,pos,af,some (j,b)⟩::rest) E H Q:=by
 intro a w h1 h2 h3 h4
 have hy:=y j dj (Li hj)
 have hv:=h1 dj _ hb
 have hw:Region.wanted ⟨d,op,ty,pos,af,some (j,b)⟩ (yielded ops a.tmps)=false:=by
  have hs:dj<a.tmps.size:=by
   rcases A58 dj a.tmps.size with h | h
   ·exact h
   ·rw [A14,A2n h] at hv;cases hv
  have:a.tmps[dj]? =some (.bool b'):=by
   rw [A14] at hv
   rw [A2b hs] at hv ⊢
   grind
  subst hne
  cases b <;> simp [Region.wanted,yielded,hy,this]
 unfold wpList
 rw [A6u (by rw [hw];grind)]
 refine k _ w ?_ (by cases d <;> simp [Act.put,h2]) (by cases d <;> simpa [Act.put] using h3) h4
 cases d with
 | none=>exact h1
 | some d =>
  intro i u hu
  have hne:d≠i:=fun e=>by grind
  have:=h1 i u hu
  simp only [Act.put,A14] at *
  rw [A1y hne]
  exact this
end
end
section
section
variable {P:Program} {n:Nat} {E:Env} {H:Hp} {Q:C5} {ops:Array Oper} {rest:List Oper}
theorem Cx {x:Operand} {v:Value} (hx:ev E x=some v):Rd P E H (.move x) v:=fun a w d ty pos af g h1 h2=>by simp [execOp,As h1 hx]
theorem Km {x:Operand} {v:Value} (hx:ev E x=some v):Rd P E H (.assign x) v:=fun a w d ty pos af g h1 h2=>by simp [execOp,As h1 hx]
theorem G2 {x:Operand} {ad:Addr} (hx:ev E x=some (.pointer (some ad))):Rd P E H (.nilCheck x) (.pointer (some ad)) :=
 fun a w d ty pos af g h1 h2=>by simp [execOp,As h1 hx]
theorem An9 {c x y:Operand} {v:Value} (hc:ev E c=some (.bool true)) (hx:ev E x=some v):Rd P E H (.pick c x y) v :=
 fun a w d ty pos af g h1 h2=>by simp [execOp,As h1 hx,As h1 hc,asBool]
theorem Aoa {c x y:Operand} {v:Value} (hc:ev E c=some (.bool false)) (hy:ev E y=some v):Rd P E H (.pick c x y) v :=
 fun a w d ty pos af g h1 h2=>by simp [execOp,As h1 hy,As h1 hc,asBool]
theorem Du {x:Operand} {i:Nat} {vs:Array Value} {v:Value} (hx:ev E x=some (.tuple vs)) (hv:nth vs.toList i=some v):Rd P E H (.extract x i) v :=
 fun a w d ty pos af g h1 h2=>by
  have hv':vs[i]? =some v:=by rw [Dk] at hv;grind
  simp [execOp,As h1 hx,Instr.extract,hv']
def Em (op:BinOp) (k:IntKind) (x y:Int):Int :=
 let a:=BitVec.ofInt k.bits x
 let b:=BitVec.ofInt k.bits y
 k.wrap (match op with | .and=>(a &&& b).toNat | .or=>(a ||| b).toNat | .xor=>(a ^^^ b).toNat | _=>(a &&& ~~~b).toNat)
def A0n (op:BinOp) (k:IntKind) (x y:Int):Option Value :=
 match op with
 | .add=>some (.int k (k.wrap (x+y)))
 | .sub=>some (.int k (k.wrap (x - y)))
 | .mul=>some (.int k (k.wrap (x*y)))
 | .and | .or | .xor | .andNot=>some (.int k (Em op k x y))
 | .eql=>some (.bool (decide (x=y)))
 | .neq=>some (.bool (!decide (x=y)))
 | .lss=>some (.bool (decide (x<y)))
 | .leq=>some (.bool (decide (x≤y)))
 | .gtr=>some (.bool (decide (y<x)))
 | .geq=>some (.bool (decide (y≤x)))
 | _=>none
theorem Au {op:BinOp} {t u:TypeId} {x y:Operand} {k:IntKind} {i j:Int} {v:Value} (hx:ev E x=some (.int k i)) (hy:ev E y=some (.int k j)) (hv:A0n op k i j=some v) :
  Rd P E H (.binOp op t x y u) v:=fun a w d ty pos af g h1 h2=>by
 have e1:=As h1 hx
 have e2:=As h1 hy
 cases op <;> simp only [A0n] at hv <;> cases hv <;>
  simp [execOp,e1,e2,eqGuard,binOp,Op.intArith,Op.intBits,Op.intCmp,Em,BEq.beq,bne]
theorem C0 {x:Int} (h: -9223372036854775808≤x∧x≤9223372036854775807):IntKind.i64.wrap x=x:=IntWalk.i64_in x h
theorem B5 {t u:TypeId} {x y:Operand} {i j:Int} (hx:ev E x=some (.int .i64 i)) (hy:ev E y=some (.int .i64 j)) (hb: -9223372036854775808≤i+j∧i+j≤9223372036854775807) :
  Rd P E H (.binOp .add t x y u) (.int .i64 (i+j)):=by
 have:=Au (P:=P) (H:=H) (op:= .add) (t:=t) (u:=u) hx hy rfl
 rwa [C0 hb] at this
theorem Fw {t u:TypeId} {x y:Operand} {i j:Int} (hx:ev E x=some (.int .i64 i)) (hy:ev E y=some (.int .i64 j)) (hb: -9223372036854775808≤i - j∧i - j≤9223372036854775807) :
  Rd P E H (.binOp .sub t x y u) (.int .i64 (i - j)):=by
 have:=Au (P:=P) (H:=H) (op:= .sub) (t:=t) (u:=u) hx hy rfl
 rwa [C0 hb] at this
theorem Ps {t u:TypeId} {x y:Operand} {i j:Int} (hx:ev E x=some (.int .i64 i)) (hy:ev E y=some (.int .i64 j)) (hb: -9223372036854775808≤i*j∧i*j≤9223372036854775807) :
  Rd P E H (.binOp .mul t x y u) (.int .i64 (i*j)):=by
 have:=Au (P:=P) (H:=H) (op:= .mul) (t:=t) (u:=u) hx hy rfl
 rwa [C0 hb] at this
theorem Aai {t u:TypeId} {x y:Operand} {k k':IntKind} {i j:Int} (hx:ev E x=some (.int k i)) (hy:ev E y=some (.int k' j)) (hj:0≤j) :
  Rd P E H (.binOp .shl t x y u) (.int k (k.wrap (i*2 ^ (min j.toNat k.bits)))):=fun a w d ty pos af g h1 h2=>by
 simp [execOp,As h1 hx,As h1 hy,eqGuard,binOp,Op.shift];omega
theorem I8 {t u:TypeId} {x y:Operand} {k k':IntKind} {i j:Int} (hx:ev E x=some (.int k i)) (hy:ev E y=some (.int k' j)) (hj:0≤j) :
  Rd P E H (.binOp .shr t x y u) (.int k (i.fdiv (2 ^ (min j.toNat k.bits)))):=fun a w d ty pos af g h1 h2=>by
 simp [execOp,As h1 hx,As h1 hy,eqGuard,binOp,Op.shift];omega
theorem Aob {t u:TypeId} {x y:Operand} {k:IntKind} {i j:Int} (hx:ev E x=some (.int k i)) (hy:ev E y=some (.int k j)) (hj:j≠0) :
  Rd P E H (.binOp .quo t x y u) (.int k (k.wrap (i.tdiv j))):=fun a w d ty pos af g h1 h2=>by
 simp [execOp,As h1 hx,As h1 hy,eqGuard,binOp,Op.intDiv,hj]
theorem Ax9 {t u:TypeId} {x y:Operand} {k:IntKind} {i j:Int} (hx:ev E x=some (.int k i)) (hy:ev E y=some (.int k j)) (hj:j≠0) :
  Rd P E H (.binOp .rem t x y u) (.int k (i.tmod j)):=fun a w d ty pos af g h1 h2=>by
 simp [execOp,As h1 hx,As h1 hy,eqGuard,binOp,Op.intDiv,hj]
theorem Tr {t:TypeId} {x y:Value} {r:Bool} {w:World} (hg:∀ a b,eqGuard .eql t a b x y=pure ()) (hb:binOp .eql t x y=(do pure (.bool (← Op.equal t x y))))
  (he:(Op.equal t x y).run P w= .ok r w) {a:Act} {p q:Operand} (hp:a.eval p=x) (hq:a.eval q=y) (d:Option Tmp) (ty:TypeId) (pos:String) (af:Array Edge) (g:Option (Nat×Bool)) (u:TypeId) :
  (execOp a.eval ⟨d,.binOp .eql t p q u,ty,pos,af,g⟩).run P w= .ok (.value (.bool r)) w:=by
 simp only [execOp,hp,hq,hg,hb,Sem.run_bind,Sem.run_pure,A4g,he]
theorem Ah5 {t:TypeId} {x y:Value} {r:Bool} {w:World} (hg:∀ a b,eqGuard .neq t a b x y=pure ()) (hb:binOp .neq t x y=(do pure (.bool (!(← Op.equal t x y)))))
  (he:(Op.equal t x y).run P w= .ok r w) {a:Act} {p q:Operand} (hp:a.eval p=x) (hq:a.eval q=y) (d:Option Tmp) (ty:TypeId) (pos:String) (af:Array Edge) (g:Option (Nat×Bool)) (u:TypeId) :
  (execOp a.eval ⟨d,.binOp .neq t p q u,ty,pos,af,g⟩).run P w= .ok (.value (.bool (!r))) w:=by
 simp only [execOp,hp,hq,hg,hb,Sem.run_bind,Sem.run_pure,A4g,he]
theorem Pt {t:TypeId} [ht:Und P t .bool] (m:Nat) (b c:Bool) (w:World):(Op.equalIn (m+1) t (.bool b) (.bool c)).run P w= .ok (b == c) w:=by
 simp only [Op.equalIn,Sem.run_bind,A5r ht.eq,A4g,Sem.run_pure]
theorem U3 {t:TypeId} [ht:Und P t .bool] (b c:Bool) (w:World):(Op.equal t (.bool b) (.bool c)).run P w= .ok (b == c) w:=Pt 9999 b c w
theorem Ac7 {t e:TypeId} [ht:Und P t (.pointer e)] (m:Nat) (p:Option Addr) (w:World):(Op.equalIn (m+1) t (.pointer p) (.pointer none)).run P w= .ok p.isNone w:=by
 cases p <;> simp only [Op.equalIn,Sem.run_bind,A5r ht.eq,A4g,Sem.run_pure,Option.isNone]
theorem Yd {t e:TypeId} [ht:Und P t (.pointer e)] (p:Option Addr) (w:World):(Op.equal t (.pointer p) (.pointer none)).run P w= .ok p.isNone w:=Ac7 9999 p w
theorem Aaj {t e:TypeId} [ht:Und P t (.slice e)] (m:Nat) (p:Option Addr) (l c:Nat) (w:World):(Op.equalIn (m+1) t (.slice p l c) (.slice none 0 0)).run P w= .ok p.isNone w:=by
 cases p <;> simp only [Op.equalIn,Sem.run_bind,A5r ht.eq,A4g,Sem.run_pure,Option.isNone]
theorem Aft {t e:TypeId} [ht:Und P t (.slice e)] (p:Option Addr) (l c:Nat) (w:World):(Op.equal t (.slice p l c) (.slice none 0 0)).run P w= .ok p.isNone w:=Aaj 9999 p l c w
theorem Aya {t u:TypeId} {x y:Operand} {b c:Bool} [ht:Und P t .bool] (hx:ev E x=some (.bool b)) (hy:ev E y=some (.bool c)):Rd P E H (.binOp .eql t x y u) (.bool (b == c)) :=
 fun a w d ty pos af g h1 h2=>Tr (fun _ _=>rfl) rfl (U3 b c w) (As h1 hx) (As h1 hy) d ty pos af g u
theorem Afu {t u:TypeId} {x y:Operand} {b c:Bool} [ht:Und P t .bool] (hx:ev E x=some (.bool b)) (hy:ev E y=some (.bool c)):Rd P E H (.binOp .neq t x y u) (.bool (!(b == c))) :=
 fun a w d ty pos af g h1 h2=>Ah5 (fun _ _=>rfl) rfl (U3 b c w) (As h1 hx) (As h1 hy) d ty pos af g u
theorem Aoc {t u e:TypeId} {x y:Operand} {p:Option Addr} [ht:Und P t (.pointer e)] (hx:ev E x=some (.pointer p)) (hy:ev E y=some (.pointer none)):Rd P E H (.binOp .eql t x y u) (.bool p.isNone) :=
 fun a w d ty pos af g h1 h2=>Tr (fun _ _=>rfl) rfl (Yd p w) (As h1 hx) (As h1 hy) d ty pos af g u
theorem Ac8 {t u e:TypeId} {x y:Operand} {p:Option Addr} [ht:Und P t (.pointer e)] (hx:ev E x=some (.pointer p)) (hy:ev E y=some (.pointer none)):Rd P E H (.binOp .neq t x y u) (.bool (!p.isNone)) :=
 fun a w d ty pos af g h1 h2=>Ah5 (fun _ _=>rfl) rfl (Yd p w) (As h1 hx) (As h1 hy) d ty pos af g u
theorem Ye {t u e:TypeId} {x y:Operand} {p:Option Addr} {l c:Nat} [ht:Und P t (.slice e)] (hx:ev E x=some (.slice p l c)) (hy:ev E y=some (.slice none 0 0)):Rd P E H (.binOp .eql t x y u) (.bool p.isNone) :=
 fun a w d ty pos af g h1 h2=>Tr (fun _ _=>rfl) rfl (Aft p l c w) (As h1 hx) (As h1 hy) d ty pos af g u
theorem D5 {t:TypeId} {x:Operand} {b:Bool} (hx:ev E x=some (.bool b)):Rd P E H (.unOp .not t x) (.bool !b):=fun a w d ty pos af g h1 h2=>by simp [execOp,As h1 hx,Op.unary]
theorem Ayb {t:TypeId} {x:Operand} {k:IntKind} {i:Int} (hx:ev E x=some (.int k i)):Rd P E H (.unOp .neg t x) (.int k (k.wrap (0 - i))):=fun a w d ty pos af g h1 h2=>by simp [execOp,As h1 hx,Op.unary,Op.intArith]
theorem Ac9 {t:TypeId} {x:Operand} {k:IntKind} {i:Int} (hx:ev E x=some (.int k i)):Rd P E H (.unOp .xor t x) (.int k (Em .xor k (if k.signed then -1 else k.max) i)):=fun a w d ty pos af g h1 h2=>by simp [execOp,As h1 hx,Op.unary,Op.intBits,Em]
theorem Dv {s t:TypeId} {x:Operand} {ds:TypeDesc} {k k':IntKind} {i:Int} [hs:Und P s ds] [ht:Und P t (.int k)] (hx:ev E x=some (.int k' i)):Rd P E H (.convert s t x) (.int k (k.wrap i)) :=
 fun a w d ty pos af g h1 h2=>by
  simp only [execOp,As h1 hx,convert,Sem.run_bind,A5r hs.eq,A5r ht.eq]
  cases ds <;> simp [Conv.intToInt]
theorem B8 (b o i:Nat):(⟨b,o,none⟩:Addr).add i=⟨b,o+i,none⟩:=by unfold Addr.add;split <;> simp_all
class Fld (P:Program) (s:TypeId) (f:Nat) (o:outParam Nat):Prop where
 eq:∃ fs fl m,P.underlying s=some (.struct fs)∧fs[f]? =some fl∧(P.info? fl.type).map (·.size)=some (m+1)∧fl.offset=o
theorem Cr {s:TypeId} {x:Operand} {f:Nat} {b o q:Nat} [hs:Fld P s f q] (hx:ev E x=some (.pointer (some ⟨b,o,none⟩))):Rd P E H (.fieldAddr s x f) (.pointer (some ⟨b,o+q,none⟩)) :=
 fun a w d ty pos af g h1 h2=>by
  obtain ⟨fs,fl,m,hu,hf,h3,rfl⟩:=hs.eq
  have i2:Siz P fl.type (m+1):=⟨h3⟩
  simp [execOp,As h1 hx,Instr.fieldAt,A5r hu,hf,Instr.sureAddr,fieldPlace,Bd,B8]
theorem G3 {t e:TypeId} {x y:Operand} {b o l sz:Nat} {k:IntKind} {i:Int} [ht:Und P t (.array l e)] [hz:Siz P e sz] (hx:ev E x=some (.pointer (some ⟨b,o,none⟩))) (hy:ev E y=some (.int k i))
  (hi:0≤i∧i<l):Rd P E H (.indexAddr t x y) (.pointer (some ⟨b,o+i.toNat*sz,none⟩)) :=
 fun a w d ty pos af g h1 h2=>by
  simp [execOp,As h1 hx,As h1 hy,Instr.indexAt,asIntOf,A5r ht.eq,Instr.sureAddr,hi,Bd,B8]
theorem Aak {t e:TypeId} {x y:Operand} {b o l c sz:Nat} {k:IntKind} {i:Int} [ht:Und P t (.slice e)] [hz:Siz P e sz] (hx:ev E x=some (.slice (some ⟨b,o,none⟩) l c)) (hy:ev E y=some (.int k i))
  (hi:0≤i∧i<l):Rd P E H (.indexAddr t x y) (.pointer (some ⟨b,o+i.toNat*sz,none⟩)) :=
 fun a w d ty pos af g h1 h2=>by
  simp [execOp,As h1 hx,As h1 hy,Instr.indexAt,asIntOf,A5r ht.eq,hi,Bd,B8]
theorem Aod {t e:TypeId} {x y:Operand} {l sz:Nat} {k:IntKind} {i:Int} {cs:Array Value} {v:Value} [ht:Und P t (.array l e)] [hz:Siz P e sz] [he:Agg P e false] (hx:ev E x=some (.agg cs)) (hy:ev E y=some (.int k i))
  (hi:0≤i∧i<l) (hv:nth cs.toList (i.toNat*sz)=some v):Rd P E H (.index t x y) v :=
 fun a w d ty pos af g h1 h2=>by
  have hv':cs[i.toNat*sz]? =some v:=by rw [Dk] at hv;grind
  simp [execOp,As h1 hx,As h1 hy,Instr.index,asIntOf,A5r ht.eq,hi,Bd,part,Hr,hv']
theorem I9 {w:World} {b:Nat} {cs:List Value} {T:TypeId} {fr:Nat×Nat} (h:w.heap[b]? =some (CF cs T fr)) (o:Nat):w.cell? ⟨b,o,none⟩=nth cs o:=by
 simp [World.cell?,h,CF,Dk]
theorem Al {t:TypeId} {x:Operand} {b o:Nat} {r:Bool} {cs:List Value} {T:TypeId} {fr:Nat×Nat} {v:Value} [ht:Agg P t false] (hx:ev E x=some (.pointer (some ⟨b,o,none⟩)))
  (hm:(b,r,CF cs T fr)∈H) (hv:nth cs o=some v):Rd P E H (.load t x) v :=
 fun a w d ty pos af g h1 h2=>by
  simp [execOp,As h1 hx,Instr.loadAt,Instr.sureAddr,loadVar,Hr,I9 (h2.here _ hm),hv]
theorem Yf {t:TypeId} {b o sz:Nat} {cs vs:List Value} {T:TypeId} {fr:Nat×Nat} {w:World} [ht:Agg P t true] [hz:Siz P t sz] (hh:w.heap[b]? =some (CF cs T fr)) (hv:cut cs o sz=some vs) :
  (loadVar t ⟨b,o,none⟩).run P w= .ok (.agg vs.toArray) w:=by
 obtain ⟨h3,h4,h5⟩:=Ht cs o sz vs hv
 have hl:(loadCells ⟨b,o,none⟩ vs.length).run P w= .ok vs.toArray w:=A31 (P:=P) w ⟨b,o,none⟩ vs (fun j u hu=>by
  rw [B8,I9 hh,Dk]
  grind)
 rw [h5] at hl
 simp [loadVar,Hr,Bd,hl]
theorem Ao {t:TypeId} {x:Operand} {b o sz:Nat} {r:Bool} {cs vs:List Value} {T:TypeId} {fr:Nat×Nat} [ht:Agg P t true] [hz:Siz P t sz] (hx:ev E x=some (.pointer (some ⟨b,o,none⟩)))
  (hm:(b,r,CF cs T fr)∈H) (hv:cut cs o sz=some vs):Rd P E H (.load t x) (.agg vs.toArray) :=
 fun a w d ty pos af g h1 h2=>by
  simp [execOp,As h1 hx,Instr.loadAt,Instr.sureAddr,Yf (h2.here _ hm) hv]
class FldT (P:Program) (s:TypeId) (f:Nat) (o:outParam Nat) (ft:outParam TypeId):Prop where
 eq:∃ fs fl,P.underlying s=some (.struct fs)∧fs[f]? =some fl∧fl.offset=o∧fl.type=ft
theorem Ayc {t:TypeId} {x:Operand} {f o:Nat} {ft:TypeId} {cs:Array Value} {v:Value} [ht:FldT P t f o ft] [hd:Agg P ft false] (hx:ev E x=some (.agg cs)) (hv:nth cs.toList o=some v):Rd P E H (.field t x f) v :=
 fun a w d ty pos af g h1 h2=>by
  obtain ⟨fs,fl,hu,hf,rfl,rfl⟩:=ht.eq
  have hv':cs[fl.offset]? =some v:=by rw [Dk] at hv;grind
  simp [execOp,As h1 hx,Instr.field,A5r hu,hf,asAgg,part,Hr,hv']
theorem At2 {t:TypeId} {x:Operand} {f o sz:Nat} {ft:TypeId} {cs:Array Value} {vs:List Value} [ht:FldT P t f o ft] [hd:Agg P ft true] [hz:Siz P ft sz] (hx:ev E x=some (.agg cs)) (hv:cut cs.toList o sz=some vs):Rd P E H (.field t x f) (.agg vs.toArray) :=
 fun a w d ty pos af g h1 h2=>by
  obtain ⟨fs,fl,hu,hf,rfl,rfl⟩:=ht.eq
  obtain ⟨h3,h4,h5⟩:=Ht cs.toList fl.offset sz vs hv
  have e:cs.extract fl.offset (fl.offset+sz)=vs.toArray:=by
   grind
  simp [execOp,As h1 hx,Instr.field,A5r hu,hf,asAgg,part,Hr,Bd,e]
theorem Bs (a:Act) (b:Builtin) (args:Array Operand) (ats:Array TypeId) (ty:TypeId) (w:World) :
  (resolve a.eval ⟨.builtin b,args,ats⟩ ty).run P w= .ok { target:= .builtin b ats ty (args.map fun | .const _=>true | _=>false),args:=args.map a.eval } w:=rfl
theorem H3 {x:Operand} {t e:TypeId} {p:Option Addr} {l c:Nat} [ht:Und P t (.slice e)] (hx:ev E x=some (.slice p l c)):Rd P E H (.call ⟨.builtin .len,#[x],#[t]⟩) (.int .i64 l) :=
 fun a w d ty pos af g h1 h2=>by simp [execOp,Bs,As h1 hx,invoke,builtin,Builtin.len_,A5r ht.eq,goInt]
theorem Ms {x y:Operand} {k k':IntKind} {i j:Int} {ts:Array TypeId} (hx:ev E x=some (.int k i)) (hy:ev E y=some (.int k' j)):Rd P E H (.call ⟨.builtin .max,#[x,y],ts⟩) (.int k (max i j)) :=
 fun a w d ty pos af g h1 h2=>by
  have:(if i<j then j else i)=max i j:=by omega
  simp [execOp,Bs,As h1 hx,As h1 hy,invoke,builtin,Builtin.max_,Builtin.max2];omega
theorem Aal {x y:Operand} {k k':IntKind} {i j:Int} {ts:Array TypeId} (hx:ev E x=some (.int k i)) (hy:ev E y=some (.int k' j)):Rd P E H (.call ⟨.builtin .min,#[x,y],ts⟩) (.int k (min i j)) :=
 fun a w d ty pos af g h1 h2=>by
  simp [execOp,Bs,As h1 hx,As h1 hy,invoke,builtin,Builtin.min_,Builtin.min2];omega
theorem Gq {k:IntKind} {i:Int} {m:Nat} {c:BoundsCode} {w:World} (h:0≤i∧i≤m):(Instr.sliceBound (.int k i) m c).run P w= .ok i.toNat w:=by
 simp [Instr.sliceBound,asIntOf,h]
theorem Ol {t e:TypeId} {x lo:Operand} {p:Option Addr} {l c sz:Nat} {k:IntKind} {i:Int} [ht:Und P t (.slice e)] [hz:Siz P e sz] (hx:ev E x=some (.slice p l c))
  (hlo:ev E lo=some (.int k i)) (hb:0≤i∧i≤l) :
  Rd P E H (.slice t x (some lo) none none) (.slice (if c=i.toNat then p else p.map (·.add (i.toNat*sz))) (l - i.toNat) (c - i.toNat)) :=
 fun a w d ty pos af g h1 h2=>by
  simp [execOp,As h1 hx,As h1 hlo,Instr.sliceAt,Instr.slice,A5r ht.eq,Instr.sliceBounds,Gq hb,Bd]
theorem Afv {t e:TypeId} {x hi:Operand} {p:Option Addr} {l c sz:Nat} {k:IntKind} {j:Int} [ht:Und P t (.slice e)] [hz:Siz P e sz] (hx:ev E x=some (.slice p l c))
  (hhi:ev E hi=some (.int k j)) (hb:0≤j∧j≤c) :
  Rd P E H (.slice t x none (some hi) none) (.slice p j.toNat c) :=
 fun a w d ty pos af g h1 h2=>by
  cases p <;> simp [execOp,As h1 hx,As h1 hhi,Instr.sliceAt,Instr.slice,A5r ht.eq,Instr.sliceBounds,Gq hb,Bd,B8,Addr.add]
theorem C1 {t e:TypeId} {x:Operand} {lo hi:Option Operand} {b o l sz:Nat} {i j:Nat} [ht:Und P t (.array l e)] [hz:Siz P e sz] (hx:ev E x=some (.pointer (some ⟨b,o,none⟩)))
  (hlo:match lo with | some y=>∃ k,ev E y=some (.int k (i:Int)) | none=>i=0) (hhi:match hi with | some y=>∃ k,ev E y=some (.int k (j:Int)) | none=>j=l) (hb:i≤j∧j≤l∧i<l) :
  Rd P E H (.slice t x lo hi none) (.slice (some ⟨b,o+i*sz,none⟩) (j - i) (l - i)) :=
 fun a w d ty pos af g h1 h2=>by
  have e3:¬ l=i:=by omega
  have e1:(i:Int)≤(j:Int):=by omega
  have e2:(j:Int)≤(l:Int):=by omega
  cases lo <;> cases hi <;> simp only at hlo hhi
  ·subst hlo hhi
   simp [execOp,As h1 hx,Instr.sliceAt,A5r ht.eq,Instr.sliceBounds,Instr.sureAddr,Bd,B8,e3]
  ·obtain ⟨k,hhi⟩:=hhi;subst hlo
   simp [execOp,As h1 hx,As h1 hhi,Instr.sliceAt,A5r ht.eq,Instr.sliceBounds,Gq (And.intro (A3t j) e2),Instr.sureAddr,Bd,B8,e3]
  ·obtain ⟨k,hlo⟩:=hlo;subst hhi
   simp [execOp,As h1 hx,As h1 hlo,Instr.sliceAt,A5r ht.eq,Instr.sliceBounds,Gq (And.intro (A3t i) e1),Instr.sureAddr,Bd,B8,e3]
  ·obtain ⟨k,hlo⟩:=hlo;obtain ⟨k',hhi⟩:=hhi
   simp [execOp,As h1 hx,As h1 hlo,As h1 hhi,Instr.sliceAt,A5r ht.eq,Instr.sliceBounds,Gq (And.intro (A3t j) e2),Gq (And.intro (A3t i) e1),Instr.sureAddr,Bd,B8,e3]
def evs (E:Env):List (Nat×Operand)→Option (List (Nat×Value))
 | []=>some []
 | (i,x)::l=>match ev E x with | some v=>(match evs E l with | some r=>some ((i,v)::r) | none=>none) | none=>none
theorem Om {a:Act} (h:EnvOk E a):∀ {l:List (Nat×Operand)} {r:List (Nat×Value)},evs E l=some r→l.map (fun (i,x)=>(i,a.eval x))=r
 | [],r,hr=>by simp [evs] at hr;simp [hr]
 | (i,x)::l,r,hr=>by
  simp only [evs] at hr
  cases hx:ev E x with
  | none=>grind
  | some v =>
   cases hl:evs E l with
   | none=>grind
   | some r'=>simp [hx,hl] at hr;subst hr;simp [As h hx,Om h hl]
def Blt (P:Program) (t:TypeId) (ps:List (Nat×Value)) (cs:List Value):Prop:=∀ w,(Instr.build t ps.toArray).run P w= .ok (.agg cs.toArray) w
theorem Ada {t:TypeId} {ps:List (Nat×Operand)} {vs:List (Nat×Value)} {cs:List Value} (hv:evs E ps=some vs) (hb:Blt P t vs cs):Rd P E H (.build t ps.toArray) (.agg cs.toArray) :=
 fun a w d ty pos af g h1 h2=>by
  have:=Om h1 hv
  have e:(ps.toArray.map fun x=>(x.1,a.eval x.2))=vs.toArray:=by rw [← this];simp
  simp only [execOp,Sem.run_bind]
  have e2:(ps.toArray.map fun (i,x)=>(i,a.eval x))=vs.toArray:=e
  rw [e2,hb w];rfl
theorem Pu {f:FuncId} {cap:List Operand} {vs:List (Nat×Value)} (hv:evs E (cap.map (fun x=>(0,x)))=some vs):Rd P E H (.makeFunc (.func f) #[] cap.toArray) (.func (.func f) #[] (vs.map (·.2)).toArray) :=
 fun a w d ty pos af g h1 h2=>by
  have:=Om h1 hv
  have e:(cap.map a.eval)=vs.map (·.2):=by rw [← this];simp
  simp [execOp,Instr.makeFunc,e]
theorem Ah [rg:Rg] {d:Nat} {t:TypeId} {ty:TypeId} {pos:String} {af:Array Edge} {cs:List Value} [hz:Zer P t cs] (hd:Nat.blt d n=true)
  (k:∀ b,SO P n ops rest ((d,.pointer (some ⟨b,0,none⟩))::E) ((b,true,C cs t)::H) Q):SO P n ops (⟨some d,.alloc t,ty,pos,af,none⟩::rest) E H Q:=by
 intro a w h1 h2 h3 h4
 refine A6f rfl fun K hK=> ?_
 obtain ⟨v,hv,hc⟩:=Ee (P:=P) (t:=t) w
 have hrun:(execOp a.eval ⟨some d,.alloc t,ty,pos,af,none⟩).run P w= .ok (.value (.pointer (some ⟨w.heap.size,0,none⟩))) { w with heap:=w.heap.push (C cs t) }:=by
  simp [execOp,Instr.alloc,hv,newVar,newRow,hc,C,CF]
 unfold Oper.wp
 rw [hrun]
 have hlt:d<a.tmps.size:=by rw [h2];simp_all
 have ht:=I5 (cs:=cs) (T:=t) h4
 exact hK _ _ (Br ht (k _ _ _ (h1.put hlt) (by simp [Act.put,h2]) h3 ht.ok))
theorem Cy [rg:Rg] {d:Nat} {t:TypeId} {x:Operand} {ty:TypeId} {pos:String} {af:Array Edge} {v:Value} (hx:ev E x=some v) (hd:Nat.blt d n=true)
  (k:∀ b,SO P n ops rest ((d,.pointer (some ⟨b,0,none⟩))::E) ((b,true,C v.cells.toList t)::H) Q):SO P n ops (⟨some d,.box t x,ty,pos,af,none⟩::rest) E H Q:=by
 intro a w h1 h2 h3 h4
 refine A6f rfl fun K hK=> ?_
 have hrun:(execOp a.eval ⟨some d,.box t x,ty,pos,af,none⟩).run P w= .ok (.value (.pointer (some ⟨w.heap.size,0,none⟩))) { w with heap:=w.heap.push (C v.cells.toList t) }:=by
  simp [execOp,Instr.box,As h1 hx,newVar,newRow,C,CF]
 unfold Oper.wp
 rw [hrun]
 have hlt:d<a.tmps.size:=by rw [h2];simp_all
 have ht:=I5 (cs:=v.cells.toList) (T:=t) h4
 exact hK _ _ (Br ht (k _ _ _ (h1.put hlt) (by simp [Act.put,h2]) h3 ht.ok))
theorem J0 (w:World) (b:Nat) (cs:List Value) {old:List Value} {T:TypeId} (h:w.heap[b]? =some (C old T)):w.setRow b cs.toArray=B6 w b (C cs T):=by
 unfold World.setRow B6
 congr 1
 apply A3n
 intro i
 rw [A2t,A12]
 split
 ·rename_i e;subst e;rw [h];simp [C,CF,(Array.getElem?_eq_some_iff.1 h).1]
 ·rfl
theorem Akm {t:TypeId} {b o:Nat} {v:Value} {cs cs' vs:List Value} {T:TypeId} {w:World} (hh:w.heap[b]? =some (C cs T)) (hv:Ih v=some vs) {m:Nat} [hz:Siz P t m] (hm:vs.length=m) (hs:A7 cs o vs=some cs') :
  (storeVar t ⟨b,o,none⟩ v).run P w= .ok () (B6 w b (C cs' T)):=by
 obtain ⟨h1,h2⟩:=Hu cs o vs cs' hs
 obtain ⟨h3,h4⟩:=X6 hv
 have:=run_storeCells_at P b o T vs 0 cs.toArray w hh (by omega) h4
 subst hm
 simp only [storeVar,Sem.run_bind,Bd,h3]
 simp [this]
 rw [← J0 w b cs' hh,h1]
 simp
theorem Ac [rg:Rg] {t:TypeId} {x y:Operand} {ty:TypeId} {pos:String} {af:Array Edge} {b o:Nat} {v:Value} {vs cs cs':List Value} {T:TypeId} {H':Hp}
  (hx:ev E x=some (.pointer (some ⟨b,o,none⟩))) (hy:ev E y=some v) (hu:Upd b (C cs T) (C cs' T) H H') (hv:Ih v=some vs) {m:Nat} [hz:Siz P t m] (hm:vs.length=m) (hs:A7 cs o vs=some cs')
  (k:SO P n ops rest E H' Q):SO P n ops (⟨none,.store t x y,ty,pos,af,none⟩::rest) E H Q:=by
 intro a w h1 h2 h3 h4
 refine A6f rfl fun K hK=> ?_
 have hrun:(execOp a.eval ⟨none,.store t x y,ty,pos,af,none⟩).run P w= .ok .skip (B6 w b (C cs' T)):=by
  simp [execOp,As h1 hx,As h1 hy,Instr.storeAt,Instr.sureAddr,Akm (h4.here _ hu.mem) hv hm hs]
 unfold Oper.wp
 rw [hrun]
 have ht:=Pq h4 hu
 exact hK _ _ (Br ht (k _ _ h1 h2 h3 ht.ok))
theorem Aoe [rg:Rg] {d:Nat} {t e:TypeId} {l sz:Nat} {ps:List (Nat×Operand)} {ty:TypeId} {pos:String} {af:Array Edge} {vs:List (Nat×Value)} {cs:List Value} [ht:Und P t (.slice e)] (hv:evs E ps=some vs)
  (hb:∀ w,(Instr.buildSlice t l vs.toArray).run P w= .ok (.slice (some ⟨w.heap.size,0,none⟩) l l) { w with heap:=w.heap.push (C cs e) }) (hd:Nat.blt d n=true)
  (k:∀ b,SO P n ops rest ((d,.slice (some ⟨b,0,none⟩) l l)::E) ((b,true,C cs e)::H) Q):SO P n ops (⟨some d,.buildSlice t l ps.toArray,ty,pos,af,none⟩::rest) E H Q:=by
 intro a w h1 h2 h3 h4
 refine A6f rfl fun K hK=> ?_
 have hrun:(execOp a.eval ⟨some d,.buildSlice t l ps.toArray,ty,pos,af,none⟩).run P w= .ok (.value (.slice (some ⟨w.heap.size,0,none⟩) l l)) { w with heap:=w.heap.push (C cs e) }:=by
  have:=Om h1 hv
  have e2:(ps.toArray.map fun (i,x)=>(i,a.eval x))=vs.toArray:=by rw [← this];simp
  simp only [execOp,Sem.run_bind]
  rw [e2,hb w];rfl
 unfold Oper.wp
 rw [hrun]
 have hlt:d<a.tmps.size:=by rw [h2];simp_all
 have ht:=I5 (cs:=cs) (T:=e) h4
 exact hK _ _ (Br ht (k _ _ _ (h1.put hlt) (by simp [Act.put,h2]) h3 ht.ok))
def evl (E:Env):List Operand→Option (List Value)
 | []=>some []
 | x::l=>match ev E x with | some v=>(match evl E l with | some r=>some (v::r) | none=>none) | none=>none
theorem Aam {a:Act} (h:EnvOk E a):∀ {l:List Operand} {r:List Value},evl E l=some r→l.map a.eval=r
 | [],r,hr=>by simp [evl] at hr;simp [hr]
 | x::l,r,hr=>by
  simp only [evl] at hr
  cases hx:ev E x with
  | none=>grind
  | some v =>
   cases hl:evl E l with
   | none=>grind
   | some r'=>simp [hx,hl] at hr;subst hr;simp [As h hx,Aam h hl]
class Ent (P:Program) (f:FuncId):Prop where eq:∀ args w,(callFunc f args).run P w= .ok (.enter f args) w
theorem Aof [rg:Rg] {d:Option Nat} {f:FuncId} {xs:List Operand} {ts:Array TypeId} {ty:TypeId} {pos:String} {af:Array Edge} {args:List Value} {L F:Hp} {R:Value→Hp→Prop}
  (hx:evl E xs=some args) (hf:Does P f args L R) (hs:Split H L F) (hd:(match d with | some d=>Nat.blt d n | none=>true)=true)
  (k:∀ v L',R v L'→SO P n ops rest (match d with | some d=>(d,v)::E | none=>E) (L'++F) Q) (he:Ent P f:=by first | infer_instance | exact ⟨fun _ _=>by kernel_rfl⟩):SO P n ops (⟨d,.call ⟨.value (.func f),xs.toArray,ts⟩,ty,pos,af,none⟩::rest) E H Q:=by
 intro a w h1 h2 h3 h4
 refine A6f rfl fun K hK=> ?_
 have hrun:(execOp a.eval ⟨d,.call ⟨.value (.func f),xs.toArray,ts⟩,ty,pos,af,none⟩).run P w= .ok (.enter f args.toArray) w:=by
  have e:=Aam h1 hx
  have e2:xs.toArray.map a.eval=args.toArray:=by rw [← e];simp
  simp only [execOp,resolve,Act.eval,Sem.run_bind,Deferred.ofValue,Sem.run_pure,A4g,invoke]
  rw [e2]
  simpa using he.eq args.toArray w
 unfold Oper.wp
 rw [hrun,Oper.upon_enter]
 have hp:=hs.perm
 have hok:=h4.perm hp
 refine (hf w hok.left).mono ?_
 rintro e w' ⟨v,L',rfl,hR,ht⟩
 have ht':Trk w w' H (L'++F):=(ht.frame hok).perm_left hp.symm
 have hk:=k v L' hR
 refine hK _ _ (Br ht' ?_)
 cases d with
 | none=>exact hk _ _ h1 h2 h3 ht'.ok
 | some d =>
  have hlt:d<a.tmps.size:=by rw [h2];exact A25 hd
  exact hk _ _ (h1.put hlt) (by simp [Act.put,h2]) h3 ht'.ok
end
end
section
section
variable {P:Program} {n:Nat} {E:Env} {H:Hp} {Q:C5} {ops:Array Oper} {rest:List Oper}
def fresh (E:Env):Option Tmp→Bool
  | some d=>(fnd E d).isNone
  | none=>true
theorem EnvOk.fresh {a:Act} (h:EnvOk E a) {d:Option Tmp} (hd:fresh E d=true) (v:Value):EnvOk E (a.put d v):=by
  cases d with
  | none=>exact h
  | some d =>
    intro i u hu
    have hne:d≠i:=fun e=>by subst e;simp [Go.K.fresh,hu] at hd
    have:=h i u hu
    simp only [Act.put,A14] at *
    rw [A1y hne]
    exact this
theorem Lm {o:Oper} {a:Act} {w:World} {K K':Act→World→Prop} {q q':Exit→Act→World→Prop}
    (hk:∀ v w',K (a.put o.dst v) w'→K' (a.put o.dst v) w') (hd:∀ d w',K ({ a with defers:=d::a.defers }.put o.dst undef) w'→K' ({ a with defers:=d::a.defers }.put o.dst undef) w')
    (hq:∀ e a w,e≠.normal→q e a w→q' e a w) (h:o.wp P a w K q):o.wp P a w K' q':=by
  unfold Oper.wp at *
  generalize (execOp a.eval o).run P w=r at *
  cases r with
  | ok x w2 =>
    cases x <;> simp only [Oper.upon] at h ⊢
    case value v=>grind
    case skip=>grind
    case defer d=>grind
    case enter f args =>
      refine A6n h fun e w3 he=> ?_
      cases e with
      | returned v=>grind
      | panicked c=>grind
      | outgrown=>exact (let ⟨a0,w0,h0⟩:=he;⟨a0,w0,hq _ _ _ (fun e=>nomatch e) h0⟩)
    case row row args=>exact Rows.mono h fun v w3 he=>hk _ _ he
  | halt x w2=>cases x <;> simp only [Oper.upon] at h ⊢ <;> exact hq _ _ _ (fun e=>nomatch e) h
def A0r (E:Env) (Q:Exit→Act→World→Prop):Exit→Act→World→Prop
  | .normal,a,w=>Q .normal a w∧EnvOk E a
  | e,a,w=>Q e a w
theorem Pv {E0:Env} {q:Exit→Act→World→Prop}:∀ (l:List Oper) (a:Act) (w:World),(l.all fun o=>fresh E0 o.dst)=true→EnvOk E0 a→wpList P ops q l a w→wpList P ops (A0r E0 q) l a w
  | [],a,w,_,h1,h=>⟨h,h1⟩
  | o::l,a,w,hf,h1,h=>by
    simp only [A5w,A4k] at hf
    have ih:=Pv (E0:=E0) (q:=q) l
    have hq:∀ e a w,q e a w→(e= .normal→EnvOk E0 a)→A0r E0 q e a w:=fun e a w hh hn=>by cases e <;> first | exact ⟨hh,hn rfl⟩ | exact hh
    simp only [wpList] at h ⊢
    split
    · rename_i hw
      rw [A6v hw] at h
      rcases h with h | ⟨h2,a0,w0,h3⟩
      · left
        unfold Oper.wp at *
        generalize (execOp a.eval o).run P w=r at *
        cases r with
        | ok x w2 =>
          cases x <;> simp only [Oper.upon] at h ⊢
          case value v=>exact ih _ _ hf.2 (h1.fresh hf.1 v) h
          case skip=>exact ih _ _ hf.2 (h1.fresh hf.1 undef) h
          case defer d =>
            refine ih _ _ hf.2 ?_ h
            have h1':EnvOk E0 { a with defers:=d::a.defers }:=h1
            exact h1'.fresh hf.1 undef
          case enter f args =>
            refine A6n h fun e w3 he=> ?_
            cases e with
            | returned v=>exact ih _ _ hf.2 (h1.fresh hf.1 v) he
            | panicked c=>exact he
            | outgrown=>exact (let ⟨a0,w0,h0⟩:=he;⟨a0,w0,h0⟩)
          case row row args=>exact Rows.mono h fun v w3 he=>ih _ _ hf.2 (h1.fresh hf.1 v) he
        | halt x w2=>cases x <;> simp only [Oper.upon] at h ⊢ <;> exact h
      · exact .inr ⟨h2,a0,w0,h3⟩
    · rename_i hw
      rw [A6u hw] at h
      exact ih _ _ hf.2 (h1.fresh hf.1 undef) h
def skB (Y:List (Nat×Nat)) (j:Nat) (want:Bool):List Nat→List Oper→Bool
  | _,[]=>true
  | S,o::r =>
    (match o.guard with
     | some (i,b)=>(i == j && b == want) || (match yl Y i with | some s=>S.contains s | none=>false)
     | none=>false) && skB Y j want (match o.dst with | some d=>d::S | none=>S) r
theorem N0 {q:Exit→Act→World→Prop}:∀ (x y:List Oper) (a:Act) (w:World),wpList P ops (fun e a w=>match e with | .normal=>wpList P ops q y a w | e=>q e a w) x a w→wpList P ops q (x++y) a w
  | [],_,_,_,h=>h
  | o::x,y,a,w,h=>by
    have ih:=N0 (q:=q) x y
    simp only [A4n,wpList] at h ⊢
    split
    · rename_i hw
      rw [A6v hw] at h
      rcases h with h | ⟨h2,a0,w0,h3⟩
      · left
        unfold Oper.wp at *
        generalize (execOp a.eval o).run P w=r at *
        cases r with
        | ok x w2 =>
          cases x <;> simp only [Oper.upon] at h ⊢
          case value v=>grind
          case skip=>grind
          case defer d=>grind
          case enter f args =>
            refine A6n h fun e w3 he=> ?_
            cases e with
            | returned v=>grind
            | panicked c=>exact he
            | outgrown=>exact (let ⟨a0,w0,h0⟩:=he;⟨a0,w0,h0⟩)
          case row row args=>exact Rows.mono h fun v w3 he=>ih _ _ he
        | halt x w2=>cases x <;> simp only [Oper.upon] at h ⊢ <;> exact h
      · exact .inr ⟨h2,a0,w0,h3⟩
    grind
def notBool (a:Act) (s:Nat):Prop:=∀ b,a.tmps[s]?≠some (.bool b)
theorem notBool.put {a:Act} {s:Nat} (h:notBool a s) (d:Option Tmp):notBool (a.put d undef) s:=by
  intro b hb
  cases d with
  | none=>exact h b hb
  | some d =>
    simp only [Act.put] at hb
    by_cases hs:d=s
    · subst hs
      rw [A12] at hb
      simp at hb
      exact absurd hb.2 (by simp [undef])
    · rw [A1y hs] at hb
      exact h b hb
theorem notBool.new {a:Act} (d:Nat):notBool (a.put (some d) undef) d:=by
  intro b hb
  simp only [Act.put] at hb
  rw [A12] at hb
  simp at hb
  exact absurd hb.2 (by simp [undef])
theorem Ts {a:Act} {d:Nat} {b:Bool} (h:a.tmps.getD d undef= .bool b):a.tmps[d]? =some (.bool b):=by
  rw [A14] at h
  rcases A58 d a.tmps.size with hs | hs
  · rw [A2b hs] at h ⊢;simpa using h
  · rw [A2n hs] at h;cases h
theorem Pw {q:Exit→Act→World→Prop} {Y:List (Nat×Nat)} (y:Yok ops Y) {j dj:Nat} (hj:yl Y j=some dj) {want:Bool} :
    ∀ (l:List Oper) (S:List Nat) (a:Act) (w:World),skB Y j want S l=true→(∀ s∈S,notBool a s)→EnvOk E a→(l.all fun o=>fresh E o.dst)=true→fnd E dj=some (.bool (!want)) →
      (∀ a',EnvOk E a'→a'.tmps.size=a.tmps.size→a'.defers=a.defers→q .normal a' w)→wpList P ops q l a w
  | [],_,a,w,_,_,h1,_,_,hk=>hk a h1 rfl rfl
  | o::l,S,a,w,hs,hS,h1,hf,hd,hk=>by
    simp only [skB,A4k] at hs
    simp only [A5w,A4k] at hf
    have hw:Region.wanted o (yielded ops a.tmps)=false:=by
      cases hg:o.guard with
      | none=>rw [hg] at hs;simp at hs
      | some ib =>
        obtain ⟨i,b⟩:=ib
        rw [hg] at hs
        simp only [A40,A4k,A6m] at hs
        rcases hs.1 with ⟨rfl,rfl⟩ | h2
        · have hy:=y i dj (Li hj)
          have:=Ts (h1 dj _ hd)
          cases b <;> simp [Region.wanted,hg,yielded,hy,this]
        · cases hy:yl Y i with
          | none=>rw [hy] at h2;cases h2
          | some s =>
            rw [hy] at h2
            have hm:=hS s (by grind)
            have hyy:=y i s (Li hy)
            unfold Region.wanted
            simp only [hg,yielded,hyy,Option.bind_some]
            cases ht:a.tmps[s]? with
            | none=>simp
            | some v=>cases v <;> simp;rename_i bb;exact absurd ht (hm bb)
    simp only [wpList]
    rw [A6u (by rw [hw];grind)]
    refine Pw y hj l _ _ w hs.2 ?_ (h1.fresh hf.1 undef) hf.2 hd (fun a' h2 h3 h4=>hk a' h2 (by rw [h3];cases o.dst <;> simp [Act.put]) (by rw [h4];cases o.dst <;> simp [Act.put]))
    intro s hs'
    cases hdst:o.dst with
    | none=>rw [hdst] at hs';exact hS s hs'
    | some d =>
      rw [hdst] at hs'
      cases hs' with
      | head=>exact notBool.new _
      | tail _ hm=>exact (hS s hm).put _
def Yh (db:Nat) (u:Bool) (H:Hp):C5:=fun e E' H'=>e= .normal∧fnd E' db=some (.bool u)∧∃ F,Split H' H F
def gOk (E:Env) (Y:List (Nat×Nat)):Option (Nat×Bool)→Bool
  | none=>true
  | some (j,b)=>match yl Y j with
    | some d=>(match fnd E d with | some (.bool b')=>b' == b | _=>false)
    | none=>false
theorem Ln {Y:List (Nat×Nat)} (y:Yok ops Y) {g:Option (Nat×Bool)} (hg:gOk E Y g=true) {a:Act} (h1:EnvOk E a) {d:Option Tmp} {op:Op} {ty:TypeId} {pos:String} {af:Array Edge} :
    Region.wanted ⟨d,op,ty,pos,af,g⟩ (yielded ops a.tmps)=true:=by
  cases g with
  | none=>rfl
  | some jb =>
    obtain ⟨j,b⟩:=jb
    simp only [gOk] at hg
    cases hy:yl Y j with
    | none=>grind
    | some dj =>
      simp only [hy] at hg
      cases hf:fnd E dj with
      | none=>grind
      | some v =>
        cases v <;> simp only [hf] at hg <;> try (cases hg;done)
        have hyy:=y j dj (Li hy)
        have:=Ts (h1 dj _ hf)
        simp [Region.wanted,yielded,hyy,this,hg]
theorem Nj {t w:Bool} (h:¬ t=w):t= !w:=by revert h;cases t <;> cases w <;> simp
theorem Ah7 [rg:Rg] {k:Nat} {l:List Oper} {t u want:Bool} {j dj db d:Nat} {x y:Operand} {ty:TypeId} {pos:String} {af:Array Edge} {gd:Option (Nat×Bool)} {Y:List (Nat×Nat)} (yk:Yok ops Y) (hj:yl Y j=some dj)
    (hc:fnd E dj=some (.bool t)) (hl:l=l.take k++⟨some d,.pick (.tmp dj) x y,ty,pos,af,gd⟩::rest) (hgd:gOk E Y gd=true) (hd:Nat.blt d n=true)
    (hsk:skB Y j want [] (l.take k)=true) (hfr:((l.take k).all fun o=>fresh E o.dst)=true)
    (hb:t=want→SO P n ops (l.take k) ((dj,.bool want)::E) H (Yh db u H)) {r:Bool}
    (hx:t=want→r=u∧(want=true→x= .tmp db)∧(want=false→y= .tmp db)) (hy:t= !want→(want=true→y= .const (.bool r))∧(want=false→x= .const (.bool r)))
    (kk:SO P n ops rest ((d,.bool r)::E) H Q):SO P n ops l E H Q:=by
  intro a w h1 h2 h3 h4
  rw [hl]
  apply N0
  have fin:∀ (a':Act) (w':World),EnvOk E a'→a'.tmps.size=n→a'.defers=rg.ds→Trk w w' H H→(∀ z,(t=want→z= .tmp db→a'.eval z= .bool u)) →
      wpList P ops (Up n w H Q) (⟨some d,.pick (.tmp dj) x y,ty,pos,af,gd⟩::rest) a' w':=by
    intro a' w' k1 k2 k3 k4 k5
    simp only [wpList]
    rw [A6v (Ln yk hgd k1)]
    left
    have hcv:a'.eval (.tmp dj)= .bool t:=k1 dj _ hc
    have hrun:(execOp a'.eval ⟨some d,.pick (.tmp dj) x y,ty,pos,af,gd⟩).run P w'= .ok (.value (.bool r)) w':=by
      have:(if t then a'.eval x else a'.eval y)= .bool r:=by
        by_cases ht:t=want
        · grind
        · have ht':t= !want:=Nj ht
          obtain ⟨hy1,hy2⟩:=hy ht'
          subst ht'
          cases want
          · simp [hy2 rfl,Act.eval]
          · simp [hy1 rfl,Act.eval]
      simp only [execOp,hcv,asBool,Sem.run_bind,Sem.run_pure,A4g]
      rw [this]
    unfold Oper.wp
    rw [hrun]
    have hlt:d<a'.tmps.size:=by rw [k2];exact A25 hd
    exact Br k4 (kk _ w' (k1.put hlt) (by simp [Act.put,k2]) k3 k4.ok)
  by_cases ht:t=want
  · have h1':EnvOk ((dj,.bool want)::E) a:=by
      intro i v hv
      unfold fnd at hv
      cases hbq:Nat.beq dj i with
      | true =>
        have:dj=i:=A24 hbq
        subst this
        simp [hbq] at hv
        subst hv;subst ht
        exact h1 dj _ hc
      | false=>simp [hbq] at hv;exact h1 i v hv
    have hrun:=Pv (E0:=E) _ a w hfr h1 (hb ht a w h1' h2 h3 h4)
    refine Jm ?_ _ a w hrun
    intro e a' w' he
    cases e with
    | normal =>
      obtain ⟨⟨E',H',k1,k2,k3,k4,_,k5,F,k6⟩,k7⟩:=he
      exact fin a' w' k7 k2 k3 (k4.split k6) (fun z _ hz=>by subst hz;exact k1 db _ k5)
    | _=>obtain ⟨E',H',k1,k2,k3,k4,k5,_⟩:=he;cases k5
  · have ht':t= !want:=Nj ht
    refine Pw yk hj _ [] a w hsk (fun s hs=>by cases hs) h1 hfr (by rw [hc,ht']) (fun a' k1 k2 k3=> ?_)
    exact fin a' w k1 (k2.trans h2) (k3.trans h3) (Trk.refl h4) (fun z h _=>absurd h ht)
theorem Afx [rg:Rg] {k:Nat} {l:List Oper} {t u:Bool} {j dj db d:Nat} {ty:TypeId} {pos:String} {af:Array Edge} {gd:Option (Nat×Bool)} {Y:List (Nat×Nat)} (yk:Yok ops Y) (hj:yl Y j=some dj)
    (hc:fnd E dj=some (.bool t)) (hl:l=l.take k++⟨some d,.pick (.tmp dj) (.const (.bool true)) (.tmp db),ty,pos,af,gd⟩::rest) (hgd:gOk E Y gd=true) (hd:Nat.blt d n=true)
    (hsk:skB Y j false [] (l.take k)=true) (hfr:((l.take k).all fun o=>fresh E o.dst)=true)
    (hb:t=false→SO P n ops (l.take k) ((dj,.bool false)::E) H (Yh db u H))
    (kk:SO P n ops rest ((d,.bool (t || u))::E) H Q):SO P n ops l E H Q :=
  Ah7 (want:=false) yk hj hc hl hgd hd hsk hfr hb (fun h=>⟨by simp [h],(fun e=>nomatch e),fun _=>rfl⟩) (fun h=>⟨(fun e=>nomatch e),fun _=>by rw [h];rfl⟩) kk
theorem U5 [rg:Rg] {k:Nat} {l:List Oper} {t u:Bool} {j dj db d:Nat} {ty:TypeId} {pos:String} {af:Array Edge} {gd:Option (Nat×Bool)} {Y:List (Nat×Nat)} (yk:Yok ops Y) (hj:yl Y j=some dj)
    (hc:fnd E dj=some (.bool t)) (hl:l=l.take k++⟨some d,.pick (.tmp dj) (.tmp db) (.const (.bool false)),ty,pos,af,gd⟩::rest) (hgd:gOk E Y gd=true) (hd:Nat.blt d n=true)
    (hsk:skB Y j true [] (l.take k)=true) (hfr:((l.take k).all fun o=>fresh E o.dst)=true)
    (hb:t=true→SO P n ops (l.take k) ((dj,.bool true)::E) H (Yh db u H))
    (kk:SO P n ops rest ((d,.bool (t && u))::E) H Q):SO P n ops l E H Q :=
  Ah7 (want:=true) yk hj hc hl hgd hd hsk hfr hb (fun h=>⟨by simp [h],fun _=>rfl,(fun e=>nomatch e)⟩) (fun h=>⟨fun _=>by rw [h];rfl,(fun e=>nomatch e)⟩) kk
end
end
section
section
variable {P:Program} {n:Nat} {E:Env} {H:Hp} {Q:C5} {ops:Array Oper}
def lst (m n:Nat):Array Bool:=(Array.range m).map fun i=>decide (i<n)
theorem Aoi (m n:Nat):(lst m n).size=m:=by simp [lst]
theorem Add (m n i:Nat) (d:Bool):(lst m n).getD i d=if i<m then decide (i<n) else d:=by
 simp only [lst,A14]
 grind
def W6 (ops:Array Oper) (k:Nat):Bool :=
 decide (k=ops.size) || (decide (k<ops.size) && Region.sinkB .any ops k && (List.range ops.size).all fun t=>decide (t≤k) || (List.range t).any fun s=>decide (k≤s) && Region.waitsFor .any ops t s)
def Jo (ops:Array Oper):Bool:=(List.range ops.size).all fun j=>match ops[j]? with | some o=>o.after.all fun e=> !Region.binds .any e || decide (e.on<j) | none=>true
theorem Ah8 {ops:Array Oper} {n k:Nat} (hc:Jo ops=true) (hn:n≤k):HeadInv .any ops k (lst ops.size n):=by
 refine ⟨Aoi _ _,fun j oj hj hl e he hb=> ?_,fun t ht hts=> ?_⟩
 ·have hjs:j<ops.size:=(Array.getElem?_eq_some_iff.1 hj).1
  have h1:=A4l.1 hc j (A5n.2 hjs)
  simp only [hj] at h1
  have h2:=Array.all_eq_true_iff_forall_mem.1 h1 e he
  simp only [hb,A5u,A5t,A4f] at h2
  rw [Add] at hl ⊢
  rw [A6v hjs] at hl
  rw [A6v (by omega)]
  grind
 ·rw [Add,A6v hts];simp;omega
theorem Yi {k:Nat} {listed:Array Bool} (hB:W6 ops k=true) (inv:HeadInv .any ops k listed) {i:Nat} (hi:i<k) (hun:listed.getD i true=false) :
  ∀ t,k≤t→t∉Region.ready .any ops listed:=by
 unfold W6 at hB
 simp only [A40,A4k,A4f] at hB
 rcases hB with hB | ⟨⟨hk,hs⟩,ht⟩
 ·intro t htk hr
  obtain ⟨_,ot,hot,_⟩:=A6p.1 hr
  have:=(Array.getElem?_eq_some_iff.1 hot).1
  omega
 ·
  have h0:∀ (d i:Nat),k - i=d→i<k→listed.getD i true=false→k∉Region.ready .any ops listed:=by
   intro d
   induction d using Nat.strongRecOn with
   | _ d ih =>
    intro i hd hi hun hr
    obtain ⟨_,ok,hok,hall⟩:=A6p.1 hr
    have h1:=A4l.1 hs i (A5n.2 hi)
    obtain ⟨j,hj,hj2⟩:=A4m.1 h1
    simp only [A4k,A4f] at hj2
    obtain ⟨oj,hoj,e,he,hb,hon⟩:=A3f hj2.2
    have hjle:j≤k:=by have:=A5n.1 hj;omega
    by_cases hjk:j=k
    ·grind
    ·cases hl:listed.getD j false with
     | true =>
      have h2:=inv.closed j oj hoj hl e he hb
      rw [hon,getD_both hun] at h2
      cases h2
     | false =>
      have hjs:j<listed.size:=by rw [inv.size];omega
      grind
  intro t htk hr
  by_cases htk2:t=k
  ·grind
  ·obtain ⟨_,ot,hot,hall⟩:=A6p.1 hr
   have hts:=(Array.getElem?_eq_some_iff.1 hot).1
   have h1:=A4l.1 ht t (A5n.2 hts)
   simp only [A40,A4f] at h1
   rcases h1 with h1 | h1
   ·omega
   ·obtain ⟨s,hsr,hs2⟩:=A4m.1 h1
    simp only [A4k,A4f] at hs2
    obtain ⟨o',ho',e,he,hb,hon⟩:=A3f hs2.2
    have:o'=ot:=A5i (ho'.symm.trans hot)
    subst this
    have h2:=hall e he hb
    have hst:=A5n.1 hsr
    rw [hon,getD_both (inv.tail s hs2.1 (by omega))] at h2
    cases h2
def Ade (P:Program) (ops:Array Oper) (q:Exit→Act→World→Prop) (T:World→Prop) (k:Nat) (L:Array Bool→Act→World→Prop):Nat→Array Bool→Act→World→Prop
 | 0,listed,a,w=>L listed a w
 | f+1,listed,a,w =>
  Region.ready .any ops listed≠[]∧∀ i∈Region.ready .any ops listed,i<k∧wpOp P ops q i (fun a' w'=>T w'∧Ade P ops q T k L f (listed.setIfInBounds i true) a' w') a w
section
variable {q:Exit→Act→World→Prop} {T:World→Prop} {k:Nat} {L:Array Bool→Act→World→Prop}
theorem On {g:Nat} (hL:∀ listed a w,L listed a w→wpAny P .any ops q g listed a w) :
  ∀ (f:Nat) (listed:Array Bool) (a:Act) (w:World),Ade P ops q T k L f listed a w→wpAny P .any ops q (f+g) listed a w
 | 0,listed,a,w,h=>by rw [A6c];exact hL _ _ _ h
 | f+1,listed,a,w,h=>by
  rw [show f+1+g=(f+g)+1 by omega]
  exact ⟨fun h0=>absurd h0 h.1,fun i hi=>wpOp_mono (fun a' w' h'=>On hL f _ a' w' h'.2) (h.2 i hi).2⟩
theorem U6 {i:Nat} {oi:Oper} {v:Value} (hi:ops[i]? =some oi) (hsel:∀ (j:Nat) (o:Oper) cs b,ops[j]? =some o→o.op≠.select cs b)
  (hQ:∀ c a w,q (.panic c) (a.put oi.dst v) w→q (.panic c) a w) (hB:W6 ops k=true) (hik:i<k)
  (hdone:∀ listed a w,L listed a w→∀ j∈Region.ready .any ops listed,k≤j) :
  ∀ (f:Nat) (listed:Array Bool) (a:Act) (w:World),HeadInv .any ops k listed →
   (∀ j oj,ops[j]? =some oj→j≠i→listed.getD j true=false→(∀ e∈oj.after,Region.binds .any e=true→e.on≠i)→oi.apart ops oj=true) →
   i∈Region.ready .any ops listed→YieldsIf P ops T oi v a→T w →
   Ade P ops q T k L f (listed.setIfInBounds i true) (a.put oi.dst v) w→Ade P ops q T k L (f+1) listed a w:=by
 intro f
 induction f with
 | zero =>
  intro listed a w inv _ hr hy hT H
  have hun:=(A6p.1 hr).1
  refine ⟨fun h=>(by rw [h] at hr;cases hr),fun j hj=> ?_⟩
  have hjk:j<k:=by
   rcases A58 j k with h | h
   ·exact h
   ·exact absurd hj (Yi hB inv hik hun j h)
  refine ⟨hjk,?_⟩
  by_cases hji:j=i
  ·subst hji;exact hy.wpOp hi hT ⟨hT,H⟩
  ·have:=hdone _ _ _ H j (ready_mono hj hji)
   omega
 | succ f ih =>
  intro listed a w inv hfree hr hy hT H
  have hun:=(A6p.1 hr).1
  refine ⟨fun h=>(by rw [h] at hr;cases hr),fun j hj=> ?_⟩
  have hjk:j<k:=by
   rcases A58 j k with h | h
   ·exact h
   ·exact absurd hj (Yi hB inv hik hun j h)
  refine ⟨hjk,?_⟩
  by_cases hji:j=i
  ·subst hji;exact hy.wpOp hi hT ⟨hT,H⟩
  ·have h1:=(H.2 j (ready_mono hj hji)).2
   obtain ⟨hjun,oj,hoj,hall⟩:=A6p.1 hj
   have hnot:∀ e∈oj.after,Region.binds .any e=true→e.on≠i:=fun e he hb heq=>by
    have h1:=hall e he hb
    rw [heq,getD_both hun] at h1
    cases h1
   have h2:=wpOp_putIf hoj (hfree j oj hoj hji hjun hnot) (fun cs b=>hsel i oi cs b hi) (fun cs b=>hsel j oj cs b hoj) hQ hy h1
   have hfree':∀ m om,ops[m]? =some om→m≠i→(listed.setIfInBounds j true).getD m true=false →
     (∀ e∈om.after,Region.binds .any e=true→e.on≠i)→oi.apart ops om=true:=fun m om hm hmi hun hno=>by
    refine hfree m om hm hmi ?_ hno
    by_cases hjm:j=m
    ·grind
    simp_all
   refine wpOp_mono (fun a' w' h3=>⟨h3.2.1,ih (listed.setIfInBounds j true) a' w' (inv.set hj hjk) hfree' (ready_mono hr (A6s hji)) h3.1 h3.2.1 ?_⟩) h2
   rw [Array.setIfInBounds_comm _ _ hji]
   exact h3.2.2
def wpX (P:Program) (ops:Array Oper) (T:World→Prop) (q:Exit→Act→World→Prop) (K:Act→World→Prop):List (Oper×Bool)→Act→World→Prop
 | [],a,w=>K a w
 | (o,false)::r,a,w=>∃ v,YieldsIf P ops T o v a∧wpX P ops T q K r (a.put o.dst v) w
 | (o,true)::r,a,w=>if Region.wanted o (yielded ops a.tmps) then o.wp P a w (fun a' w'=>T w'∧wpX P ops T q K r a' w') q else wpX P ops T q K r (a.put o.dst undef) w
def Mt (ops:Array Oper) (k:Nat):List (Nat×Bool)→Array Bool→Bool
 | [],listed=>listed == lst ops.size k && (Region.ready .any ops listed).all fun j=>decide (k≤j)
 | (i,false)::r,listed=>decide (i<k) && (Region.ready .any ops listed).contains i && Region.free .any ops listed i && Mt ops k r (listed.setIfInBounds i true)
 | (i,true)::r,listed=>decide (i<k) && decide (Region.ready .any ops listed=[i]) && Mt ops k r (listed.setIfInBounds i true)
def Bk (l:List Oper):List (Nat×Bool)→Option (List (Oper×Bool))
 | []=>some []
 | (i,x)::r=>match l[i]? with | some o=>(match Bk l r with | some t=>some ((o,x)::t) | none=>none) | none=>none
theorem Ko (hs:Region.noSelect ops=true) (hB:W6 ops k=true) (hQ:∀ c a w,¬ q (.panic c) a w) {K:Act→World→Prop} :
  ∀ (ord:List (Nat×Bool)) (l:List (Oper×Bool)) (listed:Array Bool) (a:Act) (w:World),HeadInv .any ops k listed→Bk ops.toList ord=some l→Mt ops k ord listed=true→T w→wpX P ops T q K l a w →
   Ade P ops q T k (fun listed' a' w'=>listed'=lst ops.size k∧(Region.ready .any ops listed').all (fun j=>decide (k≤j))=true∧K a' w') ord.length listed a w
 | [],l,listed,a,w,inv,hp,hc,hT,h=>by
  simp only [Bk,A4e] at hp
  subst hp
  simp only [Mt,A4k,A6m] at hc
  exact ⟨hc.1,hc.2,h⟩
 | (i,x)::ord,l,listed,a,w,inv,hp,hc,hT,h=>by
  simp only [Bk] at hp
  cases ho:ops.toList[i]? with
  | none=>rw [ho] at hp;cases hp
  | some o =>
   rw [ho] at hp
   cases hp2:Bk ops.toList ord with
   | none=>grind
   | some t =>
    simp only [hp2,A4e] at hp
    subst hp
    have ho':ops[i]? =some o:=by grind
    cases x with
    | false =>
     simp only [Mt,A4k,A4f] at hc
     obtain ⟨⟨⟨h1,h2⟩,h3⟩,h4⟩:=hc
     obtain ⟨v,hy,hw⟩:=h
     have hr:i∈Region.ready .any ops listed:=by grind
     refine U6 ho' (A3e hs) (fun c a w hh=>absurd hh (hQ c _ w)) hB h1 (fun listed a w hh j hj=> ?_) _ listed a w inv (A4y ho' h3) hr hy hT ?_
     ·have:=A4l.1 hh.2.1 j hj
      grind
     ·exact Ko hs hB hQ ord t _ _ _ (inv.set hr h1) hp2 h4 hT hw
    | true =>
     simp only [Mt,A4k,A4f] at hc
     obtain ⟨⟨h1,h2⟩,h4⟩:=hc
     have hr:i∈Region.ready .any ops listed:=by rw [h2];exact .head _
     refine ⟨fun h0=>(by rw [h0] at hr;cases hr),fun j hj=> ?_⟩
     have hji:j=i:=by rw [h2] at hj;grind
     subst hji
     refine ⟨h1,?_⟩
     unfold wpOp
     simp only [ho']
     simp only [wpX] at h
     split
     ·rename_i hw
      rw [A6v hw] at h
      refine .inl (A6d (fun a' w' hh=>⟨hh.1,Ko hs hB hQ ord t _ _ _ (inv.set hr h1) hp2 h4 hh.1 hh.2⟩) h)
     ·rename_i hw
      rw [A6u hw] at h
      exact ⟨hT,Ko hs hB hQ ord t _ _ _ (inv.set hr h1) hp2 h4 hT h⟩
abbrev Mu:=List (Nat×List (Nat×Bool))
def Jp (ops:Array Oper):Nat→Mu→Bool
 | s,[]=>s == ops.size && (Region.ready .any ops (lst ops.size s)).isEmpty
 | s,(k,ord)::r=>decide (s≤k) && decide (s+ord.length=k) && W6 ops k && Mt ops k ord (lst ops.size s) && Jp ops k r
def Lo (l:List Oper):Mu→Option (List (List (Oper×Bool)))
 | []=>some []
 | (_,ord)::r=>match Bk l ord with | some t=>(match Lo l r with | some u=>some (t::u) | none=>none) | none=>none
def At5 (P:Program) (ops:Array Oper) (q:Exit→Act→World→Prop):List (List (Oper×Bool))→Act→World→Prop
 | [],a,w=>q .normal a w
 | l::r,a,w=>∃ T:World→Prop,T w∧wpX P ops T q (At5 P ops q r) l a w
theorem U7 (hs:Region.noSelect ops=true) (hcl:Jo ops=true) (hQ:∀ c a w,¬ q (.panic c) a w) :
  ∀ (ph:Mu) (l:List (List (Oper×Bool))) (s:Nat) (a:Act) (w:World),Jp ops s ph=true→Lo ops.toList ph=some l→At5 P ops q l a w→wpAny P .any ops q (ops.size - s) (lst ops.size s) a w
 | [],l,s,a,w,hc,hp,h=>by
  simp only [Lo,A4e] at hp
  subst hp
  simp only [Jp,A4k,A6m,List.isEmpty_iff] at hc
  obtain ⟨rfl,h2⟩:=hc
  rw [A59]
  exact ⟨h2,h⟩
 | (k,ord)::ph,l,s,a,w,hc,hp,h=>by
  simp only [Lo] at hp
  cases h1:Bk ops.toList ord with
  | none=>grind
  | some t =>
   cases h2:Lo ops.toList ph with
   | none=>grind
   | some u =>
    simp only [h1,h2,A4e] at hp
    subst hp
    simp only [Jp,A4k,A4f] at hc
    obtain ⟨⟨⟨⟨hsk,hlen⟩,hB⟩,hsch⟩,hrest⟩:=hc
    obtain ⟨T,hT,hx⟩:=h
    have hks:k≤ops.size:=by
     unfold W6 at hB
     grind
    have hrun:=Ko hs hB hQ ord t (lst ops.size s) a w (Ah8 hcl hsk) h1 hsch hT hx
    have hany:=On (g:=ops.size - k) (fun listed a' w' hh=>by
     obtain ⟨e,_,hK⟩:=hh
     subst e
     exact U7 hs hcl hQ ph u k a' w' hrest h2 hK) _ _ _ _ hrun
    rw [show ops.size - s=ord.length+(ops.size - k) by omega]
    exact hany
end
def UpN [rg:Rg] (n:Nat) (w:World) (H:Hp) (Q:C5):Exit→Act→World→Prop
 | .normal,a,w'=>Up n w H Q .normal a w'
 | _,_,_=>False
def SP [rg:Rg] (P:Program) (n:Nat) (ops:Array Oper) (w0:World) (H0:Hp) (Q:C5) (l:List (List (Oper×Bool))) (E:Env) (H:Hp):Prop :=
 ∀ a w,EnvOk E a→a.tmps.size=n→a.defers=rg.ds→Trk w0 w H0 H→At5 P ops (UpN n w0 H0 Q) l a w
def UpK [rg:Rg] (n:Nat) (w0:World) (H0:Hp) (K:Env→Hp→Prop):Act→World→Prop :=
 fun a w=>∃ E H,EnvOk E a∧a.tmps.size=n∧a.defers=rg.ds∧Trk w0 w H0 H∧K E H
def SX [rg:Rg] (P:Program) (n:Nat) (ops:Array Oper) (w0:World) (H0:Hp) (Q:C5) (Hs:Hp) (l:List (Oper×Bool)) (K:Env→Hp→Prop) (E:Env) (H:Hp):Prop :=
 ∀ a w,EnvOk E a→a.tmps.size=n→a.defers=rg.ds→Trk w0 w H0 H→HpOk Hs w→wpX P ops (HpOk Hs) (UpN n w0 H0 Q) (UpK n w0 H0 K) l a w
theorem Ea {T:World→Prop} {q:Exit→Act→World→Prop} {K K':Act→World→Prop} (hk:∀ a w,K a w→K' a w):∀ (l:List (Oper×Bool)) (a:Act) (w:World),wpX P ops T q K l a w→wpX P ops T q K' l a w
 | [],a,w,h=>hk _ _ h
 | (o,false)::r,a,w,⟨v,hy,h⟩=>⟨v,hy,Ea hk r _ _ h⟩
 | (o,true)::r,a,w,h=>by
  simp only [wpX] at h ⊢
  split
  ·rename_i hw;rw [A6v hw] at h;exact A6d (fun a w ⟨h1,h2⟩=>⟨h1,Ea hk r a w h2⟩) h
  ·rename_i hw;rw [A6u hw] at h;exact Ea hk r _ _ h
theorem Lp {T:World→Prop} {q:Exit→Act→World→Prop} {K:Act→World→Prop}:∀ (x y:List (Oper×Bool)) (a:Act) (w:World),wpX P ops T q (wpX P ops T q K y) x a w→wpX P ops T q K (x++y) a w
 | [],y,a,w,h=>h
 | (o,false)::r,y,a,w,⟨v,hy,h⟩=>⟨v,hy,Lp r y _ _ h⟩
 | (o,true)::r,y,a,w,h=>by
  simp only [wpX,A4n] at h ⊢
  split
  ·rename_i hw;rw [A6v hw] at h;exact A6d (fun a w ⟨h1,h2⟩=>⟨h1,Lp r y a w h2⟩) h
  ·rename_i hw;rw [A6u hw] at h;exact Lp r y _ _ h
theorem U8 {T:World→Prop} {q:Exit→Act→World→Prop} {K:Act→World→Prop} {E0:Env}:∀ (l:List (Oper×Bool)) (a:Act) (w:World),(l.all fun o=>fresh E0 o.1.dst)=true→EnvOk E0 a→T w→wpX P ops T q K l a w→wpX P ops T q (fun a w=>K a w∧T w∧EnvOk E0 a) l a w
 | [],a,w,hf,he,hT,h=>⟨h,hT,he⟩
 | (o,false)::r,a,w,hf,he,hT,⟨v,hy,h⟩=>by
  simp only [A5w,A4k] at hf
  exact ⟨v,hy,U8 r _ _ hf.2 (he.fresh hf.1 v) hT h⟩
 | (o,true)::r,a,w,hf,he,hT,h=>by
  simp only [A5w,A4k] at hf
  simp only [wpX] at h ⊢
  split
  ·rename_i hw;rw [A6v hw] at h
   refine Lm (fun v w' ⟨h1,h2⟩=>⟨h1,U8 r _ _ hf.2 (he.fresh hf.1 v) h1 h2⟩) (fun d w' ⟨h1,h2⟩=>⟨h1,U8 r _ _ hf.2 ?_ h1 h2⟩) (fun _ _ _ _ hq=>hq) h
   have he':EnvOk E0 { a with defers:=d::a.defers }:=he
   exact he'.fresh hf.1 undef
  ·rename_i hw;rw [A6u hw] at h;exact U8 r _ _ hf.2 (he.fresh hf.1 undef) hT h
class Wide (P:Program):Prop where eq:P.follows .mixedOrders=true
theorem s_draw1 [rg:Rg] {id:Nat} {l:List Oper} (ph:Mu) {pl:List (List (Oper×Bool))} [hw:Wide P]
  (hc:(Region.noSelect l.toArray && Jo l.toArray && Jp l.toArray 0 ph)=true) (hp:Lo l ph=some pl)
  (h:∀ w0 H0,SP P n l.toArray w0 H0 Q pl E H):SC P n (.region id l.toArray true) E H Q:=by
 intro a w h1 h2 h3 h4
 simp only [A4k] at hc
 obtain ⟨⟨c2,c3⟩,c4⟩:=hc
 refine I4 hw.eq ?_
 have hrun:=h w H a { w with drawn:=w.drawn+1 } h1 h2 h3 (Da h4 _)
 have:=U7 (P:=P) (q:=UpN n w H Q) c2 c3 (fun c a w hh=>hh) ph pl 0 a _ c4 (by omega) hrun
 have hz:lst l.toArray.size 0=Array.replicate l.toArray.size false:=by
  apply Array.ext
  ·simp [lst]
  ·intro i h1 h2;simp [lst]
 rw [A6a,hz] at this
 refine wpAny_post ?_ _ _ _ _ this
 intro e a w hh
 cases e <;> first | exact hh | exact hh.elim
where
 wpAny_post {q q':Exit→Act→World→Prop} {ops:Array Oper} (hq:∀ e a w,q e a w→q' e a w):∀ (f:Nat) (listed:Array Bool) (a:Act) (w:World),wpAny P .any ops q f listed a w→wpAny P .any ops q' f listed a w
  | 0,listed,a,w,h=>⟨h.1,hq _ _ _ h.2⟩
  | f+1,listed,a,w,h=>⟨fun h0=>hq _ _ _ (h.1 h0),fun i hi=>by
    have:=h.2 i hi
    unfold wpOp at *
    split
    ·rename_i ho;simp only [ho] at this;exact wpAny_post hq f _ _ _ this
    ·rename_i o ho
     simp only [ho] at this
     split
     ·rename_i hw
      rw [A6v hw] at this
      refine this.imp (fun hh=> ?_) (fun ⟨h1,a0,w0,h2⟩=>⟨h1,a0,w0,hq _ _ _ h2⟩)
      exact Lm (fun v w' hk=>wpAny_post hq f _ _ _ hk) (fun d w' hk=>wpAny_post hq f _ _ _ hk) (fun e a w _=>hq e a w) hh
     ·rename_i hw
      rw [A6u hw] at this
      exact wpAny_post hq f _ _ _ this⟩
theorem Aoj {l:List Oper} {Y:List (Nat×Nat)} (h:Ac0 l Y=true):Yok l.toArray Y:=by
 intro j d hm
 have:=A4l.1 h (j,d) hm
 grind
theorem Ja [rg:Rg] {id:Nat} {l:List Oper} (Y:List (Nat×Nat)) (ph:Mu) {pl:List (List (Oper×Bool))} [hw:Wide P]
  (hc:(Ac0 l Y && Region.noSelect l.toArray && Jo l.toArray && Jp l.toArray 0 ph)=true) (hp:Lo l ph=some pl)
  (h:∀ ops w0 H0,Yok ops Y→SP P n ops w0 H0 Q pl E H):SC P n (.region id l.toArray true) E H Q :=
 have hc':Ac0 l Y=true∧(Region.noSelect l.toArray && Jo l.toArray && Jp l.toArray 0 ph)=true:=by
  grind
 s_draw1 ph hc'.2 hp fun w0 H0=>h _ w0 H0 (Aoj hc'.1)
section
variable {w0:World} {H0 Hs:Hp} {l:List (Oper×Bool)} {r:List (List (Oper×Bool))} {K:Env→Hp→Prop}
theorem Jq [rg:Rg] (h:Q .normal E H):SP P n ops w0 H0 Q [] E H:=fun a w h1 h2 h3 h4=>⟨E,H,h1,h2,h3,h4,h⟩
theorem A0s [rg:Rg] (Hs:Hp) {F:Hp} (hs:Split H Hs F) (h:SX P n ops w0 H0 Q Hs l (fun E H=>SP P n ops w0 H0 Q r E H) E H):SP P n ops w0 H0 Q (l::r) E H :=
 fun a w h1 h2 h3 h4 =>
  have hok:HpOk Hs w:=(h4.ok.perm hs.perm).left
  ⟨HpOk Hs,hok,Ea (fun a' w' ⟨E',H',k1,k2,k3,k4,k5⟩=>k5 a' w' k1 k2 k3 k4) l a w (h a w h1 h2 h3 h4 hok)⟩
theorem Dq [rg:Rg] (h:SX P n ops w0 H0 Q H l (fun E H=>SP P n ops w0 H0 Q r E H) E H):SP P n ops w0 H0 Q (l::r) E H :=
 fun a w h1 h2 h3 h4=>⟨HpOk H,h4.ok,Ea (fun a' w' ⟨E',H',k1,k2,k3,k4,k5⟩=>k5 a' w' k1 k2 k3 k4) l a w (h a w h1 h2 h3 h4 h4.ok)⟩
theorem G6 [rg:Rg] (h:SX P n ops w0 H0 Q [] l (fun E H=>SP P n ops w0 H0 Q r E H) E H):SP P n ops w0 H0 Q (l::r) E H:=A0s [] .nil h
theorem Av [rg:Rg] (h:K E H):SX P n ops w0 H0 Q Hs [] K E H:=fun a w h1 h2 h3 h4 _=>⟨E,H,h1,h2,h3,h4,h⟩
theorem B4 [rg:Rg] {d:Nat} {op:Op} {ty:TypeId} {pos:String} {af:Array Edge} {v:Value} (hr:Rd P E Hs op v) (hd:Nat.blt d n=true)
  (kk:SX P n ops w0 H0 Q Hs l K ((d,v)::E) H):SX P n ops w0 H0 Q Hs ((⟨some d,op,ty,pos,af,none⟩,false)::l) K E H:=by
 intro a w h1 h2 h3 h4 h5
 have hlt:d<a.tmps.size:=by rw [h2];simp_all
 exact ⟨v,.inl ⟨rfl,fun w' hw'=>hr a w' (some d) ty pos af none h1 hw'⟩,kk _ w (h1.put hlt) (by simp [Act.put,h2]) h3 h4 h5⟩
theorem Yj {d:Option Tmp} {op:Op} {ty:TypeId} {pos:String} {af:Array Edge} {j dj:Nat} {b b':Bool} {Y:List (Nat×Nat)} {a:Act} (y:Yok ops Y) (hj:yl Y j=some dj) (h1:EnvOk E a) (hb:fnd E dj=some (.bool b')) :
  Region.wanted ⟨d,op,ty,pos,af,some (j,b)⟩ (yielded ops a.tmps)=(b' == b):=by
 have hy:=y j dj (Li hj)
 have:=Ts (h1 dj _ hb)
 simp [Region.wanted,yielded,hy,this]
theorem x_g [rg:Rg] {d:Option Tmp} {op:Op} {ty:TypeId} {pos:String} {af:Array Edge} {j dj:Nat} {b x:Bool} {Y:List (Nat×Nat)} (y:Yok ops Y) (hj:yl Y j=some dj) (hb:fnd E dj=some (.bool b))
  (kk:SX P n ops w0 H0 Q Hs ((⟨d,op,ty,pos,af,none⟩,x)::l) K E H):SX P n ops w0 H0 Q Hs ((⟨d,op,ty,pos,af,some (j,b)⟩,x)::l) K E H:=by
 intro a w h1 h2 h3 h4 h5
 have hk:=kk a w h1 h2 h3 h4 h5
 have hw:Region.wanted ⟨d,op,ty,pos,af,some (j,b)⟩ (yielded ops a.tmps)=true:=by rw [Yj y hj h1 hb];simp
 cases x with
 | false =>
  obtain ⟨v,hy,hk⟩:=hk
  refine ⟨v,?_,hk⟩
  rcases hy with ⟨_,hy⟩ | ⟨hy,_⟩
  ·exact .inl ⟨hw,hy⟩
  ·cases hy
 | true =>
  simp only [wpX] at hk ⊢
  rw [A6v hw]
  rw [A6v (show Region.wanted ⟨d,op,ty,pos,af,none⟩ (yielded ops a.tmps)=true from rfl)] at hk
  exact hk
theorem A1x [rg:Rg] {d:Option Tmp} {op:Op} {ty:TypeId} {pos:String} {af:Array Edge} {j dj:Nat} {b b' x:Bool} {Y:List (Nat×Nat)} (y:Yok ops Y) (hj:yl Y j=some dj) (hb:fnd E dj=some (.bool b')) (hne:b'= !b) (hd:fresh E d=true)
  (kk:SX P n ops w0 H0 Q Hs l K E H):SX P n ops w0 H0 Q Hs ((⟨d,op,ty,pos,af,some (j,b)⟩,x)::l) K E H:=by
 intro a w h1 h2 h3 h4 h5
 have hk:=kk (a.put d undef) w (h1.fresh hd undef) (by cases d <;> simp [Act.put,h2]) (by cases d <;> simpa [Act.put] using h3) h4 h5
 have hw:Region.wanted ⟨d,op,ty,pos,af,some (j,b)⟩ (yielded ops a.tmps)=false:=by rw [Yj y hj h1 hb,hne];cases b <;> rfl
 cases x with
 | false=>exact ⟨undef,.inr ⟨hw,rfl⟩,hk⟩
 | true =>
  simp only [wpX]
  rw [A6u (by rw [hw];grind)]
  exact hk
theorem B7 [rg:Rg] {o:Oper} (h:SO P n ops [o] E H (fun e E' H'=>e= .normal∧(∃ F,Split H' Hs F)∧SX P n ops w0 H0 Q Hs l K E' H')):SX P n ops w0 H0 Q Hs ((o,true)::l) K E H:=by
 intro a w h1 h2 h3 h4 h5
 have hk:=h a w h1 h2 h3 h4.ok
 simp only [wpList] at hk
 simp only [wpX]
 have fin:∀ a' w',Up n w H (fun e E' H'=>e= .normal∧(∃ F,Split H' Hs F)∧SX P n ops w0 H0 Q Hs l K E' H') .normal a' w'→HpOk Hs w'∧wpX P ops (HpOk Hs) (UpN n w0 H0 Q) (UpK n w0 H0 K) l a' w':=by
  rintro a' w' ⟨E',H',k1,k2,k3,k4,_,⟨F,k5⟩,k6⟩
  have hok:HpOk Hs w':=(k4.ok.perm k5.perm).left
  exact ⟨hok,k6 a' w' k1 k2 k3 (h4.trans k4) hok⟩
 split
 ·rename_i hw
  rw [A6v hw] at hk
  rcases hk with hk | ⟨_,a0,w1,E',H',_,_,_,_,hh,_⟩
  ·refine Lm (fun v w' hh=>fin _ _ hh) (fun d w' hh=>fin _ _ hh) ?_ hk
   rintro e a' w' hne ⟨E',H',_,_,_,k4,k5,k6,k7⟩
   grind
  ·cases hh
 grind
theorem Yk {T:World→Prop} {q:Exit→Act→World→Prop} {K:Act→World→Prop} {Y:List (Nat×Nat)} (y:Yok ops Y) {j dj:Nat} (hj:yl Y j=some dj) {want:Bool} :
  ∀ (l:List (Oper×Bool)) (S:List Nat) (a:Act) (w:World),skB Y j want S (l.map (·.1))=true→(∀ s∈S,notBool a s)→EnvOk E a→(l.all fun o=>fresh E o.1.dst)=true→fnd E dj=some (.bool (!want)) →
   (∀ a',EnvOk E a'→a'.tmps.size=a.tmps.size→a'.defers=a.defers→K a' w)→wpX P ops T q K l a w
 | [],_,a,w,_,_,h1,_,_,hk=>hk a h1 rfl rfl
 | (o,x)::l,S,a,w,hs,hS,h1,hf,hd,hk=>by
  simp only [A5x,skB,A4k] at hs
  simp only [A5w,A4k] at hf
  have hw:Region.wanted o (yielded ops a.tmps)=false:=by
   cases hg:o.guard with
   | none=>rw [hg] at hs;simp at hs
   | some ib =>
    obtain ⟨i,b⟩:=ib
    rw [hg] at hs
    simp only [A40,A4k,A6m] at hs
    rcases hs.1 with ⟨rfl,rfl⟩ | h2
    ·have hy:=y i dj (Li hj)
     have:=Ts (h1 dj _ hd)
     cases b <;> simp [Region.wanted,hg,yielded,hy,this]
    ·cases hy:yl Y i with
     | none=>rw [hy] at h2;cases h2
     | some s =>
      rw [hy] at h2
      have hm:=hS s (by grind)
      have hyy:=y i s (Li hy)
      unfold Region.wanted
      simp only [hg,yielded,hyy,Option.bind_some]
      cases ht:a.tmps[s]? with
      | none=>simp
      | some v=>cases v <;> simp;rename_i bb;exact absurd ht (hm bb)
  have hrest:=Yk (T:=T) (q:=q) (K:=K) y hj l (match o.dst with | some d=>d::S | none=>S) (a.put o.dst undef) w hs.2 (by
   intro s hs'
   cases hdst:o.dst with
   | none=>rw [hdst] at hs';exact hS s hs'
   | some d =>
    rw [hdst] at hs'
    cases hs' with
    | head=>exact notBool.new _
    | tail _ hm=>exact (hS s hm).put _) (h1.fresh hf.1 undef) hf.2 hd (fun a' h2 h3 h4=>hk a' h2 (by rw [h3];cases o.dst <;> simp [Act.put]) (by rw [h4];cases o.dst <;> simp [Act.put]))
  cases x with
  | false=>exact ⟨undef,.inr ⟨hw,rfl⟩,hrest⟩
  | true =>
   simp only [wpX]
   rw [A6u (by rw [hw];grind)]
   exact hrest
theorem Ah9 [rg:Rg] {k:Nat} {rest:List (Oper×Bool)} {t u want:Bool} {j dj db d:Nat} {x y:Operand} {ty:TypeId} {pos:String} {af:Array Edge} {gd:Option (Nat×Bool)} {Y:List (Nat×Nat)} (yk:Yok ops Y) (hj:yl Y j=some dj)
  (hc:fnd E dj=some (.bool t)) (hl:l=l.take k++(⟨some d,.pick (.tmp dj) x y,ty,pos,af,gd⟩,false)::rest) (hgd:gOk E Y gd=true) (hd:Nat.blt d n=true)
  (hsk:skB Y j want [] ((l.take k).map (·.1))=true) (hfr:((l.take k).all fun o=>fresh E o.1.dst)=true)
  (hb:t=want→SX P n ops w0 H0 Q Hs (l.take k) (fun E' H'=>fnd E' db=some (.bool u)∧∃ F,Split H' H F) ((dj,.bool want)::E) H) {r:Bool}
  (hx:t=want→r=u∧(want=true→x= .tmp db)∧(want=false→y= .tmp db)) (hy:t= !want→(want=true→y= .const (.bool r))∧(want=false→x= .const (.bool r)))
  (kk:SX P n ops w0 H0 Q Hs rest K ((d,.bool r)::E) H):SX P n ops w0 H0 Q Hs l K E H:=by
 intro a w h1 h2 h3 h4 h5
 rw [hl]
 apply Lp
 have fin:∀ (a':Act) (w':World),EnvOk E a'→a'.tmps.size=n→a'.defers=rg.ds→Trk w0 w' H0 H→HpOk Hs w'→(∀ z,(t=want→z= .tmp db→a'.eval z= .bool u)) →
   wpX P ops (HpOk Hs) (UpN n w0 H0 Q) (UpK n w0 H0 K) ((⟨some d,.pick (.tmp dj) x y,ty,pos,af,gd⟩,false)::rest) a' w':=by
  intro a' w' k1 k2 k3 k4 k4' k5
  have hcv:a'.eval (.tmp dj)= .bool t:=k1 dj _ hc
  have hrun:∀ w2,(execOp a'.eval ⟨some d,.pick (.tmp dj) x y,ty,pos,af,gd⟩).run P w2= .ok (.value (.bool r)) w2:=by
   intro w2
   have:(if t then a'.eval x else a'.eval y)= .bool r:=by
    by_cases ht:t=want
    ·grind
    ·have ht':t= !want:=Nj ht
     obtain ⟨hy1,hy2⟩:=hy ht'
     subst ht'
     cases want
     ·simp [hy2 rfl,Act.eval]
     ·simp [hy1 rfl,Act.eval]
   simp only [execOp,hcv,asBool,Sem.run_bind,Sem.run_pure,A4g]
   rw [this]
  have hlt:d<a'.tmps.size:=by rw [k2];exact A25 hd
  exact ⟨.bool r,.inl ⟨Ln yk hgd k1,fun w2 _=>hrun w2⟩,kk _ w' (k1.put hlt) (by simp [Act.put,k2]) k3 k4 k4'⟩
 by_cases ht:t=want
 ·have h1':EnvOk ((dj,.bool want)::E) a:=by
   intro i v hv
   unfold fnd at hv
   cases hbq:Nat.beq dj i with
   | true =>
    have:dj=i:=A24 hbq
    subst this
    simp [hbq] at hv
    subst hv;subst ht
    exact h1 dj _ hc
   | false=>simp [hbq] at hv;exact h1 i v hv
  have hrun:=U8 (E0:=E) _ a w hfr h1 h5 (hb ht a w h1' h2 h3 h4 h5)
  refine Ea ?_ _ a w hrun
  rintro a' w' ⟨⟨E',H',k1,k2,k3,k4,k5,F,k6⟩,k7,k8⟩
  exact fin a' w' k8 k2 k3 (k4.split k6) k7 (fun z _ hz=>by subst hz;exact k1 db _ k5)
 ·have ht':t= !want:=Nj ht
  refine Yk yk hj _ [] a w hsk (fun s hs=>by cases hs) h1 hfr (by rw [hc,ht']) (fun a' k1 k2 k3=> ?_)
  grind
theorem Px [rg:Rg] {k:Nat} {rest:List (Oper×Bool)} {t u:Bool} {j dj db d:Nat} {ty:TypeId} {pos:String} {af:Array Edge} {gd:Option (Nat×Bool)} {Y:List (Nat×Nat)} (yk:Yok ops Y) (hj:yl Y j=some dj)
  (hc:fnd E dj=some (.bool t)) (hl:l=l.take k++(⟨some d,.pick (.tmp dj) (.const (.bool true)) (.tmp db),ty,pos,af,gd⟩,false)::rest) (hgd:gOk E Y gd=true) (hd:Nat.blt d n=true)
  (hsk:skB Y j false [] ((l.take k).map (·.1))=true) (hfr:((l.take k).all fun o=>fresh E o.1.dst)=true)
  (hb:t=false→SX P n ops w0 H0 Q Hs (l.take k) (fun E' H'=>fnd E' db=some (.bool u)∧∃ F,Split H' H F) ((dj,.bool false)::E) H)
  (kk:SX P n ops w0 H0 Q Hs rest K ((d,.bool (t || u))::E) H):SX P n ops w0 H0 Q Hs l K E H :=
 Ah9 (want:=false) yk hj hc hl hgd hd hsk hfr hb (fun h=>⟨by simp [h],(fun e=>nomatch e),fun _=>rfl⟩) (fun h=>⟨(fun e=>nomatch e),fun _=>by rw [h];rfl⟩) kk
theorem Aok [rg:Rg] {k:Nat} {rest:List (Oper×Bool)} {t u:Bool} {j dj db d:Nat} {ty:TypeId} {pos:String} {af:Array Edge} {gd:Option (Nat×Bool)} {Y:List (Nat×Nat)} (yk:Yok ops Y) (hj:yl Y j=some dj)
  (hc:fnd E dj=some (.bool t)) (hl:l=l.take k++(⟨some d,.pick (.tmp dj) (.tmp db) (.const (.bool false)),ty,pos,af,gd⟩,false)::rest) (hgd:gOk E Y gd=true) (hd:Nat.blt d n=true)
  (hsk:skB Y j true [] ((l.take k).map (·.1))=true) (hfr:((l.take k).all fun o=>fresh E o.1.dst)=true)
  (hb:t=true→SX P n ops w0 H0 Q Hs (l.take k) (fun E' H'=>fnd E' db=some (.bool u)∧∃ F,Split H' H F) ((dj,.bool true)::E) H)
  (kk:SX P n ops w0 H0 Q Hs rest K ((d,.bool (t && u))::E) H):SX P n ops w0 H0 Q Hs l K E H :=
 Ah9 (want:=true) yk hj hc hl hgd hd hsk hfr hb (fun h=>⟨by simp [h],fun _=>rfl,(fun e=>nomatch e)⟩) (fun h=>⟨fun _=>by rw [h];rfl,(fun e=>nomatch e)⟩) kk
end
end
end
section
inductive OT (α:Type) where
 | one (l:List (α×Bool)):OT α
 | fork (pre:List (α×Bool)) (i:α) (t:OT α) (j:α) (u:OT α):OT α
def OT.len {α:Type}:OT α→Nat
 | .one l=>l.length
 | .fork pre _ t _ _=>pre.length+(t.len+1)
def Acm (ops:Array Oper) (k:Nat):List (Nat×Bool)→Array Bool→Option (Array Bool)
 | [],listed=>some listed
 | (i,false)::r,listed=>if (decide (i<k) && (Region.ready .any ops listed).contains i && Region.free .any ops listed i)=true then Acm ops k r (listed.setIfInBounds i true) else none
 | (i,true)::r,listed=>if (decide (i<k) && decide (Region.ready .any ops listed=[i]))=true then Acm ops k r (listed.setIfInBounds i true) else none
def Acn (ops:Array Oper) (k:Nat):OT Nat→Array Bool→Bool
 | .one ord,listed=>Mt ops k ord listed
 | .fork pre i t j u,listed=>match Acm ops k pre listed with
  | some l2=>decide (i<k) && decide (j<k) && decide (Region.ready .any ops l2=[i,j]) && decide (t.len=u.len) && Acn ops k t (l2.setIfInBounds i true) && Acn ops k u (l2.setIfInBounds j true)
  | none=>false
def Pi (l:List Oper):OT Nat→Option (OT Oper)
 | .one ord=>match Bk l ord with | some r=>some (.one r) | none=>none
 | .fork pre i t j u=>match Bk l pre,l[i]?,Pi l t,l[j]?,Pi l u with
  | some p,some a,some b,some c,some d=>some (.fork p a b c d)
  | _,_,_,_,_=>none
def wpT (P:Program) (ops:Array Oper) (T:World→Prop) (q:Exit→Act→World→Prop) (K:Act→World→Prop):OT Oper→Act→World→Prop
 | .one l,a,w=>wpX P ops T q K l a w
 | .fork pre o t p u,a,w=>wpX P ops T q (fun a w=>T w∧wpX P ops T q (wpT P ops T q K t) [(o,true)] a w∧wpX P ops T q (wpT P ops T q K u) [(p,true)] a w) pre a w
section
variable {P:Program} {ops:Array Oper} {q:Exit→Act→World→Prop} {T:World→Prop} {k:Nat}
theorem Tm (hs:Region.noSelect ops=true) (hB:W6 ops k=true) (hQ:∀ c a w,¬ q (.panic c) a w) {K1:Act→World→Prop} {L:Array Bool→Act→World→Prop} {n:Nat} {l2:Array Bool}
  (hdone:∀ listed a w,L listed a w→∀ j∈Region.ready .any ops listed,k≤j) (hend:∀ a w,HeadInv .any ops k l2→T w→K1 a w→Ade P ops q T k L n l2 a w) :
  ∀ (pre:List (Nat×Bool)) (l:List (Oper×Bool)) (listed:Array Bool) (a:Act) (w:World),HeadInv .any ops k listed→Bk ops.toList pre=some l→Acm ops k pre listed=some l2→T w→wpX P ops T q K1 l a w →
   Ade P ops q T k L (pre.length+n) listed a w
 | [],l,listed,a,w,inv,hp,hc,hT,h=>by
  simp only [Bk,A4e] at hp
  simp only [Acm,A4e] at hc
  subst hp;subst hc
  simpa using hend a w inv hT h
 | (i,x)::pre,l,listed,a,w,inv,hp,hc,hT,h=>by
  rw [show ((i,x)::pre).length+n=(pre.length+n)+1 by simp;omega]
  simp only [Bk] at hp
  cases ho:ops.toList[i]? with
  | none=>rw [ho] at hp;cases hp
  | some o =>
   rw [ho] at hp
   cases hp2:Bk ops.toList pre with
   | none=>simp [hp2] at hp
   | some t =>
    simp only [hp2,A4e] at hp
    subst hp
    have ho':ops[i]? =some o:=by grind
    cases x with
    | false =>
     simp only [Acm] at hc
     split at hc
     ·rename_i hcc
      simp only [A4k,A4f] at hcc
      obtain ⟨⟨h1,h2⟩,h3⟩:=hcc
      obtain ⟨v,hy,hw⟩:=h
      have hr:i∈Region.ready .any ops listed:=by grind
      exact U6 ho' (A3e hs) (fun c a w hh=>absurd hh (hQ c _ w)) hB h1 hdone _ listed a w inv (A4y ho' h3) hr hy hT
       (Tm hs hB hQ hdone hend pre t _ _ _ (inv.set hr h1) hp2 hc hT hw)
     ·cases hc
    | true =>
     simp only [Acm] at hc
     split at hc
     ·rename_i hcc
      simp only [A4k,A4f] at hcc
      obtain ⟨h1,h2⟩:=hcc
      have hr:i∈Region.ready .any ops listed:=by rw [h2];exact .head _
      refine ⟨fun h0=>(by rw [h0] at hr;cases hr),fun j hj=> ?_⟩
      have hji:j=i:=by rw [h2] at hj;grind
      subst hji
      refine ⟨h1,?_⟩
      unfold wpOp
      simp only [ho']
      simp only [wpX] at h
      split
      ·rename_i hw
       rw [A6v hw] at h
       refine .inl (A6d (fun a' w' hh=>⟨hh.1,Tm hs hB hQ hdone hend pre t _ _ _ (inv.set hr h1) hp2 hc hh.1 hh.2⟩) h)
      ·rename_i hw
       rw [A6u hw] at h
       exact ⟨hT,Tm hs hB hQ hdone hend pre t _ _ _ (inv.set hr h1) hp2 hc hT h⟩
     ·cases hc
theorem Anu (hs:Region.noSelect ops=true) (hB:W6 ops k=true) (hQ:∀ c a w,¬ q (.panic c) a w) {K:Act→World→Prop} :
  ∀ (tr:OT Nat) (to:OT Oper) (listed:Array Bool) (a:Act) (w:World),HeadInv .any ops k listed→Pi ops.toList tr=some to→Acn ops k tr listed=true→T w→wpT P ops T q K to a w →
   Ade P ops q T k (fun listed' a' w'=>listed'=lst ops.size k∧(Region.ready .any ops listed').all (fun j=>decide (k≤j))=true∧K a' w') tr.len listed a w:=by
 intro tr
 induction tr with
 | one ord =>
  intro to listed a w inv hp hc hT h
  simp only [Pi] at hp
  cases h1:Bk ops.toList ord with
  | none=>simp [h1] at hp
  | some r =>
   simp only [h1,A4e] at hp
   subst hp
   exact Ko hs hB hQ ord r listed a w inv h1 hc hT h
 | fork pre i t j u iht ihu =>
  intro to listed a w inv hp hc hT h
  simp only [Pi] at hp
  cases h1:Bk ops.toList pre with
  | none=>simp [h1] at hp
  | some p =>
   cases h2:ops.toList[i]? with
   | none=>simp [h1,h2] at hp
   | some oi =>
    cases h3:Pi ops.toList t with
    | none=>simp [h1,h2,h3] at hp
    | some tt =>
     cases h4:ops.toList[j]? with
     | none=>simp [h1,h2,h3,h4] at hp
     | some oj =>
      cases h5:Pi ops.toList u with
      | none=>simp [h1,h2,h3,h4,h5] at hp
      | some uu =>
       simp only [h1,h2,h3,h4,h5,A4e] at hp
       subst hp
       simp only [Acn] at hc
       cases h6:Acm ops k pre listed with
       | none=>simp [h6] at hc
       | some l2 =>
        simp only [h6,A4k,A4f] at hc
        obtain ⟨⟨⟨⟨⟨c1,c2⟩,c3⟩,c4⟩,c5⟩,c6⟩:=hc
        have ho2:ops[i]? =some oi:=by grind
        have ho4:ops[j]? =some oj:=by grind
        refine Tm (l2:=l2) hs hB hQ (fun listed a w hh j hj=> ?_) (fun a w inv2 hT2 hk=> ?_) pre p listed a w inv h1 h6 hT h
        ·have:=A4l.1 hh.2.1 j hj
         grind
        ·obtain ⟨_,k1,k2⟩:=hk
         have hri:i∈Region.ready .any ops l2:=by rw [c3];simp
         have hrj:j∈Region.ready .any ops l2:=by rw [c3];simp
         refine ⟨fun h0=>(by rw [h0] at hri;cases hri),fun x hx=> ?_⟩
         rw [c3] at hx
         simp only [A5y,List.not_mem_nil,or_false] at hx
         rcases hx with rfl | rfl
         ·refine ⟨c1,?_⟩
          unfold wpOp
          simp only [ho2]
          simp only [wpX] at k1
          split
          ·rename_i hw
           rw [A6v hw] at k1
           exact .inl (A6d (fun a' w' hh=>⟨hh.1,iht tt _ _ _ (inv2.set hri c1) h3 c5 hh.1 hh.2⟩) k1)
          ·rename_i hw
           rw [A6u hw] at k1
           exact ⟨hT2,iht tt _ _ _ (inv2.set hri c1) h3 c5 hT2 k1⟩
         ·refine ⟨c2,?_⟩
          unfold wpOp
          simp only [ho4]
          simp only [wpX] at k2
          split
          ·rename_i hw
           rw [A6v hw] at k2
           exact .inl (A6d (fun a' w' hh=>⟨hh.1,by rw [c4];exact ihu uu _ _ _ (inv2.set hrj c2) h5 c6 hh.1 hh.2⟩) k2)
          ·rename_i hw
           rw [A6u hw] at k2
           exact ⟨hT2,by rw [c4];exact ihu uu _ _ _ (inv2.set hrj c2) h5 c6 hT2 k2⟩
abbrev Tn:=List (Nat×OT Nat)
def Mm (ops:Array Oper):Nat→Tn→Bool
 | s,[]=>s == ops.size && (Region.ready .any ops (lst ops.size s)).isEmpty
 | s,(k,t)::r=>decide (s≤k) && decide (s+t.len=k) && W6 ops k && Acn ops k t (lst ops.size s) && Mm ops k r
def Nf (l:List Oper):Tn→Option (List (OT Oper))
 | []=>some []
 | (_,t)::r=>match Pi l t with | some t=>(match Nf l r with | some u=>some (t::u) | none=>none) | none=>none
def Anv (P:Program) (ops:Array Oper) (q:Exit→Act→World→Prop):List (OT Oper)→Act→World→Prop
 | [],a,w=>q .normal a w
 | t::r,a,w=>∃ T:World→Prop,T w∧wpT P ops T q (Anv P ops q r) t a w
theorem Sq (hs:Region.noSelect ops=true) (hcl:Jo ops=true) (hQ:∀ c a w,¬ q (.panic c) a w) :
  ∀ (ph:Tn) (l:List (OT Oper)) (s:Nat) (a:Act) (w:World),Mm ops s ph=true→Nf ops.toList ph=some l→Anv P ops q l a w→wpAny P .any ops q (ops.size - s) (lst ops.size s) a w
 | [],l,s,a,w,hc,hp,h=>by
  simp only [Nf,A4e] at hp
  subst hp
  simp only [Mm,A4k,A6m,List.isEmpty_iff] at hc
  obtain ⟨rfl,h2⟩:=hc
  rw [A59]
  exact ⟨h2,h⟩
 | (k,tr)::ph,l,s,a,w,hc,hp,h=>by
  simp only [Nf] at hp
  cases h1:Pi ops.toList tr with
  | none=>grind
  | some t =>
   cases h2:Nf ops.toList ph with
   | none=>grind
   | some u =>
    simp only [h1,h2,A4e] at hp
    subst hp
    simp only [Mm,A4k,A4f] at hc
    obtain ⟨⟨⟨⟨hsk,hlen⟩,hB⟩,hsch⟩,hrest⟩:=hc
    obtain ⟨T,hT,hx⟩:=h
    have hks:k≤ops.size:=by
     unfold W6 at hB
     grind
    have hrun:=Anu hs hB hQ tr t (lst ops.size s) a w (Ah8 hcl hsk) h1 hsch hT hx
    have hany:=On (g:=ops.size - k) (fun listed a' w' hh=>by
     obtain ⟨e,_,hK⟩:=hh
     subst e
     exact Sq hs hcl hQ ph u k a' w' hrest h2 hK) _ _ _ _ hrun
    rw [show ops.size - s=tr.len+(ops.size - k) by omega]
    exact hany
end
section
variable {P:Program} {n:Nat} {E:Env} {H:Hp} {Q:C5} {ops:Array Oper}
def SPT [rg:Rg] (P:Program) (n:Nat) (ops:Array Oper) (w0:World) (H0:Hp) (Q:C5) (l:List (OT Oper)) (E:Env) (H:Hp):Prop :=
 ∀ a w,EnvOk E a→a.tmps.size=n→a.defers=rg.ds→Trk w0 w H0 H→Anv P ops (UpN n w0 H0 Q) l a w
def SXT [rg:Rg] (P:Program) (n:Nat) (ops:Array Oper) (w0:World) (H0:Hp) (Q:C5) (Hs:Hp) (t:OT Oper) (K:Env→Hp→Prop) (E:Env) (H:Hp):Prop :=
 ∀ a w,EnvOk E a→a.tmps.size=n→a.defers=rg.ds→Trk w0 w H0 H→HpOk Hs w→wpT P ops (HpOk Hs) (UpN n w0 H0 Q) (UpK n w0 H0 K) t a w
theorem Aco {T:World→Prop} {q:Exit→Act→World→Prop} {K K':Act→World→Prop} (hk:∀ a w,K a w→K' a w):∀ (t:OT Oper) (a:Act) (w:World),wpT P ops T q K t a w→wpT P ops T q K' t a w:=by
 intro t
 induction t with
 | one l=>intro a w h;exact Ea hk l a w h
 | fork pre o t p u iht ihu =>
  intro a w h
  exact Ea (fun a w ⟨h1,h2,h3⟩=>⟨h1,Ea iht _ _ _ h2,Ea ihu _ _ _ h3⟩) pre a w h
theorem Ng [rg:Rg] {id:Nat} {l:List Oper} (Y:List (Nat×Nat)) (ph:Tn) {pl:List (OT Oper)} [hw:Wide P]
  (hc:(Ac0 l Y && Region.noSelect l.toArray && Jo l.toArray && Mm l.toArray 0 ph)=true) (hp:Nf l ph=some pl)
  (h:∀ ops w0 H0,Yok ops Y→SPT P n ops w0 H0 Q pl E H):SC P n (.region id l.toArray true) E H Q:=by
 intro a w h1 h2 h3 h4
 simp only [A4k] at hc
 obtain ⟨⟨⟨c1,c2⟩,c3⟩,c4⟩:=hc
 refine I4 hw.eq ?_
 have hy:Yok l.toArray Y:=by
  intro j d hm
  have:=A4l.1 c1 (j,d) hm
  grind
 have hrun:=h l.toArray w H hy a { w with drawn:=w.drawn+1 } h1 h2 h3 (Da h4 _)
 have:=Sq (P:=P) (q:=UpN n w H Q) c2 c3 (fun c a w hh=>hh) ph pl 0 a _ c4 (by omega) hrun
 have hz:lst l.toArray.size 0=Array.replicate l.toArray.size false:=by
  apply Array.ext
  ·simp [lst]
  ·intro i h1 h2;simp [lst]
 rw [A6a,hz] at this
 refine s_draw1.wpAny_post ?_ _ _ _ _ this
 intro e a w hh
 cases e <;> first | exact hh | exact hh.elim
variable {w0:World} {H0 Hs:Hp} {K:Env→Hp→Prop} {r:List (OT Oper)}
theorem Rk [rg:Rg] (h:Q .normal E H):SPT P n ops w0 H0 Q [] E H:=fun a w h1 h2 h3 h4=>⟨E,H,h1,h2,h3,h4,h⟩
theorem A0g [rg:Rg] {t:OT Oper} (Hs:Hp) {F:Hp} (hs:Split H Hs F) (h:SXT P n ops w0 H0 Q Hs t (fun E H=>SPT P n ops w0 H0 Q r E H) E H):SPT P n ops w0 H0 Q (t::r) E H :=
 fun a w h1 h2 h3 h4 =>
  have hok:HpOk Hs w:=(h4.ok.perm hs.perm).left
  ⟨HpOk Hs,hok,Aco (fun a' w' ⟨E',H',k1,k2,k3,k4,k5⟩=>k5 a' w' k1 k2 k3 k4) t a w (h a w h1 h2 h3 h4 hok)⟩
theorem Le [rg:Rg] {t:OT Oper} (h:SXT P n ops w0 H0 Q H t (fun E H=>SPT P n ops w0 H0 Q r E H) E H):SPT P n ops w0 H0 Q (t::r) E H :=
 fun a w h1 h2 h3 h4=>⟨HpOk H,h4.ok,Aco (fun a' w' ⟨E',H',k1,k2,k3,k4,k5⟩=>k5 a' w' k1 k2 k3 k4) t a w (h a w h1 h2 h3 h4 h4.ok)⟩
theorem Aaa [rg:Rg] {t:OT Oper} (h:SXT P n ops w0 H0 Q [] t (fun E H=>SPT P n ops w0 H0 Q r E H) E H):SPT P n ops w0 H0 Q (t::r) E H:=A0g [] .nil h
theorem Gn [rg:Rg] {l:List (Oper×Bool)} (h:SX P n ops w0 H0 Q Hs l K E H):SXT P n ops w0 H0 Q Hs (.one l) K E H:=h
theorem Mn [rg:Rg] {pre:List (Oper×Bool)} {o p:Oper} {t u:OT Oper}
  (h:SX P n ops w0 H0 Q Hs pre (fun E' H'=>(∃ F,Split H' Hs F)∧SX P n ops w0 H0 Q Hs [(o,true)] (fun E H=>SXT P n ops w0 H0 Q Hs t K E H) E' H'∧SX P n ops w0 H0 Q Hs [(p,true)] (fun E H=>SXT P n ops w0 H0 Q Hs u K E H) E' H') E H)
  (hf:(fresh [] o.dst && fresh [] p.dst)=true):SXT P n ops w0 H0 Q Hs (.fork pre o t p u) K E H:=by
 intro a w h1 h2 h3 h4 h5
 simp only [A4k] at hf
 have he:∀ a:Act,EnvOk [] a:=fun a i v hv=>by cases hv
 refine Ea (fun a' w' hk=> ?_) pre a w (h a w h1 h2 h3 h4 h5)
 obtain ⟨E',H',k1,k2,k3,k4,⟨F,k5⟩,k6,k7⟩:=hk
 have hok:HpOk Hs w':=(k4.ok.perm k5.perm).left
 refine ⟨hok,?_,?_⟩
 ·refine Ea (fun a2 w2 hk=> ?_) _ _ _ (U8 (E0:=[]) [(o,true)] a' w' (by grind) (he _) hok (k6 a' w' k1 k2 k3 k4 hok))
  obtain ⟨⟨E2,H2,m1,m2,m3,m4,m5⟩,m6,_⟩:=hk
  exact m5 a2 w2 m1 m2 m3 m4 m6
 ·refine Ea (fun a2 w2 hk=> ?_) _ _ _ (U8 (E0:=[]) [(p,true)] a' w' (by grind) (he _) hok (k7 a' w' k1 k2 k3 k4 hok))
  obtain ⟨⟨E2,H2,m1,m2,m3,m4,m5⟩,m6,_⟩:=hk
  exact m5 a2 w2 m1 m2 m3 m4 m6
end
end
section
section
variable {P:Program} {n:Nat} {E:Env} {H:Hp} {Q:C5} {ops:Array Oper} {rest:List Oper}
class Plc (P:Program) (t:TypeId) (pl:outParam (List (Nat×Nat))):Prop where
 eq:∃ fs,P.underlying t=some (.struct fs)∧∀ w,(fs.mapM (m:=Sem) fun f=>do pure (f.offset,← sizeOf f.type)).run P w= .ok pl.toArray w
def Ako:List (Nat×Nat)→Nat→Option (Nat×Nat)
 | [],_=>none
 | c::_,0=>some c
 | _::cs,n+1=>Ako cs n
theorem At6 (cs:List (Nat×Nat)) (i:Nat):Ako cs i=cs[i]? :=by
 induction cs generalizing i with
 | nil=>rfl
 | cons c cs ih=>cases i <;> simp [Ako,ih]
def fillC (pl:List (Nat×Nat)):List Value→List (Nat×Value)→Option (List Value)
 | cs,[]=>some cs
 | cs,(i,v)::r =>
  match Ako pl i with
  | none=>none
  | some (o,s)=>bif Nat.beq v.cells.toList.length s then (match A7 cs o v.cells.toList with | none=>none | some cs'=>fillC pl cs' r) else none
theorem Rs (o:Nat):∀ (vs:List Value) (k:Nat) (cs:Array Value),o+k+vs.length≤cs.size →
  ((vs.zipIdx k).foldl (fun (cs:Array Value) (x:Value×Nat)=>cs.setIfInBounds (o+x.2) x.1) cs).toList=cs.toList.take (o+k)++vs++cs.toList.drop (o+k+vs.length)
 | [],k,cs,h=>by simp
 | v::vs,k,cs,h=>by
  simp only [List.zipIdx_cons,A45]
  rw [Rs o vs (k+1) _ (by grind)]
  have e:=list_seg_step cs.toList (o+k) v vs (by omega)
  grind
theorem Aia (pl:List (Nat×Nat)):∀ (vs:List (Nat×Value)) (cs r:List Value),fillC pl cs vs=some r→Instr.fill (fun i=>pl.toArray[i]?) cs.toArray vs=some r.toArray
 | [],cs,r,h=>by simp [fillC] at h;simp [Instr.fill,h]
 | (i,v)::vs,cs,r,h=>by
  simp only [fillC] at h
  cases hp:Ako pl i with
  | none=>grind
  | some os =>
   obtain ⟨o,s⟩:=os
   simp only [hp] at h
   cases hb:Nat.beq v.cells.toList.length s with
   | false=>rw [hb] at h;cases h
   | true =>
    rw [hb] at h;have hs:v.cells.size=s:=by have:=A24 hb;omega
    cases hsp:A7 cs o v.cells.toList with
    | none=>grind
    | some cs' =>
     simp only [hsp] at h
     obtain ⟨h1,h2⟩:=Hu cs o _ cs' hsp
     have ih:=Aia pl vs cs' r h
     have hp':pl.toArray[i]? =some (o,s):=by rw [At6] at hp;grind
     unfold Instr.fill
     simp only [hp']
     rw [A6u (by grind)]
     rw [← ih]
     congr 1
     apply Array.ext'
     have:=Rs o v.cells.toList 0 cs.toArray (by omega)
     rw [h1]
     rw [← Array.foldl_toList,Array.toList_zipIdx]
     omega
theorem Db {t:TypeId} {ps:List (Nat×Operand)} {vs:List (Nat×Value)} {pl:List (Nat×Nat)} {zs cs:List Value} [hz:Zer P t zs] [hp:Plc P t pl] (hv:evs E ps=some vs) (hf:fillC pl zs vs=some cs):Rd P E H (.build t ps.toArray) (.agg cs.toArray):=by
 refine Ada hv ?_
 intro w
 obtain ⟨z,hz1,hz2⟩:=Ee (P:=P) (t:=t) w
 obtain ⟨fs,hu,hm⟩:=hp.eq
 have hfill:=Aia pl vs zs cs hf
 simp only [Instr.build,Sem.run_bind,A5r hu]
 simp_all
theorem Aol {t:TypeId} {b o:Nat} {r:Bool} {cs vs:List Value} {T:TypeId} {fr:Nat×Nat} {sz:Nat} {w:World} [ht:Agg P t true] [hz:Siz P t sz] (h:HpOk H w) (hm:(b,r,CF cs T fr)∈H) (hv:cut cs o sz=some vs) :
  (loadVar t ⟨b,o,none⟩).run P w= .ok (.agg vs.toArray) w:=Yf (h.here _ hm) hv
theorem Akp {t:TypeId} {b o:Nat} {r:Bool} {cs:List Value} {T:TypeId} {fr:Nat×Nat} {v:Value} {w:World} [ht:Agg P t false] (h:HpOk H w) (hm:(b,r,CF cs T fr)∈H) (hv:nth cs o=some v) :
  (loadVar t ⟨b,o,none⟩).run P w= .ok v w:=by
 simp [loadVar,Hr,I9 (h.here _ hm),hv]
def RV (P:Program) (E:Env) (H:Hp) (r:ResultVar) (v:Value):Prop :=
 ∀ a w,EnvOk E a→HpOk H w→(match r with | .tmp t=>pure (a.tmps.getD t undef) | .cell x t=>do loadVar t (← asAddr (a.tmps.getD x undef)):Sem Value).run P w= .ok v w
theorem Af {t:Nat} {v:Value} (h:fnd E t=some v):RV P E H (.tmp t) v:=fun a w h1 h2=>by simp [← h1 t v h]
theorem Bc {x:Nat} {t:TypeId} {b o:Nat} {r:Bool} {cs vs:List Value} {T:TypeId} {fr:Nat×Nat} {sz:Nat} [ht:Agg P t true] [hz:Siz P t sz] (h:fnd E x=some (.pointer (some ⟨b,o,none⟩))) (hm:(b,r,CF cs T fr)∈H) (hv:cut cs o sz=some vs) :
  RV P E H (.cell x t) (.agg vs.toArray):=fun a w h1 h2=>by
 have:=h1 x _ h
 simp only [Sem.run_bind]
 rw [this]
 simp only [asAddr,Sem.run_pure,A4g,Aol h2 hm hv]
theorem Ff {x:Nat} {t:TypeId} {b o:Nat} {r:Bool} {cs:List Value} {v:Value} {T:TypeId} {fr:Nat×Nat} [ht:Agg P t false] (h:fnd E x=some (.pointer (some ⟨b,o,none⟩))) (hm:(b,r,CF cs T fr)∈H) (hv:nth cs o=some v) :
  RV P E H (.cell x t) v:=fun a w h1 h2=>by
 have:=h1 x _ h
 simp only [Sem.run_bind]
 rw [this]
 simp only [asAddr,Sem.run_pure,A4g,Akp h2 hm hv]
theorem Aw {fn:Func} {r:ResultVar} {v:Value} (h:fn.results=#[r]) (h1:RV P E H r v):Ret P fn E H v:=fun a w k1 k2=>by
 have:=h1 a w k1 k2
 simp only [results,h,A4a,A5m,Sem.run_bind,bind_pure_comp]
 cases r <;> simp_all
theorem Dj {fn:Func} {r s:ResultVar} {v u:Value} (h:fn.results=#[r,s]) (h1:RV P E H r v) (h2:RV P E H s u):Ret P fn E H (.tuple #[v,u]):=fun a w k1 k2=>by
 have i1:=h1 a w k1 k2
 have i2:=h2 a w k1 k2
 simp only [results,h,A4a,A5m,Sem.run_bind,Sem.run_map]
 cases r <;> cases s <;> simp_all
theorem N1 {fn:Func} {r s q:ResultVar} {v u x:Value} (h:fn.results=#[r,s,q]) (h1:RV P E H r v) (h2:RV P E H s u) (h3:RV P E H q x):Ret P fn E H (.tuple #[v,u,x]):=fun a w k1 k2=>by
 have i1:=h1 a w k1 k2
 have i2:=h2 a w k1 k2
 have i3:=h3 a w k1 k2
 simp only [results,h,A4a,A5m,Sem.run_bind,Sem.run_map]
 cases r <;> cases s <;> cases q <;> simp_all
theorem Py {fn:Func} {r s q p:ResultVar} {v u x y:Value} (h:fn.results=#[r,s,q,p]) (h1:RV P E H r v) (h2:RV P E H s u) (h3:RV P E H q x) (h4:RV P E H p y):Ret P fn E H (.tuple #[v,u,x,y]):=fun a w k1 k2=>by
 have i1:=h1 a w k1 k2
 have i2:=h2 a w k1 k2
 have i3:=h3 a w k1 k2
 have i4:=h4 a w k1 k2
 simp only [results,h,A4a,A5m,Sem.run_bind,Sem.run_map]
 cases r <;> cases s <;> cases q <;> cases p <;> simp_all
def Is (X:Value) (Y:Hp):Value→Hp→Prop:=fun v L=>v=X∧L=Y
theorem Ak {fn:Func} {X v:Value} {Y F:Hp} (hr:Ret P fn E H v) (hv:v=X) (hs:Split H Y F):G0 P fn (Is X Y) .ret E H:=⟨v,Y,F,hr,hs,hv,rfl⟩
theorem Pz {fn:Func} {X v:Value} {Y F:Hp} (hr:Ret P fn E H v) (hv:v=X) (hs:Split H Y F):G0 P fn (Is X Y) .normal E H:=⟨v,Y,F,hr,hs,hv,rfl⟩
theorem Bb {fn:Func} {R:Value→Hp→Prop} {v:Value} {Y F:Hp} (hr:Ret P fn E H v) (hR:R v Y) (hs:Split H Y F):G0 P fn R .ret E H:=⟨v,Y,F,hr,hs,hR⟩
theorem Aan {fn:Func} {R:Value→Hp→Prop} {v:Value} {Y F:Hp} (hr:Ret P fn E H v) (hR:R v Y) (hs:Split H Y F):G0 P fn R .normal E H:=⟨v,Y,F,hr,hs,hR⟩
inductive Keep2 (E:Env):List Nat→Env→Prop
 | nil:Keep2 E [] []
 | cons {i:Nat} {v:Value} {l:List Nat} {F:Env}:fnd E i=some v→Keep2 E l F→Keep2 E (i::l) ((i,v)::F)
theorem Keep2.keep {l:List Nat} {F:Env} (h:Keep2 E l F):Keep E F:=by
 induction h with
 | nil=>exact .nil
 | cons h _ ih=>exact .cons h ih
theorem Keep.append {M F:Env} (h:Keep E M) (k:Keep E F):Keep E (M++F):=by
 induction h with
 | nil=>exact k
 | cons h _ ih=>exact .cons h ih
theorem Ar [rg:Rg] {σ:Type} {c:Code} (ks:List Nat) {F:Env} (hF:Keep2 E ks F) (M:σ→Env) (H0:σ→Hp) (inv:σ→Prop) (μ:σ→Nat) (s0:σ) (hi:inv s0)
  (hM:Keep E (M s0)) {R:Hp} (hs:Split H (H0 s0) R)
  (round:∀ s,inv s→SC P n c (M s++F) (H0 s) (thn (fun E' H'=>∃ s',inv s'∧μ s'<μ s∧Keep E' (M s')∧Keep E' F∧∃ R',Split H' (H0 s') R') Q)) :
  SC P n (.loop c) E H Q :=
 Ax3 (fun s=>M s++F) H0 inv μ s0 hi (hM.append hF.keep) hs fun s h=>(round s h).mono fun e E' H' hq=>by
  cases e with
  | normal=>obtain ⟨s',h1,h2,h3,h4,h5⟩:=hq;exact ⟨s',h1,h2,h3.append h4,h5⟩
  | _=>exact hq
theorem Oo:∀ (H:Hp),Split H H []
 | []=> .nil
 | x::H=> .cons .here (Oo H)
theorem Dw [rg:Rg] {σ:Type} {c:Code} (ks:List Nat) {F:Env} (hF:Keep2 E ks F) (M:σ→Env) (inv:σ→Prop) (μ:σ→Nat) (s0:σ) (hi:inv s0)
  (hM:Keep E (M s0))
  (round:∀ s,inv s→SC P n c (M s++F) H (thn (fun E' H'=>∃ s',inv s'∧μ s'<μ s∧Keep E' (M s')∧Keep E' F∧∃ R',Split H' H R') Q)) :
  SC P n (.loop c) E H Q:=Ar ks hF M (fun _=>H) inv μ s0 hi hM (Oo H) round
theorem n_K {K:Env→Hp→Prop} (h:K E H):thn K Q .normal E H:=h
theorem Eh {i:Nat} (h:Q .normal E H):blk i Q .normal E H:=h
theorem r_K {K:Env→Hp→Prop} (h:Q .ret E H):thn K Q .ret E H:=h
theorem U9 {i:Nat} (h:Q .ret E H):blk i Q .ret E H:=h
theorem x_K {K:Env→Hp→Prop} {i:Nat} (h:Q (.exit i) E H):thn K Q (.exit i) E H:=h
theorem N4 {i:Nat} (h:Q .normal E H):blk i Q (.exit i) E H:=by simp [blk,h]
theorem Aym {i j:Nat} (hn:Nat.beq j i=false) (h:Q (.exit j) E H):blk i Q (.exit j) E H:=by
 have:j≠i:=fun e=>by simp_all
 simp [blk,this,h]
theorem A0t [rg:Rg] {x y:Code} (F:Env) (L:Hp) (h:SC P n x E H (fun e E' H'=>e= .normal∧Keep E' F∧∃ R,Split H' L R)) (k:SC P n y F L Q):SC P n (.seq x y) E H Q :=
 An (h.mono fun e E' H' ⟨h1,h2,R,h3⟩=>by subst h1;exact Ant h2 h3 k)
end
end
section
abbrev Kd:=Option IntKind
def veq:Kd→Value→Value→Option Bool
 | none,.bool a,.bool b=>some (a == b)
 | some k,.int k' a,.int k'' b=>if k'=k∧k''=k then some (decide (a=b)) else none
 | _,_,_=>none
def Bq:List Kd→List Value→List Value→Option Bool
 | [],[],[]=>some true
 | k::ks,x::xs,y::ys=>match veq k x y with
  | some a=>(match Bq ks xs ys with | some b=>some (a && b) | none=>none)
  | none=>none
 | _,_,_=>none
theorem Ia:∀ {ks:List Kd} {xs ys:List Value} {r:Bool},Bq ks xs ys=some r→xs.length=ks.length∧ys.length=ks.length
 | [],[],[],_,_=>⟨rfl,rfl⟩
 | [],[],_::_,_,h=>by cases h
 | [],_::_,_,_,h=>by cases h
 | _::_,[],_,_,h=>by cases h
 | _::_,_::_,[],_,h=>by cases h
 | k::ks,x::xs,y::ys,r,h=>by
  simp only [Bq] at h
  cases hv:veq k x y with
  | none=>grind
  | some c =>
   simp only [hv] at h
   cases hc:Bq ks xs ys with
   | none=>grind
   | some e=>have:=Ia hc;simp [this]
theorem J1:∀ (k1 k2:List Kd) (xs ys:List Value) (r:Bool),Bq (k1++k2) xs ys=some r →
  ∃ a b,Bq k1 (xs.take k1.length) (ys.take k1.length)=some a∧Bq k2 (xs.drop k1.length) (ys.drop k1.length)=some b∧r=(a && b)
 | [],k2,xs,ys,r,h=>⟨true,r,by simp [Bq],by simpa using h,by simp⟩
 | k::k1,k2,xs,ys,r,h=>by
  cases xs with
  | nil=>cases h
  | cons x xs=>cases ys with
   | nil=>cases h
   | cons y ys =>
    simp only [A4n,Bq] at h
    cases hv:veq k x y with
    | none=>grind
    | some c =>
     simp only [hv] at h
     cases hc:Bq (k1++k2) xs ys with
     | none=>grind
     | some e =>
      simp only [hc,A4e] at h
      obtain ⟨a,b,h1,h2,h3⟩:=J1 k1 k2 xs ys e hc
      subst h
      exact ⟨c && a,b,by simp [Bq,hv,h1],by grind,by grind⟩
section
variable (P:Program)
def J2 (f:TypeId→Option (List Kd)):List Field→Nat→Option (List Kd)
 | [],_=>some []
 | fl::fs,o=>match f fl.type with
  | some s => if fl.offset = o ∧ fl.name ≠ "_" then (match J2 f fs (o + s.length) with | some r => some (s ++ r) | none => none) else none
  | none=>none
def Mw:Nat→List Kd→List Kd
 | 0,_=>[]
 | n+1,s=>s++Mw n s
def Fn:Nat→TypeId→Option (List Kd)
 | 0,_=>none
 | d+1,t =>
  match P.underlying t with
  | some .bool=>if (P.info? t).map (·.size)=some 1 then some [none] else none
  | some (.int k)=>if (P.info? t).map (·.size)=some 1 then some [some k] else none
  | some (.struct fs)=>if P.stoodInHeld t=false then (match J2 (Fn d) fs.toList 0 with | some s=>if (P.info? t).map (·.size)=some s.length then some s else none | none=>none) else none
  | some (.array n e)=>(match Fn d e with | some s=>if (P.info? e).map (·.size)=some s.length∧(P.info? t).map (·.size)=some (n*s.length) then some (Mw n s) else none | none=>none)
  | _=>none
end
theorem Aom (n:Nat) (s:List Kd):(Mw n s).length=n*s.length:=by
 induction n with
 | zero=>simp [Mw]
 | succ n ih=>simp [Mw,ih,A6b,A55]
section
variable {P:Program}
def Eg (P:Program) (t:TypeId) (cs:List Value):Value :=
 match P.underlying t with
 | some (.struct _) | some (.array _ _)=> .agg cs.toArray
 | _=>cs.headD undef
theorem Oq {t:TypeId} {d:TypeDesc} (h:P.underlying t=some d) (w:World):(isAgg t).run P w= .ok (agg d) w:=by
 unfold isAgg
 rw [Sem.run_bind,A5r h w]
 cases d <;> rfl
theorem Su {t:TypeId} {n:Nat} (h:(P.info? t).map (·.size)=some n) (w:World):(sizeOf t).run P w= .ok n w :=
 @Bd P t n ⟨h⟩ w
theorem Va {d:Nat} {t:TypeId} {s:List Kd} (h:Fn P d t=some s):((∃ k,P.underlying t=some (.int k)∧s=[some k])∨(P.underlying t=some .bool∧s=[none])∨(∃ d,P.underlying t=some d∧agg d=true))∧(P.info? t).map (·.size)=some s.length:=by
 cases d with
 | zero=>cases h
 | succ d =>
  unfold Fn at h
  cases hu:P.underlying t with
  | none=>rw [hu] at h;cases h
  | some u =>
   rw [hu] at h
   cases u <;> simp only at h <;> try (cases h;done)
   case bool=>grind
   case int k=>grind
   case array n e =>
    split at h
    ·split at h
     ·rename_i hh;cases h;exact ⟨.inr (.inr ⟨_,rfl,rfl⟩),by rw [Aom];exact hh.2⟩
     ·cases h
    ·cases h
   case struct fs =>
    split at h
    ·split at h
     ·split at h
      ·rename_i hh;cases h;exact ⟨.inr (.inr ⟨_,rfl,rfl⟩),hh⟩
      ·cases h
     ·cases h
    ·cases h
theorem Yl (cs:List Value) (o:Nat) (h:o<cs.length):((cs.drop o).take 1).headD undef=cs[o]:=by
 rw [A2d h];rfl
theorem Nk {d:Nat} {t:TypeId} {s:List Kd} (h:Fn P d t=some s) (cs:List Value) (o:Nat) (ho:o+s.length≤cs.length) (w:World) :
  (part t cs.toArray o).run P w= .ok (Eg P t ((cs.drop o).take s.length)) w:=by
 obtain ⟨hcase,hs⟩:=Va h
 rcases hcase with ⟨k,hu,rfl⟩ | ⟨hu,rfl⟩ | ⟨u,hu,ha⟩
 ·have hlt:o<cs.length:=by grind
  have e:=Yl cs o hlt
  simp only [part,Sem.run_bind,Oq hu,agg,Eg,hu,A21,e]
  simp [hlt]
 ·have hlt:o<cs.length:=by grind
  have e:=Yl cs o hlt
  simp only [part,Sem.run_bind,Oq hu,agg,Eg,hu,A21,e]
  simp [hlt]
 ·have e:cs.toArray.extract o (o+s.length)=((cs.drop o).take s.length).toArray:=by
   grind
  simp only [part,Sem.run_bind,Oq hu,A4g,ha,if_true,Su hs,Eg]
  cases u <;> simp_all [agg]
theorem Sv {d:Nat} (ih:∀ (t:TypeId) (s:List Kd) (xs ys:List Value) (r:Bool) (w:World),Fn P d t=some s→Bq s xs ys=some r→∀ m,(Op.equalIn (d+m) t (Eg P t xs) (Eg P t ys)).run P w= .ok r w) (m:Nat) :
  ∀ (fs:List Field) (o:Nat) (s:List Kd) (xs ys:List Value) (r:Bool) (w:World),J2 (Fn P d) fs o=some s→Bq s (xs.drop o) (ys.drop o)=some r→o≤xs.length→o≤ys.length→(Op.eqFields (d+m) xs.toArray ys.toArray fs).run P w= .ok r w
 | [],o,s,xs,ys,r,w,h,hc,_,_=>by
  simp only [J2,A4e] at h
  subst h
  have:r=true:=by
   cases hx:xs.drop o <;> cases hy:ys.drop o <;> rw [hx,hy] at hc <;> simp [Bq] at hc
   exact hc
  subst this
  simp [Op.eqFields]
 | f::fs,o,s,xs,ys,r,w,h,hc,hox,hoy=>by
  simp only [J2] at h
  cases hf:Fn P d f.type with
  | none=>grind
  | some s1 =>
   simp only [hf] at h
   split at h
   ·rename_i hon
    cases hr:J2 (Fn P d) fs (o+s1.length) with
    | none=>grind
    | some s2 =>
     simp only [hr,A4e] at h
     subst h
     have hl:=Ia hc
     simp only [A3x,A4r] at hl
     obtain ⟨a,b,h1,h2,rfl⟩:=J1 s1 s2 _ _ r hc
     rw [A5k,A5k] at h2
     have e1:=Nk hf xs o (by omega) w
     have e2:=Nk hf ys o (by omega) w
     have e3:=ih f.type s1 _ _ a w hf h1 m
     have e4:=Sv ih m fs (o+s1.length) s2 xs ys b w hr h2 (by omega) (by omega)
     obtain ⟨hoff,hname⟩:=hon
     simp only [Op.eqFields,hname,if_true,Sem.run_bind,hoff,e1,e2,A4g,e3,ne_eq,not_false_eq_true]
     cases a <;> simp [e4]
   ·cases h
theorem Vb {d:Nat} {e:TypeId} {s:List Kd} (hs:Fn P d e=some s) (ih:∀ (t:TypeId) (s:List Kd) (xs ys:List Value) (r:Bool) (w:World),Fn P d t=some s→Bq s xs ys=some r→∀ m,(Op.equalIn (d+m) t (Eg P t xs) (Eg P t ys)).run P w= .ok r w) (m:Nat) (xs ys:List Value) (w:World) :
  ∀ (k i:Nat) (r:Bool),Bq (Mw k s) (xs.drop (i*s.length)) (ys.drop (i*s.length))=some r→i*s.length≤xs.length→i*s.length≤ys.length →
   ∃ z,(forIn (m:=Sem) (List.range' i k) ((none,()):Option Bool×Unit) (fun j _=>do
    let a ← part e xs.toArray (j*s.length)
    let b ← part e ys.toArray (j*s.length)
    let q ← Op.equalIn (d+m) e a b
    if (!q)=true then pure (ForInStep.done (some false,())) else pure (ForInStep.yield (none,())))).run P w= .ok z w∧(z.1=(if r then none else some false))
 | 0,i,r,hc,_,_=>by
  have:r=true:=by
   cases hx:xs.drop (i*s.length) <;> cases hy:ys.drop (i*s.length) <;> rw [hx,hy] at hc <;> simp [Mw,Bq] at hc
   exact hc
  simp_all
 | k+1,i,r,hc,hx,hy=>by
  have hl:=Ia hc
  simp only [Mw,A3x,A4r] at hl
  obtain ⟨a,b,h1,h2,rfl⟩:=J1 s (Mw k s) _ _ r hc
  rw [A5k,A5k] at h2
  have e1:=Nk hs xs (i*s.length) (by omega) w
  have e2:=Nk hs ys (i*s.length) (by omega) w
  have e3:=ih e s _ _ a w hs h1 m
  have ei:(i+1)*s.length=i*s.length+s.length:=by rw [Nat.add_mul,Nat.one_mul]
  rw [← ei] at h2
  simp only [List.range'_succ,List.forIn_cons,Sem.run_bind,e1,e2,e3,A4g]
  cases a with
  | false=>simp_all
  | true =>
   obtain ⟨z,hz,hz2⟩:=Vb hs ih m xs ys w k (i+1) b h2 (by omega) (by omega)
   simp_all
theorem Afy:∀ (d:Nat) (t:TypeId) (s:List Kd) (xs ys:List Value) (r:Bool) (w:World),Fn P d t=some s→Bq s xs ys=some r →
  ∀ m,(Op.equalIn (d+m) t (Eg P t xs) (Eg P t ys)).run P w= .ok r w:=by
 intro d
 induction d with
 | zero=>intro t s xs ys r w h;cases h
 | succ d ih =>
  intro t s xs ys r w h hc m
  rw [show d+1+m=(d+m)+1 by omega]
  unfold Fn at h
  cases hu:P.underlying t with
  | none=>rw [hu] at h;cases h
  | some u =>
   rw [hu] at h
   cases u <;> simp only at h <;> try (cases h;done)
   case bool =>
    split at h <;> cases h
    have hl:=Ia hc
    match xs,ys,hl with
    | [x],[y],_ =>
     simp only [Bq] at hc
     cases hv:veq none x y with
     | none=>grind
     | some c =>
      simp only [hv,A5s,A4e] at hc
      subst hc
      unfold veq at hv
      split at hv
      ·cases hv;simp only [Eg,hu];exact @Pt P t ⟨hu⟩ (d+m) _ _ w
      ·contradiction
      ·cases hv
   case int k =>
    split at h <;> cases h
    have hl:=Ia hc
    match xs,ys,hl with
    | [x],[y],_ =>
     simp only [Bq] at hc
     cases hv:veq (some k) x y with
     | none=>grind
     | some c =>
      simp only [hv,A5s,A4e] at hc
      subst hc
      unfold veq at hv
      split at hv
      ·contradiction
      ·rename_i h0
       cases h0
       split at hv
       ·rename_i hk
        obtain ⟨rfl,rfl⟩:=hk
        cases hv
        simp only [Eg,hu]
        exact run_equalIn_int w (d+m) t _ _ _ _ hu
       ·cases hv
      ·cases hv
   case array n e =>
    split at h
    ·rename_i s' hs'
     split at h
     ·rename_i hh
      cases h
      obtain ⟨z,hz,hz2⟩:=Vb hs' ih m xs ys w n 0 r (by grind) (by simp) (by simp)
      simp only [Eg,hu]
      simp only [Op.equalIn,Sem.run_bind,A5r hu,A4g,Su hh.1]
      simp only [Std.Legacy.Range.forIn_eq_forIn_range',Std.Legacy.Range.size,A6a,Nat.add_sub_cancel,Nat.div_one]
      have e0:n+1 - 1=n:=by omega
      rw [hz]
      simp only [A4g]
      rw [hz2]
      cases r <;> simp
     ·cases h
    ·cases h
   case struct fs =>
    split at h
    ·rename_i hst
     split at h
     ·rename_i s' hs'
      split at h
      ·cases h
       simp only [Eg,hu]
       have hf:P.fieldsOf t=fs:=by simp [Program.fieldsOf,hu]
       rw [run_equalIn_struct w (d+m) t _ _ (by rw [hf];exact hu) hst,hf]
       exact Sv ih m fs.toList 0 _ xs ys r w hs' (by grind) (by simp) (by simp)
      ·cases h
     ·cases h
    ·cases h
class Flat (P:Program) (t:TypeId) (s:outParam (List Kd)):Prop where
 eq:Fn P 20 t=some s
 gd:P.eqGuardType P.depth t=false
 ag:∃ d,P.underlying t=some d∧agg d=true
variable {E:Env} {H:Hp}
theorem Ym {t:TypeId} {s:List Kd} {xs ys:Array Value} {r:Bool} [hf:Flat P t s] (hc:Bq s xs.toList ys.toList=some r) (w:World):(Op.equal t (.agg xs) (.agg ys)).run P w= .ok r w:=by
 have:=Afy 20 t s xs.toList ys.toList r w hf.eq hc 9980
 obtain ⟨d,hu,ha⟩:=hf.ag
 have e:∀ zs:Array Value,Eg P t zs.toList= .agg zs:=by
  intro zs
  unfold Eg
  rw [hu]
  cases d <;> simp_all [agg]
 rw [e,e] at this
 exact this
theorem Or {t u:TypeId} {x y:Operand} {s:List Kd} {xs ys:Array Value} {r:Bool} [hf:Flat P t s] (hx:ev E x=some (.agg xs)) (hy:ev E y=some (.agg ys)) (hc:Bq s xs.toList ys.toList=some r):Rd P E H (.binOp .eql t x y u) (.bool r) :=
 fun a w d ty pos af g h1 h2=>by
  simp only [execOp,As h1 hx,As h1 hy,Sem.run_bind,run_eqGuard_agg w _ t _ _ _ _ hf.gd]
  have hb:binOp .eql t (.agg xs) (.agg ys)=(do pure (.bool (← Op.equal t (.agg xs) (.agg ys)))):=rfl
  simp only [hb,Sem.run_bind,Ym hc,A4g,Sem.run_pure]
theorem Vc {t u:TypeId} {x y:Operand} {s:List Kd} {xs ys:Array Value} {r:Bool} [hf:Flat P t s] (hx:ev E x=some (.agg xs)) (hy:ev E y=some (.agg ys)) (hc:Bq s xs.toList ys.toList=some r):Rd P E H (.binOp .neq t x y u) (.bool (!r)) :=
 fun a w d ty pos af g h1 h2=>by
  simp only [execOp,As h1 hx,As h1 hy,Sem.run_bind,run_eqGuard_agg w _ t _ _ _ _ hf.gd]
  have hb:binOp .neq t (.agg xs) (.agg ys)=(do pure (.bool (!(← Op.equal t (.agg xs) (.agg ys))))):=rfl
  simp only [hb,Sem.run_bind,Ym hc,A4g,Sem.run_pure]
end
end
section
class Byt (P:Program) (t:TypeId) (n:outParam Nat):Prop where eq:(P.info? t).map (·.bytes)=some n
def P1 (sz:Nat):List Value→List (Nat×Value)→Option (List Value)
 | cs,[]=>some cs
 | cs,(i,v)::r=>bif Nat.beq v.cells.toList.length sz then (match A7 cs (i*sz) v.cells.toList with | none=>none | some cs'=>P1 sz cs' r) else none
theorem P2 (sz:Nat):∀ (vs:List (Nat×Value)) (cs r:List Value),P1 sz cs vs=some r→Instr.fill (fun i=>some (i*sz,sz)) cs.toArray vs=some r.toArray
 | [],cs,r,h=>by simp [P1] at h;simp [Instr.fill,h]
 | (i,v)::vs,cs,r,h=>by
  simp only [P1] at h
  cases hb:Nat.beq v.cells.toList.length sz with
  | false=>rw [hb] at h;cases h
  | true =>
   rw [hb] at h;have hs:v.cells.size=sz:=by have:=A24 hb;omega
   cases hsp:A7 cs (i*sz) v.cells.toList with
   | none=>grind
   | some cs' =>
    simp only [hsp] at h
    obtain ⟨h1,h2⟩:=Hu cs (i*sz) _ cs' hsp
    have ih:=P2 sz vs cs' r h
    unfold Instr.fill
    simp only
    rw [A6u (by grind)]
    rw [← ih]
    congr 1
    apply Array.ext'
    have:=Rs (i*sz) v.cells.toList 0 cs.toArray (by omega)
    rw [h1]
    rw [← Array.foldl_toList,Array.toList_zipIdx]
    omega
def Gd:Nat→List Value→List Value
 | 0,_=>[]
 | n+1,zs=>zs++Gd n zs
theorem Kq (n:Nat) (zs:List Value):(Gd n zs).length=n*zs.length:=by
 induction n with
 | zero=>simp [Gd]
 | succ n ih=>simp [Gd,ih,A6b,A55]
theorem Aon (n:Nat) (zs:List Value) (i:Nat) (hi:i<n*zs.length):(Gd n zs)[i]? =zs[i % zs.length]? :=by
 induction n generalizing i with
 | zero=>simp at hi
 | succ n ih =>
  rw [A6b] at hi
  simp only [Gd]
  by_cases h:i<zs.length
  ·rw [A2e h,A4v h]
  ·rw [A19 (by omega),ih _ (by omega)]
   rw [show i % zs.length=(i - zs.length) % zs.length from Nat.mod_eq_sub_mod (by omega)]
theorem Tt (n:Nat) (z:Array Value) (zs:List Value) (hz:z=zs.toArray):(Array.range (n*zs.length)).map (fun i=>z[i % z.size]!)=(Gd n zs).toArray:=by
 subst hz
 apply A3n
 intro i
 simp only [ A2y]
 by_cases h:i<n*zs.length
 ·have hp:0<zs.length:=by
   grind
  have hm:=A6k i hp
  rw [Aon n zs i h]
  simp [h,hm]
 ·rw [A2x (by rw [Kq];omega)]
  simp [h]
section
variable {P:Program} {n:Nat} {E:Env} {H:Hp} {Q:C5} {ops:Array Oper} {rest:List Oper}
theorem Am [rg:Rg] {d:Nat} {t e:TypeId} {l:Nat} {ps:List (Nat×Operand)} {ty:TypeId} {pos:String} {af:Array Edge} {vs:List (Nat×Value)} {cs zs:List Value} [ht:Und P t (.slice e)] [hz:Zer P e zs] [hs:Siz P e zs.length]
  (hv:evs E ps=some vs) (hb:P1 zs.length (Gd l zs) vs=some cs) (hl:Nat.ble (l*zs.length) 16777216=true) (hd:Nat.blt d n=true)
  (k:∀ b,SO P n ops rest ((d,.slice (some ⟨b,0,none⟩) l l)::E) ((b,true,C cs e)::H) Q):SO P n ops (⟨some d,.buildSlice t l ps.toArray,ty,pos,af,none⟩::rest) E H Q:=by
 refine Aoe (ht:=ht) (cs:=cs) (sz:=zs.length) hv (fun w=> ?_) hd k
 obtain ⟨z,hz1,hz2⟩:=Ee (P:=P) (t:=e) w
 have hfill:=P2 zs.length vs (Gd l zs) cs hb
 have hl':¬ l*zs.length>2 ^ 24:=by have:=A25 hl;omega
 simp only [Instr.buildSlice,Sem.run_bind,A5r ht.eq,A4g,Bd,hl']
 by_cases h0:l*zs.length=0
 ·have he:Gd l zs=[]:=List.length_eq_zero_iff.1 (by rw [Kq];exact h0)
  rw [he] at hfill
  have hr:Array.range 0=#[]:=rfl
  simp [h0,hr,hfill,newRow,C,CF]
 ·simp only [h0,if_false,Sem.run_bind,hz1,A4g,Sem.run_pure]
  rw [Tt l z.cells zs hz2,hfill]
  simp [newRow,C,CF]
theorem Ot {t e:TypeId} {l:Nat} {ps:List (Nat×Operand)} {vs:List (Nat×Value)} {zs cs:List Value} {sz:Nat} [ht:Und P t (.array l e)] [hz:Zer P t zs] [hs:Siz P e sz] (hv:evs E ps=some vs) (hf:P1 sz zs vs=some cs):Rd P E H (.build t ps.toArray) (.agg cs.toArray):=by
 refine Ada hv ?_
 intro w
 obtain ⟨z,hz1,hz2⟩:=Ee (P:=P) (t:=t) w
 have hfill:=P2 sz vs zs cs hf
 simp only [Instr.build,Sem.run_bind,A4g,A5r ht.eq,Bd]
 simp_all
theorem P3 {t e:TypeId} {l:Nat} {zs:List Value} {sz:Nat} [ht:Und P t (.array l e)] [hz:Zer P t zs] [hs:Siz P e sz]:Rd P E H (.build t #[]) (.agg zs.toArray):=Ot (ps:=[]) (sz:=sz) (zs:=zs) rfl rfl
theorem Aoo [rg:Rg] {d:Nat} {t e:TypeId} {x y:Operand} {k1 k2:IntKind} {i j:Int} {ty:TypeId} {pos:String} {af:Array Edge} {zs:List Value} {bs:Nat} [ht:Und P t (.slice e)] [hz:Zer P e zs] [hs:Siz P e zs.length] [hby:Byt P e bs]
  (hx:ev E x=some (.int k1 i)) (hy:ev E y=some (.int k2 j)) (hb:0≤i∧i≤j∧bs*j≤281474976710656∧j≤281474976710656) (hd:Nat.blt d n=true)
  (k:∀ b,SO P n ops rest ((d,.slice (some ⟨b,0,none⟩) i.toNat j.toNat)::E) ((b,true,C (Gd j.toNat zs) e)::H) Q):SO P n ops (⟨some d,.makeSlice t x y,ty,pos,af,none⟩::rest) E H Q:=by
 intro a w h1 h2 h3 h4
 refine A6f rfl fun K hK=> ?_
 have hrun:(execOp a.eval ⟨some d,.makeSlice t x y,ty,pos,af,none⟩).run P w= .ok (.value (.slice (some ⟨w.heap.size,0,none⟩) i.toNat j.toNat)) { w with heap:=w.heap.push (C (Gd j.toNat zs) e) }:=by
  obtain ⟨z,hz1,hz2⟩:=Ee (P:=P) (t:=e) w
  have hi:IntKind.i64.wrap i=i:=C0 (by omega)
  have hj:IntKind.i64.wrap j=j:=C0 (by omega)
  have hbytes:=hby.eq
  cases hq:P.info? e with
  | none=>grind
  | some inf =>
   have hbb:inf.bytes=bs:=by grind
   have c1:¬ (j<0):=by omega
   have c2:¬ ((bs:Int)*j>2 ^ 48):=by omega
   have c3:¬ (i<0):=by omega
   have c4:¬ (i>j):=by omega
   have c5:¬ (281474976710656:Int)<(bs:Int)*j:=by omega
   simp only [execOp,As h1 hx,As h1 hy,Instr.makeSlice,Sem.run_bind,A5r ht.eq,A4g,asInt,asIntOf,Sem.run_pure,typeInfo,run_program,hq,hi,hj,hbb]
   simp only [c1,c3,c4,decide_false,A5t,Bool.or_false]
   have c6:decide ((bs:Int)*j>2 ^ 48)=false:=by grind
   simp only [c6,A3q,if_false,Sem.run_bind,run_askRoom,Bd]
   by_cases h0:j.toNat*zs.length=0
   ·have he:Gd j.toNat zs=[]:=List.length_eq_zero_iff.1 (by rw [Kq];exact h0)
    have hr:Array.range 0=#[]:=rfl
    simp [h0,hr,newRow,C,CF,he]
   ·simp only [h0,if_false,Sem.run_bind,hz1,A4g,Sem.run_pure]
    rw [Tt j.toNat z.cells zs hz2]
    simp [newRow,C,CF]
 unfold Oper.wp
 rw [hrun]
 have hlt:d<a.tmps.size:=by rw [h2];simp_all
 have ht':=I5 (cs:=Gd j.toNat zs) (T:=e) h4
 exact hK _ _ (Br ht' (k _ _ _ (h1.put hlt) (by simp [Act.put,h2]) h3 ht'.ok))
theorem Aao {H:Hp} {w:World} {b o m:Nat} {r:Bool} {cs new:List Value} {T:TypeId} {fr:Nat×Nat} (h:HpOk H w) (hm:(b,r,CF cs T fr)∈H) (hc:cut cs o m=some new):(loadCells ⟨b,o,none⟩ m).run P w= .ok new.toArray w∧new.length=m:=by
 obtain ⟨h1,h2,h3⟩:=Ht cs o _ new hc
 have hl:(loadCells ⟨b,o,none⟩ new.length).run P w= .ok new.toArray w:=A31 (P:=P) w ⟨b,o,none⟩ new (fun j u hu=>by
  rw [B8,I9 (h.here _ hm),Dk]
  grind)
 rw [h3] at hl
 grind
theorem Mx {H H':Hp} {w:World} {b o:Nat} {cs cs' new:List Value} {T:TypeId} (h:HpOk H w) (hu:Upd b (C cs T) (C cs' T) H H') (hs:A7 cs o new=some cs') (h1:∀ z∈new,z.oneCell'=true) :
  (Go.storeCells ⟨b,o,none⟩ new).run P w= .ok () (B6 w b (C cs' T)):=by
 obtain ⟨e1,e2⟩:=Hu _ _ _ _ hs
 have hst:=run_storeCells_at P b o T new 0 cs.toArray w (h.here _ hu.mem) (by omega) h1
 rw [hst,← J0 w b cs' (h.here _ hu.mem),e1]
 simp
theorem A1s [rg:Rg] {d:Option Tmp} {t u e:TypeId} {x y:Operand} {ty:TypeId} {pos:String} {af:Array Edge} {b o dl dc b2 o2 sl sc sz:Nat} {r:Bool} {cs cs' cs2 new:List Value} {T T2:TypeId} {fr:Nat×Nat} {H':Hp} [ht:Und P t (.slice e)] [hs:Siz P e sz]
  (hx:ev E x=some (.slice (some ⟨b,o,none⟩) dl dc)) (hy:ev E y=some (.slice (some ⟨b2,o2,none⟩) sl sc)) (hu:Upd b (C cs T) (C cs' T) H H') (hm:(b2,r,CF cs2 T2 fr)∈H) (hc:cut cs2 o2 (Nat.min sl dl*sz)=some new)
  (hsp:A7 cs o new=some cs') (h1c:(new.all (·.oneCell'))=true) (hd:(match d with | some d=>Nat.blt d n | none=>true)=true)
  (k:SO P n ops rest (match d with | some d=>(d,.int .i64 (Nat.min sl dl:Nat))::E | none=>E) H' Q):SO P n ops (⟨d,.call ⟨.builtin .copy,#[x,y],#[t,u]⟩,ty,pos,af,none⟩::rest) E H Q:=by
 intro a w h1 h2 h3 h4
 refine A6f rfl fun K hK=> ?_
 obtain ⟨hl,hlen⟩:=Aao (P:=P) h4 hm hc
 have hst:=Mx (P:=P) h4 hu hsp (fun z hz=>A4l.1 h1c z hz)
 have hrun:(execOp a.eval ⟨d,.call ⟨.builtin .copy,#[x,y],#[t,u]⟩,ty,pos,af,none⟩).run P w= .ok (.value (.int .i64 (Nat.min sl dl:Nat))) (B6 w b (C cs' T)):=by
  simp only [execOp,Bs,Sem.run_bind,invoke,builtin]
  simp [As h1 hx,As h1 hy,Builtin.copy_,A5r ht.eq,Builtin.lenOf,Builtin.firstCells,Bd,hl,hst,goInt]
 unfold Oper.wp
 rw [hrun]
 have htr:=Pq h4 hu
 refine hK _ _ (Br htr ?_)
 cases d with
 | none=>exact k _ _ h1 h2 h3 htr.ok
 | some d =>
  have hlt:d<a.tmps.size:=by rw [h2];exact A25 hd
  exact k _ _ (h1.put hlt) (by simp [Act.put,h2]) h3 htr.ok
theorem Afz [rg:Rg] {d:Option Tmp} {t u e:TypeId} {x y:Operand} {ty:TypeId} {pos:String} {af:Array Edge} {p:Option Addr} {dl dc sc sz:Nat} [ht:Und P t (.slice e)] [hs:Siz P e sz]
  (hx:ev E x=some (.slice p dl dc)) (hy:ev E y=some (.slice none 0 sc)) (hd:(match d with | some d=>Nat.blt d n | none=>true)=true)
  (k:SO P n ops rest (match d with | some d=>(d,.int .i64 (0:Nat))::E | none=>E) H Q):SO P n ops (⟨d,.call ⟨.builtin .copy,#[x,y],#[t,u]⟩,ty,pos,af,none⟩::rest) E H Q:=by
 intro a w h1 h2 h3 h4
 refine A6f rfl fun K hK=> ?_
 have hrun:(execOp a.eval ⟨d,.call ⟨.builtin .copy,#[x,y],#[t,u]⟩,ty,pos,af,none⟩).run P w= .ok (.value (.int .i64 (0:Nat))) w:=by
  have hz:Nat.min 0 dl=0:=Nat.zero_min dl
  simp only [execOp,Bs,Sem.run_bind,invoke,builtin]
  cases p <;> simp [As h1 hx,As h1 hy,Builtin.copy_,A5r ht.eq,Builtin.lenOf,Builtin.firstCells,Bd,goInt,hz,storeCells]
 unfold Oper.wp
 rw [hrun]
 refine hK _ _ ?_
 cases d with
 | none=>exact k _ _ h1 h2 h3 h4
 | some d =>
  have hlt:d<a.tmps.size:=by rw [h2];exact A25 hd
  exact k _ _ (h1.put hlt) (by simp [Act.put,h2]) h3 h4
end
end
section
section
variable {P:Program} {n:Nat} {E:Env} {H:Hp} {Q:C5} {ops:Array Oper} {rest:List Oper}
theorem Yn (newLen:Nat):∀ (r c:Nat),Builtin.growBy newLen r c≤max c (newLen+(newLen+768) / 4)
 | 0,c=>by simp [Builtin.growBy];omega
 | r+1,c=>by
  unfold Builtin.growBy
  split
  ·omega
  ·have:=Yn newLen r (c+(c+768) / 4)
   omega
theorem Af0 (need cap:Nat) (h:cap<need):Builtin.nextslicecap need cap≤2*need+1024:=by
 unfold Builtin.nextslicecap
 have:=Yn need 4 cap
 grind
def Src (H:Hp) (size:Nat) (v:Value) (m:Nat) (new:List Value):Prop :=
 (∃ b o c r cs T fr,v= .slice (some ⟨b,o,none⟩) m c∧(b,r,CF cs T fr)∈H∧cut cs o (m*size)=some new)∨(∃ p c,v= .slice p m c∧m=0∧new=[])
theorem Ck {H:Hp} {size b o m c:Nat} {r:Bool} {cs new:List Value} {T:TypeId} {fr:Nat×Nat} (hm:(b,r,CF cs T fr)∈H) (hc:cut cs o (m*size)=some new):Src H size (.slice (some ⟨b,o,none⟩) m c) m new:= .inl ⟨b,o,c,r,cs,T,fr,rfl,hm,hc⟩
theorem Aib {H:Hp} {size c:Nat} {p:Option Addr}:Src H size (.slice p 0 c) 0 []:= .inr ⟨p,c,rfl,rfl,rfl⟩
theorem Yo {a:Addr} {w:World}:(loadCells a 0).run P w= .ok (#[]:Array Value) w:=by
 have:=A31 (P:=P) w a [] (fun j u hu=>by simp at hu)
 omega
theorem Df {H:Hp} {w:World} {size:Nat} {v:Value} {m:Nat} {new:List Value} (h:HpOk H w) (hs:Src H size v m new):(Builtin.firstCells size m v).run P w= .ok new.toArray w∧(Builtin.lenOf v).run P w= .ok m w∧new.length=m*size:=by
 rcases hs with ⟨b,o,c,r,cs,T,fr,rfl,hm,hc⟩ | ⟨p,c,rfl,rfl,rfl⟩
 ·obtain ⟨h1,h2,h3⟩:=Ht cs o _ new hc
  have hl:(loadCells ⟨b,o,none⟩ new.length).run P w= .ok new.toArray w:=A31 (P:=P) w ⟨b,o,none⟩ new (fun j u hu=>by
   rw [B8,I9 (h.here _ hm),Dk]
   grind)
  rw [h3] at hl
  exact ⟨by simpa [Builtin.firstCells] using hl,by simp [Builtin.lenOf],h3⟩
 ·refine ⟨?_,by simp [Builtin.lenOf],by simp⟩
  cases p with
  | none=>simp [Builtin.firstCells]
  | some a=>simpa [Builtin.firstCells] using Yo (P:=P) (a:=a) (w:=w)
theorem Trk.drop {w w':World} {H G F:Hp} {x:Blk} (h:Trk w w' H G) (hp:Pick x G F):Trk w w' H F :=
 have hperm:=hp.perm
 h.sub ((h.ok.perm hperm).right (L:=[x])) (fun y hy=>hperm.mem_iff.2 (.tail _ hy))
theorem N5 {H:Hp} {w:World} {t u e ty:TypeId} {sz m l c:Nat} {p:Option Addr} {v:Value} {new:List Value} [ht:Und P t (.slice e)] [hu:Und P u (.slice e)] [hs:Siz P e sz] (h:HpOk H w) (hsrc:Src H sz v m new) (hcase:l+m≤c) :
  (Builtin.append_ #[t,u] ty #[.slice p l c,v]).run P w=((match p with | some a=>storeCells (a.add (l*sz)) new | none=>pure ()).run P w).andThen fun _ w'=> .ok (.slice p (l+m) c) w':=by
 obtain ⟨hf1,hf2,hf3⟩:=Df (P:=P) h hsrc
 cases p <;> simp [Builtin.append_,A5r ht.eq,A5r hu.eq,Bd,hf1,hf2,hcase]
theorem My {H:Hp} {w:World} {t u e ty:TypeId} {sz bs m l c:Nat} {p:Option Addr} {v:Value} {old new zs:List Value} [ht:Und P t (.slice e)] [hu:Und P u (.slice e)] [hz:Zer P e zs] [hs:Siz P e sz] [hby:Byt P e bs]
  (h:HpOk H w) (hsrc:Src H sz v m new) (hold:∀ k,(Builtin.firstCells sz l (.slice p l c)).run P { w with drawn:=k }= .ok old.toArray { w with drawn:=k }) (hcase:¬ l+m≤c) (hzl:zs.length=sz) (hbs:1≤bs) (hroom:(2*(l+m)+1024)*bs≤281474976710656) :
  ∃ nc,l+m≤nc∧(Builtin.append_ #[t,u] ty #[.slice p l c,v]).run P w= .ok (.slice (some ⟨w.heap.size,0,none⟩) (l+m) nc) { w with heap:=w.heap.push (C (old++new++Gd (nc - (l+m)) zs) e),drawn:=w.drawn+1 }:=by
 obtain ⟨hf1,hf2,hf3⟩:=Df (P:=P) h hsrc
 obtain ⟨z,hz1,hz2⟩:=Ee (P:=P) (t:=e) { w with drawn:=w.drawn+1 }
 have hnew:(Builtin.firstCells sz m v).run P { w with drawn:=w.drawn+1 }= .ok new.toArray { w with drawn:=w.drawn+1 }:=(Df (P:=P) (Da h (w.drawn+1)).ok hsrc).1
 have hbytes:=hby.eq
 refine ⟨(Question.appendCap (l+m) c e).cut (w.tape w.drawn (.appendCap (l+m) c e)),by simp only [Question.cut];omega,?_⟩
 generalize hnc:(Question.appendCap (l+m) c e).cut (w.tape w.drawn (.appendCap (l+m) c e))=nc
 have hzc:Builtin.zeroCells z.cells (nc - (l+m))=(Gd (nc - (l+m)) zs).toArray:=by
  unfold Builtin.zeroCells
  have:=Tt (nc - (l+m)) z.cells zs hz2
  rw [← this]
  simp [hz2]
 cases hqi:P.info? e with
 | none=>grind
 | some inf =>
  have hbb:inf.bytes=bs:=by grind
  have hbnd:¬ Builtin.nextslicecap (l+m) c*inf.bytes>2 ^ 48:=by
   have:=Af0 (l+m) c (by omega)
   have h6:Builtin.nextslicecap (l+m) c*inf.bytes≤(2*(l+m)+1024)*bs:=by rw [hbb];exact A3c _ this
   omega
  have hb0:¬ inf.bytes=0:=by omega
  have hti:∀ w':World,(typeInfo e).run P w'= .ok inf w':=fun w'=>by simp [typeInfo,hqi]
  have hfo:(Question.appendCap (l+m) c e).forced=false:=rfl
  have hold':(Builtin.firstCells sz l (.slice p l c)).run P w.drew= .ok old.toArray w.drew:=hold _
  have hnew':(Builtin.firstCells sz m v).run P w.drew= .ok new.toArray w.drew:=hnew
  have hz1':(zeroValue e).run P w.drew= .ok z w.drew:=hz1
  simp [Builtin.append_,A5r ht.eq,A5r hu.eq,Bd,hf2,hcase,hti,hb0,hbnd,hnc,hold',hnew',hz1',hzc]
  rfl
theorem Jr {a:Act} {w:World} {d:Option Tmp} {t u:TypeId} {x y:Operand} {ty:TypeId} {pos:String} {af:Array Edge} {gd:Option (Nat×Bool)} {vx vy r:Value} {w':World} (h1:a.eval x=vx) (h2:a.eval y=vy)
  (h:(Builtin.append_ #[t,u] ty #[vx,vy]).run P w= .ok r w'):(execOp a.eval ⟨d,.call ⟨.builtin .append,#[x,y],#[t,u]⟩,ty,pos,af,gd⟩).run P w= .ok (.value r) w':=by
 simp only [execOp,Bs,Sem.run_bind,invoke,builtin]
 simp_all
theorem Aop [rg:Rg] {d:Nat} {t u e:TypeId} {x y:Operand} {ty:TypeId} {pos:String} {af:Array Edge} {b l c m sz bs:Nat} {old spare new zs:List Value} {v:Value} {F:Hp}
  [ht:Und P t (.slice e)] [hu:Und P u (.slice e)] [hz:Zer P e zs] [hs:Siz P e sz] [hby:Byt P e bs]
  (hx:ev E x=some (.slice (some ⟨b,0,none⟩) l c)) (hy:ev E y=some v) (hp:Pick (b,true,C (old++spare) e) H F) (hol:old.length=l*sz) (hcap:(c - l)*sz≤spare.length∧l≤c)
  (hsrc:Src H sz v m new) (h1c:(new.all (·.oneCell'))=true) (hzl:Nat.beq zs.length sz=true) (hbs:Nat.ble 1 bs=true) (hroom:(2*(l+m)+1024)*bs≤281474976710656) (hd:Nat.blt d n=true)
  (k:∀ b' c' (spare':List Value),(c' - (l+m))*sz≤spare'.length→l+m≤c'→SO P n ops rest ((d,.slice (some ⟨b',0,none⟩) (l+m) c')::E) ((b',true,C (old++new++spare') e)::F) Q) :
  SO P n ops (⟨some d,.call ⟨.builtin .append,#[x,y],#[t,u]⟩,ty,pos,af,none⟩::rest) E H Q:=by
 intro a w h1 h2 h3 h4
 refine A6f rfl fun K hK=> ?_
 have hzl':zs.length=sz:=A24 hzl
 have hbs':1≤bs:=A25 hbs
 have hlt:d<a.tmps.size:=by rw [h2];simp_all
 obtain ⟨_,_,hf3⟩:=Df (P:=P) h4 hsrc
 have hmem:(b,true,C (old++spare) e)∈H:=hp.perm.mem_iff.2 (.head _)
 have hall:∀ z∈new,z.oneCell'=true:=fun z hz=>A4l.1 h1c z hz
 have hcut:cut (old++spare) 0 (l*sz)=some old:=Aae (by rw [A5l,← hol,List.take_left]) (by simp;omega)
 unfold Oper.wp
 by_cases hcase:l+m≤c
 ·have hsp:A7 (old++spare) (l*sz) new=some (old++new++spare.drop new.length):=Ex (by
   rw [← hol];simp) (by
   rw [A3x,hol,hf3]
   have:l*sz+(c - l)*sz=c*sz:=by rw [← Nat.add_mul];grind
   have h2:=A3c sz hcase
   rw [Nat.add_mul] at h2
   have:=hcap.1
   omega)
  have hst:(storeCells ((⟨b,0,none⟩:Addr).add (l*sz)) new).run P w= .ok () (B6 w b (C (old++new++spare.drop new.length) e)):=by
   obtain ⟨e1,e2⟩:=Hu _ _ _ _ hsp
   have hst:=run_storeCells_at P b (l*sz) e new 0 (old++spare).toArray w (h4.here _ hmem) (by omega) hall
   rw [B8,A6c,hst,← J0 w b _ (h4.here _ hmem),e1]
   simp
  have hrun:=N5 (P:=P) (t:=t) (u:=u) (ty:=ty) (p:=some ⟨b,0,none⟩) (l:=l) (c:=c) h4 hsrc hcase
  simp only [hst] at hrun
  rw [Jr (As h1 hx) (As h1 hy) hrun]
  have hup:∃ G,Upd b (C (old++spare) e) (C (old++new++spare.drop new.length) e) H G∧Pick (b,true,C (old++new++spare.drop new.length) e) G F:=by
   clear hK hrun hst hsp hcut hmem hcase hlt
   generalize hxx:((b,true,C (old++spare) e):Blk)=xx at hp
   clear k hsrc h4
   induction hp with
   | here=>subst hxx;exact ⟨_,.here,.here⟩
   | there _ ih=>obtain ⟨G,g1,g2⟩:=ih;exact ⟨_,.there g1,.there g2⟩
  obtain ⟨G,g1,g2⟩:=hup
  have htr:=Pq h4 g1
  have hG:Trk w (B6 w b (C (old++new++spare.drop new.length) e)) H ((b,true,C (old++new++spare.drop new.length) e)::F):=htr.sub (htr.ok.perm g2.perm) (fun y hy=>g2.perm.mem_iff.2 hy)
  have hlen:(c - (l+m))*sz≤(spare.drop new.length).length:=by
   have h2:(c - (l+m))*sz=(c - l)*sz - m*sz:=by rw [← Nat.sub_mul];grind
   rw [A4r,hf3,h2]
   have:=hcap.1
   omega
  exact hK _ _ (Br hG (k b c _ hlen hcase _ _ (h1.put hlt) (by simp [Act.put,h2]) h3 hG.ok))
 ·obtain ⟨nc,hnc,hrun⟩:=My (P:=P) (t:=t) (u:=u) (ty:=ty) (p:=some ⟨b,0,none⟩) (l:=l) (c:=c) (old:=old) h4 hsrc (fun k=>by
   have ho:=Da h4 k
   exact (Df (P:=P) (H:=H) (w:={ w with drawn:=k }) ho.ok (Ck (r:=true) (cs:=old++spare) (T:=e) hmem hcut)).1) hcase hzl' hbs' hroom
  rw [Jr (As h1 hx) (As h1 hy) hrun]
  have ht':=I5 (cs:=old++new++Gd (nc - (l+m)) zs) (T:=e) (Da h4 (w.drawn+1)).ok
  have htr:=(Da h4 (w.drawn+1)).trans ht'
  have hG:=htr.drop (x:=(b,true,C (old++spare) e)) (.there hp)
  exact hK _ _ (Br hG (k _ nc _ (by rw [Kq,hzl'];omega) hnc _ _ (h1.put hlt) (by simp [Act.put,h2]) h3 hG.ok))
end
end
section
section
variable {P:Program} {n:Nat} {E:Env} {H:Hp} {Q:C5} {ops:Array Oper} {rest:List Oper}
theorem Do [rg:Rg] {d:Nat} {t:TypeId} {x:Operand} {ty:TypeId} {pos:String} {af:Array Edge} {cs:List Value} (hx:ev E x=some (.agg cs.toArray)) (hd:Nat.blt d n=true)
  (k:∀ b,SO P n ops rest ((d,.pointer (some ⟨b,0,none⟩))::E) ((b,true,C cs t)::H) Q):SO P n ops (⟨some d,.box t x,ty,pos,af,none⟩::rest) E H Q:=Cy hx hd k
end
end
section
section
variable {P:Program} {n:Nat} {E:Env} {H:Hp} {Q:C5} {ops:Array Oper} {rest:List Oper}
theorem Atp [rg:Rg] {d:Nat} {x:Operand} {f:FuncId} {fi ca:List Value} {xs:List Operand} {ts:Array TypeId} {ty:TypeId} {pos:String} {af:Array Edge} {args:List Value} {L F:Hp} {R:Value→Hp→Prop}
  (hg:ev E x=some (.func (.func f) fi.toArray ca.toArray)) (hx:evl E xs=some args) (hf:Does P f (fi++args++ca) L R) (hs:Split H L F) (hd:Nat.blt d n=true)
  (k:∀ v L',R v L'→SO P n ops rest ((d,v)::E) (L'++F) Q) (he:Ent P f:=by first | infer_instance | exact ⟨fun _ _=>by kernel_rfl⟩):SO P n ops (⟨some d,.call ⟨.value x,xs.toArray,ts⟩,ty,pos,af,none⟩::rest) E H Q:=by
 intro a w h1 h2 h3 h4
 refine A6f rfl fun K hK=> ?_
 have hrun:(execOp a.eval ⟨some d,.call ⟨.value x,xs.toArray,ts⟩,ty,pos,af,none⟩).run P w= .ok (.enter f (fi++args++ca).toArray) w:=by
  have e:=Aam h1 hx
  have e2:xs.toArray.map a.eval=args.toArray:=by rw [← e];simp
  simp only [execOp,resolve,Sem.run_bind,As h1 hg,Deferred.ofValue,Sem.run_pure,A4g,invoke]
  rw [e2]
  have:=he.eq (fi++args++ca).toArray w
  simpa using this
 unfold Oper.wp
 rw [hrun,Oper.upon_enter]
 have hp:=hs.perm
 have hok:=h4.perm hp
 refine (hf w hok.left).mono ?_
 rintro e w' ⟨v,L',rfl,hR,ht⟩
 have ht':Trk w w' H (L'++F):=(ht.frame hok).perm_left hp.symm
 have hk:=k v L' hR
 refine hK _ _ (Br ht' ?_)
 have hlt:d<a.tmps.size:=by rw [h2];exact A25 hd
 exact hk _ _ (h1.put hlt) (by simp [Act.put,h2]) h3 ht'.ok
theorem Acp {f:FuncId} {fi cap:List Operand} {us vs:List (Nat×Value)} (hu:evs E (fi.map (fun x=>(0,x)))=some us) (hv:evs E (cap.map (fun x=>(0,x)))=some vs) :
  Rd P E H (.makeFunc (.func f) fi.toArray cap.toArray) (.func (.func f) (us.map (·.2)).toArray (vs.map (·.2)).toArray) :=
 fun a w d ty pos af g h1 h2=>by
  have:=Om h1 hv
  have e:(cap.map a.eval)=vs.map (·.2):=by rw [← this];simp
  have:=Om h1 hu
  have e2:(fi.map a.eval)=us.map (·.2):=by rw [← this];simp
  simp [execOp,Instr.makeFunc,e,e2]
theorem Kg {t:TypeId} {x y:Operand} {k:IntKind} {i:Int} {s:ByteArray} {b:UInt8} [ht:Und P t .string] (hx:ev E x=some (.string s)) (hy:ev E y=some (.int k i)) (h0:0≤i) (hb:s[i.toNat]? =some b):Rd P E H (.index t x y) (.int .u8 b.toNat) :=
 fun a w d ty pos af g h1 h2=>by
  simp [execOp,As h1 hx,As h1 hy,Instr.index,asIntOf,A5r ht.eq,h0,hb]
end
end
section
section
variable {α:Type} {f:α→List Value} {n:Nat}
theorem cut_iff {cs:List Value} {o m:Nat} {r:List Value}:cut cs o m=some r↔r=(cs.drop o).take m∧o+m≤cs.length :=
 ⟨fun h=>⟨(Ht cs o m r h).1,(Ht cs o m r h).2.1⟩,fun h=>by rw [h.1];exact Aae rfl h.2⟩
theorem Nh:∀ (l:List α),(∀ x∈l,(f x).length=n)→(l.flatMap f).length=l.length*n
 | [],_=>by simp
 | x::l,h=>by
  rw [A36,A3x,Nh l (fun y hy=>h y (.tail _ hy)),h x (.head _),A4q,A6b,A55]
theorem Uo:∀ (l:List α) (k:Nat) (x:α),(∀ x∈l,(f x).length=n)→l[k]? =some x→(l.flatMap f).drop (k*n)=f x++(l.drop (k+1)).flatMap f
 | [],k,x,_,hk=>by simp at hk
 | y::l,0,x,h,hk=>by grind
 | y::l,k+1,x,h,hk=>by
  have ih:=Uo l k x (fun y hy=>h y (.tail _ hy)) (by grind)
  rw [A36,A6b,A55 (k*n) n,← A5k]
  have hy:=h y (.head _)
  rw [A10 (by omega),← hy,List.drop_length,A5b,hy,ih]
  simp
theorem Lf {l:List α} {k o:Nat} {x:α} (h:∀ x∈l,(f x).length=n) (hk:l[k]? =some x) (ho:o<n):nth (l.flatMap f) (k*n+o)=nth (f x) o:=by
 have hx:(f x).length=n:=h x (A3b hk)
 have:=Uo l k x h hk
 rw [Dk,Dk,← A3v,this,A2e (by omega)]
theorem Pj {l:List α} {k o m:Nat} {x:α} {r:List Value} (h:∀ x∈l,(f x).length=n) (hk:l[k]? =some x) (hc:cut (f x) o m=some r):cut (l.flatMap f) (k*n+o) m=some r:=by
 have hx:(f x).length=n:=h x (A3b hk)
 obtain ⟨h1,h2⟩:=cut_iff.1 hc
 have hd:=Uo l k x h hk
 have hlen:=Nh l h
 have hkl:k<l.length:=(List.getElem?_eq_some_iff.1 hk).1
 refine cut_iff.2 ⟨?_,?_⟩
 ·rw [h1,← A5k,hd,A10 (by omega),A11 (by simp;omega)]
 ·rw [hlen]
  have:(k+1)*n≤l.length*n:=A3c n hkl
  rw [A6b] at this
  omega
theorem Acq:∀ (l:List α) (k:Nat) (x y:α),l[k]? =some x→(l.set k y).flatMap f=(l.take k).flatMap f++(f y++(l.drop (k+1)).flatMap f)
 | [],k,x,y,h=>by simp at h
 | z::l,0,x,y,h=>by simp
 | z::l,k+1,x,y,h=>by
  have:=Acq l k x y (by simpa using h)
  simp [this]
theorem Ahu:∀ (l:List α) (k:Nat) (x:α),l[k]? =some x→l.flatMap f=(l.take k).flatMap f++(f x++(l.drop (k+1)).flatMap f)
 | [],k,x,h=>by simp at h
 | z::l,0,x,h=>by grind
 | z::l,k+1,x,h=>by
  have:=Ahu l k x (by simpa using h)
  grind
theorem Oh {a b c r:List Value} {o:Nat} (h:A7 b o c=some r) (d:List Value):A7 (a++(b++d)) (a.length+o) c=some (a++(r++d)):=by
 obtain ⟨h1,h2⟩:=Hu _ _ _ _ h
 refine Ex ?_ (by simp;omega)
 rw [h1]
 rw [List.take_append,List.drop_append,show List.take (a.length+o) a=a from A2s (by omega)]
 have e1:a.length+o - a.length=o:=by omega
 have e2:List.drop (a.length+o+c.length) a=[]:=A2p (by omega)
 have e3:a.length+o+c.length - a.length=o+c.length:=by omega
 rw [e1,e2,e3,A11 (by omega),A10 (by omega)]
 simp
theorem Gb {l:List α} {k o:Nat} {x y:α} {vs:List Value} (h:∀ x∈l,(f x).length=n) (hk:l[k]? =some x) (hs:A7 (f x) o vs=some (f y)):A7 (l.flatMap f) (k*n+o) vs=some ((l.set k y).flatMap f):=by
 rw [Ahu l k x hk,Acq l k x y hk]
 have hkl:k<l.length:=(List.getElem?_eq_some_iff.1 hk).1
 have:((l.take k).flatMap f).length=k*n:=by
  rw [Nh (n:=n) _ (fun z hz=>h z (List.mem_of_mem_take hz)),A4s,A5g (by omega)]
 rw [← this]
 exact Oh hs _
theorem Jl {b c r:List Value} {o:Nat} (h:A7 b o c=some r) (d:List Value):A7 (b++d) o c=some (r++d):=by
 simpa using Oh (a:=[]) h d
theorem D8 {a c r d:List Value} {o:Nat} (h:A7 d o c=some r):A7 (a++d) (a.length+o) c=some (a++r):=by
 simpa using Oh (a:=a) h []
theorem Uq {b r:List Value} {o m:Nat} (h:cut b o m=some r) (d:List Value):cut (b++d) o m=some r:=by
 obtain ⟨h1,h2⟩:=cut_iff.1 h
 refine cut_iff.2 ⟨?_,by simp;omega⟩
 rw [h1,A10 (by omega),A11 (by simp;omega)]
theorem Pk {b d:List Value} {o:Nat} (h:o<b.length):nth (b++d) o=nth b o:=by
 rw [Dk,Dk,A2e h]
theorem Hn {b d:List Value} {o:Nat}:nth (b++d) (b.length+o)=nth d o:=by
 rw [Dk,Dk,A19 (by omega)]
 grind
theorem Kh (cs:List Value):cut cs 0 cs.length=some cs:=cut_iff.2 ⟨by simp,by omega⟩
theorem G1 {cs vs:List Value} (h:vs.length=cs.length):A7 cs 0 vs=some vs:=Ex (by simp [h]) (by omega)
theorem Oi {β:Type} {g:β→Value} {l:List β} {i:Nat} {y:β} (h:i<l.length):A7 (l.map g) i [g y]=some ((l.set i y).map g):=by
 refine Ex ?_ (by simp;omega)
 rw [List.map_set]
 simp [List.set_eq_take_append_cons_drop,h]
theorem Aab {β:Type} {g:β→Value} {l:List β} {i:Nat}:nth (l.map g) i=l[i]?.map g:=by rw [Dk,A38]
end
end
section
theorem Pick.app {x:Blk} {H F:Hp} {L:Hp} (h:Pick x H F):Pick x (L++H) (L++F):=by
 induction L with
 | nil=>exact h
 | cons y L ih=>exact .there ih
inductive PickL (L:Hp):Hp→Hp→Prop
 | here {F:Hp}:PickL L (L++F) F
 | last:PickL L L []
 | there {y:Blk} {H F:Hp}:PickL L H F→PickL L (y::H) (y::F)
 | app {M H F:Hp}:PickL L H F→PickL L (M++H) (M++F)
theorem Split.there {y:Blk} {H L F:Hp} (h:Split H L F):Split (y::H) L (y::F):=by
 induction h with
 | nil=>exact .nil
 | cons p _ ih=>exact .cons (.there p) ih
theorem Split.under {M H L F:Hp} (h:Split H L F):Split (M++H) L (M++F):=by
 induction M with
 | nil=>exact h
 | cons y M ih=>exact ih.there
theorem Sr:∀ (L F:Hp),Split (L++F) L F
 | [],F=> .nil
 | x::L,F=> .cons .here (Sr L F)
theorem PickL.split {L H F:Hp} (h:PickL L H F):Split H L F:=by
 induction h with
 | here=>exact Sr _ _
 | last=>exact Oo _
 | there _ ih=>exact ih.there
 | app _ ih=>exact ih.under
theorem Split.trans {H L G M F:Hp} (h:Split H L G) (k:Split G M F):Split H (L++M) F:=by
 induction h with
 | nil=>exact k
 | cons p _ ih=>exact .cons p (ih k)
theorem Split.chunk {H L G M F:Hp} (h:PickL L H G) (k:Split G M F):Split H (L++M) F:=h.split.trans k
theorem Split.lst {H L F:Hp} (h:PickL L H F):Split H L F:=h.split
theorem PickL.perm {L H F:Hp} (h:PickL L H F):H.Perm (L++F):=h.split.perm
theorem PickL.sub {L H F:Hp} (h:PickL L H F) {x:Blk} (hx:x∈L):x∈H:=h.perm.mem_iff.2 (A29 _ hx)
theorem PickL.nil_eq {L H F:Hp} (h:PickL L H F) (hl:L=[]):H=F:=by
 induction h with
 | here=>subst hl;rfl
 | last=>exact hl
 | there _ ih=>rw [ih]
 | app _ ih=>rw [ih]
theorem PickL.one {x:Blk} {L H F:Hp} (h:PickL L H F) (hl:L=[x]):Pick x H F:=by
 induction h with
 | here=>subst hl;exact .here
 | last=>subst hl;exact .here
 | there _ ih=>exact .there ih
 | app _ ih=>exact .app ih
theorem Upd.app {b:Nat} {o o':Obj} {H K L:Hp} (h:Upd b o o' H K):Upd b o o' (L++H) (L++K):=by
 induction L with
 | nil=>exact h
 | cons y L ih=>exact .there ih
inductive UpdL (L L':Hp):Hp→Hp→Prop
 | here {F:Hp}:UpdL L L' (L++F) (L'++F)
 | last:UpdL L L' L L'
 | there {y:Blk} {H F:Hp}:UpdL L L' H F→UpdL L L' (y::H) (y::F)
 | app {M H F:Hp}:UpdL L L' H F→UpdL L L' (M++H) (M++F)
theorem UpdL.one {b:Nat} {o o':Obj} {L L' H K:Hp} (h:UpdL L L' H K) (hl:L=[(b,true,o)]) (hl':L'=[(b,true,o')]):Upd b o o' H K:=by
 induction h with
 | here=>subst hl hl';exact .here
 | last=>subst hl hl';exact .here
 | there _ ih=>exact .there ih
 | app _ ih=>exact .app ih
inductive Ap:Hp→Hp→Hp→Prop
 | nil {F:Hp}:Ap [] F F
 | cons {x:Blk} {Y F G:Hp}:Ap Y F G→Ap (x::Y) F (x::G)
 | app {L Y F G:Hp}:Ap Y F G→Ap (L++Y) F (L++G)
 | one {L F:Hp}:Ap L F (L++F)
theorem Ap.eq {Y F G:Hp} (h:Ap Y F G):Y++F=G:=by
 induction h with
 | nil=>rfl
 | cons _ ih=>rw [← ih];rfl
 | app _ ih=>rw [← ih,A34]
 | one=>rfl
section
variable {P:Program} {n:Nat} {E:Env} {H:Hp} {Q:C5} {ops:Array Oper} {rest:List Oper}
theorem Ir [rg:Rg] {d:Nat} {f:FuncId} {xs:List Operand} {ts:Array TypeId} {ty:TypeId} {pos:String} {af:Array Edge} {args:List Value} {L F Y:Hp} {X:Value}
  (hx:evl E xs=some args) (hf:Does P f args L (Is X Y)) (hs:Split H L F) (hd:Nat.blt d n=true) {G:Hp} (hg:Ap Y F G)
  (k:SO P n ops rest ((d,X)::E) G Q) (he:Ent P f:=by first | infer_instance | exact ⟨fun _ _=>by kernel_rfl⟩):SO P n ops (⟨some d,.call ⟨.value (.func f),xs.toArray,ts⟩,ty,pos,af,none⟩::rest) E H Q :=
 Aof (he:=he) hx hf hs hd fun v L' ⟨h1,h2⟩=>by subst h1;subst h2;rw [hg.eq];exact k
theorem Ch [rg:Rg] {d:Nat} {f:FuncId} {xs:List Operand} {ts:Array TypeId} {ty:TypeId} {pos:String} {af:Array Edge} {args:List Value} {L F:Hp} {R:Value→Hp→Prop}
  (hx:evl E xs=some args) (hf:Does P f args L R) (hs:Split H L F) (hd:Nat.blt d n=true)
  (k:∀ v Y,R v Y→SO P n ops rest ((d,v)::E) (Y++F) Q) (he:Ent P f:=by first | infer_instance | exact ⟨fun _ _=>by kernel_rfl⟩):SO P n ops (⟨some d,.call ⟨.value (.func f),xs.toArray,ts⟩,ty,pos,af,none⟩::rest) E H Q :=
 Aof (he:=he) hx hf hs hd fun v L' h=>k v L' h
theorem Xy [rg:Rg] {d:Nat} {x:Operand} {f:FuncId} {fi ca:List Value} {xs:List Operand} {ts:Array TypeId} {ty:TypeId} {pos:String} {af:Array Edge} {args:List Value} {L F Y:Hp} {X:Value}
  (hg:ev E x=some (.func (.func f) fi.toArray ca.toArray)) (hx:evl E xs=some args) (hf:Does P f (fi++args++ca) L (Is X Y)) (hs:Split H L F) (hd:Nat.blt d n=true) {G:Hp} (hgg:Ap Y F G)
  (k:SO P n ops rest ((d,X)::E) G Q) (he:Ent P f:=by first | infer_instance | exact ⟨fun _ _=>by kernel_rfl⟩):SO P n ops (⟨some d,.call ⟨.value x,xs.toArray,ts⟩,ty,pos,af,none⟩::rest) E H Q :=
 Atp (he:=he) hg hx hf hs hd fun v L' ⟨h1,h2⟩=>by subst h1;subst h2;rw [hgg.eq];exact k
theorem Co {t e:TypeId} {x y:Operand} {b l c sz:Nat} {k:IntKind} {i:Int} [ht:Und P t (.slice e)] [hz:Siz P e sz] (hx:ev E x=some (.slice (some ⟨b,0,none⟩) l c)) (hy:ev E y=some (.int k i))
  (hi:0≤i∧i<l):Rd P E H (.indexAddr t x y) (.pointer (some ⟨b,i.toNat*sz,none⟩)):=by
 have:=Aak (P:=P) (H:=H) (t:=t) (e:=e) (sz:=sz) hx hy hi
 rwa [A6c] at this
theorem Fi {t e:TypeId} {x y:Operand} {b l sz:Nat} {k:IntKind} {i:Int} [ht:Und P t (.array l e)] [hz:Siz P e sz] (hx:ev E x=some (.pointer (some ⟨b,0,none⟩))) (hy:ev E y=some (.int k i))
  (hi:0≤i∧i<l):Rd P E H (.indexAddr t x y) (.pointer (some ⟨b,i.toNat*sz,none⟩)):=by
 have:=G3 (P:=P) (H:=H) (t:=t) (e:=e) (sz:=sz) hx hy hi
 rwa [A6c] at this
theorem Pl [rg:Rg] {l:List Oper} {G:Hp} (hg:H=G) (k:SO P n ops l E G Q):SO P n ops l E H Q:=by rw [hg];exact k
theorem A6 [rg:Rg] {l:List Oper} {Y F G:Hp} (hg:Ap Y F G) (k:SO P n ops l E G Q):SO P n ops l E (Y++F) Q:=by rw [hg.eq];exact k
theorem Ki [rg:Rg] {c:Code} {G:Hp} (hg:H=G) (k:SC P n c E G Q):SC P n c E H Q:=by rw [hg];exact k
theorem Does.to {f:FuncId} {args:List Value} {X X':Value} {Y Y':Hp} (h:Does P f args H (Is X Y)) (h1:X=X') (h2:Y=Y'):Does P f args H (Is X' Y'):=by rw [← h1,← h2];exact h
end
class Cel (α:Type) where
 sz:Nat
 cs:α→List Value
 len:∀ x,(cs x).length=sz
 one:∀ x,((cs x).all (·.oneCell'))=true
instance:Cel Int:=⟨1,fun i=>[.int .i64 i],fun _=>rfl,fun _=>rfl⟩
abbrev cells {α:Type} [Cel α] (xs:List α):List Value:=xs.flatMap Cel.cs
theorem Ho {α:Type} [Cel α] (xs:List α):(cells xs).length=xs.length*Cel.sz α:=Nh xs (fun x _=>Cel.len x)
theorem Gp {α:Type} [Cel α] (xs:List α):((cells xs).all (·.oneCell'))=true:=by
 rw [A4l]
 intro v hv
 obtain ⟨x,_,hx⟩:=List.mem_flatMap.1 hv
 exact A4l.1 (Cel.one x) v hx
def Pm {α:Type} [Cel α] (cs:List Value) (o:Nat) (xs:List α):Prop:=∀ (i:Nat) (x:α),xs[i]? =some x→cut cs (o+i*Cel.sz α) (Cel.sz α)=some (Cel.cs x)
inductive Sl (α:Type) [Cel α]
 | nil
 | emp (a:Addr)
 | vac (a:Addr) (cap:Nat)
 | own (b:Nat) (xs:List α) (cap:Nat) (sp:List Value) (h:(cap - xs.length)*Cel.sz α≤sp.length∧xs.length≤cap∧xs.length≤9223372036854775807)
 | view (b o:Nat) (r:Bool) (cs:List Value) (T:TypeId) (fr:Nat×Nat) (xs:List α) (cap:Nat) (h:Pm cs o xs∧xs.length≤cap∧xs.length≤9223372036854775807)
end
end Go.K
namespace Go.K.Sl
section
variable {α:Type} [Cel α]
def list:Sl α→List α
 | nil | emp _ | vac _ _=>[]
 | own _ xs _ _ _=>xs
 | view _ _ _ _ _ _ xs _ _=>xs
def ptr:Sl α→Option Addr
 | nil=>none
 | emp a=>some a
 | vac a _=>some a
 | own b _ _ _ _=>some ⟨b,0,none⟩
 | view b o _ _ _ _ _ _ _=>some ⟨b,o,none⟩
def cap:Sl α→Nat
 | nil | emp _=>0
 | vac _ c=>c
 | own _ _ c _ _=>c
 | view _ _ _ _ _ _ _ c _=>c
def bk:Sl α→Nat
 | nil | emp _ | vac _ _=>0
 | own b _ _ _ _=>b
 | view b _ _ _ _ _ _ _ _=>b
def off:Sl α→Nat
 | view _ o _ _ _ _ _ _ _=>o
 | _=>0
def isOwn:Sl α→Bool
 | view .. | vac .. =>false
 | _=>true
abbrev val (s:Sl α):Value:= .slice s.ptr s.list.length s.cap
@[irreducible] def hp (T:TypeId):Sl α→Hp
 | nil | emp _ | vac _ _=>[]
 | own b xs _ sp _=>[(b,true,C (cells xs++sp) T)]
 | view b _ r cs U fr _ _ _=>[(b,r,CF cs U fr)]
theorem hp_nil (T:TypeId):(nil:Sl α).hp T=[]:=by unfold hp;rfl
theorem hp_emp (T:TypeId) (a:Addr):(emp a:Sl α).hp T=[]:=by unfold hp;rfl
theorem hp_vac (T:TypeId) (a:Addr) (c:Nat):(vac a c:Sl α).hp T=[]:=by unfold hp;rfl
theorem hp_own (T:TypeId) (b:Nat) (xs:List α) (c:Nat) (sp:List Value) (h):(own b xs c sp h).hp T=[(b,true,C (cells xs++sp) T)]:=by unfold hp;rfl
theorem hp_view (T:TypeId) (b o:Nat) (r:Bool) (cs:List Value) (U:TypeId) (fr:Nat×Nat) (xs:List α) (c:Nat) (h):(view b o r cs U fr xs c h).hp T=[(b,r,CF cs U fr)]:=by unfold hp;rfl
theorem len_cap (s:Sl α):s.list.length≤s.cap:=by
 cases s with
 | nil=>exact A6h _
 | emp=>exact A6h _
 | vac=>exact A6j _
 | own _ _ _ _ h=>exact h.2.1
 | view _ _ _ _ _ _ _ _ h=>exact h.2.1
theorem small (s:Sl α):s.list.length≤9223372036854775807:=by
 cases s with
 | nil=>exact A6j _
 | emp=>exact A6j _
 | vac=>exact A6j _
 | own _ _ _ _ h=>exact h.2.2
 | view _ _ _ _ _ _ _ _ h=>exact h.2.2
theorem block (s:Sl α) (T:TypeId) (h:0<s.list.length):∃ r cs U fr,s.hp T=[(s.bk,r,CF cs U fr)]∧s.ptr=some ⟨s.bk,s.off,none⟩∧Pm cs s.off s.list:=by
 cases s with
 | nil=>simp [list] at h
 | emp=>simp [list] at h
 | vac=>simp [list] at h
 | own b xs c sp h' =>
  refine ⟨true,_,_,_,hp_own T b xs c sp h',rfl,fun i x hx=> ?_⟩
  refine Uq ?_ _
  have:=Pj (f:=Cel.cs) (n:=Cel.sz α) (l:=xs) (k:=i) (o:=0) (m:=Cel.sz α) (fun x _=>Cel.len x) hx (by have:=Kh (Cel.cs x);rwa [Cel.len] at this)
  simpa [off] using this
 | view b o r cs U fr xs c h'=>exact ⟨r,cs,U,fr,hp_view T b o r cs U fr xs c h',rfl,h'.1⟩
def set (s:Sl α) (i:Nat) (x:α):Sl α :=
 match s with
 | own b xs c sp h=>own b (xs.set i x) c sp (by simpa using h)
 | s=>s
theorem set_list (s:Sl α) (i:Nat) (x:α) (h:s.isOwn=true):(s.set i x).list=s.list.set i x:=by
 cases s <;> first | rfl | (simp [isOwn] at h;done) | simp [set,list]
theorem set_isOwn (s:Sl α) (i:Nat) (x:α) (h:s.isOwn=true):(s.set i x).isOwn=true:=by
 cases s <;> first | rfl | simp [isOwn] at h
theorem set_val (s:Sl α) (i:Nat) (x:α):(s.set i x).val=s.val:=by
 cases s <;> first | rfl | simp [val,set,ptr,list,cap]
end
end Go.K.Sl
namespace Go.K
section
section
variable {P:Program} {n:Nat} {E:Env} {H:Hp} {Q:C5} {ops:Array Oper} {rest:List Oper} {α:Type} [Cel α]
theorem Az {t e:TypeId} {x y:Operand} {s:Sl α} {sz:Nat} {k:IntKind} {i:Int} [ht:Und P t (.slice e)] [hz:Siz P e sz] (hx:ev E x=some s.val) (hy:ev E y=some (.int k i))
  (hi:0≤i∧i<s.list.length):Rd P E H (.indexAddr t x y) (.pointer (some ⟨s.bk,s.off+i.toNat*sz,none⟩)):=by
 obtain ⟨_,_,_,_,_,hp,_⟩:=s.block 0 (by omega)
 refine Aak (b:=s.bk) (o:=s.off) (l:=s.list.length) (c:=s.cap) ?_ hy hi
 rw [hx,Sl.val,hp]
theorem Ca {t T:TypeId} {x:Operand} {s:Sl α} {i o:Nat} {z:α} {v:Value} {F:Hp} {p:Nat} [ht:Agg P t false] (hx:ev E x=some (.pointer (some ⟨s.bk,p,none⟩))) (hm:PickL (s.hp T) H F) (hi:s.list[i]? =some z) (hv:nth (Cel.cs z) o=some v)
  (hp:p=s.off+i*Cel.sz α+o):Rd P E H (.load t x) v:=by
 have hlt:=(List.getElem?_eq_some_iff.1 hi).1
 obtain ⟨r,cs,U,fr,h1,h2,h3⟩:=s.block T (by omega)
 have h4:=h3 i z hi
 refine Al hx (hm.sub (by rw [h1];exact .head _)) ?_
 obtain ⟨e1,e2,e3⟩:=Ht _ _ _ _ h4
 rw [Dk] at hv ⊢
 rw [e1] at hv
 rw [A3w,A3v] at hv
 grind
theorem Ahv {a b c:List Value} {o m p q:Nat} (h:cut a o m=some b) (k:cut b p q=some c):cut a (o+p) q=some c:=by
 obtain ⟨h1,h2⟩:=cut_iff.1 h
 obtain ⟨k1,k2⟩:=cut_iff.1 k
 have hl:b.length=m:=(Ht _ _ _ _ h).2.2
 refine cut_iff.2 ⟨?_,by omega⟩
 rw [k1,h1,List.drop_take,A5k,List.take_take]
 grind
theorem Cq {t T:TypeId} {x:Operand} {s:Sl α} {i o sz:Nat} {z:α} {vs:List Value} {F:Hp} {p:Nat} [ht:Agg P t true] [hz:Siz P t sz] (hx:ev E x=some (.pointer (some ⟨s.bk,p,none⟩))) (hm:PickL (s.hp T) H F) (hi:s.list[i]? =some z) (hv:cut (Cel.cs z) o sz=some vs)
  (hp:p=s.off+i*Cel.sz α+o):Rd P E H (.load t x) (.agg vs.toArray):=by
 have hlt:=(List.getElem?_eq_some_iff.1 hi).1
 obtain ⟨r,cs,U,fr,h1,h2,h3⟩:=s.block T (by omega)
 have h4:=h3 i z hi
 subst hp
 exact Ao hx (hm.sub (by rw [h1];exact .head _)) (Ahv h4 hv)
theorem Ni [rg:Rg] {t T:TypeId} {x y:Operand} {ty:TypeId} {pos:String} {af:Array Edge} {s:Sl α} {i o p:Nat} {v:Value} {vs:List Value} {z z':α} {H':Hp}
  (hx:ev E x=some (.pointer (some ⟨s.bk,p,none⟩))) (hy:ev E y=some v) (hu:UpdL (s.hp T) ((s.set i z').hp T) H H') (ho:s.isOwn=true) (hi:s.list[i]? =some z) (hv:Ih v=some vs) {m:Nat} [hz:Siz P t m] (hm:vs.length=m) (hs:A7 (Cel.cs z) o vs=some (Cel.cs z'))
  (hp:p=i*Cel.sz α+o) (k:SO P n ops rest E H' Q):SO P n ops (⟨none,.store t x y,ty,pos,af,none⟩::rest) E H Q:=by
 subst hp
 cases s with
 | nil=>simp [Sl.list] at hi
 | emp=>simp [Sl.list] at hi
 | vac=>simp [Sl.list] at hi
 | view=>simp [Sl.isOwn] at ho
 | own b xs c sp h =>
  have h1:=hu.one (Sl.hp_own T b xs c sp h) (Sl.hp_own T b (xs.set i z') c sp (by simpa using h))
  refine Ac hx hy h1 hv hm ?_ k
  exact Jl (Gb (f:=Cel.cs) (fun x _=>Cel.len x) hi hs) sp
theorem Xz {cs:List Value} {o:Nat}:∀ {xs:List α},Pm cs o xs→0<xs.length→cut cs o (xs.length*Cel.sz α)=some (cells xs):=by
 intro xs
 induction xs generalizing o with
 | nil=>grind
 | cons x xs ih =>
  intro h _
  have h0:=h 0 x rfl
  simp only [Nat.zero_mul,A56] at h0
  have hx:=Cel.len (α:=α) x
  obtain ⟨a1,a2,a3⟩:=Ht _ _ _ _ h0
  by_cases hn:xs=[]
  ·grind
  ·have hs:Pm cs (o+Cel.sz α) xs:=fun i y hy=>by
    have:=h (i+1) y hy
    rwa [A6b,A55 (i*_),← A5z] at this
   have hr:=ih hs (List.length_pos_iff.2 hn)
   obtain ⟨b1,b2,b3⟩:=Ht _ _ _ _ hr
   refine cut_iff.2 ⟨?_,?_⟩
   ·rw [A4q,A6b,A55 (xs.length*_),cells,A36,a1]
    have:cells xs=((cs.drop o).drop (Cel.sz α)).take (xs.length*Cel.sz α):=by rw [b1,A5k]
    rw [show List.flatMap Cel.cs xs=cells xs from rfl,this,← List.take_add]
   ·rw [A4q,A6b];omega
theorem Jz {T:TypeId} {s:Sl α} {F:Hp} (hm:PickL (s.hp T) H F):Src H (Cel.sz α) s.val s.list.length (cells s.list):=by
 by_cases h0:s.list.length=0
 ·have:s.list=[]:=List.length_eq_zero_iff.1 h0
  unfold Sl.val
  rw [this]
  exact Aib
 ·obtain ⟨r,cs,U,fr,h1,h2,h3⟩:=s.block T (by omega)
  rw [Sl.val,h2]
  exact Ck (r:=r) (cs:=cs) (T:=U) (fr:=fr) (hm.sub (by rw [h1];exact .head _)) (Xz h3 (by omega))
theorem Aac {sz:Nat} {w:World} {p:Option Addr}:(Builtin.firstCells sz 0 (.slice p 0 0)).run P w= .ok ([]:List Value).toArray w:=by
 cases p with
 | none=>simp [Builtin.firstCells]
 | some a=>simpa [Builtin.firstCells] using Yo (P:=P) (a:=a) (w:=w)
theorem Afn [rg:Rg] {d:Nat} {t u e:TypeId} {x y:Operand} {ty:TypeId} {pos:String} {af:Array Edge} {m sz bs:Nat} {new zs:List Value} {v:Value} {p:Option Addr}
  [ht:Und P t (.slice e)] [hu:Und P u (.slice e)] [hz:Zer P e zs] [hs:Siz P e sz] [hby:Byt P e bs]
  (hx:ev E x=some (.slice p 0 0)) (hy:ev E y=some v) (hsrc:Src H sz v m new) (hm:1≤m) (hzl:Nat.beq zs.length sz=true) (hbs:Nat.ble 1 bs=true) (hroom:(2*m+1024)*bs≤281474976710656) (hd:Nat.blt d n=true)
  (k:∀ b' c' (spare':List Value),spare'.length=(c' - m)*sz→m≤c'→SO P n ops rest ((d,.slice (some ⟨b',0,none⟩) m c')::E) ((b',true,C (new++spare') e)::H) Q) :
  SO P n ops (⟨some d,.call ⟨.builtin .append,#[x,y],#[t,u]⟩,ty,pos,af,none⟩::rest) E H Q:=by
 intro a w h1 h2 h3 h4
 refine A6f rfl fun K hK=> ?_
 have hzl':zs.length=sz:=A24 hzl
 have hlt:d<a.tmps.size:=by rw [h2];simp_all
 unfold Oper.wp
 obtain ⟨nc,hnc,hrun⟩:=My (P:=P) (t:=t) (u:=u) (ty:=ty) (p:=p) (l:=0) (c:=0) (old:=[]) h4 hsrc (fun k=>Aac) (by omega) hzl' (A25 hbs) (by grind)
 rw [Jr (As h1 hx) (As h1 hy) hrun]
 rw [A6c] at hnc
 have ht':=I5 (cs:=[]++new++Gd (nc - (0+m)) zs) (T:=e) (Da h4 (w.drawn+1)).ok
 have htr:=(Da h4 (w.drawn+1)).trans ht'
 have hfin:=k w.heap.size nc (Gd (nc - m) zs) (by rw [Kq,hzl']) hnc
 have e2:([]++new++Gd (nc - (0+m)) zs)=new++Gd (nc - m) zs:=by simp
 have e3:0+m=m:=A6c m
 rw [e2] at htr ⊢
 rw [e3]
 exact hK _ _ (Br htr (hfin _ _ (h1.put hlt) (by simp [Act.put,h2]) h3 htr.ok))
theorem Acr [rg:Rg] {d:Nat} {t u e:TypeId} {x y:Operand} {ty:TypeId} {pos:String} {af:Array Edge} {sz:Nat} {new:List Value} {v:Value} {p:Option Addr}
  [ht:Und P t (.slice e)] [hu:Und P u (.slice e)] [hs:Siz P e sz]
  (hx:ev E x=some (.slice p 0 0)) (hy:ev E y=some v) (hsrc:Src H sz v 0 new) (hd:Nat.blt d n=true)
  (k:SO P n ops rest ((d,.slice p 0 0)::E) H Q) :
  SO P n ops (⟨some d,.call ⟨.builtin .append,#[x,y],#[t,u]⟩,ty,pos,af,none⟩::rest) E H Q:=by
 intro a w h1 h2 h3 h4
 refine A6f rfl fun K hK=> ?_
 have hlt:d<a.tmps.size:=by rw [h2];simp_all
 unfold Oper.wp
 have hrun:=N5 (P:=P) (t:=t) (u:=u) (ty:=ty) (p:=p) (l:=0) (c:=0) h4 hsrc (by omega)
 have hn:new=[]:=List.length_eq_zero_iff.1 (by have:=(Df (P:=P) h4 hsrc).2.2;omega)
 subst hn
 have hrun':(Builtin.append_ #[t,u] ty #[.slice p 0 0,v]).run P w= .ok (.slice p 0 0) w:=by
  rw [hrun]
  cases p <;> simp [storeCells]
 rw [Jr (As h1 hx) (As h1 hy) hrun']
 exact hK _ _ (k _ _ (h1.put hlt) (by simp [Act.put,h2]) h3 h4)
theorem A5 [rg:Rg] {d:Nat} {t u e:TypeId} {x y:Operand} {ty:TypeId} {pos:String} {af:Array Edge} {m sz bs:Nat} {s:Sl α} {new:List α} {zs:List Value} {v:Value} {F:Hp}
  [ht:Und P t (.slice e)] [hu:Und P u (.slice e)] [hz:Zer P e zs] [hs:Siz P e sz] [hby:Byt P e bs]
  (hx:ev E x=some s.val) (hy:ev E y=some v) (hp:PickL (s.hp e) H F) (ho:s.isOwn=true) (hsrc:Src H sz v m (cells new)) (hm:new.length=m) (hsz:Nat.beq sz (Cel.sz α)=true)
  (hzl:Nat.beq zs.length sz=true) (hbs:Nat.ble 1 bs=true) (hroom:(2*(s.list.length+m)+1024)*bs≤281474976710656) (hd:Nat.blt d n=true)
  (k:∀ s':Sl α,s'.list=s.list++new→s'.isOwn=true→SO P n ops rest ((d,s'.val)::E) (s'.hp e++F) Q) :
  SO P n ops (⟨some d,.call ⟨.builtin .append,#[x,y],#[t,u]⟩,ty,pos,af,none⟩::rest) E H Q:=by
 have hsm:s.list.length+m≤9223372036854775807:=by
  have h1:=Nat.le_mul_of_pos_right (2*(s.list.length+m)+1024) (show 0<bs from A25 hbs)
  omega
 have hsz':sz=Cel.sz α:=A24 hsz
 have hz:∀ (p:Option Addr),s.val= .slice p 0 0→s.list=[]→s.hp e=[]→s.isOwn=true→SO P n ops (⟨some d,.call ⟨.builtin .append,#[x,y],#[t,u]⟩,ty,pos,af,none⟩::rest) E H Q:=by
  intro p hv hl hh how
  have hHF:H=F:=hp.nil_eq hh
  rw [hv] at hx
  rw [hl] at hroom
  by_cases h0:m=0
  ·subst h0
   have hn:new=[]:=List.length_eq_zero_iff.1 hm
   refine Acr hx hy hsrc hd ?_
   have:=k s (by rw [hn];simp) how
   rw [hh,hv,A5b,← hHF] at this
   exact this
  ·refine Afn hx hy hsrc (by omega) hzl hbs (by grind) hd (fun b c sp h1 h2=> ?_)
   have:=k (.own b new c sp ⟨by rw [h1,hm,hsz'];omega,by omega,by omega⟩) (by rw [hl];rfl) rfl
   rw [Sl.hp_own,← hHF] at this
   simpa [Sl.val,Sl.ptr,Sl.list,Sl.cap,hm] using this
 cases s with
 | nil=>exact hz none rfl rfl (Sl.hp_nil e) rfl
 | emp a=>exact hz (some a) rfl rfl (Sl.hp_emp e a) rfl
 | view=>simp [Sl.isOwn] at ho
 | vac=>simp [Sl.isOwn] at ho
 | own b xs c sp h =>
  refine Aop (old:=cells xs) (spare:=sp) (l:=xs.length) (c:=c) hx hy (hp.one (Sl.hp_own ..)) (by rw [Ho,hsz']) (by rw [hsz'];omega) hsrc (Gp new) hzl hbs hroom hd (fun b' c' sp' h1 h2=> ?_)
  have:=k (.own b' (xs++new) c' sp' ⟨by rw [A3x,hm,← hsz'];exact h1,by rw [A3x];omega,by rw [A3x,hm];exact hsm⟩) rfl rfl
  rw [Sl.hp_own] at this
  simpa [Sl.val,Sl.ptr,Sl.list,Sl.cap,hm,cells] using this
end
end
section
abbrev By:=BitVec 8
def bv (x:By):Value:= .int .u8 x.toNat
instance:Cel By:=⟨1,fun x=>[bv x],fun _=>rfl,fun _=>rfl⟩
theorem Mo (xs:List By):cells xs=xs.map bv:=by
 induction xs with
 | nil=>rfl
 | cons x xs ih=>simp only [cells,A36] at *;rw [ih];rfl
abbrev Wd:=BitVec 64
def wv (x:Wd):Value:= .int .u64 x.toNat
instance:Cel Wd:=⟨1,fun x=>[wv x],fun _=>rfl,fun _=>rfl⟩
instance {α:Type} [Cel α]:Cel (Sl α):=⟨1,fun s=>[s.val],fun _=>rfl,fun _=>rfl⟩
def Sub (L H:Hp):Prop:=∀ x∈L,x∈H
theorem PickL.toSub {L H F:Hp} (h:PickL L H F):Sub L H:=fun _ hx=>h.sub hx
theorem Sub.trans {L M H:Hp} (h:Sub L M) (k:Sub M H):Sub L H:=fun x hx=>k x (h x hx)
theorem Ur {α:Type} {xs:List α} {k i:Nat} {x:α} (h:(xs.take k)[i]? =some x):xs[i]? =some x:=by
 rw [A3w] at h
 grind
end
end Go.K
namespace Go.K.Sl
section
variable {α:Type} [Cel α]
theorem nil_of (s:Sl α) (h:s.ptr.isNone=true):s= .nil:=by
 cases s <;> first | rfl | (simp [ptr] at h)
theorem X1 {xs:List α} {sp:List Value}:Pm (cells xs++sp) 0 xs:=fun i x hx=>by
 refine Uq ?_ _
 have:=Pj (f:=Cel.cs) (n:=Cel.sz α) (l:=xs) (k:=i) (o:=0) (m:=Cel.sz α) (fun x _=>Cel.len x) hx (by have:=Kh (Cel.cs x);rwa [Cel.len] at this)
 grind
def take (s:Sl α) (k:Nat) (T:TypeId):Sl α :=
 match s with
 | nil=>nil
 | emp a=>emp a
 | vac a c=>vac a c
 | own b xs c sp h=>view b 0 true (cells xs++sp) T (0,0) (xs.take k) c ⟨fun i x hx=>X1 i x (Ur hx),by have:=h.2.1;rw [A4s];omega,by have:=h.2.2;rw [A4s];omega⟩
 | view b o r cs U fr xs c h=>view b o r cs U fr (xs.take k) c ⟨fun i x hx=>h.1 i x (Ur hx),by have:=h.2.1;rw [A4s];omega,by have:=h.2.2;rw [A4s];omega⟩
theorem take_list (s:Sl α) (k:Nat) (T:TypeId):(s.take k T).list=s.list.take k:=by cases s <;> simp [take,list]
theorem take_hp (s:Sl α) (k:Nat) (T:TypeId):(s.take k T).hp T=s.hp T:=by
 cases s
 ·rfl
 ·rfl
 ·rfl
 ·simp only [take,hp_view,hp_own]
 ·simp only [take,hp_view]
theorem take_ptr (s:Sl α) (k:Nat) (T:TypeId):(s.take k T).ptr=s.ptr:=by cases s <;> rfl
theorem take_cap (s:Sl α) (k:Nat) (T:TypeId):(s.take k T).cap=s.cap:=by cases s <;> rfl
theorem Us {cs:List Value} {o:Nat} {xs:List α} (h:Pm cs o xs) (k:Nat):Pm cs (o+k*Cel.sz α) (xs.drop k):=fun i x hx=>by
 rw [A3v] at hx
 have:=h (k+i) x hx
 rwa [Nat.add_mul,← A5z] at this
def drop (s:Sl α) (k:Nat) (T:TypeId):Sl α :=
 match s with
 | nil=>nil
 | emp a=>emp a
 | vac a c=>vac (if c=k then a else a.add (k*Cel.sz α)) (c - k)
 | own b xs c sp h=>view b (if c=k then 0 else k*Cel.sz α) true (cells xs++sp) T (0,0) (xs.drop k) (c - k) ⟨by
   split
   ·intro i x hx;rw [A2q (by have:=h.2.1;omega)] at hx;cases hx
   ·have:=Us (X1 (xs:=xs) (sp:=sp)) k;rwa [A6c] at this,by have:=h.2.1;rw [A4r];omega,by have:=h.2.2;rw [A4r];omega⟩
 | view b o r cs U fr xs c h=>view b (if c=k then o else o+k*Cel.sz α) r cs U fr (xs.drop k) (c - k) ⟨by
   split
   ·intro i x hx;rw [A2q (by have:=h.2.1;omega)] at hx;cases hx
   ·exact Us h.1 k,by have:=h.2.1;rw [A4r];omega,by have:=h.2.2;rw [A4r];omega⟩
theorem drop_list (s:Sl α) (k:Nat) (T:TypeId):(s.drop k T).list=s.list.drop k:=by
 cases s <;> simp only [drop,list,List.drop_nil]
theorem drop_hp (s:Sl α) (k:Nat) (T:TypeId):(s.drop k T).hp T=s.hp T:=by
 cases s
 ·rfl
 ·rfl
 ·simp only [drop,hp_vac]
 ·simp only [drop,hp_view,hp_own]
 ·simp only [drop,hp_view]
theorem drop_cap (s:Sl α) (k:Nat) (T:TypeId) (h:k≤s.cap):(s.drop k T).cap=s.cap - k:=by
 cases s <;> simp [drop,cap] at *
theorem drop_ptr (s:Sl α) (k:Nat) (T:TypeId) (h:k≤s.cap):(s.drop k T).ptr=if s.cap=k then s.ptr else s.ptr.map (·.add (k*Cel.sz α)):=by
 cases s with
 | nil=>simp [drop,ptr]
 | emp a=>simp [cap] at h;simp [drop,ptr,cap,h]
 | vac a c=>simp only [drop,cap,ptr];split <;> simp_all
 | own b xs c sp hh=>simp only [drop,ptr,cap];split <;> simp_all [B8]
 | view b o r cs U fr xs c hh=>simp only [drop,ptr,cap];split <;> simp_all [B8]
end
end Go.K.Sl
namespace Go.K
section
section
variable {P:Program} {n:Nat} {E:Env} {H:Hp} {Q:C5} {ops:Array Oper} {rest:List Oper} {α:Type} [Cel α]
theorem Acs {t T:TypeId} {x:Operand} {s:Sl α} {i o:Nat} {z:α} {v:Value} {p:Nat} [ht:Agg P t false] (hx:ev E x=some (.pointer (some ⟨s.bk,p,none⟩))) (hm:Sub (s.hp T) H) (hi:s.list[i]? =some z) (hv:nth (Cel.cs z) o=some v)
  (hp:p=s.off+i*Cel.sz α+o):Rd P E H (.load t x) v:=by
 have hlt:=(List.getElem?_eq_some_iff.1 hi).1
 obtain ⟨r,cs,U,fr,h1,h2,h3⟩:=s.block T (by omega)
 have h4:=h3 i z hi
 refine Al hx (hm _ (by rw [h1];exact .head _)) ?_
 obtain ⟨e1,e2,e3⟩:=Ht _ _ _ _ h4
 rw [Dk] at hv ⊢
 rw [e1] at hv
 rw [A3w,A3v] at hv
 grind
theorem To {T:TypeId} {s:Sl α} (hm:Sub (s.hp T) H):Src H (Cel.sz α) s.val s.list.length (cells s.list):=by
 by_cases h0:s.list.length=0
 ·have:s.list=[]:=List.length_eq_zero_iff.1 h0
  unfold Sl.val
  rw [this]
  exact Aib
 ·obtain ⟨r,cs,U,fr,h1,h2,h3⟩:=s.block T (by omega)
  rw [Sl.val,h2]
  exact Ck (r:=r) (cs:=cs) (T:=U) (fr:=fr) (hm _ (by rw [h1];exact .head _)) (Xz h3 (by omega))
theorem Aka {t e:TypeId} {x hi:Operand} {s:Sl α} {k:IntKind} {j:Int} [ht:Und P t (.slice e)] {sz:Nat} [hz:Siz P e sz] (T:TypeId) (hx:ev E x=some s.val) (hhi:ev E hi=some (.int k j)) (hb:0≤j∧j≤s.list.length) :
  Rd P E H (.slice t x none (some hi) none) (s.take j.toNat T).val:=by
 have h1:=s.len_cap
 have:=Afv (P:=P) (H:=H) (t:=t) (e:=e) (sz:=sz) hx hhi (by omega)
 unfold Sl.val
 rw [Sl.take_ptr,Sl.take_cap,Sl.take_list,A4s,A5g (by omega)]
 exact this
theorem X2 {t e:TypeId} {x lo:Operand} {s:Sl α} {k:IntKind} {i:Int} [ht:Und P t (.slice e)] {sz:Nat} [hz:Siz P e sz] (T:TypeId) (hx:ev E x=some s.val) (hlo:ev E lo=some (.int k i)) (hb:0≤i∧i≤s.list.length) (hsz:sz=Cel.sz α) :
  Rd P E H (.slice t x (some lo) none none) (s.drop i.toNat T).val:=by
 subst hsz
 have h1:=s.len_cap
 have:=Ol (P:=P) (H:=H) (t:=t) (e:=e) (sz:=Cel.sz α) hx hlo hb
 unfold Sl.val
 rw [Sl.drop_ptr _ _ _ (by omega),Sl.drop_cap _ _ _ (by omega),Sl.drop_list,A4r]
 exact this
theorem Akb {t e:TypeId} {x hi mx:Operand} {p:Option Addr} {l c sz:Nat} {k k':IntKind} {j m:Int} [ht:Und P t (.slice e)] [hz:Siz P e sz] (hx:ev E x=some (.slice p l c)) (hhi:ev E hi=some (.int k j)) (hmx:ev E mx=some (.int k' m)) (hb:0≤j∧j≤m∧m≤c) :
  Rd P E H (.slice t x none (some hi) (some mx)) (.slice p j.toNat m.toNat) :=
 fun a w d ty pos af g h1 h2=>by
  have e1:0≤m∧m≤(c:Int):=by omega
  have e2:0≤j∧j≤(m.toNat:Int):=by omega
  cases p <;> simp [execOp,As h1 hx,As h1 hhi,As h1 hmx,Instr.sliceAt,Instr.slice,A5r ht.eq,Instr.sliceBounds,Gq e1,Gq e2,Bd,B8,Addr.add]
theorem Ax4 {t e:TypeId} {x:Operand} {ad:Addr} {l c n:Nat} [ht:Und P t (.array n e)] (hx:ev E x=some (.slice (some ad) l c)) (hn:n≤l):Rd P E H (.sliceToArrayPointer t x) (.pointer (some ad)) :=
 fun a w d ty pos af g h1 h2=>by
  have:¬ l<n:=by omega
  simp [execOp,As h1 hx,Instr.arrayAt,A5r ht.eq,this]
theorem Hq [rg:Rg] {d:Option Tmp} {t u e:TypeId} {x y:Operand} {ty:TypeId} {pos:String} {af:Array Edge} {b o dl dc m sz:Nat} {v:Value} {cs cs' new:List Value} {T:TypeId} {H':Hp} [ht:Und P t (.slice e)] [hs:Siz P e sz]
  (hx:ev E x=some (.slice (some ⟨b,o,none⟩) dl dc)) (hy:ev E y=some v) (hsrc:Src H sz v m new) (hml:m≤dl) (hu:Upd b (C cs T) (C cs' T) H H')
  (hsp:A7 cs o new=some cs') (h1c:(new.all (·.oneCell'))=true) (hd:(match d with | some d=>Nat.blt d n | none=>true)=true)
  (k:SO P n ops rest (match d with | some d=>(d,.int .i64 (m:Nat))::E | none=>E) H' Q):SO P n ops (⟨d,.call ⟨.builtin .copy,#[x,y],#[t,u]⟩,ty,pos,af,none⟩::rest) E H Q:=by
 intro a w h1 h2 h3 h4
 refine A6f rfl fun K hK=> ?_
 obtain ⟨hf1,hf2,hf3⟩:=Df (P:=P) h4 hsrc
 have hst:=Mx (P:=P) h4 hu hsp (fun z hz=>A4l.1 h1c z hz)
 have hmin:Nat.min m dl=m:=A5g hml
 have hrun:(execOp a.eval ⟨d,.call ⟨.builtin .copy,#[x,y],#[t,u]⟩,ty,pos,af,none⟩).run P w= .ok (.value (.int .i64 (m:Nat))) (B6 w b (C cs' T)):=by
  simp only [execOp,Bs,Sem.run_bind,invoke,builtin]
  simp [As h1 hx,As h1 hy,Builtin.copy_,A5r ht.eq,hf1,hf2,hmin,Bd,hst,goInt]
 unfold Oper.wp
 rw [hrun]
 have htr:=Pq h4 hu
 refine hK _ _ (Br htr ?_)
 cases d with
 | none=>exact k _ _ h1 h2 h3 htr.ok
 | some d =>
  have hlt:d<a.tmps.size:=by rw [h2];exact A25 hd
  exact k _ _ (h1.put hlt) (by simp [Act.put,h2]) h3 htr.ok
class Mnz (P:Program) (f:FuncId) (t:outParam TypeId):Prop where
 eq : ∃ fn ps, P.funcs[f]? = some fn ∧ (fn.name == "runtime.NumGoroutine") = false ∧ fn.body.isNone = true ∧ Extern.findNext fn = none ∧ Extern.find fn = some (Extern.BytealgMakeNoZero.makeNoZero ps #[t])
theorem A0h [rg:Rg] {d:Nat} {f:FuncId} {t e:TypeId} {x:Operand} {ts:Array TypeId} {ty:TypeId} {pos:String} {af:Array Edge} {m:Nat} [hf:Mnz P f t] [ht:Und P t (.slice e)]
  (hx:ev E x=some (.int .i64 (m:Nat))) (hm:m≤281474976710656) (hd:Nat.blt d n=true)
  (k:∀ b (cs:List Value),m≤cs.length→SO P n ops rest ((d,.slice (some ⟨b,0,none⟩) m cs.length)::E) ((b,true,C cs e)::H) Q) :
  SO P n ops (⟨some d,.call ⟨.value (.func f),#[x],ts⟩,ty,pos,af,none⟩::rest) E H Q:=by
 intro a w h1 h2 h3 h4
 refine A6f rfl fun K hK=> ?_
 obtain ⟨fn,ps,f1,f2,f3,f4,f5⟩:=hf.eq
 obtain ⟨cs,hr,hle,_⟩:=Lib.run_makeNoZero (P:=P) w ps t e ht.eq m hm
 have hrun:(execOp a.eval ⟨some d,.call ⟨.value (.func f),#[x],ts⟩,ty,pos,af,none⟩).run P w= .ok (.value (.slice (some ⟨w.heap.size,0,none⟩) m cs.size)) (w.drew.drew.alloc (.cells cs e)):=by
  simp only [execOp,resolve,Act.eval,Deferred.ofValue,invoke]
  have hxx:=As h1 hx
  have e1:(#[x].map a.eval++#[])=#[.int .i64 (m:Nat)]:=by simp [hxx]
  have:=run_callFunc_extern (P:=P) f1 f2 f3 f4 f5 #[.int .i64 (m:Nat)] w
  rw [hr] at this
  simp_all
 unfold Oper.wp
 rw [hrun]
 have hlt:d<a.tmps.size:=by rw [h2];simp_all
 have t0:=(Da h4 (w.drawn+1)).trans (Da (Da h4 (w.drawn+1)).ok (w.drawn+1+1))
 have t1:Trk w (w.drew.drew.alloc (.cells cs e)) H ((w.heap.size,true,C cs.toList e)::H):=by
  have:=t0.trans (I5 (cs:=cs.toList) (T:=e) t0.ok)
  exact this
 have:=k w.heap.size cs.toList (by omega)
 refine hK _ _ (Br t1 ?_)
 have h:=this (a.put (some d) (.slice (some ⟨w.heap.size,0,none⟩) m cs.size)) (w.drew.drew.alloc (.cells cs e)) ?_ (by simp [Act.put,h2]) h3 t1.ok
 ·exact h
 ·simpa using h1.put (v:= .slice (some ⟨w.heap.size,0,none⟩) m cs.size) hlt
def Oj (xs:List By):ByteArray:=xs.foldl (fun r x=>r.push (UInt8.ofNat x.toNat)) ByteArray.empty
theorem X3 (xs:List By):(Oj xs).data.toList=xs.map fun x=>UInt8.ofNat x.toNat:=by
 have:∀ (xs:List By) (r:ByteArray),(xs.foldl (fun r x=>r.push (UInt8.ofNat x.toNat)) r).data.toList=r.data.toList++xs.map fun x=>UInt8.ofNat x.toNat:=by
  intro xs
  induction xs with
  | nil=>intro r;simp
  | cons x xs ih=>simp_all
 have h:=this xs ByteArray.empty
 rw [show (ByteArray.empty).data.toList=[] from rfl,A5b] at h
 exact h
theorem Anw {xs ys:List By} (h:Oj xs=Oj ys):xs=ys:=by
 have h1:=X3 xs
 rw [h,X3 ys] at h1
 have hi:∀ x y:By,UInt8.ofNat x.toNat=UInt8.ofNat y.toNat→x=y:=fun x y h=>by
  have:=A6r UInt8.toNat h
  simp_all
 have:∀ (xs ys:List By),ys.map (fun x=>UInt8.ofNat x.toNat)=xs.map (fun x=>UInt8.ofNat x.toNat)→xs=ys:=by
  intro xs
  induction xs with
  | nil=>simp_all
  | cons x xs ih =>
   intro ys h
   cases ys with
   | nil=>simp at h
   | cons y ys =>
    grind
 grind
theorem H6 {s t e T:TypeId} {x:Operand} {v:Sl By} [hs:Und P s (.slice e)] [he:Und P e (.int .u8)] [ht:Und P t .string] (hx:ev E x=some v.val) (hm:Sub (v.hp T) H):Rd P E H (.convert s t x) (.string (Oj v.list)) :=
 fun a w d ty pos af g h1 h2=>by
  have hsrc:=To hm
  simp only [execOp,As h1 hx,Sem.run_bind]
  have hc:(convert s t v.val).run P w= .ok (.string (Oj v.list)) w:=by
   rw [Sl.val,run_convert_bytes_string w s t e _ _ _ hs.eq he.eq ht.eq]
   cases hp:v.ptr with
   | none =>
    have:=Sl.nil_of v (by rw [hp];rfl)
    subst this
    simp [Conv.bytesToString,Sl.list,Oj]
   | some ad =>
    have hf:=(Df (P:=P) h2 hsrc).1
    rw [Sl.val,hp] at hf
    have hl:(loadCells ad v.list.length).run P w= .ok ((v.list.map fun x=>(x.toNat:Int)).map (Value.int .u8)).toArray w:=by
     have e1:v.list.length*1=v.list.length:=A6i _
     have e2:(v.list.map fun x=>(x.toNat:Int)).map (Value.int .u8)=cells v.list:=by rw [Mo,A51];rfl
     rw [e2]
     simpa [Builtin.firstCells,Cel.sz] using hf
    rw [run_bytesToString w ad _ _ _ hl]
    simp [List.foldl_map,Oj]
  rw [hc];rfl
theorem Atq (xs ys:List By):((Oj xs).toList == (Oj ys).toList)=decide (xs=ys):=by
 by_cases h:xs=ys
 ·subst h;simp
 ·have h2:¬ (Oj xs).toList=(Oj ys).toList:=fun e=>h (Anw (by
   rw [ByteArray.toList_eq,ByteArray.toList_eq] at e
   exact ByteArray.ext (Array.ext' e)))
  simp [h,h2]
theorem Acu {t u:TypeId} {x y:Operand} {xs ys:List By} (hx:ev E x=some (.string (Oj xs))) (hy:ev E y=some (.string (Oj ys))):Rd P E H (.binOp .eql t x y u) (.bool (decide (xs=ys))) :=
 fun a w d ty pos af g h1 h2=>by
  rw [← Atq]
  simp only [execOp,As h1 hx,As h1 hy,eqGuard,binOp_string_eql]
  simp
end
end
end Go.K
