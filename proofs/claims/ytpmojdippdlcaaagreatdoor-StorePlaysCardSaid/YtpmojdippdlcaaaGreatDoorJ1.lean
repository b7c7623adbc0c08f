/- every call of any script on a store answers as the document says, while acts of the chip fail, as long as there are spares, and leaves the document's nodes, also when it is opened again; its conditions are the statement's own: the bounds of scripts, bodies and fails; the conditions are the statement's own: part 1. -/
import Derived.Test.YtpmojdippdlcaaaGreatDoorJ0
import Derived.Laws.Externs
import Derived.Sort.Row
import Derived.Sort.Grow
import Derived.RangeFuncLeaves
import Derived.Lib.SlBytesConst
import Derived.Shelf.GgSortFunc.RowK
import Derived.ProofKit
import Derived.OpenShut
import Derived.ChangeArms
set_option linter.unusedVariables false
set_option linter.unusedSimpArgs false
set_option maxRecDepth 100000
set_option maxHeartbeats 1000000
set_option synthInstance.maxSize 4000
set_option synthInstance.maxHeartbeats 400000
namespace Go.K
section
section
variable {P:Program} {n:Nat} {E:Env} {H:Hp} {Q:C5} {ops:Array Oper} {q:Exit→Act→World→Prop}
structure Inv (ops:Array Oper) (L1 listed:Array Bool):Prop where
 size:listed.size=ops.size
 closed:∀ j oj,ops[j]? =some oj→listed.getD j false=true→∀ e∈oj.after,Region.binds .any e=true→listed.getD e.on false=true
 tail:∀ t,L1.getD t true=false→listed.getD t true=false
theorem Inv.set {L1 listed:Array Bool} {i:Nat} (inv:Inv ops L1 listed) (hi:i∈Region.ready .any ops listed) (hin:L1.getD i true=true):Inv ops L1 (listed.setIfInBounds i true):=by
 obtain ⟨_,oi,hoi,hall⟩:=A6p.1 hi
 have hlt:i<listed.size:=by rw [inv.size];grind
 refine ⟨by simp [inv.size],fun j oj hj hl e he hb=> ?_,fun t ht=> ?_⟩
 ·have key:listed.getD e.on false=true:=by
   by_cases hij:i=j
   ·grind
   ·rw [getD_set_ne false hij] at hl
    exact inv.closed j oj hj hl e he hb
  by_cases hie:i=e.on
  ·rw [← hie]
   grind
  simp_all
 ·have hit:i≠t:=fun e=>by rw [e,ht] at hin;cases hin
  rw [getD_set_ne true hit]
  exact inv.tail t ht
def Aad (ops:Array Oper) (L0 L1:Array Bool) (t:Nat):Nat→Nat→Bool
 | 0,s=>Region.waitsFor .any ops t s
 | f+1,s=>Region.waitsFor .any ops t s || (List.range ops.size).any fun j=> !L0.getD j true && L1.getD j false && Region.waitsFor .any ops j s && Aad ops L0 L1 t f j
def Ut (ops:Array Oper) (L0 L1:Array Bool):Bool :=
 (List.range ops.size).all fun t=>L1.getD t true || ((List.range ops.size).any fun t'=> !L1.getD t' true && Region.waitsFor .any ops t t') || (List.range ops.size).all fun s=>L0.getD s true || !L1.getD s true || Aad ops L0 L1 t 5 s
theorem Acv {L0 L1 listed:Array Bool} {t:Nat} (inv:Inv ops L1 listed) (ht:t∈Region.ready .any ops listed):∀ (f s:Nat),Aad ops L0 L1 t f s=true→listed.getD s true=false→False:=by
 have direct:∀ s,Region.waitsFor .any ops t s=true→listed.getD s true=false→False:=fun s hw hs=>by
  obtain ⟨o,ho,e,he,hb,hon⟩:=A3f hw
  obtain ⟨_,ot,hot,hall⟩:=A6p.1 ht
  have:o=ot:=A5i (ho.symm.trans hot)
  grind
 intro f
 induction f with
 | zero=>intro s h hs;exact direct s h hs
 | succ f ih =>
  intro s h hs
  simp only [Aad,A40] at h
  rcases h with h | h
  ·grind
  ·obtain ⟨j,hj,hj2⟩:=A4m.1 h
   simp only [A4k] at hj2
   obtain ⟨⟨⟨h1,h2⟩,h3⟩,h4⟩:=hj2
   have hju:listed.getD j true=false:=by
    obtain ⟨oj,hoj,e,he,hb,hon⟩:=A3f h3
    cases hl:listed.getD j false with
    | true =>
     have:=inv.closed j oj hoj hl e he hb
     rw [hon,getD_both hs] at this
     cases this
    | false =>
     have:j<listed.size:=by rw [inv.size];grind
     grind
   grind
theorem Ss {L0 L1 listed:Array Bool} (hB:Ut ops L0 L1=true) (h0:∀ i,listed.getD i true=false→L0.getD i true=false) (inv:Inv ops L1 listed) {i:Nat} (hi:L1.getD i true=true) (hun:listed.getD i true=false) :
  ∀ t,L1.getD t true=false→t∉Region.ready .any ops listed:=by
 intro t ht hr
 obtain ⟨_,ot,hot,hall⟩:=A6p.1 hr
 have hts:=(Array.getElem?_eq_some_iff.1 hot).1
 have h1:=A4l.1 hB t (A5n.2 hts)
 rw [ht,A5t,A40] at h1
 rcases h1 with h1 | h1
 ·obtain ⟨t',ht',h2⟩:=A4m.1 h1
  simp only [A4k,A32] at h2
  obtain ⟨o',ho',e,he,hb,hon⟩:=A3f h2.2
  have:o'=ot:=A5i (ho'.symm.trans hot)
  subst this
  have h3:=hall e he hb
  rw [hon,getD_both (inv.tail t' h2.1)] at h3
  cases h3
 ·have his:i<ops.size:=by
   rcases A58 i listed.size with h | h
   ·rw [inv.size] at h;exact h
   grind
  have h2:=A4l.1 h1 i (A5n.2 his)
  rw [h0 i hun,hi,A5u,A5t,A5t] at h2
  exact Acv inv hr 5 i h2 hun
def Uu (P:Program) (ops:Array Oper) (q:Exit→Act→World→Prop) (T:World→Prop) (L1:Array Bool) (L:Array Bool→Act→World→Prop):Nat→Array Bool→Act→World→Prop
 | 0,listed,a,w=>L listed a w
 | f+1,listed,a,w =>
  Region.ready .any ops listed≠[]∧∀ i∈Region.ready .any ops listed,L1.getD i true=true∧wpOp P ops q i (fun a' w'=>T w'∧Uu P ops q T L1 L f (listed.setIfInBounds i true) a' w') a w
variable {T:World→Prop} {L1:Array Bool} {L:Array Bool→Act→World→Prop}
theorem Uv {g:Nat} (hL:∀ listed a w,L listed a w→wpAny P .any ops q g listed a w) :
  ∀ (f:Nat) (listed:Array Bool) (a:Act) (w:World),Uu P ops q T L1 L f listed a w→wpAny P .any ops q (f+g) listed a w
 | 0,listed,a,w,h=>by rw [A6c];exact hL _ _ _ h
 | f+1,listed,a,w,h=>by
  rw [show f+1+g=(f+g)+1 by omega]
  exact ⟨fun h0=>absurd h0 h.1,fun i hi=>wpOp_mono (fun a' w' h'=>Uv hL f _ a' w' h'.2) (h.2 i hi).2⟩
theorem Uw {L0:Array Bool} {i:Nat} {oi:Oper} {v:Value} (hi:ops[i]? =some oi) (hsel:∀ (j:Nat) (o:Oper) cs b,ops[j]? =some o→o.op≠.select cs b)
  (hQ:∀ c a w,q (.panic c) (a.put oi.dst v) w→q (.panic c) a w) (hB:Ut ops L0 L1=true) (hik:L1.getD i true=true)
  (hdone:∀ listed a w,L listed a w→∀ j∈Region.ready .any ops listed,L1.getD j true=false) :
  ∀ (f:Nat) (listed:Array Bool) (a:Act) (w:World),Inv ops L1 listed→(∀ i,listed.getD i true=false→L0.getD i true=false) →
   (∀ j oj,ops[j]? =some oj→j≠i→listed.getD j true=false→(∀ e∈oj.after,Region.binds .any e=true→e.on≠i)→oi.apart ops oj=true) →
   i∈Region.ready .any ops listed→YieldsIf P ops T oi v a→T w →
   Uu P ops q T L1 L f (listed.setIfInBounds i true) (a.put oi.dst v) w→Uu P ops q T L1 L (f+1) listed a w:=by
 intro f
 induction f with
 | zero =>
  intro listed a w inv h0 _ hr hy hT H
  have hun:=(A6p.1 hr).1
  refine ⟨fun h=>(by rw [h] at hr;cases hr),fun j hj=> ?_⟩
  have hjk:L1.getD j true=true:=by
   cases hc:L1.getD j true with
   | true=>rfl
   | false=>exact absurd hj (Ss hB h0 inv hik hun j hc)
  refine ⟨hjk,?_⟩
  by_cases hji:j=i
  ·subst hji;exact hy.wpOp hi hT ⟨hT,H⟩
  ·have:=hdone _ _ _ H j (ready_mono hj hji)
   rw [hjk] at this;cases this
 | succ f ih =>
  intro listed a w inv h0 hfree hr hy hT H
  have hun:=(A6p.1 hr).1
  refine ⟨fun h=>(by rw [h] at hr;cases hr),fun j hj=> ?_⟩
  have hjk:L1.getD j true=true:=by
   cases hc:L1.getD j true with
   | true=>rfl
   | false=>exact absurd hj (Ss hB h0 inv hik hun j hc)
  refine ⟨hjk,?_⟩
  by_cases hji:j=i
  ·subst hji;exact hy.wpOp hi hT ⟨hT,H⟩
  ·have h1:=(H.2 j (ready_mono hj hji)).2
   obtain ⟨hjun,oj,hoj,hall⟩:=A6p.1 hj
   have hnot:∀ e∈oj.after,Region.binds .any e=true→e.on≠i:=fun e he hb heq=>by
    have h1:=hall e he hb
    rw [heq,getD_both hun] at h1
    cases h1
   have h2:=wpOp_putIf hoj (hfree j oj hoj hji hjun hnot) (fun cs b=>hsel i oi cs b hi) (fun cs b=>hsel j oj cs b hoj) hQ hy h1
   have hfree':∀ m om,ops[m]? =some om→m≠i→(listed.setIfInBounds j true).getD m true=false →
     (∀ e∈om.after,Region.binds .any e=true→e.on≠i)→oi.apart ops om=true:=fun m om hm hmi hun hno=>by
    refine hfree m om hm hmi ?_ hno
    by_cases hjm:j=m
    ·grind
    simp_all
   have h0':∀ i,(listed.setIfInBounds j true).getD i true=false→L0.getD i true=false:=fun m hm=>by
    refine h0 m ?_
    by_cases hjm:j=m
    ·grind
    simp_all
   refine wpOp_mono (fun a' w' h3=>⟨h3.2.1,ih (listed.setIfInBounds j true) a' w' (inv.set hj hjk) h0' hfree' (ready_mono hr (A6s hji)) h3.1 h3.2.1 ?_⟩) h2
   rw [Array.setIfInBounds_comm _ _ hji]
   exact h3.2.2
theorem Lh {L0 listed:Array Bool} {i:Nat} (h0:∀ j,listed.getD j true=false→L0.getD j true=false):∀ j,(listed.setIfInBounds i true).getD j true=false→L0.getD j true=false:=fun j hj=>by
 refine h0 j ?_
 by_cases hij:i=j
 ·simp_all
 simp_all
def Afo (ops:Array Oper) (L1:Array Bool):List (Nat×Bool)→Array Bool→Bool
 | [],listed=>listed == L1 && (Region.ready .any ops listed).all fun j=> !L1.getD j true
 | (i,false)::r,listed=>L1.getD i true && (Region.ready .any ops listed).contains i && Region.free .any ops listed i && Afo ops L1 r (listed.setIfInBounds i true)
 | (i,true)::r,listed=>L1.getD i true && decide (Region.ready .any ops listed=[i]) && Afo ops L1 r (listed.setIfInBounds i true)
theorem Tp {L0:Array Bool} (hs:Region.noSelect ops=true) (hB:Ut ops L0 L1=true) (hQ:∀ c a w,¬ q (.panic c) a w) {K:Act→World→Prop} :
  ∀ (ord:List (Nat×Bool)) (l:List (Oper×Bool)) (listed:Array Bool) (a:Act) (w:World),Inv ops L1 listed→(∀ i,listed.getD i true=false→L0.getD i true=false)→Bk ops.toList ord=some l→Afo ops L1 ord listed=true→T w→wpX P ops T q K l a w →
   Uu P ops q T L1 (fun listed' a' w'=>listed'=L1∧(Region.ready .any ops listed').all (fun j=> !L1.getD j true)=true∧K a' w') ord.length listed a w
 | [],l,listed,a,w,inv,h0,hp,hc,hT,h=>by
  simp only [Bk,A4e] at hp
  subst hp
  simp only [Afo,A4k,A6m] at hc
  exact ⟨hc.1,hc.2,h⟩
 | (i,x)::ord,l,listed,a,w,inv,h0,hp,hc,hT,h=>by
  simp only [Bk] at hp
  cases ho:ops.toList[i]? with
  | none=>rw [ho] at hp;cases hp
  | some o =>
   rw [ho] at hp
   cases hp2:Bk ops.toList ord with
   | none=>grind
   | some t =>
    simp only [hp2,A4e] at hp
    subst hp
    have ho':ops[i]? =some o:=by grind
    cases x with
    | false =>
     simp only [Afo,A4k] at hc
     obtain ⟨⟨⟨h1,h2⟩,h3⟩,h4⟩:=hc
     obtain ⟨v,hy,hw⟩:=h
     have hr:i∈Region.ready .any ops listed:=by grind
     refine Uw ho' (A3e hs) (fun c a w hh=>absurd hh (hQ c _ w)) hB h1 (fun listed a w hh j hj=> ?_) _ listed a w inv h0 (A4y ho' h3) hr hy hT ?_
     ·have:=A4l.1 hh.2.1 j hj
      grind
     ·exact Tp hs hB hQ ord t _ _ _ (inv.set hr h1) (Lh h0) hp2 h4 hT hw
    | true =>
     simp only [Afo,A4k,A4f] at hc
     obtain ⟨⟨h1,h2⟩,h4⟩:=hc
     have hr:i∈Region.ready .any ops listed:=by rw [h2];exact .head _
     refine ⟨fun h0=>(by rw [h0] at hr;cases hr),fun j hj=> ?_⟩
     have hji:j=i:=by rw [h2] at hj;grind
     subst hji
     refine ⟨h1,?_⟩
     unfold wpOp
     simp only [ho']
     simp only [wpX] at h
     split
     ·rename_i hw
      rw [A6v hw] at h
      refine .inl (A6d (fun a' w' hh=>⟨hh.1,Tp hs hB hQ ord t _ _ _ (inv.set hr h1) (Lh h0) hp2 h4 hh.1 hh.2⟩) h)
     ·rename_i hw
      rw [A6u hw] at h
      exact ⟨hT,Tp hs hB hQ ord t _ _ _ (inv.set hr h1) (Lh h0) hp2 h4 hT h⟩
theorem Acw {T':World→Prop} {L1':Array Bool} {L':Array Bool→Act→World→Prop} (hk:∀ i,L1.getD i true=true→L1'.getD i true=true) (hT:∀ w,T w→T' w) {g:Nat} (hL:∀ listed a w,L listed a w→Uu P ops q T' L1' L' g listed a w) :
  ∀ (f:Nat) (listed:Array Bool) (a:Act) (w:World),Uu P ops q T L1 L f listed a w→Uu P ops q T' L1' L' (f+g) listed a w
 | 0,listed,a,w,h=>by rw [A6c];exact hL _ _ _ h
 | f+1,listed,a,w,h=>by
  rw [show f+1+g=(f+g)+1 by omega]
  exact ⟨h.1,fun i hi=>⟨hk i (h.2 i hi).1,wpOp_mono (fun a' w' h'=>⟨hT _ h'.1,Acw hk hT hL f _ a' w' h'.2⟩) (h.2 i hi).2⟩⟩
def Fin (ops:Array Oper) (q:Exit→Act→World→Prop):Array Bool→Act→World→Prop:=fun listed a w=>Region.ready .any ops listed=[]∧q .normal a w
abbrev PhM:=List (List (Nat×Bool))
def Anx:List (Nat×Bool)→Array Bool→Array Bool
 | [],l=>l
 | (i,_)::r,l=>Anx r (l.setIfInBounds i true)
def Ax5 (ops:Array Oper) (L1 listed:Array Bool):Bool :=
 (listed.size == ops.size) && ((List.range ops.size).all fun j=> !listed.getD j false || (match ops[j]? with | some o=>o.after.all fun e=> !Region.binds .any e || listed.getD e.on false | none=>true)) && (L1.size == ops.size) && (List.range ops.size).all fun t=>L1.getD t true || !listed.getD t true
def Pn (ops:Array Oper):Array Bool→PhM→Bool
 | listed,[]=>(Region.ready .any ops listed).isEmpty
 | listed,ord::r=>let L1:=Anx ord listed
  Ax5 ops L1 listed && Ut ops listed L1 && Afo ops L1 ord listed && Pn ops L1 r
def Po (l:List Oper):PhM→Option (List (List (Oper×Bool)))
 | []=>some []
 | ord::r=>match Bk l ord with | some t=>(match Po l r with | some u=>some (t::u) | none=>none) | none=>none
theorem Atr {L1 listed:Array Bool} (h:Ax5 ops L1 listed=true):Inv ops L1 listed:=by
 simp only [Ax5,A4k,A6m] at h
 obtain ⟨⟨⟨h1,h2⟩,h3⟩,h4⟩:=h
 refine ⟨h1,fun j oj hj hl e he hb=> ?_,fun t ht=> ?_⟩
 ·have hjs:=(Array.getElem?_eq_some_iff.1 hj).1
  have:=A4l.1 h2 j (A5n.2 hjs)
  rw [hl,A5u,A5t,hj] at this
  have:=Array.all_eq_true_iff_forall_mem.1 this e he
  rw [hb,A5u,A5t] at this
  exact this
 grind
def Ux:PhM→Nat
 | []=>0
 | o::r=>o.length+Ux r
theorem Mq {i:Nat} (m:Nat):(Array.replicate m true).getD i true=true:=by
 simp only [A14,Array.getElem?_replicate]
 split <;> rfl
theorem St (hs:Region.noSelect ops=true) (hQ:∀ c a w,¬ q (.panic c) a w) :
  ∀ (ph:PhM) (l:List (List (Oper×Bool))) (listed:Array Bool) (a:Act) (w:World),Pn ops listed ph=true→Po ops.toList ph=some l→At5 P ops q l a w→Uu P ops q (fun _=>True) (Array.replicate ops.size true) (Fin ops q) (Ux ph) listed a w
 | [],l,listed,a,w,hc,hp,h=>by
  simp only [Po,A4e] at hp
  subst hp
  simp only [Pn,List.isEmpty_iff] at hc
  exact ⟨hc,h⟩
 | ord::ph,l,listed,a,w,hc,hp,h=>by
  simp only [Po] at hp
  cases h1:Bk ops.toList ord with
  | none=>grind
  | some t =>
   cases h2:Po ops.toList ph with
   | none=>grind
   | some u =>
    simp only [h1,h2,A4e] at hp
    subst hp
    simp only [Pn,A4k] at hc
    obtain ⟨⟨⟨hinv,hB⟩,hsch⟩,hrest⟩:=hc
    obtain ⟨T,hT,hx⟩:=h
    have hrun:=Tp (P:=P) hs hB hQ ord t listed a w (Atr hinv) (fun i hi=>hi) h1 hsch hT hx
    exact Acw (g:=Ux ph) (L':=Fin ops q) (fun i _=>Mq _) (fun _ _=>trivial) (fun listed a' w' hh=>by
     obtain ⟨e,_,hK⟩:=hh
     subst e
     exact St hs hQ ph u _ a' w' hrest h2 hK) _ _ _ _ hrun
def Akc (ops:Array Oper):List Nat→Array Bool→Option (Array Bool)
 | [],listed=>some listed
 | i::r,listed=>if (Region.ready .any ops listed).contains i && Region.free .any ops listed i then Akc ops r (listed.setIfInBounds i true) else none
def W4 (l:List Nat):List (Nat×Bool):=l.map fun i=>(i,false)
theorem Ats {listed:Array Bool} (h1:listed.size=ops.size) (h2:∀ j oj,ops[j]? =some oj→listed.getD j false=true→∀ e∈oj.after,Region.binds .any e=true→listed.getD e.on false=true):Inv ops (Array.replicate ops.size true) listed :=
 ⟨h1,h2,fun t ht=>by rw [Mq] at ht;cases ht⟩
theorem Aw2 (hs:Region.noSelect ops=true) (hQ:∀ c a w,¬ q (.panic c) a w) {K:Act→World→Prop} {g:Nat} {L2:Array Bool} (hK:∀ a w,K a w→Uu P ops q (fun _=>True) (Array.replicate ops.size true) (Fin ops q) g L2 a w) :
  ∀ (pre:List Nat) (l:List (Oper×Bool)) (listed:Array Bool) (a:Act) (w:World),Inv ops (Array.replicate ops.size true) listed→Bk ops.toList (W4 pre)=some l→Akc ops pre listed=some L2→wpX P ops (fun _=>True) q K l a w →
   Uu P ops q (fun _=>True) (Array.replicate ops.size true) (Fin ops q) (pre.length+g) listed a w
 | [],l,listed,a,w,inv,hp,hc,h=>by
  simp only [W4,A52,Bk,A4e] at hp
  subst hp
  simp only [Akc,A4e] at hc
  subst hc
  rw [List.length_nil,A6c]
  exact hK _ _ h
 | i::pre,l,listed,a,w,inv,hp,hc,h=>by
  simp only [W4,A5x,Bk] at hp
  cases ho:ops.toList[i]? with
  | none=>rw [ho] at hp;cases hp
  | some o =>
   rw [ho] at hp
   cases hp2:Bk ops.toList (pre.map fun i=>(i,false)) with
   | none=>grind
   | some t =>
    simp only [hp2,A4e] at hp
    subst hp
    have ho':ops[i]? =some o:=by grind
    simp only [Akc] at hc
    split at hc
    ·rename_i hcc
     simp only [A4k] at hcc
     obtain ⟨v,hy,hw⟩:=h
     have hr:i∈Region.ready .any ops listed:=by grind
     rw [A4q,show pre.length+1+g=(pre.length+g)+1 by omega]
     have hB:Ut ops listed (Array.replicate ops.size true)=true:=A4l.2 fun t _=>by rw [Mq];rfl
     refine Uw ho' (A3e hs) (fun c a w hh=>absurd hh (hQ c _ w)) hB (Mq _) (fun listed a w hh j hj=>by rw [hh.1] at hj;cases hj) _ listed a w inv (fun i hi=>hi) (A4y ho' hcc.2) hr hy trivial ?_
     exact Aw2 hs hQ hK pre t _ _ _ (inv.set hr (Mq _)) hp2 hc hw
    ·cases hc
end
section
variable {P:Program} {n:Nat} {E:Env} {H:Hp} {Q:C5} {ops:Array Oper}
def Att [rg:Rg] (P:Program) (n:Nat) (ops:Array Oper) (w0:World) (H0:Hp) (Q:C5) (pp:List (Oper×Bool)) (l:List (List (Oper×Bool))) (E:Env) (H:Hp):Prop :=
 SX P n ops w0 H0 Q [] pp (fun E H=>SP P n ops w0 H0 Q l E H) E H
theorem Anz {T T':World→Prop} (hT:∀ w,T w) {q:Exit→Act→World→Prop} {K:Act→World→Prop}:∀ (l:List (Oper×Bool)) (a:Act) (w:World),(l.all fun o=> !o.2)=true→wpX P ops T q K l a w→wpX P ops T' q K l a w
 | [],a,w,_,h=>h
 | (o,false)::r,a,w,hl,⟨v,hy,h⟩=>by
  simp only [A5w,A4k] at hl
  exact ⟨v,hy.imp (fun ⟨h1,h2⟩=>⟨h1,fun w' _=>h2 w' (hT w')⟩) id,Anz hT r _ _ hl.2 h⟩
 | (o,true)::r,a,w,hl,h=>by simp at hl
theorem Acx:∀ {l:List Oper} {pre:List Nat} {pp:List (Oper×Bool)},Bk l (W4 pre)=some pp→(pp.all fun o=> !o.2)=true
 | l,[],pp,h=>by simp only [W4,A52,Bk,A4e] at h;subst h;rfl
 | l,i::pre,pp,h=>by
  simp only [W4,A5x,Bk] at h
  cases ho:l[i]? with
  | none=>rw [ho] at h;cases h
  | some o =>
   rw [ho] at h
   cases hp2:Bk l (pre.map fun i=>(i,false)) with
   | none=>grind
   | some t =>
    have:=Acx (l:=l) (pre:=pre) hp2
    grind
def Acy (ops:Array Oper) (pre:List Nat) (ph:PhM):Bool :=
 decide (pre.length+Ux ph=ops.size) && match Akc ops pre (Array.replicate ops.size false) with | none=>false | some L2=>Pn ops L2 ph
theorem Acz [rg:Rg] {id:Nat} {l:List Oper} (pre:List Nat) (ph:PhM) {pp:List (Oper×Bool)} {pl:List (List (Oper×Bool))} [hw:Wide P]
  (hc:(Region.noSelect l.toArray && Acy l.toArray pre ph)=true) (hpp:Bk l (W4 pre)=some pp) (hp:Po l ph=some pl)
  (h:∀ w0 H0,Att P n l.toArray w0 H0 Q pp pl E H):SC P n (.region id l.toArray true) E H Q:=by
 intro a w h1 h2 h3 h4
 simp only [A4k] at hc
 obtain ⟨c2,c4⟩:=hc
 refine I4 hw.eq ?_
 have hnil:∀ w':World,HpOk [] w':=fun w'=>⟨List.Pairwise.nil,fun x hx=>by cases hx⟩
 have hrun:=h w H a { w with drawn:=w.drawn+1 } h1 h2 h3 (Da h4 _) (hnil _)
 simp only [Acy,A4k,A4f] at c4
 obtain ⟨d0,c4⟩:=c4
 cases hL:Akc l.toArray pre (Array.replicate l.toArray.size false) with
 | none=>rw [hL] at c4;cases c4
 | some L2 =>
  rw [hL] at c4
  have inv0:Inv l.toArray (Array.replicate l.toArray.size true) (Array.replicate l.toArray.size false):=Ats (by simp) (fun j oj hj hl=>by
   simp only [A14,Array.getElem?_replicate] at hl
   split at hl <;> cases hl)
  have hpre:=Aw2 (P:=P) (q:=UpN n w H Q) (g:=Ux ph) (L2:=L2) c2 (fun c a w hh=>hh) (K:=UpK n w H (fun E' H'=>SP P n l.toArray w H Q pl E' H')) (fun a' w' hK=>by
   obtain ⟨E',H',k1,k2,k3,k4,k5⟩:=hK
   exact St c2 (fun c a w hh=>hh) ph pl L2 a' w' c4 (by omega) (k5 a' w' k1 k2 k3 k4)) pre pp _ a _ inv0 (by omega) hL (Anz hnil pp a _ (Acx hpp) hrun)
  rw [d0] at hpre
  have hany:=Uv (g:=0) (fun listed a w hh=>⟨hh.1,hh.2⟩) _ _ _ _ hpre
  rw [A56] at hany
  refine s_draw1.wpAny_post ?_ _ _ _ _ hany
  intro e a w hh
  cases e <;> first | exact hh | exact hh.elim
theorem Ahw [rg:Rg] {id:Nat} {l:List Oper} (Y:List (Nat×Nat)) (pre:List Nat) (ph:PhM) {pp:List (Oper×Bool)} {pl:List (List (Oper×Bool))} [hw:Wide P]
  (hc:(Ac0 l Y && Region.noSelect l.toArray && Acy l.toArray pre ph)=true) (hpp:Bk l (W4 pre)=some pp) (hp:Po l ph=some pl)
  (h:∀ ops w0 H0,Yok ops Y→Att P n ops w0 H0 Q pp pl E H):SC P n (.region id l.toArray true) E H Q :=
 have hc':Ac0 l Y=true∧(Region.noSelect l.toArray && Acy l.toArray pre ph)=true:=by
  grind
 Acz pre ph hc'.2 hpp hp fun w0 H0=>h _ w0 H0 (Aoj hc'.1)
abbrev Cl:=Nat×Nat×Value
def Rl (Hs:Hp) (cl:List Cl) (w:World):Prop:=HpOk Hs w∧∀ x∈cl,w.cell? ⟨x.1,x.2.1,none⟩=some x.2.2
def SXc [rg:Rg] (P:Program) (n:Nat) (ops:Array Oper) (w0:World) (H0:Hp) (Q:C5) (Hs:Hp) (cl:List Cl) (l:List (Oper×Bool)) (K:Env→Hp→Prop) (E:Env) (H:Hp):Prop :=
 ∀ a w,EnvOk E a→a.tmps.size=n→a.defers=rg.ds→Trk w0 w H0 H→Rl Hs cl w→wpX P ops (Rl Hs cl) (UpN n w0 H0 Q) (UpK n w0 H0 K) l a w
variable {w0:World} {H0 Hs:Hp} {cl:List Cl} {l:List (Oper×Bool)} {r:List (List (Oper×Bool))} {K:Env→Hp→Prop}
def Uy (H:Hp) (cl:List Cl):Prop:=∀ x∈cl,∃ r cs T fr,(x.1,r,CF cs T fr)∈H∧nth cs x.2.1=some x.2.2
theorem X4:Uy H []:=fun x hx=>by cases hx
theorem Uz {b o:Nat} {v:Value} {r:Bool} {cs:List Value} {T:TypeId} {fr:Nat×Nat} (hm:(b,r,CF cs T fr)∈H) (hv:nth cs o=some v) (h:Uy H cl):Uy H ((b,o,v)::cl):=fun x hx=>by
 cases hx with
 | head=>grind
 | tail _ hx=>exact h x hx
theorem Ahx {w:World} {F:Hp} (h:HpOk H w) (hs:Split H Hs F) (hc:Uy H cl):Rl Hs cl w :=
 ⟨(h.perm hs.perm).left,fun x hx=>by
  obtain ⟨r,cs,T,fr,hm,hv⟩:=hc x hx
  rw [I9 (h.here _ hm)];exact hv⟩
theorem A0i [rg:Rg] (Hs:Hp) (cl:List Cl) {F:Hp} (hs:Split H Hs F) (hc:Uy H cl) (h:SXc P n ops w0 H0 Q Hs cl l (fun E H=>SP P n ops w0 H0 Q r E H) E H):SP P n ops w0 H0 Q (l::r) E H :=
 fun a w h1 h2 h3 h4 =>
  have hok:=Ahx h4.ok hs hc
  ⟨Rl Hs cl,hok,Ea (fun a' w' ⟨E',H',k1,k2,k3,k4,k5⟩=>k5 a' w' k1 k2 k3 k4) l a w (h a w h1 h2 h3 h4 hok)⟩
theorem Ax6 [rg:Rg] (h:K E H):SXc P n ops w0 H0 Q Hs cl [] K E H:=fun a w h1 h2 h3 h4 _=>⟨E,H,h1,h2,h3,h4,h⟩
theorem Ahy [rg:Rg] {d:Nat} {op:Op} {ty:TypeId} {pos:String} {af:Array Edge} {v:Value} (hr:Rd P E Hs op v) (hd:Nat.blt d n=true)
  (kk:SXc P n ops w0 H0 Q Hs cl l K ((d,v)::E) H):SXc P n ops w0 H0 Q Hs cl ((⟨some d,op,ty,pos,af,none⟩,false)::l) K E H:=by
 intro a w h1 h2 h3 h4 h5
 have hlt:d<a.tmps.size:=by rw [h2];simp_all
 exact ⟨v,.inl ⟨rfl,fun w' hw'=>hr a w' (some d) ty pos af none h1 hw'.1⟩,kk _ w (h1.put hlt) (by simp [Act.put,h2]) h3 h4 h5⟩
theorem A0j [rg:Rg] {d:Nat} {t:TypeId} {x:Operand} {ty:TypeId} {pos:String} {af:Array Edge} {b o:Nat} {v:Value} [ht:Agg P t false] (hx:ev E x=some (.pointer (some ⟨b,o,none⟩))) (hm:(b,o,v)∈cl) (hd:Nat.blt d n=true)
  (kk:SXc P n ops w0 H0 Q Hs cl l K ((d,v)::E) H):SXc P n ops w0 H0 Q Hs cl ((⟨some d,.load t x,ty,pos,af,none⟩,false)::l) K E H:=by
 intro a w h1 h2 h3 h4 h5
 have hlt:d<a.tmps.size:=by rw [h2];simp_all
 refine ⟨v,.inl ⟨rfl,fun w' hw'=> ?_⟩,kk _ w (h1.put hlt) (by simp [Act.put,h2]) h3 h4 h5⟩
 have:=hw'.2 _ hm
 simp [execOp,As h1 hx,Instr.loadAt,Instr.sureAddr,loadVar,Hr,this]
theorem A0k [rg:Rg] {o:Oper} (h:SO P n ops [o] E H (fun e E' H'=>e= .normal∧(∃ F,Split H' Hs F)∧Uy H' cl∧SXc P n ops w0 H0 Q Hs cl l K E' H')):SXc P n ops w0 H0 Q Hs cl ((o,true)::l) K E H:=by
 intro a w h1 h2 h3 h4 h5
 have hk:=h a w h1 h2 h3 h4.ok
 simp only [wpList] at hk
 simp only [wpX]
 have fin:∀ a' w',Up n w H (fun e E' H'=>e= .normal∧(∃ F,Split H' Hs F)∧Uy H' cl∧SXc P n ops w0 H0 Q Hs cl l K E' H') .normal a' w'→Rl Hs cl w'∧wpX P ops (Rl Hs cl) (UpN n w0 H0 Q) (UpK n w0 H0 K) l a' w':=by
  rintro a' w' ⟨E',H',k1,k2,k3,k4,_,⟨F,k5⟩,k6,k7⟩
  have hok:=Ahx k4.ok k5 k6
  exact ⟨hok,k7 a' w' k1 k2 k3 (h4.trans k4) hok⟩
 split
 ·rename_i hw
  rw [A6v hw] at hk
  rcases hk with hk | ⟨_,a0,w1,E',H',_,_,_,_,hh,_⟩
  ·refine Lm (fun v w' hh=>fin _ _ hh) (fun d w' hh=>fin _ _ hh) ?_ hk
   rintro e a' w' hne ⟨E',H',_,_,_,k4,k5,k6,k7⟩
   exact absurd k5 hne
  ·cases hh
 grind
end
end
section
def A0l (kd:IntKind):Nat→List (Int×Value)→List MapEntry
 | _,[]=>[]
 | i,e::es=>{ key:= .int kd e.1,val:=e.2,born:=i }::A0l kd (i+1) es
def Atu (kd:IntKind) (es:List (Int×Value)):Obj:= .map (A0l kd 0 es).toArray es.length
section
variable {P:Program} {n:Nat} {E:Env} {H:Hp} {Q:C5} {ops:Array Oper} {rest:List Oper}
theorem Ew {w:World} {b:Nat} {es:Array MapEntry} {c:Nat} (h:w.heap[b]? =some (.map es c)):(getObj b).run P w= .ok (.map es c) w:=by
 simp [getObj,Sem.run,h]
theorem An0 {w:World} {b i:Nat} {s:Option Nat} {es:Array MapEntry} {c:Nat} (h:w.heap[b]? =some (.map es c)):w.frozen? ⟨b,i,s⟩=false:=by
 simp [World.frozen?,h]
theorem Kj {w:World} {b:Nat} {es:Array MapEntry} {c:Nat} {o:Obj} (h:w.heap[b]? =some (.map es c)):(setObj b o).run P w= .ok () (B6 w b o):=by
 simp [setObj,Sem.run,h,B6]
theorem It {t:TypeId} {kd:IntKind} [ht:Und P t (.int kd)] {b:Bool} {k:Int} {w:World}:(Instr.checkKey b 10000 t (.int kd k)).run P w= .ok () w:=by
 unfold Instr.checkKey
 simp [A5r ht.eq]
class ZerV (P:Program) (t:TypeId) (v:outParam Value):Prop where eq:(P.info? t).map (fun i=>i.zero)=some (some v)
theorem X5 {t:TypeId} {v:Value} [h:ZerV P t v] {w:World}:(zeroValue t).run P w= .ok v w:=by
 have:=h.eq
 cases hq:P.info? t with
 | none=>grind
 | some i =>
  simp [hq] at this
  simp [zeroValue,typeInfo,hq,this]
theorem Akd [rg:Rg] {d:Nat} {t:TypeId} {ty:TypeId} {pos:String} {af:Array Edge} (kd:IntKind) (hd:Nat.blt d n=true)
  (k:∀ b,SO P n ops rest ((d,.map (some b))::E) ((b,true,Atu kd [])::H) Q):SO P n ops (⟨some d,.makeMap t none,ty,pos,af,none⟩::rest) E H Q:=by
 intro a w h1 h2 h3 h4
 refine A6f rfl fun K hK=> ?_
 have hrun:(execOp a.eval ⟨some d,.makeMap t none,ty,pos,af,none⟩).run P w= .ok (.value (.map (some w.heap.size))) { w with heap:=w.heap.push (Atu kd []) }:=by
  rfl
 unfold Oper.wp
 rw [hrun]
 have hlt:d<a.tmps.size:=by rw [h2];simp_all
 have ht:=Aaf (o:=Atu kd []) h4 (fun i s=>by simp [World.frozen?,Atu])
 exact hK _ _ (Br ht (k _ _ _ (h1.put hlt) (by simp [Act.put,h2]) h3 ht.ok))
end
end
section
open Go Go.Sem
theorem Does.inn {P:Program} {f:FuncId} {args:List Value} {L F H:Hp} {R R':Value→Hp→Prop} (h:Does P f args L R) (hs:Split H L F)
  (hr:∀ v Y,R v Y→∃ Y',R' v Y'∧∃ K G,Ap Y F K∧Split K Y' G):Does P f args H R':=fun w hw=>by
 have hp:=hs.perm
 have hk:=hw.perm hp
 refine (h w hk.left).mono fun e w' ⟨v,Y,h1,h2,h3⟩=> ?_
 obtain ⟨Y',h4,K,G,h5,h6⟩:=hr v Y h2
 exact ⟨v,Y',h1,h4,((h3.frame hk).perm_left hp.symm).split (by rw [h5.eq];exact h6)⟩
theorem Does.inIs {P:Program} {f:FuncId} {args:List Value} {L F H Y Y' G K:Hp} {X:Value} (h:Does P f args L (Is X Y)) (hs:Split H L F) (ha:Ap Y F K) (hr:Split K Y' G):Does P f args H (Is X Y') :=
 h.inn hs fun v Z ⟨h1,h2⟩=>⟨Y',⟨h1,rfl⟩,K,G,by rw [h2];exact ha,hr⟩
end
section
open Go Go.Sem
theorem sP {H L F:Hp} (h:Split H L F:=by repeat (first | exact Split.nil | (apply Split.cons;next=>repeat (first | exact Pick.here | apply Pick.there | apply Pick.app)) | (apply Split.chunk;next=>repeat (first | exact PickL.here | exact PickL.last | apply PickL.there | apply PickL.app)) | (apply Split.lst;repeat (first | exact PickL.here | exact PickL.last | apply PickL.there | apply PickL.app)))):Split H L F:=h
theorem aQ {Y F H:Hp} (h:Ap Y F H:=by repeat (first | exact Ap.nil | apply Ap.cons | apply Ap.app | exact Ap.one)):Ap Y F H:=h
theorem pL {L H F:Hp} (h:PickL L H F:=by repeat (first | exact PickL.here | exact PickL.last | apply PickL.there | apply PickL.app)):PickL L H F:=h
theorem uL {L M H F:Hp} (h:UpdL L M H F:=by repeat (first | exact UpdL.here | exact UpdL.last | apply UpdL.there | apply UpdL.app)):UpdL L M H F:=h
theorem mM {α:Type} {x:α} {H:List α} (h:x∈H:=by repeat' first | exact List.Mem.head _ | apply List.Mem.tail | apply A22):x∈H:=h
theorem uD {b:Nat} {o o':Obj} {H K:Hp} (h:Upd b o o' H K:=by repeat' first | exact Upd.here | apply Upd.there | apply Upd.app):Upd b o o' H K:=h
theorem kP {E F:Env} (h:Keep E F:=by repeat' first | exact Keep.nil | refine Keep.cons rfl ?_):Keep E F:=h
theorem kQ {E F:Env} {l:List Nat} (h:Keep2 E l F:=by repeat' first | exact Keep2.nil | apply Keep2.cons rfl):Keep2 E l F:=h
theorem lZ {E M F:Env} {H L R:Hp} (h1:Keep E M:=by repeat' first | exact Keep.nil | refine Keep.cons rfl ?_) (h2:Keep E F:=by repeat' first | exact Keep.nil | refine Keep.cons rfl ?_) (h3:Split H L R:=by repeat (first | exact Split.nil | (apply Split.cons;next=>repeat (first | exact Pick.here | apply Pick.there | apply Pick.app)) | (apply Split.chunk;next=>repeat (first | exact PickL.here | exact PickL.last | apply PickL.there | apply PickL.app)) | (apply Split.lst;repeat (first | exact PickL.here | exact PickL.last | apply PickL.there | apply PickL.app)))):Keep E M∧Keep E F∧∃ R,Split H L R:=⟨h1,h2,R,h3⟩
section
variable {P:Program} {n:Nat} {E:Env} {H:Hp} {Q:C5} {ops:Array Oper} {rest:List Oper} {d:Nat} {ty:TypeId} {pos:String} {af:Array Edge}
theorem oR [rg:Rg] {op:Op} {v:Value} (hr:Rd P E H op v) (k:SO P n ops rest ((d,v)::E) H Q) (hd:Nat.blt d n=true:=by rfl):SO P n ops (⟨some d,op,ty,pos,af,none⟩::rest) E H Q:=Ae hr hd k
theorem oM [rg:Rg] {x:Operand} {v:Value} (hx:ev E x=some v) (k:SO P n ops rest ((d,v)::E) H Q) (hd:Nat.blt d n=true:=by rfl):SO P n ops (⟨some d,.move x,ty,pos,af,none⟩::rest) E H Q:=Ae (Cx hx) hd k
theorem oA [rg:Rg] {x:Operand} {v:Value} (hx:ev E x=some v) (k:SO P n ops rest ((d,v)::E) H Q) (hd:Nat.blt d n=true:=by rfl):SO P n ops (⟨some d,.assign x,ty,pos,af,none⟩::rest) E H Q:=Ae (Km hx) hd k
theorem oN [rg:Rg] {x:Operand} {ad:Addr} (hx:ev E x=some (.pointer (some ad))) (k:SO P n ops rest ((d,.pointer (some ad))::E) H Q) (hd:Nat.blt d n=true:=by rfl):SO P n ops (⟨some d,.nilCheck x,ty,pos,af,none⟩::rest) E H Q:=Ae (G2 hx) hd k
theorem oF [rg:Rg] {s:TypeId} {x:Operand} {f b o q:Nat} [hs:Fld P s f q] (hx:ev E x=some (.pointer (some ⟨b,o,none⟩))) (k:SO P n ops rest ((d,.pointer (some ⟨b,o+q,none⟩))::E) H Q) (hd:Nat.blt d n=true:=by rfl):SO P n ops (⟨some d,.fieldAddr s x f,ty,pos,af,none⟩::rest) E H Q:=Ae (Cr hx) hd k
theorem oE [rg:Rg] {x:Operand} {i:Nat} {vs:Array Value} {v:Value} (hx:ev E x=some (.tuple vs)) (hv:nth vs.toList i=some v) (k:SO P n ops rest ((d,v)::E) H Q) (hd:Nat.blt d n=true:=by rfl):SO P n ops (⟨some d,.extract x i,ty,pos,af,none⟩::rest) E H Q:=Ae (Du hx hv) hd k
end
section
variable {P:Program} {n:Nat} {ops:Array Oper} {w0:World} {H0 Hs:Hp} {Q:C5} {l:List (Oper×Bool)} {K:Env→Hp→Prop} {E:Env} {H:Hp} {d:Nat} {ty:TypeId} {pos:String} {af:Array Edge}
theorem xR [rg:Rg] {op:Op} {v:Value} (hr:Rd P E Hs op v) (k:SX P n ops w0 H0 Q Hs l K ((d,v)::E) H) (hd:Nat.blt d n=true:=by rfl):SX P n ops w0 H0 Q Hs ((⟨some d,op,ty,pos,af,none⟩,false)::l) K E H:=B4 hr hd k
theorem xM [rg:Rg] {x:Operand} {v:Value} (hx:ev E x=some v) (k:SX P n ops w0 H0 Q Hs l K ((d,v)::E) H) (hd:Nat.blt d n=true:=by rfl):SX P n ops w0 H0 Q Hs ((⟨some d,.move x,ty,pos,af,none⟩,false)::l) K E H:=B4 (Cx hx) hd k
theorem xA [rg:Rg] {x:Operand} {v:Value} (hx:ev E x=some v) (k:SX P n ops w0 H0 Q Hs l K ((d,v)::E) H) (hd:Nat.blt d n=true:=by rfl):SX P n ops w0 H0 Q Hs ((⟨some d,.assign x,ty,pos,af,none⟩,false)::l) K E H:=B4 (Km hx) hd k
theorem xN [rg:Rg] {x:Operand} {ad:Addr} (hx:ev E x=some (.pointer (some ad))) (k:SX P n ops w0 H0 Q Hs l K ((d,.pointer (some ad))::E) H) (hd:Nat.blt d n=true:=by rfl):SX P n ops w0 H0 Q Hs ((⟨some d,.nilCheck x,ty,pos,af,none⟩,false)::l) K E H:=B4 (G2 hx) hd k
theorem xF [rg:Rg] {s:TypeId} {x:Operand} {f b o q:Nat} [hs:Fld P s f q] (hx:ev E x=some (.pointer (some ⟨b,o,none⟩))) (k:SX P n ops w0 H0 Q Hs l K ((d,.pointer (some ⟨b,o+q,none⟩))::E) H) (hd:Nat.blt d n=true:=by rfl):SX P n ops w0 H0 Q Hs ((⟨some d,.fieldAddr s x f,ty,pos,af,none⟩,false)::l) K E H:=B4 (Cr hx) hd k
theorem xE [rg:Rg] {x:Operand} {i:Nat} {vs:Array Value} {v:Value} (hx:ev E x=some (.tuple vs)) (hv:nth vs.toList i=some v) (k:SX P n ops w0 H0 Q Hs l K ((d,v)::E) H) (hd:Nat.blt d n=true:=by rfl):SX P n ops w0 H0 Q Hs ((⟨some d,.extract x i,ty,pos,af,none⟩,false)::l) K E H:=B4 (Du hx hv) hd k
end
end
section
open Go Go.Sem
theorem Rm [rg:Rg] {P:Program} {n:Nat} {E:Env} {H:Hp} {Q:C5} {x y:Code} (I:Env→Hp→Prop)
  (h:SC P n x E H (thn (fun E' H'=>∃ F L,I F L∧Keep E' F∧∃ R,Split H' L R) Q)) (k:∀ F L,I F L→SC P n y F L Q):SC P n (.seq x y) E H Q :=
 An (h.mono fun e E' H' hh=>by
  cases e with
  | normal=>obtain ⟨F,L,hi,h2,R,h3⟩:=hh;exact Ant h2 h3 (k F L hi)
  | _=>exact hh)
theorem jZ {E F:Env} {H L R:Hp} (h2:Keep E F:=by repeat' first | exact Keep.nil | refine Keep.cons rfl ?_) (h3:Split H L R:=by repeat (first | exact Split.nil | (apply Split.cons;next=>repeat (first | exact Pick.here | apply Pick.there | apply Pick.app)) | (apply Split.chunk;next=>repeat (first | exact PickL.here | exact PickL.last | apply PickL.there | apply PickL.app)) | (apply Split.lst;repeat (first | exact PickL.here | exact PickL.last | apply PickL.there | apply PickL.app)))):Keep E F∧∃ R,Split H L R:=⟨h2,R,h3⟩
end
section
open Go Go.Sem
def Fx:Nat→List Oper→List (Nat×Nat)
 | _,[]=>[]
 | i,o::l=>match o.dst with
  | some d=>(i,d)::Fx (i+1) l
  | none=>Fx (i+1) l
theorem Adc {j d:Nat}:∀ {l:List Oper} {i:Nat},(j,d)∈Fx i l→i≤j∧(l[j - i]?).bind (·.dst)=some d
 | [],_,h=>by cases h
 | o::l,i,h=>by
  have ih:(j,d)∈Fx (i+1) l→i≤j∧((o::l)[j - i]?).bind (·.dst)=some d:=fun h=>by
   obtain ⟨h1,h2⟩:=Adc h
   grind
  unfold Fx at h
  grind
theorem At3 (l:List Oper):Yok l.toArray (Fx 0 l):=fun j d h=>by
 have:=(Adc h).2
 grind
abbrev yk {l:List Oper}:Yok l.toArray (Fx 0 l):=At3 l
def gJ:List Oper→Option (Nat×Bool)
 | []=>none
 | o::_=>o.guard
def gX:List (Oper×Bool)→Option (Nat×Bool)
 | []=>none
 | o::_=>o.1.guard
class GetI (l:List Oper) (i:Nat) (o:outParam Oper):Prop where eq:l[i]? =some o
instance GetI.z {o:Oper} {l:List Oper}:GetI (o::l) 0 o:=⟨rfl⟩
instance GetI.s {o p:Oper} {l:List Oper} {i:Nat} [h:GetI l i p]:GetI (o::l) (i+1) p:=⟨h.eq⟩
class PkO (l:List Oper) (is:List (Nat×Bool)) (r:outParam (List (Oper×Bool))):Prop where eq:Bk l is=some r
instance PkO.n {l:List Oper}:PkO l [] []:=⟨rfl⟩
instance PkO.c {l:List Oper} {i:Nat} {b:Bool} {is:List (Nat×Bool)} {o:Oper} {r:List (Oper×Bool)} [h:GetI l i o] [k:PkO l is r]:PkO l ((i,b)::is) ((o,b)::r):=⟨by simp only [Bk,h.eq,k.eq]⟩
class PkP (l:List Oper) (ph:Mu) (r:outParam (List (List (Oper×Bool)))):Prop where eq:Lo l ph=some r
instance PkP.n {l:List Oper}:PkP l [] []:=⟨rfl⟩
instance PkP.c {l:List Oper} {i:Nat} {o:List (Nat×Bool)} {ph:Mu} {t:List (Oper×Bool)} {r:List (List (Oper×Bool))} [h:PkO l o t] [k:PkP l ph r]:PkP l ((i,o)::ph) (t::r):=⟨by simp only [Lo,h.eq,k.eq]⟩
class PkM (l:List Oper) (ph:PhM) (r:outParam (List (List (Oper×Bool)))):Prop where eq:Po l ph=some r
instance PkM.n {l:List Oper}:PkM l [] []:=⟨rfl⟩
instance PkM.c {l:List Oper} {o:List (Nat×Bool)} {ph:PhM} {t:List (Oper×Bool)} {r:List (List (Oper×Bool))} [h:PkO l o t] [k:PkM l ph r]:PkM l (o::ph) (t::r):=⟨by simp only [Po,h.eq,k.eq]⟩
class PkL (l:List Oper) (is:List Nat) (r:outParam (List (Oper×Bool))):Prop where eq:Bk l (W4 is)=some r
instance PkL.n {l:List Oper}:PkL l [] []:=⟨rfl⟩
instance PkL.c {l:List Oper} {i:Nat} {is:List Nat} {o:Oper} {r:List (Oper×Bool)} [h:GetI l i o] [k:PkL l is r]:PkL l (i::is) ((o,false)::r):=⟨by have:=k.eq;simp only [W4,A5x,Bk] at this ⊢;simp only [h.eq,this]⟩
class PkA (d:Nat) (l:List Oper) (a:outParam (List Oper)) (p:outParam Oper) (r:outParam (List Oper)):Prop where eq:l=l.take a.length++p::r∧l.take a.length=a
instance (priority:=high) PkA.z {d:Nat} {dst:Option Tmp} {x y:Operand} {ty:TypeId} {pos:String} {af:Array Edge} {g:Option (Nat×Bool)} {r:List Oper}:PkA d (⟨dst,.pick (.tmp d) x y,ty,pos,af,g⟩::r) [] ⟨dst,.pick (.tmp d) x y,ty,pos,af,g⟩ r:=⟨rfl,rfl⟩
instance PkA.s {d:Nat} {o p:Oper} {l a r:List Oper} [h:PkA d l a p r]:PkA d (o::l) (o::a) p r:=⟨by have:=h.eq.1;grind,by simp only [A4q,A3m,h.eq.2]⟩
class PkX (d:Nat) (l:List (Oper×Bool)) (a:outParam (List (Oper×Bool))) (p:outParam (Oper×Bool)) (r:outParam (List (Oper×Bool))):Prop where eq:l=l.take a.length++p::r∧l.take a.length=a
instance (priority:=high) PkX.z {d:Nat} {dst:Option Tmp} {x y:Operand} {ty:TypeId} {pos:String} {af:Array Edge} {g:Option (Nat×Bool)} {b:Bool} {r:List (Oper×Bool)}:PkX d ((⟨dst,.pick (.tmp d) x y,ty,pos,af,g⟩,b)::r) [] (⟨dst,.pick (.tmp d) x y,ty,pos,af,g⟩,b) r:=⟨rfl,rfl⟩
instance PkX.s {d:Nat} {o p:Oper×Bool} {l a r:List (Oper×Bool)} [h:PkX d l a p r]:PkX d (o::l) (o::a) p r:=⟨by have:=h.eq.1;grind,by simp only [A4q,A3m,h.eq.2]⟩
section
variable {P:Program} {n:Nat} {E:Env} {H:Hp} {Q:C5} {l0 rest:List Oper}
theorem A1o [rg:Rg] {d:Option Tmp} {op:Op} {ty:TypeId} {pos:String} {af:Array Edge} {j dj:Nat} {b:Bool} (hj:yl (Fx 0 l0) j=some dj) (hb:fnd E dj=some (.bool b))
  (k:SO P n l0.toArray (⟨d,op,ty,pos,af,none⟩::rest) E H Q):SO P n l0.toArray (⟨d,op,ty,pos,af,some (j,b)⟩::rest) E H Q:=o_g yk hj hb k
theorem Kn [rg:Rg] {l a:List Oper} {t u:Bool} {j dj db d:Nat} {ty:TypeId} {pos:String} {af:Array Edge} {gd:Option (Nat×Bool)} (hg:gJ l=some (j,false)) (hj:yl (Fx 0 l0) j=some dj)
  (hp:PkA dj l a ⟨some d,.pick (.tmp dj) (.const (.bool true)) (.tmp db),ty,pos,af,gd⟩ rest) (hc:fnd E dj=some (.bool t)) (hgd:gOk E (Fx 0 l0) gd=true) (hd:Nat.blt d n=true)
  (hsk:skB (Fx 0 l0) j false [] a=true) (hfr:(a.all fun o=>fresh E o.dst)=true)
  (hb:t=false→SO P n l0.toArray a ((dj,.bool false)::E) H (Yh db u H))
  (kk:SO P n l0.toArray rest ((d,.bool (t || u))::E) H Q):SO P n l0.toArray l E H Q :=
 Afx (k:=a.length) yk hj hc hp.eq.1 hgd hd (by rw [hp.eq.2];exact hsk) (by rw [hp.eq.2];exact hfr) (fun h=>by rw [hp.eq.2];exact hb h) kk
theorem G4 [rg:Rg] {l a:List Oper} {t u:Bool} {j dj db d:Nat} {ty:TypeId} {pos:String} {af:Array Edge} {gd:Option (Nat×Bool)} (hg:gJ l=some (j,true)) (hj:yl (Fx 0 l0) j=some dj)
  (hp:PkA dj l a ⟨some d,.pick (.tmp dj) (.tmp db) (.const (.bool false)),ty,pos,af,gd⟩ rest) (hc:fnd E dj=some (.bool t)) (hgd:gOk E (Fx 0 l0) gd=true) (hd:Nat.blt d n=true)
  (hsk:skB (Fx 0 l0) j true [] a=true) (hfr:(a.all fun o=>fresh E o.dst)=true)
  (hb:t=true→SO P n l0.toArray a ((dj,.bool true)::E) H (Yh db u H))
  (kk:SO P n l0.toArray rest ((d,.bool (t && u))::E) H Q):SO P n l0.toArray l E H Q :=
 U5 (k:=a.length) yk hj hc hp.eq.1 hgd hd (by rw [hp.eq.2];exact hsk) (by rw [hp.eq.2];exact hfr) (fun h=>by rw [hp.eq.2];exact hb h) kk
theorem A0o [rg:Rg] {db:Nat} {u:Bool} {K F:Hp} {ops:Array Oper} (h:fnd E db=some (.bool u)) (hs:Split H K F):SO P n ops [] E H (Yh db u K):=Ag ⟨rfl,h,F,hs⟩
end
def SPz [rg:Rg] (P:Program) (n:Nat) (ops:Array Oper) (Q:C5) (l:List (List (Oper×Bool))) (E:Env) (H:Hp):Prop:=∀ w0 H0,SP P n ops w0 H0 Q l E H
def SXz [rg:Rg] (P:Program) (n:Nat) (ops:Array Oper) (Q:C5) (Hs:Hp) (l:List (Oper×Bool)) (K:World→Hp→Env→Hp→Prop) (E:Env) (H:Hp):Prop:=∀ w0 H0,SX P n ops w0 H0 Q Hs l (K w0 H0) E H
section
variable {P:Program} {n:Nat} {E:Env} {H Hs:Hp} {Q:C5} {ops:Array Oper} {l0:List Oper} {l:List (Oper×Bool)} {r:List (List (Oper×Bool))} {K:World→Hp→Env→Hp→Prop}
theorem At [rg:Rg] {id:Nat} {l:List Oper} (ph:Mu) {pl:List (List (Oper×Bool))} [hw:Wide P] [hp:PkP l ph pl] (hc:(Region.noSelect l.toArray && Jo l.toArray && Jp l.toArray 0 ph)=true)
  (h:SPz P n l.toArray Q pl E H):SC P n (.region id l.toArray true) E H Q:=s_draw1 ph hc hp.eq h
theorem G5 [rg:Rg] {id:Nat} {l:List Oper} (pre:List Nat) (ph:PhM) {pp:List (Oper×Bool)} {pl:List (List (Oper×Bool))} [hw:Wide P] [hq:PkL l pre pp] [hp:PkM l ph pl] (hc:(Region.noSelect l.toArray && Acy l.toArray pre ph)=true)
  (h:SXz P n l.toArray Q [] pp (fun w0 H0 E H=>SP P n l.toArray w0 H0 Q pl E H) E H):SC P n (.region id l.toArray true) E H Q:=Acz pre ph hc hq.eq hp.eq h
theorem Ayd [rg:Rg] (h:Q .normal E H):SPz P n ops Q [] E H:=fun _ _=>Jq h
theorem Aye [rg:Rg] (h:SXz P n ops Q H l (fun w0 H0 E H=>SP P n ops w0 H0 Q r E H) E H):SPz P n ops Q (l::r) E H:=fun w0 H0=>Dq (h w0 H0)
theorem At4 [rg:Rg] (ha:(l.all (·.2))=true) (h:SXz P n ops Q [] l (fun w0 H0 E H=>SP P n ops w0 H0 Q r E H) E H):SPz P n ops Q (l::r) E H:=fun w0 H0=>G6 (h w0 H0)
theorem Yg [rg:Rg] (Hs:Hp) {F:Hp} (hs:Split H Hs F) (h:SXz P n ops Q Hs l (fun w0 H0 E H=>SP P n ops w0 H0 Q r E H) E H):SPz P n ops Q (l::r) E H:=fun w0 H0=>A0s Hs hs (h w0 H0)
theorem Ayf [rg:Rg] (h:SPz P n ops Q r E H):SXz P n ops Q Hs [] (fun w0 H0 E H=>SP P n ops w0 H0 Q r E H) E H:=fun w0 H0=>Av (h w0 H0)
theorem D9 [rg:Rg] {db:Nat} {u:Bool} {L F:Hp} (h:fnd E db=some (.bool u)) (hs:Split H L F):SXz P n ops Q Hs [] (fun _ _ E' H'=>fnd E' db=some (.bool u)∧∃ F,Split H' L F) E H:=fun w0 H0=>Av ⟨h,F,hs⟩
theorem Aj [rg:Rg] {d:Nat} {op:Op} {ty:TypeId} {pos:String} {af:Array Edge} {v:Value} (hr:Rd P E Hs op v) (k:SXz P n ops Q Hs l K ((d,v)::E) H) (hd:Nat.blt d n=true:=by rfl):SXz P n ops Q Hs ((⟨some d,op,ty,pos,af,none⟩,false)::l) K E H:=fun w0 H0=>B4 hr hd (k w0 H0)
theorem A1p [rg:Rg] {d:Option Tmp} {op:Op} {ty:TypeId} {pos:String} {af:Array Edge} {j dj:Nat} {b x:Bool} (hj:yl (Fx 0 l0) j=some dj) (hb:fnd E dj=some (.bool b))
  (k:SXz P n l0.toArray Q Hs ((⟨d,op,ty,pos,af,none⟩,x)::l) K E H):SXz P n l0.toArray Q Hs ((⟨d,op,ty,pos,af,some (j,b)⟩,x)::l) K E H:=fun w0 H0=>x_g yk hj hb (k w0 H0)
theorem A0p [rg:Rg] {o:Oper} (h:SO P n ops [o] E H (fun e E' H'=>e= .normal∧(∃ F,Split H' Hs F)∧SXz P n ops Q Hs l K E' H')):SXz P n ops Q Hs ((o,true)::l) K E H :=
 fun w0 H0=>B7 fun a w h1 h2 h3 h4=>Jm (fun e a w ⟨E',H',k1,k2,k3,k4,k5,k6,k7⟩=>⟨E',H',k1,k2,k3,k4,k5,k6,k7 w0 H0⟩) _ a w (h a w h1 h2 h3 h4)
theorem Ayg [rg:Rg] {F:Hp} (hs:Split H Hs F) (k:SXz P n ops Q Hs l K E H):SO P n ops [] E H (fun e E' H'=>e= .normal∧(∃ F,Split H' Hs F)∧SXz P n ops Q Hs l K E' H'):=Ag ⟨rfl,⟨F,hs⟩,k⟩
theorem Lz [rg:Rg] {a rest:List (Oper×Bool)} {t u:Bool} {j dj db d:Nat} {ty:TypeId} {pos:String} {af:Array Edge} {gd:Option (Nat×Bool)} (hg:gX l=some (j,false)) (hj:yl (Fx 0 l0) j=some dj)
  (hp:PkX dj l a (⟨some d,.pick (.tmp dj) (.const (.bool true)) (.tmp db),ty,pos,af,gd⟩,false) rest) (hc:fnd E dj=some (.bool t)) (hgd:gOk E (Fx 0 l0) gd=true) (hd:Nat.blt d n=true)
  (hsk:skB (Fx 0 l0) j false [] (a.map (·.1))=true) (hfr:(a.all fun o=>fresh E o.1.dst)=true)
  (hb:t=false→SXz P n l0.toArray Q Hs a (fun _ _ E' H'=>fnd E' db=some (.bool u)∧∃ F,Split H' H F) ((dj,.bool false)::E) H)
  (kk:SXz P n l0.toArray Q Hs rest K ((d,.bool (t || u))::E) H):SXz P n l0.toArray Q Hs l K E H :=
 fun w0 H0=>Px (k:=a.length) yk hj hc hp.eq.1 hgd hd (by rw [hp.eq.2];exact hsk) (by rw [hp.eq.2];exact hfr) (fun h=>by rw [hp.eq.2];exact hb h w0 H0) (kk w0 H0)
theorem Fe [rg:Rg] {a rest:List (Oper×Bool)} {t u:Bool} {j dj db d:Nat} {ty:TypeId} {pos:String} {af:Array Edge} {gd:Option (Nat×Bool)} (hg:gX l=some (j,true)) (hj:yl (Fx 0 l0) j=some dj)
  (hp:PkX dj l a (⟨some d,.pick (.tmp dj) (.tmp db) (.const (.bool false)),ty,pos,af,gd⟩,false) rest) (hc:fnd E dj=some (.bool t)) (hgd:gOk E (Fx 0 l0) gd=true) (hd:Nat.blt d n=true)
  (hsk:skB (Fx 0 l0) j true [] (a.map (·.1))=true) (hfr:(a.all fun o=>fresh E o.1.dst)=true)
  (hb:t=true→SXz P n l0.toArray Q Hs a (fun _ _ E' H'=>fnd E' db=some (.bool u)∧∃ F,Split H' H F) ((dj,.bool true)::E) H)
  (kk:SXz P n l0.toArray Q Hs rest K ((d,.bool (t && u))::E) H):SXz P n l0.toArray Q Hs l K E H :=
 fun w0 H0=>Aok (k:=a.length) yk hj hc hp.eq.1 hgd hd (by rw [hp.eq.2];exact hsk) (by rw [hp.eq.2];exact hfr) (fun h=>by rw [hp.eq.2];exact hb h w0 H0) (kk w0 H0)
end
section
variable {P:Program} {n:Nat} {E:Env} {H Hs:Hp} {Q:C5} {ops:Array Oper} {rest:List Oper} {l:List (Oper×Bool)} {r:List (List (Oper×Bool))} {K:World→Hp→Env→Hp→Prop} {d:Nat} {op:Op} {ty:TypeId} {pos:String} {af:Array Edge} {A:Prop}
theorem isO [rg:Rg] (h:SO P n ops (⟨some d,op,ty,pos,af,none⟩::rest) E H Q):SO P n ops (⟨some d,op,ty,pos,af,none⟩::rest) E H Q:=h
theorem Ayh [rg:Rg] {K:Env→Hp→Prop} (h:thn K Q .normal E H):SO P n ops [] E H (thn K Q):=Ag h
theorem Ayi [rg:Rg] {i:Nat} (h:blk i Q .normal E H):SO P n ops [] E H (blk i Q):=Ag h
theorem Ayj [rg:Rg] {fn:Func} {R:Value→Hp→Prop} (h:G0 P fn R .normal E H):SO P n ops [] E H (G0 P fn R):=Ag h
theorem isS [rg:Rg] {t:TypeId} {x y:Operand} (h:SO P n ops (⟨none,.store t x y,ty,pos,af,none⟩::rest) E H Q):SO P n ops (⟨none,.store t x y,ty,pos,af,none⟩::rest) E H Q:=h
theorem isG [rg:Rg] {d:Option Tmp} {j:Nat} {b:Bool} (h:SO P n ops (⟨d,op,ty,pos,af,some (j,b)⟩::rest) E H Q):SO P n ops (⟨d,op,ty,pos,af,some (j,b)⟩::rest) E H Q:=h
theorem isX [rg:Rg] (h:SXz P n ops Q Hs ((⟨some d,op,ty,pos,af,none⟩,false)::l) K E H):SXz P n ops Q Hs ((⟨some d,op,ty,pos,af,none⟩,false)::l) K E H:=h
theorem Ayk [rg:Rg] {d:Option Tmp} {j:Nat} {b x:Bool} (h:SXz P n ops Q Hs ((⟨d,op,ty,pos,af,some (j,b)⟩,x)::l) K E H):SXz P n ops Q Hs ((⟨d,op,ty,pos,af,some (j,b)⟩,x)::l) K E H:=h
theorem A1q [rg:Rg] (h:SPz P n ops Q (l::r) E H):SPz P n ops Q (l::r) E H:=h
theorem A0q [rg:Rg] (h:SO P n ops [] E H (fun e E' H'=>e= .normal∧(∃ F,Split H' Hs F)∧SXz P n ops Q Hs l K E' H')):SO P n ops [] E H (fun e E' H'=>e= .normal∧(∃ F,Split H' Hs F)∧SXz P n ops Q Hs l K E' H'):=h
theorem A1r {i j:Nat} (h:blk i Q (.exit j) E H):blk i Q (.exit j) E H:=h
end
structure Bx (A:Prop):Prop where h:A
theorem sa {A B:Prop} (k:A) (h:Bx A→B:=by
 intro k
 first
 | with_reducible exact An k.h
 | with_reducible exact Ake k.h
 | with_reducible exact n_K k.h
 | ((with_reducible refine A0q ?_);(refine Ayg sP ?_;exact k.h))
 | with_reducible exact Ayh k.h
 | with_reducible exact Ayi k.h
 | with_reducible exact Ayj k.h
 | ((with_reducible refine isO (op:= .move _) ?_);(refine oM rfl ?_;exact k.h))
 | ((with_reducible refine isO (op:= .fieldAddr _ _ _) ?_);(refine oF rfl ?_;exact k.h))
 | ((with_reducible refine isO (op:= .assign _) ?_);(refine oA rfl ?_;exact k.h))
 | ((with_reducible refine isO (op:= .nilCheck _) ?_);(refine oN rfl ?_;exact k.h))
 | ((with_reducible refine isO (op:= .extract _ _) ?_);(refine oE rfl rfl ?_;exact k.h))
 | with_reducible exact Ct k.h
 | with_reducible exact Cg k.h
 | with_reducible exact Eh k.h
 | with_reducible exact Jy k.h
 | with_reducible exact x_K k.h
 | with_reducible exact N4 k.h
 | ((with_reducible refine A1r ?_);exact Aym rfl k.h)
 | with_reducible exact Im k.h
 | with_reducible exact r_K k.h
 | with_reducible exact U9 k.h
 | ((with_reducible refine isG ?_);(refine A1o rfl rfl ?_;exact k.h))
 | ((with_reducible refine isX (op:= .move _) ?_);(refine Aj (Cx rfl) ?_;exact k.h))
 | ((with_reducible refine isX (op:= .fieldAddr _ _ _) ?_);(refine Aj (Cr rfl) ?_;exact k.h))
 | ((with_reducible refine isX (op:= .nilCheck _) ?_);(refine Aj (G2 rfl) ?_;exact k.h))
 | ((with_reducible refine isX (op:= .assign _) ?_);(refine Aj (Km rfl) ?_;exact k.h))
 | ((with_reducible refine isX (op:= .extract _ _) ?_);(refine Aj (Du rfl rfl) ?_;exact k.h))
 | with_reducible exact A0p k.h
 | with_reducible exact Ayf k.h
 | ((with_reducible refine Ayk ?_);(refine A1p rfl rfl ?_;exact k.h))
 | ((with_reducible refine A1q ?_);first | (refine At4 rfl ?_;exact k.h) | exact Aye k.h)
 | with_reducible exact Ayd k.h):B:=h ⟨k⟩
theorem sb {A B:Prop} (k:A) (h:Bx A→B:=by
 intro k
 first
 | exact sa k.h
 | ((with_reducible refine isO (op:= .load _ _) ?_);(first | (refine oR (Al rfl mM rfl) ?_;exact k.h) | (refine oR (Ao rfl mM rfl) ?_;exact k.h)))
 | ((with_reducible refine isO (op:= .binOp .add _ _ _ _) ?_);(first | (refine oR (B5 rfl rfl (by omega)) ?_;exact k.h) | (refine oR (Au rfl rfl rfl) ?_;exact k.h)))
 | ((with_reducible refine isO (op:= .binOp .sub _ _ _ _) ?_);(first | (refine oR (Fw rfl rfl (by omega)) ?_;exact k.h) | (refine oR (Au rfl rfl rfl) ?_;exact k.h)))
 | ((with_reducible refine isO (op:= .binOp .eql _ _ _ _) ?_);(first | (refine oR (Au rfl rfl rfl) ?_;exact k.h) | (refine oR (Aoc rfl rfl) ?_;exact k.h) | (refine oR (Aya rfl rfl) ?_;exact k.h)))
 | ((with_reducible refine isO (op:= .binOp .neq _ _ _ _) ?_);(first | (refine oR (Au rfl rfl rfl) ?_;exact k.h) | (refine oR (Ac8 rfl rfl) ?_;exact k.h) | (refine oR (Afu rfl rfl) ?_;exact k.h)))
 | ((with_reducible refine isO (op:= .binOp _ _ _ _ _) ?_);(first | (refine oR (Au rfl rfl rfl) ?_;exact k.h)))
 | ((with_reducible refine isS ?_);(refine Ac rfl rfl uD rfl rfl rfl ?_;exact k.h))
 | ((with_reducible refine isO (op:= .call ⟨.builtin .len,_,_⟩) ?_);(first | (refine oR (H3 rfl) ?_;exact k.h)))
 | ((with_reducible refine isO (op:= .unOp .not _ _) ?_);(first | (refine oR (D5 rfl) ?_;exact k.h)))
 | ((with_reducible refine isO (op:= .convert _ _ _) ?_);(first | (refine oR (Dv rfl) ?_;exact k.h)))
 | ((with_reducible refine isO (op:= .indexAddr _ _ _) ?_);(first | (refine oR (G3 rfl rfl (by omega)) ?_;exact k.h)))
 | ((with_reducible refine isO (op:= .build _ _) ?_);(first | (refine oR (Db rfl rfl) ?_;exact k.h)))
 | ((with_reducible refine isX (op:= .load _ _) ?_);(first | (refine Aj (Al rfl mM rfl) ?_;exact k.h) | (refine Aj (Ao rfl mM rfl) ?_;exact k.h)))
 | ((with_reducible refine isX (op:= .binOp _ _ _ _ _) ?_);(first | (refine Aj (Au rfl rfl rfl) ?_;exact k.h)))
 | ((with_reducible refine isX (op:= .call ⟨.builtin .len,_,_⟩) ?_);(first | (refine Aj (H3 rfl) ?_;exact k.h)))
 | ((with_reducible refine isX (op:= .convert _ _ _) ?_);(first | (refine Aj (Dv rfl) ?_;exact k.h)))):B:=h ⟨k⟩
theorem sg {A B:Prop} (k:A) (h:Bx A→B:=by
 intro k
 first
 | ((with_reducible refine isG ?_);refine' Kn rfl rfl inferInstance rfl rfl rfl rfl rfl (fun hg=> ?_) ?_;rotate_left;· (try (simp at hg;show _));(repeat refine sb ?_);exact A0o rfl sP)
 | ((with_reducible refine isG ?_);refine' G4 rfl rfl inferInstance rfl rfl rfl rfl rfl (fun hg=> ?_) ?_;rotate_left;· (try (simp at hg;show _));(repeat refine sb ?_);exact A0o rfl sP)
 | ((with_reducible refine Ayk ?_);refine' Lz rfl rfl inferInstance rfl rfl rfl rfl rfl (fun hg=> ?_) ?_;rotate_left;· (try (simp at hg;show _));(repeat refine sb ?_);exact D9 rfl sP)
 | ((with_reducible refine Ayk ?_);refine' Fe rfl rfl inferInstance rfl rfl rfl rfl rfl (fun hg=> ?_) ?_;rotate_left;· (try (simp at hg;show _));(repeat refine sb ?_);exact D9 rfl sP)
 exact k.h):B:=h ⟨k⟩
theorem zA {A B:Prop} (k:A) (h:Bx A→B:=by intro k;(repeat refine sa ?_);exact k.h):B:=h ⟨k⟩
theorem zC {A B:Prop} (k:A) (h:Bx A→B:=by intro k;(repeat (first | refine sg ?_ | refine sb ?_));exact k.h):B:=h ⟨k⟩
section
variable {P:Program} {n:Nat} {E:Env} {H:Hp} {Q:C5} {ops:Array Oper} {rest:List Oper}
theorem zW [rg:Rg] {l:List Oper} {A:Prop} {Y F G:Hp} (k:A) (hg:Ap Y F G:=by repeat (first | exact Ap.nil | apply Ap.cons | apply Ap.app | exact Ap.one)) (h:Bx A→SO P n ops l E G Q:=by intro k;(repeat (first | refine sg ?_ | refine sb ?_));exact k.h):SO P n ops l E (Y++F) Q:=A6 hg (h ⟨k⟩)
theorem zE [rg:Rg] {d:Nat} {f:FuncId} {xs:List Operand} {ts:Array TypeId} {ty:TypeId} {pos:String} {af:Array Edge} {args:List Value} {L F:Hp} {R:Value→Hp→Prop}
  (hx:evl E xs=some args) (hf:Does P f args L R) (k:∀ v Y,R v Y→SO P n ops rest ((d,v)::E) (Y++F) Q) (hs:Split H L F:=by exact sP) (hd:Nat.blt d n=true:=by rfl) (he:Ent P f:=by first | infer_instance | exact ⟨fun _ _=>by kernel_rfl⟩) :
  SO P n ops (⟨some d,.call ⟨.value (.func f),xs.toArray,ts⟩,ty,pos,af,none⟩::rest) E H Q:=Ch (he:=he) hx hf hs hd k
theorem zI [rg:Rg] {d:Nat} {f:FuncId} {xs:List Operand} {ts:Array TypeId} {ty:TypeId} {pos:String} {af:Array Edge} {args:List Value} {L F Y G:Hp} {X:Value}
  (hx:evl E xs=some args) (hf:Does P f args L (Is X Y)) (k:SO P n ops rest ((d,X)::E) G Q) (hs:Split H L F:=by exact sP) (hd:Nat.blt d n=true:=by rfl) (hg:Ap Y F G:=by exact aQ) (he:Ent P f:=by first | infer_instance | exact ⟨fun _ _=>by kernel_rfl⟩) :
  SO P n ops (⟨some d,.call ⟨.value (.func f),xs.toArray,ts⟩,ty,pos,af,none⟩::rest) E H Q:=Ir (he:=he) hx hf hs hd hg k
theorem rS {fn:Func} {v:Value} (h:Ret P fn E H v:=by
 first
 | exact Aw rfl (by first | exact Af rfl | exact Ff rfl mM rfl | exact Bc rfl mM rfl)
 | exact Aj9 rfl
 | exact Dj rfl (by first | exact Af rfl | exact Ff rfl mM rfl | exact Bc rfl mM rfl) (by first | exact Af rfl | exact Ff rfl mM rfl | exact Bc rfl mM rfl)
 | exact N1 rfl (by first | exact Af rfl | exact Ff rfl mM rfl | exact Bc rfl mM rfl) (by first | exact Af rfl | exact Ff rfl mM rfl | exact Bc rfl mM rfl) (by first | exact Af rfl | exact Ff rfl mM rfl | exact Bc rfl mM rfl)
 | exact Py rfl (by first | exact Af rfl | exact Ff rfl mM rfl | exact Bc rfl mM rfl) (by first | exact Af rfl | exact Ff rfl mM rfl | exact Bc rfl mM rfl) (by first | exact Af rfl | exact Ff rfl mM rfl | exact Bc rfl mM rfl) (by first | exact Af rfl | exact Ff rfl mM rfl | exact Bc rfl mM rfl)):Ret P fn E H v:=h
theorem zL {fn:Func} {R:Value→Hp→Prop} {v:Value} {Y F:Hp} (hr:Ret P fn E H v:=by exact rS) (hR:R v Y) (hs:Split H Y F:=by exact sP):G0 P fn R .ret E H:=Bb hr hR hs
theorem zLN {fn:Func} {R:Value→Hp→Prop} {v:Value} {Y F:Hp} (hr:Ret P fn E H v:=by exact rS) (hR:R v Y) (hs:Split H Y F:=by exact sP):G0 P fn R .normal E H:=Aan hr hR hs
theorem zS {fn:Func} {X v:Value} {Y F:Hp} (hr:Ret P fn E H v:=by exact rS) (hv:v=X:=by rfl) (hs:Split H Y F:=by exact sP):G0 P fn (Is X Y) .ret E H:=Ak hr hv hs
theorem zSN {fn:Func} {X v:Value} {Y F:Hp} (hr:Ret P fn E H v:=by exact rS) (hv:v=X:=by rfl) (hs:Split H Y F:=by exact sP):G0 P fn (Is X Y) .normal E H:=Pz hr hv hs
theorem zF {f:Nat} (n:Nat) {fn:Func} {c:Code} {args:List Value} {R:Value→Hp→Prop}
  (hf:P.funcs[f]? =some fn) (h:SC P n c (Og 0 args) H (G0 P fn R)) (hn:fn.ntmps=n:=by rfl) (hb:fn.body=some c:=by rfl) (hl:Nat.ble args.length n=true:=by rfl):Does P f args H R:=Kf hf hn hb (A25 hl) h
end
end
section
open Go Go.Sem
section
variable {P:Program} {n:Nat} {E:Env} {H:Hp} {Q:C5}
theorem Rr [rg:Rg] {x y:Code} (ks:List Nat) {F:Env} (hF:Keep2 E ks F) (M:Env) (L:Hp)
  (h:SC P n x E H (fun e E' H'=>e= .normal∧Keep E' M∧Keep E' F∧∃ R,Split H' L R)) (k:SC P n y (M++F) L Q):SC P n (.seq x y) E H Q :=
 A0t (M++F) L (h.mono fun _ _ _ ⟨h1,h2,h3,h4⟩=>⟨h1,h2.append h3,h4⟩) k
theorem Ayl [rg:Rg] {x y:Code} (ks:List Nat) {F:Env} (hF:Keep2 E ks F) (M:Env)
  (h:SC P n x E H (fun e E' H'=>e= .normal∧Keep E' M∧Keep E' F∧∃ R,Split H' H R)) (k:SC P n y (M++F) H Q):SC P n (.seq x y) E H Q :=
 Rr ks hF M H h k
theorem cZ {E M F:Env} {H L:Hp} {e:Exit} (h0:e= .normal) (h1:Keep E M:=by repeat' first | exact Keep.nil | refine Keep.cons rfl ?_) (h2:Keep E F:=by repeat' first | exact Keep.nil | refine Keep.cons rfl ?_) {R:Hp} (h3:Split H L R:=by exact sP):e= .normal∧Keep E M∧Keep E F∧∃ R,Split H L R:=⟨h0,h1,h2,R,h3⟩
end
end
section
open Go Go.Sem
set_option linter.unusedSectionVars false
theorem Kk {w:World} {b:Nat} {o o':Obj} {H K:Hp} (h:HpOk H w) (hu:Upd b o o' H K) (h1:∀ c T f,o≠.cells c T f) (h2:∀ c T f,o'≠.cells c T f):Trk w (w.putObj b o') H K :=
 Pp h hu (fun i s=>by
  have hlt:=h.lt hu.mem
  have e1:=h.here _ hu.mem
  have e2:(B6 w b o').heap[b]? =some o':=by simp [B6,hlt]
  unfold World.frozen?
  grind)
theorem Kl {w:World} {H:Hp} (h:HpOk H w) {o:Obj} (h1:∀ c T f,o≠.cells c T f):Trk w (w.alloc o) H ((w.heap.size,true,o)::H) :=
 Aaf h (fun i s=>by
  unfold World.frozen?
  grind)
section
variable {P:Program} {n:Nat} {E:Env} {H:Hp} {Q:C5} {ops:Array Oper} {rest:List Oper}
def SY [rg:Rg] (P:Program) (n:Nat) (ops:Array Oper) (l:List Oper) (E:Env) (H:Hp) (Q:C5):Prop :=
 ∀ a w,EnvOk E a→a.tmps.size=n→a.defers=rg.ds→HpOk H w→wpListIn Rg.F 0 P ops (Up n w H Q) l a w
theorem Rn [rg:Rg] {id:Nat} {l:List Oper} (Y:List (Nat×Nat)) (hY:Ac0 l Y=true) (h:∀ ops,Yok ops Y→SY P n ops l E H Q):SC P n (.region id l.toArray false) E H Q:=by
 intro a w h1 h2 h3 h4 _
 refine wpIn_region_lit (h _ ?_ a w h1 h2 h3 h4)
 intro j d hm
 have:=A4l.1 hY (j,d) hm
 grind
theorem Ah0 [rg:Rg] (h:Q .normal E H):SY P n ops [] E H Q:=fun a w h1 h2 h3 h4=>⟨E,H,h1,h2,h3,Trk.refl h4,h⟩
theorem y_app [rg:Rg] {l x:List Oper} (y:List Oper) (hl:l=x++y) (hn:rg.rd.isSome=true→x.all Um=true) (h:SO P n ops x E H (fun e E' H'=>e= .normal∧SY P n ops y E' H' Q)):SY P n ops l E H Q:=by
 intro a w h1 h2 h3 h4
 subst hl
 refine Ph y (Q:=Up n w H (fun e E' H'=>e= .normal∧SY P n ops y E' H' Q)) ?_ ?_ x a w hn (h a w h1 h2 h3 h4)
 ·rintro a' w' ⟨E',H',k1,k2,k3,k4,_,k5⟩
  have:=k5 a' w' k1 k2 k3 k4.ok
  exact wpListIn_post (fun e a w hu=>hu.after k4) _ _ _ this
 ·rintro e a' w' he ⟨E',H',k1,k2,k3,k4,k5,_⟩
  exact he k5
where
 wpListIn_post {F:Fence} {m:Nat} {q q':Exit→Act→World→Prop} (hq:∀ e a w,q e a w→q' e a w):∀ (l:List Oper) (a:Act) (w:World),wpListIn F m P ops q l a w→wpListIn F m P ops q' l a w
  | [],a,w,h=>hq _ _ _ h
  | o::l,a,w,h=>by
   simp only [wpListIn] at h ⊢
   split
   ·rename_i hw
    rw [A6v hw] at h
    refine ⟨h.1,?_⟩
    have h2:=h.2
    have hk:∀ a w,wpListIn F m P ops q l a w→wpListIn F m P ops q' l a w:=wpListIn_post hq l
    generalize (o.semAt F.round a.eval).run P w=x at h2 ⊢
    cases x with
    | ok x w2 =>
     cases x <;> simp only [Oper.uponIn] at h2 ⊢
     case enter=>exact ⟨h2.1,CallsIn.mono h2.2 fun e w' hh=>by cases e <;> first | exact hk _ _ hh | exact hq _ _ _ hh | exact let ⟨a,w,hh⟩:=hh;⟨a,w,hq .outgrown a w hh⟩⟩
     case round=>exact ⟨h2.1,RoundIn.mono h2.2 fun e w' hh=>by cases e <;> first | exact hk _ _ hh | exact hq _ _ _ hh | exact let ⟨a,w,hh⟩:=hh;⟨a,w,hq .outgrown a w hh⟩⟩
     case row=>exact ⟨h2.1,RowsIn.mono h2.2 fun _ _ hh=>hk _ _ hh⟩
     all_goals first | exact hk _ _ h2 | exact h2.elim
    | halt x w2=>cases x <;> simp only [Oper.uponIn] at h2 ⊢ <;> exact hq _ _ _ h2
   ·rename_i hw
    rw [A6u hw] at h
    exact ⟨h.1,wpListIn_post hq l _ _ h.2⟩
theorem Mr [rg:Rg] {l:List Oper} (k:Nat) (h:SO P n ops (l.take k) E H (fun e E' H'=>e= .normal∧SY P n ops (l.drop k) E' H' Q)) (hn:rg.rd.isSome=true→(l.take k).all Um=true:=by intro e;cases e):SY P n ops l E H Q :=
 y_app (l.drop k) (A23 k l).symm hn h
theorem Aw3 [rg:Rg] {l:List Oper} {F:Env} (hk:Keep E F) (h:SY P n ops l F H Q):SY P n ops l E H Q:=fun a w h1 h2 h3 h4=>h a w (hk.ok h1) h2 h3 h4
def Rnd (P:Program) (l:Nat) (f:FuncId) (tmps:Array Value) (asg bd:Code) (L:Hp) (R:Value→Hp→Prop):Prop :=
 ∀ w,HpOk L w→RoundIn Fence.wide 0 P l f tmps asg bd w fun e w'=>∃ v L',e= .returned v∧R v L'∧Trk w w' L L'
def Gc (r:Loop) (args:List Value):Array Value:=(r.params.zip args.toArray).foldl (fun tmps (t,a)=>tmps.setIfInBounds t a) r.tmps
theorem Aag [rg:Rg] {d l:Nat} {x:Operand} {xs:List Operand} {ts:Array TypeId} {ty:TypeId} {pos:String} {af:Array Edge} {gd:Option (Nat×Bool)} {args:List Value} {r:Loop} {L F:Hp} {R:Value→Hp→Prop} {Y:List (Nat×Nat)} (yk:Yok ops Y)
  (hgd:gOk E Y gd=true) (hg:ev E x=some (.func (.yield l) #[] #[])) (hx:evl E xs=some args) (hz:args.length=r.params.size) (hs:Split H ((l,true,.loop r)::L) F)
  (hr:Rnd P l r.fn (Gc r args) r.assign r.body ((l,true,.loop r)::L) R) (hd:Nat.blt d n=true)
  (k:∀ v L',R v L'→SY P n ops rest ((d,v)::E) (L'++F) Q):SY P n ops (⟨some d,.call ⟨.value x,xs.toArray,ts⟩,ty,pos,af,gd⟩::rest) E H Q:=by
 intro a w h1 h2 h3 h4
 have hp:=hs.perm
 have hok:=h4.perm hp
 have hl:=hok.here (l,true,.loop r) (by simp)
 have hrun:(execOp a.eval ⟨some d,.call ⟨.value x,xs.toArray,ts⟩,ty,pos,af,gd⟩).run P w= .ok (.round l r.fn (Gc r args) r.assign r.body) w:=by
  have e:=Aam h1 hx
  have e2:xs.toArray.map a.eval=args.toArray:=by rw [← e];simp
  simp only [execOp,resolve,As h1 hg,Deferred.ofValue,invoke]
  rw [e2]
  have hy:=run_yield (P:=P) (args:=args.toArray) hl (by omega)
  simpa [Gc] using hy
 unfold wpListIn
 rw [A6v (Ln yk hgd h1)]
 refine ⟨fun _ _=>trivial,?_⟩
 rw [Oper.semAt_eq _ _ _ (by simp),hrun,Oper.uponIn_round]
 refine ⟨(fun e=>by cases e),RoundIn.mono (hr w hok.left) ?_⟩
 rintro e w' ⟨v,L',rfl,hR,ht⟩
 have ht':Trk w w' H (L'++F):=(ht.frame hok).perm_left hp.symm
 have hlt:d<a.tmps.size:=by rw [h2];simp_all
 exact y_app.wpListIn_post (fun e a w hu=>hu.after ht') _ _ _ (k v L' hR _ _ (h1.put hlt) (by simp [Act.put,h2]) h3 ht'.ok)
theorem U0 {l f:Nat} {tmps tm:Array Value} {ps:Array Tmp} {asg bd:Code} {fn:FuncId} {D:Nat} {M:Hp} {R:Value→Hp→Prop} (E0:Env) (he:EnvOk E0 { tmps:=tmps,defers:=[] }) (hn:tmps.size=n) (hnd:(Kc asg && Kc bd)=true)
  (h:∀ rg:Rg,SC P n asg E0 ((l,true,.loop ⟨.ready,none,fn,tm,ps,asg,bd,D⟩)::M) (fun e E1 H1=>e= .normal∧∃ N,H1=((l,true,.loop ⟨.ready,none,fn,tm,ps,asg,bd,D⟩)::N) ∧
   SC P n bd E1 ((l,true,.loop ⟨.busy,none,fn,tm,ps,asg,bd,D⟩)::N) (fun e E2 H2=>e= .normal∧∃ N2 F2,Split H2 ((l,true,.loop ⟨.busy,none,fn,tm,ps,asg,bd,D⟩)::N2) F2∧R (.bool true) ((l,true,.loop ⟨.ready,none,fn,tm,ps,asg,bd,D⟩)::N2)))) :
  Rnd P l f tmps asg bd ((l,true,.loop ⟨.ready,none,fn,tm,ps,asg,bd,D⟩)::M) R:=by
 intro w hw
 simp only [A4k] at hnd
 let rg:Rg:=⟨[],some l⟩
 have hF:@Rg.F rg=Fence.wide.inRound l:=rfl
 refine roundIn_of_wpIn trivial ?_
 have h0:=h rg { tmps:=tmps,defers:=[] } w he hn rfl hw (fun _=>⟨fun ⟨a,w,E',H',_,_,_,_,k,_⟩=>(by cases k),hnd.1⟩)
 rw [hF] at h0
 refine A6q h0 ?_
 rintro e a1 w1 ⟨E1,H1,k1,k2,k3,k4,k5,N,k6,k7⟩
 subst k5
 subst k6
 have t1:=k4
 have hl1:=t1.ok.here _ (A3y)
 have t2:=Kk (b:=l) (o':= .loop ⟨.busy,none,fn,tm,ps,asg,bd,D⟩) t1.ok .here (fun _ _ _ e=>nomatch e) (fun _ _ _ e=>nomatch e)
 refine ⟨_,run_beginRound hl1 rfl,?_⟩
 have h1:=k7 a1 (w1.putObj l (.loop ⟨.busy,none,fn,tm,ps,asg,bd,D⟩)) k1 k2 k3 t2.ok (fun _=>⟨fun ⟨a,w,E',H',_,_,_,_,k,_⟩=>(by cases k),hnd.2⟩)
 rw [hF] at h1
 refine A6q h1 ?_
 rintro e a2 w2 ⟨E2,H2,m1,m2,m3,m4,m5,N2,F2,m6,m7⟩
 subst m5
 have t3:=m4.split m6
 have hl2:=t3.ok.here _ (A3y)
 have t4:=Kk (b:=l) (o':= .loop ⟨.ready,none,fn,tm,ps,asg,bd,D⟩) t3.ok .here (fun _ _ _ e=>nomatch e) (fun _ _ _ e=>nomatch e)
 exact ⟨_,_,run_endRound none hl2,.bool true,_,rfl,m7,((t1.trans t2).trans t3).trans t4⟩
end
def mark (D:Nat):Blk:=(D,true,.deferred (some []))
def DQ (P:Program) (fn:Func) (w:World) (H:Hp) (R:Value→Hp→Prop):Exit→Act→World→Prop:=fun e a' w' =>
 (e= .normal∨e= .ret)∧∃ E' H' D v L,EnvOk E' a'∧a'.defers=[⟨.collected D,#[]⟩]∧Trk w w' H H'∧(∃ G F,Pick (mark D) H' G∧Split G L F∧Ret P fn E' G v∧R v L)
def SDf (P:Program) (fn:Func) (n:Nat) (c:Code) (E:Env) (H:Hp) (R:Value→Hp→Prop):Prop :=
 ∀ a w,EnvOk E a→a.tmps.size=n→a.defers=[]→HpOk H w→c.wpIn Fence.wide 0 P (DQ P fn w H R) a w
def SDk (P:Program) (fn:Func) (n:Nat) (c y:Code) (E:Env) (H:Hp) (R:Value→Hp→Prop):Prop :=
 ∀ a w,EnvOk E a→a.tmps.size=n→a.defers=[]→HpOk H w→c.wpIn Fence.wide 0 P (Exit.then (y.wpIn Fence.wide 0 P (DQ P fn w H R)) (DQ P fn w H R)) a w
def An1 (P:Program) (fn:Func) (R:Value→Hp→Prop) (D:Nat):C5
 | .normal,E,H | .ret,E,H=>∃ G,Pick (mark D) H G∧G0 P fn R .ret E G
 | _,_,_=>False
section
variable {P:Program} {n f:Nat} {fn:Func} {E:Env} {H:Hp} {Q:C5} {R:Value→Hp→Prop}
theorem DQ.after {w w1:World} {H1:Hp} (ht:Trk w w1 H H1) {e:Exit} {a:Act} {w':World} (h:DQ P fn w1 H1 R e a w'):DQ P fn w H R e a w' :=
 let ⟨m0,E2,H2,D,v,L,m1,m2,m3,m4⟩:=h;⟨m0,E2,H2,D,v,L,m1,m2,ht.trans m3,m4⟩
theorem An2 {x y:Code} (h:SC P n x E H (fun e E' H'=>e= .normal∧SDf P fn n y E' H' R)):SDf P fn n (.seq x y) E H R:=by
 intro a w h1 h2 h3 h4
 refine wpIn_seq (A6q (h a w h1 h2 h3 h4 fun e=>by cases e) ?_)
 rintro e a' w' ⟨E',H',k1,k2,k3,k4,k5,k6⟩
 subst k5
 exact A6q (k6 a' w' k1 k2 k3 k4.ok) fun e a2 w2 hh=>hh.after k4
theorem Afp {x b y:Code} (h:SC P n x E H (fun e E' H'=>e= .normal∧SDk P fn n b y E' H' R)):SDf P fn n (.seq (.seq x b) y) E H R:=by
 intro a w h1 h2 h3 h4
 refine wpIn_seq (wpIn_seq (A6q (h a w h1 h2 h3 h4 fun e=>by cases e) ?_))
 rintro e a' w' ⟨E',H',k1,k2,k3,k4,k5,k6⟩
 subst k5
 refine A6q (k6 a' w' k1 k2 k3 k4.ok) fun e a2 w2 hh=> ?_
 cases e with
 | normal=>exact A6q hh fun e a3 w3 h3=>h3.after k4
 | _=>exact DQ.after k4 hh
theorem Ro {c:Code} {args:List Value} (hf:P.funcs[f]? =some fn) (hn:fn.ntmps=n) (hb:fn.body=some c) (hl:args.length≤n) (h:SDf P fn n c (Og 0 args) H R):Does P f args H R:=by
 intro w hw
 refine A6e.1 (callsIn_of_wp_marks (n:=0) hf hb trivial (A6q (h { tmps:=args.toArray++Array.replicate (fn.ntmps - args.toArray.size) undef,defers:=[] } w ?_ ?_ rfl hw) ?_))
 ·intro i v hv
  obtain ⟨_,h2⟩:=Ld args 0 i v hv
  have hi:i<args.length:=(List.getElem?_eq_some_iff.1 (by simpa using h2)).1
  simp only [A14]
  rw [A16 (by omega)]
  have h2':args[i]? =some v:=by omega
  simp [h2']
 ·simp;omega
 ·rintro e a' w' ⟨k0,E',H',D,v,L,k1,k2,k3,G,F,k4,k5,k6,k7⟩
  have hp:H'.Perm (mark D::G):=k4.perm
  have t1:Trk w w' H (mark D::G):=k3.sub (k3.ok.perm hp) (fun x hx=>hp.mem_iff.2 hx)
  have hD:=t1.ok.here _ (A3y)
  have t2:=Kk (b:=D) (o':= .deferred none) t1.ok .here (fun _ _ _ e=>nomatch e) (fun _ _ _ e=>nomatch e)
  have t3:=t1.trans t2
  have t4:Trk w (w'.putObj D (.deferred none)) H G:=t3.drop .here
  have fin:LeavesInM Fence.wide 0 P fn a'.tmps (fun e w''=>∃ v H',e= .returned v∧R v H'∧Trk w w'' H H') a'.defers .returning w':=by
   rw [k2]
   exact ⟨(fun e=>nomatch e),.inl ⟨D,_,rfl,run_takeDeferred hD,v,k6 _ _ k1 t4.ok,v,L,rfl,k7,t4.split k5⟩⟩
  rcases k0 with rfl | rfl
  ·exact fin
  ·exact fin
theorem pkD {D:Nat} {H G:Hp} {fn:Func} {R:Value→Hp→Prop} (k:G0 P fn R .ret E G) (h:Pick (mark D) H G:=by repeat (first | exact Pick.here | apply Pick.there | apply Pick.app)):∃ G,Pick (mark D) H G∧G0 P fn R .ret E G:=⟨G,h,k⟩
theorem Atx {i g:Nat} {gf:FuncId} {ps:Array Tmp} {asg bd y:Code} {fi:List Value} {L F:Hp} {R1:Hp→Prop}
  (hg:fnd E g=some (.func (.func gf) fi.toArray #[])) (hs:Split H L F)
  (hf:∀ (D l:Nat) (f0:FuncId) (tm:Array Value),EnvOk E { tmps:=tm,defers:=[] }→tm.size=n →
   Does P gf (fi++[.func (.yield l) #[] #[]]) ((l,true,.loop ⟨.ready,none,f0,tm,ps,asg,bd,D⟩)::L) (fun _ Y=>∃ st M,Y=(l,true,.loop ⟨st,none,f0,tm,ps,asg,bd,D⟩)::M∧st≠.busy∧R1 M))
  (k:∀ (rg:Rg) (D:Nat) (M:Hp),R1 M→SC P n y E (mark D::(M++F)) (An1 P fn R D)) (he:Ent P gf:=by first | infer_instance | exact ⟨fun _ _=>by kernel_rfl⟩) :
  SDk P fn n (.block i (.rangeFunc (.tmp g) ps asg bd)) y E H R:=by
 intro a w h1 h2 h3 h4
 refine wpIn_block (wpIn_rangeFunc fun f0 _=> ?_)
 have t1:=Kl h4 (o:= .deferred (some [])) (fun _ _ _ e=>nomatch e)
 have t2:=Kl t1.ok (o:= .loop ⟨.ready,none,f0,a.tmps,ps,asg,bd,w.heap.size⟩) (fun _ _ _ e=>nomatch e)
 have hsz:(w.alloc (.deferred (some []))).heap.size=w.heap.size+1:=Array.size_push ..
 rw [hsz] at t2
 obtain ⟨W,hW⟩:∃ W,W=(w.alloc (.deferred (some []))).alloc (.loop ⟨.ready,none,f0,a.tmps,ps,asg,bd,w.heap.size⟩):=⟨_,rfl⟩
 rw [← hW] at t2
 have hgv:a.eval (.tmp g)= .func (.func gf) fi.toArray #[]:=h1 g _ hg
 have hen:=run_enterLoop_outer (P:=P) (w:=w) f0 a.tmps ps asg bd
 rw [← hW] at hen
 refine ⟨w.heap.size+1,[⟨.collected w.heap.size,#[]⟩],W,⟨.fn (.func gf) #[],(fi++[Value.func (.yield (w.heap.size+1)) #[] #[]]).toArray⟩,W,gf,(fi++[Value.func (.yield (w.heap.size+1)) #[] #[]]).toArray,W,
  hen,?_,fun _ _=>trivial,?_,fun e=>(by cases e),?_⟩
 ·have hc:∀ v,a.eval (.const v)=v:=fun _=>rfl
  simp [resolve,rangeCall,hgv,hc,Deferred.ofValue,Sem.run_bind,Sem.run_pure,A4g]
 ·have:=he.eq (fi++[Value.func (.yield (w.heap.size+1)) #[] #[]]).toArray W
  simpa [invoke] using this
 ·refine A6e.2 ?_
  have hp:=hs.perm
  have hok2:=t2.ok.perm ((List.Perm.cons _ ((List.Perm.cons _ hp).trans (A4t (l₁:=L) (a:=mark w.heap.size) (l₂:=F)).symm)))
  have hok3:HpOk (((w.heap.size+1,true,Obj.loop ⟨.ready,none,f0,a.tmps,ps,asg,bd,w.heap.size⟩)::L)++(mark w.heap.size::F)) W:=hok2
  refine (hf w.heap.size (w.heap.size+1) f0 a.tmps (by exact h1) h2 W hok3.left).mono ?_
  rintro e W2 ⟨v,Y,rfl,⟨st,M,rfl,hst,hR1⟩,ht⟩
  have t3:=ht.frame hok3
  have tp:Trk w W H (((w.heap.size+1,true,Obj.loop ⟨.ready,none,f0,a.tmps,ps,asg,bd,w.heap.size⟩)::L)++(mark w.heap.size::F)):=(t1.trans t2).sub hok3 (fun x hx=>by
   have:=(List.Perm.cons (w.heap.size+1,true,Obj.loop ⟨.ready,none,f0,a.tmps,ps,asg,bd,w.heap.size⟩) ((List.Perm.cons (mark w.heap.size) hp).trans (A4t (l₁:=L) (a:=mark w.heap.size) (l₂:=F)).symm)).mem_iff (a:=x)
   exact this.2 hx)
  have t4:=tp.trans t3
  have hl:=t4.ok.here _ (A3y)
  have t5:=Kk (b:=w.heap.size+1) (o':= .loop ⟨.exhausted,none,f0,a.tmps,ps,asg,bd,w.heap.size⟩) t4.ok .here (fun _ _ _ e=>nomatch e) (fun _ _ _ e=>nomatch e)
  have t6:=(t4.trans t5).drop .here
  have hpm:(M++mark w.heap.size::F).Perm (mark w.heap.size::(M++F)):=A4t
  have t7:=t6.sub (t6.ok.perm hpm) (fun x hx=>hpm.mem_iff.2 hx)
  refine ⟨none,_,run_endLoop hl hst,?_⟩
  show y.wpIn Fence.wide 0 P _ _ _
  let rg:Rg:=⟨[⟨.collected w.heap.size,#[]⟩],none⟩
  have hk:=k rg w.heap.size M hR1 { a with defers:=[⟨.collected w.heap.size,#[]⟩]++a.defers } _ h1 h2 (by rw [h3];rfl) t7.ok (fun e=>by cases e)
  refine A6q (F:=Fence.wide) hk ?_
  rintro e a2 w2 ⟨E2,H2,m1,m2,m3,m4,m5⟩
  cases e with
  | normal=>obtain ⟨G,q1,v,L2,F3,q2,q3,q4⟩:=m5;exact ⟨.inl rfl,E2,H2,_,v,L2,m1,m3,t7.trans m4,G,F3,q1,q3,q2,q4⟩
  | ret=>obtain ⟨G,q1,v,L2,F3,q2,q3,q4⟩:=m5;exact ⟨.inr rfl,E2,H2,_,v,L2,m1,m3,t7.trans m4,G,F3,q1,q3,q2,q4⟩
  | _=>exact m5.elim
end
end
section
class Mv (α:Type) where
 enc:α→Value
instance:Mv Int:=⟨fun i=> .int .i64 i⟩
instance:Mv Bool:=⟨fun b=> .bool b⟩
structure Me (α:Type) where
 k:Int
 v:α
 n:Nat
structure Mp (α:Type) where
 es:List (Me α)
 cl:Nat
 wk:(es.map (·.k)).Nodup
 wn:(es.map (·.n)).Nodup
 wc:∀ e∈es,e.n<cl
def Cb {α:Type}:List (Me α)→Int→Nat→Option (Nat×α)
 | [],_,_=>none
 | e::es,k,i=>if k=e.k then some (i,e.v) else Cb es k (i+1)
def Lj {α:Type} (es:List (Me α)) (k:Int) (v:α):List (Me α):=es.map fun e=>if e.k=k then { e with v:=v } else e
def Ok {α:Type} (es:List (Me α)) (k:Int):List (Me α):=es.filter fun e=> !decide (e.k=k)
end
end Go.K
namespace Go.K.Mp
section
variable {α:Type}
def get (m:Mp α) (k:Int):Option α:=(Cb m.es k 0).map (·.2)
def keys (m:Mp α):List Int:=m.es.map (·.k)
def nil:Mp α:=⟨[],0,A5o,A5o,fun e he=>by cases he⟩
def clr (m:Mp α):Mp α:=⟨[],m.cl,A5o,A5o,fun e he=>by cases he⟩
end
end Go.K.Mp
namespace Go.K
section
section
variable {α:Type}
theorem X7 (es:List (Me α)) (k:Int) (v:α):(Lj es k v).map (·.k)=es.map (·.k):=by
 unfold Lj
 rw [A51]
 refine A3l fun e _=> ?_
 grind
theorem Ah1 (es:List (Me α)) (k:Int) (v:α):(Lj es k v).map (·.n)=es.map (·.n):=by
 unfold Lj
 rw [A51]
 refine A3l fun e _=> ?_
 grind
theorem Hv {es:List (Me α)} {k:Int} (j:Nat):Cb es k j=none↔k∉es.map (·.k):=by
 induction es generalizing j with
 | nil=>simp [Cb]
 | cons e es ih =>
  unfold Cb
  grind
theorem Afq (es:List (Me α)) (k:Int) (i j:Nat):(Cb es k i).map (·.2)=(Cb es k j).map (·.2):=by
 induction es generalizing i j with
 | nil=>rfl
 | cons e es ih =>
  unfold Cb
  grind
theorem Lk {es:List (Me α)} {k:Int} {j i:Nat} {v:α} (h:Cb es k j=some (i,v)):j≤i∧∃ e,es[i - j]? =some e∧e.k=k∧e.v=v:=by
 induction es generalizing j with
 | nil=>simp [Cb] at h
 | cons e es ih =>
  unfold Cb at h
  grind
theorem Aty {es:List (Me α)} {k:Int} {v:α} (h:k∉es.map (·.k)):Lj es k v=es:=by
 conv=>rhs;rw [← List.map_id es]
 refine A3l fun e he=> ?_
 rw [A6u (fun h2:e.k=k=>h (A53.2 ⟨e,he,h2⟩))]
 rfl
theorem Ah2 {es:List (Me α)} {k:Int} (h:k∉es.map (·.k)):Ok es k=es:=by
 unfold Ok
 rw [List.filter_eq_self]
 grind
theorem Akf {es:List (Me α)} {k k':Int} {v:α} (j:Nat):(Cb (Lj es k v) k' j).map (·.2)=if k'=k then (Cb es k' j).map (fun _=>v) else (Cb es k' j).map (·.2):=by
 induction es generalizing j with
 | nil=>simp [Cb,Lj]
 | cons e es ih =>
  unfold Lj at ih ⊢
  rw [A5x]
  unfold Cb
  have hk:(if e.k=k then { e with v:=v } else e).k=e.k:=by split <;> rfl
  rw [hk]
  grind
theorem Akg {es:List (Me α)} {k:Int} {e:Me α} (j:Nat):(Cb (es++[e]) k j).map (·.2)=match (Cb es k j).map (·.2) with | some v=>some v | none=>if k=e.k then some e.v else none:=by
 induction es generalizing j with
 | nil =>
  unfold Cb Cb
  by_cases h:k=e.k <;> simp [h]
 | cons x es ih =>
  rw [A4n]
  unfold Cb
  grind
theorem Akh {es:List (Me α)} {k k':Int} (j:Nat):(Cb (Ok es k) k' j).map (·.2)=if k'=k then none else (Cb es k' j).map (·.2):=by
 induction es generalizing j with
 | nil=>simp [Cb,Ok]
 | cons e es ih =>
  unfold Ok at ih ⊢
  by_cases h:e.k=k
  ·rw [List.filter_cons_of_neg (by simp [h]),ih]
   by_cases h2:k'=k
   ·rw [A6v h2,A6v h2]
   ·rw [A6u h2,A6u h2]
    conv=>rhs;unfold Cb
    rw [A6u (by omega)]
    exact Afq _ _ _ _
  ·rw [List.filter_cons_of_pos (by simp [h])]
   unfold Cb
   grind
end
end
end Go.K
namespace Go.K.Mp
section
variable {α:Type}
def put (m:Mp α) (k:Int) (v:α):Mp α :=
 if h:k∈m.keys then ⟨Lj m.es k v,m.cl,by rw [X7];exact m.wk,by rw [Ah1];exact m.wn,fun e he=>by
  have h1:e.n∈(Lj m.es k v).map (·.n):=List.mem_map_of_mem he
  rw [Ah1] at h1
  obtain ⟨x,hx,e2⟩:=A53.1 h1
  have:=m.wc x hx
  omega⟩
 else ⟨m.es++[⟨k,v,m.cl⟩],m.cl+1,by
   rw [A48]
   refine A4b.2 ⟨m.wk,by simp,fun a ha b hb e=> ?_⟩
   rw [A5x,A52,A3z] at hb
   have hb':b=k:=hb
   rw [← hb',← e] at h
   exact h ha,by
   rw [A48]
   refine A4b.2 ⟨m.wn,by simp,fun a ha b hb e=> ?_⟩
   rw [A5x,A52,A3z] at hb
   have hb':b=m.cl:=hb
   obtain ⟨x,hx,e2⟩:=A53.1 ha
   have:=m.wc x hx
   omega,fun e he=>by
   rcases A49.1 he with h1 | h1
   ·have:=m.wc e h1;omega
   grind⟩
def del (m:Mp α) (k:Int):Mp α:=⟨Ok m.es k,m.cl,(List.filter_sublist.map _).nodup m.wk,(List.filter_sublist.map _).nodup m.wn,fun e he=>m.wc e (A5a.1 he).1⟩
theorem An3 {m:Mp α} {k:Int}:m.get k=none↔k∉m.keys:=by
 unfold get keys
 rw [Option.map_eq_none_iff]
 exact Hv 0
theorem get_some {m:Mp α} {k:Int}:(m.get k).isSome=true↔k∈m.keys:=by
 have:=An3 (m:=m) (k:=k)
 cases h:m.get k with
 | none=>grind
 | some v=>grind
theorem get_put (m:Mp α) (k k':Int) (v:α):(m.put k v).get k'=if k'=k then some v else m.get k':=by
 unfold put
 split
 ·rename_i h
  unfold get
  rw [Akf]
  by_cases e:k'=k
  ·subst e
   rw [A6v rfl,A6v rfl]
   cases hf:Cb m.es k' 0 with
   | none=>exact absurd h ((Hv 0).1 hf)
   | some x=>rfl
  grind
 ·rename_i h
  unfold get
  rw [Akg]
  by_cases e:k'=k
  ·subst e
   rw [A6v rfl]
   have:Cb m.es k' 0=none:=(Hv 0).2 h
   rw [this]
   simp
  grind
theorem get_del (m:Mp α) (k k':Int):(m.del k).get k'=if k'=k then none else m.get k':=Akh 0
theorem get_clr (m:Mp α) (k:Int):m.clr.get k=none:=rfl
theorem get_mem {m:Mp α} {e:Me α} (he:e∈m.es):m.get e.k=some e.v:=by
 have h:∀ (es:List (Me α)) (j:Nat),(es.map (·.k)).Nodup→e∈es→(Cb es e.k j).map (·.2)=some e.v:=fun es=>by
  induction es with
  | nil=>grind
  | cons x es ih =>
   intro j hn h
   unfold Cb
   grind
 exact h m.es 0 m.wk he
theorem mem_get {m:Mp α} {k:Int} {v:α} (h:m.get k=some v):∃ e∈m.es,e.k=k∧e.v=v:=by
 unfold get at h
 cases hf:Cb m.es k 0 with
 | none=>rw [hf] at h;cases h
 | some r =>
  rw [hf] at h
  obtain ⟨_,e,h1,h2,h3⟩:=Lk hf
  grind
theorem put_keys (m:Mp α) (k:Int) (v:α):(m.put k v).keys=if k∈m.keys then m.keys else m.keys++[k]:=by
 unfold put
 by_cases h:k∈m.keys
 ·rw [A6t h,A6v h]
  exact X7 _ _ _
 ·rw [dif_neg h,A6u h]
  unfold keys
  rw [A48]
  rfl
theorem keys_nodup (m:Mp α):m.keys.Nodup:=m.wk
theorem keys_len (m:Mp α):m.keys.length=m.es.length:=A46 ..
end
end Go.K.Mp
namespace Go.K
section
section
variable {α:Type} [Mv α]
def Me.ent (kd:IntKind) (e:Me α):MapEntry:={ key:= .int kd e.k,val:=Mv.enc e.v,born:=e.n }
def Mp.obj (kd:IntKind) (m:Mp α):Obj:= .map (m.es.map (Me.ent kd)).toArray m.cl
theorem X8 (kd:IntKind) (k:Int):∀ (es:List (Me α)) (i:Nat),Instr.findNow (.int kd) (.int kd k) (es.map (Me.ent kd)) i=some ((Cb es k i).map fun r=>(r.1,Mv.enc r.2))
 | [],i=>rfl
 | e::es,i=>by
  rw [A5x]
  unfold Cb Instr.findNow
  simp only [Me.ent,Instr.sameNow]
  by_cases h:k=e.k
  ·simp [h]
  ·have hb:(k == e.k)=false:=by simpa using h
   rw [hb,A6u h]
   exact X8 kd k es (i+1)
theorem U1 (kd:IntKind) {k:Int} {v':α}:∀ {es:List (Me α)} {j i:Nat} {v:α},(es.map (·.k)).Nodup→Cb es k j=some (i,v) →
  (es.map (Me.ent kd)).modify (i - j) (fun e=>{ e with key:= .int kd k,val:=Mv.enc v' })=(Lj es k v').map (Me.ent kd)
 | [],j,i,v,_,h=>by simp [Cb] at h
 | e::es,j,i,v,hn,h=>by
  rw [A5x,A5c] at hn
  unfold Cb at h
  by_cases hk:k=e.k
  ·rw [A6v hk] at h
   obtain ⟨rfl,rfl⟩:=h
   subst hk
   have h1:Lj (e::es) e.k v'={ e with v:=v' }::Lj es e.k v':=by simp [Lj]
   rw [h1,Aty hn.1,A59]
   rfl
  ·rw [A6u hk] at h
   have hle:=(Lk h).1
   have h1:Lj (e::es) k v'=e::Lj es k v':=by simp [Lj,A6s hk]
   rw [h1,A5x,A5x,show i - j=(i - (j+1))+1 by omega,List.modify_succ_cons,U1 kd hn.2 h]
theorem X9 (kd:IntKind) {k:Int}:∀ {es:List (Me α)} {j i:Nat} {v:α},(es.map (·.k)).Nodup→Cb es k j=some (i,v) →
  (es.map (Me.ent kd)).eraseIdx (i - j)=(Ok es k).map (Me.ent kd)
 | [],j,i,v,_,h=>by simp [Cb] at h
 | e::es,j,i,v,hn,h=>by
  rw [A5x,A5c] at hn
  unfold Cb at h
  by_cases hk:k=e.k
  ·rw [A6v hk] at h
   obtain ⟨rfl,rfl⟩:=h
   subst hk
   have h1:Ok (e::es) e.k=Ok es e.k:=by unfold Ok;rw [List.filter_cons_of_neg (by simp)]
   rw [h1,Ah2 hn.1,A59]
   rfl
  ·rw [A6u hk] at h
   have hle:=(Lk h).1
   have h1:Ok (e::es) k=e::Ok es k:=by unfold Ok;rw [List.filter_cons_of_pos (by grind)]
   rw [h1,A5x,A5x,show i - j=(i - (j+1))+1 by omega,List.eraseIdx_cons_succ,X9 kd hn.2 h]
end
section
variable {α:Type} [Mv α] {P:Program} {n:Nat} {E:Env} {H:Hp} {Q:C5} {ops:Array Oper} {rest:List Oper}
theorem Pr {t:TypeId} {kd:IntKind} [ht:Und P t (.int kd)] {k:Int} {es:List (Me α)} {w:World}:(Instr.findKey t (.int kd k) (es.map (Me.ent kd))).run P w= .ok ((Cb es k 0).map fun r=>(r.1,Mv.enc r.2)) w:=by
 unfold Instr.findKey
 simp [A5r ht.eq,X8]
theorem Atz {t kt et:TypeId} {x y:Operand} {kd:IntKind} {b:Nat} {m:Mp α} {k:Int} {z:Value} {r:Bool} [ht:Und P t (.map kt et)] [hk:Und P kt (.int kd)] [hz:ZerV P et z]
  (hx:ev E x=some (.map (some b))) (hy:ev E y=some (.int kd k)) (hm:(b,r,m.obj kd)∈H):Rd P E H (.lookup t x y false) (match m.get k with | some v=>Mv.enc v | none=>z):=fun a w d ty pos af g h1 h2=>by
 have e0:w.heap[b]? =some (.map (m.es.map (Me.ent kd)).toArray m.cl):=h2.here _ hm
 have e1:=Ew (P:=P) e0
 simp only [execOp,As h1 hx,As h1 hy,Instr.lookup,Sem.run_bind,A5r ht.eq,A4g]
 rw [e1]
 simp only [A4g,Sem.run_bind,Sem.run_pure,It,Pr]
 unfold Mp.get
 cases hf:Cb m.es k 0 with
 | none=>simp [X5 (P:=P)]
 | some q=>simp
theorem Rp {t kt et:TypeId} {x y:Operand} {kd:IntKind} {b:Nat} {m:Mp α} {k:Int} {z:Value} {r:Bool} [ht:Und P t (.map kt et)] [hk:Und P kt (.int kd)] [hz:ZerV P et z]
  (hx:ev E x=some (.map (some b))) (hy:ev E y=some (.int kd k)) (hm:(b,r,m.obj kd)∈H):Rd P E H (.lookup t x y true) (.tuple #[match m.get k with | some v=>Mv.enc v | none=>z,.bool (m.get k).isSome]):=fun a w d ty pos af g h1 h2=>by
 have e0:w.heap[b]? =some (.map (m.es.map (Me.ent kd)).toArray m.cl):=h2.here _ hm
 have e1:=Ew (P:=P) e0
 simp only [execOp,As h1 hx,As h1 hy,Instr.lookup,Sem.run_bind,A5r ht.eq,A4g]
 rw [e1]
 simp only [A4g,Sem.run_bind,Sem.run_pure,It,Pr]
 unfold Mp.get
 cases hf:Cb m.es k 0 with
 | none=>simp [X5 (P:=P)]
 | some q=>simp
theorem An4 {x:Operand} {t kt et:TypeId} {kd:IntKind} {b:Nat} {m:Mp α} {r:Bool} [ht:Und P t (.map kt et)] (hx:ev E x=some (.map (some b))) (hm:(b,r,m.obj kd)∈H):Rd P E H (.call ⟨.builtin .len,#[x],#[t]⟩) (.int .i64 m.es.length) :=
 fun a w d ty pos af g h1 h2=>by
 have e0:w.heap[b]? =some (.map (m.es.map (Me.ent kd)).toArray m.cl):=h2.here _ hm
 have e1:=Ew (P:=P) e0
 simp only [execOp,Bs,Sem.run_bind,invoke,builtin,Builtin.len_]
 simp [As h1 hx,A5r ht.eq,e1,goInt]
theorem Aah (α:Type) [Mv α] [rg:Rg] {d:Nat} {t:TypeId} {ty:TypeId} {pos:String} {af:Array Edge} (kd:IntKind) (hd:Nat.blt d n=true)
  (k:∀ b,SO P n ops rest ((d,.map (some b))::E) ((b,true,(Mp.nil:Mp α).obj kd)::H) Q):SO P n ops (⟨some d,.makeMap t none,ty,pos,af,none⟩::rest) E H Q :=
 Akd kd hd k
theorem Tq {w:World} {b:Nat} {m:Mp α} {m':Mp α} {kd:IntKind} {H K:Hp} (h:HpOk H w) (hu:Upd b (m.obj kd) (m'.obj kd) H K):Trk w (B6 w b (m'.obj kd)) H K :=
 Pp h hu (fun i s=>by
  have e0:w.heap[b]? =some (m.obj kd):=h.here _ hu.mem
  have hlt:b<w.heap.size:=h.lt hu.mem
  rw [An0 e0,An0 (w:=B6 w b (m'.obj kd)) (es:=(m'.es.map (Me.ent kd)).toArray) (c:=m'.cl) (by simp [B6,hlt,Mp.obj])])
theorem At0 {t kt et:TypeId} {kd:IntKind} [ht:Und P t (.map kt et)] [hk:Und P kt (.int kd)] {b:Nat} {m:Mp α} {k:Int} {v:α} {w:World} (e0:w.heap[b]? =some (m.obj kd)) :
  (Instr.mapUpdate t (.map (some b)) (.int kd k) (Mv.enc v)).run P w= .ok () (B6 w b ((m.put k v).obj kd)):=by
 have e0':w.heap[b]? =some (.map (m.es.map (Me.ent kd)).toArray m.cl):=e0
 have e1:=Ew (P:=P) e0'
 simp only [Instr.mapUpdate,Sem.run_bind,A5r ht.eq,A4g]
 rw [e1]
 simp only [A4g,Sem.run_bind,It,Pr]
 cases hf:Cb m.es k 0 with
 | none =>
  have hn:k∉m.keys:=(Hv 0).1 hf
  simp only [Option.map_none]
  rw [Kj (P:=P) e0']
  unfold Mp.put
  rw [dif_neg hn]
  simp [Mp.obj,Me.ent]
 | some r =>
  obtain ⟨i,u⟩:=r
  have hi:k∈m.keys:=by
   by_cases h:k∈m.keys
   ·exact h
   ·rw [(Hv 0).2 h] at hf;cases hf
  obtain ⟨_,e,h1,h2,h3⟩:=Lk hf
  rw [A6a] at h1
  simp only [A5h]
  have hkey:(((m.es.map (Me.ent kd)).toArray[i]?).map (·.key)).getD (Value.int kd k)= .int kd k:=by
   simp [h1,Me.ent,h2]
  have hst:(Instr.keyThatStays (Value.int kd k) (Value.int kd k)).run P w= .ok (.int kd k) w:=by
   unfold Instr.keyThatStays
   have:Instr.sameBits 10000 (Value.int kd k) (Value.int kd k)=true:=by
    show (kd == kd && k == k)=true
    simp
   rw [this]
   rfl
  simp only [Sem.run_bind]
  rw [hkey,hst]
  simp only [A4g]
  rw [Kj (P:=P) e0']
  have hm:=U1 kd (v':=v) m.wk hf
  rw [A6a] at hm
  unfold Mp.put
  rw [A6t hi]
  simp [Mp.obj,hm]
theorem Ya [rg:Rg] {t kt et:TypeId} {x y u:Operand} {ty:TypeId} {pos:String} {af:Array Edge} {kd:IntKind} {b:Nat} {m:Mp α} {k:Int} {v:α} {H':Hp} [ht:Und P t (.map kt et)] [hk:Und P kt (.int kd)]
  (hx:ev E x=some (.map (some b))) (hy:ev E y=some (.int kd k)) (hv:ev E u=some (Mv.enc v)) (hu:Upd b (m.obj kd) ((m.put k v).obj kd) H H')
  (kk:SO P n ops rest E H' Q):SO P n ops (⟨none,.mapUpdate t x y u,ty,pos,af,none⟩::rest) E H Q:=by
 intro a w h1 h2 h3 h4
 refine A6f rfl fun K hK=> ?_
 have e0:w.heap[b]? =some (m.obj kd):=h4.here _ hu.mem
 have hrun:(execOp a.eval ⟨none,.mapUpdate t x y u,ty,pos,af,none⟩).run P w= .ok .skip (B6 w b ((m.put k v).obj kd)):=by
  have:=At0 (P:=P) (t:=t) (k:=k) (v:=v) e0
  simp only [execOp,As h1 hx,As h1 hy,As h1 hv,Sem.run_bind]
  rw [this]
  rfl
 unfold Oper.wp
 rw [hrun]
 have htr:=Tq h4 hu
 exact hK _ _ (Br htr (kk _ _ h1 h2 h3 htr.ok))
theorem Aw4 [rg:Rg] {t u kt et:TypeId} {x y:Operand} {ty:TypeId} {pos:String} {af:Array Edge} {kd:IntKind} {b:Nat} {m:Mp α} {k:Int} {H':Hp} [ht:Und P t (.map kt et)] [hk:Und P kt (.int kd)]
  (hx:ev E x=some (.map (some b))) (hy:ev E y=some (.int kd k)) (hu:Upd b (m.obj kd) ((m.del k).obj kd) H H')
  (kk:SO P n ops rest E H' Q):SO P n ops (⟨none,.call ⟨.builtin .delete,#[x,y],#[t,u]⟩,ty,pos,af,none⟩::rest) E H Q:=by
 intro a w h1 h2 h3 h4
 refine A6f rfl fun K hK=> ?_
 have e0:w.heap[b]? =some (.map (m.es.map (Me.ent kd)).toArray m.cl):=h4.here _ hu.mem
 have e1:=Ew (P:=P) e0
 have hd:(Builtin.delete_ #[t,u] ty #[.map (some b),.int kd k]).run P w= .ok (.tuple #[]) (B6 w b ((m.del k).obj kd)):=by
  simp only [Builtin.delete_,Sem.run_bind,A5r ht.eq,A4g,A2y,List.getElem?_cons_zero,A2k]
  rw [e1]
  simp only [A4g,Sem.run_bind,It,Pr]
  cases hf:Cb m.es k 0 with
  | none =>
   simp only [Option.map_none,Sem.run_bind]
   rw [Kj (P:=P) e0]
   have:(m.del k).obj kd=m.obj kd:=by
    show Obj.map ((Ok m.es k).map (Me.ent kd)).toArray m.cl=Obj.map (m.es.map (Me.ent kd)).toArray m.cl
    rw [Ah2 ((Hv 0).1 hf)]
   rw [this]
   rfl
  | some r =>
   obtain ⟨i,v⟩:=r
   simp only [A5h,Sem.run_bind]
   rw [Kj (P:=P) e0]
   have hm:=X9 kd m.wk hf
   rw [A6a] at hm
   have:(m.del k).obj kd= .map ((m.es.map (Me.ent kd)).toArray.eraseIdxIfInBounds i) m.cl:=by
    show Obj.map ((Ok m.es k).map (Me.ent kd)).toArray m.cl=_
    rw [List.eraseIdxIfInBounds_toArray,hm]
   rw [this]
   rfl
 have hrun:(execOp a.eval ⟨none,.call ⟨.builtin .delete,#[x,y],#[t,u]⟩,ty,pos,af,none⟩).run P w= .ok (.value (.tuple #[])) (B6 w b ((m.del k).obj kd)):=by
  simp only [execOp,Bs,Sem.run_bind,invoke,builtin]
  simp [As h1 hx,As h1 hy,hd]
 unfold Oper.wp
 rw [hrun]
 have htr:=Tq h4 hu
 exact hK _ _ (Br htr (kk _ _ h1 h2 h3 htr.ok))
theorem Ah3 {t kt et:TypeId} {kd:IntKind} [ht:Und P t (.map kt et)] {b:Nat} {m:Mp α} {w:World} {ty:TypeId} (e0:w.heap[b]? =some (m.obj kd)) :
  (Builtin.clear_ #[t] ty #[.map (some b)]).run P w= .ok (.tuple #[]) (B6 w b (m.clr.obj kd)):=by
 have e0':w.heap[b]? =some (.map (m.es.map (Me.ent kd)).toArray m.cl):=e0
 have e1:=Ew (P:=P) e0'
 simp only [Builtin.clear_,Sem.run_bind,A5r ht.eq,A4g,A2y,List.getElem?_cons_zero]
 rw [e1]
 simp only [A4g,Sem.run_bind]
 rw [Kj (P:=P) e0']
 rfl
theorem Ah4 [rg:Rg] {t kt et:TypeId} {x:Operand} {ty:TypeId} {pos:String} {af:Array Edge} {kd:IntKind} {b:Nat} {m:Mp α} {H':Hp} [ht:Und P t (.map kt et)]
  (hx:ev E x=some (.map (some b))) (hu:Upd b (m.obj kd) (m.clr.obj kd) H H')
  (kk:SO P n ops rest E H' Q):SO P n ops (⟨none,.call ⟨.builtin .clear,#[x],#[t]⟩,ty,pos,af,none⟩::rest) E H Q:=by
 intro a w h1 h2 h3 h4
 refine A6f rfl fun K hK=> ?_
 have e0:w.heap[b]? =some (m.obj kd):=h4.here _ hu.mem
 have hrun:(execOp a.eval ⟨none,.call ⟨.builtin .clear,#[x],#[t]⟩,ty,pos,af,none⟩).run P w= .ok (.value (.tuple #[])) (B6 w b (m.clr.obj kd)):=by
  have:=Ah3 (P:=P) (t:=t) (ty:=ty) e0
  simp only [execOp,Bs,Sem.run_bind,invoke,builtin]
  simp [As h1 hx,this]
 unfold Oper.wp
 rw [hrun]
 have htr:=Tq h4 hu
 exact hK _ _ (Br htr (kk _ _ h1 h2 h3 htr.ok))
def itO (b since:Nat) (seen:List Nat) (last:Nat):Obj:= .mapIter (some b) since seen.toArray last
theorem I6 [rg:Rg] {d:Nat} {t kt et:TypeId} {x:Operand} {ty:TypeId} {pos:String} {af:Array Edge} {kd:IntKind} {b:Nat} {m:Mp α} {r:Bool} [ht:Und P t (.map kt et)]
  (hx:ev E x=some (.map (some b))) (hm:(b,r,m.obj kd)∈H) (hd:Nat.blt d n=true)
  (k:∀ i,SO P n ops rest ((d,.pointer (some ⟨i,0,none⟩))::E) ((i,true,itO b m.cl [] m.cl)::H) Q):SO P n ops (⟨some d,.range t x,ty,pos,af,none⟩::rest) E H Q:=by
 intro a w h1 h2 h3 h4
 refine A6f rfl fun K hK=> ?_
 have e0:w.heap[b]? =some (.map (m.es.map (Me.ent kd)).toArray m.cl):=h4.here _ hm
 have e1:=Ew (P:=P) e0
 have hrun:(execOp a.eval ⟨some d,.range t x,ty,pos,af,none⟩).run P w= .ok (.value (.pointer (some ⟨w.heap.size,0,none⟩))) (w.alloc (itO b m.cl [] m.cl)):=by
  simp only [execOp,As h1 hx,Instr.range,Sem.run_bind,A5r ht.eq,A4g]
  rw [e1]
  rfl
 unfold Oper.wp
 rw [hrun]
 have hlt:d<a.tmps.size:=by rw [h2];simp_all
 have htr:=Kl h4 (o:=itO b m.cl [] m.cl) (fun _ _ _ e=>nomatch e)
 exact hK _ _ (Br htr (k _ _ _ (h1.put hlt) (by simp [Act.put,h2]) h3 htr.ok))
theorem Ac1 (w:World) (k:Nat):∃ i w',(choose (.mapNext k)).run P w= .ok i w'∧(0<k→i<k)∧(w'=w∨w'={ w with drawn:=w.drawn+1 }):=by
 by_cases h:k≤1
 ·have hf:(Question.mapNext k).forced=true:=by simp [Question.forced,h]
  exact ⟨0,w,by simp_all,fun h=>h,.inl rfl⟩
 ·have hf:(Question.mapNext k).forced=false:=by simp [Question.forced,h]
  exact ⟨(Question.mapNext k).cut (w.tape w.drawn (.mapNext k)),_,by simp_all,fun _=>A6k _ (by omega),.inr rfl⟩
def H9 (m:Mp α) (seen:List Nat):List (Me α):=m.es.filter fun e=> !decide (e.n∈seen)
theorem Aki {β:Type} {l:List β} {i:Nat} (hi:i<(((if l.isEmpty then #[none] else #[]):Array (Option β))++(l.toArray.map some)).size) :
  ((((if l.isEmpty then #[none] else #[]):Array (Option β))++(l.toArray.map some))[i]? =some none∧l=[])∨∃ x∈l,(((if l.isEmpty then #[none] else #[]):Array (Option β))++(l.toArray.map some))[i]? =some (some x):=by
 grind
theorem Ac2 {w:World} {i b since last:Nat} {seen:List Nat} (h:w.heap[i]? =some (itO b since seen last)):(getObj i).run P w= .ok (.mapIter (some b) since seen.toArray last) w:=by
 simp [getObj,Sem.run,h,itO]
theorem An5 {w:World} {i b since last:Nat} {seen:List Nat} {o:Obj} (h:w.heap[i]? =some (itO b since seen last)):(setObj i o).run P w= .ok () (w.putObj i o):=by
 have h2:w.heap[i]? =some (.mapIter (some b) since seen.toArray last):=h
 simp [setObj,Sem.run,h2]
 rfl
def Ax7 (w w1:World):Prop:=w1=w∨w1={ w with drawn:=w.drawn+1 }
theorem An6 {ty:TypeId} {kd:IntKind} {i b since last:Nat} {seen:List Nat} {m:Mp α} {w:World} (ei:w.heap[i]? =some (itO b since seen last)) (em:w.heap[b]? =some (.map (m.es.map (Me.ent kd)).toArray m.cl))
  (hs:∀ e∈m.es,e.n<since) (hl:since≤last) :
  (H9 m seen=[]∧∃ w1,Ax7 w w1∧(Instr.next (.pointer (some ⟨i,0,none⟩)) false ty).run P w= .ok (.tuple #[.bool false]) w1) ∨
  (∃ e∈m.es,e.n∉seen∧∃ w1,Ax7 w w1∧(Instr.next (.pointer (some ⟨i,0,none⟩)) false ty).run P w= .ok (.tuple #[.bool true,.int kd e.k,Mv.enc e.v]) (w1.putObj i (itO b since (seen++[e.n]) m.cl))):=by
 have hleft:((m.es.map (Me.ent kd)).toArray.filter fun e=> !seen.toArray.contains e.born)=((H9 m seen).map (Me.ent kd)).toArray:=by
  rw [List.filter_toArray,List.filter_map]
  congr 2
  refine List.filter_congr fun e he=> ?_
  simp only [Function.comp,Me.ent,List.contains_toArray]
  rw [List.contains_eq_mem]
 have hold:(((H9 m seen).map (Me.ent kd)).toArray.filter fun e=>decide (e.born<since))=((H9 m seen).map (Me.ent kd)).toArray:=by
  rw [List.filter_toArray,List.filter_map]
  congr 2
  rw [List.filter_eq_self]
  intro e he
  exact A5p (hs e (A5a.1 he).1)
 have hnew:(((H9 m seen).map (Me.ent kd)).toArray.filter fun e=>decide (e.born≥since))=#[]:=by
  rw [List.filter_toArray,List.filter_map]
  have:List.filter ((fun e:MapEntry=>decide (e.born≥since))∘Me.ent kd) (H9 m seen)=[]:=by
   rw [List.filter_eq_nil_iff]
   simp_all
  rw [this]
  rfl
 have hchk:(!seen.toArray.isEmpty && !((m.es.map (Me.ent kd)).toArray).isEmpty && ((m.es.map (Me.ent kd)).toArray).all (fun e=>decide (e.born≥last)))=false:=by
  cases hes:m.es with
  | nil=>simp
  | cons e es =>
   have h9:=hs e (by rw [hes];grind)
   have:¬ (Me.ent kd e).born≥last:=fun h8:e.n≥last=>by omega
   simp [this]
 obtain ⟨c,hc⟩:∃ c,c=(((if ((H9 m seen).map (Me.ent kd)).isEmpty then #[none] else #[]):Array (Option MapEntry))++(((H9 m seen).map (Me.ent kd)).toArray.map some)):=⟨_,rfl⟩
 have hsize:0<c.size:=by
  rw [hc]
  grind
 obtain ⟨j,w1,hj1,hj2,hw1⟩:=Ac1 (P:=P) w c.size
 have hcs:=hj2 hsize
 have hgo:(Instr.next (.pointer (some ⟨i,0,none⟩)) false ty).run P w=(match c[j]? with
   | some (some e)=>(setObj i (.mapIter (some b) since (seen.toArray.push e.born) m.cl)).run P w1 |>.andThen fun _ w'=> .ok (.tuple #[.bool true,e.key,e.val]) w'
   | some none=> .ok (.tuple #[.bool false]) w1
   | none => (stuck "Next: no such candidate" : Sem Value).run P w1) := by
  simp only [Instr.next,Sem.run_bind]
  rw [Ac2 (P:=P) ei]
  simp only [A4g,Sem.run_bind]
  rw [Ew (P:=P) em]
  simp only [A4g]
  rw [hchk,hleft,hold,hnew]
  rw [A6u (by decide)]
  have hcc:(((if ((H9 m seen).map (Me.ent kd)).toArray.isEmpty=true then #[none] else #[]):Array (Option MapEntry))++Array.map some (((H9 m seen).map (Me.ent kd)).toArray++#[]))=c:=by
   rw [hc,Array.append_empty,List.isEmpty_toArray]
  rw [hcc,Sem.run_bind,hj1]
  simp only [A4g]
  cases c[j]? with
  | none=>rfl
  | some x =>
   cases x with
   | none=>rfl
   | some e=>simp_all
 rw [hgo]
 rw [hc] at hcs
 rcases Aki hcs with ⟨p1,p2⟩ | ⟨e',p1,p2⟩
 ·rw [hc,p1]
  exact .inl ⟨by grind,w1,hw1,rfl⟩
 ·obtain ⟨e,he,rfl⟩:=A53.1 p1
  obtain ⟨he1,he2⟩:=A5a.1 he
  rw [hc,p2]
  refine .inr ⟨e,he1,by grind,w1,hw1,?_⟩
  have ei1:w1.heap[i]? =some (itO b since seen last):=by rcases hw1 with rfl | rfl <;> exact ei
  simp only
  rw [An5 (P:=P) ei1]
  simp [itO,Me.ent]
theorem Ll [rg:Rg] {d:Nat} {x:Operand} {ty:TypeId} {pos:String} {af:Array Edge} {kd:IntKind} {i b since last:Nat} {seen:List Nat} {m:Mp α} {F:Hp}
  (hx:ev E x=some (.pointer (some ⟨i,0,none⟩))) (hp:Pick (i,true,itO b since seen last) H F) {r:Bool} (hm:(b,r,m.obj kd)∈F) (hs:∀ e∈m.es,e.n<since) (hl:since≤last) (hd:Nat.blt d n=true)
  (k0:H9 m seen=[]→SO P n ops rest ((d,.tuple #[.bool false])::E) ((i,true,itO b since seen last)::F) Q)
  (k1:∀ e∈m.es,e.n∉seen→SO P n ops rest ((d,.tuple #[.bool true,.int kd e.k,Mv.enc e.v])::E) ((i,true,itO b since (seen++[e.n]) m.cl)::F) Q) :
  SO P n ops (⟨some d,.next x false,ty,pos,af,none⟩::rest) E H Q:=by
 intro a w h1 h2 h3 h4
 refine A6f rfl fun K hK=> ?_
 have hlt:d<a.tmps.size:=by rw [h2];simp_all
 have hok:HpOk ((i,true,itO b since seen last)::F) w:=h4.perm hp.perm
 have ei:w.heap[i]? =some (itO b since seen last):=hok.here _ (A3y)
 have em:w.heap[b]? =some (.map (m.es.map (Me.ent kd)).toArray m.cl):=hok.here _ (.tail _ hm)
 have tp:Trk w w H ((i,true,itO b since seen last)::F):=(Trk.refl h4).sub hok (fun x hx=>hp.perm.mem_iff.2 hx)
 have td:∀ w1,Ax7 w w1→Trk w w1 H ((i,true,itO b since seen last)::F):=fun w1 hw1=>by
  rcases hw1 with rfl | rfl
  ·exact tp
  ·exact tp.trans (Da hok _)
 rcases An6 (P:=P) (ty:=ty) ei em hs hl with ⟨hl0,w1,hw1,hrun⟩ | ⟨e,he1,he2,w1,hw1,hrun⟩
 ·have hr:(execOp a.eval ⟨some d,.next x false,ty,pos,af,none⟩).run P w= .ok (.value (.tuple #[.bool false])) w1:=by
   simp only [execOp,As h1 hx,Sem.run_bind]
   rw [hrun]
   rfl
  unfold Oper.wp
  rw [hr]
  have htr:=td w1 hw1
  exact hK _ _ (Br htr (k0 hl0 _ _ (h1.put hlt) (by simp [Act.put,h2]) h3 htr.ok))
 ·have hr:(execOp a.eval ⟨some d,.next x false,ty,pos,af,none⟩).run P w= .ok (.value (.tuple #[.bool true,.int kd e.k,Mv.enc e.v])) (w1.putObj i (itO b since (seen++[e.n]) m.cl)):=by
   simp only [execOp,As h1 hx,Sem.run_bind]
   rw [hrun]
   rfl
  unfold Oper.wp
  rw [hr]
  have t1:=td w1 hw1
  have t2:=Kk (b:=i) (o':=itO b since (seen++[e.n]) m.cl) t1.ok .here (fun _ _ _ e=>nomatch e) (fun _ _ _ e=>nomatch e)
  have htr:=t1.trans t2
  exact hK _ _ (Br htr (k1 e he1 he2 _ _ (h1.put hlt) (by simp [Act.put,h2]) h3 htr.ok))
end
end
section
section
variable {α:Type} [Mv α] {P:Program} {n:Nat} {E:Env} {H:Hp} {Q:C5} {ops:Array Oper} {rest:List Oper}
theorem Yb (kd:IntKind) {e:Me α}:∀ {es:List (Me α)},(es.map (·.n)).Nodup→e∈es→(es.map (Me.ent kd)).find? (·.born == e.n)=some (Me.ent kd e)
 | [],_,h=>by cases h
 | x::es,hn,h=>by
  rw [A5x,A5c] at hn
  rw [A5x,List.find?_cons]
  rcases A5y.1 h with h | h
  ·subst h
   have:((Me.ent kd e).born == e.n)=true:=by simp [Me.ent]
   rw [this]
  ·have hne:x.n≠e.n:=fun e2=>hn.1 (A53.2 ⟨e,h,e2.symm⟩)
   have:((Me.ent kd x).born == e.n)=false:=by simpa [Me.ent] using hne
   rw [this]
   exact Yb kd hn.2 h
theorem I7 {x:Operand} {kd:IntKind} {i b since:Nat} {seen:List Nat} {m:Mp α} {e:Me α} {r r2:Bool}
  (hx:ev E x=some (.pointer (some ⟨i,0,none⟩))) (hi:(i,r,itO b since (seen++[e.n]) m.cl)∈H) (hm:(b,r2,m.obj kd)∈H) (he:e∈m.es) :
  Rd P E H (.entry x) (.tuple #[.int kd e.k,Mv.enc e.v]):=fun a w d ty pos af g h1 h2=>by
 have e0:w.heap[i]? =some (itO b since (seen++[e.n]) m.cl):=h2.here _ hi
 have e1:w.heap[b]? =some (.map (m.es.map (Me.ent kd)).toArray m.cl):=h2.here _ hm
 have hf:(m.es.map (Me.ent kd)).toArray.find? (·.born == e.n)=some (Me.ent kd e):=by
  rw [List.find?_toArray]
  exact Yb kd m.wn he
 simp only [execOp,As h1 hx,Instr.entry,Sem.run_bind]
 rw [Ac2 (P:=P) e0]
 simp only [A4g]
 have hb:(seen++[e.n]).toArray.back? =some e.n:=by simp
 rw [hb]
 simp only [Sem.run_bind]
 rw [Ew (P:=P) e1]
 simp only [A4g,bne_self_eq_false]
 rw [hf]
 rfl
end
section
variable {α:Type}
theorem Iv {m:Mp α} {seen:List Nat} (h:H9 m seen=[]):∀ e∈m.es,e.n∈seen:=fun e he=>by
 unfold H9 at h
 rw [List.filter_eq_nil_iff] at h
 have:=h e he
 grind
def Jn (m:Mp α) (seen:List Nat):Nat:=((m.es.map (·.n)).filter fun i=> !decide (i∈seen)).length
theorem C6 {m:Mp α} {seen:List Nat} {e:Me α} (he:e∈m.es) (hs:e.n∉seen):Jn m (seen++[e.n])<Jn m seen:=by
 unfold Jn
 have h:((m.es.map (·.n)).filter fun i=> !decide (i∈seen++[e.n]))=((m.es.map (·.n)).filter fun i=> !decide (i∈seen)).filter fun i=> !decide (i=e.n):=by
  rw [List.filter_filter]
  grind
 rw [h]
 refine List.length_filter_lt_length_iff_exists.2 ⟨e.n,A5a.2 ⟨A53.2 ⟨e,he,rfl⟩,by grind⟩,by simp⟩
theorem Mp.n_inj {m:Mp α} {x e:Me α} (hx:x∈m.es) (he:e∈m.es) (h1:x.n=e.n):x=e:=by
 have:∀ (es:List (Me α)),(es.map (·.n)).Nodup→x∈es→e∈es→x=e:=fun es=>by
  induction es with
  | nil=>grind
  | cons y es ih =>
   grind
 exact this m.es m.wn hx he
def Mp.mapV (m:Mp α) (f:α→α):Mp α:=⟨m.es.map fun e=>{ e with v:=f e.v },m.cl,by rw [A51];exact m.wk,by rw [A51];exact m.wn,fun e he=>by
 obtain ⟨x,hx,rfl⟩:=A53.1 he
 exact m.wc x hx⟩
def Mp.upS (m:Mp α) (f:α→α) (seen:List Nat):Mp α:=⟨m.es.map fun e=>if e.n∈seen then { e with v:=f e.v } else e,m.cl,by
 have:(m.es.map fun e=>if e.n∈seen then { e with v:=f e.v } else e).map (·.k)=m.es.map (·.k):=by
  rw [A51];refine A3l fun e _=> ?_;grind
 rw [this];exact m.wk,by
 have:(m.es.map fun e=>if e.n∈seen then { e with v:=f e.v } else e).map (·.n)=m.es.map (·.n):=by
  rw [A51];refine A3l fun e _=> ?_;grind
 rw [this];exact m.wn,fun e he=>by
 obtain ⟨x,hx,rfl⟩:=A53.1 he
 have:=m.wc x hx
 split <;> exact this⟩
theorem Mp.ext {m m':Mp α} (h1:m.es=m'.es) (h2:m.cl=m'.cl):m=m':=by
 cases m;simp_all
theorem Mp.upS_nil (m:Mp α) (f:α→α):m.upS f []=m:=by
 refine Mp.ext ?_ rfl
 show m.es.map _=m.es
 simp_all
theorem Mp.upS_all {m:Mp α} {f:α→α} {seen:List Nat} (h:∀ e∈m.es,e.n∈seen):m.upS f seen=m.mapV f:=by
 refine Mp.ext ?_ rfl
 exact A3l fun e he=>by rw [A6v (h e he)]
theorem Mp.upS_mem {m:Mp α} {f:α→α} {seen:List Nat} {e:Me α} (h:e∈(m.upS f seen).es) (hs:e.n∉seen):e∈m.es:=by
 obtain ⟨x,hx,rfl⟩:=A53.1 h
 grind
theorem Mp.upS_left {m:Mp α} {f:α→α} {seen:List Nat} (h:H9 (m.upS f seen) seen=[]):∀ e∈m.es,e.n∈seen:=fun e he=>by
 by_cases h1:e.n∈seen
 ·exact h1
 ·have h2:e∈(m.upS f seen).es:=A53.2 ⟨e,he,by rw [A6u h1]⟩
  exact Iv h e h2
theorem Mp.upS_put {m:Mp α} {f:α→α} {seen:List Nat} {e:Me α} (he:e∈m.es) (hs:e.n∉seen):(m.upS f seen).put e.k (f e.v)=m.upS f (seen++[e.n]):=by
 have hk:e.k∈(m.upS f seen).keys:=A53.2 ⟨e,A53.2 ⟨e,he,by rw [A6u hs]⟩,rfl⟩
 unfold Mp.put
 rw [A6t hk]
 refine Mp.ext ?_ rfl
 show Lj (m.es.map fun e=>if e.n∈seen then { e with v:=f e.v } else e) e.k (f e.v)=m.es.map fun x=>if x.n∈seen++[e.n] then { x with v:=f x.v } else x
 unfold Lj
 rw [A51]
 refine A3l fun x hx=> ?_
 simp only [Function.comp]
 by_cases h1:x.k=e.k
 ·have hxe:x=e:=by
   have h3:=m.wk
   have:∀ (es:List (Me α)),(es.map (·.k)).Nodup→x∈es→e∈es→x=e:=fun es=>by
    induction es with
    | nil=>grind
    | cons y es ih =>
     grind
   grind
  grind
 ·have hne:x.n≠e.n:=fun e2=>h1 (by
   have:∀ (es:List (Me α)),(es.map (·.n)).Nodup→x∈es→e∈es→x=e:=fun es=>by
    induction es with
    | nil=>grind
    | cons y es ih =>
     grind
   rw [this m.es m.wn hx he])
  grind
theorem Mp.upS_skip {m:Mp α} {f:α→α} {seen:List Nat} {e:Me α} (he:e∈m.es) (hv:f e.v=e.v):m.upS f (seen++[e.n])=m.upS f seen:=by
 refine Mp.ext ?_ rfl
 refine A3l fun x hx=> ?_
 by_cases h2:x.n∈seen
 ·rw [A6v h2,A6v (A29 _ h2)]
 ·rw [A6u h2]
  by_cases h3:x.n=e.n
  ·have:∀ (es:List (Me α)),(es.map (·.n)).Nodup→x∈es→e∈es→x=e:=fun es=>by
    induction es with
    | nil=>grind
    | cons y es ih =>
     grind
   have hxe:=this m.es m.wn hx he
   simp_all
  grind
theorem Mp.get_mapV (m:Mp α) (f:α→α) (k:Int):(m.mapV f).get k=(m.get k).map f:=by
 have:∀ (es:List (Me α)) (j:Nat),(Cb (es.map fun e=>{ e with v:=f e.v }) k j).map (·.2)=((Cb es k j).map (·.2)).map f:=fun es=>by
  induction es with
  | nil=>intro _;rfl
  | cons e es ih =>
   intro j
   rw [A5x]
   unfold Cb
   grind
 exact this m.es 0
end
section
variable {P:Program} {E:Env} {H:Hp} {α:Type} [Cel α]
theorem Yc {t T:TypeId} {x:Operand} {s:Sl α} {i o sz:Nat} {z:α} {vs:List Value} {p:Nat} [ht:Agg P t true] [hz:Siz P t sz] (hx:ev E x=some (.pointer (some ⟨s.bk,p,none⟩))) (hm:Sub (s.hp T) H) (hi:s.list[i]? =some z) (hv:cut (Cel.cs z) o sz=some vs)
  (hp:p=s.off+i*Cel.sz α+o):Rd P E H (.load t x) (.agg vs.toArray):=by
 have hlt:=(List.getElem?_eq_some_iff.1 hi).1
 obtain ⟨r,cs,U,fr,h1,h2,h3⟩:=s.block T (by omega)
 have h4:=h3 i z hi
 subst hp
 exact Ao hx (hm _ (by rw [h1];exact .head _)) (Ahv h4 hv)
end
end
section
section
variable {α:Type} [Mv α] {P:Program} {n:Nat} {E:Env} {H:Hp} {Q:C5} {ops:Array Oper} {rest:List Oper}
theorem Ax8 {t kt et:TypeId} {x:Operand} {v:Value} [ht:Und P t (.map kt et)] (hx:ev E x=some v):Rd P E H (.makeInterface t x) (.iface t v) :=
 fun a w d ty pos af g h1 h2=>by
  simp only [execOp,As h1 hx,Instr.makeInterface,Sem.run_bind,A5r ht.eq]
  rfl
theorem Afr {t u kt et:TypeId} {x:Operand} {v:Value} [ht:Und P t (.map kt et)] (hx:ev E x=some (.iface t v)):Rd P E H (.typeAssert x u t false) v :=
 fun a w d ty pos af g h1 h2=>by
  simp only [execOp,As h1 hx,Instr.typeAssert,Sem.run_bind,A5r ht.eq]
  simp
theorem Rq (w:World) (d:Nat) (t k e:TypeId) (p:Option Nat) (h:P.underlying t=some (.map k e)):(Op.equalIn (d+1) t (.map p) (.map none)).run P w= .ok p.isNone w:=by
 cases p <;> simp [Op.equalIn,A5r h]
theorem Akj {t kt et u:TypeId} {x y:Operand} {b:Nat} [ht:Und P t (.map kt et)] (hx:ev E x=some (.map (some b))) (hy:ev E y=some (.map none)):Rd P E H (.binOp .eql t x y u) (.bool false) :=
 fun a w d ty pos af g h1 h2=>Tr (fun _ _=>rfl) rfl (show (Op.equal t (.map (some b)) (.map none)).run P w= .ok false w from Rq w 9999 t kt et (some b) ht.eq) (As h1 hx) (As h1 hy) d ty pos af g u
class Mcl (P:Program) (f:FuncId):Prop where
 eq : ∃ fn, P.funcs[f]? = some fn ∧ (fn.name == "runtime.NumGoroutine") = false ∧ fn.body.isNone = true ∧ Extern.findNext fn = none ∧ Extern.find fn = some Extern.MapsClone.clone
theorem An7 [rg:Rg] {d:Nat} {f:FuncId} {t:TypeId} {x:Operand} {ts:Array TypeId} {ty:TypeId} {pos:String} {af:Array Edge} {kd:IntKind} {b:Nat} {m:Mp α} {r:Bool} [hf:Mcl P f]
  (hx:ev E x=some (.iface t (.map (some b)))) (hm:(b,r,m.obj kd)∈H) (hd:Nat.blt d n=true)
  (k:∀ c,SO P n ops rest ((d,.iface t (.map (some c)))::E) ((c,true,m.obj kd)::H) Q) :
  SO P n ops (⟨some d,.call ⟨.value (.func f),#[x],ts⟩,ty,pos,af,none⟩::rest) E H Q:=by
 intro a w h1 h2 h3 h4
 refine A6f rfl fun K hK=> ?_
 obtain ⟨fn,f1,f2,f3,f4,f5⟩:=hf.eq
 have e0:w.heap[b]? =some (.map (m.es.map (Me.ent kd)).toArray m.cl):=h4.here _ hm
 have hr:(Extern.MapsClone.clone #[.iface t (.map (some b))]).run P w= .ok (.iface t (.map (some w.heap.size))) (w.alloc (.map (m.es.map (Me.ent kd)).toArray m.cl)):=by
  have e:Extern.MapsClone.clone #[.iface t (.map (some b))]=(getObj b >>= fun o=>match o with
   | .map entries clock=>(newObj (.map entries clock) >>= fun n=>pure (.iface t (.map (some n))))
   | _ => stuck "maps.clone: a map expected") := rfl
  rw [e,Sem.run_bind,Ew (P:=P) e0]
  rfl
 have hrun:(execOp a.eval ⟨some d,.call ⟨.value (.func f),#[x],ts⟩,ty,pos,af,none⟩).run P w= .ok (.value (.iface t (.map (some w.heap.size)))) (w.alloc (m.obj kd)):=by
  simp only [execOp,resolve,Act.eval,Deferred.ofValue,invoke]
  have hxx:=As h1 hx
  have e1:(#[x].map a.eval++#[])=#[.iface t (.map (some b))]:=by simp [hxx]
  simp only [List.map_toArray,A5x,hxx] at e1 ⊢
  have:=run_callFunc_extern (P:=P) f1 f2 f3 f4 f5 #[.iface t (.map (some b))] w
  rw [hr] at this
  simpa [Mp.obj] using this
 unfold Oper.wp
 rw [hrun]
 have hlt:d<a.tmps.size:=by rw [h2];simp_all
 have htr:=Kl h4 (o:=m.obj kd) (fun _ _ _ e=>nomatch e)
 exact hK _ _ (Br htr (k _ _ _ (h1.put hlt) (by simp [Act.put,h2]) h3 htr.ok))
end
end
section
open Go Go.Sem
set_option linter.unusedSectionVars false
section
variable {P:Program} {n f:Nat} {fn:Func} {E:Env} {H:Hp} {Q:C5} {R:Value→Hp→Prop}
theorem Ac3 {i g:Nat} {gf:FuncId} {ps:Array Tmp} {asg bd y:Code} {fi ca:List Value} {L F:Hp} {R1:Hp→Prop}
  (hg:fnd E g=some (.func (.func gf) fi.toArray ca.toArray)) (hs:Split H L F)
  (hf:∀ (D l:Nat) (f0:FuncId) (tm:Array Value),EnvOk E { tmps:=tm,defers:=[] }→tm.size=n →
   Does P gf (fi++[.func (.yield l) #[] #[]]++ca) ((l,true,.loop ⟨.ready,none,f0,tm,ps,asg,bd,D⟩)::L) (fun _ Y=>∃ st M,Y=(l,true,.loop ⟨st,none,f0,tm,ps,asg,bd,D⟩)::M∧st≠.busy∧R1 M))
  (k:∀ (rg:Rg) (D:Nat) (M:Hp),R1 M→SC P n y E (mark D::(M++F)) (An1 P fn R D)) (he:Ent P gf:=by first | infer_instance | exact ⟨fun _ _=>by kernel_rfl⟩) :
  SDk P fn n (.block i (.rangeFunc (.tmp g) ps asg bd)) y E H R:=by
 intro a w h1 h2 h3 h4
 refine wpIn_block (wpIn_rangeFunc fun f0 _=> ?_)
 have t1:=Kl h4 (o:= .deferred (some [])) (fun _ _ _ e=>nomatch e)
 have t2:=Kl t1.ok (o:= .loop ⟨.ready,none,f0,a.tmps,ps,asg,bd,w.heap.size⟩) (fun _ _ _ e=>nomatch e)
 have hsz:(w.alloc (.deferred (some []))).heap.size=w.heap.size+1:=Array.size_push ..
 rw [hsz] at t2
 obtain ⟨W,hW⟩:∃ W,W=(w.alloc (.deferred (some []))).alloc (.loop ⟨.ready,none,f0,a.tmps,ps,asg,bd,w.heap.size⟩):=⟨_,rfl⟩
 rw [← hW] at t2
 have hgv:a.eval (.tmp g)= .func (.func gf) fi.toArray ca.toArray:=h1 g _ hg
 have hen:=run_enterLoop_outer (P:=P) (w:=w) f0 a.tmps ps asg bd
 rw [← hW] at hen
 refine ⟨w.heap.size+1,[⟨.collected w.heap.size,#[]⟩],W,⟨.fn (.func gf) ca.toArray,(fi++[Value.func (.yield (w.heap.size+1)) #[] #[]]).toArray⟩,W,gf,(fi++[Value.func (.yield (w.heap.size+1)) #[] #[]]++ca).toArray,W,
  hen,?_,fun _ _=>trivial,?_,fun e=>(by cases e),?_⟩
 ·have hc:∀ v,a.eval (.const v)=v:=fun _=>rfl
  simp [resolve,rangeCall,hgv,hc,Deferred.ofValue,Sem.run_bind,Sem.run_pure,A4g]
 ·have:=he.eq (fi++[Value.func (.yield (w.heap.size+1)) #[] #[]]++ca).toArray W
  simpa [invoke] using this
 ·refine A6e.2 ?_
  have hp:=hs.perm
  have hok2:=t2.ok.perm ((List.Perm.cons _ ((List.Perm.cons _ hp).trans (A4t (l₁:=L) (a:=mark w.heap.size) (l₂:=F)).symm)))
  have hok3:HpOk (((w.heap.size+1,true,Obj.loop ⟨.ready,none,f0,a.tmps,ps,asg,bd,w.heap.size⟩)::L)++(mark w.heap.size::F)) W:=hok2
  refine (hf w.heap.size (w.heap.size+1) f0 a.tmps (by exact h1) h2 W hok3.left).mono ?_
  rintro e W2 ⟨v,Y,rfl,⟨st,M,rfl,hst,hR1⟩,ht⟩
  have t3:=ht.frame hok3
  have tp:Trk w W H (((w.heap.size+1,true,Obj.loop ⟨.ready,none,f0,a.tmps,ps,asg,bd,w.heap.size⟩)::L)++(mark w.heap.size::F)):=(t1.trans t2).sub hok3 (fun x hx=>by
   have:=(List.Perm.cons (w.heap.size+1,true,Obj.loop ⟨.ready,none,f0,a.tmps,ps,asg,bd,w.heap.size⟩) ((List.Perm.cons (mark w.heap.size) hp).trans (A4t (l₁:=L) (a:=mark w.heap.size) (l₂:=F)).symm)).mem_iff (a:=x)
   exact this.2 hx)
  have t4:=tp.trans t3
  have hl:=t4.ok.here _ (A3y)
  have t5:=Kk (b:=w.heap.size+1) (o':= .loop ⟨.exhausted,none,f0,a.tmps,ps,asg,bd,w.heap.size⟩) t4.ok .here (fun _ _ _ e=>nomatch e) (fun _ _ _ e=>nomatch e)
  have t6:=(t4.trans t5).drop .here
  have hpm:(M++mark w.heap.size::F).Perm (mark w.heap.size::(M++F)):=A4t
  have t7:=t6.sub (t6.ok.perm hpm) (fun x hx=>hpm.mem_iff.2 hx)
  refine ⟨none,_,run_endLoop hl hst,?_⟩
  show y.wpIn Fence.wide 0 P _ _ _
  let rg:Rg:=⟨[⟨.collected w.heap.size,#[]⟩],none⟩
  have hk:=k rg w.heap.size M hR1 { a with defers:=[⟨.collected w.heap.size,#[]⟩]++a.defers } _ h1 h2 (by rw [h3];rfl) t7.ok (fun e=>by cases e)
  refine A6q (F:=Fence.wide) hk ?_
  rintro e a2 w2 ⟨E2,H2,m1,m2,m3,m4,m5⟩
  cases e with
  | normal=>obtain ⟨G,q1,v,L2,F3,q2,q3,q4⟩:=m5;exact ⟨.inl rfl,E2,H2,_,v,L2,m1,m3,t7.trans m4,G,F3,q1,q3,q2,q4⟩
  | ret=>obtain ⟨G,q1,v,L2,F3,q2,q3,q4⟩:=m5;exact ⟨.inr rfl,E2,H2,_,v,L2,m1,m3,t7.trans m4,G,F3,q1,q3,q2,q4⟩
  | _=>exact m5.elim
end
end
section
open Go Go.Sem
theorem Ac4 {w:World} {H:Hp} (h:HpOk H w) (os:Array Obj):Trk w { w with heap:=w.heap++os } H H:=by
 refine ⟨⟨h.far,fun x hx=> ?_⟩,rfl,rfl,rfl,fun a ha=> ?_,by simp,fun c hc _=> ?_,fun _ h=> .inl h,fun _ h=> .inl h⟩
 ·have:=h.lt hx
  rw [A16 this];exact h.here x hx
 ·simp only [World.frozen?,A16 ha]
 grind
theorem W5 {xs ys:List Int} {sp:List Value} (h:ys.length=xs.length):(Sort.putCells (Value.int .i64) 0 ys.toArray (cells xs++sp).toArray)=(cells ys++sp).toArray:=by
 have hc:∀ zs:List Int,(cells zs:List Value)=zs.map (Value.int .i64):=fun zs=>by
  induction zs with
  | nil=>rfl
  | cons z zs ih=>simp only [cells,A36] at *;rw [ih];rfl
 rw [hc,hc]
 unfold Sort.putCells
 grind
theorem Ac5 {w:World} {b n:Nat} {xs ys:List Int} {sp:List Value} {T:TypeId} {os:Array Obj} (h:HpOk [(b,true,C (cells xs++sp) T)] w) (hl:ys.length=xs.length) :
  Trk w (Sort.grow (Sort.putRow (Value.int .i64) (Sort.ahead w n) b 0 ys.toArray) os) [(b,true,C (cells xs++sp) T)] [(b,true,C (cells ys++sp) T)]:=by
 have t1:=Da h (w.drawn+n)
 have hb:=t1.ok.here _ (A3y)
 have t2:=Pp (b:=b) (o:=C (cells xs++sp) T) (o':=C (cells ys++sp) T) t1.ok .here (fun i s=>by
  have hlt:=t1.ok.lt (x:=(b,true,C (cells xs++sp) T)) A3y
  rw [H7 hb]
  exact H7 (cs:=cells ys++sp) (T:=T) (by simp [B6,hlt]) _ _)
 have e:Sort.putRow (Value.int .i64) (Sort.ahead w n) b 0 ys.toArray=B6 { w with drawn:=w.drawn+n } b (C (cells ys++sp) T):=by
  unfold Sort.putRow Sort.mapBlock B6 Sort.ahead
  congr 1
  apply A3n
  intro k
  rw [A2t,A12]
  by_cases hk:b=k
  ·subst hk
   have hlt:=t1.ok.lt (x:=(b,true,C (cells xs++sp) T)) A3y
   rw [A6v rfl,A6v rfl,hb,A6v hlt]
   show some (Sort.onCells _ (.cells _ _ _))=_
   simp only [Sort.onCells]
   rw [W5 hl]
   rfl
  grind
 have t3:=Ac4 t2.ok os
 rw [e]
 exact (t1.trans t2).trans t3
end
section
open Go Go.Sem
set_option linter.unusedSectionVars false
section
variable {P:Program} {F:Fence} {n:Nat}
theorem Ac6 {fr:Frame} {cs:List Frame} {w w':World} {d:Deferred} {b:Builtin} {ts:Array TypeId} {ty:TypeId} {co:Array Bool} {v:Value} {ds:List Deferred}
  (hm:fr.mode≠.run) (hd:fr.defers=d::ds) (ht:d.target= .builtin b ts ty co) (hi:(invoke d.target d.args).run P w= .ok (.value v) w') :
  step P (lone fr cs w)= .next (lone { fr with defers:=ds } cs w'):=by
 obtain ⟨t,a⟩:=d
 subst ht
 refine step_lone_go ?_
 cases hmode:fr.mode with
 | run=>grind
 | returning=>simp [stepG,unwind,callDeferred,hmode,hd,hi,Sem.runT_eq,GStep.bare_after]
 | panicking chain=>simp [stepG,unwind,callDeferred,hmode,hd,hi,Sem.runT_eq,GStep.bare_after]
def LeavesB (F:Fence) (n:Nat) (P:Program) (fn:Func) (tmps:Array Value) (R:Ending→World→Prop):List Deferred→World→Prop
 | [],w=>LeavesIn F n P fn tmps R [] .returning w
 | d::ds,w=>∃ b ts ty co v w',d.target= .builtin b ts ty co∧(invoke d.target d.args).run P w= .ok (.value v) w'∧LeavesB F n P fn tmps R ds w'
theorem Ny {fn:Func} {tmps:Array Value} {R:Ending→World→Prop}:∀ (ds:List Deferred) (w:World) (fr:Frame)
  (cs:List Frame),fr.mode= .returning→fr.defers=ds→fr.tmps=tmps→P.funcs[fr.fn]? =some fn→fr.kind= .normal→F.fn fr.fn→F.room (cs.length+1+n)→LeavesB F n P fn tmps R ds w →
  ∃ e w' fr',R e w'∧ComesIn (Machine.fenced P F) P (lone fr cs w) (lone fr' cs w') e∧fr'.fn=fr.fn∧fr'.leaving P w' e:=by
 intro ds
 induction ds with
 | nil=>exact fun w fr cs hu hd ht hf hk hb hroom h=>leaves_stepsIn [] .returning w fr cs hu hd ht hf hk hb hroom h
 | cons d ds ih =>
  intro w fr cs hu hd ht hf hk hb hroom h
  obtain ⟨b,ts,ty,co,v,w',htar,hinv,hrest⟩:=h
  have hrun:fr.mode≠.run:=by rw [hu];grind
  have h1:=Ac6 (cs:=cs) hrun hd htar hinv
  have i1:(lone fr cs w).fenced P F:=fenced_out hb hroom hrun hd (fun g hg=>by rw [htar] at hg;simp [Target.leads] at hg)
  obtain ⟨e',w'',fr',hR',hs',hfn',hl'⟩:=ih w' { fr with defers:=ds } cs hu rfl ht hf hk hb hroom hrest
  exact ⟨e',w'',fr',hR',ComesIn.of_steps (.one i1 h1) hs',hfn',hl'⟩
def Akk (F:Fence) (n:Nat) (P:Program) (fn:Func) (R:Ending→World→Prop):Exit→Act→World→Prop
 | .normal,a,w | .ret,a,w=>LeavesB F n P fn a.tmps R a.defers w
 | .outgrown,_,w=>R .outgrown w
 | _,_,_=>False
theorem U2 {f:FuncId} {fn:Func} {c:Code} {args:Array Value} {w:World} {R:Ending→World→Prop}
  (hf:P.funcs[f]? =some fn) (hb:fn.body=some c) (hF:F.fn f)
  (h:c.wpIn F n P (Akk F n P fn R) { tmps:=args++Array.replicate (fn.ntmps - args.size) undef,defers:=[] } w) (hro:F.round=none:=by rfl):CallsIn F n P f args w R:=by
 refine ⟨hF,fun cs hr=> ?_⟩
 let b:Frame:={ (default:Frame) with fn:=f,kind:= .normal,roundOf:=none }
 have henter:Frame.enter P f args .normal =
   b.atR { tmps:=args++Array.replicate (fn.ntmps - args.size) undef,defers:=[] } [.code c]:=by
  simp [Frame.enter,Frame.atR,hf,hb,b]
 obtain ⟨e,a',w',hq,harr⟩:=h b [] cs hro.symm hF hr
 rw [← henter] at harr
 cases e with
 | normal =>
  obtain ⟨e',w'',fr',hR,hs,hfn,hl⟩:=Ny a'.defers w' { b.atR a' [] with mode:= .returning } cs rfl rfl rfl hf rfl hF hr hq
  exact ⟨e',w'',fr',hR,ComesIn.of_steps (StepsIn.trans harr (.one (fenced_calm (fr:=b.atR a' []) hF hr rfl) (stepR_end rfl))) hs,hfn,hl⟩
 | ret =>
  obtain ⟨todo,hs₀⟩:=harr.1 rfl
  obtain ⟨e',w'',fr',hR,hs,hfn,hl⟩:=Ny a'.defers w' { b.atR a' todo with mode:= .returning } cs rfl rfl rfl hf rfl hF hr hq
  exact ⟨e',w'',fr',hR,ComesIn.of_steps hs₀ hs,hfn,hl⟩
 | panic chain=>exact hq.elim
 | exit id=>exact hq.elim
 | goto l=>exact hq.elim
 | outgrown=>exact ⟨.outgrown,w',b,hq,harr.resolve_left (by simp [b]),rfl,trivial⟩
end
end
section
open Go Go.Sem
set_option linter.unusedSectionVars false
def BR (w:World) (H:Hp) (R:Value→Hp→Prop):Ending→World→Prop:=fun e w''=>∃ v H',e= .returned v∧R v H'∧Trk w w'' H H'
def BQ (P:Program) (fn:Func) (w:World) (H:Hp) (R:Value→Hp→Prop):Exit→Act→World→Prop:=fun e a' w' =>
 (e= .normal∨e= .ret)∧LeavesB Fence.wide 0 P fn a'.tmps (BR w H R) a'.defers w'
def SBf (P:Program) (fn:Func) (n:Nat) (c:Code) (E:Env) (H:Hp) (R:Value→Hp→Prop):Prop :=
 ∀ a w,EnvOk E a→a.tmps.size=n→a.defers=[]→HpOk H w→c.wpIn Fence.wide 0 P (BQ P fn w H R) a w
section
variable {P:Program} {n f:Nat} {fn:Func} {E:Env} {H:Hp} {R:Value→Hp→Prop}
theorem LeavesB.mono {tmps:Array Value} {R1 R2:Ending→World→Prop} (h:∀ e w,R1 e w→R2 e w):∀ (ds:List Deferred) (w:World),LeavesB Fence.wide 0 P fn tmps R1 ds w→LeavesB Fence.wide 0 P fn tmps R2 ds w
 | [],w,⟨v,h1,h2⟩=>⟨v,h1,h _ _ h2⟩
 | d::ds,w,⟨b,ts,ty,co,v,w',h1,h2,h3⟩=>⟨b,ts,ty,co,v,w',h1,h2,LeavesB.mono h ds w' h3⟩
theorem BQ.after {w w1:World} {H1:Hp} (ht:Trk w w1 H H1) {e:Exit} {a:Act} {w':World} (h:BQ P fn w1 H1 R e a w'):BQ P fn w H R e a w' :=
 ⟨h.1,LeavesB.mono (fun e w ⟨v,H',h1,h2,h3⟩=>⟨v,H',h1,h2,ht.trans h3⟩) _ _ h.2⟩
theorem Akl {c:Code} {args:List Value} (hf:P.funcs[f]? =some fn) (hn:fn.ntmps=n) (hb:fn.body=some c) (hl:args.length≤n) (h:SBf P fn n c (Og 0 args) H R):Does P f args H R:=by
 intro w hw
 refine A6e.1 (U2 (n:=0) hf hb trivial (A6q (h { tmps:=args.toArray++Array.replicate (fn.ntmps - args.toArray.size) undef,defers:=[] } w ?_ ?_ rfl hw) ?_))
 ·intro i v hv
  obtain ⟨_,h2⟩:=Ld args 0 i v hv
  have hi:i<args.length:=(List.getElem?_eq_some_iff.1 (by simpa using h2)).1
  simp only [A14]
  rw [A16 (by omega)]
  have h2':args[i]? =some v:=by omega
  simp [h2']
 ·simp;omega
 ·rintro e a' w' ⟨k0,k1⟩
  rcases k0 with rfl | rfl
  ·exact k1
  ·exact k1
theorem A0m {w w':World} {E':Env} {H':Hp} {a':Act} {e:Exit} (he:e= .normal∨e= .ret) (h1:EnvOk E' a') (h3:a'.defers=[]) (h4:Trk w w' H H') (h5:G0 P fn R .ret E' H'):BQ P fn w H R e a' w':=by
 obtain ⟨v,L,F,q1,q2,q3⟩:=h5
 refine ⟨he,?_⟩
 rw [h3]
 exact ⟨v,q1 a' w' h1 h4.ok,v,L,rfl,q3,h4.split q2⟩
def thB (P:Program) (fn:Func) (R:Value→Hp→Prop) (K:Env→Hp→Prop):C5
 | .normal,E,H=>K E H
 | .ret,E,H=>G0 P fn R .ret E H
 | _,_,_=>False
theorem Nz {x y:Code} (h:SC P n x E H (thB P fn R fun E' H'=>SBf P fn n y E' H' R)):SBf P fn n (.seq x y) E H R:=by
 intro a w h1 h2 h3 h4
 refine wpIn_seq (A6q (h a w h1 h2 h3 h4 fun e=>by cases e) ?_)
 rintro e a' w' ⟨E',H',k1,k2,k3,k4,k5⟩
 cases e with
 | normal=>exact A6q (k5 a' w' k1 k2 k3 k4.ok) fun e a2 w2 hh=>hh.after k4
 | ret=>exact A0m (.inr rfl) k1 k3 k4 k5
 | exit i=>exact k5.elim
 | goto l=>exact k5.elim
 | panic ch=>exact k5.elim
 | outgrown=>exact k5.elim
end
end
section
open Go Go.Sem
set_option linter.unusedSectionVars false
def Afs (t ty:TypeId) (b:Nat):Deferred:={ target:= .builtin .clear #[t] ty #[false],args:=#[.map (some b)] }
def An8 (α:Type) [Mv α] (P:Program) (fn:Func) (R:Value→Hp→Prop) (b:Nat):C5
 | .normal,E,H | .ret,E,H=>∃ (kd:IntKind) (m:Mp α) (G:Hp),Upd b (m.obj kd) (m.clr.obj kd) H G∧G0 P fn R .ret E G
 | _,_,_=>False
section
variable {P:Program} {n f:Nat} {fn:Func} {E:Env} {H:Hp} {R:Value→Hp→Prop}
theorem At1 (α:Type) [Mv α] {id b d0:Nat} {l x:List Oper} {y:Code} {t ty kt et:TypeId} {pos:String} {af:Array Edge} [ht:Und P t (.map kt et)]
  (hx:l.dropLast=x) (hd:l.getLast? =some ⟨none,.defer ⟨.builtin .clear,#[.tmp d0],#[t]⟩,ty,pos,af,none⟩)
  (h:∀ ops,SO P n ops x E H (fun e E' H'=>e= .normal∧ev E' (.tmp d0)=some (.map (some b))∧∀ rg:Rg,rg.ds=[Afs t ty b]→rg.rd=none→SC P n y E' H' (An8 α P fn R b))) :
  SBf P fn n (.seq (.region id l.toArray false) y) E H R:=by
 have hl:l=x++[⟨none,.defer ⟨.builtin .clear,#[.tmp d0],#[t]⟩,ty,pos,af,none⟩]:=by
  obtain ⟨ys,rfl⟩:=List.getLast?_eq_some_iff.1 hd
  rw [List.dropLast_concat] at hx
  rw [hx]
 intro a w h1 h2 h3 h4
 refine wpIn_seq (wpIn_region_lit ?_)
 subst hl
 refine Ph _ (Q:=Up n w H (fun e E' H'=>e= .normal∧ev E' (.tmp d0)=some (.map (some b))∧∀ rg:Rg,rg.ds=[Afs t ty b]→rg.rd=none→SC P n y E' H' (An8 α P fn R b))) ?_ ?_ x a w (fun e=>by cases e) (h _ a w h1 h2 h3 h4)
 ·rintro a' w' ⟨E',H',k1,k2,k3,k4,_,k5,k6⟩
  have hrun:(execOp a'.eval ⟨none,.defer ⟨.builtin .clear,#[.tmp d0],#[t]⟩,ty,pos,af,none⟩).run P w'= .ok (.defer (Afs t ty b)) w':=by
   simp only [execOp,Bs,Sem.run_bind]
   simp [Afs,As k1 k5]
  unfold wpListIn
  rw [A6v (Ln (Y:=[]) (fun _ _ h=>by cases h) rfl k1)]
  refine ⟨fun _ _=>trivial,?_⟩
  have hs:∀ o:Oper,Oper.semAt (Rg.F).round a'.eval o=execOp a'.eval o:=fun o=>rfl
  rw [hs,hrun,Oper.uponIn_defer]
  let rg:Rg:=⟨[Afs t ty b],none⟩
  have hk:=k6 rg rfl rfl { a' with defers:=Afs t ty b::a'.defers } w' k1 k2 (by rw [k3];rfl) k4.ok (fun e=>by cases e)
  refine A6q (F:=Fence.wide) hk ?_
  rintro e a2 w2 ⟨E2,H2,m1,m2,m3,m4,m5⟩
  have fin:(∃ (kd:IntKind) (m:Mp α) (G:Hp),Upd b (m.obj kd) (m.clr.obj kd) H2 G∧G0 P fn R .ret E2 G)→LeavesB Fence.wide 0 P fn a2.tmps (BR w H R) a2.defers w2:=by
   rintro ⟨kd,m,G,hu,v,L,F,q1,q2,q3⟩
   have e0:w2.heap[b]? =some (m.obj kd):=m4.ok.here _ hu.mem
   have hc:=Ah3 (P:=P) (t:=t) (ty:=ty) e0
   have htr:=Tq m4.ok hu
   have hall:=(k4.trans m4).trans htr
   rw [m3]
   refine ⟨.clear,#[t],ty,#[false],.tuple #[],_,rfl,?_,v,q1 a2 _ m1 htr.ok,v,L,rfl,q3,hall.split q2⟩
   simp [Afs,invoke,builtin,hc]
  cases e with
  | normal=>exact ⟨.inl rfl,fin m5⟩
  | ret=>exact ⟨.inr rfl,fin m5⟩
  | exit i=>exact m5.elim
  | goto l=>exact m5.elim
  | panic ch=>exact m5.elim
  | outgrown=>exact m5.elim
 ·rintro e a' w' he ⟨E',H',k1,k2,k3,k4,k5,_⟩
  exact he k5
end
end
section
open Go Go.Sem
set_option linter.unusedSectionVars false
theorem Aog {w:World} {H:Hp} (h:HpOk H w) {o:Obj}:Trk w { w with heap:=w.heap.push o } H ((w.heap.size,true,o)::H):=by
 refine ⟨⟨?_,fun x hx=> ?_⟩,rfl,rfl,rfl,fun a ha=> ?_,by simp,fun c hc _=> ?_,?_,?_⟩
 ·refine A30.2 ⟨fun x hx e=> ?_,h.far⟩
  have:=h.lt hx
  omega
 ·cases hx with
  | head=>simp
  | tail _ hx=>have:=h.lt hx;simp [A3g,h.here x hx];omega
 ·obtain ⟨ab,ao,as0⟩:=a
  have ha:ab<w.heap.size:=ha
  have hb:ab≠w.heap.size:=by omega
  simp [World.frozen?,A3g,hb]
 ·grind
 ·rintro c ⟨x,hx,rfl⟩
  cases hx with
  | head=>omega
  | tail _ hx=>exact .inl ⟨x,hx,rfl⟩
 ·rintro c ⟨x,hx,rfl,hr⟩
  cases hx with
  | head=>omega
  | tail _ hx=>exact .inl ⟨x,hx,rfl,hr⟩
section
variable {P:Program} {n:Nat} {E:Env} {H:Hp} {Q:C5} {ops:Array Oper} {rest:List Oper}
theorem Ah6 [rg:Rg] {d d2:Nat} {t e:TypeId} {l:Nat} {ps:List (Nat×Operand)} {ty ty2:TypeId} {pos pos2:String} {af af2:Array Edge} {vs:List (Nat×Value)} {cs zs:List Value} [ht:Und P t (.slice e)] [he:Und P e (.int .u8)] [hz:Zer P e zs] [hs:Siz P e zs.length]
  (hv:evs E ps=some vs) (hb:P1 zs.length (Gd l zs) vs=some cs) (hl:Nat.ble (l*zs.length) 16777216=true) (hd:Nat.blt d n=true) (hd2:Nat.blt d2 n=true)
  (k:∀ b,SO P n ops rest ((d2,.slice (some ⟨b,0,none⟩) l l)::(d,.slice (some ⟨b,0,none⟩) l l)::E) ((b,true,CF cs e (cs.length,cs.length+1))::H) Q) :
  SO P n ops (⟨some d,.buildSlice t l ps.toArray,ty,pos,af,none⟩::⟨some d2,.convert t t (.tmp d),ty2,pos2,af2,none⟩::rest) E H Q:=by
 intro a w h1 h2 h3 h4
 have hbs:(Instr.buildSlice t l vs.toArray).run P w= .ok (.slice (some ⟨w.heap.size,0,none⟩) l l) { w with heap:=w.heap.push (C cs e) }:=by
  obtain ⟨z,hz1,hz2⟩:=Ee (P:=P) (t:=e) w
  have hfill:=P2 zs.length vs (Gd l zs) cs hb
  have hl':¬ l*zs.length>2 ^ 24:=by have:=A25 hl;omega
  simp only [Instr.buildSlice,Sem.run_bind,A5r ht.eq,A4g,Bd,hl']
  by_cases h0:l*zs.length=0
  ·have he:Gd l zs=[]:=List.length_eq_zero_iff.1 (by rw [Kq];exact h0)
   rw [he] at hfill
   have hr:Array.range 0=#[]:=rfl
   simp [h0,hr,hfill,newRow,C,CF]
  ·simp only [h0,if_false,Sem.run_bind,hz1,A4g,Sem.run_pure]
   rw [Tt l z.cells zs hz2,hfill]
   simp [newRow,C,CF]
 have hrun:(execOp a.eval ⟨some d,.buildSlice t l ps.toArray,ty,pos,af,none⟩).run P w= .ok (.value (.slice (some ⟨w.heap.size,0,none⟩) l l)) { w with heap:=w.heap.push (C cs e) }:=by
  have:=Om h1 hv
  have e2:(ps.toArray.map fun (i,x)=>(i,a.eval x))=vs.toArray:=by rw [← this];simp
  simp only [execOp,Sem.run_bind]
  rw [e2,hbs];rfl
 have hlt:d<a.tmps.size:=by rw [h2];simp_all
 have h1':=h1.put (v:= .slice (some ⟨w.heap.size,0,none⟩) l l) hlt
 have hrun2:(execOp (a.put (some d) (.slice (some ⟨w.heap.size,0,none⟩) l l)).eval ⟨some d2,.convert t t (.tmp d),ty2,pos2,af2,none⟩).run P { w with heap:=w.heap.push (C cs e) }= .ok (.value (.slice (some ⟨w.heap.size,0,none⟩) l l)) { w with heap:=w.heap.push (CF cs e (cs.length,cs.length+1)) }:=by
  have hev:=As h1' (x:= .tmp d) (v:= .slice (some ⟨w.heap.size,0,none⟩) l l) (by show fnd ((d,_)::E) d=_;unfold fnd;rw [Nat.beq_refl];rfl)
  simp only [execOp,hev,Sem.run_bind]
  have:=Lib.run_convert_bytes_const (P:=P) w t e cs.toArray l l ht.eq he.eq
  have h5:(convert t t (.slice (some ⟨w.heap.size,0,none⟩) l l)).run P { w with heap:=w.heap.push (C cs e) }= .ok (.slice (some ⟨w.heap.size,0,none⟩) l l) { w with heap:=w.heap.push (CF cs e (cs.length,cs.length+1)) }:=this
  rw [h5];rfl
 refine A6f rfl fun K hK=> ?_
 unfold Oper.wp
 rw [hrun]
 refine hK _ _ (A6f rfl fun K2 hK2=> ?_)
 unfold Oper.wp
 rw [hrun2]
 have hlt2:d2<(a.put (some d) (.slice (some ⟨w.heap.size,0,none⟩) l l)).tmps.size:=by simp [Act.put];simp_all
 have htr:=Aog (o:=CF cs e (cs.length,cs.length+1)) h4
 exact hK2 _ _ (Br htr (k _ _ _ (h1'.put hlt2) (by simp [Act.put,h2]) h3 htr.ok))
end
end
section
open Go Go.Sem
set_option linter.unusedSectionVars false
theorem Adb {xs ys sp:List Value} (h:ys.length=xs.length):(Sort.putCells id 0 ys.toArray (xs++sp).toArray)=(ys++sp).toArray:=by
 unfold Sort.putCells
 grind
section
variable {α:Type} [Cel α] [Inhabited α]
theorem Aoh {xs:List α} {i c:Nat} {x:α} (hi:xs[i]? =some x) (hc:c<Cel.sz α):(cells xs)[i*Cel.sz α+c]? =(Cel.cs x)[c]? :=by
 induction xs generalizing i with
 | nil=>simp at hi
 | cons y ys ih =>
  show (Cel.cs y++cells ys)[_]? =_
  cases i with
  | zero =>
   obtain rfl:y=x:=by grind
   rw [Nat.zero_mul,A6c,A2e (by rw [Cel.len];exact hc)]
  | succ i =>
   rw [A19 (by rw [Cel.len,A6b];omega),Cel.len,show (i+1)*Cel.sz α+c - Cel.sz α=i*Cel.sz α+c by rw [A6b];omega]
   grind
theorem U4 (h0:0<Cel.sz α) (xs:List α):Sort.flatK Cel.cs (Cel.sz α) xs.toArray=(cells xs).toArray:=by
 refine Sort.ext_get! (by rw [Sort.size_flatK,List.size_toArray,List.size_toArray,Ho]) fun t ht=> ?_
 have ht':t<xs.toArray.size*Cel.sz α:=by simpa using ht
 rw [Sort.get_flatK _ _ _ t ht']
 have hq:t / Cel.sz α<xs.length:=by
  rw [Nat.div_lt_iff_lt_mul h0];omega
 have hm:t % Cel.sz α<Cel.sz α:=A6k _ h0
 have e:t=(t / Cel.sz α)*Cel.sz α+t % Cel.sz α:=by
  have:=Nat.div_add_mod t (Cel.sz α)
  rw [Nat.mul_comm] at this;omega
 have hg:xs[t / Cel.sz α]? =some xs[t / Cel.sz α]:=A2i hq
 have h1:=Aoh hg hm
 rw [← e] at h1
 rw [getElem!_pos xs.toArray _ (by omega)]
 have hl:t % Cel.sz α<(Cel.cs xs[t / Cel.sz α]).length:=by rw [Cel.len];exact hm
 have hl2:t<(cells xs).length:=by rw [Ho];omega
 rw [A2i hl,A2i hl2] at h1
 rw [getElem!_pos (cells xs).toArray t (by omega)]
 grind
theorem Afw {w:World} {b:Nat} {xs:List α} {sp:List Value} {T:TypeId} (h0:0<Cel.sz α) (hb:w.heap[b]? =some (C (cells xs++sp) T)):Sort.HoldsK Cel.cs (Cel.sz α) w b 0 xs.toArray:=by
 intro j hj
 rw [U4 h0] at hj ⊢
 have hj':j<(cells xs).length:=by omega
 refine ⟨?_,H7 hb _ _⟩
 rw [A6c,I9 hb,Dk,A2e hj',A2i hj',getElem!_pos (cells xs).toArray j hj]
 rfl
theorem Akn {w:World} {b n:Nat} {xs ys:List α} {sp:List Value} {T:TypeId} {os:Array Obj} (h0:0<Cel.sz α) (h:HpOk [(b,true,C (cells xs++sp) T)] w) (hl:ys.length=xs.length) :
  Trk w (Sort.grow (Sort.putRowK Cel.cs (Cel.sz α) (Sort.ahead w n) b 0 ys.toArray) os) [(b,true,C (cells xs++sp) T)] [(b,true,C (cells ys++sp) T)]:=by
 have t1:=Da h (w.drawn+n)
 have hb:=t1.ok.here _ (A3y)
 have t2:=Pp (b:=b) (o:=C (cells xs++sp) T) (o':=C (cells ys++sp) T) t1.ok .here (fun i s=>by
  have hlt:=t1.ok.lt (x:=(b,true,C (cells xs++sp) T)) A3y
  rw [H7 hb]
  exact H7 (cs:=cells ys++sp) (T:=T) (by simp [B6,hlt]) _ _)
 have e:Sort.putRowK Cel.cs (Cel.sz α) (Sort.ahead w n) b 0 ys.toArray=B6 { w with drawn:=w.drawn+n } b (C (cells ys++sp) T):=by
  unfold Sort.putRowK Sort.putRow Sort.mapBlock B6 Sort.ahead
  rw [U4 h0]
  congr 1
  apply A3n
  intro k
  rw [A2t,A12]
  by_cases hk:b=k
  ·subst hk
   have hlt:=t1.ok.lt (x:=(b,true,C (cells xs++sp) T)) A3y
   rw [A6v rfl,A6v rfl,hb,A6v hlt]
   show some (Sort.onCells _ (.cells _ _ _))=_
   simp only [Sort.onCells]
   rw [Adb (by rw [Ho,Ho,hl])]
   rfl
  grind
 have t3:=Ac4 t2.ok os
 rw [e]
 exact (t1.trans t2).trans t3
end
end
section
open Go.ChangeShapes Go.WideShapes Go.ChangeAt Go.RowKit
def Cf:Kd→Value→Prop
 | some k,v=>∃ n,v= .int k n∧(Lit.int k n).wf=true
 | none,v=>∃ b,v= .bool b
def Conf:List Kd→List Value→Prop
 | [],[]=>True
 | k::ks,c::cs=>Cf k c∧Conf ks cs
 | _,_=>False
theorem Conf.len:∀ {ks:List Kd} {cs:List Value},Conf ks cs→cs.length=ks.length
 | [],[],_=>rfl
 | [],_::_,h=>h.elim
 | _::_,[],h=>h.elim
 | k::ks,c::cs,h=>by simp [Conf.len h.2]
theorem Conf.append:∀ {k1 k2:List Kd} {c1 c2:List Value},Conf k1 c1→Conf k2 c2→Conf (k1++k2) (c1++c2)
 | [],k2,[],c2,_,h=>h
 | [],_,_::_,_,h,_=>h.elim
 | _::_,_,[],_,h,_=>h.elim
 | k::k1,k2,c::c1,c2,h,h2=>⟨h.1,Conf.append h.2 h2⟩
section
variable {H:Type} {enc:TypeId×Value→H} {P:Program} {w:World} {base:Nat} {spare:Nat→Bool} {held:Bool}
theorem Qk {α β:Type} (f:α→Option β):∀ (l:List α) (r:List β),l.mapM f=some r→∀ x∈l,∃ y,f x=some y
 | [],r,h,x,hx=>by cases hx
 | a::l,r,h,x,hx=>by
  rw [A5m] at h
  cases ha:f a with
  | none=>grind
  | some b =>
   cases hl:l.mapM f with
   | none=>grind
   | some r' =>
    cases hx with
    | head=>grind
    | tail _ hx=>exact Qk f l r' hl x hx
theorem Lt {t:TypeId} {n:Nat} (h:(P.info? t).map (·.size)=some n):P.cellsOf t=n:=by
 unfold Program.cellsOf;rw [h];rfl
theorem S4 {d:Nat} (ih:∀ (t:TypeId) (ks:List Kd),Fn P d t=some ks→P.cellsOf t=ks.length∧∀ (fuel:Nat) (cs:List Value) (x:DataW H×List MemPlace),DataW.trod enc P w base spare held fuel t cs=some x→Conf ks cs) :
  ∀ (fs:List Field) (o:Nat) (ks:List Kd) (cs:List Value) (fuel:Nat),J2 (Fn P d) fs o=some ks →
   (∀ f∈fs,∃ y,DataW.trod enc P w base spare held fuel f.type ((cs.drop f.offset).take (P.cellsOf f.type))=some y)→cs.length=o+ks.length→Conf ks (cs.drop o)
 | [],o,ks,cs,fuel,h,_,hl=>by
  simp only [J2,A4e] at h
  subst h
  rw [A2q (by grind)]
  trivial
 | f::fs,o,ks,cs,fuel,h,hr,hl=>by
  simp only [J2] at h
  cases hf:Fn P d f.type with
  | none=>grind
  | some s1 =>
   simp only [hf] at h
   split at h
   ·rename_i hon
    cases hrs:J2 (Fn P d) fs (o+s1.length) with
    | none=>grind
    | some s2 =>
     simp only [hrs,A4e] at h
     subst h
     obtain ⟨y,hy⟩:=hr f (.head _)
     obtain ⟨i1,i2⟩:=ih f.type s1 hf
     rw [i1,hon.1] at hy
     have c1:=i2 fuel _ _ hy
     simp only [A3x] at hl
     have c2:=S4 ih fs (o+s1.length) s2 cs fuel hrs (fun g hg=>hr g (.tail _ hg)) (by omega)
     have:=c1.append c2
     rwa [← drop_take_add',A2s (by simp)] at this
   ·cases h
where
 drop_take_add' {cs:List Value} {o a:Nat}:(cs.drop o).take (cs.length)=(cs.drop o).take a++cs.drop (o+a):=by
  rw [A2s (by simp),← A5k,A23]
theorem Vu {d n:Nat} {e:TypeId} {s:List Kd} (hs:P.cellsOf e=s.length∧∀ (fuel:Nat) (cs:List Value) (x:DataW H×List MemPlace),DataW.trod enc P w base spare held fuel e cs=some x→Conf s cs) (cs:List Value) (fuel:Nat) :
  ∀ (k i:Nat),(∀ j,i≤j→j<i+k→∃ y,DataW.trod enc P w base spare held fuel e ((cs.drop (j*s.length)).take s.length)=some y)→cs.length=(i+k)*s.length→Conf (Mw k s) (cs.drop (i*s.length))
 | 0,i,_,hl=>by
  rw [A2q (by grind)]
  trivial
 | k+1,i,hr,hl=>by
  obtain ⟨y,hy⟩:=hr i (A6h _) (by omega)
  have c1:=hs.2 fuel _ _ hy
  have c2:=Vu (d:=d) (n:=n) hs cs fuel k (i+1) (fun j h1 h2=>hr j (by omega) (by omega)) (by rw [hl];grind)
  have e1:(i+1)*s.length=i*s.length+s.length:=by rw [Nat.add_mul,Nat.one_mul]
  rw [e1] at c2
  have:=c1.append c2
  rw [← A5k,A23] at this
  exact this
theorem Ald:∀ (d:Nat) (t:TypeId) (ks:List Kd),Fn P d t=some ks→P.cellsOf t=ks.length∧∀ (fuel:Nat) (cs:List Value) (x:DataW H×List MemPlace),DataW.trod enc P w base spare held fuel t cs=some x→Conf ks cs:=by
 intro d
 induction d with
 | zero=>intro t ks h;cases h
 | succ d ih =>
  intro t ks h
  refine ⟨Lt (Va h).2,fun fuel cs x hx=> ?_⟩
  unfold Fn at h
  cases fuel with
  | zero=>cases hx
  | succ fuel =>
  unfold DataW.trod at hx
  cases hu:P.underlying t with
  | none=>rw [hu] at h;cases h
  | some u =>
   rw [hu] at h hx
   cases u <;> simp only at h <;> try (cases h;done)
   case bool =>
    split at h <;> cases h
    split at hx <;> simp_all [Conf,Cf]
   case int k =>
    split at h <;> cases h
    split at hx <;> simp_all [Conf,Cf]
   case array n e =>
    split at h
    ·rename_i s' hs'
     split at h
     ·rename_i hh
      cases h
      have hsz:P.cellsOf t=n*s'.length:=Lt hh.2
      have hse:P.cellsOf e=s'.length:=Lt hh.1
      obtain ⟨i1,i2⟩:=ih e s' hs'
      simp only at hx
      split at hx
      ·rename_i hlen
       rw [hse] at hx
       cases hm:(List.range n).mapM (fun i=>DataW.trod enc P w base spare held fuel e ((cs.drop (i*s'.length)).take s'.length)) with
       | none=>rw [hm] at hx;cases hx
       | some r =>
        have hall:=Qk _ _ _ hm
        have:=Vu (d:=d) (n:=n) ⟨i1,i2⟩ cs fuel n 0 (fun j _ hj=>hall j (A5n.2 (by omega))) (by rw [hlen,hsz];simp)
        grind
      ·cases hx
     ·cases h
    ·cases h
   case struct fs =>
    split at h
    ·split at h
     ·rename_i s' hs'
      split at h
      ·rename_i hh
       cases h
       have hsz:P.cellsOf t=ks.length:=Lt hh
       simp only at hx
       split at hx
       ·rename_i hlen
        cases hm:fs.toList.mapM (fun f=>DataW.trod enc P w base spare held fuel f.type ((cs.drop f.offset).take (P.cellsOf f.type))) with
        | none=>rw [hm] at hx;cases hx
        | some r =>
         have hall:=Qk _ _ _ hm
         have:=S4 ih fs.toList 0 ks cs fuel hs' hall (by rw [hlen,hsz];simp)
         grind
       ·cases hx
      ·cases h
     ·cases h
    ·cases h
theorem cells_get {a:Addr} {n:Nat} {cs:List Value} (h:w.cells? base a n=some cs):∀ i<n,∃ v,w.cell? (a.add i)=some v∧cs[i]? =some v:=by
 unfold World.cells? at h
 split at h
 ·intro i hi
  have:=mapM_get (fun i=>w.cell? (a.add i)) (List.range n) cs h i (by grind)
  grind
 ·cases h
where
 mapM_get {α β:Type} (f:α→Option β):∀ (l:List α) (r:List β),l.mapM f=some r→∀ i (h:i<l.length),∃ y,f l[i]=some y∧r[i]? =some y
  | [],r,h,i,hi=>by simp at hi
  | a::l,r,h,i,hi=>by
   rw [A5m] at h
   cases ha:f a with
   | none=>grind
   | some b =>
    cases hl:l.mapM f with
    | none=>grind
    | some r' =>
     simp [ha,hl] at h
     subst h
     cases i with
     | zero=>grind
     | succ i=>simpa using mapM_get f l r' hl i (by grind)
def Aa8 (w:World) (ks:List Kd) (p:Option Addr) (len cap:Nat):Prop :=
 (p=none∧len=0∧cap=0)∨∃ a,p=some a∧len≤cap∧cap≤maxLen∧∀ i<len,∃ row,Conf ks row∧∀ j<ks.length,∃ v,w.cell? ((a.add (i*ks.length)).add j)=some v∧row[j]? =some v
theorem Ago {t e:TypeId} {ks:List Kd} {v:Value} {d:DataW H} {ps:List MemPlace} (ht:P.underlying t=some (.slice e)) (hf:Fn P 20 e=some ks) (hv:∃ a len cap,v= .slice a len cap)
  (h:DataW.Trod enc P w base spare held t v d ps):∃ p len cap,v= .slice p len cap∧Aa8 w ks p len cap:=by
 obtain ⟨p,len,cap,rfl⟩:=hv
 refine ⟨p,len,cap,rfl,?_⟩
 obtain ⟨fuel,hx⟩:=h
 cases fuel with
 | zero=>cases hx
 | succ fuel =>
  unfold DataW.trod at hx
  rw [ht] at hx
  obtain ⟨hse,hfl⟩:=Ald (H:=H) (enc:=enc) (w:=w) (base:=base) (spare:=spare) (held:=held) 20 e ks hf
  cases p with
  | none =>
   left
   simp only [Value.cells] at hx
   grind
  | some a =>
   right
   simp only [Value.cells] at hx
   split at hx
   ·rename_i hb
    refine ⟨a,rfl,hb.2.1,hb.2.2,fun i hi=> ?_⟩
    cases hm:(List.range len).mapM (fun i=>(w.cells? base (a.add (i*P.cellsOf e)) (P.cellsOf e)).bind (DataW.trod enc P w base spare held fuel e)) with
    | none=>grind
    | some r =>
     obtain ⟨y,hy⟩:=Qk _ _ _ hm i (A5n.2 hi)
     cases hc:w.cells? base (a.add (i*P.cellsOf e)) (P.cellsOf e) with
     | none=>rw [hc] at hy;cases hy
     | some row =>
      rw [hc] at hy
      rw [hse] at hc
      refine ⟨row,hfl fuel row y hy,fun j hj=>cells_get hc j hj⟩
   ·cases hx
theorem N7 (hl:laidOutB P=true) {W W':World} (hb:Below W.heap.size W W') {sp:Nat→Bool}:∀ (ts:List TypeId) (vs:List Value) (ds:List (DataW H)) (ps:List MemPlace),(ts.all fun t=>P.readableRec t && decide (t<P.types.size))=true →
  DataW.TrodAll enc P W 0 (fun _=>true) true ts vs ds ps→(∀ p∈ps,p.block<W.heap.size)→(∀ p∈ps,sp p.block=true)→DataW.TrodAll enc P W' 0 sp true ts vs ds ps
 | [],vs,ds,ps,_,h,_,_=>by
  obtain ⟨rfl,rfl,rfl⟩:=trodAll_nil h
  exact trodAll_mk0
 | t::ts,vs,ds,ps,hr,h,h1,h2=>by
  obtain ⟨v,vs',d,ds',p,q,rfl,rfl,rfl,h3,h4⟩:=trodAll_cons h
  simp only [A5w,A4k,A4f] at hr
  refine trodAll_cons_mk ?_ (N7 hl hb ts vs' ds' q hr.2 h4 (fun x hx=>h1 x (A22 _ hx)) (fun x hx=>h2 x (A22 _ hx)))
  exact WideElems.Trod_stays hl hr.1.1 hr.1.2 h3 (fun x hx=>hb.same (h1 x (A29 _ hx))) (fun x hx=>h2 x (A29 _ hx))
theorem Apw {W W':World} {L L':Hp} (ht:Trk W W' L L') (hro:∀ x∈L,x.2.1=false):Below W.heap.size W W' :=
 ⟨ht.os,ht.tape,ht.out,ht.size,fun k hk=>ht.same k hk (fun ⟨x,hx,_,hr⟩=>by rw [hro x hx] at hr;cases hr)⟩
theorem Adx {f:Func} {s:ChangeSpec} {H:Type} {enc:TypeId×Value→H} {P:Program} {apart fresh handsOn again:Bool} {W W':World} {args:Array Value} {v:Value} {ds gs:List (DataW H)} {before pa pv:List MemPlace}
  (hW:DataW.Whole enc P f.params.toList s.vars apart W args.toList ds gs before)
  (hres:∀ (b:Nat) (sp:Nat→Bool) (hd:Bool),DataW.TrodAll enc P W' b sp hd f.resultTypes.toList (v.resultList f.resultTypes.size) (s.fn H (ds++gs)).results [])
  (hargs:∀ sp:Nat→Bool,(∀ p∈before,sp p.block=true)→DataW.TrodAll enc P W' 0 sp true f.params.toList args.toList (s.fn H (ds++gs)).args pa)
  (hvars:∀ sp:Nat→Bool,(∀ p∈before,sp p.block=true)→DataW.TrodVars enc P W' sp s.vars (s.fn H (ds++gs)).vars pv)
  (hps:before=pa++pv) (hk:W.keptBut W' (·∈before)) (hfz:∀ a,a.block<W.heap.size→W'.frozen? a=W.frozen? a)
  (hok:∀ (j:Nat) (t:TypeId) (r:Value),f.resultTypes[j]? =some t→(v.resultList f.resultTypes.size)[j]? =some r→Value.okWide P W' .any 0 t r) :
  s.post enc P f apart fresh handsOn again W args v W':=by
 have hlt:∀ p∈before,p.block<W.heap.size:=fun p hp=>hW.lt p hp
 have hold:∀ p∈before,(fun b=>decide (b<W.heap.size)) p.block=true:=fun p hp=>by grind
 refine ⟨ds,gs,before,[],pa,pv,hW,hres _ _ _,hargs _ hold,hvars _ hold,World.keptBut_mono (fun p hp=>⟨hp,?_⟩) hk,fun _=> ?_⟩
 ·rw [hps,A49] at hp
  grind
 ·obtain ⟨_,_,_,_,_,hz,hn⟩:=hW
  refine ⟨hok,_,_,([]++pa)++pv,⟨[]++pa,pv,trodAll_append (hargs _ (fun _ _=>rfl)) (hres _ _ _),hvars _ (fun _ _=>rfl),rfl,?_,?_⟩,?_⟩
  ·intro b off hp
   have hb:MemPlace.cell b off∈before:=by rw [hps];grind
   rw [hfz _ (hlt _ hb)]
   exact hz b off hb
  ·grind
  grind
theorem Apx {f:Func} {s:ChangeSpec} {apart:Bool} {W W':World} {args:Array Value} {ds gs:List (DataW H)} {before:List MemPlace} {bt:TypeId} {L L':Hp}
  (hl:laidOutB P=true) (hW:DataW.Whole enc P f.params.toList s.vars apart W args.toList ds gs before) (hvars:s.vars=[]) (hread:(f.params.toList.all fun t=>P.readableRec t && decide (t<P.types.size))=true)
  (hbt:P.underlying bt=some .bool) (hres:f.resultTypes=#[bt]) (ht:Trk W W' L L') (hro:∀ x∈L,x.2.1=false)
  (hspec:s.fn H (ds++gs)={ results:=[.lit (.bool true)],args:=ds }):s.post enc P f apart true false false W args (.bool true) W':=by
 have hb:=Apw ht hro
 have hW':=hW
 obtain ⟨p,q,hA,hV,rfl,hfz,hnd⟩:=hW
 rw [hvars] at hV
 have hq:gs=[]∧q=[]:=by
  cases gs with
  | nil=>exact ⟨rfl,hV⟩
  | cons g gs=>exact hV.elim
 obtain ⟨rfl,rfl⟩:=hq
 have hlt:∀ x∈p,x.block<W.heap.size:=fun x hx=>hW'.lt x (A29 _ hx)
 refine Adx (pa:=p) (pv:=[]) hW' (fun b sp hd=> ?_) (fun sp hsp=> ?_) (fun sp hsp=> ?_) rfl (hb.frame _) ht.fz (ok_one hres rfl (okWide_bool_mk hbt _))
 ·rw [hspec,hres]
  exact trodAll_cons_mk (shut_bool hbt _) trodAll_mk0
 ·rw [hspec]
  exact N7 hl hb _ _ _ _ hread hA hlt (fun x hx=>hsp x (A29 _ hx))
 ·rw [hspec,hvars]
  rfl
theorem Agp {ks:List Kd} {p:Option Addr} {len cap:Nat} (hk:0<ks.length) (h:Aa8 w ks p len cap):len≤9223372036854775807∧((len=0∧(p=none→cap=0))∨∃ b o cs T fr,∃ rows:List (List Value),p=some ⟨b,o,none⟩∧len≤cap∧HpOk [(b,false,CF cs T fr)] w∧rows.length=len ∧
  ∀ (i:Nat) (row:List Value),rows[i]? =some row→Conf ks row∧cut cs (o+i*ks.length) ks.length=some row):=by
 rcases h with ⟨_,rfl,hc⟩ | ⟨a,rfl,hlc,hcap,hr⟩
 ·omega
 ·refine ⟨by have:maxLen=9223372036854775807:=rfl;omega,?_⟩
  by_cases h0:len=0
  ·grind
  ·right
   obtain ⟨row0,_,hj0⟩:=hr 0 (by omega)
   obtain ⟨v0,hv0,_⟩:=hj0 0 hk
   obtain ⟨b,o,sp⟩:=a
   have hadd:∀ n,(⟨b,o,sp⟩:Addr).add n=if n=0 then ⟨b,o,sp⟩ else ⟨b,o+n,none⟩:=fun n=>rfl
   have hsp:sp=none:=by
    cases sp with
    | none=>rfl
    | some s=>simp [World.cell?] at hv0;split at hv0 <;> cases hv0
   subst hsp
   rw [B8,B8] at hv0
   have hblk:∃ cs T fr,w.heap[b]? =some (CF cs T fr):=by
    simp only [World.cell?] at hv0
    split at hv0
    ·rename_i c T fr hh;exact ⟨c.toList,T,fr,by rw [hh];simp [CF]⟩
    ·cases hv0
   obtain ⟨cs,T,fr,hh⟩:=hblk
   have hrow:∀ i,i<len→∃ row,Conf ks row∧cut cs (o+i*ks.length) ks.length=some row:=by
    intro i hi
    obtain ⟨row,hc,hj⟩:=hr i hi
    refine ⟨row,hc,?_⟩
    have hlen:=hc.len
    have hget:∀ j<ks.length,cs[o+i*ks.length+j]? =row[j]? :=by
     intro j hj'
     obtain ⟨v,h1,h2⟩:=hj j hj'
     rw [B8,B8,I9 hh,Dk] at h1
     rw [h1,h2]
    refine Aae ?_ ?_
    ·apply A35
     grind
    ·have hlast:=hget (ks.length - 1) (by omega)
     have hsome:∃ v,row[ks.length - 1]? =some v:=⟨row[ks.length - 1]'(by omega),A2i (by omega)⟩
     grind
   refine ⟨b,o,cs,T,fr,(List.range len).map (fun i=>(cut cs (o+i*ks.length) ks.length).getD []),rfl,hlc,⟨by simp,fun x hx=>by grind⟩,by simp,fun i row hrow'=> ?_⟩
   grind
end
end
section
open Go.ChangeShapes Go.WideShapes Go.ChangeAt Go.RowKit
section
variable {H:Type} {enc:TypeId×Value→H} {P:Program} {w:World} {base:Nat} {spare:Nat→Bool} {held:Bool}
theorem A02 {α:Type} [Cel α] {ks:List Kd} {p:Option Addr} {len cap:Nat} (hk:ks.length=Cel.sz α) (h0:0<ks.length) (hrow:∀ row,Conf ks row→∃ x:α,row=Cel.cs x) (T:TypeId) (h:Aa8 w ks p len cap) :
  ∃ s:Sl α,Value.slice p len cap=s.val∧HpOk (s.hp T) w∧∀ x∈s.hp T,x.2.1=false:=by
 obtain ⟨h1,h2⟩:=Agp h0 h
 rcases h2 with ⟨rfl,hc⟩ | ⟨b,o,cs,U,fr,rows,rfl,hlc,hok,hlen,hr⟩
 ·cases p with
  | none =>
   have:=hc rfl
   subst this
   refine ⟨.nil,rfl,?_,?_⟩
   ·rw [Sl.hp_nil];exact ⟨List.Pairwise.nil,fun x hx=>by cases hx⟩
   ·rw [Sl.hp_nil];grind
  | some a =>
   refine ⟨.vac a cap,rfl,?_,?_⟩
   ·rw [Sl.hp_vac];exact ⟨List.Pairwise.nil,fun x hx=>by cases hx⟩
   ·rw [Sl.hp_vac];grind
 ·have hx:∀ row∈rows,∃ x:α,row=Cel.cs x:=fun row hm=>by
   obtain ⟨i,hi,e⟩:=A3k hm
   exact hrow row (hr i row (by rw [A2i hi,e])).1
  have hxs:∃ xs:List α,rows=xs.map Cel.cs:=by
   clear hr hlen
   induction rows with
   | nil=>simp_all
   | cons r rows ih =>
    obtain ⟨x,rfl⟩:=hx r (.head _)
    obtain ⟨xs,rfl⟩:=ih (fun row hm=>hx row (.tail _ hm))
    exact ⟨x::xs,rfl⟩
  obtain ⟨xs,rfl⟩:=hxs
  have hl:xs.length=len:=by grind
  refine ⟨.view b o false cs U fr xs cap ⟨fun i x hx=> ?_,by omega,by omega⟩,?_,?_,?_⟩
  ·have:=(hr i (Cel.cs x) (by rw [A38,hx];rfl)).2
   rw [hk] at this
   exact this
  ·simp only [Sl.val,Sl.ptr,Sl.list,Sl.cap,hl]
  ·rw [Sl.hp_view];exact hok
  ·rw [Sl.hp_view];grind
theorem Ayv {α:Type} [Cel α] {t e:TypeId} {ks:List Kd} {v:Value} {d:DataW H} {ps:List MemPlace} {b1:Nat} (ht:P.underlying t=some (.slice e)) (hf:Fn P 20 e=some ks) (hk:ks.length=Cel.sz α) (h0:0<ks.length) (hrow:∀ row,Conf ks row→∃ x:α,row=Cel.cs x) (T:TypeId)
  (ho:Value.okWide P w .any base t v) (h:DataW.Trod enc P w b1 spare held t v d ps):∃ s:Sl α,v=s.val∧HpOk (s.hp T) w∧∀ x∈s.hp T,x.2.1=false:=by
 obtain ⟨p,len,c,rfl,hs⟩:=Ago ht hf (okWide_slice ht ho) h
 exact A02 hk h0 hrow T hs
theorem Au1 {row:List Value} (h:Conf [some .i64] row):∃ x:Int,row=Cel.cs x:=by
 obtain ⟨v,rfl⟩:=List.length_eq_one_iff.1 h.len
 obtain ⟨n,rfl,_⟩:=h.1
 exact ⟨n,rfl⟩
theorem row_byte {row:List Value} (h:Conf [some .u8] row):∃ x:By,row=Cel.cs x:=by
 obtain ⟨v,rfl⟩:=List.length_eq_one_iff.1 h.len
 obtain ⟨n,rfl,hw⟩:=h.1
 have hn:0≤n∧n<256:=by simp [Lit.wf,IntKind.min,IntKind.max,IntKind.bits,IntKind.signed] at hw;omega
 have e:(((BitVec.ofInt 8 n).toNat:Nat):Int)=n:=by
  rw [A3o]
  omega
 refine ⟨BitVec.ofInt 8 n,?_⟩
 show [Value.int .u8 n]=[Value.int .u8 ((BitVec.ofInt 8 n).toNat:Int)]
 rw [e]
theorem Ais {f:FuncId} {args:List Value} {L L':Hp} {W:World} (hL:HpOk L W) (hro:∀ x∈L,x.2.1=false) (h:Does P f args L (fun v H=>v= .bool true)) :
  Calls P f args.toArray W fun e W'=>e= .returned (.bool true)∧∃ L L',Trk W W' L L'∧∀ x∈L,x.2.1=false :=
 (h W hL).mono fun e W' ⟨v,L',he,hv,ht⟩=>⟨by rw [he,hv],L,L',ht,hro⟩
end
end
section
open Go.ChangeShapes Go.WideShapes Go.ChangeAt Go.RowKit
def RoOk (w:World) (L:Hp):Prop:=HpOk L w∧∀ x∈L,x.2.1=false
theorem RoOk.nil {w:World}:RoOk w []:=⟨⟨List.Pairwise.nil,fun x hx=>by cases hx⟩,fun x hx=>by cases hx⟩
theorem RoOk.app {w:World} {L M:Hp} (h1:RoOk w L) (h2:RoOk w M):RoOk w (L++M):=by
 refine ⟨⟨List.pairwise_append.2 ⟨h1.1.far,h2.1.far,fun x hx y hy _=>⟨h1.2 x hx,h2.2 y hy⟩⟩,fun x hx=> ?_⟩,fun x hx=> ?_⟩
 ·rcases A49.1 hx with h | h
  ·exact h1.1.here x h
  ·exact h2.1.here x h
 ·rcases A49.1 hx with h | h
  ·exact h1.2 x h
  ·exact h2.2 x h
theorem RoOk.flat {w:World} {α:Type} {M:α→Hp}:∀ {l:List α},(∀ x∈l,RoOk w (M x))→RoOk w (l.flatMap M)
 | [],_=> .nil
 | x::l,h=>by
  rw [A36]
  exact (h x (.head _)).app (RoOk.flat fun y hy=>h y (.tail _ hy))
section
variable {H:Type} {enc:TypeId×Value→H} {P:Program} {w:World} {base:Nat} {spare:Nat→Bool} {held:Bool}
theorem Agq {n len:Nat} {a:Addr} (hn:0<n) (hl:0<len) {row:Nat→List Value} (hrow:∀ i<len,(row i).length=n∧w.cells? base (a.add (i*n)) n=some (row i)) :
  ∃ b o cs T fr,a=⟨b,o,none⟩∧HpOk [(b,false,CF cs T fr)] w∧∀ i<len,cut cs (o+i*n) n=some (row i):=by
 obtain ⟨v0,hv0,_⟩:=cells_get (hrow 0 hl).2 0 hn
 obtain ⟨b,o,sp⟩:=a
 have hsp:sp=none:=by
  cases sp with
  | none=>rfl
  | some s=>simp [World.cell?] at hv0;split at hv0 <;> cases hv0
 subst hsp
 rw [B8,B8] at hv0
 have hblk:∃ cs T fr,w.heap[b]? =some (CF cs T fr):=by
  simp only [World.cell?] at hv0
  split at hv0
  ·rename_i c T fr hh;exact ⟨c.toList,T,fr,by rw [hh];simp [CF]⟩
  ·cases hv0
 obtain ⟨cs,T,fr,hh⟩:=hblk
 refine ⟨b,o,cs,T,fr,rfl,⟨by simp,fun x hx=>by grind⟩,fun i hi=> ?_⟩
 obtain ⟨hlen,hc⟩:=hrow i hi
 have hget:∀ j<n,cs[o+i*n+j]? =(row i)[j]? :=by
  intro j hj'
  obtain ⟨v,h1,h2⟩:=cells_get hc j hj'
  rw [B8,B8,I9 hh,Dk] at h1
  rw [h1,h2]
 refine Aae ?_ ?_
 ·apply A35
  grind
 ·have hlast:=hget (n - 1) (by omega)
  have hsome:∃ v,(row i)[n - 1]? =some v:=⟨(row i)[n - 1]'(by omega),A2i (by omega)⟩
  grind
theorem Aa9 {α:Type} [Cel α] {t e:TypeId} {fuel:Nat} {cs:List Value} {x:DataW H×List MemPlace} (ht:P.underlying t=some (.slice e)) (hn:P.cellsOf e=Cel.sz α) (h0:0<Cel.sz α) (M:α→Hp)
  (hrow:∀ m row y,DataW.trod enc P w base spare held m e row=some y→∃ x:α,row=Cel.cs x∧RoOk w (M x)) (T:TypeId)
  (h:DataW.trod enc P w base spare held fuel t cs=some x):∃ s:Sl α,cs=[s.val]∧RoOk w (s.hp T)∧RoOk w (s.list.flatMap M):=by
 rcases DataW.trod_slice ht h with ⟨rfl,_⟩ | ⟨a,len,cap,elems,rest,n,_,rfl,_,_,hlc,hcap,hel,hi,_⟩
 ·exact ⟨.nil,rfl,by rw [Sl.hp_nil];exact .nil,.nil⟩
 ·rw [hn] at hi
  have hall:∀ i<len,∃ x:α,w.cells? base (a.add (i*Cel.sz α)) (Cel.sz α)=some (Cel.cs x)∧RoOk w (M x):=fun i hil=>by
   have h1:=hi i hil
   rw [A2i (by omega)] at h1
   obtain ⟨row,h2,h3⟩:=Option.bind_eq_some_iff.1 h1
   grind
  by_cases hl0:len=0
  ·subst hl0
   exact ⟨.vac a cap,rfl,by rw [Sl.hp_vac];exact .nil,.nil⟩
  ·have hch:∃ f:Nat→α,∀ i<len,w.cells? base (a.add (i*Cel.sz α)) (Cel.sz α)=some (Cel.cs (f i))∧RoOk w (M (f i)) :=
    ⟨fun i=>if hil:i<len then (hall i hil).choose else (hall 0 (by omega)).choose,fun i hil=>by grind⟩
   obtain ⟨f,hf⟩:=hch
   obtain ⟨b,o,cs,U,fr,rfl,hok,hcut⟩:=Agq (row:=fun i=>Cel.cs (f i)) h0 (by omega) fun i hil=>⟨Cel.len (f i),(hf i hil).1⟩
   have hm:maxLen=9223372036854775807:=rfl
   refine ⟨.view b o false cs U fr ((List.range len).map f) cap ⟨fun i y hy=> ?_,by simp;omega,by simp;omega⟩,?_,?_,?_⟩
   ·rw [A38] at hy
    grind
   ·simp [Sl.val,Sl.ptr,Sl.list,Sl.cap]
   ·rw [Sl.hp_view];exact ⟨hok,fun x hx=>by grind⟩
   ·refine RoOk.flat fun y hy=> ?_
    obtain ⟨i,hi1,rfl⟩:=A53.1 (show y∈(List.range len).map f from hy)
    grind
theorem Apy {α:Type} [Cel α] {t e:TypeId} {v:Value} {d:DataW H} {ps:List MemPlace} {b1:Nat} (ht:P.underlying t=some (.slice e)) (hn:P.cellsOf e=Cel.sz α) (h0:0<Cel.sz α) (M:α→Hp)
  (hrow:∀ m row y,DataW.trod enc P w b1 spare held m e row=some y→∃ x:α,row=Cel.cs x∧RoOk w (M x)) (T:TypeId)
  (ho:Value.okWide P w .any base t v) (h:DataW.Trod enc P w b1 spare held t v d ps):∃ s:Sl α,v=s.val∧RoOk w (s.hp T)∧RoOk w (s.list.flatMap M):=by
 obtain ⟨p,len,c,rfl⟩:=okWide_slice ht ho
 obtain ⟨fuel,hx⟩:=h
 obtain ⟨s,e,r⟩:=Aa9 ht hn h0 M hrow T hx
 have e':[Value.slice p len c]=[s.val]:=e
 grind
theorem Vv {n:Int} (hw:(Lit.int .u64 n).wf=true):∃ x:BitVec 64,Value.int .u64 n= .int .u64 (x.toNat:Int):=by
 have hn:0≤n∧n<18446744073709551616:=by simp [Lit.wf,IntKind.min,IntKind.max,IntKind.bits,IntKind.signed] at hw;omega
 refine ⟨BitVec.ofInt 64 n,?_⟩
 have e:(((BitVec.ofInt 64 n).toNat:Nat):Int)=n:=by
  rw [A3o]
  omega
 rw [e]
theorem Ale {fuel:Nat} {t:TypeId} {cs:List Value} {x:DataW H×List MemPlace} (ht:P.underlying t=some (.int .u8)) (h:DataW.trod enc P w base spare held fuel t cs=some x):∃ y:By,cs=Cel.cs y:=by
 obtain ⟨n,rfl,_,hw⟩:=A5q ht h
 exact row_byte ⟨⟨n,rfl,hw⟩,trivial⟩
end
end
end Go.K
namespace Go.Proofs.YtpmojdippdlcaaaGreatDoor
section
open Go.K
abbrev w64 (x:Int):Int:=IntKind.i64.wrap x
theorem Q5 {p:By→Prop} [DecidablePred p] (h:∀ i<256,p (BitVec.ofNat 8 i)):∀ x,p x:=fun x=>by
 have:=h x.toNat x.isLt
 grind
def Hj (x:By):Nat:=(List.range 8).countP fun i=>x.getLsbD i
def Q6 (x:By):Nat:=((List.range 8).find? fun i=>x.getLsbD i).getD 8
def Ajj (x:By):Nat:=8 - ((List.range 8).find? fun i=>x.getLsbD (7 - i)).getD 8
def A1k:ByteArray:=⟨#[0,1,1,2,1,2,2,3,1,2,2,3,2,3,3,4,1,2,2,3,2,3,3,4,2,3,3,4,3,4,4,5,1,2,2,3,2,3,3,4,2,3,3,4,3,4,4,5,2,3,3,4,3,4,4,5,3,4,4,5,4,5,5,6,1,2,2,3,2,3,3,4,2,3,3,4,3,4,4,5,2,3,3,4,3,4,4,5,3,4,4,5,4,5,5,6,2,3,3,4,3,4,4,5,3,4,4,5,4,5,5,6,3,4,4,5,4,5,5,6,4,5,5,6,5,6,6,7,1,2,2,3,2,3,3,4,2,3,3,4,3,4,4,5,2,3,3,4,3,4,4,5,3,4,4,5,4,5,5,6,2,3,3,4,3,4,4,5,3,4,4,5,4,5,5,6,3,4,4,5,4,5,5,6,4,5,5,6,5,6,6,7,2,3,3,4,3,4,4,5,3,4,4,5,4,5,5,6,3,4,4,5,4,5,5,6,4,5,5,6,5,6,6,7,3,4,4,5,4,5,5,6,4,5,5,6,5,6,6,7,4,5,5,6,5,6,6,7,5,6,6,7,6,7,7,8]⟩
def A1l:ByteArray:=⟨#[8,0,1,0,2,0,1,0,3,0,1,0,2,0,1,0,4,0,1,0,2,0,1,0,3,0,1,0,2,0,1,0,5,0,1,0,2,0,1,0,3,0,1,0,2,0,1,0,4,0,1,0,2,0,1,0,3,0,1,0,2,0,1,0,6,0,1,0,2,0,1,0,3,0,1,0,2,0,1,0,4,0,1,0,2,0,1,0,3,0,1,0,2,0,1,0,5,0,1,0,2,0,1,0,3,0,1,0,2,0,1,0,4,0,1,0,2,0,1,0,3,0,1,0,2,0,1,0,7,0,1,0,2,0,1,0,3,0,1,0,2,0,1,0,4,0,1,0,2,0,1,0,3,0,1,0,2,0,1,0,5,0,1,0,2,0,1,0,3,0,1,0,2,0,1,0,4,0,1,0,2,0,1,0,3,0,1,0,2,0,1,0,6,0,1,0,2,0,1,0,3,0,1,0,2,0,1,0,4,0,1,0,2,0,1,0,3,0,1,0,2,0,1,0,5,0,1,0,2,0,1,0,3,0,1,0,2,0,1,0,4,0,1,0,2,0,1,0,3,0,1,0,2,0,1,0]⟩
def A1m:ByteArray:=⟨#[0,1,2,2,3,3,3,3,4,4,4,4,4,4,4,4,5,5,5,5,5,5,5,5,5,5,5,5,5,5,5,5,6,6,6,6,6,6,6,6,6,6,6,6,6,6,6,6,6,6,6,6,6,6,6,6,6,6,6,6,6,6,6,6,7,7,7,7,7,7,7,7,7,7,7,7,7,7,7,7,7,7,7,7,7,7,7,7,7,7,7,7,7,7,7,7,7,7,7,7,7,7,7,7,7,7,7,7,7,7,7,7,7,7,7,7,7,7,7,7,7,7,7,7,7,7,7,7,8,8,8,8,8,8,8,8,8,8,8,8,8,8,8,8,8,8,8,8,8,8,8,8,8,8,8,8,8,8,8,8,8,8,8,8,8,8,8,8,8,8,8,8,8,8,8,8,8,8,8,8,8,8,8,8,8,8,8,8,8,8,8,8,8,8,8,8,8,8,8,8,8,8,8,8,8,8,8,8,8,8,8,8,8,8,8,8,8,8,8,8,8,8,8,8,8,8,8,8,8,8,8,8,8,8,8,8,8,8,8,8,8,8,8,8,8,8,8,8,8,8,8,8,8,8,8,8]⟩
theorem Zs:∀ x:By,A1k[((x.toNat:Int)).toNat]? =some (UInt8.ofNat (Hj x)):=Q5 (by decide +kernel)
theorem Asq:∀ x:By,A1l[((x.toNat:Int)).toNat]? =some (UInt8.ofNat (Q6 x)):=Q5 (by decide +kernel)
theorem Ahg:∀ x:By,A1m[((x.toNat:Int)).toNat]? =some (UInt8.ofNat (Ajj x)):=Q5 (by decide +kernel)
theorem Asr:∀ x:By,IntKind.i64.wrap ((UInt8.ofNat (Hj x)).toNat:Int)=Hj x:=Q5 (by decide +kernel)
theorem Ass:∀ x:By,IntKind.i64.wrap ((UInt8.ofNat (Q6 x)).toNat:Int)=Q6 x:=Q5 (by decide +kernel)
theorem Ahh:∀ x:By,IntKind.i64.wrap ((UInt8.ofNat (Ajj x)).toNat:Int)=Ajj x:=Q5 (by decide +kernel)
theorem Ahi (x:By):IntKind.u8.wrap (x.toNat:Int)=x.toNat:=by
 have:=x.isLt
 simp [IntKind.wrap,IntKind.signed,IntKind.bits];omega
theorem O7 (x:By):BitVec.ofInt 8 (x.toNat:Int)=x:=by simp
theorem Ami (x y:By):Em .and .u8 x.toNat y.toNat=((x &&& y).toNat:Int):=by
 show IntKind.u8.wrap (((BitVec.ofInt 8 (x.toNat:Int)) &&& (BitVec.ofInt 8 (y.toNat:Int))).toNat:Int)=_
 rw [O7,O7,Ahi]
theorem Axh (x y:By):Em .xor .u8 x.toNat y.toNat=((x ^^^ y).toNat:Int):=by
 show IntKind.u8.wrap (((BitVec.ofInt 8 (x.toNat:Int)) ^^^ (BitVec.ofInt 8 (y.toNat:Int))).toNat:Int)=_
 rw [O7,O7,Ahi]
def at0 (xs:List Int) (i:Int):Int:=xs.getD i.toNat 0
def idx (xs:List Int) (v:Int):Int:=match xs.findIdx? (· == v) with | some k=>k | none=> -1
theorem Axi {xs:List Int} {v:Int} (i:Int) (h0:0≤i) (h1:i<xs.length) (hn:∀ k:Int,0≤k→k<i→at0 xs k≠v) (he:at0 xs i=v):idx xs v=i:=by
 have:xs.findIdx? (· == v)=some i.toNat:=by
  rw [List.findIdx?_eq_some_iff_getElem]
  refine ⟨by omega,?_,?_⟩
  ·simpa [at0,A18,show i.toNat<xs.length by omega] using he
  ·intro j hj
   have:=hn j (by omega) (by omega)
   simpa [at0,A18,show j<xs.length by omega] using this
 simp [idx,this];omega
theorem Amj {xs:List Int} {v:Int} (hn:∀ k:Int,0≤k→k<xs.length→at0 xs k≠v):idx xs v= -1:=by
 have:xs.findIdx? (· == v)=none:=by
  rw [List.findIdx?_eq_none_iff]
  intro x hx
  obtain ⟨k,hk,rfl⟩:=A3k hx
  have:=hn k (by omega) (by omega)
  simpa [at0,A18,hk] using this
 simp [idx,this]
theorem Ab1 {p:Int→Prop} {i:Int} (h:∀ k:Int,0≤k→k<i→p k) (hi:p i):∀ k:Int,0≤k→k<i+1→p k:=by
 grind
def E8 (xs:List Int) (v:Int):Bool:=decide (0≤idx xs v)
theorem Io {xs:List Int} {i:Int} (h0:0≤i) (h1:i<xs.length):xs[i.toNat]? =some (at0 xs i):=by
 have:i.toNat<xs.length:=by omega
 simp [at0,A18,this]
end
section
open Go.K
def vbc {n:Nat} (p:Vector By n):List Value:=p.toList.map bv
section
variable {n:Nat} {p:Vector By n}
theorem Ai:(vbc p).length=n:=by simp [vbc]
theorem Ax:cut (vbc p) 0 n=some (vbc p):=by have:=Kh (vbc p);rwa [Ai] at this
theorem B9:Ih (.agg (vbc p).toArray)=some (vbc p):=by
 have:(vbc p).all (·.oneCell')=true:=A4l.2 fun x hx=>by
  obtain ⟨y,_,rfl⟩:=A53.1 hx;rfl
 simp [Ih,this]
theorem Bi {cs:List Value} (h:cs.length=n):A7 cs 0 (vbc p)=some (vbc p):=G1 (by rw [Ai,h])
theorem Ft {i:Nat} (h:i<n):nth (vbc p) i=some (bv p[i]):=by
 unfold vbc
 rw [Aab]
 simp [h]
theorem Af7 {n:Nat} (p:Vector By n) (i:Nat) (y:By) (h:i<n):(p.set i y).toList=p.toList.set i y:=by
 apply A4o
 ·simp
 grind
theorem Lr {i:Nat} (h:i<n) (y:By):A7 (vbc p) i [bv y]=some (vbc (p.set i y)):=by
 have:=Oi (g:=bv) (l:=p.toList) (y:=y) (i:=i) (by simpa using h)
 have e:(p.set i y).toList=p.toList.set i y:=Af7 p i y h
 rw [vbc,this,vbc,e]
end
abbrev Pg:=Vector By 258
def Aq:Pg:=Vector.replicate 258 255#8
def L3 (i:Nat):Pg:=Vector.ofFn fun j=>if j.val<i then 255#8 else 0#8
theorem Auc:List.replicate 258 (Value.int .u8 0)=vbc (L3 0):=by kernel_rfl
theorem Akw:L3 258=Aq:=by
 apply A6l
 intro i hi
 simp [L3,Aq,hi]
theorem Af8 {i:Nat} (h:i<258):A7 (vbc (L3 i)) i [.int .u8 255]=some (vbc (L3 (i+1))):=by
 have h1:=Lr (p:=L3 i) h 255#8
 have h2:(L3 i).set i 255#8=L3 (i+1):=by
  apply A6l
  intro j hj
  rw [Vector.getElem_set]
  by_cases hij:i=j
  ·subst hij;simp [L3]
  ·have:(j<i)↔(j<i+1):=by omega
   simp [hij,L3,this]
 rw [h2] at h1
 exact h1
structure Blk where
 pages:Vector Pg 8
 next:Int
 bad:Bool
def Tc (v:Vector Pg 8):List Value:=v.toList.flatMap vbc
def Ru (b:Blk):List Value:=Tc b.pages++[.int .i64 b.next,.bool b.bad]
def Eb (l:List Blk):List Value:=l.flatMap Ru
theorem Kt (v:Vector Pg 8):(Tc v).length=2064:=by
 have:=Nh (f:=vbc) (n:=258) v.toList (fun x _=>Ai)
 rw [Tc,this];simp
theorem Ic (b:Blk):(Ru b).length=2066:=by simp [Ru,Kt]
structure Chip where
 off:Bool
 after:Int
 keep:Int
 blocks:List Blk
 dead:Bool
 out:Bool
 pc:Int
 wc:Int
 count:Int
 aP:Nat
 aC:Nat
 aB:Nat
 pf:Sl Int
 wf:Sl Int
abbrev pwc (c:Chip):List Value:=[.bool c.off,.int .i64 c.after,.int .i64 c.keep]
abbrev chc (c:Chip):List Value :=
 [.pointer (some ⟨c.aP,0,none⟩),.slice (some ⟨c.aB,0,none⟩) c.blocks.length c.blocks.length,.bool c.dead,.bool c.out,c.pf.val,.int .i64 c.pc,c.wf.val,.int .i64 c.wc,.int .i64 c.count]
def Ey (c:Chip) (i:Int):Bool:=decide (0≤i) && decide (i<c.blocks.length)
def B0 (c:Chip) (i j:Int):Int:=if c.off=true then 30 else if (!(!c.dead && !c.out))=true then 31 else if ((!Ey c i || decide (j<0)) || decide (8≤j))=true then 1 else 0
def Ku:Pg:=Vector.replicate 258 0#8
theorem Cc:List.replicate 258 (Value.int .u8 0)=vbc Ku:=by kernel_rfl
def Rv (c:Chip) (i j:Int):Pg:=match c.blocks[i.toNat]? with | some b=>b.pages.toList.getD j.toNat Ku | none=>Ku
def B3 (c:Chip) (i j:Int):Pg:=if B0 c i j=0 then Rv c i j else Ku
theorem Aaq {c:Chip} {i j:Int} (h:B0 c i j=0):0≤i∧i<c.blocks.length∧0≤j∧j<8∧c.off=false∧c.dead=false∧c.out=false:=by
 unfold B0 Ey at h
 grind
theorem Ao1 {c:Chip} {i j:Int} (h0:0≤i) (h1:i<c.blocks.length) (h2:0≤j) (h3:j<8):cut (Eb c.blocks) (i.toNat*2066+j.toNat*258) 258=some (vbc (Rv c i j)):=by
 have hi:i.toNat<c.blocks.length:=by omega
 have hb:c.blocks[i.toNat]? =some c.blocks[i.toNat]:=A2i hi
 have hj:j.toNat<c.blocks[i.toNat].pages.toList.length:=by simp;omega
 have hp:c.blocks[i.toNat].pages.toList[j.toNat]? =some (Rv c i j):=by
  unfold Rv
  rw [hb]
  grind
 refine Pj (fun b _=>Ic b) hb ?_
 refine Uq ?_ _
 have:=Pj (f:=vbc) (n:=258) (o:=0) (m:=258) (fun x _=>Ai) hp Ax
 rw [A56] at this;exact this
def Fo (c:Chip):Chip:={ c with off:=if c.after<0 then c.off else decide (c.after=0),after:=if c.after<0 then c.after else w64 (c.after - 1) }
theorem Aud {c:Chip} (h:c.after<0):pwc (Fo c)=pwc c:=by simp [pwc,Fo,h]
theorem Aue {c:Chip} (h:0≤c.after):pwc (Fo c)=[.bool (decide (c.after=0)),.int .i64 (w64 (c.after - 1)),.int .i64 c.keep]:=by
 have:¬ c.after<0:=by omega
 simp [pwc,Fo,this]
def Ei (c:Chip):Bool:=if c.after<0 then false else decide (c.after=0)
def Cn (m:Nat) (p d:Pg):Pg:=Vector.ofFn fun j=>if j.val<m then p[j] &&& d[j] else p[j]
theorem Ayn (p d:Pg):Cn 0 p d=p:=by
 apply A6l;intro j hj;simp [Cn]
theorem Akx {m:Nat} (h:m<258) (p d:Pg):(Cn m p d).set m (p[m] &&& d[m])=Cn (m+1) p d:=by
 apply A6l
 intro j hj
 rw [Vector.getElem_set]
 by_cases hij:m=j
 ·subst hij;simp [Cn]
 ·have:(j<m)↔(j<m+1):=by omega
  simp [hij,Cn,this]
theorem Auf {m:Nat} (h:m<258) (p d:Pg):(Cn m p d)[m]=p[m]:=by simp [Cn]
def Jc (b:Blk) (i:Nat) (p:Pg):Blk:={ b with pages:=b.pages.setIfInBounds i p }
theorem Adi {b:Blk} {i:Nat} (hi:i<8):b.pages.toList[i]? =some b.pages[i]:=by
 rw [A2i (by grind)];simp
theorem Aar (b:Blk) {i:Nat} (hi:i<8) (p:Pg):(Jc b i p).pages.toList=b.pages.toList.set i p:=by
 apply A4o
 ·simp [Jc]
 ·intro j h1 h2
  simp [Jc,A13,List.getElem_set]
theorem row_byte {l:List Blk} {k i j:Nat} {b:Blk} (hk:l[k]? =some b) (hi:i<8) (hj:j<258):nth (Eb l) (k*2066+(i*258+j))=some (bv b.pages[i][j]):=by
 rw [Eb,Lf (n:=2066) (fun b _=>Ic b) hk (by omega),Ru,Pk (by rw [Kt];omega),Tc,Lf (n:=258) (fun x _=>Ai) (Adi hi) hj,Ft hj]
theorem Ys {l:List Blk} {k i o:Nat} {b:Blk} {vs:List Value} {q:Pg} (hk:l[k]? =some b) (hi:i<8) (hs:A7 (vbc b.pages[i]) o vs=some (vbc q)):A7 (Eb l) (k*2066+(i*258+o)) vs=some (Eb (l.set k (Jc b i q))):=by
 refine Gb (f:=Ru) (n:=2066) (fun b _=>Ic b) hk ?_
 have h1:A7 (Tc b.pages) (i*258+o) vs=some (Tc (Jc b i q).pages):=by
  rw [Tc,Tc,Aar b hi q]
  exact Gb (f:=vbc) (n:=258) (fun x _=>Ai) (Adi hi) hs
 exact Jl h1 _
def A8 (n m:Int):Nat:=(min (max n 0) m).toNat
def wrB (b:Blk) (i m:Nat) (d:Pg) (hi:i<8):Blk:=Jc b i (Cn m b.pages[i] d)
theorem A0v (b:Blk) (i:Nat) (d:Pg) (hi:i<8):wrB b i 0 d hi=b:=by
 unfold wrB Jc
 rw [Ayn]
 have:b.pages.setIfInBounds i b.pages[i]=b.pages:=by
  grind
 rw [this]
theorem A0w {l:List Blk} {k i j:Nat} {b:Blk} {d:Pg} (hk:l[k]? =some b) (hi:i<8) (hj:j<258):nth (Eb (l.set k (wrB b i j d hi))) (k*2066+(i*258+j))=some (bv b.pages[i][j]):=by
 have hkl:=(List.getElem?_eq_some_iff.1 hk).1
 have h2:(l.set k (wrB b i j d hi))[k]? =some (wrB b i j d hi):=by simp [hkl]
 rw [row_byte h2 hi hj]
 have:(wrB b i j d hi).pages[i]=Cn j b.pages[i] d:=by simp [wrB,Jc]
 rw [this,Auf hj]
theorem Aug {l:List Blk} {k i j:Nat} {b:Blk} {d:Pg} (hk:l[k]? =some b) (hi:i<8) (hj:j<258):A7 (Eb (l.set k (wrB b i j d hi))) (k*2066+(i*258+j)) [bv (b.pages[i][j] &&& d[j])]=some (Eb (l.set k (wrB b i (j+1) d hi))):=by
 have hkl:=(List.getElem?_eq_some_iff.1 hk).1
 have h2:(l.set k (wrB b i j d hi))[k]? =some (wrB b i j d hi):=by simp [hkl]
 have h3:(wrB b i j d hi).pages[i]=Cn j b.pages[i] d:=by simp [wrB,Jc]
 have h4:=Ys (o:=j) (vs:=[bv (b.pages[i][j] &&& d[j])]) (q:=Cn (j+1) b.pages[i] d) h2 hi (by rw [h3,← Akx hj];exact Lr hj _)
 rw [h4]
 simp [wrB,Jc]
def D3 (b:Blk) (m:Nat):Blk:={ b with pages:=Vector.ofFn fun j=>if j.val<m then Aq else b.pages[j] }
theorem Auh (b:Blk):D3 b 0=b:=by
 unfold D3
 have:(Vector.ofFn fun j:Fin 8=>if j.val<0 then Aq else b.pages[j])=b.pages:=by
  grind
 rw [this]
theorem Af9 (b:Blk) {m:Nat} (h:m<8):Jc (D3 b m) m Aq=D3 b (m+1):=by
 unfold D3 Jc
 congr 1
 apply A6l
 grind
theorem Aky {l:List Blk} {k j:Nat} {b:Blk} (hk:l[k]? =some b) (hj:j<8):A7 (Eb (l.set k (D3 b j))) (k*2066+(j*258+0)) (vbc Aq)=some (Eb (l.set k (D3 b (j+1)))):=by
 have hkl:=(List.getElem?_eq_some_iff.1 hk).1
 have h2:(l.set k (D3 b j))[k]? =some (D3 b j):=by simp [hkl]
 have h4:=Ys (o:=0) (vs:=vbc Aq) (q:=Aq) h2 hj (Bi Ai)
 rw [h4,Af9 b hj]
 simp
theorem Adj {l:List Blk} {k:Nat} {b:Blk} (hk:l[k]? =some b):nth (Eb l) (k*2066+2064)=some (.int .i64 b.next):=by
 rw [Eb,Lf (n:=2066) (fun b _=>Ic b) hk (by omega),Ru]
 have:=Hn (b:=Tc b.pages) (d:=[.int .i64 b.next,.bool b.bad]) (o:=0)
 rw [Kt] at this
 exact this
theorem Aas {l:List Blk} {k:Nat} {b:Blk} (hk:l[k]? =some b):nth (Eb l) (k*2066+2065)=some (.bool b.bad):=by
 rw [Eb,Lf (n:=2066) (fun b _=>Ic b) hk (by omega),Ru]
 have:=Hn (b:=Tc b.pages) (d:=[.int .i64 b.next,.bool b.bad]) (o:=1)
 rw [Kt] at this
 exact this
theorem Mz {l:List Blk} {k:Nat} {b:Blk} (n:Int) (hk:l[k]? =some b):A7 (Eb l) (k*2066+2064) [.int .i64 n]=some (Eb (l.set k { b with next:=n })):=by
 refine Gb (f:=Ru) (n:=2066) (fun b _=>Ic b) hk ?_
 have:=D8 (a:=Tc b.pages) (d:=[.int .i64 b.next,.bool b.bad]) (o:=0) (c:=[.int .i64 n]) (r:=[.int .i64 n,.bool b.bad]) rfl
 rw [Kt] at this
 exact this
theorem Aga {l:List Blk} {k:Nat} {b:Blk} (v:Bool) (hk:l[k]? =some b):A7 (Eb l) (k*2066+2065) [.bool v]=some (Eb (l.set k { b with bad:=v })):=by
 refine Gb (f:=Ru) (n:=2066) (fun b _=>Ic b) hk ?_
 have:=D8 (a:=Tc b.pages) (d:=[.int .i64 b.next,.bool b.bad]) (o:=1) (c:=[.bool v]) (r:=[.int .i64 b.next,.bool v]) rfl
 rw [Kt] at this
 exact this
theorem Adk {c:Chip} {i:Int} (h:Ey c i=true):0≤i∧i<c.blocks.length:=by
 unfold Ey at h;grind
theorem Akz {c:Chip} {i:Int} (h:Ey c i=true):∃ b,c.blocks[i.toNat]? =some b:=by
 have:=Adk h
 simp_all
def Yt (c:Chip) (i:Int):Bool:=match c.blocks[i.toNat]? with | some b=>b.bad | none=>false
theorem Ayo {c:Chip} {i:Int} (h:Ey c i=true):nth (Eb c.blocks) (i.toNat*2066+2065)=some (.bool (Yt c i)):=by
 obtain ⟨b,hb⟩:=Akz h
 rw [Aas hb,Yt,hb]
def Td (c:Chip):Chip:={ c with pc:=w64 (c.pc+1) }
def L4 (c:Chip):Bool:=E8 c.pf.list (w64 (w64 (c.pc+1) - 1))
def Aat (c:Chip):Chip:={ c with wc:=w64 (c.wc+1) }
def Sx (c:Chip):Bool:=E8 c.wf.list (w64 (w64 (c.wc+1) - 1))
def cnt (c:Chip):Chip:={ c with count:=w64 (c.count+1) }
def setB (c:Chip) (i:Nat) (b:Blk):Chip:={ c with blocks:=c.blocks.set i b }
def Bl (c:Chip) (i j:Int) (d:Pg):Int×Chip :=
 if B0 c i j=0 then
  match c.blocks[i.toNat]? with
  | none=>(1,c)
  | some b =>
   if j=b.next then
    let b1:Blk:={ b with next:=w64 (b.next+1) }
    let c1:Chip:=Fo (Td (cnt c))
    let wr (m:Nat):Chip:=setB c1 i.toNat (if h:j.toNat<8 then wrB b1 j.toNat m d h else b1)
    if Ei c=true then (30,wr (A8 c.keep 258)) else if (L4 c || b.bad)=true then (33,wr 129) else (0,wr 258)
   else (32,c)
 else (B0 c i j,c)
def Bm (c:Chip) (i:Int):Int×Chip :=
 if B0 c i 0=0 then
  match c.blocks[i.toNat]? with
  | none=>(1,c)
  | some b =>
   let b1:Blk:={ b with next:=8 }
   let c1:Chip:=Fo (Aat (cnt c))
   if Ei c=true then (30,setB c1 i.toNat (D3 b1 (A8 c.keep 8))) else if (Sx c || b.bad)=true then (33,setB c1 i.toNat b1) else (0,setB c1 i.toNat { D3 b1 8 with next:=0 })
 else (B0 c i 0,c)
def L5:Blk:=⟨Vector.replicate 8 Ku,0,false⟩
theorem Ao2:List.replicate 2064 (Value.int .u8 0)++[.int .i64 0,.bool false]=Ru L5:=by kernel_rfl
theorem Ao3 (n:Nat):Gd n (Ru L5)=Eb (List.replicate n L5):=by
 induction n with
 | zero=>rfl
 | succ n ih=>simp only [Gd,ih,List.replicate_succ,Eb,A36]
def Hf (bad:Bool):Blk:=⟨Vector.replicate 8 Aq,0,bad⟩
def Gr (n:Nat) (bad:List Int) (i:Nat):List Blk:=(List.range n).map fun j=>if j<i then Hf (E8 bad j) else L5
theorem Aui (n:Nat) (bad:List Int):Gr n bad 0=List.replicate n L5:=by
 apply A4o
 ·simp [Gr]
 ·intro j h1 h2;simp [Gr]
theorem Rw (n:Nat) (bad:List Int) (i:Nat):(Gr n bad i).length=n:=by simp [Gr]
theorem Ao4 {n i:Nat} (bad:List Int) (h:i<n):(Gr n bad i)[i]? =some L5:=by simp [Gr,h]
theorem Agb {n i:Nat} (bad:List Int) (h:i<n):(Gr n bad i).set i (Hf (E8 bad i))=Gr n bad (i+1):=by
 apply A4o
 ·simp [Gr]
 ·intro j h1 h2
  rw [List.getElem_set]
  by_cases hij:i=j
  ·subst hij;simp [Gr]
  ·have:(j<i)↔(j<i+1):=by omega
   simp [hij,Gr,this]
theorem Ak0 (b:Bool):D3 { L5 with bad:=b } 8=Hf b:=by
 unfold D3 Hf L5
 congr 1
def Js (n:Int) (bad:List Int):Bool:= !(decide (n<16) || decide (40<n)) && bad.all fun x=>decide (0≤x) && decide (x<n)
def P7 (off:Bool) (after keep:Int) (aP aC aB:Nat) (n:Nat) (bad:List Int):Chip:=⟨off,after,keep,Gr n bad n,false,false,0,0,0,aP,aC,aB,.nil,.nil⟩
def Agc (xs:List Int) (p:Int→Bool):Int:=match xs.findIdx? p with | some k=>k | none=> -1
theorem Auj {xs:List Int} {p:Int→Bool} (i:Int) (h0:0≤i) (h1:i<xs.length) (hn:∀ k:Int,0≤k→k<i→p (at0 xs k)=false) (he:p (at0 xs i)=true):Agc xs p=i:=by
 have:xs.findIdx? p=some i.toNat:=by
  rw [List.findIdx?_eq_some_iff_getElem]
  refine ⟨by omega,?_,?_⟩
  ·simpa [at0,A18,show i.toNat<xs.length by omega] using he
  ·intro j hj
   have:=hn j (by omega) (by omega)
   simpa [at0,A18,show j<xs.length by omega] using this
 simp [Agc,this];omega
theorem Ak1 {xs:List Int} {p:Int→Bool} (hn:∀ k:Int,0≤k→k<xs.length→p (at0 xs k)=false):Agc xs p= -1:=by
 have:xs.findIdx? p=none:=by
  rw [List.findIdx?_eq_none_iff]
  intro x hx
  obtain ⟨k,hk,rfl⟩:=A3k hx
  have:=hn k (by omega) (by omega)
  simpa [at0,A18,hk] using this
 simp [Agc,this]
theorem Vg (xs:List Int) (p:Int→Bool):decide (0≤Agc xs p)=xs.any p:=by
 unfold Agc
 grind
theorem Adl {c:Chip} {i j:Int} {d:Pg} (h:¬ B0 c i j=0):Bl c i j d=(B0 c i j,c):=by unfold Bl;rw [A6u h]
theorem Vh {c:Chip} {i j:Int} {d:Pg} {b:Blk} (h:B0 c i j=0) (hb:c.blocks[i.toNat]? =some b) (hn:¬ j=b.next):Bl c i j d=(32,c):=by
 unfold Bl;rw [A6v h,hb];grind
def wrC (c:Chip) (i j:Int) (d:Pg) (b:Blk) (m:Nat) (h:j.toNat<8):Chip:=setB (Fo (Td (cnt c))) i.toNat (wrB { b with next:=w64 (b.next+1) } j.toNat m d h)
theorem Yu {c:Chip} {i j:Int} {d:Pg} {b:Blk} (h:B0 c i j=0) (h8:j.toNat<8) (hb:c.blocks[i.toNat]? =some b) (hn:j=b.next) (he:Ei c=true):Bl c i j d=(30,wrC c i j d b (A8 c.keep 258) h8):=by
 unfold Bl;rw [A6v h,hb];simp only [];rw [A6v hn,A6v he,A6t h8];rfl
theorem Yv {c:Chip} {i j:Int} {d:Pg} {b:Blk} (h:B0 c i j=0) (h8:j.toNat<8) (hb:c.blocks[i.toNat]? =some b) (hn:j=b.next) (he:Ei c=false) (hf:(L4 c || b.bad)=true):Bl c i j d=(33,wrC c i j d b 129 h8):=by
 unfold Bl;rw [A6v h,hb];simp only [];rw [A6v hn,A6u (by rw [he];grind),A6v hf,A6t h8];rfl
theorem Aau {c:Chip} {i j:Int} {d:Pg} {b:Blk} (h:B0 c i j=0) (h8:j.toNat<8) (hb:c.blocks[i.toNat]? =some b) (hn:j=b.next) (he:Ei c=false) (hf:(L4 c || b.bad)=false):Bl c i j d=(0,wrC c i j d b 258 h8):=by
 unfold Bl;rw [A6v h,hb];simp only [];rw [A6v hn,A6u (by rw [he];grind),A6u (by rw [hf];grind),A6t h8];rfl
theorem Ak2 {c:Chip} {i:Int} (h:¬ B0 c i 0=0):Bm c i=(B0 c i 0,c):=by unfold Bm;rw [A6u h]
theorem Vi {c:Chip} {i:Int} {b:Blk} (h:B0 c i 0=0) (hb:c.blocks[i.toNat]? =some b) (he:Ei c=true):Bm c i=(30,setB (Fo (Aat (cnt c))) i.toNat (D3 { b with next:=8 } (A8 c.keep 8))):=by
 unfold Bm;rw [A6v h,hb];grind
theorem Vj {c:Chip} {i:Int} {b:Blk} (h:B0 c i 0=0) (hb:c.blocks[i.toNat]? =some b) (he:Ei c=false) (hf:(Sx c || b.bad)=true):Bm c i=(33,setB (Fo (Aat (cnt c))) i.toNat { b with next:=8 }):=by
 unfold Bm;rw [A6v h,hb];grind
theorem Adm {c:Chip} {i:Int} {b:Blk} (h:B0 c i 0=0) (hb:c.blocks[i.toNat]? =some b) (he:Ei c=false) (hf:(Sx c || b.bad)=false):Bm c i=(0,setB (Fo (Aat (cnt c))) i.toNat { D3 { b with next:=8 } 8 with next:=0 }):=by
 unfold Bm;rw [A6v h,hb];grind
end
section
open Go.K
def Nc:Nat→Nat→Nat→Nat
 | 0,p,_=>p
 | f+1,p,s=>if s≤p then Nc f (p+1) (s*2) else p
def Of (i:Nat):Nat:=Nc 13 (i+1) 1
def Mk (b:By):List Nat:=(List.range 8).filter fun k=>b.getLsbD k
theorem Aj5:∀ b:By,b≠0→Mk b=Q6 b::Mk (b &&& (b - 1))∧Q6 b<8:=Q5 (by decide +kernel)
theorem Aj6:Mk 0=[]:=by decide +kernel
theorem Aj7:∀ b:By,b≠0→(b &&& (b - 1)).toNat<b.toNat:=Q5 (by decide +kernel)
def Aci (i:Nat) (l:List Nat) (s:Nat):Nat:=l.foldl (fun s k=>s ^^^ Of (8*i+k)) s
def Gv (n:Nat):Nat:=Hj (BitVec.ofNat 8 (n / 256))+Hj (BitVec.ofNat 8 (n % 256))
theorem Lc:∀ x:By,Hj x≤8:=Q5 (by decide +kernel)
theorem Ahs:∀ x:By,(UInt8.ofNat (Hj x)).toNat=Hj x:=Q5 (by decide +kernel)
def Tb (x:Nat):Nat:=((List.range 17).find? fun i=>decide (x<2 ^ i)).getD 17
def A1n (x:Int):Int :=
 let a:=IntKind.u64.wrap (Em .and .u64 (x.fdiv (2 ^ (min (1:Int).toNat IntKind.u64.bits))) 6148914691236517205+Em .and .u64 x 6148914691236517205)
 let b:=IntKind.u64.wrap (Em .and .u64 (a.fdiv (2 ^ (min (2:Int).toNat IntKind.u64.bits))) 3689348814741910323+Em .and .u64 a 3689348814741910323)
 let c:=Em .and .u64 (IntKind.u64.wrap (b.fdiv (2 ^ (min (4:Int).toNat IntKind.u64.bits))+b)) 1085102592571150095
 let d:=IntKind.u64.wrap (c+c.fdiv (2 ^ (min (8:Int).toNat IntKind.u64.bits)))
 let e:=IntKind.u64.wrap (d+d.fdiv (2 ^ (min (16:Int).toNat IntKind.u64.bits)))
 let f:=IntKind.u64.wrap (e+e.fdiv (2 ^ (min (32:Int).toNat IntKind.u64.bits)))
 Em .and .i64 (IntKind.i64.wrap f) 127
theorem Acj {p:Nat→Prop} (h:∀ a<64,∀ b<64,p (64*a+b)):∀ s<4096,p s:=fun s hs=>by
 have:=h (s / 64) (by omega) (s % 64) (by omega)
 rwa [Nat.div_add_mod] at this
theorem Atk:∀ s<4096,A1n (s:Nat)=(Gv s:Nat):=Acj (by decide +kernel)
theorem Axz:∀ s<256,Ajj (BitVec.ofNat 8 s)=Tb s:=by decide +kernel
theorem Ax0:∀ s<4096,256≤s→8+Ajj (BitVec.ofNat 8 (s / 256))=Tb s:=Acj (by decide +kernel)
theorem Ack:∀ i<2048,Of i<4096:=by decide +kernel
theorem Ano:∀ s<4096,Em .and .i64 (s:Nat) ((s:Nat) - 1)=((s &&& (s - 1):Nat):Int):=Acj (by decide +kernel)
theorem Ax1:∀ s<4096,¬ s &&& (s - 1)=0→Tb s+1≤s:=Acj (by decide +kernel)
theorem A0f:∀ k<8,IntKind.u8.wrap (1*2 ^ (min ((k:Nat):Int).toNat IntKind.u8.bits))=((1#8 <<< k).toNat:Int):=by decide +kernel
theorem Aht:∀ x:By,Ajj x≤8:=Q5 (by decide +kernel)
theorem Z6 (n:Nat):Gv n≤16:=by
 have:=Lc (BitVec.ofNat 8 (n / 256))
 have:=Lc (BitVec.ofNat 8 (n % 256))
 unfold Gv;omega
end
section
open Go.K
theorem Ej (k:IntKind) (hk:k.signed=false) (i:Int):k.wrap i=((BitVec.ofInt k.bits i).toNat:Int):=by
 have h:(2:Int) ^ k.bits=((2 ^ k.bits:Nat):Int):=by grind
 have hp:(0:Int)<((2 ^ k.bits:Nat):Int):=by exact_mod_cast Nat.two_pow_pos k.bits
 simp only [IntKind.wrap,hk,A5j,A3q,if_false,A3o,h]
 have:=Int.emod_nonneg i (Int.ne_of_gt hp)
 omega
theorem Kw {n:Nat} (x:BitVec n):BitVec.ofInt n (x.toNat:Int)=x:=by simp
theorem Rx (k:IntKind) (hk:k.signed=false) (x:BitVec k.bits):k.wrap (x.toNat:Int)=x.toNat:=by
 rw [Ej k hk,Kw]
theorem Ow (op:BinOp) (k:IntKind) (hk:k.signed=false) (x y:BitVec k.bits):Em op k x.toNat y.toNat=((match op with | .and=>x &&& y | .or=>x ||| y | .xor=>x ^^^ y | _=>x &&& ~~~y).toNat:Int):=by
 unfold Em
 cases op <;> simp only [Kw] <;> exact Rx k hk _
theorem Aup {n:Nat} (x:BitVec n):IntKind.u8.wrap (x.toNat:Int)=((x.setWidth 8).toNat:Int):=by
 rw [Ej .u8 rfl]
 simp [IntKind.bits]
theorem Aa0 {n:Nat} (k:IntKind) (hk:k.signed=false) (x:BitVec n):k.wrap (x.toNat:Int)=((x.setWidth k.bits).toNat:Int):=by
 rw [Ej k hk]
 simp
theorem Vm {n:Nat} (x:BitVec n) (m:Nat):(x.toNat:Int).fdiv (2 ^ m)=((x >>> m).toNat:Int):=by
 rw [A2h,A2g,A17 _ (by grind)]
 grind
theorem Age (op:BinOp) (x y:Nat) (hx:x<2 ^ 62) (hy:y<2 ^ 62) (ho:op= .and∨op= .or∨op= .xor):Em op .i64 x y=((match op with | .and=>x &&& y | .or=>x ||| y | _=>x ^^^ y:Nat):Int):=by
 have hw:∀ z:Nat,z<2 ^ 62→IntKind.i64.wrap (z:Int)=z:=fun z hz=>C0 (by omega)
 have hm:∀ z:Nat,z<2 ^ 62→z % 2 ^ 64=z:=fun z hz=>A4v (by omega)
 rcases ho with rfl | rfl | rfl
 ·show IntKind.i64.wrap ((BitVec.ofInt 64 (x:Int) &&& BitVec.ofInt 64 (y:Int)).toNat:Int)=_
  rw [A26,A26,A4i,A3p,A3p,hm x hx,hm y hy]
  exact hw _ (Nat.lt_of_le_of_lt A5f hx)
 ·show IntKind.i64.wrap ((BitVec.ofInt 64 (x:Int) ||| BitVec.ofInt 64 (y:Int)).toNat:Int)=_
  rw [A26,A26,A4z,A3p,A3p,hm x hx,hm y hy]
  exact hw _ (Nat.or_lt_two_pow hx hy)
 ·show IntKind.i64.wrap ((BitVec.ofInt 64 (x:Int) ^^^ BitVec.ofInt 64 (y:Int)).toNat:Int)=_
  rw [A26,A26,BitVec.toNat_xor,A3p,A3p,hm x hx,hm y hy]
  exact hw _ (Nat.xor_lt_two_pow hx hy)
theorem Auq {P:Program} {E:Env} {H:Hp} {t u:TypeId} {x y:Operand} {v:Wd} (hx:ev E x=some (.int .u64 v.toNat)) (hy:ev E y=some (.int .u64 8)):Rd P E H (.binOp .shr t x y u) (.int .u64 ((v >>> 8).toNat)):=by
 have:=I8 (P:=P) (H:=H) (t:=t) (u:=u) hx hy (by omega)
 rw [show (min (8:Int).toNat IntKind.u64.bits)=8 from rfl,Vm] at this
 exact this
theorem Ao9 {P:Program} {E:Env} {H:Hp} {t u:TypeId} {x y:Operand} {v:Wd} {j:Int} {k:Nat} (hx:ev E x=some (.int .u64 v.toNat)) (hy:ev E y=some (.int .i64 j)) (hj:j=(k:Int)) (hk:k<64):Rd P E H (.binOp .shl t x y u) (.int .u64 ((v <<< k).toNat)):=by
 subst hj
 have:=Aai (P:=P) (H:=H) (t:=t) (u:=u) hx hy (by omega)
 have hb:IntKind.u64.bits=64:=rfl
 rw [hb,show min ((k:Int).toNat) 64=k by omega,Ej .u64 rfl] at this
 have e:(BitVec.ofInt IntKind.u64.bits ((v.toNat:Int)*2 ^ k))=v <<< k:=by
  show BitVec.ofInt 64 ((v.toNat:Int)*2 ^ k)=_
  apply A2u
  rw [A3o,A2o,Nat.shiftLeft_eq]
  have:((v.toNat:Int)*2 ^ k)=((v.toNat*2 ^ k:Nat):Int):=by grind
  rw [this]
  omega
 rw [e] at this
 exact this
def uv (x:BitVec 32):Value:= .int .u32 x.toNat
theorem Apa (x:By):Em .xor .u8 (if IntKind.u8.signed then -1 else IntKind.u8.max) x.toNat=((~~~x).toNat:Int):=by
 show IntKind.u8.wrap ((BitVec.ofInt 8 255 ^^^ BitVec.ofInt 8 (x.toNat:Int)).toNat:Int)=_
 rw [Kw,show BitVec.ofInt 8 255=BitVec.allOnes 8 from by decide,BitVec.allOnes_xor]
 exact Rx .u8 rfl _
theorem Ak3 (x:BitVec 32):Em .xor .u32 (if IntKind.u32.signed then -1 else IntKind.u32.max) x.toNat=((~~~x).toNat:Int):=by
 show IntKind.u32.wrap ((BitVec.ofInt 32 4294967295 ^^^ BitVec.ofInt 32 (x.toNat:Int)).toNat:Int)=_
 rw [Kw,show BitVec.ofInt 32 4294967295=BitVec.allOnes 32 from by decide,BitVec.allOnes_xor]
 exact Rx .u32 rfl _
theorem Aur (x:BitVec 32):IntKind.u32.wrap (0 - (x.toNat:Int))=((-x).toNat:Int):=by
 rw [Ej .u32 rfl,Int.zero_sub]
 show ((BitVec.ofInt 32 (-(x.toNat:Int))).toNat:Int)=_
 rw [BitVec.ofInt_neg,Kw]
section
variable {P:Program} {E:Env} {H:Hp} {t u:TypeId} {x y:Operand}
theorem Kx {a b:BitVec 32} (hx:ev E x=some (uv a)) (hy:ev E y=some (uv b)):Rd P E H (.binOp .xor t x y u) (uv (a ^^^ b)):=by
 have:=Au (P:=P) (H:=H) (op:= .xor) (t:=t) (u:=u) hx hy rfl
 have e:Em .xor .u32 a.toNat b.toNat=((a ^^^ b).toNat:Int):=Ow .xor .u32 rfl a b
 rw [e] at this
 exact this
theorem P8 {a b:BitVec 32} (hx:ev E x=some (uv a)) (hy:ev E y=some (uv b)):Rd P E H (.binOp .and t x y u) (uv (a &&& b)):=by
 have:=Au (P:=P) (H:=H) (op:= .and) (t:=t) (u:=u) hx hy rfl
 have e:Em .and .u32 a.toNat b.toNat=((a &&& b).toNat:Int):=Ow .and .u32 rfl a b
 rw [e] at this
 exact this
theorem A0x {a:BitVec 32} (hx:ev E x=some (uv a)) (hy:ev E y=some (.int .i64 1)):Rd P E H (.binOp .shr t x y u) (uv (a >>> 1)):=by
 have:=I8 (P:=P) (H:=H) (t:=t) (u:=u) hx hy (by omega)
 rw [show (min (1:Int).toNat IntKind.u32.bits)=1 from rfl,Vm] at this
 exact this
theorem Ak4 {k:IntKind} {a:BitVec 32} (hx:ev E x=some (uv a)) (hy:ev E y=some (.int k 1)):Rd P E H (.binOp .shr t x y u) (uv (a >>> 1)):=by
 have:=I8 (P:=P) (H:=H) (t:=t) (u:=u) hx hy (by omega)
 rw [show (min (1:Int).toNat IntKind.u32.bits)=1 from rfl,Vm] at this
 exact this
theorem Apb {a:BitVec 32} (hx:ev E x=some (uv a)):Rd P E H (.unOp .neg t x) (uv (-a)):=by
 have:=Ayb (P:=P) (H:=H) (t:=t) hx
 rw [Aur] at this
 exact this
theorem Vn {a:BitVec 32} (hx:ev E x=some (uv a)):Rd P E H (.unOp .xor t x) (uv (~~~a)):=by
 have:=Ac9 (P:=P) (H:=H) (t:=t) hx
 rwa [Ak3] at this
theorem Ak5 {a:By} (hx:ev E x=some (bv a)):Rd P E H (.unOp .xor t x) (bv (~~~a)):=by
 have:=Ac9 (P:=P) (H:=H) (t:=t) hx
 rwa [Apa] at this
theorem Aus {a b:By} (hx:ev E x=some (bv a)) (hy:ev E y=some (bv b)):Rd P E H (.binOp .sub t x y u) (bv (a - b)):=by
 have:=Au (P:=P) (H:=H) (op:= .sub) (t:=t) (u:=u) hx hy rfl
 have e:IntKind.u8.wrap ((a.toNat:Int) - b.toNat)=((a - b).toNat:Int):=by
  rw [Ej .u8 rfl]
  show ((BitVec.ofInt 8 ((a.toNat:Int) - b.toNat)).toNat:Int)=_
  rw [BitVec.toNat_sub,A3o]
  have:=a.isLt
  have:=b.isLt
  omega
 rw [e] at this
 exact this
theorem Aih {s:TypeId} {ds:TypeDesc} {a:By} [Und P s ds] [Und P t (.int .u32)] (hx:ev E x=some (bv a)):Rd P E H (.convert s t x) (uv (a.setWidth 32)):=by
 have:=Dv (P:=P) (H:=H) (s:=s) (t:=t) (k:= .u32) hx
 rw [Aa0 .u32 rfl a] at this
 exact this
theorem Aut {s:TypeId} {ds:TypeDesc} {a:By} [Und P s ds] [Und P t (.int .u64)] (hx:ev E x=some (bv a)):Rd P E H (.convert s t x) (wv (a.setWidth 64)):=by
 have:=Dv (P:=P) (H:=H) (s:=s) (t:=t) (k:= .u64) hx
 rw [Aa0 .u64 rfl a] at this
 exact this
theorem Ak6 {s:TypeId} {ds:TypeDesc} {a:BitVec 32} [Und P s ds] [Und P t (.int .u64)] (hx:ev E x=some (uv a)):Rd P E H (.convert s t x) (wv (a.setWidth 64)):=by
 have:=Dv (P:=P) (H:=H) (s:=s) (t:=t) (k:= .u64) hx
 rw [Aa0 .u64 rfl a] at this
 exact this
end
def Jd (x:Wd):Nat→Wd
 | 0=>x
 | i+1=>Jd x i >>> 8
def Bz (k:Nat) (x:Wd):List By:=(List.range k).map fun i=>(Jd x i).setWidth 8
theorem Yw (k:Nat) (x:Wd):Bz (k+1) x=Bz k x++[(Jd x k).setWidth 8]:=by
 simp [Bz,A5d]
theorem A4 (k:Nat) (x:Wd):(Bz k x).length=k:=by simp [Bz]
def L6 (k:Nat) (xs:List Wd):List By:=xs.flatMap (Bz k)
theorem Agf {k i:Nat} {xs:List Wd} {x:Wd} (h:xs[i]? =some x):L6 k (xs.take (i+1))=L6 k (xs.take i)++Bz k x:=by
 rw [A4d,h]
 simp [L6]
theorem Ry (k:Nat) (xs:List Wd):(L6 k xs).length=xs.length*k:=by
 induction xs with
 | nil=>simp [L6]
 | cons x xs ih=>simp only [L6,A36,A3x,A4,A4q,A6b] at *;omega
def Ec (xs:List By) (i:Nat):Wd:=(List.range i).foldl (fun n j=>n ||| ((xs.getD j 0).setWidth 64 <<< (8*j))) 0
theorem Vo (xs:List By) (i:Nat):Ec xs (i+1)=Ec xs i ||| ((xs.getD i 0).setWidth 64 <<< (8*i)):=by
 simp [Ec,A5d]
section
variable {P:Program} {E:Env} {H:Hp} {t u:TypeId} {x y:Operand} {a b:Nat}
theorem Aa1 (hx:ev E x=some (.int .i64 (a:Nat))) (hy:ev E y=some (.int .i64 (b:Nat))) (ha:a<2 ^ 62) (hb:b<2 ^ 62):Rd P E H (.binOp .xor t x y u) (.int .i64 ((a ^^^ b:Nat):Int)):=by
 have:=Au (P:=P) (H:=H) (op:= .xor) (t:=t) (u:=u) hx hy rfl
 rw [Age .xor a b ha hb (.inr (.inr rfl))] at this
 exact this
theorem P9 (hx:ev E x=some (.int .i64 (a:Nat))) (hy:ev E y=some (.int .i64 (b:Nat))) (ha:a<2 ^ 62) (hb:b<2 ^ 62):Rd P E H (.binOp .and t x y u) (.int .i64 ((a &&& b:Nat):Int)):=by
 have:=Au (P:=P) (H:=H) (op:= .and) (t:=t) (u:=u) hx hy rfl
 rw [Age .and a b ha hb (.inl rfl)] at this
 exact this
theorem Agh (hx:ev E x=some (.int .i64 (a:Nat))) (hy:ev E y=some (.int .i64 ((a:Int) - 1))) (ha:a<4096):Rd P E H (.binOp .and t x y u) (.int .i64 ((a &&& (a - 1):Nat):Int)):=by
 have:=Au (P:=P) (H:=H) (op:= .and) (t:=t) (u:=u) hx hy rfl
 rw [Ano a ha] at this
 exact this
theorem Tu (hx:ev E x=some (.int .i64 (a:Nat))) (hy:ev E y=some (.int .i64 (b:Nat))) (ha:a+b<2 ^ 62):Rd P E H (.binOp .add t x y u) (.int .i64 ((a+b:Nat):Int)):=by
 have:=B5 (P:=P) (H:=H) (t:=t) (u:=u) hx hy (by omega)
 rw [← Int.natCast_add] at this
 exact this
theorem Apc (hx:ev E x=some (.int .i64 (a:Nat))) (hy:ev E y=some (.int .i64 (b:Nat))) (ha:a<2 ^ 62) (hb:b<2 ^ 62):Rd P E H (.binOp .or t x y u) (.int .i64 ((a ||| b:Nat):Int)):=by
 have:=Au (P:=P) (H:=H) (op:= .or) (t:=t) (u:=u) hx hy rfl
 rw [Age .or a b ha hb (.inr (.inl rfl))] at this
 exact this
theorem A0y {n m:Nat} (hn:n<65536) (hm:m<65536):Em .and .u16 n m=((n &&& m:Nat):Int):=by
 show IntKind.u16.wrap ((BitVec.ofInt 16 (n:Int) &&& BitVec.ofInt 16 (m:Int)).toNat:Int)=_
 rw [A26,A26,A4i,A3p,A3p,A4v (show n<2 ^ 16 from hn),A4v (show m<2 ^ 16 from hm)]
 have:n &&& m≤n:=A5f
 have h2:(2:Int) ^ IntKind.u16.bits=65536:=rfl
 simp only [IntKind.wrap,h2,show IntKind.u16.signed=false from rfl,A5j,A3q,if_false]
 omega
theorem Adn (hx:ev E x=some (.int .u16 (a:Nat))) (hy:ev E y=some (.int .u16 (b:Nat))) (ha:a<65536) (hb:b<65536):Rd P E H (.binOp .and t x y u) (.int .u16 ((a &&& b:Nat):Int)):=by
 have:=Au (P:=P) (H:=H) (op:= .and) (t:=t) (u:=u) hx hy rfl
 rw [A0y ha hb] at this
 exact this
theorem Qa {k k':IntKind} {j:Int} {m:Nat} (hx:ev E x=some (.int k (a:Nat))) (hy:ev E y=some (.int k' j)) (hj:j=(m:Int)) (hm:m≤k.bits):Rd P E H (.binOp .shr t x y u) (.int k ((a / 2 ^ m:Nat):Int)):=by
 subst hj
 have:=I8 (P:=P) (H:=H) (t:=t) (u:=u) hx hy (by omega)
 rw [show min ((m:Int).toNat) k.bits=m by omega,A17 _ (by grind)] at this
 grind
theorem Aii {k':IntKind} {j:Int} {m:Nat} (hx:ev E x=some (.int .i64 (a:Nat))) (hy:ev E y=some (.int k' j)) (hj:j=(m:Int)) (hm:m≤62) (hb:a*2 ^ m<2 ^ 63):Rd P E H (.binOp .shl t x y u) (.int .i64 ((a*2 ^ m:Nat):Int)):=by
 subst hj
 have:=Aai (P:=P) (H:=H) (t:=t) (u:=u) hx hy (by omega)
 rw [show min ((m:Int).toNat) IntKind.i64.bits=m from by (have:IntKind.i64.bits=64:=rfl);omega] at this
 have e:(a:Int)*2 ^ m=((a*2 ^ m:Nat):Int):=by grind
 rw [e,C0 (by omega)] at this
 exact this
end
theorem Aa2 {P:Program} {E:Env} {H:Hp} {t u:TypeId} {x y:Operand} {k:Nat} (hx:ev E x=some (.int .u8 1)) (hy:ev E y=some (.int .i64 (k:Nat))) (hk:k<8):Rd P E H (.binOp .shl t x y u) (bv (1#8 <<< k)):=by
 have:=Aai (P:=P) (H:=H) (t:=t) (u:=u) hx hy (by omega)
 rw [A0f k hk] at this
 exact this
theorem Eu {P:Program} {E:Env} {H:Hp} {s t:TypeId} {x:Operand} {ds:TypeDesc} {k k':IntKind} {a:Nat} [hs:Und P s ds] [ht:Und P t (.int k)] (hx:ev E x=some (.int k' (a:Nat))) (h:k.wrap (a:Int)=a):Rd P E H (.convert s t x) (.int k (a:Nat)):=by
 have:=Dv (P:=P) (H:=H) (s:=s) (t:=t) (k:=k) hx
 rwa [h] at this
theorem Gf {P:Program} {E:Env} {H:Hp} {s t:TypeId} {x:Operand} {ds:TypeDesc} {k k':IntKind} {a r:Int} [hs:Und P s ds] [ht:Und P t (.int k)] (h:k.wrap a=r) (hx:ev E x=some (.int k' a)):Rd P E H (.convert s t x) (.int k r):=by
 have:=Dv (P:=P) (H:=H) (s:=s) (t:=t) (k:=k) hx
 rwa [h] at this
theorem E4 (k:IntKind) (hk:k.signed=false) {a:Nat} (h:a<2 ^ k.bits):k.wrap (a:Int)=a:=by
 rw [Ej k hk,A26,A3p,A4v h]
theorem Aa3 {a:Nat} (h:a<2 ^ 63):IntKind.i64.wrap (a:Int)=a:=C0 (by omega)
def C2 (k:Nat) (l:List By) (bad:Bool):Wd×List By×Bool:=if l.length<k then (0,[],true) else (Ec (l.take k) k,l.drop k,bad)
def C4 (k:Nat) (l:List By) (bad:Bool):List By×List By×Bool:=if l.length<k then ([],[],true) else (l.take k,l.drop k,bad)
theorem Qb (k:Nat) (l:List By) (bad:Bool):(C2 k l bad).2.1.length≤l.length:=by unfold C2;split <;> simp
theorem Vp (k:Nat) (l:List By) (bad:Bool):(C4 k l bad).2.1.length≤l.length∧(C4 k l bad).1.length≤l.length:=by unfold C4;split <;> simp <;> omega
theorem F7 {k m:Nat} {l l':List By} {bad:Bool} (h:l'=(C2 k l bad).2.1) (hl:l.length≤m):l'.length≤m:=by rw [h];have:=Qb k l bad;omega
theorem Aij {k m:Nat} {l l':List By} {bad:Bool} (h:l'=(C4 k l bad).2.1) (hl:l.length≤m):l'.length≤m:=by rw [h];have:=Vp k l bad;omega
theorem Ado {k m:Nat} {l l':List By} {bad:Bool} (h:l'=(C4 k l bad).1) (hl:l.length≤m):l'.length≤m:=by rw [h];have:=Vp k l bad;omega
def Jt:BitVec 32:=0xedb88320
def Auu (c:BitVec 32):BitVec 32:=(c >>> 1) ^^^ (Jt &&& (-(c &&& 1)))
def W7 (c:BitVec 32):Nat→BitVec 32
 | 0=>c
 | k+1=>Auu (W7 c k)
def Apd (c:BitVec 32) (b:By):BitVec 32:=W7 (c ^^^ b.setWidth 32) 8
def Qc (c:BitVec 32) (xs:List By):BitVec 32:=xs.foldl Apd c
def Fy (s:BitVec 32) (ps:List (List By)):BitVec 32:= ~~~ (ps.foldl Qc (~~~ s))
theorem Yx {c:BitVec 32} {xs:List By} {i:Nat} {b:By} (h:xs[i]? =some b):Qc c (xs.take (i+1))=Apd (Qc c (xs.take i)) b:=by
 rw [A4d,h]
 simp [Qc]
def Ba (ps:List (Sl By)):List By:=ps.flatMap (·.list)
theorem Ox {ps:List (Sl By)} {i:Nat} {s:Sl By} (h:ps[i]? =some s):Ba (ps.take (i+1))=Ba (ps.take i)++s.list:=by
 rw [A4d,h];simp [Ba]
theorem Qd (ps:List (Sl By)) (i:Nat):(Ba (ps.take i)).length≤(Ba ps).length:=by
 have:Ba ps=Ba (ps.take i)++Ba (ps.drop i):=by simp only [Ba];rw [← A3j,A23]
 rw [this,A3x];omega
def Adp (cs:List Value) (xs:List By):List Value:=cells xs++cs.drop xs.length
theorem Adq {cs:List Value} {xs ys:List By} {o:Nat} (h:xs.length+ys.length≤cs.length) (ho:ys=[]∧o=0∨o=xs.length):A7 (Adp cs xs) o (cells ys)=some (Adp cs (xs++ys)):=by
 have hl:(cells xs).length=xs.length:=by rw [Ho];simp [Cel.sz]
 have hl2:(cells ys).length=ys.length:=by rw [Ho];simp [Cel.sz]
 rcases ho with ⟨rfl,rfl⟩ | rfl
 ·refine Ex ?_ (by simp)
  grind
 ·refine Ex ?_ (by simp only [Adp,A3x,A4r,hl,hl2];omega)
  simp only [Adp,cells,A3j,A34]
  have h1:List.take xs.length (List.flatMap Cel.cs xs++List.drop xs.length cs)=cells xs:=by rw [A11 (by rw [← hl];grind),← hl,A4u]
  have h2:List.drop (xs.length+(List.flatMap Cel.cs ys).length) (List.flatMap Cel.cs xs++List.drop xs.length cs)=List.drop (xs.length+ys.length) cs:=by
   rw [show (List.flatMap Cel.cs ys).length=ys.length from hl2,List.drop_append,show (List.flatMap Cel.cs xs).length=xs.length from hl,A2p (by rw [show (List.flatMap Cel.cs xs).length=xs.length from hl];omega),A5b,A5k]
   grind
  rw [h1,h2,A3x]
theorem Agi {α β:Type} {f:β→α→β} {c:β} {xs:List α} {i:Nat} {b:α} (h:xs[i]? =some b):(xs.take (i+1)).foldl f c=f ((xs.take i).foldl f c) b:=by
 rw [A4d,h]
 simp
abbrev Dat:=Vector By 256
def N6 (d:Dat) (i:Nat):Nat:=(List.range i).foldl (fun s j=>Aci j (Mk (d.toList.getD j 0)) s) 0
def Aa4 (d:Dat) (i:Nat):Nat:=(List.range i).foldl (fun s j=>s ^^^ (Hj (d.toList.getD j 0) % 2)) 0
theorem Vq (d:Dat) (i:Nat):N6 d (i+1)=Aci i (Mk (d.toList.getD i 0)) (N6 d i):=by simp [N6,A5d]
theorem Yy (d:Dat) (i:Nat):Aa4 d (i+1)=Aa4 d i ^^^ (Hj (d.toList.getD i 0) % 2):=by simp [Aa4,A5d]
def Gs (d:Dat):Nat:=N6 d 256
def M0 (d:Dat):Nat:=Aa4 d 256
theorem Agj {a b:Nat} (ha:a<4096) (hb:b<4096):a ^^^ b<4096:=Nat.xor_lt_two_pow (n:=12) ha hb
theorem Ape {i:Nat} (hi:i<256):∀ (l:List Nat) (s:Nat),(∀ k∈l,k<8)→s<4096→Aci i l s<4096:=by
 intro l
 induction l with
 | nil=>intro s _ hs;exact hs
 | cons k l ih =>
  intro s hl hs
  simp only [Aci,A45]
  exact ih _ (fun k hk=>hl k (.tail _ hk)) (Agj hs (Ack _ (by have:=hl k (.head _);omega)))
theorem Ak7 (b:By):∀ k∈Mk b,k<8:=fun k hk=>by
 simp only [Mk,A5a,A5n] at hk
 exact hk.1
theorem M1 (d:Dat):∀ i,i≤256→N6 d i<4096:=by
 intro i
 induction i with
 | zero=>intro _;simp [N6]
 | succ i ih=>intro h;rw [Vq];exact Ape (by omega) _ _ (Ak7 _) (ih (by omega))
theorem Aa5 (d:Dat):∀ i,Aa4 d i<2:=by
 intro i
 induction i with
 | zero=>simp [Aa4]
 | succ i ih=>rw [Yy];exact Nat.xor_lt_two_pow (n:=1) ih (by omega)
def Dl (d:Dat):Nat:=if (M0 d+Gv (Gs d)) % 2=0 then Gs d else Gs d ||| 4096
theorem Hw (d:Dat):Dl d<8192:=by
 have h:=M1 d 256 (A6h _)
 unfold Dl Gs
 split
 ·omega
 ·exact Nat.or_lt_two_pow (n:=13) (by omega) (by omega)
def Adr (d:Dat) (i:Nat):Dat:=if h:i / 8<256 then d.set (i / 8) (d[i / 8] ^^^ (1#8 <<< (i % 8))) else d
def zeroD:Dat:=Vector.replicate 256 0#8
theorem Vr:List.replicate 256 (Value.int .u8 0)=vbc zeroD:=by kernel_rfl
def C3 (d:Dat) (chk:Nat):Dat×Int×Int :=
 let s:=Gs d ^^^ (chk &&& 4095)
 let odd:=(M0 d+Gv (chk &&& 8191)) % 2
 if s=0∧odd=0 then (d,0,0) else if odd=0 then (zeroD,0,21) else if s &&& (s - 1)=0 then (d,1,0)
 else if 2048≤(s:Int) - 1 - Tb s then (zeroD,0,21) else (Adr d (s - 1 - Tb s),1,0)
end
section
open Go.K
def Ab7 {n:Nat} (p:Vector By n) (o:Nat) (xs:List By):Vector By n:=Vector.ofFn fun j=>if o≤j.val∧j.val<o+xs.length then xs.getD (j.val - o) 0 else p[j]
theorem Iq {n:Nat} (p:Vector By n) (o:Nat) (xs:List By) (j:Nat) (h:j<n):(Ab7 p o xs)[j]=if o≤j∧j<o+xs.length then xs.getD (j - o) 0 else p[j]:=by simp [Ab7]
theorem O9 {n:Nat} (p:Vector By n) (i:Nat):(vbc p)[i]? =if h:i<n then some (bv p[i]) else none:=by
 unfold vbc
 rw [A38]
 by_cases h:i<n
 ·simp [h]
 ·rw [A2x (by simpa using h)]
  simp [h]
theorem cells_get (xs:List By) (i:Nat):(cells xs)[i]? =(xs[i]?).map bv:=by rw [Mo,A38]
theorem I0 (xs:List By):(cells xs).length=xs.length:=by rw [Mo,A46]
theorem Th {n:Nat} {p:Vector By n} {o:Nat} {xs:List By} (h:o+xs.length≤n):A7 (vbc p) o (cells xs)=some (vbc (Ab7 p o xs)):=by
 refine Ex ?_ (by rw [I0,Ai];exact h)
 apply A35
 intro i
 rw [O9]
 by_cases hi:i<n
 ·rw [A6t hi,Iq _ _ _ _ hi]
  by_cases h1:i<o
  ·rw [A6u (by omega),A34,A2e (by rw [A4s,Ai];omega),A3w,A6v h1,O9,A6t hi]
  ·by_cases h2:i<o+xs.length
   ·rw [A6v ⟨by omega,h2⟩,A34,A19 (by rw [A4s,Ai];omega),A2e (by rw [I0,A4s,Ai];omega),A4s,Ai,A5g (by omega),cells_get,A2i (by omega)]
    simp only [A5h,A18,A2i (show i - o<xs.length by omega),A4w]
   ·rw [A6u (by omega),A19 (by rw [A3x,I0,A4s,Ai];omega),A3v,A3x,I0,A4s,Ai,A5g (by omega),O9]
    have e:o+xs.length+(i - (o+xs.length))=i:=by omega
    simp only [e,hi,A6t]
 ·rw [dif_neg hi,A2x]
  simp only [A3x,A4s,A4r,I0,Ai]
  omega
def Ajs (kind:By) (body:List By):Dat:=Ab7 ((zeroD.set 0 kind).set 1 (BitVec.ofNat 8 body.length)) 2 body
def Awy (d:Dat):BitVec 32:=Fy 0 [d.toList.take 252]
def Az5 (d:Dat):Dat:=Ab7 d 252 (Bz 4 ((Awy d).setWidth 64))
def K8 (kind:By) (body:List By):Dat:=Az5 (Ajs kind body)
def Jx (d:Dat):Pg:=Ab7 (Ab7 Ku 0 d.toList) 256 (Bz 2 (BitVec.ofNat 64 (Dl d)))
def Cj (kind:By) (body:List By):Pg:=Jx (K8 kind body)
def Cv (kind:By) (body:List By):Bool:=(decide ((kind.toNat:Int)=0) || decide ((kind.toNat:Int)=255)) || decide ((240:Int)<body.length)
def Cw (kind:By) (body:List By):Pg×Int:=if Cv kind body=true then (Ku,1) else (Cj kind body,0)
def K9 (p:Pg) (i:Nat):Nat:=(List.range i).foldl (fun s j=>s+Hj (~~~ (p.toList.getD j 0))) 0
theorem Mg (p:Pg) (i:Nat):K9 p (i+1)=K9 p i+Hj (~~~ (p.toList.getD i 0)):=by simp [K9,A5d]
theorem Ajt (p:Pg):∀ i,K9 p i≤8*i:=by
 intro i
 induction i with
 | zero=>simp [K9]
 | succ i ih=>rw [Mg];have:=Lc (~~~ (p.toList.getD i 0));omega
def Bh (p:Pg):Bool:=decide (K9 p 258≤1)
def Il (p:Pg):Dat:=Vector.ofFn fun j=>p[j]
theorem As0 (p:Pg):cut (vbc p) 0 256=some (vbc (Il p)):=by
 refine cut_iff.2 ⟨?_,by rw [Ai];omega⟩
 apply A35
 intro i
 rw [A5l,A3w,O9,O9]
 by_cases h:i<256
 ·rw [A6t h,A6v h,A6t (by omega)]
  simp [Il]
 ·rw [dif_neg h,A6u h]
def Dt (p:Pg):Nat:=(Ec ((p.toList.drop 256).take 2) 2).toNat % 65536
def Gy (d:Dat):List By:=if d[1].toNat≤240 then (d.toList.drop 2).take d[1].toNat else []
def Bf (p:Pg):By×List By×Int×Int :=
 if Bh p=true then (0,[],0,20) else
 let above:=Gv (Dt p &&& 57344)
 if 1<above then (0,[],0,21) else
 let f:=C3 (Il p) (Dt p)
 if f.2.2≠0 then (0,[],0,f.2.2) else
 let w:=Cw f.1[0] (Gy f.1)
 if w.2≠0∨240<f.1[1].toNat∨w.1.toList.take 256≠f.1.toList then (0,[],0,21)
 else (f.1[0],Gy f.1,f.2.1+above,0)
theorem El {p:Pg} (h:Bh p=true):Bf p=(0,[],0,20):=by unfold Bf;rw [A6v h]
theorem So {p:Pg} (h:Bh p=false) (h2:1<Gv (Dt p &&& 57344)):Bf p=(0,[],0,21):=by
 unfold Bf;rw [A6u (by rw [h];exact A3r)];simp only [];rw [A6v h2]
theorem Aju {p:Pg} (h:Bh p=false) (h2:¬ 1<Gv (Dt p &&& 57344)) (h3:¬ (C3 (Il p) (Dt p)).2.2=0):Bf p=(0,[],0,(C3 (Il p) (Dt p)).2.2):=by
 unfold Bf;rw [A6u (by rw [h];exact A3r)];simp only [];rw [A6u h2,A6v h3]
theorem Xp {p:Pg} {f:Dat×Int×Int} (hf:C3 (Il p) (Dt p)=f) (h:Bh p=false) (h2:¬ 1<Gv (Dt p &&& 57344)) (h3:f.2.2=0)
  (h4:(Cw f.1[0] (Gy f.1)).2≠0∨240<f.1[1].toNat∨(Cw f.1[0] (Gy f.1)).1.toList.take 256≠f.1.toList):Bf p=(0,[],0,21):=by
 subst hf
 unfold Bf;rw [A6u (by rw [h];exact A3r)];simp only [];rw [A6u h2,A6u (by rw [h3];simp),A6v h4]
theorem Ab8 {p:Pg} {f:Dat×Int×Int} (hf:C3 (Il p) (Dt p)=f) (h:Bh p=false) (h2:¬ 1<Gv (Dt p &&& 57344)) (h3:f.2.2=0)
  (h4:¬ ((Cw f.1[0] (Gy f.1)).2≠0∨240<f.1[1].toNat∨(Cw f.1[0] (Gy f.1)).1.toList.take 256≠f.1.toList)):Bf p=(f.1[0],Gy f.1,f.2.1+(Gv (Dt p &&& 57344):Nat),0):=by
 subst hf
 unfold Bf;rw [A6u (by rw [h];exact A3r)];simp only [];rw [A6u h2,A6u (by rw [h3];simp),A6u h4]
theorem Az6 {a b c:Prop} [Decidable a] [Decidable b] [Decidable c] (h:((!decide a || decide b) || !decide c)=true):¬ a∨b∨¬ c:=by
 by_cases ha:a <;> by_cases hb:b <;> by_cases hc:c <;> simp_all
theorem Awz {a b c:Prop} [Decidable a] [Decidable b] [Decidable c] (h:((!decide a || decide b) || !decide c)=false):a∧¬ b∧c:=by
 by_cases ha:a <;> by_cases hb:b <;> by_cases hc:c <;> simp_all
theorem Amw (p:Pg):Dt p<65536:=by unfold Dt;omega
theorem Amx {n:Nat} (hn:n<65536):Em .andNot .u16 n 8191=((n &&& 57344:Nat):Int):=by
 show IntKind.u16.wrap ((BitVec.ofInt 16 (n:Int) &&& ~~~ BitVec.ofInt 16 8191).toNat:Int)=_
 rw [A26,show ~~~ BitVec.ofInt 16 8191=BitVec.ofNat 16 57344 from by decide,A4i,A3p,A3p,A4v (show n<2 ^ 16 from hn),A4v (show 57344<2 ^ 16 by decide)]
 exact E4 .u16 rfl (Nat.lt_of_le_of_lt A5f hn)
theorem As1 (x:Wd):IntKind.u16.wrap (x.toNat:Int)=((x.toNat % 65536:Nat):Int):=by
 rw [Ej .u16 rfl,A26,A3p];rfl
theorem As2 (d:Dat) (c:Nat):0≤(C3 d c).2.1∧(C3 d c).2.1≤1:=by
 unfold C3
 simp only []
 split
 ·exact ⟨by simp,by simp⟩
 ·split
  ·exact ⟨by simp,by simp⟩
  ·split
   ·exact ⟨by simp,by simp⟩
   ·split <;> exact ⟨by simp,by simp⟩
end
section
open Go.K
def XS (f:Nat→Nat) (n:Nat):Nat:=(List.range n).foldl (fun s j=>s ^^^ f j) 0
theorem Ti (f:Nat→Nat) (n:Nat):XS f (n+1)=XS f n ^^^ f n:=by simp [XS,A5d]
theorem Ahn {f g:Nat→Nat}:∀ {n:Nat},(∀ j<n,g j=f j)→XS g n=XS f n
 | 0,_=>rfl
 | n+1,h=>by rw [Ti,Ti,Ahn (n:=n) (fun j hj=>h j (by omega)),h n (by omega)]
theorem As7 {f g:Nat→Nat} {d k:Nat}:∀ {n:Nat},k<n→(∀ j<n,j≠k→g j=f j)→g k=f k ^^^ d→XS g n=XS f n ^^^ d
 | 0,h,_,_=>by omega
 | n+1,h,h1,h2=>by
  rw [Ti,Ti]
  by_cases e:k=n
  ·subst e
   rw [Ahn (n:=k) (fun j hj=>h1 j (by omega) (by omega)),h2,Nat.xor_assoc]
  ·rw [As7 (n:=n) (by omega) (fun j hj hne=>h1 j (by omega) hne) h2,h1 n (by omega) (fun e'=>e e'.symm)]
   rw [Nat.xor_assoc,Nat.xor_assoc,Nat.xor_comm d]
theorem Tj {n:Nat} (v:Vector By n) {j:Nat} (h:j<n):v.toList.getD j 0=v[j]:=by grind
theorem Az7 (x:Nat):x &&& 4095=x % 4096:=A1z x 12
theorem Az8 (x:Nat):x &&& 8191=x % 8192:=A1z x 13
theorem Az9 {x:Nat} (h:x<4096):x ||| 4096=4096+x:=by
 have:=A15 (i:=12) h 1
 rw [show 2 ^ 12*1=4096 from rfl] at this
 rw [Nat.or_comm];omega
theorem Axo:∀ s<4096,Gv (4096+s)=Gv s+1:=Acj (by decide +kernel)
theorem Ua (d:Dat):Gs d<4096:=M1 d 256 (A6h _)
theorem Afd (d:Dat):Dl d % 4096=Gs d:=by
 have h:=Ua d
 unfold Dl
 split
 ·omega
 ·rw [Az9 h];omega
theorem Ajw (d:Dat):(M0 d+Gv (Dl d)) % 2=0:=by
 unfold Dl
 split
 ·assumption
 ·rename_i h;rw [Az9 (Ua d),Axo _ (Ua d)];omega
theorem Am0 {d:Dat} {c:Nat} (hc:c % 8192=Dl d):C3 d c=(d,0,0):=by
 have h1:c % 4096=Gs d:=by rw [← Afd,← hc];omega
 unfold C3
 simp only []
 rw [Az7,Az8,h1,hc,Nat.xor_self,Ajw,A6v ⟨rfl,rfl⟩]
theorem Ajx (a b:By):(Ec [a,b] 2).toNat=a.toNat+256*b.toNat:=by
 have e:Ec [a,b] 2=(0#64 ||| (a.setWidth 64 <<< 0)) ||| (b.setWidth 64 <<< 8):=rfl
 have ha:=a.isLt
 have hb:=b.isLt
 have h1:((a.setWidth 64:Wd) <<< 0).toNat=a.toNat:=by grind
 have h2:((b.setWidth 64:Wd) <<< 8).toNat=256*b.toNat:=by
  rw [A2o,A2v,Nat.shiftLeft_eq];omega
 rw [e,A4z,A4z,h1,h2]
 have:=A15 (i:=8) ha b.toNat
 rw [show 2 ^ 8=256 from rfl] at this
 rw [show (0#64).toNat=0 from rfl,Nat.zero_or,Nat.or_comm]
 omega
theorem Am1 (p:Pg):(p.toList.drop 256).take 2=[p[256],p[257]]:=by
 apply A35
 grind
theorem Am2 (p:Pg):Dt p=p[256].toNat+256*p[257].toNat:=by
 unfold Dt
 rw [Am1,Ajx]
 have:=p[256].isLt
 have:=p[257].isLt
 omega
theorem As8:∀ a<256,(a+256*(255#8).toNat) &&& 57344=57344:=by decide +kernel
theorem La {p:Pg} (h:p[257]=255#8):(Bf p).2.2.2≠0:=by
 cases hb:Bh p with
 | true=>rw [El hb];decide
 | false =>
  have hc:Dt p &&& 57344=57344:=by
   rw [Am2,h]
   exact As8 _ p[256].isLt
  rw [So hb (by rw [hc];decide)]
  simp
theorem Ub (p:Pg) (l:List Nat):∀ n,(∀ i∈l,i<n)→l.Nodup→(l.map fun i=>Hj (~~~ (p.toList.getD i 0))).sum≤K9 p n
 | 0,h,_=>by
  cases l with
  | nil=>simp
  | cons x l=>exact absurd (h x (.head _)) (by omega)
 | n+1,h,hn=>by
  rw [Mg]
  by_cases hm:n∈l
  ·have h1:=Ub p (l.erase n) n (fun i hi=>by
    have h2:=(hn.mem_erase_iff).1 hi
    have:=h i h2.2
    omega) (hn.erase n)
   have h3:(l.map fun i=>Hj (~~~ (p.toList.getD i 0))).sum=Hj (~~~ (p.toList.getD n 0))+((l.erase n).map fun i=>Hj (~~~ (p.toList.getD i 0))).sum:=by
    have:=(List.perm_cons_erase hm).map fun i=>Hj (~~~ (p.toList.getD i 0))
    rw [this.sum_nat]
    simp
   omega
  ·have:=Ub p l n (fun i hi=>by
    have:=h i hi
    grind) hn
   omega
theorem Ajy {p:Pg} (h:2≤Hj (~~~ p[0])+Hj (~~~ p[1])+Hj (~~~ p[257])):Bh p=false:=by
 have:=Ub p [0,1,257] 258 (by simp) (by simp)
 simp only [A5x,A52,List.sum_cons,List.sum_nil] at this
 rw [Tj p (show 0<258 by omega),Tj p (show 1<258 by omega),Tj p (show 257<258 by omega)] at this
 unfold Bh
 simp;omega
end
section
open Go.K
theorem Am3 (p:Pg) {j:Nat} (h:j<256):(Il p)[j]=p[j]:=by simp [Il]
theorem Nb (d:Dat) {j:Nat} (h:j<256):(Jx d)[j]=d[j]:=by
 unfold Jx
 rw [Iq _ _ _ _ (by omega),A6u (by omega),Iq _ _ _ _ (by omega),A6v (by simp;omega),A6a,Tj d h]
theorem Afe (d:Dat):Il (Jx d)=d:=by
 apply A6l
 intro j hj
 rw [Am3 _ hj,Nb d hj]
theorem Ajz (d:Dat):(Jx d).toList.take 256=d.toList:=by
 apply A4o
 ·simp
 ·intro j h1 h2
  simp at h2
  rw [List.getElem_take]
  have:=Nb d h2
  simp_all
theorem Aff (d:Dat):(Jx d)[256].toNat=Dl d % 256:=by
 unfold Jx
 rw [Iq _ _ _ _ (by omega),A6v (by rw [A4];omega)]
 show ((BitVec.ofNat 64 (Dl d)).setWidth 8).toNat=_
 have:=Hw d
 rw [A2v,A3p]
 omega
theorem Uc (d:Dat):(Jx d)[257].toNat=Dl d / 256:=by
 unfold Jx
 rw [Iq _ _ _ _ (by omega),A6v (by rw [A4];omega)]
 show (((BitVec.ofNat 64 (Dl d)) >>> 8).setWidth 8).toNat=_
 have:=Hw d
 rw [A2v,A2h,A3p,A2g]
 omega
theorem Am4 (d:Dat):Dt (Jx d)=Dl d:=by rw [Am2,Aff,Uc];omega
theorem Zx {k:By} {b:List By} {j:Nat} (h:j<252):(K8 k b)[j]=(Ajs k b)[j]:=by
 unfold K8 Az5
 rw [Iq _ _ _ _ (by omega),A6u (by omega)]
theorem Afg (k:By) (b:List By):(K8 k b)[0]=k:=by
 rw [Zx (by omega)]
 unfold Ajs
 rw [Iq _ _ _ _ (by omega),A6u (by omega)]
 simp
theorem Afh (k:By) (b:List By):(K8 k b)[1]=BitVec.ofNat 8 b.length:=by
 rw [Zx (by omega)]
 unfold Ajs
 rw [Iq _ _ _ _ (by omega),A6u (by omega)]
 simp
theorem Xr {k:By} {b:List By} (hb:b.length≤240):Gy (K8 k b)=b:=by
 unfold Gy
 have h1:((K8 k b)[1]).toNat=b.length:=by rw [Afh,A3p];omega
 rw [h1,A6v hb]
 apply A4o
 ·simp;omega
 ·intro j h2 h3
  rw [List.getElem_take,List.getElem_drop]
  have:(K8 k b)[2+j]=b[j]:=by
   rw [Zx (by omega)]
   unfold Ajs
   rw [Iq _ _ _ _ (by omega),A6v (by omega)]
   grind
  grind
theorem Xs {k:By} {b:List By} (h:Cv k b=false):k≠0∧k≠255#8∧b.length≤240:=by
 unfold Cv at h
 grind
theorem Am5 {p:Pg} {k:By} {b:List By} {n:Int} (hw:Cv k b=false) (hb:Bh p=false) (ha:¬ 1<Gv (Dt p &&& 57344)) (hf:C3 (Il p) (Dt p)=(K8 k b,n,0)):Bf p=(k,b,n+(Gv (Dt p &&& 57344):Nat),0):=by
 obtain ⟨h1,h2,h3⟩:=Xs hw
 have hwr:Cw k b=(Cj k b,0):=by unfold Cw;rw [A6u (by rw [hw];simp)]
 rw [Ab8 hf hb ha rfl]
 ·simp only [Afg,Xr h3]
 ·simp only [Afg,Xr h3,hwr]
  intro h
  rcases h with h | h | h
  ·exact h rfl
  ·rw [Afh,A3p] at h;omega
  ·exact h (Ajz _)
theorem As9 (x:Nat) (h:x<8192):x &&& 57344=0:=by
 have:∀ b<8,∀ a<1024,(1024*b+a) &&& 57344=0:=by decide +kernel
 have h1:=this (x / 1024) (by omega) (x % 1024) (by omega)
 rwa [Nat.div_add_mod] at h1
theorem Am6:∀ b:By,b≠255#8→1≤Hj (~~~ b):=Q5 (by decide +kernel)
theorem Axp:∀ b:By,b.toNat<32→3≤Hj (~~~ b):=Q5 (by decide +kernel)
theorem Afi {k:By} {b:List By} (hw:Cv k b=false):1≤Hj (~~~ (Cj k b)[0])∧1≤Hj (~~~ (Cj k b)[1])∧3≤Hj (~~~ (Cj k b)[257]):=by
 obtain ⟨h1,h2,h3⟩:=Xs hw
 refine ⟨Am6 _ ?_,Am6 _ ?_,Axp _ ?_⟩
 ·rw [show (Cj k b)[0]=(K8 k b)[0] from Nb _ (by omega),Afg];exact h2
 ·rw [show (Cj k b)[1]=(K8 k b)[1] from Nb _ (by omega),Afh]
  intro e
  have:=A6r BitVec.toNat e
  rw [A3p] at this
  have e2:(255#8).toNat=255:=rfl
  omega
 ·rw [show (Cj k b)[257].toNat=Dl (K8 k b) / 256 from Uc _]
  have:=Hw (K8 k b)
  omega
theorem Hl {k:By} {b:List By} (hw:Cv k b=false):Bf (Cj k b)=(k,b,0,0):=by
 obtain ⟨z1,z2,z3⟩:=Afi hw
 have hc:Dt (Cj k b)=Dl (K8 k b):=Am4 _
 have ht:Dt (Cj k b) &&& 57344=0:=by rw [hc];exact As9 _ (Hw _)
 rw [Am5 hw (Ajy (by omega)) (by rw [ht];decide) (n:=0),ht]
 ·rfl
 ·rw [show Il (Cj k b)=K8 k b from Afe _,hc]
  exact Am0 (A4v (Hw _))
end
section
open Go.K
def Fg (b:Int):By:=BitVec.ofInt 8 b
def F4 (v:Wd) (blocks:Int) (uses lost:List Int):List By :=
 Bz 8 v++(L6 1 [BitVec.ofInt 64 blocks,BitVec.ofInt 64 (uses.length:Int),BitVec.ofInt 64 (lost.length:Int)]++(uses.map Fg++(lost.map Fg++[])))
def Dr (v:Wd) (blocks:Int) (uses lost:List Int):Pg:=(Cw 1 (F4 v blocks uses lost)).1
def O2 (b:By):Int:=(b.toNat:Int)
def O3 (body:List By) (blocks:Int):List Int×List Int×Wd×Bool :=
 let a:=C2 8 body false
 let b:=C2 1 a.2.1 a.2.2
 if w64 (b.1.toNat:Int)≠blocks then ([],[],0,false) else
 let n:=C2 1 b.2.1 b.2.2
 let m:=C2 1 n.2.1 n.2.2
 let u:=C4 (max (w64 (n.1.toNat:Int)) 0).toNat m.2.1 m.2.2
 let l:=C4 (max (w64 (m.1.toNat:Int)) 0).toNat u.2.1 u.2.2
 (u.1.map O2,l.1.map O2,a.1,(!l.2.2 && decide ((l.2.1.length:Int)=0)) && decide (w64 (n.1.toNat:Int)=w64 (w64 (blocks - 2) - 4)))
theorem Alz {body:List By} {blocks:Int} {a b:Wd×List By×Bool} (ha:a=C2 8 body false) (hb:b=C2 1 a.2.1 a.2.2) (h:¬ w64 (b.1.toNat:Int)=blocks):O3 body blocks=([],[],0,false):=by
 subst hb;subst ha;unfold O3;grind
theorem Wg {body:List By} {blocks:Int} {a b n m:Wd×List By×Bool} {u l:List By×List By×Bool} (ha:a=C2 8 body false) (hb:b=C2 1 a.2.1 a.2.2) (h:w64 (b.1.toNat:Int)=blocks)
  (hn:n=C2 1 b.2.1 b.2.2) (hm:m=C2 1 n.2.1 n.2.2) (hu:u=C4 (max (w64 (n.1.toNat:Int)) 0).toNat m.2.1 m.2.2) (hl:l=C4 (max (w64 (m.1.toNat:Int)) 0).toNat u.2.1 u.2.2) :
  O3 body blocks=(u.1.map O2,l.1.map O2,a.1,(!l.2.2 && decide ((l.2.1.length:Int)=0)) && decide (w64 (n.1.toNat:Int)=w64 (w64 (blocks - 2) - 4))):=by
 subst hl;subst hu;subst hm;subst hn;subst hb;subst ha;unfold O3;grind
def Ed (q:Pg) (blocks:Int):List Int×List Int×Wd×Bool :=
 let f:=Bf q
 if f.2.2.2≠0∨f.1≠1 then ([],[],0,false) else
 O3 f.2.1 blocks
structure TS where
 uses:List Int
 lost:List Int
 version:Wd
 area:Int
 next:Int
 at':Int
deriving DecidableEq
def E6 (c:Chip) (a i:Int) (q:Pg):Int:=if B0 c a i=0∧B3 c a i≠q then 33 else B0 c a i
def Fp (c:Chip) (a i:Int) (q:Pg):Int:=if (Bl c a i q).1=0 then E6 (Bl c a i q).2 a i q else (Bl c a i q).1
def F5:Nat→Chip→Int→Int→Pg→Int×Int×Chip
 | 0,c,_,_,_=>(8,34,c)
 | f+1,c,a,i,q=>if Fp c a i q≠32∧Fp c a i q≠33 then (i+1,Fp c a i q,(Bl c a i q).2) else F5 f (Bl c a i q).2 a (i+1) q
def Gk (c:Chip) (a i:Int) (q:Pg):Int×Int×Chip:=F5 (8 - i).toNat c a i q
theorem Sa {c:Chip} {a i:Int} {q:Pg} (hi:i<8) (he:Fp c a i q≠32∧Fp c a i q≠33):Gk c a i q=(i+1,Fp c a i q,(Bl c a i q).2):=by
 unfold Gk
 rw [show (8 - i).toNat=(8 - (i+1)).toNat+1 by omega,F5]
 rw [A6v he]
theorem Ai6 {c:Chip} {a i:Int} {q:Pg} (hi:i<8) (he:¬ (Fp c a i q≠32∧Fp c a i q≠33)):Gk c a i q=Gk (Bl c a i q).2 a (i+1) q:=by
 unfold Gk
 rw [show (8 - i).toNat=(8 - (i+1)).toNat+1 by omega,F5]
 rw [A6u he]
theorem Wh {c:Chip} {a i:Int} {q:Pg} (hi:¬ i<8):Gk c a i q=(8,34,c):=by
 unfold Gk
 rw [show (8 - i).toNat=0 by omega,F5]
theorem F9 (c:Chip) (i j:Int) (d:Pg):(Bl c i j d).2.aC=c.aC:=by
 unfold Bl
 split
 ·split
  ·rfl
  ·split
   ·simp only []
    split
    ·rfl
    ·split <;> rfl
   ·rfl
 ·rfl
theorem Ie (c:Chip) (i:Int):(Bm c i).2.aC=c.aC:=by
 unfold Bm
 split
 ·split
  ·rfl
  ·simp only []
   split
   ·rfl
   ·split <;> rfl
 ·rfl
theorem Aei (a:Int) (q:Pg):∀ (f:Nat) (c:Chip) (i:Int),(F5 f c a i q).2.2.aC=c.aC
 | 0,c,i=>rfl
 | f+1,c,i=>by
  unfold F5
  split
  ·exact F9 c a i q
  ·rw [Aei a q f,F9]
theorem Abi (c:Chip) (a i:Int) (q:Pg):(Gk c a i q).2.2.aC=c.aC:=Aei a q _ c i
theorem Aej (a:Int) (q:Pg):∀ (f:Nat) (c:Chip) (i:Int),0≤i→i+f≤8→0≤(F5 f c a i q).1∧(F5 f c a i q).1≤8
 | 0,c,i,h,_=>⟨by unfold F5;simp,by unfold F5;simp⟩
 | f+1,c,i,h,h8=>by
  unfold F5
  split
  ·omega
  ·exact Aej a q f _ (i+1) (by omega) (by omega)
theorem Abj (c:Chip) (a i:Int) (q:Pg) (h:0≤i):0≤(Gk c a i q).1∧(Gk c a i q).1≤8:=by
 rcases Int.le_total i 8 with h8 | h8
 ·exact Aej a q _ c i h (by omega)
 ·rw [Wh (by omega)];simp
structure KS where
 area:Int
 next:Int
 e:Int
 c:Chip
def G8 (a:Int) (q:Pg) (s:KS):KS :=
 let r:=Bm s.c (1 - a)
 if r.1=0 then ⟨1 - a,(Gk r.2 (1 - a) 0 q).1,(Gk r.2 (1 - a) 0 q).2.1,(Gk r.2 (1 - a) 0 q).2.2⟩ else if r.1=33 then ⟨1 - a,s.next,s.e,r.2⟩ else ⟨1 - a,s.next,r.1,r.2⟩
def Dh:Nat→Int→Pg→KS→KS
 | 0,_,_,s=>s
 | f+1,a,q,s=>if s.e=34 then Dh f a q (G8 a q s) else s
def G9 (t:TS) (uses lost:List Int) (c:Chip):KS :=
 let q:=Dr (t.version+1) c.blocks.length uses lost
 let p:=Gk c t.area t.next q
 Dh 4 t.area q ⟨t.area,p.1,p.2.1,p.2.2⟩
def Bt (t:TS) (uses lost:List Int) (c:Chip):Int×TS×Chip :=
 let s:=G9 t uses lost c
 if s.e≠0 then (s.e,t,s.c) else (0,⟨uses,lost,t.version+1,s.area,s.next,s.next - 1⟩,s.c)
theorem Qv (a:Int) (q:Pg) (s:KS):(G8 a q s).c.aC=s.c.aC:=by
 unfold G8
 simp only []
 split
 ·rw [Abi,Ie]
 ·split <;> exact Ie _ _
theorem Qw {a:Int} {q:Pg} {s:KS} (h:0≤s.next∧s.next≤8):0≤(G8 a q s).next∧(G8 a q s).next≤8:=by
 unfold G8
 simp only []
 split
 ·exact Abj _ _ _ _ (A6g 0)
 grind
structure Sc where
 last:Int
 uses:List Int
 lost:List Int
 newest:Wd
 at':Int
 any:Bool
def K6 (c:Chip) (a:Int) (i:Nat) (s:Sc):Sc :=
 let q:=B3 c a i
 let last:=if Bh q=true then s.last else (i:Int)+1
 let r:=Ed q c.blocks.length
 if (r.2.2.2 && (!s.any || decide ((s.newest.toNat:Int)≤r.2.2.1.toNat)))=true then ⟨last,r.1,r.2.1,r.2.2.1,i,true⟩ else { s with last:=last }
def Ce (c:Chip) (a:Int):Nat→Sc
 | 0=>⟨0,[],[],0,0,false⟩
 | i+1=>K6 c a i (Ce c a i)
def ts0:TS:=⟨[],[],0,0,0,0⟩
def Je (c:Chip) (a:Nat) (t:TS×Bool):TS×Bool :=
 let s:=Ce c a 8
 if (s.any && (!t.2 || decide ((t.1.version.toNat:Int)<s.newest.toNat)))=true then (⟨s.uses,s.lost,s.newest,a,s.last,s.at'⟩,true) else t
def C9 (c:Chip):Nat→TS×Bool
 | 0=>(ts0,false)
 | a+1=>Je c a (C9 c a)
def Di (c:Chip):Int×TS :=
 if B0 c 0 0≠0 then (B0 c 0 0,ts0) else if (C9 c 2).2=true then (0,(C9 c 2).1) else (35,ts0)
def Mb (c:Chip) (b:Int):Bool:=Ey c b && Yt c b
def Hg (c:Chip) (size:Int):Nat→List Int×List Int
 | 0=>([],[])
 | i+1 =>
  let s:=Hg c size i
  if Mb c i=true then (s.1,s.2++[(i:Int)]) else if (decide (2≤(i:Int)) && decide ((s.1.length:Int)<size))=true then (s.1++[(i:Int)],s.2) else s
def Ha (c:Chip):Wd×Int×Int:=if (Di c).1=0 then ((Di c).2.version,(Di c).2.area,(Di c).2.next) else (0,0,0)
def Fm (c:Chip):Int:=w64 (w64 ((c.blocks.length:Int) - 2) - 4)
def E3 (c:Chip):TS:=⟨(Hg c (Fm c) c.blocks.length).1,(Hg c (Fm c) c.blocks.length).2,(Ha c).1,(Ha c).2.1,(Ha c).2.2,0⟩
def Lu (c:Chip):Bool:=(Mb c 0 || Mb c 1) || decide (((E3 c).uses.length:Int)<Fm c)
def Dz (c:Chip):Int×TS×Chip :=
 if B0 c 0 0≠0 then (B0 c 0 0,ts0,c) else
 if Lu c=true then (34,ts0,c) else
 if (Bt (E3 c) (E3 c).uses (E3 c).lost c).1≠0 then ((Bt (E3 c) (E3 c).uses (E3 c).lost c).1,ts0,(Bt (E3 c) (E3 c).uses (E3 c).lost c).2.2) else Bt (E3 c) (E3 c).uses (E3 c).lost c
theorem Zl (c:Chip) (a:Int):∀ i,0≤(Ce c a i).last∧(Ce c a i).last≤i
 | 0=>by simp [Ce]
 | i+1=>by
  have ih:=Zl c a i
  show 0≤(K6 c a i (Ce c a i)).last∧_
  have:(K6 c a i (Ce c a i)).last=if Bh (B3 c a i)=true then (Ce c a i).last else (i:Int)+1:=by unfold K6;grind
  show 0≤(K6 c a i (Ce c a i)).last∧(K6 c a i (Ce c a i)).last≤_
  rw [this]
  split <;> omega
theorem S7 (c:Chip):∀ k,k≤2→(0≤(C9 c k).1.area∧(C9 c k).1.area≤1)∧0≤(C9 c k).1.next∧(C9 c k).1.next≤8
 | 0,_=>by simp [C9,ts0]
 | k+1,h=>by
  have ih:=S7 c k (by omega)
  have hl:=Zl c k 8
  show (0≤(Je c k (C9 c k)).1.area∧(Je c k (C9 c k)).1.area≤1)∧0≤(Je c k (C9 c k)).1.next∧(Je c k (C9 c k)).1.next≤8
  unfold Je
  grind
theorem Ag1 (c:Chip):(0≤(Ha c).2.1∧(Ha c).2.1≤1)∧0≤(Ha c).2.2∧(Ha c).2.2≤8:=by
 unfold Ha
 split
 ·unfold Di
  split
  ·simp [ts0]
  ·split
   ·exact S7 c 2 (A6h _)
   ·simp [ts0]
 ·simp
theorem Aek (c:Chip) (size:Int):∀ i,(Hg c size i).1.length≤i∧(Hg c size i).2.length≤i
 | 0=>by simp [Hg]
 | i+1=>by
  have ih:=Aek c size i
  unfold Hg
  grind
def D6 (t:TS) (n:Int) (b:Int):Bool:=((decide (2≤b) && decide (b<n)) && !E8 t.uses b) && !E8 t.lost b
def Lw (t:TS) (n:Nat):Option Nat:=(List.range n).find? fun b=>D6 t n b
def atT (t:TS) (l:Int):Int×Bool:=if (decide (l<0) || decide ((t.uses.length:Int)≤l))=true then (0,false) else (at0 t.uses l,true)
def Be (t:TS) (n:Nat):Int×Bool:=match Lw t n with | some b=>((b:Int),true) | none=>(0,false)
theorem Ael {t:TS} {n i:Nat} (hi:i<n) (hn:∀ k<i,D6 t n k=false) (h:D6 t n i=true):Be t n=((i:Int),true):=by
 have:Lw t n=some i:=by
  unfold Lw
  rw [List.find?_eq_some_iff_append]
  refine ⟨h,List.range i,(List.range' (i+1) (n - i - 1)),?_,fun x hx=>by rw [hn x (A5n.1 hx)];rfl⟩
  apply A4o
  ·simp;omega
  grind
 unfold Be;rw [this]
theorem Ag2 {t:TS} {n:Nat} (hn:∀ k<n,D6 t n k=false):Be t n=(0,false):=by
 have:Lw t n=none:=by
  unfold Lw
  rw [List.find?_eq_none]
  grind
 unfold Be;rw [this]
theorem Aq9 {c:Chip} {a i:Int} (hb:2≤c.blocks.length) (ha:0≤a∧a<2) (hi:0≤i∧i<8):B0 c a i=B0 c 0 0:=by
 have h:∀ a i:Int,0≤a∧a<2→0≤i∧i<8→((!Ey c a || decide (i<0)) || decide (8≤i))=false:=by
  intro a i ha hi
  have h1:Ey c a=true:=by unfold Ey;simp;omega
  have h2:¬ i<0:=by omega
  have h3:¬ 8≤i:=by omega
  grind
 unfold B0
 rw [h a i ha hi,h 0 0 (by omega) (by omega)]
end
end Go.Proofs.YtpmojdippdlcaaaGreatDoor
