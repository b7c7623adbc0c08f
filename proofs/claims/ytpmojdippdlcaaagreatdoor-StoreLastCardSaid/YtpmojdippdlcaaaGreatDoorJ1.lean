/- For every input, what is said of the program's store holds: its nodes, its last commit; the conditions are the statement's own: part 1. -/
import Derived.Test.YtpmojdippdlcaaaGreatDoorJ0
import Derived.Laws.Externs
import Derived.Sort.Row
import Derived.Sort.Grow
import Derived.RangeFuncLeaves
import Derived.Lib.SlBytesConst
import Derived.Shelf.GgSortFunc.RowK
import Derived.ProofKit
import Derived.OpenShut
import Derived.ChangeArms
set_option linter.unusedVariables false
set_option linter.unusedSimpArgs false
set_option maxRecDepth 100000
set_option maxHeartbeats 1000000
set_option synthInstance.maxSize 4000
set_option synthInstance.maxHeartbeats 400000
namespace Go.K
section
section
variable {P:Program} {n:Nat} {E:Env} {H:Hp} {Q:C7} {ops:Array Oper} {q:Exit→Act→World→Prop}
structure Inv (ops:Array Oper) (L1 listed:Array Bool):Prop where
 size:listed.size=ops.size
 closed:∀ j oj,ops[j]? =some oj→listed.getD j false=true→∀ e∈oj.after,Region.binds .any e=true→listed.getD e.on false=true
 tail:∀ t,L1.getD t true=false→listed.getD t true=false
theorem Inv.set {L1 listed:Array Bool} {i:Nat} (inv:Inv ops L1 listed) (hi:i∈Region.ready .any ops listed) (hin:L1.getD i true=true):Inv ops L1 (listed.setIfInBounds i true):=by
 obtain ⟨_,oi,hoi,hall⟩:=A50.1 hi
 have hlt:i<listed.size:=by rw [inv.size];exact (A0y.1 hoi).1
 refine ⟨by simp [inv.size],fun j oj hj hl e he hb=> ?_,fun t ht=> ?_⟩
 ·have key:listed.getD e.on false=true:=by
   by_cases hij:i=j
   ·subst hij
    have:oi=oj:=A4o (hoi.symm.trans hj)
    subst this
    exact hall e he hb
   ·rw [A5t false hij] at hl
    exact inv.closed j oj hj hl e he hb
  by_cases hie:i=e.on
  ·rw [← hie]
   simp only [A0v,A0t,if_true,hlt]
   rfl
  ·rw [A5t false hie];exact key
 ·have hit:i≠t:=fun e=>by rw [e,ht] at hin;cases hin
  rw [A5t true hit]
  exact inv.tail t ht
def Zo (ops:Array Oper) (L0 L1:Array Bool) (t:Nat):Nat→Nat→Bool
 | 0,s=>Region.waitsFor .any ops t s
 | f+1,s=>Region.waitsFor .any ops t s || (List.range ops.size).any fun j=> !L0.getD j true && L1.getD j false && Region.waitsFor .any ops j s && Zo ops L0 L1 t f j
def Ul (ops:Array Oper) (L0 L1:Array Bool):Bool :=
 (List.range ops.size).all fun t=>L1.getD t true || ((List.range ops.size).any fun t'=> !L1.getD t' true && Region.waitsFor .any ops t t') || (List.range ops.size).all fun s=>L0.getD s true || !L1.getD s true || Zo ops L0 L1 t 5 s
theorem Acj {L0 L1 listed:Array Bool} {t:Nat} (inv:Inv ops L1 listed) (ht:t∈Region.ready .any ops listed):∀ (f s:Nat),Zo ops L0 L1 t f s=true→listed.getD s true=false→False:=by
 have direct:∀ s,Region.waitsFor .any ops t s=true→listed.getD s true=false→False:=fun s hw hs=>by
  obtain ⟨o,ho,e,he,hb,hon⟩:=A2e hw
  obtain ⟨_,ot,hot,hall⟩:=A50.1 ht
  have:o=ot:=A4o (ho.symm.trans hot)
  subst this
  have:=hall e he hb
  rw [hon,A5z hs] at this
  cases this
 intro f
 induction f with
 | zero=>intro s h hs;exact direct s h hs
 | succ f ih =>
  intro s h hs
  simp only [Zo,A36] at h
  rcases h with h | h
  ·exact direct s h hs
  ·obtain ⟨j,hj,hj2⟩:=A3p.1 h
   simp only [A3n] at hj2
   obtain ⟨⟨⟨h1,h2⟩,h3⟩,h4⟩:=hj2
   have hju:listed.getD j true=false:=by
    obtain ⟨oj,hoj,e,he,hb,hon⟩:=A2e h3
    cases hl:listed.getD j false with
    | true =>
     have:=inv.closed j oj hoj hl e he hb
     rw [hon,A5z hs] at this
     cases this
    | false =>
     have:j<listed.size:=by rw [inv.size];exact A4v.1 hj
     exact getD_in this hl
   exact ih j h4 hju
theorem Sm {L0 L1 listed:Array Bool} (hB:Ul ops L0 L1=true) (h0:∀ i,listed.getD i true=false→L0.getD i true=false) (inv:Inv ops L1 listed) {i:Nat} (hi:L1.getD i true=true) (hun:listed.getD i true=false) :
  ∀ t,L1.getD t true=false→t∉Region.ready .any ops listed:=by
 intro t ht hr
 obtain ⟨_,ot,hot,hall⟩:=A50.1 hr
 have hts:=(A0y.1 hot).1
 have h1:=A3o.1 hB t (A4v.2 hts)
 rw [ht,A40,A36] at h1
 rcases h1 with h1 | h1
 ·obtain ⟨t',ht',h2⟩:=A3p.1 h1
  simp only [A3n,A23] at h2
  obtain ⟨o',ho',e,he,hb,hon⟩:=A2e h2.2
  have:o'=ot:=A4o (ho'.symm.trans hot)
  subst this
  have h3:=hall e he hb
  rw [hon,A5z (inv.tail t' h2.1)] at h3
  cases h3
 ·have his:i<ops.size:=by
   rcases A5g i listed.size with h | h
   ·rw [inv.size] at h;exact h
   ·simp only [A0v,A1l h] at hun;cases hun
  have h2:=A3o.1 h1 i (A4v.2 his)
  rw [h0 i hun,hi,A41,A40,A40] at h2
  exact Acj inv hr 5 i h2 hun
def Um (P:Program) (ops:Array Oper) (q:Exit→Act→World→Prop) (T:World→Prop) (L1:Array Bool) (L:Array Bool→Act→World→Prop):Nat→Array Bool→Act→World→Prop
 | 0,listed,a,w=>L listed a w
 | f+1,listed,a,w =>
  Region.ready .any ops listed≠[]∧∀ i∈Region.ready .any ops listed,L1.getD i true=true∧wpOp P ops q i (fun a' w'=>T w'∧Um P ops q T L1 L f (listed.setIfInBounds i true) a' w') a w
variable {T:World→Prop} {L1:Array Bool} {L:Array Bool→Act→World→Prop}
theorem Un {g:Nat} (hL:∀ listed a w,L listed a w→wpAny P .any ops q g listed a w) :
  ∀ (f:Nat) (listed:Array Bool) (a:Act) (w:World),Um P ops q T L1 L f listed a w→wpAny P .any ops q (f+g) listed a w
 | 0,listed,a,w,h=>by rw [A5k];exact hL _ _ _ h
 | f+1,listed,a,w,h=>by
  rw [show f+1+g=(f+g)+1 by omega]
  exact ⟨fun h0=>absurd h0 h.1,fun i hi=>wpOp_mono (fun a' w' h'=>Un hL f _ a' w' h'.2) (h.2 i hi).2⟩
theorem Uo {L0:Array Bool} {i:Nat} {oi:Oper} {v:Value} (hi:ops[i]? =some oi) (hsel:∀ (j:Nat) (o:Oper) cs b,ops[j]? =some o→o.op≠.select cs b)
  (hQ:∀ c a w,q (.panic c) (a.put oi.dst v) w→q (.panic c) a w) (hB:Ul ops L0 L1=true) (hik:L1.getD i true=true)
  (hdone:∀ listed a w,L listed a w→∀ j∈Region.ready .any ops listed,L1.getD j true=false) :
  ∀ (f:Nat) (listed:Array Bool) (a:Act) (w:World),Inv ops L1 listed→(∀ i,listed.getD i true=false→L0.getD i true=false) →
   (∀ j oj,ops[j]? =some oj→j≠i→listed.getD j true=false→(∀ e∈oj.after,Region.binds .any e=true→e.on≠i)→oi.apart ops oj=true) →
   i∈Region.ready .any ops listed→YieldsIf P ops T oi v a→T w →
   Um P ops q T L1 L f (listed.setIfInBounds i true) (a.put oi.dst v) w→Um P ops q T L1 L (f+1) listed a w:=by
 intro f
 induction f with
 | zero =>
  intro listed a w inv h0 _ hr hy hT H
  have hun:=(A50.1 hr).1
  refine ⟨fun h=>(by rw [h] at hr;cases hr),fun j hj=> ?_⟩
  have hjk:L1.getD j true=true:=by
   cases hc:L1.getD j true with
   | true=>rfl
   | false=>exact absurd hj (Sm hB h0 inv hik hun j hc)
  refine ⟨hjk,?_⟩
  by_cases hji:j=i
  ·subst hji;exact hy.wpOp hi hT ⟨hT,H⟩
  ·have:=hdone _ _ _ H j (ready_mono hj hji)
   rw [hjk] at this;cases this
 | succ f ih =>
  intro listed a w inv h0 hfree hr hy hT H
  have hun:=(A50.1 hr).1
  refine ⟨fun h=>(by rw [h] at hr;cases hr),fun j hj=> ?_⟩
  have hjk:L1.getD j true=true:=by
   cases hc:L1.getD j true with
   | true=>rfl
   | false=>exact absurd hj (Sm hB h0 inv hik hun j hc)
  refine ⟨hjk,?_⟩
  by_cases hji:j=i
  ·subst hji;exact hy.wpOp hi hT ⟨hT,H⟩
  ·have h1:=(H.2 j (ready_mono hj hji)).2
   obtain ⟨hjun,oj,hoj,hall⟩:=A50.1 hj
   have hnot:∀ e∈oj.after,Region.binds .any e=true→e.on≠i:=fun e he hb heq=>by
    have h1:=hall e he hb
    rw [heq,A5z hun] at h1
    cases h1
   have h2:=wpOp_putIf hoj (hfree j oj hoj hji hjun hnot) (fun cs b=>hsel i oi cs b hi) (fun cs b=>hsel j oj cs b hoj) hQ hy h1
   have hfree':∀ m om,ops[m]? =some om→m≠i→(listed.setIfInBounds j true).getD m true=false →
     (∀ e∈om.after,Region.binds .any e=true→e.on≠i)→oi.apart ops om=true:=fun m om hm hmi hun hno=>by
    refine hfree m om hm hmi ?_ hno
    by_cases hjm:j=m
    ·subst hjm;exact hjun
    ·rw [A5t true hjm] at hun;exact hun
   have h0':∀ i,(listed.setIfInBounds j true).getD i true=false→L0.getD i true=false:=fun m hm=>by
    refine h0 m ?_
    by_cases hjm:j=m
    ·subst hjm;exact hjun
    ·rw [A5t true hjm] at hm;exact hm
   refine wpOp_mono (fun a' w' h3=>⟨h3.2.1,ih (listed.setIfInBounds j true) a' w' (inv.set hj hjk) h0' hfree' (ready_mono hr (A54 hji)) h3.1 h3.2.1 ?_⟩) h2
   rw [Array.setIfInBounds_comm _ _ hji]
   exact h3.2.2
theorem Lc {L0 listed:Array Bool} {i:Nat} (h0:∀ j,listed.getD j true=false→L0.getD j true=false):∀ j,(listed.setIfInBounds i true).getD j true=false→L0.getD j true=false:=fun j hj=>by
 refine h0 j ?_
 by_cases hij:i=j
 ·subst hij
  have:(listed.setIfInBounds i true).getD i true=true:=by
   simp only [A0v,A0t,if_true]
   split <;> rfl
  rw [this] at hj
  cases hj
 ·rw [A5t true hij] at hj;exact hj
def Afg (ops:Array Oper) (L1:Array Bool):List (Nat×Bool)→Array Bool→Bool
 | [],listed=>listed == L1 && (Region.ready .any ops listed).all fun j=> !L1.getD j true
 | (i,false)::r,listed=>L1.getD i true && (Region.ready .any ops listed).contains i && Region.free .any ops listed i && Afg ops L1 r (listed.setIfInBounds i true)
 | (i,true)::r,listed=>L1.getD i true && decide (Region.ready .any ops listed=[i]) && Afg ops L1 r (listed.setIfInBounds i true)
theorem Th {L0:Array Bool} (hs:Region.noSelect ops=true) (hB:Ul ops L0 L1=true) (hQ:∀ c a w,¬ q (.panic c) a w) {K:Act→World→Prop} :
  ∀ (ord:List (Nat×Bool)) (l:List (Oper×Bool)) (listed:Array Bool) (a:Act) (w:World),Inv ops L1 listed→(∀ i,listed.getD i true=false→L0.getD i true=false)→Br ops.toList ord=some l→Afg ops L1 ord listed=true→T w→wpX P ops T q K l a w →
   Um P ops q T L1 (fun listed' a' w'=>listed'=L1∧(Region.ready .any ops listed').all (fun j=> !L1.getD j true)=true∧K a' w') ord.length listed a w
 | [],l,listed,a,w,inv,h0,hp,hc,hT,h=>by
  simp only [Br,A3h] at hp
  subst hp
  simp only [Afg,A3n,A5x] at hc
  exact ⟨hc.1,hc.2,h⟩
 | (i,x)::ord,l,listed,a,w,inv,h0,hp,hc,hT,h=>by
  simp only [Br] at hp
  cases ho:ops.toList[i]? with
  | none=>rw [ho] at hp;cases hp
  | some o =>
   rw [ho] at hp
   cases hp2:Br ops.toList ord with
   | none=>simp [hp2] at hp
   | some t =>
    simp only [hp2,A3h] at hp
    subst hp
    have ho':ops[i]? =some o:=by simpa using ho
    cases x with
    | false =>
     simp only [Afg,A3n] at hc
     obtain ⟨⟨⟨h1,h2⟩,h3⟩,h4⟩:=hc
     obtain ⟨v,hy,hw⟩:=h
     have hr:i∈Region.ready .any ops listed:=by simpa using h2
     refine Uo ho' (A2d hs) (fun c a w hh=>absurd hh (hQ c _ w)) hB h1 (fun listed a w hh j hj=> ?_) _ listed a w inv h0 (A33 ho' h3) hr hy hT ?_
     ·have:=A3o.1 hh.2.1 j hj
      simpa using this
     ·exact Th hs hB hQ ord t _ _ _ (inv.set hr h1) (Lc h0) hp2 h4 hT hw
    | true =>
     simp only [Afg,A3n,A3j] at hc
     obtain ⟨⟨h1,h2⟩,h4⟩:=hc
     have hr:i∈Region.ready .any ops listed:=by rw [h2];exact .head _
     refine ⟨fun h0=>(by rw [h0] at hr;cases hr),fun j hj=> ?_⟩
     have hji:j=i:=by rw [h2] at hj;simpa using hj
     subst hji
     refine ⟨h1,?_⟩
     unfold wpOp
     simp only [ho']
     simp only [wpX] at h
     split
     ·rename_i hw
      rw [if_pos hw] at h
      refine .inl (A5l (fun a' w' hh=>⟨hh.1,Th hs hB hQ ord t _ _ _ (inv.set hr h1) (Lc h0) hp2 h4 hh.1 hh.2⟩) h)
     ·rename_i hw
      rw [if_neg hw] at h
      exact ⟨hT,Th hs hB hQ ord t _ _ _ (inv.set hr h1) (Lc h0) hp2 h4 hT h⟩
theorem Ack {T':World→Prop} {L1':Array Bool} {L':Array Bool→Act→World→Prop} (hk:∀ i,L1.getD i true=true→L1'.getD i true=true) (hT:∀ w,T w→T' w) {g:Nat} (hL:∀ listed a w,L listed a w→Um P ops q T' L1' L' g listed a w) :
  ∀ (f:Nat) (listed:Array Bool) (a:Act) (w:World),Um P ops q T L1 L f listed a w→Um P ops q T' L1' L' (f+g) listed a w
 | 0,listed,a,w,h=>by rw [A5k];exact hL _ _ _ h
 | f+1,listed,a,w,h=>by
  rw [show f+1+g=(f+g)+1 by omega]
  exact ⟨h.1,fun i hi=>⟨hk i (h.2 i hi).1,wpOp_mono (fun a' w' h'=>⟨hT _ h'.1,Ack hk hT hL f _ a' w' h'.2⟩) (h.2 i hi).2⟩⟩
def Fin (ops:Array Oper) (q:Exit→Act→World→Prop):Array Bool→Act→World→Prop:=fun listed a w=>Region.ready .any ops listed=[]∧q .normal a w
abbrev PhM:=List (List (Nat×Bool))
def Ank:List (Nat×Bool)→Array Bool→Array Bool
 | [],l=>l
 | (i,_)::r,l=>Ank r (l.setIfInBounds i true)
def Aw5 (ops:Array Oper) (L1 listed:Array Bool):Bool :=
 (listed.size == ops.size) && ((List.range ops.size).all fun j=> !listed.getD j false || (match ops[j]? with | some o=>o.after.all fun e=> !Region.binds .any e || listed.getD e.on false | none=>true)) && (L1.size == ops.size) && (List.range ops.size).all fun t=>L1.getD t true || !listed.getD t true
def Pd (ops:Array Oper):Array Bool→PhM→Bool
 | listed,[]=>(Region.ready .any ops listed).isEmpty
 | listed,ord::r=>let L1:=Ank ord listed
  Aw5 ops L1 listed && Ul ops listed L1 && Afg ops L1 ord listed && Pd ops L1 r
def Pe (l:List Oper):PhM→Option (List (List (Oper×Bool)))
 | []=>some []
 | ord::r=>match Br l ord with | some t=>(match Pe l r with | some u=>some (t::u) | none=>none) | none=>none
theorem Asx {L1 listed:Array Bool} (h:Aw5 ops L1 listed=true):Inv ops L1 listed:=by
 simp only [Aw5,A3n,A5x] at h
 obtain ⟨⟨⟨h1,h2⟩,h3⟩,h4⟩:=h
 refine ⟨h1,fun j oj hj hl e he hb=> ?_,fun t ht=> ?_⟩
 ·have hjs:=(A0y.1 hj).1
  have:=A3o.1 h2 j (A4v.2 hjs)
  rw [hl,A41,A40,hj] at this
  have:=Array.all_eq_true_iff_forall_mem.1 this e he
  rw [hb,A41,A40] at this
  exact this
 ·rcases A5g t ops.size with hts | hts
  ·have:=A3o.1 h4 t (A4v.2 hts)
   rw [ht,A40] at this
   simpa using this
  ·simp only [A0v,A1l (show L1.size≤t by omega)] at ht
   cases ht
def Uq:PhM→Nat
 | []=>0
 | o::r=>o.length+Uq r
theorem Mk {i:Nat} (m:Nat):(Array.replicate m true).getD i true=true:=by
 simp only [A0v,Array.getElem?_replicate]
 split <;> rfl
theorem Sn (hs:Region.noSelect ops=true) (hQ:∀ c a w,¬ q (.panic c) a w) :
  ∀ (ph:PhM) (l:List (List (Oper×Bool))) (listed:Array Bool) (a:Act) (w:World),Pd ops listed ph=true→Pe ops.toList ph=some l→As9 P ops q l a w→Um P ops q (fun _=>True) (Array.replicate ops.size true) (Fin ops q) (Uq ph) listed a w
 | [],l,listed,a,w,hc,hp,h=>by
  simp only [Pe,A3h] at hp
  subst hp
  simp only [Pd,List.isEmpty_iff] at hc
  exact ⟨hc,h⟩
 | ord::ph,l,listed,a,w,hc,hp,h=>by
  simp only [Pe] at hp
  cases h1:Br ops.toList ord with
  | none=>simp [h1] at hp
  | some t =>
   cases h2:Pe ops.toList ph with
   | none=>simp [h1,h2] at hp
   | some u =>
    simp only [h1,h2,A3h] at hp
    subst hp
    simp only [Pd,A3n] at hc
    obtain ⟨⟨⟨hinv,hB⟩,hsch⟩,hrest⟩:=hc
    obtain ⟨T,hT,hx⟩:=h
    have hrun:=Th (P:=P) hs hB hQ ord t listed a w (Asx hinv) (fun i hi=>hi) h1 hsch hT hx
    exact Ack (g:=Uq ph) (L':=Fin ops q) (fun i _=>Mk _) (fun _ _=>trivial) (fun listed a' w' hh=>by
     obtain ⟨e,_,hK⟩:=hh
     subst e
     exact Sn hs hQ ph u _ a' w' hrest h2 hK) _ _ _ _ hrun
def Aj1 (ops:Array Oper):List Nat→Array Bool→Option (Array Bool)
 | [],listed=>some listed
 | i::r,listed=>if (Region.ready .any ops listed).contains i && Region.free .any ops listed i then Aj1 ops r (listed.setIfInBounds i true) else none
def Ws (l:List Nat):List (Nat×Bool):=l.map fun i=>(i,false)
theorem Asy {listed:Array Bool} (h1:listed.size=ops.size) (h2:∀ j oj,ops[j]? =some oj→listed.getD j false=true→∀ e∈oj.after,Region.binds .any e=true→listed.getD e.on false=true):Inv ops (Array.replicate ops.size true) listed :=
 ⟨h1,h2,fun t ht=>by rw [Mk] at ht;cases ht⟩
theorem Av0 (hs:Region.noSelect ops=true) (hQ:∀ c a w,¬ q (.panic c) a w) {K:Act→World→Prop} {g:Nat} {L2:Array Bool} (hK:∀ a w,K a w→Um P ops q (fun _=>True) (Array.replicate ops.size true) (Fin ops q) g L2 a w) :
  ∀ (pre:List Nat) (l:List (Oper×Bool)) (listed:Array Bool) (a:Act) (w:World),Inv ops (Array.replicate ops.size true) listed→Br ops.toList (Ws pre)=some l→Aj1 ops pre listed=some L2→wpX P ops (fun _=>True) q K l a w →
   Um P ops q (fun _=>True) (Array.replicate ops.size true) (Fin ops q) (pre.length+g) listed a w
 | [],l,listed,a,w,inv,hp,hc,h=>by
  simp only [Ws,A5a,Br,A3h] at hp
  subst hp
  simp only [Aj1,A3h] at hc
  subst hc
  rw [A4c,A5k]
  exact hK _ _ h
 | i::pre,l,listed,a,w,inv,hp,hc,h=>by
  simp only [Ws,A45,Br] at hp
  cases ho:ops.toList[i]? with
  | none=>rw [ho] at hp;cases hp
  | some o =>
   rw [ho] at hp
   cases hp2:Br ops.toList (pre.map fun i=>(i,false)) with
   | none=>simp [hp2] at hp
   | some t =>
    simp only [hp2,A3h] at hp
    subst hp
    have ho':ops[i]? =some o:=by simpa using ho
    simp only [Aj1] at hc
    split at hc
    ·rename_i hcc
     simp only [A3n] at hcc
     obtain ⟨v,hy,hw⟩:=h
     have hr:i∈Region.ready .any ops listed:=by simpa using hcc.1
     rw [A3v,show pre.length+1+g=(pre.length+g)+1 by omega]
     have hB:Ul ops listed (Array.replicate ops.size true)=true:=A3o.2 fun t _=>by rw [Mk];rfl
     refine Uo ho' (A2d hs) (fun c a w hh=>absurd hh (hQ c _ w)) hB (Mk _) (fun listed a w hh j hj=>by rw [hh.1] at hj;cases hj) _ listed a w inv (fun i hi=>hi) (A33 ho' hcc.2) hr hy trivial ?_
     exact Av0 hs hQ hK pre t _ _ _ (inv.set hr (Mk _)) hp2 hc hw
    ·cases hc
end
section
variable {P:Program} {n:Nat} {E:Env} {H:Hp} {Q:C7} {ops:Array Oper}
def Afh [rg:Rg] (P:Program) (n:Nat) (ops:Array Oper) (w0:World) (H0:Hp) (Q:C7) (pp:List (Oper×Bool)) (l:List (List (Oper×Bool))) (E:Env) (H:Hp):Prop :=
 SX P n ops w0 H0 Q [] pp (fun E H=>SP P n ops w0 H0 Q l E H) E H
theorem Anl {T T':World→Prop} (hT:∀ w,T w) {q:Exit→Act→World→Prop} {K:Act→World→Prop}:∀ (l:List (Oper×Bool)) (a:Act) (w:World),(l.all fun o=> !o.2)=true→wpX P ops T q K l a w→wpX P ops T' q K l a w
 | [],a,w,_,h=>h
 | (o,false)::r,a,w,hl,⟨v,hy,h⟩=>by
  simp only [A44,A3n] at hl
  exact ⟨v,hy.imp (fun ⟨h1,h2⟩=>⟨h1,fun w' _=>h2 w' (hT w')⟩) id,Anl hT r _ _ hl.2 h⟩
 | (o,true)::r,a,w,hl,h=>by simp at hl
theorem Acl:∀ {l:List Oper} {pre:List Nat} {pp:List (Oper×Bool)},Br l (Ws pre)=some pp→(pp.all fun o=> !o.2)=true
 | l,[],pp,h=>by simp only [Ws,A5a,Br,A3h] at h;subst h;rfl
 | l,i::pre,pp,h=>by
  simp only [Ws,A45,Br] at h
  cases ho:l[i]? with
  | none=>rw [ho] at h;cases h
  | some o =>
   rw [ho] at h
   cases hp2:Br l (pre.map fun i=>(i,false)) with
   | none=>simp [hp2] at h
   | some t =>
    simp only [hp2,A3h] at h
    subst h
    have:=Acl (l:=l) (pre:=pre) hp2
    simp only [A44,A3n,this,and_true]
    rfl
def Acm (ops:Array Oper) (pre:List Nat) (ph:PhM):Bool :=
 decide (pre.length+Uq ph=ops.size) && match Aj1 ops pre (Array.replicate ops.size false) with | none=>false | some L2=>Pd ops L2 ph
theorem Acn [rg:Rg] {id:Nat} {l:List Oper} (pre:List Nat) (ph:PhM) {pp:List (Oper×Bool)} {pl:List (List (Oper×Bool))} [hw:Wide P]
  (hc:(Region.noSelect l.toArray && Acm l.toArray pre ph)=true) (hpp:Br l (Ws pre)=some pp) (hp:Pe l ph=some pl)
  (h:∀ w0 H0,Afh P n l.toArray w0 H0 Q pp pl E H):SC P n (.region id l.toArray true) E H Q:=by
 intro a w h1 h2 h3 h4
 simp only [A3n] at hc
 obtain ⟨c2,c4⟩:=hc
 refine I0 hw.eq ?_
 have hnil:∀ w':World,HpOk [] w':=fun w'=>⟨List.Pairwise.nil,fun x hx=>by cases hx⟩
 have hrun:=h w H a { w with drawn:=w.drawn+1 } h1 h2 h3 (C8 h4 _) (hnil _)
 simp only [Acm,A3n,A3j] at c4
 obtain ⟨d0,c4⟩:=c4
 cases hL:Aj1 l.toArray pre (Array.replicate l.toArray.size false) with
 | none=>rw [hL] at c4;cases c4
 | some L2 =>
  rw [hL] at c4
  simp only at c4
  have inv0:Inv l.toArray (Array.replicate l.toArray.size true) (Array.replicate l.toArray.size false):=Asy (by simp) (fun j oj hj hl=>by
   simp only [A0v,Array.getElem?_replicate] at hl
   split at hl <;> cases hl)
  have hpre:=Av0 (P:=P) (q:=UpN n w H Q) (g:=Uq ph) (L2:=L2) c2 (fun c a w hh=>hh) (K:=UpK n w H (fun E' H'=>SP P n l.toArray w H Q pl E' H')) (fun a' w' hK=>by
   obtain ⟨E',H',k1,k2,k3,k4,k5⟩:=hK
   exact Sn c2 (fun c a w hh=>hh) ph pl L2 a' w' c4 (by simpa using hp) (k5 a' w' k1 k2 k3 k4)) pre pp _ a _ inv0 (by simpa using hpp) hL (Anl hnil pp a _ (Acl hpp) hrun)
  rw [d0] at hpre
  have hany:=Un (g:=0) (fun listed a w hh=>⟨hh.1,hh.2⟩) _ _ _ _ hpre
  rw [A5e] at hany
  refine s_draw1.wpAny_post ?_ _ _ _ _ hany
  intro e a w hh
  cases e <;> first | exact hh | exact hh.elim
theorem Pf [rg:Rg] {id:Nat} {l:List Oper} (Y:List (Nat×Nat)) (pre:List Nat) (ph:PhM) {pp:List (Oper×Bool)} {pl:List (List (Oper×Bool))} [hw:Wide P]
  (hc:(Aco l Y && Region.noSelect l.toArray && Acm l.toArray pre ph)=true) (hpp:Br l (Ws pre)=some pp) (hp:Pe l ph=some pl)
  (h:∀ ops w0 H0,Yok ops Y→Afh P n ops w0 H0 Q pp pl E H):SC P n (.region id l.toArray true) E H Q :=
 have hc':Aco l Y=true∧(Region.noSelect l.toArray && Acm l.toArray pre ph)=true:=by
  simp only [A3n] at hc ⊢
  exact ⟨hc.1.1,hc.1.2,hc.2⟩
 Acn pre ph hc'.2 hpp hp fun w0 H0=>h _ w0 H0 (An7 hc'.1)
abbrev Cl:=Nat×Nat×Value
def Q7 (Hs:Hp) (cl:List Cl) (w:World):Prop:=HpOk Hs w∧∀ x∈cl,w.cell? ⟨x.1,x.2.1,none⟩=some x.2.2
def SXc [rg:Rg] (P:Program) (n:Nat) (ops:Array Oper) (w0:World) (H0:Hp) (Q:C7) (Hs:Hp) (cl:List Cl) (l:List (Oper×Bool)) (K:Env→Hp→Prop) (E:Env) (H:Hp):Prop :=
 ∀ a w,EnvOk E a→a.tmps.size=n→a.defers=rg.ds→Trk w0 w H0 H→Q7 Hs cl w→wpX P ops (Q7 Hs cl) (UpN n w0 H0 Q) (UpK n w0 H0 K) l a w
variable {w0:World} {H0 Hs:Hp} {cl:List Cl} {l:List (Oper×Bool)} {r:List (List (Oper×Bool))} {K:Env→Hp→Prop}
def Ur (H:Hp) (cl:List Cl):Prop:=∀ x∈cl,∃ r cs T fr,(x.1,r,CF cs T fr)∈H∧nth cs x.2.1=some x.2.2
theorem Xh:Ur H []:=fun x hx=>by cases hx
theorem Us {b o:Nat} {v:Value} {r:Bool} {cs:List Value} {T:TypeId} {fr:Nat×Nat} (hm:(b,r,CF cs T fr)∈H) (hv:nth cs o=some v) (h:Ur H cl):Ur H ((b,o,v)::cl):=fun x hx=>by
 cases hx with
 | head=>exact ⟨r,cs,T,fr,hm,hv⟩
 | tail _ hx=>exact h x hx
theorem Ahn {w:World} {F:Hp} (h:HpOk H w) (hs:Split H Hs F) (hc:Ur H cl):Q7 Hs cl w :=
 ⟨(h.perm hs.perm).left,fun x hx=>by
  obtain ⟨r,cs,T,fr,hm,hv⟩:=hc x hx
  rw [Jx (h.here _ hm)];exact hv⟩
theorem Azd [rg:Rg] (Hs:Hp) (cl:List Cl) {F:Hp} (hs:Split H Hs F) (hc:Ur H cl) (h:SXc P n ops w0 H0 Q Hs cl l (fun E H=>SP P n ops w0 H0 Q r E H) E H):SP P n ops w0 H0 Q (l::r) E H :=
 fun a w h1 h2 h3 h4 =>
  have hok:=Ahn h4.ok hs hc
  ⟨Q7 Hs cl,hok,Ea (fun a' w' ⟨E',H',k1,k2,k3,k4,k5⟩=>k5 a' w' k1 k2 k3 k4) l a w (h a w h1 h2 h3 h4 hok)⟩
theorem Aw6 [rg:Rg] (h:K E H):SXc P n ops w0 H0 Q Hs cl [] K E H:=fun a w h1 h2 h3 h4 _=>⟨E,H,h1,h2,h3,h4,h⟩
theorem Aho [rg:Rg] {d:Nat} {op:Op} {ty:TypeId} {pos:String} {af:Array Edge} {v:Value} (hr:Rd P E Hs op v) (hd:Nat.blt d n=true)
  (kk:SXc P n ops w0 H0 Q Hs cl l K ((d,v)::E) H):SXc P n ops w0 H0 Q Hs cl ((⟨some d,op,ty,pos,af,none⟩,false)::l) K E H:=by
 intro a w h1 h2 h3 h4 h5
 have hlt:d<a.tmps.size:=by rw [h2];exact A13 hd
 exact ⟨v,.inl ⟨rfl,fun w' hw'=>hr a w' (some d) ty pos af none h1 hw'.1⟩,kk _ w (h1.put hlt) (by simp [Act.put,h2]) h3 h4 h5⟩
theorem Aze [rg:Rg] {d:Nat} {t:TypeId} {x:Operand} {ty:TypeId} {pos:String} {af:Array Edge} {b o:Nat} {v:Value} [ht:Agg P t false] (hx:ev E x=some (.pointer (some ⟨b,o,none⟩))) (hm:(b,o,v)∈cl) (hd:Nat.blt d n=true)
  (kk:SXc P n ops w0 H0 Q Hs cl l K ((d,v)::E) H):SXc P n ops w0 H0 Q Hs cl ((⟨some d,.load t x,ty,pos,af,none⟩,false)::l) K E H:=by
 intro a w h1 h2 h3 h4 h5
 have hlt:d<a.tmps.size:=by rw [h2];exact A13 hd
 refine ⟨v,.inl ⟨rfl,fun w' hw'=> ?_⟩,kk _ w (h1.put hlt) (by simp [Act.put,h2]) h3 h4 h5⟩
 have:=hw'.2 _ hm
 simp only at this
 simp [execOp,Au h1 hx,Instr.loadAt,Instr.sureAddr,loadVar,Io,this]
theorem Azf [rg:Rg] {o:Oper} (h:SO P n ops [o] E H (fun e E' H'=>e= .normal∧(∃ F,Split H' Hs F)∧Ur H' cl∧SXc P n ops w0 H0 Q Hs cl l K E' H')):SXc P n ops w0 H0 Q Hs cl ((o,true)::l) K E H:=by
 intro a w h1 h2 h3 h4 h5
 have hk:=h a w h1 h2 h3 h4.ok
 simp only [wpList] at hk
 simp only [wpX]
 have fin:∀ a' w',Up n w H (fun e E' H'=>e= .normal∧(∃ F,Split H' Hs F)∧Ur H' cl∧SXc P n ops w0 H0 Q Hs cl l K E' H') .normal a' w'→Q7 Hs cl w'∧wpX P ops (Q7 Hs cl) (UpN n w0 H0 Q) (UpK n w0 H0 K) l a' w':=by
  rintro a' w' ⟨E',H',k1,k2,k3,k4,_,⟨F,k5⟩,k6,k7⟩
  have hok:=Ahn k4.ok k5 k6
  exact ⟨hok,k7 a' w' k1 k2 k3 (h4.trans k4) hok⟩
 split
 ·rename_i hw
  rw [if_pos hw] at hk
  rcases hk with hk | ⟨_,a0,w1,E',H',_,_,_,_,hh,_⟩
  ·refine Lh (fun v w' hh=>fin _ _ hh) (fun d w' hh=>fin _ _ hh) ?_ hk
   rintro e a' w' hne ⟨E',H',_,_,_,k4,k5,k6,k7⟩
   exact absurd k5 hne
  ·cases hh
 ·rename_i hw
  rw [if_neg hw] at hk
  exact (fin _ _ hk).2
end
end
section
def Azg (kd:IntKind):Nat→List (Int×Value)→List MapEntry
 | _,[]=>[]
 | i,e::es=>{ key:= .int kd e.1,val:=e.2,born:=i }::Azg kd (i+1) es
def Asz (kd:IntKind) (es:List (Int×Value)):Obj:= .map (Azg kd 0 es).toArray es.length
section
variable {P:Program} {n:Nat} {E:Env} {H:Hp} {Q:C7} {ops:Array Oper} {rest:List Oper}
theorem Ev {w:World} {b:Nat} {es:Array MapEntry} {c:Nat} (h:w.heap[b]? =some (.map es c)):(getObj b).run P w= .ok (.map es c) w:=by
 simp [getObj,Sem.run,h]
theorem Anm {w:World} {b i:Nat} {s:Option Nat} {es:Array MapEntry} {c:Nat} (h:w.heap[b]? =some (.map es c)):w.frozen? ⟨b,i,s⟩=false:=by
 simp [World.frozen?,h]
theorem Ke {w:World} {b:Nat} {es:Array MapEntry} {c:Nat} {o:Obj} (h:w.heap[b]? =some (.map es c)):(setObj b o).run P w= .ok () (Cb w b o):=by
 simp [setObj,Sem.run,h,Cb]
theorem Ij {t:TypeId} {kd:IntKind} [ht:Und P t (.int kd)] {b:Bool} {k:Int} {w:World}:(Instr.checkKey b 10000 t (.int kd k)).run P w= .ok () w:=by
 unfold Instr.checkKey
 simp [A4y ht.eq]
class ZerV (P:Program) (t:TypeId) (v:outParam Value):Prop where eq:(P.info? t).map (fun i=>i.zero)=some (some v)
theorem Xi {t:TypeId} {v:Value} [h:ZerV P t v] {w:World}:(zeroValue t).run P w= .ok v w:=by
 have:=h.eq
 cases hq:P.info? t with
 | none=>simp [hq] at this
 | some i =>
  simp [hq] at this
  simp [zeroValue,typeInfo,hq,this]
theorem Aj2 [rg:Rg] {d:Nat} {t:TypeId} {ty:TypeId} {pos:String} {af:Array Edge} (kd:IntKind) (hd:Nat.blt d n=true)
  (k:∀ b,SO P n ops rest ((d,.map (some b))::E) ((b,true,Asz kd [])::H) Q):SO P n ops (⟨some d,.makeMap t none,ty,pos,af,none⟩::rest) E H Q:=by
 intro a w h1 h2 h3 h4
 refine A5o rfl fun K hK=> ?_
 have hrun:(execOp a.eval ⟨some d,.makeMap t none,ty,pos,af,none⟩).run P w= .ok (.value (.map (some w.heap.size))) { w with heap:=w.heap.push (Asz kd []) }:=by
  rfl
 unfold Oper.wp
 rw [hrun]
 have hlt:d<a.tmps.size:=by rw [h2];exact A13 hd
 have ht:=Zp (o:=Asz kd []) h4 (fun i s=>by simp [World.frozen?,Asz])
 exact hK _ _ (B2 ht (k _ _ _ (h1.put hlt) (by simp [Act.put,h2]) h3 ht.ok))
end
end
section
open Go Go.Sem
theorem Does.inn {P:Program} {f:FuncId} {args:List Value} {L F H:Hp} {R R':Value→Hp→Prop} (h:Does P f args L R) (hs:Split H L F)
  (hr:∀ v Y,R v Y→∃ Y',R' v Y'∧∃ K G,Ap Y F K∧Split K Y' G):Does P f args H R':=fun w hw=>by
 have hp:=hs.perm
 have hk:=hw.perm hp
 refine (h w hk.left).mono fun e w' ⟨v,Y,h1,h2,h3⟩=> ?_
 obtain ⟨Y',h4,K,G,h5,h6⟩:=hr v Y h2
 exact ⟨v,Y',h1,h4,((h3.frame hk).perm_left hp.symm).split (by rw [h5.eq];exact h6)⟩
theorem Does.inIs {P:Program} {f:FuncId} {args:List Value} {L F H Y Y' G K:Hp} {X:Value} (h:Does P f args L (Is X Y)) (hs:Split H L F) (ha:Ap Y F K) (hr:Split K Y' G):Does P f args H (Is X Y') :=
 h.inn hs fun v Z ⟨h1,h2⟩=>⟨Y',⟨h1,rfl⟩,K,G,by rw [h2];exact ha,hr⟩
end
section
open Go Go.Sem
theorem sP {H L F:Hp} (h:Split H L F:=by repeat (first | exact Split.nil | (apply Split.cons;next=>repeat (first | exact Pick.here | apply Pick.there | apply Pick.app)) | (apply Split.chunk;next=>repeat (first | exact PickL.here | exact PickL.last | apply PickL.there | apply PickL.app)) | (apply Split.lst;repeat (first | exact PickL.here | exact PickL.last | apply PickL.there | apply PickL.app)))):Split H L F:=h
theorem aQ {Y F H:Hp} (h:Ap Y F H:=by repeat (first | exact Ap.nil | apply Ap.cons | apply Ap.app | exact Ap.one)):Ap Y F H:=h
theorem pL {L H F:Hp} (h:PickL L H F:=by repeat (first | exact PickL.here | exact PickL.last | apply PickL.there | apply PickL.app)):PickL L H F:=h
theorem uL {L M H F:Hp} (h:UpdL L M H F:=by repeat (first | exact UpdL.here | exact UpdL.last | apply UpdL.there | apply UpdL.app)):UpdL L M H F:=h
theorem mM {α:Type} {x:α} {H:List α} (h:x∈H:=by repeat' first | exact List.Mem.head _ | apply List.Mem.tail | apply A10):x∈H:=h
theorem uD {b:Nat} {o o':Obj} {H K:Hp} (h:Upd b o o' H K:=by repeat' first | exact Upd.here | apply Upd.there | apply Upd.app):Upd b o o' H K:=h
theorem kP {E F:Env} (h:Keep E F:=by repeat' first | exact Keep.nil | refine Keep.cons rfl ?_):Keep E F:=h
theorem kQ {E F:Env} {l:List Nat} (h:Keep2 E l F:=by repeat' first | exact Keep2.nil | apply Keep2.cons rfl):Keep2 E l F:=h
theorem lZ {E M F:Env} {H L R:Hp} (h1:Keep E M:=by repeat' first | exact Keep.nil | refine Keep.cons rfl ?_) (h2:Keep E F:=by repeat' first | exact Keep.nil | refine Keep.cons rfl ?_) (h3:Split H L R:=by repeat (first | exact Split.nil | (apply Split.cons;next=>repeat (first | exact Pick.here | apply Pick.there | apply Pick.app)) | (apply Split.chunk;next=>repeat (first | exact PickL.here | exact PickL.last | apply PickL.there | apply PickL.app)) | (apply Split.lst;repeat (first | exact PickL.here | exact PickL.last | apply PickL.there | apply PickL.app)))):Keep E M∧Keep E F∧∃ R,Split H L R:=⟨h1,h2,R,h3⟩
section
variable {P:Program} {n:Nat} {E:Env} {H:Hp} {Q:C7} {ops:Array Oper} {rest:List Oper} {d:Nat} {ty:TypeId} {pos:String} {af:Array Edge}
theorem oR [rg:Rg] {op:Op} {v:Value} (hr:Rd P E H op v) (k:SO P n ops rest ((d,v)::E) H Q) (hd:Nat.blt d n=true:=by rfl):SO P n ops (⟨some d,op,ty,pos,af,none⟩::rest) E H Q:=Ah hr hd k
theorem oM [rg:Rg] {x:Operand} {v:Value} (hx:ev E x=some v) (k:SO P n ops rest ((d,v)::E) H Q) (hd:Nat.blt d n=true:=by rfl):SO P n ops (⟨some d,.move x,ty,pos,af,none⟩::rest) E H Q:=Ah (Dc hx) hd k
theorem oA [rg:Rg] {x:Operand} {v:Value} (hx:ev E x=some v) (k:SO P n ops rest ((d,v)::E) H Q) (hd:Nat.blt d n=true:=by rfl):SO P n ops (⟨some d,.assign x,ty,pos,af,none⟩::rest) E H Q:=Ah (Ng hx) hd k
theorem oN [rg:Rg] {x:Operand} {ad:Addr} (hx:ev E x=some (.pointer (some ad))) (k:SO P n ops rest ((d,.pointer (some ad))::E) H Q) (hd:Nat.blt d n=true:=by rfl):SO P n ops (⟨some d,.nilCheck x,ty,pos,af,none⟩::rest) E H Q:=Ah (Hj hx) hd k
theorem oF [rg:Rg] {s:TypeId} {x:Operand} {f b o q:Nat} [hs:Fld P s f q] (hx:ev E x=some (.pointer (some ⟨b,o,none⟩))) (k:SO P n ops rest ((d,.pointer (some ⟨b,o+q,none⟩))::E) H Q) (hd:Nat.blt d n=true:=by rfl):SO P n ops (⟨some d,.fieldAddr s x f,ty,pos,af,none⟩::rest) E H Q:=Ah (De hx) hd k
theorem oE [rg:Rg] {x:Operand} {i:Nat} {vs:Array Value} {v:Value} (hx:ev E x=some (.tuple vs)) (hv:nth vs.toList i=some v) (k:SO P n ops rest ((d,v)::E) H Q) (hd:Nat.blt d n=true:=by rfl):SO P n ops (⟨some d,.extract x i,ty,pos,af,none⟩::rest) E H Q:=Ah (Gk hx hv) hd k
end
section
variable {P:Program} {n:Nat} {ops:Array Oper} {w0:World} {H0 Hs:Hp} {Q:C7} {l:List (Oper×Bool)} {K:Env→Hp→Prop} {E:Env} {H:Hp} {d:Nat} {ty:TypeId} {pos:String} {af:Array Edge}
theorem xR [rg:Rg] {op:Op} {v:Value} (hr:Rd P E Hs op v) (k:SX P n ops w0 H0 Q Hs l K ((d,v)::E) H) (hd:Nat.blt d n=true:=by rfl):SX P n ops w0 H0 Q Hs ((⟨some d,op,ty,pos,af,none⟩,false)::l) K E H:=Cr hr hd k
theorem xM [rg:Rg] {x:Operand} {v:Value} (hx:ev E x=some v) (k:SX P n ops w0 H0 Q Hs l K ((d,v)::E) H) (hd:Nat.blt d n=true:=by rfl):SX P n ops w0 H0 Q Hs ((⟨some d,.move x,ty,pos,af,none⟩,false)::l) K E H:=Cr (Dc hx) hd k
theorem xA [rg:Rg] {x:Operand} {v:Value} (hx:ev E x=some v) (k:SX P n ops w0 H0 Q Hs l K ((d,v)::E) H) (hd:Nat.blt d n=true:=by rfl):SX P n ops w0 H0 Q Hs ((⟨some d,.assign x,ty,pos,af,none⟩,false)::l) K E H:=Cr (Ng hx) hd k
theorem xN [rg:Rg] {x:Operand} {ad:Addr} (hx:ev E x=some (.pointer (some ad))) (k:SX P n ops w0 H0 Q Hs l K ((d,.pointer (some ad))::E) H) (hd:Nat.blt d n=true:=by rfl):SX P n ops w0 H0 Q Hs ((⟨some d,.nilCheck x,ty,pos,af,none⟩,false)::l) K E H:=Cr (Hj hx) hd k
theorem xF [rg:Rg] {s:TypeId} {x:Operand} {f b o q:Nat} [hs:Fld P s f q] (hx:ev E x=some (.pointer (some ⟨b,o,none⟩))) (k:SX P n ops w0 H0 Q Hs l K ((d,.pointer (some ⟨b,o+q,none⟩))::E) H) (hd:Nat.blt d n=true:=by rfl):SX P n ops w0 H0 Q Hs ((⟨some d,.fieldAddr s x f,ty,pos,af,none⟩,false)::l) K E H:=Cr (De hx) hd k
theorem xE [rg:Rg] {x:Operand} {i:Nat} {vs:Array Value} {v:Value} (hx:ev E x=some (.tuple vs)) (hv:nth vs.toList i=some v) (k:SX P n ops w0 H0 Q Hs l K ((d,v)::E) H) (hd:Nat.blt d n=true:=by rfl):SX P n ops w0 H0 Q Hs ((⟨some d,.extract x i,ty,pos,af,none⟩,false)::l) K E H:=Cr (Gk hx hv) hd k
end
end
section
open Go Go.Sem
theorem Q8 [rg:Rg] {P:Program} {n:Nat} {E:Env} {H:Hp} {Q:C7} {x y:Code} (I:Env→Hp→Prop)
  (h:SC P n x E H (thn (fun E' H'=>∃ F L,I F L∧Keep E' F∧∃ R,Split H' L R) Q)) (k:∀ F L,I F L→SC P n y F L Q):SC P n (.seq x y) E H Q :=
 Ag (h.mono fun e E' H' hh=>by
  cases e with
  | normal=>obtain ⟨F,L,hi,h2,R,h3⟩:=hh;exact Aw2 h2 h3 (k F L hi)
  | _=>exact hh)
theorem jZ {E F:Env} {H L R:Hp} (h2:Keep E F:=by repeat' first | exact Keep.nil | refine Keep.cons rfl ?_) (h3:Split H L R:=by repeat (first | exact Split.nil | (apply Split.cons;next=>repeat (first | exact Pick.here | apply Pick.there | apply Pick.app)) | (apply Split.chunk;next=>repeat (first | exact PickL.here | exact PickL.last | apply PickL.there | apply PickL.app)) | (apply Split.lst;repeat (first | exact PickL.here | exact PickL.last | apply PickL.there | apply PickL.app)))):Keep E F∧∃ R,Split H L R:=⟨h2,R,h3⟩
end
section
open Go Go.Sem
def F1:Nat→List Oper→List (Nat×Nat)
 | _,[]=>[]
 | i,o::l=>match o.dst with
  | some d=>(i,d)::F1 (i+1) l
  | none=>F1 (i+1) l
theorem Ac0 {j d:Nat}:∀ {l:List Oper} {i:Nat},(j,d)∈F1 i l→i≤j∧(l[j - i]?).bind (·.dst)=some d
 | [],_,h=>by cases h
 | o::l,i,h=>by
  have ih:(j,d)∈F1 (i+1) l→i≤j∧((o::l)[j - i]?).bind (·.dst)=some d:=fun h=>by
   obtain ⟨h1,h2⟩:=Ac0 h
   refine ⟨by omega,?_⟩
   rw [show j - i=(j - (i+1))+1 by omega]
   exact h2
  unfold F1 at h
  split at h
  ·rename_i e he
   rcases A46.1 h with h | h
   ·cases h
    exact ⟨A5q _,by rw [A5h];exact he⟩
   ·exact ih h
  ·exact ih h
theorem As7 (l:List Oper):Yok l.toArray (F1 0 l):=fun j d h=>by
 have:=(Ac0 h).2
 simpa using this
abbrev yk {l:List Oper}:Yok l.toArray (F1 0 l):=As7 l
def gJ:List Oper→Option (Nat×Bool)
 | []=>none
 | o::_=>o.guard
def gX:List (Oper×Bool)→Option (Nat×Bool)
 | []=>none
 | o::_=>o.1.guard
class GetI (l:List Oper) (i:Nat) (o:outParam Oper):Prop where eq:l[i]? =some o
instance GetI.z {o:Oper} {l:List Oper}:GetI (o::l) 0 o:=⟨rfl⟩
instance GetI.s {o p:Oper} {l:List Oper} {i:Nat} [h:GetI l i p]:GetI (o::l) (i+1) p:=⟨h.eq⟩
class PkO (l:List Oper) (is:List (Nat×Bool)) (r:outParam (List (Oper×Bool))):Prop where eq:Br l is=some r
instance PkO.n {l:List Oper}:PkO l [] []:=⟨rfl⟩
instance PkO.c {l:List Oper} {i:Nat} {b:Bool} {is:List (Nat×Bool)} {o:Oper} {r:List (Oper×Bool)} [h:GetI l i o] [k:PkO l is r]:PkO l ((i,b)::is) ((o,b)::r):=⟨by simp only [Br,h.eq,k.eq]⟩
class PkP (l:List Oper) (ph:Mq) (r:outParam (List (List (Oper×Bool)))):Prop where eq:Lj l ph=some r
instance PkP.n {l:List Oper}:PkP l [] []:=⟨rfl⟩
instance PkP.c {l:List Oper} {i:Nat} {o:List (Nat×Bool)} {ph:Mq} {t:List (Oper×Bool)} {r:List (List (Oper×Bool))} [h:PkO l o t] [k:PkP l ph r]:PkP l ((i,o)::ph) (t::r):=⟨by simp only [Lj,h.eq,k.eq]⟩
class PkM (l:List Oper) (ph:PhM) (r:outParam (List (List (Oper×Bool)))):Prop where eq:Pe l ph=some r
instance PkM.n {l:List Oper}:PkM l [] []:=⟨rfl⟩
instance PkM.c {l:List Oper} {o:List (Nat×Bool)} {ph:PhM} {t:List (Oper×Bool)} {r:List (List (Oper×Bool))} [h:PkO l o t] [k:PkM l ph r]:PkM l (o::ph) (t::r):=⟨by simp only [Pe,h.eq,k.eq]⟩
class PkL (l:List Oper) (is:List Nat) (r:outParam (List (Oper×Bool))):Prop where eq:Br l (Ws is)=some r
instance PkL.n {l:List Oper}:PkL l [] []:=⟨rfl⟩
instance PkL.c {l:List Oper} {i:Nat} {is:List Nat} {o:Oper} {r:List (Oper×Bool)} [h:GetI l i o] [k:PkL l is r]:PkL l (i::is) ((o,false)::r):=⟨by have:=k.eq;simp only [Ws,A45,Br] at this ⊢;simp only [h.eq,this]⟩
class PkA (d:Nat) (l:List Oper) (a:outParam (List Oper)) (p:outParam Oper) (r:outParam (List Oper)):Prop where eq:l=l.take a.length++p::r∧l.take a.length=a
instance (priority:=high) PkA.z {d:Nat} {dst:Option Tmp} {x y:Operand} {ty:TypeId} {pos:String} {af:Array Edge} {g:Option (Nat×Bool)} {r:List Oper}:PkA d (⟨dst,.pick (.tmp d) x y,ty,pos,af,g⟩::r) [] ⟨dst,.pick (.tmp d) x y,ty,pos,af,g⟩ r:=⟨rfl,rfl⟩
instance PkA.s {d:Nat} {o p:Oper} {l a r:List Oper} [h:PkA d l a p r]:PkA d (o::l) (o::a) p r:=⟨by have:=h.eq.1;simp only [A3v,A2m,A3q,A38,true_and];exact this,by simp only [A3v,A2m,h.eq.2]⟩
class PkX (d:Nat) (l:List (Oper×Bool)) (a:outParam (List (Oper×Bool))) (p:outParam (Oper×Bool)) (r:outParam (List (Oper×Bool))):Prop where eq:l=l.take a.length++p::r∧l.take a.length=a
instance (priority:=high) PkX.z {d:Nat} {dst:Option Tmp} {x y:Operand} {ty:TypeId} {pos:String} {af:Array Edge} {g:Option (Nat×Bool)} {b:Bool} {r:List (Oper×Bool)}:PkX d ((⟨dst,.pick (.tmp d) x y,ty,pos,af,g⟩,b)::r) [] (⟨dst,.pick (.tmp d) x y,ty,pos,af,g⟩,b) r:=⟨rfl,rfl⟩
instance PkX.s {d:Nat} {o p:Oper×Bool} {l a r:List (Oper×Bool)} [h:PkX d l a p r]:PkX d (o::l) (o::a) p r:=⟨by have:=h.eq.1;simp only [A3v,A2m,A3q,A38,true_and];exact this,by simp only [A3v,A2m,h.eq.2]⟩
section
variable {P:Program} {n:Nat} {E:Env} {H:Hp} {Q:C7} {l0 rest:List Oper}
theorem A0e [rg:Rg] {d:Option Tmp} {op:Op} {ty:TypeId} {pos:String} {af:Array Edge} {j dj:Nat} {b:Bool} (hj:yl (F1 0 l0) j=some dj) (hb:fnd E dj=some (.bool b))
  (k:SO P n l0.toArray (⟨d,op,ty,pos,af,none⟩::rest) E H Q):SO P n l0.toArray (⟨d,op,ty,pos,af,some (j,b)⟩::rest) E H Q:=o_g yk hj hb k
theorem Lw [rg:Rg] {l a:List Oper} {t u:Bool} {j dj db d:Nat} {ty:TypeId} {pos:String} {af:Array Edge} {gd:Option (Nat×Bool)} (hg:gJ l=some (j,false)) (hj:yl (F1 0 l0) j=some dj)
  (hp:PkA dj l a ⟨some d,.pick (.tmp dj) (.const (.bool true)) (.tmp db),ty,pos,af,gd⟩ rest) (hc:fnd E dj=some (.bool t)) (hgd:gOk E (F1 0 l0) gd=true) (hd:Nat.blt d n=true)
  (hsk:skB (F1 0 l0) j false [] a=true) (hfr:(a.all fun o=>fresh E o.dst)=true)
  (hb:t=false→SO P n l0.toArray a ((dj,.bool false)::E) H (Xt db u H))
  (kk:SO P n l0.toArray rest ((d,.bool (t || u))::E) H Q):SO P n l0.toArray l E H Q :=
 Ac1 (k:=a.length) yk hj hc hp.eq.1 hgd hd (by rw [hp.eq.2];exact hsk) (by rw [hp.eq.2];exact hfr) (fun h=>by rw [hp.eq.2];exact hb h) kk
theorem H9 [rg:Rg] {l a:List Oper} {t u:Bool} {j dj db d:Nat} {ty:TypeId} {pos:String} {af:Array Edge} {gd:Option (Nat×Bool)} (hg:gJ l=some (j,true)) (hj:yl (F1 0 l0) j=some dj)
  (hp:PkA dj l a ⟨some d,.pick (.tmp dj) (.tmp db) (.const (.bool false)),ty,pos,af,gd⟩ rest) (hc:fnd E dj=some (.bool t)) (hgd:gOk E (F1 0 l0) gd=true) (hd:Nat.blt d n=true)
  (hsk:skB (F1 0 l0) j true [] a=true) (hfr:(a.all fun o=>fresh E o.dst)=true)
  (hb:t=true→SO P n l0.toArray a ((dj,.bool true)::E) H (Xt db u H))
  (kk:SO P n l0.toArray rest ((d,.bool (t && u))::E) H Q):SO P n l0.toArray l E H Q :=
 Xu (k:=a.length) yk hj hc hp.eq.1 hgd hd (by rw [hp.eq.2];exact hsk) (by rw [hp.eq.2];exact hfr) (fun h=>by rw [hp.eq.2];exact hb h) kk
theorem Azj [rg:Rg] {db:Nat} {u:Bool} {K F:Hp} {ops:Array Oper} (h:fnd E db=some (.bool u)) (hs:Split H K F):SO P n ops [] E H (Xt db u K):=Ad ⟨rfl,h,F,hs⟩
end
def SPz [rg:Rg] (P:Program) (n:Nat) (ops:Array Oper) (Q:C7) (l:List (List (Oper×Bool))) (E:Env) (H:Hp):Prop:=∀ w0 H0,SP P n ops w0 H0 Q l E H
def SXz [rg:Rg] (P:Program) (n:Nat) (ops:Array Oper) (Q:C7) (Hs:Hp) (l:List (Oper×Bool)) (K:World→Hp→Env→Hp→Prop) (E:Env) (H:Hp):Prop:=∀ w0 H0,SX P n ops w0 H0 Q Hs l (K w0 H0) E H
section
variable {P:Program} {n:Nat} {E:Env} {H Hs:Hp} {Q:C7} {ops:Array Oper} {l0:List Oper} {l:List (Oper×Bool)} {r:List (List (Oper×Bool))} {K:World→Hp→Env→Hp→Prop}
theorem A0 [rg:Rg] {id:Nat} {l:List Oper} (ph:Mq) {pl:List (List (Oper×Bool))} [hw:Wide P] [hp:PkP l ph pl] (hc:(Region.noSelect l.toArray && Jn l.toArray && Jo l.toArray 0 ph)=true)
  (h:SPz P n l.toArray Q pl E H):SC P n (.region id l.toArray true) E H Q:=s_draw1 ph hc hp.eq h
theorem Mn [rg:Rg] {id:Nat} {l:List Oper} (pre:List Nat) (ph:PhM) {pp:List (Oper×Bool)} {pl:List (List (Oper×Bool))} [hw:Wide P] [hq:PkL l pre pp] [hp:PkM l ph pl] (hc:(Region.noSelect l.toArray && Acm l.toArray pre ph)=true)
  (h:SXz P n l.toArray Q [] pp (fun w0 H0 E H=>SP P n l.toArray w0 H0 Q pl E H) E H):SC P n (.region id l.toArray true) E H Q:=Acn pre ph hc hq.eq hp.eq h
theorem Axe [rg:Rg] (h:Q .normal E H):SPz P n ops Q [] E H:=fun _ _=>Eh h
theorem Axf [rg:Rg] (h:SXz P n ops Q H l (fun w0 H0 E H=>SP P n ops w0 H0 Q r E H) E H):SPz P n ops Q (l::r) E H:=fun w0 H0=>Ce (h w0 H0)
theorem As8 [rg:Rg] (ha:(l.all (·.2))=true) (h:SXz P n ops Q [] l (fun w0 H0 E H=>SP P n ops w0 H0 Q r E H) E H):SPz P n ops Q (l::r) E H:=fun w0 H0=>Dx (h w0 H0)
theorem Av3 [rg:Rg] (Hs:Hp) {F:Hp} (hs:Split H Hs F) (h:SXz P n ops Q Hs l (fun w0 H0 E H=>SP P n ops w0 H0 Q r E H) E H):SPz P n ops Q (l::r) E H:=fun w0 H0=>An8 Hs hs (h w0 H0)
theorem Axg [rg:Rg] (h:SPz P n ops Q r E H):SXz P n ops Q Hs [] (fun w0 H0 E H=>SP P n ops w0 H0 Q r E H) E H:=fun w0 H0=>As (h w0 H0)
theorem Hu [rg:Rg] {db:Nat} {u:Bool} {L F:Hp} (h:fnd E db=some (.bool u)) (hs:Split H L F):SXz P n ops Q Hs [] (fun _ _ E' H'=>fnd E' db=some (.bool u)∧∃ F,Split H' L F) E H:=fun w0 H0=>As ⟨h,F,hs⟩
theorem Aq [rg:Rg] {d:Nat} {op:Op} {ty:TypeId} {pos:String} {af:Array Edge} {v:Value} (hr:Rd P E Hs op v) (k:SXz P n ops Q Hs l K ((d,v)::E) H) (hd:Nat.blt d n=true:=by rfl):SXz P n ops Q Hs ((⟨some d,op,ty,pos,af,none⟩,false)::l) K E H:=fun w0 H0=>Cr hr hd (k w0 H0)
theorem A0f [rg:Rg] {d:Option Tmp} {op:Op} {ty:TypeId} {pos:String} {af:Array Edge} {j dj:Nat} {b x:Bool} (hj:yl (F1 0 l0) j=some dj) (hb:fnd E dj=some (.bool b))
  (k:SXz P n l0.toArray Q Hs ((⟨d,op,ty,pos,af,none⟩,x)::l) K E H):SXz P n l0.toArray Q Hs ((⟨d,op,ty,pos,af,some (j,b)⟩,x)::l) K E H:=fun w0 H0=>x_g yk hj hb (k w0 H0)
theorem Azk [rg:Rg] {o:Oper} (h:SO P n ops [o] E H (fun e E' H'=>e= .normal∧(∃ F,Split H' Hs F)∧SXz P n ops Q Hs l K E' H')):SXz P n ops Q Hs ((o,true)::l) K E H :=
 fun w0 H0=>B1 fun a w h1 h2 h3 h4=>Jm (fun e a w ⟨E',H',k1,k2,k3,k4,k5,k6,k7⟩=>⟨E',H',k1,k2,k3,k4,k5,k6,k7 w0 H0⟩) _ a w (h a w h1 h2 h3 h4)
theorem Axh [rg:Rg] {F:Hp} (hs:Split H Hs F) (k:SXz P n ops Q Hs l K E H):SO P n ops [] E H (fun e E' H'=>e= .normal∧(∃ F,Split H' Hs F)∧SXz P n ops Q Hs l K E' H'):=Ad ⟨rfl,⟨F,hs⟩,k⟩
theorem Uy [rg:Rg] {a rest:List (Oper×Bool)} {t u:Bool} {j dj db d:Nat} {ty:TypeId} {pos:String} {af:Array Edge} {gd:Option (Nat×Bool)} (hg:gX l=some (j,false)) (hj:yl (F1 0 l0) j=some dj)
  (hp:PkX dj l a (⟨some d,.pick (.tmp dj) (.const (.bool true)) (.tmp db),ty,pos,af,gd⟩,false) rest) (hc:fnd E dj=some (.bool t)) (hgd:gOk E (F1 0 l0) gd=true) (hd:Nat.blt d n=true)
  (hsk:skB (F1 0 l0) j false [] (a.map (·.1))=true) (hfr:(a.all fun o=>fresh E o.1.dst)=true)
  (hb:t=false→SXz P n l0.toArray Q Hs a (fun _ _ E' H'=>fnd E' db=some (.bool u)∧∃ F,Split H' H F) ((dj,.bool false)::E) H)
  (kk:SXz P n l0.toArray Q Hs rest K ((d,.bool (t || u))::E) H):SXz P n l0.toArray Q Hs l K E H :=
 fun w0 H0=>Ake (k:=a.length) yk hj hc hp.eq.1 hgd hd (by rw [hp.eq.2];exact hsk) (by rw [hp.eq.2];exact hfr) (fun h=>by rw [hp.eq.2];exact hb h w0 H0) (kk w0 H0)
theorem Jz [rg:Rg] {a rest:List (Oper×Bool)} {t u:Bool} {j dj db d:Nat} {ty:TypeId} {pos:String} {af:Array Edge} {gd:Option (Nat×Bool)} (hg:gX l=some (j,true)) (hj:yl (F1 0 l0) j=some dj)
  (hp:PkX dj l a (⟨some d,.pick (.tmp dj) (.tmp db) (.const (.bool false)),ty,pos,af,gd⟩,false) rest) (hc:fnd E dj=some (.bool t)) (hgd:gOk E (F1 0 l0) gd=true) (hd:Nat.blt d n=true)
  (hsk:skB (F1 0 l0) j true [] (a.map (·.1))=true) (hfr:(a.all fun o=>fresh E o.1.dst)=true)
  (hb:t=true→SXz P n l0.toArray Q Hs a (fun _ _ E' H'=>fnd E' db=some (.bool u)∧∃ F,Split H' H F) ((dj,.bool true)::E) H)
  (kk:SXz P n l0.toArray Q Hs rest K ((d,.bool (t && u))::E) H):SXz P n l0.toArray Q Hs l K E H :=
 fun w0 H0=>U2 (k:=a.length) yk hj hc hp.eq.1 hgd hd (by rw [hp.eq.2];exact hsk) (by rw [hp.eq.2];exact hfr) (fun h=>by rw [hp.eq.2];exact hb h w0 H0) (kk w0 H0)
end
section
variable {P:Program} {n:Nat} {E:Env} {H Hs:Hp} {Q:C7} {ops:Array Oper} {rest:List Oper} {l:List (Oper×Bool)} {r:List (List (Oper×Bool))} {K:World→Hp→Env→Hp→Prop} {d:Nat} {op:Op} {ty:TypeId} {pos:String} {af:Array Edge} {A:Prop}
theorem isO [rg:Rg] (h:SO P n ops (⟨some d,op,ty,pos,af,none⟩::rest) E H Q):SO P n ops (⟨some d,op,ty,pos,af,none⟩::rest) E H Q:=h
theorem Axi [rg:Rg] {K:Env→Hp→Prop} (h:thn K Q .normal E H):SO P n ops [] E H (thn K Q):=Ad h
theorem Axj [rg:Rg] {i:Nat} (h:blk i Q .normal E H):SO P n ops [] E H (blk i Q):=Ad h
theorem Axk [rg:Rg] {fn:Func} {R:Value→Hp→Prop} (h:G4 P fn R .normal E H):SO P n ops [] E H (G4 P fn R):=Ad h
theorem isS [rg:Rg] {t:TypeId} {x y:Operand} (h:SO P n ops (⟨none,.store t x y,ty,pos,af,none⟩::rest) E H Q):SO P n ops (⟨none,.store t x y,ty,pos,af,none⟩::rest) E H Q:=h
theorem isG [rg:Rg] {d:Option Tmp} {j:Nat} {b:Bool} (h:SO P n ops (⟨d,op,ty,pos,af,some (j,b)⟩::rest) E H Q):SO P n ops (⟨d,op,ty,pos,af,some (j,b)⟩::rest) E H Q:=h
theorem isX [rg:Rg] (h:SXz P n ops Q Hs ((⟨some d,op,ty,pos,af,none⟩,false)::l) K E H):SXz P n ops Q Hs ((⟨some d,op,ty,pos,af,none⟩,false)::l) K E H:=h
theorem Axl [rg:Rg] {d:Option Tmp} {j:Nat} {b x:Bool} (h:SXz P n ops Q Hs ((⟨d,op,ty,pos,af,some (j,b)⟩,x)::l) K E H):SXz P n ops Q Hs ((⟨d,op,ty,pos,af,some (j,b)⟩,x)::l) K E H:=h
theorem A0g [rg:Rg] (h:SPz P n ops Q (l::r) E H):SPz P n ops Q (l::r) E H:=h
theorem Azl [rg:Rg] (h:SO P n ops [] E H (fun e E' H'=>e= .normal∧(∃ F,Split H' Hs F)∧SXz P n ops Q Hs l K E' H')):SO P n ops [] E H (fun e E' H'=>e= .normal∧(∃ F,Split H' Hs F)∧SXz P n ops Q Hs l K E' H'):=h
theorem A0h {i j:Nat} (h:blk i Q (.exit j) E H):blk i Q (.exit j) E H:=h
end
structure Bx (A:Prop):Prop where h:A
theorem sa {A B:Prop} (k:A) (h:Bx A→B:=by
 intro k
 first
 | with_reducible exact Ag k.h
 | with_reducible exact Aj3 k.h
 | with_reducible exact n_K k.h
 | ((with_reducible refine Azl ?_);(refine Axh sP ?_;exact k.h))
 | with_reducible exact Axi k.h
 | with_reducible exact Axj k.h
 | with_reducible exact Axk k.h
 | ((with_reducible refine isO (op:= .move _) ?_);(refine oM rfl ?_;exact k.h))
 | ((with_reducible refine isO (op:= .fieldAddr _ _ _) ?_);(refine oF rfl ?_;exact k.h))
 | ((with_reducible refine isO (op:= .assign _) ?_);(refine oA rfl ?_;exact k.h))
 | ((with_reducible refine isO (op:= .nilCheck _) ?_);(refine oN rfl ?_;exact k.h))
 | ((with_reducible refine isO (op:= .extract _ _) ?_);(refine oE rfl rfl ?_;exact k.h))
 | with_reducible exact Bf k.h
 | with_reducible exact Bd k.h
 | with_reducible exact Cq k.h
 | with_reducible exact E9 k.h
 | with_reducible exact x_K k.h
 | with_reducible exact Hv k.h
 | ((with_reducible refine A0h ?_);exact Axm rfl k.h)
 | with_reducible exact D3 k.h
 | with_reducible exact r_K k.h
 | with_reducible exact Ig k.h
 | ((with_reducible refine isG ?_);(refine A0e rfl rfl ?_;exact k.h))
 | ((with_reducible refine isX (op:= .move _) ?_);(refine Aq (Dc rfl) ?_;exact k.h))
 | ((with_reducible refine isX (op:= .fieldAddr _ _ _) ?_);(refine Aq (De rfl) ?_;exact k.h))
 | ((with_reducible refine isX (op:= .nilCheck _) ?_);(refine Aq (Hj rfl) ?_;exact k.h))
 | ((with_reducible refine isX (op:= .assign _) ?_);(refine Aq (Ng rfl) ?_;exact k.h))
 | ((with_reducible refine isX (op:= .extract _ _) ?_);(refine Aq (Gk rfl rfl) ?_;exact k.h))
 | with_reducible exact Azk k.h
 | with_reducible exact Axg k.h
 | ((with_reducible refine Axl ?_);(refine A0f rfl rfl ?_;exact k.h))
 | ((with_reducible refine A0g ?_);first | (refine As8 rfl ?_;exact k.h) | exact Axf k.h)
 | with_reducible exact Axe k.h):B:=h ⟨k⟩
theorem sb {A B:Prop} (k:A) (h:Bx A→B:=by
 intro k
 first
 | exact sa k.h
 | ((with_reducible refine isO (op:= .load _ _) ?_);(first | (refine oR (Al rfl mM rfl) ?_;exact k.h) | (refine oR (Am rfl mM rfl) ?_;exact k.h)))
 | ((with_reducible refine isO (op:= .binOp .add _ _ _ _) ?_);(first | (refine oR (Bm rfl rfl (by omega)) ?_;exact k.h) | (refine oR (An rfl rfl rfl) ?_;exact k.h)))
 | ((with_reducible refine isO (op:= .binOp .sub _ _ _ _) ?_);(first | (refine oR (F0 rfl rfl (by omega)) ?_;exact k.h) | (refine oR (An rfl rfl rfl) ?_;exact k.h)))
 | ((with_reducible refine isO (op:= .binOp .eql _ _ _ _) ?_);(first | (refine oR (An rfl rfl rfl) ?_;exact k.h) | (refine oR (Anz rfl rfl) ?_;exact k.h) | (refine oR (Axa rfl rfl) ?_;exact k.h)))
 | ((with_reducible refine isO (op:= .binOp .neq _ _ _ _) ?_);(first | (refine oR (An rfl rfl rfl) ?_;exact k.h) | (refine oR (An0 rfl rfl) ?_;exact k.h) | (refine oR (Axb rfl rfl) ?_;exact k.h)))
 | ((with_reducible refine isO (op:= .binOp _ _ _ _ _) ?_);(first | (refine oR (An rfl rfl rfl) ?_;exact k.h)))
 | ((with_reducible refine isS ?_);(refine Ac rfl rfl uD rfl rfl rfl ?_;exact k.h))
 | ((with_reducible refine isO (op:= .call ⟨.builtin .len,_,_⟩) ?_);(first | (refine oR (Gc rfl) ?_;exact k.h)))
 | ((with_reducible refine isO (op:= .unOp .not _ _) ?_);(first | (refine oR (D6 rfl) ?_;exact k.h)))
 | ((with_reducible refine isO (op:= .convert _ _ _) ?_);(first | (refine oR (D9 rfl) ?_;exact k.h)))
 | ((with_reducible refine isO (op:= .indexAddr _ _ _) ?_);(first | (refine oR (H8 rfl rfl (by omega)) ?_;exact k.h)))
 | ((with_reducible refine isO (op:= .build _ _) ?_);(first | (refine oR (Bl rfl rfl) ?_;exact k.h)))
 | ((with_reducible refine isX (op:= .load _ _) ?_);(first | (refine Aq (Al rfl mM rfl) ?_;exact k.h) | (refine Aq (Am rfl mM rfl) ?_;exact k.h)))
 | ((with_reducible refine isX (op:= .binOp _ _ _ _ _) ?_);(first | (refine Aq (An rfl rfl rfl) ?_;exact k.h)))
 | ((with_reducible refine isX (op:= .call ⟨.builtin .len,_,_⟩) ?_);(first | (refine Aq (Gc rfl) ?_;exact k.h)))
 | ((with_reducible refine isX (op:= .convert _ _ _) ?_);(first | (refine Aq (D9 rfl) ?_;exact k.h)))):B:=h ⟨k⟩
theorem sg {A B:Prop} (k:A) (h:Bx A→B:=by
 intro k
 first
 | ((with_reducible refine isG ?_);refine' Lw rfl rfl inferInstance rfl rfl rfl rfl rfl (fun hg=> ?_) ?_;rotate_left;· (try (simp at hg;show _));(repeat refine sb ?_);exact Azj rfl sP)
 | ((with_reducible refine isG ?_);refine' H9 rfl rfl inferInstance rfl rfl rfl rfl rfl (fun hg=> ?_) ?_;rotate_left;· (try (simp at hg;show _));(repeat refine sb ?_);exact Azj rfl sP)
 | ((with_reducible refine Axl ?_);refine' Uy rfl rfl inferInstance rfl rfl rfl rfl rfl (fun hg=> ?_) ?_;rotate_left;· (try (simp at hg;show _));(repeat refine sb ?_);exact Hu rfl sP)
 | ((with_reducible refine Axl ?_);refine' Jz rfl rfl inferInstance rfl rfl rfl rfl rfl (fun hg=> ?_) ?_;rotate_left;· (try (simp at hg;show _));(repeat refine sb ?_);exact Hu rfl sP)
 exact k.h):B:=h ⟨k⟩
theorem zA {A B:Prop} (k:A) (h:Bx A→B:=by intro k;(repeat refine sa ?_);exact k.h):B:=h ⟨k⟩
theorem zC {A B:Prop} (k:A) (h:Bx A→B:=by intro k;(repeat (first | refine sg ?_ | refine sb ?_));exact k.h):B:=h ⟨k⟩
section
variable {P:Program} {n:Nat} {E:Env} {H:Hp} {Q:C7} {ops:Array Oper} {rest:List Oper}
theorem zW [rg:Rg] {l:List Oper} {A:Prop} {Y F G:Hp} (k:A) (hg:Ap Y F G:=by repeat (first | exact Ap.nil | apply Ap.cons | apply Ap.app | exact Ap.one)) (h:Bx A→SO P n ops l E G Q:=by intro k;(repeat (first | refine sg ?_ | refine sb ?_));exact k.h):SO P n ops l E (Y++F) Q:=A5 hg (h ⟨k⟩)
theorem zE [rg:Rg] {d:Nat} {f:FuncId} {xs:List Operand} {ts:Array TypeId} {ty:TypeId} {pos:String} {af:Array Edge} {args:List Value} {L F:Hp} {R:Value→Hp→Prop} [he:Ent P f]
  (hx:evl E xs=some args) (hf:Does P f args L R) (k:∀ v Y,R v Y→SO P n ops rest ((d,v)::E) (Y++F) Q) (hs:Split H L F:=by exact sP) (hd:Nat.blt d n=true:=by rfl) :
  SO P n ops (⟨some d,.call ⟨.value (.func f),xs.toArray,ts⟩,ty,pos,af,none⟩::rest) E H Q:=Ci hx hf hs hd k
theorem zI [rg:Rg] {d:Nat} {f:FuncId} {xs:List Operand} {ts:Array TypeId} {ty:TypeId} {pos:String} {af:Array Edge} {args:List Value} {L F Y G:Hp} {X:Value} [he:Ent P f]
  (hx:evl E xs=some args) (hf:Does P f args L (Is X Y)) (k:SO P n ops rest ((d,X)::E) G Q) (hs:Split H L F:=by exact sP) (hd:Nat.blt d n=true:=by rfl) (hg:Ap Y F G:=by exact aQ) :
  SO P n ops (⟨some d,.call ⟨.value (.func f),xs.toArray,ts⟩,ty,pos,af,none⟩::rest) E H Q:=Jv hx hf hs hd hg k
theorem rS {fn:Func} {v:Value} (h:Ret P fn E H v:=by
 first
 | exact Aw rfl (by first | exact Af rfl | exact Fb rfl mM rfl | exact Bc rfl mM rfl)
 | exact Afe rfl
 | exact Cu rfl (by first | exact Af rfl | exact Fb rfl mM rfl | exact Bc rfl mM rfl) (by first | exact Af rfl | exact Fb rfl mM rfl | exact Bc rfl mM rfl)
 | exact Pp rfl (by first | exact Af rfl | exact Fb rfl mM rfl | exact Bc rfl mM rfl) (by first | exact Af rfl | exact Fb rfl mM rfl | exact Bc rfl mM rfl) (by first | exact Af rfl | exact Fb rfl mM rfl | exact Bc rfl mM rfl)
 | exact U3 rfl (by first | exact Af rfl | exact Fb rfl mM rfl | exact Bc rfl mM rfl) (by first | exact Af rfl | exact Fb rfl mM rfl | exact Bc rfl mM rfl) (by first | exact Af rfl | exact Fb rfl mM rfl | exact Bc rfl mM rfl) (by first | exact Af rfl | exact Fb rfl mM rfl | exact Bc rfl mM rfl)):Ret P fn E H v:=h
theorem zL {fn:Func} {R:Value→Hp→Prop} {v:Value} {Y F:Hp} (hr:Ret P fn E H v:=by exact rS) (hR:R v Y) (hs:Split H Y F:=by exact sP):G4 P fn R .ret E H:=A9 hr hR hs
theorem zLN {fn:Func} {R:Value→Hp→Prop} {v:Value} {Y F:Hp} (hr:Ret P fn E H v:=by exact rS) (hR:R v Y) (hs:Split H Y F:=by exact sP):G4 P fn R .normal E H:=Tm hr hR hs
theorem zS {fn:Func} {X v:Value} {Y F:Hp} (hr:Ret P fn E H v:=by exact rS) (hv:v=X:=by rfl) (hs:Split H Y F:=by exact sP):G4 P fn (Is X Y) .ret E H:=Ak hr hv hs
theorem zSN {fn:Func} {X v:Value} {Y F:Hp} (hr:Ret P fn E H v:=by exact rS) (hv:v=X:=by rfl) (hs:Split H Y F:=by exact sP):G4 P fn (Is X Y) .normal E H:=Pq hr hv hs
theorem zF {f:Nat} (n:Nat) {fn:Func} {c:Code} {args:List Value} {R:Value→Hp→Prop}
  (hf:P.funcs[f]? =some fn) (h:SC P n c (N8 0 args) H (G4 P fn R)) (hn:fn.ntmps=n:=by rfl) (hb:fn.body=some c:=by rfl) (hl:Nat.ble args.length n=true:=by rfl):Does P f args H R:=Dw hf hn hb (A13 hl) h
end
end
section
open Go Go.Sem
set_option linter.unusedSectionVars false
theorem Kf {w:World} {b:Nat} {o o':Obj} {H K:Hp} (h:HpOk H w) (hu:Upd b o o' H K) (h1:∀ c T f,o≠.cells c T f) (h2:∀ c T f,o'≠.cells c T f):Trk w (w.putObj b o') H K :=
 Ph h hu (fun i s=>by
  have hlt:=h.lt hu.mem
  have e1:=h.here _ hu.mem
  simp only at e1
  have e2:(Cb w b o').heap[b]? =some o':=by simp [Cb,hlt]
  unfold World.frozen?
  simp only [e1,e2]
  cases o <;> first | exact absurd rfl (h1 _ _ _) | (cases o' <;> first | exact absurd rfl (h2 _ _ _) | rfl))
theorem Kg {w:World} {H:Hp} (h:HpOk H w) {o:Obj} (h1:∀ c T f,o≠.cells c T f):Trk w (w.alloc o) H ((w.heap.size,true,o)::H) :=
 Zp h (fun i s=>by
  unfold World.frozen?
  simp only [Array.getElem?_push_size]
  cases o <;> first | exact absurd rfl (h1 _ _ _) | rfl)
section
variable {P:Program} {n:Nat} {E:Env} {H:Hp} {Q:C7} {ops:Array Oper} {rest:List Oper}
def SY [rg:Rg] (P:Program) (n:Nat) (ops:Array Oper) (l:List Oper) (E:Env) (H:Hp) (Q:C7):Prop :=
 ∀ a w,EnvOk E a→a.tmps.size=n→a.defers=rg.ds→HpOk H w→wpListIn Rg.F 0 P ops (Up n w H Q) l a w
theorem Q9 [rg:Rg] {id:Nat} {l:List Oper} (Y:List (Nat×Nat)) (hY:Aco l Y=true) (h:∀ ops,Yok ops Y→SY P n ops l E H Q):SC P n (.region id l.toArray false) E H Q:=by
 intro a w h1 h2 h3 h4 _
 refine wpIn_region_lit (h _ ?_ a w h1 h2 h3 h4)
 intro j d hm
 have:=A3o.1 hY (j,d) hm
 simpa using this
theorem Ahq [rg:Rg] (h:Q .normal E H):SY P n ops [] E H Q:=fun a w h1 h2 h3 h4=>⟨E,H,h1,h2,h3,Trk.refl h4,h⟩
theorem y_app [rg:Rg] {l x:List Oper} (y:List Oper) (hl:l=x++y) (hn:rg.rd.isSome=true→x.all Ue=true) (h:SO P n ops x E H (fun e E' H'=>e= .normal∧SY P n ops y E' H' Q)):SY P n ops l E H Q:=by
 intro a w h1 h2 h3 h4
 subst hl
 refine O8 y (Q:=Up n w H (fun e E' H'=>e= .normal∧SY P n ops y E' H' Q)) ?_ ?_ x a w hn (h a w h1 h2 h3 h4)
 ·rintro a' w' ⟨E',H',k1,k2,k3,k4,_,k5⟩
  have:=k5 a' w' k1 k2 k3 k4.ok
  exact wpListIn_post (fun e a w hu=>hu.after k4) _ _ _ this
 ·rintro e a' w' he ⟨E',H',k1,k2,k3,k4,k5,_⟩
  exact he k5
where
 wpListIn_post {F:Fence} {m:Nat} {q q':Exit→Act→World→Prop} (hq:∀ e a w,q e a w→q' e a w):∀ (l:List Oper) (a:Act) (w:World),wpListIn F m P ops q l a w→wpListIn F m P ops q' l a w
  | [],a,w,h=>hq _ _ _ h
  | o::l,a,w,h=>by
   simp only [wpListIn] at h ⊢
   split
   ·rename_i hw
    rw [if_pos hw] at h
    refine ⟨h.1,?_⟩
    have h2:=h.2
    have hk:∀ a w,wpListIn F m P ops q l a w→wpListIn F m P ops q' l a w:=wpListIn_post hq l
    generalize (o.semAt F.round a.eval).run P w=x at h2 ⊢
    cases x with
    | ok x w2 =>
     cases x <;> simp only [Oper.uponIn] at h2 ⊢
     case enter=>exact ⟨h2.1,CallsIn.mono h2.2 fun e w' hh=>by cases e <;> first | exact hk _ _ hh | exact hq _ _ _ hh | exact let ⟨a,w,hh⟩:=hh;⟨a,w,hq .outgrown a w hh⟩⟩
     case round=>exact ⟨h2.1,RoundIn.mono h2.2 fun e w' hh=>by cases e <;> first | exact hk _ _ hh | exact hq _ _ _ hh | exact let ⟨a,w,hh⟩:=hh;⟨a,w,hq .outgrown a w hh⟩⟩
     case row=>exact ⟨h2.1,RowsIn.mono h2.2 fun _ _ hh=>hk _ _ hh⟩
     all_goals first | exact hk _ _ h2 | exact h2.elim
    | halt x w2=>cases x <;> simp only [Oper.uponIn] at h2 ⊢ <;> first | exact hq _ _ _ h2 | exact h2
   ·rename_i hw
    rw [if_neg hw] at h
    exact ⟨h.1,wpListIn_post hq l _ _ h.2⟩
theorem Ml [rg:Rg] {l:List Oper} (k:Nat) (h:SO P n ops (l.take k) E H (fun e E' H'=>e= .normal∧SY P n ops (l.drop k) E' H' Q)) (hn:rg.rd.isSome=true→(l.take k).all Ue=true:=by intro e;cases e):SY P n ops l E H Q :=
 y_app (l.drop k) (A11 k l).symm hn h
theorem Av1 [rg:Rg] {l:List Oper} {F:Env} (hk:Keep E F) (h:SY P n ops l F H Q):SY P n ops l E H Q:=fun a w h1 h2 h3 h4=>h a w (hk.ok h1) h2 h3 h4
def Rnd (P:Program) (l:Nat) (f:FuncId) (tmps:Array Value) (asg bd:Code) (L:Hp) (R:Value→Hp→Prop):Prop :=
 ∀ w,HpOk L w→RoundIn Fence.wide 0 P l f tmps asg bd w fun e w'=>∃ v L',e= .returned v∧R v L'∧Trk w w' L L'
def Gj (r:Loop) (args:List Value):Array Value:=(r.params.zip args.toArray).foldl (fun tmps (t,a)=>tmps.setIfInBounds t a) r.tmps
theorem Zq [rg:Rg] {d l:Nat} {x:Operand} {xs:List Operand} {ts:Array TypeId} {ty:TypeId} {pos:String} {af:Array Edge} {gd:Option (Nat×Bool)} {args:List Value} {r:Loop} {L F:Hp} {R:Value→Hp→Prop} {Y:List (Nat×Nat)} (yk:Yok ops Y)
  (hgd:gOk E Y gd=true) (hg:ev E x=some (.func (.yield l) #[] #[])) (hx:evl E xs=some args) (hz:args.length=r.params.size) (hs:Split H ((l,true,.loop r)::L) F)
  (hr:Rnd P l r.fn (Gj r args) r.assign r.body ((l,true,.loop r)::L) R) (hd:Nat.blt d n=true)
  (k:∀ v L',R v L'→SY P n ops rest ((d,v)::E) (L'++F) Q):SY P n ops (⟨some d,.call ⟨.value x,xs.toArray,ts⟩,ty,pos,af,gd⟩::rest) E H Q:=by
 intro a w h1 h2 h3 h4
 have hp:=hs.perm
 have hok:=h4.perm hp
 have hl:=hok.here (l,true,.loop r) (by simp)
 simp only at hl
 have hrun:(execOp a.eval ⟨some d,.call ⟨.value x,xs.toArray,ts⟩,ty,pos,af,gd⟩).run P w= .ok (.round l r.fn (Gj r args) r.assign r.body) w:=by
  have e:=Zw h1 hx
  have e2:xs.toArray.map a.eval=args.toArray:=by rw [← e];simp
  simp only [execOp,resolve,Sem.run_bind,Au h1 hg,Deferred.ofValue,Sem.run_pure,A3i,invoke]
  rw [e2]
  have hy:=run_yield (P:=P) (args:=args.toArray) hl (by simpa using hz)
  simpa [Gj] using hy
 unfold wpListIn
 rw [if_pos (Li yk hgd h1)]
 refine ⟨fun _ _=>trivial,?_⟩
 rw [Oper.semAt_eq _ _ _ (by simp),hrun,Oper.uponIn_round]
 refine ⟨(fun e=>by cases e),RoundIn.mono (hr w hok.left) ?_⟩
 rintro e w' ⟨v,L',rfl,hR,ht⟩
 have ht':Trk w w' H (L'++F):=(ht.frame hok).perm_left hp.symm
 have hlt:d<a.tmps.size:=by rw [h2];exact A13 hd
 exact y_app.wpListIn_post (fun e a w hu=>hu.after ht') _ _ _ (k v L' hR _ _ (h1.put hlt) (by simp [Act.put,h2]) h3 ht'.ok)
theorem Ut {l f:Nat} {tmps tm:Array Value} {ps:Array Tmp} {asg bd:Code} {fn:FuncId} {D:Nat} {M:Hp} {R:Value→Hp→Prop} (E0:Env) (he:EnvOk E0 { tmps:=tmps,defers:=[] }) (hn:tmps.size=n) (hnd:(J8 asg && J8 bd)=true)
  (h:∀ rg:Rg,SC P n asg E0 ((l,true,.loop ⟨.ready,none,fn,tm,ps,asg,bd,D⟩)::M) (fun e E1 H1=>e= .normal∧∃ N,H1=((l,true,.loop ⟨.ready,none,fn,tm,ps,asg,bd,D⟩)::N) ∧
   SC P n bd E1 ((l,true,.loop ⟨.busy,none,fn,tm,ps,asg,bd,D⟩)::N) (fun e E2 H2=>e= .normal∧∃ N2 F2,Split H2 ((l,true,.loop ⟨.busy,none,fn,tm,ps,asg,bd,D⟩)::N2) F2∧R (.bool true) ((l,true,.loop ⟨.ready,none,fn,tm,ps,asg,bd,D⟩)::N2)))) :
  Rnd P l f tmps asg bd ((l,true,.loop ⟨.ready,none,fn,tm,ps,asg,bd,D⟩)::M) R:=by
 intro w hw
 simp only [A3n] at hnd
 let rg:Rg:=⟨[],some l⟩
 have hF:@Rg.F rg=Fence.wide.inRound l:=rfl
 refine roundIn_of_wpIn trivial ?_
 have h0:=h rg { tmps:=tmps,defers:=[] } w he hn rfl hw (fun _=>⟨fun ⟨a,w,E',H',_,_,_,_,k,_⟩=>(by cases k),hnd.1⟩)
 rw [hF] at h0
 refine A51 h0 ?_
 rintro e a1 w1 ⟨E1,H1,k1,k2,k3,k4,k5,N,k6,k7⟩
 subst k5
 subst k6
 have t1:=k4
 have hl1:=t1.ok.here _ (A2y)
 have t2:=Kf (b:=l) (o':= .loop ⟨.busy,none,fn,tm,ps,asg,bd,D⟩) t1.ok .here (fun _ _ _ e=>nomatch e) (fun _ _ _ e=>nomatch e)
 refine ⟨_,run_beginRound hl1 rfl,?_⟩
 have h1:=k7 a1 (w1.putObj l (.loop ⟨.busy,none,fn,tm,ps,asg,bd,D⟩)) k1 k2 k3 t2.ok (fun _=>⟨fun ⟨a,w,E',H',_,_,_,_,k,_⟩=>(by cases k),hnd.2⟩)
 rw [hF] at h1
 refine A51 h1 ?_
 rintro e a2 w2 ⟨E2,H2,m1,m2,m3,m4,m5,N2,F2,m6,m7⟩
 subst m5
 have t3:=m4.split m6
 have hl2:=t3.ok.here _ (A2y)
 have t4:=Kf (b:=l) (o':= .loop ⟨.ready,none,fn,tm,ps,asg,bd,D⟩) t3.ok .here (fun _ _ _ e=>nomatch e) (fun _ _ _ e=>nomatch e)
 exact ⟨_,_,run_endRound none hl2,.bool true,_,rfl,m7,((t1.trans t2).trans t3).trans t4⟩
end
def mark (D:Nat):Blk:=(D,true,.deferred (some []))
def DQ (P:Program) (fn:Func) (w:World) (H:Hp) (R:Value→Hp→Prop):Exit→Act→World→Prop:=fun e a' w' =>
 (e= .normal∨e= .ret)∧∃ E' H' D v L,EnvOk E' a'∧a'.defers=[⟨.collected D,#[]⟩]∧Trk w w' H H'∧(∃ G F,Pick (mark D) H' G∧Split G L F∧Ret P fn E' G v∧R v L)
def SDf (P:Program) (fn:Func) (n:Nat) (c:Code) (E:Env) (H:Hp) (R:Value→Hp→Prop):Prop :=
 ∀ a w,EnvOk E a→a.tmps.size=n→a.defers=[]→HpOk H w→c.wpIn Fence.wide 0 P (DQ P fn w H R) a w
def SDk (P:Program) (fn:Func) (n:Nat) (c y:Code) (E:Env) (H:Hp) (R:Value→Hp→Prop):Prop :=
 ∀ a w,EnvOk E a→a.tmps.size=n→a.defers=[]→HpOk H w→c.wpIn Fence.wide 0 P (Exit.then (y.wpIn Fence.wide 0 P (DQ P fn w H R)) (DQ P fn w H R)) a w
def Ann (P:Program) (fn:Func) (R:Value→Hp→Prop) (D:Nat):C7
 | .normal,E,H | .ret,E,H=>∃ G,Pick (mark D) H G∧G4 P fn R .ret E G
 | _,_,_=>False
section
variable {P:Program} {n f:Nat} {fn:Func} {E:Env} {H:Hp} {Q:C7} {R:Value→Hp→Prop}
theorem DQ.after {w w1:World} {H1:Hp} (ht:Trk w w1 H H1) {e:Exit} {a:Act} {w':World} (h:DQ P fn w1 H1 R e a w'):DQ P fn w H R e a w' :=
 let ⟨m0,E2,H2,D,v,L,m1,m2,m3,m4⟩:=h;⟨m0,E2,H2,D,v,L,m1,m2,ht.trans m3,m4⟩
theorem Ano {x y:Code} (h:SC P n x E H (fun e E' H'=>e= .normal∧SDf P fn n y E' H' R)):SDf P fn n (.seq x y) E H R:=by
 intro a w h1 h2 h3 h4
 refine wpIn_seq (A51 (h a w h1 h2 h3 h4 fun e=>by cases e) ?_)
 rintro e a' w' ⟨E',H',k1,k2,k3,k4,k5,k6⟩
 subst k5
 exact A51 (k6 a' w' k1 k2 k3 k4.ok) fun e a2 w2 hh=>hh.after k4
theorem Afj {x b y:Code} (h:SC P n x E H (fun e E' H'=>e= .normal∧SDk P fn n b y E' H' R)):SDf P fn n (.seq (.seq x b) y) E H R:=by
 intro a w h1 h2 h3 h4
 refine wpIn_seq (wpIn_seq (A51 (h a w h1 h2 h3 h4 fun e=>by cases e) ?_))
 rintro e a' w' ⟨E',H',k1,k2,k3,k4,k5,k6⟩
 subst k5
 refine A51 (k6 a' w' k1 k2 k3 k4.ok) fun e a2 w2 hh=> ?_
 cases e with
 | normal=>exact A51 hh fun e a3 w3 h3=>h3.after k4
 | _=>exact DQ.after k4 hh
theorem Ra {c:Code} {args:List Value} (hf:P.funcs[f]? =some fn) (hn:fn.ntmps=n) (hb:fn.body=some c) (hl:args.length≤n) (h:SDf P fn n c (N8 0 args) H R):Does P f args H R:=by
 intro w hw
 refine A5m.1 (callsIn_of_wp_marks (n:=0) hf hb trivial (A51 (h { tmps:=args.toArray++Array.replicate (fn.ntmps - args.toArray.size) undef,defers:=[] } w ?_ ?_ rfl hw) ?_))
 ·intro i v hv
  obtain ⟨_,h2⟩:=K7 args 0 i v hv
  have hi:i<args.length:=(A08.1 (by simpa using h2)).1
  simp only [A0v]
  rw [A0x (by simpa using hi)]
  have h2':args[i]? =some v:=by simpa using h2
  simp [h2']
 ·simp;omega
 ·rintro e a' w' ⟨k0,E',H',D,v,L,k1,k2,k3,G,F,k4,k5,k6,k7⟩
  have hp:H'.Perm (mark D::G):=k4.perm
  have t1:Trk w w' H (mark D::G):=k3.sub (k3.ok.perm hp) (fun x hx=>hp.mem_iff.2 hx)
  have hD:=t1.ok.here _ (A2y)
  have t2:=Kf (b:=D) (o':= .deferred none) t1.ok .here (fun _ _ _ e=>nomatch e) (fun _ _ _ e=>nomatch e)
  have t3:=t1.trans t2
  have t4:Trk w (w'.putObj D (.deferred none)) H G:=t3.drop .here
  have fin:LeavesInM Fence.wide 0 P fn a'.tmps (fun e w''=>∃ v H',e= .returned v∧R v H'∧Trk w w'' H H') a'.defers .returning w':=by
   rw [k2]
   exact ⟨(fun e=>nomatch e),.inl ⟨D,_,rfl,run_takeDeferred hD,v,k6 _ _ k1 t4.ok,v,L,rfl,k7,t4.split k5⟩⟩
  rcases k0 with rfl | rfl
  ·exact fin
  ·exact fin
theorem pkD {D:Nat} {H G:Hp} {fn:Func} {R:Value→Hp→Prop} (k:G4 P fn R .ret E G) (h:Pick (mark D) H G:=by repeat (first | exact Pick.here | apply Pick.there | apply Pick.app)):∃ G,Pick (mark D) H G∧G4 P fn R .ret E G:=⟨G,h,k⟩
theorem As2 {i g:Nat} {gf:FuncId} {ps:Array Tmp} {asg bd y:Code} {fi:List Value} {L F:Hp} {R1:Hp→Prop} [he:Ent P gf]
  (hg:fnd E g=some (.func (.func gf) fi.toArray #[])) (hs:Split H L F)
  (hf:∀ (D l:Nat) (f0:FuncId) (tm:Array Value),EnvOk E { tmps:=tm,defers:=[] }→tm.size=n →
   Does P gf (fi++[.func (.yield l) #[] #[]]) ((l,true,.loop ⟨.ready,none,f0,tm,ps,asg,bd,D⟩)::L) (fun _ Y=>∃ st M,Y=(l,true,.loop ⟨st,none,f0,tm,ps,asg,bd,D⟩)::M∧st≠.busy∧R1 M))
  (k:∀ (rg:Rg) (D:Nat) (M:Hp),R1 M→SC P n y E (mark D::(M++F)) (Ann P fn R D)) :
  SDk P fn n (.block i (.rangeFunc (.tmp g) ps asg bd)) y E H R:=by
 intro a w h1 h2 h3 h4
 refine wpIn_block (wpIn_rangeFunc fun f0 _=> ?_)
 have t1:=Kg h4 (o:= .deferred (some [])) (fun _ _ _ e=>nomatch e)
 have t2:=Kg t1.ok (o:= .loop ⟨.ready,none,f0,a.tmps,ps,asg,bd,w.heap.size⟩) (fun _ _ _ e=>nomatch e)
 have hsz:(w.alloc (.deferred (some []))).heap.size=w.heap.size+1:=Array.size_push ..
 rw [hsz] at t2
 obtain ⟨W,hW⟩:∃ W,W=(w.alloc (.deferred (some []))).alloc (.loop ⟨.ready,none,f0,a.tmps,ps,asg,bd,w.heap.size⟩):=⟨_,rfl⟩
 rw [← hW] at t2
 have hgv:a.eval (.tmp g)= .func (.func gf) fi.toArray #[]:=h1 g _ hg
 have hen:=run_enterLoop_outer (P:=P) (w:=w) f0 a.tmps ps asg bd
 rw [← hW] at hen
 refine ⟨w.heap.size+1,[⟨.collected w.heap.size,#[]⟩],W,⟨.fn (.func gf) #[],(fi++[Value.func (.yield (w.heap.size+1)) #[] #[]]).toArray⟩,W,gf,(fi++[Value.func (.yield (w.heap.size+1)) #[] #[]]).toArray,W,
  hen,?_,fun _ _=>trivial,?_,fun e=>(by cases e),?_⟩
 ·have hc:∀ v,a.eval (.const v)=v:=fun _=>rfl
  simp [resolve,rangeCall,hgv,hc,Deferred.ofValue,Sem.run_bind,Sem.run_pure,A3i]
 ·have:=he.eq (fi++[Value.func (.yield (w.heap.size+1)) #[] #[]]).toArray W
  simpa [invoke] using this
 ·refine A5m.2 ?_
  have hp:=hs.perm
  have hok2:=t2.ok.perm ((List.Perm.cons _ ((List.Perm.cons _ hp).trans (A3z (l₁:=L) (a:=mark w.heap.size) (l₂:=F)).symm)))
  have hok3:HpOk (((w.heap.size+1,true,Obj.loop ⟨.ready,none,f0,a.tmps,ps,asg,bd,w.heap.size⟩)::L)++(mark w.heap.size::F)) W:=hok2
  refine (hf w.heap.size (w.heap.size+1) f0 a.tmps (by exact h1) h2 W hok3.left).mono ?_
  rintro e W2 ⟨v,Y,rfl,⟨st,M,rfl,hst,hR1⟩,ht⟩
  have t3:=ht.frame hok3
  have tp:Trk w W H (((w.heap.size+1,true,Obj.loop ⟨.ready,none,f0,a.tmps,ps,asg,bd,w.heap.size⟩)::L)++(mark w.heap.size::F)):=(t1.trans t2).sub hok3 (fun x hx=>by
   have:=(List.Perm.cons (w.heap.size+1,true,Obj.loop ⟨.ready,none,f0,a.tmps,ps,asg,bd,w.heap.size⟩) ((List.Perm.cons (mark w.heap.size) hp).trans (A3z (l₁:=L) (a:=mark w.heap.size) (l₂:=F)).symm)).mem_iff (a:=x)
   exact this.2 hx)
  have t4:=tp.trans t3
  have hl:=t4.ok.here _ (A2y)
  have t5:=Kf (b:=w.heap.size+1) (o':= .loop ⟨.exhausted,none,f0,a.tmps,ps,asg,bd,w.heap.size⟩) t4.ok .here (fun _ _ _ e=>nomatch e) (fun _ _ _ e=>nomatch e)
  have t6:=(t4.trans t5).drop .here
  have hpm:(M++mark w.heap.size::F).Perm (mark w.heap.size::(M++F)):=A3z
  have t7:=t6.sub (t6.ok.perm hpm) (fun x hx=>hpm.mem_iff.2 hx)
  refine ⟨none,_,run_endLoop hl hst,?_⟩
  show y.wpIn Fence.wide 0 P _ _ _
  let rg:Rg:=⟨[⟨.collected w.heap.size,#[]⟩],none⟩
  have hk:=k rg w.heap.size M hR1 { a with defers:=[⟨.collected w.heap.size,#[]⟩]++a.defers } _ h1 h2 (by rw [h3];rfl) t7.ok (fun e=>by cases e)
  refine A51 (F:=Fence.wide) hk ?_
  rintro e a2 w2 ⟨E2,H2,m1,m2,m3,m4,m5⟩
  cases e with
  | normal=>obtain ⟨G,q1,v,L2,F3,q2,q3,q4⟩:=m5;exact ⟨.inl rfl,E2,H2,_,v,L2,m1,m3,t7.trans m4,G,F3,q1,q3,q2,q4⟩
  | ret=>obtain ⟨G,q1,v,L2,F3,q2,q3,q4⟩:=m5;exact ⟨.inr rfl,E2,H2,_,v,L2,m1,m3,t7.trans m4,G,F3,q1,q3,q2,q4⟩
  | _=>exact m5.elim
end
end
section
class Mv (α:Type) where
 enc:α→Value
instance:Mv Int:=⟨fun i=> .int .i64 i⟩
instance:Mv Bool:=⟨fun b=> .bool b⟩
structure Me (α:Type) where
 k:Int
 v:α
 n:Nat
structure Mp (α:Type) where
 es:List (Me α)
 cl:Nat
 wk:(es.map (·.k)).Nodup
 wn:(es.map (·.n)).Nodup
 wc:∀ e∈es,e.n<cl
def Cc {α:Type}:List (Me α)→Int→Nat→Option (Nat×α)
 | [],_,_=>none
 | e::es,k,i=>if k=e.k then some (i,e.v) else Cc es k (i+1)
def Kh {α:Type} (es:List (Me α)) (k:Int) (v:α):List (Me α):=es.map fun e=>if e.k=k then { e with v:=v } else e
def Ob {α:Type} (es:List (Me α)) (k:Int):List (Me α):=es.filter fun e=> !decide (e.k=k)
end
end Go.K
namespace Go.K.Mp
section
variable {α:Type}
def get (m:Mp α) (k:Int):Option α:=(Cc m.es k 0).map (·.2)
def keys (m:Mp α):List Int:=m.es.map (·.k)
def nil:Mp α:=⟨[],0,A4w,A4w,fun e he=>by cases he⟩
def clr (m:Mp α):Mp α:=⟨[],m.cl,A4w,A4w,fun e he=>by cases he⟩
end
end Go.K.Mp
namespace Go.K
section
section
variable {α:Type}
theorem Xk (es:List (Me α)) (k:Int) (v:α):(Kh es k v).map (·.k)=es.map (·.k):=by
 unfold Kh
 rw [A49]
 refine A2l fun e _=> ?_
 show (if e.k=k then { e with v:=v } else e).k=e.k
 split <;> rfl
theorem Ahr (es:List (Me α)) (k:Int) (v:α):(Kh es k v).map (·.n)=es.map (·.n):=by
 unfold Kh
 rw [A49]
 refine A2l fun e _=> ?_
 show (if e.k=k then { e with v:=v } else e).n=e.n
 split <;> rfl
theorem Hi {es:List (Me α)} {k:Int} (j:Nat):Cc es k j=none↔k∉es.map (·.k):=by
 induction es generalizing j with
 | nil=>simp [Cc]
 | cons e es ih =>
  unfold Cc
  by_cases h:k=e.k
  ·simp [h]
  ·rw [if_neg h,ih];simp [h]
theorem Afk (es:List (Me α)) (k:Int) (i j:Nat):(Cc es k i).map (·.2)=(Cc es k j).map (·.2):=by
 induction es generalizing i j with
 | nil=>rfl
 | cons e es ih =>
  unfold Cc
  by_cases h:k=e.k
  ·simp [h]
  ·rw [if_neg h,if_neg h];exact ih _ _
theorem Le {es:List (Me α)} {k:Int} {j i:Nat} {v:α} (h:Cc es k j=some (i,v)):j≤i∧∃ e,es[i - j]? =some e∧e.k=k∧e.v=v:=by
 induction es generalizing j with
 | nil=>simp [Cc] at h
 | cons e es ih =>
  unfold Cc at h
  by_cases hk:k=e.k
  ·rw [if_pos hk] at h
   simp only [A3h,A48] at h
   obtain ⟨rfl,rfl⟩:=h
   exact ⟨A5q _,e,by simp,hk.symm,rfl⟩
  ·rw [if_neg hk] at h
   obtain ⟨h1,e2,h2,h3,h4⟩:=ih h
   refine ⟨by omega,e2,?_,h3,h4⟩
   rw [show i - j=(i - (j+1))+1 by omega,A1h]
   exact h2
theorem As3 {es:List (Me α)} {k:Int} {v:α} (h:k∉es.map (·.k)):Kh es k v=es:=by
 unfold Kh
 conv=>rhs;rw [← List.map_id es]
 refine A2l fun e he=> ?_
 rw [if_neg (fun h2:e.k=k=>h (A5b.2 ⟨e,he,h2⟩))]
 rfl
theorem Ahs {es:List (Me α)} {k:Int} (h:k∉es.map (·.k)):Ob es k=es:=by
 unfold Ob
 rw [List.filter_eq_self]
 intro e he
 simp only [A23,A1k]
 exact fun h2=>h (A5b.2 ⟨e,he,h2⟩)
theorem Aj4 {es:List (Me α)} {k k':Int} {v:α} (j:Nat):(Cc (Kh es k v) k' j).map (·.2)=if k'=k then (Cc es k' j).map (fun _=>v) else (Cc es k' j).map (·.2):=by
 induction es generalizing j with
 | nil=>simp [Cc,Kh]
 | cons e es ih =>
  unfold Kh at ih ⊢
  rw [A45]
  unfold Cc
  have hk:(if e.k=k then { e with v:=v } else e).k=e.k:=by split <;> rfl
  rw [hk]
  by_cases h:k'=e.k
  ·rw [if_pos h,if_pos h]
   by_cases h2:k'=k
   ·rw [if_pos h2,if_pos (by omega)];rfl
   ·rw [if_neg h2,if_neg (by omega)]
  ·rw [if_neg h,if_neg h];exact ih _
theorem Aj5 {es:List (Me α)} {k:Int} {e:Me α} (j:Nat):(Cc (es++[e]) k j).map (·.2)=match (Cc es k j).map (·.2) with | some v=>some v | none=>if k=e.k then some e.v else none:=by
 induction es generalizing j with
 | nil =>
  show (Cc [e] k j).map (·.2)=_
  unfold Cc Cc
  by_cases h:k=e.k <;> simp [h]
 | cons x es ih =>
  rw [A3q]
  unfold Cc
  by_cases h:k=x.k
  ·simp [h]
  ·rw [if_neg h,if_neg h];exact ih _
theorem Aj6 {es:List (Me α)} {k k':Int} (j:Nat):(Cc (Ob es k) k' j).map (·.2)=if k'=k then none else (Cc es k' j).map (·.2):=by
 induction es generalizing j with
 | nil=>simp [Cc,Ob]
 | cons e es ih =>
  unfold Ob at ih ⊢
  by_cases h:e.k=k
  ·rw [List.filter_cons_of_neg (by simp [h]),ih]
   by_cases h2:k'=k
   ·rw [if_pos h2,if_pos h2]
   ·rw [if_neg h2,if_neg h2]
    conv=>rhs;unfold Cc
    rw [if_neg (by omega)]
    exact Afk _ _ _ _
  ·rw [List.filter_cons_of_pos (by simp [h])]
   unfold Cc
   by_cases h3:k'=e.k
   ·rw [if_pos h3,if_neg (by omega),if_pos h3]
   ·rw [if_neg h3,if_neg h3];exact ih _
end
end
end Go.K
namespace Go.K.Mp
section
variable {α:Type}
def put (m:Mp α) (k:Int) (v:α):Mp α :=
 if h:k∈m.keys then ⟨Kh m.es k v,m.cl,by rw [Xk];exact m.wk,by rw [Ahr];exact m.wn,fun e he=>by
  have h1:e.n∈(Kh m.es k v).map (·.n):=List.mem_map_of_mem he
  rw [Ahr] at h1
  obtain ⟨x,hx,e2⟩:=A5b.1 h1
  have:=m.wc x hx
  omega⟩
 else ⟨m.es++[⟨k,v,m.cl⟩],m.cl+1,by
   rw [A4e]
   refine A3d.2 ⟨m.wk,by simp,fun a ha b hb e=> ?_⟩
   rw [A45,A5a,A2z] at hb
   have hb':b=k:=hb
   rw [← hb',← e] at h
   exact h ha,by
   rw [A4e]
   refine A3d.2 ⟨m.wn,by simp,fun a ha b hb e=> ?_⟩
   rw [A45,A5a,A2z] at hb
   have hb':b=m.cl:=hb
   obtain ⟨x,hx,e2⟩:=A5b.1 ha
   have:=m.wc x hx
   omega,fun e he=>by
   rcases A4f.1 he with h1 | h1
   ·have:=m.wc e h1;omega
   ·rw [A2z.1 h1];exact Nat.lt_succ_self _⟩
def del (m:Mp α) (k:Int):Mp α:=⟨Ob m.es k,m.cl,(List.filter_sublist.map _).nodup m.wk,(List.filter_sublist.map _).nodup m.wn,fun e he=>m.wc e (A4g.1 he).1⟩
theorem Anp {m:Mp α} {k:Int}:m.get k=none↔k∉m.keys:=by
 unfold get keys
 rw [Option.map_eq_none_iff]
 exact Hi 0
theorem get_some {m:Mp α} {k:Int}:(m.get k).isSome=true↔k∈m.keys:=by
 have:=Anp (m:=m) (k:=k)
 cases h:m.get k with
 | none=>simp [h] at this ⊢;exact this
 | some v=>simp [h] at this ⊢;exact this
theorem get_put (m:Mp α) (k k':Int) (v:α):(m.put k v).get k'=if k'=k then some v else m.get k':=by
 unfold put
 split
 ·rename_i h
  unfold get
  rw [Aj4]
  by_cases e:k'=k
  ·subst e
   rw [if_pos rfl,if_pos rfl]
   cases hf:Cc m.es k' 0 with
   | none=>exact absurd h ((Hi 0).1 hf)
   | some x=>rfl
  ·rw [if_neg e,if_neg e]
 ·rename_i h
  unfold get
  rw [Aj5]
  by_cases e:k'=k
  ·subst e
   rw [if_pos rfl]
   have:Cc m.es k' 0=none:=(Hi 0).2 h
   rw [this]
   simp
  ·rw [if_neg e]
   cases hf:(Cc m.es k' 0).map (·.2) with
   | none=>simp [e]
   | some x=>simp [e]
theorem get_del (m:Mp α) (k k':Int):(m.del k).get k'=if k'=k then none else m.get k':=Aj6 0
theorem get_clr (m:Mp α) (k:Int):m.clr.get k=none:=rfl
theorem get_mem {m:Mp α} {e:Me α} (he:e∈m.es):m.get e.k=some e.v:=by
 have h:∀ (es:List (Me α)) (j:Nat),(es.map (·.k)).Nodup→e∈es→(Cc es e.k j).map (·.2)=some e.v:=fun es=>by
  induction es with
  | nil=>intro j _ h;cases h
  | cons x es ih =>
   intro j hn h
   unfold Cc
   rcases A46.1 h with h | h
   ·subst h;rw [if_pos rfl];rfl
   ·rw [A45,A4i] at hn
    rw [if_neg (fun h2:e.k=x.k=>hn.1 (A5b.2 ⟨e,h,h2⟩))]
    exact ih _ hn.2 h
 exact h m.es 0 m.wk he
theorem mem_get {m:Mp α} {k:Int} {v:α} (h:m.get k=some v):∃ e∈m.es,e.k=k∧e.v=v:=by
 unfold get at h
 cases hf:Cc m.es k 0 with
 | none=>rw [hf] at h;cases h
 | some r =>
  obtain ⟨i,w⟩:=r
  rw [hf] at h
  obtain ⟨_,e,h1,h2,h3⟩:=Le hf
  exact ⟨e,A2a h1,h2,by rw [h3];simpa using h⟩
theorem put_keys (m:Mp α) (k:Int) (v:α):(m.put k v).keys=if k∈m.keys then m.keys else m.keys++[k]:=by
 unfold put
 by_cases h:k∈m.keys
 ·rw [A55 h,if_pos h]
  exact Xk _ _ _
 ·rw [dif_neg h,if_neg h]
  unfold keys
  rw [A4e]
  rfl
theorem keys_nodup (m:Mp α):m.keys.Nodup:=m.wk
theorem keys_len (m:Mp α):m.keys.length=m.es.length:=A4b ..
end
end Go.K.Mp
namespace Go.K
section
section
variable {α:Type} [Mv α]
def Me.ent (kd:IntKind) (e:Me α):MapEntry:={ key:= .int kd e.k,val:=Mv.enc e.v,born:=e.n }
def Mp.obj (kd:IntKind) (m:Mp α):Obj:= .map (m.es.map (Me.ent kd)).toArray m.cl
theorem Xl (kd:IntKind) (k:Int):∀ (es:List (Me α)) (i:Nat),Instr.findNow (.int kd) (.int kd k) (es.map (Me.ent kd)) i=some ((Cc es k i).map fun r=>(r.1,Mv.enc r.2))
 | [],i=>rfl
 | e::es,i=>by
  rw [A45]
  unfold Cc Instr.findNow
  simp only [Me.ent,Instr.sameNow,if_true]
  by_cases h:k=e.k
  ·simp [h]
  ·have hb:(k == e.k)=false:=by simpa using h
   rw [hb,if_neg h]
   exact Xl kd k es (i+1)
theorem Uu (kd:IntKind) {k:Int} {v':α}:∀ {es:List (Me α)} {j i:Nat} {v:α},(es.map (·.k)).Nodup→Cc es k j=some (i,v) →
  (es.map (Me.ent kd)).modify (i - j) (fun e=>{ e with key:= .int kd k,val:=Mv.enc v' })=(Kh es k v').map (Me.ent kd)
 | [],j,i,v,_,h=>by simp [Cc] at h
 | e::es,j,i,v,hn,h=>by
  rw [A45,A4i] at hn
  unfold Cc at h
  by_cases hk:k=e.k
  ·rw [if_pos hk] at h
   simp only [A3h,A48] at h
   obtain ⟨rfl,rfl⟩:=h
   subst hk
   have h1:Kh (e::es) e.k v'={ e with v:=v' }::Kh es e.k v':=by simp [Kh]
   rw [h1,As3 hn.1,A5h]
   rfl
  ·rw [if_neg hk] at h
   have hle:=(Le h).1
   have h1:Kh (e::es) k v'=e::Kh es k v':=by simp [Kh,A54 hk]
   rw [h1,A45,A45,show i - j=(i - (j+1))+1 by omega,List.modify_succ_cons,Uu kd hn.2 h]
theorem Xm (kd:IntKind) {k:Int}:∀ {es:List (Me α)} {j i:Nat} {v:α},(es.map (·.k)).Nodup→Cc es k j=some (i,v) →
  (es.map (Me.ent kd)).eraseIdx (i - j)=(Ob es k).map (Me.ent kd)
 | [],j,i,v,_,h=>by simp [Cc] at h
 | e::es,j,i,v,hn,h=>by
  rw [A45,A4i] at hn
  unfold Cc at h
  by_cases hk:k=e.k
  ·rw [if_pos hk] at h
   simp only [A3h,A48] at h
   obtain ⟨rfl,rfl⟩:=h
   subst hk
   have h1:Ob (e::es) e.k=Ob es e.k:=by unfold Ob;rw [List.filter_cons_of_neg (by simp)]
   rw [h1,Ahs hn.1,A5h]
   rfl
  ·rw [if_neg hk] at h
   have hle:=(Le h).1
   have h1:Ob (e::es) k=e::Ob es k:=by unfold Ob;rw [List.filter_cons_of_pos (by simp [A54 hk])]
   rw [h1,A45,A45,show i - j=(i - (j+1))+1 by omega,List.eraseIdx_cons_succ,Xm kd hn.2 h]
end
section
variable {α:Type} [Mv α] {P:Program} {n:Nat} {E:Env} {H:Hp} {Q:C7} {ops:Array Oper} {rest:List Oper}
theorem Pj {t:TypeId} {kd:IntKind} [ht:Und P t (.int kd)] {k:Int} {es:List (Me α)} {w:World}:(Instr.findKey t (.int kd k) (es.map (Me.ent kd))).run P w= .ok ((Cc es k 0).map fun r=>(r.1,Mv.enc r.2)) w:=by
 unfold Instr.findKey
 simp [A4y ht.eq,Xl]
theorem As4 {t kt et:TypeId} {x y:Operand} {kd:IntKind} {b:Nat} {m:Mp α} {k:Int} {z:Value} {r:Bool} [ht:Und P t (.map kt et)] [hk:Und P kt (.int kd)] [hz:ZerV P et z]
  (hx:ev E x=some (.map (some b))) (hy:ev E y=some (.int kd k)) (hm:(b,r,m.obj kd)∈H):Rd P E H (.lookup t x y false) (match m.get k with | some v=>Mv.enc v | none=>z):=fun a w d ty pos af g h1 h2=>by
 have e0:w.heap[b]? =some (.map (m.es.map (Me.ent kd)).toArray m.cl):=h2.here _ hm
 have e1:=Ev (P:=P) e0
 simp only [execOp,Au h1 hx,Au h1 hy,Instr.lookup,Sem.run_bind,A4y ht.eq,A3i]
 rw [e1]
 simp only [A3i,Sem.run_bind,Sem.run_pure,Ij,Pj]
 unfold Mp.get
 cases hf:Cc m.es k 0 with
 | none=>simp [Xi (P:=P)]
 | some q=>simp
theorem Rb {t kt et:TypeId} {x y:Operand} {kd:IntKind} {b:Nat} {m:Mp α} {k:Int} {z:Value} {r:Bool} [ht:Und P t (.map kt et)] [hk:Und P kt (.int kd)] [hz:ZerV P et z]
  (hx:ev E x=some (.map (some b))) (hy:ev E y=some (.int kd k)) (hm:(b,r,m.obj kd)∈H):Rd P E H (.lookup t x y true) (.tuple #[match m.get k with | some v=>Mv.enc v | none=>z,.bool (m.get k).isSome]):=fun a w d ty pos af g h1 h2=>by
 have e0:w.heap[b]? =some (.map (m.es.map (Me.ent kd)).toArray m.cl):=h2.here _ hm
 have e1:=Ev (P:=P) e0
 simp only [execOp,Au h1 hx,Au h1 hy,Instr.lookup,Sem.run_bind,A4y ht.eq,A3i]
 rw [e1]
 simp only [A3i,Sem.run_bind,Sem.run_pure,Ij,Pj]
 unfold Mp.get
 cases hf:Cc m.es k 0 with
 | none=>simp [Xi (P:=P)]
 | some q=>simp
theorem Anq {x:Operand} {t kt et:TypeId} {kd:IntKind} {b:Nat} {m:Mp α} {r:Bool} [ht:Und P t (.map kt et)] (hx:ev E x=some (.map (some b))) (hm:(b,r,m.obj kd)∈H):Rd P E H (.call ⟨.builtin .len,#[x],#[t]⟩) (.int .i64 m.es.length) :=
 fun a w d ty pos af g h1 h2=>by
 have e0:w.heap[b]? =some (.map (m.es.map (Me.ent kd)).toArray m.cl):=h2.here _ hm
 have e1:=Ev (P:=P) e0
 simp only [execOp,B3,Sem.run_bind,A3i,invoke,builtin,Builtin.len_]
 simp [Au h1 hx,A4y ht.eq,e1,goInt]
theorem Zr (α:Type) [Mv α] [rg:Rg] {d:Nat} {t:TypeId} {ty:TypeId} {pos:String} {af:Array Edge} (kd:IntKind) (hd:Nat.blt d n=true)
  (k:∀ b,SO P n ops rest ((d,.map (some b))::E) ((b,true,(Mp.nil:Mp α).obj kd)::H) Q):SO P n ops (⟨some d,.makeMap t none,ty,pos,af,none⟩::rest) E H Q :=
 Aj2 kd hd k
theorem Ti {w:World} {b:Nat} {m:Mp α} {m':Mp α} {kd:IntKind} {H K:Hp} (h:HpOk H w) (hu:Upd b (m.obj kd) (m'.obj kd) H K):Trk w (Cb w b (m'.obj kd)) H K :=
 Ph h hu (fun i s=>by
  have e0:w.heap[b]? =some (m.obj kd):=h.here _ hu.mem
  have hlt:b<w.heap.size:=h.lt hu.mem
  rw [Anm e0,Anm (w:=Cb w b (m'.obj kd)) (es:=(m'.es.map (Me.ent kd)).toArray) (c:=m'.cl) (by simp [Cb,hlt,Mp.obj])])
theorem As5 {t kt et:TypeId} {kd:IntKind} [ht:Und P t (.map kt et)] [hk:Und P kt (.int kd)] {b:Nat} {m:Mp α} {k:Int} {v:α} {w:World} (e0:w.heap[b]? =some (m.obj kd)) :
  (Instr.mapUpdate t (.map (some b)) (.int kd k) (Mv.enc v)).run P w= .ok () (Cb w b ((m.put k v).obj kd)):=by
 have e0':w.heap[b]? =some (.map (m.es.map (Me.ent kd)).toArray m.cl):=e0
 have e1:=Ev (P:=P) e0'
 simp only [Instr.mapUpdate,Sem.run_bind,A4y ht.eq,A3i]
 rw [e1]
 simp only [A3i,Sem.run_bind,Ij,Pj]
 cases hf:Cc m.es k 0 with
 | none =>
  have hn:k∉m.keys:=(Hi 0).1 hf
  simp only [Option.map_none]
  rw [Ke (P:=P) e0']
  unfold Mp.put
  rw [dif_neg hn]
  simp [Mp.obj,Me.ent]
 | some r =>
  obtain ⟨i,u⟩:=r
  have hi:k∈m.keys:=by
   by_cases h:k∈m.keys
   ·exact h
   ·rw [(Hi 0).2 h] at hf;cases hf
  obtain ⟨_,e,h1,h2,h3⟩:=Le hf
  rw [A5i] at h1
  simp only [A4n]
  have hkey:(((m.es.map (Me.ent kd)).toArray[i]?).map (·.key)).getD (Value.int kd k)= .int kd k:=by
   simp [h1,Me.ent,h2]
  have hst:(Instr.keyThatStays (Value.int kd k) (Value.int kd k)).run P w= .ok (.int kd k) w:=by
   unfold Instr.keyThatStays
   have:Instr.sameBits 10000 (Value.int kd k) (Value.int kd k)=true:=by
    show (kd == kd && k == k)=true
    simp
   rw [this]
   rfl
  simp only [Sem.run_bind]
  rw [hkey,hst]
  simp only [A3i]
  rw [Ke (P:=P) e0']
  have hm:=Uu kd (v':=v) m.wk hf
  rw [A5i] at hm
  unfold Mp.put
  rw [A55 hi]
  simp [Mp.obj,hm]
theorem Xn [rg:Rg] {t kt et:TypeId} {x y u:Operand} {ty:TypeId} {pos:String} {af:Array Edge} {kd:IntKind} {b:Nat} {m:Mp α} {k:Int} {v:α} {H':Hp} [ht:Und P t (.map kt et)] [hk:Und P kt (.int kd)]
  (hx:ev E x=some (.map (some b))) (hy:ev E y=some (.int kd k)) (hv:ev E u=some (Mv.enc v)) (hu:Upd b (m.obj kd) ((m.put k v).obj kd) H H')
  (kk:SO P n ops rest E H' Q):SO P n ops (⟨none,.mapUpdate t x y u,ty,pos,af,none⟩::rest) E H Q:=by
 intro a w h1 h2 h3 h4
 refine A5o rfl fun K hK=> ?_
 have e0:w.heap[b]? =some (m.obj kd):=h4.here _ hu.mem
 have hrun:(execOp a.eval ⟨none,.mapUpdate t x y u,ty,pos,af,none⟩).run P w= .ok .skip (Cb w b ((m.put k v).obj kd)):=by
  have:=As5 (P:=P) (t:=t) (k:=k) (v:=v) e0
  simp only [execOp,Au h1 hx,Au h1 hy,Au h1 hv,Sem.run_bind]
  rw [this]
  rfl
 unfold Oper.wp
 rw [hrun]
 have htr:=Ti h4 hu
 exact hK _ _ (B2 htr (kk _ _ h1 h2 h3 htr.ok))
theorem Av2 [rg:Rg] {t u kt et:TypeId} {x y:Operand} {ty:TypeId} {pos:String} {af:Array Edge} {kd:IntKind} {b:Nat} {m:Mp α} {k:Int} {H':Hp} [ht:Und P t (.map kt et)] [hk:Und P kt (.int kd)]
  (hx:ev E x=some (.map (some b))) (hy:ev E y=some (.int kd k)) (hu:Upd b (m.obj kd) ((m.del k).obj kd) H H')
  (kk:SO P n ops rest E H' Q):SO P n ops (⟨none,.call ⟨.builtin .delete,#[x,y],#[t,u]⟩,ty,pos,af,none⟩::rest) E H Q:=by
 intro a w h1 h2 h3 h4
 refine A5o rfl fun K hK=> ?_
 have e0:w.heap[b]? =some (.map (m.es.map (Me.ent kd)).toArray m.cl):=h4.here _ hu.mem
 have e1:=Ev (P:=P) e0
 have hd:(Builtin.delete_ #[t,u] ty #[.map (some b),.int kd k]).run P w= .ok (.tuple #[]) (Cb w b ((m.del k).obj kd)):=by
  simp only [Builtin.delete_,Sem.run_bind,A4y ht.eq,A3i,A1w,A1i,A1h]
  rw [e1]
  simp only [A3i,Sem.run_bind,Ij,Pj]
  cases hf:Cc m.es k 0 with
  | none =>
   simp only [Option.map_none,Sem.run_bind]
   rw [Ke (P:=P) e0]
   have:(m.del k).obj kd=m.obj kd:=by
    show Obj.map ((Ob m.es k).map (Me.ent kd)).toArray m.cl=Obj.map (m.es.map (Me.ent kd)).toArray m.cl
    rw [Ahs ((Hi 0).1 hf)]
   rw [this]
   rfl
  | some r =>
   obtain ⟨i,v⟩:=r
   simp only [A4n,Sem.run_bind]
   rw [Ke (P:=P) e0]
   have hm:=Xm kd m.wk hf
   rw [A5i] at hm
   have:(m.del k).obj kd= .map ((m.es.map (Me.ent kd)).toArray.eraseIdxIfInBounds i) m.cl:=by
    show Obj.map ((Ob m.es k).map (Me.ent kd)).toArray m.cl=_
    rw [List.eraseIdxIfInBounds_toArray,hm]
   rw [this]
   rfl
 have hrun:(execOp a.eval ⟨none,.call ⟨.builtin .delete,#[x,y],#[t,u]⟩,ty,pos,af,none⟩).run P w= .ok (.value (.tuple #[])) (Cb w b ((m.del k).obj kd)):=by
  simp only [execOp,B3,Sem.run_bind,A3i,invoke,builtin]
  simp [Au h1 hx,Au h1 hy,hd]
 unfold Oper.wp
 rw [hrun]
 have htr:=Ti h4 hu
 exact hK _ _ (B2 htr (kk _ _ h1 h2 h3 htr.ok))
theorem Aht {t kt et:TypeId} {kd:IntKind} [ht:Und P t (.map kt et)] {b:Nat} {m:Mp α} {w:World} {ty:TypeId} (e0:w.heap[b]? =some (m.obj kd)) :
  (Builtin.clear_ #[t] ty #[.map (some b)]).run P w= .ok (.tuple #[]) (Cb w b (m.clr.obj kd)):=by
 have e0':w.heap[b]? =some (.map (m.es.map (Me.ent kd)).toArray m.cl):=e0
 have e1:=Ev (P:=P) e0'
 simp only [Builtin.clear_,Sem.run_bind,A4y ht.eq,A3i,A1w,A1i]
 rw [e1]
 simp only [A3i,Sem.run_bind]
 rw [Ke (P:=P) e0']
 rfl
theorem Ahu [rg:Rg] {t kt et:TypeId} {x:Operand} {ty:TypeId} {pos:String} {af:Array Edge} {kd:IntKind} {b:Nat} {m:Mp α} {H':Hp} [ht:Und P t (.map kt et)]
  (hx:ev E x=some (.map (some b))) (hu:Upd b (m.obj kd) (m.clr.obj kd) H H')
  (kk:SO P n ops rest E H' Q):SO P n ops (⟨none,.call ⟨.builtin .clear,#[x],#[t]⟩,ty,pos,af,none⟩::rest) E H Q:=by
 intro a w h1 h2 h3 h4
 refine A5o rfl fun K hK=> ?_
 have e0:w.heap[b]? =some (m.obj kd):=h4.here _ hu.mem
 have hrun:(execOp a.eval ⟨none,.call ⟨.builtin .clear,#[x],#[t]⟩,ty,pos,af,none⟩).run P w= .ok (.value (.tuple #[])) (Cb w b (m.clr.obj kd)):=by
  have:=Aht (P:=P) (t:=t) (ty:=ty) e0
  simp only [execOp,B3,Sem.run_bind,A3i,invoke,builtin]
  simp [Au h1 hx,this]
 unfold Oper.wp
 rw [hrun]
 have htr:=Ti h4 hu
 exact hK _ _ (B2 htr (kk _ _ h1 h2 h3 htr.ok))
def itO (b since:Nat) (seen:List Nat) (last:Nat):Obj:= .mapIter (some b) since seen.toArray last
theorem I3 [rg:Rg] {d:Nat} {t kt et:TypeId} {x:Operand} {ty:TypeId} {pos:String} {af:Array Edge} {kd:IntKind} {b:Nat} {m:Mp α} {r:Bool} [ht:Und P t (.map kt et)]
  (hx:ev E x=some (.map (some b))) (hm:(b,r,m.obj kd)∈H) (hd:Nat.blt d n=true)
  (k:∀ i,SO P n ops rest ((d,.pointer (some ⟨i,0,none⟩))::E) ((i,true,itO b m.cl [] m.cl)::H) Q):SO P n ops (⟨some d,.range t x,ty,pos,af,none⟩::rest) E H Q:=by
 intro a w h1 h2 h3 h4
 refine A5o rfl fun K hK=> ?_
 have e0:w.heap[b]? =some (.map (m.es.map (Me.ent kd)).toArray m.cl):=h4.here _ hm
 have e1:=Ev (P:=P) e0
 have hrun:(execOp a.eval ⟨some d,.range t x,ty,pos,af,none⟩).run P w= .ok (.value (.pointer (some ⟨w.heap.size,0,none⟩))) (w.alloc (itO b m.cl [] m.cl)):=by
  simp only [execOp,Au h1 hx,Instr.range,Sem.run_bind,A4y ht.eq,A3i]
  rw [e1]
  rfl
 unfold Oper.wp
 rw [hrun]
 have hlt:d<a.tmps.size:=by rw [h2];exact A13 hd
 have htr:=Kg h4 (o:=itO b m.cl [] m.cl) (fun _ _ _ e=>nomatch e)
 exact hK _ _ (B2 htr (k _ _ _ (h1.put hlt) (by simp [Act.put,h2]) h3 htr.ok))
theorem Acp (w:World) (k:Nat):∃ i w',(choose (.mapNext k)).run P w= .ok i w'∧(0<k→i<k)∧(w'=w∨w'={ w with drawn:=w.drawn+1 }):=by
 by_cases h:k≤1
 ·have hf:(Question.mapNext k).forced=true:=by simp [Question.forced,h]
  exact ⟨0,w,by simp [choose,Sem.run,hf],fun h=>h,.inl rfl⟩
 ·have hf:(Question.mapNext k).forced=false:=by simp [Question.forced,h]
  exact ⟨(Question.mapNext k).cut (w.tape w.drawn (.mapNext k)),_,by simp [choose,Sem.run,hf],fun _=>A5v _ (by omega),.inr rfl⟩
def G5 (m:Mp α) (seen:List Nat):List (Me α):=m.es.filter fun e=> !decide (e.n∈seen)
theorem Aj7 {β:Type} {l:List β} {i:Nat} (hi:i<(((if l.isEmpty then #[none] else #[]):Array (Option β))++(l.toArray.map some)).size) :
  ((((if l.isEmpty then #[none] else #[]):Array (Option β))++(l.toArray.map some))[i]? =some none∧l=[])∨∃ x∈l,(((if l.isEmpty then #[none] else #[]):Array (Option β))++(l.toArray.map some))[i]? =some (some x):=by
 cases l with
 | nil =>
  left
  have h0:i=0:=by simp at hi;omega
  subst h0
  exact ⟨by simp,rfl⟩
 | cons x l =>
  right
  simp at hi
  refine ⟨(x::l)[i]'(by simp;omega),A3t _,?_⟩
  have h1:(((if (x::l).isEmpty then #[none] else #[]):Array (Option β))++((x::l).toArray.map some))=((x::l).map some).toArray:=by simp
  rw [h1,A1w,A29,A1d (by simp;omega)]
  rfl
theorem Acq {w:World} {i b since last:Nat} {seen:List Nat} (h:w.heap[i]? =some (itO b since seen last)):(getObj i).run P w= .ok (.mapIter (some b) since seen.toArray last) w:=by
 simp [getObj,Sem.run,h,itO]
theorem Anr {w:World} {i b since last:Nat} {seen:List Nat} {o:Obj} (h:w.heap[i]? =some (itO b since seen last)):(setObj i o).run P w= .ok () (w.putObj i o):=by
 have h2:w.heap[i]? =some (.mapIter (some b) since seen.toArray last):=h
 simp [setObj,Sem.run,h2]
 rfl
def Aw7 (w w1:World):Prop:=w1=w∨w1={ w with drawn:=w.drawn+1 }
theorem Ans {ty:TypeId} {kd:IntKind} {i b since last:Nat} {seen:List Nat} {m:Mp α} {w:World} (ei:w.heap[i]? =some (itO b since seen last)) (em:w.heap[b]? =some (.map (m.es.map (Me.ent kd)).toArray m.cl))
  (hs:∀ e∈m.es,e.n<since) (hl:since≤last) :
  (G5 m seen=[]∧∃ w1,Aw7 w w1∧(Instr.next (.pointer (some ⟨i,0,none⟩)) false ty).run P w= .ok (.tuple #[.bool false]) w1) ∨
  (∃ e∈m.es,e.n∉seen∧∃ w1,Aw7 w w1∧(Instr.next (.pointer (some ⟨i,0,none⟩)) false ty).run P w= .ok (.tuple #[.bool true,.int kd e.k,Mv.enc e.v]) (w1.putObj i (itO b since (seen++[e.n]) m.cl))):=by
 have hleft:((m.es.map (Me.ent kd)).toArray.filter fun e=> !seen.toArray.contains e.born)=((G5 m seen).map (Me.ent kd)).toArray:=by
  unfold G5
  rw [List.filter_toArray,List.filter_map]
  congr 2
  refine List.filter_congr fun e he=> ?_
  simp only [Function.comp,Me.ent,List.contains_toArray]
  rw [List.contains_eq_mem]
 have hold:(((G5 m seen).map (Me.ent kd)).toArray.filter fun e=>decide (e.born<since))=((G5 m seen).map (Me.ent kd)).toArray:=by
  rw [List.filter_toArray,List.filter_map]
  congr 2
  rw [List.filter_eq_self]
  intro e he
  exact A4x (hs e (A4g.1 he).1)
 have hnew:(((G5 m seen).map (Me.ent kd)).toArray.filter fun e=>decide (e.born≥since))=#[]:=by
  rw [List.filter_toArray,List.filter_map]
  have:List.filter ((fun e:MapEntry=>decide (e.born≥since))∘Me.ent kd) (G5 m seen)=[]:=by
   rw [List.filter_eq_nil_iff]
   intro e he
   have h8:=hs e (A4g.1 he).1
   have h9:¬ e.n≥since:=by omega
   show ¬ decide (e.n≥since)=true
   rw [A4p h9]
   decide
  rw [this]
  rfl
 have hchk:(!seen.toArray.isEmpty && !((m.es.map (Me.ent kd)).toArray).isEmpty && ((m.es.map (Me.ent kd)).toArray).all (fun e=>decide (e.born≥last)))=false:=by
  cases hes:m.es with
  | nil=>simp
  | cons e es =>
   have h9:=hs e (by rw [hes];exact A2y)
   have:¬ (Me.ent kd e).born≥last:=fun h8:e.n≥last=>by omega
   simp [this]
 obtain ⟨c,hc⟩:∃ c,c=(((if ((G5 m seen).map (Me.ent kd)).isEmpty then #[none] else #[]):Array (Option MapEntry))++(((G5 m seen).map (Me.ent kd)).toArray.map some)):=⟨_,rfl⟩
 have hsize:0<c.size:=by
  rw [hc]
  cases G5 m seen with
  | nil=>simp
  | cons x l=>simp
 obtain ⟨j,w1,hj1,hj2,hw1⟩:=Acp (P:=P) w c.size
 have hcs:=hj2 hsize
 have hgo:(Instr.next (.pointer (some ⟨i,0,none⟩)) false ty).run P w=(match c[j]? with
   | some (some e)=>(setObj i (.mapIter (some b) since (seen.toArray.push e.born) m.cl)).run P w1 |>.andThen fun _ w'=> .ok (.tuple #[.bool true,e.key,e.val]) w'
   | some none=> .ok (.tuple #[.bool false]) w1
   | none => (stuck "Next: no such candidate" : Sem Value).run P w1) := by
  simp only [Instr.next,Sem.run_bind]
  rw [Acq (P:=P) ei]
  simp only [A3i,Sem.run_bind]
  rw [Ev (P:=P) em]
  simp only [A3i]
  rw [hchk,hleft,hold,hnew]
  rw [if_neg (by decide)]
  have hcc:(((if ((G5 m seen).map (Me.ent kd)).toArray.isEmpty=true then #[none] else #[]):Array (Option MapEntry))++Array.map some (((G5 m seen).map (Me.ent kd)).toArray++#[]))=c:=by
   rw [hc,Array.append_empty,List.isEmpty_toArray]
  rw [hcc,Sem.run_bind,hj1]
  simp only [A3i]
  cases c[j]? with
  | none=>rfl
  | some x =>
   cases x with
   | none=>rfl
   | some e=>simp only [Sem.run_bind];rfl
 rw [hgo]
 rw [hc] at hcs
 rcases Aj7 hcs with ⟨p1,p2⟩ | ⟨e',p1,p2⟩
 ·rw [hc,p1]
  exact .inl ⟨by simpa using p2,w1,hw1,rfl⟩
 ·obtain ⟨e,he,rfl⟩:=A5b.1 p1
  obtain ⟨he1,he2⟩:=A4g.1 he
  rw [hc,p2]
  refine .inr ⟨e,he1,by simpa using he2,w1,hw1,?_⟩
  have ei1:w1.heap[i]? =some (itO b since seen last):=by rcases hw1 with rfl | rfl <;> exact ei
  simp only
  rw [Anr (P:=P) ei1]
  simp [itO,Me.ent]
theorem Lf [rg:Rg] {d:Nat} {x:Operand} {ty:TypeId} {pos:String} {af:Array Edge} {kd:IntKind} {i b since last:Nat} {seen:List Nat} {m:Mp α} {F:Hp}
  (hx:ev E x=some (.pointer (some ⟨i,0,none⟩))) (hp:Pick (i,true,itO b since seen last) H F) {r:Bool} (hm:(b,r,m.obj kd)∈F) (hs:∀ e∈m.es,e.n<since) (hl:since≤last) (hd:Nat.blt d n=true)
  (k0:G5 m seen=[]→SO P n ops rest ((d,.tuple #[.bool false])::E) ((i,true,itO b since seen last)::F) Q)
  (k1:∀ e∈m.es,e.n∉seen→SO P n ops rest ((d,.tuple #[.bool true,.int kd e.k,Mv.enc e.v])::E) ((i,true,itO b since (seen++[e.n]) m.cl)::F) Q) :
  SO P n ops (⟨some d,.next x false,ty,pos,af,none⟩::rest) E H Q:=by
 intro a w h1 h2 h3 h4
 refine A5o rfl fun K hK=> ?_
 have hlt:d<a.tmps.size:=by rw [h2];exact A13 hd
 have hok:HpOk ((i,true,itO b since seen last)::F) w:=h4.perm hp.perm
 have ei:w.heap[i]? =some (itO b since seen last):=hok.here _ (A2y)
 have em:w.heap[b]? =some (.map (m.es.map (Me.ent kd)).toArray m.cl):=hok.here _ (.tail _ hm)
 have tp:Trk w w H ((i,true,itO b since seen last)::F):=(Trk.refl h4).sub hok (fun x hx=>hp.perm.mem_iff.2 hx)
 have td:∀ w1,Aw7 w w1→Trk w w1 H ((i,true,itO b since seen last)::F):=fun w1 hw1=>by
  rcases hw1 with rfl | rfl
  ·exact tp
  ·exact tp.trans (C8 hok _)
 rcases Ans (P:=P) (ty:=ty) ei em hs hl with ⟨hl0,w1,hw1,hrun⟩ | ⟨e,he1,he2,w1,hw1,hrun⟩
 ·have hr:(execOp a.eval ⟨some d,.next x false,ty,pos,af,none⟩).run P w= .ok (.value (.tuple #[.bool false])) w1:=by
   simp only [execOp,Au h1 hx,Sem.run_bind]
   rw [hrun]
   rfl
  unfold Oper.wp
  rw [hr]
  have htr:=td w1 hw1
  exact hK _ _ (B2 htr (k0 hl0 _ _ (h1.put hlt) (by simp [Act.put,h2]) h3 htr.ok))
 ·have hr:(execOp a.eval ⟨some d,.next x false,ty,pos,af,none⟩).run P w= .ok (.value (.tuple #[.bool true,.int kd e.k,Mv.enc e.v])) (w1.putObj i (itO b since (seen++[e.n]) m.cl)):=by
   simp only [execOp,Au h1 hx,Sem.run_bind]
   rw [hrun]
   rfl
  unfold Oper.wp
  rw [hr]
  have t1:=td w1 hw1
  have t2:=Kf (b:=i) (o':=itO b since (seen++[e.n]) m.cl) t1.ok .here (fun _ _ _ e=>nomatch e) (fun _ _ _ e=>nomatch e)
  have htr:=t1.trans t2
  exact hK _ _ (B2 htr (k1 e he1 he2 _ _ (h1.put hlt) (by simp [Act.put,h2]) h3 htr.ok))
end
end
section
section
variable {α:Type} [Mv α] {P:Program} {n:Nat} {E:Env} {H:Hp} {Q:C7} {ops:Array Oper} {rest:List Oper}
theorem Xo (kd:IntKind) {e:Me α}:∀ {es:List (Me α)},(es.map (·.n)).Nodup→e∈es→(es.map (Me.ent kd)).find? (·.born == e.n)=some (Me.ent kd e)
 | [],_,h=>by cases h
 | x::es,hn,h=>by
  rw [A45,A4i] at hn
  rw [A45,List.find?_cons]
  rcases A46.1 h with h | h
  ·subst h
   have:((Me.ent kd e).born == e.n)=true:=by simp [Me.ent]
   rw [this]
  ·have hne:x.n≠e.n:=fun e2=>hn.1 (A5b.2 ⟨e,h,e2.symm⟩)
   have:((Me.ent kd x).born == e.n)=false:=by simpa [Me.ent] using hne
   rw [this]
   exact Xo kd hn.2 h
theorem I4 {x:Operand} {kd:IntKind} {i b since:Nat} {seen:List Nat} {m:Mp α} {e:Me α} {r r2:Bool}
  (hx:ev E x=some (.pointer (some ⟨i,0,none⟩))) (hi:(i,r,itO b since (seen++[e.n]) m.cl)∈H) (hm:(b,r2,m.obj kd)∈H) (he:e∈m.es) :
  Rd P E H (.entry x) (.tuple #[.int kd e.k,Mv.enc e.v]):=fun a w d ty pos af g h1 h2=>by
 have e0:w.heap[i]? =some (itO b since (seen++[e.n]) m.cl):=h2.here _ hi
 have e1:w.heap[b]? =some (.map (m.es.map (Me.ent kd)).toArray m.cl):=h2.here _ hm
 have hf:(m.es.map (Me.ent kd)).toArray.find? (·.born == e.n)=some (Me.ent kd e):=by
  rw [List.find?_toArray]
  exact Xo kd m.wn he
 simp only [execOp,Au h1 hx,Instr.entry,Sem.run_bind]
 rw [Acq (P:=P) e0]
 simp only [A3i]
 have hb:(seen++[e.n]).toArray.back? =some e.n:=by simp
 rw [hb]
 simp only [Sem.run_bind]
 rw [Ev (P:=P) e1]
 simp only [A3i,bne_self_eq_false,A2q,A53]
 rw [hf]
 rfl
end
section
variable {α:Type}
theorem Ip {m:Mp α} {seen:List Nat} (h:G5 m seen=[]):∀ e∈m.es,e.n∈seen:=fun e he=>by
 unfold G5 at h
 rw [List.filter_eq_nil_iff] at h
 have:=h e he
 simpa using this
def If (m:Mp α) (seen:List Nat):Nat:=((m.es.map (·.n)).filter fun i=> !decide (i∈seen)).length
theorem C5 {m:Mp α} {seen:List Nat} {e:Me α} (he:e∈m.es) (hs:e.n∉seen):If m (seen++[e.n])<If m seen:=by
 unfold If
 have h:((m.es.map (·.n)).filter fun i=> !decide (i∈seen++[e.n]))=((m.es.map (·.n)).filter fun i=> !decide (i∈seen)).filter fun i=> !decide (i=e.n):=by
  rw [List.filter_filter]
  refine List.filter_congr fun i _=> ?_
  by_cases h1:i∈seen <;> by_cases h2:i=e.n <;> simp [h1,h2]
 rw [h]
 refine List.length_filter_lt_length_iff_exists.2 ⟨e.n,A4g.2 ⟨A5b.2 ⟨e,he,rfl⟩,by simpa using hs⟩,by simp⟩
theorem Mp.n_inj {m:Mp α} {x e:Me α} (hx:x∈m.es) (he:e∈m.es) (h1:x.n=e.n):x=e:=by
 have:∀ (es:List (Me α)),(es.map (·.n)).Nodup→x∈es→e∈es→x=e:=fun es=>by
  induction es with
  | nil=>intro _ h;cases h
  | cons y es ih =>
   intro hn ha hb
   rw [A45,A4i] at hn
   rcases A46.1 ha with ha | ha <;> rcases A46.1 hb with hb | hb
   ·rw [ha,hb]
   ·exact absurd (A5b.2 ⟨e,hb,by rw [← ha,h1]⟩) hn.1
   ·exact absurd (A5b.2 ⟨x,ha,by rw [← hb,h1]⟩) hn.1
   ·exact ih hn.2 ha hb
 exact this m.es m.wn hx he
def Mp.mapV (m:Mp α) (f:α→α):Mp α:=⟨m.es.map fun e=>{ e with v:=f e.v },m.cl,by rw [A49];exact m.wk,by rw [A49];exact m.wn,fun e he=>by
 obtain ⟨x,hx,rfl⟩:=A5b.1 he
 exact m.wc x hx⟩
def Mp.upS (m:Mp α) (f:α→α) (seen:List Nat):Mp α:=⟨m.es.map fun e=>if e.n∈seen then { e with v:=f e.v } else e,m.cl,by
 have:(m.es.map fun e=>if e.n∈seen then { e with v:=f e.v } else e).map (·.k)=m.es.map (·.k):=by
  rw [A49];refine A2l fun e _=> ?_;simp only [Function.comp];split <;> rfl
 rw [this];exact m.wk,by
 have:(m.es.map fun e=>if e.n∈seen then { e with v:=f e.v } else e).map (·.n)=m.es.map (·.n):=by
  rw [A49];refine A2l fun e _=> ?_;simp only [Function.comp];split <;> rfl
 rw [this];exact m.wn,fun e he=>by
 obtain ⟨x,hx,rfl⟩:=A5b.1 he
 have:=m.wc x hx
 split <;> exact this⟩
theorem Mp.ext {m m':Mp α} (h1:m.es=m'.es) (h2:m.cl=m'.cl):m=m':=by
 cases m;cases m';simp only at h1 h2;subst h1;subst h2;rfl
theorem Mp.upS_nil (m:Mp α) (f:α→α):m.upS f []=m:=by
 refine Mp.ext ?_ rfl
 show m.es.map _=m.es
 conv=>rhs;rw [← List.map_id m.es]
 exact A2l fun e _=>by simp
theorem Mp.upS_all {m:Mp α} {f:α→α} {seen:List Nat} (h:∀ e∈m.es,e.n∈seen):m.upS f seen=m.mapV f:=by
 refine Mp.ext ?_ rfl
 exact A2l fun e he=>by rw [if_pos (h e he)]
theorem Mp.upS_mem {m:Mp α} {f:α→α} {seen:List Nat} {e:Me α} (h:e∈(m.upS f seen).es) (hs:e.n∉seen):e∈m.es:=by
 obtain ⟨x,hx,rfl⟩:=A5b.1 h
 by_cases h1:x.n∈seen
 ·rw [if_pos h1] at hs;exact absurd h1 hs
 ·rw [if_neg h1];exact hx
theorem Mp.upS_left {m:Mp α} {f:α→α} {seen:List Nat} (h:G5 (m.upS f seen) seen=[]):∀ e∈m.es,e.n∈seen:=fun e he=>by
 by_cases h1:e.n∈seen
 ·exact h1
 ·have h2:e∈(m.upS f seen).es:=A5b.2 ⟨e,he,by rw [if_neg h1]⟩
  exact Ip h e h2
theorem Mp.upS_put {m:Mp α} {f:α→α} {seen:List Nat} {e:Me α} (he:e∈m.es) (hs:e.n∉seen):(m.upS f seen).put e.k (f e.v)=m.upS f (seen++[e.n]):=by
 have hk:e.k∈(m.upS f seen).keys:=A5b.2 ⟨e,A5b.2 ⟨e,he,by rw [if_neg hs]⟩,rfl⟩
 unfold Mp.put
 rw [A55 hk]
 refine Mp.ext ?_ rfl
 show Kh (m.es.map fun e=>if e.n∈seen then { e with v:=f e.v } else e) e.k (f e.v)=m.es.map fun x=>if x.n∈seen++[e.n] then { x with v:=f x.v } else x
 unfold Kh
 rw [A49]
 refine A2l fun x hx=> ?_
 simp only [Function.comp]
 by_cases h1:x.k=e.k
 ·have hxe:x=e:=by
   have h3:=m.wk
   have:∀ (es:List (Me α)),(es.map (·.k)).Nodup→x∈es→e∈es→x=e:=fun es=>by
    induction es with
    | nil=>intro _ h;cases h
    | cons y es ih =>
     intro hn ha hb
     rw [A45,A4i] at hn
     rcases A46.1 ha with ha | ha <;> rcases A46.1 hb with hb | hb
     ·rw [ha,hb]
     ·exact absurd (A5b.2 ⟨e,hb,by rw [← ha,h1]⟩) hn.1
     ·exact absurd (A5b.2 ⟨x,ha,by rw [← hb,h1]⟩) hn.1
     ·exact ih hn.2 ha hb
   exact this m.es h3 hx he
  subst hxe
  rw [if_neg hs,if_pos h1,if_pos (A10 _ (A2z.2 rfl))]
 ·have hne:x.n≠e.n:=fun e2=>h1 (by
   have:∀ (es:List (Me α)),(es.map (·.n)).Nodup→x∈es→e∈es→x=e:=fun es=>by
    induction es with
    | nil=>intro _ h;cases h
    | cons y es ih =>
     intro hn ha hb
     rw [A45,A4i] at hn
     rcases A46.1 ha with ha | ha <;> rcases A46.1 hb with hb | hb
     ·rw [ha,hb]
     ·exact absurd (A5b.2 ⟨e,hb,by rw [← ha,e2]⟩) hn.1
     ·exact absurd (A5b.2 ⟨x,ha,by rw [← hb,e2]⟩) hn.1
     ·exact ih hn.2 ha hb
   rw [this m.es m.wn hx he])
  by_cases h2:x.n∈seen
  ·rw [if_pos h2,if_pos (A18 _ h2)]
   show (if x.k=e.k then _ else _)=_
   rw [if_neg h1]
  ·rw [if_neg h2,if_neg h1,if_neg (fun h3=>by rcases A4f.1 h3 with h4 | h4;exact h2 h4;exact hne (A2z.1 h4))]
theorem Mp.upS_skip {m:Mp α} {f:α→α} {seen:List Nat} {e:Me α} (he:e∈m.es) (hv:f e.v=e.v):m.upS f (seen++[e.n])=m.upS f seen:=by
 refine Mp.ext ?_ rfl
 refine A2l fun x hx=> ?_
 by_cases h2:x.n∈seen
 ·rw [if_pos h2,if_pos (A18 _ h2)]
 ·rw [if_neg h2]
  by_cases h3:x.n=e.n
  ·have:∀ (es:List (Me α)),(es.map (·.n)).Nodup→x∈es→e∈es→x=e:=fun es=>by
    induction es with
    | nil=>intro _ h;cases h
    | cons y es ih =>
     intro hn ha hb
     rw [A45,A4i] at hn
     rcases A46.1 ha with ha | ha <;> rcases A46.1 hb with hb | hb
     ·rw [ha,hb]
     ·exact absurd (A5b.2 ⟨e,hb,by rw [← ha,h3]⟩) hn.1
     ·exact absurd (A5b.2 ⟨x,ha,by rw [← hb,h3]⟩) hn.1
     ·exact ih hn.2 ha hb
   have hxe:=this m.es m.wn hx he
   subst hxe
   rw [if_pos (A10 _ (A2z.2 rfl)),hv]
  ·rw [if_neg (fun h4=>by rcases A4f.1 h4 with h5 | h5;exact h2 h5;exact h3 (A2z.1 h5))]
theorem Mp.get_mapV (m:Mp α) (f:α→α) (k:Int):(m.mapV f).get k=(m.get k).map f:=by
 unfold Mp.get
 have:∀ (es:List (Me α)) (j:Nat),(Cc (es.map fun e=>{ e with v:=f e.v }) k j).map (·.2)=((Cc es k j).map (·.2)).map f:=fun es=>by
  induction es with
  | nil=>intro _;rfl
  | cons e es ih =>
   intro j
   rw [A45]
   unfold Cc
   by_cases h:k=e.k
   ·rw [if_pos h,if_pos h];rfl
   ·rw [if_neg h,if_neg h];exact ih _
 exact this m.es 0
end
section
variable {P:Program} {E:Env} {H:Hp} {α:Type} [Cel α]
theorem Xp {t T:TypeId} {x:Operand} {s:Sl α} {i o sz:Nat} {z:α} {vs:List Value} {p:Nat} [ht:Agg P t true] [hz:Siz P t sz] (hx:ev E x=some (.pointer (some ⟨s.bk,p,none⟩))) (hm:Sub (s.hp T) H) (hi:s.list[i]? =some z) (hv:cut (Cel.cs z) o sz=some vs)
  (hp:p=s.off+i*Cel.sz α+o):Rd P E H (.load t x) (.agg vs.toArray):=by
 have hlt:=(A08.1 hi).1
 obtain ⟨r,cs,U,fr,h1,h2,h3⟩:=s.block T (by omega)
 have h4:=h3 i z hi
 subst hp
 exact Am hx (hm _ (by rw [h1];exact .head _)) (Ahm h4 hv)
end
end
section
section
variable {α:Type} [Mv α] {P:Program} {n:Nat} {E:Env} {H:Hp} {Q:C7} {ops:Array Oper} {rest:List Oper}
theorem Aw8 {t kt et:TypeId} {x:Operand} {v:Value} [ht:Und P t (.map kt et)] (hx:ev E x=some v):Rd P E H (.makeInterface t x) (.iface t v) :=
 fun a w d ty pos af g h1 h2=>by
  simp only [execOp,Au h1 hx,Instr.makeInterface,Sem.run_bind,A4y ht.eq,A3i]
  rfl
theorem Afl {t u kt et:TypeId} {x:Operand} {v:Value} [ht:Und P t (.map kt et)] (hx:ev E x=some (.iface t v)):Rd P E H (.typeAssert x u t false) v :=
 fun a w d ty pos af g h1 h2=>by
  simp only [execOp,Au h1 hx,Instr.typeAssert,Sem.run_bind,A4y ht.eq,A3i]
  simp
theorem Re (w:World) (d:Nat) (t k e:TypeId) (p:Option Nat) (h:P.underlying t=some (.map k e)):(Op.equalIn (d+1) t (.map p) (.map none)).run P w= .ok p.isNone w:=by
 cases p <;> simp [Op.equalIn,A4y h]
theorem Aj8 {t kt et u:TypeId} {x y:Operand} {b:Nat} [ht:Und P t (.map kt et)] (hx:ev E x=some (.map (some b))) (hy:ev E y=some (.map none)):Rd P E H (.binOp .eql t x y u) (.bool false) :=
 fun a w d ty pos af g h1 h2=>Tj (fun _ _=>rfl) rfl (show (Op.equal t (.map (some b)) (.map none)).run P w= .ok false w from Re w 9999 t kt et (some b) ht.eq) (Au h1 hx) (Au h1 hy) d ty pos af g u
class Mcl (P:Program) (f:FuncId):Prop where
 eq : ∃ fn, P.funcs[f]? = some fn ∧ (fn.name == "runtime.NumGoroutine") = false ∧ fn.body.isNone = true ∧ Extern.findNext fn = none ∧ Extern.find fn = some Extern.MapsClone.clone
theorem Ant [rg:Rg] {d:Nat} {f:FuncId} {t:TypeId} {x:Operand} {ts:Array TypeId} {ty:TypeId} {pos:String} {af:Array Edge} {kd:IntKind} {b:Nat} {m:Mp α} {r:Bool} [hf:Mcl P f]
  (hx:ev E x=some (.iface t (.map (some b)))) (hm:(b,r,m.obj kd)∈H) (hd:Nat.blt d n=true)
  (k:∀ c,SO P n ops rest ((d,.iface t (.map (some c)))::E) ((c,true,m.obj kd)::H) Q) :
  SO P n ops (⟨some d,.call ⟨.value (.func f),#[x],ts⟩,ty,pos,af,none⟩::rest) E H Q:=by
 intro a w h1 h2 h3 h4
 refine A5o rfl fun K hK=> ?_
 obtain ⟨fn,f1,f2,f3,f4,f5⟩:=hf.eq
 have e0:w.heap[b]? =some (.map (m.es.map (Me.ent kd)).toArray m.cl):=h4.here _ hm
 have hr:(Extern.MapsClone.clone #[.iface t (.map (some b))]).run P w= .ok (.iface t (.map (some w.heap.size))) (w.alloc (.map (m.es.map (Me.ent kd)).toArray m.cl)):=by
  have e:Extern.MapsClone.clone #[.iface t (.map (some b))]=(getObj b >>= fun o=>match o with
   | .map entries clock=>(newObj (.map entries clock) >>= fun n=>pure (.iface t (.map (some n))))
   | _ => stuck "maps.clone: a map expected") := rfl
  rw [e,Sem.run_bind,Ev (P:=P) e0]
  rfl
 have hrun:(execOp a.eval ⟨some d,.call ⟨.value (.func f),#[x],ts⟩,ty,pos,af,none⟩).run P w= .ok (.value (.iface t (.map (some w.heap.size)))) (w.alloc (m.obj kd)):=by
  simp only [execOp,resolve,Act.eval,Sem.run_bind,Deferred.ofValue,Sem.run_pure,A3i,invoke]
  have hxx:=Au h1 hx
  have e1:(#[x].map a.eval++#[])=#[.iface t (.map (some b))]:=by simp [hxx]
  simp only [List.map_toArray,A45,A5a,hxx] at e1 ⊢
  have:=run_callFunc_extern (P:=P) f1 f2 f3 f4 f5 #[.iface t (.map (some b))] w
  rw [hr] at this
  simpa [Mp.obj] using this
 unfold Oper.wp
 rw [hrun]
 have hlt:d<a.tmps.size:=by rw [h2];exact A13 hd
 have htr:=Kg h4 (o:=m.obj kd) (fun _ _ _ e=>nomatch e)
 exact hK _ _ (B2 htr (k _ _ _ (h1.put hlt) (by simp [Act.put,h2]) h3 htr.ok))
end
end
section
open Go Go.Sem
set_option linter.unusedSectionVars false
section
variable {P:Program} {n f:Nat} {fn:Func} {E:Env} {H:Hp} {Q:C7} {R:Value→Hp→Prop}
theorem Acr {i g:Nat} {gf:FuncId} {ps:Array Tmp} {asg bd y:Code} {fi ca:List Value} {L F:Hp} {R1:Hp→Prop} [he:Ent P gf]
  (hg:fnd E g=some (.func (.func gf) fi.toArray ca.toArray)) (hs:Split H L F)
  (hf:∀ (D l:Nat) (f0:FuncId) (tm:Array Value),EnvOk E { tmps:=tm,defers:=[] }→tm.size=n →
   Does P gf (fi++[.func (.yield l) #[] #[]]++ca) ((l,true,.loop ⟨.ready,none,f0,tm,ps,asg,bd,D⟩)::L) (fun _ Y=>∃ st M,Y=(l,true,.loop ⟨st,none,f0,tm,ps,asg,bd,D⟩)::M∧st≠.busy∧R1 M))
  (k:∀ (rg:Rg) (D:Nat) (M:Hp),R1 M→SC P n y E (mark D::(M++F)) (Ann P fn R D)) :
  SDk P fn n (.block i (.rangeFunc (.tmp g) ps asg bd)) y E H R:=by
 intro a w h1 h2 h3 h4
 refine wpIn_block (wpIn_rangeFunc fun f0 _=> ?_)
 have t1:=Kg h4 (o:= .deferred (some [])) (fun _ _ _ e=>nomatch e)
 have t2:=Kg t1.ok (o:= .loop ⟨.ready,none,f0,a.tmps,ps,asg,bd,w.heap.size⟩) (fun _ _ _ e=>nomatch e)
 have hsz:(w.alloc (.deferred (some []))).heap.size=w.heap.size+1:=Array.size_push ..
 rw [hsz] at t2
 obtain ⟨W,hW⟩:∃ W,W=(w.alloc (.deferred (some []))).alloc (.loop ⟨.ready,none,f0,a.tmps,ps,asg,bd,w.heap.size⟩):=⟨_,rfl⟩
 rw [← hW] at t2
 have hgv:a.eval (.tmp g)= .func (.func gf) fi.toArray ca.toArray:=h1 g _ hg
 have hen:=run_enterLoop_outer (P:=P) (w:=w) f0 a.tmps ps asg bd
 rw [← hW] at hen
 refine ⟨w.heap.size+1,[⟨.collected w.heap.size,#[]⟩],W,⟨.fn (.func gf) ca.toArray,(fi++[Value.func (.yield (w.heap.size+1)) #[] #[]]).toArray⟩,W,gf,(fi++[Value.func (.yield (w.heap.size+1)) #[] #[]]++ca).toArray,W,
  hen,?_,fun _ _=>trivial,?_,fun e=>(by cases e),?_⟩
 ·have hc:∀ v,a.eval (.const v)=v:=fun _=>rfl
  simp [resolve,rangeCall,hgv,hc,Deferred.ofValue,Sem.run_bind,Sem.run_pure,A3i]
 ·have:=he.eq (fi++[Value.func (.yield (w.heap.size+1)) #[] #[]]++ca).toArray W
  simpa [invoke] using this
 ·refine A5m.2 ?_
  have hp:=hs.perm
  have hok2:=t2.ok.perm ((List.Perm.cons _ ((List.Perm.cons _ hp).trans (A3z (l₁:=L) (a:=mark w.heap.size) (l₂:=F)).symm)))
  have hok3:HpOk (((w.heap.size+1,true,Obj.loop ⟨.ready,none,f0,a.tmps,ps,asg,bd,w.heap.size⟩)::L)++(mark w.heap.size::F)) W:=hok2
  refine (hf w.heap.size (w.heap.size+1) f0 a.tmps (by exact h1) h2 W hok3.left).mono ?_
  rintro e W2 ⟨v,Y,rfl,⟨st,M,rfl,hst,hR1⟩,ht⟩
  have t3:=ht.frame hok3
  have tp:Trk w W H (((w.heap.size+1,true,Obj.loop ⟨.ready,none,f0,a.tmps,ps,asg,bd,w.heap.size⟩)::L)++(mark w.heap.size::F)):=(t1.trans t2).sub hok3 (fun x hx=>by
   have:=(List.Perm.cons (w.heap.size+1,true,Obj.loop ⟨.ready,none,f0,a.tmps,ps,asg,bd,w.heap.size⟩) ((List.Perm.cons (mark w.heap.size) hp).trans (A3z (l₁:=L) (a:=mark w.heap.size) (l₂:=F)).symm)).mem_iff (a:=x)
   exact this.2 hx)
  have t4:=tp.trans t3
  have hl:=t4.ok.here _ (A2y)
  have t5:=Kf (b:=w.heap.size+1) (o':= .loop ⟨.exhausted,none,f0,a.tmps,ps,asg,bd,w.heap.size⟩) t4.ok .here (fun _ _ _ e=>nomatch e) (fun _ _ _ e=>nomatch e)
  have t6:=(t4.trans t5).drop .here
  have hpm:(M++mark w.heap.size::F).Perm (mark w.heap.size::(M++F)):=A3z
  have t7:=t6.sub (t6.ok.perm hpm) (fun x hx=>hpm.mem_iff.2 hx)
  refine ⟨none,_,run_endLoop hl hst,?_⟩
  show y.wpIn Fence.wide 0 P _ _ _
  let rg:Rg:=⟨[⟨.collected w.heap.size,#[]⟩],none⟩
  have hk:=k rg w.heap.size M hR1 { a with defers:=[⟨.collected w.heap.size,#[]⟩]++a.defers } _ h1 h2 (by rw [h3];rfl) t7.ok (fun e=>by cases e)
  refine A51 (F:=Fence.wide) hk ?_
  rintro e a2 w2 ⟨E2,H2,m1,m2,m3,m4,m5⟩
  cases e with
  | normal=>obtain ⟨G,q1,v,L2,F3,q2,q3,q4⟩:=m5;exact ⟨.inl rfl,E2,H2,_,v,L2,m1,m3,t7.trans m4,G,F3,q1,q3,q2,q4⟩
  | ret=>obtain ⟨G,q1,v,L2,F3,q2,q3,q4⟩:=m5;exact ⟨.inr rfl,E2,H2,_,v,L2,m1,m3,t7.trans m4,G,F3,q1,q3,q2,q4⟩
  | _=>exact m5.elim
end
end
section
open Go Go.Sem
theorem Acs {w:World} {H:Hp} (h:HpOk H w) (os:Array Obj):Trk w { w with heap:=w.heap++os } H H:=by
 refine ⟨⟨h.far,fun x hx=> ?_⟩,rfl,rfl,rfl,fun a ha=> ?_,by simp,fun c hc _=> ?_,fun _ h=> .inl h,fun _ h=> .inl h⟩
 ·have:=h.lt hx
  show (w.heap++os)[x.1]? =_
  rw [A0x this];exact h.here x hx
 ·simp only [World.frozen?,A0x ha]
 ·show (w.heap++os)[c]? =_
  rw [A0x hc]
theorem Wt {xs ys:List Int} {sp:List Value} (h:ys.length=xs.length):(Sort.putCells (Value.int .i64) 0 ys.toArray (cells xs++sp).toArray)=(cells ys++sp).toArray:=by
 have hc:∀ zs:List Int,(cells zs:List Value)=zs.map (Value.int .i64):=fun zs=>by
  induction zs with
  | nil=>rfl
  | cons z zs ih=>simp only [cells,A27,A45] at *;rw [ih];rfl
 rw [hc,hc]
 unfold Sort.putCells
 apply Array.ext
 ·simp [h]
 ·intro i h1 h2
  simp only [Array.getElem_mapIdx,A5s,A5k,true_and,A3f,A5i,A17]
  by_cases hi:i<ys.length
  ·rw [if_pos hi,A1e (by simpa using hi)]
   rw [A5n ys.toArray i (by simpa using hi)]
   simp
  ·rw [if_neg hi,A09 (by simpa [h] using hi),A09 (by simpa using hi)]
   simp [h]
theorem Acu {w:World} {b n:Nat} {xs ys:List Int} {sp:List Value} {T:TypeId} {os:Array Obj} (h:HpOk [(b,true,C (cells xs++sp) T)] w) (hl:ys.length=xs.length) :
  Trk w (Sort.grow (Sort.putRow (Value.int .i64) (Sort.ahead w n) b 0 ys.toArray) os) [(b,true,C (cells xs++sp) T)] [(b,true,C (cells ys++sp) T)]:=by
 have t1:=C8 h (w.drawn+n)
 have hb:=t1.ok.here _ (A2y)
 have t2:=Ph (b:=b) (o:=C (cells xs++sp) T) (o':=C (cells ys++sp) T) t1.ok .here (fun i s=>by
  have hlt:=t1.ok.lt (x:=(b,true,C (cells xs++sp) T)) A2y
  rw [Ht hb]
  exact Ht (cs:=cells ys++sp) (T:=T) (by simp only at hlt;simp [Cb,hlt]) _ _)
 have e:Sort.putRow (Value.int .i64) (Sort.ahead w n) b 0 ys.toArray=Cb { w with drawn:=w.drawn+n } b (C (cells ys++sp) T):=by
  unfold Sort.putRow Sort.mapBlock Cb Sort.ahead
  congr 1
  apply A2n
  intro k
  rw [A1r,A0t]
  by_cases hk:b=k
  ·subst hk
   have hlt:=t1.ok.lt (x:=(b,true,C (cells xs++sp) T)) A2y
   simp only at hb hlt
   rw [if_pos rfl,if_pos rfl,hb,if_pos hlt]
   show some (Sort.onCells _ (.cells _ _ _))=_
   simp only [Sort.onCells]
   rw [Wt hl]
   rfl
  ·rw [if_neg hk,if_neg hk]
 have t3:=Acs t2.ok os
 unfold Sort.grow
 rw [e]
 exact (t1.trans t2).trans t3
end
section
open Go Go.Sem
set_option linter.unusedSectionVars false
section
variable {P:Program} {F:Fence} {n:Nat}
theorem Acv {fr:Frame} {cs:List Frame} {w w':World} {d:Deferred} {b:Builtin} {ts:Array TypeId} {ty:TypeId} {co:Array Bool} {v:Value} {ds:List Deferred}
  (hm:fr.mode≠.run) (hd:fr.defers=d::ds) (ht:d.target= .builtin b ts ty co) (hi:(invoke d.target d.args).run P w= .ok (.value v) w') :
  step P (lone fr cs w)= .next (lone { fr with defers:=ds } cs w'):=by
 obtain ⟨t,a⟩:=d
 simp only at ht hi
 subst ht
 refine step_lone_go ?_
 cases hmode:fr.mode with
 | run=>exact absurd hmode hm
 | returning=>simp [stepG,unwind,callDeferred,hmode,hd,hi,Sem.runT_eq,GStep.bare_after]
 | panicking chain=>simp [stepG,unwind,callDeferred,hmode,hd,hi,Sem.runT_eq,GStep.bare_after]
def LeavesB (F:Fence) (n:Nat) (P:Program) (fn:Func) (tmps:Array Value) (R:Ending→World→Prop):List Deferred→World→Prop
 | [],w=>LeavesIn F n P fn tmps R [] .returning w
 | d::ds,w=>∃ b ts ty co v w',d.target= .builtin b ts ty co∧(invoke d.target d.args).run P w= .ok (.value v) w'∧LeavesB F n P fn tmps R ds w'
theorem Ns {fn:Func} {tmps:Array Value} {R:Ending→World→Prop}:∀ (ds:List Deferred) (w:World) (fr:Frame)
  (cs:List Frame),fr.mode= .returning→fr.defers=ds→fr.tmps=tmps→P.funcs[fr.fn]? =some fn→fr.kind= .normal→F.fn fr.fn→F.room (cs.length+1+n)→LeavesB F n P fn tmps R ds w →
  ∃ e w' fr',R e w'∧ComesIn (Machine.fenced P F) P (lone fr cs w) (lone fr' cs w') e∧fr'.fn=fr.fn∧fr'.leaving P w' e:=by
 intro ds
 induction ds with
 | nil=>exact fun w fr cs hu hd ht hf hk hb hroom h=>leaves_stepsIn [] .returning w fr cs hu hd ht hf hk hb hroom h
 | cons d ds ih =>
  intro w fr cs hu hd ht hf hk hb hroom h
  obtain ⟨b,ts,ty,co,v,w',htar,hinv,hrest⟩:=h
  have hrun:fr.mode≠.run:=by rw [hu];intro h;cases h
  have h1:=Acv (cs:=cs) hrun hd htar hinv
  have i1:(lone fr cs w).fenced P F:=fenced_out hb hroom hrun hd (fun g hg=>by rw [htar] at hg;simp [Target.leads] at hg)
  obtain ⟨e',w'',fr',hR',hs',hfn',hl'⟩:=ih w' { fr with defers:=ds } cs hu rfl ht hf hk hb hroom hrest
  exact ⟨e',w'',fr',hR',ComesIn.of_steps (.one i1 h1) hs',hfn',hl'⟩
def Aj9 (F:Fence) (n:Nat) (P:Program) (fn:Func) (R:Ending→World→Prop):Exit→Act→World→Prop
 | .normal,a,w | .ret,a,w=>LeavesB F n P fn a.tmps R a.defers w
 | .outgrown,_,w=>R .outgrown w
 | _,_,_=>False
theorem Uv {f:FuncId} {fn:Func} {c:Code} {args:Array Value} {w:World} {R:Ending→World→Prop}
  (hf:P.funcs[f]? =some fn) (hb:fn.body=some c) (hF:F.fn f)
  (h:c.wpIn F n P (Aj9 F n P fn R) { tmps:=args++Array.replicate (fn.ntmps - args.size) undef,defers:=[] } w) (hro:F.round=none:=by rfl):CallsIn F n P f args w R:=by
 refine ⟨hF,fun cs hr=> ?_⟩
 let b:Frame:={ (default:Frame) with fn:=f,kind:= .normal,roundOf:=none }
 have henter:Frame.enter P f args .normal =
   b.atR { tmps:=args++Array.replicate (fn.ntmps - args.size) undef,defers:=[] } [.code c]:=by
  simp [Frame.enter,Frame.atR,hf,hb,b]
 obtain ⟨e,a',w',hq,harr⟩:=h b [] cs hro.symm hF hr
 rw [← henter] at harr
 cases e with
 | normal =>
  obtain ⟨e',w'',fr',hR,hs,hfn,hl⟩:=Ns a'.defers w' { b.atR a' [] with mode:= .returning } cs rfl rfl rfl hf rfl hF hr hq
  exact ⟨e',w'',fr',hR,ComesIn.of_steps (StepsIn.trans harr (.one (fenced_calm (fr:=b.atR a' []) hF hr rfl) (stepR_end rfl))) hs,hfn,hl⟩
 | ret =>
  obtain ⟨todo,hs₀⟩:=harr.1 rfl
  obtain ⟨e',w'',fr',hR,hs,hfn,hl⟩:=Ns a'.defers w' { b.atR a' todo with mode:= .returning } cs rfl rfl rfl hf rfl hF hr hq
  exact ⟨e',w'',fr',hR,ComesIn.of_steps hs₀ hs,hfn,hl⟩
 | panic chain=>exact hq.elim
 | exit id=>exact hq.elim
 | goto l=>exact hq.elim
 | outgrown=>exact ⟨.outgrown,w',b,hq,harr.resolve_left (by simp [b]),rfl,trivial⟩
end
end
section
open Go Go.Sem
set_option linter.unusedSectionVars false
def BR (w:World) (H:Hp) (R:Value→Hp→Prop):Ending→World→Prop:=fun e w''=>∃ v H',e= .returned v∧R v H'∧Trk w w'' H H'
def BQ (P:Program) (fn:Func) (w:World) (H:Hp) (R:Value→Hp→Prop):Exit→Act→World→Prop:=fun e a' w' =>
 (e= .normal∨e= .ret)∧LeavesB Fence.wide 0 P fn a'.tmps (BR w H R) a'.defers w'
def SBf (P:Program) (fn:Func) (n:Nat) (c:Code) (E:Env) (H:Hp) (R:Value→Hp→Prop):Prop :=
 ∀ a w,EnvOk E a→a.tmps.size=n→a.defers=[]→HpOk H w→c.wpIn Fence.wide 0 P (BQ P fn w H R) a w
section
variable {P:Program} {n f:Nat} {fn:Func} {E:Env} {H:Hp} {R:Value→Hp→Prop}
theorem LeavesB.mono {tmps:Array Value} {R1 R2:Ending→World→Prop} (h:∀ e w,R1 e w→R2 e w):∀ (ds:List Deferred) (w:World),LeavesB Fence.wide 0 P fn tmps R1 ds w→LeavesB Fence.wide 0 P fn tmps R2 ds w
 | [],w,⟨v,h1,h2⟩=>⟨v,h1,h _ _ h2⟩
 | d::ds,w,⟨b,ts,ty,co,v,w',h1,h2,h3⟩=>⟨b,ts,ty,co,v,w',h1,h2,LeavesB.mono h ds w' h3⟩
theorem BQ.after {w w1:World} {H1:Hp} (ht:Trk w w1 H H1) {e:Exit} {a:Act} {w':World} (h:BQ P fn w1 H1 R e a w'):BQ P fn w H R e a w' :=
 ⟨h.1,LeavesB.mono (fun e w ⟨v,H',h1,h2,h3⟩=>⟨v,H',h1,h2,ht.trans h3⟩) _ _ h.2⟩
theorem Aka {c:Code} {args:List Value} (hf:P.funcs[f]? =some fn) (hn:fn.ntmps=n) (hb:fn.body=some c) (hl:args.length≤n) (h:SBf P fn n c (N8 0 args) H R):Does P f args H R:=by
 intro w hw
 refine A5m.1 (Uv (n:=0) hf hb trivial (A51 (h { tmps:=args.toArray++Array.replicate (fn.ntmps - args.toArray.size) undef,defers:=[] } w ?_ ?_ rfl hw) ?_))
 ·intro i v hv
  obtain ⟨_,h2⟩:=K7 args 0 i v hv
  have hi:i<args.length:=(A08.1 (by simpa using h2)).1
  simp only [A0v]
  rw [A0x (by simpa using hi)]
  have h2':args[i]? =some v:=by simpa using h2
  simp [h2']
 ·simp;omega
 ·rintro e a' w' ⟨k0,k1⟩
  rcases k0 with rfl | rfl
  ·exact k1
  ·exact k1
theorem Azh {w w':World} {E':Env} {H':Hp} {a':Act} {e:Exit} (he:e= .normal∨e= .ret) (h1:EnvOk E' a') (h3:a'.defers=[]) (h4:Trk w w' H H') (h5:G4 P fn R .ret E' H'):BQ P fn w H R e a' w':=by
 obtain ⟨v,L,F,q1,q2,q3⟩:=h5
 refine ⟨he,?_⟩
 rw [h3]
 exact ⟨v,q1 a' w' h1 h4.ok,v,L,rfl,q3,h4.split q2⟩
def thB (P:Program) (fn:Func) (R:Value→Hp→Prop) (K:Env→Hp→Prop):C7
 | .normal,E,H=>K E H
 | .ret,E,H=>G4 P fn R .ret E H
 | _,_,_=>False
theorem Nt {x y:Code} (h:SC P n x E H (thB P fn R fun E' H'=>SBf P fn n y E' H' R)):SBf P fn n (.seq x y) E H R:=by
 intro a w h1 h2 h3 h4
 refine wpIn_seq (A51 (h a w h1 h2 h3 h4 fun e=>by cases e) ?_)
 rintro e a' w' ⟨E',H',k1,k2,k3,k4,k5⟩
 cases e with
 | normal=>exact A51 (k5 a' w' k1 k2 k3 k4.ok) fun e a2 w2 hh=>hh.after k4
 | ret=>exact Azh (.inr rfl) k1 k3 k4 k5
 | exit i=>exact k5.elim
 | goto l=>exact k5.elim
 | panic ch=>exact k5.elim
 | outgrown=>exact k5.elim
end
end
section
open Go Go.Sem
set_option linter.unusedSectionVars false
def Afm (t ty:TypeId) (b:Nat):Deferred:={ target:= .builtin .clear #[t] ty #[false],args:=#[.map (some b)] }
def Anu (α:Type) [Mv α] (P:Program) (fn:Func) (R:Value→Hp→Prop) (b:Nat):C7
 | .normal,E,H | .ret,E,H=>∃ (kd:IntKind) (m:Mp α) (G:Hp),Upd b (m.obj kd) (m.clr.obj kd) H G∧G4 P fn R .ret E G
 | _,_,_=>False
section
variable {P:Program} {n f:Nat} {fn:Func} {E:Env} {H:Hp} {R:Value→Hp→Prop}
theorem As6 (α:Type) [Mv α] {id b d0:Nat} {l x:List Oper} {y:Code} {t ty kt et:TypeId} {pos:String} {af:Array Edge} [ht:Und P t (.map kt et)]
  (hx:l.dropLast=x) (hd:l.getLast? =some ⟨none,.defer ⟨.builtin .clear,#[.tmp d0],#[t]⟩,ty,pos,af,none⟩)
  (h:∀ ops,SO P n ops x E H (fun e E' H'=>e= .normal∧ev E' (.tmp d0)=some (.map (some b))∧∀ rg:Rg,rg.ds=[Afm t ty b]→rg.rd=none→SC P n y E' H' (Anu α P fn R b))) :
  SBf P fn n (.seq (.region id l.toArray false) y) E H R:=by
 have hl:l=x++[⟨none,.defer ⟨.builtin .clear,#[.tmp d0],#[t]⟩,ty,pos,af,none⟩]:=by
  obtain ⟨ys,rfl⟩:=List.getLast?_eq_some_iff.1 hd
  rw [List.dropLast_concat] at hx
  rw [hx]
 intro a w h1 h2 h3 h4
 refine wpIn_seq (wpIn_region_lit ?_)
 subst hl
 refine O8 _ (Q:=Up n w H (fun e E' H'=>e= .normal∧ev E' (.tmp d0)=some (.map (some b))∧∀ rg:Rg,rg.ds=[Afm t ty b]→rg.rd=none→SC P n y E' H' (Anu α P fn R b))) ?_ ?_ x a w (fun e=>by cases e) (h _ a w h1 h2 h3 h4)
 ·rintro a' w' ⟨E',H',k1,k2,k3,k4,_,k5,k6⟩
  have hrun:(execOp a'.eval ⟨none,.defer ⟨.builtin .clear,#[.tmp d0],#[t]⟩,ty,pos,af,none⟩).run P w'= .ok (.defer (Afm t ty b)) w':=by
   simp only [execOp,B3,Sem.run_bind,A3i,Sem.run_pure]
   simp [Afm,Au k1 k5]
  unfold wpListIn
  rw [if_pos (Li (Y:=[]) (fun _ _ h=>by cases h) rfl k1)]
  refine ⟨fun _ _=>trivial,?_⟩
  have hs:∀ o:Oper,Oper.semAt (Rg.F).round a'.eval o=execOp a'.eval o:=fun o=>rfl
  rw [hs,hrun,Oper.uponIn_defer]
  show y.wpIn Fence.wide 0 P (BQ P fn w H R) _ w'
  let rg:Rg:=⟨[Afm t ty b],none⟩
  have hk:=k6 rg rfl rfl { a' with defers:=Afm t ty b::a'.defers } w' k1 k2 (by rw [k3];rfl) k4.ok (fun e=>by cases e)
  refine A51 (F:=Fence.wide) hk ?_
  rintro e a2 w2 ⟨E2,H2,m1,m2,m3,m4,m5⟩
  have fin:(∃ (kd:IntKind) (m:Mp α) (G:Hp),Upd b (m.obj kd) (m.clr.obj kd) H2 G∧G4 P fn R .ret E2 G)→LeavesB Fence.wide 0 P fn a2.tmps (BR w H R) a2.defers w2:=by
   rintro ⟨kd,m,G,hu,v,L,F,q1,q2,q3⟩
   have e0:w2.heap[b]? =some (m.obj kd):=m4.ok.here _ hu.mem
   have hc:=Aht (P:=P) (t:=t) (ty:=ty) e0
   have htr:=Ti m4.ok hu
   have hall:=(k4.trans m4).trans htr
   rw [m3]
   refine ⟨.clear,#[t],ty,#[false],.tuple #[],_,rfl,?_,v,q1 a2 _ m1 htr.ok,v,L,rfl,q3,hall.split q2⟩
   simp [Afm,invoke,builtin,hc]
  cases e with
  | normal=>exact ⟨.inl rfl,fin m5⟩
  | ret=>exact ⟨.inr rfl,fin m5⟩
  | exit i=>exact m5.elim
  | goto l=>exact m5.elim
  | panic ch=>exact m5.elim
  | outgrown=>exact m5.elim
 ·rintro e a' w' he ⟨E',H',k1,k2,k3,k4,k5,_⟩
  exact he k5
end
end
section
open Go Go.Sem
set_option linter.unusedSectionVars false
theorem An4 {w:World} {H:Hp} (h:HpOk H w) {o:Obj}:Trk w { w with heap:=w.heap.push o } H ((w.heap.size,true,o)::H):=by
 refine ⟨⟨?_,fun x hx=> ?_⟩,rfl,rfl,rfl,fun a ha=> ?_,by simp,fun c hc _=> ?_,?_,?_⟩
 ·refine A20.2 ⟨fun x hx e=> ?_,h.far⟩
  have:=h.lt hx
  simp only at e
  omega
 ·cases hx with
  | head=>simp
  | tail _ hx=>have:=h.lt hx;simp [A2g,h.here x hx];omega
 ·obtain ⟨ab,ao,as0⟩:=a
  have ha:ab<w.heap.size:=ha
  have hb:ab≠w.heap.size:=by omega
  simp [World.frozen?,A2g,hb]
 ·simp [A2g];omega
 ·rintro c ⟨x,hx,rfl⟩
  cases hx with
  | head=>exact .inr (A5q _)
  | tail _ hx=>exact .inl ⟨x,hx,rfl⟩
 ·rintro c ⟨x,hx,rfl,hr⟩
  cases hx with
  | head=>exact .inr (A5q _)
  | tail _ hx=>exact .inl ⟨x,hx,rfl,hr⟩
section
variable {P:Program} {n:Nat} {E:Env} {H:Hp} {Q:C7} {ops:Array Oper} {rest:List Oper}
theorem Ahw [rg:Rg] {d d2:Nat} {t e:TypeId} {l:Nat} {ps:List (Nat×Operand)} {ty ty2:TypeId} {pos pos2:String} {af af2:Array Edge} {vs:List (Nat×Value)} {cs zs:List Value} [ht:Und P t (.slice e)] [he:Und P e (.int .u8)] [hz:Zer P e zs] [hs:Siz P e zs.length]
  (hv:evs E ps=some vs) (hb:Pr zs.length (Gl l zs) vs=some cs) (hl:Nat.ble (l*zs.length) 16777216=true) (hd:Nat.blt d n=true) (hd2:Nat.blt d2 n=true)
  (k:∀ b,SO P n ops rest ((d2,.slice (some ⟨b,0,none⟩) l l)::(d,.slice (some ⟨b,0,none⟩) l l)::E) ((b,true,CF cs e (cs.length,cs.length+1))::H) Q) :
  SO P n ops (⟨some d,.buildSlice t l ps.toArray,ty,pos,af,none⟩::⟨some d2,.convert t t (.tmp d),ty2,pos2,af2,none⟩::rest) E H Q:=by
 intro a w h1 h2 h3 h4
 have hbs:(Instr.buildSlice t l vs.toArray).run P w= .ok (.slice (some ⟨w.heap.size,0,none⟩) l l) { w with heap:=w.heap.push (C cs e) }:=by
  obtain ⟨z,hz1,hz2⟩:=Ef (P:=P) (t:=e) w
  have hfill:=Ps zs.length vs (Gl l zs) cs hb
  have hl':¬ l*zs.length>2 ^ 24:=by have:=A13 hl;omega
  simp only [Instr.buildSlice,Sem.run_bind,A4y ht.eq,A3i,Bk,hl',A53]
  by_cases h0:l*zs.length=0
  ·have he:Gl l zs=[]:=A1j.1 (by rw [Kj];exact h0)
   rw [he] at hfill
   have hr:Array.range 0=#[]:=rfl
   simp [h0,hr,hfill,newRow,C,CF]
  ·simp only [h0,A53,Sem.run_bind,hz1,A3i,Sem.run_pure]
   rw [Tn l z.cells zs hz2,hfill]
   simp [newRow,C,CF]
 have hrun:(execOp a.eval ⟨some d,.buildSlice t l ps.toArray,ty,pos,af,none⟩).run P w= .ok (.value (.slice (some ⟨w.heap.size,0,none⟩) l l)) { w with heap:=w.heap.push (C cs e) }:=by
  have:=Od h1 hv
  have e2:(ps.toArray.map fun (i,x)=>(i,a.eval x))=vs.toArray:=by rw [← this];simp
  simp only [execOp,Sem.run_bind]
  rw [e2,hbs];rfl
 have hlt:d<a.tmps.size:=by rw [h2];exact A13 hd
 have h1':=h1.put (v:= .slice (some ⟨w.heap.size,0,none⟩) l l) hlt
 have hrun2:(execOp (a.put (some d) (.slice (some ⟨w.heap.size,0,none⟩) l l)).eval ⟨some d2,.convert t t (.tmp d),ty2,pos2,af2,none⟩).run P { w with heap:=w.heap.push (C cs e) }= .ok (.value (.slice (some ⟨w.heap.size,0,none⟩) l l)) { w with heap:=w.heap.push (CF cs e (cs.length,cs.length+1)) }:=by
  have hev:=Au h1' (x:= .tmp d) (v:= .slice (some ⟨w.heap.size,0,none⟩) l l) (by show fnd ((d,_)::E) d=_;unfold fnd;rw [Nat.beq_refl];rfl)
  simp only [execOp,hev,Sem.run_bind]
  have:=Lib.run_convert_bytes_const (P:=P) w t e cs.toArray l l ht.eq he.eq
  have h5:(convert t t (.slice (some ⟨w.heap.size,0,none⟩) l l)).run P { w with heap:=w.heap.push (C cs e) }= .ok (.slice (some ⟨w.heap.size,0,none⟩) l l) { w with heap:=w.heap.push (CF cs e (cs.length,cs.length+1)) }:=this
  rw [h5];rfl
 refine A5o rfl fun K hK=> ?_
 unfold Oper.wp
 rw [hrun]
 refine hK _ _ (A5o rfl fun K2 hK2=> ?_)
 unfold Oper.wp
 rw [hrun2]
 have hlt2:d2<(a.put (some d) (.slice (some ⟨w.heap.size,0,none⟩) l l)).tmps.size:=by simp [Act.put,h2];exact A13 hd2
 have htr:=An4 (o:=CF cs e (cs.length,cs.length+1)) h4
 exact hK2 _ _ (B2 htr (k _ _ _ (h1'.put hlt2) (by simp [Act.put,h2]) h3 htr.ok))
end
end
section
open Go Go.Sem
set_option linter.unusedSectionVars false
theorem Acz {xs ys sp:List Value} (h:ys.length=xs.length):(Sort.putCells id 0 ys.toArray (xs++sp).toArray)=(ys++sp).toArray:=by
 unfold Sort.putCells
 apply Array.ext
 ·simp [h]
 ·intro i h1 h2
  simp only [Array.getElem_mapIdx,A5s,A5k,true_and,A3f,A5i,A17]
  by_cases hi:i<ys.length
  ·rw [if_pos hi,A1e hi]
   rw [A5n ys.toArray i (by simpa using hi)]
   simp
  ·rw [if_neg hi,A09 (by rw [← h];omega),A09 (by omega)]
   simp [h]
section
variable {α:Type} [Cel α] [Inhabited α]
theorem An5 {xs:List α} {i c:Nat} {x:α} (hi:xs[i]? =some x) (hc:c<Cel.sz α):(cells xs)[i*Cel.sz α+c]? =(Cel.cs x)[c]? :=by
 induction xs generalizing i with
 | nil=>simp at hi
 | cons y ys ih =>
  show (Cel.cs y++cells ys)[_]? =_
  cases i with
  | zero =>
   obtain rfl:y=x:=by simpa using hi
   rw [Nat.zero_mul,A5k,A07 (by rw [Cel.len];exact hc)]
  | succ i =>
   rw [A01 (by rw [Cel.len,A5j];omega),Cel.len,show (i+1)*Cel.sz α+c - Cel.sz α=i*Cel.sz α+c by rw [A5j];omega]
   exact ih (by simpa using hi)
theorem Ux (h0:0<Cel.sz α) (xs:List α):Sort.flatK Cel.cs (Cel.sz α) xs.toArray=(cells xs).toArray:=by
 refine Sort.ext_get! (by rw [Sort.size_flatK,A3f,A3f,Hf]) fun t ht=> ?_
 have ht':t<xs.toArray.size*Cel.sz α:=by simpa using ht
 rw [Sort.get_flatK _ _ _ t ht']
 have hq:t / Cel.sz α<xs.length:=by
  rw [Nat.div_lt_iff_lt_mul h0];simpa using ht'
 have hm:t % Cel.sz α<Cel.sz α:=A5v _ h0
 have e:t=(t / Cel.sz α)*Cel.sz α+t % Cel.sz α:=by
  have:=Nat.div_add_mod t (Cel.sz α)
  rw [Nat.mul_comm] at this;omega
 have hg:xs[t / Cel.sz α]? =some xs[t / Cel.sz α]:=A1d hq
 have h1:=An5 hg hm
 rw [← e] at h1
 rw [A5n xs.toArray _ (by simpa using hq)]
 have hl:t % Cel.sz α<(Cel.cs xs[t / Cel.sz α]).length:=by rw [Cel.len];exact hm
 have hl2:t<(cells xs).length:=by rw [Hf];simpa using ht'
 rw [A1d hl,A1d hl2] at h1
 rw [A5n (cells xs).toArray t (by simpa using hl2)]
 simp only [A17]
 rw [A5n (Cel.cs xs[t / Cel.sz α]) _ hl]
 exact (A4o h1).symm
theorem Afp {w:World} {b:Nat} {xs:List α} {sp:List Value} {T:TypeId} (h0:0<Cel.sz α) (hb:w.heap[b]? =some (C (cells xs++sp) T)):Sort.HoldsK Cel.cs (Cel.sz α) w b 0 xs.toArray:=by
 intro j hj
 rw [Ux h0] at hj ⊢
 have hj':j<(cells xs).length:=by simpa using hj
 refine ⟨?_,Ht hb _ _⟩
 rw [A5k,Jx hb,Dp,A07 hj',A1d hj',A5n (cells xs).toArray j hj]
 rfl
theorem Akc {w:World} {b n:Nat} {xs ys:List α} {sp:List Value} {T:TypeId} {os:Array Obj} (h0:0<Cel.sz α) (h:HpOk [(b,true,C (cells xs++sp) T)] w) (hl:ys.length=xs.length) :
  Trk w (Sort.grow (Sort.putRowK Cel.cs (Cel.sz α) (Sort.ahead w n) b 0 ys.toArray) os) [(b,true,C (cells xs++sp) T)] [(b,true,C (cells ys++sp) T)]:=by
 have t1:=C8 h (w.drawn+n)
 have hb:=t1.ok.here _ (A2y)
 have t2:=Ph (b:=b) (o:=C (cells xs++sp) T) (o':=C (cells ys++sp) T) t1.ok .here (fun i s=>by
  have hlt:=t1.ok.lt (x:=(b,true,C (cells xs++sp) T)) A2y
  rw [Ht hb]
  exact Ht (cs:=cells ys++sp) (T:=T) (by simp only at hlt;simp [Cb,hlt]) _ _)
 have e:Sort.putRowK Cel.cs (Cel.sz α) (Sort.ahead w n) b 0 ys.toArray=Cb { w with drawn:=w.drawn+n } b (C (cells ys++sp) T):=by
  unfold Sort.putRowK Sort.putRow Sort.mapBlock Cb Sort.ahead
  rw [Ux h0]
  congr 1
  apply A2n
  intro k
  rw [A1r,A0t]
  by_cases hk:b=k
  ·subst hk
   have hlt:=t1.ok.lt (x:=(b,true,C (cells xs++sp) T)) A2y
   simp only at hb hlt
   rw [if_pos rfl,if_pos rfl,hb,if_pos hlt]
   show some (Sort.onCells _ (.cells _ _ _))=_
   simp only [Sort.onCells]
   rw [Acz (by rw [Hf,Hf,hl])]
   rfl
  ·rw [if_neg hk,if_neg hk]
 have t3:=Acs t2.ok os
 unfold Sort.grow
 rw [e]
 exact (t1.trans t2).trans t3
end
end
section
open Go.ChangeShapes Go.WideShapes Go.ChangeAt Go.RowKit
def Cf:Kd→Value→Prop
 | some k,v=>∃ n,v= .int k n∧(Lit.int k n).wf=true
 | none,v=>∃ b,v= .bool b
def Conf:List Kd→List Value→Prop
 | [],[]=>True
 | k::ks,c::cs=>Cf k c∧Conf ks cs
 | _,_=>False
theorem Conf.len:∀ {ks:List Kd} {cs:List Value},Conf ks cs→cs.length=ks.length
 | [],[],_=>rfl
 | [],_::_,h=>h.elim
 | _::_,[],h=>h.elim
 | k::ks,c::cs,h=>by simp [Conf.len h.2]
section
variable {H:Type} {enc:TypeId×Value→H} {P:Program} {w:World} {base:Nat} {spare:Nat→Bool} {held:Bool}
theorem cells_get {a:Addr} {n:Nat} {cs:List Value} (h:w.cells? base a n=some cs):∀ i<n,∃ v,w.cell? (a.add i)=some v∧cs[i]? =some v:=by
 unfold World.cells? at h
 split at h
 ·intro i hi
  have:=mapM_get (fun i=>w.cell? (a.add i)) (List.range n) cs h i (by simpa using hi)
  simpa using this
 ·cases h
where
 mapM_get {α β:Type} (f:α→Option β):∀ (l:List α) (r:List β),l.mapM f=some r→∀ i (h:i<l.length),∃ y,f l[i]=some y∧r[i]? =some y
  | [],r,h,i,hi=>by simp at hi
  | a::l,r,h,i,hi=>by
   rw [A4u] at h
   cases ha:f a with
   | none=>simp [ha] at h
   | some b =>
    cases hl:l.mapM f with
    | none=>simp [ha,hl] at h
    | some r' =>
     simp [ha,hl] at h
     subst h
     cases i with
     | zero=>exact ⟨b,ha,rfl⟩
     | succ i=>simpa using mapM_get f l r' hl i (by simpa using hi)
theorem Nx (hl:laidOutB P=true) {W W':World} (hb:Below W.heap.size W W') {sp:Nat→Bool}:∀ (ts:List TypeId) (vs:List Value) (ds:List (DataW H)) (ps:List MemPlace),(ts.all fun t=>P.readableRec t && decide (t<P.types.size))=true →
  DataW.TrodAll enc P W 0 (fun _=>true) true ts vs ds ps→(∀ p∈ps,p.block<W.heap.size)→(∀ p∈ps,sp p.block=true)→DataW.TrodAll enc P W' 0 sp true ts vs ds ps
 | [],vs,ds,ps,_,h,_,_=>by
  obtain ⟨rfl,rfl,rfl⟩:=trodAll_nil h
  exact trodAll_mk0
 | t::ts,vs,ds,ps,hr,h,h1,h2=>by
  obtain ⟨v,vs',d,ds',p,q,rfl,rfl,rfl,h3,h4⟩:=trodAll_cons h
  simp only [A44,A3n,A3j] at hr
  refine trodAll_cons_mk ?_ (Nx hl hb ts vs' ds' q hr.2 h4 (fun x hx=>h1 x (A10 _ hx)) (fun x hx=>h2 x (A10 _ hx)))
  exact WideElems.Trod_stays hl hr.1.1 hr.1.2 h3 (fun x hx=>hb.same (h1 x (A18 _ hx))) (fun x hx=>h2 x (A18 _ hx))
theorem Aph {W W':World} {L L':Hp} (ht:Trk W W' L L') (hro:∀ x∈L,x.2.1=false):Below W.heap.size W W' :=
 ⟨ht.os,ht.tape,ht.out,ht.size,fun k hk=>ht.same k hk (fun ⟨x,hx,_,hr⟩=>by rw [hro x hx] at hr;cases hr)⟩
theorem Adq {f:Func} {s:ChangeSpec} {H:Type} {enc:TypeId×Value→H} {P:Program} {apart fresh handsOn again:Bool} {W W':World} {args:Array Value} {v:Value} {ds gs:List (DataW H)} {before pa pv:List MemPlace}
  (hW:DataW.Whole enc P f.params.toList s.vars apart W args.toList ds gs before)
  (hres:∀ (b:Nat) (sp:Nat→Bool) (hd:Bool),DataW.TrodAll enc P W' b sp hd f.resultTypes.toList (v.resultList f.resultTypes.size) (s.fn H (ds++gs)).results [])
  (hargs:∀ sp:Nat→Bool,(∀ p∈before,sp p.block=true)→DataW.TrodAll enc P W' 0 sp true f.params.toList args.toList (s.fn H (ds++gs)).args pa)
  (hvars:∀ sp:Nat→Bool,(∀ p∈before,sp p.block=true)→DataW.TrodVars enc P W' sp s.vars (s.fn H (ds++gs)).vars pv)
  (hps:before=pa++pv) (hk:W.keptBut W' (·∈before)) (hfz:∀ a,a.block<W.heap.size→W'.frozen? a=W.frozen? a)
  (hok:∀ (j:Nat) (t:TypeId) (r:Value),f.resultTypes[j]? =some t→(v.resultList f.resultTypes.size)[j]? =some r→Value.okWide P W' .any 0 t r) :
  s.post enc P f apart fresh handsOn again W args v W':=by
 have hlt:∀ p∈before,p.block<W.heap.size:=fun p hp=>hW.lt p hp
 have hold:∀ p∈before,(fun b=>decide (b<W.heap.size)) p.block=true:=fun p hp=>by simpa using hlt p hp
 refine ⟨ds,gs,before,[],pa,pv,hW,hres _ _ _,hargs _ hold,hvars _ hold,World.keptBut_mono (fun p hp=>⟨hp,?_⟩) hk,fun _=> ?_⟩
 ·rw [hps,A4f] at hp
  exact Or.inr hp
 ·obtain ⟨_,_,_,_,_,hz,hn⟩:=hW
  refine ⟨hok,_,_,([]++pa)++pv,⟨[]++pa,pv,trodAll_append (hargs _ (fun _ _=>rfl)) (hres _ _ _),hvars _ (fun _ _=>rfl),rfl,?_,?_⟩,?_⟩
  ·intro b off hp
   have hb:MemPlace.cell b off∈before:=by rw [hps];simpa using hp
   rw [hfz _ (hlt _ hb)]
   exact hz b off hb
  ·intro ha
   have:=hn ha
   rw [hps] at this
   simpa using this
  ·intro p hp _
   rw [hps]
   simpa using hp
theorem Adr {f:Func} {s:ChangeSpec} {apart:Bool} {W W':World} {args:Array Value} {ds gs:List (DataW H)} {before:List MemPlace} {bt:TypeId} {L L':Hp}
  (hl:laidOutB P=true) (hW:DataW.Whole enc P f.params.toList s.vars apart W args.toList ds gs before) (hvars:s.vars=[]) (hread:(f.params.toList.all fun t=>P.readableRec t && decide (t<P.types.size))=true)
  (hbt:P.underlying bt=some .bool) (hres:f.resultTypes=#[bt]) (ht:Trk W W' L L') (hro:∀ x∈L,x.2.1=false)
  (hspec:s.fn H (ds++gs)={ results:=[.lit (.bool true)],args:=ds }):s.post enc P f apart true false false W args (.bool true) W':=by
 have hb:=Aph ht hro
 have hW':=hW
 obtain ⟨p,q,hA,hV,rfl,hfz,hnd⟩:=hW
 rw [hvars] at hV
 have hq:gs=[]∧q=[]:=by
  cases gs with
  | nil=>exact ⟨rfl,hV⟩
  | cons g gs=>exact hV.elim
 obtain ⟨rfl,rfl⟩:=hq
 have hlt:∀ x∈p,x.block<W.heap.size:=fun x hx=>hW'.lt x (A18 _ hx)
 refine Adq (pa:=p) (pv:=[]) hW' (fun b sp hd=> ?_) (fun sp hsp=> ?_) (fun sp hsp=> ?_) rfl (hb.frame _) ht.fz (ok_one hres rfl (okWide_bool_mk hbt _))
 ·rw [hspec,hres]
  exact trodAll_cons_mk (shut_bool hbt _) trodAll_mk0
 ·rw [hspec]
  exact Nx hl hb _ _ _ _ hread hA hlt (fun x hx=>hsp x (A18 _ hx))
 ·rw [hspec,hvars]
  rfl
end
end
section
open Go.ChangeShapes Go.WideShapes Go.ChangeAt Go.RowKit
section
variable {H:Type} {enc:TypeId×Value→H} {P:Program} {w:World} {base:Nat} {spare:Nat→Bool} {held:Bool}
theorem row_byte {row:List Value} (h:Conf [some .u8] row):∃ x:By,row=Cel.cs x:=by
 obtain ⟨v,rfl⟩:=List.length_eq_one_iff.1 h.len
 obtain ⟨n,rfl,hw⟩:=h.1
 have hn:0≤n∧n<256:=by simp [Lit.wf,IntKind.min,IntKind.max,IntKind.bits,IntKind.signed] at hw;omega
 have e:(((BitVec.ofInt 8 n).toNat:Nat):Int)=n:=by
  rw [A2o]
  omega
 refine ⟨BitVec.ofInt 8 n,?_⟩
 show [Value.int .u8 n]=[Value.int .u8 ((BitVec.ofInt 8 n).toNat:Int)]
 rw [e]
theorem Aij {f:FuncId} {args:List Value} {L L':Hp} {W:World} (hL:HpOk L W) (hro:∀ x∈L,x.2.1=false) (h:Does P f args L (fun v H=>v= .bool true)) :
  Calls P f args.toArray W fun e W'=>e= .returned (.bool true)∧∃ L L',Trk W W' L L'∧∀ x∈L,x.2.1=false :=
 (h W hL).mono fun e W' ⟨v,L',he,hv,ht⟩=>⟨by rw [he,hv],L,L',ht,hro⟩
end
end
section
open Go.ChangeShapes Go.WideShapes Go.ChangeAt Go.RowKit
def RoOk (w:World) (L:Hp):Prop:=HpOk L w∧∀ x∈L,x.2.1=false
theorem RoOk.nil {w:World}:RoOk w []:=⟨⟨List.Pairwise.nil,fun x hx=>by cases hx⟩,fun x hx=>by cases hx⟩
theorem RoOk.app {w:World} {L M:Hp} (h1:RoOk w L) (h2:RoOk w M):RoOk w (L++M):=by
 refine ⟨⟨A2b.2 ⟨h1.1.far,h2.1.far,fun x hx y hy _=>⟨h1.2 x hx,h2.2 y hy⟩⟩,fun x hx=> ?_⟩,fun x hx=> ?_⟩
 ·rcases A4f.1 hx with h | h
  ·exact h1.1.here x h
  ·exact h2.1.here x h
 ·rcases A4f.1 hx with h | h
  ·exact h1.2 x h
  ·exact h2.2 x h
theorem RoOk.flat {w:World} {α:Type} {M:α→Hp}:∀ {l:List α},(∀ x∈l,RoOk w (M x))→RoOk w (l.flatMap M)
 | [],_=> .nil
 | x::l,h=>by
  rw [A27]
  exact (h x (.head _)).app (RoOk.flat fun y hy=>h y (.tail _ hy))
section
variable {H:Type} {enc:TypeId×Value→H} {P:Program} {w:World} {base:Nat} {spare:Nat→Bool} {held:Bool}
theorem Agi {n len:Nat} {a:Addr} (hn:0<n) (hl:0<len) {row:Nat→List Value} (hrow:∀ i<len,(row i).length=n∧w.cells? base (a.add (i*n)) n=some (row i)) :
  ∃ b o cs T fr,a=⟨b,o,none⟩∧HpOk [(b,false,CF cs T fr)] w∧∀ i<len,cut cs (o+i*n) n=some (row i):=by
 obtain ⟨v0,hv0,_⟩:=cells_get (hrow 0 hl).2 0 hn
 obtain ⟨b,o,sp⟩:=a
 have hsp:sp=none:=by
  simp only [Nat.zero_mul,Addr.add,if_true] at hv0
  cases sp with
  | none=>rfl
  | some s=>simp [World.cell?] at hv0;split at hv0 <;> cases hv0
 subst hsp
 rw [Ct,Ct] at hv0
 have hblk:∃ cs T fr,w.heap[b]? =some (CF cs T fr):=by
  simp only [World.cell?] at hv0
  split at hv0
  ·rename_i c T fr hh;exact ⟨c.toList,T,fr,by rw [hh];simp [CF]⟩
  ·cases hv0
 obtain ⟨cs,T,fr,hh⟩:=hblk
 refine ⟨b,o,cs,T,fr,rfl,⟨by simp,fun x hx=>by simp at hx;subst hx;exact hh⟩,fun i hi=> ?_⟩
 obtain ⟨hlen,hc⟩:=hrow i hi
 have hget:∀ j<n,cs[o+i*n+j]? =(row i)[j]? :=by
  intro j hj'
  obtain ⟨v,h1,h2⟩:=cells_get hc j hj'
  rw [Ct,Ct,Jx hh,Dp] at h1
  rw [h1,h2]
 refine Afi ?_ ?_
 ·apply A26
  intro j
  by_cases hj':j<n
  ·rw [A2w,if_pos hj',A2v,hget j hj']
  ·rw [A1v (by omega),A1v (by simp;omega)]
 ·have hlast:=hget (n - 1) (by omega)
  have hsome:∃ v,(row i)[n - 1]? =some v:=⟨(row i)[n - 1]'(by omega),A1d (by omega)⟩
  obtain ⟨v,hv⟩:=hsome
  rw [hv] at hlast
  have:=(A08.1 hlast).1
  omega
theorem Aah {α:Type} [Cel α] {t e:TypeId} {fuel:Nat} {cs:List Value} {x:DataW H×List MemPlace} (ht:P.underlying t=some (.slice e)) (hn:P.cellsOf e=Cel.sz α) (h0:0<Cel.sz α) (M:α→Hp)
  (hrow:∀ m row y,DataW.trod enc P w base spare held m e row=some y→∃ x:α,row=Cel.cs x∧RoOk w (M x)) (T:TypeId)
  (h:DataW.trod enc P w base spare held fuel t cs=some x):∃ s:Sl α,cs=[s.val]∧RoOk w (s.hp T)∧RoOk w (s.list.flatMap M):=by
 rcases DataW.trod_slice ht h with ⟨rfl,_⟩ | ⟨a,len,cap,elems,rest,n,_,rfl,_,_,hlc,hcap,hel,hi,_⟩
 ·exact ⟨.nil,rfl,by rw [Sl.hp_nil];exact .nil,.nil⟩
 ·rw [hn] at hi
  have hall:∀ i<len,∃ x:α,w.cells? base (a.add (i*Cel.sz α)) (Cel.sz α)=some (Cel.cs x)∧RoOk w (M x):=fun i hil=>by
   have h1:=hi i hil
   rw [A1d (by omega)] at h1
   obtain ⟨row,h2,h3⟩:=Option.bind_eq_some_iff.1 h1
   obtain ⟨x,rfl,h4⟩:=hrow _ _ _ h3
   exact ⟨x,h2,h4⟩
  by_cases hl0:len=0
  ·subst hl0
   exact ⟨.vac a cap,rfl,by rw [Sl.hp_vac];exact .nil,.nil⟩
  ·have hch:∃ f:Nat→α,∀ i<len,w.cells? base (a.add (i*Cel.sz α)) (Cel.sz α)=some (Cel.cs (f i))∧RoOk w (M (f i)) :=
    ⟨fun i=>if hil:i<len then (hall i hil).choose else (hall 0 (by omega)).choose,fun i hil=>by simp only [A55 hil];exact (hall i hil).choose_spec⟩
   obtain ⟨f,hf⟩:=hch
   obtain ⟨b,o,cs,U,fr,rfl,hok,hcut⟩:=Agi (row:=fun i=>Cel.cs (f i)) h0 (by omega) fun i hil=>⟨Cel.len (f i),(hf i hil).1⟩
   have hm:maxLen=9223372036854775807:=rfl
   refine ⟨.view b o false cs U fr ((List.range len).map f) cap ⟨fun i y hy=> ?_,by simp;omega,by simp;omega⟩,?_,?_,?_⟩
   ·rw [A29] at hy
    obtain ⟨j,hj,rfl⟩:=Option.map_eq_some_iff.1 hy
    obtain ⟨h1,h2⟩:=A08.1 hj
    rw [List.getElem_range] at h2
    subst h2
    exact hcut i (by simpa using h1)
   ·simp [Sl.val,Sl.ptr,Sl.list,Sl.cap]
   ·rw [Sl.hp_view];exact ⟨hok,fun x hx=>by simp at hx;subst hx;rfl⟩
   ·refine RoOk.flat fun y hy=> ?_
    obtain ⟨i,hi1,rfl⟩:=A5b.1 (show y∈(List.range len).map f from hy)
    exact (hf i (A4v.1 hi1)).2
theorem Ads {α:Type} [Cel α] {t e:TypeId} {v:Value} {d:DataW H} {ps:List MemPlace} {b1:Nat} (ht:P.underlying t=some (.slice e)) (hn:P.cellsOf e=Cel.sz α) (h0:0<Cel.sz α) (M:α→Hp)
  (hrow:∀ m row y,DataW.trod enc P w b1 spare held m e row=some y→∃ x:α,row=Cel.cs x∧RoOk w (M x)) (T:TypeId)
  (ho:Value.okWide P w .any base t v) (h:DataW.Trod enc P w b1 spare held t v d ps):∃ s:Sl α,v=s.val∧RoOk w (s.hp T)∧RoOk w (s.list.flatMap M):=by
 obtain ⟨p,len,c,rfl⟩:=okWide_slice ht ho
 obtain ⟨fuel,hx⟩:=h
 obtain ⟨s,e,r⟩:=Aah ht hn h0 M hrow T hx
 have e':[Value.slice p len c]=[s.val]:=e
 exact ⟨s,by simpa using e',r⟩
theorem Vm {n:Int} (hw:(Lit.int .u64 n).wf=true):∃ x:BitVec 64,Value.int .u64 n= .int .u64 (x.toNat:Int):=by
 have hn:0≤n∧n<18446744073709551616:=by simp [Lit.wf,IntKind.min,IntKind.max,IntKind.bits,IntKind.signed] at hw;omega
 refine ⟨BitVec.ofInt 64 n,?_⟩
 have e:(((BitVec.ofInt 64 n).toNat:Nat):Int)=n:=by
  rw [A2o]
  omega
 rw [e]
theorem Ak4 {fuel:Nat} {t:TypeId} {cs:List Value} {x:DataW H×List MemPlace} (ht:P.underlying t=some (.int .u8)) (h:DataW.trod enc P w base spare held fuel t cs=some x):∃ y:By,cs=Cel.cs y:=by
 obtain ⟨n,rfl,_,hw⟩:=A4r ht h
 exact row_byte ⟨⟨n,rfl,hw⟩,trivial⟩
end
end
end Go.K
namespace Go.Proofs.YtpmojdippdlcaaaGreatDoor
section
open Go.K
abbrev w64 (x:Int):Int:=IntKind.i64.wrap x
theorem Qu {p:By→Prop} [DecidablePred p] (h:∀ i<256,p (BitVec.ofNat 8 i)):∀ x,p x:=fun x=>by
 have:=h x.toNat x.isLt
 simpa using this
def Hd (x:By):Nat:=(List.range 8).countP fun i=>x.getLsbD i
def Qv (x:By):Nat:=((List.range 8).find? fun i=>x.getLsbD i).getD 8
def Ai9 (x:By):Nat:=8 - ((List.range 8).find? fun i=>x.getLsbD (7 - i)).getD 8
def A0a:ByteArray:=⟨#[0,1,1,2,1,2,2,3,1,2,2,3,2,3,3,4,1,2,2,3,2,3,3,4,2,3,3,4,3,4,4,5,1,2,2,3,2,3,3,4,2,3,3,4,3,4,4,5,2,3,3,4,3,4,4,5,3,4,4,5,4,5,5,6,1,2,2,3,2,3,3,4,2,3,3,4,3,4,4,5,2,3,3,4,3,4,4,5,3,4,4,5,4,5,5,6,2,3,3,4,3,4,4,5,3,4,4,5,4,5,5,6,3,4,4,5,4,5,5,6,4,5,5,6,5,6,6,7,1,2,2,3,2,3,3,4,2,3,3,4,3,4,4,5,2,3,3,4,3,4,4,5,3,4,4,5,4,5,5,6,2,3,3,4,3,4,4,5,3,4,4,5,4,5,5,6,3,4,4,5,4,5,5,6,4,5,5,6,5,6,6,7,2,3,3,4,3,4,4,5,3,4,4,5,4,5,5,6,3,4,4,5,4,5,5,6,4,5,5,6,5,6,6,7,3,4,4,5,4,5,5,6,4,5,5,6,5,6,6,7,4,5,5,6,5,6,6,7,5,6,6,7,6,7,7,8]⟩
def A0b:ByteArray:=⟨#[8,0,1,0,2,0,1,0,3,0,1,0,2,0,1,0,4,0,1,0,2,0,1,0,3,0,1,0,2,0,1,0,5,0,1,0,2,0,1,0,3,0,1,0,2,0,1,0,4,0,1,0,2,0,1,0,3,0,1,0,2,0,1,0,6,0,1,0,2,0,1,0,3,0,1,0,2,0,1,0,4,0,1,0,2,0,1,0,3,0,1,0,2,0,1,0,5,0,1,0,2,0,1,0,3,0,1,0,2,0,1,0,4,0,1,0,2,0,1,0,3,0,1,0,2,0,1,0,7,0,1,0,2,0,1,0,3,0,1,0,2,0,1,0,4,0,1,0,2,0,1,0,3,0,1,0,2,0,1,0,5,0,1,0,2,0,1,0,3,0,1,0,2,0,1,0,4,0,1,0,2,0,1,0,3,0,1,0,2,0,1,0,6,0,1,0,2,0,1,0,3,0,1,0,2,0,1,0,4,0,1,0,2,0,1,0,3,0,1,0,2,0,1,0,5,0,1,0,2,0,1,0,3,0,1,0,2,0,1,0,4,0,1,0,2,0,1,0,3,0,1,0,2,0,1,0]⟩
def A0c:ByteArray:=⟨#[0,1,2,2,3,3,3,3,4,4,4,4,4,4,4,4,5,5,5,5,5,5,5,5,5,5,5,5,5,5,5,5,6,6,6,6,6,6,6,6,6,6,6,6,6,6,6,6,6,6,6,6,6,6,6,6,6,6,6,6,6,6,6,6,7,7,7,7,7,7,7,7,7,7,7,7,7,7,7,7,7,7,7,7,7,7,7,7,7,7,7,7,7,7,7,7,7,7,7,7,7,7,7,7,7,7,7,7,7,7,7,7,7,7,7,7,7,7,7,7,7,7,7,7,7,7,7,7,8,8,8,8,8,8,8,8,8,8,8,8,8,8,8,8,8,8,8,8,8,8,8,8,8,8,8,8,8,8,8,8,8,8,8,8,8,8,8,8,8,8,8,8,8,8,8,8,8,8,8,8,8,8,8,8,8,8,8,8,8,8,8,8,8,8,8,8,8,8,8,8,8,8,8,8,8,8,8,8,8,8,8,8,8,8,8,8,8,8,8,8,8,8,8,8,8,8,8,8,8,8,8,8,8,8,8,8,8,8,8,8,8,8,8,8,8,8,8,8,8,8,8,8,8,8,8,8]⟩
theorem Y1:∀ x:By,A0a[((x.toNat:Int)).toNat]? =some (UInt8.ofNat (Hd x)):=Qu (by decide +kernel)
theorem Arz:∀ x:By,A0b[((x.toNat:Int)).toNat]? =some (UInt8.ofNat (Qv x)):=Qu (by decide +kernel)
theorem Ag7:∀ x:By,A0c[((x.toNat:Int)).toNat]? =some (UInt8.ofNat (Ai9 x)):=Qu (by decide +kernel)
theorem Ar0:∀ x:By,IntKind.i64.wrap ((UInt8.ofNat (Hd x)).toNat:Int)=Hd x:=Qu (by decide +kernel)
theorem Ar1:∀ x:By,IntKind.i64.wrap ((UInt8.ofNat (Qv x)).toNat:Int)=Qv x:=Qu (by decide +kernel)
theorem Ag8:∀ x:By,IntKind.i64.wrap ((UInt8.ofNat (Ai9 x)).toNat:Int)=Ai9 x:=Qu (by decide +kernel)
theorem Ag9 (x:By):IntKind.u8.wrap (x.toNat:Int)=x.toNat:=by
 have:=x.isLt
 simp [IntKind.wrap,IntKind.signed,IntKind.bits];omega
theorem Oy (x:By):BitVec.ofInt 8 (x.toNat:Int)=x:=by simp
theorem Al7 (x y:By):Et .and .u8 x.toNat y.toNat=((x &&& y).toNat:Int):=by
 show IntKind.u8.wrap (((BitVec.ofInt 8 (x.toNat:Int)) &&& (BitVec.ofInt 8 (y.toNat:Int))).toNat:Int)=_
 rw [Oy,Oy,Ag9]
theorem Awg (x y:By):Et .xor .u8 x.toNat y.toNat=((x ^^^ y).toNat:Int):=by
 show IntKind.u8.wrap (((BitVec.ofInt 8 (x.toNat:Int)) ^^^ (BitVec.ofInt 8 (y.toNat:Int))).toNat:Int)=_
 rw [Oy,Oy,Ag9]
def at0 (xs:List Int) (i:Int):Int:=xs.getD i.toNat 0
def idx (xs:List Int) (v:Int):Int:=match xs.findIdx? (· == v) with | some k=>k | none=> -1
theorem Awh {xs:List Int} {v:Int} (i:Int) (h0:0≤i) (h1:i<xs.length) (hn:∀ k:Int,0≤k→k<i→at0 xs k≠v) (he:at0 xs i=v):idx xs v=i:=by
 have:xs.findIdx? (· == v)=some i.toNat:=by
  rw [A0o]
  refine ⟨by omega,?_,?_⟩
  ·simpa [at0,A00,show i.toNat<xs.length by omega] using he
  ·intro j hj
   have:=hn j (by omega) (by omega)
   simpa [at0,A00,show j<xs.length by omega] using this
 simp [idx,this];omega
theorem Al8 {xs:List Int} {v:Int} (hn:∀ k:Int,0≤k→k<xs.length→at0 xs k≠v):idx xs v= -1:=by
 have:xs.findIdx? (· == v)=none:=by
  rw [A06]
  intro x hx
  obtain ⟨k,hk,rfl⟩:=List.getElem_of_mem hx
  have:=hn k (by omega) (by omega)
  simpa [at0,A00,hk] using this
 simp [idx,this]
theorem Abp {p:Int→Prop} {i:Int} (h:∀ k:Int,0≤k→k<i→p k) (hi:p i):∀ k:Int,0≤k→k<i+1→p k:=by
 intro k h0 h1
 by_cases hk:k<i
 ·exact h k h0 hk
 ·have:k=i:=by omega
  rw [this];exact hi
def E4 (xs:List Int) (v:Int):Bool:=decide (0≤idx xs v)
theorem Ih {xs:List Int} {i:Int} (h0:0≤i) (h1:i<xs.length):xs[i.toNat]? =some (at0 xs i):=by
 have:i.toNat<xs.length:=by omega
 simp [at0,A00,this]
end
section
open Go.K
def vbc {n:Nat} (p:Vector By n):List Value:=p.toList.map bv
section
variable {n:Nat} {p:Vector By n}
theorem Ai:(vbc p).length=n:=by simp [vbc]
theorem Ax:cut (vbc p) 0 n=some (vbc p):=by have:=Nf (vbc p);rwa [Ai] at this
theorem Cg:Jw (.agg (vbc p).toArray)=some (vbc p):=by
 have:(vbc p).all (·.oneCell')=true:=A3o.2 fun x hx=>by
  obtain ⟨y,_,rfl⟩:=A5b.1 hx;rfl
 simp [Jw,this]
theorem Bo {cs:List Value} (h:cs.length=n):Ba cs 0 (vbc p)=some (vbc p):=La (by rw [Ai,h])
theorem Fv {i:Nat} (h:i<n):nth (vbc p) i=some (bv p[i]):=by
 unfold vbc
 rw [Zm]
 simp [h]
theorem Af1 {n:Nat} (p:Vector By n) (i:Nat) (y:By) (h:i<n):(p.set i y).toList=p.toList.set i y:=by
 apply A3r
 ·simp
 ·intro j h1 h2
  simp [A21,A3u]
theorem Il {i:Nat} (h:i<n) (y:By):Ba (vbc p) i [bv y]=some (vbc (p.set i y)):=by
 have:=Oa (g:=bv) (l:=p.toList) (y:=y) (i:=i) (by simpa using h)
 have e:(p.set i y).toList=p.toList.set i y:=Af1 p i y h
 rw [vbc,this,vbc,e]
end
abbrev Pg:=Vector By 258
def Ar:Pg:=Vector.replicate 258 255#8
def Lx (i:Nat):Pg:=Vector.ofFn fun j=>if j.val<i then 255#8 else 0#8
theorem Ath:List.replicate 258 (Value.int .u8 0)=vbc (Lx 0):=by kernel_rfl
theorem Akn:Lx 258=Ar:=by
 apply A5w
 intro i hi
 simp [Lx,Ar,hi]
theorem Af2 {i:Nat} (h:i<258):Ba (vbc (Lx i)) i [.int .u8 255]=some (vbc (Lx (i+1))):=by
 have h1:=Il (p:=Lx i) h 255#8
 have h2:(Lx i).set i 255#8=Lx (i+1):=by
  apply A5w
  intro j hj
  rw [A21]
  by_cases hij:i=j
  ·subst hij;simp [Lx]
  ·have:(j<i)↔(j<i+1):=by omega
   simp [hij,Lx,this]
 rw [h2] at h1
 exact h1
structure Blk where
 pages:Vector Pg 8
 next:Int
 bad:Bool
def S5 (v:Vector Pg 8):List Value:=v.toList.flatMap vbc
def Rj (b:Blk):List Value:=S5 b.pages++[.int .i64 b.next,.bool b.bad]
def Eb (l:List Blk):List Value:=l.flatMap Rj
theorem Kl (v:Vector Pg 8):(S5 v).length=2064:=by
 have:=Nb (f:=vbc) (n:=258) v.toList (fun x _=>Ai)
 rw [S5,this];simp
theorem Hy (b:Blk):(Rj b).length=2066:=by simp [Rj,Kl]
structure Chip where
 off:Bool
 after:Int
 keep:Int
 blocks:List Blk
 dead:Bool
 out:Bool
 pc:Int
 wc:Int
 count:Int
 aP:Nat
 aC:Nat
 aB:Nat
 pf:Sl Int
 wf:Sl Int
abbrev pwc (c:Chip):List Value:=[.bool c.off,.int .i64 c.after,.int .i64 c.keep]
abbrev chc (c:Chip):List Value :=
 [.pointer (some ⟨c.aP,0,none⟩),.slice (some ⟨c.aB,0,none⟩) c.blocks.length c.blocks.length,.bool c.dead,.bool c.out,c.pf.val,.int .i64 c.pc,c.wf.val,.int .i64 c.wc,.int .i64 c.count]
def Ex (c:Chip) (i:Int):Bool:=decide (0≤i) && decide (i<c.blocks.length)
def B9 (c:Chip) (i j:Int):Int:=if c.off=true then 30 else if (!(!c.dead && !c.out))=true then 31 else if ((!Ex c i || decide (j<0)) || decide (8≤j))=true then 1 else 0
def Km:Pg:=Vector.replicate 258 0#8
theorem Cj:List.replicate 258 (Value.int .u8 0)=vbc Km:=by kernel_rfl
def Rk (c:Chip) (i j:Int):Pg:=match c.blocks[i.toNat]? with | some b=>b.pages.toList.getD j.toNat Km | none=>Km
def Bp (c:Chip) (i j:Int):Pg:=if B9 c i j=0 then Rk c i j else Km
theorem Zz {c:Chip} {i j:Int} (h:B9 c i j=0):0≤i∧i<c.blocks.length∧0≤j∧j<8∧c.off=false∧c.dead=false∧c.out=false:=by
 unfold B9 Ex at h
 split at h
 ·omega
 ·split at h
  ·omega
  ·split at h
   ·omega
   ·rename_i h1 h2 h3
    simp at h1 h2 h3
    refine ⟨by omega,by omega,by omega,by omega,h1,?_,?_⟩ <;> simp [h2]
theorem Aom {c:Chip} {i j:Int} (h0:0≤i) (h1:i<c.blocks.length) (h2:0≤j) (h3:j<8):cut (Eb c.blocks) (i.toNat*2066+j.toNat*258) 258=some (vbc (Rk c i j)):=by
 have hi:i.toNat<c.blocks.length:=by omega
 have hb:c.blocks[i.toNat]? =some c.blocks[i.toNat]:=A1d hi
 have hj:j.toNat<c.blocks[i.toNat].pages.toList.length:=by simp;omega
 have hp:c.blocks[i.toNat].pages.toList[j.toNat]? =some (Rk c i j):=by
  unfold Rk
  rw [hb]
  simp only [A00,A1d hj,A32]
 refine Pa (fun b _=>Hy b) hb ?_
 refine Uh ?_ _
 have:=Pa (f:=vbc) (n:=258) (o:=0) (m:=258) (fun x _=>Ai) hp Ax
 rw [A5e] at this;exact this
def Fp (c:Chip):Chip:={ c with off:=if c.after<0 then c.off else decide (c.after=0),after:=if c.after<0 then c.after else w64 (c.after - 1) }
theorem Ah4 {c:Chip} (h:c.after<0):pwc (Fp c)=pwc c:=by simp [pwc,Fp,h]
theorem Ah5 {c:Chip} (h:0≤c.after):pwc (Fp c)=[.bool (decide (c.after=0)),.int .i64 (w64 (c.after - 1)),.int .i64 c.keep]:=by
 have:¬ c.after<0:=by omega
 simp [pwc,Fp,this]
def El (c:Chip):Bool:=if c.after<0 then false else decide (c.after=0)
def Ck (m:Nat) (p d:Pg):Pg:=Vector.ofFn fun j=>if j.val<m then p[j] &&& d[j] else p[j]
theorem Axn (p d:Pg):Ck 0 p d=p:=by
 apply A5w;intro j hj;simp [Ck]
theorem Ako {m:Nat} (h:m<258) (p d:Pg):(Ck m p d).set m (p[m] &&& d[m])=Ck (m+1) p d:=by
 apply A5w
 intro j hj
 rw [A21]
 by_cases hij:m=j
 ·subst hij;simp [Ck]
 ·have:(j<m)↔(j<m+1):=by omega
  simp [hij,Ck,this]
theorem Ati {m:Nat} (h:m<258) (p d:Pg):(Ck m p d)[m]=p[m]:=by simp [Ck]
def I7 (b:Blk) (i:Nat) (p:Pg):Blk:={ b with pages:=b.pages.setIfInBounds i p }
theorem Ada {b:Blk} {i:Nat} (hi:i<8):b.pages.toList[i]? =some b.pages[i]:=by
 rw [A1d (by simpa using hi)];simp
theorem Z0 (b:Blk) {i:Nat} (hi:i<8) (p:Pg):(I7 b i p).pages.toList=b.pages.toList.set i p:=by
 apply A3r
 ·simp [I7]
 ·intro j h1 h2
  simp [I7,A0u,A3u]
theorem row_byte {l:List Blk} {k i j:Nat} {b:Blk} (hk:l[k]? =some b) (hi:i<8) (hj:j<258):nth (Eb l) (k*2066+(i*258+j))=some (bv b.pages[i][j]):=by
 rw [Eb,Nc (n:=2066) (fun b _=>Hy b) hk (by omega),Rj,Ui (by rw [Kl];omega),S5,Nc (n:=258) (fun x _=>Ai) (Ada hi) hj,Fv hj]
theorem X5 {l:List Blk} {k i o:Nat} {b:Blk} {vs:List Value} {q:Pg} (hk:l[k]? =some b) (hi:i<8) (hs:Ba (vbc b.pages[i]) o vs=some (vbc q)):Ba (Eb l) (k*2066+(i*258+o)) vs=some (Eb (l.set k (I7 b i q))):=by
 refine Gi (f:=Rj) (n:=2066) (fun b _=>Hy b) hk ?_
 have h1:Ba (S5 b.pages) (i*258+o) vs=some (S5 (I7 b i q).pages):=by
  rw [S5,S5,Z0 b hi q]
  exact Gi (f:=vbc) (n:=258) (fun x _=>Ai) (Ada hi) hs
 exact Jl h1 _
def A8 (n m:Int):Nat:=(min (max n 0) m).toNat
def wrB (b:Blk) (i m:Nat) (d:Pg) (hi:i<8):Blk:=I7 b i (Ck m b.pages[i] d)
theorem Azo (b:Blk) (i:Nat) (d:Pg) (hi:i<8):wrB b i 0 d hi=b:=by
 unfold wrB I7
 rw [Axn]
 have:b.pages.setIfInBounds i b.pages[i]=b.pages:=by
  apply A5w
  intro j hj
  rw [A0u]
  split
  ·rename_i h;subst h;rfl
  ·rfl
 rw [this]
theorem Azp {l:List Blk} {k i j:Nat} {b:Blk} {d:Pg} (hk:l[k]? =some b) (hi:i<8) (hj:j<258):nth (Eb (l.set k (wrB b i j d hi))) (k*2066+(i*258+j))=some (bv b.pages[i][j]):=by
 have hkl:=(A08.1 hk).1
 have h2:(l.set k (wrB b i j d hi))[k]? =some (wrB b i j d hi):=by simp [hkl]
 rw [row_byte h2 hi hj]
 have:(wrB b i j d hi).pages[i]=Ck j b.pages[i] d:=by simp [wrB,I7]
 rw [this,Ati hj]
theorem Atj {l:List Blk} {k i j:Nat} {b:Blk} {d:Pg} (hk:l[k]? =some b) (hi:i<8) (hj:j<258):Ba (Eb (l.set k (wrB b i j d hi))) (k*2066+(i*258+j)) [bv (b.pages[i][j] &&& d[j])]=some (Eb (l.set k (wrB b i (j+1) d hi))):=by
 have hkl:=(A08.1 hk).1
 have h2:(l.set k (wrB b i j d hi))[k]? =some (wrB b i j d hi):=by simp [hkl]
 have h3:(wrB b i j d hi).pages[i]=Ck j b.pages[i] d:=by simp [wrB,I7]
 have h4:=X5 (o:=j) (vs:=[bv (b.pages[i][j] &&& d[j])]) (q:=Ck (j+1) b.pages[i] d) h2 hi (by rw [h3,← Ako hj];exact Il hj _)
 rw [h4]
 simp [wrB,I7]
def D4 (b:Blk) (m:Nat):Blk:={ b with pages:=Vector.ofFn fun j=>if j.val<m then Ar else b.pages[j] }
theorem Atk (b:Blk):D4 b 0=b:=by
 unfold D4
 have:(Vector.ofFn fun j:Fin 8=>if j.val<0 then Ar else b.pages[j])=b.pages:=by
  apply A5w;intro j hj;simp
 rw [this]
theorem Af3 (b:Blk) {m:Nat} (h:m<8):I7 (D4 b m) m Ar=D4 b (m+1):=by
 unfold D4 I7
 congr 1
 apply A5w
 intro j hj
 rw [A0u]
 by_cases hij:m=j
 ·subst hij;simp
 ·have:(j<m)↔(j<m+1):=by omega
  simp [hij,this]
theorem Akp {l:List Blk} {k j:Nat} {b:Blk} (hk:l[k]? =some b) (hj:j<8):Ba (Eb (l.set k (D4 b j))) (k*2066+(j*258+0)) (vbc Ar)=some (Eb (l.set k (D4 b (j+1)))):=by
 have hkl:=(A08.1 hk).1
 have h2:(l.set k (D4 b j))[k]? =some (D4 b j):=by simp [hkl]
 have h4:=X5 (o:=0) (vs:=vbc Ar) (q:=Ar) h2 hj (Bo Ai)
 rw [h4,Af3 b hj]
 simp
theorem Adb {l:List Blk} {k:Nat} {b:Blk} (hk:l[k]? =some b):nth (Eb l) (k*2066+2064)=some (.int .i64 b.next):=by
 rw [Eb,Nc (n:=2066) (fun b _=>Hy b) hk (by omega),Rj]
 have:=Kb (b:=S5 b.pages) (d:=[.int .i64 b.next,.bool b.bad]) (o:=0)
 rw [Kl] at this
 exact this
theorem Z1 {l:List Blk} {k:Nat} {b:Blk} (hk:l[k]? =some b):nth (Eb l) (k*2066+2065)=some (.bool b.bad):=by
 rw [Eb,Nc (n:=2066) (fun b _=>Hy b) hk (by omega),Rj]
 have:=Kb (b:=S5 b.pages) (d:=[.int .i64 b.next,.bool b.bad]) (o:=1)
 rw [Kl] at this
 exact this
theorem Mt {l:List Blk} {k:Nat} {b:Blk} (n:Int) (hk:l[k]? =some b):Ba (Eb l) (k*2066+2064) [.int .i64 n]=some (Eb (l.set k { b with next:=n })):=by
 refine Gi (f:=Rj) (n:=2066) (fun b _=>Hy b) hk ?_
 have:=Fh (a:=S5 b.pages) (d:=[.int .i64 b.next,.bool b.bad]) (o:=0) (c:=[.int .i64 n]) (r:=[.int .i64 n,.bool b.bad]) rfl
 rw [Kl] at this
 exact this
theorem Af4 {l:List Blk} {k:Nat} {b:Blk} (v:Bool) (hk:l[k]? =some b):Ba (Eb l) (k*2066+2065) [.bool v]=some (Eb (l.set k { b with bad:=v })):=by
 refine Gi (f:=Rj) (n:=2066) (fun b _=>Hy b) hk ?_
 have:=Fh (a:=S5 b.pages) (d:=[.int .i64 b.next,.bool b.bad]) (o:=1) (c:=[.bool v]) (r:=[.int .i64 b.next,.bool v]) rfl
 rw [Kl] at this
 exact this
theorem Adc {c:Chip} {i:Int} (h:Ex c i=true):0≤i∧i<c.blocks.length:=by
 unfold Ex at h;simp at h;omega
theorem Akq {c:Chip} {i:Int} (h:Ex c i=true):∃ b,c.blocks[i.toNat]? =some b:=by
 have:=Adc h
 exact ⟨_,A1d (by omega)⟩
def X6 (c:Chip) (i:Int):Bool:=match c.blocks[i.toNat]? with | some b=>b.bad | none=>false
theorem Axo {c:Chip} {i:Int} (h:Ex c i=true):nth (Eb c.blocks) (i.toNat*2066+2065)=some (.bool (X6 c i)):=by
 obtain ⟨b,hb⟩:=Akq h
 rw [Z1 hb,X6,hb]
def S6 (c:Chip):Chip:={ c with pc:=w64 (c.pc+1) }
def Ly (c:Chip):Bool:=E4 c.pf.list (w64 (w64 (c.pc+1) - 1))
def Z2 (c:Chip):Chip:={ c with wc:=w64 (c.wc+1) }
def Sr (c:Chip):Bool:=E4 c.wf.list (w64 (w64 (c.wc+1) - 1))
def cnt (c:Chip):Chip:={ c with count:=w64 (c.count+1) }
def Gn (c:Chip) (i:Nat) (b:Blk):Chip:={ c with blocks:=c.blocks.set i b }
def Bq (c:Chip) (i j:Int) (d:Pg):Int×Chip :=
 if B9 c i j=0 then
  match c.blocks[i.toNat]? with
  | none=>(1,c)
  | some b =>
   if j=b.next then
    let b1:Blk:={ b with next:=w64 (b.next+1) }
    let c1:Chip:=Fp (S6 (cnt c))
    let wr (m:Nat):Chip:=Gn c1 i.toNat (if h:j.toNat<8 then wrB b1 j.toNat m d h else b1)
    if El c=true then (30,wr (A8 c.keep 258)) else if (Ly c || b.bad)=true then (33,wr 129) else (0,wr 258)
   else (32,c)
 else (B9 c i j,c)
def Bs (c:Chip) (i:Int):Int×Chip :=
 if B9 c i 0=0 then
  match c.blocks[i.toNat]? with
  | none=>(1,c)
  | some b =>
   let b1:Blk:={ b with next:=8 }
   let c1:Chip:=Fp (Z2 (cnt c))
   if El c=true then (30,Gn c1 i.toNat (D4 b1 (A8 c.keep 8))) else if (Sr c || b.bad)=true then (33,Gn c1 i.toNat b1) else (0,Gn c1 i.toNat { D4 b1 8 with next:=0 })
 else (B9 c i 0,c)
def Lz:Blk:=⟨Vector.replicate 8 Km,0,false⟩
theorem Aon:List.replicate 2064 (Value.int .u8 0)++[.int .i64 0,.bool false]=Rj Lz:=by kernel_rfl
theorem Aoo (n:Nat):Gl n (Rj Lz)=Eb (List.replicate n Lz):=by
 induction n with
 | zero=>rfl
 | succ n ih=>simp only [Gl,ih,List.replicate_succ,Eb,A27]
def Hb (bad:Bool):Blk:=⟨Vector.replicate 8 Ar,0,bad⟩
def Gx (n:Nat) (bad:List Int) (i:Nat):List Blk:=(List.range n).map fun j=>if j<i then Hb (E4 bad j) else Lz
theorem Atl (n:Nat) (bad:List Int):Gx n bad 0=List.replicate n Lz:=by
 apply A3r
 ·simp [Gx]
 ·intro j h1 h2;simp [Gx]
theorem Rl (n:Nat) (bad:List Int) (i:Nat):(Gx n bad i).length=n:=by simp [Gx]
theorem Aop {n i:Nat} (bad:List Int) (h:i<n):(Gx n bad i)[i]? =some Lz:=by simp [Gx,h]
theorem Af5 {n i:Nat} (bad:List Int) (h:i<n):(Gx n bad i).set i (Hb (E4 bad i))=Gx n bad (i+1):=by
 apply A3r
 ·simp [Gx]
 ·intro j h1 h2
  rw [A3u]
  by_cases hij:i=j
  ·subst hij;simp [Gx]
  ·have:(j<i)↔(j<i+1):=by omega
   simp [hij,Gx,this]
theorem Akr (b:Bool):D4 { Lz with bad:=b } 8=Hb b:=by
 unfold D4 Hb Lz
 congr 1
def Px (n:Int) (bad:List Int):Bool:= !(decide (n<16) || decide (40<n)) && bad.all fun x=>decide (0≤x) && decide (x<n)
def Py (off:Bool) (after keep:Int) (aP aC aB:Nat) (n:Nat) (bad:List Int):Chip:=⟨off,after,keep,Gx n bad n,false,false,0,0,0,aP,aC,aB,.nil,.nil⟩
def Af6 (xs:List Int) (p:Int→Bool):Int:=match xs.findIdx? p with | some k=>k | none=> -1
theorem Atm {xs:List Int} {p:Int→Bool} (i:Int) (h0:0≤i) (h1:i<xs.length) (hn:∀ k:Int,0≤k→k<i→p (at0 xs k)=false) (he:p (at0 xs i)=true):Af6 xs p=i:=by
 have:xs.findIdx? p=some i.toNat:=by
  rw [A0o]
  refine ⟨by omega,?_,?_⟩
  ·simpa [at0,A00,show i.toNat<xs.length by omega] using he
  ·intro j hj
   have:=hn j (by omega) (by omega)
   simpa [at0,A00,show j<xs.length by omega] using this
 simp [Af6,this];omega
theorem Aks {xs:List Int} {p:Int→Bool} (hn:∀ k:Int,0≤k→k<xs.length→p (at0 xs k)=false):Af6 xs p= -1:=by
 have:xs.findIdx? p=none:=by
  rw [A06]
  intro x hx
  obtain ⟨k,hk,rfl⟩:=List.getElem_of_mem hx
  have:=hn k (by omega) (by omega)
  simpa [at0,A00,hk] using this
 simp [Af6,this]
theorem U7 (xs:List Int) (p:Int→Bool):decide (0≤Af6 xs p)=xs.any p:=by
 unfold Af6
 cases h:xs.findIdx? p with
 | none =>
  rw [A06] at h
  have:xs.any p=false:=by rw [List.any_eq_false];intro x hx;simpa using h x hx
  rw [this];rfl
 | some k =>
  rw [A0o] at h
  obtain ⟨h1,h2,_⟩:=h
  have:xs.any p=true:=A3p.2 ⟨_,A3t h1,h2⟩
  rw [this];simp
theorem Add {c:Chip} {i j:Int} {d:Pg} (h:¬ B9 c i j=0):Bq c i j d=(B9 c i j,c):=by unfold Bq;rw [if_neg h]
theorem U8 {c:Chip} {i j:Int} {d:Pg} {b:Blk} (h:B9 c i j=0) (hb:c.blocks[i.toNat]? =some b) (hn:¬ j=b.next):Bq c i j d=(32,c):=by
 unfold Bq;rw [if_pos h,hb];simp only [];rw [if_neg hn]
def wrC (c:Chip) (i j:Int) (d:Pg) (b:Blk) (m:Nat) (h:j.toNat<8):Chip:=Gn (Fp (S6 (cnt c))) i.toNat (wrB { b with next:=w64 (b.next+1) } j.toNat m d h)
theorem X7 {c:Chip} {i j:Int} {d:Pg} {b:Blk} (h:B9 c i j=0) (h8:j.toNat<8) (hb:c.blocks[i.toNat]? =some b) (hn:j=b.next) (he:El c=true):Bq c i j d=(30,wrC c i j d b (A8 c.keep 258) h8):=by
 unfold Bq;rw [if_pos h,hb];simp only [];rw [if_pos hn,if_pos he,A55 h8];rfl
theorem X8 {c:Chip} {i j:Int} {d:Pg} {b:Blk} (h:B9 c i j=0) (h8:j.toNat<8) (hb:c.blocks[i.toNat]? =some b) (hn:j=b.next) (he:El c=false) (hf:(Ly c || b.bad)=true):Bq c i j d=(33,wrC c i j d b 129 h8):=by
 unfold Bq;rw [if_pos h,hb];simp only [];rw [if_pos hn,if_neg (by rw [he];exact A2r),if_pos hf,A55 h8];rfl
theorem Z3 {c:Chip} {i j:Int} {d:Pg} {b:Blk} (h:B9 c i j=0) (h8:j.toNat<8) (hb:c.blocks[i.toNat]? =some b) (hn:j=b.next) (he:El c=false) (hf:(Ly c || b.bad)=false):Bq c i j d=(0,wrC c i j d b 258 h8):=by
 unfold Bq;rw [if_pos h,hb];simp only [];rw [if_pos hn,if_neg (by rw [he];exact A2r),if_neg (by rw [hf];exact A2r),A55 h8];rfl
theorem Akt {c:Chip} {i:Int} (h:¬ B9 c i 0=0):Bs c i=(B9 c i 0,c):=by unfold Bs;rw [if_neg h]
theorem U9 {c:Chip} {i:Int} {b:Blk} (h:B9 c i 0=0) (hb:c.blocks[i.toNat]? =some b) (he:El c=true):Bs c i=(30,Gn (Fp (Z2 (cnt c))) i.toNat (D4 { b with next:=8 } (A8 c.keep 8))):=by
 unfold Bs;rw [if_pos h,hb];simp only [];rw [if_pos he]
theorem Va {c:Chip} {i:Int} {b:Blk} (h:B9 c i 0=0) (hb:c.blocks[i.toNat]? =some b) (he:El c=false) (hf:(Sr c || b.bad)=true):Bs c i=(33,Gn (Fp (Z2 (cnt c))) i.toNat { b with next:=8 }):=by
 unfold Bs;rw [if_pos h,hb];simp only [];rw [if_neg (by rw [he];exact A2r),if_pos hf]
theorem Ade {c:Chip} {i:Int} {b:Blk} (h:B9 c i 0=0) (hb:c.blocks[i.toNat]? =some b) (he:El c=false) (hf:(Sr c || b.bad)=false):Bs c i=(0,Gn (Fp (Z2 (cnt c))) i.toNat { D4 { b with next:=8 } 8 with next:=0 }):=by
 unfold Bs;rw [if_pos h,hb];simp only [];rw [if_neg (by rw [he];exact A2r),if_neg (by rw [hf];exact A2r)]
end
section
open Go.K
def M8:Nat→Nat→Nat→Nat
 | 0,p,_=>p
 | f+1,p,s=>if s≤p then M8 f (p+1) (s*2) else p
def N7 (i:Nat):Nat:=M8 13 (i+1) 1
def Mf (b:By):List Nat:=(List.range 8).filter fun k=>b.getLsbD k
theorem Ajv:∀ b:By,b≠0→Mf b=Qv b::Mf (b &&& (b - 1))∧Qv b<8:=Qu (by decide +kernel)
theorem Ajw:Mf 0=[]:=by decide +kernel
theorem Ajx:∀ b:By,b≠0→(b &&& (b - 1)).toNat<b.toNat:=Qu (by decide +kernel)
def Ab6 (i:Nat) (l:List Nat) (s:Nat):Nat:=l.foldl (fun s k=>s ^^^ N7 (8*i+k)) s
def G1 (n:Nat):Nat:=Hd (BitVec.ofNat 8 (n / 256))+Hd (BitVec.ofNat 8 (n % 256))
theorem K6:∀ x:By,Hd x≤8:=Qu (by decide +kernel)
theorem Ahj:∀ x:By,(UInt8.ofNat (Hd x)).toNat=Hd x:=Qu (by decide +kernel)
def S4 (x:Nat):Nat:=((List.range 17).find? fun i=>decide (x<2 ^ i)).getD 17
def A0d (x:Int):Int :=
 let a:=IntKind.u64.wrap (Et .and .u64 (x.fdiv (2 ^ (min (1:Int).toNat IntKind.u64.bits))) 6148914691236517205+Et .and .u64 x 6148914691236517205)
 let b:=IntKind.u64.wrap (Et .and .u64 (a.fdiv (2 ^ (min (2:Int).toNat IntKind.u64.bits))) 3689348814741910323+Et .and .u64 a 3689348814741910323)
 let c:=Et .and .u64 (IntKind.u64.wrap (b.fdiv (2 ^ (min (4:Int).toNat IntKind.u64.bits))+b)) 1085102592571150095
 let d:=IntKind.u64.wrap (c+c.fdiv (2 ^ (min (8:Int).toNat IntKind.u64.bits)))
 let e:=IntKind.u64.wrap (d+d.fdiv (2 ^ (min (16:Int).toNat IntKind.u64.bits)))
 let f:=IntKind.u64.wrap (e+e.fdiv (2 ^ (min (32:Int).toNat IntKind.u64.bits)))
 Et .and .i64 (IntKind.i64.wrap f) 127
theorem Ab7 {p:Nat→Prop} (h:∀ a<64,∀ b<64,p (64*a+b)):∀ s<4096,p s:=fun s hs=>by
 have:=h (s / 64) (by omega) (s % 64) (by omega)
 rwa [Nat.div_add_mod] at this
theorem Asq:∀ s<4096,A0d (s:Nat)=(G1 s:Nat):=Ab7 (by decide +kernel)
theorem Awy:∀ s<256,Ai9 (BitVec.ofNat 8 s)=S4 s:=by decide +kernel
theorem Awz:∀ s<4096,256≤s→8+Ai9 (BitVec.ofNat 8 (s / 256))=S4 s:=Ab7 (by decide +kernel)
theorem Ab8:∀ i<2048,N7 i<4096:=by decide +kernel
theorem Anb:∀ s<4096,Et .and .i64 (s:Nat) ((s:Nat) - 1)=((s &&& (s - 1):Nat):Int):=Ab7 (by decide +kernel)
theorem Aw0:∀ s<4096,¬ s &&& (s - 1)=0→S4 s+1≤s:=Ab7 (by decide +kernel)
theorem Aza:∀ k<8,IntKind.u8.wrap (1*2 ^ (min ((k:Nat):Int).toNat IntKind.u8.bits))=((1#8 <<< k).toNat:Int):=by decide +kernel
theorem Ahk:∀ x:By,Ai9 x≤8:=Qu (by decide +kernel)
theorem Zh (n:Nat):G1 n≤16:=by
 have:=K6 (BitVec.ofNat 8 (n / 256))
 have:=K6 (BitVec.ofNat 8 (n % 256))
 unfold G1;omega
end
section
open Go.K
theorem Em (k:IntKind) (hk:k.signed=false) (i:Int):k.wrap i=((BitVec.ofInt k.bits i).toNat:Int):=by
 have h:(2:Int) ^ k.bits=((2 ^ k.bits:Nat):Int):=by push_cast;rfl
 have hp:(0:Int)<((2 ^ k.bits:Nat):Int):=by exact_mod_cast Nat.two_pow_pos k.bits
 simp only [IntKind.wrap,hk,A4q,A2q,A53,A2o,h]
 have:=Int.emod_nonneg i (Int.ne_of_gt hp)
 omega
theorem Kn {n:Nat} (x:BitVec n):BitVec.ofInt n (x.toNat:Int)=x:=by simp
theorem Rm (k:IntKind) (hk:k.signed=false) (x:BitVec k.bits):k.wrap (x.toNat:Int)=x.toNat:=by
 rw [Em k hk,Kn]
theorem Ok (op:BinOp) (k:IntKind) (hk:k.signed=false) (x y:BitVec k.bits):Et op k x.toNat y.toNat=((match op with | .and=>x &&& y | .or=>x ||| y | .xor=>x ^^^ y | _=>x &&& ~~~y).toNat:Int):=by
 unfold Et
 cases op <;> simp only [Kn] <;> exact Rm k hk _
theorem Ats {n:Nat} (x:BitVec n):IntKind.u8.wrap (x.toNat:Int)=((x.setWidth 8).toNat:Int):=by
 rw [Em .u8 rfl]
 simp [IntKind.bits]
theorem Z9 {n:Nat} (k:IntKind) (hk:k.signed=false) (x:BitVec n):k.wrap (x.toNat:Int)=((x.setWidth k.bits).toNat:Int):=by
 rw [Em k hk]
 simp
theorem Vd {n:Nat} (x:BitVec n) (m:Nat):(x.toNat:Int).fdiv (2 ^ m)=((x >>> m).toNat:Int):=by
 rw [A1c,A1b,A0z _ (by exact_mod_cast A5s _)]
 push_cast
 rfl
theorem Af8 (op:BinOp) (x y:Nat) (hx:x<2 ^ 62) (hy:y<2 ^ 62) (ho:op= .and∨op= .or∨op= .xor):Et op .i64 x y=((match op with | .and=>x &&& y | .or=>x ||| y | _=>x ^^^ y:Nat):Int):=by
 have hw:∀ z:Nat,z<2 ^ 62→IntKind.i64.wrap (z:Int)=z:=fun z hz=>Cz (by omega)
 have hm:∀ z:Nat,z<2 ^ 62→z % 2 ^ 64=z:=fun z hz=>A31 (by omega)
 rcases ho with rfl | rfl | rfl
 ·show IntKind.i64.wrap ((BitVec.ofInt 64 (x:Int) &&& BitVec.ofInt 64 (y:Int)).toNat:Int)=_
  rw [A14,A14,A3l,A2p,A2p,hm x hx,hm y hy]
  exact hw _ (Nat.lt_of_le_of_lt A4l hx)
 ·show IntKind.i64.wrap ((BitVec.ofInt 64 (x:Int) ||| BitVec.ofInt 64 (y:Int)).toNat:Int)=_
  rw [A14,A14,A35,A2p,A2p,hm x hx,hm y hy]
  exact hw _ (Nat.or_lt_two_pow hx hy)
 ·show IntKind.i64.wrap ((BitVec.ofInt 64 (x:Int) ^^^ BitVec.ofInt 64 (y:Int)).toNat:Int)=_
  rw [A14,A14,BitVec.toNat_xor,A2p,A2p,hm x hx,hm y hy]
  exact hw _ (Nat.xor_lt_two_pow hx hy)
theorem Att {P:Program} {E:Env} {H:Hp} {t u:TypeId} {x y:Operand} {v:Wd} (hx:ev E x=some (.int .u64 v.toNat)) (hy:ev E y=some (.int .u64 8)):Rd P E H (.binOp .shr t x y u) (.int .u64 ((v >>> 8).toNat)):=by
 have:=I5 (P:=P) (H:=H) (t:=t) (u:=u) hx hy (by omega)
 rw [show (min (8:Int).toNat IntKind.u64.bits)=8 from rfl,Vd] at this
 exact this
theorem Aou {P:Program} {E:Env} {H:Hp} {t u:TypeId} {x y:Operand} {v:Wd} {j:Int} {k:Nat} (hx:ev E x=some (.int .u64 v.toNat)) (hy:ev E y=some (.int .i64 j)) (hj:j=(k:Int)) (hk:k<64):Rd P E H (.binOp .shl t x y u) (.int .u64 ((v <<< k).toNat)):=by
 subst hj
 have:=Zs (P:=P) (H:=H) (t:=t) (u:=u) hx hy (by omega)
 have hb:IntKind.u64.bits=64:=rfl
 rw [hb,show min ((k:Int).toNat) 64=k by omega,Em .u64 rfl] at this
 have e:(BitVec.ofInt IntKind.u64.bits ((v.toNat:Int)*2 ^ k))=v <<< k:=by
  show BitVec.ofInt 64 ((v.toNat:Int)*2 ^ k)=_
  apply A1s
  rw [A2o,A1m,Nat.shiftLeft_eq]
  have:((v.toNat:Int)*2 ^ k)=((v.toNat*2 ^ k:Nat):Int):=by push_cast;rfl
  rw [this]
  omega
 rw [e] at this
 exact this
def uv (x:BitVec 32):Value:= .int .u32 x.toNat
theorem Aov (x:By):Et .xor .u8 (if IntKind.u8.signed then -1 else IntKind.u8.max) x.toNat=((~~~x).toNat:Int):=by
 show IntKind.u8.wrap ((BitVec.ofInt 8 255 ^^^ BitVec.ofInt 8 (x.toNat:Int)).toNat:Int)=_
 rw [Kn,show BitVec.ofInt 8 255=BitVec.allOnes 8 from by decide,BitVec.allOnes_xor]
 exact Rm .u8 rfl _
theorem Aku (x:BitVec 32):Et .xor .u32 (if IntKind.u32.signed then -1 else IntKind.u32.max) x.toNat=((~~~x).toNat:Int):=by
 show IntKind.u32.wrap ((BitVec.ofInt 32 4294967295 ^^^ BitVec.ofInt 32 (x.toNat:Int)).toNat:Int)=_
 rw [Kn,show BitVec.ofInt 32 4294967295=BitVec.allOnes 32 from by decide,BitVec.allOnes_xor]
 exact Rm .u32 rfl _
theorem Atu (x:BitVec 32):IntKind.u32.wrap (0 - (x.toNat:Int))=((-x).toNat:Int):=by
 rw [Em .u32 rfl,Int.zero_sub]
 show ((BitVec.ofInt 32 (-(x.toNat:Int))).toNat:Int)=_
 rw [BitVec.ofInt_neg,Kn]
section
variable {P:Program} {E:Env} {H:Hp} {t u:TypeId} {x y:Operand}
theorem Ko {a b:BitVec 32} (hx:ev E x=some (uv a)) (hy:ev E y=some (uv b)):Rd P E H (.binOp .xor t x y u) (uv (a ^^^ b)):=by
 have:=An (P:=P) (H:=H) (op:= .xor) (t:=t) (u:=u) hx hy rfl
 have e:Et .xor .u32 a.toNat b.toNat=((a ^^^ b).toNat:Int):=Ok .xor .u32 rfl a b
 rw [e] at this
 exact this
theorem Pz {a b:BitVec 32} (hx:ev E x=some (uv a)) (hy:ev E y=some (uv b)):Rd P E H (.binOp .and t x y u) (uv (a &&& b)):=by
 have:=An (P:=P) (H:=H) (op:= .and) (t:=t) (u:=u) hx hy rfl
 have e:Et .and .u32 a.toNat b.toNat=((a &&& b).toNat:Int):=Ok .and .u32 rfl a b
 rw [e] at this
 exact this
theorem Azq {a:BitVec 32} (hx:ev E x=some (uv a)) (hy:ev E y=some (.int .i64 1)):Rd P E H (.binOp .shr t x y u) (uv (a >>> 1)):=by
 have:=I5 (P:=P) (H:=H) (t:=t) (u:=u) hx hy (by omega)
 rw [show (min (1:Int).toNat IntKind.u32.bits)=1 from rfl,Vd] at this
 exact this
theorem Akv {k:IntKind} {a:BitVec 32} (hx:ev E x=some (uv a)) (hy:ev E y=some (.int k 1)):Rd P E H (.binOp .shr t x y u) (uv (a >>> 1)):=by
 have:=I5 (P:=P) (H:=H) (t:=t) (u:=u) hx hy (by omega)
 rw [show (min (1:Int).toNat IntKind.u32.bits)=1 from rfl,Vd] at this
 exact this
theorem Aow {a:BitVec 32} (hx:ev E x=some (uv a)):Rd P E H (.unOp .neg t x) (uv (-a)):=by
 have:=Axc (P:=P) (H:=H) (t:=t) hx
 rw [Atu] at this
 exact this
theorem Ve {a:BitVec 32} (hx:ev E x=some (uv a)):Rd P E H (.unOp .xor t x) (uv (~~~a)):=by
 have:=Acx (P:=P) (H:=H) (t:=t) hx
 rwa [Aku] at this
theorem Akw {a:By} (hx:ev E x=some (bv a)):Rd P E H (.unOp .xor t x) (bv (~~~a)):=by
 have:=Acx (P:=P) (H:=H) (t:=t) hx
 rwa [Aov] at this
theorem Atv {a b:By} (hx:ev E x=some (bv a)) (hy:ev E y=some (bv b)):Rd P E H (.binOp .sub t x y u) (bv (a - b)):=by
 have:=An (P:=P) (H:=H) (op:= .sub) (t:=t) (u:=u) hx hy rfl
 have e:IntKind.u8.wrap ((a.toNat:Int) - b.toNat)=((a - b).toNat:Int):=by
  rw [Em .u8 rfl]
  show ((BitVec.ofInt 8 ((a.toNat:Int) - b.toNat)).toNat:Int)=_
  rw [BitVec.toNat_sub,A2o]
  have:=a.isLt
  have:=b.isLt
  omega
 rw [e] at this
 exact this
theorem Ah8 {s:TypeId} {ds:TypeDesc} {a:By} [Und P s ds] [Und P t (.int .u32)] (hx:ev E x=some (bv a)):Rd P E H (.convert s t x) (uv (a.setWidth 32)):=by
 have:=D9 (P:=P) (H:=H) (s:=s) (t:=t) (k:= .u32) hx
 rw [Z9 .u32 rfl a] at this
 exact this
theorem Atw {s:TypeId} {ds:TypeDesc} {a:By} [Und P s ds] [Und P t (.int .u64)] (hx:ev E x=some (bv a)):Rd P E H (.convert s t x) (wv (a.setWidth 64)):=by
 have:=D9 (P:=P) (H:=H) (s:=s) (t:=t) (k:= .u64) hx
 rw [Z9 .u64 rfl a] at this
 exact this
theorem Akx {s:TypeId} {ds:TypeDesc} {a:BitVec 32} [Und P s ds] [Und P t (.int .u64)] (hx:ev E x=some (uv a)):Rd P E H (.convert s t x) (wv (a.setWidth 64)):=by
 have:=D9 (P:=P) (H:=H) (s:=s) (t:=t) (k:= .u64) hx
 rw [Z9 .u64 rfl a] at this
 exact this
end
def I8 (x:Wd):Nat→Wd
 | 0=>x
 | i+1=>I8 x i >>> 8
def B4 (k:Nat) (x:Wd):List By:=(List.range k).map fun i=>(I8 x i).setWidth 8
theorem X9 (k:Nat) (x:Wd):B4 (k+1) x=B4 k x++[(I8 x k).setWidth 8]:=by
 simp [B4,A4j]
theorem A4 (k:Nat) (x:Wd):(B4 k x).length=k:=by simp [B4]
def L3 (k:Nat) (xs:List Wd):List By:=xs.flatMap (B4 k)
theorem Af9 {k i:Nat} {xs:List Wd} {x:Wd} (h:xs[i]? =some x):L3 k (xs.take (i+1))=L3 k (xs.take i)++B4 k x:=by
 rw [A3g,h]
 simp [L3]
theorem Rn (k:Nat) (xs:List Wd):(L3 k xs).length=xs.length*k:=by
 induction xs with
 | nil=>simp [L3]
 | cons x xs ih=>simp only [L3,A27,A2x,A4,A3v,A5j] at *;omega
def Ec (xs:List By) (i:Nat):Wd:=(List.range i).foldl (fun n j=>n ||| ((xs.getD j 0).setWidth 64 <<< (8*j))) 0
theorem Vf (xs:List By) (i:Nat):Ec xs (i+1)=Ec xs i ||| ((xs.getD i 0).setWidth 64 <<< (8*i)):=by
 simp [Ec,A4j]
section
variable {P:Program} {E:Env} {H:Hp} {t u:TypeId} {x y:Operand} {a b:Nat}
theorem Aaa (hx:ev E x=some (.int .i64 (a:Nat))) (hy:ev E y=some (.int .i64 (b:Nat))) (ha:a<2 ^ 62) (hb:b<2 ^ 62):Rd P E H (.binOp .xor t x y u) (.int .i64 ((a ^^^ b:Nat):Int)):=by
 have:=An (P:=P) (H:=H) (op:= .xor) (t:=t) (u:=u) hx hy rfl
 rw [Af8 .xor a b ha hb (.inr (.inr rfl))] at this
 exact this
theorem P1 (hx:ev E x=some (.int .i64 (a:Nat))) (hy:ev E y=some (.int .i64 (b:Nat))) (ha:a<2 ^ 62) (hb:b<2 ^ 62):Rd P E H (.binOp .and t x y u) (.int .i64 ((a &&& b:Nat):Int)):=by
 have:=An (P:=P) (H:=H) (op:= .and) (t:=t) (u:=u) hx hy rfl
 rw [Af8 .and a b ha hb (.inl rfl)] at this
 exact this
theorem Aga (hx:ev E x=some (.int .i64 (a:Nat))) (hy:ev E y=some (.int .i64 ((a:Int) - 1))) (ha:a<4096):Rd P E H (.binOp .and t x y u) (.int .i64 ((a &&& (a - 1):Nat):Int)):=by
 have:=An (P:=P) (H:=H) (op:= .and) (t:=t) (u:=u) hx hy rfl
 rw [Anb a ha] at this
 exact this
theorem To (hx:ev E x=some (.int .i64 (a:Nat))) (hy:ev E y=some (.int .i64 (b:Nat))) (ha:a+b<2 ^ 62):Rd P E H (.binOp .add t x y u) (.int .i64 ((a+b:Nat):Int)):=by
 have:=Bm (P:=P) (H:=H) (t:=t) (u:=u) hx hy (by omega)
 rw [← Int.natCast_add] at this
 exact this
theorem Aox (hx:ev E x=some (.int .i64 (a:Nat))) (hy:ev E y=some (.int .i64 (b:Nat))) (ha:a<2 ^ 62) (hb:b<2 ^ 62):Rd P E H (.binOp .or t x y u) (.int .i64 ((a ||| b:Nat):Int)):=by
 have:=An (P:=P) (H:=H) (op:= .or) (t:=t) (u:=u) hx hy rfl
 rw [Af8 .or a b ha hb (.inr (.inl rfl))] at this
 exact this
theorem Azr {n m:Nat} (hn:n<65536) (hm:m<65536):Et .and .u16 n m=((n &&& m:Nat):Int):=by
 show IntKind.u16.wrap ((BitVec.ofInt 16 (n:Int) &&& BitVec.ofInt 16 (m:Int)).toNat:Int)=_
 rw [A14,A14,A3l,A2p,A2p,A31 (show n<2 ^ 16 from hn),A31 (show m<2 ^ 16 from hm)]
 have:n &&& m≤n:=A4l
 have h2:(2:Int) ^ IntKind.u16.bits=65536:=rfl
 simp only [IntKind.wrap,h2,show IntKind.u16.signed=false from rfl,A4q,A2q,A53]
 omega
theorem Adg (hx:ev E x=some (.int .u16 (a:Nat))) (hy:ev E y=some (.int .u16 (b:Nat))) (ha:a<65536) (hb:b<65536):Rd P E H (.binOp .and t x y u) (.int .u16 ((a &&& b:Nat):Int)):=by
 have:=An (P:=P) (H:=H) (op:= .and) (t:=t) (u:=u) hx hy rfl
 rw [Azr ha hb] at this
 exact this
theorem P2 {k k':IntKind} {j:Int} {m:Nat} (hx:ev E x=some (.int k (a:Nat))) (hy:ev E y=some (.int k' j)) (hj:j=(m:Int)) (hm:m≤k.bits):Rd P E H (.binOp .shr t x y u) (.int k ((a / 2 ^ m:Nat):Int)):=by
 subst hj
 have:=I5 (P:=P) (H:=H) (t:=t) (u:=u) hx hy (by omega)
 rw [show min ((m:Int).toNat) k.bits=m by omega,A0z _ (by exact_mod_cast A5s _)] at this
 push_cast at this ⊢
 exact this
theorem Ah9 {k':IntKind} {j:Int} {m:Nat} (hx:ev E x=some (.int .i64 (a:Nat))) (hy:ev E y=some (.int k' j)) (hj:j=(m:Int)) (hm:m≤62) (hb:a*2 ^ m<2 ^ 63):Rd P E H (.binOp .shl t x y u) (.int .i64 ((a*2 ^ m:Nat):Int)):=by
 subst hj
 have:=Zs (P:=P) (H:=H) (t:=t) (u:=u) hx hy (by omega)
 rw [show min ((m:Int).toNat) IntKind.i64.bits=m from by (have:IntKind.i64.bits=64:=rfl);omega] at this
 have e:(a:Int)*2 ^ m=((a*2 ^ m:Nat):Int):=by push_cast;rfl
 rw [e,Cz (by omega)] at this
 exact this
end
theorem Aab {P:Program} {E:Env} {H:Hp} {t u:TypeId} {x y:Operand} {k:Nat} (hx:ev E x=some (.int .u8 1)) (hy:ev E y=some (.int .i64 (k:Nat))) (hk:k<8):Rd P E H (.binOp .shl t x y u) (bv (1#8 <<< k)):=by
 have:=Zs (P:=P) (H:=H) (t:=t) (u:=u) hx hy (by omega)
 rw [Aza k hk] at this
 exact this
theorem Eu {P:Program} {E:Env} {H:Hp} {s t:TypeId} {x:Operand} {ds:TypeDesc} {k k':IntKind} {a:Nat} [hs:Und P s ds] [ht:Und P t (.int k)] (hx:ev E x=some (.int k' (a:Nat))) (h:k.wrap (a:Int)=a):Rd P E H (.convert s t x) (.int k (a:Nat)):=by
 have:=D9 (P:=P) (H:=H) (s:=s) (t:=t) (k:=k) hx
 rwa [h] at this
theorem Gp {P:Program} {E:Env} {H:Hp} {s t:TypeId} {x:Operand} {ds:TypeDesc} {k k':IntKind} {a r:Int} [hs:Und P s ds] [ht:Und P t (.int k)] (h:k.wrap a=r) (hx:ev E x=some (.int k' a)):Rd P E H (.convert s t x) (.int k r):=by
 have:=D9 (P:=P) (H:=H) (s:=s) (t:=t) (k:=k) hx
 rwa [h] at this
theorem Ey (k:IntKind) (hk:k.signed=false) {a:Nat} (h:a<2 ^ k.bits):k.wrap (a:Int)=a:=by
 rw [Em k hk,A14,A2p,A31 h]
theorem Aac {a:Nat} (h:a<2 ^ 63):IntKind.i64.wrap (a:Int)=a:=Cz (by omega)
def C2 (k:Nat) (l:List By) (bad:Bool):Wd×List By×Bool:=if l.length<k then (0,[],true) else (Ec (l.take k) k,l.drop k,bad)
def C4 (k:Nat) (l:List By) (bad:Bool):List By×List By×Bool:=if l.length<k then ([],[],true) else (l.take k,l.drop k,bad)
theorem P3 (k:Nat) (l:List By) (bad:Bool):(C2 k l bad).2.1.length≤l.length:=by unfold C2;split <;> simp
theorem Vg (k:Nat) (l:List By) (bad:Bool):(C4 k l bad).2.1.length≤l.length∧(C4 k l bad).1.length≤l.length:=by unfold C4;split <;> simp <;> omega
theorem Gd {k m:Nat} {l l':List By} {bad:Bool} (h:l'=(C2 k l bad).2.1) (hl:l.length≤m):l'.length≤m:=by rw [h];have:=P3 k l bad;omega
theorem Aia {k m:Nat} {l l':List By} {bad:Bool} (h:l'=(C4 k l bad).2.1) (hl:l.length≤m):l'.length≤m:=by rw [h];have:=Vg k l bad;omega
theorem Adh {k m:Nat} {l l':List By} {bad:Bool} (h:l'=(C4 k l bad).1) (hl:l.length≤m):l'.length≤m:=by rw [h];have:=Vg k l bad;omega
def Hz:BitVec 32:=0xedb88320
def Atx (c:BitVec 32):BitVec 32:=(c >>> 1) ^^^ (Hz &&& (-(c &&& 1)))
def Wv (c:BitVec 32):Nat→BitVec 32
 | 0=>c
 | k+1=>Atx (Wv c k)
def Aoy (c:BitVec 32) (b:By):BitVec 32:=Wv (c ^^^ b.setWidth 32) 8
def Lo (c:BitVec 32) (xs:List By):BitVec 32:=xs.foldl Aoy c
def Da (s:BitVec 32) (ps:List (List By)):BitVec 32:= ~~~ (ps.foldl Lo (~~~ s))
theorem Ya {c:BitVec 32} {xs:List By} {i:Nat} {b:By} (h:xs[i]? =some b):Lo c (xs.take (i+1))=Aoy (Lo c (xs.take i)) b:=by
 rw [A3g,h]
 simp [Lo]
def Bb (ps:List (Sl By)):List By:=ps.flatMap (·.list)
theorem Ol {ps:List (Sl By)} {i:Nat} {s:Sl By} (h:ps[i]? =some s):Bb (ps.take (i+1))=Bb (ps.take i)++s.list:=by
 rw [A3g,h];simp [Bb]
theorem P4 (ps:List (Sl By)) (i:Nat):(Bb (ps.take i)).length≤(Bb ps).length:=by
 have:Bb ps=Bb (ps.take i)++Bb (ps.drop i):=by simp only [Bb];rw [← A2j,A11]
 rw [this,A2x];omega
def Aad (cs:List Value) (xs:List By):List Value:=cells xs++cs.drop xs.length
theorem Adi {cs:List Value} {xs ys:List By} {o:Nat} (h:xs.length+ys.length≤cs.length) (ho:ys=[]∧o=0∨o=xs.length):Ba (Aad cs xs) o (cells ys)=some (Aad cs (xs++ys)):=by
 have hl:(cells xs).length=xs.length:=by rw [Hf];simp [Cel.sz]
 have hl2:(cells ys).length=ys.length:=by rw [Hf];simp [Cel.sz]
 rcases ho with ⟨rfl,rfl⟩ | rfl
 ·refine Ew ?_ (by simp)
  simp [Aad,cells]
 ·refine Ew ?_ (by simp only [Aad,A2x,A3w,hl,hl2];omega)
  simp only [Aad,cells,A2j,A25]
  have h1:List.take xs.length (List.flatMap Cel.cs xs++List.drop xs.length cs)=cells xs:=by rw [A0s (by rw [← hl];exact A5q _),← hl,A30]
  have h2:List.drop (xs.length+(List.flatMap Cel.cs ys).length) (List.flatMap Cel.cs xs++List.drop xs.length cs)=List.drop (xs.length+ys.length) cs:=by
   rw [show (List.flatMap Cel.cs ys).length=ys.length from hl2,List.drop_append,show (List.flatMap Cel.cs xs).length=xs.length from hl,A1n (by rw [show (List.flatMap Cel.cs xs).length=xs.length from hl];omega),A4h,A4s]
   congr 1;omega
  rw [h1,h2,A2x]
theorem Agb {α β:Type} {f:β→α→β} {c:β} {xs:List α} {i:Nat} {b:α} (h:xs[i]? =some b):(xs.take (i+1)).foldl f c=f ((xs.take i).foldl f c) b:=by
 rw [A3g,h]
 simp
abbrev Dat:=Vector By 256
def Nw (d:Dat) (i:Nat):Nat:=(List.range i).foldl (fun s j=>Ab6 j (Mf (d.toList.getD j 0)) s) 0
def Aae (d:Dat) (i:Nat):Nat:=(List.range i).foldl (fun s j=>s ^^^ (Hd (d.toList.getD j 0) % 2)) 0
theorem Vh (d:Dat) (i:Nat):Nw d (i+1)=Ab6 i (Mf (d.toList.getD i 0)) (Nw d i):=by simp [Nw,A4j]
theorem Yb (d:Dat) (i:Nat):Aae d (i+1)=Aae d i ^^^ (Hd (d.toList.getD i 0) % 2):=by simp [Aae,A4j]
def Gy (d:Dat):Nat:=Nw d 256
def Mu (d:Dat):Nat:=Aae d 256
theorem Agc {a b:Nat} (ha:a<4096) (hb:b<4096):a ^^^ b<4096:=Nat.xor_lt_two_pow (n:=12) ha hb
theorem Aoz {i:Nat} (hi:i<256):∀ (l:List Nat) (s:Nat),(∀ k∈l,k<8)→s<4096→Ab6 i l s<4096:=by
 intro l
 induction l with
 | nil=>intro s _ hs;exact hs
 | cons k l ih =>
  intro s hl hs
  simp only [Ab6,A4a]
  exact ih _ (fun k hk=>hl k (.tail _ hk)) (Agc hs (Ab8 _ (by have:=hl k (.head _);omega)))
theorem Aky (b:By):∀ k∈Mf b,k<8:=fun k hk=>by
 simp only [Mf,A4g,A4v] at hk
 exact hk.1
theorem Mw (d:Dat):∀ i,i≤256→Nw d i<4096:=by
 intro i
 induction i with
 | zero=>intro _;simp [Nw]
 | succ i ih=>intro h;rw [Vh];exact Aoz (by omega) _ _ (Aky _) (ih (by omega))
theorem Aaf (d:Dat):∀ i,Aae d i<2:=by
 intro i
 induction i with
 | zero=>simp [Aae]
 | succ i ih=>rw [Yb];exact Nat.xor_lt_two_pow (n:=1) ih (by omega)
def Dl (d:Dat):Nat:=if (Mu d+G1 (Gy d)) % 2=0 then Gy d else Gy d ||| 4096
theorem Hk (d:Dat):Dl d<8192:=by
 have h:=Mw d 256 (A5q _)
 unfold Dl Gy
 split
 ·omega
 ·exact Nat.or_lt_two_pow (n:=13) (by omega) (by omega)
def Adj (d:Dat) (i:Nat):Dat:=if h:i / 8<256 then d.set (i / 8) (d[i / 8] ^^^ (1#8 <<< (i % 8))) else d
def zeroD:Dat:=Vector.replicate 256 0#8
theorem Vi:List.replicate 256 (Value.int .u8 0)=vbc zeroD:=by kernel_rfl
def C3 (d:Dat) (chk:Nat):Dat×Int×Int :=
 let s:=Gy d ^^^ (chk &&& 4095)
 let odd:=(Mu d+G1 (chk &&& 8191)) % 2
 if s=0∧odd=0 then (d,0,0) else if odd=0 then (zeroD,0,21) else if s &&& (s - 1)=0 then (d,1,0)
 else if 2048≤(s:Int) - 1 - S4 s then (zeroD,0,21) else (Adj d (s - 1 - S4 s),1,0)
end
section
open Go.K
def Abv {n:Nat} (p:Vector By n) (o:Nat) (xs:List By):Vector By n:=Vector.ofFn fun j=>if o≤j.val∧j.val<o+xs.length then xs.getD (j.val - o) 0 else p[j]
theorem Ii {n:Nat} (p:Vector By n) (o:Nat) (xs:List By) (j:Nat) (h:j<n):(Abv p o xs)[j]=if o≤j∧j<o+xs.length then xs.getD (j - o) 0 else p[j]:=by simp [Abv]
theorem O0 {n:Nat} (p:Vector By n) (i:Nat):(vbc p)[i]? =if h:i<n then some (bv p[i]) else none:=by
 unfold vbc
 rw [A29]
 by_cases h:i<n
 ·simp [h]
 ·rw [A1v (by simpa using h)]
  simp [h]
theorem cells_get (xs:List By) (i:Nat):(cells xs)[i]? =(xs[i]?).map bv:=by rw [Mi,A29]
theorem It (xs:List By):(cells xs).length=xs.length:=by rw [Mi,A4b]
theorem Ta {n:Nat} {p:Vector By n} {o:Nat} {xs:List By} (h:o+xs.length≤n):Ba (vbc p) o (cells xs)=some (vbc (Abv p o xs)):=by
 refine Ew ?_ (by rw [It,Ai];exact h)
 apply A26
 intro i
 rw [O0]
 by_cases hi:i<n
 ·rw [A55 hi,Ii _ _ _ _ hi]
  by_cases h1:i<o
  ·rw [if_neg (by omega),A25,A07 (by rw [A3x,Ai];omega),A2w,if_pos h1,O0,A55 hi]
  ·by_cases h2:i<o+xs.length
   ·rw [if_pos ⟨by omega,h2⟩,A25,A01 (by rw [A3x,Ai];omega),A07 (by rw [It,A3x,Ai];omega),A3x,Ai,A4m (by omega),cells_get,A1d (by omega)]
    simp only [A4n,A00,A1d (show i - o<xs.length by omega),A32]
   ·rw [if_neg (by omega),A01 (by rw [A2x,It,A3x,Ai];omega),A2v,A2x,It,A3x,Ai,A4m (by omega),O0]
    have e:o+xs.length+(i - (o+xs.length))=i:=by omega
    simp only [e,hi,A55]
 ·rw [dif_neg hi,A1v]
  simp only [A2x,A3x,A3w,It,Ai]
  omega
def Ajj (kind:By) (body:List By):Dat:=Abv ((zeroD.set 0 kind).set 1 (BitVec.ofNat 8 body.length)) 2 body
def Avw (d:Dat):BitVec 32:=Da 0 [d.toList.take 252]
def Ay0 (d:Dat):Dat:=Abv d 252 (B4 4 ((Avw d).setWidth 64))
def Kz (kind:By) (body:List By):Dat:=Ay0 (Ajj kind body)
def Ju (d:Dat):Pg:=Abv (Abv Km 0 d.toList) 256 (B4 2 (BitVec.ofNat 64 (Dl d)))
def Cp (kind:By) (body:List By):Pg:=Ju (Kz kind body)
def C1 (kind:By) (body:List By):Bool:=(decide ((kind.toNat:Int)=0) || decide ((kind.toNat:Int)=255)) || decide ((240:Int)<body.length)
def Cy (kind:By) (body:List By):Pg×Int:=if C1 kind body=true then (Km,1) else (Cp kind body,0)
def K0 (p:Pg) (i:Nat):Nat:=(List.range i).foldl (fun s j=>s+Hd (~~~ (p.toList.getD j 0))) 0
theorem Ma (p:Pg) (i:Nat):K0 p (i+1)=K0 p i+Hd (~~~ (p.toList.getD i 0)):=by simp [K0,A4j]
theorem Ajk (p:Pg):∀ i,K0 p i≤8*i:=by
 intro i
 induction i with
 | zero=>simp [K0]
 | succ i ih=>rw [Ma];have:=K6 (~~~ (p.toList.getD i 0));omega
def Be (p:Pg):Bool:=decide (K0 p 258≤1)
def Ie (p:Pg):Dat:=Vector.ofFn fun j=>p[j]
theorem Ar7 (p:Pg):cut (vbc p) 0 256=some (vbc (Ie p)):=by
 refine cut_iff.2 ⟨?_,by rw [Ai];omega⟩
 apply A26
 intro i
 rw [A4t,A2w,O0,O0]
 by_cases h:i<256
 ·rw [A55 h,if_pos h,A55 (by omega)]
  simp [Ie]
 ·rw [dif_neg h,if_neg h]
def Du (p:Pg):Nat:=(Ec ((p.toList.drop 256).take 2) 2).toNat % 65536
def G2 (d:Dat):List By:=if d[1].toNat≤240 then (d.toList.drop 2).take d[1].toNat else []
def Bz (p:Pg):By×List By×Int×Int :=
 if Be p=true then (0,[],0,20) else
 let above:=G1 (Du p &&& 57344)
 if 1<above then (0,[],0,21) else
 let f:=C3 (Ie p) (Du p)
 if f.2.2≠0 then (0,[],0,f.2.2) else
 let w:=Cy f.1[0] (G2 f.1)
 if w.2≠0∨240<f.1[1].toNat∨w.1.toList.take 256≠f.1.toList then (0,[],0,21)
 else (f.1[0],G2 f.1,f.2.1+above,0)
theorem E7 {p:Pg} (h:Be p=true):Bz p=(0,[],0,20):=by unfold Bz;rw [if_pos h]
theorem Si {p:Pg} (h:Be p=false) (h2:1<G1 (Du p &&& 57344)):Bz p=(0,[],0,21):=by
 unfold Bz;rw [if_neg (by rw [h];exact A2r)];simp only [];rw [if_pos h2]
theorem Ajl {p:Pg} (h:Be p=false) (h2:¬ 1<G1 (Du p &&& 57344)) (h3:¬ (C3 (Ie p) (Du p)).2.2=0):Bz p=(0,[],0,(C3 (Ie p) (Du p)).2.2):=by
 unfold Bz;rw [if_neg (by rw [h];exact A2r)];simp only [];rw [if_neg h2,if_pos h3]
theorem W3 {p:Pg} {f:Dat×Int×Int} (hf:C3 (Ie p) (Du p)=f) (h:Be p=false) (h2:¬ 1<G1 (Du p &&& 57344)) (h3:f.2.2=0)
  (h4:(Cy f.1[0] (G2 f.1)).2≠0∨240<f.1[1].toNat∨(Cy f.1[0] (G2 f.1)).1.toList.take 256≠f.1.toList):Bz p=(0,[],0,21):=by
 subst hf
 unfold Bz;rw [if_neg (by rw [h];exact A2r)];simp only [];rw [if_neg h2,if_neg (by rw [h3];simp),if_pos h4]
theorem Abw {p:Pg} {f:Dat×Int×Int} (hf:C3 (Ie p) (Du p)=f) (h:Be p=false) (h2:¬ 1<G1 (Du p &&& 57344)) (h3:f.2.2=0)
  (h4:¬ ((Cy f.1[0] (G2 f.1)).2≠0∨240<f.1[1].toNat∨(Cy f.1[0] (G2 f.1)).1.toList.take 256≠f.1.toList)):Bz p=(f.1[0],G2 f.1,f.2.1+(G1 (Du p &&& 57344):Nat),0):=by
 subst hf
 unfold Bz;rw [if_neg (by rw [h];exact A2r)];simp only [];rw [if_neg h2,if_neg (by rw [h3];simp),if_neg h4]
theorem Ay1 {a b c:Prop} [Decidable a] [Decidable b] [Decidable c] (h:((!decide a || decide b) || !decide c)=true):¬ a∨b∨¬ c:=by
 by_cases ha:a <;> by_cases hb:b <;> by_cases hc:c <;> simp_all
theorem Avx {a b c:Prop} [Decidable a] [Decidable b] [Decidable c] (h:((!decide a || decide b) || !decide c)=false):a∧¬ b∧c:=by
 by_cases ha:a <;> by_cases hb:b <;> by_cases hc:c <;> simp_all
theorem Amk (p:Pg):Du p<65536:=by unfold Du;omega
theorem Aml {n:Nat} (hn:n<65536):Et .andNot .u16 n 8191=((n &&& 57344:Nat):Int):=by
 show IntKind.u16.wrap ((BitVec.ofInt 16 (n:Int) &&& ~~~ BitVec.ofInt 16 8191).toNat:Int)=_
 rw [A14,show ~~~ BitVec.ofInt 16 8191=BitVec.ofNat 16 57344 from by decide,A3l,A2p,A2p,A31 (show n<2 ^ 16 from hn),A31 (show 57344<2 ^ 16 by decide)]
 exact Ey .u16 rfl (Nat.lt_of_le_of_lt A4l hn)
theorem Ar8 (x:Wd):IntKind.u16.wrap (x.toNat:Int)=((x.toNat % 65536:Nat):Int):=by
 rw [Em .u16 rfl,A14,A2p];rfl
theorem Ar9 (d:Dat) (c:Nat):0≤(C3 d c).2.1∧(C3 d c).2.1≤1:=by
 unfold C3
 simp only []
 split
 ·exact ⟨by simp,by simp⟩
 ·split
  ·exact ⟨by simp,by simp⟩
  ·split
   ·exact ⟨by simp,by simp⟩
   ·split <;> exact ⟨by simp,by simp⟩
end
section
open Go.K
def XS (f:Nat→Nat) (n:Nat):Nat:=(List.range n).foldl (fun s j=>s ^^^ f j) 0
theorem Tb (f:Nat→Nat) (n:Nat):XS f (n+1)=XS f n ^^^ f n:=by simp [XS,A4j]
theorem Ahe {f g:Nat→Nat}:∀ {n:Nat},(∀ j<n,g j=f j)→XS g n=XS f n
 | 0,_=>rfl
 | n+1,h=>by rw [Tb,Tb,Ahe (n:=n) (fun j hj=>h j (by omega)),h n (by omega)]
theorem Ase {f g:Nat→Nat} {d k:Nat}:∀ {n:Nat},k<n→(∀ j<n,j≠k→g j=f j)→g k=f k ^^^ d→XS g n=XS f n ^^^ d
 | 0,h,_,_=>by omega
 | n+1,h,h1,h2=>by
  rw [Tb,Tb]
  by_cases e:k=n
  ·subst e
   rw [Ahe (n:=k) (fun j hj=>h1 j (by omega) (by omega)),h2,Nat.xor_assoc]
  ·rw [Ase (n:=n) (by omega) (fun j hj hne=>h1 j (by omega) hne) h2,h1 n (by omega) (fun e'=>e e'.symm)]
   rw [Nat.xor_assoc,Nat.xor_assoc,Nat.xor_comm d]
theorem Tc {n:Nat} (v:Vector By n) {j:Nat} (h:j<n):v.toList.getD j 0=v[j]:=by simp [A00,h]
theorem Ay2 (x:Nat):x &&& 4095=x % 4096:=A0q x 12
theorem Ay3 (x:Nat):x &&& 8191=x % 8192:=A0q x 13
theorem Ay4 {x:Nat} (h:x<4096):x ||| 4096=4096+x:=by
 have:=A0w (i:=12) h 1
 rw [show 2 ^ 12*1=4096 from rfl] at this
 rw [Nat.or_comm];omega
theorem Awn:∀ s<4096,G1 (4096+s)=G1 s+1:=Ab7 (by decide +kernel)
theorem T3 (d:Dat):Gy d<4096:=Mw d 256 (A5q _)
theorem Ae5 (d:Dat):Dl d % 4096=Gy d:=by
 have h:=T3 d
 unfold Dl
 split
 ·omega
 ·rw [Ay4 h];omega
theorem Ajm (d:Dat):(Mu d+G1 (Dl d)) % 2=0:=by
 unfold Dl
 split
 ·assumption
 ·rename_i h;rw [Ay4 (T3 d),Awn _ (T3 d)];omega
theorem Amo {d:Dat} {c:Nat} (hc:c % 8192=Dl d):C3 d c=(d,0,0):=by
 have h1:c % 4096=Gy d:=by rw [← Ae5,← hc];omega
 unfold C3
 simp only []
 rw [Ay2,Ay3,h1,hc,Nat.xor_self,Ajm,if_pos ⟨rfl,rfl⟩]
theorem Ajn (a b:By):(Ec [a,b] 2).toNat=a.toNat+256*b.toNat:=by
 have e:Ec [a,b] 2=(0#64 ||| (a.setWidth 64 <<< 0)) ||| (b.setWidth 64 <<< 8):=rfl
 have ha:=a.isLt
 have hb:=b.isLt
 have h1:((a.setWidth 64:Wd) <<< 0).toNat=a.toNat:=by simp [A1t];omega
 have h2:((b.setWidth 64:Wd) <<< 8).toNat=256*b.toNat:=by
  rw [A1m,A1t,Nat.shiftLeft_eq];omega
 rw [e,A35,A35,h1,h2]
 have:=A0w (i:=8) ha b.toNat
 rw [show 2 ^ 8=256 from rfl] at this
 rw [show (0#64).toNat=0 from rfl,Nat.zero_or,Nat.or_comm]
 omega
theorem Amp (p:Pg):(p.toList.drop 256).take 2=[p[256],p[257]]:=by
 apply A26
 intro i
 rw [A2w,A2v]
 rcases i with _ | _ | i
 ·simp
 ·simp
 ·simp;omega
theorem Amq (p:Pg):Du p=p[256].toNat+256*p[257].toNat:=by
 unfold Du
 rw [Amp,Ajn]
 have:=p[256].isLt
 have:=p[257].isLt
 omega
theorem Asf:∀ a<256,(a+256*(255#8).toNat) &&& 57344=57344:=by decide +kernel
theorem K3 {p:Pg} (h:p[257]=255#8):(Bz p).2.2.2≠0:=by
 cases hb:Be p with
 | true=>rw [E7 hb];decide
 | false =>
  have hc:Du p &&& 57344=57344:=by
   rw [Amq,h]
   exact Asf _ p[256].isLt
  rw [Si hb (by rw [hc];decide)]
  simp
theorem T4 (p:Pg) (l:List Nat):∀ n,(∀ i∈l,i<n)→l.Nodup→(l.map fun i=>Hd (~~~ (p.toList.getD i 0))).sum≤K0 p n
 | 0,h,_=>by
  cases l with
  | nil=>simp
  | cons x l=>exact absurd (h x (.head _)) (by omega)
 | n+1,h,hn=>by
  rw [Ma]
  by_cases hm:n∈l
  ·have h1:=T4 p (l.erase n) n (fun i hi=>by
    have h2:=(hn.mem_erase_iff).1 hi
    have:=h i h2.2
    omega) (hn.erase n)
   have h3:(l.map fun i=>Hd (~~~ (p.toList.getD i 0))).sum=Hd (~~~ (p.toList.getD n 0))+((l.erase n).map fun i=>Hd (~~~ (p.toList.getD i 0))).sum:=by
    have:=(List.perm_cons_erase hm).map fun i=>Hd (~~~ (p.toList.getD i 0))
    rw [this.sum_nat]
    simp
   omega
  ·have:=T4 p l n (fun i hi=>by
    have:=h i hi
    rcases A5g i n with h2 | h2
    ·exact h2
    ·exact absurd (show n∈l by rwa [show n=i by omega]) hm) hn
   omega
theorem Ajo {p:Pg} (h:2≤Hd (~~~ p[0])+Hd (~~~ p[1])+Hd (~~~ p[257])):Be p=false:=by
 have:=T4 p [0,1,257] 258 (by simp) (by simp)
 simp only [A45,A5a,List.sum_cons,List.sum_nil] at this
 rw [Tc p (show 0<258 by omega),Tc p (show 1<258 by omega),Tc p (show 257<258 by omega)] at this
 unfold Be
 simp;omega
end
section
open Go.K
theorem Amr (p:Pg) {j:Nat} (h:j<256):(Ie p)[j]=p[j]:=by simp [Ie]
theorem M7 (d:Dat) {j:Nat} (h:j<256):(Ju d)[j]=d[j]:=by
 unfold Ju
 rw [Ii _ _ _ _ (by omega),if_neg (by omega),Ii _ _ _ _ (by omega),if_pos (by simp;omega),A5i,Tc d h]
theorem Ae6 (d:Dat):Ie (Ju d)=d:=by
 apply A5w
 intro j hj
 rw [Amr _ hj,M7 d hj]
theorem Ajp (d:Dat):(Ju d).toList.take 256=d.toList:=by
 apply A3r
 ·simp
 ·intro j h1 h2
  simp at h2
  rw [List.getElem_take]
  have:=M7 d h2
  simpa using this
theorem Ae7 (d:Dat):(Ju d)[256].toNat=Dl d % 256:=by
 unfold Ju
 rw [Ii _ _ _ _ (by omega),if_pos (by rw [A4];omega)]
 show ((BitVec.ofNat 64 (Dl d)).setWidth 8).toNat=_
 have:=Hk d
 rw [A1t,A2p]
 omega
theorem T5 (d:Dat):(Ju d)[257].toNat=Dl d / 256:=by
 unfold Ju
 rw [Ii _ _ _ _ (by omega),if_pos (by rw [A4];omega)]
 show (((BitVec.ofNat 64 (Dl d)) >>> 8).setWidth 8).toNat=_
 have:=Hk d
 rw [A1t,A1c,A2p,A1b]
 omega
theorem Ams (d:Dat):Du (Ju d)=Dl d:=by rw [Amq,Ae7,T5];omega
theorem Y6 {k:By} {b:List By} {j:Nat} (h:j<252):(Kz k b)[j]=(Ajj k b)[j]:=by
 unfold Kz Ay0
 rw [Ii _ _ _ _ (by omega),if_neg (by omega)]
theorem Ae8 (k:By) (b:List By):(Kz k b)[0]=k:=by
 rw [Y6 (by omega)]
 unfold Ajj
 rw [Ii _ _ _ _ (by omega),if_neg (by omega)]
 simp
theorem Ae9 (k:By) (b:List By):(Kz k b)[1]=BitVec.ofNat 8 b.length:=by
 rw [Y6 (by omega)]
 unfold Ajj
 rw [Ii _ _ _ _ (by omega),if_neg (by omega)]
 simp
theorem W6 {k:By} {b:List By} (hb:b.length≤240):G2 (Kz k b)=b:=by
 unfold G2
 have h1:((Kz k b)[1]).toNat=b.length:=by rw [Ae9,A2p];omega
 rw [h1,if_pos hb]
 apply A3r
 ·simp;omega
 ·intro j h2 h3
  rw [List.getElem_take,List.getElem_drop]
  have:(Kz k b)[2+j]=b[j]:=by
   rw [Y6 (by omega)]
   unfold Ajj
   rw [Ii _ _ _ _ (by omega),if_pos (by omega)]
   simp [A00,h3]
  simpa using this
theorem W7 {k:By} {b:List By} (h:C1 k b=false):k≠0∧k≠255#8∧b.length≤240:=by
 unfold C1 at h
 simp only [A15,A1k] at h
 refine ⟨fun e=>h.1.1 (by rw [e];rfl),fun e=>h.1.2 (by rw [e];rfl),by omega⟩
theorem Amt {p:Pg} {k:By} {b:List By} {n:Int} (hw:C1 k b=false) (hb:Be p=false) (ha:¬ 1<G1 (Du p &&& 57344)) (hf:C3 (Ie p) (Du p)=(Kz k b,n,0)):Bz p=(k,b,n+(G1 (Du p &&& 57344):Nat),0):=by
 obtain ⟨h1,h2,h3⟩:=W7 hw
 have hwr:Cy k b=(Cp k b,0):=by unfold Cy;rw [if_neg (by rw [hw];simp)]
 rw [Abw hf hb ha rfl]
 ·simp only [Ae8,W6 h3]
 ·simp only [Ae8,W6 h3,hwr]
  intro h
  rcases h with h | h | h
  ·exact h rfl
  ·rw [Ae9,A2p] at h;omega
  ·exact h (Ajp _)
theorem Asg (x:Nat) (h:x<8192):x &&& 57344=0:=by
 have:∀ b<8,∀ a<1024,(1024*b+a) &&& 57344=0:=by decide +kernel
 have h1:=this (x / 1024) (by omega) (x % 1024) (by omega)
 rwa [Nat.div_add_mod] at h1
theorem Amu:∀ b:By,b≠255#8→1≤Hd (~~~ b):=Qu (by decide +kernel)
theorem Awo:∀ b:By,b.toNat<32→3≤Hd (~~~ b):=Qu (by decide +kernel)
theorem Afa {k:By} {b:List By} (hw:C1 k b=false):1≤Hd (~~~ (Cp k b)[0])∧1≤Hd (~~~ (Cp k b)[1])∧3≤Hd (~~~ (Cp k b)[257]):=by
 obtain ⟨h1,h2,h3⟩:=W7 hw
 refine ⟨Amu _ ?_,Amu _ ?_,Awo _ ?_⟩
 ·rw [show (Cp k b)[0]=(Kz k b)[0] from M7 _ (by omega),Ae8];exact h2
 ·rw [show (Cp k b)[1]=(Kz k b)[1] from M7 _ (by omega),Ae9]
  intro e
  have:=A52 BitVec.toNat e
  rw [A2p] at this
  have e2:(255#8).toNat=255:=rfl
  omega
 ·rw [show (Cp k b)[257].toNat=Dl (Kz k b) / 256 from T5 _]
  have:=Hk (Kz k b)
  omega
theorem Iu {k:By} {b:List By} (hw:C1 k b=false):Bz (Cp k b)=(k,b,0,0):=by
 obtain ⟨z1,z2,z3⟩:=Afa hw
 have hc:Du (Cp k b)=Dl (Kz k b):=Ams _
 have ht:Du (Cp k b) &&& 57344=0:=by rw [hc];exact Asg _ (Hk _)
 rw [Amt hw (Ajo (by omega)) (by rw [ht];decide) (n:=0),ht]
 ·rfl
 ·rw [show Ie (Cp k b)=Kz k b from Ae6 _,hc]
  exact Amo (A31 (Hk _))
end
section
open Go.K
def Fe (b:Int):By:=BitVec.ofInt 8 b
def F8 (v:Wd) (blocks:Int) (uses lost:List Int):List By :=
 B4 8 v++(L3 1 [BitVec.ofInt 64 blocks,BitVec.ofInt 64 (uses.length:Int),BitVec.ofInt 64 (lost.length:Int)]++(uses.map Fe++(lost.map Fe++[])))
def Ed (v:Wd) (blocks:Int) (uses lost:List Int):Pg:=(Cy 1 (F8 v blocks uses lost)).1
def Oq (b:By):Int:=(b.toNat:Int)
def Ot (body:List By) (blocks:Int):List Int×List Int×Wd×Bool :=
 let a:=C2 8 body false
 let b:=C2 1 a.2.1 a.2.2
 if w64 (b.1.toNat:Int)≠blocks then ([],[],0,false) else
 let n:=C2 1 b.2.1 b.2.2
 let m:=C2 1 n.2.1 n.2.2
 let u:=C4 (max (w64 (n.1.toNat:Int)) 0).toNat m.2.1 m.2.2
 let l:=C4 (max (w64 (m.1.toNat:Int)) 0).toNat u.2.1 u.2.2
 (u.1.map Oq,l.1.map Oq,a.1,(!l.2.2 && decide ((l.2.1.length:Int)=0)) && decide (w64 (n.1.toNat:Int)=w64 (w64 (blocks - 2) - 4)))
theorem Alp {body:List By} {blocks:Int} {a b:Wd×List By×Bool} (ha:a=C2 8 body false) (hb:b=C2 1 a.2.1 a.2.2) (h:¬ w64 (b.1.toNat:Int)=blocks):Ot body blocks=([],[],0,false):=by
 subst hb;subst ha;unfold Ot;simp only [];rw [if_pos h]
theorem V0 {body:List By} {blocks:Int} {a b n m:Wd×List By×Bool} {u l:List By×List By×Bool} (ha:a=C2 8 body false) (hb:b=C2 1 a.2.1 a.2.2) (h:w64 (b.1.toNat:Int)=blocks)
  (hn:n=C2 1 b.2.1 b.2.2) (hm:m=C2 1 n.2.1 n.2.2) (hu:u=C4 (max (w64 (n.1.toNat:Int)) 0).toNat m.2.1 m.2.2) (hl:l=C4 (max (w64 (m.1.toNat:Int)) 0).toNat u.2.1 u.2.2) :
  Ot body blocks=(u.1.map Oq,l.1.map Oq,a.1,(!l.2.2 && decide ((l.2.1.length:Int)=0)) && decide (w64 (n.1.toNat:Int)=w64 (w64 (blocks - 2) - 4))):=by
 subst hl;subst hu;subst hm;subst hn;subst hb;subst ha;unfold Ot;simp only [];rw [if_neg (by rw [h];simp)]
def Dm (q:Pg) (blocks:Int):List Int×List Int×Wd×Bool :=
 let f:=Bz q
 if f.2.2.2≠0∨f.1≠1 then ([],[],0,false) else
 Ot f.2.1 blocks
structure TS where
 uses:List Int
 lost:List Int
 version:Wd
 area:Int
 next:Int
 at':Int
deriving DecidableEq
def Hq (c:Chip) (a i:Int) (q:Pg):Int:=if B9 c a i=0∧Bp c a i≠q then 33 else B9 c a i
def Fq (c:Chip) (a i:Int) (q:Pg):Int:=if (Bq c a i q).1=0 then Hq (Bq c a i q).2 a i q else (Bq c a i q).1
def F9:Nat→Chip→Int→Int→Pg→Int×Int×Chip
 | 0,c,_,_,_=>(8,34,c)
 | f+1,c,a,i,q=>if Fq c a i q≠32∧Fq c a i q≠33 then (i+1,Fq c a i q,(Bq c a i q).2) else F9 f (Bq c a i q).2 a (i+1) q
def Gt (c:Chip) (a i:Int) (q:Pg):Int×Int×Chip:=F9 (8 - i).toNat c a i q
theorem Rx {c:Chip} {a i:Int} {q:Pg} (hi:i<8) (he:Fq c a i q≠32∧Fq c a i q≠33):Gt c a i q=(i+1,Fq c a i q,(Bq c a i q).2):=by
 unfold Gt
 rw [show (8 - i).toNat=(8 - (i+1)).toNat+1 by omega,F9]
 rw [if_pos he]
theorem Aiy {c:Chip} {a i:Int} {q:Pg} (hi:i<8) (he:¬ (Fq c a i q≠32∧Fq c a i q≠33)):Gt c a i q=Gt (Bq c a i q).2 a (i+1) q:=by
 unfold Gt
 rw [show (8 - i).toNat=(8 - (i+1)).toNat+1 by omega,F9]
 rw [if_neg he]
theorem V3 {c:Chip} {a i:Int} {q:Pg} (hi:¬ i<8):Gt c a i q=(8,34,c):=by
 unfold Gt
 rw [show (8 - i).toNat=0 by omega,F9]
theorem Fn (c:Chip) (i j:Int) (d:Pg):(Bq c i j d).2.aC=c.aC:=by
 unfold Bq
 split
 ·split
  ·rfl
  ·split
   ·simp only []
    split
    ·rfl
    ·split <;> rfl
   ·rfl
 ·rfl
theorem H4 (c:Chip) (i:Int):(Bs c i).2.aC=c.aC:=by
 unfold Bs
 split
 ·split
  ·rfl
  ·simp only []
   split
   ·rfl
   ·split <;> rfl
 ·rfl
theorem Aec (a:Int) (q:Pg):∀ (f:Nat) (c:Chip) (i:Int),(F9 f c a i q).2.2.aC=c.aC
 | 0,c,i=>rfl
 | f+1,c,i=>by
  unfold F9
  split
  ·exact Fn c a i q
  ·rw [Aec a q f,Fn]
theorem Aau (c:Chip) (a i:Int) (q:Pg):(Gt c a i q).2.2.aC=c.aC:=Aec a q _ c i
theorem Aed (a:Int) (q:Pg):∀ (f:Nat) (c:Chip) (i:Int),0≤i→i+f≤8→0≤(F9 f c a i q).1∧(F9 f c a i q).1≤8
 | 0,c,i,h,_=>⟨by unfold F9;simp,by unfold F9;simp⟩
 | f+1,c,i,h,h8=>by
  unfold F9
  split
  ·simp only;omega
  ·exact Aed a q f _ (i+1) (by omega) (by omega)
theorem Aav (c:Chip) (a i:Int) (q:Pg) (h:0≤i):0≤(Gt c a i q).1∧(Gt c a i q).1≤8:=by
 rcases Int.le_total i 8 with h8 | h8
 ·exact Aed a q _ c i h (by omega)
 ·rw [V3 (by omega)];simp
structure KS where
 area:Int
 next:Int
 e:Int
 c:Chip
def G8 (a:Int) (q:Pg) (s:KS):KS :=
 let r:=Bs s.c (1 - a)
 if r.1=0 then ⟨1 - a,(Gt r.2 (1 - a) 0 q).1,(Gt r.2 (1 - a) 0 q).2.1,(Gt r.2 (1 - a) 0 q).2.2⟩ else if r.1=33 then ⟨1 - a,s.next,s.e,r.2⟩ else ⟨1 - a,s.next,r.1,r.2⟩
def Dh:Nat→Int→Pg→KS→KS
 | 0,_,_,s=>s
 | f+1,a,q,s=>if s.e=34 then Dh f a q (G8 a q s) else s
def Fs (t:TS) (uses lost:List Int) (c:Chip):KS :=
 let q:=Ed (t.version+1) c.blocks.length uses lost
 let p:=Gt c t.area t.next q
 Dh 4 t.area q ⟨t.area,p.1,p.2.1,p.2.2⟩
def Bw (t:TS) (uses lost:List Int) (c:Chip):Int×TS×Chip :=
 let s:=Fs t uses lost c
 if s.e≠0 then (s.e,t,s.c) else (0,⟨uses,lost,t.version+1,s.area,s.next,s.next - 1⟩,s.c)
theorem Qg (a:Int) (q:Pg) (s:KS):(G8 a q s).c.aC=s.c.aC:=by
 unfold G8
 simp only []
 split
 ·rw [Aau,H4]
 ·split <;> exact H4 _ _
theorem Qh {a:Int} {q:Pg} {s:KS} (h:0≤s.next∧s.next≤8):0≤(G8 a q s).next∧(G8 a q s).next≤8:=by
 unfold G8
 simp only []
 split
 ·exact Aav _ _ _ _ (A5p 0)
 ·split <;> exact h
structure Sc where
 last:Int
 uses:List Int
 lost:List Int
 newest:Wd
 at':Int
 any:Bool
def Ja (c:Chip) (a:Int) (i:Nat) (s:Sc):Sc :=
 let q:=Bp c a i
 let last:=if Be q=true then s.last else (i:Int)+1
 let r:=Dm q c.blocks.length
 if (r.2.2.2 && (!s.any || decide ((s.newest.toNat:Int)≤r.2.2.1.toNat)))=true then ⟨last,r.1,r.2.1,r.2.2.1,i,true⟩ else { s with last:=last }
def Ca (c:Chip) (a:Int):Nat→Sc
 | 0=>⟨0,[],[],0,0,false⟩
 | i+1=>Ja c a i (Ca c a i)
def ts0:TS:=⟨[],[],0,0,0,0⟩
def Jb (c:Chip) (a:Nat) (t:TS×Bool):TS×Bool :=
 let s:=Ca c a 8
 if (s.any && (!t.2 || decide ((t.1.version.toNat:Int)<s.newest.toNat)))=true then (⟨s.uses,s.lost,s.newest,a,s.last,s.at'⟩,true) else t
def C6 (c:Chip):Nat→TS×Bool
 | 0=>(ts0,false)
 | a+1=>Jb c a (C6 c a)
def Dk (c:Chip):Int×TS :=
 if B9 c 0 0≠0 then (B9 c 0 0,ts0) else if (C6 c 2).2=true then (0,(C6 c 2).1) else (35,ts0)
def Jh (c:Chip) (b:Int):Bool:=Ex c b && X6 c b
def Fx (c:Chip) (size:Int):Nat→List Int×List Int
 | 0=>([],[])
 | i+1 =>
  let s:=Fx c size i
  if Jh c i=true then (s.1,s.2++[(i:Int)]) else if (decide (2≤(i:Int)) && decide ((s.1.length:Int)<size))=true then (s.1++[(i:Int)],s.2) else s
def Ff (c:Chip):Wd×Int×Int:=if (Dk c).1=0 then ((Dk c).2.version,(Dk c).2.area,(Dk c).2.next) else (0,0,0)
def Dr (c:Chip):Int:=w64 (w64 ((c.blocks.length:Int) - 2) - 4)
def D1 (c:Chip):TS:=⟨(Fx c (Dr c) c.blocks.length).1,(Fx c (Dr c) c.blocks.length).2,(Ff c).1,(Ff c).2.1,(Ff c).2.2,0⟩
def Ic (c:Chip):Bool:=(Jh c 0 || Jh c 1) || decide (((D1 c).uses.length:Int)<Dr c)
def Cw (c:Chip):Int×TS×Chip :=
 if B9 c 0 0≠0 then (B9 c 0 0,ts0,c) else
 if Ic c=true then (34,ts0,c) else
 if (Bw (D1 c) (D1 c).uses (D1 c).lost c).1≠0 then ((Bw (D1 c) (D1 c).uses (D1 c).lost c).1,ts0,(Bw (D1 c) (D1 c).uses (D1 c).lost c).2.2) else Bw (D1 c) (D1 c).uses (D1 c).lost c
theorem Yw (c:Chip) (a:Int):∀ i,0≤(Ca c a i).last∧(Ca c a i).last≤i
 | 0=>by simp [Ca]
 | i+1=>by
  have ih:=Yw c a i
  show 0≤(Ja c a i (Ca c a i)).last∧_
  have:(Ja c a i (Ca c a i)).last=if Be (Bp c a i)=true then (Ca c a i).last else (i:Int)+1:=by unfold Ja;simp only [];split <;> rfl
  show 0≤(Ja c a i (Ca c a i)).last∧(Ja c a i (Ca c a i)).last≤_
  rw [this]
  split <;> omega
theorem Sx (c:Chip):∀ k,k≤2→(0≤(C6 c k).1.area∧(C6 c k).1.area≤1)∧0≤(C6 c k).1.next∧(C6 c k).1.next≤8
 | 0,_=>by simp [C6,ts0]
 | k+1,h=>by
  have ih:=Sx c k (by omega)
  have hl:=Yw c k 8
  show (0≤(Jb c k (C6 c k)).1.area∧(Jb c k (C6 c k)).1.area≤1)∧0≤(Jb c k (C6 c k)).1.next∧(Jb c k (C6 c k)).1.next≤8
  unfold Jb
  simp only []
  split
  ·simp only;omega
  ·exact ih
theorem V4 (c:Chip):(0≤(Ff c).2.1∧(Ff c).2.1≤1)∧0≤(Ff c).2.2∧(Ff c).2.2≤8:=by
 unfold Ff
 split
 ·unfold Dk
  split
  ·simp [ts0]
  ·split
   ·exact Sx c 2 (A5q _)
   ·simp [ts0]
 ·simp
theorem V5 (c:Chip) (size:Int):∀ i,(Fx c size i).1.length≤i∧(Fx c size i).2.length≤i
 | 0=>by simp [Fx]
 | i+1=>by
  have ih:=V5 c size i
  unfold Fx
  simp only []
  split
  ·simp;omega
  ·split
   ·simp;omega
   ·omega
def D8 (t:TS) (n:Int) (b:Int):Bool:=((decide (2≤b) && decide (b<n)) && !E4 t.uses b) && !E4 t.lost b
def Lp (t:TS) (n:Nat):Option Nat:=(List.range n).find? fun b=>D8 t n b
def atT (t:TS) (l:Int):Int×Bool:=if (decide (l<0) || decide ((t.uses.length:Int)≤l))=true then (0,false) else (at0 t.uses l,true)
def Bi (t:TS) (n:Nat):Int×Bool:=match Lp t n with | some b=>((b:Int),true) | none=>(0,false)
theorem Aee {t:TS} {n i:Nat} (hi:i<n) (hn:∀ k<i,D8 t n k=false) (h:D8 t n i=true):Bi t n=((i:Int),true):=by
 have:Lp t n=some i:=by
  unfold Lp
  rw [List.find?_eq_some_iff_append]
  refine ⟨h,List.range i,(List.range' (i+1) (n - i - 1)),?_,fun x hx=>by rw [hn x (A4v.1 hx)];rfl⟩
  apply A3r
  ·simp;omega
  ·intro j h1 h2
   rw [List.getElem_range]
   by_cases hj:j<i
   ·rw [A1e (by simpa using hj)];simp
   ·by_cases hj2:j=i
    ·subst hj2;rw [A09 (by simp)];simp
    ·rw [A09 (by simp;omega)]
     simp only [A3b]
     rw [List.getElem_cons]
     rw [dif_neg (by omega),List.getElem_range']
     omega
 unfold Bi;rw [this]
theorem Agx {t:TS} {n:Nat} (hn:∀ k<n,D8 t n k=false):Bi t n=(0,false):=by
 have:Lp t n=none:=by
  unfold Lp
  rw [List.find?_eq_none]
  intro x hx
  rw [hn x (A4v.1 hx)];simp
 unfold Bi;rw [this]
theorem Aqs {c:Chip} {a i:Int} (hb:2≤c.blocks.length) (ha:0≤a∧a<2) (hi:0≤i∧i<8):B9 c a i=B9 c 0 0:=by
 have h:∀ a i:Int,0≤a∧a<2→0≤i∧i<8→((!Ex c a || decide (i<0)) || decide (8≤i))=false:=by
  intro a i ha hi
  have h1:Ex c a=true:=by unfold Ex;simp;omega
  have h2:¬ i<0:=by omega
  have h3:¬ 8≤i:=by omega
  simp [h1,h2,h3]
 unfold B9
 rw [h a i ha hi,h 0 0 (by omega) (by omega)]
end
section
open Go.K
theorem Ik:Be Ar=true:=by kernel_rfl
theorem Aoe {p:Pg} (h:Be p=true):Bz p=(0,[],0,20):=E7 h
theorem Aof {p:Pg} {n:Int} (h:Be p=true):Dm p n=([],[],0,false):=by
 unfold Dm
 simp only [Aoe h]
 rw [if_pos (by simp)]
theorem Oi {c:Chip} {a:Int}:∀ i,(∀ j<i,Be (Bp c a (j:Nat))=true)→Ca c a i=⟨0,[],[],0,0,false⟩
 | 0,_=>rfl
 | i+1,h=>by
  have ih:=Oi i (fun j hj=>h j (by omega))
  have hb:=h i (by omega)
  show Ja c a i (Ca c a i)=_
  rw [ih]
  unfold Ja
  simp only [Aof hb,hb,if_true]
  rfl
theorem Afv {c:Chip} (hm:B9 c 0 0=0) (h:∀ a<2,∀ j<8,Be (Bp c (a:Nat) (j:Nat))=true):Dk c=(35,ts0):=by
 have h0:=Oi 8 (h 0 (by omega))
 have h1:=Oi 8 (h 1 (by omega))
 have e1:C6 c 1=(ts0,false):=by
  show Jb c 0 (C6 c 0)=_
  unfold Jb
  simp only [h0]
  rfl
 have e2:C6 c 2=(ts0,false):=by
  show Jb c 1 (C6 c 1)=_
  rw [e1]
  unfold Jb
  simp only [h1]
  rfl
 unfold Dk
 rw [if_neg (by rw [hm];simp),if_neg (by rw [e2];simp)]
section
variable {after keep:Int} {aP aC aB n:Nat} {bad:List Int}
abbrev Ds (after keep:Int) (aP aC aB n:Nat) (bad:List Int):Chip:=Py false after keep aP aC aB n bad
theorem Ho:(Ds after keep aP aC aB n bad).blocks.length=n:=Rl n bad n
theorem X2 {i:Int} (h:0≤i∧i<n):Ex (Ds after keep aP aC aB n bad) i=true:=by
 unfold Ex;rw [Ho];simp;omega
theorem Zy {i j:Int} (h:0≤i∧i<n) (hj:0≤j∧j<8):B9 (Ds after keep aP aC aB n bad) i j=0:=by
 unfold B9
 rw [X2 h,if_neg (by simp [Ds,Py]),if_neg (by simp [Ds,Py]),if_neg (by simp;omega)]
theorem Iq {i:Nat} (h:i<n):(Ds after keep aP aC aB n bad).blocks[i]? =some (Hb (E4 bad i)):=by
 show (Gx n bad n)[i]? =_
 simp [Gx,h]
theorem Atb {b:Bool} {k:Nat} (h:k<8):(Hb b).pages.toList.getD k Km=Ar:=by
 unfold Hb
 rw [show (Vector.replicate 8 Ar).toList=List.replicate 8 Ar from Vector.toList_replicate,A00,List.getElem?_replicate,if_pos h]
 rfl
theorem Aog {i j:Int} (h:0≤i∧i<n) (hj:0≤j∧j<8):Bp (Ds after keep aP aC aB n bad) i j=Ar:=by
 unfold Bp
 rw [if_pos (Zy h hj)]
 unfold Rk
 rw [Iq (show i.toNat<n by omega)]
 have hlt:j.toNat<8:=by omega
 exact Atb hlt
theorem Ac4 (h:2≤n):Dk (Ds after keep aP aC aB n bad)=(35,ts0) :=
 Afv (Zy (by omega) (by omega)) (fun a ha j hj=>by rw [Aog (by omega) (by omega)];exact Ik)
theorem Pu {i:Int} (h:0≤i∧i<n):Jh (Ds after keep aP aC aB n bad) i=E4 bad i:=by
 unfold Jh X6
 rw [X2 h,Iq (show i.toNat<n by omega),show ((i.toNat:Nat):Int)=i by omega]
 rfl
end
structure Good (c:Chip):Prop where
 off:c.off=false
 after:c.after<0
 dead:c.dead=false
 out:c.out=false
 pf:c.pf.list=[]
 wf:c.wf.list=[]
theorem Afw (d:Pg):Ck 258 Ar d=d:=by
 apply A5w
 intro j hj
 have e:(Ck 258 Ar d)[j]=Ar[j] &&& d[j]:=by simp [Ck,hj]
 have b:Ar[j]=BitVec.allOnes 8:=by
  unfold Ar
  rw [Vector.getElem_replicate]
  decide
 rw [e,b,BitVec.allOnes_and]
theorem Afx {c:Chip} (h1:c.off=false) (h2:c.dead=false) (h3:c.out=false) {i j:Int} (hi:0≤i∧i<c.blocks.length) (hj:0≤j∧j<8):B9 c i j=0:=by
 unfold B9
 have:Ex c i=true:=by unfold Ex;simp;omega
 rw [this,h1,h2,h3]
 simp;omega
theorem Atc (v:Int):E4 [] v=false:=rfl
def prg (c:Chip) (i j:Nat) (d:Pg) (b:Blk):Chip:=Gn (S6 (cnt c)) i ⟨b.pages.setIfInBounds j d,(j:Int)+1,b.bad⟩
theorem Akh {c:Chip} (h:c.after<0):Fp c=c:=by
 unfold Fp
 rw [if_pos h,if_pos h]
theorem Aki {c:Chip} (g:Good c) {i j:Nat} {d:Pg} {b:Blk} (hb:c.blocks[i]? =some b) (hj:j<8) (hn:b.next=j) (hbad:b.bad=false) (hp:b.pages[j]=Ar):Bq c i j d=(0,prg c i j d b):=by
 have hi:i<c.blocks.length:=(A08.1 hb).1
 have hm:B9 c i j=0:=Afx g.off g.dead g.out (by omega) (by omega)
 have he:El c=false:=by unfold El;rw [if_pos g.after]
 have hf:(Ly c || b.bad)=false:=by unfold Ly;rw [g.pf,Atc,hbad];rfl
 rw [Z3 (b:=b) hm (by simpa using hj) (by simpa using hb) hn.symm he hf]
 have e:wrB { b with next:=w64 (b.next+1) } (j:Int).toNat 258 d (by simpa using hj)=⟨b.pages.setIfInBounds j d,(j:Int)+1,b.bad⟩:=by
  have e1:w64 (b.next+1)=(j:Int)+1:=by rw [hn];exact Cz (by omega)
  have e2:Ck 258 b.pages[j] d=d:=by rw [hp];exact Afw d
  show I7 { b with next:=w64 (b.next+1) } j (Ck 258 b.pages[j] d)=_
  rw [e2,e1]
  rfl
 unfold wrC
 rw [Akh (by exact g.after),e]
 rfl
theorem Ah2 (c:Chip) (i j:Nat) (d:Pg) (b:Blk):(prg c i j d b).blocks.length=c.blocks.length:=by simp [prg,Gn,S6,cnt]
theorem Aoh {c:Chip} (g:Good c) (i j:Nat) (d:Pg) (b:Blk):Good (prg c i j d b):=⟨g.off,g.after,g.dead,g.out,g.pf,g.wf⟩
theorem U5 {c:Chip} {i j:Nat} {d:Pg} {b:Blk} (hi:i<c.blocks.length):(prg c i j d b).blocks[i]? =some ⟨b.pages.setIfInBounds j d,(j:Int)+1,b.bad⟩:=by
 simp [prg,Gn,S6,cnt,hi]
theorem Ri {c:Chip} {i k j:Nat} {d:Pg} {b:Blk} (h:i≠k):(prg c i j d b).blocks[k]? =c.blocks[k]? :=by
 simp [prg,Gn,S6,cnt,A16 h]
theorem Pv {c:Chip} {i j:Nat} {b:Blk} (hm:B9 c i j=0) (hb:c.blocks[i]? =some b) (hj:j<8):Bp c i j=b.pages[j]:=by
 unfold Bp Rk
 rw [if_pos hm,A24,hb]
 simp [A00,hj]
theorem Aoi {c:Chip} (g:Good c) {i j:Nat} {d:Pg} {b:Blk} (hb:c.blocks[i]? =some b) (hj:j<8) (hn:b.next=j) (hbad:b.bad=false) (hp:b.pages[j]=Ar):Gt c i j d=((j:Int)+1,0,prg c i j d b):=by
 have hi:i<c.blocks.length:=(A08.1 hb).1
 have hpr:=Aki g hb hj hn hbad hp (d:=d)
 have g':=Aoh g i j d b
 have hm':B9 (prg c i j d b) i j=0:=Afx g'.off g'.dead g'.out (by rw [Ah2];omega) (by omega)
 have hs:Fq c i j d=0:=by
  unfold Fq
  rw [hpr,if_pos rfl]
  unfold Hq
  rw [Pv hm' (U5 hi) hj]
  simp [hm']
 rw [Rx (by omega) (by rw [hs];decide),hs,hpr]
theorem Akj {c:Chip} (g:Good c) {t:TS} {uses lost:List Int} {i j:Nat} {b:Blk} (ha:t.area=i) (hn':t.next=j) (hb:c.blocks[i]? =some b) (hj:j<8) (hn:b.next=j) (hbad:b.bad=false) (hp:b.pages[j]=Ar) :
  Bw t uses lost c=(0,⟨uses,lost,t.version+1,i,(j:Int)+1,j⟩,prg c i j (Ed (t.version+1) c.blocks.length uses lost) b):=by
 have hp:=Aoi g hb hj hn hbad hp (d:=Ed (t.version+1) c.blocks.length uses lost)
 have hk:Fs t uses lost c=⟨i,(j:Int)+1,0,prg c i j (Ed (t.version+1) c.blocks.length uses lost) b⟩:=by
  unfold Fs
  simp only [ha,hn',hp]
  rfl
 unfold Bw
 simp only [hk]
 rw [if_neg (by simp)]
 congr 2
 congr 1
 omega
section
variable {after keep:Int} {aP aC aB n:Nat} {bad:List Int}
theorem Aoj (ha:after<0):Good (Ds after keep aP aC aB n bad):=⟨rfl,ha,rfl,rfl,rfl,rfl⟩
theorem Aok (h:2≤n):Ff (Ds after keep aP aC aB n bad)=(0,0,0):=by
 unfold Ff;rw [Ac4 h,if_neg (by decide)]
theorem Oj (ha:after<0) (h:2≤n) (hb:Ic (Ds after keep aP aC aB n bad)=false):∃ c',Cw (Ds after keep aP aC aB n bad)=(0,⟨(D1 (Ds after keep aP aC aB n bad)).uses,(D1 (Ds after keep aP aC aB n bad)).lost,1,0,1,0⟩,c') ∧
  c'=prg (Ds after keep aP aC aB n bad) 0 0 (Ed 1 n (D1 (Ds after keep aP aC aB n bad)).uses (D1 (Ds after keep aP aC aB n bad)).lost) (Hb false):=by
 have hbad:E4 bad 0=false:=by
  have:=hb
  unfold Ic at this
  rw [Pu (by omega)] at this
  simp at this
  exact this.1.1
 have hblk:=Iq (after:=after) (keep:=keep) (aP:=aP) (aC:=aC) (aB:=aB) (n:=n) (bad:=bad) (i:=0) (by omega)
 rw [show E4 bad ((0:Nat):Int)=false from hbad] at hblk
 have hf:=Aok (after:=after) (keep:=keep) (aP:=aP) (aC:=aC) (aB:=aB) (bad:=bad) h
 have hk:=Akj (Aoj (keep:=keep) (aP:=aP) (aC:=aC) (aB:=aB) (n:=n) (bad:=bad) ha) (t:=D1 (Ds after keep aP aC aB n bad)) (uses:=(D1 (Ds after keep aP aC aB n bad)).uses) (lost:=(D1 (Ds after keep aP aC aB n bad)).lost) (i:=0) (j:=0) (by show (Ff _).2.1=_;rw [hf];rfl) (by show (Ff _).2.2=_;rw [hf];rfl) hblk (by omega) rfl rfl (by simp [Hb])
 have hv:(D1 (Ds after keep aP aC aB n bad)).version=0:=by show (Ff _).1=_;rw [hf]
 rw [hv,Ho] at hk
 refine ⟨_,?_,rfl⟩
 unfold Cw
 rw [if_neg (by rw [Zy (by omega) (by omega)];simp),if_neg (by rw [hb];simp),if_neg (by rw [hk];simp),hk]
 rfl
theorem Akk (c:Chip):(D1 c).uses=(Fx c (Dr c) c.blocks.length).1:=rfl
theorem Akl (c:Chip):(D1 c).lost=(Fx c (Dr c) c.blocks.length).2:=rfl
end
end
end Go.Proofs.YtpmojdippdlcaaaGreatDoor
