/- For every input, the program's store tells the view with the greatest number of those that were noted (lemmas of the proof); the conditions are the statement's own: part 1. -/
import Derived.Test.YtpmojdippdlcaaaGreatDoorJ0
import Derived.Laws.Externs
import Derived.Sort.Row
import Derived.Sort.Grow
import Derived.RangeFuncLeaves
import Derived.Lib.SlBytesConst
import Derived.ProofKit
import Derived.OpenShut
import Derived.ChangeArms
import Derived.Test.YtpmojdippdlcaaaGreatDoorRows
set_option linter.unusedVariables false
set_option linter.unusedSimpArgs false
set_option maxRecDepth 100000
set_option maxHeartbeats 1000000
namespace Go.K
section
open Go Go.Sem
set_option linter.unusedSectionVars false
theorem Jo {w:World} {b:Nat} {o o':Obj} {H K:Hp} (h:HpOk H w) (hu:Upd b o o' H K) (h1:∀ c T f,o≠.cells c T f) (h2:∀ c T f,o'≠.cells c T f):Trk w (w.putObj b o') H K :=
 R6 h hu (fun i s=>by
  have hlt:=h.lt hu.mem
  have e1:=h.here _ hu.mem
  simp only at e1
  have e2:(Cq w b o').heap[b]? =some o':=by simp [Cq,hlt]
  unfold World.frozen?
  simp only [e1,e2]
  cases o <;> first | exact absurd rfl (h1 _ _ _) | (cases o' <;> first | exact absurd rfl (h2 _ _ _) | rfl))
theorem Jp {w:World} {H:Hp} (h:HpOk H w) {o:Obj} (h1:∀ c T f,o≠.cells c T f):Trk w (w.alloc o) H ((w.heap.size,true,o)::H) :=
 X1 h (fun i s=>by
  unfold World.frozen?
  simp only [Array.getElem?_push_size]
  cases o <;> first | exact absurd rfl (h1 _ _ _) | rfl)
section
variable {P:Program} {n:Nat} {E:Env} {H:Hp} {Q:Dr} {ops:Array Oper} {rest:List Oper}
def SY [rg:Rg] (P:Program) (n:Nat) (ops:Array Oper) (l:List Oper) (E:Env) (H:Hp) (Q:Dr):Prop :=
 ∀ a w,EnvOk E a→a.tmps.size=n→a.defers=rg.ds→HpOk H w→wpListIn Rg.F 0 P ops (Up n w H Q) l a w
theorem P5 [rg:Rg] {id:Nat} {l:List Oper} (Y:List (Nat×Nat)) (hY:Ak9 l Y=true) (h:∀ ops,Yok ops Y→SY P n ops l E H Q):SC P n (.region id l.toArray false) E H Q:=by
 intro a w h1 h2 h3 h4 _
 refine wpIn_region_lit (h _ ?_ a w h1 h2 h3 h4)
 intro j d hm
 have:=A00.1 hY (j,d) hm
 simpa using this
theorem Afg [rg:Rg] (h:Q .normal E H):SY P n ops [] E H Q:=fun a w h1 h2 h3 h4=>⟨E,H,h1,h2,h3,Trk.refl h4,h⟩
theorem y_app [rg:Rg] {l x:List Oper} (y:List Oper) (hl:l=x++y) (hn:rg.rd.isSome=true→x.all Sz=true) (h:SO P n ops x E H (fun e E' H'=>e= .normal∧SY P n ops y E' H' Q)):SY P n ops l E H Q:=by
 intro a w h1 h2 h3 h4
 subst hl
 refine N5 y (Q:=Up n w H (fun e E' H'=>e= .normal∧SY P n ops y E' H' Q)) ?_ ?_ x a w hn (h a w h1 h2 h3 h4)
 ·rintro a' w' ⟨E',H',k1,k2,k3,k4,_,k5⟩
  have:=k5 a' w' k1 k2 k3 k4.ok
  exact wpListIn_post (fun e a w hu=>hu.after k4) _ _ _ this
 ·rintro e a' w' he ⟨E',H',k1,k2,k3,k4,k5,_⟩
  exact he k5
where
 wpListIn_post {F:Fence} {m:Nat} {q q':Exit→Act→World→Prop} (hq:∀ e a w,q e a w→q' e a w):∀ (l:List Oper) (a:Act) (w:World),wpListIn F m P ops q l a w→wpListIn F m P ops q' l a w
  | [],a,w,h=>hq _ _ _ h
  | o::l,a,w,h=>by
   simp only [wpListIn] at h ⊢
   split
   ·rename_i hw
    rw [A25 hw] at h
    refine ⟨h.1,?_⟩
    have h2:=h.2
    have hk:∀ a w,wpListIn F m P ops q l a w→wpListIn F m P ops q' l a w:=wpListIn_post hq l
    generalize (o.semAt F.round a.eval).run P w=x at h2 ⊢
    cases x with
    | ok x w2 =>
     cases x <;> simp only [Oper.uponIn] at h2 ⊢
     case enter=>exact ⟨h2.1,CallsIn.mono h2.2 fun e w' hh=>by cases e <;> first | exact hk _ _ hh | exact hq _ _ _ hh | exact let ⟨a,w,hh⟩:=hh;⟨a,w,hq .outgrown a w hh⟩⟩
     case round=>exact ⟨h2.1,RoundIn.mono h2.2 fun e w' hh=>by cases e <;> first | exact hk _ _ hh | exact hq _ _ _ hh | exact let ⟨a,w,hh⟩:=hh;⟨a,w,hq .outgrown a w hh⟩⟩
     case row=>exact ⟨h2.1,RowsIn.mono h2.2 fun _ _ hh=>hk _ _ hh⟩
     all_goals first | exact hk _ _ h2 | exact h2.elim
    | halt x w2=>cases x <;> simp only [Oper.uponIn] at h2 ⊢ <;> first | exact hq _ _ _ h2 | exact h2
   ·rename_i hw
    rw [A26 hw] at h
    exact ⟨h.1,wpListIn_post hq l _ _ h.2⟩
theorem Lm [rg:Rg] {l:List Oper} (k:Nat) (h:SO P n ops (l.take k) E H (fun e E' H'=>e= .normal∧SY P n ops (l.drop k) E' H' Q)) (hn:rg.rd.isSome=true→(l.take k).all Sz=true:=by intro e;cases e):SY P n ops l E H Q :=
 y_app (l.drop k) (Aze k l).symm hn h
theorem As6 [rg:Rg] {l:List Oper} {F:Env} (hk:Keep E F) (h:SY P n ops l F H Q):SY P n ops l E H Q:=fun a w h1 h2 h3 h4=>h a w (hk.ok h1) h2 h3 h4
def Rnd (P:Program) (l:Nat) (f:FuncId) (tmps:Array Value) (asg bd:Code) (L:Hp) (R:Value→Hp→Prop):Prop :=
 ∀ w,HpOk L w→RoundIn Fence.wide 0 P l f tmps asg bd w fun e w'=>∃ v L',e= .returned v∧R v L'∧Trk w w' L L'
def F9 (r:Loop) (args:List Value):Array Value:=(r.params.zip args.toArray).foldl (fun tmps (t,a)=>tmps.setIfInBounds t a) r.tmps
theorem X2 [rg:Rg] {d l:Nat} {x:Operand} {xs:List Operand} {ts:Array TypeId} {ty:TypeId} {pos:A24} {af:Array Edge} {gd:Option (Nat×Bool)} {args:List Value} {r:Loop} {L F:Hp} {R:Value→Hp→Prop} {Y:List (Nat×Nat)} (yk:Yok ops Y)
  (hgd:gOk E Y gd=true) (hg:ev E x=some (.func (.yield l) #[] #[])) (hx:evl E xs=some args) (hz:args.length=r.params.size) (hs:Split H ((l,true,.loop r)::L) F)
  (hr:Rnd P l r.fn (F9 r args) r.assign r.body ((l,true,.loop r)::L) R) (hd:Nat.blt d n=true)
  (k:∀ v L',R v L'→SY P n ops rest ((d,v)::E) (L'++F) Q):SY P n ops (⟨some d,.call ⟨.value x,xs.toArray,ts⟩,ty,pos,af,gd⟩::rest) E H Q:=by
 intro a w h1 h2 h3 h4
 have hp:=hs.perm
 have hok:=h4.perm hp
 have hl:=hok.here (l,true,.loop r) (by simp)
 simp only at hl
 have hrun:(execOp a.eval ⟨some d,.call ⟨.value x,xs.toArray,ts⟩,ty,pos,af,gd⟩).run P w= .ok (.round l r.fn (F9 r args) r.assign r.body) w:=by
  have e:=X9 h1 hx
  have e2:xs.toArray.map a.eval=args.toArray:=by rw [← e];simp
  simp only [execOp,resolve,Sem.run_bind,Ba h1 hg,Deferred.ofValue,Sem.run_pure,A0p,invoke]
  rw [e2]
  have hy:=run_yield (P:=P) (args:=args.toArray) hl (by simpa using hz)
  simpa [F9] using hy
 unfold wpListIn
 rw [A25 (Kk yk hgd h1)]
 refine ⟨fun _ _=>trivial,?_⟩
 rw [Oper.semAt_eq _ _ _ (by simp),hrun,Oper.uponIn_round]
 refine ⟨(fun e=>by cases e),RoundIn.mono (hr w hok.left) ?_⟩
 rintro e w' ⟨v,L',rfl,hR,ht⟩
 have ht':Trk w w' H (L'++F):=(ht.frame hok).perm_left hp.symm
 have hlt:d<a.tmps.size:=by rw [h2];exact Ay9 hd
 exact y_app.wpListIn_post (fun e a w hu=>hu.after ht') _ _ _ (k v L' hR _ _ (h1.put hlt) (by simp [Act.put,h2]) h3 ht'.ok)
theorem Tj {l f:Nat} {tmps tm:Array Value} {ps:Array Tmp} {asg bd:Code} {fn:FuncId} {D:Nat} {M:Hp} {R:Value→Hp→Prop} (E0:Env) (he:EnvOk E0 { tmps:=tmps,defers:=[] }) (hn:tmps.size=n) (hnd:(Jk asg && Jk bd)=true)
  (h:∀ rg:Rg,SC P n asg E0 ((l,true,.loop ⟨.ready,none,fn,tm,ps,asg,bd,D⟩)::M) (fun e E1 H1=>e= .normal∧∃ N,H1=((l,true,.loop ⟨.ready,none,fn,tm,ps,asg,bd,D⟩)::N) ∧
   SC P n bd E1 ((l,true,.loop ⟨.busy,none,fn,tm,ps,asg,bd,D⟩)::N) (fun e E2 H2=>e= .normal∧∃ N2 F2,Split H2 ((l,true,.loop ⟨.busy,none,fn,tm,ps,asg,bd,D⟩)::N2) F2∧R (.bool true) ((l,true,.loop ⟨.ready,none,fn,tm,ps,asg,bd,D⟩)::N2)))) :
  Rnd P l f tmps asg bd ((l,true,.loop ⟨.ready,none,fn,tm,ps,asg,bd,D⟩)::M) R:=by
 intro w hw
 simp only [A0r] at hnd
 let rg:Rg:=⟨[],some l⟩
 have hF:@Rg.F rg=Fence.wide.inRound l:=rfl
 refine roundIn_of_wpIn trivial ?_
 have h0:=h rg { tmps:=tmps,defers:=[] } w he hn rfl hw (fun _=>⟨fun ⟨a,w,E',H',_,_,_,_,k,_⟩=>(by cases k),hnd.1⟩)
 rw [hF] at h0
 refine A2y h0 ?_
 rintro e a1 w1 ⟨E1,H1,k1,k2,k3,k4,k5,N,k6,k7⟩
 subst k5
 subst k6
 have t1:=k4
 have hl1:=t1.ok.here _ (Azx)
 have t2:=Jo (b:=l) (o':= .loop ⟨.busy,none,fn,tm,ps,asg,bd,D⟩) t1.ok .here (fun _ _ _ e=>nomatch e) (fun _ _ _ e=>nomatch e)
 refine ⟨_,run_beginRound hl1 rfl,?_⟩
 have h1:=k7 a1 (w1.putObj l (.loop ⟨.busy,none,fn,tm,ps,asg,bd,D⟩)) k1 k2 k3 t2.ok (fun _=>⟨fun ⟨a,w,E',H',_,_,_,_,k,_⟩=>(by cases k),hnd.2⟩)
 rw [hF] at h1
 refine A2y h1 ?_
 rintro e a2 w2 ⟨E2,H2,m1,m2,m3,m4,m5,N2,F2,m6,m7⟩
 subst m5
 have t3:=m4.split m6
 have hl2:=t3.ok.here _ (Azx)
 have t4:=Jo (b:=l) (o':= .loop ⟨.ready,none,fn,tm,ps,asg,bd,D⟩) t3.ok .here (fun _ _ _ e=>nomatch e) (fun _ _ _ e=>nomatch e)
 exact ⟨_,_,run_endRound none hl2,.bool true,_,rfl,m7,((t1.trans t2).trans t3).trans t4⟩
end
def mark (D:Nat):Blk:=(D,true,.deferred (some []))
def DQ (P:Program) (fn:Func) (w:World) (H:Hp) (R:Value→Hp→Prop):Exit→Act→World→Prop:=fun e a' w' =>
 (e= .normal∨e= .ret)∧∃ E' H' D v L,EnvOk E' a'∧a'.defers=[⟨.collected D,#[]⟩]∧Trk w w' H H'∧(∃ G F,Pick (mark D) H' G∧Split G L F∧Ret P fn E' G v∧R v L)
def SDf (P:Program) (fn:Func) (n:Nat) (c:Code) (E:Env) (H:Hp) (R:Value→Hp→Prop):Prop :=
 ∀ a w,EnvOk E a→a.tmps.size=n→a.defers=[]→HpOk H w→c.wpIn Fence.wide 0 P (DQ P fn w H R) a w
def SDk (P:Program) (fn:Func) (n:Nat) (c y:Code) (E:Env) (H:Hp) (R:Value→Hp→Prop):Prop :=
 ∀ a w,EnvOk E a→a.tmps.size=n→a.defers=[]→HpOk H w→c.wpIn Fence.wide 0 P (Exit.then (y.wpIn Fence.wide 0 P (DQ P fn w H R)) (DQ P fn w H R)) a w
def Ala (P:Program) (fn:Func) (R:Value→Hp→Prop) (D:Nat):Dr
 | .normal,E,H | .ret,E,H=>∃ G,Pick (mark D) H G∧Kv P fn R .ret E G
 | _,_,_=>False
section
variable {P:Program} {n f:Nat} {fn:Func} {E:Env} {H:Hp} {Q:Dr} {R:Value→Hp→Prop}
theorem DQ.after {w w1:World} {H1:Hp} (ht:Trk w w1 H H1) {e:Exit} {a:Act} {w':World} (h:DQ P fn w1 H1 R e a w'):DQ P fn w H R e a w' :=
 let ⟨m0,E2,H2,D,v,L,m1,m2,m3,m4⟩:=h;⟨m0,E2,H2,D,v,L,m1,m2,ht.trans m3,m4⟩
theorem Alb {x y:Code} (h:SC P n x E H (fun e E' H'=>e= .normal∧SDf P fn n y E' H' R)):SDf P fn n (.seq x y) E H R:=by
 intro a w h1 h2 h3 h4
 refine wpIn_seq (A2y (h a w h1 h2 h3 h4 fun e=>by cases e) ?_)
 rintro e a' w' ⟨E',H',k1,k2,k3,k4,k5,k6⟩
 subst k5
 exact A2y (k6 a' w' k1 k2 k3 k4.ok) fun e a2 w2 hh=>hh.after k4
theorem Adb {x b y:Code} (h:SC P n x E H (fun e E' H'=>e= .normal∧SDk P fn n b y E' H' R)):SDf P fn n (.seq (.seq x b) y) E H R:=by
 intro a w h1 h2 h3 h4
 refine wpIn_seq (wpIn_seq (A2y (h a w h1 h2 h3 h4 fun e=>by cases e) ?_))
 rintro e a' w' ⟨E',H',k1,k2,k3,k4,k5,k6⟩
 subst k5
 refine A2y (k6 a' w' k1 k2 k3 k4.ok) fun e a2 w2 hh=> ?_
 cases e with
 | normal=>exact A2y hh fun e a3 w3 h3=>h3.after k4
 | _=>exact DQ.after k4 hh
theorem P6 {c:Code} {args:List Value} (hf:P.funcs[f]? =some fn) (hn:fn.ntmps=n) (hb:fn.body=some c) (hl:args.length≤n) (h:SDf P fn n c (Pz 0 args) H R):Does P f args H R:=by
 intro w hw
 refine callsIn_wide.1 (callsIn_of_wp_marks (n:=0) hf hb trivial (A2y (h { tmps:=args.toArray++Array.replicate (fn.ntmps - args.toArray.size) undef,defers:=[] } w ?_ ?_ rfl hw) ?_))
 ·intro i v hv
  obtain ⟨_,h2⟩:=Kc args 0 i v hv
  have hi:i<args.length:=(Aym.1 (by simpa using h2)).1
  simp only [Aye]
  rw [Ayh (by simpa using hi)]
  have h2':args[i]? =some v:=by simpa using h2
  simp [h2']
 ·simp;omega
 ·rintro e a' w' ⟨k0,E',H',D,v,L,k1,k2,k3,G,F,k4,k5,k6,k7⟩
  have hp:H'.Perm (mark D::G):=k4.perm
  have t1:Trk w w' H (mark D::G):=k3.sub (k3.ok.perm hp) (fun x hx=>hp.mem_iff.2 hx)
  have hD:=t1.ok.here _ (Azx)
  have t2:=Jo (b:=D) (o':= .deferred none) t1.ok .here (fun _ _ _ e=>nomatch e) (fun _ _ _ e=>nomatch e)
  have t3:=t1.trans t2
  have t4:Trk w (w'.putObj D (.deferred none)) H G:=t3.drop .here
  have fin:LeavesInM Fence.wide 0 P fn a'.tmps (fun e w''=>∃ v H',e= .returned v∧R v H'∧Trk w w'' H H') a'.defers .returning w':=by
   rw [k2]
   exact ⟨(fun e=>nomatch e),.inl ⟨D,_,rfl,run_takeDeferred hD,v,k6 _ _ k1 t4.ok,v,L,rfl,k7,t4.split k5⟩⟩
  rcases k0 with rfl | rfl
  ·exact fin
  ·exact fin
theorem pkD {D:Nat} {H G:Hp} {fn:Func} {R:Value→Hp→Prop} (k:Kv P fn R .ret E G) (h:Pick (mark D) H G:=by repeat (first | exact Pick.here | apply Pick.there | apply Pick.app)):∃ G,Pick (mark D) H G∧Kv P fn R .ret E G:=⟨G,h,k⟩
theorem Aqg {i g:Nat} {gf:FuncId} {ps:Array Tmp} {asg bd y:Code} {fi:List Value} {L F:Hp} {R1:Hp→Prop} [he:Ent P gf]
  (hg:fnd E g=some (.func (.func gf) fi.toArray #[])) (hs:Split H L F)
  (hf:∀ (D l:Nat) (f0:FuncId) (tm:Array Value),EnvOk E { tmps:=tm,defers:=[] }→tm.size=n →
   Does P gf (fi++[.func (.yield l) #[] #[]]) ((l,true,.loop ⟨.ready,none,f0,tm,ps,asg,bd,D⟩)::L) (fun _ Y=>∃ st M,Y=(l,true,.loop ⟨st,none,f0,tm,ps,asg,bd,D⟩)::M∧st≠.busy∧R1 M))
  (k:∀ (rg:Rg) (D:Nat) (M:Hp),R1 M→SC P n y E (mark D::(M++F)) (Ala P fn R D)) :
  SDk P fn n (.block i (.rangeFunc (.tmp g) ps asg bd)) y E H R:=by
 intro a w h1 h2 h3 h4
 refine wpIn_block (wpIn_rangeFunc fun f0 _=> ?_)
 have t1:=Jp h4 (o:= .deferred (some [])) (fun _ _ _ e=>nomatch e)
 have t2:=Jp t1.ok (o:= .loop ⟨.ready,none,f0,a.tmps,ps,asg,bd,w.heap.size⟩) (fun _ _ _ e=>nomatch e)
 have hsz:(w.alloc (.deferred (some []))).heap.size=w.heap.size+1:=Array.size_push ..
 rw [hsz] at t2
 obtain ⟨W,hW⟩:∃ W,W=(w.alloc (.deferred (some []))).alloc (.loop ⟨.ready,none,f0,a.tmps,ps,asg,bd,w.heap.size⟩):=⟨_,rfl⟩
 rw [← hW] at t2
 have hgv:a.eval (.tmp g)= .func (.func gf) fi.toArray #[]:=h1 g _ hg
 have hen:=run_enterLoop_outer (P:=P) (w:=w) f0 a.tmps ps asg bd
 rw [← hW] at hen
 refine ⟨w.heap.size+1,[⟨.collected w.heap.size,#[]⟩],W,⟨.fn (.func gf) #[],(fi++[Value.func (.yield (w.heap.size+1)) #[] #[]]).toArray⟩,W,gf,(fi++[Value.func (.yield (w.heap.size+1)) #[] #[]]).toArray,W,
  hen,?_,fun _ _=>trivial,?_,fun e=>(by cases e),?_⟩
 ·have hc:∀ v,a.eval (.const v)=v:=fun _=>rfl
  simp [resolve,rangeCall,hgv,hc,Deferred.ofValue,Sem.run_bind,Sem.run_pure,A0p]
 ·have:=he.eq (fi++[Value.func (.yield (w.heap.size+1)) #[] #[]]).toArray W
  simpa [invoke] using this
 ·refine callsIn_wide.2 ?_
  have hp:=hs.perm
  have hok2:=t2.ok.perm ((List.Perm.cons _ ((List.Perm.cons _ hp).trans (A01 (l₁:=L) (a:=mark w.heap.size) (l₂:=F)).symm)))
  have hok3:HpOk (((w.heap.size+1,true,Obj.loop ⟨.ready,none,f0,a.tmps,ps,asg,bd,w.heap.size⟩)::L)++(mark w.heap.size::F)) W:=hok2
  refine (hf w.heap.size (w.heap.size+1) f0 a.tmps (by exact h1) h2 W hok3.left).mono ?_
  rintro e W2 ⟨v,Y,rfl,⟨st,M,rfl,hst,hR1⟩,ht⟩
  have t3:=ht.frame hok3
  have tp:Trk w W H (((w.heap.size+1,true,Obj.loop ⟨.ready,none,f0,a.tmps,ps,asg,bd,w.heap.size⟩)::L)++(mark w.heap.size::F)):=(t1.trans t2).sub hok3 (fun x hx=>by
   have:=(List.Perm.cons (w.heap.size+1,true,Obj.loop ⟨.ready,none,f0,a.tmps,ps,asg,bd,w.heap.size⟩) ((List.Perm.cons (mark w.heap.size) hp).trans (A01 (l₁:=L) (a:=mark w.heap.size) (l₂:=F)).symm)).mem_iff (a:=x)
   exact this.2 hx)
  have t4:=tp.trans t3
  have hl:=t4.ok.here _ (Azx)
  have t5:=Jo (b:=w.heap.size+1) (o':= .loop ⟨.exhausted,none,f0,a.tmps,ps,asg,bd,w.heap.size⟩) t4.ok .here (fun _ _ _ e=>nomatch e) (fun _ _ _ e=>nomatch e)
  have t6:=(t4.trans t5).drop .here
  have hpm:(M++mark w.heap.size::F).Perm (mark w.heap.size::(M++F)):=A01
  have t7:=t6.sub (t6.ok.perm hpm) (fun x hx=>hpm.mem_iff.2 hx)
  refine ⟨none,_,run_endLoop hl hst,?_⟩
  show y.wpIn Fence.wide 0 P _ _ _
  let rg:Rg:=⟨[⟨.collected w.heap.size,#[]⟩],none⟩
  have hk:=k rg w.heap.size M hR1 { a with defers:=[⟨.collected w.heap.size,#[]⟩]++a.defers } _ h1 h2 (by rw [h3];rfl) t7.ok (fun e=>by cases e)
  refine A2y (F:=Fence.wide) hk ?_
  rintro e a2 w2 ⟨E2,H2,m1,m2,m3,m4,m5⟩
  cases e with
  | normal=>obtain ⟨G,q1,v,L2,F3,q2,q3,q4⟩:=m5;exact ⟨.inl rfl,E2,H2,_,v,L2,m1,m3,t7.trans m4,G,F3,q1,q3,q2,q4⟩
  | ret=>obtain ⟨G,q1,v,L2,F3,q2,q3,q4⟩:=m5;exact ⟨.inr rfl,E2,H2,_,v,L2,m1,m3,t7.trans m4,G,F3,q1,q3,q2,q4⟩
  | _=>exact m5.elim
end
end
section
class Mv (α:Type) where
 enc:α→Value
instance:Mv Int:=⟨fun i=> .int .i64 i⟩
instance:Mv Bool:=⟨fun b=> .bool b⟩
structure Me (α:Type) where
 k:Int
 v:α
 n:Nat
structure Mp (α:Type) where
 es:List (Me α)
 cl:Nat
 wk:(es.map (·.k)).Nodup
 wn:(es.map (·.n)).Nodup
 wc:∀ e∈es,e.n<cl
def Ck {α:Type}:List (Me α)→Int→Nat→Option (Nat×α)
 | [],_,_=>none
 | e::es,k,i=>if k=e.k then some (i,e.v) else Ck es k (i+1)
def Jq {α:Type} (es:List (Me α)) (k:Int) (v:α):List (Me α):=es.map fun e=>if e.k=k then { e with v:=v } else e
def M6 {α:Type} (es:List (Me α)) (k:Int):List (Me α):=es.filter fun e=> !decide (e.k=k)
end
end Go.K
namespace Go.K.Mp
section
variable {α:Type}
def get (m:Mp α) (k:Int):Option α:=(Ck m.es k 0).map (·.2)
def keys (m:Mp α):List Int:=m.es.map (·.k)
def nil:Mp α:=⟨[],0,A1u,A1u,fun e he=>by cases he⟩
def clr (m:Mp α):Mp α:=⟨[],m.cl,A1u,A1u,fun e he=>by cases he⟩
end
end Go.K.Mp
namespace Go.K
section
section
variable {α:Type}
theorem Vz (es:List (Me α)) (k:Int) (v:α):(Jq es k v).map (·.k)=es.map (·.k):=by
 unfold Jq
 rw [A2c]
 refine Azv fun e _=> ?_
 show (if e.k=k then { e with v:=v } else e).k=e.k
 split <;> rfl
theorem Afh (es:List (Me α)) (k:Int) (v:α):(Jq es k v).map (·.n)=es.map (·.n):=by
 unfold Jq
 rw [A2c]
 refine Azv fun e _=> ?_
 show (if e.k=k then { e with v:=v } else e).n=e.n
 split <;> rfl
theorem G7 {es:List (Me α)} {k:Int} (j:Nat):Ck es k j=none↔k∉es.map (·.k):=by
 induction es generalizing j with
 | nil=>simp [Ck]
 | cons e es ih =>
  unfold Ck
  by_cases h:k=e.k
  ·simp [h]
  ·rw [A26 h,ih];simp [h]
theorem Adc (es:List (Me α)) (k:Int) (i j:Nat):(Ck es k i).map (·.2)=(Ck es k j).map (·.2):=by
 induction es generalizing i j with
 | nil=>rfl
 | cons e es ih =>
  unfold Ck
  by_cases h:k=e.k
  ·simp [h]
  ·rw [A26 h,A26 h];exact ih _ _
theorem Kh {es:List (Me α)} {k:Int} {j i:Nat} {v:α} (h:Ck es k j=some (i,v)):j≤i∧∃ e,es[i - j]? =some e∧e.k=k∧e.v=v:=by
 induction es generalizing j with
 | nil=>simp [Ck] at h
 | cons e es ih =>
  unfold Ck at h
  by_cases hk:k=e.k
  ·rw [A25 hk] at h
   simp only [A0h,A13] at h
   obtain ⟨rfl,rfl⟩:=h
   exact ⟨A2q _,e,by simp,hk.symm,rfl⟩
  ·rw [A26 hk] at h
   obtain ⟨h1,e2,h2,h3,h4⟩:=ih h
   refine ⟨by omega,e2,?_,h3,h4⟩
   rw [show i - j=(i - (j+1))+1 by omega,Ay2]
   exact h2
theorem Aqh {es:List (Me α)} {k:Int} {v:α} (h:k∉es.map (·.k)):Jq es k v=es:=by
 unfold Jq
 conv=>rhs;rw [← List.map_id es]
 refine Azv fun e he=> ?_
 rw [A26 (fun h2:e.k=k=>h (A2b.2 ⟨e,he,h2⟩))]
 rfl
theorem Afi {es:List (Me α)} {k:Int} (h:k∉es.map (·.k)):M6 es k=es:=by
 unfold M6
 rw [List.filter_eq_self]
 intro e he
 simp only [A0e,Ayz]
 exact fun h2=>h (A2b.2 ⟨e,he,h2⟩)
theorem Aht {es:List (Me α)} {k k':Int} {v:α} (j:Nat):(Ck (Jq es k v) k' j).map (·.2)=if k'=k then (Ck es k' j).map (fun _=>v) else (Ck es k' j).map (·.2):=by
 induction es generalizing j with
 | nil=>simp [Ck,Jq]
 | cons e es ih =>
  unfold Jq at ih ⊢
  rw [A15]
  unfold Ck
  have hk:(if e.k=k then { e with v:=v } else e).k=e.k:=by split <;> rfl
  rw [hk]
  by_cases h:k'=e.k
  ·rw [A25 h,A25 h]
   by_cases h2:k'=k
   ·rw [A25 h2,A25 (by omega)];rfl
   ·rw [A26 h2,A26 (by omega)]
  ·rw [A26 h,A26 h];exact ih _
theorem Ahu {es:List (Me α)} {k:Int} {e:Me α} (j:Nat):(Ck (es++[e]) k j).map (·.2)=match (Ck es k j).map (·.2) with | some v=>some v | none=>if k=e.k then some e.v else none:=by
 induction es generalizing j with
 | nil =>
  show (Ck [e] k j).map (·.2)=_
  unfold Ck Ck
  by_cases h:k=e.k <;> simp [h]
 | cons x es ih =>
  rw [A02]
  unfold Ck
  by_cases h:k=x.k
  ·simp [h]
  ·rw [A26 h,A26 h];exact ih _
theorem Ahv {es:List (Me α)} {k k':Int} (j:Nat):(Ck (M6 es k) k' j).map (·.2)=if k'=k then none else (Ck es k' j).map (·.2):=by
 induction es generalizing j with
 | nil=>simp [Ck,M6]
 | cons e es ih =>
  unfold M6 at ih ⊢
  by_cases h:e.k=k
  ·rw [List.filter_cons_of_neg (by simp [h]),ih]
   by_cases h2:k'=k
   ·rw [A25 h2,A25 h2]
   ·rw [A26 h2,A26 h2]
    conv=>rhs;unfold Ck
    rw [A26 (by omega)]
    exact Adc _ _ _ _
  ·rw [List.filter_cons_of_pos (by simp [h])]
   unfold Ck
   by_cases h3:k'=e.k
   ·rw [A25 h3,A26 (by omega),A25 h3]
   ·rw [A26 h3,A26 h3];exact ih _
end
end
end Go.K
namespace Go.K.Mp
section
variable {α:Type}
def put (m:Mp α) (k:Int) (v:α):Mp α :=
 if h:k∈m.keys then ⟨Jq m.es k v,m.cl,by rw [Vz];exact m.wk,by rw [Afh];exact m.wn,fun e he=>by
  have h1:e.n∈(Jq m.es k v).map (·.n):=List.mem_map_of_mem he
  rw [Afh] at h1
  obtain ⟨x,hx,e2⟩:=A2b.1 h1
  have:=m.wc x hx
  omega⟩
 else ⟨m.es++[⟨k,v,m.cl⟩],m.cl+1,by
   rw [A1i]
   refine A0g.2 ⟨m.wk,by simp,fun a ha b hb e=> ?_⟩
   rw [A15,A2d,Azy] at hb
   have hb':b=k:=hb
   rw [← hb',← e] at h
   exact h ha,by
   rw [A1i]
   refine A0g.2 ⟨m.wn,by simp,fun a ha b hb e=> ?_⟩
   rw [A15,A2d,Azy] at hb
   have hb':b=m.cl:=hb
   obtain ⟨x,hx,e2⟩:=A2b.1 ha
   have:=m.wc x hx
   omega,fun e he=>by
   rcases A1d.1 he with h1 | h1
   ·have:=m.wc e h1;omega
   ·rw [Azy.1 h1];exact Nat.lt_succ_self _⟩
def del (m:Mp α) (k:Int):Mp α:=⟨M6 m.es k,m.cl,(List.filter_sublist.map _).nodup m.wk,(List.filter_sublist.map _).nodup m.wn,fun e he=>m.wc e (A1e.1 he).1⟩
theorem Alc {m:Mp α} {k:Int}:m.get k=none↔k∉m.keys:=by
 unfold get keys
 rw [Option.map_eq_none_iff]
 exact G7 0
theorem get_some {m:Mp α} {k:Int}:(m.get k).isSome=true↔k∈m.keys:=by
 have:=Alc (m:=m) (k:=k)
 cases h:m.get k with
 | none=>simp [h] at this ⊢;exact this
 | some v=>simp [h] at this ⊢;exact this
theorem get_put (m:Mp α) (k k':Int) (v:α):(m.put k v).get k'=if k'=k then some v else m.get k':=by
 unfold put
 split
 ·rename_i h
  unfold get
  rw [Aht]
  by_cases e:k'=k
  ·subst e
   rw [A25 rfl,A25 rfl]
   cases hf:Ck m.es k' 0 with
   | none=>exact absurd h ((G7 0).1 hf)
   | some x=>rfl
  ·rw [A26 e,A26 e]
 ·rename_i h
  unfold get
  rw [Ahu]
  by_cases e:k'=k
  ·subst e
   rw [A25 rfl]
   have:Ck m.es k' 0=none:=(G7 0).2 h
   rw [this]
   simp
  ·rw [A26 e]
   cases hf:(Ck m.es k' 0).map (·.2) with
   | none=>simp [e]
   | some x=>simp [e]
theorem get_del (m:Mp α) (k k':Int):(m.del k).get k'=if k'=k then none else m.get k':=Ahv 0
theorem get_clr (m:Mp α) (k:Int):m.clr.get k=none:=rfl
theorem get_mem {m:Mp α} {e:Me α} (he:e∈m.es):m.get e.k=some e.v:=by
 have h:∀ (es:List (Me α)) (j:Nat),(es.map (·.k)).Nodup→e∈es→(Ck es e.k j).map (·.2)=some e.v:=fun es=>by
  induction es with
  | nil=>intro j _ h;cases h
  | cons x es ih =>
   intro j hn h
   unfold Ck
   rcases A12.1 h with h | h
   ·subst h;rw [A25 rfl];rfl
   ·rw [A15,A1c] at hn
    rw [A26 (fun h2:e.k=x.k=>hn.1 (A2b.2 ⟨e,h,h2⟩))]
    exact ih _ hn.2 h
 exact h m.es 0 m.wk he
theorem mem_get {m:Mp α} {k:Int} {v:α} (h:m.get k=some v):∃ e∈m.es,e.k=k∧e.v=v:=by
 unfold get at h
 cases hf:Ck m.es k 0 with
 | none=>rw [hf] at h;cases h
 | some r =>
  obtain ⟨i,w⟩:=r
  rw [hf] at h
  obtain ⟨_,e,h1,h2,h3⟩:=Kh hf
  exact ⟨e,Azn h1,h2,by rw [h3];simpa using h⟩
theorem put_keys (m:Mp α) (k:Int) (v:α):(m.put k v).keys=if k∈m.keys then m.keys else m.keys++[k]:=by
 unfold put
 by_cases h:k∈m.keys
 ·rw [A22 h,A25 h]
  exact Vz _ _ _
 ·rw [dif_neg h,A26 h]
  unfold keys
  rw [A1i]
  rfl
theorem keys_nodup (m:Mp α):m.keys.Nodup:=m.wk
theorem keys_len (m:Mp α):m.keys.length=m.es.length:=A1a ..
end
end Go.K.Mp
namespace Go.K
section
section
variable {α:Type} [Mv α]
def Me.ent (kd:IntKind) (e:Me α):MapEntry:={ key:= .int kd e.k,val:=Mv.enc e.v,born:=e.n }
def Mp.obj (kd:IntKind) (m:Mp α):Obj:= .map (m.es.map (Me.ent kd)).toArray m.cl
theorem V0 (kd:IntKind) (k:Int):∀ (es:List (Me α)) (i:Nat),Instr.findNow (.int kd) (.int kd k) (es.map (Me.ent kd)) i=some ((Ck es k i).map fun r=>(r.1,Mv.enc r.2))
 | [],i=>rfl
 | e::es,i=>by
  rw [A15]
  unfold Ck Instr.findNow
  simp only [Me.ent,Instr.sameNow,if_true]
  by_cases h:k=e.k
  ·simp [h]
  ·have hb:(k == e.k)=false:=by simpa using h
   rw [hb,A26 h]
   exact V0 kd k es (i+1)
theorem Tk (kd:IntKind) {k:Int} {v':α}:∀ {es:List (Me α)} {j i:Nat} {v:α},(es.map (·.k)).Nodup→Ck es k j=some (i,v) →
  (es.map (Me.ent kd)).modify (i - j) (fun e=>{ e with key:= .int kd k,val:=Mv.enc v' })=(Jq es k v').map (Me.ent kd)
 | [],j,i,v,_,h=>by simp [Ck] at h
 | e::es,j,i,v,hn,h=>by
  rw [A15,A1c] at hn
  unfold Ck at h
  by_cases hk:k=e.k
  ·rw [A25 hk] at h
   simp only [A0h,A13] at h
   obtain ⟨rfl,rfl⟩:=h
   subst hk
   have h1:Jq (e::es) e.k v'={ e with v:=v' }::Jq es e.k v':=by simp [Jq]
   rw [h1,Aqh hn.1,A2l]
   rfl
  ·rw [A26 hk] at h
   have hle:=(Kh h).1
   have h1:Jq (e::es) k v'=e::Jq es k v':=by simp [Jq,A23 hk]
   rw [h1,A15,A15,show i - j=(i - (j+1))+1 by omega,List.modify_succ_cons,Tk kd hn.2 h]
theorem V3 (kd:IntKind) {k:Int}:∀ {es:List (Me α)} {j i:Nat} {v:α},(es.map (·.k)).Nodup→Ck es k j=some (i,v) →
  (es.map (Me.ent kd)).eraseIdx (i - j)=(M6 es k).map (Me.ent kd)
 | [],j,i,v,_,h=>by simp [Ck] at h
 | e::es,j,i,v,hn,h=>by
  rw [A15,A1c] at hn
  unfold Ck at h
  by_cases hk:k=e.k
  ·rw [A25 hk] at h
   simp only [A0h,A13] at h
   obtain ⟨rfl,rfl⟩:=h
   subst hk
   have h1:M6 (e::es) e.k=M6 es e.k:=by unfold M6;rw [List.filter_cons_of_neg (by simp)]
   rw [h1,Afi hn.1,A2l]
   rfl
  ·rw [A26 hk] at h
   have hle:=(Kh h).1
   have h1:M6 (e::es) k=e::M6 es k:=by unfold M6;rw [List.filter_cons_of_pos (by simp [A23 hk])]
   rw [h1,A15,A15,show i - j=(i - (j+1))+1 by omega,List.eraseIdx_cons_succ,V3 kd hn.2 h]
end
section
variable {α:Type} [Mv α] {P:Program} {n:Nat} {E:Env} {H:Hp} {Q:Dr} {ops:Array Oper} {rest:List Oper}
theorem Of {t:TypeId} {kd:IntKind} [ht:Und P t (.int kd)] {k:Int} {es:List (Me α)} {w:World}:(Instr.findKey t (.int kd k) (es.map (Me.ent kd))).run P w= .ok ((Ck es k 0).map fun r=>(r.1,Mv.enc r.2)) w:=by
 unfold Instr.findKey
 simp [A10 ht.eq,V0]
theorem Aqi {t kt et:TypeId} {x y:Operand} {kd:IntKind} {b:Nat} {m:Mp α} {k:Int} {z:Value} {r:Bool} [ht:Und P t (.map kt et)] [hk:Und P kt (.int kd)] [hz:ZerV P et z]
  (hx:ev E x=some (.map (some b))) (hy:ev E y=some (.int kd k)) (hm:(b,r,m.obj kd)∈H):Rd P E H (.lookup t x y false) (match m.get k with | some v=>Mv.enc v | none=>z):=fun a w d ty pos af g h1 h2=>by
 have e0:w.heap[b]? =some (.map (m.es.map (Me.ent kd)).toArray m.cl):=h2.here _ hm
 have e1:=Et (P:=P) e0
 simp only [execOp,Ba h1 hx,Ba h1 hy,Instr.lookup,Sem.run_bind,A10 ht.eq,A0p]
 rw [e1]
 simp only [A0p,Sem.run_bind,Sem.run_pure,H4,Of]
 unfold Mp.get
 cases hf:Ck m.es k 0 with
 | none=>simp [Vx (P:=P)]
 | some q=>simp
theorem P7 {t kt et:TypeId} {x y:Operand} {kd:IntKind} {b:Nat} {m:Mp α} {k:Int} {z:Value} {r:Bool} [ht:Und P t (.map kt et)] [hk:Und P kt (.int kd)] [hz:ZerV P et z]
  (hx:ev E x=some (.map (some b))) (hy:ev E y=some (.int kd k)) (hm:(b,r,m.obj kd)∈H):Rd P E H (.lookup t x y true) (.tuple #[match m.get k with | some v=>Mv.enc v | none=>z,.bool (m.get k).isSome]):=fun a w d ty pos af g h1 h2=>by
 have e0:w.heap[b]? =some (.map (m.es.map (Me.ent kd)).toArray m.cl):=h2.here _ hm
 have e1:=Et (P:=P) e0
 simp only [execOp,Ba h1 hx,Ba h1 hy,Instr.lookup,Sem.run_bind,A10 ht.eq,A0p]
 rw [e1]
 simp only [A0p,Sem.run_bind,Sem.run_pure,H4,Of]
 unfold Mp.get
 cases hf:Ck m.es k 0 with
 | none=>simp [Vx (P:=P)]
 | some q=>simp
theorem Ald {x:Operand} {t kt et:TypeId} {kd:IntKind} {b:Nat} {m:Mp α} {r:Bool} [ht:Und P t (.map kt et)] (hx:ev E x=some (.map (some b))) (hm:(b,r,m.obj kd)∈H):Rd P E H (.call ⟨.builtin .len,#[x],#[t]⟩) (.int .i64 m.es.length) :=
 fun a w d ty pos af g h1 h2=>by
 have e0:w.heap[b]? =some (.map (m.es.map (Me.ent kd)).toArray m.cl):=h2.here _ hm
 have e1:=Et (P:=P) e0
 simp only [execOp,B9,Sem.run_bind,A0p,invoke,builtin,Builtin.len_]
 simp [Ba h1 hx,A10 ht.eq,e1,goInt]
theorem X3 (α:Type) [Mv α] [rg:Rg] {d:Nat} {t:TypeId} {ty:TypeId} {pos:A24} {af:Array Edge} (kd:IntKind) (hd:Nat.blt d n=true)
  (k:∀ b,SO P n ops rest ((d,.map (some b))::E) ((b,true,(Mp.nil:Mp α).obj kd)::H) Q):SO P n ops (⟨some d,.makeMap t none,ty,pos,af,none⟩::rest) E H Q :=
 Ahs kd hd k
theorem R7 {w:World} {b:Nat} {m:Mp α} {m':Mp α} {kd:IntKind} {H K:Hp} (h:HpOk H w) (hu:Upd b (m.obj kd) (m'.obj kd) H K):Trk w (Cq w b (m'.obj kd)) H K :=
 R6 h hu (fun i s=>by
  have e0:w.heap[b]? =some (m.obj kd):=h.here _ hu.mem
  have hlt:b<w.heap.size:=h.lt hu.mem
  rw [Ak7 e0,Ak7 (w:=Cq w b (m'.obj kd)) (es:=(m'.es.map (Me.ent kd)).toArray) (c:=m'.cl) (by simp [Cq,hlt,Mp.obj])])
theorem Aqj {t kt et:TypeId} {kd:IntKind} [ht:Und P t (.map kt et)] [hk:Und P kt (.int kd)] {b:Nat} {m:Mp α} {k:Int} {v:α} {w:World} (e0:w.heap[b]? =some (m.obj kd)) :
  (Instr.mapUpdate t (.map (some b)) (.int kd k) (Mv.enc v)).run P w= .ok () (Cq w b ((m.put k v).obj kd)):=by
 have e0':w.heap[b]? =some (.map (m.es.map (Me.ent kd)).toArray m.cl):=e0
 have e1:=Et (P:=P) e0'
 simp only [Instr.mapUpdate,Sem.run_bind,A10 ht.eq,A0p]
 rw [e1]
 simp only [A0p,Sem.run_bind,H4,Of]
 cases hf:Ck m.es k 0 with
 | none =>
  have hn:k∉m.keys:=(G7 0).1 hf
  simp only [Option.map_none]
  rw [Jn (P:=P) e0']
  unfold Mp.put
  rw [dif_neg hn]
  simp [Mp.obj,Me.ent]
 | some r =>
  obtain ⟨i,u⟩:=r
  have hi:k∈m.keys:=by
   by_cases h:k∈m.keys
   ·exact h
   ·rw [(G7 0).2 h] at hf;cases hf
  obtain ⟨_,e,h1,h2,h3⟩:=Kh hf
  rw [A2h] at h1
  simp only [A1g]
  have hkey:(((m.es.map (Me.ent kd)).toArray[i]?).map (·.key)).getD (Value.int kd k)= .int kd k:=by
   simp [h1,Me.ent,h2]
  have hst:(Instr.keyThatStays (Value.int kd k) (Value.int kd k)).run P w= .ok (.int kd k) w:=by
   unfold Instr.keyThatStays
   have:Instr.sameBits 10000 (Value.int kd k) (Value.int kd k)=true:=by
    show (kd == kd && k == k)=true
    simp
   rw [this]
   rfl
  simp only [Sem.run_bind]
  rw [hkey,hst]
  simp only [A0p]
  rw [Jn (P:=P) e0']
  have hm:=Tk kd (v':=v) m.wk hf
  rw [A2h] at hm
  unfold Mp.put
  rw [A22 hi]
  simp [Mp.obj,hm]
theorem V4 [rg:Rg] {t kt et:TypeId} {x y u:Operand} {ty:TypeId} {pos:A24} {af:Array Edge} {kd:IntKind} {b:Nat} {m:Mp α} {k:Int} {v:α} {H':Hp} [ht:Und P t (.map kt et)] [hk:Und P kt (.int kd)]
  (hx:ev E x=some (.map (some b))) (hy:ev E y=some (.int kd k)) (hv:ev E u=some (Mv.enc v)) (hu:Upd b (m.obj kd) ((m.put k v).obj kd) H H')
  (kk:SO P n ops rest E H' Q):SO P n ops (⟨none,.mapUpdate t x y u,ty,pos,af,none⟩::rest) E H Q:=by
 intro a w h1 h2 h3 h4
 refine A2n rfl fun K hK=> ?_
 have e0:w.heap[b]? =some (m.obj kd):=h4.here _ hu.mem
 have hrun:(execOp a.eval ⟨none,.mapUpdate t x y u,ty,pos,af,none⟩).run P w= .ok .skip (Cq w b ((m.put k v).obj kd)):=by
  have:=Aqj (P:=P) (t:=t) (k:=k) (v:=v) e0
  simp only [execOp,Ba h1 hx,Ba h1 hy,Ba h1 hv,Sem.run_bind]
  rw [this]
  rfl
 unfold Oper.wp
 rw [hrun]
 have htr:=R7 h4 hu
 exact hK _ _ (B8 htr (kk _ _ h1 h2 h3 htr.ok))
theorem As7 [rg:Rg] {t u kt et:TypeId} {x y:Operand} {ty:TypeId} {pos:A24} {af:Array Edge} {kd:IntKind} {b:Nat} {m:Mp α} {k:Int} {H':Hp} [ht:Und P t (.map kt et)] [hk:Und P kt (.int kd)]
  (hx:ev E x=some (.map (some b))) (hy:ev E y=some (.int kd k)) (hu:Upd b (m.obj kd) ((m.del k).obj kd) H H')
  (kk:SO P n ops rest E H' Q):SO P n ops (⟨none,.call ⟨.builtin .delete,#[x,y],#[t,u]⟩,ty,pos,af,none⟩::rest) E H Q:=by
 intro a w h1 h2 h3 h4
 refine A2n rfl fun K hK=> ?_
 have e0:w.heap[b]? =some (.map (m.es.map (Me.ent kd)).toArray m.cl):=h4.here _ hu.mem
 have e1:=Et (P:=P) e0
 have hd:(Builtin.delete_ #[t,u] ty #[.map (some b),.int kd k]).run P w= .ok (.tuple #[]) (Cq w b ((m.del k).obj kd)):=by
  simp only [Builtin.delete_,Sem.run_bind,A10 ht.eq,A0p,Azi,Ay1,Ay2]
  rw [e1]
  simp only [A0p,Sem.run_bind,H4,Of]
  cases hf:Ck m.es k 0 with
  | none =>
   simp only [Option.map_none,Sem.run_bind]
   rw [Jn (P:=P) e0]
   have:(m.del k).obj kd=m.obj kd:=by
    show Obj.map ((M6 m.es k).map (Me.ent kd)).toArray m.cl=Obj.map (m.es.map (Me.ent kd)).toArray m.cl
    rw [Afi ((G7 0).1 hf)]
   rw [this]
   rfl
  | some r =>
   obtain ⟨i,v⟩:=r
   simp only [A1g,Sem.run_bind]
   rw [Jn (P:=P) e0]
   have hm:=V3 kd m.wk hf
   rw [A2h] at hm
   have:(m.del k).obj kd= .map ((m.es.map (Me.ent kd)).toArray.eraseIdxIfInBounds i) m.cl:=by
    show Obj.map ((M6 m.es k).map (Me.ent kd)).toArray m.cl=_
    rw [List.eraseIdxIfInBounds_toArray,hm]
   rw [this]
   rfl
 have hrun:(execOp a.eval ⟨none,.call ⟨.builtin .delete,#[x,y],#[t,u]⟩,ty,pos,af,none⟩).run P w= .ok (.value (.tuple #[])) (Cq w b ((m.del k).obj kd)):=by
  simp only [execOp,B9,Sem.run_bind,A0p,invoke,builtin]
  simp [Ba h1 hx,Ba h1 hy,hd]
 unfold Oper.wp
 rw [hrun]
 have htr:=R7 h4 hu
 exact hK _ _ (B8 htr (kk _ _ h1 h2 h3 htr.ok))
theorem Afj {t kt et:TypeId} {kd:IntKind} [ht:Und P t (.map kt et)] {b:Nat} {m:Mp α} {w:World} {ty:TypeId} (e0:w.heap[b]? =some (m.obj kd)) :
  (Builtin.clear_ #[t] ty #[.map (some b)]).run P w= .ok (.tuple #[]) (Cq w b (m.clr.obj kd)):=by
 have e0':w.heap[b]? =some (.map (m.es.map (Me.ent kd)).toArray m.cl):=e0
 have e1:=Et (P:=P) e0'
 simp only [Builtin.clear_,Sem.run_bind,A10 ht.eq,A0p,Azi,Ay1]
 rw [e1]
 simp only [A0p,Sem.run_bind]
 rw [Jn (P:=P) e0']
 rfl
theorem Afk [rg:Rg] {t kt et:TypeId} {x:Operand} {ty:TypeId} {pos:A24} {af:Array Edge} {kd:IntKind} {b:Nat} {m:Mp α} {H':Hp} [ht:Und P t (.map kt et)]
  (hx:ev E x=some (.map (some b))) (hu:Upd b (m.obj kd) (m.clr.obj kd) H H')
  (kk:SO P n ops rest E H' Q):SO P n ops (⟨none,.call ⟨.builtin .clear,#[x],#[t]⟩,ty,pos,af,none⟩::rest) E H Q:=by
 intro a w h1 h2 h3 h4
 refine A2n rfl fun K hK=> ?_
 have e0:w.heap[b]? =some (m.obj kd):=h4.here _ hu.mem
 have hrun:(execOp a.eval ⟨none,.call ⟨.builtin .clear,#[x],#[t]⟩,ty,pos,af,none⟩).run P w= .ok (.value (.tuple #[])) (Cq w b (m.clr.obj kd)):=by
  have:=Afj (P:=P) (t:=t) (ty:=ty) e0
  simp only [execOp,B9,Sem.run_bind,A0p,invoke,builtin]
  simp [Ba h1 hx,this]
 unfold Oper.wp
 rw [hrun]
 have htr:=R7 h4 hu
 exact hK _ _ (B8 htr (kk _ _ h1 h2 h3 htr.ok))
def itO (b since:Nat) (seen:List Nat) (last:Nat):Obj:= .mapIter (some b) since seen.toArray last
theorem Ip [rg:Rg] {d:Nat} {t kt et:TypeId} {x:Operand} {ty:TypeId} {pos:A24} {af:Array Edge} {kd:IntKind} {b:Nat} {m:Mp α} {r:Bool} [ht:Und P t (.map kt et)]
  (hx:ev E x=some (.map (some b))) (hm:(b,r,m.obj kd)∈H) (hd:Nat.blt d n=true)
  (k:∀ i,SO P n ops rest ((d,.pointer (some ⟨i,0,none⟩))::E) ((i,true,itO b m.cl [] m.cl)::H) Q):SO P n ops (⟨some d,.range t x,ty,pos,af,none⟩::rest) E H Q:=by
 intro a w h1 h2 h3 h4
 refine A2n rfl fun K hK=> ?_
 have e0:w.heap[b]? =some (.map (m.es.map (Me.ent kd)).toArray m.cl):=h4.here _ hm
 have e1:=Et (P:=P) e0
 have hrun:(execOp a.eval ⟨some d,.range t x,ty,pos,af,none⟩).run P w= .ok (.value (.pointer (some ⟨w.heap.size,0,none⟩))) (w.alloc (itO b m.cl [] m.cl)):=by
  simp only [execOp,Ba h1 hx,Instr.range,Sem.run_bind,A10 ht.eq,A0p]
  rw [e1]
  rfl
 unfold Oper.wp
 rw [hrun]
 have hlt:d<a.tmps.size:=by rw [h2];exact Ay9 hd
 have htr:=Jp h4 (o:=itO b m.cl [] m.cl) (fun _ _ _ e=>nomatch e)
 exact hK _ _ (B8 htr (k _ _ _ (h1.put hlt) (by simp [Act.put,h2]) h3 htr.ok))
theorem Aaq (w:World) (k:Nat):∃ i w',(choose (.mapNext k)).run P w= .ok i w'∧(0<k→i<k)∧(w'=w∨w'={ w with drawn:=w.drawn+1 }):=by
 by_cases h:k≤1
 ·have hf:(Question.mapNext k).forced=true:=by simp [Question.forced,h]
  exact ⟨0,w,by simp [choose,Sem.run,hf],fun h=>h,.inl rfl⟩
 ·have hf:(Question.mapNext k).forced=false:=by simp [Question.forced,h]
  exact ⟨(Question.mapNext k).cut (w.tape w.drawn (.mapNext k)),_,by simp [choose,Sem.run,hf],fun _=>A2w _ (by omega),.inr rfl⟩
def Gr (m:Mp α) (seen:List Nat):List (Me α):=m.es.filter fun e=> !decide (e.n∈seen)
theorem Ahw {β:Type} {l:List β} {i:Nat} (hi:i<(((if l.isEmpty then #[none] else #[]):Array (Option β))++(l.toArray.map some)).size) :
  ((((if l.isEmpty then #[none] else #[]):Array (Option β))++(l.toArray.map some))[i]? =some none∧l=[])∨∃ x∈l,(((if l.isEmpty then #[none] else #[]):Array (Option β))++(l.toArray.map some))[i]? =some (some x):=by
 cases l with
 | nil =>
  left
  have h0:i=0:=by simp at hi;omega
  subst h0
  exact ⟨by simp,rfl⟩
 | cons x l =>
  right
  simp at hi
  refine ⟨(x::l)[i]'(by simp;omega),A0s _,?_⟩
  have h1:(((if (x::l).isEmpty then #[none] else #[]):Array (Option β))++((x::l).toArray.map some))=((x::l).map some).toArray:=by simp
  rw [h1,Azi,A0f,Ayw (by simp;omega)]
  rfl
theorem Aar {w:World} {i b since last:Nat} {seen:List Nat} (h:w.heap[i]? =some (itO b since seen last)):(getObj i).run P w= .ok (.mapIter (some b) since seen.toArray last) w:=by
 simp [getObj,Sem.run,h,itO]
theorem Ale {w:World} {i b since last:Nat} {seen:List Nat} {o:Obj} (h:w.heap[i]? =some (itO b since seen last)):(setObj i o).run P w= .ok () (w.putObj i o):=by
 have h2:w.heap[i]? =some (.mapIter (some b) since seen.toArray last):=h
 simp [setObj,Sem.run,h2]
 rfl
def At8 (w w1:World):Prop:=w1=w∨w1={ w with drawn:=w.drawn+1 }
theorem Alf {ty:TypeId} {kd:IntKind} {i b since last:Nat} {seen:List Nat} {m:Mp α} {w:World} (ei:w.heap[i]? =some (itO b since seen last)) (em:w.heap[b]? =some (.map (m.es.map (Me.ent kd)).toArray m.cl))
  (hs:∀ e∈m.es,e.n<since) (hl:since≤last) :
  (Gr m seen=[]∧∃ w1,At8 w w1∧(Instr.next (.pointer (some ⟨i,0,none⟩)) false ty).run P w= .ok (.tuple #[.bool false]) w1) ∨
  (∃ e∈m.es,e.n∉seen∧∃ w1,At8 w w1∧(Instr.next (.pointer (some ⟨i,0,none⟩)) false ty).run P w= .ok (.tuple #[.bool true,.int kd e.k,Mv.enc e.v]) (w1.putObj i (itO b since (seen++[e.n]) m.cl))):=by
 have hleft:((m.es.map (Me.ent kd)).toArray.filter fun e=> !seen.toArray.contains e.born)=((Gr m seen).map (Me.ent kd)).toArray:=by
  unfold Gr
  rw [List.filter_toArray,List.filter_map]
  congr 2
  refine List.filter_congr fun e he=> ?_
  simp only [Function.comp,Me.ent,List.contains_toArray]
  rw [List.contains_eq_mem]
 have hold:(((Gr m seen).map (Me.ent kd)).toArray.filter fun e=>decide (e.born<since))=((Gr m seen).map (Me.ent kd)).toArray:=by
  rw [List.filter_toArray,List.filter_map]
  congr 2
  rw [List.filter_eq_self]
  intro e he
  exact decide_eq_true (hs e (A1e.1 he).1)
 have hnew:(((Gr m seen).map (Me.ent kd)).toArray.filter fun e=>decide (e.born≥since))=#[]:=by
  rw [List.filter_toArray,List.filter_map]
  have:List.filter ((fun e:MapEntry=>decide (e.born≥since))∘Me.ent kd) (Gr m seen)=[]:=by
   rw [List.filter_eq_nil_iff]
   intro e he
   have h8:=hs e (A1e.1 he).1
   have h9:¬ e.n≥since:=by omega
   show ¬ decide (e.n≥since)=true
   rw [A1o h9]
   decide
  rw [this]
  rfl
 have hchk:(!seen.toArray.isEmpty && !((m.es.map (Me.ent kd)).toArray).isEmpty && ((m.es.map (Me.ent kd)).toArray).all (fun e=>decide (e.born≥last)))=false:=by
  cases hes:m.es with
  | nil=>simp
  | cons e es =>
   have h9:=hs e (by rw [hes];exact Azx)
   have:¬ (Me.ent kd e).born≥last:=fun h8:e.n≥last=>by omega
   simp [this]
 obtain ⟨c,hc⟩:∃ c,c=(((if ((Gr m seen).map (Me.ent kd)).isEmpty then #[none] else #[]):Array (Option MapEntry))++(((Gr m seen).map (Me.ent kd)).toArray.map some)):=⟨_,rfl⟩
 have hsize:0<c.size:=by
  rw [hc]
  cases Gr m seen with
  | nil=>simp
  | cons x l=>simp
 obtain ⟨j,w1,hj1,hj2,hw1⟩:=Aaq (P:=P) w c.size
 have hcs:=hj2 hsize
 have hgo:(Instr.next (.pointer (some ⟨i,0,none⟩)) false ty).run P w=(match c[j]? with
   | some (some e)=>(setObj i (.mapIter (some b) since (seen.toArray.push e.born) m.cl)).run P w1 |>.andThen fun _ w'=> .ok (.tuple #[.bool true,e.key,e.val]) w'
   | some none=> .ok (.tuple #[.bool false]) w1
   | none => (stuck "Next: no such candidate" : Sem Value).run P w1) := by
  simp only [Instr.next,Sem.run_bind]
  rw [Aar (P:=P) ei]
  simp only [A0p,Sem.run_bind]
  rw [Et (P:=P) em]
  simp only [A0p]
  rw [hchk,hleft,hold,hnew]
  rw [A26 (by decide)]
  have hcc:(((if ((Gr m seen).map (Me.ent kd)).toArray.isEmpty=true then #[none] else #[]):Array (Option MapEntry))++Array.map some (((Gr m seen).map (Me.ent kd)).toArray++#[]))=c:=by
   rw [hc,Array.append_empty,List.isEmpty_toArray]
  rw [hcc,Sem.run_bind,hj1]
  simp only [A0p]
  cases c[j]? with
  | none=>rfl
  | some x =>
   cases x with
   | none=>rfl
   | some e=>simp only [Sem.run_bind];rfl
 rw [hgo]
 rw [hc] at hcs
 rcases Ahw hcs with ⟨p1,p2⟩ | ⟨e',p1,p2⟩
 ·rw [hc,p1]
  exact .inl ⟨by simpa using p2,w1,hw1,rfl⟩
 ·obtain ⟨e,he,rfl⟩:=A2b.1 p1
  obtain ⟨he1,he2⟩:=A1e.1 he
  rw [hc,p2]
  refine .inr ⟨e,he1,by simpa using he2,w1,hw1,?_⟩
  have ei1:w1.heap[i]? =some (itO b since seen last):=by rcases hw1 with rfl | rfl <;> exact ei
  simp only
  rw [Ale (P:=P) ei1]
  simp [itO,Me.ent]
theorem Ki [rg:Rg] {d:Nat} {x:Operand} {ty:TypeId} {pos:A24} {af:Array Edge} {kd:IntKind} {i b since last:Nat} {seen:List Nat} {m:Mp α} {F:Hp}
  (hx:ev E x=some (.pointer (some ⟨i,0,none⟩))) (hp:Pick (i,true,itO b since seen last) H F) {r:Bool} (hm:(b,r,m.obj kd)∈F) (hs:∀ e∈m.es,e.n<since) (hl:since≤last) (hd:Nat.blt d n=true)
  (k0:Gr m seen=[]→SO P n ops rest ((d,.tuple #[.bool false])::E) ((i,true,itO b since seen last)::F) Q)
  (k1:∀ e∈m.es,e.n∉seen→SO P n ops rest ((d,.tuple #[.bool true,.int kd e.k,Mv.enc e.v])::E) ((i,true,itO b since (seen++[e.n]) m.cl)::F) Q) :
  SO P n ops (⟨some d,.next x false,ty,pos,af,none⟩::rest) E H Q:=by
 intro a w h1 h2 h3 h4
 refine A2n rfl fun K hK=> ?_
 have hlt:d<a.tmps.size:=by rw [h2];exact Ay9 hd
 have hok:HpOk ((i,true,itO b since seen last)::F) w:=h4.perm hp.perm
 have ei:w.heap[i]? =some (itO b since seen last):=hok.here _ (Azx)
 have em:w.heap[b]? =some (.map (m.es.map (Me.ent kd)).toArray m.cl):=hok.here _ (.tail _ hm)
 have tp:Trk w w H ((i,true,itO b since seen last)::F):=(Trk.refl h4).sub hok (fun x hx=>hp.perm.mem_iff.2 hx)
 have td:∀ w1,At8 w w1→Trk w w1 H ((i,true,itO b since seen last)::F):=fun w1 hw1=>by
  rcases hw1 with rfl | rfl
  ·exact tp
  ·exact tp.trans (Dl hok _)
 rcases Alf (P:=P) (ty:=ty) ei em hs hl with ⟨hl0,w1,hw1,hrun⟩ | ⟨e,he1,he2,w1,hw1,hrun⟩
 ·have hr:(execOp a.eval ⟨some d,.next x false,ty,pos,af,none⟩).run P w= .ok (.value (.tuple #[.bool false])) w1:=by
   simp only [execOp,Ba h1 hx,Sem.run_bind]
   rw [hrun]
   rfl
  unfold Oper.wp
  rw [hr]
  have htr:=td w1 hw1
  exact hK _ _ (B8 htr (k0 hl0 _ _ (h1.put hlt) (by simp [Act.put,h2]) h3 htr.ok))
 ·have hr:(execOp a.eval ⟨some d,.next x false,ty,pos,af,none⟩).run P w= .ok (.value (.tuple #[.bool true,.int kd e.k,Mv.enc e.v])) (w1.putObj i (itO b since (seen++[e.n]) m.cl)):=by
   simp only [execOp,Ba h1 hx,Sem.run_bind]
   rw [hrun]
   rfl
  unfold Oper.wp
  rw [hr]
  have t1:=td w1 hw1
  have t2:=Jo (b:=i) (o':=itO b since (seen++[e.n]) m.cl) t1.ok .here (fun _ _ _ e=>nomatch e) (fun _ _ _ e=>nomatch e)
  have htr:=t1.trans t2
  exact hK _ _ (B8 htr (k1 e he1 he2 _ _ (h1.put hlt) (by simp [Act.put,h2]) h3 htr.ok))
end
end
section
section
variable {α:Type} [Mv α] {P:Program} {n:Nat} {E:Env} {H:Hp} {Q:Dr} {ops:Array Oper} {rest:List Oper}
theorem V5 (kd:IntKind) {e:Me α}:∀ {es:List (Me α)},(es.map (·.n)).Nodup→e∈es→(es.map (Me.ent kd)).find? (·.born == e.n)=some (Me.ent kd e)
 | [],_,h=>by cases h
 | x::es,hn,h=>by
  rw [A15,A1c] at hn
  rw [A15,List.find?_cons]
  rcases A12.1 h with h | h
  ·subst h
   have:((Me.ent kd e).born == e.n)=true:=by simp [Me.ent]
   rw [this]
  ·have hne:x.n≠e.n:=fun e2=>hn.1 (A2b.2 ⟨e,h,e2.symm⟩)
   have:((Me.ent kd x).born == e.n)=false:=by simpa [Me.ent] using hne
   rw [this]
   exact V5 kd hn.2 h
theorem Iq {x:Operand} {kd:IntKind} {i b since:Nat} {seen:List Nat} {m:Mp α} {e:Me α} {r r2:Bool}
  (hx:ev E x=some (.pointer (some ⟨i,0,none⟩))) (hi:(i,r,itO b since (seen++[e.n]) m.cl)∈H) (hm:(b,r2,m.obj kd)∈H) (he:e∈m.es) :
  Rd P E H (.entry x) (.tuple #[.int kd e.k,Mv.enc e.v]):=fun a w d ty pos af g h1 h2=>by
 have e0:w.heap[i]? =some (itO b since (seen++[e.n]) m.cl):=h2.here _ hi
 have e1:w.heap[b]? =some (.map (m.es.map (Me.ent kd)).toArray m.cl):=h2.here _ hm
 have hf:(m.es.map (Me.ent kd)).toArray.find? (·.born == e.n)=some (Me.ent kd e):=by
  rw [List.find?_toArray]
  exact V5 kd m.wn he
 simp only [execOp,Ba h1 hx,Instr.entry,Sem.run_bind]
 rw [Aar (P:=P) e0]
 simp only [A0p]
 have hb:(seen++[e.n]).toArray.back? =some e.n:=by simp
 rw [hb]
 simp only [Sem.run_bind]
 rw [Et (P:=P) e1]
 simp only [A0p,bne_self_eq_false,Az8,A21]
 rw [hf]
 rfl
end
section
variable {α:Type}
theorem Ib {m:Mp α} {seen:List Nat} (h:Gr m seen=[]):∀ e∈m.es,e.n∈seen:=fun e he=>by
 unfold Gr at h
 rw [List.filter_eq_nil_iff] at h
 have:=h e he
 simpa using this
def Hw (m:Mp α) (seen:List Nat):Nat:=((m.es.map (·.n)).filter fun i=> !decide (i∈seen)).length
theorem Da {m:Mp α} {seen:List Nat} {e:Me α} (he:e∈m.es) (hs:e.n∉seen):Hw m (seen++[e.n])<Hw m seen:=by
 unfold Hw
 have h:((m.es.map (·.n)).filter fun i=> !decide (i∈seen++[e.n]))=((m.es.map (·.n)).filter fun i=> !decide (i∈seen)).filter fun i=> !decide (i=e.n):=by
  rw [List.filter_filter]
  refine List.filter_congr fun i _=> ?_
  by_cases h1:i∈seen <;> by_cases h2:i=e.n <;> simp [h1,h2]
 rw [h]
 refine List.length_filter_lt_length_iff_exists.2 ⟨e.n,A1e.2 ⟨A2b.2 ⟨e,he,rfl⟩,by simpa using hs⟩,by simp⟩
theorem Mp.n_inj {m:Mp α} {x e:Me α} (hx:x∈m.es) (he:e∈m.es) (h1:x.n=e.n):x=e:=by
 have:∀ (es:List (Me α)),(es.map (·.n)).Nodup→x∈es→e∈es→x=e:=fun es=>by
  induction es with
  | nil=>intro _ h;cases h
  | cons y es ih =>
   intro hn ha hb
   rw [A15,A1c] at hn
   rcases A12.1 ha with ha | ha <;> rcases A12.1 hb with hb | hb
   ·rw [ha,hb]
   ·exact absurd (A2b.2 ⟨e,hb,by rw [← ha,h1]⟩) hn.1
   ·exact absurd (A2b.2 ⟨x,ha,by rw [← hb,h1]⟩) hn.1
   ·exact ih hn.2 ha hb
 exact this m.es m.wn hx he
def Mp.mapV (m:Mp α) (f:α→α):Mp α:=⟨m.es.map fun e=>{ e with v:=f e.v },m.cl,by rw [A2c];exact m.wk,by rw [A2c];exact m.wn,fun e he=>by
 obtain ⟨x,hx,rfl⟩:=A2b.1 he
 exact m.wc x hx⟩
def Mp.upS (m:Mp α) (f:α→α) (seen:List Nat):Mp α:=⟨m.es.map fun e=>if e.n∈seen then { e with v:=f e.v } else e,m.cl,by
 have:(m.es.map fun e=>if e.n∈seen then { e with v:=f e.v } else e).map (·.k)=m.es.map (·.k):=by
  rw [A2c];refine Azv fun e _=> ?_;simp only [Function.comp];split <;> rfl
 rw [this];exact m.wk,by
 have:(m.es.map fun e=>if e.n∈seen then { e with v:=f e.v } else e).map (·.n)=m.es.map (·.n):=by
  rw [A2c];refine Azv fun e _=> ?_;simp only [Function.comp];split <;> rfl
 rw [this];exact m.wn,fun e he=>by
 obtain ⟨x,hx,rfl⟩:=A2b.1 he
 have:=m.wc x hx
 split <;> exact this⟩
theorem Mp.ext {m m':Mp α} (h1:m.es=m'.es) (h2:m.cl=m'.cl):m=m':=by
 cases m;cases m';simp only at h1 h2;subst h1;subst h2;rfl
theorem Mp.upS_nil (m:Mp α) (f:α→α):m.upS f []=m:=by
 refine Mp.ext ?_ rfl
 show m.es.map _=m.es
 conv=>rhs;rw [← List.map_id m.es]
 exact Azv fun e _=>by simp
theorem Mp.upS_all {m:Mp α} {f:α→α} {seen:List Nat} (h:∀ e∈m.es,e.n∈seen):m.upS f seen=m.mapV f:=by
 refine Mp.ext ?_ rfl
 exact Azv fun e he=>by rw [A25 (h e he)]
theorem Mp.upS_mem {m:Mp α} {f:α→α} {seen:List Nat} {e:Me α} (h:e∈(m.upS f seen).es) (hs:e.n∉seen):e∈m.es:=by
 obtain ⟨x,hx,rfl⟩:=A2b.1 h
 by_cases h1:x.n∈seen
 ·rw [A25 h1] at hs;exact absurd h1 hs
 ·rw [A26 h1];exact hx
theorem Mp.upS_left {m:Mp α} {f:α→α} {seen:List Nat} (h:Gr (m.upS f seen) seen=[]):∀ e∈m.es,e.n∈seen:=fun e he=>by
 by_cases h1:e.n∈seen
 ·exact h1
 ·have h2:e∈(m.upS f seen).es:=A2b.2 ⟨e,he,by rw [A26 h1]⟩
  exact Ib h e h2
theorem Mp.upS_put {m:Mp α} {f:α→α} {seen:List Nat} {e:Me α} (he:e∈m.es) (hs:e.n∉seen):(m.upS f seen).put e.k (f e.v)=m.upS f (seen++[e.n]):=by
 have hk:e.k∈(m.upS f seen).keys:=A2b.2 ⟨e,A2b.2 ⟨e,he,by rw [A26 hs]⟩,rfl⟩
 unfold Mp.put
 rw [A22 hk]
 refine Mp.ext ?_ rfl
 show Jq (m.es.map fun e=>if e.n∈seen then { e with v:=f e.v } else e) e.k (f e.v)=m.es.map fun x=>if x.n∈seen++[e.n] then { x with v:=f x.v } else x
 unfold Jq
 rw [A2c]
 refine Azv fun x hx=> ?_
 simp only [Function.comp]
 by_cases h1:x.k=e.k
 ·have hxe:x=e:=by
   have h3:=m.wk
   have:∀ (es:List (Me α)),(es.map (·.k)).Nodup→x∈es→e∈es→x=e:=fun es=>by
    induction es with
    | nil=>intro _ h;cases h
    | cons y es ih =>
     intro hn ha hb
     rw [A15,A1c] at hn
     rcases A12.1 ha with ha | ha <;> rcases A12.1 hb with hb | hb
     ·rw [ha,hb]
     ·exact absurd (A2b.2 ⟨e,hb,by rw [← ha,h1]⟩) hn.1
     ·exact absurd (A2b.2 ⟨x,ha,by rw [← hb,h1]⟩) hn.1
     ·exact ih hn.2 ha hb
   exact this m.es h3 hx he
  subst hxe
  rw [A26 hs,A25 h1,A25 (Aza _ (Azy.2 rfl))]
 ·have hne:x.n≠e.n:=fun e2=>h1 (by
   have:∀ (es:List (Me α)),(es.map (·.n)).Nodup→x∈es→e∈es→x=e:=fun es=>by
    induction es with
    | nil=>intro _ h;cases h
    | cons y es ih =>
     intro hn ha hb
     rw [A15,A1c] at hn
     rcases A12.1 ha with ha | ha <;> rcases A12.1 hb with hb | hb
     ·rw [ha,hb]
     ·exact absurd (A2b.2 ⟨e,hb,by rw [← ha,e2]⟩) hn.1
     ·exact absurd (A2b.2 ⟨x,ha,by rw [← hb,e2]⟩) hn.1
     ·exact ih hn.2 ha hb
   rw [this m.es m.wn hx he])
  by_cases h2:x.n∈seen
  ·rw [A25 h2,A25 (Azo _ h2)]
   show (if x.k=e.k then _ else _)=_
   rw [A26 h1]
  ·rw [A26 h2,A26 h1,A26 (fun h3=>by rcases A1d.1 h3 with h4 | h4;exact h2 h4;exact hne (Azy.1 h4))]
theorem Mp.upS_skip {m:Mp α} {f:α→α} {seen:List Nat} {e:Me α} (he:e∈m.es) (hv:f e.v=e.v):m.upS f (seen++[e.n])=m.upS f seen:=by
 refine Mp.ext ?_ rfl
 refine Azv fun x hx=> ?_
 by_cases h2:x.n∈seen
 ·rw [A25 h2,A25 (Azo _ h2)]
 ·rw [A26 h2]
  by_cases h3:x.n=e.n
  ·have:∀ (es:List (Me α)),(es.map (·.n)).Nodup→x∈es→e∈es→x=e:=fun es=>by
    induction es with
    | nil=>intro _ h;cases h
    | cons y es ih =>
     intro hn ha hb
     rw [A15,A1c] at hn
     rcases A12.1 ha with ha | ha <;> rcases A12.1 hb with hb | hb
     ·rw [ha,hb]
     ·exact absurd (A2b.2 ⟨e,hb,by rw [← ha,h3]⟩) hn.1
     ·exact absurd (A2b.2 ⟨x,ha,by rw [← hb,h3]⟩) hn.1
     ·exact ih hn.2 ha hb
   have hxe:=this m.es m.wn hx he
   subst hxe
   rw [A25 (Aza _ (Azy.2 rfl)),hv]
  ·rw [A26 (fun h4=>by rcases A1d.1 h4 with h5 | h5;exact h2 h5;exact h3 (Azy.1 h5))]
theorem Mp.get_mapV (m:Mp α) (f:α→α) (k:Int):(m.mapV f).get k=(m.get k).map f:=by
 unfold Mp.get
 have:∀ (es:List (Me α)) (j:Nat),(Ck (es.map fun e=>{ e with v:=f e.v }) k j).map (·.2)=((Ck es k j).map (·.2)).map f:=fun es=>by
  induction es with
  | nil=>intro _;rfl
  | cons e es ih =>
   intro j
   rw [A15]
   unfold Ck
   by_cases h:k=e.k
   ·rw [A25 h,A25 h];rfl
   ·rw [A26 h,A26 h];exact ih _
 exact this m.es 0
end
section
variable {P:Program} {E:Env} {H:Hp} {α:Type} [Cel α]
theorem V6 {t T:TypeId} {x:Operand} {s:Sl α} {i o sz:Nat} {z:α} {vs:List Value} {p:Nat} [ht:Agg P t true] [hz:Siz P t sz] (hx:ev E x=some (.pointer (some ⟨s.bk,p,none⟩))) (hm:Sub (s.hp T) H) (hi:s.list[i]? =some z) (hv:cut (Cel.cs z) o sz=some vs)
  (hp:p=s.off+i*Cel.sz α+o):Rd P E H (.load t x) (.agg vs.toArray):=by
 have hlt:=(Aym.1 hi).1
 obtain ⟨r,cs,U,fr,h1,h2,h3⟩:=s.block T (by omega)
 have h4:=h3 i z hi
 subst hp
 exact Au hx (hm _ (by rw [h1];exact .head _)) (Afc h4 hv)
end
end
section
section
variable {α:Type} [Mv α] {P:Program} {n:Nat} {E:Env} {H:Hp} {Q:Dr} {ops:Array Oper} {rest:List Oper}
theorem At9 {t kt et:TypeId} {x:Operand} {v:Value} [ht:Und P t (.map kt et)] (hx:ev E x=some v):Rd P E H (.makeInterface t x) (.iface t v) :=
 fun a w d ty pos af g h1 h2=>by
  simp only [execOp,Ba h1 hx,Instr.makeInterface,Sem.run_bind,A10 ht.eq,A0p]
  rfl
theorem Add {t u kt et:TypeId} {x:Operand} {v:Value} [ht:Und P t (.map kt et)] (hx:ev E x=some (.iface t v)):Rd P E H (.typeAssert x u t false) v :=
 fun a w d ty pos af g h1 h2=>by
  simp only [execOp,Ba h1 hx,Instr.typeAssert,Sem.run_bind,A10 ht.eq,A0p]
  simp
theorem P8 (w:World) (d:Nat) (t k e:TypeId) (p:Option Nat) (h:P.underlying t=some (.map k e)):(Op.equalIn (d+1) t (.map p) (.map none)).run P w= .ok p.isNone w:=by
 cases p <;> simp [Op.equalIn,A10 h]
theorem Ahx {t kt et u:TypeId} {x y:Operand} {b:Nat} [ht:Und P t (.map kt et)] (hx:ev E x=some (.map (some b))) (hy:ev E y=some (.map none)):Rd P E H (.binOp .eql t x y u) (.bool false) :=
 fun a w d ty pos af g h1 h2=>X4 (fun _ _=>rfl) rfl (show (Op.equal t (.map (some b)) (.map none)).run P w= .ok false w from P8 w 9999 t kt et (some b) ht.eq) (Ba h1 hx) (Ba h1 hy) d ty pos af g u
class Mcl (P:Program) (f:FuncId):Prop where
 eq : ∃ fn, P.funcs[f]? = some fn ∧ (fn.name == "runtime.NumGoroutine") = false ∧ fn.body.isNone = true ∧ Extern.findNext fn = none ∧ Extern.find fn = some Extern.MapsClone.clone
theorem Alg [rg:Rg] {d:Nat} {f:FuncId} {t:TypeId} {x:Operand} {ts:Array TypeId} {ty:TypeId} {pos:A24} {af:Array Edge} {kd:IntKind} {b:Nat} {m:Mp α} {r:Bool} [hf:Mcl P f]
  (hx:ev E x=some (.iface t (.map (some b)))) (hm:(b,r,m.obj kd)∈H) (hd:Nat.blt d n=true)
  (k:∀ c,SO P n ops rest ((d,.iface t (.map (some c)))::E) ((c,true,m.obj kd)::H) Q) :
  SO P n ops (⟨some d,.call ⟨.value (.func f),#[x],ts⟩,ty,pos,af,none⟩::rest) E H Q:=by
 intro a w h1 h2 h3 h4
 refine A2n rfl fun K hK=> ?_
 obtain ⟨fn,f1,f2,f3,f4,f5⟩:=hf.eq
 have e0:w.heap[b]? =some (.map (m.es.map (Me.ent kd)).toArray m.cl):=h4.here _ hm
 have hr:(Extern.MapsClone.clone #[.iface t (.map (some b))]).run P w= .ok (.iface t (.map (some w.heap.size))) (w.alloc (.map (m.es.map (Me.ent kd)).toArray m.cl)):=by
  have e:Extern.MapsClone.clone #[.iface t (.map (some b))]=(getObj b >>= fun o=>match o with
   | .map entries clock=>(newObj (.map entries clock) >>= fun n=>pure (.iface t (.map (some n))))
   | _ => stuck "maps.clone: a map expected") := rfl
  rw [e,Sem.run_bind,Et (P:=P) e0]
  rfl
 have hrun:(execOp a.eval ⟨some d,.call ⟨.value (.func f),#[x],ts⟩,ty,pos,af,none⟩).run P w= .ok (.value (.iface t (.map (some w.heap.size)))) (w.alloc (m.obj kd)):=by
  simp only [execOp,resolve,Act.eval,Sem.run_bind,Deferred.ofValue,Sem.run_pure,A0p,invoke]
  have hxx:=Ba h1 hx
  have e1:(#[x].map a.eval++#[])=#[.iface t (.map (some b))]:=by simp [hxx]
  simp only [List.map_toArray,A15,A2d,hxx] at e1 ⊢
  have:=run_callFunc_extern (P:=P) f1 f2 f3 f4 f5 #[.iface t (.map (some b))] w
  rw [hr] at this
  simpa [Mp.obj] using this
 unfold Oper.wp
 rw [hrun]
 have hlt:d<a.tmps.size:=by rw [h2];exact Ay9 hd
 have htr:=Jp h4 (o:=m.obj kd) (fun _ _ _ e=>nomatch e)
 exact hK _ _ (B8 htr (k _ _ _ (h1.put hlt) (by simp [Act.put,h2]) h3 htr.ok))
end
end
section
open Go Go.Sem
set_option linter.unusedSectionVars false
section
variable {P:Program} {n f:Nat} {fn:Func} {E:Env} {H:Hp} {Q:Dr} {R:Value→Hp→Prop}
theorem Aas {i g:Nat} {gf:FuncId} {ps:Array Tmp} {asg bd y:Code} {fi ca:List Value} {L F:Hp} {R1:Hp→Prop} [he:Ent P gf]
  (hg:fnd E g=some (.func (.func gf) fi.toArray ca.toArray)) (hs:Split H L F)
  (hf:∀ (D l:Nat) (f0:FuncId) (tm:Array Value),EnvOk E { tmps:=tm,defers:=[] }→tm.size=n →
   Does P gf (fi++[.func (.yield l) #[] #[]]++ca) ((l,true,.loop ⟨.ready,none,f0,tm,ps,asg,bd,D⟩)::L) (fun _ Y=>∃ st M,Y=(l,true,.loop ⟨st,none,f0,tm,ps,asg,bd,D⟩)::M∧st≠.busy∧R1 M))
  (k:∀ (rg:Rg) (D:Nat) (M:Hp),R1 M→SC P n y E (mark D::(M++F)) (Ala P fn R D)) :
  SDk P fn n (.block i (.rangeFunc (.tmp g) ps asg bd)) y E H R:=by
 intro a w h1 h2 h3 h4
 refine wpIn_block (wpIn_rangeFunc fun f0 _=> ?_)
 have t1:=Jp h4 (o:= .deferred (some [])) (fun _ _ _ e=>nomatch e)
 have t2:=Jp t1.ok (o:= .loop ⟨.ready,none,f0,a.tmps,ps,asg,bd,w.heap.size⟩) (fun _ _ _ e=>nomatch e)
 have hsz:(w.alloc (.deferred (some []))).heap.size=w.heap.size+1:=Array.size_push ..
 rw [hsz] at t2
 obtain ⟨W,hW⟩:∃ W,W=(w.alloc (.deferred (some []))).alloc (.loop ⟨.ready,none,f0,a.tmps,ps,asg,bd,w.heap.size⟩):=⟨_,rfl⟩
 rw [← hW] at t2
 have hgv:a.eval (.tmp g)= .func (.func gf) fi.toArray ca.toArray:=h1 g _ hg
 have hen:=run_enterLoop_outer (P:=P) (w:=w) f0 a.tmps ps asg bd
 rw [← hW] at hen
 refine ⟨w.heap.size+1,[⟨.collected w.heap.size,#[]⟩],W,⟨.fn (.func gf) ca.toArray,(fi++[Value.func (.yield (w.heap.size+1)) #[] #[]]).toArray⟩,W,gf,(fi++[Value.func (.yield (w.heap.size+1)) #[] #[]]++ca).toArray,W,
  hen,?_,fun _ _=>trivial,?_,fun e=>(by cases e),?_⟩
 ·have hc:∀ v,a.eval (.const v)=v:=fun _=>rfl
  simp [resolve,rangeCall,hgv,hc,Deferred.ofValue,Sem.run_bind,Sem.run_pure,A0p]
 ·have:=he.eq (fi++[Value.func (.yield (w.heap.size+1)) #[] #[]]++ca).toArray W
  simpa [invoke] using this
 ·refine callsIn_wide.2 ?_
  have hp:=hs.perm
  have hok2:=t2.ok.perm ((List.Perm.cons _ ((List.Perm.cons _ hp).trans (A01 (l₁:=L) (a:=mark w.heap.size) (l₂:=F)).symm)))
  have hok3:HpOk (((w.heap.size+1,true,Obj.loop ⟨.ready,none,f0,a.tmps,ps,asg,bd,w.heap.size⟩)::L)++(mark w.heap.size::F)) W:=hok2
  refine (hf w.heap.size (w.heap.size+1) f0 a.tmps (by exact h1) h2 W hok3.left).mono ?_
  rintro e W2 ⟨v,Y,rfl,⟨st,M,rfl,hst,hR1⟩,ht⟩
  have t3:=ht.frame hok3
  have tp:Trk w W H (((w.heap.size+1,true,Obj.loop ⟨.ready,none,f0,a.tmps,ps,asg,bd,w.heap.size⟩)::L)++(mark w.heap.size::F)):=(t1.trans t2).sub hok3 (fun x hx=>by
   have:=(List.Perm.cons (w.heap.size+1,true,Obj.loop ⟨.ready,none,f0,a.tmps,ps,asg,bd,w.heap.size⟩) ((List.Perm.cons (mark w.heap.size) hp).trans (A01 (l₁:=L) (a:=mark w.heap.size) (l₂:=F)).symm)).mem_iff (a:=x)
   exact this.2 hx)
  have t4:=tp.trans t3
  have hl:=t4.ok.here _ (Azx)
  have t5:=Jo (b:=w.heap.size+1) (o':= .loop ⟨.exhausted,none,f0,a.tmps,ps,asg,bd,w.heap.size⟩) t4.ok .here (fun _ _ _ e=>nomatch e) (fun _ _ _ e=>nomatch e)
  have t6:=(t4.trans t5).drop .here
  have hpm:(M++mark w.heap.size::F).Perm (mark w.heap.size::(M++F)):=A01
  have t7:=t6.sub (t6.ok.perm hpm) (fun x hx=>hpm.mem_iff.2 hx)
  refine ⟨none,_,run_endLoop hl hst,?_⟩
  show y.wpIn Fence.wide 0 P _ _ _
  let rg:Rg:=⟨[⟨.collected w.heap.size,#[]⟩],none⟩
  have hk:=k rg w.heap.size M hR1 { a with defers:=[⟨.collected w.heap.size,#[]⟩]++a.defers } _ h1 h2 (by rw [h3];rfl) t7.ok (fun e=>by cases e)
  refine A2y (F:=Fence.wide) hk ?_
  rintro e a2 w2 ⟨E2,H2,m1,m2,m3,m4,m5⟩
  cases e with
  | normal=>obtain ⟨G,q1,v,L2,F3,q2,q3,q4⟩:=m5;exact ⟨.inl rfl,E2,H2,_,v,L2,m1,m3,t7.trans m4,G,F3,q1,q3,q2,q4⟩
  | ret=>obtain ⟨G,q1,v,L2,F3,q2,q3,q4⟩:=m5;exact ⟨.inr rfl,E2,H2,_,v,L2,m1,m3,t7.trans m4,G,F3,q1,q3,q2,q4⟩
  | _=>exact m5.elim
end
end
section
open Go Go.Sem
theorem Alh {w:World} {H:Hp} (h:HpOk H w) (os:Array Obj):Trk w { w with heap:=w.heap++os } H H:=by
 refine ⟨⟨h.far,fun x hx=> ?_⟩,rfl,rfl,rfl,fun a ha=> ?_,by simp,fun c hc _=> ?_,fun _ h=> .inl h,fun _ h=> .inl h⟩
 ·have:=h.lt hx
  show (w.heap++os)[x.1]? =_
  rw [Ayh this];exact h.here x hx
 ·simp only [World.frozen?,Ayh ha]
 ·show (w.heap++os)[c]? =_
  rw [Ayh hc]
theorem U8 {xs ys:List Int} {sp:List Value} (h:ys.length=xs.length):(Sort.putCells (Value.int .i64) 0 ys.toArray (cells xs++sp).toArray)=(cells ys++sp).toArray:=by
 have hc:∀ zs:List Int,(cells zs:List Value)=zs.map (Value.int .i64):=fun zs=>by
  induction zs with
  | nil=>rfl
  | cons z zs ih=>simp only [cells,A0m,A15] at *;rw [ih];rfl
 rw [hc,hc]
 unfold Sort.putCells
 apply Array.ext
 ·simp [h]
 ·intro i h1 h2
  simp only [Array.getElem_mapIdx,A2r,A2g,true_and,List.size_toArray,A2h,List.getElem_toArray]
  by_cases hi:i<ys.length
  ·rw [A25 hi,Ayy (by simpa using hi)]
   rw [getElem!_pos ys.toArray i (by simpa using hi)]
   simp
  ·rw [A26 hi,Ayr (by simpa [h] using hi),Ayr (by simpa using hi)]
   simp [h]
theorem Aat {w:World} {b n:Nat} {xs ys:List Int} {sp:List Value} {T:TypeId} {os:Array Obj} (h:HpOk [(b,true,C (cells xs++sp) T)] w) (hl:ys.length=xs.length) :
  Trk w (Sort.grow (Sort.putRow (Value.int .i64) (Sort.ahead w n) b 0 ys.toArray) os) [(b,true,C (cells xs++sp) T)] [(b,true,C (cells ys++sp) T)]:=by
 have t1:=Dl h (w.drawn+n)
 have hb:=t1.ok.here _ (Azx)
 have t2:=R6 (b:=b) (o:=C (cells xs++sp) T) (o':=C (cells ys++sp) T) t1.ok .here (fun i s=>by
  have hlt:=t1.ok.lt (x:=(b,true,C (cells xs++sp) T)) Azx
  rw [Lk hb]
  exact Lk (cs:=cells ys++sp) (T:=T) (by simp only at hlt;simp [Cq,hlt]) _ _)
 have e:Sort.putRow (Value.int .i64) (Sort.ahead w n) b 0 ys.toArray=Cq { w with drawn:=w.drawn+n } b (C (cells ys++sp) T):=by
  unfold Sort.putRow Sort.mapBlock Cq Sort.ahead
  congr 1
  apply Array.ext_getElem?
  intro k
  rw [Array.getElem?_modify,Ayd]
  by_cases hk:b=k
  ·subst hk
   have hlt:=t1.ok.lt (x:=(b,true,C (cells xs++sp) T)) Azx
   simp only at hb hlt
   rw [A25 rfl,A25 rfl,hb,A25 hlt]
   show some (Sort.onCells _ (.cells _ _ _))=_
   simp only [Sort.onCells]
   rw [U8 hl]
   rfl
  ·rw [A26 hk,A26 hk]
 have t3:=Alh t2.ok os
 unfold Sort.grow
 rw [e]
 exact (t1.trans t2).trans t3
end
section
open Go Go.Sem
set_option linter.unusedSectionVars false
section
variable {P:Program} {F:Fence} {n:Nat}
theorem Aau {fr:Frame} {cs:List Frame} {w w':World} {d:Deferred} {b:Builtin} {ts:Array TypeId} {ty:TypeId} {co:Array Bool} {v:Value} {ds:List Deferred}
  (hm:fr.mode≠.run) (hd:fr.defers=d::ds) (ht:d.target= .builtin b ts ty co) (hi:(invoke d.target d.args).run P w= .ok (.value v) w') :
  step P (lone fr cs w)= .next (lone { fr with defers:=ds } cs w'):=by
 obtain ⟨t,a⟩:=d
 simp only at ht hi
 subst ht
 refine step_lone_go ?_
 cases hmode:fr.mode with
 | run=>exact absurd hmode hm
 | returning=>simp [stepG,unwind,callDeferred,hmode,hd,hi,Sem.runT_eq,GStep.bare_after]
 | panicking chain=>simp [stepG,unwind,callDeferred,hmode,hd,hi,Sem.runT_eq,GStep.bare_after]
def LeavesB (F:Fence) (n:Nat) (P:Program) (fn:Func) (tmps:Array Value) (R:Ending→World→Prop):List Deferred→World→Prop
 | [],w=>LeavesIn F n P fn tmps R [] .returning w
 | d::ds,w=>∃ b ts ty co v w',d.target= .builtin b ts ty co∧(invoke d.target d.args).run P w= .ok (.value v) w'∧LeavesB F n P fn tmps R ds w'
theorem Mr {fn:Func} {tmps:Array Value} {R:Ending→World→Prop}:∀ (ds:List Deferred) (w:World) (fr:Frame)
  (cs:List Frame),fr.mode= .returning→fr.defers=ds→fr.tmps=tmps→P.funcs[fr.fn]? =some fn→fr.kind= .normal→F.fn fr.fn→F.room (cs.length+1+n)→LeavesB F n P fn tmps R ds w →
  ∃ e w' fr',R e w'∧ComesIn (Machine.fenced P F) P (lone fr cs w) (lone fr' cs w') e∧fr'.fn=fr.fn∧fr'.leaving P w' e:=by
 intro ds
 induction ds with
 | nil=>exact fun w fr cs hu hd ht hf hk hb hroom h=>leaves_stepsIn [] .returning w fr cs hu hd ht hf hk hb hroom h
 | cons d ds ih =>
  intro w fr cs hu hd ht hf hk hb hroom h
  obtain ⟨b,ts,ty,co,v,w',htar,hinv,hrest⟩:=h
  have hrun:fr.mode≠.run:=by rw [hu];intro h;cases h
  have h1:=Aau (cs:=cs) hrun hd htar hinv
  have i1:(lone fr cs w).fenced P F:=fenced_out hb hroom hrun hd (fun g hg=>by rw [htar] at hg;simp [Target.leads] at hg)
  obtain ⟨e',w'',fr',hR',hs',hfn',hl'⟩:=ih w' { fr with defers:=ds } cs hu rfl ht hf hk hb hroom hrest
  exact ⟨e',w'',fr',hR',ComesIn.of_steps (.one i1 h1) hs',hfn',hl'⟩
def Ahy (F:Fence) (n:Nat) (P:Program) (fn:Func) (R:Ending→World→Prop):Exit→Act→World→Prop
 | .normal,a,w | .ret,a,w=>LeavesB F n P fn a.tmps R a.defers w
 | .outgrown,_,w=>R .outgrown w
 | _,_,_=>False
theorem Tm {f:FuncId} {fn:Func} {c:Code} {args:Array Value} {w:World} {R:Ending→World→Prop}
  (hf:P.funcs[f]? =some fn) (hb:fn.body=some c) (hF:F.fn f)
  (h:c.wpIn F n P (Ahy F n P fn R) { tmps:=args++Array.replicate (fn.ntmps - args.size) undef,defers:=[] } w) (hro:F.round=none:=by rfl):CallsIn F n P f args w R:=by
 refine ⟨hF,fun cs hr=> ?_⟩
 let b:Frame:={ (default:Frame) with fn:=f,kind:= .normal,roundOf:=none }
 have henter:Frame.enter P f args .normal =
   b.atR { tmps:=args++Array.replicate (fn.ntmps - args.size) undef,defers:=[] } [.code c]:=by
  simp [Frame.enter,Frame.atR,hf,hb,b]
 obtain ⟨e,a',w',hq,harr⟩:=h b [] cs hro.symm hF hr
 rw [← henter] at harr
 cases e with
 | normal =>
  obtain ⟨e',w'',fr',hR,hs,hfn,hl⟩:=Mr a'.defers w' { b.atR a' [] with mode:= .returning } cs rfl rfl rfl hf rfl hF hr hq
  exact ⟨e',w'',fr',hR,ComesIn.of_steps (StepsIn.trans harr (.one (fenced_calm (fr:=b.atR a' []) hF hr rfl) (stepR_end rfl))) hs,hfn,hl⟩
 | ret =>
  obtain ⟨todo,hs₀⟩:=harr.1 rfl
  obtain ⟨e',w'',fr',hR,hs,hfn,hl⟩:=Mr a'.defers w' { b.atR a' todo with mode:= .returning } cs rfl rfl rfl hf rfl hF hr hq
  exact ⟨e',w'',fr',hR,ComesIn.of_steps hs₀ hs,hfn,hl⟩
 | panic chain=>exact hq.elim
 | exit id=>exact hq.elim
 | goto l=>exact hq.elim
 | outgrown=>exact ⟨.outgrown,w',b,hq,harr.resolve_left (by simp [b]),rfl,trivial⟩
end
end
section
open Go Go.Sem
set_option linter.unusedSectionVars false
def BR (w:World) (H:Hp) (R:Value→Hp→Prop):Ending→World→Prop:=fun e w''=>∃ v H',e= .returned v∧R v H'∧Trk w w'' H H'
def BQ (P:Program) (fn:Func) (w:World) (H:Hp) (R:Value→Hp→Prop):Exit→Act→World→Prop:=fun e a' w' =>
 (e= .normal∨e= .ret)∧LeavesB Fence.wide 0 P fn a'.tmps (BR w H R) a'.defers w'
def SBf (P:Program) (fn:Func) (n:Nat) (c:Code) (E:Env) (H:Hp) (R:Value→Hp→Prop):Prop :=
 ∀ a w,EnvOk E a→a.tmps.size=n→a.defers=[]→HpOk H w→c.wpIn Fence.wide 0 P (BQ P fn w H R) a w
section
variable {P:Program} {n f:Nat} {fn:Func} {E:Env} {H:Hp} {R:Value→Hp→Prop}
theorem LeavesB.mono {tmps:Array Value} {R1 R2:Ending→World→Prop} (h:∀ e w,R1 e w→R2 e w):∀ (ds:List Deferred) (w:World),LeavesB Fence.wide 0 P fn tmps R1 ds w→LeavesB Fence.wide 0 P fn tmps R2 ds w
 | [],w,⟨v,h1,h2⟩=>⟨v,h1,h _ _ h2⟩
 | d::ds,w,⟨b,ts,ty,co,v,w',h1,h2,h3⟩=>⟨b,ts,ty,co,v,w',h1,h2,LeavesB.mono h ds w' h3⟩
theorem BQ.after {w w1:World} {H1:Hp} (ht:Trk w w1 H H1) {e:Exit} {a:Act} {w':World} (h:BQ P fn w1 H1 R e a w'):BQ P fn w H R e a w' :=
 ⟨h.1,LeavesB.mono (fun e w ⟨v,H',h1,h2,h3⟩=>⟨v,H',h1,h2,ht.trans h3⟩) _ _ h.2⟩
theorem Ahz {c:Code} {args:List Value} (hf:P.funcs[f]? =some fn) (hn:fn.ntmps=n) (hb:fn.body=some c) (hl:args.length≤n) (h:SBf P fn n c (Pz 0 args) H R):Does P f args H R:=by
 intro w hw
 refine callsIn_wide.1 (Tm (n:=0) hf hb trivial (A2y (h { tmps:=args.toArray++Array.replicate (fn.ntmps - args.toArray.size) undef,defers:=[] } w ?_ ?_ rfl hw) ?_))
 ·intro i v hv
  obtain ⟨_,h2⟩:=Kc args 0 i v hv
  have hi:i<args.length:=(Aym.1 (by simpa using h2)).1
  simp only [Aye]
  rw [Ayh (by simpa using hi)]
  have h2':args[i]? =some v:=by simpa using h2
  simp [h2']
 ·simp;omega
 ·rintro e a' w' ⟨k0,k1⟩
  rcases k0 with rfl | rfl
  ·exact k1
  ·exact k1
theorem Avz {w w':World} {E':Env} {H':Hp} {a':Act} {e:Exit} (he:e= .normal∨e= .ret) (h1:EnvOk E' a') (h3:a'.defers=[]) (h4:Trk w w' H H') (h5:Kv P fn R .ret E' H'):BQ P fn w H R e a' w':=by
 obtain ⟨v,L,F,q1,q2,q3⟩:=h5
 refine ⟨he,?_⟩
 rw [h3]
 exact ⟨v,q1 a' w' h1 h4.ok,v,L,rfl,q3,h4.split q2⟩
def thB (P:Program) (fn:Func) (R:Value→Hp→Prop) (K:Env→Hp→Prop):Dr
 | .normal,E,H=>K E H
 | .ret,E,H=>Kv P fn R .ret E H
 | _,_,_=>False
theorem Ms {x y:Code} (h:SC P n x E H (thB P fn R fun E' H'=>SBf P fn n y E' H' R)):SBf P fn n (.seq x y) E H R:=by
 intro a w h1 h2 h3 h4
 refine wpIn_seq (A2y (h a w h1 h2 h3 h4 fun e=>by cases e) ?_)
 rintro e a' w' ⟨E',H',k1,k2,k3,k4,k5⟩
 cases e with
 | normal=>exact A2y (k5 a' w' k1 k2 k3 k4.ok) fun e a2 w2 hh=>hh.after k4
 | ret=>exact Avz (.inr rfl) k1 k3 k4 k5
 | exit i=>exact k5.elim
 | goto l=>exact k5.elim
 | panic ch=>exact k5.elim
 | outgrown=>exact k5.elim
end
end
section
open Go Go.Sem
set_option linter.unusedSectionVars false
def Ade (t ty:TypeId) (b:Nat):Deferred:={ target:= .builtin .clear #[t] ty #[false],args:=#[.map (some b)] }
def Ali (α:Type) [Mv α] (P:Program) (fn:Func) (R:Value→Hp→Prop) (b:Nat):Dr
 | .normal,E,H | .ret,E,H=>∃ (kd:IntKind) (m:Mp α) (G:Hp),Upd b (m.obj kd) (m.clr.obj kd) H G∧Kv P fn R .ret E G
 | _,_,_=>False
section
variable {P:Program} {n f:Nat} {fn:Func} {E:Env} {H:Hp} {R:Value→Hp→Prop}
theorem Aqk (α:Type) [Mv α] {id b d0:Nat} {l x:List Oper} {y:Code} {t ty kt et:TypeId} {pos:A24} {af:Array Edge} [ht:Und P t (.map kt et)]
  (hx:l.dropLast=x) (hd:l.getLast? =some ⟨none,.defer ⟨.builtin .clear,#[.tmp d0],#[t]⟩,ty,pos,af,none⟩)
  (h:∀ ops,SO P n ops x E H (fun e E' H'=>e= .normal∧ev E' (.tmp d0)=some (.map (some b))∧∀ rg:Rg,rg.ds=[Ade t ty b]→rg.rd=none→SC P n y E' H' (Ali α P fn R b))) :
  SBf P fn n (.seq (.region id l.toArray false) y) E H R:=by
 have hl:l=x++[⟨none,.defer ⟨.builtin .clear,#[.tmp d0],#[t]⟩,ty,pos,af,none⟩]:=by
  obtain ⟨ys,rfl⟩:=List.getLast?_eq_some_iff.1 hd
  rw [List.dropLast_concat] at hx
  rw [hx]
 intro a w h1 h2 h3 h4
 refine wpIn_seq (wpIn_region_lit ?_)
 subst hl
 refine N5 _ (Q:=Up n w H (fun e E' H'=>e= .normal∧ev E' (.tmp d0)=some (.map (some b))∧∀ rg:Rg,rg.ds=[Ade t ty b]→rg.rd=none→SC P n y E' H' (Ali α P fn R b))) ?_ ?_ x a w (fun e=>by cases e) (h _ a w h1 h2 h3 h4)
 ·rintro a' w' ⟨E',H',k1,k2,k3,k4,_,k5,k6⟩
  have hrun:(execOp a'.eval ⟨none,.defer ⟨.builtin .clear,#[.tmp d0],#[t]⟩,ty,pos,af,none⟩).run P w'= .ok (.defer (Ade t ty b)) w':=by
   simp only [execOp,B9,Sem.run_bind,A0p,Sem.run_pure]
   simp [Ade,Ba k1 k5]
  unfold wpListIn
  rw [A25 (Kk (Y:=[]) (fun _ _ h=>by cases h) rfl k1)]
  refine ⟨fun _ _=>trivial,?_⟩
  have hs:∀ o:Oper,Oper.semAt (Rg.F).round a'.eval o=execOp a'.eval o:=fun o=>rfl
  rw [hs,hrun,Oper.uponIn_defer]
  show y.wpIn Fence.wide 0 P (BQ P fn w H R) _ w'
  let rg:Rg:=⟨[Ade t ty b],none⟩
  have hk:=k6 rg rfl rfl { a' with defers:=Ade t ty b::a'.defers } w' k1 k2 (by rw [k3];rfl) k4.ok (fun e=>by cases e)
  refine A2y (F:=Fence.wide) hk ?_
  rintro e a2 w2 ⟨E2,H2,m1,m2,m3,m4,m5⟩
  have fin:(∃ (kd:IntKind) (m:Mp α) (G:Hp),Upd b (m.obj kd) (m.clr.obj kd) H2 G∧Kv P fn R .ret E2 G)→LeavesB Fence.wide 0 P fn a2.tmps (BR w H R) a2.defers w2:=by
   rintro ⟨kd,m,G,hu,v,L,F,q1,q2,q3⟩
   have e0:w2.heap[b]? =some (m.obj kd):=m4.ok.here _ hu.mem
   have hc:=Afj (P:=P) (t:=t) (ty:=ty) e0
   have htr:=R7 m4.ok hu
   have hall:=(k4.trans m4).trans htr
   rw [m3]
   refine ⟨.clear,#[t],ty,#[false],.tuple #[],_,rfl,?_,v,q1 a2 _ m1 htr.ok,v,L,rfl,q3,hall.split q2⟩
   simp [Ade,invoke,builtin,hc]
  cases e with
  | normal=>exact ⟨.inl rfl,fin m5⟩
  | ret=>exact ⟨.inr rfl,fin m5⟩
  | exit i=>exact m5.elim
  | goto l=>exact m5.elim
  | panic ch=>exact m5.elim
  | outgrown=>exact m5.elim
 ·rintro e a' w' he ⟨E',H',k1,k2,k3,k4,k5,_⟩
  exact he k5
end
end
section
open Go Go.Sem
set_option linter.unusedSectionVars false
theorem Alp {w:World} {H:Hp} (h:HpOk H w) {o:Obj}:Trk w { w with heap:=w.heap.push o } H ((w.heap.size,true,o)::H):=by
 refine ⟨⟨?_,fun x hx=> ?_⟩,rfl,rfl,rfl,fun a ha=> ?_,by simp,fun c hc _=> ?_,?_,?_⟩
 ·refine Az3.2 ⟨fun x hx e=> ?_,h.far⟩
  have:=h.lt hx
  simp only at e
  omega
 ·cases hx with
  | head=>simp
  | tail _ hx=>have:=h.lt hx;simp [Azu,h.here x hx];omega
 ·obtain ⟨ab,ao,as0⟩:=a
  have ha:ab<w.heap.size:=ha
  have hb:ab≠w.heap.size:=by omega
  simp [World.frozen?,Azu,hb]
 ·simp [Azu];omega
 ·rintro c ⟨x,hx,rfl⟩
  cases hx with
  | head=>exact .inr (A2q _)
  | tail _ hx=>exact .inl ⟨x,hx,rfl⟩
 ·rintro c ⟨x,hx,rfl,hr⟩
  cases hx with
  | head=>exact .inr (A2q _)
  | tail _ hx=>exact .inl ⟨x,hx,rfl,hr⟩
section
variable {P:Program} {n:Nat} {E:Env} {H:Hp} {Q:Dr} {ops:Array Oper} {rest:List Oper}
theorem Afl [rg:Rg] {d d2:Nat} {t e:TypeId} {l:Nat} {ps:List (Nat×Operand)} {ty ty2:TypeId} {pos pos2:A24} {af af2:Array Edge} {vs:List (Nat×Value)} {cs zs:List Value} [ht:Und P t (.slice e)] [he:Und P e (.int .u8)] [hz:Zer P e zs] [hs:Siz P e zs.length]
  (hv:evs E ps=some vs) (hb:On zs.length (Gn l zs) vs=some cs) (hl:Nat.ble (l*zs.length) 16777216=true) (hd:Nat.blt d n=true) (hd2:Nat.blt d2 n=true)
  (k:∀ b,SO P n ops rest ((d2,.slice (some ⟨b,0,none⟩) l l)::(d,.slice (some ⟨b,0,none⟩) l l)::E) ((b,true,CF cs e (cs.length,cs.length+1))::H) Q) :
  SO P n ops (⟨some d,.buildSlice t l ps.toArray,ty,pos,af,none⟩::⟨some d2,.convert t t (.tmp d),ty2,pos2,af2,none⟩::rest) E H Q:=by
 intro a w h1 h2 h3 h4
 have hbs:(Instr.buildSlice t l vs.toArray).run P w= .ok (.slice (some ⟨w.heap.size,0,none⟩) l l) { w with heap:=w.heap.push (C cs e) }:=by
  obtain ⟨z,hz1,hz2⟩:=Ed (P:=P) (t:=e) w
  have hfill:=Oo zs.length vs (Gn l zs) cs hb
  have hl':¬ l*zs.length>2 ^ 24:=by have:=Ay9 hl;omega
  simp only [Instr.buildSlice,Sem.run_bind,A10 ht.eq,A0p,Bw,hl',A21]
  by_cases h0:l*zs.length=0
  ·have he:Gn l zs=[]:=Ay0.1 (by rw [Js];exact h0)
   rw [he] at hfill
   have hr:Array.range 0=#[]:=rfl
   simp [h0,hr,hfill,newRow,C,CF]
  ·simp only [h0,A21,Sem.run_bind,hz1,A0p,Sem.run_pure]
   rw [Sa l z.cells zs hz2,hfill]
   simp [newRow,C,CF]
 have hrun:(execOp a.eval ⟨some d,.buildSlice t l ps.toArray,ty,pos,af,none⟩).run P w= .ok (.value (.slice (some ⟨w.heap.size,0,none⟩) l l)) { w with heap:=w.heap.push (C cs e) }:=by
  have:=M9 h1 hv
  have e2:(ps.toArray.map fun (i,x)=>(i,a.eval x))=vs.toArray:=by rw [← this];simp
  simp only [execOp,Sem.run_bind]
  rw [e2,hbs];rfl
 have hlt:d<a.tmps.size:=by rw [h2];exact Ay9 hd
 have h1':=h1.put (v:= .slice (some ⟨w.heap.size,0,none⟩) l l) hlt
 have hrun2:(execOp (a.put (some d) (.slice (some ⟨w.heap.size,0,none⟩) l l)).eval ⟨some d2,.convert t t (.tmp d),ty2,pos2,af2,none⟩).run P { w with heap:=w.heap.push (C cs e) }= .ok (.value (.slice (some ⟨w.heap.size,0,none⟩) l l)) { w with heap:=w.heap.push (CF cs e (cs.length,cs.length+1)) }:=by
  have hev:=Ba h1' (x:= .tmp d) (v:= .slice (some ⟨w.heap.size,0,none⟩) l l) (by show fnd ((d,_)::E) d=_;unfold fnd;rw [Nat.beq_refl];rfl)
  simp only [execOp,hev,Sem.run_bind]
  have:=Lib.run_convert_bytes_const (P:=P) w t e cs.toArray l l ht.eq he.eq
  have h5:(convert t t (.slice (some ⟨w.heap.size,0,none⟩) l l)).run P { w with heap:=w.heap.push (C cs e) }= .ok (.slice (some ⟨w.heap.size,0,none⟩) l l) { w with heap:=w.heap.push (CF cs e (cs.length,cs.length+1)) }:=this
  rw [h5];rfl
 refine A2n rfl fun K hK=> ?_
 unfold Oper.wp
 rw [hrun]
 refine hK _ _ (A2n rfl fun K2 hK2=> ?_)
 unfold Oper.wp
 rw [hrun2]
 have hlt2:d2<(a.put (some d) (.slice (some ⟨w.heap.size,0,none⟩) l l)).tmps.size:=by simp [Act.put,h2];exact Ay9 hd2
 have htr:=Alp (o:=CF cs e (cs.length,cs.length+1)) h4
 exact hK2 _ _ (B8 htr (k _ _ _ (h1'.put hlt2) (by simp [Act.put,h2]) h3 htr.ok))
end
end
section
open Go.ChangeShapes Go.WideShapes Go.ChangeAt Go.RowKit
def Cf:Kd→Value→Prop
 | some k,v=>∃ n,v= .int k n∧(Lit.int k n).wf=true
 | none,v=>∃ b,v= .bool b
def Conf:List Kd→List Value→Prop
 | [],[]=>True
 | k::ks,c::cs=>Cf k c∧Conf ks cs
 | _,_=>False
theorem Conf.len:∀ {ks:List Kd} {cs:List Value},Conf ks cs→cs.length=ks.length
 | [],[],_=>rfl
 | [],_::_,h=>h.elim
 | _::_,[],h=>h.elim
 | k::ks,c::cs,h=>by simp [Conf.len h.2]
section
variable {H:Type} {enc:TypeId×Value→H} {P:Program} {w:World} {base:Nat} {spare:Nat→Bool} {held:Bool}
theorem cells_get {a:Addr} {n:Nat} {cs:List Value} (h:w.cells? base a n=some cs):∀ i<n,∃ v,w.cell? (a.add i)=some v∧cs[i]? =some v:=by
 unfold World.cells? at h
 split at h
 ·intro i hi
  have:=mapM_get (fun i=>w.cell? (a.add i)) (List.range n) cs h i (by simpa using hi)
  simpa using this
 ·cases h
where
 mapM_get {α β:Type} (f:α→Option β):∀ (l:List α) (r:List β),l.mapM f=some r→∀ i (h:i<l.length),∃ y,f l[i]=some y∧r[i]? =some y
  | [],r,h,i,hi=>by simp at hi
  | a::l,r,h,i,hi=>by
   rw [A1v] at h
   cases ha:f a with
   | none=>simp [ha] at h
   | some b =>
    cases hl:l.mapM f with
    | none=>simp [ha,hl] at h
    | some r' =>
     simp [ha,hl] at h
     subst h
     cases i with
     | zero=>exact ⟨b,ha,rfl⟩
     | succ i=>simpa using mapM_get f l r' hl i (by simpa using hi)
theorem Mx (hl:laidOutB P=true) {W W':World} (hb:Below W.heap.size W W') {sp:Nat→Bool}:∀ (ts:List TypeId) (vs:List Value) (ds:List (DataW H)) (ps:List MemPlace),(ts.all fun t=>P.readableRec t && decide (t<P.types.size))=true →
  DataW.TrodAll enc P W 0 (fun _=>true) true ts vs ds ps→(∀ p∈ps,p.block<W.heap.size)→(∀ p∈ps,sp p.block=true)→DataW.TrodAll enc P W' 0 sp true ts vs ds ps
 | [],vs,ds,ps,_,h,_,_=>by
  obtain ⟨rfl,rfl,rfl⟩:=trodAll_nil h
  exact trodAll_mk0
 | t::ts,vs,ds,ps,hr,h,h1,h2=>by
  obtain ⟨v,vs',d,ds',p,q,rfl,rfl,rfl,h3,h4⟩:=trodAll_cons h
  simp only [A14,A0r,A0d] at hr
  refine trodAll_cons_mk ?_ (Mx hl hb ts vs' ds' q hr.2 h4 (fun x hx=>h1 x (Aza _ hx)) (fun x hx=>h2 x (Aza _ hx)))
  exact WideElems.Trod_stays hl hr.1.1 hr.1.2 h3 (fun x hx=>hb.same (h1 x (Azo _ hx))) (fun x hx=>h2 x (Azo _ hx))
theorem Am2 {W W':World} {L L':Hp} (ht:Trk W W' L L') (hro:∀ x∈L,x.2.1=false):Below W.heap.size W W' :=
 ⟨ht.os,ht.tape,ht.out,ht.size,fun k hk=>ht.same k hk (fun ⟨x,hx,_,hr⟩=>by rw [hro x hx] at hr;cases hr)⟩
theorem Abp {f:Func} {s:ChangeSpec} {H:Type} {enc:TypeId×Value→H} {P:Program} {apart fresh handsOn again:Bool} {W W':World} {args:Array Value} {v:Value} {ds gs:List (DataW H)} {before pa pv:List MemPlace}
  (hW:DataW.Whole enc P f.params.toList s.vars apart W args.toList ds gs before)
  (hres:∀ (b:Nat) (sp:Nat→Bool) (hd:Bool),DataW.TrodAll enc P W' b sp hd f.resultTypes.toList (v.resultList f.resultTypes.size) (s.fn H (ds++gs)).results [])
  (hargs:∀ sp:Nat→Bool,(∀ p∈before,sp p.block=true)→DataW.TrodAll enc P W' 0 sp true f.params.toList args.toList (s.fn H (ds++gs)).args pa)
  (hvars:∀ sp:Nat→Bool,(∀ p∈before,sp p.block=true)→DataW.TrodVars enc P W' sp s.vars (s.fn H (ds++gs)).vars pv)
  (hps:before=pa++pv) (hk:W.keptBut W' (·∈before)) (hfz:∀ a,a.block<W.heap.size→W'.frozen? a=W.frozen? a)
  (hok:∀ (j:Nat) (t:TypeId) (r:Value),f.resultTypes[j]? =some t→(v.resultList f.resultTypes.size)[j]? =some r→Value.okWide P W' .any 0 t r) :
  s.post enc P f apart fresh handsOn again W args v W':=by
 have hlt:∀ p∈before,p.block<W.heap.size:=fun p hp=>hW.lt p hp
 have hold:∀ p∈before,(fun b=>decide (b<W.heap.size)) p.block=true:=fun p hp=>by simpa using hlt p hp
 refine ⟨ds,gs,before,[],pa,pv,hW,hres _ _ _,hargs _ hold,hvars _ hold,World.keptBut_mono (fun p hp=>⟨hp,?_⟩) hk,fun _=> ?_⟩
 ·rw [hps,A1d] at hp
  exact Or.inr hp
 ·obtain ⟨_,_,_,_,_,hz,hn⟩:=hW
  refine ⟨hok,_,_,([]++pa)++pv,⟨[]++pa,pv,trodAll_append (hargs _ (fun _ _=>rfl)) (hres _ _ _),hvars _ (fun _ _=>rfl),rfl,?_,?_⟩,?_⟩
  ·intro b off hp
   have hb:MemPlace.cell b off∈before:=by rw [hps];simpa using hp
   rw [hfz _ (hlt _ hb)]
   exact hz b off hb
  ·intro ha
   have:=hn ha
   rw [hps] at this
   simpa using this
  ·intro p hp _
   rw [hps]
   simpa using hp
theorem Am3 {f:Func} {s:ChangeSpec} {apart:Bool} {W W':World} {args:Array Value} {ds gs:List (DataW H)} {before:List MemPlace} {bt:TypeId} {L L':Hp}
  (hl:laidOutB P=true) (hW:DataW.Whole enc P f.params.toList s.vars apart W args.toList ds gs before) (hvars:s.vars=[]) (hread:(f.params.toList.all fun t=>P.readableRec t && decide (t<P.types.size))=true)
  (hbt:P.underlying bt=some .bool) (hres:f.resultTypes=#[bt]) (ht:Trk W W' L L') (hro:∀ x∈L,x.2.1=false)
  (hspec:s.fn H (ds++gs)={ results:=[.lit (.bool true)],args:=ds }):s.post enc P f apart true false false W args (.bool true) W':=by
 have hb:=Am2 ht hro
 have hW':=hW
 obtain ⟨p,q,hA,hV,rfl,hfz,hnd⟩:=hW
 rw [hvars] at hV
 have hq:gs=[]∧q=[]:=by
  cases gs with
  | nil=>exact ⟨rfl,hV⟩
  | cons g gs=>exact hV.elim
 obtain ⟨rfl,rfl⟩:=hq
 have hlt:∀ x∈p,x.block<W.heap.size:=fun x hx=>hW'.lt x (Azo _ hx)
 refine Abp (pa:=p) (pv:=[]) hW' (fun b sp hd=> ?_) (fun sp hsp=> ?_) (fun sp hsp=> ?_) rfl (hb.frame _) ht.fz (ok_one hres rfl (okWide_bool_mk hbt _))
 ·rw [hspec,hres]
  exact trodAll_cons_mk (shut_bool hbt _) trodAll_mk0
 ·rw [hspec]
  exact Mx hl hb _ _ _ _ hread hA hlt (fun x hx=>hsp x (Azo _ hx))
 ·rw [hspec,hvars]
  rfl
end
end
section
open Go.ChangeShapes Go.WideShapes Go.ChangeAt Go.RowKit
section
variable {H:Type} {enc:TypeId×Value→H} {P:Program} {w:World} {base:Nat} {spare:Nat→Bool} {held:Bool}
theorem row_byte {row:List Value} (h:Conf [some .u8] row):∃ x:By,row=Cel.cs x:=by
 obtain ⟨v,rfl⟩:=List.length_eq_one_iff.1 h.len
 obtain ⟨n,rfl,hw⟩:=h.1
 have hn:0≤n∧n<256:=by simp [Lit.wf,IntKind.min,IntKind.max,IntKind.bits,IntKind.signed] at hw;omega
 have e:(((BitVec.ofInt 8 n).toNat:Nat):Int)=n:=by
  rw [Az9]
  omega
 refine ⟨BitVec.ofInt 8 n,?_⟩
 show [Value.int .u8 n]=[Value.int .u8 ((BitVec.ofInt 8 n).toNat:Int)]
 rw [e]
theorem Ari {f:FuncId} {args:List Value} {L L':Hp} {W:World} (hL:HpOk L W) (hro:∀ x∈L,x.2.1=false) (h:Does P f args L (fun v H=>v= .bool true)) :
  Calls P f args.toArray W fun e W'=>e= .returned (.bool true)∧∃ L L',Trk W W' L L'∧∀ x∈L,x.2.1=false :=
 (h W hL).mono fun e W' ⟨v,L',he,hv,ht⟩=>⟨by rw [he,hv],L,L',ht,hro⟩
end
end
section
open Go.ChangeShapes Go.WideShapes Go.ChangeAt Go.RowKit
def RoOk (w:World) (L:Hp):Prop:=HpOk L w∧∀ x∈L,x.2.1=false
theorem RoOk.nil {w:World}:RoOk w []:=⟨⟨List.Pairwise.nil,fun x hx=>by cases hx⟩,fun x hx=>by cases hx⟩
theorem RoOk.app {w:World} {L M:Hp} (h1:RoOk w L) (h2:RoOk w M):RoOk w (L++M):=by
 refine ⟨⟨Azs.2 ⟨h1.1.far,h2.1.far,fun x hx y hy _=>⟨h1.2 x hx,h2.2 y hy⟩⟩,fun x hx=> ?_⟩,fun x hx=> ?_⟩
 ·rcases A1d.1 hx with h | h
  ·exact h1.1.here x h
  ·exact h2.1.here x h
 ·rcases A1d.1 hx with h | h
  ·exact h1.2 x h
  ·exact h2.2 x h
theorem RoOk.flat {w:World} {α:Type} {M:α→Hp}:∀ {l:List α},(∀ x∈l,RoOk w (M x))→RoOk w (l.flatMap M)
 | [],_=> .nil
 | x::l,h=>by
  rw [A0m]
  exact (h x (.head _)).app (RoOk.flat fun y hy=>h y (.tail _ hy))
section
variable {H:Type} {enc:TypeId×Value→H} {P:Program} {w:World} {base:Nat} {spare:Nat→Bool} {held:Bool}
theorem Axf {n len:Nat} {a:Addr} (hn:0<n) (hl:0<len) {row:Nat→List Value} (hrow:∀ i<len,(row i).length=n∧w.cells? base (a.add (i*n)) n=some (row i)) :
  ∃ b o cs T fr,a=⟨b,o,none⟩∧HpOk [(b,false,CF cs T fr)] w∧∀ i<len,cut cs (o+i*n) n=some (row i):=by
 obtain ⟨v0,hv0,_⟩:=cells_get (hrow 0 hl).2 0 hn
 obtain ⟨b,o,sp⟩:=a
 have hsp:sp=none:=by
  simp only [Nat.zero_mul,Addr.add,if_true] at hv0
  cases sp with
  | none=>rfl
  | some s=>simp [World.cell?] at hv0;split at hv0 <;> cases hv0
 subst hsp
 rw [Dx,Dx] at hv0
 have hblk:∃ cs T fr,w.heap[b]? =some (CF cs T fr):=by
  simp only [World.cell?] at hv0
  split at hv0
  ·rename_i c T fr hh;exact ⟨c.toList,T,fr,by rw [hh];simp [CF]⟩
  ·cases hv0
 obtain ⟨cs,T,fr,hh⟩:=hblk
 refine ⟨b,o,cs,T,fr,rfl,⟨by simp,fun x hx=>by simp at hx;subst hx;exact hh⟩,fun i hi=> ?_⟩
 obtain ⟨hlen,hc⟩:=hrow i hi
 have hget:∀ j<n,cs[o+i*n+j]? =(row i)[j]? :=by
  intro j hj'
  obtain ⟨v,h1,h2⟩:=cells_get hc j hj'
  rw [Dx,Dx,M7 hh,Ee] at h1
  rw [h1,h2]
 refine Ak8 ?_ ?_
 ·apply A0o
  intro j
  by_cases hj':j<n
  ·rw [Az5,A25 hj',Az4,hget j hj']
  ·rw [Azk (by omega),Azk (by simp;omega)]
 ·have hlast:=hget (n - 1) (by omega)
  have hsome:∃ v,(row i)[n - 1]? =some v:=⟨(row i)[n - 1]'(by omega),Ayw (by omega)⟩
  obtain ⟨v,hv⟩:=hsome
  rw [hv] at hlast
  have:=(Aym.1 hlast).1
  omega
theorem Axc {α:Type} [Cel α] {t e:TypeId} {fuel:Nat} {cs:List Value} {x:DataW H×List MemPlace} (ht:P.underlying t=some (.slice e)) (hn:P.cellsOf e=Cel.sz α) (h0:0<Cel.sz α) (M:α→Hp)
  (hrow:∀ m row y,DataW.trod enc P w base spare held m e row=some y→∃ x:α,row=Cel.cs x∧RoOk w (M x)) (T:TypeId)
  (h:DataW.trod enc P w base spare held fuel t cs=some x):∃ s:Sl α,cs=[s.val]∧RoOk w (s.hp T)∧RoOk w (s.list.flatMap M):=by
 rcases DataW.trod_slice ht h with ⟨rfl,_⟩ | ⟨a,len,cap,elems,rest,n,_,rfl,_,_,hlc,hcap,hel,hi,_⟩
 ·exact ⟨.nil,rfl,by rw [Sl.hp_nil];exact .nil,.nil⟩
 ·rw [hn] at hi
  have hall:∀ i<len,∃ x:α,w.cells? base (a.add (i*Cel.sz α)) (Cel.sz α)=some (Cel.cs x)∧RoOk w (M x):=fun i hil=>by
   have h1:=hi i hil
   rw [Ayw (by omega)] at h1
   obtain ⟨row,h2,h3⟩:=Option.bind_eq_some_iff.1 h1
   obtain ⟨x,rfl,h4⟩:=hrow _ _ _ h3
   exact ⟨x,h2,h4⟩
  by_cases hl0:len=0
  ·subst hl0
   exact ⟨.vac a cap,rfl,by rw [Sl.hp_vac];exact .nil,.nil⟩
  ·have hch:∃ f:Nat→α,∀ i<len,w.cells? base (a.add (i*Cel.sz α)) (Cel.sz α)=some (Cel.cs (f i))∧RoOk w (M (f i)) :=
    ⟨fun i=>if hil:i<len then (hall i hil).choose else (hall 0 (by omega)).choose,fun i hil=>by simp only [A22 hil];exact (hall i hil).choose_spec⟩
   obtain ⟨f,hf⟩:=hch
   obtain ⟨b,o,cs,U,fr,rfl,hok,hcut⟩:=Axf (row:=fun i=>Cel.cs (f i)) h0 (by omega) fun i hil=>⟨Cel.len (f i),(hf i hil).1⟩
   have hm:maxLen=9223372036854775807:=rfl
   refine ⟨.view b o false cs U fr ((List.range len).map f) cap ⟨fun i y hy=> ?_,by simp;omega,by simp;omega⟩,?_,?_,?_⟩
   ·rw [A0f] at hy
    obtain ⟨j,hj,rfl⟩:=Option.map_eq_some_iff.1 hy
    obtain ⟨h1,h2⟩:=Aym.1 hj
    rw [List.getElem_range] at h2
    subst h2
    exact hcut i (by simpa using h1)
   ·simp [Sl.val,Sl.ptr,Sl.list,Sl.cap]
   ·rw [Sl.hp_view];exact ⟨hok,fun x hx=>by simp at hx;subst hx;rfl⟩
   ·refine RoOk.flat fun y hy=> ?_
    obtain ⟨i,hi1,rfl⟩:=A2b.1 (show y∈(List.range len).map f from hy)
    exact (hf i (A1w.1 hi1)).2
theorem Axd {α:Type} [Cel α] {t e:TypeId} {v:Value} {d:DataW H} {ps:List MemPlace} {b1:Nat} (ht:P.underlying t=some (.slice e)) (hn:P.cellsOf e=Cel.sz α) (h0:0<Cel.sz α) (M:α→Hp)
  (hrow:∀ m row y,DataW.trod enc P w b1 spare held m e row=some y→∃ x:α,row=Cel.cs x∧RoOk w (M x)) (T:TypeId)
  (ho:Value.okWide P w .any base t v) (h:DataW.Trod enc P w b1 spare held t v d ps):∃ s:Sl α,v=s.val∧RoOk w (s.hp T)∧RoOk w (s.list.flatMap M):=by
 obtain ⟨p,len,c,rfl⟩:=okWide_slice ht ho
 obtain ⟨fuel,hx⟩:=h
 obtain ⟨s,e,r⟩:=Axc ht hn h0 M hrow T hx
 have e':[Value.slice p len c]=[s.val]:=e
 exact ⟨s,by simpa using e',r⟩
theorem Aw9 {n:Int} (hw:(Lit.int .u64 n).wf=true):∃ x:BitVec 64,Value.int .u64 n= .int .u64 (x.toNat:Int):=by
 have hn:0≤n∧n<18446744073709551616:=by simp [Lit.wf,IntKind.min,IntKind.max,IntKind.bits,IntKind.signed] at hw;omega
 refine ⟨BitVec.ofInt 64 n,?_⟩
 have e:(((BitVec.ofInt 64 n).toNat:Nat):Int)=n:=by
  rw [Az9]
  omega
 rw [e]
theorem Axk {fuel:Nat} {t:TypeId} {cs:List Value} {x:DataW H×List MemPlace} (ht:P.underlying t=some (.int .u8)) (h:DataW.trod enc P w base spare held fuel t cs=some x):∃ y:By,cs=Cel.cs y:=by
 obtain ⟨n,rfl,_,hw⟩:=A11 ht h
 exact row_byte ⟨⟨n,rfl,hw⟩,trivial⟩
end
end
end Go.K
namespace Go.Proofs.YtpmojdippdlcaaaGreatDoor
section
open Go.K
abbrev w64 (x:Int):Int:=IntKind.i64.wrap x
theorem Po {p:By→Prop} [DecidablePred p] (h:∀ i<256,p (BitVec.ofNat 8 i)):∀ x,p x:=fun x=>by
 have:=h x.toNat x.isLt
 simpa using this
def G2 (x:By):Nat:=(List.range 8).countP fun i=>x.getLsbD i
def Pp (x:By):Nat:=((List.range 8).find? fun i=>x.getLsbD i).getD 8
def Agy (x:By):Nat:=8 - ((List.range 8).find? fun i=>x.getLsbD (7 - i)).getD 8
def Awn:ByteArray:=⟨#[0,1,1,2,1,2,2,3,1,2,2,3,2,3,3,4,1,2,2,3,2,3,3,4,2,3,3,4,3,4,4,5,1,2,2,3,2,3,3,4,2,3,3,4,3,4,4,5,2,3,3,4,3,4,4,5,3,4,4,5,4,5,5,6,1,2,2,3,2,3,3,4,2,3,3,4,3,4,4,5,2,3,3,4,3,4,4,5,3,4,4,5,4,5,5,6,2,3,3,4,3,4,4,5,3,4,4,5,4,5,5,6,3,4,4,5,4,5,5,6,4,5,5,6,5,6,6,7,1,2,2,3,2,3,3,4,2,3,3,4,3,4,4,5,2,3,3,4,3,4,4,5,3,4,4,5,4,5,5,6,2,3,3,4,3,4,4,5,3,4,4,5,4,5,5,6,3,4,4,5,4,5,5,6,4,5,5,6,5,6,6,7,2,3,3,4,3,4,4,5,3,4,4,5,4,5,5,6,3,4,4,5,4,5,5,6,4,5,5,6,5,6,6,7,3,4,4,5,4,5,5,6,4,5,5,6,5,6,6,7,4,5,5,6,5,6,6,7,5,6,6,7,6,7,7,8]⟩
def Awo:ByteArray:=⟨#[8,0,1,0,2,0,1,0,3,0,1,0,2,0,1,0,4,0,1,0,2,0,1,0,3,0,1,0,2,0,1,0,5,0,1,0,2,0,1,0,3,0,1,0,2,0,1,0,4,0,1,0,2,0,1,0,3,0,1,0,2,0,1,0,6,0,1,0,2,0,1,0,3,0,1,0,2,0,1,0,4,0,1,0,2,0,1,0,3,0,1,0,2,0,1,0,5,0,1,0,2,0,1,0,3,0,1,0,2,0,1,0,4,0,1,0,2,0,1,0,3,0,1,0,2,0,1,0,7,0,1,0,2,0,1,0,3,0,1,0,2,0,1,0,4,0,1,0,2,0,1,0,3,0,1,0,2,0,1,0,5,0,1,0,2,0,1,0,3,0,1,0,2,0,1,0,4,0,1,0,2,0,1,0,3,0,1,0,2,0,1,0,6,0,1,0,2,0,1,0,3,0,1,0,2,0,1,0,4,0,1,0,2,0,1,0,3,0,1,0,2,0,1,0,5,0,1,0,2,0,1,0,3,0,1,0,2,0,1,0,4,0,1,0,2,0,1,0,3,0,1,0,2,0,1,0]⟩
def Awp:ByteArray:=⟨#[0,1,2,2,3,3,3,3,4,4,4,4,4,4,4,4,5,5,5,5,5,5,5,5,5,5,5,5,5,5,5,5,6,6,6,6,6,6,6,6,6,6,6,6,6,6,6,6,6,6,6,6,6,6,6,6,6,6,6,6,6,6,6,6,7,7,7,7,7,7,7,7,7,7,7,7,7,7,7,7,7,7,7,7,7,7,7,7,7,7,7,7,7,7,7,7,7,7,7,7,7,7,7,7,7,7,7,7,7,7,7,7,7,7,7,7,7,7,7,7,7,7,7,7,7,7,7,7,8,8,8,8,8,8,8,8,8,8,8,8,8,8,8,8,8,8,8,8,8,8,8,8,8,8,8,8,8,8,8,8,8,8,8,8,8,8,8,8,8,8,8,8,8,8,8,8,8,8,8,8,8,8,8,8,8,8,8,8,8,8,8,8,8,8,8,8,8,8,8,8,8,8,8,8,8,8,8,8,8,8,8,8,8,8,8,8,8,8,8,8,8,8,8,8,8,8,8,8,8,8,8,8,8,8,8,8,8,8,8,8,8,8,8,8,8,8,8,8,8,8,8,8,8,8,8,8]⟩
theorem Xi:∀ x:By,Awn[((x.toNat:Int)).toNat]? =some (UInt8.ofNat (G2 x)):=Po (by decide +kernel)
theorem Apb:∀ x:By,Awo[((x.toNat:Int)).toNat]? =some (UInt8.ofNat (Pp x)):=Po (by decide +kernel)
theorem Aew:∀ x:By,Awp[((x.toNat:Int)).toNat]? =some (UInt8.ofNat (Agy x)):=Po (by decide +kernel)
theorem Apc:∀ x:By,IntKind.i64.wrap ((UInt8.ofNat (G2 x)).toNat:Int)=G2 x:=Po (by decide +kernel)
theorem Apd:∀ x:By,IntKind.i64.wrap ((UInt8.ofNat (Pp x)).toNat:Int)=Pp x:=Po (by decide +kernel)
theorem Aex:∀ x:By,IntKind.i64.wrap ((UInt8.ofNat (Agy x)).toNat:Int)=Agy x:=Po (by decide +kernel)
theorem Aey (x:By):IntKind.u8.wrap (x.toNat:Int)=x.toNat:=by
 have:=x.isLt
 simp [IntKind.wrap,IntKind.signed,IntKind.bits];omega
theorem Nt (x:By):BitVec.ofInt 8 (x.toNat:Int)=x:=by simp
theorem Ajs (x y:By):Er .and .u8 x.toNat y.toNat=((x &&& y).toNat:Int):=by
 show IntKind.u8.wrap (((BitVec.ofInt 8 (x.toNat:Int)) &&& (BitVec.ofInt 8 (y.toNat:Int))).toNat:Int)=_
 rw [Nt,Nt,Aey]
theorem Atg (x y:By):Er .xor .u8 x.toNat y.toNat=((x ^^^ y).toNat:Int):=by
 show IntKind.u8.wrap (((BitVec.ofInt 8 (x.toNat:Int)) ^^^ (BitVec.ofInt 8 (y.toNat:Int))).toNat:Int)=_
 rw [Nt,Nt,Aey]
def at0 (xs:List Int) (i:Int):Int:=xs.getD i.toNat 0
def idx (xs:List Int) (v:Int):Int:=match xs.findIdx? (· == v) with | some k=>k | none=> -1
theorem Ath {xs:List Int} {v:Int} (i:Int) (h0:0≤i) (h1:i<xs.length) (hn:∀ k:Int,0≤k→k<i→at0 xs k≠v) (he:at0 xs i=v):idx xs v=i:=by
 have:xs.findIdx? (· == v)=some i.toNat:=by
  rw [Ax7]
  refine ⟨by omega,?_,?_⟩
  ·simpa [at0,Ayg,show i.toNat<xs.length by omega] using he
  ·intro j hj
   have:=hn j (by omega) (by omega)
   simpa [at0,Ayg,show j<xs.length by omega] using this
 simp [idx,this];omega
theorem Ajt {xs:List Int} {v:Int} (hn:∀ k:Int,0≤k→k<xs.length→at0 xs k≠v):idx xs v= -1:=by
 have:xs.findIdx? (· == v)=none:=by
  rw [Ays]
  intro x hx
  obtain ⟨k,hk,rfl⟩:=List.getElem_of_mem hx
  have:=hn k (by omega) (by omega)
  simpa [at0,Ayg,hk] using this
 simp [idx,this]
theorem Zr {p:Int→Prop} {i:Int} (h:∀ k:Int,0≤k→k<i→p k) (hi:p i):∀ k:Int,0≤k→k<i+1→p k:=by
 intro k h0 h1
 by_cases hk:k<i
 ·exact h k h0 hk
 ·have:k=i:=by omega
  rw [this];exact hi
def E3 (xs:List Int) (v:Int):Bool:=decide (0≤idx xs v)
theorem Hz {xs:List Int} {i:Int} (h0:0≤i) (h1:i<xs.length):xs[i.toNat]? =some (at0 xs i):=by
 have:i.toNat<xs.length:=by omega
 simp [at0,Ayg,this]
end
section
open Go.K
def vbc {n:Nat} (p:Vector By n):List Value:=p.toList.map bv
section
variable {n:Nat} {p:Vector By n}
theorem Ar:(vbc p).length=n:=by simp [vbc]
theorem Bg:cut (vbc p) 0 n=some (vbc p):=by have:=Mb (vbc p);rwa [Ar] at this
theorem Ct:Jc (.agg (vbc p).toArray)=some (vbc p):=by
 have:(vbc p).all (·.oneCell')=true:=A00.2 fun x hx=>by
  obtain ⟨y,_,rfl⟩:=A2b.1 hx;rfl
 simp [Jc,this]
theorem B2 {cs:List Value} (h:cs.length=n):Br cs 0 (vbc p)=some (vbc p):=Ob (by rw [Ar,h])
theorem Gt {i:Nat} (h:i<n):nth (vbc p) i=some (bv p[i]):=by
 unfold vbc
 rw [Ap9]
 simp [h]
theorem Adt {n:Nat} (p:Vector By n) (i:Nat) (y:By) (h:i<n):(p.set i y).toList=p.toList.set i y:=by
 apply A0y
 ·simp
 ·intro j h1 h2
  simp [Az6,A06]
theorem H7 {i:Nat} (h:i<n) (y:By):Br (vbc p) i [bv y]=some (vbc (p.set i y)):=by
 have:=Ac7 (g:=bv) (l:=p.toList) (y:=y) (i:=i) (by simpa using h)
 have e:(p.set i y).toList=p.toList.set i y:=Adt p i y h
 rw [vbc,this,vbc,e]
end
abbrev Pg:=Vector By 258
def A0:Pg:=Vector.replicate 258 255#8
def Kx (i:Nat):Pg:=Vector.ofFn fun j=>if j.val<i then 255#8 else 0#8
theorem Aqv:List.replicate 258 (Value.int .u8 0)=vbc (Kx 0):=by kernel_rfl
theorem Aib:Kx 258=A0:=by
 apply A2u
 intro i hi
 simp [Kx,A0,hi]
theorem Adu {i:Nat} (h:i<258):Br (vbc (Kx i)) i [.int .u8 255]=some (vbc (Kx (i+1))):=by
 have h1:=H7 (p:=Kx i) h 255#8
 have h2:(Kx i).set i 255#8=Kx (i+1):=by
  apply A2u
  intro j hj
  rw [Az6]
  by_cases hij:i=j
  ·subst hij;simp [Kx]
  ·have:(j<i)↔(j<i+1):=by omega
   simp [hij,Kx,this]
 rw [h2] at h1
 exact h1
structure Blk where
 pages:Vector Pg 8
 next:Int
 bad:Bool
def Rs (v:Vector Pg 8):List Value:=v.toList.flatMap vbc
def Qe (b:Blk):List Value:=Rs b.pages++[.int .i64 b.next,.bool b.bad]
def D8 (l:List Blk):List Value:=l.flatMap Qe
theorem Ju (v:Vector Pg 8):(Rs v).length=2064:=by
 have:=N8 (f:=vbc) (n:=258) v.toList (fun x _=>Ar)
 rw [Rs,this];simp
theorem Hl (b:Blk):(Qe b).length=2066:=by simp [Qe,Ju]
structure Chip where
 off:Bool
 after:Int
 keep:Int
 blocks:List Blk
 dead:Bool
 out:Bool
 pc:Int
 wc:Int
 count:Int
 aP:Nat
 aC:Nat
 aB:Nat
 pf:Sl Int
 wf:Sl Int
abbrev pwc (c:Chip):List Value:=[.bool c.off,.int .i64 c.after,.int .i64 c.keep]
abbrev chc (c:Chip):List Value :=
 [.pointer (some ⟨c.aP,0,none⟩),.slice (some ⟨c.aB,0,none⟩) c.blocks.length c.blocks.length,.bool c.dead,.bool c.out,c.pf.val,.int .i64 c.pc,c.wf.val,.int .i64 c.wc,.int .i64 c.count]
def Ew (c:Chip) (i:Int):Bool:=decide (0≤i) && decide (i<c.blocks.length)
def Aww (c:Chip) (i j:Int):Int:=if c.off=true then 30 else if (!(!c.dead && !c.out))=true then 31 else if ((!Ew c i || decide (j<0)) || decide (8≤j))=true then 1 else 0
def Jv:Pg:=Vector.replicate 258 0#8
theorem Cs:List.replicate 258 (Value.int .u8 0)=vbc Jv:=by kernel_rfl
def Qf (c:Chip) (i j:Int):Pg:=match c.blocks[i.toNat]? with | some b=>b.pages.toList.getD j.toNat Jv | none=>Jv
def B0 (c:Chip) (i j:Int):Pg:=if Aww c i j=0 then Qf c i j else Jv
theorem Yc {c:Chip} {i j:Int} (h:Aww c i j=0):0≤i∧i<c.blocks.length∧0≤j∧j<8∧c.off=false∧c.dead=false∧c.out=false:=by
 unfold Aww Ew at h
 split at h
 ·omega
 ·split at h
  ·omega
  ·split at h
   ·omega
   ·rename_i h1 h2 h3
    simp at h1 h2 h3
    refine ⟨by omega,by omega,by omega,by omega,h1,?_,?_⟩ <;> simp [h2]
theorem Al8 {c:Chip} {i j:Int} (h0:0≤i) (h1:i<c.blocks.length) (h2:0≤j) (h3:j<8):cut (D8 c.blocks) (i.toNat*2066+j.toNat*258) 258=some (vbc (Qf c i j)):=by
 have hi:i.toNat<c.blocks.length:=by omega
 have hb:c.blocks[i.toNat]? =some c.blocks[i.toNat]:=Ayw hi
 have hj:j.toNat<c.blocks[i.toNat].pages.toList.length:=by simp;omega
 have hp:c.blocks[i.toNat].pages.toList[j.toNat]? =some (Qf c i j):=by
  unfold Qf
  rw [hb]
  simp only [Ayg,Ayw hj,A0t]
 refine Oa (fun b _=>Hl b) hb ?_
 refine S7 ?_ _
 have:=Oa (f:=vbc) (n:=258) (o:=0) (m:=258) (fun x _=>Ar) hp Bg
 rw [A2e] at this;exact this
def Fj (c:Chip):Chip:={ c with off:=if c.after<0 then c.off else decide (c.after=0),after:=if c.after<0 then c.after else w64 (c.after - 1) }
theorem Aft {c:Chip} (h:c.after<0):pwc (Fj c)=pwc c:=by simp [pwc,Fj,h]
theorem Afu {c:Chip} (h:0≤c.after):pwc (Fj c)=[.bool (decide (c.after=0)),.int .i64 (w64 (c.after - 1)),.int .i64 c.keep]:=by
 have:¬ c.after<0:=by omega
 simp [pwc,Fj,this]
def El (c:Chip):Bool:=if c.after<0 then false else decide (c.after=0)
def Cu (m:Nat) (p d:Pg):Pg:=Vector.ofFn fun j=>if j.val<m then p[j] &&& d[j] else p[j]
theorem Auc (p d:Pg):Cu 0 p d=p:=by
 apply A2u;intro j hj;simp [Cu]
theorem Aic {m:Nat} (h:m<258) (p d:Pg):(Cu m p d).set m (p[m] &&& d[m])=Cu (m+1) p d:=by
 apply A2u
 intro j hj
 rw [Az6]
 by_cases hij:m=j
 ·subst hij;simp [Cu]
 ·have:(j<m)↔(j<m+1):=by omega
  simp [hij,Cu,this]
theorem Aqw {m:Nat} (h:m<258) (p d:Pg):(Cu m p d)[m]=p[m]:=by simp [Cu]
def Iu (b:Blk) (i:Nat) (p:Pg):Blk:={ b with pages:=b.pages.setIfInBounds i p }
theorem Aa6 {b:Blk} {i:Nat} (hi:i<8):b.pages.toList[i]? =some b.pages[i]:=by
 rw [Ayw (by simpa using hi)];simp
theorem Yd (b:Blk) {i:Nat} (hi:i<8) (p:Pg):(Iu b i p).pages.toList=b.pages.toList.set i p:=by
 apply A0y
 ·simp [Iu]
 ·intro j h1 h2
  simp [Iu,Ayc,A06]
theorem row_byte {l:List Blk} {k i j:Nat} {b:Blk} (hk:l[k]? =some b) (hi:i<8) (hj:j<258):nth (D8 l) (k*2066+(i*258+j))=some (bv b.pages[i][j]):=by
 rw [D8,N9 (n:=2066) (fun b _=>Hl b) hk (by omega),Qe,Ak3 (by rw [Ju];omega),Rs,N9 (n:=258) (fun x _=>Ar) (Aa6 hi) hj,Gt hj]
theorem Wl {l:List Blk} {k i o:Nat} {b:Blk} {vs:List Value} {q:Pg} (hk:l[k]? =some b) (hi:i<8) (hs:Br (vbc b.pages[i]) o vs=some (vbc q)):Br (D8 l) (k*2066+(i*258+o)) vs=some (D8 (l.set k (Iu b i q))):=by
 refine G4 (f:=Qe) (n:=2066) (fun b _=>Hl b) hk ?_
 have h1:Br (Rs b.pages) (i*258+o) vs=some (Rs (Iu b i q).pages):=by
  rw [Rs,Rs,Yd b hi q]
  exact G4 (f:=vbc) (n:=258) (fun x _=>Ar) (Aa6 hi) hs
 exact Q3 h1 _
def Bl (n m:Int):Nat:=(min (max n 0) m).toNat
def wrB (b:Blk) (i m:Nat) (d:Pg) (hi:i<8):Blk:=Iu b i (Cu m b.pages[i] d)
theorem Av3 (b:Blk) (i:Nat) (d:Pg) (hi:i<8):wrB b i 0 d hi=b:=by
 unfold wrB Iu
 rw [Auc]
 have:b.pages.setIfInBounds i b.pages[i]=b.pages:=by
  apply A2u
  intro j hj
  rw [Ayc]
  split
  ·rename_i h;subst h;rfl
  ·rfl
 rw [this]
theorem Av4 {l:List Blk} {k i j:Nat} {b:Blk} {d:Pg} (hk:l[k]? =some b) (hi:i<8) (hj:j<258):nth (D8 (l.set k (wrB b i j d hi))) (k*2066+(i*258+j))=some (bv b.pages[i][j]):=by
 have hkl:=(Aym.1 hk).1
 have h2:(l.set k (wrB b i j d hi))[k]? =some (wrB b i j d hi):=by simp [hkl]
 rw [row_byte h2 hi hj]
 have:(wrB b i j d hi).pages[i]=Cu j b.pages[i] d:=by simp [wrB,Iu]
 rw [this,Aqw hj]
theorem Aqx {l:List Blk} {k i j:Nat} {b:Blk} {d:Pg} (hk:l[k]? =some b) (hi:i<8) (hj:j<258):Br (D8 (l.set k (wrB b i j d hi))) (k*2066+(i*258+j)) [bv (b.pages[i][j] &&& d[j])]=some (D8 (l.set k (wrB b i (j+1) d hi))):=by
 have hkl:=(Aym.1 hk).1
 have h2:(l.set k (wrB b i j d hi))[k]? =some (wrB b i j d hi):=by simp [hkl]
 have h3:(wrB b i j d hi).pages[i]=Cu j b.pages[i] d:=by simp [wrB,Iu]
 have h4:=Wl (o:=j) (vs:=[bv (b.pages[i][j] &&& d[j])]) (q:=Cu (j+1) b.pages[i] d) h2 hi (by rw [h3,← Aic hj];exact H7 hj _)
 rw [h4]
 simp [wrB,Iu]
def D3 (b:Blk) (m:Nat):Blk:={ b with pages:=Vector.ofFn fun j=>if j.val<m then A0 else b.pages[j] }
theorem Aqy (b:Blk):D3 b 0=b:=by
 unfold D3
 have:(Vector.ofFn fun j:Fin 8=>if j.val<0 then A0 else b.pages[j])=b.pages:=by
  apply A2u;intro j hj;simp
 rw [this]
theorem Adv (b:Blk) {m:Nat} (h:m<8):Iu (D3 b m) m A0=D3 b (m+1):=by
 unfold D3 Iu
 congr 1
 apply A2u
 intro j hj
 rw [Ayc]
 by_cases hij:m=j
 ·subst hij;simp
 ·have:(j<m)↔(j<m+1):=by omega
  simp [hij,this]
theorem Aid {l:List Blk} {k j:Nat} {b:Blk} (hk:l[k]? =some b) (hj:j<8):Br (D8 (l.set k (D3 b j))) (k*2066+(j*258+0)) (vbc A0)=some (D8 (l.set k (D3 b (j+1)))):=by
 have hkl:=(Aym.1 hk).1
 have h2:(l.set k (D3 b j))[k]? =some (D3 b j):=by simp [hkl]
 have h4:=Wl (o:=0) (vs:=vbc A0) (q:=A0) h2 hj (B2 Ar)
 rw [h4,Adv b hj]
 simp
theorem Aa7 {l:List Blk} {k:Nat} {b:Blk} (hk:l[k]? =some b):nth (D8 l) (k*2066+2064)=some (.int .i64 b.next):=by
 rw [D8,N9 (n:=2066) (fun b _=>Hl b) hk (by omega),Qe]
 have:=Vp (b:=Rs b.pages) (d:=[.int .i64 b.next,.bool b.bad]) (o:=0)
 rw [Ju] at this
 exact this
theorem Ye {l:List Blk} {k:Nat} {b:Blk} (hk:l[k]? =some b):nth (D8 l) (k*2066+2065)=some (.bool b.bad):=by
 rw [D8,N9 (n:=2066) (fun b _=>Hl b) hk (by omega),Qe]
 have:=Vp (b:=Rs b.pages) (d:=[.int .i64 b.next,.bool b.bad]) (o:=1)
 rw [Ju] at this
 exact this
theorem Lt {l:List Blk} {k:Nat} {b:Blk} (n:Int) (hk:l[k]? =some b):Br (D8 l) (k*2066+2064) [.int .i64 n]=some (D8 (l.set k { b with next:=n })):=by
 refine G4 (f:=Qe) (n:=2066) (fun b _=>Hl b) hk ?_
 have:=Ke (a:=Rs b.pages) (d:=[.int .i64 b.next,.bool b.bad]) (o:=0) (c:=[.int .i64 n]) (r:=[.int .i64 n,.bool b.bad]) rfl
 rw [Ju] at this
 exact this
theorem Adw {l:List Blk} {k:Nat} {b:Blk} (v:Bool) (hk:l[k]? =some b):Br (D8 l) (k*2066+2065) [.bool v]=some (D8 (l.set k { b with bad:=v })):=by
 refine G4 (f:=Qe) (n:=2066) (fun b _=>Hl b) hk ?_
 have:=Ke (a:=Rs b.pages) (d:=[.int .i64 b.next,.bool b.bad]) (o:=1) (c:=[.bool v]) (r:=[.int .i64 b.next,.bool v]) rfl
 rw [Ju] at this
 exact this
theorem Aa8 {c:Chip} {i:Int} (h:Ew c i=true):0≤i∧i<c.blocks.length:=by
 unfold Ew at h;simp at h;omega
theorem Aie {c:Chip} {i:Int} (h:Ew c i=true):∃ b,c.blocks[i.toNat]? =some b:=by
 have:=Aa8 h
 exact ⟨_,Ayw (by omega)⟩
def Wm (c:Chip) (i:Int):Bool:=match c.blocks[i.toNat]? with | some b=>b.bad | none=>false
theorem Aud {c:Chip} {i:Int} (h:Ew c i=true):nth (D8 c.blocks) (i.toNat*2066+2065)=some (.bool (Wm c i)):=by
 obtain ⟨b,hb⟩:=Aie h
 rw [Ye hb,Wm,hb]
def Rt (c:Chip):Chip:={ c with pc:=w64 (c.pc+1) }
def Ky (c:Chip):Bool:=E3 c.pf.list (w64 (w64 (c.pc+1) - 1))
def Yf (c:Chip):Chip:={ c with wc:=w64 (c.wc+1) }
def Rb (c:Chip):Bool:=E3 c.wf.list (w64 (w64 (c.wc+1) - 1))
def cnt (c:Chip):Chip:={ c with count:=w64 (c.count+1) }
def Gb (c:Chip) (i:Nat) (b:Blk):Chip:={ c with blocks:=c.blocks.set i b }
def B1 (c:Chip) (i j:Int) (d:Pg):Int×Chip :=
 if Aww c i j=0 then
  match c.blocks[i.toNat]? with
  | none=>(1,c)
  | some b =>
   if j=b.next then
    let b1:Blk:={ b with next:=w64 (b.next+1) }
    let c1:Chip:=Fj (Rt (cnt c))
    let wr (m:Nat):Chip:=Gb c1 i.toNat (if h:j.toNat<8 then wrB b1 j.toNat m d h else b1)
    if El c=true then (30,wr (Bl c.keep 258)) else if (Ky c || b.bad)=true then (33,wr 129) else (0,wr 258)
   else (32,c)
 else (Aww c i j,c)
def B3 (c:Chip) (i:Int):Int×Chip :=
 if Aww c i 0=0 then
  match c.blocks[i.toNat]? with
  | none=>(1,c)
  | some b =>
   let b1:Blk:={ b with next:=8 }
   let c1:Chip:=Fj (Yf (cnt c))
   if El c=true then (30,Gb c1 i.toNat (D3 b1 (Bl c.keep 8))) else if (Rb c || b.bad)=true then (33,Gb c1 i.toNat b1) else (0,Gb c1 i.toNat { D3 b1 8 with next:=0 })
 else (Aww c i 0,c)
def Kz:Blk:=⟨Vector.replicate 8 Jv,0,false⟩
theorem Ama:List.replicate 2064 (Value.int .u8 0)++[.int .i64 0,.bool false]=Qe Kz:=by kernel_rfl
theorem Amb (n:Nat):Gn n (Qe Kz)=D8 (List.replicate n Kz):=by
 induction n with
 | zero=>rfl
 | succ n ih=>simp only [Gn,ih,List.replicate_succ,D8,A0m]
def Gz (bad:Bool):Blk:=⟨Vector.replicate 8 A0,0,bad⟩
def Gi (n:Nat) (bad:List Int) (i:Nat):List Blk:=(List.range n).map fun j=>if j<i then Gz (E3 bad j) else Kz
theorem Aqz (n:Nat) (bad:List Int):Gi n bad 0=List.replicate n Kz:=by
 apply A0y
 ·simp [Gi]
 ·intro j h1 h2;simp [Gi]
theorem Qg (n:Nat) (bad:List Int) (i:Nat):(Gi n bad i).length=n:=by simp [Gi]
theorem Amc {n i:Nat} (bad:List Int) (h:i<n):(Gi n bad i)[i]? =some Kz:=by simp [Gi,h]
theorem Adx {n i:Nat} (bad:List Int) (h:i<n):(Gi n bad i).set i (Gz (E3 bad i))=Gi n bad (i+1):=by
 apply A0y
 ·simp [Gi]
 ·intro j h1 h2
  rw [A06]
  by_cases hij:i=j
  ·subst hij;simp [Gi]
  ·have:(j<i)↔(j<i+1):=by omega
   simp [hij,Gi,this]
theorem Aif (b:Bool):D3 { Kz with bad:=b } 8=Gz b:=by
 unfold D3 Gz Kz
 congr 1
def Ov (n:Int) (bad:List Int):Bool:= !(decide (n<16) || decide (40<n)) && bad.all fun x=>decide (0≤x) && decide (x<n)
def Ow (off:Bool) (after keep:Int) (aP aC aB:Nat) (n:Nat) (bad:List Int):Chip:=⟨off,after,keep,Gi n bad n,false,false,0,0,0,aP,aC,aB,.nil,.nil⟩
def Ady (xs:List Int) (p:Int→Bool):Int:=match xs.findIdx? p with | some k=>k | none=> -1
theorem Aq0 {xs:List Int} {p:Int→Bool} (i:Int) (h0:0≤i) (h1:i<xs.length) (hn:∀ k:Int,0≤k→k<i→p (at0 xs k)=false) (he:p (at0 xs i)=true):Ady xs p=i:=by
 have:xs.findIdx? p=some i.toNat:=by
  rw [Ax7]
  refine ⟨by omega,?_,?_⟩
  ·simpa [at0,Ayg,show i.toNat<xs.length by omega] using he
  ·intro j hj
   have:=hn j (by omega) (by omega)
   simpa [at0,Ayg,show j<xs.length by omega] using this
 simp [Ady,this];omega
theorem Aig {xs:List Int} {p:Int→Bool} (hn:∀ k:Int,0≤k→k<xs.length→p (at0 xs k)=false):Ady xs p= -1:=by
 have:xs.findIdx? p=none:=by
  rw [Ays]
  intro x hx
  obtain ⟨k,hk,rfl⟩:=List.getElem_of_mem hx
  have:=hn k (by omega) (by omega)
  simpa [at0,Ayg,hk] using this
 simp [Ady,this]
theorem Tx (xs:List Int) (p:Int→Bool):decide (0≤Ady xs p)=xs.any p:=by
 unfold Ady
 cases h:xs.findIdx? p with
 | none =>
  rw [Ays] at h
  have:xs.any p=false:=by rw [List.any_eq_false];intro x hx;simpa using h x hx
  rw [this];rfl
 | some k =>
  rw [Ax7] at h
  obtain ⟨h1,h2,_⟩:=h
  have:xs.any p=true:=A04.2 ⟨_,A0s h1,h2⟩
  rw [this];simp
theorem Aa9 {c:Chip} {i j:Int} {d:Pg} (h:¬ Aww c i j=0):B1 c i j d=(Aww c i j,c):=by unfold B1;rw [A26 h]
theorem Ty {c:Chip} {i j:Int} {d:Pg} {b:Blk} (h:Aww c i j=0) (hb:c.blocks[i.toNat]? =some b) (hn:¬ j=b.next):B1 c i j d=(32,c):=by
 unfold B1;rw [A25 h,hb];simp only [];rw [A26 hn]
def wrC (c:Chip) (i j:Int) (d:Pg) (b:Blk) (m:Nat) (h:j.toNat<8):Chip:=Gb (Fj (Rt (cnt c))) i.toNat (wrB { b with next:=w64 (b.next+1) } j.toNat m d h)
theorem Wn {c:Chip} {i j:Int} {d:Pg} {b:Blk} (h:Aww c i j=0) (h8:j.toNat<8) (hb:c.blocks[i.toNat]? =some b) (hn:j=b.next) (he:El c=true):B1 c i j d=(30,wrC c i j d b (Bl c.keep 258) h8):=by
 unfold B1;rw [A25 h,hb];simp only [];rw [A25 hn,A25 he,A22 h8];rfl
theorem Wo {c:Chip} {i j:Int} {d:Pg} {b:Blk} (h:Aww c i j=0) (h8:j.toNat<8) (hb:c.blocks[i.toNat]? =some b) (hn:j=b.next) (he:El c=false) (hf:(Ky c || b.bad)=true):B1 c i j d=(33,wrC c i j d b 129 h8):=by
 unfold B1;rw [A25 h,hb];simp only [];rw [A25 hn,A26 (by rw [he];exact Az2),A25 hf,A22 h8];rfl
theorem Yg {c:Chip} {i j:Int} {d:Pg} {b:Blk} (h:Aww c i j=0) (h8:j.toNat<8) (hb:c.blocks[i.toNat]? =some b) (hn:j=b.next) (he:El c=false) (hf:(Ky c || b.bad)=false):B1 c i j d=(0,wrC c i j d b 258 h8):=by
 unfold B1;rw [A25 h,hb];simp only [];rw [A25 hn,A26 (by rw [he];exact Az2),A26 (by rw [hf];exact Az2),A22 h8];rfl
theorem Aih {c:Chip} {i:Int} (h:¬ Aww c i 0=0):B3 c i=(Aww c i 0,c):=by unfold B3;rw [A26 h]
theorem Tz {c:Chip} {i:Int} {b:Blk} (h:Aww c i 0=0) (hb:c.blocks[i.toNat]? =some b) (he:El c=true):B3 c i=(30,Gb (Fj (Yf (cnt c))) i.toNat (D3 { b with next:=8 } (Bl c.keep 8))):=by
 unfold B3;rw [A25 h,hb];simp only [];rw [A25 he]
theorem T0 {c:Chip} {i:Int} {b:Blk} (h:Aww c i 0=0) (hb:c.blocks[i.toNat]? =some b) (he:El c=false) (hf:(Rb c || b.bad)=true):B3 c i=(33,Gb (Fj (Yf (cnt c))) i.toNat { b with next:=8 }):=by
 unfold B3;rw [A25 h,hb];simp only [];rw [A26 (by rw [he];exact Az2),A25 hf]
theorem Aba {c:Chip} {i:Int} {b:Blk} (h:Aww c i 0=0) (hb:c.blocks[i.toNat]? =some b) (he:El c=false) (hf:(Rb c || b.bad)=false):B3 c i=(0,Gb (Fj (Yf (cnt c))) i.toNat { D3 { b with next:=8 } 8 with next:=0 }):=by
 unfold B3;rw [A25 h,hb];simp only [];rw [A26 (by rw [he];exact Az2),A26 (by rw [hf];exact Az2)]
end
section
open Go.K
def L9:Nat→Nat→Nat→Nat
 | 0,p,_=>p
 | f+1,p,s=>if s≤p then L9 f (p+1) (s*2) else p
def M3 (i:Nat):Nat:=L9 13 (i+1) 1
def Lc (b:By):List Nat:=(List.range 8).filter fun k=>b.getLsbD k
theorem Ahl:∀ b:By,b≠0→Lc b=Pp b::Lc (b &&& (b - 1))∧Pp b<8:=Po (by decide +kernel)
theorem Ahm:Lc 0=[]:=by decide +kernel
theorem Ahn:∀ b:By,b≠0→(b &&& (b - 1)).toNat<b.toNat:=Po (by decide +kernel)
def Aaa (i:Nat) (l:List Nat) (s:Nat):Nat:=l.foldl (fun s k=>s ^^^ M3 (8*i+k)) s
def Gm (n:Nat):Nat:=G2 (BitVec.ofNat 8 (n / 256))+G2 (BitVec.ofNat 8 (n % 256))
theorem Kb:∀ x:By,G2 x≤8:=Po (by decide +kernel)
theorem Ae8:∀ x:By,(UInt8.ofNat (G2 x)).toNat=G2 x:=Po (by decide +kernel)
def Rr (x:Nat):Nat:=((List.range 17).find? fun i=>decide (x<2 ^ i)).getD 17
def Awq (x:Int):Int :=
 let a:=IntKind.u64.wrap (Er .and .u64 (x.fdiv (2 ^ (min (1:Int).toNat IntKind.u64.bits))) 6148914691236517205+Er .and .u64 x 6148914691236517205)
 let b:=IntKind.u64.wrap (Er .and .u64 (a.fdiv (2 ^ (min (2:Int).toNat IntKind.u64.bits))) 3689348814741910323+Er .and .u64 a 3689348814741910323)
 let c:=Er .and .u64 (IntKind.u64.wrap (b.fdiv (2 ^ (min (4:Int).toNat IntKind.u64.bits))+b)) 1085102592571150095
 let d:=IntKind.u64.wrap (c+c.fdiv (2 ^ (min (8:Int).toNat IntKind.u64.bits)))
 let e:=IntKind.u64.wrap (d+d.fdiv (2 ^ (min (16:Int).toNat IntKind.u64.bits)))
 let f:=IntKind.u64.wrap (e+e.fdiv (2 ^ (min (32:Int).toNat IntKind.u64.bits)))
 Er .and .i64 (IntKind.i64.wrap f) 127
theorem Aab {p:Nat→Prop} (h:∀ a<64,∀ b<64,p (64*a+b)):∀ s<4096,p s:=fun s hs=>by
 have:=h (s / 64) (by omega) (s % 64) (by omega)
 rwa [Nat.div_add_mod] at this
theorem Ap3:∀ s<4096,Awq (s:Nat)=(Gm s:Nat):=Aab (by decide +kernel)
theorem Aty:∀ s<256,Agy (BitVec.ofNat 8 s)=Rr s:=by decide +kernel
theorem Atz:∀ s<4096,256≤s→8+Agy (BitVec.ofNat 8 (s / 256))=Rr s:=Aab (by decide +kernel)
theorem Aac:∀ i<2048,M3 i<4096:=by decide +kernel
theorem Akw:∀ s<4096,Er .and .i64 (s:Nat) ((s:Nat) - 1)=((s &&& (s - 1):Nat):Int):=Aab (by decide +kernel)
theorem At0:∀ s<4096,¬ s &&& (s - 1)=0→Rr s+1≤s:=Aab (by decide +kernel)
theorem Awr:∀ k<8,IntKind.u8.wrap (1*2 ^ (min ((k:Nat):Int).toNat IntKind.u8.bits))=((1#8 <<< k).toNat:Int):=by decide +kernel
theorem Ae9:∀ x:By,Agy x≤8:=Po (by decide +kernel)
theorem Xu (n:Nat):Gm n≤16:=by
 have:=Kb (BitVec.ofNat 8 (n / 256))
 have:=Kb (BitVec.ofNat 8 (n % 256))
 unfold Gm;omega
end
section
open Go.K
theorem Ex (k:IntKind) (hk:k.signed=false) (i:Int):k.wrap i=((BitVec.ofInt k.bits i).toNat:Int):=by
 have h:(2:Int) ^ k.bits=((2 ^ k.bits:Nat):Int):=by push_cast;rfl
 have hp:(0:Int)<((2 ^ k.bits:Nat):Int):=by exact_mod_cast Nat.two_pow_pos k.bits
 simp only [IntKind.wrap,hk,A1z,Az8,A21,Az9,h]
 have:=Int.emod_nonneg i (Int.ne_of_gt hp)
 omega
theorem Jw {n:Nat} (x:BitVec n):BitVec.ofInt n (x.toNat:Int)=x:=by simp
theorem Qh (k:IntKind) (hk:k.signed=false) (x:BitVec k.bits):k.wrap (x.toNat:Int)=x.toNat:=by
 rw [Ex k hk,Jw]
theorem Qi (op:BinOp) (k:IntKind) (hk:k.signed=false) (x y:BitVec k.bits):Er op k x.toNat y.toNat=((match op with | .and=>x &&& y | .or=>x ||| y | .xor=>x ^^^ y | _=>x &&& ~~~y).toNat:Int):=by
 unfold Er
 cases op <;> simp only [Jw] <;> exact Qh k hk _
theorem Aq6 {n:Nat} (x:BitVec n):IntKind.u8.wrap (x.toNat:Int)=((x.setWidth 8).toNat:Int):=by
 rw [Ex .u8 rfl]
 simp [IntKind.bits]
theorem Ym {n:Nat} (k:IntKind) (hk:k.signed=false) (x:BitVec n):k.wrap (x.toNat:Int)=((x.setWidth k.bits).toNat:Int):=by
 rw [Ex k hk]
 simp
theorem T4 {n:Nat} (x:BitVec n) (m:Nat):(x.toNat:Int).fdiv (2 ^ m)=((x >>> m).toNat:Int):=by
 rw [Ayx,Ayp,Ayl _ (by exact_mod_cast A2r _)]
 push_cast
 rfl
theorem Ad0 (op:BinOp) (x y:Nat) (hx:x<2 ^ 62) (hy:y<2 ^ 62) (ho:op= .and∨op= .or∨op= .xor):Er op .i64 x y=((match op with | .and=>x &&& y | .or=>x ||| y | _=>x ^^^ y:Nat):Int):=by
 have hw:∀ z:Nat,z<2 ^ 62→IntKind.i64.wrap (z:Int)=z:=fun z hz=>Cx (by omega)
 have hm:∀ z:Nat,z<2 ^ 62→z % 2 ^ 64=z:=fun z hz=>A0z (by omega)
 rcases ho with rfl | rfl | rfl
 ·show IntKind.i64.wrap ((BitVec.ofInt 64 (x:Int) &&& BitVec.ofInt 64 (y:Int)).toNat:Int)=_
  rw [Azr,Azr,A07,Az0,Az0,hm x hx,hm y hy]
  exact hw _ (Nat.lt_of_le_of_lt A1m hx)
 ·show IntKind.i64.wrap ((BitVec.ofInt 64 (x:Int) ||| BitVec.ofInt 64 (y:Int)).toNat:Int)=_
  rw [Azr,Azr,BitVec.toNat_or,Az0,Az0,hm x hx,hm y hy]
  exact hw _ (Nat.or_lt_two_pow hx hy)
 ·show IntKind.i64.wrap ((BitVec.ofInt 64 (x:Int) ^^^ BitVec.ofInt 64 (y:Int)).toNat:Int)=_
  rw [Azr,Azr,BitVec.toNat_xor,Az0,Az0,hm x hx,hm y hy]
  exact hw _ (Nat.xor_lt_two_pow hx hy)
theorem Aq7 {P:Program} {E:Env} {H:Hp} {t u:TypeId} {x y:Operand} {v:Wd} (hx:ev E x=some (.int .u64 v.toNat)) (hy:ev E y=some (.int .u64 8)):Rd P E H (.binOp .shr t x y u) (.int .u64 ((v >>> 8).toNat)):=by
 have:=Ir (P:=P) (H:=H) (t:=t) (u:=u) hx hy (by omega)
 rw [show (min (8:Int).toNat IntKind.u64.bits)=8 from rfl,T4] at this
 exact this
theorem Amh {P:Program} {E:Env} {H:Hp} {t u:TypeId} {x y:Operand} {v:Wd} {j:Int} {k:Nat} (hx:ev E x=some (.int .u64 v.toNat)) (hy:ev E y=some (.int .i64 j)) (hj:j=(k:Int)) (hk:k<64):Rd P E H (.binOp .shl t x y u) (.int .u64 ((v <<< k).toNat)):=by
 subst hj
 have:=Adg (P:=P) (H:=H) (t:=t) (u:=u) hx hy (by omega)
 have hb:IntKind.u64.bits=64:=rfl
 rw [hb,show min ((k:Int).toNat) 64=k by omega,Ex .u64 rfl] at this
 have e:(BitVec.ofInt IntKind.u64.bits ((v.toNat:Int)*2 ^ k))=v <<< k:=by
  show BitVec.ofInt 64 ((v.toNat:Int)*2 ^ k)=_
  apply Azg
  rw [Az9,Ay6,Nat.shiftLeft_eq]
  have:((v.toNat:Int)*2 ^ k)=((v.toNat*2 ^ k:Nat):Int):=by push_cast;rfl
  rw [this]
  omega
 rw [e] at this
 exact this
def uv (x:BitVec 32):Value:= .int .u32 x.toNat
theorem Ami (x:By):Er .xor .u8 (if IntKind.u8.signed then -1 else IntKind.u8.max) x.toNat=((~~~x).toNat:Int):=by
 show IntKind.u8.wrap ((BitVec.ofInt 8 255 ^^^ BitVec.ofInt 8 (x.toNat:Int)).toNat:Int)=_
 rw [Jw,show BitVec.ofInt 8 255=BitVec.allOnes 8 from by decide,BitVec.allOnes_xor]
 exact Qh .u8 rfl _
theorem Aii (x:BitVec 32):Er .xor .u32 (if IntKind.u32.signed then -1 else IntKind.u32.max) x.toNat=((~~~x).toNat:Int):=by
 show IntKind.u32.wrap ((BitVec.ofInt 32 4294967295 ^^^ BitVec.ofInt 32 (x.toNat:Int)).toNat:Int)=_
 rw [Jw,show BitVec.ofInt 32 4294967295=BitVec.allOnes 32 from by decide,BitVec.allOnes_xor]
 exact Qh .u32 rfl _
theorem Aq8 (x:BitVec 32):IntKind.u32.wrap (0 - (x.toNat:Int))=((-x).toNat:Int):=by
 rw [Ex .u32 rfl,Int.zero_sub]
 show ((BitVec.ofInt 32 (-(x.toNat:Int))).toNat:Int)=_
 rw [BitVec.ofInt_neg,Jw]
section
variable {P:Program} {E:Env} {H:Hp} {t u:TypeId} {x y:Operand}
theorem Abc {a b:BitVec 32} (hx:ev E x=some (uv a)) (hy:ev E y=some (uv b)):Rd P E H (.binOp .xor t x y u) (uv (a ^^^ b)):=by
 have:=Ae (P:=P) (H:=H) (op:= .xor) (t:=t) (u:=u) hx hy rfl
 have e:Er .xor .u32 a.toNat b.toNat=((a ^^^ b).toNat:Int):=Qi .xor .u32 rfl a b
 rw [e] at this
 exact this
theorem Abd {a b:BitVec 32} (hx:ev E x=some (uv a)) (hy:ev E y=some (uv b)):Rd P E H (.binOp .and t x y u) (uv (a &&& b)):=by
 have:=Ae (P:=P) (H:=H) (op:= .and) (t:=t) (u:=u) hx hy rfl
 have e:Er .and .u32 a.toNat b.toNat=((a &&& b).toNat:Int):=Qi .and .u32 rfl a b
 rw [e] at this
 exact this
theorem Av5 {a:BitVec 32} (hx:ev E x=some (uv a)) (hy:ev E y=some (.int .i64 1)):Rd P E H (.binOp .shr t x y u) (uv (a >>> 1)):=by
 have:=Ir (P:=P) (H:=H) (t:=t) (u:=u) hx hy (by omega)
 rw [show (min (1:Int).toNat IntKind.u32.bits)=1 from rfl,T4] at this
 exact this
theorem Aij {k:IntKind} {a:BitVec 32} (hx:ev E x=some (uv a)) (hy:ev E y=some (.int k 1)):Rd P E H (.binOp .shr t x y u) (uv (a >>> 1)):=by
 have:=Ir (P:=P) (H:=H) (t:=t) (u:=u) hx hy (by omega)
 rw [show (min (1:Int).toNat IntKind.u32.bits)=1 from rfl,T4] at this
 exact this
theorem Amj {a:BitVec 32} (hx:ev E x=some (uv a)):Rd P E H (.unOp .neg t x) (uv (-a)):=by
 have:=Aua (P:=P) (H:=H) (t:=t) hx
 rw [Aq8] at this
 exact this
theorem T5 {a:BitVec 32} (hx:ev E x=some (uv a)):Rd P E H (.unOp .xor t x) (uv (~~~a)):=by
 have:=Aaw (P:=P) (H:=H) (t:=t) hx
 rwa [Aii] at this
theorem Aik {a:By} (hx:ev E x=some (bv a)):Rd P E H (.unOp .xor t x) (bv (~~~a)):=by
 have:=Aaw (P:=P) (H:=H) (t:=t) hx
 rwa [Ami] at this
theorem Aq9 {a b:By} (hx:ev E x=some (bv a)) (hy:ev E y=some (bv b)):Rd P E H (.binOp .sub t x y u) (bv (a - b)):=by
 have:=Ae (P:=P) (H:=H) (op:= .sub) (t:=t) (u:=u) hx hy rfl
 have e:IntKind.u8.wrap ((a.toNat:Int) - b.toNat)=((a - b).toNat:Int):=by
  rw [Ex .u8 rfl]
  show ((BitVec.ofInt 8 ((a.toNat:Int) - b.toNat)).toNat:Int)=_
  rw [BitVec.toNat_sub,Az9]
  have:=a.isLt
  have:=b.isLt
  omega
 rw [e] at this
 exact this
theorem Ara {s:TypeId} {ds:TypeDesc} {a:By} [Und P s ds] [Und P t (.int .u32)] (hx:ev E x=some (bv a)):Rd P E H (.convert s t x) (uv (a.setWidth 32)):=by
 have:=C4 (P:=P) (H:=H) (s:=s) (t:=t) (k:= .u32) hx
 rw [Ym .u32 rfl a] at this
 exact this
theorem Arb {s:TypeId} {ds:TypeDesc} {a:By} [Und P s ds] [Und P t (.int .u64)] (hx:ev E x=some (bv a)):Rd P E H (.convert s t x) (wv (a.setWidth 64)):=by
 have:=C4 (P:=P) (H:=H) (s:=s) (t:=t) (k:= .u64) hx
 rw [Ym .u64 rfl a] at this
 exact this
theorem Ail {s:TypeId} {ds:TypeDesc} {a:BitVec 32} [Und P s ds] [Und P t (.int .u64)] (hx:ev E x=some (uv a)):Rd P E H (.convert s t x) (wv (a.setWidth 64)):=by
 have:=C4 (P:=P) (H:=H) (s:=s) (t:=t) (k:= .u64) hx
 rw [Ym .u64 rfl a] at this
 exact this
end
def Lu (x:Wd):Nat→Wd
 | 0=>x
 | i+1=>Lu x i >>> 8
def Co (k:Nat) (x:Wd):List By:=(List.range k).map fun i=>(Lu x i).setWidth 8
theorem Aim (k:Nat) (x:Wd):Co (k+1) x=Co k x++[(Lu x k).setWidth 8]:=by
 simp [Co,A1q]
theorem Bo (k:Nat) (x:Wd):(Co k x).length=k:=by simp [Co]
def K0 (k:Nat) (xs:List Wd):List By:=xs.flatMap (Co k)
theorem Ad1 {k i:Nat} {xs:List Wd} {x:Wd} (h:xs[i]? =some x):K0 k (xs.take (i+1))=K0 k (xs.take i)++Co k x:=by
 rw [A0i,h]
 simp [K0]
theorem Qj (k:Nat) (xs:List Wd):(K0 k xs).length=xs.length*k:=by
 induction xs with
 | nil=>simp [K0]
 | cons x xs ih=>simp only [K0,A0m,Azz,Bo,A0q,A2j] at *;omega
def D9 (xs:List By) (i:Nat):Wd:=(List.range i).foldl (fun n j=>n ||| ((xs.getD j 0).setWidth 64 <<< (8*j))) 0
theorem T6 (xs:List By) (i:Nat):D9 xs (i+1)=D9 xs i ||| ((xs.getD i 0).setWidth 64 <<< (8*i)):=by
 simp [D9,A1q]
section
variable {P:Program} {E:Env} {H:Hp} {t u:TypeId} {x y:Operand} {a b:Nat}
theorem Yn (hx:ev E x=some (.int .i64 (a:Nat))) (hy:ev E y=some (.int .i64 (b:Nat))) (ha:a<2 ^ 62) (hb:b<2 ^ 62):Rd P E H (.binOp .xor t x y u) (.int .i64 ((a ^^^ b:Nat):Int)):=by
 have:=Ae (P:=P) (H:=H) (op:= .xor) (t:=t) (u:=u) hx hy rfl
 rw [Ad0 .xor a b ha hb (.inr (.inr rfl))] at this
 exact this
theorem Ox (hx:ev E x=some (.int .i64 (a:Nat))) (hy:ev E y=some (.int .i64 (b:Nat))) (ha:a<2 ^ 62) (hb:b<2 ^ 62):Rd P E H (.binOp .and t x y u) (.int .i64 ((a &&& b:Nat):Int)):=by
 have:=Ae (P:=P) (H:=H) (op:= .and) (t:=t) (u:=u) hx hy rfl
 rw [Ad0 .and a b ha hb (.inl rfl)] at this
 exact this
theorem Ad2 (hx:ev E x=some (.int .i64 (a:Nat))) (hy:ev E y=some (.int .i64 ((a:Int) - 1))) (ha:a<4096):Rd P E H (.binOp .and t x y u) (.int .i64 ((a &&& (a - 1):Nat):Int)):=by
 have:=Ae (P:=P) (H:=H) (op:= .and) (t:=t) (u:=u) hx hy rfl
 rw [Akw a ha] at this
 exact this
theorem Sb (hx:ev E x=some (.int .i64 (a:Nat))) (hy:ev E y=some (.int .i64 (b:Nat))) (ha:a+b<2 ^ 62):Rd P E H (.binOp .add t x y u) (.int .i64 ((a+b:Nat):Int)):=by
 have:=Ao (P:=P) (H:=H) (t:=t) (u:=u) hx hy (by omega)
 rw [← Int.natCast_add] at this
 exact this
theorem Amk (hx:ev E x=some (.int .i64 (a:Nat))) (hy:ev E y=some (.int .i64 (b:Nat))) (ha:a<2 ^ 62) (hb:b<2 ^ 62):Rd P E H (.binOp .or t x y u) (.int .i64 ((a ||| b:Nat):Int)):=by
 have:=Ae (P:=P) (H:=H) (op:= .or) (t:=t) (u:=u) hx hy rfl
 rw [Ad0 .or a b ha hb (.inr (.inl rfl))] at this
 exact this
theorem Av6 {n m:Nat} (hn:n<65536) (hm:m<65536):Er .and .u16 n m=((n &&& m:Nat):Int):=by
 show IntKind.u16.wrap ((BitVec.ofInt 16 (n:Int) &&& BitVec.ofInt 16 (m:Int)).toNat:Int)=_
 rw [Azr,Azr,A07,Az0,Az0,A0z (show n<2 ^ 16 from hn),A0z (show m<2 ^ 16 from hm)]
 have:n &&& m≤n:=A1m
 have h2:(2:Int) ^ IntKind.u16.bits=65536:=rfl
 simp only [IntKind.wrap,h2,show IntKind.u16.signed=false from rfl,A1z,Az8,A21]
 omega
theorem Abe (hx:ev E x=some (.int .u16 (a:Nat))) (hy:ev E y=some (.int .u16 (b:Nat))) (ha:a<65536) (hb:b<65536):Rd P E H (.binOp .and t x y u) (.int .u16 ((a &&& b:Nat):Int)):=by
 have:=Ae (P:=P) (H:=H) (op:= .and) (t:=t) (u:=u) hx hy rfl
 rw [Av6 ha hb] at this
 exact this
theorem Yo {k k':IntKind} {j:Int} {m:Nat} (hx:ev E x=some (.int k (a:Nat))) (hy:ev E y=some (.int k' j)) (hj:j=(m:Int)) (hm:m≤k.bits):Rd P E H (.binOp .shr t x y u) (.int k ((a / 2 ^ m:Nat):Int)):=by
 subst hj
 have:=Ir (P:=P) (H:=H) (t:=t) (u:=u) hx hy (by omega)
 rw [show min ((m:Int).toNat) k.bits=m by omega,Ayl _ (by exact_mod_cast A2r _)] at this
 push_cast at this ⊢
 exact this
theorem Afx {k':IntKind} {j:Int} {m:Nat} (hx:ev E x=some (.int .i64 (a:Nat))) (hy:ev E y=some (.int k' j)) (hj:j=(m:Int)) (hm:m≤62) (hb:a*2 ^ m<2 ^ 63):Rd P E H (.binOp .shl t x y u) (.int .i64 ((a*2 ^ m:Nat):Int)):=by
 subst hj
 have:=Adg (P:=P) (H:=H) (t:=t) (u:=u) hx hy (by omega)
 rw [show min ((m:Int).toNat) IntKind.i64.bits=m from by (have:IntKind.i64.bits=64:=rfl);omega] at this
 have e:(a:Int)*2 ^ m=((a*2 ^ m:Nat):Int):=by push_cast;rfl
 rw [e,Cx (by omega)] at this
 exact this
end
theorem Yp {P:Program} {E:Env} {H:Hp} {t u:TypeId} {x y:Operand} {k:Nat} (hx:ev E x=some (.int .u8 1)) (hy:ev E y=some (.int .i64 (k:Nat))) (hk:k<8):Rd P E H (.binOp .shl t x y u) (bv (1#8 <<< k)):=by
 have:=Adg (P:=P) (H:=H) (t:=t) (u:=u) hx hy (by omega)
 rw [Awr k hk] at this
 exact this
theorem Ft {P:Program} {E:Env} {H:Hp} {s t:TypeId} {x:Operand} {ds:TypeDesc} {k k':IntKind} {a:Nat} [hs:Und P s ds] [ht:Und P t (.int k)] (hx:ev E x=some (.int k' (a:Nat))) (h:k.wrap (a:Int)=a):Rd P E H (.convert s t x) (.int k (a:Nat)):=by
 have:=C4 (P:=P) (H:=H) (s:=s) (t:=t) (k:=k) hx
 rwa [h] at this
theorem G8 {P:Program} {E:Env} {H:Hp} {s t:TypeId} {x:Operand} {ds:TypeDesc} {k k':IntKind} {a r:Int} [hs:Und P s ds] [ht:Und P t (.int k)] (h:k.wrap a=r) (hx:ev E x=some (.int k' a)):Rd P E H (.convert s t x) (.int k r):=by
 have:=C4 (P:=P) (H:=H) (s:=s) (t:=t) (k:=k) hx
 rwa [h] at this
theorem Hg (k:IntKind) (hk:k.signed=false) {a:Nat} (h:a<2 ^ k.bits):k.wrap (a:Int)=a:=by
 rw [Ex k hk,Azr,Az0,A0z h]
theorem Yq {a:Nat} (h:a<2 ^ 63):IntKind.i64.wrap (a:Int)=a:=Cx (by omega)
def C7 (k:Nat) (l:List By) (bad:Bool):Wd×List By×Bool:=if l.length<k then (0,[],true) else (D9 (l.take k) k,l.drop k,bad)
def C9 (k:Nat) (l:List By) (bad:Bool):List By×List By×Bool:=if l.length<k then ([],[],true) else (l.take k,l.drop k,bad)
theorem Oy (k:Nat) (l:List By) (bad:Bool):(C7 k l bad).2.1.length≤l.length:=by unfold C7;split <;> simp
theorem T7 (k:Nat) (l:List By) (bad:Bool):(C9 k l bad).2.1.length≤l.length∧(C9 k l bad).1.length≤l.length:=by unfold C9;split <;> simp <;> omega
theorem F4 {k m:Nat} {l l':List By} {bad:Bool} (h:l'=(C7 k l bad).2.1) (hl:l.length≤m):l'.length≤m:=by rw [h];have:=Oy k l bad;omega
theorem Afy {k m:Nat} {l l':List By} {bad:Bool} (h:l'=(C9 k l bad).2.1) (hl:l.length≤m):l'.length≤m:=by rw [h];have:=T7 k l bad;omega
theorem Abf {k m:Nat} {l l':List By} {bad:Bool} (h:l'=(C9 k l bad).1) (hl:l.length≤m):l'.length≤m:=by rw [h];have:=T7 k l bad;omega
def As9:BitVec 32:=0xedb88320
def Av7 (c:BitVec 32):BitVec 32:=(c >>> 1) ^^^ (As9 &&& (-(c &&& 1)))
def Abg (c:BitVec 32):Nat→BitVec 32
 | 0=>c
 | k+1=>Av7 (Abg c k)
def Auj (c:BitVec 32) (b:By):BitVec 32:=Abg (c ^^^ b.setWidth 32) 8
def T8 (c:BitVec 32) (xs:List By):BitVec 32:=xs.foldl Auj c
def K3 (s:BitVec 32) (ps:List (List By)):BitVec 32:= ~~~ (ps.foldl T8 (~~~ s))
theorem Ain {c:BitVec 32} {xs:List By} {i:Nat} {b:By} (h:xs[i]? =some b):T8 c (xs.take (i+1))=Auj (T8 c (xs.take i)) b:=by
 rw [A0i,h]
 simp [T8]
def Bq (ps:List (Sl By)):List By:=ps.flatMap (·.list)
theorem Ni {ps:List (Sl By)} {i:Nat} {s:Sl By} (h:ps[i]? =some s):Bq (ps.take (i+1))=Bq (ps.take i)++s.list:=by
 rw [A0i,h];simp [Bq]
theorem Oz (ps:List (Sl By)) (i:Nat):(Bq (ps.take i)).length≤(Bq ps).length:=by
 have:Bq ps=Bq (ps.take i)++Bq (ps.drop i):=by simp only [Bq];rw [← List.flatMap_append,Aze]
 rw [this,Azz];omega
def Yr (cs:List Value) (xs:List By):List Value:=cells xs++cs.drop xs.length
theorem Abh {cs:List Value} {xs ys:List By} {o:Nat} (h:xs.length+ys.length≤cs.length) (ho:ys=[]∧o=0∨o=xs.length):Br (Yr cs xs) o (cells ys)=some (Yr cs (xs++ys)):=by
 have hl:(cells xs).length=xs.length:=by rw [P1];simp [Cel.sz]
 have hl2:(cells ys).length=ys.length:=by rw [P1];simp [Cel.sz]
 rcases ho with ⟨rfl,rfl⟩ | rfl
 ·refine Eu ?_ (by simp)
  simp [Yr,cells]
 ·refine Eu ?_ (by simp only [Yr,Azz,A03,hl,hl2];omega)
  simp only [Yr,cells,List.flatMap_append,A0j]
  have h1:List.take xs.length (List.flatMap Cel.cs xs++List.drop xs.length cs)=cells xs:=by rw [Ayb (by rw [← hl];exact A2q _),← hl,A0w]
  have h2:List.drop (xs.length+(List.flatMap Cel.cs ys).length) (List.flatMap Cel.cs xs++List.drop xs.length cs)=List.drop (xs.length+ys.length) cs:=by
   rw [show (List.flatMap Cel.cs ys).length=ys.length from hl2,List.drop_append,show (List.flatMap Cel.cs xs).length=xs.length from hl,Ay8 (by rw [show (List.flatMap Cel.cs xs).length=xs.length from hl];omega),A1k,A1y]
   congr 1;omega
  rw [h1,h2,Azz]
theorem Ad3 {α β:Type} {f:β→α→β} {c:β} {xs:List α} {i:Nat} {b:α} (h:xs[i]? =some b):(xs.take (i+1)).foldl f c=f ((xs.take i).foldl f c) b:=by
 rw [A0i,h]
 simp
abbrev Dat:=Vector By 256
def Mw (d:Dat) (i:Nat):Nat:=(List.range i).foldl (fun s j=>Aaa j (Lc (d.toList.getD j 0)) s) 0
def Ys (d:Dat) (i:Nat):Nat:=(List.range i).foldl (fun s j=>s ^^^ (G2 (d.toList.getD j 0) % 2)) 0
theorem T9 (d:Dat) (i:Nat):Mw d (i+1)=Aaa i (Lc (d.toList.getD i 0)) (Mw d i):=by simp [Mw,A1q]
theorem Wp (d:Dat) (i:Nat):Ys d (i+1)=Ys d i ^^^ (G2 (d.toList.getD i 0) % 2):=by simp [Ys,A1q]
def Gj (d:Dat):Nat:=Mw d 256
def Lw (d:Dat):Nat:=Ys d 256
theorem Ad4 {a b:Nat} (ha:a<4096) (hb:b<4096):a ^^^ b<4096:=Nat.xor_lt_two_pow (n:=12) ha hb
theorem Aml {i:Nat} (hi:i<256):∀ (l:List Nat) (s:Nat),(∀ k∈l,k<8)→s<4096→Aaa i l s<4096:=by
 intro l
 induction l with
 | nil=>intro s _ hs;exact hs
 | cons k l ih =>
  intro s hl hs
  simp only [Aaa,A1n]
  exact ih _ (fun k hk=>hl k (.tail _ hk)) (Ad4 hs (Aac _ (by have:=hl k (.head _);omega)))
theorem Aio (b:By):∀ k∈Lc b,k<8:=fun k hk=>by
 simp only [Lc,A1e,A1w] at hk
 exact hk.1
theorem Lx (d:Dat):∀ i,i≤256→Mw d i<4096:=by
 intro i
 induction i with
 | zero=>intro _;simp [Mw]
 | succ i ih=>intro h;rw [T9];exact Aml (by omega) _ _ (Aio _) (ih (by omega))
theorem Yt (d:Dat):∀ i,Ys d i<2:=by
 intro i
 induction i with
 | zero=>simp [Ys]
 | succ i ih=>rw [Wp];exact Nat.xor_lt_two_pow (n:=1) ih (by omega)
def Dm (d:Dat):Nat:=if (Lw d+Gm (Gj d)) % 2=0 then Gj d else Gj d ||| 4096
theorem G9 (d:Dat):Dm d<8192:=by
 have h:=Lx d 256 (A2q _)
 unfold Dm Gj
 split
 ·omega
 ·exact Nat.or_lt_two_pow (n:=13) (by omega) (by omega)
def Abi (d:Dat) (i:Nat):Dat:=if h:i / 8<256 then d.set (i / 8) (d[i / 8] ^^^ (1#8 <<< (i % 8))) else d
def zeroD:Dat:=Vector.replicate 256 0#8
theorem Ua:List.replicate 256 (Value.int .u8 0)=vbc zeroD:=by kernel_rfl
def Dn (d:Dat) (chk:Nat):Dat×Int×Int :=
 let s:=Gj d ^^^ (chk &&& 4095)
 let odd:=(Lw d+Gm (chk &&& 8191)) % 2
 if s=0∧odd=0 then (d,0,0) else if odd=0 then (zeroD,0,21) else if s &&& (s - 1)=0 then (d,1,0)
 else if 2048≤(s:Int) - 1 - Rr s then (zeroD,0,21) else (Abi d (s - 1 - Rr s),1,0)
end
section
open Go.K
def Zx {n:Nat} (p:Vector By n) (o:Nat) (xs:List By):Vector By n:=Vector.ofFn fun j=>if o≤j.val∧j.val<o+xs.length then xs.getD (j.val - o) 0 else p[j]
theorem H3 {n:Nat} (p:Vector By n) (o:Nat) (xs:List By) (j:Nat) (h:j<n):(Zx p o xs)[j]=if o≤j∧j<o+xs.length then xs.getD (j - o) 0 else p[j]:=by simp [Zx]
theorem Nv {n:Nat} (p:Vector By n) (i:Nat):(vbc p)[i]? =if h:i<n then some (bv p[i]) else none:=by
 unfold vbc
 rw [A0f]
 by_cases h:i<n
 ·simp [h]
 ·rw [Azk (by simpa using h)]
  simp [h]
theorem cells_get (xs:List By) (i:Nat):(cells xs)[i]? =(xs[i]?).map bv:=by rw [Lh,A0f]
theorem Ie (xs:List By):(cells xs).length=xs.length:=by rw [Lh,A1a]
theorem Rw {n:Nat} {p:Vector By n} {o:Nat} {xs:List By} (h:o+xs.length≤n):Br (vbc p) o (cells xs)=some (vbc (Zx p o xs)):=by
 refine Eu ?_ (by rw [Ie,Ar];exact h)
 apply A0o
 intro i
 rw [Nv]
 by_cases hi:i<n
 ·rw [A22 hi,H3 _ _ _ _ hi]
  by_cases h1:i<o
  ·rw [A26 (by omega),A0j,Ayo (by rw [A0v,Ar];omega),Az5,A25 h1,Nv,A22 hi]
  ·by_cases h2:i<o+xs.length
   ·rw [A25 ⟨by omega,h2⟩,A0j,Ayk (by rw [A0v,Ar];omega),Ayo (by rw [Ie,A0v,Ar];omega),A0v,Ar,A1l (by omega),cells_get,Ayw (by omega)]
    simp only [A1g,Ayg,Ayw (show i - o<xs.length by omega),A0t]
   ·rw [A26 (by omega),Ayk (by rw [Azz,Ie,A0v,Ar];omega),Az4,Azz,Ie,A0v,Ar,A1l (by omega),Nv]
    have e:o+xs.length+(i - (o+xs.length))=i:=by omega
    simp only [e,hi,A22]
 ·rw [dif_neg hi,Azk]
  simp only [Azz,A0v,A03,Ie,Ar]
  omega
def Ag8 (kind:By) (body:List By):Dat:=Zx ((zeroD.set 0 kind).set 1 (BitVec.ofNat 8 body.length)) 2 body
def As0 (d:Dat):BitVec 32:=K3 0 [d.toList.take 252]
def Avj (d:Dat):Dat:=Zx d 252 (Co 4 ((As0 d).setWidth 64))
def J6 (kind:By) (body:List By):Dat:=Avj (Ag8 kind body)
def Jb (d:Dat):Pg:=Zx (Zx Jv 0 d.toList) 256 (Co 2 (BitVec.ofNat 64 (Dm d)))
def Cw (kind:By) (body:List By):Pg:=Jb (J6 kind body)
def C6 (kind:By) (body:List By):Bool:=(decide ((kind.toNat:Int)=0) || decide ((kind.toNat:Int)=255)) || decide ((240:Int)<body.length)
def C3 (kind:By) (body:List By):Pg×Int:=if C6 kind body=true then (Jv,1) else (Cw kind body,0)
def J7 (p:Pg) (i:Nat):Nat:=(List.range i).foldl (fun s j=>s+G2 (~~~ (p.toList.getD j 0))) 0
theorem K8 (p:Pg) (i:Nat):J7 p (i+1)=J7 p i+G2 (~~~ (p.toList.getD i 0)):=by simp [J7,A1q]
theorem Ag9 (p:Pg):∀ i,J7 p i≤8*i:=by
 intro i
 induction i with
 | zero=>simp [J7]
 | succ i ih=>rw [K8];have:=Kb (~~~ (p.toList.getD i 0));omega
def Bs (p:Pg):Bool:=decide (J7 p 258≤1)
def If (p:Pg):Dat:=Vector.ofFn fun j=>p[j]
theorem Apj (p:Pg):cut (vbc p) 0 256=some (vbc (If p)):=by
 refine cut_iff.2 ⟨?_,by rw [Ar];omega⟩
 apply A0o
 intro i
 rw [A1x,Az5,Nv,Nv]
 by_cases h:i<256
 ·rw [A22 h,A25 h,A22 (by omega)]
  simp [If]
 ·rw [dif_neg h,A26 h]
def D1 (p:Pg):Nat:=(D9 ((p.toList.drop 256).take 2) 2).toNat % 65536
def Gp (d:Dat):List By:=if d[1].toNat≤240 then (d.toList.drop 2).take d[1].toNat else []
def Cg (p:Pg):By×List By×Int×Int :=
 if Bs p=true then (0,[],0,20) else
 let above:=Gm (D1 p &&& 57344)
 if 1<above then (0,[],0,21) else
 let f:=Dn (If p) (D1 p)
 if f.2.2≠0 then (0,[],0,f.2.2) else
 let w:=C3 f.1[0] (Gp f.1)
 if w.2≠0∨240<f.1[1].toNat∨w.1.toList.take 256≠f.1.toList then (0,[],0,21)
 else (f.1[0],Gp f.1,f.2.1+above,0)
theorem E6 {p:Pg} (h:Bs p=true):Cg p=(0,[],0,20):=by unfold Cg;rw [A25 h]
theorem Q1 {p:Pg} (h:Bs p=false) (h2:1<Gm (D1 p &&& 57344)):Cg p=(0,[],0,21):=by
 unfold Cg;rw [A26 (by rw [h];exact Az2)];simp only [];rw [A25 h2]
theorem Aha {p:Pg} (h:Bs p=false) (h2:¬ 1<Gm (D1 p &&& 57344)) (h3:¬ (Dn (If p) (D1 p)).2.2=0):Cg p=(0,[],0,(Dn (If p) (D1 p)).2.2):=by
 unfold Cg;rw [A26 (by rw [h];exact Az2)];simp only [];rw [A26 h2,A25 h3]
theorem Vg {p:Pg} {f:Dat×Int×Int} (hf:Dn (If p) (D1 p)=f) (h:Bs p=false) (h2:¬ 1<Gm (D1 p &&& 57344)) (h3:f.2.2=0)
  (h4:(C3 f.1[0] (Gp f.1)).2≠0∨240<f.1[1].toNat∨(C3 f.1[0] (Gp f.1)).1.toList.take 256≠f.1.toList):Cg p=(0,[],0,21):=by
 subst hf
 unfold Cg;rw [A26 (by rw [h];exact Az2)];simp only [];rw [A26 h2,A26 (by rw [h3];simp),A25 h4]
theorem Zy {p:Pg} {f:Dat×Int×Int} (hf:Dn (If p) (D1 p)=f) (h:Bs p=false) (h2:¬ 1<Gm (D1 p &&& 57344)) (h3:f.2.2=0)
  (h4:¬ ((C3 f.1[0] (Gp f.1)).2≠0∨240<f.1[1].toNat∨(C3 f.1[0] (Gp f.1)).1.toList.take 256≠f.1.toList)):Cg p=(f.1[0],Gp f.1,f.2.1+(Gm (D1 p &&& 57344):Nat),0):=by
 subst hf
 unfold Cg;rw [A26 (by rw [h];exact Az2)];simp only [];rw [A26 h2,A26 (by rw [h3];simp),A26 h4]
theorem Avk {a b c:Prop} [Decidable a] [Decidable b] [Decidable c] (h:((!decide a || decide b) || !decide c)=true):¬ a∨b∨¬ c:=by
 by_cases ha:a <;> by_cases hb:b <;> by_cases hc:c <;> simp_all
theorem As1 {a b c:Prop} [Decidable a] [Decidable b] [Decidable c] (h:((!decide a || decide b) || !decide c)=false):a∧¬ b∧c:=by
 by_cases ha:a <;> by_cases hb:b <;> by_cases hc:c <;> simp_all
theorem Aj5 (p:Pg):D1 p<65536:=by unfold D1;omega
theorem Aj6 {n:Nat} (hn:n<65536):Er .andNot .u16 n 8191=((n &&& 57344:Nat):Int):=by
 show IntKind.u16.wrap ((BitVec.ofInt 16 (n:Int) &&& ~~~ BitVec.ofInt 16 8191).toNat:Int)=_
 rw [Azr,show ~~~ BitVec.ofInt 16 8191=BitVec.ofNat 16 57344 from by decide,A07,Az0,Az0,A0z (show n<2 ^ 16 from hn),A0z (show 57344<2 ^ 16 by decide)]
 exact Hg .u16 rfl (Nat.lt_of_le_of_lt A1m hn)
theorem Apk (x:Wd):IntKind.u16.wrap (x.toNat:Int)=((x.toNat % 65536:Nat):Int):=by
 rw [Ex .u16 rfl,Azr,Az0];rfl
theorem Apl (d:Dat) (c:Nat):0≤(Dn d c).2.1∧(Dn d c).2.1≤1:=by
 unfold Dn
 simp only []
 split
 ·exact ⟨by simp,by simp⟩
 ·split
  ·exact ⟨by simp,by simp⟩
  ·split
   ·exact ⟨by simp,by simp⟩
   ·split <;> exact ⟨by simp,by simp⟩
end
section
open Go.K
def XS (f:Nat→Nat) (n:Nat):Nat:=(List.range n).foldl (fun s j=>s ^^^ f j) 0
theorem Aw8 (f:Nat→Nat) (n:Nat):XS f (n+1)=XS f n ^^^ f n:=by simp [XS,A1q]
theorem Aw1 {f g:Nat→Nat}:∀ {n:Nat},(∀ j<n,g j=f j)→XS g n=XS f n
 | 0,_=>rfl
 | n+1,h=>by rw [Aw8,Aw8,Aw1 (n:=n) (fun j hj=>h j (by omega)),h n (by omega)]
theorem Apq {f g:Nat→Nat} {d k:Nat}:∀ {n:Nat},k<n→(∀ j<n,j≠k→g j=f j)→g k=f k ^^^ d→XS g n=XS f n ^^^ d
 | 0,h,_,_=>by omega
 | n+1,h,h1,h2=>by
  rw [Aw8,Aw8]
  by_cases e:k=n
  ·subst e
   rw [Aw1 (n:=k) (fun j hj=>h1 j (by omega) (by omega)),h2,Nat.xor_assoc]
  ·rw [Apq (n:=n) (by omega) (fun j hj hne=>h1 j (by omega) hne) h2,h1 n (by omega) (fun e'=>e e'.symm)]
   rw [Nat.xor_assoc,Nat.xor_assoc,Nat.xor_comm d]
theorem Rx {n:Nat} (v:Vector By n) {j:Nat} (h:j<n):v.toList.getD j 0=v[j]:=by simp [Ayg,h]
theorem Avl (x:Nat):x &&& 4095=x % 4096:=Ax9 x 12
theorem Avm (x:Nat):x &&& 8191=x % 8192:=Ax9 x 13
theorem Avn {x:Nat} (h:x<4096):x ||| 4096=4096+x:=by
 have:=Ayf (i:=12) h 1
 rw [show 2 ^ 12*1=4096 from rfl] at this
 rw [Nat.or_comm];omega
theorem Atn:∀ s<4096,Gm (4096+s)=Gm s+1:=Aab (by decide +kernel)
theorem So (d:Dat):Gj d<4096:=Lx d 256 (A2q _)
theorem Acz (d:Dat):Dm d % 4096=Gj d:=by
 have h:=So d
 unfold Dm
 split
 ·omega
 ·rw [Avn h];omega
theorem Ahb (d:Dat):(Lw d+Gm (Dm d)) % 2=0:=by
 unfold Dm
 split
 ·assumption
 ·rename_i h;rw [Avn (So d),Atn _ (So d)];omega
theorem Aj9 {d:Dat} {c:Nat} (hc:c % 8192=Dm d):Dn d c=(d,0,0):=by
 have h1:c % 4096=Gj d:=by rw [← Acz,← hc];omega
 unfold Dn
 simp only []
 rw [Avl,Avm,h1,hc,Nat.xor_self,Ahb,A25 ⟨rfl,rfl⟩]
theorem Ahc (a b:By):(D9 [a,b] 2).toNat=a.toNat+256*b.toNat:=by
 have e:D9 [a,b] 2=(0#64 ||| (a.setWidth 64 <<< 0)) ||| (b.setWidth 64 <<< 8):=rfl
 have ha:=a.isLt
 have hb:=b.isLt
 have h1:((a.setWidth 64:Wd) <<< 0).toNat=a.toNat:=by simp [Azd];omega
 have h2:((b.setWidth 64:Wd) <<< 8).toNat=256*b.toNat:=by
  rw [Ay6,Azd,Nat.shiftLeft_eq];omega
 rw [e,BitVec.toNat_or,BitVec.toNat_or,h1,h2]
 have:=Ayf (i:=8) ha b.toNat
 rw [show 2 ^ 8=256 from rfl] at this
 rw [show (0#64).toNat=0 from rfl,Nat.zero_or,Nat.or_comm]
 omega
theorem Aka (p:Pg):(p.toList.drop 256).take 2=[p[256],p[257]]:=by
 apply A0o
 intro i
 rw [Az5,Az4]
 rcases i with _ | _ | i
 ·simp
 ·simp
 ·simp;omega
theorem Akb (p:Pg):D1 p=p[256].toNat+256*p[257].toNat:=by
 unfold D1
 rw [Aka,Ahc]
 have:=p[256].isLt
 have:=p[257].isLt
 omega
theorem Apr:∀ a<256,(a+256*(255#8).toNat) &&& 57344=57344:=by decide +kernel
theorem J8 {p:Pg} (h:p[257]=255#8):(Cg p).2.2.2≠0:=by
 cases hb:Bs p with
 | true=>rw [E6 hb];decide
 | false =>
  have hc:D1 p &&& 57344=57344:=by
   rw [Akb,h]
   exact Apr _ p[256].isLt
  rw [Q1 hb (by rw [hc];decide)]
  simp
theorem Sp (p:Pg) (l:List Nat):∀ n,(∀ i∈l,i<n)→l.Nodup→(l.map fun i=>G2 (~~~ (p.toList.getD i 0))).sum≤J7 p n
 | 0,h,_=>by
  cases l with
  | nil=>simp
  | cons x l=>exact absurd (h x (.head _)) (by omega)
 | n+1,h,hn=>by
  rw [K8]
  by_cases hm:n∈l
  ·have h1:=Sp p (l.erase n) n (fun i hi=>by
    have h2:=(hn.mem_erase_iff).1 hi
    have:=h i h2.2
    omega) (hn.erase n)
   have h3:(l.map fun i=>G2 (~~~ (p.toList.getD i 0))).sum=G2 (~~~ (p.toList.getD n 0))+((l.erase n).map fun i=>G2 (~~~ (p.toList.getD i 0))).sum:=by
    have:=(List.perm_cons_erase hm).map fun i=>G2 (~~~ (p.toList.getD i 0))
    rw [this.sum_nat]
    simp
   omega
  ·have:=Sp p l n (fun i hi=>by
    have:=h i hi
    rcases A2i i n with h2 | h2
    ·exact h2
    ·exact absurd (show n∈l by rwa [show n=i by omega]) hm) hn
   omega
theorem Ahd {p:Pg} (h:2≤G2 (~~~ p[0])+G2 (~~~ p[1])+G2 (~~~ p[257])):Bs p=false:=by
 have:=Sp p [0,1,257] 258 (by simp) (by simp)
 simp only [A15,A2d,List.sum_cons,List.sum_nil] at this
 rw [Rx p (show 0<258 by omega),Rx p (show 1<258 by omega),Rx p (show 257<258 by omega)] at this
 unfold Bs
 simp;omega
end
section
open Go.K
theorem Akc (p:Pg) {j:Nat} (h:j<256):(If p)[j]=p[j]:=by simp [If]
theorem L8 (d:Dat) {j:Nat} (h:j<256):(Jb d)[j]=d[j]:=by
 unfold Jb
 rw [H3 _ _ _ _ (by omega),A26 (by omega),H3 _ _ _ _ (by omega),A25 (by simp;omega),A2h,Rx d h]
theorem Ac0 (d:Dat):If (Jb d)=d:=by
 apply A2u
 intro j hj
 rw [Akc _ hj,L8 d hj]
theorem Ahe (d:Dat):(Jb d).toList.take 256=d.toList:=by
 apply A0y
 ·simp
 ·intro j h1 h2
  simp at h2
  rw [List.getElem_take]
  have:=L8 d h2
  simpa using this
theorem Ac1 (d:Dat):(Jb d)[256].toNat=Dm d % 256:=by
 unfold Jb
 rw [H3 _ _ _ _ (by omega),A25 (by rw [Bo];omega)]
 show ((BitVec.ofNat 64 (Dm d)).setWidth 8).toNat=_
 have:=G9 d
 rw [Azd,Az0]
 omega
theorem Sq (d:Dat):(Jb d)[257].toNat=Dm d / 256:=by
 unfold Jb
 rw [H3 _ _ _ _ (by omega),A25 (by rw [Bo];omega)]
 show (((BitVec.ofNat 64 (Dm d)) >>> 8).setWidth 8).toNat=_
 have:=G9 d
 rw [Azd,Ayx,Az0,Ayp]
 omega
theorem Akd (d:Dat):D1 (Jb d)=Dm d:=by rw [Akb,Ac1,Sq];omega
theorem Xn {k:By} {b:List By} {j:Nat} (h:j<252):(J6 k b)[j]=(Ag8 k b)[j]:=by
 unfold J6 Avj
 rw [H3 _ _ _ _ (by omega),A26 (by omega)]
theorem Ac2 (k:By) (b:List By):(J6 k b)[0]=k:=by
 rw [Xn (by omega)]
 unfold Ag8
 rw [H3 _ _ _ _ (by omega),A26 (by omega)]
 simp
theorem Ac3 (k:By) (b:List By):(J6 k b)[1]=BitVec.ofNat 8 b.length:=by
 rw [Xn (by omega)]
 unfold Ag8
 rw [H3 _ _ _ _ (by omega),A26 (by omega)]
 simp
theorem Vj {k:By} {b:List By} (hb:b.length≤240):Gp (J6 k b)=b:=by
 unfold Gp
 have h1:((J6 k b)[1]).toNat=b.length:=by rw [Ac3,Az0];omega
 rw [h1,A25 hb]
 apply A0y
 ·simp;omega
 ·intro j h2 h3
  rw [List.getElem_take,List.getElem_drop]
  have:(J6 k b)[2+j]=b[j]:=by
   rw [Xn (by omega)]
   unfold Ag8
   rw [H3 _ _ _ _ (by omega),A25 (by omega)]
   simp [Ayg,h3]
  simpa using this
theorem Vk {k:By} {b:List By} (h:C6 k b=false):k≠0∧k≠255#8∧b.length≤240:=by
 unfold C6 at h
 simp only [Azp,Ayz] at h
 refine ⟨fun e=>h.1.1 (by rw [e];rfl),fun e=>h.1.2 (by rw [e];rfl),by omega⟩
theorem Ake {p:Pg} {k:By} {b:List By} {n:Int} (hw:C6 k b=false) (hb:Bs p=false) (ha:¬ 1<Gm (D1 p &&& 57344)) (hf:Dn (If p) (D1 p)=(J6 k b,n,0)):Cg p=(k,b,n+(Gm (D1 p &&& 57344):Nat),0):=by
 obtain ⟨h1,h2,h3⟩:=Vk hw
 have hwr:C3 k b=(Cw k b,0):=by unfold C3;rw [A26 (by rw [hw];simp)]
 rw [Zy hf hb ha rfl]
 ·simp only [Ac2,Vj h3]
 ·simp only [Ac2,Vj h3,hwr]
  intro h
  rcases h with h | h | h
  ·exact h rfl
  ·rw [Ac3,Az0] at h;omega
  ·exact h (Ahe _)
theorem Aps (x:Nat) (h:x<8192):x &&& 57344=0:=by
 have:∀ b<8,∀ a<1024,(1024*b+a) &&& 57344=0:=by decide +kernel
 have h1:=this (x / 1024) (by omega) (x % 1024) (by omega)
 rwa [Nat.div_add_mod] at h1
theorem Akf:∀ b:By,b≠255#8→1≤G2 (~~~ b):=Po (by decide +kernel)
theorem Ato:∀ b:By,b.toNat<32→3≤G2 (~~~ b):=Po (by decide +kernel)
theorem Ac4 {k:By} {b:List By} (hw:C6 k b=false):1≤G2 (~~~ (Cw k b)[0])∧1≤G2 (~~~ (Cw k b)[1])∧3≤G2 (~~~ (Cw k b)[257]):=by
 obtain ⟨h1,h2,h3⟩:=Vk hw
 refine ⟨Akf _ ?_,Akf _ ?_,Ato _ ?_⟩
 ·rw [show (Cw k b)[0]=(J6 k b)[0] from L8 _ (by omega),Ac2];exact h2
 ·rw [show (Cw k b)[1]=(J6 k b)[1] from L8 _ (by omega),Ac3]
  intro e
  have:=A20 BitVec.toNat e
  rw [Az0] at this
  have e2:(255#8).toNat=255:=rfl
  omega
 ·rw [show (Cw k b)[257].toNat=Dm (J6 k b) / 256 from Sq _]
  have:=G9 (J6 k b)
  omega
theorem Ig {k:By} {b:List By} (hw:C6 k b=false):Cg (Cw k b)=(k,b,0,0):=by
 obtain ⟨z1,z2,z3⟩:=Ac4 hw
 have hc:D1 (Cw k b)=Dm (J6 k b):=Akd _
 have ht:D1 (Cw k b) &&& 57344=0:=by rw [hc];exact Aps _ (G9 _)
 rw [Ake hw (Ahd (by omega)) (by rw [ht];decide) (n:=0),ht]
 ·rfl
 ·rw [show If (Cw k b)=J6 k b from Ac0 _,hc]
  exact Aj9 (A0z (G9 _))
end
section
open Go.K
def Fx (b:Int):By:=BitVec.ofInt 8 b
def Fy (v:Wd) (blocks:Int) (uses lost:List Int):List By :=
 Co 8 v++(K0 1 [BitVec.ofInt 64 blocks,BitVec.ofInt 64 (uses.length:Int),BitVec.ofInt 64 (lost.length:Int)]++(uses.map Fx++(lost.map Fx++[])))
def Ea (v:Wd) (blocks:Int) (uses lost:List Int):Pg:=(C3 1 (Fy v blocks uses lost)).1
def No (b:By):Int:=(b.toNat:Int)
def Np (body:List By) (blocks:Int):List Int×List Int×Wd×Bool :=
 let a:=C7 8 body false
 let b:=C7 1 a.2.1 a.2.2
 if w64 (b.1.toNat:Int)≠blocks then ([],[],0,false) else
 let n:=C7 1 b.2.1 b.2.2
 let m:=C7 1 n.2.1 n.2.2
 let u:=C9 (max (w64 (n.1.toNat:Int)) 0).toNat m.2.1 m.2.2
 let l:=C9 (max (w64 (m.1.toNat:Int)) 0).toNat u.2.1 u.2.2
 (u.1.map No,l.1.map No,a.1,(!l.2.2 && decide ((l.2.1.length:Int)=0)) && decide (w64 (n.1.toNat:Int)=w64 (w64 (blocks - 2) - 4)))
theorem Aje {body:List By} {blocks:Int} {a b:Wd×List By×Bool} (ha:a=C7 8 body false) (hb:b=C7 1 a.2.1 a.2.2) (h:¬ w64 (b.1.toNat:Int)=blocks):Np body blocks=([],[],0,false):=by
 subst hb;subst ha;unfold Np;simp only [];rw [A25 h]
theorem Uo {body:List By} {blocks:Int} {a b n m:Wd×List By×Bool} {u l:List By×List By×Bool} (ha:a=C7 8 body false) (hb:b=C7 1 a.2.1 a.2.2) (h:w64 (b.1.toNat:Int)=blocks)
  (hn:n=C7 1 b.2.1 b.2.2) (hm:m=C7 1 n.2.1 n.2.2) (hu:u=C9 (max (w64 (n.1.toNat:Int)) 0).toNat m.2.1 m.2.2) (hl:l=C9 (max (w64 (m.1.toNat:Int)) 0).toNat u.2.1 u.2.2) :
  Np body blocks=(u.1.map No,l.1.map No,a.1,(!l.2.2 && decide ((l.2.1.length:Int)=0)) && decide (w64 (n.1.toNat:Int)=w64 (w64 (blocks - 2) - 4))):=by
 subst hl;subst hu;subst hm;subst hn;subst hb;subst ha;unfold Np;simp only [];rw [A26 (by rw [h];simp)]
def Dp (q:Pg) (blocks:Int):List Int×List Int×Wd×Bool :=
 let f:=Cg q
 if f.2.2.2≠0∨f.1≠1 then ([],[],0,false) else
 Np f.2.1 blocks
structure TS where
 uses:List Int
 lost:List Int
 version:Wd
 area:Int
 next:Int
 at':Int
deriving DecidableEq
def Hh (c:Chip) (a i:Int) (q:Pg):Int:=if Aww c a i=0∧B0 c a i≠q then 33 else Aww c a i
def Fk (c:Chip) (a i:Int) (q:Pg):Int:=if (B1 c a i q).1=0 then Hh (B1 c a i q).2 a i q else (B1 c a i q).1
def Fz:Nat→Chip→Int→Int→Pg→Int×Int×Chip
 | 0,c,_,_,_=>(8,34,c)
 | f+1,c,a,i,q=>if Fk c a i q≠32∧Fk c a i q≠33 then (i+1,Fk c a i q,(B1 c a i q).2) else Fz f (B1 c a i q).2 a (i+1) q
def Ge (c:Chip) (a i:Int) (q:Pg):Int×Int×Chip:=Fz (8 - i).toNat c a i q
theorem Qr {c:Chip} {a i:Int} {q:Pg} (hi:i<8) (he:Fk c a i q≠32∧Fk c a i q≠33):Ge c a i q=(i+1,Fk c a i q,(B1 c a i q).2):=by
 unfold Ge
 rw [show (8 - i).toNat=(8 - (i+1)).toNat+1 by omega,Fz]
 rw [A25 he]
theorem Agp {c:Chip} {a i:Int} {q:Pg} (hi:i<8) (he:¬ (Fk c a i q≠32∧Fk c a i q≠33)):Ge c a i q=Ge (B1 c a i q).2 a (i+1) q:=by
 unfold Ge
 rw [show (8 - i).toNat=(8 - (i+1)).toNat+1 by omega,Fz]
 rw [A26 he]
theorem Uq {c:Chip} {a i:Int} {q:Pg} (hi:¬ i<8):Ge c a i q=(8,34,c):=by
 unfold Ge
 rw [show (8 - i).toNat=0 by omega,Fz]
theorem Fh (c:Chip) (i j:Int) (d:Pg):(B1 c i j d).2.aC=c.aC:=by
 unfold B1
 split
 ·split
  ·rfl
  ·split
   ·simp only []
    split
    ·rfl
    ·split <;> rfl
   ·rfl
 ·rfl
theorem Hn (c:Chip) (i:Int):(B3 c i).2.aC=c.aC:=by
 unfold B3
 split
 ·split
  ·rfl
  ·simp only []
   split
   ·rfl
   ·split <;> rfl
 ·rfl
theorem Acb (a:Int) (q:Pg):∀ (f:Nat) (c:Chip) (i:Int),(Fz f c a i q).2.2.aC=c.aC
 | 0,c,i=>rfl
 | f+1,c,i=>by
  unfold Fz
  split
  ·exact Fh c a i q
  ·rw [Acb a q f,Fh]
theorem Za (c:Chip) (a i:Int) (q:Pg):(Ge c a i q).2.2.aC=c.aC:=Acb a q _ c i
theorem Acd (a:Int) (q:Pg):∀ (f:Nat) (c:Chip) (i:Int),0≤i→i+f≤8→0≤(Fz f c a i q).1∧(Fz f c a i q).1≤8
 | 0,c,i,h,_=>⟨by unfold Fz;simp,by unfold Fz;simp⟩
 | f+1,c,i,h,h8=>by
  unfold Fz
  split
  ·simp only;omega
  ·exact Acd a q f _ (i+1) (by omega) (by omega)
theorem Zb (c:Chip) (a i:Int) (q:Pg) (h:0≤i):0≤(Ge c a i q).1∧(Ge c a i q).1≤8:=by
 rcases Int.le_total i 8 with h8 | h8
 ·exact Acd a q _ c i h (by omega)
 ·rw [Uq (by omega)];simp
structure KS where
 area:Int
 next:Int
 e:Int
 c:Chip
def Gw (a:Int) (q:Pg) (s:KS):KS :=
 let r:=B3 s.c (1 - a)
 if r.1=0 then ⟨1 - a,(Ge r.2 (1 - a) 0 q).1,(Ge r.2 (1 - a) 0 q).2.1,(Ge r.2 (1 - a) 0 q).2.2⟩ else if r.1=33 then ⟨1 - a,s.next,s.e,r.2⟩ else ⟨1 - a,s.next,r.1,r.2⟩
def Di:Nat→Int→Pg→KS→KS
 | 0,_,_,s=>s
 | f+1,a,q,s=>if s.e=34 then Di f a q (Gw a q s) else s
def Fl (t:TS) (uses lost:List Int) (c:Chip):KS :=
 let q:=Ea (t.version+1) c.blocks.length uses lost
 let p:=Ge c t.area t.next q
 Di 4 t.area q ⟨t.area,p.1,p.2.1,p.2.2⟩
def B6 (t:TS) (uses lost:List Int) (c:Chip):Int×TS×Chip :=
 let s:=Fl t uses lost c
 if s.e≠0 then (s.e,t,s.c) else (0,⟨uses,lost,t.version+1,s.area,s.next,s.next - 1⟩,s.c)
theorem Pc (a:Int) (q:Pg) (s:KS):(Gw a q s).c.aC=s.c.aC:=by
 unfold Gw
 simp only []
 split
 ·rw [Za,Hn]
 ·split <;> exact Hn _ _
theorem Pd {a:Int} {q:Pg} {s:KS} (h:0≤s.next∧s.next≤8):0≤(Gw a q s).next∧(Gw a q s).next≤8:=by
 unfold Gw
 simp only []
 split
 ·exact Zb _ _ _ _ (A2p 0)
 ·split <;> exact h
structure Sc where
 last:Int
 uses:List Int
 lost:List Int
 newest:Wd
 at':Int
 any:Bool
def Ix (c:Chip) (a:Int) (i:Nat) (s:Sc):Sc :=
 let q:=B0 c a i
 let last:=if Bs q=true then s.last else (i:Int)+1
 let r:=Dp q c.blocks.length
 if (r.2.2.2 && (!s.any || decide ((s.newest.toNat:Int)≤r.2.2.1.toNat)))=true then ⟨last,r.1,r.2.1,r.2.2.1,i,true⟩ else { s with last:=last }
def Ci (c:Chip) (a:Int):Nat→Sc
 | 0=>⟨0,[],[],0,0,false⟩
 | i+1=>Ix c a i (Ci c a i)
def ts0:TS:=⟨[],[],0,0,0,0⟩
def Iy (c:Chip) (a:Nat) (t:TS×Bool):TS×Bool :=
 let s:=Ci c a 8
 if (s.any && (!t.2 || decide ((t.1.version.toNat:Int)<s.newest.toNat)))=true then (⟨s.uses,s.lost,s.newest,a,s.last,s.at'⟩,true) else t
def Db (c:Chip):Nat→TS×Bool
 | 0=>(ts0,false)
 | a+1=>Iy c a (Db c a)
def Dj (c:Chip):Int×TS :=
 if Aww c 0 0≠0 then (Aww c 0 0,ts0) else if (Db c 2).2=true then (0,(Db c 2).1) else (35,ts0)
def I4 (c:Chip) (b:Int):Bool:=Ew c b && Wm c b
def Fp (c:Chip) (size:Int):Nat→List Int×List Int
 | 0=>([],[])
 | i+1 =>
  let s:=Fp c size i
  if I4 c i=true then (s.1,s.2++[(i:Int)]) else if (decide (2≤(i:Int)) && decide ((s.1.length:Int)<size))=true then (s.1++[(i:Int)],s.2) else s
def E9 (c:Chip):Wd×Int×Int:=if (Dj c).1=0 then ((Dj c).2.version,(Dj c).2.area,(Dj c).2.next) else (0,0,0)
def Dt (c:Chip):Int:=w64 (w64 ((c.blocks.length:Int) - 2) - 4)
def D0 (c:Chip):TS:=⟨(Fp c (Dt c) c.blocks.length).1,(Fp c (Dt c) c.blocks.length).2,(E9 c).1,(E9 c).2.1,(E9 c).2.2,0⟩
def Hu (c:Chip):Bool:=(I4 c 0 || I4 c 1) || decide (((D0 c).uses.length:Int)<Dt c)
def C1 (c:Chip):Int×TS×Chip :=
 if Aww c 0 0≠0 then (Aww c 0 0,ts0,c) else
 if Hu c=true then (34,ts0,c) else
 if (B6 (D0 c) (D0 c).uses (D0 c).lost c).1≠0 then ((B6 (D0 c) (D0 c).uses (D0 c).lost c).1,ts0,(B6 (D0 c) (D0 c).uses (D0 c).lost c).2.2) else B6 (D0 c) (D0 c).uses (D0 c).lost c
theorem Xc (c:Chip) (a:Int):∀ i,0≤(Ci c a i).last∧(Ci c a i).last≤i
 | 0=>by simp [Ci]
 | i+1=>by
  have ih:=Xc c a i
  show 0≤(Ix c a i (Ci c a i)).last∧_
  have:(Ix c a i (Ci c a i)).last=if Bs (B0 c a i)=true then (Ci c a i).last else (i:Int)+1:=by unfold Ix;simp only [];split <;> rfl
  show 0≤(Ix c a i (Ci c a i)).last∧(Ix c a i (Ci c a i)).last≤_
  rw [this]
  split <;> omega
theorem Ro (c:Chip):∀ k,k≤2→(0≤(Db c k).1.area∧(Db c k).1.area≤1)∧0≤(Db c k).1.next∧(Db c k).1.next≤8
 | 0,_=>by simp [Db,ts0]
 | k+1,h=>by
  have ih:=Ro c k (by omega)
  have hl:=Xc c k 8
  show (0≤(Iy c k (Db c k)).1.area∧(Iy c k (Db c k)).1.area≤1)∧0≤(Iy c k (Db c k)).1.next∧(Iy c k (Db c k)).1.next≤8
  unfold Iy
  simp only []
  split
  ·simp only;omega
  ·exact ih
theorem Ur (c:Chip):(0≤(E9 c).2.1∧(E9 c).2.1≤1)∧0≤(E9 c).2.2∧(E9 c).2.2≤8:=by
 unfold E9
 split
 ·unfold Dj
  split
  ·simp [ts0]
  ·split
   ·exact Ro c 2 (A2q _)
   ·simp [ts0]
 ·simp
theorem Us (c:Chip) (size:Int):∀ i,(Fp c size i).1.length≤i∧(Fp c size i).2.length≤i
 | 0=>by simp [Fp]
 | i+1=>by
  have ih:=Us c size i
  unfold Fp
  simp only []
  split
  ·simp;omega
  ·split
   ·simp;omega
   ·omega
def D5 (t:TS) (n:Int) (b:Int):Bool:=((decide (2≤b) && decide (b<n)) && !E3 t.uses b) && !E3 t.lost b
def Ko (t:TS) (n:Nat):Option Nat:=(List.range n).find? fun b=>D5 t n b
def atT (t:TS) (l:Int):Int×Bool:=if (decide (l<0) || decide ((t.uses.length:Int)≤l))=true then (0,false) else (at0 t.uses l,true)
def Bu (t:TS) (n:Nat):Int×Bool:=match Ko t n with | some b=>((b:Int),true) | none=>(0,false)
theorem Ace {t:TS} {n i:Nat} (hi:i<n) (hn:∀ k<i,D5 t n k=false) (h:D5 t n i=true):Bu t n=((i:Int),true):=by
 have:Ko t n=some i:=by
  unfold Ko
  rw [List.find?_eq_some_iff_append]
  refine ⟨h,List.range i,(List.range' (i+1) (n - i - 1)),?_,fun x hx=>by rw [hn x (A1w.1 hx)];rfl⟩
  apply A0y
  ·simp;omega
  ·intro j h1 h2
   rw [List.getElem_range]
   by_cases hj:j<i
   ·rw [Ayy (by simpa using hj)];simp
   ·by_cases hj2:j=i
    ·subst hj2;rw [Ayr (by simp)];simp
    ·rw [Ayr (by simp;omega)]
     simp only [List.length_range]
     rw [List.getElem_cons]
     rw [dif_neg (by omega),List.getElem_range']
     omega
 unfold Bu;rw [this]
theorem Aeq {t:TS} {n:Nat} (hn:∀ k<n,D5 t n k=false):Bu t n=(0,false):=by
 have:Ko t n=none:=by
  unfold Ko
  rw [List.find?_eq_none]
  intro x hx
  rw [hn x (A1w.1 hx)];simp
 unfold Bu;rw [this]
theorem Aof {c:Chip} {a i:Int} (hb:2≤c.blocks.length) (ha:0≤a∧a<2) (hi:0≤i∧i<8):Aww c a i=Aww c 0 0:=by
 have h:∀ a i:Int,0≤a∧a<2→0≤i∧i<8→((!Ew c a || decide (i<0)) || decide (8≤i))=false:=by
  intro a i ha hi
  have h1:Ew c a=true:=by unfold Ew;simp;omega
  have h2:¬ i<0:=by omega
  have h3:¬ 8≤i:=by omega
  simp [h1,h2,h3]
 unfold Aww
 rw [h a i ha hi,h 0 0 (by omega) (by omega)]
end
section
open Go.K
theorem H6:Bs A0=true:=by kernel_rfl
theorem Al0 {p:Pg} (h:Bs p=true):Cg p=(0,[],0,20):=E6 h
theorem Al1 {p:Pg} {n:Int} (h:Bs p=true):Dp p n=([],[],0,false):=by
 unfold Dp
 simp only [Al0 h]
 rw [A25 (by simp)]
theorem Ng {c:Chip} {a:Int}:∀ i,(∀ j<i,Bs (B0 c a (j:Nat))=true)→Ci c a i=⟨0,[],[],0,0,false⟩
 | 0,_=>rfl
 | i+1,h=>by
  have ih:=Ng i (fun j hj=>h j (by omega))
  have hb:=h i (by omega)
  show Ix c a i (Ci c a i)=_
  rw [ih]
  unfold Ix
  simp only [Al1 hb,hb,if_true]
  rfl
theorem Adn {c:Chip} (hm:Aww c 0 0=0) (h:∀ a<2,∀ j<8,Bs (B0 c (a:Nat) (j:Nat))=true):Dj c=(35,ts0):=by
 have h0:=Ng 8 (h 0 (by omega))
 have h1:=Ng 8 (h 1 (by omega))
 have e1:Db c 1=(ts0,false):=by
  show Iy c 0 (Db c 0)=_
  unfold Iy
  simp only [h0]
  rfl
 have e2:Db c 2=(ts0,false):=by
  show Iy c 1 (Db c 1)=_
  rw [e1]
  unfold Iy
  simp only [h1]
  rfl
 unfold Dj
 rw [A26 (by rw [hm];simp),A26 (by rw [e2];simp)]
section
variable {after keep:Int} {aP aC aB n:Nat} {bad:List Int}
abbrev Du (after keep:Int) (aP aC aB n:Nat) (bad:List Int):Chip:=Ow false after keep aP aC aB n bad
theorem Hf:(Du after keep aP aC aB n bad).blocks.length=n:=Qg n bad n
theorem Wi {i:Int} (h:0≤i∧i<n):Ew (Du after keep aP aC aB n bad) i=true:=by
 unfold Ew;rw [Hf];simp;omega
theorem Yb {i j:Int} (h:0≤i∧i<n) (hj:0≤j∧j<8):Aww (Du after keep aP aC aB n bad) i j=0:=by
 unfold Aww
 rw [Wi h,A26 (by simp [Du,Ow]),A26 (by simp [Du,Ow]),A26 (by simp;omega)]
theorem Ic {i:Nat} (h:i<n):(Du after keep aP aC aB n bad).blocks[i]? =some (Gz (E3 bad i)):=by
 show (Gi n bad n)[i]? =_
 simp [Gi,h]
theorem Aqp {b:Bool} {k:Nat} (h:k<8):(Gz b).pages.toList.getD k Jv=A0:=by
 unfold Gz
 rw [show (Vector.replicate 8 A0).toList=List.replicate 8 A0 from Vector.toList_replicate,Ayg,List.getElem?_replicate,A25 h]
 rfl
theorem Al2 {i j:Int} (h:0≤i∧i<n) (hj:0≤j∧j<8):B0 (Du after keep aP aC aB n bad) i j=A0:=by
 unfold B0
 rw [A25 (Yb h hj)]
 unfold Qf
 rw [Ic (show i.toNat<n by omega)]
 have hlt:j.toNat<8:=by omega
 exact Aqp hlt
theorem Aa0 (h:2≤n):Dj (Du after keep aP aC aB n bad)=(35,ts0) :=
 Adn (Yb (by omega) (by omega)) (fun a ha j hj=>by rw [Al2 (by omega) (by omega)];exact H6)
theorem Oq {i:Int} (h:0≤i∧i<n):I4 (Du after keep aP aC aB n bad) i=E3 bad i:=by
 unfold I4 Wm
 rw [Wi h,Ic (show i.toNat<n by omega),show ((i.toNat:Nat):Int)=i by omega]
 rfl
end
structure Good (c:Chip):Prop where
 off:c.off=false
 after:c.after<0
 dead:c.dead=false
 out:c.out=false
 pf:c.pf.list=[]
 wf:c.wf.list=[]
theorem Ado (d:Pg):Cu 258 A0 d=d:=by
 apply A2u
 intro j hj
 have e:(Cu 258 A0 d)[j]=A0[j] &&& d[j]:=by simp [Cu,hj]
 have b:A0[j]=BitVec.allOnes 8:=by
  unfold A0
  rw [Vector.getElem_replicate]
  decide
 rw [e,b,BitVec.allOnes_and]
theorem Adp {c:Chip} (h1:c.off=false) (h2:c.dead=false) (h3:c.out=false) {i j:Int} (hi:0≤i∧i<c.blocks.length) (hj:0≤j∧j<8):Aww c i j=0:=by
 unfold Aww
 have:Ew c i=true:=by unfold Ew;simp;omega
 rw [this,h1,h2,h3]
 simp;omega
theorem Aqq (v:Int):E3 [] v=false:=rfl
def prg (c:Chip) (i j:Nat) (d:Pg) (b:Blk):Chip:=Gb (Rt (cnt c)) i ⟨b.pages.setIfInBounds j d,(j:Int)+1,b.bad⟩
theorem Ah5 {c:Chip} (h:c.after<0):Fj c=c:=by
 unfold Fj
 rw [A25 h,A25 h]
theorem Ah6 {c:Chip} (g:Good c) {i j:Nat} {d:Pg} {b:Blk} (hb:c.blocks[i]? =some b) (hj:j<8) (hn:b.next=j) (hbad:b.bad=false) (hp:b.pages[j]=A0):B1 c i j d=(0,prg c i j d b):=by
 have hi:i<c.blocks.length:=(Aym.1 hb).1
 have hm:Aww c i j=0:=Adp g.off g.dead g.out (by omega) (by omega)
 have he:El c=false:=by unfold El;rw [A25 g.after]
 have hf:(Ky c || b.bad)=false:=by unfold Ky;rw [g.pf,Aqq,hbad];rfl
 rw [Yg (b:=b) hm (by simpa using hj) (by simpa using hb) hn.symm he hf]
 have e:wrB { b with next:=w64 (b.next+1) } (j:Int).toNat 258 d (by simpa using hj)=⟨b.pages.setIfInBounds j d,(j:Int)+1,b.bad⟩:=by
  have e1:w64 (b.next+1)=(j:Int)+1:=by rw [hn];exact Cx (by omega)
  have e2:Cu 258 b.pages[j] d=d:=by rw [hp];exact Ado d
  show Iu { b with next:=w64 (b.next+1) } j (Cu 258 b.pages[j] d)=_
  rw [e2,e1]
  rfl
 unfold wrC
 rw [Ah5 (by exact g.after),e]
 rfl
theorem Afr (c:Chip) (i j:Nat) (d:Pg) (b:Blk):(prg c i j d b).blocks.length=c.blocks.length:=by simp [prg,Gb,Rt,cnt]
theorem Al3 {c:Chip} (g:Good c) (i j:Nat) (d:Pg) (b:Blk):Good (prg c i j d b):=⟨g.off,g.after,g.dead,g.out,g.pf,g.wf⟩
theorem Tv {c:Chip} {i j:Nat} {d:Pg} {b:Blk} (hi:i<c.blocks.length):(prg c i j d b).blocks[i]? =some ⟨b.pages.setIfInBounds j d,(j:Int)+1,b.bad⟩:=by
 simp [prg,Gb,Rt,cnt,hi]
theorem Qd {c:Chip} {i k j:Nat} {d:Pg} {b:Blk} (h:i≠k):(prg c i j d b).blocks[k]? =c.blocks[k]? :=by
 simp [prg,Gb,Rt,cnt,Azl h]
theorem Ot {c:Chip} {i j:Nat} {b:Blk} (hm:Aww c i j=0) (hb:c.blocks[i]? =some b) (hj:j<8):B0 c i j=b.pages[j]:=by
 unfold B0 Qf
 rw [A25 hm,A0c,hb]
 simp [Ayg,hj]
theorem Al4 {c:Chip} (g:Good c) {i j:Nat} {d:Pg} {b:Blk} (hb:c.blocks[i]? =some b) (hj:j<8) (hn:b.next=j) (hbad:b.bad=false) (hp:b.pages[j]=A0):Ge c i j d=((j:Int)+1,0,prg c i j d b):=by
 have hi:i<c.blocks.length:=(Aym.1 hb).1
 have hpr:=Ah6 g hb hj hn hbad hp (d:=d)
 have g':=Al3 g i j d b
 have hm':Aww (prg c i j d b) i j=0:=Adp g'.off g'.dead g'.out (by rw [Afr];omega) (by omega)
 have hs:Fk c i j d=0:=by
  unfold Fk
  rw [hpr,A25 rfl]
  unfold Hh
  rw [Ot hm' (Tv hi) hj]
  simp [hm']
 rw [Qr (by omega) (by rw [hs];decide),hs,hpr]
theorem Ah7 {c:Chip} (g:Good c) {t:TS} {uses lost:List Int} {i j:Nat} {b:Blk} (ha:t.area=i) (hn':t.next=j) (hb:c.blocks[i]? =some b) (hj:j<8) (hn:b.next=j) (hbad:b.bad=false) (hp:b.pages[j]=A0) :
  B6 t uses lost c=(0,⟨uses,lost,t.version+1,i,(j:Int)+1,j⟩,prg c i j (Ea (t.version+1) c.blocks.length uses lost) b):=by
 have hp:=Al4 g hb hj hn hbad hp (d:=Ea (t.version+1) c.blocks.length uses lost)
 have hk:Fl t uses lost c=⟨i,(j:Int)+1,0,prg c i j (Ea (t.version+1) c.blocks.length uses lost) b⟩:=by
  unfold Fl
  simp only [ha,hn',hp]
  rfl
 unfold B6
 simp only [hk]
 rw [A26 (by simp)]
 congr 2
 congr 1
 omega
section
variable {after keep:Int} {aP aC aB n:Nat} {bad:List Int}
theorem Al5 (ha:after<0):Good (Du after keep aP aC aB n bad):=⟨rfl,ha,rfl,rfl,rfl,rfl⟩
theorem Al6 (h:2≤n):E9 (Du after keep aP aC aB n bad)=(0,0,0):=by
 unfold E9;rw [Aa0 h,A26 (by decide)]
theorem Nh (ha:after<0) (h:2≤n) (hb:Hu (Du after keep aP aC aB n bad)=false):∃ c',C1 (Du after keep aP aC aB n bad)=(0,⟨(D0 (Du after keep aP aC aB n bad)).uses,(D0 (Du after keep aP aC aB n bad)).lost,1,0,1,0⟩,c') ∧
  c'=prg (Du after keep aP aC aB n bad) 0 0 (Ea 1 n (D0 (Du after keep aP aC aB n bad)).uses (D0 (Du after keep aP aC aB n bad)).lost) (Gz false):=by
 have hbad:E3 bad 0=false:=by
  have:=hb
  unfold Hu at this
  rw [Oq (by omega)] at this
  simp at this
  exact this.1.1
 have hblk:=Ic (after:=after) (keep:=keep) (aP:=aP) (aC:=aC) (aB:=aB) (n:=n) (bad:=bad) (i:=0) (by omega)
 rw [show E3 bad ((0:Nat):Int)=false from hbad] at hblk
 have hf:=Al6 (after:=after) (keep:=keep) (aP:=aP) (aC:=aC) (aB:=aB) (bad:=bad) h
 have hk:=Ah7 (Al5 (keep:=keep) (aP:=aP) (aC:=aC) (aB:=aB) (n:=n) (bad:=bad) ha) (t:=D0 (Du after keep aP aC aB n bad)) (uses:=(D0 (Du after keep aP aC aB n bad)).uses) (lost:=(D0 (Du after keep aP aC aB n bad)).lost) (i:=0) (j:=0) (by show (E9 _).2.1=_;rw [hf];rfl) (by show (E9 _).2.2=_;rw [hf];rfl) hblk (by omega) rfl rfl (by simp [Gz])
 have hv:(D0 (Du after keep aP aC aB n bad)).version=0:=by show (E9 _).1=_;rw [hf]
 rw [hv,Hf] at hk
 refine ⟨_,?_,rfl⟩
 unfold C1
 rw [A26 (by rw [Yb (by omega) (by omega)];simp),A26 (by rw [hb];simp),A26 (by rw [hk];simp),hk]
 rfl
theorem Ah8 (c:Chip):(D0 c).uses=(Fp c (Dt c) c.blocks.length).1:=rfl
theorem Ah9 (c:Chip):(D0 c).lost=(Fp c (Dt c) c.blocks.length).2:=rfl
end
end
section
open Go.K
theorem Abl (x:Wd):∀ i,(Lu x i).toNat=x.toNat / 2 ^ (8*i)
 | 0=>by simp [Lu]
 | i+1=>by
  unfold Lu
  rw [Ayx,Ayp,Abl x i,Nat.div_div_eq_div_mul,← Nat.pow_add,Nat.mul_succ]
theorem Arg {k i:Nat} (x:Wd) (h:i<k):(Co k x).getD i 0=(Lu x i).setWidth 8:=by
 simp [Co,Ayg,h]
theorem O1 {k:Nat} (x:Wd) (hk:k≤8):∀ i,i≤k→(D9 (Co k x) i).toNat=x.toNat % 2 ^ (8*i)
 | 0,_=>by simp [D9,Nat.mod_one]
 | i+1,h=>by
  have ih:=O1 x hk i (by omega)
  have hlt:x.toNat % 2 ^ (8*i)<2 ^ (8*i):=A2w _ (Nat.two_pow_pos _)
  have hb:((Lu x i).setWidth 8).toNat=x.toNat / 2 ^ (8*i) % 256:=by rw [Azd,Abl]
  have hb2:=((Lu x i).setWidth 8).isLt
  have hs:((((Lu x i).setWidth 8).setWidth 64:Wd) <<< (8*i)).toNat=2 ^ (8*i)*((Lu x i).setWidth 8).toNat:=by
   rw [Ay6,Azd,Nat.shiftLeft_eq,A0z (show ((Lu x i).setWidth 8).toNat<2 ^ 64 by omega),Nat.mul_comm]
   apply A0z
   calc 2 ^ (8*i)*((Lu x i).setWidth 8).toNat<2 ^ (8*i)*2 ^ 8:=Nat.mul_lt_mul_of_pos_left hb2 (Nat.two_pow_pos _)
    _=2 ^ (8*i+8):=(Nat.pow_add 2 (8*i) 8).symm
    _≤2 ^ 64:=Nat.pow_le_pow_right (by omega) (by omega)
  rw [T6,Arg x (by omega),BitVec.toNat_or,ih,hs,Nat.or_comm,← Ayf hlt,hb]
  rw [show 8*(i+1)=8*i+8 by omega,Nat.pow_add,Nat.mod_mul,show (2:Nat) ^ 8=256 from rfl]
  omega
theorem Jy (x:Wd):D9 (Co 8 x) 8=x:=by
 apply Azg
 rw [O1 x (by omega) 8 (by omega)]
 exact A0z x.isLt
theorem Abm {n:Nat} (h:n<256):(D9 (Co 1 (BitVec.ofInt 64 (n:Int))) 1).toNat=n:=by
 rw [O1 _ (by omega) 1 (by omega),Azr,Az0]
 omega
theorem Jz {k:Nat} {xs r:List By} {bad:Bool} (h:xs.length=k):C7 k (xs++r) bad=(D9 xs k,r,bad):=by
 unfold C7
 rw [A26 (by simp;omega),A1s h,A1t h]
theorem Re {k:Nat} {xs r:List By} {bad:Bool} (h:xs.length=k):C9 k (xs++r) bad=(xs,r,bad):=by
 unfold C9
 rw [A26 (by simp;omega),A1s h,A1t h]
theorem Ws {l:List Int} (h:∀ x∈l,0≤x∧x<256):(l.map Fx).map No=l:=by
 rw [A2c]
 have:∀ x∈l,(No∘Fx) x=x:=fun x hx=>by
  have:=h x hx
  show ((BitVec.ofInt 8 x).toNat:Int)=x
  rw [Az9]
  omega
 rw [Azv this,List.map_id']
structure OkP (n:Nat) (u l:List Int):Prop where
 n1:16≤n
 n2:n≤40
 ul:u.length+6=n
 ll:l.length≤40
 ur:∀ x∈u,0≤x∧x<256
 lr:∀ x∈l,0≤x∧x<256
theorem Ht {x:Int} (h:0≤x∧x<9223372036854775808):w64 x=x:=Cx (by omega)
theorem Abn {v:Wd} {n:Nat} {u l:List Int} (h:OkP n u l):Np (Fy v n u l) n=(u,l,v,true):=by
 have h1:=h.n1
 have h2:=h.n2
 have h3:=h.ul
 have h4:=h.ll
 have hn:∀ m:Nat,m<256→w64 ((D9 (Co 1 (BitVec.ofInt 64 (m:Int))) 1).toNat:Int)=m:=fun m hm=>by
  rw [Abm hm];exact Ht (by omega)
 have e:Fy v n u l=Co 8 v++(Co 1 (BitVec.ofInt 64 (n:Int))++(Co 1 (BitVec.ofInt 64 (u.length:Int))++(Co 1 (BitVec.ofInt 64 (l.length:Int))++(u.map Fx++(l.map Fx++[]))))):=by
  unfold Fy K0
  simp only [A0m,List.flatMap_nil,A1j,A0j]
 rw [e]
 refine (Uo (Jz (Bo 8 v)).symm (Jz (Bo 1 _)).symm (hn n (by omega)) (Jz (Bo 1 _)).symm (Jz (Bo 1 _)).symm (u:=(u.map Fx,l.map Fx++[],false)) (l:=(l.map Fx,[],false)) ?_ ?_).trans ?_
 ·simp only
  rw [hn u.length (by omega)]
  exact (Re (by rw [A1a];omega)).symm
 ·simp only
  rw [hn l.length (by omega)]
  exact (Re (by rw [A1a];omega)).symm
 ·simp only
  rw [Ws h.ur,Ws h.lr,Jy,hn u.length (by omega)]
  have:w64 (w64 ((n:Int) - 2) - 4)=(n:Int) - 6:=by
   rw [Ht (x:=(n:Int) - 2) (by omega)]
   have:=Ht (x:=(n:Int) - 2 - 4) (by omega)
   rw [this];omega
  rw [this]
  simp
  omega
theorem Amu (v:Wd) (n:Int) (u l:List Int):(Fy v n u l).length=11+u.length+l.length:=by
 unfold Fy
 simp [Bo,Qj]
 omega
theorem Ub {v:Wd} {n:Nat} {u l:List Int} (h:OkP n u l):C6 1 (Fy v n u l)=false:=by
 have h2:=h.n2
 have h3:=h.ul
 have h4:=h.ll
 unfold C6
 rw [Amu]
 simp
 omega
theorem Amv {v:Wd} {n:Nat} {u l:List Int} (h:OkP n u l):Ea v n u l=Cw 1 (Fy v n u l):=by
 unfold Ea C3
 rw [A26 (by rw [Ub h];simp)]
def RP (n:Nat) (p:Pg):Option (Nat×List Int×List Int):=if (Dp p n).2.2.2=true then some ((Dp p n).2.2.1.toNat,(Dp p n).1,(Dp p n).2.1) else none
theorem Amw {p:Pg} {n:Nat} {v:Wd} {u l:List Int} {m:Int} (h:OkP n u l) (hr:Cg p=(1,Fy v n u l,m,0)):Dp p n=(u,l,v,true):=by
 unfold Dp
 simp only [hr]
 rw [A26 (by simp)]
 exact Abn h
theorem Av8 {p:Pg} {n:Nat} {v:Wd} {u l:List Int} {m:Int} (h:OkP n u l) (hr:Cg p=(1,Fy v n u l,m,0)):RP n p=some (v.toNat,u,l):=by
 unfold RP
 rw [Amw h hr,A25 rfl]
theorem Af1 {n:Nat} {v:Wd} {u l:List Int} (h:OkP n u l):RP n (Ea v n u l)=some (v.toNat,u,l):=by
 rw [Amv h];exact Av8 h (Ig (Ub h))
theorem Af2 {p:Pg} {n:Nat} (h:(Cg p).2.2.2≠0):RP n p=none:=by
 have e:Dp p n=([],[],0,false):=by
  unfold Dp
  simp only []
  rw [A25 (.inl h)]
 unfold RP
 rw [e,A26 (by simp)]
theorem Arh {p:Pg} {n:Nat} (h:p[257]=255#8):RP n p=none:=Af2 (J8 h)
theorem Av9 {p:Pg} {n:Nat} (h:Bs p=true):RP n p=none:=Af2 (by rw [E6 h];decide)
theorem J0 {j:Nat} (h:j<258):A0[j]=255#8:=by
 unfold A0
 rw [Vector.getElem_replicate]
theorem O2 {m:Nat} {p d:Pg} {j:Nat} (h:j<258):(Cu m p d)[j]=if j<m then p[j] &&& d[j] else p[j]:=by simp [Cu]
theorem Amx {m n:Nat} {d:Pg} (h:m<258):RP n (Cu m A0 d)=none:=by
 apply Arh
 have:(Cu m A0 d)[257]=A0[257]:=by
  rw [O2,A26 (by omega)]
 rw [this,J0 (by omega)]
theorem Fu {m:Nat} {d:Pg} (h:258≤m):Cu m A0 d=d:=by
 apply A2u
 intro j hj
 rw [O2 hj,A25 (by omega),J0 hj]
 exact BitVec.allOnes_and
structure ScI (c:Chip) (a:Int) (k:Nat) (s:Sc):Prop where
 l0:0≤s.last∧s.last≤k
 bl:∀ i<k,s.last≤i→Bs (B0 c a (i:Nat))=true
 nb:0<s.last→Bs (B0 c a (s.last - 1))=false
 no:s.any=false→∀ i<k,RP c.blocks.length (B0 c a (i:Nat))=none
 yes:s.any=true→(0≤s.at'∧s.at'<k)∧RP c.blocks.length (B0 c a s.at')=some (s.newest.toNat,s.uses,s.lost)
 le:s.any=true→∀ i<k,∀ w u l,RP c.blocks.length (B0 c a (i:Nat))=some (w,u,l)→w≤s.newest.toNat
theorem Af3 {n:Nat} {p:Pg} (h:(Dp p n).2.2.2=true):RP n p=some ((Dp p n).2.2.1.toNat,(Dp p n).1,(Dp p n).2.1):=A25 h
theorem Atb {n:Nat} {p:Pg} (h:¬ (Dp p n).2.2.2=true):RP n p=none:=A26 h
theorem Wt (c:Chip) (a:Int):∀ k,ScI c a k (Ci c a k)
 | 0=>⟨by simp [Ci],fun i hi=>by omega,fun h=>by simp [Ci] at h,fun _ i hi=>by omega,fun h=>by simp [Ci] at h,fun h=>by simp [Ci] at h⟩
 | k+1=>by
  have ih:=Wt c a k
  show ScI c a (k+1) (Ix c a k (Ci c a k))
  generalize Ci c a k=s at ih
  have hlast:∀ la:Int,la=(if Bs (B0 c a (k:Nat))=true then s.last else (k:Int)+1)→(0≤la∧la≤(k+1:Nat))∧(∀ i<k+1,la≤i→Bs (B0 c a (i:Nat))=true)∧(0<la→Bs (B0 c a (la - 1))=false):=fun la hla=>by
   have h0:=ih.l0
   split at hla
   ·rename_i hb
    subst hla
    refine ⟨by omega,fun i hi hle=> ?_,ih.nb⟩
    by_cases e:i=k
    ·subst e;exact hb
    ·exact ih.bl i (by omega) hle
   ·rename_i hb
    subst hla
    refine ⟨by omega,fun i hi hle=>by omega,fun _=> ?_⟩
    rw [show (k:Int)+1 - 1=(k:Int) by omega]
    simpa using hb
  unfold Ix
  simp only []
  split
  ·rename_i hc
   simp only [A0r,A1b,A0e,A0d] at hc
   obtain ⟨h1,h2,h3⟩:=hlast _ rfl
   have hr:=Af3 (n:=c.blocks.length) (p:=B0 c a (k:Nat)) hc.1
   refine ⟨h1,h2,h3,fun h=>(by cases h),fun _=>⟨⟨by simp only;omega,by simp only;omega⟩,hr⟩,fun _ i hi w u l hw=> ?_⟩
   by_cases e:i=k
   ·subst e
    rw [hr] at hw
    simp only [A0h,A13] at hw
    exact Nat.le_of_eq hw.1.symm
   ·rcases hc.2 with h4 | h4
    ·rw [ih.no h4 i (by omega)] at hw;cases hw
    ·cases ha:s.any with
     | false=>rw [ih.no ha i (by omega)] at hw;cases hw
     | true=>have:=ih.le ha i (by omega) w u l hw;simp only;omega
  ·rename_i hc
   simp only [A0r,A1b,A0e,A0d] at hc
   obtain ⟨h1,h2,h3⟩:=hlast _ rfl
   refine ⟨h1,h2,h3,fun h i hi=> ?_,fun h=> ?_,fun h i hi w u l hw=> ?_⟩
   ·by_cases e:i=k
    ·subst e;exact Atb (fun h5=>hc ⟨h5,.inl h⟩)
    ·exact ih.no h i (by omega)
   ·obtain ⟨h4,h5⟩:=ih.yes h
    exact ⟨⟨h4.1,by simp only;omega⟩,h5⟩
   ·by_cases e:i=k
    ·subst e
     by_cases h5:(Dp (B0 c a (i:Nat)) c.blocks.length).2.2.2=true
     ·rw [Af3 h5] at hw
      simp only [A0h,A13] at hw
      have:¬ ((s.newest.toNat:Int)≤(Dp (B0 c a (i:Nat)) c.blocks.length).2.2.1.toNat):=fun h6=>hc ⟨h5,.inr h6⟩
      simp only;omega
     ·rw [Atb h5] at hw;cases hw
    ·exact ih.le h i (by omega) w u l hw
structure OpI (c:Chip) (k:Nat) (t:TS):Prop where
 area:0≤t.area∧t.area<k
 rc:(0≤t.at'∧t.at'<8)∧RP c.blocks.length (B0 c t.area t.at')=some (t.version.toNat,t.uses,t.lost)
 le:∀ a<k,∀ i<8,∀ w u l,RP c.blocks.length (B0 c (a:Nat) (i:Nat))=some (w,u,l)→w≤t.version.toNat
 l0:0≤t.next∧t.next≤8
 bl:∀ i<8,t.next≤(i:Nat)→Bs (B0 c t.area (i:Nat))=true
 nb:0<t.next→Bs (B0 c t.area (t.next - 1))=false
theorem Wu (c:Chip):∀ k,((Db c k).2=false→∀ a<k,∀ i<8,RP c.blocks.length (B0 c (a:Nat) (i:Nat))=none)∧((Db c k).2=true→OpI c k (Db c k).1)
 | 0=>⟨fun _ a ha=>by omega,fun h=>by simp [Db] at h⟩
 | k+1=>by
  obtain ⟨ih1,ih2⟩:=Wu c k
  have hs:=Wt c k 8
  show ((Iy c k (Db c k)).2=false→_)∧((Iy c k (Db c k)).2=true→OpI c (k+1) (Iy c k (Db c k)).1)
  generalize Db c k=t at ih1 ih2
  unfold Iy
  simp only []
  generalize Ci c k 8=s at hs
  split
  ·rename_i hc
   simp only [A0r,A1b,A0e,A0d] at hc
   refine ⟨fun h=>(by cases h),fun _=>⟨by simp only;omega,hs.yes hc.1,fun a ha i hi w u l hw=> ?_,hs.l0,hs.bl,hs.nb⟩⟩
   by_cases e:a=k
   ·subst e;exact hs.le hc.1 i hi w u l hw
   ·rcases hc.2 with h | h
    ·rw [ih1 h a (by omega) i hi] at hw;cases hw
    ·cases hf:t.2 with
     | false=>rw [ih1 hf a (by omega) i hi] at hw;cases hw
     | true=>have:=(ih2 hf).le a (by omega) i hi w u l hw;simp only;omega
  ·rename_i hc
   simp only [A0r,A1b,A0e,A0d] at hc
   refine ⟨fun h a ha i hi=> ?_,fun h=> ?_⟩
   ·by_cases e:a=k
    ·subst e
     cases hy:s.any with
     | false=>exact hs.no hy i hi
     | true=>exact absurd ⟨hy,.inl h⟩ hc
    ·exact ih1 h a (by omega) i hi
   ·have o:=ih2 h
    refine ⟨⟨o.area.1,by have:=o.area.2;omega⟩,o.rc,fun a ha i hi w u l hw=> ?_,o.l0,o.bl,o.nb⟩
    by_cases e:a=k
    ·subst e
     cases hy:s.any with
     | false=>rw [hs.no hy i hi] at hw;cases hw
     | true =>
      have h1:=hs.le hy i hi w u l hw
      have h2:¬ ((t.1.version.toNat:Int)<s.newest.toNat):=fun h3=>hc ⟨hy,.inr h3⟩
      omega
    ·exact o.le a (by omega) i hi w u l hw
theorem Ad7 {c:Chip} (hm:Aww c 0 0=0) {a i:Nat} {w:Nat} {u l:List Int} (ha:a<2) (hi:i<8) (hr:RP c.blocks.length (B0 c (a:Nat) (i:Nat))=some (w,u,l)):∃ t,Dj c=(0,t)∧OpI c 2 t:=by
 obtain ⟨h1,h2⟩:=Wu c 2
 cases hf:(Db c 2).2 with
 | false=>rw [h1 hf a ha i hi] at hr;cases hr
 | true =>
  refine ⟨(Db c 2).1,?_,h2 hf⟩
  unfold Dj
  rw [A26 (by rw [hm];simp),A25 hf]
end
section
open Go.K
structure Up (c:Chip):Prop where
 off:c.off=false
 dead:c.dead=false
 out:c.out=false
def FP (c:Chip):Nat:=(c.pf.list.filter fun x=>decide (c.pc≤x)).length
def FW (c:Chip):Nat:=(c.wf.list.filter fun x=>decide (c.wc≤x)).length
theorem Rf (l:List Int) (k:Int):(l.filter fun x=>decide (k+1≤x)).length+(if E3 l k=true then 1 else 0)≤(l.filter fun x=>decide (k≤x)).length:=by
 have h1:∀ l:List Int,(l.filter fun x=>decide (k+1≤x)).length≤(l.filter fun x=>decide (k≤x)).length:=fun l=>by
  induction l with
  | nil=>simp
  | cons x l ih =>
   rw [A08,A08]
   by_cases h:k+1≤x
   ·rw [A25 (by simpa using h),A25 (by simp;omega)];simpa using ih
   ·rw [A26 (by simpa using h)]
    split
    ·simp;omega
    ·exact ih
 have h2:∀ l:List Int,k∈l→(l.filter fun x=>decide (k+1≤x)).length+1≤(l.filter fun x=>decide (k≤x)).length:=fun l=>by
  induction l with
  | nil=>simp
  | cons x l ih =>
   intro hm
   rw [A08,A08]
   by_cases e:x=k
   ·subst e
    rw [A26 (by simp;omega),A25 (by simp)]
    have:=h1 l
    simp;omega
   ·have hk:=ih (by
     cases hm with
     | head=>exact absurd rfl e
     | tail _ h=>exact h)
    by_cases h:k+1≤x
    ·rw [A25 (by simpa using h),A25 (by simp;omega)];simp;omega
    ·rw [A26 (by simpa using h),A26 (by simp;omega)];exact hk
 split
 ·rename_i h
  have hm:k∈l:=by
   have:E3 l k=l.any (· == k):=Tx l (· == k)
   rw [this,A04] at h
   obtain ⟨y,h3,h4⟩:=h
   have:y=k:=by simpa using h4
   subst this;exact h3
  exact h2 l hm
 ·exact h1 l
structure Cnt (c:Chip) (B:Int):Prop where
 p0:0≤c.pc∧c.pc≤B
 w0:0≤c.wc∧c.wc≤B
theorem Amy {c:Chip} {B:Int} (h:Cnt c B) (hB:B<9000000000000000000):Ky c=E3 c.pf.list c.pc:=by
 unfold Ky
 have:=h.p0
 rw [Ht (x:=c.pc+1) (by omega),Ht (by omega)]
 congr 1;omega
theorem Amz {c:Chip} {B:Int} (h:Cnt c B) (hB:B<9000000000000000000):Rb c=E3 c.wf.list c.wc:=by
 unfold Rb
 have:=h.w0
 rw [Ht (x:=c.wc+1) (by omega),Ht (by omega)]
 congr 1;omega
structure BI (b:Blk):Prop where
 nx:0≤b.next∧b.next≤8
 bl:∀ (j:Nat) (h:j<8),b.next≤j→b.pages[j]=A0
structure Fr (a:Nat) (c c':Chip):Prop where
 oth:∀ k,k≠a→c'.blocks[k]? =c.blocks[k]?
 len:c'.blocks.length=c.blocks.length
 dead:c'.dead=c.dead
 out:c'.out=c.out
 aP:c'.aP=c.aP
 aC:c'.aC=c.aC
 aB:c'.aB=c.aB
 pf:c'.pf=c.pf
 wf:c'.wf=c.wf
 fp:FP c'≤FP c
 fw:FW c'≤FW c
 pos:c.after<0→c'.after=c.after∧c'.off=c.off
 keep:c'.keep=c.keep
theorem Fr.refl (a:Nat) (c:Chip):Fr a c c:=⟨fun _ _=>rfl,rfl,rfl,rfl,rfl,rfl,rfl,rfl,rfl,A2q _,A2q _,fun _=>⟨rfl,rfl⟩,rfl⟩
theorem Fr.trans {a:Nat} {c c' c'':Chip} (h:Fr a c c') (k:Fr a c' c''):Fr a c c'' :=
 ⟨fun i hi=>(k.oth i hi).trans (h.oth i hi),k.len.trans h.len,k.dead.trans h.dead,k.out.trans h.out,k.aP.trans h.aP,k.aC.trans h.aC,k.aB.trans h.aB,k.pf.trans h.pf,k.wf.trans h.wf,A2f k.fp h.fp,A2f k.fw h.fw,
  fun hp=>by
   obtain ⟨h1,h2⟩:=h.pos hp
   obtain ⟨h3,h4⟩:=k.pos (by omega)
   exact ⟨h3.trans h1,h4.trans h2⟩,k.keep.trans h.keep⟩
theorem Abo {c:Chip} (h:Up c) {i j:Nat} (hi:i<c.blocks.length) (hj:j<8):Aww c i j=0:=Adp h.off h.dead h.out (by omega) (by omega)
def wrK (b:Blk) (k:Nat) (q:Pg):Blk:=⟨b.pages.setIfInBounds k q,(k:Int)+1,b.bad⟩
def cp (c:Chip):Chip:=Fj (Rt (cnt c))
theorem Ad8 {c:Chip} {i j m:Nat} {d:Pg} {b:Blk} (hn:b.next=j) (hj:j<8) (hp:b.pages[j]=A0):wrC c (i:Nat) (j:Nat) d b m (by simpa using hj)=Gb (cp c) i (wrK b j (Cu m A0 d)):=by
 have e1:w64 (b.next+1)=(j:Int)+1:=by rw [hn];exact Cx (by omega)
 have e:wrB { b with next:=w64 (b.next+1) } ((j:Nat):Int).toNat m d (by simpa using hj)=wrK b j (Cu m A0 d):=by
  show Iu { b with next:=w64 (b.next+1) } j (Cu m b.pages[j] d)=_
  rw [e1,hp]
  unfold Iu wrK
  rfl
 unfold wrC
 rw [e]
 rfl
theorem Wv {c:Chip} (up:Up c) {a j:Nat} {b:Blk} {d:Pg} (hb:c.blocks[a]? =some b) (hj:j<8) (hbad:b.bad=false) (hbi:BI b) (hn:b.next=j) :
  ∃ e m,B1 c a j d=(e,Gb (cp c) a (wrK b j (Cu m A0 d)))∧((e=30∧El c=true)∨(e=33∧m=129∧El c=false∧Ky c=true)∨(e=0∧m=258∧El c=false∧Ky c=false)):=by
 have hi:a<c.blocks.length:=(Aym.1 hb).1
 have hm:Aww c a j=0:=Abo up hi hj
 have hp:=hbi.bl j hj (by omega)
 have hb':c.blocks[((a:Nat):Int).toNat]? =some b:=by simpa using hb
 cases he:El c with
 | true =>
  refine ⟨30,Bl c.keep 258,?_,.inl ⟨rfl,rfl⟩⟩
  rw [Wn hm (by simpa using hj) hb' hn.symm he]
  exact A20 (Prod.mk 30) (Ad8 hn hj hp)
 | false =>
  cases hf:Ky c with
  | true =>
   refine ⟨33,129,?_,.inr (.inl ⟨rfl,rfl,rfl,rfl⟩)⟩
   rw [Wo hm (by simpa using hj) hb' hn.symm he (by rw [hf];rfl)]
   exact A20 (Prod.mk 33) (Ad8 hn hj hp)
  | false =>
   refine ⟨0,258,?_,.inr (.inr ⟨rfl,rfl,rfl,rfl⟩)⟩
   rw [Yg hm (by simpa using hj) hb' hn.symm he (by rw [hf,hbad];rfl)]
   exact A20 (Prod.mk 0) (Ad8 hn hj hp)
theorem Ww {c:Chip} (up:Up c) {a j:Nat} {b:Blk} {d:Pg} (hb:c.blocks[a]? =some b) (hj:j<8) (hn:b.next≠j):B1 c a j d=(32,c):=by
 have hi:a<c.blocks.length:=(Aym.1 hb).1
 exact Ty (Abo up hi hj) (by simpa using hb) (fun e=>hn e.symm)
theorem Yu {b:Blk} {j:Nat} {q:Pg} (h:BI b) (hj:j<8) (hn:b.next=j):BI (wrK b j q):=by
 refine ⟨by simp only [wrK];omega,fun i hi hle=> ?_⟩
 simp only [wrK] at hle ⊢
 rw [Ayc,A26 (by omega)]
 exact h.bl i hi (by omega)
theorem Gc {b:Blk} {j i:Nat} {q:Pg} (hi:i<8):(wrK b j q).pages[i]=if j=i then q else b.pages[i]:=by
 simp only [wrK]
 rw [Ayc]
theorem Af4 {c:Chip} {a:Nat} {b b':Blk} (hb:c.blocks[a]? =some b'):(Gb (cp c) a b).blocks[a]? =some b:=by
 have:=(Aym.1 hb).1
 show (c.blocks.set a b)[a]? =_
 simp [this]
theorem Atc {c:Chip} {a:Nat} {b:Blk} {B:Int} (hc:Cnt c B) (hB:B<9000000000000000000):Fr a c (Gb (cp c) a b)∧Cnt (Gb (cp c) a b) (B+1)∧(Ky c=true→FP (Gb (cp c) a b)+1≤FP c):=by
 have hp:=hc.p0
 have hw:=hc.w0
 have e:(Gb (cp c) a b).pc=c.pc+1:=by
  show w64 (c.pc+1)=c.pc+1
  exact Ht (by omega)
 have hfs:=Rf c.pf.list c.pc
 have hFP:FP (Gb (cp c) a b)+(if E3 c.pf.list c.pc=true then 1 else 0)≤FP c:=by
  unfold FP
  rw [e]
  exact hfs
 refine ⟨⟨fun k hk=> ?_,?_,rfl,rfl,rfl,rfl,rfl,rfl,rfl,?_,A2q _,fun h=> ?_,rfl⟩,⟨by rw [e];omega,by show 0≤c.wc∧c.wc≤B+1;omega⟩,fun h=> ?_⟩
 ·exact Azl (fun e=>hk e.symm)
 ·show (c.blocks.set a b).length=_
  simp
 ·omega
 ·exact ⟨A25 h,A25 h⟩
 ·rw [Amy hc hB] at h
  rw [A25 h] at hFP
  exact hFP
theorem Am0 {c:Chip} {a:Nat} {b:Blk} (up:Up c):(Gb (cp c) a b).off=El c:=by
 show (if c.after<0 then c.off else decide (c.after=0))=_
 unfold El
 split
 ·exact up.off
 ·rfl
theorem O3 {c:Chip} (h:El c=true):¬ c.after<0:=by
 intro h2
 unfold El at h
 rw [A25 h2] at h
 cases h
structure PutR (c:Chip) (a:Nat) (b:Blk) (q:Pg) (i' e:Int) (c':Chip):Prop where
 fr:Fr a c c'
 blk:∃ b',c'.blocks[a]? =some b'∧BI b'∧b'.bad=false∧b.next≤b'.next ∧
  (∀ (j:Nat) (h:j<8),(j:Int)<b.next→b'.pages[j]=b.pages[j]) ∧
  (∀ (j:Nat) (h:j<8),b.next≤j→b'.pages[j]=A0∨∃ m,b'.pages[j]=Cu m A0 q∧(m<258∨e=0∨e=30)) ∧
  (e=0→∃ (j:Nat) (h:j<8),b.next≤j∧i'=(j:Int)+1∧b'.next=(j:Int)+1∧b'.pages[j]=q)
 pure:FP c=0→c.after<0→∀ b',c'.blocks[a]? =some b'→∀ (j:Nat) (h:j<8),b.next≤j→b'.pages[j]=A0∨b'.pages[j]=q
 how:(e=30∧c'.off=true∧¬ c.after<0)∨(e=0∧c'.off=false)∨(e=34∧c'.off=false∧i'=8∧FP c'+(8 - b.next).toNat≤FP c)
theorem Air {c:Chip} {a j:Nat} {b:Blk} {q:Pg} (up:Up c) (hb:c.blocks[a]? =some b) (hj:j<8) (hp:b.pages[j]=q):Hh c a j q=0:=by
 have hi:a<c.blocks.length:=(Aym.1 hb).1
 have hm:=Abo up hi hj
 unfold Hh
 rw [Ot hm hb hj,hp]
 simp [hm]
theorem O4 {a:Nat} {q:Pg}:∀ (f:Nat) (c:Chip) (i:Nat) (b:Blk) (B:Int),i+f=8→Up c→c.blocks[a]? =some b→b.bad=false→BI b→(i:Int)≤b.next→Cnt c B→B+f<8000000000000000000 →
  ∃ i' e c',Fz f c a i q=(i',e,c')∧PutR c a b q i' e c'∧Cnt c' (B+f)
 | 0,c,i,b,B,hf,up,hb,hbad,hbi,hle,hc,hB=>by
  have:=hbi.nx
  refine ⟨8,34,c,rfl,⟨Fr.refl a c,⟨b,hb,hbi,hbad,A2p _,fun _ _ _=>rfl,fun j h h2=>by omega,fun h=>by cases h⟩,fun _ _ b' hb' j h h2=>(by rw [hb] at hb';cases hb';exact .inl (hbi.bl j h h2)),.inr (.inr ⟨rfl,up.off,rfl,by omega⟩)⟩,by simpa using hc⟩
 | f+1,c,i,b,B,hf,up,hb,hbad,hbi,hle,hc,hB=>by
  have hj:i<8:=by omega
  by_cases hn:b.next=i
  ·obtain ⟨e,m,hp,hcase⟩:=Wv up (d:=q) hb hj hbad hbi hn
   obtain ⟨hfr,hcn,hfp⟩:=Atc (a:=a) (b:=wrK b i (Cu m A0 q)) hc (by omega)
   have hoff:=Am0 (a:=a) (b:=wrK b i (Cu m A0 q)) up
   have hbk:=Af4 (b:=wrK b i (Cu m A0 q)) hb
   have hbi':=Yu (q:=Cu m A0 q) hbi hj hn
   generalize hcc:Gb (cp c) a (wrK b i (Cu m A0 q))=c1 at *
   have hpg:∀ (P:Prop),(m<258∨P)→∀ (j:Nat) (h:j<8),b.next≤j→(wrK b i (Cu m A0 q)).pages[j]=A0∨∃ m',(wrK b i (Cu m A0 q)).pages[j]=Cu m' A0 q∧(m'<258∨P):=fun P hP j h h2=>by
    rw [Gc h]
    split
    ·exact .inr ⟨m,rfl,hP⟩
    ·exact .inl (hbi.bl j h h2)
   have hlo:∀ (j:Nat) (h:j<8),(j:Int)<b.next→(wrK b i (Cu m A0 q)).pages[j]=b.pages[j]:=fun j h h2=>by
    rw [Gc h,A26 (by omega)]
   rcases hcase with ⟨rfl,he⟩ | ⟨rfl,rfl,he,hfl⟩ | ⟨rfl,rfl,he,hfl⟩
   ·have hs:Fk c a i q=30:=by unfold Fk;rw [hp,A26 (show ¬ (30:Int)=0 by decide)]
    refine ⟨(i:Int)+1,30,c1,?_,⟨hfr,⟨_,hbk,hbi',hbad,by simp only [wrK];omega,hlo,hpg _ (.inr (.inr rfl)),fun h=>by cases h⟩,fun _ ha=>absurd ha (O3 he),.inl ⟨rfl,by rw [hoff,he],O3 he⟩⟩,⟨by have:=hcn.p0;omega,by have:=hcn.w0;omega⟩⟩
    unfold Fz
    rw [A25 (by rw [hs];decide),hs,hp]
   ·have hs:Fk c a i q=33:=by unfold Fk;rw [hp,A26 (show ¬ (33:Int)=0 by decide)]
    have up':Up c1:=⟨by rw [hoff,he],hfr.dead.trans up.dead,hfr.out.trans up.out⟩
    obtain ⟨i',e,c',h1,h2,h3⟩:=O4 (a:=a) (q:=q) f c1 (i+1) (wrK b i (Cu 129 A0 q)) (B+1) (by omega) up' hbk hbad hbi' (by show ((i+1:Nat):Int)≤(i:Int)+1;omega) hcn (by omega)
    have hnx:(wrK b i (Cu 129 A0 q)).next=(i:Int)+1:=rfl
    obtain ⟨b',k1,k2,k3,k4,k5,k6,k7⟩:=h2.blk
    rw [hnx] at k4 k5 k6 k7
    refine ⟨i',e,c',?_,⟨hfr.trans h2.fr,⟨b',k1,k2,k3,by omega,fun j h hlt=>by rw [k5 j h (show (j:Int)<(i:Int)+1 by omega)];exact hlo j h hlt,fun j h hge=> ?_,fun h=> ?_⟩,fun h0 _=>(by have:=hfp hfl;omega),?_⟩,⟨by have:=h3.p0;omega,by have:=h3.w0;omega⟩⟩
    ·unfold Fz
     rw [A26 (by rw [hs];decide),hp]
     exact_mod_cast h1
    ·by_cases e1:j=i
     ·subst e1
      refine .inr ⟨129,?_,.inl (by omega)⟩
      rw [k5 j h (show (j:Int)<(j:Int)+1 by omega),Gc h,A25 rfl]
     ·exact k6 j h (by omega)
    ·obtain ⟨j,hj8,q1,q2,q3,q4⟩:=k7 h
     exact ⟨j,hj8,by omega,q2,q3,q4⟩
    ·rcases h2.how with ⟨q1,q2,q3⟩ | ⟨q1,q2⟩ | ⟨q1,q2,q3,q4⟩
     ·refine .inl ⟨q1,q2,fun h=>q3 ?_⟩
      rw [(hfr.pos h).1];exact h
     ·exact .inr (.inl ⟨q1,q2⟩)
     ·refine .inr (.inr ⟨q1,q2,q3,?_⟩)
      have:=hfp hfl
      rw [hnx] at q4
      omega
   ·have up':Up c1:=⟨by rw [hoff,he],hfr.dead.trans up.dead,hfr.out.trans up.out⟩
    have hq:(wrK b i (Cu 258 A0 q)).pages[i]=q:=by rw [Gc hj,A25 rfl];exact Fu (A2q _)
    have hs:Fk c a i q=0:=by unfold Fk;rw [hp,A25 rfl];exact Air up' hbk hj hq
    refine ⟨(i:Int)+1,0,c1,?_,⟨hfr,⟨_,hbk,hbi',hbad,by simp only [wrK];omega,hlo,hpg _ (.inr (.inl rfl)),fun _=>⟨i,hj,by omega,rfl,rfl,hq⟩⟩,fun _ _ b' hb' j h h2=>(by rw [hbk] at hb';cases hb';rw [Gc h];split;exact .inr (Fu (A2q _));exact .inl (hbi.bl j h h2)),.inr (.inl ⟨rfl,up'.off⟩)⟩,⟨by have:=hcn.p0;omega,by have:=hcn.w0;omega⟩⟩
    unfold Fz
    rw [A25 (by rw [hs];decide),hs,hp]
  ·have hp:=Ww up (d:=q) hb hj hn
   have hs:Fk c a i q=32:=by unfold Fk;rw [hp,A26 (show ¬ (32:Int)=0 by decide)]
   obtain ⟨i',e,c',h1,h2,h3⟩:=O4 (a:=a) (q:=q) f c (i+1) b B (by omega) up hb hbad hbi (by omega) hc (by omega)
   refine ⟨i',e,c',?_,h2,⟨by have:=h3.p0;omega,by have:=h3.w0;omega⟩⟩
   unfold Fz
   rw [A26 (by rw [hs];decide),hp]
   exact_mod_cast h1
end
section
open Go.K
structure OpV where
 kind:Int
 logical:Int
 block:Int
 least:Bool
 bit:Int
def opC (o:OpV):List Value:=[.int .i64 o.kind,.int .i64 o.logical,.int .i64 o.block,.bool o.least,.int .i64 o.bit]
instance:Cel OpV:=⟨5,opC,fun _=>rfl,fun _=>rfl⟩
def Ga (c:Chip):List Bool:=c.blocks.map (·.bad)
theorem Jt {c:Chip} {i:Nat} {b b':Blk} (hb:c.blocks[i]? =some b) (h:b'.bad=b.bad):(c.blocks.set i b').map (·.bad)=c.blocks.map (·.bad):=by
 rw [List.map_set,h]
 apply A0o
 intro j
 rw [A0l]
 split
 ·rename_i e;subst e
  obtain ⟨h1,h2⟩:=Aym.1 hb
  simp [h1,h2]
 ·rfl
theorem Id (c:Chip) (i j:Int) (d:Pg):Ga (B1 c i j d).2=Ga c:=by
 unfold B1
 split
 ·split
  ·rfl
  ·rename_i b hb
   split
   ·simp only []
    split
    ·refine Jt (c:=Fj (Rt (cnt c))) hb ?_;split <;> rfl
    ·split
     ·refine Jt (c:=Fj (Rt (cnt c))) hb ?_;split <;> rfl
     ·refine Jt (c:=Fj (Rt (cnt c))) hb ?_;split <;> rfl
   ·rfl
 ·rfl
theorem It (c:Chip) (i:Int):Ga (B3 c i).2=Ga c:=by
 unfold B3
 split
 ·split
  ·rfl
  ·rename_i b hb
   simp only []
   split
   ·exact Jt (c:=Fj (Yf (cnt c))) hb rfl
   ·split
    ·exact Jt (c:=Fj (Yf (cnt c))) hb rfl
    ·exact Jt (c:=Fj (Yf (cnt c))) hb rfl
 ·rfl
theorem Tw (a:Int) (q:Pg):∀ (f:Nat) (c:Chip) (i:Int),Ga (Fz f c a i q).2.2=Ga c
 | 0,c,i=>rfl
 | f+1,c,i=>by
  unfold Fz
  split
  ·exact Id c a i q
  ·rw [Tw a q f,Id]
theorem Wj (c:Chip) (a i:Int) (q:Pg):Ga (Ge c a i q).2.2=Ga c:=Tw a q _ c i
theorem Adq (a:Int) (q:Pg) (s:KS):Ga (Gw a q s).c=Ga s.c:=by
 unfold Gw
 simp only []
 split
 ·rw [Wj,It]
 ·split <;> exact It _ _
theorem Ra (a:Int) (q:Pg):∀ (f:Nat) (s:KS),Ga (Di f a q s).c=Ga s.c
 | 0,s=>rfl
 | f+1,s=>by
  unfold Di
  split
  ·rw [Ra a q f,Adq]
  ·rfl
theorem Ou (a:Int) (q:Pg):∀ (f:Nat) (s:KS),(0≤s.next∧s.next≤8)→(s.area=a∨s.area=1 - a)→(0≤(Di f a q s).next∧(Di f a q s).next≤8)∧((Di f a q s).area=a∨(Di f a q s).area=1 - a)
 | 0,s,h,h2=>⟨h,h2⟩
 | f+1,s,h,h2=>by
  unfold Di
  split
  ·refine Ou a q f _ (Pd h) (.inr ?_)
   unfold Gw
   simp only []
   split
   ·rfl
   ·split <;> rfl
  ·exact ⟨h,h2⟩
theorem Wk (a:Int) (q:Pg):∀ (f:Nat) (s:KS),(Di f a q s).c.aC=s.c.aC
 | 0,s=>rfl
 | f+1,s=>by
  unfold Di
  split
  ·rw [Wk a q f,Pc]
  ·rfl
theorem Adr (t:TS) (u l:List Int) (c:Chip):Ga (Fl t u l c).c=Ga c:=by
 unfold Fl
 simp only []
 rw [Ra,Wj]
theorem Al7 (t:TS) (u l:List Int) (c:Chip):(Fl t u l c).c.aC=c.aC:=by
 unfold Fl
 simp only []
 rw [Wk,Za]
theorem Ads (t:TS) (u l:List Int) (c:Chip):Ga (B6 t u l c).2.2=Ga c:=by
 unfold B6
 simp only []
 split <;> exact Adr t u l c
theorem Aa1 (t:TS) (u l:List Int) (c:Chip):(B6 t u l c).2.2.aC=c.aC:=by
 unfold B6
 simp only []
 split <;> exact Al7 t u l c
theorem Aqs (t:TS) (u l:List Int) (c:Chip) (hn:0≤t.next) (ha:0≤t.area∧t.area≤1) :
  (B6 t u l c).2.1=t∨((B6 t u l c).2.1.uses=u∧(B6 t u l c).2.1.lost=l∧0≤(B6 t u l c).2.1.next∧(0≤(B6 t u l c).2.1.area∧(B6 t u l c).2.1.area≤1)):=by
 have hr:(0≤(Fl t u l c).next∧(Fl t u l c).next≤8)∧((Fl t u l c).area=t.area∨(Fl t u l c).area=1 - t.area):=by
  unfold Fl
  simp only []
  exact Ou _ _ _ _ (Zb _ _ _ _ hn) (.inl rfl)
 unfold B6
 simp only []
 split
 ·exact .inl rfl
 ·refine .inr ⟨rfl,rfl,hr.1.1,?_⟩
  show 0≤(Fl t u l c).area∧(Fl t u l c).area≤1
  rcases hr.2 with h | h <;> rw [h] <;> omega
theorem Fq {c c':Chip} (h:Ga c'=Ga c):c'.blocks.length=c.blocks.length:=by
 have:=A20 List.length h
 simpa [Ga] using this
theorem Fs:∀ {l m:List Int},l.Nodup→(∀ x∈l,x∈m)→l.length≤m.length
 | [],m,_,_=>A2r _
 | x::l,m,h,hs=>by
  have hx:=hs x (.head _)
  obtain ⟨h1,h2⟩:=A1c.1 h
  have:=Fs (l:=l) (m:=m.erase x) h2 (fun y hy=>(List.mem_erase_of_ne (fun e=>by subst e;exact h1 hy)).2 (hs y (.tail _ hy)))
  have h3:=Ayv hx
  have h4:=Ay3 hx
  rw [A0q]
  omega
theorem has_mem {l:List Int} {x:Int}:E3 l x=true↔x∈l:=by
 have:E3 l x=l.any (· == x):=Tx l (· == x)
 rw [this,A04]
 constructor
 ·rintro ⟨y,h1,h2⟩
  have:y=x:=by simpa using h2
  subst this;exact h1
 ·exact fun h=>⟨x,h,by simp⟩
structure FmtI (c:Chip) (size:Int) (i:Nat) (u l:List Int):Prop where
 len:(u.length:Int)≤size
 un:u.Nodup
 us:∀ x∈u,2≤x∧x<i∧I4 c x=false
 ln:l.Nodup
 ls:∀ x∈l,0≤x∧x<i∧I4 c x=true
 lb:∀ x:Int,0≤x→x<i→I4 c x=true→x∈l
 all:I4 c 0=false→I4 c 1=false→(u.length:Int)=size∨u.length+l.length+min i 2=i
theorem Km {l:List Int} {x:Int} (h:l.Nodup) (hx:x∉l):(l++[x]).Nodup:=by
 rw [A0g]
 exact ⟨h,by simp,fun a ha b hb=>by simp at hb;subst hb;intro e;subst e;exact hx ha⟩
theorem Av2 (c:Chip) {size:Int} (hs:0≤size):∀ i,FmtI c size i (Fp c size i).1 (Fp c size i).2
 | 0=>⟨by simpa [Fp] using hs,by simp [Fp],by simp [Fp],by simp [Fp],by simp [Fp],fun x h1 h2=>by omega,fun _ _=> .inr (by simp [Fp])⟩
 | i+1=>by
  have ih:=Av2 c hs i
  unfold Fp
  simp only []
  generalize hu:(Fp c size i).1=u at ih ⊢
  generalize hl:(Fp c size i).2=l at ih ⊢
  split
  ·rename_i hb
   refine ⟨ih.len,ih.un,fun x hx=> ?_,Km ih.ln (fun h=>by have:=ih.ls _ h;omega),fun x hx=> ?_,fun x h0 h1 h2=> ?_,fun h0 h1=> ?_⟩
   ·have:=ih.us x hx;exact ⟨this.1,by omega,this.2.2⟩
   ·rcases A1d.1 hx with h | h
    ·have:=ih.ls x h;exact ⟨this.1,by omega,this.2.2⟩
    ·simp at h;subst h;exact ⟨by omega,by omega,hb⟩
   ·by_cases he:x=(i:Int)
    ·subst he;simp
    ·exact Azo _ (ih.lb x h0 (by omega) h2)
   ·have hi:2≤i:=by
     rcases A2i i 2 with h | h
     ·rcases (show i=0∨i=1 by omega) with rfl | rfl
      ·rw [show ((0:Nat):Int)=0 from rfl,h0] at hb;cases hb
      ·rw [show ((1:Nat):Int)=1 from rfl,h1] at hb;cases hb
     ·exact h
    rcases ih.all h0 h1 with h | h
    ·exact .inl h
    ·refine .inr ?_;simp only [Azz,A0q,A1p];omega
  ·rename_i hb
   have hb':I4 c i=false:=by simpa using hb
   split
   ·rename_i hc
    simp only [A0r,A0d] at hc
    refine ⟨by simp only [Azz,A0q,A1p];omega,Km ih.un (fun h=>by have:=ih.us _ h;omega),fun x hx=> ?_,ih.ln,fun x hx=> ?_,fun x h0 h1 h2=> ?_,fun h0 h1=> ?_⟩
    ·rcases A1d.1 hx with h | h
     ·have:=ih.us x h;exact ⟨this.1,by omega,this.2.2⟩
     ·simp at h;subst h;exact ⟨hc.1,by omega,hb'⟩
    ·have:=ih.ls x hx;exact ⟨this.1,by omega,this.2.2⟩
    ·by_cases he:x=(i:Int)
     ·subst he;rw [hb'] at h2;cases h2
     ·exact ih.lb x h0 (by omega) h2
    ·rcases ih.all h0 h1 with h | h
     ·omega
     ·refine .inr ?_;simp only [Azz,A0q,A1p];omega
   ·rename_i hc
    rw [hu,hl]
    have hlen:=ih.len
    refine ⟨ih.len,ih.un,fun x hx=> ?_,ih.ln,fun x hx=> ?_,fun x h0 h1 h2=> ?_,fun h0 h1=> ?_⟩
    ·have:=ih.us x hx;exact ⟨this.1,by omega,this.2.2⟩
    ·have:=ih.ls x hx;exact ⟨this.1,by omega,this.2.2⟩
    ·by_cases he:x=(i:Int)
     ·subst he;rw [hb'] at h2;cases h2
     ·exact ih.lb x h0 (by omega) h2
    ·rcases ih.all h0 h1 with h | h
     ·exact .inl h
     ·rcases A2i i 2 with h2 | h2
      ·refine .inr ?_;omega
      ·refine .inl ?_
       have:¬ ((u.length:Int)<size):=fun h3=>hc (by simp only [A0r,A0d];exact ⟨by omega,h3⟩)
       omega
theorem Aia {l:List Int} {i:Nat} {b:Int} (h:l.Nodup) (hb:b∉l):(l.set i b).Nodup:=by
 rw [Ayi,Ayu]
 rw [Ayi,Ayu] at h
 intro j k hj hk hjk
 simp only [A1f] at hj hk
 rw [A06,A06]
 split
 ·split
  ·omega
  ·intro e;exact hb (by rw [e];exact A0s _)
 ·split
  ·intro e;exact hb (by rw [← e];exact A0s _)
  ·exact h j k hj hk hjk
theorem Aqt {l:List Int} {i:Nat} {b x:Int} (h:l.Nodup) (hi:i<l.length) (hx:x∈l.set i b):x=b∨(x∈l∧x≠l[i]):=by
 obtain ⟨j,hj,rfl⟩:=List.getElem_of_mem hx
 simp only [A1f] at hj
 rw [A06]
 split
 ·exact .inl rfl
 ·refine .inr ⟨A0s _,fun e=> ?_⟩
  rename_i hne
  rw [Ayi,Ayu] at h
  rcases Nat.lt_or_gt_of_ne hne with h1 | h1
  ·exact h i j hi hj h1 e.symm
  ·exact h j i hj hi h1 e
end
section
open Go.K
def ce (c:Chip):Chip:=Fj (Yf (cnt c))
structure EraseR (c:Chip) (a:Nat) (b:Blk) (e:Int) (c':Chip):Prop where
  fr:Fr a c c'
  blk:∃ b',c'.blocks[a]? =some b'∧BI b'∧b'.bad=b.bad∧(∀ (j:Nat) (h:j<8),b'.pages[j]=A0∨b'.pages[j]=b.pages[j])∧(e=0→b'.next=0)
  how:(e=30∧c'.off=true∧¬ c.after<0)∨(e=33∧c'.off=false∧FW c'+1≤FW c)∨(e=0∧c'.off=false)
theorem Am1 {c:Chip} {a:Nat} {b:Blk} {B:Int} (hc:Cnt c B) (hB:B<9000000000000000000):Fr a c (Gb (ce c) a b)∧Cnt (Gb (ce c) a b) (B+1)∧(Rb c=true→FW (Gb (ce c) a b)+1≤FW c):=by
  have hp:=hc.p0
  have hw:=hc.w0
  have e:(Gb (ce c) a b).wc=c.wc+1:=by
    show w64 (c.wc+1)=c.wc+1
    exact Ht (by omega)
  have hfs:=Rf c.wf.list c.wc
  have hFW:FW (Gb (ce c) a b)+(if E3 c.wf.list c.wc=true then 1 else 0)≤FW c:=by
    unfold FW
    rw [e]
    exact hfs
  refine ⟨⟨fun k hk=> ?_,?_,rfl,rfl,rfl,rfl,rfl,rfl,rfl,A2q _,?_,fun h=> ?_,rfl⟩,⟨by show 0≤c.pc∧c.pc≤B+1;omega,by rw [e];omega⟩,fun h=> ?_⟩
  · exact Azl (fun e=>hk e.symm)
  · show (c.blocks.set a b).length=_
    simp
  · omega
  · exact ⟨A25 h,A25 h⟩
  · rw [Amz hc hB] at h
    rw [A25 h] at hFW
    exact hFW
theorem Ad9 {c:Chip} {a:Nat} {b:Blk} (up:Up c):(Gb (ce c) a b).off=El c:=by
  show (if c.after<0 then c.off else decide (c.after=0))=_
  unfold El
  split
  · exact up.off
  · rfl
theorem Uc {c:Chip} {a:Nat} {b b':Blk} (hb:c.blocks[a]? =some b'):(Gb (ce c) a b).blocks[a]? =some b:=by
  have:=(Aym.1 hb).1
  show (c.blocks.set a b)[a]? =_
  simp [this]
theorem Af5 {b:Blk} {m j:Nat} (h:j<8):(D3 b m).pages[j]=if j<m then A0 else b.pages[j]:=by simp [D3]
theorem Nj {c:Chip} {a:Nat} {b:Blk} {B:Int} (up:Up c) (hb:c.blocks[a]? =some b) (hbad:b.bad=false) (hc:Cnt c B) (hB:B<8000000000000000000):∃ e c',B3 c a=(e,c')∧EraseR c a b e c'∧Cnt c' (B+1):=by
  have hi:a<c.blocks.length:=(Aym.1 hb).1
  have hm:Aww c a 0=0:=Abo (j:=0) up hi (by omega)
  have hb':c.blocks[((a:Nat):Int).toNat]? =some b:=by simpa using hb
  cases he:El c with
  | true =>
    refine ⟨30,_,Tz hm hb' he,?_⟩
    rw [A0c]
    obtain ⟨h1,h2,_⟩:=Am1 (a:=a) (b:=D3 { b with next:=8 } (Bl c.keep 8)) hc (by omega)
    exact ⟨⟨h1,⟨_,Uc hb,⟨⟨by simp [D3],by simp [D3]⟩,fun j h h2=>(by simp only [D3] at h2;omega)⟩,rfl,fun j h=>by rw [Af5 h];split;exact .inl rfl;exact .inr rfl,fun h=>by cases h⟩,.inl ⟨rfl,(Ad9 up).trans he,O3 he⟩⟩,h2⟩
  | false =>
    cases hf:Rb c with
    | true =>
      refine ⟨33,_,T0 hm hb' he (by rw [hf];rfl),?_⟩
      rw [A0c]
      obtain ⟨h1,h2,h3⟩:=Am1 (a:=a) (b:={ b with next:=8 }) hc (by omega)
      exact ⟨⟨h1,⟨_,Uc hb,⟨⟨by simp,by simp⟩,fun j h h2=>(by simp only at h2;omega)⟩,rfl,fun j h=> .inr rfl,fun h=>by cases h⟩,.inr (.inl ⟨rfl,(Ad9 up).trans he,h3 hf⟩)⟩,h2⟩
    | false =>
      refine ⟨0,_,Aba hm hb' he (by rw [hf,hbad];rfl),?_⟩
      rw [A0c]
      obtain ⟨h1,h2,h3⟩:=Am1 (a:=a) (b:={ D3 { b with next:=8 } 8 with next:=0 }) hc (by omega)
      have hpg:∀ (j:Nat) (h:j<8),({ D3 { b with next:=8 } 8 with next:=0 }:Blk).pages[j]=A0:=fun j h=>by
        show (D3 { b with next:=8 } 8).pages[j]=A0
        rw [Af5 h,A25 h]
      exact ⟨⟨h1,⟨_,Uc hb,⟨⟨by simp,by simp⟩,fun j h _=>hpg j h⟩,rfl,fun j h=> .inl (hpg j h),fun _=>rfl⟩,.inr (.inr ⟨rfl,(Ad9 up).trans he⟩)⟩,h2⟩
structure Hold (c:Chip) (v:Nat) (u l:List Int) (a:Nat):Prop where
  ok:OkP c.blocks.length u l
  a2:a<2
  bs:∀ k<2,∃ b,c.blocks[k]? =some b∧BI b∧b.bad=false
  le:∀ k<2,∀ b,c.blocks[k]? =some b→∀ (j:Nat) (h:j<8) (w:Nat) (u' l':List Int),RP c.blocks.length b.pages[j]=some (w,u',l')→w≤v∧(w=v→u'=u∧l'=l)
  ex:∃ b,c.blocks[a]? =some b∧∃ (j:Nat) (h:j<8),RP c.blocks.length b.pages[j]=some (v,u,l)
theorem Ud:Bs A0=true:=H6
theorem Ly {n:Nat}:RP n A0=none:=Av9 Ud
theorem Hold.put {c c':Chip} {v:Nat} {u l u' l':List Int} {a k:Nat} {V:Wd} {b:Blk} {i' e:Int} (h:Hold c v u l a) (hk:k<2) (hb:c.blocks[k]? =some b) (hV:V.toNat=v+1) (ok:OkP c.blocks.length u' l')
    (r:PutR c k b (Ea V c.blocks.length u' l') i' e c'):(e=0→Hold c' (v+1) u' l' k)∧(e=30→Hold c' v u l a∨Hold c' (v+1) u' l' k)∧(e=34→Hold c' v u l a):=by
  obtain ⟨b',k1,k2,k3,k4,k5,k6,k7⟩:=r.blk
  have hq:=Af1 (v:=V) ok
  rw [hV] at hq
  generalize Ea V c.blocks.length u' l'=q at *
  obtain ⟨b0,hb0,hbi,_⟩:=h.bs k hk
  rw [hb] at hb0
  cases hb0
  have hbs:∀ i<2,∃ b,c'.blocks[i]? =some b∧BI b∧b.bad=false:=fun i hi=>by
    by_cases e1:i=k
    · subst e1;exact ⟨b',k1,k2,k3⟩
    · rw [r.fr.oth i e1];exact h.bs i hi
  have hpg:∀ (j:Nat) (hj:j<8),(RP c.blocks.length b'.pages[j]=none∨∃ (hlt:(j:Int)<b.next),b'.pages[j]=b.pages[j])∨(b'.pages[j]=q∧(e=0∨e=30)):=fun j hj=>by
    rcases (show (j:Int)<b.next∨b.next≤j by omega) with h1 | h1
    · exact .inl (.inr ⟨h1,k5 j hj h1⟩)
    · rcases k6 j hj h1 with h2 | ⟨m,h2,h3⟩
      · exact .inl (.inl (by rw [h2];exact Ly))
      · rcases A2i m 258 with hm | hm
        · exact .inl (.inl (by rw [h2];exact Amx hm))
        · rw [Fu hm] at h2
          exact .inr ⟨h2,by rcases h3 with h3 | h3;omega;exact h3⟩
  have hnew:(∃ (j:Nat) (hj:j<8),b'.pages[j]=q)→Hold c' (v+1) u' l' k:=fun ⟨j0,hj0,h0⟩=>by
    refine ⟨by rw [r.fr.len];exact ok,hk,hbs,fun i hi b2 hb2 j hj w u2 l2 hw=> ?_,⟨b',k1,j0,hj0,by rw [r.fr.len,h0];exact hq⟩⟩
    rw [r.fr.len] at hw
    by_cases e1:i=k
    · subst e1
      rw [k1] at hb2
      cases hb2
      rcases hpg j hj with (h1 | ⟨h1,h2⟩) | ⟨h1,_⟩
      · rw [h1] at hw;cases hw
      · rw [h2] at hw
        have:=(h.le i hi b hb j hj w u2 l2 hw).1
        exact ⟨by omega,fun e2=>by omega⟩
      · rw [h1,hq] at hw
        simp only [A0h,A13] at hw
        obtain ⟨h3,h4,h5⟩:=hw
        exact ⟨by omega,fun _=>⟨h4.symm,h5.symm⟩⟩
    · rw [r.fr.oth i e1] at hb2
      have:=(h.le i hi b2 hb2 j hj w u2 l2 hw).1
      exact ⟨by omega,fun e2=>by omega⟩
  have hold:(∀ (j:Nat) (hj:j<8),RP c.blocks.length b'.pages[j]=none∨∃ (hlt:(j:Int)<b.next),b'.pages[j]=b.pages[j])→Hold c' v u l a:=fun hall=>by
    refine ⟨by rw [r.fr.len];exact h.ok,h.a2,hbs,fun i hi b2 hb2 j hj w u2 l2 hw=> ?_,?_⟩
    · rw [r.fr.len] at hw
      by_cases e1:i=k
      · subst e1
        rw [k1] at hb2
        cases hb2
        rcases hall j hj with h1 | ⟨h1,h2⟩
        · rw [h1] at hw;cases hw
        · rw [h2] at hw
          exact h.le i hi b hb j hj w u2 l2 hw
      · rw [r.fr.oth i e1] at hb2
        exact h.le i hi b2 hb2 j hj w u2 l2 hw
    · obtain ⟨b2,hb2,j,hj,hr⟩:=h.ex
      rw [r.fr.len]
      by_cases e1:a=k
      · subst e1
        rw [hb] at hb2
        cases hb2
        have hlt:(j:Int)<b.next:=by
          rcases (show (j:Int)<b.next∨b.next≤j by omega) with h1 | h1
          · exact h1
          · rw [hbi.bl j hj h1,Ly] at hr;cases hr
        exact ⟨b',k1,j,hj,by rw [k5 j hj hlt];exact hr⟩
      · exact ⟨b2,by rw [r.fr.oth a e1];exact hb2,j,hj,hr⟩
  have hdec:(∃ (j:Nat) (hj:j<8),b'.pages[j]=q)∨(∀ (j:Nat) (hj:j<8),RP c.blocks.length b'.pages[j]=none∨∃ (hlt:(j:Int)<b.next),b'.pages[j]=b.pages[j]):=by
    by_cases hx:∃ (j:Nat) (hj:j<8),b'.pages[j]=q
    · exact .inl hx
    · refine .inr fun j hj=> ?_
      rcases hpg j hj with h1 | ⟨h1,_⟩
      · exact h1
      · exact absurd ⟨j,hj,h1⟩ hx
  refine ⟨fun e0=> ?_,fun e0=> ?_,fun e0=> ?_⟩
  · obtain ⟨j,hj,_,_,_,h1⟩:=k7 e0
    exact hnew ⟨j,hj,h1⟩
  · rcases hdec with h1 | h1
    · exact .inr (hnew h1)
    · exact .inl (hold h1)
  · refine hold fun j hj=> ?_
    rcases hpg j hj with h1 | ⟨_,h1⟩
    · exact h1
    · omega
theorem Hold.erase {c c':Chip} {v:Nat} {u l:List Int} {a k:Nat} {b:Blk} {e:Int} (h:Hold c v u l a) (hk:k≠a) (hb:c.blocks[k]? =some b) (hbad:b.bad=false) (r:EraseR c k b e c'):Hold c' v u l a:=by
  obtain ⟨b',k1,k2,k3,k4,k5⟩:=r.blk
  refine ⟨by rw [r.fr.len];exact h.ok,h.a2,fun i hi=> ?_,fun i hi b2 hb2 j hj w u2 l2 hw=> ?_,?_⟩
  · by_cases e1:i=k
    · subst e1;exact ⟨b',k1,k2,k3.trans hbad⟩
    · rw [r.fr.oth i e1];exact h.bs i hi
  · rw [r.fr.len] at hw
    by_cases e1:i=k
    · subst e1
      rw [k1] at hb2
      cases hb2
      rcases k4 j hj with h1 | h1
      · rw [h1,Ly] at hw;cases hw
      · rw [h1] at hw;exact h.le i hi b hb j hj w u2 l2 hw
    · rw [r.fr.oth i e1] at hb2
      exact h.le i hi b2 hb2 j hj w u2 l2 hw
  · obtain ⟨b2,hb2,j,hj,hr⟩:=h.ex
    rw [r.fr.len]
    exact ⟨b2,by rw [r.fr.oth a (fun e1=>hk e1.symm)];exact hb2,j,hj,hr⟩
def TI (c:Chip) (t:TS):Prop:=∃ a:Nat,t.area=a∧Hold c t.version.toNat t.uses t.lost a∧∃ b,c.blocks[a]? =some b∧0≤t.next∧t.next≤b.next
structure Fr2 (c c':Chip):Prop where
  oth:∀ k,2≤k→c'.blocks[k]? =c.blocks[k]?
  len:c'.blocks.length=c.blocks.length
  dead:c'.dead=c.dead
  out:c'.out=c.out
  aP:c'.aP=c.aP
  aC:c'.aC=c.aC
  aB:c'.aB=c.aB
  pf:c'.pf=c.pf
  wf:c'.wf=c.wf
  fp:FP c'≤FP c
  fw:FW c'≤FW c
  pos:c.after<0→c'.after=c.after∧c'.off=c.off
  keep:c'.keep=c.keep
theorem Fr.two {a:Nat} {c c':Chip} (h:Fr a c c') (ha:a<2):Fr2 c c':=⟨fun k hk=>h.oth k (by omega),h.len,h.dead,h.out,h.aP,h.aC,h.aB,h.pf,h.wf,h.fp,h.fw,h.pos,h.keep⟩
theorem Fr2.trans {c c' c'':Chip} (h:Fr2 c c') (k:Fr2 c' c''):Fr2 c c'' :=
  ⟨fun i hi=>(k.oth i hi).trans (h.oth i hi),k.len.trans h.len,k.dead.trans h.dead,k.out.trans h.out,k.aP.trans h.aP,k.aC.trans h.aC,k.aB.trans h.aB,k.pf.trans h.pf,k.wf.trans h.wf,A2f k.fp h.fp,A2f k.fw h.fw,
    fun hp=>by
      obtain ⟨h1,h2⟩:=h.pos hp
      obtain ⟨h3,h4⟩:=k.pos (by omega)
      exact ⟨h3.trans h1,h4.trans h2⟩,k.keep.trans h.keep⟩
def Awa (c:Chip) (v:Nat) (u l u' l':List Int) (a:Nat) (s:KS):Prop :=
  (s.e=0∧s.c.off=false∧∃ k,s.area=(k:Nat)∧Hold s.c (v+1) u' l' k∧∃ b,s.c.blocks[k]? =some b∧0≤s.next∧s.next≤b.next) ∨
  (s.e=30∧s.c.off=true∧¬ c.after<0∧(Hold s.c v u l a∨∃ k,Hold s.c (v+1) u' l' k))
theorem Up.of {c c':Chip} (h:Up c) (hd:c'.dead=c.dead) (ho:c'.out=c.out) (hf:c'.off=false):Up c':=⟨hf,hd.trans h.dead,ho.trans h.out⟩
theorem Af6 {c:Chip} {a:Int} {i:Nat} {q:Pg}:Ge c a i q=Fz (8 - i) c a i q:=by
  unfold Ge
  congr 1
  omega
theorem Wx {v:Nat} {u l u' l':List Int} {a n:Nat} {V:Wd} (ha:a<2) (hV:V.toNat=v+1) (ok:OkP n u' l') :
    ∀ (f:Nat) (s:KS) (B:Int),s.e=34→s.c.blocks.length=n→Hold s.c v u l a→Up s.c→FP s.c≤7→FW s.c<f→Cnt s.c B→B+100*f<8000000000000000000 →
      Awa s.c v u l u' l' a (Di f (a:Nat) (Ea V n u' l') s)∧Fr2 s.c (Di f (a:Nat) (Ea V n u' l') s).c∧Cnt (Di f (a:Nat) (Ea V n u' l') s).c (B+9*f)
  | 0,s,B,he,hn,h,up,hfp,hfw,hc,hB=>by omega
  | f+1,s,B,he,hn,h,up,hfp,hfw,hc,hB=>by
    obtain ⟨b,hb,hbi,hbad⟩:=h.bs (1 - a) (by omega)
    obtain ⟨e,c1,h1,h2,h3⟩:=Nj up hb hbad hc (by omega)
    have hra:(1:Int) - (a:Nat)=((1 - a:Nat):Int):=by omega
    have hold1:=h.erase (k:=1 - a) (by omega) hb hbad h2
    unfold Di
    rw [A25 he]
    unfold Gw
    simp only []
    rw [hra,h1]
    simp only []
    rcases h2.how with ⟨rfl,q1,q2⟩ | ⟨rfl,q1,q2⟩ | ⟨rfl,q1⟩
    · rw [A26 (by decide),A26 (by decide)]
      have hk:Di f (a:Nat) (Ea V n u' l') ⟨((1 - a:Nat):Int),s.next,30,c1⟩=⟨((1 - a:Nat):Int),s.next,30,c1⟩:=by
        cases f with
        | zero=>rfl
        | succ f=>unfold Di;rw [A26 (show ¬ (30:Int)=34 by decide)]
      rw [hk]
      exact ⟨.inr ⟨rfl,q1,q2,.inl hold1⟩,h2.fr.two (by omega),⟨by have:=h3.p0;simp only;omega,by have:=h3.w0;simp only;omega⟩⟩
    · rw [A26 (by decide),A25 rfl]
      have up1:=up.of h2.fr.dead h2.fr.out q1
      obtain ⟨r1,r2,r3⟩:=Wx ha hV ok f ⟨((1 - a:Nat):Int),s.next,s.e,c1⟩ (B+1) he (h2.fr.len.trans hn) hold1 up1 (by have:=h2.fr.fp;simp only;omega) (by simp only;omega) h3 (by omega)
      refine ⟨?_,(h2.fr.two (by omega)).trans r2,⟨by have:=r3.p0;omega,by have:=r3.w0;omega⟩⟩
      rcases r1 with r1 | ⟨r1,r4,r5,r6⟩
      · exact .inl r1
      · exact .inr ⟨r1,r4,fun hp=>r5 (by show c1.after<0;rw [(h2.fr.pos hp).1];exact hp),r6⟩
    · rw [A25 rfl]
      have up1:=up.of h2.fr.dead h2.fr.out q1
      obtain ⟨b1,k1,k2,k3,k4,k5⟩:=h2.blk
      have hp0:Ge c1 ((1 - a:Nat):Int) 0 (Ea V n u' l')=Fz 8 c1 ((1 - a:Nat):Int) ((0:Nat):Int) (Ea V n u' l'):=Af6 (i:=0)
      obtain ⟨i',e,c2,p1,p2,p3⟩:=O4 (a:=1 - a) (q:=Ea V n u' l') 8 c1 0 b1 (B+1) (by omega) up1 k1 (k3.trans hbad) k2 (by rw [k5 rfl];exact A2p _) h3 (by omega)
      rw [hp0,p1]
      simp only []
      have hlen1:c1.blocks.length=n:=h2.fr.len.trans hn
      have hp:=hold1.put (k:=1 - a) (V:=V) (u':=u') (l':=l') (by omega) k1 hV (by rw [hlen1];exact ok) (by rw [hlen1];exact p2)
      have hkk:e≠34→Di f (a:Nat) (Ea V n u' l') ⟨((1 - a:Nat):Int),i',e,c2⟩=⟨((1 - a:Nat):Int),i',e,c2⟩:=fun hne=>by
        cases f with
        | zero=>rfl
        | succ f=>unfold Di;rw [A26 hne]
      have hfr:=(h2.fr.two (by omega)).trans (p2.fr.two (by omega))
      rcases p2.how with ⟨rfl,q2,q3⟩ | ⟨rfl,q2⟩ | ⟨rfl,q2,q3,q4⟩
      · rw [hkk (by decide)]
        refine ⟨.inr ⟨rfl,q2,fun hpo=>q3 (by rw [(h2.fr.pos hpo).1];exact hpo),?_⟩,hfr,⟨by have:=p3.p0;simp only;omega,by have:=p3.w0;simp only;omega⟩⟩
        rcases hp.2.1 rfl with h5 | h5
        · exact .inl h5
        · exact .inr ⟨_,h5⟩
      · rw [hkk (by decide)]
        obtain ⟨b2,m1,m2,m3,m4,m5,m6,m7⟩:=p2.blk
        obtain ⟨j,hj,_,n2,n3,_⟩:=m7 rfl
        exact ⟨.inl ⟨rfl,q2,1 - a,rfl,hp.1 rfl,b2,m1,by simp only;omega,by simp only;omega⟩,hfr,⟨by have:=p3.p0;simp only;omega,by have:=p3.w0;simp only;omega⟩⟩
      · have h9:=k5 rfl
        have h10:=h2.fr.fp
        rw [h9] at q4
        have:(8 - (0:Int)).toNat=8:=rfl
        omega
theorem Ais {c:Chip} {t:TS} {u l:List Int} {B:Int} (up:Up c) (h:TI c t) (hv:t.version.toNat+1<18446744073709551616) (ok:OkP c.blocks.length u l) (hfp:FP c≤7) (hfw:FW c≤3) (hc:Cnt c B) (hB:B+1000<8000000000000000000) :
    ∃ e t' c',B6 t u l c=(e,t',c')∧Fr2 c c'∧Cnt c' (B+100) ∧
      ((e=0∧Up c'∧TI c' t'∧t'.uses=u∧t'.lost=l∧t'.version.toNat=t.version.toNat+1) ∨
       (e=30∧c'.off=true∧¬ c.after<0∧t'=t∧((∃ a,Hold c' t.version.toNat t.uses t.lost a)∨∃ a,Hold c' (t.version.toNat+1) u l a))):=by
  obtain ⟨a,ha,hh,b,hb,hn0,hn1⟩:=h
  have hV:(t.version+1).toNat=t.version.toNat+1:=by
    rw [A05]
    show (t.version.toNat+1) % 2 ^ 64=_
    exact A0z hv
  obtain ⟨b0,hb0,hbi,hbad⟩:=hh.bs a hh.a2
  rw [hb] at hb0
  cases hb0
  have hnx:=hbi.nx
  obtain ⟨i,hi⟩:∃ i:Nat,t.next=i:=⟨t.next.toNat,by omega⟩
  obtain ⟨i',e,c1,p1,p2,p3⟩:=O4 (a:=a) (q:=Ea (t.version+1) c.blocks.length u l) (8 - i) c i b B (by omega) up hb hbad hbi (by omega) hc (by omega)
  have hp0:Ge c t.area t.next (Ea (t.version+1) c.blocks.length u l)=(i',e,c1):=by rw [ha,hi,Af6];exact p1
  have hp:=hh.put (k:=a) (V:=t.version+1) (u':=u) (l':=l) hh.a2 hb hV ok p2
  have hS:Fl t u l c=Di 4 (a:Nat) (Ea (t.version+1) c.blocks.length u l) ⟨(a:Nat),i',e,c1⟩:=by
    unfold Fl
    simp only []
    rw [hp0,ha]
  have key:Awa c t.version.toNat t.uses t.lost u l a (Fl t u l c)∧Fr2 c (Fl t u l c).c∧Cnt (Fl t u l c).c (B+100):=by
    rw [hS]
    have hfr:=p2.fr.two hh.a2
    have hkk:e≠34→Di 4 (a:Nat) (Ea (t.version+1) c.blocks.length u l) ⟨(a:Nat),i',e,c1⟩=⟨(a:Nat),i',e,c1⟩:=fun hne=>by
      unfold Di;rw [A26 hne]
    rcases p2.how with ⟨rfl,q2,q3⟩ | ⟨rfl,q2⟩ | ⟨rfl,q2,q3,q4⟩
    · rw [hkk (by decide)]
      refine ⟨.inr ⟨rfl,q2,q3,?_⟩,hfr,⟨by have:=p3.p0;simp only;omega,by have:=p3.w0;simp only;omega⟩⟩
      rcases hp.2.1 rfl with h5 | h5
      · exact .inl h5
      · exact .inr ⟨_,h5⟩
    · rw [hkk (by decide)]
      obtain ⟨b2,m1,m2,m3,m4,m5,m6,m7⟩:=p2.blk
      obtain ⟨j,hj,_,n2,n3,_⟩:=m7 rfl
      exact ⟨.inl ⟨rfl,q2,a,rfl,hp.1 rfl,b2,m1,by simp only;omega,by simp only;omega⟩,hfr,⟨by have:=p3.p0;simp only;omega,by have:=p3.w0;simp only;omega⟩⟩
    · have h10:=p2.fr.fp
      have h11:=p2.fr.fw
      have hlen:c1.blocks.length=c.blocks.length:=p2.fr.len
      obtain ⟨r1,r2,r3⟩:=Wx (n:=c.blocks.length) (V:=t.version+1) (u:=t.uses) (l:=t.lost) hh.a2 hV ok 4 ⟨(a:Nat),i',34,c1⟩ (B+8) rfl hlen (hp.2.2 rfl) (up.of p2.fr.dead p2.fr.out q2) (by simp only;omega) (by simp only;omega) ⟨by have:=p3.p0;simp only;omega,by have:=p3.w0;simp only;omega⟩ (by omega)
      refine ⟨?_,hfr.trans r2,⟨by have:=r3.p0;omega,by have:=r3.w0;omega⟩⟩
      rcases r1 with r1 | ⟨r1,r4,r5,r6⟩
      · exact .inl r1
      · exact .inr ⟨r1,r4,fun hpo=>r5 (by show c1.after<0;rw [(p2.fr.pos hpo).1];exact hpo),r6⟩
  obtain ⟨k1,k2,k3⟩:=key
  generalize hs:Fl t u l c=s at *
  rcases k1 with ⟨e0,h1,k,h2,h3,b2,h4,h5,h6⟩ | ⟨e0,h1,h2,h3⟩
  · refine ⟨0,⟨u,l,t.version+1,s.area,s.next,s.next - 1⟩,s.c,?_,k2,k3,.inl ⟨rfl,up.of k2.dead k2.out h1,⟨k,h2,?_,b2,h4,h5,h6⟩,rfl,rfl,hV⟩⟩
    · unfold B6
      simp only [hs]
      rw [A26 (by rw [e0];decide)]
    · show Hold s.c (t.version+1).toNat u l k
      rw [hV];exact h3
  · refine ⟨30,t,s.c,?_,k2,k3,.inr ⟨rfl,h1,h2,rfl,?_⟩⟩
    · unfold B6
      simp only [hs]
      rw [A25 (by rw [e0];decide),e0]
    · rcases h3 with h3 | h3
      · exact .inl ⟨a,h3⟩
      · exact .inr h3
theorem Ait {c:Chip} {v a:Nat} {u l:List Int} (up:Up c) (h:Hold c v u l a):∃ t,Dj c=(0,t)∧TI c t∧t.uses=u∧t.lost=l∧t.version.toNat=v:=by
  have hlen:2≤c.blocks.length:=by have:=h.ok.n1;omega
  have hm:Aww c 0 0=0:=Abo (i:=0) (j:=0) up (by omega) (by omega)
  have hrd:∀ k<2,∀ b,c.blocks[k]? =some b→∀ (j:Nat) (hj:j<8),B0 c (k:Nat) (j:Nat)=b.pages[j]:=fun k hk b hb j hj=>Ot (Abo up (by omega) hj) hb hj
  obtain ⟨b,hb,j,hj,hr⟩:=h.ex
  obtain ⟨t,ho,hi⟩:=Ad7 hm h.a2 hj (by rw [hrd a h.a2 b hb j hj];exact hr)
  refine ⟨t,ho,?_⟩
  obtain ⟨k,hk⟩:∃ k:Nat,t.area=k:=⟨t.area.toNat,by have:=hi.area;omega⟩
  have hk2:k<2:=by have:=hi.area;omega
  obtain ⟨b2,hb2,hbi2,_⟩:=h.bs k hk2
  obtain ⟨⟨r1,r2⟩,r3⟩:=hi.rc
  obtain ⟨j2,hj2⟩:∃ j:Nat,t.at'=j:=⟨t.at'.toNat,by omega⟩
  have hj28:j2<8:=by omega
  rw [hk,hj2,hrd k hk2 b2 hb2 j2 hj28] at r3
  have h1:=h.le k hk2 b2 hb2 j2 hj28 _ _ _ r3
  have h2:=hi.le a h.a2 j hj v u l (by rw [hrd a h.a2 b hb j hj];exact hr)
  have hv:t.version.toNat=v:=by omega
  obtain ⟨h3,h4⟩:=h1.2 hv
  refine ⟨⟨k,hk,?_,b2,hb2,hi.l0.1,?_⟩,h3,h4,hv⟩
  · rw [hv,h3,h4]
    refine ⟨h.ok,hk2,h.bs,h.le,⟨b2,hb2,j2,hj28,?_⟩⟩
    rw [r3,hv,h3,h4]
  · rcases (show t.next≤b2.next∨b2.next<t.next by omega) with h5 | h5
    · exact h5
    · exfalso
      have hnx:=hbi2.nx
      have hl:=hi.l0
      have hnb:=hi.nb (by omega)
      obtain ⟨i,hi2⟩:∃ i:Nat,t.next - 1=i:=⟨(t.next - 1).toNat,by omega⟩
      rw [hk,hi2,hrd k hk2 b2 hb2 i (by omega),hbi2.bl i (by omega) (by omega),Ud] at hnb
      cases hnb
end
section
open Go.K
instance und3:Und Tryz.prog 3 (.int .i64):=⟨Tryz.underlying3⟩
instance agg3:Agg Tryz.prog 3 false:=⟨⟨_,Tryz.underlying3,rfl⟩⟩
instance siz3:Siz Tryz.prog 3 1:=⟨by kernel_rfl⟩
instance und5:Und Tryz.prog 5 (.int .u8):=⟨Tryz.underlying5⟩
instance agg5:Agg Tryz.prog 5 false:=⟨⟨_,Tryz.underlying5,rfl⟩⟩
instance siz5:Siz Tryz.prog 5 1:=⟨by kernel_rfl⟩
instance und9:Und Tryz.prog 9 .string:=⟨Tryz.underlying9⟩
instance und85:Und Tryz.prog 85 (.slice 3):=⟨Tryz.underlying85⟩
instance agg85:Agg Tryz.prog 85 false:=⟨⟨_,Tryz.underlying85,rfl⟩⟩
instance siz85:Siz Tryz.prog 85 1:=⟨by kernel_rfl⟩
instance ent81:Ent Tryz.prog 81:=⟨fun _ _=>by kernel_rfl⟩
instance ent127:Ent Tryz.prog 127:=⟨fun _ _=>by kernel_rfl⟩
instance ent186:Ent Tryz.prog 186:=⟨fun _ _=>by kernel_rfl⟩
instance ent217:Ent Tryz.prog 217:=⟨fun _ _=>by kernel_rfl⟩
instance wide:Wide Tryz.prog:=⟨by kernel_rfl⟩
theorem Zs {x:By}:Does Tryz.prog 186 [.int .u8 x.toNat] [] (Is (.int .i64 (G2 x)) []):=by
 refine Ah (n:=6) Tryz.func186 Tryz.ntmps186 rfl (Ay9 rfl)<|Ad<|Aa fun ops=>oA rfl<|Ac<|n_K<|Ad<|Aa fun ops=>oM rfl ?_
 refine oR (Jm rfl rfl (Az1 _) (Xi x)) ?_
 refine oR (C4 rfl)<|oA rfl<|Ac<|n_K<|An ?_
 refine Aq (At Tryz.results186 (Ag rfl)) ?_ sP
 exact A20 (Value.int .i64) (Apc x)
theorem Ape {x:By}:Does Tryz.prog 217 [.int .u8 x.toNat] [] (Is (.int .i64 (Pp x)) []):=by
 refine Ah (n:=6) Tryz.func217 Tryz.ntmps217 rfl (Ay9 rfl)<|Ad<|Aa fun ops=>oA rfl<|Ac<|n_K<|Ad<|Aa fun ops=>oM rfl ?_
 refine oR (Jm rfl rfl (Az1 _) (Apb x)) ?_
 refine oR (C4 rfl)<|oA rfl<|Ac<|n_K<|An ?_
 refine Aq (At Tryz.results217 (Ag rfl)) ?_ sP
 exact A20 (Value.int .i64) (Apd x)
abbrev tI:TypeId:=3
theorem Aju {v:Int} {s:Sl Int} {T:TypeId} :
  Does Tryz.prog 127 [s.val,.int .i64 v] (s.hp T) (Is (.int .i64 (idx s.list v)) (s.hp T)):=by
 refine Ah (n:=19) Tryz.func127 Tryz.ntmps127 rfl (Ay9 rfl)<|Ad<|Aa fun ops=>oA rfl<|Ac<|n_K<|Ad<|Ad<|Aa fun ops=>oM rfl<|oR (A7 rfl)<|oM rfl<|Ac<|n_K ?_
 refine Ak ?_
 have hsm:=s.small
 refine D7 [0,1,7] kQ (fun i=>[(8,.int .i64 i)]) (fun i=>0≤i∧i≤s.list.length∧∀ k:Int,0≤k→k<i→at0 s.list k≠v) (fun i=>((s.list.length:Int) - i).toNat) ((0:Int)) ⟨by omega,by omega,by intro k h0 h1;omega⟩ kP ?_
 rintro i ⟨h0,h1,h2⟩
 refine Ad<|Aa fun ops=>oR (Ae rfl rfl rfl)<|Ac<|n_K<|Ad ?_
 refine Aj rfl (fun c9=> ?_) (fun c9=> ?_)
 ·try simp at c9
  refine Ai<|n_K<|Ad<|Ak<|Ad<|Aa fun ops=>oM rfl<|oA rfl<|Ac<|n_K<|Ad<|Aa fun ops=>oM rfl<|oM rfl ?_
  refine oM rfl ?_
  refine oR (Bk rfl rfl ⟨h0,c9⟩) ?_
  refine oR (C0 (o:=0) rfl pL (Hz h0 c9) rfl rfl) ?_
  refine oR (Ae rfl rfl rfl)<|Ac<|n_K ?_
  refine Aj rfl (fun c16=> ?_) (fun c16=> ?_)
  ·simp at c16
   refine Ad<|Aa fun ops=>oM rfl<|oA rfl<|Ac<|n_K<|An<|Bn<|r_K<|r_K<|Bn<|r_K ?_
   refine Aq (At Tryz.results127 (Ag rfl)) ?_ sP
   rw [Ath i h0 c9 h2 c16.symm]
  ·simp at c16
   refine Ai<|Az<|n_K<|Aa fun ops=> ?_
   refine oR (Ao rfl rfl (by omega)) ?_
   refine oM rfl<|Ac<|n_K ?_
   exact ⟨i+1,⟨by omega,by omega,Zr h2 (fun e=>c16 e.symm)⟩,(by omega),lZ⟩
 ·try simp at c9
  refine Bb<|x_K<|x_K<|Bj<|n_K<|Ad<|Aa fun ops=>oA rfl<|Ac<|n_K<|An ?_
  refine Aq (At Tryz.results127 (Ag rfl)) ?_ sP
  rw [Ajt (fun k k0 k1=>h2 k k0 (by omega))]
theorem Hi {v:Int} {s:Sl Int} {T:TypeId} :
  Does Tryz.prog 81 [s.val,.int .i64 v] (s.hp T) (Is (.bool (E3 s.list v)) (s.hp T)):=by
 refine Ah (n:=9) Tryz.func81 Tryz.ntmps81 rfl (Ay9 rfl)<|Ad<|Aa fun ops=>oA rfl<|Ac<|n_K<|Ad<|Aa fun ops=>oM rfl<|oM rfl ?_
 refine A6 rfl (Aju) sP rfl aQ ?_
 refine oR (Ae rfl rfl rfl)<|oA rfl<|Ac<|n_K<|An ?_
 refine Aq (At Tryz.results81 (Ag rfl)) ?_ sP
 rfl
end
section
open Go.K
instance und4:Und Tryz.prog 4 .bool:=⟨Tryz.underlying4⟩
instance agg4:Agg Tryz.prog 4 false:=⟨⟨_,Tryz.underlying4,rfl⟩⟩
instance siz4:Siz Tryz.prog 4 1:=⟨by kernel_rfl⟩
instance agg90:Agg Tryz.prog 90 false:=⟨⟨_,Tryz.underlying90,rfl⟩⟩
instance und91:Und Tryz.prog 91 (.slice 150):=⟨Tryz.underlying91⟩
instance agg91:Agg Tryz.prog 91 false:=⟨⟨_,Tryz.underlying91,rfl⟩⟩
instance und147:Und Tryz.prog 147 (.array 258 5):=⟨Tryz.underlying147⟩
instance agg147:Agg Tryz.prog 147 true:=⟨⟨_,Tryz.underlying147,rfl⟩⟩
instance siz147:Siz Tryz.prog 147 258:=⟨by kernel_rfl⟩
instance und148:Und Tryz.prog 148 (.array 8 147):=⟨Tryz.underlying148⟩
instance siz150:Siz Tryz.prog 150 2066:=⟨by kernel_rfl⟩
instance zer147:Zer Tryz.prog 147 (List.replicate 258 (.int .u8 0)):=⟨by kernel_rfl⟩
instance fld93_0:Fld Tryz.prog 93 0 0:=⟨⟨_,_,0,Tryz.underlying93,rfl,by kernel_rfl,rfl⟩⟩
instance fld93_1:Fld Tryz.prog 93 1 1:=⟨⟨_,_,0,Tryz.underlying93,rfl,by kernel_rfl,rfl⟩⟩
instance fld95_0:Fld Tryz.prog 95 0 0:=⟨⟨_,_,0,Tryz.underlying95,rfl,by kernel_rfl,rfl⟩⟩
instance fld95_1:Fld Tryz.prog 95 1 1:=⟨⟨_,_,0,Tryz.underlying95,rfl,by kernel_rfl,rfl⟩⟩
instance fld95_2:Fld Tryz.prog 95 2 2:=⟨⟨_,_,0,Tryz.underlying95,rfl,by kernel_rfl,rfl⟩⟩
instance fld95_3:Fld Tryz.prog 95 3 3:=⟨⟨_,_,0,Tryz.underlying95,rfl,by kernel_rfl,rfl⟩⟩
instance fld143_0:Fld Tryz.prog 143 0 0:=⟨⟨_,_,0,Tryz.underlying143,rfl,by kernel_rfl,rfl⟩⟩
instance fld143_1:Fld Tryz.prog 143 1 1:=⟨⟨_,_,0,Tryz.underlying143,rfl,by kernel_rfl,rfl⟩⟩
instance fld150_0:Fld Tryz.prog 150 0 0:=⟨⟨_,_,2063,Tryz.underlying150,rfl,by kernel_rfl,rfl⟩⟩
instance fld150_2:Fld Tryz.prog 150 2 2065:=⟨⟨_,_,0,Tryz.underlying150,rfl,by kernel_rfl,rfl⟩⟩
instance ent37:Ent Tryz.prog 37:=⟨fun _ _=>by kernel_rfl⟩
instance ent74:Ent Tryz.prog 74:=⟨fun _ _=>by kernel_rfl⟩
instance ent82:Ent Tryz.prog 82:=⟨fun _ _=>by kernel_rfl⟩
instance ent128:Ent Tryz.prog 128:=⟨fun _ _=>by kernel_rfl⟩
instance ent140:Ent Tryz.prog 140:=⟨fun _ _=>by kernel_rfl⟩
instance ent158:Ent Tryz.prog 158:=⟨fun _ _=>by kernel_rfl⟩
instance ent169:Ent Tryz.prog 169:=⟨fun _ _=>by kernel_rfl⟩
instance ent184:Ent Tryz.prog 184:=⟨fun _ _=>by kernel_rfl⟩
instance ent216:Ent Tryz.prog 216:=⟨fun _ _=>by kernel_rfl⟩
instance ent224:Ent Tryz.prog 224:=⟨fun _ _=>by kernel_rfl⟩
instance ent225:Ent Tryz.prog 225:=⟨fun _ _=>by kernel_rfl⟩
instance ent233:Ent Tryz.prog 233:=⟨fun _ _=>by kernel_rfl⟩
theorem Amd:Does Tryz.prog 128 [] [] (Is (.agg (vbc A0).toArray) []):=by
 refine Ah (n:=9) Tryz.func128 Tryz.ntmps128 rfl (Ay9 rfl)<|Ad<|Aa fun ops=> ?_
 refine Aw rfl fun b0=> ?_
 refine Ac<|n_K<|Ad<|Ad<|Aa fun ops=>oM rfl<|Ac<|n_K<|Ak ?_
 rw [Aqv]
 refine A8 [0] kQ (fun (s:Nat)=>[(2,.int .i64 s)]) (fun (s:Nat)=>[(b0,true,C (vbc (Kx s)) 147)]) (fun (s:Nat)=>s≤258) (fun (s:Nat)=>258 - s) ((0:Nat)) (by omega) kP sP ?_
 rintro i h0
 refine Ad<|Aa fun ops=>oR (Ae rfl rfl rfl)<|Ac<|n_K<|Ad ?_
 refine Aj rfl (fun c3=> ?_) (fun c3=> ?_)
 ·try simp at c3
  refine Ai<|n_K<|Ad<|Ak<|Ad<|Aa fun ops=>oM rfl<|oA rfl<|Ac<|n_K<|Aa fun ops=>oM rfl ?_
  refine oR (Gs rfl rfl (by omega)) ?_
  refine Af (cs':=vbc (Kx (i+1))) rfl rfl uD rfl rfl (by simpa using Adu (i:=i) (by omega)) ?_
  refine Ac<|Az<|n_K<|Aa fun ops=> ?_
  refine oR (Ao rfl rfl (by omega)) ?_
  refine oM rfl<|Ac<|n_K ?_
  exact ⟨i+1,(by omega),(by omega),lZ⟩
 ·try simp at c3
  refine Bb<|x_K<|x_K<|Bj<|n_K<|Ad<|Aa fun ops=> ?_
  refine oR (Au rfl mM (by first | exact Bg | rfl)) ?_
  first | refine Af rfl rfl uD (Ct) (Ar) (B2 (by first | exact Ar | exact Azc ..)) ?_ | refine Af rfl rfl uD rfl rfl rfl ?_
  refine Ac<|n_K<|An ?_
  refine Aq (At Tryz.results128 (Bv rfl mM (by first | exact Bg | rfl))) ?_ sP
  rw [show i=258 by omega,Aib]
abbrev tPw:TypeId:=143
abbrev tCh:TypeId:=95
abbrev tBk:TypeId:=150
abbrev ptr (p:Nat):Value:= .pointer (some ⟨p,0,none⟩)
@[irreducible] def chH (c:Chip):Hp:=(c.aP,true,C (pwc c) tPw)::(c.aC,true,C (chc c) tCh)::(c.aB,true,C (D8 c.blocks) tBk)::(c.pf.hp tI++(c.wf.hp tI++[]))
theorem Ef (c:Chip):chH c=(c.aP,true,C (pwc c) tPw)::(c.aC,true,C (chc c) tCh)::(c.aB,true,C (D8 c.blocks) tBk)::(c.pf.hp tI++(c.wf.hp tI++[])):=by unfold chH;rfl
section
variable {c:Chip} {i j:Int}
theorem Aue:Does Tryz.prog 37 [ptr c.aP] [(c.aP,true,C (pwc c) tPw)] (Is (.bool c.off) [(c.aP,true,C (pwc c) tPw)]):=by
 refine Ah (n:=7) Tryz.func37 Tryz.ntmps37 rfl (Ay9 rfl)<|Ad<|Aa fun ops=>oA rfl<|Ac<|n_K<|Ad<|Aa fun ops=>oM rfl<|oN rfl<|oF rfl ?_
 refine oR (Al rfl mM rfl) ?_
 refine oA rfl<|Ac<|n_K<|An ?_
 refine Aq (At Tryz.results37 (Ag rfl)) ?_ sP
 rfl
theorem Aq1:Does Tryz.prog 216 [ptr c.aC] [(c.aC,true,C (chc c) tCh)] (Is (.bool (!c.dead && !c.out)) [(c.aC,true,C (chc c) tCh)]):=by
 refine Ah (n:=15) Tryz.func216 Tryz.ntmps216 rfl (Ay9 rfl)<|Ad<|Aa fun ops=>oA rfl<|Ac<|n_K<|Ad ?_
 refine Bf [(5,8)] rfl fun ops y=> ?_
 refine oM rfl<|oN rfl<|oF rfl ?_
 refine oR (Al rfl mM rfl) ?_
 refine oR (Bx rfl)<|oM rfl ?_
 refine' Df (j:=5) (k:=5) y rfl rfl rfl rfl rfl rfl rfl (fun hg8=> ?_) ?_
 rotate_left
 ·try (simp at hg8;show _)
  refine o_g y rfl rfl ?_
  refine oM rfl ?_
  refine o_g y rfl rfl ?_
  refine oN rfl ?_
  refine o_g y rfl rfl ?_
  refine oF rfl ?_
  refine o_g y rfl rfl ?_
  refine oR (Al rfl mM rfl) ?_
  refine o_g y rfl rfl ?_
  refine oR (Bx rfl) ?_
  exact Ac ⟨rfl,rfl,⟨_,sP⟩⟩
 refine oA rfl<|Ac<|n_K<|An ?_
 refine Aq (At Tryz.results216 (Ag rfl)) ?_ sP
 rfl
theorem T1:Does Tryz.prog 74 [ptr c.aC,.int .i64 i] [(c.aC,true,C (chc c) tCh)] (Is (.bool (Ew c i)) [(c.aC,true,C (chc c) tCh)]):=by
 refine Ah (n:=16) Tryz.func74 Tryz.ntmps74 rfl (Ay9 rfl)<|Ad<|Aa fun ops=>oA rfl<|Ac<|n_K<|Ad ?_
 refine Bf [(2,7)] rfl fun ops y=> ?_
 refine oM rfl<|oR (Ae rfl rfl rfl)<|oM rfl ?_
 refine' Df (j:=2) (k:=7) y rfl rfl rfl rfl rfl rfl rfl (fun hg7=> ?_) ?_
 rotate_left
 ·try (simp at hg7;show _)
  refine o_g y rfl rfl ?_
  refine oM rfl ?_
  refine o_g y rfl rfl ?_
  refine oM rfl ?_
  refine o_g y rfl rfl ?_
  refine oN rfl ?_
  refine o_g y rfl rfl ?_
  refine oF rfl ?_
  refine o_g y rfl rfl ?_
  refine oR (Al rfl mM rfl) ?_
  refine o_g y rfl rfl ?_
  refine oR (A7 rfl) ?_
  refine o_g y rfl rfl ?_
  refine oR (Ae rfl rfl rfl) ?_
  exact Ac ⟨rfl,rfl,⟨_,sP⟩⟩
 refine oA rfl<|Ac<|n_K<|An ?_
 refine Aq (At Tryz.results74 (Ag rfl)) ?_ sP
 rfl
theorem Yh:Does Tryz.prog 184 [ptr c.aC,.int .i64 i,.int .i64 j] [(c.aP,true,C (pwc c) tPw),(c.aC,true,C (chc c) tCh)] (Is (.int .i64 (Aww c i j)) [(c.aP,true,C (pwc c) tPw),(c.aC,true,C (chc c) tCh)]):=by
 refine Ah (n:=30) Tryz.func184 Tryz.ntmps184 rfl (Ay9 rfl)<|Ad<|Aa fun ops=>oA rfl<|Ac<|n_K<|Ad<|Ak<|Ad<|Aa fun ops=>oM rfl<|oN rfl<|oF rfl ?_
 refine oR (Al rfl mM rfl) ?_
 refine A6 rfl (Aue) sP rfl aQ ?_
 refine oA rfl<|Ac<|n_K ?_
 refine Aj rfl (fun c7=> ?_) (fun c7=> ?_)
 ·skip
  refine Ad<|Aa fun ops=>oA rfl<|Ac<|n_K<|An<|Bn<|r_K ?_
  refine Aq (At Tryz.results184 (Ag rfl)) ?_ sP
  rw [Aww,A25 c7]
 ·skip
  refine Ad<|Aa fun ops=>oM rfl ?_
  refine A6 rfl (Aq1) sP rfl aQ ?_
  refine oR (Bx rfl)<|oA rfl<|Ac<|n_K ?_
  refine Aj rfl (fun c13=> ?_) (fun c13=> ?_)
  ·skip
   refine Ad<|Aa fun ops=>oA rfl<|Ac<|n_K<|An<|Bn<|r_K ?_
   refine Aq (At Tryz.results184 (Ag rfl)) ?_ sP
   rw [Aww,A26 (by rw [c7];exact Az2),A25 c13]
  ·skip
   refine Ad ?_
   refine Bf [(4,22),(8,26)] rfl fun ops y=> ?_
   refine oM rfl<|oM rfl ?_
   refine A6 rfl (T1) sP rfl aQ ?_
   refine oR (Bx rfl)<|oM rfl ?_
   refine' Es (j:=4) (k:=2) y rfl rfl rfl rfl rfl rfl rfl (fun hg22=> ?_) ?_
   rotate_left
   ·try (simp at hg22;show _)
    refine o_g y rfl rfl ?_
    refine oM rfl ?_
    refine o_g y rfl rfl ?_
    refine oR (Ae rfl rfl rfl) ?_
    exact Ac ⟨rfl,rfl,⟨_,sP⟩⟩
   refine oM rfl ?_
   refine' Es (j:=8) (k:=2) y rfl rfl rfl rfl rfl rfl rfl (fun hg26=> ?_) ?_
   rotate_left
   ·try (simp at hg26;show _)
    refine o_g y rfl rfl ?_
    refine oM rfl ?_
    refine o_g y rfl rfl ?_
    refine oR (Ae rfl rfl rfl) ?_
    exact Ac ⟨rfl,rfl,⟨_,sP⟩⟩
   refine oA rfl<|Ac<|n_K ?_
   refine Aj rfl (fun c17=> ?_) (fun c17=> ?_)
   ·skip
    refine Ad<|Aa fun ops=>oA rfl<|Ac<|n_K<|An<|Bn<|r_K ?_
    refine Aq (At Tryz.results184 (Ag rfl)) ?_ sP
    rw [Aww,A26 (by rw [c7];exact Az2),A26 (by rw [c13];exact Az2),A25 c17]
   ·skip
    refine Ai<|Az<|n_K<|Ad<|Aa fun ops=>oA rfl<|Ac<|n_K<|An ?_
    refine Aq (At Tryz.results184 (Ag rfl)) ?_ sP
    rw [Aww,A26 (by rw [c7];exact Az2),A26 (by rw [c13];exact Az2),A26 (by rw [c17];exact Az2)]
theorem Fc:Does Tryz.prog 158 [ptr c.aC] (chH c) (Is (.int .i64 c.blocks.length) (chH c)):=by
 rw [Ef]
 refine Ah (n:=8) Tryz.func158 Tryz.ntmps158 rfl (Ay9 rfl)<|Ad<|Aa fun ops=>oA rfl<|Ac<|n_K<|Ad<|Aa fun ops=>oM rfl<|oN rfl<|oF rfl ?_
 refine oR (Al rfl mM rfl) ?_
 refine oR (A7 rfl)<|oA rfl<|Ac<|n_K<|An ?_
 refine Aq (At Tryz.results158 (Ag rfl)) ?_ sP
 rfl
theorem Yi:Does Tryz.prog 140 [ptr c.aC,.int .i64 i,.int .i64 j] (chH c) (Is (.tuple #[.agg (vbc (B0 c i j)).toArray,.int .i64 (Aww c i j)]) (chH c)):=by
 rw [Ef]
 refine Ah (n:=27) Tryz.func140 Tryz.ntmps140 rfl (Ay9 rfl)<|Ad<|Aa fun ops=> ?_
 refine Aw rfl fun b6=> ?_
 refine oA rfl<|Ac<|n_K<|Ad<|Ad<|Aa fun ops=>oM rfl<|oM rfl<|oM rfl ?_
 refine A6 rfl (Yh) sP rfl aQ ?_
 refine oA rfl<|Ac<|n_K<|Ad<|Aa fun ops=>oM rfl<|oR (Ae rfl rfl rfl)<|Ac<|n_K ?_
 refine Aj rfl (fun c14=> ?_) (fun c14=> ?_)
 ·skip
  refine Ad<|Aa fun ops=> ?_
  refine oR (show Rd _ _ _ _ (.agg (vbc Jv).toArray) from by (rw [← Cs];exact Tu)) ?_
  refine oM rfl ?_
  first | refine Af rfl rfl uD (Ct) (Ar) (B2 (by first | exact Ar | exact Azc ..)) ?_ | refine Af rfl rfl uD rfl rfl rfl ?_
  refine oA rfl<|Ac<|n_K<|An<|r_K ?_
  refine Aq (Bz Tryz.results140 (Bv rfl mM (by first | exact Bg | rfl)) (Ag rfl)) ?_ sP
  (have hm:¬ Aww c i j=0:=by simpa using c14);rw [B0,A26 hm]
 ·skip
  have hm:Aww c i j=0:=by simpa using c14
  obtain ⟨m0,m1,m2,m3,_⟩:=Yc hm
  refine Ai<|n_K<|Ad<|Aa fun ops=>oM rfl<|oN rfl<|oF rfl ?_
  refine oR (Al rfl mM rfl) ?_
  refine oM rfl<|oM rfl ?_
  refine oR (X7 rfl rfl (by omega)) ?_
  refine oF rfl ?_
  refine oR (Gs rfl rfl (by omega)) ?_
  refine oR (Au rfl mM (show cut (D8 c.blocks) _ 258=_ by simpa using Al8 m0 m1 m2 m3)) ?_
  first | refine Af rfl rfl uD (Ct) (Ar) (B2 (by first | exact Ar | exact Azc ..)) ?_ | refine Af rfl rfl uD rfl rfl rfl ?_
  refine oA rfl<|Ac<|n_K<|An ?_
  refine Aq (Bz Tryz.results140 (Bv rfl mM (by first | exact Bg | rfl)) (Ag rfl)) ?_ sP
  rw [B0,A25 hm,hm]
end
section
variable {c:Chip} {i j:Int}
theorem Afv:Does Tryz.prog 225 [ptr c.aP] [(c.aP,true,C (pwc c) tPw)] (Is (.bool (El c)) [(c.aP,true,C (pwc (Fj c)) tPw)]):=by
 refine Ah (n:=27) Tryz.func225 Tryz.ntmps225 rfl (Ay9 rfl)<|Ad<|Aa fun ops=>oA rfl<|Ac<|n_K<|Ad<|Ad<|Aa fun ops=>oM rfl<|oN rfl<|oF rfl ?_
 refine oR (Al rfl mM rfl) ?_
 refine oR (Ae rfl rfl rfl)<|Ac<|n_K ?_
 refine Aj rfl (fun c7=> ?_) (fun c7=> ?_)
 ·try simp at c7
  refine Ad<|Aa fun ops=>oA rfl<|Ac<|n_K<|An<|r_K ?_
  refine Aq (At Tryz.results225 (Ag rfl)) ?_ (by first | (rw [Aft c7];exact sP) | (rw [Afu c7];exact sP))
  simp [El,c7]
 ·try simp at c7
  refine Ai<|n_K<|Ad<|Aa fun ops=>oM rfl<|oM rfl<|oN rfl<|oF rfl ?_
  refine oR (Al rfl mM rfl) ?_
  refine oR (Ae rfl rfl rfl)<|oN rfl<|oF rfl ?_
  refine Af rfl rfl uD rfl rfl rfl ?_
  refine Ac<|n_K<|Ad<|Aa fun ops=>oM rfl<|oN rfl<|oF rfl ?_
  refine oR (Al rfl mM rfl) ?_
  refine oR (Ae rfl rfl rfl)<|oN rfl<|oF rfl ?_
  refine Af rfl rfl uD rfl rfl rfl ?_
  refine Ac<|n_K<|Ad<|Aa fun ops=>oM rfl<|oN rfl<|oF rfl ?_
  refine oR (Al rfl mM rfl) ?_
  refine oA rfl<|Ac<|n_K<|An ?_
  refine Aq (At Tryz.results225 (Ag rfl)) ?_ (by first | (rw [Aft c7];exact sP) | (rw [Afu c7];exact sP))
  simp [El,c7]
theorem Aq2:Does Tryz.prog 224 [.pointer (some ⟨c.aC,4,none⟩)] ((c.aC,true,C (chc c) tCh)::(c.pf.hp tI++[])) (Is (.bool (Ky c)) ((c.aC,true,C (chc (Rt c)) tCh)::(c.pf.hp tI++[]))):=by
 refine Ah (n:=20) Tryz.func224 Tryz.ntmps224 rfl (Ay9 rfl)<|Ad<|Aa fun ops=>oA rfl<|Ac<|n_K<|Ad<|Aa fun ops=>oM rfl<|oN rfl<|oF rfl ?_
 refine oR (Al rfl mM rfl) ?_
 refine oR (Ae rfl rfl rfl)<|oN rfl<|oF rfl ?_
 refine Af rfl rfl uD rfl rfl rfl ?_
 refine Ac<|n_K<|Ad ?_
 refine s_draw [] [(9,[(0,false),(1,false),(2,false),(3,false),(4,false),(5,false),(6,false),(7,false),(8,false)]),(10,[(9,true)]),(11,[(10,false)])] (by kernel_rfl) rfl fun ops w0 H0 y=> ?_
 refine A4<|xM rfl<|xN rfl<|xF rfl ?_
 refine xR (Al rfl mM rfl) ?_
 refine xM rfl<|xN rfl<|xF rfl ?_
 refine xR (Al rfl mM rfl) ?_
 refine xR (Ae rfl rfl rfl)<|Am<|Bh<|Be ?_
 refine A6 rfl (Hi) sP rfl aQ ?_
 refine Ac ⟨rfl,⟨_,sP⟩,?_⟩
 refine Am<|A4<|xA rfl<|Am<|Bm<|n_K<|An ?_
 refine Aq (At Tryz.results224 (Ag rfl)) ?_ sP
 rfl
theorem Aq3:Does Tryz.prog 224 [.pointer (some ⟨c.aC,6,none⟩)] ((c.aC,true,C (chc c) tCh)::(c.wf.hp tI++[])) (Is (.bool (Rb c)) ((c.aC,true,C (chc (Yf c)) tCh)::(c.wf.hp tI++[]))):=by
 refine Ah (n:=20) Tryz.func224 Tryz.ntmps224 rfl (Ay9 rfl)<|Ad<|Aa fun ops=>oA rfl<|Ac<|n_K<|Ad<|Aa fun ops=>oM rfl<|oN rfl<|oF rfl ?_
 refine oR (Al rfl mM rfl) ?_
 refine oR (Ae rfl rfl rfl)<|oN rfl<|oF rfl ?_
 refine Af rfl rfl uD rfl rfl rfl ?_
 refine Ac<|n_K<|Ad ?_
 refine s_draw [] [(9,[(0,false),(1,false),(2,false),(3,false),(4,false),(5,false),(6,false),(7,false),(8,false)]),(10,[(9,true)]),(11,[(10,false)])] (by kernel_rfl) rfl fun ops w0 H0 y=> ?_
 refine A4<|xM rfl<|xN rfl<|xF rfl ?_
 refine xR (Al rfl mM rfl) ?_
 refine xM rfl<|xN rfl<|xF rfl ?_
 refine xR (Al rfl mM rfl) ?_
 refine xR (Ae rfl rfl rfl)<|Am<|Bh<|Be ?_
 refine A6 rfl (Hi) sP rfl aQ ?_
 refine Ac ⟨rfl,⟨_,sP⟩,?_⟩
 refine Am<|A4<|xA rfl<|Am<|Bm<|n_K<|An ?_
 refine Aq (At Tryz.results224 (Ag rfl)) ?_ sP
 rfl
end
theorem Ame {pb k i:Nat} {n:Int} {l:List Blk} {b:Blk} {d:Pg} (hk:l[k]? =some b) (hi:i<8) :
  Does Tryz.prog 233 [.pointer (some ⟨pb,k*2066,none⟩),.int .i64 (i:Int),.int .i64 n,.agg (vbc d).toArray] [(pb,true,C (D8 l) tBk)]
   (Is (.tuple #[]) [(pb,true,C (D8 (l.set k (wrB b i (Bl n 258) d hi))) tBk)]):=by
 refine Ah (n:=32) Tryz.func233 Tryz.ntmps233 rfl (Ay9 rfl)<|Ad<|Aa fun ops=> ?_
 refine Ec rfl rfl fun b7=> ?_
 refine Ac<|n_K<|Ad<|Aa fun ops=>oM rfl<|oR (Ln rfl rfl)<|oR (X8 rfl rfl)<|oM rfl<|Ac<|n_K<|Ak ?_
 have hset:l.set k (wrB b i 0 d hi)=l:=by (rw [Av3];have:=Aym.1 hk;obtain ⟨h1,rfl⟩:=this;exact List.set_getElem_self h1)
 rw [← A20 D8 hset]
 have hmm:(min (max n 0) 258)=(Bl n 258:Nat)∧Bl n 258≤258:=by unfold Bl;omega
 refine A8 [0,1,7,11] kQ (fun (s:Nat)=>[(12,.int .i64 s)]) (fun (s:Nat)=>[(b7,true,C (vbc d) 147),(pb,true,C (D8 (l.set k (wrB b i s d hi))) tBk)]) (fun (s:Nat)=>s≤Bl n 258) (fun (s:Nat)=>Bl n 258 - s) ((0:Nat)) (by omega) kP sP ?_
 rintro j h0
 refine Ad<|Aa fun ops=>oR (Ae rfl rfl rfl)<|Ac<|n_K<|Ad ?_
 refine Aj rfl (fun c13=> ?_) (fun c13=> ?_)
 ·simp only [A0d,Ayz] at c13;rw [hmm.1] at c13
  have hj:j<258:=by omega
  refine Ai<|n_K<|Ad<|Ak<|Ad<|Aa fun ops=>oM rfl<|oA rfl<|Ac<|n_K ?_
  refine s_draw [] [(16,[(0,false),(1,false),(2,false),(3,false),(4,false),(5,false),(6,false),(7,false),(8,false),(9,false),(10,false),(11,false),(12,false),(13,false),(14,false),(15,false)]),(17,[(16,true)])] (by kernel_rfl) rfl fun ops w0 H0 y=> ?_
  refine A4<|xM rfl<|xM rfl<|xM rfl<|xN rfl<|xF rfl ?_
  refine xR (Gs rfl rfl (by omega)) ?_
  refine xR (Gs rfl rfl (by omega)) ?_
  refine xR (Al rfl mM (show nth _ _=some (bv b.pages[i][j]) by simpa [A16] using Av4 hk hi hj)) ?_
  refine xM rfl ?_
  refine xR (Gs rfl rfl (by omega)) ?_
  refine xR (Al rfl mM (show nth _ _=some (bv d[j]) by simpa using Gt (p:=d) hj)) ?_
  refine xR (show Rd _ _ _ _ (bv (b.pages[i][j] &&& d[j])) from by (unfold bv;rw [← Ajs];exact Ae rfl rfl rfl)) ?_
  refine xN rfl<|xF rfl ?_
  refine xR (Gs rfl rfl (by omega)) ?_
  refine xR (Gs rfl rfl (by omega)) ?_
  refine Am<|Bh<|Be ?_
  refine Af (cs':=D8 (l.set k (wrB b i (j+1) d hi))) rfl rfl uD rfl rfl (by simpa [A16] using Aqx hk hi hj) ?_
  refine Ac ⟨rfl,⟨_,sP⟩,?_⟩
  refine Am<|Bm<|Az<|n_K<|Aa fun ops=> ?_
  refine oR (Ao rfl rfl (by omega)) ?_
  refine oM rfl<|Ac<|n_K ?_
  exact ⟨j+1,(by omega),(by omega),lZ⟩
 ·simp only [A0d,Ayz] at c13;rw [hmm.1] at c13
  refine Bb<|x_K<|x_K<|Bj ?_
  refine Lp (Ml Tryz.results233) ?_ (by rw [show j=Bl n 258 by omega];repeat (first | exact Split.nil | (apply Split.cons;next=>repeat (first | exact Pick.here | apply Pick.there))))
  rfl
theorem Yj {pb k:Nat} {n:Int} {l:List Blk} {b:Blk} (hk:l[k]? =some b) :
  Does Tryz.prog 82 [.pointer (some ⟨pb,k*2066,none⟩),.int .i64 n] [(pb,true,C (D8 l) tBk)]
   (Is (.tuple #[]) [(pb,true,C (D8 (l.set k (D3 b (Bl n 8)))) tBk)]):=by
 refine Ah (n:=18) Tryz.func82 Tryz.ntmps82 rfl (Ay9 rfl)<|Ad<|Aa fun ops=>oM rfl<|oR (Ln rfl rfl)<|oR (X8 rfl rfl)<|oM rfl<|Ac<|n_K<|Ak ?_
 have hset:l.set k (D3 b 0)=l:=by (rw [Aqy];have:=Aym.1 hk;obtain ⟨h1,rfl⟩:=this;exact List.set_getElem_self h1)
 rw [← A20 D8 hset]
 have hmm:(min (max n 0) 8)=(Bl n 8:Nat)∧Bl n 8≤8:=by unfold Bl;omega
 refine A8 [0,7] kQ (fun (s:Nat)=>[(8,.int .i64 s)]) (fun (s:Nat)=>[(pb,true,C (D8 (l.set k (D3 b s))) tBk)]) (fun (s:Nat)=>s≤Bl n 8) (fun (s:Nat)=>Bl n 8 - s) ((0:Nat)) (by omega) kP sP ?_
 rintro j h0
 refine Ad<|Aa fun ops=>oR (Ae rfl rfl rfl)<|Ac<|n_K<|Ad ?_
 refine Aj rfl (fun c9=> ?_) (fun c9=> ?_)
 ·simp only [A0d,Ayz] at c9;rw [hmm.1] at c9
  have hj:j<8:=by omega
  refine Ai<|n_K<|Ad<|Ak<|Ad<|Aa fun ops=>oM rfl<|oA rfl<|Ac<|n_K ?_
  refine s_draw [] [(5,[(0,false),(1,false),(3,false),(4,false),(2,true)]),(6,[(5,false)]),(7,[(6,true)])] (by kernel_rfl) rfl fun ops w0 H0 y=> ?_
  refine A4<|xM rfl<|xM rfl<|xN rfl<|xF rfl<|Be ?_
  refine A6 rfl (Amd) sP rfl aQ ?_
  refine Ac ⟨rfl,⟨_,sP⟩,?_⟩
  refine Am<|A4 ?_
  refine xR (Gs rfl rfl (by omega)) ?_
  refine Am<|Bh<|Be ?_
  refine Af (cs':=D8 (l.set k (D3 b (j+1)))) rfl rfl uD Ct Ar (by simpa [A16] using Aid hk hj) ?_
  refine Ac ⟨rfl,⟨_,sP⟩,?_⟩
  refine Am<|Bm<|Az<|n_K<|Aa fun ops=> ?_
  refine oR (Ao rfl rfl (by omega)) ?_
  refine oM rfl<|Ac<|n_K ?_
  exact ⟨j+1,(by omega),(by omega),lZ⟩
 ·simp only [A0d,Ayz] at c9;rw [hmm.1] at c9
  refine Bb<|x_K<|x_K<|Bj ?_
  refine Lp (Ml Tryz.results82) ?_ (by rw [show j=Bl n 8 by omega];repeat (first | exact Split.nil | (apply Split.cons;next=>repeat (first | exact Pick.here | apply Pick.there))))
  rfl
section
variable {c:Chip} {i j:Int}
theorem Auf:Does Tryz.prog 169 [ptr c.aC,.int .i64 i] (chH c) (Is (.bool (Ew c i && Wm c i)) (chH c)):=by
 rw [Ef]
 refine Ah (n:=18) Tryz.func169 Tryz.ntmps169 rfl (Ay9 rfl)<|Ad<|Aa fun ops=>oA rfl<|Ac<|n_K<|Ad ?_
 refine Bf [(3,8)] rfl fun ops y=> ?_
 refine oM rfl<|oM rfl ?_
 refine A6 rfl (T1) sP rfl aQ ?_
 refine oM rfl ?_
 refine' Df (j:=3) (k:=8) y rfl rfl rfl rfl rfl rfl rfl (fun hg8=> ?_) ?_
 rotate_left
 ·try (simp at hg8;show _)
  refine o_g y rfl rfl ?_
  refine oM rfl ?_
  refine o_g y rfl rfl ?_
  refine oN rfl ?_
  refine o_g y rfl rfl ?_
  refine oF rfl ?_
  refine o_g y rfl rfl ?_
  refine oR (Al rfl mM rfl) ?_
  refine o_g y rfl rfl ?_
  refine oM rfl ?_
  refine o_g y rfl rfl ?_
  refine oR (X7 rfl rfl (Aa8 hg8)) ?_
  refine o_g y rfl rfl ?_
  refine oF rfl ?_
  refine o_g y rfl rfl ?_
  refine oR (Al rfl mM (show nth _ _=some (.bool (Wm c i)) by simpa [A16] using Aud hg8)) ?_
  exact Ac ⟨rfl,rfl,⟨_,sP⟩⟩
 refine oA rfl<|Ac<|n_K<|An ?_
 refine Aq (At Tryz.results169 (Ag rfl)) ?_ sP
 rfl
end
end
end Go.Proofs.YtpmojdippdlcaaaGreatDoor
