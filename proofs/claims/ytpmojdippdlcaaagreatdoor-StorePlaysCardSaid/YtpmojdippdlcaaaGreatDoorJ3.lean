/- every call of any script on a store answers as the document says, while acts of the chip fail, as long as there are spares, and leaves the document's nodes, also when it is opened again; its conditions are the statement's own: the bounds of scripts, bodies and fails; the conditions are the statement's own: part 3. -/
import Derived.Test.YtpmojdippdlcaaaGreatDoorJ0
import Derived.Test.YtpmojdippdlcaaaGreatDoorJ2
import Derived.Test.YtpmojdippdlcaaaGreatDoorJ1
import Derived.Lib.Small
import Derived.Lib.Walk
import Derived.Shelf.SlSortCmp.NoneTotal
import Derived.Ground.SlsfProg
set_option linter.unusedVariables false
set_option linter.unusedSimpArgs false
set_option maxRecDepth 100000
set_option maxHeartbeats 1000000
set_option synthInstance.maxSize 4000
set_option synthInstance.maxHeartbeats 400000
namespace Go.Proofs.YtpmojdippdlcaaaGreatDoor
section
open Go.K
section
variable {r:RTab} {t:Tab} {c:Chip} {a:Nat}
structure RelT (t:TS) (u:List Int) (l:List Bool) (n:Nat):Prop where
 uu:u=t.uses
 ll:l.length=n
 lo:∀ b:Int,0≤b→b<n→atB l b=E8 t.lost b
 ln:t.lost.Nodup
 lr:∀ x∈t.lost,0≤x∧x<n
theorem Wv:∀ (l:List Bool) (k:Nat) (s:List Int),s.Nodup→(∀ x∈s,(k:Int)≤x∧x<k+l.length)→(∀ i (h:i<l.length),l[i]=E8 s ((k+i:Nat):Int))→l.countP id=s.length
 | [],k,s,hn,hr,_=>by
  cases s with
  | nil=>rfl
  | cons x s=>have:=hr x (.head _);grind
 | b::l,k,s,hn,hr,hb=>by
  have h0:=hb 0 (by simp)
  simp only [ A56] at h0
  have ih:=Wv l (k+1) (s.erase (k:Int)) (hn.erase _) (fun x hx=>by
   have h1:=(hn.mem_erase_iff).1 hx
   have h2:=hr x h1.2
   have h3:=h1.1
   grind) (fun i hi=>by
   have h1:=hb (i+1) (by simp;omega)
   simp only [List.getElem_cons_succ] at h1
   rw [h1,show ((k+1+i:Nat):Int)=((k+(i+1):Nat):Int) by omega]
   cases hh:E8 s ((k+(i+1):Nat):Int) with
   | true =>
    symm
    apply has_mem.2
    exact (hn.mem_erase_iff).2 ⟨by omega,has_mem.1 hh⟩
   | false =>
    symm
    cases h2:E8 (s.erase (k:Int)) ((k+(i+1):Nat):Int) with
    | false=>rfl
    | true =>
     have:=has_mem.2 ((hn.mem_erase_iff).1 (has_mem.1 h2)).2
     rw [hh] at this
     cases this)
  rw [List.countP_cons,ih]
  cases b with
  | true =>
   have hm:=has_mem.1 h0.symm
   have:=A2j hm
   have:=A2r hm
   grind
  | false =>
   have hm:(k:Int)∉s:=fun h=>by rw [has_mem.2 h] at h0;cases h0
   rw [List.erase_of_not_mem hm]
   simp
theorem RelT.count {t:TS} {u:List Int} {l:List Bool} {n:Nat} (h:RelT t u l n):l.countP id=t.lost.length :=
 Wv l 0 t.lost h.ln (fun x hx=>by have:=h.lr x hx;rw [h.ll];omega) (fun i hi=>by
  have:=h.lo (i:Nat) (by omega) (by rw [h.ll] at hi;omega)
  rw [A6c,← this]
  simp [atB,A18,hi])
section
variable {u u1 u2:List Int} {l l1 l2:List Bool} {o:OpV} {b:Int}
end
end
end
section
open Go.K
structure WF (n:Nat) (u l:List Int):Prop where
 n1:16≤n
 n2:n≤40
 un:u.Nodup
 len:u.length+6=n
 us:∀ x∈u,2≤x∧x<n∧x∉l
 ln:l.Nodup
 ls:∀ x∈l,2≤x∧x<n
theorem WF.lost4 {n:Nat} {u l:List Int} (h:WF n u l):l.length≤4:=by
 have h1:=h.n1
 have:=Ib (l:=u++l) (m:=(List.range (n - 2)).map fun i=>((i:Nat):Int)+2) (by
  rw [A4b]
  exact ⟨h.un,h.ln,fun a ha b hb e=>by subst e;exact (h.us a ha).2.2 hb⟩) (fun x hx=>by
   have hr:2≤x∧x<n:=by
    rcases A49.1 hx with h1 | h1
    ·have:=h.us x h1;omega
    ·exact h.ls x h1
   exact A53.2 ⟨(x - 2).toNat,A5n.2 (by omega),by omega⟩)
 have h2:=h.len
 grind
theorem WF.okP {n:Nat} {u l:List Int} (h:WF n u l):OkP n u l :=
 ⟨h.n1,h.n2,h.len,by have:=h.lost4;omega,fun x hx=>by have:=h.us x hx;have:=h.n2;omega,fun x hx=>by have:=h.ls x hx;have:=h.n2;omega⟩
theorem Abz {t:TS} {n:Nat} {b:Int} (h:D6 t n b=true):2≤b∧b<n∧b∉t.uses∧b∉t.lost:=by
 unfold D6 at h
 simp only [A4k,A4f] at h
 obtain ⟨⟨⟨h1,h2⟩,h3⟩,h4⟩:=h
 exact ⟨h1,h2,fun e=>(by rw [has_mem.2 e] at h3;cases h3),fun e=>(by rw [has_mem.2 e] at h4;cases h4)⟩
theorem WF.lose {n:Nat} {t:TS} {b:Int} {l:List Int} (h:WF n t.uses t.lost) (hb:D6 t n b=true) (hp:l.Perm (t.lost++[b])):WF n t.uses l:=by
 obtain ⟨b1,b2,b3,b4⟩:=Abz hb
 have hm:∀ x,x∈l↔x∈t.lost∨x=b:=fun x=>by rw [hp.mem_iff];simp
 refine ⟨h.n1,h.n2,h.un,h.len,fun x hx=> ?_,hp.nodup_iff.2 (Lq h.ln b4),fun x hx=> ?_⟩
 ·obtain ⟨h1,h2,h4⟩:=h.us x hx
  grind
 ·rcases (hm x).1 hx with e | e
  ·exact h.ls x e
  omega
theorem Lx {l:List Int} {i:Int} (hi:0≤i∧i<l.length):at0 l i∈l:=A3b (Io hi.1 hi.2)
theorem WF.swap {n:Nat} {t:TS} {b i:Int} {l:List Int} (h:WF n t.uses t.lost) (hi:0≤i∧i<t.uses.length) (hb:D6 t n b=true) (hp:l.Perm (t.lost++[at0 t.uses i])):WF n (t.uses.set i.toNat b) l:=by
 obtain ⟨b1,b2,b3,b4⟩:=Abz hb
 have hlt:i.toNat<t.uses.length:=by omega
 have hat:at0 t.uses i=t.uses[i.toNat]:=by simp [at0,A18,hlt]
 rw [hat] at hp
 have hu:=h.us _ (A4p hlt)
 have hm:∀ x,x∈l↔x∈t.lost∨x=t.uses[i.toNat]:=fun x=>by rw [hp.mem_iff];simp
 refine ⟨h.n1,h.n2,Akv h.un b3,by rw [A47];exact h.len,fun x hx=> ?_,hp.nodup_iff.2 (Lq h.ln hu.2.2),fun x hx=> ?_⟩
 ·rcases Aua h.un hlt hx with e | ⟨e,hne⟩
  ·grind
  ·obtain ⟨h1,h2,h4⟩:=h.us x e
   grind
 ·rcases (hm x).1 hx with e | e
  ·exact h.ls x e
  omega
structure JI (c:Chip) (t:TS) (u:List Int) (l:List Bool) (n k:Nat):Prop where
 up:Up c
 ti:TI c t
 rel:RelT t u l n
 wf:WF n t.uses t.lost
 len:c.blocks.length=n
 ver:t.version.toNat≤k+1
 cnt:Cnt c (1000*k+1000)
 pf:c.pf.list=[]
 wfl:c.wf.list=[]
 af:c.after<0
section
variable {aP aC aB n:Nat} {bad:List Int}
theorem Nt {i:Int} (h:0≤i∧i<n):atB (He n bad) i=E8 bad i:=by
 have:i.toNat<(He n bad).length:=by rw [Q3];omega
 simp only [atB]
 simp only [He]
 grind
theorem Ab0 (hn:2≤n) (size:Int):∀ i,i≤n→O6 (He n bad) size i=(Hg (Ds (-1) 0 aP aC aB n bad) size i).1
 | 0,_=>rfl
 | i+1,h=>by
  have ih:=Ab0 hn size i (by omega)
  have hb:Mb (Ds (-1) 0 aP aC aB n bad) (i:Nat)=atB (He n bad) (i:Nat):=by rw [P4 (by omega),Nt (by omega)]
  unfold O6 Hg
  grind
theorem Ww (hn:16≤n∧n≤40):Fm (Ds (-1) 0 aP aC aB n bad)=(n:Int) - 6:=by
 unfold Fm
 rw [H4,Ij (x:=(n:Int) - 2) (by omega),Ij (by omega)]
 omega
theorem Ae5 (hn:16≤n∧n≤40):(E3 (Ds (-1) 0 aP aC aB n bad)).uses=O6 (He n bad) ((n:Int) - 6) n:=by
 rw [Akt,Ww hn,H4,Ab0 (aP:=aP) (aC:=aC) (aB:=aB) (by omega) _ n (A6h _)]
theorem Wx (hn:16≤n∧n≤40):Lu (Ds (-1) 0 aP aC aB n bad)=Xk (He n bad):=by
 unfold Lu Xk
 rw [P4 (by omega),P4 (by omega),Ww hn,Ae5 hn,Q3,Nt (by omega),Nt (by omega)]
theorem Az1 (hn:16≤n∧n≤40) (hx:Xk (He n bad)=false):∃ t c',Dz (Ds (-1) 0 aP aC aB n bad)=(0,t,c')∧JI c' t (O6 (He n bad) ((n:Int) - 6) n) (He n bad) n 0∧c'.aC=aC∧c'.aP=aP:=by
 have hnb:Lu (Ds (-1) 0 aP aC aB n bad)=false:=(Wx hn).trans hx
 have hI:=A0u (Ds (-1) 0 aP aC aB n bad) (size:=(n:Int) - 6) (by omega) n
 have hu:=Ae5 (aP:=aP) (aC:=aC) (aB:=aB) (bad:=bad) hn
 have hl:(E3 (Ds (-1) 0 aP aC aB n bad)).lost=(Hg (Ds (-1) 0 aP aC aB n bad) ((n:Int) - 6) n).2:=by rw [Aku,Ww hn,H4]
 rw [← Ab0 (by omega) _ n (A6h _),← hl] at hI
 obtain ⟨c',h1,h2⟩:=Ov (after:= -1) (keep:=0) (aP:=aP) (aC:=aC) (aB:=aB) (n:=n) (bad:=bad) (by omega) (by omega) hnb
 rw [hu] at h1 h2
 generalize (E3 (Ds (-1) 0 aP aC aB n bad)).lost=lost at *
 generalize hus:O6 (He n bad) ((n:Int) - 6) n=us at *
 have hbd:∀ x:Int,0≤x→x<n→Mb (Ds (-1) 0 aP aC aB n bad) x=E8 bad x:=fun x h2 h3=>P4 (by omega)
 have hx2:E8 bad 0=false∧E8 bad 1=false∧¬ ((us.length:Int)<(n:Int) - 6):=by
  unfold Xk at hx
  rw [Q3,hus,Nt (by omega),Nt (by omega)] at hx
  simp only [A27,A2m] at hx
  exact ⟨hx.1.1,hx.1.2,hx.2⟩
 obtain ⟨hb0,hb1,hlen⟩:=hx2
 have hlo:∀ x∈lost,2≤x∧x<n:=fun x hx=>by
  have:=hI.ls x hx
  rw [hbd x this.1 this.2.1] at this
  refine ⟨?_,this.2.1⟩
  rcases (show x<2∨2≤x by omega) with h | h
  ·rcases (show x=0∨x=1 by omega) with rfl | rfl
   ·rw [hb0] at this;exact absurd this.2.2 (by simp)
   ·rw [hb1] at this;exact absurd this.2.2 (by simp)
  ·exact h
 have hw:WF n us lost:=⟨hn.1,hn.2,hI.un,by have:=hI.len;omega,fun x hx=>by
  have:=hI.us x hx
  exact ⟨this.1,this.2.1,fun h=>by have h5:=(hI.ls x h).2.2;rw [this.2.2] at h5;cases h5⟩,hI.ln,hlo⟩
 have hrel:RelT ⟨us,lost,1,0,1,0⟩ us (He n bad) n:=⟨rfl,Q3 _ _,fun b h3 h4=>by
  rw [Nt ⟨h3,h4⟩]
  show E8 bad b=E8 lost b
  have hb:=hbd b h3 h4
  cases hh:E8 bad b with
  | true=>rw [hh] at hb;exact (has_mem.2 (hI.lb b h3 h4 hb)).symm
  | false =>
   rw [hh] at hb
   cases h5:E8 lost b with
   | false=>rfl
   | true=>(have:=(hI.ls b (has_mem.1 h5)).2.2;rw [hb] at this;cases this),hI.ln,fun x hx=>by have:=hlo x hx;omega⟩
 have hblk:∀ k<2,(Ds (-1) 0 aP aC aB n bad).blocks[k]? =some (Hf false):=fun k hk=>by
  rw [Iw (by omega)]
  rcases (show k=0∨k=1 by omega) with rfl | rfl
  ·rw [show (((0:Nat):Int))=0 from rfl,hb0]
  ·rw [show (((1:Nat):Int))=1 from rfl,hb1]
 have hlen':c'.blocks.length=n:=by rw [h2,Aic,H4]
 have hc0:c'.blocks[0]? =some ⟨(Hf false).pages.setIfInBounds 0 (Dr 1 n us lost),1,false⟩:=by
  rw [h2]
  exact Vd (by rw [H4];omega)
 have hc1:c'.blocks[1]? =some (Hf false):=by
  rw [h2,Rt (by omega)]
  exact hblk 1 (by omega)
 have hnp:∀ (j:Nat) (h:j<8),(Hf false).pages[j]=Aq:=fun j h=>by simp [Hf]
 have hp0:∀ (j:Nat) (h:j<8),((Hf false).pages.setIfInBounds 0 (Dr 1 n us lost))[j]=if 0=j then Dr 1 n us lost else Aq:=fun j h=>by
  rw [A13]
  split
  ·rfl
  ·exact hnp j h
 have hrp:RP n (Dr 1 n us lost)=some (1,us,lost):=Aim hw.okP
 have hg:c'.off=false∧c'.dead=false∧c'.out=false∧c'.after<0∧c'.pf.list=[]∧c'.wf.list=[]∧c'.pc=1∧c'.wc=0∧c'.aC=aC∧c'.aP=aP:=by
  rw [h2]
  refine ⟨rfl,rfl,rfl,by show (-1:Int)<0;omega,rfl,rfl,?_,rfl,rfl,rfl⟩
  show w64 (0+1)=1
  exact Ij (by omega)
 obtain ⟨g1,g2,g3,g4,g5,g6,g7,g8,g9,g10⟩:=hg
 refine ⟨_,c',h1,⟨⟨g1,g2,g3⟩,⟨0,rfl,⟨?_,by omega,fun k hk=> ?_,fun k hk b hb j hj w u l hr=> ?_,?_⟩,_,hc0,⟨(show (0:Int)≤1 by decide),(show (0:Int)≤0 by decide),(show (0:Int)<8 by decide)⟩,(show (1:Int)≤1 by decide)⟩,hrel,hw,hlen',(show (1#64).toNat≤0+1 by decide),⟨by rw [g7];omega,by rw [g8];omega⟩,g5,g6,g4⟩,g9,g10⟩
 ·rw [hlen'];exact hw.okP
 ·rcases (show k=0∨k=1 by omega) with rfl | rfl
  ·exact ⟨_,hc0,⟨⟨by simp,by simp⟩,fun j hj hle=>by simp only at hle ⊢;rw [hp0 j hj,A6u (by omega)]⟩,rfl⟩
  ·exact ⟨_,hc1,⟨⟨by simp [Hf],by simp [Hf]⟩,fun j hj _=>hnp j hj⟩,rfl⟩
 ·rw [hlen'] at hr
  rcases (show k=0∨k=1 by omega) with rfl | rfl
  ·rw [hc0] at hb
   cases hb
   simp only at hr
   rw [hp0 j hj] at hr
   split at hr
   ·rw [hrp] at hr
    simp only [A4e,A50] at hr
    obtain ⟨rfl,rfl,rfl⟩:=hr
    exact ⟨A6h _,fun _=>⟨rfl,rfl⟩⟩
   ·rw [M2] at hr;cases hr
  ·rw [hc1] at hb
   cases hb
   rw [hnp j hj,M2] at hr;cases hr
 ·refine ⟨_,hc0,0,by omega,?_⟩
  rw [hlen']
  simp only
  rw [hp0 0 (by omega),A6v rfl]
  exact hrp
end
end
section
open Go.K
theorem Asp {c:Chip} {a:Nat} (ha:c.aC=a) (hb:2≤c.blocks.length∧c.blocks.length≤1000):Does Tryz.prog 131 [ptr a] (chH c) (Abo a c):=by subst ha;exact Al4 hb
theorem Az2 {c:Chip} {a:Nat} (ha:c.aC=a) (hb:2≤c.blocks.length∧c.blocks.length≤1000) {t:TS} (ho:Di c=(0,t)):Does Tryz.prog 129 [ptr a] (chH c) (fun v H=>∃ tb:Tab,v= .tuple #[ptr tb.b,.int .i64 0]∧H=Dd a tb++(chH c++[])∧tb.ts=t):=by
 subst ha
 refine (Abn hb).mono fun v H h=> ?_
 unfold Wk at h
 rw [ho,A6v rfl] at h
 exact h
end
section
open Go.K
def PgP (c:Chip) (S:Pg→Prop):Prop:=∀ a<2,∀ b,c.blocks[a]? =some b→∀ (j:Nat) (h:j<8),S b.pages[j]
def PlB (n:Nat) (p:Pg):Prop:=p=Aq∨∃ w u l,OkP n u l∧p=Dr w n u l
end
section
open Go.K
theorem Aww {c:Chip}:Does Tryz.prog 38 [ptr c.aP] (chH c) (Is (.tuple #[]) (chH { c with off:=false,after:= -1 })):=by
 rw [Ez,Ez]
 refine zF 8 Tryz.func38 ?_
 refine zC ?_
 exact zSN
section
variable {P:Program} {E:Env} {H:Hp} {t u:TypeId} {x y:Operand} {i m:Nat}
theorem Q4 (hx:ev E x=some (.int .i64 (i:Nat))) (hy:ev E y=some (.int .i64 (m:Nat))) (hm:m≠0) (hi:i<9223372036854775808):Rd P E H (.binOp .quo t x y u) (.int .i64 ((i / m:Nat):Int)):=fun a w d ty pos af g h1 h2=>by
 have e1:=As h1 hx
 have e2:=As h1 hy
 have e3:¬ (m:Int)=0:=by omega
 have e4:IntKind.i64.wrap ((i:Int).tdiv (m:Int))=((i / m:Nat):Int):=by
  rw [Int.tdiv_eq_ediv_of_nonneg (by omega),← Int.natCast_ediv]
  exact C0 (by have:=Nat.div_le_self i m;have h0:=A3t (i / m);omega)
 simp only [execOp,e1,e2,eqGuard,binOp,Op.intDiv,A6u e3,e4]
 simp
theorem Nu (hx:ev E x=some (.int .i64 (i:Nat))) (hy:ev E y=some (.int .i64 (m:Nat))) (hm:m≠0):Rd P E H (.binOp .rem t x y u) (.int .i64 ((i % m:Nat):Int)):=fun a w d ty pos af g h1 h2=>by
 have e1:=As h1 hx
 have e2:=As h1 hy
 have e3:¬ (m:Int)=0:=by omega
 have e4:(i:Int).tmod (m:Int)=((i % m:Nat):Int):=by
  rw [Int.tmod_eq_emod_of_nonneg (by omega),← Int.natCast_emod]
 simp only [execOp,e1,e2,eqGuard,binOp,Op.intDiv,A6u e3,e4]
 simp
end
end
section
open Go.K
theorem Awx {pp:Nat} {n:Nat} (hn:Js n []=true):Does Tryz.prog 47 [ptr pp,.int .i64 (n:Nat),.slice none 0 0] [(pp,true,C [.bool false,.int .i64 (-1),.int .i64 0] tPw)]
  (fun v H=>∃ aC aB,v= .tuple #[ptr aC,.int .i64 0]∧H=chH (Ds (-1) 0 pp aC aB n [])++[]):=by
 have h:=Aid (pp:=pp) (n:=(n:Int)) (s:= .nil) (T:=tI)
 rw [Sl.hp_nil] at h
 refine h.mono fun v H hh=> ?_
 rcases hh with ⟨aC,aB,h1,h2,_⟩ | ⟨_,_,h3⟩
 ·exact ⟨aC,aB,h1,h2⟩
 ·rw [show (Sl.nil:Sl Int).list=[] from rfl,hn] at h3;cases h3
theorem A1j {pp aC aB n:Nat} {bad:List Int} {t:TS} {c':Chip} {k:Nat} {u:List Int} {l:List Bool} (hn:16≤n∧n≤40) (hx:Xk (He n bad)=false) (hf:Dz (Ds (-1) 0 pp aC aB n bad)=(0,t,c')) (hJ:JI c' t u l n k):PgP c' (PlB n):=by
 obtain ⟨c2,h1,h2⟩:=Ov (after:= -1) (keep:=0) (aP:=pp) (aC:=aC) (aB:=aB) (n:=n) (bad:=bad) (by omega) (by omega) ((Wx hn).trans hx)
 rw [h1] at hf
 obtain ⟨_,rfl,rfl⟩:=hf
 have hok:=hJ.wf.okP
 generalize (E3 (Ds (-1) 0 pp aC aB n bad)).uses=us at *
 generalize (E3 (Ds (-1) 0 pp aC aB n bad)).lost=lost at *
 intro a ha b hb j hj
 rw [h2] at hb
 rcases (show a=0∨a=1 by omega) with rfl | rfl
 ·rw [Vd (by rw [H4];omega)] at hb
  cases hb
  rw [A13]
  split
  ·exact .inr ⟨1,us,lost,hok,rfl⟩
  ·refine .inl ?_
   simp [Hf]
 ·rw [Rt (by omega),Iw (by omega)] at hb
  cases hb
  refine .inl ?_
  simp [Hf]
end
section
open Go.K
def onC (c:Chip):Chip:={ c with off:=false,after:= -1 }
def Xj (c:Chip) (a k:Int):Chip:={ c with after:=max a (-1),keep:=k }
theorem Hold.same {c c':Chip} {v:Nat} {u l:List Int} {a:Nat} (h:Hold c v u l a) (hb:c'.blocks=c.blocks):Hold c' v u l a :=
 ⟨by rw [hb];exact h.ok,h.a2,by rw [hb];exact h.bs,by rw [hb];exact h.le,by rw [hb];exact h.ex⟩
theorem TI.same {c c':Chip} {t:TS} (h:TI c t) (hb:c'.blocks=c.blocks):TI c' t:=by
 obtain ⟨a,h1,h2,h3⟩:=h
 exact ⟨a,h1,h2.same hb,by rw [hb];exact h3⟩
theorem Aso {c:Chip}:Does Tryz.prog 38 [ptr c.aP] (chH c) (Is (.tuple #[]) (chH (onC c))):=Aww
theorem Amh {c:Chip} {a k:Int}:Does Tryz.prog 36 [ptr c.aP,.int .i64 a,.int .i64 k] (chH c) (Is (.tuple #[]) (chH (Xj c a k))):=Ayr
end
section
open Go.K
instance agg73:Agg Tryz.prog 73 false:=⟨⟨_,Tryz.underlying73,rfl⟩⟩
instance fld75_0:Fld Tryz.prog 75 0 0:=⟨⟨_,_,0,Tryz.underlying75,rfl,by kernel_rfl,rfl⟩⟩
instance fld75_1:Fld Tryz.prog 75 1 1:=⟨⟨_,_,0,Tryz.underlying75,rfl,by kernel_rfl,rfl⟩⟩
abbrev tDk:TypeId:=75
def atD (t:TS) (b:Int):Int:=if (atT t b).2=true then (atT t b).1 else -1
def D1 (p:Pg):Pg:=if (Bf p).2.2.2≠0∨(Bf p).2.2.1=0 then p else (Cw (Bf p).1 (Bf p).2.1).1
section
variable {c:Chip} {t:Tab} {a dk:Nat}
theorem Ae6 {b:Int}:Does Tryz.prog 141 [ptr dk,.int .i64 b] ((dk,true,C [ptr a,ptr t.b] tDk)::(Dd a t++[])) (Is (.int .i64 (atD t.ts b)) ((dk,true,C [ptr a,ptr t.b] tDk)::(Dd a t++[]))):=by
 refine zF 19 Tryz.func141 ?_
 refine zC ?_
 refine zI rfl (Axa (a:=a) (t:=t)) ?_
 refine zC ?_
 refine Aa rfl (fun c17=> ?_) (fun c17=> ?_)
 ·skip
  have hres:atD t.ts b= -1:=(by unfold atD;rw [A6u (by grind)])
  refine zC ?_
  refine Ak (Aw Tryz.results141 (Af rfl)) ?_ sP
  rw [hres]
 ·skip
  have hres:atD t.ts b=(atT t.ts b).1:=(by unfold atD;rw [A6v (by grind)])
  refine zC ?_
  refine Ak (Aw Tryz.results141 (Af rfl)) ?_ sP
  rw [hres]
theorem Asu:Does Tryz.prog 66 [ptr dk] ((dk,true,C [ptr a,ptr t.b] tDk)::(Dd a t++[])) (Is (.int .i64 t.u.list.length) ((dk,true,C [ptr a,ptr t.b] tDk)::(Dd a t++[]))):=by
 refine zF 8 Tryz.func66 ?_
 refine zC ?_
 refine zI rfl (Av6 (a:=a) (t:=t)) ?_
 refine zC ?_
 exact zS
theorem Ab3 (ha:c.aC=a) {b k:Int}:Does Tryz.prog 100 [ptr dk,.int .i64 b,.int .i64 k] ((dk,true,C [ptr a,ptr t.b] tDk)::(Dd a t++(chH c++[])))
  (Is (.tuple #[.agg (vbc (B3 c (atD t.ts b) k)).toArray,.int .i64 (B0 c (atD t.ts b) k)]) ((dk,true,C [ptr a,ptr t.b] tDk)::(Dd a t++(chH c++[])))):=by
 refine zF 19 Tryz.func100 ?_
 refine zC ?_
 refine Ah rfl (fun b6=> ?_)
 rw [Cc]
 refine zC ?_
 refine At [(8,[(0,false),(1,false),(2,false),(3,false),(4,false),(5,false),(7,false),(6,true)]),(11,[(8,true),(9,false),(10,false)]),(12,[(11,true)]),(13,[(12,false)])] (by kernel_rfl) ?_
 refine zC ?_
 refine zI rfl (Ae6 (a:=a) (t:=t) (dk:=dk)) ?_
 refine zC ?_
 refine zI rfl (Arb ha) ?_
 refine zA ?_
 refine Ac rfl rfl uD (B9) (Ai) (Bi (by first | exact Ai | exact A20 ..)) ?_
 refine zC ?_
 refine Ak (Dj Tryz.results100 (Bc rfl mM (by exact Ax)) (Af rfl)) ?_ sP
 rfl
theorem Ajk {p:Pg}:Does Tryz.prog 242 [.agg (vbc p).toArray] [] (Is (.agg (vbc (D1 p)).toArray) []):=by
 refine zF 29 Tryz.func242 ?_
 refine zC ?_
 refine Do rfl rfl (fun b1=> ?_)
 refine Ah rfl (fun b2=> ?_)
 rw [Cc]
 refine zA ?_
 refine Ae (Ao rfl mM (by exact Ax)) rfl ?_
 refine zE rfl (Ka (p:=p)) ?_
 rintro _ _ ⟨s,rfl,rfl,hs,ho⟩
 refine zW ?_
 refine Aa rfl (fun c19=> ?_) (fun c19=> ?_)
 ·skip
  have hres:D1 p=p:=(by unfold D1;rw [A6v (by grind)])
  refine zA ?_
  refine Ae (Ao rfl mM (by exact Ax)) rfl ?_
  refine Ac rfl rfl uD (B9) (Ai) (Bi (by first | exact Ai | exact A20 ..)) ?_
  refine zC ?_
  refine Ak (Aw Tryz.results242 (Bc rfl mM (by exact Ax))) ?_ sP
  rw [hres]
 ·skip
  have hres:D1 p=(Cw (Bf p).1 (Bf p).2.1).1:=(by unfold D1;rw [A6u (by grind)])
  refine zC ?_
  refine Am rfl rfl rfl rfl (fun b24=> ?_)
  refine zI rfl (J9 (kind:=(Bf p).1) (s:=s) (by have:=Sb p;rw [hs];omega)) ?_
  refine zA ?_
  refine Ac rfl rfl uD (B9) (Ai) (Bi (by first | exact Ai | exact A20 ..)) ?_
  refine zA ?_
  refine Ae (Ao rfl mM (by exact Ax)) rfl ?_
  refine Ac rfl rfl uD (B9) (Ai) (Bi (by first | exact Ai | exact A20 ..)) ?_
  refine zC ?_
  refine Ak (Aw Tryz.results242 (Bc rfl mM (by exact Ax))) ?_ sP
  rw [hres,← hs]
end
end
section
open Go.K
instance und297:Und Tryz.prog 297 (.slice 147):=⟨Tryz.underlying297⟩
theorem Asv (p:Pg):((vbc p).all (·.oneCell'))=true:=by
 rw [A4l]
 intro x hx
 obtain ⟨y,_,rfl⟩:=A53.1 hx
 rfl
instance:Cel Pg:=⟨258,vbc,fun _=>Ai,Asv⟩
def E9 (c:Chip) (src to':Int) (i:Int):Int×Chip:=if B0 c src i=0 then Bl c to' i (D1 (B3 c src i)) else (B0 c src i,c)
def Fq:Nat→Chip→Int→Int→Int→Int×Chip
 | 0,c,_,_,_=>(0,c)
 | f+1,c,src,to',i=>if (E9 c src to' i).1≠0 then E9 c src to' i else Fq f (E9 c src to' i).2 src to' (i+1)
def Md:List Pg→Chip→Int→Int→Int×Chip
 | [],c,_,_=>(0,c)
 | p::ps,c,to',i=>if (Bl c to' i p).1≠0 then Bl c to' i p else Md ps (Bl c to' i p).2 to' (i+1)
def fillC (c:Chip) (src to':Int) (count:Nat) (more:List Pg):Int×Chip :=
 if (Fq count c src to' 0).1≠0 then Fq count c src to' 0 else Md more (Fq count c src to' 0).2 to' count
theorem Ab4 (c:Chip) (src to' i:Int):(E9 c src to' i).2.aC=c.aC:=by
 unfold E9
 split
 ·exact F9 _ _ _ _
 ·rfl
theorem Az3 {l:List Pg} {i:Nat} {p:Pg} (h:l[i]? =some p):l.drop i=p::l.drop (i+1):=by
 obtain ⟨h1,h2⟩:=List.getElem?_eq_some_iff.1 h
 rw [A2d h1,h2]
section
variable {c:Chip} {t:Tab} {a dk:Nat}
theorem Asw (ha:c.aC=a) {b to':Int} {count:Nat} {more:Sl Pg} (hc:count≤8) (hm:more.list.length≤1000) :
  Does Tryz.prog 230 [ptr dk,.int .i64 b,.int .i64 to',.int .i64 (count:Nat),more.val] ((dk,true,C [ptr a,ptr t.b] tDk)::(Dd a t++(chH c++(more.hp tPg++[]))))
  (Is (.int .i64 (fillC c (atD t.ts b) to' count more.list).1) ((dk,true,C [ptr a,ptr t.b] tDk)::(Dd a t++(chH (fillC c (atD t.ts b) to' count more.list).2++(more.hp tPg++[]))))):=by
 refine zF 64 Tryz.func230 ?_
 refine zC ?_
 refine Ar [0,1,2,3,4,17] kQ (fun (st:Nat×Chip)=>[(18,.int .i64 st.1)]) (fun st=>(dk,true,C [ptr a,ptr t.b] tDk)::(Dd a t++(chH st.2++(more.hp tPg++[])))) (fun st=>st.1≤count∧st.2.aC=a∧Fq (count - st.1) st.2 (atD t.ts b) to' st.1=Fq count c (atD t.ts b) to' 0) (fun st=>count - st.1) ((0,c)) ⟨A6j _,ha,rfl⟩ kP sP ?_
 rintro ⟨i,c1⟩ ⟨h0,h1,h2⟩
 refine zC ?_
 refine Aa rfl (fun c19=> ?_) (fun c19=> ?_)
 ·simp only [A4f] at c19
  have hgo:Fq (count - i) c1 (atD t.ts b) to' i=if (E9 c1 (atD t.ts b) to' i).1≠0 then E9 c1 (atD t.ts b) to' i else Fq (count - (i+1)) (E9 c1 (atD t.ts b) to' i).2 (atD t.ts b) to' ((i:Int)+1):=(by rw [show count - i=(count - (i+1))+1 by omega];rfl)
  rw [h2] at hgo
  refine zC ?_
  refine zI rfl (Ab3 (c:=c1) (t:=t) (dk:=dk) h1) ?_
  refine zC ?_
  refine Ah rfl (fun b12=> ?_)
  refine Ac rfl rfl uD (B9) (Ai) (Bi (by first | exact Ai | exact A20 ..)) ?_
  refine zC ?_
  refine Aa rfl (fun c29=> ?_) (fun c29=> ?_)
  ·skip
   have hf1:E9 c1 (atD t.ts b) to' i=Bl c1 to' i (D1 (B3 c1 (atD t.ts b) i)):=(by unfold E9;rw [A6v (by grind)])
   refine At [(8,[(0,false),(1,false),(2,false),(3,false),(4,false),(5,false),(6,false),(7,true)]),(9,[(8,true)]),(10,[(9,false)])] (by kernel_rfl) ?_
   iterate 7 refine sb ?_
   refine Aj (Ao rfl mM (by exact Ax)) ?_
   refine zC ?_
   refine zI rfl (Ajk (p:=B3 c1 (atD t.ts b) i)) ?_
   refine zC ?_
   refine zI rfl (Np (c:=c1) h1) ?_
   refine zC ?_
   refine Aa rfl (fun c40=> ?_) (fun c40=> ?_)
   ·skip
    have hres:fillC c (atD t.ts b) to' count more.list=E9 c1 (atD t.ts b) to' i:=(by have hne:(E9 c1 (atD t.ts b) to' i).1≠0:=(by rw [hf1];grind);rw [A6v hne] at hgo;unfold fillC;rw [hgo,A6v hne])
    rw [hf1] at hres
    refine zC ?_
    refine Ak (Aw Tryz.results230 (Af rfl)) ?_ (by rw [hres];exact sP)
    rw [hres]
   ·skip
    have hz:(E9 c1 (atD t.ts b) to' i).1=0:=(by rw [hf1];grind)
    rw [A6u (by rw [hz];simp),hf1] at hgo
    refine zC ?_
    exact ⟨(i+1,(Bl c1 to' i (D1 (B3 c1 (atD t.ts b) i))).2),⟨by simp only;omega,(F9 _ _ _ _).trans h1,by simp only;exact hgo.symm⟩,by simp only;omega,lZ⟩
  ·skip
   have hf1:E9 c1 (atD t.ts b) to' i=(B0 c1 (atD t.ts b) i,c1):=(by unfold E9;rw [A6u (by grind)])
   refine zC ?_
   refine Aa rfl (fun c40=> ?_) (fun c40=> ?_)
   ·skip
    have hres:fillC c (atD t.ts b) to' count more.list=E9 c1 (atD t.ts b) to' i:=(by have hne:(E9 c1 (atD t.ts b) to' i).1≠0:=(by rw [hf1];grind);rw [A6v hne] at hgo;unfold fillC;rw [hgo,A6v hne])
    rw [hf1] at hres
    refine zC ?_
    refine Ak (Aw Tryz.results230 (Af rfl)) ?_ (by rw [hres];exact sP)
    rw [hres]
   ·skip
    have hz:(E9 c1 (atD t.ts b) to' i).1=0:=(by rw [hf1];grind)
    rw [A6u (by rw [hz];simp),hf1] at hgo
    grind
 ·simp only [ A2m] at c19
  have hic:i=count:=(by omega)
  subst hic
  have hz:Fq i c (atD t.ts b) to' 0=(0,c1):=(by rw [← h2,A59];rfl)
  refine zC ?_
  refine Ar [0,2,3,43,44] kQ (fun (st:Nat×Chip)=>[(45,.int .i64 st.1)]) (fun st=>(dk,true,C [ptr a,ptr t.b] tDk)::(Dd a t++(chH st.2++(more.hp tPg++[])))) (fun st=>st.1≤more.list.length∧st.2.aC=a∧Md (more.list.drop st.1) st.2 to' ((i:Int)+st.1)=Md more.list c1 to' i) (fun st=>more.list.length - st.1) ((0,c1)) ⟨A6j _,h1,by simp⟩ kP sP ?_
  rintro ⟨j,c2⟩ ⟨k0,k1,k2⟩
  refine zC ?_
  refine Aa rfl (fun c46=> ?_) (fun c46=> ?_)
  ·simp only [A4f] at c46
   obtain ⟨p,hg⟩:∃ p,more.list[j]? =some p:=⟨_,A2i (by omega)⟩
   rw [Az3 hg] at k2
   refine zA ?_
   refine Ae (Az rfl rfl (by omega)) rfl ?_
   refine Ae (Cq (o:=0) rfl pL hg Ax rfl) rfl ?_
   refine Ah rfl (fun b15=> ?_)
   refine zA ?_
   refine Ac rfl rfl uD (B9) (Ai) (Bi (by first | exact Ai | exact A20 ..)) ?_
   refine zC ?_
   refine At [(9,[(0,false),(1,false),(2,false),(3,false),(4,false),(5,false),(6,false),(7,false),(8,false)]),(10,[(9,true)]),(11,[(10,false)])] (by kernel_rfl) ?_
   iterate 8 refine sb ?_
   refine Aj (B5 rfl rfl (by omega)) ?_
   refine Aj (Ao rfl mM (by exact Ax)) ?_
   refine zC ?_
   refine zI rfl (Np (c:=c2) k1) ?_
   refine zC ?_
   refine Aa rfl (fun c61=> ?_) (fun c61=> ?_)
   ·skip
    have hres:fillC c (atD t.ts b) to' i more.list=Bl c2 to' ((i:Int)+j) p:=(by have hne:(Bl c2 to' ((i:Int)+j) p).1≠0:=(by grind);unfold fillC;rw [hz,A6u (by simp),← k2];exact A6v hne)
    refine zC ?_
    refine Ak (Aw Tryz.results230 (Af rfl)) ?_ (by rw [hres];exact sP)
    rw [hres]
   ·skip
    have hk:Md (more.list.drop (j+1)) (Bl c2 to' ((i:Int)+j) p).2 to' ((i:Int)+j+1)=Md more.list c1 to' i:=(by rw [← k2];exact (A6u (by grind)).symm)
    refine zC ?_
    exact ⟨(j+1,(Bl c2 to' ((i:Int)+j) p).2),⟨by omega,(F9 _ _ _ _).trans k1,by grind⟩,(by omega),lZ⟩
  ·simp only [ A2m] at c46
   have hres:fillC c (atD t.ts b) to' i more.list=(0,c2):=(by unfold fillC;rw [hz,A6u (by simp),← k2,A2q (by omega)];rfl)
   refine zC ?_
   refine Ak (Aw Tryz.results230 (Af rfl)) ?_ (by rw [hres];exact sP)
   rw [hres]
end
end
section
open Go.K
theorem T6 (c:Chip) (src to' i:Int):Ge (E9 c src to' i).2=Ge c:=by
 unfold E9
 split
 ·exact Ix _ _ _ _
 ·rfl
theorem Sj (src to':Int):∀ (f:Nat) (c:Chip) (i:Int),Ge (Fq f c src to' i).2=Ge c∧(Fq f c src to' i).2.aC=c.aC
 | 0,c,i=>⟨rfl,rfl⟩
 | f+1,c,i=>by
  unfold Fq
  split
  ·exact ⟨T6 _ _ _ _,Ab4 _ _ _ _⟩
  ·obtain ⟨h1,h2⟩:=Sj src to' f (E9 c src to' i).2 (i+1)
   exact ⟨h1.trans (T6 _ _ _ _),h2.trans (Ab4 _ _ _ _)⟩
theorem T7 (to':Int):∀ (ps:List Pg) (c:Chip) (i:Int),Ge (Md ps c to' i).2=Ge c∧(Md ps c to' i).2.aC=c.aC
 | [],c,i=>⟨rfl,rfl⟩
 | p::ps,c,i=>by
  unfold Md
  split
  ·exact ⟨Ix _ _ _ _,F9 _ _ _ _⟩
  ·obtain ⟨h1,h2⟩:=T7 to' ps (Bl c to' i p).2 (i+1)
   exact ⟨h1.trans (Ix _ _ _ _),h2.trans (F9 _ _ _ _)⟩
theorem Ae7 (c:Chip) (src to':Int) (count:Nat) (more:List Pg):Ge (fillC c src to' count more).2=Ge c∧(fillC c src to' count more).2.aC=c.aC:=by
 obtain ⟨h1,h2⟩:=Sj src to' count c 0
 unfold fillC
 split
 ·grind
 ·obtain ⟨h3,h4⟩:=T7 to' more (Fq count c src to' 0).2 count
  grind
def J6 (c:Chip) (src to':Int) (count:Nat) (more:List Pg):Int×Chip:=if (Bm c to').1=0 then fillC (Bm c to').2 src to' count more else Bm c to'
theorem Xl (c:Chip) (src to':Int) (count:Nat) (more:List Pg):Ge (J6 c src to' count more).2=Ge c∧(J6 c src to' count more).2.aC=c.aC:=by
 unfold J6
 split
 ·obtain ⟨h1,h2⟩:=Ae7 (Bm c to').2 src to' count more
  exact ⟨h1.trans (Jb _ _),h2.trans (Ie _ _)⟩
 ·exact ⟨Jb _ _,Ie _ _⟩
inductive MoveR (n:Nat) (block:Int) (count:Nat) (more:List Pg):Chip→TS→Int×TS×Chip→Prop
 | none {c:Chip} {t:TS}:(Be t n).2=false→MoveR n block count more c t (34,t,c)
 | err {c:Chip} {t:TS} {e:Int} {c':Chip}:(Be t n).2=true→J6 c (atD t block) (Be t n).1 count more=(e,c')→e≠0→e≠33→MoveR n block count more c t (e,t,c')
 | swap {c:Chip} {t:TS} {c':Chip} {r:Int×TS×Chip}:(Be t n).2=true→J6 c (atD t block) (Be t n).1 count more=(0,c')→Aw5 t c' block (Be t n).1 r→MoveR n block count more c t r
 | bad {c:Chip} {t:TS} {c':Chip} {e:Int} {t':TS} {c'':Chip}:(Be t n).2=true→J6 c (atD t block) (Be t n).1 count more=(33,c')→Aie t c' (Be t n).1 (e,t',c'')→e≠0→MoveR n block count more c t (e,t',c'')
 | again {c:Chip} {t:TS} {c':Chip} {t':TS} {c'':Chip} {r:Int×TS×Chip}:(Be t n).2=true→J6 c (atD t block) (Be t n).1 count more=(33,c')→Aie t c' (Be t n).1 (0,t',c'')→MoveR n block count more c'' t' r→MoveR n block count more c t r
structure WT (n:Nat) (t:TS):Prop where
 wf:WF n t.uses t.lost
 next:0≤t.next
 area:0≤t.area∧t.area≤1
theorem Ae8 {t:TS} {u l:List Int} {c:Chip} (h:(Bt t u l c).1=0):(Bt t u l c).2.1.uses=u∧(Bt t u l c).2.1.lost=l:=by
 unfold Bt at h ⊢
 grind
theorem J7 {t:TS} {n:Nat} (h:(Be t n).2=true):D6 t n (Be t n).1=true:=by
 unfold Be at h ⊢
 cases h2:Lw t n with
 | none=>rw [h2] at h;cases h
 | some b =>
  unfold Lw at h2
  grind
theorem WT.lost {n:Nat} {t:TS} {c c':Chip} {t':TS} (h:WT n t) (hn:c.blocks.length=n) (hs:(Be t n).2=true) (hd:Aie t c (Be t n).1 (0,t',c')):WT n t'∧t'.lost.length=t.lost.length+1∧Ge c'=Ge c∧c'.aC=c.aC:=by
 have hb:=J7 hs
 obtain ⟨l,hp,he⟩:=hd.1 (by rw [hn];exact hb)
 have h0:(Bt t t.uses l c).1=0:=by rw [← he]
 have ht:t'=(Bt t t.uses l c).2.1:=by rw [← he]
 have hc:c'=(Bt t t.uses l c).2.2:=by rw [← he]
 obtain ⟨h1,h2⟩:=Ae8 h0
 rw [← ht] at h1 h2
 have hk:=At9 t t.uses l c h.next h.area
 rw [← ht] at hk
 refine ⟨⟨by rw [h1,h2];exact h.wf.lose hb hp,?_,?_⟩,by rw [h2,hp.length_eq];simp,by rw [hc];exact Af6 _ _ _ _,by rw [hc];exact Vf _ _ _ _⟩
 ·rcases hk with e | ⟨_,_,e,_⟩
  ·rw [e];exact h.next
  ·exact e
 ·rcases hk with e | ⟨_,_,_,e⟩
  ·rw [e];exact h.area
  ·exact e
theorem WT.tab {n:Nat} {t:Tab} (h:WT n t.ts):t.u.list.length≤1000∧t.l.list.length≤4∧0≤t.next∧(0≤t.area∧t.area≤1):=by
 have h1:=h.wf.n2
 have h2:t.u.list.length+6=n:=h.wf.len
 have h3:t.l.list.length≤4:=h.wf.lost4
 exact ⟨by omega,h3,h.next,h.area⟩
section
variable {c:Chip} {t:Tab} {a dk n:Nat}
theorem Ahj (ha:c.aC=a) (hn:c.blocks.length=n) (hw:WT n t.ts) {b:Int} {count:Nat} {more:Sl Pg} (hc:count≤8) (hm:more.list.length≤1000) :
  Does Tryz.prog 208 [ptr dk,.int .i64 b,.int .i64 (count:Nat),more.val] ((dk,true,C [ptr a,ptr t.b] tDk)::(Dd a t++(chH c++(more.hp tPg++[]))))
  (fun v H=>∃ (t':Tab) (e:Int) (c':Chip),t'.b=t.b∧v= .int .i64 e∧H=(dk,true,C [ptr a,ptr t'.b] tDk)::(Dd a t'++(chH c'++(more.hp tPg++[])))∧c'.aC=a∧MoveR n b count more.list c t.ts (e,t'.ts,c')):=by
 refine zF 57 Tryz.func208 ?_
 refine zC ?_
 refine Ar [0,1,2,3] kQ (fun (st:Tab×Chip)=>[]) (fun st=>(dk,true,C [ptr a,ptr st.1.b] tDk)::(Dd a st.1++(chH st.2++(more.hp tPg++[])))) (fun st=>st.1.b=t.b∧st.2.aC=a∧st.2.blocks.length=n∧WT n st.1.ts∧∀ r,MoveR n b count more.list st.2 st.1.ts r→MoveR n b count more.list c t.ts r) (fun st=>5 - st.1.l.list.length) ((t,c)) ⟨rfl,ha,hn,hw,fun r h=>h⟩ kP sP ?_
 rintro ⟨t1,c1⟩ ⟨h0,h1,h2,h3,h4⟩
 simp only at h0 h1 h2 h3 h4
 obtain ⟨w1,w2,w3,w4⟩:=h3.tab
 refine zC ?_
 refine zI rfl ((Al2 (t:=t1) (c:=c1) h1 (by have:=h3.wf.n2;omega)).to (by rw [h2]) rfl) ?_
 refine zC ?_
 refine Aa rfl (fun c21=> ?_) (fun c21=> ?_)
 ·skip
  have hs:(Be t1.ts n).2=false:=(by simpa using c21)
  refine zC ?_
  exact Bb (Aw Tryz.results208 (Af rfl)) (by exact ⟨t1,34,c1,h0,rfl,rfl,h1,h4 _ (.none hs)⟩) (by first | (rw [hb'];exact sP) | exact sP)
 ·skip
  have hs:(Be t1.ts n).2=true:=(by simpa using c21)
  refine zC ?_
  refine zI rfl (Abm (c:=c1) h1) ?_
  iterate 3 refine sa ?_
  refine Rr [0,1,2,3,9] kQ ([(11,.int .i64 (J6 c1 (atD t1.ts b) (Be t1.ts n).1 count more.list).1)]) ((dk,true,C [ptr a,ptr t1.b] tDk)::(Dd a t1++(chH (J6 c1 (atD t1.ts b) (Be t1.ts n).1 count more.list).2++(more.hp tPg++[])))) ?_ ?_
  ·refine zC ?_
   refine Aa rfl (fun c29=> ?_) (fun c29=> ?_)
   ·skip
    have htr:J6 c1 (atD t1.ts b) (Be t1.ts n).1 count more.list=fillC (Bm c1 (Be t1.ts n).1).2 (atD t1.ts b) (Be t1.ts n).1 count more.list:=(by unfold J6;rw [A6v (by simpa using c29)])
    refine zC ?_
    refine zI rfl (Asw (c:=(Bm c1 (Be t1.ts n).1).2) (t:=t1) (dk:=dk) (to':=(Be t1.ts n).1) ((Ie _ _).trans h1) hc hm) ?_
    refine zC ?_
    try refine Ag ?_
    rw [htr];exact cZ rfl
   ·skip
    have htr:J6 c1 (atD t1.ts b) (Be t1.ts n).1 count more.list=Bm c1 (Be t1.ts n).1:=(by unfold J6;rw [A6u (by simpa using c29)])
    refine zC ?_
    try refine Ag ?_
    rw [htr];exact cZ rfl
  refine zC ?_
  refine Aa rfl (fun c37=> ?_) (fun c37=> ?_)
  ·skip
   obtain ⟨hTb,hTa⟩:=Xl c1 (atD t1.ts b) (Be t1.ts n).1 count more.list
   generalize hT:J6 c1 (atD t1.ts b) (Be t1.ts n).1 count more.list=T at *
   have hTl:T.2.blocks.length=n:=(Ks hTb).trans h2
   have hTa':T.2.aC=a:=hTa.trans h1
   have hT0:J6 c1 (atD t1.ts b) (Be t1.ts n).1 count more.list=(0,T.2):=(by rw [hT];exact Prod.ext (by simpa using c37) rfl)
   refine zC ?_
   refine zE rfl (Ao0 (c:=T.2) (t:=t1) hTa' w1 (by omega) w3 w4) ?_
   rintro _ _ ⟨t',e,c',hb',rfl,rfl,ha',hd⟩
   refine zW ?_
   exact Bb (Aw Tryz.results208 (Af rfl)) (by first | exact ⟨t',e,c',hb'.trans h0,rfl,rfl,ha',h4 _ (.swap hs hT0 hd)⟩ | exact ⟨t',e,c',hb'.trans h0,rfl,rfl,ha',h4 _ (.bad hs hT3 hd (by simpa using c55))⟩ | exact ⟨t1,T.1,T.2,h0,rfl,rfl,hTa',h4 _ (.err hs hT hTn hTn3)⟩) (by first | (rw [hb'];exact sP) | exact sP)
  ·skip
   obtain ⟨hTb,hTa⟩:=Xl c1 (atD t1.ts b) (Be t1.ts n).1 count more.list
   generalize hT:J6 c1 (atD t1.ts b) (Be t1.ts n).1 count more.list=T at *
   have hTl:T.2.blocks.length=n:=(Ks hTb).trans h2
   have hTa':T.2.aC=a:=hTa.trans h1
   have hTn:T.1≠0:=(by simpa using c37)
   refine zC ?_
   refine Aa rfl (fun c46=> ?_) (fun c46=> ?_)
   ·skip
    have hT3:J6 c1 (atD t1.ts b) (Be t1.ts n).1 count more.list=(33,T.2):=(by rw [hT];exact Prod.ext (by simpa using c46) rfl)
    refine zC ?_
    refine zE rfl (Aoz (c:=T.2) (t:=t1) hTa' w1 (by omega) w3 w4) ?_
    rintro _ _ ⟨t',e,c',hb',rfl,rfl,ha',hd⟩
    refine zW ?_
    refine Aa rfl (fun c55=> ?_) (fun c55=> ?_)
    ·skip
     refine zC ?_
     exact Bb (Aw Tryz.results208 (Af rfl)) (by first | exact ⟨t',e,c',hb'.trans h0,rfl,rfl,ha',h4 _ (.swap hs hT0 hd)⟩ | exact ⟨t',e,c',hb'.trans h0,rfl,rfl,ha',h4 _ (.bad hs hT3 hd (by simpa using c55))⟩ | exact ⟨t1,T.1,T.2,h0,rfl,rfl,hTa',h4 _ (.err hs hT hTn hTn3)⟩) (by first | (rw [hb'];exact sP) | exact sP)
    ·skip
     try (exfalso;(rw [c37] at c55;cases c55);done)
     all_goals
      have he0:e=0:=(by simpa using c55)
      rw [he0] at hd
      obtain ⟨l1,l2,l3,l4⟩:=h3.lost hTl hs hd
      refine zC ?_
      exact ⟨(t',c'),⟨hb'.trans h0,ha',(Ks l3).trans hTl,l1,fun r hr=>h4 r (.again hs hT3 hd hr)⟩,(by have h5:t'.l.list.length=t1.l.list.length+1:=l2;simp only;omega),kP,kP,_,(by simp only;rw [hb'];exact sP)⟩
   ·skip
    have hTn3:T.1≠33:=(by simpa using c46)
    refine zC ?_
    refine Aa rfl (fun c55=> ?_) (fun c55=> ?_)
    ·skip
     refine zC ?_
     exact Bb (Aw Tryz.results208 (Af rfl)) (by first | exact ⟨t',e,c',hb'.trans h0,rfl,rfl,ha',h4 _ (.swap hs hT0 hd)⟩ | exact ⟨t',e,c',hb'.trans h0,rfl,rfl,ha',h4 _ (.bad hs hT3 hd (by simpa using c55))⟩ | exact ⟨t1,T.1,T.2,h0,rfl,rfl,hTa',h4 _ (.err hs hT hTn hTn3)⟩) (by first | (rw [hb'];exact sP) | exact sP)
    ·skip
     try (exfalso;(rw [c37] at c55;cases c55);done)
     all_goals
      have he0:e=0:=(by simpa using c55)
      rw [he0] at hd
      obtain ⟨l1,l2,l3,l4⟩:=h3.lost hTl hs hd
      refine zC ?_
      exact ⟨(t',c'),⟨hb'.trans h0,ha',(Ks l3).trans hTl,l1,fun r hr=>h4 r (.again hs hT3 hd hr)⟩,(by have h5:t'.l.list.length=t1.l.list.length+1:=l2;simp only;omega),kP,kP,_,(by simp only;rw [hb'];exact sP)⟩
end
end
section
open Go.K
theorem Ahk {c:Chip} {i j:Int} {d:Pg} (h:(Bl c i j d).1=33):0≤j∧j<8:=by
 by_cases hm:B0 c i j=0
 ·have:=Aaq hm;omega
 ·rw [Adl hm] at h
  unfold B0 at h
  omega
theorem Ajl (p:Pg):P1 (List.replicate 258 (Value.int .u8 0)).length (Gd 1 (List.replicate 258 (.int .u8 0))) [(0,.agg (vbc p).toArray)]=some (vbc p):=by
 have h1:Nat.beq (Value.agg (vbc p).toArray).cells.toList.length 258=true:=by
  show Nat.beq (vbc p).length 258=true
  rw [Ai];rfl
 have h2:A7 (Gd 1 (List.replicate 258 (.int .u8 0))) (0*258) (Value.agg (vbc p).toArray).cells.toList=some (vbc p):=by
  show A7 (List.replicate 258 (.int .u8 0)++[]) 0 (vbc p)=some (vbc p)
  rw [A42]
  exact Bi (A20 ..)
 rw [A20]
 unfold P1
 rw [h1,cond_true,h2]
 rfl
def Sk (n:Nat) (b k:Int) (p:Pg) (c:Chip) (t:TS) (r:Int×TS×Chip):Prop :=
 ((Bl c (atD t b) k p).1=33→MoveR n b k.toNat [p] (Bl c (atD t b) k p).2 t r)∧((Bl c (atD t b) k p).1≠33→r=((Bl c (atD t b) k p).1,t,(Bl c (atD t b) k p).2))
def Q7 (n:Nat) (b:Int) (c:Chip) (t:TS) (r:Int×TS×Chip):Prop :=
 ((Bm c (atD t b)).1=33→MoveR n b 0 [] (Bm c (atD t b)).2 t r)∧((Bm c (atD t b)).1≠33→r=((Bm c (atD t b)).1,t,(Bm c (atD t b)).2))
section
variable {c:Chip} {t:Tab} {a dk n:Nat}
theorem Aml (ha:c.aC=a) (hn:c.blocks.length=n) (hw:WT n t.ts) {b:Int} {count mb:Nat} {p:Pg} (hc:count≤8) :
  Does Tryz.prog 208 [ptr dk,.int .i64 b,.int .i64 (count:Nat),.slice (some ⟨mb,0,none⟩) 1 1] ((dk,true,C [ptr a,ptr t.b] tDk)::(Dd a t++(chH c++[(mb,true,C (vbc p) tPg)])))
  (fun v H=>∃ (t':Tab) (e:Int) (c':Chip),t'.b=t.b∧v= .int .i64 e∧H=(dk,true,C [ptr a,ptr t'.b] tDk)::(Dd a t'++(chH c'++[(mb,true,C (vbc p) tPg)]))∧c'.aC=a∧MoveR n b count [p] c t.ts (e,t'.ts,c')):=by
 have h:=Ahj (dk:=dk) (b:=b) (more:=(.own mb [p] 1 [] ⟨by simp,A6h _,by simp⟩:Sl Pg)) ha hn hw hc (by show 1≤1000;omega)
 have e:cells [p]++[]=vbc p:=by simp [cells,Cel.cs]
 rw [Sl.hp_own,e] at h
 exact h
theorem Amm (ha:c.aC=a) (hn:c.blocks.length=n) (hw:WT n t.ts) {b:Int} :
  Does Tryz.prog 208 [ptr dk,.int .i64 b,.int .i64 0,.slice none 0 0] ((dk,true,C [ptr a,ptr t.b] tDk)::(Dd a t++(chH c++[])))
  (fun v H=>∃ (t':Tab) (e:Int) (c':Chip),t'.b=t.b∧v= .int .i64 e∧H=(dk,true,C [ptr a,ptr t'.b] tDk)::(Dd a t'++(chH c'++[]))∧c'.aC=a∧MoveR n b 0 [] c t.ts (e,t'.ts,c')):=by
 have h:=Ahj (dk:=dk) (b:=b) (count:=0) (more:=(.nil:Sl Pg)) ha hn hw (by omega) (by show 0≤1000;omega)
 rw [Sl.hp_nil] at h
 exact h
theorem Ab5 (ha:c.aC=a) (hn:c.blocks.length=n) (hw:WT n t.ts) {b k:Int} {p:Pg} :
  Does Tryz.prog 171 [ptr dk,.int .i64 b,.int .i64 k,.agg (vbc p).toArray] ((dk,true,C [ptr a,ptr t.b] tDk)::(Dd a t++(chH c++[])))
  (fun v H=>∃ (t':Tab) (e:Int) (c':Chip),t'.b=t.b∧v= .int .i64 e∧H=(dk,true,C [ptr a,ptr t'.b] tDk)::(Dd a t'++(chH c'++[]))∧c'.aC=a∧Sk n b k p c t.ts (e,t'.ts,c')):=by
 refine zF 29 Tryz.func171 ?_
 refine zC ?_
 refine Do rfl rfl (fun b7=> ?_)
 refine zC ?_
 refine At [(9,[(0,false),(1,false),(2,false),(3,false),(4,false),(5,false),(7,false),(8,false),(6,true)]),(10,[(9,true)]),(11,[(10,false)])] (by kernel_rfl) ?_
 iterate 8 refine sb ?_
 refine Aj (Ao rfl mM (by exact Ax)) ?_
 refine zC ?_
 refine zI rfl (Ae6 (a:=a) (t:=t) (dk:=dk)) ?_
 refine zC ?_
 refine zI rfl (Np ha) ?_
 refine zC ?_
 refine Aa rfl (fun c21=> ?_) (fun c21=> ?_)
 ·skip
  have h33:(Bl c (atD t.ts b) k p).1=33:=(by grind)
  obtain ⟨m,hm⟩:∃ m:Nat,k=m:=⟨k.toNat,by have:=Ahk h33;omega⟩
  subst hm
  have hm8:m≤8:=(by have:=Ahk h33;omega)
  refine zA ?_
  refine Ae (Ao rfl mM (by exact Ax)) rfl ?_
  refine Am (cs:=vbc p) (zs:=List.replicate 258 (.int .u8 0)) rfl (Ajl p) rfl rfl (fun b26=> ?_)
  refine zE rfl (Aml (c:=(Bl c (atD t.ts b) m p).2) (t:=t) (dk:=dk) (b:=b) (p:=p) ((F9 _ _ _ _).trans ha) ((Ks (Ix _ _ _ _)).trans hn) hw hm8) ?_
  rintro _ _ ⟨t',e,c',hb',rfl,rfl,ha',hd⟩
  refine zW ?_
  exact Bb (Aw Tryz.results171 (Af rfl)) (by exact ⟨t',e,c',hb',rfl,rfl,ha',fun _=>hd,fun h=>absurd h33 h⟩) (by rw [hb'];exact sP)
 ·skip
  have h33:(Bl c (atD t.ts b) k p).1≠33:=(by grind)
  refine zC ?_
  exact zL (hR:=by exact ⟨t,_,_,rfl,rfl,rfl,(F9 _ _ _ _).trans ha,fun h=>absurd h h33,fun _=>rfl⟩)
theorem Ajm (ha:c.aC=a) (hn:c.blocks.length=n) (hw:WT n t.ts) {b:Int} :
  Does Tryz.prog 170 [ptr dk,.int .i64 b] ((dk,true,C [ptr a,ptr t.b] tDk)::(Dd a t++(chH c++[])))
  (fun v H=>∃ (t':Tab) (e:Int) (c':Chip),t'.b=t.b∧v= .int .i64 e∧H=(dk,true,C [ptr a,ptr t'.b] tDk)::(Dd a t'++(chH c'++[]))∧c'.aC=a∧Q7 n b c t.ts (e,t'.ts,c')):=by
 refine zF 20 Tryz.func170 ?_
 refine zC ?_
 refine At [(7,[(0,false),(1,false),(2,false),(3,false),(4,false),(5,false),(6,true)]),(8,[(7,true)]),(9,[(8,false)])] (by kernel_rfl) ?_
 refine zC ?_
 refine zI rfl (Ae6 (a:=a) (t:=t) (dk:=dk)) ?_
 refine zC ?_
 refine zI rfl (Abm ha) ?_
 refine zC ?_
 refine Aa rfl (fun c15=> ?_) (fun c15=> ?_)
 ·skip
  have h33:(Bm c (atD t.ts b)).1=33:=(by grind)
  refine zC ?_
  refine zE rfl (Amm (c:=(Bm c (atD t.ts b)).2) (t:=t) (dk:=dk) (b:=b) ((Ie _ _).trans ha) ((Ks (Jb _ _)).trans hn) hw) ?_
  rintro _ _ ⟨t',e,c',hb',rfl,rfl,ha',hd⟩
  refine zW ?_
  exact Bb (Aw Tryz.results170 (Af rfl)) (by exact ⟨t',e,c',hb',rfl,rfl,ha',fun _=>hd,fun h=>absurd h33 h⟩) (by rw [hb'];exact sP)
 ·skip
  have h33:(Bm c (atD t.ts b)).1≠33:=(by grind)
  refine zC ?_
  exact zL (hR:=by exact ⟨t,_,_,rfl,rfl,rfl,(Ie _ _).trans ha,fun h=>absurd h h33,fun _=>rfl⟩)
end
end
section
open Go.K
instance agg93:Agg Tryz.prog 93 true:=⟨⟨_,Tryz.underlying93,rfl⟩⟩
instance siz93:Siz Tryz.prog 93 2:=⟨by kernel_rfl⟩
instance zer75:Zer Tryz.prog 75 ([.pointer none,.pointer none]):=⟨by kernel_rfl⟩
instance zer93:Zer Tryz.prog 93 ([.slice none 0 0,.int .i64 0]):=⟨by kernel_rfl⟩
instance plc75:Plc Tryz.prog 75 [(0,1),(1,1)]:=⟨⟨_,Tryz.underlying75,fun _=>by kernel_rfl⟩⟩
instance plc93:Plc Tryz.prog 93 [(0,1),(1,1)]:=⟨⟨_,Tryz.underlying93,fun _=>by kernel_rfl⟩⟩
def Gl (c:Chip) (pr:Bool) (s:Sl Int):Chip:=if pr=true then { c with pf:=s,pc:=0 } else { c with wf:=s,wc:=0 }
section
variable {c:Chip} {a:Nat}
theorem Asx (ha:c.aC=a) {pr:Bool} {s:Sl Int} (hs:s.list.length≤1000):Does Tryz.prog 34 [ptr a,.bool pr,s.val] (chH c++(s.hp tI++[]))
  (fun v H=>∃ s':Sl Int,v= .tuple #[]∧H=chH (Gl c pr s')++(s.hp tI++[])∧s'.list=s.list∧s'.isOwn=true):=by
 subst ha
 rw [Ez c];refine zF 19 Tryz.func34 ?_
 refine zC ?_
 refine zE rfl (No hs) ?_
 rintro _ _ ⟨s',rfl,rfl,hs',ho'⟩
 refine zW ?_
 refine Ah rfl (fun b6=> ?_)
 refine zC ?_
 refine Aa rfl (fun c10=> ?_) (fun c10=> ?_)
 ·skip
  refine zC ?_
  exact Aan (Aj9 Tryz.results34) (by exact ⟨s',rfl,rfl,hs',ho'⟩) (by unfold Gl;rw [A6v c10,Ez];simp only [A4n,A34];exact sP)
 ·skip
  refine zC ?_
  exact Aan (Aj9 Tryz.results34) (by exact ⟨s',rfl,rfl,hs',ho'⟩) (by unfold Gl;rw [A6u (by rw [c10];grind),Ez];simp only [A4n,A34];exact sP)
theorem Ahl {tb:Nat}:Does Tryz.prog 130 [ptr a,ptr tb,.int .i64 0] [] (fun v H=>∃ dk,v= .tuple #[ptr dk,.int .i64 0]∧H=[(dk,true,C [ptr a,ptr tb] tDk)]):=by
 refine zF 15 Tryz.func130 ?_
 refine zC ?_
 refine Ay rfl ?_
 refine zC ?_
 refine Cy rfl rfl (fun b14=> ?_)
 refine zC ?_
 exact zL (hR:=by exact ⟨_,rfl,rfl⟩)
end
end
section
open Go.K
theorem Amn (k:Int):IntKind.u8.wrap k=((Fg k).toNat:Int):=Ej .u8 rfl k
theorem Ae9 {pp aC aB m:Nat} (hm:16≤m∧m≤40) (hX:Xk (He m [])=false):Does Tryz.prog 131 [ptr aC] (chH (Ds (-1) 0 pp aC aB m []))
  (fun v H=>∃ (tb:Tab) (c':Chip),v= .tuple #[ptr tb.b,.int .i64 0]∧H=Dd aC tb++(chH c'++[])∧c'.aC=aC∧c'.aP=pp∧JI c' tb.ts (O6 (He m []) ((m:Int) - 6) m) (He m []) m 0∧PgP c' (PlB m)∧∀ i,2≤i→i<m→c'.blocks[i]? =some (Hf false)):=by
 have hlen:(Ds (-1) 0 pp aC aB m []).blocks.length=m:=H4
 refine (Asp (c:=Ds (-1) 0 pp aC aB m []) (a:=aC) rfl (by rw [hlen];omega)).mono fun v H h=> ?_
 obtain ⟨t,c',h1,h2,h3,h4⟩:=Az1 (aP:=pp) (aC:=aC) (aB:=aB) hm hX
 obtain ⟨c2,q1,q2⟩:=Ov (after:= -1) (keep:=0) (aP:=pp) (aC:=aC) (aB:=aB) (n:=m) (bad:=[]) (by omega) (by omega) ((Wx hm).trans hX)
 unfold Abo at h
 rw [h1] at h
 rcases h with ⟨tb,rfl,rfl,h5,_⟩ | ⟨_,_,h6⟩
 ·refine ⟨tb,c',rfl,rfl,h3,h4,by rw [h5];exact h2,A1j hm hX h1 h2,fun i hi hl=> ?_⟩
  rw [q1] at h1
  simp only [A50] at h1
  rw [← h1.2.2,q2,Rt (by omega),Iw hl]
  rfl
 omega
theorem Afa {pp aC aB m:Nat} (hm:16≤m∧m≤40) (hX:Xk (He m [])=false):Does Tryz.prog 84 [ptr aC] (chH (Ds (-1) 0 pp aC aB m []))
  (fun v H=>∃ (dk:Nat) (tb:Tab) (c':Chip),v= .tuple #[ptr dk,.int .i64 0]∧H=(dk,true,C [ptr aC,ptr tb.b] tDk)::(Dd aC tb++(chH c'++[]))∧c'.aC=aC∧c'.aP=pp∧JI c' tb.ts (O6 (He m []) ((m:Int) - 6) m) (He m []) m 0∧∀ i,2≤i→i<m→c'.blocks[i]? =some (Hf false)):=by
 refine zF 17 Tryz.func84 ?_
 refine zC ?_
 refine zE rfl (Ae9 (pp:=pp) (aC:=aC) (aB:=aB) (m:=m) hm hX) ?_
 rintro _ _ ⟨tb,c',rfl,rfl,a1,a2,a3,_,a4⟩
 refine zW ?_
 refine zE rfl (Ahl (a:=aC) (tb:=tb.b)) ?_
 rintro _ _ ⟨dk,rfl,rfl⟩
 refine zW ?_
 exact zL (hR:=by exact ⟨dk,tb,c',rfl,rfl,a1,a2,a3,a4⟩)
end
section
open Go.K
theorem Amo {p:Pg} (h:(Bf p).2.2.2≠0):D1 p=p:=by unfold D1;rw [A6v (.inl h)]
theorem Ajn {p:Pg} (h:p[257]=255#8):D1 p=p:=Amo (La h)
theorem Xm {k:By} {b:List By} (hw:Cv k b=false):D1 (Cj k b)=Cj k b:=by
 unfold D1
 rw [Hl hw,A6v (.inr rfl)]
theorem Hold.far {c c':Chip} {v:Nat} {u l:List Int} {a k:Nat} (h:Hold c v u l a) (hk:2≤k) (f:Fr k c c'):Hold c' v u l a:=by
 have ho:∀ i,i<2→c'.blocks[i]? =c.blocks[i]? :=fun i hi=>f.oth i (by omega)
 refine ⟨by rw [f.len];exact h.ok,h.a2,fun i hi=>by rw [ho i hi];exact h.bs i hi,fun i hi b hb=> ?_,?_⟩
 ·rw [ho i hi] at hb
  rw [f.len]
  exact h.le i hi b hb
 ·rw [ho a h.a2,f.len]
  exact h.ex
theorem TI.far {c c':Chip} {t:TS} {k:Nat} (h:TI c t) (hk:2≤k) (f:Fr k c c'):TI c' t:=by
 obtain ⟨a,h1,h2,h3⟩:=h
 exact ⟨a,h1,h2.far hk f,by rw [f.oth a (by have:=h2.a2;omega)];exact h3⟩
def AllB (c:Chip):Prop:=∀ (i:Nat) (b:Blk),c.blocks[i]? =some b→BI b∧b.bad=false
theorem AllB.far {c c':Chip} {k:Nat} {b:Blk} (h:AllB c) (f:Fr k c c') (hb:c'.blocks[k]? =some b) (h1:BI b) (h2:b.bad=false):AllB c':=fun i b' hb'=>by
 by_cases e:i=k
 ·grind
 ·rw [f.oth i e] at hb'
  exact h i b' hb'
theorem AllB.keep {c c':Chip} {v:Nat} {u l:List Int} {a:Nat} (h:AllB c) (f:Fr2 c c') (hh:Hold c' v u l a):AllB c':=fun i b' hb'=>by
 by_cases e:i<2
 ·obtain ⟨b2,h1,h2,h3⟩:=hh.bs i e
  rw [h1] at hb'
  grind
 ·rw [f.oth i (by omega)] at hb'
  exact h i b' hb'
theorem Q8 {c:Chip} {a j:Nat} {b:Blk} {d:Pg} {B:Int} (up:Up c) (hb:c.blocks[a]? =some b) (hj:j<8) (hbad:b.bad=false) (hbi:BI b) (hn:b.next=j) (hc:Cnt c B) (hB:B<8000000000000000000) :
  ∃ e m c',Bl c a j d=(e,c')∧Fr a c c'∧Cnt c' (B+1)∧c'.blocks[a]? =some (wrK b j (Cn m Aq d)) ∧
   ((e=30∧c'.off=true∧¬ c.after<0)∨(e=33∧m=129∧Up c'∧FP c'+1≤FP c)∨(e=0∧m=258∧Up c')):=by
 obtain ⟨e,m,hp,hcase⟩:=Y4 up (d:=d) hb hj hbad hbi hn
 obtain ⟨hfr,hcn,hfp⟩:=Aw8 (a:=a) (b:=wrK b j (Cn m Aq d)) hc (by omega)
 have hoff:=Apu (a:=a) (b:=wrK b j (Cn m Aq d)) up
 refine ⟨e,m,_,hp,hfr,hcn,Aip hb,?_⟩
 rcases hcase with ⟨h1,h2⟩ | ⟨h1,h2,h3,h4⟩ | ⟨h1,h2,h3,h4⟩
 ·exact .inl ⟨h1,by rw [hoff];exact h2,Qh h2⟩
 ·exact .inr (.inl ⟨h1,h2,up.of hfr.dead hfr.out (by rw [hoff];exact h3),hfp h4⟩)
 ·exact .inr (.inr ⟨h1,h2,up.of hfr.dead hfr.out (by rw [hoff];exact h3)⟩)
end
section
open Go.K
def Out (c c':Chip) (e:Int):Prop:=(e=30∧c'.off=true∧¬ c.after<0)∨(e=33∧Up c'∧FP c'+1≤FP c)∨(e=0∧Up c')
theorem Out.step {k:Nat} {c c1 c2:Chip} {e:Int} (f:Fr k c c1) (h:Out c1 c2 e):Out c c2 e:=by
 rcases h with ⟨h1,h2,h3⟩ | ⟨h1,h2,h3⟩ | ⟨h1,h2⟩
 ·exact .inl ⟨h1,h2,fun hp=>h3 (by rw [(f.pos hp).1];exact hp)⟩
 ·exact .inr (.inl ⟨h1,h2,by have:=f.fp;omega⟩)
 ·exact .inr (.inr ⟨h1,h2⟩)
theorem Sm {a to':Nat} {bs:Blk} (hne:a≠to'):∀ (f:Nat) (c:Chip) (i:Nat) (bt:Blk) (B:Int),i+f≤8→Up c→c.blocks[a]? =some bs→c.blocks[to']? =some bt→bt.bad=false→BI bt→bt.next=i→Cnt c B→B+f<8000000000000000000 →
  ∃ e c',Fq f c a to' i=(e,c')∧Fr to' c c'∧Cnt c' (B+f)∧Out c c' e∧∃ b',c'.blocks[to']? =some b'∧BI b'∧b'.bad=false ∧
   (e=0→b'.next=((i+f:Nat):Int)∧(∀ (j:Nat) (h:j<8),j<i→b'.pages[j]=bt.pages[j])∧∀ (j:Nat) (h:j<8),i≤j→j<i+f→b'.pages[j]=D1 bs.pages[j])
 | 0,c,i,bt,B,hf,up,ha,hb,hbad,hbi,hn,hc,hB =>
  ⟨0,c,rfl,Fr.refl _ _,by grind,.inr (.inr ⟨rfl,up⟩),bt,hb,hbi,hbad,fun _=>⟨hn,fun _ _ _=>rfl,fun j h h1 h2=>by omega⟩⟩
 | f+1,c,i,bt,B,hf,up,ha,hb,hbad,hbi,hn,hc,hB=>by
  have hi8:i<8:=by omega
  have hal:a<c.blocks.length:=(List.getElem?_eq_some_iff.1 ha).1
  have hm:B0 c (a:Nat) (i:Nat)=0:=Aa6 up hal hi8
  have hrd:B3 c (a:Nat) (i:Nat)=bs.pages[i]:=P5 hm ha hi8
  obtain ⟨e,m,c1,hp,hfr,hcn,hbk,hcase⟩:=Q8 (d:=D1 bs.pages[i]) up hb hi8 hbad hbi hn hc (by omega)
  have hf1:E9 c (a:Nat) (to':Nat) (i:Nat)=(e,c1):=by
   unfold E9
   rw [A6v hm,hrd,hp]
  have hbi':=Aa7 (q:=Cn m Aq (D1 bs.pages[i])) hbi hi8 hn
  have hcn':Cnt c1 (B+((f+1:Nat):Int)):=⟨by have:=hcn.p0;omega,by have:=hcn.w0;omega⟩
  unfold Fq
  rw [hf1]
  rcases hcase with ⟨rfl,h1,h2⟩ | ⟨rfl,h1,h2,h3⟩ | ⟨rfl,h1,h2⟩
  ·rw [A6v (by simp)]
   exact ⟨30,c1,rfl,hfr,hcn',.inl ⟨rfl,h1,h2⟩,_,hbk,hbi',hbad,fun h=>by cases h⟩
  ·rw [A6v (by simp)]
   exact ⟨33,c1,rfl,hfr,hcn',.inr (.inl ⟨rfl,h2,h3⟩),_,hbk,hbi',hbad,fun h=>by cases h⟩
  ·rw [A6u (by simp)]
   subst h1
   obtain ⟨e2,c2,k1,k2,k3,k4,b2,k5,k6,k7,k8⟩:=Sm hne f c1 (i+1) (wrK bt i (Cn 258 Aq (D1 bs.pages[i]))) (B+1) (by omega) h2 (by rw [hfr.oth a hne];exact ha) hbk hbad hbi' rfl hcn (by omega)
   refine ⟨e2,c2,?_,hfr.trans k2,⟨by have:=k3.p0;omega,by have:=k3.w0;omega⟩,k4.step hfr,b2,k5,k6,k7,fun h=> ?_⟩
   ·grind
   ·obtain ⟨q1,q2,q3⟩:=k8 h
    refine ⟨by rw [q1];omega,fun j hj hlt=> ?_,fun j hj hge hlt=> ?_⟩
    ·rw [q2 j hj (by omega),Gh hj,A6u (by omega)]
    ·by_cases e1:j=i
     ·subst e1
      rw [q2 j hj (by omega),Gh hj,A6v rfl]
      exact Fz (A6h _)
     grind
end
section
open Go.K
def OutW (c c':Chip) (e:Int):Prop:=(e=30∧c'.off=true∧¬ c.after<0)∨(e=33∧Up c'∧FP c'+FW c'+1≤FP c+FW c)∨(e=0∧Up c')
theorem Out.w {k:Nat} {c c':Chip} {e:Int} (f:Fr k c c') (h:Out c c' e):OutW c c' e:=by
 rcases h with h | ⟨h1,h2,h3⟩ | h
 ·exact .inl h
 ·exact .inr (.inl ⟨h1,h2,by have:=f.fw;omega⟩)
 ·exact .inr (.inr h)
theorem OutW.step {k:Nat} {c c1 c2:Chip} {e:Int} (f:Fr k c c1) (h:OutW c1 c2 e):OutW c c2 e:=by
 rcases h with ⟨h1,h2,h3⟩ | ⟨h1,h2,h3⟩ | ⟨h1,h2⟩
 ·exact .inl ⟨h1,h2,fun hp=>h3 (by rw [(f.pos hp).1];exact hp)⟩
 ·exact .inr (.inl ⟨h1,h2,by have:=f.fp;have:=f.fw;omega⟩)
 ·exact .inr (.inr ⟨h1,h2⟩)
def Oc (bs b':Blk) (count:Nat) (more:List Pg):Prop :=
 b'.next=((count+more.length:Nat):Int)∧(∀ (j:Nat) (h:j<8),j<count→b'.pages[j]=D1 bs.pages[j])∧∀ (p:Pg) (h:count<8),more=[p]→b'.pages[count]=p
theorem Afb {a to':Nat} {bs bt:Blk} {c:Chip} {count:Nat} {more:List Pg} {B:Int} (hne:a≠to') (hl:more.length≤1) (h8:count+more.length≤8) (up:Up c) (ha:c.blocks[a]? =some bs) (hb:c.blocks[to']? =some bt) (hbad:bt.bad=false) (hbi:BI bt) (hn:bt.next=0) (hc:Cnt c B) (hB:B+100<8000000000000000000) :
  ∃ e c',fillC c (a:Nat) (to':Nat) count more=(e,c')∧Fr to' c c'∧Cnt c' (B+9)∧Out c c' e∧∃ b',c'.blocks[to']? =some b'∧BI b'∧b'.bad=false∧(e=0→Oc bs b' count more):=by
 obtain ⟨e,c1,h1,h2,h3,h4,b1,h5,h6,h7,h8'⟩:=Sm hne count c 0 bt B (by omega) up ha hb hbad hbi hn hc (by omega)
 have h1':Fq count c (a:Nat) (to':Nat) 0=(e,c1):=h1
 have hc1:Cnt c1 (B+9):=⟨by have:=h3.p0;omega,by have:=h3.w0;omega⟩
 unfold fillC
 rw [h1']
 by_cases he:e=0
 ·subst he
  rw [A6u (by simp)]
  obtain ⟨q1,q2,q3⟩:=h8' rfl
  have up1:Up c1:=by
   rcases h4 with ⟨h,_⟩ | ⟨h,_⟩ | ⟨_,h⟩
   ·cases h
   ·cases h
   ·exact h
  match more,hl,h8 with
  | [],_,_ =>
   exact ⟨0,c1,rfl,h2,hc1,h4,b1,h5,h6,h7,fun _=>⟨by rw [q1];simp,fun j h hlt=>q3 j h (by omega) (by omega),fun p h hp=>by cases hp⟩⟩
  | [p],_,h8 =>
   have hc8:count<8:=by grind
   obtain ⟨e2,m,c2,p1,p2,p3,p4,p5⟩:=Q8 (d:=p) up1 h5 hc8 h7 h6 (by rw [q1];simp) h3 (by omega)
   have hM:Md [p] c1 (to':Nat) (count:Nat)=(e2,c2):=by
    unfold Md
    rw [p1]
    split
    ·rfl
    ·rename_i h
     have:e2=0:=by simpa using h
     rw [this];rfl
   have hbi':=Aa7 (q:=Cn m Aq p) h6 hc8 (by rw [q1];simp)
   refine ⟨e2,c2,hM,h2.trans p2,⟨by have:=p3.p0;omega,by have:=p3.w0;omega⟩,?_,_,p4,hbi',h7,fun h=> ?_⟩
   ·refine Out.step h2 ?_
    rcases p5 with p5 | ⟨r1,r2,r3,r4⟩ | ⟨r1,r2,r3⟩
    ·exact .inl p5
    ·exact .inr (.inl ⟨r1,r3,r4⟩)
    ·exact .inr (.inr ⟨r1,r3⟩)
   ·have hm:m=258:=by
     omega
    subst hm
    refine ⟨by show (count:Int)+1=_;simp,fun j hj hlt=> ?_,fun p' hp' heq=> ?_⟩
    ·rw [Gh hj,A6u (by omega)]
     grind
    ·cases heq
     rw [Gh hp',A6v rfl]
     exact Fz (A6h _)
 grind
theorem Ajo {a to':Nat} {bs bt:Blk} {c:Chip} {count:Nat} {more:List Pg} {B:Int} (hne:a≠to') (hl:more.length≤1) (h8:count+more.length≤8) (up:Up c) (ha:c.blocks[a]? =some bs) (hb:c.blocks[to']? =some bt) (hbad:bt.bad=false) (hc:Cnt c B) (hB:B+200<8000000000000000000) :
  ∃ e c',J6 c (a:Nat) (to':Nat) count more=(e,c')∧Fr to' c c'∧Cnt c' (B+10)∧OutW c c' e∧∃ b',c'.blocks[to']? =some b'∧BI b'∧b'.bad=false∧(e=0→Oc bs b' count more):=by
 obtain ⟨e,c1,h1,h2,h3⟩:=Oy up hb hbad hc (by omega)
 obtain ⟨b1,k1,k2,k3,k4,k5⟩:=h2.blk
 unfold J6
 rw [h1]
 rcases h2.how with ⟨rfl,q1,q2⟩ | ⟨rfl,q1,q2⟩ | ⟨rfl,q1⟩
 ·rw [A6u (by simp)]
  exact ⟨30,c1,rfl,h2.fr,⟨by have:=h3.p0;omega,by have:=h3.w0;omega⟩,.inl ⟨rfl,q1,q2⟩,b1,k1,k2,k3.trans hbad,fun h=>by cases h⟩
 ·rw [A6u (by simp)]
  exact ⟨33,c1,rfl,h2.fr,⟨by have:=h3.p0;omega,by have:=h3.w0;omega⟩,.inr (.inl ⟨rfl,up.of h2.fr.dead h2.fr.out q1,by have:=h2.fr.fp;omega⟩),b1,k1,k2,k3.trans hbad,fun h=>by cases h⟩
 ·rw [A6v rfl]
  have up1:=up.of h2.fr.dead h2.fr.out q1
  obtain ⟨e2,c2,r1,r2,r3,r4,b2,r5,r6,r7,r8⟩:=Afb (bs:=bs) (count:=count) (more:=more) hne hl h8 up1 (by rw [h2.fr.oth a hne];exact ha) k1 (k3.trans hbad) k2 (k5 rfl) h3 (by omega)
  exact ⟨e2,c2,r1,h2.fr.trans r2,⟨by have:=r3.p0;omega,by have:=r3.w0;omega⟩,OutW.step h2.fr (r4.w r2),b2,r5,r6,r7,r8⟩
end
section
open Go.K
structure DI (c:Chip) (t:TS) (n k:Nat):Prop where
 up:Up c
 ti:TI c t
 wf:WF n t.uses t.lost
 len:c.blocks.length=n
 bs:AllB c
 cnt:Cnt c (1000*k+1000)
 ver:t.version.toNat≤k+1
theorem DI.wt {c:Chip} {t:TS} {n k:Nat} (h:DI c t n k):WT n t:=by
 obtain ⟨a,h1,h2,b,h3,h4,h5⟩:=h.ti
 have:=h2.a2
 exact ⟨h.wf,h4.1,by omega⟩
theorem DI.mono {c:Chip} {t:TS} {n k k':Nat} (h:DI c t n k) (hk:k≤k'):DI c t n k' :=
 ⟨h.up,h.ti,h.wf,h.len,h.bs,⟨by have:=h.cnt.p0;omega,by have:=h.cnt.w0;omega⟩,by have:=h.ver;omega⟩
theorem DI.keep {c:Chip} {t:TS} {n k:Nat} {u lost:List Int} {e:Int} {t':TS} {c':Chip} (h:DI c t n k) (hk:k≤1000000000000) (hfp:FP c≤7) (hfw:FW c≤3) (hw:WF n u lost) (hr:(e,t',c')=Bt t u lost c) :
  Fr2 c c'∧((e=0∧DI c' t' n (k+1)∧t'.uses=u∧t'.lost=lost) ∨
   (e=30∧c'.off=true∧¬ c.after<0∧t'=t∧Cnt c' (1000*((k+1:Nat):Int)+1000)∧AllB c'∧∃ v uu ll a,v≤k+2∧Hold c' v uu ll a∧WF n uu ll∧((uu=t.uses∧ll=t.lost)∨(uu=u∧ll=lost)))):=by
 obtain ⟨e2,t2,c2,h1,h2,h3,h4⟩:=Alb (u:=u) (l:=lost) (B:=1000*k+1000) h.up h.ti (by have:=h.ver;omega) (by rw [h.len];exact hw.okP) hfp hfw h.cnt (by omega)
 rw [h1] at hr
 simp only [A50] at hr
 obtain ⟨rfl,rfl,rfl⟩:=hr
 have p:=h3.p0
 have q:=h3.w0
 have hc:Cnt c' (1000*((k+1:Nat):Int)+1000):=⟨by omega,by omega⟩
 have hv:=h.ver
 refine ⟨h2,?_⟩
 rcases h4 with ⟨h5,h6,h7,h8,h9,h10⟩ | ⟨h5,h6,h7,h8,h9⟩
 ·have h7k:=h7
  obtain ⟨a,_,hh,_⟩:=h7k
  exact .inl ⟨h5,⟨h6,h7,by rw [h8,h9];exact hw,h2.len.trans h.len,h.bs.keep h2 hh,hc,by omega⟩,h8,h9⟩
 ·refine .inr ⟨h5,h6,h7,h8,hc,?_⟩
  rcases h9 with ⟨a,hh⟩ | ⟨a,hh⟩
  ·exact ⟨h.bs.keep h2 hh,_,_,_,a,by omega,hh,h.wf,.inl ⟨rfl,rfl⟩⟩
  ·exact ⟨h.bs.keep h2 hh,_,_,_,a,by omega,hh,hw,.inr ⟨rfl,rfl⟩⟩
theorem DI.far {c c':Chip} {t:TS} {n k i:Nat} {b:Blk} (h:DI c t n k) (hi:2≤i) (f:Fr i c c') (up:Up c') (hb:c'.blocks[i]? =some b) (h1:BI b) (h2:b.bad=false) (hc:Cnt c' (1000*k+1000+10)):DI c' t n (k+1) :=
 ⟨up,h.ti.far hi f,h.wf,f.len.trans h.len,h.bs.far f hb h1 h2,⟨by have:=hc.p0;omega,by have:=hc.w0;omega⟩,by have:=h.ver;omega⟩
theorem Xn {c:Chip} {n k v a:Nat} {u l:List Int} (up:Up c) (h:Hold c v u l a) (hw:WF n u l) (hl:c.blocks.length=n) (hb:AllB c) (hc:Cnt c (1000*k+1000)) (hv:v≤k+1):∃ t,Di c=(0,t)∧DI c t n k∧t.uses=u∧t.lost=l:=by
 obtain ⟨t,h1,h2,h3,h4,h5⟩:=Alc up h
 exact ⟨t,h1,⟨up,h2,by rw [h3,h4];exact hw,hl,hb,hc,by omega⟩,h3,h4⟩
end
section
open Go.K
def SameU (u:List Int) (c c':Chip):Prop:=∀ x∈u,c'.blocks[x.toNat]? =c.blocks[x.toNat]?
structure FrA (c c':Chip):Prop where
  len:c'.blocks.length=c.blocks.length
  dead:c'.dead=c.dead
  out:c'.out=c.out
  aP:c'.aP=c.aP
  aC:c'.aC=c.aC
  aB:c'.aB=c.aB
  pf:c'.pf=c.pf
  wf:c'.wf=c.wf
  fp:FP c'≤FP c
  fw:FW c'≤FW c
  pos:c.after<0→c'.after=c.after∧c'.off=c.off
  keep:c'.keep=c.keep
theorem FrA.refl (c:Chip):FrA c c:=⟨rfl,rfl,rfl,rfl,rfl,rfl,rfl,rfl,A6h _,A6h _,fun _=>⟨rfl,rfl⟩,rfl⟩
theorem Fr.all {a:Nat} {c c':Chip} (h:Fr a c c'):FrA c c':=⟨h.len,h.dead,h.out,h.aP,h.aC,h.aB,h.pf,h.wf,h.fp,h.fw,h.pos,h.keep⟩
theorem Fr2.all {c c':Chip} (h:Fr2 c c'):FrA c c':=⟨h.len,h.dead,h.out,h.aP,h.aC,h.aB,h.pf,h.wf,h.fp,h.fw,h.pos,h.keep⟩
theorem FrA.trans {c c' c'':Chip} (h:FrA c c') (k:FrA c' c''):FrA c c'' :=
  ⟨k.len.trans h.len,k.dead.trans h.dead,k.out.trans h.out,k.aP.trans h.aP,k.aC.trans h.aC,k.aB.trans h.aB,k.pf.trans h.pf,k.wf.trans h.wf,A57 k.fp h.fp,A57 k.fw h.fw,
    fun hp=>by
      obtain ⟨h1,h2⟩:=h.pos hp
      obtain ⟨h3,h4⟩:=k.pos (by omega)
      grind,k.keep.trans h.keep⟩
def Zt (n k:Nat) (b:Int) (count:Nat) (more:List Pg) (bs:Blk) (c:Chip) (t:TS) (r:Int×TS×Chip):Prop :=
  FrA c r.2.2∧SameU t.uses c r.2.2 ∧
  ((r.1=34∧DI r.2.2 r.2.1 n k∧r.2.1.uses=t.uses∧(Be r.2.1 n).2=false∧r.2.1.lost.length+FP r.2.2+FW r.2.2≤t.lost.length+FP c+FW c) ∨
   (r.1=0∧DI r.2.2 r.2.1 n k∧r.2.1.lost.length+FP r.2.2+FW r.2.2≤t.lost.length+FP c+FW c+1∧t.lost.length+1≤r.2.1.lost.length∧∃ (x:Nat) (b':Blk),(x:Int)∉t.uses∧2≤x∧r.2.1.uses=t.uses.set b.toNat x∧r.2.2.blocks[x]? =some b'∧Oc bs b' count more) ∨
   (r.1=30∧r.2.2.off=true∧¬ c.after<0∧Cnt r.2.2 (1000*k+1000)∧AllB r.2.2∧∃ v uu ll a,v≤k+1∧ll.length+FP r.2.2+FW r.2.2≤t.lost.length+FP c+FW c+1∧Hold r.2.2 v uu ll a∧WF n uu ll∧(uu=t.uses∨∃ (x:Nat) (b':Blk),(x:Int)∉t.uses∧2≤x∧uu=t.uses.set b.toNat x∧r.2.2.blocks[x]? =some b'∧Oc bs b' count more)))
theorem SameU.trans {u:List Int} {c c' c'':Chip} (h:SameU u c c') (k:SameU u c' c''):SameU u c c'':=fun x hx=>(k x hx).trans (h x hx)
theorem SameU.far {u:List Int} {c c':Chip} {i:Nat} (f:Fr i c c') (h:∀ x∈u,0≤x) (hi:(i:Int)∉u):SameU u c c':=fun x hx=>f.oth _ (fun e=>hi (by have:=h x hx;rw [← e,A3h this];exact hx))
theorem SameU.two {u:List Int} {c c':Chip} (f:Fr2 c c') (h:∀ x∈u,2≤x):SameU u c c':=fun x hx=>f.oth _ (by have:=h x hx;omega)
end
section
open Go.K
theorem DI.try {c:Chip} {t:TS} {n k a:Nat} {bs:Blk} {count:Nat} {more:List Pg} {b e:Int} {c':Chip} (h:DI c t n k) (hk:k≤1000000000000) (hl:more.length≤1) (h8:count+more.length≤8) (hb:0≤b∧b<t.uses.length) (ha:at0 t.uses b=(a:Nat)) (hbs:c.blocks[a]? =some bs)
  (hs:(Be t n).2=true) (ht:J6 c (atD t b) (Be t n).1 count more=(e,c')) :
  ∃ x:Nat,(Be t n).1=(x:Nat)∧2≤x∧(x:Int)∉t.uses∧Fr x c c'∧OutW c c' e∧SameU t.uses c c'∧Cnt c' (1000*k+1000+10)∧AllB c'∧∃ b',c'.blocks[x]? =some b'∧BI b'∧b'.bad=false∧(e=0→Oc bs b' count more):=by
 obtain ⟨s1,s2,s3,s4⟩:=Abz (J7 hs)
 obtain ⟨x,hx⟩:∃ x:Nat,(Be t n).1=(x:Nat):=⟨(Be t n).1.toNat,by omega⟩
 rw [hx] at s1 s2 s3 s4 ht
 have hat:atD t b=(a:Nat):=by
  unfold atD
  have:atT t b=(at0 t.uses b,true):=by
   unfold atT
   rw [A6u (by simp;omega)]
  rw [this,A6v rfl]
  exact ha
 have hmem:(a:Int)∈t.uses:=by rw [← ha];exact Lx hb
 have hne:a≠x:=fun e1=>s3 (by rw [← e1];exact hmem)
 have hlen:=h.len
 obtain ⟨bt,hbt⟩:∃ bt,c.blocks[x]? =some bt:=⟨_,A2i (by omega)⟩
 obtain ⟨hbi,hbad⟩:=h.bs x bt hbt
 obtain ⟨e2,c2,r1,r2,r3,r4,b',r5,r6,r7,r8⟩:=Ajo (bs:=bs) (count:=count) (more:=more) (B:=1000*k+1000) hne hl h8 h.up hbs hbt hbad h.cnt (by omega)
 rw [hat,r1] at ht
 simp only [A50] at ht
 obtain ⟨rfl,rfl⟩:=ht
 exact ⟨x,hx,by omega,s3,r2,r4,SameU.far r2 (fun y hy=>by have:=h.wf.us y hy;omega) s3,r3,h.bs.far r2 r5 r6 r7,b',r5,r6,r7,r8⟩
end
section
open Go.K
theorem Xo {n:Nat} {b:Int} {count:Nat} {more:List Pg} {c:Chip} {t:TS} {r:Int×TS×Chip} (hm:MoveR n b count more c t r) :
  ∀ (k a:Nat) (bs:Blk),DI c t n k→k+2*(FP c+FW c)≤900000000000→FP c+FW c≤3→more.length≤1→count+more.length≤8→0≤b∧b<t.uses.length→at0 t.uses b=(a:Nat)→c.blocks[a]? =some bs →
   Zt n (k+4*(FP c+FW c)+4) b count more bs c t r:=by
 induction hm with
 | none hs =>
  intro k a bs h hk hf hl h8 hb ha hbs
  exact ⟨.refl _,fun x hx=>rfl,.inl ⟨rfl,h.mono (by omega),rfl,hs,by grind⟩⟩
 | @err c t e c' hs ht he he3 =>
  intro k a bs h hk hf hl h8 hb ha hbs
  obtain ⟨x,_,hx2,hxu,f,ho,hS,hc,hA,_⟩:=h.try (by omega) hl h8 hb ha hbs hs ht
  obtain ⟨a0,_,hh,_⟩:=h.ti
  rcases ho with ⟨h1,h2,h3⟩ | ⟨h1,_⟩ | ⟨h1,_⟩
  ·exact ⟨f.all,hS,.inr (.inr ⟨h1,h2,h3,⟨by have:=hc.p0;grind,by have:=hc.w0;grind⟩,hA,_,_,_,a0,by have:=h.ver;omega,(by have:=f.fp;have:=f.fw;grind),hh.far hx2 f,h.wf,.inl rfl⟩)⟩
  ·omega
  omega
 | @swap c t c' r hs ht hsw =>
  intro k a bs h hk hf hl h8 hb ha hbs
  obtain ⟨x,hx,hx2,hxu,f,ho,hS,hc,hA,b',hb',hbi,hbad,hfl⟩:=h.try (by omega) hl h8 hb ha hbs hs ht
  have upc:Up c':=by
   rcases ho with ⟨h1,_⟩ | ⟨h1,_⟩ | ⟨_,h1⟩
   ·cases h1
   ·cases h1
   ·exact h1
  have hD:=h.far hx2 f upc hb' hbi hbad hc
  have hsp:=J7 hs
  rw [hx] at hsp hsw
  have hat:(atT t b).2=true:=by
   unfold atT
   rw [A6u (by simp;omega)]
  obtain ⟨lost,hp,hr⟩:=hsw.1 (by rw [hat,hD.len,hsp];rfl)
  have hw:=h.wf.swap hb hsp hp
  obtain ⟨e,t',c''⟩:=r
  have fp:=f.fp
  have fw:=f.fw
  obtain ⟨f2,hk2⟩:=hD.keep (by omega) (by omega) (by omega) hw hr
  have hb2:c''.blocks[x]? =some b':=by rw [f2.oth x hx2];exact hb'
  have hS2:=hS.trans (SameU.two f2 (fun y hy=>(h.wf.us y hy).1))
  have fp2:=f2.fp
  have fw2:=f2.fw
  rcases hk2 with ⟨h1,h2,h3,h4⟩ | ⟨h1,h2,h3,h4,h5,h6,v,uu,ll,a0,h7,h9,h10,h11⟩
  ·refine ⟨f.all.trans f2.all,hS2,.inr (.inl ⟨h1,h2.mono (by omega),?_,?_,x,b',hxu,hx2,h3,hb2,hfl rfl⟩)⟩
   ·simp only
    rw [h4,hp.length_eq]
    grind
   ·simp only
    rw [h4,hp.length_eq]
    simp
  ·refine ⟨f.all.trans f2.all,hS2,.inr (.inr ⟨h1,h2,fun hp=>h3 (by rw [(f.pos hp).1];exact hp),⟨by have:=h5.p0;grind,by have:=h5.w0;grind⟩,h6,v,uu,ll,a0,by omega,(by have:=f2.fp;have:=f2.fw;have:=f.fp;have:=f.fw;have:=hp.length_eq;grind),h9,h10,?_⟩)⟩
   grind
 | @bad c t c' e t' c'' hs ht hlo he =>
  intro k a bs h hk hf hl h8 hb ha hbs
  obtain ⟨x,hx,hx2,hxu,f,ho,hS,hc,hA,b',hb',hbi,hbad,hfl⟩:=h.try (by omega) hl h8 hb ha hbs hs ht
  have upc:Up c':=by
   rcases ho with ⟨h1,_⟩ | ⟨_,h1,_⟩ | ⟨h1,_⟩
   ·cases h1
   ·exact h1
   ·cases h1
  have hD:=h.far hx2 f upc hb' hbi hbad hc
  have hsp:=J7 hs
  obtain ⟨lost,hp,hr⟩:=hlo.1 (by rw [hD.len];exact hsp)
  have hw:=h.wf.lose hsp hp
  have fp:=f.fp
  have fw:=f.fw
  obtain ⟨f2,hk2⟩:=hD.keep (by omega) (by omega) (by omega) hw hr
  have hS2:=hS.trans (SameU.two f2 (fun y hy=>(h.wf.us y hy).1))
  rcases hk2 with ⟨h1,_⟩ | ⟨h1,h2,h3,h4,h5,h6,v,uu,ll,a0,h7,h9,h10,h11⟩
  ·omega
  ·refine ⟨f.all.trans f2.all,hS2,.inr (.inr ⟨h1,h2,fun hp=>h3 (by rw [(f.pos hp).1];exact hp),⟨by have:=h5.p0;grind,by have:=h5.w0;grind⟩,h6,v,uu,ll,a0,by omega,(by have:=f2.fp;have:=f2.fw;have:=f.fp;have:=f.fw;have:=hp.length_eq;grind),h9,h10,?_⟩)⟩
   grind
 | @again c t c' t' c'' r hs ht hlo _ ih =>
  intro k a bs h hk hf hl h8 hb ha hbs
  obtain ⟨x,hx,hx2,hxu,f,ho,hS,hc,hA,b',hb',hbi,hbad,hfl⟩:=h.try (by omega) hl h8 hb ha hbs hs ht
  have upc:Up c'∧FP c'+FW c'+1≤FP c+FW c:=by
   rcases ho with ⟨h1,_⟩ | ⟨_,h1⟩ | ⟨h1,_⟩
   ·cases h1
   ·exact h1
   ·cases h1
  have hD:=h.far hx2 f upc.1 hb' hbi hbad hc
  have hsp:=J7 hs
  obtain ⟨lost,hp,hr⟩:=hlo.1 (by rw [hD.len];exact hsp)
  have hw:=h.wf.lose hsp hp
  have hf1:=upc.2
  obtain ⟨f2,hk2⟩:=hD.keep (by omega) (by omega) (by omega) hw hr
  have hS2:=hS.trans (SameU.two f2 (fun y hy=>(h.wf.us y hy).1))
  have fp2:=f2.fp
  have fw2:=f2.fw
  have hmem:(a:Int)∈t.uses:=by rw [← ha];exact Lx hb
  rcases hk2 with ⟨_,h2,h3,h4⟩ | ⟨h1,_⟩
  ·have hbs2:c''.blocks[a]? =some bs:=by
    have:=hS2 _ hmem
    rw [A33] at this
    rw [this];exact hbs
   have hll:t'.lost.length=t.lost.length+1:=by rw [h4,hp.length_eq];simp
   obtain ⟨g0,g1,g2⟩:=ih (k+2) a bs h2 (by omega) (by omega) hl h8 (by rw [h3];exact hb) (by rw [h3];exact ha) hbs2
   rw [h3] at g1 g2
   refine ⟨(f.all.trans f2.all).trans g0,hS2.trans g1,?_⟩
   rcases g2 with ⟨q1,q2,q3,q4,q5⟩ | ⟨q1,q2,q3,q3',q4⟩ | ⟨q1,q2,q3,q4,q5,v,uu,ll,a0,q6,q6',q7⟩
   ·exact .inl ⟨q1,q2.mono (by omega),q3,q4,by omega⟩
   ·exact .inr (.inl ⟨q1,q2.mono (by omega),by omega,by omega,q4⟩)
   ·exact .inr (.inr ⟨q1,q2,fun hp=>q3 (by rw [(f2.pos (by rw [(f.pos hp).1];exact hp)).1,(f.pos hp).1];exact hp),⟨by have:=q4.p0;omega,by have:=q4.w0;omega⟩,q5,v,uu,ll,a0,by omega,by omega,q7⟩)
  ·cases h1
end
section
open Go.K
theorem Zu {t:TS} {b:Int} {a:Nat} (hb:0≤b∧b<t.uses.length) (ha:at0 t.uses b=(a:Nat)):atD t b=(a:Nat):=by
  unfold atD
  have:atT t b=(at0 t.uses b,true):=by
    unfold atT
    rw [A6u (by simp;omega)]
  rw [this,A6v rfl]
  exact ha
theorem Q9 {c:Chip} {t:TS} {n k a j:Nat} {b:Int} {bs:Blk} {p:Pg} {r:Int×TS×Chip} (h:DI c t n k) (hk:k≤800000000000) (hf:FP c+FW c≤3) (hb:0≤b∧b<t.uses.length) (ha:at0 t.uses b=(a:Nat)) (hbs:c.blocks[a]? =some bs) (hj:j<8) (hn:bs.next=j) (hr:Sk n b j p c t r) :
    ∃ m c1,Fr a c c1∧c1.blocks[a]? =some (wrK bs j (Cn m Aq p))∧AllB c1 ∧
      ((c1.off=true∧¬ c.after<0∧r=(30,t,c1)∧Cnt c1 (1000*((k+1:Nat):Int)+1000)) ∨
       (m=129∧(Bl c (atD t b) j p).1=33∧DI c1 t n (k+1)∧FP c1+1≤FP c∧Zt n (k+1+4*(FP c1+FW c1)+4) b j [p] (wrK bs j (Cn 129 Aq p)) c1 t r) ∨
       (m=258∧Bl c (atD t b) j p=(0,c1)∧DI c1 t n (k+1)∧r=(0,t,c1))):=by
  obtain ⟨hbi,hbad⟩:=h.bs a bs hbs
  have hat:=Zu hb ha
  have ha2:2≤a:=by have:=h.wf.us _ (Lx hb);rw [ha] at this;omega
  obtain ⟨e,m,c1,p1,f,hc,hblk,hcase⟩:=Q8 (d:=p) (B:=1000*k+1000) h.up hbs hj hbad hbi hn h.cnt (by omega)
  have hbi':=Aa7 (q:=Cn m Aq p) hbi hj hn
  have hA:=h.bs.far f hblk hbi' hbad
  obtain ⟨r1,r2⟩:=hr
  rw [hat,p1] at r1 r2
  have hc1:Cnt c1 (1000*k+1000+10):=⟨by have:=hc.p0;omega,by have:=hc.w0;omega⟩
  refine ⟨m,c1,f,hblk,hA,?_⟩
  rcases hcase with ⟨rfl,h1,h2⟩ | ⟨rfl,rfl,h2,h3⟩ | ⟨rfl,rfl,h2⟩
  · exact .inl ⟨h1,h2,r2 (show ¬ (30:Int)=33 by decide),⟨by have:=hc.p0;omega,by have:=hc.w0;omega⟩⟩
  · have hD:=h.far ha2 f h2 hblk hbi' hbad hc1
    have fw:=f.fw
    have hM:MoveR n b j [p] c1 t r:=by
      have:=r1 rfl
      rwa [A33] at this
    exact .inr (.inl ⟨rfl,by rw [hat,p1],hD,h3,Xo hM (k+1) a _ hD (by omega) (by omega) (by simp) (by simp;omega) hb ha hblk⟩)
  · exact .inr (.inr ⟨rfl,by rw [hat,p1],h.far ha2 f h2 hblk hbi' hbad hc1,r2 (show ¬ (0:Int)=33 by decide)⟩)
end
section
open Go.K
theorem T8 {c:Chip} {t:TS} {n k a:Nat} {b:Int} {bs:Blk} {r:Int×TS×Chip} (h:DI c t n k) (hk:k≤800000000000) (hf:FP c+FW c≤3) (hb:0≤b∧b<t.uses.length) (ha:at0 t.uses b=(a:Nat)) (hbs:c.blocks[a]? =some bs) (hr:Q7 n b c t r) :
    ∃ b1 c1,Fr a c c1∧c1.blocks[a]? =some b1∧BI b1∧AllB c1∧(∀ (j:Nat) (h:j<8),b1.pages[j]=Aq∨b1.pages[j]=bs.pages[j]) ∧
      ((c1.off=true∧¬ c.after<0∧r=(30,t,c1)∧Cnt c1 (1000*((k+1:Nat):Int)+1000)) ∨
       (DI c1 t n (k+1)∧FW c1+1≤FW c∧Zt n (k+1+4*(FP c1+FW c1)+4) b 0 [] b1 c1 t r) ∨
       (DI c1 t n (k+1)∧b1.next=0∧r=(0,t,c1))):=by
  obtain ⟨hbi,hbad⟩:=h.bs a bs hbs
  have hat:=Zu hb ha
  have ha2:2≤a:=by have:=h.wf.us _ (Lx hb);rw [ha] at this;omega
  obtain ⟨e,c1,p1,p2,hc⟩:=Oy (B:=1000*k+1000) h.up hbs hbad h.cnt (by omega)
  obtain ⟨b1,k1,k2,k3,k4,k5⟩:=p2.blk
  have hA:=h.bs.far p2.fr k1 k2 (k3.trans hbad)
  obtain ⟨r1,r2⟩:=hr
  rw [hat,p1] at r1 r2
  have hc1:Cnt c1 (1000*k+1000+10):=⟨by have:=hc.p0;omega,by have:=hc.w0;omega⟩
  refine ⟨b1,c1,p2.fr,k1,k2,hA,k4,?_⟩
  rcases p2.how with ⟨rfl,h1,h2⟩ | ⟨rfl,h1,h2⟩ | ⟨rfl,h1⟩
  · exact .inl ⟨h1,h2,r2 (show ¬ (30:Int)=33 by decide),⟨by have:=hc.p0;omega,by have:=hc.w0;omega⟩⟩
  · have hD:=h.far ha2 p2.fr (h.up.of p2.fr.dead p2.fr.out h1) k1 k2 (k3.trans hbad) hc1
    have fp:=p2.fr.fp
    have hM:MoveR n b 0 [] c1 t r:=r1 rfl
    exact .inr (.inl ⟨hD,h2,Xo hM (k+1) a _ hD (by omega) (by omega) (by simp) (by simp) hb ha k1⟩)
  · exact .inr (.inr ⟨h.far ha2 p2.fr (h.up.of p2.fr.dead p2.fr.out h1) k1 k2 (k3.trans hbad) hc1,k5 rfl,r2 (show ¬ (0:Int)=33 by decide)⟩)
end
section
open Go.K
theorem Ajp {c:Chip} {t:TS} {n k a j:Nat} {b:Int} {bs:Blk} (h:DI c t n k) (hb:0≤b∧b<t.uses.length) (ha:at0 t.uses b=(a:Nat)) (hbs:c.blocks[a]? =some bs) (hj:j<8):B0 c (atD t b) j=0∧B3 c (atD t b) j=bs.pages[j]:=by
 have hi:a<c.blocks.length:=(List.getElem?_eq_some_iff.1 hbs).1
 rw [Zu hb ha]
 have hm:=Aa6 h.up hi hj
 exact ⟨hm,P5 hm hbs hj⟩
end
section
open Go.K
theorem Ab6 {n:Nat} {t:TS} (h:WF n t.uses t.lost) (hs:(Be t n).2=false):4≤t.lost.length:=by
 have hall:∀ x:Int,2≤x→x<n→x∈t.uses++t.lost:=fun x h1 h2=>by
  have hsp:D6 t n x=false:=by
   unfold Be at hs
   cases hu:Lw t n with
   | some b=>rw [hu] at hs;cases hs
   | none =>
    unfold Lw at hu
    have:=List.find?_eq_none.1 hu x.toNat (A5n.2 (by omega))
    rw [A3h (by omega)] at this
    grind
  unfold D6 at hsp
  rw [A49]
  cases h3:E8 t.uses x with
  | true=>exact .inl (has_mem.1 h3)
  | false =>
   cases h4:E8 t.lost x with
   | true=>exact .inr (has_mem.1 h4)
   | false =>
    rw [h3,h4] at hsp
    grind
 have h1:=h.n1
 have:=Ib (l:=(List.range (n - 2)).map fun i=>((i:Nat):Int)+2) (m:=t.uses++t.lost) (by
  rw [A2a,A4c]
  exact (A2a.1 List.nodup_range).imp fun hne e=>hne (by omega)) (fun x hx=>by
   grind)
 have h2:=h.len
 grind
end
section
open Go.K
end
section
open Go.K
structure DV (c:Chip) (t:TS) (n k:Nat) (V:Nat→Blk):Prop where
 di:DI c t n k
 vw:∀ l:Nat,l+6<n→c.blocks[(at0 t.uses (l:Nat)).toNat]? =some (V l)
def upV (V:Nat→Blk) (b:Nat) (v:Blk):Nat→Blk:=fun l=>if l=b then v else V l
theorem Fa (V:Nat→Blk) (b:Nat) (v:Blk):upV V b v b=v:=A6v rfl
theorem Mf {V:Nat→Blk} {b l:Nat} {v:Blk} (h:l≠b):upV V b v l=V l:=A6u h
theorem DV.mono {c:Chip} {t:TS} {n k k':Nat} {V:Nat→Blk} (h:DV c t n k V) (hk:k≤k'):DV c t n k' V:=⟨h.di.mono hk,h.vw⟩
theorem JI.di {c:Chip} {t:TS} {u:List Int} {l:List Bool} {n:Nat} (h:JI c t u l n 0) (hb:∀ i,2≤i→i<n→c.blocks[i]? =some (Hf false)):DV c t n 0 fun _=>Hf false:=by
 have hU:∀ l:Nat,l+6<n→2≤at0 t.uses (l:Nat)∧at0 t.uses (l:Nat)<n:=fun l hl=>by
  have:=h.wf.us _ (Lx (l:=t.uses) (i:=(l:Nat)) (by have:=h.wf.len;omega))
  omega
 refine ⟨⟨h.up,h.ti,h.wf,h.len,fun i b hi=> ?_,h.cnt,h.ver⟩,fun l hl=> ?_⟩
 ·by_cases e:i<2
  ·obtain ⟨a,_,hh,_⟩:=h.ti
   obtain ⟨b2,h1,h2,h3⟩:=hh.bs i e
   rw [h1] at hi
   grind
  ·have hl:i<n:=by
    have:=(List.getElem?_eq_some_iff.1 hi).1
    have:=h.len
    omega
   rw [hb i (by omega) hl] at hi
   cases hi
   refine ⟨⟨by simp [Hf],fun j hj _=>by simp [Hf]⟩,rfl⟩
 grind
theorem Zv {u:List Int} (h:u.Nodup) {l m:Nat} (hl:l<u.length) (hm:m<u.length) (e:at0 u (l:Nat)=at0 u (m:Nat)):l=m:=by
 have h1:at0 u (l:Nat)=u[l]:=by simp [at0,A18,hl]
 have h2:at0 u (m:Nat)=u[m]:=by simp [at0,A18,hm]
 rw [h1,h2] at e
 have hp:=A2f.1 (A2a.1 h)
 grind
theorem Zw {u:List Int} {b l:Nat} {x:Int} (hb:b<u.length):at0 (u.set b x) (l:Nat)=if l=b then x else at0 u (l:Nat):=by
 unfold at0
 rw [A33,A18,A18,A39]
 grind
section
variable {c:Chip} {t:TS} {n k:Nat} {V:Nat→Blk}
theorem DV.us (h:DV c t n k V) {l:Nat} (hl:l+6<n):2≤at0 t.uses (l:Nat)∧at0 t.uses (l:Nat)<n∧l<t.uses.length:=by
 have h1:=h.di.wf.len
 have:=h.di.wf.us _ (Lx (l:=t.uses) (i:=(l:Nat)) (by omega))
 omega
theorem DV.act {c':Chip} {k':Nat} {b:Nat} {v:Blk} (h:DV c t n k V) (hb:b+6<n) (f:Fr (at0 t.uses (b:Nat)).toNat c c') (hv:c'.blocks[(at0 t.uses (b:Nat)).toNat]? =some v) (hd:DI c' t n k'):DV c' t n k' (upV V b v):=by
 refine ⟨hd,fun l hl=> ?_⟩
 by_cases e:l=b
 ·subst e;rw [Fa];exact hv
 ·rw [Mf e,f.oth _ (fun e2=>e ?_)]
  ·exact h.vw l hl
  ·have h1:=h.us hl
   have h2:=h.us hb
   exact Zv h.di.wf.un h1.2.2 h2.2.2 (by omega)
theorem Ra {c c':Chip} {t:TS} {x l:Nat} (h:SameU t.uses c c') (hl:l<t.uses.length):c'.blocks[(at0 t.uses (l:Nat)).toNat]? =c.blocks[(at0 t.uses (l:Nat)).toNat]? :=h _ (Lx (by omega))
theorem DV.moved {c':Chip} {t':TS} {k':Nat} {b x:Nat} {v:Blk} (h:DV c t n k V) (hb:b+6<n) (hS:SameU t.uses c c') (hu:t'.uses=t.uses.set b x) (hv:c'.blocks[x]? =some v) (hd:DI c' t' n k'):DV c' t' n k' (upV V b v):=by
 refine ⟨hd,fun l hl=> ?_⟩
 have h1:=h.us hl
 have h2:=h.us hb
 rw [hu,Zw h2.2.2]
 by_cases e:l=b
 ·subst e;rw [Fa,A6v rfl];exact hv
 ·rw [Mf e,A6u e,Ra (x:=0) hS h1.2.2]
  exact h.vw l hl
theorem DV.stay {c':Chip} {t':TS} {k':Nat} (h:DV c t n k V) (hS:SameU t.uses c c') (hu:t'.uses=t.uses) (hd:DI c' t' n k'):DV c' t' n k' V:=by
 refine ⟨hd,fun l hl=> ?_⟩
 have h1:=h.us hl
 rw [hu,Ra (x:=0) hS h1.2.2]
 exact h.vw l hl
end
def Later (c:Chip) (n k m:Nat) (V:Nat→Blk):Prop :=
 ∀ d:Chip,d.blocks=c.blocks→Up d→d.pc=c.pc→d.wc=c.wc→∃ t2,Di d=(0,t2)∧DV d t2 n k V∧t2.lost.length+FP c+FW c≤m
theorem AllB.same {c c':Chip} (h:AllB c) (hb:c'.blocks=c.blocks):AllB c':=fun i b hi=>h i b (by rw [← hb];exact hi)
theorem Iz {c:Chip} {n k m v a:Nat} {u l:List Int} {V:Nat→Blk} (h:Hold c v u l a) (hw:WF n u l) (hl:c.blocks.length=n) (hb:AllB c) (hc:Cnt c (1000*k+1000)) (hv:v≤k+1) (hm:l.length+FP c+FW c≤m)
  (hV:∀ i:Nat,i+6<n→c.blocks[(at0 u (i:Nat)).toNat]? =some (V i)):Later c n k m V:=fun d h1 h2 h3 h4=>by
 obtain ⟨t,o1,o2,o3,o4⟩:=Xn h2 (h.same h1) hw (by rw [h1];exact hl) (hb.same h1) ⟨by rw [h3];exact hc.p0,by rw [h4];exact hc.w0⟩ hv
 exact ⟨t,o1,⟨o2,fun i hi=>by rw [o3,h1];exact hV i hi⟩,by rw [o4];exact hm⟩
def Ta (v w:Blk) (j:Nat):Prop:=∀ (i:Nat) (h:i<8),i<j→v.pages[i]=w.pages[i]∨v.pages[i]=D1 w.pages[i]
end
section
open Go.K
def PV (n k:Nat) (V:Nat→Blk) (b j:Nat) (p:Pg) (c:Chip) (t:TS) (r:Int×TS×Chip):Prop :=
  FrA c r.2.2∧∃ v:Blk,v.next=((j+1:Nat):Int)∧Ta v (V b) j ∧
  ((r.1=0∧DV r.2.2 r.2.1 n k (upV V b v)∧(∀ h:j<8,v.pages[j]=p)∧r.2.1.lost.length+FP r.2.2+FW r.2.2≤t.lost.length+FP c+FW c ∧
      (((Bl c (atD t (b:Nat)) j p).1=33∧t.lost.length+1≤r.2.1.lost.length∧∀ (i:Nat) (h:i<8),i<j→v.pages[i]=D1 (V b).pages[i])∨(Bl c (atD t (b:Nat)) j p=(0,r.2.2)∧r.2.1=t∧v=wrK (V b) j p))) ∨
   (r.1=34∧DV r.2.2 r.2.1 n k (upV V b v)∧4≤r.2.1.lost.length∧r.2.1.lost.length+FP r.2.2+FW r.2.2+1≤t.lost.length+FP c+FW c) ∨
   (r.1=30∧r.2.2.off=true∧¬ c.after<0∧(∃ m,∀ h:j<8,v.pages[j]=Cn m Aq p)∧Later r.2.2 n k (t.lost.length+FP c+FW c) (upV V b v)))
theorem O8 {w:Blk} {j:Nat} {q:Pg}:Ta (wrK w j q) w j:=fun i h hi=> .inl (by rw [Gh h,A6u (by omega)])
theorem Sn {w x v:Blk} {j:Nat} {more:List Pg} {q:Pg} (h:Oc (wrK w j q) v j more):Ta v w j:=fun i hi hlt=> .inr (by rw [h.2.1 i hi hlt,Gh hi,A6u (by omega)])
theorem Wy {w x v:Blk} {j:Nat} {more:List Pg} {q:Pg} (h:Oc (wrK w j q) v j more):∀ (i:Nat) (h:i<8),i<j→v.pages[i]=D1 w.pages[i]:=fun i hi hlt=>by rw [h.2.1 i hi hlt,Gh hi,A6u (by omega)]
theorem Rb (V:Nat→Blk) (b:Nat) (v w:Blk):upV (upV V b v) b w=upV V b w:=by
  funext l
  unfold upV
  split <;> rfl
theorem Ajq {c:Chip} {t:TS} {n k b j:Nat} {V:Nat→Blk} {p:Pg} {r:Int×TS×Chip} (h:DV c t n k V) (hk:k≤700000000000) (hf:FP c+FW c≤3) (hb:b+6<n) (hj:j<8) (hn:(V b).next=j) (hr:Sk n (b:Nat) j p c t r):PV n (k+20) V b j p c t r:=by
  have hu:=h.us hb
  have hlen:=h.di.len
  obtain ⟨a,ha⟩:∃ a:Nat,at0 t.uses (b:Nat)=(a:Nat):=⟨(at0 t.uses (b:Nat)).toNat,by omega⟩
  have hva:=h.vw b hb
  have hta:(at0 t.uses (b:Nat)).toNat=a:=by omega
  rw [hta] at hva
  obtain ⟨m,c1,f,hw,hA,hcase⟩:=Q9 h.di (by omega) hf (by omega) ha hva hj hn hr
  rcases hcase with ⟨h1,h2,rfl,h3⟩ | ⟨rfl,hpe,h1,h2,h0,hS,h3⟩ | ⟨rfl,hpe,h1,rfl⟩
  · refine ⟨f.all,wrK (V b) j (Cn m Aq p),by show (j:Int)+1=_;omega,O8,.inr (.inr ⟨rfl,h1,h2,⟨m,fun hj'=>by rw [Gh hj',A6v rfl]⟩,?_⟩)⟩
    obtain ⟨a0,_,hh,_⟩:=h.di.ti
    have fp:=f.fp
    have fw:=f.fw
    have hv:=h.di.ver
    refine Iz (hh.far (by omega) f) h.di.wf (f.len.trans hlen) hA ⟨by have:=h3.p0;grind,by have:=h3.w0;grind⟩ (by omega) (by grind) fun i hi=> ?_
    by_cases e:i=b
    · subst e;rw [Fa,hta];exact hw
    · have hui:=h.us hi
      rw [Mf e,f.oth _ (fun e2=>e (Zv h.di.wf.un hui.2.2 hu.2.2 (by omega)))]
      exact h.vw i hi
  · have fw:=f.fw
    have hD:=h.act hb (by rw [hta];exact f) (by rw [hta];exact hw) h1
    refine ⟨f.all.trans h0,?_⟩
    rcases h3 with ⟨q1,q2,q3,q4,q5⟩ | ⟨q1,q2,q3,q4,x,b',q5,q6,q7,q8,q9⟩ | ⟨q1,q2,q3,q4,q5,v,uu,ll,a0,q6,q6',q7,q8,q9⟩
    · refine ⟨_,by show (j:Int)+1=_;omega,O8,.inr (.inl ⟨q1,(hD.stay hS q3 q2).mono (by omega),Ab6 q2.wf q4,by omega⟩)⟩
    · refine ⟨b',by rw [q9.1];simp,Sn (x:=b') q9,.inl ⟨q1,?_,fun hj'=>q9.2.2 p hj' rfl,by omega,.inl ⟨hpe,q4,Wy (x:=b') q9⟩⟩⟩
      have:=(hD.moved hb hS (by rw [A33] at q7;exact q7) q8 q2).mono (k':=k+20) (by omega)
      rwa [Rb] at this
    · have q3':¬ c.after<0:=fun hp=>q3 (by rw [(f.pos hp).1];exact hp)
      have hc':Cnt r.2.2 (1000*((k+20:Nat):Int)+1000):=⟨by have:=q4.p0;omega,by have:=q4.w0;omega⟩
      have hl':r.2.2.blocks.length=n:=h0.len.trans h1.len
      rcases q9 with q9 | ⟨x,b',r1,r2,r3,r4,r5⟩
      · refine ⟨_,by show (j:Int)+1=_;omega,O8,.inr (.inr ⟨q1,q2,q3',⟨129,fun hj'=>by rw [Gh hj',A6v rfl]⟩,?_⟩)⟩
        refine Iz q7 q8 hl' q5 hc' (by omega) (by omega) fun i hi=> ?_
        rw [q9,Ra (x:=0) hS (h.us hi).2.2]
        exact hD.vw i hi
      · refine ⟨b',by rw [r5.1];simp,Sn (x:=b') r5,.inr (.inr ⟨q1,q2,q3',⟨258,fun hj'=>by rw [Fz (A6h _)];exact r5.2.2 p hj' rfl⟩,?_⟩)⟩
        refine Iz q7 q8 hl' q5 hc' (by omega) (by omega) fun i hi=> ?_
        rw [r3,A33,Zw hu.2.2]
        by_cases e:i=b
        · subst e;rw [A6v rfl,Fa];exact r4
        · rw [A6u e,Mf e,Ra (x:=0) hS (h.us hi).2.2,hD.vw i hi,Mf e]
  · refine ⟨f.all,_,by show (j:Int)+1=_;omega,O8,.inl ⟨rfl,(h.act hb (by rw [hta];exact f) (by rw [hta];exact hw) h1).mono (by omega),fun hj'=>by rw [Gh hj',A6v rfl];exact Fz (A6h _),?_,.inr ⟨hpe,rfl,by rw [Fz (A6h _)]⟩⟩⟩
    have fp:=f.fp
    have fw:=f.fw
    grind
def EV (n k:Nat) (V:Nat→Blk) (b:Nat) (c:Chip) (t:TS) (r:Int×TS×Chip):Prop :=
  FrA c r.2.2∧∃ v:Blk,(∀ (j:Nat) (h:j<8),v.pages[j]=Aq∨v.pages[j]=(V b).pages[j]) ∧
  ((r.1=0∧DV r.2.2 r.2.1 n k (upV V b v)∧v.next=0∧r.2.1.lost.length+FP r.2.2+FW r.2.2≤t.lost.length+FP c+FW c) ∨
   (r.1=34∧DV r.2.2 r.2.1 n k (upV V b v)∧4≤r.2.1.lost.length∧r.2.1.lost.length+FP r.2.2+FW r.2.2+1≤t.lost.length+FP c+FW c) ∨
   (r.1=30∧r.2.2.off=true∧¬ c.after<0∧Later r.2.2 n k (t.lost.length+FP c+FW c) (upV V b v)))
theorem DV.blk {c:Chip} {t:TS} {n k:Nat} {V:Nat→Blk} (h:DV c t n k V) {l:Nat} (hl:l+6<n):BI (V l)∧(V l).bad=false:=h.di.bs _ _ (h.vw l hl)
theorem BI.none {b:Blk} (h:BI b) (h0:b.next=0) (j:Nat) (hj:j<8):b.pages[j]=Aq:=h.bl j hj (by omega)
theorem Afc {c:Chip} {t:TS} {n k b:Nat} {V:Nat→Blk} {r:Int×TS×Chip} (h:DV c t n k V) (hk:k≤700000000000) (hf:FP c+FW c≤3) (hb:b+6<n) (hr:Q7 n (b:Nat) c t r):EV n (k+20) V b c t r:=by
  have hu:=h.us hb
  have hlen:=h.di.len
  obtain ⟨a,ha⟩:∃ a:Nat,at0 t.uses (b:Nat)=(a:Nat):=⟨(at0 t.uses (b:Nat)).toNat,by omega⟩
  have hva:=h.vw b hb
  have hta:(at0 t.uses (b:Nat)).toNat=a:=by omega
  rw [hta] at hva
  obtain ⟨b1,c1,f,hw,hbi,hA,hpg,hcase⟩:=T8 h.di (by omega) hf (by omega) ha hva hr
  rcases hcase with ⟨h1,h2,rfl,h3⟩ | ⟨h1,h2,h0,hS,h3⟩ | ⟨h1,h2,rfl⟩
  · refine ⟨f.all,b1,hpg,.inr (.inr ⟨rfl,h1,h2,?_⟩)⟩
    obtain ⟨a0,_,hh,_⟩:=h.di.ti
    have fp:=f.fp
    have fw:=f.fw
    have hv:=h.di.ver
    refine Iz (hh.far (by omega) f) h.di.wf (f.len.trans hlen) hA ⟨by have:=h3.p0;grind,by have:=h3.w0;grind⟩ (by omega) (by grind) fun i hi=> ?_
    by_cases e:i=b
    · subst e;rw [Fa,hta];exact hw
    · have hui:=h.us hi
      rw [Mf e,f.oth _ (fun e2=>e (Zv h.di.wf.un hui.2.2 hu.2.2 (by omega)))]
      exact h.vw i hi
  · have fp:=f.fp
    have hD:=h.act hb (by rw [hta];exact f) (by rw [hta];exact hw) h1
    refine ⟨f.all.trans h0,?_⟩
    rcases h3 with ⟨q1,q2,q3,q4,q5⟩ | ⟨q1,q2,q3,q4,x,b',q5,q6,q7,q8,q9⟩ | ⟨q1,q2,q3,q4,q5,v,uu,ll,a0,q6,q6',q7,q8,q9⟩
    · exact ⟨b1,hpg,.inr (.inl ⟨q1,(hD.stay hS q3 q2).mono (by omega),Ab6 q2.wf q4,by omega⟩)⟩
    · have hb0:b'.next=0:=by rw [q9.1];rfl
      have hbi':=(q2.bs _ _ q8).1
      refine ⟨b',fun j hj=> .inl (hbi'.none hb0 j hj),.inl ⟨q1,?_,hb0,by omega⟩⟩
      have:=(hD.moved hb hS (by rw [A33] at q7;exact q7) q8 q2).mono (k':=k+20) (by omega)
      rwa [Rb] at this
    · have q3':¬ c.after<0:=fun hp=>q3 (by rw [(f.pos hp).1];exact hp)
      have hc':Cnt r.2.2 (1000*((k+20:Nat):Int)+1000):=⟨by have:=q4.p0;omega,by have:=q4.w0;omega⟩
      have hl':r.2.2.blocks.length=n:=h0.len.trans h1.len
      rcases q9 with q9 | ⟨x,b',r1,r2,r3,r4,r5⟩
      · refine ⟨b1,hpg,.inr (.inr ⟨q1,q2,q3',?_⟩)⟩
        refine Iz q7 q8 hl' q5 hc' (by omega) (by omega) fun i hi=> ?_
        rw [q9,Ra (x:=0) hS (h.us hi).2.2]
        exact hD.vw i hi
      · have hb0:b'.next=0:=by rw [r5.1];rfl
        have hbi':=(q5 _ _ r4).1
        refine ⟨b',fun j hj=> .inl (hbi'.none hb0 j hj),.inr (.inr ⟨q1,q2,q3',?_⟩)⟩
        refine Iz q7 q8 hl' q5 hc' (by omega) (by omega) fun i hi=> ?_
        rw [r3,A33,Zw hu.2.2]
        by_cases e:i=b
        · subst e;rw [A6v rfl,Fa];exact r4
        · rw [A6u e,Mf e,Ra (x:=0) hS (h.us hi).2.2,hD.vw i hi,Mf e]
  · exact ⟨f.all,b1,hpg,.inl ⟨rfl,(h.act hb (by rw [hta];exact f) (by rw [hta];exact hw) h1).mono (by omega),h2,by have fp:=f.fp;have fw:=f.fw;grind⟩⟩
end
section
open Go.K
section
variable {c:Chip} {t:TS} {n k:Nat} {V:Nat→Blk} {b j:Int} {p:Pg} {r:Int×TS×Chip}
theorem Amp (h:DV c t n k V) {b j:Nat} (hb:b+6<n) (hj:j<8) (hn:(V b).next≠j) (hr:Sk n (b:Nat) (j:Nat) p c t r):r=(32,t,c):=by
 have hu:=h.us hb
 have hv:=h.vw b hb
 have hat:atD t (b:Nat)=((at0 t.uses (b:Nat)).toNat:Nat):=Zu (by omega) (by omega)
 have hp:=Y5 h.di.up (d:=p) hv hj hn
 rw [← hat] at hp
 have:=hr.2 (by rw [hp];simp)
 rw [hp] at this
 exact this
theorem Amq (h:DV c t n k V) {b j:Nat} (hb:b+6<n) (hj:j<8):B0 c (atD t (b:Nat)) j=0∧B3 c (atD t (b:Nat)) j=(V b).pages[j]:=by
 have hu:=h.us hb
 exact Ajp h.di (by omega) (by omega) (h.vw b hb) hj
theorem DV.fail (h:DV c t n k V) (pr:Bool) (s:Sl Int):DV (Gl c pr s) t n k V:=by
 have e:(Gl c pr s).blocks=c.blocks:=by unfold Gl;split <;> rfl
 refine ⟨⟨?_,h.di.ti.same e,h.di.wf,by rw [e];exact h.di.len,h.di.bs.same e,?_,h.di.ver⟩,by rw [e];exact h.vw⟩
 ·unfold Gl;split <;> exact ⟨h.di.up.off,h.di.up.dead,h.di.up.out⟩
 ·have h1:=h.di.cnt.p0
  have h2:=h.di.cnt.w0
  unfold Gl;split
  ·exact ⟨by grind,by omega⟩
  ·exact ⟨by omega,by grind⟩
end
end
section
open Go.K
structure Dsk where
 dk:Nat
 t:Tab
 c:Chip
@[irreducible] def dkH (d:Dsk):Hp:=(d.dk,true,C [ptr d.c.aC,ptr d.t.b] tDk)::(Dd d.c.aC d.t++(chH d.c++[]))
theorem Eq (d:Dsk):dkH d=(d.dk,true,C [ptr d.c.aC,ptr d.t.b] tDk)::(Dd d.c.aC d.t++(chH d.c++[])):=by unfold dkH;rfl
def DD (d:Dsk) (n k:Nat) (V:Nat→Blk):Prop:=DV d.c d.t.ts n k V
theorem Axj (d:Dsk):∀ x∈chH d.c,x∈dkH d:=fun x hx=>by
 rw [Eq]
 grind
section
variable {d:Dsk}
theorem Amr:Does Tryz.prog 66 [ptr d.dk] (dkH d) (Is (.int .i64 d.t.u.list.length) (dkH d)):=by
 rw [Eq];exact (Asu (a:=d.c.aC) (t:=d.t) (dk:=d.dk)).inIs sP aQ sP
theorem Ip {b k:Int}:Does Tryz.prog 100 [ptr d.dk,.int .i64 b,.int .i64 k] (dkH d)
  (Is (.tuple #[.agg (vbc (B3 d.c (atD d.t.ts b) k)).toArray,.int .i64 (B0 d.c (atD d.t.ts b) k)]) (dkH d)):=by
 rw [Eq];exact (Ab3 (c:=d.c) (t:=d.t) (dk:=d.dk) rfl).inIs sP aQ sP
theorem T9 {n k:Nat} {V:Nat→Blk} (h:DD d n k V) {b j:Int} {p:Pg}:Does Tryz.prog 171 [ptr d.dk,.int .i64 b,.int .i64 j,.agg (vbc p).toArray] (dkH d)
  (fun v H=>∃ (t':Tab) (c':Chip) (e:Int),v= .int .i64 e∧H=dkH ⟨d.dk,t',c'⟩++[]∧Sk n b j p d.c d.t.ts (e,t'.ts,c')):=by
 rw [Eq]
 refine (Ab5 (c:=d.c) (t:=d.t) (dk:=d.dk) (n:=n) rfl h.di.len h.di.wt).inn sP fun v Y ⟨t',e,c',h1,h2,h3,h4,h5⟩=> ?_
 refine ⟨_,⟨t',c',e,h2,rfl,h5⟩,?_⟩
 rw [h3,Eq]
 simp only [h4]
 exact ⟨_,_,aQ,sP⟩
theorem Ams {n k:Nat} {V:Nat→Blk} (h:DD d n k V) {b:Int}:Does Tryz.prog 170 [ptr d.dk,.int .i64 b] (dkH d)
  (fun v H=>∃ (t':Tab) (c':Chip) (e:Int),v= .int .i64 e∧H=dkH ⟨d.dk,t',c'⟩++[]∧Q7 n b d.c d.t.ts (e,t'.ts,c')):=by
 rw [Eq]
 refine (Ajm (c:=d.c) (t:=d.t) (dk:=d.dk) (n:=n) rfl h.di.len h.di.wt).inn sP fun v Y ⟨t',e,c',h1,h2,h3,h4,h5⟩=> ?_
 refine ⟨_,⟨t',c',e,h2,rfl,h5⟩,?_⟩
 rw [h3,Eq]
 simp only [h4]
 exact ⟨_,_,aQ,sP⟩
theorem Amt (c:Chip) (pr:Bool) (s:Sl Int):(Gl c pr s).aC=c.aC:=by unfold Gl;split <;> rfl
theorem Asy {pr:Bool} {s:Sl Int} (hs:s.list.length≤1000):Does Tryz.prog 34 [ptr d.c.aC,.bool pr,s.val] (dkH d++(s.hp tI++[]))
  (fun v H=>∃ s':Sl Int,v= .tuple #[]∧H=dkH ⟨d.dk,d.t,Gl d.c pr s'⟩++(s.hp tI++[])∧s'.list=s.list):=by
 rw [Eq];simp only [A4n,A34]
 refine (Asx (c:=d.c) (pr:=pr) rfl hs).inn sP fun v Y ⟨s',h1,h2,h3,h4⟩=> ?_
 refine ⟨_,⟨s',h1,rfl,h3⟩,?_⟩
 rw [h2,Eq];simp only [Amt,A4n,A34]
 exact ⟨_,_,aQ,sP⟩
end
theorem Amu (m:Nat):(He m []).countP id=0:=by
 unfold He
 rw [List.countP_map]
 exact List.countP_eq_zero.2 fun x _=>(show ¬ false=true from A3r)
structure New0 (d:Dsk) (m:Nat):Prop where
 dd:DD d m 0 fun _=>Hf false
 pf:d.c.pf.list=[]
 wf:d.c.wf.list=[]
 af:d.c.after<0
 lost:d.t.ts.lost.length=0
 uses:d.t.ts.uses=O6 (He m []) ((m:Int) - 6) m
theorem Ajr {pp aC aB m:Nat} (hm:16≤m∧m≤40) (hX:Xk (He m [])=false):Does Tryz.prog 84 [ptr aC] (chH (Ds (-1) 0 pp aC aB m []))
  (fun v H=>∃ d:Dsk,v= .tuple #[ptr d.dk,.int .i64 0]∧H=dkH d++[]∧New0 d m):=by
 refine (Afa (pp:=pp) (aC:=aC) (aB:=aB) hm hX).mono fun v H ⟨dk,tb,c',h1,h2,h3,_,h4,h5⟩=> ?_
 refine ⟨⟨dk,tb,c'⟩,h1,by rw [Eq,h2,← h3];simp,h4.di h5,h4.pf,h4.wfl,h4.af,?_,h4.rel.uu.symm⟩
 have:=h4.rel.count
 rw [Amu] at this
 grind
theorem Axk {c:Chip} (h:c.pf.list=[]):FP c=0:=by unfold FP;rw [h];rfl
theorem Axl {c:Chip} (h:c.wf.list=[]):FW c=0:=by unfold FW;rw [h];rfl
end
section
open Go.K
def nF (p:Pg) (kind:By):Wd×Bool:=((C2 8 (Bf p).2.1 false).1,(decide ((Bf p).2.2.2=0) && decide (((Bf p).1.toNat:Int)=kind.toNat)) && decide (((Bf p).2.1.length:Int)=8))
def Ud (kind:By) (x:Wd):Pg:=Cj kind (Bz 8 x)
theorem I1 {kind:By} (h:0<kind.toNat∧kind.toNat<255) (x:Wd):Cv kind (Bz 8 x)=false:=by
 unfold Cv
 rw [A4]
 simp
 omega
theorem Axq {kind:By} (h:0<kind.toNat∧kind.toNat<255) (x:Wd):nF (Ud kind x) kind=(x,true):=by
 have hr:=Hl (I1 h x)
 unfold nF Ud
 rw [hr]
 have h1:(Bz 8 x).length=8:=A4 8 x
 have h2:C2 8 (Bz 8 x) false=(Ec (Bz 8 x) 8,[],false):=by
  have:=K0 (k:=8) (xs:=Bz 8 x) (r:=[]) (bad:=false) h1
  rwa [A42] at this
 simp [h2,Kz,h1]
theorem Am7 {p:Pg} {kind:By} (h:(Bf p).2.2.2≠0):(nF p kind).2=false:=by
 unfold nF
 simp [h]
theorem Pa {kind:By}:(nF Aq kind).2=false:=Am7 (by rw [El Qj];decide)
theorem Fv {kind:By} (h:0<kind.toNat∧kind.toNat<255) (x:Wd):D1 (Ud kind x)=Ud kind x:=Xm (I1 h x)
abbrev Hh (x:Wd):Pg:=Ud 2 x
abbrev Pb (x:Wd):Pg:=Ud 3 x
structure LB where
 wear:Wd
 known:Bool
 seq:Wd
 ready:Bool
 next:Int
def lbC (x:LB):List Value:=[wv x.wear,.bool x.known,wv x.seq,.bool x.ready,.int .i64 x.next]
instance:Cel LB:=⟨5,lbC,fun _=>rfl,fun _=>rfl⟩
def lbs (l:List LB):List Value:=l.flatMap lbC
def A0 (v:Blk) (i:Nat):Pg:=if h:i<8 then v.pages[i] else Aq
def Hi (v:Blk):Nat→Nat
 | 0=>8
 | k+1=>if Hi v k=8 - k∧Bh (A0 v (7 - k))=true then 7 - k else Hi v k
def Nw (v:Blk):Nat:=Hi v 8
theorem Ue (v:Blk):∀ k,k≤8→8 - k≤Hi v k∧Hi v k≤8
 | 0,_=>⟨A6h _,A6h _⟩
 | k+1,h=>by
  have ih:=Ue v k (by omega)
  unfold Hi
  split <;> omega
@[irreducible] def De (v:Blk):LB:=⟨(nF (A0 v 0) 2).1,(nF (A0 v 0) 2).2,if (nF (A0 v 1) 3).2=true then (nF (A0 v 1) 3).1 else 0,false,if (nF (A0 v 1) 3).2=true then (Nw v:Int) else 8⟩
theorem Uf {v:Blk} {k:Nat} (h:Hi v k=8 - k) (hb:Bh (A0 v (7 - k))=false) (hk:k≤8):∀ m,k<m→m≤8→Hi v m=8 - k
 | 0,h1,_=>by omega
 | m+1,h1,h2=>by
  unfold Hi
  by_cases e:m=k
  ·grind
  ·have ih:=Uf h hb hk m (by omega) (by omega)
   rw [ih,A6u (by omega)]
theorem Am8 {v:Blk} {k:Nat} (h:Hi v k=8 - k) (hb:Bh (A0 v (7 - k))=true):Hi v (k+1)=7 - k:=by
 unfold Hi
 rw [A6v ⟨h,hb⟩]
theorem Afj {v:Blk} {k:Nat} (h:Hi v k=8 - k) (hb:Bh (A0 v (7 - k))=false) (hk:k<8):Nw v=8 - k:=Uf h hb (by omega) 8 hk (A6h _)
def bAt (bs:List LB) (b:Nat):LB:=bs.getD b ⟨0,false,0,false,0⟩
theorem Tk {bs:List LB} {b:Nat} {x:LB} (h:bs[b]? =some x):bAt bs b=x:=by simp [bAt,A18,h]
theorem Er {bs:List LB} {b:Nat} (h:b<bs.length):bs[b]? =some (bAt bs b):=by
 rw [A2i h]
 simp [bAt,A18,h]
def D7 (bs:List LB):Nat→Int
 | 0=> -1
 | k+1=>if 0<(bAt bs k).seq.toNat∧(D7 bs k<0∨(bAt bs (D7 bs k).toNat).seq.toNat<(bAt bs k).seq.toNat) then k else D7 bs k
theorem Lb (bs:List LB):∀ k,(D7 bs k= -1∧∀ j<k,(bAt bs j).seq.toNat=0)∨(∃ l:Nat,D7 bs k=l∧l<k∧0<(bAt bs l).seq.toNat∧∀ j<k,(bAt bs j).seq.toNat≤(bAt bs l).seq.toNat)
 | 0=> .inl ⟨rfl,fun j hj=>by omega⟩
 | k+1=>by
  rcases Lb bs k with ⟨h1,h2⟩ | ⟨l,h1,h2,h3,h4⟩
  ·unfold D7
   rw [h1]
   by_cases h:0<(bAt bs k).seq.toNat
   ·rw [A6v ⟨h,.inl (by omega)⟩]
    grind
   grind
  ·unfold D7
   rw [h1,A33]
   by_cases h:(bAt bs l).seq.toNat<(bAt bs k).seq.toNat
   ·rw [A6v ⟨by omega,.inr h⟩]
    grind
   ·rw [A6u (fun h5=>by rcases h5.2 with h6 | h6 <;> omega)]
    grind
def Sp (bs:List LB):Nat→Wd
 | 0=>0
 | k+1=>if (Sp bs k).toNat<(bAt bs k).wear.toNat then (bAt bs k).wear else Sp bs k
def Ig (m:Wd) (x:LB):LB:=if x.known=true then x else { x with wear:=m }
def D2 (V:Nat→Blk) (nb:Nat):List LB×Int :=
 let bs:=(List.range nb).map fun b=>De (V b)
 (bs.map (Ig (Sp bs nb)),D7 bs nb)
end
section
open Go.K
theorem Amv {c:Chip} {t2:TS} (hb:2≤c.blocks.length∧c.blocks.length≤1000) (ho:Di c=(0,t2)):Does Tryz.prog 83 [ptr c.aC] (chH c)
  (fun v H=>∃ (dk:Nat) (tb:Tab),v= .tuple #[ptr dk,.int .i64 0]∧H=(dk,true,C [ptr c.aC,ptr tb.b] tDk)::(Dd c.aC tb++(chH c++[]))∧tb.ts=t2):=by
 refine zF 17 Tryz.func83 ?_
 refine zC ?_
 refine zE rfl (Az2 (c:=c) rfl (by omega) ho) ?_
 rintro _ _ ⟨tb,rfl,rfl,htb⟩
 refine zW ?_
 refine zE rfl (Ahl (a:=c.aC) (tb:=tb.b)) ?_
 rintro _ _ ⟨dk,rfl,rfl⟩
 refine zW ?_
 exact zL (hR:=by exact ⟨dk,tb,rfl,rfl,htb⟩)
theorem Asz {d:Dsk} {t2:TS} (hb:2≤d.c.blocks.length∧d.c.blocks.length≤1000) (ho:Di d.c=(0,t2)):Does Tryz.prog 83 [ptr d.c.aC] (dkH d)
  (fun v H=>∃ (dk':Nat) (tb:Tab),v= .tuple #[ptr dk',.int .i64 0]∧H=dkH ⟨dk',tb,d.c⟩++[]∧tb.ts=t2):=by
 rw [Eq]
 refine (Amv hb ho).inn sP fun v Y ⟨dk',tb,h1,h2,h3⟩=> ?_
 refine ⟨_,⟨dk',tb,h1,rfl,h3⟩,?_⟩
 rw [h2,Eq]
 simp only [A42]
 exact ⟨_,_,aQ,sP⟩
theorem DV.same {c c':Chip} {t:TS} {n k:Nat} {V:Nat→Blk} (h:DV c t n k V) (hb:c'.blocks=c.blocks) (up:Up c') (hp:c'.pc=c.pc) (hw:c'.wc=c.wc):DV c' t n k V :=
 ⟨⟨up,h.di.ti.same hb,h.di.wf,by rw [hb];exact h.di.len,h.di.bs.same hb,⟨by rw [hp];exact h.di.cnt.p0,by rw [hw];exact h.di.cnt.w0⟩,h.di.ver⟩,by rw [hb];exact h.vw⟩
section
variable {d:Dsk}
theorem Az4:Does Tryz.prog 38 [ptr d.c.aP] (dkH d) (Is (.tuple #[]) (dkH ⟨d.dk,d.t,onC d.c⟩)):=by
 rw [Eq,Eq]
 exact (Aso (c:=d.c)).inIs sP aQ sP
theorem Axm {a k:Int}:Does Tryz.prog 36 [ptr d.c.aP,.int .i64 a,.int .i64 k] (dkH d) (Is (.tuple #[]) (dkH ⟨d.dk,d.t,Xj d.c a k⟩)):=by
 rw [Eq,Eq]
 exact (Amh (c:=d.c)).inIs sP aQ sP
end
end
section
open Go.K
instance agg68:Agg Tryz.prog 68 false:=⟨⟨_,Tryz.underlying68,rfl⟩⟩
instance und69:Und Tryz.prog 69 (.slice 140):=⟨Tryz.underlying69⟩
instance agg69:Agg Tryz.prog 69 false:=⟨⟨_,Tryz.underlying69,rfl⟩⟩
instance agg140:Agg Tryz.prog 140 true:=⟨⟨_,Tryz.underlying140,rfl⟩⟩
instance siz140:Siz Tryz.prog 140 5:=⟨by kernel_rfl⟩
instance zer140:Zer Tryz.prog 140 ([.int .u64 0,.bool false,.int .u64 0,.bool false,.int .i64 0]):=⟨by kernel_rfl⟩
instance fld71_0:Fld Tryz.prog 71 0 0:=⟨⟨_,_,0,Tryz.underlying71,rfl,by kernel_rfl,rfl⟩⟩
instance fld71_1:Fld Tryz.prog 71 1 1:=⟨⟨_,_,0,Tryz.underlying71,rfl,by kernel_rfl,rfl⟩⟩
instance fld140_0:Fld Tryz.prog 140 0 0:=⟨⟨_,_,0,Tryz.underlying140,rfl,by kernel_rfl,rfl⟩⟩
instance fld140_1:Fld Tryz.prog 140 1 1:=⟨⟨_,_,0,Tryz.underlying140,rfl,by kernel_rfl,rfl⟩⟩
instance fld140_2:Fld Tryz.prog 140 2 2:=⟨⟨_,_,0,Tryz.underlying140,rfl,by kernel_rfl,rfl⟩⟩
instance fld140_4:Fld Tryz.prog 140 4 4:=⟨⟨_,_,0,Tryz.underlying140,rfl,by kernel_rfl,rfl⟩⟩
instance plc140:Plc Tryz.prog 140 [(0,1),(1,1),(2,1),(3,1),(4,1)]:=⟨⟨_,Tryz.underlying140,fun _=>by kernel_rfl⟩⟩
abbrev tLg:TypeId:=71
abbrev tLB:TypeId:=140
theorem Zy (x:LB):(lbC x).length=5:=rfl
section
variable {bs:List LB} {b:Nat} {x:LB}
theorem Fs {o:Nat} {v:Value} (h:bs[b]? =some x) (ho:o<5) (hv:nth (lbC x) o=some v):nth (lbs bs) (b*5+o)=some v:=by
 rw [lbs,Lf (n:=5) (fun b _=>Zy b) h ho];exact hv
theorem Rf (h:bs[b]? =some x):cut (lbs bs) (b*5) 5=some (lbC x):=by
 have:=Pj (f:=lbC) (n:=5) (o:=0) (m:=5) (fun b _=>Zy b) h rfl
 rw [A56] at this;exact this
theorem Fb {o:Nat} {vs:List Value} {y:LB} (h:bs[b]? =some x) (hs:A7 (lbC x) o vs=some (lbC y)):A7 (lbs bs) (b*5+o) vs=some (lbs (bs.set b y)) :=
 Gb (f:=lbC) (n:=5) (fun b _=>Zy b) h hs
end
abbrev lgC (dk bb nb:Nat) (last:Int):List Value:=[ptr dk,.slice (some ⟨bb,0,none⟩) nb nb,.int .i64 last]
theorem Kb {d:Dsk} {n k:Nat} {V:Nat→Blk} (h:DD d n k V) {b j:Nat} (hb:b+6<n) (hj:j<8):B0 d.c (atD d.t.ts (b:Nat)) j=0∧B3 d.c (atD d.t.ts (b:Nat)) j=A0 (V b) j:=by
 have:=Amq h hb hj
 unfold A0
 rw [A6t hj]
 exact this
section
variable {d:Dsk} {n k lg bb nb:Nat} {last:Int} {V:Nat→Blk}
theorem Xt (h:DD d n k V) {b j:Nat} {kind:By} (hb:b+6<n) (hj:j<8):Does Tryz.prog 190 [ptr lg,.int .i64 (b:Nat),.int .i64 (j:Nat),bv kind] ((lg,true,C (lgC d.dk bb nb last) tLg)::(dkH d++[]))
  (Is (.tuple #[wv (nF (A0 (V b) j) kind).1,.bool (nF (A0 (V b) j) kind).2,.int .i64 0]) ((lg,true,C (lgC d.dk bb nb last) tLg)::(dkH d++[]))):=by
 have hrd:=Kb h hb hj
 refine zF 52 Tryz.func190 ?_
 refine zC ?_
 refine zI rfl ((Ip (d:=d) (b:=(b:Nat)) (k:=(j:Nat))).to (by rw [hrd.1,hrd.2]) rfl) ?_
 refine zC ?_
 refine Ah rfl (fun b11=> ?_)
 rw [Cc]
 first | refine Ac rfl rfl uD (B9) (Ai) (Bi (by first | exact Ai | exact A20 ..)) ?_ | refine Ac rfl rfl uD rfl rfl rfl ?_
 refine zC ?_
 refine Ay rfl ?_
 refine zA ?_
 refine Ae (Ao rfl mM (by first | exact Ax | rfl)) rfl ?_
 refine zE rfl (Ka (p:=A0 (V b) j)) ?_
 rintro _ _ ⟨s,rfl,rfl,hs,ho⟩
 refine zW ?_
 have hsl:s.list.length≤70000000000000:=(by have:=Sb (A0 (V b) j);rw [hs];omega)
 refine zE rfl (Fj (s:=s) (T:=tU8) hsl) ?_
 rintro _ _ ⟨r,rfl,rfl,hr1,hr2⟩
 refine A6 aQ ?_
 refine zE rfl (Fk (r:=r) (n:=8) (by rw [hr1];exact hsl)) ?_
 rintro _ _ ⟨x,sl,bad,rfl,rfl,hx,_,_⟩
 refine zW ?_
 refine Ak (N1 Tryz.results190 (Af rfl) (Af rfl) (Af rfl)) ?_ sP
 rw [hr1,hr2,hs,show A8 8 8=8 from rfl] at hx;rw [hx,hs];rfl
theorem Ata (h:DD d n k V) {b:Nat} {bs:List LB} (hb:b+6<n) (hn:bs.length=nb) (hbn:b<nb):Does Tryz.prog 148 [ptr lg,.int .i64 (b:Nat)] ((lg,true,C (lgC d.dk bb nb last) tLg)::(bb,true,C (lbs bs) tLB)::(dkH d++[]))
  (Is (.int .i64 0) ((lg,true,C (lgC d.dk bb nb last) tLg)::(bb,true,C (lbs (bs.set b (De (V b)))) tLB)::(dkH d++[]))):=by
 have hg:bs[b]? =some bs[b]:=A2i (by omega)
 refine zF 70 Tryz.func148 ?_
 refine zC ?_
 refine Ah rfl (fun b5=> ?_)
 refine zC ?_
 refine zI rfl (Xt (d:=d) (bb:=bb) (nb:=nb) (last:=last) h (b:=b) (j:=0) (kind:=2) hb (by omega)) ?_
 refine zC ?_
 refine Ay rfl ?_
 refine zC ?_
 refine zI rfl (Xt (d:=d) (bb:=bb) (nb:=nb) (last:=last) h (b:=b) (j:=1) (kind:=3) hb (by omega)) ?_
 refine zC ?_
 refine Ay rfl ?_
 iterate 2 refine sa ?_
 refine Rr [0,1,5,6] kQ ([]) ((b5,true,C (lbC ⟨(nF (A0 (V b) 0) 2).1,(nF (A0 (V b) 0) 2).2,(if (nF (A0 (V b) 1) 3).2=true then (nF (A0 (V b) 1) 3).1 else 0),false,8⟩) tLB)::(lg,true,C (lgC d.dk bb nb last) tLg)::(bb,true,C (lbs bs) tLB)::(dkH d++[])) ?_ ?_
 ·refine zC ?_
  refine Aa rfl (fun c36=> ?_) (fun c36=> ?_)
  ·skip
   have hokF:¬ (nF (A0 (V b) 1) 3).2=true:=(by simpa using c36)
   refine zC ?_
   try refine Ag ?_
   first | (rw [A6u hokF];exact cZ rfl) | (rw [A6v hok];exact cZ rfl)
  ·skip
   have hok:(nF (A0 (V b) 1) 3).2=true:=(by simpa using c36)
   refine zC ?_
   try refine Ag ?_
   first | (rw [A6u hokF];exact cZ rfl) | (rw [A6v hok];exact cZ rfl)
 refine Rr [0,1,5] kQ ([]) ((b5,true,C (lbC (De (V b))) tLB)::(lg,true,C (lgC d.dk bb nb last) tLg)::(bb,true,C (lbs bs) tLB)::(dkH d++[])) ?_ ?_
 ·refine zC ?_
  refine Ar [0,1,5,6] kQ (fun (kk:Nat)=>[(8,.int .i64 (7 - (kk:Int)))]) (fun kk=>(b5,true,C (lbC ⟨(nF (A0 (V b) 0) 2).1,(nF (A0 (V b) 0) 2).2,(if (nF (A0 (V b) 1) 3).2=true then (nF (A0 (V b) 1) 3).1 else 0),false,8 - (kk:Int)⟩) tLB)::(lg,true,C (lgC d.dk bb nb last) tLg)::(bb,true,C (lbs bs) tLB)::(dkH d++[])) (fun kk=>kk≤8∧Hi (V b) kk=8 - kk∧((nF (A0 (V b) 1) 3).2=false→kk=0)) (fun kk=>8 - kk) (0) ⟨A6j _,rfl,fun _=>rfl⟩ kP sP ?_
  rintro kk ⟨h0,h1,h2⟩
  refine zC ?_
  refine Aa rfl (fun c42=> ?_) (fun c42=> ?_)
  ·simp only [A4k,A2w,A4f,A2m] at c42
   have hok:=c42.2
   have hk8:kk<8:=(by omega)
   have e7:(7 - (kk:Int))=((7 - kk:Nat):Int):=(by omega)
   have hrd:=Kb h hb (j:=7 - kk) (by omega)
   refine zC ?_
   refine zI rfl ((Ip (d:=d) (b:=(b:Nat)) (k:=7 - (kk:Int))).to (by rw [e7,hrd.1,hrd.2]) rfl) ?_
   refine zC ?_
   refine Ah rfl (fun b9=> ?_)
   rw [Cc]
   first | refine Ac rfl rfl uD (B9) (Ai) (Bi (by first | exact Ai | exact A20 ..)) ?_ | refine Ac rfl rfl uD rfl rfl rfl ?_
   refine zC ?_
   refine Ay rfl ?_
   refine zA ?_
   refine Ae (Ao rfl mM (by first | exact Ax | rfl)) rfl ?_
   refine zI rfl (Re (p:=A0 (V b) (7 - kk))) ?_
   refine zC ?_
   refine Aa rfl (fun c60=> ?_) (fun c60=> ?_)
   ·skip
    have hbl:Bh (A0 (V b) (7 - kk))=false:=(by simpa using c60)
    have hfin:(⟨(nF (A0 (V b) 0) 2).1,(nF (A0 (V b) 0) 2).2,(if (nF (A0 (V b) 1) 3).2=true then (nF (A0 (V b) 1) 3).1 else 0),false,8 - (kk:Int)⟩:LB)=De (V b):=(by unfold De;rw [A6v hok,A6v hok,Afj h1 hbl hk8];congr 1;omega)
    refine zC ?_
    try refine Ag ?_
    rw [← hfin];exact cZ rfl
   ·skip
    have hbl:Bh (A0 (V b) (7 - kk))=true:=(by simpa using c60)
    iterate 3 refine sa ?_
    refine Ae (show Rd _ _ _ _ (.int .i64 (8 - ((kk+1:Nat):Int))) from (by rw [show (8 - ((kk+1:Nat):Int))=7 - (kk:Int) by omega];exact Cx rfl)) rfl ?_
    iterate 7 refine sb ?_
    refine Ae (show Rd _ _ _ _ (.int .i64 (7 - ((kk+1:Nat):Int))) from (by rw [show (7 - ((kk+1:Nat):Int))=7 - (kk:Int) - 1 by omega];exact Fw rfl rfl (by omega))) rfl ?_
    refine zC ?_
    exact ⟨kk+1,⟨by omega,(by rw [Am8 h1 hbl];omega),fun h9=>(by rw [hok] at h9;cases h9)⟩,(by omega),lZ⟩
  ·simp only [A4k,A2w,A4f,A2m] at c42
   have hfin:(⟨(nF (A0 (V b) 0) 2).1,(nF (A0 (V b) 0) 2).2,(if (nF (A0 (V b) 1) 3).2=true then (nF (A0 (V b) 1) 3).1 else 0),false,8 - (kk:Int)⟩:LB)=De (V b):=(by unfold De;rcases c42 with h9 | h9;(have h8:kk=8:=by omega);subst h8;(by_cases hok:(nF (A0 (V b) 1) 3).2=true);(rw [A6v hok,A6v hok,show Nw (V b)=0 from h1];rfl);(exact absurd (h2 (by simpa using hok)) (by omega));(rw [h2 h9,A6u (by rw [h9];simp),A6u (by rw [h9];simp)];rfl))
   refine zC ?_
   try refine Ag ?_
   rw [← hfin];exact cZ rfl
 refine zC ?_
 refine At [(7,[(0,false),(1,false),(2,false),(3,false),(4,false),(5,false),(6,false)]),(8,[(7,true)])] (by kernel_rfl) ?_
 iterate 6 refine sb ?_
 refine Aj (Ao rfl mM (show cut (lbC (De (V b))) 0 5=some (lbC (De (V b))) from rfl)) ?_
 refine Aj (Co rfl rfl (by omega)) ?_
 refine zA ?_
 refine Ac (cs':=lbs (bs.set b (De (V b)))) rfl rfl uD rfl rfl (by simp only [A33];exact Fb (o:=0) (vs:=lbC (De (V b))) (y:=De (V b)) hg rfl) ?_
 refine zC ?_
 exact zS
end
end
section
open Go.K
instance zer71:Zer Tryz.prog 71 ([.pointer none,.slice none 0 0,.int .i64 0]):=⟨by kernel_rfl⟩
instance fld71_2:Fld Tryz.prog 71 2 2:=⟨⟨_,_,0,Tryz.underlying71,rfl,by kernel_rfl,rfl⟩⟩
instance plc71:Plc Tryz.prog 71 [(0,1),(1,1),(2,1)]:=⟨⟨_,Tryz.underlying71,fun _=>by kernel_rfl⟩⟩
instance byt140:Byt Tryz.prog 140 40:=⟨by kernel_rfl⟩
def Zz:LB:=⟨0,false,0,false,0⟩
theorem Atb (n:Nat):Gd n [Value.int .u64 0,.bool false,.int .u64 0,.bool false,.int .i64 0]=lbs (List.replicate n Zz):=by
 induction n with
 | zero=>rfl
 | succ n ih =>
  show [Value.int .u64 0,.bool false,.int .u64 0,.bool false,.int .i64 0]++Gd n [Value.int .u64 0,.bool false,.int .u64 0,.bool false,.int .i64 0]=lbs (Zz::List.replicate n Zz)
  rw [ih]
  rfl
def Fc (V:Nat→Blk) (nb:Nat):List LB:=(List.range nb).map fun b=>De (V b)
theorem Mi {V:Nat→Blk} {nb j:Nat} (h:j<nb):bAt (Fc V nb) j=De (V j):=by
 simp [bAt,Fc,A18,h]
theorem Xu (V:Nat→Blk) (nb:Nat):(Fc V nb).length=nb:=by simp [Fc]
theorem Dn {bs:List LB} {i j:Nat} {x:LB} (h:i<bs.length):bAt (bs.set i x) j=if j=i then x else bAt bs j:=by
 unfold bAt
 rw [A18,A18,A39]
 grind
theorem Am9 {bs cs:List LB} (hl:bs.length=cs.length) (h:∀ j<bs.length,bAt bs j=bAt cs j):bs=cs:=by
 apply A4o hl
 intro j h1 h2
 have:=h j h1
 rwa [Tk (A2i h1),Tk (A2i h2)] at this
theorem Rh (bs:List LB) (k:Nat): -1≤D7 bs k∧D7 bs k<k:=by
 rcases Lb bs k with ⟨h,_⟩ | ⟨l,h,h2,_⟩ <;> omega
theorem Pc {P:Program} {E:Env} {H:Hp} {x y:Operand} {ts:Array TypeId} {a b:Wd} (hx:ev E x=some (wv a)) (hy:ev E y=some (wv b)):Rd P E H (.call ⟨.builtin .max,#[x,y],ts⟩) (wv (if a.toNat<b.toNat then b else a)):=by
 have h:=Ms (P:=P) (H:=H) (ts:=ts) hx hy
 have e:(Value.int .u64 (max (a.toNat:Int) (b.toNat:Int)))=wv (if a.toNat<b.toNat then b else a):=by
  unfold wv
  grind
 rw [← e]
 exact h
section
variable {d:Dsk} {n k nb:Nat} {V:Nat→Blk}
theorem Acb (h:DD d n k V) (hnb:nb+6=n):Does Tryz.prog 109 [ptr d.dk] (dkH d)
  (fun v H=>∃ lg bb,v= .tuple #[ptr lg,.int .i64 0]∧H=(lg,true,C (lgC d.dk bb nb (D2 V nb).2) tLg)::(bb,true,C (lbs (D2 V nb).1) tLB)::(dkH d++[])):=by
 have hul:d.t.u.list.length=nb:=by have:d.t.u.list.length+6=n:=h.di.wf.len;omega
 have hn40:=h.di.wf.n2
 refine zF 99 Tryz.func109 ?_
 refine zC ?_
 refine zI rfl ((Amr (d:=d)).to (by rw [hul]) rfl) ?_
 refine Aoo rfl rfl (by omega) rfl (fun b13=> ?_)
 rw [A33,Atb]
 refine zC ?_
 refine Cy rfl rfl (fun b15=> ?_)
 refine zC ?_
 refine Ar [4,20] kQ (fun (st:Nat×List LB×Int×Wd)=>[(21,.int .i64 st.1),(5,wv st.2.2.2)]) (fun st=>(b15,true,C (lgC d.dk b13 nb st.2.2.1) tLg)::(b13,true,C (lbs st.2.1) tLB)::(dkH d++[])) (fun st=>st.1≤nb∧st.2.1.length=nb∧(∀ j<st.1,bAt st.2.1 j=bAt (Fc V nb) j)∧st.2.2.1=D7 (Fc V nb) st.1∧st.2.2.2=Sp (Fc V nb) st.1) (fun st=>nb - st.1) ((0,List.replicate nb Zz,-1,0)) ⟨A6j _,A20,fun j hj=>(by cases hj),rfl,rfl⟩ kP sP ?_
 rintro ⟨i,bs,last,most⟩ ⟨g0,g1,g2,g3,g4⟩
 simp only at g0 g1 g2 g3 g4
 refine zC ?_
 refine Aa rfl (fun c22=> ?_) (fun c22=> ?_)
 ·simp only [A4f] at c22
  have hi:i<nb:=(by omega)
  have hset:(bs.set i (De (V i))).length=nb:=(by rw [A47];exact g1)
  have hgi:(bs.set i (De (V i)))[i]? =some (De (V i)):=(by simp [g1,hi])
  have hrg:=Rh (Fc V nb) i
  have hb1:∀ j<i+1,bAt (bs.set i (De (V i))) j=bAt (Fc V nb) j:=(fun j hj=>by rw [Dn (by omega)];by_cases e:j=i;(subst e;rw [A6v rfl,Mi hi]);grind)
  refine zC ?_
  refine zI rfl (Ata (d:=d) (bb:=b13) (nb:=nb) (last:=last) h (b:=i) (bs:=bs) (by omega) g1 hi) ?_
  refine zC ?_
  refine Ay rfl ?_
  iterate 9 refine sb ?_
  refine Ae (Co rfl rfl (by omega)) rfl ?_
  refine Ae (Ao rfl mM (by exact Rf hgi)) rfl ?_
  refine Ah rfl (fun b8=> ?_)
  iterate 8 refine sb ?_
  refine Ae (Pc rfl rfl) rfl ?_
  refine zC ?_
  refine At [(26,[(0,false),(1,false),(2,false),(3,false),(4,false),(5,false),(6,false),(7,false),(8,false),(9,false),(10,false),(11,false),(12,false),(13,false),(14,false),(15,false),(16,false),(17,false),(18,false),(19,false),(20,false),(21,false),(22,false),(23,false),(24,false),(25,false)])] (by kernel_rfl) ?_
  iterate 5 refine sb ?_
  refine' Fe rfl rfl inferInstance rfl rfl rfl rfl rfl (fun hg44=> ?_) ?_
  rotate_left
  ·try (simp at hg44;show _)
   iterate 12 refine sb ?_
   refine' Lz rfl rfl inferInstance rfl rfl rfl rfl rfl (fun hg50=> ?_) ?_
   rotate_left
   ·try (simp at hg50;show _)
    iterate 21 refine sb ?_
    refine Aj (Co rfl rfl (by omega)) ?_
    refine zA ?_
    refine Aj (show Rd _ _ _ _ (wv (bAt (bs.set i (De (V i))) last.toNat).seq) from Al rfl mM (Fs (o:=2) (Er (by omega)) (by omega) rfl)) ?_
    refine zC ?_
    exact D9 rfl sP
   exact D9 rfl sP
  refine zC ?_
  refine Aa rfl (fun c66=> ?_) (fun c66=> ?_)
  ·simp only [A4k,A40,A4f] at c66
   have hl:D7 (Fc V nb) (i+1)=i:=(by unfold D7;rw [← g3,Mi hi];rw [A6v];grind)
   refine zC ?_
   exact ⟨(i+1,bs.set i (De (V i)),(i:Int),(if most.toNat<(De (V i)).wear.toNat then (De (V i)).wear else most)),⟨by simp only;omega,hset,hb1,hl.symm,(by simp only;rw [Sp,Mi hi,← g4])⟩,by simp only;omega,lZ⟩
  ·simp only [ A2w,A27,A2m] at c66
   have hl:D7 (Fc V nb) (i+1)=last:=(by unfold D7;rw [← g3,Mi hi];rw [A6u];grind)
   refine zC ?_
   exact ⟨(i+1,bs.set i (De (V i)),last,(if most.toNat<(De (V i)).wear.toNat then (De (V i)).wear else most)),⟨by simp only;omega,hset,hb1,hl.symm,(by simp only;rw [Sp,Mi hi,← g4])⟩,by simp only;omega,lZ⟩
 ·simp only [ A2m] at c22
  have hi:i=nb:=(by omega)
  subst hi
  refine zC ?_
  refine Ar [4,5,76] kQ (fun (st:Nat×List LB)=>[(77,.int .i64 st.1)]) (fun st=>(b15,true,C (lgC d.dk b13 i last) tLg)::(b13,true,C (lbs st.2) tLB)::(dkH d++[])) (fun st=>st.1≤i∧st.2.length=i∧(∀ j<i,bAt st.2 j=if j<st.1 then Ig most (bAt (Fc V i) j) else bAt (Fc V i) j)) (fun st=>i - st.1) ((0,bs)) ⟨A6j _,g1,fun j hj=>(by grind)⟩ kP sP ?_
  rintro ⟨m,cs⟩ ⟨k0,k1,k2⟩
  simp only at k0 k1 k2
  refine zC ?_
  refine Aa rfl (fun c78=> ?_) (fun c78=> ?_)
  ·simp only [A4f] at c78
   have hm:m<i:=(by omega)
   have hgm:cs[m]? =some (bAt cs m):=Er (by omega)
   have hkm:=k2 m hm
   rw [A6u (Nat.lt_irrefl m)] at hkm
   iterate 17 refine sb ?_
   refine Ae (Co rfl rfl (by omega)) rfl ?_
   refine zA ?_
   refine Ae (Al rfl mM (by exact Fs (o:=1) hgm (by omega) rfl)) rfl ?_
   refine zC ?_
   refine Aa rfl (fun c88=> ?_) (fun c88=> ?_)
   ·skip
    have hkn:(bAt cs m).known=false:=(by grind)
    have hnT:∀ j<i,bAt (cs.set m { bAt cs m with wear:=most }) j=if j<m+1 then Ig most (bAt (Fc V i) j) else bAt (Fc V i) j:=(fun j hj=>by (rw [Dn (by omega)];by_cases e:j=m;(subst e;rw [A6v rfl,A6v (by omega),← hkm];unfold Ig;rw [A6u (by rw [hkn];simp)]);grind))
    iterate 7 refine sb ?_
    refine Ae (Co rfl rfl (by omega)) rfl ?_
    refine zA ?_
    refine Ac (cs':=lbs (cs.set m { bAt cs m with wear:=most })) rfl rfl uD rfl rfl (by exact Fb (o:=0) (vs:=[wv most]) hgm rfl) ?_
    refine zC ?_
    exact ⟨(m+1,cs.set m { bAt cs m with wear:=most }),⟨by simp only;omega,by simp only [A47];exact k1,hnT⟩,by simp only;omega,lZ⟩
   ·skip
    have hkn:(bAt cs m).known=true:=(by grind)
    have hnF:∀ j<i,bAt cs j=if j<m+1 then Ig most (bAt (Fc V i) j) else bAt (Fc V i) j:=(fun j hj=>by (rw [k2 j hj];by_cases e:j=m;(subst e;rw [A6u (Nat.lt_irrefl _),A6v (by omega),← hkm];unfold Ig;rw [A6v hkn]);grind))
    refine zC ?_
    exact ⟨(m+1,cs),⟨by simp only;omega,k1,hnF⟩,by simp only;omega,lZ⟩
  ·simp only [ A2m] at c78
   have hm:m=i:=(by omega)
   subst hm
   have hcs:cs=(D2 V m).1:=(by apply Am9;(show cs.length=((Fc V m).map _).length;rw [A46,Xu,k1]);(intro j hj;rw [k2 j (by omega),A6v (by omega),g4];show _=bAt ((Fc V m).map (Ig (Sp (Fc V m) m))) j;have hj2:j<(Fc V m).length:=(by rw [Xu];omega);rw [Tk (A2i hj2),Tk (by rw [A38,A2i hj2];rfl)]))
   refine zC ?_
   exact Bb (Dj Tryz.results109 (Af rfl) (Af rfl)) (by exact ⟨b15,b13,rfl,rfl⟩) (by rw [← hcs,show (D2 V m).2=last from g3.symm];exact sP)
end
end
section
open Go.K
instance fld140_3:Fld Tryz.prog 140 3 3:=⟨⟨_,_,0,Tryz.underlying140,rfl,by kernel_rfl,rfl⟩⟩
theorem Fh {v:Blk} {j:Nat} (h:j<8):A0 v j=v.pages[j]:=A6t h
structure Qt where
 n:Nat
 u:List Int
def Acc (q:Qt) (c:Chip) (t:TS):Prop:=t.lost.length+FP c+FW c≤q.n∧(q.n=0→t.uses=q.u)
section
variable {c:Chip} {t:TS} {n k:Nat} {q:Qt} {V:Nat→Blk} {r:Int×TS×Chip}
theorem DV.keepE {b:Nat} (h:DV c t n k V) (hk:k≤700000000000) (hq:FP c+FW c=0) (hb:b+6<n) (hr:Q7 n (b:Nat) c t r):r.2.1=t:=by
 have hu:=h.us hb
 obtain ⟨b1,c1,_,_,_,_,_,hc⟩:=T8 (a:=(at0 t.uses (b:Nat)).toNat) h.di (by omega) (by omega) (b:=(b:Nat)) (by omega) (by omega) (h.vw b hb) hr
 grind
theorem DV.keepP {b j:Nat} {p:Pg} (h:DV c t n k V) (hk:k≤700000000000) (hq:FP c+FW c=0) (hb:b+6<n) (hj:j<8) (hn:(V b).next=j) (hr:Sk n (b:Nat) (j:Nat) p c t r):r.2.1=t:=by
 have hu:=h.us hb
 obtain ⟨m,c1,_,_,_,hc⟩:=Q9 (a:=(at0 t.uses (b:Nat)).toNat) h.di (by omega) (by omega) (b:=(b:Nat)) (by omega) (by omega) (h.vw b hb) hj hn hr
 grind
theorem Aj0 {b:Nat} (h:DV c t n k V) (hk:k≤700000000000) (hq:q.n≤3) (hacc:Acc q c t) (hb:b+6<n) (hr:Q7 n (b:Nat) c t r) :
  FrA c r.2.2∧∃ v:Blk,(∀ (j:Nat) (h:j<8),v.pages[j]=Aq∨v.pages[j]=(V b).pages[j]) ∧
   ((r.1=0∧DV r.2.2 r.2.1 n (k+20) (upV V b v)∧v.next=0∧Acc q r.2.2 r.2.1)∨(r.1=30∧r.2.2.off=true∧¬ c.after<0∧Later r.2.2 n (k+20) q.n (upV V b v))):=by
 obtain ⟨hac,hau⟩:=hacc
 obtain ⟨f,v,hv,hc⟩:=Afc h hk (by omega) hb hr
 refine ⟨f,v,hv,?_⟩
 rcases hc with ⟨q1,q2,q3,q4⟩ | ⟨q1,_,q3,q4⟩ | ⟨q1,q2,q3,q4⟩
 ·exact .inl ⟨q1,q2,q3,by omega,fun h0=>by rw [h.keepE hk (by omega) hb hr];exact hau h0⟩
 ·omega
 ·refine .inr ⟨q1,q2,q3,fun d a1 a2 a3 a4=> ?_⟩
  obtain ⟨t2,x1,x2,x3⟩:=q4 d a1 a2 a3 a4
  grind
theorem Acd {b j:Nat} {p:Pg} (h:DV c t n k V) (hk:k≤700000000000) (hq:q.n≤3) (hacc:Acc q c t) (hb:b+6<n) (hj:j<8) (hn:(V b).next=j) (hr:Sk n (b:Nat) (j:Nat) p c t r) :
  FrA c r.2.2∧∃ v:Blk,v.next=((j+1:Nat):Int)∧Ta v (V b) j ∧
   ((r.1=0∧DV r.2.2 r.2.1 n (k+20) (upV V b v)∧A0 v j=p∧Acc q r.2.2 r.2.1)∨(r.1=30∧r.2.2.off=true∧¬ c.after<0∧(∃ m,A0 v j=Cn m Aq p)∧Later r.2.2 n (k+20) q.n (upV V b v))):=by
 obtain ⟨hac,hau⟩:=hacc
 obtain ⟨f,v,hv1,hv2,hc⟩:=Ajq h hk (by omega) hb hj hn hr
 refine ⟨f,v,hv1,hv2,?_⟩
 rcases hc with ⟨q1,q2,q3,q4,_⟩ | ⟨q1,_,q3,q4⟩ | ⟨q1,q2,q3,⟨m,q4⟩,q5⟩
 ·exact .inl ⟨q1,q2,by rw [Fh hj];exact q3 hj,by omega,fun h0=>by rw [h.keepP hk (by omega) hb hj hn hr];exact hau h0⟩
 ·omega
 ·refine .inr ⟨q1,q2,q3,⟨m,by rw [Fh hj];exact q4 hj⟩,fun d a1 a2 a3 a4=> ?_⟩
  obtain ⟨t2,x1,x2,x3⟩:=q5 d a1 a2 a3 a4
  grind
end
def Ace (c c':Chip):Prop:=c.after<0∨(c.after≠0∧c'.after=w64 (c.after - 1))
theorem Ana {c:Chip} {t:TS} {n k:Nat} {V:Nat→Blk} {r:Int×TS×Chip} {b j:Nat} {p:Pg} (h:DV c t n k V) (hk:k≤700000000000) (hb:b+6<n) (hj:j<8) (hn:(V b).next=j) (hr:Sk n (b:Nat) (j:Nat) p c t r) (h0:FP c+FW c=0) (he:r.1=0):Ace c r.2.2:=by
 have hu:=h.us hb
 obtain ⟨a,ha⟩:∃ a:Nat,at0 t.uses (b:Nat)=(a:Nat):=⟨(at0 t.uses (b:Nat)).toNat,by omega⟩
 have hva:=h.vw b hb
 have hta:(at0 t.uses (b:Nat)).toNat=a:=by omega
 rw [hta] at hva
 obtain ⟨m,c1,f,hw,hA,hcase⟩:=Q9 h.di (by omega) (by omega) (by omega) ha hva hj hn hr
 rcases hcase with ⟨h1,h2,rfl,h3⟩ | ⟨_,_,_,h4,_⟩ | ⟨rfl,hpe,h1,rfl⟩
 ·cases he
 ·omega
 ·by_cases hp:c.after<0
  ·exact .inl hp
  ·refine .inr ?_
   unfold Bl at hpe
   split at hpe
   ·split at hpe
    ·cases hpe
    ·rename_i b0 hb0
     split at hpe
     ·simp only at hpe
      split at hpe
      ·cases hpe
      ·rename_i hE
       split at hpe
       ·cases hpe
       ·have hE2:c.after≠0:=fun h9=>by
         apply hE
         unfold Ei
         rw [A6u hp,h9]
         rfl
        refine ⟨hE2,?_⟩
        simp only [A50,true_and] at hpe
        have:c1.after=(Fo (Td (cnt c))).after:=by rw [← hpe];rfl
        rw [this]
        show (if c.after<0 then c.after else w64 (c.after - 1))=_
        rw [A6u hp]
     ·cases hpe
   grind
theorem Ug {kind:By} (h:0<kind.toNat∧kind.toNat<255) (x:Wd):Cw kind (Bz 8 x)=(Ud kind x,0):=by
 unfold Cw Ud
 rw [A6u (by rw [I1 h];simp)]
def A0a (w v:Blk) (x:Wd):Prop:=(∀ (j:Nat) (h:j<8),v.pages[j]=Aq∨v.pages[j]=w.pages[j])∨(v.next=1∧∃ m,A0 v 0=Cn m Aq (Hh x))
def I2 (x:Wd):LB:=⟨x,true,0,true,8⟩
def Anb (n nb k:Nat) (q:Qt) (V:Nat→Blk) (b:Nat) (bs:List LB) (c:Chip) (bs':List LB) (e:Int) (t':TS) (c':Chip):Prop :=
 bs'.length=nb∧FrA c c'∧∃ v:Blk,(e=0∧DV c' t' n k (upV V b v)∧Acc q c' t'∧bs'=bs.set b (I2 ((bAt bs b).wear+1))∧v.next=1∧A0 v 0=Hh ((bAt bs b).wear+1)) ∨
  (e=30∧c'.off=true∧¬ c.after<0∧Later c' n k q.n (upV V b v)∧A0a (V b) v ((bAt bs b).wear+1))
def Z0 (n k:Nat) (q:Qt) (V:Nat→Blk) (b j:Nat) (p:Pg) (c:Chip) (t:TS) (e:Int) (t':TS) (c':Chip):Prop :=
 FrA c c'∧((e=32∧(V b).next≠j∧t'=t∧c'=c)∨((V b).next=j∧∃ v:Blk,v.next=((j+1:Nat):Int)∧Ta v (V b) j ∧
  ((e=0∧DV c' t' n k (upV V b v)∧Acc q c' t'∧A0 v j=p∧(q.n=0→Ace c c'))∨(e=30∧c'.off=true∧¬ c.after<0∧(∃ m,A0 v j=Cn m Aq p)∧Later c' n k q.n (upV V b v)))))
section
variable {d:Dsk} {n k:Nat} {q:Qt} {lg bb nb:Nat} {last:Int} {V:Nat→Blk}
theorem Pd (h:DD d n k V) (hk:k≤600000000000) (hq:q.n≤3) (hacc:Acc q d.c d.t.ts) {b:Nat} {bs:List LB} (hnb:nb+6=n) (hl:bs.length=nb) (hb:b<nb) :
  Does Tryz.prog 132 [ptr lg,.int .i64 (b:Nat)] ((lg,true,C (lgC d.dk bb nb last) tLg)::(bb,true,C (lbs bs) tLB)::(dkH d++[]))
  (fun v H=>∃ (t':Tab) (c':Chip) (bs':List LB) (e:Int),v= .int .i64 e∧H=(lg,true,C (lgC d.dk bb nb last) tLg)::(bb,true,C (lbs bs') tLB)::(dkH ⟨d.dk,t',c'⟩++[])∧Anb n nb (k+40) q V b bs d.c bs' e t'.ts c'):=by
 have hg:bs[b]? =some (bAt bs b):=Er (by omega)
 refine zF 56 Tryz.func132 ?_
 refine zC ?_
 refine Ch rfl (Ams (d:=d) h (b:=(b:Nat))) sP rfl (fun v15 Y15 h15=> ?_)
 obtain ⟨t1,c1,e1,rfl,rfl,hE⟩:=h15
 obtain ⟨f1,w1,hw1,hc1⟩:=Aj0 h (by omega) hq hacc (by omega) hE
 simp only at f1 hc1
 refine A6 aQ ?_
 refine zC ?_
 refine Aa rfl (fun c17=> ?_) (fun c17=> ?_)
 ·skip
  have he1:e1≠0:=(by grind)
  have hc30:=hc1.resolve_left (fun h9=>he1 h9.1)
  refine zC ?_
  exact zL (hR:=by exact ⟨t1,c1,bs,e1,rfl,rfl,hl,f1,w1,.inr ⟨hc30.1,hc30.2.1,hc30.2.2.1,fun d a1 a2 a3 a4=>(by obtain ⟨x0,x1,x2,x3⟩:=hc30.2.2.2 d a1 a2 a3 a4;exact ⟨x0,x1,x2.mono (by omega),x3⟩),.inl hw1⟩⟩)
 ·skip
  have he1:e1=0:=(by grind)
  obtain ⟨_,hD1,hw10,hacc1⟩:=hc1.resolve_right (fun h9=>by rw [he1] at h9;omega)
  have hg1:(bs.set b ⟨(bAt bs b).wear+1,true,0,false,8⟩)[b]? =some ⟨(bAt bs b).wear+1,true,0,false,8⟩:=(by simp [hl,hb])
  iterate 9 refine sb ?_
  refine Ae (Co rfl rfl (by omega)) rfl ?_
  refine zA ?_
  refine Ae (Al rfl mM (by simp only [A33];exact Fs (o:=0) hg (by omega) rfl)) rfl ?_
  refine Ae (Qx rfl rfl) rfl ?_
  iterate 2 refine sb ?_
  refine Ac (cs':=lbs (bs.set b ⟨(bAt bs b).wear+1,true,0,false,8⟩)) rfl rfl uD rfl rfl (by simp only [A33];exact Fb (o:=0) hg rfl) ?_
  refine zA ?_
  refine Ae (Al rfl mM (by simp only [A33];exact Fs (o:=0) hg1 (by omega) rfl)) rfl ?_
  refine zE rfl (Gg) ?_
  rintro _ _ ⟨s38,rfl,rfl,hs38,ho38⟩
  refine A6 aQ ?_
  refine Am rfl rfl rfl rfl (fun b39=> ?_)
  refine zI rfl ((J9 (kind:=2) (s:=s38) (by rw [hs38,A4];decide)).to (by rw [hs38,show A8 8 8=8 from rfl,Ug (by decide)]) rfl) ?_
  refine zC ?_
  refine Ah rfl (fun b7=> ?_)
  rw [Cc]
  first | refine Ac rfl rfl uD (B9) (Ai) (Bi (by first | exact Ai | exact A20 ..)) ?_ | refine Ac rfl rfl uD rfl rfl rfl ?_
  refine zC ?_
  refine At [(6,[(0,false),(1,false),(2,false),(3,false),(4,false),(5,false)]),(7,[(6,true)]),(8,[(7,false)])] (by kernel_rfl) ?_
  iterate 6 refine sb ?_
  refine Aj (Ao rfl mM (by first | exact Ax | rfl)) ?_
  refine zC ?_
  refine Ch rfl (T9 (d:=⟨d.dk,t1,c1⟩) hD1 (b:=(b:Nat)) (j:=(0:Nat)) (p:=Hh ((bAt bs b).wear+1))) sP rfl (fun v49 Y49 h49=> ?_)
  obtain ⟨t2,c2,e2,rfl,rfl,hP⟩:=h49
  obtain ⟨f2,w2,hw2,_,hc2⟩:=Acd hD1 (by omega) hq hacc1 (b:=b) (j:=0) (by omega) (by omega) (by rw [Fa];exact hw10) hP
  simp only at f2 hc2
  rw [Rb] at hc2
  refine A6 aQ ?_
  iterate 14 refine sb ?_
  refine Ac (cs':=lbs ((bs.set b ⟨(bAt bs b).wear+1,true,0,false,8⟩).set b ⟨(bAt bs b).wear+1,true,0,decide (e2=0),8⟩)) rfl rfl uD rfl rfl (by simp only [A33];exact Fb (o:=3) hg1 rfl) ?_
  refine zC ?_
  exact Bb (Aw Tryz.results132 (Af rfl)) (by exact ⟨t2,c2,bs.set b ⟨(bAt bs b).wear+1,true,0,decide (e2=0),8⟩,e2,rfl,rfl,by rw [A47];exact hl,f1.trans f2,w2,by rcases hc2 with ⟨q1,q2,q3,q4⟩ | ⟨q1,q2,q3,q4,q5⟩;exact .inl ⟨q1,q2,q4,by rw [q1];rfl,hw2,q3⟩;exact .inr ⟨q1,q2,fun hp=>q3 (by rw [(f1.pos hp).1];exact hp),q5,.inr ⟨hw2,q4⟩⟩⟩) (by rw [A54];exact sP)
theorem Xv (h:DD d n k V) (hk:k≤600000000000) (hq:q.n≤3) (hacc:Acc q d.c d.t.ts) {b j:Nat} {p:Pg} (hb:b+6<n) (hj:j<8) :
  Does Tryz.prog 154 [ptr lg,.int .i64 (b:Nat),.int .i64 (j:Nat),.agg (vbc p).toArray] ((lg,true,C (lgC d.dk bb nb last) tLg)::(dkH d++[]))
  (fun v H=>∃ (t':Tab) (c':Chip) (e:Int),v= .int .i64 e∧H=(lg,true,C (lgC d.dk bb nb last) tLg)::(dkH ⟨d.dk,t',c'⟩++[])∧Z0 n (k+20) q V b j p d.c d.t.ts e t'.ts c'):=by
 refine zF 41 Tryz.func154 ?_
 refine zC ?_
 refine Do rfl rfl (fun b7=> ?_)
 refine zC ?_
 refine At [(7,[(0,false),(1,false),(2,false),(3,false),(4,false),(5,false),(6,false)]),(8,[(7,true)]),(9,[(8,false)])] (by kernel_rfl) ?_
 iterate 7 refine sb ?_
 refine Aj (Ao rfl mM (by first | exact Ax | rfl)) ?_
 refine zC ?_
 refine Ch rfl (T9 (d:=d) h (b:=(b:Nat)) (j:=(j:Nat)) (p:=p)) sP rfl (fun v19 Y19 h19=> ?_)
 obtain ⟨t1,c1,e1,rfl,rfl,hP⟩:=h19
 have hAf:(V b).next=j→e1=0→q.n=0→Ace d.c c1:=(fun h7 h8 h9=>Ana h (by omega) hb hj h7 hP (by have:=hacc.1;omega) h8)
 have hW:(e1=32∧(V b).next≠j∧t1.ts=d.t.ts∧c1=d.c)∨((V b).next=j∧FrA d.c c1∧∃ v:Blk,v.next=((j+1:Nat):Int)∧Ta v (V b) j∧((e1=0∧DV c1 t1.ts n (k+20) (upV V b v)∧A0 v j=p∧Acc q c1 t1.ts)∨(e1=30∧c1.off=true∧¬ d.c.after<0∧(∃ m,A0 v j=Cn m Aq p)∧Later c1 n (k+20) q.n (upV V b v)))):=(by by_cases hn:(V b).next=j;(obtain ⟨f1,w1,h1,h2,h3⟩:=Acd h (by omega) hq hacc hb hj hn hP;exact .inr ⟨hn,f1,w1,h1,h2,h3⟩);(have h9:=Amp h hb hj hn hP;grind))
 refine A6 aQ ?_
 refine zC ?_
 refine Aa rfl (fun c21=> ?_) (fun c21=> ?_)
 ·skip
  have he1:e1≠0:=(by grind)
  refine zC ?_
  exact zL (hR:=by exact ⟨t1,c1,e1,rfl,rfl,by rcases hW with ⟨q1,q2,q3,q4⟩ | ⟨q1,q2,w,q3,q4,q5⟩;(rw [q4];exact .refl _);exact q2,by grind⟩)
 ·skip
  have he1:e1=0:=(by grind)
  obtain ⟨hn,f1,w1,h1,h2,h3⟩:=hW.resolve_left (fun h9=>by rw [he1] at h9;omega)
  obtain ⟨_,hD1,hp1,hacc1⟩:=h3.resolve_right (fun h9=>by rw [he1] at h9;omega)
  have hrd:=Kb (d:=⟨d.dk,t1,c1⟩) hD1 hb hj
  rw [Fa,hp1] at hrd
  refine zC ?_
  refine zI rfl ((Ip (d:=⟨d.dk,t1,c1⟩) (b:=(b:Nat)) (k:=(j:Nat))).to (by rw [hrd.1,hrd.2]) rfl) ?_
  refine zC ?_
  refine Ah rfl (fun b10=> ?_)
  rw [Cc]
  first | refine Ac rfl rfl uD (B9) (Ai) (Bi (by first | exact Ai | exact A20 ..)) ?_ | refine Ac rfl rfl uD rfl rfl rfl ?_
  iterate 9 refine sb ?_
  refine' G4 rfl rfl inferInstance rfl rfl rfl rfl rfl (fun hg35=> ?_) ?_
  rotate_left
  ·try (simp at hg35;show _)
   refine zA ?_
   refine Ae (Ao rfl mM (by first | exact Ax | rfl)) rfl ?_
   refine zA ?_
   refine Ae (Ao rfl mM (by first | exact Ax | rfl)) rfl ?_
   refine zA ?_
   refine Ae (Vc rfl rfl (pg_eq _ _)) rfl ?_
   exact Ag ⟨rfl,rfl,⟨_,sP⟩⟩
  refine zC ?_
  refine Aa rfl (fun c39=> ?_) (fun c39=> ?_)
  ·skip
   try (exfalso;grind)
   all_goals
    refine zC ?_
    exact zL (hR:=by exact ⟨t1,c1,0,rfl,rfl,f1,.inr ⟨hn,w1,h1,h2,.inl ⟨rfl,hD1,hacc1,hp1,hAf hn he1⟩⟩⟩)
  ·skip
   refine zC ?_
   exact zL (hR:=by exact ⟨t1,c1,0,rfl,rfl,f1,.inr ⟨hn,w1,h1,h2,.inl ⟨rfl,hD1,hacc1,hp1,hAf hn he1⟩⟩⟩)
def Uh (v:Blk):Bool:=(List.range 7).all fun i=>decide (A0 v (i+1)=Aq)
theorem Aj1 {x:By}:Does Tryz.prog 223 [bv x] [] (Is (.bool (!decide ((x.toNat:Int)=255))) []):=by
 refine zF 5 Tryz.func223 ?_
 refine zC ?_
 exact zS
theorem Atc {p:Pg} {m:Nat}:Does Tryz.prog 239 [.slice (some ⟨m,0,none⟩) 258 258,.func (.func 223) #[] #[]] [(m,true,C (vbc p) tPg)]
  (fun v H=>H=[(m,true,C (vbc p) tPg)]∧((p≠Aq∧∃ i:Nat,v= .int .i64 (i:Nat))∨(p=Aq∧v= .int .i64 (-1)))):=by
 refine zF 19 Tryz.func239 ?_
 refine zC ?_
 refine Ar [0,1,7] kQ (fun (i:Nat)=>[(8,.int .i64 i)]) (fun i=>[(m,true,C (vbc p) tPg)]) (fun i=>i≤258∧∀ (j:Nat) (h:j<258),j<i→p[j]=255#8) (fun i=>258 - i) (0) ⟨A6j _,fun j _ h=>(by cases h)⟩ kP sP ?_
 rintro i ⟨h0,h1⟩
 refine zC ?_
 refine Aa rfl (fun c9=> ?_) (fun c9=> ?_)
 ·simp only [A4f,A2m] at c9
  have hi:i<258:=(by omega)
  refine zA ?_
  refine Ae (Co rfl rfl (by omega)) rfl ?_
  refine Ae (Al rfl mM (by simp only [A33,A6i];exact Ft hi)) rfl ?_
  refine Xy (fi:=[]) (ca:=[]) rfl rfl (Aj1 (x:=p[i])) sP rfl aQ ?_
  refine zC ?_
  refine Aa rfl (fun c16=> ?_) (fun c16=> ?_)
  ·skip
   have hne:p≠Aq:=(fun e=>by rw [e,K3 hi] at c16;grind)
   refine zC ?_
   exact zL (hR:=by exact ⟨rfl,.inl ⟨hne,i,rfl⟩⟩)
  ·skip
   have hb:p[i]=255#8:=(by have h9:(p[i].toNat:Int)=255:=(by grind);exact A2u (by grind))
   refine zC ?_
   exact ⟨i+1,⟨by omega,fun j hj hlt=>by grind⟩,(by omega),lZ⟩
 ·simp only [A4f,A2m] at c9
  refine zC ?_
  exact zL (hR:=by exact ⟨rfl,.inr ⟨by apply A6l;intro j hj;rw [h1 j hj (by omega),K3 hj],rfl⟩⟩)
theorem Axr {p:Pg} {m:Nat}:Does Tryz.prog 222 [.slice (some ⟨m,0,none⟩) 258 258,.func (.func 223) #[] #[]] [(m,true,C (vbc p) tPg)]
  (Is (.bool (decide (p≠Aq))) [(m,true,C (vbc p) tPg)]):=by
 refine zF 9 Tryz.func222 ?_
 refine zC ?_
 refine Ch rfl (Atc (p:=p) (m:=m)) sP rfl (fun v7 Y7 h7=> ?_)
 rcases h7 with ⟨rfl,⟨hne,i,rfl⟩ | ⟨hne,rfl⟩⟩
 all_goals
  refine A6 aQ ?_
  refine zC ?_
  refine Ak (Aw Tryz.results222 (Af rfl)) ?_ sP
  first | (rw [A5p hne];simp;done) | grind
theorem Anc (h:DD d n k V) {b:Nat} (hb:b+6<n):Does Tryz.prog 194 [ptr lg,.int .i64 (b:Nat)] ((lg,true,C (lgC d.dk bb nb last) tLg)::(dkH d++[]))
  (Is (.tuple #[.bool (Uh (V b)),.int .i64 0]) ((lg,true,C (lgC d.dk bb nb last) tLg)::(dkH d++[]))):=by
 refine zF 28 Tryz.func194 ?_
 refine zC ?_
 refine Ar [0,1] kQ (fun (i:Nat)=>[(6,.int .i64 ((i:Int)+1))]) (fun i=>(lg,true,C (lgC d.dk bb nb last) tLg)::(dkH d++[])) (fun i=>i≤7∧∀ j<i,A0 (V b) (j+1)=Aq) (fun i=>7 - i) (0) ⟨A6j _,fun j h=>(by cases h)⟩ kP sP ?_
 rintro i ⟨h0,h1⟩
 refine zC ?_
 refine Aa rfl (fun c10=> ?_) (fun c10=> ?_)
 ·simp only [A4f,A2m] at c10
  have hi:i<7:=(by omega)
  have hrd:=Kb h hb (j:=i+1) (by omega)
  have ei:(((i+1:Nat):Int))=(i:Int)+1:=(by omega)
  rw [ei] at hrd
  refine zC ?_
  refine zI rfl ((Ip (d:=d) (b:=(b:Nat)) (k:=(i:Int)+1)).to (by rw [hrd.1,hrd.2]) rfl) ?_
  refine zC ?_
  refine Ah rfl (fun b7=> ?_)
  rw [Cc]
  first | refine Ac rfl rfl uD (B9) (Ai) (Bi (by first | exact Ai | exact A20 ..)) ?_ | refine Ac rfl rfl uD rfl rfl rfl ?_
  refine zC ?_
  refine Ay rfl ?_
  refine zC ?_
  refine Ae (show Rd _ _ _ _ (.slice (some ⟨b7,0,none⟩) 258 258) from C1 (b:=b7) (o:=0) (sz:=1) (i:=0) (j:=258) (l:=258) rfl rfl rfl (by omega)) rfl ?_
  refine zI rfl (Axr (p:=A0 (V b) (i+1)) (m:=b7)) ?_
  refine zC ?_
  refine Aa rfl (fun c27=> ?_) (fun c27=> ?_)
  ·skip
   have hne:A0 (V b) (i+1)≠Aq:=(by grind)
   have hcl:Uh (V b)=false:=(by unfold Uh;rw [List.all_eq_false];grind)
   refine zC ?_
   refine Ak (Dj Tryz.results194 (Af rfl) (Af rfl)) ?_ sP
   rw [hcl]
  ·skip
   have he:A0 (V b) (i+1)=Aq:=(by grind)
   refine zC ?_
   exact ⟨i+1,⟨by omega,fun j hj=>by grind⟩,(by omega),lZ⟩
 ·simp only [A4f,A2m] at c10
  have hcl:Uh (V b)=true:=(by unfold Uh;rw [A4l];grind)
  refine zC ?_
  refine Ak (Dj Tryz.results194 (Af rfl) (Af rfl)) ?_ sP
  rw [hcl]
end
end
section
open Go.K
def toU (bs:List LB):Nat→Int
  | 0=> -1
  | k+1=>if (bAt bs k).seq.toNat=0∧(toU bs k<0∨(bAt bs k).wear.toNat<(bAt bs (toU bs k).toNat).wear.toNat) then k else toU bs k
theorem Mj (bs:List LB):∀ k,(toU bs k= -1∧∀ j<k,(bAt bs j).seq.toNat≠0)∨(∃ l:Nat,toU bs k=l∧l<k∧(bAt bs l).seq.toNat=0∧∀ j<k,(bAt bs j).seq.toNat=0→(bAt bs l).wear.toNat≤(bAt bs j).wear.toNat)
  | 0=> .inl ⟨rfl,fun j hj=>by omega⟩
  | k+1=>by
    rcases Mj bs k with ⟨h1,h2⟩ | ⟨l,h1,h2,h3,h4⟩
    · unfold toU
      rw [h1]
      grind
    · unfold toU
      rw [h1,A33]
      grind
theorem Z1 (bs:List LB) (k:Nat): -1≤toU bs k∧toU bs k<k:=by
  rcases Mj bs k with ⟨h,_⟩ | ⟨l,h,h2,_⟩ <;> omega
def seqN (bs:List LB) (last:Int):Wd:=if last<0 then 1 else (bAt bs last.toNat).seq+1
theorem Atd {P:Program} {E:Env} {H:Hp} {t u:TypeId} {x y:Operand} {v:Wd} (hx:ev E x=some (wv v)) (hy:ev E y=some (.int .u64 1)):Rd P E H (.binOp .sub t x y u) (wv (v - 1)):=by
  have:=Au (P:=P) (H:=H) (op:= .sub) (t:=t) (u:=u) hx hy rfl
  have e:IntKind.u64.wrap ((v.toNat:Int) - 1)=((v - 1).toNat:Int):=by
    rw [Ej .u64 rfl]
    show ((BitVec.ofInt 64 ((v.toNat:Int) - 1)).toNat:Int)=_
    have h1:=v.isLt
    rw [A3o,BitVec.toNat_sub]
    grind
  unfold wv
  rw [← e]
  exact this
def Axs (w v:Blk) (x:LB) (sq:Wd):Prop :=
  A0a w v x.wear∨(v.next=2∧(A0 v 0=Hh x.wear∨(x.ready=true∧(A0 v 0=A0 w 0∨A0 v 0=D1 (A0 w 0))))∧∃ m,A0 v 1=Cn m Aq (Pb sq))
def Aw0 (w v:Blk) (x:LB) (kn:Bool) (sq:Wd):Prop :=
  v.next=2∧A0 v 1=Pb sq∧((kn=true∧A0 v 0=Hh x.wear)∨(x.ready=true∧kn=x.known∧(A0 v 0=A0 w 0∨A0 v 0=D1 (A0 w 0))))
def Ane (n nb k:Nat) (q:Qt) (V:Nat→Blk) (bs:List LB) (last:Int) (c:Chip) (t:TS) (bs':List LB) (last' e:Int) (t':TS) (c':Chip):Prop :=
  (e=40∧toU bs nb<0∧bs'=bs∧last'=last∧t'=t∧c'=c) ∨
  (bs'.length=nb∧FrA c c'∧∃ (to:Nat) (v:Blk),toU bs nb=to ∧
    ((e=0∧DV c' t' n k (upV V to v)∧Acc q c' t'∧last'=to∧(∀ j<nb,j≠to→bAt bs' j=bAt bs j)∧∃ kn,bAt bs' to=⟨(bAt bs to).wear,kn,seqN bs last,false,2⟩∧Aw0 (V to) v (bAt bs to) kn (seqN bs last)) ∨
     (e=30∧c'.off=true∧¬ c.after<0∧Later c' n k q.n (upV V to v)∧Axs (V to) v (bAt bs to) (seqN bs last))))
def Axt (n nb k:Nat) (q:Qt) (to:Nat) (V:Nat→Blk) (bs:List LB) (c:Chip) (t1:TS) (c1:Chip) (bs1:List LB) (w:Blk):Prop :=
  bs1.length=nb∧FrA c c1∧DV c1 t1 n k (upV V to w)∧Acc q c1 t1∧w.next=1∧(bAt bs1 to).wear=(bAt bs to).wear∧(∀ j<nb,j≠to→bAt bs1 j=bAt bs j) ∧
    (((bAt bs1 to).known=true∧A0 w 0=Hh (bAt bs to).wear)∨((bAt bs to).ready=true∧(bAt bs1 to).known=(bAt bs to).known∧A0 w 0=A0 (V to) 0))
theorem A0b {v w:Blk} {j:Nat} (h:Ta v w j) (hj:0<j):A0 v 0=A0 w 0∨A0 v 0=D1 (A0 w 0):=by
  have:=h 0 (by omega) hj
  rwa [← Fh (v:=v) (by omega),← Fh (v:=w) (by omega)] at this
theorem Anf (V:Nat→Blk) (b:Nat):upV V b (V b)=V:=by
  funext l
  unfold upV
  grind
section
variable {d:Dsk} {n k:Nat} {q:Qt} {lg bb nb:Nat} {last:Int} {V:Nat→Blk} {bs:List LB}
theorem Ang (h:DD d n k V) (hk:k≤500000000000) (hq:q.n≤3) (hacc:Acc q d.c d.t.ts) (hnb:nb+6=n) (hl:bs.length=nb) (hlr: -1≤last∧last<nb) (hls:0≤last→(bAt bs last.toNat).seq.toNat≠0)
    (hrdy:∀ b<nb,(bAt bs b).ready=true→(V b).next=1) :
    Does Tryz.prog 153 [ptr lg] ((lg,true,C (lgC d.dk bb nb last) tLg)::(bb,true,C (lbs bs) tLB)::(dkH d++[]))
    (fun v H=>∃ (t':Tab) (c':Chip) (bs':List LB) (last' e:Int),v= .int .i64 e∧H=(lg,true,C (lgC d.dk bb nb last') tLg)::(bb,true,C (lbs bs') tLB)::(dkH ⟨d.dk,t',c'⟩++[])∧Ane n nb (k+60) q V bs last d.c d.t.ts bs' last' e t'.ts c'):=by
  refine zF 147 Tryz.func153 ?_
  refine zC ?_
  have hn40:=h.di.wf.n2
  refine Ar [0,17,18] kQ (fun (st:Nat×Int)=>[(19,.int .i64 st.1),(3,.int .i64 st.2)]) (fun st=>(lg,true,C (lgC d.dk bb nb last) tLg)::(bb,true,C (lbs bs) tLB)::(dkH d++[])) (fun st=>st.1≤nb∧st.2=toU bs st.1) (fun st=>nb - st.1) ((0,-1)) ⟨A6j _,rfl⟩ kP sP ?_
  rintro ⟨i,to⟩ ⟨g0,g1⟩
  simp only at g0 g1
  refine zC ?_
  refine Aa rfl (fun c20=> ?_) (fun c20=> ?_)
  · simp only [A4f,A2m] at c20
    have hi:i<nb:=(by omega)
    have hgi:bs[i]? =some (bAt bs i):=Er (by omega)
    have hrg:=Z1 bs i
    refine zA ?_
    refine Ae (Co rfl rfl (by omega)) rfl ?_
    refine Ae (Ao rfl mM (by simp only [A33];exact Rf hgi)) rfl ?_
    refine Ah rfl (fun b5=> ?_)
    refine zC ?_
    refine At [(20,[(0,false),(1,false),(2,false),(3,false),(4,false),(5,false),(6,false),(7,false),(8,false),(9,false),(10,false),(11,false),(12,false),(13,false),(14,false),(15,false),(16,false),(17,false),(18,false),(19,false)])] (by kernel_rfl) ?_
    iterate 5 refine sb ?_
    refine' Fe rfl rfl inferInstance rfl rfl rfl rfl rfl (fun hg27=> ?_) ?_
    rotate_left
    · try (simp at hg27;show _)
      iterate 6 refine sb ?_
      refine' Lz rfl rfl inferInstance rfl rfl rfl rfl rfl (fun hg30=> ?_) ?_
      rotate_left
      · try (simp at hg30;show _)
        iterate 15 refine sb ?_
        refine Aj (Co rfl rfl (by omega)) ?_
        refine zA ?_
        refine Aj (show Rd _ _ _ _ (wv (bAt bs to.toNat).wear) from Al rfl mM (Fs (o:=0) (Er (by omega)) (by omega) rfl)) ?_
        refine zC ?_
        exact D9 rfl sP
      exact D9 rfl sP
    refine zC ?_
    refine Aa rfl (fun c43=> ?_) (fun c43=> ?_)
    · simp only [A4k,A40,A2w,A27,A4f,A2m] at c43
      have hT:(i:Int)=toU bs (i+1):=(by unfold toU;rw [← g1,A6v ⟨by omega,by rcases c43.2 with h9 | h9;exact .inl h9;exact .inr (by omega)⟩])
      refine zC ?_
      first | exact ⟨(i+1,(i:Int)),⟨by simp only;omega,hT⟩,by simp only;omega,lZ⟩ | exact ⟨(i+1,to),⟨by simp only;omega,hF⟩,by simp only;omega,lZ⟩
    · simp only [A4k,A40,A2w,A27,A4f,A2m] at c43
      have hF:to=toU bs (i+1):=(by unfold toU;rw [← g1,A6u (by rintro ⟨h8,h9⟩;rcases c43 with h7 | ⟨h6,h7⟩;omega;rcases h9 with h9 | h9;exact h6 h9;omega)])
      refine zC ?_
      first | exact ⟨(i+1,(i:Int)),⟨by simp only;omega,hT⟩,by simp only;omega,lZ⟩ | exact ⟨(i+1,to),⟨by simp only;omega,hF⟩,by simp only;omega,lZ⟩
  · simp only [A4f,A2m] at c20
    have hi:i=nb:=(by omega)
    subst hi
    refine zC ?_
    refine Aa rfl (fun c47=> ?_) (fun c47=> ?_)
    · simp only [A4f,A2m] at c47
      refine zC ?_
      exact zL (hR:=by exact ⟨d.t,d.c,bs,last,40,rfl,rfl,.inl ⟨rfl,by omega,rfl,rfl,rfl,rfl⟩⟩)
    · simp only [A4f,A2m] at c47
      obtain ⟨tn,rfl⟩:∃ tn:Nat,to=tn:=⟨to.toNat,by omega⟩
      have hrg:=Z1 bs i
      have htn:tn<i:=(by omega)
      have hgt:bs[tn]? =some (bAt bs tn):=Er (by omega)
      have hfree:(bAt bs tn).seq.toNat=0:=(by rcases Mj bs i with ⟨h9,_⟩ | ⟨l,h9,_,h8,_⟩;omega;(have:tn=l:=by omega);subst this;exact h8)
      iterate 9 refine sb ?_
      refine Ae (Co rfl rfl (by omega)) rfl ?_
      refine zC ?_
      refine zI rfl (Anc (d:=d) (bb:=bb) (nb:=i) (last:=last) h (b:=tn) (by omega)) ?_
      refine zC ?_
      refine Ay rfl ?_
      iterate 2 refine sa ?_
      refine Rm (fun F L=>∃ (t1:Tab) (c1:Chip) (bs1:List LB) (w:Blk),F=[(0,ptr lg),(3,.int .i64 (tn:Nat)),(6,.pointer (some ⟨bb,tn*5,none⟩))]∧L=(lg,true,C (lgC d.dk bb i last) tLg)::(bb,true,C (lbs bs1) tLB)::(dkH ⟨d.dk,t1,c1⟩++[])∧Axt n i (k+40) q tn V bs d.c t1.ts c1 bs1 w) ?_ ?_
      · refine zA ?_
        refine Ae (Al rfl mM (by simp only [A33];exact Fs (o:=3) hgt (by omega) rfl)) rfl ?_
        refine zC ?_
        refine Aa rfl (fun c71=> ?_) (fun c71=> ?_)
        · skip
          refine zA ?_
          refine Ae (Al rfl mM (by simp only [A33];exact Fs (o:=0) hgt (by omega) rfl)) rfl ?_
          refine Ae (Atd rfl rfl) rfl ?_
          refine zA ?_
          refine Ac (cs':=lbs (bs.set tn { bAt bs tn with wear:=(bAt bs tn).wear - 1 })) rfl rfl uD rfl rfl (by simp only [A33];exact Fb (o:=0) hgt rfl) ?_
          refine zC ?_
          refine Ch rfl (Pd (d:=d) (bb:=bb) (last:=last) h (by omega) hq hacc (b:=tn) (bs:=bs.set tn { bAt bs tn with wear:=(bAt bs tn).wear - 1 }) hnb (by rw [A47];exact hl) htn) sP rfl (fun v81 Y81 h81=> ?_)
          obtain ⟨t1,c1,bs1,e9,rfl,rfl,hb1,hF1,w,hW⟩:=h81
          rw [Dn (by omega),A6v rfl,BitVec.sub_add_cancel] at hW
          refine A6 aQ ?_
          refine zC ?_
          refine Aa rfl (fun c83=> ?_) (fun c83=> ?_)
          · skip
            have he9:e9≠0:=(by simpa using c83)
            have hW30:=hW.resolve_left (fun h9=>he9 h9.1)
            refine zC ?_
            exact zL (hR:=by exact ⟨t1,c1,bs1,last,e9,rfl,rfl,.inr ⟨hb1,hF1,tn,w,by omega,.inr ⟨hW30.1,hW30.2.1,hW30.2.2.1,fun d a1 a2 a3 a4=>(by obtain ⟨x0,x1,x2,x3⟩:=hW30.2.2.2.1 d a1 a2 a3 a4;exact ⟨x0,x1,x2.mono (by omega),x3⟩),.inl hW30.2.2.2.2⟩⟩⟩)
          · skip
            have he9:e9=0:=(by simpa using c83)
            obtain ⟨_,hD1,hacc1,hbs1,hwn,hw0⟩:=hW.resolve_right (fun h9=>by rw [he9] at h9;exact absurd h9.1 (by decide))
            have hJ1:Axt n i (k+40) q tn V bs d.c t1.ts c1 bs1 w:=⟨hb1,hF1,hD1,hacc1,hwn,by rw [hbs1,A54,Dn (by omega),A6v rfl];rfl,fun j hj hne=>by rw [hbs1,A54,Dn (by omega),A6u hne],.inl ⟨by rw [hbs1,A54,Dn (by omega),A6v rfl];rfl,hw0⟩⟩
            refine zC ?_
            first | exact ⟨_,_,⟨t1,c1,bs1,w,rfl,rfl,hJ1⟩,jZ⟩ | exact ⟨_,_,⟨d.t,d.c,bs,V tn,rfl,rfl,hJ0⟩,jZ⟩
        · skip
          have hrc:(bAt bs tn).ready=true:=(by simp at c71;exact c71.1)
          have hJ0:Axt n i (k+40) q tn V bs d.c d.t.ts d.c bs (V tn):=⟨hl,.refl _,by rw [Anf];exact DV.mono h (by omega),hacc,hrdy tn htn hrc,rfl,fun _ _ _=>rfl,.inr ⟨hrc,rfl,rfl⟩⟩
          refine zC ?_
          first | exact ⟨_,_,⟨t1,c1,bs1,w,rfl,rfl,hJ1⟩,jZ⟩ | exact ⟨_,_,⟨d.t,d.c,bs,V tn,rfl,rfl,hJ0⟩,jZ⟩
      · rintro F L ⟨t1,c1,bs1,w,rfl,rfl,hb1,hF1,hD1,hacc1,hwn,hwear,hoth,hpg⟩
        iterate 5 refine sa ?_
        refine Rm (fun F L=>F=[(0,ptr lg),(3,.int .i64 (tn:Nat)),(6,.pointer (some ⟨bb,tn*5,none⟩)),(10,wv (seqN bs last))]∧L=(lg,true,C (lgC d.dk bb i last) tLg)::(bb,true,C (lbs bs1) tLB)::(dkH ⟨d.dk,t1,c1⟩++[])) ?_ ?_
        · refine zC ?_
          refine Aa rfl (fun c89=> ?_) (fun c89=> ?_)
          · simp only [A4f,A2m] at c89
            have hlt:last.toNat≠tn:=(fun e=>by have:=hls c89;rw [e] at this;exact this hfree)
            have hsq:seqN bs last=(bAt bs1 last.toNat).seq+1:=(by unfold seqN;rw [A6u (by omega),hoth _ (by omega) hlt])
            refine At [(13,[(0,false),(1,false),(2,false),(3,false),(4,false),(5,false),(6,false),(7,false),(8,false),(9,false),(10,false),(11,false),(12,false)])] (by kernel_rfl) ?_
            iterate 9 refine sb ?_
            refine Aj (Co rfl rfl (by omega)) ?_
            refine zA ?_
            refine Aj (show Rd _ _ _ _ (wv (bAt bs1 last.toNat).seq) from Al rfl mM (Fs (o:=2) (Er (by omega)) (by omega) rfl)) ?_
            refine Aj (Qx rfl rfl) ?_
            refine zC ?_
            exact ⟨_,_,⟨rfl,rfl⟩,by rw [hsq];exact jZ⟩
          · simp only [A4f,A2m] at c89
            have hsq:seqN bs last=1:=(by unfold seqN;rw [A6v (by omega)])
            refine zC ?_
            exact ⟨_,_,⟨rfl,rfl⟩,by rw [hsq];exact jZ⟩
        · rintro F L ⟨rfl,rfl⟩
          refine zC ?_
          refine zE rfl (Gg) ?_
          rintro _ _ ⟨s104,rfl,rfl,hs104,ho104⟩
          refine A6 aQ ?_
          refine Am rfl rfl rfl rfl (fun b105=> ?_)
          refine zI rfl ((J9 (kind:=3) (s:=s104) (by rw [hs104,A4];decide)).to (by rw [hs104,show A8 8 8=8 from rfl,Ug (by decide)]) rfl) ?_
          refine zC ?_
          refine Ah rfl (fun b11=> ?_)
          rw [Cc]
          first | refine Ac rfl rfl uD (B9) (Ai) (Bi (by first | exact Ai | exact A20 ..)) ?_ | refine Ac rfl rfl uD rfl rfl rfl ?_
          refine zA ?_
          refine Ae (Ao rfl mM (by first | exact Ax | rfl)) rfl ?_
          refine Ch rfl (Xv (d:=⟨d.dk,t1,c1⟩) (bb:=bb) (nb:=i) (last:=last) hD1 (by omega) hq hacc1 (b:=tn) (j:=1) (p:=Pb (seqN bs last)) (by omega) (by omega)) sP rfl (fun v112 Y112 h112=> ?_)
          obtain ⟨t2,c2,e,rfl,rfl,hF2,hW⟩:=h112
          obtain ⟨_,v,hv1,hv2,hv3⟩:=hW.resolve_left (fun h9=>h9.2.1 (by rw [Fa];exact hwn))
          rw [Fa] at hv2
          rw [Rb] at hv3
          have hk0:=A0b hv2 (by omega)
          have he32:e≠32:=(by rcases hv3 with h9 | h9 <;> omega)
          refine A6 aQ ?_
          refine zC ?_
          refine Ar [0,3,6,10] kQ (fun (_u:Unit)=>[(8,.int .i64 e),(13,.int .i64 0)]) (fun _u=>(lg,true,C (lgC d.dk bb i last) tLg)::(bb,true,C (lbs bs1) tLB)::(dkH ⟨d.dk,t2,c2⟩++[])) (fun _u=>True) (fun _u=>0) (()) (by first | trivial | omega | simp) kP sP ?_
          rintro _ _
          refine zC ?_
          refine Aa rfl (fun c118=> ?_) (fun c118=> ?_)
          · skip
            exact absurd (by simp at c118;exact c118) he32
          · skip
            refine zC ?_
            refine Aa rfl (fun c131=> ?_) (fun c131=> ?_)
            · skip
              have he0:e≠0:=(by simpa using c131)
              have hv30:=hv3.resolve_left (fun h9=>he0 h9.1)
              refine zC ?_
              exact zL (hR:=by exact ⟨t2,c2,bs1,last,e,rfl,rfl,.inr ⟨hb1,hF1.trans hF2,tn,v,by omega,.inr ⟨hv30.1,hv30.2.1,fun hp=>hv30.2.2.1 (by rw [(hF1.pos hp).1];exact hp),hv30.2.2.2.2,.inr ⟨hv1,by rcases hpg with ⟨_,h9⟩ | ⟨h8,_,h9⟩;(rw [h9] at hk0;rcases hk0 with h7 | h7;exact .inl h7;exact .inl (by rw [h7,Fv (by decide)]));(rw [h9] at hk0;exact .inr ⟨h8,hk0⟩),hv30.2.2.2.1⟩⟩⟩⟩)
            · skip
              have he0:e=0:=(by simpa using c131)
              obtain ⟨_,hD2,hacc2,hp2,_⟩:=hv3.resolve_right (fun h9=>by rw [he0] at h9;exact absurd h9.1 (by decide))
              have hg1:bs1[tn]? =some (bAt bs1 tn):=Er (by omega)
              have hg2:(bs1.set tn { bAt bs1 tn with seq:=seqN bs last })[tn]? =some { bAt bs1 tn with seq:=seqN bs last }:=(by simp [hb1,htn])
              have hg3:(bs1.set tn { bAt bs1 tn with seq:=seqN bs last,next:=2 })[tn]? =some { bAt bs1 tn with seq:=seqN bs last,next:=2 }:=(by simp [hb1,htn])
              refine zA ?_
              first | refine Ac (cs':=lbs (bs1.set tn { bAt bs1 tn with seq:=seqN bs last })) rfl rfl uD rfl rfl (Fb (o:=2) hg1 rfl) ?_ | refine Ac (cs':=lbs ((bs1.set tn { bAt bs1 tn with seq:=seqN bs last }).set tn { bAt bs1 tn with seq:=seqN bs last,next:=2 })) rfl rfl uD rfl rfl (Fb (o:=4) hg2 rfl) ?_ | (rw [A54];refine Ac (cs':=lbs ((bs1.set tn { bAt bs1 tn with seq:=seqN bs last,next:=2 }).set tn { bAt bs1 tn with seq:=seqN bs last,next:=2,ready:=false })) rfl rfl uD rfl rfl (Fb (o:=3) hg3 rfl) ?_)
              refine zA ?_
              first | refine Ac (cs':=lbs (bs1.set tn { bAt bs1 tn with seq:=seqN bs last })) rfl rfl uD rfl rfl (Fb (o:=2) hg1 rfl) ?_ | refine Ac (cs':=lbs ((bs1.set tn { bAt bs1 tn with seq:=seqN bs last }).set tn { bAt bs1 tn with seq:=seqN bs last,next:=2 })) rfl rfl uD rfl rfl (Fb (o:=4) hg2 rfl) ?_ | (rw [A54];refine Ac (cs':=lbs ((bs1.set tn { bAt bs1 tn with seq:=seqN bs last,next:=2 }).set tn { bAt bs1 tn with seq:=seqN bs last,next:=2,ready:=false })) rfl rfl uD rfl rfl (Fb (o:=3) hg3 rfl) ?_)
              refine zA ?_
              first | refine Ac (cs':=lbs (bs1.set tn { bAt bs1 tn with seq:=seqN bs last })) rfl rfl uD rfl rfl (Fb (o:=2) hg1 rfl) ?_ | refine Ac (cs':=lbs ((bs1.set tn { bAt bs1 tn with seq:=seqN bs last }).set tn { bAt bs1 tn with seq:=seqN bs last,next:=2 })) rfl rfl uD rfl rfl (Fb (o:=4) hg2 rfl) ?_ | (rw [A54];refine Ac (cs':=lbs ((bs1.set tn { bAt bs1 tn with seq:=seqN bs last,next:=2 }).set tn { bAt bs1 tn with seq:=seqN bs last,next:=2,ready:=false })) rfl rfl uD rfl rfl (Fb (o:=3) hg3 rfl) ?_)
              refine zC ?_
              exact Bb (Aw Tryz.results153 (Af rfl)) (by exact ⟨t2,c2,bs1.set tn { bAt bs1 tn with seq:=seqN bs last,next:=2,ready:=false },(tn:Int),0,rfl,rfl,.inr ⟨by rw [A47];exact hb1,hF1.trans hF2,tn,v,by omega,.inl ⟨rfl,hD2,hacc2,rfl,fun j hj hne=>by rw [Dn (by omega),A6u hne];exact hoth j hj hne,(bAt bs1 tn).known,by rw [Dn (by omega),A6v rfl,← hwear],hv1,hp2,by rcases hpg with ⟨h8,h9⟩ | ⟨h8,h7,h9⟩;(rw [h9] at hk0;rcases hk0 with h6 | h6;exact .inl ⟨h8,h6⟩;exact .inl ⟨h8,by rw [h6,Fv (by decide)]⟩);(rw [h9] at hk0;exact .inr ⟨h8,h7,hk0⟩)⟩⟩⟩) (by rw [A54];exact sP)
end
end
section
open Go.K
instance agg65:Agg Tryz.prog 65 true:=⟨⟨_,Tryz.underlying65,rfl⟩⟩
instance siz65:Siz Tryz.prog 65 2:=⟨by kernel_rfl⟩
instance zer65:Zer Tryz.prog 65 ([.int .i64 0,.int .i64 0]):=⟨by kernel_rfl⟩
instance plc65:Plc Tryz.prog 65 [(0,1),(1,1)]:=⟨⟨_,Tryz.underlying65,fun _=>by kernel_rfl⟩⟩
abbrev tPc:TypeId:=65
def A0c (V:Nat→Blk) (bs:List LB) (nb:Nat):Prop:=∀ b<nb,(bAt bs b).ready=true→(V b).next=1∧(bAt bs b).known=true∧A0 (V b) 0=Hh (bAt bs b).wear
def Z2 (V:Nat→Blk) (bs:List LB) (last:Int):Prop:=last<0∨∃ l:Nat,last=l∧∀ m:Nat,(bAt bs l).next≤m→m<8→(V l).next≠m
def Ri (bs bs':List LB) (nb:Nat) (last to:Int):Prop:=∀ j<nb,(j:Int)≠to→bAt bs' j=bAt bs j∨(last=j∧bAt bs' j={ bAt bs j with next:=8 })
def Ate (n nb k:Nat) (q:Qt) (V:Nat→Blk) (bs:List LB) (last:Int) (p:Pg) (c:Chip) (t:TS) (bs':List LB) (last' e pb pj:Int) (t':TS) (c':Chip):Prop :=
  (∃ l nx:Nat,last=l∧(bAt bs l).next≤nx∧nx<8∧(V l).next=nx∧FrA c c'∧∃ v:Blk,v.next=((nx+1:Nat):Int)∧Ta v (V l) nx ∧
    ((e=0∧DV c' t' n k (upV V l v)∧Acc q c' t'∧A0 v nx=p∧pb=l∧pj=nx∧last'=last∧bs'=bs.set l { bAt bs l with next:=(nx:Int)+1 }∧(q.n=0→Ace c c')) ∨
     (e=30∧c'.off=true∧¬ c.after<0∧(∃ m,A0 v nx=Cn m Aq p)∧Later c' n k q.n (upV V l v)))) ∨
  (Z2 V bs last∧((e=40∧toU bs nb<0∧t'=t∧c'=c∧last'=last∧bs'.length=nb∧Ri bs bs' nb last (-1)) ∨
    (FrA c c'∧bs'.length=nb∧∃ (to:Nat) (v:Blk),toU bs nb=to ∧
      ((e=0∧DV c' t' n k (upV V to v)∧Acc q c' t'∧pb=to∧pj=2∧last'=to∧v.next=3∧A0 v 2=p∧A0 v 1=Pb (seqN bs last)∧A0 v 0=Hh (bAt bs to).wear∧bAt bs' to=⟨(bAt bs to).wear,true,seqN bs last,false,3⟩∧Ri bs bs' nb last to) ∨
       (e=30∧c'.off=true∧¬ c.after<0∧Later c' n k q.n (upV V to v)∧(Axs (V to) v (bAt bs to) (seqN bs last)∨(v.next=3∧A0 v 1=Pb (seqN bs last)∧(∃ m,A0 v 2=Cn m Aq p)∧A0 v 0=Hh (bAt bs to).wear)))))))
def bsN (bs:List LB) (last:Int) (nx:Nat):List LB:=if 0≤last then bs.set last.toNat { bAt bs last.toNat with next:=(nx:Int) } else bs
theorem Pe (bs:List LB) (last:Int) (nx:Nat):(bsN bs last nx).length=bs.length:=by unfold bsN;split <;> simp
theorem Oe {bs:List LB} {last:Int} {nx j:Nat} (hl:last<bs.length):bAt (bsN bs last nx) j=if last=j then { bAt bs j with next:=(nx:Int) } else bAt bs j:=by
  unfold bsN
  split
  · rw [Dn (by omega)]
    grind
  grind
theorem F6 {bs:List LB} {last:Int} {nx j:Nat} (hl:last<bs.length):(bAt (bsN bs last nx) j).seq=(bAt bs j).seq∧(bAt (bsN bs last nx) j).wear=(bAt bs j).wear∧(bAt (bsN bs last nx) j).ready=(bAt bs j).ready∧(bAt (bsN bs last nx) j).known=(bAt bs j).known:=by
  rw [Oe hl]
  split <;> exact ⟨rfl,rfl,rfl,rfl⟩
theorem Aho {bs:List LB} {last:Int} {nx:Nat} (hl:last<bs.length):∀ k,toU (bsN bs last nx) k=toU bs k
  | 0=>rfl
  | k+1=>by
    unfold toU
    rw [Aho hl k,(F6 hl).1,(F6 hl).2.1,(F6 hl).2.1]
theorem Anh {bs:List LB} {last:Int} {nx:Nat} (hl:last<bs.length):seqN (bsN bs last nx) last=seqN bs last:=by
  unfold seqN
  rw [(F6 hl).1]
theorem Ahp {bs:List LB} {l nx:Nat} (m:Int) (hl:l<bs.length):(bsN bs l nx).set l { bAt (bsN bs l nx) l with next:=m }=bs.set l { bAt bs l with next:=m }:=by
  rw [Oe (by omega),A6v rfl]
  unfold bsN
  rw [A6v (by omega),A33,A54]
def Aj2 (n nb k:Nat) (q:Qt) (V:Nat→Blk) (bs:List LB) (last:Int) (nx:Nat) (c:Chip) (t:TS) (t1:TS) (c1:Chip) (bs1:List LB) (bn jn:Nat) (V1:Nat→Blk):Prop :=
  bs1.length=nb∧FrA c c1∧DV c1 t1 n k V1∧Acc q c1 t1∧bn<nb∧jn<8∧(bAt bs1 bn).next=jn ∧
  ((last=bn∧jn=nx∧t1=t∧c1=c∧bs1=bsN bs last nx∧V1=V) ∨
   (Z2 V bs last∧jn=2∧toU bs nb=bn∧bAt bs1 bn=⟨(bAt bs bn).wear,true,seqN bs last,false,2⟩∧Ri bs bs1 nb last bn∧∃ w,V1=upV V bn w∧w.next=2∧A0 w 1=Pb (seqN bs last)∧A0 w 0=Hh (bAt bs bn).wear))
theorem Ahq {v w:Blk} {j i:Nat} (h:Ta v w j) (hi:i<j) (h8:i<8):A0 v i=A0 w i∨A0 v i=D1 (A0 w i):=by
  have:=h i h8 hi
  rwa [← Fh (v:=v) h8,← Fh (v:=w) h8] at this
section
variable {n nb k:Nat} {q:Qt} {nx bn jn:Nat} {V V1:Nat→Blk} {bs bs1:List LB} {last e:Int} {c c1 c2:Chip} {t t1 t2:TS} {p:Pg}
theorem Axu (hl:bs.length=nb) (hJ:Aj2 n nb (k+60) q V bs last nx c t t1 c1 bs1 bn jn V1) (g1:0≤last→(bAt bs last.toNat).next≤nx) (hW:Z0 n (k+60+20) q V1 bn jn p c1 t1 0 t2 c2) :
    Ate n nb (k+80) q V bs last p c t (bs1.set bn { bAt bs1 bn with next:=(jn:Int)+1 }) bn 0 bn jn t2 c2:=by
  obtain ⟨hb1,hF1,hD1,hacc1,hbn,hjn,hnx,hph⟩:=hJ
  obtain ⟨hF2,hW⟩:=hW
  obtain ⟨hn2,v,hv1,hv2,hv3⟩:=hW.resolve_left (fun h9=>absurd h9.1 (by decide))
  obtain ⟨_,hD2,hacc2,hp,haf⟩:=hv3.resolve_right (fun h9=>absurd h9.1 (by decide))
  rcases hph with ⟨h1,rfl,rfl,rfl,rfl,rfl⟩ | ⟨h1,rfl,h2,h3,h4,w,rfl,h5,h6,h7⟩
  · subst h1
    have hg:=g1 (by omega)
    rw [A33] at hg
    exact .inl ⟨bn,jn,rfl,hg,hjn,hn2,hF2,v,hv1,hv2,.inl ⟨rfl,hD2,hacc2,hp,rfl,rfl,rfl,Ahp _ (by omega),haf⟩⟩
  · rw [Fa] at hv2
    rw [Rb] at hD2
    have k0:=Ahq hv2 (i:=0) (by omega) (by omega)
    have k1:=Ahq hv2 (i:=1) (by omega) (by omega)
    rw [h7,Fv (by decide)] at k0
    rw [h6,Fv (by decide)] at k1
    refine .inr ⟨h1,.inr ⟨hF1.trans hF2,by rw [A47];exact hb1,bn,v,h2,.inl ⟨rfl,hD2,hacc2,rfl,rfl,rfl,hv1,hp,by rcases k1 with e | e <;> exact e,by rcases k0 with e | e <;> exact e,?_,fun j hj hne=> ?_⟩⟩⟩
    · rw [Dn (by omega),A6v rfl,h3]
      rfl
    · rw [Dn (by omega),A6u (by omega)]
      exact h4 j hj hne
theorem Ani (hl:bs.length=nb) (hJ:Aj2 n nb (k+60) q V bs last nx c t t1 c1 bs1 bn jn V1) (g1:0≤last→(bAt bs last.toNat).next≤nx) (hW:Z0 n (k+60+20) q V1 bn jn p c1 t1 e t2 c2) (h0:e≠0) (h32:e≠32) :
    Ate n nb (k+80) q V bs last p c t bs1 bn e 0 0 t2 c2:=by
  obtain ⟨hb1,hF1,hD1,hacc1,hbn,hjn,hnx,hph⟩:=hJ
  obtain ⟨hF2,hW⟩:=hW
  obtain ⟨hn2,v,hv1,hv2,hv3⟩:=hW.resolve_left (fun h9=>h32 h9.1)
  obtain ⟨r1,r2,r3,r4,r5⟩:=hv3.resolve_left (fun h9=>h0 h9.1)
  rcases hph with ⟨h1,rfl,rfl,rfl,rfl,rfl⟩ | ⟨h1,rfl,h2,h3,h4,w,rfl,h5,h6,h7⟩
  · subst h1
    have hg:=g1 (by omega)
    rw [A33] at hg
    exact .inl ⟨bn,jn,rfl,hg,hjn,hn2,hF2,v,hv1,hv2,.inr ⟨r1,r2,r3,r4,r5⟩⟩
  · rw [Fa] at hv2
    rw [Rb] at r5
    have k0:=Ahq hv2 (i:=0) (by omega) (by omega)
    have k1:=Ahq hv2 (i:=1) (by omega) (by omega)
    rw [h7,Fv (by decide)] at k0
    rw [h6,Fv (by decide)] at k1
    exact .inr ⟨h1,.inr ⟨hF1.trans hF2,hb1,bn,v,h2,.inr ⟨r1,r2,fun hp=>r3 (by rw [(hF1.pos hp).1];exact hp),r5,.inr ⟨hv1,by rcases k1 with e | e <;> exact e,r4,by rcases k0 with e | e <;> exact e⟩⟩⟩⟩
theorem Anj (hl:bs.length=nb) (hJ:Aj2 n nb (k+60) q V bs last nx c t t1 c1 bs1 bn jn V1) (hW:Z0 n (k+60+20) q V1 bn jn p c1 t1 32 t2 c2) :
    last=bn∧jn=nx∧(V bn).next≠nx∧t2=t∧c2=c∧bs1.set bn { bAt bs1 bn with next:=(jn:Int)+1 }=bsN bs last (nx+1):=by
  obtain ⟨hb1,hF1,hD1,hacc1,hbn,hjn,hnx,hph⟩:=hJ
  obtain ⟨hF2,hW⟩:=hW
  rcases hW with ⟨_,hn2,rfl,rfl⟩ | ⟨_,v,_,_,hv3⟩
  · rcases hph with ⟨h1,rfl,rfl,rfl,rfl,rfl⟩ | ⟨h1,rfl,h2,h3,h4,w,rfl,h5,h6,h7⟩
    · subst h1
      refine ⟨rfl,rfl,hn2,rfl,rfl,?_⟩
      rw [Ahp _ (by omega)]
      unfold bsN
      rw [A6v (by omega),A33]
      congr 2
    · rw [Fa,h5] at hn2
      omega
  omega
end
section
variable {d:Dsk} {n k:Nat} {q:Qt} {lg bb nb:Nat} {last:Int} {V:Nat→Blk} {bs:List LB}
theorem Afk (h:DD d n k V) (hk:k≤400000000000) (hq:q.n≤3) (hacc:Acc q d.c d.t.ts) (hnb:nb+6=n) (hl:bs.length=nb) (hlr: -1≤last∧last<nb)
    (hls:0≤last→(bAt bs last.toNat).seq.toNat≠0∧2≤(bAt bs last.toNat).next∧(bAt bs last.toNat).next≤8) (hrdy:A0c V bs nb) {kind:By} {qs:Sl (Sl By)} (hj:(Ba qs.list).length≤70000000000000) :
    Does Tryz.prog 112 [ptr lg,bv kind,qs.val] ((lg,true,C (lgC d.dk bb nb last) tLg)::(bb,true,C (lbs bs) tLB)::(dkH d++(qs.hp tSB++(Dg qs.list++[]))))
    (fun v H=>∃ (t':Tab) (c':Chip) (bs':List LB) (last' e pb pj:Int),v= .tuple #[.agg #[.int .i64 pb,.int .i64 pj],.int .i64 e]∧H=(lg,true,C (lgC d.dk bb nb last') tLg)::(bb,true,C (lbs bs') tLB)::(dkH ⟨d.dk,t',c'⟩++[]) ∧
      (((kind.toNat≤3∨Cv kind (Ba qs.list)=true)∧e=1∧pb=0∧pj=0∧t'=d.t∧c'=d.c∧bs'=bs∧last'=last) ∨
       (3<kind.toNat∧Cv kind (Ba qs.list)=false∧Ate n nb (k+80) q V bs last (Cj kind (Ba qs.list)) d.c d.t.ts bs' last' e pb pj t'.ts c'))):=by
  have hn40:=h.di.wf.n2
  refine zF 100 Tryz.func112 ?_
  refine zC ?_
  refine Ah rfl (fun b6=> ?_)
  refine zC ?_
  refine zI rfl (Od (kind:=kind) (q:=qs) hj) ?_
  refine zC ?_
  refine Ah rfl (fun b8=> ?_)
  rw [Cc]
  first | refine Ac rfl rfl uD (B9) (Ai) (Bi (by first | exact Ai | exact A20 ..)) ?_ | refine Ac rfl rfl uD rfl rfl rfl ?_
  refine zC ?_
  refine Aa rfl (fun c25=> ?_) (fun c25=> ?_)
  · skip
    have hbad:kind.toNat≤3∨Cv kind (Ba qs.list)=true:=(by simp at c25;rcases c25 with h9 | h9;exact .inl (by omega);right;cases hw:Cv kind (Ba qs.list);(exfalso;apply h9;unfold Cw;rw [hw];rfl);rfl)
    refine zC ?_
    exact zL (hR:=by exact ⟨d.t,d.c,bs,last,1,0,0,rfl,rfl,.inl ⟨hbad,rfl,rfl,rfl,rfl,rfl,rfl,rfl⟩⟩)
  · skip
    have hgood:3<kind.toNat∧Cv kind (Ba qs.list)=false:=(by simp at c25;refine ⟨by omega,?_⟩;cases hw:Cv kind (Ba qs.list);rfl;(exfalso;have h9:=c25.2;unfold Cw at h9;rw [hw] at h9;simp at h9))
    have hwf:(Cw kind (Ba qs.list)).1=Cj kind (Ba qs.list):=(by unfold Cw;rw [hgood.2];rfl)
    obtain ⟨x0,hx0⟩:∃ x0:Nat,x0≤8∧(0≤last→(bAt bs last.toNat).next=x0):=(by by_cases h9:0≤last;(have:=hls h9;exact ⟨(bAt bs last.toNat).next.toNat,by omega,fun _=>by omega⟩);exact ⟨0,by omega,fun h8=>absurd h8 h9⟩)
    have hbs0:bsN bs last x0=bs:=(by apply Am9 (Pe ..);intro j hj9;rw [Oe (by omega)];split;(rename_i h9;have h8:=hx0.2 (by omega);rw [show last.toNat=j by omega] at h8;rw [← h8]);rfl)
    refine zC ?_
    refine Ar [0,6,8] kQ (fun (st:Nat×Tab)=>[]) (fun st=>(b8,true,C (vbc (Cj kind (Ba qs.list))) tPg)::(b6,true,C [.int .i64 0,.int .i64 0] tPc)::(lg,true,C (lgC d.dk bb nb last) tLg)::(bb,true,C (lbs (bsN bs last st.1)) tLB)::(dkH ⟨d.dk,st.2,d.c⟩++[])) (fun st=>st.1≤8∧(0≤last→(bAt bs last.toNat).next≤st.1)∧(∀ m:Nat,0≤last→(bAt bs last.toNat).next≤m→m<st.1→(V last.toNat).next≠m)∧st.2.ts=d.t.ts) (fun st=>8 - st.1) ((x0,d.t)) ⟨hx0.1,fun h9=>by rw [hx0.2 h9];exact A6g _,fun m h9 h8 h7=>by rw [hx0.2 h9] at h8;simp only at h7;omega,rfl⟩ kP (by rw [hbs0,← hwf];exact sP) ?_
    rintro ⟨nx,t0⟩ ⟨g0,g1,g2,g3⟩
    simp only at g0 g1 g2 g3
    have h':DD ⟨d.dk,t0,d.c⟩ n k V:=(by show DV d.c t0.ts n k V;rw [g3];exact h)
    have hacc':Acc q d.c t0.ts:=(by rw [g3];exact hacc)
    refine sa ?_
    refine Rm (fun F L=>∃ (t1:Tab) (c1:Chip) (bs1:List LB) (bn jn:Nat) (V1:Nat→Blk),F=[(0,ptr lg),(6,ptr b6),(8,ptr b8)]∧L=(b8,true,C (vbc (Cj kind (Ba qs.list))) tPg)::(b6,true,C [.int .i64 0,.int .i64 0] tPc)::(lg,true,C (lgC d.dk bb nb (bn:Nat)) tLg)::(bb,true,C (lbs bs1) tLB)::(dkH ⟨d.dk,t1,c1⟩++[])∧Aj2 n nb (k+60) q V bs last nx d.c d.t.ts t1.ts c1 bs1 bn jn V1) ?_ ?_
    · refine zC ?_
      refine At [(19,[(0,false),(1,false),(2,false),(3,false),(4,false),(5,false),(6,false),(7,false),(8,false),(9,false),(10,false),(11,false),(12,false),(13,false),(14,false),(15,false),(16,false),(17,false),(18,false)])] (by kernel_rfl) ?_
      iterate 7 refine sb ?_
      refine' Lz rfl rfl inferInstance rfl rfl rfl rfl rfl (fun hg32=> ?_) ?_
      rotate_left
      · try (simp at hg32;show _)
        iterate 17 refine sb ?_
        refine Aj (Co rfl rfl (by omega)) ?_
        refine zA ?_
        refine Aj (show Rd _ _ _ _ (.int .i64 (nx:Nat)) from Al rfl mM (Fs (o:=4) (x:={ bAt bs last.toNat with next:=(nx:Int) }) (by rw [Er (by rw [Pe];omega),Oe (by omega),A6v (by omega)]) (by omega) rfl)) ?_
        refine zC ?_
        exact D9 rfl sP
      refine zC ?_
      refine Aa rfl (fun c45=> ?_) (fun c45=> ?_)
      · simp only [A40,A27,A4f,A2m] at c45
        have hNR:Z2 V bs last:=(by rcases c45 with h9 | h9;exact .inl h9;by_cases h8:last<0;exact .inl h8;exact .inr ⟨last.toNat,by omega,fun m h7 h6=>g2 m (by omega) h7 (by omega)⟩)
        refine zC ?_
        refine Ch rfl (Ang (d:=⟨d.dk,t0,d.c⟩) (bb:=bb) (last:=last) (bs:=bsN bs last nx) h' (by omega) hq hacc' hnb (by rw [Pe];exact hl) hlr (fun h9=>by rw [(F6 (by omega)).1];exact (hls h9).1) (fun b hb hr=>(hrdy b hb (by rw [(F6 (by omega)).2.2.1] at hr;exact hr)).1)) sP rfl (fun v47 Y47 h47=> ?_)
        obtain ⟨t1,c1,bs1,last1,e1,rfl,rfl,hB⟩:=h47
        unfold Ane at hB
        rw [Aho (by omega),Anh (by omega)] at hB
        simp only at hB
        rw [g3] at hB
        refine A6 aQ ?_
        refine zC ?_
        refine Aa rfl (fun c49=> ?_) (fun c49=> ?_)
        · skip
          have he1:e1≠0:=(by simpa using c49)
          refine zC ?_
          exact zL (hR:=by exact ⟨t1,c1,bs1,last1,e1,0,0,rfl,rfl,.inr ⟨hgood.1,hgood.2,.inr ⟨hNR,by rcases hB with ⟨h9,h8,h7,h6,h5,h4⟩ | ⟨h9,h8,tn,w,h7,h6⟩;(exact .inl ⟨h9,h8,h5,h4,h6,by rw [h7,Pe];exact hl,fun j hj9 hne=>by rw [h7,Oe (by omega)];split;(rename_i h3;by_cases h2:nx=8;(subst h2;exact .inr ⟨h3,rfl⟩);(exfalso;rcases c45 with h0 | h0 <;> omega));exact .inl rfl⟩);(obtain ⟨r1,r2,r3,r4,r5⟩:=h6.resolve_left (fun h5=>he1 h5.1);exact .inr ⟨h8,h9,tn,w,h7,.inr ⟨r1,r2,r3,fun d a1 a2 a3 a4=>(by obtain ⟨x0,x1,x2,x3⟩:=r4 d a1 a2 a3 a4;exact ⟨x0,x1,x2.mono (by omega),x3⟩),.inl (by unfold Axs at r5 ⊢;rw [(F6 (by omega)).2.1,(F6 (by omega)).2.2.1] at r5;exact r5)⟩⟩)⟩⟩⟩)
        · skip
          have he1:e1=0:=(by simpa using c49)
          have hB2:=hB.resolve_left (fun h9=>by rw [he1] at h9;exact absurd h9.1 (by decide))
          obtain ⟨hb1,hF1,tn,w,htn,hB3⟩:=hB2
          obtain ⟨_,hD1,hacc1,rfl,hoth,kn,hbt,hbg⟩:=hB3.resolve_right (fun h9=>by rw [he1] at h9;exact absurd h9.1 (by decide))
          have htl:tn<nb:=(by have:=Z1 bs nb;omega)
          have hp0:kn=true∧A0 w 0=Hh (bAt bs tn).wear:=(by unfold Aw0 at hbg;rw [(F6 (by omega)).2.1,(F6 (by omega)).2.2.1,(F6 (by omega)).2.2.2] at hbg;rcases hbg.2.2 with h9 | ⟨h9,h8,h7⟩;exact h9;(obtain ⟨_,h6,h5⟩:=hrdy tn htl h9;refine ⟨h8.trans h6,?_⟩;rw [h5] at h7;rcases h7 with h7 | h7;exact h7;rw [h7,Fv (by decide)]))
          have hbt2:bAt bs1 tn=⟨(bAt bs tn).wear,true,seqN bs last,false,2⟩:=(by rw [hbt,hp0.1,(F6 (by omega)).2.1])
          have hoB:Ri bs bs1 nb last tn:=(fun j hj9 hne=>by rw [hoth j hj9 (by omega),Oe (by omega)];split;(rename_i h9;by_cases h8:nx=8;(subst h8;exact .inr ⟨h9,rfl⟩);(exfalso;rcases c45 with h7 | h7 <;> omega));exact .inl rfl)
          have hJB:Aj2 n nb (k+60) q V bs last nx d.c d.t.ts t1.ts c1 bs1 tn 2 (upV V tn w):=⟨hb1,hF1,hD1,hacc1,htl,by omega,by rw [hbt2];rfl,.inr ⟨hNR,rfl,htn,hbt2,hoB,w,rfl,hbg.1,hbg.2.1,hp0.2⟩⟩
          refine zC ?_
          first | exact ⟨_,_,⟨t1,c1,bs1,tn,2,upV V tn w,rfl,rfl,hJB⟩,jZ⟩ | exact ⟨_,_,⟨t0,d.c,bsN bs last nx,l,nx,V,rfl,rfl,hJA⟩,(by rw [← hll];exact jZ)⟩
      · simp only [A40,A27,A4f,A2m] at c45
        obtain ⟨l,hll⟩:∃ l:Nat,last=l:=⟨last.toNat,by omega⟩
        have hJA:Aj2 n nb (k+60) q V bs last nx d.c d.t.ts t0.ts d.c (bsN bs last nx) l nx V:=⟨by rw [Pe];exact hl,.refl _,DV.mono h' (by omega),hacc',by omega,by omega,by rw [Oe (by omega),A6v hll],.inl ⟨hll,rfl,g3,rfl,rfl,rfl⟩⟩
        refine zC ?_
        first | exact ⟨_,_,⟨t1,c1,bs1,tn,2,upV V tn w,rfl,rfl,hJB⟩,jZ⟩ | exact ⟨_,_,⟨t0,d.c,bsN bs last nx,l,nx,V,rfl,rfl,hJA⟩,(by rw [← hll];exact jZ)⟩
    · rintro F L ⟨t1,c1,bs1,bn,jn,V1,rfl,rfl,hJ⟩
      obtain ⟨hb1,hF1,hD1,hacc1,hbn,hjn,hnx,hph⟩:=id hJ
      refine zC ?_
      refine At [(10,[(0,false),(1,false),(2,false),(3,false),(4,false),(5,false),(6,false),(7,false),(8,false),(9,false)])] (by kernel_rfl) ?_
      iterate 9 refine sb ?_
      refine Aj (Co rfl rfl (by omega)) ?_
      refine zA ?_
      refine Ae (show Rd _ _ _ _ (.int .i64 (jn:Nat)) from (by rw [← hnx];exact Al rfl mM (by simp only [A33];exact Fs (o:=4) (Er (by omega)) (by omega) rfl))) rfl ?_
      refine zC ?_
      refine At [(7,[(0,false),(1,false),(2,false),(3,false),(4,false),(5,false),(6,false)]),(8,[(7,true)]),(9,[(8,false)])] (by kernel_rfl) ?_
      iterate 7 refine sb ?_
      refine Aj (Ao rfl mM (by first | exact Ax | rfl)) ?_
      refine zC ?_
      refine Ch rfl (Xv (d:=⟨d.dk,t1,c1⟩) (bb:=bb) (nb:=nb) (last:=(bn:Nat)) hD1 (by omega) hq hacc1 (b:=bn) (j:=jn) (p:=Cj kind (Ba qs.list)) (by omega) hjn) sP rfl (fun v72 Y72 h72=> ?_)
      obtain ⟨t2,c2,e,rfl,rfl,hW⟩:=h72
      have hgb:bs1[bn]? =some (bAt bs1 bn):=Er (by omega)
      refine A6 aQ ?_
      refine zC ?_
      refine Aa rfl (fun c76=> ?_) (fun c76=> ?_)
      · skip
        have he0:e=0:=(by simpa using c76)
        subst he0
        have hA:=Axu hl hJ g1 hW
        refine zA ?_
        refine Ae (show Rd _ _ _ _ (.int .i64 (jn:Nat)) from (by rw [← hnx];exact Al rfl mM (Fs (o:=4) hgb (by omega) rfl))) rfl ?_
        iterate 3 refine sb ?_
        refine Ac (cs':=lbs (bs1.set bn { bAt bs1 bn with next:=(jn:Int)+1 })) rfl rfl uD rfl rfl (Fb (o:=4) hgb rfl) ?_
        refine zC ?_
        exact zL (hR:=by exact ⟨t2,c2,_,_,0,bn,jn,rfl,rfl,.inr ⟨hgood.1,hgood.2,hA⟩⟩)
      · skip
        have he0:e≠0:=(by simpa using c76)
        refine zC ?_
        refine Aa rfl (fun c91=> ?_) (fun c91=> ?_)
        · skip
          have he32:e=32:=(by simpa using c91)
          subst he32
          obtain ⟨s1,s2,s3,s4,s5,s6⟩:=Anj hl hJ hW
          refine zA ?_
          refine Ae (show Rd _ _ _ _ (.int .i64 (jn:Nat)) from (by rw [← hnx];exact Al rfl mM (Fs (o:=4) hgb (by omega) rfl))) rfl ?_
          iterate 3 refine sb ?_
          refine Ac (cs':=lbs (bs1.set bn { bAt bs1 bn with next:=(jn:Int)+1 })) rfl rfl uD rfl rfl (Fb (o:=4) hgb rfl) ?_
          refine zC ?_
          exact ⟨(nx+1,t2),⟨by simp only;omega,fun h9=>(by simp only;have:=g1 h9;omega),fun m h9 h8 h7=>(by by_cases e9:m=nx;(subst e9;rw [s1,A33];exact s3);exact g2 m h9 h8 (by simp only at h7;omega)),s4⟩,(by simp only;omega),kP,kP,_,(by simp only;rw [← s6,← s5,s1];exact sP)⟩
        · skip
          have he32:e≠32:=(by simpa using c91)
          have hA:=Ani hl hJ g1 hW he0 he32
          refine zC ?_
          exact zL (hR:=by exact ⟨t2,c2,bs1,_,e,0,0,rfl,rfl,.inr ⟨hgood.1,hgood.2,hA⟩⟩)
end
end
section
open Go.K
instance fld65_0:Fld Tryz.prog 65 0 0:=⟨⟨_,_,0,Tryz.underlying65,rfl,by kernel_rfl,rfl⟩⟩
instance fld65_1:Fld Tryz.prog 65 1 1:=⟨⟨_,_,0,Tryz.underlying65,rfl,by kernel_rfl,rfl⟩⟩
def Ef (p:Pg):By×List By×Int×Int:=if (Bf p).2.2.2=0∧(Bf p).1.toNat≤3 then (0,[],0,20) else Bf p
section
variable {d:Dsk} {n k:Nat} {q:Qt} {lg bb nb:Nat} {last:Int} {V:Nat→Blk} {bs:List LB}
theorem Ank (h:DD d n k V) {b j:Nat} (hb:b+6<n) (hj:j<8):Does Tryz.prog 61 [ptr lg,.agg #[.int .i64 (b:Nat),.int .i64 (j:Nat)]] ((lg,true,C (lgC d.dk bb nb last) tLg)::(dkH d++[]))
  (fun v H=>∃ s:Sl By,v= .tuple #[bv (Ef (A0 (V b) j)).1,s.val,.int .i64 (Ef (A0 (V b) j)).2.2.1,.int .i64 (Ef (A0 (V b) j)).2.2.2]∧H=s.hp tU8++((lg,true,C (lgC d.dk bb nb last) tLg)::(dkH d++[]))∧s.list=(Ef (A0 (V b) j)).2.1∧s.isOwn=true):=by
 have hrd:=Kb h hb hj
 refine zF 45 Tryz.func61 ?_
 refine zC ?_
 refine Cy rfl rfl (fun b3=> ?_)
 refine zC ?_
 refine Ng [] [(14,(.fork [(0,false),(1,false),(2,false),(3,false),(4,false),(5,false),(6,false),(7,false)] 8 (.one [(9,false),(10,false),(11,false),(12,true),(13,true)]) 12 (.one [(8,true),(9,false),(10,false),(11,false),(13,true)]))),(15,(.one [(14,false)]))] (by kernel_rfl) rfl (fun ops w0 H0 y=> ?_)
 refine Le ?_
 refine Mn ?_ rfl
 refine B4 (Cx rfl) rfl ?_
 refine B4 (G2 rfl) rfl ?_
 refine B4 (Cr rfl) rfl ?_
 refine B4 (Al rfl mM rfl) rfl ?_
 refine B4 (Cr rfl) rfl ?_
 refine B4 (Al rfl mM rfl) rfl ?_
 refine B4 (Cr rfl) rfl ?_
 refine B4 (Al rfl mM rfl) rfl ?_
 refine Av ⟨⟨_,sP⟩,?_,?_⟩
 refine B7 ?_
 refine zI rfl ((Ip (d:=d) (b:=(b:Nat)) (k:=(j:Nat))).to (by rw [hrd.1,hrd.2]) rfl) ?_
 refine Ag ⟨rfl,⟨_,sP⟩,?_⟩
 refine Av ?_
 refine Gn ?_
 refine B4 (Cx rfl) rfl ?_
 refine B4 (Du rfl rfl) rfl ?_
 refine B4 (Du rfl rfl) rfl ?_
 refine B7 ?_
 refine Ah rfl (fun b8=> ?_)
 rw [Cc]
 refine Ag ⟨rfl,⟨_,sP⟩,?_⟩
 refine B7 ?_
 refine Ac rfl rfl uD (B9) (Ai) (Bi (by first | exact Ai | exact A20 ..)) ?_
 refine Ag ⟨rfl,⟨_,sP⟩,?_⟩
 refine Av ?_
 rotate_left
 refine B7 ?_
 refine Ah rfl (fun b8=> ?_)
 rw [Cc]
 refine Ag ⟨rfl,⟨_,sP⟩,?_⟩
 refine Av ?_
 refine Gn ?_
 refine B7 ?_
 refine zI rfl ((Ip (d:=d) (b:=(b:Nat)) (k:=(j:Nat))).to (by rw [hrd.1,hrd.2]) rfl) ?_
 refine Ag ⟨rfl,⟨_,sP⟩,?_⟩
 refine B4 (Cx rfl) rfl ?_
 refine B4 (Du rfl rfl) rfl ?_
 refine B4 (Du rfl rfl) rfl ?_
 refine B7 ?_
 refine Ac rfl rfl uD (B9) (Ai) (Bi (by first | exact Ai | exact A20 ..)) ?_
 refine Ag ⟨rfl,⟨_,sP⟩,?_⟩
 refine Av ?_
 rotate_left
 all_goals
  refine Le ?_
  refine Gn ?_
  refine B4 (Km rfl) rfl ?_
  refine Av ?_
  refine Rk ?_
  refine zC ?_
  refine Ay rfl ?_
  refine zA ?_
  refine Ae (Ao rfl mM (by first | exact Ax | rfl)) rfl ?_
  refine zE rfl (Ka (p:=A0 (V b) j)) ?_
  rintro _ _ ⟨s,rfl,rfl,hs,ho⟩
  refine zW ?_
  refine Aa rfl (fun c40=> ?_) (fun c40=> ?_)
  ·simp only [A4k,A2w,A4f,A2m] at c40
   have hg:Ef (A0 (V b) j)=(0,[],0,20):=(by unfold Ef;rw [A6v ⟨c40.1,by omega⟩])
   refine zC ?_
   exact Bb (Py Tryz.results61 (Af rfl) (Af rfl) (Af rfl) (Af rfl)) (by exact ⟨Sl.nil,by rw [hg];rfl,rfl,by rw [hg];rfl,rfl⟩) (by rw [Sl.hp_nil,A5b];exact sP)
  ·simp only [A4k,A2w,A4f,A2m] at c40
   have hg:Ef (A0 (V b) j)=Bf (A0 (V b) j):=(by unfold Ef;rw [A6u (by rintro ⟨h1,h2⟩;rcases c40 with h3 | h3;exact h3 h1;omega)])
   refine zC ?_
   exact zL (hR:=by exact ⟨s,by rw [hg],rfl,by rw [hg];exact hs,ho⟩)
def Bv (bs:List LB):Nat→Nat
 | 0=>0
 | k+1=>Bv bs k+(if (bAt bs k).seq.toNat=0 then 1 else 0)
theorem Ui (bs:List LB):∀ k,Bv bs k≤k
 | 0=>A6h _
 | k+1=>by have:=Ui bs k;unfold Bv;split <;> omega
theorem Atf (hl:bs.length=nb) (hn:nb≤1000):Does Tryz.prog 33 [ptr lg] ((lg,true,C (lgC d.dk bb nb last) tLg)::(bb,true,C (lbs bs) tLB)::[])
  (Is (.int .i64 (Bv bs nb:Nat)) ((lg,true,C (lgC d.dk bb nb last) tLg)::(bb,true,C (lbs bs) tLB)::[])):=by
 refine zF 21 Tryz.func33 ?_
 refine zC ?_
 refine Ar [0,8,9] kQ (fun (i:Nat)=>[(10,.int .i64 i),(2,.int .i64 (Bv bs i:Nat))]) (fun i=>(lg,true,C (lgC d.dk bb nb last) tLg)::(bb,true,C (lbs bs) tLB)::[]) (fun i=>i≤nb) (fun i=>nb - i) (0) (A6j _) kP sP ?_
 rintro i g0
 refine zC ?_
 refine Aa rfl (fun c11=> ?_) (fun c11=> ?_)
 ·simp only [A4f] at c11
  have hi:i<nb:=(by omega)
  have hgi:bs[i]? =some (bAt bs i):=Er (by omega)
  have hfl:=Ui bs i
  refine zA ?_
  refine Ae (Co rfl rfl (by omega)) rfl ?_
  refine Ae (Ao rfl mM (by exact Rf hgi)) rfl ?_
  refine Ah rfl (fun b4=> ?_)
  refine zC ?_
  refine Aa rfl (fun c16=> ?_) (fun c16=> ?_)
  ·simp only [A4f] at c16
   have hfT:((Bv bs (i+1):Nat):Int)=(Bv bs i:Nat)+1:=(by show ((Bv bs i+(if (bAt bs i).seq.toNat=0 then 1 else 0):Nat):Int)=_;rw [A6v (by omega)];omega)
   refine zC ?_
   exact ⟨i+1,by omega,by omega,(by rw [hfT];exact kP),kP,_,sP⟩
  ·simp only [ A2m] at c16
   have hfF:((Bv bs (i+1):Nat):Int)=(Bv bs i:Nat):=(by show ((Bv bs i+(if (bAt bs i).seq.toNat=0 then 1 else 0):Nat):Int)=_;rw [A6u (by omega)];omega)
   refine zC ?_
   exact ⟨i+1,by omega,by omega,(by rw [hfF];exact kP),kP,_,sP⟩
 ·simp only [ A2m] at c11
  have hi:i=nb:=(by omega)
  subst hi
  refine zC ?_
  exact zS
def I3 (v:Blk):Nat→Int
 | 0=>0
 | j+1=>I3 v j+(if (Bf (A0 v j)).2.2.2=0 then (Bf (A0 v j)).2.2.1 else 0)
def Nv (bs:List LB) (b:Int):Bool:=decide (0≤b) && decide (b<bs.length) && decide ((bAt bs b.toNat).seq.toNat≠0)
end
end
section
open Go.K
theorem Afl (d:Dat) (chk:Nat):0≤(C3 d chk).2.1∧(C3 d chk).2.1≤1:=by
 unfold C3
 grind
theorem Xw (p:Pg):0≤(Bf p).2.2.1∧(Bf p).2.2.1≤2:=by
 unfold Bf
 simp only []
 split
 ·grind
 ·split
  ·grind
  ·split
   ·grind
   ·split
    ·grind
    ·have:=Afl (Il p) (Dt p)
     grind
theorem Acf (v:Blk):∀ j,0≤I3 v j∧I3 v j≤2*j
 | 0=>⟨A6g _,A6g _⟩
 | j+1=>by
  have ih:=Acf v j
  have:=Xw (A0 v j)
  unfold I3
  split <;> omega
section
variable {d:Dsk} {n k:Nat} {q:Qt} {lg bb nb:Nat} {last:Int} {V:Nat→Blk} {bs:List LB}
theorem Atg (h:DD d n k V) (hnb:nb+6=n) (hl:bs.length=nb) {b:Int}:Does Tryz.prog 121 [ptr lg,.int .i64 b] ((lg,true,C (lgC d.dk bb nb last) tLg)::(bb,true,C (lbs bs) tLB)::(dkH d++[]))
  (Is (.tuple #[.int .i64 (if Nv bs b=true then I3 (V b.toNat) 8 else 0),.int .i64 (if Nv bs b=true then 0 else 1)]) ((lg,true,C (lgC d.dk bb nb last) tLg)::(bb,true,C (lbs bs) tLB)::(dkH d++[]))):=by
 refine zF 65 Tryz.func121 ?_
 iterate 12 refine sb ?_
 refine sg ?_
 refine sa ?_
 refine' Kn rfl rfl inferInstance rfl rfl rfl rfl rfl (fun hg24=> ?_) ?_
 rotate_left
 ·try (simp at hg24;show _)
  iterate 11 refine sb ?_
  refine Ae (Co rfl rfl (by omega)) rfl ?_
  refine zA ?_
  refine Ae (show Rd _ _ _ _ (wv (bAt bs b.toNat).seq) from Al rfl mM (Fs (o:=2) (Er (by omega)) (by omega) rfl)) rfl ?_
  refine zC ?_
  exact Ag ⟨rfl,rfl,⟨_,sP⟩⟩
 refine zC ?_
 refine Aa rfl (fun c34=> ?_) (fun c34=> ?_)
 ·simp only [A40,A4f] at c34
  have hsg:Nv bs b=false:=(by unfold Nv;grind)
  refine zC ?_
  refine Ak (Dj Tryz.results121 (Af rfl) (Af rfl)) ?_ sP
  rw [hsg];rfl
 ·simp only [ A27,A2m] at c34
  have hsg:Nv bs b=true:=(by unfold Nv;simp;omega)
  obtain ⟨bN,rfl⟩:∃ bN:Nat,b=bN:=⟨b.toNat,by omega⟩
  refine zC ?_
  refine Ar [0,1] kQ (fun (i:Nat)=>[(35,.int .i64 i),(4,.int .i64 (I3 (V bN) i))]) (fun i=>(lg,true,C (lgC d.dk bb nb last) tLg)::(bb,true,C (lbs bs) tLB)::(dkH d++[])) (fun i=>i≤8) (fun i=>8 - i) (0) (A6j _) kP sP ?_
  rintro i g0
  refine zC ?_
  refine Aa rfl (fun c36=> ?_) (fun c36=> ?_)
  ·simp only [A4f] at c36
   have hi:i<8:=(by omega)
   have hrd:=Kb h (b:=bN) (j:=i) (by omega) hi
   have hml:=Acf (V bN) i
   have hrn:=Xw (A0 (V bN) i)
   refine zC ?_
   refine zI rfl ((Ip (d:=d) (b:=(bN:Nat)) (k:=(i:Nat))).to (by rw [hrd.1,hrd.2]) rfl) ?_
   refine zC ?_
   refine Ah rfl (fun b7=> ?_)
   rw [Cc]
   refine Ac rfl rfl uD (B9) (Ai) (Bi (by first | exact Ai | exact A20 ..)) ?_
   refine zC ?_
   refine Ay rfl ?_
   refine zA ?_
   refine Ae (Ao rfl mM (by exact Ax)) rfl ?_
   refine zE rfl (Ka (p:=A0 (V bN) i)) ?_
   rintro _ _ ⟨s,rfl,rfl,hs,ho⟩
   refine zW ?_
   refine Aa rfl (fun c59=> ?_) (fun c59=> ?_)
   ·simp only [A4f] at c59
    have hmT:I3 (V bN) (i+1)=I3 (V bN) i+(Bf (A0 (V bN) i)).2.2.1:=(by show I3 (V bN) i+(if (Bf (A0 (V bN) i)).2.2.2=0 then (Bf (A0 (V bN) i)).2.2.1 else 0)=_;rw [A6v c59])
    refine zC ?_
    exact ⟨i+1,by omega,by omega,(by rw [hmT];exact kP),kP,_,sP⟩
   ·simp only [ A2m] at c59
    have hmF:I3 (V bN) (i+1)=I3 (V bN) i:=(by show I3 (V bN) i+(if (Bf (A0 (V bN) i)).2.2.2=0 then (Bf (A0 (V bN) i)).2.2.1 else 0)=_;rw [A6u c59];omega)
    refine zC ?_
    exact ⟨i+1,by omega,by omega,(by rw [hmF];exact kP),kP,_,sP⟩
  ·simp only [ A2m] at c36
   have hi:i=8:=(by omega)
   subst hi
   refine zC ?_
   refine Ak (Dj Tryz.results121 (Af rfl) (Af rfl)) ?_ sP
   rw [hsg];rfl
def Aw1 (n nb k:Nat) (q:Qt) (V:Nat→Blk) (bs:List LB) (last b:Int) (c:Chip) (t:TS) (bs':List LB) (last' e:Int) (t':TS) (c':Chip):Prop :=
 (Nv bs b=false∧e=1∧bs'=bs∧last'=last∧t'=t∧c'=c) ∨
 (Nv bs b=true∧Anb n nb k q V b.toNat bs c bs' e t' c'∧(e=0→last'=if b=last then D7 bs' nb else last))
theorem Ath (h:DD d n k V) (hk:k≤600000000000) (hq:q.n≤3) (hacc:Acc q d.c d.t.ts) (hnb:nb+6=n) (hl:bs.length=nb) {b:Int} :
  Does Tryz.prog 165 [ptr lg,.int .i64 b] ((lg,true,C (lgC d.dk bb nb last) tLg)::(bb,true,C (lbs bs) tLB)::(dkH d++[]))
  (fun v H=>∃ (t':Tab) (c':Chip) (bs':List LB) (last' e:Int),v= .int .i64 e∧H=(lg,true,C (lgC d.dk bb nb last') tLg)::(bb,true,C (lbs bs') tLB)::(dkH ⟨d.dk,t',c'⟩++[])∧Aw1 n nb (k+40) q V bs last b d.c d.t.ts bs' last' e t'.ts c'):=by
 have hn40:=h.di.wf.n2
 refine zF 86 Tryz.func165 ?_
 iterate 11 refine sb ?_
 refine sg ?_
 refine sa ?_
 refine' Kn rfl rfl inferInstance rfl rfl rfl rfl rfl (fun hg19=> ?_) ?_
 rotate_left
 ·try (simp at hg19;show _)
  iterate 11 refine sb ?_
  refine Ae (Co rfl rfl (by omega)) rfl ?_
  refine zA ?_
  refine Ae (show Rd _ _ _ _ (wv (bAt bs b.toNat).seq) from Al rfl mM (Fs (o:=2) (Er (by omega)) (by omega) rfl)) rfl ?_
  refine zC ?_
  exact Ag ⟨rfl,rfl,⟨_,sP⟩⟩
 refine zC ?_
 refine Aa rfl (fun c29=> ?_) (fun c29=> ?_)
 ·simp only [A40,A4f] at c29
  have hsg:Nv bs b=false:=(by unfold Nv;grind)
  refine zC ?_
  exact zL (hR:=by exact ⟨d.t,d.c,bs,last,1,rfl,rfl,.inl ⟨hsg,rfl,rfl,rfl,rfl,rfl⟩⟩)
 ·simp only [ A27,A2m] at c29
  have hsg:Nv bs b=true:=(by unfold Nv;simp;omega)
  obtain ⟨bN,rfl⟩:∃ bN:Nat,b=bN:=⟨b.toNat,by omega⟩
  have hbN:bN<nb:=(by omega)
  refine zC ?_
  refine Ch rfl (Pd (d:=d) (bb:=bb) (last:=last) h hk hq hacc (b:=bN) (bs:=bs) hnb hl hbN) sP rfl (fun v32 Y32 h32=> ?_)
  obtain ⟨t1,c1,bs1,e1,rfl,rfl,hW⟩:=h32
  have hb1:=hW.1
  refine A6 aQ ?_
  refine zC ?_
  refine Aa rfl (fun c34=> ?_) (fun c34=> ?_)
  ·skip
   have he1:e1≠0:=(by grind)
   refine zC ?_
   exact zL (hR:=by exact ⟨t1,c1,bs1,last,e1,rfl,rfl,.inr ⟨hsg,hW,fun h9=>absurd h9 he1⟩⟩)
  ·skip
   have he1:e1=0:=(by grind)
   refine zC ?_
   refine Aa rfl (fun c41=> ?_) (fun c41=> ?_)
   ·simp only [A4f] at c41
    refine zC ?_
    refine Ar [0,48,49] kQ (fun (st:Nat×Int)=>[(50,.int .i64 st.1)]) (fun st=>(lg,true,C (lgC d.dk bb nb st.2) tLg)::(bb,true,C (lbs bs1) tLB)::(dkH ⟨d.dk,t1,c1⟩++[])) (fun st=>st.1≤nb∧st.2=D7 bs1 st.1) (fun st=>nb - st.1) ((0,-1)) ⟨A6j _,rfl⟩ kP sP ?_
    rintro ⟨i,la⟩ ⟨g0,g1⟩
    simp only at g0 g1
    refine zC ?_
    refine Aa rfl (fun c51=> ?_) (fun c51=> ?_)
    ·simp only [A4f] at c51
     have hi:i<nb:=(by omega)
     have hgi:bs1[i]? =some (bAt bs1 i):=Er (by omega)
     have hrg:=Rh bs1 i
     refine zA ?_
     refine Ae (Co rfl rfl (by omega)) rfl ?_
     refine Ae (Ao rfl mM (by exact Rf hgi)) rfl ?_
     refine Ah rfl (fun b7=> ?_)
     refine zC ?_
     refine At [(26,[(0,false),(1,false),(2,false),(3,false),(4,false),(5,false),(6,false),(7,false),(8,false),(9,false),(10,false),(11,false),(12,false),(13,false),(14,false),(15,false),(16,false),(17,false),(18,false),(19,false),(20,false),(21,false),(22,false),(23,false),(24,false),(25,false)])] (by kernel_rfl) ?_
     iterate 5 refine sb ?_
     refine' Fe rfl rfl inferInstance rfl rfl rfl rfl rfl (fun hg58=> ?_) ?_
     rotate_left
     ·try (simp at hg58;show _)
      iterate 12 refine sb ?_
      refine' Lz rfl rfl inferInstance rfl rfl rfl rfl rfl (fun hg64=> ?_) ?_
      rotate_left
      ·try (simp at hg64;show _)
       iterate 21 refine sb ?_
       refine Aj (Co rfl rfl (by omega)) ?_
       refine zA ?_
       refine Aj (show Rd _ _ _ _ (wv (bAt bs1 la.toNat).seq) from Al rfl mM (Fs (o:=2) (Er (by omega)) (by omega) rfl)) ?_
       refine zC ?_
       exact D9 rfl sP
      exact D9 rfl sP
     refine zC ?_
     refine Aa rfl (fun c80=> ?_) (fun c80=> ?_)
     ·simp only [A4k,A40,A4f] at c80
      have hlT:(i:Int)=D7 bs1 (i+1):=(by unfold D7;rw [← g1,A6v ⟨by omega,by omega⟩])
      refine zC ?_
      exact ⟨(i+1,(i:Int)),⟨by simp only;omega,hlT⟩,by simp only;omega,lZ⟩
     ·simp only [ A2w,A27,A2m] at c80
      have hlF:la=D7 bs1 (i+1):=(by unfold D7;rw [← g1,A6u (by omega)])
      refine zC ?_
      exact ⟨(i+1,la),⟨by simp only;omega,hlF⟩,by simp only;omega,lZ⟩
    ·simp only [ A2m] at c51
     have hi:i=nb:=(by omega)
     subst hi
     refine zC ?_
     exact zL (hR:=by exact ⟨t1,c1,bs1,la,0,rfl,rfl,.inr ⟨hsg,by rw [← he1];exact hW,fun _=>by rw [A6v c41];exact g1⟩⟩)
   ·simp only [ A2m] at c41
    refine zC ?_
    exact zL (hR:=by exact ⟨t1,c1,bs1,last,0,rfl,rfl,.inr ⟨hsg,by rw [← he1];exact hW,fun _=>by rw [A6u c41]⟩⟩)
end
end
section
open Go.K
section
variable {n k:Nat} {q:Qt} {lg bb nb:Nat} {last:Int} {bs:List LB} {dk:Nat}
theorem Ati {I:Nat→Hp→Prop} {l f0 D:Nat} {tm:Array Value} {ps:Array Tmp} {sg bd:Code} {X0:Hp} (hl:bs.length=nb) (hn:nb≤1000) (hps:ps.size=1) (h0:I 0 X0)
  (hskip:∀ j X,j<nb→(bAt bs j).seq.toNat=0→I j X→I (j+1) X)
  (hrnd:∀ j X,j<nb→(bAt bs j).seq.toNat≠0→I j X→Rnd Tryz.prog l f0 (Gc ⟨.ready,none,f0,tm,ps,sg,bd,D⟩ [.int .i64 (j:Nat)]) sg bd ((l,true,.loop ⟨.ready,none,f0,tm,ps,sg,bd,D⟩)::(lg,true,C (lgC dk bb nb last) tLg)::(bb,true,C (lbs bs) tLB)::(X++[]))
   (fun v Y=>v= .bool true∧∃ X',Y=(l,true,.loop ⟨.ready,none,f0,tm,ps,sg,bd,D⟩)::(lg,true,C (lgC dk bb nb last) tLg)::(bb,true,C (lbs bs) tLB)::(X'++[])∧I (j+1) X')) :
  Does Tryz.prog 116 [ptr lg,.func (.yield l) #[] #[]] ((l,true,.loop ⟨.ready,none,f0,tm,ps,sg,bd,D⟩)::(lg,true,C (lgC dk bb nb last) tLg)::(bb,true,C (lbs bs) tLB)::(X0++[]))
   (fun v Y=>v= .tuple #[]∧∃ X,Y=(l,true,.loop ⟨.ready,none,f0,tm,ps,sg,bd,D⟩)::(lg,true,C (lgC dk bb nb last) tLg)::(bb,true,C (lbs bs) tLB)::(X++[])∧I nb X):=by
 refine zF 26 Tryz.func116 ?_
 refine zC ?_
 refine Ar [1,9,10] kQ (fun (st:Nat×Hp)=>[(11,.int .i64 st.1)]) (fun st=>(l,true,.loop ⟨.ready,none,f0,tm,ps,sg,bd,D⟩)::(lg,true,C (lgC dk bb nb last) tLg)::(bb,true,C (lbs bs) tLB)::(st.2++[])) (fun st=>st.1≤nb∧I st.1 st.2) (fun st=>nb - st.1) ((0,X0)) ⟨A6j _,h0⟩ kP sP ?_
 rintro ⟨i,X⟩ ⟨g0,gI⟩
 simp only at g0 gI
 refine zC ?_
 refine Aa rfl (fun c12=> ?_) (fun c12=> ?_)
 ·simp only [A4f,A2m] at c12
  have hi:i<nb:=(by omega)
  have hgi:bs[i]? =some (bAt bs i):=Er (by omega)
  refine zA ?_
  refine Ae (Co rfl rfl (by omega)) rfl ?_
  refine Ae (Ao rfl mM (by simp only [A33];exact Rf hgi)) rfl ?_
  refine Ah rfl (fun b5=> ?_)
  iterate 4 refine sb ?_
  refine Rm (fun F L=>∃ X',F=[(1,.func (.yield l) #[] #[]),(9,.slice (some ⟨bb,0,none⟩) nb nb),(10,.int .i64 nb),(11,.int .i64 i),(24,.bool false)]∧L=(l,true,.loop ⟨.ready,none,f0,tm,ps,sg,bd,D⟩)::(lg,true,C (lgC dk bb nb last) tLg)::(bb,true,C (lbs bs) tLB)::(X'++[])∧I (i+1) X') ?_ ?_
  ·refine Rn [(3,19)] rfl (fun ops y=>Mr 4 ?_)
   refine oF rfl ?_
   refine oR (Al rfl mM rfl) ?_
   refine oR (Au rfl rfl rfl)<|oM rfl<|Ag ⟨rfl,?_⟩
   by_cases hq:(bAt bs i).seq.toNat=0
   ·refine Aw3 (F:=[(1,.func (.yield l) #[] #[]),(9,.slice (some ⟨bb,0,none⟩) nb nb),(10,.int .i64 nb),(11,.int .i64 i),(4,.int .i64 i),(19,.bool false)] ) (.cons rfl<| .cons rfl<| .cons rfl<| .cons rfl<| .cons rfl<| .cons (by show some (Value.bool (decide _))=_;rw [decide_eq_false (by omega)]) .nil) ?_
    refine Mr 5 ?_
    refine Atw y rfl rfl rfl rfl<|Atw y rfl rfl rfl rfl<|Atw y rfl rfl rfl rfl<|Atw y rfl rfl rfl rfl<|oR (Aoa rfl rfl)<|Ag ⟨rfl,Ah0<|n_K ?_⟩
    exact ⟨_,_,⟨X,rfl,rfl,hskip i X hi hq gI⟩,jZ⟩
   ·refine Aw3 (F:=[(1,.func (.yield l) #[] #[]),(9,.slice (some ⟨bb,0,none⟩) nb nb),(10,.int .i64 nb),(11,.int .i64 i),(4,.int .i64 i),(19,.bool true)] ) (.cons rfl<| .cons rfl<| .cons rfl<| .cons rfl<| .cons rfl<| .cons (by show some (Value.bool (decide _))=_;rw [A5p (by omega)]) .nil) ?_
    refine Mr 2 ?_
    refine o_g y rfl rfl<|oM rfl<|o_g y rfl rfl<|oM rfl<|Ag ⟨rfl,?_⟩
    refine Aag (r:=⟨.ready,none,f0,tm,ps,sg,bd,D⟩) y rfl rfl rfl (by simp [hps]) sP (hrnd i X hi hq gI) rfl ?_
    rintro v L' ⟨rfl,X',rfl,gI'⟩
    refine Mr 2 ?_
    refine o_g y rfl rfl<|oR (D5 rfl)<|oR (An9 rfl rfl)<|Ag ⟨rfl,Ah0<|n_K ?_⟩
    exact ⟨_,_,⟨X',rfl,rfl,gI'⟩,jZ⟩
  ·rintro F L ⟨X',rfl,rfl,gI'⟩
   refine Ay rfl ?_
   refine zC ?_
   exact ⟨(i+1,X'),⟨by simp only;omega,gI'⟩,(by simp only;omega),lZ⟩
 ·simp only [A4f,A2m] at c12
  have hi:i=nb:=(by omega)
  subst hi
  refine zC ?_
  exact zLN (hR:=by exact ⟨rfl,_,rfl,gI⟩)
end
end
section
open Go.K
instance und153:Und Tryz.prog 153 (.slice 157):=⟨Tryz.underlying153⟩
instance agg153:Agg Tryz.prog 153 false:=⟨⟨_,Tryz.underlying153,rfl⟩⟩
instance siz153:Siz Tryz.prog 153 1:=⟨by kernel_rfl⟩
instance agg157:Agg Tryz.prog 157 true:=⟨⟨_,Tryz.underlying157,rfl⟩⟩
instance siz157:Siz Tryz.prog 157 4:=⟨by kernel_rfl⟩
instance fld157_1:Fld Tryz.prog 157 1 1:=⟨⟨_,_,0,Tryz.underlying157,rfl,by kernel_rfl,rfl⟩⟩
abbrev Hm:TypeId:=157
abbrev Wz:TypeId:=65
abbrev Pl2:=Int×Int
instance:Cel Pl2:=⟨2,fun p=>[.int .i64 p.1,.int .i64 p.2],fun _=>rfl,fun _=>rfl⟩
structure Seg where
 b:Int
 seq:Wd
 wear:Wd
 recs:Sl Pl2
def Uj (s:Seg):List Value:=[.int .i64 s.b,wv s.seq,wv s.wear,s.recs.val]
instance:Cel Seg:=⟨4,Uj,fun _=>rfl,fun _=>rfl⟩
def sg0:Seg:=⟨0,0,0,.nil⟩
def Acg (xs:List Seg) (i:Int):Seg:=xs.getD i.toNat sg0
abbrev key (s:Seg):Nat:=s.seq.toNat
theorem Ahr {x:Wd}:Does Tryz.prog 161 [wv x] [] (Is (.bool false) []):=by
 refine zF 6 Tryz.func161 ?_
 refine zC ?_
 refine Ak (Aw Tryz.results161 (Af rfl)) ?_ sP
 simp
def Anl (x y:Nat):Int:=if x<y then -1 else if y<x then 1 else 0
theorem Afm {x y:Wd}:Does Tryz.prog 119 [wv x,wv y] [] (Is (.int .i64 (Anl x.toNat y.toNat)) []):=by
 refine zF 20 Tryz.func119 ?_
 refine zC ?_
 refine zI rfl (Ahr) ?_
 refine zC ?_
 refine zI rfl (Ahr) ?_
 refine zC ?_
 refine Ay rfl ?_
 refine zC ?_
 refine Ay rfl ?_
 refine zC ?_
 refine Aa rfl (fun c16=> ?_) (fun c16=> ?_)
 ·refine zC ?_
  refine Ak (Aw Tryz.results119 (Af rfl)) ?_ sP
  unfold Anl;grind
 ·simp only [A4f,A2m] at c16
  refine zC ?_
  refine Aa rfl (fun c19=> ?_) (fun c19=> ?_)
  ·simp only [A4f,A2m] at c19
   refine zC ?_
   refine Ak (Aw Tryz.results119 (Af rfl)) ?_ sP
   unfold Anl;rw [A6u (by omega),A6v (by omega)]
  ·simp only [A4f,A2m] at c19
   refine zC ?_
   refine Ak (Aw Tryz.results119 (Af rfl)) ?_ sP
   unfold Anl;rw [A6u (by omega),A6u (by omega)]
def Uk (xs:List Seg) (i:Int):Prop:=∀ a b:Int,0≤a→a<b→b<i→key (Acg xs a)≤key (Acg xs b)
end
section
open Go.K Go.Shelf Go.Lib Go.Sort
def Als:Go.Shelf.Ren:=⟨fun | 6=>117 | 15=>134 | 14=>160 | 28=>181 | 29=>182 | 20=>199 | 21=>200 | 22=>201 | 23=>202 | 24=>203 | 25=>204 | 26=>205 | 27=>206 | 46=>226 | 47=>211 | 48=>212 | 49=>227 | 50=>228 | 57=>240 | n=>n,fun | 22=>153 | 24=>157 | 25=>198 | 3=>3 | 39=>151 | 0=>0 | 53=>55 | 55=>29 | 4=>4 | 46=>247 | 45=>246 | 50=>252 | 5=>5 | 9=>9 | 66=>285 | 70=>288 | 76=>301 | 77=>260 | n=>n,fun | n=>n⟩
theorem Aqt:Go.Proofs.SlLaysF0.n6 Tryz.prog Als:={
 mixed:=by kernel_rfl
 f6:=⟨Tryz.f117.name,by decide,Tryz.func117.trans (A6r some (by kernel_rfl))⟩
 f14:=⟨Tryz.f160.name,by decide,Tryz.func160.trans (A6r some (by kernel_rfl))⟩
 f15:=Tryz.func134.trans (A6r some (by kernel_rfl))
 f20:=⟨Tryz.f199.name,by decide,Tryz.func199.trans (A6r some (by kernel_rfl))⟩
 f21:=⟨Tryz.f200.name,by decide,Tryz.func200.trans (A6r some (by kernel_rfl))⟩
 f22:=⟨Tryz.f201.name,by decide,Tryz.func201.trans (A6r some (by kernel_rfl))⟩
 f23:=⟨Tryz.f202.name,by decide,Tryz.func202.trans (A6r some (by kernel_rfl))⟩
 f24:=⟨Tryz.f203.name,by decide,Tryz.func203.trans (A6r some (by kernel_rfl))⟩
 f25:=⟨Tryz.f204.name,by decide,Tryz.func204.trans (A6r some (by kernel_rfl))⟩
 f26:=⟨Tryz.f205.name,by decide,Tryz.func205.trans (A6r some (by kernel_rfl))⟩
 f27:=⟨Tryz.f206.name,by decide,Tryz.func206.trans (A6r some (by kernel_rfl))⟩
 f28:=Tryz.func181.trans (A6r some (by kernel_rfl))
 f29:=Tryz.func182.trans (A6r some (by kernel_rfl))
 f46:=⟨Tryz.f226.name,by decide,Tryz.func226.trans (A6r some (by kernel_rfl))⟩
 f47:=Tryz.func211.trans (A6r some (by kernel_rfl))
 f48:=Tryz.func212.trans (A6r some (by kernel_rfl))
 f49:=⟨Tryz.f227.name,by decide,Tryz.func227.trans (A6r some (by kernel_rfl))⟩
 f50:=⟨Tryz.f228.name,by decide,Tryz.func228.trans (A6r some (by kernel_rfl))⟩
 f57:=⟨Tryz.f240.name,by decide,Tryz.func240.trans (A6r some (by kernel_rfl))⟩
 t0:=Tryz.underlying0
 a0:=Tryz.isAgg0
 z0:=Tryz.sizeOf0
 v0:=Tryz.zeroValue0
 t3:=Tryz.underlying3
 a3:=Tryz.isAgg3
 z3:=Tryz.sizeOf3
 v3:=Tryz.zeroValue3
 t4:=Tryz.underlying4
 a4:=Tryz.isAgg4
 z4:=Tryz.sizeOf4
 v4:=Tryz.zeroValue4
 t5:=Tryz.underlying5
 a5:=Tryz.isAgg5
 z5:=Tryz.sizeOf5
 v5:=Tryz.zeroValue5
 t9:=Tryz.underlying9
 a9:=Tryz.isAgg9
 z9:=Tryz.sizeOf9
 v9:=Tryz.zeroValue9
 t22:=Tryz.underlying153
 a22:=Tryz.isAgg153
 z22:=Tryz.sizeOf153
 v22:=Tryz.zeroValue153
 t25:=Tryz.underlying198
 a25:=Tryz.isAgg198
 z25:=Tryz.sizeOf198
 v25:=Tryz.zeroValue198
 t39:=Tryz.underlying151
 a39:=Tryz.isAgg151
 z39:=Tryz.sizeOf151
 v39:=Tryz.zeroValue151
 t45:=Tryz.underlying246
 a45:=Tryz.isAgg246
 z45:=Tryz.sizeOf246
 v45:=Tryz.zeroValue246
 t46:=Tryz.underlying247
 a46:=Tryz.isAgg247
 z46:=Tryz.sizeOf247
 v46:=Tryz.zeroValue247
 t50:=Tryz.underlying252
 a50:=Tryz.isAgg252
 z50:=Tryz.sizeOf252
 v50:=Tryz.zeroValue252
 t53:=Tryz.underlying55
 a53:=Tryz.isAgg55
 z53:=Tryz.sizeOf55
 v53:=Tryz.zeroValue55
 t55:=Tryz.underlying29
 a55:=Tryz.isAgg29
 z55:=Tryz.sizeOf29
 v55:=Tryz.zeroValue29
 t66:=Tryz.underlying285
 a66:=Tryz.isAgg285
 z66:=Tryz.sizeOf285
 v66:=Tryz.zeroValue285
 t70:=Tryz.underlying288
 a70:=Tryz.isAgg288
 z70:=Tryz.sizeOf288
 v70:=Tryz.zeroValue288
 t76:=Tryz.underlying301
 a76:=Tryz.isAgg301
 z76:=Tryz.sizeOf301
 v76:=Tryz.zeroValue301
 t77:=Tryz.underlying260
 a77:=Tryz.isAgg260
 z77:=Tryz.sizeOf260
 v77:=Tryz.zeroValue260 }
theorem Avk (x:Int) (w:World):Calls Tryz.prog 161 #[.int .u64 x] w fun e w'=>e= .returned (.bool false)∧w'=w:=by
 go_enter Tryz.func161,Tryz.ntmps161
 go_wp2
 go_ret
 exact ⟨by simp,rfl⟩
theorem Avl (x y:Int) (w:World):Calls Tryz.prog 119 #[.int .u64 x,.int .u64 y] w fun e w'=>e= .returned (.int .i64 (if x<y then -1 else if y<x then 1 else 0))∧w'=w:=by
 go_enter Tryz.func119,Tryz.ntmps119
 go_wp2_with (go_at_call 161;refine (Avk _ _).mono ?_;rintro e w' ⟨rfl,hw⟩;rw [hw])
 all_goals (go_ret;refine ⟨?_,rfl⟩;(repeat' split) <;> first | rfl | (exfalso;omega))
theorem Avm (x y:Seg) (w:World):Calls Tryz.prog 118 #[.agg (Uj x).toArray,.agg (Uj y).toArray] w fun e w'=>e= .returned (.int .i64 (if (key x:Int)<key y then -1 else if (key y:Int)<key x then 1 else 0))∧∃ q os',w'=grow (w.drewN q) os':=by
 have hcon:=fun W'=>Avl (key x) (key y) W'
 obtain ⟨xb,xs,xw,xr⟩:=x
 obtain ⟨yb,ys,yw,yr⟩:=y
 simp only [key] at hcon ⊢
 generalize (if (xs.toNat:Int)<ys.toNat then (-1:Int) else if (ys.toNat:Int)<xs.toNat then 1 else 0)=r at hcon ⊢
 simp only [Uj,wv]
 generalize xr.val=xv
 generalize yr.val=yv
 go_enter Tryz.func118,Tryz.ntmps118
 go_wp2_with (go_at_call 119;refine (hcon _).mono ?_;rintro e w' ⟨rfl,rfl⟩)
 go_ret
 exact ⟨rfl,0,_,by rw [alloc_eq_grow,alloc_eq_grow,grow_grow];rfl⟩
def cfS (x y:Seg):Int:=if (key x:Int)<key y then -1 else if (key y:Int)<key x then 1 else 0
theorem ltS (x y:Seg):ltOf cfS x y=decide (key x<key y):=by
 unfold ltOf cfS
 by_cases h1:(key x:Int)<key y
 ·rw [A6v h1];simp;omega
 ·rw [A6u h1]
  by_cases h2:(key y:Int)<key x
  ·rw [A6v h2];simp;omega
  ·rw [A6u h2];simp;omega
theorem A1t:SWO (ltOf cfS) where
 irrefl x:=by rw [ltS];simp
 trans x y z h1 h2:=by rw [ltS] at *;simp at *;omega
 ntrans x y z h1 h2:=by rw [ltS] at *;simp at *;omega
instance:Inhabited Seg:=⟨sg0⟩
theorem Aqu {s:Sl Seg} (ho:s.isOwn=true) (hl:s.list.length≤1000):Does Tryz.prog 117 [s.val,.func (.func 118) #[] #[]] (s.hp Hm++[])
  (fun v H=>v= .tuple #[]∧∃ s':Sl Seg,H=s'.hp Hm++[]∧s'.val=s.val∧s'.isOwn=true∧s'.list.Perm s.list∧Uk s'.list s.list.length):=by
 intro w hw
 have hno:Uk ([]:List Seg) (0:Nat):=fun a b h1 h2 h3=>by omega
 cases s with
 | nil =>
  rw [Sl.hp_nil] at hw ⊢
  refine A6n (AnyF.slices_SortFunc_none Aqt none 0 _ w) ?_
  rintro e w' ⟨rfl,rfl⟩
  exact ⟨_,[],rfl,⟨rfl,.nil,by rw [Sl.hp_nil];rfl,rfl,rfl,.refl _,hno⟩,Trk.refl hw⟩
 | emp a =>
  have e0:(Sl.emp a:Sl Seg).hp Hm=[]:=by unfold Sl.hp;rfl
  rw [e0] at hw ⊢
  refine A6n (AnyF.slices_SortFunc_none Aqt (some a) 0 _ w) ?_
  rintro e w' ⟨rfl,rfl⟩
  exact ⟨_,[],rfl,⟨rfl,.emp a,by rw [e0];rfl,rfl,rfl,.refl _,hno⟩,Trk.refl hw⟩
 | vac a c=>cases ho
 | view=>cases ho
 | own b xs cap sp h0 =>
  rw [Sl.hp_own,A42] at hw
  rw [Sl.hp_own]
  have hb:=hw.here _ (A3y)
  simp only at hb
  have hlt:=hw.lt (x:=(b,true,C (cells xs++sp) Hm)) A3y
  have eg:∀ args w,(callFunc 118 args).run Tryz.prog w= .ok (.enter 118 args) w:=enters_of Tryz.func118 (by kernel_rfl) rfl
  have h:=AnyQ.slices_SortFunc Aqt 4 Tryz.isAgg157 Tryz.sizeOf157 (Cel.cs (α:=Seg)) (fun _=>rfl) (fun x v hv=>by
    have:=Cel.one x
    exact A4l.1 this v hv) cfS A1t 118 #[] b 0 cap xs.toArray w eg (fun _ _ _ _ x y=>Avm x y _) (Afw (by decide) hb) hlt (by have:xs.length≤1000:=hl;simp;omega)
  refine A6n h ?_
  rintro e w' ⟨rfl,d',n,os,hp,hs,rfl⟩
  obtain ⟨hp1,_,hp3⟩:=hp
  have hlen:d'.toList.length=xs.length:=by simpa using hp1
  have hpm:d'.toList.Perm xs:=by
   have e1:(d'.extract 0 xs.toArray.size).toList=d'.toList:=by rw [show xs.toArray.size=d'.size from hp1.symm,Array.extract_size]
   have e2:(xs.toArray.extract 0 xs.toArray.size).toList=xs:=by rw [Array.extract_size]
   rw [e1,e2] at hp3
   exact hp3
  refine ⟨_,[(b,true,C (cells d'.toList++sp) Hm)],rfl,⟨rfl,.own b d'.toList cap sp ⟨by rw [hlen];exact h0.1,by rw [hlen];exact h0.2.1,by rw [hlen];exact h0.2.2⟩,by rw [Sl.hp_own];rfl,?_,rfl,hpm,fun i j h1 h2 h3=> ?_⟩,?_⟩
  ·show Value.slice (some ⟨b,0,none⟩) d'.toList.length cap=Value.slice (some ⟨b,0,none⟩) xs.length cap
   rw [hlen]
  ·have hj:j.toNat<xs.length:=by have:j<(xs.length:Nat):=h3;omega
   have:=hs i.toNat j.toNat (A6j _) (by omega) (by simpa using hj)
   rw [ltS,A2m] at this
   have ge:∀ k:Nat,k<xs.length→d'[k]! =Acg d'.toList (k:Int):=fun k hk=>by
    have hk':k<d'.size:=by rw [hp1];simpa using hk
    rw [getElem!_pos d' k hk']
    unfold Acg
    rw [A18,A33,A2i (by simpa using hk')]
    simp
   rw [ge j.toNat hj,ge i.toNat (by omega),A3h h1,A3h (show 0≤j by omega)] at this
   show key (Acg d'.toList i)≤key (Acg d'.toList j)
   omega
  ·exact Akn (by decide) hw hlen
end
section
open Go.K
instance agg61:Agg Tryz.prog 61 false:=⟨⟨_,Tryz.underlying61,rfl⟩⟩
instance und155:Und Tryz.prog 155 (.slice 65):=⟨Tryz.underlying155⟩
instance agg155:Agg Tryz.prog 155 false:=⟨⟨_,Tryz.underlying155,rfl⟩⟩
instance siz155:Siz Tryz.prog 155 1:=⟨by kernel_rfl⟩
instance zer153:Zer Tryz.prog 153 ([.slice none 0 0]):=⟨by kernel_rfl⟩
instance zer157:Zer Tryz.prog 157 ([.int .i64 0,.int .u64 0,.int .u64 0,.slice none 0 0]):=⟨by kernel_rfl⟩
instance fld157_3:Fld Tryz.prog 157 3 3:=⟨⟨_,_,0,Tryz.underlying157,rfl,by kernel_rfl,rfl⟩⟩
instance plc157:Plc Tryz.prog 157 [(0,1),(1,1),(2,1),(3,1)]:=⟨⟨_,Tryz.underlying157,fun _=>by kernel_rfl⟩⟩
instance byt65:Byt Tryz.prog 65 16:=⟨by kernel_rfl⟩
instance byt157:Byt Tryz.prog 157 48:=⟨by kernel_rfl⟩
def Gz (v:Blk) (b:Int):Nat→List Pl2
 | 0=>[]
 | i+1=>Gz v b i++if 2≤i∧(Ef (A0 v i)).2.2.2=0 then [(b,(i:Int))] else []
theorem Z3 (v:Blk) (b:Int):Gz v b 2=[]:=by simp [Gz]
theorem Xx (v:Blk) (b:Int):∀ i,(Gz v b i).length≤i
 | 0=>A6h _
 | i+1=>by
  have:=Xx v b i
  unfold Gz
  split <;> simp <;> omega
abbrev SV:=Int×Wd×Wd×List Pl2
def W0 (s:Seg):SV:=(s.b,s.seq,s.wear,s.recs.list)
def Pf (V:Nat→Blk) (bs:List LB):Nat→List SV
 | 0=>[]
 | j+1=>Pf V bs j++if (bAt bs j).seq.toNat=0 then [] else [((j:Int),(bAt bs j).seq,(bAt bs j).wear,Gz (V j) j 8)]
theorem Rj (V:Nat→Blk) (bs:List LB):∀ i,(Pf V bs i).length≤i
 | 0=>A6h _
 | i+1=>by
  have:=Rj V bs i
  unfold Pf
  split <;> simp <;> omega
def Jh (l:List Seg):Hp:=l.flatMap fun s=>s.recs.hp Wz
theorem Anm (l:List Seg) (s:Seg):Jh (l++[s])=Jh l++s.recs.hp Wz:=by simp [Jh]
abbrev W1:TypeId:=61
abbrev Nx:TypeId:=153
section
variable {d:Dsk} {n k:Nat} {q:Qt} {lg bb nb:Nat} {last:Int} {V:Nat→Blk} {bs:List LB}
def A0d (d:Dsk) (V:Nat→Blk) (bs:List LB) (lg b1 b2:Nat) (j:Nat) (X:Hp):Prop :=
 ∃ out:Sl Seg,X=(b1,true,C [ptr lg] W1)::(b2,true,C [out.val] Nx)::(out.hp Hm++(Jh out.list++dkH d))∧out.isOwn=true∧out.list.map W0=Pf V bs j∧∀ x∈out.list,x.recs.isOwn=true
theorem Z4 (h:DD d n k V) (hnb:nb+6=n) (hn40:n≤40) (hl:bs.length=nb):Does Tryz.prog 77 [ptr lg] ((lg,true,C (lgC d.dk bb nb last) tLg)::(bb,true,C (lbs bs) tLB)::(dkH d++[]))
  (fun v H=>∃ (s:Sl Seg) (l0:List Seg),v=s.val∧H=s.hp Hm++(Jh l0++((lg,true,C (lgC d.dk bb nb last) tLg)::(bb,true,C (lbs bs) tLB)::(dkH d++[])))∧l0.Perm s.list∧s.isOwn=true∧(s.list.map W0).Perm (Pf V bs nb)∧Uk s.list s.list.length∧∀ x∈s.list,x.recs.isOwn=true):=by
 refine Ro (n:=58) Tryz.func77 Tryz.ntmps77 rfl (A25 rfl) ?_
 refine An2 ?_
 refine Ad fun ops=> ?_
 refine Cy rfl rfl fun b1=> ?_
 refine Ah rfl fun b2=> ?_
 refine Ag ?_
 refine ⟨rfl,?_⟩
 refine Afp ?_
 refine Ad fun ops=> ?_
 refine oR (Al rfl mM rfl) ?_
 refine oR (Acp (fi:=[.tmp 12]) (cap:=[]) rfl rfl) ?_
 refine Ag ?_
 refine ⟨rfl,?_⟩
 refine Atx (fi:=[ptr lg]) (L:=(lg,true,C (lgC d.dk bb nb last) tLg)::(bb,true,C (lbs bs) tLB)::(b1,true,C [ptr lg] W1)::(b2,true,C [(Sl.nil:Sl Seg).val] Nx)::(dkH d++[])) (F:=[]) (R1:=fun M=>∃ X,M=(lg,true,C (lgC d.dk bb nb last) tLg)::(bb,true,C (lbs bs) tLB)::(X++[])∧A0d d V bs lg b1 b2 nb X) rfl sP ?_ ?_
 ·intro D l f0 tm ht hsz
  refine (Ati (dk:=d.dk) (I:=A0d d V bs lg b1 b2) (X0:=(b1,true,C [ptr lg] W1)::(b2,true,C [(Sl.nil:Sl Seg).val] Nx)::dkH d) hl (by omega) rfl ⟨.nil,by rw [Sl.hp_nil];rfl,rfl,rfl,fun x hx=>nomatch hx⟩ ?_ ?_).mono ?_
  ·rintro j X hj h0 ⟨out,hX,ho,hm,hr⟩
   exact ⟨out,hX,ho,by rw [hm];show _=Pf V bs j++_;rw [A6v h0,A42],hr⟩
  rotate_left
  ·grind
  rintro j X hj hne ⟨out,rfl,ho,hm,hr⟩
  rw [show ((b1,true,C [ptr lg] W1)::(b2,true,C [out.val] Nx)::(out.hp Hm++(Jh out.list++dkH d))++[]:Hp)=(b1,true,C [ptr lg] W1)::(b2,true,C [out.val] Nx)::(out.hp Hm++(Jh out.list++(dkH d++[]))) by grind]
  have hgj:bs[j]? =some (bAt bs j):=Er (by omega)
  have hol:out.list.length≤40:=(by have e:=A6r List.length hm;rw [A46] at e;rw [e];have:=Rj V bs j;omega)
  refine U0 (n:=58) [(14,.int .i64 (j:Nat)),(1,ptr b1),(2,ptr b2)] (by rw [show Gc _ _=tm.setIfInBounds 14 (.int .i64 (j:Nat)) from by simp [Gc]];exact EnvOk.put (a:=⟨tm,[]⟩) (d:=14) (v:= .int .i64 (j:Nat)) ((Keep.cons rfl<|Keep.cons rfl .nil).ok ht) (by rw [hsz];decide)) (by simp [Gc,hsz]) rfl fun rg=> ?_
  refine Ad fun ops=>oA rfl<|Ag ?_
  refine ⟨rfl,_,rfl,?_⟩
  refine Ct<|An<|Ad fun ops=> ?_
  refine oR (Al rfl mM rfl) ?_
  refine oN rfl<|oF rfl ?_
  refine oR (Al rfl mM rfl) ?_
  refine oM rfl ?_
  refine oR (Co rfl rfl (by omega)) ?_
  refine oR (Ao rfl mM (by exact Rf hgj)) ?_
  refine Ah rfl fun b4=> ?_
  refine Ac rfl rfl uD rfl rfl rfl ?_
  refine Ag<|n_K<|An<|Ad fun ops=>oM rfl<|oF rfl ?_
  refine oR (Al rfl mM rfl) ?_
  refine oF rfl ?_
  refine oR (Al rfl mM rfl) ?_
  refine oR (Db rfl rfl) ?_
  refine Ah rfl fun b5=> ?_
  refine Ac rfl rfl uD rfl rfl rfl ?_
  refine Ag<|n_K<|An<|An<|Ad fun ops=>oA rfl<|Ag<|n_K<|Ct ?_
  refine Ar [1,2,3,5] kQ (fun (st:Nat×Sl Pl2)=>[(6,.int .i64 st.1)]) (fun (st:Nat×Sl Pl2)=>(l,true,.loop ⟨.busy,none,f0,tm,_,_,_,D⟩)::(lg,true,C (lgC d.dk bb nb last) tLg)::(bb,true,C (lbs bs) tLB)::(b1,true,C [ptr lg] W1)::(b2,true,C [out.val] Nx)::(b5,true,C (Uj ⟨j,(bAt bs j).seq,(bAt bs j).wear,st.2⟩) Hm)::(st.2.hp Wz++(out.hp Hm++(Jh out.list++(dkH d++[]))))) (fun (st:Nat×Sl Pl2)=>2≤st.1∧st.1≤8∧st.2.isOwn=true∧st.2.list=Gz (V j) j st.1) (fun (st:Nat×Sl Pl2)=>8 - st.1) ((2,Sl.nil)) ⟨A6h _,by decide,rfl,(Z3 _ _).symm⟩ kP (by rw [Sl.hp_nil,A5b];exact sP) ?_
  rintro ⟨i,rs⟩ ⟨g1,g2,g3,g4⟩
  simp only at g1 g2 g3 g4
  have hrl:=Xx (V j) j i
  rw [← g4] at hrl
  refine An<|An<|Ad fun ops=>oM rfl<|oR (Au rfl rfl rfl)<|Ag<|n_K ?_
  refine Aa rfl (fun c29=> ?_) (fun c29=> ?_)
  ·simp only [A4f] at c29
   refine Cg<|n_K<|An<|Ct<|An<|Ad fun ops=>oM rfl<|oM rfl<|oR (Db rfl rfl) ?_
   refine Ah rfl fun b7=> ?_
   refine Ac rfl rfl uD rfl rfl rfl ?_
   refine Ag<|n_K<|An<|Ad fun ops=> ?_
   refine oR (Al rfl mM rfl) ?_
   refine oR (Ao rfl mM rfl) ?_
   refine Ch rfl (Ank h (b:=j) (j:=i) (by omega) (by omega)) sP rfl fun v38 Y38 h38=> ?_
   obtain ⟨s38,rfl,rfl,hs38,ho38⟩:=h38
   refine A6 aQ ?_
   refine oM rfl<|oE rfl rfl<|oE rfl rfl<|oE rfl rfl<|oE rfl rfl<|oA rfl<|oA rfl<|oA rfl<|oA rfl<|Ag<|n_K<|An<|Ad fun ops=>oM rfl ?_
   refine oR (Au rfl rfl rfl)<|Ag<|n_K ?_
   refine Aa rfl (fun c44=> ?_) (fun c44=> ?_)
   ·simp only [A4f] at c44
    have hrT:Gz (V j) j (i+1)=rs.list++[((j:Int),(i:Int))]:=(by show Gz (V j) j i++_=_;rw [A6v ⟨g1,c44⟩,g4])
    refine Ad fun ops=>oF rfl ?_
    refine oR (Al rfl mM rfl) ?_
    refine oR (Ao rfl mM rfl) ?_
    refine Am rfl rfl rfl rfl fun b48=> ?_
    refine A5 (s:=rs) (new:=[((j:Int),(i:Int))]) (m:=1) rfl rfl pL g3 (Ck (r:=true) mM rfl) rfl rfl rfl rfl (by omega) rfl fun rs' hs1 hs2=> ?_
    refine oF rfl ?_
    refine Ac rfl rfl uD rfl rfl rfl ?_
    refine Ag<|Eh<|n_K<|Ad fun ops=>oM rfl ?_
    refine oR (B5 rfl rfl (by omega)) ?_
    refine oA rfl<|Ag<|n_K ?_
    exact ⟨(i+1,rs'),⟨by simp only;omega,by simp only;omega,hs2,by rw [hrT];exact hs1⟩,by simp only;omega,lZ⟩
   ·simp only [ A2m] at c44
    have hrF:Gz (V j) j (i+1)=rs.list:=(by show Gz (V j) j i++_=_;rw [A6u (fun e=>c44 e.2),A42,g4])
    refine Cg<|Eh<|n_K<|Ad fun ops=>oM rfl ?_
    refine oR (B5 rfl rfl (by omega)) ?_
    refine oA rfl<|Ag<|n_K ?_
    exact ⟨(i+1,rs),⟨by simp only;omega,by simp only;omega,g3,hrF.symm⟩,by simp only;omega,lZ⟩
  ·simp only [ A2m] at c29
   have hi8:i=8:=(by omega)
   subst hi8
   refine Jy<|x_K<|x_K<|N4<|n_K<|Ad fun ops=> ?_
   refine oR (Al rfl mM rfl) ?_
   refine oR (Ao rfl mM rfl) ?_
   refine Am rfl rfl rfl rfl fun b53=> ?_
   refine A5 (s:=out) (new:=[(⟨(j:Nat),(bAt bs j).seq,(bAt bs j).wear,rs⟩:Seg)]) (m:=1) rfl rfl pL ho (Ck (r:=true) mM rfl) rfl rfl rfl rfl (by omega) rfl fun out' hs1 hs2=> ?_
   refine Ac rfl rfl uD rfl rfl rfl ?_
   refine Ag<|Eh ?_
   refine ⟨rfl,(lg,true,C (lgC d.dk bb nb last) tLg)::(bb,true,C (lbs bs) tLB)::(b1,true,C [ptr lg] W1)::(b2,true,C [out'.val] Nx)::(out'.hp Hm++(Jh out.list++(rs.hp Wz++(dkH d++[])))),_,sP,rfl,(b1,true,C [ptr lg] W1)::(b2,true,C [out'.val] Nx)::(out'.hp Hm++(Jh out'.list++dkH d)),?_,out',rfl,hs2,?_,?_⟩
   ·rw [hs1,Anm];grind
   ·rw [hs1,A48,hm];show _=Pf V bs j++_;rw [A6u hne,← g4];rfl
   grind
 ·rintro rg D M ⟨X,rfl,out,rfl,ho,hm,hr⟩
  have hn:out.list.length≤40:=by have e:=A6r List.length hm;rw [A46] at e;have:=Rj V bs nb;omega
  rw [show (Go.K.mark D::(((lg,true,C (lgC d.dk bb nb last) tLg)::(bb,true,C (lbs bs) tLB)::((b1,true,C [ptr lg] W1)::(b2,true,C [out.val] Nx)::(out.hp Hm++(Jh out.list++dkH d))++[]))++[]):Hp)=Go.K.mark D::(lg,true,C (lgC d.dk bb nb last) tLg)::(bb,true,C (lbs bs) tLB)::(b1,true,C [ptr lg] W1)::(b2,true,C [out.val] Nx)::(out.hp Hm++(Jh out.list++(dkH d++[]))) by grind]
  refine An<|Ad fun ops=> ?_
  refine oR (Al rfl mM rfl) ?_
  refine Ch rfl (Aqu ho (by omega)) sP rfl fun v56 Y56 h56=> ?_
  obtain ⟨rfl,s56,rfl,hv56,ho56,hp56,hq56⟩:=h56
  refine A6 aQ ?_
  refine Ag<|n_K<|An<|Ad fun ops=> ?_
  refine oR (Al rfl mM rfl) ?_
  refine Ac rfl rfl uD rfl rfl rfl ?_
  refine Ag<|n_K<|Im ?_
  refine pkD ?_
  exact Bb (Aw Tryz.results77 (Ff rfl mM rfl)) (by exact ⟨s56,out.list,hv56.symm,rfl,hp56.symm,ho56,by rw [← hm];grind,by rw [hp56.length_eq];exact hq56,fun x hx=>hr x (hp56.mem_iff.1 hx)⟩) sP
end
end
section
open Go.K
def W3 (bs0:List LB) (i:Nat):Wd:=(if (bAt bs0 i).known=true then (bAt bs0 i).wear else 0)+1
structure NwI (n nb k:Nat) (q:Qt) (c0:Chip) (bs0:List LB) (j:Nat) (t:Tab) (c:Chip) (bs:List LB) (V:Nat→Blk):Prop where
 le:j≤nb
 len:bs.length=nb
 fr:FrA c0 c
 dv:DV c t.ts n (k+40*j) V
 acc:Acc q c t.ts
 old:∀ i,j≤i→bAt bs i=bAt bs0 i
 new:∀ i<j,bAt bs i=I2 (W3 bs0 i)∧(V i).next=1∧A0 (V i) 0=Hh (W3 bs0 i)
theorem NwI.step {n nb k:Nat} {q:Qt} {j:Nat} {c0 c c':Chip} {bs0 bs bsx bs':List LB} {t t':Tab} {V:Nat→Blk} (g:NwI n nb k q c0 bs0 j t c bs V) (hj:j<nb) (hl:bsx.length=nb) (ho:∀ i,i≠j→bAt bsx i=bAt bs i)
  (hw:(bAt bsx j).wear+1=W3 bs0 j) (hW:Anb n nb (k+40*j+40) q V j bsx c bs' 0 t'.ts c'):∃ V',NwI n nb k q c0 bs0 (j+1) t' c' bs' V':=by
 obtain ⟨h1,h2,v,h3⟩:=hW
 obtain ⟨_,h4,h5,h6,h7,h8⟩:=h3.resolve_right (fun h=>absurd h.1 (by decide))
 have hb:∀ i,bAt bs' i=if i=j then I2 (W3 bs0 j) else bAt bs i:=fun i=>by
  rw [h6,Dn (by omega),hw]
  grind
 refine ⟨upV V j v,by omega,h1,g.fr.trans h2,?_,h5,fun i hi=> ?_,fun i hi=> ?_⟩
 ·have:k+40*(j+1)=k+40*j+40:=by omega
  rw [this];exact h4
 ·rw [hb,A6u (by omega)];exact g.old i (by omega)
 ·rw [hb]
  by_cases e:i=j
  ·subst e
   rw [A6v rfl,Fa]
   grind
  ·rw [A6u e]
   have:=g.new i (by omega)
   have hv:upV V j v i=V i:=by unfold upV;rw [A6u e]
   rw [hv];exact this
section
variable {d:Dsk} {n k:Nat} {q:Qt} {nb:Nat} {V:Nat→Blk}
theorem Atj (h:DD d n k V) (hk:k≤100000000000) (hq:q.n≤3) (hacc:Acc q d.c d.t.ts) (hnb:nb+6=n) (haf:d.c.after<0):Does Tryz.prog 85 [ptr d.dk] (dkH d++[])
  (fun v H=>∃ (lg bb:Nat) (t':Tab) (c':Chip) (bs':List LB) (V':Nat→Blk),v= .tuple #[ptr lg,.int .i64 0]∧H=(lg,true,C (lgC d.dk bb nb (-1)) tLg)::(bb,true,C (lbs bs') tLB)::(dkH ⟨d.dk,t',c'⟩++[])∧NwI n nb k q d.c (D2 V nb).1 nb t' c' bs' V'):=by
 have hn40:=h.di.wf.n2
 have hol:(D2 V nb).1.length=nb:=by simp [D2,Fc]
 refine zF 51 Tryz.func85 ?_
 refine zC ?_
 refine zE rfl (Acb h hnb) ?_
 rintro _ _ ⟨lg10,bb10,rfl,rfl⟩
 refine zW ?_
 refine Ay rfl ?_
 refine zC ?_
 refine Ar [4,20] kQ (fun (st:Nat×Tab×Chip×List LB)=>[(21,.int .i64 st.1)]) (fun st=>(lg10,true,C (lgC d.dk bb10 nb (D2 V nb).2) tLg)::(bb10,true,C (lbs st.2.2.2) tLB)::(dkH ⟨d.dk,st.2.1,st.2.2.1⟩++[])) (fun st=>∃ V',NwI n nb k q d.c (D2 V nb).1 st.1 st.2.1 st.2.2.1 st.2.2.2 V') (fun st=>nb - st.1) ((0,d.t,d.c,(D2 V nb).1)) ⟨V,A6j _,hol,FrA.refl _,h,hacc,fun _ _=>rfl,fun i hi=>(by cases hi)⟩ kP sP ?_
 rintro ⟨i,t1,c1,bs⟩ ⟨V1,g⟩
 simp only at g
 have g0:=g.le
 have g1:=g.len
 refine zC ?_
 refine Aa rfl (fun c22=> ?_) (fun c22=> ?_)
 ·simp only [A4f] at c22
  have hi:i<nb:=(by omega)
  have hgi:bs[i]? =some (bAt bs i):=Er (by omega)
  have gold:=g.old i (A6h _)
  iterate 18 refine sb ?_
  refine Ae (Co rfl rfl (by omega)) rfl ?_
  refine zA ?_
  refine Ae (Al rfl mM (by exact Fs (o:=1) hgi (by omega) rfl)) rfl ?_
  refine zC ?_
  refine Aa rfl (fun c32=> ?_) (fun c32=> ?_)
  ·skip
   have hkn:(bAt bs i).known=false:=(by grind)
   obtain ⟨bx,hbx⟩:∃ x,x=bs.set i { bAt bs i with wear:=0 }:=⟨_,rfl⟩
   have hlx:bx.length=nb:=(by rw [hbx,A47];exact g1)
   have hx:∀ j,j≠i→bAt bx j=bAt bs j:=(fun j hj=>by rw [hbx,Dn (by omega),A6u hj])
   have hw:(bAt bx i).wear+1=W3 (D2 V nb).1 i:=(by rw [hbx,Dn (by omega),A6v rfl];unfold W3;rw [← gold,A6u (by rw [hkn];decide)])
   iterate 6 refine sb ?_
   refine Ae (Co rfl rfl (by omega)) rfl ?_
   refine zA ?_
   refine Ac (cs':=lbs bx) rfl rfl uD rfl rfl (by rw [hbx];exact Fb (o:=0) hgi rfl) ?_
   refine zC ?_
   refine zE rfl (Pd (d:=⟨d.dk,t1,c1⟩) (bs:=bx) g.dv (by omega) hq g.acc hnb hlx hi) ?_
   rintro _ _ ⟨t2,c2,bs2,e2,rfl,rfl,hW⟩
   refine zW ?_
   refine Aa rfl (fun c44=> ?_) (fun c44=> ?_)
   ·skip
    exact absurd (hW.2.2.elim fun v hv=>hv.elim (fun h1=>absurd h1.1 (by grind)) (fun h1=>absurd (g.fr.pos haf).1 (fun e=>h1.2.2.1 (by rw [e];exact haf)))) id
   ·skip
    have he2:e2=0:=(by grind)
    subst he2
    refine zC ?_
    obtain ⟨V2,g2⟩:=g.step hi hlx hx hw hW
    exact ⟨(i+1,t2,c2,bs2),⟨V2,g2⟩,by omega,lZ⟩
  ·skip
   obtain ⟨bx,hbx⟩:∃ x,x=bs:=⟨_,rfl⟩
   subst hbx
   have hkn:(bAt bx i).known=true:=(by grind)
   have hlx:=g1
   have hx:∀ j,j≠i→bAt bx j=bAt bx j:=(fun j hj=>rfl)
   have hw:(bAt bx i).wear+1=W3 (D2 V nb).1 i:=(by unfold W3;rw [← gold,A6v hkn])
   refine zC ?_
   refine zE rfl (Pd (d:=⟨d.dk,t1,c1⟩) (bs:=bx) g.dv (by omega) hq g.acc hnb hlx hi) ?_
   rintro _ _ ⟨t2,c2,bs2,e2,rfl,rfl,hW⟩
   refine zW ?_
   refine Aa rfl (fun c44=> ?_) (fun c44=> ?_)
   ·skip
    exact absurd (hW.2.2.elim fun v hv=>hv.elim (fun h1=>absurd h1.1 (by grind)) (fun h1=>absurd (g.fr.pos haf).1 (fun e=>h1.2.2.1 (by rw [e];exact haf)))) id
   ·skip
    have he2:e2=0:=(by grind)
    subst he2
    refine zC ?_
    obtain ⟨V2,g2⟩:=g.step hi hlx hx hw hW
    exact ⟨(i+1,t2,c2,bs2),⟨V2,g2⟩,by omega,lZ⟩
 ·simp only [ A2m] at c22
  have hi:i=nb:=(by omega)
  subst hi
  refine zC ?_
  exact zL (hR:=by exact ⟨lg10,bb10,t1,c1,bs,V1,rfl,rfl,g⟩)
end
end
section
open Go.K
structure Laid (m:Nat) (d:Dsk) (bs:List LB) (V:Nat→Blk):Prop where
 len:bs.length+6=m
 dv:DV d.c d.t.ts m 2000 V
 acc:Acc ⟨0,O6 (He m []) ((m:Int) - 6) m⟩ d.c d.t.ts
 af:d.c.after<0
 blk:∀ i<bs.length,bAt bs i=I2 (W3 (D2 (fun _=>Hf false) bs.length).1 i)∧(V i).next=1∧A0 (V i) 0=Hh (W3 (D2 (fun _=>Hf false) bs.length).1 i)
end
section
open Go.K
theorem Axv:∀ k:Fin 41,16≤k.val→Xk (He k.val [])=false:=by decide +kernel
theorem Axw {m:Nat} (h:16≤m∧m≤40):Xk (He m [])=false:=Axv ⟨m,by omega⟩ h.1
end
section
open Go.K
def RecP (p:Pg):Prop:=∃ (kind:By) (b:List By),3<kind.toNat∧Cv kind b=false∧p=Cj kind b
theorem RecP.mend {p:Pg} (h:RecP p):D1 p=p:=by
 obtain ⟨kind,b,_,h2,rfl⟩:=h
 exact Xm h2
theorem Z5 {v w:Blk} {j i:Nat} (h:Ta v w j) (hi:i<j) (hj:j≤8) (hm:D1 (A0 w i)=A0 w i):A0 v i=A0 w i:=by
 have h8:i<8:=by omega
 rw [Fh h8] at hm ⊢
 rcases h i h8 hi with e | e
 ·rw [e,Fh h8]
 ·rw [e,hm,Fh h8]
end
section
open Go.K
def upR (R:Nat→List Pg) (b:Nat) (r:List Pg):Nat→List Pg:=fun j=>if j=b then r else R j
section
variable {n nb k k':Nat} {q:Qt} {d:Dsk} {bs:List LB} {last:Int} {V:Nat→Blk} {R:Nat→List Pg} {p:Pg} {t':Tab} {c':Chip} {v:Blk}
end
end
section
open Go.K
section
variable {n nb k:Nat} {q:Qt} {d:Dsk} {bs bs':List LB} {last last' e pb pj:Int} {V:Nat→Blk} {R:Nat→List Pg} {p:Pg} {t':Tab} {c':Chip}
end
end
section
open Go.K
section
variable {n nb k:Nat} {q:Qt} {lg bb:Nat} {d:Dsk} {bs:List LB} {last:Int} {V:Nat→Blk} {R:Nat→List Pg}
end
end
end Go.Proofs.YtpmojdippdlcaaaGreatDoor
