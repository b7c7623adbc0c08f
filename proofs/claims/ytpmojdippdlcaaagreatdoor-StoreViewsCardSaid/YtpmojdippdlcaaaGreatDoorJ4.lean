/- For every input, the program's store tells the view with the greatest number of those that were noted (lemmas of the proof); the conditions are the statement's own: part 4. -/
import Derived.Test.YtpmojdippdlcaaaGreatDoorJ2
import Derived.Test.YtpmojdippdlcaaaGreatDoorJ3
import Derived.Test.YtpmojdippdlcaaaGreatDoorJ1
set_option linter.unusedVariables false
set_option linter.unusedSimpArgs false
set_option maxRecDepth 100000
set_option maxHeartbeats 1000000
namespace Go.Proofs.YtpmojdippdlcaaaGreatDoor
section
open Go.K
instance ent85:Ent Tryz.prog 85:=⟨fun _ _=>by kernel_rfl⟩
def U7 (bs0:List LB) (i:Nat):Wd:=(if (bAt bs0 i).known=true then (bAt bs0 i).wear else 0)+1
structure NwI (n nb k:Nat) (q:Qt) (c0:Chip) (bs0:List LB) (j:Nat) (t:Tab) (c:Chip) (bs:List LB) (V:Nat→Blk):Prop where
 le:j≤nb
 len:bs.length=nb
 fr:FrA c0 c
 dv:DV c t.ts n (k+40*j) V
 acc:Acc q c t.ts
 old:∀ i,j≤i→bAt bs i=bAt bs0 i
 new:∀ i<j,bAt bs i=Ik (U7 bs0 i)∧(V i).next=1∧A9 (V i) 0=I7 (U7 bs0 i)
theorem NwI.step {n nb k:Nat} {q:Qt} {j:Nat} {c0 c c':Chip} {bs0 bs bsx bs':List LB} {t t':Tab} {V:Nat→Blk} (g:NwI n nb k q c0 bs0 j t c bs V) (hj:j<nb) (hl:bsx.length=nb) (ho:∀ i,i≠j→bAt bsx i=bAt bs i)
  (hw:(bAt bsx j).wear+1=U7 bs0 j) (hW:Akj n nb (k+40*j+40) q V j bsx c bs' 0 t'.ts c'):∃ V',NwI n nb k q c0 bs0 (j+1) t' c' bs' V':=by
 obtain ⟨h1,h2,v,h3⟩:=hW
 obtain ⟨_,h4,h5,h6,h7,h8⟩:=h3.resolve_right (fun h=>absurd h.1 (by decide))
 have hb:∀ i,bAt bs' i=if i=j then Ik (U7 bs0 j) else bAt bs i:=fun i=>by
  rw [h6,Dq (by omega),hw]
  by_cases e:i=j
  ·rw [A25 e,A25 e]
  ·rw [A26 e,A26 e,ho i e]
 refine ⟨upV V j v,by omega,h1,g.fr.trans h2,?_,h5,fun i hi=> ?_,fun i hi=> ?_⟩
 ·have:k+40*(j+1)=k+40*j+40:=by omega
  rw [this];exact h4
 ·rw [hb,A26 (by omega)];exact g.old i (by omega)
 ·rw [hb]
  by_cases e:i=j
  ·subst e
   rw [A25 rfl,E5]
   exact ⟨rfl,h7,by rw [h8,hw]⟩
  ·rw [A26 e]
   have:=g.new i (by omega)
   have hv:upV V j v i=V i:=by unfold upV;rw [A26 e]
   rw [hv];exact this
section
variable {d:Dsk} {n k:Nat} {q:Qt} {nb:Nat} {V:Nat→Blk}
theorem Ap2 (h:DD d n k V) (hk:k≤100000000000) (hq:q.n≤3) (hacc:Acc q d.c d.t.ts) (hnb:nb+6=n) (haf:d.c.after<0):Does Tryz.prog 85 [ptr d.dk] (dkH d++[])
  (fun v H=>∃ (lg bb:Nat) (t':Tab) (c':Chip) (bs':List LB) (V':Nat→Blk),v= .tuple #[ptr lg,.int .i64 0]∧H=(lg,true,C (lgC d.dk bb nb (-1)) tLg)::(bb,true,C (lbs bs') tLB)::(dkH ⟨d.dk,t',c'⟩++[])∧NwI n nb k q d.c (D2 V nb).1 nb t' c' bs' V'):=by
 have hn40:=h.di.wf.n2
 have hol:(D2 V nb).1.length=nb:=by first | exact Pw .. | simp [D2,E7]
 refine Ah (n:=51) Tryz.func85 Tryz.ntmps85 rfl (Ay9 rfl)<|Ad<|Aa fun ops=>oA rfl<|oA rfl<|Ac<|n_K<|Ad<|Aa fun ops=>oM rfl ?_
 refine Bd rfl (Z2 h hnb) sP rfl fun v10 Y10 h10=> ?_
 obtain ⟨lg10,bb10,rfl,rfl⟩:=h10
 refine Ay aQ ?_
 refine oM rfl<|oE rfl rfl<|oE rfl rfl<|oA rfl<|oA rfl<|Ac<|n_K<|Ad<|Ad<|Aa fun ops=>oM rfl<|oR (Ae rfl rfl rfl)<|Ac<|n_K ?_
 refine Bi rfl ?_
 refine Ai<|n_K<|Ad<|Ad<|Aa fun ops=>oM rfl<|oN rfl<|oF rfl ?_
 refine oR (Al rfl mM rfl) ?_
 refine oR (A7 rfl)<|oM rfl<|Ac<|n_K<|Ak ?_
 refine A8 [4,20] kQ (fun (st:Nat×Tab×Chip×List LB)=>[(21,.int .i64 st.1)]) (fun (st:Nat×Tab×Chip×List LB)=>(lg10,true,C (lgC d.dk bb10 nb (D2 V nb).2) tLg)::(bb10,true,C (lbs st.2.2.2) tLB)::(dkH ⟨d.dk,st.2.1,st.2.2.1⟩++[])) (fun (st:Nat×Tab×Chip×List LB)=>∃ V',NwI n nb k q d.c (D2 V nb).1 st.1 st.2.1 st.2.2.1 st.2.2.2 V') (fun (st:Nat×Tab×Chip×List LB)=>nb - st.1) ((0,d.t,d.c,(D2 V nb).1)) ⟨V,A2r _,hol,FrA.refl _,h,hacc,fun _ _=>rfl,fun i hi=>(by cases hi)⟩ kP sP ?_
 rintro ⟨i,t1,c1,bs⟩ ⟨V1,g⟩
 simp only at g
 have g0:=g.le
 have g1:=g.len
 refine Ad<|Aa fun ops=>oR (Ae rfl rfl rfl)<|Ac<|n_K<|Ad ?_
 refine Aj rfl (fun c22=> ?_) (fun c22=> ?_)
 ·simp only [A0d,Ayz] at c22
  have hi:i<nb:=(by omega)
  have hgi:bs[i]? =some (bAt bs i):=Ep (by omega)
  have gold:=g.old i (A2q _)
  refine Ai<|n_K<|Ad<|Ak<|Ad<|Aa fun ops=>oM rfl<|oA rfl<|Ac<|n_K<|Ad<|Ad<|Aa fun ops=>oM rfl ?_
  refine oN rfl<|oF rfl ?_
  refine oR (Al rfl mM rfl) ?_
  refine oM rfl ?_
  refine oR (Cp rfl rfl (by omega)) ?_
  refine oF rfl ?_
  refine oR (Al rfl mM (by simp only [A0c];exact Fn (o:=1) hgi (by omega) rfl)) ?_
  refine oR (Bx rfl)<|Ac<|n_K ?_
  refine Aj rfl (fun c32=> ?_) (fun c32=> ?_)
  ·skip
   have hkn:(bAt bs i).known=false:=(by simpa using c32)
   obtain ⟨bx,hbx⟩:∃ x,x=bs.set i { bAt bs i with wear:=0 }:=⟨_,rfl⟩
   have hlx:bx.length=nb:=(by rw [hbx,A1f];exact g1)
   have hx:∀ j,j≠i→bAt bx j=bAt bs j:=(fun j hj=>by rw [hbx,Dq (by omega),A26 hj])
   have hw:(bAt bx i).wear+1=U7 (D2 V nb).1 i:=(by rw [hbx,Dq (by omega),A25 rfl];unfold U7;rw [← gold,A26 (by rw [hkn];decide)])
   refine Aa fun ops=>oM rfl<|oN rfl<|oF rfl ?_
   refine oR (Al rfl mM rfl) ?_
   refine oM rfl ?_
   refine oR (Cp rfl rfl (by omega)) ?_
   refine oF rfl ?_
   refine Af (cs':=lbs bx) rfl rfl uD rfl rfl (by rw [hbx];simp only [A0c];exact Ek (o:=0) hgi rfl) ?_
   refine Ac<|n_K<|Ad<|Aa fun ops=>oM rfl<|oM rfl ?_
   refine Bd rfl (Nz (d:=⟨d.dk,t1,c1⟩) (bs:=bx) g.dv (by omega) hq g.acc hnb hlx hi) sP rfl fun v42 Y42 h42=> ?_
   obtain ⟨t2,c2,bs2,e2,rfl,rfl,hW⟩:=h42
   refine Ay aQ ?_
   refine oA rfl<|Ac<|n_K<|Ad<|Aa fun ops=>oM rfl<|oR (Ae rfl rfl rfl)<|Ac<|n_K ?_
   refine Aj rfl (fun c44=> ?_) (fun c44=> ?_)
   ·skip
    exact absurd (hW.2.2.elim fun v hv=>hv.elim (fun h1=>absurd h1.1 (by simpa using c44)) (fun h1=>absurd (g.fr.pos haf).1 (fun e=>h1.2.2.1 (by rw [e];exact haf)))) id
   ·skip
    have he2:e2=0:=(by simpa using c44)
    subst he2
    refine Ai<|Az<|n_K<|Aa fun ops=> ?_
    refine oR (Ao rfl rfl (by omega)) ?_
    refine oM rfl<|Ac<|n_K ?_
    obtain ⟨V2,g2⟩:=g.step hi hlx hx hw hW
    exact ⟨(i+1,t2,c2,bs2),⟨V2,g2⟩,by simp only;omega,lZ⟩
  ·skip
   obtain ⟨bx,hbx⟩:∃ x,x=bs:=⟨_,rfl⟩
   subst hbx
   have hkn:(bAt bx i).known=true:=(by simpa using c32)
   have hlx:=g1
   have hx:∀ j,j≠i→bAt bx j=bAt bx j:=(fun j hj=>rfl)
   have hw:(bAt bx i).wear+1=U7 (D2 V nb).1 i:=(by unfold U7;rw [← gold,A25 hkn])
   refine Ai<|n_K<|Ad<|Aa fun ops=>oM rfl<|oM rfl ?_
   refine Bd rfl (Nz (d:=⟨d.dk,t1,c1⟩) (bs:=bx) g.dv (by omega) hq g.acc hnb hlx hi) sP rfl fun v42 Y42 h42=> ?_
   obtain ⟨t2,c2,bs2,e2,rfl,rfl,hW⟩:=h42
   refine Ay aQ ?_
   refine oA rfl<|Ac<|n_K<|Ad<|Aa fun ops=>oM rfl<|oR (Ae rfl rfl rfl)<|Ac<|n_K ?_
   refine Aj rfl (fun c44=> ?_) (fun c44=> ?_)
   ·skip
    exact absurd (hW.2.2.elim fun v hv=>hv.elim (fun h1=>absurd h1.1 (by simpa using c44)) (fun h1=>absurd (g.fr.pos haf).1 (fun e=>h1.2.2.1 (by rw [e];exact haf)))) id
   ·skip
    have he2:e2=0:=(by simpa using c44)
    subst he2
    refine Ai<|Az<|n_K<|Aa fun ops=> ?_
    refine oR (Ao rfl rfl (by omega)) ?_
    refine oM rfl<|Ac<|n_K ?_
    obtain ⟨V2,g2⟩:=g.step hi hlx hx hw hW
    exact ⟨(i+1,t2,c2,bs2),⟨V2,g2⟩,by simp only;omega,lZ⟩
 ·simp only [A0d,Ayz] at c22
  have hi:i=nb:=(by omega)
  subst hi
  refine Bb<|x_K<|x_K<|Bj<|n_K<|Ad<|Aa fun ops=>oM rfl<|oN rfl<|oF rfl ?_
  refine Af rfl rfl uD rfl rfl rfl ?_
  refine Ac<|n_K<|Ad<|Aa fun ops=>oM rfl<|oA rfl<|oA rfl<|Ac<|n_K<|An ?_
  exact Av (Bz Tryz.results85 (Ag rfl) (Ag rfl)) (by exact ⟨lg10,bb10,t1,c1,bs,V1,rfl,rfl,g⟩) sP
end
end
section
open Go.K
structure Laid (m:Nat) (d:Dsk) (bs:List LB) (V:Nat→Blk):Prop where
 len:bs.length+6=m
 dv:DV d.c d.t.ts m 2000 V
 acc:Acc ⟨0,Ns (Gy m []) ((m:Int) - 6) m⟩ d.c d.t.ts
 af:d.c.after<0
 blk:∀ i<bs.length,bAt bs i=Ik (U7 (D2 (fun _=>Gz false) bs.length).1 i)∧(V i).next=1∧A9 (V i) 0=I7 (U7 (D2 (fun _=>Gz false) bs.length).1 i)
end
section
open Go.K
theorem Atu:∀ k:Fin 41,16≤k.val→Vc (Gy k.val [])=false:=by decide +kernel
theorem Atv {m:Nat} (h:16≤m∧m≤40):Vc (Gy m [])=false:=Atu ⟨m,by omega⟩ h.1
end
section
open Go.K
def RecP (p:Pg):Prop:=∃ (kind:By) (b:List By),3<kind.toNat∧C6 kind b=false∧p=Cw kind b
theorem RecP.mend {p:Pg} (h:RecP p):Dv p=p:=by
 obtain ⟨kind,b,_,h2,rfl⟩:=h
 exact Vd h2
theorem Ae7 {v w:Blk} {j i:Nat} (h:Rq v w j) (hi:i<j) (hj:j≤8) (hm:Dv (A9 w i)=A9 w i):A9 v i=A9 w i:=by
 have h8:i<8:=by omega
 rw [Fa h8] at hm ⊢
 rcases h i h8 hi with e | e
 ·rw [e,Fa h8]
 ·rw [e,hm,Fa h8]
end
section
open Go.K
def upR (R:Nat→List Pg) (b:Nat) (r:List Pg):Nat→List Pg:=fun j=>if j=b then r else R j
section
variable {n nb k k':Nat} {q:Qt} {d:Dsk} {bs:List LB} {last:Int} {V:Nat→Blk} {R:Nat→List Pg} {p:Pg} {t':Tab} {c':Chip} {v:Blk}
end
end
section
open Go.K
section
variable {n nb k:Nat} {q:Qt} {d:Dsk} {bs bs':List LB} {last last' e pb pj:Int} {V:Nat→Blk} {R:Nat→List Pg} {p:Pg} {t':Tab} {c':Chip}
end
end
section
open Go.K
section
variable {n nb k:Nat} {q:Qt} {lg bb:Nat} {d:Dsk} {bs:List LB} {last:Int} {V:Nat→Blk} {R:Nat→List Pg}
end
end
section
open Go.K
theorem DV.again {c:Chip} {t:TS} {n k:Nat} {V:Nat→Blk} (h:DV c t n k V):∃ t2,Dj c=(0,t2)∧t2.lost=t.lost∧t2.uses=t.uses∧DV c t2 n k V:=by
 obtain ⟨a,_,hh,_⟩:=h.di.ti
 obtain ⟨t2,o1,o2,o3,o4⟩:=Ve h.di.up hh h.di.wf h.di.len h.di.bs h.di.cnt h.di.ver
 exact ⟨t2,o1,o4,o3,o2,fun l hl=>by rw [o3];exact h.vw l hl⟩
theorem Atw {p:Pg} (h:(Cg p).2.2.2=0):Bs p=false:=by
 cases hb:Bs p with
 | false=>rfl
 | true=>rw [E6 hb] at h;exact absurd h (by decide)
theorem Atx {kind:By} (h:0<kind.toNat∧kind.toNat<255) (x:Wd):Bs (U3 kind x)=false:=Atw (by unfold U3;rw [Ig (J9 h x)])
theorem Ahj {p:Pg} (h:Bs p=true):(Eb p).2.2.2≠0:=by
 unfold Eb
 rw [E6 h]
 decide
theorem BI.pg {v:Blk} (h:BI v) {j:Nat} (hj:j<8) (hn:v.next≤j):A9 v j=A0:=by
 rw [Fa hj]
 exact h.bl j hj hn
theorem Z9 {bs cs:List LB}:∀ k,(∀ j<k,(bAt bs j).seq=(bAt cs j).seq)→Dw bs k=Dw cs k
 | 0,_=>rfl
 | k+1,h=>by
  have ih:=Z9 k fun j hj=>h j (by omega)
  have hr:=Px cs k
  unfold Dw
  rw [ih,h k (by omega)]
  by_cases h1:Dw cs k<0
  ·simp [h1]
  ·rw [h (Dw cs k).toNat (by omega)]
theorem Gf {bs cs:List LB}:∀ k,(∀ j<k,((bAt bs j).seq.toNat=0↔(bAt cs j).seq.toNat=0))→Cb bs k=Cb cs k
 | 0,_=>rfl
 | k+1,h=>by
  have ih:=Gf k fun j hj=>h j (by omega)
  have:=h k (by omega)
  unfold Cb
  rw [ih]
  by_cases h1:(bAt cs k).seq.toNat=0
  ·rw [A25 (this.2 h1),A25 h1]
  ·rw [A26 (fun h2=>h1 (this.1 h2)),A26 h1]
section
variable {n nb k:Nat} {q:Qt} {d:Dsk} {bs:List LB} {last:Int} {V:Nat→Blk} {R:Nat→List Pg}
theorem Ahk (V:Nat→Blk) (nb:Nat):(D2 V nb).1.length=nb:=by simp [D2]
def Aw6 (b:Int) (m:Nat):List Pl2:=(List.range m).map fun i=>(b,((2+i:Nat):Int))
theorem Akv {v:Blk} {b:Int} {m:Nat} (h1:∀ i<m,(Eb (A9 v (2+i))).2.2.2=0):∀ i,i≤m→Gq v b (2+i)=Aw6 b i
 | 0,_=>Xt v b
 | i+1,h=>by
  rw [show 2+(i+1)=(2+i)+1 by omega]
  unfold Gq
  rw [Akv h1 i (by omega),A25 ⟨by omega,h1 i (by omega)⟩]
  unfold Aw6
  rw [A1q,A1i]
  rfl
theorem Sy {v:Blk} {b:Int} {m:Nat} (h2:∀ i,m≤i→2+i<8→(Eb (A9 v (2+i))).2.2.2≠0):∀ i,m≤i→2+i≤8→Gq v b (2+i)=Gq v b (2+m)
 | 0,h,_=>by rw [show m=0 by omega]
 | i+1,h,h8=>by
  by_cases e:m=i+1
  ·rw [e]
  ·rw [show 2+(i+1)=(2+i)+1 by omega]
   conv=>lhs;unfold Gq
   rw [Sy h2 i (by omega) (by omega),A26 (fun h9=>h2 i (by omega) (by omega) h9.2),A1j]
end
end
section
open Go.K
section
variable {n nb k:Nat} {q:Qt} {d:Dsk} {bs bs':List LB} {last last' e:Int} {V:Nat→Blk} {R R':Nat→List Pg} {t':Tab} {c':Chip} {p:Pg} {pb pj:Int}
def z1 (x:LB):Nat:=if x.seq.toNat=0 then 1 else 0
theorem F8 (bs:List LB) (k:Nat):Cb bs (k+1)=Cb bs k+z1 (bAt bs k):=rfl
end
end
section
open Go.K
section
variable {n nb k:Nat} {q:Qt} {i:Nat} {d:Dsk} {bs bs':List LB} {last last' e:Int} {V:Nat→Blk} {R R':Nat→List Pg} {p:Pg} {pb pj:Int}
end
section
variable {n nb k:Nat} {q:Qt} {lg bb:Nat} {d:Dsk} {bs:List LB} {last:Int} {V:Nat→Blk} {R:Nat→List Pg}
end
end
section
open Go.K
instance und54:Und Tryz.prog 54 (.array 32 5):=⟨Tryz.underlying54⟩
instance agg54:Agg Tryz.prog 54 true:=⟨⟨_,Tryz.underlying54,rfl⟩⟩
instance siz54:Siz Tryz.prog 54 32:=⟨by kernel_rfl⟩
instance ent79:Ent Tryz.prog 79:=⟨fun _ _=>by kernel_rfl⟩
instance ent87:Ent Tryz.prog 87:=⟨fun _ _=>by kernel_rfl⟩
abbrev Lv:=Vector By 32
abbrev tLv:TypeId:=54
def lv0:Lv:=Vector.replicate 32 0
theorem Aea:List.replicate 32 (Value.int .u8 0)=vbc lv0:=by kernel_rfl
def Dc (k:Int):Bool:=decide (0≤k) && decide (k<256)
theorem Ev {k:Int} (h:Dc k=true):∃ m:Nat,k=m∧m<256:=by
 unfold Dc at h
 simp at h
 exact ⟨k.toNat,by omega,by omega⟩
theorem Nk {m:Nat} (h:m<256):Dc (m:Int)=true:=by
 unfold Dc
 simp
 omega
def Aeb (l:Lv) (m:Nat):Bool:=if h:m / 8<32 then (l[m / 8]).getLsbD (m % 8) else false
def B4 (l:Lv) (k:Int):Bool:=Dc k && Aeb l k.toNat
def Abq (i:Nat):By:=1#8 <<< (i % 8)
def Rh (l:Lv) (m:Nat):Lv:=if h:m / 8<32 then l.set (m / 8) (l[m / 8] ||| Abq m) else l
def Eg (l:Lv) (k:Int):Lv:=if Dc k=true then Rh l k.toNat else l
def Ri (l:Lv) (m:Nat):Lv:=if h:m / 8<32 then l.set (m / 8) (l[m / 8] &&& ~~~ Abq m) else l
def Gv (l:Lv) (k:Int):Lv:=if Dc k=true then Ri l k.toNat else l
theorem Af7 (i j:Nat) (hj:j<8):(Abq i).getLsbD j=decide (j=i % 8):=by
 unfold Abq
 have h8:i % 8<8:=A2w _ (by decide)
 generalize i % 8=m at h8
 match m,h8,j,hj with
 | 0,_,0,_ | 0,_,1,_ | 0,_,2,_ | 0,_,3,_ | 0,_,4,_ | 0,_,5,_ | 0,_,6,_ | 0,_,7,_=>rfl
 | 1,_,0,_ | 1,_,1,_ | 1,_,2,_ | 1,_,3,_ | 1,_,4,_ | 1,_,5,_ | 1,_,6,_ | 1,_,7,_=>rfl
 | 2,_,0,_ | 2,_,1,_ | 2,_,2,_ | 2,_,3,_ | 2,_,4,_ | 2,_,5,_ | 2,_,6,_ | 2,_,7,_=>rfl
 | 3,_,0,_ | 3,_,1,_ | 3,_,2,_ | 3,_,3,_ | 3,_,4,_ | 3,_,5,_ | 3,_,6,_ | 3,_,7,_=>rfl
 | 4,_,0,_ | 4,_,1,_ | 4,_,2,_ | 4,_,3,_ | 4,_,4,_ | 4,_,5,_ | 4,_,6,_ | 4,_,7,_=>rfl
 | 5,_,0,_ | 5,_,1,_ | 5,_,2,_ | 5,_,3,_ | 5,_,4,_ | 5,_,5,_ | 5,_,6,_ | 5,_,7,_=>rfl
 | 6,_,0,_ | 6,_,1,_ | 6,_,2,_ | 6,_,3,_ | 6,_,4,_ | 6,_,5,_ | 6,_,6,_ | 6,_,7,_=>rfl
 | 7,_,0,_ | 7,_,1,_ | 7,_,2,_ | 7,_,3,_ | 7,_,4,_ | 7,_,5,_ | 7,_,6,_ | 7,_,7,_=>rfl
theorem Abr (l:Lv) {i j:Nat} (hi:i<32) (x:By) (hj:j<256):Aeb (l.set i x) j=if j / 8=i then x.getLsbD (j % 8) else Aeb l j:=by
 unfold Aeb
 have h:j / 8<32:=by omega
 rw [A22 h,A22 h,Az6]
 by_cases e:i=j / 8
 ·rw [A25 e,A25 e.symm]
 ·rw [A26 e,A26 (fun h=>e h.symm)]
theorem Ql (l:Lv) (k j:Int):B4 (Eg l k) j=(B4 l j || (Dc k && decide (j=k))):=by
 by_cases hk:Dc k=true
 ·obtain ⟨m,rfl,hm⟩:=Ev hk
  unfold Eg
  rw [A25 hk,A0c]
  unfold Rh
  rw [A22 (show m / 8<32 by omega)]
  unfold B4
  by_cases hj:Dc j=true
  ·obtain ⟨i,rfl,hi⟩:=Ev hj
   have hb:Aeb l i=if h:i / 8<32 then (l[i / 8]).getLsbD (i % 8) else false:=rfl
   rw [hj,hk,A0c,Abr l (by omega) _ hi,hb,A22 (show i / 8<32 by omega)]
   simp only [A2a]
   by_cases e:i / 8=m / 8
   ·rw [A25 e,BitVec.getLsbD_or,Af7 m (i % 8) (A2w _ (by decide))]
    have h1:l[i / 8]=l[m / 8]:=by simp only [e]
    rw [h1]
    congr 1
    exact A0x.2 (by omega)
   ·rw [A26 e,A1o (show ¬ ((i:Int)=(m:Int)) by omega),Bool.or_false]
  ·have:Dc j=false:=by simpa using hj
   rw [this,A1z,A1z,A1o (fun e=>by rw [e,hk] at this;cases this),Bool.and_false,Bool.or_false]
 ·have hk':Dc k=false:=by simpa using hk
  unfold Eg
  rw [A26 hk,hk',A1z,Bool.or_false]
theorem Wy (l:Lv) (k j:Int):B4 (Gv l k) j=(B4 l j && !(Dc k && decide (j=k))):=by
 by_cases hk:Dc k=true
 ·obtain ⟨m,rfl,hm⟩:=Ev hk
  unfold Gv
  rw [A25 hk,A0c]
  unfold Ri
  rw [A22 (show m / 8<32 by omega)]
  unfold B4
  by_cases hj:Dc j=true
  ·obtain ⟨i,rfl,hi⟩:=Ev hj
   have hb:Aeb l i=if h:i / 8<32 then (l[i / 8]).getLsbD (i % 8) else false:=rfl
   rw [hj,hk,A0c,Abr l (by omega) _ hi,hb,A22 (show i / 8<32 by omega)]
   simp only [A2a]
   by_cases e:i / 8=m / 8
   ·rw [A25 e,BitVec.getLsbD_and,BitVec.getLsbD_not,Af7 m (i % 8) (A2w _ (by decide))]
    have h1:l[i / 8]=l[m / 8]:=by simp only [e]
    have h2:decide (i % 8<8)=true:=decide_eq_true (A2w _ (by decide))
    rw [h1,h2,A2a]
    congr 2
    exact A0x.2 (by omega)
   ·rw [A26 e,A1o (show ¬ ((i:Int)=(m:Int)) by omega),Bool.not_false,A19]
  ·have:Dc j=false:=by simpa using hj
   rw [this,A1z,A1z,A1z]
 ·have hk':Dc k=false:=by simpa using hk
  unfold Gv
  rw [A26 hk,hk',A1z,Bool.not_false,A19]
def C8 (l:Lv) (n:Nat):List Int:=((List.range n).map fun k:Nat=>(k:Int)).filter fun k=>B4 l k
theorem Aec (l:Lv) (n:Nat):C8 l (n+1)=C8 l n++if B4 l n then [(n:Int)] else []:=by
 unfold C8
 rw [A1q,A1i,A0a]
 congr 1
 by_cases h:B4 l n=true
 ·simp [h]
 ·simp [h]
theorem keysL_mem {l:Lv} {k:Int}:k∈C8 l 256↔B4 l k=true:=by
 unfold C8
 rw [A1e]
 refine ⟨fun h=>h.2,fun h=>⟨?_,h⟩⟩
 have hv:Dc k=true:=by unfold B4 at h;simp at h;exact h.1
 obtain ⟨m,rfl,hm⟩:=Ev hv
 exact A2b.2 ⟨m,A1w.2 hm,rfl⟩
theorem Rj (l:Lv) (n:Nat):(C8 l n).Nodup:=by
 refine List.filter_sublist.nodup ?_
 rw [Ayi,A0k]
 exact (List.pairwise_lt_range).imp (fun h=>by omega)
theorem Hb (l:Lv) (n:Nat):(C8 l n).length≤n:=by
 have:=Azb (fun k=>B4 l k) ((List.range n).map fun k:Nat=>(k:Int))
 simpa [C8] using this
theorem valid_fn {k:Int}:Does Tryz.prog 87 [.int .i64 k] [] (Is (.bool (Dc k)) []):=by
 refine Ah (n:=9) Tryz.func87 Tryz.ntmps87 rfl (Ay9 rfl)<|Ad<|Aa fun ops=>oA rfl<|Ac<|n_K<|Ad ?_
 refine Bf [(2,5)] rfl fun ops y=> ?_
 refine oM rfl<|oR (Ae rfl rfl rfl)<|oM rfl ?_
 refine' Df (j:=2) (k:=2) y rfl rfl rfl rfl rfl rfl rfl (fun hg5=> ?_) ?_
 rotate_left
 ·try (simp at hg5;show _)
  refine o_g y rfl rfl ?_
  refine oM rfl ?_
  refine o_g y rfl rfl ?_
  refine oR (Ae rfl rfl rfl) ?_
  exact Ac ⟨rfl,rfl,⟨_,sP⟩⟩
 refine oA rfl<|Ac<|n_K<|An ?_
 refine Aq (At Tryz.results87 (Ag rfl)) ?_ sP
 rfl
theorem Aul {P:Program} {E:Env} {H:Hp} {t u:TypeId} {x y:Operand} {a:By} {m:Nat} (hx:ev E x=some (bv a)) (hy:ev E y=some (.int .i64 (m:Nat))) (hm:m<8):Rd P E H (.binOp .shr t x y u) (bv (a >>> m)):=by
 have:=Ir (P:=P) (H:=H) (t:=t) (u:=u) hx hy (by omega)
 have e:((a.toNat:Int).fdiv (2 ^ (min ((m:Nat):Int).toNat IntKind.u8.bits)))=((a >>> m).toNat:Int):=by
  rw [A0c,show min m IntKind.u8.bits=m by show min m 8=m;omega,Ayx,Ayp,Ayl _ (by exact_mod_cast A2r _)]
  exact_mod_cast rfl
 unfold bv
 rw [← e]
 exact this
theorem Arj (a:By) (m:Nat) (hm:m<8):decide ((((a >>> m) &&& 1#8).toNat:Int)=1)=a.getLsbD m:=by
 have h:(a >>> m) &&& 1#8=if a.getLsbD m then 1#8 else 0#8:=by
  apply BitVec.eq_of_getLsbD_eq
  intro i hi
  rw [BitVec.getLsbD_and,BitVec.getLsbD_ushiftRight,BitVec.getLsbD_one]
  by_cases e:i=0
  ·subst e
   cases h:a.getLsbD m <;> simp [h]
  ·cases h:a.getLsbD m <;> simp [e]
 rw [h]
 cases a.getLsbD m <;> rfl
theorem Aum {l:Lv} {m:Nat} (hm:m<256):Does Tryz.prog 79 [.agg (vbc l).toArray,.int .i64 (m:Nat)] [] (Is (.bool (B4 l (m:Nat))) []):=by
 have hv:=Nk hm
 have hbt:B4 l m=decide ((((l[m / 8] >>> (m % 8)) &&& 1#8).toNat:Int)=1):=by
  rw [Arj _ _ (A2w _ (by decide))]
  unfold B4 Aeb
  rw [hv,A0c,A22 (by omega),A2a]
 refine Ah (n:=18) Tryz.func79 Tryz.ntmps79 rfl (Ay9 rfl)<|Ad<|Aa fun ops=> ?_
 refine Ec rfl rfl fun b2=> ?_
 refine oA rfl<|Ac<|n_K<|Ad ?_
 refine Bf [(2,7)] rfl fun ops y=> ?_
 refine oM rfl ?_
 refine A6 rfl (valid_fn) sP rfl aQ ?_
 refine oM rfl ?_
 refine' Df (j:=2) (k:=9) y rfl rfl rfl rfl rfl rfl rfl (fun hg7=> ?_) ?_
 rotate_left
 ·try (simp at hg7;show _)
  refine o_g y rfl rfl ?_
  refine oM rfl ?_
  refine o_g y rfl rfl ?_
  refine oR (Zp (m:=8) rfl rfl (by decide) (by omega)) ?_
  refine o_g y rfl rfl ?_
  refine oR (Hd rfl rfl (by omega)) ?_
  refine o_g y rfl rfl ?_
  refine oR (Al rfl mM (show nth _ _=some (bv (l[m / 8])) by simp only [A0c,A2s];exact Gt (by omega))) ?_
  refine o_g y rfl rfl ?_
  refine oM rfl ?_
  refine o_g y rfl rfl ?_
  refine oR (Zq (m:=8) rfl rfl (by decide)) ?_
  refine o_g y rfl rfl ?_
  refine oR (Aul (m:=m % 8) rfl rfl (A2w _ (by decide))) ?_
  refine o_g y rfl rfl ?_
  refine oR (show Rd _ _ _ _ (bv ((l[m / 8] >>> (m % 8)) &&& 1#8)) from by (unfold bv;rw [show ((((l[m / 8] >>> (m % 8)) &&& 1#8).toNat:Nat):Int)=_ from (Qi .and .u8 rfl _ _).symm];exact Ae rfl rfl rfl)) ?_
  refine o_g y rfl rfl ?_
  refine oR (Ae rfl rfl rfl) ?_
  exact Ac ⟨rfl,rfl,⟨_,sP⟩⟩
 refine oA rfl<|Ac<|n_K<|An ?_
 refine Aq (At Tryz.results79 (Ag rfl)) ?_ sP
 rw [hv,hbt];rfl
theorem Ark {l:Lv} {k:Int} (hv:Dc k=false):Does Tryz.prog 79 [.agg (vbc l).toArray,.int .i64 k] [] (Is (.bool (B4 l k)) []):=by
 refine Ah (n:=18) Tryz.func79 Tryz.ntmps79 rfl (Ay9 rfl)<|Ad<|Aa fun ops=> ?_
 refine Ec rfl rfl fun b2=> ?_
 refine oA rfl<|Ac<|n_K<|Ad ?_
 refine Bf [(2,7)] rfl fun ops y=> ?_
 refine oM rfl ?_
 refine A6 rfl (valid_fn.to (by rw [hv]) rfl) sP rfl aQ ?_
 refine oM rfl ?_
 refine' Df (j:=2) (k:=9) (u:=false) y rfl rfl rfl rfl rfl rfl rfl (fun hg7=>absurd hg7 (by simp)) ?_
 refine oA rfl<|Ac<|n_K<|An ?_
 refine Aq (At Tryz.results79 (Ag rfl)) ?_ sP
 unfold B4;rw [hv];rfl
theorem Ue {l:Lv} {k:Int}:Does Tryz.prog 79 [.agg (vbc l).toArray,.int .i64 k] [] (Is (.bool (B4 l k)) []):=by
 by_cases hv:Dc k=true
 ·obtain ⟨m,rfl,hm⟩:=Ev hv
  exact Aum hm
 ·exact Ark (by simpa using hv)
end
section
open Go.K
instance zer54:Zer Tryz.prog 54 (List.replicate 32 (.int .u8 0)):=⟨by kernel_rfl⟩
instance ent51:Ent Tryz.prog 51:=⟨fun _ _=>by kernel_rfl⟩
instance ent52:Ent Tryz.prog 52:=⟨fun _ _=>by kernel_rfl⟩
instance ent54:Ent Tryz.prog 54:=⟨fun _ _=>by kernel_rfl⟩
theorem Hm {α β:Type} {f:β→α→β} {b:β} {xs:List α} {i:Nat} {x:α} (h:xs[i]? =some x):(xs.take (i+1)).foldl f b=f ((xs.take i).foldl f b) x:=by
 rw [A0i,h,List.foldl_append];rfl
theorem orB {P:Program} {E:Env} {H:Hp} {t u:TypeId} {x y:Operand} {a b:By} (hx:ev E x=some (bv a)) (hy:ev E y=some (bv b)):Rd P E H (.binOp .or t x y u) (bv (a ||| b)):=by
 unfold bv;rw [show (((a ||| b).toNat:Nat):Int)=_ from (Qi .or .u8 rfl _ _).symm];exact Ae hx hy rfl
theorem Arl {P:Program} {E:Env} {H:Hp} {t u:TypeId} {x y:Operand} {a b:By} (hx:ev E x=some (bv a)) (hy:ev E y=some (bv b)):Rd P E H (.binOp .andNot t x y u) (bv (a &&& ~~~ b)):=by
 unfold bv;rw [show (((a &&& ~~~ b).toNat:Nat):Int)=_ from (Qi .andNot .u8 rfl _ _).symm];exact Ae hx hy rfl
theorem Aiu {l:Lv} {m:Nat} (hm:m<256):Br (vbc l) (m / 8*1) [bv (l[m / 8]'(by omega) ||| Abq m)]=some (vbc (Rh l m)):=by
 unfold Rh
 rw [A22 (show m / 8<32 by omega),A2s]
 exact H7 (by omega) _
theorem Aiv {l:Lv} {m:Nat} (hm:m<256):Br (vbc l) (m / 8*1) [bv (l[m / 8]'(by omega) &&& ~~~ Abq m)]=some (vbc (Ri l m)):=by
 unfold Ri
 rw [A22 (show m / 8<32 by omega),A2s]
 exact H7 (by omega) _
theorem Arm {l:Lv} {s:Sl Int} {T:TypeId}:Does Tryz.prog 52 [.agg (vbc l).toArray,s.val] (s.hp T++[]) (Is (.agg (vbc (s.list.foldl Eg l)).toArray) (s.hp T++[])):=by
 refine Ah (n:=26) Tryz.func52 Tryz.ntmps52 rfl (Ay9 rfl)<|Ad<|Aa fun ops=> ?_
 refine Ec rfl rfl fun b2=> ?_
 refine Aw rfl fun b4=> ?_
 rw [Aea]
 refine Ac<|n_K<|Ad<|Ad<|Aa fun ops=>oM rfl<|oR (A7 rfl)<|oM rfl<|Ac<|n_K<|Ak ?_
 have hsm:=s.small
 refine A8 [2,4,7,8] kQ (fun (st:Nat×Lv)=>[(9,.int .i64 st.1)]) (fun (st:Nat×Lv)=>(b2,true,C (vbc st.2) tLv)::(b4,true,C (vbc lv0) tLv)::(s.hp T++[])) (fun (st:Nat×Lv)=>st.1≤s.list.length∧st.2=(s.list.take st.1).foldl Eg l) (fun (st:Nat×Lv)=>s.list.length - st.1) ((0,l)) ⟨A2r _,rfl⟩ kP sP ?_
 rintro ⟨i,lc⟩ ⟨g0,g1⟩
 simp only at g0 g1
 refine Ad<|Aa fun ops=>oR (Ae rfl rfl rfl)<|Ac<|n_K<|Ad ?_
 refine Aj rfl (fun c10=> ?_) (fun c10=> ?_)
 ·simp only [A0d,Ayz] at c10
  obtain ⟨z,hg⟩:∃ z,s.list[i]? =some z:=⟨_,Ayw (by omega)⟩
  have hst:(s.list.take (i+1)).foldl Eg l=Eg lc z:=(by rw [Hm hg,g1])
  refine Ai<|n_K<|Ad<|Ak<|Ad<|Aa fun ops=> ?_
  refine oR (Bk rfl rfl (by omega)) ?_
  refine oR (C0 (o:=0) rfl pL hg rfl rfl) ?_
  refine oA rfl<|Ac<|n_K<|Ad<|Aa fun ops=>oM rfl ?_
  refine A6 rfl (valid_fn) sP rfl aQ ?_
  refine Ac<|n_K ?_
  refine Aj rfl (fun c14=> ?_) (fun c14=> ?_)
  ·skip
   obtain ⟨m,rfl,hm⟩:=Ev c14
   have hst2:Rh lc m=(s.list.take (i+1)).foldl Eg l:=(by rw [hst];unfold Eg;rw [A25 c14,A0c])
   refine s_draw [] [(9,[(0,false),(1,false),(2,false),(3,false),(4,false),(5,false),(6,false),(7,false),(8,false)]),(10,[(9,true)])] (by kernel_rfl) rfl fun ops w0 H0 y=> ?_
   refine A4<|xM rfl ?_
   refine xR (Zp (m:=8) rfl rfl (by decide) (by omega)) ?_
   refine xR (Hd rfl rfl (by omega)) ?_
   refine xR (Al rfl mM (show nth _ _=some (bv (lc[m / 8]'(by omega))) by simp only [A0c,A2s];exact Gt (by omega))) ?_
   refine xM rfl ?_
   refine xR (Zq (m:=8) rfl rfl (by decide)) ?_
   refine xR (show Rd _ _ _ _ (bv (Abq m)) from Yp rfl rfl (A2w _ (by decide))) ?_
   refine xR (orB rfl rfl) ?_
   refine xR (Hd rfl rfl (by omega)) ?_
   refine Am<|Bh<|Be ?_
   refine Af (cs':=vbc (Rh lc m)) rfl rfl uD rfl rfl (by simp only [A0c];exact Aiu hm) ?_
   refine Ac ⟨rfl,⟨_,sP⟩,?_⟩
   refine Am<|Bm<|Az<|n_K<|Aa fun ops=> ?_
   refine oR (Ao rfl rfl (by omega)) ?_
   refine oM rfl<|Ac<|n_K ?_
   first | exact ⟨(i+1,Rh lc m),⟨by simp only;omega,hst2⟩,(by simp only;omega),lZ⟩ | exact ⟨(i+1,lc),⟨by simp only;omega,hst2⟩,(by simp only;omega),lZ⟩
  ·skip
   have hst2:lc=(s.list.take (i+1)).foldl Eg l:=(by rw [hst];unfold Eg;rw [c14];rfl)
   refine Ai<|Az<|n_K<|Aa fun ops=> ?_
   refine oR (Ao rfl rfl (by omega)) ?_
   refine oM rfl<|Ac<|n_K ?_
   first | exact ⟨(i+1,Rh lc m),⟨by simp only;omega,hst2⟩,(by simp only;omega),lZ⟩ | exact ⟨(i+1,lc),⟨by simp only;omega,hst2⟩,(by simp only;omega),lZ⟩
 ·simp only [A0d,Ayz] at c10
  have hi:i=s.list.length:=(by omega)
  subst hi
  rw [A0w] at g1
  refine Bb<|x_K<|x_K<|Bj<|n_K<|Ad<|Aa fun ops=> ?_
  refine oR (Au rfl mM (by first | exact Bg | rfl)) ?_
  first | refine Af rfl rfl uD (Ct) (Ar) (B2 (by first | exact Ar | exact Azc ..)) ?_ | refine Af rfl rfl uD rfl rfl rfl ?_
  refine Ac<|n_K<|An ?_
  refine Aq (At Tryz.results52 (Bv rfl mM (by first | exact Bg | rfl))) ?_ sP
  rw [← g1]
theorem Arn {l:Lv} {s:Sl Int} {T:TypeId}:Does Tryz.prog 51 [.agg (vbc l).toArray,s.val] (s.hp T++[]) (Is (.agg (vbc (s.list.foldl Gv l)).toArray) (s.hp T++[])):=by
 refine Ah (n:=26) Tryz.func51 Tryz.ntmps51 rfl (Ay9 rfl)<|Ad<|Aa fun ops=> ?_
 refine Ec rfl rfl fun b2=> ?_
 refine Aw rfl fun b4=> ?_
 rw [Aea]
 refine Ac<|n_K<|Ad<|Ad<|Aa fun ops=>oM rfl<|oR (A7 rfl)<|oM rfl<|Ac<|n_K<|Ak ?_
 have hsm:=s.small
 refine A8 [2,4,7,8] kQ (fun (st:Nat×Lv)=>[(9,.int .i64 st.1)]) (fun (st:Nat×Lv)=>(b2,true,C (vbc st.2) tLv)::(b4,true,C (vbc lv0) tLv)::(s.hp T++[])) (fun (st:Nat×Lv)=>st.1≤s.list.length∧st.2=(s.list.take st.1).foldl Gv l) (fun (st:Nat×Lv)=>s.list.length - st.1) ((0,l)) ⟨A2r _,rfl⟩ kP sP ?_
 rintro ⟨i,lc⟩ ⟨g0,g1⟩
 simp only at g0 g1
 refine Ad<|Aa fun ops=>oR (Ae rfl rfl rfl)<|Ac<|n_K<|Ad ?_
 refine Aj rfl (fun c10=> ?_) (fun c10=> ?_)
 ·simp only [A0d,Ayz] at c10
  obtain ⟨z,hg⟩:∃ z,s.list[i]? =some z:=⟨_,Ayw (by omega)⟩
  have hst:(s.list.take (i+1)).foldl Gv l=Gv lc z:=(by rw [Hm hg,g1])
  refine Ai<|n_K<|Ad<|Ak<|Ad<|Aa fun ops=> ?_
  refine oR (Bk rfl rfl (by omega)) ?_
  refine oR (C0 (o:=0) rfl pL hg rfl rfl) ?_
  refine oA rfl<|Ac<|n_K<|Ad<|Aa fun ops=>oM rfl ?_
  refine A6 rfl (valid_fn) sP rfl aQ ?_
  refine Ac<|n_K ?_
  refine Aj rfl (fun c14=> ?_) (fun c14=> ?_)
  ·skip
   obtain ⟨m,rfl,hm⟩:=Ev c14
   have hst2:Ri lc m=(s.list.take (i+1)).foldl Gv l:=(by rw [hst];unfold Gv;rw [A25 c14,A0c])
   refine s_draw [] [(9,[(0,false),(1,false),(2,false),(3,false),(4,false),(5,false),(6,false),(7,false),(8,false)]),(10,[(9,true)])] (by kernel_rfl) rfl fun ops w0 H0 y=> ?_
   refine A4<|xM rfl ?_
   refine xR (Zp (m:=8) rfl rfl (by decide) (by omega)) ?_
   refine xR (Hd rfl rfl (by omega)) ?_
   refine xR (Al rfl mM (show nth _ _=some (bv (lc[m / 8]'(by omega))) by simp only [A0c,A2s];exact Gt (by omega))) ?_
   refine xM rfl ?_
   refine xR (Zq (m:=8) rfl rfl (by decide)) ?_
   refine xR (show Rd _ _ _ _ (bv (Abq m)) from Yp rfl rfl (A2w _ (by decide))) ?_
   refine xR (Arl rfl rfl) ?_
   refine xR (Hd rfl rfl (by omega)) ?_
   refine Am<|Bh<|Be ?_
   refine Af (cs':=vbc (Ri lc m)) rfl rfl uD rfl rfl (by simp only [A0c];exact Aiv hm) ?_
   refine Ac ⟨rfl,⟨_,sP⟩,?_⟩
   refine Am<|Bm<|Az<|n_K<|Aa fun ops=> ?_
   refine oR (Ao rfl rfl (by omega)) ?_
   refine oM rfl<|Ac<|n_K ?_
   first | exact ⟨(i+1,Ri lc m),⟨by simp only;omega,hst2⟩,(by simp only;omega),lZ⟩ | exact ⟨(i+1,lc),⟨by simp only;omega,hst2⟩,(by simp only;omega),lZ⟩
  ·skip
   have hst2:lc=(s.list.take (i+1)).foldl Gv l:=(by rw [hst];unfold Gv;rw [c14];rfl)
   refine Ai<|Az<|n_K<|Aa fun ops=> ?_
   refine oR (Ao rfl rfl (by omega)) ?_
   refine oM rfl<|Ac<|n_K ?_
   first | exact ⟨(i+1,Ri lc m),⟨by simp only;omega,hst2⟩,(by simp only;omega),lZ⟩ | exact ⟨(i+1,lc),⟨by simp only;omega,hst2⟩,(by simp only;omega),lZ⟩
 ·simp only [A0d,Ayz] at c10
  have hi:i=s.list.length:=(by omega)
  subst hi
  rw [A0w] at g1
  refine Bb<|x_K<|x_K<|Bj<|n_K<|Ad<|Aa fun ops=> ?_
  refine oR (Au rfl mM (by first | exact Bg | rfl)) ?_
  first | refine Af rfl rfl uD (Ct) (Ar) (B2 (by first | exact Ar | exact Azc ..)) ?_ | refine Af rfl rfl uD rfl rfl rfl ?_
  refine Ac<|n_K<|An ?_
  refine Aq (At Tryz.results51 (Bv rfl mM (by first | exact Bg | rfl))) ?_ sP
  rw [← g1]
theorem Af8 {l:Lv}:Does Tryz.prog 54 [.agg (vbc l).toArray] [] (fun v H=>∃ s:Sl Int,v=s.val∧H=s.hp tI++[]∧s.list=C8 l 256∧s.isOwn=true):=by
 refine Ah (n:=16) Tryz.func54 Tryz.ntmps54 rfl (Ay9 rfl)<|Ad<|Aa fun ops=> ?_
 refine Ec rfl rfl fun b1=> ?_
 refine oA rfl<|Ac<|n_K<|Ad<|Ad<|Aa fun ops=>oM rfl<|Ac<|n_K<|Ak ?_
 refine Im (Gu (α:=Int) (T:=tI)) ?_
 refine A8 [1] kQ (fun (st:Nat×Sl Int)=>[(4,.int .i64 st.1),(2,st.2.val)]) (fun (st:Nat×Sl Int)=>(st.2.hp tI++((b1,true,C (vbc l) tLv)::[]))) (fun (st:Nat×Sl Int)=>st.1≤256∧st.2.list=C8 l st.1∧st.2.isOwn=true) (fun (st:Nat×Sl Int)=>256 - st.1) ((0,Sl.nil)) ⟨A2r _,rfl,rfl⟩ kP sP ?_
 rintro ⟨i,s⟩ ⟨g0,g1,g2⟩
 simp only at g0 g1 g2
 have hsl:=Hb l i
 rw [← g1] at hsl
 refine Ad<|Aa fun ops=>oR (Ae rfl rfl rfl)<|Ac<|n_K<|Ad ?_
 refine Aj rfl (fun c5=> ?_) (fun c5=> ?_)
 ·simp only [A0d,Ayz] at c5
  have hk:=Aec l i
  refine Ai<|n_K<|Ad<|Ak<|Ad<|Aa fun ops=>oM rfl<|oA rfl<|Ac<|n_K<|Ad<|Aa fun ops=> ?_
  refine oR (Au rfl mM (by first | exact Bg | rfl)) ?_
  refine oM rfl ?_
  refine A6 rfl (Ue) sP rfl aQ ?_
  refine Ac<|n_K ?_
  refine Aj rfl (fun c9=> ?_) (fun c9=> ?_)
  ·skip
   refine Aa fun ops=>oM rfl<|oM rfl ?_
   refine A5 rfl rfl rfl rfl fun b12=> ?_
   refine Bp (s:=s) (new:=[(i:Int)]) (m:=1) rfl rfl pL g2 (Cv (r:=true) mM rfl) rfl rfl rfl rfl (by omega) rfl fun s' hs1 hs2=> ?_
   refine oA rfl<|Ac<|Az<|n_K<|Aa fun ops=> ?_
   refine oR (Ao rfl rfl (by omega)) ?_
   refine oM rfl<|Ac<|n_K ?_
   first | exact ⟨(i+1,s'),⟨by simp only;omega,(by simp only;rw [hs1,hk,A25 c9,g1]),hs2⟩,(by simp only;omega),lZ⟩ | exact ⟨(i+1,s),⟨by simp only;omega,(by simp only;rw [hk,c9,g1];simp),g2⟩,(by simp only;omega),lZ⟩
  ·skip
   refine Ai<|Az<|n_K<|Aa fun ops=> ?_
   refine oR (Ao rfl rfl (by omega)) ?_
   refine oM rfl<|Ac<|n_K ?_
   first | exact ⟨(i+1,s'),⟨by simp only;omega,(by simp only;rw [hs1,hk,A25 c9,g1]),hs2⟩,(by simp only;omega),lZ⟩ | exact ⟨(i+1,s),⟨by simp only;omega,(by simp only;rw [hk,c9,g1];simp),g2⟩,(by simp only;omega),lZ⟩
 ·simp only [A0d,Ayz] at c5
  have hi:i=256:=(by omega)
  subst hi
  refine Bb<|x_K<|x_K<|Bj<|n_K<|Ad<|Aa fun ops=>oM rfl<|oA rfl<|Ac<|n_K<|An ?_
  exact Av (At Tryz.results54 (Ag rfl)) (by exact ⟨s,rfl,rfl,g1,g2⟩) sP
end
section
open Go.K
instance agg40:Agg Tryz.prog 40 true:=⟨⟨_,Tryz.underlying40,rfl⟩⟩
instance siz40:Siz Tryz.prog 40 3:=⟨by kernel_rfl⟩
instance agg57:Agg Tryz.prog 57 true:=⟨⟨_,Tryz.underlying57,rfl⟩⟩
instance siz57:Siz Tryz.prog 57 34:=⟨by kernel_rfl⟩
instance fld40_0:Fld Tryz.prog 40 0 0:=⟨⟨_,_,0,Tryz.underlying40,rfl,by kernel_rfl,rfl⟩⟩
instance fld40_1:Fld Tryz.prog 40 1 1:=⟨⟨_,_,0,Tryz.underlying40,rfl,by kernel_rfl,rfl⟩⟩
instance fld40_2:Fld Tryz.prog 40 2 2:=⟨⟨_,_,0,Tryz.underlying40,rfl,by kernel_rfl,rfl⟩⟩
instance ent73:Ent Tryz.prog 73:=⟨fun _ _=>by kernel_rfl⟩
structure Cm where
 ep:Wd
 lv:Lv
 sum:BitVec 32
def cmC (c:Cm):List Value:=wv c.ep::(vbc c.lv++[uv c.sum])
abbrev tCm:TypeId:=57
def cm0:Cm:=⟨0,lv0,0⟩
theorem Aed:(Value.int .u64 0)::(List.replicate 32 (Value.int .u8 0)++[Value.int .u32 0])=cmC cm0:=by kernel_rfl
theorem Cr {c:Cm}:(cmC c).length=34:=by unfold cmC;simp [Ar]
theorem Nl {c:Cm}:cut (cmC c) 0 34=some (cmC c):=by have:=Mb (cmC c);rwa [Cr] at this
theorem Aee {c:Cm} {cs:List Value} (h:cs.length=34):Br cs 0 (cmC c)=some (cmC c):=Ob (by rw [Cr,h])
theorem Aun (x:By):(bv x).oneCell'=true:=rfl
theorem Rk {c:Cm}:Jc (.agg (cmC c).toArray)=some (cmC c):=by
 have h:(cmC c).all (·.oneCell')=true:=by
  unfold cmC vbc
  simp only [A14,List.all_append,List.all_map,List.all_nil,A19]
  have h1:(wv c.ep).oneCell'=true:=rfl
  have h2:(uv c.sum).oneCell'=true:=rfl
  rw [h1,h2,A2a,A19]
  exact A00.2 fun x _=>Aun x
 simp [Jc,h]
theorem Am4 (c:Cm):cut (cmC c) 1 32=some (vbc c.lv):=by
 refine cut_iff.2 ⟨?_,by rw [Cr];decide⟩
 unfold cmC
 rw [Azw,A1x]
 exact (A1s Ar).symm
theorem Af9 (c:Cm):nth (cmC c) 33=some (uv c.sum):=by
 unfold cmC
 rw [Ee,Ay2,Ayk (by rw [Ar];decide),Ar]
 rfl
theorem Wz (c:Cm) (l:Lv):Br (cmC c) 1 (vbc l)=some (cmC { c with lv:=l }):=by
 refine Eu ?_ (by rw [Ar,Cr];decide)
 unfold cmC
 rw [Ar]
 have h1:(wv c.ep::(vbc c.lv++[uv c.sum])).take 1=[wv c.ep]:=rfl
 have h2:(wv c.ep::(vbc c.lv++[uv c.sum])).drop (1+32)=[uv c.sum]:=by
  rw [show 1+32=32+1 from rfl,Azw,A1t Ar]
 rw [h1,h2]
 simp
structure Nd where
 key:Int
 ep:Wd
 body:Sl By
def ndC (n:Nd):List Value:=[.int .i64 n.key,wv n.ep,n.body.val]
instance:Cel Nd:=⟨3,ndC,fun _=>rfl,fun _=>rfl⟩
abbrev tNd:TypeId:=40
def Ez (k:Int) (e:Wd) (b:List By):List By:=Co 1 (BitVec.ofInt 64 k)++(Co 8 e++(b++[]))
def Bt (k:Int) (b:List By):Bool:=Dc k && decide (b.length≤224)
theorem Abs {b:Nat} {s1 s2 s3:Sl By} (hl:s1.list.length+s2.list.length+s3.list.length≤70000000000000):Does Tryz.prog 113 [.slice (some ⟨b,0,none⟩) 3 3] ((b,true,C [s1.val,s2.val,s3.val] tSB)::(s1.hp tU8++(s2.hp tU8++(s3.hp tU8++[]))))
  (fun v H=>∃ s:Sl By,v=s.val∧H=s.hp tU8++((b,true,C [s1.val,s2.val,s3.val] tSB)::(s1.hp tU8++(s2.hp tU8++(s3.hp tU8++[]))))∧s.list=s1.list++(s2.list++(s3.list++[]))∧s.isOwn=true):=by
 have e2:(Sl.own b [s1,s2,s3] 3 [] ⟨by simp,A2q _,by simp⟩:Sl (Sl By)).list=[s1,s2,s3]:=rfl
 have e3:Bq [s1,s2,s3]=s1.list++(s2.list++(s3.list++[])):=by simp [Bq]
 have h:=Abk (q:= .own b [s1,s2,s3] 3 [] ⟨by simp,A2q _,by simp⟩) (by rw [e2,e3];simp only [Azz,A1p];omega)
 rw [e2,e3] at h
 have e:(Sl.own b [s1,s2,s3] 3 [] ⟨by simp,A2q _,by simp⟩:Sl (Sl By)).hp tSB++(Dh [s1,s2,s3]++[])=((b,true,C [s1.val,s2.val,s3.val] tSB)::(s1.hp tU8++(s2.hp tU8++(s3.hp tU8++[])))):=by
  rw [Sl.hp_own,Cz,Cz,Cz,Ha]
  simp only [A0j,A1k,A1j]
  rfl
 rw [e] at h
 exact h
theorem W0 {n:Nd}:Does Tryz.prog 73 [.agg (ndC n).toArray] (n.body.hp tU8++[])
  (fun v H=>(Bt n.key n.body.list=false∧v= .tuple #[.slice none 0 0,.int .i64 1]∧H=n.body.hp tU8++[]) ∨
   (Bt n.key n.body.list=true∧∃ s:Sl By,v= .tuple #[s.val,.int .i64 0]∧H=s.hp tU8++(n.body.hp tU8++[])∧s.list=Ez n.key n.ep n.body.list∧s.isOwn=true)):=by
 refine Ah (n:=29) Tryz.func73 Tryz.ntmps73 rfl (Ay9 rfl)<|Ad<|Aa fun ops=> ?_
 refine De rfl rfl fun b1=> ?_
 refine oA rfl<|oA rfl<|Ac<|n_K<|Ad<|Ad ?_
 refine Bf [(3,7),(8,12)] rfl fun ops y=> ?_
 refine oF rfl ?_
 refine oR (Al rfl mM rfl) ?_
 refine oR (Ae rfl rfl rfl)<|oM rfl ?_
 refine' Es (j:=3) (k:=3) y rfl rfl rfl rfl rfl rfl rfl (fun hg7=> ?_) ?_
 rotate_left
 ·try (simp at hg7;show _)
  refine o_g y rfl rfl ?_
  refine oF rfl ?_
  refine o_g y rfl rfl ?_
  refine oR (Al rfl mM rfl) ?_
  refine o_g y rfl rfl ?_
  refine oR (Ae rfl rfl rfl) ?_
  exact Ac ⟨rfl,rfl,⟨_,sP⟩⟩
 refine oM rfl ?_
 refine' Es (j:=8) (k:=4) y rfl rfl rfl rfl rfl rfl rfl (fun hg12=> ?_) ?_
 rotate_left
 ·try (simp at hg12;show _)
  refine o_g y rfl rfl ?_
  refine oF rfl ?_
  refine o_g y rfl rfl ?_
  refine oR (Al rfl mM rfl) ?_
  refine o_g y rfl rfl ?_
  refine oR (A7 rfl) ?_
  refine o_g y rfl rfl ?_
  refine oR (Ae rfl rfl rfl) ?_
  exact Ac ⟨rfl,rfl,⟨_,sP⟩⟩
 refine Ac<|n_K ?_
 refine Aj rfl (fun c17=> ?_) (fun c17=> ?_)
 ·simp only [A1b,Azp,A0d,Ayz] at c17
  have hok:Bt n.key n.body.list=false:=(by unfold Bt Dc;simp;omega)
  refine Ad<|Aa fun ops=>oA rfl<|oA rfl<|Ac<|n_K<|An<|r_K ?_
  exact Av (Bz Tryz.results73 (Ag rfl) (Ag rfl)) (by exact .inl ⟨hok,rfl,rfl⟩) sP
 ·simp only [A1b,Azp,A0d,Ayz] at c17
  have hok:Bt n.key n.body.list=true:=(by unfold Bt Dc;simp;omega)
  refine Ai<|n_K<|Ad ?_
  refine s_draw [] [(9,[(0,false),(1,false),(2,false),(4,false),(5,false),(7,false),(8,false),(3,true),(6,true)]),(10,[(9,true)]),(11,[(10,true)]),(13,[(11,false),(12,false)])] (by kernel_rfl) rfl fun ops w0 H0 y=> ?_
  refine A4<|xF rfl ?_
  refine xR (Al rfl mM rfl) ?_
  refine xR (show Rd _ _ _ _ (wv (BitVec.ofInt 64 n.key)) from by (unfold wv;rw [← J3];exact C4 rfl)) ?_
  refine xF rfl ?_
  refine xR (Al rfl mM rfl) ?_
  refine xF rfl ?_
  refine xR (Al rfl mM rfl) ?_
  refine Be ?_
  refine Bd rfl (Hr) sP rfl fun v21 Y21 h21=> ?_
  obtain ⟨s21,rfl,rfl,hs21,ho21⟩:=h21
  refine Ay aQ ?_
  refine Ac ⟨rfl,⟨_,sP⟩,?_⟩
  refine Be ?_
  refine Bd rfl (Hr) sP rfl fun v24 Y24 h24=> ?_
  obtain ⟨s24,rfl,rfl,hs24,ho24⟩:=h24
  refine Ay aQ ?_
  refine Ac ⟨rfl,⟨_,sP⟩,?_⟩
  refine Am<|Bh<|Be ?_
  refine A5 rfl rfl rfl rfl fun b27=> ?_
  refine Ac ⟨rfl,⟨_,sP⟩,?_⟩
  refine Am<|Bh<|Be ?_
  refine Bd rfl (Abs (b:=b27) (s1:=s21) (s2:=s24) (s3:=n.body) (by rw [hs21,hs24,Bo,Bo,show Bl 1 8=1 from rfl,show Bl 8 8=8 from rfl];omega)) sP rfl fun v28 Y28 h28=> ?_
  obtain ⟨s28,rfl,rfl,hs28,ho28⟩:=h28
  refine Ay aQ ?_
  refine Ac ⟨rfl,⟨_,sP⟩,?_⟩
  refine Am<|A4<|xA rfl<|xA rfl<|Am<|Bm<|n_K<|An ?_
  exact Av (Bz Tryz.results73 (Ag rfl) (Ag rfl)) (by exact .inr ⟨hok,s28,rfl,rfl,by rw [hs28,hs21,hs24];rfl,ho28⟩) sP
end
section
open Go.K
instance zer40:Zer Tryz.prog 40 ([.int .i64 0,.int .u64 0,.slice none 0 0]):=⟨by kernel_rfl⟩
instance zer57:Zer Tryz.prog 57 ([.int .u64 0]++List.replicate 32 (.int .u8 0)++[.int .u32 0]):=⟨by kernel_rfl⟩
instance fld57_0:Fld Tryz.prog 57 0 0:=⟨⟨_,_,0,Tryz.underlying57,rfl,by kernel_rfl,rfl⟩⟩
instance fld57_1:Fld Tryz.prog 57 1 1:=⟨⟨_,_,31,Tryz.underlying57,rfl,by kernel_rfl,rfl⟩⟩
instance fld57_2:Fld Tryz.prog 57 2 33:=⟨⟨_,_,0,Tryz.underlying57,rfl,by kernel_rfl,rfl⟩⟩
instance plc40:Plc Tryz.prog 40 [(0,1),(1,1),(2,1)]:=⟨⟨_,Tryz.underlying40,fun _=>by kernel_rfl⟩⟩
instance ent62:Ent Tryz.prog 62:=⟨fun _ _=>by kernel_rfl⟩
instance ent76:Ent Tryz.prog 76:=⟨fun _ _=>by kernel_rfl⟩
instance ent149:Ent Tryz.prog 149:=⟨fun _ _=>by kernel_rfl⟩
def W1 (xs:List By):Int:=((D9 (xs.take 1) 1).toNat:Int)
def Am5 (xs:List By):Wd:=D9 ((xs.drop 1).take 8) 8
def Abt (xs:List By):Bool:=decide (9≤xs.length) && decide (xs.length≤233)
theorem Aga (xs:List By):(D9 (xs.take 1) 1).toNat<256:=by
 cases xs with
 | nil=>decide
 | cons x xs =>
  show (0#64 ||| (x.setWidth 64 <<< (8*0))).toNat<256
  simp
  have:=x.isLt
  omega
theorem Abu {s:Sl By} {T:TypeId}:Does Tryz.prog 62 [s.val] (s.hp T++[])
  (fun v H=>(Abt s.list=false∧v= .tuple #[.agg (ndC ⟨0,0,.nil⟩).toArray,.int .i64 11]∧H=s.hp T++[]) ∨
   (Abt s.list=true∧∃ b:Sl By,v= .tuple #[.agg (ndC ⟨W1 s.list,Am5 s.list,b⟩).toArray,.int .i64 0]∧H=b.hp tU8++(s.hp T++[])∧b.list=s.list.drop 9∧b.isOwn=true)):=by
 have hv1:=Aga s.list
 refine Ah (n:=26) Tryz.func62 Tryz.ntmps62 rfl (Ay9 rfl)<|Ad<|Aa fun ops=> ?_
 refine Aw rfl fun b2=> ?_
 refine oA rfl<|Ac<|n_K<|Ad<|Ad ?_
 refine Bf [(3,8)] rfl fun ops y=> ?_
 refine oM rfl<|oR (A7 rfl)<|oR (Ae rfl rfl rfl)<|oM rfl ?_
 refine' Es (j:=3) (k:=3) y rfl rfl rfl rfl rfl rfl rfl (fun hg8=> ?_) ?_
 rotate_left
 ·try (simp at hg8;show _)
  refine o_g y rfl rfl ?_
  refine oM rfl ?_
  refine o_g y rfl rfl ?_
  refine oR (A7 rfl) ?_
  refine o_g y rfl rfl ?_
  refine oR (Ae rfl rfl rfl) ?_
  exact Ac ⟨rfl,rfl,⟨_,sP⟩⟩
 refine Ac<|n_K ?_
 refine Aj rfl (fun c12=> ?_) (fun c12=> ?_)
 ·simp only [A1b,Azp,A0d,Ayz] at c12
  have hok:Abt s.list=false:=(by unfold Abt;simp;omega)
  refine Ad<|Aa fun ops=>oR (Bc rfl rfl) ?_
  refine Af rfl rfl uD rfl rfl rfl ?_
  refine oA rfl<|Ac<|n_K<|An<|r_K ?_
  exact Av (Bz Tryz.results62 (Bv rfl mM rfl) (Ag rfl)) (by exact .inl ⟨hok,rfl,rfl⟩) sP
 ·simp only [A1b,Azp,A0d,Ayz] at c12
  have hok:Abt s.list=true:=(by unfold Abt;simp;omega)
  have hsm:s.list.length≤70000000000000:=(by omega)
  refine Ai<|n_K<|Ad<|Aa fun ops=>oM rfl ?_
  refine Bd rfl (Fe (s:=s) (T:=T) hsm) sP rfl fun v15 Y15 h15=> ?_
  obtain ⟨r,rfl,rfl,hr1,hr2⟩:=h15
  refine Ay aQ ?_
  refine oA rfl<|Ac<|n_K<|Ad<|Aa fun ops=>oM rfl ?_
  refine Bd rfl (Ff (r:=r) (n:=1) (by rw [hr1];exact hsm)) sP rfl fun v17 Y17 h17=> ?_
  obtain ⟨x1,sl1,bad1,rfl,rfl,hx1,hl1,hb1⟩:=h17
  refine Ay aQ ?_
  refine oR (show Rd _ _ _ _ (.int .i64 (W1 s.list)) from by (rw [hr1,show Bl 1 8=1 from rfl] at hx1;unfold C7 at hx1;rw [A26 (by omega)] at hx1;simp only at hx1;unfold W1;rw [← hx1];rw [← hx1] at hv1;exact G8 (Cx (by omega)) rfl)) ?_
  refine oM rfl ?_
  refine Bd rfl (Ff (r:=⟨r.b,sl1,bad1⟩) (n:=8) (by simp only;rw [hl1,hr1];have:=Oy (Bl 1 8) s.list r.bad;omega)) sP rfl fun v20 Y20 h20=> ?_
  obtain ⟨x2,sl2,bad2,rfl,rfl,hx2,hl2,hb2⟩:=h20
  refine Ay aQ ?_
  refine oM rfl<|oM rfl ?_
  refine A6 rfl (Se (r:=⟨r.b,sl2,bad2⟩)) sP rfl aQ ?_
  refine Bd rfl (Jx (r:=⟨r.b,sl2,bad2⟩) (n:=(sl2.list.length:Nat)) (by simp only;rw [hl2];simp only;have h1:=Oy (Bl 8 8) sl1.list bad1;have h2:=Oy (Bl 1 8) s.list r.bad;rw [hl1,hr1] at h1;rw [hl1,hr1];omega)) sP rfl fun v24 Y24 h24=> ?_
  obtain ⟨bb,sl3,bad3,rfl,rfl,hbo,hbl,hl3,hb3⟩:=h24
  refine Ay aQ ?_
  refine oR (show Rd _ _ _ _ (.agg (ndC ⟨W1 s.list,Am5 s.list,bb⟩).toArray) from by (have e1:sl1.list=s.list.drop 1:=(by rw [hl1,hr1,show Bl 1 8=1 from rfl];unfold C7;rw [A26 (by omega)]);have e2:x2=Am5 s.list:=(by simp only at hx2;rw [hx2,e1,show Bl 8 8=8 from rfl];unfold C7;rw [A26 (by rw [A03];omega)];rfl);rw [← e2];exact Bc rfl rfl)) ?_
  refine Af rfl rfl uD rfl rfl rfl ?_
  refine oA rfl<|Ac<|n_K<|An ?_
  exact Av (Bz Tryz.results62 (Bv rfl mM rfl) (Ag rfl)) (by exact .inr ⟨hok,bb,rfl,rfl,(by have e1:sl1.list=s.list.drop 1:=(by rw [hl1,hr1,show Bl 1 8=1 from rfl];unfold C7;rw [A26 (by omega)]);have e2:sl2.list=s.list.drop 9:=(by simp only at hl2;rw [hl2,e1,show Bl 8 8=8 from rfl];unfold C7;rw [A26 (by rw [A03];omega)];simp only [A1y]);rw [hbl];simp only;rw [show (max ((sl2.list.length:Nat):Int) 0).toNat=sl2.list.length by omega];unfold C9;rw [A26 (by omega)];simp only [A0w];exact e2),hbo⟩) sP
def F5 (c:Cm):List By:=Co 8 c.ep++(Co 4 (c.sum.setWidth 64)++(c.lv.toList++[]))
def Yv (xs:List By):Lv:=Vector.ofFn fun i:Fin 32=>xs.getD i.val 0
def Am6 (xs:List By):Cm:=⟨D9 (xs.take 8) 8,Yv (xs.drop 12),(D9 ((xs.drop 8).take 4) 4).setWidth 32⟩
theorem Aro {xs:List By} (h:xs.length=32):cells xs=vbc (Yv xs):=by
 have e:xs=(Yv xs).toList:=by
  apply A0y
  ·rw [h,Azq]
  ·intro i h1 h2
   rw [Vector.getElem_toList]
   unfold Yv
   rw [Vector.getElem_ofFn]
   simp only [Ayg]
   rw [Ayw h1]
   rfl
 rw [Lh]
 show xs.map bv=(Yv xs).toList.map bv
 rw [← e]
def lvV (b:Nat) (c:Cm):Sl By:= .view b 1 true (cmC c) tCm (0,0) c.lv.toList 32 ⟨fun i x hx=>by
  have hi:i<32:=by have:=(Aym.1 hx).1;simpa using this
  have h1:=Zz (p:=c.lv) (o:=0) (m:=32) i x (by rw [A1x,Ay4 (by simp)];exact hx)
  have h2:=Am4 c
  obtain ⟨e1,e2⟩:=cut_iff.1 h1
  obtain ⟨e3,e4⟩:=cut_iff.1 h2
  refine cut_iff.2 ⟨?_,by rw [Cr];simp only [Cel.sz];omega⟩
  rw [e1,e3,A2g,List.drop_take,List.take_take,A1y]
  congr 1
  simp only [Cel.sz]
  omega,by simp,by simp⟩
theorem Arp (b:Nat) (c:Cm):(lvV b c).val= .slice (some ⟨b,1,none⟩) 32 32:=by
 show Value.slice (some ⟨b,1,none⟩) c.lv.toList.length 32=_
 rw [Azq]
theorem Auo (b:Nat) (c:Cm) (U:TypeId):(lvV b c).hp U=[(b,true,C (cmC c) tCm)]:=by unfold lvV;rw [Sl.hp_view]
theorem Am7 (x:BitVec 32):IntKind.u64.wrap (x.toNat:Int)=((x.setWidth 64).toNat:Int):=by
 rw [Ex .u64 rfl,Azr]
 simp
 rfl
theorem Am8 (x:Wd):IntKind.u32.wrap (x.toNat:Int)=((x.setWidth 32).toNat:Int):=by
 rw [Ex .u32 rfl,Azr]
 simp
 rfl
theorem Aiw {c:Cm}:Does Tryz.prog 76 [.agg (cmC c).toArray] [] (fun v H=>∃ s:Sl By,v=s.val∧H=s.hp tU8++[]∧s.list=F5 c∧s.isOwn=true):=by
 refine Ah (n:=14) Tryz.func76 Tryz.ntmps76 rfl (Ay9 rfl)<|Ad<|Aa fun ops=> ?_
 refine Ec rfl rfl fun b1=> ?_
 refine oA rfl<|Ac<|n_K<|Ad ?_
 refine s_draw [] [(9,[(0,false),(1,false),(3,false),(4,false),(5,false),(7,false),(8,false),(2,true),(6,true)]),(10,[(9,true)]),(11,[(10,true)]),(12,[(11,false)])] (by kernel_rfl) rfl fun ops w0 H0 y=> ?_
 refine A4<|xF rfl ?_
 refine xR (Al rfl mM rfl) ?_
 refine xF rfl ?_
 refine xR (Al rfl mM (Af9 c)) ?_
 refine xR (show Rd _ _ _ _ (wv (c.sum.setWidth 64)) from by (unfold wv;rw [← Am7];exact C4 rfl)) ?_
 refine xF rfl ?_
 refine xR (show Rd _ _ _ _ (lvV b1 c).val from by (rw [Arp];exact C5 (b:=b1) (o:=1) (sz:=1) (i:=0) (j:=32) (l:=32) rfl rfl rfl (by omega))) ?_
 refine Be ?_
 refine Bd rfl (Hr) sP rfl fun v5 Y5 h5=> ?_
 obtain ⟨s5,rfl,rfl,hs5,ho5⟩:=h5
 refine Ay aQ ?_
 refine Ac ⟨rfl,⟨_,sP⟩,?_⟩
 refine Be ?_
 refine Bd rfl (Hr) sP rfl fun v9 Y9 h9=> ?_
 obtain ⟨s9,rfl,rfl,hs9,ho9⟩:=h9
 refine Ay aQ ?_
 refine Ac ⟨rfl,⟨_,sP⟩,?_⟩
 refine Am<|Bh<|Be ?_
 refine A5 rfl rfl rfl rfl fun b12=> ?_
 refine Ac ⟨rfl,⟨_,sP⟩,?_⟩
 refine Am<|Bh<|Be ?_
 refine Bd rfl (Abs (b:=b12) (s1:=s5) (s2:=s9) (s3:=lvV b1 c) (by rw [hs5,hs9,Bo,Bo];show _+_+c.lv.toList.length≤_;rw [Azq,show Bl 8 8=8 from rfl,show Bl 4 8=4 from rfl];decide)) (by rw [Auo];exact sP) rfl fun v13 Y13 h13=> ?_
 obtain ⟨s13,rfl,rfl,hs13,ho13⟩:=h13
 refine Ay aQ ?_
 refine Ac ⟨rfl,⟨_,sP⟩,?_⟩
 refine Am<|A4<|xA rfl<|Am<|Bm<|n_K<|An ?_
 exact Av (At Tryz.results76 (Ag rfl)) (by exact ⟨s13,rfl,rfl,by rw [hs13,hs5,hs9];rfl,ho13⟩) sP
theorem Am9 {s:Sl By} {T:TypeId}:Does Tryz.prog 149 [s.val] (s.hp T++[])
  (fun v H=>(s.list.length≠44∧v= .tuple #[.agg (cmC cm0).toArray,.int .i64 11]∧H=s.hp T++[]) ∨
   (s.list.length=44∧v= .tuple #[.agg (cmC (Am6 s.list)).toArray,.int .i64 0]∧H=s.hp T++[])):=by
 refine Ah (n:=26) Tryz.func149 Tryz.ntmps149 rfl (Ay9 rfl)<|Ad<|Aa fun ops=> ?_
 refine Aw rfl fun b2=> ?_
 refine Q5 (G:=(b2,true,C (cmC cm0) tCm)::(s.hp T++[])) (by rw [← Aed];rfl) ?_
 refine oA rfl<|Ac<|n_K<|Ad<|Ad<|Aa fun ops=>oM rfl<|oR (A7 rfl)<|oR (Ae rfl rfl rfl)<|Ac<|n_K ?_
 refine Aj rfl (fun c7=> ?_) (fun c7=> ?_)
 ·skip
  have hok:s.list.length≠44:=(by simp at c7;omega)
  refine Ad<|Aa fun ops=> ?_
  refine oR (Au rfl mM (by first | exact Nl | rfl)) ?_
  first | refine Af rfl rfl uD (Rk) (Cr) (Aee (by first | exact Cr | exact Azc ..)) ?_ | refine Af rfl rfl uD rfl rfl rfl ?_
  refine oA rfl<|Ac<|n_K<|An<|r_K ?_
  exact Av (Bz Tryz.results149 (Bv rfl mM (by first | exact Nl | rfl)) (Ag rfl)) (by exact .inl ⟨hok,rfl,rfl⟩) sP
 ·skip
  have hok:s.list.length=44:=(by have:=c7;simp at this;omega)
  have hsm:s.list.length≤70000000000000:=(by omega)
  refine Ai<|n_K<|Ad<|Aa fun ops=>oM rfl ?_
  refine Bd rfl (Fe (s:=s) (T:=T) hsm) sP rfl fun v10 Y10 h10=> ?_
  obtain ⟨r,rfl,rfl,hr1,hr2⟩:=h10
  refine Ay aQ ?_
  refine oA rfl<|Ac<|n_K<|Ad<|Aa fun ops=>oM rfl ?_
  refine Bd rfl (Ff (r:=r) (n:=8) (by rw [hr1];exact hsm)) sP rfl fun v12 Y12 h12=> ?_
  obtain ⟨x1,sl1,bad1,rfl,rfl,hx1,hl1,hb1⟩:=h12
  rw [hr1,show Bl 8 8=8 from rfl] at hx1 hl1
  unfold C7 at hx1 hl1
  rw [A26 (by omega)] at hx1 hl1
  simp only at hx1 hl1
  refine Ay aQ ?_
  refine oF rfl ?_
  refine Af (cs':=cmC ⟨x1,lv0,0⟩) rfl rfl uD rfl rfl rfl ?_
  refine Ac<|n_K<|Ad<|Aa fun ops=>oM rfl ?_
  refine Bd rfl (Ff (r:=⟨r.b,sl1,bad1⟩) (n:=4) (by simp only;rw [hl1,A03];omega)) sP rfl fun v15 Y15 h15=> ?_
  obtain ⟨x2,sl2,bad2,rfl,rfl,hx2,hl2,hb2⟩:=h15
  simp only at hx2 hl2
  rw [hl1,show Bl 4 8=4 from rfl] at hx2 hl2
  unfold C7 at hx2 hl2
  rw [A26 (by rw [A03];omega)] at hx2 hl2
  simp only [A1y] at hx2 hl2
  refine Ay aQ ?_
  refine oR (show Rd _ _ _ _ (uv (x2.setWidth 32)) from by (unfold uv;rw [← Am8];exact C4 rfl)) ?_
  refine oF rfl ?_
  refine Af (cs':=cmC ⟨x1,lv0,x2.setWidth 32⟩) rfl rfl uD rfl rfl (by kernel_rfl) ?_
  refine Ac<|n_K<|Ad ?_
  refine s_draw [] [(6,[(0,false),(1,false),(2,false),(3,false),(4,true),(5,true)]),(7,[(6,true)])] (by kernel_rfl) rfl fun ops w0 H0 y=> ?_
  refine Bh<|xF rfl ?_
  refine xR (C5 (b:=b2) (o:=1) (sz:=1) (i:=0) (j:=32) (l:=32) rfl rfl rfl (by omega)) ?_
  refine xM rfl<|xM rfl<|Be ?_
  refine A6 rfl (Se (r:=⟨r.b,sl2,bad2⟩)) sP rfl aQ ?_
  refine Ac ⟨rfl,⟨_,sP⟩,?_⟩
  refine Be ?_
  refine Bd rfl (Jx (r:=⟨r.b,sl2,bad2⟩) (n:=(sl2.list.length:Nat)) (by simp only;rw [hl2,A03];omega)) sP rfl fun v23 Y23 h23=> ?_
  obtain ⟨bb,sl3,bad3,rfl,rfl,hbo,hbl,hl3,hb3⟩:=h23
  simp only at hbl
  rw [show (max ((sl2.list.length:Nat):Int) 0).toNat=sl2.list.length by omega] at hbl
  unfold C9 at hbl
  rw [A26 (by omega),hl2] at hbl
  simp only [A0w] at hbl
  have hb32:bb.list.length=32:=(by rw [hbl,A03];omega)
  refine Ay aQ ?_
  refine Ac ⟨rfl,⟨_,sP⟩,?_⟩
  refine Am<|Bh<|Be ?_
  refine G5 (cs':=cmC ⟨x1,Yv bb.list,x2.setWidth 32⟩) rfl rfl (M5 (s:=bb) (T:=tU8) pL) (by omega) uD (by rw [Aro hb32];exact Wz _ _) (Gg _) rfl ?_
  refine Ac ⟨rfl,⟨_,sP⟩,?_⟩
  refine Am<|Bm<|n_K<|Ad<|Aa fun ops=> ?_
  refine oR (Au rfl mM (by first | exact Nl | rfl)) ?_
  first | refine Af rfl rfl uD (Rk) (Cr) (Aee (by first | exact Cr | exact Azc ..)) ?_ | refine Af rfl rfl uD rfl rfl rfl ?_
  refine oA rfl<|Ac<|n_K<|An ?_
  exact Av (Bz Tryz.results149 (Bv rfl mM (by first | exact Nl | rfl)) (Ag rfl)) (by exact .inr ⟨hok,(by have e:(⟨x1,Yv bb.list,x2.setWidth 32⟩:Cm)=Am6 s.list:=(by unfold Am6;rw [hx1,hx2,hbl]);rw [e]),rfl⟩) sP
end
section
open Go.K
instance agg31:Agg Tryz.prog 31 true:=⟨⟨_,Tryz.underlying31,rfl⟩⟩
instance siz31:Siz Tryz.prog 31 3:=⟨by kernel_rfl⟩
instance und62:Und Tryz.prog 62 (.map 3 124):=⟨Tryz.underlying62⟩
instance agg62:Agg Tryz.prog 62 false:=⟨⟨_,Tryz.underlying62,rfl⟩⟩
instance siz62:Siz Tryz.prog 62 1:=⟨by kernel_rfl⟩
instance agg124:Agg Tryz.prog 124 true:=⟨⟨_,Tryz.underlying124,rfl⟩⟩
instance siz124:Siz Tryz.prog 124 3:=⟨by kernel_rfl⟩
instance und283:Und Tryz.prog 283 (.array 2 62):=⟨Tryz.underlying283⟩
instance zer124:Zer Tryz.prog 124 ([.int .i64 0,.int .i64 0,.int .u64 0]):=⟨by kernel_rfl⟩
instance zer283:Zer Tryz.prog 283 ([.map none,.map none]):=⟨by kernel_rfl⟩
instance fld31_0:Fld Tryz.prog 31 0 0:=⟨⟨_,_,0,Tryz.underlying31,rfl,by kernel_rfl,rfl⟩⟩
instance fld31_1:Fld Tryz.prog 31 1 1:=⟨⟨_,_,0,Tryz.underlying31,rfl,by kernel_rfl,rfl⟩⟩
instance fld31_2:Fld Tryz.prog 31 2 2:=⟨⟨_,_,0,Tryz.underlying31,rfl,by kernel_rfl,rfl⟩⟩
instance fld67_1:Fld Tryz.prog 67 1 1:=⟨⟨_,_,0,Tryz.underlying67,rfl,by kernel_rfl,rfl⟩⟩
instance fld67_2:Fld Tryz.prog 67 2 2:=⟨⟨_,_,0,Tryz.underlying67,rfl,by kernel_rfl,rfl⟩⟩
instance fld67_4:Fld Tryz.prog 67 4 4:=⟨⟨_,_,33,Tryz.underlying67,rfl,by kernel_rfl,rfl⟩⟩
instance fld67_5:Fld Tryz.prog 67 5 38:=⟨⟨_,_,1,Tryz.underlying67,rfl,by kernel_rfl,rfl⟩⟩
instance fld67_7:Fld Tryz.prog 67 7 43:=⟨⟨_,_,1,Tryz.underlying67,rfl,by kernel_rfl,rfl⟩⟩
instance fld67_8:Fld Tryz.prog 67 8 45:=⟨⟨_,_,0,Tryz.underlying67,rfl,by kernel_rfl,rfl⟩⟩
instance fld124_0:Fld Tryz.prog 124 0 0:=⟨⟨_,_,1,Tryz.underlying124,rfl,by kernel_rfl,rfl⟩⟩
instance flat65:Flat Tryz.prog 65 ([some .i64,some .i64]):=⟨by kernel_rfl,by kernel_rfl,⟨_,Tryz.underlying65,rfl⟩⟩
instance ent69:Ent Tryz.prog 69:=⟨fun _ _=>by kernel_rfl⟩
instance ent162:Ent Tryz.prog 162:=⟨fun _ _=>by kernel_rfl⟩
instance ent207:Ent Tryz.prog 207:=⟨fun _ _=>by kernel_rfl⟩
structure Vw where
 num:Wd
 mem:Int
 base:Wd
def vw0:Vw:=⟨0,0,0⟩
def vwC (v:Vw):List Value:=[wv v.num,.int .i64 v.mem,wv v.base]
abbrev tVw:TypeId:=31
def My (v:Vw):List By:=Co 8 v.num++(Co 1 (BitVec.ofInt 64 v.mem)++(Co 8 v.base++[]))
theorem Axn {v:Vw}:Does Tryz.prog 69 [.agg (vwC v).toArray] [] (fun z H=>∃ s:Sl By,z=s.val∧H=s.hp tU8++[]∧s.list=My v∧s.isOwn=true):=by
 refine Ah (n:=15) Tryz.func69 Tryz.ntmps69 rfl (Ay9 rfl)<|Ad<|Aa fun ops=> ?_
 refine De rfl rfl fun b1=> ?_
 refine oA rfl<|Ac<|n_K<|Ad ?_
 refine s_draw [] [(9,[(0,false),(1,false),(3,false),(4,false),(5,false),(7,false),(8,false),(2,true),(6,true)]),(10,[(9,true)]),(11,[(10,true)]),(12,[(11,true)]),(13,[(12,false)])] (by kernel_rfl) rfl fun ops w0 H0 y=> ?_
 refine A4<|xF rfl ?_
 refine xR (Al rfl mM rfl) ?_
 refine xF rfl ?_
 refine xR (Al rfl mM rfl) ?_
 refine xR (show Rd _ _ _ _ (wv (BitVec.ofInt 64 v.mem)) from by (unfold wv;rw [← J3];exact C4 rfl)) ?_
 refine xF rfl ?_
 refine xR (Al rfl mM rfl) ?_
 refine Be ?_
 refine Bd rfl (Hr) sP rfl fun v5 Y5 h5=> ?_
 obtain ⟨s5,rfl,rfl,hs5,ho5⟩:=h5
 refine Ay aQ ?_
 refine Ac ⟨rfl,⟨_,sP⟩,?_⟩
 refine Be ?_
 refine Bd rfl (Hr) sP rfl fun v9 Y9 h9=> ?_
 obtain ⟨s9,rfl,rfl,hs9,ho9⟩:=h9
 refine Ay aQ ?_
 refine Ac ⟨rfl,⟨_,sP⟩,?_⟩
 refine Am<|Bh<|Be ?_
 refine Bd rfl (Hr) sP rfl fun v12 Y12 h12=> ?_
 obtain ⟨s12,rfl,rfl,hs12,ho12⟩:=h12
 refine Ay aQ ?_
 refine Ac ⟨rfl,⟨_,sP⟩,?_⟩
 refine Am<|Bh<|Be ?_
 refine A5 rfl rfl rfl rfl fun b13=> ?_
 refine Ac ⟨rfl,⟨_,sP⟩,?_⟩
 refine Am<|Bh<|Be ?_
 refine Bd rfl (Abs (b:=b13) (s1:=s5) (s2:=s9) (s3:=s12) (by rw [hs5,hs9,hs12,Bo,Bo,Bo,show Bl 1 8=1 from rfl,show Bl 8 8=8 from rfl];decide)) sP rfl fun v14 Y14 h14=> ?_
 obtain ⟨s14,rfl,rfl,hs14,ho14⟩:=h14
 refine Ay aQ ?_
 refine Ac ⟨rfl,⟨_,sP⟩,?_⟩
 refine Am<|A4<|xA rfl<|Am<|Bm<|n_K<|An ?_
 exact Av (At Tryz.results69 (Ag rfl)) (by exact ⟨s14,rfl,rfl,by rw [hs14,hs5,hs9,hs12];rfl,ho14⟩) sP
structure En where
 at':Pl2
 ep:Wd
def Aix (e:En):List Value:=[.int .i64 e.at'.1,.int .i64 e.at'.2,wv e.ep]
instance:Mv En:=⟨fun e=> .agg (Aix e).toArray⟩
def Awb:En:=⟨(0,0),0⟩
abbrev tSt:TypeId:=67
structure Sto where
 st:Nat
 lg:Nat
 ib:Nat
 pb:Nat
 sb:Nat
 last:Cm
 la:Pl2
 vw:Vw
 va:Pl2
 viewed:Bool
 seen:Wd
 hurt:Bool
 idx:Mp En
 pend:Mp En
 stray:Mp Int
def stT (S:Sto):List Value:=[.int .i64 S.la.1,.int .i64 S.la.2,wv S.vw.num,.int .i64 S.vw.mem,wv S.vw.base,.int .i64 S.va.1,.int .i64 S.va.2,.bool S.viewed,wv S.seen,.bool S.hurt]
def stC (S:Sto):List Value:=ptr S.lg:: .map (some S.ib):: .map (some S.pb):: .map (some S.sb)::(cmC S.last++stT S)
theorem Yw (S:Sto):(stC S).length=48:=by
 show (cmC S.last++stT S).length+1+1+1+1=48
 rw [Azz,Cr];rfl
theorem Iv {S:Sto} {o:Nat} {v:Value} (h:nth (stT S) o=some v):nth (stC S) (o+38)=some v:=by
 rw [Ee] at h ⊢
 show (ptr S.lg:: .map (some S.ib):: .map (some S.pb):: .map (some S.sb)::(cmC S.last++stT S))[o+34+4]? =_
 simp only [Ay2]
 rw [Ayk (by rw [Cr];omega),Cr,Nat.add_sub_cancel]
 exact h
theorem Yx {S:Sto} {o m:Nat} {cs:List Value} (h:cut (stT S) o m=some cs):cut (stC S) (o+38) m=some cs:=by
 obtain ⟨h1,h2⟩:=cut_iff.1 h
 refine cut_iff.2 ⟨?_,by rw [Yw];have:(stT S).length=10:=rfl;omega⟩
 rw [h1]
 congr 1
 show (stT S).drop o=(ptr S.lg:: .map (some S.ib):: .map (some S.pb):: .map (some S.sb)::(cmC S.last++stT S)).drop (o+34+4)
 simp only [Azw]
 have h9:(cmC S.last).drop (o+34)=[]:=Ay8 (by rw [Cr];omega)
 rw [List.drop_append,h9,Cr,Nat.add_sub_cancel]
 rfl
theorem Agb (S:Sto):cut (stC S) 5 32=some (vbc S.last.lv):=by
 refine cut_iff.2 ⟨?_,by rw [Yw];decide⟩
 show _=(vbc S.last.lv++[uv S.last.sum]++stT S).take 32
 rw [A0j,A1s Ar]
def stA (S:Sto):List Value:=[ptr S.lg,.map (some S.ib),.map (some S.pb),.map (some S.sb)]++cmC S.last
theorem Arq (S:Sto):(stA S).length=38:=by
 unfold stA
 rw [Azz,Cr];rfl
theorem Ds {S S':Sto} {o:Nat} {new:List Value} (h:Br (stT S) o new=some (stT S')) (h1:stA S'=stA S):Br (stC S) (o+38) new=some (stC S'):=by
 have e:∀ S,stC S=stA S++stT S:=fun S=>rfl
 have:=Ke (a:=stA S) h
 rw [Arq,A2k] at this
 rw [e,e,h1]
 exact this
theorem Lz (S:Sto) (c:Cm):Br (stC S) 4 (cmC c)=some (stC { S with last:=c }):=by
 refine Eu ?_ (by rw [Yw,Cr];decide)
 rw [Cr]
 show ptr S.lg:: .map (some S.ib):: .map (some S.pb):: .map (some S.sb)::(cmC c++stT S)=[ptr S.lg,.map (some S.ib),.map (some S.pb),.map (some S.sb)]++cmC c++(cmC S.last++stT S).drop 34
 rw [A1t Cr]
 simp
def stH (S:Sto):Hp:=(S.st,true,C (stC S) tSt)::(S.ib,true,S.idx.obj .i64)::(S.pb,true,S.pend.obj .i64)::(S.sb,true,S.stray.obj .i64)::[]
def plB (x y:Pl2):Bool:=decide (x.1=y.1) && decide (x.2=y.2)
theorem plB_iff {x y:Pl2}:plB x y=true↔x=y:=by
 unfold plB
 simp [Prod.ext_iff]
theorem Uf (x y:Pl2):Cd [some .i64,some .i64] [.int .i64 x.1,.int .i64 x.2] [.int .i64 y.1,.int .i64 y.2]=some (plB x y):=by
 unfold plB
 simp [Cd,Kd]
 try rfl
theorem Aef {e:En} {b:Nat} {x:Pl2}:Does Tryz.prog 207 [.agg (Aix e).toArray,ptr b] [(b,true,C [.int .i64 x.1,.int .i64 x.2] tPc)] (Is (.bool (plB e.at' x)) [(b,true,C [.int .i64 x.1,.int .i64 x.2] tPc)]):=by
 refine Ah (n:=8) Tryz.func207 Tryz.ntmps207 rfl (Ay9 rfl)<|Ad<|Aa fun ops=> ?_
 refine De rfl rfl fun b2=> ?_
 refine oA rfl<|Ac<|n_K<|Ad<|Aa fun ops=>oF rfl ?_
 refine oR (Au rfl mM rfl) ?_
 refine oR (Au rfl mM rfl) ?_
 refine oR (Lq rfl rfl (Uf e.at' x)) ?_
 refine oA rfl<|Ac<|n_K<|An ?_
 refine Aq (At Tryz.results207 (Ag rfl)) ?_ sP
 rfl
def O5 (S:Sto) (x:Pl2):Bool:=(decide ((S.last.ep.toNat:Int)>0) && plB x S.la) || (S.viewed && plB x S.va)
def Fg (m:Mp En) (x:Pl2):Bool:=m.es.any fun e=>plB e.v.at' x
def mb (S:Sto) (i:Nat):Nat:=if i=0 then S.ib else S.pb
def mm (S:Sto) (i:Nat):Mp En:=if i=0 then S.idx else S.pend
theorem Aeg {S:Sto} {i:Nat} (hi:i<2) {H:Hp} (h1:(S.ib,true,S.idx.obj .i64)∈H) (h2:(S.pb,true,S.pend.obj .i64)∈H):(mb S i,true,(mm S i).obj .i64)∈H:=by
 have:i=0∨i=1:=by omega
 rcases this with rfl | rfl
 ·exact h1
 ·exact h2
theorem Aeh {m:Mp En} {x:Pl2} (h:∀ e∈m.es,plB e.v.at' x=false):Fg m x=false:=by
 unfold Fg
 rw [List.any_eq_false]
 intro e he
 rw [h e he];decide
theorem Abv {m:Mp En} {x:Pl2} {e:Me En} (he:e∈m.es) (h:plB e.v.at' x=true):Fg m x=true:=A04.2 ⟨e,he,h⟩
theorem Qm {S:Sto} {x:Pl2}:Does Tryz.prog 162 [ptr S.st,.agg #[.int .i64 x.1,.int .i64 x.2]] ((S.st,true,C (stC S) tSt)::(S.ib,true,S.idx.obj .i64)::(S.pb,true,S.pend.obj .i64)::[])
  (Is (.bool (O5 S x || Fg S.idx x || Fg S.pend x)) ((S.st,true,C (stC S) tSt)::(S.ib,true,S.idx.obj .i64)::(S.pb,true,S.pend.obj .i64)::[])):=by
 refine Ah (n:=61) Tryz.func162 Tryz.ntmps162 rfl (Ay9 rfl)<|Ad<|Aa fun ops=> ?_
 refine De rfl rfl fun b3=> ?_
 refine oA rfl<|Ac<|n_K<|Ad<|Aa fun ops=>oR (Oh rfl)<|oA rfl<|Ac<|n_K<|Ad<|Ad ?_
 refine s_draw [(6,17),(14,25),(19,30)] [(28,[(0,false),(1,false),(2,false),(3,false),(4,false),(5,false),(6,false),(7,false),(8,false),(9,false),(10,false),(11,false),(12,false),(13,false),(14,false),(15,false),(16,false),(17,false),(18,false),(19,false),(20,false),(21,false),(22,false),(23,false),(24,false),(25,false),(26,false),(27,false)])] (by kernel_rfl) rfl fun ops w0 H0 y=> ?_
 refine A4<|xM rfl<|xN rfl<|xF rfl<|xF rfl ?_
 refine xR (Al rfl mM rfl) ?_
 refine xR (Ae rfl rfl rfl)<|xM rfl ?_
 refine' Hx (j:=6) (k:=6) y rfl rfl rfl rfl rfl rfl rfl (fun hg17=> ?_) ?_
 rotate_left
 ·try (simp at hg17;show _)
  refine x_g y rfl rfl ?_
  refine xR (Au rfl mM rfl) ?_
  refine x_g y rfl rfl ?_
  refine xM rfl ?_
  refine x_g y rfl rfl ?_
  refine xN rfl ?_
  refine x_g y rfl rfl ?_
  refine xF rfl ?_
  refine x_g y rfl rfl ?_
  refine xR (Au rfl mM (Yx rfl)) ?_
  refine x_g y rfl rfl ?_
  refine xR (Lq rfl rfl (Uf x S.la)) ?_
  exact Am ⟨rfl,⟨_,sP⟩⟩
 refine xM rfl ?_
 refine' Qa (j:=14) (k:=12) y rfl rfl rfl rfl rfl rfl rfl (fun hg25=> ?_) ?_
 rotate_left
 ·try (simp at hg25;show _)
  refine x_g y rfl rfl ?_
  refine xM rfl ?_
  refine x_g y rfl rfl ?_
  refine xN rfl ?_
  refine x_g y rfl rfl ?_
  refine xF rfl ?_
  refine x_g y rfl rfl ?_
  refine xR (Al rfl mM (Iv rfl)) ?_
  refine x_g y rfl rfl ?_
  refine xM rfl ?_
  refine' Hx (j:=19) (k:=6) y rfl rfl rfl rfl rfl rfl rfl (fun hg30=> ?_) ?_
  rotate_left
  ·try (simp at hg30;show _)
   refine x_g y rfl rfl ?_
   refine xR (Au rfl mM rfl) ?_
   refine x_g y rfl rfl ?_
   refine xM rfl ?_
   refine x_g y rfl rfl ?_
   refine xN rfl ?_
   refine x_g y rfl rfl ?_
   refine xF rfl ?_
   refine x_g y rfl rfl ?_
   refine xR (Au rfl mM (Yx rfl)) ?_
   refine x_g y rfl rfl ?_
   refine xR (Lq rfl rfl (Uf x S.va)) ?_
   exact Am ⟨rfl,⟨_,sP⟩⟩
  exact Am ⟨rfl,⟨_,sP⟩⟩
 refine Am<|Bm<|n_K ?_
 refine Aj rfl (fun c38=> ?_) (fun c38=> ?_)
 ·skip
  have hB:O5 S x=true:=c38
  refine Ad<|Aa fun ops=>oA rfl<|Ac<|n_K<|An<|r_K ?_
  refine Aq (At Tryz.results162 (Ag rfl)) ?_ sP
  rw [hB];rfl
 ·skip
  have hB:O5 S x=false:=c38
  refine Ai<|n_K<|Ad<|Ad ?_
  refine s_draw [] [(10,[(0,false),(1,false),(2,false),(3,false),(4,false),(5,false),(6,false),(7,false),(8,false),(9,false)])] (by kernel_rfl) rfl fun ops w0 H0 y=> ?_
  refine A4<|xM rfl<|xN rfl<|xF rfl ?_
  refine xR (Al rfl mM rfl) ?_
  refine xM rfl<|xN rfl<|xF rfl ?_
  refine xR (Al rfl mM rfl) ?_
  refine xR (Nf rfl rfl)<|xM rfl<|Am<|Bm<|n_K<|Ak ?_
  refine A8 [0,3,5,47] kQ (fun (i:Nat)=>[(48,.int .i64 i)]) (fun (i:Nat)=>(b3,true,C [.int .i64 x.1,.int .i64 x.2] tPc)::(S.st,true,C (stC S) tSt)::(S.ib,true,S.idx.obj .i64)::(S.pb,true,S.pend.obj .i64)::[]) (fun (i:Nat)=>i≤2∧∀ j<i,Fg (mm S j) x=false) (fun (i:Nat)=>2 - i) (0) ⟨A2r _,fun j hj=>by cases hj⟩ kP sP ?_
  rintro i ⟨g0,g1⟩
  refine Ad<|Aa fun ops=>oR (Ae rfl rfl rfl)<|Ac<|n_K<|Ad ?_
  refine Aj rfl (fun c49=> ?_) (fun c49=> ?_)
  ·simp only [A0d,Ayz] at c49
   have hi:i<2:=(by omega)
   refine Ai<|n_K<|Ad<|Ak<|Ad<|Aa fun ops=> ?_
   refine oR (Alm (v:= .map (some (mb S i))) rfl rfl (by omega) (by have:i=0∨i=1:=(by omega);rcases this with rfl | rfl <;> rfl)) ?_
   refine oA rfl<|Ac<|n_K<|Ad<|Aa fun ops=>oM rfl ?_
   refine Ip (m:=mm S i) (kd:= .i64) rfl (Aeg hi mM mM) rfl fun it52=> ?_
   refine Ac<|n_K<|Ak ?_
   refine A8 [0,3,5,47,48,52] kQ (fun (seen:List Nat)=>[]) (fun (seen:List Nat)=>(it52,true,itO (mb S i) (mm S i).cl seen (mm S i).cl)::(b3,true,C [.int .i64 x.1,.int .i64 x.2] tPc)::(S.st,true,C (stC S) tSt)::(S.ib,true,S.idx.obj .i64)::(S.pb,true,S.pend.obj .i64)::[]) (fun (seen:List Nat)=>∀ e∈(mm S i).es,e.n∈seen→plB e.v.at' x=false) (fun (seen:List Nat)=>Hw (mm S i) seen) ([]) (fun e _ h=>by cases h) kP sP ?_
   rintro seen hs
   refine Ad<|Aa fun ops=> ?_
   refine Ki rfl (by repeat (first | exact Pick.here | apply Pick.there | apply Pick.app)) (Aeg hi mM mM) (Mp.wc _) (A2q _) rfl (fun hl53=> ?_) (fun e53 he53 hn53=> ?_)
   ·refine oE rfl rfl<|Ac<|n_K<|Ad ?_
    refine Bi rfl ?_
    refine Bb<|x_K<|x_K<|Bj<|Az<|n_K<|Aa fun ops=> ?_
    refine oR (Ao rfl rfl (by omega)) ?_
    refine oM rfl<|Ac<|n_K ?_
    exact ⟨i+1,⟨by omega,fun j hj=>by by_cases h:j=i;(subst h;exact Aeh fun e he=>hs e he (Ib hl53 e he));exact g1 j (by omega)⟩,(by omega),lZ⟩
   ·refine oE rfl rfl<|Ac<|n_K<|Ad ?_
    refine F1 rfl ?_
    refine Ai<|n_K<|Ak<|Ad<|Aa fun ops=> ?_
    refine oR (Iq rfl mM (Aeg hi mM mM) he53) ?_
    refine oE rfl rfl ?_
    refine Aw rfl fun b9=> ?_
    refine Af rfl rfl uD rfl rfl rfl ?_
    refine Ac<|n_K<|Ad<|Aa fun ops=>oM rfl ?_
    refine oR (Au rfl mM rfl) ?_
    refine S8 (fi:=[]) (ca:=[ptr b3]) rfl rfl (Aef (e:=e53.v) (b:=b3) (x:=x)) sP rfl aQ ?_
    refine Ac<|n_K ?_
    refine Aj rfl (fun c59=> ?_) (fun c59=> ?_)
    ·skip
     have hM:=Abv he53 c59
     refine Ad<|Aa fun ops=>oA rfl<|Ac<|n_K<|An<|Bn<|r_K<|Bn<|Bn<|r_K<|r_K<|Bn<|r_K ?_
     refine Aq (At Tryz.results162 (Ag rfl)) ?_ sP
     have hc:Fg S.idx x=true∨Fg S.pend x=true:=(by have:i=0∨i=1:=(by omega);rcases this with rfl | rfl;exact .inl hM;exact .inr hM);rcases hc with h | h <;> rw [h] <;> simp
    ·skip
     refine Ai<|Az<|n_K ?_
     exact ⟨seen++[e53.n],(fun e he h=>by rcases A1d.1 h with h | h;exact hs e he h;(have:=Azy.1 h;rw [Mp.n_inj he he53 this];exact c59)),(Da he53 hn53),lZ⟩
  ·simp only [A0d,Ayz] at c49
   have hi:i=2:=(by omega)
   subst hi
   refine Bb<|x_K<|x_K<|Bj<|n_K<|Ad<|Aa fun ops=>oA rfl<|Ac<|n_K<|An ?_
   refine Aq (At Tryz.results162 (Ag rfl)) ?_ sP
   rw [hB,show Fg S.idx x=false from g1 0 (by omega),show Fg S.pend x=false from g1 1 (by omega)];rfl
end
section
open Go.K
instance fld124_1:Fld Tryz.prog 124 1 2:=⟨⟨_,_,0,Tryz.underlying124,rfl,by kernel_rfl,rfl⟩⟩
instance plc124:Plc Tryz.prog 124 [(0,2),(2,1)]:=⟨⟨_,Tryz.underlying124,fun _=>by kernel_rfl⟩⟩
instance ent164:Ent Tryz.prog 164:=⟨fun _ _=>by kernel_rfl⟩
def mvE (f t:Pl2) (e:En):En:=if plB e.at' f=true then ⟨t,e.ep⟩ else e
def Yy (S:Sto) (f t:Pl2):Sto:={ S with la:=if (decide ((S.last.ep.toNat:Int)>0) && plB S.la f)=true then t else S.la }
def Yz (S:Sto) (f t:Pl2):Sto:={ S with va:=if (S.viewed && plB S.va f)=true then t else S.va }
def Dd (S:Sto) (f t:Pl2):Sto:={ Yz (Yy S f t) f t with idx:=S.idx.mapV (mvE f t),pend:=S.pend.mapV (mvE f t) }
def sel (i:Nat) (X Y:Mp En):Mp En:=if i=0 then X else Y
def pX (i:Nat) (m X:Mp En):Mp En:=if i=0 then m else X
def pY (i:Nat) (m Y:Mp En):Mp En:=if i=0 then Y else m
theorem Y0 {S:Sto} {i:Nat} {X Y:Mp En} (hi:i<2) {H:Hp} (h1:(S.ib,true,X.obj .i64)∈H) (h2:(S.pb,true,Y.obj .i64)∈H):(mb S i,true,(sel i X Y).obj .i64)∈H:=by
 have:i=0∨i=1:=by omega
 rcases this with rfl | rfl
 ·exact h1
 ·exact h2
theorem Abw {b:Nat} {o:Obj} {H K:Hp} (h:Upd b o o H K):K=H:=by
 generalize e:o=o' at h
 induction h with
 | here=>subst e;rfl
 | there _ ih=>rw [ih]
theorem Arr {S:Sto} {i:Nat} {X Y m:Mp En} (hi:i<2) {H K G:Hp} (h1:Upd S.ib (X.obj .i64) ((pX i m X).obj .i64) H K) (h2:Upd S.pb (Y.obj .i64) ((pY i m Y).obj .i64) K G):Upd (mb S i) ((sel i X Y).obj .i64) (m.obj .i64) H G:=by
 have:i=0∨i=1:=by omega
 rcases this with rfl | rfl
 ·have:=Abw h2
  subst this
  exact h1
 ·have:=Abw h1
  subst this
  exact h2
theorem Agc {f t:Pl2} {e:En} (h:plB e.at' f=true):mvE f t e=⟨t,e.ep⟩:=A25 h
theorem Ana {f t:Pl2} {e:En} (h:plB e.at' f=false):mvE f t e=e:=A26 (by rw [h];decide)
def MvI (S:Sto) (g:En→En) (i:Nat) (X Y:Mp En):Prop:=X=(if 0<i then S.idx.mapV g else S.idx)∧Y=if 1<i then S.pend.mapV g else S.pend
def MvJ (S:Sto) (g:En→En) (i:Nat) (seen:List Nat) (X Y:Mp En):Prop:=(i=0→X=S.idx.upS g seen∧Y=S.pend)∧(i=1→X=S.idx.mapV g∧Y=S.pend.upS g seen)
theorem MvJ.sel {S:Sto} {g:En→En} {i:Nat} {seen:List Nat} {X Y:Mp En} (h:MvJ S g i seen X Y) (hi:i<2):sel i X Y=(mm S i).upS g seen:=by
 have:i=0∨i=1:=by omega
 rcases this with rfl | rfl
 ·exact (h.1 rfl).1
 ·exact (h.2 rfl).2
theorem MvI.start {S:Sto} {g:En→En} {i:Nat} {X Y:Mp En} (h:MvI S g i X Y) (hi:i<2):MvJ S g i [] X Y:=by
 obtain ⟨rfl,rfl⟩:=h
 refine ⟨fun e=> ?_,fun e=> ?_⟩ <;> subst e <;> refine ⟨?_,?_⟩
 ·rw [Mp.upS_nil];rfl
 ·rfl
 ·rfl
 ·rw [Mp.upS_nil];rfl
theorem MvJ.done {S:Sto} {g:En→En} {i:Nat} {seen:List Nat} {X Y:Mp En} (h:MvJ S g i seen X Y) (hi:i<2) (hl:Gr (Go.Proofs.YtpmojdippdlcaaaGreatDoor.sel i X Y) seen=[]):MvI S g (i+1) X Y:=by
 rw [h.sel hi] at hl
 have ha:=Mp.upS_all (f:=g) (Mp.upS_left hl)
 have:i=0∨i=1:=by omega
 rcases this with rfl | rfl
 ·obtain ⟨rfl,rfl⟩:=h.1 rfl
  exact ⟨ha,rfl⟩
 ·obtain ⟨rfl,rfl⟩:=h.2 rfl
  exact ⟨rfl,ha⟩
theorem MvJ.put {S:Sto} {g:En→En} {i:Nat} {seen:List Nat} {X Y:Mp En} {e:Me En} {v:En} (h:MvJ S g i seen X Y) (hi:i<2) (he:e∈(Go.Proofs.YtpmojdippdlcaaaGreatDoor.sel i X Y).es) (hn:e.n∉seen) (hv:v=g e.v) :
  MvJ S g i (seen++[e.n]) (pX i ((Go.Proofs.YtpmojdippdlcaaaGreatDoor.sel i X Y).put e.k v) X) (pY i ((Go.Proofs.YtpmojdippdlcaaaGreatDoor.sel i X Y).put e.k v) Y):=by
 have hs:=h.sel hi
 rw [hs] at he
 have he':=Mp.upS_mem he hn
 have hp:(Go.Proofs.YtpmojdippdlcaaaGreatDoor.sel i X Y).put e.k v=(mm S i).upS g (seen++[e.n]):=by
  rw [hs,hv];exact Mp.upS_put he' hn
 rw [hp]
 have:i=0∨i=1:=by omega
 rcases this with rfl | rfl
 ·exact ⟨fun _=>⟨rfl,(h.1 rfl).2⟩,fun e=>(nomatch e)⟩
 ·exact ⟨fun e=>(nomatch e),fun _=>⟨(h.2 rfl).1,rfl⟩⟩
theorem MvJ.skip {S:Sto} {g:En→En} {i:Nat} {seen:List Nat} {X Y:Mp En} {e:Me En} (h:MvJ S g i seen X Y) (hi:i<2) (he:e∈(Go.Proofs.YtpmojdippdlcaaaGreatDoor.sel i X Y).es) (hn:e.n∉seen) (hv:g e.v=e.v):MvJ S g i (seen++[e.n]) X Y:=by
 have hs:=h.sel hi
 rw [hs] at he
 have he':=Mp.upS_mem he hn
 have hk:=Mp.upS_skip (seen:=seen) he' hv
 have:i=0∨i=1:=by omega
 rcases this with rfl | rfl
 ·obtain ⟨rfl,rfl⟩:=h.1 rfl
  exact ⟨fun _=>⟨hk.symm,rfl⟩,fun e=>(nomatch e)⟩
 ·obtain ⟨rfl,rfl⟩:=h.2 rfl
  exact ⟨fun e=>(nomatch e),fun _=>⟨rfl,hk.symm⟩⟩
theorem MvJ.mem {S:Sto} {g:En→En} {i:Nat} {seen:List Nat} {X Y:Mp En} {e:Me En} (h:MvJ S g i seen X Y) (hi:i<2) (he:e∈(Go.Proofs.YtpmojdippdlcaaaGreatDoor.sel i X Y).es) (hn:e.n∉seen):e∈(mm S i).es:=by
 rw [h.sel hi] at he
 exact Mp.upS_mem he hn
theorem MvJ.cl {S:Sto} {g:En→En} {i:Nat} {seen:List Nat} {X Y:Mp En} (h:MvJ S g i seen X Y) (hi:i<2):(Go.Proofs.YtpmojdippdlcaaaGreatDoor.sel i X Y).cl=(mm S i).cl:=by rw [h.sel hi];rfl
theorem Anb {S:Sto} {f t:Pl2} {S2:Sto} (hS2:S2=Dd S f t):Does Tryz.prog 164 [ptr S.st,.agg #[.int .i64 f.1,.int .i64 f.2],.agg #[.int .i64 t.1,.int .i64 t.2]] ((S.st,true,C (stC S) tSt)::(S.ib,true,S.idx.obj .i64)::(S.pb,true,S.pend.obj .i64)::[])
  (Is (.tuple #[]) ((S2.st,true,C (stC S2) tSt)::(S2.ib,true,S2.idx.obj .i64)::(S2.pb,true,S2.pend.obj .i64)::[])):=by
 obtain ⟨S1,hS1⟩:∃ S1,S1=Yy S f t:=⟨_,rfl⟩
 obtain ⟨S0,hS0⟩:∃ S0,S0=Yz S1 f t:=⟨_,rfl⟩
 refine Ah (n:=74) Tryz.func164 Tryz.ntmps164 rfl (Ay9 rfl)<|Ad<|Aa fun ops=> ?_
 refine De rfl rfl fun b4=> ?_
 refine De rfl rfl fun b5=> ?_
 refine Ac<|n_K ?_
 refine P4 (fun F L=>F=[(0,ptr S.st),(4,ptr b4),(5,ptr b5)]∧L=(b5,true,C [.int .i64 t.1,.int .i64 t.2] tPc)::(b4,true,C [.int .i64 f.1,.int .i64 f.2] tPc)::(S1.st,true,C (stC S1) tSt)::(S1.ib,true,S1.idx.obj .i64)::(S1.pb,true,S1.pend.obj .i64)::[]) ?_ ?_
 ·refine Ad ?_
  refine s_draw [(6,16)] [(14,[(0,false),(1,false),(2,false),(3,false),(4,false),(5,false),(6,false),(7,false),(8,false),(9,false),(10,false),(11,false),(12,false),(13,false)])] (by kernel_rfl) rfl fun ops w0 H0 y=> ?_
  refine A4<|xM rfl<|xN rfl<|xF rfl<|xF rfl ?_
  refine xR (Al rfl mM rfl) ?_
  refine xR (Ae rfl rfl rfl)<|xM rfl ?_
  refine' Hx (j:=6) (k:=6) y rfl rfl rfl rfl rfl rfl rfl (fun hg16=> ?_) ?_
  rotate_left
  ·try (simp at hg16;show _)
   refine x_g y rfl rfl ?_
   refine xM rfl ?_
   refine x_g y rfl rfl ?_
   refine xN rfl ?_
   refine x_g y rfl rfl ?_
   refine xF rfl ?_
   refine x_g y rfl rfl ?_
   refine xR (Au rfl mM (Yx rfl)) ?_
   refine x_g y rfl rfl ?_
   refine xR (Au rfl mM rfl) ?_
   refine x_g y rfl rfl ?_
   refine xR (Lq rfl rfl (Uf S.la f)) ?_
   exact Am ⟨rfl,⟨_,sP⟩⟩
  refine Am<|Bm<|n_K ?_
  refine Aj rfl (fun c23=> ?_) (fun c23=> ?_)
  ·skip
   have e1:S1={ S with la:=t }:=(by rw [hS1];unfold Yy;rw [A25 c23])
   subst e1
   refine Aa fun ops=>oM rfl ?_
   refine oR (Au rfl mM rfl) ?_
   refine oN rfl<|oF rfl ?_
   refine Af (cs':=stC { S with la:=t }) rfl rfl uD rfl rfl (Ds (S:=S) rfl rfl) ?_
   refine Ac<|n_K ?_
   exact ⟨_,_,⟨rfl,rfl⟩,jZ⟩
  ·skip
   have e1:S1=S:=(by rw [hS1];unfold Yy;rw [A26 (by rw [c23];decide)])
   subst e1
   refine Ai<|n_K ?_
   exact ⟨_,_,⟨rfl,rfl⟩,jZ⟩
 ·rintro F L ⟨rfl,rfl⟩
  have est:S1.st=S.st:=(by rw [hS1];rfl)
  rw [← est]
  refine P4 (fun F L=>F=[(0,ptr S1.st),(4,ptr b4),(5,ptr b5)]∧L=(b5,true,C [.int .i64 t.1,.int .i64 t.2] tPc)::(b4,true,C [.int .i64 f.1,.int .i64 f.2] tPc)::(S0.st,true,C (stC S0) tSt)::(S0.ib,true,S0.idx.obj .i64)::(S0.pb,true,S0.pend.obj .i64)::[]) ?_ ?_
  ·refine Ad ?_
   refine s_draw [(4,32)] [(12,[(0,false),(1,false),(2,false),(3,false),(4,false),(5,false),(6,false),(7,false),(8,false),(9,false),(10,false),(11,false)])] (by kernel_rfl) rfl fun ops w0 H0 y=> ?_
   refine A4<|xM rfl<|xN rfl<|xF rfl ?_
   refine xR (Al rfl mM (Iv rfl)) ?_
   refine xM rfl ?_
   refine' Hx (j:=4) (k:=6) y rfl rfl rfl rfl rfl rfl rfl (fun hg32=> ?_) ?_
   rotate_left
   ·try (simp at hg32;show _)
    refine x_g y rfl rfl ?_
    refine xM rfl ?_
    refine x_g y rfl rfl ?_
    refine xN rfl ?_
    refine x_g y rfl rfl ?_
    refine xF rfl ?_
    refine x_g y rfl rfl ?_
    refine xR (Au rfl mM (Yx rfl)) ?_
    refine x_g y rfl rfl ?_
    refine xR (Au rfl mM rfl) ?_
    refine x_g y rfl rfl ?_
    refine xR (Lq rfl rfl (Uf S1.va f)) ?_
    exact Am ⟨rfl,⟨_,sP⟩⟩
   refine Am<|Bm<|n_K ?_
   refine Aj rfl (fun c39=> ?_) (fun c39=> ?_)
   ·skip
    have e1:S0={ S1 with va:=t }:=(by rw [hS0];unfold Yz;rw [A25 c39])
    subst e1
    refine Aa fun ops=>oM rfl ?_
    refine oR (Au rfl mM rfl) ?_
    refine oN rfl<|oF rfl ?_
    refine Af (cs':=stC { S1 with va:=t }) rfl rfl uD rfl rfl (Ds (S:=S1) rfl rfl) ?_
    refine Ac<|n_K ?_
    exact ⟨_,_,⟨rfl,rfl⟩,jZ⟩
   ·skip
    have e1:S0=S1:=(by rw [hS0];unfold Yz;rw [A26 (by rw [c39];decide)])
    subst e1
    refine Ai<|n_K ?_
    exact ⟨_,_,⟨rfl,rfl⟩,jZ⟩
  ·rintro F L ⟨rfl,rfl⟩
   have est0:S0.st=S1.st:=(by rw [hS0];rfl)
   rw [← est0]
   refine Ad ?_
   refine s_draw [] [(10,[(0,false),(1,false),(2,false),(3,false),(4,false),(5,false),(6,false),(7,false),(8,false),(9,false)])] (by kernel_rfl) rfl fun ops w0 H0 y=> ?_
   refine A4<|xM rfl<|xN rfl<|xF rfl ?_
   refine xR (Al rfl mM rfl) ?_
   refine xM rfl<|xN rfl<|xF rfl ?_
   refine xR (Al rfl mM rfl) ?_
   refine xR (Nf rfl rfl)<|xM rfl<|Am<|Bm<|n_K<|Ak ?_
   refine A8 [4,5,52] kQ (fun (st:Nat×Mp En×Mp En)=>[(53,.int .i64 st.1)]) (fun (st:Nat×Mp En×Mp En)=>(b5,true,C [.int .i64 t.1,.int .i64 t.2] tPc)::(b4,true,C [.int .i64 f.1,.int .i64 f.2] tPc)::(S0.st,true,C (stC S0) tSt)::(S0.ib,true,st.2.1.obj .i64)::(S0.pb,true,st.2.2.obj .i64)::[]) (fun (st:Nat×Mp En×Mp En)=>st.1≤2∧MvI S0 (mvE f t) st.1 st.2.1 st.2.2) (fun (st:Nat×Mp En×Mp En)=>2 - st.1) ((0,S0.idx,S0.pend)) ⟨A2r _,rfl,rfl⟩ kP sP ?_
   rintro ⟨i,X,Y⟩ ⟨g0,gI⟩
   simp only at g0 gI
   refine Ad<|Aa fun ops=>oR (Ae rfl rfl rfl)<|Ac<|n_K<|Ad ?_
   refine Aj rfl (fun c54=> ?_) (fun c54=> ?_)
   ·simp only [A0d,Ayz] at c54
    have hi:i<2:=(by omega)
    have hJ0:=gI.start hi
    have hcl0:=hJ0.cl hi
    refine Ai<|n_K<|Ad<|Ak<|Ad<|Aa fun ops=> ?_
    refine oR (Alm (v:= .map (some (mb S0 i))) rfl rfl (by omega) (by have:i=0∨i=1:=(by omega);rcases this with rfl | rfl <;> rfl)) ?_
    refine oA rfl<|Ac<|n_K<|Ad<|Aa fun ops=>oM rfl ?_
    refine Ip (m:=sel i X Y) (kd:= .i64) rfl (Y0 hi mM mM) rfl fun it57=> ?_
    refine Ac<|n_K<|Ak ?_
    refine A8 [4,5,7,52,53,57] kQ (fun (st:List Nat×Mp En×Mp En)=>[]) (fun (st:List Nat×Mp En×Mp En)=>(it57,true,itO (mb S0 i) (mm S0 i).cl st.1 (mm S0 i).cl)::(b5,true,C [.int .i64 t.1,.int .i64 t.2] tPc)::(b4,true,C [.int .i64 f.1,.int .i64 f.2] tPc)::(S0.st,true,C (stC S0) tSt)::(S0.ib,true,st.2.1.obj .i64)::(S0.pb,true,st.2.2.obj .i64)::[]) (fun (st:List Nat×Mp En×Mp En)=>MvJ S0 (mvE f t) i st.1 st.2.1 st.2.2) (fun (st:List Nat×Mp En×Mp En)=>Hw (mm S0 i) st.1) (([],X,Y)) hJ0 kP (by rw [hcl0];exact sP) ?_
    rintro ⟨seen,X,Y⟩ gJ
    simp only at gJ
    have hcl:=gJ.cl hi
    refine Ad<|Aa fun ops=> ?_
    refine Ki rfl (by repeat (first | exact Pick.here | apply Pick.there | apply Pick.app)) (Y0 hi mM mM) (by rw [← hcl];exact Mp.wc _) (A2q _) rfl (fun hl58=> ?_) (fun e58 he58 hn58=> ?_)
    ·refine oE rfl rfl<|Ac<|n_K<|Ad ?_
     refine Bi rfl ?_
     refine Bb<|x_K<|x_K<|Bj<|Az<|n_K<|Aa fun ops=> ?_
     refine oR (Ao rfl rfl (by omega)) ?_
     refine oM rfl<|Ac<|n_K ?_
     exact ⟨(i+1,X,Y),⟨by simp only;omega,gJ.done hi hl58⟩,(by simp only;omega),lZ⟩
    ·refine oE rfl rfl<|Ac<|n_K<|Ad ?_
     refine F1 rfl ?_
     refine Ai<|n_K<|Ak<|Ad<|Aa fun ops=> ?_
     refine oR (Iq rfl mM (Y0 hi mM mM) he58) ?_
     refine oE rfl rfl<|oE rfl rfl ?_
     refine Aw rfl fun b9=> ?_
     refine oA rfl ?_
     refine Af rfl rfl uD rfl rfl rfl ?_
     refine Ac<|n_K<|Ad<|Aa fun ops=>oF rfl ?_
     refine oR (Au rfl mM rfl) ?_
     refine oR (Au rfl mM rfl) ?_
     refine oR (Lq rfl rfl (Uf e58.v.at' f)) ?_
     refine Ac<|n_K ?_
     refine Aj rfl (fun c66=> ?_) (fun c66=> ?_)
     ·skip
      refine Aa fun ops=>oM rfl<|oM rfl ?_
      refine oR (Au rfl mM rfl) ?_
      refine oF rfl ?_
      refine oR (Al rfl mM rfl) ?_
      refine oR (Bc rfl rfl) ?_
      refine V4 (m:=sel i X Y) (v:=(⟨t,e58.v.ep⟩:En)) (kd:= .i64) rfl rfl rfl (Arr hi uD uD) ?_
      refine Ac<|Az<|n_K ?_
      rw [hcl]
      first | exact ⟨(seen++[e58.n],_,_),gJ.put hi he58 hn58 (Agc c66).symm,Da (gJ.mem hi he58 hn58) hn58,lZ⟩ | exact ⟨(seen++[e58.n],X,Y),gJ.skip hi he58 hn58 (Ana c66),Da (gJ.mem hi he58 hn58) hn58,lZ⟩
     ·skip
      refine Ai<|Az<|n_K ?_
      rw [hcl]
      first | exact ⟨(seen++[e58.n],_,_),gJ.put hi he58 hn58 (Agc c66).symm,Da (gJ.mem hi he58 hn58) hn58,lZ⟩ | exact ⟨(seen++[e58.n],X,Y),gJ.skip hi he58 hn58 (Ana c66),Da (gJ.mem hi he58 hn58) hn58,lZ⟩
   ·simp only [A0d,Ayz] at c54
    have hi:i=2:=(by omega)
    subst hi
    refine Bb<|x_K<|x_K<|Bj ?_
    refine Lp (Ml Tryz.results164) ?_ (by obtain ⟨rfl,rfl⟩:=gI;rw [hS2,show Dd S f t={ S0 with idx:=S0.idx.mapV (mvE f t),pend:=S0.pend.mapV (mvE f t) } from by rw [hS0,hS1];rfl];exact sP)
    rfl
end
section
open Go.K
instance und269:Und Tryz.prog 269 (.slice 271):=⟨Tryz.underlying269⟩
instance agg271:Agg Tryz.prog 271 true:=⟨⟨_,Tryz.underlying271,rfl⟩⟩
instance siz271:Siz Tryz.prog 271 5:=⟨by kernel_rfl⟩
instance zer271:Zer Tryz.prog 271 ([.int .i64 0,.int .u64 0,.int .u64 0,.slice none 0 0,.int .i64 0]):=⟨by kernel_rfl⟩
instance fld157_0:Fld Tryz.prog 157 0 0:=⟨⟨_,_,0,Tryz.underlying157,rfl,by kernel_rfl,rfl⟩⟩
instance fld157_2:Fld Tryz.prog 157 2 2:=⟨⟨_,_,0,Tryz.underlying157,rfl,by kernel_rfl,rfl⟩⟩
instance fld271_0:Fld Tryz.prog 271 0 0:=⟨⟨_,_,3,Tryz.underlying271,rfl,by kernel_rfl,rfl⟩⟩
instance fld271_1:Fld Tryz.prog 271 1 4:=⟨⟨_,_,0,Tryz.underlying271,rfl,by kernel_rfl,rfl⟩⟩
instance ent65:Ent Tryz.prog 65:=⟨fun _ _=>by kernel_rfl⟩
instance ent193:Ent Tryz.prog 193:=⟨fun _ _=>by kernel_rfl⟩
instance ent220:Ent Tryz.prog 220:=⟨fun _ _=>by kernel_rfl⟩
instance ent221:Ent Tryz.prog 221:=⟨fun _ _=>by kernel_rfl⟩
instance ent237:Ent Tryz.prog 237:=⟨fun _ _=>by kernel_rfl⟩
instance ent238:Ent Tryz.prog 238:=⟨fun _ _=>by kernel_rfl⟩
def Hy (n:Int):Int:=max 0 ((min (max n 0) 1099511627776 - 3)*3 - 2)
theorem Anc {n:Int}:Does Tryz.prog 65 [.int .i64 n] [] (Is (.int .i64 (Hy n)) []):=by
 refine Ah (n:=10) Tryz.func65 Tryz.ntmps65 rfl (Ay9 rfl)<|Ad<|Aa fun ops=>oA rfl<|Ac<|n_K<|Ad<|Aa fun ops=>oM rfl<|oR (Ln rfl rfl)<|oR (X8 rfl rfl) ?_
 refine oR (Cy rfl rfl (by omega)) ?_
 refine oR (To rfl rfl (by omega)) ?_
 refine oR (Cy rfl rfl (by omega)) ?_
 refine oR (Ln rfl rfl)<|oA rfl<|Ac<|n_K<|An ?_
 refine Aq (At Tryz.results65 (Ag rfl)) ?_ sP
 rfl
structure Ldv where
 s:Seg
 c:Int
def ldC (x:Ldv):List Value:=[.int .i64 x.s.b,wv x.s.seq,wv x.s.wear,x.s.recs.val,.int .i64 x.c]
instance:Cel Ldv:=⟨5,ldC,fun _=>rfl,fun _=>rfl⟩
abbrev tLd:TypeId:=271
def ld0:Ldv:=⟨sg0,0⟩
def Jf (xs:List Ldv) (i:Nat):Ldv:=xs.getD i ld0
theorem O6 {xs:List Ldv} {i:Nat} (h1:i<xs.length):xs[i]? =some (Jf xs i):=by
 simp [Jf,Ayg,h1]
def Ug (x y:Int):Int:=if x<y then -1 else if y<x then 1 else 0
theorem Agd {x:Int}:Does Tryz.prog 215 [.int .i64 x] [] (Is (.bool false) []):=by
 refine Ah (n:=6) Tryz.func215 Tryz.ntmps215 rfl (Ay9 rfl)<|Ad<|Aa fun ops=>oA rfl<|Ac<|n_K<|Ad<|Aa fun ops=>oM rfl<|oM rfl<|oR (Ae rfl rfl rfl)<|oA rfl<|Ac<|n_K ?_
 refine An ?_
 refine Aq (At Tryz.results215 (Ag rfl)) ?_ sP
 simp
theorem Rl {x y:Int}:Does Tryz.prog 238 [.int .i64 x,.int .i64 y] [] (Is (.int .i64 (Ug x y)) []):=by
 refine Ah (n:=20) Tryz.func238 Tryz.ntmps238 rfl (Ay9 rfl)<|Ad<|Aa fun ops=>oA rfl<|Ac<|n_K<|Ad<|Aa fun ops=>oM rfl ?_
 refine A6 rfl (Agd) sP rfl aQ ?_
 refine oA rfl<|Ac<|n_K<|Ad<|Aa fun ops=>oM rfl ?_
 refine A6 rfl (Agd) sP rfl aQ ?_
 refine oA rfl<|Ac<|n_K<|Ad<|Ad<|Aa fun ops=>oM rfl<|Ac<|n_K ?_
 refine Bi rfl ?_
 refine Ai<|n_K<|Ad<|Ad<|Aa fun ops=>oM rfl<|Ac<|n_K ?_
 refine Bi rfl ?_
 refine Ai<|n_K<|Ad<|Ad<|Aa fun ops=>oM rfl<|oM rfl<|oR (Ae rfl rfl rfl)<|Ac<|n_K ?_
 refine Aj rfl (fun c16=> ?_) (fun c16=> ?_)
 ·simp only [A0d,Ayz] at c16
  refine Ad<|Aa fun ops=>oA rfl<|Ac<|n_K<|An<|r_K ?_
  refine Aq (At Tryz.results238 (Ag rfl)) ?_ sP
  unfold Ug;first | rw [A25 (by omega)] | rw [A26 (by omega),A25 (by omega)] | rw [A26 (by omega),A26 (by omega)]
 ·simp only [A0d,Ayz] at c16
  refine Ai<|n_K<|Ad<|Ad<|Aa fun ops=>oM rfl<|oM rfl<|oR (Ae rfl rfl rfl)<|Ac<|n_K ?_
  refine Aj rfl (fun c19=> ?_) (fun c19=> ?_)
  ·simp only [A0d,Ayz] at c19
   refine Ad<|Aa fun ops=>oA rfl<|Ac<|n_K<|An<|r_K ?_
   refine Aq (At Tryz.results238 (Ag rfl)) ?_ sP
   unfold Ug;first | rw [A25 (by omega)] | rw [A26 (by omega),A25 (by omega)] | rw [A26 (by omega),A26 (by omega)]
  ·simp only [A0d,Ayz] at c19
   refine Ai<|n_K<|Ad<|Aa fun ops=>oA rfl<|Ac<|n_K<|An ?_
   refine Aq (At Tryz.results238 (Ag rfl)) ?_ sP
   unfold Ug;first | rw [A25 (by omega)] | rw [A26 (by omega),A25 (by omega)] | rw [A26 (by omega),A26 (by omega)]
def orF:List Int→Int
 | []=>0
 | x::xs=>if x=0 then orF xs else x
theorem Ane {xs:List Int} {i:Nat} {x:Int} (h:xs[i]? =some x):orF (xs.drop i)=if x=0 then orF (xs.drop (i+1)) else x:=by
 obtain ⟨h1,rfl⟩:=Aym.1 h
 rw [Ayq h1]
 rfl
theorem Awc {s:Sl Int} {T:TypeId}:Does Tryz.prog 237 [s.val] (s.hp T++[]) (Is (.int .i64 (orF s.list)) (s.hp T++[])):=by
 have hsm:=s.small
 refine Ah (n:=18) Tryz.func237 Tryz.ntmps237 rfl (Ay9 rfl)<|Ad<|Aa fun ops=>oA rfl<|Ac<|n_K<|Ad<|Aa fun ops=>oA rfl<|Ac<|n_K<|Ad<|Ad<|Aa fun ops=> ?_
 refine oM rfl<|oR (A7 rfl)<|oM rfl<|Ac<|n_K<|Ak ?_
 refine A8 [3,6,7] kQ (fun (i:Nat)=>[(8,.int .i64 i)]) (fun (i:Nat)=>(s.hp T++[])) (fun (i:Nat)=>i≤s.list.length∧orF s.list=orF (s.list.drop i)) (fun (i:Nat)=>s.list.length - i) (0) ⟨A2r _,rfl⟩ kP sP ?_
 rintro i ⟨g0,g1⟩
 refine Ad<|Aa fun ops=>oR (Ae rfl rfl rfl)<|Ac<|n_K<|Ad ?_
 refine Aj rfl (fun c9=> ?_) (fun c9=> ?_)
 ·simp only [A0d,Ayz] at c9
  obtain ⟨z,hg⟩:∃ z,s.list[i]? =some z:=⟨_,Ayw (by omega)⟩
  have hod:=Ane hg
  refine Ai<|n_K<|Ad<|Ak<|Ad<|Aa fun ops=> ?_
  refine oR (Bk rfl rfl (by omega)) ?_
  refine oR (C0 (o:=0) rfl pL hg rfl rfl) ?_
  refine oA rfl<|Ac<|n_K<|Ad<|Aa fun ops=>oM rfl<|oM rfl<|oR (Ae rfl rfl rfl)<|Ac<|n_K ?_
  refine Aj rfl (fun c14=> ?_) (fun c14=> ?_)
  ·skip
   have hz:z≠0:=(by simpa using c14)
   refine Ad<|Aa fun ops=>oM rfl<|oA rfl<|Ac<|n_K<|An<|Bn<|r_K<|r_K<|Bn<|r_K ?_
   refine Aq (At Tryz.results237 (Ag rfl)) ?_ sP
   rw [g1,hod,A26 hz]
  ·skip
   have hz:z=0:=(by simpa using c14)
   refine Ai<|Az<|n_K<|Aa fun ops=> ?_
   refine oR (Ao rfl rfl (by omega)) ?_
   refine oM rfl<|Ac<|n_K ?_
   exact ⟨i+1,⟨by omega,by rw [g1,hod,A25 hz]⟩,(by omega),lZ⟩
 ·simp only [A0d,Ayz] at c9
  have hi:i=s.list.length:=(by omega)
  subst hi
  refine Bb<|x_K<|x_K<|Bj<|n_K<|Ad<|Aa fun ops=>oM rfl<|oA rfl<|Ac<|n_K<|An ?_
  refine Aq (At Tryz.results237 (Ag rfl)) ?_ sP
  rw [g1,List.drop_length];rfl
theorem Aup {b:Nat} {x y z:Int}:Does Tryz.prog 237 [.slice (some ⟨b,0,none⟩) 3 3] [(b,true,C [.int .i64 x,.int .i64 y,.int .i64 z] tI)] (Is (.int .i64 (orF [x,y,z])) [(b,true,C [.int .i64 x,.int .i64 y,.int .i64 z] tI)]):=by
 have h:=Awc (s:= .own b [x,y,z] 3 [] ⟨by simp,A2q _,by simp⟩) (T:=tI)
 rw [Sl.hp_own] at h
 exact h
def Uh (x y:Ldv):Bool:=decide (orF [Ug x.c y.c,Z6 x.s.wear.toNat y.s.wear.toNat,Ug x.s.b y.s.b]<0)
theorem Anf {x y:Ldv}:Does Tryz.prog 221 [.agg (ldC x).toArray,.agg (ldC y).toArray] [] (Is (.bool (Uh x y)) []):=by
 refine Ah (n:=29) Tryz.func221 Tryz.ntmps221 rfl (Ay9 rfl)<|Ad<|Aa fun ops=> ?_
 refine De rfl rfl fun b2=> ?_
 refine De rfl rfl fun b3=> ?_
 refine oA rfl<|Ac<|n_K<|Ad ?_
 refine N7 [] [(7,(.fork [(0,false),(1,false),(2,false),(3,false)] 4 (.one [(5,true),(6,true)]) 5 (.one [(4,true),(6,true)]))),(8,(.one [(7,true)]))] (by kernel_rfl) rfl fun ops w0 H0 y=> ?_
 refine Le ?_
 refine Lf ?_ rfl
 refine xF rfl ?_
 refine xR (Au rfl mM rfl) ?_
 refine xF rfl ?_
 refine xR (Au rfl mM rfl) ?_
 refine Am ⟨⟨_,sP⟩,?_,?_⟩
 refine Be ?_
 refine Aw rfl fun b5=> ?_
 refine Ac ⟨rfl,⟨_,sP⟩,?_⟩
 refine Am ?_
 refine G1 ?_
 refine Be ?_
 refine Aw rfl fun b6=> ?_
 refine Ac ⟨rfl,⟨_,sP⟩,?_⟩
 refine Be ?_
 refine Af rfl rfl uD rfl rfl rfl ?_
 refine Ac ⟨rfl,⟨_,sP⟩,?_⟩
 refine Am ?_
 rotate_left
 refine Be ?_
 refine Aw rfl fun b6=> ?_
 refine Ac ⟨rfl,⟨_,sP⟩,?_⟩
 refine Am ?_
 refine G1 ?_
 refine Be ?_
 refine Aw rfl fun b5=> ?_
 refine Ac ⟨rfl,⟨_,sP⟩,?_⟩
 refine Be ?_
 refine Af rfl rfl uD rfl rfl rfl ?_
 refine Ac ⟨rfl,⟨_,sP⟩,?_⟩
 refine Am ?_
 rotate_left
 all_goals
  refine Afa ?_
  refine G1 ?_
  refine Be ?_
  refine Af rfl rfl uD rfl rfl rfl ?_
  refine Ac ⟨rfl,⟨_,sP⟩,?_⟩
  refine Am ?_
  refine S5 ?_
  refine n_K<|Ad ?_
  refine s_draw [] [(14,[(0,false),(1,false),(2,false),(3,false),(5,false),(6,false),(7,false),(8,false),(10,false),(11,false),(12,false),(13,false),(4,true),(9,true)]),(15,[(14,true)]),(16,[(15,true)]),(17,[(16,true)]),(19,[(17,false),(18,false)])] (by kernel_rfl) rfl fun ops w0 H0 y=> ?_
  refine A4<|xF rfl ?_
  refine xR (Al rfl mM rfl) ?_
  refine xF rfl ?_
  refine xR (Al rfl mM rfl) ?_
  refine xF rfl ?_
  refine xR (Al rfl mM rfl) ?_
  refine xF rfl ?_
  refine xR (Al rfl mM rfl) ?_
  refine xF rfl ?_
  refine xR (Al rfl mM rfl) ?_
  refine xF rfl ?_
  refine xR (Al rfl mM rfl) ?_
  refine Be ?_
  refine A6 rfl (Rl) sP rfl aQ ?_
  refine Ac ⟨rfl,⟨_,sP⟩,?_⟩
  refine Be ?_
  refine A6 rfl (Sx) sP rfl aQ ?_
  refine Ac ⟨rfl,⟨_,sP⟩,?_⟩
  refine Am<|Bh<|Be ?_
  refine A6 rfl (Rl) sP rfl aQ ?_
  refine Ac ⟨rfl,⟨_,sP⟩,?_⟩
  refine Am<|Bh<|Be ?_
  refine A5 rfl rfl rfl rfl fun b26=> ?_
  refine Ac ⟨rfl,⟨_,sP⟩,?_⟩
  refine Am<|Bh<|Be ?_
  refine A6 rfl (Aup) sP rfl aQ ?_
  refine Ac ⟨rfl,⟨_,sP⟩,?_⟩
  refine Am<|A4<|xR (Ae rfl rfl rfl)<|xA rfl<|Am<|Bm<|n_K<|An ?_
  refine Aq (At Tryz.results221 (Ag rfl)) ?_ sP
  rfl
def C2 (xs:List Ldv) (but:Int):Nat→Int×Bool
 | 0=>(0,false)
 | i+1=>if (!decide ((i:Int)=but) && (!(C2 xs but i).2 || Uh (Jf xs i) (Jf xs (C2 xs but i).1.toNat)))=true then ((i:Int),true) else C2 xs but i
theorem J1 (xs:List Ldv) (but:Int):∀ i,0≤(C2 xs but i).1∧((C2 xs but i).1<i∨(C2 xs but i).1=0)
 | 0=>⟨A2p _,.inr rfl⟩
 | i+1=>by
  have ih:=J1 xs but i
  unfold C2
  split
  ·simp only;omega
  ·omega
theorem Ang {s:Sl Ldv} {but:Int} {T:TypeId}:Does Tryz.prog 220 [s.val,.int .i64 but,.func (.func 221) #[] #[]] (s.hp T++[])
  (Is (.tuple #[.int .i64 (C2 s.list but s.list.length).1,.bool (C2 s.list but s.list.length).2]) (s.hp T++[])):=by
 have hsm:=s.small
 refine Ah (n:=37) Tryz.func220 Tryz.ntmps220 rfl (Ay9 rfl)<|Ad<|Aa fun ops=>oA rfl<|oA rfl<|Ac<|n_K<|Ad<|Ad<|Aa fun ops=>oM rfl<|oR (A7 rfl)<|oM rfl<|Ac ?_
 refine n_K<|Ak ?_
 refine A8 [0,1,2,10,11] kQ (fun (i:Nat)=>[(12,.int .i64 i),(6,.int .i64 (C2 s.list but i).1),(7,.bool (C2 s.list but i).2)]) (fun (i:Nat)=>(s.hp T++[])) (fun (i:Nat)=>i≤s.list.length) (fun (i:Nat)=>s.list.length - i) (0) (A2r _) kP sP ?_
 rintro i g0
 have hin:=J1 s.list but i
 refine Ad<|Aa fun ops=>oR (Ae rfl rfl rfl)<|Ac<|n_K<|Ad ?_
 refine Aj rfl (fun c13=> ?_) (fun c13=> ?_)
 ·simp only [A0d,Ayz] at c13
  have hi:i<s.list.length:=(by omega)
  have hg:=O6 hi
  have hg2:=O6 (xs:=s.list) (i:=(C2 s.list but i).1.toNat) (by omega)
  refine Ai<|n_K<|Ad<|Ak<|Ad<|Aa fun ops=>oM rfl ?_
  refine oR (Bk rfl rfl (by omega)) ?_
  refine oR (Do (o:=0) rfl pL hg rfl rfl) ?_
  refine Aw rfl fun b9=> ?_
  refine oA rfl ?_
  refine Af rfl rfl uD rfl rfl rfl ?_
  refine Ac<|n_K<|Ad ?_
  refine s_draw [(3,20),(6,23)] [(4,[(0,false),(1,false),(2,false),(3,false)]),(16,[(4,false),(5,false),(6,false),(7,false),(8,false),(9,false),(10,false),(11,false),(12,false),(13,true),(14,false),(15,false)])] (by kernel_rfl) rfl fun ops w0 H0 y=> ?_
  refine A4<|xM rfl<|xM rfl<|xR (Ae rfl rfl rfl)<|xM rfl<|Am<|A4 ?_
  refine' Hx (j:=3) (k:=11) y rfl rfl rfl rfl rfl rfl rfl (fun hg20=> ?_) ?_
  rotate_left
  ·try (simp at hg20;show _)
   refine x_g y rfl rfl ?_
   refine xM rfl ?_
   refine x_g y rfl rfl ?_
   refine xR (Bx rfl) ?_
   refine x_g y rfl rfl ?_
   refine xM rfl ?_
   refine' Qa (j:=6) (k:=7) y rfl rfl rfl rfl rfl rfl rfl (fun hg23=> ?_) ?_
   rotate_left
   ·try (simp at hg23;show _)
    refine x_g y rfl rfl ?_
    refine xM rfl ?_
    refine x_g y rfl rfl ?_
    refine xR (Au rfl mM rfl) ?_
    refine x_g y rfl rfl ?_
    refine xM rfl ?_
    refine x_g y rfl rfl ?_
    refine xM rfl ?_
    refine x_g y rfl rfl ?_
    refine xR (Bk (s:=s) rfl rfl (by omega)) ?_
    refine x_g y rfl rfl ?_
    refine xR (Do (s:=s) (o:=0) rfl pL hg2 rfl rfl) ?_
    refine x_g y rfl rfl ?_
    refine Be ?_
    refine S8 (fi:=[]) (ca:=[]) rfl rfl (Anf (x:=Jf s.list i) (y:=Jf s.list (C2 s.list but i).1.toNat)) sP rfl aQ ?_
    refine Ac ⟨rfl,⟨_,sP⟩,?_⟩
    exact Am ⟨rfl,⟨_,sP⟩⟩
   exact Am ⟨rfl,⟨_,sP⟩⟩
  refine Am<|Bm<|n_K ?_
  refine Aj rfl (fun c32=> ?_) (fun c32=> ?_)
  ·skip
   have hst:C2 s.list but (i+1)=((i:Int),true):=(by unfold C2;rw [A25 c32])
   refine Aa fun ops=>oM rfl<|oA rfl<|oA rfl<|Ac<|Az<|n_K<|Aa fun ops=> ?_
   refine oR (Ao rfl rfl (by omega)) ?_
   refine oM rfl<|Ac<|n_K ?_
   exact ⟨i+1,(by omega),(by omega),(by rw [hst];exact kP),kP,_,sP⟩
  ·skip
   have hst:C2 s.list but (i+1)=C2 s.list but i:=(by conv=>lhs;unfold C2;rw [A26 (by rw [c32];decide)])
   refine Ai<|Az<|n_K<|Aa fun ops=> ?_
   refine oR (Ao rfl rfl (by omega)) ?_
   refine oM rfl<|Ac<|n_K ?_
   exact ⟨i+1,(by omega),(by omega),(by rw [hst];exact kP),kP,_,sP⟩
 ·simp only [A0d,Ayz] at c13
  have hi:i=s.list.length:=(by omega)
  subst hi
  refine Bb<|x_K<|x_K<|Bj<|n_K<|Ad<|Aa fun ops=>oM rfl<|oM rfl<|oA rfl<|oA rfl<|Ac<|n_K<|An ?_
  refine Aq (Bz Tryz.results220 (Ag rfl) (Ag rfl)) ?_ sP
  rfl
def D4 (xs:List Ldv):Nat→Nat
 | 0=>0
 | i+1=>if (Jf xs (D4 xs i)).s.seq.toNat<(Jf xs i).s.seq.toNat then i else D4 xs i
theorem Ui (xs:List Ldv):∀ i,D4 xs i<i∨D4 xs i=0
 | 0=> .inr rfl
 | i+1=>by
  have ih:=Ui xs i
  unfold D4
  split
  ·exact .inl (Nat.lt_succ_self _)
  ·omega
def Fv (xs:List Ldv):Int×Bool:=C2 xs (D4 xs xs.length) xs.length
theorem Ars {s:Sl Ldv} {T:TypeId}:Does Tryz.prog 193 [s.val] (s.hp T++[]) (Is (.tuple #[.int .i64 (Fv s.list).1,.bool (Fv s.list).2]) (s.hp T++[])):=by
 have hsm:=s.small
 refine Ah (n:=31) Tryz.func193 Tryz.ntmps193 rfl (Ay9 rfl)<|Ad<|Aa fun ops=>oA rfl<|oA rfl<|Ac<|n_K<|Ad<|Aa fun ops=>oA rfl<|Ac<|n_K<|Ad<|Ad ?_
 refine Aa fun ops=>oM rfl<|oR (A7 rfl)<|oM rfl<|Ac<|n_K<|Ak ?_
 refine A8 [0,7,8] kQ (fun (i:Nat)=>[(9,.int .i64 i),(4,.int .i64 (D4 s.list i:Nat))]) (fun (i:Nat)=>(s.hp T++[])) (fun (i:Nat)=>i≤s.list.length) (fun (i:Nat)=>s.list.length - i) (0) (A2r _) kP sP ?_
 rintro i g0
 have hin:=Ui s.list i
 refine Ad<|Aa fun ops=>oR (Ae rfl rfl rfl)<|Ac<|n_K<|Ad ?_
 refine Aj rfl (fun c10=> ?_) (fun c10=> ?_)
 ·simp only [A0d,Ayz] at c10
  have hi:i<s.list.length:=(by omega)
  have hg:=O6 hi
  have hg2:=O6 (xs:=s.list) (i:=D4 s.list i) (by omega)
  refine Ai<|n_K<|Ad<|Ak<|Ad<|Aa fun ops=>oM rfl ?_
  refine oR (Bk rfl rfl (by omega)) ?_
  refine oR (Do (o:=0) rfl pL hg rfl rfl) ?_
  refine Aw rfl fun b6=> ?_
  refine oA rfl ?_
  refine Af rfl rfl uD rfl rfl rfl ?_
  refine Ac<|n_K<|Ad ?_
  refine s_draw [] [(10,[(0,false),(1,false),(2,false),(3,false),(4,false),(5,false),(6,false),(7,false),(8,false),(9,false)])] (by kernel_rfl) rfl fun ops w0 H0 y=> ?_
  refine A4<|xF rfl<|xF rfl ?_
  refine xR (Al rfl mM rfl) ?_
  refine xM rfl<|xM rfl ?_
  refine xR (Bk (s:=s) rfl rfl (by omega)) ?_
  refine xF rfl<|xF rfl ?_
  refine xR (show Rd _ _ _ _ (wv (Jf s.list (D4 s.list i)).s.seq) from C0 (s:=s) (o:=1) rfl pL hg2 rfl rfl) ?_
  refine xR (Ae rfl rfl rfl)<|Am<|Bm<|n_K ?_
  refine Aj rfl (fun c23=> ?_) (fun c23=> ?_)
  ·simp only [A0d,Ayz] at c23
   have hst:D4 s.list (i+1)=i:=(by unfold D4;rw [A25 (by omega)])
   refine Aa fun ops=>oM rfl<|oA rfl<|Ac<|Az<|n_K<|Aa fun ops=> ?_
   refine oR (Ao rfl rfl (by omega)) ?_
   refine oM rfl<|Ac<|n_K ?_
   exact ⟨i+1,(by omega),(by omega),(by rw [hst];exact kP),kP,_,sP⟩
  ·simp only [A0d,Ayz] at c23
   have hst:D4 s.list (i+1)=D4 s.list i:=(by conv=>lhs;unfold D4;rw [A26 (by omega)])
   refine Ai<|Az<|n_K<|Aa fun ops=> ?_
   refine oR (Ao rfl rfl (by omega)) ?_
   refine oM rfl<|Ac<|n_K ?_
   exact ⟨i+1,(by omega),(by omega),(by rw [hst];exact kP),kP,_,sP⟩
 ·simp only [A0d,Ayz] at c10
  have hi:i=s.list.length:=(by omega)
  subst hi
  refine Bb<|x_K<|x_K<|Bj<|n_K<|Ad<|Aa fun ops=>oM rfl<|oM rfl ?_
  refine A6 rfl (Ang (but:=(D4 s.list s.list.length:Nat))) sP rfl aQ ?_
  refine oE rfl rfl<|oE rfl rfl<|oA rfl<|oA rfl<|Ac<|n_K<|An ?_
  refine Aq (Bz Tryz.results193 (Ag rfl) (Ag rfl)) ?_ sP
  rfl
end
section
open Go.K
def Aei (p:Pg):Prop:=(Eb p).2.2.2≠0∧Dv p=p
def OkPg (p:Pg):Prop:=RecP p∨Aei p
theorem OkPg.mend {p:Pg} (h:OkPg p):Dv p=p:=by
 rcases h with h | h
 ·exact h.mend
 ·exact h.2
theorem Aiy {p:Pg} (h:p[257]=255#8):Aei p:=by
 have he:=J8 h
 refine ⟨?_,Ag2 h⟩
 unfold Eb
 rw [A26 (fun h2=>he h2.1)]
 exact he
theorem Sh {m:Nat} {p:Pg}:Cu m A0 p=p∨Aei (Cu m A0 p):=by
 by_cases h:258≤m
 ·exact .inl (Fu h)
 ·refine .inr (Aiy ?_)
  have:(Cu m A0 p)[257]=A0[257]:=by rw [O2,A26 (by omega)]
  rw [this,J0 (by omega)]
structure CntZ (sq:Wd) (v:Blk) (r:List Pg):Prop where
 seq:sq.toNat≠0
 len:r.length≤6
 next:v.next=((2+r.length:Nat):Int)
 head:A9 v 1=Nx sq
 recs:∀ i (h:i<r.length),A9 v (2+i)=r[i]
 good:∀ p∈r,OkPg p
def O7 (v:Blk):Prop:=(nF (A9 v 1) 3).2=false
structure UsedZ (x:LB) (v:Blk) (r:List Pg):Prop where
 cnt:CntZ x.seq v r
 ready:x.ready=false
 lo:2≤x.next
 hi:x.next≤8
 at':x.next≤v.next∨x.next=8
structure FreeZ (x:LB) (v:Blk):Prop where
 seq:x.seq.toNat=0
 rdy:x.ready=true→v.next=1∧x.known=true∧A9 v 0=I7 x.wear
 free:O7 v
structure LogV (nb k:Nat) (V:Nat→Blk) (bs:List LB) (last:Int) (R:Nat→List Pg):Prop where
 len:bs.length=nb
 blk:∀ j<nb,(FreeZ (bAt bs j) (V j)∧R j=[])∨UsedZ (bAt bs j) (V j) (R j)
 lst:(last= -1∧∀ j<nb,(bAt bs j).seq.toNat=0)∨∃ l:Nat,last=l∧l<nb∧(bAt bs l).seq.toNat≠0∧∀ j<nb,j≠l→(bAt bs j).seq.toNat<(bAt bs l).seq.toNat
 top:∀ j<nb,(bAt bs j).seq.toNat≤k
 dis:∀ i<nb,∀ j<nb,i≠j→(bAt bs i).seq.toNat≠0→(bAt bs i).seq.toNat≠(bAt bs j).seq.toNat
structure LZ (n nb k:Nat) (q:Qt) (d:Dsk) (bs:List LB) (last:Int) (V:Nat→Blk) (R:Nat→List Pg):Prop where
 num:nb+6=n
 dv:DV d.c d.t.ts n k V
 acc:Acc q d.c d.t.ts
 lv:LogV nb k V bs last R
structure LogC (nb k:Nat) (V:Nat→Blk) (sq:Nat→Wd) (R:Nat→List Pg):Prop where
 bi:∀ j<nb,BI (V j)
 blk:∀ j<nb,((sq j).toNat=0∧O7 (V j)∧R j=[])∨CntZ (sq j) (V j) (R j)
 top:∀ j<nb,(sq j).toNat≤k
 dis:∀ i<nb,∀ j<nb,i≠j→(sq i).toNat≠0→(sq i).toNat≠(sq j).toNat
theorem Abx {v:Blk} {j:Nat} (h:∀ i,j≤i→i<8→Bs (A9 v i)=true):∀ k,k≤8→Fi v k≤max j (8 - k)
 | 0,_=>by show 8≤_;omega
 | k+1,hk=>by
  have ih:=Abx h k (by omega)
  have hle:=Sr v k (by omega)
  unfold Fi
  by_cases e:Fi v k=8 - k∧Bs (A9 v (7 - k))=true
  ·rw [A25 e];omega
  ·rw [A26 e]
   by_cases h2:Fi v k=8 - k
   ·have h3:¬ Bs (A9 v (7 - k))=true:=fun h4=>e ⟨h2,h4⟩
    have:¬ j≤7 - k:=fun h4=>h3 (h _ h4 (by omega))
    omega
   ·omega
theorem Anh {v:Blk} {j:Nat} (h:∀ i,j≤i→i<8→Bs (A9 v i)=true):Ku v≤j:=by
 have:=Abx h 8 (A2q _)
 unfold Ku
 omega
theorem Aby {v:Blk} {i:Nat} (hb:Bs (A9 v i)=false):∀ k,k≤8→i<8→i+1≤Fi v k
 | 0,_,h8=>by show i+1≤8;omega
 | k+1,hk,h8=>by
  have ih:=Aby hb k (by omega) h8
  unfold Fi
  by_cases e:Fi v k=8 - k∧Bs (A9 v (7 - k))=true
  ·rw [A25 e]
   have:i≠7 - k:=fun h2=>by rw [h2,e.2] at hb;cases hb
   omega
  ·rw [A26 e];exact ih
theorem Ani {v:Blk} {i:Nat} (hi:i<8) (hb:Bs (A9 v i)=false):i+1≤Ku v:=Aby hb 8 (A2q _) hi
theorem CntZ.add {sq:Wd} {v w:Blk} {r:List Pg} {p:Pg} (u:CntZ sq w r) (hl:r.length<6) (hn:v.next=((2+r.length+1:Nat):Int)) (hk:Rq v w (2+r.length)) (hp:A9 v (2+r.length)=p) (hg:OkPg p):CntZ sq v (r++[p]) where
 seq:=u.seq
 len:=by rw [Azz];simp;omega
 next:=by rw [hn,Azz];simp;omega
 head:=by rw [Ae7 hk (by omega) (by omega) (by rw [u.head];exact Ih (by decide) _),u.head]
 recs:=fun i hi=>by
  rw [Azz] at hi
  simp only [Azj] at hi
  by_cases e:i=r.length
  ·subst e;rw [hp];simp
  ·have h1:i<r.length:=by omega
   rw [Ae7 hk (by omega) (by omega) (by rw [u.recs i h1];exact (u.good _ (A0s h1)).mend),u.recs i h1,Ayy h1]
 good:=fun z hz=>by
  rcases A1d.1 hz with h | h
  ·exact u.good z h
  ·rw [Azy.1 h];exact hg
section
variable {n nb k k':Nat} {q:Qt} {d:Dsk} {bs bs':List LB} {last:Int} {V:Nat→Blk} {R:Nat→List Pg} {p:Pg} {v:Blk}
theorem LogV.used (h:LogV nb k V bs last R) {l:Nat} (hl:last=l):l<nb∧UsedZ (bAt bs l) (V l) (R l):=by
 rcases h.lst with ⟨h1,_⟩ | ⟨l',h1,h2,h3,_⟩
 ·omega
 ·have:l'=l:=by omega
  subst this
  refine ⟨h2,?_⟩
  rcases h.blk l' h2 with ⟨f,_⟩ | u
  ·exact absurd f.seq h3
  ·exact u
theorem LogV.us (h:LogV nb k V bs last R) {j:Nat} (hj:j<nb) (hs:(bAt bs j).seq.toNat≠0):UsedZ (bAt bs j) (V j) (R j):=by
 rcases h.blk j hj with ⟨f,_⟩ | u
 ·exact absurd f.seq hs
 ·exact u
theorem LogV.rdy (h:LogV nb k V bs last R):Avq V bs nb:=fun b hb hr=>by
 rcases h.blk b hb with ⟨f,_⟩ | u
 ·exact f.rdy hr
 ·rw [u.ready] at hr;cases hr
theorem LogV.rng (h:LogV nb k V bs last R): -1≤last∧last<nb:=by
 rcases h.lst with ⟨h1,_⟩ | ⟨l,h1,h2,_⟩ <;> omega
theorem LogV.lls (h:LogV nb k V bs last R) (h0:0≤last):(bAt bs last.toNat).seq.toNat≠0∧2≤(bAt bs last.toNat).next∧(bAt bs last.toNat).next≤8:=by
 obtain ⟨hlt,u⟩:=h.used (l:=last.toNat) (by omega)
 exact ⟨u.cnt.seq,u.lo,u.hi⟩
theorem LogV.mono (h:LogV nb k V bs last R) (hk:k≤k'):LogV nb k' V bs last R:=⟨h.len,h.blk,h.lst,fun j hj=>A2f (h.top j hj) hk,h.dis⟩
theorem LogV.cont (h:LogV nb k V bs last R) (hb:∀ j<nb,BI (V j)):LogC nb k V (fun j=>(bAt bs j).seq) R :=
 ⟨hb,fun j hj=>(h.blk j hj).imp (fun ⟨f,r⟩=>⟨f.seq,f.free,r⟩) (fun u=>u.cnt),h.top,h.dis⟩
theorem LogV.seqN (h:LogV nb k V bs last R) (hk:k≤400000000000):(seqN bs last).toNat≠0∧(seqN bs last).toNat≤k+1∧∀ j<nb,(bAt bs j).seq.toNat<(seqN bs last).toNat:=by
 unfold Go.Proofs.YtpmojdippdlcaaaGreatDoor.seqN
 rcases h.lst with ⟨h1,h2⟩ | ⟨l,h1,h2,h3,h4⟩
 ·rw [A25 (by omega)]
  exact ⟨by decide,by show 1≤k+1;omega,fun j hj=>by rw [h2 j hj];decide⟩
 ·rw [A26 (by omega),h1,A0c]
  have ht:=h.top l h2
  have e:((bAt bs l).seq+1).toNat=(bAt bs l).seq.toNat+1:=by
   rw [A05]
   show ((bAt bs l).seq.toNat+1) % 2 ^ 64=_
   omega
  rw [e]
  refine ⟨by omega,by omega,fun j hj=> ?_⟩
  by_cases hj2:j=l
  ·subst hj2;omega
  ·have:=h4 j hj hj2;omega
theorem LogV.app1 (h:LogV nb k V bs last R) (hkk:k≤k') (hg:OkPg p) {l:Nat} (hl:last=l) (hr:(R l).length<6) (hn:v.next=((2+(R l).length+1:Nat):Int)) (hk:Rq v (V l) (2+(R l).length)) (hp:A9 v (2+(R l).length)=p) :
  LogV nb k' (upV V l v) (bs.set l { bAt bs l with next:=((2+(R l).length:Nat):Int)+1 }) last (upR R l (R l++[p])):=by
 obtain ⟨hlt,u⟩:=h.used hl
 have hlb:l<bs.length:=by rw [h.len];exact hlt
 have hb:∀ j,bAt (bs.set l { bAt bs l with next:=((2+(R l).length:Nat):Int)+1 }) j=if j=l then { bAt bs l with next:=((2+(R l).length:Nat):Int)+1 } else bAt bs j:=fun j=>Dq hlb
 have hs:∀ j,(bAt (bs.set l { bAt bs l with next:=((2+(R l).length:Nat):Int)+1 }) j).seq=(bAt bs j).seq:=fun j=>by
  rw [hb]
  split
  ·rename_i e;subst e;rfl
  ·rfl
 refine ⟨by rw [A1f];exact h.len,fun j hj=> ?_,?_,fun j hj=>by rw [hs];exact A2f (h.top j hj) hkk,fun i hi j hj=> ?_⟩
 ·rw [hb]
  unfold upV upR
  by_cases e:j=l
  ·rw [A25 e,A25 e,A25 e]
   have ha:=u.cnt.add hr hn hk hp hg
   have hl6:=ha.len
   rw [Azz] at hl6
   simp only [Azj] at hl6
   exact .inr ⟨ha,u.ready,by simp only;omega,by simp only;omega,.inl (by simp only;omega)⟩
  ·rw [A26 e,A26 e,A26 e]
   exact h.blk j hj
 ·rcases h.lst with ⟨h1,h2⟩ | ⟨l',h1,h2,h3,h4⟩
  ·exact .inl ⟨h1,fun j hj=>by rw [hs];exact h2 j hj⟩
  ·exact .inr ⟨l',h1,h2,by rw [hs];exact h3,fun j hj hne=>by rw [hs,hs];exact h4 j hj hne⟩
 ·rw [hs,hs];exact h.dis i hi j hj
theorem FreeZ.oth {x y:LB} {w:Blk} (f:FreeZ x w) (h:y=x∨y={ x with next:=8 }):FreeZ y w:=by
 rcases h with rfl | rfl
 ·exact f
 ·exact ⟨f.seq,f.rdy,f.free⟩
theorem UsedZ.oth {x y:LB} {w:Blk} {r:List Pg} (u:UsedZ x w r) (h:y=x∨y={ x with next:=8 }):UsedZ y w r:=by
 rcases h with rfl | rfl
 ·exact u
 ·exact ⟨u.cnt,u.ready,by show (2:Int)≤8;decide,by show (8:Int)≤8;decide,.inr rfl⟩
theorem LogV.app2 (h:LogV nb k V bs last R) (hk:k≤400000000000) (hkk:k+1≤k') (hg:OkPg p) {to:Nat} (hto:to<nb) (hlen:bs'.length=nb) (hn:v.next=3) (h2:A9 v 2=p) (h1:A9 v 1=Nx (Go.Proofs.YtpmojdippdlcaaaGreatDoor.seqN bs last))
  (hx:bAt bs' to=⟨(bAt bs to).wear,true,Go.Proofs.YtpmojdippdlcaaaGreatDoor.seqN bs last,false,3⟩) (ho:Py bs bs' nb last to):LogV nb k' (upV V to v) bs' to (upR R to [p]):=by
 obtain ⟨s1,s2,s3⟩:=h.seqN hk
 have ho2:∀ j<nb,j≠to→bAt bs' j=bAt bs j∨bAt bs' j={ bAt bs j with next:=8 }:=fun j hj hne=>(ho j hj (by omega)).imp id (fun e=>e.2)
 have hs:∀ j<nb,j≠to→(bAt bs' j).seq=(bAt bs j).seq:=fun j hj hne=>by
  rcases ho2 j hj hne with e | e <;> rw [e]
 refine ⟨hlen,fun j hj=> ?_,.inr ⟨to,rfl,hto,by rw [hx];exact s1,fun j hj hne=>by rw [hs j hj hne,hx];exact s3 j hj⟩,fun j hj=> ?_,fun i hi j hj hne hz=> ?_⟩
 ·unfold upV upR
  by_cases e:j=to
  ·subst e
   rw [A25 rfl,A25 rfl]
   refine .inr ⟨⟨by rw [hx];exact s1,by simp,by rw [hn];rfl,by rw [hx];exact h1,fun i hi=> ?_,fun z hz=>by rw [Azy.1 hz];exact hg⟩,by rw [hx],by rw [hx];show (2:Int)≤3;omega,by rw [hx];show (3:Int)≤8;omega,.inl (by rw [hx,hn];exact A2p _)⟩
   have:i=0:=by simp at hi;exact hi
   subst this
   exact h2
  ·rw [A26 e,A26 e]
   exact (h.blk j hj).imp (fun ⟨f,r⟩=>⟨f.oth (ho2 j hj e),r⟩) (fun u=>u.oth (ho2 j hj e))
 ·by_cases e:j=to
  ·subst e;rw [hx];exact A2f s2 hkk
  ·rw [hs j hj e];exact A2f (h.top j hj) (by omega)
 ·by_cases e:i=to
  ·subst e
   rw [hs j hj (A23 hne),hx]
   have:=s3 j hj
   simp only
   omega
  ·by_cases e2:j=to
   ·subst e2
    rw [hs i hi e,hx]
    have:=s3 i hi
    simp only
    omega
   ·rw [hs i hi e] at hz ⊢
    rw [hs j hj e2]
    exact h.dis i hi j hj hne hz
theorem LogC.opened {sq:Nat→Wd} (h:LogC nb k V sq R):LogV nb k V (D2 V nb).1 (D2 V nb).2 R∧∀ j<nb,(bAt (D2 V nb).1 j).seq=sq j:=by
 have hlk:∀ j<nb,(Ce (V j)).seq=sq j∧(Ce (V j)).ready=false∧((sq j).toNat≠0→(Ce (V j)).next=(Ku (V j):Int)):=fun j hj=>by
  unfold Ce
  rcases h.blk j hj with ⟨h1,h2,_⟩ | u
  ·have e:sq j=0:=Azg h1
   have h2':¬ (nF (A9 (V j) 1) 3).2=true:=by rw [show (nF (A9 (V j) 1) 3).2=false from h2];decide
   rw [A26 h2',e]
   exact ⟨rfl,rfl,fun h9=>absurd rfl h9⟩
  ·rw [u.head,Atp (by decide)]
   exact ⟨rfl,rfl,fun _=>rfl⟩
 have hat:∀ j<nb,bAt (D2 V nb).1 j=Hq (Mn (E7 V nb) nb) (Ce (V j)):=fun j hj=>by
  unfold D2 bAt
  simp only [Ayg,A0f,List.getElem?_range hj,A1g,A0t]
  rfl
 have hkn:∀ (m:Wd) (x:LB),(Hq m x).seq=x.seq∧(Hq m x).ready=x.ready∧(Hq m x).next=x.next:=fun m x=>by unfold Hq;split <;> exact ⟨rfl,rfl,rfl⟩
 have hs:∀ j<nb,(bAt (D2 V nb).1 j).seq=sq j:=fun j hj=>by rw [hat j hj,(hkn _ _).1,(hlk j hj).1]
 refine ⟨⟨Ahk V nb,fun j hj=> ?_,?_,fun j hj=>by rw [hs j hj];exact h.top j hj,fun i hi j hj hne hz=>by rw [hs i hi] at hz ⊢;rw [hs j hj];exact h.dis i hi j hj hne hz⟩,hs⟩
 ·rcases h.blk j hj with ⟨h1,h2,h3⟩ | u
  ·refine .inl ⟨⟨by rw [hs j hj];exact h1,fun hr=> ?_,h2⟩,h3⟩
   rw [hat j hj,(hkn _ _).2.1,(hlk j hj).2.1] at hr
   cases hr
  ·have hn:(bAt (D2 V nb).1 j).next=(Ku (V j):Int):=by rw [hat j hj,(hkn _ _).2.2,(hlk j hj).2.2 u.seq]
   have hle:=Sr (V j) 8 (A2q _)
   have hlen:=u.len
   have hup:Ku (V j)≤2+(R j).length:=by
    refine Anh (fun i h1 h2=> ?_)
    have:=(h.bi j hj).pg h2 (by rw [u.next];omega)
    rw [this];exact H6
   have hlo:2≤Ku (V j):=Ani (i:=1) (by omega) (by rw [u.head];exact Atx (by decide) _)
   exact .inr ⟨by rw [hs j hj];exact u,by rw [hat j hj,(hkn _ _).2.1,(hlk j hj).2.1],by rw [hn];omega,by rw [hn];unfold Ku;omega,.inl (by rw [hn,u.next];omega)⟩
 ·have hl:∀ j<nb,(bAt ((List.range nb).map fun b=>Ce (V b)) j).seq=sq j:=fun j hj=>by
   have e:bAt ((List.range nb).map fun b=>Ce (V b)) j=Ce (V j):=by
    unfold bAt
    simp only [Ayg,A0f,List.getElem?_range hj,A1g,A0t]
   rw [e,(hlk j hj).1]
  show (Dw ((List.range nb).map fun b=>Ce (V b)) nb= -1∧_)∨∃ l:Nat,Dw ((List.range nb).map fun b=>Ce (V b)) nb=l∧_
  rcases Ka ((List.range nb).map fun b=>Ce (V b)) nb with ⟨g1,g2⟩ | ⟨l,g1,g2,g3,g4⟩
  ·exact .inl ⟨g1,fun j hj=>by rw [hs j hj,← hl j hj];exact g2 j hj⟩
  ·refine .inr ⟨l,g1,g2,by rw [hs l g2,← hl l g2];omega,fun j hj hne=> ?_⟩
   have h1:=g4 j hj
   rw [hl j hj,hl l g2] at h1
   rw [hl l g2] at g3
   rw [hs j hj,hs l g2]
   have:=h.dis l g2 j hj (A23 hne) (by omega)
   omega
end
end
section
open Go.K
def Abz (bs:List LB) (last:Int) (R:Nat→List Pg):Prop:=last<0∨∃ l:Nat,last=l∧((bAt bs l).next=8∨(R l).length=6)
inductive AppZ (nb:Nat) (bs:List LB) (last:Int) (R:Nat→List Pg) (p:Pg):Int→Int→Int→Int→List LB→(Nat→List Pg)→Prop
 | into {l:Nat}:last=l→l<nb→(bAt bs l).seq.toNat≠0→(bAt bs l).next≤((2+(R l).length:Nat):Int)→(R l).length<6→AppZ nb bs last R p 0 l ((2+(R l).length:Nat):Int) last (bs.set l { bAt bs l with next:=((2+(R l).length:Nat):Int)+1 }) (upR R l (R l++[p]))
 | none {pb pj last':Int} {bs':List LB}:Abz bs last R→toU bs nb<0→AppZ nb bs last R p 40 pb pj last' bs' R
 | fresh {to:Nat} {bs':List LB}:Abz bs last R→toU bs nb=to→to<nb→(bAt bs to).seq.toNat=0→R to=[]→bAt bs' to=⟨(bAt bs to).wear,true,seqN bs last,false,3⟩→Py bs bs' nb last to→AppZ nb bs last R p 0 to 2 to bs' (upR R to [p])
def sqB (bs:List LB) (j:Nat):Wd:=(bAt bs j).seq
def K4 (sq:Nat→Wd) (to:Nat) (x:Wd):Nat→Wd:=fun j=>if j=to then x else sq j
inductive GrowZ (nb:Nat) (bs:List LB) (last:Int) (R:Nat→List Pg) (p:Pg):(Nat→Wd)→(Nat→List Pg)→Prop
 | same:GrowZ nb bs last R p (sqB bs) R
 | into {l:Nat} {x:Pg}:last=l→l<nb→(bAt bs l).seq.toNat≠0→(R l).length<6→(x=p∨Aei x)→GrowZ nb bs last R p (sqB bs) (upR R l (R l++[x]))
 | head {to:Nat}:to<nb→(bAt bs to).seq.toNat=0→R to=[]→(∀ j<nb,(bAt bs j).seq.toNat<(seqN bs last).toNat)→GrowZ nb bs last R p (K4 (sqB bs) to (seqN bs last)) R
 | fresh {to:Nat} {x:Pg}:to<nb→(bAt bs to).seq.toNat=0→R to=[]→(∀ j<nb,(bAt bs j).seq.toNat<(seqN bs last).toNat)→(x=p∨Aei x)→GrowZ nb bs last R p (K4 (sqB bs) to (seqN bs last)) (upR R to [x])
def DownZ (n nb k:Nat) (q:Qt) (bs:List LB) (last:Int) (R:Nat→List Pg) (p:Pg) (c c':Chip) (e:Int):Prop :=
 e=30∧c'.off=true∧¬ c.after<0∧FrA c c'∧∃ V' sq' R',GrowZ nb bs last R p sq' R'∧LogC nb k V' sq' R'∧Later c' n k q.n V'
section
variable {n nb k:Nat} {q:Qt} {d:Dsk} {bs bs':List LB} {last last' e pb pj:Int} {V:Nat→Blk} {R:Nat→List Pg} {p:Pg} {t':Tab} {c':Chip}
theorem Later.bi {c c':Chip} {m:Nat} {V:Nat→Blk} (h:Later c' n k m V) (up:Up c) (f:FrA c c') {l:Nat} (hl:l+6<n):BI (V l):=by
 obtain ⟨t2,h1,h2,h3⟩:=h { c' with off:=false,after:= -1 } rfl ⟨rfl,by rw [show ({ c' with off:=false,after:= -1 }:Chip).dead=c'.dead from rfl,f.dead];exact up.dead,by rw [show ({ c' with off:=false,after:= -1 }:Chip).out=c'.out from rfl,f.out];exact up.out⟩ rfl rfl
 exact (h2.blk hl).1
theorem LogV.full (h:LogV nb k V bs last R) (hnr:Xs V bs last):Abz bs last R:=by
 rcases hnr with h1 | ⟨l,h1,h2⟩
 ·exact .inl h1
 ·obtain ⟨hlt,u⟩:=h.used h1
  refine .inr ⟨l,h1,?_⟩
  have hun:=u.cnt.next
  have hul:=u.cnt.len
  rcases u.at' with e | e
  ·right
   by_cases h8:(R l).length=6
   ·exact h8
   ·exact absurd hun (h2 (2+(R l).length) (by omega) (by omega))
  ·exact .inl e
theorem Age {x:Pg} (hg:RecP p) (h:x=p∨Aei x):OkPg x:=by
 rcases h with rfl | h
 ·exact .inl hg
 ·exact .inr h
theorem LogC.set {sq:Nat→Wd} {k':Nat} (h:LogC nb k V sq R) (hkk:k≤k') {b:Nat} {v:Blk} {s:Wd} {r:List Pg} (hv:BI v) (hb:(s.toNat=0∧O7 v∧r=[])∨CntZ s v r) (hs:s=sq b∨(s.toNat≤k'∧∀ j<nb,(sq j).toNat<s.toNat)) (hbn:b<nb) :
  LogC nb k' (upV V b v) (K4 sq b s) (upR R b r):=by
 refine ⟨fun j hj=> ?_,fun j hj=> ?_,fun j hj=> ?_,fun i hi j hj hne hz=> ?_⟩
 ·unfold upV;split
  ·exact hv
  ·exact h.bi j hj
 ·unfold upV K4 upR
  by_cases e:j=b
  ·rw [A25 e,A25 e,A25 e];exact hb
  ·rw [A26 e,A26 e,A26 e];exact h.blk j hj
 ·unfold K4;split
  ·rename_i e
   rcases hs with rfl | ⟨hs,_⟩
   ·exact A2f (h.top b hbn) hkk
   ·exact hs
  ·exact A2f (h.top j hj) hkk
 ·unfold K4 at hz ⊢
  by_cases ei:i=b
  ·rw [A25 ei] at hz ⊢
   rw [A26 (fun e=>hne (by rw [ei,e]))]
   rcases hs with rfl | ⟨_,hs⟩
   ·exact h.dis b hbn j hj (by omega) hz
   ·have:=hs j hj;omega
  ·rw [A26 ei] at hz ⊢
   by_cases ej:j=b
   ·rw [A25 ej]
    rcases hs with rfl | ⟨_,hs⟩
    ·exact h.dis i hi b hbn (by omega) hz
    ·have:=hs i hi;omega
   ·rw [A26 ej];exact h.dis i hi j hj hne hz
theorem Ab0 (sq:Nat→Wd) (b:Nat):K4 sq b (sq b)=sq:=by
 funext j
 unfold K4
 split
 ·rename_i e;rw [e]
 ·rfl
theorem Ab1 (R:Nat→List Pg) {b:Nat} {r:List Pg} (h:R b=r):upR R b r=R:=by
 funext j
 unfold upR
 split
 ·rename_i e;rw [e,h]
 ·rfl
theorem Anj {m:Nat} {p:Pg}:Cu m A0 p=p∨(Cg (Cu m A0 p)).2.2.2≠0:=by
 by_cases h:258≤m
 ·exact .inl (Fu h)
 ·refine .inr (J8 ?_)
  have:(Cu m A0 p)[257]=A0[257]:=by rw [O2,A26 (by omega)]
  rw [this,J0 (by omega)]
theorem LZ.app (h:LZ n nb k q d bs last V R) (hk:k≤300000000000) (hg:RecP p) (hA:Apx n nb (k+80) q V bs last p d.c d.t.ts bs' last' e pb pj t'.ts c') :
  (e≠30∧∃ R' V',AppZ nb bs last R p e pb pj last' bs' R'∧LZ n nb (k+80) q ⟨d.dk,t',c'⟩ bs' last' V' R'∧FrA d.c c'∧(q.n=0→e=0→last'=last→Z4 d.c c'))∨DownZ n nb (k+80) q bs last R p d.c c' e:=by
 have hbi:∀ j<nb,BI (V j):=fun j hj=>(h.dv.blk (l:=j) (by have:=h.num;omega)).1
 have hC:=h.lv.cont hbi
 have hup:Up d.c:=h.dv.di.up
 have hnum:=h.num
 rcases hA with ⟨l,nx,h1,h2,h3,h4,h5,v,h6,h7,h8⟩ | ⟨hnr,hA⟩
 ·obtain ⟨hlt,u⟩:=h.lv.used h1
  have hun:=u.cnt.next
  have hnx:nx=2+(R l).length:=by omega
  subst hnx
  rcases h8 with ⟨rfl,q2,q3,q4,rfl,rfl,rfl,rfl,q9⟩ | ⟨q1,q2,q3,⟨m,q4⟩,q5⟩
  ·refine .inl ⟨by decide,_,upV V l v,.into h1 hlt u.cnt.seq h2 (by omega),⟨h.num,q2,q3,?_⟩,h5,fun h0 _ _=>q9 h0⟩
   exact h.lv.app1 (by omega) (.inl hg) h1 (by omega) (by omega) h7 q4
  ·refine .inr ⟨q1,q2,q3,h5,upV V l v,sqB bs,_,.into (x:=Cu m A0 p) h1 hlt u.cnt.seq (by omega) Sh,?_,q5⟩
   have:=hC.set (k':=k+80) (by omega) (b:=l) (v:=v) (s:=(bAt bs l).seq) (r:=R l++[Cu m A0 p]) (by have:=q5.bi hup h5 (l:=l) (by omega);rwa [E5] at this) (.inr (u.cnt.add (by omega) (by omega) h7 q4 (Age hg Sh))) (.inl rfl) hlt
   rwa [Ab0 (fun j=>(bAt bs j).seq) l] at this
 ·have hfull:=h.lv.full hnr
  obtain ⟨s1,s2,s3⟩:=h.lv.seqN (by omega)
  rcases hA with ⟨rfl,q2,q3,rfl,rfl,q6,q7⟩ | ⟨q1,q2,to,v,q3,q4⟩
  ·refine .inl ⟨by decide,R,V,.none hfull q2,?_,FrA.refl _,fun _ h9=>by cases h9⟩
   have ho2:∀ j<nb,bAt bs' j=bAt bs j∨bAt bs' j={ bAt bs j with next:=8 }:=fun j hj=>(q7 j hj (by omega)).imp id (fun e=>e.2)
   have hs:∀ j<nb,(bAt bs' j).seq=(bAt bs j).seq:=fun j hj=>by rcases ho2 j hj with e | e <;> rw [e]
   refine ⟨h.num,by show DV d.c t'.ts n (k+80) V;rw [q3];exact h.dv.mono (by omega),by show Acc q d.c t'.ts;rw [q3];exact h.acc,?_⟩
   refine ⟨q6,fun j hj=>(h.lv.blk j hj).imp (fun ⟨f,r⟩=>⟨f.oth (ho2 j hj),r⟩) (fun u=>u.oth (ho2 j hj)),?_,fun j hj=>by rw [hs j hj];exact A2f (h.lv.top j hj) (by omega),fun i hi j hj hne hz=> ?_⟩
   ·rcases h.lv.lst with ⟨h1,h2⟩ | ⟨l',h1,h2,h3,h4⟩
    ·exact .inl ⟨h1,fun j hj=>by rw [hs j hj];exact h2 j hj⟩
    ·exact .inr ⟨l',h1,h2,by rw [hs l' h2];exact h3,fun j hj hne=>by rw [hs j hj,hs l' h2];exact h4 j hj hne⟩
   ·rw [hs i hi] at hz ⊢;rw [hs j hj];exact h.lv.dis i hi j hj hne hz
  ·obtain ⟨l,x1,x2,x3,_⟩:=(Lb bs nb).resolve_left (fun h=>by
    rcases q4 with ⟨_,_,_,rfl,_⟩ | ⟨_,_,_,_,_⟩ <;> omega)
   have:l=to:=by omega
   subst this
   have hRto:R l=[]:=by
    rcases h.lv.blk l x2 with ⟨_,r⟩ | u
    ·exact r
    ·exact absurd x3 u.cnt.seq
   rcases q4 with ⟨rfl,r2,r3,rfl,rfl,rfl,r7,r8,r9,r10,r11,r12⟩ | ⟨r1,r2,r3,r4,r5⟩
   ·refine .inl ⟨by decide,_,upV V l v,.fresh hfull q3 x2 x3 hRto r11 r12,⟨h.num,r2,r3,?_⟩,q1,fun _ _ h9=> ?_⟩
    ·exact h.lv.app2 (by omega) (by omega) (.inl hg) x2 q2 r7 r8 r9 r11 r12
    ·exfalso
     obtain ⟨g1,u⟩:=h.lv.used h9.symm
     exact u.cnt.seq x3
   ·have hbv:BI v:=by have:=r4.bi hup q1 (l:=l) (by omega);rwa [E5] at this
    have hfr:O7 (V l):=by
     rcases h.lv.blk l x2 with ⟨f,_⟩ | u
     ·exact f.free
     ·exact absurd x3 u.cnt.seq
    have hfree:O7 v→∃ V' sq' R',GrowZ nb bs last R p sq' R'∧LogC nb (k+80) V' sq' R'∧Later c' n (k+80) q.n V':=fun hf=>by
     refine ⟨_,_,R,.same,?_,r4⟩
     have:=hC.set (k':=k+80) (by omega) (b:=l) (v:=v) (s:=(bAt bs l).seq) (r:=[]) hbv (.inl ⟨x3,hf,rfl⟩) (.inl rfl) x2
     rw [Ab0 (fun j=>(bAt bs j).seq) l,Ab1 R hRto] at this
     exact this
    have hused:∀ r,CntZ (seqN bs last) v r→LogC nb (k+80) (upV V l v) (K4 (sqB bs) l (seqN bs last)) (upR R l r):=fun r hr =>
     hC.set (k':=k+80) (by omega) hbv (.inr hr) (.inr ⟨by omega,s3⟩) x2
    refine .inr ⟨r1,r2,r3,q1,?_⟩
    rcases r5 with (he | ⟨g1,_,m,g2⟩) | ⟨g1,g2,m,g3⟩
    ·refine hfree ?_
     unfold O7
     rcases he with he | ⟨he,_⟩
     ·rcases he 1 (by omega) with e1 | e1
      ·rw [Fa (by omega),e1];exact Nw
      ·rw [Fa (by omega),e1,← Fa (by omega)];exact hfr
     ·rw [hbv.pg (by omega) (by rw [he];decide)];exact Nw
    ·rcases Anj (m:=m) (p:=Nx (seqN bs last)) with ht | ht
     ·refine ⟨_,_,_,.head x2 x3 hRto s3,?_,r4⟩
      have:=hused [] ⟨s1,by simp,by rw [g1];rfl,by rw [g2,ht],fun i hi=>by simp at hi,fun z hz=>by cases hz⟩
      rwa [Ab1 R hRto] at this
     ·refine hfree ?_
      unfold O7
      rw [g2]
      exact Akg ht
    ·refine ⟨_,_,_,.fresh (x:=Cu m A0 p) x2 x3 hRto s3 Sh,?_,r4⟩
     exact hused _ ⟨s1,by simp,by rw [g1];rfl,g2,fun i hi=>by
      have:i=0:=by simp at hi;exact hi
      subst this
      exact g3,fun z hz=>by rw [Azy.1 hz];exact Age hg Sh⟩
end
end
section
open Go.K
def Fw (b:Int):Nat→List Pg→List Pl2
 | _,[]=>[]
 | i,p::r=>(if (Eb p).2.2.2=0 then [(b,(i:Int))] else [])++Fw b (i+1) r
theorem Ab2 (b:Int):∀ (r s:List Pg) (i:Nat),Fw b i (r++s)=Fw b i r++Fw b (i+r.length) s
 | [],s,i=>rfl
 | p::r,s,i=>by
  show _++Fw b (i+1) (r++s)=(_++Fw b (i+1) r)++_
  rw [Ab2 b r s (i+1),A0j,A0q,show i+1+r.length=i+(r.length+1) by omega]
theorem recZ_mem {b:Int} {x:Pl2}:∀ {r:List Pg} {i:Nat},x∈Fw b i r↔∃ j,∃ p,r[j]? =some p∧(Eb p).2.2.2=0∧x=(b,((i+j:Nat):Int))
 | [],i=>by simp [Fw]
 | p::r,i=>by
  have ih:=recZ_mem (b:=b) (x:=x) (r:=r) (i:=i+1)
  unfold Fw
  rw [A1d,ih]
  constructor
  ·rintro (h | ⟨j,q,h1,h2,h3⟩)
   ·split at h
    ·rename_i he
     exact ⟨0,p,rfl,he,by simpa using h⟩
    ·cases h
   ·exact ⟨j+1,q,by simpa using h1,h2,by rw [h3];congr 2;omega⟩
  ·rintro ⟨j,q,h1,h2,h3⟩
   cases j with
   | zero =>
    simp only [Ay1,A0h] at h1
    subst h1
    left
    rw [A25 h2]
    simpa using h3
   | succ j =>
    exact .inr ⟨j,q,by simpa using h1,h2,by rw [h3];congr 2;omega⟩
theorem Agf {v:Blk} {b:Int} {r:List Pg} (h:∀ i (hi:i<r.length),A9 v (2+i)=r[i]):∀ i,i≤r.length→Gq v b (2+i)=Fw b 2 (r.take i)
 | 0,_=>Xt v b
 | i+1,hi=>by
  rw [show 2+(i+1)=(2+i)+1 by omega]
  unfold Gq
  rw [Agf h i (by omega),h i (by omega),A0i,Ayw (by omega),Ab2,A0v,A1l (by omega)]
  congr 1
  show (if 2≤2+i∧_ then _ else _)=(if _ then _ else _)++[]
  by_cases e:(Eb r[i]).2.2.2=0
  ·rw [A25 ⟨by omega,e⟩,A25 e,A1j]
  ·rw [A26 (fun h2=>e h2.2),A26 e,A1j]
theorem CntZ.segs {sq:Wd} {v:Blk} {r:List Pg} (u:CntZ sq v r) (h:BI v) (b:Int):Gq v b 8=Fw b 2 r:=by
 have hl:=u.len
 have hn:=u.next
 rw [show 8=2+6 from rfl,Sy (m:=r.length) (fun i hi h8=> ?_) 6 hl (by omega),Agf u.recs _ (A2q _),A0w]
 rw [h.pg h8 (by rw [hn];omega)];exact Ahj H6
def L3 (bs:List LB) (R:Nat→List Pg):Nat→List SV
 | 0=>[]
 | j+1=>L3 bs R j++if (bAt bs j).seq.toNat=0 then [] else [((j:Int),(bAt bs j).seq,(bAt bs j).wear,Fw j 2 (R j))]
section
variable {n nb k:Nat} {q:Qt} {d:Dsk} {bs bs':List LB} {last last' e:Int} {V:Nat→Blk} {R:Nat→List Pg} {t':Tab} {c':Chip}
theorem LZ.bi (h:LZ n nb k q d bs last V R) {j:Nat} (hj:j<nb):BI (V j):=(h.dv.blk (l:=j) (by have:=h.num;omega)).1
theorem LZ.segs (h:LZ n nb k q d bs last V R):∀ j,j≤nb→Mo V bs j=L3 bs R j
 | 0,_=>rfl
 | j+1,hj=>by
  unfold Mo L3
  rw [h.segs j (by omega)]
  by_cases e:(bAt bs j).seq.toNat=0
  ·rw [A25 e,A25 e]
  ·rw [A26 e,A26 e]
   rw [(h.lv.us (by omega) e).cnt.segs (h.bi (by omega))]
theorem Ab3:∀ k,(L3 bs R k).length+Cb bs k=k
 | 0=>rfl
 | k+1=>by
  have ih:=Ab3 k
  rw [F8]
  unfold L3 z1
  rw [Azz]
  split <;> simp <;> omega
theorem segZ_mem {x:SV}:∀ {k},x∈L3 bs R k↔∃ j<k,(bAt bs j).seq.toNat≠0∧x=((j:Int),(bAt bs j).seq,(bAt bs j).wear,Fw j 2 (R j))
 | 0=>by simp [L3]
 | k+1=>by
  have ih:=segZ_mem (x:=x) (k:=k)
  unfold L3
  rw [A1d,ih]
  constructor
  ·rintro (⟨j,h1,h2⟩ | h)
   ·exact ⟨j,by omega,h2⟩
   ·split at h
    ·cases h
    ·rename_i hz;exact ⟨k,by omega,hz,by simpa using h⟩
  ·rintro ⟨j,h1,h2,h3⟩
   by_cases e:j=k
   ·subst e;rw [A26 h2];exact .inr (by simpa using h3)
   ·exact .inl ⟨j,by omega,h2,h3⟩
theorem LZ.drop (h:LZ n nb k q d bs last V R) {b:Nat} (hb:b<nb) (hD:As3 n nb (k+40) q V bs last b d.c d.t.ts bs' last' e t'.ts c') (hs:(bAt bs b).seq.toNat≠0) :
  FrA d.c c'∧((e=0∧bs'=bs.set b (Ik ((bAt bs b).wear+1))∧last'=(if (b:Int)=last then Dw bs' nb else last)∧∃ V',LZ n nb (k+40) q ⟨d.dk,t',c'⟩ bs' last' V' (upR R b []))∨(e=30∧c'.off=true∧¬ d.c.after<0)):=by
 have hlen:=h.lv.len
 have hsg:N1 bs b=true:=by unfold N1;simp;omega
 rcases hD with ⟨h1,_⟩ | ⟨_,hW,hl⟩
 ·rw [hsg] at h1;cases h1
 rw [A0c] at hW
 obtain ⟨w1,w2,v,w3⟩:=hW
 refine ⟨w2,?_⟩
 rcases w3 with ⟨rfl,w4,w5,w6,w7,w8⟩ | h9
 rotate_left
 ·exact .inr ⟨h9.1,h9.2.1,h9.2.2.1⟩
 have hl:=hl rfl
 refine .inl ⟨rfl,w6,hl,upV V b v,?_⟩
 have hb':∀ j,bAt bs' j=if j=b then Ik ((bAt bs b).wear+1) else bAt bs j:=fun j=>by rw [w6,Dq (by omega)]
 have hz:(bAt bs' b).seq.toNat=0:=by rw [hb',A25 rfl];rfl
 have ho:∀ j,j≠b→bAt bs' j=bAt bs j:=fun j hj=>by rw [hb',A26 hj]
 have hbv:BI v:=by
  have:=(w4.blk (l:=b) (by have:=h.num;omega)).1
  rwa [E5] at this
 refine ⟨h.num,w4,w5,⟨w1,fun j hj=> ?_,?_,fun j hj=> ?_,fun i hi j hj hne hzi=> ?_⟩⟩
 ·unfold upV upR
  by_cases ej:j=b
  ·subst ej
   rw [A25 rfl,A25 rfl,hb',A25 rfl]
   refine .inl ⟨⟨rfl,fun _=>⟨w7,rfl,w8⟩,?_⟩,rfl⟩
   unfold O7
   rw [hbv.pg (by omega) (by rw [w7];decide)];exact Nw
  ·rw [A26 ej,A26 ej,ho j ej]
   exact h.lv.blk j hj
 ·rw [hl]
  split
  ·rcases Ka bs' nb with ⟨g1,g2⟩ | ⟨l,g1,g2,g3,g4⟩
   ·exact .inl ⟨g1,g2⟩
   ·refine .inr ⟨l,g1,g2,by omega,fun j hj hne=> ?_⟩
    have:=g4 j hj
    by_cases eq:(bAt bs' j).seq.toNat=(bAt bs' l).seq.toNat
    ·exfalso
     have hjb:j≠b:=fun e=>by rw [e,hz] at eq;omega
     have hlb:l≠b:=fun e=>by rw [e,hz] at g3;omega
     rw [ho j hjb,ho l hlb] at eq
     rw [ho l hlb] at g3
     exact h.lv.dis l g2 j hj (A23 hne) (by omega) eq.symm
    ·omega
  ·rename_i hne
   rcases h.lv.lst with ⟨g1,g2⟩ | ⟨l,g1,g2,g3,g4⟩
   ·exact absurd (g2 b hb) hs
   ·have hlb:l≠b:=fun e=>hne (by omega)
    refine .inr ⟨l,g1,g2,by rw [ho l hlb];exact g3,fun j hj hj2=> ?_⟩
    rw [ho l hlb]
    by_cases ej:j=b
    ·rw [ej,hz];omega
    ·rw [ho j ej];exact g4 j hj hj2
 ·by_cases ej:j=b
  ·rw [ej,hz];omega
  ·rw [ho j ej];exact A2f (h.lv.top j hj) (by omega)
 ·have hib:i≠b:=fun e=>hzi (by rw [e,hz])
  rw [ho i hib] at hzi ⊢
  by_cases ej:j=b
  ·rw [ej,hz];exact hzi
  ·rw [ho j ej];exact h.lv.dis i hi j hj hne hzi
theorem LZ.mono {k':Nat} (h:LZ n nb k q d bs last V R) (hk:k≤k'):LZ n nb k' q d bs last V R:=⟨h.num,h.dv.mono hk,h.acc,h.lv.mono hk⟩
theorem LZ.get (h:LZ n nb k q d bs last V R) {b i:Nat} {p:Pg} (hb:b<nb) (hp:(R b)[i]? =some p):A9 (V b) (2+i)=p∧2+i<8:=by
 rcases h.lv.blk b hb with ⟨_,r⟩ | u
 ·rw [r] at hp;cases hp
 ·obtain ⟨h1,rfl⟩:=Aym.1 hp
  have:=u.cnt.len
  exact ⟨u.cnt.recs i h1,by omega⟩
end
end
section
open Go.K
structure Lg where
 lg:Nat
 bb:Nat
 nb:Nat
 last:Int
 bs:List LB
 d:Dsk
@[irreducible] def lgH (L:Lg):Hp:=(L.lg,true,C (lgC L.d.dk L.bb L.nb L.last) tLg)::(L.bb,true,C (lbs L.bs) tLB)::(dkH L.d++[])
theorem Ey (L:Lg):lgH L=(L.lg,true,C (lgC L.d.dk L.bb L.nb L.last) tLg)::(L.bb,true,C (lbs L.bs) tLB)::(dkH L.d++[]):=by unfold lgH;rfl
theorem Qn {P:Program} {E:Env} {H F:Hp} {t:TypeId} {x:Operand} {L:Lg} [ht:Agg P t false] (hx:ev E x=some (.pointer (some ⟨L.lg,0,none⟩))) (hm:PickL (lgH L) H F):Rd P E H (.load t x) (ptr L.d.dk) :=
 Al hx (hm.sub (by rw [Ey];exact .head _)) rfl
theorem Ank (L:Lg):∀ x∈dkH L.d,x∈lgH L:=fun x hx=>by
 rw [Ey]
 exact .tail _ (.tail _ (Azo _ hx))
theorem Y1 {P:Program} {E:Env} {H F:Hp} {t:TypeId} {x:Operand} {L:Lg} [ht:Agg P t false] (hx:ev E x=some (.pointer (some ⟨L.d.dk,0,none⟩))) (hm:PickL (lgH L) H F):Rd P E H (.load t x) (ptr L.d.c.aC) :=
 Al hx (hm.sub (Ank L _ (by rw [F7];exact .head _))) rfl
theorem Anl {P:Program} {E:Env} {H F:Hp} {t:TypeId} {x:Operand} {L:Lg} [ht:Agg P t false] (hx:ev E x=some (.pointer (some ⟨L.d.c.aC,0,none⟩))) (hm:PickL (lgH L) H F):Rd P E H (.load t x) (ptr L.d.c.aP) :=
 Al hx (hm.sub (Ank L _ (Ati L.d _ (by rw [Ef];exact .tail _ (.head _))))) rfl
section
variable {L:Lg} {n k:Nat} {q:Qt} {V:Nat→Blk} {R:Nat→List Pg}
theorem LZ.ulen {d:Dsk} {nb:Nat} {bs:List LB} {last:Int} (h:LZ n nb k q d bs last V R):d.t.u.list.length=nb:=by
 have h1:d.t.u.list.length+6=n:=h.dv.di.wf.len
 have h2:=h.num
 omega
theorem Anm:Does Tryz.prog 66 [ptr L.d.dk] (lgH L) (Is (.int .i64 L.d.t.u.list.length) (lgH L)):=by
 rw [Ey];exact (Aj1 (d:=L.d)).inIs sP aQ sP
theorem Agh (hl:L.bs.length=L.nb) (hn:L.nb≤1000):Does Tryz.prog 33 [ptr L.lg] (lgH L) (Is (.int .i64 (Cb L.bs L.nb:Nat)) (lgH L)):=by
 rw [Ey];exact (Apy (d:=L.d) (lg:=L.lg) (bb:=L.bb) (last:=L.last) hl hn).inIs sP aQ sP
theorem Auq (h:LZ n L.nb k q L.d L.bs L.last V R) {b i:Nat} {p:Pg} (hb:b<L.nb) (hp:(R b)[i]? =some p):Does Tryz.prog 61 [ptr L.lg,.agg #[.int .i64 (b:Nat),.int .i64 ((2+i:Nat):Int)]] (lgH L)
  (fun v H=>∃ s:Sl By,v= .tuple #[bv (Eb p).1,s.val,.int .i64 (Eb p).2.2.1,.int .i64 (Eb p).2.2.2]∧H=s.hp tU8++(lgH L++[])∧s.list=(Eb p).2.1∧s.isOwn=true):=by
 obtain ⟨e1,e2⟩:=h.get hb hp
 have hn:=h.num
 have hf:=Aks (lg:=L.lg) (bb:=L.bb) (nb:=L.nb) (last:=L.last) h.dv (b:=b) (j:=2+i) (by omega) e2
 rw [e1] at hf
 rw [Ey]
 refine hf.inn sP fun v Y ⟨s,h1,h2,h3,h4⟩=>⟨_,⟨s,h1,rfl,h3,h4⟩,?_⟩
 rw [h2]
 simp only [A02,A0j,A1k]
 exact ⟨_,_,aQ,sP⟩
def AppL (n k:Nat) (q:Qt) (L:Lg) (R:Nat→List Pg) (p:Pg) (e pb pj:Int) (L':Lg):Prop :=
 L'.lg=L.lg∧L'.bb=L.bb∧L'.nb=L.nb∧L'.d.dk=L.d.dk ∧
 ((e≠30∧∃ R' V',AppZ L.nb L.bs L.last R p e pb pj L'.last L'.bs R'∧LZ n L.nb (k+80) q L'.d L'.bs L'.last V' R'∧FrA L.d.c L'.d.c∧(q.n=0→e=0→L'.last=L.last→Z4 L.d.c L'.d.c))∨DownZ n L.nb (k+80) q L.bs L.last R p L.d.c L'.d.c e)
theorem Aiz (h:LZ n L.nb k q L.d L.bs L.last V R) (hk:k≤300000000000) (hq:q.n≤3) {kind:By} {qs:Sl (Sl By)} (hj:(Bq qs.list).length≤70000000000000) (hkd:3<kind.toNat) (hw:C6 kind (Bq qs.list)=false) :
  Does Tryz.prog 112 [ptr L.lg,bv kind,qs.val] (lgH L++(qs.hp tSB++(Dh qs.list++[])))
  (fun v H=>∃ (L':Lg) (e pb pj:Int),v= .tuple #[.agg #[.int .i64 pb,.int .i64 pj],.int .i64 e]∧H=lgH L'++[]∧AppL n k q L R (Cw kind (Bq qs.list)) e pb pj L'):=by
 rw [Ey]
 simp only [A02,A0j,A1k]
 refine (Ac5 (lg:=L.lg) (bb:=L.bb) (q:=q) h.dv (by omega) hq h.acc h.num h.lv.len h.lv.rng h.lv.lls h.lv.rdy hj).mono ?_
 rintro v H ⟨t',c',bs',last',e,pb,pj,rfl,rfl,hr⟩
 refine ⟨⟨L.lg,L.bb,L.nb,last',bs',⟨L.d.dk,t',c'⟩⟩,e,pb,pj,rfl,by rw [Ey];simp,rfl,rfl,rfl,rfl,?_⟩
 rcases hr with ⟨h1,_⟩ | ⟨h1,h2,h3⟩
 ·rcases h1 with h1 | h1
  ·omega
  ·rw [hw] at h1;cases h1
 ·exact h.app hk ⟨_,_,h1,h2,rfl⟩ h3
def DropL (n k:Nat) (q:Qt) (L:Lg) (R:Nat→List Pg) (b:Nat) (e:Int) (L':Lg):Prop :=
 L'.lg=L.lg∧L'.bb=L.bb∧L'.nb=L.nb∧L'.d.dk=L.d.dk∧FrA L.d.c L'.d.c ∧
 ((e=0∧L'.bs=L.bs.set b (Ik ((bAt L.bs b).wear+1))∧L'.last=(if (b:Int)=L.last then Dw L'.bs L.nb else L.last)∧∃ V',LZ n L.nb (k+40) q L'.d L'.bs L'.last V' (upR R b []))∨(e=30∧L'.d.c.off=true∧¬ L.d.c.after<0))
theorem Art (h:LZ n L.nb k q L.d L.bs L.last V R) (hk:k≤300000000000) (hq:q.n≤3) {b:Nat} (hb:b<L.nb) (hs:(bAt L.bs b).seq.toNat≠0) :
  Does Tryz.prog 165 [ptr L.lg,.int .i64 (b:Nat)] (lgH L)
  (fun v H=>∃ (L':Lg) (e:Int),v= .int .i64 e∧H=lgH L'++[]∧DropL n k q L R b e L'):=by
 rw [Ey]
 refine (Apz (lg:=L.lg) (bb:=L.bb) (q:=q) (last:=L.last) h.dv (by omega) hq h.acc h.num h.lv.len (b:=(b:Nat))).mono ?_
 rintro v H ⟨t',c',bs',last',e,rfl,rfl,hD⟩
 exact ⟨⟨L.lg,L.bb,L.nb,last',bs',⟨L.d.dk,t',c'⟩⟩,e,rfl,by rw [Ey];simp,rfl,rfl,rfl,rfl,h.drop hb hD hs⟩
theorem Agi (h:LZ n L.nb k q L.d L.bs L.last V R) (h12:L.nb≤Cb L.bs L.nb+12):Does Tryz.prog 77 [ptr L.lg] (lgH L)
  (fun v H=>∃ (s:Sl Seg) (l0:List Seg),v=s.val∧H=s.hp Hj++(I1 l0++(lgH L++[]))∧l0.Perm s.list∧s.isOwn=true∧(s.list.map U5).Perm (L3 L.bs R L.nb)∧SortTo s.list s.list.length∧(∀ x∈s.list,x.recs.isOwn=true)∧s.list.length+Cb L.bs L.nb=L.nb):=by
 have hw:=h.dv.di.wf
 have hn2:=hw.n2
 have e:=h.segs L.nb (A2q _)
 have hlen:=Ab3 (bs:=L.bs) (R:=R) L.nb
 rw [Ey]
 refine (Z8 (lg:=L.lg) (bb:=L.bb) (last:=L.last) h.dv h.num hn2 h.lv.len (by rw [e];omega)).mono ?_
 rintro v H ⟨s,l0,h1,h2,h3,h4,h5,h6,h7⟩
 rw [e] at h5
 have h8:=h5.length_eq
 rw [A1a] at h8
 exact ⟨s,l0,h1,by rw [h2];simp,h3,h4,h5,h6,h7,by omega⟩
end
end
section
open Go.K
instance fld67_0:Fld Tryz.prog 67 0 0:=⟨⟨_,_,0,Tryz.underlying67,rfl,by kernel_rfl,rfl⟩⟩
instance ent163:Ent Tryz.prog 163:=⟨fun _ _=>by kernel_rfl⟩
structure Sg where
 S:Sto
 L:Lg
 R:Nat→List Pg
abbrev KM:Nat:=400000000000
theorem LogC.mono {nb k k':Nat} {V:Nat→Blk} {sq:Nat→Wd} {R:Nat→List Pg} (h:LogC nb k V sq R) (hk:k≤k'):LogC nb k' V sq R:=⟨h.bi,h.blk,fun j hj=>A2f (h.top j hj) hk,h.dis⟩
theorem Later.mono {c:Chip} {n k k' m:Nat} {V:Nat→Blk} (h:Later c n k m V) (hk:k≤k'):Later c n k' m V:=fun d h1 h2 h3 h4=>by
 obtain ⟨t2,x1,x2,x3⟩:=h d h1 h2 h3 h4
 exact ⟨t2,x1,x2.mono hk,x3⟩
theorem DownZ.mono {n nb k k':Nat} {q:Qt} {bs:List LB} {last e:Int} {R:Nat→List Pg} {p:Pg} {c c':Chip} (h:DownZ n nb k q bs last R p c c' e) (hk:k≤k'):DownZ n nb k' q bs last R p c c' e:=by
 obtain ⟨h1,h2,h3,h4,V,sq,R',h5,h6,h7⟩:=h
 exact ⟨h1,h2,h3,h4,V,sq,R',h5,h6.mono hk,h7.mono hk⟩
def WI (n k:Nat) (q:Qt) (z:Sg):Prop:=z.S.lg=z.L.lg∧∃ V,LZ n z.L.nb k q z.L.d z.L.bs z.L.last V z.R
theorem WI.mono {n k k':Nat} {q:Qt} {z:Sg} (h:WI n k q z) (hk:k≤k'):WI n k' q z:=⟨h.1,h.2.choose,h.2.choose_spec.mono hk⟩
def AppG (n:Nat) (q:Qt) (z:Sg) (p:Pg) (e:Int) (y:Pl2) (z':Sg):Prop :=
 z'.S=z.S∧z'.L.lg=z.L.lg∧z'.L.bb=z.L.bb∧z'.L.nb=z.L.nb∧z'.L.d.dk=z.L.d.dk ∧
 ((e≠30∧AppZ z.L.nb z.L.bs z.L.last z.R p e y.1 y.2 z'.L.last z'.L.bs z'.R∧FrA z.L.d.c z'.L.d.c∧(q.n=0→e=0→z'.L.last=z.L.last→Z4 z.L.d.c z'.L.d.c))∨DownZ n z.L.nb KM q z.L.bs z.L.last z.R p z.L.d.c z'.L.d.c e)
theorem AppL.g {n k:Nat} {q:Qt} {z:Sg} {p:Pg} {e pb pj:Int} {L':Lg} (h:AppL n k q z.L z.R p e pb pj L') (hlg:z.S.lg=z.L.lg) (hk:k≤300000000000):∃ R',AppG n q z p e (pb,pj) ⟨z.S,L',R'⟩∧(e≠30→WI n (k+80) q ⟨z.S,L',R'⟩):=by
 obtain ⟨h1,h2,h3,h4,h5⟩:=h
 rcases h5 with ⟨h5,R',V',h6,h7,h8,h9⟩ | h5
 ·exact ⟨R',⟨rfl,h1,h2,h3,h4,.inl ⟨h5,h6,h8,h9⟩⟩,fun _=>⟨hlg.trans h1.symm,V',by show LZ n L'.nb _ _ _ _ _ _ _;rw [h3];exact h7⟩⟩
 ·exact ⟨z.R,⟨rfl,h1,h2,h3,h4,.inr (h5.mono (by show k+80≤400000000000;omega))⟩,fun h9=>absurd h5.1 h9⟩
def ShR (n:Nat) (q:Qt) (z:Sg) (x:Pl2) (p:Pg) (e:Int) (z':Sg):Prop :=
 ∃ y z1,AppG n q z p e y z1∧z'=if e=0 then { z1 with S:=Dd z1.S x y } else z1
section
variable {n k:Nat} {q:Qt} {z:Sg}
theorem Uj {L:Lg} {V:Nat→Blk} {R:Nat→List Pg} (h:LZ n L.nb k q L.d L.bs L.last V R) (hk:k≤300000000000) (hq:q.n≤3) {kind:By} {s:Sl By} {b:Nat} (hj:s.list.length≤70000000000000) (hkd:3<kind.toNat) (hw:C6 kind s.list=false) :
  Does Tryz.prog 112 [ptr L.lg,bv kind,.slice (some ⟨b,0,none⟩) 1 1] (lgH L++((b,true,C [s.val] tSB)::(s.hp tU8++[])))
  (fun v H=>∃ (L':Lg) (e pb pj:Int),v= .tuple #[.agg #[.int .i64 pb,.int .i64 pj],.int .i64 e]∧H=lgH L'++[]∧AppL n k q L R (Cw kind s.list) e pb pj L'):=by
 have e2:(Sl.own b [s] 1 [] ⟨by simp,A2q _,by simp⟩:Sl (Sl By)).list=[s]:=rfl
 have e3:Bq [s]=s.list:=by simp [Bq]
 have hf:=Aiz (qs:= .own b [s] 1 [] ⟨by simp,A2q _,by simp⟩) h hk hq (by rw [e2,e3];exact hj) hkd (by rw [e2,e3];exact hw)
 rw [e2,e3] at hf
 have e:(Sl.own b [s] 1 [] ⟨by simp,A2q _,by simp⟩:Sl (Sl By)).hp tSB++(Dh [s]++[])=((b,true,C [s.val] tSB)::(s.hp tU8++[])):=by
  rw [Sl.hp_own,Cz,Ha]
  simp only [A0j,A1k,A1j]
  rfl
 rw [e] at hf
 exact hf
theorem Ann (h:WI n k q z) (hk:k≤300000000000) (hq:q.n≤3) {x:Pl2} {kind:By} {s:Sl By} (hj:s.list.length≤70000000000000) (hkd:3<kind.toNat) (hw:C6 kind s.list=false) :
  Does Tryz.prog 163 [ptr z.S.st,.agg #[.int .i64 x.1,.int .i64 x.2],bv kind,s.val] ((z.S.st,true,C (stC z.S) tSt)::(z.S.ib,true,z.S.idx.obj .i64)::(z.S.pb,true,z.S.pend.obj .i64)::(lgH z.L++(s.hp tU8++[])))
  (fun v H=>∃ (e:Int) (z':Sg),v= .int .i64 e∧H=(z'.S.st,true,C (stC z'.S) tSt)::(z'.S.ib,true,z'.S.idx.obj .i64)::(z'.S.pb,true,z'.S.pend.obj .i64)::(lgH z'.L++[])∧z'.S.st=z.S.st∧ShR n q z x (Cw kind s.list) e z'∧(e≠30→WI n (k+80) q z')):=by
 obtain ⟨hlg,V,hZ⟩:=h
 refine Ah (n:=29) Tryz.func163 Tryz.ntmps163 rfl (Ay9 rfl)<|Ad<|Aa fun ops=> ?_
 refine De rfl rfl fun b5=> ?_
 refine oA rfl<|Ac<|n_K<|Ad<|Aa fun ops=>oM rfl<|oN rfl<|oF rfl ?_
 refine oR (show Rd _ _ _ _ (ptr z.L.lg) from by rw [← hlg];exact Al rfl mM rfl) ?_
 refine oM rfl<|oM rfl ?_
 refine A5 rfl rfl rfl rfl fun b18=> ?_
 refine Bd rfl (Uj (b:=b18) hZ hk hq hj hkd hw) sP rfl fun v19 Y19 h19=> ?_
 obtain ⟨L1,e1,pb,pj,rfl,rfl,hA⟩:=h19
 obtain ⟨R1,hG,hW⟩:=hA.g hlg hk
 refine Ay aQ ?_
 refine oM rfl<|oE rfl rfl<|oE rfl rfl ?_
 refine Aw rfl fun b9=> ?_
 refine Af rfl rfl uD rfl rfl rfl ?_
 refine oA rfl<|Ac<|n_K<|Ad<|Ad<|Aa fun ops=>oM rfl<|oR (Ae rfl rfl rfl)<|Ac<|n_K ?_
 refine Aj rfl (fun c23=> ?_) (fun c23=> ?_)
 ·skip
  have he:e1=0:=(by simpa using c23)
  subst he
  refine Aa fun ops=>oM rfl ?_
  refine oR (Au rfl mM rfl) ?_
  refine oR (Au rfl mM rfl) ?_
  refine A6 rfl (Anb (S:=z.S) (f:=x) (t:=(pb,pj)) rfl) sP rfl aQ ?_
  refine Ac<|n_K<|Ad<|Aa fun ops=>oM rfl<|oA rfl<|Ac<|n_K<|An ?_
  exact Av (At Tryz.results163 (Ag rfl)) (by exact ⟨0,⟨Dd z.S x (pb,pj),L1,R1⟩,rfl,rfl,rfl,⟨(pb,pj),⟨z.S,L1,R1⟩,hG,rfl⟩,fun _=>⟨(hW (by decide)).1,(hW (by decide)).2⟩⟩) sP
 ·skip
  have he:e1≠0:=(by simpa using c23)
  refine Ai<|n_K<|Ad<|Aa fun ops=>oM rfl<|oA rfl<|Ac<|n_K<|An ?_
  exact Av (At Tryz.results163 (Ag rfl)) (by exact ⟨e1,⟨z.S,L1,R1⟩,rfl,rfl,rfl,⟨(pb,pj),⟨z.S,L1,R1⟩,hG,by rw [A26 he]⟩,hW⟩) sP
end
end
section
open Go.K
instance ent124:Ent Tryz.prog 124:=⟨fun _ _=>by kernel_rfl⟩
def I2 (S:Sto) (x:Pl2):Bool:=O5 S x || Fg S.idx x || Fg S.pend x
def RecAt (z:Sg) (x:Pl2) (p:Pg):Prop:=∃ b j:Nat,x=((b:Int),((2+j:Nat):Int))∧b<z.L.nb∧(z.R b)[j]? =some p
theorem AppZ.keep {nb:Nat} {bs bs':List LB} {last last' e pb pj:Int} {R R':Nat→List Pg} {p:Pg} (h:AppZ nb bs last R p e pb pj last' bs' R') {b j:Nat} {x:Pg} (hx:(R b)[j]? =some x):(R' b)[j]? =some x:=by
 cases h with
 | @into l h1 h2 h3 h4 h5 =>
  unfold upR
  split
  ·rename_i e
   subst e
   rw [Ayo (Aym.1 hx).1];exact hx
  ·exact hx
 | none=>exact hx
 | @fresh to _ h1 h2 h3 h4 h5 =>
  unfold upR
  split
  ·rename_i e
   rw [e,h5] at hx;cases hx
  ·exact hx
theorem AppZ.seq {nb:Nat} {bs bs':List LB} {last last' e pb pj:Int} {R R':Nat→List Pg} {p:Pg} (h:AppZ nb bs last R p e pb pj last' bs' R') (h40:e≠40) (hl:bs.length=nb) {j:Nat} (hj:j<nb) (hs:(bAt bs j).seq.toNat≠0):(bAt bs' j).seq=(bAt bs j).seq:=by
 cases h with
 | @into l h1 h2 h3 h4 h5 =>
  rw [Dq (by omega)]
  split
  ·rename_i e;rw [e]
  ·rfl
 | none=>exact absurd rfl h40
 | @fresh to _ h1 h2 h3 h4 h5 h6 h7 =>
  rcases h7 j hj (fun e=>by have:j=to:=(by omega);subst this;exact hs h4) with e | ⟨_,e⟩ <;> rw [e]
theorem AppG.rec {n:Nat} {q:Qt} {z z':Sg} {p:Pg} {e:Int} {y:Pl2} (h:AppG n q z p e y z') (he:e≠30) {x:Pl2} {r:Pg} (hx:RecAt z x r):RecAt z' x r:=by
 obtain ⟨h1,h2,h3,h4,h5,h6⟩:=h
 rcases h6 with ⟨_,hA,_⟩ | h6
 ·obtain ⟨b,j,g1,g2,g3⟩:=hx
  exact ⟨b,j,g1,by rw [h4];exact g2,hA.keep g3⟩
 ·exact absurd h6.1 he
theorem ShR.rec {n:Nat} {q:Qt} {z z':Sg} {p:Pg} {e:Int} {x0:Pl2} (h:ShR n q z x0 p e z') (he:e≠30) {x:Pl2} {r:Pg} (hx:RecAt z x r):RecAt z' x r:=by
 obtain ⟨y,z1,h1,h2⟩:=h
 have:=h1.rec he hx
 subst h2
 split
 ·exact this
 ·exact this
theorem ShR.nb {n:Nat} {q:Qt} {z z':Sg} {p:Pg} {e:Int} {x0:Pl2} (h:ShR n q z x0 p e z'):z'.L.nb=z.L.nb:=by
 obtain ⟨y,z1,h1,h2⟩:=h
 have:=h1.2.2.2.1
 subst h2
 split <;> exact this
theorem ShR.seq {n:Nat} {q:Qt} {z z':Sg} {p:Pg} {x0:Pl2} (h:ShR n q z x0 p 0 z') (hl:z.L.bs.length=z.L.nb) {j:Nat} (hj:j<z.L.nb) (hs:(bAt z.L.bs j).seq.toNat≠0):(bAt z'.L.bs j).seq.toNat≠0:=by
 obtain ⟨y,z1,h1,h2⟩:=h
 rw [A25 rfl] at h2
 subst h2
 rcases h1.2.2.2.2.2 with ⟨_,hA,_⟩ | h6
 ·show (bAt z1.L.bs j).seq.toNat≠0
  rw [hA.seq (by decide) hl hj hs];exact hs
 ·exact absurd h6.1 (by decide)
theorem WI.recP {n k:Nat} {q:Qt} {z:Sg} {x:Pl2} {p:Pg} (h:WI n k q z) (hx:RecAt z x p) (he:(Eb p).2.2.2=0):RecP p:=by
 obtain ⟨_,V,hZ⟩:=h
 obtain ⟨b,j,_,g2,g3⟩:=hx
 have hm:p∈z.R b:=Azn g3
 rcases hZ.lv.blk b g2 with ⟨_,r⟩ | u
 ·rw [r] at hm;cases hm
 ·rcases u.cnt.good p hm with h | h
  ·exact h
  ·exact absurd he h.1
theorem W3 {kind:By} {b:List By} (hk:3<kind.toNat) (hw:C6 kind b=false):Eb (Cw kind b)=(kind,b,0,0):=by
 unfold Eb
 rw [Ig hw,A26 (fun h=>by have:=h.2;simp only at this;omega)]
theorem Y2 {L:Lg} {n k:Nat} {q:Qt} {V:Nat→Blk} {R:Nat→List Pg} (h:LZ n L.nb k q L.d L.bs L.last V R) {b i:Nat} {kind:By} {bd:List By} (hb:b<L.nb) (hp:(R b)[i]? =some (Cw kind bd)) (hk:3<kind.toNat) (hw:C6 kind bd=false) :
  Does Tryz.prog 61 [ptr L.lg,.agg #[.int .i64 (b:Nat),.int .i64 ((2+i:Nat):Int)]] (lgH L)
  (fun v H=>∃ s:Sl By,v= .tuple #[bv kind,s.val,.int .i64 0,.int .i64 0]∧H=s.hp tU8++(lgH L++[])∧s.list=bd∧s.isOwn=true):=by
 have:=Auq h hb hp
 rw [W3 hk hw] at this
 exact this
inductive EmA (n:Nat) (q:Qt):List Pl2→Sg→Int→Sg→Prop
 | nil {z:Sg}:EmA n q [] z 0 z
 | skip {x:Pl2} {xs:List Pl2} {z z':Sg} {e:Int}:I2 z.S x=false→EmA n q xs z e z'→EmA n q (x::xs) z e z'
 | stop {x:Pl2} {xs:List Pl2} {z z1:Sg} {e:Int} {p:Pg}:I2 z.S x=true→RecAt z x p→ShR n q z x p e z1→e≠0→EmA n q (x::xs) z e z1
 | go {x:Pl2} {xs:List Pl2} {z z1 z':Sg} {e:Int} {p:Pg}:I2 z.S x=true→RecAt z x p→ShR n q z x p 0 z1→EmA n q xs z1 e z'→EmA n q (x::xs) z e z'
def DropG (n:Nat) (q:Qt) (z:Sg) (b:Nat) (e:Int) (z':Sg):Prop :=
 z'.S=z.S∧z'.L.lg=z.L.lg∧z'.L.bb=z.L.bb∧z'.L.nb=z.L.nb∧z'.L.d.dk=z.L.d.dk∧FrA z.L.d.c z'.L.d.c ∧
 ((e=0∧z'.L.bs=z.L.bs.set b (Ik ((bAt z.L.bs b).wear+1))∧z'.L.last=(if (b:Int)=z.L.last then Dw z'.L.bs z.L.nb else z.L.last)∧z'.R=upR z.R b [])∨(e=30∧z'.L.d.c.off=true∧¬ z.L.d.c.after<0))
theorem DropL.g {n k:Nat} {q:Qt} {z:Sg} {b:Nat} {e:Int} {L':Lg} (h:DropL n k q z.L z.R b e L') (hlg:z.S.lg=z.L.lg):∃ R',DropG n q z b e ⟨z.S,L',R'⟩∧(e≠30→WI n (k+40) q ⟨z.S,L',R'⟩):=by
 obtain ⟨h1,h2,h3,h4,h5,h6⟩:=h
 rcases h6 with ⟨rfl,h7,h8,V',h9⟩ | h6
 ·exact ⟨_,⟨rfl,h1,h2,h3,h4,h5,.inl ⟨rfl,h7,h8,rfl⟩⟩,fun _=>⟨hlg.trans h1.symm,V',by show LZ n L'.nb _ _ _ _ _ _ _;rw [h3];exact h9⟩⟩
 ·exact ⟨z.R,⟨rfl,h1,h2,h3,h4,h5,.inr h6⟩,fun h9=>absurd h6.1 h9⟩
def EmR (n:Nat) (q:Qt) (b:Nat) (xs:List Pl2) (z:Sg) (e:Int) (z':Sg):Prop:=(e≠0∧EmA n q xs z e z')∨∃ z1,EmA n q xs z 0 z1∧DropG n q z1 b e z'
structure EmI (z:Sg) (b:Nat) (xs:List Pl2):Prop where
 lt:b<z.L.nb
 seq:(bAt z.L.bs b).seq.toNat≠0
 recs:∀ x∈xs,∃ p,RecAt z x p∧(Eb p).2.2.2=0
theorem Ai0 {k:By} {b:List By} (h:C6 k b=false):b.length≤1000:=by
 unfold C6 at h
 simp at h
 omega
section
variable {n k:Nat} {q:Qt} {z:Sg}
theorem Ano (h:WI n k q z) (hk:k≤299999900000) (hq:q.n≤3) {s:Seg} {b:Nat} (hb:s.b=b) (hI:EmI z b s.recs.list) (h1000:s.recs.list.length≤1000) (hB:∀ z1,EmA n q s.recs.list z 0 z1→∀ j:Nat,j<8→I2 z1.S ((b:Int),(j:Int))=false) :
  Does Tryz.prog 124 [ptr z.S.st,.agg (Z5 s).toArray] ((z.S.st,true,C (stC z.S) tSt)::(z.S.ib,true,z.S.idx.obj .i64)::(z.S.pb,true,z.S.pend.obj .i64)::(lgH z.L++(s.recs.hp U4++[])))
  (fun v H=>∃ (e:Int) (z':Sg),v= .int .i64 e∧H=(z'.S.st,true,C (stC z'.S) tSt)::(z'.S.ib,true,z'.S.idx.obj .i64)::(z'.S.pb,true,z'.S.pend.obj .i64)::(lgH z'.L++(s.recs.hp U4++[]))∧z'.S.st=z.S.st∧EmR n q b s.recs.list z e z'∧(e≠30→WI n (k+80*s.recs.list.length+40) q z')):=by
 have hsm:=s.recs.small
 refine Ah (n:=119) Tryz.func124 Tryz.ntmps124 rfl (Ay9 rfl)<|Ad<|Aa fun ops=> ?_
 refine De rfl rfl fun b3=> ?_
 refine oA rfl<|Ac<|n_K<|Ad<|Ad<|Aa fun ops=>oF rfl ?_
 refine oR (Al rfl mM rfl) ?_
 refine oR (A7 rfl)<|oM rfl<|Ac<|n_K<|Ak ?_
 refine A8 [0,3,16,17] kQ (fun (st:Nat×Sg)=>[(18,.int .i64 st.1)]) (fun (st:Nat×Sg)=>(b3,true,C (Z5 s) Hj)::(st.2.S.st,true,C (stC st.2.S) tSt)::(st.2.S.ib,true,st.2.S.idx.obj .i64)::(st.2.S.pb,true,st.2.S.pend.obj .i64)::(lgH st.2.L++(s.recs.hp U4++[]))) (fun (st:Nat×Sg)=>st.1≤s.recs.list.length∧WI n (k+80*st.1) q st.2∧st.2.S.st=z.S.st∧EmI st.2 b s.recs.list∧∀ e z',EmA n q (s.recs.list.drop st.1) st.2 e z'→EmA n q s.recs.list z e z') (fun (st:Nat×Sg)=>s.recs.list.length - st.1) ((0,z)) ⟨A2r _,h.mono (by omega),rfl,hI,fun _ _ h9=>h9⟩ kP sP ?_
 rintro ⟨i,z1⟩ ⟨g0,g1,g2,g3,g4⟩
 simp only at g0 g1 g2 g3 g4
 rw [← g2]
 refine Ad<|Aa fun ops=>oR (Ae rfl rfl rfl)<|Ac<|n_K<|Ad ?_
 refine Aj rfl (fun c19=> ?_) (fun c19=> ?_)
 ·simp only [A0d,Ayz] at c19
  obtain ⟨x,hgx⟩:∃ x,s.recs.list[i]? =some x:=⟨_,Ayw (by omega)⟩
  obtain ⟨p,hrx,hgp⟩:=g3.recs x (Azn hgx)
  have hdr:s.recs.list.drop i=x::s.recs.list.drop (i+1):=(by obtain ⟨h7,h8⟩:=Aym.1 hgx;rw [← h8];exact Ayq h7)
  refine Ai<|n_K<|Ad<|Ak<|Ad<|Aa fun ops=> ?_
  refine oR (Bk rfl rfl (by omega)) ?_
  refine oR (Do (o:=0) rfl pL hgx rfl rfl) ?_
  refine Aw rfl fun b6=> ?_
  refine Af rfl rfl uD rfl rfl rfl ?_
  refine Ac<|n_K<|Ad<|Ad<|Aa fun ops=>oM rfl ?_
  refine oR (Au rfl mM rfl) ?_
  refine A6 rfl (Qm (S:=z1.S) (x:=x)) sP rfl aQ ?_
  refine oR (Bx rfl)<|Ac<|n_K ?_
  refine Aj rfl (fun c25=> ?_) (fun c25=> ?_)
  ·skip
   have hc:I2 z1.S x=false:=(by have h7:(!I2 z1.S x)=true:=c25;simpa using h7)
   refine Bb<|x_K<|Bj<|n_K<|Aa fun ops=> ?_
   refine oR (Ao rfl rfl (by omega)) ?_
   refine oM rfl<|Ac<|n_K ?_
   first | exact ⟨(i+1,z2),⟨by simp only;omega,(hW2 (by decide)).mono (by omega),hst2,⟨by rw [hSh.nb];exact g3.lt,hSh.seq hZ1.lv.len g3.lt g3.seq,fun x hx=>(let ⟨p,h1,h2⟩:=g3.recs x hx;⟨p,hSh.rec (by decide) h1,h2⟩)⟩,fun e z' h9=>g4 e z' (by rw [hdr];exact .go hc hrx hSh h9)⟩,by simp only;omega,by rw [← hst2];exact lZ⟩ | exact ⟨(i+1,z1),⟨by simp only;omega,g1.mono (by omega),rfl,g3,fun e z' h9=>g4 e z' (by rw [hdr];exact .skip hc h9)⟩,by simp only;omega,lZ⟩
  ·skip
   have hc:I2 z1.S x=true:=(by have h7:(!I2 z1.S x)=false:=c25;simpa using h7)
   obtain ⟨kind,bd,hkd,hwr,rfl⟩:=g1.recP hrx hgp
   obtain ⟨bN,jN,rfl,hbN,hpj⟩:=id hrx
   obtain ⟨hlg1,V1,hZ1⟩:=id g1
   refine Ai<|n_K<|Ad ?_
   refine s_draw [] [(5,[(0,false),(1,false),(2,false),(3,false),(4,false)]),(6,[(5,true)]),(15,[(6,false),(7,false),(8,false),(9,false),(10,false),(11,false),(12,false),(13,false),(14,false)])] (by kernel_rfl) rfl fun ops w0 H0 y=> ?_
   refine A4<|xM rfl<|xN rfl<|xF rfl ?_
   refine xR (show Rd _ _ _ _ (ptr z1.L.lg) from by rw [← hlg1];exact Al rfl mM rfl) ?_
   refine xR (Au rfl mM rfl) ?_
   refine Am<|Bh<|Be ?_
   refine Bd rfl (Y2 hZ1 hbN hpj hkd hwr) sP rfl fun v32 Y32 h32=> ?_
   obtain ⟨s32,rfl,rfl,hs32,ho32⟩:=h32
   refine Ay aQ ?_
   refine Ac ⟨rfl,⟨_,sP⟩,?_⟩
   refine Am<|A4<|xM rfl<|xE rfl rfl<|xE rfl rfl<|xE rfl rfl<|xE rfl rfl<|xA rfl<|xA rfl<|xA rfl<|xA rfl<|Am<|Bm<|n_K ?_
   refine Ad<|Ad<|Aa fun ops=>oM rfl<|oR (Ae rfl rfl rfl)<|Ac<|n_K ?_
   refine Bi rfl ?_
   refine Ai<|n_K<|Ad<|Aa fun ops=>oM rfl ?_
   refine oR (Au rfl mM rfl) ?_
   refine oM rfl<|oM rfl ?_
   refine Bd rfl (Ann (z:=z1) (x:=((bN:Int),((2+jN:Nat):Int))) g1 (by omega) hq (kind:=kind) (s:=s32) (by rw [hs32];have:=Ai0 hwr;omega) hkd (by rw [hs32];exact hwr)) sP rfl fun v44 Y44 h44=> ?_
   obtain ⟨e2,z2,rfl,rfl,hst2,hSh,hW2⟩:=h44
   refine Ay aQ ?_
   refine oA rfl<|Ac<|n_K<|Ad<|Aa fun ops=>oM rfl<|oR (Ae rfl rfl rfl)<|Ac<|n_K ?_
   refine Aj rfl (fun c46=> ?_) (fun c46=> ?_)
   ·skip
    have he:e2≠0:=(by simpa using c46)
    rw [hs32] at hSh
    refine Ad<|Aa fun ops=>oM rfl<|oA rfl<|Ac<|n_K<|An<|Bn<|r_K<|r_K<|Bn<|r_K ?_
    exact Av (At Tryz.results124 (Ag rfl)) (by exact ⟨e2,z2,rfl,rfl,hst2,.inl ⟨he,g4 _ _ (by rw [hdr];exact .stop hc hrx hSh he)⟩,fun h9=>(hW2 h9).mono (by omega)⟩) sP
   ·skip
    have he:e2=0:=(by simpa using c46)
    subst he
    rw [hs32] at hSh
    refine Ai<|Az<|n_K<|Aa fun ops=> ?_
    refine oR (Ao rfl rfl (by omega)) ?_
    refine oM rfl<|Ac<|n_K ?_
    first | exact ⟨(i+1,z2),⟨by simp only;omega,(hW2 (by decide)).mono (by omega),hst2,⟨by rw [hSh.nb];exact g3.lt,hSh.seq hZ1.lv.len g3.lt g3.seq,fun x hx=>(let ⟨p,h1,h2⟩:=g3.recs x hx;⟨p,hSh.rec (by decide) h1,h2⟩)⟩,fun e z' h9=>g4 e z' (by rw [hdr];exact .go hc hrx hSh h9)⟩,by simp only;omega,by rw [← hst2];exact lZ⟩ | exact ⟨(i+1,z1),⟨by simp only;omega,g1.mono (by omega),rfl,g3,fun e z' h9=>g4 e z' (by rw [hdr];exact .skip hc h9)⟩,by simp only;omega,lZ⟩
 ·simp only [A0d,Ayz] at c19
  have hi:i=s.recs.list.length:=(by omega)
  subst hi
  rw [List.drop_length] at g4
  have hEA:=g4 0 z1 .nil
  have hBB:=hB z1 hEA
  refine Bb<|x_K<|x_K<|Bj<|n_K<|Ad<|Ad<|Aa fun ops=>oM rfl<|Ac<|n_K<|Ak ?_
  refine A8 [0,3] kQ (fun (j:Nat)=>[(49,.int .i64 j)]) (fun (j:Nat)=>(b3,true,C (Z5 s) Hj)::(z1.S.st,true,C (stC z1.S) tSt)::(z1.S.ib,true,z1.S.idx.obj .i64)::(z1.S.pb,true,z1.S.pend.obj .i64)::(lgH z1.L++(s.recs.hp U4++[]))) (fun (j:Nat)=>j≤8) (fun (j:Nat)=>8 - j) (0) (A2r _) kP sP ?_
  rintro j g5
  refine Ad<|Aa fun ops=>oR (Ae rfl rfl rfl)<|Ac<|n_K<|Ad ?_
  refine Aj rfl (fun c50=> ?_) (fun c50=> ?_)
  ·simp only [A0d,Ayz] at c50
   have hj8:j<8:=(by omega)
   have hBj:=hBB j hj8
   refine Ai<|n_K<|Ad<|Ak<|Ad<|Aa fun ops=>oM rfl<|oA rfl<|Ac<|n_K<|Ad<|Aa fun ops=>oF rfl ?_
   refine oR (Al rfl mM rfl) ?_
   refine oM rfl<|oR (Bc rfl rfl) ?_
   refine Aw rfl fun b13=> ?_
   refine Af rfl rfl uD rfl rfl rfl ?_
   refine Ac<|n_K<|Ad<|Ad<|Aa fun ops=>oM rfl ?_
   refine oR (Au rfl mM rfl) ?_
   refine A6 rfl ((Qm (S:=z1.S) (x:=((s.b:Int),(j:Int))))) sP rfl aQ ?_
   refine oR (Bx rfl)<|Ac<|n_K ?_
   refine Aj rfl (fun c59=> ?_) (fun c59=> ?_)
   ·skip
    refine Bb<|x_K<|Bj<|n_K<|Aa fun ops=> ?_
    refine oR (Ao rfl rfl (by omega)) ?_
    refine oM rfl<|Ac<|n_K ?_
    exact ⟨j+1,(by omega),(by omega),lZ⟩
   ·skip
    exact absurd c59 (by have h7:I2 z1.S (s.b,(j:Int))=false:=(by rw [hb];exact hBj);unfold I2 at h7;rw [h7];decide)
  ·simp only [A0d,Ayz] at c50
   refine Bb<|x_K<|x_K<|Bj<|n_K<|Ad ?_
   refine s_draw [] [(6,[(0,false),(1,false),(2,false),(3,false),(4,false),(5,false)]),(7,[(6,true)]),(8,[(7,false)])] (by kernel_rfl) rfl fun ops w0 H0 y=> ?_
   refine A4<|xM rfl<|xN rfl<|xF rfl ?_
   refine xR (show Rd _ _ _ _ (ptr z1.L.lg) from by rw [← g1.1];exact Al rfl mM rfl) ?_
   refine xF rfl ?_
   refine xR (show Rd _ _ _ _ (.int .i64 (b:Nat)) from by rw [← hb];exact Al rfl mM rfl) ?_
   refine Am<|Bh<|Be ?_
   refine Bd rfl (Art g1.2.choose_spec (by omega) hq g3.lt g3.seq) sP rfl fun v118 Y118 h118=> ?_
   obtain ⟨L2,e3,rfl,rfl,hD⟩:=h118
   obtain ⟨R2,hDG,hW3⟩:=hD.g g1.1
   refine Ay aQ ?_
   refine Ac ⟨rfl,⟨_,sP⟩,?_⟩
   refine Am<|A4<|xA rfl<|Am<|Bm<|n_K<|An ?_
   exact Av (At Tryz.results124 (Ag rfl)) (by exact ⟨e3,⟨z1.S,L2,R2⟩,rfl,rfl,rfl,.inr ⟨z1,hEA,hDG⟩,fun h9=>(hW3 h9).mono (by omega)⟩) sP
end
end
section
open Go.K
instance plc271:Plc Tryz.prog 271 [(0,4),(4,1)]:=⟨⟨_,Tryz.underlying271,fun _=>by kernel_rfl⟩⟩
instance byt271:Byt Tryz.prog 271 56:=⟨by kernel_rfl⟩
instance ent152:Ent Tryz.prog 152:=⟨fun _ _=>by kernel_rfl⟩
theorem Anp (l1 l2:List Seg) (g:Seg) (D:Hp):I1 (l1++g::l2)++D=I1 l1++(g.recs.hp U4++(I1 l2++D)):=by simp [I1]
theorem Agj {l:List Seg} {g:Seg} {A B:Hp} (hg:g∈l) (hp:PickL (I1 l) A B):Sub (g.recs.hp U4) A:=fun x hx=>hp.sub (A0u.2 ⟨g,hg,hx⟩)
def Gd (S:Sto) (xs:List Pl2):Nat:=xs.countP (I2 S)
def ldS (S:Sto) (g:Seg):Ldv:=⟨g,(Gd S g.recs.list:Nat)⟩
theorem Ai1 {S:Sto} {xs:List Pl2} {i:Nat} {x:Pl2} (h:xs[i]? =some x):Gd S (xs.take (i+1))=Gd S (xs.take i)+if I2 S x=true then 1 else 0:=by
 unfold Gd
 rw [A0i,h,List.countP_append]
 simp [List.countP_cons]
theorem Qo {xs:List Ldv} {but:Int}:∀ {i:Nat},(C2 xs but i).2=true→(C2 xs but i).1<i∧(C2 xs but i).1≠but
 | 0,h=>by cases h
 | i+1,h=>by
  unfold C2 at h ⊢
  split at h
  ·rename_i hc
   rw [A25 hc]
   simp only [A0r,A0e,Ayz] at hc
   exact ⟨by simp only;omega,hc.1⟩
  ·rename_i hc
   rw [A26 hc]
   have:=Qo h
   exact ⟨by omega,this.2⟩
def SegsOf (z:Sg) (ss:List Seg):Prop:=(ss.map U5).Perm (L3 z.L.bs z.R z.L.nb)∧SortTo ss ss.length
theorem SegsOf.mem {z:Sg} {ss:List Seg} (h:SegsOf z ss) {g:Seg} (hg:g∈ss):∃ b:Nat,b<z.L.nb∧(bAt z.L.bs b).seq.toNat≠0∧g.b=b∧g.seq=(bAt z.L.bs b).seq∧g.wear=(bAt z.L.bs b).wear∧g.recs.list=Fw b 2 (z.R b):=by
 have:U5 g∈L3 z.L.bs z.R z.L.nb:=h.1.mem_iff.1 (A2b.2 ⟨g,hg,rfl⟩)
 obtain ⟨j,h1,h2,h3⟩:=segZ_mem.1 this
 unfold U5 at h3
 simp only [A13] at h3
 exact ⟨j,h1,h2,h3.1,h3.2.1,h3.2.2.1,h3.2.2.2⟩
theorem Aur {z:Sg} {b:Nat} (hb:b<z.L.nb) (hs:(bAt z.L.bs b).seq.toNat≠0):EmI z b (Fw b 2 (z.R b)) :=
 ⟨hb,hs,fun x hx=>by
  obtain ⟨j,p,h1,h2,h3⟩:=recZ_mem.1 hx
  exact ⟨p,⟨b,j,h3,hb,h1⟩,h2⟩⟩
theorem Ai2 {z:Sg} {n k:Nat} {q:Qt} {ss:List Seg} (h:WI n k q z) (hs:SegsOf z ss) (hv:(Fv (ss.map (ldS z.S))).2=true) {g:Seg} (hg:ss[(Fv (ss.map (ldS z.S))).1.toNat]? =some g):g.b≠z.L.last:=by
 obtain ⟨_,V,hZ⟩:=h
 intro hl
 have hok:=Qo (i:=(ss.map (ldS z.S)).length) hv
 have hin:=J1 (ss.map (ldS z.S)) (D4 (ss.map (ldS z.S)) (ss.map (ldS z.S)).length:Nat) (ss.map (ldS z.S)).length
 obtain ⟨b,hb,hsq,hgb,hgs,_,_⟩:=hs.mem (Azn hg)
 rw [A1a] at hok hin
 have hmax:∀ i,i≤ss.length→(i=0∨D4 (ss.map (ldS z.S)) i<i)∧∀ j<i,(Jf (ss.map (ldS z.S)) j).s.seq.toNat≤(Jf (ss.map (ldS z.S)) (D4 (ss.map (ldS z.S)) i)).s.seq.toNat:=fun i=>by
  induction i with
  | zero=>exact fun _=>⟨.inl rfl,fun j hj=>by omega⟩
  | succ i ih =>
   intro hi
   obtain ⟨h1,h2⟩:=ih (by omega)
   unfold D4
   split
   ·rename_i hlt
    refine ⟨.inr (by omega),fun j hj=> ?_⟩
    by_cases e:j=i
    ·subst e;exact A2q _
    ·have:=h2 j (by omega);omega
   ·rename_i hlt
    refine ⟨.inr (by rcases Ui (ss.map (ldS z.S)) i with h | h <;> omega),fun j hj=> ?_⟩
    by_cases e:j=i
    ·subst e;omega
    ·exact h2 j (by omega)
 obtain ⟨m1,m2⟩:=hmax ss.length (A2q _)
 have hlen:(Fv (ss.map (ldS z.S))).1.toNat<ss.length:=(Aym.1 hg).1
 have hat:∀ j,j<ss.length→∃ g',ss[j]? =some g'∧(Jf (ss.map (ldS z.S)) j).s=g':=fun j hj=>by
  refine ⟨ss[j],Ayw hj,?_⟩
  unfold Jf
  simp only [Ayg,A0f,Ayw hj,A1g,A0t]
  rfl
 have hm:=m2 _ hlen
 obtain ⟨g1,e1,e2⟩:=hat _ hlen
 have:g1=g:=by rw [hg] at e1;exact (A1h e1).symm
 subst this
 have hll:D4 (ss.map (ldS z.S)) ss.length<ss.length:=by omega
 obtain ⟨g2,f1,f2⟩:=hat _ hll
 rw [e2,f2] at hm
 obtain ⟨b2,hb2,hsq2,hgb2,hgs2,_,_⟩:=hs.mem (Azn f1)
 have hbl:(b:Int)=z.L.last:=by rw [← hgb];exact hl
 have hbb:b2=b:=by
  rcases hZ.lv.lst with ⟨h1,_⟩ | ⟨l,h1,h2,h3,h4⟩
  ·omega
  ·have hlb:l=b:=by omega
   subst hlb
   by_cases e:b2=l
   ·exact e
   ·have:=h4 b2 hb2 e
    rw [hgs,hgs2] at hm
    omega
 have hnd:(ss.map (·.b)).Nodup:=by
  have h1:(ss.map (·.b))=(ss.map U5).map (·.1):=by rw [A2c];rfl
  rw [h1]
  refine (hs.1.map (·.1)).nodup_iff.2 ?_
  have key:∀ j,((L3 z.L.bs z.R j).map (·.1)).Nodup∧∀ x∈(L3 z.L.bs z.R j).map (·.1),x<(j:Int):=fun j=>by
   induction j with
   | zero=>exact ⟨A1u,fun x hx=>by cases hx⟩
   | succ j ih =>
    unfold L3
    rw [A1i]
    split
    ·simp only [A2d,A1j]
     exact ⟨ih.1,fun x hx=>by have:=ih.2 x hx;omega⟩
    ·refine ⟨A0g.2 ⟨ih.1,by simp,fun a ha c hc e=> ?_⟩,fun x hx=> ?_⟩
     ·simp only [A15,A2d,Azy] at hc
      have:=ih.2 a ha
      omega
     ·rcases A1d.1 hx with h | h
      ·have:=ih.2 x h;omega
      ·simp only [A15,A2d,Azy] at h
       omega
  exact (key z.L.nb).1
 have hidx:(Fv (ss.map (ldS z.S))).1.toNat=D4 (ss.map (ldS z.S)) ss.length:=by
  have e3:(ss.map (·.b))[(Fv (ss.map (ldS z.S))).1.toNat]? =some (b:Int):=by rw [A0f,hg,A1g,hgb]
  have e4:(ss.map (·.b))[D4 (ss.map (ldS z.S)) ss.length]? =some (b:Int):=by rw [A0f,f1,A1g,hgb2,hbb]
  obtain ⟨x1,x2⟩:=Aym.1 e3
  obtain ⟨y1,y2⟩:=Aym.1 e4
  exact (List.getElem_inj hnd).1 (x2.trans y2.symm)
 have h9:=hok.2
 apply h9
 have hvF:Fv (ss.map (ldS z.S))=C2 (ss.map (ldS z.S)) (D4 (ss.map (ldS z.S)) ss.length:Nat) ss.length:=by unfold Fv;rw [A1a]
 have hv0:0≤(Fv (ss.map (ldS z.S))).1:=by rw [hvF];exact hin.1
 rw [← hvF]
 omega
def ColR (n:Nat) (q:Qt) (z:Sg) (e:Int) (z':Sg):Prop :=
 ∃ ss:List Seg,SegsOf z ss∧(((Fv (ss.map (ldS z.S))).2=false∧e=40∧z'=z) ∨
  ((Fv (ss.map (ldS z.S))).2=true∧∃ (g:Seg) (b:Nat),ss[(Fv (ss.map (ldS z.S))).1.toNat]? =some g∧g.b=b∧(b:Int)≠z.L.last∧EmR n q b (Fw b 2 (z.R b)) z e z'))
def Aus (n:Nat) (q:Qt) (z:Sg):Prop:=∀ b:Nat,b<z.L.nb→(bAt z.L.bs b).seq.toNat≠0→(b:Int)≠z.L.last→∀ z1,EmA n q (Fw b 2 (z.R b)) z 0 z1→∀ j:Nat,j<8→I2 z1.S ((b:Int),(j:Int))=false
theorem O8 (b:Int):∀ (r:List Pg) (i:Nat),(Fw b i r).length≤r.length
 | [],_=>A2q _
 | p::r,i=>by
  have:=O8 b r (i+1)
  show ((if _ then _ else _)++Fw b (i+1) r).length≤_
  rw [Azz,A0q]
  split <;> simp <;> omega
theorem LZ.rlen {n nb k:Nat} {q:Qt} {d:Dsk} {bs:List LB} {last:Int} {V:Nat→Blk} {R:Nat→List Pg} (h:LZ n nb k q d bs last V R) {b:Nat} (hb:b<nb):(Fw b 2 (R b)).length≤6:=by
 have h1:=O8 b (R b) 2
 rcases h.lv.blk b hb with ⟨_,r⟩ | u
 ·rw [r];exact A2r _
 ·have:=u.cnt.len;omega
theorem Anq (xs:List Ldv):0≤(Fv xs).1:=(J1 _ _ _).1
section
variable {n k:Nat} {q:Qt} {z:Sg}
theorem Aej (h:WI n k q z) (hk:k≤299999900000) (hq:q.n≤3) (h12:z.L.nb≤Cb z.L.bs z.L.nb+12) (hB:Aus n q z) :
  Does Tryz.prog 152 [ptr z.S.st] ((z.S.st,true,C (stC z.S) tSt)::(z.S.ib,true,z.S.idx.obj .i64)::(z.S.pb,true,z.S.pend.obj .i64)::(lgH z.L++[]))
  (fun v H=>∃ (e:Int) (z':Sg),v= .int .i64 e∧H=(z'.S.st,true,C (stC z'.S) tSt)::(z'.S.ib,true,z'.S.idx.obj .i64)::(z'.S.pb,true,z'.S.pend.obj .i64)::(lgH z'.L++[])∧z'.S.st=z.S.st∧ColR n q z e z'∧(e≠30→WI n (k+1000) q z')):=by
 obtain ⟨V,hZ⟩:=h.2
 have hnb:z.L.nb≤40:=(by have:=hZ.num;have:=hZ.dv.di.wf.n2;omega)
 refine Ah (n:=56) Tryz.func152 Tryz.ntmps152 rfl (Ay9 rfl)<|Ad<|Aa fun ops=>oA rfl<|Ac<|n_K<|Ad<|Aa fun ops=>oM rfl<|oN rfl<|oF rfl ?_
 refine oR (show Rd _ _ _ _ (ptr z.L.lg) from by rw [← h.1];exact Al rfl mM rfl) ?_
 refine Bd rfl (Agi hZ h12) sP rfl fun v16 Y16 h16=> ?_
 obtain ⟨s,l0,rfl,rfl,hp0,hso,hpm,hst,hro,hln⟩:=h16
 refine Ay aQ ?_
 refine oA rfl<|Ac<|n_K<|Ad<|Aa fun ops=>oA rfl<|Ac<|n_K<|Ad<|Ad<|Aa fun ops=>oM rfl<|oR (A7 rfl)<|oM rfl ?_
 refine Ac<|n_K<|Ak ?_
 have hSO:SegsOf z s.list:=⟨hpm,hst⟩
 have hsn:s.list.length≤40:=(by omega)
 refine Im (Gu (α:=Ldv) (T:=tLd)) ?_
 refine A8 [0,3,17,18] kQ (fun (st:Nat×Sl Ldv)=>[(19,.int .i64 st.1),(4,st.2.val)]) (fun (st:Nat×Sl Ldv)=>(st.2.hp tLd++((z.S.st,true,C (stC z.S) tSt)::(z.S.ib,true,z.S.idx.obj .i64)::(z.S.pb,true,z.S.pend.obj .i64)::(lgH z.L++(s.hp Hj++(I1 l0++[])))))) (fun (st:Nat×Sl Ldv)=>st.1≤s.list.length∧st.2.list=(s.list.take st.1).map (ldS z.S)∧st.2.isOwn=true) (fun (st:Nat×Sl Ldv)=>s.list.length - st.1) ((0,Sl.nil)) ⟨A2r _,rfl,rfl⟩ kP sP ?_
 rintro ⟨i,lds⟩ ⟨g0,g1,g2⟩
 simp only at g0 g1 g2
 have hll:lds.list.length≤40:=(by rw [g1,A1a,A0v];omega)
 refine Ad<|Aa fun ops=>oR (Ae rfl rfl rfl)<|Ac<|n_K<|Ad ?_
 refine Aj rfl (fun c20=> ?_) (fun c20=> ?_)
 ·simp only [A0d,Ayz] at c20
  obtain ⟨g,hg⟩:∃ g,s.list[i]? =some g:=⟨_,Ayw (by omega)⟩
  have hgl:g∈l0:=hp0.mem_iff.2 (Azn hg)
  obtain ⟨bN,hbN,_,_,_,_,hrl⟩:=hSO.mem (Azn hg)
  have hr6:g.recs.list.length≤6:=(by rw [hrl];exact hZ.rlen hbN)
  refine Ai<|n_K<|Ad<|Ak<|Ad<|Aa fun ops=> ?_
  refine oR (Bk (s:=s) rfl rfl (by omega)) ?_
  refine oR (Do (s:=s) (o:=0) rfl pL hg rfl rfl) ?_
  refine Aw rfl fun b6=> ?_
  refine Af rfl rfl uD rfl rfl rfl ?_
  refine Ac<|n_K<|Ad<|Aa fun ops=>oA rfl<|Ac<|n_K<|Ad<|Ad<|Aa fun ops=>oF rfl ?_
  refine oR (Al rfl mM rfl) ?_
  refine oR (A7 rfl)<|oM rfl<|Ac<|n_K<|Ak ?_
  refine A8 [0,3,4,6,17,18,19,24,25] kQ (fun (j:Nat)=>[(26,.int .i64 j),(7,.int .i64 (Gd z.S (g.recs.list.take j):Nat))]) (fun (j:Nat)=>(b6,true,C (Z5 g) Hj)::(lds.hp tLd++((z.S.st,true,C (stC z.S) tSt)::(z.S.ib,true,z.S.idx.obj .i64)::(z.S.pb,true,z.S.pend.obj .i64)::(lgH z.L++(s.hp Hj++(I1 l0++[])))))) (fun (j:Nat)=>j≤g.recs.list.length) (fun (j:Nat)=>g.recs.list.length - j) (0) (A2r _) kP sP ?_
  rintro j k0
  refine Ad<|Aa fun ops=>oR (Ae rfl rfl rfl)<|Ac<|n_K<|Ad ?_
  refine Aj rfl (fun c27=> ?_) (fun c27=> ?_)
  ·simp only [A0d,Ayz] at c27
   obtain ⟨x,hgx⟩:∃ x,g.recs.list[j]? =some x:=⟨_,Ayw (by omega)⟩
   have hct:=Ai1 (S:=z.S) hgx
   have hcle:Gd z.S (g.recs.list.take j)≤6:=(by have:=List.countP_le_length (p:=I2 z.S) (l:=g.recs.list.take j);rw [A0v] at this;unfold Gd;omega)
   refine Ai<|n_K<|Ad<|Ak<|Ad<|Aa fun ops=> ?_
   refine oR (Bk (s:=g.recs) rfl rfl (by omega)) ?_
   refine oR (V6 (s:=g.recs) (o:=0) rfl (Agj hgl pL) hgx rfl rfl) ?_
   refine Aw rfl fun b9=> ?_
   refine Af rfl rfl uD rfl rfl rfl ?_
   refine Ac<|n_K<|Ad<|Aa fun ops=>oM rfl ?_
   refine oR (Au rfl mM rfl) ?_
   refine A6 rfl (Qm (S:=z.S) (x:=x)) sP rfl aQ ?_
   refine Ac<|n_K ?_
   refine Aj rfl (fun c32=> ?_) (fun c32=> ?_)
   ·skip
    have hcT:Gd z.S (g.recs.list.take (j+1))=Gd z.S (g.recs.list.take j)+1:=(by rw [hct,A25 (show I2 z.S x=true from c32)])
    refine Aa fun ops=>oM rfl ?_
    refine oR (Ao rfl rfl (by omega)) ?_
    refine oA rfl<|Ac<|Az<|n_K<|Aa fun ops=> ?_
    refine oR (Ao rfl rfl (by omega)) ?_
    refine oM rfl<|Ac<|n_K ?_
    first | exact ⟨j+1,by omega,by omega,(by rw [hcT];exact kP),kP,_,sP⟩ | exact ⟨j+1,by omega,by omega,(by rw [hcF];exact kP),kP,_,sP⟩
   ·skip
    have hcF:Gd z.S (g.recs.list.take (j+1))=Gd z.S (g.recs.list.take j):=(by rw [hct,A26 (by rw [show I2 z.S x=false from c32];decide),A2e])
    refine Ai<|Az<|n_K<|Aa fun ops=> ?_
    refine oR (Ao rfl rfl (by omega)) ?_
    refine oM rfl<|Ac<|n_K ?_
    first | exact ⟨j+1,by omega,by omega,(by rw [hcT];exact kP),kP,_,sP⟩ | exact ⟨j+1,by omega,by omega,(by rw [hcF];exact kP),kP,_,sP⟩
  ·simp only [A0d,Ayz] at c27
   have hj:j=g.recs.list.length:=(by omega)
   subst hj
   rw [A0w]
   refine Bb<|x_K<|x_K<|Bj<|n_K<|Aa fun ops=>oM rfl ?_
   refine oR (Au rfl mM rfl) ?_
   refine oM rfl<|oR (Bc rfl rfl) ?_
   refine A5 rfl rfl rfl rfl fun b40=> ?_
   refine Bp (s:=lds) (new:=[(⟨g,(Gd z.S g.recs.list:Nat)⟩:Ldv)]) (m:=1) rfl rfl pL g2 (Cv (r:=true) mM rfl) rfl rfl rfl rfl (by omega) rfl fun s' hs1 hs2=> ?_
   refine oA rfl<|Ac<|Az<|n_K<|Aa fun ops=> ?_
   refine oR (Ao rfl rfl (by omega)) ?_
   refine oM rfl<|Ac<|n_K ?_
   exact ⟨(i+1,s'),⟨by simp only;omega,by simp only;rw [hs1,g1,A0i,hg,A1i];rfl,hs2⟩,(by simp only;omega),lZ⟩
 ·simp only [A0d,Ayz] at c20
  have hi:i=s.list.length:=(by omega)
  subst hi
  rw [A0w] at g1
  refine Bb<|x_K<|x_K<|Bj<|n_K<|Ad<|Aa fun ops=>oM rfl ?_
  refine A6 rfl (Ars (s:=lds)) sP rfl aQ ?_
  refine oM rfl<|oE rfl rfl<|oE rfl rfl<|oA rfl<|oA rfl<|Ac<|n_K<|Ad<|Ad<|Aa fun ops=>oM rfl<|oR (Bx rfl)<|Ac<|n_K ?_
  refine Aj rfl (fun c49=> ?_) (fun c49=> ?_)
  ·skip
   have hv:(Fv (s.list.map (ldS z.S))).2=false:=(by rw [← g1];simpa using c49)
   refine Ad<|Aa fun ops=>oA rfl<|Ac<|n_K<|An<|r_K ?_
   exact Av (At Tryz.results152 (Ag rfl)) (by exact ⟨40,z,rfl,rfl,rfl,⟨s.list,hSO,.inl ⟨hv,rfl,rfl⟩⟩,fun _=>h.mono (by omega)⟩) sP
  ·skip
   have hv:(Fv (s.list.map (ldS z.S))).2=true:=(by rw [← g1];simpa using c49)
   have hok:=Qo hv
   have hin:=J1 (s.list.map (ldS z.S)) (D4 (s.list.map (ldS z.S)) (s.list.map (ldS z.S)).length:Nat) (s.list.map (ldS z.S)).length
   rw [A1a] at hok hin
   have hvl:(Fv lds.list).1.toNat<s.list.length:=(by rw [g1];show (C2 _ _ _).1.toNat<_;rw [A1a];omega)
   have hv0:=Anq lds.list
   obtain ⟨g,hg⟩:∃ g,s.list[(Fv lds.list).1.toNat]? =some g:=⟨_,Ayw hvl⟩
   have hgl:g∈l0:=hp0.mem_iff.2 (Azn hg)
   obtain ⟨bN,hbN,hsq,hgb,_,_,hrl⟩:=hSO.mem (Azn hg)
   have hr6:g.recs.list.length≤6:=(by rw [hrl];exact hZ.rlen hbN)
   have hnl:(bN:Int)≠z.L.last:=(by rw [← hgb];exact Ai2 h hSO hv (by rw [← g1];exact hg))
   obtain ⟨l1,l2,rfl⟩:=List.append_of_mem hgl
   refine Ai<|n_K<|Ad<|Aa fun ops=>oM rfl<|oM rfl<|oM rfl ?_
   refine oR (Bk (s:=s) rfl rfl (by omega)) ?_
   refine oR (Do (s:=s) (o:=0) rfl pL hg rfl rfl) ?_
   rw [Anp]
   refine Bd rfl (Ano (z:=z) h (by omega) hq (s:=g) hgb (by rw [hrl];exact Aur hbN hsq) (by omega) (by rw [hrl];exact hB bN hbN hsq hnl)) sP rfl fun v55 Y55 h55=> ?_
   obtain ⟨e1,z1,rfl,rfl,hst1,hE,hW⟩:=h55
   refine Ay aQ ?_
   refine oA rfl<|Ac<|n_K<|An ?_
   exact Av (At Tryz.results152 (Ag rfl)) (by exact ⟨e1,z1,rfl,rfl,hst1,⟨s.list,hSO,.inr ⟨hv,g,bN,by rw [← g1];exact hg,hgb,hnl,by rw [← hrl];exact hE⟩⟩,fun h9=>(hW h9).mono (by omega)⟩) sP
end
end
section
open Go.K
instance ent68:Ent Tryz.prog 68:=⟨fun _ _=>by kernel_rfl⟩
instance ent111:Ent Tryz.prog 111:=⟨fun _ _=>by kernel_rfl⟩
theorem EmA.nb {n:Nat} {q:Qt} {xs:List Pl2} {z z':Sg} {e:Int} (h:EmA n q xs z e z'):z'.L.nb=z.L.nb:=by
 induction h with
 | nil=>rfl
 | skip _ _ ih=>exact ih
 | stop _ _ hs _=>exact hs.nb
 | go _ _ hs _ ih=>exact ih.trans hs.nb
theorem EmR.nb {n:Nat} {q:Qt} {b:Nat} {xs:List Pl2} {z z':Sg} {e:Int} (h:EmR n q b xs z e z'):z'.L.nb=z.L.nb:=by
 rcases h with ⟨_,h⟩ | ⟨z1,h,hd⟩
 ·exact h.nb
 ·exact hd.2.2.2.1.trans h.nb
theorem ColR.nb {n:Nat} {q:Qt} {z z':Sg} {e:Int} (h:ColR n q z e z'):z'.L.nb=z.L.nb:=by
 obtain ⟨ss,_,h⟩:=h
 rcases h with ⟨_,_,rfl⟩ | ⟨_,g,b,_,_,_,h⟩
 ·rfl
 ·exact h.nb
inductive ColS (n:Nat) (q:Qt) (z:Sg):Sg→Prop
 | refl:ColS n q z z
 | step {z1 z2:Sg}:ColS n q z z1→(∃ k,k≤300000000000∧WI n k q z1)→Cb z1.L.bs z1.L.nb≤1→ColR n q z1 0 z2→ColS n q z z2
def Y3 (n:Nat) (q:Qt) (z:Sg):Prop:=∀ z1,ColS n q z z1→(∃ k,k≤300000000000∧WI n k q z1)→Cb z1.L.bs z1.L.nb≤1→Cb z1.L.bs z1.L.nb≠0∧z1.L.nb≤Cb z1.L.bs z1.L.nb+12∧Aus n q z1
inductive RoomR (n:Nat) (q:Qt):Nat→Sg→Int→Sg→Prop
 | enough {m:Nat} {z:Sg}:1<Cb z.L.bs z.L.nb→RoomR n q m z 0 z
 | out {z:Sg}:RoomR n q 0 z 0 z
 | stop {m:Nat} {z z1:Sg} {e:Int}:Cb z.L.bs z.L.nb≤1→ColR n q z e z1→e≠0→RoomR n q (m+1) z e z1
 | go {m:Nat} {z z1 z':Sg} {e:Int}:Cb z.L.bs z.L.nb≤1→ColR n q z 0 z1→RoomR n q m z1 e z'→RoomR n q (m+1) z e z'
def PutG (n:Nat) (q:Qt) (z:Sg) (p:Pg) (e:Int) (y:Pl2) (z':Sg):Prop :=
 (e≠0∧RoomR n q (8*z.L.nb) z e z')∨∃ z1,RoomR n q (8*z.L.nb) z 0 z1∧AppG n q z1 p e y z'
section
variable {n k:Nat} {q:Qt} {z:Sg}
theorem WI.nb40 (h:WI n k q z):z.L.nb≤40:=by
 obtain ⟨V,hZ⟩:=h.2
 have:=hZ.num
 have:=hZ.dv.di.wf.n2
 omega
theorem Anr (h:WI n k q z) (hk:k≤299999500000) (hq:q.n≤3) (hS:Y3 n q z) :
  Does Tryz.prog 111 [ptr z.S.st] ((z.S.st,true,C (stC z.S) tSt)::(z.S.ib,true,z.S.idx.obj .i64)::(z.S.pb,true,z.S.pend.obj .i64)::(lgH z.L++[]))
  (fun v H=>∃ (e:Int) (z':Sg),v= .int .i64 e∧H=(z'.S.st,true,C (stC z'.S) tSt)::(z'.S.ib,true,z'.S.idx.obj .i64)::(z'.S.pb,true,z'.S.pend.obj .i64)::(lgH z'.L++[])∧z'.S.st=z.S.st∧RoomR n q (8*z.L.nb) z e z'∧(e≠30→WI n (k+320000) q z')∧z'.L.nb=z.L.nb):=by
 have hnb:=h.nb40
 refine Ah (n:=43) Tryz.func111 Tryz.ntmps111 rfl (Ay9 rfl)<|Ad<|Aa fun ops=>oA rfl<|Ac<|n_K<|Ad<|Ad<|Aa fun ops=>oA rfl<|Ac<|n_K<|Ak ?_
 refine A8 [0] kQ (fun (st:Nat×Sg)=>[(3,.int .i64 st.1)]) (fun (st:Nat×Sg)=>(st.2.S.st,true,C (stC st.2.S) tSt)::(st.2.S.ib,true,st.2.S.idx.obj .i64)::(st.2.S.pb,true,st.2.S.pend.obj .i64)::(lgH st.2.L++[])) (fun (st:Nat×Sg)=>st.1≤8*z.L.nb∧WI n (k+1000*st.1) q st.2∧st.2.S.st=z.S.st∧st.2.L.nb=z.L.nb∧ColS n q z st.2∧∀ e z',RoomR n q (8*z.L.nb - st.1) st.2 e z'→RoomR n q (8*z.L.nb) z e z') (fun (st:Nat×Sg)=>8*z.L.nb - st.1) ((0,z)) ⟨A2r _,h.mono (by omega),rfl,rfl,.refl,fun _ _ h9=>h9⟩ kP sP ?_
 rintro ⟨t,z1⟩ ⟨g0,g1,g2,g3,g4,g5⟩
 simp only at g0 g1 g2 g3 g4 g5
 rw [← g2]
 obtain ⟨V1,hZ1⟩:=g1.2
 have hul:=hZ1.ulen
 have hWk:∃ k,k≤300000000000∧WI n k q z1:=⟨k+1000*t,by omega,g1⟩
 have hS1:=hS z1 g4 hWk
 refine Ad<|Ad ?_
 refine Bf [(6,12)] rfl fun ops y=> ?_
 refine oM rfl<|oN rfl<|oF rfl ?_
 refine oR (show Rd _ _ _ _ (ptr z1.L.lg) from by rw [← g1.1];exact Al rfl mM rfl) ?_
 refine A6 rfl (Agh (L:=z1.L) hZ1.lv.len (by omega)) sP rfl aQ ?_
 refine oR (Ae rfl rfl rfl)<|oM rfl ?_
 refine' Df (j:=6) (k:=11) y rfl rfl rfl rfl rfl rfl rfl (fun hg12=> ?_) ?_
 rotate_left
 ·try (simp at hg12;show _)
  refine o_g y rfl rfl ?_
  refine oM rfl ?_
  refine o_g y rfl rfl ?_
  refine oM rfl ?_
  refine o_g y rfl rfl ?_
  refine oN rfl ?_
  refine o_g y rfl rfl ?_
  refine oF rfl ?_
  refine o_g y rfl rfl ?_
  refine oR (show Rd _ _ _ _ (ptr z1.L.lg) from by rw [← g1.1];exact Al rfl mM rfl) ?_
  refine o_g y rfl rfl ?_
  refine oN rfl ?_
  refine o_g y rfl rfl ?_
  refine oF rfl ?_
  refine o_g y rfl rfl ?_
  refine oR (Qn rfl pL) ?_
  refine o_g y rfl rfl ?_
  refine A6 rfl ((Anm (L:=z1.L)).to (by rw [hul,g3]) rfl) sP rfl aQ ?_
  refine o_g y rfl rfl ?_
  refine oR (To rfl rfl (by omega)) ?_
  refine o_g y rfl rfl ?_
  refine oR (Ae rfl rfl rfl) ?_
  exact Ac ⟨rfl,rfl,⟨_,sP⟩⟩
 refine Ac<|n_K ?_
 refine Aj rfl (fun c24=> ?_) (fun c24=> ?_)
 ·skip
  have hc:Cb z1.L.bs z1.L.nb≤1∧t<8*z.L.nb:=(by simp only [A0r,A0d] at c24;omega)
  obtain ⟨hf0,h12,hHB⟩:=hS1 hc.1
  refine Ai<|n_K<|Ad<|Ak<|Ad<|Ad<|Aa fun ops=>oM rfl<|oN rfl<|oF rfl ?_
  refine oR (show Rd _ _ _ _ (ptr z1.L.lg) from by rw [← g1.1];exact Al rfl mM rfl) ?_
  refine A6 rfl (Agh (L:=z1.L) hZ1.lv.len (by omega)) sP rfl aQ ?_
  refine oR (Ae rfl rfl rfl)<|Ac<|n_K ?_
  refine Aj rfl (fun c32=> ?_) (fun c32=> ?_)
  ·skip
   exfalso;simp at c32;omega
  ·skip
   refine Ai<|n_K<|Ad<|Aa fun ops=>oM rfl ?_
   refine Bd rfl (Aej (z:=z1) g1 (by omega) hq h12 hHB) sP rfl fun v39 Y39 h39=> ?_
   obtain ⟨e2,z2,rfl,rfl,hst2,hC,hW2⟩:=h39
   refine Ay aQ ?_
   refine oA rfl<|Ac<|n_K<|Ad<|Aa fun ops=>oM rfl<|oR (Ae rfl rfl rfl)<|Ac<|n_K ?_
   refine Aj rfl (fun c41=> ?_) (fun c41=> ?_)
   ·skip
    have he:e2≠0:=(by simpa using c41)
    refine Ad<|Aa fun ops=>oM rfl<|oA rfl<|Ac<|n_K<|An<|Bn<|r_K<|r_K<|Bn<|r_K ?_
    exact Av (At Tryz.results111 (Ag rfl)) (by exact ⟨e2,z2,rfl,rfl,hst2,g5 _ _ (by rw [show 8*z.L.nb - t=(8*z.L.nb - (t+1))+1 by omega];exact .stop hc.1 hC he),fun h9=>(hW2 h9).mono (by omega),hC.nb.trans g3⟩) sP
   ·skip
    have he:e2=0:=(by simpa using c41)
    subst he
    refine Ai<|Az<|n_K<|Aa fun ops=>oM rfl ?_
    refine oR (Ao rfl rfl (by omega)) ?_
    refine oA rfl<|Ac<|n_K ?_
    exact ⟨(t+1,z2),⟨by simp only;omega,(hW2 (by decide)).mono (by omega),hst2,hC.nb.trans g3,.step g4 hWk hc.1 hC,fun e z' h9=>g5 e z' (by rw [show 8*z.L.nb - t=(8*z.L.nb - (t+1))+1 by omega];exact .go hc.1 hC h9)⟩,by simp only;omega,by rw [← hst2];exact lZ⟩
 ·skip
  have hc:1<Cb z1.L.bs z1.L.nb∨t=8*z.L.nb:=(by simp only [Azf,Ayz] at c24;omega)
  refine Bb<|x_K<|x_K<|Bj<|n_K<|Ad<|Aa fun ops=>oA rfl<|Ac<|n_K<|An ?_
  exact Av (At Tryz.results111 (Ag rfl)) (by exact ⟨0,z1,rfl,rfl,rfl,g5 _ _ (by rcases hc with h9 | h9;exact .enough h9;(rw [h9,A2l];exact .out)),fun h9=>g1.mono (by omega),g3⟩) sP
theorem Agk (h:WI n k q z) (hk:k≤299999500000) (hq:q.n≤3) (hS:Y3 n q z) {kind:By} {s:Sl By} {b:Nat} (hj:s.list.length≤70000000000000) (hkd:3<kind.toNat) (hw:C6 kind s.list=false) :
  Does Tryz.prog 68 [ptr z.S.st,bv kind,.slice (some ⟨b,0,none⟩) 1 1] ((z.S.st,true,C (stC z.S) tSt)::(z.S.ib,true,z.S.idx.obj .i64)::(z.S.pb,true,z.S.pend.obj .i64)::(lgH z.L++((b,true,C [s.val] tSB)::(s.hp tU8++[]))))
  (fun v H=>∃ (e:Int) (y:Pl2) (z':Sg),v= .tuple #[.agg #[.int .i64 y.1,.int .i64 y.2],.int .i64 e]∧H=(z'.S.st,true,C (stC z'.S) tSt)::(z'.S.ib,true,z'.S.idx.obj .i64)::(z'.S.pb,true,z'.S.pend.obj .i64)::(lgH z'.L++[])∧z'.S.st=z.S.st∧PutG n q z (Cw kind s.list) e y z'∧(e≠30→WI n (k+320080) q z')):=by
 refine Ah (n:=24) Tryz.func68 Tryz.ntmps68 rfl (Ay9 rfl)<|Ad<|Aa fun ops=> ?_
 refine Aw rfl fun b6=> ?_
 refine oA rfl<|Ac<|n_K<|Ad<|Ad<|Aa fun ops=>oM rfl ?_
 refine Bd rfl (Anr (z:=z) h (by omega) hq hS) sP rfl fun v10 Y10 h10=> ?_
 obtain ⟨e1,z1,rfl,rfl,hst1,hR,hW1,hnb1⟩:=h10
 refine Ay aQ ?_
 refine oA rfl<|Ac<|n_K<|Ad<|Aa fun ops=>oM rfl<|oR (Ae rfl rfl rfl)<|Ac<|n_K ?_
 refine Aj rfl (fun c12=> ?_) (fun c12=> ?_)
 ·skip
  have he:e1≠0:=(by simpa using c12)
  refine Ad<|Aa fun ops=>oR (Bc rfl rfl)<|oM rfl ?_
  refine Af rfl rfl uD rfl rfl rfl ?_
  refine oA rfl<|Ac<|n_K<|An<|r_K ?_
  exact Av (Bz Tryz.results68 (Bv rfl mM rfl) (Ag rfl)) (by exact ⟨e1,(0,0),z1,rfl,rfl,hst1,.inl ⟨he,hR⟩,fun h9=>(hW1 h9).mono (by omega)⟩) sP
 ·skip
  have he:e1=0:=(by simpa using c12)
  subst he
  have hWI:=hW1 (by decide)
  obtain ⟨V1,hZ1⟩:=hWI.2
  rw [← hst1]
  refine Ai<|n_K<|Ad<|Aa fun ops=>oM rfl<|oN rfl<|oF rfl ?_
  refine oR (show Rd _ _ _ _ (ptr z1.L.lg) from by rw [← hWI.1];exact Al rfl mM rfl) ?_
  refine oM rfl<|oM rfl ?_
  refine Bd rfl (Uj (L:=z1.L) (b:=b) hZ1 (by omega) hq hj hkd hw) sP rfl fun v21 Y21 h21=> ?_
  obtain ⟨L2,e2,pb,pj,rfl,rfl,hA⟩:=h21
  obtain ⟨R2,hG,hW2⟩:=hA.g hWI.1 (by omega)
  refine Ay aQ ?_
  refine oE rfl rfl<|oE rfl rfl ?_
  refine Af rfl rfl uD rfl rfl rfl ?_
  refine oA rfl<|Ac<|n_K<|An ?_
  exact Av (Bz Tryz.results68 (Bv rfl mM rfl) (Ag rfl)) (by exact ⟨e2,(pb,pj),⟨z1.S,L2,R2⟩,rfl,rfl,rfl,.inr ⟨z1,hR,hG⟩,fun h9=>(hW2 h9).mono (by omega)⟩) sP
end
end
section
open Go.K
instance ent92:Ent Tryz.prog 92:=⟨fun _ _=>by kernel_rfl⟩
instance ent98:Ent Tryz.prog 98:=⟨fun _ _=>by kernel_rfl⟩
instance ent99:Ent Tryz.prog 99:=⟨fun _ _=>by kernel_rfl⟩
def SeenK {α:Type} (m:Mp α) (seen:List Nat) (k:Int):Prop:=∃ e∈m.es,e.n∈seen∧e.k=k
theorem SeenK.add {α:Type} {m:Mp α} {seen:List Nat} {e:Me α} (he:e∈m.es) {k:Int}:SeenK m (seen++[e.n]) k↔SeenK m seen k∨k=e.k:=by
 constructor
 ·rintro ⟨x,h1,h2,h3⟩
  rcases A1d.1 h2 with h | h
  ·exact .inl ⟨x,h1,h,h3⟩
  ·have:=Mp.n_inj h1 he (Azy.1 h)
   exact .inr (by rw [← h3,this])
 ·rintro (⟨x,h1,h2,h3⟩ | rfl)
  ·exact ⟨x,h1,Azo _ h2,h3⟩
  ·exact ⟨e,he,Aza _ (Azy.2 rfl),rfl⟩
theorem SeenK.no {α:Type} {m:Mp α} {k:Int}:¬ SeenK m [] k:=fun ⟨_,_,h,_⟩=>nomatch h
theorem SeenK.all {α:Type} {m:Mp α} {seen:List Nat} (h:∀ e∈m.es,e.n∈seen) {k:Int}:SeenK m seen k↔(m.get k).isSome=true:=by
 rw [Mp.get_some]
 constructor
 ·rintro ⟨e,h1,_,rfl⟩
  exact A2b.2 ⟨e,h1,rfl⟩
 ·intro hk
  obtain ⟨e,h1,h2⟩:=A2b.1 hk
  exact ⟨e,h1,h e h1,h2⟩
def CopI {α:Type} (d s:Mp α) (seen:List Nat) (c:Mp α):Prop:=(∀ k,SeenK s seen k→c.get k=s.get k)∧∀ k,¬ SeenK s seen k→c.get k=d.get k
theorem CopI.put {α:Type} {d s c:Mp α} {seen:List Nat} {e:Me α} (h:CopI d s seen c) (he:e∈s.es):CopI d s (seen++[e.n]) (c.put e.k e.v):=by
 refine ⟨fun k hk=> ?_,fun k hk=> ?_⟩
 ·rw [Mp.get_put]
  by_cases e1:k=e.k
  ·rw [A25 e1,e1];exact (Mp.get_mem he).symm
  ·rw [A26 e1]
   exact h.1 k (((SeenK.add he).1 hk).resolve_right e1)
 ·have h1:¬ (SeenK s seen k∨k=e.k):=fun h2=>hk ((SeenK.add he).2 h2)
  rw [Mp.get_put,A26 (fun e1=>h1 (.inr e1))]
  exact h.2 k fun h2=>h1 (.inl h2)
def orE {α:Type} (a b:Option α):Option α:=match a with | some v=>some v | none=>b
def Awd {α:Type} (d s m:Mp α):Prop:=∀ k,m.get k=orE (s.get k) (d.get k)
theorem CopI.over {α:Type} {d s c:Mp α} {seen:List Nat} (h:CopI d s seen c) (hl:Gr s seen=[]):Awd d s c:=fun k=>by
 have ha:=SeenK.all (Ib hl) (k:=k)
 cases hs:s.get k with
 | none=>exact h.2 k fun h2=>by have:=ha.1 h2;rw [hs] at this;cases this
 | some v=>rw [h.1 k (ha.2 (by rw [hs];rfl)),hs];rfl
theorem Agl {b1 b2:Nat} {d s:Mp En}:Does Tryz.prog 92 [.map (some b1),.map (some b2)] ((b1,true,d.obj .i64)::(b2,true,s.obj .i64)::[])
  (fun v H=>∃ m:Mp En,v= .tuple #[]∧H=(b1,true,m.obj .i64)::(b2,true,s.obj .i64)::[]∧Awd d s m):=by
 refine Ah (n:=16) Tryz.func92 Tryz.ntmps92 rfl (Ay9 rfl)<|Ad<|Aa fun ops=>oM rfl ?_
 refine Ip rfl mM rfl fun it7=> ?_
 refine Ac<|n_K<|Ak ?_
 refine A8 [0,7] kQ (fun (st:List Nat×Mp En)=>[]) (fun (st:List Nat×Mp En)=>(it7,true,itO b2 s.cl st.1 s.cl)::(b1,true,st.2.obj .i64)::(b2,true,s.obj .i64)::[]) (fun (st:List Nat×Mp En)=>CopI d s st.1 st.2) (fun (st:List Nat×Mp En)=>Hw s st.1) (([],d)) ⟨fun k h=>absurd h SeenK.no,fun k _=>rfl⟩ kP sP ?_
 rintro ⟨seen,c⟩ g0
 simp only at g0
 refine Ad<|Aa fun ops=> ?_
 refine Ki rfl (by repeat (first | exact Pick.here | apply Pick.there | apply Pick.app)) mM (Mp.wc _) (A2q _) rfl (fun hl8=> ?_) (fun e8 he8 hn8=> ?_)
 ·refine oE rfl rfl<|Ac<|n_K<|Ad ?_
  refine Bi rfl ?_
  refine Bb<|x_K<|x_K<|Bj ?_
  exact H5 (Ml Tryz.results92) (by exact ⟨c,rfl,rfl,g0.over hl8⟩) sP
 ·refine oE rfl rfl<|Ac<|n_K<|Ad ?_
  refine F1 rfl ?_
  refine Ai<|n_K<|Ak<|Ad<|Aa fun ops=> ?_
  refine oR (Iq rfl mM mM he8) ?_
  refine oE rfl rfl<|oE rfl rfl ?_
  refine Aw rfl fun b5=> ?_
  refine oA rfl ?_
  refine Af rfl rfl uD rfl rfl rfl ?_
  refine Ac<|n_K<|Aa fun ops=>oM rfl<|oM rfl ?_
  refine oR (Au rfl mM rfl) ?_
  refine V4 (m:=c) (v:=e8.v) (kd:= .i64) rfl rfl rfl uD ?_
  refine Ac<|Az<|n_K ?_
  exact ⟨(seen++[e8.n],c.put e8.k e8.v),(g0.put he8),(Da he8 hn8),lZ⟩
structure DelI {α:Type} (m:Mp α) (p:Int→Bool) (seen:List Nat) (c:Mp α):Prop where
 cl:c.cl=m.cl
 sub:∀ e∈c.es,e∈m.es
 sup:∀ e∈m.es,e.n∉seen→e∈c.es
 gone:∀ k,SeenK m seen k→p k=false→c.get k=none
 stay:∀ k,(¬ SeenK m seen k∨p k=true)→c.get k=m.get k
theorem DelI.start {α:Type} (m:Mp α) (p:Int→Bool):DelI m p [] m:=⟨rfl,fun _ h=>h,fun _ h _=>h,fun k h=>absurd h SeenK.no,fun _ _=>rfl⟩
theorem DelI.skip {α:Type} {m c:Mp α} {p:Int→Bool} {seen:List Nat} {e:Me α} (h:DelI m p seen c) (he:e∈m.es) (hp:p e.k=true):DelI m p (seen++[e.n]) c:=by
 refine ⟨h.cl,h.sub,fun x hx hn=>h.sup x hx fun h2=>hn (Azo _ h2),fun k hk hpk=> ?_,fun k hk=> ?_⟩
 ·rcases (SeenK.add he).1 hk with h1 | rfl
  ·exact h.gone k h1 hpk
  ·rw [hp] at hpk;cases hpk
 ·refine h.stay k ?_
  rcases hk with h1 | h1
  ·exact .inl fun h2=>h1 ((SeenK.add he).2 (.inl h2))
  ·exact .inr h1
theorem DelI.del {α:Type} {m c:Mp α} {p:Int→Bool} {seen:List Nat} {e:Me α} (h:DelI m p seen c) (he:e∈m.es) (hp:p e.k=false):DelI m p (seen++[e.n]) (c.del e.k):=by
 refine ⟨h.cl,fun x hx=>h.sub x (A1e.1 hx).1,fun x hx hn=>A1e.2 ⟨h.sup x hx fun h2=>hn (Azo _ h2),?_⟩,fun k hk hpk=> ?_,fun k hk=> ?_⟩
 ·simp only [A0e,Ayz]
  intro h3
  apply hn
  have:x=e:=by
   have h4:=Mp.get_mem hx
   have h5:=Mp.get_mem he
   have:∀ (es:List (Me α)),(es.map (·.k)).Nodup→x∈es→e∈es→x=e:=fun es=>by
    induction es with
    | nil=>intro _ h;cases h
    | cons y es ih =>
     intro hn ha hb
     rw [A15,A1c] at hn
     rcases A12.1 ha with ha | ha <;> rcases A12.1 hb with hb | hb
     ·rw [ha,hb]
     ·exact absurd (A2b.2 ⟨e,hb,by rw [← ha,h3]⟩) hn.1
     ·exact absurd (A2b.2 ⟨x,ha,by rw [← hb,h3]⟩) hn.1
     ·exact ih hn.2 ha hb
   exact this m.es m.wk hx he
  rw [this]
  exact Aza _ (Azy.2 rfl)
 ·rw [Mp.get_del]
  split
  ·rfl
  ·rename_i hne
   exact h.gone k (((SeenK.add he).1 hk).resolve_right hne) hpk
 ·rw [Mp.get_del]
  have hne:k≠e.k:=fun e1=>by
   rcases hk with h1 | h1
   ·exact h1 ((SeenK.add he).2 (.inr e1))
   ·rw [e1,hp] at h1;cases h1
  rw [A26 hne]
  refine h.stay k ?_
  rcases hk with h1 | h1
  ·exact .inl fun h2=>h1 ((SeenK.add he).2 (.inl h2))
  ·exact .inr h1
def Awe {α:Type} (m:Mp α) (p:Int→Bool) (c:Mp α):Prop:=∀ k,c.get k=if p k=true then m.get k else none
theorem DelI.only {α:Type} {m c:Mp α} {p:Int→Bool} {seen:List Nat} (h:DelI m p seen c) (hl:Gr c seen=[]):Awe m p c:=fun k=>by
 have ha:∀ e∈m.es,e.n∈seen:=fun e he=>by
  by_cases h1:e.n∈seen
  ·exact h1
  ·exact Ib hl e (h.sup e he h1)
 by_cases hp:p k=true
 ·rw [A25 hp];exact h.stay k (.inr hp)
 ·rw [A26 hp]
  by_cases hs:SeenK m seen k
  ·exact h.gone k hs (by simpa using hp)
  ·rw [h.stay k (.inl hs)]
   have:=SeenK.all ha (k:=k)
   cases hg:m.get k with
   | none=>rfl
   | some v=>exact absurd (this.2 (by rw [hg];rfl)) hs
theorem DelI.wc {α:Type} {m c:Mp α} {p:Int→Bool} {seen:List Nat} (h:DelI m p seen c):∀ e∈c.es,e.n<m.cl:=fun e he=>m.wc e (h.sub e he)
theorem Ans {k:Int} {e:En} {b:Nat} {l:Lv}:Does Tryz.prog 99 [.int .i64 k,.agg (Aix e).toArray,ptr b] [(b,true,C (vbc l) tLv)] (Is (.bool (!B4 l k)) [(b,true,C (vbc l) tLv)]):=by
 refine Ah (n:=10) Tryz.func99 Tryz.ntmps99 rfl (Ay9 rfl)<|Ad<|Aa fun ops=> ?_
 refine De rfl rfl fun b4=> ?_
 refine oA rfl<|Ac<|n_K<|Ad<|Aa fun ops=> ?_
 refine oR (Au rfl mM (by first | exact Bg | rfl)) ?_
 refine oM rfl ?_
 refine A6 rfl (Ue) sP rfl aQ ?_
 refine oR (Bx rfl)<|oA rfl<|Ac<|n_K<|An ?_
 refine Aq (At Tryz.results99 (Ag rfl)) ?_ sP
 rfl
theorem Aru {b b3:Nat} {m:Mp En} {l:Lv}:Does Tryz.prog 98 [.map (some b),.func (.func 99) #[] #[ptr b3]] ((b,true,m.obj .i64)::(b3,true,C (vbc l) tLv)::[])
  (fun v H=>∃ c:Mp En,v= .tuple #[]∧H=(b,true,c.obj .i64)::(b3,true,C (vbc l) tLv)::[]∧Awe m (B4 l) c):=by
 refine Ah (n:=19) Tryz.func98 Tryz.ntmps98 rfl (Ay9 rfl)<|Ad<|Aa fun ops=>oM rfl ?_
 refine Ip rfl mM rfl fun it7=> ?_
 refine Ac<|n_K<|Ak ?_
 refine A8 [0,1,7] kQ (fun (st:List Nat×Mp En)=>[]) (fun (st:List Nat×Mp En)=>(it7,true,itO b m.cl st.1 m.cl)::(b,true,st.2.obj .i64)::(b3,true,C (vbc l) tLv)::[]) (fun (st:List Nat×Mp En)=>DelI m (B4 l) st.1 st.2) (fun (st:List Nat×Mp En)=>Hw m st.1) (([],m)) (DelI.start m _) kP sP ?_
 rintro ⟨seen,c⟩ g0
 simp only at g0
 refine Ad<|Aa fun ops=> ?_
 refine Ki rfl (by repeat (first | exact Pick.here | apply Pick.there | apply Pick.app)) mM g0.wc (A2q _) rfl (fun hl8=> ?_) (fun e8 he8 hn8=> ?_)
 ·refine oE rfl rfl<|Ac<|n_K<|Ad ?_
  refine Bi rfl ?_
  refine Bb<|x_K<|x_K<|Bj ?_
  exact H5 (Ml Tryz.results98) (by exact ⟨c,rfl,rfl,g0.only hl8⟩) sP
 ·refine oE rfl rfl<|Ac ?_
  have hem:=g0.sub e8 he8
  refine n_K<|Ad ?_
  refine F1 rfl ?_
  refine Ai<|n_K<|Ak<|Ad<|Aa fun ops=> ?_
  refine oR (Iq rfl mM mM he8) ?_
  refine oE rfl rfl<|oE rfl rfl ?_
  refine Aw rfl fun b5=> ?_
  refine oA rfl ?_
  refine Af rfl rfl uD rfl rfl rfl ?_
  refine Ac<|n_K<|Ad<|Aa fun ops=>oM rfl<|oM rfl ?_
  refine oR (Au rfl mM rfl) ?_
  refine S8 (fi:=[]) (ca:=[ptr b3]) rfl rfl (Ans (k:=e8.k) (e:=e8.v) (b:=b3) (l:=l)) sP rfl aQ ?_
  refine Ac<|n_K ?_
  refine Aj rfl (fun c16=> ?_) (fun c16=> ?_)
  ·skip
   have hp:B4 l e8.k=false:=(by simpa using c16)
   refine Aa fun ops=>oM rfl<|oM rfl ?_
   refine As7 rfl rfl uD ?_
   refine Ac<|Az<|n_K ?_
   rw [g0.cl]
   first | exact ⟨(seen++[e8.n],c.del e8.k),g0.del hem hp,Da hem hn8,lZ⟩ | exact ⟨(seen++[e8.n],c),g0.skip hem hp,Da hem hn8,lZ⟩
  ·skip
   have hp:B4 l e8.k=true:=(by simpa using c16)
   refine Ai<|Az<|n_K ?_
   rw [g0.cl]
   first | exact ⟨(seen++[e8.n],c.del e8.k),g0.del hem hp,Da hem hn8,lZ⟩ | exact ⟨(seen++[e8.n],c),g0.skip hem hp,Da hem hn8,lZ⟩
end
section
open Go.K
instance und63:Und Tryz.prog 63 (.map 3 3):=⟨Tryz.underlying63⟩
instance agg63:Agg Tryz.prog 63 false:=⟨⟨_,Tryz.underlying63,rfl⟩⟩
instance fld67_3:Fld Tryz.prog 67 3 3:=⟨⟨_,_,0,Tryz.underlying67,rfl,by kernel_rfl,rfl⟩⟩
instance fld67_9:Fld Tryz.prog 67 9 46:=⟨⟨_,_,0,Tryz.underlying67,rfl,by kernel_rfl,rfl⟩⟩
instance fld67_10:Fld Tryz.prog 67 10 47:=⟨⟨_,_,0,Tryz.underlying67,rfl,by kernel_rfl,rfl⟩⟩
instance ent58:Ent Tryz.prog 58:=⟨fun _ _=>by kernel_rfl⟩
instance ent60:Ent Tryz.prog 60:=⟨fun _ _=>by kernel_rfl⟩
instance ent97:Ent Tryz.prog 97:=⟨fun _ _=>by kernel_rfl⟩
instance mcl:Mcl Tryz.prog 139:=⟨_,Tryz.func139,by kernel_rfl,rfl,by kernel_rfl,by kernel_rfl⟩
theorem Ai3 {b:Nat} {m:Mp En}:Does Tryz.prog 97 [.map (some b)] ((b,true,m.obj .i64)::[])
  (fun v H=>∃ c:Nat,v= .map (some c)∧H=(c,true,m.obj .i64)::(b,true,m.obj .i64)::[]):=by
 refine Ah (n:=9) Tryz.func97 Tryz.ntmps97 rfl (Ay9 rfl)<|Ad<|Aa fun ops=>oA rfl<|Ac<|n_K<|Ad<|Ad<|Aa fun ops=>oM rfl<|oR (Ahx rfl rfl)<|Ac<|n_K ?_
 refine Bi rfl ?_
 refine Ai<|n_K<|Ad<|Aa fun ops=>oM rfl<|oR (At9 rfl) ?_
 refine Alg (m:=m) (kd:= .i64) rfl mM rfl fun b7=> ?_
 refine oR (Add rfl)<|oA rfl<|Ac<|n_K<|An ?_
 exact Av (At Tryz.results97 (Ag rfl)) (by exact ⟨b7,rfl,rfl⟩) sP
def Mz (S:Sto) (l:Lv) (m:Mp En):Prop:=∀ k,m.get k=if B4 l k=true then orE (S.pend.get k) (S.idx.get k) else none
theorem Ant {S:Sto} {l:Lv}:Does Tryz.prog 60 [ptr S.st,.agg (vbc l).toArray] ((S.st,true,C (stC S) tSt)::(S.ib,true,S.idx.obj .i64)::(S.pb,true,S.pend.obj .i64)::[])
  (fun v H=>∃ (c:Nat) (m:Mp En),v= .map (some c)∧H=(c,true,m.obj .i64)::(S.st,true,C (stC S) tSt)::(S.ib,true,S.idx.obj .i64)::(S.pb,true,S.pend.obj .i64)::[]∧Mz S l m):=by
 refine Ah (n:=21) Tryz.func60 Tryz.ntmps60 rfl (Ay9 rfl)<|Ad<|Aa fun ops=> ?_
 refine Ec rfl rfl fun b3=> ?_
 refine oA rfl<|Ac<|n_K<|Ad<|Aa fun ops=>oM rfl<|oN rfl<|oF rfl ?_
 refine oR (Al rfl mM rfl) ?_
 refine Bd rfl (Ai3) sP rfl fun v10 Y10 h10=> ?_
 obtain ⟨b10,rfl,rfl⟩:=h10
 refine Ay aQ ?_
 refine oA rfl<|Ac<|n_K<|Ad<|Aa fun ops=>oM rfl<|oM rfl<|oN rfl<|oF rfl ?_
 refine oR (Al rfl mM rfl) ?_
 refine Bd rfl (Agl) sP rfl fun v16 Y16 h16=> ?_
 obtain ⟨m16,rfl,rfl,hO16⟩:=h16
 refine Ay aQ ?_
 refine Ac<|n_K<|Ad<|Aa fun ops=>oM rfl<|oR (Oh rfl) ?_
 refine Bd rfl (Aru) sP rfl fun v19 Y19 h19=> ?_
 obtain ⟨c19,rfl,rfl,hO19⟩:=h19
 refine Ay aQ ?_
 refine Ac<|n_K<|Ad<|Aa fun ops=>oM rfl<|oA rfl<|Ac<|n_K<|An ?_
 exact Av (At Tryz.results60 (Ag rfl)) (by exact ⟨b10,c19,rfl,rfl,fun k=>by rw [hO19 k,hO16 k]⟩) sP
def I3 (a b:Wd):Wd:=if a.toNat<b.toNat then b else a
def Arv (S:Sto) (c:Cm) (y:Pl2) (m:Mp En):Sto:={ S with idx:=m,stray:=S.stray.clr,last:=c,la:=y,hurt:=false,seen:=I3 S.seen c.ep }
def EndR (n:Nat) (q:Qt) (z:Sg) (c:Cm) (e:Int) (z':Sg):Prop :=
 ∃ y z1,PutG n q z (Cw 11 (F5 c)) e y z1∧((e≠0∧z'=z1)∨(e=0∧∃ m,Mz z1.S c.lv m∧z'={ z1 with S:=Arv z1.S c y m }))
theorem Ja (c:Cm):(F5 c).length=44:=by
 unfold F5
 simp [Bo]
structure SameS (S S':Sto):Prop where
 st:S'.st=S.st
 lg:S'.lg=S.lg
 ib:S'.ib=S.ib
 pb:S'.pb=S.pb
 sb:S'.sb=S.sb
 last:S'.last=S.last
 vw:S'.vw=S.vw
 viewed:S'.viewed=S.viewed
 seen:S'.seen=S.seen
 hurt:S'.hurt=S.hurt
 stray:S'.stray=S.stray
theorem SameS.refl (S:Sto):SameS S S:=⟨rfl,rfl,rfl,rfl,rfl,rfl,rfl,rfl,rfl,rfl,rfl⟩
theorem SameS.trans {S S' S'':Sto} (h:SameS S S') (k:SameS S' S''):SameS S S'' :=
 ⟨k.st.trans h.st,k.lg.trans h.lg,k.ib.trans h.ib,k.pb.trans h.pb,k.sb.trans h.sb,k.last.trans h.last,k.vw.trans h.vw,k.viewed.trans h.viewed,k.seen.trans h.seen,k.hurt.trans h.hurt,k.stray.trans h.stray⟩
theorem SameS.of {S S':Sto} (h:S'=S):SameS S S':=by subst h;exact .refl _
theorem Uk (S:Sto) (f t:Pl2):SameS S (Dd S f t):=⟨rfl,rfl,rfl,rfl,rfl,rfl,rfl,rfl,rfl,rfl,rfl⟩
theorem ShR.same {n:Nat} {q:Qt} {z z':Sg} {x:Pl2} {p:Pg} {e:Int} (h:ShR n q z x p e z'):SameS z.S z'.S:=by
 obtain ⟨y,z1,h1,h2⟩:=h
 subst h2
 split
 ·exact (SameS.of h1.1).trans (Uk _ _ _)
 ·exact .of h1.1
theorem EmA.same {n:Nat} {q:Qt} {xs:List Pl2} {z z':Sg} {e:Int} (h:EmA n q xs z e z'):SameS z.S z'.S:=by
 induction h with
 | nil=>exact .refl _
 | skip _ _ ih=>exact ih
 | stop _ _ hs _=>exact hs.same
 | go _ _ hs _ ih=>exact hs.same.trans ih
theorem EmR.same {n:Nat} {q:Qt} {b:Nat} {xs:List Pl2} {z z':Sg} {e:Int} (h:EmR n q b xs z e z'):SameS z.S z'.S:=by
 rcases h with ⟨_,h⟩ | ⟨z1,h,hd⟩
 ·exact h.same
 ·exact h.same.trans (.of hd.1)
theorem ColR.same {n:Nat} {q:Qt} {z z':Sg} {e:Int} (h:ColR n q z e z'):SameS z.S z'.S:=by
 obtain ⟨ss,_,h⟩:=h
 rcases h with ⟨_,_,rfl⟩ | ⟨_,g,b,_,_,_,h⟩
 ·exact .refl _
 ·exact h.same
theorem RoomR.same {n:Nat} {q:Qt} {m:Nat} {z z':Sg} {e:Int} (h:RoomR n q m z e z'):SameS z.S z'.S:=by
 induction h with
 | enough _=>exact .refl _
 | out=>exact .refl _
 | stop _ hc _=>exact hc.same
 | go _ hc _ ih=>exact hc.same.trans ih
theorem PutG.same {n:Nat} {q:Qt} {z z':Sg} {p:Pg} {e:Int} {y:Pl2} (h:PutG n q z p e y z'):SameS z.S z'.S:=by
 rcases h with ⟨_,h⟩ | ⟨z1,h,ha⟩
 ·exact h.same
 ·exact h.same.trans (.of ha.1)
section
variable {n k:Nat} {q:Qt} {z:Sg}
theorem Aut (h:WI n k q z) (hk:k≤299999500000) (hq:q.n≤3) (hS:Y3 n q z) {c:Cm} :
  Does Tryz.prog 58 [ptr z.S.st,.agg (cmC c).toArray] ((z.S.st,true,C (stC z.S) tSt)::(z.S.ib,true,z.S.idx.obj .i64)::(z.S.pb,true,z.S.pend.obj .i64)::(z.S.sb,true,z.S.stray.obj .i64)::(lgH z.L++[]))
  (fun v H=>∃ (e:Int) (z':Sg),v= .int .i64 e∧H=(z'.S.st,true,C (stC z'.S) tSt)::(z'.S.ib,true,z'.S.idx.obj .i64)::(z'.S.pb,true,z'.S.pend.obj .i64)::(z'.S.sb,true,z'.S.stray.obj .i64)::(lgH z'.L++[])∧z'.S.st=z.S.st∧EndR n q z c e z'∧(e≠30→WI n (k+320080) q z')):=by
 refine Ah (n:=72) Tryz.func58 Tryz.ntmps58 rfl (Ay9 rfl)<|Ad<|Aa fun ops=> ?_
 refine Ec rfl rfl fun b3=> ?_
 refine oA rfl<|Ac<|n_K<|Ad<|Aa fun ops=>oM rfl ?_
 refine oR (Au rfl mM (by first | exact Nl | rfl)) ?_
 refine Bd rfl (Aiw) sP rfl fun v11 Y11 h11=> ?_
 obtain ⟨s11,rfl,rfl,hs11,ho11⟩:=h11
 refine Ay aQ ?_
 refine A5 rfl rfl rfl rfl fun b12=> ?_
 refine Bd rfl (Agk (z:=z) h hk hq hS (kind:=11) (s:=s11) (b:=b12) (by rw [hs11,Ja];decide) (by decide) (by rw [hs11];unfold C6;rw [Ja];rfl)) sP rfl fun v13 Y13 h13=> ?_
 obtain ⟨e1,y1,z1,rfl,rfl,hst1,hP,hW⟩:=h13
 rw [hs11] at hP
 have hsm:=hP.same
 rw [← hsm.sb,← hsm.stray]
 refine Ay aQ ?_
 refine oM rfl<|oE rfl rfl<|oE rfl rfl ?_
 refine Aw rfl fun b5=> ?_
 refine Af rfl rfl uD rfl rfl rfl ?_
 refine oA rfl<|Ac<|n_K<|Ad<|Ad<|Aa fun ops=>oM rfl<|oR (Ae rfl rfl rfl)<|Ac<|n_K ?_
 refine Aj rfl (fun c17=> ?_) (fun c17=> ?_)
 ·skip
  have he:e1≠0:=(by simpa using c17)
  refine Ad<|Aa fun ops=>oM rfl<|oA rfl<|Ac<|n_K<|An<|r_K ?_
  exact Av (At Tryz.results58 (Ag rfl)) (by exact ⟨e1,z1,rfl,rfl,hst1,⟨y1,z1,hP,.inl ⟨he,rfl⟩⟩,hW⟩) sP
 ·skip
  have he:e1=0:=(by simpa using c17)
  subst he
  rw [← hst1]
  refine Ai<|n_K<|Ad ?_
  refine s_draw [] [(8,[(0,false),(1,false),(2,false),(3,false),(4,false),(5,false),(6,false),(7,false)]),(9,[(8,true)])] (by kernel_rfl) rfl fun ops w0 H0 y=> ?_
  refine A4<|xM rfl<|xN rfl<|xF rfl ?_
  refine xR (Al rfl mM rfl) ?_
  refine xM rfl<|xN rfl<|xF rfl ?_
  refine xR (Al rfl mM rfl) ?_
  refine Am<|Bh<|Be ?_
  refine Bd rfl (Agl) sP rfl fun v27 Y27 h27=> ?_
  obtain ⟨m27,rfl,rfl,hO27⟩:=h27
  refine Ay aQ ?_
  refine Ac ⟨rfl,⟨_,sP⟩,?_⟩
  refine Am<|Bm<|n_K<|Ad<|Ad<|Aa fun ops=>oM rfl<|oN rfl<|oF rfl ?_
  refine oR (Al rfl mM rfl) ?_
  refine Ip rfl mM rfl fun it32=> ?_
  refine Ac<|n_K<|Ak ?_
  refine A8 [0,3,5,32] kQ (fun (st:List Nat×Mp En)=>[]) (fun (st:List Nat×Mp En)=>(it32,true,itO z1.S.ib m27.cl st.1 m27.cl)::(b3,true,C (cmC c) tCm)::(b5,true,C [.int .i64 y1.1,.int .i64 y1.2] tPc)::(z1.S.st,true,C (stC z1.S) tSt)::(z1.S.ib,true,st.2.obj .i64)::(z1.S.pb,true,z1.S.pend.obj .i64)::(z1.S.sb,true,z1.S.stray.obj .i64)::(lgH z1.L++[])) (fun (st:List Nat×Mp En)=>DelI m27 (B4 c.lv) st.1 st.2) (fun (st:List Nat×Mp En)=>Hw m27 st.1) (([],m27)) (DelI.start m27 _) kP sP ?_
  rintro ⟨seen,X⟩ g0
  simp only at g0
  refine Ad<|Aa fun ops=> ?_
  refine Ki rfl (by repeat (first | exact Pick.here | apply Pick.there | apply Pick.app)) mM g0.wc (A2q _) rfl (fun hl33=> ?_) (fun e33 he33 hn33=> ?_)
  ·refine oE rfl rfl<|Ac<|n_K<|Ad ?_
   refine Bi rfl ?_
   refine Bb<|x_K<|x_K<|Bj<|n_K<|Ad<|Aa fun ops=>oM rfl<|oN rfl<|oF rfl ?_
   refine oR (Al rfl mM rfl) ?_
   refine Afk rfl uD ?_
   refine Ac<|n_K<|Ad ?_
   refine He [] [0,1,2] [[(3,false),(4,false),(5,false),(6,false),(7,true)],[(8,false)],[(9,false)],[(10,true)],[(11,false)],[(12,false)],[(13,true)]] (by kernel_rfl) rfl rfl fun ops w0 H0 y=> ?_
   unfold Tg
   refine xM rfl<|xM rfl<|xM rfl<|Am ?_
   refine Aqn [(b3,true,C (cmC c) tCm),(b5,true,C [.int .i64 y1.1,.int .i64 y1.2] tPc)] sP ?_
   refine xR (Au rfl mM (by first | exact Nl | rfl)) ?_
   refine xR (Au rfl mM rfl) ?_
   refine xN rfl<|xF rfl<|Be ?_
   first | refine Af (cs':=stC { z1.S with last:=c }) rfl rfl uD (Rk) (Cr) (Lz z1.S c) ?_ | refine Af (cs':=stC { z1.S with last:=c,la:=y1 }) rfl rfl uD rfl rfl (Ds (S:={ z1.S with last:=c }) rfl rfl) ?_ | refine Af (cs':=stC { z1.S with last:=c,la:=y1,hurt:=false }) rfl rfl uD rfl rfl (Ds (S:={ z1.S with last:=c,la:=y1 }) rfl rfl) ?_
   refine Ac ⟨rfl,⟨_,sP⟩,?_⟩
   refine Am<|A4<|xN rfl<|Am<|A4<|xF rfl<|Am<|Bh<|Be ?_
   first | refine Af (cs':=stC { z1.S with last:=c }) rfl rfl uD (Rk) (Cr) (Lz z1.S c) ?_ | refine Af (cs':=stC { z1.S with last:=c,la:=y1 }) rfl rfl uD rfl rfl (Ds (S:={ z1.S with last:=c }) rfl rfl) ?_ | refine Af (cs':=stC { z1.S with last:=c,la:=y1,hurt:=false }) rfl rfl uD rfl rfl (Ds (S:={ z1.S with last:=c,la:=y1 }) rfl rfl) ?_
   refine Ac ⟨rfl,⟨_,sP⟩,?_⟩
   refine Am<|A4<|xN rfl<|Am<|A4<|xF rfl<|Am<|Bh<|Be ?_
   first | refine Af (cs':=stC { z1.S with last:=c }) rfl rfl uD (Rk) (Cr) (Lz z1.S c) ?_ | refine Af (cs':=stC { z1.S with last:=c,la:=y1 }) rfl rfl uD rfl rfl (Ds (S:={ z1.S with last:=c }) rfl rfl) ?_ | refine Af (cs':=stC { z1.S with last:=c,la:=y1,hurt:=false }) rfl rfl uD rfl rfl (Ds (S:={ z1.S with last:=c,la:=y1 }) rfl rfl) ?_
   refine Ac ⟨rfl,⟨_,sP⟩,?_⟩
   refine Am<|Bm<|n_K<|Ad ?_
   refine s_draw [] [(10,[(0,false),(1,false),(2,false),(3,false),(4,false),(5,false),(6,false),(7,false),(8,false),(9,false)]),(11,[(10,true)])] (by kernel_rfl) rfl fun ops w0 H0 y=> ?_
   refine A4<|xM rfl<|xM rfl<|xN rfl<|xF rfl ?_
   refine xR (show Rd _ _ _ _ (wv z1.S.seen) from Al rfl mM (Iv (S:={ z1.S with last:=c,la:=y1,hurt:=false }) (o:=8) rfl)) ?_
   refine xF rfl ?_
   refine xR (Al rfl mM rfl) ?_
   refine xR (Ny rfl rfl)<|xN rfl<|xF rfl<|Am<|Bh<|Be ?_
   refine Af (cs':=stC { z1.S with last:=c,la:=y1,hurt:=false,seen:=I3 z1.S.seen c.ep }) rfl rfl uD rfl rfl (Ds (S:={ z1.S with last:=c,la:=y1,hurt:=false }) rfl rfl) ?_
   refine Ac ⟨rfl,⟨_,sP⟩,?_⟩
   refine Am<|Bm<|n_K<|Ad<|Aa fun ops=>oA rfl<|Ac<|n_K<|An ?_
   exact Av (At Tryz.results58 (Ag rfl)) (by exact ⟨0,{ z1 with S:=Arv z1.S c y1 X },rfl,rfl,rfl,⟨y1,z1,hP,.inr ⟨rfl,X,fun k=>by rw [(g0.only hl33) k,hO27 k],rfl⟩⟩,fun h9=>⟨(hW (by decide)).1,(hW (by decide)).2⟩⟩) sP
  ·refine oE rfl rfl<|Ac ?_
   have hem:=g0.sub e33 he33
   refine n_K<|Ad ?_
   refine F1 rfl ?_
   refine Ai<|n_K<|Ak<|Ad<|Aa fun ops=> ?_
   refine oR (Iq rfl mM mM he33) ?_
   refine oE rfl rfl<|oA rfl<|Ac<|n_K<|Ad<|Aa fun ops=>oF rfl ?_
   refine oR (Au rfl mM (Am4 c)) ?_
   refine oM rfl ?_
   refine A6 rfl (Ue) sP rfl aQ ?_
   refine oR (Bx rfl)<|Ac<|n_K ?_
   refine Aj rfl (fun c41=> ?_) (fun c41=> ?_)
   ·skip
    have hp:B4 c.lv e33.k=false:=(by simpa using c41)
    refine Aa fun ops=>oM rfl<|oN rfl<|oF rfl ?_
    refine oR (Al rfl mM rfl) ?_
    refine oM rfl ?_
    refine As7 rfl rfl uD ?_
    refine Ac<|Az<|n_K ?_
    rw [g0.cl]
    first | exact ⟨(seen++[e33.n],X.del e33.k),g0.del hem hp,Da hem hn33,lZ⟩ | exact ⟨(seen++[e33.n],X),g0.skip hem hp,Da hem hn33,lZ⟩
   ·skip
    have hp:B4 c.lv e33.k=true:=(by simpa using c41)
    refine Ai<|Az<|n_K ?_
    rw [g0.cl]
    first | exact ⟨(seen++[e33.n],X.del e33.k),g0.del hem hp,Da hem hn33,lZ⟩ | exact ⟨(seen++[e33.n],X),g0.skip hem hp,Da hem hn33,lZ⟩
end
end
section
open Go.K
variable {T:TypeId}
instance zv124:ZerV Tryz.prog 124 (.agg #[.int .i64 0,.int .i64 0,.int .u64 0]):=⟨by kernel_rfl⟩
instance ent19:Ent Tryz.prog 19:=⟨fun _ _=>by kernel_rfl⟩
theorem Ai4 {α:Type} [Mv α] {P:Program} {E:Env} {H:Hp} {t kt et:TypeId} {x y:Operand} {kd:IntKind} {b:Nat} {m:Mp α} {k:Int} {z:Value} {r:Bool} [ht:Und P t (.map kt et)] [hk:Und P kt (.int kd)] [hz:ZerV P et z]
  (hx:ev E x=some (.map (some b))) (hy:ev E y=some (.int kd k)) (hm:(b,r,m.obj kd)∈H) (hg:m.get k=none):Rd P E H (.lookup t x y true) (.tuple #[z,.bool false]):=by
 have:=P7 (P:=P) (t:=t) (kt:=kt) (et:=et) (z:=z) hx hy hm
 rw [hg] at this
 exact this
theorem Aek {α:Type} [Mv α] {P:Program} {E:Env} {H:Hp} {t kt et:TypeId} {x y:Operand} {kd:IntKind} {b:Nat} {m:Mp α} {k:Int} {z:Value} {r:Bool} {v:α} [ht:Und P t (.map kt et)] [hk:Und P kt (.int kd)] [hz:ZerV P et z]
  (hx:ev E x=some (.map (some b))) (hy:ev E y=some (.int kd k)) (hm:(b,r,m.obj kd)∈H) (hg:m.get k=some v):Rd P E H (.lookup t x y true) (.tuple #[Mv.enc v,.bool true]):=by
 have:=P7 (P:=P) (t:=t) (kt:=kt) (et:=et) (z:=z) hx hy hm
 rw [hg] at this
 exact this
theorem W4 (k:Int) (e:Wd) (b:List By):(Ez k e b).length=9+b.length:=by
 unfold Ez
 simp [Bo]
 omega
theorem J2 {k:Int} {e:Wd} {b:List By} (h:Bt k b=true):Abt (Ez k e b)=true∧W1 (Ez k e b)=k∧Am5 (Ez k e b)=e∧(Ez k e b).drop 9=b∧C6 10 (Ez k e b)=false:=by
 unfold Bt at h
 simp only [A0r,A0d] at h
 obtain ⟨m,rfl,hm⟩:=Ev h.1
 have hl:=W4 (m:Int) e b
 have e1:(Ez (m:Int) e b).take 1=Co 1 (BitVec.ofInt 64 (m:Int)):=by
  unfold Ez
  exact A1s (Bo ..)
 have e2:(Ez (m:Int) e b).drop 1=Co 8 e++(b++[]):=by
  unfold Ez
  exact A1t (Bo ..)
 refine ⟨?_,?_,?_,?_,?_⟩
 ·unfold Abt;rw [hl];simp;omega
 ·unfold W1;rw [e1,Abm hm]
 ·unfold Am5;rw [e2,A1s (Bo ..),Jy]
 ·rw [show 9=1+8 from rfl,← A1y,e2,A1t (Bo ..),A1j]
 ·unfold C6;rw [hl];simp;omega
abbrev Dy (T:TypeId):K.Blk:=(0,false,C [.int .i64 (-1),.int .i64 (-1)] T)
section
variable {n k:Nat} {q:Qt} {z:Sg}
theorem Ai5 {key:Int} (hg:z.S.idx.get key=none):Does Tryz.prog 19 [ptr z.S.st,.int .i64 key] ((z.S.st,true,C (stC z.S) tSt)::(z.S.ib,true,z.S.idx.obj .i64)::(z.S.pb,true,z.S.pend.obj .i64)::[])
  (Is (.tuple #[.agg (ndC ⟨0,0,.nil⟩).toArray,.int .i64 0,.int .i64 61]) ((z.S.st,true,C (stC z.S) tSt)::(z.S.ib,true,z.S.idx.obj .i64)::(z.S.pb,true,z.S.pend.obj .i64)::[])):=by
 refine Ah (n:=74) Tryz.func19 Tryz.ntmps19 rfl (Ay9 rfl)<|Ad<|Aa fun ops=> ?_
 refine Aw rfl fun b4=> ?_
 refine oA rfl<|oA rfl<|Ac<|n_K<|Ad<|Aa fun ops=>oM rfl<|oN rfl<|oF rfl ?_
 refine oR (Al rfl mM rfl) ?_
 refine oM rfl ?_
 refine oR (Ai4 rfl rfl mM hg) ?_
 refine oM rfl<|oE rfl rfl<|oE rfl rfl ?_
 refine Aw rfl fun b7=> ?_
 refine Af rfl rfl uD rfl rfl rfl ?_
 refine oA rfl<|Ac<|n_K<|Ad<|Ad<|Aa fun ops=>oM rfl<|oR (Bx rfl)<|Ac<|n_K ?_
 refine F1 rfl ?_
 refine Ad<|Aa fun ops=>oR (Bc rfl rfl) ?_
 refine Af rfl rfl uD rfl rfl rfl ?_
 refine oA rfl<|oA rfl<|Ac<|n_K<|An<|r_K ?_
 refine Aq (Kw Tryz.results19 (Bv rfl mM rfl) (Ag rfl) (Ag rfl)) ?_ sP
 rfl
theorem W5 (h:WI n k q z) {key:Int} {e:En} {bd:List By} (hg:z.S.idx.get key=some e) (hr:RecAt z e.at' (Cw 10 (Ez key e.ep bd))) (hok:Bt key bd=true):Does Tryz.prog 19 [ptr z.S.st,.int .i64 key] (Dy T::(z.S.st,true,C (stC z.S) tSt)::(z.S.ib,true,z.S.idx.obj .i64)::(z.S.pb,true,z.S.pend.obj .i64)::(lgH z.L++[]))
  (fun v H=>∃ s:Sl By,v= .tuple #[.agg (ndC ⟨key,e.ep,s⟩).toArray,.int .i64 0,.int .i64 0]∧H=s.hp tU8++(Dy T::(z.S.st,true,C (stC z.S) tSt)::(z.S.ib,true,z.S.idx.obj .i64)::(z.S.pb,true,z.S.pend.obj .i64)::(lgH z.L++[]))∧s.list=bd∧s.isOwn=true):=by
 obtain ⟨hn1,hn2,hn3,hn4,hn5⟩:=J2 (e:=e.ep) hok
 obtain ⟨at0,ep⟩:=e
 obtain ⟨b,j,rfl,hb,hp⟩:=hr
 obtain ⟨V,hZ⟩:=h.2
 have hpl:plB ((b:Int),((2+j:Nat):Int)) (-1,-1)=false:=by
  unfold plB
  simp
 refine Ah (n:=74) Tryz.func19 Tryz.ntmps19 rfl (Ay9 rfl)<|Ad<|Aa fun ops=> ?_
 refine Aw rfl fun b4=> ?_
 refine oA rfl<|oA rfl<|Ac<|n_K<|Ad<|Aa fun ops=>oM rfl<|oN rfl<|oF rfl ?_
 refine oR (Al rfl mM rfl) ?_
 refine oM rfl ?_
 refine oR (Aek rfl rfl mM hg) ?_
 refine oM rfl<|oE rfl rfl<|oE rfl rfl ?_
 refine Aw rfl fun b7=> ?_
 refine Af rfl rfl uD rfl rfl rfl ?_
 refine oA rfl<|Ac<|n_K<|Ad<|Ad<|Aa fun ops=>oM rfl<|oR (Bx rfl)<|Ac<|n_K ?_
 refine Bi rfl ?_
 refine Ai<|n_K<|Ad<|Ad<|Aa fun ops=>oF rfl ?_
 refine oR (Au rfl mM rfl) ?_
 refine oR (Au rfl mM rfl) ?_
 refine oR (show Rd _ _ _ _ (.bool false) from by (rw [← hpl];exact Lq rfl rfl (Uf ((b:Int),((2+j:Nat):Int)) (-1,-1)))) ?_
 refine Ac<|n_K ?_
 refine Bi rfl ?_
 refine Ai<|n_K<|Ad ?_
 refine s_draw [] [(6,[(0,false),(1,false),(2,false),(3,false),(4,false),(5,false)]),(7,[(6,true)]),(16,[(7,false),(8,false),(9,false),(10,false),(11,false),(12,false),(13,false),(14,false),(15,false)])] (by kernel_rfl) rfl fun ops w0 H0 y=> ?_
 refine A4<|xM rfl<|xN rfl<|xF rfl ?_
 refine xR (show Rd _ _ _ _ (ptr z.L.lg) from by rw [← h.1];exact Al rfl mM rfl) ?_
 refine xF rfl ?_
 refine xR (Au rfl mM rfl) ?_
 refine Am<|Bh<|Be ?_
 refine Bd rfl (Y2 hZ hb hp (by decide) hn5) sP rfl fun v38 Y38 h38=> ?_
 obtain ⟨s38,rfl,rfl,hs38,ho38⟩:=h38
 refine Ay aQ ?_
 refine Ac ⟨rfl,⟨_,sP⟩,?_⟩
 refine Am<|A4<|xM rfl<|xE rfl rfl<|xE rfl rfl<|xE rfl rfl<|xE rfl rfl<|xA rfl<|xA rfl<|xA rfl<|xA rfl<|Am<|Bm<|n_K ?_
 refine Ad<|Ad<|Aa fun ops=>oM rfl<|oR (Ae rfl rfl rfl)<|Ac<|n_K ?_
 refine Bi rfl ?_
 refine Ai<|n_K<|Ad<|Aa fun ops=>oM rfl ?_
 refine Bd rfl (Abu (s:=s38) (T:=tU8)) sP rfl fun v49 Y49 h49=> ?_
 rw [hs38] at h49
 obtain ⟨_,b49,rfl,rfl,hl49,ho49⟩:=h49.resolve_left (fun h9=>by rw [hn1] at h9;exact absurd h9.1 (by decide))
 rw [hn2,hn3]
 rw [hn4] at hl49
 refine Ay aQ ?_
 refine oM rfl<|oE rfl rfl<|oE rfl rfl ?_
 refine Aw rfl fun b13=> ?_
 refine Af rfl rfl uD rfl rfl rfl ?_
 refine oA rfl<|Ac<|n_K<|Ad<|Ad ?_
 refine Bf [(2,54),(6,58),(12,64)] rfl fun ops y=> ?_
 refine oM rfl<|oR (Ae rfl rfl rfl)<|oM rfl ?_
 refine' Es (j:=2) (k:=2) y rfl rfl rfl rfl rfl rfl rfl (fun hg54=> ?_) ?_
 rotate_left
 ·try (simp at hg54;show _)
  refine o_g y rfl rfl ?_
  refine oM rfl ?_
  refine o_g y rfl rfl ?_
  refine oR (Ae rfl rfl rfl) ?_
  exact Ac ⟨rfl,rfl,⟨_,sP⟩⟩
 refine oM rfl ?_
 refine' Es (j:=6) (k:=4) y rfl rfl rfl rfl rfl rfl rfl (fun hg58=> ?_) ?_
 rotate_left
 ·try (simp at hg58;show _)
  refine o_g y rfl rfl ?_
  refine oF rfl ?_
  refine o_g y rfl rfl ?_
  refine oR (Al rfl mM rfl) ?_
  refine o_g y rfl rfl ?_
  refine oM rfl ?_
  refine o_g y rfl rfl ?_
  refine oR (Ae rfl rfl rfl) ?_
  exact Ac ⟨rfl,rfl,⟨_,sP⟩⟩
 refine oM rfl ?_
 refine' Es (j:=12) (k:=5) y rfl rfl rfl rfl rfl rfl rfl (fun hg64=> ?_) ?_
 rotate_left
 ·try (simp at hg64;show _)
  refine o_g y rfl rfl ?_
  refine oF rfl ?_
  refine o_g y rfl rfl ?_
  refine oR (Al rfl mM rfl) ?_
  refine o_g y rfl rfl ?_
  refine oF rfl ?_
  refine o_g y rfl rfl ?_
  refine oR (Al rfl mM rfl) ?_
  refine o_g y rfl rfl ?_
  refine oR (Ae rfl rfl rfl) ?_
  exact Ac ⟨rfl,rfl,⟨_,sP⟩⟩
 refine Ac<|n_K ?_
 refine Aj rfl (fun c70=> ?_) (fun c70=> ?_)
 ·skip
  try (exfalso;(simp at c70);done)
  all_goals
   refine Ad<|Aa fun ops=>oR (Bc rfl rfl) ?_
   refine Af rfl rfl uD rfl rfl rfl ?_
   refine oA rfl<|oA rfl<|Ac<|n_K<|An<|r_K ?_
   exact Av (Kw Tryz.results19 (Bv rfl mM rfl) (Ag rfl) (Ag rfl)) (by exact ⟨b49,rfl,rfl,hl49,ho49⟩) sP
 ·skip
  refine Ai<|n_K<|Ad<|Aa fun ops=> ?_
  refine oR (Au rfl mM rfl) ?_
  refine oM rfl ?_
  refine Af rfl rfl uD rfl rfl rfl ?_
  refine oA rfl<|oA rfl<|Ac<|n_K<|An ?_
  exact Av (Kw Tryz.results19 (Bv rfl mM rfl) (Ag rfl) (Ag rfl)) (by exact ⟨b49,rfl,rfl,hl49,ho49⟩) sP
end
end
section
open Go.K
instance und103:Und Tryz.prog 103 (.slice 40):=⟨Tryz.underlying103⟩
instance ent57:Ent Tryz.prog 57:=⟨fun _ _=>by kernel_rfl⟩
@[irreducible] def Iw (l:List Nd):Hp:=l.flatMap fun x=>x.body.hp tU8
theorem Anu {l:List Nd} {i:Nat} {x:Nd} (h:l[i]? =some x) (D:Hp):Iw l++D=Iw (l.take i)++(x.body.hp tU8++(Iw (l.drop (i+1))++D)):=by
 obtain ⟨h1,h2⟩:=Aym.1 h
 have e:l=l.take i++x::l.drop (i+1):=by
  conv=>lhs;rw [← Aze i l,Ayq h1,h2]
 unfold Iw
 conv=>lhs;rw [e]
 simp
abbrev N3:=Int×Wd×List By
def nd3 (x:Nd):N3:=(x.key,x.ep,x.body.list)
def wr1 (z:Sg) (k:Int) (e:Wd):Sg:={ z with S:={ z.S with stray:=z.S.stray.put k 1,seen:=I3 z.S.seen e } }
def wr2 (z:Sg) (k:Int) (e:Wd) (y:Pl2):Sg:={ z with S:={ z.S with pend:=z.S.pend.put k ⟨y,e⟩ } }
inductive WrR (n:Nat) (q:Qt):List N3→Sg→Int→Sg→Prop
 | nil {z:Sg}:WrR n q [] z 0 z
 | stop {k:Int} {e:Wd} {b:List By} {xs:List N3} {z z1:Sg} {er:Int} {y:Pl2}:Bt k b=true→PutG n q (wr1 z k e) (Cw 10 (Ez k e b)) er y z1→er≠0→WrR n q ((k,e,b)::xs) z er z1
 | go {k:Int} {e:Wd} {b:List By} {xs:List N3} {z z1 z':Sg} {er:Int} {y:Pl2}:Bt k b=true→PutG n q (wr1 z k e) (Cw 10 (Ez k e b)) 0 y z1→WrR n q xs (wr2 z1 k e y) er z'→WrR n q ((k,e,b)::xs) z er z'
theorem WrR.app {n:Nat} {q:Qt} {xs ys:List N3} {z z1 z':Sg} {e0 e:Int} (h:WrR n q xs z e0 z1) (h0:e0=0) (h2:WrR n q ys z1 e z'):WrR n q (xs++ys) z e z':=by
 induction h with
 | nil=>exact h2
 | stop _ _ h3=>exact absurd h0 h3
 | go a b _ ih=>exact .go a b (ih h0 h2)
section
variable {n k:Nat} {q:Qt} {z:Sg}
theorem Ai6 (h:WI n k q z) {nds:Sl Nd} (hln:nds.list.length≤300) (hk:k≤299000000000) (hq:q.n≤3)
  (hS:∀ i z1 x,WrR n q ((nds.list.take i).map nd3) z 0 z1→nds.list[i]? =some x→Bt x.key x.body.list=true→Y3 n q (wr1 z1 x.key x.ep)) (hok:∀ x∈nds.list,Bt x.key x.body.list=true) :
  Does Tryz.prog 57 [ptr z.S.st,nds.val] ((z.S.st,true,C (stC z.S) tSt)::(z.S.ib,true,z.S.idx.obj .i64)::(z.S.pb,true,z.S.pend.obj .i64)::(z.S.sb,true,z.S.stray.obj .i64)::(lgH z.L++(nds.hp tNd++(Iw nds.list++[]))))
  (fun v H=>∃ (e:Int) (z':Sg),v= .int .i64 e∧H=(z'.S.st,true,C (stC z'.S) tSt)::(z'.S.ib,true,z'.S.idx.obj .i64)::(z'.S.pb,true,z'.S.pend.obj .i64)::(z'.S.sb,true,z'.S.stray.obj .i64)::(lgH z'.L++[])∧z'.S.st=z.S.st∧WrR n q (nds.list.map nd3) z e z'∧(e≠30→WI n (k+320080*nds.list.length) q z')):=by
 have hsm:=nds.small
 refine Ah (n:=61) Tryz.func57 Tryz.ntmps57 rfl (Ay9 rfl)<|Ad<|Aa fun ops=>oA rfl<|Ac<|n_K<|Ad<|Ad<|Aa fun ops=>oM rfl<|oR (A7 rfl)<|oM rfl<|Ac<|n_K ?_
 refine Ak ?_
 refine A8 [0,10,11] kQ (fun (st:Nat×Sg)=>[(12,.int .i64 st.1)]) (fun (st:Nat×Sg)=>(st.2.S.st,true,C (stC st.2.S) tSt)::(st.2.S.ib,true,st.2.S.idx.obj .i64)::(st.2.S.pb,true,st.2.S.pend.obj .i64)::(st.2.S.sb,true,st.2.S.stray.obj .i64)::(lgH st.2.L++(nds.hp tNd++(Iw nds.list++[])))) (fun (st:Nat×Sg)=>st.1≤nds.list.length∧WI n (k+320080*st.1) q st.2∧st.2.S.st=z.S.st∧WrR n q ((nds.list.take st.1).map nd3) z 0 st.2) (fun (st:Nat×Sg)=>nds.list.length - st.1) ((0,z)) ⟨A2r _,h.mono (by omega),rfl,.nil⟩ kP sP ?_
 rintro ⟨i,z1⟩ ⟨g0,g1,g2,g3⟩
 simp only at g0 g1 g2 g3
 rw [← g2]
 refine Ad<|Aa fun ops=>oR (Ae rfl rfl rfl)<|Ac<|n_K<|Ad ?_
 refine Aj rfl (fun c13=> ?_) (fun c13=> ?_)
 ·simp only [A0d,Ayz] at c13
  obtain ⟨x,hgx⟩:∃ x,nds.list[i]? =some x:=⟨_,Ayw (by omega)⟩
  have htk:(nds.list.take (i+1)).map nd3=(nds.list.take i).map nd3++[nd3 x]:=(by rw [A0i,hgx,A1i];rfl)
  have hall:∀ e z',WrR n q [nd3 x] z1 e z'→e≠0→WrR n q (nds.list.map nd3) z e z':=(fun e z' h1 h2=>by have h3:nds.list.map nd3=(nds.list.take i).map nd3++nd3 x::(nds.list.drop (i+1)).map nd3:=(by obtain ⟨h7,h8⟩:=Aym.1 hgx;conv=>lhs;rw [← Aze i nds.list,Ayq h7,h8];rw [A1i,A15]);rw [h3];refine g3.app rfl ?_;cases h1 with | stop a b c=>exact .stop a b c | go a b c=>(cases c;exact absurd rfl h2))
  refine Ai<|n_K<|Ad<|Ak<|Ad<|Aa fun ops=> ?_
  refine oR (Bk (s:=nds) rfl rfl (by omega)) ?_
  refine oR (Do (s:=nds) (o:=0) rfl pL hgx rfl rfl) ?_
  refine Aw rfl fun b6=> ?_
  refine Af rfl rfl uD rfl rfl rfl ?_
  refine Ac<|n_K<|Ad<|Aa fun ops=> ?_
  refine oR (Au rfl mM rfl) ?_
  rw [Anu hgx]
  have hox:=hok x (Azn hgx)
  refine Bd rfl (W0 (n:=x)) sP rfl fun v18 Y18 h18=> ?_
  obtain ⟨_,s18,rfl,rfl,hs18,ho18⟩:=h18.resolve_left (fun h9=>by rw [hox] at h9;exact absurd h9.1 (by decide))
  refine Ay aQ ?_
  refine oM rfl<|oE rfl rfl<|oE rfl rfl<|oA rfl<|oA rfl<|Ac<|n_K<|Ad<|Ad<|Aa fun ops=>oM rfl<|oR (Ae rfl rfl rfl)<|Ac<|n_K ?_
  refine Bi rfl ?_
  refine Ai<|n_K<|Ad ?_
  refine s_draw [] [(6,[(0,false),(1,false),(2,false),(3,false),(4,false),(5,false)]),(7,[(6,true)])] (by kernel_rfl) rfl fun ops w0 H0 y=> ?_
  refine A4<|xM rfl<|xN rfl<|xF rfl ?_
  refine xR (Al rfl mM rfl) ?_
  refine xF rfl ?_
  refine xR (Al rfl mM rfl) ?_
  refine Am<|Bh<|Be ?_
  refine V4 (m:=z1.S.stray) (v:=(1:Int)) (kd:= .i64) rfl rfl rfl uD ?_
  refine Ac ⟨rfl,⟨_,sP⟩,?_⟩
  refine Am<|Bm<|n_K<|Ad ?_
  refine s_draw [] [(10,[(0,false),(1,false),(2,false),(3,false),(4,false),(5,false),(6,false),(7,false),(8,false),(9,false)]),(11,[(10,true)])] (by kernel_rfl) rfl fun ops w0 H0 y=> ?_
  refine A4<|xM rfl<|xM rfl<|xN rfl<|xF rfl ?_
  refine xR (show Rd _ _ _ _ (wv z1.S.seen) from Al rfl mM (Iv (S:=z1.S) (o:=8) rfl)) ?_
  refine xF rfl ?_
  refine xR (Al rfl mM rfl) ?_
  refine xR (Ny rfl rfl)<|xN rfl<|xF rfl<|Am<|Bh<|Be ?_
  refine Af (cs':=stC (wr1 z1 x.key x.ep).S) rfl rfl uD rfl rfl (Ds (S:=z1.S) rfl rfl) ?_
  refine Ac ⟨rfl,⟨_,sP⟩,?_⟩
  refine Am<|Bm<|n_K<|Ad<|Aa fun ops=>oM rfl<|oM rfl ?_
  refine A5 rfl rfl rfl rfl fun b43=> ?_
  refine Bd rfl (Agk (z:=wr1 z1 x.key x.ep) (k:=k+320080*i) ⟨g1.1,g1.2⟩ (by omega) hq (hS i z1 x g3 hgx hox) (kind:=10) (s:=s18) (b:=b43) (by rw [hs18,W4];unfold Bt at hox;simp at hox;omega) (by decide) (by rw [hs18];exact (J2 hox).2.2.2.2)) sP rfl fun v44 Y44 h44=> ?_
  obtain ⟨e2,y2,z2,rfl,rfl,hst2,hP,hW2⟩:=h44
  rw [hs18] at hP
  have hst2':z2.S.st=z1.S.st:=hst2
  have hsb:z2.S.sb=z1.S.sb:=hP.same.sb
  have hstr:z2.S.stray=z1.S.stray.put x.key 1:=hP.same.stray
  rw [← hsb,← hstr]
  refine Ay aQ ?_
  refine oM rfl<|oE rfl rfl<|oE rfl rfl ?_
  refine Aw rfl fun b9=> ?_
  refine Af rfl rfl uD rfl rfl rfl ?_
  refine oA rfl<|Ac<|n_K<|Ad<|Ad<|Aa fun ops=>oM rfl<|oR (Ae rfl rfl rfl)<|Ac<|n_K ?_
  refine Aj rfl (fun c48=> ?_) (fun c48=> ?_)
  ·skip
   have he:e2≠0:=(by simpa using c48)
   refine Ad<|Aa fun ops=>oM rfl<|oA rfl<|Ac<|n_K<|An<|r_K<|Bn<|r_K<|r_K<|Bn<|r_K ?_
   exact Av (At Tryz.results57 (Ag rfl)) (by exact ⟨e2,z2,rfl,rfl,hst2',hall _ _ (.stop hox hP he) he,fun h9=>(hW2 h9).mono (by omega)⟩) sP
  ·skip
   have he:e2=0:=(by simpa using c48)
   subst he
   rw [← hst2']
   refine Ai<|n_K ?_
   refine s_draw [] [(10,[(0,false),(1,false),(2,false),(3,false),(4,false),(5,false),(6,false),(7,false),(8,false),(9,false)]),(11,[(10,true)])] (by kernel_rfl) rfl fun ops w0 H0 y=> ?_
   refine A4<|xM rfl<|xN rfl<|xF rfl ?_
   refine xR (Al rfl mM rfl) ?_
   refine xF rfl ?_
   refine xR (Al rfl mM rfl) ?_
   refine xR (Au rfl mM rfl) ?_
   refine xF rfl ?_
   refine xR (Al rfl mM rfl) ?_
   refine xR (Bc rfl rfl)<|Am<|Bh<|Be ?_
   refine V4 (m:=z2.S.pend) (v:=(⟨y2,x.ep⟩:En)) (kd:= .i64) rfl rfl rfl uD ?_
   refine Ac ⟨rfl,⟨_,sP⟩,?_⟩
   refine Am<|Bm<|Az<|n_K<|Aa fun ops=> ?_
   refine oR (Ao rfl rfl (by omega)) ?_
   refine oM rfl<|Ac<|n_K ?_
   exact ⟨(i+1,wr2 z2 x.key x.ep y2),⟨by simp only;omega,⟨(hW2 (by decide)).1,((hW2 (by decide)).mono (by omega)).2⟩,rfl,by simp only;rw [htk];exact g3.app rfl (.go hox hP .nil)⟩,by simp only;omega,lZ⟩
 ·simp only [A0d,Ayz] at c13
  have hi:i=nds.list.length:=(by omega)
  subst hi
  rw [A0w] at g3
  refine Bb<|x_K<|x_K<|Bj<|n_K<|Ad<|Aa fun ops=>oA rfl<|Ac<|n_K<|An ?_
  exact Av (At Tryz.results57 (Ag rfl)) (by exact ⟨0,z1,rfl,rfl,rfl,g3,fun _=>g1⟩) sP
end
end
section
open Go.K
instance zer31:Zer Tryz.prog 31 ([.int .u64 0,.int .i64 0,.int .u64 0]):=⟨by kernel_rfl⟩
instance fld67_6:Fld Tryz.prog 67 6 40:=⟨⟨_,_,2,Tryz.underlying67,rfl,by kernel_rfl,rfl⟩⟩
instance ent20:Ent Tryz.prog 20:=⟨fun _ _=>by kernel_rfl⟩
instance ent22:Ent Tryz.prog 22:=⟨fun _ _=>by kernel_rfl⟩
instance ent25:Ent Tryz.prog 25:=⟨fun _ _=>by kernel_rfl⟩
instance ent29:Ent Tryz.prog 29:=⟨fun _ _=>by kernel_rfl⟩
instance ent30:Ent Tryz.prog 30:=⟨fun _ _=>by kernel_rfl⟩
def vwM (v:Vw):Vw:={ v with mem:=Er .and .i64 v.mem 255 }
def Axz (n:Nat) (q:Qt) (z:Sg) (v:Vw) (e:Int) (z':Sg):Prop :=
 ∃ y z1,PutG n q z (Cw 12 (My v)) e y z1∧z'=if (decide (e=0) && (!z1.S.viewed || decide (z1.S.vw.num.toNat≤v.num.toNat)))=true then { z1 with S:={ z1.S with vw:=vwM v,va:=y,viewed:=true } } else z1
theorem W6 (v:Vw):(My v).length=17:=by
 unfold My
 simp [Bo]
section
variable {n k:Nat} {q:Qt} {z:Sg} {S:Sto}
theorem Axv (h:WI n k q z) (hk:k≤299999500000) (hq:q.n≤3) (hS:Y3 n q z) {v:Vw} :
  Does Tryz.prog 29 [ptr z.S.st,.agg (vwC v).toArray] ((z.S.st,true,C (stC z.S) tSt)::(z.S.ib,true,z.S.idx.obj .i64)::(z.S.pb,true,z.S.pend.obj .i64)::(lgH z.L++[]))
  (fun w H=>∃ (e:Int) (z':Sg),w= .int .i64 e∧H=(z'.S.st,true,C (stC z'.S) tSt)::(z'.S.ib,true,z'.S.idx.obj .i64)::(z'.S.pb,true,z'.S.pend.obj .i64)::(lgH z'.L++[])∧z'.S.st=z.S.st∧Axz n q z v e z'∧(e≠30→WI n (k+320080) q z')):=by
 refine Ah (n:=50) Tryz.func29 Tryz.ntmps29 rfl (Ay9 rfl)<|Ad<|Aa fun ops=> ?_
 refine De rfl rfl fun b3=> ?_
 refine oA rfl<|Ac<|n_K<|Ad<|Aa fun ops=>oM rfl ?_
 refine oR (Au rfl mM rfl) ?_
 refine Bd rfl (Axn) sP rfl fun v10 Y10 h10=> ?_
 obtain ⟨s10,rfl,rfl,hs10,ho10⟩:=h10
 refine Ay aQ ?_
 refine A5 rfl rfl rfl rfl fun b11=> ?_
 refine Bd rfl (Agk (z:=z) h hk hq hS (kind:=12) (s:=s10) (b:=b11) (by rw [hs10,W6];decide) (by decide) (by rw [hs10];unfold C6;rw [W6];rfl)) sP rfl fun v12 Y12 h12=> ?_
 obtain ⟨e1,y1,z1,rfl,rfl,hst1,hP,hW⟩:=h12
 rw [hs10] at hP
 have hdc:decide ((v.num.toNat:Int)≥(z1.S.vw.num.toNat:Int))=decide (z1.S.vw.num.toNat≤v.num.toNat):=A0x.2 (by omega)
 rw [← hst1]
 refine Ay aQ ?_
 refine oM rfl<|oE rfl rfl<|oE rfl rfl ?_
 refine Aw rfl fun b5=> ?_
 refine Af rfl rfl uD rfl rfl rfl ?_
 refine oA rfl<|Ac<|n_K<|Ad<|Ad ?_
 refine s_draw [(2,17),(8,23)] [(19,[(0,false),(1,false),(2,false),(3,false),(4,false),(5,false),(6,false),(7,false),(8,false),(9,false),(10,false),(11,false),(12,false),(13,false),(14,false),(15,false),(16,false),(17,false),(18,false)])] (by kernel_rfl) rfl fun ops w0 H0 y=> ?_
 refine A4<|xM rfl<|xR (Ae rfl rfl rfl)<|xM rfl ?_
 refine' Hx (j:=2) (k:=15) y rfl rfl rfl rfl rfl rfl rfl (fun hg17=> ?_) ?_
 rotate_left
 ·try (simp at hg17;show _)
  refine x_g y rfl rfl ?_
  refine xM rfl ?_
  refine x_g y rfl rfl ?_
  refine xN rfl ?_
  refine x_g y rfl rfl ?_
  refine xF rfl ?_
  refine x_g y rfl rfl ?_
  refine xR (Al rfl mM (Iv rfl)) ?_
  refine x_g y rfl rfl ?_
  refine xR (Bx rfl) ?_
  refine x_g y rfl rfl ?_
  refine xM rfl ?_
  refine' Qa (j:=8) (k:=8) y rfl rfl rfl rfl rfl rfl rfl (fun hg23=> ?_) ?_
  rotate_left
  ·try (simp at hg23;show _)
   refine x_g y rfl rfl ?_
   refine xF rfl ?_
   refine x_g y rfl rfl ?_
   refine xR (Al rfl mM rfl) ?_
   refine x_g y rfl rfl ?_
   refine xM rfl ?_
   refine x_g y rfl rfl ?_
   refine xN rfl ?_
   refine x_g y rfl rfl ?_
   refine xF rfl ?_
   refine x_g y rfl rfl ?_
   refine xF rfl ?_
   refine x_g y rfl rfl ?_
   refine xR (show Rd _ _ _ _ (wv z1.S.vw.num) from Al rfl mM (Iv (S:=z1.S) (o:=2) rfl)) ?_
   refine x_g y rfl rfl ?_
   refine xR (Ae rfl rfl rfl) ?_
   exact Am ⟨rfl,⟨_,sP⟩⟩
  exact Am ⟨rfl,⟨_,sP⟩⟩
 refine Am<|Bm<|n_K ?_
 refine Aj rfl (fun c33=> ?_) (fun c33=> ?_)
 ·skip
  have hc:(decide (e1=0) && (!z1.S.viewed || decide (z1.S.vw.num.toNat≤v.num.toNat)))=true:=(by rw [← hdc];exact c33)
  refine Ad<|Aa fun ops=>oF rfl ?_
  refine oR (Al rfl mM rfl) ?_
  refine oR (Ae rfl rfl rfl)<|oF rfl ?_
  refine Af rfl rfl uD rfl rfl rfl ?_
  refine Ac<|n_K ?_
  refine He [] [0,1,2] [[(3,false),(4,false),(5,false),(6,false),(7,true)],[(8,false)],[(9,false)],[(10,true)],[(11,false)],[(12,false)],[(13,true)]] (by kernel_rfl) rfl rfl fun ops w0 H0 y=> ?_
  unfold Tg
  refine xM rfl<|xM rfl<|xM rfl<|Am ?_
  refine Aqn [(b3,true,C [wv v.num,.int .i64 (Er .and .i64 v.mem 255),wv v.base] tVw),(b5,true,C [.int .i64 y1.1,.int .i64 y1.2] tPc)] sP ?_
  refine xR (Au rfl mM rfl) ?_
  refine xR (Au rfl mM rfl) ?_
  refine xN rfl<|xF rfl<|Be ?_
  first | refine Af (cs':=stC { z1.S with vw:=vwM v }) rfl rfl uD rfl rfl (Ds (S:=z1.S) (o:=2) rfl rfl) ?_ | refine Af (cs':=stC { z1.S with vw:=vwM v,va:=y1 }) rfl rfl uD rfl rfl (Ds (S:={ z1.S with vw:=vwM v }) (o:=5) rfl rfl) ?_ | refine Af (cs':=stC { z1.S with vw:=vwM v,va:=y1,viewed:=true }) rfl rfl uD rfl rfl (Ds (S:={ z1.S with vw:=vwM v,va:=y1 }) (o:=7) rfl rfl) ?_
  refine Ac ⟨rfl,⟨_,sP⟩,?_⟩
  refine Am<|A4<|xN rfl<|Am<|A4<|xF rfl<|Am<|Bh<|Be ?_
  first | refine Af (cs':=stC { z1.S with vw:=vwM v }) rfl rfl uD rfl rfl (Ds (S:=z1.S) (o:=2) rfl rfl) ?_ | refine Af (cs':=stC { z1.S with vw:=vwM v,va:=y1 }) rfl rfl uD rfl rfl (Ds (S:={ z1.S with vw:=vwM v }) (o:=5) rfl rfl) ?_ | refine Af (cs':=stC { z1.S with vw:=vwM v,va:=y1,viewed:=true }) rfl rfl uD rfl rfl (Ds (S:={ z1.S with vw:=vwM v,va:=y1 }) (o:=7) rfl rfl) ?_
  refine Ac ⟨rfl,⟨_,sP⟩,?_⟩
  refine Am<|A4<|xN rfl<|Am<|A4<|xF rfl<|Am<|Bh<|Be ?_
  first | refine Af (cs':=stC { z1.S with vw:=vwM v }) rfl rfl uD rfl rfl (Ds (S:=z1.S) (o:=2) rfl rfl) ?_ | refine Af (cs':=stC { z1.S with vw:=vwM v,va:=y1 }) rfl rfl uD rfl rfl (Ds (S:={ z1.S with vw:=vwM v }) (o:=5) rfl rfl) ?_ | refine Af (cs':=stC { z1.S with vw:=vwM v,va:=y1,viewed:=true }) rfl rfl uD rfl rfl (Ds (S:={ z1.S with vw:=vwM v,va:=y1 }) (o:=7) rfl rfl) ?_
  refine Ac ⟨rfl,⟨_,sP⟩,?_⟩
  refine Am<|Bm<|n_K<|Ad<|Aa fun ops=>oM rfl<|oA rfl<|Ac<|n_K<|An ?_
  exact Av (At Tryz.results29 (Ag rfl)) (by exact ⟨e1,{ z1 with S:={ z1.S with vw:=vwM v,va:=y1,viewed:=true } },rfl,rfl,rfl,⟨y1,z1,hP,by rw [A25 hc]⟩,fun h9=>⟨(hW h9).1,(hW h9).2⟩⟩) sP
 ·skip
  have hc:(decide (e1=0) && (!z1.S.viewed || decide (z1.S.vw.num.toNat≤v.num.toNat)))=false:=(by rw [← hdc];exact c33)
  refine Ai<|n_K<|Ad<|Aa fun ops=>oM rfl<|oA rfl<|Ac<|n_K<|An ?_
  exact Av (At Tryz.results29 (Ag rfl)) (by exact ⟨e1,z1,rfl,rfl,rfl,⟨y1,z1,hP,by rw [A26 (by rw [hc];decide)]⟩,hW⟩) sP
theorem O9:Does Tryz.prog 22 [ptr S.st] [(S.st,true,C (stC S) tSt)] (Is (wv S.last.ep) [(S.st,true,C (stC S) tSt)]):=by
 refine Ah (n:=8) Tryz.func22 Tryz.ntmps22 rfl (Ay9 rfl)<|Ad<|Aa fun ops=>oA rfl<|Ac<|n_K<|Ad<|Aa fun ops=>oM rfl<|oN rfl<|oF rfl<|oF rfl ?_
 refine oR (Al rfl mM rfl) ?_
 refine oA rfl<|Ac<|n_K<|An ?_
 refine Aq (At Tryz.results22 (Ag rfl)) ?_ sP
 rfl
theorem Agm:Does Tryz.prog 20 [ptr S.st] [(S.st,true,C (stC S) tSt)] (Is (wv S.seen) [(S.st,true,C (stC S) tSt)]):=by
 refine Ah (n:=7) Tryz.func20 Tryz.ntmps20 rfl (Ay9 rfl)<|Ad<|Aa fun ops=>oA rfl<|Ac<|n_K<|Ad<|Aa fun ops=>oM rfl<|oN rfl<|oF rfl ?_
 refine oR (show Rd _ _ _ _ (wv S.seen) from Al rfl mM (Iv (S:=S) (o:=8) rfl)) ?_
 refine oA rfl<|Ac<|n_K<|An ?_
 refine Aq (At Tryz.results20 (Ag rfl)) ?_ sP
 rfl
theorem Axj:Does Tryz.prog 30 [ptr S.st] [(S.st,true,C (stC S) tSt)] (Is (.tuple #[.agg (vwC S.vw).toArray,.bool S.viewed]) [(S.st,true,C (stC S) tSt)]):=by
 refine Ah (n:=12) Tryz.func30 Tryz.ntmps30 rfl (Ay9 rfl)<|Ad<|Aa fun ops=> ?_
 refine Aw rfl fun b2=> ?_
 refine oA rfl<|Ac<|n_K<|Ad ?_
 refine He [] [0,1,2,4,5,6] [[(3,false),(7,false),(8,true)],[(9,false)]] (by kernel_rfl) rfl rfl fun ops w0 H0 y=> ?_
 unfold Tg
 refine xM rfl<|xN rfl<|xF rfl<|xM rfl<|xN rfl<|xF rfl<|Am ?_
 refine Aqn [(S.st,true,C (stC S) tSt)] sP ?_
 refine xR (Au rfl mM (Yx rfl)) ?_
 refine xR (Al rfl mM (Iv rfl)) ?_
 refine Be ?_
 refine Af rfl rfl uD rfl rfl rfl ?_
 refine Ac ⟨rfl,⟨_,sP⟩,?_⟩
 refine Am<|A4<|xA rfl<|Am<|Bm<|n_K<|An ?_
 refine Aq (Bz Tryz.results30 (Bv rfl mM rfl) (Ag rfl)) ?_ sP
 rfl
theorem Ab5 (h:WI n k q z):Does Tryz.prog 25 [ptr z.S.st] ((z.S.st,true,C (stC z.S) tSt)::(lgH z.L++[])) (Is (.int .i64 (Hy z.L.nb)) ((z.S.st,true,C (stC z.S) tSt)::(lgH z.L++[]))):=by
 have hul:=h.2.choose_spec.ulen
 refine Ah (n:=12) Tryz.func25 Tryz.ntmps25 rfl (Ay9 rfl)<|Ad<|Aa fun ops=>oA rfl<|Ac<|n_K<|Ad<|Aa fun ops=>oM rfl<|oN rfl<|oF rfl ?_
 refine oR (show Rd _ _ _ _ (ptr z.L.lg) from by rw [← h.1];exact Al rfl mM rfl) ?_
 refine oN rfl<|oF rfl ?_
 refine oR (Qn rfl pL) ?_
 refine A6 rfl ((Anm (L:=z.L)).to (by rw [hul]) rfl) sP rfl aQ ?_
 refine A6 rfl (Anc) sP rfl aQ ?_
 refine oA rfl<|Ac<|n_K<|An ?_
 refine Aq (At Tryz.results25 (Ag rfl)) ?_ sP
 rfl
end
end
section
open Go.K
instance ent136:Ent Tryz.prog 136:=⟨fun _ _=>by kernel_rfl⟩
instance ent137:Ent Tryz.prog 137:=⟨fun _ _=>by kernel_rfl⟩
abbrev tIS:TypeId:=85
abbrev tMI:TypeId:=63
abbrev tMJ:TypeId:=62
structure KII (m:Mp Int) (b2:Nat) (seen:List Nat) (X:Hp):Prop where
 ex:∃ (out:Sl Int) (es:List (Me Int)),X=(b2,true,C [out.val] tIS)::(out.hp tI++[])∧out.isOwn=true∧es.map (·.n)=seen∧out.list=es.map (·.k)∧∀ e∈es,e∈m.es
 nd:seen.Nodup
 le:seen.length+Hw m seen≤m.es.length
theorem Anw {I:List Nat→Hp→Prop} {l f0 D:Nat} {tm:Array Value} {ps:Array Tmp} {sg bd:Code} {X0:Hp} {bp bm:Nat} {m:Mp Int} (hps:ps.size=1) (h0:I [] X0)
  (hrnd:∀ seen X (e:Me Int),e∈m.es→e.n∉seen→I seen X→Rnd Tryz.prog l f0 (F9 ⟨.ready,none,f0,tm,ps,sg,bd,D⟩ [.int .i64 e.k]) sg bd ((l,true,.loop ⟨.ready,none,f0,tm,ps,sg,bd,D⟩)::(bp,true,C [.map (some bm)] tMI)::(bm,true,m.obj .i64)::(X++[]))
   (fun v Y=>v= .bool true∧∃ X',Y=(l,true,.loop ⟨.ready,none,f0,tm,ps,sg,bd,D⟩)::(bp,true,C [.map (some bm)] tMI)::(bm,true,m.obj .i64)::(X'++[])∧I (seen++[e.n]) X')) :
  Does Tryz.prog 136 [.func (.yield l) #[] #[],ptr bp] ((l,true,.loop ⟨.ready,none,f0,tm,ps,sg,bd,D⟩)::(bp,true,C [.map (some bm)] tMI)::(bm,true,m.obj .i64)::(X0++[]))
   (fun v Y=>v= .tuple #[]∧∃ X seen,Y=(l,true,.loop ⟨.ready,none,f0,tm,ps,sg,bd,D⟩)::(bp,true,C [.map (some bm)] tMI)::(bm,true,m.obj .i64)::(X++[])∧I seen X∧∀ e∈m.es,e.n∈seen):=by
 refine Ah (n:=14) Tryz.func136 Tryz.ntmps136 rfl (Ay9 rfl)<|Ad<|Aa fun ops=> ?_
 refine oR (Al rfl mM rfl) ?_
 refine Ip (m:=m) (kd:= .i64) rfl mM rfl fun it5=> ?_
 refine Ac<|n_K<|Ak ?_
 refine A8 [0,5] kQ (fun (st:List Nat×Hp)=>[]) (fun (st:List Nat×Hp)=>(it5,true,itO bm m.cl st.1 m.cl)::(l,true,.loop ⟨.ready,none,f0,tm,ps,sg,bd,D⟩)::(bp,true,C [.map (some bm)] tMI)::(bm,true,m.obj .i64)::(st.2++[])) (fun (st:List Nat×Hp)=>I st.1 st.2) (fun (st:List Nat×Hp)=>Hw m st.1) (([],X0)) h0 kP sP ?_
 rintro ⟨seen,X⟩ gI
 simp only at gI
 refine Ad<|Aa fun ops=> ?_
 refine Ki rfl (by repeat (first | exact Pick.here | apply Pick.there | apply Pick.app)) mM (Mp.wc _) (A2q _) rfl (fun hl6=> ?_) (fun e6 he6 hn6=> ?_)
 ·refine oE rfl rfl<|Ac<|n_K<|Ad ?_
  refine Bi rfl ?_
  refine Bb<|x_K<|x_K<|Bj ?_
  exact H5 (Ml Tryz.results136) (by exact ⟨rfl,X,seen,rfl,gI,Ib hl6⟩) sP
 ·refine oE rfl rfl<|Ac<|n_K<|Ad ?_
  refine F1 rfl ?_
  refine Ai<|n_K<|Ak<|Ad<|Aa fun ops=> ?_
  refine oR (Iq rfl mM mM he6) ?_
  refine oE rfl rfl<|oA rfl<|Ac<|n_K<|Ad ?_
  refine P5 [] rfl (fun ops y=>Lm 2 ?_)
  refine oM rfl<|oM rfl<|Ac ⟨rfl,?_⟩
  refine X2 (r:=⟨.ready,none,f0,tm,ps,sg,bd,D⟩) y rfl rfl rfl (by simp [hps]) sP (hrnd seen X e6 he6 hn6 gI) rfl ?_
  rintro v L' ⟨rfl,X',rfl,gI'⟩
  simp only [A02,A0j,A1k]
  refine Lm 1 ?_
  refine oR (Bx rfl)<|Ac ⟨rfl,Afg<|n_K ?_⟩
  refine Bi rfl<|Ai<|Az<|n_K ?_
  exact ⟨(seen++[e6.n],X'),gI',Da he6 hn6,lZ⟩
structure KIJ (m:Mp En) (b2:Nat) (seen:List Nat) (X:Hp):Prop where
 ex:∃ (out:Sl Int) (es:List (Me En)),X=(b2,true,C [out.val] tIS)::(out.hp tI++[])∧out.isOwn=true∧es.map (·.n)=seen∧out.list=es.map (·.k)∧∀ e∈es,e∈m.es
 nd:seen.Nodup
 le:seen.length+Hw m seen≤m.es.length
theorem Anx {I:List Nat→Hp→Prop} {l f0 D:Nat} {tm:Array Value} {ps:Array Tmp} {sg bd:Code} {X0:Hp} {bp bm:Nat} {m:Mp En} (hps:ps.size=1) (h0:I [] X0)
  (hrnd:∀ seen X (e:Me En),e∈m.es→e.n∉seen→I seen X→Rnd Tryz.prog l f0 (F9 ⟨.ready,none,f0,tm,ps,sg,bd,D⟩ [.int .i64 e.k]) sg bd ((l,true,.loop ⟨.ready,none,f0,tm,ps,sg,bd,D⟩)::(bp,true,C [.map (some bm)] tMJ)::(bm,true,m.obj .i64)::(X++[]))
   (fun v Y=>v= .bool true∧∃ X',Y=(l,true,.loop ⟨.ready,none,f0,tm,ps,sg,bd,D⟩)::(bp,true,C [.map (some bm)] tMJ)::(bm,true,m.obj .i64)::(X'++[])∧I (seen++[e.n]) X')) :
  Does Tryz.prog 137 [.func (.yield l) #[] #[],ptr bp] ((l,true,.loop ⟨.ready,none,f0,tm,ps,sg,bd,D⟩)::(bp,true,C [.map (some bm)] tMJ)::(bm,true,m.obj .i64)::(X0++[]))
   (fun v Y=>v= .tuple #[]∧∃ X seen,Y=(l,true,.loop ⟨.ready,none,f0,tm,ps,sg,bd,D⟩)::(bp,true,C [.map (some bm)] tMJ)::(bm,true,m.obj .i64)::(X++[])∧I seen X∧∀ e∈m.es,e.n∈seen):=by
 refine Ah (n:=14) Tryz.func137 Tryz.ntmps137 rfl (Ay9 rfl)<|Ad<|Aa fun ops=> ?_
 refine oR (Al rfl mM rfl) ?_
 refine Ip (m:=m) (kd:= .i64) rfl mM rfl fun it5=> ?_
 refine Ac<|n_K<|Ak ?_
 refine A8 [0,5] kQ (fun (st:List Nat×Hp)=>[]) (fun (st:List Nat×Hp)=>(it5,true,itO bm m.cl st.1 m.cl)::(l,true,.loop ⟨.ready,none,f0,tm,ps,sg,bd,D⟩)::(bp,true,C [.map (some bm)] tMJ)::(bm,true,m.obj .i64)::(st.2++[])) (fun (st:List Nat×Hp)=>I st.1 st.2) (fun (st:List Nat×Hp)=>Hw m st.1) (([],X0)) h0 kP sP ?_
 rintro ⟨seen,X⟩ gI
 simp only at gI
 refine Ad<|Aa fun ops=> ?_
 refine Ki rfl (by repeat (first | exact Pick.here | apply Pick.there | apply Pick.app)) mM (Mp.wc _) (A2q _) rfl (fun hl6=> ?_) (fun e6 he6 hn6=> ?_)
 ·refine oE rfl rfl<|Ac<|n_K<|Ad ?_
  refine Bi rfl ?_
  refine Bb<|x_K<|x_K<|Bj ?_
  exact H5 (Ml Tryz.results137) (by exact ⟨rfl,X,seen,rfl,gI,Ib hl6⟩) sP
 ·refine oE rfl rfl<|Ac<|n_K<|Ad ?_
  refine F1 rfl ?_
  refine Ai<|n_K<|Ak<|Ad<|Aa fun ops=> ?_
  refine oR (Iq rfl mM mM he6) ?_
  refine oE rfl rfl<|oA rfl<|Ac<|n_K<|Ad ?_
  refine P5 [] rfl (fun ops y=>Lm 2 ?_)
  refine oM rfl<|oM rfl<|Ac ⟨rfl,?_⟩
  refine X2 (r:=⟨.ready,none,f0,tm,ps,sg,bd,D⟩) y rfl rfl rfl (by simp [hps]) sP (hrnd seen X e6 he6 hn6 gI) rfl ?_
  rintro v L' ⟨rfl,X',rfl,gI'⟩
  simp only [A02,A0j,A1k]
  refine Lm 1 ?_
  refine oR (Bx rfl)<|Ac ⟨rfl,Afg<|n_K ?_⟩
  refine Bi rfl<|Ai<|Az<|n_K ?_
  exact ⟨(seen++[e6.n],X'),gI',Da he6 hn6,lZ⟩
end
section
open Go.K
instance ent183:Ent Tryz.prog 183:=⟨fun _ _=>by kernel_rfl⟩
theorem W7 {α:Type} (m:Mp α):0+Hw m []≤m.es.length:=by
 unfold Hw
 have:=Azb (fun i=> !decide (i∈([]:List Nat))) (m.es.map (·.n))
 rw [A1a] at this
 omega
theorem W8 {α:Type} {m:Mp α} {es:List (Me α)} {seen:List Nat} (h1:es.map (·.n)=seen) (hnd:seen.Nodup) (h3:∀ e∈es,e∈m.es) (hall:∀ e∈m.es,e.n∈seen):es.Perm m.es:=by
 subst h1
 have hn1:es.Nodup:=by
  refine List.Pairwise.imp (fun h e=>h (A20 _ e)) (A0k.1 hnd)
 have hn2:m.es.Nodup:=by
  refine List.Pairwise.imp (fun h e=>h (A20 _ e)) (A0k.1 m.wn)
 refine (List.perm_ext_iff_of_nodup hn1 hn2).2 fun x=>⟨fun h=>h3 x h,fun h=> ?_⟩
 obtain ⟨y,hy,e⟩:=A2b.1 (hall x h)
 rw [← Mp.n_inj (h3 y hy) h e]
 exact hy
theorem Arw {bp bm:Nat} {m:Mp Int} (hm:m.es.length≤1000):Does Tryz.prog 183 [.slice none 0 0,.func (.func 136) #[] #[ptr bp]] ((bp,true,C [.map (some bm)] tMI)::(bm,true,m.obj .i64)::[])
  (fun v H=>∃ s:Sl Int,v=s.val∧H=s.hp tI++((bp,true,C [.map (some bm)] tMI)::(bm,true,m.obj .i64)::[])∧s.isOwn=true∧s.list.Perm m.keys):=by
 refine P6 (n:=13) Tryz.func183 Tryz.ntmps183 rfl (Ay9 rfl) ?_
 refine Alb ?_
 refine Aa fun ops=> ?_
 refine De rfl rfl fun b2=> ?_
 refine oA rfl<|Ac ?_
 refine ⟨rfl,?_⟩
 refine Adb ?_
 refine Aa fun ops=>oM rfl<|Ac ?_
 refine ⟨rfl,?_⟩
 refine Aas (fi:=[]) (ca:=[ptr bp]) (L:=(bp,true,C [.map (some bm)] tMI)::(bm,true,m.obj .i64)::(b2,true,C [(Sl.nil:Sl Int).val] tIS)::[]) (F:=[]) (R1:=fun M=>∃ X seen,M=(bp,true,C [.map (some bm)] tMI)::(bm,true,m.obj .i64)::(X++[])∧KII m b2 seen X∧∀ e∈m.es,e.n∈seen) rfl sP ?_ ?_
 ·intro D l f0 tm ht hsz
  refine (Anw (m:=m) (bm:=bm) (bp:=bp) (I:=KII m b2) (X0:=(b2,true,C [(Sl.nil:Sl Int).val] tIS)::[]) rfl ⟨⟨.nil,[],by rw [Sl.hp_nil];rfl,rfl,rfl,rfl,fun e he=>nomatch he⟩,A1u,by show 0+Hw m []≤_;exact W7 m⟩ ?_).mono ?_
  rotate_left
  ·rintro v Y ⟨rfl,X,seen,rfl,hX,hall⟩
   exact ⟨_,_,rfl,(fun e=>nomatch e),X,seen,rfl,hX,hall⟩
  rintro seen X e he hne ⟨⟨out,es,rfl,ho,h1,h2,h3⟩,hnd,hle⟩
  have hlt:=Da he hne
  have hol:out.list.length≤1000:=(by rw [h2,A1a];have:es.length=seen.length:=(by rw [← h1,A1a]);omega)
  rw [show ((b2,true,C [out.val] tIS)::(out.hp tI++[])++[]:Hp)=(b2,true,C [out.val] tIS)::(out.hp tI++[]) by simp]
  refine Tj (n:=13) [(7,.int .i64 e.k),(2,ptr b2)] (by rw [show F9 _ _=tm.setIfInBounds 7 (.int .i64 e.k) from by simp [F9]];exact EnvOk.put (a:=⟨tm,[]⟩) (d:=7) (v:= .int .i64 e.k) ((Keep.cons rfl .nil).ok ht) (by rw [hsz];decide)) (by simp [F9,hsz]) rfl fun rg=> ?_
  refine Aa fun ops=>oA rfl<|Ac ?_
  refine ⟨rfl,_,rfl,?_⟩
  refine Ak<|Aa fun ops=> ?_
  refine oR (Al rfl mM rfl) ?_
  refine oM rfl ?_
  refine A5 rfl rfl rfl rfl fun b10=> ?_
  refine Bp (s:=out) (new:=[e.k]) (m:=1) rfl rfl pL ho (Cv (r:=true) mM rfl) rfl rfl rfl rfl (by omega) rfl fun out' hs1 hs2=> ?_
  refine Af rfl rfl uD rfl rfl rfl ?_
  refine Ac<|Az ?_
  refine ⟨rfl,(bp,true,C [.map (some bm)] tMI)::(bm,true,m.obj .i64)::((b2,true,C [out'.val] tIS)::(out'.hp tI++[])++[]),_,by rw [show ((b2,true,C [out'.val] tIS)::(out'.hp tI++[])++[]:Hp)=(b2,true,C [out'.val] tIS)::(out'.hp tI++[]) by simp];exact sP,rfl,(b2,true,C [out'.val] tIS)::(out'.hp tI++[]),rfl,⟨out',es++[e],rfl,hs2,by rw [A1i,h1];rfl,by rw [hs1,h2,A1i];rfl,?_⟩,?_,?_⟩
  ·intro x hx
   rcases A1d.1 hx with hx | hx
   ·exact h3 x hx
   ·rw [Azy.1 hx];exact he
  ·exact A0g.2 ⟨hnd,by simp,fun a ha b hb e2=>hne (by rw [Azy.1 hb] at e2;rw [← e2];exact ha)⟩
  ·rw [Azz,Azj];omega
 ·rintro rg D M ⟨X,seen,rfl,⟨⟨out,es,rfl,ho,h1,h2,h3⟩,hnd,hle⟩,hall⟩
  rw [show (Go.K.mark D::(((bp,true,C [.map (some bm)] tMI)::(bm,true,m.obj .i64)::((b2,true,C [out.val] tIS)::(out.hp tI++[])++[]))++[]):Hp)=Go.K.mark D::(bp,true,C [.map (some bm)] tMI)::(bm,true,m.obj .i64)::(b2,true,C [out.val] tIS)::(out.hp tI++[]) by simp]
  refine Ad<|Aa fun ops=> ?_
  refine oR (Al rfl mM rfl) ?_
  refine oA rfl<|Ac<|n_K<|An ?_
  refine pkD ?_
  exact Av (At Tryz.results183 (Ag rfl)) (by exact ⟨out,rfl,rfl,ho,by rw [h2];exact (W8 h1 hnd h3 hall).map _⟩) sP
theorem Arx {bp bm:Nat} {m:Mp En} (hm:m.es.length≤1000):Does Tryz.prog 183 [.slice none 0 0,.func (.func 137) #[] #[ptr bp]] ((bp,true,C [.map (some bm)] tMJ)::(bm,true,m.obj .i64)::[])
  (fun v H=>∃ s:Sl Int,v=s.val∧H=s.hp tI++((bp,true,C [.map (some bm)] tMJ)::(bm,true,m.obj .i64)::[])∧s.isOwn=true∧s.list.Perm m.keys):=by
 refine P6 (n:=13) Tryz.func183 Tryz.ntmps183 rfl (Ay9 rfl) ?_
 refine Alb ?_
 refine Aa fun ops=> ?_
 refine De rfl rfl fun b2=> ?_
 refine oA rfl<|Ac ?_
 refine ⟨rfl,?_⟩
 refine Adb ?_
 refine Aa fun ops=>oM rfl<|Ac ?_
 refine ⟨rfl,?_⟩
 refine Aas (fi:=[]) (ca:=[ptr bp]) (L:=(bp,true,C [.map (some bm)] tMJ)::(bm,true,m.obj .i64)::(b2,true,C [(Sl.nil:Sl Int).val] tIS)::[]) (F:=[]) (R1:=fun M=>∃ X seen,M=(bp,true,C [.map (some bm)] tMJ)::(bm,true,m.obj .i64)::(X++[])∧KIJ m b2 seen X∧∀ e∈m.es,e.n∈seen) rfl sP ?_ ?_
 ·intro D l f0 tm ht hsz
  refine (Anx (m:=m) (bm:=bm) (bp:=bp) (I:=KIJ m b2) (X0:=(b2,true,C [(Sl.nil:Sl Int).val] tIS)::[]) rfl ⟨⟨.nil,[],by rw [Sl.hp_nil];rfl,rfl,rfl,rfl,fun e he=>nomatch he⟩,A1u,by show 0+Hw m []≤_;exact W7 m⟩ ?_).mono ?_
  rotate_left
  ·rintro v Y ⟨rfl,X,seen,rfl,hX,hall⟩
   exact ⟨_,_,rfl,(fun e=>nomatch e),X,seen,rfl,hX,hall⟩
  rintro seen X e he hne ⟨⟨out,es,rfl,ho,h1,h2,h3⟩,hnd,hle⟩
  have hlt:=Da he hne
  have hol:out.list.length≤1000:=(by rw [h2,A1a];have:es.length=seen.length:=(by rw [← h1,A1a]);omega)
  rw [show ((b2,true,C [out.val] tIS)::(out.hp tI++[])++[]:Hp)=(b2,true,C [out.val] tIS)::(out.hp tI++[]) by simp]
  refine Tj (n:=13) [(7,.int .i64 e.k),(2,ptr b2)] (by rw [show F9 _ _=tm.setIfInBounds 7 (.int .i64 e.k) from by simp [F9]];exact EnvOk.put (a:=⟨tm,[]⟩) (d:=7) (v:= .int .i64 e.k) ((Keep.cons rfl .nil).ok ht) (by rw [hsz];decide)) (by simp [F9,hsz]) rfl fun rg=> ?_
  refine Aa fun ops=>oA rfl<|Ac ?_
  refine ⟨rfl,_,rfl,?_⟩
  refine Ak<|Aa fun ops=> ?_
  refine oR (Al rfl mM rfl) ?_
  refine oM rfl ?_
  refine A5 rfl rfl rfl rfl fun b10=> ?_
  refine Bp (s:=out) (new:=[e.k]) (m:=1) rfl rfl pL ho (Cv (r:=true) mM rfl) rfl rfl rfl rfl (by omega) rfl fun out' hs1 hs2=> ?_
  refine Af rfl rfl uD rfl rfl rfl ?_
  refine Ac<|Az ?_
  refine ⟨rfl,(bp,true,C [.map (some bm)] tMJ)::(bm,true,m.obj .i64)::((b2,true,C [out'.val] tIS)::(out'.hp tI++[])++[]),_,by rw [show ((b2,true,C [out'.val] tIS)::(out'.hp tI++[])++[]:Hp)=(b2,true,C [out'.val] tIS)::(out'.hp tI++[]) by simp];exact sP,rfl,(b2,true,C [out'.val] tIS)::(out'.hp tI++[]),rfl,⟨out',es++[e],rfl,hs2,by rw [A1i,h1];rfl,by rw [hs1,h2,A1i];rfl,?_⟩,?_,?_⟩
  ·intro x hx
   rcases A1d.1 hx with hx | hx
   ·exact h3 x hx
   ·rw [Azy.1 hx];exact he
  ·exact A0g.2 ⟨hnd,by simp,fun a ha b hb e2=>hne (by rw [Azy.1 hb] at e2;rw [← e2];exact ha)⟩
  ·rw [Azz,Azj];omega
 ·rintro rg D M ⟨X,seen,rfl,⟨⟨out,es,rfl,ho,h1,h2,h3⟩,hnd,hle⟩,hall⟩
  rw [show (Go.K.mark D::(((bp,true,C [.map (some bm)] tMJ)::(bm,true,m.obj .i64)::((b2,true,C [out.val] tIS)::(out.hp tI++[])++[]))++[]):Hp)=Go.K.mark D::(bp,true,C [.map (some bm)] tMJ)::(bm,true,m.obj .i64)::(b2,true,C [out.val] tIS)::(out.hp tI++[]) by simp]
  refine Ad<|Aa fun ops=> ?_
  refine oR (Al rfl mM rfl) ?_
  refine oA rfl<|Ac<|n_K<|An ?_
  refine pkD ?_
  exact Av (At Tryz.results183 (Ag rfl)) (by exact ⟨out,rfl,rfl,ho,by rw [h2];exact (W8 h1 hnd h3 hall).map _⟩) sP
end
end Go.Proofs.YtpmojdippdlcaaaGreatDoor
