/- every call of any script on a store answers as the document says, while acts of the chip fail, as long as there are spares, and leaves the document's nodes, also when it is opened again; its conditions are the statement's own: the bounds of scripts, bodies and fails; the conditions are the statement's own: part 2. -/
import Derived.Test.YtpmojdippdlcaaaGreatDoorJ0
import Derived.Test.YtpmojdippdlcaaaGreatDoorJ1
import Derived.Test.YtpmojdippdlcaaaGreatDoorRows
set_option linter.unusedVariables false
set_option linter.unusedSimpArgs false
set_option maxRecDepth 100000
set_option maxHeartbeats 1000000
set_option synthInstance.maxSize 4000
set_option synthInstance.maxHeartbeats 400000
namespace Go.Proofs.YtpmojdippdlcaaaGreatDoor
section
open Go.K
theorem Iu:Bh Aq=true:=by kernel_rfl
theorem Aoq {p:Pg} (h:Bh p=true):Bf p=(0,[],0,20):=El h
theorem Aor {p:Pg} {n:Int} (h:Bh p=true):Ed p n=([],[],0,false):=by
 unfold Ed
 simp only [Aoq h]
 rw [A6v (by simp)]
theorem Ou {c:Chip} {a:Int}:∀ i,(∀ j<i,Bh (B3 c a (j:Nat))=true)→Ce c a i=⟨0,[],[],0,0,false⟩
 | 0,_=>rfl
 | i+1,h=>by
  have ih:=Ou i (fun j hj=>h j (by omega))
  have hb:=h i (by omega)
  show K6 c a i (Ce c a i)=_
  rw [ih]
  unfold K6
  simp only [Aor hb,hb,if_true]
  rfl
theorem Af1 {c:Chip} (hm:B0 c 0 0=0) (h:∀ a<2,∀ j<8,Bh (B3 c (a:Nat) (j:Nat))=true):Di c=(35,ts0):=by
 have h0:=Ou 8 (h 0 (by omega))
 have h1:=Ou 8 (h 1 (by omega))
 have e1:C9 c 1=(ts0,false):=by
  show Je c 0 (C9 c 0)=_
  unfold Je
  simp only [h0]
  rfl
 have e2:C9 c 2=(ts0,false):=by
  show Je c 1 (C9 c 1)=_
  rw [e1]
  unfold Je
  grind
 unfold Di
 rw [A6u (by rw [hm];simp),A6u (by rw [e2];simp)]
section
variable {after keep:Int} {aP aC aB n:Nat} {bad:List Int}
abbrev Ds (after keep:Int) (aP aC aB n:Nat) (bad:List Int):Chip:=P7 false after keep aP aC aB n bad
theorem H4:(Ds after keep aP aC aB n bad).blocks.length=n:=Rw n bad n
theorem Yp {i:Int} (h:0≤i∧i<n):Ey (Ds after keep aP aC aB n bad) i=true:=by
 unfold Ey;rw [H4];simp;omega
theorem Aap {i j:Int} (h:0≤i∧i<n) (hj:0≤j∧j<8):B0 (Ds after keep aP aC aB n bad) i j=0:=by
 unfold B0
 rw [Yp h,A6u (by simp [Ds,P7]),A6u (by simp [Ds,P7]),A6u (by simp;omega)]
theorem Iw {i:Nat} (h:i<n):(Ds after keep aP aC aB n bad).blocks[i]? =some (Hf (E8 bad i)):=by
 show (Gr n bad n)[i]? =_
 simp [Gr,h]
theorem At7 {b:Bool} {k:Nat} (h:k<8):(Hf b).pages.toList.getD k Ku=Aq:=by
 unfold Hf
 rw [show (Vector.replicate 8 Aq).toList=List.replicate 8 Aq from Vector.toList_replicate,A18,A2l,A6v h]
 rfl
theorem Aos {i j:Int} (h:0≤i∧i<n) (hj:0≤j∧j<8):B3 (Ds after keep aP aC aB n bad) i j=Aq:=by
 unfold B3
 rw [A6v (Aap h hj)]
 unfold Rv
 rw [Iw (show i.toNat<n by omega)]
 have hlt:j.toNat<8:=by omega
 exact At7 hlt
theorem Adf (h:2≤n):Di (Ds after keep aP aC aB n bad)=(35,ts0) :=
 Af1 (Aap (by omega) (by omega)) (fun a ha j hj=>by rw [Aos (by omega) (by omega)];exact Iu)
theorem P4 {i:Int} (h:0≤i∧i<n):Mb (Ds after keep aP aC aB n bad) i=E8 bad i:=by
 unfold Mb Yt
 rw [Yp h,Iw (show i.toNat<n by omega),show ((i.toNat:Nat):Int)=i by omega]
 rfl
end
structure Good (c:Chip):Prop where
 off:c.off=false
 after:c.after<0
 dead:c.dead=false
 out:c.out=false
 pf:c.pf.list=[]
 wf:c.wf.list=[]
theorem Af2 (d:Pg):Cn 258 Aq d=d:=by
 apply A6l
 intro j hj
 have e:(Cn 258 Aq d)[j]=Aq[j] &&& d[j]:=by simp [Cn,hj]
 have b:Aq[j]=BitVec.allOnes 8:=by
  unfold Aq
  rw [Vector.getElem_replicate]
  decide
 rw [e,b,BitVec.allOnes_and]
theorem Af3 {c:Chip} (h1:c.off=false) (h2:c.dead=false) (h3:c.out=false) {i j:Int} (hi:0≤i∧i<c.blocks.length) (hj:0≤j∧j<8):B0 c i j=0:=by
 unfold B0
 have:Ey c i=true:=by unfold Ey;simp;omega
 rw [this,h1,h2,h3]
 simp;omega
theorem At8 (v:Int):E8 [] v=false:=rfl
def prg (c:Chip) (i j:Nat) (d:Pg) (b:Blk):Chip:=setB (Td (cnt c)) i ⟨b.pages.setIfInBounds j d,(j:Int)+1,b.bad⟩
theorem Akq {c:Chip} (h:c.after<0):Fo c=c:=by
 unfold Fo
 rw [A6v h,A6v h]
theorem Akr {c:Chip} (g:Good c) {i j:Nat} {d:Pg} {b:Blk} (hb:c.blocks[i]? =some b) (hj:j<8) (hn:b.next=j) (hbad:b.bad=false) (hp:b.pages[j]=Aq):Bl c i j d=(0,prg c i j d b):=by
 have hi:i<c.blocks.length:=(List.getElem?_eq_some_iff.1 hb).1
 have hm:B0 c i j=0:=Af3 g.off g.dead g.out (by omega) (by omega)
 have he:Ei c=false:=by unfold Ei;rw [A6v g.after]
 have hf:(L4 c || b.bad)=false:=by unfold L4;rw [g.pf,At8,hbad];rfl
 rw [Aau (b:=b) hm (by omega) (by grind) hn.symm he hf]
 have e:wrB { b with next:=w64 (b.next+1) } (j:Int).toNat 258 d (by omega)=⟨b.pages.setIfInBounds j d,(j:Int)+1,b.bad⟩:=by
  have e1:w64 (b.next+1)=(j:Int)+1:=by rw [hn];exact C0 (by omega)
  have e2:Cn 258 b.pages[j] d=d:=by rw [hp];exact Af2 d
  show Jc { b with next:=w64 (b.next+1) } j (Cn 258 b.pages[j] d)=_
  rw [e2,e1]
  rfl
 unfold wrC
 rw [Akq (by exact g.after),e]
 rfl
theorem Aic (c:Chip) (i j:Nat) (d:Pg) (b:Blk):(prg c i j d b).blocks.length=c.blocks.length:=by simp [prg,setB,Td,cnt]
theorem Aot {c:Chip} (g:Good c) (i j:Nat) (d:Pg) (b:Blk):Good (prg c i j d b):=⟨g.off,g.after,g.dead,g.out,g.pf,g.wf⟩
theorem Vd {c:Chip} {i j:Nat} {d:Pg} {b:Blk} (hi:i<c.blocks.length):(prg c i j d b).blocks[i]? =some ⟨b.pages.setIfInBounds j d,(j:Int)+1,b.bad⟩:=by
 simp [prg,setB,Td,cnt,hi]
theorem Rt {c:Chip} {i k j:Nat} {d:Pg} {b:Blk} (h:i≠k):(prg c i j d b).blocks[k]? =c.blocks[k]? :=by
 simp [prg,setB,Td,cnt,A28 h]
theorem P5 {c:Chip} {i j:Nat} {b:Blk} (hm:B0 c i j=0) (hb:c.blocks[i]? =some b) (hj:j<8):B3 c i j=b.pages[j]:=by
 unfold B3 Rv
 rw [A6v hm,A33,hb]
 grind
theorem Aou {c:Chip} (g:Good c) {i j:Nat} {d:Pg} {b:Blk} (hb:c.blocks[i]? =some b) (hj:j<8) (hn:b.next=j) (hbad:b.bad=false) (hp:b.pages[j]=Aq):Gk c i j d=((j:Int)+1,0,prg c i j d b):=by
 have hi:i<c.blocks.length:=(List.getElem?_eq_some_iff.1 hb).1
 have hpr:=Akr g hb hj hn hbad hp (d:=d)
 have g':=Aot g i j d b
 have hm':B0 (prg c i j d b) i j=0:=Af3 g'.off g'.dead g'.out (by rw [Aic];omega) (by omega)
 have hs:Fp c i j d=0:=by
  unfold Fp
  rw [hpr,A6v rfl]
  unfold E6
  rw [P5 hm' (Vd hi) hj]
  simp [hm']
 rw [Sa (by omega) (by rw [hs];decide),hs,hpr]
theorem Aks {c:Chip} (g:Good c) {t:TS} {uses lost:List Int} {i j:Nat} {b:Blk} (ha:t.area=i) (hn':t.next=j) (hb:c.blocks[i]? =some b) (hj:j<8) (hn:b.next=j) (hbad:b.bad=false) (hp:b.pages[j]=Aq) :
  Bt t uses lost c=(0,⟨uses,lost,t.version+1,i,(j:Int)+1,j⟩,prg c i j (Dr (t.version+1) c.blocks.length uses lost) b):=by
 have hp:=Aou g hb hj hn hbad hp (d:=Dr (t.version+1) c.blocks.length uses lost)
 have hk:G9 t uses lost c=⟨i,(j:Int)+1,0,prg c i j (Dr (t.version+1) c.blocks.length uses lost) b⟩:=by
  unfold G9
  simp only [ha,hn',hp]
  rfl
 unfold Bt
 grind
section
variable {after keep:Int} {aP aC aB n:Nat} {bad:List Int}
theorem Aov (ha:after<0):Good (Ds after keep aP aC aB n bad):=⟨rfl,ha,rfl,rfl,rfl,rfl⟩
theorem Aow (h:2≤n):Ha (Ds after keep aP aC aB n bad)=(0,0,0):=by
 unfold Ha;rw [Adf h,A6u (by decide)]
theorem Ov (ha:after<0) (h:2≤n) (hb:Lu (Ds after keep aP aC aB n bad)=false):∃ c',Dz (Ds after keep aP aC aB n bad)=(0,⟨(E3 (Ds after keep aP aC aB n bad)).uses,(E3 (Ds after keep aP aC aB n bad)).lost,1,0,1,0⟩,c') ∧
  c'=prg (Ds after keep aP aC aB n bad) 0 0 (Dr 1 n (E3 (Ds after keep aP aC aB n bad)).uses (E3 (Ds after keep aP aC aB n bad)).lost) (Hf false):=by
 have hbad:E8 bad 0=false:=by
  have:=hb
  unfold Lu at this
  rw [P4 (by omega)] at this
  grind
 have hblk:=Iw (after:=after) (keep:=keep) (aP:=aP) (aC:=aC) (aB:=aB) (n:=n) (bad:=bad) (i:=0) (by omega)
 rw [show E8 bad ((0:Nat):Int)=false from hbad] at hblk
 have hf:=Aow (after:=after) (keep:=keep) (aP:=aP) (aC:=aC) (aB:=aB) (bad:=bad) h
 have hk:=Aks (Aov (keep:=keep) (aP:=aP) (aC:=aC) (aB:=aB) (n:=n) (bad:=bad) ha) (t:=E3 (Ds after keep aP aC aB n bad)) (uses:=(E3 (Ds after keep aP aC aB n bad)).uses) (lost:=(E3 (Ds after keep aP aC aB n bad)).lost) (i:=0) (j:=0) (by show (Ha _).2.1=_;rw [hf];rfl) (by show (Ha _).2.2=_;rw [hf];rfl) hblk (by omega) rfl rfl (by simp [Hf])
 have hv:(E3 (Ds after keep aP aC aB n bad)).version=0:=by show (Ha _).1=_;rw [hf]
 rw [hv,H4] at hk
 refine ⟨_,?_,rfl⟩
 unfold Dz
 rw [A6u (by rw [Aap (by omega) (by omega)];simp),A6u (by rw [hb];simp),A6u (by rw [hk];simp),hk]
 rfl
theorem Akt (c:Chip):(E3 c).uses=(Hg c (Fm c) c.blocks.length).1:=rfl
theorem Aku (c:Chip):(E3 c).lost=(Hg c (Fm c) c.blocks.length).2:=rfl
theorem Aox {n:Int} {bad:List Int} (h:Js n bad=true):16≤n∧n≤40:=by
 unfold Js at h
 grind
end
end
section
open Go.K
theorem Adu (x:Wd):∀ i,(Jd x i).toNat=x.toNat / 2 ^ (8*i)
 | 0=>by simp [Jd]
 | i+1=>by
  unfold Jd
  rw [A2h,A2g,Adu x i,Nat.div_div_eq_div_mul,← Nat.pow_add,Nat.mul_succ]
theorem Auz {k i:Nat} (x:Wd) (h:i<k):(Bz k x).getD i 0=(Jd x i).setWidth 8:=by
 simp [Bz,A18,h]
theorem Qf {k:Nat} (x:Wd) (hk:k≤8):∀ i,i≤k→(Ec (Bz k x) i).toNat=x.toNat % 2 ^ (8*i)
 | 0,_=>by simp [Ec,Nat.mod_one]
 | i+1,h=>by
  have ih:=Qf x hk i (by omega)
  have hlt:x.toNat % 2 ^ (8*i)<2 ^ (8*i):=A6k _ (Nat.two_pow_pos _)
  have hb:((Jd x i).setWidth 8).toNat=x.toNat / 2 ^ (8*i) % 256:=by rw [A2v,Adu]
  have hb2:=((Jd x i).setWidth 8).isLt
  have hs:((((Jd x i).setWidth 8).setWidth 64:Wd) <<< (8*i)).toNat=2 ^ (8*i)*((Jd x i).setWidth 8).toNat:=by
   rw [A2o,A2v,Nat.shiftLeft_eq,A4v (show ((Jd x i).setWidth 8).toNat<2 ^ 64 by omega),Nat.mul_comm]
   apply A4v
   calc 2 ^ (8*i)*((Jd x i).setWidth 8).toNat<2 ^ (8*i)*2 ^ 8:=Nat.mul_lt_mul_of_pos_left hb2 (Nat.two_pow_pos _)
    _=2 ^ (8*i+8):=(Nat.pow_add 2 (8*i) 8).symm
    _≤2 ^ 64:=Nat.pow_le_pow_right (by omega) (by omega)
  rw [Vo,Auz x (by omega),A4z,ih,hs,Nat.or_comm,← A15 hlt,hb]
  rw [show 8*(i+1)=8*i+8 by omega,Nat.pow_add,Nat.mod_mul,show (2:Nat) ^ 8=256 from rfl]
  omega
theorem Kz (x:Wd):Ec (Bz 8 x) 8=x:=by
 apply A2u
 rw [Qf x (by omega) 8 (by omega)]
 omega
theorem Adv {n:Nat} (h:n<256):(Ec (Bz 1 (BitVec.ofInt 64 (n:Int))) 1).toNat=n:=by
 rw [Qf _ (by omega) 1 (by omega),A26,A3p]
 omega
theorem K0 {k:Nat} {xs r:List By} {bad:Bool} (h:xs.length=k):C2 k (xs++r) bad=(Ec xs k,r,bad):=by
 unfold C2
 rw [A6u (by simp;omega),A5e h,A44 h]
theorem Sz {k:Nat} {xs r:List By} {bad:Bool} (h:xs.length=k):C4 k (xs++r) bad=(xs,r,bad):=by
 unfold C4
 rw [A6u (by simp;omega),A5e h,A44 h]
theorem Y1 {l:List Int} (h:∀ x∈l,0≤x∧x<256):(l.map Fg).map O2=l:=by
 rw [A51]
 have:∀ x∈l,(O2∘Fg) x=x:=fun x hx=>by
  have:=h x hx
  show ((BitVec.ofInt 8 x).toNat:Int)=x
  rw [A3o]
  omega
 rw [A3l this,List.map_id']
structure OkP (n:Nat) (u l:List Int):Prop where
 n1:16≤n
 n2:n≤40
 ul:u.length+6=n
 ll:l.length≤40
 ur:∀ x∈u,0≤x∧x<256
 lr:∀ x∈l,0≤x∧x<256
theorem Ij {x:Int} (h:0≤x∧x<9223372036854775808):w64 x=x:=C0 (by omega)
theorem Adw {v:Wd} {n:Nat} {u l:List Int} (h:OkP n u l):O3 (F4 v n u l) n=(u,l,v,true):=by
 have h1:=h.n1
 have h2:=h.n2
 have h3:=h.ul
 have h4:=h.ll
 have hn:∀ m:Nat,m<256→w64 ((Ec (Bz 1 (BitVec.ofInt 64 (m:Int))) 1).toNat:Int)=m:=fun m hm=>by
  rw [Adv hm];exact Ij (by omega)
 have e:F4 v n u l=Bz 8 v++(Bz 1 (BitVec.ofInt 64 (n:Int))++(Bz 1 (BitVec.ofInt 64 (u.length:Int))++(Bz 1 (BitVec.ofInt 64 (l.length:Int))++(u.map Fg++(l.map Fg++[]))))):=by
  unfold F4 L6
  grind
 rw [e]
 refine (Wg (K0 (A4 8 v)).symm (K0 (A4 1 _)).symm (hn n (by omega)) (K0 (A4 1 _)).symm (K0 (A4 1 _)).symm (u:=(u.map Fg,l.map Fg++[],false)) (l:=(l.map Fg,[],false)) ?_ ?_).trans ?_
 ·simp only
  rw [hn u.length (by omega)]
  exact (Sz (by rw [A46];omega)).symm
 ·simp only
  rw [hn l.length (by omega)]
  exact (Sz (by rw [A46];omega)).symm
 ·simp only
  rw [Y1 h.ur,Y1 h.lr,Kz,hn u.length (by omega)]
  have:w64 (w64 ((n:Int) - 2) - 4)=(n:Int) - 6:=by
   rw [Ij (x:=(n:Int) - 2) (by omega)]
   have:=Ij (x:=(n:Int) - 2 - 4) (by omega)
   rw [this];omega
  rw [this]
  simp
  omega
theorem Apo (v:Wd) (n:Int) (u l:List Int):(F4 v n u l).length=11+u.length+l.length:=by
 unfold F4
 simp [A4,Ry]
 omega
theorem Vs {v:Wd} {n:Nat} {u l:List Int} (h:OkP n u l):Cv 1 (F4 v n u l)=false:=by
 have h2:=h.n2
 have h3:=h.ul
 have h4:=h.ll
 unfold Cv
 rw [Apo]
 simp
 omega
theorem App {v:Wd} {n:Nat} {u l:List Int} (h:OkP n u l):Dr v n u l=Cj 1 (F4 v n u l):=by
 unfold Dr Cw
 rw [A6u (by rw [Vs h];simp)]
def RP (n:Nat) (p:Pg):Option (Nat×List Int×List Int):=if (Ed p n).2.2.2=true then some ((Ed p n).2.2.1.toNat,(Ed p n).1,(Ed p n).2.1) else none
theorem Apq {p:Pg} {n:Nat} {v:Wd} {u l:List Int} {m:Int} (h:OkP n u l) (hr:Bf p=(1,F4 v n u l,m,0)):Ed p n=(u,l,v,true):=by
 unfold Ed
 simp only [hr]
 rw [A6u (by simp)]
 exact Adw h
theorem A0z {p:Pg} {n:Nat} {v:Wd} {u l:List Int} {m:Int} (h:OkP n u l) (hr:Bf p=(1,F4 v n u l,m,0)):RP n p=some (v.toNat,u,l):=by
 unfold RP
 rw [Apq h hr,A6v rfl]
theorem Aim {n:Nat} {v:Wd} {u l:List Int} (h:OkP n u l):RP n (Dr v n u l)=some (v.toNat,u,l):=by
 rw [App h];exact A0z h (Hl (Vs h))
theorem Ain {p:Pg} {n:Nat} (h:(Bf p).2.2.2≠0):RP n p=none:=by
 have e:Ed p n=([],[],0,false):=by
  unfold Ed
  grind
 unfold RP
 rw [e,A6u (by simp)]
theorem Au0 {p:Pg} {n:Nat} (h:p[257]=255#8):RP n p=none:=Ain (La h)
theorem A00 {p:Pg} {n:Nat} (h:Bh p=true):RP n p=none:=Ain (by rw [El h];decide)
theorem K3 {j:Nat} (h:j<258):Aq[j]=255#8:=by
 unfold Aq
 rw [Vector.getElem_replicate]
theorem Qg {m:Nat} {p d:Pg} {j:Nat} (h:j<258):(Cn m p d)[j]=if j<m then p[j] &&& d[j] else p[j]:=by simp [Cn]
theorem Apr {m n:Nat} {d:Pg} (h:m<258):RP n (Cn m Aq d)=none:=by
 apply Au0
 have:(Cn m Aq d)[257]=Aq[257]:=by
  rw [Qg,A6u (by omega)]
 rw [this,K3 (by omega)]
theorem Fz {m:Nat} {d:Pg} (h:258≤m):Cn m Aq d=d:=by
 apply A6l
 intro j hj
 rw [Qg hj,A6v (by omega),K3 hj]
 exact BitVec.allOnes_and
structure ScI (c:Chip) (a:Int) (k:Nat) (s:Sc):Prop where
 l0:0≤s.last∧s.last≤k
 bl:∀ i<k,s.last≤i→Bh (B3 c a (i:Nat))=true
 nb:0<s.last→Bh (B3 c a (s.last - 1))=false
 no:s.any=false→∀ i<k,RP c.blocks.length (B3 c a (i:Nat))=none
 yes:s.any=true→(0≤s.at'∧s.at'<k)∧RP c.blocks.length (B3 c a s.at')=some (s.newest.toNat,s.uses,s.lost)
 le:s.any=true→∀ i<k,∀ w u l,RP c.blocks.length (B3 c a (i:Nat))=some (w,u,l)→w≤s.newest.toNat
theorem Aio {n:Nat} {p:Pg} (h:(Ed p n).2.2.2=true):RP n p=some ((Ed p n).2.2.1.toNat,(Ed p n).1,(Ed p n).2.1):=A6v h
theorem Aw7 {n:Nat} {p:Pg} (h:¬ (Ed p n).2.2.2=true):RP n p=none:=A6u h
theorem Y2 (c:Chip) (a:Int):∀ k,ScI c a k (Ce c a k)
 | 0=>⟨by simp [Ce],fun i hi=>by omega,fun h=>by simp [Ce] at h,fun _ i hi=>by omega,fun h=>by simp [Ce] at h,fun h=>by omega⟩
 | k+1=>by
  have ih:=Y2 c a k
  show ScI c a (k+1) (K6 c a k (Ce c a k))
  generalize Ce c a k=s at ih
  have hlast:∀ la:Int,la=(if Bh (B3 c a (k:Nat))=true then s.last else (k:Int)+1)→(0≤la∧la≤(k+1:Nat))∧(∀ i<k+1,la≤i→Bh (B3 c a (i:Nat))=true)∧(0<la→Bh (B3 c a (la - 1))=false):=fun la hla=>by
   have h0:=ih.l0
   split at hla
   ·rename_i hb
    subst hla
    refine ⟨by omega,fun i hi hle=> ?_,ih.nb⟩
    by_cases e:i=k
    ·grind
    ·exact ih.bl i (by omega) hle
   grind
  unfold K6
  simp only []
  split
  ·rename_i hc
   simp only [A4k,A40,A32,A4f] at hc
   obtain ⟨h1,h2,h3⟩:=hlast _ rfl
   have hr:=Aio (n:=c.blocks.length) (p:=B3 c a (k:Nat)) hc.1
   refine ⟨h1,h2,h3,fun h=>(by cases h),fun _=>⟨⟨by grind,by grind⟩,hr⟩,fun _ i hi w u l hw=> ?_⟩
   by_cases e:i=k
   ·grind
   ·rcases hc.2 with h4 | h4
    ·rw [ih.no h4 i (by omega)] at hw;cases hw
    ·cases ha:s.any with
     | false=>rw [ih.no ha i (by omega)] at hw;cases hw
     | true=>have:=ih.le ha i (by omega) w u l hw;grind
  ·rename_i hc
   simp only [A4k,A40,A32,A4f] at hc
   obtain ⟨h1,h2,h3⟩:=hlast _ rfl
   refine ⟨h1,h2,h3,fun h i hi=> ?_,fun h=> ?_,fun h i hi w u l hw=> ?_⟩
   ·by_cases e:i=k
    ·subst e;exact Aw7 (fun h5=>hc ⟨h5,.inl h⟩)
    ·exact ih.no h i (by omega)
   ·obtain ⟨h4,h5⟩:=ih.yes h
    grind
   ·by_cases e:i=k
    ·subst e
     by_cases h5:(Ed (B3 c a (i:Nat)) c.blocks.length).2.2.2=true
     ·rw [Aio h5] at hw
      grind
     ·rw [Aw7 h5] at hw;cases hw
    ·exact ih.le h i (by omega) w u l hw
structure OpI (c:Chip) (k:Nat) (t:TS):Prop where
 area:0≤t.area∧t.area<k
 rc:(0≤t.at'∧t.at'<8)∧RP c.blocks.length (B3 c t.area t.at')=some (t.version.toNat,t.uses,t.lost)
 le:∀ a<k,∀ i<8,∀ w u l,RP c.blocks.length (B3 c (a:Nat) (i:Nat))=some (w,u,l)→w≤t.version.toNat
 l0:0≤t.next∧t.next≤8
 bl:∀ i<8,t.next≤(i:Nat)→Bh (B3 c t.area (i:Nat))=true
 nb:0<t.next→Bh (B3 c t.area (t.next - 1))=false
theorem Y3 (c:Chip):∀ k,((C9 c k).2=false→∀ a<k,∀ i<8,RP c.blocks.length (B3 c (a:Nat) (i:Nat))=none)∧((C9 c k).2=true→OpI c k (C9 c k).1)
 | 0=>⟨fun _ a ha=>by omega,fun h=>by simp [C9] at h⟩
 | k+1=>by
  obtain ⟨ih1,ih2⟩:=Y3 c k
  have hs:=Y2 c k 8
  show ((Je c k (C9 c k)).2=false→_)∧((Je c k (C9 c k)).2=true→OpI c (k+1) (Je c k (C9 c k)).1)
  generalize C9 c k=t at ih1 ih2
  unfold Je
  simp only []
  generalize Ce c k 8=s at hs
  split
  ·rename_i hc
   simp only [A4k,A40,A32,A4f] at hc
   refine ⟨fun h=>(by cases h),fun _=>⟨by grind,hs.yes hc.1,fun a ha i hi w u l hw=> ?_,hs.l0,hs.bl,hs.nb⟩⟩
   by_cases e:a=k
   ·subst e;exact hs.le hc.1 i hi w u l hw
   ·rcases hc.2 with h | h
    ·rw [ih1 h a (by omega) i hi] at hw;cases hw
    ·cases hf:t.2 with
     | false=>rw [ih1 hf a (by omega) i hi] at hw;cases hw
     | true=>have:=(ih2 hf).le a (by omega) i hi w u l hw;grind
  ·rename_i hc
   simp only [A4k,A40,A32,A4f] at hc
   refine ⟨fun h a ha i hi=> ?_,fun h=> ?_⟩
   ·by_cases e:a=k
    ·subst e
     cases hy:s.any with
     | false=>exact hs.no hy i hi
     | true=>grind
    grind
   ·have o:=ih2 h
    refine ⟨⟨o.area.1,by have:=o.area.2;omega⟩,o.rc,fun a ha i hi w u l hw=> ?_,o.l0,o.bl,o.nb⟩
    by_cases e:a=k
    ·subst e
     cases hy:s.any with
     | false=>rw [hs.no hy i hi] at hw;cases hw
     | true =>
      have h1:=hs.le hy i hi w u l hw
      have h2:¬ ((t.1.version.toNat:Int)<s.newest.toNat):=fun h3=>hc ⟨hy,.inr h3⟩
      omega
    ·exact o.le a (by omega) i hi w u l hw
theorem Agl {c:Chip} (hm:B0 c 0 0=0) {a i:Nat} {w:Nat} {u l:List Int} (ha:a<2) (hi:i<8) (hr:RP c.blocks.length (B3 c (a:Nat) (i:Nat))=some (w,u,l)):∃ t,Di c=(0,t)∧OpI c 2 t:=by
 obtain ⟨h1,h2⟩:=Y3 c 2
 cases hf:(C9 c 2).2 with
 | false=>rw [h1 hf a ha i hi] at hr;cases hr
 | true =>
  refine ⟨(C9 c 2).1,?_,h2 hf⟩
  unfold Di
  rw [A6u (by rw [hm];simp),A6v hf]
end
section
open Go.K
structure Up (c:Chip):Prop where
 off:c.off=false
 dead:c.dead=false
 out:c.out=false
def FP (c:Chip):Nat:=(c.pf.list.filter fun x=>decide (c.pc≤x)).length
def FW (c:Chip):Nat:=(c.wf.list.filter fun x=>decide (c.wc≤x)).length
theorem S3 (l:List Int) (k:Int):(l.filter fun x=>decide (k+1≤x)).length+(if E8 l k=true then 1 else 0)≤(l.filter fun x=>decide (k≤x)).length:=by
 have h1:∀ l:List Int,(l.filter fun x=>decide (k+1≤x)).length≤(l.filter fun x=>decide (k≤x)).length:=fun l=>by
  induction l with
  | nil=>simp
  | cons x l ih =>
   rw [List.filter_cons,List.filter_cons]
   grind
 have h2:∀ l:List Int,k∈l→(l.filter fun x=>decide (k+1≤x)).length+1≤(l.filter fun x=>decide (k≤x)).length:=fun l=>by
  induction l with
  | nil=>simp
  | cons x l ih =>
   grind
 split
 ·rename_i h
  have hm:k∈l:=by
   have:E8 l k=l.any (· == k):=Vg l (· == k)
   rw [this,A4m] at h
   grind
  exact h2 l hm
 ·exact h1 l
structure Cnt (c:Chip) (B:Int):Prop where
 p0:0≤c.pc∧c.pc≤B
 w0:0≤c.wc∧c.wc≤B
theorem Aps {c:Chip} {B:Int} (h:Cnt c B) (hB:B<9000000000000000000):L4 c=E8 c.pf.list c.pc:=by
 unfold L4
 have:=h.p0
 rw [Ij (x:=c.pc+1) (by omega),Ij (by omega)]
 grind
theorem Apt {c:Chip} {B:Int} (h:Cnt c B) (hB:B<9000000000000000000):Sx c=E8 c.wf.list c.wc:=by
 unfold Sx
 have:=h.w0
 rw [Ij (x:=c.wc+1) (by omega),Ij (by omega)]
 grind
structure BI (b:Blk):Prop where
 nx:0≤b.next∧b.next≤8
 bl:∀ (j:Nat) (h:j<8),b.next≤j→b.pages[j]=Aq
structure Fr (a:Nat) (c c':Chip):Prop where
 oth:∀ k,k≠a→c'.blocks[k]? =c.blocks[k]?
 len:c'.blocks.length=c.blocks.length
 dead:c'.dead=c.dead
 out:c'.out=c.out
 aP:c'.aP=c.aP
 aC:c'.aC=c.aC
 aB:c'.aB=c.aB
 pf:c'.pf=c.pf
 wf:c'.wf=c.wf
 fp:FP c'≤FP c
 fw:FW c'≤FW c
 pos:c.after<0→c'.after=c.after∧c'.off=c.off
 keep:c'.keep=c.keep
theorem Fr.refl (a:Nat) (c:Chip):Fr a c c:=⟨fun _ _=>rfl,rfl,rfl,rfl,rfl,rfl,rfl,rfl,rfl,A6h _,A6h _,fun _=>⟨rfl,rfl⟩,rfl⟩
theorem Fr.trans {a:Nat} {c c' c'':Chip} (h:Fr a c c') (k:Fr a c' c''):Fr a c c'' :=
 ⟨fun i hi=>(k.oth i hi).trans (h.oth i hi),k.len.trans h.len,k.dead.trans h.dead,k.out.trans h.out,k.aP.trans h.aP,k.aC.trans h.aC,k.aB.trans h.aB,k.pf.trans h.pf,k.wf.trans h.wf,A57 k.fp h.fp,A57 k.fw h.fw,
  fun hp=>by
   obtain ⟨h1,h2⟩:=h.pos hp
   obtain ⟨h3,h4⟩:=k.pos (by omega)
   grind,k.keep.trans h.keep⟩
theorem Aa6 {c:Chip} (h:Up c) {i j:Nat} (hi:i<c.blocks.length) (hj:j<8):B0 c i j=0:=Af3 h.off h.dead h.out (by omega) (by omega)
def wrK (b:Blk) (k:Nat) (q:Pg):Blk:=⟨b.pages.setIfInBounds k q,(k:Int)+1,b.bad⟩
def cp (c:Chip):Chip:=Fo (Td (cnt c))
theorem Agm {c:Chip} {i j m:Nat} {d:Pg} {b:Blk} (hn:b.next=j) (hj:j<8) (hp:b.pages[j]=Aq):wrC c (i:Nat) (j:Nat) d b m (by omega)=setB (cp c) i (wrK b j (Cn m Aq d)):=by
 have e1:w64 (b.next+1)=(j:Int)+1:=by rw [hn];exact C0 (by omega)
 have e:wrB { b with next:=w64 (b.next+1) } ((j:Nat):Int).toNat m d (by omega)=wrK b j (Cn m Aq d):=by
  show Jc { b with next:=w64 (b.next+1) } j (Cn m b.pages[j] d)=_
  rw [e1,hp]
  unfold Jc wrK
  rfl
 unfold wrC
 rw [e]
 rfl
theorem Y4 {c:Chip} (up:Up c) {a j:Nat} {b:Blk} {d:Pg} (hb:c.blocks[a]? =some b) (hj:j<8) (hbad:b.bad=false) (hbi:BI b) (hn:b.next=j) :
  ∃ e m,Bl c a j d=(e,setB (cp c) a (wrK b j (Cn m Aq d)))∧((e=30∧Ei c=true)∨(e=33∧m=129∧Ei c=false∧L4 c=true)∨(e=0∧m=258∧Ei c=false∧L4 c=false)):=by
 have hi:a<c.blocks.length:=(List.getElem?_eq_some_iff.1 hb).1
 have hm:B0 c a j=0:=Aa6 up hi hj
 have hp:=hbi.bl j hj (by omega)
 have hb':c.blocks[((a:Nat):Int).toNat]? =some b:=by grind
 cases he:Ei c with
 | true =>
  refine ⟨30,A8 c.keep 258,?_,.inl ⟨rfl,rfl⟩⟩
  rw [Yu hm (by omega) hb' hn.symm he]
  exact A6r (Prod.mk 30) (Agm hn hj hp)
 | false =>
  cases hf:L4 c with
  | true =>
   refine ⟨33,129,?_,.inr (.inl ⟨rfl,rfl,rfl,rfl⟩)⟩
   rw [Yv hm (by omega) hb' hn.symm he (by rw [hf];rfl)]
   exact A6r (Prod.mk 33) (Agm hn hj hp)
  | false =>
   refine ⟨0,258,?_,.inr (.inr ⟨rfl,rfl,rfl,rfl⟩)⟩
   rw [Aau hm (by omega) hb' hn.symm he (by rw [hf,hbad];rfl)]
   exact A6r (Prod.mk 0) (Agm hn hj hp)
theorem Y5 {c:Chip} (up:Up c) {a j:Nat} {b:Blk} {d:Pg} (hb:c.blocks[a]? =some b) (hj:j<8) (hn:b.next≠j):Bl c a j d=(32,c):=by
 have hi:a<c.blocks.length:=(List.getElem?_eq_some_iff.1 hb).1
 exact Vh (Aa6 up hi hj) (by grind) (fun e=>hn e.symm)
theorem Aa7 {b:Blk} {j:Nat} {q:Pg} (h:BI b) (hj:j<8) (hn:b.next=j):BI (wrK b j q):=by
 refine ⟨by simp only [wrK];omega,fun i hi hle=> ?_⟩
 simp only [wrK] at hle ⊢
 rw [A13,A6u (by omega)]
 exact h.bl i hi (by omega)
theorem Gh {b:Blk} {j i:Nat} {q:Pg} (hi:i<8):(wrK b j q).pages[i]=if j=i then q else b.pages[i]:=by
 simp only [wrK]
 rw [A13]
theorem Aip {c:Chip} {a:Nat} {b b':Blk} (hb:c.blocks[a]? =some b'):(setB (cp c) a b).blocks[a]? =some b:=by
 have:=(List.getElem?_eq_some_iff.1 hb).1
 show (c.blocks.set a b)[a]? =_
 simp [this]
theorem Aw8 {c:Chip} {a:Nat} {b:Blk} {B:Int} (hc:Cnt c B) (hB:B<9000000000000000000):Fr a c (setB (cp c) a b)∧Cnt (setB (cp c) a b) (B+1)∧(L4 c=true→FP (setB (cp c) a b)+1≤FP c):=by
 have hp:=hc.p0
 have hw:=hc.w0
 have e:(setB (cp c) a b).pc=c.pc+1:=by
  show w64 (c.pc+1)=c.pc+1
  exact Ij (by omega)
 have hfs:=S3 c.pf.list c.pc
 have hFP:FP (setB (cp c) a b)+(if E8 c.pf.list c.pc=true then 1 else 0)≤FP c:=by
  unfold FP
  rw [e]
  exact hfs
 refine ⟨⟨fun k hk=> ?_,?_,rfl,rfl,rfl,rfl,rfl,rfl,rfl,?_,A6h _,fun h=> ?_,rfl⟩,⟨by rw [e];omega,by show 0≤c.wc∧c.wc≤B+1;omega⟩,fun h=> ?_⟩
 ·exact A28 (fun e=>hk e.symm)
 ·show (c.blocks.set a b).length=_
  simp
 ·omega
 ·exact ⟨A6v h,A6v h⟩
 ·rw [Aps hc hB] at h
  rw [A6v h] at hFP
  exact hFP
theorem Apu {c:Chip} {a:Nat} {b:Blk} (up:Up c):(setB (cp c) a b).off=Ei c:=by
 show (if c.after<0 then c.off else decide (c.after=0))=_
 unfold Ei
 split
 ·exact up.off
 ·rfl
theorem Qh {c:Chip} (h:Ei c=true):¬ c.after<0:=by
 intro h2
 unfold Ei at h
 rw [A6v h2] at h
 cases h
structure PutR (c:Chip) (a:Nat) (b:Blk) (q:Pg) (i' e:Int) (c':Chip):Prop where
 fr:Fr a c c'
 blk:∃ b',c'.blocks[a]? =some b'∧BI b'∧b'.bad=false∧b.next≤b'.next ∧
  (∀ (j:Nat) (h:j<8),(j:Int)<b.next→b'.pages[j]=b.pages[j]) ∧
  (∀ (j:Nat) (h:j<8),b.next≤j→b'.pages[j]=Aq∨∃ m,b'.pages[j]=Cn m Aq q∧(m<258∨e=0∨e=30)) ∧
  (e=0→∃ (j:Nat) (h:j<8),b.next≤j∧i'=(j:Int)+1∧b'.next=(j:Int)+1∧b'.pages[j]=q)
 pure:FP c=0→c.after<0→∀ b',c'.blocks[a]? =some b'→∀ (j:Nat) (h:j<8),b.next≤j→b'.pages[j]=Aq∨b'.pages[j]=q
 how:(e=30∧c'.off=true∧¬ c.after<0)∨(e=0∧c'.off=false)∨(e=34∧c'.off=false∧i'=8∧FP c'+(8 - b.next).toNat≤FP c)
theorem Ala {c:Chip} {a j:Nat} {b:Blk} {q:Pg} (up:Up c) (hb:c.blocks[a]? =some b) (hj:j<8) (hp:b.pages[j]=q):E6 c a j q=0:=by
 have hi:a<c.blocks.length:=(List.getElem?_eq_some_iff.1 hb).1
 have hm:=Aa6 up hi hj
 unfold E6
 rw [P5 hm hb hj,hp]
 simp [hm]
theorem Qi {a:Nat} {q:Pg}:∀ (f:Nat) (c:Chip) (i:Nat) (b:Blk) (B:Int),i+f=8→Up c→c.blocks[a]? =some b→b.bad=false→BI b→(i:Int)≤b.next→Cnt c B→B+f<8000000000000000000 →
  ∃ i' e c',F5 f c a i q=(i',e,c')∧PutR c a b q i' e c'∧Cnt c' (B+f)
 | 0,c,i,b,B,hf,up,hb,hbad,hbi,hle,hc,hB=>by
  have:=hbi.nx
  refine ⟨8,34,c,rfl,⟨Fr.refl a c,⟨b,hb,hbi,hbad,A6g _,fun _ _ _=>rfl,fun j h h2=>by omega,fun h=>by cases h⟩,fun _ _ b' hb' j h h2=>(by rw [hb] at hb';omega),.inr (.inr ⟨rfl,up.off,rfl,by omega⟩)⟩,by grind⟩
 | f+1,c,i,b,B,hf,up,hb,hbad,hbi,hle,hc,hB=>by
  have hj:i<8:=by omega
  by_cases hn:b.next=i
  ·obtain ⟨e,m,hp,hcase⟩:=Y4 up (d:=q) hb hj hbad hbi hn
   obtain ⟨hfr,hcn,hfp⟩:=Aw8 (a:=a) (b:=wrK b i (Cn m Aq q)) hc (by omega)
   have hoff:=Apu (a:=a) (b:=wrK b i (Cn m Aq q)) up
   have hbk:=Aip (b:=wrK b i (Cn m Aq q)) hb
   have hbi':=Aa7 (q:=Cn m Aq q) hbi hj hn
   generalize hcc:setB (cp c) a (wrK b i (Cn m Aq q))=c1 at *
   have hpg:∀ (P:Prop),(m<258∨P)→∀ (j:Nat) (h:j<8),b.next≤j→(wrK b i (Cn m Aq q)).pages[j]=Aq∨∃ m',(wrK b i (Cn m Aq q)).pages[j]=Cn m' Aq q∧(m'<258∨P):=fun P hP j h h2=>by
    rw [Gh h]
    split
    ·grind
    ·exact .inl (hbi.bl j h h2)
   have hlo:∀ (j:Nat) (h:j<8),(j:Int)<b.next→(wrK b i (Cn m Aq q)).pages[j]=b.pages[j]:=fun j h h2=>by
    rw [Gh h,A6u (by omega)]
   rcases hcase with ⟨rfl,he⟩ | ⟨rfl,rfl,he,hfl⟩ | ⟨rfl,rfl,he,hfl⟩
   ·have hs:Fp c a i q=30:=by unfold Fp;rw [hp,A6u (show ¬ (30:Int)=0 by decide)]
    refine ⟨(i:Int)+1,30,c1,?_,⟨hfr,⟨_,hbk,hbi',hbad,by simp only [wrK];omega,hlo,hpg _ (.inr (.inr rfl)),fun h=>by cases h⟩,fun _ ha=>absurd ha (Qh he),.inl ⟨rfl,by rw [hoff,he],Qh he⟩⟩,⟨by have:=hcn.p0;omega,by have:=hcn.w0;omega⟩⟩
    unfold F5
    rw [A6v (by rw [hs];decide),hs,hp]
   ·have hs:Fp c a i q=33:=by unfold Fp;rw [hp,A6u (show ¬ (33:Int)=0 by decide)]
    have up':Up c1:=⟨by rw [hoff,he],hfr.dead.trans up.dead,hfr.out.trans up.out⟩
    obtain ⟨i',e,c',h1,h2,h3⟩:=Qi (a:=a) (q:=q) f c1 (i+1) (wrK b i (Cn 129 Aq q)) (B+1) (by omega) up' hbk hbad hbi' (by show ((i+1:Nat):Int)≤(i:Int)+1;omega) hcn (by omega)
    have hnx:(wrK b i (Cn 129 Aq q)).next=(i:Int)+1:=rfl
    obtain ⟨b',k1,k2,k3,k4,k5,k6,k7⟩:=h2.blk
    rw [hnx] at k4 k5 k6 k7
    refine ⟨i',e,c',?_,⟨hfr.trans h2.fr,⟨b',k1,k2,k3,by omega,fun j h hlt=>by rw [k5 j h (show (j:Int)<(i:Int)+1 by omega)];grind,fun j h hge=> ?_,fun h=> ?_⟩,fun h0 _=>(by have:=hfp hfl;omega),?_⟩,⟨by have:=h3.p0;omega,by have:=h3.w0;omega⟩⟩
    ·unfold F5
     rw [A6u (by rw [hs];decide),hp]
     grind
    ·by_cases e1:j=i
     ·subst e1
      refine .inr ⟨129,?_,.inl (by omega)⟩
      rw [k5 j h (show (j:Int)<(j:Int)+1 by omega),Gh h,A6v rfl]
     grind
    ·grind
    ·rcases h2.how with ⟨q1,q2,q3⟩ | ⟨q1,q2⟩ | ⟨q1,q2,q3,q4⟩
     ·refine .inl ⟨q1,q2,fun h=>q3 ?_⟩
      rw [(hfr.pos h).1];exact h
     ·grind
     grind
   ·have up':Up c1:=⟨by rw [hoff,he],hfr.dead.trans up.dead,hfr.out.trans up.out⟩
    have hq:(wrK b i (Cn 258 Aq q)).pages[i]=q:=by rw [Gh hj,A6v rfl];exact Fz (A6h _)
    have hs:Fp c a i q=0:=by unfold Fp;rw [hp,A6v rfl];exact Ala up' hbk hj hq
    refine ⟨(i:Int)+1,0,c1,?_,⟨hfr,⟨_,hbk,hbi',hbad,by simp only [wrK];omega,hlo,hpg _ (.inr (.inl rfl)),fun _=>⟨i,hj,by omega,rfl,rfl,hq⟩⟩,fun _ _ b' hb' j h h2=>(by rw [hbk] at hb';cases hb';rw [Gh h];split;exact .inr (Fz (A6h _));exact .inl (hbi.bl j h h2)),.inr (.inl ⟨rfl,up'.off⟩)⟩,⟨by have:=hcn.p0;omega,by have:=hcn.w0;omega⟩⟩
    unfold F5
    rw [A6v (by rw [hs];decide),hs,hp]
  ·have hp:=Y5 up (d:=q) hb hj hn
   have hs:Fp c a i q=32:=by unfold Fp;rw [hp,A6u (show ¬ (32:Int)=0 by decide)]
   obtain ⟨i',e,c',h1,h2,h3⟩:=Qi (a:=a) (q:=q) f c (i+1) b B (by omega) up hb hbad hbi (by omega) hc (by omega)
   refine ⟨i',e,c',?_,h2,⟨by have:=h3.p0;omega,by have:=h3.w0;omega⟩⟩
   unfold F5
   rw [A6u (by rw [hs];decide),hp]
   grind
end
section
open Go.K
structure OpV where
 kind:Int
 logical:Int
 block:Int
 least:Bool
 bit:Int
def opC (o:OpV):List Value:=[.int .i64 o.kind,.int .i64 o.logical,.int .i64 o.block,.bool o.least,.int .i64 o.bit]
instance:Cel OpV:=⟨5,opC,fun _=>rfl,fun _=>rfl⟩
def Ge (c:Chip):List Bool:=c.blocks.map (·.bad)
theorem Kr {c:Chip} {i:Nat} {b b':Blk} (hb:c.blocks[i]? =some b) (h:b'.bad=b.bad):(c.blocks.set i b').map (·.bad)=c.blocks.map (·.bad):=by
 rw [List.map_set,h]
 apply A35
 grind
theorem Ix (c:Chip) (i j:Int) (d:Pg):Ge (Bl c i j d).2=Ge c:=by
 unfold Bl
 split
 ·split
  ·rfl
  ·rename_i b hb
   split
   ·simp only []
    split
    ·refine Kr (c:=Fo (Td (cnt c))) hb ?_;split <;> rfl
    ·split
     ·refine Kr (c:=Fo (Td (cnt c))) hb ?_;split <;> rfl
     ·refine Kr (c:=Fo (Td (cnt c))) hb ?_;split <;> rfl
   ·rfl
 ·rfl
theorem Jb (c:Chip) (i:Int):Ge (Bm c i).2=Ge c:=by
 unfold Bm
 split
 ·split
  ·rfl
  ·rename_i b hb
   split
   ·exact Kr (c:=Fo (Aat (cnt c))) hb rfl
   ·split
    ·exact Kr (c:=Fo (Aat (cnt c))) hb rfl
    ·exact Kr (c:=Fo (Aat (cnt c))) hb rfl
 ·rfl
theorem Ve (a:Int) (q:Pg):∀ (f:Nat) (c:Chip) (i:Int),Ge (F5 f c a i q).2.2=Ge c
 | 0,c,i=>rfl
 | f+1,c,i=>by
  unfold F5
  split
  ·exact Ix c a i q
  ·rw [Ve a q f,Ix]
theorem Yq (c:Chip) (a i:Int) (q:Pg):Ge (Gk c a i q).2.2=Ge c:=Ve a q _ c i
theorem Af4 (a:Int) (q:Pg) (s:KS):Ge (G8 a q s).c=Ge s.c:=by
 unfold G8
 simp only []
 split
 ·rw [Yq,Jb]
 ·split <;> exact Jb _ _
theorem Sw (a:Int) (q:Pg):∀ (f:Nat) (s:KS),Ge (Dh f a q s).c=Ge s.c
 | 0,s=>rfl
 | f+1,s=>by
  unfold Dh
  split
  ·rw [Sw a q f,Af4]
  ·rfl
theorem P6 (a:Int) (q:Pg):∀ (f:Nat) (s:KS),(0≤s.next∧s.next≤8)→(s.area=a∨s.area=1 - a)→(0≤(Dh f a q s).next∧(Dh f a q s).next≤8)∧((Dh f a q s).area=a∨(Dh f a q s).area=1 - a)
 | 0,s,h,h2=>⟨h,h2⟩
 | f+1,s,h,h2=>by
  unfold Dh
  split
  ·refine P6 a q f _ (Qw h) (.inr ?_)
   unfold G8
   grind
  omega
theorem Yr (a:Int) (q:Pg):∀ (f:Nat) (s:KS),(Dh f a q s).c.aC=s.c.aC
 | 0,s=>rfl
 | f+1,s=>by
  unfold Dh
  split
  ·rw [Yr a q f,Qv]
  ·rfl
theorem Af5 (t:TS) (u l:List Int) (c:Chip):Ge (G9 t u l c).c=Ge c:=by
 unfold G9
 rw [Sw,Yq]
theorem Aoy (t:TS) (u l:List Int) (c:Chip):(G9 t u l c).c.aC=c.aC:=by
 unfold G9
 rw [Yr,Abi]
theorem Af6 (t:TS) (u l:List Int) (c:Chip):Ge (Bt t u l c).2.2=Ge c:=by
 unfold Bt
 simp only []
 split <;> exact Af5 t u l c
theorem Vf (t:TS) (u l:List Int) (c:Chip):(Bt t u l c).2.2.aC=c.aC:=by
 unfold Bt
 simp only []
 split <;> exact Aoy t u l c
theorem At9 (t:TS) (u l:List Int) (c:Chip) (hn:0≤t.next) (ha:0≤t.area∧t.area≤1) :
  (Bt t u l c).2.1=t∨((Bt t u l c).2.1.uses=u∧(Bt t u l c).2.1.lost=l∧0≤(Bt t u l c).2.1.next∧(0≤(Bt t u l c).2.1.area∧(Bt t u l c).2.1.area≤1)):=by
 have hr:(0≤(G9 t u l c).next∧(G9 t u l c).next≤8)∧((G9 t u l c).area=t.area∨(G9 t u l c).area=1 - t.area):=by
  exact P6 _ _ _ _ (Abj _ _ _ _ hn) (.inl rfl)
 unfold Bt
 grind
theorem Ks {c c':Chip} (h:Ge c'=Ge c):c'.blocks.length=c.blocks.length:=by
 have:=A6r List.length h
 simpa [Ge] using this
theorem Ib:∀ {l m:List Int},l.Nodup→(∀ x∈l,x∈m)→l.length≤m.length
 | [],m,_,_=>A6j _
 | x::l,m,h,hs=>by
  have hx:=hs x (.head _)
  obtain ⟨h1,h2⟩:=A5c.1 h
  have:=Ib (l:=l) (m:=m.erase x) h2 (fun y hy=>(List.mem_erase_of_ne (fun e=>by grind)).2 (hs y (.tail _ hy)))
  have h3:=A2j hx
  have h4:=A2r hx
  rw [A4q]
  omega
theorem has_mem {l:List Int} {x:Int}:E8 l x=true↔x∈l:=by
 have:E8 l x=l.any (· == x):=Vg l (· == x)
 rw [this,A4m]
 grind
structure FmtI (c:Chip) (size:Int) (i:Nat) (u l:List Int):Prop where
 len:(u.length:Int)≤size
 un:u.Nodup
 us:∀ x∈u,2≤x∧x<i∧Mb c x=false
 ln:l.Nodup
 ls:∀ x∈l,0≤x∧x<i∧Mb c x=true
 lb:∀ x:Int,0≤x→x<i→Mb c x=true→x∈l
 all:Mb c 0=false→Mb c 1=false→(u.length:Int)=size∨u.length+l.length+min i 2=i
theorem Lq {l:List Int} {x:Int} (h:l.Nodup) (hx:x∉l):(l++[x]).Nodup:=by
 rw [A4b]
 grind
theorem A0u (c:Chip) {size:Int} (hs:0≤size):∀ i,FmtI c size i (Hg c size i).1 (Hg c size i).2
 | 0=>⟨by simpa [Hg] using hs,by simp [Hg],by simp [Hg],by simp [Hg],by simp [Hg],fun x h1 h2=>by omega,fun _ _=> .inr (by simp [Hg])⟩
 | i+1=>by
  have ih:=A0u c hs i
  unfold Hg
  simp only []
  generalize hu:(Hg c size i).1=u at ih ⊢
  generalize hl:(Hg c size i).2=l at ih ⊢
  split
  ·rename_i hb
   refine ⟨ih.len,ih.un,fun x hx=> ?_,Lq ih.ln (fun h=>by have:=ih.ls _ h;omega),fun x hx=> ?_,fun x h0 h1 h2=> ?_,fun h0 h1=> ?_⟩
   ·have:=ih.us x hx;grind
   ·rcases A49.1 hx with h | h
    ·have:=ih.ls x h;grind
    grind
   ·by_cases he:x=(i:Int)
    ·grind
    ·exact A29 _ (ih.lb x h0 (by omega) h2)
   ·have hi:2≤i:=by
     grind
    rcases ih.all h0 h1 with h | h
    ·exact .inl h
    grind
  ·rename_i hb
   have hb':Mb c i=false:=by grind
   split
   ·rename_i hc
    simp only [A4k,A4f] at hc
    refine ⟨by grind,Lq ih.un (fun h=>by have:=ih.us _ h;omega),fun x hx=> ?_,ih.ln,fun x hx=> ?_,fun x h0 h1 h2=> ?_,fun h0 h1=> ?_⟩
    ·rcases A49.1 hx with h | h
     ·have:=ih.us x h;grind
     grind
    ·have:=ih.ls x hx;grind
    ·by_cases he:x=(i:Int)
     ·grind
     ·exact ih.lb x h0 (by omega) h2
    ·rcases ih.all h0 h1 with h | h
     ·omega
     grind
   ·rename_i hc
    rw [hu,hl]
    have hlen:=ih.len
    refine ⟨ih.len,ih.un,fun x hx=> ?_,ih.ln,fun x hx=> ?_,fun x h0 h1 h2=> ?_,fun h0 h1=> ?_⟩
    ·have:=ih.us x hx;grind
    ·have:=ih.ls x hx;grind
    ·by_cases he:x=(i:Int)
     ·grind
     ·exact ih.lb x h0 (by omega) h2
    ·rcases ih.all h0 h1 with h | h
     ·exact .inl h
     grind
theorem Akv {l:List Int} {i:Nat} {b:Int} (h:l.Nodup) (hb:b∉l):(l.set i b).Nodup:=by
 rw [A2a,A2f]
 rw [A2a,A2f] at h
 grind
theorem Aua {l:List Int} {i:Nat} {b x:Int} (h:l.Nodup) (hi:i<l.length) (hx:x∈l.set i b):x=b∨(x∈l∧x≠l[i]):=by
 obtain ⟨j,hj,rfl⟩:=A3k hx
 simp only [A47] at hj
 rw [List.getElem_set]
 split
 ·omega
 ·refine .inr ⟨A4p _,fun e=> ?_⟩
  rw [A2a,A2f] at h
  grind
end
section
open Go.K
def ce (c:Chip):Chip:=Fo (Aat (cnt c))
structure EraseR (c:Chip) (a:Nat) (b:Blk) (e:Int) (c':Chip):Prop where
  fr:Fr a c c'
  blk:∃ b',c'.blocks[a]? =some b'∧BI b'∧b'.bad=b.bad∧(∀ (j:Nat) (h:j<8),b'.pages[j]=Aq∨b'.pages[j]=b.pages[j])∧(e=0→b'.next=0)
  how:(e=30∧c'.off=true∧¬ c.after<0)∨(e=33∧c'.off=false∧FW c'+1≤FW c)∨(e=0∧c'.off=false)
theorem Apv {c:Chip} {a:Nat} {b:Blk} {B:Int} (hc:Cnt c B) (hB:B<9000000000000000000):Fr a c (setB (ce c) a b)∧Cnt (setB (ce c) a b) (B+1)∧(Sx c=true→FW (setB (ce c) a b)+1≤FW c):=by
  have hp:=hc.p0
  have hw:=hc.w0
  have e:(setB (ce c) a b).wc=c.wc+1:=by
    show w64 (c.wc+1)=c.wc+1
    exact Ij (by omega)
  have hfs:=S3 c.wf.list c.wc
  have hFW:FW (setB (ce c) a b)+(if E8 c.wf.list c.wc=true then 1 else 0)≤FW c:=by
    unfold FW
    rw [e]
    exact hfs
  refine ⟨⟨fun k hk=> ?_,?_,rfl,rfl,rfl,rfl,rfl,rfl,rfl,A6h _,?_,fun h=> ?_,rfl⟩,⟨by show 0≤c.pc∧c.pc≤B+1;omega,by rw [e];omega⟩,fun h=> ?_⟩
  · exact A28 (fun e=>hk e.symm)
  · show (c.blocks.set a b).length=_
    simp
  · omega
  · exact ⟨A6v h,A6v h⟩
  · rw [Apt hc hB] at h
    rw [A6v h] at hFW
    exact hFW
theorem Agn {c:Chip} {a:Nat} {b:Blk} (up:Up c):(setB (ce c) a b).off=Ei c:=by
  show (if c.after<0 then c.off else decide (c.after=0))=_
  unfold Ei
  split
  · exact up.off
  · rfl
theorem Vt {c:Chip} {a:Nat} {b b':Blk} (hb:c.blocks[a]? =some b'):(setB (ce c) a b).blocks[a]? =some b:=by
  have:=(List.getElem?_eq_some_iff.1 hb).1
  show (c.blocks.set a b)[a]? =_
  simp [this]
theorem Aiq {b:Blk} {m j:Nat} (h:j<8):(D3 b m).pages[j]=if j<m then Aq else b.pages[j]:=by simp [D3]
theorem Oy {c:Chip} {a:Nat} {b:Blk} {B:Int} (up:Up c) (hb:c.blocks[a]? =some b) (hbad:b.bad=false) (hc:Cnt c B) (hB:B<8000000000000000000):∃ e c',Bm c a=(e,c')∧EraseR c a b e c'∧Cnt c' (B+1):=by
  have hi:a<c.blocks.length:=(List.getElem?_eq_some_iff.1 hb).1
  have hm:B0 c a 0=0:=Aa6 (j:=0) up hi (by omega)
  have hb':c.blocks[((a:Nat):Int).toNat]? =some b:=by grind
  cases he:Ei c with
  | true =>
    refine ⟨30,_,Vi hm hb' he,?_⟩
    rw [A33]
    obtain ⟨h1,h2,_⟩:=Apv (a:=a) (b:=D3 { b with next:=8 } (A8 c.keep 8)) hc (by omega)
    exact ⟨⟨h1,⟨_,Vt hb,⟨⟨by simp [D3],by simp [D3]⟩,fun j h h2=>(by simp only [D3] at h2;omega)⟩,rfl,fun j h=>by rw [Aiq h];grind,fun h=>by cases h⟩,.inl ⟨rfl,(Agn up).trans he,Qh he⟩⟩,h2⟩
  | false =>
    cases hf:Sx c with
    | true =>
      refine ⟨33,_,Vj hm hb' he (by rw [hf];rfl),?_⟩
      rw [A33]
      obtain ⟨h1,h2,h3⟩:=Apv (a:=a) (b:={ b with next:=8 }) hc (by omega)
      exact ⟨⟨h1,⟨_,Vt hb,⟨⟨by simp,by simp⟩,fun j h h2=>(by grind)⟩,rfl,fun j h=> .inr rfl,fun h=>by cases h⟩,.inr (.inl ⟨rfl,(Agn up).trans he,h3 hf⟩)⟩,h2⟩
    | false =>
      refine ⟨0,_,Adm hm hb' he (by rw [hf,hbad];rfl),?_⟩
      rw [A33]
      obtain ⟨h1,h2,h3⟩:=Apv (a:=a) (b:={ D3 { b with next:=8 } 8 with next:=0 }) hc (by omega)
      have hpg:∀ (j:Nat) (h:j<8),({ D3 { b with next:=8 } 8 with next:=0 }:Blk).pages[j]=Aq:=fun j h=>by
        show (D3 { b with next:=8 } 8).pages[j]=Aq
        rw [Aiq h,A6v h]
      exact ⟨⟨h1,⟨_,Vt hb,⟨⟨by simp,by simp⟩,fun j h _=>hpg j h⟩,rfl,fun j h=> .inl (hpg j h),fun _=>rfl⟩,.inr (.inr ⟨rfl,(Agn up).trans he⟩)⟩,h2⟩
structure Hold (c:Chip) (v:Nat) (u l:List Int) (a:Nat):Prop where
  ok:OkP c.blocks.length u l
  a2:a<2
  bs:∀ k<2,∃ b,c.blocks[k]? =some b∧BI b∧b.bad=false
  le:∀ k<2,∀ b,c.blocks[k]? =some b→∀ (j:Nat) (h:j<8) (w:Nat) (u' l':List Int),RP c.blocks.length b.pages[j]=some (w,u',l')→w≤v∧(w=v→u'=u∧l'=l)
  ex:∃ b,c.blocks[a]? =some b∧∃ (j:Nat) (h:j<8),RP c.blocks.length b.pages[j]=some (v,u,l)
theorem Qj:Bh Aq=true:=Iu
theorem M2 {n:Nat}:RP n Aq=none:=A00 Qj
theorem Hold.put {c c':Chip} {v:Nat} {u l u' l':List Int} {a k:Nat} {V:Wd} {b:Blk} {i' e:Int} (h:Hold c v u l a) (hk:k<2) (hb:c.blocks[k]? =some b) (hV:V.toNat=v+1) (ok:OkP c.blocks.length u' l')
    (r:PutR c k b (Dr V c.blocks.length u' l') i' e c'):(e=0→Hold c' (v+1) u' l' k)∧(e=30→Hold c' v u l a∨Hold c' (v+1) u' l' k)∧(e=34→Hold c' v u l a):=by
  obtain ⟨b',k1,k2,k3,k4,k5,k6,k7⟩:=r.blk
  have hq:=Aim (v:=V) ok
  rw [hV] at hq
  generalize Dr V c.blocks.length u' l'=q at *
  obtain ⟨b0,hb0,hbi,_⟩:=h.bs k hk
  rw [hb] at hb0
  cases hb0
  have hbs:∀ i<2,∃ b,c'.blocks[i]? =some b∧BI b∧b.bad=false:=fun i hi=>by
    by_cases e1:i=k
    · grind
    · rw [r.fr.oth i e1];exact h.bs i hi
  have hpg:∀ (j:Nat) (hj:j<8),(RP c.blocks.length b'.pages[j]=none∨∃ (hlt:(j:Int)<b.next),b'.pages[j]=b.pages[j])∨(b'.pages[j]=q∧(e=0∨e=30)):=fun j hj=>by
    rcases (show (j:Int)<b.next∨b.next≤j by omega) with h1 | h1
    · grind
    · rcases k6 j hj h1 with h2 | ⟨m,h2,h3⟩
      · exact .inl (.inl (by rw [h2];exact M2))
      · rcases A58 m 258 with hm | hm
        · exact .inl (.inl (by rw [h2];exact Apr hm))
        · rw [Fz hm] at h2
          grind
  have hnew:(∃ (j:Nat) (hj:j<8),b'.pages[j]=q)→Hold c' (v+1) u' l' k:=fun ⟨j0,hj0,h0⟩=>by
    refine ⟨by rw [r.fr.len];exact ok,hk,hbs,fun i hi b2 hb2 j hj w u2 l2 hw=> ?_,⟨b',k1,j0,hj0,by rw [r.fr.len,h0];exact hq⟩⟩
    rw [r.fr.len] at hw
    by_cases e1:i=k
    · subst e1
      rw [k1] at hb2
      cases hb2
      rcases hpg j hj with (h1 | ⟨h1,h2⟩) | ⟨h1,_⟩
      · rw [h1] at hw;cases hw
      · rw [h2] at hw
        have:=(h.le i hi b hb j hj w u2 l2 hw).1
        omega
      grind
    · rw [r.fr.oth i e1] at hb2
      have:=(h.le i hi b2 hb2 j hj w u2 l2 hw).1
      omega
  have hold:(∀ (j:Nat) (hj:j<8),RP c.blocks.length b'.pages[j]=none∨∃ (hlt:(j:Int)<b.next),b'.pages[j]=b.pages[j])→Hold c' v u l a:=fun hall=>by
    refine ⟨by rw [r.fr.len];exact h.ok,h.a2,hbs,fun i hi b2 hb2 j hj w u2 l2 hw=> ?_,?_⟩
    · rw [r.fr.len] at hw
      by_cases e1:i=k
      · subst e1
        rw [k1] at hb2
        cases hb2
        rcases hall j hj with h1 | ⟨h1,h2⟩
        · rw [h1] at hw;cases hw
        · rw [h2] at hw
          exact h.le i hi b hb j hj w u2 l2 hw
      · rw [r.fr.oth i e1] at hb2
        exact h.le i hi b2 hb2 j hj w u2 l2 hw
    · obtain ⟨b2,hb2,j,hj,hr⟩:=h.ex
      rw [r.fr.len]
      by_cases e1:a=k
      · subst e1
        rw [hb] at hb2
        cases hb2
        have hlt:(j:Int)<b.next:=by
          rcases (show (j:Int)<b.next∨b.next≤j by omega) with h1 | h1
          · exact h1
          · rw [hbi.bl j hj h1,M2] at hr;cases hr
        grind
      · exact ⟨b2,by rw [r.fr.oth a e1];exact hb2,j,hj,hr⟩
  have hdec:(∃ (j:Nat) (hj:j<8),b'.pages[j]=q)∨(∀ (j:Nat) (hj:j<8),RP c.blocks.length b'.pages[j]=none∨∃ (hlt:(j:Int)<b.next),b'.pages[j]=b.pages[j]):=by
    grind
  grind
theorem Hold.erase {c c':Chip} {v:Nat} {u l:List Int} {a k:Nat} {b:Blk} {e:Int} (h:Hold c v u l a) (hk:k≠a) (hb:c.blocks[k]? =some b) (hbad:b.bad=false) (r:EraseR c k b e c'):Hold c' v u l a:=by
  obtain ⟨b',k1,k2,k3,k4,k5⟩:=r.blk
  refine ⟨by rw [r.fr.len];exact h.ok,h.a2,fun i hi=> ?_,fun i hi b2 hb2 j hj w u2 l2 hw=> ?_,?_⟩
  · by_cases e1:i=k
    · grind
    · rw [r.fr.oth i e1];exact h.bs i hi
  · rw [r.fr.len] at hw
    by_cases e1:i=k
    · subst e1
      rw [k1] at hb2
      cases hb2
      rcases k4 j hj with h1 | h1
      · rw [h1,M2] at hw;cases hw
      · rw [h1] at hw;exact h.le i hi b hb j hj w u2 l2 hw
    · rw [r.fr.oth i e1] at hb2
      exact h.le i hi b2 hb2 j hj w u2 l2 hw
  · obtain ⟨b2,hb2,j,hj,hr⟩:=h.ex
    rw [r.fr.len]
    exact ⟨b2,by rw [r.fr.oth a (fun e1=>hk e1.symm)];exact hb2,j,hj,hr⟩
def TI (c:Chip) (t:TS):Prop:=∃ a:Nat,t.area=a∧Hold c t.version.toNat t.uses t.lost a∧∃ b,c.blocks[a]? =some b∧(0≤t.next∧0≤t.at'∧t.at'<8)∧t.next≤b.next
structure Fr2 (c c':Chip):Prop where
  oth:∀ k,2≤k→c'.blocks[k]? =c.blocks[k]?
  len:c'.blocks.length=c.blocks.length
  dead:c'.dead=c.dead
  out:c'.out=c.out
  aP:c'.aP=c.aP
  aC:c'.aC=c.aC
  aB:c'.aB=c.aB
  pf:c'.pf=c.pf
  wf:c'.wf=c.wf
  fp:FP c'≤FP c
  fw:FW c'≤FW c
  pos:c.after<0→c'.after=c.after∧c'.off=c.off
  keep:c'.keep=c.keep
theorem Fr.two {a:Nat} {c c':Chip} (h:Fr a c c') (ha:a<2):Fr2 c c':=⟨fun k hk=>h.oth k (by omega),h.len,h.dead,h.out,h.aP,h.aC,h.aB,h.pf,h.wf,h.fp,h.fw,h.pos,h.keep⟩
theorem Fr2.trans {c c' c'':Chip} (h:Fr2 c c') (k:Fr2 c' c''):Fr2 c c'' :=
  ⟨fun i hi=>(k.oth i hi).trans (h.oth i hi),k.len.trans h.len,k.dead.trans h.dead,k.out.trans h.out,k.aP.trans h.aP,k.aC.trans h.aC,k.aB.trans h.aB,k.pf.trans h.pf,k.wf.trans h.wf,A57 k.fp h.fp,A57 k.fw h.fw,
    fun hp=>by
      obtain ⟨h1,h2⟩:=h.pos hp
      obtain ⟨h3,h4⟩:=k.pos (by omega)
      grind,k.keep.trans h.keep⟩
def A01 (c:Chip) (v:Nat) (u l u' l':List Int) (a:Nat) (s:KS):Prop :=
  (s.e=0∧s.c.off=false∧∃ k,s.area=(k:Nat)∧Hold s.c (v+1) u' l' k∧∃ b,s.c.blocks[k]? =some b∧1≤s.next∧s.next≤b.next) ∨
  (s.e=30∧s.c.off=true∧¬ c.after<0∧(Hold s.c v u l a∨∃ k,Hold s.c (v+1) u' l' k))
theorem Up.of {c c':Chip} (h:Up c) (hd:c'.dead=c.dead) (ho:c'.out=c.out) (hf:c'.off=false):Up c':=⟨hf,hd.trans h.dead,ho.trans h.out⟩
theorem Air {c:Chip} {a:Int} {i:Nat} {q:Pg}:Gk c a i q=F5 (8 - i) c a i q:=by
  unfold Gk
  grind
theorem Y6 {v:Nat} {u l u' l':List Int} {a n:Nat} {V:Wd} (ha:a<2) (hV:V.toNat=v+1) (ok:OkP n u' l') :
    ∀ (f:Nat) (s:KS) (B:Int),s.e=34→s.c.blocks.length=n→Hold s.c v u l a→Up s.c→FP s.c≤7→FW s.c<f→Cnt s.c B→B+100*f<8000000000000000000 →
      A01 s.c v u l u' l' a (Dh f (a:Nat) (Dr V n u' l') s)∧Fr2 s.c (Dh f (a:Nat) (Dr V n u' l') s).c∧Cnt (Dh f (a:Nat) (Dr V n u' l') s).c (B+9*f)
  | 0,s,B,he,hn,h,up,hfp,hfw,hc,hB=>by omega
  | f+1,s,B,he,hn,h,up,hfp,hfw,hc,hB=>by
    obtain ⟨b,hb,hbi,hbad⟩:=h.bs (1 - a) (by omega)
    obtain ⟨e,c1,h1,h2,h3⟩:=Oy up hb hbad hc (by omega)
    have hra:(1:Int) - (a:Nat)=((1 - a:Nat):Int):=by omega
    have hold1:=h.erase (k:=1 - a) (by omega) hb hbad h2
    unfold Dh
    rw [A6v he]
    unfold G8
    simp only []
    rw [hra,h1]
    simp only []
    rcases h2.how with ⟨rfl,q1,q2⟩ | ⟨rfl,q1,q2⟩ | ⟨rfl,q1⟩
    · rw [A6u (by decide),A6u (by decide)]
      have hk:Dh f (a:Nat) (Dr V n u' l') ⟨((1 - a:Nat):Int),s.next,30,c1⟩=⟨((1 - a:Nat):Int),s.next,30,c1⟩:=by
        cases f with
        | zero=>rfl
        | succ f=>unfold Dh;rw [A6u (show ¬ (30:Int)=34 by decide)]
      rw [hk]
      exact ⟨.inr ⟨rfl,q1,q2,.inl hold1⟩,h2.fr.two (by omega),⟨by have:=h3.p0;grind,by have:=h3.w0;grind⟩⟩
    · rw [A6u (by decide),A6v rfl]
      have up1:=up.of h2.fr.dead h2.fr.out q1
      obtain ⟨r1,r2,r3⟩:=Y6 ha hV ok f ⟨((1 - a:Nat):Int),s.next,s.e,c1⟩ (B+1) he (h2.fr.len.trans hn) hold1 up1 (by have:=h2.fr.fp;grind) (by grind) h3 (by omega)
      refine ⟨?_,(h2.fr.two (by omega)).trans r2,⟨by have:=r3.p0;omega,by have:=r3.w0;omega⟩⟩
      rcases r1 with r1 | ⟨r1,r4,r5,r6⟩
      · exact .inl r1
      · exact .inr ⟨r1,r4,fun hp=>r5 (by show c1.after<0;rw [(h2.fr.pos hp).1];exact hp),r6⟩
    · rw [A6v rfl]
      have up1:=up.of h2.fr.dead h2.fr.out q1
      obtain ⟨b1,k1,k2,k3,k4,k5⟩:=h2.blk
      have hp0:Gk c1 ((1 - a:Nat):Int) 0 (Dr V n u' l')=F5 8 c1 ((1 - a:Nat):Int) ((0:Nat):Int) (Dr V n u' l'):=Air (i:=0)
      obtain ⟨i',e,c2,p1,p2,p3⟩:=Qi (a:=1 - a) (q:=Dr V n u' l') 8 c1 0 b1 (B+1) (by omega) up1 k1 (k3.trans hbad) k2 (by rw [k5 rfl];omega) h3 (by omega)
      rw [hp0,p1]
      simp only []
      have hlen1:c1.blocks.length=n:=h2.fr.len.trans hn
      have hp:=hold1.put (k:=1 - a) (V:=V) (u':=u') (l':=l') (by omega) k1 hV (by rw [hlen1];exact ok) (by rw [hlen1];exact p2)
      have hkk:e≠34→Dh f (a:Nat) (Dr V n u' l') ⟨((1 - a:Nat):Int),i',e,c2⟩=⟨((1 - a:Nat):Int),i',e,c2⟩:=fun hne=>by
        cases f with
        | zero=>rfl
        | succ f=>unfold Dh;rw [A6u hne]
      have hfr:=(h2.fr.two (by omega)).trans (p2.fr.two (by omega))
      rcases p2.how with ⟨rfl,q2,q3⟩ | ⟨rfl,q2⟩ | ⟨rfl,q2,q3,q4⟩
      · rw [hkk (by decide)]
        refine ⟨.inr ⟨rfl,q2,fun hpo=>q3 (by rw [(h2.fr.pos hpo).1];exact hpo),?_⟩,hfr,⟨by have:=p3.p0;grind,by have:=p3.w0;grind⟩⟩
        grind
      · rw [hkk (by decide)]
        obtain ⟨b2,m1,m2,m3,m4,m5,m6,m7⟩:=p2.blk
        obtain ⟨j,hj,_,n2,n3,_⟩:=m7 rfl
        exact ⟨.inl ⟨rfl,q2,1 - a,rfl,hp.1 rfl,b2,m1,by grind,by grind⟩,hfr,⟨by have:=p3.p0;grind,by have:=p3.w0;grind⟩⟩
      · have h9:=k5 rfl
        have h10:=h2.fr.fp
        rw [h9] at q4
        have:(8 - (0:Int)).toNat=8:=rfl
        omega
theorem Alb {c:Chip} {t:TS} {u l:List Int} {B:Int} (up:Up c) (h:TI c t) (hv:t.version.toNat+1<18446744073709551616) (ok:OkP c.blocks.length u l) (hfp:FP c≤7) (hfw:FW c≤3) (hc:Cnt c B) (hB:B+1000<8000000000000000000) :
    ∃ e t' c',Bt t u l c=(e,t',c')∧Fr2 c c'∧Cnt c' (B+100) ∧
      ((e=0∧Up c'∧TI c' t'∧t'.uses=u∧t'.lost=l∧t'.version.toNat=t.version.toNat+1) ∨
       (e=30∧c'.off=true∧¬ c.after<0∧t'=t∧((∃ a,Hold c' t.version.toNat t.uses t.lost a)∨∃ a,Hold c' (t.version.toNat+1) u l a))):=by
  obtain ⟨a,ha,hh,b,hb,hn0,hn1⟩:=h
  have hV:(t.version+1).toNat=t.version.toNat+1:=by
    rw [A4h]
    show (t.version.toNat+1) % 2 ^ 64=_
    exact A4v hv
  obtain ⟨b0,hb0,hbi,hbad⟩:=hh.bs a hh.a2
  rw [hb] at hb0
  cases hb0
  have hnx:=hbi.nx
  obtain ⟨i,hi⟩:∃ i:Nat,t.next=i:=⟨t.next.toNat,by omega⟩
  obtain ⟨i',e,c1,p1,p2,p3⟩:=Qi (a:=a) (q:=Dr (t.version+1) c.blocks.length u l) (8 - i) c i b B (by omega) up hb hbad hbi (by omega) hc (by omega)
  have hp0:Gk c t.area t.next (Dr (t.version+1) c.blocks.length u l)=(i',e,c1):=by rw [ha,hi,Air];exact p1
  have hp:=hh.put (k:=a) (V:=t.version+1) (u':=u) (l':=l) hh.a2 hb hV ok p2
  have hS:G9 t u l c=Dh 4 (a:Nat) (Dr (t.version+1) c.blocks.length u l) ⟨(a:Nat),i',e,c1⟩:=by
    unfold G9
    simp only []
    rw [hp0,ha]
  have key:A01 c t.version.toNat t.uses t.lost u l a (G9 t u l c)∧Fr2 c (G9 t u l c).c∧Cnt (G9 t u l c).c (B+100):=by
    rw [hS]
    have hfr:=p2.fr.two hh.a2
    have hkk:e≠34→Dh 4 (a:Nat) (Dr (t.version+1) c.blocks.length u l) ⟨(a:Nat),i',e,c1⟩=⟨(a:Nat),i',e,c1⟩:=fun hne=>by
      unfold Dh;rw [A6u hne]
    rcases p2.how with ⟨rfl,q2,q3⟩ | ⟨rfl,q2⟩ | ⟨rfl,q2,q3,q4⟩
    · rw [hkk (by decide)]
      refine ⟨.inr ⟨rfl,q2,q3,?_⟩,hfr,⟨by have:=p3.p0;simp only;omega,by have:=p3.w0;simp only;omega⟩⟩
      rcases hp.2.1 rfl with h5 | h5
      · exact .inl h5
      · exact .inr ⟨_,h5⟩
    · rw [hkk (by decide)]
      obtain ⟨b2,m1,m2,m3,m4,m5,m6,m7⟩:=p2.blk
      obtain ⟨j,hj,_,n2,n3,_⟩:=m7 rfl
      exact ⟨.inl ⟨rfl,q2,a,rfl,hp.1 rfl,b2,m1,by simp only;omega,by simp only;omega⟩,hfr,⟨by have:=p3.p0;simp only;omega,by have:=p3.w0;simp only;omega⟩⟩
    · have h10:=p2.fr.fp
      have h11:=p2.fr.fw
      have hlen:c1.blocks.length=c.blocks.length:=p2.fr.len
      obtain ⟨r1,r2,r3⟩:=Y6 (n:=c.blocks.length) (V:=t.version+1) (u:=t.uses) (l:=t.lost) hh.a2 hV ok 4 ⟨(a:Nat),i',34,c1⟩ (B+8) rfl hlen (hp.2.2 rfl) (up.of p2.fr.dead p2.fr.out q2) (by simp only;omega) (by simp only;omega) ⟨by have:=p3.p0;simp only;omega,by have:=p3.w0;simp only;omega⟩ (by omega)
      refine ⟨?_,hfr.trans r2,⟨by have:=r3.p0;omega,by have:=r3.w0;omega⟩⟩
      rcases r1 with r1 | ⟨r1,r4,r5,r6⟩
      · exact .inl r1
      · exact .inr ⟨r1,r4,fun hpo=>r5 (by show c1.after<0;rw [(p2.fr.pos hpo).1];exact hpo),r6⟩
  obtain ⟨k1,k2,k3⟩:=key
  generalize hs:G9 t u l c=s at *
  rcases k1 with ⟨e0,h1,k,h2,h3,b2,h4,h5,h6⟩ | ⟨e0,h1,h2,h3⟩
  · have h8:b2.next≤8:=by
      obtain ⟨b3,q1,q2,_⟩:=h3.bs k h3.a2
      rw [h4] at q1
      cases q1
      exact q2.nx.2
    refine ⟨0,⟨u,l,t.version+1,s.area,s.next,s.next - 1⟩,s.c,?_,k2,k3,.inl ⟨rfl,up.of k2.dead k2.out h1,⟨k,h2,?_,b2,h4,⟨by simp only;omega,by simp only;omega,by simp only;omega⟩,h6⟩,rfl,rfl,hV⟩⟩
    · unfold Bt
      simp only [hs]
      rw [A6u (by rw [e0];decide)]
    · show Hold s.c (t.version+1).toNat u l k
      rw [hV];exact h3
  · refine ⟨30,t,s.c,?_,k2,k3,.inr ⟨rfl,h1,h2,rfl,?_⟩⟩
    · unfold Bt
      simp only [hs]
      rw [A6v (by rw [e0];decide),e0]
    · rcases h3 with h3 | h3
      · exact .inl ⟨a,h3⟩
      · exact .inr h3
theorem Alc {c:Chip} {v a:Nat} {u l:List Int} (up:Up c) (h:Hold c v u l a):∃ t,Di c=(0,t)∧TI c t∧t.uses=u∧t.lost=l∧t.version.toNat=v:=by
  have hlen:2≤c.blocks.length:=by have:=h.ok.n1;omega
  have hm:B0 c 0 0=0:=Aa6 (i:=0) (j:=0) up (by omega) (by omega)
  have hrd:∀ k<2,∀ b,c.blocks[k]? =some b→∀ (j:Nat) (hj:j<8),B3 c (k:Nat) (j:Nat)=b.pages[j]:=fun k hk b hb j hj=>P5 (Aa6 up (by omega) hj) hb hj
  obtain ⟨b,hb,j,hj,hr⟩:=h.ex
  obtain ⟨t,ho,hi⟩:=Agl hm h.a2 hj (by rw [hrd a h.a2 b hb j hj];exact hr)
  refine ⟨t,ho,?_⟩
  obtain ⟨k,hk⟩:∃ k:Nat,t.area=k:=⟨t.area.toNat,by have:=hi.area;omega⟩
  have hk2:k<2:=by have:=hi.area;omega
  obtain ⟨b2,hb2,hbi2,_⟩:=h.bs k hk2
  obtain ⟨⟨r1,r2⟩,r3⟩:=hi.rc
  obtain ⟨j2,hj2⟩:∃ j:Nat,t.at'=j:=⟨t.at'.toNat,by omega⟩
  have hj28:j2<8:=by omega
  rw [hk,hj2,hrd k hk2 b2 hb2 j2 hj28] at r3
  have h1:=h.le k hk2 b2 hb2 j2 hj28 _ _ _ r3
  have h2:=hi.le a h.a2 j hj v u l (by rw [hrd a h.a2 b hb j hj];exact hr)
  have hv:t.version.toNat=v:=by omega
  obtain ⟨h3,h4⟩:=h1.2 hv
  refine ⟨⟨k,hk,?_,b2,hb2,⟨hi.l0.1,by omega,by omega⟩,?_⟩,h3,h4,hv⟩
  · rw [hv,h3,h4]
    refine ⟨h.ok,hk2,h.bs,h.le,⟨b2,hb2,j2,hj28,?_⟩⟩
    rw [r3,hv,h3,h4]
  · rcases (show t.next≤b2.next∨b2.next<t.next by omega) with h5 | h5
    · exact h5
    · exfalso
      have hnx:=hbi2.nx
      have hl:=hi.l0
      have hnb:=hi.nb (by omega)
      obtain ⟨i,hi2⟩:∃ i:Nat,t.next - 1=i:=⟨(t.next - 1).toNat,by omega⟩
      rw [hk,hi2,hrd k hk2 b2 hb2 i (by omega),hbi2.bl i (by omega) (by omega),Qj] at hnb
      cases hnb
end
section
open Go.K
instance und3:Und Tryz.prog 3 (.int .i64):=⟨Tryz.underlying3⟩
instance agg3:Agg Tryz.prog 3 false:=⟨⟨_,Tryz.underlying3,rfl⟩⟩
instance siz3:Siz Tryz.prog 3 1:=⟨by kernel_rfl⟩
instance und5:Und Tryz.prog 5 (.int .u8):=⟨Tryz.underlying5⟩
instance agg5:Agg Tryz.prog 5 false:=⟨⟨_,Tryz.underlying5,rfl⟩⟩
instance siz5:Siz Tryz.prog 5 1:=⟨by kernel_rfl⟩
instance und9:Und Tryz.prog 9 .string:=⟨Tryz.underlying9⟩
instance und85:Und Tryz.prog 85 (.slice 3):=⟨Tryz.underlying85⟩
instance agg85:Agg Tryz.prog 85 false:=⟨⟨_,Tryz.underlying85,rfl⟩⟩
instance siz85:Siz Tryz.prog 85 1:=⟨by kernel_rfl⟩
instance wide:Wide Tryz.prog:=⟨by kernel_rfl⟩
theorem Ab2 {x:By}:Does Tryz.prog 186 [.int .u8 x.toNat] [] (Is (.int .i64 (Hj x)) []):=by
 refine zF 6 Tryz.func186 ?_
 refine zC ?_
 refine Ae (Kg rfl rfl (A3t _) (Zs x)) rfl ?_
 refine zC ?_
 refine Ak (Aw Tryz.results186 (Af rfl)) ?_ sP
 exact A6r (Value.int .i64) (Asr x)
theorem Ast {x:By}:Does Tryz.prog 217 [.int .u8 x.toNat] [] (Is (.int .i64 (Q6 x)) []):=by
 refine zF 6 Tryz.func217 ?_
 refine zC ?_
 refine Ae (Kg rfl rfl (A3t _) (Asq x)) rfl ?_
 refine zC ?_
 refine Ak (Aw Tryz.results217 (Af rfl)) ?_ sP
 exact A6r (Value.int .i64) (Ass x)
abbrev tI:TypeId:=3
theorem Amk {v:Int} {s:Sl Int} {T:TypeId} :
  Does Tryz.prog 127 [s.val,.int .i64 v] (s.hp T) (Is (.int .i64 (idx s.list v)) (s.hp T)):=by
 refine zF 19 Tryz.func127 ?_
 refine zC ?_
 have hsm:=s.small
 refine Dw [0,1,7] kQ (fun i=>[(8,.int .i64 i)]) (fun i=>0≤i∧i≤s.list.length∧∀ k:Int,0≤k→k<i→at0 s.list k≠v) (fun i=>((s.list.length:Int) - i).toNat) ((0:Int)) ⟨by omega,by omega,by omega⟩ kP ?_
 rintro i ⟨h0,h1,h2⟩
 refine zC ?_
 refine Aa rfl (fun c9=> ?_) (fun c9=> ?_)
 ·try simp at c9
  refine zA ?_
  refine Ae (Az rfl rfl ⟨h0,c9⟩) rfl ?_
  refine Ae (Ca (o:=0) rfl pL (Io h0 c9) rfl rfl) rfl ?_
  refine zC ?_
  refine Aa rfl (fun c16=> ?_) (fun c16=> ?_)
  ·simp at c16
   refine zC ?_
   refine Ak (Aw Tryz.results127 (Af rfl)) ?_ sP
   rw [Axi i h0 c9 h2 c16.symm]
  ·simp at c16
   refine zC ?_
   exact ⟨i+1,⟨by omega,by omega,Ab1 h2 (fun e=>c16 e.symm)⟩,(by omega),lZ⟩
 ·try simp at c9
  refine zC ?_
  refine Ak (Aw Tryz.results127 (Af rfl)) ?_ sP
  rw [Amj (fun k k0 k1=>h2 k k0 (by omega))]
theorem H5 {v:Int} {s:Sl Int} {T:TypeId} :
  Does Tryz.prog 81 [s.val,.int .i64 v] (s.hp T) (Is (.bool (E8 s.list v)) (s.hp T)):=by
 refine zF 9 Tryz.func81 ?_
 refine zC ?_
 refine zI rfl (Amk) ?_
 refine zC ?_
 exact zS
end
section
open Go.K
instance und4:Und Tryz.prog 4 .bool:=⟨Tryz.underlying4⟩
instance agg4:Agg Tryz.prog 4 false:=⟨⟨_,Tryz.underlying4,rfl⟩⟩
instance siz4:Siz Tryz.prog 4 1:=⟨by kernel_rfl⟩
instance agg90:Agg Tryz.prog 90 false:=⟨⟨_,Tryz.underlying90,rfl⟩⟩
instance und91:Und Tryz.prog 91 (.slice 150):=⟨Tryz.underlying91⟩
instance agg91:Agg Tryz.prog 91 false:=⟨⟨_,Tryz.underlying91,rfl⟩⟩
instance und147:Und Tryz.prog 147 (.array 258 5):=⟨Tryz.underlying147⟩
instance agg147:Agg Tryz.prog 147 true:=⟨⟨_,Tryz.underlying147,rfl⟩⟩
instance siz147:Siz Tryz.prog 147 258:=⟨by kernel_rfl⟩
instance und148:Und Tryz.prog 148 (.array 8 147):=⟨Tryz.underlying148⟩
instance siz150:Siz Tryz.prog 150 2066:=⟨by kernel_rfl⟩
instance zer147:Zer Tryz.prog 147 (List.replicate 258 (.int .u8 0)):=⟨by kernel_rfl⟩
instance fld93_0:Fld Tryz.prog 93 0 0:=⟨⟨_,_,0,Tryz.underlying93,rfl,by kernel_rfl,rfl⟩⟩
instance fld93_1:Fld Tryz.prog 93 1 1:=⟨⟨_,_,0,Tryz.underlying93,rfl,by kernel_rfl,rfl⟩⟩
instance fld95_0:Fld Tryz.prog 95 0 0:=⟨⟨_,_,0,Tryz.underlying95,rfl,by kernel_rfl,rfl⟩⟩
instance fld95_1:Fld Tryz.prog 95 1 1:=⟨⟨_,_,0,Tryz.underlying95,rfl,by kernel_rfl,rfl⟩⟩
instance fld95_2:Fld Tryz.prog 95 2 2:=⟨⟨_,_,0,Tryz.underlying95,rfl,by kernel_rfl,rfl⟩⟩
instance fld95_3:Fld Tryz.prog 95 3 3:=⟨⟨_,_,0,Tryz.underlying95,rfl,by kernel_rfl,rfl⟩⟩
instance fld143_0:Fld Tryz.prog 143 0 0:=⟨⟨_,_,0,Tryz.underlying143,rfl,by kernel_rfl,rfl⟩⟩
instance fld143_1:Fld Tryz.prog 143 1 1:=⟨⟨_,_,0,Tryz.underlying143,rfl,by kernel_rfl,rfl⟩⟩
instance fld150_0:Fld Tryz.prog 150 0 0:=⟨⟨_,_,2063,Tryz.underlying150,rfl,by kernel_rfl,rfl⟩⟩
instance fld150_2:Fld Tryz.prog 150 2 2065:=⟨⟨_,_,0,Tryz.underlying150,rfl,by kernel_rfl,rfl⟩⟩
theorem Ao5:Does Tryz.prog 128 [] [] (Is (.agg (vbc Aq).toArray) []):=by
 refine zF 9 Tryz.func128 ?_
 refine zC ?_
 refine Ah rfl (fun b0=> ?_)
 refine zC ?_
 rw [Auc]
 refine Ar [0] kQ (fun (s:Nat)=>[(2,.int .i64 s)]) (fun s=>[(b0,true,C (vbc (L3 s)) 147)]) (fun s=>s≤258) (fun s=>258 - s) ((0:Nat)) (by omega) kP sP ?_
 rintro i h0
 refine zC ?_
 refine Aa rfl (fun c3=> ?_) (fun c3=> ?_)
 ·try simp at c3
  iterate 13 refine sb ?_
  refine Ac (cs':=vbc (L3 (i+1))) rfl rfl uD rfl rfl (by simpa using Af8 (i:=i) (by omega)) ?_
  refine zC ?_
  exact ⟨i+1,(by omega),(by omega),lZ⟩
 ·try simp at c3
  refine zA ?_
  refine Ae (Ao rfl mM (by exact Ax)) rfl ?_
  refine Ac rfl rfl uD (B9) (Ai) (Bi (by first | exact Ai | exact A20 ..)) ?_
  refine zC ?_
  refine Ak (Aw Tryz.results128 (Bc rfl mM (by exact Ax))) ?_ sP
  rw [show i=258 by omega,Akw]
abbrev tPw:TypeId:=143
abbrev tCh:TypeId:=95
abbrev tBk:TypeId:=150
abbrev ptr (p:Nat):Value:= .pointer (some ⟨p,0,none⟩)
@[irreducible] def chH (c:Chip):Hp:=(c.aP,true,C (pwc c) tPw)::(c.aC,true,C (chc c) tCh)::(c.aB,true,C (Eb c.blocks) tBk)::(c.pf.hp tI++(c.wf.hp tI++[]))
theorem Ez (c:Chip):chH c=(c.aP,true,C (pwc c) tPw)::(c.aC,true,C (chc c) tCh)::(c.aB,true,C (Eb c.blocks) tBk)::(c.pf.hp tI++(c.wf.hp tI++[])):=by unfold chH;rfl
section
variable {c:Chip} {i j:Int}
theorem Ayp:Does Tryz.prog 37 [ptr c.aP] [(c.aP,true,C (pwc c) tPw)] (Is (.bool c.off) [(c.aP,true,C (pwc c) tPw)]):=by
 refine zF 7 Tryz.func37 ?_
 refine zC ?_
 exact zS
theorem Auk:Does Tryz.prog 216 [ptr c.aC] [(c.aC,true,C (chc c) tCh)] (Is (.bool (!c.dead && !c.out)) [(c.aC,true,C (chc c) tCh)]):=by
 refine zF 15 Tryz.func216 ?_
 refine zC ?_
 exact zS
theorem Vk:Does Tryz.prog 74 [ptr c.aC,.int .i64 i] [(c.aC,true,C (chc c) tCh)] (Is (.bool (Ey c i)) [(c.aC,true,C (chc c) tCh)]):=by
 refine zF 16 Tryz.func74 ?_
 refine zC ?_
 exact zS
theorem Aav:Does Tryz.prog 184 [ptr c.aC,.int .i64 i,.int .i64 j] [(c.aP,true,C (pwc c) tPw),(c.aC,true,C (chc c) tCh)] (Is (.int .i64 (B0 c i j)) [(c.aP,true,C (pwc c) tPw),(c.aC,true,C (chc c) tCh)]):=by
 refine zF 30 Tryz.func184 ?_
 refine zC ?_
 refine zI rfl (Ayp) ?_
 refine zC ?_
 refine Aa rfl (fun c7=> ?_) (fun c7=> ?_)
 ·skip
  refine zC ?_
  refine Ak (Aw Tryz.results184 (Af rfl)) ?_ sP
  rw [B0,A6v c7]
 ·skip
  refine zC ?_
  refine zI rfl (Auk) ?_
  refine zC ?_
  refine Aa rfl (fun c13=> ?_) (fun c13=> ?_)
  ·skip
   refine zC ?_
   refine Ak (Aw Tryz.results184 (Af rfl)) ?_ sP
   rw [B0,A6u (by rw [c7];grind),A6v c13]
  ·skip
   refine zC ?_
   refine zI rfl (Vk) ?_
   refine zC ?_
   refine Aa rfl (fun c17=> ?_) (fun c17=> ?_)
   ·skip
    refine zC ?_
    refine Ak (Aw Tryz.results184 (Af rfl)) ?_ sP
    rw [B0,A6u (by rw [c7];grind),A6u (by rw [c13];grind),A6v c17]
   ·skip
    refine zC ?_
    refine Ak (Aw Tryz.results184 (Af rfl)) ?_ sP
    rw [B0,A6u (by rw [c7];grind),A6u (by rw [c13];grind),A6u (by rw [c17];grind)]
theorem Kv:Does Tryz.prog 158 [ptr c.aC] (chH c) (Is (.int .i64 c.blocks.length) (chH c)):=by
 rw [Ez]
 refine zF 8 Tryz.func158 ?_
 refine zC ?_
 exact zS
theorem Aaw:Does Tryz.prog 140 [ptr c.aC,.int .i64 i,.int .i64 j] (chH c) (Is (.tuple #[.agg (vbc (B3 c i j)).toArray,.int .i64 (B0 c i j)]) (chH c)):=by
 rw [Ez]
 refine zF 27 Tryz.func140 ?_
 refine zC ?_
 refine Ah rfl (fun b6=> ?_)
 refine zC ?_
 refine zI rfl (Aav) ?_
 refine zC ?_
 refine Aa rfl (fun c14=> ?_) (fun c14=> ?_)
 ·skip
  refine zA ?_
  refine Ae (show Rd _ _ _ _ (.agg (vbc Ku).toArray) from by (rw [← Cc];exact P3)) rfl ?_
  refine zA ?_
  refine Ac rfl rfl uD (B9) (Ai) (Bi (by first | exact Ai | exact A20 ..)) ?_
  refine zC ?_
  refine Ak (Dj Tryz.results140 (Bc rfl mM (by exact Ax)) (Af rfl)) ?_ sP
  (have hm:¬ B0 c i j=0:=by grind);rw [B3,A6u hm]
 ·skip
  have hm:B0 c i j=0:=by grind
  obtain ⟨m0,m1,m2,m3,_⟩:=Aaq hm
  iterate 10 refine sb ?_
  refine Ae (Aak rfl rfl (by omega)) rfl ?_
  iterate 2 refine sb ?_
  refine Ae (Ao rfl mM (show cut (Eb c.blocks) _ 258=_ by simpa using Ao1 m0 m1 m2 m3)) rfl ?_
  refine Ac rfl rfl uD (B9) (Ai) (Bi (by first | exact Ai | exact A20 ..)) ?_
  refine zC ?_
  refine Ak (Dj Tryz.results140 (Bc rfl mM (by exact Ax)) (Af rfl)) ?_ sP
  rw [B3,A6v hm,hm]
end
section
variable {c:Chip} {i j:Int}
theorem Aif:Does Tryz.prog 225 [ptr c.aP] [(c.aP,true,C (pwc c) tPw)] (Is (.bool (Ei c)) [(c.aP,true,C (pwc (Fo c)) tPw)]):=by
 refine zF 27 Tryz.func225 ?_
 refine zC ?_
 refine Aa rfl (fun c7=> ?_) (fun c7=> ?_)
 ·try simp at c7
  refine zC ?_
  refine Ak (Aw Tryz.results225 (Af rfl)) ?_ (by (rw [Aud c7];exact sP))
  simp [Ei,c7]
 ·try simp at c7
  iterate 21 refine sb ?_
  refine Ae (Au rfl rfl (rfl)) rfl ?_
  refine zC ?_
  refine Ak (Aw Tryz.results225 (Af rfl)) ?_ (by (rw [Aue c7];exact sP))
  simp [Ei,c7]
theorem Aul:Does Tryz.prog 224 [.pointer (some ⟨c.aC,4,none⟩)] ((c.aC,true,C (chc c) tCh)::(c.pf.hp tI++[])) (Is (.bool (L4 c)) ((c.aC,true,C (chc (Td c)) tCh)::(c.pf.hp tI++[]))):=by
 refine zF 20 Tryz.func224 ?_
 iterate 11 refine sb ?_
 refine Ae (Au rfl rfl (rfl)) rfl ?_
 refine zC ?_
 refine At [(9,[(0,false),(1,false),(2,false),(3,false),(4,false),(5,false),(6,false),(7,false),(8,false)]),(10,[(9,true)]),(11,[(10,false)])] (by kernel_rfl) ?_
 iterate 9 refine sb ?_
 refine Aj (Au rfl rfl (rfl)) ?_
 refine zC ?_
 refine zI rfl (H5) ?_
 refine zC ?_
 exact zS
theorem Aum:Does Tryz.prog 224 [.pointer (some ⟨c.aC,6,none⟩)] ((c.aC,true,C (chc c) tCh)::(c.wf.hp tI++[])) (Is (.bool (Sx c)) ((c.aC,true,C (chc (Aat c)) tCh)::(c.wf.hp tI++[]))):=by
 refine zF 20 Tryz.func224 ?_
 iterate 11 refine sb ?_
 refine Ae (Au rfl rfl (rfl)) rfl ?_
 refine zC ?_
 refine At [(9,[(0,false),(1,false),(2,false),(3,false),(4,false),(5,false),(6,false),(7,false),(8,false)]),(10,[(9,true)]),(11,[(10,false)])] (by kernel_rfl) ?_
 iterate 9 refine sb ?_
 refine Aj (Au rfl rfl (rfl)) ?_
 refine zC ?_
 refine zI rfl (H5) ?_
 refine zC ?_
 exact zS
end
theorem Ao6 {pb k i:Nat} {n:Int} {l:List Blk} {b:Blk} {d:Pg} (hk:l[k]? =some b) (hi:i<8) :
  Does Tryz.prog 233 [.pointer (some ⟨pb,k*2066,none⟩),.int .i64 (i:Int),.int .i64 n,.agg (vbc d).toArray] [(pb,true,C (Eb l) tBk)]
   (Is (.tuple #[]) [(pb,true,C (Eb (l.set k (wrB b i (A8 n 258) d hi))) tBk)]):=by
 refine zF 32 Tryz.func233 ?_
 refine zC ?_
 refine Do rfl rfl (fun b7=> ?_)
 refine zA ?_
 refine Ae (Ms rfl rfl) rfl ?_
 refine Ae (Aal rfl rfl) rfl ?_
 refine zC ?_
 have hset:l.set k (wrB b i 0 d hi)=l:=by (rw [A0v];have:=List.getElem?_eq_some_iff.1 hk;obtain ⟨h1,rfl⟩:=this;simp_all)
 rw [← A6r Eb hset]
 have hmm:(min (max n 0) 258)=(A8 n 258:Nat)∧A8 n 258≤258:=by unfold A8;omega
 refine Ar [0,1,7,11] kQ (fun (s:Nat)=>[(12,.int .i64 s)]) (fun s=>[(b7,true,C (vbc d) 147),(pb,true,C (Eb (l.set k (wrB b i s d hi))) tBk)]) (fun s=>s≤A8 n 258) (fun s=>A8 n 258 - s) ((0:Nat)) (by omega) kP sP ?_
 rintro j h0
 refine zC ?_
 refine Aa rfl (fun c13=> ?_) (fun c13=> ?_)
 ·simp only [A4f] at c13;rw [hmm.1] at c13
  have hj:j<258:=by omega
  refine zC ?_
  refine At [(16,[(0,false),(1,false),(2,false),(3,false),(4,false),(5,false),(6,false),(7,false),(8,false),(9,false),(10,false),(11,false),(12,false),(13,false),(14,false),(15,false)]),(17,[(16,true)])] (by kernel_rfl) ?_
  refine zA ?_
  refine Aj (G3 rfl rfl (by omega)) ?_
  refine Aj (G3 rfl rfl (by omega)) ?_
  refine Aj (Al rfl mM (show nth _ _=some (bv b.pages[i][j]) by simpa [A5z] using A0w hk hi hj)) ?_
  refine zA ?_
  refine Aj (G3 rfl rfl (by omega)) ?_
  refine Aj (Al rfl mM (show nth _ _=some (bv d[j]) by simpa using Ft (p:=d) hj)) ?_
  refine Aj (show Rd _ _ _ _ (bv (b.pages[i][j] &&& d[j])) from by (unfold bv;rw [← Ami];exact Au rfl rfl rfl)) ?_
  refine zA ?_
  refine Aj (G3 rfl rfl (by omega)) ?_
  refine Aj (G3 rfl rfl (by omega)) ?_
  refine zA ?_
  refine Ac (cs':=Eb (l.set k (wrB b i (j+1) d hi))) rfl rfl uD rfl rfl (by simpa [A5z] using Aug hk hi hj) ?_
  refine zC ?_
  exact ⟨j+1,(by omega),(by omega),lZ⟩
 ·simp only [ A2m] at c13;rw [hmm.1] at c13
  refine zC ?_
  refine Pz (Aj9 Tryz.results233) ?_ (by rw [show j=A8 n 258 by omega];repeat (first | exact Split.nil | (apply Split.cons;next=>repeat (first | exact Pick.here | apply Pick.there))))
  rfl
theorem Aax {pb k:Nat} {n:Int} {l:List Blk} {b:Blk} (hk:l[k]? =some b) :
  Does Tryz.prog 82 [.pointer (some ⟨pb,k*2066,none⟩),.int .i64 n] [(pb,true,C (Eb l) tBk)]
   (Is (.tuple #[]) [(pb,true,C (Eb (l.set k (D3 b (A8 n 8)))) tBk)]):=by
 refine zF 18 Tryz.func82 ?_
 refine zA ?_
 refine Ae (Ms rfl rfl) rfl ?_
 refine Ae (Aal rfl rfl) rfl ?_
 refine zC ?_
 have hset:l.set k (D3 b 0)=l:=by (rw [Auh];have:=List.getElem?_eq_some_iff.1 hk;obtain ⟨h1,rfl⟩:=this;simp_all)
 rw [← A6r Eb hset]
 have hmm:(min (max n 0) 8)=(A8 n 8:Nat)∧A8 n 8≤8:=by unfold A8;omega
 refine Ar [0,7] kQ (fun (s:Nat)=>[(8,.int .i64 s)]) (fun s=>[(pb,true,C (Eb (l.set k (D3 b s))) tBk)]) (fun s=>s≤A8 n 8) (fun s=>A8 n 8 - s) ((0:Nat)) (by omega) kP sP ?_
 rintro j h0
 refine zC ?_
 refine Aa rfl (fun c9=> ?_) (fun c9=> ?_)
 ·simp only [A4f] at c9;rw [hmm.1] at c9
  have hj:j<8:=by omega
  refine zC ?_
  refine At [(5,[(0,false),(1,false),(3,false),(4,false),(2,true)]),(6,[(5,false)]),(7,[(6,true)])] (by kernel_rfl) ?_
  refine zC ?_
  refine zI rfl (Ao5) ?_
  refine zA ?_
  refine Aj (G3 rfl rfl (by omega)) ?_
  refine zA ?_
  refine Ac (cs':=Eb (l.set k (D3 b (j+1)))) rfl rfl uD B9 Ai (by simpa [A5z] using Aky hk hj) ?_
  refine zC ?_
  exact ⟨j+1,(by omega),(by omega),lZ⟩
 ·simp only [ A2m] at c9;rw [hmm.1] at c9
  refine zC ?_
  refine Pz (Aj9 Tryz.results82) ?_ (by rw [show j=A8 n 8 by omega];repeat (first | exact Split.nil | (apply Split.cons;next=>repeat (exact Pick.here))))
  rfl
section
variable {c:Chip} {i j:Int}
theorem Ayq:Does Tryz.prog 169 [ptr c.aC,.int .i64 i] (chH c) (Is (.bool (Ey c i && Yt c i)) (chH c)):=by
 rw [Ez]
 refine zF 18 Tryz.func169 ?_
 refine zC ?_
 refine zI rfl (Vk) ?_
 refine sa ?_
 refine' G4 rfl rfl inferInstance rfl rfl rfl rfl rfl (fun hg8=> ?_) ?_
 rotate_left
 ·try (simp at hg8;show _)
  iterate 11 refine sb ?_
  refine Ae (Aak rfl rfl (Adk hg8)) rfl ?_
  refine zA ?_
  refine Ae (Al rfl mM (show nth _ _=some (.bool (Yt c i)) by simpa [A5z] using Ayo hg8)) rfl ?_
  exact Ag ⟨rfl,rfl,⟨_,sP⟩⟩
 refine zC ?_
 exact zS
end
end
section
open Go.K
instance agg77:Agg Tryz.prog 77 false:=⟨⟨_,Tryz.underlying77,rfl⟩⟩
instance zer95:Zer Tryz.prog 95 ([.pointer none,.slice none 0 0,.bool false,.bool false,.slice none 0 0,.int .i64 0,.slice none 0 0,.int .i64 0,.int .i64 0]):=⟨by kernel_rfl⟩
instance zer143:Zer Tryz.prog 143 ([.bool false,.int .i64 0,.int .i64 0]):=⟨by kernel_rfl⟩
instance zer150:Zer Tryz.prog 150 (List.replicate 2064 (.int .u8 0)++[.int .i64 0,.bool false]):=⟨by kernel_rfl⟩
instance fld95_4:Fld Tryz.prog 95 4 4:=⟨⟨_,_,1,Tryz.underlying95,rfl,by kernel_rfl,rfl⟩⟩
instance fld95_5:Fld Tryz.prog 95 5 6:=⟨⟨_,_,1,Tryz.underlying95,rfl,by kernel_rfl,rfl⟩⟩
instance fld95_6:Fld Tryz.prog 95 6 8:=⟨⟨_,_,0,Tryz.underlying95,rfl,by kernel_rfl,rfl⟩⟩
instance fld143_2:Fld Tryz.prog 143 2 2:=⟨⟨_,_,0,Tryz.underlying143,rfl,by kernel_rfl,rfl⟩⟩
instance fld150_1:Fld Tryz.prog 150 1 2064:=⟨⟨_,_,0,Tryz.underlying150,rfl,by kernel_rfl,rfl⟩⟩
instance plc95:Plc Tryz.prog 95 [(0,1),(1,1),(2,1),(3,1),(4,2),(6,2),(8,1)]:=⟨⟨_,Tryz.underlying95,fun _=>by kernel_rfl⟩⟩
instance plc143:Plc Tryz.prog 143 [(0,1),(1,1),(2,1)]:=⟨⟨_,Tryz.underlying143,fun _=>by kernel_rfl⟩⟩
instance byt150:Byt Tryz.prog 150 2080:=⟨by kernel_rfl⟩
theorem Nl (c:Chip) (k:Nat) (b:Blk):chH (setB c k b)=(c.aP,true,C (pwc c) tPw)::(c.aC,true,C (chc c) tCh)::(c.aB,true,C (Eb (c.blocks.set k b)) tBk)::(c.pf.hp tI++(c.wf.hp tI++[])):=by
 rw [Ez]
 simp only [setB,chc,A47]
theorem Vl {pb k:Nat} {n j:Int} {l:List Blk} {b:Blk} {d:Pg} (hk:l[k]? =some b) (h0:0≤j) (hi:j.toNat<8) :
  Does Tryz.prog 233 [.pointer (some ⟨pb,k*2066,none⟩),.int .i64 j,.int .i64 n,.agg (vbc d).toArray] [(pb,true,C (Eb l) tBk)]
   (Is (.tuple #[]) [(pb,true,C (Eb (l.set k (wrB b j.toNat (A8 n 258) d hi))) tBk)]):=by
 obtain ⟨i,rfl⟩:=Int.eq_ofNat_of_zero_le h0
 exact Ao6 hk hi
theorem Ls {l:List Blk} {k:Nat} {b:Blk} (h:l[k]? =some b) (b':Blk):(l.set k b')[k]? =some b':=by
 have:=(List.getElem?_eq_some_iff.1 h).1
 simp [this]
section
variable {c:Chip} {i j:Int} {d:Pg}
theorem Agd:Does Tryz.prog 209 [ptr c.aC,.int .i64 i,.int .i64 j,.agg (vbc d).toArray] (chH c) (Is (.int .i64 (Bl c i j d).1) (chH (Bl c i j d).2)):=by
 rw [Ez c]
 refine zF 82 Tryz.func209 ?_
 refine zC ?_
 refine Do rfl rfl (fun b7=> ?_)
 refine zC ?_
 refine zI rfl (Aav) ?_
 refine zC ?_
 refine Aa rfl (fun c17=> ?_) (fun c17=> ?_)
 ·skip
  have hm:¬ B0 c i j=0:=by grind
  have hres:=Adl (d:=d) hm
  refine zC ?_
  refine Ak (Aw Tryz.results209 (Af rfl)) ?_ (by rw [hres];(rw [Ez c];exact sP))
  rw [hres]
 ·skip
  have hm:B0 c i j=0:=by grind
  obtain ⟨m0,m1,m2,m3,_⟩:=Aaq hm
  have h8:j.toNat<8:=by omega
  obtain ⟨b,hb⟩:∃ b,c.blocks[i.toNat]? =some b:=⟨_,A2i (by omega)⟩
  iterate 9 refine sb ?_
  refine Ae (Co rfl rfl ⟨m0,m1⟩) rfl ?_
  refine zA ?_
  refine Ae (Al rfl mM (Adj hb)) rfl ?_
  refine zC ?_
  refine Aa rfl (fun c30=> ?_) (fun c30=> ?_)
  ·skip
   have hn:¬ j=b.next:=by grind
   have hres:=Vh (d:=d) hm hb hn
   refine zC ?_
   refine Ak (Aw Tryz.results209 (Af rfl)) ?_ (by rw [hres];(rw [Ez c];exact sP))
   rw [hres]
  ·skip
   have hn:j=b.next:=by grind
   iterate 8 refine sb ?_
   refine Ae (Au rfl rfl (rfl)) rfl ?_
   iterate 10 refine sb ?_
   refine Ae (Al rfl mM (Adj hb)) rfl ?_
   refine Ae (Au rfl rfl (rfl)) rfl ?_
   refine zA ?_
   refine Ac (cs':=Eb (c.blocks.set i.toNat { b with next:=w64 (b.next+1) })) rfl rfl uD rfl rfl (Mz _ hb) ?_
   refine zC ?_
   refine zI rfl (Aul (c:=cnt c)) ?_
   refine zC ?_
   refine zI rfl (Aif (c:=c)) ?_
   refine zC ?_
   refine Aa rfl (fun c49=> ?_) (fun c49=> ?_)
   ·skip
    have hres:=Yu (d:=d) hm h8 hb hn c49
    refine zC ?_
    refine At [(10,[(0,false),(1,false),(2,false),(3,false),(4,false),(5,false),(6,false),(7,false),(8,false),(9,false)]),(11,[(10,true)])] (by kernel_rfl) ?_
    iterate 10 refine sb ?_
    refine Aj (Ao rfl mM (by exact Ax)) ?_
    refine zC ?_
    refine zI rfl (Vl (Ls hb _) m2 h8) ?_
    refine zC ?_
    refine Ak (Aw Tryz.results209 (Af rfl)) ?_ (by rw [hres];(rw [wrC,Nl,A54];exact sP))
    rw [hres]
   ·skip
    have he:Ei c=false:=c49
    iterate 4 refine sa ?_
    refine' Kn rfl rfl inferInstance rfl rfl rfl rfl rfl (fun hg68=> ?_) ?_
    rotate_left
    ·try (simp at hg68;show _)
     refine zA ?_
     refine Ae (Al rfl mM (Aas (Ls hb _))) rfl ?_
     exact Ag ⟨rfl,rfl,⟨_,sP⟩⟩
    refine zC ?_
    refine Aa rfl (fun c66=> ?_) (fun c66=> ?_)
    ·skip
     have hres:=Yv (d:=d) hm h8 hb hn he c66
     refine zA ?_
     refine Ae (Ao rfl mM (by exact Ax)) rfl ?_
     refine zI rfl (Vl (Ls hb _) m2 h8) ?_
     refine zC ?_
     refine Ak (Aw Tryz.results209 (Af rfl)) ?_ (by rw [hres];(rw [wrC,Nl,A54];exact sP))
     rw [hres]
    ·skip
     have hres:=Aau (d:=d) hm h8 hb hn he c66
     refine zA ?_
     refine Ae (Ao rfl mM (by exact Ax)) rfl ?_
     refine zI rfl (Vl (Ls hb _) m2 h8) ?_
     refine zC ?_
     refine Ak (Aw Tryz.results209 (Af rfl)) ?_ (by rw [hres];(rw [wrC,Nl,A54];exact sP))
     rw [hres]
theorem Ao7:Does Tryz.prog 198 [ptr c.aC,.int .i64 i] (chH c) (Is (.int .i64 (Bm c i).1) (chH (Bm c i).2)):=by
 rw [Ez c]
 refine zF 62 Tryz.func198 ?_
 refine zC ?_
 refine zI rfl (Aav) ?_
 refine zC ?_
 refine Aa rfl (fun c12=> ?_) (fun c12=> ?_)
 ·skip
  have hm:¬ B0 c i 0=0:=by grind
  have hres:=Ak2 hm
  refine zC ?_
  refine Ak (Aw Tryz.results198 (Af rfl)) ?_ (by rw [hres];(rw [Ez c];exact sP))
  rw [hres]
 ·skip
  have hm:B0 c i 0=0:=by grind
  obtain ⟨m0,m1,m2,m3,_⟩:=Aaq hm
  obtain ⟨b,hb⟩:∃ b,c.blocks[i.toNat]? =some b:=⟨_,A2i (by omega)⟩
  iterate 9 refine sb ?_
  refine Ae (Co rfl rfl ⟨m0,m1⟩) rfl ?_
  iterate 9 refine sb ?_
  refine Ae (Au rfl rfl (rfl)) rfl ?_
  refine zC ?_
  refine zI rfl (Aum (c:=cnt c)) ?_
  refine zA ?_
  refine Ac (cs':=Eb (c.blocks.set i.toNat { b with next:=8 })) rfl rfl uD rfl rfl (Mz _ hb) ?_
  refine zC ?_
  refine zI rfl (Aif (c:=c)) ?_
  refine zC ?_
  refine Aa rfl (fun c34=> ?_) (fun c34=> ?_)
  ·skip
   have hres:=Vi hm hb c34
   refine zC ?_
   refine zI rfl (Aax (Ls hb _)) ?_
   refine zC ?_
   refine Ak (Aw Tryz.results198 (Af rfl)) ?_ (by rw [hres];(rw [Nl];(try rw [A54]);exact sP))
   rw [hres]
  ·skip
   have he:Ei c=false:=c34
   iterate 4 refine sa ?_
   refine' Kn rfl rfl inferInstance rfl rfl rfl rfl rfl (fun hg51=> ?_) ?_
   rotate_left
   ·try (simp at hg51;show _)
    refine zA ?_
    refine Ae (Al rfl mM (Aas (Ls hb _))) rfl ?_
    exact Ag ⟨rfl,rfl,⟨_,sP⟩⟩
   refine zC ?_
   refine Aa rfl (fun c49=> ?_) (fun c49=> ?_)
   ·skip
    have hres:=Vj hm hb he c49
    refine zC ?_
    refine Ak (Aw Tryz.results198 (Af rfl)) ?_ (by rw [hres];(rw [Nl];(try rw [A54]);exact sP))
    rw [hres]
   ·skip
    have hres:=Adm hm hb he c49
    refine zC ?_
    refine zI rfl (Aax (Ls hb _)) ?_
    refine zA ?_
    refine Ac (cs':=Eb (c.blocks.set i.toNat { D3 { b with next:=8 } 8 with next:=0 })) rfl rfl uD rfl rfl (by rw [A54];have:=Mz (l:=c.blocks.set i.toNat (D3 { b with next:=8 } 8)) 0 (Ls hb _);rw [A54] at this;exact this) ?_
    refine zC ?_
    refine Ak (Aw Tryz.results198 (Af rfl)) ?_ (by rw [hres];(rw [Nl];(try rw [A54]);exact sP))
    rw [hres]
end
theorem Ayr {c:Chip} {a k:Int}:Does Tryz.prog 36 [ptr c.aP,.int .i64 a,.int .i64 k] (chH c) (Is (.tuple #[]) (chH { c with after:=max a (-1),keep:=k })):=by
 rw [Ez,Ez]
 refine zF 15 Tryz.func36 ?_
 refine zA ?_
 refine Ae (Ms rfl rfl) rfl ?_
 refine zC ?_
 exact zSN
theorem Sy:Does Tryz.prog 48 [] [] (fun v H=>∃ b,v=ptr b∧H=[(b,true,C [.bool false,.int .i64 (-1),.int .i64 0] tPw)]):=by
 refine zF 3 Tryz.func48 ?_
 refine zC ?_
 refine Cy rfl rfl (fun b2=> ?_)
 refine zC ?_
 exact zL (hR:=by exact ⟨_,rfl,rfl⟩)
section
variable {f:FuncId} [Ent Tryz.prog f] {fi ca:List Value} {p:Int→Bool} {L:Hp} {s:Sl Int} {T:TypeId}
theorem Aay (hf:∀ x:Int,Does Tryz.prog f (fi++[.int .i64 x]++ca) L (Is (.bool (p x)) L)) :
  Does Tryz.prog 166 [s.val,.func (.func f) fi.toArray ca.toArray] (s.hp T++(L++[])) (Is (.int .i64 (Agc s.list p)) (s.hp T++(L++[]))):=by
 refine zF 19 Tryz.func166 ?_
 refine zC ?_
 have hsm:=s.small
 refine Dw [0,1,7] kQ (fun i=>[(8,.int .i64 i)]) (fun i=>0≤i∧i≤s.list.length∧∀ k:Int,0≤k→k<i→p (at0 s.list k)=false) (fun i=>((s.list.length:Int) - i).toNat) ((0:Int)) ⟨by omega,by omega,by omega⟩ kP ?_
 rintro i ⟨h0,h1,h2⟩
 refine zC ?_
 refine Aa rfl (fun c9=> ?_) (fun c9=> ?_)
 ·try simp at c9
  refine zA ?_
  refine Ae (Az rfl rfl ⟨h0,c9⟩) rfl ?_
  refine Ae (Ca (o:=0) rfl pL (Io h0 c9) rfl rfl) rfl ?_
  refine Xy rfl rfl (hf _) sP rfl aQ ?_
  refine zC ?_
  refine Aa rfl (fun c16=> ?_) (fun c16=> ?_)
  ·skip
   refine zC ?_
   refine Ak (Aw Tryz.results166 (Af rfl)) ?_ sP
   rw [Auj i h0 c9 h2 c16]
  ·skip
   refine zC ?_
   exact ⟨i+1,⟨by omega,by omega,Ab1 h2 c16⟩,(by omega),lZ⟩
 ·try simp at c9
  refine zC ?_
  refine Ak (Aw Tryz.results166 (Af rfl)) ?_ sP
  rw [Ak1 (fun k k0 k1=>h2 k k0 (by omega))]
theorem Te (hf:∀ x:Int,Does Tryz.prog f (fi++[.int .i64 x]++ca) L (Is (.bool (p x)) L)) :
  Does Tryz.prog 125 [s.val,.func (.func f) fi.toArray ca.toArray] (s.hp T++(L++[])) (Is (.bool (s.list.any p)) (s.hp T++(L++[]))):=by
 refine zF 9 Tryz.func125 ?_
 refine zC ?_
 refine zI rfl (Aay hf) ?_
 refine zC ?_
 refine Ak (Aw Tryz.results125 (Af rfl)) ?_ sP
 exact A6r Value.bool (Vg _ _)
theorem Aun {b:Nat} (hf:∀ x:Int,Does Tryz.prog f (fi++[.int .i64 x]++ca) L (Is (.bool (p x)) L)) (x:Int) :
  Does Tryz.prog 126 [.int .i64 x,ptr b] ((b,true,C [.func (.func f) fi.toArray ca.toArray] 77)::(L++[])) (Is (.bool (!p x)) ((b,true,C [.func (.func f) fi.toArray ca.toArray] 77)::(L++[]))):=by
 refine zF 8 Tryz.func126 ?_
 refine zC ?_
 refine Xy rfl rfl (hf _) sP rfl aQ ?_
 refine zC ?_
 exact zS
theorem Ays (hf:∀ x:Int,Does Tryz.prog f (fi++[.int .i64 x]++ca) L (Is (.bool (p x)) L)) :
  Does Tryz.prog 80 [s.val,.func (.func f) fi.toArray ca.toArray] (s.hp T++(L++[])) (Is (.bool (s.list.all p)) (s.hp T++(L++[]))):=by
 haveI:Ent Tryz.prog 126:=⟨fun _ _=>by kernel_rfl⟩
 refine zF 9 Tryz.func80 ?_
 refine zC ?_
 refine Cy rfl rfl (fun b3=> ?_)
 refine zC ?_
 refine Ae (Pu rfl) rfl ?_
 refine zI rfl (Te (f:=126) (fi:=[]) (ca:=[ptr b3]) (p:=fun x=> !p x) (L:=(b3,true,C [.func (.func f) fi.toArray ca.toArray] 77)::(L++[])) (fun x=>Aun hf x)) ?_
 refine zC ?_
 refine Ak (Aw Tryz.results80 (Af rfl)) ?_ sP
 exact A6r Value.bool (by rw [← List.not_all_eq_any_not,Bool.not_not])
end
instance (priority:=2000) zerBk:Zer Tryz.prog 150 (Ru L5):=⟨by rw [← Ao2];exact (inferInstance:Zer Tryz.prog 150 (List.replicate 2064 (.int .u8 0)++[.int .i64 0,.bool false])).eq⟩
def Ao8 (off:Bool) (after keep:Int) (pp:Nat) (n:Int) (s:Sl Int) (T:TypeId) (v:Value) (H:Hp):Prop :=
 if Js n s.list=true then ∃ aC aB,v= .tuple #[ptr aC,.int .i64 0]∧H=chH (P7 off after keep pp aC aB n.toNat s.list)++(s.hp T++[])
 else v= .tuple #[.pointer none,.int .i64 1]∧H=(s.hp T++[])
theorem Auo {off:Bool} {after keep:Int} {aP aC aB n:Nat} {bad:List Int}:chH (P7 off after keep aP aC aB n bad)=[(aP,true,C [.bool off,.int .i64 after,.int .i64 keep] tPw),(aC,true,C (chc (P7 off after keep aP aC aB n bad)) tCh),(aB,true,C (Eb (Gr n bad n)) tBk)]:=by
 rw [Ez]
 simp only [P7,Sl.hp_nil,A5b]
theorem Aaz {off:Bool} {after keep:Int} {aP aC aB n:Nat} {bad:List Int}:chc (P7 off after keep aP aC aB n bad)=[ptr aP,.slice (some ⟨aB,0,none⟩) n n,.bool false,.bool false,.slice none 0 0,.int .i64 0,.slice none 0 0,.int .i64 0,.int .i64 0]:=by
 simp only [chc,P7,Rw];rfl
theorem Aig {off:Bool} {after keep:Int} {aP aC aB n:Nat} {bad:List Int}:Ey (P7 off after keep aP aC aB n bad)=fun x=>(decide (0≤x) && decide (x<(n:Int))):=by
 funext x
 simp only [Ey,P7,Rw]
theorem Ayt {off:Bool} {after keep:Int} {pp:Nat} {n:Int} {s:Sl Int} {T:TypeId} :
  Does Tryz.prog 47 [ptr pp,.int .i64 n,s.val] ((pp,true,C [.bool off,.int .i64 after,.int .i64 keep] tPw)::(s.hp T++[])) (Ao8 off after keep pp n s T):=by
 haveI:Ent Tryz.prog 74:=⟨fun _ _=>by kernel_rfl⟩
 refine zF 51 Tryz.func47 ?_
 refine zC ?_
 refine Aa rfl (fun c16=> ?_) (fun c16=> ?_)
 ·skip
  refine zC ?_
  exact zL (hR:=by unfold Ao8;rw [A6u (by rw [Js,c16];simp)];exact ⟨rfl,rfl⟩)
 ·skip
  have h16:16≤n∧n≤40:=by simp at c16;omega
  obtain ⟨N,rfl⟩:∃ N:Nat,n=N:=⟨n.toNat,by omega⟩
  refine zC ?_
  refine Aoo (zs:=Ru L5) (hz:=zerBk) (hs:=by rw [Ic];infer_instance) (hby:=byt150) rfl rfl (by omega) rfl (fun b19=> ?_)
  refine zC ?_
  refine Cy rfl rfl (fun b21=> ?_)
  refine Pl (G:=(b21,true,C (chc (P7 off after keep pp b21 b19 N s.list)) tCh)::(b19,true,C (Eb (Gr N s.list 0)) tBk)::(pp,true,C [.bool off,.int .i64 after,.int .i64 keep] tPw)::(s.hp T++[])) (by rw [Aaz,Aui,← Ao3];rfl) ?_
  refine zC ?_
  refine Ae (Acp (fi:=[_]) (cap:=[]) rfl rfl) rfl ?_
  refine zI rfl (Ays (f:=74) (fi:=[ptr b21]) (ca:=[]) (fun x=>Vk (c:=P7 off after keep pp b21 b19 N s.list))) ?_
  refine zC ?_
  refine Aa rfl (fun c26=> ?_) (fun c26=> ?_)
  ·skip
   have hall:(s.list.all fun x=>decide (0≤x) && decide (x<(N:Int)))=false:=by simpa only [Aig,A32] using c26
   refine zC ?_
   exact zL (hR:=by unfold Ao8;rw [A6u (by rw [Js,hall];simp)];exact ⟨rfl,rfl⟩)
  ·skip
   have hall:(s.list.all fun x=>decide (0≤x) && decide (x<(N:Int)))=true:=by simpa only [Aig,A3s] using c26
   refine zA ?_
   refine Ae (Al rfl mM (by rw [Aaz];rfl)) rfl ?_
   refine zC ?_
   refine Ar [2,8,31] kQ (fun (s':Nat)=>[(32,.int .i64 s')]) (fun (s':Nat)=>(b21,true,C (chc (P7 off after keep pp b21 b19 N s.list)) tCh)::(b19,true,C (Eb (Gr N s.list s')) tBk)::(pp,true,C [.bool off,.int .i64 after,.int .i64 keep] tPw)::(s.hp T++[])) (fun (s':Nat)=>s'≤N) (fun (s':Nat)=>N - s') ((0:Nat)) (by first | trivial | omega | simp) kP sP ?_
   rintro i h0
   refine zC ?_
   refine Aa rfl (fun c33=> ?_) (fun c33=> ?_)
   ·simp at c33
    have hi:(Gr N s.list i)[i]? =some L5:=Ao4 s.list c33
    refine zA ?_
    refine Ae (Al rfl mM (by rw [Aaz];rfl)) rfl ?_
    refine zA ?_
    refine Ae (Co rfl rfl (by omega)) rfl ?_
    refine zC ?_
    refine zI rfl (H5) ?_
    refine zA ?_
    refine Ac (cs':=Eb ((Gr N s.list i).set i { L5 with bad:=E8 s.list i })) rfl rfl uD rfl rfl (Aga _ hi) ?_
    refine zC ?_
    refine zI rfl ((Aax (Ls hi _)).to rfl (by rw [A54,show A8 8 8=8 from rfl,Ak0,Agb s.list c33])) ?_
    refine zC ?_
    exact ⟨i+1,(by omega),(by omega),lZ⟩
   ·simp at c33
    refine zC ?_
    exact Bb (Dj Tryz.results47 (Af rfl) (Af rfl)) (by unfold Ao8;rw [A6v (by rw [Js,hall,c16];rfl)];exact ⟨b21,b19,rfl,rfl⟩) (by rw [show ((N:Int)).toNat=N from rfl,Auo];rw [show i=N by omega];exact sP)
end
section
open Go.K
instance und23:Und Tryz.prog 23 (.slice 5):=⟨Tryz.underlying23⟩
instance agg23:Agg Tryz.prog 23 false:=⟨⟨_,Tryz.underlying23,rfl⟩⟩
instance siz23:Siz Tryz.prog 23 1:=⟨by kernel_rfl⟩
instance und29:Und Tryz.prog 29 (.int .u64):=⟨Tryz.underlying29⟩
instance agg29:Agg Tryz.prog 29 false:=⟨⟨_,Tryz.underlying29,rfl⟩⟩
instance siz29:Siz Tryz.prog 29 1:=⟨by kernel_rfl⟩
instance und294:Und Tryz.prog 294 (.slice 29):=⟨Tryz.underlying294⟩
instance zer5:Zer Tryz.prog 5 ([.int .u8 0]):=⟨by kernel_rfl⟩
instance zer223:Zer Tryz.prog 223 ([.slice none 0 0,.bool false]):=⟨by kernel_rfl⟩
instance fld223_0:Fld Tryz.prog 223 0 0:=⟨⟨_,_,0,Tryz.underlying223,rfl,by kernel_rfl,rfl⟩⟩
instance fld223_1:Fld Tryz.prog 223 1 1:=⟨⟨_,_,0,Tryz.underlying223,rfl,by kernel_rfl,rfl⟩⟩
instance plc223:Plc Tryz.prog 223 [(0,1),(1,1)]:=⟨⟨_,Tryz.underlying223,fun _=>by kernel_rfl⟩⟩
instance byt5:Byt Tryz.prog 5 1:=⟨by kernel_rfl⟩
abbrev tU8:TypeId:=5
abbrev Apf:TypeId:=29
abbrev tSB:TypeId:=23
theorem Ads {n:Int}:Does Tryz.prog 138 [.int .i64 n] [] (Is (.int .i64 (A8 n 8:Nat)) []):=by
 refine zF 6 Tryz.func138 ?_
 refine zA ?_
 refine Ae (Ms rfl rfl) rfl ?_
 refine Ae (Aal rfl rfl) rfl ?_
 refine zC ?_
 refine Ak (Aw Tryz.results138 (Af rfl)) ?_ sP
 exact A6r (Value.int .i64) (by unfold A8;omega)
theorem Ii {α:Type} [Cel α] {T:TypeId} {L:Hp}:L=(Sl.nil:Sl α).hp T++L:=by rw [Sl.hp_nil];rfl
theorem Gg {n:Int} {x:Wd}:Does Tryz.prog 96 [.int .i64 n,wv x] [] (fun v H=>∃ s:Sl By,v=s.val∧H=(s.hp tU8++[])∧s.list=Bz (A8 n 8) x∧s.isOwn=true):=by
 refine zF 18 Tryz.func96 ?_
 refine zC ?_
 refine zI rfl (Ads) ?_
 refine zC ?_
 have hk:A8 n 8≤8:=by unfold A8;omega
 generalize A8 n 8=k at hk ⊢
 refine Ki (Ii (α:=By) (T:=tU8)) ?_
 refine Ar [6] kQ (fun (st:Nat×Sl By)=>[(7,.int .i64 st.1),(4,st.2.val),(1,wv (Jd x st.1))]) (fun st=>(st.2.hp tU8++[])) (fun st=>st.1≤k∧st.2.list=Bz st.1 x∧st.2.isOwn=true) (fun st=>k - st.1) ((0,Sl.nil)) ⟨A6j _,rfl,rfl⟩ kP sP ?_
 rintro ⟨i,s⟩ ⟨h0,h1,h2⟩
 have hl:s.list.length=i:=by rw [h1,A4]
 refine zC ?_
 refine Aa rfl (fun c8=> ?_) (fun c8=> ?_)
 ·try simp at c8
  refine zA ?_
  refine Ae (show Rd _ _ _ _ (bv ((Jd x i).setWidth 8)) from by (unfold bv;rw [← Aup];exact Dv rfl)) rfl ?_
  refine Am rfl rfl rfl rfl (fun b12=> ?_)
  refine A5 (s:=s) (new:=[(Jd x i).setWidth 8]) (m:=1) rfl rfl pL h2 (Ck (r:=true) mM rfl) rfl rfl rfl rfl (by omega) rfl (fun s' hs1 hs2=> ?_)
  refine zA ?_
  refine Ae (show Rd _ _ _ _ (wv (Jd x (i+1))) from by (exact Auq rfl rfl)) rfl ?_
  refine zC ?_
  exact ⟨(i+1,s'),⟨by omega,by rw [hs1,h1,Yw],hs2⟩,(by omega),lZ⟩
 ·try simp at c8
  refine zC ?_
  exact zL (hR:=by exact ⟨s,rfl,rfl,by rw [h1,show i=k by omega],h2⟩)
theorem Auv {n:Int} {xs:Sl Wd} {T:TypeId} (hx:xs.list.length≤1000000):Does Tryz.prog 196 [.int .i64 n,xs.val] (xs.hp T++[]) (fun v H=>∃ s:Sl By,v=s.val∧H=(s.hp tU8++(xs.hp T++[]))∧s.list=L6 (A8 n 8) xs.list∧s.isOwn=true):=by
 refine zF 20 Tryz.func196 ?_
 refine zC ?_
 have hk:A8 n 8≤8:=by unfold A8;omega
 refine Ki (Ii (α:=By) (T:=tU8)) ?_
 refine Ar [0,7,8] kQ (fun (st:Nat×Sl By)=>[(9,.int .i64 st.1),(4,st.2.val)]) (fun st=>(st.2.hp tU8++(xs.hp T++[]))) (fun st=>st.1≤xs.list.length∧st.2.list=L6 (A8 n 8) (xs.list.take st.1)∧st.2.isOwn=true) (fun st=>xs.list.length - st.1) ((0,Sl.nil)) ⟨A6j _,by simp [L6,Sl.list],rfl⟩ kP sP ?_
 rintro ⟨i,s⟩ ⟨h0,h1,h2⟩
 refine zC ?_
 refine Aa rfl (fun c10=> ?_) (fun c10=> ?_)
 ·simp at c10
  obtain ⟨x,hg⟩:∃ x,xs.list[i]? =some x:=⟨_,A2i c10⟩
  have hl:s.list.length≤8000000:=by (rw [h1,Ry];have:=Nat.mul_le_mul (show (xs.list.take i).length≤1000000 by grind) hk;omega)
  refine zA ?_
  refine Ae (Az rfl rfl (by omega)) rfl ?_
  refine Ae (Ca (o:=0) (v:=wv x) rfl pL hg rfl rfl) rfl ?_
  refine zC ?_
  refine zE rfl (Gg) ?_
  rintro _ _ ⟨s16,rfl,rfl,hs16,ho16⟩
  refine A6 aQ ?_
  refine A5 (s:=s) (new:=s16.list) (m:=s16.list.length) rfl rfl pL h2 (Jz pL) rfl rfl rfl rfl (by rw [hs16,A4];omega) rfl (fun s' hs1 hs2=> ?_)
  refine zC ?_
  exact ⟨(i+1,s'),⟨by omega,by rw [hs1,h1,hs16,Agf hg],hs2⟩,(by omega),lZ⟩
 ·simp at c10
  refine zC ?_
  exact zL (hR:=by exact ⟨s,rfl,rfl,by rw [h1,show i=xs.list.length by omega,A4u],h2⟩)
abbrev mt (α:Type) [Cel α] (b:Nat):Sl α:= .own b [] 0 [] ⟨by simp,A6h _,A6j _⟩
theorem Apg {α:Type} [Cel α] {b:Nat} {T:TypeId} {L:Hp}:((b,true,C [] T)::L)=(mt α b).hp T++L:=by rw [Sl.hp_own];rfl
theorem Qe {s:Sl By} {T:TypeId} (hs:s.list.length≤70000000000000):Does Tryz.prog 56 [s.val] (s.hp T++[]) (fun v H=>∃ s':Sl By,v=s'.val∧H=(s'.hp tU8++(s.hp T++[]))∧s'.list=s.list∧s'.isOwn=true):=by
 refine zF 8 Tryz.func56 ?_
 refine zA ?_
 refine Ae (Ye rfl rfl) rfl ?_
 refine zC ?_
 refine Aa rfl (fun c4=> ?_) (fun c4=> ?_)
 ·skip
  have hn:=Sl.nil_of s c4
  subst hn
  refine zC ?_
  exact Bb (Aw Tryz.results56 (Af rfl)) (by refine ⟨Sl.nil,rfl,rfl,rfl,rfl⟩) (by simp only [Sl.hp_nil];exact Split.nil)
 ·skip
  refine zC ?_
  refine Am rfl rfl rfl rfl (fun b5=> ?_)
  refine Pl (Apg (α:=By) (b:=b5) (T:=tU8)) ?_
  refine zC ?_
  refine A5 (s:=mt By b5) (new:=s.list) (m:=s.list.length) rfl rfl pL rfl (Jz pL) rfl rfl rfl rfl (by rw [show (mt By b5).list.length=0 from rfl];omega) rfl (fun s' hs1 hs2=> ?_)
  refine zC ?_
  exact zL (hR:=by exact ⟨s',rfl,rfl,by rw [hs1];rfl,hs2⟩)
abbrev tRd:TypeId:=223
structure Rdr where
 b:Nat
 sl:Sl By
 bad:Bool
@[irreducible] def rdH (r:Rdr):Hp:=(r.b,true,C [r.sl.val,.bool r.bad] tRd)::(r.sl.hp tU8++[])
theorem R0 (r:Rdr):rdH r=(r.b,true,C [r.sl.val,.bool r.bad] tRd)::(r.sl.hp tU8++[]):=by unfold rdH;rfl
theorem Fj {s:Sl By} {T:TypeId} (hs:s.list.length≤70000000000000):Does Tryz.prog 102 [s.val] (s.hp T++[]) (fun v H=>∃ r:Rdr,v=ptr r.b∧H=rdH r++(s.hp T++[])∧r.sl.list=s.list∧r.bad=false):=by
 refine zF 7 Tryz.func102 ?_
 refine zC ?_
 refine zE rfl (Qe hs) ?_
 rintro _ _ ⟨s4,rfl,rfl,hs4,ho4⟩
 refine zW ?_
 refine Cy rfl rfl (fun b6=> ?_)
 refine zC ?_
 exact Bb (Aw Tryz.results102 (Af rfl)) (by exact ⟨⟨b6,s4,false⟩,rfl,rfl,hs4,rfl⟩) (by rw [R0];simp only [A4n,A34];exact sP)
theorem Tv {r:Rdr}:Does Tryz.prog 105 [ptr r.b] (rdH r) (Is (.int .i64 r.sl.list.length) (rdH r)):=by
 rw [R0]
 refine zF 8 Tryz.func105 ?_
 refine zC ?_
 exact zS
theorem Aik {r:Rdr}:Does Tryz.prog 191 [ptr r.b] (rdH r) (Is (.bool r.bad) (rdH r)):=by
 rw [R0]
 refine zF 7 Tryz.func191 ?_
 refine zC ?_
 exact zS
theorem Agk {s:Sl By} {k:Nat} {T:TypeId} (hs:s.list.length≤70000000000000):Does Tryz.prog 56 [(s.take k T).val] (s.hp T++[]) (fun v H=>∃ s':Sl By,v=s'.val∧H=(s'.hp tU8++(s.hp T++[]))∧s'.list=s.list.take k∧s'.isOwn=true):=by
 have:=Qe (s:=s.take k T) (T:=T) (by rw [Sl.take_list,A4s];omega)
 rwa [Sl.take_hp,Sl.take_list] at this
theorem Ky {r:Rdr} {n:Int} (hs:r.sl.list.length≤70000000000000):Does Tryz.prog 104 [ptr r.b,.int .i64 n] (rdH r) (fun v H=>∃ (s sl:Sl By) (bad:Bool),v=s.val∧H=s.hp tU8++(rdH ⟨r.b,sl,bad⟩++[])∧s.isOwn=true ∧
   s.list=(C4 (max n 0).toNat r.sl.list r.bad).1∧sl.list=(C4 (max n 0).toNat r.sl.list r.bad).2.1∧bad=(C4 (max n 0).toNat r.sl.list r.bad).2.2):=by
 rw [R0]
 refine zF 37 Tryz.func104 ?_
 refine zA ?_
 refine Ae (Ms rfl rfl) rfl ?_
 refine zC ?_
 refine Aa rfl (fun c13=> ?_) (fun c13=> ?_)
 ·simp at c13
  refine zC ?_
  exact Bb (Aw Tryz.results104 (Af rfl)) (by refine ⟨Sl.nil,Sl.nil,true,rfl,rfl,rfl,?_⟩;unfold C4;rw [A6v (by omega)];exact ⟨rfl,rfl,rfl⟩) (by rw [R0,Sl.hp_nil];exact sP)
 ·simp at c13
  refine zC ?_
  refine At [(15,[(0,false),(1,false),(2,false),(3,false),(4,false),(5,false),(6,false),(8,false),(9,false),(10,false),(11,false),(12,false),(13,false),(7,true),(14,false)]),(17,[(15,false),(16,false)]),(18,[(17,true)])] (by kernel_rfl) ?_
  refine zC ?_
  refine Aj (Aka tU8 rfl rfl (by omega)) ?_
  refine zC ?_
  refine Aj (X2 tU8 rfl rfl (by omega) rfl) ?_
  refine zC ?_
  refine zE rfl (Agk hs) ?_
  rintro _ _ ⟨s27,rfl,rfl,hs27,ho27⟩
  refine zW ?_
  exact Bb (Aw Tryz.results104 (Af rfl)) (by refine ⟨s27,r.sl.drop (max n 0).toNat tU8,r.bad,rfl,rfl,ho27,?_⟩;unfold C4;rw [A6u (by omega)];exact ⟨hs27,Sl.drop_list ..,rfl⟩) (by rw [R0];simp only [Sl.drop_hp];exact sP)
theorem Fk {r:Rdr} {n:Int} (hs:r.sl.list.length≤70000000000000):Does Tryz.prog 103 [ptr r.b,.int .i64 n] (rdH r) (fun v H=>∃ (x:Wd) (sl:Sl By) (bad:Bool),v=wv x∧H=rdH ⟨r.b,sl,bad⟩++[] ∧
   x=(C2 (A8 n 8) r.sl.list r.bad).1∧sl.list=(C2 (A8 n 8) r.sl.list r.bad).2.1∧bad=(C2 (A8 n 8) r.sl.list r.bad).2.2):=by
 have hk:A8 n 8≤8:=by unfold A8;omega
 refine zF 26 Tryz.func103 ?_
 refine zC ?_
 refine zI rfl (Ads) ?_
 refine zE rfl (Ky hs) ?_
 rintro _ _ ⟨s10,sl10,bad10,rfl,rfl,ho10,hs10,hl10,hb10⟩
 refine zW ?_
 have hmx:(max ((A8 n 8:Nat):Int) 0).toNat=A8 n 8:=by omega
 rw [hmx] at hs10 hl10 hb10
 have hl8:s10.list.length≤8:=by (rw [hs10];unfold C4;grind)
 refine Dw [10,11] kQ (fun (i:Nat)=>[(12,.int .i64 i),(4,wv (Ec s10.list i))]) (fun i=>i≤s10.list.length) (fun i=>s10.list.length - i) ((0:Nat)) (A6j _) kP ?_
 rintro i h0
 refine zC ?_
 refine Aa rfl (fun c13=> ?_) (fun c13=> ?_)
 ·simp at c13
  obtain ⟨y,hg⟩:∃ y,s10.list[i]? =some y:=⟨_,A2i c13⟩
  refine zA ?_
  refine Ae (Az rfl rfl (by omega)) rfl ?_
  refine Ae (Ca (o:=0) (v:=bv y) rfl pL hg rfl rfl) rfl ?_
  refine zA ?_
  refine Ae (Aut rfl) rfl ?_
  refine zA ?_
  refine Ae (Ps rfl rfl (by omega)) rfl ?_
  refine Ae (show Rd _ _ _ _ (wv (y.setWidth 64 <<< (8*i))) from Ao9 rfl rfl (by omega) (by omega)) rfl ?_
  refine Ae (show Rd _ _ _ _ (wv (Ec s10.list (i+1))) from by (rw [Vo,A18,hg,A4w];unfold wv;rw [show (((Ec s10.list i ||| (y.setWidth 64 <<< (8*i))).toNat:Nat):Int)=_ from (Ow .or .u64 rfl _ _).symm];exact Au rfl rfl rfl)) rfl ?_
  refine zC ?_
  exact ⟨i+1,(by omega),(by omega),lZ⟩
 ·simp at c13
  refine zC ?_
  exact zL (hR:=by refine ⟨Ec s10.list i,sl10,bad10,rfl,rfl,?_⟩;rw [hl10,hb10];unfold C4 at hs10 ⊢;unfold C2;split at hs10 <;> rename_i hc;(rw [A6v hc,A6v hc];refine ⟨?_,rfl,rfl⟩;rw [show i=0 by grind];rfl);grind)
end
section
open Go.K
instance und55:Und Tryz.prog 55 (.int .u32):=⟨Tryz.underlying55⟩
instance agg55:Agg Tryz.prog 55 false:=⟨⟨_,Tryz.underlying55,rfl⟩⟩
instance siz55:Siz Tryz.prog 55 1:=⟨by kernel_rfl⟩
instance und194:Und Tryz.prog 194 (.slice 23):=⟨Tryz.underlying194⟩
@[irreducible] def Dg (l:List (Sl By)):Hp:=l.flatMap (·.hp tU8)
theorem Hx:Dg []=[]:=by unfold Dg;rfl
theorem Cs (s:Sl By) (l:List (Sl By)):Dg (s::l)=s.hp tU8++Dg l:=by unfold Dg;rfl
theorem Yz:∀ {l:List (Sl By)} {i:Nat} {s:Sl By},l[i]? =some s→Sub (s.hp tU8) (Dg l)
 | [],_,_,h=>by simp at h
 | x::l,0,s,h=>by
  simp at h;subst h
  rw [Cs];exact fun y hy=>A29 _ hy
 | x::l,i+1,s,h=>by
  have:=Yz (l:=l) (i:=i) (s:=s) (by simpa using h)
  rw [Cs];exact fun y hy=>A22 _ (this y hy)
theorem Tw {q:Hp} {l:List (Sl By)} {i:Nat} {s:Sl By} {A B:Hp} (h:l[i]? =some s) (hp:PickL (Dg l) A B):Sub (s.hp tU8) A:=(Yz h).trans hp.toSub
instance mnz:Mnz Tryz.prog 195 23:=⟨_,#[3],Tryz.func195,by kernel_rfl,rfl,by kernel_rfl,by kernel_rfl⟩
theorem Aph {P:Program} {E:Env} {H:Hp} {t e:TypeId} {x lo:Operand} {b l i:Nat} [ht:Und P t (.slice e)] [hz:Siz P e 1] (hx:ev E x=some (.slice (some ⟨b,0,none⟩) l l)) (hlo:ev E lo=some (.int .i64 (i:Int))) (hb:i≤l) :
  Rd P E H (.slice t x (some lo) none none) (.slice (some ⟨b,if l=i then 0 else i,none⟩) (l - i) (l - i)):=by
 have:=Ol (P:=P) (H:=H) (t:=t) (e:=e) (sz:=1) hx hlo (by omega)
 by_cases h:l=i
 ·grind
 ·simpa [h,B8] using this
theorem Auw {P:Program} {E:Env} {H:Hp} {t u:TypeId} {x y:Operand} {i:Int} (hx:ev E x=some (.int .i64 i)) (hy:ev E y=some (.int .i64 ((0:Nat):Int))) (hb: -9223372036854775808≤i∧i≤9223372036854775807):Rd P E H (.binOp .add t x y u) (.int .i64 i):=by
 have:=B5 (P:=P) (H:=H) (t:=t) (u:=u) hx hy (by omega)
 rwa [show i+((0:Nat):Int)=i by omega] at this
theorem Ak8 {b:Nat} {cs:List Value} {xs:List By} {L:Hp} {q:List (Sl By)} (hx:xs=Ba q) (hn:(Ba q).length≤cs.length) (hb:(Ba q).length≤70000000000000) :
  ∃ s:Sl By,Value.slice (some ⟨b,0,none⟩) (Ba q).length (Ba q).length=s.val∧((b,true,C (Adp cs xs) tU8)::L)=s.hp tU8++L∧s.list=Ba q∧s.isOwn=true:=by
 subst hx
 refine ⟨.own b (Ba q) (Ba q).length (cs.drop (Ba q).length) ⟨by simp,A6h _,by omega⟩,rfl,?_,rfl,rfl⟩
 rw [Sl.hp_own]
 rfl
theorem Aux {q:Sl (Sl By)} (hl:(Ba q.list).length≤70000000000000):Does Tryz.prog 155 [q.val,.slice none 0 0] (q.hp tSB++(Dg q.list++[])) (fun v H=>∃ s:Sl By,v=s.val∧H=s.hp tU8++(q.hp tSB++(Dg q.list++[]))∧s.list=Ba q.list∧s.isOwn=true):=by
 have hsm:=q.small
 refine zF 92 Tryz.func155 ?_
 refine zC ?_
 refine Aa rfl (fun c14=> ?_) (fun c14=> ?_)
 ·simp only [A4f] at c14
  refine zC ?_
  refine Am rfl rfl rfl rfl (fun b15=> ?_)
  refine Pl (Apg (α:=By) (b:=b15) (T:=tU8)) ?_
  refine zC ?_
  exact zL (hR:=by refine ⟨mt By b15,rfl,rfl,?_,rfl⟩;rw [List.length_eq_zero_iff.1 (show q.list.length=0 by omega)];rfl)
 ·simp only [ A2m] at c14
  refine zC ?_
  refine Aa rfl (fun c18=> ?_) (fun c18=> ?_)
  ·simp only [A4f] at c18
   obtain ⟨s,hs⟩:∃ s,q.list=[s]:=List.length_eq_one_iff.1 (by omega)
   have hg:q.list[0]? =some s:=by grind
   have hjl:Ba q.list=s.list:=by (rw [hs];simp [Ba])
   refine zA ?_
   refine Ae (Az rfl rfl (by omega)) rfl ?_
   refine Ae (Ca (o:=0) (i:=0) (v:=s.val) rfl pL hg rfl rfl) rfl ?_
   refine Pl (Ii (α:=By) (T:=tU8)) ?_
   refine A5 (s:=(Sl.nil:Sl By)) (new:=s.list) (m:=s.list.length) rfl rfl pL rfl (To (Tw (q:=[]) hg pL)) rfl rfl rfl rfl (by rw [show (Sl.nil:Sl By).list.length=0 from rfl,← hjl];omega) rfl (fun s' hs1 hs2=> ?_)
   refine zC ?_
   exact zL (hR:=by refine ⟨s',rfl,rfl,?_,hs2⟩;rw [hs1,hjl];rfl)
  ·have hne:0<q.list.length:=by omega
   refine zC ?_
   refine Ay rfl ?_
   refine zC ?_
   refine Dw [0,1,42,43] kQ (fun (i:Nat)=>[(44,.int .i64 i),(5,.int .i64 (Ba (q.list.take i)).length)]) (fun i=>i≤q.list.length) (fun i=>q.list.length - i) ((0:Nat)) (A6j _) kP ?_
   rintro i h0
   have hle:=Qd q.list i
   refine zC ?_
   refine Aa rfl (fun c45=> ?_) (fun c45=> ?_)
   ·simp at c45
    obtain ⟨s,hg⟩:∃ s,q.list[i]? =some s:=⟨_,A2i c45⟩
    have hst:=Ox hg
    have hle2:=Qd q.list (i+1)
    rw [hst,A3x] at hle2
    refine zA ?_
    refine Ae (Az rfl rfl (by omega)) rfl ?_
    refine Ae (Ca (o:=0) (v:=s.val) rfl pL hg rfl rfl) rfl ?_
    refine zC ?_
    refine Aa rfl (fun c52=> ?_) (fun c52=> ?_)
    ·simp at c52
     omega
    ·iterate 6 refine sb ?_
     refine Ae (show Rd _ _ _ _ (.int .i64 (Ba (q.list.take (i+1))).length) from by (rw [hst,A3x];push_cast;exact B5 rfl rfl (by omega))) rfl ?_
     refine zC ?_
     exact ⟨i+1,(by omega),(by omega),lZ⟩
   ·simp at c45
    have hall:Ba (q.list.take i)=Ba q.list:=by rw [A2s (by omega)]
    rw [hall]
    refine zC ?_
    refine A0h (m:=(Ba q.list).length) rfl (by omega) rfl (fun b60 cs hcs=> ?_)
    refine zC ?_
    refine Ae (Akb rfl rfl rfl (by omega)) rfl ?_
    refine zA ?_
    refine Ae (Az rfl rfl (by omega)) rfl ?_
    refine Ae (Ca (o:=0) (i:=0) (v:=(q.list[0]'hne).val) rfl pL (A2i hne) rfl rfl) rfl ?_
    have hb0:Adp cs []=cs:=(by simp [Adp,cells])
    have hg0:q.list[0]? =some (q.list[0]'hne):=A2i hne
    have hst0:=Ox hg0
    rw [show Ba (q.list.take 0)=[] from rfl,A5b] at hst0
    have hle0:=Qd q.list (0+1)
    rw [hst0] at hle0
    have hsp0:=Adq (cs:=cs) (xs:=[]) (ys:=(q.list[0]'hne).list) (o:=0) (by rw [List.length_nil,A6c];omega) (.inr rfl)
    rw [hb0,A5b] at hsp0
    refine Hq rfl rfl (To (Tw (q:=[]) hg0 pL)) (by omega) uD hsp0 (Gp _) rfl ?_
    refine zC ?_
    refine Ae (show Rd _ _ _ _ (q.drop 1 tSB).val from X2 (i:=1) tSB rfl rfl (by omega) rfl) rfl ?_
    refine zC ?_
    have hdl:(q.drop 1 tSB).list.length=q.list.length - 1:=by rw [Sl.drop_list,A4r]
    rw [← hst0]
    refine Ar [1,8,70,71] kQ (fun (j:Nat)=>[(72,.int .i64 j),(9,.int .i64 (Ba (q.list.take (j+1))).length)]) (fun j=>(b60,true,C (Adp cs (Ba (q.list.take (j+1)))) tU8)::(q.hp tSB++(Dg q.list++[]))) (fun j=>j+1≤q.list.length) (fun j=>q.list.length - j) ((0:Nat)) (by omega) kP sP ?_
    rintro j h1
    refine zC ?_
    refine Aa rfl (fun c73=> ?_) (fun c73=> ?_)
    ·simp only [A4f] at c73
     have hj:j+1<q.list.length:=by omega
     obtain ⟨s,hg⟩:∃ s,q.list[j+1]? =some s:=⟨_,A2i hj⟩
     have hg':(q.drop 1 tSB).list[j]? =some s:=(by rw [Sl.drop_list,A3v,A55 1 j];exact hg)
     have hst:=Ox hg
     have hle1:=Qd q.list (j+1+1)
     rw [hst,A3x] at hle1
     have hb1:=Adq (cs:=cs) (xs:=Ba (q.list.take (j+1))) (ys:=s.list) (o:=if (Ba q.list).length=(Ba (q.list.take (j+1))).length then 0 else (Ba (q.list.take (j+1))).length) (by omega) (by split;(left;exact ⟨List.length_eq_zero_iff.1 (by omega),rfl⟩);(right;rfl))
     rw [← hst] at hb1
     refine zA ?_
     refine Ae (Az rfl rfl (by omega)) rfl ?_
     refine Ae (Acs (o:=0) (v:=s.val) rfl (by rw [Sl.drop_hp];exact PickL.toSub pL) hg' rfl rfl) rfl ?_
     refine zC ?_
     refine Ae (Ol rfl rfl (by omega)) rfl ?_
     refine zC ?_
     refine Afz rfl rfl rfl ?_
     refine Ae (show Rd _ _ _ _ (.int .i64 (Ba (q.list.take (j+1))).length) from Auw rfl rfl (by omega)) rfl ?_
     refine zC ?_
     refine Ae (show Rd _ _ _ _ (.slice (some ⟨b60,if (Ba q.list).length=(Ba (q.list.take (j+1))).length then 0 else (Ba (q.list.take (j+1))).length,none⟩) ((Ba q.list).length - (Ba (q.list.take (j+1))).length) ((Ba q.list).length - (Ba (q.list.take (j+1))).length)) from Aph rfl rfl (by omega)) rfl ?_
     refine zC ?_
     refine Hq rfl rfl (To (Tw (q:=[]) hg pL)) (by omega) uD hb1 (Gp _) rfl ?_
     refine Ae (show Rd _ _ _ _ (.int .i64 (Ba (q.list.take (j+1+1))).length) from by (rw [hst,A3x];push_cast;exact B5 rfl rfl (by omega))) rfl ?_
     refine zC ?_
     exact ⟨j+1,(by omega),(by omega),lZ⟩
    ·simp only [ A2m] at c73
     refine zC ?_
     exact zL (hR:=by exact Ak8 (q:=q.list) (cs:=cs) (b:=b60) (show Ba (q.list.take (j+1))=_ from by rw [A2s (by omega)]) hcs hl)
theorem Adt {q:Sl (Sl By)} (hl:(Ba q.list).length≤70000000000000):Does Tryz.prog 113 [q.val] (q.hp tSB++(Dg q.list++[])) (fun v H=>∃ s:Sl By,v=s.val∧H=s.hp tU8++(q.hp tSB++(Dg q.list++[]))∧s.list=Ba q.list∧s.isOwn=true):=by
 refine zF 5 Tryz.func113 ?_
 refine zC ?_
 refine zE rfl (Aux hl) ?_
 rintro _ _ ⟨s4,rfl,rfl,hs4,ho4⟩
 refine zW ?_
 exact zL (hR:=by exact ⟨s4,rfl,rfl,hs4,ho4⟩)
theorem Aw6 {c:BitVec 32} {q:Sl (Sl By)}:Does Tryz.prog 95 [uv c,q.val] (q.hp tSB++(Dg q.list++[])) (Is (uv (Fy c (q.list.map (·.list)))) (q.hp tSB++(Dg q.list++[]))):=by
 have hsm:=q.small
 refine zF 42 Tryz.func95 ?_
 refine zA ?_
 refine Ae (Vn rfl) rfl ?_
 refine zC ?_
 refine Dw [12,13] kQ (fun (i:Nat)=>[(14,.int .i64 i),(5,uv (((q.list.take i).map (·.list)).foldl Qc (~~~c)))]) (fun i=>i≤q.list.length) (fun i=>q.list.length - i) ((0:Nat)) (A6j _) kP ?_
 rintro i h0
 refine zC ?_
 refine Aa rfl (fun c15=> ?_) (fun c15=> ?_)
 ·simp only [A4f] at c15
  obtain ⟨s,hg⟩:∃ s,q.list[i]? =some s:=⟨_,A2i (by omega)⟩
  have hst:((q.list.take (i+1)).map (·.list)).foldl Qc (~~~c)=Qc (((q.list.take i).map (·.list)).foldl Qc (~~~c)) s.list:=(by rw [List.map_take,List.map_take];exact Agi (by rw [A38,hg];rfl))
  have hss:=s.small
  generalize ha:((q.list.take i).map (·.list)).foldl Qc (~~~c)=a at hst ⊢
  refine zA ?_
  refine Ae (Az rfl rfl (by omega)) rfl ?_
  refine Ae (Ca (o:=0) (v:=s.val) rfl pL hg rfl rfl) rfl ?_
  refine zC ?_
  refine Dw [12,13,14,18,19] kQ (fun (j:Nat)=>[(20,.int .i64 j),(5,uv (Qc a (s.list.take j)))]) (fun j=>j≤s.list.length) (fun j=>s.list.length - j) ((0:Nat)) (A6j _) kP ?_
  rintro j h1
  refine zC ?_
  refine Aa rfl (fun c21=> ?_) (fun c21=> ?_)
  ·simp only [A4f] at c21
   obtain ⟨y,hy⟩:∃ y,s.list[j]? =some y:=⟨_,A2i (by omega)⟩
   have hst2:=Yx (c:=a) hy
   generalize he:Qc a (s.list.take j)=e at hst2 ⊢
   refine zA ?_
   refine Ae (Az rfl rfl (by omega)) rfl ?_
   refine Ae (Acs (o:=0) (v:=bv y) rfl (Tw (q:=[]) hg pL) hy rfl rfl) rfl ?_
   refine zA ?_
   refine Ae (Aih rfl) rfl ?_
   refine Ae (Kx rfl rfl) rfl ?_
   refine zC ?_
   refine Dw [12,13,14,18,19,20] kQ (fun (k:Nat)=>[(28,.int .i64 k),(5,uv (W7 (e ^^^ y.setWidth 32) k))]) (fun k=>k≤8) (fun k=>8 - k) ((0:Nat)) (A6j _) kP ?_
   rintro k h2
   have hck:W7 (e ^^^ y.setWidth 32) (k+1)=Auu (W7 (e ^^^ y.setWidth 32) k):=rfl
   have hk8:Apd e y=W7 (e ^^^ y.setWidth 32) 8:=rfl
   generalize hz:W7 (e ^^^ y.setWidth 32) k=z at hck ⊢
   refine zC ?_
   refine Aa rfl (fun c29=> ?_) (fun c29=> ?_)
   ·simp only [A4f] at c29
    refine zA ?_
    refine Ae (Ak4 rfl rfl) rfl ?_
    refine zA ?_
    refine Ae (P8 (b:=1) rfl rfl) rfl ?_
    refine Ae (Apb rfl) rfl ?_
    refine Ae (P8 (a:=Jt) rfl rfl) rfl ?_
    refine Ae (show Rd _ _ _ _ (uv (W7 (e ^^^ y.setWidth 32) (k+1))) from by (rw [hck];exact Kx rfl rfl)) rfl ?_
    refine zC ?_
    exact ⟨k+1,(by omega),(by omega),lZ⟩
   ·simp only [ A2m] at c29
    refine zC ?_
    have hk:k=8:=by omega
    subst hk
    rw [← hz,← hk8,← hst2]
    exact ⟨j+1,(by omega),(by omega),lZ⟩
  ·simp only [ A2m] at c21
   refine zC ?_
   have hj:j=s.list.length:=by omega
   rw [hj,A4u,← hst]
   exact ⟨i+1,(by omega),(by omega),lZ⟩
 ·simp only [ A2m] at c15
  refine zA ?_
  refine Ae (show Rd _ _ _ _ (uv (Fy c (q.list.map (·.list)))) from by (rw [Fy,show q.list.map (·.list)=(q.list.take i).map (·.list) by rw [A2s (by omega)]];exact Vn rfl)) rfl ?_
  refine zC ?_
  exact zS
theorem Api {q:Sl (Sl By)}:Does Tryz.prog 93 [q.val] (q.hp tSB++(Dg q.list++[])) (Is (uv (Fy 0 (q.list.map (·.list)))) (q.hp tSB++(Dg q.list++[]))):=by
 refine zF 5 Tryz.func93 ?_
 refine zC ?_
 refine zI rfl (Aw6 (c:=0)) ?_
 refine zC ?_
 exact zS
end
section
open Go.K
instance und151:Und Tryz.prog 151 (.int .u64):=⟨Tryz.underlying151⟩
instance und214:Und Tryz.prog 214 (.int .u16):=⟨Tryz.underlying214⟩
instance und217:Und Tryz.prog 217 (.array 256 5):=⟨Tryz.underlying217⟩
instance agg217:Agg Tryz.prog 217 true:=⟨⟨_,Tryz.underlying217,rfl⟩⟩
instance siz217:Siz Tryz.prog 217 256:=⟨by kernel_rfl⟩
instance zer217:Zer Tryz.prog 217 (List.replicate 256 (.int .u8 0)):=⟨by kernel_rfl⟩
abbrev tDa:TypeId:=217
abbrev tPg:TypeId:=147
theorem Y0 {n:Nat} (hn:n<65536):Does Tryz.prog 143 [.int .u16 (n:Nat)] [] (Is (.int .i64 (Gv n:Nat)) []):=by
 have h1:n / 256<256:=by omega
 have h2:(BitVec.ofNat 8 (n / 256)).toNat=n / 256:=by simp;omega
 have h3:(BitVec.ofNat 8 (n % 256)).toNat=n % 256:=by simp
 have t1:=Zs (BitVec.ofNat 8 (n / 256))
 have t2:=Zs (BitVec.ofNat 8 (n % 256))
 rw [h2] at t1
 rw [h3] at t2
 refine zF 11 Tryz.func143 ?_
 refine zC ?_
 refine At [(9,[(0,false),(1,false),(2,false),(3,false),(4,false),(5,false),(6,false),(7,false),(8,false)])] (by kernel_rfl) ?_
 refine zA ?_
 refine Aj (show Rd _ _ _ _ (.int .u16 ((n / 256:Nat):Int)) from Qa (m:=8) rfl rfl rfl (by decide)) ?_
 refine Aj (Kg rfl rfl (by omega) t1) ?_
 refine zA ?_
 refine Aj (show Rd _ _ _ _ (.int .u16 ((n % 256:Nat):Int)) from by (rw [← A1z n 8];exact Adn (b:=255) rfl rfl hn (by omega))) ?_
 refine Aj (Kg rfl rfl (by omega) t2) ?_
 refine zC ?_
 refine Ak (Aw Tryz.results143 (Af rfl)) ?_ sP
 have p1:=Lc (BitVec.ofNat 8 (n / 256));have p2:=Lc (BitVec.ofNat 8 (n % 256));exact A6r (Value.int .i64) (by rw [Ahs,Ahs,Gv,← Int.natCast_add,E4 .u8 rfl (by show _<256;omega),Aa3 (by omega)])
theorem Ak9 {n:Nat} (hn:n<4096):Does Tryz.prog 236 [.int .u64 (n:Nat)] [] (Is (.int .i64 (Gv n:Nat)) []):=by
 refine zF 35 Tryz.func236 ?_
 refine zA ?_
 refine Ae (I8 rfl rfl (by omega)) rfl ?_
 iterate 10 refine sb ?_
 refine Ae (I8 rfl rfl (by omega)) rfl ?_
 iterate 10 refine sb ?_
 refine Ae (I8 rfl rfl (by omega)) rfl ?_
 iterate 10 refine sb ?_
 refine Ae (I8 rfl rfl (by omega)) rfl ?_
 iterate 8 refine sb ?_
 refine Ae (I8 rfl rfl (by omega)) rfl ?_
 iterate 8 refine sb ?_
 refine Ae (I8 rfl rfl (by omega)) rfl ?_
 refine zC ?_
 refine Ak (Aw Tryz.results236 (Af rfl)) ?_ sP
 exact A6r (Value.int .i64) (Atk n hn)
theorem Auy {n:Nat} (hn:n<4096):Does Tryz.prog 219 [.int .u64 (n:Nat)] [] (Is (.int .i64 (Gv n:Nat)) []):=by
 refine zF 8 Tryz.func219 ?_
 refine zC ?_
 refine Ay rfl ?_
 refine zC ?_
 refine zI rfl (Ak9 hn) ?_
 refine zC ?_
 exact zS
theorem Apj {n:Nat} (hn:n<4096):Does Tryz.prog 182 [.int .u64 (n:Nat)] [] (Is (.int .i64 (Tb n:Nat)) []):=by
 refine zF 25 Tryz.func182 ?_
 refine zC ?_
 refine Aa rfl (fun c4=> ?_) (fun c4=> ?_)
 ·simp only [A4f] at c4
  omega
 ·refine zC ?_
  refine Aa rfl (fun c8=> ?_) (fun c8=> ?_)
  ·simp only [A4f] at c8
   omega
  ·refine zC ?_
   refine Aa rfl (fun c14=> ?_) (fun c14=> ?_)
   ·simp only [A4f] at c14
    have h8:(BitVec.ofNat 8 (n / 256)).toNat=n / 256:=(by simp;omega)
    have t1:=Ahg (BitVec.ofNat 8 (n / 256))
    have t2:=Ahh (BitVec.ofNat 8 (n / 256))
    rw [h8] at t1
    have t3:=Ax0 n hn (by omega)
    have t4:=Aht (BitVec.ofNat 8 (n / 256))
    refine zA ?_
    refine Ae (show Rd _ _ _ _ (.int .u64 ((n / 256:Nat):Int)) from Qa (m:=8) rfl rfl rfl (by decide)) rfl ?_
    iterate 13 refine sb ?_
    refine Ae (Eu rfl (E4 .u8 rfl (by show _<256;omega))) rfl ?_
    refine Ae (Kg rfl rfl (by omega) t1) rfl ?_
    refine Ae (Gf t2 rfl) rfl ?_
    refine zC ?_
    refine Ak (Aw Tryz.results182 (Af rfl)) ?_ sP
    grind
   ·simp only [ A2m] at c14
    have h8:(BitVec.ofNat 8 n).toNat=n:=(by simp;omega)
    have t1:=Ahg (BitVec.ofNat 8 n)
    have t2:=Ahh (BitVec.ofNat 8 n)
    rw [h8] at t1
    have t3:=Axz n (by omega)
    have t4:=Aht (BitVec.ofNat 8 n)
    refine zA ?_
    refine Ae (Eu rfl (E4 .u8 rfl (by show _<256;omega))) rfl ?_
    refine Ae (Kg rfl rfl (by omega) t1) rfl ?_
    refine Ae (Gf t2 rfl) rfl ?_
    refine zC ?_
    refine Ak (Aw Tryz.results182 (Af rfl)) ?_ sP
    grind
theorem Apk {n:Nat} (hn:n<4096):Does Tryz.prog 134 [.int .u64 (n:Nat)] [] (Is (.int .i64 (Tb n:Nat)) []):=by
 refine zF 8 Tryz.func134 ?_
 refine zC ?_
 refine Ay rfl ?_
 refine zC ?_
 refine zI rfl (Apj hn) ?_
 refine zC ?_
 exact zS
theorem Apl {i:Nat} (hi:i<2048):Does Tryz.prog 218 [.int .i64 (i:Nat)] [] (Is (.int .i64 (Of i:Nat)) []):=by
 refine zF 15 Tryz.func218 ?_
 refine zC ?_
 refine Dw [] kQ (fun (k:Nat)=>[(3,.int .i64 ((i+1+k:Nat):Int)),(4,.int .i64 ((2 ^ k:Nat):Int))]) (fun k=>k≤13∧Nc (13 - k) (i+1+k) (2 ^ k)=Of i) (fun k=>14 - k) ((0:Nat)) ⟨A6j _,rfl⟩ kP ?_
 rintro k ⟨h0,h1⟩
 refine zC ?_
 refine Aa rfl (fun c9=> ?_) (fun c9=> ?_)
 ·simp only [A4f] at c9
  have hk:k<13:=(by grind)
  have h2:13 - k=(12 - k)+1:=(by omega)
  rw [h2,Nc,A6v (by omega)] at h1
  have hp:2 ^ k≤2 ^ 12:=Nat.pow_le_pow_right (by omega) (by omega)
  refine zA ?_
  refine Ae (show Rd _ _ _ _ (.int .i64 ((i+1+(k+1):Nat):Int)) from by (rw [show ((i+1+(k+1):Nat):Int)=((i+1+k:Nat):Int)+1 by omega];exact B5 rfl rfl (by omega))) rfl ?_
  refine zA ?_
  refine Ae (show Rd _ _ _ _ (.int .i64 ((2 ^ (k+1):Nat):Int)) from Aii (a:=2 ^ k) (m:=1) rfl rfl rfl (by omega) (by omega)) rfl ?_
  refine zC ?_
  exact ⟨k+1,⟨by omega,by rw [Nat.pow_succ,show 13 - (k+1)=12 - k by omega];exact h1⟩,(by omega),lZ⟩
 ·simp only [ A2m] at c9
  have hr:Of i=i+1+k:=(by have h3:¬ 2 ^ k≤i+1+k:=(fun h=>c9 (by omega));rcases Nat.eq_zero_or_pos (13 - k) with h | h;(rw [h,Nc] at h1;exact h1.symm);(rw [show 13 - k=(12 - k)+1 by omega,Nc,A6u h3] at h1;exact h1.symm))
  refine zC ?_
  refine Ak (Aw Tryz.results218 (Af rfl)) ?_ sP
  rw [hr]
theorem Ail {b:Nat} {d:Dat} {T:TypeId}:Does Tryz.prog 187 [ptr b] [(b,true,C (vbc d) T)] (Is (.tuple #[.int .i64 (Gs d:Nat),.int .i64 (M0 d:Nat)]) [(b,true,C (vbc d) T)]):=by
 refine zF 37 Tryz.func187 ?_
 refine zC ?_
 refine Dw [7] kQ (fun (i:Nat)=>[(8,.int .i64 i),(2,.int .i64 (N6 d i:Nat)),(3,.int .i64 (Aa4 d i:Nat))]) (fun i=>i≤256) (fun i=>256 - i) ((0:Nat)) (A6j _) kP ?_
 rintro i h0
 refine zC ?_
 refine Aa rfl (fun c9=> ?_) (fun c9=> ?_)
 ·simp only [A4f] at c9
  have hi:i<256:=(by omega)
  have hl:=M1 d i h0
  have ho:=Aa5 d i
  have hd:d.toList.getD i 0=d[i]:=(by grind)
  have hls:=Vq d i
  have hos:=Yy d i
  rw [hd] at hls hos
  generalize N6 d i=ln at hl hls ⊢
  generalize Aa4 d i=od at ho hos ⊢
  generalize hy:d[i]=yy at hls hos
  refine zC ?_
  refine At [(6,[(0,false),(1,false),(2,false),(3,false),(4,false),(5,false)])] (by kernel_rfl) ?_
  refine zA ?_
  refine Aj (Fi rfl rfl (by omega)) ?_
  refine Aj (Al rfl mM (show nth _ _=some (bv yy) by (rw [← hy];simpa using Ft (p:=d) hi))) ?_
  refine zC ?_
  refine zI rfl (Ab2) ?_
  refine Ae (show Rd _ _ _ _ (.int .i64 ((Hj yy % 2:Nat):Int)) from by (rw [← Nat.and_one_is_mod];exact P9 (b:=1) rfl rfl (by have:=Lc yy;omega) (by omega))) rfl ?_
  refine Ae (show Rd _ _ _ _ (.int .i64 ((Aa4 d (i+1):Nat):Int)) from by (rw [hos];exact Aa1 rfl rfl (by omega) (by omega))) rfl ?_
  refine zC ?_
  refine Dw [7,8,4,3] kQ (fun (st:By×Nat)=>[(5,bv st.1),(2,.int .i64 (st.2:Nat))]) (fun st=>Aci i (Mk st.1) st.2=N6 d (i+1)∧st.2<4096) (fun st=>st.1.toNat) ((yy,ln)) ⟨hls.symm,hl⟩ kP ?_
  rintro ⟨z,s⟩ ⟨h1,h2⟩
  refine zC ?_
  refine Aa rfl (fun c20=> ?_) (fun c20=> ?_)
  ·skip
   have hz:z≠0:=(by grind)
   obtain ⟨hb1,hb2⟩:=Aj5 z hz
   have hdr:=Aj7 z hz
   rw [hb1] at h1
   have hpl:=Ack (8*i+Q6 z) (by omega)
   refine zC ?_
   refine zI rfl (Ast) ?_
   refine zA ?_
   refine Ae (show Rd _ _ _ _ (.int .i64 ((8*i:Nat):Int)) from by (rw [Nat.mul_comm];exact Aii (m:=3) rfl rfl rfl (by omega) (by omega))) rfl ?_
   refine zA ?_
   refine Ae (show Rd _ _ _ _ (.int .i64 ((8*i+Q6 z:Nat):Int)) from by (rw [show 8*i+Q6 z=8*i ||| Q6 z from A15 (i:=3) hb2 i];exact Apc rfl rfl (by omega) (by omega))) rfl ?_
   refine zI rfl (Apl (i:=8*i+Q6 z) (by omega)) ?_
   refine Ae (show Rd _ _ _ _ (.int .i64 ((s ^^^ Of (8*i+Q6 z):Nat):Int)) from Aa1 rfl rfl (by omega) (by omega)) rfl ?_
   refine zA ?_
   refine Ae (show Rd _ _ _ _ (bv (z - 1)) from Aus (b:=1) rfl rfl) rfl ?_
   refine Ae (show Rd _ _ _ _ (bv (z &&& (z - 1))) from by (unfold bv;rw [← Ami];exact Au rfl rfl rfl)) rfl ?_
   refine zC ?_
   exact ⟨(z &&& (z - 1),s ^^^ Of (8*i+Q6 z)),⟨h1,Agj h2 hpl⟩,hdr,lZ⟩
  ·skip
   have hz:z=0:=(by have:z.toNat=0:=(by grind);exact A2u this)
   subst hz
   rw [Aj6] at h1
   refine zC ?_
   have h3:N6 d (i+1)=s:=h1.symm
   rw [← h3]
   exact ⟨i+1,(by omega),(by omega),lZ⟩
 ·simp only [ A2m] at c9
  refine zC ?_
  refine Ak (Dj Tryz.results187 (Af rfl) (Af rfl)) ?_ sP
  have hi:i=256:=(by omega);simp only [Gs,M0,hi]
theorem Apm {n:Nat} (hn:n<4096):Does Tryz.prog 188 [.int .i64 (n:Nat)] [] (Is (.bool (decide (n &&& (n - 1)=0))) []):=by
 refine zF 8 Tryz.func188 ?_
 refine zA ?_
 refine Ae (show Rd _ _ _ _ (.int .i64 ((n:Int) - 1)) from Fw rfl rfl (by omega)) rfl ?_
 refine Ae (show Rd _ _ _ _ (.int .i64 ((n &&& (n - 1):Nat):Int)) from Agh rfl rfl hn) rfl ?_
 refine zC ?_
 refine Ak (Aw Tryz.results188 (Af rfl)) ?_ sP
 simp_all
theorem Apn {d:Dat}:Does Tryz.prog 189 [.agg (vbc d).toArray] [] (Is (.int .u16 (Dl d:Nat)) []):=by
 have hl:=M1 d 256 (A6h _)
 have ho:=Aa5 d 256
 have hp:Gv (Gs d)≤16:=Z6 _
 refine zF 20 Tryz.func189 ?_
 refine zC ?_
 refine Do rfl rfl (fun b1=> ?_)
 refine zC ?_
 refine zI rfl (Ail) ?_
 refine zA ?_
 refine Ae (Eu rfl (E4 .u64 rfl (by show _<2 ^ 64;unfold Gs;omega))) rfl ?_
 refine zI rfl (Auy hl) ?_
 refine Ae (show Rd _ _ _ _ (.int .i64 ((M0 d+Gv (Gs d):Nat):Int)) from Tu rfl rfl (by unfold M0;omega)) rfl ?_
 refine Ae (show Rd _ _ _ _ (.int .i64 (((M0 d+Gv (Gs d)) % 2:Nat):Int)) from by (rw [← Nat.and_one_is_mod];exact P9 (b:=1) rfl rfl (by unfold M0;omega) (by omega))) rfl ?_
 refine zC ?_
 refine Aa rfl (fun c15=> ?_) (fun c15=> ?_)
 ·skip
  have hc:Dl d=Gs d ||| 4096:=(by unfold Dl;rw [A6u (by grind)])
  refine zA ?_
  refine Ae (show Rd _ _ _ _ (.int .i64 ((Dl d:Nat):Int)) from by (rw [hc];exact Apc (b:=4096) rfl rfl (by unfold Gs;omega) (by omega))) rfl ?_
  refine zA ?_
  refine Ae (Eu (a:=Dl d) rfl (E4 .u16 rfl (by have:=Hw d;show _<65536;omega))) rfl ?_
  refine zC ?_
  exact zS
 ·skip
  have hc:Dl d=Gs d:=(by unfold Dl;rw [A6v (by grind)])
  rw [← hc]
  refine zA ?_
  refine Ae (Eu (a:=Dl d) rfl (E4 .u16 rfl (by have:=Hw d;show _<65536;omega))) rfl ?_
  refine zC ?_
  exact zS
theorem Ayu {d:Dat} {chk:Nat} (hk:chk<65536):Does Tryz.prog 144 [.agg (vbc d).toArray,.int .u16 (chk:Nat)] [] (Is (.tuple #[.agg (vbc (C3 d chk).1).toArray,.int .i64 (C3 d chk).2.1,.int .i64 (C3 d chk).2.2]) []):=by
 have hl:=M1 d 256 (A6h _)
 have ho:=Aa5 d 256
 have hp:=Z6 (chk &&& 8191)
 have ha:chk &&& 4095<4096:=Nat.and_lt_two_pow (n:=12) _ (by omega)
 have hs:Gs d ^^^ (chk &&& 4095)<4096:=Agj hl ha
 obtain ⟨S,hS⟩:∃ S,S=Gs d ^^^ (chk &&& 4095):=⟨_,rfl⟩
 rw [← hS] at hs
 refine zF 61 Tryz.func144 ?_
 refine zC ?_
 refine Do rfl rfl (fun b2=> ?_)
 refine Ah rfl (fun b4=> ?_)
 refine zC ?_
 refine zI rfl (Ail) ?_
 refine zA ?_
 refine Ae (Eu rfl (Aa3 (by omega))) rfl ?_
 refine Ae (show Rd _ _ _ _ (.int .i64 ((chk &&& 4095:Nat):Int)) from P9 (b:=4095) rfl rfl (by omega) (by omega)) rfl ?_
 refine Ae (show Rd _ _ _ _ (.int .i64 (S:Nat)) from by (rw [hS];exact Aa1 rfl rfl (by unfold Gs;omega) (by omega))) rfl ?_
 refine zA ?_
 refine Ae (show Rd _ _ _ _ (.int .u16 ((chk &&& 8191:Nat):Int)) from Adn (b:=8191) rfl rfl hk (by omega)) rfl ?_
 refine zI rfl (Y0 (n:=chk &&& 8191) (by have:chk &&& 8191≤chk:=A5f;omega)) ?_
 refine Ae (show Rd _ _ _ _ (.int .i64 ((M0 d+Gv (chk &&& 8191):Nat):Int)) from Tu rfl rfl (by unfold M0;omega)) rfl ?_
 refine Ae (show Rd _ _ _ _ (.int .i64 (((M0 d+Gv (chk &&& 8191)) % 2:Nat):Int)) from by (rw [← Nat.and_one_is_mod];exact P9 (b:=1) rfl rfl (by unfold M0;omega) (by omega))) rfl ?_
 refine zC ?_
 refine Aa rfl (fun c26=> ?_) (fun c26=> ?_)
 ·skip
  have e1:S=0∧(M0 d+Gv (chk &&& 8191)) % 2=0:=(by grind)
  have hres:C3 d chk=(d,0,0):=(by unfold C3;grind)
  refine zA ?_
  refine Ae (Ao rfl mM (by exact Ax)) rfl ?_
  refine Ac rfl rfl uD (B9) (Ai) (Bi (by first | exact Ai | exact A20 ..)) ?_
  refine zC ?_
  refine Ak (N1 Tryz.results144 (Bc rfl mM (by exact Ax)) (Af rfl) (Af rfl)) ?_ sP
  rw [hres]
 ·skip
  have e1:¬ (S=0∧(M0 d+Gv (chk &&& 8191)) % 2=0):=(by grind)
  refine zC ?_
  refine Aa rfl (fun c34=> ?_) (fun c34=> ?_)
  ·skip
   have e2:(M0 d+Gv (chk &&& 8191)) % 2=0:=(by grind)
   have hres:C3 d chk=(zeroD,0,21):=(by unfold C3;grind)
   refine zA ?_
   refine Ae (show Rd _ _ _ _ (.agg (vbc zeroD).toArray) from by (rw [← Vr];exact P3)) rfl ?_
   refine Ac rfl rfl uD (B9) (Ai) (Bi (by first | exact Ai | exact A20 ..)) ?_
   refine zC ?_
   refine Ak (N1 Tryz.results144 (Bc rfl mM (by exact Ax)) (Af rfl) (Af rfl)) ?_ sP
   rw [hres]
  ·skip
   have e2:¬ (M0 d+Gv (chk &&& 8191)) % 2=0:=(by grind)
   refine zC ?_
   refine zI rfl (Apm hs) ?_
   refine zC ?_
   refine Aa rfl (fun c38=> ?_) (fun c38=> ?_)
   ·simp only [A4f] at c38
    have hres:C3 d chk=(d,1,0):=(by unfold C3;grind)
    refine zA ?_
    refine Ae (Ao rfl mM (by exact Ax)) rfl ?_
    refine Ac rfl rfl uD (B9) (Ai) (Bi (by first | exact Ai | exact A20 ..)) ?_
    refine zC ?_
    refine Ak (N1 Tryz.results144 (Bc rfl mM (by exact Ax)) (Af rfl) (Af rfl)) ?_ sP
    rw [hres]
   ·simp only [ A2m] at c38
    have hn:=Ax1 _ hs c38
    refine zA ?_
    refine Ae (show Rd _ _ _ _ (.int .i64 ((S - 1:Nat):Int)) from by (rw [show ((S - 1:Nat):Int)=((S:Nat):Int) - 1 by omega];exact Fw rfl rfl (by omega))) rfl ?_
    refine zA ?_
    refine Ae (Eu rfl (E4 .u64 rfl (by show _<2 ^ 64;omega))) rfl ?_
    refine zI rfl (Apk hs) ?_
    refine Ae (show Rd _ _ _ _ (.int .i64 ((S - 1 - Tb S:Nat):Int)) from by (rw [show ((S - 1 - Tb S:Nat):Int)=((S - 1:Nat):Int) - ((Tb S:Nat):Int) by omega];exact Fw rfl rfl (by omega))) rfl ?_
    refine zC ?_
    refine Aa rfl (fun c49=> ?_) (fun c49=> ?_)
    ·simp only [A4f] at c49
     have hres:C3 d chk=(zeroD,0,21):=(by unfold C3;grind)
     refine zA ?_
     refine Ae (show Rd _ _ _ _ (.agg (vbc zeroD).toArray) from by (rw [← Vr];exact P3)) rfl ?_
     refine Ac rfl rfl uD (B9) (Ai) (Bi (by first | exact Ai | exact A20 ..)) ?_
     refine zC ?_
     refine Ak (N1 Tryz.results144 (Bc rfl mM (by exact Ax)) (Af rfl) (Af rfl)) ?_ sP
     rw [hres]
    ·simp only [ A2m] at c49
     have hres:C3 d chk=(Adr d (S - 1 - Tb S),1,0):=(by unfold C3;grind)
     generalize hI:S - 1 - Tb S=i at c49 hres ⊢
     have hi8:i / 8<256:=(by omega)
     have hfl:Adr d i=d.set (i / 8) (d[i / 8] ^^^ (1#8 <<< (i % 8))):=(by unfold Adr;rw [A6t hi8])
     refine zC ?_
     refine At [(9,[(0,false),(1,false),(2,false),(3,false),(4,false),(5,false),(6,false),(7,false),(8,false)]),(10,[(9,true)])] (by kernel_rfl) ?_
     refine zA ?_
     refine Aj (show Rd _ _ _ _ (.int .i64 ((i / 8:Nat):Int)) from Qa (m:=3) rfl rfl rfl (by decide)) ?_
     refine Aj (Fi rfl rfl (by omega)) ?_
     refine Aj (Al rfl mM (show nth (vbc d) (i / 8*1)=some (bv d[i / 8]) by rw [A6i];exact Ft (p:=d) hi8)) ?_
     refine zA ?_
     refine Aj (show Rd _ _ _ _ (.int .i64 ((i % 8:Nat):Int)) from by (rw [← A1z i 3];exact P9 (b:=7) rfl rfl (by omega) (by omega))) ?_
     refine Aj (show Rd _ _ _ _ (bv (1#8 <<< (i % 8))) from Aa2 rfl rfl (by omega)) ?_
     refine Aj (show Rd _ _ _ _ (bv (d[i / 8] ^^^ (1#8 <<< (i % 8)))) from by (unfold bv;rw [← Axh];exact Au rfl rfl rfl)) ?_
     refine Aj (Fi rfl rfl (by omega)) ?_
     refine zA ?_
     refine Ac (cs':=vbc (Adr d i)) rfl rfl uD rfl rfl (show A7 (vbc d) (i / 8*1) [bv (d[i / 8] ^^^ (1#8 <<< (i % 8)))]=_ by rw [A6i,hfl];exact Lr (p:=d) hi8 _) ?_
     refine zA ?_
     refine Ae (Ao rfl mM (by exact Ax)) rfl ?_
     refine Ac rfl rfl uD (B9) (Ai) (Bi (by first | exact Ai | exact A20 ..)) ?_
     refine zC ?_
     refine Ak (N1 Tryz.results144 (Bc rfl mM (by exact Ax)) (Af rfl) (Af rfl)) ?_ sP
     rw [hres]
end
section
open Go.K
instance zer23:Zer Tryz.prog 23 ([.slice none 0 0]):=⟨by kernel_rfl⟩
theorem Re {p:Pg}:Does Tryz.prog 142 [.agg (vbc p).toArray] [] (Is (.bool (Bh p)) []):=by
 refine zF 18 Tryz.func142 ?_
 refine zC ?_
 refine Do rfl rfl (fun b1=> ?_)
 refine zA ?_
 refine Ae (Ao rfl mM (by exact Ax)) rfl ?_
 refine zC ?_
 refine Dw [6] kQ (fun (i:Nat)=>[(7,.int .i64 i),(3,.int .i64 (K9 p i:Nat))]) (fun i=>i≤258) (fun i=>258 - i) ((0:Nat)) (A6j _) kP ?_
 rintro i h0
 refine zC ?_
 refine Aa rfl (fun c8=> ?_) (fun c8=> ?_)
 ·simp only [A4f] at c8
  have hi:i<258:=(by omega)
  have hd:p.toList.getD i 0=p[i]:=(by grind)
  have hz:=Mg p i
  have hle:=Ajt p i
  have hp8:=Lc (~~~ (p.toList.getD i 0))
  rw [hd] at hz hp8
  refine zC ?_
  refine Ae (show Rd _ _ _ _ (bv p[i]) from Aod rfl rfl (by omega) (show nth (vbc p) (i*1)=_ by rw [A6i];exact Ft hi)) rfl ?_
  refine zA ?_
  refine Ae (Ak5 rfl) rfl ?_
  refine zI rfl (Ab2) ?_
  refine Ae (show Rd _ _ _ _ (.int .i64 ((K9 p (i+1):Nat):Int)) from by (rw [hz];exact Tu rfl rfl (by omega))) rfl ?_
  refine zC ?_
  exact ⟨i+1,(by omega),(by omega),lZ⟩
 ·simp only [ A2m] at c8
  refine zC ?_
  refine Ak (Aw Tryz.results142 (Af rfl)) ?_ sP
  rw [show i=258 by omega];exact A6r Value.bool (A4x.2 (by omega))
theorem Xq {b:Nat} {s:Sl By} {L:Hp}:((b,true,C [s.val] tSB)::(s.hp tU8++L))=(Sl.own b [s] 1 [] ⟨by simp,A6h _,by simp⟩:Sl (Sl By)).hp tSB++(Dg [s]++L):=by
 rw [Sl.hp_own,Cs,Hx]
 simp only [A34]
 rfl
theorem Ab9 {n:Nat} {p:Vector By n} {o m:Nat}:Pm (vbc p) o ((p.toList.drop o).take m):=fun i x hx=>by
 have hx':=Ur hx
 rw [A3v] at hx'
 have hlt:o+i<n:=by have:=(List.getElem?_eq_some_iff.1 hx').1;grind
 refine cut_iff.2 ⟨?_,by rw [Ai];simp only [Cel.sz];omega⟩
 simp only [Cel.sz,A6i,Cel.cs]
 have h1:(vbc p)[o+i]? =some (bv x):=by rw [vbc,A38,hx'];rfl
 have hl:o+i<(vbc p).length:=by rw [Ai];exact hlt
 rw [A2d hl,A3m,List.take_zero]
 have:=A2i hl
 rw [h1] at this
 rw [A5i this]
def Ly {n:Nat} (b:Nat) (p:Vector By n) (o m cap:Nat) (T:TypeId) (h:min m (n - o)≤cap∧n≤1000):Sl By :=
 .view b o true (vbc p) T (0,0) ((p.toList.drop o).take m) cap ⟨Ab9,by grind,by grind⟩
theorem J8 {n b o m cap:Nat} {p:Vector By n} {T:TypeId} {h} (hm:o+m≤n):(Ly b p o m cap T h).val= .slice (some ⟨b,o,none⟩) m cap:=by
 have:((p.toList.drop o).take m).length=m:=by grind
 show Value.slice (some ⟨b,o,none⟩) ((p.toList.drop o).take m).length cap=_
 rw [this]
theorem Mh {n b o m cap:Nat} {p:Vector By n} {T U:TypeId} {h}:(Ly b p o m cap T h).hp U=[(b,true,C (vbc p) T)]:=by unfold Ly;rw [Sl.hp_view]
theorem Hk {n b o m cap:Nat} {p:Vector By n} {T:TypeId} {h}:(Ly b p o m cap T h).list=(p.toList.drop o).take m:=rfl
theorem As3 {b33 b7:Nat} {d:Dat}:Does Tryz.prog 93 [.slice (some ⟨b33,0,none⟩) 1 1] [(b33,true,C [.slice (some ⟨b7,0,none⟩) 252 256] tSB),(b7,true,C (vbc d) tDa)] (Is (uv (Awy d)) [(b33,true,C [.slice (some ⟨b7,0,none⟩) 252 256] tSB),(b7,true,C (vbc d) tDa)]):=by
 have h:=Api (q:= .own b33 [Ly b7 d 0 252 256 tDa (by omega)] 1 [] ⟨by simp,A6h _,by simp⟩)
 have e:=Xq (b:=b33) (s:=Ly b7 d 0 252 256 tDa (by omega)) (L:=[])
 rw [J8 (by omega),Mh] at e
 have e2:(Sl.own b33 [Ly b7 d 0 252 256 tDa (by omega)] 1 [] ⟨by simp,A6h _,by simp⟩:Sl (Sl By)).list=[Ly b7 d 0 252 256 tDa (by omega)]:=rfl
 rw [e2,← e] at h
 exact h
theorem As4 (n:Nat):IntKind.u8.wrap (n:Int)=((BitVec.ofNat 8 n).toNat:Int):=by
 rw [Ej .u8 rfl,A26];rfl
theorem Amy (n:Nat):IntKind.u64.wrap (n:Int)=((BitVec.ofNat 64 n).toNat:Int):=by
 rw [Ej .u64 rfl,A26];rfl
theorem As5 {n:Nat} {p:Vector By n}:cut (vbc p) 0 (n*1)=some (cells p.toList):=by
 rw [A6i,Mo];exact Ax
theorem Od {kind:By} {q:Sl (Sl By)} (hl:(Ba q.list).length≤70000000000000):Does Tryz.prog 145 [bv kind,q.val] (q.hp tSB++(Dg q.list++[]))
  (Is (.tuple #[.agg (vbc (Cw kind (Ba q.list)).1).toArray,.int .i64 (Cw kind (Ba q.list)).2]) (q.hp tSB++(Dg q.list++[]))):=by
 refine zF 48 Tryz.func145 ?_
 refine zC ?_
 refine Ah rfl (fun b4=> ?_)
 rw [Cc]
 refine zC ?_
 refine zE rfl (Adt hl) ?_
 rintro _ _ ⟨s9,rfl,rfl,hs9,ho9⟩
 refine zW ?_
 refine Aa rfl (fun c20=> ?_) (fun c20=> ?_)
 ·skip
  have hres:Cw kind (Ba q.list)=(Ku,1):=(by unfold Cw;rw [A6v (by rw [← hs9];exact c20)])
  refine zA ?_
  refine Ae (Ao rfl mM (by exact Ax)) rfl ?_
  refine Ac rfl rfl uD (B9) (Ai) (Bi (by first | exact Ai | exact A20 ..)) ?_
  refine zC ?_
  refine Ak (Dj Tryz.results145 (Bc rfl mM (by exact Ax)) (Af rfl)) ?_ sP
  rw [← hs9];rw [hs9,hres]
 ·skip
  have hres:Cw kind (Ba q.list)=(Cj kind (Ba q.list),0):=(by unfold Cw;rw [A6u (by unfold Cv;rw [← hs9,c20];grind)])
  have hlen:s9.list.length≤240:=(by grind)
  obtain ⟨body,hb⟩:∃ body,body=s9.list:=⟨_,rfl⟩
  rw [← hb] at hlen
  rw [← hs9,← hb] at hres
  refine zC ?_
  refine Ah rfl (fun b7=> ?_)
  rw [Vr]
  iterate 7 refine sb ?_
  refine Ae (show Rd _ _ _ _ (bv (BitVec.ofNat 8 s9.list.length)) from by (unfold bv;rw [← As4];exact Dv rfl)) rfl ?_
  refine Ae (Fi rfl rfl (by omega)) rfl ?_
  refine Ac (cs':=vbc (zeroD.set 0 kind)) rfl rfl uD rfl rfl (Lr (by omega) kind) ?_
  refine Ae (Fi rfl rfl (by omega)) rfl ?_
  refine Ac (cs':=vbc ((zeroD.set 0 kind).set 1 (BitVec.ofNat 8 s9.list.length))) rfl rfl uD rfl rfl (Lr (by omega) _) ?_
  refine zC ?_
  refine Ae (C1 (i:=2) (j:=256) rfl ⟨_,rfl⟩ rfl (by omega)) rfl ?_
  refine zC ?_
  refine Hq (cs':=vbc (Ajs kind body)) rfl rfl (Jz pL) (by rw [← hb];omega) uD (by rw [← hb];exact Th (by omega)) (Gp _) rfl ?_
  refine zC ?_
  refine At [(6,[(0,false),(1,false),(2,true),(3,true),(4,false),(5,true)]),(7,[(6,true)])] (by kernel_rfl) ?_
  refine zC ?_
  refine Aj (C1 (i:=252) (j:=256) rfl ⟨_,rfl⟩ rfl (by omega)) ?_
  refine Aj (C1 (i:=0) (j:=252) rfl rfl ⟨_,rfl⟩ (by omega)) ?_
  refine zC ?_
  refine Am rfl rfl rfl rfl (fun b33=> ?_)
  refine zC ?_
  refine zI rfl (As3) ?_
  refine zA ?_
  refine Aj (Ak6 rfl) ?_
  refine zC ?_
  refine zE rfl (Gg) ?_
  rintro _ _ ⟨s36,rfl,rfl,hs36,ho36⟩
  refine zW ?_
  refine Hq (cs':=vbc (K8 kind body)) rfl rfl (Jz pL) (by rw [hs36,A4];decide) uD (by rw [hs36];exact Th (by rw [A4];decide)) (Gp _) rfl ?_
  refine zC ?_
  refine At [(2,[(0,false),(1,false)]),(3,[(2,true)])] (by kernel_rfl) ?_
  refine zC ?_
  refine Aj (C1 (i:=0) (j:=258) rfl rfl rfl (by omega)) ?_
  refine Aj (C1 (i:=0) (j:=256) rfl rfl rfl (by omega)) ?_
  refine zC ?_
  refine Hq (cs':=vbc (Ab7 Ku 0 (K8 kind body).toList)) rfl rfl (Ck (r:=true) mM As5) (by decide) uD (Th (by simp)) (Gp _) rfl ?_
  refine zC ?_
  refine At [(5,[(0,false),(1,false),(2,true),(3,false),(4,true)]),(6,[(5,true)])] (by kernel_rfl) ?_
  refine zC ?_
  refine Aj (C1 (i:=256) (j:=258) rfl ⟨_,rfl⟩ rfl (by omega)) ?_
  refine Aj (Ao rfl mM (by exact Ax)) ?_
  refine zC ?_
  refine zI rfl (Apn) ?_
  refine zA ?_
  refine Aj (show Rd _ _ _ _ (wv (BitVec.ofNat 64 (Dl (K8 kind body)))) from Gf (Amy _) rfl) ?_
  refine zC ?_
  refine zE rfl (Gg (x:=BitVec.ofNat 64 (Dl (K8 kind body)))) ?_
  rintro _ _ ⟨s45,rfl,rfl,hs45,ho45⟩
  refine zW ?_
  refine Hq (cs':=vbc (Cj kind body)) rfl rfl (Jz pL) (by rw [hs45,A4];decide) uD (by rw [hs45];exact Th (by rw [A4];decide)) (Gp _) rfl ?_
  refine zA ?_
  refine Ae (Ao rfl mM (by exact Ax)) rfl ?_
  refine Ac rfl rfl uD (B9) (Ai) (Bi (by first | exact Ai | exact A20 ..)) ?_
  refine zC ?_
  refine Ak (Dj Tryz.results145 (Bc rfl mM (by exact Ax)) (Af rfl)) ?_ sP
  rw [← hs9];grind
theorem Aca {b:Nat} {p:Pg}:Does Tryz.prog 102 [.slice (some ⟨b,256,none⟩) 2 2] [(b,true,C (vbc p) tPg)] (fun v H=>∃ r:Rdr,v=ptr r.b∧H=rdH r++([(b,true,C (vbc p) tPg)]++[])∧r.sl.list=(p.toList.drop 256).take 2∧r.bad=false):=by
 have h:=Fj (s:=Ly b p 256 2 2 tPg (by omega)) (T:=tPg) (by rw [Hk,A4s];omega)
 rw [J8 (by omega),Mh,Hk] at h
 exact h
theorem As6 {b n:Nat} {d:Dat} (hn:n≤240):Does Tryz.prog 56 [.slice (some ⟨b,2,none⟩) n 254] [(b,true,C (vbc d) tDa)] (fun v H=>∃ s:Sl By,v=s.val∧H=s.hp tU8++([(b,true,C (vbc d) tDa)]++[])∧s.list=(d.toList.drop 2).take n∧s.isOwn=true):=by
 have h:=Qe (s:=Ly b d 2 n 254 tDa (by omega)) (T:=tDa) (by rw [Hk,A4s];omega)
 rw [J8 (by omega),Mh,Hk] at h
 exact h
theorem Amz {s t:Sl By} {T U:TypeId}:Does Tryz.prog 146 [s.val,t.val] (s.hp T++(t.hp U++[])) (Is (.bool (decide (s.list=t.list))) (s.hp T++(t.hp U++[]))):=by
 refine zF 10 Tryz.func146 ?_
 refine zA ?_
 refine Ae (H6 (T:=T) rfl (PickL.toSub pL)) rfl ?_
 refine zA ?_
 refine Ae (H6 (T:=U) rfl (PickL.toSub pL)) rfl ?_
 refine Ae (Acu rfl rfl) rfl ?_
 refine zC ?_
 exact zS
theorem Ahm {b c:Nat} {p:Pg} {d:Dat}:Does Tryz.prog 146 [.slice (some ⟨b,0,none⟩) 256 258,.slice (some ⟨c,0,none⟩) 256 256] [(b,true,C (vbc p) tPg),(c,true,C (vbc d) tDa)] (Is (.bool (decide (p.toList.take 256=d.toList))) [(b,true,C (vbc p) tPg),(c,true,C (vbc d) tDa)]):=by
 have h:=Amz (s:=Ly b p 0 256 258 tPg (by omega)) (t:=Ly c d 0 256 256 tDa (by omega)) (T:=tPg) (U:=tDa)
 rw [J8 (by omega),J8 (by omega),Mh,Mh,Hk,Hk,A5l,A5l,A2s (l:=d.toList) (by simp)] at h
 exact h
theorem J9 {b:Nat} {kind:By} {s:Sl By} (hl:s.list.length≤70000000000000):Does Tryz.prog 145 [bv kind,.slice (some ⟨b,0,none⟩) 1 1] ((b,true,C [s.val] tSB)::(s.hp tU8++[]))
  (Is (.tuple #[.agg (vbc (Cw kind s.list).1).toArray,.int .i64 (Cw kind s.list).2]) ((b,true,C [s.val] tSB)::(s.hp tU8++[]))):=by
 have e2:(Sl.own b [s] 1 [] ⟨by simp,A6h _,by simp⟩:Sl (Sl By)).list=[s]:=rfl
 have e3:Ba [s]=s.list:=by simp [Ba]
 have h:=Od (kind:=kind) (q:= .own b [s] 1 [] ⟨by simp,A6h _,by simp⟩) (by rw [e2,e3];exact hl)
 have e:=Xq (b:=b) (s:=s) (L:=[])
 rw [e2,← e,e3] at h
 exact h
theorem Ajv {b:Nat} {kind:By}:Does Tryz.prog 145 [bv kind,.slice (some ⟨b,0,none⟩) 1 1] [(b,true,C [.slice none 0 0] tSB)]
  (Is (.tuple #[.agg (vbc (Cw kind []).1).toArray,.int .i64 (Cw kind []).2]) [(b,true,C [.slice none 0 0] tSB)]):=by
 have h:=J9 (b:=b) (kind:=kind) (s:= .nil) (by decide)
 rw [Sl.hp_nil] at h
 exact h
theorem Axn {E:Env} {H:Hp} {x lo hi:Operand} {b n:Nat} (hx:ev E x=some (.pointer (some ⟨b,0,none⟩))) (hlo:ev E lo=some (.int .i64 2)) (hhi:ev E hi=some (.int .i64 ((2+n:Nat):Int))) (hn:n≤240) :
  Rd Tryz.prog E H (.slice tDa x (some lo) (some hi) none) (.slice (some ⟨b,2,none⟩) n 254):=by
 have:=C1 (P:=Tryz.prog) (H:=H) (t:=tDa) (i:=2) (j:=2+n) hx (lo:=some lo) (hi:=some hi) ⟨_,hlo⟩ ⟨_,hhi⟩ (by omega)
 rwa [show 2+n - 2=n by omega] at this
theorem Ka {p:Pg}:Does Tryz.prog 101 [.agg (vbc p).toArray] [] (fun v H=>∃ s:Sl By,v= .tuple #[bv (Bf p).1,s.val,.int .i64 (Bf p).2.2.1,.int .i64 (Bf p).2.2.2]∧H=s.hp tU8++[]∧s.list=(Bf p).2.1∧s.isOwn=true):=by
 have hck:=Amw p
 have hfl:=As2 (Il p) (Dt p)
 have hpn:=Z6 (Dt p &&& 57344)
 have hck2:Dt p &&& 57344<65536:=Nat.lt_of_le_of_lt A5f hck
 refine zF 71 Tryz.func101 ?_
 refine zC ?_
 refine Do rfl rfl (fun b1=> ?_)
 refine zA ?_
 refine Ae (Ao rfl mM (by exact Ax)) rfl ?_
 refine zI rfl (Re) ?_
 refine zC ?_
 refine Aa rfl (fun c14=> ?_) (fun c14=> ?_)
 ·skip
  have hres:=El c14
  refine zC ?_
  exact Bb (Py Tryz.results101 (Af rfl) (Af rfl) (Af rfl) (Af rfl)) (by refine ⟨Sl.nil,?_,rfl,?_,rfl⟩ <;> rw [hres] <;> rfl) (by rw [Sl.hp_nil];exact sP)
 ·skip
  have hb:Bh p=false:=c14
  refine zC ?_
  refine Ae (C1 (i:=256) (j:=258) rfl ⟨_,rfl⟩ rfl (by omega)) rfl ?_
  refine zE rfl (Aca) ?_
  rintro _ _ ⟨r16,rfl,rfl,hr16,hbad16⟩
  refine A6 aQ ?_
  refine zE rfl (Fk (n:=2) (by rw [hr16,A4s];omega)) ?_
  rintro _ _ ⟨x17,sl17,bad17,rfl,rfl,hx17,hsl17,hbb17⟩
  refine A6 aQ ?_
  refine Ae (show Rd _ _ _ _ (.int .u16 ((Dt p:Nat):Int)) from by (rw [hr16,show A8 2 8=2 from rfl] at hx17;unfold C2 at hx17;rw [A6u (by rw [A4s,A4r,A3d];decide)] at hx17;rw [Dt,← show x17=Ec ((p.toList.drop 256).take 2) 2 from by grind];exact Gf (As1 _) rfl)) rfl ?_
  refine zA ?_
  refine Ae (show Rd _ _ _ _ (.int .u16 ((Dt p &&& 57344:Nat):Int)) from by (rw [← Amx hck];exact Au rfl rfl rfl)) rfl ?_
  refine zI rfl (Y0 hck2) ?_
  refine zC ?_
  refine Aa rfl (fun c23=> ?_) (fun c23=> ?_)
  ·simp only [A4f] at c23
   have hres:=So hb (by omega)
   refine zC ?_
   exact Bb (Py Tryz.results101 (Af rfl) (Af rfl) (Af rfl) (Af rfl)) (by refine ⟨Sl.nil,?_,rfl,?_,rfl⟩ <;> rw [hres] <;> rfl) (by rw [Sl.hp_nil];exact sP)
  ·simp only [ A2m] at c23
   have hab:¬ 1<Gv (Dt p &&& 57344):=(by omega)
   obtain ⟨f,hf⟩:∃ f,C3 (Il p) (Dt p)=f:=⟨_,rfl⟩
   rw [hf] at hfl
   refine zC ?_
   refine Ae (C1 (i:=0) (j:=256) rfl rfl ⟨_,rfl⟩ (by omega)) rfl ?_
   refine Ae (Ax4 rfl (by decide)) rfl ?_
   refine Ae (Ao rfl mM (As0 p)) rfl ?_
   refine zC ?_
   refine zI rfl ((Ayu (d:=Il p) hck).to (by rw [hf]) rfl) ?_
   refine zC ?_
   refine Ah rfl (fun b8=> ?_)
   refine Ac rfl rfl uD (B9) (Ai) (Bi (by first | exact Ai | exact A20 ..)) ?_
   refine zC ?_
   refine Aa rfl (fun c34=> ?_) (fun c34=> ?_)
   ·skip
    have hres:=Aju hb hab (by rw [hf];grind)
    rw [hf] at hres
    refine zC ?_
    exact Bb (Py Tryz.results101 (Af rfl) (Af rfl) (Af rfl) (Af rfl)) (by refine ⟨Sl.nil,?_,rfl,?_,rfl⟩ <;> rw [hres] <;> rfl) (by rw [Sl.hp_nil];exact sP)
   ·skip
    have he:f.2.2=0:=(by grind)
    have hd1:=f.1[1].isLt
    iterate 5 refine sb ?_
    refine Ae (Al rfl mM (show nth (vbc f.1) 1=some (bv f.1[1]) from Ft (by decide))) rfl ?_
    refine Ae (show Rd _ _ _ _ (.int .i64 ((f.1[1].toNat:Nat):Int)) from Eu rfl (Aa3 (by omega))) rfl ?_
    refine zC ?_
    refine Aa rfl (fun c40=> ?_) (fun c40=> ?_)
    ·simp only [A4f] at c40
     have hbody:Gy f.1=(f.1.toList.drop 2).take f.1[1].toNat:=(by unfold Gy;rw [A6v (by omega)])
     refine zA ?_
     refine Ae (show Rd _ _ _ _ (.int .i64 ((2+f.1[1].toNat:Nat):Int)) from Tu (a:=2) rfl rfl (by omega)) rfl ?_
     refine Ae (Axn rfl rfl rfl (by omega)) rfl ?_
     refine zE rfl (As6 (n:=f.1[1].toNat) (by omega)) ?_
     rintro _ _ ⟨s44,rfl,rfl,hs44,ho44⟩
     refine A6 aQ ?_
     iterate 6 refine sb ?_
     refine Ae (Al rfl mM (show nth (vbc f.1) 0=some (bv f.1[0]) from Ft (by decide))) rfl ?_
     refine zC ?_
     refine Am rfl rfl rfl rfl (fun b49=> ?_)
     refine zI rfl ((by exact J9 (s:=s44) (by rw [hs44,A4s];omega))) ?_
     refine zC ?_
     refine Ah rfl (fun b12=> ?_)
     refine Ac rfl rfl uD (B9) (Ai) (Bi (by first | exact Ai | exact A20 ..)) ?_
     refine zC ?_
     refine At [(6,[(0,false),(1,false),(2,false),(3,false),(4,false),(5,false)]),(12,[(6,false),(7,false),(8,false),(9,true),(10,false),(11,false)])] (by kernel_rfl) ?_
     iterate 4 refine sb ?_
     refine sg ?_
     iterate 3 refine sa ?_
     refine' Lz rfl rfl inferInstance rfl rfl rfl rfl rfl (fun hg59=> ?_) ?_
     rotate_left
     ·try (simp at hg59;show _)
      refine zC ?_
      refine Aj (C1 (i:=0) (j:=256) rfl rfl ⟨_,rfl⟩ (by omega)) ?_
      refine zC ?_
      refine Aj (C1 (i:=0) (j:=256) rfl rfl rfl (by omega)) ?_
      refine zC ?_
      refine zI rfl (Ahm) ?_
      refine zA ?_
      refine Aj (D5 rfl) ?_
      exact D9 rfl sP
     refine zC ?_
     refine Aa rfl (fun c64=> ?_) (fun c64=> ?_)
     ·skip
      refine zC ?_
      exact Bb (Py Tryz.results101 (Af rfl) (Af rfl) (Af rfl) (Af rfl)) (by have h4:=Az6 c64;rw [hs44,← hbody] at h4;have hres:=Xp hf hb hab he (by grind);refine ⟨Sl.nil,?_,rfl,?_,rfl⟩ <;> rw [hres] <;> rfl) (by rw [Sl.hp_nil];exact sP)
     ·skip
      iterate 5 refine sb ?_
      refine Ae (Al rfl mM (show nth (vbc f.1) 0=some (bv f.1[0]) from Ft (by decide))) rfl ?_
      refine zC ?_
      exact zL (hR:=by have h4:=Awz c64;rw [hs44,← hbody] at h4;have hres:=Ab8 hf hb hab he (by grind);refine ⟨s44,?_,rfl,?_,ho44⟩ <;> rw [hres];rw [hs44,hbody])
    ·simp only [ A2m] at c40
     have hbody:Gy f.1=[]:=(by unfold Gy;rw [A6u (by omega)])
     iterate 5 refine sb ?_
     refine Ae (Al rfl mM (show nth (vbc f.1) 0=some (bv f.1[0]) from Ft (by decide))) rfl ?_
     refine zC ?_
     refine Am rfl rfl rfl rfl (fun b49=> ?_)
     refine zI rfl ((by exact Ajv)) ?_
     refine zC ?_
     refine Ah rfl (fun b12=> ?_)
     refine Ac rfl rfl uD (B9) (Ai) (Bi (by first | exact Ai | exact A20 ..)) ?_
     refine zC ?_
     refine At [(6,[(0,false),(1,false),(2,false),(3,false),(4,false),(5,false)]),(12,[(6,false),(7,false),(8,false),(9,true),(10,false),(11,false)])] (by kernel_rfl) ?_
     iterate 4 refine sb ?_
     refine sg ?_
     iterate 3 refine sa ?_
     refine' Lz rfl rfl inferInstance rfl rfl rfl rfl rfl (fun hg59=> ?_) ?_
     rotate_left
     ·try (simp at hg59;show _)
      refine zC ?_
      refine Aj (C1 (i:=0) (j:=256) rfl rfl ⟨_,rfl⟩ (by omega)) ?_
      refine zC ?_
      refine Aj (C1 (i:=0) (j:=256) rfl rfl rfl (by omega)) ?_
      refine zC ?_
      refine zI rfl (Ahm) ?_
      refine zA ?_
      refine Aj (D5 rfl) ?_
      exact D9 rfl sP
     refine zC ?_
     refine Aa rfl (fun c64=> ?_) (fun c64=> ?_)
     ·skip
      refine zC ?_
      exact Bb (Py Tryz.results101 (Af rfl) (Af rfl) (Af rfl) (Af rfl)) (by have hres:=Xp hf hb hab he (.inr (.inl (by omega)));refine ⟨Sl.nil,?_,rfl,?_,rfl⟩ <;> rw [hres] <;> rfl) (by rw [Sl.hp_nil];exact sP)
     ·skip
      iterate 5 refine sb ?_
      refine Ae (Al rfl mM (show nth (vbc f.1) 0=some (bv f.1[0]) from Ft (by decide))) rfl ?_
      refine zC ?_
      exact zL (hR:=by exfalso;have h4:=Awz c64;omega)
end
section
open Go.K
instance agg225:Agg Tryz.prog 225 true:=⟨⟨_,Tryz.underlying225,rfl⟩⟩
instance siz225:Siz Tryz.prog 225 2:=⟨by kernel_rfl⟩
instance zer3:Zer Tryz.prog 3 ([.int .i64 0]):=⟨by kernel_rfl⟩
instance zer29:Zer Tryz.prog 29 ([.int .u64 0]):=⟨by kernel_rfl⟩
instance zer225:Zer Tryz.prog 225 ([.slice none 0 0,.slice none 0 0]):=⟨by kernel_rfl⟩
instance fld225_0:Fld Tryz.prog 225 0 0:=⟨⟨_,_,0,Tryz.underlying225,rfl,by kernel_rfl,rfl⟩⟩
instance fld225_1:Fld Tryz.prog 225 1 1:=⟨⟨_,_,0,Tryz.underlying225,rfl,by kernel_rfl,rfl⟩⟩
instance plc225:Plc Tryz.prog 225 [(0,1),(1,1)]:=⟨⟨_,Tryz.underlying225,fun _=>by kernel_rfl⟩⟩
instance byt3:Byt Tryz.prog 3 8:=⟨by kernel_rfl⟩
abbrev tPl:TypeId:=225
abbrev tTb:TypeId:=227
theorem Ag3 {c:Chip}:Does Tryz.prog 168 [ptr c.aC] (chH c) (Is (.int .i64 (B0 c 0 0)) (chH c)):=by
 refine zF 11 Tryz.func168 ?_
 refine zC ?_
 refine zI rfl (Aaw) ?_
 refine zC ?_
 refine Ah rfl (fun b3=> ?_)
 refine Ac rfl rfl uD (B9) (Ai) (Bi (by first | exact Ai | exact A20 ..)) ?_
 refine zC ?_
 exact zS
theorem Ay9 {x:Int}:Does Tryz.prog 215 [.int .i64 x] [] (Is (.bool false) []):=by
 refine zF 6 Tryz.func215 ?_
 refine zC ?_
 refine Ak (Aw Tryz.results215 (Af rfl)) ?_ sP
 simp
theorem Av3 {x y:Int}:Does Tryz.prog 178 [.int .i64 x,.int .i64 y] [] (Is (.bool (decide (x<y))) []):=by
 refine zF 17 Tryz.func178 ?_
 refine zC ?_
 refine zI rfl (Ay9) ?_
 refine sa ?_
 refine' G4 (u:=false) rfl rfl inferInstance rfl rfl rfl rfl rfl (fun hg7=>absurd hg7 (by simp)) ?_
 refine zC ?_
 refine Ak (Aw Tryz.results178 (Af rfl)) ?_ sP
 simp
theorem T1 {α:Type} [Cel α] {s:Sl α} (h:s.isOwn=true):s.off=0:=by cases s <;> first | rfl | simp [Sl.isOwn] at h
theorem Al0 {l:List Int} {i j:Nat} {a b:Int} (hi:l[i]? =some a) (hj:l[j]? =some b):((l.set i b).set j a).Perm l:=by
 grind
theorem Abk {s:Sl Int} (ho:s.isOwn=true):Does Tryz.prog 172 [s.val,.int .i64 0,.int .i64 s.list.length] (s.hp tI++[]) (fun v H=>v= .tuple #[]∧∃ s':Sl Int,H=s'.hp tI++[]∧s'.val=s.val∧s'.isOwn=true∧s'.list.Perm s.list):=by
 have hsm:=s.small
 refine zF 49 Tryz.func172 ?_
 refine zC ?_
 refine Ar [0,1,2] kQ (fun (st:Int×Sl Int)=>[(6,.int .i64 st.1)]) (fun st=>(st.2.hp tI++[])) (fun st=>1≤st.1∧st.2.val=s.val∧st.2.isOwn=true∧st.2.list.Perm s.list) (fun st=>((s.list.length:Int) - st.1).toNat) ((0+1,s)) ⟨by omega,rfl,ho,List.Perm.refl _⟩ kP sP ?_
 rintro ⟨i,s1⟩ ⟨h0,h1,h2,h3⟩
 refine zC ?_
 refine Aa rfl (fun c12=> ?_) (fun c12=> ?_)
 ·simp only [A4f] at c12
  refine zC ?_
  refine Ar [0,1,2,6] kQ (fun (st:Int×Sl Int)=>[(7,.int .i64 st.1)]) (fun st=>(st.2.hp tI++[])) (fun st=>0≤st.1∧st.1≤i∧st.2.val=s.val∧st.2.isOwn=true∧st.2.list.Perm s.list) (fun st=>st.1.toNat) ((i,s1)) ⟨by omega,A6g _,h1,h2,h3⟩ kP sP ?_
  rintro ⟨j,s2⟩ ⟨k0,k1,k2,k3,k4⟩
  have hlen:s2.list.length=s.list.length:=k4.length_eq
  have hoff:=T1 k3
  refine zC ?_
  refine At [(3,[(0,false),(1,false),(2,false)]),(15,[(3,false),(4,false),(5,false),(6,false),(7,false),(8,false),(9,false),(10,false),(11,false),(12,false),(13,true),(14,false)])] (by kernel_rfl) ?_
  iterate 7 refine sb ?_
  refine' Fe rfl rfl inferInstance rfl rfl rfl rfl rfl (fun hg19=> ?_) ?_
  rotate_left
  ·try (simp at hg19;show _)
   refine zA ?_
   refine Aj (Az (s:=s2) (by rw [k2];rfl) rfl ⟨k0,by omega⟩) ?_
   refine zA ?_
   refine Aj (Ca (s:=s2) (o:=0) rfl pL (Io k0 (by omega)) rfl rfl) ?_
   refine zA ?_
   refine Aj (Fw rfl rfl (by omega)) ?_
   refine zA ?_
   refine Aj (Az (s:=s2) (by rw [k2];rfl) rfl ⟨by omega,by omega⟩) ?_
   refine zA ?_
   refine Aj (Ca (s:=s2) (o:=0) rfl pL (Io (i:=j - 1) (by omega) (by omega)) rfl rfl) ?_
   refine zC ?_
   refine zI rfl (Av3) ?_
   refine zC ?_
   exact D9 rfl sP
  refine zC ?_
  refine Aa rfl (fun c30=> ?_) (fun c30=> ?_)
  ·skip
   have hj:0<j:=(by grind)
   have ga:=Io (xs:=s2.list) k0 (by omega)
   have gb:=Io (xs:=s2.list) (i:=j - 1) (by omega) (by omega)
   obtain ⟨s3,hs3⟩:∃ s3,s3=s2.set j.toNat (at0 s2.list (j - 1)):=⟨_,rfl⟩
   have q1:s3.val=s.val:=(by rw [hs3,Sl.set_val,k2])
   have q2:s3.list=s2.list.set j.toNat (at0 s2.list (j - 1)):=(by rw [hs3,Sl.set_list _ _ _ k3])
   have q3:s3.isOwn=true:=(by rw [hs3];exact Sl.set_isOwn _ _ _ k3)
   have q4:s3.list[(j - 1).toNat]? =some (at0 s2.list (j - 1)):=(by rw [q2,A28 (by omega)];exact gb)
   refine zC ?_
   refine G5 [0,1,2,3,4,5,6,7,8,10,11,12] [[(9,false),(13,false)],[(14,false)],[(15,true)],[(16,false)],[(17,true)]] (by kernel_rfl) ?_
   refine zA ?_
   refine Aj (Fw rfl rfl (by omega)) ?_
   refine zA ?_
   refine Aj (Fw rfl rfl (by omega)) ?_
   refine Aj (Az (s:=s2) (by rw [k2];rfl) rfl ⟨by omega,by omega⟩) ?_
   refine zA ?_
   refine Aj (Az (s:=s2) (by rw [k2];rfl) rfl ⟨by omega,by omega⟩) ?_
   refine zA ?_
   refine Aj (Ca (s:=s2) (o:=0) rfl pL gb rfl rfl) ?_
   refine Aj (Ca (s:=s2) (o:=0) rfl pL ga rfl rfl) ?_
   refine zA ?_
   refine Aj (Az (s:=s2) (by rw [k2];rfl) rfl ⟨by omega,by omega⟩) ?_
   refine zA ?_
   (refine Ni (s:=s2) (o:=0) (z':=at0 s2.list (j - 1)) rfl rfl uL k3 ga rfl rfl rfl (by rw [hoff];exact A6c _) ?_;rw [← hs3])
   refine zA ?_
   refine Aj (Az (s:=s3) (by rw [q1];rfl) rfl ⟨by omega,by rw [q2,A47];omega⟩) ?_
   refine zA ?_
   refine Ni (s:=s3) (o:=0) (z':=at0 s2.list j) rfl rfl uL q3 q4 rfl rfl rfl (by rw [T1 q3];exact A6c _) ?_
   refine zC ?_
   exact ⟨(j - 1,s3.set (j - 1).toNat (at0 s2.list j)),⟨by omega,by omega,by rw [Sl.set_val,q1],Sl.set_isOwn _ _ _ q3,by rw [Sl.set_list _ _ _ q3,q2];exact (Al0 ga gb).trans k4⟩,(by omega),lZ⟩
  ·skip
   refine zC ?_
   exact ⟨(i+1,s2),⟨by omega,k2,k3,k4⟩,(by omega),lZ⟩
 ·refine zC ?_
  exact zLN (hR:=by exact ⟨rfl,s1,rfl,h1,h2,h3⟩)
theorem Aza {s:Sl Int} {x:Int} (ho:s.isOwn=true) (hn:s.list.length≤12):Does Tryz.prog 133 [s.val,.int .i64 0,.int .i64 s.list.length,.int .i64 x] (s.hp tI++[]) (fun v H=>v= .tuple #[]∧∃ s':Sl Int,H=s'.hp tI++[]∧s'.val=s.val∧s'.isOwn=true∧s'.list.Perm s.list):=by
 refine zF 134 Tryz.func133 ?_
 refine zC ?_
 refine Dw [0,1,2,3] kQ (fun (_u:Unit)=>[]) (fun _u=>True) (fun _u=>0) (()) (by trivial) kP ?_
 rintro _ _
 refine zC ?_
 refine Aa rfl (fun c23=> ?_) (fun c23=> ?_)
 ·refine zC ?_
  refine zE rfl (Abk ho) ?_
  rintro _ _ ⟨rfl,s27,rfl,hv27,ho27,hp27⟩
  refine zW ?_
  exact zL (hR:=by exact ⟨rfl,s27,rfl,hv27,ho27,hp27⟩)
 ·simp only [ A2m] at c23
  omega
theorem Av4 {s:Sl Int} (ho:s.isOwn=true) (hn:s.list.length≤12):Does Tryz.prog 88 [s.val] (s.hp tI++[]) (fun v H=>v= .tuple #[]∧∃ s':Sl Int,H=s'.hp tI++[]∧s'.val=s.val∧s'.isOwn=true∧s'.list.Perm s.list):=by
 refine zF 11 Tryz.func88 ?_
 iterate 11 refine sb ?_
 refine Ae (Eu rfl (E4 .u64 rfl (by show _<2 ^ 64;omega))) rfl ?_
 refine zI rfl (Apk (n:=s.list.length) (by omega)) ?_
 refine zE rfl (Aza ho hn) ?_
 rintro _ _ ⟨rfl,s10,rfl,hv10,ho10,hp10⟩
 refine zW ?_
 exact zLN (hR:=by exact ⟨rfl,s10,rfl,hv10,ho10,hp10⟩)
theorem No {s:Sl Int} {T:TypeId} (hs:s.list.length≤1000):Does Tryz.prog 72 [s.val] (s.hp T++[]) (fun v H=>∃ s':Sl Int,v=s'.val∧H=(s'.hp tI++(s.hp T++[]))∧s'.list=s.list∧s'.isOwn=true):=by
 refine zF 8 Tryz.func72 ?_
 refine zA ?_
 refine Ae (Ye rfl rfl) rfl ?_
 refine zC ?_
 refine Aa rfl (fun c4=> ?_) (fun c4=> ?_)
 ·skip
  have hn:=Sl.nil_of s c4
  subst hn
  refine zC ?_
  exact Bb (Aw Tryz.results72 (Af rfl)) (by refine ⟨Sl.nil,rfl,rfl,rfl,rfl⟩) (by simp only [Sl.hp_nil];exact Split.nil)
 ·skip
  refine zC ?_
  refine Am rfl rfl rfl rfl (fun b5=> ?_)
  refine Pl (Apg (α:=Int) (b:=b5) (T:=tI)) ?_
  refine zC ?_
  refine A5 (s:=mt Int b5) (new:=s.list) (m:=s.list.length) rfl rfl pL rfl (Jz pL) rfl rfl rfl rfl (by rw [show (mt Int b5).list.length=0 from rfl];omega) rfl (fun s' hs1 hs2=> ?_)
  refine zC ?_
  exact zL (hR:=by exact ⟨s',rfl,rfl,by rw [hs1];rfl,hs2⟩)
theorem Al1 {u l:Sl Int} (hu:u.list.length≤1000) (hl:l.list.length≤1000):Does Tryz.prog 244 [.agg #[u.val,l.val]] (u.hp tI++(l.hp tI++[])) (fun v H=>∃ u' l':Sl Int,v= .agg #[u'.val,l'.val]∧H=u'.hp tI++(l'.hp tI++(u.hp tI++(l.hp tI++[])))∧u'.list=u.list∧l'.list=l.list∧u'.isOwn=true∧l'.isOwn=true):=by
 refine zF 10 Tryz.func244 ?_
 refine zC ?_
 refine Cy rfl rfl (fun b1=> ?_)
 refine Ah rfl (fun b2=> ?_)
 refine zC ?_
 refine At [(5,[(0,false),(1,false),(3,false),(4,false),(2,true)]),(6,[(5,true)]),(7,[(6,false)]),(8,[(7,true)])] (by kernel_rfl) ?_
 refine zC ?_
 refine zE rfl (No hu) ?_
 rintro _ _ ⟨s5,rfl,rfl,hs5,ho5⟩
 refine zW ?_
 refine zE rfl (No hl) ?_
 rintro _ _ ⟨s8,rfl,rfl,hs8,ho8⟩
 refine A6 aQ ?_
 refine zA ?_
 refine Aj (Db rfl rfl) ?_
 refine zC ?_
 exact zL (hR:=by exact ⟨s5,s8,rfl,rfl,hs5,hs8,ho5,ho8⟩)
theorem Aem (i:Int):IntKind.u8.wrap i=((Fg i).toNat:Int):=Ej .u8 rfl i
theorem Iy (i:Int):IntKind.u64.wrap i=((BitVec.ofInt 64 i).toNat:Int):=Ej .u64 rfl i
theorem Ag4 {b:Nat} {kind:By} {s1 s2 s3 s4:Sl By} (hl:s1.list.length+s2.list.length+s3.list.length+s4.list.length≤70000000000000):Does Tryz.prog 145 [bv kind,.slice (some ⟨b,0,none⟩) 4 4] ((b,true,C [s1.val,s2.val,s3.val,s4.val] tSB)::(s1.hp tU8++(s2.hp tU8++(s3.hp tU8++(s4.hp tU8++[])))))
  (Is (.tuple #[.agg (vbc (Cw kind (s1.list++(s2.list++(s3.list++(s4.list++[]))))).1).toArray,.int .i64 (Cw kind (s1.list++(s2.list++(s3.list++(s4.list++[]))))).2]) ((b,true,C [s1.val,s2.val,s3.val,s4.val] tSB)::(s1.hp tU8++(s2.hp tU8++(s3.hp tU8++(s4.hp tU8++[])))))):=by
 have e2:(Sl.own b [s1,s2,s3,s4] 4 [] ⟨by simp,A6h _,by simp⟩:Sl (Sl By)).list=[s1,s2,s3,s4]:=rfl
 have e3:Ba [s1,s2,s3,s4]=s1.list++(s2.list++(s3.list++(s4.list++[]))):=by simp [Ba]
 have h:=Od (kind:=kind) (q:= .own b [s1,s2,s3,s4] 4 [] ⟨by simp,A6h _,by simp⟩) (by rw [e2,e3];grind)
 rw [e2,e3] at h
 have e:(Sl.own b [s1,s2,s3,s4] 4 [] ⟨by simp,A6h _,by simp⟩:Sl (Sl By)).hp tSB++(Dg [s1,s2,s3,s4]++[])=((b,true,C [s1.val,s2.val,s3.val,s4.val] tSB)::(s1.hp tU8++(s2.hp tU8++(s3.hp tU8++(s4.hp tU8++[]))))):=by
  rw [Sl.hp_own,Cs,Cs,Cs,Cs,Hx]
  simp only [ A42]
  rfl
 rw [e] at h
 exact h
theorem map_take {α β:Type} {f:α→β} {xs:List α} {i:Nat} {x:α} (h:xs[i]? =some x):(xs.take (i+1)).map f=(xs.take i).map f++[f x]:=by
 rw [A4d,h];simp
theorem Ara {b:Nat} {x y z:Wd}:Does Tryz.prog 196 [.int .i64 1,.slice (some ⟨b,0,none⟩) 3 3] [(b,true,C [wv x,wv y,wv z] Apf)] (fun v H=>∃ s:Sl By,v=s.val∧H=(s.hp tU8++[(b,true,C [wv x,wv y,wv z] Apf)])∧s.list=L6 1 [x,y,z]∧s.isOwn=true):=by
 have h:=Auv (n:=1) (xs:=(Sl.own b [x,y,z] 3 [] ⟨by simp,A6h _,by simp⟩:Sl Wd)) (T:=Apf) (by show 3≤1000000;decide)
 have e:(Sl.own b [x,y,z] 3 [] ⟨by simp,A6h _,by simp⟩:Sl Wd).hp Apf++[]=[(b,true,C [wv x,wv y,wv z] Apf)]:=by rw [Sl.hp_own];rfl
 rw [e] at h
 exact h
theorem T3 {u l:Sl Int} {v:Wd} {n:Int} (hu:u.list.length≤1000) (hl:l.list.length≤1000):Does Tryz.prog 157 [.agg #[u.val,l.val],wv v,.int .i64 n] (u.hp tI++(l.hp tI++[]))
  (Is (.agg (vbc (Dr v n u.list l.list)).toArray) (u.hp tI++(l.hp tI++[]))):=by
 refine zF 63 Tryz.func157 ?_
 refine zC ?_
 refine Cy rfl rfl (fun b3=> ?_)
 refine Ah rfl (fun b6=> ?_)
 rw [Cc]
 refine zC ?_
 refine Am rfl rfl rfl rfl (fun b15=> ?_)
 refine Pl (Apg (α:=By) (b:=b15) (T:=tU8)) ?_
 refine Am rfl rfl rfl rfl (fun b16=> ?_)
 refine Pl (Apg (α:=By) (b:=b16) (T:=tU8)) ?_
 refine zC ?_
 refine Ar [1,2,3,6,8,18,19] kQ (fun (st:Nat×Sl By)=>[(20,.int .i64 st.1),(7,st.2.val)]) (fun st=>(b3,true,C [u.val,l.val] tPl)::(b6,true,C (vbc Ku) tPg)::(st.2.hp tU8++((mt By b16).hp tU8++(u.hp tI++(l.hp tI++[]))))) (fun st=>st.1≤u.list.length∧st.2.list=(u.list.take st.1).map Fg∧st.2.isOwn=true) (fun st=>u.list.length - st.1) ((0,mt By b15)) ⟨A6j _,rfl,rfl⟩ kP sP ?_
 rintro ⟨i,s⟩ ⟨h0,h1,h2⟩
 have hsl:s.list.length=i:=by rw [h1,A46,A4s];omega
 refine zC ?_
 refine Aa rfl (fun c21=> ?_) (fun c21=> ?_)
 ·simp only [A4f] at c21
  obtain ⟨x,hg⟩:∃ x,u.list[i]? =some x:=⟨_,A2i (by omega)⟩
  refine zA ?_
  refine Ae (Az rfl rfl (by omega)) rfl ?_
  refine Ae (Ca (o:=0) rfl pL hg rfl rfl) rfl ?_
  refine zA ?_
  refine Ae (show Rd _ _ _ _ (bv (Fg x)) from Gf (Aem x) rfl) rfl ?_
  refine Am rfl rfl rfl rfl (fun b27=> ?_)
  refine A5 (s:=s) (new:=[Fg x]) (m:=1) rfl rfl pL h2 (Ck (r:=true) mM rfl) rfl rfl rfl rfl (by omega) rfl (fun s' hs1 hs2=> ?_)
  refine zC ?_
  exact ⟨(i+1,s'),⟨by omega,by rw [hs1,h1,map_take hg],hs2⟩,(by omega),lZ⟩
 ·simp only [ A2m] at c21
  have hall:s.list=u.list.map Fg:=by rw [h1,A2s (by omega)]
  refine zC ?_
  refine Ar [1,2,3,6,7,31,32] kQ (fun (st:Nat×Sl By)=>[(33,.int .i64 st.1),(8,st.2.val)]) (fun st=>(b3,true,C [u.val,l.val] tPl)::(b6,true,C (vbc Ku) tPg)::(st.2.hp tU8++(s.hp tU8++(u.hp tI++(l.hp tI++[]))))) (fun st=>st.1≤l.list.length∧st.2.list=(l.list.take st.1).map Fg∧st.2.isOwn=true) (fun st=>l.list.length - st.1) ((0,mt By b16)) ⟨A6j _,rfl,rfl⟩ kP sP ?_
  rintro ⟨j,q⟩ ⟨k0,k1,k2⟩
  have hql:q.list.length=j:=by rw [k1,A46,A4s];omega
  refine zC ?_
  refine Aa rfl (fun c34=> ?_) (fun c34=> ?_)
  ·simp only [A4f] at c34
   obtain ⟨x,hg⟩:∃ x,l.list[j]? =some x:=⟨_,A2i (by omega)⟩
   refine zA ?_
   refine Ae (Az rfl rfl (by omega)) rfl ?_
   refine Ae (Ca (o:=0) rfl pL hg rfl rfl) rfl ?_
   refine zA ?_
   refine Ae (show Rd _ _ _ _ (bv (Fg x)) from Gf (Aem x) rfl) rfl ?_
   refine Am rfl rfl rfl rfl (fun b40=> ?_)
   refine A5 (s:=q) (new:=[Fg x]) (m:=1) rfl rfl pL k2 (Ck (r:=true) mM rfl) rfl rfl rfl rfl (by omega) rfl (fun s' hs1 hs2=> ?_)
   refine zC ?_
   exact ⟨(j+1,s'),⟨by omega,by rw [hs1,k1,map_take hg],hs2⟩,(by omega),lZ⟩
  ·simp only [ A2m] at c34
   have hall2:q.list=l.list.map Fg:=by rw [k1,A2s (by omega)]
   have hul:s.list.length=u.list.length:=(by rw [hall,A46])
   have hll:q.list.length=l.list.length:=(by rw [hall2,A46])
   refine zC ?_
   refine zE rfl (Gg (x:=v)) ?_
   rintro _ _ ⟨s45,rfl,rfl,hs45,ho45⟩
   refine A6 aQ ?_
   refine zA ?_
   refine Ae (show Rd _ _ _ _ (wv (BitVec.ofInt 64 n)) from Gf (Iy n) rfl) rfl ?_
   iterate 2 refine sb ?_
   refine Ae (show Rd _ _ _ _ (wv (BitVec.ofInt 64 (u.list.length:Int))) from by (rw [← hul];exact Gf (Iy _) rfl)) rfl ?_
   iterate 2 refine sb ?_
   refine Ae (show Rd _ _ _ _ (wv (BitVec.ofInt 64 (l.list.length:Int))) from by (rw [← hll];exact Gf (Iy _) rfl)) rfl ?_
   refine Am rfl rfl rfl rfl (fun b54=> ?_)
   refine zE rfl (Ara) ?_
   rintro _ _ ⟨s55,rfl,rfl,hs55,ho55⟩
   refine zW ?_
   refine Am rfl rfl rfl rfl (fun b58=> ?_)
   refine zI rfl ((Ag4 (kind:=1) (s1:=s45) (s2:=s55) (s3:=s) (s4:=q) (by rw [hs45,hs55,A4,Ry];simp only [A4q,List.length_nil];have:A8 8 8=8:=rfl;omega)).to (by rw [hs45,hs55,hall,hall2]) rfl) ?_
   refine zC ?_
   refine Ah rfl (fun b13=> ?_)
   rw [Cc]
   refine Ac rfl rfl uD (B9) (Ai) (Bi (by first | exact Ai | exact A20 ..)) ?_
   refine zA ?_
   refine Ae (Ao rfl mM (by exact Ax)) rfl ?_
   refine Ac rfl rfl uD (B9) (Ai) (Bi (by first | exact Ai | exact A20 ..)) ?_
   refine zC ?_
   refine Ak (Aw Tryz.results157 (Bc rfl mM (by exact Ax))) ?_ sP
   rfl
end
section
open Go.K
theorem Abl (b:By):IntKind.i64.wrap (b.toNat:Int)=O2 b:=C0 (by have:=b.isLt;omega)
theorem Sb (p:Pg):(Bf p).2.1.length≤240:=by
 unfold Bf
 simp only []
 split
 ·simp
 ·split
  ·simp
  ·split
   ·simp
   ·split
    ·simp
    ·simp only [Gy]
     grind
theorem Wi {q:Pg} {n:Int}:Does Tryz.prog 167 [.agg (vbc q).toArray,.int .i64 n] [] (fun v H=>∃ u l:Sl Int,v= .tuple #[.agg #[u.val,l.val],wv (Ed q n).2.2.1,.bool (Ed q n).2.2.2]∧H=u.hp tI++(l.hp tI++[])∧u.list=(Ed q n).1∧l.list=(Ed q n).2.1∧u.isOwn=true∧l.isOwn=true):=by
 have hbl:=Sb q
 refine zF 97 Tryz.func167 ?_
 refine zC ?_
 refine Do rfl rfl (fun b2=> ?_)
 refine Ah rfl (fun b4=> ?_)
 refine zA ?_
 refine Ae (Ao rfl mM (by exact Ax)) rfl ?_
 refine zE rfl (Ka) ?_
 rintro _ _ ⟨s20,rfl,rfl,hs20,ho20⟩
 refine zW ?_
 refine Aa rfl (fun c30=> ?_) (fun c30=> ?_)
 ·skip
  have hres:Ed q n=([],[],0,false):=(by unfold Ed;grind)
  refine zC ?_
  exact Bb (N1 Tryz.results167 (Bc rfl mM rfl) (Af rfl) (Af rfl)) (by refine ⟨.nil,.nil,?_,rfl,?_,?_,rfl,rfl⟩ <;> rw [hres] <;> rfl) (by simp only [Sl.hp_nil];exact Split.nil)
 ·skip
  have h0:Ed q n=O3 (Bf q).2.1 n:=(by unfold Ed;rw [A6u (by simp at c30;rintro (h | h);exact h c30.1;exact h (A2u (by have:=c30.2;grind)))])
  refine zC ?_
  refine zE rfl (Fj (s:=s20) (by rw [hs20];omega)) ?_
  rintro _ _ ⟨r33,rfl,rfl,hr33,hb33⟩
  refine zW ?_
  refine zE rfl (Fk (n:=8) (by rw [hr33,hs20];omega)) ?_
  rintro _ _ ⟨x35,sl35,bad35,rfl,rfl,hx35,hsl35,hbd35⟩
  refine zW ?_
  refine zE rfl (Fk (r:=⟨r33.b,sl35,bad35⟩) (n:=1) (A57 (F7 hsl35 (by rw [hr33,hs20];exact hbl)) (by omega))) ?_
  rintro _ _ ⟨x37,sl37,bad37,rfl,rfl,hx37,hsl37,hbd37⟩
  refine zW ?_
  refine Aa rfl (fun c40=> ?_) (fun c40=> ?_)
  ·skip
   rw [hr33,hs20,hb33] at hx35 hsl35 hbd35
   have ha:(x35,sl35.list,bad35)=C2 8 (Bf q).2.1 false:=(by rw [hx35,hsl35,hbd35];rfl)
   have hb:(x37,sl37.list,bad37)=C2 1 sl35.list bad35:=(by rw [hx37,hsl37,hbd37];rfl)
   have hres:Ed q n=([],[],0,false):=(by rw [h0];exact Alz ha hb (by grind))
   refine zC ?_
   exact Bb (N1 Tryz.results167 (Bc rfl mM rfl) (Af rfl) (Af rfl)) (by refine ⟨.nil,.nil,?_,rfl,?_,?_,rfl,rfl⟩ <;> rw [hres] <;> rfl) (by simp only [Sl.hp_nil];exact Split.nil)
  ·skip
   rw [hr33,hs20,hb33] at hx35 hsl35 hbd35
   have ha:(x35,sl35.list,bad35)=C2 8 (Bf q).2.1 false:=(by rw [hx35,hsl35,hbd35];rfl)
   have hb:(x37,sl37.list,bad37)=C2 1 sl35.list bad35:=(by rw [hx37,hsl37,hbd37];rfl)
   have h1:w64 (x37.toNat:Int)=n:=(by grind)
   have l37:=F7 hsl37 (F7 hsl35 hbl)
   refine zC ?_
   refine zE rfl (Fk (r:=⟨r33.b,sl37,bad37⟩) (n:=1) (A57 l37 (by omega))) ?_
   rintro _ _ ⟨x43,sl43,bad43,rfl,rfl,hx43,hsl43,hbd43⟩
   refine zW ?_
   refine zE rfl (Fk (r:=⟨r33.b,sl43,bad43⟩) (n:=1) (A57 (F7 hsl43 l37) (by omega))) ?_
   rintro _ _ ⟨x46,sl46,bad46,rfl,rfl,hx46,hsl46,hbd46⟩
   refine zW ?_
   refine zE rfl (Ky (r:=⟨r33.b,sl46,bad46⟩) (A57 (F7 hsl46 (F7 hsl43 l37)) (by omega))) ?_
   rintro _ _ ⟨s50,sl50,bad50,rfl,rfl,ho50,hs50,hsl50,hbd50⟩
   refine zW ?_
   have hs50len:=Ado hs50 (F7 hsl46 (F7 hsl43 l37))
   refine Ki (Ii (α:=Int) (T:=tI)) ?_
   refine Ar [1,4,5,11,12,13,50,51] kQ (fun (st:Nat×Sl Int)=>[(52,.int .i64 st.1)]) (fun st=>(b4,true,C [st.2.val,.slice none 0 0] tPl)::(st.2.hp tI++(s50.hp tU8++(rdH ⟨r33.b,sl50,bad50⟩++[])))) (fun st=>st.1≤s50.list.length∧st.2.list=(s50.list.take st.1).map O2∧st.2.isOwn=true) (fun st=>s50.list.length - st.1) ((0,.nil)) ⟨A6j _,rfl,rfl⟩ kP sP ?_
   rintro ⟨i,u⟩ ⟨g0,h1',h2⟩
   have hul:u.list.length=i:=by rw [h1',A46,A4s];omega
   refine zC ?_
   refine Aa rfl (fun c53=> ?_) (fun c53=> ?_)
   ·simp only [A4f] at c53
    obtain ⟨y,hg⟩:∃ y,s50.list[i]? =some y:=⟨_,A2i (by omega)⟩
    refine zA ?_
    refine Ae (Az rfl rfl (by omega)) rfl ?_
    refine Ae (Ca (o:=0) (v:=bv y) rfl pL hg rfl rfl) rfl ?_
    iterate 7 refine sb ?_
    refine Ae (show Rd _ _ _ _ (.int .i64 (O2 y)) from Gf (Abl y) rfl) rfl ?_
    refine Am rfl rfl rfl rfl (fun b60=> ?_)
    refine A5 (s:=u) (new:=[O2 y]) (m:=1) rfl rfl pL h2 (Ck (r:=true) mM rfl) rfl rfl rfl rfl (by have:=hs50len;omega) rfl (fun s' hs1 hs2=> ?_)
    refine zC ?_
    exact ⟨(i+1,s'),⟨by omega,by rw [hs1,h1',map_take hg],hs2⟩,(by omega),lZ⟩
   ·simp only [ A2m] at c53
    have hall:u.list=s50.list.map O2:=by rw [h1',A2s (by omega)]
    refine zC ?_
    refine zE rfl (Ky (r:=⟨r33.b,sl50,bad50⟩) (A57 (Aij hsl50 (F7 hsl46 (F7 hsl43 l37))) (by omega))) ?_
    rintro _ _ ⟨s66,sl66,bad66,rfl,rfl,ho66,hs66,hsl66,hbd66⟩
    refine zW ?_
    have hs66len:=Ado hs66 (Aij hsl50 (F7 hsl46 (F7 hsl43 l37)))
    refine Ki (Ii (α:=Int) (T:=tI)) ?_
    refine Ar [1,4,5,11,12,66,67] kQ (fun (st:Nat×Sl Int)=>[(68,.int .i64 st.1)]) (fun st=>(b4,true,C [u.val,st.2.val] tPl)::(st.2.hp tI++(u.hp tI++(s66.hp tU8++(rdH ⟨r33.b,sl66,bad66⟩++[]))))) (fun st=>st.1≤s66.list.length∧st.2.list=(s66.list.take st.1).map O2∧st.2.isOwn=true) (fun st=>s66.list.length - st.1) ((0,.nil)) ⟨A6j _,rfl,rfl⟩ kP sP ?_
    rintro ⟨j,l⟩ ⟨k0,k1,k2⟩
    have hll:l.list.length=j:=by rw [k1,A46,A4s];omega
    refine zC ?_
    refine Aa rfl (fun c69=> ?_) (fun c69=> ?_)
    ·simp only [A4f] at c69
     obtain ⟨y,hg⟩:∃ y,s66.list[j]? =some y:=⟨_,A2i (by omega)⟩
     refine zA ?_
     refine Ae (Az rfl rfl (by omega)) rfl ?_
     refine Ae (Ca (o:=0) (v:=bv y) rfl pL hg rfl rfl) rfl ?_
     iterate 7 refine sb ?_
     refine Ae (show Rd _ _ _ _ (.int .i64 (O2 y)) from Gf (Abl y) rfl) rfl ?_
     refine Am rfl rfl rfl rfl (fun b76=> ?_)
     refine A5 (s:=l) (new:=[O2 y]) (m:=1) rfl rfl pL k2 (Ck (r:=true) mM rfl) rfl rfl rfl rfl (by have:=hs66len;omega) rfl (fun s' hs1 hs2=> ?_)
     refine zC ?_
     exact ⟨(j+1,s'),⟨by omega,by rw [hs1,k1,map_take hg],hs2⟩,(by omega),lZ⟩
    ·simp only [ A2m] at c69
     have hall2:l.list=s66.list.map O2:=by rw [k1,A2s (by omega)]
     refine zC ?_
     refine G5 [1,2] [[(0,false),(3,true),(4,false),(5,false),(6,false),(7,true),(8,false),(9,false),(10,false),(11,false),(12,false),(13,false),(14,false),(15,false),(16,false),(17,true),(18,false)],[(19,false)]] (by kernel_rfl) ?_
     refine zC ?_
     refine zI rfl (Aik (r:=⟨r33.b,sl66,bad66⟩)) ?_
     refine zA ?_
     refine Aj (D5 rfl) ?_
     refine sa ?_
     refine' Fe rfl rfl inferInstance rfl rfl rfl rfl rfl (fun hg85=> ?_) ?_
     rotate_left
     ·try (simp at hg85;show _)
      refine zC ?_
      refine zI rfl (Tv (r:=⟨r33.b,sl66,bad66⟩)) ?_
      refine zC ?_
      exact D9 rfl sP
     refine sa ?_
     refine' Fe rfl rfl inferInstance rfl rfl rfl rfl rfl (fun hg90=> ?_) ?_
     rotate_left
     ·try (simp at hg90;show _)
      refine zA ?_
      refine Aj (Au rfl rfl (rfl)) ?_
      refine zA ?_
      refine Aj (Au rfl rfl (rfl)) ?_
      refine zC ?_
      exact D9 rfl sP
     refine zC ?_
     exact zL (hR:=by have hn:(x43,sl43.list,bad43)=C2 1 sl37.list bad37:=(by rw [hx43,hsl43,hbd43];rfl);have hm:(x46,sl46.list,bad46)=C2 1 sl43.list bad43:=(by rw [hx46,hsl46,hbd46];rfl);have hu:(s50.list,sl50.list,bad50)=C4 (max (w64 (x43.toNat:Int)) 0).toNat sl46.list bad46:=(by rw [hs50,hsl50,hbd50]);have hv:(s66.list,sl66.list,bad66)=C4 (max (w64 (x46.toNat:Int)) 0).toNat sl50.list bad50:=(by rw [hs66,hsl66,hbd66]);have hres:=Wg ha hb h1 hn hm hu hv;refine ⟨u,l,?_,rfl,?_,?_,h2,k2⟩ <;> rw [h0,hres];exact hall;exact hall2)
end
section
open Go.K
instance und72:Und Tryz.prog 72 (.pointer 95):=⟨Tryz.underlying72⟩
instance agg72:Agg Tryz.prog 72 false:=⟨⟨_,Tryz.underlying72,rfl⟩⟩
instance fld227_0:Fld Tryz.prog 227 0 0:=⟨⟨_,_,0,Tryz.underlying227,rfl,by kernel_rfl,rfl⟩⟩
instance fld227_1:Fld Tryz.prog 227 1 1:=⟨⟨_,_,1,Tryz.underlying227,rfl,by kernel_rfl,rfl⟩⟩
instance fld227_2:Fld Tryz.prog 227 2 3:=⟨⟨_,_,0,Tryz.underlying227,rfl,by kernel_rfl,rfl⟩⟩
instance fld227_3:Fld Tryz.prog 227 3 4:=⟨⟨_,_,0,Tryz.underlying227,rfl,by kernel_rfl,rfl⟩⟩
instance fld227_4:Fld Tryz.prog 227 4 5:=⟨⟨_,_,0,Tryz.underlying227,rfl,by kernel_rfl,rfl⟩⟩
instance fld227_5:Fld Tryz.prog 227 5 6:=⟨⟨_,_,0,Tryz.underlying227,rfl,by kernel_rfl,rfl⟩⟩
instance flat147:Flat Tryz.prog 147 (Mw 258 ([some .u8])):=⟨by kernel_rfl,by kernel_rfl,⟨_,Tryz.underlying147,rfl⟩⟩
structure Tab where
 b:Nat
 u:Sl Int
 l:Sl Int
 version:Wd
 area:Int
 next:Int
 at':Int
abbrev Ik (a:Nat) (t:Tab):List Value:=[ptr a,t.u.val,t.l.val,wv t.version,.int .i64 t.area,.int .i64 t.next,.int .i64 t.at']
def Tab.ts (t:Tab):TS:=⟨t.u.list,t.l.list,t.version,t.area,t.next,t.at'⟩
section
variable {c:Chip} {a:Nat}
theorem Arb (ha:c.aC=a) {i j:Int}:Does Tryz.prog 140 [ptr a,.int .i64 i,.int .i64 j] (chH c) (Is (.tuple #[.agg (vbc (B3 c i j)).toArray,.int .i64 (B0 c i j)]) (chH c)):=by subst ha;exact Aaw
theorem Np (ha:c.aC=a) {i j:Int} {d:Pg}:Does Tryz.prog 209 [ptr a,.int .i64 i,.int .i64 j,.agg (vbc d).toArray] (chH c) (Is (.int .i64 (Bl c i j d).1) (chH (Bl c i j d).2)):=by subst ha;exact Agd
theorem Abm (ha:c.aC=a) {i:Int}:Does Tryz.prog 198 [ptr a,.int .i64 i] (chH c) (Is (.int .i64 (Bm c i).1) (chH (Bm c i).2)):=by subst ha;exact Ao7
theorem M7 (ha:c.aC=a):Does Tryz.prog 158 [ptr a] (chH c) (Is (.int .i64 c.blocks.length) (chH c)):=by subst ha;exact Kv
theorem Arc (ha:c.aC=a) {i:Int}:Does Tryz.prog 169 [ptr a,.int .i64 i] (chH c) (Is (.bool (Mb c i)) (chH c)):=by subst ha;exact Ayq
theorem A09:Mw 258 [some .u8]=List.replicate 258 (some .u8):=by kernel_rfl
theorem Ard:∀ (xs ys:List By),xs.length=ys.length→Bq (List.replicate xs.length (some .u8)) (xs.map bv) (ys.map bv)=some (decide (xs=ys))
 | [],[],_=>rfl
 | [],_::_,h=>by simp at h
 | _::_,[],h=>by simp at h
 | x::xs,y::ys,h=>by
  have ih:=Ard xs ys (by simpa using h)
  simp only [A4q,List.replicate_succ,A5x,Bq,ih,bv,veq]
  by_cases h1:x=y
  ·simp_all
  ·have:¬ (x.toNat:Int)=y.toNat:=fun e=>h1 (A2u (by omega))
   simp [h1,this]
theorem pg_eq (p q:Pg):Bq (Mw 258 [some .u8]) (vbc p) (vbc q)=some (decide (p=q)):=by
 have:=Ard p.toList q.toList (by simp)
 rw [show p.toList.length=258 by simp] at this
 rw [A09,vbc,vbc,this]
 congr 1
 exact A4x.2 ⟨fun h=>Vector.toList_inj.1 h,fun h=>by rw [h]⟩
theorem Zm {t:Tab} (ha:c.aC=a) {ar i:Int} {q:Pg}:Does Tryz.prog 156 [ptr t.b,.int .i64 ar,.int .i64 i,.agg (vbc q).toArray] ((t.b,true,C (Ik a t) tTb)::(chH c++[]))
  (Is (.int .i64 (E6 c ar i q)) ((t.b,true,C (Ik a t) tTb)::(chH c++[]))):=by
 refine zF 29 Tryz.func156 ?_
 refine zC ?_
 refine Do rfl rfl (fun b7=> ?_)
 refine zC ?_
 refine zI rfl (Arb ha) ?_
 refine zC ?_
 refine Ah rfl (fun b9=> ?_)
 rw [Cc]
 refine Ac rfl rfl uD (B9) (Ai) (Bi (by first | exact Ai | exact A20 ..)) ?_
 iterate 9 refine sb ?_
 refine' G4 rfl rfl inferInstance rfl rfl rfl rfl rfl (fun hg23=> ?_) ?_
 rotate_left
 ·try (simp at hg23;show _)
  refine zA ?_
  refine Ae (Ao rfl mM (by exact Ax)) rfl ?_
  refine zA ?_
  refine Ae (Ao rfl mM (by exact Ax)) rfl ?_
  refine zA ?_
  refine Ae (Vc rfl rfl (pg_eq _ _)) rfl ?_
  exact Ag ⟨rfl,rfl,⟨_,sP⟩⟩
 refine zC ?_
 refine Aa rfl (fun c27=> ?_) (fun c27=> ?_)
 ·skip
  have hres:E6 c ar i q=33:=(by unfold E6;rw [A6v (by grind)])
  refine zC ?_
  refine Ak (Aw Tryz.results156 (Af rfl)) ?_ sP
  rw [hres]
 ·skip
  have hres:E6 c ar i q=B0 c ar i:=(by unfold E6;rw [A6u (by grind)])
  refine zC ?_
  refine Ak (Aw Tryz.results156 (Af rfl)) ?_ sP
  rw [hres]
theorem Are {t:Tab} (ha:c.aC=a) {ar from':Int} {q:Pg} (hf:0≤from'):Does Tryz.prog 197 [ptr t.b,.int .i64 ar,.int .i64 from',.agg (vbc q).toArray] ((t.b,true,C (Ik a t) tTb)::(chH c++[]))
  (Is (.tuple #[.int .i64 (Gk c ar from' q).1,.int .i64 (Gk c ar from' q).2.1]) ((t.b,true,C (Ik a t) tTb)::(chH (Gk c ar from' q).2.2++[]))):=by
 refine zF 41 Tryz.func197 ?_
 refine zC ?_
 refine Do rfl rfl (fun b7=> ?_)
 refine zC ?_
 refine Ar [0,1,7] kQ (fun (st:Int×Chip)=>[(10,.int .i64 st.1)]) (fun st=>(b7,true,C (vbc q) tPg)::(t.b,true,C (Ik a t) tTb)::(chH st.2++[])) (fun st=>0≤st.1∧st.2.aC=a∧Gk st.2 ar st.1 q=Gk c ar from' q) (fun st=>(8 - st.1).toNat) ((from',c)) ⟨hf,ha,rfl⟩ kP sP ?_
 rintro ⟨i,c1⟩ ⟨h0,h1,h2⟩
 refine zC ?_
 refine Aa rfl (fun c14=> ?_) (fun c14=> ?_)
 ·simp only [A4f] at c14
  refine zC ?_
  refine At [(7,[(0,false),(1,false),(2,false),(3,false),(4,false),(5,false),(6,false)]),(8,[(7,true)]),(9,[(8,false)])] (by kernel_rfl) ?_
  iterate 7 refine sb ?_
  refine Aj (Ao rfl mM (by exact Ax)) ?_
  refine zC ?_
  refine zI rfl (Np h1) ?_
  refine zC ?_
  refine Aa rfl (fun c26=> ?_) (fun c26=> ?_)
  ·skip
   have hst:Fp c1 ar i q=E6 (Bl c1 ar i q).2 ar i q:=(by unfold Fp;rw [A6v (by grind)])
   refine zA ?_
   refine Ae (Ao rfl mM (by exact Ax)) rfl ?_
   refine zI rfl (Zm (t:=t) (c:=(Bl c1 ar i q).2) ((F9 c1 ar i q).trans h1)) ?_
   refine zC ?_
   refine Aa rfl (fun c37=> ?_) (fun c37=> ?_)
   ·skip
    have hres:=Sa c14 (by rw [hst];grind)
    rw [h2] at hres
    refine zC ?_
    refine Ak (Dj Tryz.results197 (Af rfl) (Af rfl)) ?_ (by rw [hres];exact sP)
    rw [hres,hst]
   ·skip
    have hgo:=Ai6 c14 (by rw [hst];grind)
    refine zC ?_
    exact ⟨(i+1,(Bl c1 ar i q).2),⟨by omega,(F9 c1 ar i q).trans h1,by grind⟩,(by omega),lZ⟩
  ·skip
   have hst:Fp c1 ar i q=(Bl c1 ar i q).1:=(by unfold Fp;rw [A6u (by grind)])
   refine zC ?_
   refine Aa rfl (fun c37=> ?_) (fun c37=> ?_)
   ·skip
    have hres:=Sa c14 (by rw [hst];grind)
    rw [h2] at hres
    refine zC ?_
    refine Ak (Dj Tryz.results197 (Af rfl) (Af rfl)) ?_ (by rw [hres];exact sP)
    rw [hres,hst]
   ·skip
    have hgo:=Ai6 c14 (by rw [hst];grind)
    refine zC ?_
    exact ⟨(i+1,(Bl c1 ar i q).2),⟨by omega,(F9 c1 ar i q).trans h1,by grind⟩,(by omega),lZ⟩
 ·simp only [ A2m] at c14
  refine zC ?_
  refine Ak (Dj Tryz.results197 (Af rfl) (Af rfl)) ?_ (by rw [← h2,Wh c14];exact sP)
  rw [← h2,Wh c14]
theorem Qx {P:Program} {E:Env} {H:Hp} {t u:TypeId} {x y:Operand} {v:Wd} (hx:ev E x=some (wv v)) (hy:ev E y=some (.int .u64 1)):Rd P E H (.binOp .add t x y u) (wv (v+1)):=by
 have:=Au (P:=P) (H:=H) (op:= .add) (t:=t) (u:=u) hx hy rfl
 have e:IntKind.u64.wrap ((v.toNat:Int)+1)=((v+1).toNat:Int):=by
  rw [Ej .u64 rfl]
  rw [show ((v.toNat:Int)+1)=((v.toNat+1:Nat):Int) by omega,A26,A3p,A4h]
  rfl
 rw [e] at this
 exact this
theorem Av5 {t:Tab} {u l:Sl Int} (ha:c.aC=a) (hu:u.list.length≤1000) (hl:l.list.length≤1000) (hn:0≤t.next) (har:0≤t.area∧t.area≤1) :
  Does Tryz.prog 159 [ptr t.b,.agg #[u.val,l.val]] ((t.b,true,C (Ik a t) tTb)::(u.hp tI++(l.hp tI++(chH c++[]))))
   (fun v H=>∃ t':Tab,t'.b=t.b∧v= .int .i64 (Bt t.ts u.list l.list c).1∧H=(t'.b,true,C (Ik a t') tTb)::(u.hp tI++(l.hp tI++(chH (Bt t.ts u.list l.list c).2.2++[])))∧t'.ts=(Bt t.ts u.list l.list c).2.1 ∧
    ((Bt t.ts u.list l.list c).1=0→t'.u=u∧t'.l=l)∧((Bt t.ts u.list l.list c).1≠0→t'=t)):=by
 refine zF 98 Tryz.func159 ?_
 refine zC ?_
 refine Cy rfl rfl (fun b3=> ?_)
 refine zC ?_
 refine Ng [] [(13,(.fork [(0,false),(1,false),(2,false),(3,false),(4,false),(5,false),(6,false),(7,false),(8,false),(9,false)] 10 (.fork [] 11 (.one [(12,true)]) 12 (.one [(11,true)])) 12 (.one [(10,true),(11,true)]))),(14,(.one [(13,true)]))] (by kernel_rfl) rfl (fun ops w0 H0 y=> ?_)
 refine Le ?_
 refine Mn ?_ rfl
 refine B4 (Ao rfl mM rfl) rfl ?_
 refine B4 (Cx rfl) rfl ?_
 refine B4 (G2 rfl) rfl ?_
 refine B4 (Cr rfl) rfl ?_
 refine B4 (Al rfl mM rfl) rfl ?_
 refine B4 (Qx rfl rfl) rfl ?_
 refine B4 (Cx rfl) rfl ?_
 refine B4 (G2 rfl) rfl ?_
 refine B4 (Cr rfl) rfl ?_
 refine B4 (Al rfl mM rfl) rfl ?_
 refine Av ⟨⟨_,sP⟩,?_,?_⟩
 refine B7 ?_
 refine zI rfl (M7 ha) ?_
 refine Ag ⟨rfl,⟨_,sP⟩,?_⟩
 refine Av ?_
 refine Mn ?_ rfl
 refine Av ⟨⟨_,sP⟩,?_,?_⟩
 refine B7 ?_
 refine zI rfl (T3 (v:=t.version+1) (n:=c.blocks.length) hu hl) ?_
 refine Ag ⟨rfl,⟨_,sP⟩,?_⟩
 refine Av ?_
 refine Gn ?_
 refine B7 ?_
 refine Ah rfl (fun b5=> ?_)
 rw [Cc]
 refine Ag ⟨rfl,⟨_,sP⟩,?_⟩
 refine Av ?_
 rotate_left
 refine B7 ?_
 refine Ah rfl (fun b5=> ?_)
 rw [Cc]
 refine Ag ⟨rfl,⟨_,sP⟩,?_⟩
 refine Av ?_
 refine Gn ?_
 refine B7 ?_
 refine zI rfl (T3 (v:=t.version+1) (n:=c.blocks.length) hu hl) ?_
 refine Ag ⟨rfl,⟨_,sP⟩,?_⟩
 refine Av ?_
 rotate_left
 refine B7 ?_
 refine Ah rfl (fun b5=> ?_)
 rw [Cc]
 refine Ag ⟨rfl,⟨_,sP⟩,?_⟩
 refine Av ?_
 refine Gn ?_
 refine B7 ?_
 refine zI rfl (M7 ha) ?_
 refine Ag ⟨rfl,⟨_,sP⟩,?_⟩
 refine B7 ?_
 refine zI rfl (T3 (v:=t.version+1) (n:=c.blocks.length) hu hl) ?_
 refine Ag ⟨rfl,⟨_,sP⟩,?_⟩
 refine Av ?_
 rotate_left
 all_goals
  refine Aaa ?_
  refine Gn ?_
  refine B7 ?_
  refine Ac rfl rfl uD (B9) (Ai) (Bi (by first | exact Ai | exact A20 ..)) ?_
  refine Ag ⟨rfl,⟨_,sP⟩,?_⟩
  refine Av ?_
  refine Rk ?_
  refine zC ?_
  refine At [(7,[(0,false),(1,false),(2,false),(3,false),(4,false),(5,false),(6,false)]),(8,[(7,true)]),(13,[(8,false),(9,false),(10,false),(11,false),(12,false)])] (by kernel_rfl) ?_
  iterate 7 refine sb ?_
  refine Aj (Ao rfl mM (by first | exact Ax | rfl)) ?_
  refine zC ?_
  refine zI rfl (Are (t:=t) ha hn) ?_
  refine zC ?_
  obtain ⟨q,hq⟩:∃ q,q=Dr (t.version+1) c.blocks.length u.list l.list:=⟨_,rfl⟩
  rw [← hq]
  refine Ar [0,3,5] kQ (fun (st:Nat×KS)=>[(9,.int .i64 st.1),(6,.int .i64 st.2.area),(7,.int .i64 st.2.next),(8,.int .i64 st.2.e)]) (fun st=>(b5,true,C (vbc q) tPg)::(b3,true,C [u.val,l.val] tPl)::(t.b,true,C (Ik a t) tTb)::(u.hp tI++(l.hp tI++(chH st.2.c++[])))) (fun st=>st.1≤4∧st.2.c.aC=a∧(0≤st.2.next∧st.2.next≤8)∧Dh (4 - st.1) t.area q st.2=G9 t.ts u.list l.list c) (fun st=>4 - st.1) ((0,⟨t.area,(Gk c t.area t.next q).1,(Gk c t.area t.next q).2.1,(Gk c t.area t.next q).2.2⟩)) ⟨A6j _,(Abi _ _ _ _).trans ha,Abj _ _ _ _ hn,by rw [hq];rfl⟩ kP sP ?_
  rintro ⟨k,s⟩ ⟨h0,h1,h2,h3⟩
  simp only at h0 h1 h2 h3
  refine zC ?_
  refine Aa rfl (fun c43=> ?_) (fun c43=> ?_)
  ·skip
   have hk:k<4:=(by simp at c43;omega)
   have he:s.e=34:=(by simp at c43;exact c43.2)
   rw [show 4 - k=(4 - (k+1))+1 by omega,Dh,A6v he] at h3
   refine zC ?_
   refine zI rfl (Abm h1) ?_
   refine zC ?_
   refine Aa rfl (fun c59=> ?_) (fun c59=> ?_)
   ·skip
    have hf:(Bm s.c (1 - t.area)).1=0:=(by simpa using c59)
    have hk1:G8 t.area q s=⟨1 - t.area,(Gk (Bm s.c (1 - t.area)).2 (1 - t.area) 0 q).1,(Gk (Bm s.c (1 - t.area)).2 (1 - t.area) 0 q).2.1,(Gk (Bm s.c (1 - t.area)).2 (1 - t.area) 0 q).2.2⟩:=(by unfold G8;simp only [];rw [A6v hf])
    refine zA ?_
    refine Ae (Ao rfl mM (by first | exact Ax | rfl)) rfl ?_
    refine zI rfl (Are (t:=t) (c:=(Bm s.c (1 - t.area)).2) ((Ie _ _).trans h1) (A6g 0)) ?_
    refine zC ?_
    exact ⟨(k+1,G8 t.area q s),⟨by simp only;omega,by simp only;rw [Qv];exact h1,by simp only;exact Qw h2,h3⟩,(by simp only;omega),(by rw [hk1];exact kP),kP,_,(by rw [hk1];exact sP)⟩
   ·skip
    have hf:¬ (Bm s.c (1 - t.area)).1=0:=(by simpa using c59)
    refine zC ?_
    refine Aa rfl (fun c68=> ?_) (fun c68=> ?_)
    ·skip
     have hf3:(Bm s.c (1 - t.area)).1=33:=(by simpa using c68)
     have hk1:G8 t.area q s=⟨1 - t.area,s.next,s.e,(Bm s.c (1 - t.area)).2⟩:=(by unfold G8;simp only [];rw [A6u hf,A6v hf3])
     refine zC ?_
     exact ⟨(k+1,G8 t.area q s),⟨by simp only;omega,by simp only;rw [Qv];exact h1,by simp only;exact Qw h2,h3⟩,(by simp only;omega),(by rw [hk1];exact kP),kP,_,(by rw [hk1];exact sP)⟩
    ·skip
     have hf3:¬ (Bm s.c (1 - t.area)).1=33:=(by simpa using c68)
     have hk1:G8 t.area q s=⟨1 - t.area,s.next,(Bm s.c (1 - t.area)).1,(Bm s.c (1 - t.area)).2⟩:=(by unfold G8;simp only [];rw [A6u hf,A6u hf3])
     refine zC ?_
     exact ⟨(k+1,G8 t.area q s),⟨by simp only;omega,by simp only;rw [Qv];exact h1,by simp only;exact Qw h2,h3⟩,(by simp only;omega),(by rw [hk1];exact kP),kP,_,(by rw [hk1];exact sP)⟩
  ·skip
   have hend:G9 t.ts u.list l.list c=s:=(by rw [← h3];rcases A58 k 4 with hk | hk;(rw [show 4 - k=(4 - (k+1))+1 by omega,Dh,A6u (by intro e;simp [hk,e] at c43;omega)]);(rw [show 4 - k=0 by omega,Dh]))
   refine zC ?_
   refine Aa rfl (fun c71=> ?_) (fun c71=> ?_)
   ·skip
    have hres:Bt t.ts u.list l.list c=(s.e,t.ts,s.c):=(by unfold Bt;simp only [];rw [hend,A6v (by simpa using c71)])
    refine zC ?_
    exact Bb (Aw Tryz.results159 (Af rfl)) (by refine ⟨t,rfl,?_,rfl,?_,?_,?_⟩ <;> rw [hres];(intro h;simp at h;simp [h] at c71);(intro _;rfl)) (by rw [hres];exact sP)
   ·skip
    have hz:s.e=0:=(by simpa using c71)
    have hres:Bt t.ts u.list l.list c=(0,⟨u.list,l.list,t.version+1,s.area,s.next,s.next - 1⟩,s.c):=(by unfold Bt;simp only [];rw [hend,A6u (by rw [hz];simp)];rfl)
    refine zC ?_
    refine Ahw [] [0,1,2,3,4,6,7,8,11,12,13,14] [[(5,false),(9,false),(10,false),(15,false),(16,false),(17,true)],[(18,false)],[(19,false)],[(20,true)],[(21,false)],[(22,false)],[(23,true)],[(24,false)],[(25,false)],[(26,true)],[(27,false)],[(28,false)],[(29,true)]] (by kernel_rfl) rfl rfl (fun ops w0 H0 y=> ?_)
    unfold Att
    refine B4 (Cx rfl) rfl ?_
    refine B4 (Cx rfl) rfl ?_
    refine B4 (Cx rfl) rfl ?_
    refine B4 (Cx rfl) rfl ?_
    refine B4 (Cx rfl) rfl ?_
    refine B4 (Cx rfl) rfl ?_
    refine B4 (G2 rfl) rfl ?_
    refine B4 (Cr rfl) rfl ?_
    refine B4 (Cx rfl) rfl ?_
    refine B4 (Cx rfl) rfl ?_
    refine B4 (Cx rfl) rfl ?_
    refine B4 (show Rd _ _ _ _ (.int .i64 (s.next - 1)) from Fw rfl rfl (by omega)) rfl ?_
    refine Av ?_
    refine A0i ([(b3,true,C [u.val,l.val] tPl)]) ([(t.b,3,wv t.version)]) sP (Uz (r:=true) mM rfl X4) ?_
    refine Ahy (Ao rfl mM rfl) rfl ?_
    refine A0j rfl mM rfl ?_
    refine Ahy (Qx rfl rfl) rfl ?_
    refine Ahy (G2 rfl) rfl ?_
    refine Ahy (Cr rfl) rfl ?_
    refine A0k ?_
    refine Ac rfl rfl uD rfl rfl rfl ?_
    refine Ag ⟨rfl,⟨_,sP⟩,(Uz (r:=true) mM rfl X4),?_⟩
    refine Ax6 ?_
    refine Dq ?_
    refine B4 (G2 rfl) rfl ?_
    refine Av ?_
    refine Dq ?_
    refine B4 (Cr rfl) rfl ?_
    refine Av ?_
    refine G6 ?_
    refine B7 ?_
    refine Ac rfl rfl uD rfl rfl rfl ?_
    refine Ag ⟨rfl,⟨_,sP⟩,?_⟩
    refine Av ?_
    refine Dq ?_
    refine B4 (G2 rfl) rfl ?_
    refine Av ?_
    refine Dq ?_
    refine B4 (Cr rfl) rfl ?_
    refine Av ?_
    refine G6 ?_
    refine B7 ?_
    refine Ac rfl rfl uD rfl rfl rfl ?_
    refine Ag ⟨rfl,⟨_,sP⟩,?_⟩
    refine Av ?_
    refine Dq ?_
    refine B4 (G2 rfl) rfl ?_
    refine Av ?_
    refine Dq ?_
    refine B4 (Cr rfl) rfl ?_
    refine Av ?_
    refine G6 ?_
    refine B7 ?_
    refine Ac rfl rfl uD rfl rfl rfl ?_
    refine Ag ⟨rfl,⟨_,sP⟩,?_⟩
    refine Av ?_
    refine Dq ?_
    refine B4 (G2 rfl) rfl ?_
    refine Av ?_
    refine Dq ?_
    refine B4 (Cr rfl) rfl ?_
    refine Av ?_
    refine G6 ?_
    refine B7 ?_
    refine Ac rfl rfl uD rfl rfl rfl ?_
    refine Ag ⟨rfl,⟨_,sP⟩,?_⟩
    refine Av ?_
    refine Jq ?_
    refine zC ?_
    exact Bb (Aw Tryz.results159 (Af rfl)) (by refine ⟨⟨t.b,u,l,t.version+1,s.area,s.next,s.next - 1⟩,rfl,?_,rfl,?_,?_,?_⟩ <;> rw [hres];(rfl);(intro _;exact ⟨rfl,rfl⟩);(intro h;exact absurd rfl h)) (by rw [hres];exact sP)
@[irreducible] def Dd (a:Nat) (t:Tab):Hp:=(t.b,true,C (Ik a t) tTb)::(t.u.hp tI++(t.l.hp tI++[]))
theorem D0 (a:Nat) (t:Tab):Dd a t=(t.b,true,C (Ik a t) tTb)::(t.u.hp tI++(t.l.hp tI++[])):=by unfold Dd;rfl
theorem Qy {t:Tab} {u l:Sl Int} (ha:c.aC=a) (hu:u.list.length≤1000) (hl:l.list.length≤1000) (hn:0≤t.next) (har:0≤t.area∧t.area≤1) :
  Does Tryz.prog 159 [ptr t.b,.agg #[u.val,l.val]] ((t.b,true,C (Ik a t) tTb)::(u.hp tI++(l.hp tI++(chH c++[]))))
   (fun v H=>(∃ t':Tab,t'.b=t.b∧t'.u=u∧t'.l=l∧v= .int .i64 0∧H=(t'.b,true,C (Ik a t') tTb)::(u.hp tI++(l.hp tI++(chH (Bt t.ts u.list l.list c).2.2++[])))∧(Bt t.ts u.list l.list c).1=0∧t'.ts=(Bt t.ts u.list l.list c).2.1) ∨
    (∃ e,v= .int .i64 e∧e≠0∧H=(t.b,true,C (Ik a t) tTb)::(u.hp tI++(l.hp tI++(chH (Bt t.ts u.list l.list c).2.2++[])))∧(Bt t.ts u.list l.list c).1=e∧t.ts=(Bt t.ts u.list l.list c).2.1)):=by
 refine (Av5 ha hu hl hn har).mono fun v H ⟨t',h1,h2,h3,h4,h5,h6⟩=> ?_
 grind
end
end
section
open Go.K
section
variable {c:Chip} {a:Nat} {t:Tab}
theorem Av6:Does Tryz.prog 108 [ptr t.b] (Dd a t) (Is (.int .i64 t.u.list.length) (Dd a t)):=by
 rw [D0]
 refine zF 9 Tryz.func108 ?_
 refine zC ?_
 exact zS
theorem Arf:Does Tryz.prog 108 [ptr t.b] [(t.b,true,C (Ik a t) tTb)] (Is (.int .i64 t.u.list.length) [(t.b,true,C (Ik a t) tTb)]):=by
 refine zF 9 Tryz.func108 ?_
 refine zC ?_
 exact zS
theorem Axa {i:Int}:Does Tryz.prog 185 [ptr t.b,.int .i64 i] (Dd a t) (Is (.tuple #[.int .i64 (atT t.ts i).1,.bool (atT t.ts i).2]) (Dd a t)):=by
 rw [D0]
 refine zF 22 Tryz.func185 ?_
 iterate 12 refine sb ?_
 refine' Kn rfl rfl inferInstance rfl rfl rfl rfl rfl (fun hg8=> ?_) ?_
 rotate_left
 ·try (simp at hg8;show _)
  refine zC ?_
  refine zI rfl (Arf (a:=a) (t:=t)) ?_
  refine zC ?_
  exact Ag ⟨rfl,rfl,⟨_,sP⟩⟩
 refine zC ?_
 refine Aa rfl (fun c13=> ?_) (fun c13=> ?_)
 ·skip
  have hres:atT t.ts i=(0,false):=(by exact A6v c13)
  refine zC ?_
  refine Ak (Dj Tryz.results185 (Af rfl) (Af rfl)) ?_ sP
  rw [hres]
 ·skip
  have hres:atT t.ts i=(at0 t.u.list i,true):=(by unfold atT;rw [A6u (by rw [show t.ts.uses=t.u.list from rfl,c13];grind)];rfl)
  have hi:0≤i∧i<t.u.list.length:=(by grind)
  iterate 10 refine sb ?_
  refine Ae (Az rfl rfl hi) rfl ?_
  refine Ae (Ca (o:=0) rfl pL (Io hi.1 hi.2) rfl rfl) rfl ?_
  refine zC ?_
  refine Ak (Dj Tryz.results185 (Af rfl) (Af rfl)) ?_ sP
  rw [hres]
theorem Wj (ha:c.aC=a) {b:Int}:Does Tryz.prog 241 [ptr t.b,.int .i64 b] (Dd a t++(chH c++[])) (Is (.bool (D6 t.ts c.blocks.length b)) (Dd a t++(chH c++[]))):=by
 rw [D0];simp only [A4n,A34]
 refine zF 36 Tryz.func241 ?_
 iterate 10 refine sb ?_
 refine' G4 rfl rfl inferInstance rfl rfl rfl rfl rfl (fun hg7=> ?_) ?_
 rotate_left
 ·try (simp at hg7;show _)
  refine zC ?_
  refine zI rfl (M7 ha) ?_
  refine zC ?_
  exact Ag ⟨rfl,rfl,⟨_,sP⟩⟩
 refine sa ?_
 refine' G4 rfl rfl inferInstance rfl rfl rfl rfl rfl (fun hg16=> ?_) ?_
 rotate_left
 ·try (simp at hg16;show _)
  refine zC ?_
  refine zI rfl (H5 (s:=t.u) (T:=tI)) ?_
  refine zC ?_
  exact Ag ⟨rfl,rfl,⟨_,sP⟩⟩
 refine sa ?_
 refine' G4 rfl rfl inferInstance rfl rfl rfl rfl rfl (fun hg26=> ?_) ?_
 rotate_left
 ·try (simp at hg26;show _)
  refine zC ?_
  refine zI rfl (H5 (s:=t.l) (T:=tI)) ?_
  refine zC ?_
  exact Ag ⟨rfl,rfl,⟨_,sP⟩⟩
 refine zC ?_
 exact zS
theorem Al2 (ha:c.aC=a) (hn:c.blocks.length≤1000):Does Tryz.prog 229 [ptr t.b] (Dd a t++(chH c++[])) (Is (.tuple #[.int .i64 (Be t.ts c.blocks.length).1,.bool (Be t.ts c.blocks.length).2]) (Dd a t++(chH c++[]))):=by
 rw [D0];simp only [A4n,A34]
 refine zF 18 Tryz.func229 ?_
 refine zC ?_
 refine zI rfl (M7 ha) ?_
 refine zC ?_
 refine Dw [0,9] kQ (fun (i:Nat)=>[(10,.int .i64 i)]) (fun i=>i≤c.blocks.length∧∀ k<i,D6 t.ts c.blocks.length k=false) (fun i=>c.blocks.length - i) ((0:Nat)) ⟨A6j _,fun k hk=>by omega⟩ kP ?_
 rintro i ⟨h0,h1⟩
 refine zC ?_
 refine Aa rfl (fun c11=> ?_) (fun c11=> ?_)
 ·simp only [A4f] at c11
  refine zC ?_
  refine zI rfl ((by have h:=Wj (t:=t) ha (b:=(i:Int));rw [D0] at h;simp only [A4n,A34,A5b] at h;exact h)) ?_
  refine zC ?_
  refine Aa rfl (fun c15=> ?_) (fun c15=> ?_)
  ·skip
   have hres:=Ael (by omega) h1 c15
   refine zC ?_
   refine Ak (Dj Tryz.results229 (Af rfl) (Af rfl)) ?_ sP
   rw [hres]
  ·skip
   refine zC ?_
   exact ⟨i+1,⟨by omega,fun k hk=>by grind⟩,(by omega),lZ⟩
 ·simp only [ A2m] at c11
  have hres:=Ag2 (t:=t.ts) (n:=c.blocks.length) (fun k hk=>h1 k (by omega))
  refine zC ?_
  refine Ak (Dj Tryz.results229 (Af rfl) (Af rfl)) ?_ sP
  rw [hres]
theorem Av7 {b:Int} (hu:t.u.list.length≤1000) (hl:t.l.list.length≤11):Does Tryz.prog 243 [ptr t.b,.int .i64 b] (Dd a t) (fun v H=>∃ u l:Sl Int,v= .agg #[u.val,l.val]∧H=u.hp tI++(l.hp tI++(Dd a t++[]))∧u.list=t.u.list∧l.list.Perm (t.l.list++[b])∧u.isOwn=true∧l.isOwn=true):=by
 rw [D0]
 refine zF 21 Tryz.func243 ?_
 refine zC ?_
 refine Ah rfl (fun b4=> ?_)
 refine zC ?_
 refine zE rfl (Al1 (u:=t.u) (l:=t.l) hu (by omega)) ?_
 rintro _ _ ⟨u10,l10,rfl,rfl,hu10,hl10,ou10,ol10⟩
 refine A6 aQ ?_
 refine Ah rfl (fun b5=> ?_)
 refine zC ?_
 refine Am rfl rfl rfl rfl (fun b14=> ?_)
 refine A5 (s:=l10) (new:=[b]) (m:=1) rfl rfl pL ol10 (Ck (r:=true) mM rfl) rfl rfl rfl rfl (by rw [hl10];omega) rfl (fun s15 hs1 hs2=> ?_)
 refine zC ?_
 refine zE rfl (Av4 (s:=s15) hs2 (by rw [hs1,hl10];simp;omega)) ?_
 rintro _ _ ⟨rfl,l19,rfl,hv19,ho19,hp19⟩
 refine zW ?_
 exact Bb (Aw Tryz.results243 (Bc rfl mM rfl)) (by exact ⟨u10,l19,by rw [hv19],rfl,hu10,by rw [← hl10,← hs1];exact hp19,ou10,ho19⟩) (by simp only [A4n,A34];exact sP)
def Ai7 (a:Nat) (t:Tab) (c:Chip) (uses lost:List Int) (v:Value) (H:Hp):Prop :=
 ∃ (t':Tab) (lost':List Int),t'.b=t.b∧lost'.Perm lost∧v= .int .i64 (Bt t.ts uses lost' c).1∧H=Dd a t'++(chH (Bt t.ts uses lost' c).2.2++[])∧t'.ts=(Bt t.ts uses lost' c).2.1
theorem Nq {u uses l lost:List Int} {t':Tab} {v:Value} (hb:t'.b=t.b) (hP:l.Perm lost) (hu:u=uses) (hv:v= .int .i64 (Bt t.ts u l c).1) (hts:t'.ts=(Bt t.ts u l c).2.1):Ai7 a t c uses lost v (Dd a t'++(chH (Bt t.ts u l c).2.2++[])):=by
 subst hu;exact ⟨t',l,hb,hP,hv,rfl,hts⟩
theorem Al3 (ha:c.aC=a) {b:Int}:Does Tryz.prog 241 [ptr t.b,.int .i64 b] ((t.b,true,C (Ik a t) tTb)::(t.u.hp tI++(t.l.hp tI++(chH c++[])))) (Is (.bool (D6 t.ts c.blocks.length b)) ((t.b,true,C (Ik a t) tTb)::(t.u.hp tI++(t.l.hp tI++(chH c++[]))))):=by
 have h:=Wj (t:=t) ha (b:=b)
 rw [D0] at h;grind
theorem Aen {b:Int} (hu:t.u.list.length≤1000) (hl:t.l.list.length≤11):Does Tryz.prog 243 [ptr t.b,.int .i64 b] ((t.b,true,C (Ik a t) tTb)::(t.u.hp tI++(t.l.hp tI++[]))) (fun v H=>∃ u l:Sl Int,v= .agg #[u.val,l.val]∧H=u.hp tI++(l.hp tI++((t.b,true,C (Ik a t) tTb)::(t.u.hp tI++(t.l.hp tI++[]))))∧u.list=t.u.list∧l.list.Perm (t.l.list++[b])∧u.isOwn=true∧l.isOwn=true):=by
 have h:=Av7 (t:=t) (a:=a) (b:=b) hu hl
 rw [D0] at h;grind
theorem Arg (ha:c.aC=a) {b:Int} (hu:t.u.list.length≤1000) (hl:t.l.list.length≤11) (hn:0≤t.next) (har:0≤t.area∧t.area≤1):Does Tryz.prog 232 [ptr t.b,.int .i64 b] (Dd a t++(chH c++[]))
  (fun v H=>if D6 t.ts c.blocks.length b=true then Ai7 a t c t.u.list (t.l.list++[b]) v H else v= .int .i64 1∧H=Dd a t++(chH c++[])):=by
 rw [D0];simp only [A4n,A34]
 refine zF 14 Tryz.func232 ?_
 refine zC ?_
 refine zI rfl (Al3 (t:=t) ha) ?_
 refine zC ?_
 refine Aa rfl (fun c8=> ?_) (fun c8=> ?_)
 ·skip
  refine zC ?_
  exact zL (hR:=by rw [A6u (by grind)];exact ⟨rfl,rfl⟩)
 ·skip
  refine zC ?_
  refine zE rfl (Aen (t:=t) (a:=a) hu hl) ?_
  rintro _ _ ⟨u12,l12,rfl,rfl,hu12,hl12,ou12,ol12⟩
  refine A6 aQ ?_
  refine Ch rfl (Qy (t:=t) (u:=u12) (l:=l12) ha (by rw [hu12];exact hu) (by rw [hl12.length_eq];simp;omega) hn har) sP rfl (fun v13 Y13 h13=> ?_)
  rcases h13 with ⟨t',e1,e2,e3,rfl,rfl,e4,e5⟩ | ⟨e,rfl,e1,rfl,e4,e5⟩
  all_goals
   refine A6 aQ ?_
   refine zC ?_
   exact Bb (Aw Tryz.results232 (Af rfl)) (by rw [A6v (by simpa using c8)];first | exact Nq e1 hl12 hu12 (by rw [e4]) e5 | exact Nq (t':=t) rfl hl12 hu12 (by rw [e4]) e5) (by rw [D0];simp only [A4n,A34,A5b];first | (rw [e2,e3];exact sP) | exact sP)
theorem Av8 (ha:c.aC=a) {i b:Int} (hu:t.u.list.length≤1000) (hl:t.l.list.length≤11) (hn:0≤t.next) (har:0≤t.area∧t.area≤1):Does Tryz.prog 231 [ptr t.b,.int .i64 i,.int .i64 b] (Dd a t++(chH c++[]))
  (fun v H=>if ((atT t.ts i).2 && D6 t.ts c.blocks.length b)=true then Ai7 a t c (t.u.list.set i.toNat b) (t.l.list++[at0 t.u.list i]) v H else v= .int .i64 1∧H=Dd a t++(chH c++[])):=by
 refine zF 35 Tryz.func231 ?_
 refine zC ?_
 refine zI rfl (Axa (t:=t)) ?_
 iterate 13 refine sb ?_
 refine' Kn rfl rfl inferInstance rfl rfl rfl rfl rfl (fun hg18=> ?_) ?_
 rotate_left
 ·try (simp at hg18;show _)
  refine zC ?_
  refine zI rfl (Wj (t:=t) ha) ?_
  refine zC ?_
  exact Ag ⟨rfl,rfl,⟨_,sP⟩⟩
 refine zC ?_
 refine Aa rfl (fun c23=> ?_) (fun c23=> ?_)
 ·skip
  have hc:¬ ((atT t.ts i).2 && D6 t.ts c.blocks.length b)=true:=(by grind)
  refine zC ?_
  exact zL (hR:=by rw [A6u hc];exact ⟨rfl,rfl⟩)
 ·skip
  have hc:(atT t.ts i).2=true∧D6 t.ts c.blocks.length b=true:=(by grind)
  have hi:0≤i∧i<t.u.list.length:=(by have:=hc.1;unfold atT at this;split at this;cases this;rename_i h;simp at h;have e:t.ts.uses=t.u.list:=rfl;rw [e] at h;omega)
  have hat:(atT t.ts i).1=at0 t.u.list i:=(by have:=hc.1;unfold atT at this ⊢;split at this;cases this;rename_i h;rw [A6u h];rfl)
  rw [hat,D0]
  refine zC ?_
  refine zE rfl (Aen (t:=t) (a:=a) hu hl) ?_
  rintro _ _ ⟨u26,l26,rfl,rfl,hu26,hl26,ou26,ol26⟩
  refine A6 aQ ?_
  refine Ah rfl (fun b9=> ?_)
  iterate 9 refine sb ?_
  refine Ae (Az rfl rfl ⟨hi.1,by rw [hu26];exact hi.2⟩) rfl ?_
  (have hg:u26.list[i.toNat]? =some (at0 t.u.list i):=by (rw [hu26];exact Io hi.1 hi.2));obtain ⟨u',hu'⟩:∃ u',u'=u26.set i.toNat b:=⟨_,rfl⟩;refine Ni (s:=u26) (o:=0) (z':=b) rfl rfl uL ou26 hg rfl rfl rfl (by rw [T1 ou26];exact A6c _) ?_;rw [← hu'];have hl':u'.list=t.u.list.set i.toNat b:=(by rw [hu',Sl.set_list _ _ _ ou26,hu26]);have hv':u'.val=u26.val:=(by rw [hu',Sl.set_val])
  refine zC ?_
  refine Ch rfl ((by have h:=Qy (c:=c) (a:=a) (t:=t) (u:=u') (l:=l26) ha (by rw [hl',A47];exact hu) (by rw [hl26.length_eq];simp;omega) hn har;rw [hv'] at h;exact h)) sP rfl (fun v34 Y34 h34=> ?_)
  rcases h34 with ⟨t',e1,e2,e3,rfl,rfl,e4,e5⟩ | ⟨e,rfl,e1,rfl,e4,e5⟩
  all_goals
   refine A6 aQ ?_
   refine zC ?_
   exact Bb (Aw Tryz.results231 (Af rfl)) (by rw [A6v (by rw [hc.1,hc.2];rfl)];first | exact Nq e1 hl26 hl' (by rw [e4]) e5 | exact Nq (t':=t) rfl hl26 hl' (by rw [e4]) e5) (by rw [D0];simp only [A4n,A34,A5b];first | (rw [e2,e3];exact sP) | exact sP)
end
end
section
open Go.K
instance zer227:Zer Tryz.prog 227 ([.pointer none,.slice none 0 0,.slice none 0 0,.int .u64 0,.int .i64 0,.int .i64 0,.int .i64 0]):=⟨by kernel_rfl⟩
instance plc227:Plc Tryz.prog 227 [(0,1),(1,2),(3,1),(4,1),(5,1),(6,1)]:=⟨⟨_,Tryz.underlying227,fun _=>by kernel_rfl⟩⟩
def Wk (a:Nat) (c:Chip) (v:Value) (H:Hp):Prop :=
 if (Di c).1=0 then ∃ t:Tab,v= .tuple #[ptr t.b,.int .i64 0]∧H=Dd a t++(chH c++[])∧t.ts=(Di c).2
 else v= .tuple #[.pointer none,.int .i64 (Di c).1]∧H=chH c++[]
def A1u (s:Sc) (u l:Sl Int):Prop:=u.list=s.uses∧l.list=s.lost
theorem Abn {c:Chip} (hb:2≤c.blocks.length∧c.blocks.length≤1000):Does Tryz.prog 129 [ptr c.aC] (chH c) (Wk c.aC c):=by
 refine Kf (n:=101) Tryz.func129 Tryz.ntmps129 rfl (A25 rfl)<|An<|Ad fun ops=>oA rfl<|oA rfl<|Ag<|n_K<|An<|Ad fun ops=>oM rfl<|oR (Db rfl rfl) ?_
 refine Cy rfl rfl fun b20=> ?_
 refine oA rfl<|Ag<|n_K<|An<|Ad fun ops=>oA rfl<|Ag<|n_K<|An<|An<|Ad fun ops=>oM rfl<|Ag<|n_K ?_
 refine Ct ?_
 refine Ki (G:=(b20,true,C (Ik c.aC ⟨b20,.nil,.nil,0,0,0,0⟩) tTb)::((Sl.nil:Sl Int).hp tI++((Sl.nil:Sl Int).hp tI++(chH c++[])))) (by simp only [Sl.hp_nil,A5b,A42];rfl) ?_
 refine Ar [0,4] kQ (fun (st:Nat×Tab)=>[(21,.int .i64 st.1),(5,.bool (C9 c st.1).2)]) (fun (st:Nat×Tab)=>(b20,true,C (Ik c.aC st.2) tTb)::(st.2.u.hp tI++(st.2.l.hp tI++(chH c++[])))) (fun (st:Nat×Tab)=>st.1≤2∧st.2.ts=(C9 c st.1).1∧st.2.b=b20∧(0<st.1→B0 c 0 0=0)) (fun (st:Nat×Tab)=>2 - st.1) ((0,⟨b20,.nil,.nil,0,0,0,0⟩)) ⟨A6j _,rfl,rfl,fun h=>by simp at h⟩ kP sP ?_
 rintro ⟨k,t⟩ ⟨h0,h1,h2,h3⟩
 simp only at h0 h1 h2 h3
 refine An<|Ad fun ops=>oR (Au rfl rfl rfl)<|Ag<|n_K<|An ?_
 refine Aa rfl (fun c22=> ?_) (fun c22=> ?_)
 ·simp only [A4f,A2m] at c22
  refine Cg<|n_K<|An<|Ct<|An<|Ad fun ops=>oM rfl<|oA rfl<|Ag<|n_K<|An<|Ad fun ops=>oA rfl<|Ag ?_
  refine n_K<|An<|Ad fun ops=> ?_
  refine Ah rfl fun b8=> ?_
  refine Ag<|n_K<|An<|Ad fun ops=>oA rfl<|Ag<|n_K<|An<|Ad fun ops=>oA rfl<|oA rfl<|Ag<|n_K<|An ?_
  refine An<|Ad fun ops=>oM rfl<|Ag<|n_K<|Ct ?_
  refine Ki (G:=(b8,true,C [(Sl.nil:Sl Int).val,(Sl.nil:Sl Int).val] tPl)::((Sl.nil:Sl Int).hp tI++((Sl.nil:Sl Int).hp tI++((b20,true,C (Ik c.aC t) tTb)::(t.u.hp tI++(t.l.hp tI++(chH c++[]))))))) (by simp only [Sl.hp_nil,A5b];rfl) ?_
  refine Ar [0,4,5,6,8,21] kQ (fun (st:Nat×Sl Int×Sl Int)=>[(24,.int .i64 st.1),(7,.int .i64 (Ce c k st.1).last),(9,wv (Ce c k st.1).newest),(10,.int .i64 (Ce c k st.1).at'),(11,.bool (Ce c k st.1).any)]) (fun (st:Nat×Sl Int×Sl Int)=>(b8,true,C [st.2.1.val,st.2.2.val] tPl)::(st.2.1.hp tI++(st.2.2.hp tI++((b20,true,C (Ik c.aC t) tTb)::(t.u.hp tI++(t.l.hp tI++(chH c++[]))))))) (fun (st:Nat×Sl Int×Sl Int)=>st.1≤8∧A1u (Ce c k st.1) st.2.1 st.2.2∧(0<st.1→B0 c 0 0=0)) (fun (st:Nat×Sl Int×Sl Int)=>8 - st.1) ((0,.nil,.nil)) ⟨A6j _,⟨rfl,rfl⟩,fun h=>by simp at h⟩ kP sP ?_
  rintro ⟨i,u,l⟩ ⟨k0,k1,k2⟩
  simp only at k0 k1 k2
  refine An<|Ad fun ops=>oR (Au rfl rfl rfl)<|Ag<|n_K<|An ?_
  refine Aa rfl (fun c25=> ?_) (fun c25=> ?_)
  ·simp only [A4f,A2m] at c25
   have hms:B0 c k i=B0 c 0 0:=Aq9 hb.1 (by omega) (by omega)
   have hsc:Ce c k (i+1)=K6 c k i (Ce c k i):=rfl
   refine Cg<|n_K<|An<|Ct<|An<|Ad fun ops=>oM rfl<|oA rfl<|Ag<|n_K<|An<|Ad fun ops=>oM rfl<|oM rfl ?_
   refine oM rfl ?_
   refine Ir rfl (Aaw) sP rfl aQ ?_
   refine oM rfl<|oE rfl rfl<|oE rfl rfl ?_
   refine Ah rfl fun b13=> ?_
   rw [Cc]
   first | refine Ac rfl rfl uD (B9) (Ai) (Bi (by first | exact Ai | exact A20 ..)) ?_ | refine Ac rfl rfl uD rfl rfl rfl ?_
   refine oA rfl<|Ag<|n_K<|An<|An<|Ad fun ops=>oM rfl<|oR (Au rfl rfl rfl)<|Ag<|n_K ?_
   refine Aa rfl (fun c35=> ?_) (fun c35=> ?_)
   ·skip
    have hne:¬ B0 c 0 0=0:=(by rw [← hms];simpa using c35)
    have hres:Di c=(B0 c 0 0,ts0):=(by unfold Di;rw [A6v hne])
    refine An<|Ad fun ops=>oM rfl<|oA rfl<|oA rfl<|Ag<|n_K<|Im<|r_K<|U9<|r_K<|r_K<|U9<|r_K ?_
    refine U9<|r_K<|r_K<|U9<|r_K ?_
    exact Bb (Dj Tryz.results129 (Af rfl) (Af rfl)) (by unfold Wk;rw [A6u (by rw [hres];exact hne),hres,hms];exact ⟨rfl,rfl⟩) sP
   ·skip
    have hz:B0 c 0 0=0:=(by rw [← hms];simpa using c35)
    refine Cg<|n_K ?_
    refine Ayl [0,4,5,6,8,9,10,11,12,13,21,24] kQ ([(7,.int .i64 (if Bh (B3 c k i)=true then (Ce c k i).last else (i:Int)+1))]) ?_ ?_
    ·refine An<|Ad fun ops=> ?_
     refine oR (Ao rfl mM (by first | exact Ax | rfl)) ?_
     refine Ir rfl (Re) sP rfl aQ ?_
     refine oR (D5 rfl)<|Ag<|n_K ?_
     refine Aa rfl (fun c39=> ?_) (fun c39=> ?_)
     ·skip
      have hla:(if Bh (B3 c k i)=true then (Ce c k i).last else (i:Int)+1)=(i:Int)+1:=(by rw [A6u (by simpa using c39)])
      refine Ad fun ops=>oM rfl ?_
      refine oR (B5 rfl rfl (by omega)) ?_
      refine oA rfl<|Ag ?_
      try refine Ag ?_
      rw [hla];exact cZ rfl
     ·skip
      have hla:(if Bh (B3 c k i)=true then (Ce c k i).last else (i:Int)+1)=(Ce c k i).last:=(by rw [A6v (by simpa using c39)])
      refine Cg ?_
      try refine Ag ?_
      rw [hla];exact cZ rfl
    refine An ?_
    refine Ng [] [(11,(.fork [(0,false),(1,false)] 2 (.fork [] 3 (.one [(4,false),(5,false),(6,false),(7,false),(8,true),(9,true),(10,false)]) 8 (.one [(3,true),(4,false),(5,false),(6,false),(7,false),(9,true),(10,false)])) 8 (.one [(2,true),(3,true),(4,false),(5,false),(6,false),(7,false),(9,true),(10,false)]))),(12,(.one [(11,false)]))] (by kernel_rfl) rfl fun ops w0 H0 y=> ?_
    refine Le ?_
    refine Mn ?_ rfl
    refine xR (Ao rfl mM (by first | exact Ax | rfl)) ?_
    refine xM rfl ?_
    refine Av ⟨⟨_,sP⟩,?_,?_⟩
    refine B7 ?_
    refine Ir rfl (Kv) sP rfl aQ ?_
    refine Ag ⟨rfl,⟨_,sP⟩,?_⟩
    refine Av ?_
    refine Mn ?_ rfl
    refine Av ⟨⟨_,sP⟩,?_,?_⟩
    refine B7 ?_
    refine Ch rfl (Wi (q:=B3 c k i) (n:=c.blocks.length)) sP rfl fun v46 Y46 h46=> ?_
    obtain ⟨u46,l46,rfl,rfl,hu46,hl46,ou46,ol46⟩:=h46
    refine A6 aQ ?_
    refine Ag ⟨rfl,⟨_,sP⟩,?_⟩
    refine Av ?_
    refine Gn ?_
    refine xM rfl<|xE rfl rfl<|xE rfl rfl<|xE rfl rfl<|B7 ?_
    refine Ah rfl fun b15=> ?_
    refine Ag ⟨rfl,⟨_,sP⟩,?_⟩
    refine B7 ?_
    refine Ac rfl rfl uD rfl rfl rfl ?_
    refine Ag ⟨rfl,⟨_,sP⟩,?_⟩
    refine xA rfl<|Av ?_
    rotate_left
    refine B7 ?_
    refine Ah rfl fun b15=> ?_
    refine Ag ⟨rfl,⟨_,sP⟩,?_⟩
    refine Av ?_
    refine Gn ?_
    refine B7 ?_
    refine Ch rfl (Wi (q:=B3 c k i) (n:=c.blocks.length)) sP rfl fun v46 Y46 h46=> ?_
    obtain ⟨u46,l46,rfl,rfl,hu46,hl46,ou46,ol46⟩:=h46
    refine A6 aQ ?_
    refine Ag ⟨rfl,⟨_,sP⟩,?_⟩
    refine xM rfl<|xE rfl rfl<|xE rfl rfl<|xE rfl rfl<|B7 ?_
    refine Ac rfl rfl uD rfl rfl rfl ?_
    refine Ag ⟨rfl,⟨_,sP⟩,?_⟩
    refine xA rfl<|Av ?_
    rotate_left
    refine B7 ?_
    refine Ah rfl fun b15=> ?_
    refine Ag ⟨rfl,⟨_,sP⟩,?_⟩
    refine Av ?_
    refine Gn ?_
    refine B7 ?_
    refine Ir rfl (Kv) sP rfl aQ ?_
    refine Ag ⟨rfl,⟨_,sP⟩,?_⟩
    refine B7 ?_
    refine Ch rfl (Wi (q:=B3 c k i) (n:=c.blocks.length)) sP rfl fun v46 Y46 h46=> ?_
    obtain ⟨u46,l46,rfl,rfl,hu46,hl46,ou46,ol46⟩:=h46
    refine A6 aQ ?_
    refine Ag ⟨rfl,⟨_,sP⟩,?_⟩
    refine xM rfl<|xE rfl rfl<|xE rfl rfl<|xE rfl rfl<|B7 ?_
    refine Ac rfl rfl uD rfl rfl rfl ?_
    refine Ag ⟨rfl,⟨_,sP⟩,?_⟩
    refine xA rfl<|Av ?_
    rotate_left
    all_goals
     refine Le ?_
     refine Gn ?_
     refine xA rfl<|Av ?_
     refine Rk ?_
     refine n_K<|An ?_
     refine H8 [(1,51),(4,54)] rfl fun ops y=> ?_
     refine oM rfl<|oM rfl ?_
     refine' U5 (j:=1) (k:=7) y rfl rfl rfl rfl rfl rfl rfl (fun hg51=> ?_) ?_
     rotate_left
     ·try (simp at hg51;show _)
      refine o_g y rfl rfl ?_
      refine oM rfl ?_
      refine o_g y rfl rfl ?_
      refine oR (D5 rfl) ?_
      refine o_g y rfl rfl ?_
      refine oM rfl ?_
      refine' Afx (j:=4) (k:=3) y rfl rfl rfl rfl rfl rfl rfl (fun hg54=> ?_) ?_
      rotate_left
      ·try (simp at hg54;show _)
       refine o_g y rfl rfl ?_
       refine oM rfl ?_
       refine o_g y rfl rfl ?_
       refine oM rfl ?_
       refine o_g y rfl rfl ?_
       refine oR (Au rfl rfl rfl) ?_
       exact Ag ⟨rfl,rfl,⟨_,sP⟩⟩
      exact Ag ⟨rfl,rfl,⟨_,sP⟩⟩
     refine Ag<|n_K ?_
     refine Aa rfl (fun c59=> ?_) (fun c59=> ?_)
     ·skip
      have hs1:Ce c k (i+1)=⟨(if Bh (B3 c k i)=true then (Ce c k i).last else (i:Int)+1),(Ed (B3 c k i) c.blocks.length).1,(Ed (B3 c k i) c.blocks.length).2.1,(Ed (B3 c k i) c.blocks.length).2.2.1,i,true⟩:=(by rw [hsc];unfold K6;simp only [];rw [A6v c59])
      refine Ad fun ops=> ?_
      refine oR (Ao rfl mM rfl) ?_
      refine oM rfl<|oM rfl ?_
      refine Ac rfl rfl uD rfl rfl rfl ?_
      refine oA rfl<|oA rfl<|oA rfl<|Ag<|Eh<|n_K<|Ad fun ops=> ?_
      refine oR (B5 rfl rfl (by omega)) ?_
      refine oM rfl<|Ag<|n_K ?_
      first | refine ⟨(i+1,u,l),⟨by simp only;omega,by rw [hs1];exact k1,fun _=>hz⟩,by simp only;omega,(by rw [hs1];exact kP),kP,_,sP⟩ | refine ⟨(i+1,u46,l46),⟨by simp only;omega,by rw [hs1];exact ⟨hu46,hl46⟩,fun _=>hz⟩,by simp only;omega,(by rw [hs1];exact kP),kP,_,sP⟩
     ·skip
      have hs1:Ce c k (i+1)={ Ce c k i with last:=(if Bh (B3 c k i)=true then (Ce c k i).last else (i:Int)+1) }:=(by rw [hsc];unfold K6;simp only [];rw [A6u (by rw [c59];exact A3r)])
      refine Cg<|Eh<|n_K<|Ad fun ops=> ?_
      refine oR (B5 rfl rfl (by omega)) ?_
      refine oM rfl<|Ag<|n_K ?_
      first | refine ⟨(i+1,u,l),⟨by simp only;omega,by rw [hs1];exact k1,fun _=>hz⟩,by simp only;omega,(by rw [hs1];exact kP),kP,_,sP⟩ | refine ⟨(i+1,u46,l46),⟨by simp only;omega,by rw [hs1];exact ⟨hu46,hl46⟩,fun _=>hz⟩,by simp only;omega,(by rw [hs1];exact kP),kP,_,sP⟩
  ·simp only [A4f,A2m] at c25
   have hi8:i=8:=(by omega)
   subst hi8
   have hz:B0 c 0 0=0:=k2 (by omega)
   have hop:C9 c (k+1)=Je c k (C9 c k):=rfl
   rw [show C9 c k=((C9 c k).1,(C9 c k).2) from rfl,← h1] at hop
   refine Jy<|x_K<|x_K<|N4<|n_K<|An ?_
   refine H8 [(1,65),(4,68)] rfl fun ops y=> ?_
   refine oM rfl<|oM rfl ?_
   refine' U5 (j:=1) (k:=10) y rfl rfl rfl rfl rfl rfl rfl (fun hg65=> ?_) ?_
   rotate_left
   ·try (simp at hg65;show _)
    refine o_g y rfl rfl ?_
    refine oM rfl ?_
    refine o_g y rfl rfl ?_
    refine oR (D5 rfl) ?_
    refine o_g y rfl rfl ?_
    refine oM rfl ?_
    refine' Afx (j:=4) (k:=6) y rfl rfl rfl rfl rfl rfl rfl (fun hg68=> ?_) ?_
    rotate_left
    ·try (simp at hg68;show _)
     refine o_g y rfl rfl ?_
     refine oM rfl ?_
     refine o_g y rfl rfl ?_
     refine oM rfl ?_
     refine o_g y rfl rfl ?_
     refine oN rfl ?_
     refine o_g y rfl rfl ?_
     refine oF rfl ?_
     refine o_g y rfl rfl ?_
     refine oR (Al rfl mM rfl) ?_
     refine o_g y rfl rfl ?_
     refine oR (Au rfl rfl rfl) ?_
     exact Ag ⟨rfl,rfl,⟨_,sP⟩⟩
    exact Ag ⟨rfl,rfl,⟨_,sP⟩⟩
   refine Ag<|n_K ?_
   refine Aa rfl (fun c76=> ?_) (fun c76=> ?_)
   ·skip
    have ho1:C9 c (k+1)=(⟨(Ce c k 8).uses,(Ce c k 8).lost,(Ce c k 8).newest,k,(Ce c k 8).last,(Ce c k 8).at'⟩,true):=(by rw [hop];exact A6v c76)
    refine Ad fun ops=>oM rfl<|oM rfl<|oM rfl<|oM rfl<|oM rfl ?_
    refine oR (Ao rfl mM rfl) ?_
    refine oM rfl<|oM rfl<|oM rfl<|oM rfl<|oN rfl<|oF rfl ?_
    refine Ac rfl rfl uD rfl rfl rfl ?_
    refine oN rfl<|oF rfl ?_
    refine Ac rfl rfl uD rfl rfl rfl ?_
    refine oN rfl<|oF rfl ?_
    refine Ac rfl rfl uD rfl rfl rfl ?_
    refine oN rfl<|oF rfl ?_
    refine Ac rfl rfl uD rfl rfl rfl ?_
    refine oN rfl<|oF rfl ?_
    refine Ac rfl rfl uD rfl rfl rfl ?_
    refine oA rfl<|Ag<|Eh<|n_K<|Ad fun ops=> ?_
    refine oR (B5 rfl rfl (by omega)) ?_
    refine oM rfl<|Ag<|n_K ?_
    first | refine ⟨(k+1,t),⟨by simp only;omega,by rw [ho1];exact h1,h2,fun _=>hz⟩,by simp only;omega,(by rw [ho1];exact kP),kP,_,sP⟩ | refine ⟨(k+1,⟨b20,u,l,(Ce c k 8).newest,k,(Ce c k 8).last,(Ce c k 8).at'⟩),⟨by simp only;omega,by rw [ho1];show TS.mk _ _ _ _ _ _=_;rw [k1.1,k1.2],rfl,fun _=>hz⟩,by simp only;omega,(by rw [ho1];exact kP),kP,_,sP⟩
   ·skip
    have ho1:C9 c (k+1)=C9 c k:=(by rw [hop];refine (A6u (by intro h;have h':=h.symm.trans c76;cases h')).trans ?_;rw [h1])
    refine Cg<|Eh<|n_K<|Ad fun ops=> ?_
    refine oR (B5 rfl rfl (by omega)) ?_
    refine oM rfl<|Ag<|n_K ?_
    first | refine ⟨(k+1,t),⟨by simp only;omega,by rw [ho1];exact h1,h2,fun _=>hz⟩,by simp only;omega,(by rw [ho1];exact kP),kP,_,sP⟩ | refine ⟨(k+1,⟨b20,u,l,(Ce c k 8).newest,k,(Ce c k 8).last,(Ce c k 8).at'⟩),⟨by simp only;omega,by rw [ho1];show TS.mk _ _ _ _ _ _=_;rw [k1.1,k1.2],rfl,fun _=>hz⟩,by simp only;omega,(by rw [ho1];exact kP),kP,_,sP⟩
 ·simp only [A4f,A2m] at c22
  have hk2:k=2:=(by omega)
  subst hk2
  have hz:B0 c 0 0=0:=h3 (by omega)
  refine Jy<|x_K<|x_K<|N4<|n_K<|An<|An<|Ad fun ops=>oM rfl<|oR (D5 rfl)<|Ag<|n_K ?_
  refine Aa rfl (fun c99=> ?_) (fun c99=> ?_)
  ·skip
   have hres:Di c=(35,ts0):=(by unfold Di;rw [A6u (by rw [hz];simp),A6u (by simpa using c99)])
   refine An<|Ad fun ops=>oA rfl<|oA rfl<|Ag<|n_K<|Im<|r_K ?_
   exact Bb (Dj Tryz.results129 (Af rfl) (Af rfl)) (by unfold Wk;rw [A6u (by rw [hres];decide),hres];exact ⟨rfl,rfl⟩) sP
  ·skip
   have hres:Di c=(0,(C9 c 2).1):=(by unfold Di;rw [A6u (by rw [hz];simp),A6v (by simpa using c99)])
   refine Cg<|n_K<|An<|Ad fun ops=>oM rfl<|oA rfl<|oA rfl<|Ag<|n_K<|Im ?_
   exact Bb (Dj Tryz.results129 (Af rfl) (Af rfl)) (by unfold Wk;rw [A6v (by rw [hres])];exact ⟨t,by rw [h2],rfl,by rw [hres,h1]⟩) (by rw [D0,h2];simp only [A4n,A34,A5b];exact sP)
theorem Arh {c:Chip} (hb:2≤c.blocks.length∧c.blocks.length≤1000):Does Tryz.prog 129 [ptr c.aC] (chH c) (fun v H=>(∃ t:Tab,v= .tuple #[ptr t.b,.int .i64 0]∧H=Dd c.aC t++(chH c++[])∧t.ts=(Di c).2∧(Di c).1=0)∨(v= .tuple #[.pointer none,.int .i64 (Di c).1]∧H=chH c++[]∧(Di c).1≠0)) :=
 (Abn hb).mono fun v H h=>by
  unfold Wk at h
  grind
def Abo (a:Nat) (c:Chip) (v:Value) (H:Hp):Prop :=
 (∃ t:Tab,v= .tuple #[ptr t.b,.int .i64 0]∧H=Dd a t++(chH (Dz c).2.2++[])∧t.ts=(Dz c).2.1∧(Dz c).1=0)∨(v= .tuple #[.pointer none,.int .i64 (Dz c).1]∧H=chH (Dz c).2.2++[]∧(Dz c).1≠0)
theorem Al4 {c:Chip} (hb:2≤c.blocks.length∧c.blocks.length≤1000):Does Tryz.prog 131 [ptr c.aC] (chH c) (Abo c.aC c):=by
 refine zF 124 Tryz.func131 ?_
 refine zC ?_
 refine zI rfl (Ag3) ?_
 refine zC ?_
 refine Aa rfl (fun c14=> ?_) (fun c14=> ?_)
 ·skip
  have hm:¬ B0 c 0 0=0:=(by simpa using c14)
  have hres:Dz c=(B0 c 0 0,ts0,c):=(by unfold Dz;rw [A6v hm])
  refine zC ?_
  exact zL (hR:=by right;rw [hres];exact ⟨rfl,rfl,hm⟩)
 ·skip
  have hm:B0 c 0 0=0:=(by simpa using c14)
  refine zC ?_
  refine Cy rfl rfl (fun b18=> ?_)
  iterate 3 refine sa ?_
  refine Rr [0,5] kQ ([]) ((b18,true,C (Ik c.aC ⟨b18,.nil,.nil,(Ha c).1,(Ha c).2.1,(Ha c).2.2,0⟩) tTb)::(chH c++[])) ?_ ?_
  ·refine zC ?_
   refine Ch rfl (Arh hb) sP rfl (fun v21 Y21 h21=> ?_)
   rcases h21 with ⟨t',rfl,rfl,ht,ho⟩ | ⟨rfl,rfl,ho⟩
   all_goals
    refine A6 aQ ?_
    refine zC ?_
    refine Aa rfl (fun c25=> ?_) (fun c25=> ?_)
    ·skip
     try (exfalso;(simp at c25;exact ho c25);done)
     all_goals
      have hv:Ha c=(t'.version,t'.area,t'.next):=(by unfold Ha;rw [A6v ho,← ht];rfl)
      rw [D0]
      simp only [A4n,A34,A5b]
      refine G5 [0,1,2,3,4,5,7,8,9,11,12,13] [[(6,false),(10,false),(14,false)],[(15,false)],[(16,false)],[(17,true)],[(18,false)],[(19,false)],[(20,true)],[(21,false)],[(22,false)],[(23,true)]] (by kernel_rfl) ?_
      refine zC ?_
      try refine Ag ?_
      rw [hv];exact cZ rfl
    ·skip
     try (exfalso;(simp at c25);done)
     all_goals
      have hv:Ha c=(0,0,0):=(by unfold Ha;rw [A6u ho])
      refine zC ?_
      try refine Ag ?_
      rw [hv];exact cZ rfl
  refine zC ?_
  refine zI rfl (Kv) ?_
  refine Ae (Au rfl rfl (rfl)) rfl ?_
  refine Ae (Au rfl rfl (rfl)) rfl ?_
  refine zC ?_
  refine zI rfl (Kv) ?_
  refine zC ?_
  refine Ki (Ii (α:=Int) (T:=tI)) ?_
  refine Ki (Ii (α:=Int) (T:=tI)) ?_
  have hfr:=Ag1 c
  refine Ar [0,5,8,52] kQ (fun (st:Nat×Sl Int×Sl Int)=>[(53,.int .i64 st.1)]) (fun st=>(b18,true,C (Ik c.aC ⟨b18,st.2.1,st.2.2,(Ha c).1,(Ha c).2.1,(Ha c).2.2,0⟩) tTb)::(st.2.1.hp tI++(st.2.2.hp tI++(chH c++[])))) (fun st=>st.1≤c.blocks.length∧st.2.1.list=(Hg c (Fm c) st.1).1∧st.2.2.list=(Hg c (Fm c) st.1).2∧st.2.1.isOwn=true∧st.2.2.isOwn=true) (fun st=>c.blocks.length - st.1) ((0,.nil,.nil)) ⟨A6j _,rfl,rfl,rfl,rfl⟩ kP sP ?_
  rintro ⟨i,u,l⟩ ⟨h0,h1,h2,h3,h4⟩
  simp only at h0 h1 h2 h3 h4
  have hlen:=Aek c (Fm c) i
  rw [← h1,← h2] at hlen
  refine zC ?_
  refine Aa rfl (fun c54=> ?_) (fun c54=> ?_)
  ·simp only [A4f,A2m] at c54
   refine zC ?_
   refine zI rfl (Arc (c:=c) rfl) ?_
   refine zC ?_
   refine Aa rfl (fun c56=> ?_) (fun c56=> ?_)
   ·skip
    have hf:Hg c (Fm c) (i+1)=(u.list,l.list++[(i:Int)]):=(by show (if Mb c i=true then _ else _)=_;rw [A6v c56,h1,h2])
    refine zC ?_
    refine Am rfl rfl rfl rfl (fun b67=> ?_)
    refine A5 (s:=l) (new:=[(i:Int)]) (m:=1) rfl rfl pL h4 (Ck (r:=true) mM rfl) rfl rfl rfl rfl (by omega) rfl (fun s68 hs1 hs2=> ?_)
    refine zC ?_
    first | refine ⟨(i+1,u,l),⟨by simp only;omega,(A6r Prod.fst hf).symm,(A6r Prod.snd hf).symm,h3,h4⟩,by simp only;omega,lZ⟩ | refine ⟨(i+1,u,s68),⟨by simp only;omega,(A6r Prod.fst hf).symm,hs1.trans (A6r Prod.snd hf).symm,h3,hs2⟩,by simp only;omega,lZ⟩ | refine ⟨(i+1,s93,l),⟨by simp only;omega,hs1.trans (A6r Prod.fst hf).symm,(A6r Prod.snd hf).symm,hs2,h4⟩,by simp only;omega,lZ⟩
   ·skip
    have hf0:¬ Mb c i=true:=(by rw [c56];exact A3r)
    refine zC ?_
    refine Aa rfl (fun c72=> ?_) (fun c72=> ?_)
    ·skip
     have hf:Hg c (Fm c) (i+1)=(u.list++[(i:Int)],l.list):=(by show (if Mb c i=true then _ else _)=_;rw [A6u hf0,← h1,← h2];exact A6v c72)
     refine zC ?_
     refine Am rfl rfl rfl rfl (fun b92=> ?_)
     refine A5 (s:=u) (new:=[(i:Int)]) (m:=1) rfl rfl pL h3 (Ck (r:=true) mM rfl) rfl rfl rfl rfl (by omega) rfl (fun s93 hs1 hs2=> ?_)
     refine zC ?_
     first | refine ⟨(i+1,u,l),⟨by simp only;omega,(A6r Prod.fst hf).symm,(A6r Prod.snd hf).symm,h3,h4⟩,by simp only;omega,lZ⟩ | refine ⟨(i+1,u,s68),⟨by simp only;omega,(A6r Prod.fst hf).symm,hs1.trans (A6r Prod.snd hf).symm,h3,hs2⟩,by simp only;omega,lZ⟩ | refine ⟨(i+1,s93,l),⟨by simp only;omega,hs1.trans (A6r Prod.fst hf).symm,(A6r Prod.snd hf).symm,hs2,h4⟩,by simp only;omega,lZ⟩
    ·skip
     have hf:Hg c (Fm c) (i+1)=(u.list,l.list):=(by show (if Mb c i=true then _ else _)=_;rw [A6u hf0,← h1,← h2];refine (A6u (by intro h;have h':=h.symm.trans c72;cases h')).trans ?_;rw [h1,h2])
     refine zC ?_
     first | refine ⟨(i+1,u,l),⟨by simp only;omega,(A6r Prod.fst hf).symm,(A6r Prod.snd hf).symm,h3,h4⟩,by simp only;omega,lZ⟩ | refine ⟨(i+1,u,s68),⟨by simp only;omega,(A6r Prod.fst hf).symm,hs1.trans (A6r Prod.snd hf).symm,h3,hs2⟩,by simp only;omega,lZ⟩ | refine ⟨(i+1,s93,l),⟨by simp only;omega,hs1.trans (A6r Prod.fst hf).symm,(A6r Prod.snd hf).symm,hs2,h4⟩,by simp only;omega,lZ⟩
  ·simp only [A4f,A2m] at c54
   have hi:i=c.blocks.length:=(by omega)
   subst hi
   have hu:u.list=(E3 c).uses:=h1
   have hl:l.list=(E3 c).lost:=h2
   refine zC ?_
   refine zI rfl (Arc (c:=c) (i:=0) rfl) ?_
   refine sa ?_
   refine' Kn rfl rfl inferInstance rfl rfl rfl rfl rfl (fun hg100=> ?_) ?_
   rotate_left
   ·try (simp at hg100;show _)
    refine zC ?_
    refine zI rfl (Arc (c:=c) (i:=1) rfl) ?_
    exact Ag ⟨rfl,rfl,⟨_,sP⟩⟩
   refine zC ?_
   refine Aa rfl (fun c113=> ?_) (fun c113=> ?_)
   ·skip
    have hres:Dz c=(34,ts0,c):=(by unfold Dz;rw [A6u (by rw [hm];simp),A6v (by unfold Lu;rw [← hu];exact c113)])
    refine zC ?_
    exact zL (hR:=by right;rw [hres];exact ⟨rfl,rfl,by simp⟩)
   ·skip
    have hnb:¬ Lu c=true:=(by unfold Lu;rw [← hu];intro h;have h':=h.symm.trans c113;cases h')
    have hT:Tab.ts ⟨b18,u,l,(Ha c).1,(Ha c).2.1,(Ha c).2.2,0⟩=E3 c:=(by show TS.mk _ _ _ _ _ _=_;rw [hu,hl];rfl)
    refine zC ?_
    refine Ch rfl (Qy (c:=c) (a:=c.aC) (t:=⟨b18,u,l,(Ha c).1,(Ha c).2.1,(Ha c).2.2,0⟩) (u:=u) (l:=l) rfl (by omega) (by omega) hfr.2.1 hfr.1) sP rfl (fun v119 Y119 h119=> ?_)
    rcases h119 with ⟨t2,e1,e2,e3,rfl,rfl,e4,e5⟩ | ⟨e,rfl,e1,rfl,e4,e5⟩
    all_goals
     refine A6 aQ ?_
     refine zC ?_
     refine Aa rfl (fun c121=> ?_) (fun c121=> ?_)
     ·skip
      try (exfalso;(simp at c121);done)
      all_goals
       refine zC ?_
       exact Bb (Dj Tryz.results131 (Af rfl) (Af rfl)) (by rw [hT,hu,hl] at e4;have hres:Dz c=(e,ts0,(Bt (E3 c) (E3 c).uses (E3 c).lost c).2.2):=(by unfold Dz;rw [A6u (by rw [hm];simp),A6u hnb,A6v (by rw [e4];exact e1),e4]);right;rw [hres];exact ⟨rfl,rfl,e1⟩) (by rw [hT,hu,hl];exact sP)
     ·skip
      try (exfalso;(simp at c121;exact e1 c121);done)
      all_goals
       refine zC ?_
       exact Bb (Dj Tryz.results131 (Af rfl) (Af rfl)) (by rw [hT,hu,hl] at e4 e5;have hres:Dz c=Bt (E3 c) (E3 c).uses (E3 c).lost c:=(by unfold Dz;rw [A6u (by rw [hm];simp),A6u hnb,A6u (by rw [e4];simp)]);left;rw [hres];exact ⟨t2,by rw [e1],rfl,e5,e4⟩) (by rw [hT,hu,hl,D0,e2,e3];simp only [A4n,A34,A5b];exact sP)
end
section
open Go.K
def Aie (t:TS) (c:Chip) (b:Int) (r:Int×TS×Chip):Prop :=
 (D6 t c.blocks.length b=true→∃ l,l.Perm (t.lost++[b])∧r=Bt t t.uses l c)∧(D6 t c.blocks.length b=false→r=(1,t,c))
def Aw5 (t:TS) (c:Chip) (i b:Int) (r:Int×TS×Chip):Prop :=
 (((atT t i).2 && D6 t c.blocks.length b)=true→∃ l,l.Perm (t.lost++[at0 t.uses i])∧r=Bt t (t.uses.set i.toNat b) l c)∧(((atT t i).2 && D6 t c.blocks.length b)=false→r=(1,t,c))
def Aub (a:Nat) (t:Tab) (D:Int×TS×Chip→Prop) (v:Value) (H:Hp):Prop :=
 ∃ (t':Tab) (e:Int) (c':Chip),t'.b=t.b∧v= .int .i64 e∧H=Dd a t'++(chH c'++[])∧c'.aC=a∧D (e,t'.ts,c')
theorem Adg {a:Nat} {t:Tab} {c:Chip} {D:Int×TS×Chip→Prop} (ha:c.aC=a) (h:D (1,t.ts,c)):Aub a t D (.int .i64 1) (Dd a t++(chH c++[])):=⟨t,1,c,rfl,rfl,rfl,ha,h⟩
theorem Adh {a:Nat} {t:Tab} {c:Chip} {u l:List Int} {D:Int×TS×Chip→Prop} {v:Value} {H:Hp} (ha:c.aC=a) (h:Ai7 a t c u l v H) (hD:∀ l',l'.Perm l→D (Bt t.ts u l' c)):Aub a t D v H:=by
 obtain ⟨t',l',h1,h2,rfl,rfl,h3⟩:=h
 refine ⟨t',_,_,h1,rfl,rfl,(Vf _ _ _ _).trans ha,?_⟩
 rw [h3]
 grind
section
variable {c:Chip} {a:Nat} {t:Tab}
theorem Aoz (ha:c.aC=a) {b:Int} (hu:t.u.list.length≤1000) (hl:t.l.list.length≤11) (hn:0≤t.next) (har:0≤t.area∧t.area≤1):Does Tryz.prog 232 [ptr t.b,.int .i64 b] (Dd a t++(chH c++[])) (Aub a t (Aie t.ts c b)) :=
 (Arg ha hu hl hn har).mono fun v H h=>by
  split at h
  ·rename_i hs
   exact Adh ha h (fun l' hp=>⟨fun _=>⟨l',hp,rfl⟩,fun h2=>by rw [hs] at h2;cases h2⟩)
  ·rename_i hs
   obtain ⟨rfl,rfl⟩:=h
   exact Adg ha ⟨fun h2=>absurd h2 hs,fun _=>rfl⟩
theorem Ao0 (ha:c.aC=a) {i b:Int} (hu:t.u.list.length≤1000) (hl:t.l.list.length≤11) (hn:0≤t.next) (har:0≤t.area∧t.area≤1):Does Tryz.prog 231 [ptr t.b,.int .i64 i,.int .i64 b] (Dd a t++(chH c++[])) (Aub a t (Aw5 t.ts c i b)) :=
 (Av8 ha hu hl hn har).mono fun v H h=>by
  split at h
  ·rename_i hs
   exact Adh ha h (fun l' hp=>⟨fun _=>⟨l',hp,rfl⟩,fun h2=>by rw [hs] at h2;cases h2⟩)
  ·rename_i hs
   obtain ⟨rfl,rfl⟩:=h
   exact Adg ha ⟨fun h2=>absurd h2 hs,fun _=>rfl⟩
end
end
section
open Go.K
instance:Cel Bool:=⟨1,fun b=>[.bool b],fun _=>rfl,fun _=>rfl⟩
structure RTab where
 b:Nat
 u:Sl Int
 l:Sl Bool
def atB (l:List Bool) (i:Int):Bool:=l.getD i.toNat false
section
variable {r:RTab}
end
end
section
open Go.K
def He (n:Nat) (l:List Int):List Bool:=(List.range n).map fun i=>E8 l (i:Nat)
theorem Q3 (n:Nat) (l:List Int):(He n l).length=n:=by simp [He]
def O6 (l:List Bool) (size:Int):Nat→List Int
 | 0=>[]
 | i+1=>if atB l (i:Nat)=true then O6 l size i else if (decide (2≤(i:Int)) && decide (((O6 l size i).length:Int)<size))=true then O6 l size i++[(i:Int)] else O6 l size i
def Xk (l:List Bool):Bool:=(atB l 0 || atB l 1) || decide (((O6 l ((l.length:Int) - 6) l.length).length:Int)<(l.length:Int) - 6)
section
variable {r:RTab}
end
end
section
open Go.K
theorem Aid {pp:Nat} {n:Int} {s:Sl Int} {T:TypeId}:Does Tryz.prog 47 [ptr pp,.int .i64 n,s.val] ((pp,true,C [.bool false,.int .i64 (-1),.int .i64 0] tPw)::(s.hp T++[]))
  (fun v H=>(∃ aC aB,v= .tuple #[ptr aC,.int .i64 0]∧H=chH (Ds (-1) 0 pp aC aB n.toNat s.list)++(s.hp T++[])∧Js n s.list=true)∨(v= .tuple #[.pointer none,.int .i64 1]∧H=(s.hp T++[])∧Js n s.list=false)) :=
 (Ayt (off:=false) (after:= -1) (keep:=0)).mono fun v H h=>by
  unfold Ao8 at h
  split at h
  ·rename_i h0;obtain ⟨aC,aB,h1,h2⟩:=h;exact .inl ⟨aC,aB,h1,h2,h0⟩
  ·rename_i h0;exact .inr ⟨h.1,h.2,by simpa using h0⟩
end
end Go.Proofs.YtpmojdippdlcaaaGreatDoor
