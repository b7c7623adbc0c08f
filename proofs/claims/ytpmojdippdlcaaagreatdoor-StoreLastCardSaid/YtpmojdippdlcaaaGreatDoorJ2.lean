/- For every input, what is said of the program's store holds: its nodes, its last commit; the conditions are the statement's own: part 2. -/
import Derived.Test.YtpmojdippdlcaaaGreatDoorJ0
import Derived.Test.YtpmojdippdlcaaaGreatDoorJ1
import Derived.Test.YtpmojdippdlcaaaGreatDoorRows
set_option linter.unusedVariables false
set_option linter.unusedSimpArgs false
set_option maxRecDepth 100000
set_option maxHeartbeats 1000000
set_option synthInstance.maxSize 4000
set_option synthInstance.maxHeartbeats 400000
namespace Go.Proofs.YtpmojdippdlcaaaGreatDoor
section
open Go.K
theorem Adm (x:Wd):∀ i,(I8 x i).toNat=x.toNat / 2 ^ (8*i)
 | 0=>by simp [I8]
 | i+1=>by
  unfold I8
  rw [A1c,A1b,Adm x i,Nat.div_div_eq_div_mul,← Nat.pow_add,Nat.mul_succ]
theorem At2 {k i:Nat} (x:Wd) (h:i<k):(B4 k x).getD i 0=(I8 x i).setWidth 8:=by
 simp [B4,A00,h]
theorem P6 {k:Nat} (x:Wd) (hk:k≤8):∀ i,i≤k→(Ec (B4 k x) i).toNat=x.toNat % 2 ^ (8*i)
 | 0,_=>by simp [Ec,Nat.mod_one]
 | i+1,h=>by
  have ih:=P6 x hk i (by omega)
  have hlt:x.toNat % 2 ^ (8*i)<2 ^ (8*i):=A5v _ (Nat.two_pow_pos _)
  have hb:((I8 x i).setWidth 8).toNat=x.toNat / 2 ^ (8*i) % 256:=by rw [A1t,Adm]
  have hb2:=((I8 x i).setWidth 8).isLt
  have hs:((((I8 x i).setWidth 8).setWidth 64:Wd) <<< (8*i)).toNat=2 ^ (8*i)*((I8 x i).setWidth 8).toNat:=by
   rw [A1m,A1t,Nat.shiftLeft_eq,A31 (show ((I8 x i).setWidth 8).toNat<2 ^ 64 by omega),Nat.mul_comm]
   apply A31
   calc 2 ^ (8*i)*((I8 x i).setWidth 8).toNat<2 ^ (8*i)*2 ^ 8:=Nat.mul_lt_mul_of_pos_left hb2 (Nat.two_pow_pos _)
    _=2 ^ (8*i+8):=(Nat.pow_add 2 (8*i) 8).symm
    _≤2 ^ 64:=Nat.pow_le_pow_right (by omega) (by omega)
  rw [Vf,At2 x (by omega),A35,ih,hs,Nat.or_comm,← A0w hlt,hb]
  rw [show 8*(i+1)=8*i+8 by omega,Nat.pow_add,Nat.mod_mul,show (2:Nat) ^ 8=256 from rfl]
  omega
theorem Kr (x:Wd):Ec (B4 8 x) 8=x:=by
 apply A1s
 rw [P6 x (by omega) 8 (by omega)]
 exact A31 x.isLt
theorem Adn {n:Nat} (h:n<256):(Ec (B4 1 (BitVec.ofInt 64 (n:Int))) 1).toNat=n:=by
 rw [P6 _ (by omega) 1 (by omega),A14,A2p]
 omega
theorem Ks {k:Nat} {xs r:List By} {bad:Bool} (h:xs.length=k):C2 k (xs++r) bad=(Ec xs k,r,bad):=by
 unfold C2
 rw [if_neg (by simp;omega),A4k h,A39 h]
theorem Ss {k:Nat} {xs r:List By} {bad:Bool} (h:xs.length=k):C4 k (xs++r) bad=(xs,r,bad):=by
 unfold C4
 rw [if_neg (by simp;omega),A4k h,A39 h]
theorem Ye {l:List Int} (h:∀ x∈l,0≤x∧x<256):(l.map Fe).map Oq=l:=by
 rw [A49]
 have:∀ x∈l,(Oq∘Fe) x=x:=fun x hx=>by
  have:=h x hx
  show ((BitVec.ofInt 8 x).toNat:Int)=x
  rw [A2o]
  omega
 rw [A2l this,List.map_id']
structure OkP (n:Nat) (u l:List Int):Prop where
 n1:16≤n
 n2:n≤40
 ul:u.length+6=n
 ll:l.length≤40
 ur:∀ x∈u,0≤x∧x<256
 lr:∀ x∈l,0≤x∧x<256
theorem Ib {x:Int} (h:0≤x∧x<9223372036854775808):w64 x=x:=Cz (by omega)
theorem Ado {v:Wd} {n:Nat} {u l:List Int} (h:OkP n u l):Ot (F8 v n u l) n=(u,l,v,true):=by
 have h1:=h.n1
 have h2:=h.n2
 have h3:=h.ul
 have h4:=h.ll
 have hn:∀ m:Nat,m<256→w64 ((Ec (B4 1 (BitVec.ofInt 64 (m:Int))) 1).toNat:Int)=m:=fun m hm=>by
  rw [Adn hm];exact Ib (by omega)
 have e:F8 v n u l=B4 8 v++(B4 1 (BitVec.ofInt 64 (n:Int))++(B4 1 (BitVec.ofInt 64 (u.length:Int))++(B4 1 (BitVec.ofInt 64 (l.length:Int))++(u.map Fe++(l.map Fe++[]))))):=by
  unfold F8 L3
  simp only [A27,List.flatMap_nil,A37,A25]
 rw [e]
 refine (V0 (Ks (A4 8 v)).symm (Ks (A4 1 _)).symm (hn n (by omega)) (Ks (A4 1 _)).symm (Ks (A4 1 _)).symm (u:=(u.map Fe,l.map Fe++[],false)) (l:=(l.map Fe,[],false)) ?_ ?_).trans ?_
 ·simp only
  rw [hn u.length (by omega)]
  exact (Ss (by rw [A4b];omega)).symm
 ·simp only
  rw [hn l.length (by omega)]
  exact (Ss (by rw [A4b];omega)).symm
 ·simp only
  rw [Ye h.ur,Ye h.lr,Kr,hn u.length (by omega)]
  have:w64 (w64 ((n:Int) - 2) - 4)=(n:Int) - 6:=by
   rw [Ib (x:=(n:Int) - 2) (by omega)]
   have:=Ib (x:=(n:Int) - 2 - 4) (by omega)
   rw [this];omega
  rw [this]
  simp
  omega
theorem Ao9 (v:Wd) (n:Int) (u l:List Int):(F8 v n u l).length=11+u.length+l.length:=by
 unfold F8
 simp [A4,Rn]
 omega
theorem Vj {v:Wd} {n:Nat} {u l:List Int} (h:OkP n u l):C1 1 (F8 v n u l)=false:=by
 have h2:=h.n2
 have h3:=h.ul
 have h4:=h.ll
 unfold C1
 rw [Ao9]
 simp
 omega
theorem Apa {v:Wd} {n:Nat} {u l:List Int} (h:OkP n u l):Ed v n u l=Cp 1 (F8 v n u l):=by
 unfold Ed Cy
 rw [if_neg (by rw [Vj h];simp)]
def RP (n:Nat) (p:Pg):Option (Nat×List Int×List Int):=if (Dm p n).2.2.2=true then some ((Dm p n).2.2.1.toNat,(Dm p n).1,(Dm p n).2.1) else none
theorem Apb {p:Pg} {n:Nat} {v:Wd} {u l:List Int} {m:Int} (h:OkP n u l) (hr:Bz p=(1,F8 v n u l,m,0)):Dm p n=(u,l,v,true):=by
 unfold Dm
 simp only [hr]
 rw [if_neg (by simp)]
 exact Ado h
theorem Azs {p:Pg} {n:Nat} {v:Wd} {u l:List Int} {m:Int} (h:OkP n u l) (hr:Bz p=(1,F8 v n u l,m,0)):RP n p=some (v.toNat,u,l):=by
 unfold RP
 rw [Apb h hr,if_pos rfl]
theorem Aid {n:Nat} {v:Wd} {u l:List Int} (h:OkP n u l):RP n (Ed v n u l)=some (v.toNat,u,l):=by
 rw [Apa h];exact Azs h (Iu (Vj h))
theorem Aie {p:Pg} {n:Nat} (h:(Bz p).2.2.2≠0):RP n p=none:=by
 have e:Dm p n=([],[],0,false):=by
  unfold Dm
  simp only []
  rw [if_pos (.inl h)]
 unfold RP
 rw [e,if_neg (by simp)]
theorem At3 {p:Pg} {n:Nat} (h:p[257]=255#8):RP n p=none:=Aie (K3 h)
theorem Azt {p:Pg} {n:Nat} (h:Be p=true):RP n p=none:=Aie (by rw [E7 h];decide)
theorem Kt {j:Nat} (h:j<258):Ar[j]=255#8:=by
 unfold Ar
 rw [Vector.getElem_replicate]
theorem P7 {m:Nat} {p d:Pg} {j:Nat} (h:j<258):(Ck m p d)[j]=if j<m then p[j] &&& d[j] else p[j]:=by simp [Ck]
theorem Apc {m n:Nat} {d:Pg} (h:m<258):RP n (Ck m Ar d)=none:=by
 apply At3
 have:(Ck m Ar d)[257]=Ar[257]:=by
  rw [P7,if_neg (by omega)]
 rw [this,Kt (by omega)]
theorem F5 {m:Nat} {d:Pg} (h:258≤m):Ck m Ar d=d:=by
 apply A5w
 intro j hj
 rw [P7 hj,if_pos (by omega),Kt hj]
 exact BitVec.allOnes_and
structure ScI (c:Chip) (a:Int) (k:Nat) (s:Sc):Prop where
 l0:0≤s.last∧s.last≤k
 bl:∀ i<k,s.last≤i→Be (Bp c a (i:Nat))=true
 nb:0<s.last→Be (Bp c a (s.last - 1))=false
 no:s.any=false→∀ i<k,RP c.blocks.length (Bp c a (i:Nat))=none
 yes:s.any=true→(0≤s.at'∧s.at'<k)∧RP c.blocks.length (Bp c a s.at')=some (s.newest.toNat,s.uses,s.lost)
 le:s.any=true→∀ i<k,∀ w u l,RP c.blocks.length (Bp c a (i:Nat))=some (w,u,l)→w≤s.newest.toNat
theorem Aif {n:Nat} {p:Pg} (h:(Dm p n).2.2.2=true):RP n p=some ((Dm p n).2.2.1.toNat,(Dm p n).1,(Dm p n).2.1):=if_pos h
theorem Av6 {n:Nat} {p:Pg} (h:¬ (Dm p n).2.2.2=true):RP n p=none:=if_neg h
theorem Yf (c:Chip) (a:Int):∀ k,ScI c a k (Ca c a k)
 | 0=>⟨by simp [Ca],fun i hi=>by omega,fun h=>by simp [Ca] at h,fun _ i hi=>by omega,fun h=>by simp [Ca] at h,fun h=>by simp [Ca] at h⟩
 | k+1=>by
  have ih:=Yf c a k
  show ScI c a (k+1) (Ja c a k (Ca c a k))
  generalize Ca c a k=s at ih
  have hlast:∀ la:Int,la=(if Be (Bp c a (k:Nat))=true then s.last else (k:Int)+1)→(0≤la∧la≤(k+1:Nat))∧(∀ i<k+1,la≤i→Be (Bp c a (i:Nat))=true)∧(0<la→Be (Bp c a (la - 1))=false):=fun la hla=>by
   have h0:=ih.l0
   split at hla
   ·rename_i hb
    subst hla
    refine ⟨by omega,fun i hi hle=> ?_,ih.nb⟩
    by_cases e:i=k
    ·subst e;exact hb
    ·exact ih.bl i (by omega) hle
   ·rename_i hb
    subst hla
    refine ⟨by omega,fun i hi hle=>by omega,fun _=> ?_⟩
    rw [show (k:Int)+1 - 1=(k:Int) by omega]
    simpa using hb
  unfold Ja
  simp only []
  split
  ·rename_i hc
   simp only [A3n,A36,A23,A3j] at hc
   obtain ⟨h1,h2,h3⟩:=hlast _ rfl
   have hr:=Aif (n:=c.blocks.length) (p:=Bp c a (k:Nat)) hc.1
   refine ⟨h1,h2,h3,fun h=>(by cases h),fun _=>⟨⟨by simp only;omega,by simp only;omega⟩,hr⟩,fun _ i hi w u l hw=> ?_⟩
   by_cases e:i=k
   ·subst e
    rw [hr] at hw
    simp only [A3h,A48] at hw
    exact Nat.le_of_eq hw.1.symm
   ·rcases hc.2 with h4 | h4
    ·rw [ih.no h4 i (by omega)] at hw;cases hw
    ·cases ha:s.any with
     | false=>rw [ih.no ha i (by omega)] at hw;cases hw
     | true=>have:=ih.le ha i (by omega) w u l hw;simp only;omega
  ·rename_i hc
   simp only [A3n,A36,A23,A3j] at hc
   obtain ⟨h1,h2,h3⟩:=hlast _ rfl
   refine ⟨h1,h2,h3,fun h i hi=> ?_,fun h=> ?_,fun h i hi w u l hw=> ?_⟩
   ·by_cases e:i=k
    ·subst e;exact Av6 (fun h5=>hc ⟨h5,.inl h⟩)
    ·exact ih.no h i (by omega)
   ·obtain ⟨h4,h5⟩:=ih.yes h
    exact ⟨⟨h4.1,by simp only;omega⟩,h5⟩
   ·by_cases e:i=k
    ·subst e
     by_cases h5:(Dm (Bp c a (i:Nat)) c.blocks.length).2.2.2=true
     ·rw [Aif h5] at hw
      simp only [A3h,A48] at hw
      have:¬ ((s.newest.toNat:Int)≤(Dm (Bp c a (i:Nat)) c.blocks.length).2.2.1.toNat):=fun h6=>hc ⟨h5,.inr h6⟩
      simp only;omega
     ·rw [Av6 h5] at hw;cases hw
    ·exact ih.le h i (by omega) w u l hw
structure OpI (c:Chip) (k:Nat) (t:TS):Prop where
 area:0≤t.area∧t.area<k
 rc:(0≤t.at'∧t.at'<8)∧RP c.blocks.length (Bp c t.area t.at')=some (t.version.toNat,t.uses,t.lost)
 le:∀ a<k,∀ i<8,∀ w u l,RP c.blocks.length (Bp c (a:Nat) (i:Nat))=some (w,u,l)→w≤t.version.toNat
 l0:0≤t.next∧t.next≤8
 bl:∀ i<8,t.next≤(i:Nat)→Be (Bp c t.area (i:Nat))=true
 nb:0<t.next→Be (Bp c t.area (t.next - 1))=false
theorem Yg (c:Chip):∀ k,((C6 c k).2=false→∀ a<k,∀ i<8,RP c.blocks.length (Bp c (a:Nat) (i:Nat))=none)∧((C6 c k).2=true→OpI c k (C6 c k).1)
 | 0=>⟨fun _ a ha=>by omega,fun h=>by simp [C6] at h⟩
 | k+1=>by
  obtain ⟨ih1,ih2⟩:=Yg c k
  have hs:=Yf c k 8
  show ((Jb c k (C6 c k)).2=false→_)∧((Jb c k (C6 c k)).2=true→OpI c (k+1) (Jb c k (C6 c k)).1)
  generalize C6 c k=t at ih1 ih2
  unfold Jb
  simp only []
  generalize Ca c k 8=s at hs
  split
  ·rename_i hc
   simp only [A3n,A36,A23,A3j] at hc
   refine ⟨fun h=>(by cases h),fun _=>⟨by simp only;omega,hs.yes hc.1,fun a ha i hi w u l hw=> ?_,hs.l0,hs.bl,hs.nb⟩⟩
   by_cases e:a=k
   ·subst e;exact hs.le hc.1 i hi w u l hw
   ·rcases hc.2 with h | h
    ·rw [ih1 h a (by omega) i hi] at hw;cases hw
    ·cases hf:t.2 with
     | false=>rw [ih1 hf a (by omega) i hi] at hw;cases hw
     | true=>have:=(ih2 hf).le a (by omega) i hi w u l hw;simp only;omega
  ·rename_i hc
   simp only [A3n,A36,A23,A3j] at hc
   refine ⟨fun h a ha i hi=> ?_,fun h=> ?_⟩
   ·by_cases e:a=k
    ·subst e
     cases hy:s.any with
     | false=>exact hs.no hy i hi
     | true=>exact absurd ⟨hy,.inl h⟩ hc
    ·exact ih1 h a (by omega) i hi
   ·have o:=ih2 h
    refine ⟨⟨o.area.1,by have:=o.area.2;omega⟩,o.rc,fun a ha i hi w u l hw=> ?_,o.l0,o.bl,o.nb⟩
    by_cases e:a=k
    ·subst e
     cases hy:s.any with
     | false=>rw [hs.no hy i hi] at hw;cases hw
     | true =>
      have h1:=hs.le hy i hi w u l hw
      have h2:¬ ((t.1.version.toNat:Int)<s.newest.toNat):=fun h3=>hc ⟨hy,.inr h3⟩
      omega
    ·exact o.le a (by omega) i hi w u l hw
theorem Age {c:Chip} (hm:B9 c 0 0=0) {a i:Nat} {w:Nat} {u l:List Int} (ha:a<2) (hi:i<8) (hr:RP c.blocks.length (Bp c (a:Nat) (i:Nat))=some (w,u,l)):∃ t,Dk c=(0,t)∧OpI c 2 t:=by
 obtain ⟨h1,h2⟩:=Yg c 2
 cases hf:(C6 c 2).2 with
 | false=>rw [h1 hf a ha i hi] at hr;cases hr
 | true =>
  refine ⟨(C6 c 2).1,?_,h2 hf⟩
  unfold Dk
  rw [if_neg (by rw [hm];simp),if_pos hf]
end
section
open Go.K
structure Up (c:Chip):Prop where
 off:c.off=false
 dead:c.dead=false
 out:c.out=false
def FP (c:Chip):Nat:=(c.pf.list.filter fun x=>decide (c.pc≤x)).length
def FW (c:Chip):Nat:=(c.wf.list.filter fun x=>decide (c.wc≤x)).length
theorem St (l:List Int) (k:Int):(l.filter fun x=>decide (k+1≤x)).length+(if E4 l k=true then 1 else 0)≤(l.filter fun x=>decide (k≤x)).length:=by
 have h1:∀ l:List Int,(l.filter fun x=>decide (k+1≤x)).length≤(l.filter fun x=>decide (k≤x)).length:=fun l=>by
  induction l with
  | nil=>simp
  | cons x l ih =>
   rw [A3s,A3s]
   by_cases h:k+1≤x
   ·rw [if_pos (by simpa using h),if_pos (by simp;omega)];simpa using ih
   ·rw [if_neg (by simpa using h)]
    split
    ·simp;omega
    ·exact ih
 have h2:∀ l:List Int,k∈l→(l.filter fun x=>decide (k+1≤x)).length+1≤(l.filter fun x=>decide (k≤x)).length:=fun l=>by
  induction l with
  | nil=>simp
  | cons x l ih =>
   intro hm
   rw [A3s,A3s]
   by_cases e:x=k
   ·subst e
    rw [if_neg (by simp;omega),if_pos (by simp)]
    have:=h1 l
    simp;omega
   ·have hk:=ih (by
     cases hm with
     | head=>exact absurd rfl e
     | tail _ h=>exact h)
    by_cases h:k+1≤x
    ·rw [if_pos (by simpa using h),if_pos (by simp;omega)];simp;omega
    ·rw [if_neg (by simpa using h),if_neg (by simp;omega)];exact hk
 split
 ·rename_i h
  have hm:k∈l:=by
   have:E4 l k=l.any (· == k):=U7 l (· == k)
   rw [this,A3p] at h
   obtain ⟨y,h3,h4⟩:=h
   have:y=k:=by simpa using h4
   subst this;exact h3
  exact h2 l hm
 ·exact h1 l
structure Cnt (c:Chip) (B:Int):Prop where
 p0:0≤c.pc∧c.pc≤B
 w0:0≤c.wc∧c.wc≤B
theorem Apd {c:Chip} {B:Int} (h:Cnt c B) (hB:B<9000000000000000000):Ly c=E4 c.pf.list c.pc:=by
 unfold Ly
 have:=h.p0
 rw [Ib (x:=c.pc+1) (by omega),Ib (by omega)]
 congr 1;omega
theorem Ape {c:Chip} {B:Int} (h:Cnt c B) (hB:B<9000000000000000000):Sr c=E4 c.wf.list c.wc:=by
 unfold Sr
 have:=h.w0
 rw [Ib (x:=c.wc+1) (by omega),Ib (by omega)]
 congr 1;omega
structure BI (b:Blk):Prop where
 nx:0≤b.next∧b.next≤8
 bl:∀ (j:Nat) (h:j<8),b.next≤j→b.pages[j]=Ar
structure Fr (a:Nat) (c c':Chip):Prop where
 oth:∀ k,k≠a→c'.blocks[k]? =c.blocks[k]?
 len:c'.blocks.length=c.blocks.length
 dead:c'.dead=c.dead
 out:c'.out=c.out
 aP:c'.aP=c.aP
 aC:c'.aC=c.aC
 aB:c'.aB=c.aB
 pf:c'.pf=c.pf
 wf:c'.wf=c.wf
 fp:FP c'≤FP c
 fw:FW c'≤FW c
 pos:c.after<0→c'.after=c.after∧c'.off=c.off
 keep:c'.keep=c.keep
theorem Fr.refl (a:Nat) (c:Chip):Fr a c c:=⟨fun _ _=>rfl,rfl,rfl,rfl,rfl,rfl,rfl,rfl,rfl,A5q _,A5q _,fun _=>⟨rfl,rfl⟩,rfl⟩
theorem Fr.trans {a:Nat} {c c' c'':Chip} (h:Fr a c c') (k:Fr a c' c''):Fr a c c'' :=
 ⟨fun i hi=>(k.oth i hi).trans (h.oth i hi),k.len.trans h.len,k.dead.trans h.dead,k.out.trans h.out,k.aP.trans h.aP,k.aC.trans h.aC,k.aB.trans h.aB,k.pf.trans h.pf,k.wf.trans h.wf,A5f k.fp h.fp,A5f k.fw h.fw,
  fun hp=>by
   obtain ⟨h1,h2⟩:=h.pos hp
   obtain ⟨h3,h4⟩:=k.pos (by omega)
   exact ⟨h3.trans h1,h4.trans h2⟩,k.keep.trans h.keep⟩
theorem Adp {c:Chip} (h:Up c) {i j:Nat} (hi:i<c.blocks.length) (hj:j<8):B9 c i j=0:=Afx h.off h.dead h.out (by omega) (by omega)
def wrK (b:Blk) (k:Nat) (q:Pg):Blk:=⟨b.pages.setIfInBounds k q,(k:Int)+1,b.bad⟩
def cp (c:Chip):Chip:=Fp (S6 (cnt c))
theorem Agf {c:Chip} {i j m:Nat} {d:Pg} {b:Blk} (hn:b.next=j) (hj:j<8) (hp:b.pages[j]=Ar):wrC c (i:Nat) (j:Nat) d b m (by simpa using hj)=Gn (cp c) i (wrK b j (Ck m Ar d)):=by
 have e1:w64 (b.next+1)=(j:Int)+1:=by rw [hn];exact Cz (by omega)
 have e:wrB { b with next:=w64 (b.next+1) } ((j:Nat):Int).toNat m d (by simpa using hj)=wrK b j (Ck m Ar d):=by
  show I7 { b with next:=w64 (b.next+1) } j (Ck m b.pages[j] d)=_
  rw [e1,hp]
  unfold I7 wrK
  rfl
 unfold wrC
 rw [e]
 rfl
theorem Yh {c:Chip} (up:Up c) {a j:Nat} {b:Blk} {d:Pg} (hb:c.blocks[a]? =some b) (hj:j<8) (hbad:b.bad=false) (hbi:BI b) (hn:b.next=j) :
  ∃ e m,Bq c a j d=(e,Gn (cp c) a (wrK b j (Ck m Ar d)))∧((e=30∧El c=true)∨(e=33∧m=129∧El c=false∧Ly c=true)∨(e=0∧m=258∧El c=false∧Ly c=false)):=by
 have hi:a<c.blocks.length:=(A08.1 hb).1
 have hm:B9 c a j=0:=Adp up hi hj
 have hp:=hbi.bl j hj (by omega)
 have hb':c.blocks[((a:Nat):Int).toNat]? =some b:=by simpa using hb
 cases he:El c with
 | true =>
  refine ⟨30,A8 c.keep 258,?_,.inl ⟨rfl,rfl⟩⟩
  rw [X7 hm (by simpa using hj) hb' hn.symm he]
  exact A52 (Prod.mk 30) (Agf hn hj hp)
 | false =>
  cases hf:Ly c with
  | true =>
   refine ⟨33,129,?_,.inr (.inl ⟨rfl,rfl,rfl,rfl⟩)⟩
   rw [X8 hm (by simpa using hj) hb' hn.symm he (by rw [hf];rfl)]
   exact A52 (Prod.mk 33) (Agf hn hj hp)
  | false =>
   refine ⟨0,258,?_,.inr (.inr ⟨rfl,rfl,rfl,rfl⟩)⟩
   rw [Z3 hm (by simpa using hj) hb' hn.symm he (by rw [hf,hbad];rfl)]
   exact A52 (Prod.mk 0) (Agf hn hj hp)
theorem Yi {c:Chip} (up:Up c) {a j:Nat} {b:Blk} {d:Pg} (hb:c.blocks[a]? =some b) (hj:j<8) (hn:b.next≠j):Bq c a j d=(32,c):=by
 have hi:a<c.blocks.length:=(A08.1 hb).1
 exact U8 (Adp up hi hj) (by simpa using hb) (fun e=>hn e.symm)
theorem Aag {b:Blk} {j:Nat} {q:Pg} (h:BI b) (hj:j<8) (hn:b.next=j):BI (wrK b j q):=by
 refine ⟨by simp only [wrK];omega,fun i hi hle=> ?_⟩
 simp only [wrK] at hle ⊢
 rw [A0u,if_neg (by omega)]
 exact h.bl i hi (by omega)
theorem Gq {b:Blk} {j i:Nat} {q:Pg} (hi:i<8):(wrK b j q).pages[i]=if j=i then q else b.pages[i]:=by
 simp only [wrK]
 rw [A0u]
theorem Aig {c:Chip} {a:Nat} {b b':Blk} (hb:c.blocks[a]? =some b'):(Gn (cp c) a b).blocks[a]? =some b:=by
 have:=(A08.1 hb).1
 show (c.blocks.set a b)[a]? =_
 simp [this]
theorem Av7 {c:Chip} {a:Nat} {b:Blk} {B:Int} (hc:Cnt c B) (hB:B<9000000000000000000):Fr a c (Gn (cp c) a b)∧Cnt (Gn (cp c) a b) (B+1)∧(Ly c=true→FP (Gn (cp c) a b)+1≤FP c):=by
 have hp:=hc.p0
 have hw:=hc.w0
 have e:(Gn (cp c) a b).pc=c.pc+1:=by
  show w64 (c.pc+1)=c.pc+1
  exact Ib (by omega)
 have hfs:=St c.pf.list c.pc
 have hFP:FP (Gn (cp c) a b)+(if E4 c.pf.list c.pc=true then 1 else 0)≤FP c:=by
  unfold FP
  rw [e]
  exact hfs
 refine ⟨⟨fun k hk=> ?_,?_,rfl,rfl,rfl,rfl,rfl,rfl,rfl,?_,A5q _,fun h=> ?_,rfl⟩,⟨by rw [e];omega,by show 0≤c.wc∧c.wc≤B+1;omega⟩,fun h=> ?_⟩
 ·exact A16 (fun e=>hk e.symm)
 ·show (c.blocks.set a b).length=_
  simp
 ·omega
 ·exact ⟨if_pos h,if_pos h⟩
 ·rw [Apd hc hB] at h
  rw [if_pos h] at hFP
  exact hFP
theorem Apf {c:Chip} {a:Nat} {b:Blk} (up:Up c):(Gn (cp c) a b).off=El c:=by
 show (if c.after<0 then c.off else decide (c.after=0))=_
 unfold El
 split
 ·exact up.off
 ·rfl
theorem P8 {c:Chip} (h:El c=true):¬ c.after<0:=by
 intro h2
 unfold El at h
 rw [if_pos h2] at h
 cases h
structure PutR (c:Chip) (a:Nat) (b:Blk) (q:Pg) (i' e:Int) (c':Chip):Prop where
 fr:Fr a c c'
 blk:∃ b',c'.blocks[a]? =some b'∧BI b'∧b'.bad=false∧b.next≤b'.next ∧
  (∀ (j:Nat) (h:j<8),(j:Int)<b.next→b'.pages[j]=b.pages[j]) ∧
  (∀ (j:Nat) (h:j<8),b.next≤j→b'.pages[j]=Ar∨∃ m,b'.pages[j]=Ck m Ar q∧(m<258∨e=0∨e=30)) ∧
  (e=0→∃ (j:Nat) (h:j<8),b.next≤j∧i'=(j:Int)+1∧b'.next=(j:Int)+1∧b'.pages[j]=q)
 pure:FP c=0→c.after<0→∀ b',c'.blocks[a]? =some b'→∀ (j:Nat) (h:j<8),b.next≤j→b'.pages[j]=Ar∨b'.pages[j]=q
 how:(e=30∧c'.off=true∧¬ c.after<0)∨(e=0∧c'.off=false)∨(e=34∧c'.off=false∧i'=8∧FP c'+(8 - b.next).toNat≤FP c)
theorem Ak1 {c:Chip} {a j:Nat} {b:Blk} {q:Pg} (up:Up c) (hb:c.blocks[a]? =some b) (hj:j<8) (hp:b.pages[j]=q):Hq c a j q=0:=by
 have hi:a<c.blocks.length:=(A08.1 hb).1
 have hm:=Adp up hi hj
 unfold Hq
 rw [Pv hm hb hj,hp]
 simp [hm]
theorem P9 {a:Nat} {q:Pg}:∀ (f:Nat) (c:Chip) (i:Nat) (b:Blk) (B:Int),i+f=8→Up c→c.blocks[a]? =some b→b.bad=false→BI b→(i:Int)≤b.next→Cnt c B→B+f<8000000000000000000 →
  ∃ i' e c',F9 f c a i q=(i',e,c')∧PutR c a b q i' e c'∧Cnt c' (B+f)
 | 0,c,i,b,B,hf,up,hb,hbad,hbi,hle,hc,hB=>by
  have:=hbi.nx
  refine ⟨8,34,c,rfl,⟨Fr.refl a c,⟨b,hb,hbi,hbad,A5p _,fun _ _ _=>rfl,fun j h h2=>by omega,fun h=>by cases h⟩,fun _ _ b' hb' j h h2=>(by rw [hb] at hb';cases hb';exact .inl (hbi.bl j h h2)),.inr (.inr ⟨rfl,up.off,rfl,by omega⟩)⟩,by simpa using hc⟩
 | f+1,c,i,b,B,hf,up,hb,hbad,hbi,hle,hc,hB=>by
  have hj:i<8:=by omega
  by_cases hn:b.next=i
  ·obtain ⟨e,m,hp,hcase⟩:=Yh up (d:=q) hb hj hbad hbi hn
   obtain ⟨hfr,hcn,hfp⟩:=Av7 (a:=a) (b:=wrK b i (Ck m Ar q)) hc (by omega)
   have hoff:=Apf (a:=a) (b:=wrK b i (Ck m Ar q)) up
   have hbk:=Aig (b:=wrK b i (Ck m Ar q)) hb
   have hbi':=Aag (q:=Ck m Ar q) hbi hj hn
   generalize hcc:Gn (cp c) a (wrK b i (Ck m Ar q))=c1 at *
   have hpg:∀ (P:Prop),(m<258∨P)→∀ (j:Nat) (h:j<8),b.next≤j→(wrK b i (Ck m Ar q)).pages[j]=Ar∨∃ m',(wrK b i (Ck m Ar q)).pages[j]=Ck m' Ar q∧(m'<258∨P):=fun P hP j h h2=>by
    rw [Gq h]
    split
    ·exact .inr ⟨m,rfl,hP⟩
    ·exact .inl (hbi.bl j h h2)
   have hlo:∀ (j:Nat) (h:j<8),(j:Int)<b.next→(wrK b i (Ck m Ar q)).pages[j]=b.pages[j]:=fun j h h2=>by
    rw [Gq h,if_neg (by omega)]
   rcases hcase with ⟨rfl,he⟩ | ⟨rfl,rfl,he,hfl⟩ | ⟨rfl,rfl,he,hfl⟩
   ·have hs:Fq c a i q=30:=by unfold Fq;rw [hp,if_neg (show ¬ (30:Int)=0 by decide)]
    refine ⟨(i:Int)+1,30,c1,?_,⟨hfr,⟨_,hbk,hbi',hbad,by simp only [wrK];omega,hlo,hpg _ (.inr (.inr rfl)),fun h=>by cases h⟩,fun _ ha=>absurd ha (P8 he),.inl ⟨rfl,by rw [hoff,he],P8 he⟩⟩,⟨by have:=hcn.p0;omega,by have:=hcn.w0;omega⟩⟩
    unfold F9
    rw [if_pos (by rw [hs];decide),hs,hp]
   ·have hs:Fq c a i q=33:=by unfold Fq;rw [hp,if_neg (show ¬ (33:Int)=0 by decide)]
    have up':Up c1:=⟨by rw [hoff,he],hfr.dead.trans up.dead,hfr.out.trans up.out⟩
    obtain ⟨i',e,c',h1,h2,h3⟩:=P9 (a:=a) (q:=q) f c1 (i+1) (wrK b i (Ck 129 Ar q)) (B+1) (by omega) up' hbk hbad hbi' (by show ((i+1:Nat):Int)≤(i:Int)+1;omega) hcn (by omega)
    have hnx:(wrK b i (Ck 129 Ar q)).next=(i:Int)+1:=rfl
    obtain ⟨b',k1,k2,k3,k4,k5,k6,k7⟩:=h2.blk
    rw [hnx] at k4 k5 k6 k7
    refine ⟨i',e,c',?_,⟨hfr.trans h2.fr,⟨b',k1,k2,k3,by omega,fun j h hlt=>by rw [k5 j h (show (j:Int)<(i:Int)+1 by omega)];exact hlo j h hlt,fun j h hge=> ?_,fun h=> ?_⟩,fun h0 _=>(by have:=hfp hfl;omega),?_⟩,⟨by have:=h3.p0;omega,by have:=h3.w0;omega⟩⟩
    ·unfold F9
     rw [if_neg (by rw [hs];decide),hp]
     exact_mod_cast h1
    ·by_cases e1:j=i
     ·subst e1
      refine .inr ⟨129,?_,.inl (by omega)⟩
      rw [k5 j h (show (j:Int)<(j:Int)+1 by omega),Gq h,if_pos rfl]
     ·exact k6 j h (by omega)
    ·obtain ⟨j,hj8,q1,q2,q3,q4⟩:=k7 h
     exact ⟨j,hj8,by omega,q2,q3,q4⟩
    ·rcases h2.how with ⟨q1,q2,q3⟩ | ⟨q1,q2⟩ | ⟨q1,q2,q3,q4⟩
     ·refine .inl ⟨q1,q2,fun h=>q3 ?_⟩
      rw [(hfr.pos h).1];exact h
     ·exact .inr (.inl ⟨q1,q2⟩)
     ·refine .inr (.inr ⟨q1,q2,q3,?_⟩)
      have:=hfp hfl
      rw [hnx] at q4
      omega
   ·have up':Up c1:=⟨by rw [hoff,he],hfr.dead.trans up.dead,hfr.out.trans up.out⟩
    have hq:(wrK b i (Ck 258 Ar q)).pages[i]=q:=by rw [Gq hj,if_pos rfl];exact F5 (A5q _)
    have hs:Fq c a i q=0:=by unfold Fq;rw [hp,if_pos rfl];exact Ak1 up' hbk hj hq
    refine ⟨(i:Int)+1,0,c1,?_,⟨hfr,⟨_,hbk,hbi',hbad,by simp only [wrK];omega,hlo,hpg _ (.inr (.inl rfl)),fun _=>⟨i,hj,by omega,rfl,rfl,hq⟩⟩,fun _ _ b' hb' j h h2=>(by rw [hbk] at hb';cases hb';rw [Gq h];split;exact .inr (F5 (A5q _));exact .inl (hbi.bl j h h2)),.inr (.inl ⟨rfl,up'.off⟩)⟩,⟨by have:=hcn.p0;omega,by have:=hcn.w0;omega⟩⟩
    unfold F9
    rw [if_pos (by rw [hs];decide),hs,hp]
  ·have hp:=Yi up (d:=q) hb hj hn
   have hs:Fq c a i q=32:=by unfold Fq;rw [hp,if_neg (show ¬ (32:Int)=0 by decide)]
   obtain ⟨i',e,c',h1,h2,h3⟩:=P9 (a:=a) (q:=q) f c (i+1) b B (by omega) up hb hbad hbi (by omega) hc (by omega)
   refine ⟨i',e,c',?_,h2,⟨by have:=h3.p0;omega,by have:=h3.w0;omega⟩⟩
   unfold F9
   rw [if_neg (by rw [hs];decide),hp]
   exact_mod_cast h1
end
section
open Go.K
structure OpV where
 kind:Int
 logical:Int
 block:Int
 least:Bool
 bit:Int
def opC (o:OpV):List Value:=[.int .i64 o.kind,.int .i64 o.logical,.int .i64 o.block,.bool o.least,.int .i64 o.bit]
instance:Cel OpV:=⟨5,opC,fun _=>rfl,fun _=>rfl⟩
def Gm (c:Chip):List Bool:=c.blocks.map (·.bad)
theorem Kk {c:Chip} {i:Nat} {b b':Blk} (hb:c.blocks[i]? =some b) (h:b'.bad=b.bad):(c.blocks.set i b').map (·.bad)=c.blocks.map (·.bad):=by
 rw [List.map_set,h]
 apply A26
 intro j
 rw [A3a]
 split
 ·rename_i e;subst e
  obtain ⟨h1,h2⟩:=A08.1 hb
  simp [h1,h2]
 ·rfl
theorem Ir (c:Chip) (i j:Int) (d:Pg):Gm (Bq c i j d).2=Gm c:=by
 unfold Bq
 split
 ·split
  ·rfl
  ·rename_i b hb
   split
   ·simp only []
    split
    ·refine Kk (c:=Fp (S6 (cnt c))) hb ?_;split <;> rfl
    ·split
     ·refine Kk (c:=Fp (S6 (cnt c))) hb ?_;split <;> rfl
     ·refine Kk (c:=Fp (S6 (cnt c))) hb ?_;split <;> rfl
   ·rfl
 ·rfl
theorem I6 (c:Chip) (i:Int):Gm (Bs c i).2=Gm c:=by
 unfold Bs
 split
 ·split
  ·rfl
  ·rename_i b hb
   simp only []
   split
   ·exact Kk (c:=Fp (Z2 (cnt c))) hb rfl
   ·split
    ·exact Kk (c:=Fp (Z2 (cnt c))) hb rfl
    ·exact Kk (c:=Fp (Z2 (cnt c))) hb rfl
 ·rfl
theorem U6 (a:Int) (q:Pg):∀ (f:Nat) (c:Chip) (i:Int),Gm (F9 f c a i q).2.2=Gm c
 | 0,c,i=>rfl
 | f+1,c,i=>by
  unfold F9
  split
  ·exact Ir c a i q
  ·rw [U6 a q f,Ir]
theorem X3 (c:Chip) (a i:Int) (q:Pg):Gm (Gt c a i q).2.2=Gm c:=U6 a q _ c i
theorem Afy (a:Int) (q:Pg) (s:KS):Gm (G8 a q s).c=Gm s.c:=by
 unfold G8
 simp only []
 split
 ·rw [X3,I6]
 ·split <;> exact I6 _ _
theorem Sq (a:Int) (q:Pg):∀ (f:Nat) (s:KS),Gm (Dh f a q s).c=Gm s.c
 | 0,s=>rfl
 | f+1,s=>by
  unfold Dh
  split
  ·rw [Sq a q f,Afy]
  ·rfl
theorem Pw (a:Int) (q:Pg):∀ (f:Nat) (s:KS),(0≤s.next∧s.next≤8)→(s.area=a∨s.area=1 - a)→(0≤(Dh f a q s).next∧(Dh f a q s).next≤8)∧((Dh f a q s).area=a∨(Dh f a q s).area=1 - a)
 | 0,s,h,h2=>⟨h,h2⟩
 | f+1,s,h,h2=>by
  unfold Dh
  split
  ·refine Pw a q f _ (Qh h) (.inr ?_)
   unfold G8
   simp only []
   split
   ·rfl
   ·split <;> rfl
  ·exact ⟨h,h2⟩
theorem X4 (a:Int) (q:Pg):∀ (f:Nat) (s:KS),(Dh f a q s).c.aC=s.c.aC
 | 0,s=>rfl
 | f+1,s=>by
  unfold Dh
  split
  ·rw [X4 a q f,Qg]
  ·rfl
theorem Afz (t:TS) (u l:List Int) (c:Chip):Gm (Fs t u l c).c=Gm c:=by
 unfold Fs
 simp only []
 rw [Sq,X3]
theorem Aol (t:TS) (u l:List Int) (c:Chip):(Fs t u l c).c.aC=c.aC:=by
 unfold Fs
 simp only []
 rw [X4,Aau]
theorem Af0 (t:TS) (u l:List Int) (c:Chip):Gm (Bw t u l c).2.2=Gm c:=by
 unfold Bw
 simp only []
 split <;> exact Afz t u l c
theorem Ac5 (t:TS) (u l:List Int) (c:Chip):(Bw t u l c).2.2.aC=c.aC:=by
 unfold Bw
 simp only []
 split <;> exact Aol t u l c
theorem Ate (t:TS) (u l:List Int) (c:Chip) (hn:0≤t.next) (ha:0≤t.area∧t.area≤1) :
  (Bw t u l c).2.1=t∨((Bw t u l c).2.1.uses=u∧(Bw t u l c).2.1.lost=l∧0≤(Bw t u l c).2.1.next∧(0≤(Bw t u l c).2.1.area∧(Bw t u l c).2.1.area≤1)):=by
 have hr:(0≤(Fs t u l c).next∧(Fs t u l c).next≤8)∧((Fs t u l c).area=t.area∨(Fs t u l c).area=1 - t.area):=by
  unfold Fs
  simp only []
  exact Pw _ _ _ _ (Aav _ _ _ _ hn) (.inl rfl)
 unfold Bw
 simp only []
 split
 ·exact .inl rfl
 ·refine .inr ⟨rfl,rfl,hr.1.1,?_⟩
  show 0≤(Fs t u l c).area∧(Fs t u l c).area≤1
  rcases hr.2 with h | h <;> rw [h] <;> omega
theorem F4 {c c':Chip} (h:Gm c'=Gm c):c'.blocks.length=c.blocks.length:=by
 have:=A52 List.length h
 simpa [Gm] using this
theorem Hx:∀ {l m:List Int},l.Nodup→(∀ x∈l,x∈m)→l.length≤m.length
 | [],m,_,_=>A5s _
 | x::l,m,h,hs=>by
  have hx:=hs x (.head _)
  obtain ⟨h1,h2⟩:=A4i.1 h
  have:=Hx (l:=l) (m:=m.erase x) h2 (fun y hy=>(List.mem_erase_of_ne (fun e=>by subst e;exact h1 hy)).2 (hs y (.tail _ hy)))
  have h3:=A1f hx
  have h4:=A1p hx
  rw [A3v]
  omega
theorem has_mem {l:List Int} {x:Int}:E4 l x=true↔x∈l:=by
 have:E4 l x=l.any (· == x):=U7 l (· == x)
 rw [this,A3p]
 constructor
 ·rintro ⟨y,h1,h2⟩
  have:y=x:=by simpa using h2
  subst this;exact h1
 ·exact fun h=>⟨x,h,by simp⟩
structure FmtI (c:Chip) (size:Int) (i:Nat) (u l:List Int):Prop where
 len:(u.length:Int)≤size
 un:u.Nodup
 us:∀ x∈u,2≤x∧x<i∧Jh c x=false
 ln:l.Nodup
 ls:∀ x∈l,0≤x∧x<i∧Jh c x=true
 lb:∀ x:Int,0≤x→x<i→Jh c x=true→x∈l
 all:Jh c 0=false→Jh c 1=false→(u.length:Int)=size∨u.length+l.length+min i 2=i
theorem Lm {l:List Int} {x:Int} (h:l.Nodup) (hx:x∉l):(l++[x]).Nodup:=by
 rw [A3d]
 exact ⟨h,by simp,fun a ha b hb=>by simp at hb;subst hb;intro e;subst e;exact hx ha⟩
theorem Azn (c:Chip) {size:Int} (hs:0≤size):∀ i,FmtI c size i (Fx c size i).1 (Fx c size i).2
 | 0=>⟨by simpa [Fx] using hs,by simp [Fx],by simp [Fx],by simp [Fx],by simp [Fx],fun x h1 h2=>by omega,fun _ _=> .inr (by simp [Fx])⟩
 | i+1=>by
  have ih:=Azn c hs i
  unfold Fx
  simp only []
  generalize hu:(Fx c size i).1=u at ih ⊢
  generalize hl:(Fx c size i).2=l at ih ⊢
  split
  ·rename_i hb
   refine ⟨ih.len,ih.un,fun x hx=> ?_,Lm ih.ln (fun h=>by have:=ih.ls _ h;omega),fun x hx=> ?_,fun x h0 h1 h2=> ?_,fun h0 h1=> ?_⟩
   ·have:=ih.us x hx;exact ⟨this.1,by omega,this.2.2⟩
   ·rcases A4f.1 hx with h | h
    ·have:=ih.ls x h;exact ⟨this.1,by omega,this.2.2⟩
    ·simp at h;subst h;exact ⟨by omega,by omega,hb⟩
   ·by_cases he:x=(i:Int)
    ·subst he;simp
    ·exact A18 _ (ih.lb x h0 (by omega) h2)
   ·have hi:2≤i:=by
     rcases A5g i 2 with h | h
     ·rcases (show i=0∨i=1 by omega) with rfl | rfl
      ·rw [show ((0:Nat):Int)=0 from rfl,h0] at hb;cases hb
      ·rw [show ((1:Nat):Int)=1 from rfl,h1] at hb;cases hb
     ·exact h
    rcases ih.all h0 h1 with h | h
    ·exact .inl h
    ·refine .inr ?_;simp only [A2x,A3v,A4c];omega
  ·rename_i hb
   have hb':Jh c i=false:=by simpa using hb
   split
   ·rename_i hc
    simp only [A3n,A3j] at hc
    refine ⟨by simp only [A2x,A3v,A4c];omega,Lm ih.un (fun h=>by have:=ih.us _ h;omega),fun x hx=> ?_,ih.ln,fun x hx=> ?_,fun x h0 h1 h2=> ?_,fun h0 h1=> ?_⟩
    ·rcases A4f.1 hx with h | h
     ·have:=ih.us x h;exact ⟨this.1,by omega,this.2.2⟩
     ·simp at h;subst h;exact ⟨hc.1,by omega,hb'⟩
    ·have:=ih.ls x hx;exact ⟨this.1,by omega,this.2.2⟩
    ·by_cases he:x=(i:Int)
     ·subst he;rw [hb'] at h2;cases h2
     ·exact ih.lb x h0 (by omega) h2
    ·rcases ih.all h0 h1 with h | h
     ·omega
     ·refine .inr ?_;simp only [A2x,A3v,A4c];omega
   ·rename_i hc
    rw [hu,hl]
    have hlen:=ih.len
    refine ⟨ih.len,ih.un,fun x hx=> ?_,ih.ln,fun x hx=> ?_,fun x h0 h1 h2=> ?_,fun h0 h1=> ?_⟩
    ·have:=ih.us x hx;exact ⟨this.1,by omega,this.2.2⟩
    ·have:=ih.ls x hx;exact ⟨this.1,by omega,this.2.2⟩
    ·by_cases he:x=(i:Int)
     ·subst he;rw [hb'] at h2;cases h2
     ·exact ih.lb x h0 (by omega) h2
    ·rcases ih.all h0 h1 with h | h
     ·exact .inl h
     ·rcases A5g i 2 with h2 | h2
      ·refine .inr ?_;omega
      ·refine .inl ?_
       have:¬ ((u.length:Int)<size):=fun h3=>hc (by simp only [A3n,A3j];exact ⟨by omega,h3⟩)
       omega
theorem Akm {l:List Int} {i:Nat} {b:Int} (h:l.Nodup) (hb:b∉l):(l.set i b).Nodup:=by
 rw [A02,A1a]
 rw [A02,A1a] at h
 intro j k hj hk hjk
 simp only [A4d] at hj hk
 rw [A3u,A3u]
 split
 ·split
  ·omega
  ·intro e;exact hb (by rw [e];exact A3t _)
 ·split
  ·intro e;exact hb (by rw [← e];exact A3t _)
  ·exact h j k hj hk hjk
theorem Atf {l:List Int} {i:Nat} {b x:Int} (h:l.Nodup) (hi:i<l.length) (hx:x∈l.set i b):x=b∨(x∈l∧x≠l[i]):=by
 obtain ⟨j,hj,rfl⟩:=List.getElem_of_mem hx
 simp only [A4d] at hj
 rw [A3u]
 split
 ·exact .inl rfl
 ·refine .inr ⟨A3t _,fun e=> ?_⟩
  rename_i hne
  rw [A02,A1a] at h
  rcases Nat.lt_or_gt_of_ne hne with h1 | h1
  ·exact h i j hi hj h1 e.symm
  ·exact h j i hj hi h1 e
end
section
open Go.K
def ce (c:Chip):Chip:=Fp (Z2 (cnt c))
structure EraseR (c:Chip) (a:Nat) (b:Blk) (e:Int) (c':Chip):Prop where
  fr:Fr a c c'
  blk:∃ b',c'.blocks[a]? =some b'∧BI b'∧b'.bad=b.bad∧(∀ (j:Nat) (h:j<8),b'.pages[j]=Ar∨b'.pages[j]=b.pages[j])∧(e=0→b'.next=0)
  how:(e=30∧c'.off=true∧¬ c.after<0)∨(e=33∧c'.off=false∧FW c'+1≤FW c)∨(e=0∧c'.off=false)
theorem Apg {c:Chip} {a:Nat} {b:Blk} {B:Int} (hc:Cnt c B) (hB:B<9000000000000000000):Fr a c (Gn (ce c) a b)∧Cnt (Gn (ce c) a b) (B+1)∧(Sr c=true→FW (Gn (ce c) a b)+1≤FW c):=by
  have hp:=hc.p0
  have hw:=hc.w0
  have e:(Gn (ce c) a b).wc=c.wc+1:=by
    show w64 (c.wc+1)=c.wc+1
    exact Ib (by omega)
  have hfs:=St c.wf.list c.wc
  have hFW:FW (Gn (ce c) a b)+(if E4 c.wf.list c.wc=true then 1 else 0)≤FW c:=by
    unfold FW
    rw [e]
    exact hfs
  refine ⟨⟨fun k hk=> ?_,?_,rfl,rfl,rfl,rfl,rfl,rfl,rfl,A5q _,?_,fun h=> ?_,rfl⟩,⟨by show 0≤c.pc∧c.pc≤B+1;omega,by rw [e];omega⟩,fun h=> ?_⟩
  · exact A16 (fun e=>hk e.symm)
  · show (c.blocks.set a b).length=_
    simp
  · omega
  · exact ⟨if_pos h,if_pos h⟩
  · rw [Ape hc hB] at h
    rw [if_pos h] at hFW
    exact hFW
theorem Agh {c:Chip} {a:Nat} {b:Blk} (up:Up c):(Gn (ce c) a b).off=El c:=by
  show (if c.after<0 then c.off else decide (c.after=0))=_
  unfold El
  split
  · exact up.off
  · rfl
theorem Vk {c:Chip} {a:Nat} {b b':Blk} (hb:c.blocks[a]? =some b'):(Gn (ce c) a b).blocks[a]? =some b:=by
  have:=(A08.1 hb).1
  show (c.blocks.set a b)[a]? =_
  simp [this]
theorem Aih {b:Blk} {m j:Nat} (h:j<8):(D4 b m).pages[j]=if j<m then Ar else b.pages[j]:=by simp [D4]
theorem Om {c:Chip} {a:Nat} {b:Blk} {B:Int} (up:Up c) (hb:c.blocks[a]? =some b) (hbad:b.bad=false) (hc:Cnt c B) (hB:B<8000000000000000000):∃ e c',Bs c a=(e,c')∧EraseR c a b e c'∧Cnt c' (B+1):=by
  have hi:a<c.blocks.length:=(A08.1 hb).1
  have hm:B9 c a 0=0:=Adp (j:=0) up hi (by omega)
  have hb':c.blocks[((a:Nat):Int).toNat]? =some b:=by simpa using hb
  cases he:El c with
  | true =>
    refine ⟨30,_,U9 hm hb' he,?_⟩
    rw [A24]
    obtain ⟨h1,h2,_⟩:=Apg (a:=a) (b:=D4 { b with next:=8 } (A8 c.keep 8)) hc (by omega)
    exact ⟨⟨h1,⟨_,Vk hb,⟨⟨by simp [D4],by simp [D4]⟩,fun j h h2=>(by simp only [D4] at h2;omega)⟩,rfl,fun j h=>by rw [Aih h];split;exact .inl rfl;exact .inr rfl,fun h=>by cases h⟩,.inl ⟨rfl,(Agh up).trans he,P8 he⟩⟩,h2⟩
  | false =>
    cases hf:Sr c with
    | true =>
      refine ⟨33,_,Va hm hb' he (by rw [hf];rfl),?_⟩
      rw [A24]
      obtain ⟨h1,h2,h3⟩:=Apg (a:=a) (b:={ b with next:=8 }) hc (by omega)
      exact ⟨⟨h1,⟨_,Vk hb,⟨⟨by simp,by simp⟩,fun j h h2=>(by simp only at h2;omega)⟩,rfl,fun j h=> .inr rfl,fun h=>by cases h⟩,.inr (.inl ⟨rfl,(Agh up).trans he,h3 hf⟩)⟩,h2⟩
    | false =>
      refine ⟨0,_,Ade hm hb' he (by rw [hf,hbad];rfl),?_⟩
      rw [A24]
      obtain ⟨h1,h2,h3⟩:=Apg (a:=a) (b:={ D4 { b with next:=8 } 8 with next:=0 }) hc (by omega)
      have hpg:∀ (j:Nat) (h:j<8),({ D4 { b with next:=8 } 8 with next:=0 }:Blk).pages[j]=Ar:=fun j h=>by
        show (D4 { b with next:=8 } 8).pages[j]=Ar
        rw [Aih h,if_pos h]
      exact ⟨⟨h1,⟨_,Vk hb,⟨⟨by simp,by simp⟩,fun j h _=>hpg j h⟩,rfl,fun j h=> .inl (hpg j h),fun _=>rfl⟩,.inr (.inr ⟨rfl,(Agh up).trans he⟩)⟩,h2⟩
structure Hold (c:Chip) (v:Nat) (u l:List Int) (a:Nat):Prop where
  ok:OkP c.blocks.length u l
  a2:a<2
  bs:∀ k<2,∃ b,c.blocks[k]? =some b∧BI b∧b.bad=false
  le:∀ k<2,∀ b,c.blocks[k]? =some b→∀ (j:Nat) (h:j<8) (w:Nat) (u' l':List Int),RP c.blocks.length b.pages[j]=some (w,u',l')→w≤v∧(w=v→u'=u∧l'=l)
  ex:∃ b,c.blocks[a]? =some b∧∃ (j:Nat) (h:j<8),RP c.blocks.length b.pages[j]=some (v,u,l)
theorem Vl:Be Ar=true:=Ik
theorem Mx {n:Nat}:RP n Ar=none:=Azt Vl
theorem Hold.put {c c':Chip} {v:Nat} {u l u' l':List Int} {a k:Nat} {V:Wd} {b:Blk} {i' e:Int} (h:Hold c v u l a) (hk:k<2) (hb:c.blocks[k]? =some b) (hV:V.toNat=v+1) (ok:OkP c.blocks.length u' l')
    (r:PutR c k b (Ed V c.blocks.length u' l') i' e c'):(e=0→Hold c' (v+1) u' l' k)∧(e=30→Hold c' v u l a∨Hold c' (v+1) u' l' k)∧(e=34→Hold c' v u l a):=by
  obtain ⟨b',k1,k2,k3,k4,k5,k6,k7⟩:=r.blk
  have hq:=Aid (v:=V) ok
  rw [hV] at hq
  generalize Ed V c.blocks.length u' l'=q at *
  obtain ⟨b0,hb0,hbi,_⟩:=h.bs k hk
  rw [hb] at hb0
  cases hb0
  have hbs:∀ i<2,∃ b,c'.blocks[i]? =some b∧BI b∧b.bad=false:=fun i hi=>by
    by_cases e1:i=k
    · subst e1;exact ⟨b',k1,k2,k3⟩
    · rw [r.fr.oth i e1];exact h.bs i hi
  have hpg:∀ (j:Nat) (hj:j<8),(RP c.blocks.length b'.pages[j]=none∨∃ (hlt:(j:Int)<b.next),b'.pages[j]=b.pages[j])∨(b'.pages[j]=q∧(e=0∨e=30)):=fun j hj=>by
    rcases (show (j:Int)<b.next∨b.next≤j by omega) with h1 | h1
    · exact .inl (.inr ⟨h1,k5 j hj h1⟩)
    · rcases k6 j hj h1 with h2 | ⟨m,h2,h3⟩
      · exact .inl (.inl (by rw [h2];exact Mx))
      · rcases A5g m 258 with hm | hm
        · exact .inl (.inl (by rw [h2];exact Apc hm))
        · rw [F5 hm] at h2
          exact .inr ⟨h2,by rcases h3 with h3 | h3;omega;exact h3⟩
  have hnew:(∃ (j:Nat) (hj:j<8),b'.pages[j]=q)→Hold c' (v+1) u' l' k:=fun ⟨j0,hj0,h0⟩=>by
    refine ⟨by rw [r.fr.len];exact ok,hk,hbs,fun i hi b2 hb2 j hj w u2 l2 hw=> ?_,⟨b',k1,j0,hj0,by rw [r.fr.len,h0];exact hq⟩⟩
    rw [r.fr.len] at hw
    by_cases e1:i=k
    · subst e1
      rw [k1] at hb2
      cases hb2
      rcases hpg j hj with (h1 | ⟨h1,h2⟩) | ⟨h1,_⟩
      · rw [h1] at hw;cases hw
      · rw [h2] at hw
        have:=(h.le i hi b hb j hj w u2 l2 hw).1
        exact ⟨by omega,fun e2=>by omega⟩
      · rw [h1,hq] at hw
        simp only [A3h,A48] at hw
        obtain ⟨h3,h4,h5⟩:=hw
        exact ⟨by omega,fun _=>⟨h4.symm,h5.symm⟩⟩
    · rw [r.fr.oth i e1] at hb2
      have:=(h.le i hi b2 hb2 j hj w u2 l2 hw).1
      exact ⟨by omega,fun e2=>by omega⟩
  have hold:(∀ (j:Nat) (hj:j<8),RP c.blocks.length b'.pages[j]=none∨∃ (hlt:(j:Int)<b.next),b'.pages[j]=b.pages[j])→Hold c' v u l a:=fun hall=>by
    refine ⟨by rw [r.fr.len];exact h.ok,h.a2,hbs,fun i hi b2 hb2 j hj w u2 l2 hw=> ?_,?_⟩
    · rw [r.fr.len] at hw
      by_cases e1:i=k
      · subst e1
        rw [k1] at hb2
        cases hb2
        rcases hall j hj with h1 | ⟨h1,h2⟩
        · rw [h1] at hw;cases hw
        · rw [h2] at hw
          exact h.le i hi b hb j hj w u2 l2 hw
      · rw [r.fr.oth i e1] at hb2
        exact h.le i hi b2 hb2 j hj w u2 l2 hw
    · obtain ⟨b2,hb2,j,hj,hr⟩:=h.ex
      rw [r.fr.len]
      by_cases e1:a=k
      · subst e1
        rw [hb] at hb2
        cases hb2
        have hlt:(j:Int)<b.next:=by
          rcases (show (j:Int)<b.next∨b.next≤j by omega) with h1 | h1
          · exact h1
          · rw [hbi.bl j hj h1,Mx] at hr;cases hr
        exact ⟨b',k1,j,hj,by rw [k5 j hj hlt];exact hr⟩
      · exact ⟨b2,by rw [r.fr.oth a e1];exact hb2,j,hj,hr⟩
  have hdec:(∃ (j:Nat) (hj:j<8),b'.pages[j]=q)∨(∀ (j:Nat) (hj:j<8),RP c.blocks.length b'.pages[j]=none∨∃ (hlt:(j:Int)<b.next),b'.pages[j]=b.pages[j]):=by
    by_cases hx:∃ (j:Nat) (hj:j<8),b'.pages[j]=q
    · exact .inl hx
    · refine .inr fun j hj=> ?_
      rcases hpg j hj with h1 | ⟨h1,_⟩
      · exact h1
      · exact absurd ⟨j,hj,h1⟩ hx
  refine ⟨fun e0=> ?_,fun e0=> ?_,fun e0=> ?_⟩
  · obtain ⟨j,hj,_,_,_,h1⟩:=k7 e0
    exact hnew ⟨j,hj,h1⟩
  · rcases hdec with h1 | h1
    · exact .inr (hnew h1)
    · exact .inl (hold h1)
  · refine hold fun j hj=> ?_
    rcases hpg j hj with h1 | ⟨_,h1⟩
    · exact h1
    · omega
theorem Hold.erase {c c':Chip} {v:Nat} {u l:List Int} {a k:Nat} {b:Blk} {e:Int} (h:Hold c v u l a) (hk:k≠a) (hb:c.blocks[k]? =some b) (hbad:b.bad=false) (r:EraseR c k b e c'):Hold c' v u l a:=by
  obtain ⟨b',k1,k2,k3,k4,k5⟩:=r.blk
  refine ⟨by rw [r.fr.len];exact h.ok,h.a2,fun i hi=> ?_,fun i hi b2 hb2 j hj w u2 l2 hw=> ?_,?_⟩
  · by_cases e1:i=k
    · subst e1;exact ⟨b',k1,k2,k3.trans hbad⟩
    · rw [r.fr.oth i e1];exact h.bs i hi
  · rw [r.fr.len] at hw
    by_cases e1:i=k
    · subst e1
      rw [k1] at hb2
      cases hb2
      rcases k4 j hj with h1 | h1
      · rw [h1,Mx] at hw;cases hw
      · rw [h1] at hw;exact h.le i hi b hb j hj w u2 l2 hw
    · rw [r.fr.oth i e1] at hb2
      exact h.le i hi b2 hb2 j hj w u2 l2 hw
  · obtain ⟨b2,hb2,j,hj,hr⟩:=h.ex
    rw [r.fr.len]
    exact ⟨b2,by rw [r.fr.oth a (fun e1=>hk e1.symm)];exact hb2,j,hj,hr⟩
def TI (c:Chip) (t:TS):Prop:=∃ a:Nat,t.area=a∧Hold c t.version.toNat t.uses t.lost a∧∃ b,c.blocks[a]? =some b∧0≤t.next∧t.next≤b.next
structure Fr2 (c c':Chip):Prop where
  oth:∀ k,2≤k→c'.blocks[k]? =c.blocks[k]?
  len:c'.blocks.length=c.blocks.length
  dead:c'.dead=c.dead
  out:c'.out=c.out
  aP:c'.aP=c.aP
  aC:c'.aC=c.aC
  aB:c'.aB=c.aB
  pf:c'.pf=c.pf
  wf:c'.wf=c.wf
  fp:FP c'≤FP c
  fw:FW c'≤FW c
  pos:c.after<0→c'.after=c.after∧c'.off=c.off
  keep:c'.keep=c.keep
theorem Fr.two {a:Nat} {c c':Chip} (h:Fr a c c') (ha:a<2):Fr2 c c':=⟨fun k hk=>h.oth k (by omega),h.len,h.dead,h.out,h.aP,h.aC,h.aB,h.pf,h.wf,h.fp,h.fw,h.pos,h.keep⟩
theorem Fr2.trans {c c' c'':Chip} (h:Fr2 c c') (k:Fr2 c' c''):Fr2 c c'' :=
  ⟨fun i hi=>(k.oth i hi).trans (h.oth i hi),k.len.trans h.len,k.dead.trans h.dead,k.out.trans h.out,k.aP.trans h.aP,k.aC.trans h.aC,k.aB.trans h.aB,k.pf.trans h.pf,k.wf.trans h.wf,A5f k.fp h.fp,A5f k.fw h.fw,
    fun hp=>by
      obtain ⟨h1,h2⟩:=h.pos hp
      obtain ⟨h3,h4⟩:=k.pos (by omega)
      exact ⟨h3.trans h1,h4.trans h2⟩,k.keep.trans h.keep⟩
def Azu (c:Chip) (v:Nat) (u l u' l':List Int) (a:Nat) (s:KS):Prop :=
  (s.e=0∧s.c.off=false∧∃ k,s.area=(k:Nat)∧Hold s.c (v+1) u' l' k∧∃ b,s.c.blocks[k]? =some b∧0≤s.next∧s.next≤b.next) ∨
  (s.e=30∧s.c.off=true∧¬ c.after<0∧(Hold s.c v u l a∨∃ k,Hold s.c (v+1) u' l' k))
theorem Up.of {c c':Chip} (h:Up c) (hd:c'.dead=c.dead) (ho:c'.out=c.out) (hf:c'.off=false):Up c':=⟨hf,hd.trans h.dead,ho.trans h.out⟩
theorem Aii {c:Chip} {a:Int} {i:Nat} {q:Pg}:Gt c a i q=F9 (8 - i) c a i q:=by
  unfold Gt
  congr 1
  omega
theorem Yj {v:Nat} {u l u' l':List Int} {a n:Nat} {V:Wd} (ha:a<2) (hV:V.toNat=v+1) (ok:OkP n u' l') :
    ∀ (f:Nat) (s:KS) (B:Int),s.e=34→s.c.blocks.length=n→Hold s.c v u l a→Up s.c→FP s.c≤7→FW s.c<f→Cnt s.c B→B+100*f<8000000000000000000 →
      Azu s.c v u l u' l' a (Dh f (a:Nat) (Ed V n u' l') s)∧Fr2 s.c (Dh f (a:Nat) (Ed V n u' l') s).c∧Cnt (Dh f (a:Nat) (Ed V n u' l') s).c (B+9*f)
  | 0,s,B,he,hn,h,up,hfp,hfw,hc,hB=>by omega
  | f+1,s,B,he,hn,h,up,hfp,hfw,hc,hB=>by
    obtain ⟨b,hb,hbi,hbad⟩:=h.bs (1 - a) (by omega)
    obtain ⟨e,c1,h1,h2,h3⟩:=Om up hb hbad hc (by omega)
    have hra:(1:Int) - (a:Nat)=((1 - a:Nat):Int):=by omega
    have hold1:=h.erase (k:=1 - a) (by omega) hb hbad h2
    unfold Dh
    rw [if_pos he]
    unfold G8
    simp only []
    rw [hra,h1]
    simp only []
    rcases h2.how with ⟨rfl,q1,q2⟩ | ⟨rfl,q1,q2⟩ | ⟨rfl,q1⟩
    · rw [if_neg (by decide),if_neg (by decide)]
      have hk:Dh f (a:Nat) (Ed V n u' l') ⟨((1 - a:Nat):Int),s.next,30,c1⟩=⟨((1 - a:Nat):Int),s.next,30,c1⟩:=by
        cases f with
        | zero=>rfl
        | succ f=>unfold Dh;rw [if_neg (show ¬ (30:Int)=34 by decide)]
      rw [hk]
      exact ⟨.inr ⟨rfl,q1,q2,.inl hold1⟩,h2.fr.two (by omega),⟨by have:=h3.p0;simp only;omega,by have:=h3.w0;simp only;omega⟩⟩
    · rw [if_neg (by decide),if_pos rfl]
      have up1:=up.of h2.fr.dead h2.fr.out q1
      obtain ⟨r1,r2,r3⟩:=Yj ha hV ok f ⟨((1 - a:Nat):Int),s.next,s.e,c1⟩ (B+1) he (h2.fr.len.trans hn) hold1 up1 (by have:=h2.fr.fp;simp only;omega) (by simp only;omega) h3 (by omega)
      refine ⟨?_,(h2.fr.two (by omega)).trans r2,⟨by have:=r3.p0;omega,by have:=r3.w0;omega⟩⟩
      rcases r1 with r1 | ⟨r1,r4,r5,r6⟩
      · exact .inl r1
      · exact .inr ⟨r1,r4,fun hp=>r5 (by show c1.after<0;rw [(h2.fr.pos hp).1];exact hp),r6⟩
    · rw [if_pos rfl]
      have up1:=up.of h2.fr.dead h2.fr.out q1
      obtain ⟨b1,k1,k2,k3,k4,k5⟩:=h2.blk
      have hp0:Gt c1 ((1 - a:Nat):Int) 0 (Ed V n u' l')=F9 8 c1 ((1 - a:Nat):Int) ((0:Nat):Int) (Ed V n u' l'):=Aii (i:=0)
      obtain ⟨i',e,c2,p1,p2,p3⟩:=P9 (a:=1 - a) (q:=Ed V n u' l') 8 c1 0 b1 (B+1) (by omega) up1 k1 (k3.trans hbad) k2 (by rw [k5 rfl];exact A5p _) h3 (by omega)
      rw [hp0,p1]
      simp only []
      have hlen1:c1.blocks.length=n:=h2.fr.len.trans hn
      have hp:=hold1.put (k:=1 - a) (V:=V) (u':=u') (l':=l') (by omega) k1 hV (by rw [hlen1];exact ok) (by rw [hlen1];exact p2)
      have hkk:e≠34→Dh f (a:Nat) (Ed V n u' l') ⟨((1 - a:Nat):Int),i',e,c2⟩=⟨((1 - a:Nat):Int),i',e,c2⟩:=fun hne=>by
        cases f with
        | zero=>rfl
        | succ f=>unfold Dh;rw [if_neg hne]
      have hfr:=(h2.fr.two (by omega)).trans (p2.fr.two (by omega))
      rcases p2.how with ⟨rfl,q2,q3⟩ | ⟨rfl,q2⟩ | ⟨rfl,q2,q3,q4⟩
      · rw [hkk (by decide)]
        refine ⟨.inr ⟨rfl,q2,fun hpo=>q3 (by rw [(h2.fr.pos hpo).1];exact hpo),?_⟩,hfr,⟨by have:=p3.p0;simp only;omega,by have:=p3.w0;simp only;omega⟩⟩
        rcases hp.2.1 rfl with h5 | h5
        · exact .inl h5
        · exact .inr ⟨_,h5⟩
      · rw [hkk (by decide)]
        obtain ⟨b2,m1,m2,m3,m4,m5,m6,m7⟩:=p2.blk
        obtain ⟨j,hj,_,n2,n3,_⟩:=m7 rfl
        exact ⟨.inl ⟨rfl,q2,1 - a,rfl,hp.1 rfl,b2,m1,by simp only;omega,by simp only;omega⟩,hfr,⟨by have:=p3.p0;simp only;omega,by have:=p3.w0;simp only;omega⟩⟩
      · have h9:=k5 rfl
        have h10:=h2.fr.fp
        rw [h9] at q4
        have:(8 - (0:Int)).toNat=8:=rfl
        omega
theorem Ak2 {c:Chip} {t:TS} {u l:List Int} {B:Int} (up:Up c) (h:TI c t) (hv:t.version.toNat+1<18446744073709551616) (ok:OkP c.blocks.length u l) (hfp:FP c≤7) (hfw:FW c≤3) (hc:Cnt c B) (hB:B+1000<8000000000000000000) :
    ∃ e t' c',Bw t u l c=(e,t',c')∧Fr2 c c'∧Cnt c' (B+100) ∧
      ((e=0∧Up c'∧TI c' t'∧t'.uses=u∧t'.lost=l∧t'.version.toNat=t.version.toNat+1) ∨
       (e=30∧c'.off=true∧¬ c.after<0∧t'=t∧((∃ a,Hold c' t.version.toNat t.uses t.lost a)∨∃ a,Hold c' (t.version.toNat+1) u l a))):=by
  obtain ⟨a,ha,hh,b,hb,hn0,hn1⟩:=h
  have hV:(t.version+1).toNat=t.version.toNat+1:=by
    rw [A3k]
    show (t.version.toNat+1) % 2 ^ 64=_
    exact A31 hv
  obtain ⟨b0,hb0,hbi,hbad⟩:=hh.bs a hh.a2
  rw [hb] at hb0
  cases hb0
  have hnx:=hbi.nx
  obtain ⟨i,hi⟩:∃ i:Nat,t.next=i:=⟨t.next.toNat,by omega⟩
  obtain ⟨i',e,c1,p1,p2,p3⟩:=P9 (a:=a) (q:=Ed (t.version+1) c.blocks.length u l) (8 - i) c i b B (by omega) up hb hbad hbi (by omega) hc (by omega)
  have hp0:Gt c t.area t.next (Ed (t.version+1) c.blocks.length u l)=(i',e,c1):=by rw [ha,hi,Aii];exact p1
  have hp:=hh.put (k:=a) (V:=t.version+1) (u':=u) (l':=l) hh.a2 hb hV ok p2
  have hS:Fs t u l c=Dh 4 (a:Nat) (Ed (t.version+1) c.blocks.length u l) ⟨(a:Nat),i',e,c1⟩:=by
    unfold Fs
    simp only []
    rw [hp0,ha]
  have key:Azu c t.version.toNat t.uses t.lost u l a (Fs t u l c)∧Fr2 c (Fs t u l c).c∧Cnt (Fs t u l c).c (B+100):=by
    rw [hS]
    have hfr:=p2.fr.two hh.a2
    have hkk:e≠34→Dh 4 (a:Nat) (Ed (t.version+1) c.blocks.length u l) ⟨(a:Nat),i',e,c1⟩=⟨(a:Nat),i',e,c1⟩:=fun hne=>by
      unfold Dh;rw [if_neg hne]
    rcases p2.how with ⟨rfl,q2,q3⟩ | ⟨rfl,q2⟩ | ⟨rfl,q2,q3,q4⟩
    · rw [hkk (by decide)]
      refine ⟨.inr ⟨rfl,q2,q3,?_⟩,hfr,⟨by have:=p3.p0;simp only;omega,by have:=p3.w0;simp only;omega⟩⟩
      rcases hp.2.1 rfl with h5 | h5
      · exact .inl h5
      · exact .inr ⟨_,h5⟩
    · rw [hkk (by decide)]
      obtain ⟨b2,m1,m2,m3,m4,m5,m6,m7⟩:=p2.blk
      obtain ⟨j,hj,_,n2,n3,_⟩:=m7 rfl
      exact ⟨.inl ⟨rfl,q2,a,rfl,hp.1 rfl,b2,m1,by simp only;omega,by simp only;omega⟩,hfr,⟨by have:=p3.p0;simp only;omega,by have:=p3.w0;simp only;omega⟩⟩
    · have h10:=p2.fr.fp
      have h11:=p2.fr.fw
      have hlen:c1.blocks.length=c.blocks.length:=p2.fr.len
      obtain ⟨r1,r2,r3⟩:=Yj (n:=c.blocks.length) (V:=t.version+1) (u:=t.uses) (l:=t.lost) hh.a2 hV ok 4 ⟨(a:Nat),i',34,c1⟩ (B+8) rfl hlen (hp.2.2 rfl) (up.of p2.fr.dead p2.fr.out q2) (by simp only;omega) (by simp only;omega) ⟨by have:=p3.p0;simp only;omega,by have:=p3.w0;simp only;omega⟩ (by omega)
      refine ⟨?_,hfr.trans r2,⟨by have:=r3.p0;omega,by have:=r3.w0;omega⟩⟩
      rcases r1 with r1 | ⟨r1,r4,r5,r6⟩
      · exact .inl r1
      · exact .inr ⟨r1,r4,fun hpo=>r5 (by show c1.after<0;rw [(p2.fr.pos hpo).1];exact hpo),r6⟩
  obtain ⟨k1,k2,k3⟩:=key
  generalize hs:Fs t u l c=s at *
  rcases k1 with ⟨e0,h1,k,h2,h3,b2,h4,h5,h6⟩ | ⟨e0,h1,h2,h3⟩
  · refine ⟨0,⟨u,l,t.version+1,s.area,s.next,s.next - 1⟩,s.c,?_,k2,k3,.inl ⟨rfl,up.of k2.dead k2.out h1,⟨k,h2,?_,b2,h4,h5,h6⟩,rfl,rfl,hV⟩⟩
    · unfold Bw
      simp only [hs]
      rw [if_neg (by rw [e0];decide)]
    · show Hold s.c (t.version+1).toNat u l k
      rw [hV];exact h3
  · refine ⟨30,t,s.c,?_,k2,k3,.inr ⟨rfl,h1,h2,rfl,?_⟩⟩
    · unfold Bw
      simp only [hs]
      rw [if_pos (by rw [e0];decide),e0]
    · rcases h3 with h3 | h3
      · exact .inl ⟨a,h3⟩
      · exact .inr h3
theorem Ak3 {c:Chip} {v a:Nat} {u l:List Int} (up:Up c) (h:Hold c v u l a):∃ t,Dk c=(0,t)∧TI c t∧t.uses=u∧t.lost=l∧t.version.toNat=v:=by
  have hlen:2≤c.blocks.length:=by have:=h.ok.n1;omega
  have hm:B9 c 0 0=0:=Adp (i:=0) (j:=0) up (by omega) (by omega)
  have hrd:∀ k<2,∀ b,c.blocks[k]? =some b→∀ (j:Nat) (hj:j<8),Bp c (k:Nat) (j:Nat)=b.pages[j]:=fun k hk b hb j hj=>Pv (Adp up (by omega) hj) hb hj
  obtain ⟨b,hb,j,hj,hr⟩:=h.ex
  obtain ⟨t,ho,hi⟩:=Age hm h.a2 hj (by rw [hrd a h.a2 b hb j hj];exact hr)
  refine ⟨t,ho,?_⟩
  obtain ⟨k,hk⟩:∃ k:Nat,t.area=k:=⟨t.area.toNat,by have:=hi.area;omega⟩
  have hk2:k<2:=by have:=hi.area;omega
  obtain ⟨b2,hb2,hbi2,_⟩:=h.bs k hk2
  obtain ⟨⟨r1,r2⟩,r3⟩:=hi.rc
  obtain ⟨j2,hj2⟩:∃ j:Nat,t.at'=j:=⟨t.at'.toNat,by omega⟩
  have hj28:j2<8:=by omega
  rw [hk,hj2,hrd k hk2 b2 hb2 j2 hj28] at r3
  have h1:=h.le k hk2 b2 hb2 j2 hj28 _ _ _ r3
  have h2:=hi.le a h.a2 j hj v u l (by rw [hrd a h.a2 b hb j hj];exact hr)
  have hv:t.version.toNat=v:=by omega
  obtain ⟨h3,h4⟩:=h1.2 hv
  refine ⟨⟨k,hk,?_,b2,hb2,hi.l0.1,?_⟩,h3,h4,hv⟩
  · rw [hv,h3,h4]
    refine ⟨h.ok,hk2,h.bs,h.le,⟨b2,hb2,j2,hj28,?_⟩⟩
    rw [r3,hv,h3,h4]
  · rcases (show t.next≤b2.next∨b2.next<t.next by omega) with h5 | h5
    · exact h5
    · exfalso
      have hnx:=hbi2.nx
      have hl:=hi.l0
      have hnb:=hi.nb (by omega)
      obtain ⟨i,hi2⟩:∃ i:Nat,t.next - 1=i:=⟨(t.next - 1).toNat,by omega⟩
      rw [hk,hi2,hrd k hk2 b2 hb2 i (by omega),hbi2.bl i (by omega) (by omega),Vl] at hnb
      cases hnb
end
section
open Go.K
instance und3:Und Tryz.prog 3 (.int .i64):=⟨Tryz.underlying3⟩
instance agg3:Agg Tryz.prog 3 false:=⟨⟨_,Tryz.underlying3,rfl⟩⟩
instance siz3:Siz Tryz.prog 3 1:=⟨by kernel_rfl⟩
instance und5:Und Tryz.prog 5 (.int .u8):=⟨Tryz.underlying5⟩
instance agg5:Agg Tryz.prog 5 false:=⟨⟨_,Tryz.underlying5,rfl⟩⟩
instance siz5:Siz Tryz.prog 5 1:=⟨by kernel_rfl⟩
instance und9:Und Tryz.prog 9 .string:=⟨Tryz.underlying9⟩
instance agg9:Agg Tryz.prog 9 false:=⟨⟨_,Tryz.underlying9,rfl⟩⟩
instance siz9:Siz Tryz.prog 9 1:=⟨by kernel_rfl⟩
instance und85:Und Tryz.prog 85 (.slice 3):=⟨Tryz.underlying85⟩
instance agg85:Agg Tryz.prog 85 false:=⟨⟨_,Tryz.underlying85,rfl⟩⟩
instance siz85:Siz Tryz.prog 85 1:=⟨by kernel_rfl⟩
instance ent81:Ent Tryz.prog 81:=⟨fun _ _=>by kernel_rfl⟩
instance ent127:Ent Tryz.prog 127:=⟨fun _ _=>by kernel_rfl⟩
instance ent186:Ent Tryz.prog 186:=⟨fun _ _=>by kernel_rfl⟩
instance ent217:Ent Tryz.prog 217:=⟨fun _ _=>by kernel_rfl⟩
instance wide:Wide Tryz.prog:=⟨by kernel_rfl⟩
theorem Abq {x:By}:Does Tryz.prog 186 [.int .u8 x.toNat] [] (Is (.int .i64 (Hd x)) []):=by
 refine zF 6 Tryz.func186 ?_
 refine zC ?_
 refine Ah (Ka rfl rfl (A2t _) (Y1 x)) rfl ?_
 refine zC ?_
 refine Ak (Aw Tryz.results186 (Af rfl)) ?_ sP
 exact A52 (Value.int .i64) (Ar0 x)
theorem Ar2 {x:By}:Does Tryz.prog 217 [.int .u8 x.toNat] [] (Is (.int .i64 (Qv x)) []):=by
 refine zF 6 Tryz.func217 ?_
 refine zC ?_
 refine Ah (Ka rfl rfl (A2t _) (Arz x)) rfl ?_
 refine zC ?_
 refine Ak (Aw Tryz.results217 (Af rfl)) ?_ sP
 exact A52 (Value.int .i64) (Ar1 x)
abbrev tI:TypeId:=3
theorem Al9 {v:Int} {s:Sl Int} {T:TypeId} :
  Does Tryz.prog 127 [s.val,.int .i64 v] (s.hp T) (Is (.int .i64 (idx s.list v)) (s.hp T)):=by
 refine zF 19 Tryz.func127 ?_
 refine zC ?_
 have hsm:=s.small
 refine Dy [0,1,7] kQ (fun i=>[(8,.int .i64 i)]) (fun i=>0≤i∧i≤s.list.length∧∀ k:Int,0≤k→k<i→at0 s.list k≠v) (fun i=>((s.list.length:Int) - i).toNat) ((0:Int)) ⟨by omega,by omega,by intro k h0 h1;omega⟩ kP ?_
 rintro i ⟨h0,h1,h2⟩
 refine zC ?_
 refine Ae rfl (fun c9=> ?_) (fun c9=> ?_)
 ·try simp at c9
  refine zA ?_
  refine Ah (A7 rfl rfl ⟨h0,c9⟩) rfl ?_
  refine Ah (Co (o:=0) rfl pL (Ih h0 c9) rfl rfl) rfl ?_
  refine zC ?_
  refine Ae rfl (fun c16=> ?_) (fun c16=> ?_)
  ·simp at c16
   refine zC ?_
   refine Ak (Aw Tryz.results127 (Af rfl)) ?_ sP
   rw [Awh i h0 c9 h2 c16.symm]
  ·simp at c16
   refine zC ?_
   exact ⟨i+1,⟨by omega,by omega,Abp h2 (fun e=>c16 e.symm)⟩,(by omega),lZ⟩
 ·try simp at c9
  refine zC ?_
  refine Ak (Aw Tryz.results127 (Af rfl)) ?_ sP
  rw [Al8 (fun k k0 k1=>h2 k k0 (by omega))]
theorem Hr {v:Int} {s:Sl Int} {T:TypeId} :
  Does Tryz.prog 81 [s.val,.int .i64 v] (s.hp T) (Is (.bool (E4 s.list v)) (s.hp T)):=by
 refine zF 9 Tryz.func81 ?_
 refine zC ?_
 refine zI rfl (Al9) ?_
 refine zC ?_
 exact zS
end
section
open Go.K
instance und4:Und Tryz.prog 4 .bool:=⟨Tryz.underlying4⟩
instance agg4:Agg Tryz.prog 4 false:=⟨⟨_,Tryz.underlying4,rfl⟩⟩
instance siz4:Siz Tryz.prog 4 1:=⟨by kernel_rfl⟩
instance agg90:Agg Tryz.prog 90 false:=⟨⟨_,Tryz.underlying90,rfl⟩⟩
instance und91:Und Tryz.prog 91 (.slice 150):=⟨Tryz.underlying91⟩
instance agg91:Agg Tryz.prog 91 false:=⟨⟨_,Tryz.underlying91,rfl⟩⟩
instance und147:Und Tryz.prog 147 (.array 258 5):=⟨Tryz.underlying147⟩
instance agg147:Agg Tryz.prog 147 true:=⟨⟨_,Tryz.underlying147,rfl⟩⟩
instance siz147:Siz Tryz.prog 147 258:=⟨by kernel_rfl⟩
instance und148:Und Tryz.prog 148 (.array 8 147):=⟨Tryz.underlying148⟩
instance siz150:Siz Tryz.prog 150 2066:=⟨by kernel_rfl⟩
instance zer147:Zer Tryz.prog 147 (List.replicate 258 (.int .u8 0)):=⟨by kernel_rfl⟩
instance fld93_0:Fld Tryz.prog 93 0 0:=⟨⟨_,_,0,Tryz.underlying93,rfl,by kernel_rfl,rfl⟩⟩
instance fld93_1:Fld Tryz.prog 93 1 1:=⟨⟨_,_,0,Tryz.underlying93,rfl,by kernel_rfl,rfl⟩⟩
instance fld95_0:Fld Tryz.prog 95 0 0:=⟨⟨_,_,0,Tryz.underlying95,rfl,by kernel_rfl,rfl⟩⟩
instance fld95_1:Fld Tryz.prog 95 1 1:=⟨⟨_,_,0,Tryz.underlying95,rfl,by kernel_rfl,rfl⟩⟩
instance fld95_2:Fld Tryz.prog 95 2 2:=⟨⟨_,_,0,Tryz.underlying95,rfl,by kernel_rfl,rfl⟩⟩
instance fld95_3:Fld Tryz.prog 95 3 3:=⟨⟨_,_,0,Tryz.underlying95,rfl,by kernel_rfl,rfl⟩⟩
instance fld143_0:Fld Tryz.prog 143 0 0:=⟨⟨_,_,0,Tryz.underlying143,rfl,by kernel_rfl,rfl⟩⟩
instance fld143_1:Fld Tryz.prog 143 1 1:=⟨⟨_,_,0,Tryz.underlying143,rfl,by kernel_rfl,rfl⟩⟩
instance fld150_0:Fld Tryz.prog 150 0 0:=⟨⟨_,_,2063,Tryz.underlying150,rfl,by kernel_rfl,rfl⟩⟩
instance fld150_2:Fld Tryz.prog 150 2 2065:=⟨⟨_,_,0,Tryz.underlying150,rfl,by kernel_rfl,rfl⟩⟩
instance ent37:Ent Tryz.prog 37:=⟨fun _ _=>by kernel_rfl⟩
instance ent74:Ent Tryz.prog 74:=⟨fun _ _=>by kernel_rfl⟩
instance ent82:Ent Tryz.prog 82:=⟨fun _ _=>by kernel_rfl⟩
instance ent128:Ent Tryz.prog 128:=⟨fun _ _=>by kernel_rfl⟩
instance ent140:Ent Tryz.prog 140:=⟨fun _ _=>by kernel_rfl⟩
instance ent158:Ent Tryz.prog 158:=⟨fun _ _=>by kernel_rfl⟩
instance ent169:Ent Tryz.prog 169:=⟨fun _ _=>by kernel_rfl⟩
instance ent184:Ent Tryz.prog 184:=⟨fun _ _=>by kernel_rfl⟩
instance ent216:Ent Tryz.prog 216:=⟨fun _ _=>by kernel_rfl⟩
instance ent224:Ent Tryz.prog 224:=⟨fun _ _=>by kernel_rfl⟩
instance ent225:Ent Tryz.prog 225:=⟨fun _ _=>by kernel_rfl⟩
instance ent233:Ent Tryz.prog 233:=⟨fun _ _=>by kernel_rfl⟩
theorem Aoq:Does Tryz.prog 128 [] [] (Is (.agg (vbc Ar).toArray) []):=by
 refine zF 9 Tryz.func128 ?_
 refine zC ?_
 refine Aj rfl (fun b0=> ?_)
 refine zC ?_
 rw [Ath]
 refine At [0] kQ (fun (s:Nat)=>[(2,.int .i64 s)]) (fun s=>[(b0,true,C (vbc (Lx s)) 147)]) (fun s=>s≤258) (fun s=>258 - s) ((0:Nat)) (by omega) kP sP ?_
 rintro i h0
 refine zC ?_
 refine Ae rfl (fun c3=> ?_) (fun c3=> ?_)
 ·try simp at c3
  iterate 13 refine sb ?_
  refine Ac (cs':=vbc (Lx (i+1))) rfl rfl uD rfl rfl (by simpa using Af2 (i:=i) (by omega)) ?_
  refine zC ?_
  exact ⟨i+1,(by omega),(by omega),lZ⟩
 ·try simp at c3
  refine zA ?_
  refine Ah (Am rfl mM (by first | exact Ax | rfl)) rfl ?_
  first | refine Ac rfl rfl uD (Cg) (Ai) (Bo (by first | exact Ai | exact A1y ..)) ?_ | refine Ac rfl rfl uD rfl rfl rfl ?_
  refine zC ?_
  refine Ak (Aw Tryz.results128 (Bc rfl mM (by first | exact Ax | rfl))) ?_ sP
  rw [show i=258 by omega,Akn]
abbrev tPw:TypeId:=143
abbrev tCh:TypeId:=95
abbrev tBk:TypeId:=150
abbrev ptr (p:Nat):Value:= .pointer (some ⟨p,0,none⟩)
@[irreducible] def chH (c:Chip):Hp:=(c.aP,true,C (pwc c) tPw)::(c.aC,true,C (chc c) tCh)::(c.aB,true,C (Eb c.blocks) tBk)::(c.pf.hp tI++(c.wf.hp tI++[]))
theorem Eg (c:Chip):chH c=(c.aP,true,C (pwc c) tPw)::(c.aC,true,C (chc c) tCh)::(c.aB,true,C (Eb c.blocks) tBk)::(c.pf.hp tI++(c.wf.hp tI++[])):=by unfold chH;rfl
section
variable {c:Chip} {i j:Int}
theorem Axp:Does Tryz.prog 37 [ptr c.aP] [(c.aP,true,C (pwc c) tPw)] (Is (.bool c.off) [(c.aP,true,C (pwc c) tPw)]):=by
 refine zF 7 Tryz.func37 ?_
 refine zC ?_
 exact zS
theorem Atn:Does Tryz.prog 216 [ptr c.aC] [(c.aC,true,C (chc c) tCh)] (Is (.bool (!c.dead && !c.out)) [(c.aC,true,C (chc c) tCh)]):=by
 refine zF 15 Tryz.func216 ?_
 refine zC ?_
 exact zS
theorem Vb:Does Tryz.prog 74 [ptr c.aC,.int .i64 i] [(c.aC,true,C (chc c) tCh)] (Is (.bool (Ex c i)) [(c.aC,true,C (chc c) tCh)]):=by
 refine zF 16 Tryz.func74 ?_
 refine zC ?_
 exact zS
theorem Z4:Does Tryz.prog 184 [ptr c.aC,.int .i64 i,.int .i64 j] [(c.aP,true,C (pwc c) tPw),(c.aC,true,C (chc c) tCh)] (Is (.int .i64 (B9 c i j)) [(c.aP,true,C (pwc c) tPw),(c.aC,true,C (chc c) tCh)]):=by
 refine zF 30 Tryz.func184 ?_
 refine zC ?_
 refine zI rfl (Axp) ?_
 refine zC ?_
 refine Ae rfl (fun c7=> ?_) (fun c7=> ?_)
 ·skip
  refine zC ?_
  refine Ak (Aw Tryz.results184 (Af rfl)) ?_ sP
  rw [B9,if_pos c7]
 ·skip
  refine zC ?_
  refine zI rfl (Atn) ?_
  refine zC ?_
  refine Ae rfl (fun c13=> ?_) (fun c13=> ?_)
  ·skip
   refine zC ?_
   refine Ak (Aw Tryz.results184 (Af rfl)) ?_ sP
   rw [B9,if_neg (by rw [c7];exact A2r),if_pos c13]
  ·skip
   refine zC ?_
   refine zI rfl (Vb) ?_
   refine zC ?_
   refine Ae rfl (fun c17=> ?_) (fun c17=> ?_)
   ·skip
    refine zC ?_
    refine Ak (Aw Tryz.results184 (Af rfl)) ?_ sP
    rw [B9,if_neg (by rw [c7];exact A2r),if_neg (by rw [c13];exact A2r),if_pos c17]
   ·skip
    refine zC ?_
    refine Ak (Aw Tryz.results184 (Af rfl)) ?_ sP
    rw [B9,if_neg (by rw [c7];exact A2r),if_neg (by rw [c13];exact A2r),if_neg (by rw [c17];exact A2r)]
theorem Fj:Does Tryz.prog 158 [ptr c.aC] (chH c) (Is (.int .i64 c.blocks.length) (chH c)):=by
 rw [Eg]
 refine zF 8 Tryz.func158 ?_
 refine zC ?_
 exact zS
theorem Z5:Does Tryz.prog 140 [ptr c.aC,.int .i64 i,.int .i64 j] (chH c) (Is (.tuple #[.agg (vbc (Bp c i j)).toArray,.int .i64 (B9 c i j)]) (chH c)):=by
 rw [Eg]
 refine zF 27 Tryz.func140 ?_
 refine zC ?_
 refine Aj rfl (fun b6=> ?_)
 refine zC ?_
 refine zI rfl (Z4) ?_
 refine zC ?_
 refine Ae rfl (fun c14=> ?_) (fun c14=> ?_)
 ·skip
  refine zA ?_
  refine Ah (show Rd _ _ _ _ (.agg (vbc Km).toArray) from by (rw [← Cj];exact Pt)) rfl ?_
  refine zA ?_
  first | refine Ac rfl rfl uD (Cg) (Ai) (Bo (by first | exact Ai | exact A1y ..)) ?_ | refine Ac rfl rfl uD rfl rfl rfl ?_
  refine zC ?_
  refine Ak (Cu Tryz.results140 (Bc rfl mM (by first | exact Ax | rfl)) (Af rfl)) ?_ sP
  (have hm:¬ B9 c i j=0:=by simpa using c14);rw [Bp,if_neg hm]
 ·skip
  have hm:B9 c i j=0:=by simpa using c14
  obtain ⟨m0,m1,m2,m3,_⟩:=Zz hm
  iterate 10 refine sb ?_
  refine Ah (Zu rfl rfl (by omega)) rfl ?_
  iterate 2 refine sb ?_
  refine Ah (Am rfl mM (show cut (Eb c.blocks) _ 258=_ by simpa using Aom m0 m1 m2 m3)) rfl ?_
  first | refine Ac rfl rfl uD (Cg) (Ai) (Bo (by first | exact Ai | exact A1y ..)) ?_ | refine Ac rfl rfl uD rfl rfl rfl ?_
  refine zC ?_
  refine Ak (Cu Tryz.results140 (Bc rfl mM (by first | exact Ax | rfl)) (Af rfl)) ?_ sP
  rw [Bp,if_pos hm,hm]
end
section
variable {c:Chip} {i j:Int}
theorem Ah6:Does Tryz.prog 225 [ptr c.aP] [(c.aP,true,C (pwc c) tPw)] (Is (.bool (El c)) [(c.aP,true,C (pwc (Fp c)) tPw)]):=by
 refine zF 27 Tryz.func225 ?_
 refine zC ?_
 refine Ae rfl (fun c7=> ?_) (fun c7=> ?_)
 ·try simp at c7
  refine zC ?_
  refine Ak (Aw Tryz.results225 (Af rfl)) ?_ (by first | (rw [Ah4 c7];exact sP) | (rw [Ah5 c7];exact sP))
  simp [El,c7]
 ·try simp at c7
  iterate 21 refine sb ?_
  refine Ah (An rfl rfl (rfl)) rfl ?_
  refine zC ?_
  refine Ak (Aw Tryz.results225 (Af rfl)) ?_ (by first | (rw [Ah4 c7];exact sP) | (rw [Ah5 c7];exact sP))
  simp [El,c7]
theorem Ato:Does Tryz.prog 224 [.pointer (some ⟨c.aC,4,none⟩)] ((c.aC,true,C (chc c) tCh)::(c.pf.hp tI++[])) (Is (.bool (Ly c)) ((c.aC,true,C (chc (S6 c)) tCh)::(c.pf.hp tI++[]))):=by
 refine zF 20 Tryz.func224 ?_
 iterate 11 refine sb ?_
 refine Ah (An rfl rfl (rfl)) rfl ?_
 refine zC ?_
 refine A0 [(9,[(0,false),(1,false),(2,false),(3,false),(4,false),(5,false),(6,false),(7,false),(8,false)]),(10,[(9,true)]),(11,[(10,false)])] (by kernel_rfl) ?_
 iterate 9 refine sb ?_
 refine Aq (An rfl rfl (rfl)) ?_
 refine zC ?_
 refine zI rfl (Hr) ?_
 refine zC ?_
 exact zS
theorem Atp:Does Tryz.prog 224 [.pointer (some ⟨c.aC,6,none⟩)] ((c.aC,true,C (chc c) tCh)::(c.wf.hp tI++[])) (Is (.bool (Sr c)) ((c.aC,true,C (chc (Z2 c)) tCh)::(c.wf.hp tI++[]))):=by
 refine zF 20 Tryz.func224 ?_
 iterate 11 refine sb ?_
 refine Ah (An rfl rfl (rfl)) rfl ?_
 refine zC ?_
 refine A0 [(9,[(0,false),(1,false),(2,false),(3,false),(4,false),(5,false),(6,false),(7,false),(8,false)]),(10,[(9,true)]),(11,[(10,false)])] (by kernel_rfl) ?_
 iterate 9 refine sb ?_
 refine Aq (An rfl rfl (rfl)) ?_
 refine zC ?_
 refine zI rfl (Hr) ?_
 refine zC ?_
 exact zS
end
theorem Aor {pb k i:Nat} {n:Int} {l:List Blk} {b:Blk} {d:Pg} (hk:l[k]? =some b) (hi:i<8) :
  Does Tryz.prog 233 [.pointer (some ⟨pb,k*2066,none⟩),.int .i64 (i:Int),.int .i64 n,.agg (vbc d).toArray] [(pb,true,C (Eb l) tBk)]
   (Is (.tuple #[]) [(pb,true,C (Eb (l.set k (wrB b i (A8 n 258) d hi))) tBk)]):=by
 refine zF 32 Tryz.func233 ?_
 refine zC ?_
 refine Do rfl rfl (fun b7=> ?_)
 refine zA ?_
 refine Ah (Mm rfl rfl) rfl ?_
 refine Ah (Zv rfl rfl) rfl ?_
 refine zC ?_
 have hset:l.set k (wrB b i 0 d hi)=l:=by (rw [Azo];have:=A08.1 hk;obtain ⟨h1,rfl⟩:=this;exact List.set_getElem_self h1)
 rw [← A52 Eb hset]
 have hmm:(min (max n 0) 258)=(A8 n 258:Nat)∧A8 n 258≤258:=by unfold A8;omega
 refine At [0,1,7,11] kQ (fun (s:Nat)=>[(12,.int .i64 s)]) (fun s=>[(b7,true,C (vbc d) 147),(pb,true,C (Eb (l.set k (wrB b i s d hi))) tBk)]) (fun s=>s≤A8 n 258) (fun s=>A8 n 258 - s) ((0:Nat)) (by omega) kP sP ?_
 rintro j h0
 refine zC ?_
 refine Ae rfl (fun c13=> ?_) (fun c13=> ?_)
 ·simp only [A3j,A1k] at c13;rw [hmm.1] at c13
  have hj:j<258:=by omega
  refine zC ?_
  refine A0 [(16,[(0,false),(1,false),(2,false),(3,false),(4,false),(5,false),(6,false),(7,false),(8,false),(9,false),(10,false),(11,false),(12,false),(13,false),(14,false),(15,false)]),(17,[(16,true)])] (by kernel_rfl) ?_
  refine zA ?_
  refine Aq (H8 rfl rfl (by omega)) ?_
  refine Aq (H8 rfl rfl (by omega)) ?_
  refine Aq (Al rfl mM (show nth _ _=some (bv b.pages[i][j]) by simpa [A47] using Azp hk hi hj)) ?_
  refine zA ?_
  refine Aq (H8 rfl rfl (by omega)) ?_
  refine Aq (Al rfl mM (show nth _ _=some (bv d[j]) by simpa using Fv (p:=d) hj)) ?_
  refine Aq (show Rd _ _ _ _ (bv (b.pages[i][j] &&& d[j])) from by (unfold bv;rw [← Al7];exact An rfl rfl rfl)) ?_
  refine zA ?_
  refine Aq (H8 rfl rfl (by omega)) ?_
  refine Aq (H8 rfl rfl (by omega)) ?_
  refine zA ?_
  refine Ac (cs':=Eb (l.set k (wrB b i (j+1) d hi))) rfl rfl uD rfl rfl (by simpa [A47] using Atj hk hi hj) ?_
  refine zC ?_
  exact ⟨j+1,(by omega),(by omega),lZ⟩
 ·simp only [A3j,A1k] at c13;rw [hmm.1] at c13
  refine zC ?_
  refine Pq (Afe Tryz.results233) ?_ (by rw [show j=A8 n 258 by omega];repeat (first | exact Split.nil | (apply Split.cons;next=>repeat (first | exact Pick.here | apply Pick.there))))
  rfl
theorem Z6 {pb k:Nat} {n:Int} {l:List Blk} {b:Blk} (hk:l[k]? =some b) :
  Does Tryz.prog 82 [.pointer (some ⟨pb,k*2066,none⟩),.int .i64 n] [(pb,true,C (Eb l) tBk)]
   (Is (.tuple #[]) [(pb,true,C (Eb (l.set k (D4 b (A8 n 8)))) tBk)]):=by
 refine zF 18 Tryz.func82 ?_
 refine zA ?_
 refine Ah (Mm rfl rfl) rfl ?_
 refine Ah (Zv rfl rfl) rfl ?_
 refine zC ?_
 have hset:l.set k (D4 b 0)=l:=by (rw [Atk];have:=A08.1 hk;obtain ⟨h1,rfl⟩:=this;exact List.set_getElem_self h1)
 rw [← A52 Eb hset]
 have hmm:(min (max n 0) 8)=(A8 n 8:Nat)∧A8 n 8≤8:=by unfold A8;omega
 refine At [0,7] kQ (fun (s:Nat)=>[(8,.int .i64 s)]) (fun s=>[(pb,true,C (Eb (l.set k (D4 b s))) tBk)]) (fun s=>s≤A8 n 8) (fun s=>A8 n 8 - s) ((0:Nat)) (by omega) kP sP ?_
 rintro j h0
 refine zC ?_
 refine Ae rfl (fun c9=> ?_) (fun c9=> ?_)
 ·simp only [A3j,A1k] at c9;rw [hmm.1] at c9
  have hj:j<8:=by omega
  refine zC ?_
  refine A0 [(5,[(0,false),(1,false),(3,false),(4,false),(2,true)]),(6,[(5,false)]),(7,[(6,true)])] (by kernel_rfl) ?_
  refine zC ?_
  refine zI rfl (Aoq) ?_
  refine zA ?_
  refine Aq (H8 rfl rfl (by omega)) ?_
  refine zA ?_
  refine Ac (cs':=Eb (l.set k (D4 b (j+1)))) rfl rfl uD Cg Ai (by simpa [A47] using Akp hk hj) ?_
  refine zC ?_
  exact ⟨j+1,(by omega),(by omega),lZ⟩
 ·simp only [A3j,A1k] at c9;rw [hmm.1] at c9
  refine zC ?_
  refine Pq (Afe Tryz.results82) ?_ (by rw [show j=A8 n 8 by omega];repeat (first | exact Split.nil | (apply Split.cons;next=>repeat (first | exact Pick.here | apply Pick.there))))
  rfl
section
variable {c:Chip} {i j:Int}
theorem Axq:Does Tryz.prog 169 [ptr c.aC,.int .i64 i] (chH c) (Is (.bool (Ex c i && X6 c i)) (chH c)):=by
 rw [Eg]
 refine zF 18 Tryz.func169 ?_
 refine zC ?_
 refine zI rfl (Vb) ?_
 refine sa ?_
 refine' H9 rfl rfl inferInstance rfl rfl rfl rfl rfl (fun hg8=> ?_) ?_
 rotate_left
 ·try (simp at hg8;show _)
  iterate 11 refine sb ?_
  refine Ah (Zu rfl rfl (Adc hg8)) rfl ?_
  refine zA ?_
  refine Ah (Al rfl mM (show nth _ _=some (.bool (X6 c i)) by simpa [A47] using Axo hg8)) rfl ?_
  exact Ad ⟨rfl,rfl,⟨_,sP⟩⟩
 refine zC ?_
 exact zS
end
end
section
open Go.K
instance agg77:Agg Tryz.prog 77 false:=⟨⟨_,Tryz.underlying77,rfl⟩⟩
instance zer95:Zer Tryz.prog 95 ([.pointer none,.slice none 0 0,.bool false,.bool false,.slice none 0 0,.int .i64 0,.slice none 0 0,.int .i64 0,.int .i64 0]):=⟨by kernel_rfl⟩
instance zer143:Zer Tryz.prog 143 ([.bool false,.int .i64 0,.int .i64 0]):=⟨by kernel_rfl⟩
instance zer150:Zer Tryz.prog 150 (List.replicate 2064 (.int .u8 0)++[.int .i64 0,.bool false]):=⟨by kernel_rfl⟩
instance fld95_4:Fld Tryz.prog 95 4 4:=⟨⟨_,_,1,Tryz.underlying95,rfl,by kernel_rfl,rfl⟩⟩
instance fld95_5:Fld Tryz.prog 95 5 6:=⟨⟨_,_,1,Tryz.underlying95,rfl,by kernel_rfl,rfl⟩⟩
instance fld95_6:Fld Tryz.prog 95 6 8:=⟨⟨_,_,0,Tryz.underlying95,rfl,by kernel_rfl,rfl⟩⟩
instance fld143_2:Fld Tryz.prog 143 2 2:=⟨⟨_,_,0,Tryz.underlying143,rfl,by kernel_rfl,rfl⟩⟩
instance fld150_1:Fld Tryz.prog 150 1 2064:=⟨⟨_,_,0,Tryz.underlying150,rfl,by kernel_rfl,rfl⟩⟩
instance plc95:Plc Tryz.prog 95 [(0,1),(1,1),(2,1),(3,1),(4,2),(6,2),(8,1)]:=⟨⟨_,Tryz.underlying95,fun _=>by kernel_rfl⟩⟩
instance plc143:Plc Tryz.prog 143 [(0,1),(1,1),(2,1)]:=⟨⟨_,Tryz.underlying143,fun _=>by kernel_rfl⟩⟩
instance byt150:Byt Tryz.prog 150 2080:=⟨by kernel_rfl⟩
instance ent36:Ent Tryz.prog 36:=⟨fun _ _=>by kernel_rfl⟩
instance ent47:Ent Tryz.prog 47:=⟨fun _ _=>by kernel_rfl⟩
instance ent48:Ent Tryz.prog 48:=⟨fun _ _=>by kernel_rfl⟩
instance ent80:Ent Tryz.prog 80:=⟨fun _ _=>by kernel_rfl⟩
instance ent125:Ent Tryz.prog 125:=⟨fun _ _=>by kernel_rfl⟩
instance ent126:Ent Tryz.prog 126:=⟨fun _ _=>by kernel_rfl⟩
instance ent166:Ent Tryz.prog 166:=⟨fun _ _=>by kernel_rfl⟩
instance ent198:Ent Tryz.prog 198:=⟨fun _ _=>by kernel_rfl⟩
instance ent209:Ent Tryz.prog 209:=⟨fun _ _=>by kernel_rfl⟩
theorem Im (c:Chip) (k:Nat) (b:Blk):chH (Gn c k b)=(c.aP,true,C (pwc c) tPw)::(c.aC,true,C (chc c) tCh)::(c.aB,true,C (Eb (c.blocks.set k b)) tBk)::(c.pf.hp tI++(c.wf.hp tI++[])):=by
 rw [Eg]
 simp only [Gn,chc,A4d]
theorem Vc {pb k:Nat} {n j:Int} {l:List Blk} {b:Blk} {d:Pg} (hk:l[k]? =some b) (h0:0≤j) (hi:j.toNat<8) :
  Does Tryz.prog 233 [.pointer (some ⟨pb,k*2066,none⟩),.int .i64 j,.int .i64 n,.agg (vbc d).toArray] [(pb,true,C (Eb l) tBk)]
   (Is (.tuple #[]) [(pb,true,C (Eb (l.set k (wrB b j.toNat (A8 n 258) d hi))) tBk)]):=by
 obtain ⟨i,rfl⟩:=Int.eq_ofNat_of_zero_le h0
 exact Aor hk hi
theorem Ln {l:List Blk} {k:Nat} {b:Blk} (h:l[k]? =some b) (b':Blk):(l.set k b')[k]? =some b':=by
 have:=(A08.1 h).1
 simp [this]
section
variable {c:Chip} {i j:Int} {d:Pg}
theorem Af7:Does Tryz.prog 209 [ptr c.aC,.int .i64 i,.int .i64 j,.agg (vbc d).toArray] (chH c) (Is (.int .i64 (Bq c i j d).1) (chH (Bq c i j d).2)):=by
 rw [Eg c]
 refine zF 82 Tryz.func209 ?_
 refine zC ?_
 refine Do rfl rfl (fun b7=> ?_)
 refine zC ?_
 refine zI rfl (Z4) ?_
 refine zC ?_
 refine Ae rfl (fun c17=> ?_) (fun c17=> ?_)
 ·skip
  have hm:¬ B9 c i j=0:=by simpa using c17
  have hres:=Add (d:=d) hm
  refine zC ?_
  refine Ak (Aw Tryz.results209 (Af rfl)) ?_ (by rw [hres];first | (rw [wrC,Im,A5c];exact sP) | (rw [Eg c];exact sP))
  rw [hres]
 ·skip
  have hm:B9 c i j=0:=by simpa using c17
  obtain ⟨m0,m1,m2,m3,_⟩:=Zz hm
  have h8:j.toNat<8:=by omega
  obtain ⟨b,hb⟩:∃ b,c.blocks[i.toNat]? =some b:=⟨_,A1d (by omega)⟩
  iterate 9 refine sb ?_
  refine Ah (Cd rfl rfl ⟨m0,m1⟩) rfl ?_
  refine zA ?_
  refine Ah (Al rfl mM (Adb hb)) rfl ?_
  refine zC ?_
  refine Ae rfl (fun c30=> ?_) (fun c30=> ?_)
  ·skip
   have hn:¬ j=b.next:=by simpa using c30
   have hres:=U8 (d:=d) hm hb hn
   refine zC ?_
   refine Ak (Aw Tryz.results209 (Af rfl)) ?_ (by rw [hres];first | (rw [wrC,Im,A5c];exact sP) | (rw [Eg c];exact sP))
   rw [hres]
  ·skip
   have hn:j=b.next:=by simpa using c30
   iterate 8 refine sb ?_
   refine Ah (An rfl rfl (rfl)) rfl ?_
   iterate 10 refine sb ?_
   refine Ah (Al rfl mM (Adb hb)) rfl ?_
   refine Ah (An rfl rfl (rfl)) rfl ?_
   refine zA ?_
   refine Ac (cs':=Eb (c.blocks.set i.toNat { b with next:=w64 (b.next+1) })) rfl rfl uD rfl rfl (Mt _ hb) ?_
   refine zC ?_
   refine zI rfl (Ato (c:=cnt c)) ?_
   refine zC ?_
   refine zI rfl (Ah6 (c:=c)) ?_
   refine zC ?_
   refine Ae rfl (fun c49=> ?_) (fun c49=> ?_)
   ·skip
    have hres:=X7 (d:=d) hm h8 hb hn c49
    refine zC ?_
    refine A0 [(10,[(0,false),(1,false),(2,false),(3,false),(4,false),(5,false),(6,false),(7,false),(8,false),(9,false)]),(11,[(10,true)])] (by kernel_rfl) ?_
    iterate 10 refine sb ?_
    refine Aq (Am rfl mM (by first | exact Ax | rfl)) ?_
    refine zC ?_
    refine zI rfl (Vc (Ln hb _) m2 h8) ?_
    refine zC ?_
    refine Ak (Aw Tryz.results209 (Af rfl)) ?_ (by rw [hres];first | (rw [wrC,Im,A5c];exact sP) | (rw [Eg c];exact sP))
    rw [hres]
   ·skip
    have he:El c=false:=c49
    iterate 4 refine sa ?_
    refine' Lw rfl rfl inferInstance rfl rfl rfl rfl rfl (fun hg68=> ?_) ?_
    rotate_left
    ·try (simp at hg68;show _)
     refine zA ?_
     refine Ah (Al rfl mM (Z1 (Ln hb _))) rfl ?_
     exact Ad ⟨rfl,rfl,⟨_,sP⟩⟩
    refine zC ?_
    refine Ae rfl (fun c66=> ?_) (fun c66=> ?_)
    ·skip
     have hres:=X8 (d:=d) hm h8 hb hn he c66
     refine zA ?_
     refine Ah (Am rfl mM (by first | exact Ax | rfl)) rfl ?_
     refine zI rfl (Vc (Ln hb _) m2 h8) ?_
     refine zC ?_
     refine Ak (Aw Tryz.results209 (Af rfl)) ?_ (by rw [hres];first | (rw [wrC,Im,A5c];exact sP) | (rw [Eg c];exact sP))
     rw [hres]
    ·skip
     have hres:=Z3 (d:=d) hm h8 hb hn he c66
     refine zA ?_
     refine Ah (Am rfl mM (by first | exact Ax | rfl)) rfl ?_
     refine zI rfl (Vc (Ln hb _) m2 h8) ?_
     refine zC ?_
     refine Ak (Aw Tryz.results209 (Af rfl)) ?_ (by rw [hres];first | (rw [wrC,Im,A5c];exact sP) | (rw [Eg c];exact sP))
     rw [hres]
theorem Aos:Does Tryz.prog 198 [ptr c.aC,.int .i64 i] (chH c) (Is (.int .i64 (Bs c i).1) (chH (Bs c i).2)):=by
 rw [Eg c]
 refine zF 62 Tryz.func198 ?_
 refine zC ?_
 refine zI rfl (Z4) ?_
 refine zC ?_
 refine Ae rfl (fun c12=> ?_) (fun c12=> ?_)
 ·skip
  have hm:¬ B9 c i 0=0:=by simpa using c12
  have hres:=Akt hm
  refine zC ?_
  refine Ak (Aw Tryz.results198 (Af rfl)) ?_ (by rw [hres];first | (rw [Im];(try rw [A5c]);exact sP) | (rw [Eg c];exact sP))
  rw [hres]
 ·skip
  have hm:B9 c i 0=0:=by simpa using c12
  obtain ⟨m0,m1,m2,m3,_⟩:=Zz hm
  obtain ⟨b,hb⟩:∃ b,c.blocks[i.toNat]? =some b:=⟨_,A1d (by omega)⟩
  iterate 9 refine sb ?_
  refine Ah (Cd rfl rfl ⟨m0,m1⟩) rfl ?_
  iterate 9 refine sb ?_
  refine Ah (An rfl rfl (rfl)) rfl ?_
  refine zC ?_
  refine zI rfl (Atp (c:=cnt c)) ?_
  refine zA ?_
  refine Ac (cs':=Eb (c.blocks.set i.toNat { b with next:=8 })) rfl rfl uD rfl rfl (Mt _ hb) ?_
  refine zC ?_
  refine zI rfl (Ah6 (c:=c)) ?_
  refine zC ?_
  refine Ae rfl (fun c34=> ?_) (fun c34=> ?_)
  ·skip
   have hres:=U9 hm hb c34
   refine zC ?_
   refine zI rfl (Z6 (Ln hb _)) ?_
   refine zC ?_
   refine Ak (Aw Tryz.results198 (Af rfl)) ?_ (by rw [hres];first | (rw [Im];(try rw [A5c]);exact sP) | (rw [Eg c];exact sP))
   rw [hres]
  ·skip
   have he:El c=false:=c34
   iterate 4 refine sa ?_
   refine' Lw rfl rfl inferInstance rfl rfl rfl rfl rfl (fun hg51=> ?_) ?_
   rotate_left
   ·try (simp at hg51;show _)
    refine zA ?_
    refine Ah (Al rfl mM (Z1 (Ln hb _))) rfl ?_
    exact Ad ⟨rfl,rfl,⟨_,sP⟩⟩
   refine zC ?_
   refine Ae rfl (fun c49=> ?_) (fun c49=> ?_)
   ·skip
    have hres:=Va hm hb he c49
    refine zC ?_
    refine Ak (Aw Tryz.results198 (Af rfl)) ?_ (by rw [hres];first | (rw [Im];(try rw [A5c]);exact sP) | (rw [Eg c];exact sP))
    rw [hres]
   ·skip
    have hres:=Ade hm hb he c49
    refine zC ?_
    refine zI rfl (Z6 (Ln hb _)) ?_
    refine zA ?_
    refine Ac (cs':=Eb (c.blocks.set i.toNat { D4 { b with next:=8 } 8 with next:=0 })) rfl rfl uD rfl rfl (by rw [A5c];have:=Mt (l:=c.blocks.set i.toNat (D4 { b with next:=8 } 8)) 0 (Ln hb _);rw [A5c] at this;exact this) ?_
    refine zC ?_
    refine Ak (Aw Tryz.results198 (Af rfl)) ?_ (by rw [hres];first | (rw [Im];(try rw [A5c]);exact sP) | (rw [Eg c];exact sP))
    rw [hres]
end
theorem Axr {c:Chip} {a k:Int}:Does Tryz.prog 36 [ptr c.aP,.int .i64 a,.int .i64 k] (chH c) (Is (.tuple #[]) (chH { c with after:=max a (-1),keep:=k })):=by
 rw [Eg,Eg]
 refine zF 15 Tryz.func36 ?_
 refine zA ?_
 refine Ah (Mm rfl rfl) rfl ?_
 refine zC ?_
 exact zSN
theorem Adf:Does Tryz.prog 48 [] [] (fun v H=>∃ b,v=ptr b∧H=[(b,true,C [.bool false,.int .i64 (-1),.int .i64 0] tPw)]):=by
 refine zF 3 Tryz.func48 ?_
 refine zC ?_
 refine Dj rfl rfl (fun b2=> ?_)
 refine zC ?_
 exact zL (hR:=by exact ⟨_,rfl,rfl⟩)
section
variable {f:FuncId} [Ent Tryz.prog f] {fi ca:List Value} {p:Int→Bool} {L:Hp} {s:Sl Int} {T:TypeId}
theorem Z7 (hf:∀ x:Int,Does Tryz.prog f (fi++[.int .i64 x]++ca) L (Is (.bool (p x)) L)) :
  Does Tryz.prog 166 [s.val,.func (.func f) fi.toArray ca.toArray] (s.hp T++(L++[])) (Is (.int .i64 (Af6 s.list p)) (s.hp T++(L++[]))):=by
 refine zF 19 Tryz.func166 ?_
 refine zC ?_
 have hsm:=s.small
 refine Dy [0,1,7] kQ (fun i=>[(8,.int .i64 i)]) (fun i=>0≤i∧i≤s.list.length∧∀ k:Int,0≤k→k<i→p (at0 s.list k)=false) (fun i=>((s.list.length:Int) - i).toNat) ((0:Int)) ⟨by omega,by omega,by intro k h0 h1;omega⟩ kP ?_
 rintro i ⟨h0,h1,h2⟩
 refine zC ?_
 refine Ae rfl (fun c9=> ?_) (fun c9=> ?_)
 ·try simp at c9
  refine zA ?_
  refine Ah (A7 rfl rfl ⟨h0,c9⟩) rfl ?_
  refine Ah (Co (o:=0) rfl pL (Ih h0 c9) rfl rfl) rfl ?_
  refine Xc rfl rfl (hf _) sP rfl aQ ?_
  refine zC ?_
  refine Ae rfl (fun c16=> ?_) (fun c16=> ?_)
  ·skip
   refine zC ?_
   refine Ak (Aw Tryz.results166 (Af rfl)) ?_ sP
   rw [Atm i h0 c9 h2 c16]
  ·skip
   refine zC ?_
   exact ⟨i+1,⟨by omega,by omega,Abp h2 c16⟩,(by omega),lZ⟩
 ·try simp at c9
  refine zC ?_
  refine Ak (Aw Tryz.results166 (Af rfl)) ?_ sP
  rw [Aks (fun k k0 k1=>h2 k k0 (by omega))]
theorem S7 (hf:∀ x:Int,Does Tryz.prog f (fi++[.int .i64 x]++ca) L (Is (.bool (p x)) L)) :
  Does Tryz.prog 125 [s.val,.func (.func f) fi.toArray ca.toArray] (s.hp T++(L++[])) (Is (.bool (s.list.any p)) (s.hp T++(L++[]))):=by
 refine zF 9 Tryz.func125 ?_
 refine zC ?_
 refine zI rfl (Z7 hf) ?_
 refine zC ?_
 refine Ak (Aw Tryz.results125 (Af rfl)) ?_ sP
 exact A52 Value.bool (U7 _ _)
theorem Atq {b:Nat} (hf:∀ x:Int,Does Tryz.prog f (fi++[.int .i64 x]++ca) L (Is (.bool (p x)) L)) (x:Int) :
  Does Tryz.prog 126 [.int .i64 x,ptr b] ((b,true,C [.func (.func f) fi.toArray ca.toArray] 77)::(L++[])) (Is (.bool (!p x)) ((b,true,C [.func (.func f) fi.toArray ca.toArray] 77)::(L++[]))):=by
 refine zF 8 Tryz.func126 ?_
 refine zC ?_
 refine Xc rfl rfl (hf _) sP rfl aQ ?_
 refine zC ?_
 exact zS
theorem Axs (hf:∀ x:Int,Does Tryz.prog f (fi++[.int .i64 x]++ca) L (Is (.bool (p x)) L)) :
  Does Tryz.prog 80 [s.val,.func (.func f) fi.toArray ca.toArray] (s.hp T++(L++[])) (Is (.bool (s.list.all p)) (s.hp T++(L++[]))):=by
 refine zF 9 Tryz.func80 ?_
 refine zC ?_
 refine Dj rfl rfl (fun b3=> ?_)
 refine zC ?_
 refine Ah (Pm rfl) rfl ?_
 refine zI rfl (S7 (f:=126) (fi:=[]) (ca:=[ptr b3]) (p:=fun x=> !p x) (L:=(b3,true,C [.func (.func f) fi.toArray ca.toArray] 77)::(L++[])) (fun x=>Atq hf x)) ?_
 refine zC ?_
 refine Ak (Aw Tryz.results80 (Af rfl)) ?_ sP
 exact A52 Value.bool (by rw [← List.not_all_eq_any_not,Bool.not_not])
end
instance (priority:=2000) zerBk:Zer Tryz.prog 150 (Rj Lz):=⟨by rw [← Aon];exact (inferInstance:Zer Tryz.prog 150 (List.replicate 2064 (.int .u8 0)++[.int .i64 0,.bool false])).eq⟩
def Aot (off:Bool) (after keep:Int) (pp:Nat) (n:Int) (s:Sl Int) (T:TypeId) (v:Value) (H:Hp):Prop :=
 if Px n s.list=true then ∃ aC aB,v= .tuple #[ptr aC,.int .i64 0]∧H=chH (Py off after keep pp aC aB n.toNat s.list)++(s.hp T++[])
 else v= .tuple #[.pointer none,.int .i64 1]∧H=(s.hp T++[])
theorem Atr {off:Bool} {after keep:Int} {aP aC aB n:Nat} {bad:List Int}:chH (Py off after keep aP aC aB n bad)=[(aP,true,C [.bool off,.int .i64 after,.int .i64 keep] tPw),(aC,true,C (chc (Py off after keep aP aC aB n bad)) tCh),(aB,true,C (Eb (Gx n bad n)) tBk)]:=by
 rw [Eg]
 simp only [Py,Sl.hp_nil,A4h]
theorem Z8 {off:Bool} {after keep:Int} {aP aC aB n:Nat} {bad:List Int}:chc (Py off after keep aP aC aB n bad)=[ptr aP,.slice (some ⟨aB,0,none⟩) n n,.bool false,.bool false,.slice none 0 0,.int .i64 0,.slice none 0 0,.int .i64 0,.int .i64 0]:=by
 simp only [chc,Py,Rl];rfl
theorem Ah7 {off:Bool} {after keep:Int} {aP aC aB n:Nat} {bad:List Int}:Ex (Py off after keep aP aC aB n bad)=fun x=>(decide (0≤x) && decide (x<(n:Int))):=by
 funext x
 simp only [Ex,Py,Rl]
theorem Axt {off:Bool} {after keep:Int} {pp:Nat} {n:Int} {s:Sl Int} {T:TypeId} :
  Does Tryz.prog 47 [ptr pp,.int .i64 n,s.val] ((pp,true,C [.bool off,.int .i64 after,.int .i64 keep] tPw)::(s.hp T++[])) (Aot off after keep pp n s T):=by
 refine zF 51 Tryz.func47 ?_
 refine zC ?_
 refine Ae rfl (fun c16=> ?_) (fun c16=> ?_)
 ·skip
  refine zC ?_
  exact zL (hR:=by unfold Aot;rw [if_neg (by rw [Px,c16];simp)];exact ⟨rfl,rfl⟩)
 ·skip
  have h16:16≤n∧n≤40:=by simp at c16;omega
  obtain ⟨N,rfl⟩:∃ N:Nat,n=N:=⟨n.toNat,by omega⟩
  refine zC ?_
  refine Aoc (zs:=Rj Lz) (hz:=zerBk) (hs:=by rw [Hy];infer_instance) (hby:=byt150) rfl rfl (by omega) rfl (fun b19=> ?_)
  refine zC ?_
  refine Dj rfl rfl (fun b21=> ?_)
  refine Pb (G:=(b21,true,C (chc (Py off after keep pp b21 b19 N s.list)) tCh)::(b19,true,C (Eb (Gx N s.list 0)) tBk)::(pp,true,C [.bool off,.int .i64 after,.int .i64 keep] tPw)::(s.hp T++[])) (by rw [Z8,Atl,← Aoo];rfl) ?_
  refine zC ?_
  refine Ah (Ace (fi:=[_]) (cap:=[]) rfl rfl) rfl ?_
  refine zI rfl (Axs (f:=74) (fi:=[ptr b21]) (ca:=[]) (fun x=>Vb (c:=Py off after keep pp b21 b19 N s.list))) ?_
  refine zC ?_
  refine Ae rfl (fun c26=> ?_) (fun c26=> ?_)
  ·skip
   have hall:(s.list.all fun x=>decide (0≤x) && decide (x<(N:Int)))=false:=by simpa only [Ah7,A23] using c26
   refine zC ?_
   exact zL (hR:=by unfold Aot;rw [if_neg (by rw [Px,hall];simp)];exact ⟨rfl,rfl⟩)
  ·skip
   have hall:(s.list.all fun x=>decide (0≤x) && decide (x<(N:Int)))=true:=by simpa only [Ah7,A2s] using c26
   refine zA ?_
   refine Ah (Al rfl mM (by rw [Z8];rfl)) rfl ?_
   refine zC ?_
   refine At [2,8,31] kQ (fun (s':Nat)=>[(32,.int .i64 s')]) (fun (s':Nat)=>(b21,true,C (chc (Py off after keep pp b21 b19 N s.list)) tCh)::(b19,true,C (Eb (Gx N s.list s')) tBk)::(pp,true,C [.bool off,.int .i64 after,.int .i64 keep] tPw)::(s.hp T++[])) (fun (s':Nat)=>s'≤N) (fun (s':Nat)=>N - s') ((0:Nat)) (by first | trivial | omega | simp) kP sP ?_
   rintro i h0
   refine zC ?_
   refine Ae rfl (fun c33=> ?_) (fun c33=> ?_)
   ·simp at c33
    have hi:(Gx N s.list i)[i]? =some Lz:=Aop s.list c33
    refine zA ?_
    refine Ah (Al rfl mM (by rw [Z8];rfl)) rfl ?_
    refine zA ?_
    refine Ah (Cd rfl rfl (by omega)) rfl ?_
    refine zC ?_
    refine zI rfl (Hr) ?_
    refine zA ?_
    refine Ac (cs':=Eb ((Gx N s.list i).set i { Lz with bad:=E4 s.list i })) rfl rfl uD rfl rfl (Af4 _ hi) ?_
    refine zC ?_
    refine zI rfl ((Z6 (Ln hi _)).to rfl (by rw [A5c,show A8 8 8=8 from rfl,Akr,Af5 s.list c33])) ?_
    refine zC ?_
    exact ⟨i+1,(by omega),(by omega),lZ⟩
   ·simp at c33
    refine zC ?_
    exact A9 (Cu Tryz.results47 (Af rfl) (Af rfl)) (by unfold Aot;rw [if_pos (by rw [Px,hall,c16];rfl)];exact ⟨b21,b19,rfl,rfl⟩) (by rw [show ((N:Int)).toNat=N from rfl,Atr];rw [show i=N by omega];exact sP)
end
section
open Go.K
instance und23:Und Tryz.prog 23 (.slice 5):=⟨Tryz.underlying23⟩
instance agg23:Agg Tryz.prog 23 false:=⟨⟨_,Tryz.underlying23,rfl⟩⟩
instance siz23:Siz Tryz.prog 23 1:=⟨by kernel_rfl⟩
instance und29:Und Tryz.prog 29 (.int .u64):=⟨Tryz.underlying29⟩
instance agg29:Agg Tryz.prog 29 false:=⟨⟨_,Tryz.underlying29,rfl⟩⟩
instance siz29:Siz Tryz.prog 29 1:=⟨by kernel_rfl⟩
instance und294:Und Tryz.prog 294 (.slice 29):=⟨Tryz.underlying294⟩
instance zer5:Zer Tryz.prog 5 ([.int .u8 0]):=⟨by kernel_rfl⟩
instance zer223:Zer Tryz.prog 223 ([.slice none 0 0,.bool false]):=⟨by kernel_rfl⟩
instance fld223_0:Fld Tryz.prog 223 0 0:=⟨⟨_,_,0,Tryz.underlying223,rfl,by kernel_rfl,rfl⟩⟩
instance fld223_1:Fld Tryz.prog 223 1 1:=⟨⟨_,_,0,Tryz.underlying223,rfl,by kernel_rfl,rfl⟩⟩
instance plc223:Plc Tryz.prog 223 [(0,1),(1,1)]:=⟨⟨_,Tryz.underlying223,fun _=>by kernel_rfl⟩⟩
instance byt5:Byt Tryz.prog 5 1:=⟨by kernel_rfl⟩
instance ent56:Ent Tryz.prog 56:=⟨fun _ _=>by kernel_rfl⟩
instance ent96:Ent Tryz.prog 96:=⟨fun _ _=>by kernel_rfl⟩
instance ent102:Ent Tryz.prog 102:=⟨fun _ _=>by kernel_rfl⟩
instance ent103:Ent Tryz.prog 103:=⟨fun _ _=>by kernel_rfl⟩
instance ent104:Ent Tryz.prog 104:=⟨fun _ _=>by kernel_rfl⟩
instance ent105:Ent Tryz.prog 105:=⟨fun _ _=>by kernel_rfl⟩
instance ent138:Ent Tryz.prog 138:=⟨fun _ _=>by kernel_rfl⟩
instance ent191:Ent Tryz.prog 191:=⟨fun _ _=>by kernel_rfl⟩
instance ent196:Ent Tryz.prog 196:=⟨fun _ _=>by kernel_rfl⟩
abbrev tU8:TypeId:=5
abbrev Ao0:TypeId:=29
abbrev tSB:TypeId:=23
theorem Adk {n:Int}:Does Tryz.prog 138 [.int .i64 n] [] (Is (.int .i64 (A8 n 8:Nat)) []):=by
 refine zF 6 Tryz.func138 ?_
 refine zA ?_
 refine Ah (Mm rfl rfl) rfl ?_
 refine Ah (Zv rfl rfl) rfl ?_
 refine zC ?_
 refine Ak (Aw Tryz.results138 (Af rfl)) ?_ sP
 exact A52 (Value.int .i64) (by unfold A8;omega)
theorem G6 {α:Type} [Cel α] {T:TypeId} {L:Hp}:L=(Sl.nil:Sl α).hp T++L:=by rw [Sl.hp_nil];rfl
theorem Ia {n:Int} {x:Wd}:Does Tryz.prog 96 [.int .i64 n,wv x] [] (fun v H=>∃ s:Sl By,v=s.val∧H=(s.hp tU8++[])∧s.list=B4 (A8 n 8) x∧s.isOwn=true):=by
 refine zF 18 Tryz.func96 ?_
 refine zC ?_
 refine zI rfl (Adk) ?_
 refine zC ?_
 have hk:A8 n 8≤8:=by unfold A8;omega
 generalize A8 n 8=k at hk ⊢
 refine I1 (G6 (α:=By) (T:=tU8)) ?_
 refine At [6] kQ (fun (st:Nat×Sl By)=>[(7,.int .i64 st.1),(4,st.2.val),(1,wv (I8 x st.1))]) (fun st=>(st.2.hp tU8++[])) (fun st=>st.1≤k∧st.2.list=B4 st.1 x∧st.2.isOwn=true) (fun st=>k - st.1) ((0,Sl.nil)) ⟨A5s _,rfl,rfl⟩ kP sP ?_
 rintro ⟨i,s⟩ ⟨h0,h1,h2⟩
 have hl:s.list.length=i:=by rw [h1,A4]
 simp only at h0
 refine zC ?_
 refine Ae rfl (fun c8=> ?_) (fun c8=> ?_)
 ·try simp at c8
  refine zA ?_
  refine Ah (show Rd _ _ _ _ (bv ((I8 x i).setWidth 8)) from by (unfold bv;rw [← Ats];exact D9 rfl)) rfl ?_
  refine Ao rfl rfl rfl rfl (fun b12=> ?_)
  refine Az (s:=s) (new:=[(I8 x i).setWidth 8]) (m:=1) rfl rfl pL h2 (Ch (r:=true) mM rfl) rfl rfl rfl rfl (by omega) rfl (fun s' hs1 hs2=> ?_)
  refine zA ?_
  refine Ah (show Rd _ _ _ _ (wv (I8 x (i+1))) from by (unfold wv;exact Att rfl rfl)) rfl ?_
  refine zC ?_
  exact ⟨(i+1,s'),⟨by simp only;omega,by rw [hs1,h1,X9],hs2⟩,(by simp only;omega),lZ⟩
 ·try simp at c8
  refine zC ?_
  exact zL (hR:=by exact ⟨s,rfl,rfl,by rw [h1,show i=k by omega],h2⟩)
theorem Aty {n:Int} {xs:Sl Wd} {T:TypeId} (hx:xs.list.length≤1000000):Does Tryz.prog 196 [.int .i64 n,xs.val] (xs.hp T++[]) (fun v H=>∃ s:Sl By,v=s.val∧H=(s.hp tU8++(xs.hp T++[]))∧s.list=L3 (A8 n 8) xs.list∧s.isOwn=true):=by
 refine zF 20 Tryz.func196 ?_
 refine zC ?_
 have hk:A8 n 8≤8:=by unfold A8;omega
 refine I1 (G6 (α:=By) (T:=tU8)) ?_
 refine At [0,7,8] kQ (fun (st:Nat×Sl By)=>[(9,.int .i64 st.1),(4,st.2.val)]) (fun st=>(st.2.hp tU8++(xs.hp T++[]))) (fun st=>st.1≤xs.list.length∧st.2.list=L3 (A8 n 8) (xs.list.take st.1)∧st.2.isOwn=true) (fun st=>xs.list.length - st.1) ((0,Sl.nil)) ⟨A5s _,by simp [L3,Sl.list],rfl⟩ kP sP ?_
 rintro ⟨i,s⟩ ⟨h0,h1,h2⟩
 simp only at h0
 refine zC ?_
 refine Ae rfl (fun c10=> ?_) (fun c10=> ?_)
 ·simp at c10
  obtain ⟨x,hg⟩:∃ x,xs.list[i]? =some x:=⟨_,A1d c10⟩
  have hl:s.list.length≤8000000:=by (rw [h1,Rn];have:=Nat.mul_le_mul (show (xs.list.take i).length≤1000000 by (rw [A3x];omega)) hk;omega)
  refine zA ?_
  refine Ah (A7 rfl rfl (by omega)) rfl ?_
  refine Ah (Co (o:=0) (v:=wv x) rfl pL hg rfl rfl) rfl ?_
  refine zC ?_
  refine zE rfl (Ia) ?_
  rintro _ _ ⟨s16,rfl,rfl,hs16,ho16⟩
  refine A5 aQ ?_
  refine Az (s:=s) (new:=s16.list) (m:=s16.list.length) rfl rfl pL h2 (Lb pL) rfl rfl rfl rfl (by rw [hs16,A4];omega) rfl (fun s' hs1 hs2=> ?_)
  refine zC ?_
  exact ⟨(i+1,s'),⟨by simp only;omega,by rw [hs1,h1,hs16,Af9 hg],hs2⟩,(by simp only;omega),lZ⟩
 ·simp at c10
  refine zC ?_
  exact zL (hR:=by exact ⟨s,rfl,rfl,by rw [h1,show i=xs.list.length by omega,A30],h2⟩)
abbrev mt (α:Type) [Cel α] (b:Nat):Sl α:= .own b [] 0 [] ⟨by simp,A5q _,A5s _⟩
theorem Ao1 {α:Type} [Cel α] {b:Nat} {T:TypeId} {L:Hp}:((b,true,C [] T)::L)=(mt α b).hp T++L:=by rw [Sl.hp_own];rfl
theorem P5 {s:Sl By} {T:TypeId} (hs:s.list.length≤70000000000000):Does Tryz.prog 56 [s.val] (s.hp T++[]) (fun v H=>∃ s':Sl By,v=s'.val∧H=(s'.hp tU8++(s.hp T++[]))∧s'.list=s.list∧s'.isOwn=true):=by
 refine zF 8 Tryz.func56 ?_
 refine zA ?_
 refine Ah (Xr rfl rfl) rfl ?_
 refine zC ?_
 refine Ae rfl (fun c4=> ?_) (fun c4=> ?_)
 ·skip
  have hn:=Sl.nil_of s c4
  subst hn
  refine zC ?_
  exact A9 (Aw Tryz.results56 (Af rfl)) (by refine ⟨Sl.nil,rfl,rfl,rfl,rfl⟩) (by simp only [Sl.hp_nil,A4h];exact Split.nil)
 ·skip
  refine zC ?_
  refine Ao rfl rfl rfl rfl (fun b5=> ?_)
  refine Pb (Ao1 (α:=By) (b:=b5) (T:=tU8)) ?_
  refine zC ?_
  refine Az (s:=mt By b5) (new:=s.list) (m:=s.list.length) rfl rfl pL rfl (Lb pL) rfl rfl rfl rfl (by rw [show (mt By b5).list.length=0 from rfl];omega) rfl (fun s' hs1 hs2=> ?_)
  refine zC ?_
  exact zL (hR:=by exact ⟨s',rfl,rfl,by rw [hs1];rfl,hs2⟩)
abbrev tRd:TypeId:=223
structure Rdr where
 b:Nat
 sl:Sl By
 bad:Bool
@[irreducible] def rdH (r:Rdr):Hp:=(r.b,true,C [r.sl.val,.bool r.bad] tRd)::(r.sl.hp tU8++[])
theorem Ro (r:Rdr):rdH r=(r.b,true,C [r.sl.val,.bool r.bad] tRd)::(r.sl.hp tU8++[]):=by unfold rdH;rfl
theorem Fk {s:Sl By} {T:TypeId} (hs:s.list.length≤70000000000000):Does Tryz.prog 102 [s.val] (s.hp T++[]) (fun v H=>∃ r:Rdr,v=ptr r.b∧H=rdH r++(s.hp T++[])∧r.sl.list=s.list∧r.bad=false):=by
 refine zF 7 Tryz.func102 ?_
 refine zC ?_
 refine zE rfl (P5 hs) ?_
 rintro _ _ ⟨s4,rfl,rfl,hs4,ho4⟩
 refine zW ?_
 refine Dj rfl rfl (fun b6=> ?_)
 refine zC ?_
 exact A9 (Aw Tryz.results102 (Af rfl)) (by exact ⟨⟨b6,s4,false⟩,rfl,rfl,hs4,rfl⟩) (by rw [Ro];simp only [A3q,A25,A4h];exact sP)
theorem Tp {r:Rdr}:Does Tryz.prog 105 [ptr r.b] (rdH r) (Is (.int .i64 r.sl.list.length) (rdH r)):=by
 rw [Ro]
 refine zF 8 Tryz.func105 ?_
 refine zC ?_
 exact zS
theorem Aib {r:Rdr}:Does Tryz.prog 191 [ptr r.b] (rdH r) (Is (.bool r.bad) (rdH r)):=by
 rw [Ro]
 refine zF 7 Tryz.func191 ?_
 refine zC ?_
 exact zS
theorem Agd {s:Sl By} {k:Nat} {T:TypeId} (hs:s.list.length≤70000000000000):Does Tryz.prog 56 [(s.take k T).val] (s.hp T++[]) (fun v H=>∃ s':Sl By,v=s'.val∧H=(s'.hp tU8++(s.hp T++[]))∧s'.list=s.list.take k∧s'.isOwn=true):=by
 have:=P5 (s:=s.take k T) (T:=T) (by rw [Sl.take_list,A3x];omega)
 rwa [Sl.take_hp,Sl.take_list] at this
theorem Kq {r:Rdr} {n:Int} (hs:r.sl.list.length≤70000000000000):Does Tryz.prog 104 [ptr r.b,.int .i64 n] (rdH r) (fun v H=>∃ (s sl:Sl By) (bad:Bool),v=s.val∧H=s.hp tU8++(rdH ⟨r.b,sl,bad⟩++[])∧s.isOwn=true ∧
   s.list=(C4 (max n 0).toNat r.sl.list r.bad).1∧sl.list=(C4 (max n 0).toNat r.sl.list r.bad).2.1∧bad=(C4 (max n 0).toNat r.sl.list r.bad).2.2):=by
 rw [Ro]
 refine zF 37 Tryz.func104 ?_
 refine zA ?_
 refine Ah (Mm rfl rfl) rfl ?_
 refine zC ?_
 refine Ae rfl (fun c13=> ?_) (fun c13=> ?_)
 ·simp at c13
  refine zC ?_
  exact A9 (Aw Tryz.results104 (Af rfl)) (by refine ⟨Sl.nil,Sl.nil,true,rfl,rfl,rfl,?_⟩;unfold C4;rw [if_pos (by omega)];exact ⟨rfl,rfl,rfl⟩) (by rw [Ro,Sl.hp_nil];exact sP)
 ·simp at c13
  refine zC ?_
  refine A0 [(15,[(0,false),(1,false),(2,false),(3,false),(4,false),(5,false),(6,false),(8,false),(9,false),(10,false),(11,false),(12,false),(13,false),(7,true),(14,false)]),(17,[(15,false),(16,false)]),(18,[(17,true)])] (by kernel_rfl) ?_
  refine zC ?_
  refine Aq (Ajz tU8 rfl rfl (by omega)) ?_
  refine zC ?_
  refine Aq (Xf tU8 rfl rfl (by omega) rfl) ?_
  refine zC ?_
  refine zE rfl (Agd hs) ?_
  rintro _ _ ⟨s27,rfl,rfl,hs27,ho27⟩
  refine zW ?_
  exact A9 (Aw Tryz.results104 (Af rfl)) (by refine ⟨s27,r.sl.drop (max n 0).toNat tU8,r.bad,rfl,rfl,ho27,?_⟩;unfold C4;rw [if_neg (by omega)];exact ⟨hs27,Sl.drop_list ..,rfl⟩) (by rw [Ro];simp only [Sl.drop_hp];exact sP)
theorem Fl {r:Rdr} {n:Int} (hs:r.sl.list.length≤70000000000000):Does Tryz.prog 103 [ptr r.b,.int .i64 n] (rdH r) (fun v H=>∃ (x:Wd) (sl:Sl By) (bad:Bool),v=wv x∧H=rdH ⟨r.b,sl,bad⟩++[] ∧
   x=(C2 (A8 n 8) r.sl.list r.bad).1∧sl.list=(C2 (A8 n 8) r.sl.list r.bad).2.1∧bad=(C2 (A8 n 8) r.sl.list r.bad).2.2):=by
 have hk:A8 n 8≤8:=by unfold A8;omega
 refine zF 26 Tryz.func103 ?_
 refine zC ?_
 refine zI rfl (Adk) ?_
 refine zE rfl (Kq hs) ?_
 rintro _ _ ⟨s10,sl10,bad10,rfl,rfl,ho10,hs10,hl10,hb10⟩
 refine zW ?_
 have hmx:(max ((A8 n 8:Nat):Int) 0).toNat=A8 n 8:=by omega
 rw [hmx] at hs10 hl10 hb10
 have hl8:s10.list.length≤8:=by (rw [hs10];unfold C4;split;simp;simp;omega)
 refine Dy [10,11] kQ (fun (i:Nat)=>[(12,.int .i64 i),(4,wv (Ec s10.list i))]) (fun i=>i≤s10.list.length) (fun i=>s10.list.length - i) ((0:Nat)) (A5s _) kP ?_
 rintro i h0
 refine zC ?_
 refine Ae rfl (fun c13=> ?_) (fun c13=> ?_)
 ·simp at c13
  obtain ⟨y,hg⟩:∃ y,s10.list[i]? =some y:=⟨_,A1d c13⟩
  refine zA ?_
  refine Ah (A7 rfl rfl (by omega)) rfl ?_
  refine Ah (Co (o:=0) (v:=bv y) rfl pL hg rfl rfl) rfl ?_
  refine zA ?_
  refine Ah (Atw rfl) rfl ?_
  refine zA ?_
  refine Ah (Pk rfl rfl (by omega)) rfl ?_
  refine Ah (show Rd _ _ _ _ (wv (y.setWidth 64 <<< (8*i))) from Aou rfl rfl (by omega) (by omega)) rfl ?_
  refine Ah (show Rd _ _ _ _ (wv (Ec s10.list (i+1))) from by (rw [Vf,A00,hg,A32];unfold wv;rw [show (((Ec s10.list i ||| (y.setWidth 64 <<< (8*i))).toNat:Nat):Int)=_ from (Ok .or .u64 rfl _ _).symm];exact An rfl rfl rfl)) rfl ?_
  refine zC ?_
  exact ⟨i+1,(by first | omega | trivial | (refine ⟨?_,?_⟩ <;> omega)),(by omega),lZ⟩
 ·simp at c13
  refine zC ?_
  exact zL (hR:=by refine ⟨Ec s10.list i,sl10,bad10,rfl,rfl,?_⟩;rw [hl10,hb10];unfold C4 at hs10 ⊢;unfold C2;split at hs10 <;> rename_i hc;(rw [if_pos hc,if_pos hc];refine ⟨?_,rfl,rfl⟩;rw [show i=0 by (rw [hs10] at h0;simpa using h0)];rfl);(rw [if_neg hc,if_neg hc];refine ⟨?_,rfl,rfl⟩;rw [show i=s10.list.length by omega,hs10];simp only;rw [A3x,A4m (by omega)]))
end
section
open Go.K
instance und55:Und Tryz.prog 55 (.int .u32):=⟨Tryz.underlying55⟩
instance agg55:Agg Tryz.prog 55 false:=⟨⟨_,Tryz.underlying55,rfl⟩⟩
instance siz55:Siz Tryz.prog 55 1:=⟨by kernel_rfl⟩
instance und194:Und Tryz.prog 194 (.slice 23):=⟨Tryz.underlying194⟩
instance ent93:Ent Tryz.prog 93:=⟨fun _ _=>by kernel_rfl⟩
instance ent95:Ent Tryz.prog 95:=⟨fun _ _=>by kernel_rfl⟩
instance ent113:Ent Tryz.prog 113:=⟨fun _ _=>by kernel_rfl⟩
instance ent155:Ent Tryz.prog 155:=⟨fun _ _=>by kernel_rfl⟩
@[irreducible] def Dg (l:List (Sl By)):Hp:=l.flatMap (·.hp tU8)
theorem Hl:Dg []=[]:=by unfold Dg;rfl
theorem Cv (s:Sl By) (l:List (Sl By)):Dg (s::l)=s.hp tU8++Dg l:=by unfold Dg;rfl
theorem Yc:∀ {l:List (Sl By)} {i:Nat} {s:Sl By},l[i]? =some s→Sub (s.hp tU8) (Dg l)
 | [],_,_,h=>by simp at h
 | x::l,0,s,h=>by
  simp at h;subst h
  rw [Cv];exact fun y hy=>A18 _ hy
 | x::l,i+1,s,h=>by
  have:=Yc (l:=l) (i:=i) (s:=s) (by simpa using h)
  rw [Cv];exact fun y hy=>A10 _ (this y hy)
theorem Tq {q:Hp} {l:List (Sl By)} {i:Nat} {s:Sl By} {A B:Hp} (h:l[i]? =some s) (hp:PickL (Dg l) A B):Sub (s.hp tU8) A:=(Yc h).trans hp.toSub
instance mnz:Mnz Tryz.prog 195 23:=⟨_,#[3],Tryz.func195,by kernel_rfl,rfl,by kernel_rfl,by kernel_rfl⟩
theorem Ao2 {P:Program} {E:Env} {H:Hp} {t e:TypeId} {x lo:Operand} {b l i:Nat} [ht:Und P t (.slice e)] [hz:Siz P e 1] (hx:ev E x=some (.slice (some ⟨b,0,none⟩) l l)) (hlo:ev E lo=some (.int .i64 (i:Int))) (hb:i≤l) :
  Rd P E H (.slice t x (some lo) none none) (.slice (some ⟨b,if l=i then 0 else i,none⟩) (l - i) (l - i)):=by
 have:=Oc (P:=P) (H:=H) (t:=t) (e:=e) (sz:=1) hx hlo (by omega)
 by_cases h:l=i
 ·simpa [h] using this
 ·simpa [h,Ct] using this
theorem Atz {P:Program} {E:Env} {H:Hp} {t u:TypeId} {x y:Operand} {i:Int} (hx:ev E x=some (.int .i64 i)) (hy:ev E y=some (.int .i64 ((0:Nat):Int))) (hb: -9223372036854775808≤i∧i≤9223372036854775807):Rd P E H (.binOp .add t x y u) (.int .i64 i):=by
 have:=Bm (P:=P) (H:=H) (t:=t) (u:=u) hx hy (by omega)
 rwa [show i+((0:Nat):Int)=i by omega] at this
theorem Akz {b:Nat} {cs:List Value} {xs:List By} {L:Hp} {q:List (Sl By)} (hx:xs=Bb q) (hn:(Bb q).length≤cs.length) (hb:(Bb q).length≤70000000000000) :
  ∃ s:Sl By,Value.slice (some ⟨b,0,none⟩) (Bb q).length (Bb q).length=s.val∧((b,true,C (Aad cs xs) tU8)::L)=s.hp tU8++L∧s.list=Bb q∧s.isOwn=true:=by
 subst hx
 refine ⟨.own b (Bb q) (Bb q).length (cs.drop (Bb q).length) ⟨by simp,A5q _,by omega⟩,rfl,?_,rfl,rfl⟩
 rw [Sl.hp_own]
 rfl
theorem At0 {q:Sl (Sl By)} (hl:(Bb q.list).length≤70000000000000):Does Tryz.prog 155 [q.val,.slice none 0 0] (q.hp tSB++(Dg q.list++[])) (fun v H=>∃ s:Sl By,v=s.val∧H=s.hp tU8++(q.hp tSB++(Dg q.list++[]))∧s.list=Bb q.list∧s.isOwn=true):=by
 have hsm:=q.small
 refine zF 92 Tryz.func155 ?_
 refine zC ?_
 refine Ae rfl (fun c14=> ?_) (fun c14=> ?_)
 ·simp only [A3j,A1k] at c14
  refine zC ?_
  refine Ao rfl rfl rfl rfl (fun b15=> ?_)
  refine Pb (Ao1 (α:=By) (b:=b15) (T:=tU8)) ?_
  refine zC ?_
  exact zL (hR:=by refine ⟨mt By b15,rfl,rfl,?_,rfl⟩;rw [A1j.1 (show q.list.length=0 by omega)];rfl)
 ·simp only [A3j,A1k] at c14
  refine zC ?_
  refine Ae rfl (fun c18=> ?_) (fun c18=> ?_)
  ·simp only [A3j,A1k] at c18
   obtain ⟨s,hs⟩:∃ s,q.list=[s]:=List.length_eq_one_iff.1 (by omega)
   have hg:q.list[0]? =some s:=by (rw [hs];rfl)
   have hjl:Bb q.list=s.list:=by (rw [hs];simp [Bb])
   refine zA ?_
   refine Ah (A7 rfl rfl (by omega)) rfl ?_
   refine Ah (Co (o:=0) (i:=0) (v:=s.val) rfl pL hg rfl rfl) rfl ?_
   refine Pb (G6 (α:=By) (T:=tU8)) ?_
   refine Az (s:=(Sl.nil:Sl By)) (new:=s.list) (m:=s.list.length) rfl rfl pL rfl (Tg (Tq (q:=[]) hg pL)) rfl rfl rfl rfl (by rw [show (Sl.nil:Sl By).list.length=0 from rfl,← hjl];omega) rfl (fun s' hs1 hs2=> ?_)
   refine zC ?_
   exact zL (hR:=by refine ⟨s',rfl,rfl,?_,hs2⟩;rw [hs1,hjl];rfl)
  ·simp only [A3j,A1k] at c18
   have hne:0<q.list.length:=by omega
   refine zC ?_
   refine Ay rfl ?_
   refine zC ?_
   refine Dy [0,1,42,43] kQ (fun (i:Nat)=>[(44,.int .i64 i),(5,.int .i64 (Bb (q.list.take i)).length)]) (fun i=>i≤q.list.length) (fun i=>q.list.length - i) ((0:Nat)) (A5s _) kP ?_
   rintro i h0
   have hle:=P4 q.list i
   refine zC ?_
   refine Ae rfl (fun c45=> ?_) (fun c45=> ?_)
   ·simp at c45
    obtain ⟨s,hg⟩:∃ s,q.list[i]? =some s:=⟨_,A1d c45⟩
    have hst:=Ol hg
    have hle2:=P4 q.list (i+1)
    rw [hst,A2x] at hle2
    refine zA ?_
    refine Ah (A7 rfl rfl (by omega)) rfl ?_
    refine Ah (Co (o:=0) (v:=s.val) rfl pL hg rfl rfl) rfl ?_
    refine zC ?_
    refine Ae rfl (fun c52=> ?_) (fun c52=> ?_)
    ·simp at c52
     omega
    ·simp at c52
     iterate 6 refine sb ?_
     refine Ah (show Rd _ _ _ _ (.int .i64 (Bb (q.list.take (i+1))).length) from by (rw [hst,A2x];push_cast;exact Bm rfl rfl (by omega))) rfl ?_
     refine zC ?_
     exact ⟨i+1,(by first | omega | trivial | (refine ⟨?_,?_⟩ <;> omega)),(by omega),lZ⟩
   ·simp at c45
    have hall:Bb (q.list.take i)=Bb q.list:=by rw [A1q (by omega)]
    rw [hall]
    refine zC ?_
    refine Azc (m:=(Bb q.list).length) rfl (by omega) rfl (fun b60 cs hcs=> ?_)
    refine zC ?_
    refine Ah (Aj0 rfl rfl rfl (by omega)) rfl ?_
    refine zA ?_
    refine Ah (A7 rfl rfl (by omega)) rfl ?_
    refine Ah (Co (o:=0) (i:=0) (v:=(q.list[0]'hne).val) rfl pL (A1d hne) rfl rfl) rfl ?_
    have hb0:Aad cs []=cs:=(by simp [Aad,cells])
    have hg0:q.list[0]? =some (q.list[0]'hne):=A1d hne
    have hst0:=Ol hg0
    rw [show Bb (q.list.take 0)=[] from rfl,A4h] at hst0
    have hle0:=P4 q.list (0+1)
    rw [hst0] at hle0
    have hsp0:=Adi (cs:=cs) (xs:=[]) (ys:=(q.list[0]'hne).list) (o:=0) (by rw [A4c,A5k];omega) (.inr rfl)
    rw [hb0,A4h] at hsp0
    refine Hg rfl rfl (Tg (Tq (q:=[]) hg0 pL)) (by omega) uD hsp0 (Gv _) rfl ?_
    refine zC ?_
    refine Ah (show Rd _ _ _ _ (q.drop 1 tSB).val from Xf (i:=1) tSB rfl rfl (by omega) rfl) rfl ?_
    refine zC ?_
    have hdl:(q.drop 1 tSB).list.length=q.list.length - 1:=by rw [Sl.drop_list,A3w]
    rw [← hst0]
    refine At [1,8,70,71] kQ (fun (j:Nat)=>[(72,.int .i64 j),(9,.int .i64 (Bb (q.list.take (j+1))).length)]) (fun j=>(b60,true,C (Aad cs (Bb (q.list.take (j+1)))) tU8)::(q.hp tSB++(Dg q.list++[]))) (fun j=>j+1≤q.list.length) (fun j=>q.list.length - j) ((0:Nat)) (by omega) kP sP ?_
    rintro j h1
    refine zC ?_
    refine Ae rfl (fun c73=> ?_) (fun c73=> ?_)
    ·simp only [A3j,A1k] at c73
     have hj:j+1<q.list.length:=by omega
     obtain ⟨s,hg⟩:∃ s,q.list[j+1]? =some s:=⟨_,A1d hj⟩
     have hg':(q.drop 1 tSB).list[j]? =some s:=(by rw [Sl.drop_list,A2v,A5d 1 j];exact hg)
     have hst:=Ol hg
     have hle1:=P4 q.list (j+1+1)
     rw [hst,A2x] at hle1
     have hb1:=Adi (cs:=cs) (xs:=Bb (q.list.take (j+1))) (ys:=s.list) (o:=if (Bb q.list).length=(Bb (q.list.take (j+1))).length then 0 else (Bb (q.list.take (j+1))).length) (by omega) (by split;(left;exact ⟨A1j.1 (by omega),rfl⟩);(right;rfl))
     rw [← hst] at hb1
     refine zA ?_
     refine Ah (A7 rfl rfl (by omega)) rfl ?_
     refine Ah (Ach (o:=0) (v:=s.val) rfl (by rw [Sl.drop_hp];exact PickL.toSub pL) hg' rfl rfl) rfl ?_
     refine zC ?_
     refine Ah (Oc rfl rfl (by omega)) rfl ?_
     refine zC ?_
     refine Aft rfl rfl rfl ?_
     refine Ah (show Rd _ _ _ _ (.int .i64 (Bb (q.list.take (j+1))).length) from Atz rfl rfl (by omega)) rfl ?_
     refine zC ?_
     refine Ah (show Rd _ _ _ _ (.slice (some ⟨b60,if (Bb q.list).length=(Bb (q.list.take (j+1))).length then 0 else (Bb (q.list.take (j+1))).length,none⟩) ((Bb q.list).length - (Bb (q.list.take (j+1))).length) ((Bb q.list).length - (Bb (q.list.take (j+1))).length)) from Ao2 rfl rfl (by omega)) rfl ?_
     refine zC ?_
     refine Hg rfl rfl (Tg (Tq (q:=[]) hg pL)) (by omega) uD hb1 (Gv _) rfl ?_
     refine Ah (show Rd _ _ _ _ (.int .i64 (Bb (q.list.take (j+1+1))).length) from by (rw [hst,A2x];push_cast;exact Bm rfl rfl (by omega))) rfl ?_
     refine zC ?_
     exact ⟨j+1,(by first | omega | trivial | (refine ⟨?_,?_⟩ <;> omega)),(by omega),lZ⟩
    ·simp only [A3j,A1k] at c73
     refine zC ?_
     exact zL (hR:=by exact Akz (q:=q.list) (cs:=cs) (b:=b60) (show Bb (q.list.take (j+1))=_ from by rw [A1q (by omega)]) hcs hl)
theorem Adl {q:Sl (Sl By)} (hl:(Bb q.list).length≤70000000000000):Does Tryz.prog 113 [q.val] (q.hp tSB++(Dg q.list++[])) (fun v H=>∃ s:Sl By,v=s.val∧H=s.hp tU8++(q.hp tSB++(Dg q.list++[]))∧s.list=Bb q.list∧s.isOwn=true):=by
 refine zF 5 Tryz.func113 ?_
 refine zC ?_
 refine zE rfl (At0 hl) ?_
 rintro _ _ ⟨s4,rfl,rfl,hs4,ho4⟩
 refine zW ?_
 exact zL (hR:=by exact ⟨s4,rfl,rfl,hs4,ho4⟩)
theorem Av5 {c:BitVec 32} {q:Sl (Sl By)}:Does Tryz.prog 95 [uv c,q.val] (q.hp tSB++(Dg q.list++[])) (Is (uv (Da c (q.list.map (·.list)))) (q.hp tSB++(Dg q.list++[]))):=by
 have hsm:=q.small
 refine zF 42 Tryz.func95 ?_
 refine zA ?_
 refine Ah (Ve rfl) rfl ?_
 refine zC ?_
 refine Dy [12,13] kQ (fun (i:Nat)=>[(14,.int .i64 i),(5,uv (((q.list.take i).map (·.list)).foldl Lo (~~~c)))]) (fun i=>i≤q.list.length) (fun i=>q.list.length - i) ((0:Nat)) (A5s _) kP ?_
 rintro i h0
 refine zC ?_
 refine Ae rfl (fun c15=> ?_) (fun c15=> ?_)
 ·simp only [A3j,A1k] at c15
  obtain ⟨s,hg⟩:∃ s,q.list[i]? =some s:=⟨_,A1d (by omega)⟩
  have hst:((q.list.take (i+1)).map (·.list)).foldl Lo (~~~c)=Lo (((q.list.take i).map (·.list)).foldl Lo (~~~c)) s.list:=(by rw [List.map_take,List.map_take];exact Agb (by rw [A29,hg];rfl))
  have hss:=s.small
  generalize ha:((q.list.take i).map (·.list)).foldl Lo (~~~c)=a at hst ⊢
  refine zA ?_
  refine Ah (A7 rfl rfl (by omega)) rfl ?_
  refine Ah (Co (o:=0) (v:=s.val) rfl pL hg rfl rfl) rfl ?_
  refine zC ?_
  refine Dy [12,13,14,18,19] kQ (fun (j:Nat)=>[(20,.int .i64 j),(5,uv (Lo a (s.list.take j)))]) (fun j=>j≤s.list.length) (fun j=>s.list.length - j) ((0:Nat)) (A5s _) kP ?_
  rintro j h1
  refine zC ?_
  refine Ae rfl (fun c21=> ?_) (fun c21=> ?_)
  ·simp only [A3j,A1k] at c21
   obtain ⟨y,hy⟩:∃ y,s.list[j]? =some y:=⟨_,A1d (by omega)⟩
   have hst2:=Ya (c:=a) hy
   generalize he:Lo a (s.list.take j)=e at hst2 ⊢
   refine zA ?_
   refine Ah (A7 rfl rfl (by omega)) rfl ?_
   refine Ah (Ach (o:=0) (v:=bv y) rfl (Tq (q:=[]) hg pL) hy rfl rfl) rfl ?_
   refine zA ?_
   refine Ah (Ah8 rfl) rfl ?_
   refine Ah (Ko rfl rfl) rfl ?_
   refine zC ?_
   refine Dy [12,13,14,18,19,20] kQ (fun (k:Nat)=>[(28,.int .i64 k),(5,uv (Wv (e ^^^ y.setWidth 32) k))]) (fun k=>k≤8) (fun k=>8 - k) ((0:Nat)) (A5s _) kP ?_
   rintro k h2
   have hck:Wv (e ^^^ y.setWidth 32) (k+1)=Atx (Wv (e ^^^ y.setWidth 32) k):=rfl
   have hk8:Aoy e y=Wv (e ^^^ y.setWidth 32) 8:=rfl
   generalize hz:Wv (e ^^^ y.setWidth 32) k=z at hck ⊢
   refine zC ?_
   refine Ae rfl (fun c29=> ?_) (fun c29=> ?_)
   ·simp only [A3j,A1k] at c29
    refine zA ?_
    refine Ah (Akv rfl rfl) rfl ?_
    refine zA ?_
    refine Ah (Pz (b:=1) rfl rfl) rfl ?_
    refine Ah (Aow rfl) rfl ?_
    refine Ah (Pz (a:=Hz) rfl rfl) rfl ?_
    refine Ah (show Rd _ _ _ _ (uv (Wv (e ^^^ y.setWidth 32) (k+1))) from by (rw [hck];exact Ko rfl rfl)) rfl ?_
    refine zC ?_
    exact ⟨k+1,(by first | omega | trivial | (refine ⟨?_,?_⟩ <;> omega)),(by omega),lZ⟩
   ·simp only [A3j,A1k] at c29
    refine zC ?_
    have hk:k=8:=by omega
    subst hk
    rw [← hz,← hk8,← hst2]
    exact ⟨j+1,(by first | omega | trivial | (refine ⟨?_,?_⟩ <;> omega)),(by omega),lZ⟩
  ·simp only [A3j,A1k] at c21
   refine zC ?_
   have hj:j=s.list.length:=by omega
   rw [hj,A30,← hst]
   exact ⟨i+1,(by first | omega | trivial | (refine ⟨?_,?_⟩ <;> omega)),(by omega),lZ⟩
 ·simp only [A3j,A1k] at c15
  refine zA ?_
  refine Ah (show Rd _ _ _ _ (uv (Da c (q.list.map (·.list)))) from by (rw [Da,show q.list.map (·.list)=(q.list.take i).map (·.list) by rw [A1q (by omega)]];exact Ve rfl)) rfl ?_
  refine zC ?_
  exact zS
theorem Ao3 {q:Sl (Sl By)}:Does Tryz.prog 93 [q.val] (q.hp tSB++(Dg q.list++[])) (Is (uv (Da 0 (q.list.map (·.list)))) (q.hp tSB++(Dg q.list++[]))):=by
 refine zF 5 Tryz.func93 ?_
 refine zC ?_
 refine zI rfl (Av5 (c:=0)) ?_
 refine zC ?_
 exact zS
end
section
open Go.K
instance und151:Und Tryz.prog 151 (.int .u64):=⟨Tryz.underlying151⟩
instance und214:Und Tryz.prog 214 (.int .u16):=⟨Tryz.underlying214⟩
instance und217:Und Tryz.prog 217 (.array 256 5):=⟨Tryz.underlying217⟩
instance agg217:Agg Tryz.prog 217 true:=⟨⟨_,Tryz.underlying217,rfl⟩⟩
instance siz217:Siz Tryz.prog 217 256:=⟨by kernel_rfl⟩
instance zer217:Zer Tryz.prog 217 (List.replicate 256 (.int .u8 0)):=⟨by kernel_rfl⟩
instance ent134:Ent Tryz.prog 134:=⟨fun _ _=>by kernel_rfl⟩
instance ent143:Ent Tryz.prog 143:=⟨fun _ _=>by kernel_rfl⟩
instance ent144:Ent Tryz.prog 144:=⟨fun _ _=>by kernel_rfl⟩
instance ent182:Ent Tryz.prog 182:=⟨fun _ _=>by kernel_rfl⟩
instance ent187:Ent Tryz.prog 187:=⟨fun _ _=>by kernel_rfl⟩
instance ent188:Ent Tryz.prog 188:=⟨fun _ _=>by kernel_rfl⟩
instance ent189:Ent Tryz.prog 189:=⟨fun _ _=>by kernel_rfl⟩
instance ent218:Ent Tryz.prog 218:=⟨fun _ _=>by kernel_rfl⟩
instance ent219:Ent Tryz.prog 219:=⟨fun _ _=>by kernel_rfl⟩
instance ent236:Ent Tryz.prog 236:=⟨fun _ _=>by kernel_rfl⟩
abbrev tDa:TypeId:=217
abbrev tPg:TypeId:=147
theorem Yd {n:Nat} (hn:n<65536):Does Tryz.prog 143 [.int .u16 (n:Nat)] [] (Is (.int .i64 (G1 n:Nat)) []):=by
 have h1:n / 256<256:=by omega
 have h2:(BitVec.ofNat 8 (n / 256)).toNat=n / 256:=by simp;omega
 have h3:(BitVec.ofNat 8 (n % 256)).toNat=n % 256:=by simp
 have t1:=Y1 (BitVec.ofNat 8 (n / 256))
 have t2:=Y1 (BitVec.ofNat 8 (n % 256))
 rw [h2] at t1
 rw [h3] at t2
 refine zF 11 Tryz.func143 ?_
 refine zC ?_
 refine A0 [(9,[(0,false),(1,false),(2,false),(3,false),(4,false),(5,false),(6,false),(7,false),(8,false)])] (by kernel_rfl) ?_
 refine zA ?_
 refine Aq (show Rd _ _ _ _ (.int .u16 ((n / 256:Nat):Int)) from P2 (m:=8) rfl rfl rfl (by decide)) ?_
 refine Aq (Ka rfl rfl (by omega) t1) ?_
 refine zA ?_
 refine Aq (show Rd _ _ _ _ (.int .u16 ((n % 256:Nat):Int)) from by (rw [← A0q n 8];exact Adg (b:=255) rfl rfl hn (by omega))) ?_
 refine Aq (Ka rfl rfl (by omega) t2) ?_
 refine zC ?_
 refine Ak (Aw Tryz.results143 (Af rfl)) ?_ sP
 have p1:=K6 (BitVec.ofNat 8 (n / 256));have p2:=K6 (BitVec.ofNat 8 (n % 256));exact A52 (Value.int .i64) (by rw [Ahj,Ahj,G1,← Int.natCast_add,Ey .u8 rfl (by show _<256;omega),Aac (by omega)])
theorem Ak0 {n:Nat} (hn:n<4096):Does Tryz.prog 236 [.int .u64 (n:Nat)] [] (Is (.int .i64 (G1 n:Nat)) []):=by
 refine zF 35 Tryz.func236 ?_
 refine zA ?_
 refine Ah (I5 rfl rfl (by omega)) rfl ?_
 iterate 10 refine sb ?_
 refine Ah (I5 rfl rfl (by omega)) rfl ?_
 iterate 10 refine sb ?_
 refine Ah (I5 rfl rfl (by omega)) rfl ?_
 iterate 10 refine sb ?_
 refine Ah (I5 rfl rfl (by omega)) rfl ?_
 iterate 8 refine sb ?_
 refine Ah (I5 rfl rfl (by omega)) rfl ?_
 iterate 8 refine sb ?_
 refine Ah (I5 rfl rfl (by omega)) rfl ?_
 refine zC ?_
 refine Ak (Aw Tryz.results236 (Af rfl)) ?_ sP
 exact A52 (Value.int .i64) (Asq n hn)
theorem At1 {n:Nat} (hn:n<4096):Does Tryz.prog 219 [.int .u64 (n:Nat)] [] (Is (.int .i64 (G1 n:Nat)) []):=by
 refine zF 8 Tryz.func219 ?_
 refine zC ?_
 refine Ay rfl ?_
 refine zC ?_
 refine zI rfl (Ak0 hn) ?_
 refine zC ?_
 exact zS
theorem Ao4 {n:Nat} (hn:n<4096):Does Tryz.prog 182 [.int .u64 (n:Nat)] [] (Is (.int .i64 (S4 n:Nat)) []):=by
 refine zF 25 Tryz.func182 ?_
 refine zC ?_
 refine Ae rfl (fun c4=> ?_) (fun c4=> ?_)
 ·simp only [A3j,A1k] at c4
  omega
 ·simp only [A3j,A1k] at c4
  refine zC ?_
  refine Ae rfl (fun c8=> ?_) (fun c8=> ?_)
  ·simp only [A3j,A1k] at c8
   omega
  ·simp only [A3j,A1k] at c8
   refine zC ?_
   refine Ae rfl (fun c14=> ?_) (fun c14=> ?_)
   ·simp only [A3j,A1k] at c14
    have h8:(BitVec.ofNat 8 (n / 256)).toNat=n / 256:=(by simp;omega)
    have t1:=Ag7 (BitVec.ofNat 8 (n / 256))
    have t2:=Ag8 (BitVec.ofNat 8 (n / 256))
    rw [h8] at t1
    have t3:=Awz n hn (by omega)
    have t4:=Ahk (BitVec.ofNat 8 (n / 256))
    refine zA ?_
    refine Ah (show Rd _ _ _ _ (.int .u64 ((n / 256:Nat):Int)) from P2 (m:=8) rfl rfl rfl (by decide)) rfl ?_
    iterate 13 refine sb ?_
    refine Ah (Eu rfl (Ey .u8 rfl (by show _<256;omega))) rfl ?_
    refine Ah (Ka rfl rfl (by omega) t1) rfl ?_
    refine Ah (Gp t2 rfl) rfl ?_
    refine zC ?_
    refine Ak (Aw Tryz.results182 (Af rfl)) ?_ sP
    exact A52 (Value.int .i64) (by omega)
   ·simp only [A3j,A1k] at c14
    have h8:(BitVec.ofNat 8 n).toNat=n:=(by simp;omega)
    have t1:=Ag7 (BitVec.ofNat 8 n)
    have t2:=Ag8 (BitVec.ofNat 8 n)
    rw [h8] at t1
    have t3:=Awy n (by omega)
    have t4:=Ahk (BitVec.ofNat 8 n)
    refine zA ?_
    refine Ah (Eu rfl (Ey .u8 rfl (by show _<256;omega))) rfl ?_
    refine Ah (Ka rfl rfl (by omega) t1) rfl ?_
    refine Ah (Gp t2 rfl) rfl ?_
    refine zC ?_
    refine Ak (Aw Tryz.results182 (Af rfl)) ?_ sP
    exact A52 (Value.int .i64) (by omega)
theorem Ao5 {n:Nat} (hn:n<4096):Does Tryz.prog 134 [.int .u64 (n:Nat)] [] (Is (.int .i64 (S4 n:Nat)) []):=by
 refine zF 8 Tryz.func134 ?_
 refine zC ?_
 refine Ay rfl ?_
 refine zC ?_
 refine zI rfl (Ao4 hn) ?_
 refine zC ?_
 exact zS
theorem Ao6 {i:Nat} (hi:i<2048):Does Tryz.prog 218 [.int .i64 (i:Nat)] [] (Is (.int .i64 (N7 i:Nat)) []):=by
 refine zF 15 Tryz.func218 ?_
 refine zC ?_
 refine Dy [] kQ (fun (k:Nat)=>[(3,.int .i64 ((i+1+k:Nat):Int)),(4,.int .i64 ((2 ^ k:Nat):Int))]) (fun k=>k≤13∧M8 (13 - k) (i+1+k) (2 ^ k)=N7 i) (fun k=>14 - k) ((0:Nat)) ⟨A5s _,rfl⟩ kP ?_
 rintro k ⟨h0,h1⟩
 refine zC ?_
 refine Ae rfl (fun c9=> ?_) (fun c9=> ?_)
 ·simp only [A3j,A1k] at c9
  have hk:k<13:=(by rcases A5g k 13 with h | h;exact h;exfalso;have:k=13:=(by omega);subst this;simp at c9;omega)
  have h2:13 - k=(12 - k)+1:=(by omega)
  rw [h2,M8,if_pos (by exact_mod_cast c9)] at h1
  have hp:2 ^ k≤2 ^ 12:=Nat.pow_le_pow_right (by omega) (by omega)
  refine zA ?_
  refine Ah (show Rd _ _ _ _ (.int .i64 ((i+1+(k+1):Nat):Int)) from by (rw [show ((i+1+(k+1):Nat):Int)=((i+1+k:Nat):Int)+1 by push_cast;omega];exact Bm rfl rfl (by omega))) rfl ?_
  refine zA ?_
  refine Ah (show Rd _ _ _ _ (.int .i64 ((2 ^ (k+1):Nat):Int)) from Ah9 (a:=2 ^ k) (m:=1) rfl rfl rfl (by omega) (by omega)) rfl ?_
  refine zC ?_
  exact ⟨k+1,⟨by omega,by rw [Nat.pow_succ,show 13 - (k+1)=12 - k by omega];exact h1⟩,(by omega),lZ⟩
 ·simp only [A3j,A1k] at c9
  have hr:N7 i=i+1+k:=(by have h3:¬ 2 ^ k≤i+1+k:=(fun h=>c9 (by exact_mod_cast h));rcases Nat.eq_zero_or_pos (13 - k) with h | h;(rw [h,M8] at h1;exact h1.symm);(rw [show 13 - k=(12 - k)+1 by omega,M8,if_neg h3] at h1;exact h1.symm))
  refine zC ?_
  refine Ak (Aw Tryz.results218 (Af rfl)) ?_ sP
  rw [hr]
theorem Aic {b:Nat} {d:Dat} {T:TypeId}:Does Tryz.prog 187 [ptr b] [(b,true,C (vbc d) T)] (Is (.tuple #[.int .i64 (Gy d:Nat),.int .i64 (Mu d:Nat)]) [(b,true,C (vbc d) T)]):=by
 refine zF 37 Tryz.func187 ?_
 refine zC ?_
 refine Dy [7] kQ (fun (i:Nat)=>[(8,.int .i64 i),(2,.int .i64 (Nw d i:Nat)),(3,.int .i64 (Aae d i:Nat))]) (fun i=>i≤256) (fun i=>256 - i) ((0:Nat)) (A5s _) kP ?_
 rintro i h0
 refine zC ?_
 refine Ae rfl (fun c9=> ?_) (fun c9=> ?_)
 ·simp only [A3j,A1k] at c9
  have hi:i<256:=(by omega)
  have hl:=Mw d i h0
  have ho:=Aaf d i
  have hd:d.toList.getD i 0=d[i]:=(by simp [A00,hi])
  have hls:=Vh d i
  have hos:=Yb d i
  rw [hd] at hls hos
  generalize Nw d i=ln at hl hls ⊢
  generalize Aae d i=od at ho hos ⊢
  generalize hy:d[i]=yy at hls hos
  refine zC ?_
  refine A0 [(6,[(0,false),(1,false),(2,false),(3,false),(4,false),(5,false)])] (by kernel_rfl) ?_
  refine zA ?_
  refine Aq (Fi rfl rfl (by omega)) ?_
  refine Aq (Al rfl mM (show nth _ _=some (bv yy) by (rw [← hy];simpa using Fv (p:=d) hi))) ?_
  refine zC ?_
  refine zI rfl (Abq) ?_
  refine Ah (show Rd _ _ _ _ (.int .i64 ((Hd yy % 2:Nat):Int)) from by (rw [← Nat.and_one_is_mod];exact P1 (b:=1) rfl rfl (by have:=K6 yy;omega) (by omega))) rfl ?_
  refine Ah (show Rd _ _ _ _ (.int .i64 ((Aae d (i+1):Nat):Int)) from by (rw [hos];exact Aaa rfl rfl (by omega) (by omega))) rfl ?_
  refine zC ?_
  refine Dy [7,8,4,3] kQ (fun (st:By×Nat)=>[(5,bv st.1),(2,.int .i64 (st.2:Nat))]) (fun st=>Ab6 i (Mf st.1) st.2=Nw d (i+1)∧st.2<4096) (fun st=>st.1.toNat) ((yy,ln)) ⟨hls.symm,hl⟩ kP ?_
  rintro ⟨z,s⟩ ⟨h1,h2⟩
  simp only at h1 h2
  refine zC ?_
  refine Ae rfl (fun c20=> ?_) (fun c20=> ?_)
  ·skip
   have hz:z≠0:=(by intro h;subst h;simp at c20)
   obtain ⟨hb1,hb2⟩:=Ajv z hz
   have hdr:=Ajx z hz
   rw [hb1] at h1
   have hpl:=Ab8 (8*i+Qv z) (by omega)
   refine zC ?_
   refine zI rfl (Ar2) ?_
   refine zA ?_
   refine Ah (show Rd _ _ _ _ (.int .i64 ((8*i:Nat):Int)) from by (rw [Nat.mul_comm];exact Ah9 (m:=3) rfl rfl rfl (by omega) (by omega))) rfl ?_
   refine zA ?_
   refine Ah (show Rd _ _ _ _ (.int .i64 ((8*i+Qv z:Nat):Int)) from by (rw [show 8*i+Qv z=8*i ||| Qv z from A0w (i:=3) hb2 i];exact Aox rfl rfl (by omega) (by omega))) rfl ?_
   refine zI rfl (Ao6 (i:=8*i+Qv z) (by omega)) ?_
   refine Ah (show Rd _ _ _ _ (.int .i64 ((s ^^^ N7 (8*i+Qv z):Nat):Int)) from Aaa rfl rfl (by omega) (by omega)) rfl ?_
   refine zA ?_
   refine Ah (show Rd _ _ _ _ (bv (z - 1)) from Atv (b:=1) rfl rfl) rfl ?_
   refine Ah (show Rd _ _ _ _ (bv (z &&& (z - 1))) from by (unfold bv;rw [← Al7];exact An rfl rfl rfl)) rfl ?_
   refine zC ?_
   exact ⟨(z &&& (z - 1),s ^^^ N7 (8*i+Qv z)),⟨h1,Agc h2 hpl⟩,hdr,lZ⟩
  ·skip
   have hz:z=0:=(by have:z.toNat=0:=(by simpa using c20);exact A1s this)
   subst hz
   rw [Ajw] at h1
   refine zC ?_
   have h3:Nw d (i+1)=s:=h1.symm
   rw [← h3]
   exact ⟨i+1,(by omega),(by omega),lZ⟩
 ·simp only [A3j,A1k] at c9
  refine zC ?_
  refine Ak (Cu Tryz.results187 (Af rfl) (Af rfl)) ?_ sP
  have hi:i=256:=(by omega);simp only [Gy,Mu,hi]
theorem Ao7 {n:Nat} (hn:n<4096):Does Tryz.prog 188 [.int .i64 (n:Nat)] [] (Is (.bool (decide (n &&& (n - 1)=0))) []):=by
 refine zF 8 Tryz.func188 ?_
 refine zA ?_
 refine Ah (show Rd _ _ _ _ (.int .i64 ((n:Int) - 1)) from F0 rfl rfl (by omega)) rfl ?_
 refine Ah (show Rd _ _ _ _ (.int .i64 ((n &&& (n - 1):Nat):Int)) from Aga rfl rfl hn) rfl ?_
 refine zC ?_
 refine Ak (Aw Tryz.results188 (Af rfl)) ?_ sP
 exact A52 Value.bool (by by_cases h:n &&& (n - 1)=0 <;> simp [h])
theorem Ao8 {d:Dat}:Does Tryz.prog 189 [.agg (vbc d).toArray] [] (Is (.int .u16 (Dl d:Nat)) []):=by
 have hl:=Mw d 256 (A5q _)
 have ho:=Aaf d 256
 have hp:G1 (Gy d)≤16:=Zh _
 refine zF 20 Tryz.func189 ?_
 refine zC ?_
 refine Do rfl rfl (fun b1=> ?_)
 refine zC ?_
 refine zI rfl (Aic) ?_
 refine zA ?_
 refine Ah (Eu rfl (Ey .u64 rfl (by show _<2 ^ 64;unfold Gy;omega))) rfl ?_
 refine zI rfl (At1 hl) ?_
 refine Ah (show Rd _ _ _ _ (.int .i64 ((Mu d+G1 (Gy d):Nat):Int)) from To rfl rfl (by unfold Mu;omega)) rfl ?_
 refine Ah (show Rd _ _ _ _ (.int .i64 (((Mu d+G1 (Gy d)) % 2:Nat):Int)) from by (rw [← Nat.and_one_is_mod];exact P1 (b:=1) rfl rfl (by unfold Mu;omega) (by omega))) rfl ?_
 refine zC ?_
 refine Ae rfl (fun c15=> ?_) (fun c15=> ?_)
 ·skip
  have hc:Dl d=Gy d ||| 4096:=(by unfold Dl;rw [if_neg (by intro h;rw [h] at c15;simp at c15)])
  refine zA ?_
  refine Ah (show Rd _ _ _ _ (.int .i64 ((Dl d:Nat):Int)) from by (rw [hc];exact Aox (b:=4096) rfl rfl (by unfold Gy;omega) (by omega))) rfl ?_
  refine zA ?_
  refine Ah (Eu (a:=Dl d) rfl (Ey .u16 rfl (by have:=Hk d;show _<65536;omega))) rfl ?_
  refine zC ?_
  exact zS
 ·skip
  have hc:Dl d=Gy d:=(by unfold Dl;rw [if_pos (by simp at c15;omega)])
  rw [← hc]
  refine zA ?_
  refine Ah (Eu (a:=Dl d) rfl (Ey .u16 rfl (by have:=Hk d;show _<65536;omega))) rfl ?_
  refine zC ?_
  exact zS
theorem Axu {d:Dat} {chk:Nat} (hk:chk<65536):Does Tryz.prog 144 [.agg (vbc d).toArray,.int .u16 (chk:Nat)] [] (Is (.tuple #[.agg (vbc (C3 d chk).1).toArray,.int .i64 (C3 d chk).2.1,.int .i64 (C3 d chk).2.2]) []):=by
 have hl:=Mw d 256 (A5q _)
 have ho:=Aaf d 256
 have hp:=Zh (chk &&& 8191)
 have ha:chk &&& 4095<4096:=Nat.and_lt_two_pow (n:=12) _ (by omega)
 have hs:Gy d ^^^ (chk &&& 4095)<4096:=Agc hl ha
 obtain ⟨S,hS⟩:∃ S,S=Gy d ^^^ (chk &&& 4095):=⟨_,rfl⟩
 rw [← hS] at hs
 refine zF 61 Tryz.func144 ?_
 refine zC ?_
 refine Do rfl rfl (fun b2=> ?_)
 refine Aj rfl (fun b4=> ?_)
 refine zC ?_
 refine zI rfl (Aic) ?_
 refine zA ?_
 refine Ah (Eu rfl (Aac (by omega))) rfl ?_
 refine Ah (show Rd _ _ _ _ (.int .i64 ((chk &&& 4095:Nat):Int)) from P1 (b:=4095) rfl rfl (by omega) (by omega)) rfl ?_
 refine Ah (show Rd _ _ _ _ (.int .i64 (S:Nat)) from by (rw [hS];exact Aaa rfl rfl (by unfold Gy;omega) (by omega))) rfl ?_
 refine zA ?_
 refine Ah (show Rd _ _ _ _ (.int .u16 ((chk &&& 8191:Nat):Int)) from Adg (b:=8191) rfl rfl hk (by omega)) rfl ?_
 refine zI rfl (Yd (n:=chk &&& 8191) (by have:chk &&& 8191≤chk:=A4l;omega)) ?_
 refine Ah (show Rd _ _ _ _ (.int .i64 ((Mu d+G1 (chk &&& 8191):Nat):Int)) from To rfl rfl (by unfold Mu;omega)) rfl ?_
 refine Ah (show Rd _ _ _ _ (.int .i64 (((Mu d+G1 (chk &&& 8191)) % 2:Nat):Int)) from by (rw [← Nat.and_one_is_mod];exact P1 (b:=1) rfl rfl (by unfold Mu;omega) (by omega))) rfl ?_
 refine zC ?_
 refine Ae rfl (fun c26=> ?_) (fun c26=> ?_)
 ·skip
  have e1:S=0∧(Mu d+G1 (chk &&& 8191)) % 2=0:=(by simp at c26;omega)
  have hres:C3 d chk=(d,0,0):=(by unfold C3;simp only [];rw [← hS];rw [if_pos e1])
  refine zA ?_
  refine Ah (Am rfl mM (by first | exact Ax | rfl)) rfl ?_
  first | refine Ac rfl rfl uD (Cg) (Ai) (Bo (by first | exact Ai | exact A1y ..)) ?_ | refine Ac rfl rfl uD rfl rfl rfl ?_
  refine zC ?_
  refine Ak (Pp Tryz.results144 (Bc rfl mM (by first | exact Ax | rfl)) (Af rfl) (Af rfl)) ?_ sP
  rw [hres]
 ·skip
  have e1:¬ (S=0∧(Mu d+G1 (chk &&& 8191)) % 2=0):=(by intro h;simp at c26;omega)
  refine zC ?_
  refine Ae rfl (fun c34=> ?_) (fun c34=> ?_)
  ·skip
   have e2:(Mu d+G1 (chk &&& 8191)) % 2=0:=(by simp at c34;omega)
   have hres:C3 d chk=(zeroD,0,21):=(by unfold C3;simp only [];rw [← hS];rw [if_neg e1,if_pos e2])
   refine zA ?_
   refine Ah (show Rd _ _ _ _ (.agg (vbc zeroD).toArray) from by (rw [← Vi];exact Pt)) rfl ?_
   first | refine Ac rfl rfl uD (Cg) (Ai) (Bo (by first | exact Ai | exact A1y ..)) ?_ | refine Ac rfl rfl uD rfl rfl rfl ?_
   refine zC ?_
   refine Ak (Pp Tryz.results144 (Bc rfl mM (by first | exact Ax | rfl)) (Af rfl) (Af rfl)) ?_ sP
   rw [hres]
  ·skip
   have e2:¬ (Mu d+G1 (chk &&& 8191)) % 2=0:=(by intro h;simp at c34;omega)
   refine zC ?_
   refine zI rfl (Ao7 hs) ?_
   refine zC ?_
   refine Ae rfl (fun c38=> ?_) (fun c38=> ?_)
   ·simp only [A3j,A1k] at c38
    have hres:C3 d chk=(d,1,0):=(by unfold C3;simp only [];rw [← hS];rw [if_neg e1,if_neg e2,if_pos c38])
    refine zA ?_
    refine Ah (Am rfl mM (by first | exact Ax | rfl)) rfl ?_
    first | refine Ac rfl rfl uD (Cg) (Ai) (Bo (by first | exact Ai | exact A1y ..)) ?_ | refine Ac rfl rfl uD rfl rfl rfl ?_
    refine zC ?_
    refine Ak (Pp Tryz.results144 (Bc rfl mM (by first | exact Ax | rfl)) (Af rfl) (Af rfl)) ?_ sP
    rw [hres]
   ·simp only [A3j,A1k] at c38
    have hn:=Aw0 _ hs c38
    refine zA ?_
    refine Ah (show Rd _ _ _ _ (.int .i64 ((S - 1:Nat):Int)) from by (rw [show ((S - 1:Nat):Int)=((S:Nat):Int) - 1 by omega];exact F0 rfl rfl (by omega))) rfl ?_
    refine zA ?_
    refine Ah (Eu rfl (Ey .u64 rfl (by show _<2 ^ 64;omega))) rfl ?_
    refine zI rfl (Ao5 hs) ?_
    refine Ah (show Rd _ _ _ _ (.int .i64 ((S - 1 - S4 S:Nat):Int)) from by (rw [show ((S - 1 - S4 S:Nat):Int)=((S - 1:Nat):Int) - ((S4 S:Nat):Int) by omega];exact F0 rfl rfl (by omega))) rfl ?_
    refine zC ?_
    refine Ae rfl (fun c49=> ?_) (fun c49=> ?_)
    ·simp only [A3j,A1k] at c49
     have hres:C3 d chk=(zeroD,0,21):=(by unfold C3;simp only [];rw [← hS];rw [if_neg e1,if_neg e2,if_neg c38,if_pos (by omega)])
     refine zA ?_
     refine Ah (show Rd _ _ _ _ (.agg (vbc zeroD).toArray) from by (rw [← Vi];exact Pt)) rfl ?_
     first | refine Ac rfl rfl uD (Cg) (Ai) (Bo (by first | exact Ai | exact A1y ..)) ?_ | refine Ac rfl rfl uD rfl rfl rfl ?_
     refine zC ?_
     refine Ak (Pp Tryz.results144 (Bc rfl mM (by first | exact Ax | rfl)) (Af rfl) (Af rfl)) ?_ sP
     rw [hres]
    ·simp only [A3j,A1k] at c49
     have hres:C3 d chk=(Adj d (S - 1 - S4 S),1,0):=(by unfold C3;simp only [];rw [← hS];rw [if_neg e1,if_neg e2,if_neg c38,if_neg (by omega)])
     generalize hI:S - 1 - S4 S=i at c49 hres ⊢
     have hi8:i / 8<256:=(by omega)
     have hfl:Adj d i=d.set (i / 8) (d[i / 8] ^^^ (1#8 <<< (i % 8))):=(by unfold Adj;rw [A55 hi8])
     refine zC ?_
     refine A0 [(9,[(0,false),(1,false),(2,false),(3,false),(4,false),(5,false),(6,false),(7,false),(8,false)]),(10,[(9,true)])] (by kernel_rfl) ?_
     refine zA ?_
     refine Aq (show Rd _ _ _ _ (.int .i64 ((i / 8:Nat):Int)) from P2 (m:=3) rfl rfl rfl (by decide)) ?_
     refine Aq (Fi rfl rfl (by omega)) ?_
     refine Aq (Al rfl mM (show nth (vbc d) (i / 8*1)=some (bv d[i / 8]) by rw [A5r];exact Fv (p:=d) hi8)) ?_
     refine zA ?_
     refine Aq (show Rd _ _ _ _ (.int .i64 ((i % 8:Nat):Int)) from by (rw [← A0q i 3];exact P1 (b:=7) rfl rfl (by omega) (by omega))) ?_
     refine Aq (show Rd _ _ _ _ (bv (1#8 <<< (i % 8))) from Aab rfl rfl (by omega)) ?_
     refine Aq (show Rd _ _ _ _ (bv (d[i / 8] ^^^ (1#8 <<< (i % 8)))) from by (unfold bv;rw [← Awg];exact An rfl rfl rfl)) ?_
     refine Aq (Fi rfl rfl (by omega)) ?_
     refine zA ?_
     refine Ac (cs':=vbc (Adj d i)) rfl rfl uD rfl rfl (show Ba (vbc d) (i / 8*1) [bv (d[i / 8] ^^^ (1#8 <<< (i % 8)))]=_ by rw [A5r,hfl];exact Il (p:=d) hi8 _) ?_
     refine zA ?_
     refine Ah (Am rfl mM (by first | exact Ax | rfl)) rfl ?_
     first | refine Ac rfl rfl uD (Cg) (Ai) (Bo (by first | exact Ai | exact A1y ..)) ?_ | refine Ac rfl rfl uD rfl rfl rfl ?_
     refine zC ?_
     refine Ak (Pp Tryz.results144 (Bc rfl mM (by first | exact Ax | rfl)) (Af rfl) (Af rfl)) ?_ sP
     rw [hres]
end
section
open Go.K
instance zer23:Zer Tryz.prog 23 ([.slice none 0 0]):=⟨by kernel_rfl⟩
instance ent101:Ent Tryz.prog 101:=⟨fun _ _=>by kernel_rfl⟩
instance ent142:Ent Tryz.prog 142:=⟨fun _ _=>by kernel_rfl⟩
instance ent145:Ent Tryz.prog 145:=⟨fun _ _=>by kernel_rfl⟩
instance ent146:Ent Tryz.prog 146:=⟨fun _ _=>by kernel_rfl⟩
theorem M6 {p:Pg}:Does Tryz.prog 142 [.agg (vbc p).toArray] [] (Is (.bool (Be p)) []):=by
 refine zF 18 Tryz.func142 ?_
 refine zC ?_
 refine Do rfl rfl (fun b1=> ?_)
 refine zA ?_
 refine Ah (Am rfl mM (by first | exact Ax | rfl)) rfl ?_
 refine zC ?_
 refine Dy [6] kQ (fun (i:Nat)=>[(7,.int .i64 i),(3,.int .i64 (K0 p i:Nat))]) (fun i=>i≤258) (fun i=>258 - i) ((0:Nat)) (A5s _) kP ?_
 rintro i h0
 refine zC ?_
 refine Ae rfl (fun c8=> ?_) (fun c8=> ?_)
 ·simp only [A3j,A1k] at c8
  have hi:i<258:=(by omega)
  have hd:p.toList.getD i 0=p[i]:=(by simp [A00,hi])
  have hz:=Ma p i
  have hle:=Ajk p i
  have hp8:=K6 (~~~ (p.toList.getD i 0))
  rw [hd] at hz hp8
  refine zC ?_
  refine Ah (show Rd _ _ _ _ (bv p[i]) from An1 rfl rfl (by omega) (show nth (vbc p) (i*1)=_ by rw [A5r];exact Fv hi)) rfl ?_
  refine zA ?_
  refine Ah (Akw rfl) rfl ?_
  refine zI rfl (Abq) ?_
  refine Ah (show Rd _ _ _ _ (.int .i64 ((K0 p (i+1):Nat):Int)) from by (rw [hz];exact To rfl rfl (by omega))) rfl ?_
  refine zC ?_
  exact ⟨i+1,(by omega),(by omega),lZ⟩
 ·simp only [A3j,A1k] at c8
  refine zC ?_
  refine Ak (Aw Tryz.results142 (Af rfl)) ?_ sP
  unfold Be;rw [show i=258 by omega];exact A52 Value.bool (A34.2 (by omega))
theorem W4 {b:Nat} {s:Sl By} {L:Hp}:((b,true,C [s.val] tSB)::(s.hp tU8++L))=(Sl.own b [s] 1 [] ⟨by simp,A5q _,by simp⟩:Sl (Sl By)).hp tSB++(Dg [s]++L):=by
 rw [Sl.hp_own,Cv,Hl]
 simp only [A25,A4h]
 rfl
theorem Abx {n:Nat} {p:Vector By n} {o m:Nat}:Pc (vbc p) o ((p.toList.drop o).take m):=fun i x hx=>by
 have hx':=Uj hx
 rw [A2v] at hx'
 have hlt:o+i<n:=by have:=(A08.1 hx').1;simpa using this
 refine cut_iff.2 ⟨?_,by rw [Ai];simp only [Cel.sz];omega⟩
 simp only [Cel.sz,A5r,Cel.cs]
 have h1:(vbc p)[o+i]? =some (bv x):=by rw [vbc,A29,hx'];rfl
 have hl:o+i<(vbc p).length:=by rw [Ai];exact hlt
 rw [A05 hl,A2m,List.take_zero]
 have:=A1d hl
 rw [h1] at this
 rw [A4o this]
def Ls {n:Nat} (b:Nat) (p:Vector By n) (o m cap:Nat) (T:TypeId) (h:min m (n - o)≤cap∧n≤1000):Sl By :=
 .view b o true (vbc p) T (0,0) ((p.toList.drop o).take m) cap ⟨Abx,by simp only [A3x,A3w,A2f];omega,by simp only [A3x,A3w,A2f];omega⟩
theorem J7 {n b o m cap:Nat} {p:Vector By n} {T:TypeId} {h} (hm:o+m≤n):(Ls b p o m cap T h).val= .slice (some ⟨b,o,none⟩) m cap:=by
 have:((p.toList.drop o).take m).length=m:=by simp only [A3x,A3w,A2f];omega
 show Value.slice (some ⟨b,o,none⟩) ((p.toList.drop o).take m).length cap=_
 rw [this]
theorem Mb {n b o m cap:Nat} {p:Vector By n} {T U:TypeId} {h}:(Ls b p o m cap T h).hp U=[(b,true,C (vbc p) T)]:=by unfold Ls;rw [Sl.hp_view]
theorem He {n b o m cap:Nat} {p:Vector By n} {T:TypeId} {h}:(Ls b p o m cap T h).list=(p.toList.drop o).take m:=rfl
theorem Asa {b33 b7:Nat} {d:Dat}:Does Tryz.prog 93 [.slice (some ⟨b33,0,none⟩) 1 1] [(b33,true,C [.slice (some ⟨b7,0,none⟩) 252 256] tSB),(b7,true,C (vbc d) tDa)] (Is (uv (Avw d)) [(b33,true,C [.slice (some ⟨b7,0,none⟩) 252 256] tSB),(b7,true,C (vbc d) tDa)]):=by
 have h:=Ao3 (q:= .own b33 [Ls b7 d 0 252 256 tDa (by omega)] 1 [] ⟨by simp,A5q _,by simp⟩)
 have e:=W4 (b:=b33) (s:=Ls b7 d 0 252 256 tDa (by omega)) (L:=[])
 rw [J7 (by omega),Mb] at e
 have e2:(Sl.own b33 [Ls b7 d 0 252 256 tDa (by omega)] 1 [] ⟨by simp,A5q _,by simp⟩:Sl (Sl By)).list=[Ls b7 d 0 252 256 tDa (by omega)]:=rfl
 rw [e2,← e] at h
 exact h
theorem Asb (n:Nat):IntKind.u8.wrap (n:Int)=((BitVec.ofNat 8 n).toNat:Int):=by
 rw [Em .u8 rfl,A14];rfl
theorem Amm (n:Nat):IntKind.u64.wrap (n:Int)=((BitVec.ofNat 64 n).toNat:Int):=by
 rw [Em .u64 rfl,A14];rfl
theorem Asc {n:Nat} {p:Vector By n}:cut (vbc p) 0 (n*1)=some (cells p.toList):=by
 rw [A5r,Mi];exact Ax
theorem N5 {kind:By} {q:Sl (Sl By)} (hl:(Bb q.list).length≤70000000000000):Does Tryz.prog 145 [bv kind,q.val] (q.hp tSB++(Dg q.list++[]))
  (Is (.tuple #[.agg (vbc (Cy kind (Bb q.list)).1).toArray,.int .i64 (Cy kind (Bb q.list)).2]) (q.hp tSB++(Dg q.list++[]))):=by
 refine zF 48 Tryz.func145 ?_
 refine zC ?_
 refine Aj rfl (fun b4=> ?_)
 rw [Cj]
 refine zC ?_
 refine zE rfl (Adl hl) ?_
 rintro _ _ ⟨s9,rfl,rfl,hs9,ho9⟩
 refine zW ?_
 refine Ae rfl (fun c20=> ?_) (fun c20=> ?_)
 ·skip
  have hres:Cy kind (Bb q.list)=(Km,1):=(by unfold Cy;rw [if_pos (by unfold C1;rw [← hs9];exact c20)])
  refine zA ?_
  refine Ah (Am rfl mM (by first | exact Ax | rfl)) rfl ?_
  first | refine Ac rfl rfl uD (Cg) (Ai) (Bo (by first | exact Ai | exact A1y ..)) ?_ | refine Ac rfl rfl uD rfl rfl rfl ?_
  refine zC ?_
  refine Ak (Cu Tryz.results145 (Bc rfl mM (by first | exact Ax | rfl)) (Af rfl)) ?_ sP
  rw [← hs9];first | rw [hs9,hres] | (rw [← hb,hres])
 ·skip
  have hres:Cy kind (Bb q.list)=(Cp kind (Bb q.list),0):=(by unfold Cy;rw [if_neg (by unfold C1;rw [← hs9,c20];exact A2r)])
  have hlen:s9.list.length≤240:=(by simp at c20;omega)
  obtain ⟨body,hb⟩:∃ body,body=s9.list:=⟨_,rfl⟩
  rw [← hb] at hlen
  rw [← hs9,← hb] at hres
  refine zC ?_
  refine Aj rfl (fun b7=> ?_)
  rw [Vi]
  iterate 7 refine sb ?_
  refine Ah (show Rd _ _ _ _ (bv (BitVec.ofNat 8 s9.list.length)) from by (unfold bv;rw [← Asb];exact D9 rfl)) rfl ?_
  refine Ah (Fi rfl rfl (by omega)) rfl ?_
  first | refine Ac (cs':=vbc (zeroD.set 0 kind)) rfl rfl uD rfl rfl (Il (by omega) kind) ?_ | refine Ac (cs':=vbc ((zeroD.set 0 kind).set 1 (BitVec.ofNat 8 s9.list.length))) rfl rfl uD rfl rfl (Il (by omega) _) ?_
  refine Ah (Fi rfl rfl (by omega)) rfl ?_
  first | refine Ac (cs':=vbc (zeroD.set 0 kind)) rfl rfl uD rfl rfl (Il (by omega) kind) ?_ | refine Ac (cs':=vbc ((zeroD.set 0 kind).set 1 (BitVec.ofNat 8 s9.list.length))) rfl rfl uD rfl rfl (Il (by omega) _) ?_
  refine zC ?_
  refine Ah (C0 (i:=2) (j:=256) rfl ⟨_,rfl⟩ rfl (by omega)) rfl ?_
  refine zC ?_
  refine Hg (cs':=vbc (Ajj kind body)) rfl rfl (Lb pL) (by rw [← hb];omega) uD (by rw [← hb];exact Ta (by omega)) (Gv _) rfl ?_
  refine zC ?_
  refine A0 [(6,[(0,false),(1,false),(2,true),(3,true),(4,false),(5,true)]),(7,[(6,true)])] (by kernel_rfl) ?_
  refine zC ?_
  refine Aq (C0 (i:=252) (j:=256) rfl ⟨_,rfl⟩ rfl (by omega)) ?_
  refine Aq (C0 (i:=0) (j:=252) rfl rfl ⟨_,rfl⟩ (by omega)) ?_
  refine zC ?_
  refine Ao rfl rfl rfl rfl (fun b33=> ?_)
  refine zC ?_
  refine zI rfl (Asa) ?_
  refine zA ?_
  refine Aq (Akx rfl) ?_
  refine zC ?_
  refine zE rfl (Ia) ?_
  rintro _ _ ⟨s36,rfl,rfl,hs36,ho36⟩
  refine zW ?_
  refine Hg (cs':=vbc (Kz kind body)) rfl rfl (Lb pL) (by rw [hs36,A4];decide) uD (by rw [hs36];exact Ta (by rw [A4];decide)) (Gv _) rfl ?_
  refine zC ?_
  refine A0 [(2,[(0,false),(1,false)]),(3,[(2,true)])] (by kernel_rfl) ?_
  refine zC ?_
  refine Aq (C0 (i:=0) (j:=258) rfl rfl rfl (by omega)) ?_
  refine Aq (C0 (i:=0) (j:=256) rfl rfl rfl (by omega)) ?_
  refine zC ?_
  refine Hg (cs':=vbc (Abv Km 0 (Kz kind body).toList)) rfl rfl (Ch (r:=true) mM Asc) (by decide) uD (Ta (by simp)) (Gv _) rfl ?_
  refine zC ?_
  refine A0 [(5,[(0,false),(1,false),(2,true),(3,false),(4,true)]),(6,[(5,true)])] (by kernel_rfl) ?_
  refine zC ?_
  refine Aq (C0 (i:=256) (j:=258) rfl ⟨_,rfl⟩ rfl (by omega)) ?_
  refine Aq (Am rfl mM (by first | exact Ax | rfl)) ?_
  refine zC ?_
  refine zI rfl (Ao8) ?_
  refine zA ?_
  refine Aq (show Rd _ _ _ _ (wv (BitVec.ofNat 64 (Dl (Kz kind body)))) from Gp (Amm _) rfl) ?_
  refine zC ?_
  refine zE rfl (Ia (x:=BitVec.ofNat 64 (Dl (Kz kind body)))) ?_
  rintro _ _ ⟨s45,rfl,rfl,hs45,ho45⟩
  refine zW ?_
  refine Hg (cs':=vbc (Cp kind body)) rfl rfl (Lb pL) (by rw [hs45,A4];decide) uD (by rw [hs45];exact Ta (by rw [A4];decide)) (Gv _) rfl ?_
  refine zA ?_
  refine Ah (Am rfl mM (by first | exact Ax | rfl)) rfl ?_
  first | refine Ac rfl rfl uD (Cg) (Ai) (Bo (by first | exact Ai | exact A1y ..)) ?_ | refine Ac rfl rfl uD rfl rfl rfl ?_
  refine zC ?_
  refine Ak (Cu Tryz.results145 (Bc rfl mM (by first | exact Ax | rfl)) (Af rfl)) ?_ sP
  rw [← hs9];first | rw [hs9,hres] | (rw [← hb,hres])
theorem Aby {b:Nat} {p:Pg}:Does Tryz.prog 102 [.slice (some ⟨b,256,none⟩) 2 2] [(b,true,C (vbc p) tPg)] (fun v H=>∃ r:Rdr,v=ptr r.b∧H=rdH r++([(b,true,C (vbc p) tPg)]++[])∧r.sl.list=(p.toList.drop 256).take 2∧r.bad=false):=by
 have h:=Fk (s:=Ls b p 256 2 2 tPg (by omega)) (T:=tPg) (by rw [He,A3x];omega)
 rw [J7 (by omega),Mb,He] at h
 exact h
theorem Asd {b n:Nat} {d:Dat} (hn:n≤240):Does Tryz.prog 56 [.slice (some ⟨b,2,none⟩) n 254] [(b,true,C (vbc d) tDa)] (fun v H=>∃ s:Sl By,v=s.val∧H=s.hp tU8++([(b,true,C (vbc d) tDa)]++[])∧s.list=(d.toList.drop 2).take n∧s.isOwn=true):=by
 have h:=P5 (s:=Ls b d 2 n 254 tDa (by omega)) (T:=tDa) (by rw [He,A3x];omega)
 rw [J7 (by omega),Mb,He] at h
 exact h
theorem Amn {s t:Sl By} {T U:TypeId}:Does Tryz.prog 146 [s.val,t.val] (s.hp T++(t.hp U++[])) (Is (.bool (decide (s.list=t.list))) (s.hp T++(t.hp U++[]))):=by
 refine zF 10 Tryz.func146 ?_
 refine zA ?_
 refine Ah (Fa (T:=T) rfl (PickL.toSub pL)) rfl ?_
 refine zA ?_
 refine Ah (Fa (T:=U) rfl (PickL.toSub pL)) rfl ?_
 refine Ah (Aci rfl rfl) rfl ?_
 refine zC ?_
 exact zS
theorem Ahd {b c:Nat} {p:Pg} {d:Dat}:Does Tryz.prog 146 [.slice (some ⟨b,0,none⟩) 256 258,.slice (some ⟨c,0,none⟩) 256 256] [(b,true,C (vbc p) tPg),(c,true,C (vbc d) tDa)] (Is (.bool (decide (p.toList.take 256=d.toList))) [(b,true,C (vbc p) tPg),(c,true,C (vbc d) tDa)]):=by
 have h:=Amn (s:=Ls b p 0 256 258 tPg (by omega)) (t:=Ls c d 0 256 256 tDa (by omega)) (T:=tPg) (U:=tDa)
 rw [J7 (by omega),J7 (by omega),Mb,Mb,He,He,A4t,A4t,A1q (l:=d.toList) (by simp)] at h
 exact h
theorem In {b:Nat} {kind:By} {s:Sl By} (hl:s.list.length≤70000000000000):Does Tryz.prog 145 [bv kind,.slice (some ⟨b,0,none⟩) 1 1] ((b,true,C [s.val] tSB)::(s.hp tU8++[]))
  (Is (.tuple #[.agg (vbc (Cy kind s.list).1).toArray,.int .i64 (Cy kind s.list).2]) ((b,true,C [s.val] tSB)::(s.hp tU8++[]))):=by
 have e2:(Sl.own b [s] 1 [] ⟨by simp,A5q _,by simp⟩:Sl (Sl By)).list=[s]:=rfl
 have e3:Bb [s]=s.list:=by simp [Bb]
 have h:=N5 (kind:=kind) (q:= .own b [s] 1 [] ⟨by simp,A5q _,by simp⟩) (by rw [e2,e3];exact hl)
 have e:=W4 (b:=b) (s:=s) (L:=[])
 rw [e2,← e,e3] at h
 exact h
theorem W5 {b:Nat} {kind:By}:Does Tryz.prog 145 [bv kind,.slice (some ⟨b,0,none⟩) 1 1] [(b,true,C [.slice none 0 0] tSB)]
  (Is (.tuple #[.agg (vbc (Cy kind []).1).toArray,.int .i64 (Cy kind []).2]) [(b,true,C [.slice none 0 0] tSB)]):=by
 have h:=In (b:=b) (kind:=kind) (s:= .nil) (by decide)
 rw [Sl.hp_nil] at h
 exact h
theorem Awm {E:Env} {H:Hp} {x lo hi:Operand} {b n:Nat} (hx:ev E x=some (.pointer (some ⟨b,0,none⟩))) (hlo:ev E lo=some (.int .i64 2)) (hhi:ev E hi=some (.int .i64 ((2+n:Nat):Int))) (hn:n≤240) :
  Rd Tryz.prog E H (.slice tDa x (some lo) (some hi) none) (.slice (some ⟨b,2,none⟩) n 254):=by
 have:=C0 (P:=Tryz.prog) (H:=H) (t:=tDa) (i:=2) (j:=2+n) hx (lo:=some lo) (hi:=some hi) ⟨_,hlo⟩ ⟨_,hhi⟩ (by omega)
 rwa [show 2+n - 2=n by omega] at this
theorem Mc {p:Pg}:Does Tryz.prog 101 [.agg (vbc p).toArray] [] (fun v H=>∃ s:Sl By,v= .tuple #[bv (Bz p).1,s.val,.int .i64 (Bz p).2.2.1,.int .i64 (Bz p).2.2.2]∧H=s.hp tU8++[]∧s.list=(Bz p).2.1∧s.isOwn=true):=by
 have hck:=Amk p
 have hfl:=Ar9 (Ie p) (Du p)
 have hpn:=Zh (Du p &&& 57344)
 have hck2:Du p &&& 57344<65536:=Nat.lt_of_le_of_lt A4l hck
 refine zF 71 Tryz.func101 ?_
 refine zC ?_
 refine Do rfl rfl (fun b1=> ?_)
 refine zA ?_
 refine Ah (Am rfl mM (by first | exact Ax | rfl)) rfl ?_
 refine zI rfl (M6) ?_
 refine zC ?_
 refine Ae rfl (fun c14=> ?_) (fun c14=> ?_)
 ·skip
  have hres:=E7 c14
  refine zC ?_
  exact A9 (U3 Tryz.results101 (Af rfl) (Af rfl) (Af rfl) (Af rfl)) (by refine ⟨Sl.nil,?_,rfl,?_,rfl⟩ <;> rw [hres] <;> rfl) (by rw [Sl.hp_nil];exact sP)
 ·skip
  have hb:Be p=false:=c14
  refine zC ?_
  refine Ah (C0 (i:=256) (j:=258) rfl ⟨_,rfl⟩ rfl (by omega)) rfl ?_
  refine zE rfl (Aby) ?_
  rintro _ _ ⟨r16,rfl,rfl,hr16,hbad16⟩
  refine A5 aQ ?_
  refine zE rfl (Fl (n:=2) (by rw [hr16,A3x];omega)) ?_
  rintro _ _ ⟨x17,sl17,bad17,rfl,rfl,hx17,hsl17,hbb17⟩
  refine A5 aQ ?_
  refine Ah (show Rd _ _ _ _ (.int .u16 ((Du p:Nat):Int)) from by (rw [hr16,show A8 2 8=2 from rfl] at hx17;unfold C2 at hx17;rw [if_neg (by rw [A3x,A3w,A2f];decide)] at hx17;rw [Du,← show x17=Ec ((p.toList.drop 256).take 2) 2 from by (rw [hx17];simp only;rw [A1q (l:=(p.toList.drop 256).take 2) (by rw [A3x];omega)])];exact Gp (Ar8 _) rfl)) rfl ?_
  refine zA ?_
  refine Ah (show Rd _ _ _ _ (.int .u16 ((Du p &&& 57344:Nat):Int)) from by (rw [← Aml hck];exact An rfl rfl rfl)) rfl ?_
  refine zI rfl (Yd hck2) ?_
  refine zC ?_
  refine Ae rfl (fun c23=> ?_) (fun c23=> ?_)
  ·simp only [A3j,A1k] at c23
   have hres:=Si hb (by omega)
   refine zC ?_
   exact A9 (U3 Tryz.results101 (Af rfl) (Af rfl) (Af rfl) (Af rfl)) (by refine ⟨Sl.nil,?_,rfl,?_,rfl⟩ <;> rw [hres] <;> rfl) (by rw [Sl.hp_nil];exact sP)
  ·simp only [A3j,A1k] at c23
   have hab:¬ 1<G1 (Du p &&& 57344):=(by omega)
   obtain ⟨f,hf⟩:∃ f,C3 (Ie p) (Du p)=f:=⟨_,rfl⟩
   rw [hf] at hfl
   refine zC ?_
   refine Ah (C0 (i:=0) (j:=256) rfl rfl ⟨_,rfl⟩ (by omega)) rfl ?_
   refine Ah (Aw4 rfl (by decide)) rfl ?_
   refine Ah (Am rfl mM (Ar7 p)) rfl ?_
   refine zC ?_
   refine zI rfl ((Axu (d:=Ie p) hck).to (by rw [hf]) rfl) ?_
   refine zC ?_
   refine Aj rfl (fun b8=> ?_)
   first | refine Ac rfl rfl uD (Cg) (Ai) (Bo (by first | exact Ai | exact A1y ..)) ?_ | refine Ac rfl rfl uD rfl rfl rfl ?_
   refine zC ?_
   refine Ae rfl (fun c34=> ?_) (fun c34=> ?_)
   ·skip
    have hres:=Ajl hb hab (by rw [hf];simpa using c34)
    rw [hf] at hres
    refine zC ?_
    exact A9 (U3 Tryz.results101 (Af rfl) (Af rfl) (Af rfl) (Af rfl)) (by refine ⟨Sl.nil,?_,rfl,?_,rfl⟩ <;> rw [hres] <;> rfl) (by rw [Sl.hp_nil];exact sP)
   ·skip
    have he:f.2.2=0:=(by simpa using c34)
    have hd1:=f.1[1].isLt
    iterate 5 refine sb ?_
    refine Ah (Al rfl mM (show nth (vbc f.1) 1=some (bv f.1[1]) from Fv (by decide))) rfl ?_
    refine Ah (show Rd _ _ _ _ (.int .i64 ((f.1[1].toNat:Nat):Int)) from Eu rfl (Aac (by omega))) rfl ?_
    refine zC ?_
    refine Ae rfl (fun c40=> ?_) (fun c40=> ?_)
    ·simp only [A3j,A1k] at c40
     have hbody:G2 f.1=(f.1.toList.drop 2).take f.1[1].toNat:=(by unfold G2;rw [if_pos (by omega)])
     refine zA ?_
     refine Ah (show Rd _ _ _ _ (.int .i64 ((2+f.1[1].toNat:Nat):Int)) from To (a:=2) rfl rfl (by omega)) rfl ?_
     refine Ah (Awm rfl rfl rfl (by omega)) rfl ?_
     refine zE rfl (Asd (n:=f.1[1].toNat) (by omega)) ?_
     rintro _ _ ⟨s44,rfl,rfl,hs44,ho44⟩
     refine A5 aQ ?_
     iterate 6 refine sb ?_
     refine Ah (Al rfl mM (show nth (vbc f.1) 0=some (bv f.1[0]) from Fv (by decide))) rfl ?_
     refine zC ?_
     refine Ao rfl rfl rfl rfl (fun b49=> ?_)
     refine zI rfl ((by first | exact In (s:=s44) (by rw [hs44,A3x];omega) | exact W5)) ?_
     refine zC ?_
     refine Aj rfl (fun b12=> ?_)
     first | refine Ac rfl rfl uD (Cg) (Ai) (Bo (by first | exact Ai | exact A1y ..)) ?_ | refine Ac rfl rfl uD rfl rfl rfl ?_
     refine zC ?_
     refine A0 [(6,[(0,false),(1,false),(2,false),(3,false),(4,false),(5,false)]),(12,[(6,false),(7,false),(8,false),(9,true),(10,false),(11,false)])] (by kernel_rfl) ?_
     iterate 4 refine sb ?_
     refine sg ?_
     iterate 3 refine sa ?_
     refine' Uy rfl rfl inferInstance rfl rfl rfl rfl rfl (fun hg59=> ?_) ?_
     rotate_left
     ·try (simp at hg59;show _)
      refine zC ?_
      refine Aq (C0 (i:=0) (j:=256) rfl rfl ⟨_,rfl⟩ (by omega)) ?_
      refine zC ?_
      refine Aq (C0 (i:=0) (j:=256) rfl rfl rfl (by omega)) ?_
      refine zC ?_
      refine zI rfl (Ahd) ?_
      refine zA ?_
      refine Aq (D6 rfl) ?_
      exact Hu rfl sP
     refine zC ?_
     refine Ae rfl (fun c64=> ?_) (fun c64=> ?_)
     ·skip
      refine zC ?_
      exact A9 (U3 Tryz.results101 (Af rfl) (Af rfl) (Af rfl) (Af rfl)) (by have h4:=Ay1 c64;rw [hs44,← hbody] at h4;have hres:=W3 hf hb hab he (by rcases h4 with h | h | h;exact .inl h;exact .inr (.inl (by omega));exact .inr (.inr h));refine ⟨Sl.nil,?_,rfl,?_,rfl⟩ <;> rw [hres] <;> rfl) (by rw [Sl.hp_nil];exact sP)
     ·skip
      iterate 5 refine sb ?_
      refine Ah (Al rfl mM (show nth (vbc f.1) 0=some (bv f.1[0]) from Fv (by decide))) rfl ?_
      refine zC ?_
      exact zL (hR:=by have h4:=Avx c64;rw [hs44,← hbody] at h4;have hres:=Abw hf hb hab he (by rintro (h | h | h);exact h h4.1;exact h4.2.1 (by omega);exact h h4.2.2);refine ⟨s44,?_,rfl,?_,ho44⟩ <;> rw [hres];rw [hs44,hbody])
    ·simp only [A3j,A1k] at c40
     have hbody:G2 f.1=[]:=(by unfold G2;rw [if_neg (by omega)])
     iterate 5 refine sb ?_
     refine Ah (Al rfl mM (show nth (vbc f.1) 0=some (bv f.1[0]) from Fv (by decide))) rfl ?_
     refine zC ?_
     refine Ao rfl rfl rfl rfl (fun b49=> ?_)
     refine zI rfl ((by first | exact In (s:=s44) (by rw [hs44,A3x];omega) | exact W5)) ?_
     refine zC ?_
     refine Aj rfl (fun b12=> ?_)
     first | refine Ac rfl rfl uD (Cg) (Ai) (Bo (by first | exact Ai | exact A1y ..)) ?_ | refine Ac rfl rfl uD rfl rfl rfl ?_
     refine zC ?_
     refine A0 [(6,[(0,false),(1,false),(2,false),(3,false),(4,false),(5,false)]),(12,[(6,false),(7,false),(8,false),(9,true),(10,false),(11,false)])] (by kernel_rfl) ?_
     iterate 4 refine sb ?_
     refine sg ?_
     iterate 3 refine sa ?_
     refine' Uy rfl rfl inferInstance rfl rfl rfl rfl rfl (fun hg59=> ?_) ?_
     rotate_left
     ·try (simp at hg59;show _)
      refine zC ?_
      refine Aq (C0 (i:=0) (j:=256) rfl rfl ⟨_,rfl⟩ (by omega)) ?_
      refine zC ?_
      refine Aq (C0 (i:=0) (j:=256) rfl rfl rfl (by omega)) ?_
      refine zC ?_
      refine zI rfl (Ahd) ?_
      refine zA ?_
      refine Aq (D6 rfl) ?_
      exact Hu rfl sP
     refine zC ?_
     refine Ae rfl (fun c64=> ?_) (fun c64=> ?_)
     ·skip
      refine zC ?_
      exact A9 (U3 Tryz.results101 (Af rfl) (Af rfl) (Af rfl) (Af rfl)) (by have hres:=W3 hf hb hab he (.inr (.inl (by omega)));refine ⟨Sl.nil,?_,rfl,?_,rfl⟩ <;> rw [hres] <;> rfl) (by rw [Sl.hp_nil];exact sP)
     ·skip
      iterate 5 refine sb ?_
      refine Ah (Al rfl mM (show nth (vbc f.1) 0=some (bv f.1[0]) from Fv (by decide))) rfl ?_
      refine zC ?_
      exact zL (hR:=by exfalso;have h4:=Avx c64;exact h4.2.1 (by omega))
end
section
open Go.K
instance agg225:Agg Tryz.prog 225 true:=⟨⟨_,Tryz.underlying225,rfl⟩⟩
instance siz225:Siz Tryz.prog 225 2:=⟨by kernel_rfl⟩
instance zer3:Zer Tryz.prog 3 ([.int .i64 0]):=⟨by kernel_rfl⟩
instance zer29:Zer Tryz.prog 29 ([.int .u64 0]):=⟨by kernel_rfl⟩
instance zer225:Zer Tryz.prog 225 ([.slice none 0 0,.slice none 0 0]):=⟨by kernel_rfl⟩
instance fld225_0:Fld Tryz.prog 225 0 0:=⟨⟨_,_,0,Tryz.underlying225,rfl,by kernel_rfl,rfl⟩⟩
instance fld225_1:Fld Tryz.prog 225 1 1:=⟨⟨_,_,0,Tryz.underlying225,rfl,by kernel_rfl,rfl⟩⟩
instance plc225:Plc Tryz.prog 225 [(0,1),(1,1)]:=⟨⟨_,Tryz.underlying225,fun _=>by kernel_rfl⟩⟩
instance byt3:Byt Tryz.prog 3 8:=⟨by kernel_rfl⟩
instance ent72:Ent Tryz.prog 72:=⟨fun _ _=>by kernel_rfl⟩
instance ent88:Ent Tryz.prog 88:=⟨fun _ _=>by kernel_rfl⟩
instance ent133:Ent Tryz.prog 133:=⟨fun _ _=>by kernel_rfl⟩
instance ent157:Ent Tryz.prog 157:=⟨fun _ _=>by kernel_rfl⟩
instance ent168:Ent Tryz.prog 168:=⟨fun _ _=>by kernel_rfl⟩
instance ent172:Ent Tryz.prog 172:=⟨fun _ _=>by kernel_rfl⟩
instance ent178:Ent Tryz.prog 178:=⟨fun _ _=>by kernel_rfl⟩
instance ent215:Ent Tryz.prog 215:=⟨fun _ _=>by kernel_rfl⟩
instance ent244:Ent Tryz.prog 244:=⟨fun _ _=>by kernel_rfl⟩
abbrev tPl:TypeId:=225
abbrev tTb:TypeId:=227
theorem Agy {c:Chip}:Does Tryz.prog 168 [ptr c.aC] (chH c) (Is (.int .i64 (B9 c 0 0)) (chH c)):=by
 refine zF 11 Tryz.func168 ?_
 refine zC ?_
 refine zI rfl (Z5) ?_
 refine zC ?_
 refine Aj rfl (fun b3=> ?_)
 first | refine Ac rfl rfl uD (Cg) (Ai) (Bo (by first | exact Ai | exact A1y ..)) ?_ | refine Ac rfl rfl uD rfl rfl rfl ?_
 refine zC ?_
 exact zS
theorem Ax9 {x:Int}:Does Tryz.prog 215 [.int .i64 x] [] (Is (.bool false) []):=by
 refine zF 6 Tryz.func215 ?_
 refine zC ?_
 refine Ak (Aw Tryz.results215 (Af rfl)) ?_ sP
 simp
theorem Au2 {x y:Int}:Does Tryz.prog 178 [.int .i64 x,.int .i64 y] [] (Is (.bool (decide (x<y))) []):=by
 refine zF 17 Tryz.func178 ?_
 refine zC ?_
 refine zI rfl (Ax9) ?_
 refine sa ?_
 refine' H9 (u:=false) rfl rfl inferInstance rfl rfl rfl rfl rfl (fun hg7=>absurd hg7 (by simp)) ?_
 refine zC ?_
 refine Ak (Aw Tryz.results178 (Af rfl)) ?_ sP
 simp
theorem Tu {α:Type} [Cel α] {s:Sl α} (h:s.isOwn=true):s.off=0:=by cases s <;> first | rfl | simp [Sl.isOwn] at h
theorem Alq {l:List Int} {i j:Nat} {a b:Int} (hi:l[i]? =some a) (hj:l[j]? =some b):((l.set i b).set j a).Perm l:=by
 obtain ⟨h1,rfl⟩:=A08.1 hi
 obtain ⟨h2,rfl⟩:=A08.1 hj
 exact List.set_set_perm h1 h2
theorem Aaw {s:Sl Int} (ho:s.isOwn=true):Does Tryz.prog 172 [s.val,.int .i64 0,.int .i64 s.list.length] (s.hp tI++[]) (fun v H=>v= .tuple #[]∧∃ s':Sl Int,H=s'.hp tI++[]∧s'.val=s.val∧s'.isOwn=true∧s'.list.Perm s.list):=by
 have hsm:=s.small
 refine zF 49 Tryz.func172 ?_
 refine zC ?_
 refine At [0,1,2] kQ (fun (st:Int×Sl Int)=>[(6,.int .i64 st.1)]) (fun st=>(st.2.hp tI++[])) (fun st=>1≤st.1∧st.2.val=s.val∧st.2.isOwn=true∧st.2.list.Perm s.list) (fun st=>((s.list.length:Int) - st.1).toNat) ((0+1,s)) ⟨by show (1:Int)≤0+1;omega,rfl,ho,List.Perm.refl _⟩ kP sP ?_
 rintro ⟨i,s1⟩ ⟨h0,h1,h2,h3⟩
 simp only at h0 h1 h2 h3
 refine zC ?_
 refine Ae rfl (fun c12=> ?_) (fun c12=> ?_)
 ·simp only [A3j,A1k] at c12
  refine zC ?_
  refine At [0,1,2,6] kQ (fun (st:Int×Sl Int)=>[(7,.int .i64 st.1)]) (fun st=>(st.2.hp tI++[])) (fun st=>0≤st.1∧st.1≤i∧st.2.val=s.val∧st.2.isOwn=true∧st.2.list.Perm s.list) (fun st=>st.1.toNat) ((i,s1)) ⟨by omega,A5p _,h1,h2,h3⟩ kP sP ?_
  rintro ⟨j,s2⟩ ⟨k0,k1,k2,k3,k4⟩
  simp only at k0 k1 k2 k3 k4
  have hlen:s2.list.length=s.list.length:=k4.length_eq
  have hoff:=Tu k3
  refine zC ?_
  refine A0 [(3,[(0,false),(1,false),(2,false)]),(15,[(3,false),(4,false),(5,false),(6,false),(7,false),(8,false),(9,false),(10,false),(11,false),(12,false),(13,true),(14,false)])] (by kernel_rfl) ?_
  iterate 7 refine sb ?_
  refine' Jz rfl rfl inferInstance rfl rfl rfl rfl rfl (fun hg19=> ?_) ?_
  rotate_left
  ·try (simp at hg19;show _)
   refine zA ?_
   refine Aq (A7 (s:=s2) (by rw [k2];rfl) rfl ⟨k0,by omega⟩) ?_
   refine zA ?_
   refine Aq (Co (s:=s2) (o:=0) rfl pL (Ih k0 (by omega)) rfl rfl) ?_
   refine zA ?_
   refine Aq (F0 rfl rfl (by omega)) ?_
   refine zA ?_
   refine Aq (A7 (s:=s2) (by rw [k2];rfl) rfl ⟨by omega,by omega⟩) ?_
   refine zA ?_
   refine Aq (Co (s:=s2) (o:=0) rfl pL (Ih (i:=j - 1) (by omega) (by omega)) rfl rfl) ?_
   refine zC ?_
   refine zI rfl (Au2) ?_
   refine zC ?_
   exact Hu rfl sP
  refine zC ?_
  refine Ae rfl (fun c30=> ?_) (fun c30=> ?_)
  ·skip
   have hj:0<j:=(by simp at c30;exact c30.1)
   have ga:=Ih (xs:=s2.list) k0 (by omega)
   have gb:=Ih (xs:=s2.list) (i:=j - 1) (by omega) (by omega)
   obtain ⟨s3,hs3⟩:∃ s3,s3=s2.set j.toNat (at0 s2.list (j - 1)):=⟨_,rfl⟩
   have q1:s3.val=s.val:=(by rw [hs3,Sl.set_val,k2])
   have q2:s3.list=s2.list.set j.toNat (at0 s2.list (j - 1)):=(by rw [hs3,Sl.set_list _ _ _ k3])
   have q3:s3.isOwn=true:=(by rw [hs3];exact Sl.set_isOwn _ _ _ k3)
   have q4:s3.list[(j - 1).toNat]? =some (at0 s2.list (j - 1)):=(by rw [q2,A16 (by omega)];exact gb)
   refine zC ?_
   refine Mn [0,1,2,3,4,5,6,7,8,10,11,12] [[(9,false),(13,false)],[(14,false)],[(15,true)],[(16,false)],[(17,true)]] (by kernel_rfl) ?_
   refine zA ?_
   refine Aq (F0 rfl rfl (by omega)) ?_
   refine zA ?_
   refine Aq (F0 rfl rfl (by omega)) ?_
   refine Aq (A7 (s:=s2) (by rw [k2];rfl) rfl ⟨by omega,by omega⟩) ?_
   refine zA ?_
   refine Aq (A7 (s:=s2) (by rw [k2];rfl) rfl ⟨by omega,by omega⟩) ?_
   refine zA ?_
   refine Aq (Co (s:=s2) (o:=0) rfl pL gb rfl rfl) ?_
   refine Aq (Co (s:=s2) (o:=0) rfl pL ga rfl rfl) ?_
   refine zA ?_
   refine Aq (A7 (s:=s2) (by rw [k2];rfl) rfl ⟨by omega,by omega⟩) ?_
   refine zA ?_
   first | (refine Kc (s:=s2) (o:=0) (z':=at0 s2.list (j - 1)) rfl rfl uL k3 ga rfl rfl rfl (by rw [hoff];exact A5k _) ?_;rw [← hs3]) | refine Kc (s:=s3) (o:=0) (z':=at0 s2.list j) rfl rfl uL q3 q4 rfl rfl rfl (by rw [Tu q3];exact A5k _) ?_
   refine zA ?_
   refine Aq (A7 (s:=s3) (by rw [q1];rfl) rfl ⟨by omega,by rw [q2,A4d];omega⟩) ?_
   refine zA ?_
   first | (refine Kc (s:=s2) (o:=0) (z':=at0 s2.list (j - 1)) rfl rfl uL k3 ga rfl rfl rfl (by rw [hoff];exact A5k _) ?_;rw [← hs3]) | refine Kc (s:=s3) (o:=0) (z':=at0 s2.list j) rfl rfl uL q3 q4 rfl rfl rfl (by rw [Tu q3];exact A5k _) ?_
   refine zC ?_
   exact ⟨(j - 1,s3.set (j - 1).toNat (at0 s2.list j)),⟨by simp only;omega,by simp only;omega,by rw [Sl.set_val,q1],Sl.set_isOwn _ _ _ q3,by simp only;rw [Sl.set_list _ _ _ q3,q2];exact (Alq ga gb).trans k4⟩,(by simp only;omega),lZ⟩
  ·skip
   refine zC ?_
   exact ⟨(i+1,s2),⟨by simp only;omega,k2,k3,k4⟩,(by simp only;omega),lZ⟩
 ·simp only [A3j,A1k] at c12
  refine zC ?_
  exact zLN (hR:=by exact ⟨rfl,s1,rfl,h1,h2,h3⟩)
theorem Aya {s:Sl Int} {x:Int} (ho:s.isOwn=true) (hn:s.list.length≤12):Does Tryz.prog 133 [s.val,.int .i64 0,.int .i64 s.list.length,.int .i64 x] (s.hp tI++[]) (fun v H=>v= .tuple #[]∧∃ s':Sl Int,H=s'.hp tI++[]∧s'.val=s.val∧s'.isOwn=true∧s'.list.Perm s.list):=by
 refine zF 134 Tryz.func133 ?_
 refine zC ?_
 refine Dy [0,1,2,3] kQ (fun (_u:Unit)=>[]) (fun _u=>True) (fun _u=>0) (()) (by first | trivial | omega | simp) kP ?_
 rintro _ _
 refine zC ?_
 refine Ae rfl (fun c23=> ?_) (fun c23=> ?_)
 ·simp only [A3j,A1k] at c23
  refine zC ?_
  refine zE rfl (Aaw ho) ?_
  rintro _ _ ⟨rfl,s27,rfl,hv27,ho27,hp27⟩
  refine zW ?_
  exact zL (hR:=by exact ⟨rfl,s27,rfl,hv27,ho27,hp27⟩)
 ·simp only [A3j,A1k] at c23
  omega
theorem Au3 {s:Sl Int} (ho:s.isOwn=true) (hn:s.list.length≤12):Does Tryz.prog 88 [s.val] (s.hp tI++[]) (fun v H=>v= .tuple #[]∧∃ s':Sl Int,H=s'.hp tI++[]∧s'.val=s.val∧s'.isOwn=true∧s'.list.Perm s.list):=by
 refine zF 11 Tryz.func88 ?_
 iterate 11 refine sb ?_
 refine Ah (Eu rfl (Ey .u64 rfl (by show _<2 ^ 64;omega))) rfl ?_
 refine zI rfl (Ao5 (n:=s.list.length) (by omega)) ?_
 refine zE rfl (Aya ho hn) ?_
 rintro _ _ ⟨rfl,s10,rfl,hv10,ho10,hp10⟩
 refine zW ?_
 exact zLN (hR:=by exact ⟨rfl,s10,rfl,hv10,ho10,hp10⟩)
theorem Ry {s:Sl Int} {T:TypeId} (hs:s.list.length≤1000):Does Tryz.prog 72 [s.val] (s.hp T++[]) (fun v H=>∃ s':Sl Int,v=s'.val∧H=(s'.hp tI++(s.hp T++[]))∧s'.list=s.list∧s'.isOwn=true):=by
 refine zF 8 Tryz.func72 ?_
 refine zA ?_
 refine Ah (Xr rfl rfl) rfl ?_
 refine zC ?_
 refine Ae rfl (fun c4=> ?_) (fun c4=> ?_)
 ·skip
  have hn:=Sl.nil_of s c4
  subst hn
  refine zC ?_
  exact A9 (Aw Tryz.results72 (Af rfl)) (by refine ⟨Sl.nil,rfl,rfl,rfl,rfl⟩) (by simp only [Sl.hp_nil,A4h];exact Split.nil)
 ·skip
  refine zC ?_
  refine Ao rfl rfl rfl rfl (fun b5=> ?_)
  refine Pb (Ao1 (α:=Int) (b:=b5) (T:=tI)) ?_
  refine zC ?_
  refine Az (s:=mt Int b5) (new:=s.list) (m:=s.list.length) rfl rfl pL rfl (Lb pL) rfl rfl rfl rfl (by rw [show (mt Int b5).list.length=0 from rfl];omega) rfl (fun s' hs1 hs2=> ?_)
  refine zC ?_
  exact zL (hR:=by exact ⟨s',rfl,rfl,by rw [hs1];rfl,hs2⟩)
theorem Alr {u l:Sl Int} (hu:u.list.length≤1000) (hl:l.list.length≤1000):Does Tryz.prog 244 [.agg #[u.val,l.val]] (u.hp tI++(l.hp tI++[])) (fun v H=>∃ u' l':Sl Int,v= .agg #[u'.val,l'.val]∧H=u'.hp tI++(l'.hp tI++(u.hp tI++(l.hp tI++[])))∧u'.list=u.list∧l'.list=l.list∧u'.isOwn=true∧l'.isOwn=true):=by
 refine zF 10 Tryz.func244 ?_
 refine zC ?_
 refine Dj rfl rfl (fun b1=> ?_)
 refine Aj rfl (fun b2=> ?_)
 refine zC ?_
 refine A0 [(5,[(0,false),(1,false),(3,false),(4,false),(2,true)]),(6,[(5,true)]),(7,[(6,false)]),(8,[(7,true)])] (by kernel_rfl) ?_
 refine zC ?_
 refine zE rfl (Ry hu) ?_
 rintro _ _ ⟨s5,rfl,rfl,hs5,ho5⟩
 refine zW ?_
 refine zE rfl (Ry hl) ?_
 rintro _ _ ⟨s8,rfl,rfl,hs8,ho8⟩
 refine A5 aQ ?_
 refine zA ?_
 refine Aq (Bl rfl rfl) ?_
 refine zC ?_
 exact zL (hR:=by exact ⟨s5,s8,rfl,rfl,hs5,hs8,ho5,ho8⟩)
theorem Aef (i:Int):IntKind.u8.wrap i=((Fe i).toNat:Int):=Em .u8 rfl i
theorem Kw (i:Int):IntKind.u64.wrap i=((BitVec.ofInt 64 i).toNat:Int):=Em .u64 rfl i
theorem Agz {b:Nat} {kind:By} {s1 s2 s3 s4:Sl By} (hl:s1.list.length+s2.list.length+s3.list.length+s4.list.length≤70000000000000):Does Tryz.prog 145 [bv kind,.slice (some ⟨b,0,none⟩) 4 4] ((b,true,C [s1.val,s2.val,s3.val,s4.val] tSB)::(s1.hp tU8++(s2.hp tU8++(s3.hp tU8++(s4.hp tU8++[])))))
  (Is (.tuple #[.agg (vbc (Cy kind (s1.list++(s2.list++(s3.list++(s4.list++[]))))).1).toArray,.int .i64 (Cy kind (s1.list++(s2.list++(s3.list++(s4.list++[]))))).2]) ((b,true,C [s1.val,s2.val,s3.val,s4.val] tSB)::(s1.hp tU8++(s2.hp tU8++(s3.hp tU8++(s4.hp tU8++[])))))):=by
 have e2:(Sl.own b [s1,s2,s3,s4] 4 [] ⟨by simp,A5q _,by simp⟩:Sl (Sl By)).list=[s1,s2,s3,s4]:=rfl
 have e3:Bb [s1,s2,s3,s4]=s1.list++(s2.list++(s3.list++(s4.list++[]))):=by simp [Bb]
 have h:=N5 (kind:=kind) (q:= .own b [s1,s2,s3,s4] 4 [] ⟨by simp,A5q _,by simp⟩) (by rw [e2,e3];simp only [A2x,A4c];omega)
 rw [e2,e3] at h
 have e:(Sl.own b [s1,s2,s3,s4] 4 [] ⟨by simp,A5q _,by simp⟩:Sl (Sl By)).hp tSB++(Dg [s1,s2,s3,s4]++[])=((b,true,C [s1.val,s2.val,s3.val,s4.val] tSB)::(s1.hp tU8++(s2.hp tU8++(s3.hp tU8++(s4.hp tU8++[]))))):=by
  rw [Sl.hp_own,Cv,Cv,Cv,Cv,Hl]
  simp only [A25,A4h,A37]
  rfl
 rw [e] at h
 exact h
theorem map_take {α β:Type} {f:α→β} {xs:List α} {i:Nat} {x:α} (h:xs[i]? =some x):(xs.take (i+1)).map f=(xs.take i).map f++[f x]:=by
 rw [A3g,h];simp
theorem Aqt {b:Nat} {x y z:Wd}:Does Tryz.prog 196 [.int .i64 1,.slice (some ⟨b,0,none⟩) 3 3] [(b,true,C [wv x,wv y,wv z] Ao0)] (fun v H=>∃ s:Sl By,v=s.val∧H=(s.hp tU8++[(b,true,C [wv x,wv y,wv z] Ao0)])∧s.list=L3 1 [x,y,z]∧s.isOwn=true):=by
 have h:=Aty (n:=1) (xs:=(Sl.own b [x,y,z] 3 [] ⟨by simp,A5q _,by simp⟩:Sl Wd)) (T:=Ao0) (by show 3≤1000000;decide)
 have e:(Sl.own b [x,y,z] 3 [] ⟨by simp,A5q _,by simp⟩:Sl Wd).hp Ao0++[]=[(b,true,C [wv x,wv y,wv z] Ao0)]:=by rw [Sl.hp_own];rfl
 rw [e] at h
 exact h
theorem Aax {u l:Sl Int} {v:Wd} {n:Int} (hu:u.list.length≤1000) (hl:l.list.length≤1000):Does Tryz.prog 157 [.agg #[u.val,l.val],wv v,.int .i64 n] (u.hp tI++(l.hp tI++[]))
  (Is (.agg (vbc (Ed v n u.list l.list)).toArray) (u.hp tI++(l.hp tI++[]))):=by
 refine zF 63 Tryz.func157 ?_
 refine zC ?_
 refine Dj rfl rfl (fun b3=> ?_)
 refine Aj rfl (fun b6=> ?_)
 rw [Cj]
 refine zC ?_
 refine Ao rfl rfl rfl rfl (fun b15=> ?_)
 refine Pb (Ao1 (α:=By) (b:=b15) (T:=tU8)) ?_
 refine Ao rfl rfl rfl rfl (fun b16=> ?_)
 refine Pb (Ao1 (α:=By) (b:=b16) (T:=tU8)) ?_
 refine zC ?_
 refine At [1,2,3,6,8,18,19] kQ (fun (st:Nat×Sl By)=>[(20,.int .i64 st.1),(7,st.2.val)]) (fun st=>(b3,true,C [u.val,l.val] tPl)::(b6,true,C (vbc Km) tPg)::(st.2.hp tU8++((mt By b16).hp tU8++(u.hp tI++(l.hp tI++[]))))) (fun st=>st.1≤u.list.length∧st.2.list=(u.list.take st.1).map Fe∧st.2.isOwn=true) (fun st=>u.list.length - st.1) ((0,mt By b15)) ⟨A5s _,rfl,rfl⟩ kP sP ?_
 rintro ⟨i,s⟩ ⟨h0,h1,h2⟩
 simp only at h0 h1 h2
 have hsl:s.list.length=i:=by rw [h1,A4b,A3x];omega
 refine zC ?_
 refine Ae rfl (fun c21=> ?_) (fun c21=> ?_)
 ·simp only [A3j,A1k] at c21
  obtain ⟨x,hg⟩:∃ x,u.list[i]? =some x:=⟨_,A1d (by omega)⟩
  refine zA ?_
  refine Ah (A7 rfl rfl (by omega)) rfl ?_
  refine Ah (Co (o:=0) rfl pL hg rfl rfl) rfl ?_
  refine zA ?_
  refine Ah (show Rd _ _ _ _ (bv (Fe x)) from Gp (Aef x) rfl) rfl ?_
  refine Ao rfl rfl rfl rfl (fun b27=> ?_)
  refine Az (s:=s) (new:=[Fe x]) (m:=1) rfl rfl pL h2 (Ch (r:=true) mM rfl) rfl rfl rfl rfl (by omega) rfl (fun s' hs1 hs2=> ?_)
  refine zC ?_
  exact ⟨(i+1,s'),⟨by simp only;omega,by rw [hs1,h1,map_take hg],hs2⟩,(by simp only;omega),lZ⟩
 ·simp only [A3j,A1k] at c21
  have hall:s.list=u.list.map Fe:=by rw [h1,A1q (by omega)]
  refine zC ?_
  refine At [1,2,3,6,7,31,32] kQ (fun (st:Nat×Sl By)=>[(33,.int .i64 st.1),(8,st.2.val)]) (fun st=>(b3,true,C [u.val,l.val] tPl)::(b6,true,C (vbc Km) tPg)::(st.2.hp tU8++(s.hp tU8++(u.hp tI++(l.hp tI++[]))))) (fun st=>st.1≤l.list.length∧st.2.list=(l.list.take st.1).map Fe∧st.2.isOwn=true) (fun st=>l.list.length - st.1) ((0,mt By b16)) ⟨A5s _,rfl,rfl⟩ kP sP ?_
  rintro ⟨j,q⟩ ⟨k0,k1,k2⟩
  simp only at k0 k1 k2
  have hql:q.list.length=j:=by rw [k1,A4b,A3x];omega
  refine zC ?_
  refine Ae rfl (fun c34=> ?_) (fun c34=> ?_)
  ·simp only [A3j,A1k] at c34
   obtain ⟨x,hg⟩:∃ x,l.list[j]? =some x:=⟨_,A1d (by omega)⟩
   refine zA ?_
   refine Ah (A7 rfl rfl (by omega)) rfl ?_
   refine Ah (Co (o:=0) rfl pL hg rfl rfl) rfl ?_
   refine zA ?_
   refine Ah (show Rd _ _ _ _ (bv (Fe x)) from Gp (Aef x) rfl) rfl ?_
   refine Ao rfl rfl rfl rfl (fun b40=> ?_)
   refine Az (s:=q) (new:=[Fe x]) (m:=1) rfl rfl pL k2 (Ch (r:=true) mM rfl) rfl rfl rfl rfl (by omega) rfl (fun s' hs1 hs2=> ?_)
   refine zC ?_
   exact ⟨(j+1,s'),⟨by simp only;omega,by rw [hs1,k1,map_take hg],hs2⟩,(by simp only;omega),lZ⟩
  ·simp only [A3j,A1k] at c34
   have hall2:q.list=l.list.map Fe:=by rw [k1,A1q (by omega)]
   have hul:s.list.length=u.list.length:=(by rw [hall,A4b])
   have hll:q.list.length=l.list.length:=(by rw [hall2,A4b])
   refine zC ?_
   refine zE rfl (Ia (x:=v)) ?_
   rintro _ _ ⟨s45,rfl,rfl,hs45,ho45⟩
   refine A5 aQ ?_
   refine zA ?_
   refine Ah (show Rd _ _ _ _ (wv (BitVec.ofInt 64 n)) from Gp (Kw n) rfl) rfl ?_
   iterate 2 refine sb ?_
   refine Ah (show Rd _ _ _ _ (wv (BitVec.ofInt 64 (u.list.length:Int))) from by (rw [← hul];exact Gp (Kw _) rfl)) rfl ?_
   iterate 2 refine sb ?_
   refine Ah (show Rd _ _ _ _ (wv (BitVec.ofInt 64 (l.list.length:Int))) from by (rw [← hll];exact Gp (Kw _) rfl)) rfl ?_
   refine Ao rfl rfl rfl rfl (fun b54=> ?_)
   refine zE rfl (Aqt) ?_
   rintro _ _ ⟨s55,rfl,rfl,hs55,ho55⟩
   refine zW ?_
   refine Ao rfl rfl rfl rfl (fun b58=> ?_)
   refine zI rfl ((Agz (kind:=1) (s1:=s45) (s2:=s55) (s3:=s) (s4:=q) (by rw [hs45,hs55,A4,Rn];simp only [A3v,A4c];have:A8 8 8=8:=rfl;omega)).to (by rw [hs45,hs55,hall,hall2]) rfl) ?_
   refine zC ?_
   refine Aj rfl (fun b13=> ?_)
   rw [Cj]
   first | refine Ac rfl rfl uD (Cg) (Ai) (Bo (by first | exact Ai | exact A1y ..)) ?_ | refine Ac rfl rfl uD rfl rfl rfl ?_
   refine zA ?_
   refine Ah (Am rfl mM (by first | exact Ax | rfl)) rfl ?_
   first | refine Ac rfl rfl uD (Cg) (Ai) (Bo (by first | exact Ai | exact A1y ..)) ?_ | refine Ac rfl rfl uD rfl rfl rfl ?_
   refine zC ?_
   refine Ak (Aw Tryz.results157 (Bc rfl mM (by first | exact Ax | rfl))) ?_ sP
   rfl
end
section
open Go.K
instance ent167:Ent Tryz.prog 167:=⟨fun _ _=>by kernel_rfl⟩
theorem Aay (b:By):IntKind.i64.wrap (b.toNat:Int)=Oq b:=Cz (by have:=b.isLt;omega)
theorem R0 (p:Pg):(Bz p).2.1.length≤240:=by
 unfold Bz
 simp only []
 split
 ·simp
 ·split
  ·simp
  ·split
   ·simp
   ·split
    ·simp
    ·simp only [G2]
     split
     ·rw [A3x];omega
     ·simp
theorem Kx {q:Pg} {n:Int}:Does Tryz.prog 167 [.agg (vbc q).toArray,.int .i64 n] [] (fun v H=>∃ u l:Sl Int,v= .tuple #[.agg #[u.val,l.val],wv (Dm q n).2.2.1,.bool (Dm q n).2.2.2]∧H=u.hp tI++(l.hp tI++[])∧u.list=(Dm q n).1∧l.list=(Dm q n).2.1∧u.isOwn=true∧l.isOwn=true):=by
 have hbl:=R0 q
 refine zF 97 Tryz.func167 ?_
 refine zC ?_
 refine Do rfl rfl (fun b2=> ?_)
 refine Aj rfl (fun b4=> ?_)
 refine zA ?_
 refine Ah (Am rfl mM (by first | exact Ax | rfl)) rfl ?_
 refine zE rfl (Mc) ?_
 rintro _ _ ⟨s20,rfl,rfl,hs20,ho20⟩
 refine zW ?_
 refine Ae rfl (fun c30=> ?_) (fun c30=> ?_)
 ·skip
  have hres:Dm q n=([],[],0,false):=(by unfold Dm;simp only [];rw [if_pos (by simp at c30;rcases c30 with h | h;exact .inl h;right;intro e;rw [e] at h;exact h rfl)])
  refine zC ?_
  exact A9 (Pp Tryz.results167 (Bc rfl mM rfl) (Af rfl) (Af rfl)) (by refine ⟨.nil,.nil,?_,rfl,?_,?_,rfl,rfl⟩ <;> rw [hres] <;> rfl) (by simp only [Sl.hp_nil,A4h];exact Split.nil)
 ·skip
  have h0:Dm q n=Ot (Bz q).2.1 n:=(by unfold Dm;simp only [];rw [if_neg (by simp at c30;rintro (h | h);exact h c30.1;exact h (A1s (by have:=c30.2;show _=1;omega)))])
  refine zC ?_
  refine zE rfl (Fk (s:=s20) (by rw [hs20];omega)) ?_
  rintro _ _ ⟨r33,rfl,rfl,hr33,hb33⟩
  refine zW ?_
  refine zE rfl (Fl (n:=8) (by rw [hr33,hs20];omega)) ?_
  rintro _ _ ⟨x35,sl35,bad35,rfl,rfl,hx35,hsl35,hbd35⟩
  refine zW ?_
  refine zE rfl (Fl (r:=⟨r33.b,sl35,bad35⟩) (n:=1) (A5f (Gd hsl35 (by rw [hr33,hs20];exact hbl)) (by omega))) ?_
  rintro _ _ ⟨x37,sl37,bad37,rfl,rfl,hx37,hsl37,hbd37⟩
  refine zW ?_
  refine Ae rfl (fun c40=> ?_) (fun c40=> ?_)
  ·skip
   rw [hr33,hs20,hb33] at hx35 hsl35 hbd35
   have ha:(x35,sl35.list,bad35)=C2 8 (Bz q).2.1 false:=(by rw [hx35,hsl35,hbd35];rfl)
   have hb:(x37,sl37.list,bad37)=C2 1 sl35.list bad35:=(by rw [hx37,hsl37,hbd37];rfl)
   have hres:Dm q n=([],[],0,false):=(by rw [h0];exact Alp ha hb (by simpa using c40))
   refine zC ?_
   exact A9 (Pp Tryz.results167 (Bc rfl mM rfl) (Af rfl) (Af rfl)) (by refine ⟨.nil,.nil,?_,rfl,?_,?_,rfl,rfl⟩ <;> rw [hres] <;> rfl) (by simp only [Sl.hp_nil,A4h];exact Split.nil)
  ·skip
   rw [hr33,hs20,hb33] at hx35 hsl35 hbd35
   have ha:(x35,sl35.list,bad35)=C2 8 (Bz q).2.1 false:=(by rw [hx35,hsl35,hbd35];rfl)
   have hb:(x37,sl37.list,bad37)=C2 1 sl35.list bad35:=(by rw [hx37,hsl37,hbd37];rfl)
   have h1:w64 (x37.toNat:Int)=n:=(by simpa using c40)
   have l37:=Gd hsl37 (Gd hsl35 hbl)
   refine zC ?_
   refine zE rfl (Fl (r:=⟨r33.b,sl37,bad37⟩) (n:=1) (A5f l37 (by omega))) ?_
   rintro _ _ ⟨x43,sl43,bad43,rfl,rfl,hx43,hsl43,hbd43⟩
   refine zW ?_
   refine zE rfl (Fl (r:=⟨r33.b,sl43,bad43⟩) (n:=1) (A5f (Gd hsl43 l37) (by omega))) ?_
   rintro _ _ ⟨x46,sl46,bad46,rfl,rfl,hx46,hsl46,hbd46⟩
   refine zW ?_
   refine zE rfl (Kq (r:=⟨r33.b,sl46,bad46⟩) (A5f (Gd hsl46 (Gd hsl43 l37)) (by omega))) ?_
   rintro _ _ ⟨s50,sl50,bad50,rfl,rfl,ho50,hs50,hsl50,hbd50⟩
   refine zW ?_
   have hs50len:=Adh hs50 (Gd hsl46 (Gd hsl43 l37))
   refine I1 (G6 (α:=Int) (T:=tI)) ?_
   refine At [1,4,5,11,12,13,50,51] kQ (fun (st:Nat×Sl Int)=>[(52,.int .i64 st.1)]) (fun st=>(b4,true,C [st.2.val,.slice none 0 0] tPl)::(st.2.hp tI++(s50.hp tU8++(rdH ⟨r33.b,sl50,bad50⟩++[])))) (fun st=>st.1≤s50.list.length∧st.2.list=(s50.list.take st.1).map Oq∧st.2.isOwn=true) (fun st=>s50.list.length - st.1) ((0,.nil)) ⟨A5s _,rfl,rfl⟩ kP sP ?_
   rintro ⟨i,u⟩ ⟨g0,h1',h2⟩
   simp only at g0 h1' h2
   have hul:u.list.length=i:=by rw [h1',A4b,A3x];omega
   refine zC ?_
   refine Ae rfl (fun c53=> ?_) (fun c53=> ?_)
   ·simp only [A3j,A1k] at c53
    obtain ⟨y,hg⟩:∃ y,s50.list[i]? =some y:=⟨_,A1d (by omega)⟩
    refine zA ?_
    refine Ah (A7 rfl rfl (by omega)) rfl ?_
    refine Ah (Co (o:=0) (v:=bv y) rfl pL hg rfl rfl) rfl ?_
    iterate 7 refine sb ?_
    refine Ah (show Rd _ _ _ _ (.int .i64 (Oq y)) from Gp (Aay y) rfl) rfl ?_
    refine Ao rfl rfl rfl rfl (fun b60=> ?_)
    refine Az (s:=u) (new:=[Oq y]) (m:=1) rfl rfl pL h2 (Ch (r:=true) mM rfl) rfl rfl rfl rfl (by have:=hs50len;omega) rfl (fun s' hs1 hs2=> ?_)
    refine zC ?_
    exact ⟨(i+1,s'),⟨by simp only;omega,by rw [hs1,h1',map_take hg],hs2⟩,(by simp only;omega),lZ⟩
   ·simp only [A3j,A1k] at c53
    have hall:u.list=s50.list.map Oq:=by rw [h1',A1q (by omega)]
    refine zC ?_
    refine zE rfl (Kq (r:=⟨r33.b,sl50,bad50⟩) (A5f (Aia hsl50 (Gd hsl46 (Gd hsl43 l37))) (by omega))) ?_
    rintro _ _ ⟨s66,sl66,bad66,rfl,rfl,ho66,hs66,hsl66,hbd66⟩
    refine zW ?_
    have hs66len:=Adh hs66 (Aia hsl50 (Gd hsl46 (Gd hsl43 l37)))
    refine I1 (G6 (α:=Int) (T:=tI)) ?_
    refine At [1,4,5,11,12,66,67] kQ (fun (st:Nat×Sl Int)=>[(68,.int .i64 st.1)]) (fun st=>(b4,true,C [u.val,st.2.val] tPl)::(st.2.hp tI++(u.hp tI++(s66.hp tU8++(rdH ⟨r33.b,sl66,bad66⟩++[]))))) (fun st=>st.1≤s66.list.length∧st.2.list=(s66.list.take st.1).map Oq∧st.2.isOwn=true) (fun st=>s66.list.length - st.1) ((0,.nil)) ⟨A5s _,rfl,rfl⟩ kP sP ?_
    rintro ⟨j,l⟩ ⟨k0,k1,k2⟩
    simp only at k0 k1 k2
    have hll:l.list.length=j:=by rw [k1,A4b,A3x];omega
    refine zC ?_
    refine Ae rfl (fun c69=> ?_) (fun c69=> ?_)
    ·simp only [A3j,A1k] at c69
     obtain ⟨y,hg⟩:∃ y,s66.list[j]? =some y:=⟨_,A1d (by omega)⟩
     refine zA ?_
     refine Ah (A7 rfl rfl (by omega)) rfl ?_
     refine Ah (Co (o:=0) (v:=bv y) rfl pL hg rfl rfl) rfl ?_
     iterate 7 refine sb ?_
     refine Ah (show Rd _ _ _ _ (.int .i64 (Oq y)) from Gp (Aay y) rfl) rfl ?_
     refine Ao rfl rfl rfl rfl (fun b76=> ?_)
     refine Az (s:=l) (new:=[Oq y]) (m:=1) rfl rfl pL k2 (Ch (r:=true) mM rfl) rfl rfl rfl rfl (by have:=hs66len;omega) rfl (fun s' hs1 hs2=> ?_)
     refine zC ?_
     exact ⟨(j+1,s'),⟨by simp only;omega,by rw [hs1,k1,map_take hg],hs2⟩,(by simp only;omega),lZ⟩
    ·simp only [A3j,A1k] at c69
     have hall2:l.list=s66.list.map Oq:=by rw [k1,A1q (by omega)]
     refine zC ?_
     refine Mn [1,2] [[(0,false),(3,true),(4,false),(5,false),(6,false),(7,true),(8,false),(9,false),(10,false),(11,false),(12,false),(13,false),(14,false),(15,false),(16,false),(17,true),(18,false)],[(19,false)]] (by kernel_rfl) ?_
     refine zC ?_
     refine zI rfl (Aib (r:=⟨r33.b,sl66,bad66⟩)) ?_
     refine zA ?_
     refine Aq (D6 rfl) ?_
     refine sa ?_
     refine' Jz rfl rfl inferInstance rfl rfl rfl rfl rfl (fun hg85=> ?_) ?_
     rotate_left
     ·try (simp at hg85;show _)
      refine zC ?_
      refine zI rfl (Tp (r:=⟨r33.b,sl66,bad66⟩)) ?_
      refine zC ?_
      exact Hu rfl sP
     refine sa ?_
     refine' Jz rfl rfl inferInstance rfl rfl rfl rfl rfl (fun hg90=> ?_) ?_
     rotate_left
     ·try (simp at hg90;show _)
      refine zA ?_
      refine Aq (An rfl rfl (rfl)) ?_
      refine zA ?_
      refine Aq (An rfl rfl (rfl)) ?_
      refine zC ?_
      exact Hu rfl sP
     refine zC ?_
     exact zL (hR:=by have hn:(x43,sl43.list,bad43)=C2 1 sl37.list bad37:=(by rw [hx43,hsl43,hbd43];rfl);have hm:(x46,sl46.list,bad46)=C2 1 sl43.list bad43:=(by rw [hx46,hsl46,hbd46];rfl);have hu:(s50.list,sl50.list,bad50)=C4 (max (w64 (x43.toNat:Int)) 0).toNat sl46.list bad46:=(by rw [hs50,hsl50,hbd50]);have hv:(s66.list,sl66.list,bad66)=C4 (max (w64 (x46.toNat:Int)) 0).toNat sl50.list bad50:=(by rw [hs66,hsl66,hbd66]);have hres:=V0 ha hb h1 hn hm hu hv;refine ⟨u,l,?_,rfl,?_,?_,h2,k2⟩ <;> rw [h0,hres];exact hall;exact hall2)
end
section
open Go.K
instance und72:Und Tryz.prog 72 (.pointer 95):=⟨Tryz.underlying72⟩
instance agg72:Agg Tryz.prog 72 false:=⟨⟨_,Tryz.underlying72,rfl⟩⟩
instance fld227_0:Fld Tryz.prog 227 0 0:=⟨⟨_,_,0,Tryz.underlying227,rfl,by kernel_rfl,rfl⟩⟩
instance fld227_1:Fld Tryz.prog 227 1 1:=⟨⟨_,_,1,Tryz.underlying227,rfl,by kernel_rfl,rfl⟩⟩
instance fld227_2:Fld Tryz.prog 227 2 3:=⟨⟨_,_,0,Tryz.underlying227,rfl,by kernel_rfl,rfl⟩⟩
instance fld227_3:Fld Tryz.prog 227 3 4:=⟨⟨_,_,0,Tryz.underlying227,rfl,by kernel_rfl,rfl⟩⟩
instance fld227_4:Fld Tryz.prog 227 4 5:=⟨⟨_,_,0,Tryz.underlying227,rfl,by kernel_rfl,rfl⟩⟩
instance fld227_5:Fld Tryz.prog 227 5 6:=⟨⟨_,_,0,Tryz.underlying227,rfl,by kernel_rfl,rfl⟩⟩
instance flat147:Flat Tryz.prog 147 (L4 258 ([some .u8])):=⟨by kernel_rfl,by kernel_rfl,⟨_,Tryz.underlying147,rfl⟩⟩
instance ent156:Ent Tryz.prog 156:=⟨fun _ _=>by kernel_rfl⟩
instance ent159:Ent Tryz.prog 159:=⟨fun _ _=>by kernel_rfl⟩
instance ent197:Ent Tryz.prog 197:=⟨fun _ _=>by kernel_rfl⟩
structure Tab where
 b:Nat
 u:Sl Int
 l:Sl Int
 version:Wd
 area:Int
 next:Int
 at':Int
abbrev Id (a:Nat) (t:Tab):List Value:=[ptr a,t.u.val,t.l.val,wv t.version,.int .i64 t.area,.int .i64 t.next,.int .i64 t.at']
def Tab.ts (t:Tab):TS:=⟨t.u.list,t.l.list,t.version,t.area,t.next,t.at'⟩
section
variable {c:Chip} {a:Nat}
theorem Aqu (ha:c.aC=a) {i j:Int}:Does Tryz.prog 140 [ptr a,.int .i64 i,.int .i64 j] (chH c) (Is (.tuple #[.agg (vbc (Bp c i j)).toArray,.int .i64 (B9 c i j)]) (chH c)):=by subst ha;exact Z5
theorem Nk (ha:c.aC=a) {i j:Int} {d:Pg}:Does Tryz.prog 209 [ptr a,.int .i64 i,.int .i64 j,.agg (vbc d).toArray] (chH c) (Is (.int .i64 (Bq c i j d).1) (chH (Bq c i j d).2)):=by subst ha;exact Af7
theorem Aaz (ha:c.aC=a) {i:Int}:Does Tryz.prog 198 [ptr a,.int .i64 i] (chH c) (Is (.int .i64 (Bs c i).1) (chH (Bs c i).2)):=by subst ha;exact Aos
theorem Qi (ha:c.aC=a):Does Tryz.prog 158 [ptr a] (chH c) (Is (.int .i64 c.blocks.length) (chH c)):=by subst ha;exact Fj
theorem Yx (ha:c.aC=a) {i:Int}:Does Tryz.prog 169 [ptr a,.int .i64 i] (chH c) (Is (.bool (Jh c i)) (chH c)):=by subst ha;exact Axq
theorem Az1:L4 258 [some .u8]=List.replicate 258 (some .u8):=by kernel_rfl
theorem Aqv:∀ (xs ys:List By),xs.length=ys.length→Bg (List.replicate xs.length (some .u8)) (xs.map bv) (ys.map bv)=some (decide (xs=ys))
 | [],[],_=>rfl
 | [],_::_,h=>by simp at h
 | _::_,[],h=>by simp at h
 | x::xs,y::ys,h=>by
  have ih:=Aqv xs ys (by simpa using h)
  simp only [A3v,List.replicate_succ,A45,Bg,ih,bv,veq]
  by_cases h1:x=y
  ·subst h1
   by_cases h2:xs=ys <;> simp [h2]
  ·have:¬ (x.toNat:Int)=y.toNat:=fun e=>h1 (A1s (by omega))
   simp [h1,this]
theorem pg_eq (p q:Pg):Bg (L4 258 [some .u8]) (vbc p) (vbc q)=some (decide (p=q)):=by
 have:=Aqv p.toList q.toList (by simp)
 rw [show p.toList.length=258 by simp] at this
 rw [Az1,vbc,vbc,this]
 congr 1
 exact A34.2 ⟨fun h=>Vector.toList_inj.1 h,fun h=>by rw [h]⟩
theorem Als {t:Tab} (ha:c.aC=a) {ar i:Int} {q:Pg}:Does Tryz.prog 156 [ptr t.b,.int .i64 ar,.int .i64 i,.agg (vbc q).toArray] ((t.b,true,C (Id a t) tTb)::(chH c++[]))
  (Is (.int .i64 (Hq c ar i q)) ((t.b,true,C (Id a t) tTb)::(chH c++[]))):=by
 refine zF 29 Tryz.func156 ?_
 refine zC ?_
 refine Do rfl rfl (fun b7=> ?_)
 refine zC ?_
 refine zI rfl (Aqu ha) ?_
 refine zC ?_
 refine Aj rfl (fun b9=> ?_)
 rw [Cj]
 first | refine Ac rfl rfl uD (Cg) (Ai) (Bo (by first | exact Ai | exact A1y ..)) ?_ | refine Ac rfl rfl uD rfl rfl rfl ?_
 iterate 9 refine sb ?_
 refine' H9 rfl rfl inferInstance rfl rfl rfl rfl rfl (fun hg23=> ?_) ?_
 rotate_left
 ·try (simp at hg23;show _)
  refine zA ?_
  refine Ah (Am rfl mM (by first | exact Ax | rfl)) rfl ?_
  refine zA ?_
  refine Ah (Am rfl mM (by first | exact Ax | rfl)) rfl ?_
  refine zA ?_
  refine Ah (Afs rfl rfl (pg_eq _ _)) rfl ?_
  exact Ad ⟨rfl,rfl,⟨_,sP⟩⟩
 refine zC ?_
 refine Ae rfl (fun c27=> ?_) (fun c27=> ?_)
 ·skip
  have hres:Hq c ar i q=33:=(by unfold Hq;rw [if_pos (by simp at c27;exact c27)])
  refine zC ?_
  refine Ak (Aw Tryz.results156 (Af rfl)) ?_ sP
  rw [hres]
 ·skip
  have hres:Hq c ar i q=B9 c ar i:=(by unfold Hq;rw [if_neg (by simp at c27;rintro ⟨h1,h2⟩;exact h2 (c27 h1))])
  refine zC ?_
  refine Ak (Aw Tryz.results156 (Af rfl)) ?_ sP
  rw [hres]
theorem Aqw {t:Tab} (ha:c.aC=a) {ar from':Int} {q:Pg} (hf:0≤from'):Does Tryz.prog 197 [ptr t.b,.int .i64 ar,.int .i64 from',.agg (vbc q).toArray] ((t.b,true,C (Id a t) tTb)::(chH c++[]))
  (Is (.tuple #[.int .i64 (Gt c ar from' q).1,.int .i64 (Gt c ar from' q).2.1]) ((t.b,true,C (Id a t) tTb)::(chH (Gt c ar from' q).2.2++[]))):=by
 refine zF 41 Tryz.func197 ?_
 refine zC ?_
 refine Do rfl rfl (fun b7=> ?_)
 refine zC ?_
 refine At [0,1,7] kQ (fun (st:Int×Chip)=>[(10,.int .i64 st.1)]) (fun st=>(b7,true,C (vbc q) tPg)::(t.b,true,C (Id a t) tTb)::(chH st.2++[])) (fun st=>0≤st.1∧st.2.aC=a∧Gt st.2 ar st.1 q=Gt c ar from' q) (fun st=>(8 - st.1).toNat) ((from',c)) ⟨hf,ha,rfl⟩ kP sP ?_
 rintro ⟨i,c1⟩ ⟨h0,h1,h2⟩
 simp only at h0 h1 h2
 refine zC ?_
 refine Ae rfl (fun c14=> ?_) (fun c14=> ?_)
 ·simp only [A3j,A1k] at c14
  refine zC ?_
  refine A0 [(7,[(0,false),(1,false),(2,false),(3,false),(4,false),(5,false),(6,false)]),(8,[(7,true)]),(9,[(8,false)])] (by kernel_rfl) ?_
  iterate 7 refine sb ?_
  refine Aq (Am rfl mM (by first | exact Ax | rfl)) ?_
  refine zC ?_
  refine zI rfl (Nk h1) ?_
  refine zC ?_
  refine Ae rfl (fun c26=> ?_) (fun c26=> ?_)
  ·skip
   have hst:Fq c1 ar i q=Hq (Bq c1 ar i q).2 ar i q:=(by unfold Fq;rw [if_pos (by simpa using c26)])
   refine zA ?_
   refine Ah (Am rfl mM (by first | exact Ax | rfl)) rfl ?_
   refine zI rfl (Als (t:=t) (c:=(Bq c1 ar i q).2) ((Fn c1 ar i q).trans h1)) ?_
   refine zC ?_
   refine Ae rfl (fun c37=> ?_) (fun c37=> ?_)
   ·skip
    have hres:=Rx c14 (by rw [hst];simpa using c37)
    rw [h2] at hres
    refine zC ?_
    refine Ak (Cu Tryz.results197 (Af rfl) (Af rfl)) ?_ (by rw [hres];exact sP)
    rw [hres,hst]
   ·skip
    have hgo:=Aiy c14 (by rw [hst];intro h;simp at c37;exact h.2 (c37 h.1))
    refine zC ?_
    exact ⟨(i+1,(Bq c1 ar i q).2),⟨by simp only;omega,(Fn c1 ar i q).trans h1,by simp only;rw [← hgo,h2]⟩,(by simp only;omega),lZ⟩
  ·skip
   have hst:Fq c1 ar i q=(Bq c1 ar i q).1:=(by unfold Fq;rw [if_neg (by simpa using c26)])
   refine zC ?_
   refine Ae rfl (fun c37=> ?_) (fun c37=> ?_)
   ·skip
    have hres:=Rx c14 (by rw [hst];simpa using c37)
    rw [h2] at hres
    refine zC ?_
    refine Ak (Cu Tryz.results197 (Af rfl) (Af rfl)) ?_ (by rw [hres];exact sP)
    rw [hres,hst]
   ·skip
    have hgo:=Aiy c14 (by rw [hst];intro h;simp at c37;exact h.2 (c37 h.1))
    refine zC ?_
    exact ⟨(i+1,(Bq c1 ar i q).2),⟨by simp only;omega,(Fn c1 ar i q).trans h1,by simp only;rw [← hgo,h2]⟩,(by simp only;omega),lZ⟩
 ·simp only [A3j,A1k] at c14
  refine zC ?_
  refine Ak (Cu Tryz.results197 (Af rfl) (Af rfl)) ?_ (by rw [← h2,V3 c14];exact sP)
  rw [← h2,V3 c14]
theorem Qj {P:Program} {E:Env} {H:Hp} {t u:TypeId} {x y:Operand} {v:Wd} (hx:ev E x=some (wv v)) (hy:ev E y=some (.int .u64 1)):Rd P E H (.binOp .add t x y u) (wv (v+1)):=by
 have:=An (P:=P) (H:=H) (op:= .add) (t:=t) (u:=u) hx hy rfl
 have e:IntKind.u64.wrap ((v.toNat:Int)+1)=((v+1).toNat:Int):=by
  rw [Em .u64 rfl]
  show ((BitVec.ofInt 64 ((v.toNat:Int)+1)).toNat:Int)=_
  rw [show ((v.toNat:Int)+1)=((v.toNat+1:Nat):Int) by push_cast;rfl,A14,A2p,A3k]
  rfl
 rw [e] at this
 exact this
theorem Au4 {t:Tab} {u l:Sl Int} (ha:c.aC=a) (hu:u.list.length≤1000) (hl:l.list.length≤1000) (hn:0≤t.next) (har:0≤t.area∧t.area≤1) :
  Does Tryz.prog 159 [ptr t.b,.agg #[u.val,l.val]] ((t.b,true,C (Id a t) tTb)::(u.hp tI++(l.hp tI++(chH c++[]))))
   (fun v H=>∃ t':Tab,t'.b=t.b∧v= .int .i64 (Bw t.ts u.list l.list c).1∧H=(t'.b,true,C (Id a t') tTb)::(u.hp tI++(l.hp tI++(chH (Bw t.ts u.list l.list c).2.2++[])))∧t'.ts=(Bw t.ts u.list l.list c).2.1 ∧
    ((Bw t.ts u.list l.list c).1=0→t'.u=u∧t'.l=l)∧((Bw t.ts u.list l.list c).1≠0→t'=t)):=by
 refine zF 98 Tryz.func159 ?_
 refine zC ?_
 refine Dj rfl rfl (fun b3=> ?_)
 refine zC ?_
 refine Na [] [(13,(.fork [(0,false),(1,false),(2,false),(3,false),(4,false),(5,false),(6,false),(7,false),(8,false),(9,false)] 10 (.fork [] 11 (.one [(12,true)]) 12 (.one [(11,true)])) 12 (.one [(10,true),(11,true)]))),(14,(.one [(13,true)]))] (by kernel_rfl) rfl (fun ops w0 H0 y=> ?_)
 refine K8 ?_
 refine K9 ?_ rfl
 refine Cr (Am rfl mM rfl) rfl ?_
 refine Cr (Dc rfl) rfl ?_
 refine Cr (Hj rfl) rfl ?_
 refine Cr (De rfl) rfl ?_
 refine Cr (Al rfl mM rfl) rfl ?_
 refine Cr (Qj rfl rfl) rfl ?_
 refine Cr (Dc rfl) rfl ?_
 refine Cr (Hj rfl) rfl ?_
 refine Cr (De rfl) rfl ?_
 refine Cr (Al rfl mM rfl) rfl ?_
 refine As ⟨⟨_,sP⟩,?_,?_⟩
 refine B1 ?_
 refine zI rfl (Qi ha) ?_
 refine Ad ⟨rfl,⟨_,sP⟩,?_⟩
 refine As ?_
 refine K9 ?_ rfl
 refine As ⟨⟨_,sP⟩,?_,?_⟩
 refine B1 ?_
 refine zI rfl (Aax (v:=t.version+1) (n:=c.blocks.length) hu hl) ?_
 refine Ad ⟨rfl,⟨_,sP⟩,?_⟩
 refine As ?_
 refine Fy ?_
 refine B1 ?_
 refine Aj rfl (fun b5=> ?_)
 rw [Cj]
 refine Ad ⟨rfl,⟨_,sP⟩,?_⟩
 refine As ?_
 rotate_left
 refine B1 ?_
 refine Aj rfl (fun b5=> ?_)
 rw [Cj]
 refine Ad ⟨rfl,⟨_,sP⟩,?_⟩
 refine As ?_
 refine Fy ?_
 refine B1 ?_
 refine zI rfl (Aax (v:=t.version+1) (n:=c.blocks.length) hu hl) ?_
 refine Ad ⟨rfl,⟨_,sP⟩,?_⟩
 refine As ?_
 rotate_left
 refine B1 ?_
 refine Aj rfl (fun b5=> ?_)
 rw [Cj]
 refine Ad ⟨rfl,⟨_,sP⟩,?_⟩
 refine As ?_
 refine Fy ?_
 refine B1 ?_
 refine zI rfl (Qi ha) ?_
 refine Ad ⟨rfl,⟨_,sP⟩,?_⟩
 refine B1 ?_
 refine zI rfl (Aax (v:=t.version+1) (n:=c.blocks.length) hu hl) ?_
 refine Ad ⟨rfl,⟨_,sP⟩,?_⟩
 refine As ?_
 rotate_left
 all_goals
  refine Zl ?_
  refine Fy ?_
  refine B1 ?_
  first | refine Ac rfl rfl uD (Cg) (Ai) (Bo (by first | exact Ai | exact A1y ..)) ?_ | refine Ac rfl rfl uD rfl rfl rfl ?_
  refine Ad ⟨rfl,⟨_,sP⟩,?_⟩
  refine As ?_
  refine Q6 ?_
  refine zC ?_
  refine A0 [(7,[(0,false),(1,false),(2,false),(3,false),(4,false),(5,false),(6,false)]),(8,[(7,true)]),(13,[(8,false),(9,false),(10,false),(11,false),(12,false)])] (by kernel_rfl) ?_
  iterate 7 refine sb ?_
  refine Aq (Am rfl mM (by first | exact Ax | rfl)) ?_
  refine zC ?_
  refine zI rfl (Aqw (t:=t) ha hn) ?_
  refine zC ?_
  obtain ⟨q,hq⟩:∃ q,q=Ed (t.version+1) c.blocks.length u.list l.list:=⟨_,rfl⟩
  rw [← hq]
  refine At [0,3,5] kQ (fun (st:Nat×KS)=>[(9,.int .i64 st.1),(6,.int .i64 st.2.area),(7,.int .i64 st.2.next),(8,.int .i64 st.2.e)]) (fun st=>(b5,true,C (vbc q) tPg)::(b3,true,C [u.val,l.val] tPl)::(t.b,true,C (Id a t) tTb)::(u.hp tI++(l.hp tI++(chH st.2.c++[])))) (fun st=>st.1≤4∧st.2.c.aC=a∧(0≤st.2.next∧st.2.next≤8)∧Dh (4 - st.1) t.area q st.2=Fs t.ts u.list l.list c) (fun st=>4 - st.1) ((0,⟨t.area,(Gt c t.area t.next q).1,(Gt c t.area t.next q).2.1,(Gt c t.area t.next q).2.2⟩)) ⟨A5s _,(Aau _ _ _ _).trans ha,Aav _ _ _ _ hn,by rw [hq];rfl⟩ kP sP ?_
  rintro ⟨k,s⟩ ⟨h0,h1,h2,h3⟩
  simp only at h0 h1 h2 h3
  refine zC ?_
  refine Ae rfl (fun c43=> ?_) (fun c43=> ?_)
  ·skip
   have hk:k<4:=(by simp at c43;omega)
   have he:s.e=34:=(by simp at c43;exact c43.2)
   rw [show 4 - k=(4 - (k+1))+1 by omega,Dh,if_pos he] at h3
   refine zC ?_
   refine zI rfl (Aaz h1) ?_
   refine zC ?_
   refine Ae rfl (fun c59=> ?_) (fun c59=> ?_)
   ·skip
    have hf:(Bs s.c (1 - t.area)).1=0:=(by simpa using c59)
    have hk1:G8 t.area q s=⟨1 - t.area,(Gt (Bs s.c (1 - t.area)).2 (1 - t.area) 0 q).1,(Gt (Bs s.c (1 - t.area)).2 (1 - t.area) 0 q).2.1,(Gt (Bs s.c (1 - t.area)).2 (1 - t.area) 0 q).2.2⟩:=(by unfold G8;simp only [];rw [if_pos hf])
    refine zA ?_
    refine Ah (Am rfl mM (by first | exact Ax | rfl)) rfl ?_
    refine zI rfl (Aqw (t:=t) (c:=(Bs s.c (1 - t.area)).2) ((H4 _ _).trans h1) (A5p 0)) ?_
    refine zC ?_
    exact ⟨(k+1,G8 t.area q s),⟨by simp only;omega,by simp only;rw [Qg];exact h1,by simp only;exact Qh h2,h3⟩,(by simp only;omega),(by rw [hk1];exact kP),kP,_,(by rw [hk1];exact sP)⟩
   ·skip
    have hf:¬ (Bs s.c (1 - t.area)).1=0:=(by simpa using c59)
    refine zC ?_
    refine Ae rfl (fun c68=> ?_) (fun c68=> ?_)
    ·skip
     have hf3:(Bs s.c (1 - t.area)).1=33:=(by simpa using c68)
     have hk1:G8 t.area q s=⟨1 - t.area,s.next,s.e,(Bs s.c (1 - t.area)).2⟩:=(by unfold G8;simp only [];rw [if_neg hf,if_pos hf3])
     refine zC ?_
     exact ⟨(k+1,G8 t.area q s),⟨by simp only;omega,by simp only;rw [Qg];exact h1,by simp only;exact Qh h2,h3⟩,(by simp only;omega),(by rw [hk1];exact kP),kP,_,(by rw [hk1];exact sP)⟩
    ·skip
     have hf3:¬ (Bs s.c (1 - t.area)).1=33:=(by simpa using c68)
     have hk1:G8 t.area q s=⟨1 - t.area,s.next,(Bs s.c (1 - t.area)).1,(Bs s.c (1 - t.area)).2⟩:=(by unfold G8;simp only [];rw [if_neg hf,if_neg hf3])
     refine zC ?_
     exact ⟨(k+1,G8 t.area q s),⟨by simp only;omega,by simp only;rw [Qg];exact h1,by simp only;exact Qh h2,h3⟩,(by simp only;omega),(by rw [hk1];exact kP),kP,_,(by rw [hk1];exact sP)⟩
  ·skip
   have hend:Fs t.ts u.list l.list c=s:=(by rw [← h3];rcases A5g k 4 with hk | hk;(rw [show 4 - k=(4 - (k+1))+1 by omega,Dh,if_neg (by intro e;simp [hk,e] at c43;omega)]);(rw [show 4 - k=0 by omega,Dh]))
   refine zC ?_
   refine Ae rfl (fun c71=> ?_) (fun c71=> ?_)
   ·skip
    have hres:Bw t.ts u.list l.list c=(s.e,t.ts,s.c):=(by unfold Bw;simp only [];rw [hend,if_pos (by simpa using c71)])
    refine zC ?_
    exact A9 (Aw Tryz.results159 (Af rfl)) (by refine ⟨t,rfl,?_,rfl,?_,?_,?_⟩ <;> rw [hres];(intro h;simp at h;simp [h] at c71);(intro _;rfl)) (by rw [hres];exact sP)
   ·skip
    have hz:s.e=0:=(by simpa using c71)
    have hres:Bw t.ts u.list l.list c=(0,⟨u.list,l.list,t.version+1,s.area,s.next,s.next - 1⟩,s.c):=(by unfold Bw;simp only [];rw [hend,if_neg (by rw [hz];simp)];rfl)
    refine zC ?_
    refine Pf [] [0,1,2,3,4,6,7,8,11,12,13,14] [[(5,false),(9,false),(10,false),(15,false),(16,false),(17,true)],[(18,false)],[(19,false)],[(20,true)],[(21,false)],[(22,false)],[(23,true)],[(24,false)],[(25,false)],[(26,true)],[(27,false)],[(28,false)],[(29,true)]] (by kernel_rfl) rfl rfl (fun ops w0 H0 y=> ?_)
    unfold Afh
    refine Cr (Dc rfl) rfl ?_
    refine Cr (Dc rfl) rfl ?_
    refine Cr (Dc rfl) rfl ?_
    refine Cr (Dc rfl) rfl ?_
    refine Cr (Dc rfl) rfl ?_
    refine Cr (Dc rfl) rfl ?_
    refine Cr (Hj rfl) rfl ?_
    refine Cr (De rfl) rfl ?_
    refine Cr (Dc rfl) rfl ?_
    refine Cr (Dc rfl) rfl ?_
    refine Cr (Dc rfl) rfl ?_
    refine Cr (show Rd _ _ _ _ (.int .i64 (s.next - 1)) from F0 rfl rfl (by omega)) rfl ?_
    refine As ?_
    refine Azd ([(b3,true,C [u.val,l.val] tPl)]) ([(t.b,3,wv t.version)]) sP (Us (r:=true) mM rfl Xh) ?_
    refine Aho (Am rfl mM rfl) rfl ?_
    refine Aze rfl mM rfl ?_
    refine Aho (Qj rfl rfl) rfl ?_
    refine Aho (Hj rfl) rfl ?_
    refine Aho (De rfl) rfl ?_
    refine Azf ?_
    refine Ac rfl rfl uD rfl rfl rfl ?_
    refine Ad ⟨rfl,⟨_,sP⟩,(Us (r:=true) mM rfl Xh),?_⟩
    refine Aw6 ?_
    refine Ce ?_
    refine Cr (Hj rfl) rfl ?_
    refine As ?_
    refine Ce ?_
    refine Cr (De rfl) rfl ?_
    refine As ?_
    refine Dx ?_
    refine B1 ?_
    refine Ac rfl rfl uD rfl rfl rfl ?_
    refine Ad ⟨rfl,⟨_,sP⟩,?_⟩
    refine As ?_
    refine Ce ?_
    refine Cr (Hj rfl) rfl ?_
    refine As ?_
    refine Ce ?_
    refine Cr (De rfl) rfl ?_
    refine As ?_
    refine Dx ?_
    refine B1 ?_
    refine Ac rfl rfl uD rfl rfl rfl ?_
    refine Ad ⟨rfl,⟨_,sP⟩,?_⟩
    refine As ?_
    refine Ce ?_
    refine Cr (Hj rfl) rfl ?_
    refine As ?_
    refine Ce ?_
    refine Cr (De rfl) rfl ?_
    refine As ?_
    refine Dx ?_
    refine B1 ?_
    refine Ac rfl rfl uD rfl rfl rfl ?_
    refine Ad ⟨rfl,⟨_,sP⟩,?_⟩
    refine As ?_
    refine Ce ?_
    refine Cr (Hj rfl) rfl ?_
    refine As ?_
    refine Ce ?_
    refine Cr (De rfl) rfl ?_
    refine As ?_
    refine Dx ?_
    refine B1 ?_
    refine Ac rfl rfl uD rfl rfl rfl ?_
    refine Ad ⟨rfl,⟨_,sP⟩,?_⟩
    refine As ?_
    refine Eh ?_
    refine zC ?_
    exact A9 (Aw Tryz.results159 (Af rfl)) (by refine ⟨⟨t.b,u,l,t.version+1,s.area,s.next,s.next - 1⟩,rfl,?_,rfl,?_,?_,?_⟩ <;> rw [hres];(rfl);(intro _;exact ⟨rfl,rfl⟩);(intro h;exact absurd rfl h)) (by rw [hres];exact sP)
@[irreducible] def Di (a:Nat) (t:Tab):Hp:=(t.b,true,C (Id a t) tTb)::(t.u.hp tI++(t.l.hp tI++[]))
theorem Ej (a:Nat) (t:Tab):Di a t=(t.b,true,C (Id a t) tTb)::(t.u.hp tI++(t.l.hp tI++[])):=by unfold Di;rfl
theorem Qk {t:Tab} {u l:Sl Int} (ha:c.aC=a) (hu:u.list.length≤1000) (hl:l.list.length≤1000) (hn:0≤t.next) (har:0≤t.area∧t.area≤1) :
  Does Tryz.prog 159 [ptr t.b,.agg #[u.val,l.val]] ((t.b,true,C (Id a t) tTb)::(u.hp tI++(l.hp tI++(chH c++[]))))
   (fun v H=>(∃ t':Tab,t'.b=t.b∧t'.u=u∧t'.l=l∧v= .int .i64 0∧H=(t'.b,true,C (Id a t') tTb)::(u.hp tI++(l.hp tI++(chH (Bw t.ts u.list l.list c).2.2++[])))∧(Bw t.ts u.list l.list c).1=0∧t'.ts=(Bw t.ts u.list l.list c).2.1) ∨
    (∃ e,v= .int .i64 e∧e≠0∧H=(t.b,true,C (Id a t) tTb)::(u.hp tI++(l.hp tI++(chH (Bw t.ts u.list l.list c).2.2++[])))∧(Bw t.ts u.list l.list c).1=e∧t.ts=(Bw t.ts u.list l.list c).2.1)):=by
 refine (Au4 ha hu hl hn har).mono fun v H ⟨t',h1,h2,h3,h4,h5,h6⟩=> ?_
 by_cases h:(Bw t.ts u.list l.list c).1=0
 ·exact .inl ⟨t',h1,(h5 h).1,(h5 h).2,by rw [h2,h],h3,h,h4⟩
 ·have:=h6 h
  subst this
  exact .inr ⟨_,h2,h,h3,rfl,h4⟩
end
end
section
open Go.K
instance ent108:Ent Tryz.prog 108:=⟨fun _ _=>by kernel_rfl⟩
instance ent185:Ent Tryz.prog 185:=⟨fun _ _=>by kernel_rfl⟩
instance ent229:Ent Tryz.prog 229:=⟨fun _ _=>by kernel_rfl⟩
instance ent231:Ent Tryz.prog 231:=⟨fun _ _=>by kernel_rfl⟩
instance ent232:Ent Tryz.prog 232:=⟨fun _ _=>by kernel_rfl⟩
instance ent241:Ent Tryz.prog 241:=⟨fun _ _=>by kernel_rfl⟩
instance ent243:Ent Tryz.prog 243:=⟨fun _ _=>by kernel_rfl⟩
section
variable {c:Chip} {a:Nat} {t:Tab}
theorem Au5:Does Tryz.prog 108 [ptr t.b] (Di a t) (Is (.int .i64 t.u.list.length) (Di a t)):=by
 rw [Ej]
 refine zF 9 Tryz.func108 ?_
 refine zC ?_
 exact zS
theorem Aqx:Does Tryz.prog 108 [ptr t.b] [(t.b,true,C (Id a t) tTb)] (Is (.int .i64 t.u.list.length) [(t.b,true,C (Id a t) tTb)]):=by
 refine zF 9 Tryz.func108 ?_
 refine zC ?_
 exact zS
theorem Av8 {i:Int}:Does Tryz.prog 185 [ptr t.b,.int .i64 i] (Di a t) (Is (.tuple #[.int .i64 (atT t.ts i).1,.bool (atT t.ts i).2]) (Di a t)):=by
 rw [Ej]
 refine zF 22 Tryz.func185 ?_
 iterate 12 refine sb ?_
 refine' Lw rfl rfl inferInstance rfl rfl rfl rfl rfl (fun hg8=> ?_) ?_
 rotate_left
 ·try (simp at hg8;show _)
  refine zC ?_
  refine zI rfl (Aqx (a:=a) (t:=t)) ?_
  refine zC ?_
  exact Ad ⟨rfl,rfl,⟨_,sP⟩⟩
 refine zC ?_
 refine Ae rfl (fun c13=> ?_) (fun c13=> ?_)
 ·skip
  have hres:atT t.ts i=(0,false):=(by unfold atT;exact if_pos c13)
  refine zC ?_
  refine Ak (Cu Tryz.results185 (Af rfl) (Af rfl)) ?_ sP
  rw [hres]
 ·skip
  have hres:atT t.ts i=(at0 t.u.list i,true):=(by unfold atT;rw [if_neg (by rw [show t.ts.uses=t.u.list from rfl,c13];exact A2r)];rfl)
  have hi:0≤i∧i<t.u.list.length:=(by simp at c13;omega)
  iterate 10 refine sb ?_
  refine Ah (A7 rfl rfl hi) rfl ?_
  refine Ah (Co (o:=0) rfl pL (Ih hi.1 hi.2) rfl rfl) rfl ?_
  refine zC ?_
  refine Ak (Cu Tryz.results185 (Af rfl) (Af rfl)) ?_ sP
  rw [hres]
theorem V6 (ha:c.aC=a) {b:Int}:Does Tryz.prog 241 [ptr t.b,.int .i64 b] (Di a t++(chH c++[])) (Is (.bool (D8 t.ts c.blocks.length b)) (Di a t++(chH c++[]))):=by
 rw [Ej];simp only [A3q,A25,A4h]
 refine zF 36 Tryz.func241 ?_
 iterate 10 refine sb ?_
 refine' H9 rfl rfl inferInstance rfl rfl rfl rfl rfl (fun hg7=> ?_) ?_
 rotate_left
 ·try (simp at hg7;show _)
  refine zC ?_
  refine zI rfl (Qi ha) ?_
  refine zC ?_
  exact Ad ⟨rfl,rfl,⟨_,sP⟩⟩
 refine sa ?_
 refine' H9 rfl rfl inferInstance rfl rfl rfl rfl rfl (fun hg16=> ?_) ?_
 rotate_left
 ·try (simp at hg16;show _)
  refine zC ?_
  refine zI rfl (Hr (s:=t.u) (T:=tI)) ?_
  refine zC ?_
  exact Ad ⟨rfl,rfl,⟨_,sP⟩⟩
 refine sa ?_
 refine' H9 rfl rfl inferInstance rfl rfl rfl rfl rfl (fun hg26=> ?_) ?_
 rotate_left
 ·try (simp at hg26;show _)
  refine zC ?_
  refine zI rfl (Hr (s:=t.l) (T:=tI)) ?_
  refine zC ?_
  exact Ad ⟨rfl,rfl,⟨_,sP⟩⟩
 refine zC ?_
 exact zS
theorem Alt (ha:c.aC=a) (hn:c.blocks.length≤1000):Does Tryz.prog 229 [ptr t.b] (Di a t++(chH c++[])) (Is (.tuple #[.int .i64 (Bi t.ts c.blocks.length).1,.bool (Bi t.ts c.blocks.length).2]) (Di a t++(chH c++[]))):=by
 rw [Ej];simp only [A3q,A25,A4h]
 refine zF 18 Tryz.func229 ?_
 refine zC ?_
 refine zI rfl (Qi ha) ?_
 refine zC ?_
 refine Dy [0,9] kQ (fun (i:Nat)=>[(10,.int .i64 i)]) (fun i=>i≤c.blocks.length∧∀ k<i,D8 t.ts c.blocks.length k=false) (fun i=>c.blocks.length - i) ((0:Nat)) ⟨A5s _,fun k hk=>by omega⟩ kP ?_
 rintro i ⟨h0,h1⟩
 refine zC ?_
 refine Ae rfl (fun c11=> ?_) (fun c11=> ?_)
 ·simp only [A3j,A1k] at c11
  refine zC ?_
  refine zI rfl ((by have h:=V6 (t:=t) ha (b:=(i:Int));rw [Ej] at h;simp only [A3q,A25,A4h] at h;exact h)) ?_
  refine zC ?_
  refine Ae rfl (fun c15=> ?_) (fun c15=> ?_)
  ·skip
   have hres:=Aee (by omega) h1 c15
   refine zC ?_
   refine Ak (Cu Tryz.results229 (Af rfl) (Af rfl)) ?_ sP
   rw [hres]
  ·skip
   refine zC ?_
   exact ⟨i+1,⟨by omega,fun k hk=>by rcases A5g k i with h | h;exact h1 k h;rw [show k=i by omega];exact c15⟩,(by omega),lZ⟩
 ·simp only [A3j,A1k] at c11
  have hres:=Agx (t:=t.ts) (n:=c.blocks.length) (fun k hk=>h1 k (by omega))
  refine zC ?_
  refine Ak (Cu Tryz.results229 (Af rfl) (Af rfl)) ?_ sP
  rw [hres]
theorem Au6 {b:Int} (hu:t.u.list.length≤1000) (hl:t.l.list.length≤11):Does Tryz.prog 243 [ptr t.b,.int .i64 b] (Di a t) (fun v H=>∃ u l:Sl Int,v= .agg #[u.val,l.val]∧H=u.hp tI++(l.hp tI++(Di a t++[]))∧u.list=t.u.list∧l.list.Perm (t.l.list++[b])∧u.isOwn=true∧l.isOwn=true):=by
 rw [Ej]
 refine zF 21 Tryz.func243 ?_
 refine zC ?_
 refine Aj rfl (fun b4=> ?_)
 refine zC ?_
 refine zE rfl (Alr (u:=t.u) (l:=t.l) hu (by omega)) ?_
 rintro _ _ ⟨u10,l10,rfl,rfl,hu10,hl10,ou10,ol10⟩
 refine A5 aQ ?_
 refine Aj rfl (fun b5=> ?_)
 refine zC ?_
 refine Ao rfl rfl rfl rfl (fun b14=> ?_)
 refine Az (s:=l10) (new:=[b]) (m:=1) rfl rfl pL ol10 (Ch (r:=true) mM rfl) rfl rfl rfl rfl (by rw [hl10];omega) rfl (fun s15 hs1 hs2=> ?_)
 refine zC ?_
 refine zE rfl (Au3 (s:=s15) hs2 (by rw [hs1,hl10];simp;omega)) ?_
 rintro _ _ ⟨rfl,l19,rfl,hv19,ho19,hp19⟩
 refine zW ?_
 exact A9 (Aw Tryz.results243 (Bc rfl mM rfl)) (by exact ⟨u10,l19,by rw [hv19],rfl,hu10,by rw [← hl10,← hs1];exact hp19,ou10,ho19⟩) (by simp only [A3q,A25,A4h];exact sP)
def Aiz (a:Nat) (t:Tab) (c:Chip) (uses lost:List Int) (v:Value) (H:Hp):Prop :=
 ∃ (t':Tab) (lost':List Int),t'.b=t.b∧lost'.Perm lost∧v= .int .i64 (Bw t.ts uses lost' c).1∧H=Di a t'++(chH (Bw t.ts uses lost' c).2.2++[])∧t'.ts=(Bw t.ts uses lost' c).2.1
theorem Nl {u uses l lost:List Int} {t':Tab} {v:Value} (hb:t'.b=t.b) (hP:l.Perm lost) (hu:u=uses) (hv:v= .int .i64 (Bw t.ts u l c).1) (hts:t'.ts=(Bw t.ts u l c).2.1):Aiz a t c uses lost v (Di a t'++(chH (Bw t.ts u l c).2.2++[])):=by
 subst hu;exact ⟨t',l,hb,hP,hv,rfl,hts⟩
theorem Alu (ha:c.aC=a) {b:Int}:Does Tryz.prog 241 [ptr t.b,.int .i64 b] ((t.b,true,C (Id a t) tTb)::(t.u.hp tI++(t.l.hp tI++(chH c++[])))) (Is (.bool (D8 t.ts c.blocks.length b)) ((t.b,true,C (Id a t) tTb)::(t.u.hp tI++(t.l.hp tI++(chH c++[]))))):=by
 have h:=V6 (t:=t) ha (b:=b)
 rw [Ej] at h;simp only [A3q,A25,A4h] at h;exact h
theorem Aeg {b:Int} (hu:t.u.list.length≤1000) (hl:t.l.list.length≤11):Does Tryz.prog 243 [ptr t.b,.int .i64 b] ((t.b,true,C (Id a t) tTb)::(t.u.hp tI++(t.l.hp tI++[]))) (fun v H=>∃ u l:Sl Int,v= .agg #[u.val,l.val]∧H=u.hp tI++(l.hp tI++((t.b,true,C (Id a t) tTb)::(t.u.hp tI++(t.l.hp tI++[]))))∧u.list=t.u.list∧l.list.Perm (t.l.list++[b])∧u.isOwn=true∧l.isOwn=true):=by
 have h:=Au6 (t:=t) (a:=a) (b:=b) hu hl
 rw [Ej] at h;simp only [A3q,A25,A4h] at h;exact h
theorem Aqy (ha:c.aC=a) {b:Int} (hu:t.u.list.length≤1000) (hl:t.l.list.length≤11) (hn:0≤t.next) (har:0≤t.area∧t.area≤1):Does Tryz.prog 232 [ptr t.b,.int .i64 b] (Di a t++(chH c++[]))
  (fun v H=>if D8 t.ts c.blocks.length b=true then Aiz a t c t.u.list (t.l.list++[b]) v H else v= .int .i64 1∧H=Di a t++(chH c++[])):=by
 rw [Ej];simp only [A3q,A25,A4h]
 refine zF 14 Tryz.func232 ?_
 refine zC ?_
 refine zI rfl (Alu (t:=t) ha) ?_
 refine zC ?_
 refine Ae rfl (fun c8=> ?_) (fun c8=> ?_)
 ·skip
  refine zC ?_
  exact zL (hR:=by rw [if_neg (by simpa using c8)];exact ⟨rfl,rfl⟩)
 ·skip
  refine zC ?_
  refine zE rfl (Aeg (t:=t) (a:=a) hu hl) ?_
  rintro _ _ ⟨u12,l12,rfl,rfl,hu12,hl12,ou12,ol12⟩
  refine A5 aQ ?_
  refine Ci rfl (Qk (t:=t) (u:=u12) (l:=l12) ha (by rw [hu12];exact hu) (by rw [hl12.length_eq];simp;omega) hn har) sP rfl (fun v13 Y13 h13=> ?_)
  rcases h13 with ⟨t',e1,e2,e3,rfl,rfl,e4,e5⟩ | ⟨e,rfl,e1,rfl,e4,e5⟩
  all_goals
   refine A5 aQ ?_
   refine zC ?_
   exact A9 (Aw Tryz.results232 (Af rfl)) (by rw [if_pos (by simpa using c8)];first | exact Nl e1 hl12 hu12 (by rw [e4]) e5 | exact Nl (t':=t) rfl hl12 hu12 (by rw [e4]) e5) (by rw [Ej];simp only [A3q,A25,A4h];first | (rw [e2,e3];exact sP) | exact sP)
theorem Au7 (ha:c.aC=a) {i b:Int} (hu:t.u.list.length≤1000) (hl:t.l.list.length≤11) (hn:0≤t.next) (har:0≤t.area∧t.area≤1):Does Tryz.prog 231 [ptr t.b,.int .i64 i,.int .i64 b] (Di a t++(chH c++[]))
  (fun v H=>if ((atT t.ts i).2 && D8 t.ts c.blocks.length b)=true then Aiz a t c (t.u.list.set i.toNat b) (t.l.list++[at0 t.u.list i]) v H else v= .int .i64 1∧H=Di a t++(chH c++[])):=by
 refine zF 35 Tryz.func231 ?_
 refine zC ?_
 refine zI rfl (Av8 (t:=t)) ?_
 iterate 13 refine sb ?_
 refine' Lw rfl rfl inferInstance rfl rfl rfl rfl rfl (fun hg18=> ?_) ?_
 rotate_left
 ·try (simp at hg18;show _)
  refine zC ?_
  refine zI rfl (V6 (t:=t) ha) ?_
  refine zC ?_
  exact Ad ⟨rfl,rfl,⟨_,sP⟩⟩
 refine zC ?_
 refine Ae rfl (fun c23=> ?_) (fun c23=> ?_)
 ·skip
  have hc:¬ ((atT t.ts i).2 && D8 t.ts c.blocks.length b)=true:=(by simp at c23 ⊢;intro h;rcases c23 with h2 | h2;rw [h] at h2;cases h2;exact h2)
  refine zC ?_
  exact zL (hR:=by rw [if_neg hc];exact ⟨rfl,rfl⟩)
 ·skip
  have hc:(atT t.ts i).2=true∧D8 t.ts c.blocks.length b=true:=(by simp at c23;exact c23)
  have hi:0≤i∧i<t.u.list.length:=(by have:=hc.1;unfold atT at this;split at this;cases this;rename_i h;simp at h;have e:t.ts.uses=t.u.list:=rfl;rw [e] at h;omega)
  have hat:(atT t.ts i).1=at0 t.u.list i:=(by have:=hc.1;unfold atT at this ⊢;split at this;cases this;rename_i h;rw [if_neg h];rfl)
  rw [hat,Ej]
  simp only [A3q,A25,A4h]
  refine zC ?_
  refine zE rfl (Aeg (t:=t) (a:=a) hu hl) ?_
  rintro _ _ ⟨u26,l26,rfl,rfl,hu26,hl26,ou26,ol26⟩
  refine A5 aQ ?_
  refine Aj rfl (fun b9=> ?_)
  iterate 9 refine sb ?_
  refine Ah (A7 rfl rfl ⟨hi.1,by rw [hu26];exact hi.2⟩) rfl ?_
  (have hg:u26.list[i.toNat]? =some (at0 t.u.list i):=by (rw [hu26];exact Ih hi.1 hi.2));obtain ⟨u',hu'⟩:∃ u',u'=u26.set i.toNat b:=⟨_,rfl⟩;refine Kc (s:=u26) (o:=0) (z':=b) rfl rfl uL ou26 hg rfl rfl rfl (by rw [Tu ou26];exact A5k _) ?_;rw [← hu'];have hl':u'.list=t.u.list.set i.toNat b:=(by rw [hu',Sl.set_list _ _ _ ou26,hu26]);have hv':u'.val=u26.val:=(by rw [hu',Sl.set_val])
  refine zC ?_
  refine Ci rfl ((by have h:=Qk (c:=c) (a:=a) (t:=t) (u:=u') (l:=l26) ha (by rw [hl',A4d];exact hu) (by rw [hl26.length_eq];simp;omega) hn har;rw [hv'] at h;exact h)) sP rfl (fun v34 Y34 h34=> ?_)
  rcases h34 with ⟨t',e1,e2,e3,rfl,rfl,e4,e5⟩ | ⟨e,rfl,e1,rfl,e4,e5⟩
  all_goals
   refine A5 aQ ?_
   refine zC ?_
   exact A9 (Aw Tryz.results231 (Af rfl)) (by rw [if_pos (by rw [hc.1,hc.2];rfl)];first | exact Nl e1 hl26 hl' (by rw [e4]) e5 | exact Nl (t':=t) rfl hl26 hl' (by rw [e4]) e5) (by rw [Ej];simp only [A3q,A25,A4h];first | (rw [e2,e3];exact sP) | exact sP)
end
end
end Go.Proofs.YtpmojdippdlcaaaGreatDoor
