/- For every input, the program's store tells the view with the greatest number of those that were noted (lemmas of the proof); the conditions are the statement's own: part 6. -/
import Derived.Test.YtpmojdippdlcaaaGreatDoorJ4
import Derived.Test.YtpmojdippdlcaaaGreatDoorJ5
import Derived.Test.YtpmojdippdlcaaaGreatDoorJ1
import Derived.Test.YtpmojdippdlcaaaGreatDoorRows
import Derived.Test.YtpmojdippdlcaaaGreatDoorCards
import Derived.Test.YtpmojdippdlcaaaGreatDoorTie
import Derived.ChangeSame
import Derived.LaidLaws
import Derived.Handed
set_option linter.unusedVariables false
set_option linter.unusedSimpArgs false
set_option maxRecDepth 100000
set_option maxHeartbeats 1000000
namespace Go.Proofs.YtpmojdippdlcaaaGreatDoor
section
open Go.K
def Au5 (sq:Nat→Wd) (nb:Nat):List LB:=(List.range nb).map fun j=>⟨0,false,sq j,false,8⟩
theorem Asp {sq:Nat→Wd} {nb j:Nat} (h:j<nb):(bAt (Au5 sq nb) j).seq=sq j:=by
 unfold bAt Au5
 simp only [Ayg,A0f,List.getElem?_range h,A1g,A0t]
def Acm (z:Sg) (sq:Nat→Wd) (R:Nat→List Pg) (last:Int):Sg:=⟨z.S,{ z.L with bs:=Au5 sq z.L.nb,last:=last },R⟩
structure GrwO (z zv:Sg):Prop where
 S:zv.S=z.S
 nb:zv.L.nb=z.L.nb
 old:∀ x r,RecAt z x r→RecAt zv x r
 inv:∀ x r,RecAt zv x r→(Eb r).2.2.2=0→RecAt z x r
 sq:∀ b:Nat,b<z.L.nb→(bAt z.L.bs b).seq.toNat≠0→(bAt zv.L.bs b).seq=(bAt z.L.bs b).seq
theorem Acn {k:Nat} {z zv:Sg} {p:Pg} {l:Nat} (hw:LW k z) (hl:l<z.L.nb) (h1:zv.S=z.S) (h2:zv.L.nb=z.L.nb) (h3:zv.R=upR z.R l (z.R l++[p])) (h4:∀ b<z.L.nb,b≠l→(bAt zv.L.bs b).seq=(bAt z.L.bs b).seq)
  (h5:((bAt z.L.bs l).seq.toNat≠0∧z.L.last=l∧(bAt zv.L.bs l).seq=(bAt z.L.bs l).seq)∨((bAt z.L.bs l).seq.toNat=0∧∀ b<z.L.nb,(bAt z.L.bs b).seq.toNat<(bAt zv.L.bs l).seq.toNat)) (h6:zv.L.last=l) :
  NewAt z p ((l:Int),((2+(z.R l).length:Nat):Int)) zv:=by
 have hnR:(bAt z.L.bs l).seq.toNat=0→z.R l=[]:=hw.z0 l hl
 refine ⟨h1,h2,⟨l,(z.R l).length,rfl,by rw [h2];exact hl,by rw [h3,Hc,Ayk (A2q _)];simp⟩,fun x r hx=>⟨?_,?_⟩,fun x r hx=> ?_,fun b hb1 hb2 hb3=>⟨?_,?_,?_⟩,fun b hb1 hb2=> ?_,fun x r hx=> ?_⟩
 ·obtain ⟨b,j,rfl,hb1,hp⟩:=hx
  refine ⟨b,j,rfl,by rw [h2];exact hb1,?_⟩
  rw [h3]
  by_cases e:b=l
  ·subst e
   rw [Hc,Ayo (Aym.1 hp).1];exact hp
  ·rw [Em e];exact hp
 ·obtain ⟨b,j,rfl,hb1,hp⟩:=hx
  intro e9
  have e1:b=l:=by have:=A20 Prod.fst e9;simp only at this;omega
  have e2:j=(z.R l).length:=by have:=A20 Prod.snd e9;simp only at this;omega
  subst e1 e2
  have:=(Aym.1 hp).1
  omega
 ·obtain ⟨b,j,rfl,hb1,hp⟩:=hx
  rw [h2] at hb1
  rw [h3] at hp
  by_cases e:b=l
  ·subst e
   rw [Hc] at hp
   by_cases hj:j<(z.R b).length
   ·rw [Ayo hj] at hp
    exact .inl ⟨b,j,rfl,hb1,hp⟩
   ·have hj2:=(Aym.1 hp).1
    simp only [Azz,Azj] at hj2
    have:j=(z.R b).length:=by omega
    subst this
    rw [Ayk (A2q _)] at hp
    simp at hp
    exact .inr ⟨rfl,hp.symm⟩
  ·rw [Em e] at hp
   exact .inl ⟨b,j,rfl,hb1,hp⟩
 ·intro e
  have e:(l:Int)=b:=e
  have:l=b:=by omega
  subst this
  rcases h5 with ⟨_,h,_⟩ | ⟨h,_⟩
  ·exact hb3 h.symm
  ·exact hb2 h
 ·rw [h6]
  intro e
  have:l=b:=by omega
  subst this
  rcases h5 with ⟨_,h,_⟩ | ⟨h,_⟩
  ·exact hb3 h.symm
  ·exact hb2 h
 ·rw [h3]
  refine Em fun e=> ?_
  subst e
  rcases h5 with ⟨_,h,_⟩ | ⟨h,_⟩
  ·exact hb3 h.symm
  ·exact hb2 h
 ·by_cases e:b=l
  ·subst e
   rcases h5 with ⟨_,_,h⟩ | ⟨h,_⟩
   ·exact h
   ·exact absurd h hb2
  ·exact h4 b hb1 e
 ·obtain ⟨b,j,rfl,hb1,hp⟩:=hx
  unfold Go.Proofs.YtpmojdippdlcaaaGreatDoor.bef
  by_cases e:b=l
  ·subst e
   have:=(Aym.1 hp).1
   exact .inr ⟨rfl,by simp only;omega⟩
  ·refine .inl ?_
   unfold sqz
   simp only [A0c]
   rw [h4 b hb1 e]
   rcases h5 with ⟨h,h7,h8⟩ | ⟨h,h7⟩
   ·rw [h8]
    rcases hw.lst with ⟨q1,q2⟩ | ⟨l',q1,q2,q3,q4⟩
    ·omega
    ·have:l'=l:=by omega
     subst this
     exact q4 b hb1 e
   ·exact h7 b hb1
theorem GrowZ.law {k:Nat} {z:Sg} {p:Pg} {sq:Nat→Wd} {R':Nat→List Pg} (hw:LW k z) (h:GrowZ z.L.nb z.L.bs z.L.last z.R p sq R') :
  ∃ zv:Sg,zv.S=z.S∧zv.L.nb=z.L.nb∧zv.R=R'∧(∀ j<z.L.nb,(bAt zv.L.bs j).seq=sq j)∧fr z≤fr zv+1∧(GrwO z zv∨∃ y,NewAt z p y zv):=by
 have hat:∀ sq R last,∀ j<z.L.nb,(bAt (Acm z sq R last).L.bs j).seq=sq j:=fun sq R last j hj=>Asp hj
 have hfs:∀ R last,fr (Acm z (sqB z.L.bs) R last)=fr z:=fun R last=>Gf z.L.nb fun j hj=>by rw [hat _ R last j hj];exact Iff.rfl
 have hfu:∀ {to:Nat} {x:Wd} (R:Nat→List Pg) (last:Int),to<z.L.nb→(bAt z.L.bs to).seq.toNat=0→x.toNat≠0→fr (Acm z (K4 (sqB z.L.bs) to x) R last)+1=fr z:=fun {to x} R last h1 h2 h3=>by
  refine Mi h2 ?_ z.L.nb h1 fun j hj hne=> ?_
  ·rw [hat _ R last to h1];unfold K4;rw [A25 rfl];exact h3
  ·rw [hat _ R last j hj];unfold K4;rw [A26 hne];rfl
 have hsN:∀ {to:Nat},to<z.L.nb→(∀ j<z.L.nb,(bAt z.L.bs j).seq.toNat<(seqN z.L.bs z.L.last).toNat)→(seqN z.L.bs z.L.last).toNat≠0:=fun {to} h1 h2=>by
  have:=h2 to h1
  omega
 have junk:∀ {l:Nat} {x:Pg} {sq:Nat→Wd} {last:Int},Aei x→(∀ b<z.L.nb,(bAt z.L.bs b).seq.toNat≠0→sq b=(bAt z.L.bs b).seq)→GrwO z (Acm z sq (upR z.R l (z.R l++[x])) last):=fun {l x sq last} hx hq=>by
  refine ⟨rfl,rfl,fun y r hy=> ?_,fun y r hy hg=> ?_,fun b hb hs=>by rw [hat _ _ last b hb];exact hq b hb hs⟩
  ·obtain ⟨b,j,rfl,hb1,hp⟩:=hy
   refine ⟨b,j,rfl,hb1,?_⟩
   show (upR z.R l (z.R l++[x]) b)[j]? =_
   by_cases e:b=l
   ·subst e
    rw [Hc,Ayo (Aym.1 hp).1];exact hp
   ·rw [Em e];exact hp
  ·obtain ⟨b,j,rfl,hb1,hp⟩:=hy
   have hp:(upR z.R l (z.R l++[x]) b)[j]? =some r:=hp
   by_cases e:b=l
   ·subst e
    rw [Hc] at hp
    by_cases hj:j<(z.R b).length
    ·rw [Ayo hj] at hp
     exact ⟨b,j,rfl,hb1,hp⟩
    ·have hj2:=(Aym.1 hp).1
     simp only [Azz,Azj] at hj2
     have:j=(z.R b).length:=by omega
     subst this
     rw [Ayk (A2q _)] at hp
     simp at hp
     subst hp
     exact absurd hg hx.1
   ·rw [Em e] at hp
    exact ⟨b,j,rfl,hb1,hp⟩
 cases h with
 | same=>exact ⟨Acm z (sqB z.L.bs) z.R z.L.last,rfl,rfl,rfl,hat _ _ _,by rw [hfs];omega,.inl ⟨rfl,rfl,fun _ _ h=>h,fun _ _ h _=>h,fun b hb _=>hat _ _ _ b hb⟩⟩
 | @into l x g1 g2 g3 g4 g5 =>
  refine ⟨Acm z (sqB z.L.bs) (upR z.R l (z.R l++[x])) l,rfl,rfl,rfl,hat _ _ _,by rw [hfs];omega,?_⟩
  rcases g5 with rfl | g5
  ·exact .inr ⟨_,Acn hw g2 rfl rfl rfl (fun b hb _=>hat _ _ _ b hb) (.inl ⟨g3,g1,hat _ _ _ l g2⟩) rfl⟩
  ·exact .inl (junk g5 fun b _ _=>rfl)
 | @head to g1 g2 g3 g4 =>
  refine ⟨Acm z (K4 (sqB z.L.bs) to (seqN z.L.bs z.L.last)) z.R z.L.last,rfl,rfl,rfl,hat _ _ _,by rw [hfu _ _ g1 g2 (hsN g1 g4)];omega,.inl ⟨rfl,rfl,fun _ _ h=>h,fun _ _ h _=>h,fun b hb hs=> ?_⟩⟩
  rw [hat _ _ _ b hb]
  unfold K4
  rw [A26 (fun e=>hs (by rw [e];exact g2))]
  rfl
 | @fresh to x g1 g2 g3 g4 g5 =>
  have hR:upR z.R to [x]=upR z.R to (z.R to++[x]):=by rw [g3];rfl
  refine ⟨Acm z (K4 (sqB z.L.bs) to (seqN z.L.bs z.L.last)) (upR z.R to [x]) to,rfl,rfl,rfl,hat _ _ _,by rw [hfu _ _ g1 g2 (hsN g1 g4)];omega,?_⟩
  have hne:∀ b<z.L.nb,b≠to→(K4 (sqB z.L.bs) to (seqN z.L.bs z.L.last)) b=(bAt z.L.bs b).seq:=fun b _ e=>by unfold K4;rw [A26 e];rfl
  rcases g5 with rfl | g5
  ·refine .inr ⟨_,Acn hw g1 rfl rfl hR (fun b hb e=>by rw [hat _ _ _ b hb];exact hne b hb e) (.inr ⟨g2,fun b hb=> ?_⟩) rfl⟩
   rw [hat _ _ _ to g1]
   unfold K4
   rw [A25 rfl]
   exact g4 b hb
  ·rw [hR]
   exact .inl (junk g5 fun b hb hs=>hne b hb fun e=>hs (by rw [e];exact g2))
theorem AppG.down {n k:Nat} {q:Qt} {z z':Sg} {p:Pg} {y:Pl2} (hw:LW k z) (h:AppG n q z p 30 y z'):z'.S=z.S∧z'.L.lg=z.L.lg∧z'.L.nb=z.L.nb∧z'.L.d.dk=z.L.d.dk∧z'.L.d.c.off=true∧FrA z.L.d.c z'.L.d.c ∧
  ∃ (V':Nat→Blk) (zv:Sg),zv.S=z.S∧zv.L.nb=z.L.nb∧LogC z.L.nb KM V' (fun j=>(bAt zv.L.bs j).seq) zv.R∧Later z'.L.d.c n KM q.n V'∧fr z≤fr zv+1∧(GrwO z zv∨∃ y,NewAt z p y zv):=by
 obtain ⟨h1,h2,h3,h4,h5,h6⟩:=h
 obtain ⟨_,g1,g2,g3,V',sq',R',g4,g5,g6⟩:=h6.resolve_left (fun h9=>h9.1 rfl)
 obtain ⟨zv,v1,v2,v3,v4,v5,v6⟩:=g4.law hw
 refine ⟨h1,h2,h4,h5,g1,g3,V',zv,v1,v2,?_,g6,v5,v6⟩
 rw [v3]
 exact ⟨g5.bi,fun j hj=>by rw [v4 j hj];exact g5.blk j hj,fun j hj=>by rw [v4 j hj];exact g5.top j hj,fun i hi j hj hne hz=>by rw [v4 i hi] at hz ⊢;rw [v4 j hj];exact g5.dis i hi j hj hne hz⟩
theorem GrwO.ord {k:Nat} {z zv:Sg} (hw:LW k z) (h:GrwO z zv) {x x':Pl2} {r r':Pg} (hx:RecAt z x r) (hx':RecAt z x' r'):bef zv x x'↔bef z x x':=by
 have e:∀ {x r},RecAt z x r→sqz zv x=sqz z x:=fun hx=>by
  obtain ⟨b,h1,h2,h3⟩:=hx.used hw
  unfold sqz
  rw [h1,A0c,h.sq b h2 h3]
 unfold bef
 rw [e hx,e hx']
theorem Rz.grw {k:Nat} {A:Ab} {P:NdM} {Q:Int→Wd→List By→Prop} {z zv:Sg} (hw:LW k z) (h:Rz A P Q z) (hg:GrwO z zv):Rz A P Q zv:=by
 have hS:=hg.S
 refine ⟨by rw [hS];exact h.last,by rw [hS];exact h.vw,by rw [hS];exact h.viewed,by rw [hS];exact h.ix.mono fun _ _ _ _ h9=>hg.old _ _ h9,by rw [hS];exact h.pd.mono fun _ _ _ _ h9=>hg.old _ _ h9,fun h0=>by rw [hS];exact hg.old _ _ (h.la h0),fun h0=> ?_,fun x p hx hp=>h.kd x p (hg.inv x p hx hp) hp,fun x k e b h1 h2=>h.nd x k e b h1 (hg.inv _ _ h2 (Rc.good (r:= .nd k e b) h1)),fun x c h1=>h.cm x c (hg.inv _ _ h1 (Rc.good (r:= .cm c) trivial)),fun x v h1=> ?_⟩
 ·obtain ⟨v,h3,h4⟩:=h.va h0
  exact ⟨v,h3,by rw [hS];exact hg.old _ _ h4⟩
 ·have h2:=hg.inv _ _ h1 (Rc.good (r:= .vw v) trivial)
  obtain ⟨g1,g2,g3⟩:=h.vs x v h2
  obtain ⟨w,_,h5⟩:=h.va g1
  rw [hS]
  exact ⟨g1,g2,fun g4=>(g3 g4).imp id fun g5=>(hg.ord hw h2 h5).2 g5⟩
theorem Tl.same {A:Ab} {z z':Sg} (h:Tl A z) (h1:z'.L=z.L) (h2:z'.R=z.R):Tl A z':=h.of (by rw [h1]) h2 fun j _=>by rw [h1]
theorem PutG.free {n:Nat} {q:Qt} {z z':Sg} {p:Pg} {e:Int} {y:Pl2} (hf:2≤fr z) (h:PutG n q z p e y z'):AppG n q z p e y z':=by
 have hr:∀ {m e z1},RoomR n q m z e z1→e=0∧z1=z:=fun h=>by
  cases h with
  | enough _=>exact ⟨rfl,rfl⟩
  | out=>exact ⟨rfl,rfl⟩
  | stop h1 _ _=>have h1:fr z≤1:=h1;omega
  | go h1 _ _=>have h1:fr z≤1:=h1;omega
 rcases h with ⟨he,h⟩ | ⟨z1,h,hA⟩
 ·exact absurd (hr h).1 he
 ·rw [(hr h).2] at hA;exact hA
theorem AppG.last {n k:Nat} {q:Qt} {z z':Sg} {p:Pg} {e:Int} {y:Pl2} (hw:LW k z) (hr:0<rm z) (h:AppG n q z p e y z') (he:e≠30):e=0∧z'.L.last=z.L.last∧(q.n=0→Z4 z.L.d.c z'.L.d.c):=by
 obtain ⟨h1,_,_,h4,_,h6⟩:=h
 obtain ⟨_,hA,_,h7⟩:=h6.resolve_right (fun h9=>he h9.1)
 have hfull:¬ Abz z.L.bs z.L.last z.R:=fun hF=>by have:=Zh hF;omega
 have key:e=0∧z'.L.last=z.L.last:=by
  generalize z'.L.last=a,z'.L.bs=b,z'.R=c,y.1=d1,y.2=d2 at hA
  cases hA with
  | into _ _ _ _ _=>exact ⟨rfl,rfl⟩
  | none hF _=>exact absurd hF hfull
  | fresh hF _ _ _ _ _ _=>exact absurd hF hfull
 exact ⟨key.1,key.2,fun hq=>h7 hq key.1 key.2⟩
theorem WrR.slots {n:Nat} {q:Qt} {xs:List N3} {e:Int} {z z':Sg} (h:WrR n q xs z e z'):∀ {k:Nat},LW k z→k+xs.length≤390000000000→2+xs.length≤fr z→e=0→LW (k+xs.length) z'∧Go.Proofs.YtpmojdippdlcaaaGreatDoor.slots z'+xs.length=Go.Proofs.YtpmojdippdlcaaaGreatDoor.slots z∧fr z≤fr z'+xs.length∧(rm z'≤5∨xs=[])∧z'.L.nb=z.L.nb:=by
 induction h with
 | nil=>exact fun hw _ _ _=>⟨hw,rfl,A2q _,.inr rfl,rfl⟩
 | stop _ _ he=>exact fun _ _ _ h0=>absurd h0 he
 | @go ky ep b xs z z1 z' er y hok hp _ ih =>
  intro k hw hk hf h0
  rw [A0q] at hk hf
  have hA:=PutG.free (z:=wr1 z ky ep) (by show 2≤fr z;omega) hp
  obtain ⟨_,w1,w2,w3,w4⟩:=(AppG.ok (z:=wr1 z ky ep) (hw.of rfl rfl) (by omega) hA (by decide)).resolve_left (fun h=>absurd h.1 (by decide))
  have w2:Go.Proofs.YtpmojdippdlcaaaGreatDoor.slots z1+1=Go.Proofs.YtpmojdippdlcaaaGreatDoor.slots z:=w2
  have hf1:fr z≤fr z1+1:=by have:=Aon z;unfold Go.Proofs.YtpmojdippdlcaaaGreatDoor.slots at w2;omega
  obtain ⟨v1,v2,v3,v4,v5⟩:=ih (k:=k+1) (w1.of rfl rfl) (by omega) (by show 2+xs.length≤fr z1;omega) h0
  have v2:Go.Proofs.YtpmojdippdlcaaaGreatDoor.slots z'+xs.length=Go.Proofs.YtpmojdippdlcaaaGreatDoor.slots z1:=v2
  have v3:fr z1≤fr z'+xs.length:=v3
  have v5:z'.L.nb=z1.L.nb:=v5
  refine ⟨v1.mono (by rw [A0q];omega),by rw [A0q];omega,by rw [A0q];omega,.inl ?_,v5.trans w4.nb⟩
  rcases v4 with v4 | rfl
  ·exact v4
  ·cases ‹WrR n q [] (wr2 z1 ky ep y) er z'›
   exact w3
end
section
open Go.K
def ixN (A:Ab) (z:Sg) (ep:Wd) (cs:List Chg):NdM:=fun k=>if B4 (Cc z cs) k=true then orE (I5 noP (B7 z ep cs (Ca A.ix)) k) (A.ix k) else none
section
variable {n k:Nat} {q:Qt} {A:Ab} {z z':Sg} {ep:Wd} {cs:List Chg} {e:Int}
theorem Std.gt (h:Std A z) (hb:Ch z ep cs=false):A.seen.toNat<ep.toNat:=by
 unfold Ch L4 at hb
 simp only [Azp,Az7,A0r,A0d] at hb
 rw [← h.seen]
 have:=hb.1.1
 omega
theorem Std.ixN_live (h:Std A z) (hb:Ch z ep cs=false):∀ k,(ixN A z ep cs k).isSome=B4 (Cc z cs) k:=fun k=>by
 obtain ⟨n1,n2,n3⟩:=h.nds hb
 unfold ixN
 by_cases hl:B4 (Cc z cs) k=true
 ·rw [A25 hl,hl]
  by_cases hk:k∈(B7 z ep cs (Ca A.ix)).map (·.1)
  ·obtain ⟨⟨k',e',b'⟩,hx,rfl⟩:=A2b.1 hk
   rw [Gx n1 hx];rfl
  ·rw [J5 hk]
   show (A.ix k).isSome=true
   rw [h.live k]
   exact (n3 k hl hk).2
 ·rw [A26 hl]
  simp at hl
  rw [hl];rfl
theorem Std.fin (h:Std A z) (hb:Ch z ep cs=false) (hf:Cn z cs=false) {s:BitVec 32} (hs:s=Ux (Cc z cs) (ixN A z ep cs)) :
  Sd (A.fin (I5 noP (B7 z ep cs (Ca A.ix))) ⟨ep,Cc z cs,s⟩) z.L.nb∧ComA A ep cs (A.fin (I5 noP (B7 z ep cs (Ca A.ix))) ⟨ep,Cc z cs,s⟩):=by
 obtain ⟨n1,n2,n3⟩:=h.nds hb
 have hgt:=h.gt hb
 have hix:∀ k e b,ixN A z ep cs k=some (e,b)→e.toNat≤ep.toNat:=fun ky e b hi=>by
  unfold ixN at hi
  split at hi
  ·cases hp:I5 noP (B7 z ep cs (Ca A.ix)) ky with
   | some r =>
    obtain ⟨e2,b2⟩:=r
    rw [hp] at hi
    have hi:some (e2,b2)=some (e,b):=hi
    have:=A1h hi
    simp only [A13] at this
    rw [← this.1]
    rcases Pk hp with hx | hx
    ·have h8:e2=ep:=(n2 _ hx).1
     rw [h8];exact A2q _
    ·cases hx
   | none =>
    rw [hp] at hi
    have:=h.ep ky e b hi
    have:=h.ls
    omega
  ·cases hi
 refine ⟨⟨h.ixN_live hb,hix,fun h0=> ?_,fun _=>hs,?_,h.nb4,h.vwm,h.v0⟩,⟨rfl,h.lv,rfl,rfl,rfl,fun _=>rfl,fun c hc hg=> ?_,fun ky hky e b hi=> ?_⟩⟩
 ·have h0:ep.toNat=0:=h0
  omega
 ·show ((C8 (Cc z cs) 256).length:Int)≤Hy z.L.nb
  have h9:=hf
  unfold Cn at h9
  simp only [Ayz] at h9
  omega
 ·show (if B4 (Cc z cs) c.key=true then orE (I5 noP (B7 z ep cs (Ca A.ix)) c.key) (A.ix c.key) else none)=_
  have hx:(c.key,ep,c.body.list)∈B7 z ep cs (Ca A.ix):=by unfold B7;exact Aza _ (Ao2 hc hg)
  rw [A25 (n2 _ hx).2,Gx n1 hx]
  rfl
 ·show (if B4 (Cc z cs) ky=true then orE (I5 noP (B7 z ep cs (Ca A.ix)) ky) (A.ix ky) else none)=_
  have hl:B4 (Cc z cs) ky=true:=by
   rw [h.lv,Kr hky,← h.live ky,hi];rfl
  rw [A25 hl]
  cases hs:A.stray ky with
  | true =>
   have hx:(ky,ep,Ca A.ix ky)∈B7 z ep cs (Ca A.ix):=by
    unfold B7 Fo
    refine Azo _ (A2b.2 ⟨ky,A1e.2 ⟨(B5 _).mem_iff.2 (Mp.get_some.1 (by rw [h.stray ky];exact hs)),?_⟩,rfl⟩)
    unfold Eq
    rw [hl]
    simpa using hky
   rw [Gx n1 hx,A25 rfl]
   have:Ca A.ix ky=b:=by unfold Ca;rw [hi]
   rw [this]
   rfl
  | false =>
   have hx:ky∉(B7 z ep cs (Ca A.ix)).map (·.1):=fun hx=>by
    unfold B7 at hx
    rw [A1i,A1d] at hx
    rcases hx with hx | hx
    ·unfold Fo at hx
     rw [A2c] at hx
     obtain ⟨k2,h2,e2⟩:=A2b.1 hx
     have e2:k2=ky:=e2
     subst e2
     have:=Mp.get_some.2 ((B5 _).mem_iff.1 (A1e.1 h2).1)
     rw [h.stray k2,hs] at this
     cases this
    ·unfold Eo at hx
     rw [A2c] at hx
     obtain ⟨c,h2,e2⟩:=A2b.1 hx
     exact hky (A2b.2 ⟨c,(A1e.1 h2).1,e2⟩)
   rw [J5 hx,A26 (by decide)]
   exact hi
theorem Std.again_nil (h:Std A z) (hs:∀ k,A.stray k=false) {l:Lv} {but:List Int} {bi:Int→List By}:Fo z.S l ep but bi=[]:=by
 have hk:z.S.stray.keys=[]:=by
  refine List.eq_nil_iff_forall_not_mem.2 fun k hk=> ?_
  have:=Mp.get_some.2 hk
  rw [h.stray k,hs k] at this
  cases this
 unfold Fo
 rw [hk,(B5 []).eq_nil]
 rfl
theorem Std.slots (h:Std A z) (hs:∀ k,A.stray k=false) (hw:LW k z) (hk:k≤200000000000) (hb:Ch z ep cs=false) (hfF:Cn z cs=false) (hf:4+(Eo ep cs).length≤Go.Proofs.YtpmojdippdlcaaaGreatDoor.fr z) (hl:(Eo ep cs).length≤1000)
  (hR:Si n q z ep cs (Ca A.ix) 0 z'):Go.Proofs.YtpmojdippdlcaaaGreatDoor.slots z'+(Eo ep cs).length+1=Go.Proofs.YtpmojdippdlcaaaGreatDoor.slots z∧rm z'≤5:=by
 have hnd:B7 z ep cs (Ca A.ix)=Eo ep cs:=by unfold B7;rw [h.again_nil hs];rfl
 rcases hR with ⟨h1,_⟩ | ⟨_,h1,_⟩ | ⟨_,_,e1,z1,hW,h3⟩
 ·rw [hb] at h1;cases h1
 ·rw [hfF] at h1;cases h1
 ·rw [hnd] at hW
  rcases h3 with ⟨h3,h4,_⟩ | ⟨rfl,m,z2,hM,hE,rfl⟩
  ·exact absurd h4.symm h3
  ·obtain ⟨w1,w2,w3,w4,w5⟩:=hW.slots (hw.of (z':=G0 z) rfl rfl) (by omega) (by show 2+_≤Go.Proofs.YtpmojdippdlcaaaGreatDoor.fr z;omega) rfl
   have w2:Go.Proofs.YtpmojdippdlcaaaGreatDoor.slots z1+(Eo ep cs).length=Go.Proofs.YtpmojdippdlcaaaGreatDoor.slots z:=w2
   have w3:Go.Proofs.YtpmojdippdlcaaaGreatDoor.fr z≤Go.Proofs.YtpmojdippdlcaaaGreatDoor.fr z1+(Eo ep cs).length:=w3
   obtain ⟨y,z3,hP,hZ⟩:=hE
   have hA:=PutG.free (by omega) hP
   obtain ⟨_,v1,v2,v3,v4⟩:=(AppG.ok w1 (by omega) hA (by decide)).resolve_left (fun h=>absurd h.1 (by decide))
   rcases hZ with ⟨hZ,_⟩ | ⟨_,m',_,rfl⟩
   ·exact absurd rfl hZ
   ·refine ⟨?_,v3⟩
    show Go.Proofs.YtpmojdippdlcaaaGreatDoor.slots z3+_+1=_
    omega
structure Cutd (n:Nat) (q:Qt) (A:Ab) (z:Sg) (ep:Wd) (cs:List Chg) (z':Sg):Prop where
 nb:z'.L.nb=z.L.nb
 lg:z.S.lg=z.L.lg→z'.S.lg=z'.L.lg
 off:z'.L.d.c.off=true
 fra:FrA z.L.d.c z'.L.d.c
 told:∃ (A':Ab) (V':Nat→Blk) (zv:Sg),(A'=A∨ComA A ep cs A')∧Tl A' zv∧Sd A' z.L.nb∧zv.L.nb=z.L.nb∧LogC z.L.nb KM V' (fun j=>(bAt zv.L.bs j).seq) zv.R∧Later z'.L.d.c n KM q.n V'∧Go.Proofs.YtpmojdippdlcaaaGreatDoor.fr z≤Go.Proofs.YtpmojdippdlcaaaGreatDoor.fr zv+4
theorem Std.cut1 (h:Std A z) (hw:LW k z) (hk:k≤200000000000) (hq:q.n=0) (ha:z.L.d.c.after=1) (hr:2≤rm z) (hf:4≤Go.Proofs.YtpmojdippdlcaaaGreatDoor.fr z) (hb:Ch z ep cs=false) (hfF:Cn z cs=false) {x:N3} (hnd:B7 z ep cs (Ca A.ix)=[x])
  (hR:Si n q z ep cs (Ca A.ix) e z'):e=30∧Cutd n q A z ep cs z':=by
 obtain ⟨ky,ep',b⟩:=x
 obtain ⟨n1,n2,n3⟩:=h.nds hb
 have hgt:=h.gt hb
 have hep:ep'=ep:=(n2 (ky,ep',b) (by rw [hnd];exact Azy.2 rfl)).1
 subst hep
 have hrz:Rz A noP noQ (wr1 (G0 z) ky ep'):=⟨h.clr.last,h.clr.vw,h.clr.viewed,h.clr.ix.mono fun _ _ _ _ h=>h,h.clr.pd.mono fun _ _ _ _ h=>h,h.clr.la,h.clr.va,h.clr.kd,h.clr.nd,h.clr.cm,h.clr.vs⟩
 have hw1:LW k (wr1 (G0 z) ky ep'):=hw.of rfl rfl
 have hlt:A.last.ep.toNat<ep'.toNat:=by have:=h.ls;omega
 rcases hR with ⟨h1,_⟩ | ⟨_,h1,_⟩ | ⟨_,_,e1,z1,hW,h3⟩
 ·rw [hb] at h1;cases h1
 ·rw [hfF] at h1;cases h1
 rw [hnd] at hW
 cases hW with
 | @stop _ _ _ _ _ _ _ y hok hp he =>
  have hA:=PutG.free (z:=wr1 (G0 z) ky ep') (by show 2≤Go.Proofs.YtpmojdippdlcaaaGreatDoor.fr z;omega) hp
  have h30:e1=30:=by
   refine Ayn fun h30=> ?_
   exact he (AppG.last (z:=wr1 (G0 z) ky ep') hw1 (by show 0<rm z;omega) hA h30).1
  subst h30
  rcases h3 with ⟨_,rfl,rfl⟩ | ⟨h3,_⟩
  ·obtain ⟨d1,d2,d3,d4,d5,d6,V',zv,d7,d8,d9,d10,d11,d12⟩:=hA.down hw1
   refine ⟨rfl,⟨d3,fun h9=>by show z1.S.lg=z1.L.lg;rw [d1,d2];exact h9,d5,d6,A,V',zv,.inl rfl,?_,h.sd,d8,d9,d10,by have d11:Go.Proofs.YtpmojdippdlcaaaGreatDoor.fr z≤Go.Proofs.YtpmojdippdlcaaaGreatDoor.fr zv+1:=d11;omega⟩⟩
   rcases d12 with d12 | ⟨y,d12⟩
   ·exact (hrz.grw hw1 d12).tl fun _ _ _ h=>h.elim
   ·exact ((hrz.write hw1 (b:=b) hok d12).tl fun k e b h=>by
     rcases h with h | h
     ·exact h.elim
     ·simp only [A13] at h
      rw [h.2.1];exact hlt).same rfl rfl
  ·cases h3
 | @go _ _ _ _ _ z2 _ _ y hok hp ht =>
  cases ht with
  | nil =>
   have hA:=PutG.free (z:=wr1 (G0 z) ky ep') (by show 2≤Go.Proofs.YtpmojdippdlcaaaGreatDoor.fr z;omega) hp
   obtain ⟨_,w1,w2,w3,w4⟩:=(AppG.ok (z:=wr1 (G0 z) ky ep') hw1 (by omega) hA (by decide)).resolve_left (fun h=>absurd h.1 (by decide))
   have w2:Go.Proofs.YtpmojdippdlcaaaGreatDoor.slots z2+1=Go.Proofs.YtpmojdippdlcaaaGreatDoor.slots z:=w2
   have hrm:1≤rm z2∧Go.Proofs.YtpmojdippdlcaaaGreatDoor.fr z2=Go.Proofs.YtpmojdippdlcaaaGreatDoor.fr z:=by
    have:=Aon z
    unfold Go.Proofs.YtpmojdippdlcaaaGreatDoor.slots at w2
    omega
   obtain ⟨_,_,haft⟩:=AppG.last (z:=wr1 (G0 z) ky ep') hw1 (by show 0<rm z;omega) hA (by decide)
   have haft:z2.L.d.c.after=0:=by
    rcases haft hq with h9 | ⟨_,h9⟩
    ·have h9:z.L.d.c.after<0:=h9;omega
    ·have h9:z2.L.d.c.after=w64 (z.L.d.c.after - 1):=h9
     rw [h9,ha];rfl
   rcases h3 with ⟨h3,_⟩ | ⟨_,m,z3,hM,hE,rfl⟩
   ·exact absurd rfl h3
   have hrz2:Rz A (I5 noP (B7 z ep' cs (Ca A.ix))) (fun k e b'=>noQ k e b'∨(k,e,b')=(ky,ep',b)) (wr2 z2 ky ep' y):=by
    rw [hnd];exact hrz.write hw1 hok w4
   have hw2:LW (k+1) (wr2 z2 ky ep' y):=w1.of rfl rfl
   have hsum:K5 m=Ux (Cc z cs) (ixN A z ep' cs):=Zl (L5 hrz2 (fun _ _ h=>h) hM) (h.ixN_live hb)
   obtain ⟨s1,s2⟩:=h.fin hb hfF hsum
   obtain ⟨y2,z4,hP,hZ⟩:=hE
   have hA2:=PutG.free (z:=wr2 z2 ky ep' y) (by show 2≤Go.Proofs.YtpmojdippdlcaaaGreatDoor.fr z2;omega) hP
   have h30:e=30:=by
    refine Ayn fun h30=> ?_
    obtain ⟨_,_,h8⟩:=AppG.last (z:=wr2 z2 ky ep' y) hw2 (by show 0<rm z2;omega) hA2 h30
    rcases h8 hq with h9 | ⟨h9,_⟩
    ·have h9:z2.L.d.c.after<0:=h9;omega
    ·exact h9 haft
   subst h30
   rcases hZ with ⟨_,rfl⟩ | ⟨hZ,_⟩
   ·obtain ⟨d1,d2,d3,d4,d5,d6,V',zv,d7,d8,d9,d10,d11,d12⟩:=hA2.down hw2
    have hnb:z2.L.nb=z.L.nb:=w4.nb
    have d3:z3.L.nb=z2.L.nb:=d3
    have d6:FrA z2.L.d.c z3.L.d.c:=d6
    have d8:zv.L.nb=z2.L.nb:=d8
    have d9:LogC z2.L.nb KM V' (fun j=>(bAt zv.L.bs j).seq) zv.R:=d9
    have d11:Go.Proofs.YtpmojdippdlcaaaGreatDoor.fr z2≤Go.Proofs.YtpmojdippdlcaaaGreatDoor.fr zv+1:=d11
    have hf0:FrA z.L.d.c z2.L.d.c:=hA.fra
    refine ⟨rfl,⟨d3.trans hnb,fun h9=> ?_,d5,hf0.trans d6,?_⟩⟩
    ·show z3.S.lg=z3.L.lg
     rw [d1,d2]
     show z2.S.lg=z2.L.lg
     rw [w4.S,hA.2.1]
     exact h9
    rcases d12 with d12 | ⟨y3,d12⟩
    ·refine ⟨A,V',zv,.inl rfl,(hrz2.grw hw2 d12).tl fun k e b h=> ?_,h.sd,d8.trans hnb,by rw [← hnb];exact d9,d10,by omega⟩
     rcases h with h | h
     ·exact h.elim
     ·simp only [A13] at h
      rw [h.2.1];exact hlt
    ·have hM2:Mz (wr2 z2 ky ep' y).S (Cc z cs) m:=hM
     have hfin:=Rz.fin (c:=⟨ep',Cc z cs,K5 m⟩) hw2 hrz2 d12 hM2 hgt h.ls (fun ky2 e2 b2 hq2=>by
      rcases hq2 with h9 | h9
      ·exact h9.elim
      ·simp only [A13] at h9
       obtain ⟨rfl,rfl,rfl⟩:=h9
       exact ⟨rfl,Gx n1 (by rw [hnd];exact Azy.2 rfl)⟩) (fun ky2 e2 b2 hp2=>by
      rcases Pk hp2 with hx | hx
      ·exact (n2 _ hx).1
      ·cases hx) (fun ky2 hl hp2=>by
      refine n3 ky2 hl fun hk2=> ?_
      obtain ⟨⟨k',e',b'⟩,hx,rfl⟩:=A2b.1 hk2
      rw [Gx n1 hx] at hp2
      cases hp2)
     exact ⟨_,V',zv,.inr s2,(hfin.tl fun _ _ _ h=>h.elim).same rfl rfl,s1,d8.trans hnb,by rw [← hnb];exact d9,d10,by omega⟩
   ·cases hZ
end
end
section
open Go.K
variable {T:TypeId}
section
variable {L:Lg}
def Lg.chip (L:Lg) (c:Chip):Lg:={ L with d:=⟨L.d.dk,L.d.t,c⟩ }
theorem Au6 {a k:Int}:Does Tryz.prog 36 [ptr L.d.c.aP,.int .i64 a,.int .i64 k] (lgH L) (Is (.tuple #[]) (lgH (L.chip (Vb L.d.c a k)))):=by
 rw [Ey,Ey]
 exact (Atl (d:=L.d) (a:=a) (k:=k)).inIs sP aQ sP
theorem Awi:Does Tryz.prog 38 [ptr L.d.c.aP] (lgH L) (Is (.tuple #[]) (lgH (L.chip (onC L.d.c)))):=by
 rw [Ey,Ey]
 exact (Avi (d:=L.d)).inIs sP aQ sP
end
section
variable {n k:Nat} {q:Qt} {A:Ab} {z:Sg}
theorem WI.chip (h:WI n k q z) {c:Chip} (hb:c.blocks=z.L.d.c.blocks) (up:Up c) (hp:c.pc=z.L.d.c.pc) (hw:c.wc=z.L.d.c.wc) (hpf:c.pf=z.L.d.c.pf) (hwf:c.wf=z.L.d.c.wf):WI n k q ⟨z.S,z.L.chip c,z.R⟩:=by
 obtain ⟨h1,V,hZ⟩:=h
 refine ⟨h1,V,hZ.num,DV.same hZ.dv hb up hp hw,?_,hZ.lv⟩
 have h2:=hZ.acc
 unfold Acc at h2 ⊢
 have e1:FP c=FP z.L.d.c:=by unfold FP;rw [hpf,hp]
 have e2:FW c=FW z.L.d.c:=by unfold FW;rw [hwf,hw]
 show z.L.d.t.ts.lost.length+FP c+FW c≤q.n∧_
 rw [e1,e2]
 exact h2
theorem WI.up (h:WI n k q z):Up z.L.d.c:=h.2.choose_spec.dv.di.up
theorem Std.chip (h:Std A z) (c:Chip):Std A ⟨z.S,z.L.chip c,z.R⟩ :=
 ⟨⟨h.rz.last,h.rz.vw,h.rz.viewed,fun k=>h.rz.ix k,fun k=>h.rz.pd k,h.rz.la,h.rz.va,h.rz.kd,h.rz.nd,h.rz.cm,h.rz.vs⟩,h.seen,h.stray,h.strk,h.hurt,h.live,h.ep,h.ls,h.l0,h.sum,h.lim,h.nb4,h.fr,h.vwm,h.v0⟩
theorem Ao6 (h:Std A z) (hw:WI n k q z) {key:Int}:Does Tryz.prog 19 [ptr z.S.st,.int .i64 key] (Dy T::(z.S.st,true,C (stC z.S) tSt)::(z.S.ib,true,z.S.idx.obj .i64)::(z.S.pb,true,z.S.pend.obj .i64)::(lgH z.L++[]))
  (fun v H=>∃ (s:Sl By) (ky:Int) (e:Wd) (er:Int),v= .tuple #[.agg (ndC ⟨ky,e,s⟩).toArray,.int .i64 0,.int .i64 er]∧H=s.hp tU8++(Dy T::(z.S.st,true,C (stC z.S) tSt)::(z.S.ib,true,z.S.idx.obj .i64)::(z.S.pb,true,z.S.pend.obj .i64)::(lgH z.L++[])) ∧
   ((A.ix key=none∧er=61∧ky=0∧e=0∧s= .nil)∨(er=0∧ky=key∧A.ix key=some (e,s.list)∧s.isOwn=true))):=by
 cases hi:A.ix key with
 | none =>
  refine ((Ai5 (z:=z) (h.rz.ix.no hi)).inIs (H:=Dy T::(z.S.st,true,C (stC z.S) tSt)::(z.S.ib,true,z.S.idx.obj .i64)::(z.S.pb,true,z.S.pend.obj .i64)::(lgH z.L++[])) (Y':=Dy T::(z.S.st,true,C (stC z.S) tSt)::(z.S.ib,true,z.S.idx.obj .i64)::(z.S.pb,true,z.S.pend.obj .i64)::(lgH z.L++[])) sP aQ sP).mono ?_
  rintro v H ⟨rfl,rfl⟩
  exact ⟨.nil,0,0,61,rfl,by rw [Sl.hp_nil];rfl,.inl ⟨rfl,rfl,rfl,rfl,rfl⟩⟩
 | some r =>
  obtain ⟨e,b⟩:=r
  obtain ⟨en,h1,rfl,h3,h4⟩:=h.rz.ix.yes hi
  refine (W5 hw h1 h4 h3).mono ?_
  rintro v H ⟨s,rfl,rfl,hs,ho⟩
  exact ⟨s,key,en.ep,0,rfl,rfl,.inr ⟨rfl,rfl,by rw [hs],ho⟩⟩
end
theorem Au7 (x:By):Oc [bv x] 0 [x]:=fun i y h=>by
 have hi:i=0:=by have:=(Aym.1 h).1;simp at this;exact this
 subst hi
 simp at h
 subst h
 rfl
def bdy (bb:Nat) (x:By):Sl By:= .view bb 0 true [bv x] tU8 (1,2) [x] 1 ⟨Au7 x,A2q _,by simp⟩
def cs1 (b:Nat) (c:Chg):Sl Chg:= .own b [c] 1 [] ⟨by simp,A2q _,by simp⟩
def cs2 (b:Nat) (c d:Chg):Sl Chg:= .own b [c,d] 2 [] ⟨by simp,A2q _,by simp⟩
theorem Au8 (b bb:Nat) (k:Int) (g:Bool) (x:By):(cs1 b ⟨k,g,bdy bb x⟩).hp tCg++(cbH (cs1 b ⟨k,g,bdy bb x⟩).list++[])=(b,true,C [.int .i64 k,.bool g,.slice (some ⟨bb,0,none⟩) 1 1] tCg)::(bb,true,CF [bv x] tU8 (1,2))::[]:=by
 unfold cs1
 rw [Sl.hp_own]
 show _++(cbH [⟨k,g,bdy bb x⟩]++[])=_
 unfold cbH bdy
 simp only [A0m,List.flatMap_nil,A1j]
 rw [Sl.hp_view]
 rfl
theorem Au9 (b bb:Nat) (k k':Int) (g g':Bool) (x:By):(cs2 b ⟨k,g,.nil⟩ ⟨k',g',bdy bb x⟩).hp tCg++(cbH (cs2 b ⟨k,g,.nil⟩ ⟨k',g',bdy bb x⟩).list++[])=(b,true,C [.int .i64 k,.bool g,.slice none 0 0,.int .i64 k',.bool g',.slice (some ⟨bb,0,none⟩) 1 1] tCg)::(bb,true,CF [bv x] tU8 (1,2))::[]:=by
 unfold cs2
 rw [Sl.hp_own]
 show _++(cbH [⟨k,g,.nil⟩,⟨k',g',bdy bb x⟩]++[])=_
 unfold cbH bdy
 simp only [A0m,List.flatMap_nil,A1j]
 rw [Sl.hp_view,Sl.hp_nil]
 rfl
theorem Pl (l:Lv) (k:Int) (s:Sl By):Eh l ⟨k,false,s⟩=Eg l k:=rfl
theorem Agv (l:Lv) (k:Int) (s:Sl By):Eh l ⟨k,true,s⟩=Gv l k:=rfl
structure Sp1 (A:Ab) (z:Sg):Prop where
 std:Std A z
 wi:WI 16 200000000 (q0 16) z
 ep:A.last.ep=1
 lv:A.last.lv=Eg lv0 5
 seen:A.seen=1
 stray:∀ k,A.stray k=false
 ix:A.ix 5=some (1,[120])
 rm:2≤Go.Proofs.YtpmojdippdlcaaaGreatDoor.rm z
 fr:5≤Go.Proofs.YtpmojdippdlcaaaGreatDoor.fr z
 nb:z.L.nb=10
theorem Ava {z:Sg} (hL:Laid11 16 z) {b bb:Nat}:Does Tryz.prog 16 [ptr z.S.st,wv 1,.slice (some ⟨b,0,none⟩) 1 1] (Dy T::(z.S.st,true,C (stC z.S) tSt)::(z.S.ib,true,z.S.idx.obj .i64)::(z.S.pb,true,z.S.pend.obj .i64)::(z.S.sb,true,z.S.stray.obj .i64)::(lgH z.L++((b,true,C [.int .i64 5,.bool false,.slice (some ⟨bb,0,none⟩) 1 1] tCg)::(bb,true,CF [bv 120] tU8 (1,2))::[])))
  (fun v H=>∃ z':Sg,v= .int .i64 0∧H=Dy T::(z'.S.st,true,C (stC z'.S) tSt)::(z'.S.ib,true,z'.S.idx.obj .i64)::(z'.S.pb,true,z'.S.pend.obj .i64)::(z'.S.sb,true,z'.S.stray.obj .i64)::(lgH z'.L++((b,true,C [.int .i64 5,.bool false,.slice (some ⟨bb,0,none⟩) 1 1] tCg)::(bb,true,CF [bv 120] tU8 (1,2))::[]))∧z'.S.st=z.S.st∧∃ A,Sp1 A z'):=by
 have hstd:=hL.std ⟨by omega,by omega⟩
 have hnb:z.L.nb=10:=by have:=hL.nb;omega
 have hfr:fr z=10:=by unfold fr;rw [hL.free,hnb]
 have hrm:rm z=0:=by
  rcases hL.wi.lw.lst with ⟨h1,_⟩ | ⟨l,h1,h2,h3,_⟩
  ·unfold rm;rw [h1];rfl
  ·exfalso
   have h4:=hL.free
   have:Cb z.L.bs z.L.nb+1≤z.L.nb:=by
    have key:∀ k,l<k→Cb z.L.bs k+1≤k:=fun k=>by
     induction k with
     | zero=>intro h;omega
     | succ k ih =>
      intro h
      rw [F8]
      by_cases e:l=k
      ·subst e
       have:=Sw z.L.bs l
       unfold z1
       rw [A26 h3]
       omega
      ·have:=ih (by omega)
       unfold z1
       split <;> omega
    exact key _ h2
   omega
 have hf:=Nr (T:=T) hstd hL.wi (by omega) (A2r 3) hL.af (by omega) (ep:=1) (cs:=cs1 b ⟨5,false,bdy bb 120⟩) (by show 1≤300;omega)
 rw [Au8] at hf
 refine hf.mono ?_
 rintro v H ⟨e,z',rfl,rfl,hst,⟨hw,hfra,hc⟩,hR⟩
 have hbad:Ch z 1 (cs1 b ⟨5,false,bdy bb 120⟩).list=false:=by
  unfold Ch L4
  rw [hstd.seen]
  show (!(decide (((1:Wd).toNat:Int)>((0:Wd).toNat:Int)) && [(⟨5,false,bdy bb 120⟩:Chg)].all Pb) || !Rn [5])=false
  rw [onceC_iff.2 (by simp)]
  rfl
 have hlv:Cc z (cs1 b ⟨5,false,bdy bb 120⟩).list=Eg lv0 5:=by
  rw [hstd.lv]
  show Eh lv0 ⟨5,false,bdy bb 120⟩=_
  exact Pl lv0 5 (bdy bb 120)
 have hfull:Cn z (cs1 b ⟨5,false,bdy bb 120⟩).list=false:=by
  unfold Cn
  rw [hlv,hnb]
  decide +kernel
 rcases hc with ⟨h1,_⟩ | ⟨_,h1,_⟩ | ⟨_,_,rfl,A,hcom,hA⟩
 ·rw [hbad] at h1;cases h1
 ·rw [hfull] at h1;cases h1
 obtain ⟨s1,s2⟩:=hstd.slots (fun _=>rfl) hL.wi.lw (by omega) hbad hfull (by rw [hfr];show 4+1≤10;omega) (by show 1≤1000;omega) hR
 have s1:slots z'+1+1=slots z:=s1
 unfold slots at s1
 rw [hfr,hrm] at s1
 refine ⟨z',rfl,rfl,hst,A,hA,hw.mono (by omega),hcom.ep,(by rw [hcom.lv];show Eh lv0 ⟨5,false,bdy bb 120⟩=_;exact Pl lv0 5 (bdy bb 120)),hcom.seen,hcom.stray,hcom.chg _ (Azy.2 rfl) rfl,by omega,by omega,by have:=hw.2.choose_spec.num;omega⟩
theorem Avb {A:Ab} {z:Sg} (h:Sp1 A z) {b bb:Nat}:Does Tryz.prog 16 [ptr z.S.st,wv 2,.slice (some ⟨b,0,none⟩) 2 2] (Dy T::(z.S.st,true,C (stC z.S) tSt)::(z.S.ib,true,z.S.idx.obj .i64)::(z.S.pb,true,z.S.pend.obj .i64)::(z.S.sb,true,z.S.stray.obj .i64)::(lgH (z.L.chip (Vb z.L.d.c 1 9))++((b,true,C [.int .i64 5,.bool true,.slice none 0 0,.int .i64 6,.bool false,.slice (some ⟨bb,0,none⟩) 1 1] tCg)::(bb,true,CF [bv 121] tU8 (1,2))::[])))
  (fun v H=>∃ z':Sg,v= .int .i64 30∧H=Dy T::(z'.S.st,true,C (stC z'.S) tSt)::(z'.S.ib,true,z'.S.idx.obj .i64)::(z'.S.pb,true,z'.S.pend.obj .i64)::(z'.S.sb,true,z'.S.stray.obj .i64)::(lgH z'.L++((b,true,C [.int .i64 5,.bool true,.slice none 0 0,.int .i64 6,.bool false,.slice (some ⟨bb,0,none⟩) 1 1] tCg)::(bb,true,CF [bv 121] tU8 (1,2))::[]))∧z'.S.st=z.S.st∧z'.S.lg=z'.L.lg∧Up (onC z'.L.d.c)∧z'.L.d.c.blocks.length=16∧∃ (A':Ab) (V':Nat→Blk) (zv:Sg),((A'.last.ep=1∧A'.ix 5=some (1,[120]))∨(A'.last.ep=2∧A'.ix 5=none))∧Tl A' zv∧Sd A' 10∧zv.L.nb=10∧LogC 10 KM V' (fun j=>(bAt zv.L.bs j).seq) zv.R∧Later z'.L.d.c 16 KM 0 V'∧1≤fr zv):=by
 have hup:=h.wi.up
 have hw:WI 16 200000000 (q0 16) ⟨z.S,z.L.chip (Vb z.L.d.c 1 9),z.R⟩:=h.wi.chip rfl ⟨hup.off,hup.dead,hup.out⟩ rfl rfl rfl rfl
 have hs:=h.std.chip (Vb z.L.d.c 1 9)
 have hlen:z.L.d.c.blocks.length=16:=h.wi.2.choose_spec.dv.di.len
 have hbad:Ch ⟨z.S,z.L.chip (Vb z.L.d.c 1 9),z.R⟩ 2 (cs2 b ⟨5,true,.nil⟩ ⟨6,false,bdy bb 121⟩).list=false:=by
  unfold Ch L4
  show (!(decide (((2:Wd).toNat:Int)>(z.S.seen.toNat:Int)) && [(⟨5,true,.nil⟩:Chg),⟨6,false,bdy bb 121⟩].all Pb) || !Rn [5,6])=false
  rw [h.std.seen,h.seen,onceC_iff.2 (by simp)]
  rfl
 have hlv:Cc ⟨z.S,z.L.chip (Vb z.L.d.c 1 9),z.R⟩ (cs2 b ⟨5,true,.nil⟩ ⟨6,false,bdy bb 121⟩).list=Eg (Gv (Eg lv0 5) 5) 6:=by
  rw [hs.lv,h.lv]
  show Eh (Eh (Eg lv0 5) ⟨5,true,.nil⟩) ⟨6,false,bdy bb 121⟩=_
  rw [Pl,Agv]
 have hfull:Cn ⟨z.S,z.L.chip (Vb z.L.d.c 1 9),z.R⟩ (cs2 b ⟨5,true,.nil⟩ ⟨6,false,bdy bb 121⟩).list=false:=by
  unfold Cn
  rw [hlv]
  show decide (((C8 (Eg (Gv (Eg lv0 5) 5) 6) 256).length:Int)>Hy (z.L.nb:Nat))=false
  rw [h.nb]
  decide +kernel
 have hnd:B7 ⟨z.S,z.L.chip (Vb z.L.d.c 1 9),z.R⟩ 2 (cs2 b ⟨5,true,.nil⟩ ⟨6,false,bdy bb 121⟩).list (Ca A.ix)=[(6,2,[121])]:=by
  unfold B7
  rw [hs.again_nil h.stray]
  rfl
 have h13:z.L.nb≤13:=by rw [h.nb];omega
 have hf:=Xa (T:=T) (bi:=Ca A.ix) (ep:=2) (cs:=cs2 b ⟨5,true,.nil⟩ ⟨6,false,bdy bb 121⟩) hw (by omega) (A2r 3) (by show 2≤300;omega) hs.hm hs.hA (fun _=>by rw [hnd];show 1≤300;omega) (fun hb hf=>hs.hS hw.lw (by omega) h13 hb hf) (fun hb hf=>hs.hE hw.lw (by omega) h13 hb hf)
 rw [Au9] at hf
 refine hf.mono ?_
 rintro v H ⟨e,z',rfl,rfl,hst,hR,_⟩
 obtain ⟨rfl,hC⟩:=hs.cut1 hw.lw (by omega) rfl rfl h.rm (by have:=h.fr;show 4≤fr z;omega) hbad hfull hnd hR
 obtain ⟨A',V',zv,c1,c2,c3,c4,c5,c6,c7⟩:=hC.told
 have hfra:=hC.fra
 refine ⟨z',rfl,rfl,hst,hC.lg hw.1,⟨rfl,hfra.dead.trans hup.dead,hfra.out.trans hup.out⟩,hfra.len.trans hlen,A',V',zv,?_,c2,by have c3:Sd A' z.L.nb:=c3;rw [h.nb] at c3;exact c3,c4.trans h.nb,by have c5:LogC z.L.nb KM V' (fun j=>(bAt zv.L.bs j).seq) zv.R:=c5;rw [h.nb] at c5;exact c5,c6,by have:=h.fr;have c7:fr z≤fr zv+4:=c7;omega⟩
 rcases c1 with rfl | c1
 ·exact .inl ⟨h.ep,h.ix⟩
 ·refine .inr ⟨c1.ep,?_⟩
  have h1:=c3.live 5
  rw [c1.lv,h.lv] at h1
  have h2:B4 (List.foldl Eh (Eg lv0 5) (cs2 b ⟨5,true,.nil⟩ ⟨6,false,bdy bb 121⟩).list) 5=false:=by
   show B4 (Eh (Eh (Eg lv0 5) ⟨5,true,.nil⟩) ⟨6,false,bdy bb 121⟩) 5=false
   rw [Pl,Agv]
   decide +kernel
  rw [h2] at h1
  cases hi:A'.ix 5 with
  | none=>rfl
  | some r=>rw [hi] at h1;cases h1
end
section
open Go.K
variable {T:TypeId}
instance und26:Und Tryz.prog 26 (.pointer 67):=⟨Tryz.underlying26⟩
instance plc45:Plc Tryz.prog 45 [(0,1),(1,1),(2,1)]:=⟨⟨_,Tryz.underlying45,fun _=>by kernel_rfl⟩⟩
instance ent13:Ent Tryz.prog 13:=⟨fun _ _=>by kernel_rfl⟩
theorem Avc {L:Lg} {A:Ab} {V:Nat→Blk} {zv:Sg} (hup:Up (onC L.d.c)) (hlen:L.d.c.blocks.length=16) (hT:Tl A zv) (hd:Sd A 10) (hnb:zv.L.nb=10) (hC:LogC 10 KM V (fun j=>(bAt zv.L.bs j).seq) zv.R) (hl:Later L.d.c 16 KM 0 V) (hf:1≤fr zv) :
  Does Tryz.prog 26 [ptr L.d.c.aC] (lgH (L.chip (onC L.d.c)))
  (fun v H=>∃ (z:Sg) (A':Ab) (q:Qt),v=ptr z.S.st∧H=(z.S.st,true,C (stC z.S) tSt)::(z.S.ib,true,z.S.idx.obj .i64)::(z.S.pb,true,z.S.pend.obj .i64)::(z.S.sb,true,z.S.stray.obj .i64)::(lgH z.L++[])∧Std A' z∧WI 16 KM q z∧A'.last=A.last∧A'.ix=A.ix):=by
 obtain ⟨t2,o1,o2,o3⟩:=hl (onC L.d.c) rfl hup rfl rfl
 rw [Ey]
 refine (Xg (d:=⟨L.d.dk,L.d.t,onC L.d.c⟩) (t2:=t2) (n:=16) (nb:=10) (k:=KM) (q:=⟨0,t2.uses⟩) (V:=V) (sq:=fun j=>(bAt zv.L.bs j).seq) (z:=zv) (A:=A) ⟨by show 2≤L.d.c.blocks.length;omega,by show L.d.c.blocks.length≤1000;omega⟩ o1 o2 ⟨o3,fun _=>rfl⟩ rfl hC hnb (fun _ _=>rfl) hT hd hf (by omega)).inn sP fun v Y hh=> ?_
 obtain ⟨z',rfl,rfl,hW,_,_,A',h1,h2,_,_,h3,_⟩:=hh
 exact ⟨_,⟨z',A',_,rfl,rfl,h1,hW,h2,h3⟩,_,_,aQ,sP⟩
theorem Avd {A A':Ab} {l:Cm} {s:Sl By} {ky er:Int} {en:Wd} (hz:l=A'.last) (hl:A'.last=A.last) (hi:A'.ix=A.ix) (h:(A.last.ep=1∧A.ix 5=some (1,[120]))∨(A.last.ep=2∧A.ix 5=none))
  (hN:(A'.ix 5=none∧er=61∧ky=0∧en=0∧s= .nil)∨(er=0∧ky=5∧A'.ix 5=some (en,s.list)∧s.isOwn=true)) :
  Value.bool (decide ((l.ep.toNat:Int)=1) && decide (er=0) && decide (s.list=[120]) || decide ((l.ep.toNat:Int)=2) && decide (er=61))=Value.bool true:=by
 rw [hz,hl]
 rw [hi] at hN
 rcases h with ⟨a1,a2⟩ | ⟨a1,a2⟩
 ·rw [a2] at hN
  rcases hN with ⟨b1,_⟩ | ⟨b1,_,b2,_⟩
  ·cases b1
  ·have b3:=A1h b2
   simp only [A13] at b3
   rw [a1,b1,← b3.2]
   rfl
 ·rw [a2] at hN
  rcases hN with ⟨_,b1,_⟩ | ⟨_,_,b2,_⟩
  ·rw [a1,b1]
   simp
  ·cases b2
theorem Aco:Does Tryz.prog 13 [] [Dy T] (Is (.bool true) [Dy T]):=by
 refine Ah (n:=100) Tryz.func13 Tryz.ntmps13 rfl (Ay9 rfl)<|Ad<|Aa fun ops=>oA rfl<|Ac<|n_K<|Ad<|Aa fun ops=> ?_
 refine Bd rfl (Xb (m:=16) ⟨by omega,by omega⟩) sP rfl fun v7 Y7 h7=> ?_
 obtain ⟨z0,rfl,rfl,hL⟩:=h7
 refine Ay aQ ?_
 refine oA rfl<|Ac<|n_K<|Ad<|Ad<|Aa fun ops=>oM rfl<|oR (Og rfl rfl)<|Ac<|n_K ?_
 refine Bi rfl ?_
 refine Ai<|n_K<|Ad<|Aa fun ops=>oM rfl ?_
 refine Afl rfl rfl rfl rfl rfl fun b11=> ?_
 refine oR (Bc rfl rfl) ?_
 refine A5 rfl rfl rfl rfl fun b14=> ?_
 refine Bd rfl (Ava hL (b:=b14) (bb:=b11)) sP rfl fun v15 Y15 h15=> ?_
 obtain ⟨z1,rfl,rfl,hst1,A1,h1⟩:=h15
 rw [← hst1]
 refine Ay aQ ?_
 refine oA rfl<|Ac<|n_K<|Ad<|Aa fun ops=>oM rfl<|oN rfl<|oF rfl ?_
 refine oR (show Rd _ _ _ _ (ptr z1.L.lg) from by rw [← h1.wi.1];exact Al rfl mM rfl) ?_
 refine oN rfl<|oF rfl ?_
 refine oR (Qn (L:=z1.L) rfl pL) ?_
 refine oN rfl<|oF rfl ?_
 refine oR (Y1 (L:=z1.L) rfl pL) ?_
 refine oN rfl<|oF rfl ?_
 refine oR (Anl (L:=z1.L) rfl pL) ?_
 refine A6 rfl (Au6 (L:=z1.L) (a:=1) (k:=9)) sP rfl aQ ?_
 refine Ac<|n_K<|Ad<|Aa fun ops=>oM rfl<|oR (Bc rfl rfl) ?_
 refine Afl rfl rfl rfl rfl rfl fun b32=> ?_
 refine oR (Bc rfl rfl) ?_
 refine A5 rfl rfl rfl rfl fun b35=> ?_
 refine Bd rfl (Avb h1 (b:=b35) (bb:=b32)) sP rfl fun v36 Y36 h36=> ?_
 obtain ⟨z2,rfl,rfl,hst2,hlg2,hup2,hlen2,A2,V2,zv,hA2,hT2,hD2,hn2,hC2,hLt2,hf2⟩:=h36
 rw [← hst2]
 refine Ay aQ ?_
 refine oA rfl<|Ac<|n_K<|Ad<|Aa fun ops=>oM rfl<|oN rfl<|oF rfl ?_
 refine oR (show Rd _ _ _ _ (ptr z2.L.lg) from by rw [← hlg2];exact Al rfl mM rfl) ?_
 refine oN rfl<|oF rfl ?_
 refine oR (Qn (L:=z2.L) rfl pL) ?_
 refine oN rfl<|oF rfl ?_
 refine oR (Y1 (L:=z2.L) rfl pL) ?_
 refine oN rfl<|oF rfl ?_
 refine oR (Anl (L:=z2.L) rfl pL) ?_
 refine A6 rfl (Awi (L:=z2.L)) sP rfl aQ ?_
 refine Ac<|n_K<|Ad<|Aa fun ops=>oM rfl<|oN rfl<|oF rfl ?_
 refine oR (show Rd _ _ _ _ (ptr z2.L.lg) from by rw [← hlg2];exact Al rfl mM rfl) ?_
 refine oN rfl<|oF rfl ?_
 refine oR (show Rd _ _ _ _ (ptr z2.L.d.dk) from Qn (L:=z2.L.chip (onC z2.L.d.c)) rfl pL) ?_
 refine oN rfl<|oF rfl ?_
 refine oR (show Rd _ _ _ _ (ptr z2.L.d.c.aC) from Y1 (L:=z2.L.chip (onC z2.L.d.c)) rfl pL) ?_
 refine Bd rfl (Avc (L:=z2.L) hup2 hlen2 hT2 hD2 hn2 hC2 hLt2 hf2) sP rfl fun v61 Y61 h61=> ?_
 obtain ⟨z3,A3,q3,rfl,rfl,hS3,hW3,hl3,hi3⟩:=h61
 refine Ay aQ ?_
 refine oA rfl<|Ac<|n_K<|Ad<|Ad ?_
 refine Bf [(2,64),(6,68)] rfl fun ops y=> ?_
 refine oM rfl<|oR (Og rfl rfl)<|oM rfl ?_
 refine' Es (j:=2) (k:=2) y rfl rfl rfl rfl rfl rfl rfl (fun hg64=> ?_) ?_
 rotate_left
 ·try (simp at hg64;show _)
  refine o_g y rfl rfl ?_
  refine oM rfl ?_
  refine o_g y rfl rfl ?_
  refine oR (Ae rfl rfl rfl) ?_
  exact Ac ⟨rfl,rfl,⟨_,sP⟩⟩
 refine oM rfl ?_
 refine' Es (j:=6) (k:=2) y rfl rfl rfl rfl rfl rfl rfl (fun hg68=> ?_) ?_
 rotate_left
 ·try (simp at hg68;show _)
  refine o_g y rfl rfl ?_
  refine oM rfl ?_
  refine o_g y rfl rfl ?_
  refine oR (Ae rfl rfl rfl) ?_
  exact Ac ⟨rfl,rfl,⟨_,sP⟩⟩
 refine Ac<|n_K ?_
 refine Bi rfl ?_
 refine Ai<|n_K<|Ad<|Aa fun ops=>oM rfl ?_
 refine Bd rfl (Ao6 hS3 hW3 (key:=5)) sP rfl fun v74 Y74 h74=> ?_
 obtain ⟨s74,ky,en,er,rfl,rfl,hN⟩:=h74
 refine Ay aQ ?_
 refine oM rfl<|oE rfl rfl<|oE rfl rfl<|oE rfl rfl ?_
 refine Aw rfl fun b4=> ?_
 refine Af rfl rfl uD rfl rfl rfl ?_
 refine oA rfl<|oA rfl<|Ac<|n_K<|Ad ?_
 refine Bf [(3,81),(7,85),(13,91),(17,95)] rfl fun ops y=> ?_
 refine oM rfl ?_
 refine A6 rfl (O9 (S:=z3.S)) sP rfl aQ ?_
 refine oR (Ae rfl rfl rfl)<|oM rfl ?_
 refine' Df (j:=3) (k:=2) y rfl rfl rfl rfl rfl rfl rfl (fun hg81=> ?_) ?_
 rotate_left
 ·try (simp at hg81;show _)
  refine o_g y rfl rfl ?_
  refine oM rfl ?_
  refine o_g y rfl rfl ?_
  refine oR (Ae rfl rfl rfl) ?_
  exact Ac ⟨rfl,rfl,⟨_,sP⟩⟩
 refine oM rfl ?_
 refine' Df (j:=7) (k:=4) y rfl rfl rfl rfl rfl rfl rfl (fun hg85=> ?_) ?_
 rotate_left
 ·try (simp at hg85;show _)
  refine o_g y rfl rfl ?_
  refine oF rfl ?_
  refine o_g y rfl rfl ?_
  refine oR (Al rfl mM rfl) ?_
  refine o_g y rfl rfl ?_
  refine oR (Li (v:=s74) (T:=tU8) rfl (PickL.toSub (L:=s74.hp tU8) pL)) ?_
  refine o_g y rfl rfl ?_
  refine oR (Aal (ys:=[120]) rfl rfl) ?_
  exact Ac ⟨rfl,rfl,⟨_,sP⟩⟩
 refine oM rfl ?_
 refine' Es (j:=13) (k:=7) y rfl rfl rfl rfl rfl rfl rfl (fun hg91=> ?_) ?_
 rotate_left
 ·try (simp at hg91;show _)
  refine o_g y rfl rfl ?_
  refine oM rfl ?_
  refine o_g y rfl rfl ?_
  refine A6 rfl (O9 (S:=z3.S)) sP rfl aQ ?_
  refine o_g y rfl rfl ?_
  refine oR (Ae rfl rfl rfl) ?_
  refine o_g y rfl rfl ?_
  refine oM rfl ?_
  refine' Df (j:=17) (k:=2) y rfl rfl rfl rfl rfl rfl rfl (fun hg95=> ?_) ?_
  rotate_left
  ·try (simp at hg95;show _)
   refine o_g y rfl rfl ?_
   refine oM rfl ?_
   refine o_g y rfl rfl ?_
   refine oR (Ae rfl rfl rfl) ?_
   exact Ac ⟨rfl,rfl,⟨_,sP⟩⟩
  exact Ac ⟨rfl,rfl,⟨_,sP⟩⟩
 refine oA rfl<|Ac<|n_K<|An ?_
 refine Aq (At Tryz.results13 (Ag rfl)) ?_ sP
 exact Avd hS3.rz.last hl3 hi3 hA2 hN
end
section
open Go.K
variable {T:TypeId}
instance byt45:Byt Tryz.prog 45 40:=⟨by kernel_rfl⟩
theorem Agw {P:Program} {E:Env} {H:Hp} {t u:TypeId} {x y:Operand} {a b:Wd} (hx:ev E x=some (wv a)) (hy:ev E y=some (wv b)):Rd P E H (.binOp .add t x y u) (wv (a+b)):=by
 have e:((a+b).toNat:Int)=IntKind.u64.wrap ((a.toNat:Int)+(b.toNat:Int)):=by
  rw [Ex .u64 rfl,show ((a.toNat:Int)+(b.toNat:Int))=((a.toNat+b.toNat:Nat):Int) by omega,Azr]
  show ((a+b).toNat:Int)=((BitVec.ofNat 64 (a.toNat+b.toNat)).toNat:Int)
  rw [A05,Az0]
 unfold wv
 rw [e]
 exact Ae hx hy rfl
theorem Asq (l:List Chg) (x:Chg) (D:Hp):cbH (l++[x])++D=cbH l++(x.body.hp tU8++D):=by
 unfold cbH
 simp
theorem Ave:cbH []=[]:=by unfold cbH;rfl
section
variable {i:Nat} {A:Ab} {z:Sg}
end
end
section
open Go.ChangeShapes Go.WideShapes Go.ChangeAt Go.RowKit Go.K
set_option linter.constructorNameAsVariable false
theorem own:ownKnob Tryz.prog.godebug=none:=by kernel_rfl
theorem Asw:laidOutB Tryz.prog=true:=by kernel_rfl
abbrev Atf : List (A24 × DataW Unit) := [("keelson/store.lost", Rows.laid_keelson_store_lost)]
noncomputable def Xh (os:Os):World :=
 let w0:=World.holding Tryz.prog os ⟨#[],#[],[]⟩
 { w0 with heap:=w0.heap.modify 0 fun
   | .cells _ t frozen=> .cells #[.int .i64 (-1),.int .i64 (-1)] t frozen
   | o=>o }
theorem Ao8 (os:Os) (args:Array Value):laidMet Tryz.prog Atf ((Xh os).forCall (fun _ _=>0) ⟨#[],args,[]⟩).memory :=
 laidMet_of_run (ps:=[.cell 0 0,.cell 0 1]) 8 (by kernel_rfl) (by kernel_rfl) (by kernel_rfl)
theorem lostN : Tryz.prog.globalNamed "keelson/store.lost" = some 0 := by kernel_rfl
theorem lostT:(Tryz.prog.globals[0]?).map (·.type)=some 65:=by kernel_rfl
theorem Zm {W:World} (h:laidMet Tryz.prog Atf W):∃ T,HpOk [Dy T] W:=by
 obtain ⟨ps,⟨g,t,cs,fuel,p,q,hg,ht,hvar,hd,hq,hps⟩,hnd,hall⟩:=h
 obtain rfl:=A1h (lostN.symm.trans hg)
 obtain rfl:=A1h (lostT.symm.trans ht)
 obtain ⟨y0,y1,n,hx,hl,h0,h1⟩:=trod_struct2 Tryz.underlying65 hd
 have hl2:cs.toList.length=2:=hl.trans (by kernel_rfl)
 obtain ⟨a,b,hab⟩:∃ a b,cs.toList=[a,b]:=by
  match hc:cs.toList,hl2 with
  | [a,b],_=>exact ⟨a,b,rfl⟩
 rw [hab] at h0 h1
 obtain ⟨n0,e0,x0,_⟩:=A11 Tryz.underlying3 h0
 obtain ⟨n1,e1,x1,_⟩:=A11 Tryz.underlying3 h1
 have e0':[a]=[Value.int .i64 n0]:=e0
 have e1':[b]=[Value.int .i64 n1]:=e1
 subst x0 x1
 have hxx:Rows.laid_keelson_store_lost=(DataW.agg [.lit (.int .i64 n0),.lit (.int .i64 n1)]:DataW Unit):=(Prod.mk.inj hx).1
 unfold Rows.laid_keelson_store_lost at hxx
 simp only [DataW.agg.injEq,A1r,DataW.lit.injEq,Lit.int.injEq,and_true,true_and] at hxx
 obtain ⟨m0,m1⟩:=hxx
 have hcs:cs=#[.int .i64 (-1),.int .i64 (-1)]:=by
  have:cs.toList=[Value.int .i64 (-1),.int .i64 (-1)]:=by
   rw [hab]
   simp only [A1r,and_true] at e0' e1'
   rw [e0',e1',← m0,← m1]
  obtain ⟨l⟩:=cs
  simp only at this
  rw [this]
 have hin:MemPlace.cell 0 0∈ps:=by
  rw [hps,hcs]
  exact Azo _ (Azo _ (by simp [MemPlace.row]))
 obtain ⟨⟨c,T,hb⟩,_⟩:=hall 0 0 hin
 refine ⟨T,⟨by simp,fun x hx=> ?_⟩⟩
 rw [Azy.1 hx]
 simp only [World.var?,lostN,Option.bind_some,hb,A0h] at hvar
 rw [hb,hvar,hcs]
 rfl
end
section
open Go.K
variable {T:TypeId}
instance und22:Und Tryz.prog 22 (.slice 33):=⟨Tryz.underlying22⟩
instance agg33:Agg Tryz.prog 33 true:=⟨⟨_,Tryz.underlying33,rfl⟩⟩
instance siz33:Siz Tryz.prog 33 8:=⟨by kernel_rfl⟩
instance zer33:Zer Tryz.prog 33 ([.int .i64 0,.int .i64 0,.int .i64 0,.slice none 0 0,.int .u64 0,.int .i64 0,.int .u64 0,.int .u64 0]):=⟨by kernel_rfl⟩
instance fld33_3:Fld Tryz.prog 33 3 3:=⟨⟨_,_,0,Tryz.underlying33,rfl,by kernel_rfl,rfl⟩⟩
instance ent14:Ent Tryz.prog 14:=⟨fun _ _=>by kernel_rfl⟩
structure OpS where
 kind:Int
 n:Int
 keep:Int
 ch:Sl Chg
 vw:Vw
 jump:Wd
def Ax6 (o:OpS):List Value:=[.int .i64 o.kind,.int .i64 o.n,.int .i64 o.keep,o.ch.val,wv o.vw.num,.int .i64 o.vw.mem,wv o.vw.base,wv o.jump]
instance:Cel OpS:=⟨8,Ax6,fun _=>rfl,fun _=>rfl⟩
abbrev tOs:TypeId:=33
@[irreducible] def opH (l:List OpS):Hp:=l.flatMap fun o=>o.ch.hp tCg++cbH o.ch.list
theorem Axg {l:List OpS} {i:Nat} {o:OpS} (h:l[i]? =some o) (D:Hp):opH l++D=opH (l.take i)++(o.ch.hp tCg++(cbH o.ch.list++(opH (l.drop (i+1))++D))):=by
 obtain ⟨h1,h2⟩:=Aym.1 h
 have e:l=l.take i++o::l.drop (i+1):=by
  conv=>lhs;rw [← Aze i l,Ayq h1,h2]
 unfold opH
 conv=>lhs;rw [e]
 simp
def SmallC (cs:List Chg):Prop:=∀ c∈cs,c.body.list.length≤300
def SmallO (l:List OpS):Prop:=∀ o∈l,o.ch.list.length≤40∧SmallC o.ch.list
theorem SmallC.step {cs:List Chg} {i:Nat} {c:Chg} (h:SmallC (cs.take i)) (hg:cs[i]? =some c) (hc:c.body.list.length≤300):SmallC (cs.take (i+1)):=fun x hx=>by
 rw [A0i,hg] at hx
 rcases A1d.1 hx with h1 | h1
 ·exact h x h1
 ·rw [show x=c by simpa using h1];exact hc
theorem SmallO.step {l:List OpS} {i:Nat} {o:OpS} (h:SmallO (l.take i)) (hg:l[i]? =some o) (h1:o.ch.list.length≤40) (h2:SmallC o.ch.list):SmallO (l.take (i+1)):=fun x hx=>by
 rw [A0i,hg] at hx
 rcases A1d.1 hx with h3 | h3
 ·exact h x h3
 ·rw [show x=o by simpa using h3];exact ⟨h1,h2⟩
theorem Axq {sc:Sl OpS}:Does Tryz.prog 14 [sc.val] (sc.hp tOs++(opH sc.list++[]))
  (fun v H=>∃ b:Bool,v= .bool b∧H=sc.hp tOs++(opH sc.list++[])∧(b=false→sc.list.length≤70∧SmallO sc.list)):=by
 have hsm:=sc.small
 refine Ah (n:=33) Tryz.func14 Tryz.ntmps14 rfl (Ay9 rfl)<|Ad<|Aa fun ops=>oA rfl<|Ac<|n_K<|Ad<|Ad<|Aa fun ops=>oM rfl<|oR (A7 rfl)<|oR (Ae rfl rfl rfl)<|Ac<|n_K ?_
 refine Aj rfl (fun c9=> ?_) (fun c9=> ?_)
 ·simp only [A0d,Ayz] at c9
  refine Ad<|Aa fun ops=>oA rfl<|Ac<|n_K<|An<|r_K ?_
  exact Av (At Tryz.results14 (Ag rfl)) (by exact ⟨true,rfl,rfl,fun h=>by cases h⟩) sP
 ·simp only [A0d,Ayz] at c9
  refine Ai<|n_K<|Ad<|Ad<|Aa fun ops=>oM rfl<|oR (A7 rfl)<|oM rfl<|Ac<|n_K<|Ak ?_
  refine A8 [0,10,11] kQ (fun (st:Nat)=>[(12,.int .i64 st)]) (fun (st:Nat)=>(sc.hp tOs++(opH sc.list++[]))) (fun (st:Nat)=>st≤sc.list.length∧SmallO (sc.list.take st)) (fun (st:Nat)=>sc.list.length - st) (0) ⟨A2r _,fun x hx=>by cases hx⟩ kP sP ?_
  rintro i ⟨g0,g1⟩
  refine Ad<|Aa fun ops=>oR (Ae rfl rfl rfl)<|Ac<|n_K<|Ad ?_
  refine Aj rfl (fun c13=> ?_) (fun c13=> ?_)
  ·simp only [A0d,Ayz] at c13
   obtain ⟨o,hg⟩:∃ o,sc.list[i]? =some o:=⟨_,Ayw (by omega)⟩
   rw [Axg hg]
   have hsm2:=o.ch.small
   refine Ai<|n_K<|Ad<|Ak<|Ad<|Aa fun ops=> ?_
   refine oR (Bk (s:=sc) rfl rfl (by omega)) ?_
   refine oR (Do (s:=sc) (o:=0) rfl pL hg rfl rfl) ?_
   refine Aw rfl fun b4=> ?_
   refine Af rfl rfl uD rfl rfl rfl ?_
   refine Ac<|n_K<|Ad<|Ad<|Aa fun ops=>oF rfl ?_
   refine oR (Al rfl mM rfl) ?_
   refine oR (A7 rfl)<|oR (Ae rfl rfl rfl)<|Ac<|n_K ?_
   refine Aj rfl (fun c19=> ?_) (fun c19=> ?_)
   ·simp only [A0d,Ayz] at c19
    refine Ad<|Aa fun ops=>oA rfl<|Ac<|n_K<|An<|r_K<|Bn<|r_K<|r_K<|Bn<|r_K ?_
    exact Av (At Tryz.results14 (Ag rfl)) (by exact ⟨true,rfl,rfl,fun h=>by cases h⟩) sP
   ·simp only [A0d,Ayz] at c19
    refine Ai<|n_K<|Ad<|Aa fun ops=>oF rfl ?_
    refine oR (Al rfl mM rfl) ?_
    refine oR (A7 rfl)<|oM rfl<|Ac<|n_K<|Ak ?_
    refine A8 [0,10,11,12,21,22] kQ (fun (st:Nat)=>[(23,.int .i64 st)]) (fun (st:Nat)=>(sc.hp tOs++(opH (sc.list.take i)++(o.ch.hp tCg++(cbH o.ch.list++(opH (sc.list.drop (i+1))++[])))))) (fun (st:Nat)=>st≤o.ch.list.length∧SmallC (o.ch.list.take st)) (fun (st:Nat)=>o.ch.list.length - st) (0) ⟨A2r _,fun x hx=>by cases hx⟩ kP sP ?_
    rintro j ⟨k0,k1⟩
    refine Ad<|Aa fun ops=>oR (Ae rfl rfl rfl)<|Ac<|n_K<|Ad ?_
    refine Aj rfl (fun c24=> ?_) (fun c24=> ?_)
    ·simp only [A0d,Ayz] at c24
     obtain ⟨x,hx⟩:∃ x,o.ch.list[j]? =some x:=⟨_,Ayw (by omega)⟩
     refine Ai<|n_K<|Ad<|Ak<|Ad<|Aa fun ops=> ?_
     refine oR (Bk (s:=o.ch) rfl rfl (by omega)) ?_
     refine oR (Do (s:=o.ch) (o:=0) rfl pL hx rfl rfl) ?_
     refine Aw rfl fun b6=> ?_
     refine Af rfl rfl uD rfl rfl rfl ?_
     refine Ac<|n_K<|Ad<|Aa fun ops=>oF rfl ?_
     refine oR (Al rfl mM rfl) ?_
     refine oR (A7 rfl)<|oR (Ae rfl rfl rfl)<|Ac<|n_K ?_
     refine Aj rfl (fun c30=> ?_) (fun c30=> ?_)
     ·simp only [A0d,Ayz] at c30
      refine Ad<|Aa fun ops=>oA rfl<|Ac<|n_K<|An<|Bn<|r_K<|r_K<|Bn<|Bn<|r_K<|r_K<|Bn ?_
      refine r_K ?_
      exact Av (At Tryz.results14 (Ag rfl)) (by exact ⟨true,rfl,rfl,fun h=>by cases h⟩) sP
     ·simp only [A0d,Ayz] at c30
      refine Ai<|Az<|n_K<|Aa fun ops=> ?_
      refine oR (Ao rfl rfl (by omega)) ?_
      refine oM rfl<|Ac<|n_K ?_
      exact ⟨j+1,⟨by omega,k1.step hx (by omega)⟩,by omega,lZ⟩
    ·simp only [A0d,Ayz] at c24
     have hj:j=o.ch.list.length:=(by omega)
     subst hj
     rw [A0w] at k1
     have hgo:=g1.step hg (by omega) k1
     refine Bb<|x_K<|x_K<|Bj<|Az<|n_K<|Aa fun ops=> ?_
     refine oR (Ao rfl rfl (by omega)) ?_
     refine oM rfl<|Ac<|n_K ?_
     exact ⟨i+1,⟨by omega,hgo⟩,by omega,lZ⟩
  ·simp only [A0d,Ayz] at c13
   have hi:i=sc.list.length:=(by omega)
   subst hi
   rw [A0w] at g1
   refine Bb<|x_K<|x_K<|Bj<|n_K<|Ad<|Aa fun ops=>oA rfl<|Ac<|n_K<|An ?_
   exact Av (At Tryz.results14 (Ag rfl)) (by exact ⟨false,rfl,rfl,fun _=>⟨by omega,g1⟩⟩) sP
end
section
open Go.K
variable {T:TypeId}
instance fld33_5:Fld Tryz.prog 33 5 7:=⟨⟨_,_,0,Tryz.underlying33,rfl,by kernel_rfl,rfl⟩⟩
instance ent17:Ent Tryz.prog 17:=⟨fun _ _=>by kernel_rfl⟩
instance ent18:Ent Tryz.prog 18:=⟨fun _ _=>by kernel_rfl⟩
theorem Ax2 (x y:Wd):Er .and .u64 x.toNat y.toNat=((x &&& y).toNat:Int):=by
 show IntKind.u64.wrap (((BitVec.ofInt 64 (x.toNat:Int)) &&& (BitVec.ofInt 64 (y.toNat:Int))).toNat:Int)=_
 have e:∀ z:Wd,BitVec.ofInt 64 (z.toNat:Int)=z:=fun z=>by
  rw [Azr]
  exact Azg (by rw [Az0];exact A0z z.isLt)
 rw [e,e,Ex .u64 rfl,Azr]
 show ((BitVec.ofNat 64 ((x &&& y).toNat)).toNat:Int)=_
 rw [Az0,A0z (x &&& y).isLt]
theorem Axw {P:Program} {E:Env} {H:Hp} {t u:TypeId} {x y:Operand} {a b:Wd} (hx:ev E x=some (wv a)) (hy:ev E y=some (wv b)):Rd P E H (.binOp .and t x y u) (wv (a &&& b)):=by
 unfold wv
 rw [← Ax2]
 exact Ae hx hy rfl
theorem Axa {S:Sto} {o:OpS}:Does Tryz.prog 17 [ptr S.st,.agg (Ax6 o).toArray] [(S.st,true,C (stC S) tSt)]
  (fun v H=>∃ w:Wd,v=wv w∧H=[(S.st,true,C (stC S) tSt)]∧w=S.seen+(o.jump &&& 3)):=by
 refine Ah (n:=11) Tryz.func17 Tryz.ntmps17 rfl (Ay9 rfl)<|Ad<|Aa fun ops=> ?_
 refine De rfl rfl fun b3=> ?_
 refine oA rfl<|Ac<|n_K<|Ad ?_
 refine s_draw [] [(5,[(0,false),(2,false),(3,false),(4,false),(1,true)]),(7,[(5,false),(6,false)])] (by kernel_rfl) rfl fun ops w0 H0 y=> ?_
 refine A4<|xM rfl<|xF rfl ?_
 refine xR (Al rfl mM rfl) ?_
 refine xR (show Rd _ _ _ _ (wv (o.jump &&& 3)) from Axw (b:=3) rfl rfl) ?_
 refine Be ?_
 refine A6 rfl (Agm (S:=S)) sP rfl aQ ?_
 refine Ac ⟨rfl,⟨_,sP⟩,?_⟩
 refine Am<|A4<|xR (Agw rfl rfl)<|xA rfl<|Am<|Bm<|n_K<|An ?_
 exact Av (At Tryz.results17 (Ag rfl)) (by exact ⟨_,rfl,rfl,rfl⟩) sP
def Axr (c:Chg):Int×Bool×List By:=(c.key,c.gone,c.body.list)
theorem Axb {cs:Sl Chg} (hn:cs.list.length≤40) (hs:SmallC cs.list):Does Tryz.prog 18 [cs.val] (cs.hp tCg++(cbH cs.list++[]))
  (fun v H=>∃ o:Sl Chg,v=o.val∧H=o.hp tCg++(cbH o.list++(cs.hp tCg++(cbH cs.list++[])))∧o.list.map Axr=cs.list.map Axr∧o.isOwn=true):=by
 have hsm:=cs.small
 refine Ah (n:=24) Tryz.func18 Tryz.ntmps18 rfl (Ay9 rfl)<|Ad<|Aa fun ops=>oA rfl<|Ac<|n_K<|Ad<|Aa fun ops=> ?_
 refine A5 rfl rfl rfl rfl fun b6=> ?_
 refine oA rfl<|Ac<|n_K<|Ad<|Ad<|Aa fun ops=>oM rfl<|oR (A7 rfl)<|oM rfl<|Ac<|n_K<|Ak ?_
 refine A8 [0,7,8] kQ (fun (st:Nat×Sl Chg)=>[(9,.int .i64 st.1),(3,st.2.val)]) (fun (st:Nat×Sl Chg)=>(st.2.hp tCg++(cbH st.2.list++(cs.hp tCg++(cbH cs.list++[]))))) (fun (st:Nat×Sl Chg)=>st.1≤cs.list.length∧st.2.list.map Axr=(cs.list.take st.1).map Axr∧st.2.isOwn=true) (fun (st:Nat×Sl Chg)=>cs.list.length - st.1) ((0,.own b6 [] 0 [] ⟨by simp,A2q _,by simp⟩)) ⟨A2r _,rfl,rfl⟩ kP (by show Split _ (Sl.hp tCg (.own b6 [] 0 [] _)++(cbH []++_)) _;rw [Ave,Sl.hp_own];exact sP) ?_
 rintro ⟨i,o⟩ ⟨g0,g1,g2⟩
 simp only at g0 g1 g2
 have hol:o.list.length≤40:=(by have:=A20 List.length g1;rw [A1a,A1a,A0v] at this;omega)
 refine Ad<|Aa fun ops=>oR (Ae rfl rfl rfl)<|Ac<|n_K<|Ad ?_
 refine Aj rfl (fun c10=> ?_) (fun c10=> ?_)
 ·simp only [A0d,Ayz] at c10
  obtain ⟨x,hg⟩:∃ x,cs.list[i]? =some x:=⟨_,Ayw (by omega)⟩
  rw [An3 hg]
  have hx:=hs x (Azn hg)
  refine Ai<|n_K<|Ad<|Ak<|Ad<|Aa fun ops=> ?_
  refine oR (Bk (s:=cs) rfl rfl (by omega)) ?_
  refine oR (Do (s:=cs) (o:=0) rfl pL hg rfl rfl) ?_
  refine Aw rfl fun b5=> ?_
  refine Af rfl rfl uD rfl rfl rfl ?_
  refine Ac<|n_K<|Ad<|Aa fun ops=> ?_
  refine A5 rfl rfl rfl rfl fun b13=> ?_
  refine oF rfl ?_
  refine oR (Al rfl mM rfl) ?_
  refine Bp (s:= .own b13 [] 0 [] ⟨by simp,A2q _,by simp⟩) (new:=x.body.list) (m:=x.body.list.length) rfl rfl (by rw [Sl.hp_own];exact pL) rfl (M5 pL) rfl rfl rfl rfl (by show (2*(0+_)+1024)*_≤_;omega) rfl fun s16 h16 o16=> ?_
  refine oF rfl ?_
  refine Af rfl rfl uD rfl rfl rfl ?_
  refine Ac<|n_K<|Aa fun ops=>oM rfl ?_
  refine oR (Au rfl mM rfl) ?_
  refine A5 rfl rfl rfl rfl fun b20=> ?_
  refine Bp (s:=o) (new:=[(⟨x.key,x.gone,s16⟩:Chg)]) (m:=1) rfl rfl pL g2 (Cv (r:=true) mM rfl) rfl rfl rfl rfl (by omega) rfl fun s' hs1 hs2=> ?_
  refine oA rfl<|Ac<|Az<|n_K<|Aa fun ops=> ?_
  refine oR (Ao rfl rfl (by omega)) ?_
  refine oM rfl<|Ac<|n_K ?_
  exact ⟨(i+1,s'),⟨by simp only;omega,by simp only;rw [hs1,A1i,g1,A0i,hg,A1i];simp [Axr,show s16.list=x.body.list from h16],hs2⟩,by simp only;omega,kP,kP,_,(by simp only;rw [hs1,Asq];exact sP)⟩
 ·simp only [A0d,Ayz] at c10
  have hi:i=cs.list.length:=(by omega)
  subst hi
  rw [A0w] at g1
  refine Bb<|x_K<|x_K<|Bj<|n_K<|Ad<|Aa fun ops=>oM rfl<|oA rfl<|Ac<|n_K<|An ?_
  exact Av (At Tryz.results18 (Ag rfl)) (by exact ⟨o,rfl,rfl,g1,g2⟩) sP
end
section
open Go.K
variable {T:TypeId}
instance und78:Und Tryz.prog 78 (.slice 31):=⟨Tryz.underlying78⟩
instance flat31:Flat Tryz.prog 31 ([some .u64,some .i64,some .u64]):=⟨by kernel_rfl,by kernel_rfl,⟨_,Tryz.underlying31,rfl⟩⟩
instance:Cel Vw:=⟨3,vwC,fun _=>rfl,fun _=>rfl⟩
theorem Ax0 (v:Vw):Cd [some .u64,some .i64,some .u64] (vwC v) (vwC v)=some true:=by
 simp [vwC,Cd,veq,wv]
structure VwI (i:Nat) (A:Ab) (z:Sg):Prop where
 std:Std A z
 wi:WI 18 (2000+200000000*i) (q0 18) z
 af:z.L.d.c.after<0
 nb:z.L.nb=12
theorem VwI.note {i:Nat} {A:Ab} {z z':Sg} (h:VwI i A z) {v:Vw} (h1:WI 18 (2000+200000000*i+100000000) (q0 18) z') (h2:FrA z.L.d.c z'.L.d.c) (h3:Std (A.note v) z') (h4:z'.L.nb=z.L.nb) :
  Std (A.note v) z'∧WI 18 (2000+200000000*i+100000000) (q0 18) z'∧z'.L.d.c.after<0∧z'.L.nb=12 :=
 ⟨h3,h1,by rw [(h2.pos h.af).1];exact h.af,h4.trans h.nb⟩
theorem Ax1 {n k k':Nat} {q q':Qt} {z z':Sg} (h:WI n k q z) (h':WI n k' q' z'):z'.L.nb=z.L.nb:=by
 have:=h.2.choose_spec.num
 have:=h'.2.choose_spec.num
 omega
section
variable {i:Nat} {A:Ab} {z:Sg}
theorem Ax3 (h:VwI i A z) (hi:i≤100) {v:Vw}:Does Tryz.prog 29 [ptr z.S.st,.agg (vwC v).toArray] ((z.S.st,true,C (stC z.S) tSt)::(z.S.ib,true,z.S.idx.obj .i64)::(z.S.pb,true,z.S.pend.obj .i64)::(lgH z.L++[]))
  (fun w H=>∃ z',w= .int .i64 0∧H=(z'.S.st,true,C (stC z'.S) tSt)::(z'.S.ib,true,z'.S.idx.obj .i64)::(z'.S.pb,true,z'.S.pend.obj .i64)::(lgH z'.L++[])∧z'.S.st=z.S.st∧z'.S.sb=z.S.sb∧z'.S.stray=z.S.stray∧Std (A.note v) z'∧WI 18 (2000+200000000*i+100000000) (q0 18) z'∧z'.L.d.c.after<0∧z'.L.nb=12):=by
 refine (Axp h.std h.wi (by omega) (A2r 3) h.af (by rw [h.nb];omega)).mono ?_
 rintro w H ⟨z',rfl,rfl,h1,h2,h3,h4,h5,h6⟩
 exact ⟨z',rfl,rfl,h1,h2,h3,h.note h4 h5 h6 (Ax1 h.wi h4)⟩
theorem Axs (h1:Std A z) (h2:WI 18 (2000+200000000*i+100000000) (q0 18) z) (h3:z.L.d.c.after<0) (h4:z.L.nb=12) (hi:i≤100) {ep:Wd} {cs:Sl Chg} (hc:cs.list.length≤40) :
  Does Tryz.prog 16 [ptr z.S.st,wv ep,cs.val] (Dy T::(z.S.st,true,C (stC z.S) tSt)::(z.S.ib,true,z.S.idx.obj .i64)::(z.S.pb,true,z.S.pend.obj .i64)::(z.S.sb,true,z.S.stray.obj .i64)::(lgH z.L++(cs.hp tCg++(cbH cs.list++[]))))
  (fun v H=>∃ (e:Int) (A':Ab) (z':Sg),v= .int .i64 e∧H=Dy T::(z'.S.st,true,C (stC z'.S) tSt)::(z'.S.ib,true,z'.S.idx.obj .i64)::(z'.S.pb,true,z'.S.pend.obj .i64)::(z'.S.sb,true,z'.S.stray.obj .i64)::(lgH z'.L++(cs.hp tCg++(cbH cs.list++[])))∧z'.S.st=z.S.st∧VwI (i+1) A' z'∧A'.vw=A.vw∧A'.viewed=A.viewed):=by
 refine (Nr h1 h2 (by omega) (A2r 3) h3 (by rw [h4];omega) (by omega)).mono ?_
 rintro v H ⟨e,z',rfl,rfl,hst,⟨hw,hfra,hcc⟩,_⟩
 have hnb:=Ax1 h2 hw
 have haf:z'.L.d.c.after<0:=by rw [(hfra.pos h3).1];exact h3
 rcases hcc with ⟨_,_,rfl⟩ | ⟨_,_,_,rfl⟩ | ⟨_,_,rfl,A',hcom,hA⟩
 ·exact ⟨_,A,z',rfl,rfl,rfl,⟨h1,h2.mono (by omega),h3,h4⟩,rfl,rfl⟩
 ·exact ⟨_,A,z',rfl,rfl,rfl,⟨h1,h2.mono (by omega),h3,h4⟩,rfl,rfl⟩
 ·exact ⟨_,A',z',rfl,rfl,hst,⟨hA,hw.mono (by omega),haf,hnb.trans h4⟩,hcom.vw,hcom.viewed⟩
end
theorem Ax4 {A:Ab} {v bw:Vw} {an:Bool} (h1:A.vw=bw) (h2:A.viewed=an) (h:(!an || decide ((v.num.toNat:Int)≥(bw.num.toNat:Int)))=true):(A.note v).vw=vwM v∧(A.note v).viewed=true:=by
 unfold Ab.note
 rw [h1,h2,A25 (by revert h;cases an <;> simp)]
 exact ⟨rfl,rfl⟩
theorem Ax5 {A:Ab} {v bw:Vw} {an:Bool} (h1:A.vw=bw) (h2:A.viewed=an) (h:(!an || decide ((v.num.toNat:Int)≥(bw.num.toNat:Int)))=false):(A.note v).vw=bw∧(A.note v).viewed=an:=by
 unfold Ab.note
 rw [h1,h2,A26 (by revert h;cases an <;> simp)]
 exact ⟨h1,h2⟩
theorem Axl {vs:Sl Vw} {sc:Sl OpS}:Does Tryz.prog 6 [vs.val,sc.val] (vs.hp tVw++(sc.hp tOs++(opH sc.list++(Dy T::[])))) (fun v H=>v= .bool true):=by
 have hsm:=sc.small
 have hsm0:=vs.small
 refine Ah (n:=113) Tryz.func6 Tryz.ntmps6 rfl (Ay9 rfl)<|Ad<|Aa fun ops=>oA rfl<|Ac<|n_K<|Ad<|Ad<|Aa fun ops=> ?_
 refine A6 rfl (Aco) sP rfl aQ ?_
 refine oR (Bx rfl)<|Ac<|n_K ?_
 refine Bi rfl ?_
 refine Ai<|n_K<|Ad<|Ad ?_
 refine Bf [(2,19)] rfl fun ops y=> ?_
 refine oM rfl ?_
 refine Bd rfl (Axq (sc:=sc)) sP rfl fun v18 Y18 h18=> ?_
 obtain ⟨g18,rfl,rfl,hg18⟩:=h18
 refine Ay aQ ?_
 refine oM rfl ?_
 refine' Es (j:=2) (k:=3) y rfl rfl rfl rfl rfl rfl rfl (fun hg19=> ?_) ?_
 rotate_left
 ·try (simp at hg19;show _)
  refine o_g y rfl rfl ?_
  refine oM rfl ?_
  refine o_g y rfl rfl ?_
  refine oR (A7 rfl) ?_
  refine o_g y rfl rfl ?_
  refine oR (Ae rfl rfl rfl) ?_
  exact Ac ⟨rfl,rfl,⟨_,sP⟩⟩
 refine Ac<|n_K ?_
 refine Aj rfl (fun c23=> ?_) (fun c23=> ?_)
 ·skip
  refine Ad<|Aa fun ops=>oA rfl<|Ac<|n_K<|An<|r_K ?_
  exact Av (At Tryz.results6 (Ag rfl)) (by simp) sP
 ·skip
  obtain ⟨hn1,hn2⟩:vs.list.length≤60∧g18=false:=(by revert c23;cases g18 <;> simp <;> omega)
  obtain ⟨hl1,hl2⟩:=hg18 hn2
  refine Ai<|n_K<|Ad<|Aa fun ops=> ?_
  refine Bd rfl (Xb (m:=18) ⟨by omega,by omega⟩) sP rfl fun v24 Y24 h24=> ?_
  obtain ⟨z0,rfl,rfl,hL⟩:=h24
  refine Ay aQ ?_
  refine oA rfl<|Ac<|n_K<|Ad<|Ad<|Aa fun ops=>oM rfl<|oR (Og rfl rfl)<|Ac<|n_K ?_
  refine Bi rfl ?_
  refine Ai<|n_K<|Ad<|Aa fun ops=>oR (Bc rfl rfl) ?_
  refine Aw rfl fun b6=> ?_
  refine Af rfl rfl uD rfl rfl rfl ?_
  refine oA rfl<|Ac<|n_K<|Ad<|Ad<|Aa fun ops=>oM rfl<|oR (A7 rfl)<|oM rfl<|Ac<|n_K<|Ak ?_
  have hstd0:=hL.std ⟨by omega,by omega⟩
  have hnb0:z0.L.nb=12:=(by have:=hL.nb;omega)
  refine A8 [0,1,4,5,6,28,29] kQ (fun (st:Nat×Ab×Sg×Vw×Bool)=>[(30,.int .i64 st.1),(7,.bool st.2.2.2.2)]) (fun (st:Nat×Ab×Sg×Vw×Bool)=>((b6,true,C (vwC st.2.2.2.1) tVw)::Dy T::(st.2.2.1.S.st,true,C (stC st.2.2.1.S) tSt)::(st.2.2.1.S.ib,true,st.2.2.1.S.idx.obj .i64)::(st.2.2.1.S.pb,true,st.2.2.1.S.pend.obj .i64)::(st.2.2.1.S.sb,true,st.2.2.1.S.stray.obj .i64)::(lgH st.2.2.1.L++(vs.hp tVw++(sc.hp tOs++(opH sc.list++[])))))) (fun (st:Nat×Ab×Sg×Vw×Bool)=>st.1≤vs.list.length∧VwI st.1 st.2.1 st.2.2.1∧st.2.2.1.S.st=z0.S.st∧st.2.1.vw=st.2.2.2.1∧st.2.1.viewed=st.2.2.2.2) (fun (st:Nat×Ab×Sg×Vw×Bool)=>vs.list.length - st.1) ((0,ab0,z0,vw0,false)) ⟨A2r _,⟨hstd0,hL.wi.mono (by omega),hL.af,hnb0⟩,rfl,rfl,rfl⟩ kP sP ?_
  rintro ⟨i,A,z,bw,an⟩ ⟨k0,k1,k2,k3,k4⟩
  simp only at k0 k1 k2 k3 k4
  rw [← k2]
  refine Ad<|Aa fun ops=>oR (Ae rfl rfl rfl)<|Ac<|n_K<|Ad ?_
  refine Aj rfl (fun c31=> ?_) (fun c31=> ?_)
  ·simp only [A0d,Ayz] at c31
   obtain ⟨v,hg⟩:∃ v,vs.list[i]? =some v:=⟨_,Ayw (by omega)⟩
   refine Ai<|n_K<|Ad<|Ak<|Ad<|Aa fun ops=>oM rfl ?_
   refine oR (Bk (s:=vs) rfl rfl (by omega)) ?_
   refine oR (Do (s:=vs) (o:=0) rfl pL hg rfl rfl) ?_
   refine Aw rfl fun b9=> ?_
   refine oA rfl ?_
   refine Af rfl rfl uD rfl rfl rfl ?_
   refine Ac<|n_K<|Ad<|Ad<|Aa fun ops=>oM rfl ?_
   refine oR (Au rfl mM rfl) ?_
   refine Bd rfl (Ax3 k1 (by omega) (v:=v)) sP rfl fun v37 Y37 h37=> ?_
   obtain ⟨z1,rfl,rfl,hst1,hsb1,hsy1,hS1,hW1,haf1,hnb1⟩:=h37
   rw [← hst1,← hsb1,← hsy1]
   refine Ay aQ ?_
   refine oR (Ae rfl rfl rfl)<|Ac<|n_K ?_
   refine Bi rfl ?_
   refine Ai<|n_K<|Ad<|Aa fun ops=>oF rfl ?_
   refine oR (Al rfl mM rfl) ?_
   refine oR (Ae rfl rfl rfl)<|oF rfl ?_
   refine Af rfl rfl uD rfl rfl rfl ?_
   refine Ac<|n_K<|Ad<|Ad ?_
   refine Bf [(2,45)] rfl fun ops y=> ?_
   refine oM rfl<|oR (Bx rfl)<|oM rfl ?_
   refine' Es (j:=2) (k:=5) y rfl rfl rfl rfl rfl rfl rfl (fun hg45=> ?_) ?_
   rotate_left
   ·try (simp at hg45;show _)
    refine o_g y rfl rfl ?_
    refine oF rfl ?_
    refine o_g y rfl rfl ?_
    refine oR (Al rfl mM rfl) ?_
    refine o_g y rfl rfl ?_
    refine oF rfl ?_
    refine o_g y rfl rfl ?_
    refine oR (Al rfl mM rfl) ?_
    refine o_g y rfl rfl ?_
    refine oR (Ae rfl rfl rfl) ?_
    exact Ac ⟨rfl,rfl,⟨_,sP⟩⟩
   refine Ac<|n_K ?_
   refine Aj rfl (fun c51=> ?_) (fun c51=> ?_)
   ·skip
    obtain ⟨hB1,hB2⟩:(A.note v).vw=vwM v∧(A.note v).viewed=true:=Ax4 k3 k4 c51
    refine Aa fun ops=> ?_
    refine oR (Au rfl mM rfl) ?_
    refine Af rfl rfl uD rfl rfl rfl ?_
    refine oA rfl<|Ac<|n_K<|Ad<|Aa fun ops=>oM rfl<|oM rfl<|oR (A7 rfl)<|oR (Ae rfl rfl rfl)<|Ac<|n_K ?_
    refine Aj rfl (fun c56=> ?_) (fun c56=> ?_)
    ·simp only [A0d,Ayz] at c56
     obtain ⟨o,hgo⟩:∃ o,sc.list[i]? =some o:=⟨_,Ayw (by omega)⟩
     rw [Axg hgo]
     obtain ⟨ho1,ho2⟩:=hl2 o (Azn hgo)
     refine s_draw [] [(13,[(0,false),(1,false),(2,false),(3,false),(4,false),(5,false),(7,false),(8,false),(9,false),(10,false),(11,false),(6,true),(12,true)]),(14,[(13,true)])] (by kernel_rfl) rfl fun ops w0 H0 y=> ?_
     refine A4<|xM rfl<|xM rfl<|xM rfl<|xM rfl ?_
     refine xR (Bk (s:=sc) rfl rfl (by omega)) ?_
     refine xR (Do (s:=sc) (o:=0) rfl pL hgo rfl rfl) ?_
     refine xM rfl<|xM rfl ?_
     refine xR (Bk (s:=sc) rfl rfl (by omega)) ?_
     refine xF rfl ?_
     refine xR (C0 (s:=sc) (o:=3) rfl pL hgo rfl rfl) ?_
     refine Be ?_
     refine Bd rfl (Axa (S:=z1.S) (o:=o)) sP rfl fun v63 Y63 h63=> ?_
     obtain ⟨w63,rfl,rfl,hw63⟩:=h63
     refine Ay aQ ?_
     refine Ac ⟨rfl,⟨_,sP⟩,?_⟩
     refine Be ?_
     refine Bd rfl (Axb (cs:=o.ch) ho1 ho2) sP rfl fun v69 Y69 h69=> ?_
     obtain ⟨c69,rfl,rfl,hc69,ho69⟩:=h69
     refine Ay aQ ?_
     refine Ac ⟨rfl,⟨_,sP⟩,?_⟩
     refine Am<|Bh<|Be ?_
     have hcl:c69.list.length≤40:=(by have:=A20 List.length hc69;rw [A1a,A1a] at this;omega)
     refine Bd rfl (Axs hS1 hW1 haf1 hnb1 (by omega) (ep:=w63) (cs:=c69) hcl) sP rfl fun v70 Y70 h70=> ?_
     obtain ⟨e70,A2,z2,rfl,rfl,hst2,hI2,hv2,hd2⟩:=h70
     rw [← hst2]
     refine Ay aQ ?_
     refine Ac ⟨rfl,⟨_,sP⟩,?_⟩
     refine Am<|Bm<|Az<|n_K<|Aa fun ops=> ?_
     refine oR (Ao rfl rfl (by omega)) ?_
     refine oM rfl<|Ac<|n_K ?_
     first | exact ⟨(i+1,A2,z2,vwM v,true),⟨by simp only;omega,hI2,rfl,hv2.trans hB1,hd2.trans hB2⟩,by simp only;omega,lZ⟩ | exact ⟨(i+1,A2,z2,bw,an),⟨by simp only;omega,hI2,rfl,hv2.trans hB1,hd2.trans hB2⟩,by simp only;omega,lZ⟩ | exact ⟨(i+1,A.note v,z1,vwM v,true),⟨by simp only;omega,hI1,rfl,hB1,hB2⟩,by simp only;omega,lZ⟩ | exact ⟨(i+1,A.note v,z1,bw,an),⟨by simp only;omega,hI1,rfl,hB1,hB2⟩,by simp only;omega,lZ⟩
    ·simp only [A0d,Ayz] at c56
     have hI1:VwI (i+1) (A.note v) z1:=⟨hS1,hW1.mono (by omega),haf1,hnb1⟩
     refine Ai<|Az<|n_K<|Aa fun ops=> ?_
     refine oR (Ao rfl rfl (by omega)) ?_
     refine oM rfl<|Ac<|n_K ?_
     first | exact ⟨(i+1,A2,z2,vwM v,true),⟨by simp only;omega,hI2,rfl,hv2.trans hB1,hd2.trans hB2⟩,by simp only;omega,lZ⟩ | exact ⟨(i+1,A2,z2,bw,an),⟨by simp only;omega,hI2,rfl,hv2.trans hB1,hd2.trans hB2⟩,by simp only;omega,lZ⟩ | exact ⟨(i+1,A.note v,z1,vwM v,true),⟨by simp only;omega,hI1,rfl,hB1,hB2⟩,by simp only;omega,lZ⟩ | exact ⟨(i+1,A.note v,z1,bw,an),⟨by simp only;omega,hI1,rfl,hB1,hB2⟩,by simp only;omega,lZ⟩
   ·skip
    obtain ⟨hB1,hB2⟩:(A.note v).vw=bw∧(A.note v).viewed=an:=Ax5 k3 k4 c51
    refine Ai<|n_K<|Ad<|Aa fun ops=>oM rfl<|oM rfl<|oR (A7 rfl)<|oR (Ae rfl rfl rfl)<|Ac<|n_K ?_
    refine Aj rfl (fun c56=> ?_) (fun c56=> ?_)
    ·simp only [A0d,Ayz] at c56
     obtain ⟨o,hgo⟩:∃ o,sc.list[i]? =some o:=⟨_,Ayw (by omega)⟩
     rw [Axg hgo]
     obtain ⟨ho1,ho2⟩:=hl2 o (Azn hgo)
     refine s_draw [] [(13,[(0,false),(1,false),(2,false),(3,false),(4,false),(5,false),(7,false),(8,false),(9,false),(10,false),(11,false),(6,true),(12,true)]),(14,[(13,true)])] (by kernel_rfl) rfl fun ops w0 H0 y=> ?_
     refine A4<|xM rfl<|xM rfl<|xM rfl<|xM rfl ?_
     refine xR (Bk (s:=sc) rfl rfl (by omega)) ?_
     refine xR (Do (s:=sc) (o:=0) rfl pL hgo rfl rfl) ?_
     refine xM rfl<|xM rfl ?_
     refine xR (Bk (s:=sc) rfl rfl (by omega)) ?_
     refine xF rfl ?_
     refine xR (C0 (s:=sc) (o:=3) rfl pL hgo rfl rfl) ?_
     refine Be ?_
     refine Bd rfl (Axa (S:=z1.S) (o:=o)) sP rfl fun v63 Y63 h63=> ?_
     obtain ⟨w63,rfl,rfl,hw63⟩:=h63
     refine Ay aQ ?_
     refine Ac ⟨rfl,⟨_,sP⟩,?_⟩
     refine Be ?_
     refine Bd rfl (Axb (cs:=o.ch) ho1 ho2) sP rfl fun v69 Y69 h69=> ?_
     obtain ⟨c69,rfl,rfl,hc69,ho69⟩:=h69
     refine Ay aQ ?_
     refine Ac ⟨rfl,⟨_,sP⟩,?_⟩
     refine Am<|Bh<|Be ?_
     have hcl:c69.list.length≤40:=(by have:=A20 List.length hc69;rw [A1a,A1a] at this;omega)
     refine Bd rfl (Axs hS1 hW1 haf1 hnb1 (by omega) (ep:=w63) (cs:=c69) hcl) sP rfl fun v70 Y70 h70=> ?_
     obtain ⟨e70,A2,z2,rfl,rfl,hst2,hI2,hv2,hd2⟩:=h70
     rw [← hst2]
     refine Ay aQ ?_
     refine Ac ⟨rfl,⟨_,sP⟩,?_⟩
     refine Am<|Bm<|Az<|n_K<|Aa fun ops=> ?_
     refine oR (Ao rfl rfl (by omega)) ?_
     refine oM rfl<|Ac<|n_K ?_
     first | exact ⟨(i+1,A2,z2,vwM v,true),⟨by simp only;omega,hI2,rfl,hv2.trans hB1,hd2.trans hB2⟩,by simp only;omega,lZ⟩ | exact ⟨(i+1,A2,z2,bw,an),⟨by simp only;omega,hI2,rfl,hv2.trans hB1,hd2.trans hB2⟩,by simp only;omega,lZ⟩ | exact ⟨(i+1,A.note v,z1,vwM v,true),⟨by simp only;omega,hI1,rfl,hB1,hB2⟩,by simp only;omega,lZ⟩ | exact ⟨(i+1,A.note v,z1,bw,an),⟨by simp only;omega,hI1,rfl,hB1,hB2⟩,by simp only;omega,lZ⟩
    ·simp only [A0d,Ayz] at c56
     have hI1:VwI (i+1) (A.note v) z1:=⟨hS1,hW1.mono (by omega),haf1,hnb1⟩
     refine Ai<|Az<|n_K<|Aa fun ops=> ?_
     refine oR (Ao rfl rfl (by omega)) ?_
     refine oM rfl<|Ac<|n_K ?_
     first | exact ⟨(i+1,A2,z2,vwM v,true),⟨by simp only;omega,hI2,rfl,hv2.trans hB1,hd2.trans hB2⟩,by simp only;omega,lZ⟩ | exact ⟨(i+1,A2,z2,bw,an),⟨by simp only;omega,hI2,rfl,hv2.trans hB1,hd2.trans hB2⟩,by simp only;omega,lZ⟩ | exact ⟨(i+1,A.note v,z1,vwM v,true),⟨by simp only;omega,hI1,rfl,hB1,hB2⟩,by simp only;omega,lZ⟩ | exact ⟨(i+1,A.note v,z1,bw,an),⟨by simp only;omega,hI1,rfl,hB1,hB2⟩,by simp only;omega,lZ⟩
  ·simp only [A0d,Ayz] at c31
   have hvw:z.S.vw=bw:=(by rw [k1.std.rz.vw,k3])
   have hvd:z.S.viewed=an:=(by rw [k1.std.rz.viewed,k4])
   refine Bb<|x_K<|x_K<|Bj<|n_K<|Ad<|Aa fun ops=>oM rfl ?_
   refine A6 rfl ((Axj (S:=z.S)).to (X':= .tuple #[.agg (vwC bw).toArray,.bool an]) (by rw [hvw,hvd]) rfl) sP rfl aQ ?_
   refine oM rfl<|oE rfl rfl<|oE rfl rfl ?_
   refine Aw rfl fun b10=> ?_
   refine Af rfl rfl uD rfl rfl rfl ?_
   refine oA rfl<|Ac<|n_K<|Ad<|Aa fun ops=>oM rfl<|oN rfl<|oF rfl ?_
   refine oR (show Rd _ _ _ _ (ptr z.L.lg) from by rw [← k1.wi.1];exact Al rfl mM rfl) ?_
   refine oN rfl<|oF rfl ?_
   refine oR (Qn (L:=z.L) rfl pL) ?_
   refine oN rfl<|oF rfl ?_
   refine oR (Y1 (L:=z.L) rfl pL) ?_
   refine Bd rfl (Ajp k1.std k1.wi (by rw [k1.nb];omega)) sP rfl fun v87 Y87 h87=> ?_
   obtain ⟨x,rfl,rfl,hWx,hcx,hnx,Ax,hSx,hxl,hxv,hxd,hxi,_⟩:=h87
   have hxw:x.S.vw=bw:=(by rw [hSx.rz.vw,hxv,k3])
   have hxe:x.S.viewed=an:=(by rw [hSx.rz.viewed,hxd,k4])
   refine Ay aQ ?_
   refine oA rfl<|Ac<|n_K<|Ad<|Ad<|Aa fun ops=>oM rfl<|oR (Og rfl rfl)<|Ac<|n_K ?_
   refine Bi rfl ?_
   refine Ai<|n_K<|Ad<|Aa fun ops=>oM rfl ?_
   refine A6 rfl ((Axj (S:=x.S)).to (X':= .tuple #[.agg (vwC bw).toArray,.bool an]) (by rw [hxw,hxe]) rfl) sP rfl aQ ?_
   refine oM rfl<|oE rfl rfl<|oE rfl rfl ?_
   refine Aw rfl fun b13=> ?_
   refine Af rfl rfl uD rfl rfl rfl ?_
   refine oA rfl<|Ac<|n_K<|Ad ?_
   refine Bf [(3,98),(8,103),(13,108)] rfl fun ops y=> ?_
   refine oR (Au rfl mM rfl) ?_
   refine oR (Au rfl mM rfl) ?_
   refine oR (Lq rfl rfl (Ax0 bw)) ?_
   refine oM rfl ?_
   refine' Df (j:=3) (k:=3) y rfl rfl rfl rfl rfl rfl rfl (fun hg98=> ?_) ?_
   rotate_left
   ·try (simp at hg98;show _)
    refine o_g y rfl rfl ?_
    refine oM rfl ?_
    refine o_g y rfl rfl ?_
    refine oM rfl ?_
    refine o_g y rfl rfl ?_
    refine oR (Axm rfl rfl) ?_
    exact Ac ⟨rfl,rfl,⟨_,sP⟩⟩
   refine oM rfl ?_
   refine' Df (j:=8) (k:=3) y rfl rfl rfl rfl rfl rfl rfl (fun hg103=> ?_) ?_
   rotate_left
   ·try (simp at hg103;show _)
    refine o_g y rfl rfl ?_
    refine oR (Au rfl mM rfl) ?_
    refine o_g y rfl rfl ?_
    refine oR (Au rfl mM rfl) ?_
    refine o_g y rfl rfl ?_
    refine oR (Lq rfl rfl (Ax0 bw)) ?_
    exact Ac ⟨rfl,rfl,⟨_,sP⟩⟩
   refine oM rfl ?_
   refine' Df (j:=13) (k:=3) y rfl rfl rfl rfl rfl rfl rfl (fun hg108=> ?_) ?_
   rotate_left
   ·try (simp at hg108;show _)
    refine o_g y rfl rfl ?_
    refine oM rfl ?_
    refine o_g y rfl rfl ?_
    refine oM rfl ?_
    refine o_g y rfl rfl ?_
    refine oR (Axm rfl rfl) ?_
    exact Ac ⟨rfl,rfl,⟨_,sP⟩⟩
   refine oA rfl<|Ac<|n_K<|An ?_
   exact Av (At Tryz.results6 (Ag rfl)) (by simp) sP
end
end Go.Proofs.YtpmojdippdlcaaaGreatDoor
