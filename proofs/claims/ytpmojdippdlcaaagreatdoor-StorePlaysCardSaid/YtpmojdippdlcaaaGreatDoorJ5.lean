/- every call of any script on a store answers as the document says, while acts of the chip fail, as long as there are spares, and leaves the document's nodes, also when it is opened again; its conditions are the statement's own: the bounds of scripts, bodies and fails; the conditions are the statement's own: part 5. -/
import Derived.Test.YtpmojdippdlcaaaGreatDoorJ3
import Derived.Test.YtpmojdippdlcaaaGreatDoorJ4
import Derived.Test.YtpmojdippdlcaaaGreatDoorJ1
set_option linter.unusedVariables false
set_option linter.unusedSimpArgs false
set_option maxRecDepth 100000
set_option maxHeartbeats 1000000
set_option synthInstance.maxSize 4000
set_option synthInstance.maxHeartbeats 400000
namespace Go.Proofs.YtpmojdippdlcaaaGreatDoor
section
open Go.K
def refs (S:Sto):List Pl2:=(if 0<S.last.ep.toNat then [S.la] else [])++((if S.viewed=true then [S.va] else [])++(S.idx.es.map (fun e=>e.v.at')++S.pend.es.map (fun e=>e.v.at')))
theorem cntS_iff {S:Sto} {x:Pl2}:Ji S x=true↔x∈refs S:=by
 unfold Ji Qm Fl refs
 simp only [A40,A4k,A4f,plB_iff,A4m,A49,A53]
 grind
theorem Av9 {S:Sto} {x:Pl2} (h:x∉refs S):Ji S x=false:=by
 cases hc:Ji S x with
 | false=>rfl
 | true=>exact absurd (cntS_iff.1 hc) h
def mvP (f t r:Pl2):Pl2:=if r=f then t else r
theorem Ag5 (f t:Pl2) (e:En):(mvE f t e).at'=mvP f t e.at':=by
 unfold mvE mvP
 by_cases h:e.at'=f
 ·rw [A6v (plB_iff.2 h),A6v h]
 ·rw [A6u (fun h2=>h (plB_iff.1 h2)),A6u h]
theorem Azb (f t:Pl2) (e:En):(mvE f t e).ep=e.ep:=by
 unfold mvE;split <;> rfl
theorem Aeo {S:Sto} {f t:Pl2} (h:0<S.last.ep.toNat):(Dm S f t).la=mvP f t S.la:=by
 show (if (decide ((S.last.ep.toNat:Int)>0) && plB S.la f)=true then t else S.la)=_
 unfold mvP
 by_cases e:S.la=f
 ·rw [A6v e,A6v (by simp [plB_iff.2 e];omega)]
 ·rw [A6u e,A6u (fun h2=>e (plB_iff.1 (by rw [A4k] at h2;exact h2.2)))]
theorem Wl {S:Sto} {f t:Pl2} (h:S.viewed=true):(Dm S f t).va=mvP f t S.va:=by
 show (if (S.viewed && plB S.va f)=true then t else S.va)=_
 unfold mvP
 by_cases e:S.va=f
 ·rw [A6v e,A6v (by simp [plB_iff.2 e,h])]
 ·rw [A6u e,A6u (fun h2=>e (plB_iff.1 (by rw [A4k] at h2;exact h2.2)))]
theorem Ag6 (S:Sto) (f t:Pl2):refs (Dm S f t)=(refs S).map (mvP f t):=by
 unfold refs
 rw [A48,A48,A48]
 congr 1
 ·show (if 0<S.last.ep.toNat then [(Dm S f t).la] else [])=_
  split
  ·rename_i h;rw [Aeo h];rfl
  ·rfl
 congr 1
 ·show (if S.viewed=true then [(Dm S f t).va] else [])=_
  split
  ·rename_i h;rw [Wl h];rfl
  ·rfl
 congr 1
 ·show ((S.idx.es.map fun e=>{ e with v:=mvE f t e.v }).map fun e=>e.v.at')=_
  rw [A51,A51]
  exact A3l fun e _=>Ag5 f t e.v
 ·show ((S.pend.es.map fun e=>{ e with v:=mvE f t e.v }).map fun e=>e.v.at')=_
  rw [A51,A51]
  exact A3l fun e _=>Ag5 f t e.v
theorem RecAt.fn {z:Sg} {x:Pl2} {p r:Pg} (h:RecAt z x p) (g:RecAt z x r):p=r:=by
 obtain ⟨b,j,rfl,hb,hp⟩:=h
 obtain ⟨b',j',e,hb',hp'⟩:=g
 have e1:b=b':=by have:=A6r Prod.fst e;omega
 have e2:j=j':=by have:=A6r Prod.snd e;omega
 grind
def P0 (z:Sg):Prop:=∀ r∈refs z.S,∃ p,RecAt z r p∧(Ef p).2.2.2=0
def rm (z:Sg):Nat:=if z.L.last<0 then 0 else if (bAt z.L.bs z.L.last.toNat).next=8 then 0 else 6 - (z.R z.L.last.toNat).length
def fr (z:Sg):Nat:=Bv z.L.bs z.L.nb
def slots (z:Sg):Nat:=6*fr z+rm z
theorem Ari (z:Sg):rm z≤6:=by unfold rm;grind
theorem Wm {z:Sg} {l:Nat} (h:z.L.last=l):rm z=if (bAt z.L.bs l).next=8 then 0 else 6 - (z.R l).length:=by
 unfold rm
 rw [A6u (by omega),show z.L.last.toNat=l by omega]
theorem Abp {z:Sg} (h:Ad6 z.L.bs z.L.last z.R):rm z=0:=by
 rcases h with h | ⟨l,h1,h2⟩
 ·unfold rm;rw [A6v h]
 ·rw [Wm h1]
  grind
structure LW (k:Nat) (z:Sg):Prop where
 rl:∀ j<z.L.nb,(z.R j).length≤6
 z0:∀ j<z.L.nb,(bAt z.L.bs j).seq.toNat=0→z.R j=[]
 lst:(z.L.last= -1∧∀ j<z.L.nb,(bAt z.L.bs j).seq.toNat=0)∨∃ l:Nat,z.L.last=l∧l<z.L.nb∧(bAt z.L.bs l).seq.toNat≠0∧∀ j<z.L.nb,j≠l→(bAt z.L.bs j).seq.toNat<(bAt z.L.bs l).seq.toNat
 top:∀ j<z.L.nb,(bAt z.L.bs j).seq.toNat≤k
theorem Arj {bs:List LB} {b:Nat} (h:(bAt bs b).seq.toNat≠0):b<bs.length:=by
 by_cases hb:b<bs.length
 ·exact hb
 ·exfalso
  apply h
  unfold bAt
  rw [A18,A2x (by omega)]
  rfl
theorem Nr {bs cs:List LB} {to:Nat} (h0:(bAt bs to).seq.toNat=0) (h1:(bAt cs to).seq.toNat≠0):∀ k,to<k→(∀ j<k,j≠to→(bAt cs j).seq.toNat=(bAt bs j).seq.toNat)→Bv cs k+1=Bv bs k
 | 0,h,_=>by omega
 | k+1,h,hs=>by
  rw [Ga,Ga]
  by_cases e:to=k
  ·subst e
   rw [Gm (cs:=bs) to fun j hj=>by rw [hs j (by omega) (by omega)]]
   unfold z1
   rw [A6u h1,A6v h0]
  ·have ih:=Nr h0 h1 k (by omega) fun j hj hne=>hs j (by omega) hne
   unfold z1
   rw [hs k (by omega) (A6s e)]
   omega
theorem LW.mono {k k':Nat} {z:Sg} (h:LW k z) (hk:k≤k'):LW k' z:=⟨h.rl,h.z0,h.lst,fun j hj=>A57 (h.top j hj) hk⟩
theorem LW.of {k:Nat} {z z':Sg} (h:LW k z) (h1:z'.L=z.L) (h2:z'.R=z.R):LW k z':=by
 cases z;cases z';simp only at h1 h2;subst h1 h2;exact ⟨h.rl,h.z0,h.lst,h.top⟩
theorem WI.lw {n k:Nat} {q:Qt} {z:Sg} (h:WI n k q z):LW k z:=by
 obtain ⟨_,V,hZ⟩:=h
 refine ⟨fun j hj=> ?_,fun j hj hz=> ?_,hZ.lv.lst,hZ.lv.top⟩
 ·rcases hZ.lv.blk j hj with ⟨_,r⟩ | u
  ·rw [r];grind
  ·exact u.cnt.len
 ·rcases hZ.lv.blk j hj with ⟨_,r⟩ | u
  ·exact r
  ·exact absurd hz u.cnt.seq
theorem LW.seqN {k:Nat} {z:Sg} (h:LW k z) (hk:k≤400000000000):(seqN z.L.bs z.L.last).toNat≠0∧(seqN z.L.bs z.L.last).toNat≤k+1∧∀ j<z.L.nb,(bAt z.L.bs j).seq.toNat<(seqN z.L.bs z.L.last).toNat:=by
 unfold Go.Proofs.YtpmojdippdlcaaaGreatDoor.seqN
 rcases h.lst with ⟨h1,h2⟩ | ⟨l,h1,h2,h3,h4⟩
 ·rw [A6v (by omega)]
  grind
 ·rw [A6u (by omega),h1,A33]
  have ht:=h.top l h2
  have e:((bAt z.L.bs l).seq+1).toNat=(bAt z.L.bs l).seq.toNat+1:=by
   rw [A4h]
   grind
  rw [e]
  grind
def sqz (z:Sg) (x:Pl2):Nat:=(bAt z.L.bs x.1.toNat).seq.toNat
def bef (z:Sg) (x y:Pl2):Prop:=sqz z x<sqz z y∨(x.1=y.1∧x.2<y.2)
structure NewAt (z:Sg) (p:Pg) (y:Pl2) (z':Sg):Prop where
 S:z'.S=z.S
 nb:z'.L.nb=z.L.nb
 new:RecAt z' y p
 old:∀ x r,RecAt z x r→RecAt z' x r∧x≠y
 inv:∀ x r,RecAt z' x r→RecAt z x r∨(x=y∧r=p)
 blk:∀ b:Nat,b<z.L.nb→(bAt z.L.bs b).seq.toNat≠0→(b:Int)≠z.L.last→y.1≠b∧(b:Int)≠z'.L.last∧z'.R b=z.R b
 sq:∀ b:Nat,b<z.L.nb→(bAt z.L.bs b).seq.toNat≠0→(bAt z'.L.bs b).seq=(bAt z.L.bs b).seq
 bef:∀ x r,RecAt z x r→bef z' x y
theorem RecAt.used {k:Nat} {z:Sg} {x:Pl2} {r:Pg} (hw:LW k z) (h:RecAt z x r):∃ b:Nat,x.1=b∧b<z.L.nb∧(bAt z.L.bs b).seq.toNat≠0:=by
 obtain ⟨b,j,rfl,hb,hp⟩:=h
 refine ⟨b,rfl,hb,fun hz=> ?_⟩
 rw [hw.z0 b hb hz] at hp
 cases hp
theorem NewAt.ord {k:Nat} {z z':Sg} {p:Pg} {y:Pl2} (hw:LW k z) (h:NewAt z p y z') {x x':Pl2} {r r':Pg} (hx:RecAt z x r) (hx':RecAt z x' r'):Go.Proofs.YtpmojdippdlcaaaGreatDoor.bef z' x x'↔Go.Proofs.YtpmojdippdlcaaaGreatDoor.bef z x x':=by
 have e:∀ {x r},RecAt z x r→sqz z' x=sqz z x:=fun hx=>by
  obtain ⟨b,h1,h2,h3⟩:=hx.used hw
  unfold sqz
  rw [h1,A33,h.sq b h2 h3]
 unfold Go.Proofs.YtpmojdippdlcaaaGreatDoor.bef
 rw [e hx,e hx']
theorem Hz {R:Nat→List Pg} {b:Nat} {r:List Pg}:upR R b r b=r:=A6v rfl
theorem Ek {R:Nat→List Pg} {b j:Nat} {r:List Pg} (h:j≠b):upR R b r j=R j:=A6u h
theorem AppG.ok {n k:Nat} {q:Qt} {z z':Sg} {p:Pg} {e:Int} {y:Pl2} (hw:LW k z) (hk:k≤390000000000) (h:AppG n q z p e y z') (he:e≠30) :
  (e=40∧slots z=0)∨(e=0∧LW (k+1) z'∧slots z'+1=slots z∧rm z'≤5∧NewAt z p y z'):=by
 obtain ⟨h1,_,_,h4,_,h6⟩:=h
 obtain ⟨_,hA,_,_⟩:=h6.resolve_right (fun h9=>he h9.1)
 clear h6
 obtain ⟨S,L,R⟩:=z
 obtain ⟨S',L',R'⟩:=z'
 obtain ⟨y1,y2⟩:=y
 simp only at h1 h4 hA
 subst h1
 obtain ⟨x1,x2,nb',last',bs',d'⟩:=L'
 simp only at h4 hA
 subst h4
 have hf0:∀ {X:Sg},fr X=Bv X.L.bs X.L.nb:=rfl
 cases hA with
 | @into l g1 g2 g3 g4 g5 =>
  have hb:∀ j,bAt (L.bs.set l { bAt L.bs l with next:=((2+(R l).length:Nat):Int)+1 }) j=if j=l then { bAt L.bs l with next:=((2+(R l).length:Nat):Int)+1 } else bAt L.bs j:=fun j=>Dn (Arj g3)
  have hs:∀ j,(bAt (L.bs.set l { bAt L.bs l with next:=((2+(R l).length:Nat):Int)+1 }) j).seq=(bAt L.bs j).seq:=fun j=>by
   rw [hb]
   grind
  have hfr:Bv (L.bs.set l { bAt L.bs l with next:=((2+(R l).length:Nat):Int)+1 }) L.nb=Bv L.bs L.nb:=Gm _ fun j _=>by rw [hs]
  have hr1:rm ⟨S',L,R⟩=6 - (R l).length:=by rw [Wm (l:=l) g1,A6u (by grind)]
  have hlc:(upR R l (R l++[p]) l).length=(R l).length+1:=by rw [Hz];simp
  refine .inr ⟨rfl,⟨fun j hj=> ?_,fun j hj hz=> ?_,?_,fun j hj=> ?_⟩,?_,?_,⟨rfl,rfl,?_,fun x r hx=>⟨?_,?_⟩,fun x r hx=> ?_,fun b hb1 hb2 hb3=>⟨?_,hb3,?_⟩,fun b _ _=>hs b,fun x r hx=> ?_⟩⟩
  ·show (upR R l (R l++[p]) j).length≤6
   by_cases e:j=l
   ·grind
   ·rw [Ek e];exact hw.rl j hj
  ·show upR R l (R l++[p]) j=[]
   have hz':(bAt L.bs j).seq.toNat=0:=by rw [← hs j];exact hz
   by_cases e:j=l
   ·grind
   ·rw [Ek e];exact hw.z0 j hj hz'
  ·rcases hw.lst with ⟨q1,q2⟩ | ⟨l',q1,q2,q3,q4⟩
   ·grind
   grind
  ·show (bAt (L.bs.set l _) j).seq.toNat≤k+1
   rw [hs];have:=hw.top j hj;grind
  ·unfold slots
   rw [hr1,Wm (l:=l) g1,hf0,hf0]
   grind
  ·rw [Wm (l:=l) g1]
   grind
  ·exact ⟨l,(R l).length,rfl,g2,by show (upR R l (R l++[p]) l)[_]? =_;rw [Hz,A19 (A6h _)];simp⟩
  ·obtain ⟨b,j,rfl,hb1,hp⟩:=hx
   refine ⟨b,j,rfl,hb1,?_⟩
   show (upR R l (R l++[p]) b)[j]? =_
   by_cases e:b=l
   ·subst e
    rw [Hz,A2e (List.getElem?_eq_some_iff.1 hp).1];exact hp
   ·rw [Ek e];exact hp
  ·obtain ⟨b,j,rfl,hb1,hp⟩:=hx
   grind
  ·obtain ⟨b,j,rfl,hb1,hp⟩:=hx
   have hp:(upR R l (R l++[p]) b)[j]? =some r:=hp
   by_cases e:b=l
   ·subst e
    rw [Hz] at hp
    by_cases hj:j<(R b).length
    ·rw [A2e hj] at hp
     exact .inl ⟨b,j,rfl,hb1,hp⟩
    grind
   ·rw [Ek e] at hp
    exact .inl ⟨b,j,rfl,hb1,hp⟩
  ·grind
  ·show upR R l (R l++[p]) b=R b
   refine Ek fun e=>hb3 ?_
   grind
  ·obtain ⟨b,j,rfl,hb1,hp⟩:=hx
   unfold Go.Proofs.YtpmojdippdlcaaaGreatDoor.bef
   by_cases e:b=l
   ·grind
   ·refine .inl ?_
    rcases hw.lst with ⟨q1,q2⟩ | ⟨l',q1,q2,q3,q4⟩
    ·grind
    ·have hl':l'=l:=by grind
     subst hl'
     unfold sqz
     grind
 | @none pb pj last' bs' g1 g2 =>
  refine .inl ⟨rfl,?_⟩
  unfold slots
  rw [Abp g1,hf0]
  have:Bv L.bs L.nb=0:=by
   rcases Mj L.bs L.nb with ⟨_,h2⟩ | ⟨l,h1,_⟩
   ·exact (by
     have:∀ m,m≤L.nb→Bv L.bs m=0:=fun m=>by
      induction m with
      | zero=>exact fun _=>rfl
      | succ m ih =>
       intro hm
       rw [Ga,ih (by omega)]
       unfold z1
       rw [A6u (h2 m (by omega))]
     grind)
   ·omega
  grind
 | @fresh to _ g1 g3 g4 g5 g6 g7 g8 =>
  obtain ⟨s1,s2,s3⟩:=hw.seqN (by omega)
  simp only at s1 s2 s3
  have hs:∀ j<L.nb,j≠to→(bAt bs' j).seq=(bAt L.bs j).seq:=fun j hj hne=>by
   rcases g8 j hj (by omega) with e | ⟨_,e⟩ <;> rw [e]
  have hst:(bAt bs' to).seq=seqN L.bs L.last:=by rw [g7]
  have hfr:Bv bs' L.nb+1=Bv L.bs L.nb:=Nr g5 (by rw [hst];exact s1) L.nb g4 fun j hj hne=>by rw [hs j hj hne]
  have hr1:rm ⟨S',L,R⟩=0:=Abp g1
  have hl1:upR R to [p] to=[p]:=Hz
  have hr2:∀ d,rm ⟨S',⟨x1,x2,L.nb,(to:Int),bs',d⟩,upR R to [p]⟩=5:=fun d=>by
   rw [Wm (l:=to) rfl]
   grind
  refine .inr ⟨rfl,⟨fun j hj=> ?_,fun j hj hz=> ?_,.inr ⟨to,rfl,g4,by rw [hst];exact s1,fun j hj hne=> ?_⟩,fun j hj=> ?_⟩,?_,?_,⟨rfl,rfl,?_,fun x r hx=>⟨?_,?_⟩,fun x r hx=> ?_,fun b hb1 hb2 hb3=>⟨?_,?_,?_⟩,fun b hb1 hb2=>hs b hb1 (fun e=>hb2 (by rw [e];exact g5)),fun x r hx=> ?_⟩⟩
  ·show (upR R to [p] j).length≤6
   by_cases e:j=to
   ·grind
   ·rw [Ek e];exact hw.rl j hj
  ·show upR R to [p] j=[]
   have hz:(bAt bs' j).seq.toNat=0:=hz
   by_cases e:j=to
   ·grind
   ·rw [Ek e];exact hw.z0 j hj (by grind)
  ·grind
  ·grind
  ·unfold slots
   rw [hr1,hr2,hf0,hf0]
   grind
  ·rw [hr2];omega
  ·exact ⟨to,0,rfl,g4,by grind⟩
  ·obtain ⟨b,j,rfl,hb1,hp⟩:=hx
   refine ⟨b,j,rfl,hb1,?_⟩
   show (upR R to [p] b)[j]? =_
   by_cases e:b=to
   ·grind
   ·rw [Ek e];exact hp
  ·obtain ⟨b,j,rfl,hb1,hp⟩:=hx
   grind
  ·obtain ⟨b,j,rfl,hb1,hp⟩:=hx
   have hp:(upR R to [p] b)[j]? =some r:=hp
   by_cases e:b=to
   ·grind
   ·rw [Ek e] at hp
    exact .inl ⟨b,j,rfl,hb1,hp⟩
  ·grind
  ·grind
  ·refine Ek fun e=> ?_
   grind
  ·obtain ⟨b,j,rfl,hb1,hp⟩:=hx
   have hp:(R b)[j]? =some r:=hp
   refine .inl ?_
   have hne:b≠to:=fun e=>by grind
   unfold sqz
   grind
structure GoneB (z:Sg) (b:Nat) (z':Sg):Prop where
 S:z'.S=z.S
 nb:z'.L.nb=z.L.nb
 old:∀ x r,RecAt z x r→x.1≠b→RecAt z' x r
 inv:∀ x r,RecAt z' x r→RecAt z x r∧x.1≠b
 sq:∀ j:Nat,j≠b→(bAt z'.L.bs j).seq=(bAt z.L.bs j).seq
theorem GoneB.ord {z z':Sg} {b:Nat} (h:GoneB z b z') {x x':Pl2} {r r':Pg} (hx:RecAt z' x r) (hx':RecAt z' x' r'):Go.Proofs.YtpmojdippdlcaaaGreatDoor.bef z' x x'↔Go.Proofs.YtpmojdippdlcaaaGreatDoor.bef z x x':=by
 have e:∀ {x r},RecAt z' x r→sqz z' x=sqz z x:=fun hx=>by
  obtain ⟨h1,h2⟩:=h.inv _ _ hx
  obtain ⟨c,j,rfl,_,_⟩:=h1
  unfold sqz
  simp only [A33]
  rw [h.sq c (fun e=>h2 (by rw [e]))]
 unfold Go.Proofs.YtpmojdippdlcaaaGreatDoor.bef
 rw [e hx,e hx']
theorem DropG.ok {n k:Nat} {q:Qt} {z z':Sg} {b:Nat} (hw:LW k z) (hb:b<z.L.nb) (hs:(bAt z.L.bs b).seq.toNat≠0) (hl:(b:Int)≠z.L.last) (h:DropG n q z b 0 z') :
  LW k z'∧fr z'=fr z+1∧rm z'=rm z∧GoneB z b z':=by
 obtain ⟨h1,_,_,h4,_,_,h7⟩:=h
 obtain ⟨_,h8,h9,h10⟩:=h7.resolve_right (fun h9=>absurd h9.1 (by decide))
 rw [A6u hl] at h9
 obtain ⟨S,L,R⟩:=z
 obtain ⟨S',L',R'⟩:=z'
 simp only at h1 h4 h8 h9 h10 hb hs hl
 subst h1 h10
 obtain ⟨x1,x2,nb',last',bs',d'⟩:=L'
 simp only at h4 h8 h9
 subst h4 h9 h8
 have hbl:=Arj hs
 have hB:∀ j,bAt (L.bs.set b (I2 ((bAt L.bs b).wear+1))) j=if j=b then I2 ((bAt L.bs b).wear+1) else bAt L.bs j:=fun j=>Dn hbl
 have hz:(bAt (L.bs.set b (I2 ((bAt L.bs b).wear+1))) b).seq.toNat=0:=by rw [hB,A6v rfl];rfl
 have ho:∀ j,j≠b→(bAt (L.bs.set b (I2 ((bAt L.bs b).wear+1))) j).seq=(bAt L.bs j).seq:=fun j hj=>by rw [hB,A6u hj]
 refine ⟨⟨fun j hj=> ?_,fun j hj hz2=> ?_,?_,fun j hj=> ?_⟩,?_,?_,⟨rfl,rfl,fun x r hx hne=> ?_,fun x r hx=> ?_,ho⟩⟩
 ·show (upR R b [] j).length≤6
  by_cases e:j=b
  ·subst e;rw [Hz];grind
  ·rw [Ek e];exact hw.rl j hj
 ·show upR R b [] j=[]
  by_cases e:j=b
  ·subst e;exact Hz
  ·rw [Ek e];exact hw.z0 j hj (by grind)
 ·rcases hw.lst with ⟨q1,q2⟩ | ⟨l,q1,q2,q3,q4⟩
  ·grind
  ·have hlb:l≠b:=fun e=>hl (by grind)
   refine .inr ⟨l,q1,q2,?_,fun j hj hne=> ?_⟩
   ·grind
   grind
 ·show (bAt (L.bs.set b _) j).seq.toNat≤k
  by_cases e:j=b
  ·grind
  ·rw [ho j e];exact hw.top j hj
 ·show Bv (L.bs.set b _) L.nb=Bv L.bs L.nb+1
  exact (Nr hz hs L.nb hb fun j hj hne=>by rw [ho j hne]).symm
 ·rcases hw.lst with ⟨q1,q2⟩ | ⟨l,q1,q2,q3,q4⟩
  ·grind
  ·have hlb:l≠b:=fun e=>hl (by grind)
   refine (Wm (l:=l) (z:=⟨S',⟨x1,x2,L.nb,L.last,L.bs.set b (I2 ((bAt L.bs b).wear+1)),d'⟩,upR R b []⟩) q1).trans ?_
   rw [Wm (l:=l) q1]
   simp only
   rw [hB,A6u hlb,Ek hlb]
 ·obtain ⟨c,j,rfl,h1,h2⟩:=hx
  refine ⟨c,j,rfl,h1,?_⟩
  show (upR R b [] c)[j]? =_
  rw [Ek (fun e=>hne (by rw [e]))];exact h2
 ·obtain ⟨c,j,rfl,h1,h2⟩:=hx
  have h2:(upR R b [] c)[j]? =some r:=h2
  by_cases e:c=b
  ·subst e;rw [Hz] at h2;cases h2
  ·rw [Ek e] at h2
   exact ⟨⟨c,j,rfl,h1,h2⟩,fun e9=>e (by have e9':(c:Int)=b:=e9;omega)⟩
end
section
open Go.K
structure Kp (I:Sg→Prop):Prop where
  sh:∀ {k:Nat} {z z1:Sg} {x y:Pl2} {p:Pg},LW k z→P0 z→I z→x∈refs z.S→RecAt z x p→(Ef p).2.2.2=0→NewAt z p y z1→FrA z.L.d.c z1.L.d.c→I { z1 with S:=Dm z1.S x y }
  dr:∀ {k:Nat} {z z':Sg} {b:Nat},LW k z→P0 z→I z→(∀ r∈refs z.S,r.1≠b)→GoneB z b z'→FrA z.L.d.c z'.L.d.c→I z'
def DnM (n:Nat) (q:Qt) (I:Sg→Prop) (z':Sg):Prop:=∃ k z1,LW k z1∧P0 z1∧I z1 ∧
  ((∃ x p y,x∈refs z1.S∧RecAt z1 x p∧(Ef p).2.2.2=0∧AppG n q z1 p 30 y z') ∨
   ∃ b:Nat,b<z1.L.nb∧(bAt z1.L.bs b).seq.toNat≠0∧(b:Int)≠z1.L.last∧(∀ r∈refs z1.S,r.1≠b)∧DropG n q z1 b 30 z')
theorem AppG.fra {n:Nat} {q:Qt} {z z':Sg} {p:Pg} {e:Int} {y:Pl2} (h:AppG n q z p e y z'):FrA z.L.d.c z'.L.d.c:=by
  rcases h.2.2.2.2.2 with ⟨_,_,h,_⟩ | h
  · exact h
  · exact h.2.2.2.1
theorem ShR.ok {n k:Nat} {q:Qt} {z z':Sg} {x:Pl2} {p:Pg} {e:Int} (hw:LW k z) (hk:k≤390000000000) (hP:P0 z) (hx:x∈refs z.S) (hr:RecAt z x p) (hg:(Ef p).2.2.2=0) (h:ShR n q z x p e z') (he:e≠30) :
    (e=40∧slots z=0)∨(e=0∧LW (k+1) z'∧slots z'+1=slots z∧P0 z'∧∃ y z1,NewAt z p y z1∧FrA z.L.d.c z1.L.d.c∧z'={ z1 with S:=Dm z1.S x y }∧refs z'.S=(refs z.S).map (mvP x y)):=by
  obtain ⟨y,z1,hA,rfl⟩:=h
  rcases hA.ok hw hk he with h | ⟨rfl,h2,h3,h4,h5⟩
  · exact .inl h
  · rw [A6v rfl]
    have hR:refs (Dm z1.S x y)=(refs z.S).map (mvP x y):=by rw [Ag6,h5.S]
    refine .inr ⟨rfl,h2.of rfl rfl,h3,fun r hr'=> ?_,y,z1,h5,hA.fra,rfl,hR⟩
    have hr':r∈refs (Dm z1.S x y):=hr'
    rw [hR] at hr'
    obtain ⟨r0,h6,rfl⟩:=A53.1 hr'
    unfold mvP
    by_cases e:r0=x
    · rw [A6v e];exact ⟨p,h5.new,hg⟩
    · rw [A6u e]
      obtain ⟨p0,h7,h8⟩:=hP r0 h6
      exact ⟨p0,(h5.old _ _ h7).1,h8⟩
theorem EmA.keep {n:Nat} {q:Qt} {I:Sg→Prop} (hK:Kp I) {b:Nat} {xs:List Pl2} {e:Int} {z z':Sg} (h:EmA n q xs z e z'):∀ {k:Nat},LW k z→k+xs.length≤390000000000→P0 z→I z→(∀ x∈xs,x.1=b) →
    b<z.L.nb→(bAt z.L.bs b).seq.toNat≠0→(b:Int)≠z.L.last →
    (e=40∧slots z<Gw z.S xs)∨(e=30∧DnM n q I z') ∨
    (e=0∧LW (k+xs.length) z'∧P0 z'∧I z'∧slots z≤slots z'+Gw z.S xs∧(refs z'.S).length=(refs z.S).length∧(∀ r∈refs z'.S,r.1=b→r∈refs z.S∧r∉xs) ∧
      z'.L.nb=z.L.nb∧(bAt z'.L.bs b).seq.toNat≠0∧(b:Int)≠z'.L.last∧z'.R b=z.R b):=by
  induction h with
  | nil=>grind
  | @skip x xs z z' e hc _ ih =>
    intro k hw hk hP hI hb h1 h2 h3
    rw [A4q] at hk
    have hcn:Gw z.S (x::xs)=Gw z.S xs:=by unfold Gw;rw [List.countP_cons_of_neg (by rw [hc];decide)]
    rw [hcn]
    rcases ih hw (by omega) hP hI (fun y hy=>hb y (A3a _ hy)) h1 h2 h3 with g | g | ⟨g1,g2,g3,g4,g5,g6,g7,g8⟩
    · exact .inl g
    · grind
    · refine .inr (.inr ⟨g1,g2.mono (by rw [A4q];omega),g3,g4,g5,g6,fun r hr hrb=> ?_,g8⟩)
      obtain ⟨g9,g10⟩:=g7 r hr hrb
      refine ⟨g9,fun h9=> ?_⟩
      rcases A5y.1 h9 with rfl | h9
      · rw [cntS_iff.2 g9] at hc;cases hc
      grind
  | @stop x xs z z1 e p hc hr hs he =>
    intro k hw hk hP hI hb h1 h2 h3
    obtain ⟨p',hr',hg⟩:=hP x (cntS_iff.1 hc)
    have:=hr.fn hr'
    subst this
    by_cases h30:e=30
    · subst h30
      refine .inr (.inl ⟨rfl,k,z,hw,hP,hI,.inl ?_⟩)
      obtain ⟨y,z2,hA,rfl⟩:=hs
      exact ⟨x,p,y,cntS_iff.1 hc,hr,hg,hA⟩
    · rcases hs.ok hw (by omega) hP (cntS_iff.1 hc) hr hg h30 with ⟨g1,g2⟩ | ⟨g1,_⟩
      · refine .inl ⟨g1,?_⟩
        rw [g2]
        unfold Gw
        rw [List.countP_cons_of_pos hc]
        omega
      omega
  | @go x xs z z1 z' e p hc hr hs _ ih =>
    intro k hw hk hP hI hb h1 h2 h3
    rw [A4q] at hk
    obtain ⟨p',hr',hg⟩:=hP x (cntS_iff.1 hc)
    have:=hr.fn hr'
    subst this
    obtain ⟨_,w1,w2,w3,y,z2,w4,w5,rfl,w7⟩:=(hs.ok hw (by omega) hP (cntS_iff.1 hc) hr hg (by decide)).resolve_left (fun h=>absurd h.1 (by decide))
    obtain ⟨v1,v2,v3⟩:=w4.blk b h1 h2 h3
    have hnew:∀ r:Pl2,r.1=(b:Int)→r∈refs (Dm z2.S x y)→r∈refs z.S∧r≠x:=fun r hrb hrm=>by
      have hrm:r∈refs ({ z2 with S:=Dm z2.S x y }:Sg).S:=hrm
      rw [w7] at hrm
      obtain ⟨r0,q1,rfl⟩:=A53.1 hrm
      unfold mvP at hrb ⊢
      grind
    have hcn:Gw z.S (x::xs)=Gw z.S xs+1:=by unfold Gw;rw [List.countP_cons_of_pos hc]
    have hmono:Gw (Dm z2.S x y) xs≤Gw z.S xs:=by
      refine List.countP_mono_left fun r hr h9=> ?_
      exact cntS_iff.2 (hnew r (hb r (A3a _ hr)) (cntS_iff.1 h9)).1
    have hlen:(refs (Dm z2.S x y)).length=(refs z.S).length:=by
      have:refs (Dm z2.S x y)=(refs z.S).map (mvP x y):=w7
      rw [this,A46]
    have hsq:(bAt z2.L.bs b).seq.toNat≠0:=by rw [w4.sq b h1 h2];exact h2
    rcases ih (k:=k+1) w1 (by omega) w3 (hK.sh hw hP hI (cntS_iff.1 hc) hr hg w4 w5) (fun y hy=>hb y (A3a _ hy)) (by show b<z2.L.nb;rw [w4.nb];exact h1) hsq v2 with ⟨g1,g2⟩ | g | ⟨g1,g2,g3,g4,g5,g6,g7,g8,g9,g10,g11⟩
    · grind
    · grind
    · refine .inr (.inr ⟨g1,g2.mono (by rw [A4q];omega),g3,g4,?_,g6.trans hlen,fun r hr hrb=> ?_,g8.trans w4.nb,g9,g10,g11.trans v3⟩)
      · have g5:slots ({ z2 with S:=Dm z2.S x y }:Sg)≤slots z'+Gw (Dm z2.S x y) xs:=g5
        omega
      grind
theorem Ai8:Kp fun _=>True:=⟨fun _ _ _ _ _ _ _ _=>trivial,fun _ _ _ _ _ _=>trivial⟩
theorem If {b:Int} {r:List Pg} {i:Nat}:∀ x∈F1 b i r,x.1=b:=fun x hx=>by
  obtain ⟨j,p,_,_,rfl⟩:=recZ_mem.1 hx
  rfl
theorem Qz {z z1:Sg} {b:Nat} (hP:P0 z) (h:∀ r∈refs z1.S,r.1=b→r∈refs z.S∧r∉F1 b 2 (z.R b)):∀ r∈refs z1.S,r.1≠b:=fun r hr hrb=>by
  obtain ⟨h1,h2⟩:=h r hr hrb
  obtain ⟨p,⟨c,j,rfl,_,hp⟩,hg⟩:=hP r h1
  have:c=b:=by have e9:(c:Int)=b:=hrb;omega
  subst this
  exact h2 (recZ_mem.2 ⟨j,p,hp,hg,rfl⟩)
theorem Azc {n k:Nat} {q:Qt} {z:Sg} (hw:LW k z) (hk:k≤380000000000) (hP:P0 z):Ay3 n q z:=fun b hb hs hl z1 hE j hj=>by
  have hlen:=Qr b (z.R b) 2
  have:=hw.rl b hb
  rcases hE.keep Ai8 (b:=b) hw (by omega) hP trivial If hb hs hl with ⟨h,_⟩ | ⟨h,_⟩ | ⟨_,_,_,_,_,_,h,_⟩
  · cases h
  · cases h
  · refine Av9 fun h9=> ?_
    exact Qz hP h _ h9 rfl
theorem Ark {x y:Ldv} (h:V6 x y=true):x.c≤y.c:=by
  unfold V6 at h
  simp only [A4f] at h
  unfold orF at h
  by_cases e:V5 x.c y.c=0
  · unfold V5 at e
    omega
  · rw [A6u e] at h
    unfold V5 at h
    omega
theorem Arl {x y:Ldv} (h:V6 x y=false):y.c≤x.c:=by
  unfold V6 at h
  simp only [A2m] at h
  by_cases hl:x.c<y.c
  · exfalso
    apply h
    unfold orF
    have:V5 x.c y.c= -1:=by unfold V5;rw [A6v hl]
    rw [this]
    omega
  · omega
theorem O4 {xs:List Ldv} {but:Int}:∀ {i:Nat} {j:Nat},j<i→(j:Int)≠but→(Cu xs but i).2=true∧(J4 xs (Cu xs but i).1.toNat).c≤(J4 xs j).c
  | 0,j,h,_=>by omega
  | i+1,j,h,hb=>by
    unfold Cu
    by_cases hc:(!decide ((i:Int)=but) && (!(Cu xs but i).2 || V6 (J4 xs i) (J4 xs (Cu xs but i).1.toNat)))=true
    · rw [A6v hc]
      refine ⟨rfl,?_⟩
      simp only [A33]
      by_cases e:j=i
      · grind
      · obtain ⟨h1,h2⟩:=O4 (xs:=xs) (i:=i) (j:=j) (by omega) hb
        simp only [A4k,A40,A32] at hc
        rcases hc.2 with h3 | h3
        · rw [h1] at h3;cases h3
        · have:=Ark h3;omega
    · rw [A6u hc]
      by_cases e:j=i
      · subst e
        simp only [A4k,A40,A32,A2m,not_and,not_or,Bool.not_eq_false,Bool.not_eq_true] at hc
        obtain ⟨h1,h2⟩:=hc hb
        exact ⟨h1,Arl h2⟩
      · exact O4 (by omega) hb
theorem Se (xs:List Ldv):∀ i j,j<i→(J4 xs j).s.seq.toNat≤(J4 xs (D4 xs i)).s.seq.toNat
  | 0,j,h=>by omega
  | i+1,j,h=>by
    unfold D4
    split
    · rename_i hlt
      by_cases e:j=i
      · grind
      · have:=Se xs i j (by omega);omega
    · rename_i hlt
      by_cases e:j=i
      · grind
      · exact Se xs i j (by omega)
theorem Q0 {S:Sto} {ss:List Seg} {i:Nat} {g:Seg} (h:ss[i]? =some g):J4 (ss.map (ldS S)) i=ldS S g:=by
  unfold J4
  rw [A18,A38,h]
  rfl
theorem SegsOf.has {z:Sg} {ss:List Seg} (h:SegsOf z ss) {b:Nat} (hb:b<z.L.nb) (hs:(bAt z.L.bs b).seq.toNat≠0):∃ (i:Nat) (g:Seg),ss[i]? =some g∧g.b=b∧g.seq=(bAt z.L.bs b).seq∧g.recs.list=F1 b 2 (z.R b):=by
  have:((b:Int),(bAt z.L.bs b).seq,(bAt z.L.bs b).wear,F1 b 2 (z.R b))∈ss.map W0:=h.1.mem_iff.2 (segZ_mem.2 ⟨b,hb,hs,rfl⟩)
  obtain ⟨g,hg,hv⟩:=A53.1 this
  unfold W0 at hv
  simp only [A50] at hv
  obtain ⟨i,hi⟩:=List.getElem?_of_mem hg
  grind
theorem Arm {k:Nat} {z:Sg} {ss:List Seg} (hw:LW k z) (hs:SegsOf z ss) {g:Seg} (hg:ss[D4 (ss.map (ldS z.S)) ss.length]? =some g):g.b=z.L.last:=by
  obtain ⟨b,hb,hsq,hgb,hgs,_,_⟩:=hs.mem (A3b hg)
  rcases hw.lst with ⟨_,h2⟩ | ⟨l,h1,h2,h3,h4⟩
  · grind
  · obtain ⟨i,g2,e1,e2,e3,_⟩:=hs.has h2 h3
    have hi:=(List.getElem?_eq_some_iff.1 e1).1
    have hm:=Se (ss.map (ldS z.S)) ss.length i hi
    rw [Q0 e1,Q0 hg] at hm
    have hm:g2.seq.toNat≤g.seq.toNat:=hm
    rw [e3,hgs] at hm
    grind
theorem Zn {α:Type} [DecidableEq α]:∀ {xs ys:List α},xs.Nodup→(∀ x∈xs,x∈ys)→xs.length≤ys.length
  | [],ys,_,_=>A6j _
  | x::xs,ys,hn,hs=>by
    rw [A5c] at hn
    have h1:=hs x A3y
    have h2:=Zn (ys:=ys.erase x) hn.2 fun y hy=>by
      have:y≠x:=fun e=>hn.1 (by rw [← e];exact hy)
      grind
    rw [A2j h1] at h2
    have:=A2r h1
    rw [A4q]
    omega
theorem Abq (b:Int):∀ (r:List Pg) (i:Nat),(F1 b i r).Nodup∧∀ x∈F1 b i r,(i:Int)≤x.2
  | [],i=>⟨A5o,fun x h=>by cases h⟩
  | p::r,i=>by
    obtain ⟨h1,h2⟩:=Abq b r (i+1)
    unfold F1
    grind
def cz (R:Nat→List Pg):Nat→List Pl2
  | 0=>[]
  | j+1=>cz R j++F1 j 2 (R j)
theorem Axb (R:Nat→List Pg):∀ k,(cz R k).Nodup∧∀ x∈cz R k,x.1<k
  | 0=>⟨A5o,fun x h=>by cases h⟩
  | k+1=>by
    obtain ⟨h1,h2⟩:=Axb R k
    unfold cz
    refine ⟨A4b.2 ⟨h1,(Abq _ _ _).1,fun a ha c hc e=> ?_⟩,fun x hx=> ?_⟩
    · have e1:=If c hc
      have e2:=h2 a ha
      rw [e,e1] at e2
      omega
    · rcases A49.1 hx with h | h
      · have:=h2 x h;omega
      · rw [If x h];omega
theorem Arn (S:Sto) (R:Nat→List Pg) (k:Nat):(cz R k).countP (Ji S)≤(refs S).length:=by
  rw [List.countP_eq_length_filter]
  exact Zn ((Axb R k).1.filter _) fun x hx=>cntS_iff.1 (A5a.1 hx).2
theorem Azd {z:Sg} (hf:fr z≤1) (hc:(refs z.S).length+20≤6*z.L.nb):∃ b:Nat,b<z.L.nb∧(bAt z.L.bs b).seq.toNat≠0∧(b:Int)≠z.L.last∧Gw z.S (F1 b 2 (z.R b))≤5:=by
  refine A2c fun hn=> ?_
  have hall:∀ b:Nat,b<z.L.nb→(bAt z.L.bs b).seq.toNat≠0→(b:Int)≠z.L.last→6≤Gw z.S (F1 b 2 (z.R b)):=fun b h1 h2 h3=>by
    grind
  have key:∀ k,k≤z.L.nb→6*k≤(cz z.R k).countP (Ji z.S)+6*Bv z.L.bs k+(if 0≤z.L.last∧z.L.last<k then 6 else 0):=fun k=>by
    induction k with
    | zero=>omega
    | succ k ih =>
      intro hk
      have ih:=ih (by omega)
      rw [Ga]
      unfold cz z1
      rw [List.countP_append]
      by_cases h0:(bAt z.L.bs k).seq.toNat=0
      · rw [A6v h0]
        split at ih <;> split <;> omega
      · rw [A6u h0]
        by_cases hl:(k:Int)=z.L.last
        · rw [A6u (by omega)] at ih
          rw [A6v (by omega)]
          omega
        · have:=hall k (by omega) h0 hl
          unfold Gw at this
          split at ih <;> split <;> omega
  have h1:=key z.L.nb (A6h _)
  have h2:=Arn z.S z.R z.L.nb
  have h3:Bv z.L.bs z.L.nb≤1:=hf
  split at h1 <;> omega
theorem Aro {k:Nat} {z:Sg} {ss:List Seg} (hw:LW k z) (hs:SegsOf z ss) (hf:fr z≤1) (hc:(refs z.S).length+20≤6*z.L.nb) :
    (F0 (ss.map (ldS z.S))).2=true∧∀ g,ss[(F0 (ss.map (ldS z.S))).1.toNat]? =some g→Gw z.S g.recs.list≤5:=by
  obtain ⟨b,h1,h2,h3,h4⟩:=Azd hf hc
  obtain ⟨i,g0,e1,e2,_,e4⟩:=hs.has h1 h2
  have hi:=(List.getElem?_eq_some_iff.1 e1).1
  have hne:(i:Int)≠(D4 (ss.map (ldS z.S)) ss.length:Nat):=fun e=>by
    have:i=D4 (ss.map (ldS z.S)) ss.length:=by omega
    have:=Arm hw hs (g:=g0) (by rw [← this];exact e1)
    rw [e2] at this
    exact h3 this
  obtain ⟨m1,m2⟩:=O4 (xs:=ss.map (ldS z.S)) (but:=(D4 (ss.map (ldS z.S)) ss.length:Nat)) (i:=ss.length) hi hne
  unfold F0
  rw [A46]
  refine ⟨m1,fun g hg=> ?_⟩
  rw [Q0 hg,Q0 e1] at m2
  have m2:((Gw z.S g.recs.list:Nat):Int)≤(Gw z.S g0.recs.list:Nat):=m2
  rw [e4] at m2
  omega
theorem ColR.keep {n k:Nat} {q:Qt} {z z':Sg} {e:Int} {I:Sg→Prop} (hK:Kp I) (hw:LW k z) (hk:k≤380000000000) (hP:P0 z) (hI:I z) (hf:fr z=1) (hc:(refs z.S).length+20≤6*z.L.nb) (h:ColR n q z e z') :
    (e=30∧DnM n q I z')∨(e=0∧LW (k+6) z'∧P0 z'∧I z'∧slots z+1≤slots z'∧1≤fr z'∧(refs z'.S).length=(refs z.S).length∧z'.L.nb=z.L.nb):=by
  obtain ⟨ss,hss,h⟩:=h
  obtain ⟨v1,v2⟩:=Aro hw hss (by omega) hc
  rcases h with ⟨h1,_⟩ | ⟨_,g,b,hg,hgb,hnl,hE⟩
  · rw [v1] at h1;cases h1
  have hc5:=v2 g hg
  obtain ⟨b',hb',hsq,hgb',_,_,hrl⟩:=hss.mem (A3b hg)
  have:b'=b:=by omega
  subst this
  rw [hrl] at hc5
  have hlen:=Qr b' (z.R b') 2
  have hrl6:=hw.rl b' hb'
  have hsl:6≤slots z:=by unfold slots;omega
  rcases hE with ⟨he,hE⟩ | ⟨z1,hE,hD⟩
  · rcases hE.keep hK (b:=b') hw (by omega) hP hI If hb' hsq hnl with ⟨_,g1⟩ | g | ⟨g,_⟩
    · omega
    · exact .inl g
    omega
  · rcases hE.keep hK (b:=b') hw (by omega) hP hI If hb' hsq hnl with ⟨g,_⟩ | ⟨g,_⟩ | ⟨_,g2,g3,g4,g5,g6,g7,g8,g9,g10,g11⟩
    · cases g
    · cases g
    have hno:=Qz hP g7
    by_cases h30:e=30
    · subst h30
      exact .inl ⟨rfl,_,z1,g2,g3,g4,.inr ⟨b',by omega,g9,g10,hno,hD⟩⟩
    · have he:e=0:=by rcases hD.2.2.2.2.2.2 with h | h;exact h.1;omega
      subst he
      have hfra:=hD.2.2.2.2.2.1
      obtain ⟨d1,d2,d3,d4⟩:=DropG.ok g2 (by omega) g9 g10 hD
      refine .inr ⟨rfl,d1.mono (by omega),fun r hr=> ?_,hK.dr g2 g3 g4 hno d4 hfra,?_,by omega,by rw [d4.S];exact g6,d4.nb.trans g8⟩
      · rw [d4.S] at hr
        obtain ⟨p,p1,p2⟩:=g3 r hr
        exact ⟨p,d4.old _ _ p1 (hno r hr),p2⟩
      · unfold slots at *
        omega
theorem RoomR.keep {n:Nat} {q:Qt} {m:Nat} {z z':Sg} {e:Int} {I:Sg→Prop} (hK:Kp I) (h:RoomR n q m z e z'):∀ {k:Nat},LW k z→k+6*m≤380000000000→P0 z→I z→1≤fr z→(refs z.S).length+20≤6*z.L.nb→13≤slots z+m →
    (e=30∧DnM n q I z')∨(e=0∧LW (k+6*m) z'∧P0 z'∧I z'∧2≤fr z'∧(refs z'.S).length=(refs z.S).length∧z'.L.nb=z.L.nb):=by
  induction h with
  | @enough m z h=>exact fun hw hk hP hI hf hc hs=> .inr ⟨rfl,hw.mono (by omega),hP,hI,h,rfl,rfl⟩
  | @out z=>exact fun hw hk hP hI hf hc hs=> .inr ⟨rfl,hw,hP,hI,by have:=Ari z;unfold slots at hs;omega,rfl,rfl⟩
  | @stop m z z1 e h1 h2 h3 =>
    intro k hw hk hP hI hf hc hs
    have h1:fr z≤1:=h1
    rcases h2.keep hK hw (by omega) hP hI (by omega) hc with g | ⟨g,_⟩
    · exact .inl g
    omega
  | @go m z z1 z' e h1 h2 _ ih =>
    intro k hw hk hP hI hf hc hs
    have h1:fr z≤1:=h1
    rcases h2.keep hK hw (by omega) hP hI (by omega) hc with ⟨g,_⟩ | ⟨_,g1,g2,g3,g4,g5,g6,g7⟩
    · cases g
    grind
theorem PutG.keep {n k:Nat} {q:Qt} {z z':Sg} {p:Pg} {e:Int} {y:Pl2} {I:Sg→Prop} (hK:Kp I) (hw:LW k z) (hk:k≤300000000000) (h40:z.L.nb≤40) (hP:P0 z) (hI:I z) (hf:1≤fr z) (hc:(refs z.S).length+20≤6*z.L.nb) (h:PutG n q z p e y z') :
    (e=30∧(DnM n q I z'∨∃ k' z1,LW k' z1∧P0 z1∧I z1∧2≤fr z1∧AppG n q z1 p 30 y z')) ∨
    (e=0∧∃ k' z1,LW k' z1∧P0 z1∧I z1∧2≤fr z1∧(refs z1.S).length=(refs z.S).length∧z1.L.nb=z.L.nb∧NewAt z1 p y z'∧FrA z1.L.d.c z'.L.d.c∧1≤fr z'∧LW (k+2000) z'):=by
  have hroom:∀ {e z1},RoomR n q (8*z.L.nb) z e z1→_:=fun h=>RoomR.keep hK h hw (by omega) hP hI hf hc (by omega)
  rcases h with ⟨he,h⟩ | ⟨z1,h,hA⟩
  · grind
  · rcases hroom h with ⟨g1,_⟩ | ⟨_,g2,g3,g4,g5,g6,g7⟩
    · cases g1
    by_cases h30:e=30
    · grind
    · rcases hA.ok g2 (by omega) h30 with ⟨_,w⟩ | ⟨w1,w2,w3,w4,w5⟩
      · unfold slots at w;omega
      · exact .inr ⟨w1,_,z1,g2,g3,g4,g5,g6,g7,w5,hA.fra,by unfold slots at w3;omega,w2.mono (by omega)⟩
theorem Abr {n:Nat} {q:Qt} {z:Sg} (hP:P0 z) (hf:1≤fr z) (hc:(refs z.S).length+20≤6*z.L.nb) (h13:z.L.nb≤40):Wa n q z:=by
  intro z1 hC ⟨k1,hk1,hW1⟩ hf1
  have key:P0 z1∧1≤fr z1∧(refs z1.S).length=(refs z.S).length∧z1.L.nb=z.L.nb:=by
    clear hW1 hf1
    induction hC with
    | refl=>grind
    | @step z1 z2 _ hk hf1 hR ih =>
      obtain ⟨k,hk,hW⟩:=hk
      obtain ⟨i1,i2,i3,i4⟩:=ih
      have hf1:fr z1≤1:=hf1
      rcases hR.keep Ai8 hW.lw (by omega) i1 trivial (by omega) (by rw [i3,i4];exact hc) with ⟨g,_⟩ | ⟨_,_,g2,_,_,g5,g6,g7⟩
      · cases g
      grind
  obtain ⟨k1',k2,k3,k4⟩:=key
  have k2':1≤Bv z1.L.bs z1.L.nb:=k2
  exact ⟨by omega,by omega,Azc hW1.lw (by omega) k1'⟩
end
section
open Go.K
inductive Rc
  | nd (k:Int) (e:Wd) (b:List By)
  | cm (c:Cm)
  | vw (v:Vw)
def Rc.pg:Rc→Pg
  | .nd k e b=>Cj 10 (E5 k e b)
  | .cm c=>Cj 11 (F8 c)
  | .vw v=>Cj 12 (L8 v)
def Rc.body:Rc→List By
  | .nd k e b=>E5 k e b
  | .cm c=>F8 c
  | .vw v=>L8 v
def Rc.kind:Rc→By
  | .nd .. =>10
  | .cm _=>11
  | .vw _=>12
def Rc.ok:Rc→Prop
  | .nd k _ b=>A9 k b=true
  | _=>True
theorem Rc.pg_eq (r:Rc):r.pg=Cj r.kind r.body:=by cases r <;> rfl
theorem Rc.wr {r:Rc} (h:r.ok):Cv r.kind r.body=false:=by
  cases r with
  | nd k e b=>exact (K5 h).2.2.2.2
  | cm c=>show Cv 11 (F8 c)=false;unfold Cv;rw [Ju];rfl
  | vw v=>show Cv 12 (L8 v)=false;unfold Cv;rw [Nm];rfl
theorem Rc.hi (r:Rc):3<r.kind.toNat:=by
  cases r with
  | nd k e b=>show 3<(10:By).toNat;decide
  | cm c=>show 3<(11:By).toNat;decide
  | vw v=>show 3<(12:By).toNat;decide
theorem Rc.get {r:Rc} (h:r.ok):Ef r.pg=(r.kind,r.body,0,0):=by rw [r.pg_eq];exact Zd r.hi (Rc.wr h)
theorem Rc.good {r:Rc} (h:r.ok):(Ef r.pg).2.2.2=0:=by rw [Rc.get h]
theorem Rc.bod {r s:Rc} (h:r.ok) (h2:s.ok) (he:r.pg=s.pg):r.kind=s.kind∧r.body=s.body:=by
  have:=A6r Ef he
  rw [Rc.get h,Rc.get h2] at this
  grind
theorem Arp {k k':Int} {e e':Wd} {b b':List By} (h:A9 k b=true) (h':A9 k' b'=true) (he:(Rc.nd k e b).pg=(Rc.nd k' e' b').pg):k=k'∧e=e'∧b=b':=by
  obtain ⟨_,hb⟩:=Rc.bod (r:= .nd k e b) (s:= .nd k' e' b') h h' he
  have hb:E5 k e b=E5 k' e' b':=hb
  obtain ⟨_,h1,h2,h3,_⟩:=K5 (e:=e) h
  obtain ⟨_,h4,h5,h6,_⟩:=K5 (e:=e') h'
  rw [hb] at h1 h2 h3
  grind
theorem Arq (x:BitVec 32):(Ec (Bz 4 (x.setWidth 64)) 4).setWidth 32=x:=by
  apply A2u
  rw [A2v,Qf _ (by omega) 4 (by omega),A2v]
  have:=x.isLt
  omega
theorem Sf (c:Cm):Ap0 (F8 c)=c:=by
  unfold Ap0 F8
  have e1:(Bz 8 c.ep++(Bz 4 (c.sum.setWidth 64)++(c.lv.toList++[]))).take 8=Bz 8 c.ep:=A5e (A4 ..)
  have e2:(Bz 8 c.ep++(Bz 4 (c.sum.setWidth 64)++(c.lv.toList++[]))).drop 8=Bz 4 (c.sum.setWidth 64)++(c.lv.toList++[]):=A44 (A4 ..)
  have e3:(Bz 8 c.ep++(Bz 4 (c.sum.setWidth 64)++(c.lv.toList++[]))).drop 12=c.lv.toList:=by
    rw [show 12=8+4 from rfl,← A5k,e2,A44 (A4 ..),A42]
  rw [e1,e2,e3,A5e (A4 ..),Kz,Arq]
  have:Abd c.lv.toList=c.lv:=by
    apply A6l
    intro i hi
    unfold Abd
    rw [Vector.getElem_ofFn]
    grind
  rw [this]
theorem Arr {c c':Cm} (he:(Rc.cm c).pg=(Rc.cm c').pg):c=c':=by
  obtain ⟨_,hb⟩:=Rc.bod (r:= .cm c) (s:= .cm c') trivial trivial he
  have hb:F8 c=F8 c':=hb
  rw [← Sf c,← Sf c',hb]
def Awa (xs:List By):Vw:=⟨Ec (xs.take 8) 8,((Ec ((xs.drop 8).take 1) 1).toNat:Int),Ec ((xs.drop 9).take 8) 8⟩
theorem Ars (x:Int):Em .and .i64 x 255=x % 256:=by
  have h:(BitVec.ofInt 64 x &&& BitVec.ofInt 64 255).toNat=(x % 256).toNat:=by
    rw [A4i,A3o,show (BitVec.ofInt 64 255).toNat=2 ^ 8 - 1 from rfl,A1z]
    omega
  show IntKind.i64.wrap (((BitVec.ofInt 64 x &&& BitVec.ofInt 64 255).toNat:Nat):Int)=_
  rw [h,C0 (by omega)]
  omega
theorem Art (x:Int):((Ec (Bz 1 (BitVec.ofInt 64 x)) 1).toNat:Int)=x % 256:=by
  rw [Qf _ (by omega) 1 (by omega),A3o]
  omega
theorem Abs (v:Vw):Awa (L8 v)=vwM v:=by
  unfold Awa L8 vwM
  have e1:(Bz 8 v.num++(Bz 1 (BitVec.ofInt 64 v.mem)++(Bz 8 v.base++[]))).take 8=Bz 8 v.num:=A5e (A4 ..)
  have e2:(Bz 8 v.num++(Bz 1 (BitVec.ofInt 64 v.mem)++(Bz 8 v.base++[]))).drop 8=Bz 1 (BitVec.ofInt 64 v.mem)++(Bz 8 v.base++[]):=A44 (A4 ..)
  have e3:(Bz 8 v.num++(Bz 1 (BitVec.ofInt 64 v.mem)++(Bz 8 v.base++[]))).drop 9=Bz 8 v.base++[]:=by
    rw [show 9=8+1 from rfl,← A5k,e2,A44 (A4 ..)]
  rw [e1,e2,e3,A5e (A4 ..),A5e (A4 ..),Kz,Kz,Art,Ars]
theorem Abt {v v':Vw} (he:(Rc.vw v).pg=(Rc.vw v').pg):vwM v=vwM v':=by
  obtain ⟨_,hb⟩:=Rc.bod (r:= .vw v) (s:= .vw v') trivial trivial he
  have hb:L8 v=L8 v':=hb
  rw [← Abs v,← Abs v',hb]
theorem E7 {r s:Rc} (h:r.ok) (h2:s.ok) (hk:r.kind≠s.kind):r.pg≠s.pg:=fun he=>hk (Rc.bod h h2 he).1
abbrev NdM:=Int→Option (Wd×List By)
structure Ab where
  last:Cm
  vw:Vw
  viewed:Bool
  seen:Wd
  stray:Int→Bool
  ix:NdM
def Stands (z:Sg) (m:Mp En) (f:NdM):Prop:=∀ k,match f k with
  | none=>m.get k=none
  | some (e,b)=>∃ en,m.get k=some en∧en.ep=e∧A9 k b=true∧RecAt z en.at' (Rc.nd k e b).pg
theorem Stands.yes {z:Sg} {m:Mp En} {f:NdM} (h:Stands z m f) {k:Int} {e:Wd} {b:List By} (hf:f k=some (e,b)):∃ en,m.get k=some en∧en.ep=e∧A9 k b=true∧RecAt z en.at' (Rc.nd k e b).pg:=by
  have:=h k
  rw [hf] at this
  exact this
theorem Stands.no {z:Sg} {m:Mp En} {f:NdM} (h:Stands z m f) {k:Int} (hf:f k=none):m.get k=none:=by
  have:=h k
  rw [hf] at this
  exact this
theorem Stands.of {z:Sg} {m:Mp En} {f:NdM} (h:Stands z m f) {k:Int} {en:En} (hg:m.get k=some en):∃ b,f k=some (en.ep,b)∧A9 k b=true∧RecAt z en.at' (Rc.nd k en.ep b).pg:=by
  cases hf:f k with
  | none=>rw [h.no hf] at hg;cases hg
  | some r =>
    obtain ⟨e,b⟩:=r
    obtain ⟨en',h1,h2,h3,h4⟩:=h.yes hf
    rw [hg] at h1
    have:=A5i h1
    grind
theorem Stands.mono {z z':Sg} {m:Mp En} {f:NdM} (h:Stands z m f) (hr:∀ k en,m.get k=some en→∀ p,RecAt z en.at' p→RecAt z' en.at' p):Stands z' m f:=fun k=>by
  have:=h k
  grind
theorem Stands.refs {z:Sg} {m:Mp En} {f:NdM} (h:Stands z m f) {x:Pl2} (hx:x∈m.es.map fun e=>e.v.at'):∃ k e b,A9 k b=true∧RecAt z x (Rc.nd k e b).pg:=by
  obtain ⟨e,he,rfl⟩:=A53.1 hx
  obtain ⟨b,_,h1,h2⟩:=h.of (Mp.get_mem he)
  grind
def A1a (A:Ab) (k:Int) (e:Wd) (b:List By):Prop:=e.toNat≤A.seen.toNat∧(A.stray k=false→e.toNat≤A.last.ep.toNat) ∧
  (Bg A.last.lv k=true→e.toNat≤A.last.ep.toNat→∃ e' b',A.ix k=some (e',b')∧e.toNat≤e'.toNat∧(e=e'→b=b'))
structure Rz (A:Ab) (P:NdM) (Q:Int→Wd→List By→Prop) (z:Sg):Prop where
  last:z.S.last=A.last
  vw:z.S.vw=A.vw
  viewed:z.S.viewed=A.viewed
  ix:Stands z z.S.idx A.ix
  pd:Stands z z.S.pend P
  la:0<A.last.ep.toNat→RecAt z z.S.la (Rc.cm A.last).pg
  va:A.viewed=true→∃ v,vwM v=A.vw∧RecAt z z.S.va (Rc.vw v).pg
  kd:∀ x p,RecAt z x p→(Ef p).2.2.2=0→∃ r:Rc,r.ok∧p=r.pg
  nd:∀ x k e b,A9 k b=true→RecAt z x (Rc.nd k e b).pg→A1a A k e b∨Q k e b
  cm:∀ x c,RecAt z x (Rc.cm c).pg→0<c.ep.toNat∧c.ep.toNat≤A.last.ep.toNat∧(c.ep=A.last.ep→c=A.last)
  vs:∀ x v,RecAt z x (Rc.vw v).pg→A.viewed=true∧v.num.toNat≤A.vw.num.toNat∧(v.num=A.vw.num→vwM v=A.vw∨bef z x z.S.va)
section
variable {A:Ab} {P:NdM} {Q:Int→Wd→List By→Prop} {z z' z1:Sg}
theorem Rz.p0 (h:Rz A P Q z):P0 z:=fun r hr=>by
  unfold refs at hr
  rcases A49.1 hr with h1 | h1
  · split at h1
    · rename_i hc
      rw [A3z.1 h1]
      exact ⟨_,h.la (by rw [← h.last];exact hc),Rc.good (r:= .cm _) trivial⟩
    · cases h1
  rcases A49.1 h1 with h1 | h1
  · split at h1
    · rename_i hc
      rw [A3z.1 h1]
      obtain ⟨v,_,hv⟩:=h.va (by rw [← h.viewed];exact hc)
      exact ⟨_,hv,Rc.good (r:= .vw _) trivial⟩
    · cases h1
  rcases A49.1 h1 with h1 | h1
  · obtain ⟨k,e,b,h2,h3⟩:=h.ix.refs h1
    exact ⟨_,h3,Rc.good (r:= .nd k e b) h2⟩
  · obtain ⟨k,e,b,h2,h3⟩:=h.pd.refs h1
    exact ⟨_,h3,Rc.good (r:= .nd k e b) h2⟩
theorem Rz.ref_vw (h:Rz A P Q z) {x:Pl2} {v:Vw} (hx:x∈refs z.S) (hr:RecAt z x (Rc.vw v).pg):vwM v=A.vw:=by
  unfold refs at hx
  rcases A49.1 hx with h1 | h1
  · split at h1
    · rename_i hc
      rw [A3z.1 h1] at hr
      exact absurd (hr.fn (h.la (by rw [← h.last];exact hc))) (E7 (r:= .vw v) (s:= .cm _) trivial trivial (by show (12:By)≠11;decide))
    · cases h1
  rcases A49.1 h1 with h1 | h1
  · split at h1
    · rename_i hc
      rw [A3z.1 h1] at hr
      obtain ⟨v',e,hv⟩:=h.va (by rw [← h.viewed];exact hc)
      rw [← e]
      exact Abt (hr.fn hv)
    · cases h1
  rcases A49.1 h1 with h1 | h1
  · obtain ⟨k,e,b,h2,h3⟩:=h.ix.refs h1
    exact absurd (hr.fn h3) (E7 (r:= .vw v) (s:= .nd k e b) trivial h2 (by show (12:By)≠10;decide))
  · obtain ⟨k,e,b,h2,h3⟩:=h.pd.refs h1
    exact absurd (hr.fn h3) (E7 (r:= .vw v) (s:= .nd k e b) trivial h2 (by show (12:By)≠10;decide))
theorem S8 (h:z.S.viewed=true):z.S.va∈refs z.S:=by
  unfold refs
  grind
theorem Stands.moved {m:Mp En} {f:NdM} {x y:Pl2} {p:Pg} (h:Stands z m f) (hx:RecAt z x p) (hy:RecAt z' y p) (ho:∀ x r,RecAt z x r→RecAt z' x r):Stands z' (m.mapV (mvE x y)) f:=fun k=>by
  have:=h k
  cases hf:f k with
  | none=>rw [hf] at this;show (m.mapV (mvE x y)).get k=none;rw [Mp.get_mapV,show m.get k=none from this];rfl
  | some r =>
    obtain ⟨e,b⟩:=r
    rw [hf] at this
    obtain ⟨en,h1,h2,h3,h4⟩:=this
    refine ⟨mvE x y en,by rw [Mp.get_mapV,h1];rfl,by rw [Azb];exact h2,h3,?_⟩
    rw [Ag5]
    unfold mvP
    by_cases e0:en.at'=x
    · rw [A6v e0,h4.fn (by rw [e0];exact hx)];exact hy
    grind
theorem Rz.sh {k:Nat} (hw:LW k z) (h:Rz A P Q z) {x y:Pl2} {p:Pg} (hx:x∈refs z.S) (hr:RecAt z x p) (hg:(Ef p).2.2.2=0) (hn:NewAt z p y z1):Rz A P Q { z1 with S:=Dm z1.S x y }:=by
  have hS:=hn.S
  have hold:∀ x r,RecAt z x r→RecAt z1 x r:=fun x r hx=>(hn.old x r hx).1
  have hinv:∀ x' r,RecAt z1 x' r→∃ x0,RecAt z x0 r:=fun x' r h1=>by
    rcases hn.inv x' r h1 with h2 | ⟨_,rfl⟩
    · grind
    grind
  refine ⟨?_,?_,?_,?_,?_,fun h0=> ?_,fun h0=> ?_,fun x' p' h1 h2=> ?_,fun x' k e b h1 h2=> ?_,fun x' c h1=> ?_,fun x' v h1=> ?_⟩
  · show z1.S.last=_;rw [hS];exact h.last
  · show z1.S.vw=_;rw [hS];exact h.vw
  · show z1.S.viewed=_;rw [hS];exact h.viewed
  · show Stands _ (z1.S.idx.mapV (mvE x y)) _
    rw [hS]
    exact (h.ix.moved hr hn.new hold).mono fun _ _ _ _ h9=>h9
  · show Stands _ (z1.S.pend.mapV (mvE x y)) _
    rw [hS]
    exact (h.pd.moved hr hn.new hold).mono fun _ _ _ _ h9=>h9
  · show RecAt z1 (Dm z1.S x y).la _
    rw [Aeo (by rw [hS,h.last];exact h0),hS]
    have h4:=h.la h0
    unfold mvP
    by_cases e0:z.S.la=x
    · rw [A6v e0,h4.fn (by rw [e0];exact hr)];exact hn.new
    grind
  · obtain ⟨v,h3,h4⟩:=h.va h0
    refine ⟨v,h3,?_⟩
    show RecAt z1 (Dm z1.S x y).va _
    rw [Wl (by rw [hS,h.viewed];exact h0),hS]
    unfold mvP
    by_cases e0:z.S.va=x
    · rw [A6v e0,h4.fn (by rw [e0];exact hr)];exact hn.new
    grind
  · obtain ⟨x0,h3⟩:=hinv x' p' h1
    exact h.kd x0 p' h3 h2
  · obtain ⟨x0,h3⟩:=hinv x' _ h2
    exact h.nd x0 k e b h1 h3
  · obtain ⟨x0,h3⟩:=hinv x' _ h1
    exact h.cm x0 c h3
  · have h1:RecAt z1 x' (Rc.vw v).pg:=h1
    show A.viewed=true∧v.num.toNat≤A.vw.num.toNat∧(v.num=A.vw.num→vwM v=A.vw∨bef z1 x' (Dm z1.S x y).va)
    rcases hn.inv x' _ h1 with h2 | ⟨rfl,h2⟩
    · obtain ⟨g1,g2,g3⟩:=h.vs x' v h2
      refine ⟨g1,g2,fun g4=>(g3 g4).imp id fun g5=> ?_⟩
      obtain ⟨v',_,h5⟩:=h.va g1
      rw [Wl (by rw [hS,h.viewed];exact g1),hS]
      unfold mvP
      by_cases e0:z.S.va=x
      · rw [A6v e0];exact hn.bef _ _ h2
      · rw [A6u e0];exact (hn.ord hw h2 h5).2 g5
    · have h3:RecAt z x (Rc.vw v).pg:=by rw [h2];exact hr
      obtain ⟨g1,g2,g3⟩:=h.vs x v h3
      exact ⟨g1,g2,fun _=> .inl (h.ref_vw hx h3)⟩
theorem Rz.dr (h:Rz A P Q z) {b:Nat} (hno:∀ r∈refs z.S,r.1≠b) (hg:GoneB z b z'):Rz A P Q z':=by
  have hS:=hg.S
  have hm:∀ {m:Mp En} {f:NdM},(∀ e∈m.es,e.v.at'.1≠b)→Stands z m f→Stands z' m f:=fun hm h=>h.mono fun k en hk p hp=>by
    obtain ⟨e,he,_,rfl⟩:=Mp.mem_get hk
    exact hg.old _ _ hp (hm e he)
  refine ⟨by rw [hS];exact h.last,by rw [hS];exact h.vw,by rw [hS];exact h.viewed,?_,?_,fun h0=> ?_,fun h0=> ?_,fun x p h1 h2=>h.kd x p (hg.inv _ _ h1).1 h2,fun x k e b h1 h2=>h.nd x k e b h1 (hg.inv _ _ h2).1,fun x c h1=>h.cm x c (hg.inv _ _ h1).1,fun x v h1=> ?_⟩
  · rw [hS]
    exact hm (fun e he=>hno _ (by unfold refs;grind)) h.ix
  · rw [hS]
    exact hm (fun e he=>hno _ (by unfold refs;grind)) h.pd
  · rw [hS]
    refine hg.old _ _ (h.la h0) (hno _ ?_)
    unfold refs
    exact A29 _ (by rw [A6v (by rw [h.last];exact h0)];grind)
  · obtain ⟨v,h3,h4⟩:=h.va h0
    rw [hS]
    exact ⟨v,h3,hg.old _ _ h4 (hno _ (S8 (by rw [h.viewed];exact h0)))⟩
  · obtain ⟨g1,g2,g3⟩:=h.vs x v (hg.inv _ _ h1).1
    refine ⟨g1,g2,fun g4=>(g3 g4).imp id fun g5=> ?_⟩
    obtain ⟨v',_,h5⟩:=h.va g1
    rw [hS]
    exact (hg.ord h1 (hg.old _ _ h5 (hno _ (S8 (by rw [h.viewed];exact g1))))).2 g5
def IRz (A:Ab) (P:NdM) (Q:Int→Wd→List By→Prop) (S0:Sto) (c0:Chip) (z:Sg):Prop:=Rz A P Q z∧SameS S0 z.S∧FrA c0 z.L.d.c
theorem Ai9 (A:Ab) (P:NdM) (Q:Int→Wd→List By→Prop) (S0:Sto) (c0:Chip):Kp (IRz A P Q S0 c0) :=
  ⟨fun hw _ hI hx hr hg hn hf=>⟨hI.1.sh hw hx hr hg hn,(hI.2.1.trans (.of hn.S)).trans (Wb _ _ _),hI.2.2.trans hf⟩,
   fun hw _ hI hno hg hf=>⟨hI.1.dr hno hg,hI.2.1.trans (.of hg.S),hI.2.2.trans hf⟩⟩
end
end
section
open Go.K
variable {T:TypeId}
instance byt40:Byt Tryz.prog 40 40:=⟨by kernel_rfl⟩
theorem Avv {s:Sl Int} {x:Int} {T:TypeId}:Does Tryz.prog 127 [s.val,.int .i64 x] (s.hp T++[]) (fun v H=>∃ r:Int,v= .int .i64 r∧H=s.hp T++[]∧(decide (r≥0)=decide (x∈s.list))):=by
 have hsm:=s.small
 refine zF 19 Tryz.func127 ?_
 refine zC ?_
 refine Ar [0,1,6,7] kQ (fun (i:Nat)=>[(8,.int .i64 i)]) (fun i=>(s.hp T++[])) (fun i=>i≤s.list.length∧x∉s.list.take i) (fun i=>s.list.length - i) (0) ⟨A6j _,by simp⟩ kP sP ?_
 rintro i ⟨g0,g1⟩
 refine zC ?_
 refine Aa rfl (fun c9=> ?_) (fun c9=> ?_)
 ·simp only [A4f,A2m] at c9
  obtain ⟨y,hg⟩:∃ y,s.list[i]? =some y:=⟨_,A2i (by omega)⟩
  refine zA ?_
  refine Ae (Az rfl rfl (by omega)) rfl ?_
  refine Ae (Ca (o:=0) rfl pL hg rfl rfl) rfl ?_
  refine zC ?_
  refine Aa rfl (fun c16=> ?_) (fun c16=> ?_)
  ·simp only [A4f,A2m] at c16
   refine zC ?_
   exact zL (hR:=by exact ⟨(i:Int),rfl,rfl,A4x.2 ⟨fun _=>by rw [c16];grind,fun _=>by omega⟩⟩)
  ·simp only [A4f,A2m] at c16
   refine zC ?_
   exact ⟨i+1,⟨by omega,by rw [A4d,hg];grind⟩,(by omega),lZ⟩
 ·simp only [A4f,A2m] at c9
  have hi:i=s.list.length:=(by omega)
  subst hi
  rw [A4u] at g1
  refine zC ?_
  exact zL (hR:=by exact ⟨-1,rfl,rfl,A4x.2 ⟨fun h=>absurd h (by decide),fun h=>absurd h g1⟩⟩)
theorem Avw {s:Sl Int} {x:Int} {T:TypeId}:Does Tryz.prog 81 [s.val,.int .i64 x] (s.hp T++[]) (Is (.bool (decide (x∈s.list))) (s.hp T++[])):=by
 refine zF 9 Tryz.func81 ?_
 refine zC ?_
 refine zE rfl (Avv) ?_
 rintro _ _ ⟨r7,rfl,rfl,hr7⟩
 refine zW ?_
 refine Ak (Aw Tryz.results81 (Af rfl)) ?_ sP
 rw [← hr7]
theorem Nn (l:List Nd) (x:Nd) (D:Hp):C8 (l++[x])++D=C8 l++(x.body.hp tU8++D):=by
 unfold C8
 simp
theorem Aqw:C8 []=[]:=by unfold C8;rfl
def Et (l:Lv) (but:List Int) (k:Int):Bool:=Bg l k && !decide (k∈but)
def Fu (S:Sto) (l:Lv) (ep:Wd) (but:List Int) (bi:Int→List By):List N3:=((Dy S.stray.keys).filter (Et l but)).map fun k=>(k,ep,bi k)
section
variable {n k:Nat} {q:Qt} {z:Sg}
theorem Aqx (h:WI n k q z) {l:Lv} {ep:Wd} {but:Sl Int} {bi:Int→List By} (hm:z.S.stray.es.length≤1000)
  (hA:∀ k∈z.S.stray.keys,Et l but.list k=true→∃ e,z.S.idx.get k=some e∧A9 k (bi k)=true∧RecAt z e.at' (Cj 10 (E5 k e.ep (bi k)))) :
  Does Tryz.prog 55 [ptr z.S.st,.agg (vbc l).toArray,wv ep,but.val] (Cz T::(z.S.st,true,C (stC z.S) tSt)::(z.S.ib,true,z.S.idx.obj .i64)::(z.S.pb,true,z.S.pend.obj .i64)::(z.S.sb,true,z.S.stray.obj .i64)::(lgH z.L++(but.hp tI++[])))
  (fun v H=>∃ nds:Sl Nd,v= .tuple #[nds.val,.int .i64 0]∧H=nds.hp tNd++(C8 nds.list++(Cz T::(z.S.st,true,C (stC z.S) tSt)::(z.S.ib,true,z.S.idx.obj .i64)::(z.S.pb,true,z.S.pend.obj .i64)::(z.S.sb,true,z.S.stray.obj .i64)::(lgH z.L++(but.hp tI++[]))))∧nds.isOwn=true∧nds.list.map nd3=Fu z.S l ep but.list bi):=by
 refine zF 53 Tryz.func55 ?_
 refine zC ?_
 refine Do rfl rfl (fun b5=> ?_)
 refine zC ?_
 refine zE rfl (Ay5 (bm:=z.S.sb)) ?_
 rintro _ _ ⟨bp,rfl,rfl⟩
 refine A6 aQ ?_
 refine zE rfl (Avo hm) ?_
 rintro _ _ ⟨s20,rfl,rfl,ho20,hl20⟩
 refine zW ?_
 have hsm:s20.list.length≤1000:=(by rw [hl20,(Bn _).length_eq,Mp.keys_len];exact hm)
 refine Ki (Ii (α:=Nd) (T:=tNd)) ?_
 refine Ar [0,2,3,5,20,21] kQ (fun (st:Nat×Sl Nd)=>[(22,.int .i64 st.1),(8,st.2.val)]) (fun st=>(st.2.hp tNd++(C8 st.2.list++((b5,true,C (vbc l) tLv)::Cz T::(z.S.st,true,C (stC z.S) tSt)::(z.S.ib,true,z.S.idx.obj .i64)::(z.S.pb,true,z.S.pend.obj .i64)::(z.S.sb,true,z.S.stray.obj .i64)::(lgH z.L++(but.hp tI++(s20.hp tI++[]))))))) (fun st=>st.1≤s20.list.length∧st.2.list.map nd3=((s20.list.take st.1).filter (Et l but.list)).map (fun k=>(k,ep,bi k))∧st.2.isOwn=true) (fun st=>s20.list.length - st.1) ((0,Sl.nil)) ⟨A6j _,rfl,rfl⟩ kP (by show Split _ (Sl.hp tNd Sl.nil++(C8 []++_)) _;rw [Aqw];exact sP) ?_
 rintro ⟨i,nds⟩ ⟨g0,g1,g2⟩
 simp only at g0 g1 g2
 have hnl:nds.list.length≤1000:=(by have h1:=A6r List.length g1;rw [A46,A46] at h1;have h2:=A2z (Et l but.list) (s20.list.take i);rw [A4s] at h2;omega)
 refine zC ?_
 refine Aa rfl (fun c23=> ?_) (fun c23=> ?_)
 ·simp only [A4f,A2m] at c23
  obtain ⟨x,hg⟩:∃ x,s20.list[i]? =some x:=⟨_,A2i (by omega)⟩
  have htk:s20.list.take (i+1)=s20.list.take i++[x]:=(by rw [A4d,hg];rfl)
  refine zA ?_
  refine Ae (Az (s:=s20) rfl rfl (by omega)) rfl ?_
  refine Ae (Ca (s:=s20) (o:=0) rfl pL hg rfl rfl) rfl ?_
  refine zA ?_
  refine Ae (Ao rfl mM (by first | exact Ax | rfl)) rfl ?_
  refine zC ?_
  refine zI rfl (Vz) ?_
  iterate 2 refine sb ?_
  refine' Kn rfl rfl inferInstance rfl rfl rfl rfl rfl (fun hg30=> ?_) ?_
  rotate_left
  ·try (simp at hg30;show _)
   refine zC ?_
   refine zI rfl (Avw) ?_
   exact Ag ⟨rfl,rfl,⟨_,sP⟩⟩
  refine zC ?_
  refine Aa rfl (fun c34=> ?_) (fun c34=> ?_)
  ·skip
   have hk:Et l but.list x=false:=(by unfold Et;grind)
   have hI:nds.list.map nd3=((s20.list.take (i+1)).filter (Et l but.list)).map (fun k=>(k,ep,bi k)):=(by rw [htk,A3u,g1];simp [hk])
   refine zC ?_
   first | exact ⟨(i+1,nds),⟨by omega,hI,g2⟩,by omega,lZ⟩ | exact ⟨(i+1,s'),⟨by simp only;omega,by simp only;rw [htk,A3u,hs1,A48,g1];simp [hk,nd3,hs38],hs2⟩,by simp only;omega,kP,kP,_,(by simp only;rw [hs1,Nn];exact sP)⟩
  ·skip
   have hk:Et l but.list x=true:=(by unfold Et;grind)
   obtain ⟨e,he1,he2,he3⟩:=hA x (by have:=A3b hg;rw [hl20] at this;exact (Bn _).mem_iff.1 this) hk
   refine zC ?_
   refine zE rfl (Zf (z:=z) h he1 he3 he2) ?_
   rintro _ _ ⟨s38,rfl,rfl,hs38,ho38⟩
   refine zW ?_
   refine Ah rfl (fun b12=> ?_)
   refine zC ?_
   refine Ay rfl ?_
   refine zC ?_
   refine Am rfl rfl rfl rfl (fun b49=> ?_)
   refine A5 (s:=nds) (new:=[(⟨x,ep,s38⟩:Nd)]) (m:=1) rfl rfl pL g2 (Ck (r:=true) mM rfl) rfl rfl rfl rfl (by omega) rfl (fun s' hs1 hs2=> ?_)
   refine zC ?_
   first | exact ⟨(i+1,nds),⟨by simp only;omega,hI,g2⟩,by simp only;omega,lZ⟩ | exact ⟨(i+1,s'),⟨by omega,by simp only;rw [htk,A3u,hs1,A48,g1];simp [hk,nd3,hs38],hs2⟩,by omega,kP,kP,_,(by simp only;rw [hs1,Nn];exact sP)⟩
 ·simp only [A4f,A2m] at c23
  have hi:i=s20.list.length:=(by omega)
  subst hi
  rw [A4u] at g1
  refine zC ?_
  exact zL (hR:=by exact ⟨nds,rfl,rfl,g2,by rw [g1,hl20];rfl⟩)
end
end
section
open Go.K
variable {T:TypeId}
instance und28:Und Tryz.prog 28 (.slice 45):=⟨Tryz.underlying28⟩
instance agg28:Agg Tryz.prog 28 false:=⟨⟨_,Tryz.underlying28,rfl⟩⟩
instance agg45:Agg Tryz.prog 45 true:=⟨⟨_,Tryz.underlying45,rfl⟩⟩
instance siz45:Siz Tryz.prog 45 3:=⟨by kernel_rfl⟩
instance zer45:Zer Tryz.prog 45 ([.int .i64 0,.bool false,.slice none 0 0]):=⟨by kernel_rfl⟩
instance fld45_1:Fld Tryz.prog 45 1 1:=⟨⟨_,_,0,Tryz.underlying45,rfl,by kernel_rfl,rfl⟩⟩
instance plc57:Plc Tryz.prog 57 [(0,1),(1,32),(33,1)]:=⟨⟨_,Tryz.underlying57,fun _=>by kernel_rfl⟩⟩
abbrev tCg:TypeId:=45
@[irreducible] def cbH (l:List Chg):Hp:=l.flatMap fun x=>x.body.hp tU8
theorem R8 {l:List Chg} {i:Nat} {x:Chg} (h:l[i]? =some x) (D:Hp):cbH l++D=cbH (l.take i)++(x.body.hp tU8++(cbH (l.drop (i+1))++D)):=by
 obtain ⟨h1,h2⟩:=List.getElem?_eq_some_iff.1 h
 have e:l=l.take i++x::l.drop (i+1):=by
  conv=>lhs;rw [← A23 i l,A2d h1,h2]
 unfold cbH
 grind
def Ev (l:Lv) (c:Chg):Lv:=if c.gone=true then G7 l c.key else Dx l c.key
def Eo (c:Chg):Bool:=A9 c.key c.body.list
def Bw (z:Sg) (cs:List Chg):Lv:=cs.foldl Ev z.S.last.lv
def Oa (z:Sg) (ep:Wd) (cs:List Chg):Bool:=decide ((ep.toNat:Int)>(z.S.seen.toNat:Int)) && cs.all Eo
def Bo (z:Sg) (ep:Wd) (cs:List Chg):Bool:= !Oa z ep cs || !N9 (cs.map (·.key))
def B2 (z:Sg) (cs:List Chg):Bool:=decide (((C7 (Bw z cs) 256).length:Int)>In z.L.nb)
def Ep (ep:Wd) (cs:List Chg):List N3:=(cs.filter fun c=> !c.gone).map fun c=>(c.key,ep,c.body.list)
def Bp (z:Sg) (ep:Wd) (cs:List Chg) (bi:Int→List By):List N3:=Fu z.S (Bw z cs) ep (cs.map (·.key)) bi++Ep ep cs
def Gx (z:Sg):Sg:={ z with S:={ z.S with pend:=z.S.pend.clr } }
def T0 (n:Nat) (q:Qt) (z:Sg) (ep:Wd) (cs:List Chg) (bi:Int→List By) (e:Int) (z':Sg):Prop :=
 (Bo z ep cs=true∧e=1∧z'=z)∨(Bo z ep cs=false∧B2 z cs=true∧e=40∧z'=z) ∨
 (Bo z ep cs=false∧B2 z cs=false∧∃ e1 z1,WrR n q (Bp z ep cs bi) (Gx z) e1 z1 ∧
  ((e1≠0∧e=e1∧z'=Gx z1)∨(e1=0∧∃ m z2,N8 z1.S (Bw z cs) m∧EndR n q z1 ⟨ep,Bw z cs,Ma m⟩ e z2∧z'=Gx z2)))
theorem Aqy {S:Sto} {l:Lv} {m:Mp En} (h:N8 S l m):m.es.length≤1000:=by
 rw [← Mp.keys_len]
 have:m.keys.length≤(C7 l 256).length:=by
  refine Ib ?_ ?_
  ·exact m.keys_nodup
  ·intro k hk
   have h1:=Mp.get_some.2 hk
   rw [h k] at h1
   refine keysL_mem.2 ?_
   grind
 have:=Hy l 256
 omega
theorem Alu {l:Lv} {b:Nat} {x:Int}:Does Tryz.prog 52 [.agg (vbc l).toArray,.slice (some ⟨b,0,none⟩) 1 1] [(b,true,C [.int .i64 x] tI)] (Is (.agg (vbc (Dx l x)).toArray) [(b,true,C [.int .i64 x] tI)]):=by
 have h:=Au5 (l:=l) (s:= .own b [x] 1 [] ⟨by simp,A6h _,by simp⟩) (T:=tI)
 rw [Sl.hp_own] at h
 exact h
theorem Alv {l:Lv} {b:Nat} {x:Int}:Does Tryz.prog 51 [.agg (vbc l).toArray,.slice (some ⟨b,0,none⟩) 1 1] [(b,true,C [.int .i64 x] tI)] (Is (.agg (vbc (G7 l x)).toArray) [(b,true,C [.int .i64 x] tI)]):=by
 have h:=Au6 (l:=l) (s:= .own b [x] 1 [] ⟨by simp,A6h _,by simp⟩) (T:=tI)
 rw [Sl.hp_own] at h
 exact h
theorem Aqz {z:Sg} {ep:Wd} {cs:List Chg} {bi:Int→List By} (hA:∀ k∈z.S.stray.keys,Et (Bw z cs) (cs.map (·.key)) k=true→∃ e,z.S.idx.get k=some e∧A9 k (bi k)=true∧RecAt z e.at' (Cj 10 (E5 k e.ep (bi k)))) (hb:Bo z ep cs=false) :
  ∀ x∈Bp z ep cs bi,A9 x.1 x.2.2=true:=fun x hx=>by
 unfold Bp at hx
 rcases A49.1 hx with h | h
 ·unfold Fu at h
  obtain ⟨k,hk,rfl⟩:=A53.1 h
  obtain ⟨h1,h2⟩:=A5a.1 hk
  obtain ⟨e,_,h3,_⟩:=hA k ((Bn _).mem_iff.1 h1) h2
  exact h3
 ·unfold Ep at h
  obtain ⟨c,hc,rfl⟩:=A53.1 h
  have h1:=(A5a.1 hc).1
  unfold Bo Oa at hb
  simp only [A27,A3s,A4k,A4l] at hb
  exact hb.1.2 c h1
theorem O0 {pl:List (Nat×Nat)} {cs cs' vs:List Value} {i o s:Nat} {v:Value} {r:List (Nat×Value)} {res:Option (List Value)} (hp:Ako pl i=some (o,s)) (hv:Ih v=some vs) (hl:vs.length=s) (hs:A7 cs o vs=some cs') (hr:K.fillC pl cs' r=res):K.fillC pl cs ((i,v)::r)=res:=by
 unfold K.fillC
 rw [hp]
 simp only
 rw [(X6 hv).1,hs]
 simp_all
theorem Agy (c:Cm) (s:BitVec 32):A7 (cmC c) 33 [uv s]=some (cmC { c with sum:=s }):=by
 refine Ex ?_ (by rw [Bj];grind)
 unfold cmC
 have h1:(wv c.ep::(vbc c.lv++[uv c.sum])).take 33=wv c.ep::vbc c.lv:=by
  rw [show 33=32+1 from rfl,A3m,A5e Ai]
 have h2:(wv c.ep::(vbc c.lv++[uv c.sum])).drop (33+[uv s].length)=[]:=by
  rw [show 33+[uv s].length=33+1 from rfl,A3i,A2q (by rw [A3x,Ai];grind)]
 rw [h1,h2]
 simp
theorem Avx {e:Wd} {l:Lv} {s:BitVec 32}:K.fillC [(0,1),(1,32),(33,1)] ([Value.int .u64 0]++List.replicate 32 (Value.int .u8 0)++[Value.int .u32 0]) [(0,wv e),(1,.agg (vbc l).toArray),(2,uv s)]=some (cmC ⟨e,l,s⟩):=by
 rw [show ([Value.int .u64 0]++List.replicate 32 (Value.int .u8 0)++[Value.int .u32 0])=cmC cm0 from Abc]
 refine O0 (cs':=cmC ⟨e,lv0,0⟩) rfl (vs:=[wv e]) rfl rfl rfl ?_
 refine O0 rfl B9 Ai (R4 ⟨e,lv0,0⟩ l) ?_
 exact O0 rfl (vs:=[uv s]) rfl rfl (Agy ⟨e,l,0⟩ s) rfl
theorem Alw {z:Sg} {ep:Wd} {cs:List Chg} (hb:Bo z ep cs=false) {c:Chg} (hc:c∈cs):c.body.list.length≤70000000000000:=by
 unfold Bo Oa at hb
 simp only [A27,A3s,A4k,A4l] at hb
 have:=hb.1.2 c hc
 unfold Eo A9 at this
 grind
theorem WrR.pb {n:Nat} {q:Qt} {xs:List N3} {z z':Sg} {e:Int} (h:WrR n q xs z e z'):z'.S.pb=z.S.pb:=by
 induction h with
 | nil=>rfl
 | stop _ h _=>exact h.same.pb
 | go _ h _ ih=>exact ih.trans h.same.pb
theorem EndR.pb {n:Nat} {q:Qt} {z z':Sg} {c:Cm} {e:Int} (h:EndR n q z c e z'):z'.S.pb=z.S.pb:=by
 obtain ⟨y,z1,h1,h2⟩:=h
 rcases h2 with ⟨_,rfl⟩ | ⟨_,m,_,rfl⟩
 ·exact h1.same.pb
 ·exact h1.same.pb
section
variable {n k:Nat} {q:Qt} {z:Sg}
theorem Zj (h:WI n k q z) (hk:k≤200000000000) (hq:q.n≤3) {ep:Wd} {cs:Sl Chg} {bi:Int→List By} (hcn:cs.list.length≤300) (hm:z.S.stray.es.length≤1000)
  (hA:∀ k∈z.S.stray.keys,Et (Bw z cs.list) (cs.list.map (·.key)) k=true→∃ e,z.S.idx.get k=some e∧A9 k (bi k)=true∧RecAt z e.at' (Cj 10 (E5 k e.ep (bi k))))
  (hN:Bo z ep cs.list=false→(Bp z ep cs.list bi).length≤300)
  (hS:Bo z ep cs.list=false→B2 z cs.list=false→∀ i z1 k e b,WrR n q ((Bp z ep cs.list bi).take i) (Gx z) 0 z1→(Bp z ep cs.list bi)[i]? =some (k,e,b)→A9 k b=true→Wa n q (wr1 z1 k e))
  (hE:Bo z ep cs.list=false→B2 z cs.list=false→∀ z1,WrR n q (Bp z ep cs.list bi) (Gx z) 0 z1→Wa n q z1) :
  Does Tryz.prog 16 [ptr z.S.st,wv ep,cs.val] (Cz T::(z.S.st,true,C (stC z.S) tSt)::(z.S.ib,true,z.S.idx.obj .i64)::(z.S.pb,true,z.S.pend.obj .i64)::(z.S.sb,true,z.S.stray.obj .i64)::(lgH z.L++(cs.hp tCg++(cbH cs.list++[]))))
  (fun v H=>∃ (e:Int) (z':Sg),v= .int .i64 e∧H=Cz T::(z'.S.st,true,C (stC z'.S) tSt)::(z'.S.ib,true,z'.S.idx.obj .i64)::(z'.S.pb,true,z'.S.pend.obj .i64)::(z'.S.sb,true,z'.S.stray.obj .i64)::(lgH z'.L++(cs.hp tCg++(cbH cs.list++[])))∧z'.S.st=z.S.st∧T0 n q z ep cs.list bi e z'∧(e≠30→WI n (k+100000000) q z')):=by
 have hsm:=cs.small
 refine Akl (n:=127) Tryz.func16 Tryz.ntmps16 rfl (A25 rfl) ?_
 refine Nz ?_
 refine Ad fun ops=>oA rfl<|Ag ?_
 refine Nz ?_
 refine Ad fun ops=>oA rfl<|Ag ?_
 refine Nz ?_
 refine Ad fun ops=>oM rfl<|oN rfl<|oF rfl<|oF rfl ?_
 refine oR (Ao rfl mM (Aiw z.S)) ?_
 refine Ah rfl fun b8=> ?_
 rw [Aba]
 first | refine Ac rfl rfl uD (B9) (Ai) (Bi (by first | exact Ai | exact A20 ..)) ?_ | refine Ac rfl rfl uD rfl rfl rfl ?_
 refine Ag ?_
 refine Nz ?_
 refine Ad fun ops=>oM rfl<|oM rfl<|oN rfl<|oF rfl ?_
 refine oR (show Rd _ _ _ _ (wv z.S.seen) from Al rfl mM (Gj (S:=z.S) (o:=8) rfl)) ?_
 refine oR (Au rfl rfl rfl)<|oA rfl<|Ag ?_
 refine Nz ?_
 refine An<|Ad fun ops=>oM rfl<|oR (H3 rfl)<|oM rfl<|Ag<|n_K<|Ct ?_
 refine Ki (Ii (α:=Int) (T:=tI)) ?_
 refine Ar [0,1,2,8,28,29] kQ (fun (st:Nat×Sl Int×Bool×Lv)=>[(30,.int .i64 st.1),(7,st.2.1.val),(9,.bool st.2.2.1)]) (fun (st:Nat×Sl Int×Bool×Lv)=>(st.2.1.hp tI++((b8,true,C (vbc st.2.2.2) tLv)::Cz T::(z.S.st,true,C (stC z.S) tSt)::(z.S.ib,true,z.S.idx.obj .i64)::(z.S.pb,true,z.S.pend.obj .i64)::(z.S.sb,true,z.S.stray.obj .i64)::(lgH z.L++(cs.hp tCg++(cbH cs.list++[])))))) (fun (st:Nat×Sl Int×Bool×Lv)=>st.1≤cs.list.length∧st.2.1.list=(cs.list.take st.1).map (·.key)∧st.2.1.isOwn=true∧st.2.2.1=(decide ((ep.toNat:Int)>(z.S.seen.toNat:Int)) && (cs.list.take st.1).all Eo)∧st.2.2.2=(cs.list.take st.1).foldl Ev z.S.last.lv) (fun (st:Nat×Sl Int×Bool×Lv)=>cs.list.length - st.1) ((0,Sl.nil,decide ((ep.toNat:Int)>(z.S.seen.toNat:Int)),z.S.last.lv)) ⟨A6j _,rfl,rfl,by simp,rfl⟩ kP sP ?_
 rintro ⟨i,ks,ok,lv⟩ ⟨g0,g1,g2,g3,g4⟩
 simp only at g0 g1 g2 g3 g4
 have hkl:ks.list.length≤300:=(by rw [g1,A46,A4s];omega)
 refine An<|Ad fun ops=>oR (Au rfl rfl rfl)<|Ag<|n_K<|An ?_
 refine Aa rfl (fun c31=> ?_) (fun c31=> ?_)
 ·simp only [A4f,A2m] at c31
  obtain ⟨x,hg⟩:∃ x,cs.list[i]? =some x:=⟨_,A2i (by omega)⟩
  rw [R8 hg]
  have hok:(ok && A9 x.key x.body.list)=(decide ((ep.toNat:Int)>(z.S.seen.toNat:Int)) && (cs.list.take (i+1)).all Eo):=(by rw [g3,A4d,hg,A41];simp [Eo,Bool.and_assoc])
  have hlv:(cs.list.take (i+1)).foldl Ev z.S.last.lv=Ev lv x:=(by rw [Id hg,g4])
  refine Cg<|n_K<|An<|Ct<|An<|Ad fun ops=> ?_
  refine oR (Az (s:=cs) rfl rfl (by omega)) ?_
  refine oR (Cq (s:=cs) (o:=0) rfl pL hg rfl rfl) ?_
  refine Ah rfl fun b11=> ?_
  refine Ac rfl rfl uD rfl rfl rfl ?_
  refine Ag<|n_K<|An<|Ad fun ops=>oM rfl<|oF rfl ?_
  refine oR (Al rfl mM rfl) ?_
  refine Am rfl rfl rfl rfl fun b37=> ?_
  refine A5 (s:=ks) (new:=[x.key]) (m:=1) rfl rfl pL g2 (Ck (r:=true) mM rfl) rfl rfl rfl rfl (by omega) rfl fun s' hs1 hs2=> ?_
  refine oA rfl<|Ag<|n_K<|An ?_
  refine H8 [(1,40)] rfl fun ops y=> ?_
  refine oM rfl<|oM rfl ?_
  refine' U5 (j:=1) (k:=2) y rfl rfl rfl rfl rfl rfl rfl (fun hg40=> ?_) ?_
  rotate_left
  ·try (simp at hg40;show _)
   refine o_g y rfl rfl ?_
   refine oR (Ao rfl mM rfl) ?_
   refine o_g y rfl rfl ?_
   refine Ir rfl (Avu (c:=x)) sP rfl aQ ?_
   exact Ag ⟨rfl,rfl,⟨_,sP⟩⟩
  refine oA rfl<|Ag<|n_K<|An<|Ad fun ops=>oF rfl ?_
  refine oR (Al rfl mM rfl) ?_
  refine Ag<|n_K ?_
  refine Aa rfl (fun c45=> ?_) (fun c45=> ?_)
  ·skip
   have hT:G7 lv x.key=(cs.list.take (i+1)).foldl Ev z.S.last.lv:=(by rw [hlv];unfold Ev;rw [A6v c45])
   refine Ad fun ops=> ?_
   refine oR (Ao rfl mM (by first | exact Ax | rfl)) ?_
   refine oF rfl ?_
   refine oR (Al rfl mM rfl) ?_
   refine Am rfl rfl rfl rfl fun b49=> ?_
   refine Ir rfl (Alv (l:=lv) (b:=b49) (x:=x.key)) sP rfl aQ ?_
   first | refine Ac rfl rfl uD (B9) (Ai) (Bi (by first | exact Ai | exact A20 ..)) ?_ | refine Ac rfl rfl uD rfl rfl rfl ?_
   refine Ag<|Eh<|n_K<|Ad fun ops=> ?_
   refine oR (B5 rfl rfl (by omega)) ?_
   refine oM rfl<|Ag<|n_K ?_
   first | exact ⟨(i+1,s',(ok && A9 x.key x.body.list),G7 lv x.key),⟨by omega,by simp only;rw [hs1,g1,A4d,hg,A48];rfl,hs2,hok,hT⟩,by omega,lZ⟩ | exact ⟨(i+1,s',(ok && A9 x.key x.body.list),Dx lv x.key),⟨by simp only;omega,by simp only;rw [hs1,g1,A4d,hg,A48];rfl,hs2,hok,hF⟩,by simp only;omega,lZ⟩
  ·skip
   have hF:Dx lv x.key=(cs.list.take (i+1)).foldl Ev z.S.last.lv:=(by rw [hlv];unfold Ev;rw [A6u (by rw [c45];decide)])
   refine Ad fun ops=> ?_
   refine oR (Ao rfl mM (by first | exact Ax | rfl)) ?_
   refine oF rfl ?_
   refine oR (Al rfl mM rfl) ?_
   refine Am rfl rfl rfl rfl fun b54=> ?_
   refine Ir rfl (Alu (l:=lv) (b:=b54) (x:=x.key)) sP rfl aQ ?_
   first | refine Ac rfl rfl uD (B9) (Ai) (Bi (by first | exact Ai | exact A20 ..)) ?_ | refine Ac rfl rfl uD rfl rfl rfl ?_
   refine Ag<|Eh<|n_K<|Ad fun ops=> ?_
   refine oR (B5 rfl rfl (by omega)) ?_
   refine oM rfl<|Ag<|n_K ?_
   first | exact ⟨(i+1,s',(ok && A9 x.key x.body.list),G7 lv x.key),⟨by simp only;omega,by simp only;rw [hs1,g1,A4d,hg,A48];rfl,hs2,hok,hT⟩,by simp only;omega,lZ⟩ | exact ⟨(i+1,s',(ok && A9 x.key x.body.list),Dx lv x.key),⟨by omega,by simp only;rw [hs1,g1,A4d,hg,A48];rfl,hs2,hok,hF⟩,by omega,lZ⟩
 ·simp only [A4f,A2m] at c31
  have hi:i=cs.list.length:=(by omega)
  subst hi
  rw [A4u] at g1 g3 g4
  have hbad:Bo z ep cs.list=(!ok || !N9 ks.list):=(by unfold Bo Oa;rw [g3,g1])
  have hlvC:Bw z cs.list=lv:=g4.symm
  refine Jy<|x_K<|x_K<|N4 ?_
  refine Nz ?_
  refine Ct<|An ?_
  refine H8 [(2,60)] rfl fun ops y=> ?_
  refine oM rfl<|oR (D5 rfl)<|oM rfl ?_
  refine' Afx (j:=2) (k:=3) y rfl rfl rfl rfl rfl rfl rfl (fun hg60=> ?_) ?_
  rotate_left
  ·try (simp at hg60;show _)
   refine o_g y rfl rfl ?_
   refine oM rfl ?_
   refine o_g y rfl rfl ?_
   refine Ir rfl (Avt (s:=ks) (by omega)) sP rfl aQ ?_
   refine o_g y rfl rfl ?_
   refine oR (D5 rfl) ?_
   exact Ag ⟨rfl,rfl,⟨_,sP⟩⟩
  refine oA rfl<|Ag<|n_K ?_
  refine Aa rfl (fun c57=> ?_) (fun c57=> ?_)
  ·skip
   refine An<|Ad fun ops=>oA rfl<|Ag<|n_K<|Im<|U9 ?_
   exact Bb (Aw Tryz.results16 (Af rfl)) (by exact ⟨1,z,rfl,rfl,rfl,.inl ⟨by rw [hbad];exact c57,rfl,rfl⟩,fun _=>h.mono (by omega)⟩) sP
  ·skip
   refine An<|Ad fun ops=> ?_
   refine oR (Ao rfl mM (by first | exact Ax | rfl)) ?_
   refine Ch rfl (Ait) sP rfl fun v67 Y67 h67=> ?_
   obtain ⟨s67,rfl,rfl,hs67,ho67⟩:=h67
   refine A6 aQ ?_
   refine oR (H3 rfl)<|oM rfl ?_
   refine Ir rfl (Aec (z:=z) h) sP rfl aQ ?_
   refine oR (Au rfl rfl rfl)<|oA rfl<|Ag<|n_K ?_
   refine Aa rfl (fun c65=> ?_) (fun c65=> ?_)
   ·skip
    refine An<|Ad fun ops=>oA rfl<|Ag<|n_K<|Im<|U9 ?_
    exact Bb (Aw Tryz.results16 (Af rfl)) (by exact ⟨40,z,rfl,rfl,rfl,.inr (.inl ⟨by rw [hbad];exact c57,by unfold B2;rw [hlvC,← hs67];exact c65,rfl,rfl⟩),fun _=>h.mono (by omega)⟩) sP
   ·skip
    refine Cg<|Eh ?_
    refine Nz ?_
    refine Ad fun ops=>oM rfl<|oN rfl<|oF rfl ?_
    refine oR (Al rfl mM rfl) ?_
    refine Ah4 rfl uD ?_
    refine Ag ?_
    refine Nz ?_
    refine Ad fun ops=>oM rfl ?_
    refine oR (Ao rfl mM (by first | exact Ax | rfl)) ?_
    refine oM rfl<|oM rfl ?_
    refine Ch rfl (Aqx (z:=Gx z) (n:=n) (k:=k) (q:=q) ⟨h.1,h.2⟩ (l:=lv) (ep:=ep) (but:=ks) (bi:=bi) hm (by rw [g1,g4];exact hA)) sP rfl fun v81 Y81 h81=> ?_
    obtain ⟨nds,rfl,rfl,hno,hnl⟩:=h81
    refine A6 aQ ?_
    refine oM rfl<|oE rfl rfl<|oE rfl rfl<|oA rfl<|oA rfl<|Ag ?_
    refine Nz ?_
    refine An<|Ad fun ops=>oM rfl<|oR (Au rfl rfl rfl)<|Ag<|n_K ?_
    refine Ay rfl ?_
    refine Cg ?_
    refine Nz ?_
    refine An<|Ad fun ops=>oM rfl<|oR (H3 rfl)<|oM rfl<|Ag<|n_K<|Ct ?_
    have hfF:B2 z cs.list=false:=(by unfold B2;rw [hlvC,← hs67];exact c65)
    have hbF:Bo z ep cs.list=false:=(by rw [hbad];exact c57)
    refine Ar [0,1,2,8,87,88] kQ (fun (st:Nat×Sl Nd)=>[(89,.int .i64 st.1),(12,st.2.val)]) (fun (st:Nat×Sl Nd)=>(st.2.hp tNd++(C8 st.2.list++((b8,true,C (vbc lv) tLv)::Cz T::(z.S.st,true,C (stC z.S) tSt)::(z.S.ib,true,z.S.idx.obj .i64)::(z.S.pb,true,z.S.pend.clr.obj .i64)::(z.S.sb,true,z.S.stray.obj .i64)::(lgH z.L++(ks.hp tI++(cs.hp tCg++(cbH cs.list++[])))))))) (fun (st:Nat×Sl Nd)=>st.1≤cs.list.length∧st.2.list.map nd3=Fu z.S lv ep ks.list bi++Ep ep (cs.list.take st.1)∧st.2.isOwn=true) (fun (st:Nat×Sl Nd)=>cs.list.length - st.1) ((0,nds)) ⟨A6j _,by rw [hnl];simp [Ep];rfl,hno⟩ kP sP ?_
    rintro ⟨i,nd⟩ ⟨k0,k1,k2⟩
    simp only at k0 k1 k2
    have hnl1:nd.list.length≤2000:=(by have h1:=A6r List.length k1;rw [A46,A3x] at h1;have h2:(Fu z.S lv ep ks.list bi).length≤1000:=(by unfold Fu;rw [A46];refine A57 (A2z _ _) ?_;rw [(Bn _).length_eq,Mp.keys_len];exact hm);have h3:(Ep ep (cs.list.take i)).length≤300:=(by unfold Ep;rw [A46];grind);omega)
    refine An<|Ad fun ops=>oR (Au rfl rfl rfl)<|Ag<|n_K<|An ?_
    refine Aa rfl (fun c90=> ?_) (fun c90=> ?_)
    ·simp only [A4f,A2m] at c90
     obtain ⟨x,hg⟩:∃ x,cs.list[i]? =some x:=⟨_,A2i (by omega)⟩
     rw [R8 hg]
     have hcn1:Ep ep (cs.list.take (i+1))=Ep ep (cs.list.take i)++Ep ep [x]:=(by unfold Ep;rw [A4d,hg,A3u,A48];rfl)
     refine Cg<|n_K<|An<|Ct<|An<|Ad fun ops=> ?_
     refine oR (Az (s:=cs) rfl rfl (by omega)) ?_
     refine oR (Cq (s:=cs) (o:=0) rfl pL hg rfl rfl) ?_
     refine Ah rfl fun b15=> ?_
     refine Ac rfl rfl uD rfl rfl rfl ?_
     refine Ag<|n_K<|An<|Ad fun ops=>oF rfl ?_
     refine oR (Al rfl mM rfl) ?_
     refine oR (D5 rfl)<|Ag<|n_K ?_
     refine Aa rfl (fun c95=> ?_) (fun c95=> ?_)
     ·skip
      have hgn:x.gone=false:=(by grind)
      refine Ja [] [(9,[(0,false),(1,false),(2,false),(3,false),(4,false),(5,false),(6,true),(7,false),(8,true)]),(10,[(9,true)]),(11,[(10,false)])] (by kernel_rfl) rfl fun ops w0 H0 y=> ?_
      refine Dq<|xM rfl<|xF rfl ?_
      refine xR (Al rfl mM rfl) ?_
      refine xM rfl<|xF rfl ?_
      refine xR (Al rfl mM rfl) ?_
      refine B7 ?_
      refine Ch rfl (Qe (s:=x.body) (T:=tU8) (Alw hbF (A3b hg))) sP rfl fun v102 Y102 h102=> ?_
      obtain ⟨s102,rfl,rfl,hs102,ho102⟩:=h102
      refine A6 aQ ?_
      refine Ag ⟨rfl,⟨_,sP⟩,?_⟩
      refine xR (Db rfl rfl)<|B7 ?_
      refine Am rfl rfl rfl rfl fun b104=> ?_
      refine Ag ⟨rfl,⟨_,sP⟩,?_⟩
      refine Av<|G6<|B7 ?_
      refine A5 (s:=nd) (new:=[(⟨x.key,ep,s102⟩:Nd)]) (m:=1) rfl rfl pL k2 (Ck (r:=true) mM rfl) rfl rfl rfl rfl (by omega) rfl fun s' hs1 hs2=> ?_
      refine Ag ⟨rfl,⟨_,sP⟩,?_⟩
      refine Av<|Dq<|xA rfl<|Av<|Jq<|Eh<|n_K<|Ad fun ops=> ?_
      refine oR (B5 rfl rfl (by omega)) ?_
      refine oM rfl<|Ag<|n_K ?_
      first | exact ⟨(i+1,nd),⟨by simp only;omega,hI,k2⟩,by simp only;omega,lZ⟩ | exact ⟨(i+1,s'),⟨by omega,by simp only;rw [hs1,A48,k1,hcn1];simp [Ep,hgn,nd3,hs102],hs2⟩,by omega,kP,kP,_,(by simp only;rw [hs1,Nn];exact sP)⟩
     ·skip
      have hgn:x.gone=true:=(by simpa using c95)
      have hI:nd.list.map nd3=Fu z.S lv ep ks.list bi++Ep ep (cs.list.take (i+1)):=(by rw [k1,hcn1];simp [Ep,hgn])
      refine Cg<|Eh<|n_K<|Ad fun ops=> ?_
      refine oR (B5 rfl rfl (by omega)) ?_
      refine oM rfl<|Ag<|n_K ?_
      first | exact ⟨(i+1,nd),⟨by simp only;omega,hI,k2⟩,by simp only;omega,lZ⟩ | exact ⟨(i+1,s'),⟨by simp only;omega,by simp only;rw [hs1,A48,k1,hcn1];simp [Ep,hgn,nd3,hs102],hs2⟩,by simp only;omega,kP,kP,_,(by simp only;rw [hs1,Nn];exact sP)⟩
    ·simp only [A4f,A2m] at c90
     have hi:i=cs.list.length:=(by omega)
     subst hi
     rw [A4u] at k1
     have hnd:nd.list.map nd3=Bp z ep cs.list bi:=(by rw [k1,g1,g4];rfl)
     have hnd3:nd.list.length≤300:=(by have:=hN hbF;rw [← hnd,A46] at this;exact this)
     refine Jy<|x_K<|x_K<|N4 ?_
     refine At1 En (b:=z.S.pb) (by simp only [List.dropLast];exact rfl) rfl fun ops=> ?_
     refine oM rfl<|oN rfl<|oF rfl ?_
     refine oR (Al rfl mM rfl) ?_
     refine Ag ⟨rfl,rfl,fun rg hds hrd=> ?_⟩
     refine An<|An<|Ad fun ops=>oM rfl<|oM rfl ?_
     refine Ch rfl (Alq (z:=Gx z) (n:=n) (k:=k) (q:=q) (nds:=nd) ⟨h.1,h.2⟩ hnd3 (by omega) hq (fun i z1 y h1 h2 h3=>hS hbF hfF i z1 y.key y.ep y.body.list (by rw [← hnd,← List.map_take];exact h1) (by rw [← hnd,A38,h2];rfl) h3) (fun y hy=>Aqz hA hbF (nd3 y) (by rw [← hnd];exact A53.2 ⟨y,hy,rfl⟩))) sP rfl (fun v113 Y113 h113=> ?_)
     obtain ⟨e113,z1,rfl,rfl,hst1,hW1,hWI1⟩:=h113
     have hst1':z1.S.st=z.S.st:=hst1
     rw [hnd] at hW1
     have hpb1:z1.S.pb=z.S.pb:=hW1.pb
     have hln:320080*nd.list.length≤96024000:=(by omega)
     rw [← hst1',← hpb1]
     refine A6 aQ ?_
     refine oA rfl<|Ag<|n_K<|An<|Ad fun ops=>oM rfl<|oR (Au rfl rfl rfl)<|Ag<|n_K ?_
     refine Aa rfl (fun c115=> ?_) (fun c115=> ?_)
     ·skip
      have he:e113≠0:=(by simpa using c115)
      refine An<|Ad fun ops=>oM rfl<|oA rfl<|Ag<|n_K<|Im<|r_K ?_
      refine ⟨.i64,_,_,uD,?_⟩
      exact Bb (Aw Tryz.results16 (Af rfl)) (by exact ⟨e113,Gx z1,rfl,rfl,rfl,.inr (.inr ⟨hbF,by unfold B2;rw [hlvC,← hs67];exact c65,e113,z1,hW1,.inl ⟨he,rfl,rfl⟩⟩),fun h9=>⟨(hWI1 h9).1,((hWI1 h9).mono (by omega)).2⟩⟩) sP
     ·skip
      have he:e113=0:=(by simpa using c115)
      subst he
      have hWI2:=hWI1 (by decide)
      refine Cg<|n_K<|An ?_
      refine Ja [] [(9,[(0,false),(1,false),(2,false),(3,false),(4,false),(5,false),(6,true),(7,true),(8,false)]),(10,[(9,true)]),(11,[(10,false)])] (by kernel_rfl) rfl fun ops w0 H0 y=> ?_
      refine Dq<|xM rfl<|xM rfl ?_
      refine xR (Ao rfl mM (by first | exact Ax | rfl)) ?_
      refine xM rfl<|xM rfl ?_
      refine xR (Ao rfl mM (by first | exact Ax | rfl)) ?_
      refine B7 ?_
      refine Ch rfl (Aqn (S:=z1.S) (l:=lv)) sP rfl fun v123 Y123 h123=> ?_
      obtain ⟨c123,m123,rfl,rfl,hM123⟩:=h123
      refine A6 aQ ?_
      refine Ag ⟨rfl,⟨_,sP⟩,?_⟩
      refine B7 ?_
      refine Ch rfl (Ai4 (S:=z1.S.st) (b:=c123) (m:=m123) (Aqy hM123)) sP rfl fun v124 Y124 h124=> ?_
      obtain ⟨rfl,rfl⟩:=h124
      refine A6 aQ ?_
      refine Ag ⟨rfl,⟨_,sP⟩,?_⟩
      refine xR (show Rd _ _ _ _ (.agg (cmC ⟨ep,lv,Ma m123⟩).toArray) from Db rfl Avx) ?_
      refine Av<|G6<|B7 ?_
      refine Ch rfl (Ay4 (z:=z1) (n:=n) (q:=q) hWI2 (by omega) hq (hE hbF hfF z1 hW1) (c:=⟨ep,lv,Ma m123⟩)) sP rfl fun v126 Y126 h126=> ?_
      obtain ⟨e126,z2,rfl,rfl,hst2,hE2,hW2⟩:=h126
      have hpb2:z2.S.pb=z1.S.pb:=hE2.pb
      rw [← hpb2]
      refine A6 aQ ?_
      refine Ag ⟨rfl,⟨_,sP⟩,?_⟩
      refine Av<|Dq<|xA rfl<|Av<|Jq<|n_K<|Im ?_
      refine ⟨.i64,_,_,uD,?_⟩
      exact Bb (Aw Tryz.results16 (Af rfl)) (by exact ⟨e126,Gx z2,rfl,rfl,hst2,.inr (.inr ⟨hbF,by unfold B2;rw [hlvC,← hs67];exact c65,0,z1,hW1,.inr ⟨rfl,m123,z2,by rw [hlvC];exact hM123,by rw [hlvC];exact hE2,rfl⟩⟩),fun h9=>⟨(hW2 h9).1,((hW2 h9).mono (by omega)).2⟩⟩) sP
end
end
section
open Go.K
theorem onceC_iff {xs:List Int}:N9 xs=true↔xs.Nodup:=by
 unfold N9
 rw [A4f]
 have hl:(Dy xs).length=xs.length:=(Bn xs).length_eq
 have hs:=A2f.1 (Qu xs)
 have hg:∀ j (hj:j<(Dy xs).length),(Dy xs).toArray[j]! =(Dy xs)[j]:=fun j hj=>by
  rw [getElem!_pos (Dy xs).toArray j (by omega)]
  simp
 constructor
 ·intro h
  have h1:((List.range (Dy xs).length).filter (Lib.keeps (Dy xs).toArray)).length=(List.range (Dy xs).length).length:=by
   have h2:(Lib.compact (Dy xs)).length=((List.range (Dy xs).length).filter (Lib.keeps (Dy xs).toArray)).length:=by
    unfold Lib.compact Lib.compactUpTo
    rw [A46]
   rw [← h2,List.length_range,h,hl]
  have h2:=List.length_filter_eq_length_iff.1 h1
  refine (Bn xs).nodup_iff.1 ?_
  refine A2f.2 fun i j hi hj hij=> ?_
  have h3:=h2 j (A5n.2 hj)
  unfold Lib.keeps at h3
  rw [A4f,hg j hj,hg (j - 1) (by omega)] at h3
  have h4:=h3.resolve_left (by omega)
  have h5:=hs (j - 1) j (by omega) hj (by omega)
  grind
 ·intro hn
  have hn2:=A2f.1 ((Bn xs).nodup_iff.2 hn)
  rw [Lib.compact_all,hl]
  intro j hj
  unfold Lib.keeps
  rw [A4f]
  grind
theorem Jv {k:Int}:∀ {cs:List Chg} {l:Lv},k∉cs.map (·.key)→Bg (cs.foldl Ev l) k=Bg l k
 | [],l,_=>rfl
 | c::cs,l,h=>by
  rw [A5x,A5y,not_or] at h
  rw [A45,Jv h.2]
  unfold Ev
  split
  ·rw [Y9];simp [h.1]
  ·rw [R3];simp [h.1]
theorem Abu {c:Chg}:∀ {cs:List Chg} {l:Lv},(cs.map (·.key)).Nodup→c∈cs→Cd c.key=true→Bg (cs.foldl Ev l) c.key= !c.gone
 | x::cs,l,hn,hc,hv=>by
  rw [A5x,A5c] at hn
  rw [A45]
  rcases A5y.1 hc with rfl | hc
  ·rw [Jv hn.1]
   unfold Ev
   cases hg:c.gone with
   | true=>rw [A6v rfl,Y9];simp [hv]
   | false=>rw [A6u (by decide),R3];simp [hv]
  ·exact Abu hn.2 hc hv
def Xa (P:NdM) (x:N3):NdM:=fun k=>if k=x.1 then some x.2 else P k
def Jk (P:NdM) (xs:List N3):NdM:=xs.foldl Xa P
theorem K7 {k:Int}:∀ {xs:List N3} {P:NdM},k∉xs.map (·.1)→Jk P xs k=P k
 | [],P,_=>rfl
 | x::xs,P,h=>by
  rw [A5x,A5y,not_or] at h
  show Jk (Xa P x) xs k=_
  rw [K7 h.2]
  unfold Xa
  rw [A6u h.1]
theorem Hb {k:Int} {e:Wd} {b:List By}:∀ {xs:List N3} {P:NdM},(xs.map (·.1)).Nodup→(k,e,b)∈xs→Jk P xs k=some (e,b)
 | x::xs,P,hn,h=>by
  rw [A5x,A5c] at hn
  show Jk (Xa P x) xs k=_
  rcases A5y.1 h with rfl | h
  ·rw [K7 hn.1]
   unfold Xa
   rw [A6v rfl]
  ·exact Hb hn.2 h
theorem Q1 {k:Int} {e:Wd} {b:List By}:∀ {xs:List N3} {P:NdM},Jk P xs k=some (e,b)→(k,e,b)∈xs∨P k=some (e,b)
 | [],P,h=> .inr h
 | x::xs,P,h=>by
  have h:Jk (Xa P x) xs k=some (e,b):=h
  rcases Q1 h with h | h
  ·grind
  ·unfold Xa at h
   grind
section
variable {A:Ab} {P:NdM} {Q:Int→Wd→List By→Prop} {z z' z1:Sg} {k:Nat}
theorem Rz.vs_new (hw:LW k z1) (h:Rz A P Q z1) {r:Rc} (hok:r.ok) (hk:r.kind≠12) {y:Pl2} (hn:NewAt z1 r.pg y z'):∀ x v,RecAt z' x (Rc.vw v).pg→A.viewed=true∧v.num.toNat≤A.vw.num.toNat∧(v.num=A.vw.num→vwM v=A.vw∨bef z' x z1.S.va):=fun x v hx=>by
 rcases hn.inv x _ hx with h2 | ⟨_,h2⟩
 ·obtain ⟨g1,g2,g3⟩:=h.vs x v h2
  obtain ⟨v',_,h5⟩:=h.va g1
  exact ⟨g1,g2,fun g4=>(g3 g4).imp id fun g5=>(hn.ord hw h2 h5).2 g5⟩
 ·exact absurd h2.symm (E7 hok (s:= .vw v) trivial hk)
theorem Rz.kd_new (h:Rz A P Q z1) {r:Rc} (hok:r.ok) {y:Pl2} (hn:NewAt z1 r.pg y z'):∀ x p,RecAt z' x p→(Ef p).2.2.2=0→∃ r:Rc,r.ok∧p=r.pg:=fun x p hx hg=>by
 rcases hn.inv x p hx with h2 | ⟨_,h2⟩
 ·exact h.kd x p h2 hg
 grind
theorem Rz.write (hw:LW k z1) (h:Rz A P Q z1) {ky:Int} {e:Wd} {b:List By} (hok:A9 ky b=true) {y:Pl2} (hn:NewAt z1 (Rc.nd ky e b).pg y z'):Rz A (Xa P (ky,e,b)) (fun k' e' b'=>Q k' e' b'∨(k',e',b')=(ky,e,b)) (wr2 z' ky e y):=by
 have hS:=hn.S
 have hold:∀ x r,RecAt z1 x r→RecAt z' x r:=fun x r hx=>(hn.old x r hx).1
 refine ⟨by show z'.S.last=_;rw [hS];exact h.last,by show z'.S.vw=_;rw [hS];exact h.vw,by show z'.S.viewed=_;rw [hS];exact h.viewed,?_,?_,fun h0=> ?_,fun h0=> ?_,?_,fun x k' e' b' h1 h2=> ?_,fun x c h1=> ?_,?_⟩
 ·show Stands _ z'.S.idx _
  rw [hS]
  exact h.ix.mono fun _ _ _ _ h9=>hold _ _ h9
 ·show Stands _ (z'.S.pend.put ky ⟨y,e⟩) _
  rw [hS]
  intro k'
  unfold Xa
  by_cases e0:k'=ky
  ·rw [A6v e0]
   subst e0
   exact ⟨⟨y,e⟩,by rw [Mp.get_put,A6v rfl],rfl,hok,hn.new⟩
  ·rw [A6u e0]
   have:=h.pd k'
   cases hf:P k' with
   | none=>rw [hf] at this;show (z1.S.pend.put ky ⟨y,e⟩).get k'=none;rw [Mp.get_put,A6u e0];exact this
   | some r =>
    obtain ⟨e',b'⟩:=r
    rw [hf] at this
    obtain ⟨en,q1,q2,q3,q4⟩:=this
    exact ⟨en,by rw [Mp.get_put,A6u e0];exact q1,q2,q3,hold _ _ q4⟩
 ·show RecAt z' z'.S.la _
  rw [hS];exact hold _ _ (h.la h0)
 ·obtain ⟨v,h3,h4⟩:=h.va h0
  exact ⟨v,h3,by show RecAt z' z'.S.va _;rw [hS];grind⟩
 ·exact fun x p h1 h2=>h.kd_new (r:= .nd ky e b) hok hn x p h1 h2
 ·rcases hn.inv x _ h2 with h3 | ⟨_,h3⟩
  ·exact (h.nd x k' e' b' h1 h3).imp id .inl
  ·obtain ⟨q1,q2,q3⟩:=Arp h1 hok h3
   grind
 ·rcases hn.inv x _ h1 with h3 | ⟨_,h3⟩
  ·exact h.cm x c h3
  ·exact absurd h3 (E7 (r:= .cm c) (s:= .nd ky e b) trivial hok (by show (11:By)≠10;decide))
 ·show ∀ x v,RecAt z' x (Rc.vw v).pg→A.viewed=true∧v.num.toNat≤A.vw.num.toNat∧(v.num=A.vw.num→vwM v=A.vw∨bef z' x z'.S.va)
  rw [hS]
  exact h.vs_new hw (r:= .nd ky e b) hok (by show (10:By)≠12;decide) hn
def Ab.fin (A:Ab) (P:NdM) (c:Cm):Ab:={ A with last:=c,seen:=c.ep,stray:=fun _=>false,ix:=fun k=>if Bg c.lv k=true then orE (P k) (A.ix k) else none }
theorem M8 {A:Ab} {P:NdM} {Q:Int→Wd→List By→Prop} {z1 z':Sg} (h:Rz A P Q z1) (ho:∀ x r,RecAt z1 x r→RecAt z' x r) {l:Lv} {m:Mp En} (hm:N8 z1.S l m):Stands z' m fun k=>if Bg l k=true then orE (P k) (A.ix k) else none:=fun k=>by
 have hk:=hm k
 by_cases hl:Bg l k=true
 ·simp only [A6v hl] at hk ⊢
  cases hp:P k with
  | some r =>
   obtain ⟨e,b⟩:=r
   obtain ⟨en,q1,q2,q3,q4⟩:=h.pd.yes hp
   rw [q1] at hk
   exact ⟨en,hk,q2,q3,ho _ _ q4⟩
  | none =>
   rw [h.pd.no hp] at hk
   cases hi:A.ix k with
   | some r =>
    obtain ⟨e,b⟩:=r
    obtain ⟨en,q1,q2,q3,q4⟩:=h.ix.yes hi
    rw [q1] at hk
    exact ⟨en,hk,q2,q3,ho _ _ q4⟩
   | none =>
    rw [h.ix.no hi] at hk
    exact hk
 grind
abbrev noP:NdM:=fun _=>none
abbrev noQ:Int→Wd→List By→Prop:=fun _ _ _=>False
theorem Rz.fin (hw:LW k z1) (h:Rz A P Q z1) {c:Cm} {y:Pl2} (hn:NewAt z1 (Rc.cm c).pg y z') {m:Mp En} (hm:N8 z1.S c.lv m) (hse:A.seen.toNat<c.ep.toNat) (hls:A.last.ep.toNat≤A.seen.toNat)
  (hQ:∀ k e b,Q k e b→e=c.ep∧P k=some (e,b)) (hP:∀ k e b,P k=some (e,b)→e=c.ep)
  (hst:∀ k,Bg c.lv k=true→P k=none→A.stray k=false∧Bg A.last.lv k=true):Rz (A.fin P c) noP noQ (Gx { z' with S:=Ave z'.S c y m }):=by
 have hS:=hn.S
 have hold:∀ x r,RecAt z1 x r→RecAt z' x r:=fun x r hx=>(hn.old x r hx).1
 refine ⟨rfl,by show z'.S.vw=_;rw [hS];exact h.vw,by show z'.S.viewed=_;rw [hS];exact h.viewed,?_,fun k=>Mp.get_clr _ k,fun h0=>hn.new,fun h0=> ?_,?_,fun x k' e' b' h1 h2=> .inl ?_,fun x c' h1=> ?_,?_⟩
 ·exact M8 h hold hm
 ·obtain ⟨v,h3,h4⟩:=h.va h0
  exact ⟨v,h3,by show RecAt z' z'.S.va _;rw [hS];grind⟩
 ·exact fun x p h1 h2=>h.kd_new (r:= .cm c) trivial hn x p h1 h2
 ·have h2:RecAt z' x (Rc.nd k' e' b').pg:=h2
  have h3:RecAt z1 x (Rc.nd k' e' b').pg:=by
   rcases hn.inv x _ h2 with h3 | ⟨_,h3⟩
   ·exact h3
   ·exact absurd h3 (E7 (r:= .nd k' e' b') (s:= .cm c) h1 trivial (by show (10:By)≠11;decide))
  rcases h.nd x k' e' b' h1 h3 with hO | hq
  ·obtain ⟨o1,o2,o3⟩:=hO
   have hle:e'.toNat≤c.ep.toNat:=by omega
   refine ⟨hle,fun _=>hle,fun hl _=> ?_⟩
   have hl:Bg c.lv k'=true:=hl
   show ∃ e2 b2,(if Bg c.lv k'=true then orE (P k') (A.ix k') else none)=some (e2,b2)∧_
   rw [A6v hl]
   cases hp:P k' with
   | some r =>
    obtain ⟨e2,b2⟩:=r
    have he2:=hP _ _ _ hp
    exact ⟨e2,b2,rfl,by rw [he2];omega,fun e0=>by rw [e0,he2] at o1;omega⟩
   | none =>
    obtain ⟨s1,s2⟩:=hst k' hl hp
    obtain ⟨e2,b2,s3,s4,s5⟩:=o3 s2 (o2 s1)
    exact ⟨e2,b2,by show A.ix k'=_;exact s3,s4,s5⟩
  ·obtain ⟨q1,q2⟩:=hQ _ _ _ hq
   subst q1
   refine ⟨A6h _,fun _=>A6h _,fun hl _=> ?_⟩
   have hl:Bg c.lv k'=true:=hl
   show ∃ e2 b2,(if Bg c.lv k'=true then orE (P k') (A.ix k') else none)=some (e2,b2)∧_
   rw [A6v hl,q2]
   exact ⟨_,_,rfl,A6h _,fun _=>rfl⟩
 ·have h1:RecAt z' x (Rc.cm c').pg:=h1
  show 0<c'.ep.toNat∧c'.ep.toNat≤c.ep.toNat∧(c'.ep=c.ep→c'=c)
  rcases hn.inv x _ h1 with h3 | ⟨_,h3⟩
  ·obtain ⟨g1,g2,g3⟩:=h.cm x c' h3
   grind
  ·have:=Arr h3
   grind
 ·show ∀ x v,RecAt z' x (Rc.vw v).pg→A.viewed=true∧v.num.toNat≤A.vw.num.toNat∧(v.num=A.vw.num→vwM v=A.vw∨bef z' x z'.S.va)
  rw [hS]
  exact h.vs_new hw (r:= .cm c) trivial (by show (11:By)≠12;decide) hn
def Ab.note (A:Ab) (v:Vw):Ab:=if (!A.viewed || decide (A.vw.num.toNat≤v.num.toNat))=true then { A with vw:=vwM v,viewed:=true } else A
theorem Rz.note (hw:LW k z1) (h:Rz A P Q z1) {v:Vw} {y:Pl2} (hn:NewAt z1 (Rc.vw v).pg y z') (hv0:A.viewed=true→vwM A.vw=A.vw) :
  Rz (A.note v) P Q (if (!z'.S.viewed || decide (z'.S.vw.num.toNat≤v.num.toNat))=true then { z' with S:={ z'.S with vw:=vwM v,va:=y,viewed:=true } } else z'):=by
 have hS:=hn.S
 have hold:∀ x r,RecAt z1 x r→RecAt z' x r:=fun x r hx=>(hn.old x r hx).1
 have hvn:z'.S.viewed=A.viewed:=by rw [hS];exact h.viewed
 have hvw:z'.S.vw=A.vw:=by rw [hS];exact h.vw
 have hnd:∀ x k' e' b',A9 k' b'=true→RecAt z' x (Rc.nd k' e' b').pg→A1a A k' e' b'∨Q k' e' b':=fun x k' e' b' h1 h2=>by
  rcases hn.inv x _ h2 with h3 | ⟨_,h3⟩
  ·exact h.nd x k' e' b' h1 h3
  ·exact absurd h3 (E7 (r:= .nd k' e' b') (s:= .vw v) h1 trivial (by show (10:By)≠12;decide))
 have hcm:∀ x c,RecAt z' x (Rc.cm c).pg→0<c.ep.toNat∧c.ep.toNat≤A.last.ep.toNat∧(c.ep=A.last.ep→c=A.last):=fun x c h1=>by
  rcases hn.inv x _ h1 with h3 | ⟨_,h3⟩
  ·exact h.cm x c h3
  ·exact absurd h3 (E7 (r:= .cm c) (s:= .vw v) trivial trivial (by show (11:By)≠12;decide))
 rw [hvn,hvw]
 unfold Ab.note
 by_cases hc:(!A.viewed || decide (A.vw.num.toNat≤v.num.toNat))=true
 ·rw [A6v hc,A6v hc]
  refine ⟨by show z'.S.last=_;rw [hS];exact h.last,rfl,rfl,?_,?_,fun h0=> ?_,fun h0=>⟨v,rfl,hn.new⟩,fun x p h1 h2=>h.kd_new (r:= .vw v) trivial hn x p h1 h2,hnd,hcm,fun x v' h1=> ?_⟩
  ·show Stands _ z'.S.idx _
   rw [hS];exact h.ix.mono fun _ _ _ _ h9=>hold _ _ h9
  ·show Stands _ z'.S.pend _
   rw [hS];exact h.pd.mono fun _ _ _ _ h9=>hold _ _ h9
  ·show RecAt z' z'.S.la _
   rw [hS];exact hold _ _ (h.la h0)
  ·have h1:RecAt z' x (Rc.vw v').pg:=h1
   show true=true∧v'.num.toNat≤v.num.toNat∧(v'.num=v.num→vwM v'=vwM v∨bef z' x y)
   rcases hn.inv x _ h1 with h3 | ⟨_,h3⟩
   ·obtain ⟨g1,g2,g3⟩:=h.vs x v' h3
    simp only [g1,A5u,A5t,A4f] at hc
    exact ⟨rfl,by omega,fun _=> .inr (hn.bef _ _ h3)⟩
   ·have hm:=Abt h3
    have hnum:v'.num=v.num:=by have h8:=A6r Vw.num hm;exact h8
    grind
 ·rw [A6u hc,A6u hc]
  have hvd:A.viewed=true:=by
   grind
  have hlt:¬ A.vw.num.toNat≤v.num.toNat:=fun h9=>hc (by simp [h9])
  refine ⟨by rw [hS];exact h.last,hvw,hvn,?_,?_,fun h0=> ?_,fun h0=> ?_,h.kd_new (r:= .vw v) trivial hn,hnd,hcm,fun x v' h1=> ?_⟩
  ·rw [hS];exact h.ix.mono fun _ _ _ _ h9=>hold _ _ h9
  ·rw [hS];exact h.pd.mono fun _ _ _ _ h9=>hold _ _ h9
  ·rw [hS];exact hold _ _ (h.la h0)
  ·obtain ⟨w,h3,h4⟩:=h.va h0
   grind
  ·rw [hS]
   rcases hn.inv x _ h1 with h3 | ⟨_,h3⟩
   ·obtain ⟨g1,g2,g3⟩:=h.vs x v' h3
    obtain ⟨w,_,h5⟩:=h.va g1
    exact ⟨g1,g2,fun g4=>(g3 g4).imp id fun g5=>(hn.ord hw h3 h5).2 g5⟩
   ·have hm:=Abt h3
    have hnum:v'.num=v.num:=by have h8:=A6r Vw.num hm;exact h8
    grind
end
end
section
open Go.K
theorem Jf (a b:Wd):(Jj a b).toNat=max a.toNat b.toNat:=by
 unfold Jj
 split <;> omega
theorem Rz.monoQ {A:Ab} {P:NdM} {Q Q':Int→Wd→List By→Prop} {z:Sg} (h:Rz A P Q z) (hq:∀ k e b,Q k e b→Q' k e b):Rz A P Q' z :=
 ⟨h.last,h.vw,h.viewed,h.ix,h.pd,h.la,h.va,h.kd,fun x k e b h1 h2=>(h.nd x k e b h1 h2).imp id (hq k e b),h.cm,h.vs⟩
theorem Mp.put_len {α:Type} (m:Mp α) (k:Int) (v:α):(m.put k v).es.length≤m.es.length+1:=by
 rw [← Mp.keys_len,← Mp.keys_len,Mp.put_keys]
 grind
theorem refs_len (S:Sto):(refs S).length=(if 0<S.last.ep.toNat then 1 else 0)+(if S.viewed=true then 1 else 0)+S.idx.es.length+S.pend.es.length:=by
 unfold refs
 rw [A3x,A3x,A3x,A46,A46]
 split <;> split <;> simp <;> omega
theorem Ag7 {n:Nat} {q:Qt} {A:Ab} {P:NdM} {Q:Int→Wd→List By→Prop} {S0:Sto} {c0:Chip} {z':Sg} {p:Pg} {y:Pl2} (h0:c0.after<0) (h:DnM n q (IRz A P Q S0 c0) z'∨∃ k' z1,LW k' z1∧P0 z1∧IRz A P Q S0 c0 z1∧2≤fr z1∧AppG n q z1 p 30 y z'):False:=by
 have ha:∀ {z1:Sg} {p:Pg} {y:Pl2},IRz A P Q S0 c0 z1→AppG n q z1 p 30 y z'→False:=fun hI hA=>by
  have h1:=(hI.2.2.pos h0).1
  rcases hA.2.2.2.2.2 with h | h
  ·exact h.1 rfl
  ·exact h.2.2.1 (by omega)
 rcases h with ⟨_,z1,_,_,hI,h⟩ | ⟨_,z1,_,_,hI,_,h⟩
 ·rcases h with ⟨_,_,_,_,_,_,h⟩ | ⟨b,_,_,_,_,h⟩
  ·exact ha hI h
  ·have h1:=(hI.2.2.pos h0).1
   rcases h.2.2.2.2.2.2 with h | h
   ·omega
   omega
 grind
theorem WrR.keep {n:Nat} {q:Qt} {A:Ab} {c0:Chip} {xs:List N3} {e:Int} {z z':Sg} (h:WrR n q xs z e z'):∀ {P:NdM} {Q:Int→Wd→List By→Prop} {k:Nat},LW k z→k+2000*xs.length≤300000000000→z.L.nb≤40→Rz A P Q z→FrA c0 z.L.d.c→1≤fr z →
  (refs z.S).length+xs.length+20≤6*z.L.nb→(e≠30∨c0.after<0) →
  e=0∧LW (k+2000*xs.length) z'∧Rz A (Jk P xs) (fun k e b=>Q k e b∨(k,e,b)∈xs) z'∧FrA c0 z'.L.d.c∧1≤fr z'∧z'.L.nb=z.L.nb∧(refs z'.S).length≤(refs z.S).length+xs.length ∧
   (∀ t:Nat,z.S.seen.toNat≤t→(∀ x∈xs,x.2.1.toNat≤t)→z'.S.seen.toNat≤t):=by
 induction h with
 | @nil z=>exact fun hw _ _ hR hf h1 _ _=>⟨rfl,hw,hR.monoQ fun _ _ _ h=> .inl h,hf,h1,rfl,A6h _,fun t h _=>h⟩
 | @stop ky ep b xs z z1 er y hok hp he =>
  intro P Q k hw hk h40 hR hf h1 hc h30
  rw [A4q] at hk hc
  have hI:IRz A P Q (wr1 z ky ep).S c0 (wr1 z ky ep):=⟨⟨hR.last,hR.vw,hR.viewed,hR.ix.mono fun _ _ _ _ h=>h,hR.pd.mono fun _ _ _ _ h=>h,hR.la,hR.va,hR.kd,hR.nd,hR.cm,hR.vs⟩,.refl _,hf⟩
  rcases hp.keep (z:=wr1 z ky ep) (Ai9 A P Q (wr1 z ky ep).S c0) (hw.of rfl rfl) (by omega) h40 hI.1.p0 hI h1 (by show (refs z.S).length+20≤6*z.L.nb;omega) with ⟨g,hd⟩ | ⟨g,_⟩
  ·rcases h30 with h30 | h30
   ·omega
   ·exact (Ag7 h30 hd).elim
  omega
 | @go ky ep b xs z z1 z' er y hok hp _ ih =>
  intro P Q k hw hk h40 hR hf h1 hc h30
  rw [A4q] at hk hc
  have hI:IRz A P Q (wr1 z ky ep).S c0 (wr1 z ky ep):=⟨⟨hR.last,hR.vw,hR.viewed,hR.ix.mono fun _ _ _ _ h=>h,hR.pd.mono fun _ _ _ _ h=>h,hR.la,hR.va,hR.kd,hR.nd,hR.cm,hR.vs⟩,.refl _,hf⟩
  rcases hp.keep (z:=wr1 z ky ep) (Ai9 A P Q (wr1 z ky ep).S c0) (hw.of rfl rfl) (by omega) h40 hI.1.p0 hI h1 (by show (refs z.S).length+20≤6*z.L.nb;omega) with ⟨g,_⟩ | ⟨_,k',z2,w1,w2,⟨w3,w4,w5⟩,w6,w7,w8,w9,w10,w11,w12⟩
  ·cases g
  have hnb:z1.L.nb=z.L.nb:=w9.nb.trans w8
  have hlen:(refs z1.S).length=(refs z.S).length:=by rw [w9.S];exact w7
  have hlen2:(refs (wr2 z1 ky ep y).S).length≤(refs z.S).length+1:=by
   rw [← hlen,refs_len,refs_len]
   have:=Mp.put_len z1.S.pend ky ⟨y,ep⟩
   show _+_+z1.S.idx.es.length+(z1.S.pend.put ky ⟨y,ep⟩).es.length≤_
   show (if 0<z1.S.last.ep.toNat then 1 else 0)+(if z1.S.viewed=true then 1 else 0)+z1.S.idx.es.length+(z1.S.pend.put ky ⟨y,ep⟩).es.length≤_
   omega
  obtain ⟨v1,v2,v3,v4,v5,v6,v7,v8⟩:=ih (P:=Xa P (ky,ep,b)) (Q:=fun k' e' b'=>Q k' e' b'∨(k',e',b')=(ky,ep,b)) (k:=k+2000) (w12.of rfl rfl) (by omega) (by show z1.L.nb≤40;omega) (w3.write w1 hok w9) (w5.trans w10) w11 (by show (refs (wr2 z1 ky ep y).S).length+xs.length+20≤6*z1.L.nb;omega) h30
  refine ⟨v1,v2.mono (by rw [A4q];omega),v3.monoQ fun k' e' b' h9=> ?_,v4,v5,v6.trans hnb,by rw [A4q];omega,fun t ht hx=> ?_⟩
  ·grind
  ·refine v8 t ?_ fun x h9=>hx x (A3a _ h9)
   have h2:=hx _ A3y
   show z1.S.seen.toNat≤t
   rw [w9.S,w4.seen]
   show (Jj z.S.seen ep).toNat≤t
   rw [Jf]
   grind
def epN (ix:NdM) (k:Int):Wd:=match ix k with | some r=>r.1 | none=>0
def Wn (l:Lv) (ix:NdM):BitVec 32:=(C7 l 256).foldl (fun c k=>Fy c [Bz 1 (BitVec.ofInt 64 k),Bz 8 (epN ix k)]) 0
theorem Aep {α β:Type} {f g:β→α→β}:∀ {xs:List α} {b:β},(∀ b,∀ x∈xs,f b x=g b x)→xs.foldl f b=xs.foldl g b
 | [],_,_=>rfl
 | x::xs,b,h=>by
  rw [A45,A45,h b x A3y]
  exact Aep fun b y hy=>h b y (A3a _ hy)
theorem Aru (l:Lv) (n:Nat):(C7 l n).Pairwise (·<·):=by
 unfold C7
 refine List.Pairwise.filter _ ?_
 rw [A4c]
 exact List.pairwise_lt_range.imp fun h=>by omega
theorem Zo {m:Mp En} {l:Lv} (h:∀ k,(m.get k).isSome=Bg l k):Dy m.keys=C7 l 256:=by
 have hp:(Dy m.keys).Perm (C7 l 256):=by
  refine (Bn _).trans ((List.perm_ext_iff_of_nodup m.keys_nodup (Adz l 256)).2 fun k=> ?_)
  rw [keysL_mem,← h k]
  exact Mp.get_some.symm
 exact List.Perm.eq_of_pairwise (le:=(·≤·)) (fun a b _ _ h1 h2=>by omega) (Qu _) ((Aru l 256).imp fun h=>by omega) hp
theorem Stands.isSome {z:Sg} {m:Mp En} {f:NdM} (h:Stands z m f) (k:Int):(m.get k).isSome=(f k).isSome:=by
 cases hf:f k with
 | none=>rw [h.no hf];rfl
 | some r=>obtain ⟨en,h1,_⟩:=h.yes (k:=k) (e:=r.1) (b:=r.2) hf;rw [h1];rfl
theorem Abv {z:Sg} {m:Mp En} {f:NdM} {l:Lv} (h:Stands z m f) (hl:∀ k,(f k).isSome=Bg l k):Ma m=Wn l f:=by
 unfold Ma Wn
 rw [Zo (l:=l) fun k=>(h.isSome k).trans (hl k)]
 refine Aep fun b k hk=> ?_
 have hk:=keysL_mem.1 hk
 rw [← hl k] at hk
 have:Aed m k=epN f k:=by
  obtain ⟨r,hr⟩:=Option.isSome_iff_exists.1 hk
  obtain ⟨en,h1,h2,_⟩:=h.yes (k:=k) (e:=r.1) (b:=r.2) hr
  unfold Aed R7 epN
  rw [h1,hr]
  exact h2
 rw [this]
theorem Aze {m:Mp En} {l:Lv} (h:∀ k,(m.get k).isSome=true→Bg l k=true):m.es.length≤(C7 l 256).length:=by
 rw [← Mp.keys_len]
 exact Ib m.keys_nodup fun k hk=>keysL_mem.2 (h k (Mp.get_some.2 hk))
structure Std (A:Ab) (z:Sg):Prop where
 rz:Rz A noP noQ z
 seen:z.S.seen=A.seen
 stray:∀ k,(z.S.stray.get k).isSome=A.stray k
 strk:∀ k,A.stray k=true→Cd k=true
 hurt:z.S.hurt=false
 live:∀ k,(A.ix k).isSome=Bg A.last.lv k
 ep:∀ k e b,A.ix k=some (e,b)→e.toNat≤A.last.ep.toNat
 ls:A.last.ep.toNat≤A.seen.toNat
 l0:A.last.ep.toNat=0→A.last=cm0
 sum:0<A.last.ep.toNat→A.last.sum=Wn A.last.lv A.ix
 lim:((C7 A.last.lv 256).length:Int)≤In z.L.nb
 nb4:4≤z.L.nb∧z.L.nb≤40
 fr:1≤fr z
 vwm:A.viewed=true→vwM A.vw=A.vw
 v0:A.viewed=false→A.vw=vw0
theorem Aeq {n:Nat} (h:4≤n∧n≤40):In n=3*(n:Int) - 11:=by unfold In;omega
theorem Std.idx_len {A:Ab} {z:Sg} (h:Std A z):z.S.idx.es.length≤(C7 A.last.lv 256).length:=Aze fun k hk=>by rw [← h.live k,← h.rz.ix.isSome k];exact hk
theorem Std.refs_len {A:Ab} {z:Sg} (h:Std A z):(refs (Gx z).S).length+(In z.L.nb).toNat+20≤6*z.L.nb:=by
 rw [Go.Proofs.YtpmojdippdlcaaaGreatDoor.refs_len]
 have h1:=h.idx_len
 have h2:=h.lim
 have h3:=Aeq h.nb4
 have h4:=h.nb4
 show (if 0<z.S.last.ep.toNat then 1 else 0)+(if z.S.viewed=true then 1 else 0)+z.S.idx.es.length+0+(In z.L.nb).toNat+20≤6*z.L.nb
 split <;> split <;> omega
def Bu (ix:NdM) (k:Int):List By:=match ix k with | some r=>r.2 | none=>[]
theorem Arv {z:Sg} (h:Stands z z.S.pend noP):z.S.pend.es=[]:=by
 cases hp:z.S.pend.es with
 | nil=>rfl
 | cons x xs =>
  have h1:x∈z.S.pend.es:=by rw [hp];grind
  have:=h.no (k:=x.k) rfl
  rw [Mp.get_mem h1] at this
  cases this
section
variable {n k:Nat} {q:Qt} {A:Ab} {z z':Sg} {ep:Wd} {cs:List Chg}
theorem Std.clr (h:Std A z):Rz A noP noQ (Gx z):=⟨h.rz.last,h.rz.vw,h.rz.viewed,h.rz.ix.mono fun _ _ _ _ h=>h,fun k=>Mp.get_clr _ k,h.rz.la,h.rz.va,h.rz.kd,h.rz.nd,h.rz.cm,h.rz.vs⟩
theorem Std.lv (h:Std A z):Bw z cs=cs.foldl Ev A.last.lv:=by unfold Bw;rw [h.rz.last]
theorem Std.again (h:Std A z) {ky:Int} (hk:Et (Bw z cs) (cs.map (·.key)) ky=true):Bg A.last.lv ky=true∧ky∉cs.map (·.key)∧Bg (Bw z cs) ky=true∧∃ e,A.ix ky=some (e,Bu A.ix ky)∧A9 ky (Bu A.ix ky)=true:=by
 unfold Et at hk
 simp only [A4k,A32,A2m] at hk
 obtain ⟨h1,h2⟩:=hk
 have h3:Bg A.last.lv ky=true:=by rw [h.lv,Jv h2] at h1;exact h1
 refine ⟨h3,h2,h1,?_⟩
 have h4:=h.live ky
 rw [h3] at h4
 obtain ⟨r,hr⟩:=Option.isSome_iff_exists.1 h4
 obtain ⟨en,_,_,h5,_⟩:=h.rz.ix.yes (k:=ky) (e:=r.1) (b:=r.2) hr
 have hb:Bu A.ix ky=r.2:=by unfold Bu;rw [hr]
 grind
theorem Std.hA (h:Std A z):∀ k∈z.S.stray.keys,Et (Bw z cs) (cs.map (·.key)) k=true→∃ e,z.S.idx.get k=some e∧A9 k (Bu A.ix k)=true∧RecAt z e.at' (Cj 10 (E5 k e.ep (Bu A.ix k))):=fun ky _ hk=>by
 obtain ⟨_,_,_,e,h1,h2⟩:=h.again hk
 obtain ⟨en,g1,g2,g3,g4⟩:=h.rz.ix.yes h1
 subst g2
 exact ⟨en,g1,g3,g4⟩
theorem Std.hm (h:Std A z):z.S.stray.es.length≤1000:=by
 rw [← Mp.keys_len]
 have:z.S.stray.keys.length≤((List.range 256).map fun i:Nat=>(i:Int)).length:=Ib z.S.stray.keys_nodup fun k hk=>by
  have h1:=h.strk k (by rw [← h.stray k];exact Mp.get_some.2 hk)
  obtain ⟨m,rfl,hm⟩:=Dc h1
  grind
 rw [A46,List.length_range] at this
 omega
theorem Std.nds (h:Std A z) (hb:Bo z ep cs=false):((Bp z ep cs (Bu A.ix)).map (·.1)).Nodup∧(∀ x∈Bp z ep cs (Bu A.ix),x.2.1=ep∧Bg (Bw z cs) x.1=true) ∧
  (∀ k,Bg (Bw z cs) k=true→k∉(Bp z ep cs (Bu A.ix)).map (·.1)→A.stray k=false∧Bg A.last.lv k=true):=by
 unfold Bo Oa at hb
 simp only [A27,A3s,A4k,A4l] at hb
 obtain ⟨⟨_,hall⟩,hon⟩:=hb
 have hnd:=onceC_iff.1 hon
 have e1:(Fu z.S (Bw z cs) ep (cs.map (·.key)) (Bu A.ix)).map (·.1)=(Dy z.S.stray.keys).filter (Et (Bw z cs) (cs.map (·.key))):=by
  unfold Fu
  rw [A51]
  exact List.map_id _
 have e2:(Ep ep cs).map (·.1)=(cs.filter fun c=> !c.gone).map (·.key):=by
  unfold Ep
  rw [A51]
  rfl
 have hsub:((cs.filter fun c=> !c.gone).map (·.key)).Sublist (cs.map (·.key)):=List.filter_sublist.map _
 have hv:∀ c∈cs,Cd c.key=true:=fun c hc=>by
  have:=hall c hc
  unfold Eo A9 at this
  grind
 refine ⟨?_,fun x hx=> ?_,fun k h1 h2=> ?_⟩
 ·unfold Bp
  rw [A48,e1,e2]
  refine A4b.2 ⟨((Bn _).nodup_iff.2 z.S.stray.keys_nodup).filter _,hsub.nodup hnd,fun a ha b hb e=> ?_⟩
  have:=(h.again (A5a.1 ha).2).2.1
  grind
 ·unfold Bp at hx
  rcases A49.1 hx with hx | hx
  ·unfold Fu at hx
   obtain ⟨ky,hk,rfl⟩:=A53.1 hx
   exact ⟨rfl,(h.again (A5a.1 hk).2).2.2.1⟩
  ·unfold Ep at hx
   obtain ⟨c,hc,rfl⟩:=A53.1 hx
   obtain ⟨hc1,hc2⟩:=A5a.1 hc
   refine ⟨rfl,?_⟩
   rw [h.lv]
   show Bg (cs.foldl Ev A.last.lv) c.key=true
   rw [Abu hnd hc1 (hv c hc1)]
   exact hc2
 ·have h2':k∉(Dy z.S.stray.keys).filter (Et (Bw z cs) (cs.map (·.key)))∧k∉(cs.filter fun c=> !c.gone).map (·.key):=by
   unfold Bp at h2
   rw [A48,e1,e2,A49,not_or] at h2
   exact h2
  have hk:k∉cs.map (·.key):=fun hk=>by
   obtain ⟨c,hc,rfl⟩:=A53.1 hk
   have h3:=h1
   rw [h.lv,Abu hnd hc (hv c hc)] at h3
   grind
  refine ⟨?_,by rw [h.lv,Jv hk] at h1;exact h1⟩
  rw [← h.stray k]
  cases hg:(z.S.stray.get k).isSome with
  | false=>rfl
  | true =>
   exact absurd (A5a.2 ⟨(Bn _).mem_iff.2 (Mp.get_some.1 hg),by unfold Et;grind⟩) h2'.1
theorem Std.nds_len (h:Std A z) (hb:Bo z ep cs=false):(Bp z ep cs (Bu A.ix)).length≤(C7 (Bw z cs) 256).length:=by
 obtain ⟨h1,h2,_⟩:=h.nds hb
 rw [← A46 (f:=fun x:N3=>x.1)]
 exact Ib h1 fun k hk=>by
  obtain ⟨x,hx,rfl⟩:=A53.1 hk
  exact keysL_mem.2 (h2 x hx).2
theorem Std.cap (h:Std A z) (hb:Bo z ep cs=false) (hf:B2 z cs=false):(refs (Gx z).S).length+(Bp z ep cs (Bu A.ix)).length+20≤6*z.L.nb:=by
 have h1:=h.refs_len
 have h2:=h.nds_len hb
 unfold B2 at hf
 grind
end
end
section
open Go.K
structure ComA (A:Ab) (e0:Wd) (cs:List Chg) (A':Ab):Prop where
 ep:A'.last.ep=e0
 lv:A'.last.lv=cs.foldl Ev A.last.lv
 seen:A'.seen=e0
 vw:A'.vw=A.vw
 viewed:A'.viewed=A.viewed
 stray:∀ k,A'.stray k=false
 chg:∀ c∈cs,c.gone=false→A'.ix c.key=some (e0,c.body.list)
 oth:∀ k,k∉cs.map (·.key)→∀ e b,A.ix k=some (e,b)→A'.ix k=some (if A.stray k=true then e0 else e,b)
theorem Arw {cs:List Chg} {ep:Wd} {c:Chg} (hc:c∈cs) (hg:c.gone=false):(c.key,ep,c.body.list)∈Ep ep cs :=
 A53.2 ⟨c,A5a.2 ⟨hc,by rw [hg];rfl⟩,rfl⟩
section
variable {n k:Nat} {q:Qt} {A:Ab} {z z':Sg} {ep:Wd} {cs:List Chg} {e:Int}
theorem Std.commit (h:Std A z) (hw:LW k z) (hk:k≤200000000000) (hb:Bo z ep cs=false) (hf:B2 z cs=false) {z1 z2:Sg} {e1:Int} {m:Mp En} (hW:WrR n q (Bp z ep cs (Bu A.ix)) (Gx z) e1 z1) :
  ((e1≠30∨z.L.d.c.after<0)→e1=0∧FrA z.L.d.c z1.L.d.c∧(N8 z1.S (Bw z cs) m→EndR n q z1 ⟨ep,Bw z cs,Ma m⟩ e z2→(e≠30∨z.L.d.c.after<0)→e=0∧FrA z.L.d.c z2.L.d.c∧∃ A',ComA A ep cs A'∧Std A' (Gx z2))):=by
 intro he1
 have hcap:=h.cap hb hf
 obtain ⟨n1,n2,n3⟩:=h.nds hb
 have hlenN:=h.nds_len hb
 have hk256:=Hy (Bw z cs) 256
 obtain ⟨w1,w2,w3,w4,w5,w6,w7,w8⟩:=hW.keep (hw.of (z':=Gx z) rfl rfl) (by omega) h.nb4.2 h.clr (.refl _) h.fr hcap he1
 refine ⟨w1,w4,fun hM hE he=> ?_⟩
 have hgt:A.seen.toNat<ep.toNat:=by
  have h9:=hb
  unfold Bo Oa at h9
  simp only [A27,A3s,A4k,A4f] at h9
  rw [← h.seen]
  have:=h9.1.1
  omega
 have hseen:z1.S.seen.toNat≤ep.toNat:=w8 ep.toNat (by show z.S.seen.toNat≤_;rw [h.seen];omega) fun x hx=>by rw [(n2 x hx).1];omega
 have hlive:∀ k,(if Bg (Bw z cs) k=true then orE (Jk noP (Bp z ep cs (Bu A.ix)) k) (A.ix k) else none).isSome=Bg (Bw z cs) k:=fun k=>by
  by_cases hl:Bg (Bw z cs) k=true
  ·rw [A6v hl,hl]
   by_cases hk:k∈(Bp z ep cs (Bu A.ix)).map (·.1)
   ·obtain ⟨⟨k',e',b'⟩,hx,rfl⟩:=A53.1 hk
    rw [Hb n1 hx];rfl
   ·rw [K7 hk]
    show (A.ix k).isSome=true
    rw [h.live k]
    grind
  grind
 have hsum:Ma m=Wn (Bw z cs) (fun k=>if Bg (Bw z cs) k=true then orE (Jk noP (Bp z ep cs (Bu A.ix)) k) (A.ix k) else none) :=
  Abv (M8 w3 (fun _ _ h=>h) hM) hlive
 obtain ⟨y,z3,hP,hZ⟩:=hE
 have hI:IRz A (Jk noP (Bp z ep cs (Bu A.ix))) (fun k e b=>noQ k e b∨(k,e,b)∈Bp z ep cs (Bu A.ix)) z1.S z.L.d.c z1:=⟨w3,.refl _,w4⟩
 rcases hP.keep (Ai9 _ _ _ z1.S z.L.d.c) w2 (by omega) (by rw [w6];exact h.nb4.2) hI.1.p0 hI w5 (by rw [w6];show _≤6*z.L.nb;omega) with ⟨g,hd⟩ | ⟨g0,k',z4,g1,g2,⟨g3,g4,g5⟩,g6,g7,g8,g9,g10,g11,g12⟩
 ·rcases he with he | he
  ·omega
  ·exact (Ag7 he hd).elim
 refine ⟨g0,?_⟩
 obtain ⟨m',hm',rfl⟩:∃ m',N8 z3.S (Bw z cs) m'∧z2={ z3 with S:=Ave z3.S ⟨ep,Bw z cs,Ma m⟩ y m' }:=by
  grind
 refine ⟨g5.trans g10,A.fin (Jk noP (Bp z ep cs (Bu A.ix))) ⟨ep,Bw z cs,Ma m⟩,⟨rfl,h.lv,rfl,rfl,rfl,fun _=>rfl,fun c hc hg=> ?_,fun ky hky e b hi=> ?_⟩,?_⟩
 ·show (if Bg (Bw z cs) c.key=true then orE (Jk noP (Bp z ep cs (Bu A.ix)) c.key) (A.ix c.key) else none)=_
  have hx:(c.key,ep,c.body.list)∈Bp z ep cs (Bu A.ix):=by unfold Bp;exact A22 _ (Arw hc hg)
  rw [A6v (n2 _ hx).2,Hb n1 hx]
  rfl
 ·show (if Bg (Bw z cs) ky=true then orE (Jk noP (Bp z ep cs (Bu A.ix)) ky) (A.ix ky) else none)=_
  have hl:Bg (Bw z cs) ky=true:=by
   rw [h.lv,Jv hky,← h.live ky,hi];rfl
  rw [A6v hl]
  cases hs:A.stray ky with
  | true =>
   have hx:(ky,ep,Bu A.ix ky)∈Bp z ep cs (Bu A.ix):=by
    unfold Bp Fu
    refine A29 _ (A53.2 ⟨ky,A5a.2 ⟨(Bn _).mem_iff.2 (Mp.get_some.1 (by rw [h.stray ky];exact hs)),?_⟩,rfl⟩)
    unfold Et
    rw [hl]
    grind
   rw [Hb n1 hx,A6v rfl]
   have:Bu A.ix ky=b:=by unfold Bu;rw [hi]
   rw [this]
   rfl
  | false =>
   have hx:ky∉(Bp z ep cs (Bu A.ix)).map (·.1):=fun hx=>by
    unfold Bp at hx
    rw [A48,A49] at hx
    rcases hx with hx | hx
    ·unfold Fu at hx
     rw [A51] at hx
     obtain ⟨k2,h2,e2⟩:=A53.1 hx
     have e2:k2=ky:=e2
     subst e2
     have:=Mp.get_some.2 ((Bn _).mem_iff.1 (A5a.1 h2).1)
     rw [h.stray k2,hs] at this
     cases this
    ·unfold Ep at hx
     rw [A51] at hx
     grind
   rw [K7 hx,A6u (by decide)]
   exact hi
 ·have hm4:N8 z4.S (Bw z cs) m':=by rw [← g9.S];exact hm'
  have hrz:=Rz.fin g1 g3 g9 hm4 hgt h.ls (fun ky e b hq=>by
    rcases hq with hq | hq
    ·exact hq.elim
    ·exact ⟨(n2 _ hq).1,Hb n1 hq⟩) (fun ky e b hp=>by
    rcases Q1 hp with hx | hx
    ·grind
    ·cases hx) (fun ky hl hp=>by
    refine n3 ky hl fun hk=> ?_
    obtain ⟨⟨k',e',b'⟩,hx,rfl⟩:=A53.1 hk
    rw [Hb n1 hx] at hp
    cases hp)
  have hnb:z3.L.nb=z.L.nb:=g9.nb.trans (g8.trans w6)
  have hsn:z3.S.seen=z1.S.seen:=by rw [g9.S];exact g4.seen
  refine ⟨hrz,?_,fun ky=> ?_,fun ky hk=>(by cases hk),rfl,hlive,fun ky e b hi=> ?_,A6h _,fun h0=> ?_,fun _=>hsum,?_,by show 4≤z3.L.nb∧z3.L.nb≤40;rw [hnb];exact h.nb4,g11,h.vwm,h.v0⟩
  ·show Jj z3.S.seen ep=ep
   refine A2u ?_
   rw [Jf,hsn]
   omega
  ·show (z3.S.stray.clr.get ky).isSome=false
   rw [Mp.get_clr];rfl
  ·show e.toNat≤ep.toNat
   have hi:(if Bg (Bw z cs) ky=true then orE (Jk noP (Bp z ep cs (Bu A.ix)) ky) (A.ix ky) else none)=some (e,b):=hi
   split at hi
   ·cases hp:Jk noP (Bp z ep cs (Bu A.ix)) ky with
    | some r =>
     obtain ⟨e2,b2⟩:=r
     rw [hp] at hi
     have hi:some (e2,b2)=some (e,b):=hi
     have:=A5i hi
     simp only [A50] at this
     rw [← this.1]
     rcases Q1 hp with hx | hx
     ·have h8:e2=ep:=(n2 _ hx).1
      rw [h8];omega
     ·cases hx
    | none =>
     rw [hp] at hi
     have:=h.ep ky e b hi
     have:=h.ls
     omega
   ·cases hi
  ·have h0:ep.toNat=0:=h0
   omega
  ·show ((C7 (Bw z cs) 256).length:Int)≤In z3.L.nb
   rw [hnb]
   have h9:=hf
   unfold B2 at h9
   grind
theorem Std.hS (h:Std A z) (hw:LW k z) (hk:k≤200000000000) (h13:z.L.nb≤40) (hb:Bo z ep cs=false) (hf:B2 z cs=false):∀ i z1 ky e b,WrR n q ((Bp z ep cs (Bu A.ix)).take i) (Gx z) 0 z1→(Bp z ep cs (Bu A.ix))[i]? =some (ky,e,b)→A9 ky b=true→Wa n q (wr1 z1 ky e):=fun i z1 ky e b hW hg _=>by
 have hcap:=h.cap hb hf
 have hlenN:=h.nds_len hb
 have hk256:=Hy (Bw z cs) 256
 have hi:=(List.getElem?_eq_some_iff.1 hg).1
 have htl:((Bp z ep cs (Bu A.ix)).take i).length=i:=by rw [A4s];omega
 obtain ⟨w1,w2,w3,w4,w5,w6,w7,w8⟩:=hW.keep (hw.of (z':=Gx z) rfl rfl) (by omega) h.nb4.2 h.clr (.refl _) h.fr (by rw [htl];show _≤6*z.L.nb;omega) (.inl (by decide))
 have w6:z1.L.nb=z.L.nb:=w6
 rw [htl] at w7
 exact Abr (z:=wr1 z1 ky e) w3.p0 w5 (by show (refs z1.S).length+20≤6*z1.L.nb;rw [w6];omega) (by show z1.L.nb≤40;omega)
theorem Std.hE (h:Std A z) (hw:LW k z) (hk:k≤200000000000) (h13:z.L.nb≤40) (hb:Bo z ep cs=false) (hf:B2 z cs=false):∀ z1,WrR n q (Bp z ep cs (Bu A.ix)) (Gx z) 0 z1→Wa n q z1:=fun z1 hW=>by
 have hcap:=h.cap hb hf
 have hlenN:=h.nds_len hb
 have hk256:=Hy (Bw z cs) 256
 obtain ⟨w1,w2,w3,w4,w5,w6,w7,w8⟩:=hW.keep (hw.of (z':=Gx z) rfl rfl) (by omega) h.nb4.2 h.clr (.refl _) h.fr hcap (.inl (by decide))
 have w6:z1.L.nb=z.L.nb:=w6
 exact Abr w3.p0 w5 (by rw [w6];omega) (by omega)
theorem Std.safe (h:Std A z) (h13:z.L.nb≤40):Wa n q z:=by
 have h1:=h.refs_len
 have h2:(refs z.S).length=(refs (Gx z).S).length:=by
  rw [Go.Proofs.YtpmojdippdlcaaaGreatDoor.refs_len,Go.Proofs.YtpmojdippdlcaaaGreatDoor.refs_len,Arv h.rz.pd]
  rfl
 exact Abr h.rz.p0 h.fr (by omega) h13
theorem Std.note (h:Std A z) (hw:LW k z) (hk:k≤200000000000) {v:Vw} (hN:Aw9 n q z v e z') (he:e≠30∨z.L.d.c.after<0):e=0∧FrA z.L.d.c z'.L.d.c∧Std (A.note v) z':=by
 obtain ⟨y,z1,hP,rfl⟩:=hN
 have h1:=h.refs_len
 have h2:(refs z.S).length=(refs (Gx z).S).length:=by
  rw [Go.Proofs.YtpmojdippdlcaaaGreatDoor.refs_len,Go.Proofs.YtpmojdippdlcaaaGreatDoor.refs_len,Arv h.rz.pd]
  rfl
 have hI:IRz A noP noQ z.S z.L.d.c z:=⟨h.rz,.refl _,.refl _⟩
 rcases hP.keep (Ai9 _ _ _ z.S z.L.d.c) hw (by omega) h.nb4.2 hI.1.p0 hI h.fr (by omega) with ⟨g,hd⟩ | ⟨g0,k',z4,g1,g2,⟨g3,g4,g5⟩,g6,g7,g8,g9,g10,g11,g12⟩
 ·rcases he with he | he
  ·omega
  ·exact (Ag7 he hd).elim
 subst g0
 have hrz:=Rz.note g1 g3 g9 (h.vwm)
 have hnb:z1.L.nb=z.L.nb:=g9.nb.trans g8
 have hS1:=g9.S
 rw [show (decide ((0:Int)=0) && (!z1.S.viewed || decide (z1.S.vw.num.toNat≤v.num.toNat)))=(!z1.S.viewed || decide (z1.S.vw.num.toNat≤v.num.toNat)) from rfl]
 have hvd:z1.S.viewed=A.viewed:=by rw [hS1];exact g3.viewed
 have hvw:z1.S.vw=A.vw:=by rw [hS1];exact g3.vw
 have hA:(A.note v).last=A.last∧(A.note v).seen=A.seen∧(A.note v).stray=A.stray∧(A.note v).ix=A.ix:=by
  unfold Ab.note;split <;> exact ⟨rfl,rfl,rfl,rfl⟩
 have hZ:(if (!z1.S.viewed || decide (z1.S.vw.num.toNat≤v.num.toNat))=true then { z1 with S:={ z1.S with vw:=vwM v,va:=y,viewed:=true } } else z1).L=z1.L∧(if (!z1.S.viewed || decide (z1.S.vw.num.toNat≤v.num.toNat))=true then { z1 with S:={ z1.S with vw:=vwM v,va:=y,viewed:=true } } else z1).R=z1.R ∧
   (if (!z1.S.viewed || decide (z1.S.vw.num.toNat≤v.num.toNat))=true then { z1 with S:={ z1.S with vw:=vwM v,va:=y,viewed:=true } } else z1).S.seen=z1.S.seen∧(if (!z1.S.viewed || decide (z1.S.vw.num.toNat≤v.num.toNat))=true then { z1 with S:={ z1.S with vw:=vwM v,va:=y,viewed:=true } } else z1).S.stray=z1.S.stray∧(if (!z1.S.viewed || decide (z1.S.vw.num.toNat≤v.num.toNat))=true then { z1 with S:={ z1.S with vw:=vwM v,va:=y,viewed:=true } } else z1).S.hurt=z1.S.hurt:=by
  split <;> exact ⟨rfl,rfl,rfl,rfl,rfl⟩
 generalize hzz:(if (!z1.S.viewed || decide (z1.S.vw.num.toNat≤v.num.toNat))=true then { z1 with S:={ z1.S with vw:=vwM v,va:=y,viewed:=true } } else z1)=zz at hrz hZ ⊢
 obtain ⟨a1,a2,a3,a4⟩:=hA
 obtain ⟨b1,b2,b3,b4,b5⟩:=hZ
 refine ⟨rfl,by rw [b1];exact g5.trans g10,hrz,by rw [b3,a2,hS1];exact g4.seen.trans h.seen,fun ky=>by rw [b4,a3,hS1,g4.stray];exact h.stray ky,by rw [a3];exact h.strk,by rw [b5,hS1,g4.hurt];exact h.hurt,by rw [a4,a1];exact h.live,by rw [a4,a1];exact h.ep,by rw [a1,a2];exact h.ls,by rw [a1];exact h.l0,by rw [a1,a4];exact h.sum,by rw [a1,b1,hnb];exact h.lim,by rw [b1,hnb];exact h.nb4,by unfold Go.Proofs.YtpmojdippdlcaaaGreatDoor.fr at g11 ⊢;rw [b1];exact g11,?_,?_⟩
 ·unfold Ab.note
  split
  ·intro _
   show vwM (vwM v)=vwM v
   unfold vwM
   simp only [Ars]
   grind
  ·exact h.vwm
 ·unfold Ab.note
  grind
end
end
section
open Go.K
theorem Alx {c:Chip} {a:Nat} {e:Int} (ha:c.aC=a) (hb:2≤c.blocks.length∧c.blocks.length≤1000) (ho:Di c=(e,ts0)) (he:e≠0):Does Tryz.prog 129 [ptr a] (chH c) (Is (.tuple #[.pointer none,.int .i64 e]) (chH c++[])):=by
 subst ha
 refine (Abn hb).mono fun v H h=> ?_
 unfold Wk at h
 rw [ho,A6u he] at h
 exact h
theorem Aq0 {a:Nat} {v:Value} {e:Int} (he:e≠0):Does Tryz.prog 130 [ptr a,v,.int .i64 e] [] (Is (.tuple #[.pointer none,.int .i64 e]) []):=by
 refine zF 15 Tryz.func130 ?_
 refine zC ?_
 refine Aa rfl (fun c9=> ?_) (fun c9=> ?_)
 ·skip
  refine zC ?_
  exact zS
 ·skip
  exact absurd (by grind) he
theorem Aly {c:Chip} {a:Nat} {e:Int} (ha:c.aC=a) (hb:2≤c.blocks.length∧c.blocks.length≤1000) (ho:Di c=(e,ts0)) (he:e≠0):Does Tryz.prog 83 [ptr a] (chH c) (Is (.tuple #[.pointer none,.int .i64 e]) (chH c++[])):=by
 refine zF 17 Tryz.func83 ?_
 refine zC ?_
 refine zI rfl (Alx ha hb ho he) ?_
 refine zC ?_
 refine zI rfl (Aq0 (a:=a) (v:= .pointer none) he) ?_
 refine zC ?_
 exact zS
def sgN (d:Dsk) (st lg ib pb sb bb:Nat) (bs:List LB):Sg:=⟨J5 st lg ib pb sb,⟨lg,bb,bs.length,-1,bs,d⟩,fun _=>[]⟩
def q0 (m:Nat):Qt:=⟨0,O6 (He m []) ((m:Int) - 6) m⟩
structure Laid11 (m:Nat) (z:Sg):Prop where
 wi:WI m 2000 (q0 m) z
 nb:z.L.nb+6=m
 sto:∃ st lg ib pb sb,z.S=J5 st lg ib pb sb
 none:∀ x p,¬ RecAt z x p
 free:Bv z.L.bs z.L.nb=z.L.nb
 af:z.L.d.c.after<0
theorem Laid.lz {m:Nat} {d:Dsk} {bs:List LB} {V:Nat→Blk} (h:Laid m d bs V):LZ m bs.length 2000 (q0 m) d bs (-1) V fun _=>[]:=by
 have hat:∀ j<bs.length,∃ w,bAt bs j=I2 w∧(V j).next=1∧A0 (V j) 0=Hh w:=fun j hj=>⟨_,h.blk j hj⟩
 have hs:∀ j<bs.length,(bAt bs j).seq.toNat=0:=fun j hj=>by obtain ⟨w,h1,_⟩:=hat j hj;rw [h1];rfl
 refine ⟨h.len,h.dv,h.acc,rfl,fun j hj=> ?_,.inl ⟨rfl,hs⟩,fun j hj=>by rw [hs j hj];omega,fun i hi j hj _ h0=>absurd (hs i hi) h0⟩
 obtain ⟨w,h1,h2,h3⟩:=hat j hj
 refine .inl ⟨⟨hs j hj,fun _=>⟨h2,by rw [h1];rfl,by rw [h1];exact h3⟩,?_⟩,rfl⟩
 have hbi:BI (V j):=(h.dv.blk (l:=j) (by have:=h.len;omega)).1
 unfold Qo
 rw [hbi.pg (by omega) (by rw [h2];decide)]
 exact Pa
theorem Laid.l11 {m:Nat} {d:Dsk} {bs:List LB} {V:Nat→Blk} (h:Laid m d bs V) (st lg ib pb sb bb:Nat):Laid11 m (sgN d st lg ib pb sb bb bs):=by
 refine ⟨⟨rfl,V,h.lz⟩,h.len,⟨st,lg,ib,pb,sb,rfl⟩,fun x p ⟨b,j,_,_,h3⟩=>(by cases h3),?_,h.af⟩
 show Bv bs bs.length=bs.length
 have:∀ k,k≤bs.length→Bv bs k=k:=fun k=>by
  induction k with
  | zero=>exact fun _=>rfl
  | succ k ih =>
   intro hk
   obtain ⟨h1,_⟩:=h.blk k (by omega)
   rw [Ga,ih (by omega),h1]
   rfl
 grind
theorem Agz {pp aC aB m:Nat} (hm:16≤m∧m≤40):Does Tryz.prog 49 [ptr aC] (chH (Ds (-1) 0 pp aC aB m []))
  (fun v H=>∃ z:Sg,v= .tuple #[ptr z.S.st,.int .i64 0]∧H=(z.S.st,true,C (stC z.S) tSt)::(z.S.ib,true,z.S.idx.obj .i64)::(z.S.pb,true,z.S.pend.obj .i64)::(z.S.sb,true,z.S.stray.obj .i64)::(lgH z.L++[])∧Laid11 m z):=by
 have hX:=Axw hm
 have hlen:(Ds (-1) 0 pp aC aB m []).blocks.length=m:=H4
 refine Kf (n:=32) Tryz.func49 Tryz.ntmps49 rfl (A25 rfl)<|An<|Ad fun ops=>oA rfl<|oA rfl<|Ag<|n_K<|An<|Ad fun ops=>oM rfl ?_
 refine Ir rfl (Aly (c:=Ds (-1) 0 pp aC aB m []) (a:=aC) (e:=35) rfl (by rw [hlen];omega) (Adf (by omega)) (by decide)) sP rfl aQ ?_
 refine oM rfl<|oE rfl rfl<|oE rfl rfl<|oA rfl<|oA rfl<|Ag<|n_K<|An<|An<|Ad fun ops=>oM rfl<|oR (Au rfl rfl rfl)<|Ag<|n_K ?_
 refine Es rfl ?_
 refine Ad fun ops=>oM rfl ?_
 refine Ch rfl (Ajr (pp:=pp) (aC:=aC) (aB:=aB) (m:=m) hm hX) sP rfl fun v16 Y16 h16=> ?_
 obtain ⟨d,rfl,rfl,hd⟩:=h16
 refine A6 aQ ?_
 refine oM rfl<|oE rfl rfl<|oE rfl rfl<|oA rfl<|oA rfl<|Ag<|n_K<|An<|An<|Ad fun ops=>oM rfl<|oR (Au rfl rfl rfl)<|Ag<|n_K ?_
 refine Ay rfl ?_
 refine Cg<|n_K<|An<|Ad fun ops=>oM rfl ?_
 refine Ch rfl (Atj (q:=q0 m) (nb:=m - 6) (d:=d) hd.dd (by omega) (A6j 3) ⟨by rw [Axk hd.pf,Axl hd.wf,hd.lost];omega,fun _=>hd.uses⟩ (by omega) hd.af) sP rfl fun v24 Y24 h24=> ?_
 obtain ⟨lg,bb,t',c',bs',V',rfl,rfl,hN⟩:=h24
 refine A6 aQ ?_
 refine oM rfl<|oE rfl rfl<|oE rfl rfl<|oA rfl<|oA rfl<|Ag<|n_K<|An<|An<|Ad fun ops=>oM rfl<|oR (Au rfl rfl rfl)<|Ag<|n_K ?_
 refine Ay rfl ?_
 refine Cg<|n_K<|An<|Ad fun ops=>oM rfl ?_
 refine Ch rfl (Zi (lg:=lg)) sP rfl fun v31 Y31 h31=> ?_
 obtain ⟨st,ib,pb,sb,rfl,rfl⟩:=h31
 refine A6 aQ ?_
 refine oA rfl<|oA rfl<|Ag<|n_K<|Im ?_
 exact Bb (Dj Tryz.results49 (Af rfl) (Af rfl)) (by exact ⟨sgN ⟨d.dk,t',c'⟩ st lg ib pb sb bb bs',rfl,by show _=(st,true,C (stC (J5 st lg ib pb sb)) tSt)::(ib,true,(Mp.nil:Mp En).obj .i64)::(pb,true,(Mp.nil:Mp En).obj .i64)::(sb,true,(Mp.nil:Mp Int).obj .i64)::(lgH ⟨lg,bb,bs'.length,-1,bs',⟨d.dk,t',c'⟩⟩++[]);rw [Dp,hN.len];first | done | simp only [A4n,A42,A5b,A34],Laid.l11 (m:=m) (V:=V') (d:=⟨d.dk,t',c'⟩) (bs:=bs') ⟨by rw [hN.len];omega,hN.dv.mono (by omega),hN.acc,by rw [(hN.fr.pos hd.af).1];exact hd.af,by rw [hN.len];exact hN.new⟩ st lg ib pb sb bb⟩) sP
theorem Zk {m:Nat} (hm:16≤m∧m≤40):Does Tryz.prog 15 [.int .i64 (m:Nat)] []
  (fun v H=>∃ z:Sg,v=ptr z.S.st∧H=(z.S.st,true,C (stC z.S) tSt)::(z.S.ib,true,z.S.idx.obj .i64)::(z.S.pb,true,z.S.pend.obj .i64)::(z.S.sb,true,z.S.stray.obj .i64)::(lgH z.L++[])∧Laid11 m z):=by
 have hok:Js (m:Int) []=true:=by unfold Js;simp;omega
 refine zF 21 Tryz.func15 ?_
 refine zC ?_
 refine zE rfl (Sy) ?_
 rintro _ _ ⟨p8,rfl,rfl⟩
 refine zW ?_
 refine zE rfl (Awx (n:=m) hok) ?_
 rintro _ _ ⟨aC,aB,rfl,rfl⟩
 refine zW ?_
 refine Ay rfl ?_
 refine zC ?_
 refine zE rfl (Agz (pp:=p8) (aC:=aC) (aB:=aB) (m:=m) hm) ?_
 rintro _ _ ⟨z,rfl,rfl,hz⟩
 refine zW ?_
 exact zL (hR:=by exact ⟨z,rfl,rfl,hz⟩)
end
section
open Go.K
instance agg191:Agg Tryz.prog 191 true:=⟨⟨_,Tryz.underlying191,rfl⟩⟩
instance siz191:Siz Tryz.prog 191 4:=⟨by kernel_rfl⟩
instance zer191:Zer Tryz.prog 191 ([.int .i64 0,.int .i64 0,.int .u64 0,.int .i64 0]):=⟨by kernel_rfl⟩
instance plc31:Plc Tryz.prog 31 [(0,1),(1,1),(2,1)]:=⟨⟨_,Tryz.underlying31,fun _=>by kernel_rfl⟩⟩
instance plc191:Plc Tryz.prog 191 [(0,3),(3,1)]:=⟨⟨_,Tryz.underlying191,fun _=>by kernel_rfl⟩⟩
theorem Aq1 {s:Sl By} {T:TypeId} (hs:s.list.length=17):Does Tryz.prog 150 [s.val] (s.hp T++[]) (Is (.tuple #[.agg (vwC (Awa s.list)).toArray,.bool true]) (s.hp T++[])):=by
 have hsm:s.list.length≤70000000000000:=by omega
 refine zF 24 Tryz.func150 ?_
 refine zC ?_
 refine Ah rfl (fun b2=> ?_)
 refine zC ?_
 refine zE rfl (Fj (s:=s) (T:=T) hsm) ?_
 rintro _ _ ⟨r,rfl,rfl,hr1,hr2⟩
 refine zW ?_
 refine Ch rfl (Fk (r:=r) (n:=8) (by rw [hr1];exact hsm)) sP rfl (fun v8 Y8 h8=> ?_)
 obtain ⟨x1,sl1,bad1,rfl,rfl,hx1,hl1,hb1⟩:=h8
 rw [hr1,show A8 8 8=8 from rfl] at hx1 hl1 hb1
 unfold C2 at hx1 hl1 hb1
 rw [A6u (by omega)] at hx1 hl1 hb1
 simp only at hx1 hl1 hb1
 refine A6 aQ ?_
 refine zC ?_
 refine Ch rfl (Fk (r:=⟨r.b,sl1,bad1⟩) (n:=1) (by grind)) sP rfl (fun v10 Y10 h10=> ?_)
 obtain ⟨x2,sl2,bad2,rfl,rfl,hx2,hl2,hb2⟩:=h10
 simp only at hx2 hl2 hb2
 rw [hl1,show A8 1 8=1 from rfl] at hx2 hl2 hb2
 unfold C2 at hx2 hl2 hb2
 rw [A6u (by rw [A4r];omega)] at hx2 hl2 hb2
 simp only [A5k] at hx2 hl2 hb2
 have hv1:=Aiv (s.list.drop 8)
 rw [← hx2] at hv1
 refine A6 aQ ?_
 refine Ae (show Rd _ _ _ _ (.int .i64 (x2.toNat:Int)) from Gf (C0 (by omega)) rfl) rfl ?_
 refine zC ?_
 refine Ch rfl (Fk (r:=⟨r.b,sl2,bad2⟩) (n:=8) (by grind)) sP rfl (fun v13 Y13 h13=> ?_)
 obtain ⟨x3,sl3,bad3,rfl,rfl,hx3,hl3,hb3⟩:=h13
 simp only at hx3 hl3 hb3
 rw [hl2,show A8 8 8=8 from rfl] at hx3 hl3 hb3
 unfold C2 at hx3 hl3 hb3
 rw [A6u (by rw [A4r];omega)] at hx3 hl3 hb3
 simp only [A5k] at hx3 hl3 hb3
 have hb:bad3=false:=(by rw [hb3,hb2,hb1,hr2])
 have hl0:sl3.list.length=0:=(by rw [hl3,A4r];omega)
 refine A6 aQ ?_
 refine zC ?_
 refine G5 [1] [[(0,false),(2,true),(3,false),(4,false),(5,false),(6,true),(7,false),(8,false),(9,true)],[(10,false)]] (by kernel_rfl) ?_
 refine zC ?_
 refine zI rfl (Aik (r:=⟨r.b,sl3,bad3⟩)) ?_
 refine zA ?_
 refine Aj (D5 rfl) ?_
 refine sa ?_
 refine' Fe rfl rfl inferInstance rfl rfl rfl rfl rfl (fun hg19=> ?_) ?_
 rotate_left
 ·try (simp at hg19;show _)
  refine zC ?_
  refine zI rfl (Tv (r:=⟨r.b,sl3,bad3⟩)) ?_
  refine zC ?_
  exact D9 rfl sP
 refine zC ?_
 refine Ak (Dj Tryz.results150 (Bc rfl mM rfl) (Af rfl)) ?_ sP
 unfold Awa;rw [← hx1,← hx2,← hx3,hb,hl0];rfl
structure Fd where
 en:En
 key:Int
def fdC (f:Fd):List Value:=[.int .i64 f.en.at'.1,.int .i64 f.en.at'.2,wv f.en.ep,.int .i64 f.key]
instance:Cel Fd:=⟨4,fdC,fun _=>rfl,fun _=>rfl⟩
abbrev tFd:TypeId:=191
def fd0:Fd:=⟨A03,0⟩
def tkS (S:Sto) (x:Pl2):Rc→Sto
 | .nd _ e _=>{ S with seen:=Jj S.seen e }
 | .cm c=>if decide ((c.ep.toNat:Int)≥(S.last.ep.toNat:Int))=true then { S with last:=c,la:=x } else S
 | .vw v=>if (!S.viewed || decide ((v.num.toNat:Int)≥(S.vw.num.toNat:Int)))=true then { S with vw:=vwM v,va:=x,viewed:=true } else S
def tkF (x:Pl2):Rc→Option Fd
 | .nd k e _=>some ⟨⟨x,e⟩,k⟩
 | _=>none
def fdO:Option Fd→Fd
 | some f=>f
 | none=>fd0
section
variable {S:Sto} {x:Pl2} {s:Sl By}
theorem Avy {k:Int} {e:Wd} {b:List By} (h:A9 k b=true) (hs:s.list=E5 k e b):Does Tryz.prog 110 [ptr S.st,.agg #[.int .i64 x.1,.int .i64 x.2],bv 10,s.val] ((S.st,true,C (stC S) tSt)::(s.hp tU8++[]))
  (Is (.tuple #[.agg (fdC ⟨⟨x,e⟩,k⟩).toArray,.bool true]) ((S.st,true,C (stC { S with seen:=Jj S.seen e }) tSt)::(s.hp tU8++[]))):=by
 obtain ⟨hn1,hn2,hn3,hn4,hn5⟩:=K5 (e:=e) h
 refine zF 107 Tryz.func110 ?_
 refine zC ?_
 refine Cy rfl rfl (fun b5=> ?_)
 refine Ah rfl (fun b8=> ?_)
 refine zC ?_
 refine Es rfl ?_
 refine zC ?_
 refine Ch rfl (Ad1 (s:=s) (T:=tU8)) sP rfl (fun v21 Y21 h21=> ?_)
 rw [hs] at h21
 obtain ⟨_,b21,rfl,rfl,hl21,ho21⟩:=h21.resolve_left (fun h9=>by rw [hn1] at h9;exact absurd h9.1 (by decide))
 rw [hn2,hn3]
 refine A6 aQ ?_
 refine zC ?_
 refine Ah rfl (fun b10=> ?_)
 refine zC ?_
 refine At [(10,[(0,false),(1,false),(2,false),(3,false),(4,false),(5,false),(6,false),(7,false),(8,false),(9,false)]),(11,[(10,true)])] (by kernel_rfl) ?_
 refine zA ?_
 refine Aj (show Rd _ _ _ _ (wv S.seen) from Al rfl mM (Gj (S:=S) (o:=8) rfl)) ?_
 iterate 2 refine sb ?_
 refine Aj (Pc rfl rfl) ?_
 refine zA ?_
 refine Ac (cs':=stC { S with seen:=Jj S.seen e }) rfl rfl uD rfl rfl (Ci (S:=S) rfl rfl) ?_
 refine zC ?_
 exact zS
theorem Avz {c:Cm} (hs:s.list=F8 c):Does Tryz.prog 110 [ptr S.st,.agg #[.int .i64 x.1,.int .i64 x.2],bv 11,s.val] ((S.st,true,C (stC S) tSt)::(s.hp tU8++[]))
  (Is (.tuple #[.agg (fdC fd0).toArray,.bool false]) ((S.st,true,C (stC (if decide ((c.ep.toNat:Int)≥(S.last.ep.toNat:Int))=true then { S with last:=c,la:=x } else S)) tSt)::(s.hp tU8++[]))):=by
 have hl44:s.list.length=44:=by rw [hs,Ju]
 refine zF 107 Tryz.func110 ?_
 refine zC ?_
 refine Cy rfl rfl (fun b5=> ?_)
 refine Ah rfl (fun b8=> ?_)
 refine zC ?_
 refine Ay rfl ?_
 refine zC ?_
 refine Es rfl ?_
 refine zC ?_
 refine Ch rfl (Ap3 (s:=s) (T:=tU8)) sP rfl (fun v47 Y47 h47=> ?_)
 obtain ⟨_,rfl,rfl⟩:=h47.resolve_left (fun h9=>h9.1 hl44)
 rw [hs,Sf]
 refine A6 aQ ?_
 refine zC ?_
 refine Ah rfl (fun b12=> ?_)
 rw [show ([Value.int .u64 0]++List.replicate 32 (Value.int .u8 0)++[Value.int .u32 0])=cmC cm0 from Abc]
 first | refine Ac rfl rfl uD (L7) (Bj) (Oz (by first | exact Bj | exact A20 ..)) ?_ | refine Ac rfl rfl uD rfl rfl rfl ?_
 refine zC ?_
 refine At [(12,[(0,false),(1,false),(2,false),(3,false),(4,false),(5,false),(6,false),(7,false),(8,false),(9,false),(10,false),(11,false)])] (by kernel_rfl) ?_
 refine zC ?_
 refine Aa rfl (fun c61=> ?_) (fun c61=> ?_)
 ·skip
  have h61:decide ((c.ep.toNat:Int)≥(S.last.ep.toNat:Int))=true:=c61
  refine G5 [0,1] [[(2,false),(3,false),(4,false),(5,false),(6,true)],[(7,false)],[(8,false)],[(9,true)]] (by kernel_rfl) ?_
  iterate 3 refine sa ?_
  refine Yg [(b12,true,C (cmC c) tCm),(b5,true,C [.int .i64 x.1,.int .i64 x.2] tPc)] sP ?_
  refine Aj (Ao rfl mM (by first | exact J3 | rfl)) ?_
  iterate 4 refine sb ?_
  first | refine Ac (cs':=stC { S with last:=c }) rfl rfl uD (L7) (Bj) (M4 S c) ?_ | refine Ac (cs':=stC { S with last:=c,la:=x }) rfl rfl uD rfl rfl (Ci (S:={ S with last:=c }) rfl rfl) ?_
  refine zA ?_
  first | refine Ac (cs':=stC { S with last:=c }) rfl rfl uD (L7) (Bj) (M4 S c) ?_ | refine Ac (cs':=stC { S with last:=c,la:=x }) rfl rfl uD rfl rfl (Ci (S:={ S with last:=c }) rfl rfl) ?_
  refine zC ?_
  refine Ak (Dj Tryz.results110 (Bc rfl mM rfl) (Af rfl)) ?_ (by rw [A6v h61];exact sP)
  rfl
 ·skip
  have h61:decide ((c.ep.toNat:Int)≥(S.last.ep.toNat:Int))=false:=c61
  refine zC ?_
  refine Ak (Dj Tryz.results110 (Bc rfl mM rfl) (Af rfl)) ?_ (by rw [A6u (by rw [h61];decide)];exact sP)
  rfl
theorem Av0 {v:Vw} (hs:s.list=L8 v):Does Tryz.prog 110 [ptr S.st,.agg #[.int .i64 x.1,.int .i64 x.2],bv 12,s.val] ((S.st,true,C (stC S) tSt)::(s.hp tU8++[]))
  (Is (.tuple #[.agg (fdC fd0).toArray,.bool false]) ((S.st,true,C (stC (if (!S.viewed || decide ((v.num.toNat:Int)≥(S.vw.num.toNat:Int)))=true then { S with vw:=vwM v,va:=x,viewed:=true } else S)) tSt)::(s.hp tU8++[]))):=by
 have hl17:s.list.length=17:=by rw [hs,Nm]
 refine zF 107 Tryz.func110 ?_
 refine zC ?_
 refine Cy rfl rfl (fun b5=> ?_)
 refine Ah rfl (fun b8=> ?_)
 refine zC ?_
 refine Ay rfl ?_
 refine zC ?_
 refine Ay rfl ?_
 refine zC ?_
 refine Es rfl ?_
 refine zC ?_
 refine zI rfl ((Aq1 (s:=s) (T:=tU8) hl17).to (by rw [hs,Abs]) rfl) ?_
 refine zC ?_
 refine Ah rfl (fun b14=> ?_)
 refine zC ?_
 refine At [(18,[(0,false),(1,false),(2,false),(3,false),(4,false),(5,false),(6,false),(7,false),(8,false),(9,false),(10,false),(11,false),(12,false),(13,false),(14,false),(15,false),(16,false),(17,false)])] (by kernel_rfl) ?_
 iterate 3 refine sa ?_
 refine' Fe rfl rfl inferInstance rfl rfl rfl rfl rfl (fun hg78=> ?_) ?_
 rotate_left
 ·try (simp at hg78;show _)
  refine zA ?_
  refine Aj (Al rfl mM (Gj rfl)) ?_
  refine zA ?_
  refine Aj (D5 rfl) ?_
  iterate 2 refine sa ?_
  refine' Lz rfl rfl inferInstance rfl rfl rfl rfl rfl (fun hg84=> ?_) ?_
  rotate_left
  ·try (simp at hg84;show _)
   refine zA ?_
   refine Aj (show Rd _ _ _ _ (wv v.num) from Al rfl mM rfl) ?_
   refine zA ?_
   refine Aj (show Rd _ _ _ _ (wv S.vw.num) from Al rfl mM (Gj (S:=S) (o:=2) rfl)) ?_
   refine zC ?_
   exact D9 rfl sP
  exact D9 rfl sP
 refine zC ?_
 refine Aa rfl (fun c94=> ?_) (fun c94=> ?_)
 ·skip
  have h94:(!S.viewed || decide ((v.num.toNat:Int)≥(S.vw.num.toNat:Int)))=true:=c94
  refine G5 [0,1,2] [[(3,false),(4,false),(5,false),(6,false),(7,true)],[(8,false)],[(9,false)],[(10,true)],[(11,false)],[(12,false)],[(13,true)]] (by kernel_rfl) ?_
  iterate 4 refine sa ?_
  refine Yg [(b14,true,C (vwC (vwM v)) tVw),(b5,true,C [.int .i64 x.1,.int .i64 x.2] tPc)] sP ?_
  iterate 5 refine sb ?_
  first | refine Ac (cs':=stC { S with vw:=vwM v }) rfl rfl uD rfl rfl (Ci (S:=S) (o:=2) rfl rfl) ?_ | refine Ac (cs':=stC { S with vw:=vwM v,va:=x }) rfl rfl uD rfl rfl (Ci (S:={ S with vw:=vwM v }) (o:=5) rfl rfl) ?_ | refine Ac (cs':=stC { S with vw:=vwM v,va:=x,viewed:=true }) rfl rfl uD rfl rfl (Ci (S:={ S with vw:=vwM v,va:=x }) (o:=7) rfl rfl) ?_
  refine zA ?_
  first | refine Ac (cs':=stC { S with vw:=vwM v }) rfl rfl uD rfl rfl (Ci (S:=S) (o:=2) rfl rfl) ?_ | refine Ac (cs':=stC { S with vw:=vwM v,va:=x }) rfl rfl uD rfl rfl (Ci (S:={ S with vw:=vwM v }) (o:=5) rfl rfl) ?_ | refine Ac (cs':=stC { S with vw:=vwM v,va:=x,viewed:=true }) rfl rfl uD rfl rfl (Ci (S:={ S with vw:=vwM v,va:=x }) (o:=7) rfl rfl) ?_
  refine zA ?_
  first | refine Ac (cs':=stC { S with vw:=vwM v }) rfl rfl uD rfl rfl (Ci (S:=S) (o:=2) rfl rfl) ?_ | refine Ac (cs':=stC { S with vw:=vwM v,va:=x }) rfl rfl uD rfl rfl (Ci (S:={ S with vw:=vwM v }) (o:=5) rfl rfl) ?_ | refine Ac (cs':=stC { S with vw:=vwM v,va:=x,viewed:=true }) rfl rfl uD rfl rfl (Ci (S:={ S with vw:=vwM v,va:=x }) (o:=7) rfl rfl) ?_
  refine zC ?_
  refine Ak (Dj Tryz.results110 (Bc rfl mM rfl) (Af rfl)) ?_ (by rw [A6v h94];exact sP)
  rfl
 ·skip
  have h94:(!S.viewed || decide ((v.num.toNat:Int)≥(S.vw.num.toNat:Int)))=false:=c94
  refine zC ?_
  refine Ak (Dj Tryz.results110 (Bc rfl mM rfl) (Af rfl)) ?_ (by rw [A6u (by rw [h94];decide)];exact sP)
  rfl
theorem Av1 {r:Rc} (hr:r.ok) (hs:s.list=r.body):Does Tryz.prog 110 [ptr S.st,.agg #[.int .i64 x.1,.int .i64 x.2],bv r.kind,s.val] ((S.st,true,C (stC S) tSt)::(s.hp tU8++[]))
  (Is (.tuple #[.agg (fdC (fdO (tkF x r))).toArray,.bool (tkF x r).isSome]) ((S.st,true,C (stC (tkS S x r)) tSt)::(s.hp tU8++[]))):=by
 cases r with
 | nd k e b=>exact Avy hr hs
 | cm c=>exact Avz hs
 | vw v=>exact Av0 hs
end
end
section
open Go.K
instance und189:Und Tryz.prog 189 (.slice 191):=⟨Tryz.underlying189⟩
instance fld191_0:Fld Tryz.prog 191 0 0:=⟨⟨_,_,2,Tryz.underlying191,rfl,by kernel_rfl,rfl⟩⟩
instance fld191_1:Fld Tryz.prog 191 1 3:=⟨⟨_,_,0,Tryz.underlying191,rfl,by kernel_rfl,rfl⟩⟩
instance byt191:Byt Tryz.prog 191 32:=⟨by kernel_rfl⟩
theorem Ay8 (S:Sto):nth (stC S) 37=some (uv S.last.sum):=by
 rw [Dk]
 show (ptr S.lg:: .map (some S.ib):: .map (some S.pb):: .map (some S.sb)::(cmC S.last++stT S))[33+4]? =_
 simp only [A2k]
 rw [A2e (by rw [Bj];omega),← Dk]
 exact Aiu _
def tks (rc:Pl2→Rc) (S:Sto) (xs:List Pl2):Sto:=xs.foldl (fun S x=>tkS S x (rc x)) S
def tkl (rc:Pl2→Rc) (xs:List Pl2):List Fd:=xs.filterMap fun x=>tkF x (rc x)
theorem Aef (rc:Pl2→Rc) (S:Sto) (xs:List Pl2) (x:Pl2):tks rc S (xs++[x])=tkS (tks rc S xs) x (rc x):=by unfold tks;rw [A37];rfl
theorem Aq2 (rc:Pl2→Rc) (xs:List Pl2) (x:Pl2):tkl rc (xs++[x])=tkl rc xs++(tkF x (rc x)).toList:=by
 unfold tkl
 rw [List.filterMap_append]
 cases h:tkF x (rc x) <;> simp [h]
structure SameI (S S':Sto):Prop where
 st:S'.st=S.st
 lg:S'.lg=S.lg
 ib:S'.ib=S.ib
 pb:S'.pb=S.pb
 sb:S'.sb=S.sb
 idx:S'.idx=S.idx
 pend:S'.pend=S.pend
 stray:S'.stray=S.stray
 hurt:S'.hurt=S.hurt
theorem Aq3 (S:Sto) (x:Pl2) (c:Cm):tkS S x (.cm c)=if decide ((c.ep.toNat:Int)≥(S.last.ep.toNat:Int))=true then { S with last:=c,la:=x } else S:=rfl
theorem Aq4 (S:Sto) (x:Pl2) (v:Vw):tkS S x (.vw v)=if (!S.viewed || decide ((v.num.toNat:Int)≥(S.vw.num.toNat:Int)))=true then { S with vw:=vwM v,va:=x,viewed:=true } else S:=rfl
theorem Aeg (S:Sto) (x:Pl2) (r:Rc):SameI S (tkS S x r):=by
 cases r with
 | nd k e b=>exact ⟨rfl,rfl,rfl,rfl,rfl,rfl,rfl,rfl,rfl⟩
 | cm c =>
  rw [Aq3]
  by_cases h:decide ((c.ep.toNat:Int)≥(S.last.ep.toNat:Int))=true
  ·rw [A6v h];exact ⟨rfl,rfl,rfl,rfl,rfl,rfl,rfl,rfl,rfl⟩
  ·rw [A6u h];exact ⟨rfl,rfl,rfl,rfl,rfl,rfl,rfl,rfl,rfl⟩
 | vw v =>
  rw [Aq4]
  by_cases h:(!S.viewed || decide ((v.num.toNat:Int)≥(S.vw.num.toNat:Int)))=true
  ·rw [A6v h];exact ⟨rfl,rfl,rfl,rfl,rfl,rfl,rfl,rfl,rfl⟩
  ·rw [A6u h];exact ⟨rfl,rfl,rfl,rfl,rfl,rfl,rfl,rfl,rfl⟩
theorem SameI.trans {S S' S'':Sto} (h:SameI S S') (k:SameI S' S''):SameI S S'' :=
 ⟨k.st.trans h.st,k.lg.trans h.lg,k.ib.trans h.ib,k.pb.trans h.pb,k.sb.trans h.sb,k.idx.trans h.idx,k.pend.trans h.pend,k.stray.trans h.stray,k.hurt.trans h.hurt⟩
def opf (S:Sto) (m:Mp En×Mp Int) (f:Fd):Mp En×Mp Int :=
 if decide ((f.en.ep.toNat:Int)>(S.last.ep.toNat:Int))=true then (m.1,m.2.put f.key 1)
 else if (Bg S.last.lv f.key && (!(m.1.get f.key).isSome || decide ((f.en.ep.toNat:Int)≥((R7 m.1 f.key).ep.toNat:Int))))=true then (m.1.put f.key f.en,m.2) else m
def We (S:Sto) (fs:List Fd):Mp En×Mp Int:=fs.foldl (opf S) (Mp.nil,Mp.nil)
def Aeh (rc:Pl2→Rc) (S0:Sto) (xs:List Pl2):Sto :=
 { tks rc S0 xs with idx:=(We (tks rc S0 xs) (tkl rc xs)).1,stray:=(We (tks rc S0 xs) (tkl rc xs)).2,seen:=Jj (tks rc S0 xs).seen (tks rc S0 xs).last.ep,hurt:= !decide (((Ma (We (tks rc S0 xs) (tkl rc xs)).1).toNat:Int)=((tks rc S0 xs).last.sum.toNat:Int)) || !decide (((We (tks rc S0 xs) (tkl rc xs)).1.es.length:Int)=((C7 (tks rc S0 xs).last.lv 256).length:Int)) }
theorem Aq5 {S:Sto} {m:Mp En×Mp Int} {f:Fd} (h:∀ k,(m.1.get k).isSome=true→Bg S.last.lv k=true):∀ k,((opf S m f).1.get k).isSome=true→Bg S.last.lv k=true:=fun k hk=>by
 unfold opf at hk
 split at hk
 ·exact h k hk
 split at hk
 ·rename_i hc
  simp only [A4k] at hc
  simp only at hk
  rw [Mp.get_put] at hk
  grind
 grind
theorem Aq6 {l:Lv} {m:Mp En} (h:∀ k,(m.get k).isSome=true→Bg l k=true):m.es.length≤256:=by
 rw [← Mp.keys_len]
 have:m.keys.length≤(C7 l 256).length:=Ib m.keys_nodup fun k hk=>keysL_mem.2 (h k (Mp.get_some.2 hk))
 have:=Hy l 256
 omega
def Gu (ss:List Seg):List Pl2:=ss.flatMap fun g=>g.recs.list
theorem O1 {ss:List Seg} {i:Nat} {g:Seg} (h:ss[i]? =some g):Gu (ss.take (i+1))=Gu (ss.take i)++g.recs.list:=by
 unfold Gu
 rw [A4d,h,A3j]
 simp
theorem R9 {z:Sg} {ss:List Seg} {n k:Nat} {q:Qt} {V:Nat→Blk} (hZ:LZ n z.L.nb k q z.L.d z.L.bs z.L.last V z.R) (hS:SegsOf z ss):∀ i,i≤ss.length→(Gu (ss.take i)).length≤6*i
 | 0,_=>A6j _
 | i+1,h=>by
  have ih:=R9 hZ hS i (by omega)
  have hg:ss[i]? =some ss[i]:=A2i (by omega)
  obtain ⟨b,hb,_,_,_,_,hr⟩:=hS.mem (A3b hg)
  rw [O1 hg,A3x,hr]
  have:=hZ.rlen hb
  omega
theorem Ai5 (rc:Pl2→Rc) (xs:List Pl2):(tkl rc xs).length≤xs.length:=List.length_filterMap_le _ _
theorem Wf (rc:Pl2→Rc):∀ (xs:List Pl2) (S:Sto),SameI S (tks rc S xs)
 | [],S=>⟨rfl,rfl,rfl,rfl,rfl,rfl,rfl,rfl,rfl⟩
 | x::xs,S=>(Aeg S x (rc x)).trans (Wf rc xs (tkS S x (rc x)))
section
variable {d:Dsk} {t2:TS} {n nb k:Nat} {q:Qt} {V:Nat→Blk} {sq:Nat→Wd} {R:Nat→List Pg} {rc:Pl2→Rc}
theorem A08 {S:Sto} {st ib pb sb:Nat} {p:Mp En} (h1:S.st=st) (h2:S.ib=ib) (h3:S.pb=pb) (h4:S.sb=sb) (h5:S.pend=p) (D:Hp) :
  (st,true,C (stC S) tSt)::(ib,true,S.idx.obj .i64)::(pb,true,p.obj .i64)::(sb,true,S.stray.obj .i64)::D=(S.st,true,C (stC S) tSt)::(S.ib,true,S.idx.obj .i64)::(S.pb,true,S.pend.obj .i64)::(S.sb,true,S.stray.obj .i64)::D:=by
 grind
theorem Av2 {S:Sto} {a:Nat} {x:Pl2} {s:Sl By} {r:Rc} (ha:S.st=a) (hr:r.ok) (hs:s.list=r.body):Does Tryz.prog 110 [ptr a,.agg #[.int .i64 x.1,.int .i64 x.2],bv r.kind,s.val] ((a,true,C (stC S) tSt)::(s.hp tU8++[]))
  (Is (.tuple #[.agg (fdC (fdO (tkF x r))).toArray,.bool (tkF x r).isSome]) ((a,true,C (stC (tkS S x r)) tSt)::(s.hp tU8++[]))):=by
 subst ha
 exact Av1 hr hs
theorem Aq7 (h:DD d n k V) (hnb:nb+6=n):Does Tryz.prog 109 [ptr d.dk] (dkH d)
  (fun v H=>∃ L:Lg,v= .tuple #[ptr L.lg,.int .i64 0]∧H=lgH L++[]∧L.nb=nb∧L.d=d∧L.bs=(D2 V nb).1∧L.last=(D2 V nb).2):=by
 refine (Acb h hnb).mono fun v H ⟨lg,bb,h1,h2⟩=> ?_
 refine ⟨⟨lg,bb,nb,(D2 V nb).2,(D2 V nb).1,d⟩,h1,?_,rfl,rfl,rfl,rfl⟩
 rw [h2,Dp]
 simp
theorem Aq8 (hb:2≤d.c.blocks.length∧d.c.blocks.length≤1000) (ho:Di d.c=(0,t2)) (hv:DV d.c t2 n k V) (ha:Acc q d.c t2) (hn:nb+6=n) (hC:LogC nb k V sq R) (h12:nb≤Bv (D2 V nb).1 nb+40)
  (hrc:∀ (b j:Nat) (p:Pg),b<nb→(R b)[j]? =some p→(Ef p).2.2.2=0→(rc ((b:Int),((2+j:Nat):Int))).ok∧p=(rc ((b:Int),((2+j:Nat):Int))).pg) :
  Does Tryz.prog 67 [ptr d.c.aC] (dkH d)
  (fun v H=>∃ z:Sg,v= .tuple #[ptr z.S.st,.int .i64 0]∧H=(z.S.st,true,C (stC z.S) tSt)::(z.S.ib,true,z.S.idx.obj .i64)::(z.S.pb,true,z.S.pend.obj .i64)::(z.S.sb,true,z.S.stray.obj .i64)::(lgH z.L++[])∧WI n k q z∧z.R=R∧z.L.nb=nb∧z.L.d.c=d.c∧(∀ j<nb,(bAt z.L.bs j).seq=sq j) ∧
   ∃ (ss:List Seg) (st lg ib pb sb:Nat),SegsOf z ss∧z.S=Aeh rc (J5 st lg ib pb sb) (Gu ss)):=by
 obtain ⟨hO,hOs⟩:=hC.opened
 have hn40:=hv.di.wf.n2
 refine Kf (n:=191) Tryz.func67 Tryz.ntmps67 rfl (A25 rfl)<|An<|Ad fun ops=>oA rfl<|oA rfl<|Ag<|n_K<|An<|Ad fun ops=>oM rfl ?_
 refine Ch rfl (Asz (d:=d) hb ho) sP rfl fun v25 Y25 h25=> ?_
 obtain ⟨dk,tb,rfl,rfl,htb⟩:=h25
 refine A6 aQ ?_
 refine oM rfl<|oE rfl rfl<|oE rfl rfl<|oA rfl<|oA rfl<|Ag<|n_K<|An<|An<|Ad fun ops=>oM rfl<|oR (Au rfl rfl rfl)<|Ag<|n_K ?_
 refine Ay rfl ?_
 refine Cg<|n_K<|An<|Ad fun ops=>oM rfl ?_
 refine Ch rfl (Aq7 (d:=⟨dk,tb,d.c⟩) (nb:=nb) (V:=V) (n:=n) (k:=k) (by show DV d.c tb.ts n k V;rw [htb];exact hv) hn) sP rfl fun v33 Y33 h33=> ?_
 obtain ⟨L,rfl,rfl,hLn,hLd,hLb,hLl⟩:=h33
 refine A6 aQ ?_
 refine oM rfl<|oE rfl rfl<|oE rfl rfl<|oA rfl<|oA rfl<|Ag<|n_K<|An<|An<|Ad fun ops=>oM rfl<|oR (Au rfl rfl rfl)<|Ag<|n_K ?_
 refine Ay rfl ?_
 refine Cg<|n_K<|An<|Ad fun ops=>oM rfl ?_
 have hZ:LZ n L.nb k q L.d L.bs L.last V R:=(by rw [hLn,hLd,hLb,hLl];exact ⟨hn,by grind,by grind,hO⟩)
 have h12':L.nb≤Bv L.bs L.nb+40:=(by rw [hLn,hLb];exact h12)
 refine Ch rfl (Zi (lg:=L.lg)) sP rfl fun v40 Y40 h40=> ?_
 obtain ⟨st,ib,pb,sb,rfl,rfl⟩:=h40
 refine A6 (Y:=(st,true,C (stC (J5 st L.lg ib pb sb)) tSt)::(ib,true,(Mp.nil:Mp En).obj .i64)::(pb,true,(Mp.nil:Mp En).obj .i64)::(sb,true,(Mp.nil:Mp Int).obj .i64)::[]) aQ ?_
 refine oA rfl<|Ag<|n_K<|An<|Ad fun ops=>oA rfl<|Ag<|n_K<|An<|An<|Ad fun ops=>oM rfl ?_
 refine Ch rfl (Qp hZ h12') sP rfl fun v42 Y42 h42=> ?_
 obtain ⟨s,l0,rfl,rfl,hp0,hso,hpm,hst,hro,hln⟩:=h42
 refine A6 aQ ?_
 refine oR (H3 rfl)<|oM rfl<|Ag<|n_K<|Ct ?_
 have hSO:SegsOf ⟨J5 st L.lg ib pb sb,L,R⟩ s.list:=⟨hpm,hst⟩
 have hsn:s.list.length≤40:=(by omega)
 refine Ki (Ii (α:=Fd) (T:=tFd)) ?_
 refine Ar [6,7,42,43] kQ (fun (s1:Nat×Sto×Sl Fd)=>[(44,.int .i64 s1.1),(8,s1.2.2.val)]) (fun (s1:Nat×Sto×Sl Fd)=>(s1.2.2.hp tFd++((st,true,C (stC s1.2.1) tSt)::(ib,true,(Mp.nil:Mp En).obj .i64)::(pb,true,(Mp.nil:Mp En).obj .i64)::(sb,true,(Mp.nil:Mp Int).obj .i64)::(lgH L++(s.hp Hm++(Jh l0++[])))))) (fun (s1:Nat×Sto×Sl Fd)=>s1.1≤s.list.length∧s1.2.1=tks rc (J5 st L.lg ib pb sb) (Gu (s.list.take s1.1))∧s1.2.1.st=st∧s1.2.2.list=tkl rc (Gu (s.list.take s1.1))∧s1.2.2.isOwn=true) (fun (s1:Nat×Sto×Sl Fd)=>s.list.length - s1.1) ((0,J5 st L.lg ib pb sb,Sl.nil)) ⟨A6j _,rfl,rfl,rfl,rfl⟩ kP sP ?_
 rintro ⟨i,S,fds⟩ ⟨g0,g1,g2,g3,g4⟩
 simp only at g0 g1 g2 g3 g4
 have hfn:fds.list.length≤6*i:=(by rw [g3];exact A57 (Ai5 _ _) (R9 (z:=⟨J5 st L.lg ib pb sb,L,R⟩) hZ hSO i g0))
 refine An<|Ad fun ops=>oR (Au rfl rfl rfl)<|Ag<|n_K<|An ?_
 refine Aa rfl (fun c45=> ?_) (fun c45=> ?_)
 ·simp only [A4f,A2m] at c45
  obtain ⟨g,hg⟩:∃ g,s.list[i]? =some g:=⟨_,A2i (by omega)⟩
  have hgl:g∈l0:=hp0.mem_iff.2 (A3b hg)
  obtain ⟨bN,hbN,_,_,_,_,hrl⟩:=hSO.mem (A3b hg)
  have hr6:g.recs.list.length≤6:=(by rw [hrl];exact hZ.rlen hbN)
  refine Cg<|n_K<|An<|Ct<|An<|Ad fun ops=> ?_
  refine oR (Az (s:=s) rfl rfl (by omega)) ?_
  refine oR (Cq (s:=s) (o:=0) rfl pL hg rfl rfl) ?_
  refine Ah rfl fun b10=> ?_
  refine Ac rfl rfl uD rfl rfl rfl ?_
  refine Ag<|n_K<|An<|Ad fun ops=>oF rfl ?_
  refine oR (Al rfl mM rfl) ?_
  refine oR (H3 rfl)<|oM rfl<|Ag<|n_K<|Ct ?_
  refine Ar [6,7,42,43,44,49,50] kQ (fun (s1:Nat×Sto×Sl Fd)=>[(51,.int .i64 s1.1),(8,s1.2.2.val)]) (fun (s1:Nat×Sto×Sl Fd)=>(s1.2.2.hp tFd++((st,true,C (stC s1.2.1) tSt)::(ib,true,(Mp.nil:Mp En).obj .i64)::(pb,true,(Mp.nil:Mp En).obj .i64)::(sb,true,(Mp.nil:Mp Int).obj .i64)::(lgH L++(s.hp Hm++(Jh l0++[])))))) (fun (s1:Nat×Sto×Sl Fd)=>s1.1≤g.recs.list.length∧s1.2.1=tks rc (J5 st L.lg ib pb sb) (Gu (s.list.take i)++g.recs.list.take s1.1)∧s1.2.1.st=st∧s1.2.2.list=tkl rc (Gu (s.list.take i)++g.recs.list.take s1.1)∧s1.2.2.isOwn=true) (fun (s1:Nat×Sto×Sl Fd)=>g.recs.list.length - s1.1) ((0,S,fds)) ⟨A6j _,by grind,g2,by grind,g4⟩ kP sP ?_
  rintro ⟨j,S,fd⟩ ⟨k0,k1,k2,k3,k4⟩
  simp only at k0 k1 k2 k3 k4
  have hfd:fd.list.length≤300:=(by rw [k3];refine A57 (Ai5 _ _) ?_;rw [A3x,A4s];have:=R9 (z:=⟨J5 st L.lg ib pb sb,L,R⟩) hZ hSO i g0;omega)
  refine An<|Ad fun ops=>oR (Au rfl rfl rfl)<|Ag<|n_K<|An ?_
  refine Aa rfl (fun c52=> ?_) (fun c52=> ?_)
  ·simp only [A4f,A2m] at c52
   obtain ⟨x,hgx⟩:∃ x,g.recs.list[j]? =some x:=⟨_,A2i (by omega)⟩
   obtain ⟨jN,p,hpj,hgp,hx⟩:=recZ_mem.1 (by have:=A3b hgx;rw [hrl] at this;exact this)
   obtain ⟨hrok,hpe⟩:=hrc bN jN p (by rw [← hLn];exact hbN) hpj hgp
   rw [← hx] at hrok hpe
   have htk:g.recs.list.take (j+1)=g.recs.list.take j++[x]:=(by rw [A4d,hgx];rfl)
   have hS1:tkS S x (rc x)=tks rc (J5 st L.lg ib pb sb) (Gu (s.list.take i)++g.recs.list.take (j+1)):=(by rw [htk,← A34,Aef,← k1])
   have hst1:(tkS S x (rc x)).st=st:=(Aeg S x (rc x)).st.trans k2
   have hk1:tkl rc (Gu (s.list.take i)++g.recs.list.take (j+1))=fd.list++(tkF x (rc x)).toList:=(by rw [htk,← A34,Aq2,← k3])
   refine Cg<|n_K<|An<|Ct<|An<|Ad fun ops=> ?_
   refine oR (Az (s:=g.recs) rfl rfl (by omega)) ?_
   refine oR (Yc (s:=g.recs) (o:=0) rfl (Ai2 hgl pL) hgx rfl rfl) ?_
   refine Ah rfl fun b12=> ?_
   refine Ac rfl rfl uD rfl rfl rfl ?_
   refine Ag<|n_K<|An<|Ad fun ops=>oM rfl ?_
   refine oR (Ao rfl mM rfl) ?_
   have hget:=Qq (kind:=(rc x).kind) (bd:=(rc x).body) hZ hbN (by rw [hpj,hpe];exact A6r some (Rc.pg_eq _)) (Rc.hi _) (Rc.wr hrok)
   rw [show (Value.agg #[.int .i64 (bN:Nat),.int .i64 ((2+jN:Nat):Int)])= .agg #[.int .i64 x.1,.int .i64 x.2] from by rw [hx]] at hget
   refine Ch rfl hget sP rfl fun v58 Y58 h58=> ?_
   obtain ⟨s58,rfl,rfl,hs58,ho58⟩:=h58
   refine A6 aQ ?_
   refine oM rfl<|oE rfl rfl<|oE rfl rfl<|oE rfl rfl<|oE rfl rfl<|oA rfl<|oA rfl<|oA rfl<|oA rfl<|Ag<|n_K<|An<|An ?_
   refine H8 [(2,65)] rfl fun ops y=> ?_
   refine oM rfl<|oR (Au rfl rfl rfl)<|oM rfl ?_
   refine' Afx (j:=2) (k:=2) y rfl rfl rfl rfl rfl rfl rfl (fun hg65=> ?_) ?_
   rotate_left
   ·try (simp at hg65;show _)
    refine o_g y rfl rfl ?_
    refine oM rfl ?_
    refine o_g y rfl rfl ?_
    refine oR (Au rfl rfl rfl) ?_
    exact Ag ⟨rfl,rfl,⟨_,sP⟩⟩
   refine Ag<|n_K ?_
   refine Ay rfl ?_
   refine Cg<|n_K<|An<|Ad fun ops=>oM rfl ?_
   refine oR (Ao rfl mM rfl) ?_
   refine oM rfl<|oM rfl ?_
   refine Ir rfl (Av2 (S:=S) (a:=st) (x:=x) (r:=rc x) k2 hrok hs58) sP rfl aQ ?_
   refine oM rfl<|oE rfl rfl<|oE rfl rfl ?_
   refine Ah rfl fun b17=> ?_
   refine Ac rfl rfl uD rfl rfl rfl ?_
   refine oA rfl<|Ag<|n_K<|An<|Ad fun ops=>oM rfl<|Ag<|n_K ?_
   refine Aa rfl (fun c78=> ?_) (fun c78=> ?_)
   ·skip
    have hF:fd.list++[fdO (tkF x (rc x))]=tkl rc (Gu (s.list.take i)++g.recs.list.take (j+1)):=(by rw [hk1];revert c78;cases tkF x (rc x) <;> simp [fdO])
    refine Ad fun ops=>oM rfl ?_
    refine oR (Ao rfl mM rfl) ?_
    refine Am rfl rfl rfl rfl fun b81=> ?_
    refine A5 (s:=fd) (new:=[fdO (tkF x (rc x))]) (m:=1) rfl rfl pL k4 (Ck (r:=true) mM rfl) rfl rfl rfl rfl (by omega) rfl fun s' hs1 hs2=> ?_
    refine oA rfl<|Ag<|Eh<|n_K<|Ad fun ops=> ?_
    refine oR (B5 rfl rfl (by omega)) ?_
    refine oM rfl<|Ag<|n_K ?_
    first | exact ⟨(j+1,tkS S x (rc x),s'),⟨by omega,hS1,hst1,hs1.trans hF,hs2⟩,by omega,lZ⟩ | exact ⟨(j+1,tkS S x (rc x),fd),⟨by simp only;omega,hS1,hst1,hN,k4⟩,by simp only;omega,lZ⟩
   ·skip
    have hN:fd.list=tkl rc (Gu (s.list.take i)++g.recs.list.take (j+1)):=(by rw [hk1];simp_all)
    refine Cg<|Eh<|n_K<|Ad fun ops=> ?_
    refine oR (B5 rfl rfl (by omega)) ?_
    refine oM rfl<|Ag<|n_K ?_
    first | exact ⟨(j+1,tkS S x (rc x),s'),⟨by simp only;omega,hS1,hst1,hs1.trans hF,hs2⟩,by simp only;omega,lZ⟩ | exact ⟨(j+1,tkS S x (rc x),fd),⟨by omega,hS1,hst1,hN,k4⟩,by omega,lZ⟩
  ·simp only [A4f,A2m] at c52
   have hj:j=g.recs.list.length:=(by omega)
   subst hj
   rw [A4u] at k1 k3
   refine Jy<|x_K<|x_K<|N4<|Eh<|n_K<|Ad fun ops=> ?_
   refine oR (B5 rfl rfl (by omega)) ?_
   refine oM rfl<|Ag<|n_K ?_
   exact ⟨(i+1,S,fd),⟨by omega,by rw [O1 hg];exact k1,k2,by rw [O1 hg];exact k3,k4⟩,(by omega),lZ⟩
 ·simp only [A4f,A2m] at c45
  have hi:i=s.list.length:=(by omega)
  subst hi
  rw [A4u] at g1 g3
  have hsm:=Wf rc (Gu s.list) (J5 st L.lg ib pb sb)
  rw [← g1] at hsm
  have hib:S.ib=ib:=hsm.ib
  have hsb:S.sb=sb:=hsm.sb
  have hpb:S.pb=pb:=hsm.pb
  refine Jy<|x_K<|x_K<|N4<|n_K<|An<|An<|Ad fun ops=>oM rfl<|oR (H3 rfl)<|oM rfl<|Ag<|n_K<|Ct ?_
  have hfl:fds.list.length≤240:=(by omega)
  refine Ar [7,85,86] kQ (fun (s1:Nat×Mp En×Mp Int)=>[(87,.int .i64 s1.1)]) (fun (s1:Nat×Mp En×Mp Int)=>(fds.hp tFd++((st,true,C (stC S) tSt)::(ib,true,s1.2.1.obj .i64)::(pb,true,(Mp.nil:Mp En).obj .i64)::(sb,true,s1.2.2.obj .i64)::(lgH L++[])))) (fun (s1:Nat×Mp En×Mp Int)=>s1.1≤fds.list.length∧s1.2=(fds.list.take s1.1).foldl (opf S) (Mp.nil,Mp.nil)∧∀ k,(s1.2.1.get k).isSome=true→Bg S.last.lv k=true) (fun (s1:Nat×Mp En×Mp Int)=>fds.list.length - s1.1) ((0,Mp.nil,Mp.nil)) ⟨A6j _,rfl,fun k hk=>nomatch hk⟩ kP sP ?_
  rintro ⟨i,mi,ms⟩ ⟨l0',l1,l2⟩
  simp only at l0' l1 l2
  refine An<|Ad fun ops=>oR (Au rfl rfl rfl)<|Ag<|n_K<|An ?_
  refine Aa rfl (fun c88=> ?_) (fun c88=> ?_)
  ·simp only [A4f,A2m] at c88
   obtain ⟨f,hf⟩:∃ f,fds.list[i]? =some f:=⟨_,A2i (by omega)⟩
   have hst3:(fds.list.take (i+1)).foldl (opf S) (Mp.nil,Mp.nil)=opf S (mi,ms) f:=(by rw [Id hf,← l1])
   have hlv:=Aq5 (S:=S) (m:=(mi,ms)) (f:=f) l2
   refine Cg<|n_K<|An<|Ct<|An<|Ad fun ops=> ?_
   refine oR (Az (s:=fds) rfl rfl (by omega)) ?_
   refine oR (Cq (s:=fds) (o:=0) rfl pL hf rfl rfl) ?_
   refine Ah rfl fun b20=> ?_
   refine Ac rfl rfl uD rfl rfl rfl ?_
   refine Ag<|n_K<|An ?_
   refine Ahw [] [0,1,2,4] [[(3,false),(5,false),(6,false),(7,false),(8,false),(9,false),(10,true),(11,true)],[(12,false)]] (by kernel_rfl) rfl rfl fun ops w0 H0 y=> ?_
   unfold Att
   refine xM rfl<|xN rfl<|xF rfl<|xF rfl<|Av<|Dq ?_
   refine xR (show Rd _ _ _ _ (.map (some ib)) from by rw [← hib];exact Al rfl mM rfl) ?_
   refine xR (Al rfl mM rfl) ?_
   refine xR (Aee rfl rfl mM) ?_
   refine xM rfl<|xE rfl rfl<|xE rfl rfl<|B7 ?_
   refine Ah rfl fun b21=> ?_
   refine Ag ⟨rfl,⟨_,sP⟩,?_⟩
   refine B7 ?_
   refine Ac rfl rfl uD rfl rfl rfl ?_
   refine Ag ⟨rfl,⟨_,sP⟩,?_⟩
   refine Av<|Dq<|xA rfl<|Av<|Jq<|n_K<|Ct<|An ?_
   refine Ja [] [(10,[(0,false),(1,false),(2,false),(3,false),(4,false),(5,false),(6,false),(7,false),(8,false),(9,false)])] (by kernel_rfl) rfl fun ops w0 H0 y=> ?_
   refine Dq<|xF rfl<|xF rfl ?_
   refine xR (show Rd _ _ _ _ (wv f.en.ep) from Al rfl mM rfl) ?_
   refine xM rfl<|xN rfl<|xF rfl<|xF rfl ?_
   refine xR (Al rfl mM rfl) ?_
   refine xR (Au rfl rfl rfl)<|xA rfl<|Av<|Jq<|n_K ?_
   refine Aa rfl (fun c101=> ?_) (fun c101=> ?_)
   ·skip
    have hO1:(mi,ms.put f.key 1)=(fds.list.take (i+1)).foldl (opf S) (Mp.nil,Mp.nil):=(by rw [hst3];unfold opf;rw [A6v c101])
    refine Ja [] [(6,[(0,false),(1,false),(2,false),(3,false),(4,false),(5,false)]),(7,[(6,true)])] (by kernel_rfl) rfl fun ops w0 H0 y=> ?_
    refine Dq<|xM rfl<|xN rfl<|xF rfl ?_
    refine xR (show Rd _ _ _ _ (.map (some sb)) from by rw [← hsb];exact Al rfl mM rfl) ?_
    refine xF rfl ?_
    refine xR (Al rfl mM rfl) ?_
    refine Av<|G6<|B7 ?_
    refine Ya (m:=ms) (v:=(1:Int)) (kd:= .i64) rfl rfl rfl uD ?_
    refine Ag ⟨rfl,⟨_,sP⟩,?_⟩
    refine Av<|Jq<|Eh<|Eh<|n_K<|Ad fun ops=> ?_
    refine oR (B5 rfl rfl (by omega)) ?_
    refine oM rfl<|Ag<|n_K ?_
    first | exact ⟨(i+1,mi,ms.put f.key 1),⟨by omega,hO1,by rw [← hst3,← hO1] at hlv;exact hlv⟩,by omega,lZ⟩ | exact ⟨(i+1,mi.put f.key f.en,ms),⟨by simp only;omega,hO2,by rw [← hst3,← hO2] at hlv;exact hlv⟩,by simp only;omega,lZ⟩ | exact ⟨(i+1,mi,ms),⟨by simp only;omega,hO3,l2⟩,by simp only;omega,lZ⟩
   ·skip
    refine An ?_
    refine Ja [(8,126),(11,129)] [(7,[(0,false),(1,false),(2,false),(3,false),(4,false),(5,false),(6,false)]),(8,[(7,true)]),(21,[(8,false),(9,false),(10,false),(11,false),(12,false),(13,false),(14,false),(15,false),(16,false),(17,false),(18,false),(19,false),(20,false)])] (by kernel_rfl) rfl fun ops w0 H0 y=> ?_
    refine Dq<|xM rfl<|xN rfl<|xF rfl<|xF rfl ?_
    refine xR (Ao rfl mM (Aiw S)) ?_
    refine xF rfl ?_
    refine xR (Al rfl mM rfl) ?_
    refine Av<|G6<|B7 ?_
    refine Ir rfl (Vz) sP rfl aQ ?_
    refine Ag ⟨rfl,⟨_,sP⟩,?_⟩
    refine Av<|Dq<|xM rfl ?_
    refine' Aok (j:=8) (k:=10) y rfl rfl rfl rfl rfl rfl rfl (fun hg126=> ?_) ?_
    rotate_left
    ·try (simp at hg126;show _)
     refine x_g y rfl rfl ?_
     refine xM rfl ?_
     refine x_g y rfl rfl ?_
     refine xR (D5 rfl) ?_
     refine x_g y rfl rfl ?_
     refine xM rfl ?_
     refine' Px (j:=11) (k:=6) y rfl rfl rfl rfl rfl rfl rfl (fun hg129=> ?_) ?_
     rotate_left
     ·try (simp at hg129;show _)
      refine x_g y rfl rfl ?_
      refine xF rfl ?_
      refine x_g y rfl rfl ?_
      refine xF rfl ?_
      refine x_g y rfl rfl ?_
      refine xR (show Rd _ _ _ _ (wv f.en.ep) from Al rfl mM rfl) ?_
      refine x_g y rfl rfl ?_
      refine xF rfl ?_
      refine x_g y rfl rfl ?_
      refine xR (show Rd _ _ _ _ (wv (R7 mi f.key).ep) from Al rfl mM rfl) ?_
      refine x_g y rfl rfl ?_
      refine xR (Au rfl rfl rfl) ?_
      exact Av ⟨rfl,⟨_,sP⟩⟩
     exact Av ⟨rfl,⟨_,sP⟩⟩
    refine xA rfl<|Av<|Jq<|n_K ?_
    refine Aa rfl (fun c117=> ?_) (fun c117=> ?_)
    ·skip
     have hO2:(mi.put f.key f.en,ms)=(fds.list.take (i+1)).foldl (opf S) (Mp.nil,Mp.nil):=(by rw [hst3];unfold opf;rw [A6u (by rw [c101];decide),A6v c117])
     refine Ja [] [(8,[(0,false),(1,false),(2,false),(3,false),(4,false),(5,false),(6,false),(7,false)]),(9,[(8,true)])] (by kernel_rfl) rfl fun ops w0 H0 y=> ?_
     refine Dq<|xM rfl<|xN rfl<|xF rfl ?_
     refine xR (show Rd _ _ _ _ (.map (some ib)) from by rw [← hib];exact Al rfl mM rfl) ?_
     refine xF rfl ?_
     refine xR (Al rfl mM rfl) ?_
     refine xF rfl ?_
     refine xR (show Rd _ _ _ _ (.agg (Alh f.en).toArray) from Ao rfl mM rfl) ?_
     refine Av<|G6<|B7 ?_
     refine Ya (m:=mi) (v:=f.en) (kd:= .i64) rfl rfl rfl uD ?_
     refine Ag ⟨rfl,⟨_,sP⟩,?_⟩
     refine Av<|Jq<|Eh<|Eh<|n_K<|Ad fun ops=> ?_
     refine oR (B5 rfl rfl (by omega)) ?_
     refine oM rfl<|Ag<|n_K ?_
     first | exact ⟨(i+1,mi,ms.put f.key 1),⟨by simp only;omega,hO1,by rw [← hst3,← hO1] at hlv;exact hlv⟩,by simp only;omega,lZ⟩ | exact ⟨(i+1,mi.put f.key f.en,ms),⟨by omega,hO2,by rw [← hst3,← hO2] at hlv;exact hlv⟩,by omega,lZ⟩ | exact ⟨(i+1,mi,ms),⟨by simp only;omega,hO3,l2⟩,by simp only;omega,lZ⟩
    ·skip
     have hO3:(mi,ms)=(fds.list.take (i+1)).foldl (opf S) (Mp.nil,Mp.nil):=(by rw [hst3];unfold opf;rw [A6u (by rw [c101];decide),A6u (by rw [c117];decide)])
     refine Cg<|Eh<|Eh<|n_K<|Ad fun ops=> ?_
     refine oR (B5 rfl rfl (by omega)) ?_
     refine oM rfl<|Ag<|n_K ?_
     first | exact ⟨(i+1,mi,ms.put f.key 1),⟨by simp only;omega,hO1,by rw [← hst3,← hO1] at hlv;exact hlv⟩,by simp only;omega,lZ⟩ | exact ⟨(i+1,mi.put f.key f.en,ms),⟨by simp only;omega,hO2,by rw [← hst3,← hO2] at hlv;exact hlv⟩,by simp only;omega,lZ⟩ | exact ⟨(i+1,mi,ms),⟨by omega,hO3,l2⟩,by omega,lZ⟩
  ·simp only [A4f,A2m] at c88
   have hi:i=fds.list.length:=(by omega)
   subst hi
   rw [A4u,g3] at l1
   have hlf:=Aq6 l2
   refine Jy<|x_K<|x_K<|N4<|n_K<|An ?_
   refine Ja [] [(13,[(0,false),(1,false),(2,false),(3,false),(4,false),(5,false),(6,false),(7,false),(8,false),(9,false),(10,false),(11,false),(12,false)]),(14,[(13,true)])] (by kernel_rfl) rfl fun ops w0 H0 y=> ?_
   refine Dq<|xM rfl<|xM rfl<|xN rfl<|xF rfl ?_
   refine xR (show Rd _ _ _ _ (wv S.seen) from Al rfl mM (Gj (S:=S) (o:=8) rfl)) ?_
   refine xM rfl<|xN rfl<|xF rfl<|xF rfl ?_
   refine xR (show Rd _ _ _ _ (wv S.last.ep) from Al rfl mM rfl) ?_
   refine xR (Pc rfl rfl)<|xN rfl<|xF rfl<|Av<|G6<|B7 ?_
   refine Ac (cs':=stC { S with seen:=Jj S.seen S.last.ep }) rfl rfl uD rfl rfl (Ci (S:=S) (o:=8) rfl rfl) ?_
   refine Ag ⟨rfl,⟨_,sP⟩,?_⟩
   refine Av<|Jq<|n_K<|An ?_
   refine Ja [(13,173)] [(28,[(0,false),(1,false),(2,false),(3,false),(4,false),(5,false),(7,false),(8,false),(9,false),(10,false),(11,false),(6,true),(12,false),(13,false),(14,false),(15,false),(16,false),(17,false),(18,false),(19,false),(20,false),(21,false),(22,false),(23,false),(24,true),(25,false),(26,false),(27,false)]),(30,[(28,false),(29,false)]),(31,[(30,true)])] (by kernel_rfl) rfl fun ops w0 H0 y=> ?_
   refine Dq<|xM rfl<|xM rfl<|xM rfl<|xN rfl<|xF rfl ?_
   refine xR (show Rd _ _ _ _ (.map (some ib)) from by rw [← hib];exact Al rfl mM rfl) ?_
   refine xM rfl<|xN rfl<|xF rfl<|xF rfl ?_
   refine xR (show Rd _ _ _ _ (uv S.last.sum) from Al rfl mM (Ay8 { S with seen:=Jj S.seen S.last.ep })) ?_
   refine B7 ?_
   refine Ch rfl (Ai4 (S:=st) (b:=ib) (m:=mi) (by omega)) sP rfl fun v166 Y166 h166=> ?_
   obtain ⟨rfl,rfl⟩:=h166
   refine A6 aQ ?_
   refine Ag ⟨rfl,⟨_,sP⟩,?_⟩
   refine xR (Au rfl rfl rfl)<|xM rfl ?_
   refine' Px (j:=13) (k:=13) y rfl rfl rfl rfl rfl rfl rfl (fun hg173=> ?_) ?_
   rotate_left
   ·try (simp at hg173;show _)
    refine x_g y rfl rfl ?_
    refine xM rfl ?_
    refine x_g y rfl rfl ?_
    refine xN rfl ?_
    refine x_g y rfl rfl ?_
    refine xF rfl ?_
    refine x_g y rfl rfl ?_
    refine xR (show Rd _ _ _ _ (.map (some ib)) from by rw [← hib];exact Al rfl mM rfl) ?_
    refine x_g y rfl rfl ?_
    refine xR (An4 rfl mM) ?_
    refine x_g y rfl rfl ?_
    refine xM rfl ?_
    refine x_g y rfl rfl ?_
    refine xN rfl ?_
    refine x_g y rfl rfl ?_
    refine xF rfl ?_
    refine x_g y rfl rfl ?_
    refine xF rfl ?_
    refine x_g y rfl rfl ?_
    refine xR (Ao rfl mM (Aiw { S with seen:=Jj S.seen S.last.ep })) ?_
    refine x_g y rfl rfl ?_
    refine B7 ?_
    refine Ch rfl (Ait (l:=S.last.lv)) sP rfl fun v184 Y184 h184=> ?_
    obtain ⟨s184,rfl,rfl,hs184,ho184⟩:=h184
    refine A6 aQ ?_
    refine Ag ⟨rfl,⟨_,sP⟩,?_⟩
    refine x_g y rfl rfl ?_
    refine xR (show Rd _ _ _ _ (.int .i64 ((C7 S.last.lv 256).length:Nat)) from by rw [← hs184];exact H3 rfl) ?_
    refine x_g y rfl rfl ?_
    refine xR (Au rfl rfl rfl) ?_
    exact Av ⟨rfl,⟨_,sP⟩⟩
   refine Av<|Dq<|xN rfl<|xF rfl<|Av<|G6<|B7 ?_
   refine Ac (cs':=stC { S with seen:=Jj S.seen S.last.ep,hurt:= !decide (((Ma mi).toNat:Int)=(S.last.sum.toNat:Int)) || !decide ((mi.es.length:Int)=((C7 S.last.lv 256).length:Int)) }) rfl rfl uD rfl rfl (Ci (S:={ S with seen:=Jj S.seen S.last.ep }) (o:=9) rfl rfl) ?_
   refine Ag ⟨rfl,⟨_,sP⟩,?_⟩
   refine Av<|Jq<|n_K<|An<|Ad fun ops=>oM rfl<|oA rfl<|oA rfl<|Ag<|n_K<|Im ?_
   exact Bb (Dj Tryz.results67 (Af rfl) (Af rfl)) (by exact ⟨⟨{ S with idx:=mi,stray:=ms,seen:=Jj S.seen S.last.ep,hurt:= !decide (((Ma mi).toNat:Int)=(S.last.sum.toNat:Int)) || !decide ((mi.es.length:Int)=((C7 S.last.lv 256).length:Int)) },L,R⟩,by grind,A08 (S:={ S with idx:=mi,stray:=ms,seen:=Jj S.seen S.last.ep,hurt:= !decide (((Ma mi).toNat:Int)=(S.last.sum.toNat:Int)) || !decide ((mi.es.length:Int)=((C7 S.last.lv 256).length:Int)) }) g2 hib hpb hsb hsm.pend (lgH L++[]),⟨hsm.lg,V,hZ⟩,rfl,hLn,by grind,fun j hj=>by grind,s.list,st,L.lg,ib,pb,sb,⟨hpm,hst⟩,by unfold Aeh We;rw [← g1,← l1]⟩) sP
theorem Ag0 (hb:2≤d.c.blocks.length∧d.c.blocks.length≤1000) (ho:Di d.c=(0,t2)) (hv:DV d.c t2 n k V) (ha:Acc q d.c t2) (hn:nb+6=n) (hC:LogC nb k V sq R) (h12:nb≤Bv (D2 V nb).1 nb+40)
  (hrc:∀ (b j:Nat) (p:Pg),b<nb→(R b)[j]? =some p→(Ef p).2.2.2=0→(rc ((b:Int),((2+j:Nat):Int))).ok∧p=(rc ((b:Int),((2+j:Nat):Int))).pg) :
  Does Tryz.prog 26 [ptr d.c.aC] (dkH d)
  (fun v H=>∃ z:Sg,v=ptr z.S.st∧H=(z.S.st,true,C (stC z.S) tSt)::(z.S.ib,true,z.S.idx.obj .i64)::(z.S.pb,true,z.S.pend.obj .i64)::(z.S.sb,true,z.S.stray.obj .i64)::(lgH z.L++[])∧WI n k q z∧z.R=R∧z.L.nb=nb∧z.L.d.c=d.c∧(∀ j<nb,(bAt z.L.bs j).seq=sq j) ∧
   ∃ (ss:List Seg) (st lg ib pb sb:Nat),SegsOf z ss∧z.S=Aeh rc (J5 st lg ib pb sb) (Gu ss)):=by
 refine zF 11 Tryz.func26 ?_
 refine zC ?_
 refine zE rfl (Aq8 (d:=d) (rc:=rc) hb ho hv ha hn hC h12 hrc) ?_
 rintro _ _ ⟨z,rfl,rfl,hz⟩
 refine zW ?_
 exact zL (hR:=by exact ⟨z,rfl,rfl,hz⟩)
end
end
section
open Go.K
structure Tl (A:Ab) (z:Sg):Prop where
  la:0<A.last.ep.toNat→∃ x,RecAt z x (Rc.cm A.last).pg
  va:A.viewed=true→∃ x v,vwM v=A.vw∧RecAt z x (Rc.vw v).pg∧∀ x' v',RecAt z x' (Rc.vw v').pg→v'.num=A.vw.num→vwM v'=A.vw∨bef z x' x
  ix:∀ k e b,A.ix k=some (e,b)→A9 k b=true∧∃ x,RecAt z x (Rc.nd k e b).pg
  kd:∀ x p,RecAt z x p→(Ef p).2.2.2=0→∃ r:Rc,r.ok∧p=r.pg
  nd:∀ x k e b,A9 k b=true→RecAt z x (Rc.nd k e b).pg→e.toNat≤A.last.ep.toNat→Bg A.last.lv k=true→∃ e' b',A.ix k=some (e',b')∧e.toNat≤e'.toNat∧(e=e'→b=b')
  cm:∀ x c,RecAt z x (Rc.cm c).pg→0<c.ep.toNat∧c.ep.toNat≤A.last.ep.toNat∧(c.ep=A.last.ep→c=A.last)
  vs:∀ x v,RecAt z x (Rc.vw v).pg→A.viewed=true∧v.num.toNat≤A.vw.num.toNat
structure Sd (A:Ab) (nb:Nat):Prop where
  live:∀ k,(A.ix k).isSome=Bg A.last.lv k
  ep:∀ k e b,A.ix k=some (e,b)→e.toNat≤A.last.ep.toNat
  l0:A.last.ep.toNat=0→A.last=cm0
  sum:0<A.last.ep.toNat→A.last.sum=Wn A.last.lv A.ix
  lim:((C7 A.last.lv 256).length:Int)≤In nb
  nb4:4≤nb∧nb≤40
  vwm:A.viewed=true→vwM A.vw=A.vw
  v0:A.viewed=false→A.vw=vw0
theorem Std.sd {A:Ab} {z:Sg} (h:Std A z):Sd A z.L.nb:=⟨h.live,h.ep,h.l0,h.sum,h.lim,h.nb4,h.vwm,h.v0⟩
theorem Rz.tl {A:Ab} {P:NdM} {Q:Int→Wd→List By→Prop} {z:Sg} (h:Rz A P Q z) (hQ:∀ k e b,Q k e b→A.last.ep.toNat<e.toNat):Tl A z :=
  ⟨fun h0=>⟨_,h.la h0⟩,fun h0=>by
    obtain ⟨v,h1,h2⟩:=h.va h0
    exact ⟨_,v,h1,h2,fun x' v' h3=>(h.vs x' v' h3).2.2⟩,
   fun k e b hi=>by obtain ⟨en,_,_,h3,h4⟩:=h.ix.yes hi;grind,h.kd,
   fun x k e b h1 h2 h3 h4=>by
    rcases h.nd x k e b h1 h2 with h5 | h5
    · exact h5.2.2 h4 h3
    grind,
   h.cm,fun x v hx=>⟨(h.vs x v hx).1,(h.vs x v hx).2.1⟩⟩
theorem Tl.of {A:Ab} {z z':Sg} (h:Tl A z) (h1:z'.L.nb=z.L.nb) (h2:z'.R=z.R) (h3:∀ j<z.L.nb,(bAt z'.L.bs j).seq=(bAt z.L.bs j).seq):Tl A z':=by
  have e:∀ {x p},RecAt z' x p↔RecAt z x p:=fun {x p}=>by unfold RecAt;rw [h1,h2]
  have es:∀ {x p},RecAt z x p→sqz z' x=sqz z x:=fun ⟨b,j,hx,hb,_⟩=>by unfold sqz;rw [hx];grind
  have eb:∀ {x p x' p'},RecAt z x p→RecAt z x' p'→(bef z' x x'↔bef z x x'):=fun h h'=>by unfold bef;rw [es h,es h']
  refine ⟨fun h0=>by obtain ⟨x,hx⟩:=h.la h0;grind,fun h0=> ?_,fun k e' b hi=>by obtain ⟨a,x,hx⟩:=h.ix k e' b hi;grind,fun x p hx=>h.kd x p (e.1 hx),fun x k e' b h4 hx=>h.nd x k e' b h4 (e.1 hx),fun x c hx=>h.cm x c (e.1 hx),fun x v hx=>h.vs x v (e.1 hx)⟩
  obtain ⟨x,v,a,hx,hv⟩:=h.va h0
  grind
theorem Arx {z:Sg} {x y:Pl2} (h:bef z x y) (h':bef z y x):False:=by
  unfold bef at h h'
  rcases h with h | ⟨h1,h2⟩
  · rcases h' with h' | ⟨h1,h2⟩
    · omega
    · unfold sqz at h;rw [h1] at h;omega
  · rcases h' with h' | ⟨h3,h4⟩
    · unfold sqz at h';rw [h1] at h';omega
    · omega
structure FlatR (z:Sg) (rc:Pl2→Rc) (xs:List Pl2):Prop where
  ord:xs.Pairwise (bef z)
  rcd:∀ x∈xs,(rc x).ok∧RecAt z x (rc x).pg
  all:∀ x (r:Rc),r.ok→RecAt z x r.pg→x∈xs
theorem Aer (z:Sg) (b:Int):∀ (r:List Pg) (i:Nat),(F1 b i r).Pairwise (bef z)
  | [],i=>List.Pairwise.nil
  | p::r,i=>by
    unfold F1
    refine List.pairwise_append.2 ⟨by split <;> simp,Aer z b r (i+1),fun x hx y hy=> ?_⟩
    have h1:=(Abq b r (i+1)).2 y hy
    have h2:=If y hy
    split at hx
    · rw [A3z.1 hx]
      exact .inr ⟨by rw [h2],by omega⟩
    · cases hx
theorem Awb {n k:Nat} {q:Qt} {z:Sg} {ss:List Seg} {rc:Pl2→Rc} (hw:WI n k q z) (hs:SegsOf z ss)
    (hrc:∀ (b j:Nat) (p:Pg),b<z.L.nb→(z.R b)[j]? =some p→(Ef p).2.2.2=0→(rc ((b:Int),((2+j:Nat):Int))).ok∧p=(rc ((b:Int),((2+j:Nat):Int))).pg):FlatR z rc (Gu ss):=by
  obtain ⟨_,V,hZ⟩:=hw
  refine ⟨?_,fun x hx=> ?_,fun x r hr hx=> ?_⟩
  · unfold Gu
    refine List.pairwise_flatMap.2 ⟨fun g hg=> ?_,?_⟩
    · obtain ⟨b,_,_,_,_,_,h⟩:=hs.mem hg
      rw [h];exact Aer z b _ 2
    · refine A2f.2 fun i j hi hj hij x hx y hy=> .inl ?_
      obtain ⟨b,hb,hbs,hb1,hb2,_,hb3⟩:=hs.mem (A4p hi)
      obtain ⟨c,hc,hcs,hc1,hc2,_,hc3⟩:=hs.mem (A4p hj)
      rw [hb3] at hx
      rw [hc3] at hy
      have e1:=If x hx
      have e2:=If y hy
      unfold sqz
      rw [e1,e2,A33,A33]
      have hle:(bAt z.L.bs b).seq.toNat≤(bAt z.L.bs c).seq.toNat:=by
        have:=hs.2 i j (by omega) (by omega) (by omega)
        have ea:∀ m (hm:m<ss.length),Acg ss (m:Int)=ss[m]:=fun m hm=>by
          unfold Acg
          grind
        rw [ea i hi,ea j hj] at this
        grind
      by_cases e:b=c
      · exfalso
        subst e
        have hnd:((ss.map W0).map fun v=>v.1).Nodup:=by
          refine (hs.1.map fun v:SV=>v.1).nodup_iff.2 ?_
          have key:∀ k,((M5 z.L.bs z.R k).map fun v:SV=>v.1).Nodup∧∀ a∈(M5 z.L.bs z.R k).map fun v:SV=>v.1,a<k:=fun k=>by
            induction k with
            | zero=>exact ⟨A5o,fun a ha=>by cases ha⟩
            | succ k ih =>
              unfold M5
              rw [A48]
              grind
          grind
        rw [A51] at hnd
        have h1:=A2f.1 hnd i j (by grind) (by grind) hij
        apply h1
        simp only [List.getElem_map]
        show (ss[i]).b=(ss[j]).b
        rw [hb1,hc1]
      · have:=hZ.lv.dis b hb c hc e hbs
        omega
  · unfold Gu at hx
    obtain ⟨g,hg,hx⟩:=List.mem_flatMap.1 hx
    obtain ⟨b,hb,_,_,_,_,h3⟩:=hs.mem hg
    rw [h3] at hx
    obtain ⟨j,p,h4,h5,rfl⟩:=recZ_mem.1 hx
    obtain ⟨h6,h7⟩:=hrc b j p hb h4 h5
    exact ⟨h6,b,j,rfl,hb,by rw [← h7];exact h4⟩
  · obtain ⟨b,j,rfl,hb,hp⟩:=hx
    have hsq:(bAt z.L.bs b).seq.toNat≠0:=fun h0=>by
      rcases hZ.lv.blk b hb with ⟨_,h⟩ | u
      · rw [h] at hp;cases hp
      · exact u.cnt.seq h0
    obtain ⟨i,g,h1,_,_,h2⟩:=hs.has hb hsq
    unfold Gu
    exact List.mem_flatMap.2 ⟨g,A3b h1,by rw [h2];exact recZ_mem.2 ⟨j,_,hp,Rc.good hr,rfl⟩⟩
theorem Al5 {r:Rc} {c:Cm} (h:r.ok) (he:r.pg=(Rc.cm c).pg):r= .cm c:=by
  cases r with
  | nd k e b=>exact absurd he (E7 (r:= .nd k e b) (s:= .cm c) h trivial (by show (10:By)≠11;decide))
  | cm c'=>rw [Arr he]
  | vw v=>exact absurd he (E7 (r:= .vw v) (s:= .cm c) trivial trivial (by show (12:By)≠11;decide))
theorem Al6 {r:Rc} {v:Vw} (h:r.ok) (he:r.pg=(Rc.vw v).pg):∃ v',r= .vw v'∧vwM v'=vwM v:=by
  cases r with
  | nd k e b=>exact absurd he (E7 (r:= .nd k e b) (s:= .vw v) h trivial (by show (10:By)≠12;decide))
  | cm c=>exact absurd he (E7 (r:= .cm c) (s:= .vw v) trivial trivial (by show (11:By)≠12;decide))
  | vw v'=>exact ⟨v',rfl,Abt he⟩
theorem Al7 {r:Rc} {k:Int} {e:Wd} {b:List By} (h:r.ok) (h2:A9 k b=true) (he:r.pg=(Rc.nd k e b).pg):r= .nd k e b:=by
  cases r with
  | nd k' e' b'=>obtain ⟨rfl,rfl,rfl⟩:=Arp h h2 he;rfl
  | cm c=>exact absurd he (E7 (r:= .cm c) (s:= .nd k e b) trivial h2 (by show (11:By)≠10;decide))
  | vw v=>exact absurd he (E7 (r:= .vw v) (s:= .nd k e b) trivial h2 (by show (12:By)≠10;decide))
end
section
open Go.K
theorem Wo {α:Type} {p:List α→Prop} (h0:p []) (h1:∀ xs x,p xs→p (xs++[x])) (xs:List α):p xs:=by
 have key:∀ ys:List α,p ys.reverse:=fun ys=>by
  induction ys with
  | nil=>exact h0
  | cons y ys ih=>rw [List.reverse_cons];grind
 have:=key xs.reverse
 rwa [List.reverse_reverse] at this
structure TkI (z:Sg) (rc:Pl2→Rc) (xs:List Pl2) (S:Sto):Prop where
 cm:(S.last=cm0∧∀ x∈xs,∀ c,rc x≠.cm c)∨∃ x∈xs,rc x= .cm S.last∧S.la=x∧∀ x'∈xs,∀ c,rc x'= .cm c→c.ep.toNat≤S.last.ep.toNat
 vw:(S.viewed=false∧S.vw=vw0∧∀ x∈xs,∀ v,rc x≠.vw v)∨∃ x∈xs,∃ v,rc x= .vw v∧S.vw=vwM v∧S.va=x∧S.viewed=true∧∀ x'∈xs,∀ v',rc x'= .vw v'→v'.num.toNat≤v.num.toNat∧(v'.num=v.num→x'=x∨bef z x' x)
 lo:∀ x∈xs,∀ k e b,rc x= .nd k e b→e.toNat≤S.seen.toNat
 hi:∀ t:Nat,(∀ x∈xs,∀ k e b,rc x= .nd k e b→e.toNat≤t)→S.seen.toNat≤t
theorem Awc {z:Sg} {rc:Pl2→Rc} {st lg ib pb sb:Nat}:∀ xs:List Pl2,xs.Pairwise (bef z)→TkI z rc xs (tks rc (J5 st lg ib pb sb) xs):=by
 refine Wo (fun _=>⟨.inl ⟨rfl,fun x h=>(by cases h)⟩,.inl ⟨rfl,rfl,fun x h=>(by cases h)⟩,fun x h=>(by cases h),fun t _=>A6j t⟩) ?_
 intro xs x ih hp
 obtain ⟨hp1,_,hp2⟩:=List.pairwise_append.1 hp
 have I:=ih hp1
 have hbf:∀ a∈xs,bef z a x:=fun a ha=>hp2 a ha x (A3z.2 rfl)
 rw [Aef]
 generalize tks rc (J5 st lg ib pb sb) xs=S at I ⊢
 have hmem:∀ {y},y∈xs++[x]↔y∈xs∨y=x:=fun {y}=>by simp
 cases hr:rc x with
 | nd k e b =>
  show TkI z rc (xs++[x]) { S with seen:=Jj S.seen e }
  refine ⟨?_,?_,fun y hy k' e' b' he=> ?_,fun t ht=> ?_⟩
  ·rcases I.cm with ⟨h1,h2⟩ | ⟨x1,h1,h2,h3,h4⟩
   ·grind
   grind
  ·rcases I.vw with ⟨h1,h2,h3⟩ | ⟨x1,h1,v,h2,h3,h4,h5,h6⟩
   ·grind
   grind
  ·show e'.toNat≤(Jj S.seen e).toNat
   rw [Jf]
   rcases hmem.1 hy with h | rfl
   ·have:=I.lo y h k' e' b' he;omega
   grind
  ·show (Jj S.seen e).toNat≤t
   rw [Jf]
   have h1:=I.hi t fun y hy=>ht y (hmem.2 (.inl hy))
   have h2:=ht x (hmem.2 (.inr rfl)) k e b hr
   omega
 | cm c =>
  have hlo:∀ y∈xs++[x],∀ k e b,rc y= .nd k e b→y∈xs:=fun y hy k e b he=>by
   grind
  have hvw:∀ S':Sto,S'.vw=S.vw→S'.viewed=S.viewed→S'.va=S.va→(S'.viewed=false∧S'.vw=vw0∧∀ y∈xs++[x],∀ v,rc y≠.vw v)∨∃ x1∈xs++[x],∃ v,rc x1= .vw v∧S'.vw=vwM v∧S'.va=x1∧S'.viewed=true∧∀ x'∈xs++[x],∀ v',rc x'= .vw v'→v'.num.toNat≤v.num.toNat∧(v'.num=v.num→x'=x1∨bef z x' x1):=fun S' e1 e2 e3=>by
   rw [e1,e2,e3]
   rcases I.vw with ⟨h1,h2,h3⟩ | ⟨x1,h1,v,h2,h3,h4,h5,h6⟩
   ·grind
   grind
  rw [Aq3]
  by_cases hc:decide ((c.ep.toNat:Int)≥(S.last.ep.toNat:Int))=true
  ·rw [A6v hc]
   simp only [A4f] at hc
   refine ⟨.inr ⟨x,hmem.2 (.inr rfl),hr,rfl,fun y hy c' hc'=> ?_⟩,hvw _ rfl rfl rfl,fun y hy k e b he=>I.lo y (hlo y hy k e b he) k e b he,fun t ht=>I.hi t fun y hy=>ht y (hmem.2 (.inl hy))⟩
   show c'.ep.toNat≤c.ep.toNat
   rcases hmem.1 hy with h | rfl
   ·rcases I.cm with ⟨_,h2⟩ | ⟨x1,h1,h2,h3,h4⟩
    ·grind
    grind
   grind
  ·rw [A6u hc]
   simp only [A4f] at hc
   refine ⟨.inr ?_,hvw _ rfl rfl rfl,fun y hy k e b he=>I.lo y (hlo y hy k e b he) k e b he,fun t ht=>I.hi t fun y hy=>ht y (hmem.2 (.inl hy))⟩
   rcases I.cm with ⟨h1,_⟩ | ⟨x1,h1,h2,h3,h4⟩
   ·rw [h1] at hc
    exact absurd (show (c.ep.toNat:Int)≥((0:Wd).toNat:Int) by grind) hc
   grind
 | vw v =>
  have hlo:∀ y∈xs++[x],∀ k e b,rc y= .nd k e b→y∈xs:=fun y hy k e b he=>by
   grind
  have hcm:∀ S':Sto,S'.last=S.last→S'.la=S.la→(S'.last=cm0∧∀ y∈xs++[x],∀ c,rc y≠.cm c)∨∃ x1∈xs++[x],rc x1= .cm S'.last∧S'.la=x1∧∀ x'∈xs++[x],∀ c,rc x'= .cm c→c.ep.toNat≤S'.last.ep.toNat:=fun S' e1 e2=>by
   rw [e1,e2]
   rcases I.cm with ⟨h1,h2⟩ | ⟨x1,h1,h2,h3,h4⟩
   ·grind
   grind
  rw [Aq4]
  by_cases hc:(!S.viewed || decide ((v.num.toNat:Int)≥(S.vw.num.toNat:Int)))=true
  ·rw [A6v hc]
   refine ⟨hcm _ rfl rfl,.inr ⟨x,hmem.2 (.inr rfl),v,hr,rfl,rfl,rfl,fun y hy v' hv'=> ?_⟩,fun y hy k e b he=>I.lo y (hlo y hy k e b he) k e b he,fun t ht=>I.hi t fun y hy=>ht y (hmem.2 (.inl hy))⟩
   rcases hmem.1 hy with h | rfl
   ·rcases I.vw with ⟨_,_,h3⟩ | ⟨x1,h1,w,h2,h3,h4,h5,h6⟩
    ·grind
    ·simp only [h5,A5u,A5t,A4f] at hc
     rw [h3] at hc
     have hc:(v.num.toNat:Int)≥(w.num.toNat:Int):=hc
     grind
   grind
  ·rw [A6u hc]
   refine ⟨hcm _ rfl rfl,.inr ?_,fun y hy k e b he=>I.lo y (hlo y hy k e b he) k e b he,fun t ht=>I.hi t fun y hy=>ht y (hmem.2 (.inl hy))⟩
   rcases I.vw with ⟨h1,_⟩ | ⟨x1,h1,w,h2,h3,h4,h5,h6⟩
   ·rw [h1] at hc;grind
   ·refine ⟨x1,hmem.2 (.inl h1),w,h2,h3,h4,h5,fun y hy v' hv'=> ?_⟩
    rcases hmem.1 hy with h | rfl
    ·grind
    ·rw [hr] at hv'
     cases hv'
     simp only [h5,A5u,A5t,A4f] at hc
     rw [h3] at hc
     have hc:¬ (v.num.toNat:Int)≥(w.num.toNat:Int):=hc
     grind
structure OpfI (l:Cm) (fs:List Fd) (m:Mp En×Mp Int):Prop where
 ix:∀ k en,m.1.get k=some en→Bg l.lv k=true∧⟨en,k⟩∈fs∧en.ep.toNat≤l.ep.toNat∧∀ f∈fs,f.key=k→f.en.ep.toNat≤l.ep.toNat→f.en.ep.toNat≤en.ep.toNat
 no:∀ k,m.1.get k=none→Bg l.lv k=true→∀ f∈fs,f.key=k→l.ep.toNat<f.en.ep.toNat
 st:∀ k,(m.2.get k).isSome=true↔∃ f∈fs,f.key=k∧l.ep.toNat<f.en.ep.toNat
theorem Ary {S:Sto}:∀ fs:List Fd,OpfI S.last fs (We S fs):=by
 refine Wo ⟨fun k en h=>(by cases h),fun k _ _ f h=>(by cases h),fun k=>⟨fun h=>(by cases h),fun ⟨f,h,_⟩=>(by cases h)⟩⟩ ?_
 intro fs f I
 have hst:We S (fs++[f])=opf S (We S fs) f:=by unfold We;rw [A37];rfl
 rw [hst]
 generalize We S fs=m at I ⊢
 have hmem:∀ {g},g∈fs++[f]↔g∈fs∨g=f:=fun {g}=>by simp
 unfold opf
 by_cases h1:decide ((f.en.ep.toNat:Int)>(S.last.ep.toNat:Int))=true
 ·rw [A6v h1]
  simp only [A4f] at h1
  refine ⟨fun k en hk=> ?_,fun k hk hl g hg hgk=> ?_,fun k=> ?_⟩
  ·obtain ⟨a,b,c,d⟩:=I.ix k en hk
   grind
  ·rcases hmem.1 hg with h | rfl
   ·exact I.no k hk hl g h hgk
   ·omega
  ·simp only
   rw [Mp.get_put]
   by_cases e:k=f.key
   ·rw [A6v e]
    grind
   ·rw [A6u e,I.st k]
    grind
 ·rw [A6u h1]
  simp only [A4f] at h1
  have hle:f.en.ep.toNat≤S.last.ep.toNat:=by omega
  have hst2:∀ k,(m.2.get k).isSome=true↔∃ g∈fs++[f],g.key=k∧S.last.ep.toNat<g.en.ep.toNat:=fun k=>by
   rw [I.st k]
   grind
  by_cases h2:(Bg S.last.lv f.key && (!(m.1.get f.key).isSome || decide ((f.en.ep.toNat:Int)≥((R7 m.1 f.key).ep.toNat:Int))))=true
  ·rw [A6v h2]
   simp only [A4k,A40,A32,A4f] at h2
   obtain ⟨hl,h3⟩:=h2
   refine ⟨fun k en hk=> ?_,fun k hk hl g hg hgk=> ?_,hst2⟩
   ·simp only at hk
    rw [Mp.get_put] at hk
    by_cases e:k=f.key
    ·rw [A6v e] at hk
     have:=A5i hk
     subst this
     subst e
     refine ⟨hl,hmem.2 (.inr rfl),hle,fun g hg hgk hge=> ?_⟩
     rcases hmem.1 hg with h | rfl
     ·cases hm:m.1.get f.key with
      | none=>have:=I.no _ hm hl g h hgk;omega
      | some en =>
       have h4:=(I.ix _ _ hm).2.2.2 g h hgk hge
       rcases h3 with h3 | h3
       ·rw [hm] at h3;cases h3
       ·have:R7 m.1 f.key=en:=by unfold R7;rw [hm]
        rw [this] at h3
        omega
     omega
    ·rw [A6u e] at hk
     obtain ⟨a,b,c,d⟩:=I.ix k en hk
     grind
   ·simp only at hk
    rw [Mp.get_put] at hk
    by_cases e:k=f.key
    ·rw [A6v e] at hk;cases hk
    ·rw [A6u e] at hk
     rcases hmem.1 hg with h | rfl
     ·exact I.no k hk hl g h hgk
     omega
  ·rw [A6u h2]
   refine ⟨fun k en hk=> ?_,fun k hk hl g hg hgk=> ?_,hst2⟩
   ·obtain ⟨a,b,c,d⟩:=I.ix k en hk
    refine ⟨a,hmem.2 (.inl b),c,fun g hg hgk hge=> ?_⟩
    rcases hmem.1 hg with h | rfl
    ·grind
    ·subst hgk
     have:R7 m.1 g.key=en:=by unfold R7;rw [hk]
     rw [hk,a,this] at h2
     grind
   ·rcases hmem.1 hg with h | rfl
    ·exact I.no k hk hl g h hgk
    grind
theorem tkl_mem {rc:Pl2→Rc} {xs:List Pl2} {f:Fd}:f∈tkl rc xs↔∃ b,f.en.at'∈xs∧rc f.en.at'= .nd f.key f.en.ep b:=by
 unfold tkl
 rw [List.mem_filterMap]
 constructor
 ·rintro ⟨x,h1,h2⟩
  cases hr:rc x with
  | nd k e b =>
   rw [hr] at h2
   have:=A5i h2
   grind
  | cm c=>rw [hr] at h2;cases h2
  | vw v=>rw [hr] at h2;cases h2
 ·rintro ⟨b,h1,h2⟩
  exact ⟨_,h1,by rw [h2];rfl⟩
theorem Ns:C7 lv0 256=[]:=by decide +kernel
theorem Al8 (f:NdM):Wn lv0 f=0:=by unfold Wn;rw [Ns];rfl
section
variable {A:Ab} {z:Sg} {rc:Pl2→Rc} {xs:List Pl2} {st lg ib pb sb:Nat}
theorem FlatR.cm (h:FlatR z rc xs) {x:Pl2} {c:Cm} (hx:RecAt z x (Rc.cm c).pg):x∈xs∧rc x= .cm c:=by
 have h1:=h.all x (.cm c) trivial hx
 obtain ⟨h2,h3⟩:=h.rcd x h1
 exact ⟨h1,Al5 h2 (h3.fn hx)⟩
theorem FlatR.vw (h:FlatR z rc xs) {x:Pl2} {v:Vw} (hx:RecAt z x (Rc.vw v).pg):x∈xs∧∃ v',rc x= .vw v'∧vwM v'=vwM v:=by
 have h1:=h.all x (.vw v) trivial hx
 obtain ⟨h2,h3⟩:=h.rcd x h1
 exact ⟨h1,Al6 h2 (h3.fn hx)⟩
theorem FlatR.nd (h:FlatR z rc xs) {x:Pl2} {k:Int} {e:Wd} {b:List By} (hk:A9 k b=true) (hx:RecAt z x (Rc.nd k e b).pg):x∈xs∧rc x= .nd k e b:=by
 have h1:=h.all x (.nd k e b) hk hx
 obtain ⟨h2,h3⟩:=h.rcd x h1
 exact ⟨h1,Al7 h2 hk (h3.fn hx)⟩
theorem Tl.opened (hT:Tl A z) (hd:Sd A z.L.nb) (hF:FlatR z rc xs) (hS:z.S=Aeh rc (J5 st lg ib pb sb) xs) (hfr:1≤fr z) :
  ∃ A',Std A' z∧A'.last=A.last∧A'.vw=A.vw∧A'.viewed=A.viewed∧A'.ix=A.ix ∧
   ∀ t:Nat,A.last.ep.toNat≤t→(∀ x k e b,A9 k b=true→RecAt z x (Rc.nd k e b).pg→e.toNat≤t)→A'.seen.toNat≤t:=by
 have I:=Awc (z:=z) (rc:=rc) (st:=st) (lg:=lg) (ib:=ib) (pb:=pb) (sb:=sb) xs hF.ord
 have J:=Ary (S:=tks rc (J5 st lg ib pb sb) xs) (tkl rc xs)
 have hsm:=Wf rc xs (J5 st lg ib pb sb)
 unfold Aeh at hS
 generalize tks rc (J5 st lg ib pb sb) xs=T at I J hsm hS
 generalize We T (tkl rc xs)=m at J hS
 have e1:z.S.last=T.last:=by rw [hS]
 have e2:z.S.vw=T.vw:=by rw [hS]
 have e3:z.S.viewed=T.viewed:=by rw [hS]
 have e4:z.S.la=T.la:=by rw [hS]
 have e5:z.S.va=T.va:=by rw [hS]
 have e6:z.S.idx=m.1:=by rw [hS]
 have e7:z.S.stray=m.2:=by rw [hS]
 have e8:z.S.seen=Jj T.seen T.last.ep:=by rw [hS]
 have e9:z.S.pend=Mp.nil:=by rw [hS];exact hsm.pend
 have e10:z.S.hurt=(!decide (((Ma m.1).toNat:Int)=(T.last.sum.toNat:Int)) || !decide ((m.1.es.length:Int)=((C7 T.last.lv 256).length:Int))):=by rw [hS]
 have hcmR:∀ x∈xs,∀ c,rc x= .cm c→RecAt z x (Rc.cm c).pg:=fun x hx c hc=>by have:=(hF.rcd x hx).2;rwa [hc] at this
 have hvwR:∀ x∈xs,∀ v,rc x= .vw v→RecAt z x (Rc.vw v).pg:=fun x hx v hc=>by have:=(hF.rcd x hx).2;rwa [hc] at this
 have hlast:T.last=A.last∧(0<A.last.ep.toNat→RecAt z T.la (Rc.cm A.last).pg):=by
  rcases I.cm with ⟨h1,h2⟩ | ⟨x,h1,h2,h3,h4⟩
  ·have h0:¬ 0<A.last.ep.toNat:=fun h0=>by
    obtain ⟨x,hx⟩:=hT.la h0
    obtain ⟨h5,h6⟩:=hF.cm hx
    grind
   exact ⟨by rw [h1,hd.l0 (by omega)],fun h=>absurd h h0⟩
  ·have hR:=hcmR x h1 _ h2
   obtain ⟨c1,c2,c3⟩:=hT.cm x _ hR
   obtain ⟨xA,hxA⟩:=hT.la (by omega)
   obtain ⟨h5,h6⟩:=hF.cm hxA
   have h7:=h4 xA h5 _ h6
   have h8:T.last.ep=A.last.ep:=A2u (by omega)
   have h9:=c3 h8
   grind
 obtain ⟨hl,hla⟩:=hlast
 have hview:T.viewed=A.viewed∧T.vw=A.vw∧(A.viewed=true→(∃ v,vwM v=A.vw∧RecAt z T.va (Rc.vw v).pg)∧∀ x' v',RecAt z x' (Rc.vw v').pg→v'.num=A.vw.num→vwM v'=A.vw∨bef z x' T.va):=by
  rcases I.vw with ⟨h1,h2,h3⟩ | ⟨x,h1,v,h2,h3,h4,h5,h6⟩
  ·have h0:A.viewed=false:=by
    cases hv:A.viewed with
    | false=>rfl
    | true =>
     obtain ⟨x,v,_,hx,_⟩:=hT.va hv
     obtain ⟨h5,v',h6,_⟩:=hF.vw hx
     grind
   exact ⟨by rw [h1,h0],by rw [h2,hd.v0 h0],fun h=>by rw [h0] at h;cases h⟩
  ·have hR:=hvwR x h1 _ h2
   obtain ⟨g1,g2⟩:=hT.vs x v hR
   obtain ⟨xA,vA,a1,a2,a3⟩:=hT.va g1
   obtain ⟨a4,v',a5,a6⟩:=hF.vw a2
   obtain ⟨a7,a8⟩:=h6 xA a4 v' a5
   have n1:v'.num=A.vw.num:=by
    have h9:(vwM v').num=A.vw.num:=by rw [a6,a1]
    exact h9
   have n2:v.num=A.vw.num:=A2u (by rw [n1] at a7;omega)
   have hv:vwM v=A.vw:=by
    rcases a3 x v hR n2 with h9 | h9
    ·exact h9
    ·rcases a8 (by rw [n1,n2]) with h10 | h10
     ·rw [h10] at h9;grind
     ·exact (Arx h9 h10).elim
   refine ⟨by rw [h5,g1],by rw [h3,hv],fun _=>⟨⟨v,hv,by rw [h4];exact hR⟩,fun x' v2 hx' hn=> ?_⟩⟩
   obtain ⟨b1,v3,b2,b3⟩:=hF.vw hx'
   have n3:v3.num=v2.num:=by
    have h9:(vwM v3).num=(vwM v2).num:=by rw [b3]
    exact h9
   grind
 obtain ⟨hv1,hv2,hv3⟩:=hview
 rw [hl] at J
 have hndR:∀ x∈xs,∀ k e b,rc x= .nd k e b→A9 k b=true∧RecAt z x (Rc.nd k e b).pg:=fun x hx k e b hc=>by
  obtain ⟨h1,h2⟩:=hF.rcd x hx
  rw [hc] at h1 h2
  exact ⟨h1,h2⟩
 have hix:Stands z m.1 A.ix:=fun k=>by
  cases hi:A.ix k with
  | none =>
   show m.1.get k=none
   cases hm:m.1.get k with
   | none=>rfl
   | some en =>
    have h1:=(J.ix k en hm).1
    rw [← hd.live k,hi] at h1
    cases h1
  | some r =>
   obtain ⟨e,b⟩:=r
   obtain ⟨hok,x,hx⟩:=hT.ix k e b hi
   obtain ⟨x1,x2⟩:=hF.nd hok hx
   have hlv:Bg A.last.lv k=true:=by rw [← hd.live k,hi];rfl
   have hle:=hd.ep k e b hi
   have hf:(⟨⟨x,e⟩,k⟩:Fd)∈tkl rc xs:=tkl_mem.2 ⟨b,x1,x2⟩
   cases hm:m.1.get k with
   | none=>have:=J.no k hm hlv _ hf rfl;grind
   | some en =>
    obtain ⟨_,j1,j2,j3⟩:=J.ix k en hm
    obtain ⟨b',j4,j5⟩:=tkl_mem.1 j1
    obtain ⟨j6,j7⟩:=hndR _ j4 _ _ _ j5
    have j8:=j3 _ hf rfl hle
    obtain ⟨e2,b2,j9,j10,j11⟩:=hT.nd _ _ _ _ j6 j7 j2 hlv
    have j9:A.ix k=some (e2,b2):=j9
    have j10:en.ep.toNat≤e2.toNat:=j10
    rw [hi] at j9
    have j12:=A5i j9
    simp only [A50] at j12
    obtain ⟨rfl,rfl⟩:=j12
    simp only at j8
    have j13:en.ep=e:=A2u (by omega)
    have j14:=j11 j13
    grind
 have hstray:∀ x k e b,A9 k b=true→RecAt z x (Rc.nd k e b).pg→A.last.ep.toNat<e.toNat→(m.2.get k).isSome=true:=fun x k e b h1 h2 h3=>by
  obtain ⟨h4,h5⟩:=hF.nd h1 h2
  exact (J.st k).2 ⟨⟨⟨x,e⟩,k⟩,tkl_mem.2 ⟨b,h4,h5⟩,rfl,h3⟩
 have hsum:Ma m.1=Wn A.last.lv A.ix:=Abv hix hd.live
 have hkeys:=Zo (l:=A.last.lv) fun k=>(hix.isSome k).trans (hd.live k)
 refine ⟨{ A with seen:=z.S.seen,stray:=fun k=>(z.S.stray.get k).isSome },⟨⟨e1.trans hl,e2.trans hv2,e3.trans hv1,by rw [e6];exact hix,fun k=>by show z.S.pend.get k=none;rw [e9];rfl,fun h0=>by rw [e4];exact hla h0,fun h0=>by rw [e5];grind,hT.kd,fun x k e b h1 h2=> .inl ⟨?_,fun h3=> ?_,fun h3 h4=>hT.nd x k e b h1 h2 h4 h3⟩,hT.cm,fun x v hx=>⟨(hT.vs x v hx).1,(hT.vs x v hx).2,fun hn=> ?_⟩⟩,rfl,fun _=>rfl,fun k hk=> ?_,?_,hd.live,hd.ep,?_,hd.l0,hd.sum,hd.lim,hd.nb4,hfr,hd.vwm,hd.v0⟩,rfl,rfl,rfl,rfl,fun t h1 h2=> ?_⟩
 ·show e.toNat≤z.S.seen.toNat
  obtain ⟨h4,h5⟩:=hF.nd h1 h2
  have:=I.lo x h4 k e b h5
  rw [e8,Jf]
  omega
 ·have h3:(z.S.stray.get k).isSome=false:=h3
  rw [e7] at h3
  grind
 ·show vwM v=A.vw∨bef z x z.S.va
  rw [e5]
  exact (hv3 (hT.vs x v hx).1).2 x v hx hn
 ·have hk:(z.S.stray.get k).isSome=true:=hk
  rw [e7] at hk
  obtain ⟨f,h1,rfl,_⟩:=(J.st k).1 hk
  obtain ⟨b,h3,h4⟩:=tkl_mem.1 h1
  have:=(hndR _ h3 _ _ _ h4).1
  unfold A9 at this
  grind
 ·rw [e10,hl,hsum]
  have h1:A.last.sum=Wn A.last.lv A.ix:=by
   by_cases h0:0<A.last.ep.toNat
   ·exact hd.sum h0
   ·rw [hd.l0 (by omega)];exact (Al8 _).symm
  rw [← h1]
  have h2:m.1.es.length=(C7 A.last.lv 256).length:=by
   rw [← hkeys,(Bn _).length_eq,Mp.keys_len]
  rw [h2]
  simp
 ·show A.last.ep.toNat≤z.S.seen.toNat
  rw [e8,Jf,hl]
  omega
 ·show z.S.seen.toNat≤t
  rw [e8,Jf,hl]
  have:=I.hi t fun x hx k e b hr=>by
   grind
  omega
end
end
section
open Go.K
variable {T:TypeId}
def ab0:Ab:=⟨cm0,vw0,false,0,fun _=>false,fun _=>none⟩
theorem Laid11.std {m:Nat} {z:Sg} (h:Laid11 m z) (hm:16≤m∧m≤40):Std ab0 z:=by
 obtain ⟨st,lg,ib,pb,sb,hS⟩:=h.sto
 have hlv:∀ k,Bg lv0 k=false:=fun k=>by
  cases hk:Bg lv0 k with
  | false=>rfl
  | true=>have:=keysL_mem.2 hk;rw [Ns] at this;cases this
 refine ⟨⟨by rw [hS];rfl,by rw [hS];rfl,by rw [hS];rfl,fun k=>by show z.S.idx.get k=Option.none;rw [hS];rfl,fun k=>by show z.S.pend.get k=Option.none;rw [hS];rfl,fun h0=>absurd h0 (by decide),fun h0=>(by cases h0),fun x p hx=>absurd hx (h.none x p),fun x k e b _ hx=>absurd hx (h.none x _),fun x c hx=>absurd hx (h.none x _),fun x v hx=>absurd hx (h.none x _)⟩,
  by rw [hS];rfl,fun k=>by rw [hS];rfl,fun k hk=>(by cases hk),by rw [hS];rfl,fun k=>(hlv k).symm,fun k e b hi=>(by cases hi),A6h _,fun _=>rfl,fun h0=>absurd h0 (by decide),?_,?_,?_,fun h0=>(by cases h0),fun _=>rfl⟩
 ·show ((C7 lv0 256).length:Int)≤In z.L.nb
  rw [Ns]
  unfold In
  grind
 ·have:=h.nb;omega
 ·unfold fr;rw [h.free];have:=h.nb;omega
def A1v (n k:Nat) (q:Qt) (A:Ab) (z:Sg) (ep:Wd) (cs:List Chg) (e:Int) (z':Sg):Prop :=
 WI n (k+100000000) q z'∧FrA z.L.d.c z'.L.d.c∧((Bo z ep cs=true∧e=1∧z'=z)∨(Bo z ep cs=false∧B2 z cs=true∧e=40∧z'=z)∨(Bo z ep cs=false∧B2 z cs=false∧e=0∧∃ A',ComA A ep cs A'∧Std A' z'))
section
variable {n k:Nat} {q:Qt} {A:Ab} {z:Sg}
theorem Wp (h:Std A z) (hw:WI n k q z) (hk:k≤100000000000) (hq:q.n≤3) (haf:z.L.d.c.after<0) (h13:z.L.nb≤40) {ep:Wd} {cs:Sl Chg} (hcn:cs.list.length≤300) :
  Does Tryz.prog 16 [ptr z.S.st,wv ep,cs.val] (Cz T::(z.S.st,true,C (stC z.S) tSt)::(z.S.ib,true,z.S.idx.obj .i64)::(z.S.pb,true,z.S.pend.obj .i64)::(z.S.sb,true,z.S.stray.obj .i64)::(lgH z.L++(cs.hp tCg++(cbH cs.list++[]))))
  (fun v H=>∃ (e:Int) (z':Sg),v= .int .i64 e∧H=Cz T::(z'.S.st,true,C (stC z'.S) tSt)::(z'.S.ib,true,z'.S.idx.obj .i64)::(z'.S.pb,true,z'.S.pend.obj .i64)::(z'.S.sb,true,z'.S.stray.obj .i64)::(lgH z'.L++(cs.hp tCg++(cbH cs.list++[])))∧z'.S.st=z.S.st∧A1v n k q A z ep cs.list e z'∧T0 n q z ep cs.list (Bu A.ix) e z'):=by
 refine (Zj (bi:=Bu A.ix) hw (by omega) hq hcn h.hm h.hA (fun hb=> ?_) (fun hb hf=>h.hS hw.lw (by omega) h13 hb hf) (fun hb hf=>h.hE hw.lw (by omega) h13 hb hf)).mono ?_
 ·have h1:=h.nds_len hb
  have h2:=Hy (Bw z cs.list) 256
  omega
 ·rintro v H ⟨e,z',rfl,rfl,hst,hR,hW⟩
  refine ⟨e,z',rfl,rfl,hst,?_,hR⟩
  rcases hR with ⟨h1,rfl,rfl⟩ | ⟨h1,h2,rfl,rfl⟩ | ⟨h1,h2,e1,z1,h3,h4⟩
  ·exact ⟨hW (by decide),.refl _,.inl ⟨h1,rfl,rfl⟩⟩
  ·exact ⟨hW (by decide),.refl _,.inr (.inl ⟨h1,h2,rfl,rfl⟩)⟩
  ·rcases h4 with ⟨g1,rfl,rfl⟩ | ⟨rfl,m,z2,g2,g3,rfl⟩
   ·exact absurd (h.commit (m:=Mp.nil) (z2:=z1) (e:=0) hw.lw (by omega) h1 h2 h3 (.inr haf)).1 g1
   ·obtain ⟨_,_,g4⟩:=h.commit (m:=m) (z2:=z2) (e:=e) hw.lw (by omega) h1 h2 h3 (.inr haf)
    obtain ⟨g5,g6,A',g7,g8⟩:=g4 g2 g3 (.inr haf)
    subst g5
    exact ⟨hW (by decide),g6,.inr (.inr ⟨h1,h2,rfl,A',g7,g8⟩)⟩
theorem Arz (h:Std A z) (hw:WI n k q z) (hk:k≤100000000000) (hq:q.n≤3) (haf:z.L.d.c.after<0) (h13:z.L.nb≤40) {v:Vw} :
  Does Tryz.prog 29 [ptr z.S.st,.agg (vwC v).toArray] ((z.S.st,true,C (stC z.S) tSt)::(z.S.ib,true,z.S.idx.obj .i64)::(z.S.pb,true,z.S.pend.obj .i64)::(lgH z.L++[]))
  (fun w H=>∃ (z':Sg),w= .int .i64 0∧H=(z'.S.st,true,C (stC z'.S) tSt)::(z'.S.ib,true,z'.S.idx.obj .i64)::(z'.S.pb,true,z'.S.pend.obj .i64)::(lgH z'.L++[])∧z'.S.st=z.S.st∧z'.S.sb=z.S.sb∧z'.S.stray=z.S.stray∧WI n (k+100000000) q z'∧FrA z.L.d.c z'.L.d.c∧Std (A.note v) z'):=by
 refine (Avf hw (by omega) hq (h.safe h13)).mono ?_
 rintro w H ⟨e,z',rfl,rfl,hst,hR,hW⟩
 have hs:z'.S.sb=z.S.sb∧z'.S.stray=z.S.stray:=by
  obtain ⟨y,z1,h1,rfl⟩:=hR
  split
  ·exact ⟨h1.same.sb,h1.same.stray⟩
  ·exact ⟨h1.same.sb,h1.same.stray⟩
 obtain ⟨rfl,h2,h3⟩:=h.note hw.lw (by omega) hR (.inr haf)
 exact ⟨z',rfl,rfl,hst,hs.1,hs.2,(hW (by decide)).mono (by omega),h2,h3⟩
end
open Classical in
noncomputable def Ar0 (z:Sg) (x:Pl2):Rc:=if h:∃ r:Rc,r.ok∧RecAt z x r.pg then h.choose else .cm cm0
theorem Aja {z:Sg} (hk:∀ x p,RecAt z x p→(Ef p).2.2.2=0→∃ r:Rc,r.ok∧p=r.pg) {x:Pl2} {p:Pg} (h:RecAt z x p) (hg:(Ef p).2.2.2=0):(Ar0 z x).ok∧p=(Ar0 z x).pg:=by
 obtain ⟨r,h1,rfl⟩:=hk x p h hg
 have he:∃ r:Rc,r.ok∧RecAt z x r.pg:=⟨r,h1,h⟩
 unfold Ar0
 rw [A6t he]
 exact ⟨he.choose_spec.1,h.fn he.choose_spec.2⟩
section
variable {n k:Nat} {q:Qt} {A:Ab} {z:Sg}
theorem Zp {d:Dsk} {t2:TS} {nb:Nat} {V:Nat→Blk} {sq:Nat→Wd} (hb:2≤d.c.blocks.length∧d.c.blocks.length≤1000) (ho:Di d.c=(0,t2)) (hv:DV d.c t2 n k V) (ha:Acc q d.c t2) (hn:nb+6=n) (hC:LogC nb k V sq z.R)
  (h1:z.L.nb=nb) (h2:∀ j<nb,(bAt z.L.bs j).seq=sq j) (hT:Tl A z) (hd:Sd A nb) (hf:1≤fr z) (h13:nb≤40) :
  Does Tryz.prog 26 [ptr d.c.aC] (dkH d)
  (fun v H=>∃ z':Sg,v=ptr z'.S.st∧H=(z'.S.st,true,C (stC z'.S) tSt)::(z'.S.ib,true,z'.S.idx.obj .i64)::(z'.S.pb,true,z'.S.pend.obj .i64)::(z'.S.sb,true,z'.S.stray.obj .i64)::(lgH z'.L++[])∧WI n k q z'∧z'.L.d.c=d.c∧z'.L.nb=nb∧∃ A',Std A' z'∧A'.last=A.last∧A'.vw=A.vw∧A'.viewed=A.viewed∧A'.ix=A.ix ∧
   ∀ t:Nat,A.last.ep.toNat≤t→(∀ x k e b,A9 k b=true→RecAt z x (Rc.nd k e b).pg→e.toNat≤t)→A'.seen.toNat≤t):=by
 have hO:=hC.opened.2
 have hfr:Bv (D2 V nb).1 nb=fr z:=by
  unfold fr
  rw [h1]
  exact Gm nb fun j hj=>by rw [hO j hj,h2 j hj]
 refine (Ag0 (rc:=Ar0 z) hb ho hv ha hn hC (by rw [hfr];omega) (fun b j p hb hp hg=>Aja hT.kd ⟨b,j,rfl,by rw [h1];exact hb,hp⟩ hg)).mono ?_
 rintro v H ⟨z',rfl,rfl,hW,g1,g2,g3,g4,ss,st,lg,ib,pb,sb,g5,g6⟩
 have hT':Tl A z':=hT.of (g2.trans h1.symm) g1 fun j hj=>by rw [h1] at hj;rw [g4 j hj,h2 j hj]
 have hF:FlatR z' (Ar0 z) (Gu ss):=Awb hW g5 fun b j p hb hp hg=>Aja hT.kd ⟨b,j,rfl,by rw [h1,← g2];exact hb,by rw [← g1];exact hp⟩ hg
 have hfr':fr z'=fr z:=by
  unfold fr
  rw [g2,h1]
  exact Gm nb fun j hj=>by rw [g4 j hj,h2 j hj]
 obtain ⟨A',a1,a2,a3,a4,a5,a6⟩:=hT'.opened (by rw [g2];exact hd) hF g6 (by rw [hfr'];exact hf)
 refine ⟨z',rfl,rfl,hW,g3,g2,A',a1,a2,a3,a4,a5,fun t ht hx=>a6 t ht fun x k e b hk hr=>hx x k e b hk ?_⟩
 obtain ⟨b',j,e1,e2,e3⟩:=hr
 exact ⟨b',j,e1,by rw [h1,← g2];exact e2,by rw [← g1];exact e3⟩
theorem Al9 (h:Std A z) (hw:WI n k q z) (h13:z.L.nb≤40):Does Tryz.prog 26 [ptr z.L.d.c.aC] (lgH z.L)
  (fun v H=>∃ z':Sg,v=ptr z'.S.st∧H=(z'.S.st,true,C (stC z'.S) tSt)::(z'.S.ib,true,z'.S.idx.obj .i64)::(z'.S.pb,true,z'.S.pend.obj .i64)::(z'.S.sb,true,z'.S.stray.obj .i64)::(lgH z'.L++[])∧WI n k q z'∧z'.L.d.c=z.L.d.c∧z'.L.nb=z.L.nb∧∃ A',Std A' z'∧A'.last=A.last∧A'.vw=A.vw∧A'.viewed=A.viewed∧A'.ix=A.ix ∧
   ∀ t:Nat,A.last.ep.toNat≤t→(∀ x k e b,A9 k b=true→RecAt z x (Rc.nd k e b).pg→e.toNat≤t)→A'.seen.toNat≤t):=by
 obtain ⟨V,hZ⟩:=hw.2
 obtain ⟨t2,o1,o2,o4,o3⟩:=DV.again hZ.dv
 have hlen:z.L.d.c.blocks.length=n:=DI.len (DV.di hZ.dv)
 have hwf:=(DV.di hZ.dv).wf
 have hn1:=hwf.n1
 have hn2:=hwf.n2
 have hacc:Acc q z.L.d.c t2:=by
  have:=hZ.acc
  unfold Acc at this ⊢
  rw [o2,o4]
  exact this
 rw [Dp]
 refine (Zp (d:=z.L.d) (nb:=z.L.nb) (sq:=fun j=>(bAt z.L.bs j).seq) (by omega) o1 o3 hacc hZ.num (hZ.lv.cont fun j hj=>hZ.bi hj) rfl (fun _ _=>rfl) (h.rz.tl fun _ _ _ h=>h.elim) h.sd h.fr h13).inn sP fun v Y hh=> ?_
 obtain ⟨z',rfl,rfl,hz⟩:=hh
 exact ⟨_,⟨z',rfl,rfl,hz⟩,_,_,aQ,sP⟩
end
end
section
open Go.K
def Azf (sq:Nat→Wd) (nb:Nat):List LB:=(List.range nb).map fun j=>⟨0,false,sq j,false,8⟩
theorem Awd {sq:Nat→Wd} {nb j:Nat} (h:j<nb):(bAt (Azf sq nb) j).seq=sq j:=by
 unfold bAt Azf
 grind
def Aes (z:Sg) (sq:Nat→Wd) (R:Nat→List Pg) (last:Int):Sg:=⟨z.S,{ z.L with bs:=Azf sq z.L.nb,last:=last },R⟩
structure GrwO (z zv:Sg):Prop where
 S:zv.S=z.S
 nb:zv.L.nb=z.L.nb
 old:∀ x r,RecAt z x r→RecAt zv x r
 inv:∀ x r,RecAt zv x r→(Ef r).2.2.2=0→RecAt z x r
 sq:∀ b:Nat,b<z.L.nb→(bAt z.L.bs b).seq.toNat≠0→(bAt zv.L.bs b).seq=(bAt z.L.bs b).seq
theorem Aet {k:Nat} {z zv:Sg} {p:Pg} {l:Nat} (hw:LW k z) (hl:l<z.L.nb) (h1:zv.S=z.S) (h2:zv.L.nb=z.L.nb) (h3:zv.R=upR z.R l (z.R l++[p])) (h4:∀ b<z.L.nb,b≠l→(bAt zv.L.bs b).seq=(bAt z.L.bs b).seq)
  (h5:((bAt z.L.bs l).seq.toNat≠0∧z.L.last=l∧(bAt zv.L.bs l).seq=(bAt z.L.bs l).seq)∨((bAt z.L.bs l).seq.toNat=0∧∀ b<z.L.nb,(bAt z.L.bs b).seq.toNat<(bAt zv.L.bs l).seq.toNat)) (h6:zv.L.last=l) :
  NewAt z p ((l:Int),((2+(z.R l).length:Nat):Int)) zv:=by
 have hnR:(bAt z.L.bs l).seq.toNat=0→z.R l=[]:=hw.z0 l hl
 refine ⟨h1,h2,⟨l,(z.R l).length,rfl,by rw [h2];exact hl,by rw [h3,Hz,A19 (A6h _)];simp⟩,fun x r hx=>⟨?_,?_⟩,fun x r hx=> ?_,fun b hb1 hb2 hb3=>⟨?_,?_,?_⟩,fun b hb1 hb2=> ?_,fun x r hx=> ?_⟩
 ·obtain ⟨b,j,rfl,hb1,hp⟩:=hx
  refine ⟨b,j,rfl,by rw [h2];exact hb1,?_⟩
  rw [h3]
  by_cases e:b=l
  ·subst e
   rw [Hz,A2e (List.getElem?_eq_some_iff.1 hp).1];exact hp
  ·rw [Ek e];exact hp
 ·obtain ⟨b,j,rfl,hb1,hp⟩:=hx
  grind
 ·obtain ⟨b,j,rfl,hb1,hp⟩:=hx
  rw [h2] at hb1
  rw [h3] at hp
  by_cases e:b=l
  ·subst e
   rw [Hz] at hp
   by_cases hj:j<(z.R b).length
   ·rw [A2e hj] at hp
    exact .inl ⟨b,j,rfl,hb1,hp⟩
   grind
  ·rw [Ek e] at hp
   exact .inl ⟨b,j,rfl,hb1,hp⟩
 ·grind
 ·rw [h6]
  grind
 ·rw [h3]
  refine Ek fun e=> ?_
  grind
 ·grind
 ·obtain ⟨b,j,rfl,hb1,hp⟩:=hx
  unfold Go.Proofs.YtpmojdippdlcaaaGreatDoor.bef
  by_cases e:b=l
  ·grind
  ·refine .inl ?_
   unfold sqz
   simp only [A33]
   rw [h4 b hb1 e]
   rcases h5 with ⟨h,h7,h8⟩ | ⟨h,h7⟩
   ·rw [h8]
    rcases hw.lst with ⟨q1,q2⟩ | ⟨l',q1,q2,q3,q4⟩
    ·omega
    grind
   grind
theorem GrowZ.law {k:Nat} {z:Sg} {p:Pg} {sq:Nat→Wd} {R':Nat→List Pg} (hw:LW k z) (h:GrowZ z.L.nb z.L.bs z.L.last z.R p sq R') :
  ∃ zv:Sg,zv.S=z.S∧zv.L.nb=z.L.nb∧zv.R=R'∧(∀ j<z.L.nb,(bAt zv.L.bs j).seq=sq j)∧fr z≤fr zv+1∧(GrwO z zv∨∃ y,NewAt z p y zv):=by
 have hat:∀ sq R last,∀ j<z.L.nb,(bAt (Aes z sq R last).L.bs j).seq=sq j:=fun sq R last j hj=>Awd hj
 have hfs:∀ R last,fr (Aes z (sqB z.L.bs) R last)=fr z:=fun R last=>Gm z.L.nb fun j hj=>by rw [hat _ R last j hj];exact Iff.rfl
 have hfu:∀ {to:Nat} {x:Wd} (R:Nat→List Pg) (last:Int),to<z.L.nb→(bAt z.L.bs to).seq.toNat=0→x.toNat≠0→fr (Aes z (L9 (sqB z.L.bs) to x) R last)+1=fr z:=fun {to x} R last h1 h2 h3=>by
  refine Nr h2 ?_ z.L.nb h1 fun j hj hne=> ?_
  ·rw [hat _ R last to h1];unfold L9;rw [A6v rfl];exact h3
  ·rw [hat _ R last j hj];unfold L9;rw [A6u hne];rfl
 have hsN:∀ {to:Nat},to<z.L.nb→(∀ j<z.L.nb,(bAt z.L.bs j).seq.toNat<(seqN z.L.bs z.L.last).toNat)→(seqN z.L.bs z.L.last).toNat≠0:=fun {to} h1 h2=>by
  have:=h2 to h1
  omega
 have junk:∀ {l:Nat} {x:Pg} {sq:Nat→Wd} {last:Int},Junk x→(∀ b<z.L.nb,(bAt z.L.bs b).seq.toNat≠0→sq b=(bAt z.L.bs b).seq)→GrwO z (Aes z sq (upR z.R l (z.R l++[x])) last):=fun {l x sq last} hx hq=>by
  refine ⟨rfl,rfl,fun y r hy=> ?_,fun y r hy hg=> ?_,fun b hb hs=>by rw [hat _ _ last b hb];exact hq b hb hs⟩
  ·obtain ⟨b,j,rfl,hb1,hp⟩:=hy
   refine ⟨b,j,rfl,hb1,?_⟩
   show (upR z.R l (z.R l++[x]) b)[j]? =_
   by_cases e:b=l
   ·subst e
    rw [Hz,A2e (List.getElem?_eq_some_iff.1 hp).1];exact hp
   ·rw [Ek e];exact hp
  ·obtain ⟨b,j,rfl,hb1,hp⟩:=hy
   have hp:(upR z.R l (z.R l++[x]) b)[j]? =some r:=hp
   by_cases e:b=l
   ·subst e
    rw [Hz] at hp
    by_cases hj:j<(z.R b).length
    ·rw [A2e hj] at hp
     exact ⟨b,j,rfl,hb1,hp⟩
    ·have hj2:=(List.getElem?_eq_some_iff.1 hp).1
     simp only [A3x,A21] at hj2
     have:j=(z.R b).length:=by omega
     subst this
     rw [A19 (A6h _)] at hp
     simp at hp
     subst hp
     exact absurd hg hx.get
   ·rw [Ek e] at hp
    exact ⟨b,j,rfl,hb1,hp⟩
 cases h with
 | same=>exact ⟨Aes z (sqB z.L.bs) z.R z.L.last,rfl,rfl,rfl,hat _ _ _,by rw [hfs];omega,.inl ⟨rfl,rfl,fun _ _ h=>h,fun _ _ h _=>h,fun b hb _=>hat _ _ _ b hb⟩⟩
 | @into l x g1 g2 g3 g4 g5 =>
  refine ⟨Aes z (sqB z.L.bs) (upR z.R l (z.R l++[x])) l,rfl,rfl,rfl,hat _ _ _,by rw [hfs];omega,?_⟩
  rcases g5 with rfl | g5
  ·exact .inr ⟨_,Aet hw g2 rfl rfl rfl (fun b hb _=>hat _ _ _ b hb) (.inl ⟨g3,g1,hat _ _ _ l g2⟩) rfl⟩
  ·exact .inl (junk g5 fun b _ _=>rfl)
 | @head to g1 g2 g3 g4 =>
  refine ⟨Aes z (L9 (sqB z.L.bs) to (seqN z.L.bs z.L.last)) z.R z.L.last,rfl,rfl,rfl,hat _ _ _,by rw [hfu _ _ g1 g2 (hsN g1 g4)];omega,.inl ⟨rfl,rfl,fun _ _ h=>h,fun _ _ h _=>h,fun b hb hs=> ?_⟩⟩
  rw [hat _ _ _ b hb]
  unfold L9
  rw [A6u (fun e=>hs (by rw [e];exact g2))]
  rfl
 | @fresh to x g1 g2 g3 g4 g5 =>
  have hR:upR z.R to [x]=upR z.R to (z.R to++[x]):=by rw [g3];rfl
  refine ⟨Aes z (L9 (sqB z.L.bs) to (seqN z.L.bs z.L.last)) (upR z.R to [x]) to,rfl,rfl,rfl,hat _ _ _,by rw [hfu _ _ g1 g2 (hsN g1 g4)];omega,?_⟩
  have hne:∀ b<z.L.nb,b≠to→(L9 (sqB z.L.bs) to (seqN z.L.bs z.L.last)) b=(bAt z.L.bs b).seq:=fun b _ e=>by unfold L9;rw [A6u e];rfl
  rcases g5 with rfl | g5
  ·refine .inr ⟨_,Aet hw g1 rfl rfl hR (fun b hb e=>by rw [hat _ _ _ b hb];exact hne b hb e) (.inr ⟨g2,fun b hb=> ?_⟩) rfl⟩
   rw [hat _ _ _ to g1]
   unfold L9
   rw [A6v rfl]
   exact g4 b hb
  ·rw [hR]
   exact .inl (junk g5 fun b hb hs=>hne b hb fun e=>hs (by rw [e];exact g2))
theorem AppG.down {n k:Nat} {q:Qt} {z z':Sg} {p:Pg} {y:Pl2} (hw:LW k z) (h:AppG n q z p 30 y z'):z'.S=z.S∧z'.L.lg=z.L.lg∧z'.L.nb=z.L.nb∧z'.L.d.dk=z.L.d.dk∧z'.L.d.c.off=true∧FrA z.L.d.c z'.L.d.c ∧
  ∃ (V':Nat→Blk) (zv:Sg),zv.S=z.S∧zv.L.nb=z.L.nb∧LogC z.L.nb KM V' (fun j=>(bAt zv.L.bs j).seq) zv.R∧Later z'.L.d.c n KM q.n V'∧fr z≤fr zv+1∧(GrwO z zv∨∃ y,NewAt z p y zv):=by
 obtain ⟨h1,h2,h3,h4,h5,h6⟩:=h
 obtain ⟨_,g1,g2,g3,V',sq',R',g4,g5,g6⟩:=h6.resolve_left (fun h9=>h9.1 rfl)
 obtain ⟨zv,v1,v2,v3,v4,v5,v6⟩:=g4.law hw
 refine ⟨h1,h2,h4,h5,g1,g3,V',zv,v1,v2,?_,g6,v5,v6⟩
 rw [v3]
 exact ⟨g5.bi,fun j hj=>by rw [v4 j hj];exact g5.blk j hj,fun j hj=>by rw [v4 j hj];exact g5.top j hj,fun i hi j hj hne hz=>by rw [v4 i hi] at hz ⊢;rw [v4 j hj];exact g5.dis i hi j hj hne hz⟩
theorem GrwO.ord {k:Nat} {z zv:Sg} (hw:LW k z) (h:GrwO z zv) {x x':Pl2} {r r':Pg} (hx:RecAt z x r) (hx':RecAt z x' r'):bef zv x x'↔bef z x x':=by
 have e:∀ {x r},RecAt z x r→sqz zv x=sqz z x:=fun hx=>by
  obtain ⟨b,h1,h2,h3⟩:=hx.used hw
  unfold sqz
  rw [h1,A33,h.sq b h2 h3]
 unfold bef
 rw [e hx,e hx']
theorem Rz.grw {k:Nat} {A:Ab} {P:NdM} {Q:Int→Wd→List By→Prop} {z zv:Sg} (hw:LW k z) (h:Rz A P Q z) (hg:GrwO z zv):Rz A P Q zv:=by
 have hS:=hg.S
 refine ⟨by rw [hS];exact h.last,by rw [hS];exact h.vw,by rw [hS];exact h.viewed,by rw [hS];exact h.ix.mono fun _ _ _ _ h9=>hg.old _ _ h9,by rw [hS];exact h.pd.mono fun _ _ _ _ h9=>hg.old _ _ h9,fun h0=>by rw [hS];exact hg.old _ _ (h.la h0),fun h0=> ?_,fun x p hx hp=>h.kd x p (hg.inv x p hx hp) hp,fun x k e b h1 h2=>h.nd x k e b h1 (hg.inv _ _ h2 (Rc.good (r:= .nd k e b) h1)),fun x c h1=>h.cm x c (hg.inv _ _ h1 (Rc.good (r:= .cm c) trivial)),fun x v h1=> ?_⟩
 ·obtain ⟨v,h3,h4⟩:=h.va h0
  exact ⟨v,h3,by rw [hS];exact hg.old _ _ h4⟩
 ·have h2:=hg.inv _ _ h1 (Rc.good (r:= .vw v) trivial)
  obtain ⟨g1,g2,g3⟩:=h.vs x v h2
  obtain ⟨w,_,h5⟩:=h.va g1
  rw [hS]
  exact ⟨g1,g2,fun g4=>(g3 g4).imp id fun g5=>(hg.ord hw h2 h5).2 g5⟩
theorem Tl.same {A:Ab} {z z':Sg} (h:Tl A z) (h1:z'.L=z.L) (h2:z'.R=z.R):Tl A z':=h.of (by rw [h1]) h2 fun j _=>by rw [h1]
theorem PutG.free {n:Nat} {q:Qt} {z z':Sg} {p:Pg} {e:Int} {y:Pl2} (hf:2≤fr z) (h:PutG n q z p e y z'):AppG n q z p e y z':=by
 have hr:∀ {m e z1},RoomR n q m z e z1→e=0∧z1=z:=fun h=>by
  cases h with
  | enough _=>grind
  | out=>grind
  | stop h1 _ _=>have h1:fr z≤1:=h1;omega
  | go h1 _ _=>have h1:fr z≤1:=h1;omega
 rcases h with ⟨he,h⟩ | ⟨z1,h,hA⟩
 ·grind
 grind
theorem AppG.last {n k:Nat} {q:Qt} {z z':Sg} {p:Pg} {e:Int} {y:Pl2} (hw:LW k z) (hr:0<rm z) (h:AppG n q z p e y z') (he:e≠30):e=0∧z'.L.last=z.L.last∧(q.n=0→Ace z.L.d.c z'.L.d.c):=by
 obtain ⟨h1,_,_,h4,_,h6⟩:=h
 obtain ⟨_,hA,_,h7⟩:=h6.resolve_right (fun h9=>he h9.1)
 have hfull:¬ Ad6 z.L.bs z.L.last z.R:=fun hF=>by have:=Abp hF;omega
 have key:e=0∧z'.L.last=z.L.last:=by
  generalize z'.L.last=a,z'.L.bs=b,z'.R=c,y.1=d1,y.2=d2 at hA
  cases hA with
  | into _ _ _ _ _=>omega
  | none hF _=>grind
  | fresh hF _ _ _ _ _ _=>grind
 grind
theorem WrR.slots {n:Nat} {q:Qt} {xs:List N3} {e:Int} {z z':Sg} (h:WrR n q xs z e z'):∀ {k:Nat},LW k z→k+xs.length≤390000000000→2+xs.length≤fr z→e=0→LW (k+xs.length) z'∧Go.Proofs.YtpmojdippdlcaaaGreatDoor.slots z'+xs.length=Go.Proofs.YtpmojdippdlcaaaGreatDoor.slots z∧fr z≤fr z'+xs.length∧(rm z'≤5∨xs=[])∧z'.L.nb=z.L.nb:=by
 induction h with
 | nil=>grind
 | stop _ _ he=>omega
 | @go ky ep b xs z z1 z' er y hok hp _ ih =>
  intro k hw hk hf h0
  rw [A4q] at hk hf
  have hA:=PutG.free (z:=wr1 z ky ep) (by show 2≤fr z;omega) hp
  obtain ⟨_,w1,w2,w3,w4⟩:=(AppG.ok (z:=wr1 z ky ep) (hw.of rfl rfl) (by omega) hA (by decide)).resolve_left (fun h=>absurd h.1 (by decide))
  have w2:Go.Proofs.YtpmojdippdlcaaaGreatDoor.slots z1+1=Go.Proofs.YtpmojdippdlcaaaGreatDoor.slots z:=w2
  have hf1:fr z≤fr z1+1:=by have:=Ari z;unfold Go.Proofs.YtpmojdippdlcaaaGreatDoor.slots at w2;omega
  obtain ⟨v1,v2,v3,v4,v5⟩:=ih (k:=k+1) (w1.of rfl rfl) (by omega) (by show 2+xs.length≤fr z1;omega) h0
  have v2:Go.Proofs.YtpmojdippdlcaaaGreatDoor.slots z'+xs.length=Go.Proofs.YtpmojdippdlcaaaGreatDoor.slots z1:=v2
  have v3:fr z1≤fr z'+xs.length:=v3
  have v5:z'.L.nb=z1.L.nb:=v5
  refine ⟨v1.mono (by rw [A4q];omega),by rw [A4q];omega,by rw [A4q];omega,.inl ?_,v5.trans w4.nb⟩
  rcases v4 with v4 | rfl
  ·exact v4
  ·cases ‹WrR n q [] (wr2 z1 ky ep y) er z'›
   exact w3
end
section
open Go.K
def ixN (A:Ab) (z:Sg) (ep:Wd) (cs:List Chg):NdM:=fun k=>if Bg (Bw z cs) k=true then orE (Jk noP (Bp z ep cs (Bu A.ix)) k) (A.ix k) else none
section
variable {n k:Nat} {q:Qt} {A:Ab} {z z':Sg} {ep:Wd} {cs:List Chg} {e:Int}
theorem Std.gt (h:Std A z) (hb:Bo z ep cs=false):A.seen.toNat<ep.toNat:=by
 unfold Bo Oa at hb
 simp only [A27,A3s,A4k,A4f] at hb
 rw [← h.seen]
 have:=hb.1.1
 omega
theorem Std.ixN_live (h:Std A z) (hb:Bo z ep cs=false):∀ k,(ixN A z ep cs k).isSome=Bg (Bw z cs) k:=fun k=>by
 obtain ⟨n1,n2,n3⟩:=h.nds hb
 unfold ixN
 by_cases hl:Bg (Bw z cs) k=true
 ·rw [A6v hl,hl]
  by_cases hk:k∈(Bp z ep cs (Bu A.ix)).map (·.1)
  ·obtain ⟨⟨k',e',b'⟩,hx,rfl⟩:=A53.1 hk
   rw [Hb n1 hx];rfl
  ·rw [K7 hk]
   show (A.ix k).isSome=true
   rw [h.live k]
   grind
 grind
theorem Std.fin (h:Std A z) (hb:Bo z ep cs=false) (hf:B2 z cs=false) {s:BitVec 32} (hs:s=Wn (Bw z cs) (ixN A z ep cs)) :
  Sd (A.fin (Jk noP (Bp z ep cs (Bu A.ix))) ⟨ep,Bw z cs,s⟩) z.L.nb∧ComA A ep cs (A.fin (Jk noP (Bp z ep cs (Bu A.ix))) ⟨ep,Bw z cs,s⟩):=by
 obtain ⟨n1,n2,n3⟩:=h.nds hb
 have hgt:=h.gt hb
 have hix:∀ k e b,ixN A z ep cs k=some (e,b)→e.toNat≤ep.toNat:=fun ky e b hi=>by
  unfold ixN at hi
  split at hi
  ·cases hp:Jk noP (Bp z ep cs (Bu A.ix)) ky with
   | some r =>
    obtain ⟨e2,b2⟩:=r
    rw [hp] at hi
    have hi:some (e2,b2)=some (e,b):=hi
    have:=A5i hi
    simp only [A50] at this
    rw [← this.1]
    rcases Q1 hp with hx | hx
    ·have h8:e2=ep:=(n2 _ hx).1
     rw [h8];omega
    ·cases hx
   | none =>
    rw [hp] at hi
    have:=h.ep ky e b hi
    have:=h.ls
    omega
  ·cases hi
 refine ⟨⟨h.ixN_live hb,hix,fun h0=> ?_,fun _=>hs,?_,h.nb4,h.vwm,h.v0⟩,⟨rfl,h.lv,rfl,rfl,rfl,fun _=>rfl,fun c hc hg=> ?_,fun ky hky e b hi=> ?_⟩⟩
 ·have h0:ep.toNat=0:=h0
  omega
 ·show ((C7 (Bw z cs) 256).length:Int)≤In z.L.nb
  have h9:=hf
  unfold B2 at h9
  grind
 ·show (if Bg (Bw z cs) c.key=true then orE (Jk noP (Bp z ep cs (Bu A.ix)) c.key) (A.ix c.key) else none)=_
  have hx:(c.key,ep,c.body.list)∈Bp z ep cs (Bu A.ix):=by unfold Bp;exact A22 _ (Arw hc hg)
  rw [A6v (n2 _ hx).2,Hb n1 hx]
  rfl
 ·show (if Bg (Bw z cs) ky=true then orE (Jk noP (Bp z ep cs (Bu A.ix)) ky) (A.ix ky) else none)=_
  have hl:Bg (Bw z cs) ky=true:=by
   rw [h.lv,Jv hky,← h.live ky,hi];rfl
  rw [A6v hl]
  cases hs:A.stray ky with
  | true =>
   have hx:(ky,ep,Bu A.ix ky)∈Bp z ep cs (Bu A.ix):=by
    unfold Bp Fu
    refine A29 _ (A53.2 ⟨ky,A5a.2 ⟨(Bn _).mem_iff.2 (Mp.get_some.1 (by rw [h.stray ky];exact hs)),?_⟩,rfl⟩)
    unfold Et
    rw [hl]
    grind
   rw [Hb n1 hx,A6v rfl]
   have:Bu A.ix ky=b:=by unfold Bu;rw [hi]
   rw [this]
   rfl
  | false =>
   have hx:ky∉(Bp z ep cs (Bu A.ix)).map (·.1):=fun hx=>by
    unfold Bp at hx
    rw [A48,A49] at hx
    rcases hx with hx | hx
    ·unfold Fu at hx
     rw [A51] at hx
     obtain ⟨k2,h2,e2⟩:=A53.1 hx
     have e2:k2=ky:=e2
     subst e2
     have:=Mp.get_some.2 ((Bn _).mem_iff.1 (A5a.1 h2).1)
     rw [h.stray k2,hs] at this
     cases this
    ·unfold Ep at hx
     rw [A51] at hx
     grind
   rw [K7 hx,A6u (by decide)]
   exact hi
theorem Std.again_nil (h:Std A z) (hs:∀ k,A.stray k=false) {l:Lv} {but:List Int} {bi:Int→List By}:Fu z.S l ep but bi=[]:=by
 have hk:z.S.stray.keys=[]:=by
  refine List.eq_nil_iff_forall_not_mem.2 fun k hk=> ?_
  have:=Mp.get_some.2 hk
  rw [h.stray k,hs k] at this
  cases this
 unfold Fu
 rw [hk,(Bn []).eq_nil]
 rfl
theorem Std.slots (h:Std A z) (hs:∀ k,A.stray k=false) (hw:LW k z) (hk:k≤200000000000) (hb:Bo z ep cs=false) (hfF:B2 z cs=false) (hf:4+(Ep ep cs).length≤Go.Proofs.YtpmojdippdlcaaaGreatDoor.fr z) (hl:(Ep ep cs).length≤1000)
  (hR:T0 n q z ep cs (Bu A.ix) 0 z'):Go.Proofs.YtpmojdippdlcaaaGreatDoor.slots z'+(Ep ep cs).length+1=Go.Proofs.YtpmojdippdlcaaaGreatDoor.slots z∧rm z'≤5:=by
 have hnd:Bp z ep cs (Bu A.ix)=Ep ep cs:=by unfold Bp;rw [h.again_nil hs];rfl
 rcases hR with ⟨h1,_⟩ | ⟨_,h1,_⟩ | ⟨_,_,e1,z1,hW,h3⟩
 ·rw [hb] at h1;cases h1
 ·rw [hfF] at h1;cases h1
 ·rw [hnd] at hW
  rcases h3 with ⟨h3,h4,_⟩ | ⟨rfl,m,z2,hM,hE,rfl⟩
  ·omega
  ·obtain ⟨w1,w2,w3,w4,w5⟩:=hW.slots (hw.of (z':=Gx z) rfl rfl) (by omega) (by show 2+_≤Go.Proofs.YtpmojdippdlcaaaGreatDoor.fr z;omega) rfl
   have w2:Go.Proofs.YtpmojdippdlcaaaGreatDoor.slots z1+(Ep ep cs).length=Go.Proofs.YtpmojdippdlcaaaGreatDoor.slots z:=w2
   have w3:Go.Proofs.YtpmojdippdlcaaaGreatDoor.fr z≤Go.Proofs.YtpmojdippdlcaaaGreatDoor.fr z1+(Ep ep cs).length:=w3
   obtain ⟨y,z3,hP,hZ⟩:=hE
   have hA:=PutG.free (by omega) hP
   obtain ⟨_,v1,v2,v3,v4⟩:=(AppG.ok w1 (by omega) hA (by decide)).resolve_left (fun h=>absurd h.1 (by decide))
   rcases hZ with ⟨hZ,_⟩ | ⟨_,m',_,rfl⟩
   ·omega
   ·refine ⟨?_,v3⟩
    show Go.Proofs.YtpmojdippdlcaaaGreatDoor.slots z3+_+1=_
    omega
structure Cutd (n:Nat) (q:Qt) (A:Ab) (z:Sg) (ep:Wd) (cs:List Chg) (z':Sg):Prop where
 nb:z'.L.nb=z.L.nb
 lg:z.S.lg=z.L.lg→z'.S.lg=z'.L.lg
 off:z'.L.d.c.off=true
 fra:FrA z.L.d.c z'.L.d.c
 told:∃ (A':Ab) (V':Nat→Blk) (zv:Sg),(A'=A∨ComA A ep cs A')∧Tl A' zv∧Sd A' z.L.nb∧zv.L.nb=z.L.nb∧LogC z.L.nb KM V' (fun j=>(bAt zv.L.bs j).seq) zv.R∧Later z'.L.d.c n KM q.n V'∧Go.Proofs.YtpmojdippdlcaaaGreatDoor.fr z≤Go.Proofs.YtpmojdippdlcaaaGreatDoor.fr zv+4
theorem Std.cut1 (h:Std A z) (hw:LW k z) (hk:k≤200000000000) (hq:q.n=0) (ha:z.L.d.c.after=1) (hr:2≤rm z) (hf:4≤Go.Proofs.YtpmojdippdlcaaaGreatDoor.fr z) (hb:Bo z ep cs=false) (hfF:B2 z cs=false) {x:N3} (hnd:Bp z ep cs (Bu A.ix)=[x])
  (hR:T0 n q z ep cs (Bu A.ix) e z'):e=30∧Cutd n q A z ep cs z':=by
 obtain ⟨ky,ep',b⟩:=x
 obtain ⟨n1,n2,n3⟩:=h.nds hb
 have hgt:=h.gt hb
 have hep:ep'=ep:=(n2 (ky,ep',b) (by rw [hnd];grind)).1
 subst hep
 have hrz:Rz A noP noQ (wr1 (Gx z) ky ep'):=⟨h.clr.last,h.clr.vw,h.clr.viewed,h.clr.ix.mono fun _ _ _ _ h=>h,h.clr.pd.mono fun _ _ _ _ h=>h,h.clr.la,h.clr.va,h.clr.kd,h.clr.nd,h.clr.cm,h.clr.vs⟩
 have hw1:LW k (wr1 (Gx z) ky ep'):=hw.of rfl rfl
 have hlt:A.last.ep.toNat<ep'.toNat:=by have:=h.ls;omega
 rcases hR with ⟨h1,_⟩ | ⟨_,h1,_⟩ | ⟨_,_,e1,z1,hW,h3⟩
 ·rw [hb] at h1;cases h1
 ·rw [hfF] at h1;cases h1
 rw [hnd] at hW
 cases hW with
 | @stop _ _ _ _ _ _ _ y hok hp he =>
  have hA:=PutG.free (z:=wr1 (Gx z) ky ep') (by show 2≤Go.Proofs.YtpmojdippdlcaaaGreatDoor.fr z;omega) hp
  have h30:e1=30:=by
   refine A2c fun h30=> ?_
   exact he (AppG.last (z:=wr1 (Gx z) ky ep') hw1 (by show 0<rm z;omega) hA h30).1
  subst h30
  rcases h3 with ⟨_,rfl,rfl⟩ | ⟨h3,_⟩
  ·obtain ⟨d1,d2,d3,d4,d5,d6,V',zv,d7,d8,d9,d10,d11,d12⟩:=hA.down hw1
   refine ⟨rfl,⟨d3,fun h9=>by show z1.S.lg=z1.L.lg;rw [d1,d2];exact h9,d5,d6,A,V',zv,.inl rfl,?_,h.sd,d8,d9,d10,by have d11:Go.Proofs.YtpmojdippdlcaaaGreatDoor.fr z≤Go.Proofs.YtpmojdippdlcaaaGreatDoor.fr zv+1:=d11;omega⟩⟩
   rcases d12 with d12 | ⟨y,d12⟩
   ·exact (hrz.grw hw1 d12).tl fun _ _ _ h=>h.elim
   ·exact ((hrz.write hw1 (b:=b) hok d12).tl fun k e b h=>by
     grind).same rfl rfl
  ·cases h3
 | @go _ _ _ _ _ z2 _ _ y hok hp ht =>
  cases ht with
  | nil =>
   have hA:=PutG.free (z:=wr1 (Gx z) ky ep') (by show 2≤Go.Proofs.YtpmojdippdlcaaaGreatDoor.fr z;omega) hp
   obtain ⟨_,w1,w2,w3,w4⟩:=(AppG.ok (z:=wr1 (Gx z) ky ep') hw1 (by omega) hA (by decide)).resolve_left (fun h=>absurd h.1 (by decide))
   have w2:Go.Proofs.YtpmojdippdlcaaaGreatDoor.slots z2+1=Go.Proofs.YtpmojdippdlcaaaGreatDoor.slots z:=w2
   have hrm:1≤rm z2∧Go.Proofs.YtpmojdippdlcaaaGreatDoor.fr z2=Go.Proofs.YtpmojdippdlcaaaGreatDoor.fr z:=by
    have:=Ari z
    unfold Go.Proofs.YtpmojdippdlcaaaGreatDoor.slots at w2
    omega
   obtain ⟨_,_,haft⟩:=AppG.last (z:=wr1 (Gx z) ky ep') hw1 (by show 0<rm z;omega) hA (by decide)
   have haft:z2.L.d.c.after=0:=by
    rcases haft hq with h9 | ⟨_,h9⟩
    ·have h9:z.L.d.c.after<0:=h9;omega
    ·have h9:z2.L.d.c.after=w64 (z.L.d.c.after - 1):=h9
     rw [h9,ha];rfl
   rcases h3 with ⟨h3,_⟩ | ⟨_,m,z3,hM,hE,rfl⟩
   ·omega
   have hrz2:Rz A (Jk noP (Bp z ep' cs (Bu A.ix))) (fun k e b'=>noQ k e b'∨(k,e,b')=(ky,ep',b)) (wr2 z2 ky ep' y):=by
    rw [hnd];exact hrz.write hw1 hok w4
   have hw2:LW (k+1) (wr2 z2 ky ep' y):=w1.of rfl rfl
   have hsum:Ma m=Wn (Bw z cs) (ixN A z ep' cs):=Abv (M8 hrz2 (fun _ _ h=>h) hM) (h.ixN_live hb)
   obtain ⟨s1,s2⟩:=h.fin hb hfF hsum
   obtain ⟨y2,z4,hP,hZ⟩:=hE
   have hA2:=PutG.free (z:=wr2 z2 ky ep' y) (by show 2≤Go.Proofs.YtpmojdippdlcaaaGreatDoor.fr z2;omega) hP
   have h30:e=30:=by
    refine A2c fun h30=> ?_
    obtain ⟨_,_,h8⟩:=AppG.last (z:=wr2 z2 ky ep' y) hw2 (by show 0<rm z2;omega) hA2 h30
    rcases h8 hq with h9 | ⟨h9,_⟩
    ·have h9:z2.L.d.c.after<0:=h9;omega
    ·exact h9 haft
   subst h30
   rcases hZ with ⟨_,rfl⟩ | ⟨hZ,_⟩
   ·obtain ⟨d1,d2,d3,d4,d5,d6,V',zv,d7,d8,d9,d10,d11,d12⟩:=hA2.down hw2
    have hnb:z2.L.nb=z.L.nb:=w4.nb
    have d3:z3.L.nb=z2.L.nb:=d3
    have d6:FrA z2.L.d.c z3.L.d.c:=d6
    have d8:zv.L.nb=z2.L.nb:=d8
    have d9:LogC z2.L.nb KM V' (fun j=>(bAt zv.L.bs j).seq) zv.R:=d9
    have d11:Go.Proofs.YtpmojdippdlcaaaGreatDoor.fr z2≤Go.Proofs.YtpmojdippdlcaaaGreatDoor.fr zv+1:=d11
    have hf0:FrA z.L.d.c z2.L.d.c:=hA.fra
    refine ⟨rfl,⟨d3.trans hnb,fun h9=> ?_,d5,hf0.trans d6,?_⟩⟩
    ·show z3.S.lg=z3.L.lg
     rw [d1,d2]
     show z2.S.lg=z2.L.lg
     rw [w4.S,hA.2.1]
     exact h9
    rcases d12 with d12 | ⟨y3,d12⟩
    ·refine ⟨A,V',zv,.inl rfl,(hrz2.grw hw2 d12).tl fun k e b h=> ?_,h.sd,d8.trans hnb,by rw [← hnb];exact d9,d10,by omega⟩
     grind
    ·have hM2:N8 (wr2 z2 ky ep' y).S (Bw z cs) m:=hM
     have hfin:=Rz.fin (c:=⟨ep',Bw z cs,Ma m⟩) hw2 hrz2 d12 hM2 hgt h.ls (fun ky2 e2 b2 hq2=>by
      rcases hq2 with h9 | h9
      ·exact h9.elim
      ·simp only [A50] at h9
       obtain ⟨rfl,rfl,rfl⟩:=h9
       exact ⟨rfl,Hb n1 (by rw [hnd];grind)⟩) (fun ky2 e2 b2 hp2=>by
      rcases Q1 hp2 with hx | hx
      ·grind
      ·cases hx) (fun ky2 hl hp2=>by
      refine n3 ky2 hl fun hk2=> ?_
      obtain ⟨⟨k',e',b'⟩,hx,rfl⟩:=A53.1 hk2
      rw [Hb n1 hx] at hp2
      cases hp2)
     exact ⟨_,V',zv,.inr s2,(hfin.tl fun _ _ _ h=>h.elim).same rfl rfl,s1,d8.trans hnb,by rw [← hnb];exact d9,d10,by omega⟩
   ·cases hZ
end
end
section
open Go.K
variable {T:TypeId}
section
variable {L:Lg}
def Lg.chip (L:Lg) (c:Chip):Lg:={ L with d:=⟨L.d.dk,L.d.t,c⟩ }
theorem Azg {a k:Int}:Does Tryz.prog 36 [ptr L.d.c.aP,.int .i64 a,.int .i64 k] (lgH L) (Is (.tuple #[]) (lgH (L.chip (Xj L.d.c a k)))):=by
 rw [Dp,Dp]
 exact (Axm (d:=L.d) (a:=a) (k:=k)).inIs sP aQ sP
theorem A1b:Does Tryz.prog 38 [ptr L.d.c.aP] (lgH L) (Is (.tuple #[]) (lgH (L.chip (onC L.d.c)))):=by
 rw [Dp,Dp]
 exact (Az4 (d:=L.d)).inIs sP aQ sP
end
section
variable {n k:Nat} {q:Qt} {A:Ab} {z:Sg}
theorem WI.chip (h:WI n k q z) {c:Chip} (hb:c.blocks=z.L.d.c.blocks) (up:Up c) (hp:c.pc=z.L.d.c.pc) (hw:c.wc=z.L.d.c.wc) (hpf:c.pf=z.L.d.c.pf) (hwf:c.wf=z.L.d.c.wf):WI n k q ⟨z.S,z.L.chip c,z.R⟩:=by
 obtain ⟨h1,V,hZ⟩:=h
 refine ⟨h1,V,hZ.num,DV.same hZ.dv hb up hp hw,?_,hZ.lv⟩
 have h2:=hZ.acc
 unfold Acc at h2 ⊢
 have e1:FP c=FP z.L.d.c:=by unfold FP;rw [hpf,hp]
 have e2:FW c=FW z.L.d.c:=by unfold FW;rw [hwf,hw]
 show z.L.d.t.ts.lost.length+FP c+FW c≤q.n∧_
 rw [e1,e2]
 exact h2
theorem WI.up (h:WI n k q z):Up z.L.d.c:=h.2.choose_spec.dv.di.up
theorem Std.chip (h:Std A z) (c:Chip):Std A ⟨z.S,z.L.chip c,z.R⟩ :=
 ⟨⟨h.rz.last,h.rz.vw,h.rz.viewed,fun k=>h.rz.ix k,fun k=>h.rz.pd k,h.rz.la,h.rz.va,h.rz.kd,h.rz.nd,h.rz.cm,h.rz.vs⟩,h.seen,h.stray,h.strk,h.hurt,h.live,h.ep,h.ls,h.l0,h.sum,h.lim,h.nb4,h.fr,h.vwm,h.v0⟩
theorem Aeu (h:Std A z) (hw:WI n k q z) {key:Int}:Does Tryz.prog 19 [ptr z.S.st,.int .i64 key] (Cz T::(z.S.st,true,C (stC z.S) tSt)::(z.S.ib,true,z.S.idx.obj .i64)::(z.S.pb,true,z.S.pend.obj .i64)::(lgH z.L++[]))
  (fun v H=>∃ (s:Sl By) (ky:Int) (e:Wd) (er:Int),v= .tuple #[.agg (ndC ⟨ky,e,s⟩).toArray,.int .i64 0,.int .i64 er]∧H=s.hp tU8++(Cz T::(z.S.st,true,C (stC z.S) tSt)::(z.S.ib,true,z.S.idx.obj .i64)::(z.S.pb,true,z.S.pend.obj .i64)::(lgH z.L++[])) ∧
   ((A.ix key=none∧er=61∧ky=0∧e=0∧s= .nil)∨(er=0∧ky=key∧A.ix key=some (e,s.list)∧s.isOwn=true))):=by
 cases hi:A.ix key with
 | none =>
  refine ((Alp (z:=z) (h.rz.ix.no hi)).inIs (H:=Cz T::(z.S.st,true,C (stC z.S) tSt)::(z.S.ib,true,z.S.idx.obj .i64)::(z.S.pb,true,z.S.pend.obj .i64)::(lgH z.L++[])) (Y':=Cz T::(z.S.st,true,C (stC z.S) tSt)::(z.S.ib,true,z.S.idx.obj .i64)::(z.S.pb,true,z.S.pend.obj .i64)::(lgH z.L++[])) sP aQ sP).mono ?_
  rintro v H ⟨rfl,rfl⟩
  exact ⟨.nil,0,0,61,rfl,by rw [Sl.hp_nil];rfl,.inl ⟨rfl,rfl,rfl,rfl,rfl⟩⟩
 | some r =>
  obtain ⟨e,b⟩:=r
  obtain ⟨en,h1,rfl,h3,h4⟩:=h.rz.ix.yes hi
  refine (Zf hw h1 h4 h3).mono ?_
  grind
end
theorem Azh (x:By):Pm [bv x] 0 [x]:=fun i y h=>by
 have hi:i=0:=by have:=(List.getElem?_eq_some_iff.1 h).1;grind
 subst hi
 simp at h
 subst h
 rfl
def bdy (bb:Nat) (x:By):Sl By:= .view bb 0 true [bv x] tU8 (1,2) [x] 1 ⟨Azh x,A6h _,by simp⟩
def cs1 (b:Nat) (c:Chg):Sl Chg:= .own b [c] 1 [] ⟨by simp,A6h _,by simp⟩
def cs2 (b:Nat) (c d:Chg):Sl Chg:= .own b [c,d] 2 [] ⟨by simp,A6h _,by simp⟩
theorem Azi (b bb:Nat) (k:Int) (g:Bool) (x:By):(cs1 b ⟨k,g,bdy bb x⟩).hp tCg++(cbH (cs1 b ⟨k,g,bdy bb x⟩).list++[])=(b,true,C [.int .i64 k,.bool g,.slice (some ⟨bb,0,none⟩) 1 1] tCg)::(bb,true,CF [bv x] tU8 (1,2))::[]:=by
 unfold cs1
 rw [Sl.hp_own]
 show _++(cbH [⟨k,g,bdy bb x⟩]++[])=_
 unfold cbH bdy
 simp only [A36,List.flatMap_nil,A42]
 rw [Sl.hp_view]
 rfl
theorem Azj (b bb:Nat) (k k':Int) (g g':Bool) (x:By):(cs2 b ⟨k,g,.nil⟩ ⟨k',g',bdy bb x⟩).hp tCg++(cbH (cs2 b ⟨k,g,.nil⟩ ⟨k',g',bdy bb x⟩).list++[])=(b,true,C [.int .i64 k,.bool g,.slice none 0 0,.int .i64 k',.bool g',.slice (some ⟨bb,0,none⟩) 1 1] tCg)::(bb,true,CF [bv x] tU8 (1,2))::[]:=by
 unfold cs2
 rw [Sl.hp_own]
 show _++(cbH [⟨k,g,.nil⟩,⟨k',g',bdy bb x⟩]++[])=_
 unfold cbH bdy
 simp only [A36,List.flatMap_nil,A42]
 rw [Sl.hp_view,Sl.hp_nil]
 rfl
theorem T4 (l:Lv) (k:Int) (s:Sl By):Ev l ⟨k,false,s⟩=Dx l k:=rfl
theorem Ajb (l:Lv) (k:Int) (s:Sl By):Ev l ⟨k,true,s⟩=G7 l k:=rfl
structure Sp1 (A:Ab) (z:Sg):Prop where
 std:Std A z
 wi:WI 16 200000000 (q0 16) z
 ep:A.last.ep=1
 lv:A.last.lv=Dx lv0 5
 seen:A.seen=1
 stray:∀ k,A.stray k=false
 ix:A.ix 5=some (1,[120])
 rm:2≤Go.Proofs.YtpmojdippdlcaaaGreatDoor.rm z
 fr:5≤Go.Proofs.YtpmojdippdlcaaaGreatDoor.fr z
 nb:z.L.nb=10
theorem Azk {z:Sg} (hL:Laid11 16 z) {b bb:Nat}:Does Tryz.prog 16 [ptr z.S.st,wv 1,.slice (some ⟨b,0,none⟩) 1 1] (Cz T::(z.S.st,true,C (stC z.S) tSt)::(z.S.ib,true,z.S.idx.obj .i64)::(z.S.pb,true,z.S.pend.obj .i64)::(z.S.sb,true,z.S.stray.obj .i64)::(lgH z.L++((b,true,C [.int .i64 5,.bool false,.slice (some ⟨bb,0,none⟩) 1 1] tCg)::(bb,true,CF [bv 120] tU8 (1,2))::[])))
  (fun v H=>∃ z':Sg,v= .int .i64 0∧H=Cz T::(z'.S.st,true,C (stC z'.S) tSt)::(z'.S.ib,true,z'.S.idx.obj .i64)::(z'.S.pb,true,z'.S.pend.obj .i64)::(z'.S.sb,true,z'.S.stray.obj .i64)::(lgH z'.L++((b,true,C [.int .i64 5,.bool false,.slice (some ⟨bb,0,none⟩) 1 1] tCg)::(bb,true,CF [bv 120] tU8 (1,2))::[]))∧z'.S.st=z.S.st∧∃ A,Sp1 A z'):=by
 have hstd:=hL.std ⟨by omega,by omega⟩
 have hnb:z.L.nb=10:=by have:=hL.nb;omega
 have hfr:fr z=10:=by unfold fr;rw [hL.free,hnb]
 have hrm:rm z=0:=by
  rcases hL.wi.lw.lst with ⟨h1,_⟩ | ⟨l,h1,h2,h3,_⟩
  ·unfold rm;rw [h1];rfl
  ·exfalso
   have h4:=hL.free
   have:Bv z.L.bs z.L.nb+1≤z.L.nb:=by
    have key:∀ k,l<k→Bv z.L.bs k+1≤k:=fun k=>by
     induction k with
     | zero=>omega
     | succ k ih =>
      intro h
      rw [Ga]
      by_cases e:l=k
      ·subst e
       have:=Ui z.L.bs l
       unfold z1
       rw [A6u h3]
       omega
      ·have:=ih (by omega)
       unfold z1
       split <;> omega
    grind
   omega
 have hf:=Wp (T:=T) hstd hL.wi (by omega) (A6j 3) hL.af (by omega) (ep:=1) (cs:=cs1 b ⟨5,false,bdy bb 120⟩) (by show 1≤300;omega)
 rw [Azi] at hf
 refine hf.mono ?_
 rintro v H ⟨e,z',rfl,rfl,hst,⟨hw,hfra,hc⟩,hR⟩
 have hbad:Bo z 1 (cs1 b ⟨5,false,bdy bb 120⟩).list=false:=by
  unfold Bo Oa
  rw [hstd.seen]
  show (!(decide (((1:Wd).toNat:Int)>((0:Wd).toNat:Int)) && [(⟨5,false,bdy bb 120⟩:Chg)].all Eo) || !N9 [5])=false
  rw [onceC_iff.2 (by simp)]
  rfl
 have hlv:Bw z (cs1 b ⟨5,false,bdy bb 120⟩).list=Dx lv0 5:=by
  rw [hstd.lv]
  show Ev lv0 ⟨5,false,bdy bb 120⟩=_
  exact T4 lv0 5 (bdy bb 120)
 have hfull:B2 z (cs1 b ⟨5,false,bdy bb 120⟩).list=false:=by
  unfold B2
  rw [hlv,hnb]
  decide +kernel
 rcases hc with ⟨h1,_⟩ | ⟨_,h1,_⟩ | ⟨_,_,rfl,A,hcom,hA⟩
 ·rw [hbad] at h1;cases h1
 ·rw [hfull] at h1;cases h1
 obtain ⟨s1,s2⟩:=hstd.slots (fun _=>rfl) hL.wi.lw (by omega) hbad hfull (by rw [hfr];show 4+1≤10;omega) (by show 1≤1000;omega) hR
 have s1:slots z'+1+1=slots z:=s1
 unfold slots at s1
 rw [hfr,hrm] at s1
 refine ⟨z',rfl,rfl,hst,A,hA,hw.mono (by omega),hcom.ep,(by rw [hcom.lv];show Ev lv0 ⟨5,false,bdy bb 120⟩=_;exact T4 lv0 5 (bdy bb 120)),hcom.seen,hcom.stray,hcom.chg _ (A3z.2 rfl) rfl,by omega,by omega,by have:=hw.2.choose_spec.num;omega⟩
theorem Azl {A:Ab} {z:Sg} (h:Sp1 A z) {b bb:Nat}:Does Tryz.prog 16 [ptr z.S.st,wv 2,.slice (some ⟨b,0,none⟩) 2 2] (Cz T::(z.S.st,true,C (stC z.S) tSt)::(z.S.ib,true,z.S.idx.obj .i64)::(z.S.pb,true,z.S.pend.obj .i64)::(z.S.sb,true,z.S.stray.obj .i64)::(lgH (z.L.chip (Xj z.L.d.c 1 9))++((b,true,C [.int .i64 5,.bool true,.slice none 0 0,.int .i64 6,.bool false,.slice (some ⟨bb,0,none⟩) 1 1] tCg)::(bb,true,CF [bv 121] tU8 (1,2))::[])))
  (fun v H=>∃ z':Sg,v= .int .i64 30∧H=Cz T::(z'.S.st,true,C (stC z'.S) tSt)::(z'.S.ib,true,z'.S.idx.obj .i64)::(z'.S.pb,true,z'.S.pend.obj .i64)::(z'.S.sb,true,z'.S.stray.obj .i64)::(lgH z'.L++((b,true,C [.int .i64 5,.bool true,.slice none 0 0,.int .i64 6,.bool false,.slice (some ⟨bb,0,none⟩) 1 1] tCg)::(bb,true,CF [bv 121] tU8 (1,2))::[]))∧z'.S.st=z.S.st∧z'.S.lg=z'.L.lg∧Up (onC z'.L.d.c)∧z'.L.d.c.blocks.length=16∧∃ (A':Ab) (V':Nat→Blk) (zv:Sg),((A'.last.ep=1∧A'.ix 5=some (1,[120]))∨(A'.last.ep=2∧A'.ix 5=none))∧Tl A' zv∧Sd A' 10∧zv.L.nb=10∧LogC 10 KM V' (fun j=>(bAt zv.L.bs j).seq) zv.R∧Later z'.L.d.c 16 KM 0 V'∧1≤fr zv):=by
 have hup:=h.wi.up
 have hw:WI 16 200000000 (q0 16) ⟨z.S,z.L.chip (Xj z.L.d.c 1 9),z.R⟩:=h.wi.chip rfl ⟨hup.off,hup.dead,hup.out⟩ rfl rfl rfl rfl
 have hs:=h.std.chip (Xj z.L.d.c 1 9)
 have hlen:z.L.d.c.blocks.length=16:=h.wi.2.choose_spec.dv.di.len
 have hbad:Bo ⟨z.S,z.L.chip (Xj z.L.d.c 1 9),z.R⟩ 2 (cs2 b ⟨5,true,.nil⟩ ⟨6,false,bdy bb 121⟩).list=false:=by
  unfold Bo Oa
  show (!(decide (((2:Wd).toNat:Int)>(z.S.seen.toNat:Int)) && [(⟨5,true,.nil⟩:Chg),⟨6,false,bdy bb 121⟩].all Eo) || !N9 [5,6])=false
  rw [h.std.seen,h.seen,onceC_iff.2 (by simp)]
  rfl
 have hlv:Bw ⟨z.S,z.L.chip (Xj z.L.d.c 1 9),z.R⟩ (cs2 b ⟨5,true,.nil⟩ ⟨6,false,bdy bb 121⟩).list=Dx (G7 (Dx lv0 5) 5) 6:=by
  rw [hs.lv,h.lv]
  show Ev (Ev (Dx lv0 5) ⟨5,true,.nil⟩) ⟨6,false,bdy bb 121⟩=_
  rw [T4,Ajb]
 have hfull:B2 ⟨z.S,z.L.chip (Xj z.L.d.c 1 9),z.R⟩ (cs2 b ⟨5,true,.nil⟩ ⟨6,false,bdy bb 121⟩).list=false:=by
  unfold B2
  rw [hlv]
  show decide (((C7 (Dx (G7 (Dx lv0 5) 5) 6) 256).length:Int)>In (z.L.nb:Nat))=false
  rw [h.nb]
  decide +kernel
 have hnd:Bp ⟨z.S,z.L.chip (Xj z.L.d.c 1 9),z.R⟩ 2 (cs2 b ⟨5,true,.nil⟩ ⟨6,false,bdy bb 121⟩).list (Bu A.ix)=[(6,2,[121])]:=by
  unfold Bp
  rw [hs.again_nil h.stray]
  rfl
 have h13:z.L.nb≤40:=by rw [h.nb];omega
 have hf:=Zj (T:=T) (bi:=Bu A.ix) (ep:=2) (cs:=cs2 b ⟨5,true,.nil⟩ ⟨6,false,bdy bb 121⟩) hw (by omega) (A6j 3) (by show 2≤300;omega) hs.hm hs.hA (fun _=>by rw [hnd];grind) (fun hb hf=>hs.hS hw.lw (by omega) h13 hb hf) (fun hb hf=>hs.hE hw.lw (by omega) h13 hb hf)
 rw [Azj] at hf
 refine hf.mono ?_
 rintro v H ⟨e,z',rfl,rfl,hst,hR,_⟩
 obtain ⟨rfl,hC⟩:=hs.cut1 hw.lw (by omega) rfl rfl h.rm (by have:=h.fr;show 4≤fr z;omega) hbad hfull hnd hR
 obtain ⟨A',V',zv,c1,c2,c3,c4,c5,c6,c7⟩:=hC.told
 have hfra:=hC.fra
 refine ⟨z',rfl,rfl,hst,hC.lg hw.1,⟨rfl,hfra.dead.trans hup.dead,hfra.out.trans hup.out⟩,hfra.len.trans hlen,A',V',zv,?_,c2,by have c3:Sd A' z.L.nb:=c3;rw [h.nb] at c3;exact c3,c4.trans h.nb,by have c5:LogC z.L.nb KM V' (fun j=>(bAt zv.L.bs j).seq) zv.R:=c5;rw [h.nb] at c5;exact c5,c6,by have:=h.fr;have c7:fr z≤fr zv+4:=c7;omega⟩
 rcases c1 with rfl | c1
 ·exact .inl ⟨h.ep,h.ix⟩
 ·refine .inr ⟨c1.ep,?_⟩
  have h1:=c3.live 5
  rw [c1.lv,h.lv] at h1
  have h2:Bg (List.foldl Ev (Dx lv0 5) (cs2 b ⟨5,true,.nil⟩ ⟨6,false,bdy bb 121⟩).list) 5=false:=by
   show Bg (Ev (Ev (Dx lv0 5) ⟨5,true,.nil⟩) ⟨6,false,bdy bb 121⟩) 5=false
   rw [T4,Ajb]
   decide +kernel
  rw [h2] at h1
  simp_all
end
end Go.Proofs.YtpmojdippdlcaaaGreatDoor
