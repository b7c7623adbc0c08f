/- every call of any script on a store answers as the document says, while acts of the chip fail, as long as there are spares, and leaves the document's nodes, also when it is opened again; its conditions are the statement's own: the bounds of scripts, bodies and fails; the conditions are the statement's own: part 6. -/
import Derived.Test.YtpmojdippdlcaaaGreatDoorJ4
import Derived.Test.YtpmojdippdlcaaaGreatDoorJ5
import Derived.Test.YtpmojdippdlcaaaGreatDoorJ1
import Derived.Test.YtpmojdippdlcaaaGreatDoorRows
import Derived.Test.YtpmojdippdlcaaaGreatDoorCards
import Derived.Test.YtpmojdippdlcaaaGreatDoorTie
import Derived.ChangeSame
import Derived.LaidLaws
import Derived.Handed
set_option linter.unusedVariables false
set_option linter.unusedSimpArgs false
set_option maxRecDepth 100000
set_option maxHeartbeats 1000000
set_option synthInstance.maxSize 4000
set_option synthInstance.maxHeartbeats 400000
namespace Go.Proofs.YtpmojdippdlcaaaGreatDoor
section
open Go.K
variable {T:TypeId}
instance und26:Und Tryz.prog 26 (.pointer 67):=⟨Tryz.underlying26⟩
instance plc45:Plc Tryz.prog 45 [(0,1),(1,1),(2,1)]:=⟨⟨_,Tryz.underlying45,fun _=>by kernel_rfl⟩⟩
theorem Azm {L:Lg} {A:Ab} {V:Nat→Blk} {zv:Sg} (hup:Up (onC L.d.c)) (hlen:L.d.c.blocks.length=16) (hT:Tl A zv) (hd:Sd A 10) (hnb:zv.L.nb=10) (hC:LogC 10 KM V (fun j=>(bAt zv.L.bs j).seq) zv.R) (hl:Later L.d.c 16 KM 0 V) (hf:1≤fr zv) :
  Does Tryz.prog 26 [ptr L.d.c.aC] (lgH (L.chip (onC L.d.c)))
  (fun v H=>∃ (z:Sg) (A':Ab) (q:Qt),v=ptr z.S.st∧H=(z.S.st,true,C (stC z.S) tSt)::(z.S.ib,true,z.S.idx.obj .i64)::(z.S.pb,true,z.S.pend.obj .i64)::(z.S.sb,true,z.S.stray.obj .i64)::(lgH z.L++[])∧Std A' z∧WI 16 KM q z∧A'.last=A.last∧A'.ix=A.ix):=by
 obtain ⟨t2,o1,o2,o3⟩:=hl (onC L.d.c) rfl hup rfl rfl
 rw [Dp]
 refine (Zp (d:=⟨L.d.dk,L.d.t,onC L.d.c⟩) (t2:=t2) (n:=16) (nb:=10) (k:=KM) (q:=⟨0,t2.uses⟩) (V:=V) (sq:=fun j=>(bAt zv.L.bs j).seq) (z:=zv) (A:=A) ⟨by show 2≤L.d.c.blocks.length;omega,by show L.d.c.blocks.length≤1000;omega⟩ o1 o2 ⟨o3,fun _=>rfl⟩ rfl hC hnb (fun _ _=>rfl) hT hd hf (by omega)).inn sP fun v Y hh=> ?_
 obtain ⟨z',rfl,rfl,hW,_,_,A',h1,h2,_,_,h3,_⟩:=hh
 exact ⟨_,⟨z',A',_,rfl,rfl,h1,hW,h2,h3⟩,_,_,aQ,sP⟩
theorem Azn {A A':Ab} {l:Cm} {s:Sl By} {ky er:Int} {en:Wd} (hz:l=A'.last) (hl:A'.last=A.last) (hi:A'.ix=A.ix) (h:(A.last.ep=1∧A.ix 5=some (1,[120]))∨(A.last.ep=2∧A.ix 5=none))
  (hN:(A'.ix 5=none∧er=61∧ky=0∧en=0∧s= .nil)∨(er=0∧ky=5∧A'.ix 5=some (en,s.list)∧s.isOwn=true)) :
  Value.bool (decide ((l.ep.toNat:Int)=1) && decide (er=0) && decide (s.list=[120]) || decide ((l.ep.toNat:Int)=2) && decide (er=61))=Value.bool true:=by
 rw [hz,hl]
 rw [hi] at hN
 rcases h with ⟨a1,a2⟩ | ⟨a1,a2⟩
 ·rw [a2] at hN
  rcases hN with ⟨b1,_⟩ | ⟨b1,_,b2,_⟩
  ·cases b1
  ·have b3:=A5i b2
   simp only [A50] at b3
   rw [a1,b1,← b3.2]
   rfl
 simp_all
theorem S9:Does Tryz.prog 13 [] [Cz T] (Is (.bool true) [Cz T]):=by
 refine zF 100 Tryz.func13 ?_
 refine zC ?_
 refine zE rfl (Zk (m:=16) ⟨by omega,by omega⟩) ?_
 rintro _ _ ⟨z0,rfl,rfl,hL⟩
 refine zW ?_
 refine Ay rfl ?_
 refine zC ?_
 refine Ah6 rfl rfl rfl rfl rfl (fun b11=> ?_)
 refine zC ?_
 refine Am rfl rfl rfl rfl (fun b14=> ?_)
 refine Ch rfl (Azk hL (b:=b14) (bb:=b11)) sP rfl (fun v15 Y15 h15=> ?_)
 obtain ⟨z1,rfl,rfl,hst1,A1,h1⟩:=h15
 rw [← hst1]
 refine A6 aQ ?_
 refine zA ?_
 refine Ae (show Rd _ _ _ _ (ptr z1.L.lg) from by rw [← h1.wi.1];exact Al rfl mM rfl) rfl ?_
 refine zA ?_
 refine Ae (M6 (L:=z1.L) rfl pL) rfl ?_
 refine zA ?_
 refine Ae (V8 (L:=z1.L) rfl pL) rfl ?_
 refine zA ?_
 refine Ae (Aqf (L:=z1.L) rfl pL) rfl ?_
 refine zI rfl (Azg (L:=z1.L) (a:=1) (k:=9)) ?_
 refine zC ?_
 refine Ah6 rfl rfl rfl rfl rfl (fun b32=> ?_)
 refine zC ?_
 refine Am rfl rfl rfl rfl (fun b35=> ?_)
 refine Ch rfl (Azl h1 (b:=b35) (bb:=b32)) sP rfl (fun v36 Y36 h36=> ?_)
 obtain ⟨z2,rfl,rfl,hst2,hlg2,hup2,hlen2,A2,V2,zv,hA2,hT2,hD2,hn2,hC2,hLt2,hf2⟩:=h36
 rw [← hst2]
 refine A6 aQ ?_
 refine zA ?_
 refine Ae (show Rd _ _ _ _ (ptr z2.L.lg) from by rw [← hlg2];exact Al rfl mM rfl) rfl ?_
 refine zA ?_
 refine Ae (M6 (L:=z2.L) rfl pL) rfl ?_
 refine zA ?_
 refine Ae (V8 (L:=z2.L) rfl pL) rfl ?_
 refine zA ?_
 refine Ae (Aqf (L:=z2.L) rfl pL) rfl ?_
 refine zI rfl (A1b (L:=z2.L)) ?_
 refine zA ?_
 refine Ae (show Rd _ _ _ _ (ptr z2.L.lg) from by rw [← hlg2];exact Al rfl mM rfl) rfl ?_
 refine zA ?_
 refine Ae (show Rd _ _ _ _ (ptr z2.L.d.dk) from M6 (L:=z2.L.chip (onC z2.L.d.c)) rfl pL) rfl ?_
 refine zA ?_
 refine Ae (show Rd _ _ _ _ (ptr z2.L.d.c.aC) from V8 (L:=z2.L.chip (onC z2.L.d.c)) rfl pL) rfl ?_
 refine zE rfl (Azm (L:=z2.L) hup2 hlen2 hT2 hD2 hn2 hC2 hLt2 hf2) ?_
 rintro _ _ ⟨z3,A3,q3,rfl,rfl,hS3,hW3,hl3,hi3⟩
 refine zW ?_
 refine Ay rfl ?_
 refine zC ?_
 refine zE rfl (Aeu hS3 hW3 (key:=5)) ?_
 rintro _ _ ⟨s74,ky,en,er,rfl,rfl,hN⟩
 refine zW ?_
 refine Ah rfl (fun b4=> ?_)
 refine zC ?_
 refine zI rfl (Qs (S:=z3.S)) ?_
 iterate 2 refine sb ?_
 refine sg ?_
 refine sa ?_
 refine' G4 rfl rfl inferInstance rfl rfl rfl rfl rfl (fun hg85=> ?_) ?_
 rotate_left
 ·try (simp at hg85;show _)
  iterate 5 refine sb ?_
  refine Ae (H6 (v:=s74) (T:=tU8) rfl (PickL.toSub (L:=s74.hp tU8) pL)) rfl ?_
  refine zA ?_
  refine Ae (Acu (ys:=[120]) rfl rfl) rfl ?_
  exact Ag ⟨rfl,rfl,⟨_,sP⟩⟩
 refine sa ?_
 refine' Kn rfl rfl inferInstance rfl rfl rfl rfl rfl (fun hg91=> ?_) ?_
 rotate_left
 ·try (simp at hg91;show _)
  refine zC ?_
  refine zI rfl (Qs (S:=z3.S)) ?_
  refine zC ?_
  exact Ag ⟨rfl,rfl,⟨_,sP⟩⟩
 refine zC ?_
 refine Ak (Aw Tryz.results13 (Af rfl)) ?_ sP
 exact Azn hS3.rz.last hl3 hi3 hA2 hN
end
section
open Go.K
variable {T:TypeId}
instance byt45:Byt Tryz.prog 45 40:=⟨by kernel_rfl⟩
instance flat54:Flat Tryz.prog 54 (Mw 32 ([some .u8])):=⟨by kernel_rfl,by kernel_rfl,⟨_,Tryz.underlying54,rfl⟩⟩
theorem Awe {P:Program} {E:Env} {H:Hp} {t u:TypeId} {x y:Operand} {a b:Wd} (hx:ev E x=some (wv a)) (hy:ev E y=some (wv b)):Rd P E H (.binOp .add t x y u) (wv (a+b)):=by
 have e:((a+b).toNat:Int)=IntKind.u64.wrap ((a.toNat:Int)+(b.toNat:Int)):=by
  rw [Ej .u64 rfl,show ((a.toNat:Int)+(b.toNat:Int))=((a.toNat+b.toNat:Nat):Int) by omega,A26]
  show ((a+b).toNat:Int)=((BitVec.ofNat 64 (a.toNat+b.toNat)).toNat:Int)
  rw [A4h,A3p]
 unfold wv
 rw [e]
 exact Au hx hy rfl
theorem Aev:∀ xs:List By,Bq (Mw xs.length [some .u8]) (xs.map bv) (xs.map bv)=some true
 | []=>rfl
 | x::xs=>by
  show (match veq (some .u8) (bv x) (bv x) with | some a=>(match Bq (Mw xs.length [some .u8]) (xs.map bv) (xs.map bv) with | some b=>some (a && b) | none=>none) | none=>none)=some true
  rw [Aev xs]
  have:veq (some .u8) (bv x) (bv x)=some true:=by simp [veq,bv]
  rw [this]
  rfl
theorem Axc (l:Lv):Bq (Mw 32 [some .u8]) (vbc l) (vbc l)=some true:=by
 have h:=Aev l.toList
 rw [A3d] at h
 exact h
theorem Awf (l:List Chg) (x:Chg) (D:Hp):cbH (l++[x])++D=cbH l++(x.body.hp tU8++D):=by
 unfold cbH
 simp
theorem Azo:cbH []=[]:=by unfold cbH;rfl
section
variable {i:Nat} {A:Ab} {z:Sg}
end
end
section
open Go.ChangeShapes Go.WideShapes Go.ChangeAt Go.RowKit Go.K
set_option linter.constructorNameAsVariable false
theorem Cp {a b:Bool} (h:a=true) (k:b=true):(a && b)=true:=by rw [h,k];rfl
theorem own:ownKnob Tryz.prog.godebug=none:=by kernel_rfl
theorem Ajc:laidOutB Tryz.prog=true:=by kernel_rfl
theorem A1c:mapsRowed Tryz.pinned.checked.prog=true:=by kernel_rfl
theorem A1d:(Tryz.pinned.checked.prog.stopKnobs == [])=true:=by kernel_rfl
theorem A1e:Tryz.pinned.checked.prog.stopsHeard=true:=by kernel_rfl
theorem Azp:true=Tryz.pinned.checked.prog.looks []:=by kernel_rfl
abbrev Axd : List (String × DataW Unit) := [("keelson/store.lost", Rows.laid_keelson_store_lost)]
noncomputable def Zq (os:Os):World :=
 let w0:=World.holding Tryz.prog os ⟨#[],#[],[]⟩
 { w0 with heap:=w0.heap.modify 0 fun
   | .cells _ t frozen=> .cells #[.int .i64 (-1),.int .i64 (-1)] t frozen
   | o=>o }
theorem Ar1 (os:Os) (args:Array Value):laidMet Tryz.prog Axd ((Zq os).forCall (fun _ _=>0) ⟨#[],args,[]⟩).memory :=
 laidMet_of_run (ps:=[.cell 0 0,.cell 0 1]) 8 (by kernel_rfl) (by kernel_rfl) (by kernel_rfl)
theorem lostN : Tryz.prog.globalNamed "keelson/store.lost" = some 0 := by kernel_rfl
theorem lostT:(Tryz.prog.globals[0]?).map (·.type)=some 65:=by kernel_rfl
theorem Abw {W:World} (h:laidMet Tryz.prog Axd W):∃ T,HpOk [Cz T] W:=by
 obtain ⟨ps,⟨g,t,cs,fuel,p,q,hg,ht,hvar,hd,hq,hps⟩,hnd,hall⟩:=h
 obtain rfl:=A5i (lostN.symm.trans hg)
 obtain rfl:=A5i (lostT.symm.trans ht)
 obtain ⟨y0,y1,n,hx,hl,h0,h1⟩:=trod_struct2 Tryz.underlying65 hd
 have hl2:cs.toList.length=2:=hl.trans (by kernel_rfl)
 obtain ⟨a,b,hab⟩:∃ a b,cs.toList=[a,b]:=by
  match hc:cs.toList,hl2 with
  | [a,b],_=>grind
 rw [hab] at h0 h1
 obtain ⟨n0,e0,x0,_⟩:=A5q Tryz.underlying3 h0
 obtain ⟨n1,e1,x1,_⟩:=A5q Tryz.underlying3 h1
 have e0':[a]=[Value.int .i64 n0]:=e0
 have e1':[b]=[Value.int .i64 n1]:=e1
 subst x0 x1
 have hxx:Rows.laid_keelson_store_lost=(DataW.agg [.lit (.int .i64 n0),.lit (.int .i64 n1)]:DataW Unit):=(Prod.mk.inj hx).1
 unfold Rows.laid_keelson_store_lost at hxx
 simp only [DataW.agg.injEq,A43,DataW.lit.injEq,Lit.int.injEq,and_true,true_and] at hxx
 obtain ⟨m0,m1⟩:=hxx
 have hcs:cs=#[.int .i64 (-1),.int .i64 (-1)]:=by
  have:cs.toList=[Value.int .i64 (-1),.int .i64 (-1)]:=by
   rw [hab]
   grind
  grind
 have hin:MemPlace.cell 0 0∈ps:=by
  rw [hps,hcs]
  exact A29 _ (A29 _ (by simp [MemPlace.row]))
 obtain ⟨⟨c,T,hb⟩,_⟩:=hall 0 0 hin
 refine ⟨T,⟨by simp,fun x hx=> ?_⟩⟩
 rw [A3z.1 hx]
 simp only [World.var?,lostN,Option.bind_some,hb,A4e] at hvar
 rw [hb,hvar,hcs]
 rfl
theorem Awg {W:World} {base:Nat} {v:Value} (ho:Value.okWide Tryz.prog W .any base 3 v):∃ n,v= .int .i64 n:=okWide_int Tryz.underlying3 ho
end
section
open Go.K
variable {T:TypeId}
instance und22:Und Tryz.prog 22 (.slice 33):=⟨Tryz.underlying22⟩
instance agg33:Agg Tryz.prog 33 true:=⟨⟨_,Tryz.underlying33,rfl⟩⟩
instance siz33:Siz Tryz.prog 33 8:=⟨by kernel_rfl⟩
instance zer33:Zer Tryz.prog 33 ([.int .i64 0,.int .i64 0,.int .i64 0,.slice none 0 0,.int .u64 0,.int .i64 0,.int .u64 0,.int .u64 0]):=⟨by kernel_rfl⟩
instance fld33_3:Fld Tryz.prog 33 3 3:=⟨⟨_,_,0,Tryz.underlying33,rfl,by kernel_rfl,rfl⟩⟩
structure OpS where
 kind:Int
 n:Int
 keep:Int
 ch:Sl Chg
 vw:Vw
 jump:Wd
def Ar2 (o:OpS):List Value:=[.int .i64 o.kind,.int .i64 o.n,.int .i64 o.keep,o.ch.val,wv o.vw.num,.int .i64 o.vw.mem,wv o.vw.base,wv o.jump]
instance:Cel OpS:=⟨8,Ar2,fun _=>rfl,fun _=>rfl⟩
abbrev tOs:TypeId:=33
@[irreducible] def opH (l:List OpS):Hp:=l.flatMap fun o=>o.ch.hp tCg++cbH o.ch.list
theorem Ar3 {l:List OpS} {i:Nat} {o:OpS} (h:l[i]? =some o) (D:Hp):opH l++D=opH (l.take i)++(o.ch.hp tCg++(cbH o.ch.list++(opH (l.drop (i+1))++D))):=by
 obtain ⟨h1,h2⟩:=List.getElem?_eq_some_iff.1 h
 have e:l=l.take i++o::l.drop (i+1):=by
  conv=>lhs;rw [← A23 i l,A2d h1,h2]
 unfold opH
 grind
def SmallC (cs:List Chg):Prop:=∀ c∈cs,c.body.list.length≤300
def SmallO (l:List OpS):Prop:=∀ o∈l,o.ch.list.length≤40∧SmallC o.ch.list
theorem SmallC.step {cs:List Chg} {i:Nat} {c:Chg} (h:SmallC (cs.take i)) (hg:cs[i]? =some c) (hc:c.body.list.length≤300):SmallC (cs.take (i+1)):=fun x hx=>by
 rw [A4d,hg] at hx
 rcases A49.1 hx with h1 | h1
 ·exact h x h1
 grind
theorem SmallO.step {l:List OpS} {i:Nat} {o:OpS} (h:SmallO (l.take i)) (hg:l[i]? =some o) (h1:o.ch.list.length≤40) (h2:SmallC o.ch.list):SmallO (l.take (i+1)):=fun x hx=>by
 rw [A4d,hg] at hx
 rcases A49.1 hx with h3 | h3
 ·exact h x h3
 grind
theorem Aew {sc:Sl OpS}:Does Tryz.prog 14 [sc.val] (sc.hp tOs++(opH sc.list++[]))
  (fun v H=>∃ b:Bool,v= .bool b∧H=sc.hp tOs++(opH sc.list++[])∧(b=false→sc.list.length≤70∧SmallO sc.list)):=by
 have hsm:=sc.small
 refine zF 33 Tryz.func14 ?_
 refine zC ?_
 refine Aa rfl (fun c9=> ?_) (fun c9=> ?_)
 ·simp only [A4f,A2m] at c9
  refine zC ?_
  exact zL (hR:=by exact ⟨true,rfl,rfl,fun h=>by cases h⟩)
 ·simp only [A4f,A2m] at c9
  refine zC ?_
  refine Ar [0,10,11] kQ (fun (st:Nat)=>[(12,.int .i64 st)]) (fun st=>(sc.hp tOs++(opH sc.list++[]))) (fun st=>st≤sc.list.length∧SmallO (sc.list.take st)) (fun st=>sc.list.length - st) (0) ⟨A6j _,fun x hx=>by cases hx⟩ kP sP ?_
  rintro i ⟨g0,g1⟩
  refine zC ?_
  refine Aa rfl (fun c13=> ?_) (fun c13=> ?_)
  ·simp only [A4f,A2m] at c13
   obtain ⟨o,hg⟩:∃ o,sc.list[i]? =some o:=⟨_,A2i (by omega)⟩
   rw [Ar3 hg]
   have hsm2:=o.ch.small
   refine zA ?_
   refine Ae (Az (s:=sc) rfl rfl (by omega)) rfl ?_
   refine Ae (Cq (s:=sc) (o:=0) rfl pL hg rfl rfl) rfl ?_
   refine Ah rfl (fun b4=> ?_)
   refine zC ?_
   refine Aa rfl (fun c19=> ?_) (fun c19=> ?_)
   ·simp only [A4f,A2m] at c19
    refine zC ?_
    exact zL (hR:=by exact ⟨true,rfl,rfl,fun h=>by cases h⟩)
   ·simp only [A4f,A2m] at c19
    refine zC ?_
    refine Ar [0,10,11,12,21,22] kQ (fun (st:Nat)=>[(23,.int .i64 st)]) (fun st=>(sc.hp tOs++(opH (sc.list.take i)++(o.ch.hp tCg++(cbH o.ch.list++(opH (sc.list.drop (i+1))++[])))))) (fun st=>st≤o.ch.list.length∧SmallC (o.ch.list.take st)) (fun st=>o.ch.list.length - st) (0) ⟨A6j _,fun x hx=>by cases hx⟩ kP sP ?_
    rintro j ⟨k0,k1⟩
    refine zC ?_
    refine Aa rfl (fun c24=> ?_) (fun c24=> ?_)
    ·simp only [A4f,A2m] at c24
     obtain ⟨x,hx⟩:∃ x,o.ch.list[j]? =some x:=⟨_,A2i (by omega)⟩
     refine zA ?_
     refine Ae (Az (s:=o.ch) rfl rfl (by omega)) rfl ?_
     refine Ae (Cq (s:=o.ch) (o:=0) rfl pL hx rfl rfl) rfl ?_
     refine Ah rfl (fun b6=> ?_)
     refine zC ?_
     refine Aa rfl (fun c30=> ?_) (fun c30=> ?_)
     ·simp only [A4f,A2m] at c30
      refine zC ?_
      exact zL (hR:=by exact ⟨true,rfl,rfl,fun h=>by cases h⟩)
     ·simp only [A4f,A2m] at c30
      refine zC ?_
      exact ⟨j+1,⟨by omega,k1.step hx (by omega)⟩,by omega,lZ⟩
    ·simp only [A4f,A2m] at c24
     have hj:j=o.ch.list.length:=(by omega)
     subst hj
     rw [A4u] at k1
     have hgo:=g1.step hg (by omega) k1
     refine zC ?_
     exact ⟨i+1,⟨by omega,hgo⟩,by omega,lZ⟩
  ·simp only [A4f,A2m] at c13
   have hi:i=sc.list.length:=(by omega)
   subst hi
   rw [A4u] at g1
   refine zC ?_
   exact zL (hR:=by exact ⟨false,rfl,rfl,fun _=>⟨by omega,g1⟩⟩)
end
section
open Go.K
variable {T:TypeId}
instance fld33_5:Fld Tryz.prog 33 5 7:=⟨⟨_,_,0,Tryz.underlying33,rfl,by kernel_rfl,rfl⟩⟩
theorem Azq (x y:Wd):Em .and .u64 x.toNat y.toNat=((x &&& y).toNat:Int):=by
 show IntKind.u64.wrap (((BitVec.ofInt 64 (x.toNat:Int)) &&& (BitVec.ofInt 64 (y.toNat:Int))).toNat:Int)=_
 have e:∀ z:Wd,BitVec.ofInt 64 (z.toNat:Int)=z:=fun z=>by
  rw [A26]
  grind
 rw [e,e,Ej .u64 rfl,A26]
 show ((BitVec.ofNat 64 ((x &&& y).toNat)).toNat:Int)=_
 rw [A3p,A4v (x &&& y).isLt]
theorem Awh {P:Program} {E:Env} {H:Hp} {t u:TypeId} {x y:Operand} {a b:Wd} (hx:ev E x=some (wv a)) (hy:ev E y=some (wv b)):Rd P E H (.binOp .and t x y u) (wv (a &&& b)):=by
 unfold wv
 rw [← Azq]
 exact Au hx hy rfl
theorem Ag8 {S:Sto} {o:OpS}:Does Tryz.prog 17 [ptr S.st,.agg (Ar2 o).toArray] [(S.st,true,C (stC S) tSt)]
  (fun v H=>∃ w:Wd,v=wv w∧H=[(S.st,true,C (stC S) tSt)]∧w=S.seen+(o.jump &&& 3)):=by
 refine zF 11 Tryz.func17 ?_
 refine zC ?_
 refine Cy rfl rfl (fun b3=> ?_)
 refine zC ?_
 refine At [(5,[(0,false),(2,false),(3,false),(4,false),(1,true)]),(7,[(5,false),(6,false)])] (by kernel_rfl) ?_
 iterate 4 refine sb ?_
 refine Aj (show Rd _ _ _ _ (wv (o.jump &&& 3)) from Awh (b:=3) rfl rfl) ?_
 refine zC ?_
 refine zI rfl (Tz (S:=S)) ?_
 refine zA ?_
 refine Aj (Awe rfl rfl) ?_
 refine zC ?_
 exact zL (hR:=by exact ⟨_,rfl,rfl,rfl⟩)
def M9 (c:Chg):Int×Bool×List By:=(c.key,c.gone,c.body.list)
theorem Ag9 {cs:Sl Chg} (hn:cs.list.length≤40) (hs:SmallC cs.list):Does Tryz.prog 18 [cs.val] (cs.hp tCg++(cbH cs.list++[]))
  (fun v H=>∃ o:Sl Chg,v=o.val∧H=o.hp tCg++(cbH o.list++(cs.hp tCg++(cbH cs.list++[])))∧o.list.map M9=cs.list.map M9∧o.isOwn=true∧∀ c∈o.list,c.body.isOwn=true):=by
 have hsm:=cs.small
 refine zF 24 Tryz.func18 ?_
 refine zC ?_
 refine Am rfl rfl rfl rfl (fun b6=> ?_)
 refine zC ?_
 refine Ar [0,7,8] kQ (fun (st:Nat×Sl Chg)=>[(9,.int .i64 st.1),(3,st.2.val)]) (fun st=>(st.2.hp tCg++(cbH st.2.list++(cs.hp tCg++(cbH cs.list++[]))))) (fun st=>st.1≤cs.list.length∧st.2.list.map M9=(cs.list.take st.1).map M9∧st.2.isOwn=true∧∀ c∈st.2.list,c.body.isOwn=true) (fun st=>cs.list.length - st.1) ((0,.own b6 [] 0 [] ⟨by simp,A6h _,by simp⟩)) ⟨A6j _,rfl,rfl,fun c hc=>by cases hc⟩ kP (by show Split _ (Sl.hp tCg (.own b6 [] 0 [] _)++(cbH []++_)) _;rw [Azo,Sl.hp_own];exact sP) ?_
 rintro ⟨i,o⟩ ⟨g0,g1,g2,g3⟩
 simp only at g0 g1 g2 g3
 have hol:o.list.length≤40:=(by have:=A6r List.length g1;rw [A46,A46,A4s] at this;omega)
 refine zC ?_
 refine Aa rfl (fun c10=> ?_) (fun c10=> ?_)
 ·simp only [A4f,A2m] at c10
  obtain ⟨x,hg⟩:∃ x,cs.list[i]? =some x:=⟨_,A2i (by omega)⟩
  rw [R8 hg]
  have hx:=hs x (A3b hg)
  refine zA ?_
  refine Ae (Az (s:=cs) rfl rfl (by omega)) rfl ?_
  refine Ae (Cq (s:=cs) (o:=0) rfl pL hg rfl rfl) rfl ?_
  refine Ah rfl (fun b5=> ?_)
  refine zC ?_
  refine Am rfl rfl rfl rfl (fun b13=> ?_)
  refine zC ?_
  refine A5 (s:= .own b13 [] 0 [] ⟨by simp,A6h _,by simp⟩) (new:=x.body.list) (m:=x.body.list.length) rfl rfl (by rw [Sl.hp_own];exact pL) rfl (Jz pL) rfl rfl rfl rfl (by show (2*(0+_)+1024)*_≤_;omega) rfl (fun s16 h16 o16=> ?_)
  refine zC ?_
  refine Am rfl rfl rfl rfl (fun b20=> ?_)
  refine A5 (s:=o) (new:=[(⟨x.key,x.gone,s16⟩:Chg)]) (m:=1) rfl rfl pL g2 (Ck (r:=true) mM rfl) rfl rfl rfl rfl (by omega) rfl (fun s' hs1 hs2=> ?_)
  refine zC ?_
  exact ⟨(i+1,s'),⟨by simp only;omega,by simp only;rw [hs1,A48,g1,A4d,hg,A48];simp [M9,show s16.list=x.body.list from h16],hs2,fun c hc=>by simp only at hc;rw [hs1] at hc;rcases A49.1 hc with h9 | h9;exact g3 c h9;rw [A3z.1 h9];exact o16⟩,by simp only;omega,kP,kP,_,(by simp only;rw [hs1,Awf];exact sP)⟩
 ·simp only [A4f,A2m] at c10
  have hi:i=cs.list.length:=(by omega)
  subst hi
  rw [A4u] at g1
  refine zC ?_
  exact zL (hR:=by exact ⟨o,rfl,rfl,g1,g2,g3⟩)
end
section
open Go.K
variable {T:TypeId}
instance flat31:Flat Tryz.prog 31 ([some .u64,some .i64,some .u64]):=⟨by kernel_rfl,by kernel_rfl,⟨_,Tryz.underlying31,rfl⟩⟩
instance:Cel Vw:=⟨3,vwC,fun _=>rfl,fun _=>rfl⟩
theorem A1f (v:Vw):Bq [some .u64,some .i64,some .u64] (vwC v) (vwC v)=some true:=by
 simp [vwC,Bq,veq,wv]
theorem Axe {n k k':Nat} {q q':Qt} {z z':Sg} (h:WI n k q z) (h':WI n k' q' z'):z'.L.nb=z.L.nb:=by
 have:=h.2.choose_spec.num
 have:=h'.2.choose_spec.num
 omega
section
variable {i:Nat} {A:Ab} {z:Sg}
end
end
section
open Go.ChangeShapes Go.WideShapes Go.ChangeAt Go.RowKit Go.K
set_option linter.constructorNameAsVariable false
section
variable {H:Type} {enc:TypeId×Value→H} {w:World} {base:Nat} {spare:Nat→Bool} {held:Bool}
theorem Ar4 (m:Nat) (row:List Value) (y:DataW H×List MemPlace) (h:DataW.trod enc Tryz.prog w base spare held m 5 row=some y):∃ c:By,row=Cel.cs c∧RoOk w []:=by
 obtain ⟨c,rfl⟩:=Ale Tryz.underlying5 h
 exact ⟨c,rfl,.nil⟩
theorem Awi (m:Nat) (row:List Value) (y:DataW H×List MemPlace) (h:DataW.trod enc Tryz.prog w base spare held m 45 row=some y):∃ c:Chg,row=Cel.cs c∧RoOk w (c.body.hp tU8):=by
 obtain ⟨xs,n,_,_,hl,hlen,hf⟩:=DataW.trod_struct Tryz.underlying45 h
 have hl2:row.length=3:=hl.trans (by kernel_rfl)
 have hlen':xs.length=3:=hlen
 obtain ⟨a,b,c,rfl⟩:∃ a b c,row=[a,b,c]:=by
  match row,hl2 with
  | [a,b,c],_=>grind
 have h0:=(hf 0 _ rfl).trans (A2i (by omega))
 have h1:=(hf 1 _ rfl).trans (A2i (by omega))
 have h2:=(hf 2 _ rfl).trans (A2i (by omega))
 obtain ⟨n0,e0,_⟩:=A5q Tryz.underlying3 h0
 obtain ⟨n1,e1,_⟩:=DataW.trod_bool Tryz.underlying4 h1
 obtain ⟨s,e2,r1,_⟩:=Aa9 (α:=By) Tryz.underlying23 (by kernel_rfl) (by decide) (fun _=>[]) Ar4 tU8 h2
 have e0':[a]=[Value.int .i64 n0]:=e0
 have e1':[b]=[Value.bool n1]:=e1
 have e2':[c]=[s.val]:=e2
 refine ⟨⟨n0,n1,s⟩,?_,r1⟩
 show [a,b,c]=[.int .i64 n0,.bool n1,s.val]
 grind
theorem Azr (m:Nat) (row:List Value) (y:DataW H×List MemPlace) (h:DataW.trod enc Tryz.prog w base spare held m 31 row=some y):∃ c:Vw,row=Cel.cs c∧RoOk w []:=by
 obtain ⟨xs,n,_,_,hl,hlen,hf⟩:=DataW.trod_struct Tryz.underlying31 h
 have hl2:row.length=3:=hl.trans (by kernel_rfl)
 have hlen':xs.length=3:=hlen
 obtain ⟨a,b,c,rfl⟩:∃ a b c,row=[a,b,c]:=by
  match row,hl2 with
  | [a,b,c],_=>grind
 have h0:=(hf 0 _ rfl).trans (A2i (by omega))
 have h1:=(hf 1 _ rfl).trans (A2i (by omega))
 have h2:=(hf 2 _ rfl).trans (A2i (by omega))
 obtain ⟨n0,e0,_,w0⟩:=A5q Tryz.underlying29 h0
 obtain ⟨n1,e1,_⟩:=A5q Tryz.underlying3 h1
 obtain ⟨n2,e2,_,w2⟩:=A5q Tryz.underlying29 h2
 obtain ⟨x0,g0⟩:=Vv w0
 obtain ⟨x2,g2⟩:=Vv w2
 have e0':[a]=[Value.int .u64 n0]:=e0
 have e1':[b]=[Value.int .i64 n1]:=e1
 have e2':[c]=[Value.int .u64 n2]:=e2
 refine ⟨⟨x0,n1,x2⟩,?_,.nil⟩
 show [a,b,c]=[wv x0,.int .i64 n1,wv x2]
 simp only [A43,and_true] at e0' e1' e2' ⊢
 exact ⟨e0'.trans g0,e1',e2'.trans g2⟩
theorem Awj (m:Nat) (row:List Value) (y:DataW H×List MemPlace) (h:DataW.trod enc Tryz.prog w base spare held m 33 row=some y):∃ o:OpS,row=Cel.cs o∧RoOk w (o.ch.hp tCg++cbH o.ch.list):=by
 obtain ⟨xs,n,_,_,hl,hlen,hf⟩:=DataW.trod_struct Tryz.underlying33 h
 have hl2:row.length=8:=hl.trans (by kernel_rfl)
 have hlen':xs.length=6:=hlen
 obtain ⟨a0,a1,a2,a3,a4,a5,a6,a7,rfl⟩:∃ a0 a1 a2 a3 a4 a5 a6 a7,row=[a0,a1,a2,a3,a4,a5,a6,a7]:=by
  match row,hl2 with
  | [a0,a1,a2,a3,a4,a5,a6,a7],_=>exact ⟨a0,a1,a2,a3,a4,a5,a6,a7,rfl⟩
 have h0:=(hf 0 _ rfl).trans (A2i (by omega))
 have h1:=(hf 1 _ rfl).trans (A2i (by omega))
 have h2:=(hf 2 _ rfl).trans (A2i (by omega))
 have h3:=(hf 3 _ rfl).trans (A2i (by omega))
 have h4:=(hf 4 _ rfl).trans (A2i (by omega))
 have h5:=(hf 5 _ rfl).trans (A2i (by omega))
 obtain ⟨n0,e0,_⟩:=A5q Tryz.underlying3 h0
 obtain ⟨n1,e1,_⟩:=A5q Tryz.underlying3 h1
 obtain ⟨n2,e2,_⟩:=A5q Tryz.underlying3 h2
 obtain ⟨s,e3,r1,r2⟩:=Aa9 (α:=Chg) Tryz.underlying28 (by kernel_rfl) (by decide) (fun c=>c.body.hp tU8) Awi tCg h3
 obtain ⟨v,e4,_⟩:=Azr _ _ _ h4
 obtain ⟨n5,e5,_,w5⟩:=A5q Tryz.underlying29 h5
 obtain ⟨x5,g5⟩:=Vv w5
 have e0':[a0]=[Value.int .i64 n0]:=e0
 have e1':[a1]=[Value.int .i64 n1]:=e1
 have e2':[a2]=[Value.int .i64 n2]:=e2
 have e3':[a3]=[s.val]:=e3
 have e4':[a4,a5,a6]=[wv v.num,.int .i64 v.mem,wv v.base]:=e4
 have e5':[a7]=[Value.int .u64 n5]:=e5
 refine ⟨⟨n0,n1,n2,s,v,x5⟩,?_,r1.app (by unfold cbH;exact r2)⟩
 show [a0,a1,a2,a3,a4,a5,a6,a7]=[.int .i64 n0,.int .i64 n1,.int .i64 n2,s.val,wv v.num,.int .i64 v.mem,wv v.base,wv x5]
 simp only [A43,and_true] at e0' e1' e2' e3' e4' e5' ⊢
 exact ⟨e0',e1',e2',e3',e4'.1,e4'.2.1,e4'.2.2,e5'.trans g5⟩
theorem Aha {v:Value} {d:DataW H} {ps:List MemPlace} {b1:Nat} (ho:Value.okWide Tryz.prog w .any base 22 v) (h:DataW.Trod enc Tryz.prog w b1 spare held 22 v d ps):∃ s:Sl OpS,v=s.val∧RoOk w (s.hp tOs)∧RoOk w (opH s.list):=by
 obtain ⟨s,e,r1,r2⟩:=Apy (α:=OpS) Tryz.underlying22 (by kernel_rfl) (by decide) (fun o=>o.ch.hp tCg++cbH o.ch.list) Awj tOs ho h
 exact ⟨s,e,r1,by unfold opH;exact r2⟩
end
end
section
open Go.K
variable {T:TypeId}
theorem A1g (s j:Wd) (h:s.toNat≤1000):(s+(j &&& 3)).toNat≤s.toNat+3:=by
 have h3:(j &&& 3).toNat≤3:=by
  rw [A4i]
  exact Nat.and_le_right
 rw [A4h]
 omega
theorem Ama {P:Program} {E:Env} {H:Hp} {t u:TypeId} {x y:Operand} {xs ys:List By} (hx:ev E x=some (.string (Oj xs))) (hy:ev E y=some (.string (Oj ys))) (h:xs=ys):Rd P E H (.binOp .neq t x y u) (.bool false) :=
 fun a w d ty pos af g h1 h2=>by
  subst h
  simp only [execOp,As h1 hx,As h1 hy,eqGuard,Go.binOp_string_neq]
  simp
end
section
open Go.K
variable {T:TypeId}
theorem Axf (x:BitVec 32):x &&& 1=0∨x &&& 1=1:=by
 have h:(x &&& 1).toNat≤1:=by rw [A4i];grind
 grind
def ser (c y:BitVec 32):Nat→BitVec 32
 | 0=>c
 | k+1=>if (ser c y k &&& 1) ^^^ ((y >>> k) &&& 1)=1 then (ser c y k >>> 1) ^^^ Jt else ser c y k >>> 1
theorem Ajd (c y:BitVec 32):∀ k,W7 (c ^^^ y) k=ser c y k ^^^ (y >>> k)
 | 0=>by show c ^^^ y=c ^^^ (y >>> 0);rw [BitVec.ushiftRight_zero]
 | k+1=>by
  show Auu (W7 (c ^^^ y) k)=_
  rw [Ajd c y k]
  have hs:ser c y (k+1)=if (ser c y k &&& 1) ^^^ ((y >>> k) &&& 1)=1 then (ser c y k >>> 1) ^^^ Jt else ser c y k >>> 1:=rfl
  rw [hs]
  generalize ser c y k=s
  unfold Auu
  have e2:(s ^^^ y >>> k) >>> 1=s >>> 1 ^^^ y >>> (k+1):=by
   rw [BitVec.ushiftRight_xor_distrib,BitVec.shiftRight_add]
  have e1:(s ^^^ y >>> k) &&& 1=(s &&& 1) ^^^ (y >>> k &&& 1):=by
   grind
  rw [e2,e1]
  rcases Axf s with h | h <;> rcases Axf (y >>> k) with g | g <;> rw [h,g]
  ·rw [A6u (by decide)]
   grind
  ·rw [A6v (by decide)]
   show _ ^^^ (Jt &&& _)=_
   rw [show Jt &&& -(0 ^^^ 1:BitVec 32)=Jt by decide,A4j,A4j,BitVec.xor_comm Jt]
  ·rw [A6v (by decide)]
   show _ ^^^ (Jt &&& _)=_
   rw [show Jt &&& -(1 ^^^ 0:BitVec 32)=Jt by decide,A4j,A4j,BitVec.xor_comm Jt]
  grind
theorem A1h (c:BitVec 32) (b:By):ser c (b.setWidth 32) 8=Apd c b:=by
 unfold Apd
 rw [Ajd]
 have:(b.setWidth 32:BitVec 32) >>> 8=0:=by
  grind
 rw [this];simp
theorem Awk {P:Program} {E:Env} {H:Hp} {t u:TypeId} {x y:Operand} {v:Wd} (hx:ev E x=some (wv v)) (hy:ev E y=some (.int .u64 256)):Rd P E H (.binOp .quo t x y u) (wv (v >>> 8)):=by
 have:=Aob (P:=P) (H:=H) (t:=t) (u:=u) hx hy (by decide)
 have e:IntKind.u64.wrap ((v.toNat:Int).tdiv 256)=((v >>> 8).toNat:Int):=by
  rw [show ((v.toNat:Int).tdiv 256)=((v.toNat / 256:Nat):Int) from rfl,E4 .u64 rfl (by have:=v.isLt;show _<2 ^ 64;omega),A2h,A2g]
 rw [e] at this
 exact this
theorem Awl {P:Program} {E:Env} {H:Hp} {t u:TypeId} {x y:Operand} {v:Wd} (hx:ev E x=some (wv v)) (hy:ev E y=some (.int .u64 256)):Rd P E H (.binOp .rem t x y u) (.int .u64 ((v.toNat % 256:Nat):Int)) :=
 Ax9 (P:=P) (H:=H) (t:=t) (u:=u) hx hy (by decide)
theorem Amb {P:Program} {E:Env} {H:Hp} {t u:TypeId} {x y:Operand} {a:BitVec 32} (hx:ev E x=some (uv a)) (hy:ev E y=some (.int .u32 2)):Rd P E H (.binOp .quo t x y u) (uv (a >>> 1)):=by
 have:=Aob (P:=P) (H:=H) (t:=t) (u:=u) hx hy (by decide)
 have e:IntKind.u32.wrap ((a.toNat:Int).tdiv 2)=((a >>> 1).toNat:Int):=by
  rw [show ((a.toNat:Int).tdiv 2)=((a.toNat / 2:Nat):Int) from rfl,E4 .u32 rfl (by have:=a.isLt;show _<2 ^ 32;omega),A2h,A2g]
 rw [e] at this
 exact this
theorem Amc {P:Program} {E:Env} {H:Hp} {t u:TypeId} {x y:Operand} {k':IntKind} {a:BitVec 32} {m:Nat} (hx:ev E x=some (uv a)) (hy:ev E y=some (.int k' (m:Nat))) (hm:m≤32):Rd P E H (.binOp .shr t x y u) (uv (a >>> m)):=by
 have:=Qa (P:=P) (H:=H) (t:=t) (u:=u) (a:=a.toNat) hx hy rfl (k:= .u32) hm
 unfold uv
 rw [A2h,A2g]
 exact this
theorem Ar5:Does Tryz.prog 147 [.int .i64 8] [] (Is (.int .i64 8) []):=by
 refine zF 8 Tryz.func147 ?_
 refine zC ?_
 refine Ay rfl ?_
 refine zC ?_
 refine Ay rfl ?_
 refine zC ?_
 exact zS
theorem Ar6 {x:Wd}:Does Tryz.prog 106 [.int .i64 8,wv x] [] (fun v H=>∃ s:Sl By,v=s.val∧H=(s.hp tU8++[])∧s.list=Bz 8 x∧s.isOwn=true):=by
 refine zF 25 Tryz.func106 ?_
 refine zC ?_
 refine Am rfl rfl rfl rfl (fun b8=> ?_)
 refine zC ?_
 refine Ar [0] kQ (fun (st:Nat×Sl By)=>[(7,.int .i64 st.1),(5,st.2.val),(6,wv (Jd x st.1))]) (fun st=>(st.2.hp tU8++[])) (fun st=>st.1≤8∧st.2.list=Bz st.1 x∧st.2.isOwn=true) (fun st=>8 - st.1) ((0,.own b8 [] 0 [] ⟨by simp,A6h _,by simp⟩)) ⟨A6j _,rfl,rfl⟩ kP (by show Split _ (Sl.hp tU8 (.own b8 [] 0 [] _)++[]) _;rw [Sl.hp_own];exact sP) ?_
 rintro ⟨i,s⟩ ⟨h0,h1,h2⟩
 have hl:s.list.length=i:=by rw [h1,A4]
 simp only at h0
 refine zC ?_
 refine zI rfl (Ar5) ?_
 refine zC ?_
 refine Aa rfl (fun c13=> ?_) (fun c13=> ?_)
 ·simp only [A4f,A2m] at c13
  refine zA ?_
  refine Ae (Awl rfl rfl) rfl ?_
  refine Ae (show Rd _ _ _ _ (bv ((Jd x i).setWidth 8)) from by (unfold bv;exact Gf (by rw [Ej .u8 rfl,A26,A3p,A2v];show (((Jd x i).toNat % 256 % 256:Nat):Int)=(((Jd x i).toNat % 256:Nat):Int);omega) rfl)) rfl ?_
  refine Am rfl rfl rfl rfl (fun b20=> ?_)
  refine A5 (s:=s) (new:=[(Jd x i).setWidth 8]) (m:=1) rfl rfl pL h2 (Ck (r:=true) mM rfl) rfl rfl rfl rfl (by omega) rfl (fun s' hs1 hs2=> ?_)
  refine zA ?_
  refine Ae (show Rd _ _ _ _ (wv (Jd x (i+1))) from Awk rfl rfl) rfl ?_
  refine zC ?_
  exact ⟨(i+1,s'),⟨by omega,by rw [hs1,h1,Yw],hs2⟩,by omega,lZ⟩
 ·simp only [A4f,A2m] at c13
  have hi:i=8:=(by omega)
  subst hi
  refine zC ?_
  exact zL (hR:=by exact ⟨s,rfl,rfl,h1,h2⟩)
theorem Azs {c:BitVec 32} {s:Sl By}:Does Tryz.prog 107 [uv c,s.val] (s.hp T++[]) (Is (uv (Fy c [s.list])) (s.hp T++[])):=by
 have hsm:=s.small
 refine zF 41 Tryz.func107 ?_
 refine zA ?_
 refine Ae (show Rd _ _ _ _ (uv (~~~c)) from by rw [← show c ^^^ 4294967295#32= ~~~c from BitVec.xor_allOnes];exact Kx (b:=4294967295#32) rfl rfl) rfl ?_
 refine zC ?_
 refine Dw [1] kQ (fun (i:Nat)=>[(6,.int .i64 i),(5,uv (Qc (~~~c) (s.list.take i)))]) (fun i=>i≤s.list.length) (fun i=>s.list.length - i) ((0:Nat)) (A6j _) kP ?_
 rintro i h0
 refine zC ?_
 refine Aa rfl (fun c14=> ?_) (fun c14=> ?_)
 ·simp only [A4f,A2m] at c14
  obtain ⟨y,hy⟩:∃ y,s.list[i]? =some y:=⟨_,A2i (by omega)⟩
  have hst2:=Yx (c:= ~~~c) hy
  generalize he:Qc (~~~c) (s.list.take i)=e at hst2 ⊢
  refine zC ?_
  refine Dw [1,6] kQ (fun (k:Nat)=>[(7,.int .i64 k),(5,uv (ser e (y.setWidth 32) k))]) (fun k=>k≤8) (fun k=>8 - k) ((0:Nat)) (A6j _) kP ?_
  rintro k h2
  have hck:ser e (y.setWidth 32) (k+1)=if (ser e (y.setWidth 32) k &&& 1) ^^^ ((y.setWidth 32 >>> k) &&& 1)=1 then (ser e (y.setWidth 32) k >>> 1) ^^^ Jt else ser e (y.setWidth 32) k >>> 1:=rfl
  have hk8:=A1h e y
  refine zC ?_
  refine Aa rfl (fun c18=> ?_) (fun c18=> ?_)
  ·simp only [A4f,A2m] at c18
   generalize ser e (y.setWidth 32) k=z at hck ⊢
   refine zA ?_
   refine Ae (P8 (b:=1) rfl rfl) rfl ?_
   refine zA ?_
   refine Ae (Az (s:=s) rfl rfl (by omega)) rfl ?_
   refine Ae (Ca (s:=s) (o:=0) (v:=bv y) rfl pL hy rfl rfl) rfl ?_
   refine Ae (Aih rfl) rfl ?_
   refine zA ?_
   refine Ae (Eu rfl (E4 .u64 rfl (by show _<2 ^ 64;omega))) rfl ?_
   refine Ae (Amc rfl rfl (by omega)) rfl ?_
   refine Ae (P8 (b:=1) rfl rfl) rfl ?_
   refine Ae (Kx rfl rfl) rfl ?_
   refine zA ?_
   refine Ae (Amb rfl rfl) rfl ?_
   refine zA ?_
   refine Ae (show Rd _ _ _ _ (.bool (decide ((z &&& 1) ^^^ ((y.setWidth 32 >>> k) &&& 1)=1))) from by rw [show decide ((z &&& 1) ^^^ ((y.setWidth 32 >>> k) &&& 1)=1)=decide ((((z &&& 1) ^^^ ((y.setWidth 32 >>> k) &&& 1)).toNat:Int)=1) from A4x.2 ⟨fun h=>by rw [h];rfl,fun h=>A2u (by rw [show (1:BitVec 32).toNat=1 from rfl];omega)⟩];exact Au rfl rfl rfl) rfl ?_
   refine zC ?_
   refine Aa rfl (fun c36=> ?_) (fun c36=> ?_)
   ·simp only [A4f,A2m] at c36
    rw [A6v c36] at hck
    refine zA ?_
    refine Ae (Kx (b:=Jt) rfl rfl) rfl ?_
    refine zC ?_
    exact ⟨k+1,by omega,by omega,by rw [hck];exact kP,kP,_,sP⟩
   ·simp only [A4f,A2m] at c36
    rw [A6u c36] at hck
    refine zC ?_
    exact ⟨k+1,by omega,by omega,by rw [hck];exact kP,kP,_,sP⟩
  ·simp only [A4f,A2m] at c18
   have hk:k=8:=(by omega)
   subst hk
   rw [hk8,← hst2]
   refine zC ?_
   exact ⟨i+1,by omega,by omega,lZ⟩
 ·simp only [A4f,A2m] at c14
  have hi:i=s.list.length:=(by omega)
  subst hi
  rw [A4u]
  refine zA ?_
  refine Ae (show Rd _ _ _ _ (uv (Fy c [s.list])) from by rw [show Fy c [s.list]=Qc (~~~c) s.list ^^^ 4294967295#32 from BitVec.xor_allOnes.symm];exact Kx (b:=4294967295#32) rfl rfl) rfl ?_
  refine zC ?_
  exact zS
theorem Awm (x:By) (m:Nat):decide (((x.toNat / 2 ^ m % 2:Nat):Int)=1)=x.getLsbD m:=by
 rw [← BitVec.testBit_toNat,Nat.testBit_eq_decide_div_mod_eq]
 grind
theorem Awn {l:Lv} {m:Nat} (hm:m<256):Does Tryz.prog 41 [.agg (vbc l).toArray,.int .i64 (m:Nat)] [] (Is (.bool (Bg l (m:Nat))) []):=by
 refine zF 22 Tryz.func41 ?_
 refine zC ?_
 refine Do rfl rfl (fun b2=> ?_)
 refine zC ?_
 refine Aa rfl (fun c10=> ?_) (fun c10=> ?_)
 ·simp only [A40,A27,A4f,A2m] at c10
  omega
 ·simp only [A40,A27,A4f,A2m] at c10
  refine zA ?_
  refine Ae (Q4 (m:=8) rfl rfl (by decide) (by omega)) rfl ?_
  refine Ae (Fi rfl rfl (by omega)) rfl ?_
  refine Ae (Al rfl mM (show nth _ _=some (bv (l[m / 8]'(by omega))) by simp only [A33,A6i];exact Ft (by omega))) rfl ?_
  refine Ae (Gf (Abl _) rfl) rfl ?_
  refine zA ?_
  refine Ae (Nu (m:=8) rfl rfl (by decide)) rfl ?_
  refine Ae (Eu rfl (E4 .u64 rfl (by show _<2 ^ 64;omega))) rfl ?_
  refine Ae (Qa (a:=(l[m / 8]'(by omega)).toNat) rfl rfl rfl (by show _≤64;omega)) rfl ?_
  refine Ae (Nu (m:=2) rfl rfl (by decide)) rfl ?_
  refine Ae (show Rd _ _ _ _ (.bool (Bg l (m:Nat))) from by rw [show Bg l (m:Nat)=decide ((((l[m / 8]'(by omega)).toNat / 2 ^ (m % 8) % 2:Nat):Int)=1) from by unfold Bg W8;rw [Gi hm,A33,A6t (show m / 8<32 by omega),Awm];rfl];exact Au rfl rfl rfl) rfl ?_
  refine zC ?_
  exact zS
theorem Ar7 {P:Program} {E:Env} {H:Hp} {t u:TypeId} {x y:Operand} {k:Nat} (hx:ev E x=some (.int .u8 1)) (hy:ev E y=some (.int .u64 (k:Nat))) (hk:k<8):Rd P E H (.binOp .shl t x y u) (bv (1#8 <<< k)):=by
 have:=Aai (P:=P) (H:=H) (t:=t) (u:=u) hx hy (by omega)
 rw [A0f k hk] at this
 exact this
theorem A1w {P:Program} {E:Env} {H:Hp} {t u:TypeId} {x y:Operand} {a b:By} (hx:ev E x=some (bv a)) (hy:ev E y=some (bv b)):Rd P E H (.binOp .xor t x y u) (bv (a ^^^ b)):=by
 unfold bv;rw [show (((a ^^^ b).toNat:Nat):Int)=_ from (Ow .xor .u8 rfl _ _).symm];exact Au hx hy rfl
theorem Azt {x:By} {m:Nat} (h:x.getLsbD (m % 8)=false):x ^^^ Tf m=x ||| Tf m:=by
 apply BitVec.eq_of_getLsbD_eq
 intro i hi
 rw [BitVec.getLsbD_xor,BitVec.getLsbD_or,Abb _ _ hi]
 grind
theorem Awo {l:Lv} {m:Nat} {on:Bool} (hm:m<256) (hl:Bg l (m:Nat)=false):Does Tryz.prog 64 [.agg (vbc l).toArray,.int .i64 (m:Nat),.bool on] [] (Is (.agg (vbc (if on=true then Dx l (m:Nat) else l)).toArray) []):=by
 have hlb:(l[m / 8]'(by omega)).getLsbD (m % 8)=false:=by
  unfold Bg W8 at hl
  rw [Gi hm,A33,A6t (show m / 8<32 by omega)] at hl
  grind
 refine zF 32 Tryz.func64 ?_
 refine zC ?_
 refine Do rfl rfl (fun b3=> ?_)
 refine Ah rfl (fun b6=> ?_)
 rw [Aba]
 iterate 8 refine sb ?_
 refine sg ?_
 refine sa ?_
 refine' Kn rfl rfl inferInstance rfl rfl rfl rfl rfl (fun hg13=> ?_) ?_
 rotate_left
 ·try (simp at hg13;show _)
  refine zA ?_
  refine Ae (Ao rfl mM (by first | exact Ax | rfl)) rfl ?_
  refine zC ?_
  refine zI rfl (Awn (l:=l) hm) ?_
  refine zC ?_
  exact Ag ⟨rfl,rfl,⟨_,sP⟩⟩
 refine zC ?_
 refine Aa rfl (fun c19=> ?_) (fun c19=> ?_)
 ·skip
  have hon:on=false:=(by rw [hl] at c19;grind)
  subst hon
  refine zA ?_
  refine Ae (Ao rfl mM (by first | exact Ax | rfl)) rfl ?_
  first | refine Ac rfl rfl uD (B9) (Ai) (Bi (by first | exact Ai | exact A20 ..)) ?_ | refine Ac rfl rfl uD rfl rfl rfl ?_
  refine zC ?_
  refine Ak (Aw Tryz.results64 (Bc rfl mM (by first | exact Ax | rfl))) ?_ sP
  rfl
 ·skip
  have hon:on=true:=(by rw [hl] at c19;grind)
  subst hon
  have hw:Ql l m=Dx l (m:Nat):=(by unfold Dx;rw [A6v (Gi hm),A33])
  refine zA ?_
  refine Ae (Q4 (m:=8) rfl rfl (by decide) (by omega)) rfl ?_
  refine Ae (Fi rfl rfl (by omega)) rfl ?_
  refine Ae (Al rfl mM (show nth _ _=some (bv (l[m / 8]'(by omega))) by simp only [A33,A6i];exact Ft (by omega))) rfl ?_
  refine zA ?_
  refine Ae (Nu (m:=8) rfl rfl (by decide)) rfl ?_
  refine Ae (Eu rfl (E4 .u64 rfl (by show _<2 ^ 64;omega))) rfl ?_
  refine Ae (show Rd _ _ _ _ (bv (Tf m)) from Ar7 rfl rfl (A6k _ (by decide))) rfl ?_
  refine Ae (show Rd _ _ _ _ (bv ((l[m / 8]'(by omega)) ||| Tf m)) from by rw [← Azt hlb];exact A1w rfl rfl) rfl ?_
  refine Ae (Fi rfl rfl (by omega)) rfl ?_
  refine Ac (cs':=vbc (Ql l m)) rfl rfl uD rfl rfl (by simp only [A33];exact Za hm) ?_
  refine zA ?_
  refine Ae (Ao rfl mM (by first | exact Ax | rfl)) rfl ?_
  first | refine Ac rfl rfl uD (B9) (Ai) (Bi (by first | exact Ai | exact A20 ..)) ?_ | refine Ac rfl rfl uD rfl rfl rfl ?_
  refine zC ?_
  refine Ak (Aw Tryz.results64 (Bc rfl mM (by first | exact Ax | rfl))) ?_ sP
  rw [hw];rfl
end
section
open Go.K
variable {T:TypeId}
instance und49:Und Tryz.prog 49 (.array 256 40):=⟨Tryz.underlying49⟩
instance und50:Und Tryz.prog 50 (.array 256 4):=⟨Tryz.underlying50⟩
instance siz50:Siz Tryz.prog 50 256:=⟨by kernel_rfl⟩
instance agg52:Agg Tryz.prog 52 true:=⟨⟨_,Tryz.underlying52,rfl⟩⟩
instance siz52:Siz Tryz.prog 52 1031:=⟨by kernel_rfl⟩
instance zer52:Zer Tryz.prog 52 (Gd 256 [.int .i64 0,.int .u64 0,.slice none 0 0]++List.replicate 256 (.bool false)++[.int .u64 0,.int .u64 0,.int .u64 0,.int .i64 0,.int .u64 0,.bool false,.int .i64 0]):=⟨by kernel_rfl⟩
instance fld52_0:Fld Tryz.prog 52 0 0:=⟨⟨_,_,767,Tryz.underlying52,rfl,by kernel_rfl,rfl⟩⟩
instance fld52_1:Fld Tryz.prog 52 1 768:=⟨⟨_,_,255,Tryz.underlying52,rfl,by kernel_rfl,rfl⟩⟩
instance fld52_2:Fld Tryz.prog 52 2 1024:=⟨⟨_,_,0,Tryz.underlying52,rfl,by kernel_rfl,rfl⟩⟩
instance plc52:Plc Tryz.prog 52 [(0,768),(768,256),(1024,1),(1025,1),(1026,3),(1029,1),(1030,1)]:=⟨⟨_,Tryz.underlying52,fun _=>by kernel_rfl⟩⟩
structure RSt where
 nd:List Nd
 th:List Bool
 ep:Wd
 seen:Wd
 vw:Vw
 viewed:Bool
 lim:Int
abbrev tRs:TypeId:=52
def rsT (r:RSt):List Value:=[wv r.ep,wv r.seen,wv r.vw.num,.int .i64 r.vw.mem,wv r.vw.base,.bool r.viewed,.int .i64 r.lim]
def rsC (r:RSt):List Value:=r.nd.flatMap ndC++(r.th.map Value.bool++rsT r)
structure RsOk (r:RSt):Prop where
 nd:r.nd.length=256
 th:r.th.length=256
theorem Aje (x:Nd):(ndC x).length=3:=rfl
theorem RsOk.ndl {r:RSt} (h:RsOk r):(r.nd.flatMap ndC).length=768:=by rw [Nh (n:=3) r.nd fun x _=>Aje x,h.nd]
theorem RsOk.thl {r:RSt} (h:RsOk r):(r.th.map Value.bool).length=256:=by rw [A46,h.th]
def Hc (r:RSt) (k:Nat):Bool:=r.th.getD k false
def Hd (r:RSt) (k:Nat):Nd:=r.nd.getD k ⟨0,0,.nil⟩
theorem RsOk.nthTh {r:RSt} (h:RsOk r) {k o:Nat} (hk:k<256) (ho:o=768+k):nth (rsC r) o=some (.bool (Hc r k)):=by
 subst ho
 unfold rsC
 rw [← h.ndl,Hn,Pk (by rw [h.thl];exact hk),Aab]
 unfold Hc
 rw [A18,A2i (by rw [h.th];exact hk)]
 rfl
theorem RsOk.nthEp {r:RSt} (h:RsOk r) {k o:Nat} (hk:k<256) (ho:o=k*3+1):nth (rsC r) o=some (wv (Hd r k).ep):=by
 subst ho
 have hg:r.nd[k]? =some (Hd r k):=by
  unfold Hd
  rw [A18,A2i (by rw [h.nd];exact hk)]
  rfl
 unfold rsC
 rw [Pk (by rw [h.ndl];omega),Lf (n:=3) (fun x _=>Aje x) hg (by omega)]
 rfl
theorem RsOk.nthE {r:RSt} (h:RsOk r):nth (rsC r) 1024=some (wv r.ep):=by
 unfold rsC
 rw [show 1024=(r.nd.flatMap ndC).length+((r.th.map Value.bool).length+0) by rw [h.ndl,h.thl],Hn,Hn]
 rfl
theorem RsOk.setTh {r:RSt} (h:RsOk r) {k o:Nat} (hk:k<256) (ho:o=768+k) (b:Bool):A7 (rsC r) o [.bool b]=some (rsC { r with th:=r.th.set k b }):=by
 subst ho
 unfold rsC
 rw [← h.ndl]
 exact D8 (Jl (Oi (by rw [h.th];exact hk)) _)
theorem RsOk.setNd {r:RSt} (h:RsOk r) {k o:Nat} (hk:k<256) (ho:o=k*3) (x:Nd):A7 (rsC r) o (ndC x)=some (rsC { r with nd:=r.nd.set k x }):=by
 subst ho
 have hg:r.nd[k]? =some (Hd r k):=by
  unfold Hd
  rw [A18,A2i (by rw [h.nd];exact hk)]
  rfl
 unfold rsC
 exact Jl (Gb (f:=ndC) (n:=3) (o:=0) (y:=x) (fun x _=>Aje x) hg (G1 rfl)) _
theorem RsOk.setE {r:RSt} (h:RsOk r) (e:Wd):A7 (rsC r) 1024 [wv e]=some (rsC { r with ep:=e }):=by
 unfold rsC
 rw [show 1024=(r.nd.flatMap ndC).length+((r.th.map Value.bool).length+0) by rw [h.ndl,h.thl]]
 exact D8 (D8 rfl)
def rs0 (lim:Int):RSt:=⟨List.replicate 256 ⟨0,0,.nil⟩,List.replicate 256 false,0,0,vw0,false,lim⟩
theorem Azu (lim:Int):RsOk (rs0 lim):=⟨A20,A20⟩
def Wq (r:RSt) (k:Nat):List By:=(List.range k).flatMap fun j=>if Hc r j=true then Bz 1 (BitVec.ofInt 64 (j:Nat))++Bz 8 (Hd r j).ep else []
theorem Zr (r:RSt) (k:Nat):Wq r (k+1)=Wq r k++if Hc r k=true then Bz 1 (BitVec.ofInt 64 (k:Nat))++Bz 8 (Hd r k).ep else []:=by
 unfold Wq
 rw [A5d,A3j]
 simp
theorem Ar8 (r:RSt) (k:Nat):(Wq r k).length≤9*k:=by
 induction k with
 | zero=>exact A6h _
 | succ k ih =>
  rw [Zr,A3x]
  split
  ·rw [A3x,A4,A4];omega
  grind
theorem Aex (k:Nat):Bz 1 (BitVec.ofInt 64 (k:Nat))=[Fg (k:Nat)]:=by
 unfold Bz Fg
 rw [A26,A26]
 show [(BitVec.ofNat 64 k).setWidth 8]=_
 rw [BitVec.setWidth_ofNat_of_le (by decide)]
theorem Ajf {d:Nat} {r:RSt} (h:RsOk r):Does Tryz.prog 63 [ptr d] ((d,true,C (rsC r) tRs)::[]) (Is (uv (Fy 0 [Wq r 256])) ((d,true,C (rsC r) tRs)::[])):=by
 refine zF 32 Tryz.func63 ?_
 refine zC ?_
 refine Am rfl rfl rfl rfl (fun b5=> ?_)
 refine zC ?_
 refine Ar [0] kQ (fun (st:Nat×Sl By)=>[(4,.int .i64 st.1),(3,st.2.val)]) (fun st=>(st.2.hp tU8++((d,true,C (rsC r) tRs)::[]))) (fun st=>st.1≤256∧st.2.list=Wq r st.1∧st.2.isOwn=true) (fun st=>256 - st.1) ((0,.own b5 [] 0 [] ⟨by simp,A6h _,by simp⟩)) ⟨A6j _,rfl,rfl⟩ kP (by show Split _ (Sl.hp tU8 (.own b5 [] 0 [] _)++_) _;rw [Sl.hp_own];exact sP) ?_
 rintro ⟨k,s⟩ ⟨h0,h1,h2⟩
 simp only at h0 h1 h2
 have hl:=Ar8 r k
 have hs1:=Zr r k
 refine zC ?_
 refine Aa rfl (fun c7=> ?_) (fun c7=> ?_)
 ·simp only [A4f,A2m] at c7
  iterate 11 refine sb ?_
  refine Ae (show Rd _ _ _ _ (.bool (Hc r k)) from Al rfl mM (h.nthTh (k:=k) (by omega) (by omega))) rfl ?_
  refine zC ?_
  refine Aa rfl (fun c15=> ?_) (fun c15=> ?_)
  ·skip
   rw [A6v c15] at hs1
   refine At [(12,[(0,false),(1,false),(2,false),(5,false),(6,false),(7,false),(8,false),(9,false),(10,false),(11,false),(3,true),(4,true)]),(13,[(12,true)]),(14,[(13,true)]),(15,[(14,false)])] (by kernel_rfl) ?_
   refine Yg [(d,true,C (rsC r) tRs)] sP ?_
   refine zA ?_
   refine Aj (show Rd _ _ _ _ (bv (Fg (k:Int))) from by (unfold bv;rw [← Amn];exact Dv rfl)) ?_
   refine zA ?_
   refine Aj (G3 rfl rfl (by omega)) ?_
   refine zA ?_
   refine Aj (show Rd _ _ _ _ (wv (Hd r k).ep) from Al rfl mM (h.nthEp (k:=k) (by omega) (by omega))) ?_
   refine zC ?_
   refine Am rfl rfl rfl rfl (fun b19=> ?_)
   refine zC ?_
   refine A5 (s:=s) (new:=[Fg (k:Int)]) (m:=1) rfl rfl pL h2 (Ck (r:=true) mM rfl) rfl rfl rfl rfl (by rw [h1];omega) rfl (fun s20 l20 o20=> ?_)
   refine zC ?_
   refine zE rfl (Ar6) ?_
   rintro _ _ ⟨n28,rfl,rfl,l28,o28⟩
   refine zW ?_
   refine A5 (s:=s20) (new:=n28.list) (m:=n28.list.length) rfl rfl pL o20 (Jz pL) rfl rfl rfl rfl (by rw [l20,A3x,h1,l28,A4];simp;omega) rfl (fun s29 l29 o29=> ?_)
   refine zC ?_
   first | exact ⟨(k+1,s29),⟨by omega,by rw [hs1,l29,l20,h1,l28,Aex,A34],o29⟩,by omega,lZ⟩ | exact ⟨(k+1,s),⟨by simp only;omega,by rw [hs1,h1],h2⟩,by simp only;omega,lZ⟩
  ·skip
   rw [A6u (by rw [c15];decide),A42] at hs1
   refine zC ?_
   first | exact ⟨(k+1,s29),⟨by simp only;omega,by rw [hs1,l29,l20,h1,l28,Aex,A34],o29⟩,by simp only;omega,lZ⟩ | exact ⟨(k+1,s),⟨by omega,by rw [hs1,h1],h2⟩,by omega,lZ⟩
 ·simp only [A4f,A2m] at c7
  have hk:k=256:=(by omega)
  subst hk
  refine zC ?_
  refine zI rfl (Azs (c:=0) (s:=s)) ?_
  refine zC ?_
  refine Ak (Aw Tryz.results63 (Af rfl)) ?_ sP
  rw [h1]
def Jw (r:RSt):Nat→Lv
 | 0=>lv0
 | k+1=>if Hc r k=true then Dx (Jw r k) (k:Nat) else Jw r k
theorem Ar9 (j:Int):Bg lv0 j=false:=by
 have:=keysL_mem (l:=lv0) (k:=j)
 rw [Ns] at this
 grind
theorem Sh (r:RSt):∀ k,k≤256→∀ j:Int,Bg (Jw r k) j=(Cd j && decide (j<k) && Hc r j.toNat)
 | 0,_,j=>by
  show Bg lv0 j=_
  rw [Ar9]
  cases hv:Cd j with
  | false=>rfl
  | true =>
   obtain ⟨m,rfl,hm⟩:=Dc hv
   grind
 | k+1,hk,j=>by
  have ih:=Sh r k (by omega) j
  unfold Jw
  have hvk:Cd (k:Int)=true:=Gi (by omega)
  by_cases ht:Hc r k=true
  ·rw [A6v ht,R3,ih,hvk]
   grind
  grind
theorem Asa {d:Nat} {r:RSt} (h:RsOk r):Does Tryz.prog 24 [ptr d] ((d,true,C (rsC r) tRs)::[]) (Is (.agg (cmC ⟨r.ep,Jw r 256,Fy 0 [Wq r 256]⟩).toArray) ((d,true,C (rsC r) tRs)::[])):=by
 refine zF 28 Tryz.func24 ?_
 refine zC ?_
 refine Ah rfl (fun b2=> ?_)
 rw [show [Value.int .u64 0]++List.replicate 32 (Value.int .u8 0)++[Value.int .u32 0]=cmC cm0 by kernel_rfl]
 refine zC ?_
 refine Ng [] [(8,(.fork [(0,false),(1,false),(2,false),(3,false),(4,false)] 5 (.one [(6,false),(7,true)]) 7 (.one [(5,true),(6,false)]))),(9,(.one [(8,true)]))] (by kernel_rfl) rfl (fun ops w0 H0 y=> ?_)
 refine Le ?_
 refine Mn ?_ rfl
 refine B4 (Cx rfl) rfl ?_
 refine B4 (G2 rfl) rfl ?_
 refine B4 (Cr rfl) rfl ?_
 refine B4 (show Rd _ _ _ _ (wv r.ep) from Al rfl mM h.nthE) rfl ?_
 refine B4 (Cx rfl) rfl ?_
 refine Av ⟨⟨_,sP⟩,?_,?_⟩
 refine B7 ?_
 refine zI rfl (Ajf h) ?_
 refine Ag ⟨rfl,⟨_,sP⟩,?_⟩
 refine Av ?_
 refine Gn ?_
 refine B4 (show Rd _ _ _ _ (.agg (cmC ⟨r.ep,lv0,Fy 0 [Wq r 256]⟩).toArray) from Db rfl (by kernel_rfl)) rfl ?_
 refine B7 ?_
 refine Ah rfl (fun b3=> ?_)
 rw [show [Value.int .u64 0]++List.replicate 32 (Value.int .u8 0)++[Value.int .u32 0]=cmC cm0 by kernel_rfl]
 refine Ag ⟨rfl,⟨_,sP⟩,?_⟩
 refine Av ?_
 rotate_left
 refine B7 ?_
 refine Ah rfl (fun b3=> ?_)
 rw [show [Value.int .u64 0]++List.replicate 32 (Value.int .u8 0)++[Value.int .u32 0]=cmC cm0 by kernel_rfl]
 refine Ag ⟨rfl,⟨_,sP⟩,?_⟩
 refine Av ?_
 refine Gn ?_
 refine B7 ?_
 refine zI rfl (Ajf h) ?_
 refine Ag ⟨rfl,⟨_,sP⟩,?_⟩
 refine B4 (show Rd _ _ _ _ (.agg (cmC ⟨r.ep,lv0,Fy 0 [Wq r 256]⟩).toArray) from Db rfl (by kernel_rfl)) rfl ?_
 refine Av ?_
 rotate_left
 all_goals
  refine Aaa ?_
  refine Gn ?_
  refine B7 ?_
  first | refine Ac rfl rfl uD (L7) (Bj) (Oz (by first | exact Bj | exact A20 ..)) ?_ | refine Ac rfl rfl uD rfl rfl rfl ?_
  refine Ag ⟨rfl,⟨_,sP⟩,?_⟩
  refine Av ?_
  refine Rk ?_
  refine zC ?_
  refine Ar [0,2,3] kQ (fun (k:Nat)=>[(4,.int .i64 k)]) (fun k=>((b3,true,C (cmC ⟨r.ep,Jw r k,Fy 0 [Wq r 256]⟩) tCm)::(b2,true,C (cmC cm0) tCm)::(d,true,C (rsC r) tRs)::[])) (fun k=>k≤256) (fun k=>256 - k) ((0:Nat)) (A6j _) kP sP ?_
  rintro k h0
  refine zC ?_
  refine Aa rfl (fun c13=> ?_) (fun c13=> ?_)
  ·simp only [A4f,A2m] at c13
   have hno:Bg (Jw r k) (k:Nat)=false:=(by rw [Sh r k (by omega)];simp)
   have hlv:Jw r (k+1)=(if Hc r k=true then Dx (Jw r k) (k:Nat) else Jw r k):=rfl
   refine zC ?_
   refine At [(9,[(0,false),(1,false),(2,false),(3,false),(4,false),(5,false),(6,false),(7,false),(8,false)]),(10,[(9,true)]),(11,[(10,false)]),(12,[(11,true)])] (by kernel_rfl) ?_
   refine zA ?_
   refine Aj (Ao rfl mM (V0 _)) ?_
   refine zA ?_
   refine Aj (G3 rfl rfl (by omega)) ?_
   refine Aj (show Rd _ _ _ _ (.bool (Hc r k)) from Al rfl mM (h.nthTh (k:=k) (by omega) (by simp only [A33];omega))) ?_
   refine zC ?_
   refine zI rfl (Awo (l:=Jw r k) (m:=k) (on:=Hc r k) (by omega) hno) ?_
   refine zA ?_
   refine Ac (cs':=cmC ⟨r.ep,Jw r (k+1),Fy 0 [Wq r 256]⟩) rfl rfl uD B9 Ai (by rw [hlv];exact R4 _ _) ?_
   refine zC ?_
   exact ⟨k+1,by omega,by omega,lZ⟩
  ·simp only [A4f,A2m] at c13
   have hk:k=256:=(by omega)
   subst hk
   refine zA ?_
   refine Ae (Ao rfl mM (by first | exact J3 | rfl)) rfl ?_
   first | refine Ac rfl rfl uD (L7) (Bj) (Oz (by first | exact Bj | exact A20 ..)) ?_ | refine Ac rfl rfl uD rfl rfl rfl ?_
   refine zC ?_
   refine Ak (Aw Tryz.results24 (Bc rfl mM (by first | exact J3 | rfl))) ?_ sP
   rfl
end
section
open Go.K
variable {T:TypeId}
theorem Azv {l m:Lv} (h:∀ k:Nat,k<256→Bg l k=Bg m k):l=m:=by
 apply A6l
 intro i hi
 apply BitVec.eq_of_getLsbD_eq
 intro j hj
 have:=h (8*i+j) (by omega)
 unfold Bg W8 at this
 rw [Gi (by omega),A33,A6t (show (8*i+j) / 8<32 by omega),A6t (show (8*i+j) / 8<32 by omega)] at this
 have e1:(8*i+j) / 8=i:=by omega
 have e2:(8*i+j) % 8=j:=by omega
 grind
end
section
open Go.K
theorem Wr:∀ {L Z H:Hp},(L++Z).Perm H→∃ F,Split H L F
 | [],Z,H,h=>⟨H,.nil⟩
 | x::L,Z,H,h=>by
  have pk:∀ {H:Hp},x∈H→∃ G,Pick x H G:=fun {H} hx=>by
   induction H with
   | nil=>cases hx
   | cons y H ih =>
    rcases A5y.1 hx with rfl | hx
    ·exact ⟨_,.here⟩
    ·obtain ⟨G,hG⟩:=ih hx
     exact ⟨_,.there hG⟩
  obtain ⟨G,hG⟩:=pk (h.mem_iff.1 (.head _))
  obtain ⟨F,hF⟩:=Wr ((List.perm_cons x).1 (h.trans hG.perm))
  exact ⟨F,.cons hG hF⟩
theorem Asb {l:List Nd} {k:Nat} {old:Nd} (h:l[k]? =some old) (x:Nd):(C8 (l.set k x)++old.body.hp tU8).Perm (x.body.hp tU8++C8 l):=by
 obtain ⟨hk,rfl⟩:=List.getElem?_eq_some_iff.1 h
 have e1:l.set k x=l.take k++x::l.drop (k+1):=List.set_eq_take_append_cons_drop ▸ by rw [A6v hk]
 have e2:l=l.take k++l[k]::l.drop (k+1):=by rw [List.getElem_cons_drop,A23]
 unfold C8
 rw [e1]
 conv=>rhs;rw [e2]
 simp only [A3j,A36]
 generalize List.flatMap (fun x=>x.body.hp tU8) (l.take k)=A
 generalize List.flatMap (fun x=>x.body.hp tU8) (l.drop (k+1))=B
 generalize x.body.hp tU8=X
 generalize l[k].body.hp tU8=Y
 rw [show A++(X++B)++Y=(A++X)++(B++Y) by simp only [A34],show X++(A++(Y++B))=(X++A)++(Y++B) by simp only [A34]]
 exact (List.perm_append_comm.append_right _).trans (List.perm_append_comm.append_left _)
def RSt.note (r:RSt) (v:Vw):RSt:=if (!r.viewed || decide (r.vw.num.toNat≤v.num.toNat))=true then { r with vw:=vwM v,viewed:=true } else r
def Na (r:RSt):Nat→Nat
 | 0=>0
 | k+1=>Na r k+if Hc r k=true then 1 else 0
theorem Aji (r:RSt):∀ k,Na r k≤k
 | 0=>A6h _
 | k+1=>by have:=Aji r k;unfold Na;split <;> omega
abbrev CS:=Chg×Sl By
def O5 (ep:Wd) (r:RSt) (p:CS):RSt:={ r with th:=r.th.set p.1.key.toNat (!p.1.gone),nd:=r.nd.set p.1.key.toNat (if p.1.gone=true then ⟨0,0,.nil⟩ else ⟨p.1.key,ep,p.2⟩) }
def B1 (ep:Wd) (r:RSt) (l:List CS):RSt:=l.foldl (O5 ep) r
def Asc (p:CS):Prop:=(p.1.gone=true→p.2= .nil)∧(p.1.gone=false→p.2.list=p.1.body.list)∧Cd p.1.key=true
@[irreducible] def nbH (l:List CS):Hp:=l.flatMap fun p=>p.2.hp tU8
theorem T5 (l:List CS) (p:CS) (D:Hp):nbH (l++[p])++D=nbH l++(p.2.hp tU8++D):=by unfold nbH;simp
theorem Asd:nbH []=[]:=by unfold nbH;rfl
theorem Abx {ep:Wd} {r:RSt} {p:CS} (h:RsOk r):RsOk (O5 ep r p):=⟨by show (r.nd.set _ _).length=_;rw [A47];exact h.nd,by show (r.th.set _ _).length=_;rw [A47];exact h.th⟩
theorem Ws {ep:Wd}:∀ {l:List CS} {r:RSt},RsOk r→RsOk (B1 ep r l)
 | [],_,h=>h
 | p::l,r,h=>Ws (l:=l) (Abx h)
theorem Jg {ep:Wd} {r:RSt} {l:List CS} {p:CS}:B1 ep r (l++[p])=O5 ep (B1 ep r l) p:=by unfold B1;rw [A37];rfl
theorem Wt {ep:Wd}:∀ {l:List CS} {r:RSt},RsOk r→(∀ p∈l,Asc p)→∃ Z,(C8 (B1 ep r l).nd++Z).Perm (C8 r.nd++nbH l)
 | [],r,h,_=>⟨[],by rw [Asd];exact List.Perm.refl _⟩
 | p::l,r,h,hl=>by
  obtain ⟨Z,hZ⟩:=Wt (l:=l) (r:=O5 ep r p) (Abx h) fun x hx=>hl x (.tail _ hx)
  obtain ⟨h1,h2,h3⟩:=hl p (.head _)
  obtain ⟨m,hm,hm2⟩:=Dc h3
  have hmk:p.1.key.toNat=m:=by omega
  obtain ⟨old,hg⟩:∃ old,r.nd[m]? =some old:=⟨_,A2i (by rw [h.nd];exact hm2)⟩
  have hs:=Asb hg (if p.1.gone=true then (⟨0,0,.nil⟩:Nd) else ⟨p.1.key,ep,p.2⟩)
  have hx:(if p.1.gone=true then (⟨0,0,.nil⟩:Nd) else ⟨p.1.key,ep,p.2⟩).body.hp tU8=p.2.hp tU8:=by
   split
   ·rename_i hg;rw [h1 hg]
   ·rfl
  rw [hx,← hmk] at hs
  have hn:nbH (p::l)=p.2.hp tU8++nbH l:=by unfold nbH;rw [A36]
  refine ⟨Z++old.body.hp tU8,?_⟩
  rw [hn,← A34]
  refine (hZ.append_right _).trans ?_
  show (C8 (r.nd.set p.1.key.toNat _)++nbH l++_).Perm _
  rw [A34]
  refine (List.perm_append_comm.append_left _).trans ?_
  rw [← A34]
  refine (hs.append_right _).trans ?_
  rw [← A34]
  exact List.perm_append_comm.append_right _
theorem Azw {r:RSt} (h:RsOk r) {m k:Nat} {b:Bool} (hm:m<256):(r.th.set m b).getD k false=if k=m then b else Hc r k:=by
 unfold Hc
 rw [A18,A18,A39]
 by_cases e:k=m
 ·subst e;simp [h.th,hm]
 ·rw [A6u (fun h=>e h.symm),A6u e]
theorem Azx {r:RSt} (h:RsOk r) {m k:Nat} {x:Nd} (hm:m<256):(r.nd.set m x).getD k ⟨0,0,.nil⟩=if k=m then x else Hd r k:=by
 unfold Hd
 rw [A18,A18,A39]
 by_cases e:k=m
 ·subst e;simp [h.nd,hm]
 ·rw [A6u (fun h=>e h.symm),A6u e]
theorem Aws {ep:Wd} {r:RSt} {p:CS} (h:RsOk r) (hp:Asc p) {k:Nat}:Hc (O5 ep r p) k=(if (k:Int)=p.1.key then !p.1.gone else Hc r k)∧Hd (O5 ep r p) k=if (k:Int)=p.1.key then (if p.1.gone=true then ⟨0,0,.nil⟩ else ⟨p.1.key,ep,p.2⟩) else Hd r k:=by
 obtain ⟨m,hm,hm2⟩:=Dc hp.2.2
 have e:((k:Int)=p.1.key)=(k=m):=propext (by omega)
 refine ⟨?_,?_⟩
 ·show (r.th.set p.1.key.toNat _).getD k false=_
  rw [show p.1.key.toNat=m by omega,Azw h hm2]
  simp only [e]
 ·show (r.nd.set p.1.key.toNat _).getD k _=_
  rw [show p.1.key.toNat=m by omega,Azx h hm2]
  simp only [e]
theorem Wu {ep:Wd}:∀ {l:List CS} {r:RSt} {k:Nat},RsOk r→(∀ p∈l,Asc p)→(l.map (·.1.key)).Nodup →
  ((k:Int)∉l.map (·.1.key)∧Hc (B1 ep r l) k=Hc r k∧Hd (B1 ep r l) k=Hd r k)∨∃ p∈l,p.1.key=(k:Int)∧Hc (B1 ep r l) k=(!p.1.gone)∧(p.1.gone=false→Hd (B1 ep r l) k=⟨p.1.key,ep,p.2⟩)
 | [],r,k,h,_,_=> .inl ⟨List.not_mem_nil,rfl,rfl⟩
 | p::l,r,k,h,hl,hn=>by
  rw [A5x,A5c] at hn
  have hp:=hl p (.head _)
  obtain ⟨a1,a2⟩:=Aws (ep:=ep) h hp (k:=k)
  have ih:=Wu (ep:=ep) (l:=l) (r:=O5 ep r p) (k:=k) (Abx h) (fun x hx=>hl x (.tail _ hx)) hn.2
  show (_∧Hc (B1 ep (O5 ep r p) l) k=_∧Hd (B1 ep (O5 ep r p) l) k=_)∨∃ q∈p::l,q.1.key=(k:Int)∧Hc (B1 ep (O5 ep r p) l) k=_∧(q.1.gone=false→Hd (B1 ep (O5 ep r p) l) k=_)
  rcases ih with ⟨i1,i2,i3⟩ | ⟨q,i1,i2,i3,i4⟩
  ·by_cases e:(k:Int)=p.1.key
   ·rw [A6v e] at a1 a2
    exact .inr ⟨p,.head _,e.symm,by rw [i2,a1],fun hg=>by rw [i3,a2,hg];rfl⟩
   ·rw [A6u e] at a1 a2
    exact .inl ⟨by rw [A5x,A5y];exact fun h=>h.elim e i1,by rw [i2,a1],by rw [i3,a2]⟩
  ·exact .inr ⟨q,.tail _ i1,i2,i3,i4⟩
structure RSame (A:Ab) (nb:Nat) (r:RSt):Prop where
 ok:RsOk r
 ep:r.ep=A.last.ep
 vw:r.vw=A.vw
 viewed:r.viewed=A.viewed
 lim:r.lim=In nb
 nd:∀ k:Nat,k<256→Hc r k=(A.ix (k:Nat)).isSome∧∀ e b,A.ix (k:Nat)=some (e,b)→(Hd r k).body.list=b∧(Hd r k).ep.toNat≤e.toNat
theorem RSame.note {A:Ab} {nb:Nat} {r:RSt} (h:RSame A nb r) (v:Vw):RSame (A.note v) nb (r.note v):=by
 unfold Ab.note RSt.note
 rw [h.vw,h.viewed]
 split
 ·exact ⟨⟨h.ok.nd,h.ok.th⟩,h.ep,rfl,rfl,h.lim,h.nd⟩
 ·exact h
theorem RSame.same {A A':Ab} {nb:Nat} {r:RSt} (h:RSame A nb r) (h1:A'.last=A.last) (h2:A'.vw=A.vw) (h3:A'.viewed=A.viewed) (h4:A'.ix=A.ix):RSame A' nb r :=
 ⟨h.ok,by rw [h1];exact h.ep,by rw [h2];exact h.vw,by rw [h3];exact h.viewed,h.lim,by rw [h4];exact h.nd⟩
structure CSame (cs:List Chg) (l:List CS):Prop where
 eq:(l.map (·.1)).map M9=cs.map M9
 ok:∀ p∈l,Asc p
 nd:(l.map (·.1.key)).Nodup
theorem CSame.keys {cs:List Chg} {l:List CS} (h:CSame cs l):cs.map (·.key)=l.map (·.1.key):=by
 have:=A6r (List.map (·.1)) h.eq
 simp only [A51] at this
 exact this.symm
theorem CSame.at' {cs:List Chg} {l:List CS} (h:CSame cs l) {p:CS} (hp:p∈l):∃ c∈cs,c.key=p.1.key∧c.gone=p.1.gone∧c.body.list=p.1.body.list:=by
 have:M9 p.1∈cs.map M9:=by rw [← h.eq];exact List.mem_map_of_mem (List.mem_map_of_mem hp)
 obtain ⟨c,h1,h2⟩:=A53.1 this
 unfold M9 at h2
 simp only [A50] at h2
 exact ⟨c,h1,h2.1,h2.2.1,h2.2.2⟩
theorem CSame.live {A:Ab} {nb:Nat} {r:RSt} {ep:Wd} {cs:List Chg} {l:List CS} {z:Sg} (hc:CSame cs l) (h:RSame A nb r) (hA:Std A z):∀ k:Nat,k<256→Hc (B1 ep r l) k=Bg (cs.foldl Ev A.last.lv) (k:Nat):=fun k hk=>by
 have hn:=hc.nd
 rw [← hc.keys] at hn
 rcases Wu (ep:=ep) (k:=k) h.ok hc.ok hc.nd with ⟨h1,h2,_⟩ | ⟨p,h1,h2,h3,_⟩
 ·rw [h2,Jv (by rw [hc.keys];exact h1),(h.nd k hk).1,hA.live]
 ·obtain ⟨c,c1,c2,c3,_⟩:=hc.at' h1
  rw [h3,← c3,← h2,← c2]
  exact (Abu hn c1 (by rw [c2];exact (hc.ok p h1).2.2)).symm
theorem Aez {r:RSt} {l:Lv} (h:∀ k:Nat,k<256→Hc r k=Bg l (k:Nat)):∀ n,n≤256→Na r n=(C7 l n).length
 | 0,_=>rfl
 | n+1,hn=>by
  rw [Vy,A3x,← Aez h n (by omega)]
  show Na r n+(if Hc r n=true then 1 else 0)=_
  rw [h n (by omega)]
  split <;> rfl
theorem CSame.com {A A':Ab} {nb:Nat} {r:RSt} {ep:Wd} {cs:List Chg} {l:List CS} {z z':Sg} (hc:CSame cs l) (h:RSame A nb r) (hA:Std A z) (hA':Std A' z') (hC:ComA A ep cs A') (hlt:A.last.ep.toNat≤ep.toNat):RSame A' nb { B1 ep r l with ep:=ep,seen:=ep }:=by
 have hf:∀ l:List CS,(B1 ep r l).vw=r.vw∧(B1 ep r l).viewed=r.viewed∧(B1 ep r l).lim=r.lim:=fun l=>Wo (p:=fun l=>(B1 ep r l).vw=r.vw∧(B1 ep r l).viewed=r.viewed∧(B1 ep r l).lim=r.lim) ⟨rfl,rfl,rfl⟩ (fun xs x ih=>by rw [Jg];exact ih) l
 obtain ⟨f1,f2,f3⟩:=hf l
 have ho:=Ws (ep:=ep) (l:=l) h.ok
 refine ⟨⟨ho.nd,ho.th⟩,hC.ep.symm,by show (B1 ep r l).vw=_;rw [f1,h.vw,hC.vw],by show (B1 ep r l).viewed=_;rw [f2,h.viewed,hC.viewed],by show (B1 ep r l).lim=_;rw [f3,h.lim],fun k hk=> ?_⟩
 show Hc (B1 ep r l) k=_∧∀ (e:Wd) (b:List By),A'.ix (k:Nat)=some (e,b)→(Hd (B1 ep r l) k).body.list=b∧(Hd (B1 ep r l) k).ep.toNat≤e.toNat
 refine ⟨by rw [hA'.live,hC.lv];exact hc.live h hA k hk,fun e b he=> ?_⟩
 rcases Wu (ep:=ep) (k:=k) h.ok hc.ok hc.nd with ⟨h1,h2,h3⟩ | ⟨p,h1,h2,h3,h4⟩
 ·have hno:(k:Int)∉cs.map (·.key):=by rw [hc.keys];exact h1
  have hs:=hA'.live k
  rw [he,hC.lv,Jv hno,← hA.live] at hs
  obtain ⟨⟨e0,b0⟩,h5⟩:=Option.isSome_iff_exists.1 hs.symm
  have h6:=hC.oth k hno e0 b0 h5
  rw [he] at h6
  simp only [A4e,A50] at h6
  obtain ⟨h7,h8⟩:=(h.nd k hk).2 e0 b0 h5
  rw [h3,h6.1,h6.2]
  refine ⟨h7,?_⟩
  have:=hA.ep _ _ _ h5
  split <;> omega
 ·obtain ⟨c,c1,c2,c3,c4⟩:=hc.at' h1
  cases hg:p.1.gone with
  | true =>
   have hs:=hA'.live k
   rw [he,hC.lv,← hc.live (ep:=ep) h hA k hk,h3,hg] at hs
   cases hs
  | false =>
   have h5:=hC.chg c c1 (by rw [c3];exact hg)
   rw [c2,h2,he] at h5
   simp only [A4e,A50] at h5
   rw [h4 hg,h5.1,h5.2,c4]
   exact ⟨(hc.ok p h1).2.1 hg,A6h _⟩
def Mc (r:RSt) (ep:Wd) (cs:List Chg):Bool:= !(decide ((ep.toNat:Int)>(r.seen.toNat:Int)) && cs.all Eo) || !N9 (cs.map (·.key))
theorem Ae0:∀ {cs cs':List Chg},cs.map M9=cs'.map M9→cs.all Eo=cs'.all Eo∧cs.map (·.key)=cs'.map (·.key)
 | [],[],_=>⟨rfl,rfl⟩
 | [],_::_,h=>by cases h
 | _::_,[],h=>by cases h
 | c::cs,d::ds,h=>by
  simp only [A5x,A43] at h
  obtain ⟨h1,h2⟩:=Ae0 h.2
  have h3:=h.1
  unfold M9 at h3
  simp only [A50] at h3
  have h4:Eo c=Eo d:=by unfold Eo;rw [h3.1,h3.2.2]
  rw [A5w,A5w,h1,h4,A5x,A5x,h2,h3.1]
  exact ⟨rfl,rfl⟩
theorem Azy {r:RSt} {z:Sg} {ep:Wd} {cs cs':List Chg} (h:cs.map M9=cs'.map M9) (hs:r.seen=z.S.seen):Bo z ep cs=Mc r ep cs':=by
 obtain ⟨h1,h2⟩:=Ae0 h
 unfold Bo Mc Oa
 rw [h1,h2,hs]
end
section
open Go.K
variable {T:TypeId}
instance zer50:Zer Tryz.prog 50 (List.replicate 256 (.bool false)):=⟨by kernel_rfl⟩
instance fld52_3:Fld Tryz.prog 52 3 1025:=⟨⟨_,_,0,Tryz.underlying52,rfl,by kernel_rfl,rfl⟩⟩
instance fld52_4:Fld Tryz.prog 52 4 1026:=⟨⟨_,_,2,Tryz.underlying52,rfl,by kernel_rfl,rfl⟩⟩
instance fld52_5:Fld Tryz.prog 52 5 1029:=⟨⟨_,_,0,Tryz.underlying52,rfl,by kernel_rfl,rfl⟩⟩
instance fld52_6:Fld Tryz.prog 52 6 1030:=⟨⟨_,_,0,Tryz.underlying52,rfl,by kernel_rfl,rfl⟩⟩
section
variable {r:RSt}
theorem Si (h:RsOk r):(rsC r).length=1031:=by unfold rsC;rw [A3x,A3x,h.ndl,h.thl];rfl
theorem Ase (h:RsOk r):cut (rsC r) 0 1031=some (rsC r):=by have:=Kh (rsC r);rwa [Si h] at this
theorem Axg:Ih (.agg (rsC r).toArray)=some (rsC r):=by
  have h:(rsC r).all (·.oneCell')=true:=by
    unfold rsC
    rw [A41,A41,A4k,A4k]
    refine ⟨?_,?_,rfl⟩
    · rw [List.all_flatMap,A4l]
      intro x _
      cases x.body <;> rfl
    · rw [List.all_map,A4l]
      intro x _
      rfl
  simp [Ih,h]
theorem RsOk.tl (h:RsOk r) (i:Nat):1024+i=(r.nd.flatMap ndC).length+((r.th.map Value.bool).length+i):=by rw [h.ndl,h.thl];omega
theorem RsOk.nthT (h:RsOk r) {i:Nat} {v:Value} (hv:nth (rsT r) i=some v):nth (rsC r) (1024+i)=some v:=by
  unfold rsC
  rw [h.tl i,Hn,Hn]
  exact hv
theorem RsOk.setT (h:RsOk r) {i:Nat} {vs ys:List Value} (hv:A7 (rsT r) i vs=some ys):A7 (rsC r) (1024+i) vs=some (r.nd.flatMap ndC++(r.th.map Value.bool++ys)):=by
  unfold rsC
  rw [h.tl i]
  exact D8 (D8 hv)
theorem RsOk.nthS (h:RsOk r):nth (rsC r) 1025=some (wv r.seen):=h.nthT (i:=1) rfl
theorem RsOk.nthN (h:RsOk r):nth (rsC r) 1026=some (wv r.vw.num):=h.nthT (i:=2) rfl
theorem RsOk.nthB (h:RsOk r):nth (rsC r) 1029=some (.bool r.viewed):=h.nthT (i:=5) rfl
theorem RsOk.nthL (h:RsOk r):nth (rsC r) 1030=some (.int .i64 r.lim):=h.nthT (i:=6) rfl
theorem RsOk.setS (h:RsOk r) (e:Wd):A7 (rsC r) 1025 [wv e]=some (rsC { r with seen:=e }):=h.setT (i:=1) rfl
theorem RsOk.setV (h:RsOk r) (v:Vw):A7 (rsC r) 1026 (vwC v)=some (rsC { r with vw:=v }):=h.setT (i:=2) rfl
theorem RsOk.setB (h:RsOk r) (b:Bool):A7 (rsC r) 1029 [.bool b]=some (rsC { r with viewed:=b }):=h.setT (i:=5) rfl
theorem RsOk.cutV (h:RsOk r):cut (rsC r) 1026 3=some (vwC r.vw):=by
  refine cut_iff.2 ⟨?_,by rw [Si h];decide⟩
  unfold rsC
  rw [show 1026=(r.nd.flatMap ndC).length+((r.th.map Value.bool).length+2) by rw [h.ndl,h.thl],← A5k,List.drop_left,← A5k,List.drop_left]
  rfl
theorem Asf {m:Nat} (hm:16≤m∧m≤40):Does Tryz.prog 21 [.int .i64 (m:Nat)] [] (fun v H=>∃ d:Nat,v=ptr d∧H=(d,true,C (rsC (rs0 (3*(m:Int) - 29))) tRs)::[]):=by
  refine zF 9 Tryz.func21 ?_
  iterate 9 refine sb ?_
  refine Ae (Ps rfl rfl (by omega)) rfl ?_
  refine Ae (show Rd _ _ _ _ (.int .i64 (3*(m:Int) - 29)) from by rw [show (3:Int)*(m:Int) - 29=3*((m:Int) - 9) - 2 by omega];exact Fw rfl rfl (by omega)) rfl ?_
  refine Ae (show Rd _ _ _ _ (.agg (rsC (rs0 (3*(m:Int) - 29))).toArray) from Db rfl (by kernel_rfl)) rfl ?_
  refine Do rfl rfl (fun b8=> ?_)
  refine zC ?_
  exact zL (hR:=by exact ⟨b8,rfl,rfl⟩)
theorem Asg {d:Nat} (h:RsOk r):Does Tryz.prog 114 [ptr d] ((d,true,C (rsC r) tRs)::[]) (Is (.int .i64 (Na r 256)) ((d,true,C (rsC r) tRs)::[])):=by
  refine zF 18 Tryz.func114 ?_
  refine zC ?_
  refine Ar [0] kQ (fun (k:Nat)=>[(4,.int .i64 k),(3,.int .i64 (Na r k))]) (fun k=>((d,true,C (rsC r) tRs)::[])) (fun k=>k≤256) (fun k=>256 - k) (0) (A6j _) kP sP ?_
  rintro k h0
  have hle:=Aji r k
  have hsc:(Na r (k+1):Int)=(Na r k:Int)+if Hc r k=true then 1 else 0:=by show ((Na r k+(if Hc r k=true then 1 else 0):Nat):Int)=_;split <;> simp
  refine zC ?_
  refine Aa rfl (fun c6=> ?_) (fun c6=> ?_)
  · simp only [A4f,A2m] at c6
    iterate 11 refine sb ?_
    refine Ae (show Rd _ _ _ _ (.bool (Hc r k)) from Al rfl mM (h.nthTh (k:=k) (by omega) (by simp only [A33];omega))) rfl ?_
    refine zC ?_
    refine Aa rfl (fun c14=> ?_) (fun c14=> ?_)
    · skip
      rw [A6v c14] at hsc
      refine zC ?_
      first | exact ⟨k+1,by omega,by omega,by rw [hsc];exact kP,kP,_,sP⟩ | exact ⟨k+1,by omega,by omega,by rw [hsc,Int.add_zero];exact kP,kP,_,sP⟩
    · skip
      rw [A6u (by rw [c14];decide)] at hsc
      refine zC ?_
      first | exact ⟨k+1,by omega,by omega,by rw [hsc];exact kP,kP,_,sP⟩ | exact ⟨k+1,by omega,by omega,by rw [hsc,Int.add_zero];exact kP,kP,_,sP⟩
  · simp only [A4f,A2m] at c6
    have hk:k=256:=(by omega)
    subst hk
    refine zC ?_
    exact zS
theorem Ash {d:Nat} (h:RsOk r) {v:Vw}:Does Tryz.prog 70 [ptr d,.agg (vwC v).toArray] ((d,true,C (rsC r) tRs)::[]) (fun w H=>∃ d':Nat,w=ptr d'∧H=(d',true,C (rsC (r.note v)) tRs)::[]):=by
  refine zF 31 Tryz.func70 ?_
  refine zC ?_
  refine Cy rfl rfl (fun b3=> ?_)
  refine zA ?_
  refine Ae (Ao rfl mM (Ase h)) rfl ?_
  refine Ah rfl (fun b5=> ?_)
  refine Ac (cs':=rsC r) rfl rfl uD Axg (Si h) (G1 (by rw [Si h];kernel_rfl)) ?_
  refine zC ?_
  refine At [(15,[(0,false),(1,false),(2,false),(3,false),(4,false),(5,false),(6,false),(7,false),(8,false),(9,false),(10,false),(11,false),(12,false),(13,false),(14,false)])] (by kernel_rfl) ?_
  refine zA ?_
  refine Aj (Al rfl mM h.nthB) ?_
  refine Aj (D5 rfl) ?_
  refine sa ?_
  refine' Lz rfl rfl inferInstance rfl rfl rfl rfl rfl (fun hg14=> ?_) ?_
  rotate_left
  · try (simp at hg14;show _)
    iterate 13 refine sb ?_
    refine Aj (Al rfl mM h.nthN) ?_
    refine zC ?_
    exact D9 rfl sP
  refine zC ?_
  refine Aa rfl (fun c23=> ?_) (fun c23=> ?_)
  · skip
    have hc:(!r.viewed || decide (r.vw.num.toNat≤v.num.toNat))=true:=(by simpa using c23)
    have hr:r.note v={ r with vw:=vwM v,viewed:=true }:=(by unfold RSt.note;rw [A6v hc])
    iterate 13 refine sb ?_
    refine Ac (cs':=rsC { r with vw:=vwM v }) rfl rfl uD rfl rfl (h.setV (vwM v)) ?_
    refine zA ?_
    refine Ac (cs':=rsC { r with vw:=vwM v,viewed:=true }) rfl rfl uD rfl rfl (RsOk.setB (r:={ r with vw:=vwM v }) ⟨h.nd,h.th⟩ true) ?_
    refine zC ?_
    exact zL (hR:=by exact ⟨b5,rfl,by rw [hr]⟩)
  · skip
    have hc:¬ (!r.viewed || decide (r.vw.num.toNat≤v.num.toNat))=true:=(by simpa using c23)
    have hr:r.note v=r:=(by unfold RSt.note;rw [A6u hc])
    refine zC ?_
    exact zL (hR:=by exact ⟨b5,rfl,by rw [hr]⟩)
structure TkC (cs:List Chg) (i:Nat) (l:List CS) (t:List Bool):Prop where
  eq:l.map (·.1)=cs.take i
  ok:∀ p∈l,Asc p∧Eo p.1=true
  nd:(l.map (·.1.key)).Nodup
  tl:t.length=256
  th:∀ k:Nat,k<256→t.getD k false=decide ((k:Int)∈l.map (·.1.key))
theorem TkC.nil (cs:List Chg):TkC cs 0 [] (List.replicate 256 false):=⟨rfl,fun p h=>(by cases h),A5o,A20,fun k hk=>by rw [A18,A2l,A6v hk];simp⟩
theorem TkC.keys {cs:List Chg} {i:Nat} {l:List CS} {t:List Bool} (h:TkC cs i l t):l.map (·.1.key)=(cs.take i).map (·.key):=by rw [← h.eq,A51];rfl
theorem TkC.step {cs:List Chg} {i:Nat} {l:List CS} {t:List Bool} {c:Chg} {s:Sl By} (h:TkC cs i l t) (hg:cs[i]? =some c) (hc:Eo c=true) (h1:c.gone=true→s= .nil) (h2:c.gone=false→s.list=c.body.list) (ht:t.getD c.key.toNat false=false):TkC cs (i+1) (l++[(c,s)]) (t.set c.key.toNat true):=by
  have hv:Cd c.key=true:=by unfold Eo A9 at hc;simp only [A4k] at hc;exact hc.1
  obtain ⟨m,hm,hm2⟩:=Dc hv
  have hmk:c.key.toNat=m:=by omega
  have hno:c.key∉l.map (·.1.key):=by
    rw [hmk,h.th m hm2,A2m,← hm] at ht
    exact ht
  refine ⟨by rw [A48,h.eq,A4d,hg];rfl,fun p hp=> ?_,?_,by rw [A47];exact h.tl,fun k hk=> ?_⟩
  · rcases A49.1 hp with hp | hp
    · exact h.ok p hp
    · rw [A3z.1 hp];exact ⟨⟨h1,h2,hv⟩,hc⟩
  · rw [A48,A4b]
    refine ⟨h.nd,by simp,fun a ha b hb=> ?_⟩
    simp only [A5x,A52,A3z] at hb
    rw [hb]
    exact fun e=>hno (by rw [← e];exact ha)
  · rw [A18,A39,hmk,A48]
    by_cases e:m=k
    · subst e
      rw [A6v rfl,A6v (by rw [h.tl];exact hm2)]
      simp [hm]
    · rw [A6u e,← A18,h.th k hk]
      simp only [A5x,A52,A49,A3z]
      exact A4x.2 ⟨.inl,fun h=>h.resolve_right (by omega)⟩
theorem TkC.bad {cs:List Chg} {i:Nat} {l:List CS} {t:List Bool} {c:Chg} {ep:Wd} (h:TkC cs i l t) (hg:cs[i]? =some c) (hb:Eo c=false∨(Eo c=true∧t.getD c.key.toNat false=true)):Mc r ep cs=true:=by
  unfold Mc
  rcases hb with hb | ⟨hc,hb⟩
  · have:cs.all Eo=false:=by rw [List.all_eq_false];exact ⟨c,A3b hg,by rw [hb];decide⟩
    rw [this,Bool.and_false];rfl
  · have hv:Cd c.key=true:=by unfold Eo A9 at hc;simp only [A4k] at hc;exact hc.1
    obtain ⟨m,hm,hm2⟩:=Dc hv
    rw [show c.key.toNat=m by omega,h.th m hm2,A4f,← hm,h.keys] at hb
    have:N9 (cs.map (·.key))=false:=by
      rw [← Bool.not_eq_true,onceC_iff]
      intro hn
      have e:cs=cs.take i++c::cs.drop (i+1):=by
        obtain ⟨hi,rfl⟩:=List.getElem?_eq_some_iff.1 hg
        rw [List.getElem_cons_drop,A23]
      rw [e,A48,A4b] at hn
      exact hn.2.2 _ hb _ (by rw [A5x];exact .head _) rfl
    rw [this,Bool.not_false,Bool.or_true]
theorem TkC.done {cs:List Chg} {l:List CS} {t:List Bool} {ep:Wd} (h:TkC cs cs.length l t) (he:r.seen.toNat<ep.toNat):Mc r ep cs=false∧CSame cs l:=by
  have h1:=h.eq
  rw [A4u] at h1
  have hk:=h.keys
  rw [A4u] at hk
  refine ⟨?_,⟨by rw [h1],fun p hp=>(h.ok p hp).1,h.nd⟩⟩
  have ha:cs.all Eo=true:=by
    rw [A4l]
    intro c hc
    rw [← h1] at hc
    obtain ⟨p,hp,rfl⟩:=A53.1 hc
    exact (h.ok p hp).2
  have ho:N9 (cs.map (·.key))=true:=by rw [onceC_iff,← hk];exact h.nd
  unfold Mc
  rw [ha,ho,A5p (by omega)]
  rfl
theorem Asi {t:List Bool} {m o:Nat} (h:m<t.length) (ho:o=m):nth (t.map Value.bool) o=some (.bool (t.getD m false)):=by rw [ho,Aab,A18,A2i h];rfl
theorem Ame {t:List Bool} {m o:Nat} (h:m<t.length) (ho:o=m) (b:Bool):A7 (t.map Value.bool) o [.bool b]=some ((t.set m b).map Value.bool):=by rw [ho];exact Oi h
theorem Ahd {d:Nat} {ep:Wd} {cs:Sl Chg} (h:RsOk r) (hn:cs.list.length≤40) (hs:SmallC cs.list):Does Tryz.prog 71 [ptr d,wv ep,cs.val] ((d,true,C (rsC r) tRs)::(cs.hp tCg++(cbH cs.list++[])))
    (fun v H=>(∃ e:Int,v= .tuple #[ptr d,.int .i64 e]∧H=(d,true,C (rsC r) tRs)::(cs.hp tCg++(cbH cs.list++[]))∧((Mc r ep cs.list=true∧e=1)∨(Mc r ep cs.list=false∧e=40∧∃ l,CSame cs.list l∧r.lim<Na (B1 ep r l) 256))) ∨
      (∃ (d':Nat) (l:List CS),v= .tuple #[ptr d',.int .i64 0]∧H=(d',true,C (rsC { B1 ep r l with ep:=ep,seen:=ep }) tRs)::(nbH l++(cs.hp tCg++(cbH cs.list++[])))∧Mc r ep cs.list=false∧CSame cs.list l∧(Na (B1 ep r l) 256:Int)≤r.lim)):=by
  have hsm:=cs.small
  refine zF 95 Tryz.func71 ?_
  refine zA ?_
  refine Ae (Ao rfl mM (Ase h)) rfl ?_
  refine Ah rfl (fun b8=> ?_)
  refine Ac (cs':=rsC r) rfl rfl uD Axg (Si h) (G1 (by rw [Si h];kernel_rfl)) ?_
  refine zA ?_
  refine Ae (P3) rfl ?_
  refine Ah rfl (fun b9=> ?_)
  iterate 10 refine sb ?_
  refine Ae (Al rfl mM h.nthS) rfl ?_
  refine zC ?_
  refine Aa rfl (fun c21=> ?_) (fun c21=> ?_)
  · simp only [A4f,A2m] at c21
    have hb:Mc r ep cs.list=true:=(by unfold Mc;rw [decide_eq_false (by omega)];rfl)
    refine zC ?_
    exact zL (hR:=by exact .inl ⟨1,rfl,rfl,.inl ⟨hb,rfl⟩⟩)
  · simp only [A4f,A2m] at c21
    refine zC ?_
    refine Ar [0,1,2,8,9] kQ (fun (st:Nat×List CS×List Bool)=>[(10,.int .i64 st.1)]) (fun st=>((b8,true,C (rsC (B1 ep r st.2.1)) tRs)::(b9,true,C (st.2.2.map Value.bool) 50)::(nbH st.2.1++((d,true,C (rsC r) tRs)::(cs.hp tCg++(cbH cs.list++[])))))) (fun st=>st.1≤cs.list.length∧TkC cs.list st.1 st.2.1 st.2.2) (fun st=>cs.list.length - st.1) ((0,[],List.replicate 256 false)) ⟨A6j _,TkC.nil _⟩ kP (by rw [Asd,List.map_replicate];exact sP) ?_
    rintro ⟨i,l,t⟩ ⟨g0,g1⟩
    simp only at g0 g1
    have hro:RsOk (B1 ep r l):=Ws h
    refine zC ?_
    refine Aa rfl (fun c26=> ?_) (fun c26=> ?_)
    · simp only [A4f,A2m] at c26
      obtain ⟨c,hg⟩:∃ c,cs.list[i]? =some c:=⟨_,A2i (by omega)⟩
      rw [R8 hg]
      have hx:=hs c (A3b hg)
      refine zA ?_
      refine Ae (Az (s:=cs) rfl rfl (by omega)) rfl ?_
      refine Ae (Cq (s:=cs) (o:=0) rfl pL hg rfl rfl) rfl ?_
      refine Ah rfl (fun b11=> ?_)
      iterate 10 refine sb ?_
      refine sg ?_
      refine sa ?_
      refine sg ?_
      refine sa ?_
      refine' Kn rfl rfl inferInstance rfl rfl rfl rfl rfl (fun hg47=> ?_) ?_
      rotate_left
      · try (simp at hg47;show _)
        iterate 7 refine sb ?_
        refine Ae (show Rd _ _ _ _ (.bool (t.getD c.key.toNat false)) from Al rfl mM (Asi (m:=c.key.toNat) (by rw [g1.tl];omega) (by omega))) rfl ?_
        exact Ag ⟨rfl,rfl,⟨_,sP⟩⟩
      refine zC ?_
      refine Aa rfl (fun c52=> ?_) (fun c52=> ?_)
      · simp only [A40,A27,A4f,A2m] at c52
        have hb:Mc r ep cs.list=true:=g1.bad hg (by by_cases h9:Eo c=true;(refine .inr ⟨h9,?_⟩;unfold Eo A9 Cd at h9;simp only [A4k,A4f] at h9;rcases c52 with ((h8 | h8) | h8) | h8;omega;omega;omega;exact h8);exact .inl (by simpa using h9))
        refine zC ?_
        exact zL (hR:=by exact .inl ⟨1,rfl,rfl,.inl ⟨hb,rfl⟩⟩)
      · simp only [A40,A27,A4f,A2m] at c52
        have hck:Eo c=true∧t.getD c.key.toNat false=false:=⟨by unfold Eo A9 Cd;simp only [A4k,A4f];omega,c52.2⟩
        have hkr:0≤c.key∧c.key<256:=(by omega)
        obtain ⟨m,hm⟩:∃ m:Nat,m=c.key.toNat:=⟨_,rfl⟩
        iterate 7 refine sb ?_
        refine Ac (cs':=(t.set m true).map Value.bool) rfl rfl uD rfl rfl (Ame (m:=m) (by rw [g1.tl];omega) (by omega) _) ?_
        iterate 11 refine sb ?_
        refine Ac (cs':=rsC { B1 ep r l with th:=(B1 ep r l).th.set m (!c.gone) }) rfl rfl uD rfl rfl (hro.setTh (k:=m) (by omega) (by omega) _) ?_;have hr1:RsOk { B1 ep r l with th:=(B1 ep r l).th.set m (!c.gone) }:=⟨hro.nd,by rw [A47];exact hro.th⟩
        iterate 9 refine sb ?_
        refine Ac (cs':=rsC { B1 ep r l with th:=(B1 ep r l).th.set m (!c.gone),nd:=(B1 ep r l).nd.set m ⟨0,0,.nil⟩ }) rfl rfl uD rfl rfl (hr1.setNd (k:=m) (by omega) (by omega) ⟨0,0,.nil⟩) ?_;have hr2:RsOk { B1 ep r l with th:=(B1 ep r l).th.set m (!c.gone),nd:=(B1 ep r l).nd.set m ⟨0,0,.nil⟩ }:=⟨by rw [A47];exact hro.nd,hr1.th⟩
        refine zC ?_
        refine Aa rfl (fun c71=> ?_) (fun c71=> ?_)
        · skip
          have hgo:c.gone=false:=(by simpa using c71)
          refine At [(11,[(0,false),(1,false),(2,false),(3,false),(4,false),(6,false),(7,false),(10,false),(5,true),(8,true),(9,false)]),(12,[(11,false)]),(13,[(12,true)])] (by kernel_rfl) ?_
          refine zC ?_
          refine Am rfl rfl rfl rfl (fun b77=> ?_)
          refine zC ?_
          refine A5 (s:= .own b77 [] 0 [] ⟨by simp,A6h _,by simp⟩) (new:=c.body.list) (m:=c.body.list.length) rfl rfl (by rw [Sl.hp_own];exact pL) rfl (Jz pL) rfl rfl rfl rfl (by show (2*(0+_)+1024)*_≤_;omega) rfl (fun s80 h80 o80=> ?_)
          refine zA ?_
          refine Aj (Db rfl rfl) ?_
          refine zA ?_
          refine Aj (G3 rfl rfl (by omega)) ?_
          refine zA ?_
          refine Ac rfl rfl uD rfl rfl (hr2.setNd (k:=m) (by omega) (by omega) ⟨c.key,ep,s80⟩) ?_;simp only [A54]
          refine zC ?_
          first | exact ⟨(i+1,l++[(c,s80)],t.set m true),⟨by simp only;omega,by rw [hm];exact g1.step hg hck.1 (fun h9=>by rw [hgo] at h9;cases h9) (fun _=>h80) hck.2⟩,by simp only;omega,kP,kP,_,(by simp only;rw [Jg,T5];unfold O5;simp only [hgo,← hm];exact sP)⟩ | exact ⟨(i+1,l++[(c,.nil)],t.set m true),⟨by simp only;omega,by rw [hm];exact g1.step hg hck.1 (fun _=>rfl) (fun h9=>by rw [hgo] at h9;cases h9) hck.2⟩,by simp only;omega,kP,kP,_,(by simp only;rw [Jg,T5,Sl.hp_nil,A5b];unfold O5;simp only [hgo,← hm];exact sP)⟩
        · skip
          have hgo:c.gone=true:=(by simpa using c71)
          refine zC ?_
          first | exact ⟨(i+1,l++[(c,s80)],t.set m true),⟨by simp only;omega,by rw [hm];exact g1.step hg hck.1 (fun h9=>by rw [hgo] at h9;cases h9) (fun _=>h80) hck.2⟩,by simp only;omega,kP,kP,_,(by simp only;rw [Jg,T5];unfold O5;simp only [hgo,← hm];exact sP)⟩ | exact ⟨(i+1,l++[(c,.nil)],t.set m true),⟨by simp only;omega,by rw [hm];exact g1.step hg hck.1 (fun _=>rfl) (fun h9=>by rw [hgo] at h9;cases h9) hck.2⟩,by simp only;omega,kP,kP,_,(by simp only;rw [Jg,T5,Sl.hp_nil,A5b];unfold O5;simp only [hgo,← hm];exact sP)⟩
    · simp only [A4f,A2m] at c26
      have hi:i=cs.list.length:=(by omega)
      subst hi
      obtain ⟨hb,hC⟩:=g1.done (r:=r) (ep:=ep) (by omega)
      refine zC ?_
      refine At [(5,[(1,false),(2,false),(3,false),(4,false),(0,true)]),(6,[(5,false)])] (by kernel_rfl) ?_
      refine zA ?_
      refine Aj (Al rfl mM h.nthL) ?_
      refine zC ?_
      refine zI rfl (Asg hro) ?_
      refine zC ?_
      refine Aa rfl (fun c89=> ?_) (fun c89=> ?_)
      · simp only [A4f,A2m] at c89
        refine zC ?_
        exact zL (hR:=by exact .inl ⟨40,rfl,rfl,.inr ⟨hb,rfl,l,hC,c89⟩⟩)
      · simp only [A4f,A2m] at c89
        refine zA ?_
        refine Ac (cs':=rsC { B1 ep r l with ep:=ep }) rfl rfl uD rfl rfl (hro.setE _) ?_
        refine zA ?_
        refine Ac (cs':=rsC { B1 ep r l with ep:=ep,seen:=ep }) rfl rfl uD rfl rfl (RsOk.setS (r:={ B1 ep r l with ep:=ep }) ⟨hro.nd,hro.th⟩ _) ?_
        refine zC ?_
        exact zL (hR:=by exact .inr ⟨b8,l,rfl,rfl,hb,hC,by omega⟩)
theorem Asj {B' Z B N D:Hp} {x:K.Blk} (hZ:(B'++Z).Perm (B++N)):((x::(B'++D))++Z).Perm ((x::(N++D))++(B++[])):=by
  rw [A42,A4n,A4n]
  refine List.Perm.cons _ ?_
  have h1:(B'++D++Z).Perm (B'++Z++D):=by rw [A34,A34];exact List.perm_append_comm.append_left _
  have h2:(N++D++B).Perm (B++N++D):=by refine List.perm_append_comm.trans ?_;rw [A34]
  exact h1.trans ((hZ.append_right D).trans h2.symm)
theorem Ae1 {d:Nat} {ep:Wd} {cs:Sl Chg} (h:RsOk r) (hn:cs.list.length≤40) (hs:SmallC cs.list):Does Tryz.prog 71 [ptr d,wv ep,cs.val] ((d,true,C (rsC r) tRs)::(C8 r.nd++(cs.hp tCg++(cbH cs.list++[]))))
    (fun v H=>∃ (d':Nat) (e:Int) (r':RSt),v= .tuple #[ptr d',.int .i64 e]∧H=(d',true,C (rsC r') tRs)::(C8 r'.nd++(cs.hp tCg++(cbH cs.list++[]))) ∧
      ((d'=d∧r'=r∧((Mc r ep cs.list=true∧e=1)∨(Mc r ep cs.list=false∧e=40∧∃ l,CSame cs.list l∧r.lim<Na (B1 ep r l) 256))) ∨
       (e=0∧Mc r ep cs.list=false∧∃ l,CSame cs.list l∧(Na (B1 ep r l) 256:Int)≤r.lim∧r'={ B1 ep r l with ep:=ep,seen:=ep }))):=by
  refine (Ahd (d:=d) (ep:=ep) h hn hs).inn (F:=C8 r.nd++[]) sP fun v Y hh=> ?_
  rcases hh with ⟨e,rfl,rfl,h1⟩ | ⟨d',l,rfl,rfl,h1,h2,h3⟩
  · exact ⟨_,⟨d,e,r,rfl,rfl,.inl ⟨rfl,rfl,h1⟩⟩,_,_,aQ,sP⟩
  · refine ⟨_,⟨d',0,_,rfl,rfl,.inr ⟨rfl,h1,l,h2,h3,rfl⟩⟩,?_⟩
    obtain ⟨Z,hZ⟩:=Wt (ep:=ep) h h2.ok
    obtain ⟨F,hF⟩:=Wr (Asj (x:=(d',true,C (rsC { B1 ep r l with ep:=ep,seen:=ep }) tRs)) (D:=cs.hp tCg++(cbH cs.list++[])) hZ)
    exact ⟨_,F,.one,hF⟩
end
end
section
open Go.K
def Awp (t:TS) (c:Chip) (e:Int) (t':TS) (c':Chip):Prop:=(e=0∧t'=t∧c'=c)∨(e,t',c')=Bt t t.uses t.lost c
section
variable {c:Chip} {a:Nat} {t:Tab}
theorem Aey (ha:c.aC=a) (hu:t.u.list.length≤1000) (hl:t.l.list.length≤1000) (hn:0≤t.next) (har:0≤t.area∧t.area≤1) (hm:B0 c t.area t.at'=0):Does Tryz.prog 115 [ptr t.b] (Dd a t++(chH c++[]))
  (fun v H=>∃ (t':Tab) (e:Int) (c':Chip),v= .int .i64 e∧H=Dd a t'++(chH c'++[])∧t'.b=t.b∧Awp t.ts c e t'.ts c'):=by
 have hst:E6 c t.area t.at' (Dr t.version c.blocks.length t.u.list t.l.list)=0∨E6 c t.area t.at' (Dr t.version c.blocks.length t.u.list t.l.list)=33:=by unfold E6;split;exact .inr rfl;exact .inl hm
 rw [D0]
 simp only [A4n,A34,A5b]
 refine zF 37 Tryz.func115 ?_
 refine zC ?_
 refine At [(23,[(0,false),(1,false),(2,false),(3,false),(4,false),(5,false),(6,false),(7,false),(8,false),(9,false),(10,false),(11,false),(12,false),(13,false),(14,false),(15,false),(16,false),(17,false),(18,false),(19,false),(20,false),(21,true),(22,true)]),(24,[(23,true)]),(25,[(24,false)])] (by kernel_rfl) ?_
 refine zC ?_
 refine zI rfl (M7 ha) ?_
 refine zC ?_
 refine zI rfl (T3 (v:=t.version) (n:=c.blocks.length) hu hl) ?_
 refine zC ?_
 refine zI rfl (Zm (t:=t) ha) ?_
 refine zC ?_
 refine Aa rfl (fun c29=> ?_) (fun c29=> ?_)
 ·skip
  refine zC ?_
  refine Ch rfl (Qy (t:=t) (u:=t.u) (l:=t.l) ha hu hl hn har) sP rfl (fun v35 Y35 h35=> ?_)
  rcases h35 with ⟨t',e1,e2,e3,rfl,rfl,e4,e5⟩ | ⟨e,rfl,e1,rfl,e4,e5⟩
  all_goals
   refine A6 aQ ?_
   refine zC ?_
   exact Bb (Aw Tryz.results115 (Af rfl)) (by first | exact ⟨t',0,_,rfl,rfl,e1,.inr (Prod.ext e4.symm (Prod.ext e5 rfl))⟩ | exact ⟨t,e,_,rfl,rfl,rfl,.inr (Prod.ext e4.symm (Prod.ext e5 rfl))⟩) (by rw [D0];simp only [A4n,A34,A5b];first | (rw [e2,e3];exact sP) | exact sP)
 ·skip
  have h0:E6 c t.area t.at' (Dr t.version c.blocks.length t.u.list t.l.list)=0:=hst.resolve_right (by simpa using c29)
  refine zC ?_
  exact Bb (Aw Tryz.results115 (Af rfl)) (by exact ⟨t,_,c,rfl,rfl,rfl,.inl ⟨h0,rfl,rfl⟩⟩) (by rw [D0];simp only [A4n,A34,A5b];exact sP)
end
section
variable {d:Dsk} {n k:Nat} {V:Nat→Blk}
theorem Ahb (h:DD d n k V):Does Tryz.prog 75 [ptr d.dk] (dkH d)
  (fun v H=>∃ (t':Tab) (c':Chip) (e:Int),v= .int .i64 e∧H=dkH ⟨d.dk,t',c'⟩++[]∧Awp d.t.ts d.c e t'.ts c'):=by
 have hw:=h.di.wt
 have hwf:=h.di.wf
 have hu:d.t.u.list.length≤1000:=by have h1:d.t.u.list.length+6=n:=hwf.len;have h2:=hwf.n2;omega
 have hl:d.t.l.list.length≤1000:=by have h1:d.t.l.list.length≤4:=hwf.lost4;omega
 have hm:B0 d.c d.t.area d.t.at'=0:=by
  obtain ⟨a,h1,h2,b,h3,⟨_,h4,h5⟩,_⟩:=h.di.ti
  have h1:d.t.area=a:=h1
  have h4:0≤d.t.at':=h4
  have h5:d.t.at'<8:=h5
  obtain ⟨j,hj⟩:∃ j:Nat,d.t.at'=j:=⟨d.t.at'.toNat,by omega⟩
  rw [h1,hj]
  exact Aa6 h.di.up (by have:=h2.a2;have:=h2.ok.n1;omega) (by omega)
 rw [Eq]
 refine zF 8 Tryz.func75 ?_
 refine zC ?_
 refine Ch rfl (Aey (c:=d.c) (t:=d.t) rfl hu hl hw.next hw.area hm) sP rfl (fun v7 Y7 h7=> ?_)
 obtain ⟨t',e,c',rfl,rfl,hb,hR⟩:=h7
 have haC:c'.aC=d.c.aC:=(by rcases hR with ⟨_,_,h9⟩ | h9;rw [h9];have h8:=Vf d.t.ts d.t.ts.uses d.t.ts.lost d.c;rw [← h9] at h8;exact h8)
 refine A6 aQ ?_
 refine zC ?_
 exact Bb (Aw Tryz.results75 (Af rfl)) (by exact ⟨t',c',e,rfl,rfl,hR⟩) (by rw [Eq,haC];simp only [hb,A4n,A34,A5b];exact sP)
end
section
variable {n k nb:Nat} {q:Qt} {d:Dsk} {bs:List LB} {last:Int} {V:Nat→Blk} {R:Nat→List Pg}
theorem LZ.refresh {e:Int} {t':Tab} {c':Chip} (h:LZ n nb k q d bs last V R) (hk:k≤900000000000) (hq:q.n≤3) (hr:Awp d.t.ts d.c e t'.ts c') :
  FrA d.c c'∧((e=0∧LZ n nb (k+1) q ⟨d.dk,t',c'⟩ bs last V R)∨(e=30∧c'.off=true∧¬ d.c.after<0∧Later c' n (k+1) q.n V)):=by
 rcases hr with ⟨rfl,h1,rfl⟩ | hr
 ·exact ⟨FrA.refl _,.inl ⟨rfl,h.num,by show DV d.c t'.ts n (k+1) V;rw [h1];exact h.dv.mono (by omega),by show Acc q d.c t'.ts;rw [h1];exact h.acc,h.lv.mono (by omega)⟩⟩
 ·have ha:=h.acc.1
  obtain ⟨f,h1⟩:=h.dv.di.keep (by omega) (by omega) (by omega) h.dv.di.wf hr
  have fp:=f.fp
  have fw:=f.fw
  refine ⟨f.all,?_⟩
  rcases h1 with ⟨rfl,h2,h3,h4⟩ | ⟨rfl,h2,h3,h4,h5,h6,v,uu,ll,a,h7,h8,h9,h10⟩
  ·refine .inl ⟨rfl,h.num,⟨h2,fun l hl=> ?_⟩,⟨by show t'.ts.lost.length+FP c'+FW c'≤q.n;rw [h4];omega,fun h0=>by show t'.ts.uses=q.u;rw [h3];exact h.acc.2 h0⟩,h.lv.mono (by omega)⟩
   show c'.blocks[(at0 t'.ts.uses (l:Nat)).toNat]? =some (V l)
   have:=h.dv.us hl
   rw [h3,f.oth _ (by omega)]
   exact h.dv.vw l hl
  ·have hu:uu=d.t.ts.uses∧ll=d.t.ts.lost:=by rcases h10 with h10 | h10 <;> exact h10
   obtain ⟨rfl,rfl⟩:=hu
   refine .inr ⟨rfl,h2,h3,Iz h8 h9 (f.len.trans h.dv.di.len) h6 h5 (by omega) (by omega) fun i hi=> ?_⟩
   have:=h.dv.us hi
   rw [f.oth _ (by omega)]
   exact h.dv.vw i hi
theorem Ajg {k:By} {b:List By} (h:Cv k b=false):(Bf (Cj k b)).2.2.1=0:=by rw [Hl h]
theorem Ajh {k:By} (h:0<k.toNat∧k.toNat<255) (x:Wd):(Bf (Ud k x)).2.2.1=0:=Ajg (I1 h x)
theorem Amd:(Bf Aq).2.2.2≠0:=by rw [El Qj];decide
theorem OkPg.num {p:Pg} (h:OkPg p):(if (Bf p).2.2.2=0 then (Bf p).2.2.1 else 0)=0:=by
 rcases h with ⟨kind,b,_,h2,rfl⟩ | h
 ·rw [Ajg h2,ite_self]
 ·rw [A6u h.1]
theorem CntZ.mend {sq:Wd} {v:Blk} {r:List Pg} (u:CntZ sq v r) (h:BI v):I3 v 8=0:=by
 have hz:∀ j,j<8→(if (Bf (A0 v j)).2.2.2=0 then (Bf (A0 v j)).2.2.1 else 0)=0:=fun j hj=>by
  obtain ⟨w,hw⟩:=u.wr
  rcases (show j=0∨j=1∨(2≤j∧j<2+r.length)∨2+r.length≤j by omega) with rfl | rfl | ⟨h1,h2⟩ | h1
  ·rw [hw,Ajh (by decide),ite_self]
  ·rw [u.head,Ajh (by decide),ite_self]
  ·obtain ⟨i,rfl⟩:∃ i,j=2+i:=⟨j - 2,by omega⟩
   have hi:i<r.length:=by omega
   rw [u.recs i hi]
   exact (u.good _ (A4p hi)).num
  ·rw [h.pg hj (by rw [u.next];omega),A6u Amd]
 have:∀ j,j≤8→I3 v j=0:=fun j=>by
  induction j with
  | zero=>intro _;rfl
  | succ j ih=>intro hj;show I3 v j+_=0;rw [ih (by omega),hz j (by omega)];rfl
 exact this 8 (A6h _)
end
section
variable {L:Lg} {n k:Nat} {q:Qt} {V:Nat→Blk} {R:Nat→List Pg}
theorem Awq (h:LZ n L.nb k q L.d L.bs L.last V R) {b:Nat} (hb:b<L.nb) (hs:(bAt L.bs b).seq.toNat≠0):Does Tryz.prog 121 [ptr L.lg,.int .i64 (b:Nat)] (lgH L) (Is (.tuple #[.int .i64 0,.int .i64 0]) (lgH L)):=by
 have hf:=Atg (lg:=L.lg) (bb:=L.bb) (last:=L.last) h.dv h.num h.lv.len (b:=(b:Nat))
 have hsg:Nv L.bs (b:Nat)=true:=by unfold Nv;rw [A33];simp only [A4k,A4f];have:=h.lv.len;exact ⟨⟨by omega,by omega⟩,hs⟩
 rw [A6v hsg,A6v hsg,A33,(h.lv.us hb hs).cnt.mend (h.bi hb)] at hf
 rw [Dp]
 exact hf
theorem Awr {pr:Bool} {s:Sl Int} (hs:s.list.length≤1000):Does Tryz.prog 34 [ptr L.d.c.aC,.bool pr,s.val] (lgH L++(s.hp tI++[]))
  (fun v H=>∃ s':Sl Int,v= .tuple #[]∧H=lgH (L.chip (Gl L.d.c pr s'))++(s.hp tI++[])∧s'.list=s.list):=by
 rw [Dp];simp only [A4n,A34,A5b]
 refine (Asy (d:=L.d) (pr:=pr) hs).inn sP fun v Y ⟨s',h1,h2,h3⟩=>⟨_,⟨s',h1,rfl,h3⟩,?_⟩
 rw [h2,Dp];simp only [A4n,A34,A5b]
 show ∃ _ _,Ap _ _ _∧Split _ ((L.lg,true,C (lgC L.d.dk L.bb L.nb L.last) tLg)::(L.bb,true,C (lbs L.bs) tLB)::(dkH ⟨L.d.dk,L.d.t,Gl L.d.c pr s'⟩++(s.hp tI++[]))) _
 exact ⟨_,_,aQ,sP⟩
theorem Ahc (h:LZ n L.nb k q L.d L.bs L.last V R):Does Tryz.prog 75 [ptr L.d.dk] (lgH L)
  (fun v H=>∃ (t':Tab) (c':Chip) (e:Int),v= .int .i64 e∧H=lgH { L with d:=⟨L.d.dk,t',c'⟩ }++[]∧Awp L.d.t.ts L.d.c e t'.ts c'):=by
 rw [Dp]
 refine (Ahb (d:=L.d) h.dv).inn sP fun v Y ⟨t',c',e,h1,h2,h3⟩=>⟨_,⟨t',c',e,h1,rfl,h3⟩,?_⟩
 rw [h2,Dp]
 exact ⟨_,_,aQ,sP⟩
end
section
variable {n k:Nat} {q:Qt} {A:Ab} {z:Sg}
theorem WI.fail {m:Nat} {u:List Int} (h:WI n k ⟨0,u⟩ z) {s:Sl Int} (hs:s.list.length≤m) (hm:0<m):WI n k ⟨m,u⟩ ⟨z.S,z.L.chip (Gl z.L.d.c true s),z.R⟩:=by
 obtain ⟨h1,V,hZ⟩:=h
 refine ⟨h1,V,hZ.num,DV.fail hZ.dv true s,⟨?_,fun h0=>absurd h0 (by show ¬ m=0;omega)⟩,hZ.lv⟩
 have h2:=hZ.acc.1
 have e1:FP (Gl z.L.d.c true s)≤s.list.length:=A2z _ _
 have e2:FW (Gl z.L.d.c true s)=FW z.L.d.c:=rfl
 show z.L.d.t.ts.lost.length+FP (Gl z.L.d.c true s)+FW (Gl z.L.d.c true s)≤m
 have h2:z.L.d.t.ts.lost.length+FP z.L.d.c+FW z.L.d.c≤0:=h2
 omega
end
end
section
open Go.K
variable {T:TypeId}
section
variable {d:Dsk} {lg bb nb:Nat} {last:Int}
theorem Awt {b j:Int}:Does Tryz.prog 61 [ptr lg,.agg #[.int .i64 b,.int .i64 j]] ((lg,true,C (lgC d.dk bb nb last) tLg)::(dkH d++[]))
  (fun v H=>∃ (kd:By) (s:Sl By) (m e:Int),v= .tuple #[bv kd,s.val,.int .i64 m,.int .i64 e]∧H=s.hp tU8++((lg,true,C (lgC d.dk bb nb last) tLg)::(dkH d++[]))):=by
 refine zF 45 Tryz.func61 ?_
 refine zC ?_
 refine Cy rfl rfl (fun b3=> ?_)
 refine zC ?_
 refine Ng [] [(14,(.fork [(0,false),(1,false),(2,false),(3,false),(4,false),(5,false),(6,false),(7,false)] 8 (.one [(9,false),(10,false),(11,false),(12,true),(13,true)]) 12 (.one [(8,true),(9,false),(10,false),(11,false),(13,true)]))),(15,(.one [(14,false)]))] (by kernel_rfl) rfl (fun ops w0 H0 y=> ?_)
 refine Le ?_
 refine Mn ?_ rfl
 refine B4 (Cx rfl) rfl ?_
 refine B4 (G2 rfl) rfl ?_
 refine B4 (Cr rfl) rfl ?_
 refine B4 (Al rfl mM rfl) rfl ?_
 refine B4 (Cr rfl) rfl ?_
 refine B4 (Al rfl mM rfl) rfl ?_
 refine B4 (Cr rfl) rfl ?_
 refine B4 (Al rfl mM rfl) rfl ?_
 refine Av ⟨⟨_,sP⟩,?_,?_⟩
 refine B7 ?_
 refine zI rfl (Ip (d:=d) (b:=b) (k:=j)) ?_
 refine Ag ⟨rfl,⟨_,sP⟩,?_⟩
 refine Av ?_
 refine Gn ?_
 refine B4 (Cx rfl) rfl ?_
 refine B4 (Du rfl rfl) rfl ?_
 refine B4 (Du rfl rfl) rfl ?_
 refine B7 ?_
 refine Ah rfl (fun b8=> ?_)
 rw [Cc]
 refine Ag ⟨rfl,⟨_,sP⟩,?_⟩
 refine B7 ?_
 first | refine Ac rfl rfl uD (B9) (Ai) (Bi (by first | exact Ai | exact A20 ..)) ?_ | refine Ac rfl rfl uD rfl rfl rfl ?_
 refine Ag ⟨rfl,⟨_,sP⟩,?_⟩
 refine Av ?_
 rotate_left
 refine B7 ?_
 refine Ah rfl (fun b8=> ?_)
 rw [Cc]
 refine Ag ⟨rfl,⟨_,sP⟩,?_⟩
 refine Av ?_
 refine Gn ?_
 refine B7 ?_
 refine zI rfl (Ip (d:=d) (b:=b) (k:=j)) ?_
 refine Ag ⟨rfl,⟨_,sP⟩,?_⟩
 refine B4 (Cx rfl) rfl ?_
 refine B4 (Du rfl rfl) rfl ?_
 refine B4 (Du rfl rfl) rfl ?_
 refine B7 ?_
 first | refine Ac rfl rfl uD (B9) (Ai) (Bi (by first | exact Ai | exact A20 ..)) ?_ | refine Ac rfl rfl uD rfl rfl rfl ?_
 refine Ag ⟨rfl,⟨_,sP⟩,?_⟩
 refine Av ?_
 rotate_left
 all_goals
  refine Le ?_
  refine Gn ?_
  refine B4 (Km rfl) rfl ?_
  refine Av ?_
  refine Rk ?_
  refine zC ?_
  refine Aa rfl (fun c26=> ?_) (fun c26=> ?_)
  ·try simp at c26
   refine zC ?_
   exact Bb (Py Tryz.results61 (Af rfl) (Af rfl) (Af rfl) (Af rfl)) (by exact ⟨0,Sl.nil,0,_,rfl,rfl⟩) (by rw [Sl.hp_nil,A5b];exact sP)
  ·try simp at c26
   refine zA ?_
   refine Ae (Ao rfl mM (by first | exact Ax | rfl)) rfl ?_
   refine zE rfl (Ka (p:=B3 d.c (atD d.t.ts b) j)) ?_
   rintro _ _ ⟨s,rfl,rfl,hs,ho⟩
   refine zW ?_
   refine Aa rfl (fun c40=> ?_) (fun c40=> ?_)
   ·try simp at c40
    refine zC ?_
    exact Bb (Py Tryz.results61 (Af rfl) (Af rfl) (Af rfl) (Af rfl)) (by exact ⟨0,Sl.nil,0,20,rfl,rfl⟩) (by rw [Sl.hp_nil,A5b];exact sP)
   ·try simp at c40
    refine zC ?_
    exact zL (hR:=by exact ⟨_,s,_,_,rfl,rfl⟩)
end
theorem lg_getA {L:Lg} {b j:Int}:Does Tryz.prog 61 [ptr L.lg,.agg #[.int .i64 b,.int .i64 j]] (lgH L)
  (fun v H=>∃ (kd:By) (s:Sl By) (m e:Int),v= .tuple #[bv kd,s.val,.int .i64 m,.int .i64 e]∧H=s.hp tU8++(lgH L++[])):=by
 rw [Dp]
 refine (Awt (d:=L.d) (lg:=L.lg) (bb:=L.bb) (nb:=L.nb) (last:=L.last) (b:=b) (j:=j)).inn sP fun v Y ⟨kd,s,m,e,h1,h2⟩=>⟨_,⟨kd,s,m,e,h1,rfl⟩,?_⟩
 rw [h2]
 simp only [A4n,A34,A5b]
 exact ⟨_,_,aQ,sP⟩
section
variable {n k:Nat} {q:Qt} {z:Sg} {A:Ab}
theorem Ahe (h:WI n k q z) {b:Int}:Does Tryz.prog 120 [ptr z.S.st,.int .i64 b] ((z.S.st,true,C (stC z.S) tSt)::(z.S.ib,true,z.S.idx.obj .i64)::(z.S.pb,true,z.S.pend.obj .i64)::(lgH z.L++[]))
  (fun v H=>∃ (g:Seg) (la ok:Bool),v= .tuple #[.agg (Uj g).toArray,.bool la,.bool ok]∧H=(z.S.st,true,C (stC z.S) tSt)::(z.S.ib,true,z.S.idx.obj .i64)::(z.S.pb,true,z.S.pend.obj .i64)::(lgH z.L++[])):=by
 obtain ⟨V,hZ⟩:=h.2
 have hnb:z.L.nb≤40:=(by have:=hZ.num;have:=hZ.dv.di.wf.n2;omega)
 refine zF 34 Tryz.func120 ?_
 refine zC ?_
 refine Ah rfl (fun b4=> ?_)
 refine zA ?_
 refine Ae (show Rd _ _ _ _ (ptr z.L.lg) from by rw [← h.1];exact Al rfl mM rfl) rfl ?_
 refine zE rfl (Qp hZ (by omega)) ?_
 rintro _ _ ⟨s,l0,rfl,rfl,hp0,hso,hpm,hst,hro,hln⟩
 refine zW ?_
 have hsn:s.list.length≤40:=(by omega)
 refine Ar [0,1,4,7,15,16] kQ (fun (i:Nat)=>[(17,.int .i64 i)]) (fun i=>((b4,true,C (Uj sg0) Hm)::((z.S.st,true,C (stC z.S) tSt)::(z.S.ib,true,z.S.idx.obj .i64)::(z.S.pb,true,z.S.pend.obj .i64)::(lgH z.L++(s.hp Hm++[]))))) (fun i=>i≤s.list.length) (fun i=>s.list.length - i) (0) (A6j _) kP sP ?_
 rintro i g0
 refine zC ?_
 refine Aa rfl (fun c18=> ?_) (fun c18=> ?_)
 ·simp only [A4f,A2m] at c18
  obtain ⟨g,hg⟩:∃ g,s.list[i]? =some g:=⟨_,A2i (by omega)⟩
  refine zA ?_
  refine Ae (Az (s:=s) rfl rfl (by omega)) rfl ?_
  refine Ae (Cq (s:=s) (o:=0) rfl pL hg rfl rfl) rfl ?_
  refine Ah rfl (fun b9=> ?_)
  refine zC ?_
  refine Aa rfl (fun c25=> ?_) (fun c25=> ?_)
  ·try simp at c25
   refine zC ?_
   exact zL (hR:=by exact ⟨g,_,true,rfl,rfl⟩)
  ·try simp at c25
   refine zC ?_
   exact ⟨i+1,by omega,by omega,lZ⟩
 ·simp only [A4f,A2m] at c18
  refine zC ?_
  exact zL (hR:=by exact ⟨sg0,false,false,rfl,rfl⟩)
theorem Ae2 (h:WI n k q z) {b:Nat} (hb:b<z.L.nb) (hs:(bAt z.L.bs b).seq.toNat≠0):Does Tryz.prog 78 [ptr z.S.st,.int .i64 (b:Nat)] ((z.S.st,true,C (stC z.S) tSt)::(z.S.ib,true,z.S.idx.obj .i64)::(z.S.pb,true,z.S.pend.obj .i64)::(lgH z.L++[])) (Is (.int .i64 0) ((z.S.st,true,C (stC z.S) tSt)::(z.S.ib,true,z.S.idx.obj .i64)::(z.S.pb,true,z.S.pend.obj .i64)::(lgH z.L++[]))):=by
 refine zF 65 Tryz.func78 ?_
 refine zC ?_
 refine zE rfl (Ahe h (b:=(b:Nat))) ?_
 rintro _ _ ⟨g,la,ok,rfl,rfl⟩
 refine zW ?_
 refine Ah rfl (fun b5=> ?_)
 refine zC ?_
 refine Aa rfl (fun c19=> ?_) (fun c19=> ?_)
 ·try simp at c19
  refine zC ?_
  exact zS
 ·try simp at c19
  refine zA ?_
  refine Ae (show Rd _ _ _ _ (ptr z.L.lg) from by rw [← h.1];exact Al rfl mM rfl) rfl ?_
  refine zC ?_
  refine zI rfl (Awq h.2.choose_spec hb hs) ?_
  iterate 13 refine sb ?_
  refine sg ?_
  refine sa ?_
  refine' Kn (u:=false) rfl rfl inferInstance rfl rfl rfl rfl rfl (fun hg35=>absurd hg35 (by simp)) ?_
  refine zC ?_
  refine Es rfl ?_
  refine zC ?_
  exact zS
def Sg.disk (z:Sg) (t':Tab) (c':Chip):Sg:=⟨z.S,{ z.L with d:=⟨z.L.d.dk,t',c'⟩ },z.R⟩
theorem Std.disk (h:Std A z) (t':Tab) (c':Chip):Std A (z.disk t' c') :=
 ⟨⟨h.rz.last,h.rz.vw,h.rz.viewed,fun k=>h.rz.ix k,fun k=>h.rz.pd k,h.rz.la,h.rz.va,h.rz.kd,h.rz.nd,h.rz.cm,h.rz.vs⟩,h.seen,h.stray,h.strk,h.hurt,h.live,h.ep,h.ls,h.l0,h.sum,h.lim,h.nb4,h.fr,h.vwm,h.v0⟩
theorem Std.getV (h:Std A z) (hw:WI n k q z) (hv:z.S.viewed=true):Does Tryz.prog 61 [ptr z.L.lg,.agg #[.int .i64 z.S.va.1,.int .i64 z.S.va.2]] (lgH z.L)
  (fun v H=>∃ (kd:By) (s:Sl By),v= .tuple #[bv kd,s.val,.int .i64 0,.int .i64 0]∧H=s.hp tU8++(lgH z.L++[])):=by
 obtain ⟨v,_,b,j,e,hb,hp⟩:=h.rz.va (by rw [← h.rz.viewed];exact hv)
 rw [e]
 refine (Qq hw.2.choose_spec hb hp (Rc.hi (.vw v)) (Rc.wr (r:= .vw v) trivial)).mono ?_
 rintro w H ⟨s,h1,h2,_,_⟩
 exact ⟨_,s,h1,h2⟩
theorem Std.getL (h:Std A z) (hw:WI n k q z):Does Tryz.prog 61 [ptr z.L.lg,.agg #[.int .i64 z.S.la.1,.int .i64 z.S.la.2]] (lgH z.L)
  (fun v H=>∃ (kd:By) (s:Sl By) (m e:Int),v= .tuple #[bv kd,s.val,.int .i64 m,.int .i64 e]∧H=s.hp tU8++(lgH z.L++[])∧(0<z.S.last.ep.toNat→e=0)):=by
 by_cases hl:0<z.S.last.ep.toNat
 ·obtain ⟨b,j,e,hb,hp⟩:=h.rz.la (by rw [← h.rz.last];exact hl)
  rw [e]
  refine (Qq hw.2.choose_spec hb hp (Rc.hi (.cm A.last)) (Rc.wr (r:= .cm A.last) trivial)).mono ?_
  rintro w H ⟨s,h1,h2,_,_⟩
  exact ⟨_,s,0,0,h1,h2,fun _=>rfl⟩
 ·refine lg_getA.mono ?_
  rintro w H ⟨kd,s,m,e,h1,h2⟩
  exact ⟨kd,s,m,e,h1,h2,fun h9=>absurd h9 hl⟩
theorem Ae3 (h:Std A z) (hw:WI n k q z) (hk:k≤300000000000) (hq:q.n≤3) (haf:z.L.d.c.after<0):Does Tryz.prog 42 [ptr z.S.st] ((z.S.st,true,C (stC z.S) tSt)::(z.S.ib,true,z.S.idx.obj .i64)::(z.S.pb,true,z.S.pend.obj .i64)::(lgH z.L++[]))
  (fun v H=>∃ (t':Tab) (c':Chip),v= .int .i64 0∧H=(z.S.st,true,C (stC z.S) tSt)::(z.S.ib,true,z.S.idx.obj .i64)::(z.S.pb,true,z.S.pend.obj .i64)::(lgH (z.disk t' c').L++[])∧WI n (k+1) q (z.disk t' c')∧FrA z.L.d.c c'):=by
 refine zF 126 Tryz.func42 ?_
 refine zA ?_
 refine Ae (show Rd _ _ _ _ (ptr z.L.lg) from by rw [← hw.1];exact Al rfl mM rfl) rfl ?_
 refine zA ?_
 refine Ae (M6 (L:=z.L) rfl pL) rfl ?_
 refine Ch rfl (Ahc hw.2.choose_spec) sP rfl (fun v25 Y25 h25=> ?_)
 obtain ⟨t',c',e25,rfl,rfl,hR⟩:=h25
 obtain ⟨hF,hE⟩:=hw.2.choose_spec.refresh (by omega) hq hR
 obtain ⟨rfl,hZ⟩:=hE.resolve_right (fun h9=>h9.2.2.1 haf)
 have hw':WI n (k+1) q (z.disk t' c'):=⟨hw.1,_,hZ⟩
 have hs':=h.disk t' c'
 obtain ⟨z',hz'⟩:∃ z',z'=z.disk t' c':=⟨_,rfl⟩
 rw [show ({ z.L with d:=⟨z.L.d.dk,t',c'⟩ }:Lg)=z'.L from by rw [hz'];rfl,show z.S=z'.S from by rw [hz'];rfl]
 rw [← hz'] at hw' hs'
 refine A6 aQ ?_
 refine zC ?_
 refine Ay rfl ?_
 refine zA ?_
 refine Ae (Al rfl mM (Gj rfl)) rfl ?_
 refine zC ?_
 refine Aa rfl (fun c32=> ?_) (fun c32=> ?_)
 ·try simp at c32
  refine zC ?_
  refine At [(8,[(0,false),(1,false),(2,false),(3,false),(4,false),(5,false),(6,false),(7,false)]),(9,[(8,true)]),(18,[(9,false),(10,false),(11,false),(12,false),(13,false),(14,false),(15,false),(16,false),(17,false)])] (by kernel_rfl) ?_
  refine zA ?_
  refine Aj (show Rd _ _ _ _ (ptr z'.L.lg) from by rw [← hw'.1];exact Al rfl mM rfl) ?_
  refine zA ?_
  refine Aj (Ao rfl mM (M3 rfl)) ?_
  refine zC ?_
  refine zE rfl (hs'.getV hw' c32) ?_
  rintro _ _ ⟨kd,s42,rfl,rfl⟩
  refine zW ?_
  refine Ay rfl ?_
  iterate 2 refine sa ?_
  refine Rr [0] kQ ([]) ((z'.S.st,true,C (stC z'.S) tSt)::(z'.S.ib,true,z'.S.idx.obj .i64)::(z'.S.pb,true,z'.S.pend.obj .i64)::(lgH z'.L++[])) ?_ ?_
  ·refine zC ?_
   refine At [(8,[(0,false),(1,false),(2,false),(3,false),(4,false),(5,false),(6,false),(7,false)]),(9,[(8,true)]),(18,[(9,false),(10,false),(11,false),(12,false),(13,false),(14,false),(15,false),(16,false),(17,false)])] (by kernel_rfl) ?_
   refine zA ?_
   refine Aj (show Rd _ _ _ _ (ptr z'.L.lg) from by rw [← hw'.1];exact Al rfl mM rfl) ?_
   refine zA ?_
   refine Aj (Ao rfl mM (M3 rfl)) ?_
   refine zC ?_
   refine zE rfl (hs'.getL hw') ?_
   rintro _ _ ⟨kd2,s71,m71,e71,rfl,rfl,he71⟩
   refine A6 aQ ?_
   iterate 24 refine sb ?_
   refine' G4 rfl rfl inferInstance rfl rfl rfl rfl rfl (fun hg82=> ?_) ?_
   rotate_left
   ·try (simp at hg82;show _)
    refine zC ?_
    exact Ag ⟨rfl,rfl,⟨_,sP⟩⟩
   refine zC ?_
   refine Aa rfl (fun c89=> ?_) (fun c89=> ?_)
   ·skip
    exfalso;simp at c89;have:=he71 (by omega);omega
   ·skip
    refine zC ?_
    try refine Ag ?_
    exact cZ rfl
  refine zA ?_
  refine Ae (show Rd _ _ _ _ (ptr z'.L.lg) from by rw [← hw'.1];exact Al rfl mM rfl) rfl ?_
  refine zE rfl (Qp hw'.2.choose_spec (by have:=hw'.nb40;omega)) ?_
  rintro _ _ ⟨s,l0,rfl,rfl,hp0,hso,hpm,hst,hro,hln⟩
  refine zW ?_
  have hSO:SegsOf z' s.list:=⟨hpm,hst⟩
  have hsn:s.list.length≤40:=(by have:=hw'.nb40;omega)
  refine Ar [0,112,113] kQ (fun (i:Nat)=>[(114,.int .i64 i)]) (fun i=>((z'.S.st,true,C (stC z'.S) tSt)::(z'.S.ib,true,z'.S.idx.obj .i64)::(z'.S.pb,true,z'.S.pend.obj .i64)::(lgH z'.L++(s.hp Hm++[])))) (fun i=>i≤s.list.length) (fun i=>s.list.length - i) (0) (A6j _) kP sP ?_
  rintro i g0
  refine zC ?_
  refine Aa rfl (fun c115=> ?_) (fun c115=> ?_)
  ·simp only [A4f,A2m] at c115
   obtain ⟨g,hg⟩:∃ g,s.list[i]? =some g:=⟨_,A2i (by omega)⟩
   obtain ⟨bN,hbN,hsq,hgb,_⟩:=hSO.mem (A3b hg)
   refine zA ?_
   refine Ae (Az (s:=s) rfl rfl (by omega)) rfl ?_
   refine Ae (Cq (s:=s) (o:=0) rfl pL hg rfl rfl) rfl ?_
   refine Ah rfl (fun b16=> ?_)
   iterate 7 refine sb ?_
   refine Ae (show Rd _ _ _ _ (.int .i64 (bN:Nat)) from by rw [← hgb];exact Al rfl mM rfl) rfl ?_
   refine zI rfl (Ae2 hw' hbN hsq) ?_
   refine zC ?_
   refine Ay rfl ?_
   refine zC ?_
   exact ⟨i+1,by omega,by omega,lZ⟩
  ·simp only [A4f,A2m] at c115
   refine zC ?_
   exact Bb (Aw Tryz.results42 (Af rfl)) (by exact ⟨t',c',rfl,rfl,by rw [← hz'];exact hw',hF⟩) (by rw [hz'];exact sP)
 ·try simp at c32
  refine zC ?_
  refine At [(8,[(0,false),(1,false),(2,false),(3,false),(4,false),(5,false),(6,false),(7,false)]),(9,[(8,true)]),(18,[(9,false),(10,false),(11,false),(12,false),(13,false),(14,false),(15,false),(16,false),(17,false)])] (by kernel_rfl) ?_
  refine zA ?_
  refine Aj (show Rd _ _ _ _ (ptr z'.L.lg) from by rw [← hw'.1];exact Al rfl mM rfl) ?_
  refine zA ?_
  refine Aj (Ao rfl mM (M3 rfl)) ?_
  refine zC ?_
  refine zE rfl (hs'.getL hw') ?_
  rintro _ _ ⟨kd2,s71,m71,e71,rfl,rfl,he71⟩
  refine A6 aQ ?_
  iterate 24 refine sb ?_
  refine' G4 rfl rfl inferInstance rfl rfl rfl rfl rfl (fun hg82=> ?_) ?_
  rotate_left
  ·try (simp at hg82;show _)
   refine zC ?_
   exact Ag ⟨rfl,rfl,⟨_,sP⟩⟩
  refine zC ?_
  refine Aa rfl (fun c89=> ?_) (fun c89=> ?_)
  ·skip
   exfalso;simp at c89;have:=he71 (by omega);omega
  ·skip
   refine zA ?_
   refine Ae (show Rd _ _ _ _ (ptr z'.L.lg) from by rw [← hw'.1];exact Al rfl mM rfl) rfl ?_
   refine zE rfl (Qp hw'.2.choose_spec (by have:=hw'.nb40;omega)) ?_
   rintro _ _ ⟨s,l0,rfl,rfl,hp0,hso,hpm,hst,hro,hln⟩
   refine zW ?_
   have hSO:SegsOf z' s.list:=⟨hpm,hst⟩
   have hsn:s.list.length≤40:=(by have:=hw'.nb40;omega)
   refine Ar [0,112,113] kQ (fun (i:Nat)=>[(114,.int .i64 i)]) (fun i=>((z'.S.st,true,C (stC z'.S) tSt)::(z'.S.ib,true,z'.S.idx.obj .i64)::(z'.S.pb,true,z'.S.pend.obj .i64)::(lgH z'.L++(s.hp Hm++[])))) (fun i=>i≤s.list.length) (fun i=>s.list.length - i) (0) (A6j _) kP sP ?_
   rintro i g0
   refine zC ?_
   refine Aa rfl (fun c115=> ?_) (fun c115=> ?_)
   ·simp only [A4f,A2m] at c115
    obtain ⟨g,hg⟩:∃ g,s.list[i]? =some g:=⟨_,A2i (by omega)⟩
    obtain ⟨bN,hbN,hsq,hgb,_⟩:=hSO.mem (A3b hg)
    refine zA ?_
    refine Ae (Az (s:=s) rfl rfl (by omega)) rfl ?_
    refine Ae (Cq (s:=s) (o:=0) rfl pL hg rfl rfl) rfl ?_
    refine Ah rfl (fun b16=> ?_)
    iterate 7 refine sb ?_
    refine Ae (show Rd _ _ _ _ (.int .i64 (bN:Nat)) from by rw [← hgb];exact Al rfl mM rfl) rfl ?_
    refine zI rfl (Ae2 hw' hbN hsq) ?_
    refine zC ?_
    refine Ay rfl ?_
    refine zC ?_
    exact ⟨i+1,by omega,by omega,lZ⟩
   ·simp only [A4f,A2m] at c115
    refine zC ?_
    exact Bb (Aw Tryz.results42 (Af rfl)) (by exact ⟨t',c',rfl,rfl,by rw [← hz'];exact hw',hF⟩) (by rw [hz'];exact sP)
end
end
end Go.Proofs.YtpmojdippdlcaaaGreatDoor
