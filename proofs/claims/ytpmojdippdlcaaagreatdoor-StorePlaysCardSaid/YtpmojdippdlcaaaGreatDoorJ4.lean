/- every call of any script on a store answers as the document says, while acts of the chip fail, as long as there are spares, and leaves the document's nodes, also when it is opened again; its conditions are the statement's own: the bounds of scripts, bodies and fails; the conditions are the statement's own: part 4. -/
import Derived.Test.YtpmojdippdlcaaaGreatDoorJ2
import Derived.Test.YtpmojdippdlcaaaGreatDoorJ3
import Derived.Test.YtpmojdippdlcaaaGreatDoorJ1
import Derived.Shelf.SortM.Plain
import Derived.Shelf.SortM.SortNone
import Derived.Ground.SlgmProg
import Derived.Shelf.Slices.CompactI
import Derived.Ground.Names2Prog
set_option linter.unusedVariables false
set_option linter.unusedSimpArgs false
set_option maxRecDepth 100000
set_option maxHeartbeats 1000000
set_option synthInstance.maxSize 4000
set_option synthInstance.maxHeartbeats 400000
namespace Go.Proofs.YtpmojdippdlcaaaGreatDoor
section
open Go.K
theorem DV.again {c:Chip} {t:TS} {n k:Nat} {V:Nat→Blk} (h:DV c t n k V):∃ t2,Di c=(0,t2)∧t2.lost=t.lost∧t2.uses=t.uses∧DV c t2 n k V:=by
 obtain ⟨a,_,hh,_⟩:=h.di.ti
 obtain ⟨t2,o1,o2,o3,o4⟩:=Xn h.di.up hh h.di.wf h.di.len h.di.bs h.di.cnt h.di.ver
 exact ⟨t2,o1,o4,o3,o2,fun l hl=>by rw [o3];exact h.vw l hl⟩
theorem Axx {p:Pg} (h:(Bf p).2.2.2=0):Bh p=false:=by
 cases hb:Bh p with
 | false=>rfl
 | true=>rw [El hb] at h;grind
theorem Axy {kind:By} (h:0<kind.toNat∧kind.toNat<255) (x:Wd):Bh (Ud kind x)=false:=Axx (by unfold Ud;rw [Hl (I1 h x)])
theorem Aj3 {p:Pg} (h:Bh p=true):(Ef p).2.2.2≠0:=by
 unfold Ef
 rw [El h]
 decide
theorem BI.pg {v:Blk} (h:BI v) {j:Nat} (hj:j<8) (hn:v.next≤j):A0 v j=Aq:=by
 rw [Fh hj]
 exact h.bl j hj hn
theorem Ach {bs cs:List LB}:∀ k,(∀ j<k,(bAt bs j).seq=(bAt cs j).seq)→D7 bs k=D7 cs k
 | 0,_=>rfl
 | k+1,h=>by
  have ih:=Ach k fun j hj=>h j (by omega)
  have hr:=Rh cs k
  unfold D7
  rw [ih,h k (by omega)]
  grind
theorem Gm {bs cs:List LB}:∀ k,(∀ j<k,((bAt bs j).seq.toNat=0↔(bAt cs j).seq.toNat=0))→Bv bs k=Bv cs k
 | 0,_=>rfl
 | k+1,h=>by
  have ih:=Gm k fun j hj=>h j (by omega)
  have:=h k (by omega)
  unfold Bv
  rw [ih]
  grind
section
variable {n nb k:Nat} {q:Qt} {d:Dsk} {bs:List LB} {last:Int} {V:Nat→Blk} {R:Nat→List Pg}
theorem Aj4 (V:Nat→Blk) (nb:Nat):(D2 V nb).1.length=nb:=by simp [D2]
def A0e (b:Int) (m:Nat):List Pl2:=(List.range m).map fun i=>(b,((2+i:Nat):Int))
theorem Ann {v:Blk} {b:Int} {m:Nat} (h1:∀ i<m,(Ef (A0 v (2+i))).2.2.2=0):∀ i,i≤m→Gz v b (2+i)=A0e b i
 | 0,_=>Z3 v b
 | i+1,h=>by
  rw [show 2+(i+1)=(2+i)+1 by omega]
  unfold Gz
  rw [Ann h1 i (by omega),A6v ⟨by omega,h1 i (by omega)⟩]
  unfold A0e
  rw [A5d,A48]
  rfl
theorem Ul {v:Blk} {b:Int} {m:Nat} (h2:∀ i,m≤i→2+i<8→(Ef (A0 v (2+i))).2.2.2≠0):∀ i,m≤i→2+i≤8→Gz v b (2+i)=Gz v b (2+m)
 | 0,h,_=>by rw [show m=0 by omega]
 | i+1,h,h8=>by
  by_cases e:m=i+1
  ·rw [e]
  ·rw [show 2+(i+1)=(2+i)+1 by omega]
   conv=>lhs;unfold Gz
   rw [Ul h2 i (by omega) (by omega),A6u (fun h9=>h2 i (by omega) (by omega) h9.2),A42]
end
end
section
open Go.K
section
variable {n nb k:Nat} {q:Qt} {d:Dsk} {bs bs':List LB} {last last' e:Int} {V:Nat→Blk} {R R':Nat→List Pg} {t':Tab} {c':Chip} {p:Pg} {pb pj:Int}
def z1 (x:LB):Nat:=if x.seq.toNat=0 then 1 else 0
theorem Ga (bs:List LB) (k:Nat):Bv bs (k+1)=Bv bs k+z1 (bAt bs k):=rfl
end
end
section
open Go.K
section
variable {n nb k:Nat} {q:Qt} {i:Nat} {d:Dsk} {bs bs':List LB} {last last' e:Int} {V:Nat→Blk} {R R':Nat→List Pg} {p:Pg} {pb pj:Int}
end
abbrev q3:Qt:=⟨3,[]⟩
section
variable {n nb k:Nat} {q:Qt} {lg bb:Nat} {d:Dsk} {bs:List LB} {last:Int} {V:Nat→Blk} {R:Nat→List Pg}
end
end
section
open Go.K
instance und54:Und Tryz.prog 54 (.array 32 5):=⟨Tryz.underlying54⟩
instance agg54:Agg Tryz.prog 54 true:=⟨⟨_,Tryz.underlying54,rfl⟩⟩
instance siz54:Siz Tryz.prog 54 32:=⟨by kernel_rfl⟩
abbrev Lv:=Vector By 32
abbrev tLv:TypeId:=54
def lv0:Lv:=Vector.replicate 32 0
theorem Aba:List.replicate 32 (Value.int .u8 0)=vbc lv0:=by kernel_rfl
def Cd (k:Int):Bool:=decide (0≤k) && decide (k<256)
theorem Dc {k:Int} (h:Cd k=true):∃ m:Nat,k=m∧m<256:=by
 unfold Cd at h
 simp at h
 exact ⟨k.toNat,by omega,by omega⟩
theorem Gi {m:Nat} (h:m<256):Cd (m:Int)=true:=by
 unfold Cd
 simp
 omega
def W8 (l:Lv) (m:Nat):Bool:=if h:m / 8<32 then (l[m / 8]).getLsbD (m % 8) else false
def Bg (l:Lv) (k:Int):Bool:=Cd k && W8 l k.toNat
def Tf (i:Nat):By:=1#8 <<< (i % 8)
def Ql (l:Lv) (m:Nat):Lv:=if h:m / 8<32 then l.set (m / 8) (l[m / 8] ||| Tf m) else l
def Dx (l:Lv) (k:Int):Lv:=if Cd k=true then Ql l k.toNat else l
def Vx (l:Lv) (m:Nat):Lv:=if h:m / 8<32 then l.set (m / 8) (l[m / 8] &&& ~~~ Tf m) else l
def G7 (l:Lv) (k:Int):Lv:=if Cd k=true then Vx l k.toNat else l
theorem Abb (i j:Nat) (hj:j<8):(Tf i).getLsbD j=decide (j=i % 8):=by
 unfold Tf
 have h8:i % 8<8:=A6k _ (by decide)
 grind
theorem Ady (l:Lv) {i j:Nat} (hi:i<32) (x:By) (hj:j<256):W8 (l.set i x) j=if j / 8=i then x.getLsbD (j % 8) else W8 l j:=by
 unfold W8
 have h:j / 8<32:=by omega
 rw [A6t h,A6t h,Vector.getElem_set]
 grind
theorem R3 (l:Lv) (k j:Int):Bg (Dx l k) j=(Bg l j || (Cd k && decide (j=k))):=by
 by_cases hk:Cd k=true
 ·obtain ⟨m,rfl,hm⟩:=Dc hk
  unfold Dx
  rw [A6v hk,A33]
  unfold Ql
  rw [A6t (show m / 8<32 by omega)]
  unfold Bg
  by_cases hj:Cd j=true
  ·obtain ⟨i,rfl,hi⟩:=Dc hj
   have hb:W8 l i=if h:i / 8<32 then (l[i / 8]).getLsbD (i % 8) else false:=rfl
   rw [hj,hk,A33,Ady l (by omega) _ hi,hb,A6t (show i / 8<32 by omega)]
   simp only [A5v]
   by_cases e:i / 8=m / 8
   ·rw [A6v e,BitVec.getLsbD_or,Abb m (i % 8) (A6k _ (by decide))]
    have h1:l[i / 8]=l[m / 8]:=by simp only [e]
    rw [h1]
    grind
   grind
  grind
 ·have hk':Cd k=false:=by grind
  unfold Dx
  rw [A6u hk,hk',A5j,Bool.or_false]
theorem Y9 (l:Lv) (k j:Int):Bg (G7 l k) j=(Bg l j && !(Cd k && decide (j=k))):=by
 by_cases hk:Cd k=true
 ·obtain ⟨m,rfl,hm⟩:=Dc hk
  unfold G7
  rw [A6v hk,A33]
  unfold Vx
  rw [A6t (show m / 8<32 by omega)]
  unfold Bg
  by_cases hj:Cd j=true
  ·obtain ⟨i,rfl,hi⟩:=Dc hj
   have hb:W8 l i=if h:i / 8<32 then (l[i / 8]).getLsbD (i % 8) else false:=rfl
   rw [hj,hk,A33,Ady l (by omega) _ hi,hb,A6t (show i / 8<32 by omega)]
   simp only [A5v]
   by_cases e:i / 8=m / 8
   ·rw [A6v e,BitVec.getLsbD_and,BitVec.getLsbD_not,Abb m (i % 8) (A6k _ (by decide))]
    have h1:l[i / 8]=l[m / 8]:=by simp only [e]
    have h2:decide (i % 8<8)=true:=A5p (A6k _ (by decide))
    rw [h1,h2,A5v]
    grind
   grind
  grind
 ·have hk':Cd k=false:=by grind
  unfold G7
  rw [A6u hk,hk',A5j,Bool.not_false,A5s]
def C7 (l:Lv) (n:Nat):List Int:=((List.range n).map fun k:Nat=>(k:Int)).filter fun k=>Bg l k
theorem Vy (l:Lv) (n:Nat):C7 l (n+1)=C7 l n++if Bg l n then [(n:Int)] else []:=by
 unfold C7
 rw [A5d,A48,A3u]
 grind
theorem keysL_mem {l:Lv} {k:Int}:k∈C7 l 256↔Bg l k=true:=by
 unfold C7
 rw [A5a]
 refine ⟨fun h=>h.2,fun h=>⟨?_,h⟩⟩
 have hv:Cd k=true:=by unfold Bg at h;grind
 obtain ⟨m,rfl,hm⟩:=Dc hv
 grind
theorem Adz (l:Lv) (n:Nat):(C7 l n).Nodup:=by
 refine List.filter_sublist.nodup ?_
 rw [A2a,A4c]
 exact (List.pairwise_lt_range).imp (fun h=>by omega)
theorem Hy (l:Lv) (n:Nat):(C7 l n).length≤n:=by
 have:=A2z (fun k=>Bg l k) ((List.range n).map fun k:Nat=>(k:Int))
 simpa [C7] using this
theorem valid_fn {k:Int}:Does Tryz.prog 87 [.int .i64 k] [] (Is (.bool (Cd k)) []):=by
 refine zF 9 Tryz.func87 ?_
 refine zC ?_
 exact zS
theorem Ayw {P:Program} {E:Env} {H:Hp} {t u:TypeId} {x y:Operand} {a:By} {m:Nat} (hx:ev E x=some (bv a)) (hy:ev E y=some (.int .i64 (m:Nat))) (hm:m<8):Rd P E H (.binOp .shr t x y u) (bv (a >>> m)):=by
 have:=I8 (P:=P) (H:=H) (t:=t) (u:=u) hx hy (by omega)
 have e:((a.toNat:Int).fdiv (2 ^ (min ((m:Nat):Int).toNat IntKind.u8.bits)))=((a >>> m).toNat:Int):=by
  rw [A33,show min m IntKind.u8.bits=m by show min m 8=m;omega,A2h,A2g,A17 _ (by grind)]
  grind
 unfold bv
 rw [← e]
 exact this
theorem Au2 (a:By) (m:Nat) (hm:m<8):decide ((((a >>> m) &&& 1#8).toNat:Int)=1)=a.getLsbD m:=by
 have h:(a >>> m) &&& 1#8=if a.getLsbD m then 1#8 else 0#8:=by
  grind
 rw [h]
 cases a.getLsbD m <;> rfl
theorem Ayx {l:Lv} {m:Nat} (hm:m<256):Does Tryz.prog 79 [.agg (vbc l).toArray,.int .i64 (m:Nat)] [] (Is (.bool (Bg l (m:Nat))) []):=by
 have hv:=Gi hm
 have hbt:Bg l m=decide ((((l[m / 8] >>> (m % 8)) &&& 1#8).toNat:Int)=1):=by
  rw [Au2 _ _ (A6k _ (by decide))]
  unfold Bg W8
  rw [hv,A33,A6t (by omega),A5v]
 refine zF 18 Tryz.func79 ?_
 refine zC ?_
 refine Do rfl rfl (fun b2=> ?_)
 refine zC ?_
 refine zI rfl (valid_fn) ?_
 refine sa ?_
 refine' G4 rfl rfl inferInstance rfl rfl rfl rfl rfl (fun hg7=> ?_) ?_
 rotate_left
 ·try (simp at hg7;show _)
  refine zA ?_
  refine Ae (Q4 (m:=8) rfl rfl (by decide) (by omega)) rfl ?_
  refine zA ?_
  refine Ae (Fi rfl rfl (by omega)) rfl ?_
  refine zA ?_
  refine Ae (Al rfl mM (show nth _ _=some (bv (l[m / 8])) by simp only [A33,A6i];exact Ft (by omega))) rfl ?_
  refine zA ?_
  refine Ae (Nu (m:=8) rfl rfl (by decide)) rfl ?_
  refine zA ?_
  refine Ae (Ayw (m:=m % 8) rfl rfl (A6k _ (by decide))) rfl ?_
  refine zA ?_
  refine Ae (show Rd _ _ _ _ (bv ((l[m / 8] >>> (m % 8)) &&& 1#8)) from by (unfold bv;rw [show ((((l[m / 8] >>> (m % 8)) &&& 1#8).toNat:Nat):Int)=_ from (Ow .and .u8 rfl _ _).symm];exact Au rfl rfl rfl)) rfl ?_
  refine zC ?_
  exact Ag ⟨rfl,rfl,⟨_,sP⟩⟩
 refine zC ?_
 refine Ak (Aw Tryz.results79 (Af rfl)) ?_ sP
 rw [hv,hbt];rfl
theorem Au3 {l:Lv} {k:Int} (hv:Cd k=false):Does Tryz.prog 79 [.agg (vbc l).toArray,.int .i64 k] [] (Is (.bool (Bg l k)) []):=by
 refine zF 18 Tryz.func79 ?_
 refine zC ?_
 refine Do rfl rfl (fun b2=> ?_)
 refine zC ?_
 refine zI rfl (valid_fn.to (by rw [hv]) rfl) ?_
 refine sa ?_
 refine' G4 (u:=false) rfl rfl inferInstance rfl rfl rfl rfl rfl (fun hg7=>absurd hg7 (by simp)) ?_
 refine zC ?_
 refine Ak (Aw Tryz.results79 (Af rfl)) ?_ sP
 unfold Bg;rw [hv];rfl
theorem Vz {l:Lv} {k:Int}:Does Tryz.prog 79 [.agg (vbc l).toArray,.int .i64 k] [] (Is (.bool (Bg l k)) []):=by
 by_cases hv:Cd k=true
 ·obtain ⟨m,rfl,hm⟩:=Dc hv
  exact Ayx hm
 ·exact Au3 (by grind)
end
section
open Go.K
instance zer54:Zer Tryz.prog 54 (List.replicate 32 (.int .u8 0)):=⟨by kernel_rfl⟩
theorem Id {α β:Type} {f:β→α→β} {b:β} {xs:List α} {i:Nat} {x:α} (h:xs[i]? =some x):(xs.take (i+1)).foldl f b=f ((xs.take i).foldl f b) x:=by
 rw [A4d,h,A37];rfl
theorem orB {P:Program} {E:Env} {H:Hp} {t u:TypeId} {x y:Operand} {a b:By} (hx:ev E x=some (bv a)) (hy:ev E y=some (bv b)):Rd P E H (.binOp .or t x y u) (bv (a ||| b)):=by
 unfold bv;rw [show (((a ||| b).toNat:Nat):Int)=_ from (Ow .or .u8 rfl _ _).symm];exact Au hx hy rfl
theorem Au4 {P:Program} {E:Env} {H:Hp} {t u:TypeId} {x y:Operand} {a b:By} (hx:ev E x=some (bv a)) (hy:ev E y=some (bv b)):Rd P E H (.binOp .andNot t x y u) (bv (a &&& ~~~ b)):=by
 unfold bv;rw [show (((a &&& ~~~ b).toNat:Nat):Int)=_ from (Ow .andNot .u8 rfl _ _).symm];exact Au hx hy rfl
theorem Za {l:Lv} {m:Nat} (hm:m<256):A7 (vbc l) (m / 8*1) [bv (l[m / 8]'(by omega) ||| Tf m)]=some (vbc (Ql l m)):=by
 unfold Ql
 rw [A6t (show m / 8<32 by omega),A6i]
 exact Lr (by omega) _
theorem Alf {l:Lv} {m:Nat} (hm:m<256):A7 (vbc l) (m / 8*1) [bv (l[m / 8]'(by omega) &&& ~~~ Tf m)]=some (vbc (Vx l m)):=by
 unfold Vx
 rw [A6t (show m / 8<32 by omega),A6i]
 exact Lr (by omega) _
theorem Au5 {l:Lv} {s:Sl Int} {T:TypeId}:Does Tryz.prog 52 [.agg (vbc l).toArray,s.val] (s.hp T++[]) (Is (.agg (vbc (s.list.foldl Dx l)).toArray) (s.hp T++[])):=by
 refine zF 26 Tryz.func52 ?_
 refine zC ?_
 refine Do rfl rfl (fun b2=> ?_)
 refine Ah rfl (fun b4=> ?_)
 rw [Aba]
 refine zC ?_
 have hsm:=s.small
 refine Ar [2,4,7,8] kQ (fun (st:Nat×Lv)=>[(9,.int .i64 st.1)]) (fun st=>(b2,true,C (vbc st.2) tLv)::(b4,true,C (vbc lv0) tLv)::(s.hp T++[])) (fun st=>st.1≤s.list.length∧st.2=(s.list.take st.1).foldl Dx l) (fun st=>s.list.length - st.1) ((0,l)) ⟨A6j _,rfl⟩ kP sP ?_
 rintro ⟨i,lc⟩ ⟨g0,g1⟩
 simp only at g0 g1
 refine zC ?_
 refine Aa rfl (fun c10=> ?_) (fun c10=> ?_)
 ·simp only [A4f] at c10
  obtain ⟨z,hg⟩:∃ z,s.list[i]? =some z:=⟨_,A2i (by omega)⟩
  have hst:(s.list.take (i+1)).foldl Dx l=Dx lc z:=(by rw [Id hg,g1])
  refine zA ?_
  refine Ae (Az rfl rfl (by omega)) rfl ?_
  refine Ae (Ca (o:=0) rfl pL hg rfl rfl) rfl ?_
  refine zC ?_
  refine zI rfl (valid_fn) ?_
  refine zC ?_
  refine Aa rfl (fun c14=> ?_) (fun c14=> ?_)
  ·skip
   obtain ⟨m,rfl,hm⟩:=Dc c14
   have hst2:Ql lc m=(s.list.take (i+1)).foldl Dx l:=(by rw [hst];unfold Dx;rw [A6v c14,A33])
   refine At [(9,[(0,false),(1,false),(2,false),(3,false),(4,false),(5,false),(6,false),(7,false),(8,false)]),(10,[(9,true)])] (by kernel_rfl) ?_
   refine zA ?_
   refine Aj (Q4 (m:=8) rfl rfl (by decide) (by omega)) ?_
   refine Aj (Fi rfl rfl (by omega)) ?_
   refine Aj (Al rfl mM (show nth _ _=some (bv (lc[m / 8]'(by omega))) by simp only [ A6i];exact Ft (by omega))) ?_
   refine zA ?_
   refine Aj (Nu (m:=8) rfl rfl (by decide)) ?_
   refine Aj (show Rd _ _ _ _ (bv (Tf m)) from Aa2 rfl rfl (A6k _ (by decide))) ?_
   refine Aj (orB rfl rfl) ?_
   refine Aj (Fi rfl rfl (by omega)) ?_
   refine zA ?_
   refine Ac (cs':=vbc (Ql lc m)) rfl rfl uD rfl rfl (by exact Za hm) ?_
   refine zC ?_
   exact ⟨(i+1,Ql lc m),⟨by simp only;omega,hst2⟩,(by simp only;omega),lZ⟩
  ·skip
   have hst2:lc=(s.list.take (i+1)).foldl Dx l:=(by rw [hst];unfold Dx;rw [c14];rfl)
   refine zC ?_
   exact ⟨(i+1,lc),⟨by simp only;omega,hst2⟩,(by simp only;omega),lZ⟩
 ·simp only [ A2m] at c10
  have hi:i=s.list.length:=(by omega)
  subst hi
  rw [A4u] at g1
  refine zA ?_
  refine Ae (Ao rfl mM (by exact Ax)) rfl ?_
  refine Ac rfl rfl uD (B9) (Ai) (Bi (by first | exact Ai | exact A20 ..)) ?_
  refine zC ?_
  refine Ak (Aw Tryz.results52 (Bc rfl mM (by exact Ax))) ?_ sP
  rw [← g1]
theorem Au6 {l:Lv} {s:Sl Int} {T:TypeId}:Does Tryz.prog 51 [.agg (vbc l).toArray,s.val] (s.hp T++[]) (Is (.agg (vbc (s.list.foldl G7 l)).toArray) (s.hp T++[])):=by
 refine zF 26 Tryz.func51 ?_
 refine zC ?_
 refine Do rfl rfl (fun b2=> ?_)
 refine Ah rfl (fun b4=> ?_)
 rw [Aba]
 refine zC ?_
 have hsm:=s.small
 refine Ar [2,4,7,8] kQ (fun (st:Nat×Lv)=>[(9,.int .i64 st.1)]) (fun st=>(b2,true,C (vbc st.2) tLv)::(b4,true,C (vbc lv0) tLv)::(s.hp T++[])) (fun st=>st.1≤s.list.length∧st.2=(s.list.take st.1).foldl G7 l) (fun st=>s.list.length - st.1) ((0,l)) ⟨A6j _,rfl⟩ kP sP ?_
 rintro ⟨i,lc⟩ ⟨g0,g1⟩
 simp only at g0 g1
 refine zC ?_
 refine Aa rfl (fun c10=> ?_) (fun c10=> ?_)
 ·simp only [A4f] at c10
  obtain ⟨z,hg⟩:∃ z,s.list[i]? =some z:=⟨_,A2i (by omega)⟩
  have hst:(s.list.take (i+1)).foldl G7 l=G7 lc z:=(by rw [Id hg,g1])
  refine zA ?_
  refine Ae (Az rfl rfl (by omega)) rfl ?_
  refine Ae (Ca (o:=0) rfl pL hg rfl rfl) rfl ?_
  refine zC ?_
  refine zI rfl (valid_fn) ?_
  refine zC ?_
  refine Aa rfl (fun c14=> ?_) (fun c14=> ?_)
  ·skip
   obtain ⟨m,rfl,hm⟩:=Dc c14
   have hst2:Vx lc m=(s.list.take (i+1)).foldl G7 l:=(by rw [hst];unfold G7;rw [A6v c14,A33])
   refine At [(9,[(0,false),(1,false),(2,false),(3,false),(4,false),(5,false),(6,false),(7,false),(8,false)]),(10,[(9,true)])] (by kernel_rfl) ?_
   refine zA ?_
   refine Aj (Q4 (m:=8) rfl rfl (by decide) (by omega)) ?_
   refine Aj (Fi rfl rfl (by omega)) ?_
   refine Aj (Al rfl mM (show nth _ _=some (bv (lc[m / 8]'(by omega))) by simp only [ A6i];exact Ft (by omega))) ?_
   refine zA ?_
   refine Aj (Nu (m:=8) rfl rfl (by decide)) ?_
   refine Aj (show Rd _ _ _ _ (bv (Tf m)) from Aa2 rfl rfl (A6k _ (by decide))) ?_
   refine Aj (Au4 rfl rfl) ?_
   refine Aj (Fi rfl rfl (by omega)) ?_
   refine zA ?_
   refine Ac (cs':=vbc (Vx lc m)) rfl rfl uD rfl rfl (by exact Alf hm) ?_
   refine zC ?_
   exact ⟨(i+1,Vx lc m),⟨by simp only;omega,hst2⟩,(by simp only;omega),lZ⟩
  ·skip
   have hst2:lc=(s.list.take (i+1)).foldl G7 l:=(by rw [hst];unfold G7;rw [c14];rfl)
   refine zC ?_
   exact ⟨(i+1,lc),⟨by simp only;omega,hst2⟩,(by simp only;omega),lZ⟩
 ·simp only [ A2m] at c10
  have hi:i=s.list.length:=(by omega)
  subst hi
  rw [A4u] at g1
  refine zA ?_
  refine Ae (Ao rfl mM (by exact Ax)) rfl ?_
  refine Ac rfl rfl uD (B9) (Ai) (Bi (by first | exact Ai | exact A20 ..)) ?_
  refine zC ?_
  refine Ak (Aw Tryz.results51 (Bc rfl mM (by exact Ax))) ?_ sP
  rw [← g1]
theorem Ait {l:Lv}:Does Tryz.prog 54 [.agg (vbc l).toArray] [] (fun v H=>∃ s:Sl Int,v=s.val∧H=s.hp tI++[]∧s.list=C7 l 256∧s.isOwn=true):=by
 refine zF 16 Tryz.func54 ?_
 refine zC ?_
 refine Do rfl rfl (fun b1=> ?_)
 refine zC ?_
 refine Ki (Ii (α:=Int) (T:=tI)) ?_
 refine Ar [1] kQ (fun (st:Nat×Sl Int)=>[(4,.int .i64 st.1),(2,st.2.val)]) (fun st=>(st.2.hp tI++((b1,true,C (vbc l) tLv)::[]))) (fun st=>st.1≤256∧st.2.list=C7 l st.1∧st.2.isOwn=true) (fun st=>256 - st.1) ((0,Sl.nil)) ⟨A6j _,rfl,rfl⟩ kP sP ?_
 rintro ⟨i,s⟩ ⟨g0,g1,g2⟩
 simp only at g0 g1 g2
 have hsl:=Hy l i
 rw [← g1] at hsl
 refine zC ?_
 refine Aa rfl (fun c5=> ?_) (fun c5=> ?_)
 ·simp only [A4f] at c5
  have hk:=Vy l i
  refine zA ?_
  refine Ae (Ao rfl mM (by exact Ax)) rfl ?_
  refine zC ?_
  refine zI rfl (Vz) ?_
  refine zC ?_
  refine Aa rfl (fun c9=> ?_) (fun c9=> ?_)
  ·skip
   refine zC ?_
   refine Am rfl rfl rfl rfl (fun b12=> ?_)
   refine A5 (s:=s) (new:=[(i:Int)]) (m:=1) rfl rfl pL g2 (Ck (r:=true) mM rfl) rfl rfl rfl rfl (by omega) rfl (fun s' hs1 hs2=> ?_)
   refine zC ?_
   exact ⟨(i+1,s'),⟨by simp only;omega,(by simp only;rw [hs1,hk,A6v c9,g1]),hs2⟩,(by simp only;omega),lZ⟩
  ·skip
   refine zC ?_
   exact ⟨(i+1,s),⟨by simp only;omega,(by simp only;rw [hk,c9,g1];simp),g2⟩,(by simp only;omega),lZ⟩
 ·simp only [ A2m] at c5
  have hi:i=256:=(by omega)
  subst hi
  refine zC ?_
  exact zL (hR:=by exact ⟨s,rfl,rfl,g1,g2⟩)
end
section
open Go.K
instance agg40:Agg Tryz.prog 40 true:=⟨⟨_,Tryz.underlying40,rfl⟩⟩
instance siz40:Siz Tryz.prog 40 3:=⟨by kernel_rfl⟩
instance agg57:Agg Tryz.prog 57 true:=⟨⟨_,Tryz.underlying57,rfl⟩⟩
instance siz57:Siz Tryz.prog 57 34:=⟨by kernel_rfl⟩
instance fld40_0:Fld Tryz.prog 40 0 0:=⟨⟨_,_,0,Tryz.underlying40,rfl,by kernel_rfl,rfl⟩⟩
instance fld40_1:Fld Tryz.prog 40 1 1:=⟨⟨_,_,0,Tryz.underlying40,rfl,by kernel_rfl,rfl⟩⟩
instance fld40_2:Fld Tryz.prog 40 2 2:=⟨⟨_,_,0,Tryz.underlying40,rfl,by kernel_rfl,rfl⟩⟩
structure Cm where
 ep:Wd
 lv:Lv
 sum:BitVec 32
def cmC (c:Cm):List Value:=wv c.ep::(vbc c.lv++[uv c.sum])
abbrev tCm:TypeId:=57
def cm0:Cm:=⟨0,lv0,0⟩
theorem Abc:(Value.int .u64 0)::(List.replicate 32 (Value.int .u8 0)++[Value.int .u32 0])=cmC cm0:=by kernel_rfl
theorem Bj {c:Cm}:(cmC c).length=34:=by unfold cmC;simp [Ai]
theorem J3 {c:Cm}:cut (cmC c) 0 34=some (cmC c):=by have:=Kh (cmC c);rwa [Bj] at this
theorem Oz {c:Cm} {cs:List Value} (h:cs.length=34):A7 cs 0 (cmC c)=some (cmC c):=G1 (by rw [Bj,h])
theorem Ayy (x:By):(bv x).oneCell'=true:=rfl
theorem L7 {c:Cm}:Ih (.agg (cmC c).toArray)=some (cmC c):=by
 have h:(cmC c).all (·.oneCell')=true:=by
  unfold cmC vbc
  simp only [A5w,A41,List.all_map,List.all_nil,A5s]
  have h1:(wv c.ep).oneCell'=true:=rfl
  have h2:(uv c.sum).oneCell'=true:=rfl
  rw [h1,h2,A5v,A5s]
  exact A4l.2 fun x _=>Ayy x
 simp [Ih,h]
theorem V0 (c:Cm):cut (cmC c) 1 32=some (vbc c.lv):=by
 refine cut_iff.2 ⟨?_,by rw [Bj];decide⟩
 unfold cmC
 rw [A3i,A5l]
 exact (A5e Ai).symm
theorem Aiu (c:Cm):nth (cmC c) 33=some (uv c.sum):=by
 unfold cmC
 rw [Dk,A2k,A19 (by rw [Ai];decide),Ai]
 rfl
theorem R4 (c:Cm) (l:Lv):A7 (cmC c) 1 (vbc l)=some (cmC { c with lv:=l }):=by
 refine Ex ?_ (by rw [Ai,Bj];decide)
 unfold cmC
 rw [Ai]
 have h1:(wv c.ep::(vbc c.lv++[uv c.sum])).take 1=[wv c.ep]:=rfl
 have h2:(wv c.ep::(vbc c.lv++[uv c.sum])).drop (1+32)=[uv c.sum]:=by
  rw [show 1+32=32+1 from rfl,A3i,A44 Ai]
 rw [h1,h2]
 simp
structure Nd where
 key:Int
 ep:Wd
 body:Sl By
def ndC (n:Nd):List Value:=[.int .i64 n.key,wv n.ep,n.body.val]
instance:Cel Nd:=⟨3,ndC,fun _=>rfl,fun _=>rfl⟩
abbrev tNd:TypeId:=40
def E5 (k:Int) (e:Wd) (b:List By):List By:=Bz 1 (BitVec.ofInt 64 k)++(Bz 8 e++(b++[]))
def A9 (k:Int) (b:List By):Bool:=Cd k && decide (b.length≤224)
theorem V3 {b:Nat} {s1 s2 s3:Sl By} (hl:s1.list.length+s2.list.length+s3.list.length≤70000000000000):Does Tryz.prog 113 [.slice (some ⟨b,0,none⟩) 3 3] ((b,true,C [s1.val,s2.val,s3.val] tSB)::(s1.hp tU8++(s2.hp tU8++(s3.hp tU8++[]))))
  (fun v H=>∃ s:Sl By,v=s.val∧H=s.hp tU8++((b,true,C [s1.val,s2.val,s3.val] tSB)::(s1.hp tU8++(s2.hp tU8++(s3.hp tU8++[]))))∧s.list=s1.list++(s2.list++(s3.list++[]))∧s.isOwn=true):=by
 have e2:(Sl.own b [s1,s2,s3] 3 [] ⟨by simp,A6h _,by simp⟩:Sl (Sl By)).list=[s1,s2,s3]:=rfl
 have e3:Ba [s1,s2,s3]=s1.list++(s2.list++(s3.list++[])):=by simp [Ba]
 have h:=Adt (q:= .own b [s1,s2,s3] 3 [] ⟨by simp,A6h _,by simp⟩) (by rw [e2,e3];grind)
 rw [e2,e3] at h
 have e:(Sl.own b [s1,s2,s3] 3 [] ⟨by simp,A6h _,by simp⟩:Sl (Sl By)).hp tSB++(Dg [s1,s2,s3]++[])=((b,true,C [s1.val,s2.val,s3.val] tSB)::(s1.hp tU8++(s2.hp tU8++(s3.hp tU8++[])))):=by
  rw [Sl.hp_own,Cs,Cs,Cs,Hx]
  simp only [ A42]
  rfl
 rw [e] at h
 exact h
theorem Zb {n:Nd}:Does Tryz.prog 73 [.agg (ndC n).toArray] (n.body.hp tU8++[])
  (fun v H=>(A9 n.key n.body.list=false∧v= .tuple #[.slice none 0 0,.int .i64 1]∧H=n.body.hp tU8++[]) ∨
   (A9 n.key n.body.list=true∧∃ s:Sl By,v= .tuple #[s.val,.int .i64 0]∧H=s.hp tU8++(n.body.hp tU8++[])∧s.list=E5 n.key n.ep n.body.list∧s.isOwn=true)):=by
 refine zF 29 Tryz.func73 ?_
 refine zC ?_
 refine Cy rfl rfl (fun b1=> ?_)
 refine zC ?_
 refine Aa rfl (fun c17=> ?_) (fun c17=> ?_)
 ·simp only [A40,A4f] at c17
  have hok:A9 n.key n.body.list=false:=(by unfold A9 Cd;simp;omega)
  refine zC ?_
  exact zL (hR:=by exact .inl ⟨hok,rfl,rfl⟩)
 ·simp only [ A27,A2m] at c17
  have hok:A9 n.key n.body.list=true:=(by unfold A9 Cd;simp;omega)
  refine zC ?_
  refine At [(9,[(0,false),(1,false),(2,false),(4,false),(5,false),(7,false),(8,false),(3,true),(6,true)]),(10,[(9,true)]),(11,[(10,true)]),(13,[(11,false),(12,false)])] (by kernel_rfl) ?_
  iterate 3 refine sb ?_
  refine Aj (show Rd _ _ _ _ (wv (BitVec.ofInt 64 n.key)) from by (unfold wv;rw [← Iy];exact Dv rfl)) ?_
  refine zC ?_
  refine zE rfl (Gg) ?_
  rintro _ _ ⟨s21,rfl,rfl,hs21,ho21⟩
  refine zW ?_
  refine zE rfl (Gg) ?_
  rintro _ _ ⟨s24,rfl,rfl,hs24,ho24⟩
  refine zW ?_
  refine Am rfl rfl rfl rfl (fun b27=> ?_)
  refine zC ?_
  refine zE rfl (V3 (b:=b27) (s1:=s21) (s2:=s24) (s3:=n.body) (by rw [hs21,hs24,A4,A4,show A8 1 8=1 from rfl,show A8 8 8=8 from rfl];omega)) ?_
  rintro _ _ ⟨s28,rfl,rfl,hs28,ho28⟩
  refine zW ?_
  exact zL (hR:=by exact .inr ⟨hok,s28,rfl,rfl,by rw [hs28,hs21,hs24];rfl,ho28⟩)
end
section
open Go.K
instance zer40:Zer Tryz.prog 40 ([.int .i64 0,.int .u64 0,.slice none 0 0]):=⟨by kernel_rfl⟩
instance zer57:Zer Tryz.prog 57 ([.int .u64 0]++List.replicate 32 (.int .u8 0)++[.int .u32 0]):=⟨by kernel_rfl⟩
instance fld57_0:Fld Tryz.prog 57 0 0:=⟨⟨_,_,0,Tryz.underlying57,rfl,by kernel_rfl,rfl⟩⟩
instance fld57_1:Fld Tryz.prog 57 1 1:=⟨⟨_,_,31,Tryz.underlying57,rfl,by kernel_rfl,rfl⟩⟩
instance fld57_2:Fld Tryz.prog 57 2 33:=⟨⟨_,_,0,Tryz.underlying57,rfl,by kernel_rfl,rfl⟩⟩
instance plc40:Plc Tryz.prog 40 [(0,1),(1,1),(2,1)]:=⟨⟨_,Tryz.underlying40,fun _=>by kernel_rfl⟩⟩
def Zc (xs:List By):Int:=((Ec (xs.take 1) 1).toNat:Int)
def Apz (xs:List By):Wd:=Ec ((xs.drop 1).take 8) 8
def Ad0 (xs:List By):Bool:=decide (9≤xs.length) && decide (xs.length≤233)
theorem Aiv (xs:List By):(Ec (xs.take 1) 1).toNat<256:=by
 cases xs with
 | nil=>decide
 | cons x xs =>
  show (0#64 ||| (x.setWidth 64 <<< (8*0))).toNat<256
  simp
  have:=x.isLt
  omega
theorem Ad1 {s:Sl By} {T:TypeId}:Does Tryz.prog 62 [s.val] (s.hp T++[])
  (fun v H=>(Ad0 s.list=false∧v= .tuple #[.agg (ndC ⟨0,0,.nil⟩).toArray,.int .i64 11]∧H=s.hp T++[]) ∨
   (Ad0 s.list=true∧∃ b:Sl By,v= .tuple #[.agg (ndC ⟨Zc s.list,Apz s.list,b⟩).toArray,.int .i64 0]∧H=b.hp tU8++(s.hp T++[])∧b.list=s.list.drop 9∧b.isOwn=true)):=by
 have hv1:=Aiv s.list
 refine zF 26 Tryz.func62 ?_
 refine zC ?_
 refine Ah rfl (fun b2=> ?_)
 refine zC ?_
 refine Aa rfl (fun c12=> ?_) (fun c12=> ?_)
 ·simp only [A40,A4f] at c12
  have hok:Ad0 s.list=false:=(by unfold Ad0;simp;omega)
  refine zC ?_
  exact zL (hR:=by exact .inl ⟨hok,rfl,rfl⟩)
 ·simp only [ A27,A2m] at c12
  have hok:Ad0 s.list=true:=(by unfold Ad0;simp;omega)
  have hsm:s.list.length≤70000000000000:=(by omega)
  refine zC ?_
  refine zE rfl (Fj (s:=s) (T:=T) hsm) ?_
  rintro _ _ ⟨r,rfl,rfl,hr1,hr2⟩
  refine zW ?_
  refine zE rfl (Fk (r:=r) (n:=1) (by rw [hr1];exact hsm)) ?_
  rintro _ _ ⟨x1,sl1,bad1,rfl,rfl,hx1,hl1,hb1⟩
  refine A6 aQ ?_
  refine Ae (show Rd _ _ _ _ (.int .i64 (Zc s.list)) from by (rw [hr1,show A8 1 8=1 from rfl] at hx1;unfold C2 at hx1;rw [A6u (by omega)] at hx1;simp only at hx1;unfold Zc;rw [← hx1];rw [← hx1] at hv1;exact Gf (C0 (by omega)) rfl)) rfl ?_
  refine zC ?_
  refine zE rfl (Fk (r:=⟨r.b,sl1,bad1⟩) (n:=8) (by rw [hl1,hr1];have:=Qb (A8 1 8) s.list r.bad;omega)) ?_
  rintro _ _ ⟨x2,sl2,bad2,rfl,rfl,hx2,hl2,hb2⟩
  refine zW ?_
  refine zI rfl (Tv (r:=⟨r.b,sl2,bad2⟩)) ?_
  refine zE rfl (Ky (r:=⟨r.b,sl2,bad2⟩) (n:=(sl2.list.length:Nat)) (by rw [hl2];simp only;have h1:=Qb (A8 8 8) sl1.list bad1;have h2:=Qb (A8 1 8) s.list r.bad;rw [hl1,hr1] at h1;rw [hl1,hr1];omega)) ?_
  rintro _ _ ⟨bb,sl3,bad3,rfl,rfl,hbo,hbl,hl3,hb3⟩
  refine A6 aQ ?_
  refine Ae (show Rd _ _ _ _ (.agg (ndC ⟨Zc s.list,Apz s.list,bb⟩).toArray) from by (have e1:sl1.list=s.list.drop 1:=(by rw [hl1,hr1,show A8 1 8=1 from rfl];unfold C2;rw [A6u (by omega)]);have e2:x2=Apz s.list:=(by rw [hx2,e1,show A8 8 8=8 from rfl];unfold C2;rw [A6u (by rw [A4r];omega)];rfl);rw [← e2];exact Db rfl rfl)) rfl ?_
  refine zC ?_
  exact zL (hR:=by exact .inr ⟨hok,bb,rfl,rfl,(by have e1:sl1.list=s.list.drop 1:=(by rw [hl1,hr1,show A8 1 8=1 from rfl];unfold C2;rw [A6u (by omega)]);have e2:sl2.list=s.list.drop 9:=(by rw [hl2,e1,show A8 8 8=8 from rfl];unfold C2;rw [A6u (by rw [A4r];omega)];simp only [A5k]);rw [hbl];simp only;rw [show (max ((sl2.list.length:Nat):Int) 0).toNat=sl2.list.length by omega];unfold C4;rw [A6u (by omega)];grind),hbo⟩)
def F8 (c:Cm):List By:=Bz 8 c.ep++(Bz 4 (c.sum.setWidth 64)++(c.lv.toList++[]))
def Abd (xs:List By):Lv:=Vector.ofFn fun i:Fin 32=>xs.getD i.val 0
def Ap0 (xs:List By):Cm:=⟨Ec (xs.take 8) 8,Abd (xs.drop 12),(Ec ((xs.drop 8).take 4) 4).setWidth 32⟩
theorem Au7 {xs:List By} (h:xs.length=32):cells xs=vbc (Abd xs):=by
 have e:xs=(Abd xs).toList:=by
  apply A4o
  ·rw [h,A3d]
  ·intro i h1 h2
   rw [Vector.getElem_toList]
   unfold Abd
   rw [Vector.getElem_ofFn]
   grind
 rw [Mo]
 show xs.map bv=(Abd xs).toList.map bv
 rw [← e]
def lvV (b:Nat) (c:Cm):Sl By:= .view b 1 true (cmC c) tCm (0,0) c.lv.toList 32 ⟨fun i x hx=>by
  have hi:i<32:=by have:=(List.getElem?_eq_some_iff.1 hx).1;grind
  have h1:=Ab9 (p:=c.lv) (o:=0) (m:=32) i x (by rw [A5l,A2s (by simp)];exact hx)
  have h2:=V0 c
  obtain ⟨e1,e2⟩:=cut_iff.1 h1
  obtain ⟨e3,e4⟩:=cut_iff.1 h2
  refine cut_iff.2 ⟨?_,by rw [Bj];grind⟩
  rw [e1,e3,A6c,List.drop_take,List.take_take,A5k]
  grind,by simp,by simp⟩
theorem Au8 (b:Nat) (c:Cm):(lvV b c).val= .slice (some ⟨b,1,none⟩) 32 32:=by
 show Value.slice (some ⟨b,1,none⟩) c.lv.toList.length 32=_
 rw [A3d]
theorem Ayz (b:Nat) (c:Cm) (U:TypeId):(lvV b c).hp U=[(b,true,C (cmC c) tCm)]:=by unfold lvV;rw [Sl.hp_view]
theorem Ap1 (x:BitVec 32):IntKind.u64.wrap (x.toNat:Int)=((x.setWidth 64).toNat:Int):=by
 rw [Ej .u64 rfl,A26]
 simp
 rfl
theorem Ap2 (x:Wd):IntKind.u32.wrap (x.toNat:Int)=((x.setWidth 32).toNat:Int):=by
 rw [Ej .u32 rfl,A26]
 rfl
theorem Alg {c:Cm}:Does Tryz.prog 76 [.agg (cmC c).toArray] [] (fun v H=>∃ s:Sl By,v=s.val∧H=s.hp tU8++[]∧s.list=F8 c∧s.isOwn=true):=by
 refine zF 14 Tryz.func76 ?_
 refine zC ?_
 refine Do rfl rfl (fun b1=> ?_)
 refine zC ?_
 refine At [(9,[(0,false),(1,false),(3,false),(4,false),(5,false),(7,false),(8,false),(2,true),(6,true)]),(10,[(9,true)]),(11,[(10,true)]),(12,[(11,false)])] (by kernel_rfl) ?_
 iterate 4 refine sb ?_
 refine Aj (Al rfl mM (Aiu c)) ?_
 refine Aj (show Rd _ _ _ _ (wv (c.sum.setWidth 64)) from by (unfold wv;rw [← Ap1];exact Dv rfl)) ?_
 refine zC ?_
 refine Aj (show Rd _ _ _ _ (lvV b1 c).val from by (rw [Au8];exact C1 (b:=b1) (o:=1) (sz:=1) (i:=0) (j:=32) (l:=32) rfl rfl rfl (by omega))) ?_
 refine zC ?_
 refine zE rfl (Gg) ?_
 rintro _ _ ⟨s5,rfl,rfl,hs5,ho5⟩
 refine zW ?_
 refine zE rfl (Gg) ?_
 rintro _ _ ⟨s9,rfl,rfl,hs9,ho9⟩
 refine zW ?_
 refine Am rfl rfl rfl rfl (fun b12=> ?_)
 refine zC ?_
 refine Ch rfl (V3 (b:=b12) (s1:=s5) (s2:=s9) (s3:=lvV b1 c) (by rw [hs5,hs9,A4,A4];show _+_+c.lv.toList.length≤_;rw [A3d,show A8 8 8=8 from rfl,show A8 4 8=4 from rfl];decide)) (by rw [Ayz];exact sP) rfl (fun v13 Y13 h13=> ?_)
 obtain ⟨s13,rfl,rfl,hs13,ho13⟩:=h13
 refine A6 aQ ?_
 refine zC ?_
 exact zL (hR:=by exact ⟨s13,rfl,rfl,by rw [hs13,hs5,hs9];rfl,ho13⟩)
theorem Ap3 {s:Sl By} {T:TypeId}:Does Tryz.prog 149 [s.val] (s.hp T++[])
  (fun v H=>(s.list.length≠44∧v= .tuple #[.agg (cmC cm0).toArray,.int .i64 11]∧H=s.hp T++[]) ∨
   (s.list.length=44∧v= .tuple #[.agg (cmC (Ap0 s.list)).toArray,.int .i64 0]∧H=s.hp T++[])):=by
 refine Kf (n:=26) Tryz.func149 Tryz.ntmps149 rfl (A25 rfl)<|An<|Ad fun ops=> ?_
 refine Ah rfl fun b2=> ?_
 refine Pl (G:=(b2,true,C (cmC cm0) tCm)::(s.hp T++[])) (by rw [← Abc];rfl) ?_
 refine oA rfl<|Ag<|n_K<|An<|An<|Ad fun ops=>oM rfl<|oR (H3 rfl)<|oR (Au rfl rfl rfl)<|Ag<|n_K ?_
 refine Aa rfl (fun c7=> ?_) (fun c7=> ?_)
 ·skip
  have hok:s.list.length≠44:=(by grind)
  refine An<|Ad fun ops=> ?_
  refine oR (Ao rfl mM (by exact J3)) ?_
  refine Ac rfl rfl uD (L7) (Bj) (Oz (by first | exact Bj | exact A20 ..)) ?_
  refine oA rfl<|Ag<|n_K<|Im<|r_K ?_
  exact Bb (Dj Tryz.results149 (Bc rfl mM (by exact J3)) (Af rfl)) (by exact .inl ⟨hok,rfl,rfl⟩) sP
 ·skip
  have hok:s.list.length=44:=(by have:=c7;grind)
  have hsm:s.list.length≤70000000000000:=(by omega)
  refine Cg<|n_K<|An<|Ad fun ops=>oM rfl ?_
  refine Ch rfl (Fj (s:=s) (T:=T) hsm) sP rfl fun v10 Y10 h10=> ?_
  obtain ⟨r,rfl,rfl,hr1,hr2⟩:=h10
  refine A6 aQ ?_
  refine oA rfl<|Ag<|n_K<|An<|Ad fun ops=>oM rfl ?_
  refine Ch rfl (Fk (r:=r) (n:=8) (by rw [hr1];exact hsm)) sP rfl fun v12 Y12 h12=> ?_
  obtain ⟨x1,sl1,bad1,rfl,rfl,hx1,hl1,hb1⟩:=h12
  rw [hr1,show A8 8 8=8 from rfl] at hx1 hl1
  unfold C2 at hx1 hl1
  rw [A6u (by omega)] at hx1 hl1
  refine A6 aQ ?_
  refine oF rfl ?_
  refine Ac (cs':=cmC ⟨x1,lv0,0⟩) rfl rfl uD rfl rfl rfl ?_
  refine Ag<|n_K<|An<|Ad fun ops=>oM rfl ?_
  refine Ch rfl (Fk (r:=⟨r.b,sl1,bad1⟩) (n:=4) (by grind)) sP rfl fun v15 Y15 h15=> ?_
  obtain ⟨x2,sl2,bad2,rfl,rfl,hx2,hl2,hb2⟩:=h15
  rw [hl1,show A8 4 8=4 from rfl] at hx2 hl2
  unfold C2 at hx2 hl2
  rw [A6u (by rw [A4r];omega)] at hx2 hl2
  simp only [A5k] at hx2 hl2
  refine A6 aQ ?_
  refine oR (show Rd _ _ _ _ (uv (x2.setWidth 32)) from by (unfold uv;rw [← Ap2];exact Dv rfl)) ?_
  refine oF rfl ?_
  refine Ac (cs':=cmC ⟨x1,lv0,x2.setWidth 32⟩) rfl rfl uD rfl rfl (by kernel_rfl) ?_
  refine Ag<|n_K<|An ?_
  refine Ja [] [(6,[(0,false),(1,false),(2,false),(3,false),(4,true),(5,true)]),(7,[(6,true)])] (by kernel_rfl) rfl fun ops w0 H0 y=> ?_
  refine G6<|xF rfl ?_
  refine xR (C1 (b:=b2) (o:=1) (sz:=1) (i:=0) (j:=32) (l:=32) rfl rfl rfl (by omega)) ?_
  refine xM rfl<|xM rfl<|B7 ?_
  refine Ir rfl (Tv (r:=⟨r.b,sl2,bad2⟩)) sP rfl aQ ?_
  refine Ag ⟨rfl,⟨_,sP⟩,?_⟩
  refine B7 ?_
  refine Ch rfl (Ky (r:=⟨r.b,sl2,bad2⟩) (n:=(sl2.list.length:Nat)) (by grind)) sP rfl fun v23 Y23 h23=> ?_
  obtain ⟨bb,sl3,bad3,rfl,rfl,hbo,hbl,hl3,hb3⟩:=h23
  simp only at hbl
  rw [show (max ((sl2.list.length:Nat):Int) 0).toNat=sl2.list.length by omega] at hbl
  unfold C4 at hbl
  rw [A6u (by omega),hl2] at hbl
  simp only [A4u] at hbl
  have hb32:bb.list.length=32:=(by rw [hbl,A4r];omega)
  refine A6 aQ ?_
  refine Ag ⟨rfl,⟨_,sP⟩,?_⟩
  refine Av<|G6<|B7 ?_
  refine Hq (cs':=cmC ⟨x1,Abd bb.list,x2.setWidth 32⟩) rfl rfl (Jz (s:=bb) (T:=tU8) pL) (by omega) uD (by rw [Au7 hb32];exact R4 _ _) (Gp _) rfl ?_
  refine Ag ⟨rfl,⟨_,sP⟩,?_⟩
  refine Av<|Jq<|n_K<|An<|Ad fun ops=> ?_
  refine oR (Ao rfl mM (by exact J3)) ?_
  refine Ac rfl rfl uD (L7) (Bj) (Oz (by first | exact Bj | exact A20 ..)) ?_
  refine oA rfl<|Ag<|n_K<|Im ?_
  exact Bb (Dj Tryz.results149 (Bc rfl mM (by exact J3)) (Af rfl)) (by exact .inr ⟨hok,(by have e:(⟨x1,Abd bb.list,x2.setWidth 32⟩:Cm)=Ap0 s.list:=(by unfold Ap0;rw [hx1,hx2,hbl]);rw [e]),rfl⟩) sP
end
section
open Go.K
instance agg31:Agg Tryz.prog 31 true:=⟨⟨_,Tryz.underlying31,rfl⟩⟩
instance siz31:Siz Tryz.prog 31 3:=⟨by kernel_rfl⟩
instance und62:Und Tryz.prog 62 (.map 3 124):=⟨Tryz.underlying62⟩
instance agg62:Agg Tryz.prog 62 false:=⟨⟨_,Tryz.underlying62,rfl⟩⟩
instance siz62:Siz Tryz.prog 62 1:=⟨by kernel_rfl⟩
instance agg124:Agg Tryz.prog 124 true:=⟨⟨_,Tryz.underlying124,rfl⟩⟩
instance siz124:Siz Tryz.prog 124 3:=⟨by kernel_rfl⟩
instance und283:Und Tryz.prog 283 (.array 2 62):=⟨Tryz.underlying283⟩
instance zer124:Zer Tryz.prog 124 ([.int .i64 0,.int .i64 0,.int .u64 0]):=⟨by kernel_rfl⟩
instance zer283:Zer Tryz.prog 283 ([.map none,.map none]):=⟨by kernel_rfl⟩
instance fld31_0:Fld Tryz.prog 31 0 0:=⟨⟨_,_,0,Tryz.underlying31,rfl,by kernel_rfl,rfl⟩⟩
instance fld31_1:Fld Tryz.prog 31 1 1:=⟨⟨_,_,0,Tryz.underlying31,rfl,by kernel_rfl,rfl⟩⟩
instance fld31_2:Fld Tryz.prog 31 2 2:=⟨⟨_,_,0,Tryz.underlying31,rfl,by kernel_rfl,rfl⟩⟩
instance fld67_1:Fld Tryz.prog 67 1 1:=⟨⟨_,_,0,Tryz.underlying67,rfl,by kernel_rfl,rfl⟩⟩
instance fld67_2:Fld Tryz.prog 67 2 2:=⟨⟨_,_,0,Tryz.underlying67,rfl,by kernel_rfl,rfl⟩⟩
instance fld67_4:Fld Tryz.prog 67 4 4:=⟨⟨_,_,33,Tryz.underlying67,rfl,by kernel_rfl,rfl⟩⟩
instance fld67_5:Fld Tryz.prog 67 5 38:=⟨⟨_,_,1,Tryz.underlying67,rfl,by kernel_rfl,rfl⟩⟩
instance fld67_7:Fld Tryz.prog 67 7 43:=⟨⟨_,_,1,Tryz.underlying67,rfl,by kernel_rfl,rfl⟩⟩
instance fld67_8:Fld Tryz.prog 67 8 45:=⟨⟨_,_,0,Tryz.underlying67,rfl,by kernel_rfl,rfl⟩⟩
instance fld124_0:Fld Tryz.prog 124 0 0:=⟨⟨_,_,1,Tryz.underlying124,rfl,by kernel_rfl,rfl⟩⟩
instance flat65:Flat Tryz.prog 65 ([some .i64,some .i64]):=⟨by kernel_rfl,by kernel_rfl,⟨_,Tryz.underlying65,rfl⟩⟩
structure Vw where
 num:Wd
 mem:Int
 base:Wd
def vw0:Vw:=⟨0,0,0⟩
def vwC (v:Vw):List Value:=[wv v.num,.int .i64 v.mem,wv v.base]
abbrev tVw:TypeId:=31
def L8 (v:Vw):List By:=Bz 8 v.num++(Bz 1 (BitVec.ofInt 64 v.mem)++(Bz 8 v.base++[]))
theorem Ap4 {v:Vw}:Does Tryz.prog 69 [.agg (vwC v).toArray] [] (fun z H=>∃ s:Sl By,z=s.val∧H=s.hp tU8++[]∧s.list=L8 v∧s.isOwn=true):=by
 refine zF 15 Tryz.func69 ?_
 refine zC ?_
 refine Cy rfl rfl (fun b1=> ?_)
 refine zC ?_
 refine At [(9,[(0,false),(1,false),(3,false),(4,false),(5,false),(7,false),(8,false),(2,true),(6,true)]),(10,[(9,true)]),(11,[(10,true)]),(12,[(11,true)]),(13,[(12,false)])] (by kernel_rfl) ?_
 iterate 5 refine sb ?_
 refine Aj (show Rd _ _ _ _ (wv (BitVec.ofInt 64 v.mem)) from by (unfold wv;rw [← Iy];exact Dv rfl)) ?_
 refine zC ?_
 refine zE rfl (Gg) ?_
 rintro _ _ ⟨s5,rfl,rfl,hs5,ho5⟩
 refine zW ?_
 refine zE rfl (Gg) ?_
 rintro _ _ ⟨s9,rfl,rfl,hs9,ho9⟩
 refine zW ?_
 refine zE rfl (Gg) ?_
 rintro _ _ ⟨s12,rfl,rfl,hs12,ho12⟩
 refine zW ?_
 refine Am rfl rfl rfl rfl (fun b13=> ?_)
 refine zC ?_
 refine zE rfl (V3 (b:=b13) (s1:=s5) (s2:=s9) (s3:=s12) (by rw [hs5,hs9,hs12,A4,A4,A4,show A8 1 8=1 from rfl,show A8 8 8=8 from rfl];decide)) ?_
 rintro _ _ ⟨s14,rfl,rfl,hs14,ho14⟩
 refine zW ?_
 exact zL (hR:=by exact ⟨s14,rfl,rfl,by rw [hs14,hs5,hs9,hs12];rfl,ho14⟩)
structure En where
 at':Pl2
 ep:Wd
def Alh (e:En):List Value:=[.int .i64 e.at'.1,.int .i64 e.at'.2,wv e.ep]
instance:Mv En:=⟨fun e=> .agg (Alh e).toArray⟩
def A03:En:=⟨(0,0),0⟩
abbrev tSt:TypeId:=67
structure Sto where
 st:Nat
 lg:Nat
 ib:Nat
 pb:Nat
 sb:Nat
 last:Cm
 la:Pl2
 vw:Vw
 va:Pl2
 viewed:Bool
 seen:Wd
 hurt:Bool
 idx:Mp En
 pend:Mp En
 stray:Mp Int
def stT (S:Sto):List Value:=[.int .i64 S.la.1,.int .i64 S.la.2,wv S.vw.num,.int .i64 S.vw.mem,wv S.vw.base,.int .i64 S.va.1,.int .i64 S.va.2,.bool S.viewed,wv S.seen,.bool S.hurt]
def stC (S:Sto):List Value:=ptr S.lg:: .map (some S.ib):: .map (some S.pb):: .map (some S.sb)::(cmC S.last++stT S)
theorem Tx (S:Sto):(stC S).length=48:=by
 show (cmC S.last++stT S).length+1+1+1+1=48
 rw [A3x,Bj];rfl
theorem Gj {S:Sto} {o:Nat} {v:Value} (h:nth (stT S) o=some v):nth (stC S) (o+38)=some v:=by
 rw [Dk] at h ⊢
 show (ptr S.lg:: .map (some S.ib):: .map (some S.pb):: .map (some S.sb)::(cmC S.last++stT S))[o+34+4]? =_
 simp only [A2k]
 rw [A19 (by rw [Bj];omega),Bj,Nat.add_sub_cancel]
 exact h
theorem M3 {S:Sto} {o m:Nat} {cs:List Value} (h:cut (stT S) o m=some cs):cut (stC S) (o+38) m=some cs:=by
 obtain ⟨h1,h2⟩:=cut_iff.1 h
 refine cut_iff.2 ⟨?_,by rw [Tx];have:(stT S).length=10:=rfl;omega⟩
 rw [h1]
 congr 1
 show (stT S).drop o=(ptr S.lg:: .map (some S.ib):: .map (some S.pb):: .map (some S.sb)::(cmC S.last++stT S)).drop (o+34+4)
 simp only [A3i]
 have h9:(cmC S.last).drop (o+34)=[]:=A2p (by rw [Bj];omega)
 rw [List.drop_append,h9,Bj,Nat.add_sub_cancel]
 rfl
theorem A04 (S:Sto):cut (stC S) 4 34=some (cmC S.last):=by
 refine cut_iff.2 ⟨?_,by rw [Tx];decide⟩
 show _=(cmC S.last++stT S).take 34
 rw [A5e Bj]
theorem Aiw (S:Sto):cut (stC S) 5 32=some (vbc S.last.lv):=by
 refine cut_iff.2 ⟨?_,by rw [Tx];decide⟩
 show _=(vbc S.last.lv++[uv S.last.sum]++stT S).take 32
 rw [A34,A5e Ai]
def stA (S:Sto):List Value:=[ptr S.lg,.map (some S.ib),.map (some S.pb),.map (some S.sb)]++cmC S.last
theorem Au9 (S:Sto):(stA S).length=38:=by
 unfold stA
 rw [A3x,Bj];rfl
theorem Ci {S S':Sto} {o:Nat} {new:List Value} (h:A7 (stT S) o new=some (stT S')) (h1:stA S'=stA S):A7 (stC S) (o+38) new=some (stC S'):=by
 have e:∀ S,stC S=stA S++stT S:=fun S=>rfl
 have:=D8 (a:=stA S) h
 rw [Au9,A55] at this
 rw [e,e,h1]
 exact this
theorem M4 (S:Sto) (c:Cm):A7 (stC S) 4 (cmC c)=some (stC { S with last:=c }):=by
 refine Ex ?_ (by rw [Tx,Bj];decide)
 rw [Bj]
 show ptr S.lg:: .map (some S.ib):: .map (some S.pb):: .map (some S.sb)::(cmC c++stT S)=[ptr S.lg,.map (some S.ib),.map (some S.pb),.map (some S.sb)]++cmC c++(cmC S.last++stT S).drop 34
 rw [A44 Bj]
 simp
def stH (S:Sto):Hp:=(S.st,true,C (stC S) tSt)::(S.ib,true,S.idx.obj .i64)::(S.pb,true,S.pend.obj .i64)::(S.sb,true,S.stray.obj .i64)::[]
def plB (x y:Pl2):Bool:=decide (x.1=y.1) && decide (x.2=y.2)
theorem plB_iff {x y:Pl2}:plB x y=true↔x=y:=by
 unfold plB
 grind
theorem V4 (x y:Pl2):Bq [some .i64,some .i64] [.int .i64 x.1,.int .i64 x.2] [.int .i64 y.1,.int .i64 y.2]=some (plB x y):=by
 unfold plB
 simp [Bq,Kd]
 try rfl
theorem Agr {e:En} {b:Nat} {x:Pl2}:Does Tryz.prog 207 [.agg (Alh e).toArray,ptr b] [(b,true,C [.int .i64 x.1,.int .i64 x.2] tPc)] (Is (.bool (plB e.at' x)) [(b,true,C [.int .i64 x.1,.int .i64 x.2] tPc)]):=by
 refine zF 8 Tryz.func207 ?_
 refine zC ?_
 refine Cy rfl rfl (fun b2=> ?_)
 iterate 8 refine sb ?_
 refine Ae (Or rfl rfl (V4 e.at' x)) rfl ?_
 refine zC ?_
 exact zS
def Qm (S:Sto) (x:Pl2):Bool:=(decide ((S.last.ep.toNat:Int)>0) && plB x S.la) || (S.viewed && plB x S.va)
def Fl (m:Mp En) (x:Pl2):Bool:=m.es.any fun e=>plB e.v.at' x
def mb (S:Sto) (i:Nat):Nat:=if i=0 then S.ib else S.pb
def mm (S:Sto) (i:Nat):Mp En:=if i=0 then S.idx else S.pend
theorem Ags {S:Sto} {i:Nat} (hi:i<2) {H:Hp} (h1:(S.ib,true,S.idx.obj .i64)∈H) (h2:(S.pb,true,S.pend.obj .i64)∈H):(mb S i,true,(mm S i).obj .i64)∈H:=by
 have:i=0∨i=1:=by omega
 rcases this with rfl | rfl
 ·exact h1
 ·exact h2
theorem Agt {m:Mp En} {x:Pl2} (h:∀ e∈m.es,plB e.v.at' x=false):Fl m x=false:=by
 unfold Fl
 rw [List.any_eq_false]
 grind
theorem Ad2 {m:Mp En} {x:Pl2} {e:Me En} (he:e∈m.es) (h:plB e.v.at' x=true):Fl m x=true:=A4m.2 ⟨e,he,h⟩
theorem R5 {S:Sto} {x:Pl2}:Does Tryz.prog 162 [ptr S.st,.agg #[.int .i64 x.1,.int .i64 x.2]] ((S.st,true,C (stC S) tSt)::(S.ib,true,S.idx.obj .i64)::(S.pb,true,S.pend.obj .i64)::[])
  (Is (.bool (Qm S x || Fl S.idx x || Fl S.pend x)) ((S.st,true,C (stC S) tSt)::(S.ib,true,S.idx.obj .i64)::(S.pb,true,S.pend.obj .i64)::[])):=by
 refine zF 61 Tryz.func162 ?_
 refine zC ?_
 refine Cy rfl rfl (fun b3=> ?_)
 refine zC ?_
 refine Ae (Pu rfl) rfl ?_
 refine zC ?_
 refine At [(28,[(0,false),(1,false),(2,false),(3,false),(4,false),(5,false),(6,false),(7,false),(8,false),(9,false),(10,false),(11,false),(12,false),(13,false),(14,false),(15,false),(16,false),(17,false),(18,false),(19,false),(20,false),(21,false),(22,false),(23,false),(24,false),(25,false),(26,false),(27,false)])] (by kernel_rfl) ?_
 iterate 8 refine sb ?_
 refine' Fe rfl rfl inferInstance rfl rfl rfl rfl rfl (fun hg17=> ?_) ?_
 rotate_left
 ·try (simp at hg17;show _)
  iterate 9 refine sb ?_
  refine Aj (Ao rfl mM (M3 rfl)) ?_
  refine zA ?_
  refine Aj (Or rfl rfl (V4 x S.la)) ?_
  exact D9 rfl sP
 refine sa ?_
 refine' Lz rfl rfl inferInstance rfl rfl rfl rfl rfl (fun hg25=> ?_) ?_
 rotate_left
 ·try (simp at hg25;show _)
  refine zA ?_
  refine Aj (Al rfl mM (Gj rfl)) ?_
  iterate 2 refine sa ?_
  refine' Fe rfl rfl inferInstance rfl rfl rfl rfl rfl (fun hg30=> ?_) ?_
  rotate_left
  ·try (simp at hg30;show _)
   iterate 9 refine sb ?_
   refine Aj (Ao rfl mM (M3 rfl)) ?_
   refine zA ?_
   refine Aj (Or rfl rfl (V4 x S.va)) ?_
   exact D9 rfl sP
  exact D9 rfl sP
 refine zC ?_
 refine Aa rfl (fun c38=> ?_) (fun c38=> ?_)
 ·skip
  have hB:Qm S x=true:=c38
  refine zC ?_
  refine Ak (Aw Tryz.results162 (Af rfl)) ?_ sP
  rw [hB];rfl
 ·skip
  have hB:Qm S x=false:=c38
  refine zC ?_
  refine At [(10,[(0,false),(1,false),(2,false),(3,false),(4,false),(5,false),(6,false),(7,false),(8,false),(9,false)])] (by kernel_rfl) ?_
  iterate 9 refine sb ?_
  refine Aj (Ot rfl rfl) ?_
  refine zC ?_
  refine Ar [0,3,5,47] kQ (fun (i:Nat)=>[(48,.int .i64 i)]) (fun i=>(b3,true,C [.int .i64 x.1,.int .i64 x.2] tPc)::(S.st,true,C (stC S) tSt)::(S.ib,true,S.idx.obj .i64)::(S.pb,true,S.pend.obj .i64)::[]) (fun i=>i≤2∧∀ j<i,Fl (mm S j) x=false) (fun i=>2 - i) (0) ⟨A6j _,fun j hj=>by cases hj⟩ kP sP ?_
  rintro i ⟨g0,g1⟩
  refine zC ?_
  refine Aa rfl (fun c49=> ?_) (fun c49=> ?_)
  ·simp only [A4f,A2m] at c49
   have hi:i<2:=(by omega)
   refine zC ?_
   refine Ae (Aod (v:= .map (some (mb S i))) rfl rfl (by omega) (by have:i=0∨i=1:=(by omega);rcases this with rfl | rfl <;> rfl)) rfl ?_
   refine zC ?_
   refine I6 (m:=mm S i) (kd:= .i64) rfl (Ags hi mM mM) rfl (fun it52=> ?_)
   refine zC ?_
   refine Ar [0,3,5,47,48,52] kQ (fun (seen:List Nat)=>[]) (fun seen=>(it52,true,itO (mb S i) (mm S i).cl seen (mm S i).cl)::(b3,true,C [.int .i64 x.1,.int .i64 x.2] tPc)::(S.st,true,C (stC S) tSt)::(S.ib,true,S.idx.obj .i64)::(S.pb,true,S.pend.obj .i64)::[]) (fun seen=>∀ e∈(mm S i).es,e.n∈seen→plB e.v.at' x=false) (fun seen=>Jn (mm S i) seen) ([]) (fun e _ h=>by cases h) kP sP ?_
   rintro seen hs
   refine zC ?_
   refine Ll rfl (by repeat (first | exact Pick.here | apply Pick.there | apply Pick.app)) (Ags hi mM mM) (Mp.wc _) (A6h _) rfl (fun hl53=> ?_) (fun e53 he53 hn53=> ?_)
   ·refine zC ?_
    refine Ay rfl ?_
    refine zC ?_
    exact ⟨i+1,⟨by omega,fun j hj=>by by_cases h:j=i;(subst h;exact Agt fun e he=>hs e he (Iv hl53 e he));grind⟩,(by omega),lZ⟩
   ·refine zC ?_
    refine Es rfl ?_
    refine zC ?_
    refine Ae (I7 rfl mM (Ags hi mM mM) he53) rfl ?_
    refine zC ?_
    refine Ah rfl (fun b9=> ?_)
    refine zC ?_
    refine Xy (fi:=[]) (ca:=[ptr b3]) rfl rfl (Agr (e:=e53.v) (b:=b3) (x:=x)) sP rfl aQ ?_
    refine zC ?_
    refine Aa rfl (fun c59=> ?_) (fun c59=> ?_)
    ·skip
     have hM:=Ad2 he53 c59
     refine zC ?_
     refine Ak (Aw Tryz.results162 (Af rfl)) ?_ sP
     have hc:Fl S.idx x=true∨Fl S.pend x=true:=(by have:i=0∨i=1:=(by omega);rcases this with rfl | rfl;exact .inl hM;exact .inr hM);rcases hc with h | h <;> rw [h] <;> simp
    ·skip
     refine zC ?_
     exact ⟨seen++[e53.n],(fun e he h=>by rcases A49.1 h with h | h;exact hs e he h;(have:=A3z.1 h;rw [Mp.n_inj he he53 this];exact c59)),(C6 he53 hn53),lZ⟩
  ·simp only [A4f,A2m] at c49
   have hi:i=2:=(by omega)
   subst hi
   refine zC ?_
   refine Ak (Aw Tryz.results162 (Af rfl)) ?_ sP
   rw [hB,show Fl S.idx x=false from g1 0 (by omega),show Fl S.pend x=false from g1 1 (by omega)];rfl
end
section
open Go.K
instance fld124_1:Fld Tryz.prog 124 1 2:=⟨⟨_,_,0,Tryz.underlying124,rfl,by kernel_rfl,rfl⟩⟩
instance plc124:Plc Tryz.prog 124 [(0,2),(2,1)]:=⟨⟨_,Tryz.underlying124,fun _=>by kernel_rfl⟩⟩
def mvE (f t:Pl2) (e:En):En:=if plB e.at' f=true then ⟨t,e.ep⟩ else e
def Abe (S:Sto) (f t:Pl2):Sto:={ S with la:=if (decide ((S.last.ep.toNat:Int)>0) && plB S.la f)=true then t else S.la }
def Abf (S:Sto) (f t:Pl2):Sto:={ S with va:=if (S.viewed && plB S.va f)=true then t else S.va }
def Dm (S:Sto) (f t:Pl2):Sto:={ Abf (Abe S f t) f t with idx:=S.idx.mapV (mvE f t),pend:=S.pend.mapV (mvE f t) }
def sel (i:Nat) (X Y:Mp En):Mp En:=if i=0 then X else Y
def pX (i:Nat) (m X:Mp En):Mp En:=if i=0 then m else X
def pY (i:Nat) (m Y:Mp En):Mp En:=if i=0 then Y else m
theorem Abg {S:Sto} {i:Nat} {X Y:Mp En} (hi:i<2) {H:Hp} (h1:(S.ib,true,X.obj .i64)∈H) (h2:(S.pb,true,Y.obj .i64)∈H):(mb S i,true,(sel i X Y).obj .i64)∈H:=by
 have:i=0∨i=1:=by omega
 rcases this with rfl | rfl
 ·exact h1
 ·exact h2
theorem Ad3 {b:Nat} {o:Obj} {H K:Hp} (h:Upd b o o H K):K=H:=by
 generalize e:o=o' at h
 induction h with
 | here=>subst e;rfl
 | there _ ih=>rw [ih]
theorem Ava {S:Sto} {i:Nat} {X Y m:Mp En} (hi:i<2) {H K G:Hp} (h1:Upd S.ib (X.obj .i64) ((pX i m X).obj .i64) H K) (h2:Upd S.pb (Y.obj .i64) ((pY i m Y).obj .i64) K G):Upd (mb S i) ((sel i X Y).obj .i64) (m.obj .i64) H G:=by
 have:i=0∨i=1:=by omega
 rcases this with rfl | rfl
 ·have:=Ad3 h2
  subst this
  exact h1
 ·have:=Ad3 h1
  subst this
  exact h2
theorem Aix {f t:Pl2} {e:En} (h:plB e.at' f=true):mvE f t e=⟨t,e.ep⟩:=A6v h
theorem Ap5 {f t:Pl2} {e:En} (h:plB e.at' f=false):mvE f t e=e:=A6u (by rw [h];decide)
def MvI (S:Sto) (g:En→En) (i:Nat) (X Y:Mp En):Prop:=X=(if 0<i then S.idx.mapV g else S.idx)∧Y=if 1<i then S.pend.mapV g else S.pend
def MvJ (S:Sto) (g:En→En) (i:Nat) (seen:List Nat) (X Y:Mp En):Prop:=(i=0→X=S.idx.upS g seen∧Y=S.pend)∧(i=1→X=S.idx.mapV g∧Y=S.pend.upS g seen)
theorem MvJ.sel {S:Sto} {g:En→En} {i:Nat} {seen:List Nat} {X Y:Mp En} (h:MvJ S g i seen X Y) (hi:i<2):sel i X Y=(mm S i).upS g seen:=by
 have:i=0∨i=1:=by omega
 rcases this with rfl | rfl
 ·exact (h.1 rfl).1
 ·exact (h.2 rfl).2
theorem MvI.start {S:Sto} {g:En→En} {i:Nat} {X Y:Mp En} (h:MvI S g i X Y) (hi:i<2):MvJ S g i [] X Y:=by
 obtain ⟨rfl,rfl⟩:=h
 refine ⟨fun e=> ?_,fun e=> ?_⟩ <;> subst e <;> refine ⟨?_,?_⟩
 ·rw [Mp.upS_nil];rfl
 ·rfl
 ·rfl
 ·rw [Mp.upS_nil];rfl
theorem MvJ.done {S:Sto} {g:En→En} {i:Nat} {seen:List Nat} {X Y:Mp En} (h:MvJ S g i seen X Y) (hi:i<2) (hl:H9 (Go.Proofs.YtpmojdippdlcaaaGreatDoor.sel i X Y) seen=[]):MvI S g (i+1) X Y:=by
 rw [h.sel hi] at hl
 have ha:=Mp.upS_all (f:=g) (Mp.upS_left hl)
 have:i=0∨i=1:=by omega
 rcases this with rfl | rfl
 ·obtain ⟨rfl,rfl⟩:=h.1 rfl
  exact ⟨ha,rfl⟩
 ·obtain ⟨rfl,rfl⟩:=h.2 rfl
  exact ⟨rfl,ha⟩
theorem MvJ.put {S:Sto} {g:En→En} {i:Nat} {seen:List Nat} {X Y:Mp En} {e:Me En} {v:En} (h:MvJ S g i seen X Y) (hi:i<2) (he:e∈(Go.Proofs.YtpmojdippdlcaaaGreatDoor.sel i X Y).es) (hn:e.n∉seen) (hv:v=g e.v) :
  MvJ S g i (seen++[e.n]) (pX i ((Go.Proofs.YtpmojdippdlcaaaGreatDoor.sel i X Y).put e.k v) X) (pY i ((Go.Proofs.YtpmojdippdlcaaaGreatDoor.sel i X Y).put e.k v) Y):=by
 have hs:=h.sel hi
 rw [hs] at he
 have he':=Mp.upS_mem he hn
 have hp:(Go.Proofs.YtpmojdippdlcaaaGreatDoor.sel i X Y).put e.k v=(mm S i).upS g (seen++[e.n]):=by
  rw [hs,hv];exact Mp.upS_put he' hn
 rw [hp]
 have:i=0∨i=1:=by omega
 rcases this with rfl | rfl
 ·exact ⟨fun _=>⟨rfl,(h.1 rfl).2⟩,fun e=>(nomatch e)⟩
 ·exact ⟨fun e=>(nomatch e),fun _=>⟨(h.2 rfl).1,rfl⟩⟩
theorem MvJ.skip {S:Sto} {g:En→En} {i:Nat} {seen:List Nat} {X Y:Mp En} {e:Me En} (h:MvJ S g i seen X Y) (hi:i<2) (he:e∈(Go.Proofs.YtpmojdippdlcaaaGreatDoor.sel i X Y).es) (hn:e.n∉seen) (hv:g e.v=e.v):MvJ S g i (seen++[e.n]) X Y:=by
 have hs:=h.sel hi
 rw [hs] at he
 have he':=Mp.upS_mem he hn
 have hk:=Mp.upS_skip (seen:=seen) he' hv
 have:i=0∨i=1:=by omega
 rcases this with rfl | rfl
 ·obtain ⟨rfl,rfl⟩:=h.1 rfl
  exact ⟨fun _=>⟨hk.symm,rfl⟩,fun e=>(nomatch e)⟩
 ·obtain ⟨rfl,rfl⟩:=h.2 rfl
  exact ⟨fun e=>(nomatch e),fun _=>⟨rfl,hk.symm⟩⟩
theorem MvJ.mem {S:Sto} {g:En→En} {i:Nat} {seen:List Nat} {X Y:Mp En} {e:Me En} (h:MvJ S g i seen X Y) (hi:i<2) (he:e∈(Go.Proofs.YtpmojdippdlcaaaGreatDoor.sel i X Y).es) (hn:e.n∉seen):e∈(mm S i).es:=by
 rw [h.sel hi] at he
 exact Mp.upS_mem he hn
theorem MvJ.cl {S:Sto} {g:En→En} {i:Nat} {seen:List Nat} {X Y:Mp En} (h:MvJ S g i seen X Y) (hi:i<2):(Go.Proofs.YtpmojdippdlcaaaGreatDoor.sel i X Y).cl=(mm S i).cl:=by rw [h.sel hi];rfl
theorem Ap6 {S:Sto} {f t:Pl2} {S2:Sto} (hS2:S2=Dm S f t):Does Tryz.prog 164 [ptr S.st,.agg #[.int .i64 f.1,.int .i64 f.2],.agg #[.int .i64 t.1,.int .i64 t.2]] ((S.st,true,C (stC S) tSt)::(S.ib,true,S.idx.obj .i64)::(S.pb,true,S.pend.obj .i64)::[])
  (Is (.tuple #[]) ((S2.st,true,C (stC S2) tSt)::(S2.ib,true,S2.idx.obj .i64)::(S2.pb,true,S2.pend.obj .i64)::[])):=by
 obtain ⟨S1,hS1⟩:∃ S1,S1=Abe S f t:=⟨_,rfl⟩
 obtain ⟨S0,hS0⟩:∃ S0,S0=Abf S1 f t:=⟨_,rfl⟩
 refine zF 74 Tryz.func164 ?_
 refine zC ?_
 refine Cy rfl rfl (fun b4=> ?_)
 refine Cy rfl rfl (fun b5=> ?_)
 iterate 2 refine sa ?_
 refine Rm (fun F L=>F=[(0,ptr S.st),(4,ptr b4),(5,ptr b5)]∧L=(b5,true,C [.int .i64 t.1,.int .i64 t.2] tPc)::(b4,true,C [.int .i64 f.1,.int .i64 f.2] tPc)::(S1.st,true,C (stC S1) tSt)::(S1.ib,true,S1.idx.obj .i64)::(S1.pb,true,S1.pend.obj .i64)::[]) ?_ ?_
 ·refine zC ?_
  refine At [(14,[(0,false),(1,false),(2,false),(3,false),(4,false),(5,false),(6,false),(7,false),(8,false),(9,false),(10,false),(11,false),(12,false),(13,false)])] (by kernel_rfl) ?_
  iterate 8 refine sb ?_
  refine' Fe rfl rfl inferInstance rfl rfl rfl rfl rfl (fun hg16=> ?_) ?_
  rotate_left
  ·try (simp at hg16;show _)
   refine zA ?_
   refine Aj (Ao rfl mM (M3 rfl)) ?_
   iterate 3 refine sb ?_
   refine Aj (Or rfl rfl (V4 S.la f)) ?_
   exact D9 rfl sP
  refine zC ?_
  refine Aa rfl (fun c23=> ?_) (fun c23=> ?_)
  ·skip
   have e1:S1={ S with la:=t }:=(by rw [hS1];unfold Abe;rw [A6v c23])
   subst e1
   iterate 5 refine sb ?_
   refine Ac (cs':=stC { S with la:=t }) rfl rfl uD rfl rfl (Ci (S:=S) rfl rfl) ?_
   refine zC ?_
   exact ⟨_,_,⟨rfl,rfl⟩,jZ⟩
  ·skip
   have e1:S1=S:=(by rw [hS1];unfold Abe;rw [A6u (by rw [c23];decide)])
   subst e1
   refine zC ?_
   exact ⟨_,_,⟨rfl,rfl⟩,jZ⟩
 ·rintro F L ⟨rfl,rfl⟩
  have est:S1.st=S.st:=(by rw [hS1];rfl)
  rw [← est]
  refine Rm (fun F L=>F=[(0,ptr S1.st),(4,ptr b4),(5,ptr b5)]∧L=(b5,true,C [.int .i64 t.1,.int .i64 t.2] tPc)::(b4,true,C [.int .i64 f.1,.int .i64 f.2] tPc)::(S0.st,true,C (stC S0) tSt)::(S0.ib,true,S0.idx.obj .i64)::(S0.pb,true,S0.pend.obj .i64)::[]) ?_ ?_
  ·refine zC ?_
   refine At [(12,[(0,false),(1,false),(2,false),(3,false),(4,false),(5,false),(6,false),(7,false),(8,false),(9,false),(10,false),(11,false)])] (by kernel_rfl) ?_
   refine zA ?_
   refine Aj (Al rfl mM (Gj rfl)) ?_
   refine sa ?_
   refine' Fe rfl rfl inferInstance rfl rfl rfl rfl rfl (fun hg32=> ?_) ?_
   rotate_left
   ·try (simp at hg32;show _)
    refine zA ?_
    refine Aj (Ao rfl mM (M3 rfl)) ?_
    iterate 3 refine sb ?_
    refine Aj (Or rfl rfl (V4 S1.va f)) ?_
    exact D9 rfl sP
   refine zC ?_
   refine Aa rfl (fun c39=> ?_) (fun c39=> ?_)
   ·skip
    have e1:S0={ S1 with va:=t }:=(by rw [hS0];unfold Abf;rw [A6v c39])
    subst e1
    iterate 5 refine sb ?_
    refine Ac (cs':=stC { S1 with va:=t }) rfl rfl uD rfl rfl (Ci (S:=S1) rfl rfl) ?_
    refine zC ?_
    exact ⟨_,_,⟨rfl,rfl⟩,jZ⟩
   ·skip
    have e1:S0=S1:=(by rw [hS0];unfold Abf;rw [A6u (by rw [c39];decide)])
    subst e1
    refine zC ?_
    exact ⟨_,_,⟨rfl,rfl⟩,jZ⟩
  ·rintro F L ⟨rfl,rfl⟩
   have est0:S0.st=S1.st:=(by rw [hS0];rfl)
   rw [← est0]
   refine zC ?_
   refine At [(10,[(0,false),(1,false),(2,false),(3,false),(4,false),(5,false),(6,false),(7,false),(8,false),(9,false)])] (by kernel_rfl) ?_
   iterate 9 refine sb ?_
   refine Aj (Ot rfl rfl) ?_
   refine zC ?_
   refine Ar [4,5,52] kQ (fun (st:Nat×Mp En×Mp En)=>[(53,.int .i64 st.1)]) (fun st=>(b5,true,C [.int .i64 t.1,.int .i64 t.2] tPc)::(b4,true,C [.int .i64 f.1,.int .i64 f.2] tPc)::(S0.st,true,C (stC S0) tSt)::(S0.ib,true,st.2.1.obj .i64)::(S0.pb,true,st.2.2.obj .i64)::[]) (fun st=>st.1≤2∧MvI S0 (mvE f t) st.1 st.2.1 st.2.2) (fun st=>2 - st.1) ((0,S0.idx,S0.pend)) ⟨A6j _,rfl,rfl⟩ kP sP ?_
   rintro ⟨i,X,Y⟩ ⟨g0,gI⟩
   simp only at g0 gI
   refine zC ?_
   refine Aa rfl (fun c54=> ?_) (fun c54=> ?_)
   ·simp only [A4f,A2m] at c54
    have hi:i<2:=(by omega)
    have hJ0:=gI.start hi
    have hcl0:=hJ0.cl hi
    refine zC ?_
    refine Ae (Aod (v:= .map (some (mb S0 i))) rfl rfl (by omega) (by have:i=0∨i=1:=(by omega);rcases this with rfl | rfl <;> rfl)) rfl ?_
    refine zC ?_
    refine I6 (m:=sel i X Y) (kd:= .i64) rfl (Abg hi mM mM) rfl (fun it57=> ?_)
    refine zC ?_
    refine Ar [4,5,7,52,53,57] kQ (fun (st:List Nat×Mp En×Mp En)=>[]) (fun st=>(it57,true,itO (mb S0 i) (mm S0 i).cl st.1 (mm S0 i).cl)::(b5,true,C [.int .i64 t.1,.int .i64 t.2] tPc)::(b4,true,C [.int .i64 f.1,.int .i64 f.2] tPc)::(S0.st,true,C (stC S0) tSt)::(S0.ib,true,st.2.1.obj .i64)::(S0.pb,true,st.2.2.obj .i64)::[]) (fun st=>MvJ S0 (mvE f t) i st.1 st.2.1 st.2.2) (fun st=>Jn (mm S0 i) st.1) (([],X,Y)) hJ0 kP (by rw [hcl0];exact sP) ?_
    rintro ⟨seen,X,Y⟩ gJ
    simp only at gJ
    have hcl:=gJ.cl hi
    refine zC ?_
    refine Ll rfl (by repeat (first | exact Pick.here | apply Pick.there | apply Pick.app)) (Abg hi mM mM) (by rw [← hcl];exact Mp.wc _) (A6h _) rfl (fun hl58=> ?_) (fun e58 he58 hn58=> ?_)
    ·refine zC ?_
     refine Ay rfl ?_
     refine zC ?_
     exact ⟨(i+1,X,Y),⟨by simp only;omega,gJ.done hi hl58⟩,(by simp only;omega),lZ⟩
    ·refine zC ?_
     refine Es rfl ?_
     refine zC ?_
     refine Ae (I7 rfl mM (Abg hi mM mM) he58) rfl ?_
     refine zC ?_
     refine Ah rfl (fun b9=> ?_)
     iterate 9 refine sb ?_
     refine Ae (Or rfl rfl (V4 e58.v.at' f)) rfl ?_
     refine zC ?_
     refine Aa rfl (fun c66=> ?_) (fun c66=> ?_)
     ·skip
      refine zC ?_
      refine Ya (m:=sel i X Y) (v:=(⟨t,e58.v.ep⟩:En)) (kd:= .i64) rfl rfl rfl (Ava hi uD uD) ?_
      refine zC ?_
      rw [hcl]
      first | exact ⟨(seen++[e58.n],_,_),gJ.put hi he58 hn58 (Aix c66).symm,C6 (gJ.mem hi he58 hn58) hn58,lZ⟩ | exact ⟨(seen++[e58.n],X,Y),gJ.skip hi he58 hn58 (Ap5 c66),C6 (gJ.mem hi he58 hn58) hn58,lZ⟩
     ·skip
      refine zC ?_
      rw [hcl]
      first | exact ⟨(seen++[e58.n],_,_),gJ.put hi he58 hn58 (Aix c66).symm,C6 (gJ.mem hi he58 hn58) hn58,lZ⟩ | exact ⟨(seen++[e58.n],X,Y),gJ.skip hi he58 hn58 (Ap5 c66),C6 (gJ.mem hi he58 hn58) hn58,lZ⟩
   ·simp only [A4f,A2m] at c54
    have hi:i=2:=(by omega)
    subst hi
    refine zC ?_
    refine Pz (Aj9 Tryz.results164) ?_ (by obtain ⟨rfl,rfl⟩:=gI;rw [hS2,show Dm S f t={ S0 with idx:=S0.idx.mapV (mvE f t),pend:=S0.pend.mapV (mvE f t) } from by rw [hS0,hS1];rfl];exact sP)
    rfl
end
section
open Go.K
instance und269:Und Tryz.prog 269 (.slice 271):=⟨Tryz.underlying269⟩
instance agg271:Agg Tryz.prog 271 true:=⟨⟨_,Tryz.underlying271,rfl⟩⟩
instance siz271:Siz Tryz.prog 271 5:=⟨by kernel_rfl⟩
instance zer271:Zer Tryz.prog 271 ([.int .i64 0,.int .u64 0,.int .u64 0,.slice none 0 0,.int .i64 0]):=⟨by kernel_rfl⟩
instance fld157_0:Fld Tryz.prog 157 0 0:=⟨⟨_,_,0,Tryz.underlying157,rfl,by kernel_rfl,rfl⟩⟩
instance fld157_2:Fld Tryz.prog 157 2 2:=⟨⟨_,_,0,Tryz.underlying157,rfl,by kernel_rfl,rfl⟩⟩
instance fld271_0:Fld Tryz.prog 271 0 0:=⟨⟨_,_,3,Tryz.underlying271,rfl,by kernel_rfl,rfl⟩⟩
instance fld271_1:Fld Tryz.prog 271 1 4:=⟨⟨_,_,0,Tryz.underlying271,rfl,by kernel_rfl,rfl⟩⟩
def In (n:Int):Int:=max 0 ((min (max n 0) 1099511627776 - 3)*3 - 2)
theorem Ap7 {n:Int}:Does Tryz.prog 65 [.int .i64 n] [] (Is (.int .i64 (In n)) []):=by
 refine zF 10 Tryz.func65 ?_
 refine zA ?_
 refine Ae (Ms rfl rfl) rfl ?_
 refine Ae (Aal rfl rfl) rfl ?_
 refine sb ?_
 refine Ae (Ps rfl rfl (by omega)) rfl ?_
 refine sb ?_
 refine Ae (Ms rfl rfl) rfl ?_
 refine zC ?_
 exact zS
structure Ldv where
 s:Seg
 c:Int
def ldC (x:Ldv):List Value:=[.int .i64 x.s.b,wv x.s.seq,wv x.s.wear,x.s.recs.val,.int .i64 x.c]
instance:Cel Ldv:=⟨5,ldC,fun _=>rfl,fun _=>rfl⟩
abbrev tLd:TypeId:=271
def ld0:Ldv:=⟨sg0,0⟩
def J4 (xs:List Ldv) (i:Nat):Ldv:=xs.getD i ld0
theorem Qn {xs:List Ldv} {i:Nat} (h1:i<xs.length):xs[i]? =some (J4 xs i):=by
 simp [J4,A18,h1]
def V5 (x y:Int):Int:=if x<y then -1 else if y<x then 1 else 0
theorem Aiy {x:Int}:Does Tryz.prog 215 [.int .i64 x] [] (Is (.bool false) []):=by
 refine zF 6 Tryz.func215 ?_
 refine zC ?_
 refine Ak (Aw Tryz.results215 (Af rfl)) ?_ sP
 simp
theorem S5 {x y:Int}:Does Tryz.prog 238 [.int .i64 x,.int .i64 y] [] (Is (.int .i64 (V5 x y)) []):=by
 refine zF 20 Tryz.func238 ?_
 refine zC ?_
 refine zI rfl (Aiy) ?_
 refine zC ?_
 refine zI rfl (Aiy) ?_
 refine zC ?_
 refine Ay rfl ?_
 refine zC ?_
 refine Ay rfl ?_
 refine zC ?_
 refine Aa rfl (fun c16=> ?_) (fun c16=> ?_)
 ·simp only [A4f,A2m] at c16
  refine zC ?_
  refine Ak (Aw Tryz.results238 (Af rfl)) ?_ sP
  unfold V5;grind
 ·simp only [A4f,A2m] at c16
  refine zC ?_
  refine Aa rfl (fun c19=> ?_) (fun c19=> ?_)
  ·simp only [A4f,A2m] at c19
   refine zC ?_
   refine Ak (Aw Tryz.results238 (Af rfl)) ?_ sP
   unfold V5;grind
  ·simp only [A4f,A2m] at c19
   refine zC ?_
   refine Ak (Aw Tryz.results238 (Af rfl)) ?_ sP
   unfold V5;grind
def orF:List Int→Int
 | []=>0
 | x::xs=>if x=0 then orF xs else x
theorem Ap8 {xs:List Int} {i:Nat} {x:Int} (h:xs[i]? =some x):orF (xs.drop i)=if x=0 then orF (xs.drop (i+1)) else x:=by
 obtain ⟨h1,rfl⟩:=List.getElem?_eq_some_iff.1 h
 rw [A2d h1]
 rfl
theorem A05 {s:Sl Int} {T:TypeId}:Does Tryz.prog 237 [s.val] (s.hp T++[]) (Is (.int .i64 (orF s.list)) (s.hp T++[])):=by
 have hsm:=s.small
 refine zF 18 Tryz.func237 ?_
 refine zC ?_
 refine Ar [3,6,7] kQ (fun (i:Nat)=>[(8,.int .i64 i)]) (fun i=>(s.hp T++[])) (fun i=>i≤s.list.length∧orF s.list=orF (s.list.drop i)) (fun i=>s.list.length - i) (0) ⟨A6j _,rfl⟩ kP sP ?_
 rintro i ⟨g0,g1⟩
 refine zC ?_
 refine Aa rfl (fun c9=> ?_) (fun c9=> ?_)
 ·simp only [A4f,A2m] at c9
  obtain ⟨z,hg⟩:∃ z,s.list[i]? =some z:=⟨_,A2i (by omega)⟩
  have hod:=Ap8 hg
  refine zA ?_
  refine Ae (Az rfl rfl (by omega)) rfl ?_
  refine Ae (Ca (o:=0) rfl pL hg rfl rfl) rfl ?_
  refine zC ?_
  refine Aa rfl (fun c14=> ?_) (fun c14=> ?_)
  ·skip
   have hz:z≠0:=(by grind)
   refine zC ?_
   refine Ak (Aw Tryz.results237 (Af rfl)) ?_ sP
   rw [g1,hod,A6u hz]
  ·skip
   have hz:z=0:=(by grind)
   refine zC ?_
   exact ⟨i+1,⟨by omega,by rw [g1,hod,A6v hz]⟩,(by omega),lZ⟩
 ·simp only [A4f,A2m] at c9
  have hi:i=s.list.length:=(by omega)
  subst hi
  refine zC ?_
  refine Ak (Aw Tryz.results237 (Af rfl)) ?_ sP
  rw [g1,List.drop_length];rfl
theorem Ay0 {b:Nat} {x y z:Int}:Does Tryz.prog 237 [.slice (some ⟨b,0,none⟩) 3 3] [(b,true,C [.int .i64 x,.int .i64 y,.int .i64 z] tI)] (Is (.int .i64 (orF [x,y,z])) [(b,true,C [.int .i64 x,.int .i64 y,.int .i64 z] tI)]):=by
 have h:=A05 (s:= .own b [x,y,z] 3 [] ⟨by simp,A6h _,by simp⟩) (T:=tI)
 rw [Sl.hp_own] at h
 exact h
def V6 (x y:Ldv):Bool:=decide (orF [V5 x.c y.c,Anl x.s.wear.toNat y.s.wear.toNat,V5 x.s.b y.s.b]<0)
theorem Ap9 {x y:Ldv}:Does Tryz.prog 221 [.agg (ldC x).toArray,.agg (ldC y).toArray] [] (Is (.bool (V6 x y)) []):=by
 refine zF 29 Tryz.func221 ?_
 refine zC ?_
 refine Cy rfl rfl (fun b2=> ?_)
 refine Cy rfl rfl (fun b3=> ?_)
 refine zC ?_
 refine Ng [] [(7,(.fork [(0,false),(1,false),(2,false),(3,false)] 4 (.one [(5,true),(6,true)]) 5 (.one [(4,true),(6,true)]))),(8,(.one [(7,true)]))] (by kernel_rfl) rfl (fun ops w0 H0 y=> ?_)
 refine Le ?_
 refine Mn ?_ rfl
 refine B4 (Cr rfl) rfl ?_
 refine B4 (Ao rfl mM rfl) rfl ?_
 refine B4 (Cr rfl) rfl ?_
 refine B4 (Ao rfl mM rfl) rfl ?_
 refine Av ⟨⟨_,sP⟩,?_,?_⟩
 refine B7 ?_
 refine Ah rfl (fun b5=> ?_)
 refine Ag ⟨rfl,⟨_,sP⟩,?_⟩
 refine Av ?_
 refine Gn ?_
 refine B7 ?_
 refine Ah rfl (fun b6=> ?_)
 refine Ag ⟨rfl,⟨_,sP⟩,?_⟩
 refine B7 ?_
 refine Ac rfl rfl uD rfl rfl rfl ?_
 refine Ag ⟨rfl,⟨_,sP⟩,?_⟩
 refine Av ?_
 rotate_left
 refine B7 ?_
 refine Ah rfl (fun b6=> ?_)
 refine Ag ⟨rfl,⟨_,sP⟩,?_⟩
 refine Av ?_
 refine Gn ?_
 refine B7 ?_
 refine Ah rfl (fun b5=> ?_)
 refine Ag ⟨rfl,⟨_,sP⟩,?_⟩
 refine B7 ?_
 refine Ac rfl rfl uD rfl rfl rfl ?_
 refine Ag ⟨rfl,⟨_,sP⟩,?_⟩
 refine Av ?_
 rotate_left
 all_goals
  refine Aaa ?_
  refine Gn ?_
  refine B7 ?_
  refine Ac rfl rfl uD rfl rfl rfl ?_
  refine Ag ⟨rfl,⟨_,sP⟩,?_⟩
  refine Av ?_
  refine Rk ?_
  refine zC ?_
  refine At [(14,[(0,false),(1,false),(2,false),(3,false),(5,false),(6,false),(7,false),(8,false),(10,false),(11,false),(12,false),(13,false),(4,true),(9,true)]),(15,[(14,true)]),(16,[(15,true)]),(17,[(16,true)]),(19,[(17,false),(18,false)])] (by kernel_rfl) ?_
  refine zC ?_
  refine zI rfl (S5) ?_
  refine zC ?_
  refine zI rfl (Afm) ?_
  refine zC ?_
  refine zI rfl (S5) ?_
  refine zC ?_
  refine Am rfl rfl rfl rfl (fun b26=> ?_)
  refine zC ?_
  refine zI rfl (Ay0) ?_
  refine zC ?_
  exact zS
def Cu (xs:List Ldv) (but:Int):Nat→Int×Bool
 | 0=>(0,false)
 | i+1=>if (!decide ((i:Int)=but) && (!(Cu xs but i).2 || V6 (J4 xs i) (J4 xs (Cu xs but i).1.toNat)))=true then ((i:Int),true) else Cu xs but i
theorem K4 (xs:List Ldv) (but:Int):∀ i,0≤(Cu xs but i).1∧((Cu xs but i).1<i∨(Cu xs but i).1=0)
 | 0=>⟨A6g _,.inr rfl⟩
 | i+1=>by
  have ih:=K4 xs but i
  unfold Cu
  grind
theorem Aqa {s:Sl Ldv} {but:Int} {T:TypeId}:Does Tryz.prog 220 [s.val,.int .i64 but,.func (.func 221) #[] #[]] (s.hp T++[])
  (Is (.tuple #[.int .i64 (Cu s.list but s.list.length).1,.bool (Cu s.list but s.list.length).2]) (s.hp T++[])):=by
 have hsm:=s.small
 refine zF 37 Tryz.func220 ?_
 refine zC ?_
 refine Ar [0,1,2,10,11] kQ (fun (i:Nat)=>[(12,.int .i64 i),(6,.int .i64 (Cu s.list but i).1),(7,.bool (Cu s.list but i).2)]) (fun i=>(s.hp T++[])) (fun i=>i≤s.list.length) (fun i=>s.list.length - i) (0) (A6j _) kP sP ?_
 rintro i g0
 have hin:=K4 s.list but i
 refine zC ?_
 refine Aa rfl (fun c13=> ?_) (fun c13=> ?_)
 ·simp only [A4f,A2m] at c13
  have hi:i<s.list.length:=(by omega)
  have hg:=Qn hi
  have hg2:=Qn (xs:=s.list) (i:=(Cu s.list but i).1.toNat) (by omega)
  refine zA ?_
  refine Ae (Az rfl rfl (by omega)) rfl ?_
  refine Ae (Cq (o:=0) rfl pL hg rfl rfl) rfl ?_
  refine Ah rfl (fun b9=> ?_)
  refine zC ?_
  refine At [(4,[(0,false),(1,false),(2,false),(3,false)]),(16,[(4,false),(5,false),(6,false),(7,false),(8,false),(9,false),(10,false),(11,false),(12,false),(13,true),(14,false),(15,false)])] (by kernel_rfl) ?_
  iterate 7 refine sb ?_
  refine' Fe rfl rfl inferInstance rfl rfl rfl rfl rfl (fun hg20=> ?_) ?_
  rotate_left
  ·try (simp at hg20;show _)
   refine zA ?_
   refine Aj (D5 rfl) ?_
   iterate 2 refine sa ?_
   refine' Lz rfl rfl inferInstance rfl rfl rfl rfl rfl (fun hg23=> ?_) ?_
   rotate_left
   ·try (simp at hg23;show _)
    iterate 9 refine sb ?_
    refine Aj (Az (s:=s) rfl rfl (by omega)) ?_
    refine zA ?_
    refine Aj (Cq (s:=s) (o:=0) rfl pL hg2 rfl rfl) ?_
    refine zC ?_
    refine Xy (fi:=[]) (ca:=[]) rfl rfl (Ap9 (x:=J4 s.list i) (y:=J4 s.list (Cu s.list but i).1.toNat)) sP rfl aQ ?_
    refine zC ?_
    exact D9 rfl sP
   exact D9 rfl sP
  refine zC ?_
  refine Aa rfl (fun c32=> ?_) (fun c32=> ?_)
  ·skip
   have hst:Cu s.list but (i+1)=((i:Int),true):=(by unfold Cu;rw [A6v c32])
   refine zC ?_
   exact ⟨i+1,(by omega),(by omega),(by rw [hst];exact kP),kP,_,sP⟩
  ·skip
   have hst:Cu s.list but (i+1)=Cu s.list but i:=(by conv=>lhs;unfold Cu;rw [A6u (by rw [c32];decide)])
   refine zC ?_
   exact ⟨i+1,(by omega),(by omega),(by rw [hst];exact kP),kP,_,sP⟩
 ·simp only [A4f,A2m] at c13
  have hi:i=s.list.length:=(by omega)
  subst hi
  refine zC ?_
  exact zS
def D4 (xs:List Ldv):Nat→Nat
 | 0=>0
 | i+1=>if (J4 xs (D4 xs i)).s.seq.toNat<(J4 xs i).s.seq.toNat then i else D4 xs i
theorem V7 (xs:List Ldv):∀ i,D4 xs i<i∨D4 xs i=0
 | 0=> .inr rfl
 | i+1=>by
  have ih:=V7 xs i
  unfold D4
  grind
def F0 (xs:List Ldv):Int×Bool:=Cu xs (D4 xs xs.length) xs.length
theorem Avb {s:Sl Ldv} {T:TypeId}:Does Tryz.prog 193 [s.val] (s.hp T++[]) (Is (.tuple #[.int .i64 (F0 s.list).1,.bool (F0 s.list).2]) (s.hp T++[])):=by
 have hsm:=s.small
 refine zF 31 Tryz.func193 ?_
 refine zC ?_
 refine Ar [0,7,8] kQ (fun (i:Nat)=>[(9,.int .i64 i),(4,.int .i64 (D4 s.list i:Nat))]) (fun i=>(s.hp T++[])) (fun i=>i≤s.list.length) (fun i=>s.list.length - i) (0) (A6j _) kP sP ?_
 rintro i g0
 have hin:=V7 s.list i
 refine zC ?_
 refine Aa rfl (fun c10=> ?_) (fun c10=> ?_)
 ·simp only [A4f,A2m] at c10
  have hi:i<s.list.length:=(by omega)
  have hg:=Qn hi
  have hg2:=Qn (xs:=s.list) (i:=D4 s.list i) (by omega)
  refine zA ?_
  refine Ae (Az rfl rfl (by omega)) rfl ?_
  refine Ae (Cq (o:=0) rfl pL hg rfl rfl) rfl ?_
  refine Ah rfl (fun b6=> ?_)
  refine zC ?_
  refine At [(10,[(0,false),(1,false),(2,false),(3,false),(4,false),(5,false),(6,false),(7,false),(8,false),(9,false)])] (by kernel_rfl) ?_
  iterate 6 refine sb ?_
  refine Aj (Az (s:=s) rfl rfl (by omega)) ?_
  refine zA ?_
  refine Aj (show Rd _ _ _ _ (wv (J4 s.list (D4 s.list i)).s.seq) from Ca (s:=s) (o:=1) rfl pL hg2 rfl rfl) ?_
  refine zC ?_
  refine Aa rfl (fun c23=> ?_) (fun c23=> ?_)
  ·simp only [A4f,A2m] at c23
   have hst:D4 s.list (i+1)=i:=(by unfold D4;rw [A6v (by omega)])
   refine zC ?_
   exact ⟨i+1,(by omega),(by omega),(by rw [hst];exact kP),kP,_,sP⟩
  ·simp only [A4f,A2m] at c23
   have hst:D4 s.list (i+1)=D4 s.list i:=(by conv=>lhs;unfold D4;rw [A6u (by omega)])
   refine zC ?_
   exact ⟨i+1,(by omega),(by omega),(by rw [hst];exact kP),kP,_,sP⟩
 ·simp only [A4f,A2m] at c10
  have hi:i=s.list.length:=(by omega)
  subst hi
  refine zC ?_
  refine zI rfl (Aqa (but:=(D4 s.list s.list.length:Nat))) ?_
  refine zC ?_
  exact zS
end
section
open Go.K
def Junk (p:Pg):Prop:=(Bf p).2.2.2≠0∧D1 p=p
def OkPg (p:Pg):Prop:=RecP p∨Junk p
theorem OkPg.mend {p:Pg} (h:OkPg p):D1 p=p:=by
 rcases h with h | h
 ·exact h.mend
 ·exact h.2
theorem Ali {p:Pg} (h:p[257]=255#8):Junk p:=⟨La h,Ajn h⟩
theorem Junk.get {p:Pg} (h:Junk p):(Ef p).2.2.2≠0:=by
 unfold Ef
 rw [A6u (fun h2=>h.1 h2.1)]
 exact h.1
theorem Ty {m:Nat} {p:Pg}:Cn m Aq p=p∨Junk (Cn m Aq p):=by
 by_cases h:258≤m
 ·exact .inl (Fz h)
 ·refine .inr (Ali ?_)
  have:(Cn m Aq p)[257]=Aq[257]:=by rw [Qg,A6u (by omega)]
  rw [this,K3 (by omega)]
structure CntZ (sq:Wd) (v:Blk) (r:List Pg):Prop where
 seq:sq.toNat≠0
 len:r.length≤6
 next:v.next=((2+r.length:Nat):Int)
 head:A0 v 1=Pb sq
 recs:∀ i (h:i<r.length),A0 v (2+i)=r[i]
 good:∀ p∈r,OkPg p
 wr:∃ w,A0 v 0=Hh w
def Qo (v:Blk):Prop:=(nF (A0 v 1) 3).2=false
structure UsedZ (x:LB) (v:Blk) (r:List Pg):Prop where
 cnt:CntZ x.seq v r
 ready:x.ready=false
 lo:2≤x.next
 hi:x.next≤8
 at':x.next≤v.next∨x.next=8
structure FreeZ (x:LB) (v:Blk):Prop where
 seq:x.seq.toNat=0
 rdy:x.ready=true→v.next=1∧x.known=true∧A0 v 0=Hh x.wear
 free:Qo v
structure LogV (nb k:Nat) (V:Nat→Blk) (bs:List LB) (last:Int) (R:Nat→List Pg):Prop where
 len:bs.length=nb
 blk:∀ j<nb,(FreeZ (bAt bs j) (V j)∧R j=[])∨UsedZ (bAt bs j) (V j) (R j)
 lst:(last= -1∧∀ j<nb,(bAt bs j).seq.toNat=0)∨∃ l:Nat,last=l∧l<nb∧(bAt bs l).seq.toNat≠0∧∀ j<nb,j≠l→(bAt bs j).seq.toNat<(bAt bs l).seq.toNat
 top:∀ j<nb,(bAt bs j).seq.toNat≤k
 dis:∀ i<nb,∀ j<nb,i≠j→(bAt bs i).seq.toNat≠0→(bAt bs i).seq.toNat≠(bAt bs j).seq.toNat
structure LZ (n nb k:Nat) (q:Qt) (d:Dsk) (bs:List LB) (last:Int) (V:Nat→Blk) (R:Nat→List Pg):Prop where
 num:nb+6=n
 dv:DV d.c d.t.ts n k V
 acc:Acc q d.c d.t.ts
 lv:LogV nb k V bs last R
structure LogC (nb k:Nat) (V:Nat→Blk) (sq:Nat→Wd) (R:Nat→List Pg):Prop where
 bi:∀ j<nb,BI (V j)
 blk:∀ j<nb,((sq j).toNat=0∧Qo (V j)∧R j=[])∨CntZ (sq j) (V j) (R j)
 top:∀ j<nb,(sq j).toNat≤k
 dis:∀ i<nb,∀ j<nb,i≠j→(sq i).toNat≠0→(sq i).toNat≠(sq j).toNat
theorem Ad4 {v:Blk} {j:Nat} (h:∀ i,j≤i→i<8→Bh (A0 v i)=true):∀ k,k≤8→Hi v k≤max j (8 - k)
 | 0,_=>by show 8≤_;omega
 | k+1,hk=>by
  have ih:=Ad4 h k (by omega)
  have hle:=Ue v k (by omega)
  unfold Hi
  grind
theorem Aqb {v:Blk} {j:Nat} (h:∀ i,j≤i→i<8→Bh (A0 v i)=true):Nw v≤j:=by
 have:=Ad4 h 8 (A6h _)
 unfold Nw
 omega
theorem Ad5 {v:Blk} {i:Nat} (hb:Bh (A0 v i)=false):∀ k,k≤8→i<8→i+1≤Hi v k
 | 0,_,h8=>by show i+1≤8;omega
 | k+1,hk,h8=>by
  have ih:=Ad5 hb k (by omega) h8
  unfold Hi
  grind
theorem Aqc {v:Blk} {i:Nat} (hi:i<8) (hb:Bh (A0 v i)=false):i+1≤Nw v:=Ad5 hb 8 (A6h _) hi
theorem CntZ.add {sq:Wd} {v w:Blk} {r:List Pg} {p:Pg} (u:CntZ sq w r) (hl:r.length<6) (hn:v.next=((2+r.length+1:Nat):Int)) (hk:Ta v w (2+r.length)) (hp:A0 v (2+r.length)=p) (hg:OkPg p):CntZ sq v (r++[p]) where
 seq:=u.seq
 len:=by rw [A3x];simp;omega
 next:=by rw [hn,A3x];simp;omega
 head:=by rw [Z5 hk (by omega) (by omega) (by rw [u.head];exact Fv (by decide) _),u.head]
 recs:=fun i hi=>by
  rw [A3x] at hi
  simp only [A21] at hi
  by_cases e:i=r.length
  ·grind
  ·have h1:i<r.length:=by omega
   rw [Z5 hk (by omega) (by omega) (by rw [u.recs i h1];exact (u.good _ (A4p h1)).mend),u.recs i h1,List.getElem_append_left h1]
 good:=fun z hz=>by
  rcases A49.1 hz with h | h
  ·exact u.good z h
  grind
 wr:=by
  obtain ⟨x,hx⟩:=u.wr
  exact ⟨x,by rw [Z5 hk (by omega) (by omega) (by rw [hx];exact Fv (by decide) _),hx]⟩
section
variable {n nb k k':Nat} {q:Qt} {d:Dsk} {bs bs':List LB} {last:Int} {V:Nat→Blk} {R:Nat→List Pg} {p:Pg} {v:Blk}
theorem LogV.used (h:LogV nb k V bs last R) {l:Nat} (hl:last=l):l<nb∧UsedZ (bAt bs l) (V l) (R l):=by
 rcases h.lst with ⟨h1,_⟩ | ⟨l',h1,h2,h3,_⟩
 ·omega
 ·have:l'=l:=by omega
  subst this
  refine ⟨h2,?_⟩
  rcases h.blk l' h2 with ⟨f,_⟩ | u
  ·exact absurd f.seq h3
  ·exact u
theorem LogV.us (h:LogV nb k V bs last R) {j:Nat} (hj:j<nb) (hs:(bAt bs j).seq.toNat≠0):UsedZ (bAt bs j) (V j) (R j):=by
 rcases h.blk j hj with ⟨f,_⟩ | u
 ·exact absurd f.seq hs
 ·exact u
theorem LogV.rdy (h:LogV nb k V bs last R):A0c V bs nb:=fun b hb hr=>by
 rcases h.blk b hb with ⟨f,_⟩ | u
 ·exact f.rdy hr
 ·rw [u.ready] at hr;cases hr
theorem LogV.rng (h:LogV nb k V bs last R): -1≤last∧last<nb:=by
 rcases h.lst with ⟨h1,_⟩ | ⟨l,h1,h2,_⟩ <;> omega
theorem LogV.lls (h:LogV nb k V bs last R) (h0:0≤last):(bAt bs last.toNat).seq.toNat≠0∧2≤(bAt bs last.toNat).next∧(bAt bs last.toNat).next≤8:=by
 obtain ⟨hlt,u⟩:=h.used (l:=last.toNat) (by omega)
 exact ⟨u.cnt.seq,u.lo,u.hi⟩
theorem LogV.mono (h:LogV nb k V bs last R) (hk:k≤k'):LogV nb k' V bs last R:=⟨h.len,h.blk,h.lst,fun j hj=>A57 (h.top j hj) hk,h.dis⟩
theorem LogV.cont (h:LogV nb k V bs last R) (hb:∀ j<nb,BI (V j)):LogC nb k V (fun j=>(bAt bs j).seq) R :=
 ⟨hb,fun j hj=>(h.blk j hj).imp (fun ⟨f,r⟩=>⟨f.seq,f.free,r⟩) (fun u=>u.cnt),h.top,h.dis⟩
theorem LogV.seqN (h:LogV nb k V bs last R) (hk:k≤400000000000):(seqN bs last).toNat≠0∧(seqN bs last).toNat≤k+1∧∀ j<nb,(bAt bs j).seq.toNat<(seqN bs last).toNat:=by
 unfold Go.Proofs.YtpmojdippdlcaaaGreatDoor.seqN
 rcases h.lst with ⟨h1,h2⟩ | ⟨l,h1,h2,h3,h4⟩
 ·rw [A6v (by omega)]
  grind
 ·rw [A6u (by omega),h1,A33]
  have ht:=h.top l h2
  have e:((bAt bs l).seq+1).toNat=(bAt bs l).seq.toNat+1:=by
   rw [A4h]
   grind
  rw [e]
  grind
theorem LogV.app1 (h:LogV nb k V bs last R) (hkk:k≤k') (hg:OkPg p) {l:Nat} (hl:last=l) (hr:(R l).length<6) (hn:v.next=((2+(R l).length+1:Nat):Int)) (hk:Ta v (V l) (2+(R l).length)) (hp:A0 v (2+(R l).length)=p) :
  LogV nb k' (upV V l v) (bs.set l { bAt bs l with next:=((2+(R l).length:Nat):Int)+1 }) last (upR R l (R l++[p])):=by
 obtain ⟨hlt,u⟩:=h.used hl
 have hlb:l<bs.length:=by rw [h.len];exact hlt
 have hb:∀ j,bAt (bs.set l { bAt bs l with next:=((2+(R l).length:Nat):Int)+1 }) j=if j=l then { bAt bs l with next:=((2+(R l).length:Nat):Int)+1 } else bAt bs j:=fun j=>Dn hlb
 have hs:∀ j,(bAt (bs.set l { bAt bs l with next:=((2+(R l).length:Nat):Int)+1 }) j).seq=(bAt bs j).seq:=fun j=>by
  rw [hb]
  grind
 refine ⟨by rw [A47];exact h.len,fun j hj=> ?_,?_,fun j hj=>by rw [hs];exact A57 (h.top j hj) hkk,fun i hi j hj=> ?_⟩
 ·rw [hb]
  unfold upV upR
  by_cases e:j=l
  ·rw [A6v e,A6v e,A6v e]
   have ha:=u.cnt.add hr hn hk hp hg
   have hl6:=ha.len
   rw [A3x] at hl6
   simp only [A21] at hl6
   exact .inr ⟨ha,u.ready,by grind,by grind,.inl (by grind)⟩
  ·rw [A6u e,A6u e,A6u e]
   exact h.blk j hj
 ·rcases h.lst with ⟨h1,h2⟩ | ⟨l',h1,h2,h3,h4⟩
  ·omega
  grind
 ·rw [hs,hs];exact h.dis i hi j hj
theorem FreeZ.oth {x y:LB} {w:Blk} (f:FreeZ x w) (h:y=x∨y={ x with next:=8 }):FreeZ y w:=by
 rcases h with rfl | rfl
 ·exact f
 ·exact ⟨f.seq,f.rdy,f.free⟩
theorem UsedZ.oth {x y:LB} {w:Blk} {r:List Pg} (u:UsedZ x w r) (h:y=x∨y={ x with next:=8 }):UsedZ y w r:=by
 rcases h with rfl | rfl
 ·exact u
 ·exact ⟨u.cnt,u.ready,by grind,by grind,.inr rfl⟩
theorem LogV.app2 (h:LogV nb k V bs last R) (hk:k≤400000000000) (hkk:k+1≤k') (hg:OkPg p) {to:Nat} (hto:to<nb) (hlen:bs'.length=nb) (hn:v.next=3) (h2:A0 v 2=p) (h1:A0 v 1=Pb (Go.Proofs.YtpmojdippdlcaaaGreatDoor.seqN bs last)) {x0:Wd} (h0:A0 v 0=Hh x0)
  (hx:bAt bs' to=⟨(bAt bs to).wear,true,Go.Proofs.YtpmojdippdlcaaaGreatDoor.seqN bs last,false,3⟩) (ho:Ri bs bs' nb last to):LogV nb k' (upV V to v) bs' to (upR R to [p]):=by
 obtain ⟨s1,s2,s3⟩:=h.seqN hk
 have ho2:∀ j<nb,j≠to→bAt bs' j=bAt bs j∨bAt bs' j={ bAt bs j with next:=8 }:=fun j hj hne=>(ho j hj (by omega)).imp id (fun e=>e.2)
 have hs:∀ j<nb,j≠to→(bAt bs' j).seq=(bAt bs j).seq:=fun j hj hne=>by
  rcases ho2 j hj hne with e | e <;> rw [e]
 refine ⟨hlen,fun j hj=> ?_,.inr ⟨to,rfl,hto,by rw [hx];exact s1,fun j hj hne=>by rw [hs j hj hne,hx];exact s3 j hj⟩,fun j hj=> ?_,fun i hi j hj hne hz=> ?_⟩
 ·unfold upV upR
  by_cases e:j=to
  ·subst e
   rw [A6v rfl,A6v rfl]
   refine .inr ⟨⟨by rw [hx];exact s1,by simp,by rw [hn];rfl,by rw [hx];exact h1,fun i hi=> ?_,fun z hz=>by rw [A3z.1 hz];exact hg,⟨_,h0⟩⟩,by rw [hx],by rw [hx];show (2:Int)≤3;omega,by rw [hx];show (3:Int)≤8;omega,.inl (by rw [hx,hn];exact A6g _)⟩
   have:i=0:=by simp at hi;exact hi
   subst this
   exact h2
  ·rw [A6u e,A6u e]
   exact (h.blk j hj).imp (fun ⟨f,r⟩=>⟨f.oth (ho2 j hj e),r⟩) (fun u=>u.oth (ho2 j hj e))
 ·by_cases e:j=to
  ·subst e;rw [hx];exact A57 s2 hkk
  ·rw [hs j hj e];exact A57 (h.top j hj) (by omega)
 ·by_cases e:i=to
  ·subst e
   rw [hs j hj (A6s hne),hx]
   have:=s3 j hj
   simp only
   omega
  ·by_cases e2:j=to
   ·subst e2
    rw [hs i hi e,hx]
    have:=s3 i hi
    simp only
    omega
   ·rw [hs i hi e] at hz ⊢
    rw [hs j hj e2]
    exact h.dis i hi j hj hne hz
theorem LogC.opened {sq:Nat→Wd} (h:LogC nb k V sq R):LogV nb k V (D2 V nb).1 (D2 V nb).2 R∧∀ j<nb,(bAt (D2 V nb).1 j).seq=sq j:=by
 have hlk:∀ j<nb,(De (V j)).seq=sq j∧(De (V j)).ready=false∧((sq j).toNat≠0→(De (V j)).next=(Nw (V j):Int)):=fun j hj=>by
  unfold De
  rcases h.blk j hj with ⟨h1,h2,_⟩ | u
  ·have e:sq j=0:=A2u h1
   have h2':¬ (nF (A0 (V j) 1) 3).2=true:=by rw [show (nF (A0 (V j) 1) 3).2=false from h2];decide
   rw [A6u h2',e]
   grind
  ·rw [u.head,Axq (by decide)]
   grind
 have hat:∀ j<nb,bAt (D2 V nb).1 j=Ig (Sp (Fc V nb) nb) (De (V j)):=fun j hj=>by
  unfold D2 bAt
  simp only [A18,A38,List.getElem?_range hj,A5h,A4w]
  rfl
 have hkn:∀ (m:Wd) (x:LB),(Ig m x).seq=x.seq∧(Ig m x).ready=x.ready∧(Ig m x).next=x.next:=fun m x=>by unfold Ig;split <;> exact ⟨rfl,rfl,rfl⟩
 have hs:∀ j<nb,(bAt (D2 V nb).1 j).seq=sq j:=fun j hj=>by rw [hat j hj,(hkn _ _).1,(hlk j hj).1]
 refine ⟨⟨Aj4 V nb,fun j hj=> ?_,?_,fun j hj=>by rw [hs j hj];exact h.top j hj,fun i hi j hj hne hz=>by rw [hs i hi] at hz ⊢;rw [hs j hj];exact h.dis i hi j hj hne hz⟩,hs⟩
 ·rcases h.blk j hj with ⟨h1,h2,h3⟩ | u
  ·refine .inl ⟨⟨by rw [hs j hj];exact h1,fun hr=> ?_,h2⟩,h3⟩
   rw [hat j hj,(hkn _ _).2.1,(hlk j hj).2.1] at hr
   cases hr
  ·have hn:(bAt (D2 V nb).1 j).next=(Nw (V j):Int):=by rw [hat j hj,(hkn _ _).2.2,(hlk j hj).2.2 u.seq]
   have hle:=Ue (V j) 8 (A6h _)
   have hlen:=u.len
   have hup:Nw (V j)≤2+(R j).length:=by
    refine Aqb (fun i h1 h2=> ?_)
    have:=(h.bi j hj).pg h2 (by rw [u.next];omega)
    rw [this];exact Iu
   have hlo:2≤Nw (V j):=Aqc (i:=1) (by omega) (by rw [u.head];exact Axy (by decide) _)
   exact .inr ⟨by rw [hs j hj];exact u,by rw [hat j hj,(hkn _ _).2.1,(hlk j hj).2.1],by rw [hn];omega,by rw [hn];omega,.inl (by rw [hn,u.next];omega)⟩
 ·have hl:∀ j<nb,(bAt ((List.range nb).map fun b=>De (V b)) j).seq=sq j:=fun j hj=>by
   have e:bAt ((List.range nb).map fun b=>De (V b)) j=De (V j):=by
    unfold bAt
    grind
   rw [e,(hlk j hj).1]
  show (D7 ((List.range nb).map fun b=>De (V b)) nb= -1∧_)∨∃ l:Nat,D7 ((List.range nb).map fun b=>De (V b)) nb=l∧_
  rcases Lb ((List.range nb).map fun b=>De (V b)) nb with ⟨g1,g2⟩ | ⟨l,g1,g2,g3,g4⟩
  ·grind
  ·refine .inr ⟨l,g1,g2,by rw [hs l g2,← hl l g2];omega,fun j hj hne=> ?_⟩
   have h1:=g4 j hj
   rw [hl j hj,hl l g2] at h1
   rw [hl l g2] at g3
   rw [hs j hj,hs l g2]
   have:=h.dis l g2 j hj (A6s hne) (by omega)
   omega
end
end
section
open Go.K
def Ad6 (bs:List LB) (last:Int) (R:Nat→List Pg):Prop:=last<0∨∃ l:Nat,last=l∧((bAt bs l).next=8∨(R l).length=6)
inductive AppZ (nb:Nat) (bs:List LB) (last:Int) (R:Nat→List Pg) (p:Pg):Int→Int→Int→Int→List LB→(Nat→List Pg)→Prop
 | into {l:Nat}:last=l→l<nb→(bAt bs l).seq.toNat≠0→(bAt bs l).next≤((2+(R l).length:Nat):Int)→(R l).length<6→AppZ nb bs last R p 0 l ((2+(R l).length:Nat):Int) last (bs.set l { bAt bs l with next:=((2+(R l).length:Nat):Int)+1 }) (upR R l (R l++[p]))
 | none {pb pj last':Int} {bs':List LB}:Ad6 bs last R→toU bs nb<0→AppZ nb bs last R p 40 pb pj last' bs' R
 | fresh {to:Nat} {bs':List LB}:Ad6 bs last R→toU bs nb=to→to<nb→(bAt bs to).seq.toNat=0→R to=[]→bAt bs' to=⟨(bAt bs to).wear,true,seqN bs last,false,3⟩→Ri bs bs' nb last to→AppZ nb bs last R p 0 to 2 to bs' (upR R to [p])
def sqB (bs:List LB) (j:Nat):Wd:=(bAt bs j).seq
def L9 (sq:Nat→Wd) (to:Nat) (x:Wd):Nat→Wd:=fun j=>if j=to then x else sq j
inductive GrowZ (nb:Nat) (bs:List LB) (last:Int) (R:Nat→List Pg) (p:Pg):(Nat→Wd)→(Nat→List Pg)→Prop
 | same:GrowZ nb bs last R p (sqB bs) R
 | into {l:Nat} {x:Pg}:last=l→l<nb→(bAt bs l).seq.toNat≠0→(R l).length<6→(x=p∨Junk x)→GrowZ nb bs last R p (sqB bs) (upR R l (R l++[x]))
 | head {to:Nat}:to<nb→(bAt bs to).seq.toNat=0→R to=[]→(∀ j<nb,(bAt bs j).seq.toNat<(seqN bs last).toNat)→GrowZ nb bs last R p (L9 (sqB bs) to (seqN bs last)) R
 | fresh {to:Nat} {x:Pg}:to<nb→(bAt bs to).seq.toNat=0→R to=[]→(∀ j<nb,(bAt bs j).seq.toNat<(seqN bs last).toNat)→(x=p∨Junk x)→GrowZ nb bs last R p (L9 (sqB bs) to (seqN bs last)) (upR R to [x])
def DownZ (n nb k:Nat) (q:Qt) (bs:List LB) (last:Int) (R:Nat→List Pg) (p:Pg) (c c':Chip) (e:Int):Prop :=
 e=30∧c'.off=true∧¬ c.after<0∧FrA c c'∧∃ V' sq' R',GrowZ nb bs last R p sq' R'∧LogC nb k V' sq' R'∧Later c' n k q.n V'
section
variable {n nb k:Nat} {q:Qt} {d:Dsk} {bs bs':List LB} {last last' e pb pj:Int} {V:Nat→Blk} {R:Nat→List Pg} {p:Pg} {t':Tab} {c':Chip}
theorem Later.bi {c c':Chip} {m:Nat} {V:Nat→Blk} (h:Later c' n k m V) (up:Up c) (f:FrA c c') {l:Nat} (hl:l+6<n):BI (V l):=by
 obtain ⟨t2,h1,h2,h3⟩:=h { c' with off:=false,after:= -1 } rfl ⟨rfl,by rw [show ({ c' with off:=false,after:= -1 }:Chip).dead=c'.dead from rfl,f.dead];exact up.dead,by rw [show ({ c' with off:=false,after:= -1 }:Chip).out=c'.out from rfl,f.out];exact up.out⟩ rfl rfl
 exact (h2.blk hl).1
theorem LogV.full (h:LogV nb k V bs last R) (hnr:Z2 V bs last):Ad6 bs last R:=by
 rcases hnr with h1 | ⟨l,h1,h2⟩
 ·exact .inl h1
 ·obtain ⟨hlt,u⟩:=h.used h1
  refine .inr ⟨l,h1,?_⟩
  have hun:=u.cnt.next
  have hul:=u.cnt.len
  rcases u.at' with e | e
  ·right
   by_cases h8:(R l).length=6
   ·exact h8
   ·exact absurd hun (h2 (2+(R l).length) (by omega) (by omega))
  omega
theorem Aiz {x:Pg} (hg:RecP p) (h:x=p∨Junk x):OkPg x:=by
 rcases h with rfl | h
 ·exact .inl hg
 ·exact .inr h
theorem LogC.set {sq:Nat→Wd} {k':Nat} (h:LogC nb k V sq R) (hkk:k≤k') {b:Nat} {v:Blk} {s:Wd} {r:List Pg} (hv:BI v) (hb:(s.toNat=0∧Qo v∧r=[])∨CntZ s v r) (hs:s=sq b∨(s.toNat≤k'∧∀ j<nb,(sq j).toNat<s.toNat)) (hbn:b<nb) :
  LogC nb k' (upV V b v) (L9 sq b s) (upR R b r):=by
 refine ⟨fun j hj=> ?_,fun j hj=> ?_,fun j hj=> ?_,fun i hi j hj hne hz=> ?_⟩
 ·unfold upV;split
  ·exact hv
  ·exact h.bi j hj
 ·unfold upV L9 upR
  by_cases e:j=b
  ·rw [A6v e,A6v e,A6v e];exact hb
  ·rw [A6u e,A6u e,A6u e];exact h.blk j hj
 ·unfold L9;split
  ·rename_i e
   rcases hs with rfl | ⟨hs,_⟩
   ·exact A57 (h.top b hbn) hkk
   ·exact hs
  ·exact A57 (h.top j hj) hkk
 ·unfold L9 at hz ⊢
  by_cases ei:i=b
  ·rw [A6v ei] at hz ⊢
   rw [A6u (fun e=>hne (by rw [ei,e]))]
   rcases hs with rfl | ⟨_,hs⟩
   ·exact h.dis b hbn j hj (by omega) hz
   grind
  ·rw [A6u ei] at hz ⊢
   by_cases ej:j=b
   ·rw [A6v ej]
    rcases hs with rfl | ⟨_,hs⟩
    ·exact h.dis i hi b hbn (by omega) hz
    grind
   ·rw [A6u ej];exact h.dis i hi j hj hne hz
theorem Ad7 (sq:Nat→Wd) (b:Nat):L9 sq b (sq b)=sq:=by
 funext j
 unfold L9
 grind
theorem Ad8 (R:Nat→List Pg) {b:Nat} {r:List Pg} (h:R b=r):upR R b r=R:=by
 funext j
 unfold upR
 grind
theorem Aqd {m:Nat} {p:Pg}:Cn m Aq p=p∨(Bf (Cn m Aq p)).2.2.2≠0:=by
 by_cases h:258≤m
 ·exact .inl (Fz h)
 ·refine .inr (La ?_)
  have:(Cn m Aq p)[257]=Aq[257]:=by rw [Qg,A6u (by omega)]
  rw [this,K3 (by omega)]
theorem LZ.app (h:LZ n nb k q d bs last V R) (hk:k≤300000000000) (hg:RecP p) (hA:Ate n nb (k+80) q V bs last p d.c d.t.ts bs' last' e pb pj t'.ts c') :
  (e≠30∧∃ R' V',AppZ nb bs last R p e pb pj last' bs' R'∧LZ n nb (k+80) q ⟨d.dk,t',c'⟩ bs' last' V' R'∧FrA d.c c'∧(q.n=0→e=0→last'=last→Ace d.c c'))∨DownZ n nb (k+80) q bs last R p d.c c' e:=by
 have hbi:∀ j<nb,BI (V j):=fun j hj=>(h.dv.blk (l:=j) (by have:=h.num;omega)).1
 have hC:=h.lv.cont hbi
 have hup:Up d.c:=h.dv.di.up
 have hnum:=h.num
 rcases hA with ⟨l,nx,h1,h2,h3,h4,h5,v,h6,h7,h8⟩ | ⟨hnr,hA⟩
 ·obtain ⟨hlt,u⟩:=h.lv.used h1
  have hun:=u.cnt.next
  have hnx:nx=2+(R l).length:=by omega
  subst hnx
  rcases h8 with ⟨rfl,q2,q3,q4,rfl,rfl,rfl,rfl,q9⟩ | ⟨q1,q2,q3,⟨m,q4⟩,q5⟩
  ·refine .inl ⟨by decide,_,upV V l v,.into h1 hlt u.cnt.seq h2 (by omega),⟨h.num,q2,q3,?_⟩,h5,fun h0 _ _=>q9 h0⟩
   exact h.lv.app1 (by omega) (.inl hg) h1 (by omega) (by omega) h7 q4
  ·refine .inr ⟨q1,q2,q3,h5,upV V l v,sqB bs,_,.into (x:=Cn m Aq p) h1 hlt u.cnt.seq (by omega) Ty,?_,q5⟩
   have:=hC.set (k':=k+80) (by omega) (b:=l) (v:=v) (s:=(bAt bs l).seq) (r:=R l++[Cn m Aq p]) (by have:=q5.bi hup h5 (l:=l) (by omega);rwa [Fa] at this) (.inr (u.cnt.add (by omega) (by omega) h7 q4 (Aiz hg Ty))) (.inl rfl) hlt
   rwa [Ad7 (fun j=>(bAt bs j).seq) l] at this
 ·have hfull:=h.lv.full hnr
  obtain ⟨s1,s2,s3⟩:=h.lv.seqN (by omega)
  rcases hA with ⟨rfl,q2,q3,rfl,rfl,q6,q7⟩ | ⟨q1,q2,to,v,q3,q4⟩
  ·refine .inl ⟨by decide,R,V,.none hfull q2,?_,FrA.refl _,fun _ h9=>by cases h9⟩
   have ho2:∀ j<nb,bAt bs' j=bAt bs j∨bAt bs' j={ bAt bs j with next:=8 }:=fun j hj=>(q7 j hj (by omega)).imp id (fun e=>e.2)
   have hs:∀ j<nb,(bAt bs' j).seq=(bAt bs j).seq:=fun j hj=>by rcases ho2 j hj with e | e <;> rw [e]
   refine ⟨h.num,by show DV d.c t'.ts n (k+80) V;rw [q3];exact h.dv.mono (by omega),by show Acc q d.c t'.ts;rw [q3];exact h.acc,?_⟩
   refine ⟨q6,fun j hj=>(h.lv.blk j hj).imp (fun ⟨f,r⟩=>⟨f.oth (ho2 j hj),r⟩) (fun u=>u.oth (ho2 j hj)),?_,fun j hj=>by rw [hs j hj];exact A57 (h.lv.top j hj) (by omega),fun i hi j hj hne hz=> ?_⟩
   ·rcases h.lv.lst with ⟨h1,h2⟩ | ⟨l',h1,h2,h3,h4⟩
    ·exact .inl ⟨h1,fun j hj=>by rw [hs j hj];exact h2 j hj⟩
    ·exact .inr ⟨l',h1,h2,by rw [hs l' h2];exact h3,fun j hj hne=>by rw [hs j hj,hs l' h2];exact h4 j hj hne⟩
   ·rw [hs i hi] at hz ⊢;rw [hs j hj];exact h.lv.dis i hi j hj hne hz
  ·obtain ⟨l,x1,x2,x3,_⟩:=(Mj bs nb).resolve_left (fun h=>by
    rcases q4 with ⟨_,_,_,rfl,_⟩ | ⟨_,_,_,_,_⟩ <;> omega)
   have:l=to:=by omega
   subst this
   have hRto:R l=[]:=by
    rcases h.lv.blk l x2 with ⟨_,r⟩ | u
    ·exact r
    ·exact absurd x3 u.cnt.seq
   rcases q4 with ⟨rfl,r2,r3,rfl,rfl,rfl,r7,r8,r9,r10,r11,r12⟩ | ⟨r1,r2,r3,r4,r5⟩
   ·refine .inl ⟨by decide,_,upV V l v,.fresh hfull q3 x2 x3 hRto r11 r12,⟨h.num,r2,r3,?_⟩,q1,fun _ _ h9=> ?_⟩
    ·exact h.lv.app2 (by omega) (by omega) (.inl hg) x2 q2 r7 r8 r9 r10 r11 r12
    ·exfalso
     obtain ⟨g1,u⟩:=h.lv.used h9.symm
     exact u.cnt.seq x3
   ·have hbv:BI v:=by have:=r4.bi hup q1 (l:=l) (by omega);rwa [Fa] at this
    have hfr:Qo (V l):=by
     rcases h.lv.blk l x2 with ⟨f,_⟩ | u
     ·exact f.free
     ·exact absurd x3 u.cnt.seq
    have hfree:Qo v→∃ V' sq' R',GrowZ nb bs last R p sq' R'∧LogC nb (k+80) V' sq' R'∧Later c' n (k+80) q.n V':=fun hf=>by
     refine ⟨_,_,R,.same,?_,r4⟩
     have:=hC.set (k':=k+80) (by omega) (b:=l) (v:=v) (s:=(bAt bs l).seq) (r:=[]) hbv (.inl ⟨x3,hf,rfl⟩) (.inl rfl) x2
     rw [Ad7 (fun j=>(bAt bs j).seq) l,Ad8 R hRto] at this
     exact this
    have hused:∀ r,CntZ (seqN bs last) v r→LogC nb (k+80) (upV V l v) (L9 (sqB bs) l (seqN bs last)) (upR R l r):=fun r hr =>
     hC.set (k':=k+80) (by omega) hbv (.inr hr) (.inr ⟨by omega,s3⟩) x2
    refine .inr ⟨r1,r2,r3,q1,?_⟩
    rcases r5 with (he | ⟨g1,g0,m,g2⟩) | ⟨g1,g2,⟨m,g3⟩,g0⟩
    ·refine hfree ?_
     unfold Qo
     rcases he with he | ⟨he,_⟩
     ·rcases he 1 (by omega) with e1 | e1
      ·rw [Fh (by omega),e1];exact Pa
      ·rw [Fh (by omega),e1,← Fh (by omega)];exact hfr
     ·rw [hbv.pg (by omega) (by rw [he];decide)];exact Pa
    ·rcases Aqd (m:=m) (p:=Pb (seqN bs last)) with ht | ht
     ·refine ⟨_,_,_,.head x2 x3 hRto s3,?_,r4⟩
      have hw0:A0 v 0=Hh (bAt bs l).wear:=by
       rcases g0 with e | ⟨e1,e⟩
       ·exact e
       ·rw [(h.lv.rdy l x2 e1).2.2,Fv (by decide)] at e
        rcases e with e | e <;> exact e
      have:=hused [] ⟨s1,by simp,by rw [g1];rfl,by rw [g2,ht],fun i hi=>by simp at hi,fun z hz=>(by cases hz),⟨_,hw0⟩⟩
      rwa [Ad8 R hRto] at this
     ·refine hfree ?_
      unfold Qo
      rw [g2]
      exact Am7 ht
    ·refine ⟨_,_,_,.fresh (x:=Cn m Aq p) x2 x3 hRto s3 Ty,?_,r4⟩
     exact hused _ ⟨s1,by simp,by rw [g1];rfl,g2,fun i hi=>by
      have:i=0:=by simp at hi;exact hi
      subst this
      exact g3,fun z hz=>by rw [A3z.1 hz];exact Aiz hg Ty,⟨_,g0⟩⟩
end
end
section
open Go.K
def F1 (b:Int):Nat→List Pg→List Pl2
 | _,[]=>[]
 | i,p::r=>(if (Ef p).2.2.2=0 then [(b,(i:Int))] else [])++F1 b (i+1) r
theorem Ad9 (b:Int):∀ (r s:List Pg) (i:Nat),F1 b i (r++s)=F1 b i r++F1 b (i+r.length) s
 | [],s,i=>rfl
 | p::r,s,i=>by
  show _++F1 b (i+1) (r++s)=(_++F1 b (i+1) r)++_
  rw [Ad9 b r s (i+1),A34,A4q,show i+1+r.length=i+(r.length+1) by omega]
theorem recZ_mem {b:Int} {x:Pl2}:∀ {r:List Pg} {i:Nat},x∈F1 b i r↔∃ j,∃ p,r[j]? =some p∧(Ef p).2.2.2=0∧x=(b,((i+j:Nat):Int))
 | [],i=>by simp [F1]
 | p::r,i=>by
  have ih:=recZ_mem (b:=b) (x:=x) (r:=r) (i:=i+1)
  unfold F1
  rw [A49,ih]
  constructor
  ·rintro (h | ⟨j,q,h1,h2,h3⟩)
   ·split at h
    ·rename_i he
     exact ⟨0,p,rfl,he,by simpa using h⟩
    ·cases h
   ·exact ⟨j+1,q,by grind,h2,by rw [h3];grind⟩
  grind
theorem Ai0 {v:Blk} {b:Int} {r:List Pg} (h:∀ i (hi:i<r.length),A0 v (2+i)=r[i]):∀ i,i≤r.length→Gz v b (2+i)=F1 b 2 (r.take i)
 | 0,_=>Z3 v b
 | i+1,hi=>by
  rw [show 2+(i+1)=(2+i)+1 by omega]
  unfold Gz
  rw [Ai0 h i (by omega),h i (by omega),A4d,A2i (by omega),Ad9,A4s,A5g (by omega)]
  congr 1
  show (if 2≤2+i∧_ then _ else _)=(if _ then _ else _)++[]
  grind
theorem CntZ.segs {sq:Wd} {v:Blk} {r:List Pg} (u:CntZ sq v r) (h:BI v) (b:Int):Gz v b 8=F1 b 2 r:=by
 have hl:=u.len
 have hn:=u.next
 rw [show 8=2+6 from rfl,Ul (m:=r.length) (fun i hi h8=> ?_) 6 hl (by omega),Ai0 u.recs _ (A6h _),A4u]
 rw [h.pg h8 (by rw [hn];omega)];exact Aj3 Iu
def M5 (bs:List LB) (R:Nat→List Pg):Nat→List SV
 | 0=>[]
 | j+1=>M5 bs R j++if (bAt bs j).seq.toNat=0 then [] else [((j:Int),(bAt bs j).seq,(bAt bs j).wear,F1 j 2 (R j))]
section
variable {n nb k:Nat} {q:Qt} {d:Dsk} {bs bs':List LB} {last last' e:Int} {V:Nat→Blk} {R:Nat→List Pg} {t':Tab} {c':Chip}
theorem LZ.bi (h:LZ n nb k q d bs last V R) {j:Nat} (hj:j<nb):BI (V j):=(h.dv.blk (l:=j) (by have:=h.num;omega)).1
theorem LZ.segs (h:LZ n nb k q d bs last V R):∀ j,j≤nb→Pf V bs j=M5 bs R j
 | 0,_=>rfl
 | j+1,hj=>by
  unfold Pf M5
  rw [h.segs j (by omega)]
  by_cases e:(bAt bs j).seq.toNat=0
  ·rw [A6v e,A6v e]
  ·rw [A6u e,A6u e]
   rw [(h.lv.us (by omega) e).cnt.segs (h.bi (by omega))]
theorem Aea:∀ k,(M5 bs R k).length+Bv bs k=k
 | 0=>rfl
 | k+1=>by
  have ih:=Aea k
  rw [Ga]
  unfold M5 z1
  rw [A3x]
  split <;> simp <;> omega
theorem segZ_mem {x:SV}:∀ {k},x∈M5 bs R k↔∃ j<k,(bAt bs j).seq.toNat≠0∧x=((j:Int),(bAt bs j).seq,(bAt bs j).wear,F1 j 2 (R j))
 | 0=>by simp [M5]
 | k+1=>by
  have ih:=segZ_mem (x:=x) (k:=k)
  unfold M5
  rw [A49,ih]
  grind
theorem LZ.drop (h:LZ n nb k q d bs last V R) {b:Nat} (hb:b<nb) (hD:Aw1 n nb (k+40) q V bs last b d.c d.t.ts bs' last' e t'.ts c') (hs:(bAt bs b).seq.toNat≠0) :
  FrA d.c c'∧((e=0∧bs'=bs.set b (I2 ((bAt bs b).wear+1))∧last'=(if (b:Int)=last then D7 bs' nb else last)∧∃ V',LZ n nb (k+40) q ⟨d.dk,t',c'⟩ bs' last' V' (upR R b []))∨(e=30∧c'.off=true∧¬ d.c.after<0)):=by
 have hlen:=h.lv.len
 have hsg:Nv bs b=true:=by unfold Nv;simp;omega
 rcases hD with ⟨h1,_⟩ | ⟨_,hW,hl⟩
 ·rw [hsg] at h1;cases h1
 rw [A33] at hW
 obtain ⟨w1,w2,v,w3⟩:=hW
 refine ⟨w2,?_⟩
 rcases w3 with ⟨rfl,w4,w5,w6,w7,w8⟩ | h9
 rotate_left
 ·grind
 have hl:=hl rfl
 refine .inl ⟨rfl,w6,hl,upV V b v,?_⟩
 have hb':∀ j,bAt bs' j=if j=b then I2 ((bAt bs b).wear+1) else bAt bs j:=fun j=>by rw [w6,Dn (by omega)]
 have hz:(bAt bs' b).seq.toNat=0:=by rw [hb',A6v rfl];rfl
 have ho:∀ j,j≠b→bAt bs' j=bAt bs j:=fun j hj=>by rw [hb',A6u hj]
 have hbv:BI v:=by
  have:=(w4.blk (l:=b) (by have:=h.num;omega)).1
  rwa [Fa] at this
 refine ⟨h.num,w4,w5,⟨w1,fun j hj=> ?_,?_,fun j hj=> ?_,fun i hi j hj hne hzi=> ?_⟩⟩
 ·unfold upV upR
  by_cases ej:j=b
  ·subst ej
   rw [A6v rfl,A6v rfl,hb',A6v rfl]
   refine .inl ⟨⟨rfl,fun _=>⟨w7,rfl,w8⟩,?_⟩,rfl⟩
   unfold Qo
   rw [hbv.pg (by omega) (by rw [w7];decide)];exact Pa
  ·rw [A6u ej,A6u ej,ho j ej]
   exact h.lv.blk j hj
 ·rw [hl]
  split
  ·rcases Lb bs' nb with ⟨g1,g2⟩ | ⟨l,g1,g2,g3,g4⟩
   ·grind
   ·refine .inr ⟨l,g1,g2,by omega,fun j hj hne=> ?_⟩
    have:=g4 j hj
    by_cases eq:(bAt bs' j).seq.toNat=(bAt bs' l).seq.toNat
    ·exfalso
     have hjb:j≠b:=fun e=>by rw [e,hz] at eq;omega
     have hlb:l≠b:=fun e=>by rw [e,hz] at g3;omega
     rw [ho j hjb,ho l hlb] at eq
     rw [ho l hlb] at g3
     exact h.lv.dis l g2 j hj (A6s hne) (by omega) eq.symm
    ·omega
  ·rename_i hne
   rcases h.lv.lst with ⟨g1,g2⟩ | ⟨l,g1,g2,g3,g4⟩
   ·grind
   ·have hlb:l≠b:=fun e=>hne (by omega)
    refine .inr ⟨l,g1,g2,by rw [ho l hlb];exact g3,fun j hj hj2=> ?_⟩
    rw [ho l hlb]
    grind
 ·by_cases ej:j=b
  ·rw [ej,hz];omega
  ·rw [ho j ej];exact A57 (h.lv.top j hj) (by omega)
 ·have hib:i≠b:=fun e=>hzi (by rw [e,hz])
  rw [ho i hib] at hzi ⊢
  by_cases ej:j=b
  ·rw [ej,hz];exact hzi
  ·rw [ho j ej];exact h.lv.dis i hi j hj hne hzi
theorem LZ.mono {k':Nat} (h:LZ n nb k q d bs last V R) (hk:k≤k'):LZ n nb k' q d bs last V R:=⟨h.num,h.dv.mono hk,h.acc,h.lv.mono hk⟩
theorem LZ.get (h:LZ n nb k q d bs last V R) {b i:Nat} {p:Pg} (hb:b<nb) (hp:(R b)[i]? =some p):A0 (V b) (2+i)=p∧2+i<8:=by
 rcases h.lv.blk b hb with ⟨_,r⟩ | u
 ·rw [r] at hp;cases hp
 ·obtain ⟨h1,rfl⟩:=List.getElem?_eq_some_iff.1 hp
  have:=u.cnt.len
  exact ⟨u.cnt.recs i h1,by omega⟩
end
end
section
open Go.K
structure Lg where
 lg:Nat
 bb:Nat
 nb:Nat
 last:Int
 bs:List LB
 d:Dsk
@[irreducible] def lgH (L:Lg):Hp:=(L.lg,true,C (lgC L.d.dk L.bb L.nb L.last) tLg)::(L.bb,true,C (lbs L.bs) tLB)::(dkH L.d++[])
theorem Dp (L:Lg):lgH L=(L.lg,true,C (lgC L.d.dk L.bb L.nb L.last) tLg)::(L.bb,true,C (lbs L.bs) tLB)::(dkH L.d++[]):=by unfold lgH;rfl
theorem M6 {P:Program} {E:Env} {H F:Hp} {t:TypeId} {x:Operand} {L:Lg} [ht:Agg P t false] (hx:ev E x=some (.pointer (some ⟨L.lg,0,none⟩))) (hm:PickL (lgH L) H F):Rd P E H (.load t x) (ptr L.d.dk) :=
 Al hx (hm.sub (by rw [Dp];exact .head _)) rfl
theorem Aqe (L:Lg):∀ x∈dkH L.d,x∈lgH L:=fun x hx=>by
 rw [Dp]
 grind
theorem V8 {P:Program} {E:Env} {H F:Hp} {t:TypeId} {x:Operand} {L:Lg} [ht:Agg P t false] (hx:ev E x=some (.pointer (some ⟨L.d.dk,0,none⟩))) (hm:PickL (lgH L) H F):Rd P E H (.load t x) (ptr L.d.c.aC) :=
 Al hx (hm.sub (Aqe L _ (by rw [Eq];exact .head _))) rfl
theorem Aqf {P:Program} {E:Env} {H F:Hp} {t:TypeId} {x:Operand} {L:Lg} [ht:Agg P t false] (hx:ev E x=some (.pointer (some ⟨L.d.c.aC,0,none⟩))) (hm:PickL (lgH L) H F):Rd P E H (.load t x) (ptr L.d.c.aP) :=
 Al hx (hm.sub (Aqe L _ (Axj L.d _ (by rw [Ez];exact .tail _ (.head _))))) rfl
section
variable {L:Lg} {n k:Nat} {q:Qt} {V:Nat→Blk} {R:Nat→List Pg}
theorem LZ.ulen {d:Dsk} {nb:Nat} {bs:List LB} {last:Int} (h:LZ n nb k q d bs last V R):d.t.u.list.length=nb:=by
 have h1:d.t.u.list.length+6=n:=h.dv.di.wf.len
 have h2:=h.num
 omega
theorem Aqg:Does Tryz.prog 66 [ptr L.d.dk] (lgH L) (Is (.int .i64 L.d.t.u.list.length) (lgH L)):=by
 rw [Dp];exact (Amr (d:=L.d)).inIs sP aQ sP
theorem Ai1 (hl:L.bs.length=L.nb) (hn:L.nb≤1000):Does Tryz.prog 33 [ptr L.lg] (lgH L) (Is (.int .i64 (Bv L.bs L.nb:Nat)) (lgH L)):=by
 rw [Dp];exact (Atf (d:=L.d) (lg:=L.lg) (bb:=L.bb) (last:=L.last) hl hn).inIs sP aQ sP
theorem Ay1 (h:LZ n L.nb k q L.d L.bs L.last V R) {b i:Nat} {p:Pg} (hb:b<L.nb) (hp:(R b)[i]? =some p):Does Tryz.prog 61 [ptr L.lg,.agg #[.int .i64 (b:Nat),.int .i64 ((2+i:Nat):Int)]] (lgH L)
  (fun v H=>∃ s:Sl By,v= .tuple #[bv (Ef p).1,s.val,.int .i64 (Ef p).2.2.1,.int .i64 (Ef p).2.2.2]∧H=s.hp tU8++(lgH L++[])∧s.list=(Ef p).2.1∧s.isOwn=true):=by
 obtain ⟨e1,e2⟩:=h.get hb hp
 have hn:=h.num
 have hf:=Ank (lg:=L.lg) (bb:=L.bb) (nb:=L.nb) (last:=L.last) h.dv (b:=b) (j:=2+i) (by omega) e2
 rw [e1] at hf
 rw [Dp]
 refine hf.inn sP fun v Y ⟨s,h1,h2,h3,h4⟩=>⟨_,⟨s,h1,rfl,h3,h4⟩,?_⟩
 rw [h2]
 exact ⟨_,_,aQ,sP⟩
def AppL (n k:Nat) (q:Qt) (L:Lg) (R:Nat→List Pg) (p:Pg) (e pb pj:Int) (L':Lg):Prop :=
 L'.lg=L.lg∧L'.bb=L.bb∧L'.nb=L.nb∧L'.d.dk=L.d.dk ∧
 ((e≠30∧∃ R' V',AppZ L.nb L.bs L.last R p e pb pj L'.last L'.bs R'∧LZ n L.nb (k+80) q L'.d L'.bs L'.last V' R'∧FrA L.d.c L'.d.c∧(q.n=0→e=0→L'.last=L.last→Ace L.d.c L'.d.c))∨DownZ n L.nb (k+80) q L.bs L.last R p L.d.c L'.d.c e)
theorem Alj (h:LZ n L.nb k q L.d L.bs L.last V R) (hk:k≤300000000000) (hq:q.n≤3) {kind:By} {qs:Sl (Sl By)} (hj:(Ba qs.list).length≤70000000000000) (hkd:3<kind.toNat) (hw:Cv kind (Ba qs.list)=false) :
  Does Tryz.prog 112 [ptr L.lg,bv kind,qs.val] (lgH L++(qs.hp tSB++(Dg qs.list++[])))
  (fun v H=>∃ (L':Lg) (e pb pj:Int),v= .tuple #[.agg #[.int .i64 pb,.int .i64 pj],.int .i64 e]∧H=lgH L'++[]∧AppL n k q L R (Cj kind (Ba qs.list)) e pb pj L'):=by
 rw [Dp]
 simp only [A4n,A34]
 refine (Afk (lg:=L.lg) (bb:=L.bb) (q:=q) h.dv (by omega) hq h.acc h.num h.lv.len h.lv.rng h.lv.lls h.lv.rdy hj).mono ?_
 rintro v H ⟨t',c',bs',last',e,pb,pj,rfl,rfl,hr⟩
 refine ⟨⟨L.lg,L.bb,L.nb,last',bs',⟨L.d.dk,t',c'⟩⟩,e,pb,pj,rfl,by rw [Dp];simp,rfl,rfl,rfl,rfl,?_⟩
 rcases hr with ⟨h1,_⟩ | ⟨h1,h2,h3⟩
 ·grind
 ·exact h.app hk ⟨_,_,h1,h2,rfl⟩ h3
def DropL (n k:Nat) (q:Qt) (L:Lg) (R:Nat→List Pg) (b:Nat) (e:Int) (L':Lg):Prop :=
 L'.lg=L.lg∧L'.bb=L.bb∧L'.nb=L.nb∧L'.d.dk=L.d.dk∧FrA L.d.c L'.d.c ∧
 ((e=0∧L'.bs=L.bs.set b (I2 ((bAt L.bs b).wear+1))∧L'.last=(if (b:Int)=L.last then D7 L'.bs L.nb else L.last)∧∃ V',LZ n L.nb (k+40) q L'.d L'.bs L'.last V' (upR R b []))∨(e=30∧L'.d.c.off=true∧¬ L.d.c.after<0))
theorem Avc (h:LZ n L.nb k q L.d L.bs L.last V R) (hk:k≤300000000000) (hq:q.n≤3) {b:Nat} (hb:b<L.nb) (hs:(bAt L.bs b).seq.toNat≠0) :
  Does Tryz.prog 165 [ptr L.lg,.int .i64 (b:Nat)] (lgH L)
  (fun v H=>∃ (L':Lg) (e:Int),v= .int .i64 e∧H=lgH L'++[]∧DropL n k q L R b e L'):=by
 rw [Dp]
 refine (Ath (lg:=L.lg) (bb:=L.bb) (q:=q) (last:=L.last) h.dv (by omega) hq h.acc h.num h.lv.len (b:=(b:Nat))).mono ?_
 rintro v H ⟨t',c',bs',last',e,rfl,rfl,hD⟩
 exact ⟨⟨L.lg,L.bb,L.nb,last',bs',⟨L.d.dk,t',c'⟩⟩,e,rfl,by rw [Dp];simp,rfl,rfl,rfl,rfl,h.drop hb hD hs⟩
theorem Qp (h:LZ n L.nb k q L.d L.bs L.last V R) (h12:L.nb≤Bv L.bs L.nb+40):Does Tryz.prog 77 [ptr L.lg] (lgH L)
  (fun v H=>∃ (s:Sl Seg) (l0:List Seg),v=s.val∧H=s.hp Hm++(Jh l0++(lgH L++[]))∧l0.Perm s.list∧s.isOwn=true∧(s.list.map W0).Perm (M5 L.bs R L.nb)∧Uk s.list s.list.length∧(∀ x∈s.list,x.recs.isOwn=true)∧s.list.length+Bv L.bs L.nb=L.nb):=by
 have hw:=h.dv.di.wf
 have hn2:=hw.n2
 have e:=h.segs L.nb (A6h _)
 have hlen:=Aea (bs:=L.bs) (R:=R) L.nb
 rw [Dp]
 refine (Z4 (lg:=L.lg) (bb:=L.bb) (last:=L.last) h.dv h.num hn2 h.lv.len).mono ?_
 rintro v H ⟨s,l0,h1,h2,h3,h4,h5,h6,h7⟩
 rw [e] at h5
 have h8:=h5.length_eq
 rw [A46] at h8
 grind
end
end
section
open Go.K
instance fld67_0:Fld Tryz.prog 67 0 0:=⟨⟨_,_,0,Tryz.underlying67,rfl,by kernel_rfl,rfl⟩⟩
structure Sg where
 S:Sto
 L:Lg
 R:Nat→List Pg
abbrev KM:Nat:=400000000000
theorem LogC.mono {nb k k':Nat} {V:Nat→Blk} {sq:Nat→Wd} {R:Nat→List Pg} (h:LogC nb k V sq R) (hk:k≤k'):LogC nb k' V sq R:=⟨h.bi,h.blk,fun j hj=>A57 (h.top j hj) hk,h.dis⟩
theorem Later.mono {c:Chip} {n k k' m:Nat} {V:Nat→Blk} (h:Later c n k m V) (hk:k≤k'):Later c n k' m V:=fun d h1 h2 h3 h4=>by
 obtain ⟨t2,x1,x2,x3⟩:=h d h1 h2 h3 h4
 exact ⟨t2,x1,x2.mono hk,x3⟩
theorem DownZ.mono {n nb k k':Nat} {q:Qt} {bs:List LB} {last e:Int} {R:Nat→List Pg} {p:Pg} {c c':Chip} (h:DownZ n nb k q bs last R p c c' e) (hk:k≤k'):DownZ n nb k' q bs last R p c c' e:=by
 obtain ⟨h1,h2,h3,h4,V,sq,R',h5,h6,h7⟩:=h
 exact ⟨h1,h2,h3,h4,V,sq,R',h5,h6.mono hk,h7.mono hk⟩
def WI (n k:Nat) (q:Qt) (z:Sg):Prop:=z.S.lg=z.L.lg∧∃ V,LZ n z.L.nb k q z.L.d z.L.bs z.L.last V z.R
theorem WI.mono {n k k':Nat} {q:Qt} {z:Sg} (h:WI n k q z) (hk:k≤k'):WI n k' q z:=⟨h.1,h.2.choose,h.2.choose_spec.mono hk⟩
def AppG (n:Nat) (q:Qt) (z:Sg) (p:Pg) (e:Int) (y:Pl2) (z':Sg):Prop :=
 z'.S=z.S∧z'.L.lg=z.L.lg∧z'.L.bb=z.L.bb∧z'.L.nb=z.L.nb∧z'.L.d.dk=z.L.d.dk ∧
 ((e≠30∧AppZ z.L.nb z.L.bs z.L.last z.R p e y.1 y.2 z'.L.last z'.L.bs z'.R∧FrA z.L.d.c z'.L.d.c∧(q.n=0→e=0→z'.L.last=z.L.last→Ace z.L.d.c z'.L.d.c))∨DownZ n z.L.nb KM q z.L.bs z.L.last z.R p z.L.d.c z'.L.d.c e)
theorem AppL.g {n k:Nat} {q:Qt} {z:Sg} {p:Pg} {e pb pj:Int} {L':Lg} (h:AppL n k q z.L z.R p e pb pj L') (hlg:z.S.lg=z.L.lg) (hk:k≤300000000000):∃ R',AppG n q z p e (pb,pj) ⟨z.S,L',R'⟩∧(e≠30→WI n (k+80) q ⟨z.S,L',R'⟩):=by
 obtain ⟨h1,h2,h3,h4,h5⟩:=h
 rcases h5 with ⟨h5,R',V',h6,h7,h8,h9⟩ | h5
 ·exact ⟨R',⟨rfl,h1,h2,h3,h4,.inl ⟨h5,h6,h8,h9⟩⟩,fun _=>⟨hlg.trans h1.symm,V',by grind⟩⟩
 ·exact ⟨z.R,⟨rfl,h1,h2,h3,h4,.inr (h5.mono (by grind))⟩,fun h9=>absurd h5.1 h9⟩
def ShR (n:Nat) (q:Qt) (z:Sg) (x:Pl2) (p:Pg) (e:Int) (z':Sg):Prop :=
 ∃ y z1,AppG n q z p e y z1∧z'=if e=0 then { z1 with S:=Dm z1.S x y } else z1
section
variable {n k:Nat} {q:Qt} {z:Sg}
theorem V9 {L:Lg} {V:Nat→Blk} {R:Nat→List Pg} (h:LZ n L.nb k q L.d L.bs L.last V R) (hk:k≤300000000000) (hq:q.n≤3) {kind:By} {s:Sl By} {b:Nat} (hj:s.list.length≤70000000000000) (hkd:3<kind.toNat) (hw:Cv kind s.list=false) :
  Does Tryz.prog 112 [ptr L.lg,bv kind,.slice (some ⟨b,0,none⟩) 1 1] (lgH L++((b,true,C [s.val] tSB)::(s.hp tU8++[])))
  (fun v H=>∃ (L':Lg) (e pb pj:Int),v= .tuple #[.agg #[.int .i64 pb,.int .i64 pj],.int .i64 e]∧H=lgH L'++[]∧AppL n k q L R (Cj kind s.list) e pb pj L'):=by
 have e2:(Sl.own b [s] 1 [] ⟨by simp,A6h _,by simp⟩:Sl (Sl By)).list=[s]:=rfl
 have e3:Ba [s]=s.list:=by simp [Ba]
 have hf:=Alj (qs:= .own b [s] 1 [] ⟨by simp,A6h _,by simp⟩) h hk hq (by rw [e2,e3];exact hj) hkd (by rw [e2,e3];exact hw)
 rw [e2,e3] at hf
 have e:(Sl.own b [s] 1 [] ⟨by simp,A6h _,by simp⟩:Sl (Sl By)).hp tSB++(Dg [s]++[])=((b,true,C [s.val] tSB)::(s.hp tU8++[])):=by
  rw [Sl.hp_own,Cs,Hx]
  simp only [A34,A5b,A42]
  rfl
 rw [e] at hf
 exact hf
theorem Aqh (h:WI n k q z) (hk:k≤300000000000) (hq:q.n≤3) {x:Pl2} {kind:By} {s:Sl By} (hj:s.list.length≤70000000000000) (hkd:3<kind.toNat) (hw:Cv kind s.list=false) :
  Does Tryz.prog 163 [ptr z.S.st,.agg #[.int .i64 x.1,.int .i64 x.2],bv kind,s.val] ((z.S.st,true,C (stC z.S) tSt)::(z.S.ib,true,z.S.idx.obj .i64)::(z.S.pb,true,z.S.pend.obj .i64)::(lgH z.L++(s.hp tU8++[])))
  (fun v H=>∃ (e:Int) (z':Sg),v= .int .i64 e∧H=(z'.S.st,true,C (stC z'.S) tSt)::(z'.S.ib,true,z'.S.idx.obj .i64)::(z'.S.pb,true,z'.S.pend.obj .i64)::(lgH z'.L++[])∧z'.S.st=z.S.st∧ShR n q z x (Cj kind s.list) e z'∧(e≠30→WI n (k+80) q z')):=by
 obtain ⟨hlg,V,hZ⟩:=h
 refine zF 29 Tryz.func163 ?_
 refine zC ?_
 refine Cy rfl rfl (fun b5=> ?_)
 refine zA ?_
 refine Ae (show Rd _ _ _ _ (ptr z.L.lg) from by rw [← hlg];exact Al rfl mM rfl) rfl ?_
 refine zC ?_
 refine Am rfl rfl rfl rfl (fun b18=> ?_)
 refine Ch rfl (V9 (b:=b18) hZ hk hq hj hkd hw) sP rfl (fun v19 Y19 h19=> ?_)
 obtain ⟨L1,e1,pb,pj,rfl,rfl,hA⟩:=h19
 obtain ⟨R1,hG,hW⟩:=hA.g hlg hk
 refine A6 aQ ?_
 refine zC ?_
 refine Ah rfl (fun b9=> ?_)
 refine zC ?_
 refine Aa rfl (fun c23=> ?_) (fun c23=> ?_)
 ·skip
  have he:e1=0:=(by grind)
  subst he
  refine zC ?_
  refine zI rfl (Ap6 (S:=z.S) (f:=x) (t:=(pb,pj)) rfl) ?_
  refine zC ?_
  exact zL (hR:=by exact ⟨0,⟨Dm z.S x (pb,pj),L1,R1⟩,rfl,rfl,rfl,⟨(pb,pj),⟨z.S,L1,R1⟩,hG,rfl⟩,fun _=>⟨(hW (by decide)).1,(hW (by decide)).2⟩⟩)
 ·skip
  have he:e1≠0:=(by grind)
  refine zC ?_
  exact zL (hR:=by exact ⟨e1,⟨z.S,L1,R1⟩,rfl,rfl,rfl,⟨(pb,pj),⟨z.S,L1,R1⟩,hG,by rw [A6u he]⟩,hW⟩)
end
end
section
open Go.K
def Ji (S:Sto) (x:Pl2):Bool:=Qm S x || Fl S.idx x || Fl S.pend x
def RecAt (z:Sg) (x:Pl2) (p:Pg):Prop:=∃ b j:Nat,x=((b:Int),((2+j:Nat):Int))∧b<z.L.nb∧(z.R b)[j]? =some p
theorem AppZ.keep {nb:Nat} {bs bs':List LB} {last last' e pb pj:Int} {R R':Nat→List Pg} {p:Pg} (h:AppZ nb bs last R p e pb pj last' bs' R') {b j:Nat} {x:Pg} (hx:(R b)[j]? =some x):(R' b)[j]? =some x:=by
 cases h with
 | @into l h1 h2 h3 h4 h5 =>
  unfold upR
  grind
 | none=>exact hx
 | @fresh to _ h1 h2 h3 h4 h5 =>
  unfold upR
  grind
theorem AppZ.seq {nb:Nat} {bs bs':List LB} {last last' e pb pj:Int} {R R':Nat→List Pg} {p:Pg} (h:AppZ nb bs last R p e pb pj last' bs' R') (h40:e≠40) (hl:bs.length=nb) {j:Nat} (hj:j<nb) (hs:(bAt bs j).seq.toNat≠0):(bAt bs' j).seq=(bAt bs j).seq:=by
 cases h with
 | @into l h1 h2 h3 h4 h5 =>
  rw [Dn (by omega)]
  grind
 | none=>omega
 | @fresh to _ h1 h2 h3 h4 h5 h6 h7 =>
  rcases h7 j hj (fun e=>by have:j=to:=(by omega);grind) with e | ⟨_,e⟩ <;> rw [e]
theorem AppG.rec {n:Nat} {q:Qt} {z z':Sg} {p:Pg} {e:Int} {y:Pl2} (h:AppG n q z p e y z') (he:e≠30) {x:Pl2} {r:Pg} (hx:RecAt z x r):RecAt z' x r:=by
 obtain ⟨h1,h2,h3,h4,h5,h6⟩:=h
 rcases h6 with ⟨_,hA,_⟩ | h6
 ·obtain ⟨b,j,g1,g2,g3⟩:=hx
  exact ⟨b,j,g1,by rw [h4];exact g2,hA.keep g3⟩
 ·exact absurd h6.1 he
theorem ShR.rec {n:Nat} {q:Qt} {z z':Sg} {p:Pg} {e:Int} {x0:Pl2} (h:ShR n q z x0 p e z') (he:e≠30) {x:Pl2} {r:Pg} (hx:RecAt z x r):RecAt z' x r:=by
 obtain ⟨y,z1,h1,h2⟩:=h
 have:=h1.rec he hx
 subst h2
 split
 ·exact this
 ·exact this
theorem ShR.nb {n:Nat} {q:Qt} {z z':Sg} {p:Pg} {e:Int} {x0:Pl2} (h:ShR n q z x0 p e z'):z'.L.nb=z.L.nb:=by
 obtain ⟨y,z1,h1,h2⟩:=h
 have:=h1.2.2.2.1
 grind
theorem ShR.seq {n:Nat} {q:Qt} {z z':Sg} {p:Pg} {x0:Pl2} (h:ShR n q z x0 p 0 z') (hl:z.L.bs.length=z.L.nb) {j:Nat} (hj:j<z.L.nb) (hs:(bAt z.L.bs j).seq.toNat≠0):(bAt z'.L.bs j).seq.toNat≠0:=by
 obtain ⟨y,z1,h1,h2⟩:=h
 rw [A6v rfl] at h2
 subst h2
 rcases h1.2.2.2.2.2 with ⟨_,hA,_⟩ | h6
 ·show (bAt z1.L.bs j).seq.toNat≠0
  rw [hA.seq (by decide) hl hj hs];exact hs
 ·exact absurd h6.1 (by decide)
theorem WI.recP {n k:Nat} {q:Qt} {z:Sg} {x:Pl2} {p:Pg} (h:WI n k q z) (hx:RecAt z x p) (he:(Ef p).2.2.2=0):RecP p:=by
 obtain ⟨_,V,hZ⟩:=h
 obtain ⟨b,j,_,g2,g3⟩:=hx
 have hm:p∈z.R b:=A3b g3
 rcases hZ.lv.blk b g2 with ⟨_,r⟩ | u
 ·rw [r] at hm;cases hm
 ·rcases u.cnt.good p hm with h | h
  ·exact h
  ·exact absurd he h.get
theorem Zd {kind:By} {b:List By} (hk:3<kind.toNat) (hw:Cv kind b=false):Ef (Cj kind b)=(kind,b,0,0):=by
 unfold Ef
 rw [Hl hw,A6u (fun h=>by have:=h.2;grind)]
theorem Qq {L:Lg} {n k:Nat} {q:Qt} {V:Nat→Blk} {R:Nat→List Pg} (h:LZ n L.nb k q L.d L.bs L.last V R) {b i:Nat} {kind:By} {bd:List By} (hb:b<L.nb) (hp:(R b)[i]? =some (Cj kind bd)) (hk:3<kind.toNat) (hw:Cv kind bd=false) :
  Does Tryz.prog 61 [ptr L.lg,.agg #[.int .i64 (b:Nat),.int .i64 ((2+i:Nat):Int)]] (lgH L)
  (fun v H=>∃ s:Sl By,v= .tuple #[bv kind,s.val,.int .i64 0,.int .i64 0]∧H=s.hp tU8++(lgH L++[])∧s.list=bd∧s.isOwn=true):=by
 have:=Ay1 h hb hp
 rw [Zd hk hw] at this
 exact this
inductive EmA (n:Nat) (q:Qt):List Pl2→Sg→Int→Sg→Prop
 | nil {z:Sg}:EmA n q [] z 0 z
 | skip {x:Pl2} {xs:List Pl2} {z z':Sg} {e:Int}:Ji z.S x=false→EmA n q xs z e z'→EmA n q (x::xs) z e z'
 | stop {x:Pl2} {xs:List Pl2} {z z1:Sg} {e:Int} {p:Pg}:Ji z.S x=true→RecAt z x p→ShR n q z x p e z1→e≠0→EmA n q (x::xs) z e z1
 | go {x:Pl2} {xs:List Pl2} {z z1 z':Sg} {e:Int} {p:Pg}:Ji z.S x=true→RecAt z x p→ShR n q z x p 0 z1→EmA n q xs z1 e z'→EmA n q (x::xs) z e z'
def DropG (n:Nat) (q:Qt) (z:Sg) (b:Nat) (e:Int) (z':Sg):Prop :=
 z'.S=z.S∧z'.L.lg=z.L.lg∧z'.L.bb=z.L.bb∧z'.L.nb=z.L.nb∧z'.L.d.dk=z.L.d.dk∧FrA z.L.d.c z'.L.d.c ∧
 ((e=0∧z'.L.bs=z.L.bs.set b (I2 ((bAt z.L.bs b).wear+1))∧z'.L.last=(if (b:Int)=z.L.last then D7 z'.L.bs z.L.nb else z.L.last)∧z'.R=upR z.R b [])∨(e=30∧z'.L.d.c.off=true∧¬ z.L.d.c.after<0))
theorem DropL.g {n k:Nat} {q:Qt} {z:Sg} {b:Nat} {e:Int} {L':Lg} (h:DropL n k q z.L z.R b e L') (hlg:z.S.lg=z.L.lg):∃ R',DropG n q z b e ⟨z.S,L',R'⟩∧(e≠30→WI n (k+40) q ⟨z.S,L',R'⟩):=by
 obtain ⟨h1,h2,h3,h4,h5,h6⟩:=h
 rcases h6 with ⟨rfl,h7,h8,V',h9⟩ | h6
 ·exact ⟨_,⟨rfl,h1,h2,h3,h4,h5,.inl ⟨rfl,h7,h8,rfl⟩⟩,fun _=>⟨hlg.trans h1.symm,V',by show LZ n L'.nb _ _ _ _ _ _ _;rw [h3];exact h9⟩⟩
 ·exact ⟨z.R,⟨rfl,h1,h2,h3,h4,h5,.inr h6⟩,fun h9=>absurd h6.1 h9⟩
def EmR (n:Nat) (q:Qt) (b:Nat) (xs:List Pl2) (z:Sg) (e:Int) (z':Sg):Prop:=(e≠0∧EmA n q xs z e z')∨∃ z1,EmA n q xs z 0 z1∧DropG n q z1 b e z'
structure EmI (z:Sg) (b:Nat) (xs:List Pl2):Prop where
 lt:b<z.L.nb
 seq:(bAt z.L.bs b).seq.toNat≠0
 recs:∀ x∈xs,∃ p,RecAt z x p∧(Ef p).2.2.2=0
theorem Alk {k:By} {b:List By} (h:Cv k b=false):b.length≤1000:=by
 unfold Cv at h
 grind
section
variable {n k:Nat} {q:Qt} {z:Sg}
theorem Aqi (h:WI n k q z) (hk:k≤299999900000) (hq:q.n≤3) {s:Seg} {b:Nat} (hb:s.b=b) (hI:EmI z b s.recs.list) (h1000:s.recs.list.length≤1000) (hB:∀ z1,EmA n q s.recs.list z 0 z1→∀ j:Nat,j<8→Ji z1.S ((b:Int),(j:Int))=false) :
  Does Tryz.prog 124 [ptr z.S.st,.agg (Uj s).toArray] ((z.S.st,true,C (stC z.S) tSt)::(z.S.ib,true,z.S.idx.obj .i64)::(z.S.pb,true,z.S.pend.obj .i64)::(lgH z.L++(s.recs.hp Wz++[])))
  (fun v H=>∃ (e:Int) (z':Sg),v= .int .i64 e∧H=(z'.S.st,true,C (stC z'.S) tSt)::(z'.S.ib,true,z'.S.idx.obj .i64)::(z'.S.pb,true,z'.S.pend.obj .i64)::(lgH z'.L++(s.recs.hp Wz++[]))∧z'.S.st=z.S.st∧EmR n q b s.recs.list z e z'∧(e≠30→WI n (k+80*s.recs.list.length+40) q z')):=by
 have hsm:=s.recs.small
 refine zF 119 Tryz.func124 ?_
 refine zC ?_
 refine Cy rfl rfl (fun b3=> ?_)
 refine zC ?_
 refine Ar [0,3,16,17] kQ (fun (st:Nat×Sg)=>[(18,.int .i64 st.1)]) (fun st=>(b3,true,C (Uj s) Hm)::(st.2.S.st,true,C (stC st.2.S) tSt)::(st.2.S.ib,true,st.2.S.idx.obj .i64)::(st.2.S.pb,true,st.2.S.pend.obj .i64)::(lgH st.2.L++(s.recs.hp Wz++[]))) (fun st=>st.1≤s.recs.list.length∧WI n (k+80*st.1) q st.2∧st.2.S.st=z.S.st∧EmI st.2 b s.recs.list∧∀ e z',EmA n q (s.recs.list.drop st.1) st.2 e z'→EmA n q s.recs.list z e z') (fun st=>s.recs.list.length - st.1) ((0,z)) ⟨A6j _,h.mono (by omega),rfl,hI,fun _ _ h9=>h9⟩ kP sP ?_
 rintro ⟨i,z1⟩ ⟨g0,g1,g2,g3,g4⟩
 simp only at g0 g1 g2 g3 g4
 rw [← g2]
 refine zC ?_
 refine Aa rfl (fun c19=> ?_) (fun c19=> ?_)
 ·simp only [A4f,A2m] at c19
  obtain ⟨x,hgx⟩:∃ x,s.recs.list[i]? =some x:=⟨_,A2i (by omega)⟩
  obtain ⟨p,hrx,hgp⟩:=g3.recs x (A3b hgx)
  have hdr:s.recs.list.drop i=x::s.recs.list.drop (i+1):=(by obtain ⟨h7,h8⟩:=List.getElem?_eq_some_iff.1 hgx;rw [← h8];exact A2d h7)
  refine zA ?_
  refine Ae (Az rfl rfl (by omega)) rfl ?_
  refine Ae (Cq (o:=0) rfl pL hgx rfl rfl) rfl ?_
  refine Ah rfl (fun b6=> ?_)
  refine zC ?_
  refine zI rfl (R5 (S:=z1.S) (x:=x)) ?_
  refine zC ?_
  refine Aa rfl (fun c25=> ?_) (fun c25=> ?_)
  ·skip
   have hc:Ji z1.S x=false:=(by have h7:(!Ji z1.S x)=true:=c25;grind)
   refine zC ?_
   first | exact ⟨(i+1,z2),⟨by simp only;omega,(hW2 (by decide)).mono (by omega),hst2,⟨by rw [hSh.nb];exact g3.lt,hSh.seq hZ1.lv.len g3.lt g3.seq,fun x hx=>(let ⟨p,h1,h2⟩:=g3.recs x hx;⟨p,hSh.rec (by decide) h1,h2⟩)⟩,fun e z' h9=>g4 e z' (by rw [hdr];exact .go hc hrx hSh h9)⟩,by simp only;omega,by rw [← hst2];exact lZ⟩ | exact ⟨(i+1,z1),⟨by omega,g1.mono (by omega),rfl,g3,fun e z' h9=>g4 e z' (by rw [hdr];exact .skip hc h9)⟩,by omega,lZ⟩
  ·skip
   have hc:Ji z1.S x=true:=(by have h7:(!Ji z1.S x)=false:=c25;grind)
   obtain ⟨kind,bd,hkd,hwr,rfl⟩:=g1.recP hrx hgp
   obtain ⟨bN,jN,rfl,hbN,hpj⟩:=id hrx
   obtain ⟨hlg1,V1,hZ1⟩:=id g1
   refine zC ?_
   refine At [(5,[(0,false),(1,false),(2,false),(3,false),(4,false)]),(6,[(5,true)]),(15,[(6,false),(7,false),(8,false),(9,false),(10,false),(11,false),(12,false),(13,false),(14,false)])] (by kernel_rfl) ?_
   refine zA ?_
   refine Aj (show Rd _ _ _ _ (ptr z1.L.lg) from by rw [← hlg1];exact Al rfl mM rfl) ?_
   refine zC ?_
   refine zE rfl (Qq hZ1 hbN hpj hkd hwr) ?_
   rintro _ _ ⟨s32,rfl,rfl,hs32,ho32⟩
   refine zW ?_
   refine Ay rfl ?_
   refine zC ?_
   refine zE rfl (Aqh (z:=z1) (x:=((bN:Int),((2+jN:Nat):Int))) g1 (by omega) hq (kind:=kind) (s:=s32) (by rw [hs32];have:=Alk hwr;omega) hkd (by rw [hs32];exact hwr)) ?_
   rintro _ _ ⟨e2,z2,rfl,rfl,hst2,hSh,hW2⟩
   refine zW ?_
   refine Aa rfl (fun c46=> ?_) (fun c46=> ?_)
   ·skip
    have he:e2≠0:=(by grind)
    rw [hs32] at hSh
    refine zC ?_
    exact zL (hR:=by exact ⟨e2,z2,rfl,rfl,hst2,.inl ⟨he,g4 _ _ (by rw [hdr];exact .stop hc hrx hSh he)⟩,fun h9=>(hW2 h9).mono (by omega)⟩)
   ·skip
    have he:e2=0:=(by grind)
    subst he
    rw [hs32] at hSh
    refine zC ?_
    first | exact ⟨(i+1,z2),⟨by omega,(hW2 (by decide)).mono (by omega),hst2,⟨by rw [hSh.nb];exact g3.lt,hSh.seq hZ1.lv.len g3.lt g3.seq,fun x hx=>(let ⟨p,h1,h2⟩:=g3.recs x hx;⟨p,hSh.rec (by decide) h1,h2⟩)⟩,fun e z' h9=>g4 e z' (by rw [hdr];exact .go hc hrx hSh h9)⟩,by omega,by rw [← hst2];exact lZ⟩ | exact ⟨(i+1,z1),⟨by simp only;omega,g1.mono (by omega),rfl,g3,fun e z' h9=>g4 e z' (by rw [hdr];exact .skip hc h9)⟩,by simp only;omega,lZ⟩
 ·simp only [A4f,A2m] at c19
  have hi:i=s.recs.list.length:=(by omega)
  subst hi
  rw [List.drop_length] at g4
  have hEA:=g4 0 z1 .nil
  have hBB:=hB z1 hEA
  refine zC ?_
  refine Ar [0,3] kQ (fun (j:Nat)=>[(49,.int .i64 j)]) (fun j=>(b3,true,C (Uj s) Hm)::(z1.S.st,true,C (stC z1.S) tSt)::(z1.S.ib,true,z1.S.idx.obj .i64)::(z1.S.pb,true,z1.S.pend.obj .i64)::(lgH z1.L++(s.recs.hp Wz++[]))) (fun j=>j≤8) (fun j=>8 - j) (0) (A6j _) kP sP ?_
  rintro j g5
  refine zC ?_
  refine Aa rfl (fun c50=> ?_) (fun c50=> ?_)
  ·simp only [A4f,A2m] at c50
   have hj8:j<8:=(by omega)
   have hBj:=hBB j hj8
   refine zC ?_
   refine Ah rfl (fun b13=> ?_)
   refine zC ?_
   refine zI rfl ((R5 (S:=z1.S) (x:=((s.b:Int),(j:Int))))) ?_
   refine zC ?_
   refine Aa rfl (fun c59=> ?_) (fun c59=> ?_)
   ·skip
    refine zC ?_
    exact ⟨j+1,(by omega),(by omega),lZ⟩
   ·skip
    exact absurd c59 (by have h7:Ji z1.S (s.b,(j:Int))=false:=(by rw [hb];exact hBj);unfold Ji at h7;rw [h7];decide)
  ·simp only [A4f,A2m] at c50
   refine zC ?_
   refine At [(6,[(0,false),(1,false),(2,false),(3,false),(4,false),(5,false)]),(7,[(6,true)]),(8,[(7,false)])] (by kernel_rfl) ?_
   refine zA ?_
   refine Aj (show Rd _ _ _ _ (ptr z1.L.lg) from by rw [← g1.1];exact Al rfl mM rfl) ?_
   refine zA ?_
   refine Aj (show Rd _ _ _ _ (.int .i64 (b:Nat)) from by rw [← hb];exact Al rfl mM rfl) ?_
   refine zC ?_
   refine Ch rfl (Avc g1.2.choose_spec (by omega) hq g3.lt g3.seq) sP rfl (fun v118 Y118 h118=> ?_)
   obtain ⟨L2,e3,rfl,rfl,hD⟩:=h118
   obtain ⟨R2,hDG,hW3⟩:=hD.g g1.1
   refine A6 aQ ?_
   refine zC ?_
   exact zL (hR:=by exact ⟨e3,⟨z1.S,L2,R2⟩,rfl,rfl,rfl,.inr ⟨z1,hEA,hDG⟩,fun h9=>(hW3 h9).mono (by omega)⟩)
end
end
section
open Go.K
instance plc271:Plc Tryz.prog 271 [(0,4),(4,1)]:=⟨⟨_,Tryz.underlying271,fun _=>by kernel_rfl⟩⟩
instance byt271:Byt Tryz.prog 271 56:=⟨by kernel_rfl⟩
theorem Aqj (l1 l2:List Seg) (g:Seg) (D:Hp):Jh (l1++g::l2)++D=Jh l1++(g.recs.hp Wz++(Jh l2++D)):=by simp [Jh]
theorem Ai2 {l:List Seg} {g:Seg} {A B:Hp} (hg:g∈l) (hp:PickL (Jh l) A B):Sub (g.recs.hp Wz) A:=fun x hx=>hp.sub (List.mem_flatMap.2 ⟨g,hg,hx⟩)
def Gw (S:Sto) (xs:List Pl2):Nat:=xs.countP (Ji S)
def ldS (S:Sto) (g:Seg):Ldv:=⟨g,(Gw S g.recs.list:Nat)⟩
theorem All {S:Sto} {xs:List Pl2} {i:Nat} {x:Pl2} (h:xs[i]? =some x):Gw S (xs.take (i+1))=Gw S (xs.take i)+if Ji S x=true then 1 else 0:=by
 unfold Gw
 rw [A4d,h,List.countP_append]
 grind
theorem R6 {xs:List Ldv} {but:Int}:∀ {i:Nat},(Cu xs but i).2=true→(Cu xs but i).1<i∧(Cu xs but i).1≠but
 | 0,h=>by cases h
 | i+1,h=>by
  unfold Cu at h ⊢
  split at h
  ·grind
  ·rename_i hc
   rw [A6u hc]
   have:=R6 h
   omega
def SegsOf (z:Sg) (ss:List Seg):Prop:=(ss.map W0).Perm (M5 z.L.bs z.R z.L.nb)∧Uk ss ss.length
theorem SegsOf.mem {z:Sg} {ss:List Seg} (h:SegsOf z ss) {g:Seg} (hg:g∈ss):∃ b:Nat,b<z.L.nb∧(bAt z.L.bs b).seq.toNat≠0∧g.b=b∧g.seq=(bAt z.L.bs b).seq∧g.wear=(bAt z.L.bs b).wear∧g.recs.list=F1 b 2 (z.R b):=by
 have:W0 g∈M5 z.L.bs z.R z.L.nb:=h.1.mem_iff.1 (A53.2 ⟨g,hg,rfl⟩)
 obtain ⟨j,h1,h2,h3⟩:=segZ_mem.1 this
 unfold W0 at h3
 grind
theorem Ay2 {z:Sg} {b:Nat} (hb:b<z.L.nb) (hs:(bAt z.L.bs b).seq.toNat≠0):EmI z b (F1 b 2 (z.R b)) :=
 ⟨hb,hs,fun x hx=>by
  obtain ⟨j,p,h1,h2,h3⟩:=recZ_mem.1 hx
  exact ⟨p,⟨b,j,h3,hb,h1⟩,h2⟩⟩
theorem Alm {z:Sg} {n k:Nat} {q:Qt} {ss:List Seg} (h:WI n k q z) (hs:SegsOf z ss) (hv:(F0 (ss.map (ldS z.S))).2=true) {g:Seg} (hg:ss[(F0 (ss.map (ldS z.S))).1.toNat]? =some g):g.b≠z.L.last:=by
 obtain ⟨_,V,hZ⟩:=h
 intro hl
 have hok:=R6 (i:=(ss.map (ldS z.S)).length) hv
 have hin:=K4 (ss.map (ldS z.S)) (D4 (ss.map (ldS z.S)) (ss.map (ldS z.S)).length:Nat) (ss.map (ldS z.S)).length
 obtain ⟨b,hb,hsq,hgb,hgs,_,_⟩:=hs.mem (A3b hg)
 rw [A46] at hok hin
 have hmax:∀ i,i≤ss.length→(i=0∨D4 (ss.map (ldS z.S)) i<i)∧∀ j<i,(J4 (ss.map (ldS z.S)) j).s.seq.toNat≤(J4 (ss.map (ldS z.S)) (D4 (ss.map (ldS z.S)) i)).s.seq.toNat:=fun i=>by
  induction i with
  | zero=>grind
  | succ i ih =>
   intro hi
   obtain ⟨h1,h2⟩:=ih (by omega)
   unfold D4
   split
   ·grind
   ·rename_i hlt
    refine ⟨.inr (by rcases V7 (ss.map (ldS z.S)) i with h | h <;> omega),fun j hj=> ?_⟩
    grind
 obtain ⟨m1,m2⟩:=hmax ss.length (A6h _)
 have hlen:(F0 (ss.map (ldS z.S))).1.toNat<ss.length:=(List.getElem?_eq_some_iff.1 hg).1
 have hat:∀ j,j<ss.length→∃ g',ss[j]? =some g'∧(J4 (ss.map (ldS z.S)) j).s=g':=fun j hj=>by
  refine ⟨ss[j],A2i hj,?_⟩
  unfold J4
  simp only [A18,A38,A2i hj,A5h,A4w]
  rfl
 have hm:=m2 _ hlen
 obtain ⟨g1,e1,e2⟩:=hat _ hlen
 have:g1=g:=by rw [hg] at e1;grind
 subst this
 have hll:D4 (ss.map (ldS z.S)) ss.length<ss.length:=by omega
 obtain ⟨g2,f1,f2⟩:=hat _ hll
 rw [e2,f2] at hm
 obtain ⟨b2,hb2,hsq2,hgb2,hgs2,_,_⟩:=hs.mem (A3b f1)
 have hbl:(b:Int)=z.L.last:=by rw [← hgb];exact hl
 have hbb:b2=b:=by
  rcases hZ.lv.lst with ⟨h1,_⟩ | ⟨l,h1,h2,h3,h4⟩
  ·omega
  grind
 have hnd:(ss.map (·.b)).Nodup:=by
  have h1:(ss.map (·.b))=(ss.map W0).map (·.1):=by rw [A51];rfl
  rw [h1]
  refine (hs.1.map (·.1)).nodup_iff.2 ?_
  have key:∀ j,((M5 z.L.bs z.R j).map (·.1)).Nodup∧∀ x∈(M5 z.L.bs z.R j).map (·.1),x<(j:Int):=fun j=>by
   induction j with
   | zero=>exact ⟨A5o,fun x hx=>by cases hx⟩
   | succ j ih =>
    unfold M5
    rw [A48]
    grind
  grind
 have hidx:(F0 (ss.map (ldS z.S))).1.toNat=D4 (ss.map (ldS z.S)) ss.length:=by
  have e3:(ss.map (·.b))[(F0 (ss.map (ldS z.S))).1.toNat]? =some (b:Int):=by rw [A38,hg,A5h,hgb]
  have e4:(ss.map (·.b))[D4 (ss.map (ldS z.S)) ss.length]? =some (b:Int):=by rw [A38,f1,A5h,hgb2,hbb]
  obtain ⟨x1,x2⟩:=List.getElem?_eq_some_iff.1 e3
  obtain ⟨y1,y2⟩:=List.getElem?_eq_some_iff.1 e4
  exact (List.getElem_inj hnd).1 (x2.trans y2.symm)
 have h9:=hok.2
 apply h9
 have hvF:F0 (ss.map (ldS z.S))=Cu (ss.map (ldS z.S)) (D4 (ss.map (ldS z.S)) ss.length:Nat) ss.length:=by unfold F0;rw [A46]
 have hv0:0≤(F0 (ss.map (ldS z.S))).1:=by rw [hvF];exact hin.1
 rw [← hvF]
 omega
def ColR (n:Nat) (q:Qt) (z:Sg) (e:Int) (z':Sg):Prop :=
 ∃ ss:List Seg,SegsOf z ss∧(((F0 (ss.map (ldS z.S))).2=false∧e=40∧z'=z) ∨
  ((F0 (ss.map (ldS z.S))).2=true∧∃ (g:Seg) (b:Nat),ss[(F0 (ss.map (ldS z.S))).1.toNat]? =some g∧g.b=b∧(b:Int)≠z.L.last∧EmR n q b (F1 b 2 (z.R b)) z e z'))
def Ay3 (n:Nat) (q:Qt) (z:Sg):Prop:=∀ b:Nat,b<z.L.nb→(bAt z.L.bs b).seq.toNat≠0→(b:Int)≠z.L.last→∀ z1,EmA n q (F1 b 2 (z.R b)) z 0 z1→∀ j:Nat,j<8→Ji z1.S ((b:Int),(j:Int))=false
theorem Qr (b:Int):∀ (r:List Pg) (i:Nat),(F1 b i r).length≤r.length
 | [],_=>A6h _
 | p::r,i=>by
  have:=Qr b r (i+1)
  show ((if _ then _ else _)++F1 b (i+1) r).length≤_
  rw [A3x,A4q]
  split <;> simp <;> omega
theorem LZ.rlen {n nb k:Nat} {q:Qt} {d:Dsk} {bs:List LB} {last:Int} {V:Nat→Blk} {R:Nat→List Pg} (h:LZ n nb k q d bs last V R) {b:Nat} (hb:b<nb):(F1 b 2 (R b)).length≤6:=by
 have h1:=Qr b (R b) 2
 rcases h.lv.blk b hb with ⟨_,r⟩ | u
 ·rw [r];grind
 ·have:=u.cnt.len;omega
theorem Aqk (xs:List Ldv):0≤(F0 xs).1:=(K4 _ _ _).1
section
variable {n k:Nat} {q:Qt} {z:Sg}
theorem Agu (h:WI n k q z) (hk:k≤299999900000) (hq:q.n≤3) (h12:z.L.nb≤Bv z.L.bs z.L.nb+40) (hB:Ay3 n q z) :
  Does Tryz.prog 152 [ptr z.S.st] ((z.S.st,true,C (stC z.S) tSt)::(z.S.ib,true,z.S.idx.obj .i64)::(z.S.pb,true,z.S.pend.obj .i64)::(lgH z.L++[]))
  (fun v H=>∃ (e:Int) (z':Sg),v= .int .i64 e∧H=(z'.S.st,true,C (stC z'.S) tSt)::(z'.S.ib,true,z'.S.idx.obj .i64)::(z'.S.pb,true,z'.S.pend.obj .i64)::(lgH z'.L++[])∧z'.S.st=z.S.st∧ColR n q z e z'∧(e≠30→WI n (k+1000) q z')):=by
 obtain ⟨V,hZ⟩:=h.2
 have hnb:z.L.nb≤40:=(by have:=hZ.num;have:=hZ.dv.di.wf.n2;omega)
 refine zF 56 Tryz.func152 ?_
 refine zA ?_
 refine Ae (show Rd _ _ _ _ (ptr z.L.lg) from by rw [← h.1];exact Al rfl mM rfl) rfl ?_
 refine zE rfl (Qp hZ h12) ?_
 rintro _ _ ⟨s,l0,rfl,rfl,hp0,hso,hpm,hst,hro,hln⟩
 refine zW ?_
 have hSO:SegsOf z s.list:=⟨hpm,hst⟩
 have hsn:s.list.length≤40:=(by omega)
 refine Ki (Ii (α:=Ldv) (T:=tLd)) ?_
 refine Ar [0,3,17,18] kQ (fun (st:Nat×Sl Ldv)=>[(19,.int .i64 st.1),(4,st.2.val)]) (fun st=>(st.2.hp tLd++((z.S.st,true,C (stC z.S) tSt)::(z.S.ib,true,z.S.idx.obj .i64)::(z.S.pb,true,z.S.pend.obj .i64)::(lgH z.L++(s.hp Hm++(Jh l0++[])))))) (fun st=>st.1≤s.list.length∧st.2.list=(s.list.take st.1).map (ldS z.S)∧st.2.isOwn=true) (fun st=>s.list.length - st.1) ((0,Sl.nil)) ⟨A6j _,rfl,rfl⟩ kP sP ?_
 rintro ⟨i,lds⟩ ⟨g0,g1,g2⟩
 simp only at g0 g1 g2
 have hll:lds.list.length≤40:=(by rw [g1,A46,A4s];omega)
 refine zC ?_
 refine Aa rfl (fun c20=> ?_) (fun c20=> ?_)
 ·simp only [A4f,A2m] at c20
  obtain ⟨g,hg⟩:∃ g,s.list[i]? =some g:=⟨_,A2i (by omega)⟩
  have hgl:g∈l0:=hp0.mem_iff.2 (A3b hg)
  obtain ⟨bN,hbN,_,_,_,_,hrl⟩:=hSO.mem (A3b hg)
  have hr6:g.recs.list.length≤6:=(by rw [hrl];exact hZ.rlen hbN)
  refine zA ?_
  refine Ae (Az (s:=s) rfl rfl (by omega)) rfl ?_
  refine Ae (Cq (s:=s) (o:=0) rfl pL hg rfl rfl) rfl ?_
  refine Ah rfl (fun b6=> ?_)
  refine zC ?_
  refine Ar [0,3,4,6,17,18,19,24,25] kQ (fun (j:Nat)=>[(26,.int .i64 j),(7,.int .i64 (Gw z.S (g.recs.list.take j):Nat))]) (fun j=>(b6,true,C (Uj g) Hm)::(lds.hp tLd++((z.S.st,true,C (stC z.S) tSt)::(z.S.ib,true,z.S.idx.obj .i64)::(z.S.pb,true,z.S.pend.obj .i64)::(lgH z.L++(s.hp Hm++(Jh l0++[])))))) (fun j=>j≤g.recs.list.length) (fun j=>g.recs.list.length - j) (0) (A6j _) kP sP ?_
  rintro j k0
  refine zC ?_
  refine Aa rfl (fun c27=> ?_) (fun c27=> ?_)
  ·simp only [A4f,A2m] at c27
   obtain ⟨x,hgx⟩:∃ x,g.recs.list[j]? =some x:=⟨_,A2i (by omega)⟩
   have hct:=All (S:=z.S) hgx
   have hcle:Gw z.S (g.recs.list.take j)≤6:=(by have:=List.countP_le_length (p:=Ji z.S) (l:=g.recs.list.take j);rw [A4s] at this;unfold Gw;omega)
   refine zA ?_
   refine Ae (Az (s:=g.recs) rfl rfl (by omega)) rfl ?_
   refine Ae (Yc (s:=g.recs) (o:=0) rfl (Ai2 hgl pL) hgx rfl rfl) rfl ?_
   refine Ah rfl (fun b9=> ?_)
   refine zC ?_
   refine zI rfl (R5 (S:=z.S) (x:=x)) ?_
   refine zC ?_
   refine Aa rfl (fun c32=> ?_) (fun c32=> ?_)
   ·skip
    have hcT:Gw z.S (g.recs.list.take (j+1))=Gw z.S (g.recs.list.take j)+1:=(by rw [hct,A6v (show Ji z.S x=true from c32)])
    refine zC ?_
    first | exact ⟨j+1,by omega,by omega,(by rw [hcT];exact kP),kP,_,sP⟩ | exact ⟨j+1,by omega,by omega,(by rw [hcF];exact kP),kP,_,sP⟩
   ·skip
    have hcF:Gw z.S (g.recs.list.take (j+1))=Gw z.S (g.recs.list.take j):=(by rw [hct,A6u (by rw [show Ji z.S x=false from c32];decide),A56])
    refine zC ?_
    first | exact ⟨j+1,by omega,by omega,(by rw [hcT];exact kP),kP,_,sP⟩ | exact ⟨j+1,by omega,by omega,(by rw [hcF];exact kP),kP,_,sP⟩
  ·simp only [A4f,A2m] at c27
   have hj:j=g.recs.list.length:=(by omega)
   subst hj
   rw [A4u]
   refine zC ?_
   refine Am rfl rfl rfl rfl (fun b40=> ?_)
   refine A5 (s:=lds) (new:=[(⟨g,(Gw z.S g.recs.list:Nat)⟩:Ldv)]) (m:=1) rfl rfl pL g2 (Ck (r:=true) mM rfl) rfl rfl rfl rfl (by omega) rfl (fun s' hs1 hs2=> ?_)
   refine zC ?_
   exact ⟨(i+1,s'),⟨by omega,by simp only;rw [hs1,g1,A4d,hg,A48];rfl,hs2⟩,(by omega),lZ⟩
 ·simp only [A4f,A2m] at c20
  have hi:i=s.list.length:=(by omega)
  subst hi
  rw [A4u] at g1
  refine zC ?_
  refine zI rfl (Avb (s:=lds)) ?_
  refine zC ?_
  refine Aa rfl (fun c49=> ?_) (fun c49=> ?_)
  ·skip
   have hv:(F0 (s.list.map (ldS z.S))).2=false:=(by rw [← g1];grind)
   refine zC ?_
   exact zL (hR:=by exact ⟨40,z,rfl,rfl,rfl,⟨s.list,hSO,.inl ⟨hv,rfl,rfl⟩⟩,fun _=>h.mono (by omega)⟩)
  ·skip
   have hv:(F0 (s.list.map (ldS z.S))).2=true:=(by rw [← g1];grind)
   have hok:=R6 hv
   have hin:=K4 (s.list.map (ldS z.S)) (D4 (s.list.map (ldS z.S)) (s.list.map (ldS z.S)).length:Nat) (s.list.map (ldS z.S)).length
   rw [A46] at hok hin
   have hvl:(F0 lds.list).1.toNat<s.list.length:=(by rw [g1];show (Cu _ _ _).1.toNat<_;rw [A46];omega)
   have hv0:=Aqk lds.list
   obtain ⟨g,hg⟩:∃ g,s.list[(F0 lds.list).1.toNat]? =some g:=⟨_,A2i hvl⟩
   have hgl:g∈l0:=hp0.mem_iff.2 (A3b hg)
   obtain ⟨bN,hbN,hsq,hgb,_,_,hrl⟩:=hSO.mem (A3b hg)
   have hr6:g.recs.list.length≤6:=(by rw [hrl];exact hZ.rlen hbN)
   have hnl:(bN:Int)≠z.L.last:=(by rw [← hgb];exact Alm h hSO hv (by rw [← g1];exact hg))
   obtain ⟨l1,l2,rfl⟩:=List.append_of_mem hgl
   refine zA ?_
   refine Ae (Az (s:=s) rfl rfl (by omega)) rfl ?_
   refine Ae (Cq (s:=s) (o:=0) rfl pL hg rfl rfl) rfl ?_
   rw [Aqj]
   refine zE rfl (Aqi (z:=z) h (by omega) hq (s:=g) hgb (by rw [hrl];exact Ay2 hbN hsq) (by omega) (by rw [hrl];exact hB bN hbN hsq hnl)) ?_
   rintro _ _ ⟨e1,z1,rfl,rfl,hst1,hE,hW⟩
   refine zW ?_
   exact zL (hR:=by exact ⟨e1,z1,rfl,rfl,hst1,⟨s.list,hSO,.inr ⟨hv,g,bN,by rw [← g1];exact hg,hgb,hnl,by rw [← hrl];exact hE⟩⟩,fun h9=>(hW h9).mono (by omega)⟩)
end
end
section
open Go.K
theorem EmA.nb {n:Nat} {q:Qt} {xs:List Pl2} {z z':Sg} {e:Int} (h:EmA n q xs z e z'):z'.L.nb=z.L.nb:=by
 induction h with
 | nil=>rfl
 | skip _ _ ih=>exact ih
 | stop _ _ hs _=>exact hs.nb
 | go _ _ hs _ ih=>exact ih.trans hs.nb
theorem EmR.nb {n:Nat} {q:Qt} {b:Nat} {xs:List Pl2} {z z':Sg} {e:Int} (h:EmR n q b xs z e z'):z'.L.nb=z.L.nb:=by
 rcases h with ⟨_,h⟩ | ⟨z1,h,hd⟩
 ·exact h.nb
 ·exact hd.2.2.2.1.trans h.nb
theorem ColR.nb {n:Nat} {q:Qt} {z z':Sg} {e:Int} (h:ColR n q z e z'):z'.L.nb=z.L.nb:=by
 obtain ⟨ss,_,h⟩:=h
 rcases h with ⟨_,_,rfl⟩ | ⟨_,g,b,_,_,_,h⟩
 ·rfl
 ·exact h.nb
inductive ColS (n:Nat) (q:Qt) (z:Sg):Sg→Prop
 | refl:ColS n q z z
 | step {z1 z2:Sg}:ColS n q z z1→(∃ k,k≤300000000000∧WI n k q z1)→Bv z1.L.bs z1.L.nb≤1→ColR n q z1 0 z2→ColS n q z z2
def Wa (n:Nat) (q:Qt) (z:Sg):Prop:=∀ z1,ColS n q z z1→(∃ k,k≤300000000000∧WI n k q z1)→Bv z1.L.bs z1.L.nb≤1→Bv z1.L.bs z1.L.nb≠0∧z1.L.nb≤Bv z1.L.bs z1.L.nb+40∧Ay3 n q z1
inductive RoomR (n:Nat) (q:Qt):Nat→Sg→Int→Sg→Prop
 | enough {m:Nat} {z:Sg}:1<Bv z.L.bs z.L.nb→RoomR n q m z 0 z
 | out {z:Sg}:RoomR n q 0 z 0 z
 | stop {m:Nat} {z z1:Sg} {e:Int}:Bv z.L.bs z.L.nb≤1→ColR n q z e z1→e≠0→RoomR n q (m+1) z e z1
 | go {m:Nat} {z z1 z':Sg} {e:Int}:Bv z.L.bs z.L.nb≤1→ColR n q z 0 z1→RoomR n q m z1 e z'→RoomR n q (m+1) z e z'
def PutG (n:Nat) (q:Qt) (z:Sg) (p:Pg) (e:Int) (y:Pl2) (z':Sg):Prop :=
 (e≠0∧RoomR n q (8*z.L.nb) z e z')∨∃ z1,RoomR n q (8*z.L.nb) z 0 z1∧AppG n q z1 p e y z'
section
variable {n k:Nat} {q:Qt} {z:Sg}
theorem WI.nb40 (h:WI n k q z):z.L.nb≤40:=by
 obtain ⟨V,hZ⟩:=h.2
 have:=hZ.num
 have:=hZ.dv.di.wf.n2
 omega
theorem Aql (h:WI n k q z) (hk:k≤299999500000) (hq:q.n≤3) (hS:Wa n q z) :
  Does Tryz.prog 111 [ptr z.S.st] ((z.S.st,true,C (stC z.S) tSt)::(z.S.ib,true,z.S.idx.obj .i64)::(z.S.pb,true,z.S.pend.obj .i64)::(lgH z.L++[]))
  (fun v H=>∃ (e:Int) (z':Sg),v= .int .i64 e∧H=(z'.S.st,true,C (stC z'.S) tSt)::(z'.S.ib,true,z'.S.idx.obj .i64)::(z'.S.pb,true,z'.S.pend.obj .i64)::(lgH z'.L++[])∧z'.S.st=z.S.st∧RoomR n q (8*z.L.nb) z e z'∧(e≠30→WI n (k+320000) q z')∧z'.L.nb=z.L.nb):=by
 have hnb:=h.nb40
 refine zF 43 Tryz.func111 ?_
 refine zC ?_
 refine Ar [0] kQ (fun (st:Nat×Sg)=>[(3,.int .i64 st.1)]) (fun st=>(st.2.S.st,true,C (stC st.2.S) tSt)::(st.2.S.ib,true,st.2.S.idx.obj .i64)::(st.2.S.pb,true,st.2.S.pend.obj .i64)::(lgH st.2.L++[])) (fun st=>st.1≤8*z.L.nb∧WI n (k+1000*st.1) q st.2∧st.2.S.st=z.S.st∧st.2.L.nb=z.L.nb∧ColS n q z st.2∧∀ e z',RoomR n q (8*z.L.nb - st.1) st.2 e z'→RoomR n q (8*z.L.nb) z e z') (fun st=>8*z.L.nb - st.1) ((0,z)) ⟨A6j _,h.mono (by omega),rfl,rfl,.refl,fun _ _ h9=>h9⟩ kP sP ?_
 rintro ⟨t,z1⟩ ⟨g0,g1,g2,g3,g4,g5⟩
 simp only at g0 g1 g2 g3 g4 g5
 rw [← g2]
 obtain ⟨V1,hZ1⟩:=g1.2
 have hul:=hZ1.ulen
 have hWk:∃ k,k≤300000000000∧WI n k q z1:=⟨k+1000*t,by omega,g1⟩
 have hS1:=hS z1 g4 hWk
 refine zA ?_
 refine Ae (show Rd _ _ _ _ (ptr z1.L.lg) from by rw [← g1.1];exact Al rfl mM rfl) rfl ?_
 refine zI rfl (Ai1 (L:=z1.L) hZ1.lv.len (by omega)) ?_
 iterate 2 refine sb ?_
 refine' G4 rfl rfl inferInstance rfl rfl rfl rfl rfl (fun hg12=> ?_) ?_
 rotate_left
 ·try (simp at hg12;show _)
  refine zA ?_
  refine Ae (show Rd _ _ _ _ (ptr z1.L.lg) from by rw [← g1.1];exact Al rfl mM rfl) rfl ?_
  refine zA ?_
  refine Ae (M6 rfl pL) rfl ?_
  refine zC ?_
  refine zI rfl ((Aqg (L:=z1.L)).to (by rw [hul,g3]) rfl) ?_
  refine zA ?_
  refine Ae (Ps rfl rfl (by omega)) rfl ?_
  refine zC ?_
  exact Ag ⟨rfl,rfl,⟨_,sP⟩⟩
 refine zC ?_
 refine Aa rfl (fun c24=> ?_) (fun c24=> ?_)
 ·skip
  have hc:Bv z1.L.bs z1.L.nb≤1∧t<8*z.L.nb:=(by grind)
  obtain ⟨hf0,h12,hHB⟩:=hS1 hc.1
  refine zA ?_
  refine Ae (show Rd _ _ _ _ (ptr z1.L.lg) from by rw [← g1.1];exact Al rfl mM rfl) rfl ?_
  refine zI rfl (Ai1 (L:=z1.L) hZ1.lv.len (by omega)) ?_
  refine zC ?_
  refine Aa rfl (fun c32=> ?_) (fun c32=> ?_)
  ·skip
   exfalso;grind
  ·skip
   refine zC ?_
   refine zE rfl (Agu (z:=z1) g1 (by omega) hq h12 hHB) ?_
   rintro _ _ ⟨e2,z2,rfl,rfl,hst2,hC,hW2⟩
   refine zW ?_
   refine Aa rfl (fun c41=> ?_) (fun c41=> ?_)
   ·skip
    have he:e2≠0:=(by grind)
    refine zC ?_
    exact zL (hR:=by exact ⟨e2,z2,rfl,rfl,hst2,g5 _ _ (by rw [show 8*z.L.nb - t=(8*z.L.nb - (t+1))+1 by omega];exact .stop hc.1 hC he),fun h9=>(hW2 h9).mono (by omega),hC.nb.trans g3⟩)
   ·skip
    have he:e2=0:=(by grind)
    subst he
    refine zC ?_
    exact ⟨(t+1,z2),⟨by omega,(hW2 (by decide)).mono (by omega),hst2,hC.nb.trans g3,.step g4 hWk hc.1 hC,fun e z' h9=>g5 e z' (by rw [show 8*z.L.nb - t=(8*z.L.nb - (t+1))+1 by omega];exact .go hc.1 hC h9)⟩,by omega,by rw [← hst2];exact lZ⟩
 ·skip
  have hc:1<Bv z1.L.bs z1.L.nb∨t=8*z.L.nb:=(by grind)
  refine zC ?_
  exact zL (hR:=by exact ⟨0,z1,rfl,rfl,rfl,g5 _ _ (by rcases hc with h9 | h9;exact .enough h9;(rw [h9,A59];exact .out)),fun h9=>g1.mono (by omega),g3⟩)
theorem Abh (h:WI n k q z) (hk:k≤299999500000) (hq:q.n≤3) (hS:Wa n q z) {kind:By} {s:Sl By} {b:Nat} (hj:s.list.length≤70000000000000) (hkd:3<kind.toNat) (hw:Cv kind s.list=false) :
  Does Tryz.prog 68 [ptr z.S.st,bv kind,.slice (some ⟨b,0,none⟩) 1 1] ((z.S.st,true,C (stC z.S) tSt)::(z.S.ib,true,z.S.idx.obj .i64)::(z.S.pb,true,z.S.pend.obj .i64)::(lgH z.L++((b,true,C [s.val] tSB)::(s.hp tU8++[]))))
  (fun v H=>∃ (e:Int) (y:Pl2) (z':Sg),v= .tuple #[.agg #[.int .i64 y.1,.int .i64 y.2],.int .i64 e]∧H=(z'.S.st,true,C (stC z'.S) tSt)::(z'.S.ib,true,z'.S.idx.obj .i64)::(z'.S.pb,true,z'.S.pend.obj .i64)::(lgH z'.L++[])∧z'.S.st=z.S.st∧PutG n q z (Cj kind s.list) e y z'∧(e≠30→WI n (k+320080) q z')):=by
 refine zF 24 Tryz.func68 ?_
 refine zC ?_
 refine Ah rfl (fun b6=> ?_)
 refine zC ?_
 refine zE rfl (Aql (z:=z) h (by omega) hq hS) ?_
 rintro _ _ ⟨e1,z1,rfl,rfl,hst1,hR,hW1,hnb1⟩
 refine zW ?_
 refine Aa rfl (fun c12=> ?_) (fun c12=> ?_)
 ·skip
  have he:e1≠0:=(by grind)
  refine zC ?_
  exact zL (hR:=by exact ⟨e1,(0,0),z1,rfl,rfl,hst1,.inl ⟨he,hR⟩,fun h9=>(hW1 h9).mono (by omega)⟩)
 ·skip
  have he:e1=0:=(by grind)
  subst he
  have hWI:=hW1 (by decide)
  obtain ⟨V1,hZ1⟩:=hWI.2
  rw [← hst1]
  refine zA ?_
  refine Ae (show Rd _ _ _ _ (ptr z1.L.lg) from by rw [← hWI.1];exact Al rfl mM rfl) rfl ?_
  refine zC ?_
  refine Ch rfl (V9 (L:=z1.L) (b:=b) hZ1 (by omega) hq hj hkd hw) sP rfl (fun v21 Y21 h21=> ?_)
  obtain ⟨L2,e2,pb,pj,rfl,rfl,hA⟩:=h21
  obtain ⟨R2,hG,hW2⟩:=hA.g hWI.1 (by omega)
  refine A6 aQ ?_
  refine zC ?_
  exact zL (hR:=by exact ⟨e2,(pb,pj),⟨z1.S,L2,R2⟩,rfl,rfl,rfl,.inr ⟨z1,hR,hG⟩,fun h9=>(hW2 h9).mono (by omega)⟩)
end
end
section
open Go.K
def SeenK {α:Type} (m:Mp α) (seen:List Nat) (k:Int):Prop:=∃ e∈m.es,e.n∈seen∧e.k=k
theorem SeenK.add {α:Type} {m:Mp α} {seen:List Nat} {e:Me α} (he:e∈m.es) {k:Int}:SeenK m (seen++[e.n]) k↔SeenK m seen k∨k=e.k:=by
 constructor
 ·rintro ⟨x,h1,h2,h3⟩
  rcases A49.1 h2 with h | h
  ·exact .inl ⟨x,h1,h,h3⟩
  ·have:=Mp.n_inj h1 he (A3z.1 h)
   grind
 ·rintro (⟨x,h1,h2,h3⟩ | rfl)
  ·exact ⟨x,h1,A29 _ h2,h3⟩
  ·exact ⟨e,he,A22 _ (A3z.2 rfl),rfl⟩
theorem SeenK.no {α:Type} {m:Mp α} {k:Int}:¬ SeenK m [] k:=fun ⟨_,_,h,_⟩=>nomatch h
theorem SeenK.all {α:Type} {m:Mp α} {seen:List Nat} (h:∀ e∈m.es,e.n∈seen) {k:Int}:SeenK m seen k↔(m.get k).isSome=true:=by
 rw [Mp.get_some]
 constructor
 ·rintro ⟨e,h1,_,rfl⟩
  exact A53.2 ⟨e,h1,rfl⟩
 ·intro hk
  obtain ⟨e,h1,h2⟩:=A53.1 hk
  exact ⟨e,h1,h e h1,h2⟩
def CopI {α:Type} (d s:Mp α) (seen:List Nat) (c:Mp α):Prop:=(∀ k,SeenK s seen k→c.get k=s.get k)∧∀ k,¬ SeenK s seen k→c.get k=d.get k
theorem CopI.put {α:Type} {d s c:Mp α} {seen:List Nat} {e:Me α} (h:CopI d s seen c) (he:e∈s.es):CopI d s (seen++[e.n]) (c.put e.k e.v):=by
 refine ⟨fun k hk=> ?_,fun k hk=> ?_⟩
 ·rw [Mp.get_put]
  by_cases e1:k=e.k
  ·rw [A6v e1,e1];exact (Mp.get_mem he).symm
  ·rw [A6u e1]
   exact h.1 k (((SeenK.add he).1 hk).resolve_right e1)
 ·have h1:¬ (SeenK s seen k∨k=e.k):=fun h2=>hk ((SeenK.add he).2 h2)
  rw [Mp.get_put,A6u (fun e1=>h1 (.inr e1))]
  exact h.2 k fun h2=>h1 (.inl h2)
def orE {α:Type} (a b:Option α):Option α:=match a with | some v=>some v | none=>b
def A06 {α:Type} (d s m:Mp α):Prop:=∀ k,m.get k=orE (s.get k) (d.get k)
theorem CopI.over {α:Type} {d s c:Mp α} {seen:List Nat} (h:CopI d s seen c) (hl:H9 s seen=[]):A06 d s c:=fun k=>by
 have ha:=SeenK.all (Iv hl) (k:=k)
 cases hs:s.get k with
 | none=>exact h.2 k fun h2=>by have:=ha.1 h2;rw [hs] at this;cases this
 | some v=>rw [h.1 k (ha.2 (by rw [hs];rfl)),hs];rfl
theorem Ai3 {b1 b2:Nat} {d s:Mp En}:Does Tryz.prog 92 [.map (some b1),.map (some b2)] ((b1,true,d.obj .i64)::(b2,true,s.obj .i64)::[])
  (fun v H=>∃ m:Mp En,v= .tuple #[]∧H=(b1,true,m.obj .i64)::(b2,true,s.obj .i64)::[]∧A06 d s m):=by
 refine zF 16 Tryz.func92 ?_
 refine zC ?_
 refine I6 rfl mM rfl (fun it7=> ?_)
 refine zC ?_
 refine Ar [0,7] kQ (fun (st:List Nat×Mp En)=>[]) (fun st=>(it7,true,itO b2 s.cl st.1 s.cl)::(b1,true,st.2.obj .i64)::(b2,true,s.obj .i64)::[]) (fun st=>CopI d s st.1 st.2) (fun st=>Jn s st.1) (([],d)) ⟨fun k h=>absurd h SeenK.no,fun k _=>rfl⟩ kP sP ?_
 rintro ⟨seen,c⟩ g0
 simp only at g0
 refine zC ?_
 refine Ll rfl (by repeat (first | exact Pick.here | apply Pick.there | apply Pick.app)) mM (Mp.wc _) (A6h _) rfl (fun hl8=> ?_) (fun e8 he8 hn8=> ?_)
 ·refine zC ?_
  refine Ay rfl ?_
  refine zC ?_
  exact zLN (hR:=by exact ⟨c,rfl,rfl,g0.over hl8⟩)
 ·refine zC ?_
  refine Es rfl ?_
  refine zC ?_
  refine Ae (I7 rfl mM mM he8) rfl ?_
  refine zC ?_
  refine Ah rfl (fun b5=> ?_)
  refine zC ?_
  refine Ya (m:=c) (v:=e8.v) (kd:= .i64) rfl rfl rfl uD ?_
  refine zC ?_
  exact ⟨(seen++[e8.n],c.put e8.k e8.v),(g0.put he8),(C6 he8 hn8),lZ⟩
structure DelI {α:Type} (m:Mp α) (p:Int→Bool) (seen:List Nat) (c:Mp α):Prop where
 cl:c.cl=m.cl
 sub:∀ e∈c.es,e∈m.es
 sup:∀ e∈m.es,e.n∉seen→e∈c.es
 gone:∀ k,SeenK m seen k→p k=false→c.get k=none
 stay:∀ k,(¬ SeenK m seen k∨p k=true)→c.get k=m.get k
theorem DelI.start {α:Type} (m:Mp α) (p:Int→Bool):DelI m p [] m:=⟨rfl,fun _ h=>h,fun _ h _=>h,fun k h=>absurd h SeenK.no,fun _ _=>rfl⟩
theorem DelI.skip {α:Type} {m c:Mp α} {p:Int→Bool} {seen:List Nat} {e:Me α} (h:DelI m p seen c) (he:e∈m.es) (hp:p e.k=true):DelI m p (seen++[e.n]) c:=by
 refine ⟨h.cl,h.sub,fun x hx hn=>h.sup x hx fun h2=>hn (A29 _ h2),fun k hk hpk=> ?_,fun k hk=> ?_⟩
 ·rcases (SeenK.add he).1 hk with h1 | rfl
  ·exact h.gone k h1 hpk
  grind
 ·refine h.stay k ?_
  rcases hk with h1 | h1
  ·exact .inl fun h2=>h1 ((SeenK.add he).2 (.inl h2))
  grind
theorem DelI.del {α:Type} {m c:Mp α} {p:Int→Bool} {seen:List Nat} {e:Me α} (h:DelI m p seen c) (he:e∈m.es) (hp:p e.k=false):DelI m p (seen++[e.n]) (c.del e.k):=by
 refine ⟨h.cl,fun x hx=>h.sub x (A5a.1 hx).1,fun x hx hn=>A5a.2 ⟨h.sup x hx fun h2=>hn (A29 _ h2),?_⟩,fun k hk hpk=> ?_,fun k hk=> ?_⟩
 ·simp only [A32,A2m]
  intro h3
  apply hn
  have:x=e:=by
   have h4:=Mp.get_mem hx
   have h5:=Mp.get_mem he
   have:∀ (es:List (Me α)),(es.map (·.k)).Nodup→x∈es→e∈es→x=e:=fun es=>by
    induction es with
    | nil=>grind
    | cons y es ih =>
     grind
   exact this m.es m.wk hx he
  rw [this]
  grind
 ·rw [Mp.get_del]
  split
  ·rfl
  ·rename_i hne
   exact h.gone k (((SeenK.add he).1 hk).resolve_right hne) hpk
 ·rw [Mp.get_del]
  have hne:k≠e.k:=fun e1=>by
   rcases hk with h1 | h1
   ·exact h1 ((SeenK.add he).2 (.inr e1))
   grind
  rw [A6u hne]
  refine h.stay k ?_
  rcases hk with h1 | h1
  ·exact .inl fun h2=>h1 ((SeenK.add he).2 (.inl h2))
  grind
def A07 {α:Type} (m:Mp α) (p:Int→Bool) (c:Mp α):Prop:=∀ k,c.get k=if p k=true then m.get k else none
theorem DelI.only {α:Type} {m c:Mp α} {p:Int→Bool} {seen:List Nat} (h:DelI m p seen c) (hl:H9 c seen=[]):A07 m p c:=fun k=>by
 have ha:∀ e∈m.es,e.n∈seen:=fun e he=>by
  by_cases h1:e.n∈seen
  ·exact h1
  ·exact Iv hl e (h.sup e he h1)
 by_cases hp:p k=true
 ·rw [A6v hp];exact h.stay k (.inr hp)
 ·rw [A6u hp]
  by_cases hs:SeenK m seen k
  ·exact h.gone k hs (by grind)
  ·rw [h.stay k (.inl hs)]
   have:=SeenK.all ha (k:=k)
   simp_all
theorem DelI.wc {α:Type} {m c:Mp α} {p:Int→Bool} {seen:List Nat} (h:DelI m p seen c):∀ e∈c.es,e.n<m.cl:=fun e he=>m.wc e (h.sub e he)
theorem Aqm {k:Int} {e:En} {b:Nat} {l:Lv}:Does Tryz.prog 99 [.int .i64 k,.agg (Alh e).toArray,ptr b] [(b,true,C (vbc l) tLv)] (Is (.bool (!Bg l k)) [(b,true,C (vbc l) tLv)]):=by
 refine zF 10 Tryz.func99 ?_
 refine zC ?_
 refine Cy rfl rfl (fun b4=> ?_)
 refine zA ?_
 refine Ae (Ao rfl mM (by first | exact Ax | rfl)) rfl ?_
 refine zC ?_
 refine zI rfl (Vz) ?_
 refine zC ?_
 exact zS
theorem Avd {b b3:Nat} {m:Mp En} {l:Lv}:Does Tryz.prog 98 [.map (some b),.func (.func 99) #[] #[ptr b3]] ((b,true,m.obj .i64)::(b3,true,C (vbc l) tLv)::[])
  (fun v H=>∃ c:Mp En,v= .tuple #[]∧H=(b,true,c.obj .i64)::(b3,true,C (vbc l) tLv)::[]∧A07 m (Bg l) c):=by
 refine zF 19 Tryz.func98 ?_
 refine zC ?_
 refine I6 rfl mM rfl (fun it7=> ?_)
 refine zC ?_
 refine Ar [0,1,7] kQ (fun (st:List Nat×Mp En)=>[]) (fun st=>(it7,true,itO b m.cl st.1 m.cl)::(b,true,st.2.obj .i64)::(b3,true,C (vbc l) tLv)::[]) (fun st=>DelI m (Bg l) st.1 st.2) (fun st=>Jn m st.1) (([],m)) (DelI.start m _) kP sP ?_
 rintro ⟨seen,c⟩ g0
 simp only at g0
 refine zC ?_
 refine Ll rfl (by repeat (first | exact Pick.here | apply Pick.there | apply Pick.app)) mM g0.wc (A6h _) rfl (fun hl8=> ?_) (fun e8 he8 hn8=> ?_)
 ·refine zC ?_
  refine Ay rfl ?_
  refine zC ?_
  exact zLN (hR:=by exact ⟨c,rfl,rfl,g0.only hl8⟩)
 ·refine zC ?_
  have hem:=g0.sub e8 he8
  refine zC ?_
  refine Es rfl ?_
  refine zC ?_
  refine Ae (I7 rfl mM mM he8) rfl ?_
  refine zC ?_
  refine Ah rfl (fun b5=> ?_)
  refine zC ?_
  refine Xy (fi:=[]) (ca:=[ptr b3]) rfl rfl (Aqm (k:=e8.k) (e:=e8.v) (b:=b3) (l:=l)) sP rfl aQ ?_
  refine zC ?_
  refine Aa rfl (fun c16=> ?_) (fun c16=> ?_)
  ·skip
   have hp:Bg l e8.k=false:=(by grind)
   refine zC ?_
   refine Aw4 rfl rfl uD ?_
   refine zC ?_
   rw [g0.cl]
   first | exact ⟨(seen++[e8.n],c.del e8.k),g0.del hem hp,C6 hem hn8,lZ⟩ | exact ⟨(seen++[e8.n],c),g0.skip hem hp,C6 hem hn8,lZ⟩
  ·skip
   have hp:Bg l e8.k=true:=(by grind)
   refine zC ?_
   rw [g0.cl]
   first | exact ⟨(seen++[e8.n],c.del e8.k),g0.del hem hp,C6 hem hn8,lZ⟩ | exact ⟨(seen++[e8.n],c),g0.skip hem hp,C6 hem hn8,lZ⟩
end
section
open Go.K
instance und63:Und Tryz.prog 63 (.map 3 3):=⟨Tryz.underlying63⟩
instance agg63:Agg Tryz.prog 63 false:=⟨⟨_,Tryz.underlying63,rfl⟩⟩
instance fld67_3:Fld Tryz.prog 67 3 3:=⟨⟨_,_,0,Tryz.underlying67,rfl,by kernel_rfl,rfl⟩⟩
instance fld67_9:Fld Tryz.prog 67 9 46:=⟨⟨_,_,0,Tryz.underlying67,rfl,by kernel_rfl,rfl⟩⟩
instance fld67_10:Fld Tryz.prog 67 10 47:=⟨⟨_,_,0,Tryz.underlying67,rfl,by kernel_rfl,rfl⟩⟩
instance mcl:Mcl Tryz.prog 139:=⟨_,Tryz.func139,by kernel_rfl,rfl,by kernel_rfl,by kernel_rfl⟩
theorem Aln {b:Nat} {m:Mp En}:Does Tryz.prog 97 [.map (some b)] ((b,true,m.obj .i64)::[])
  (fun v H=>∃ c:Nat,v= .map (some c)∧H=(c,true,m.obj .i64)::(b,true,m.obj .i64)::[]):=by
 refine zF 9 Tryz.func97 ?_
 refine zA ?_
 refine Ae (Akj rfl rfl) rfl ?_
 refine zC ?_
 refine Ay rfl ?_
 refine zC ?_
 refine Ae (Ax8 rfl) rfl ?_
 refine An7 (m:=m) (kd:= .i64) rfl mM rfl (fun b7=> ?_)
 refine Ae (Afr rfl) rfl ?_
 refine zC ?_
 exact zL (hR:=by exact ⟨b7,rfl,rfl⟩)
def N8 (S:Sto) (l:Lv) (m:Mp En):Prop:=∀ k,m.get k=if Bg l k=true then orE (S.pend.get k) (S.idx.get k) else none
theorem Aqn {S:Sto} {l:Lv}:Does Tryz.prog 60 [ptr S.st,.agg (vbc l).toArray] ((S.st,true,C (stC S) tSt)::(S.ib,true,S.idx.obj .i64)::(S.pb,true,S.pend.obj .i64)::[])
  (fun v H=>∃ (c:Nat) (m:Mp En),v= .map (some c)∧H=(c,true,m.obj .i64)::(S.st,true,C (stC S) tSt)::(S.ib,true,S.idx.obj .i64)::(S.pb,true,S.pend.obj .i64)::[]∧N8 S l m):=by
 refine zF 21 Tryz.func60 ?_
 refine zC ?_
 refine Do rfl rfl (fun b3=> ?_)
 refine zC ?_
 refine zE rfl (Aln) ?_
 rintro _ _ ⟨b10,rfl,rfl⟩
 refine zW ?_
 refine zE rfl (Ai3) ?_
 rintro _ _ ⟨m16,rfl,rfl,hO16⟩
 refine zW ?_
 refine Ae (Pu rfl) rfl ?_
 refine zE rfl (Avd) ?_
 rintro _ _ ⟨c19,rfl,rfl,hO19⟩
 refine zW ?_
 exact zL (hR:=by exact ⟨b10,c19,rfl,rfl,fun k=>by rw [hO19 k,hO16 k]⟩)
def Jj (a b:Wd):Wd:=if a.toNat<b.toNat then b else a
def Ave (S:Sto) (c:Cm) (y:Pl2) (m:Mp En):Sto:={ S with idx:=m,stray:=S.stray.clr,last:=c,la:=y,hurt:=false,seen:=Jj S.seen c.ep }
def EndR (n:Nat) (q:Qt) (z:Sg) (c:Cm) (e:Int) (z':Sg):Prop :=
 ∃ y z1,PutG n q z (Cj 11 (F8 c)) e y z1∧((e≠0∧z'=z1)∨(e=0∧∃ m,N8 z1.S c.lv m∧z'={ z1 with S:=Ave z1.S c y m }))
theorem Ju (c:Cm):(F8 c).length=44:=by
 unfold F8
 simp [A4]
structure SameS (S S':Sto):Prop where
 st:S'.st=S.st
 lg:S'.lg=S.lg
 ib:S'.ib=S.ib
 pb:S'.pb=S.pb
 sb:S'.sb=S.sb
 last:S'.last=S.last
 vw:S'.vw=S.vw
 viewed:S'.viewed=S.viewed
 seen:S'.seen=S.seen
 hurt:S'.hurt=S.hurt
 stray:S'.stray=S.stray
theorem SameS.refl (S:Sto):SameS S S:=⟨rfl,rfl,rfl,rfl,rfl,rfl,rfl,rfl,rfl,rfl,rfl⟩
theorem SameS.trans {S S' S'':Sto} (h:SameS S S') (k:SameS S' S''):SameS S S'' :=
 ⟨k.st.trans h.st,k.lg.trans h.lg,k.ib.trans h.ib,k.pb.trans h.pb,k.sb.trans h.sb,k.last.trans h.last,k.vw.trans h.vw,k.viewed.trans h.viewed,k.seen.trans h.seen,k.hurt.trans h.hurt,k.stray.trans h.stray⟩
theorem SameS.of {S S':Sto} (h:S'=S):SameS S S':=by subst h;exact .refl _
theorem Wb (S:Sto) (f t:Pl2):SameS S (Dm S f t):=⟨rfl,rfl,rfl,rfl,rfl,rfl,rfl,rfl,rfl,rfl,rfl⟩
theorem ShR.same {n:Nat} {q:Qt} {z z':Sg} {x:Pl2} {p:Pg} {e:Int} (h:ShR n q z x p e z'):SameS z.S z'.S:=by
 obtain ⟨y,z1,h1,h2⟩:=h
 subst h2
 split
 ·exact (SameS.of h1.1).trans (Wb _ _ _)
 ·exact .of h1.1
theorem EmA.same {n:Nat} {q:Qt} {xs:List Pl2} {z z':Sg} {e:Int} (h:EmA n q xs z e z'):SameS z.S z'.S:=by
 induction h with
 | nil=>exact .refl _
 | skip _ _ ih=>exact ih
 | stop _ _ hs _=>exact hs.same
 | go _ _ hs _ ih=>exact hs.same.trans ih
theorem EmR.same {n:Nat} {q:Qt} {b:Nat} {xs:List Pl2} {z z':Sg} {e:Int} (h:EmR n q b xs z e z'):SameS z.S z'.S:=by
 rcases h with ⟨_,h⟩ | ⟨z1,h,hd⟩
 ·exact h.same
 ·exact h.same.trans (.of hd.1)
theorem ColR.same {n:Nat} {q:Qt} {z z':Sg} {e:Int} (h:ColR n q z e z'):SameS z.S z'.S:=by
 obtain ⟨ss,_,h⟩:=h
 rcases h with ⟨_,_,rfl⟩ | ⟨_,g,b,_,_,_,h⟩
 ·exact .refl _
 ·exact h.same
theorem RoomR.same {n:Nat} {q:Qt} {m:Nat} {z z':Sg} {e:Int} (h:RoomR n q m z e z'):SameS z.S z'.S:=by
 induction h with
 | enough _=>exact .refl _
 | out=>exact .refl _
 | stop _ hc _=>exact hc.same
 | go _ hc _ ih=>exact hc.same.trans ih
theorem PutG.same {n:Nat} {q:Qt} {z z':Sg} {p:Pg} {e:Int} {y:Pl2} (h:PutG n q z p e y z'):SameS z.S z'.S:=by
 rcases h with ⟨_,h⟩ | ⟨z1,h,ha⟩
 ·exact h.same
 ·exact h.same.trans (.of ha.1)
section
variable {n k:Nat} {q:Qt} {z:Sg}
theorem Ay4 (h:WI n k q z) (hk:k≤299999500000) (hq:q.n≤3) (hS:Wa n q z) {c:Cm} :
  Does Tryz.prog 58 [ptr z.S.st,.agg (cmC c).toArray] ((z.S.st,true,C (stC z.S) tSt)::(z.S.ib,true,z.S.idx.obj .i64)::(z.S.pb,true,z.S.pend.obj .i64)::(z.S.sb,true,z.S.stray.obj .i64)::(lgH z.L++[]))
  (fun v H=>∃ (e:Int) (z':Sg),v= .int .i64 e∧H=(z'.S.st,true,C (stC z'.S) tSt)::(z'.S.ib,true,z'.S.idx.obj .i64)::(z'.S.pb,true,z'.S.pend.obj .i64)::(z'.S.sb,true,z'.S.stray.obj .i64)::(lgH z'.L++[])∧z'.S.st=z.S.st∧EndR n q z c e z'∧(e≠30→WI n (k+320080) q z')):=by
 refine zF 72 Tryz.func58 ?_
 refine zC ?_
 refine Do rfl rfl (fun b3=> ?_)
 refine zA ?_
 refine Ae (Ao rfl mM (by first | exact J3 | rfl)) rfl ?_
 refine zE rfl (Alg) ?_
 rintro _ _ ⟨s11,rfl,rfl,hs11,ho11⟩
 refine A6 aQ ?_
 refine Am rfl rfl rfl rfl (fun b12=> ?_)
 refine Ch rfl (Abh (z:=z) h hk hq hS (kind:=11) (s:=s11) (b:=b12) (by rw [hs11,Ju];decide) (by decide) (by rw [hs11];unfold Cv;rw [Ju];rfl)) sP rfl (fun v13 Y13 h13=> ?_)
 obtain ⟨e1,y1,z1,rfl,rfl,hst1,hP,hW⟩:=h13
 rw [hs11] at hP
 have hsm:=hP.same
 rw [← hsm.sb,← hsm.stray]
 refine A6 aQ ?_
 refine zC ?_
 refine Ah rfl (fun b5=> ?_)
 refine zC ?_
 refine Aa rfl (fun c17=> ?_) (fun c17=> ?_)
 ·skip
  have he:e1≠0:=(by simpa using c17)
  refine zC ?_
  exact zL (hR:=by exact ⟨e1,z1,rfl,rfl,hst1,⟨y1,z1,hP,.inl ⟨he,rfl⟩⟩,hW⟩)
 ·skip
  have he:e1=0:=(by simpa using c17)
  subst he
  rw [← hst1]
  refine zC ?_
  refine At [(8,[(0,false),(1,false),(2,false),(3,false),(4,false),(5,false),(6,false),(7,false)]),(9,[(8,true)])] (by kernel_rfl) ?_
  refine zC ?_
  refine zE rfl (Ai3) ?_
  rintro _ _ ⟨m27,rfl,rfl,hO27⟩
  refine zW ?_
  refine I6 rfl mM rfl (fun it32=> ?_)
  refine zC ?_
  refine Ar [0,3,5,32] kQ (fun (st:List Nat×Mp En)=>[]) (fun st=>(it32,true,itO z1.S.ib m27.cl st.1 m27.cl)::(b3,true,C (cmC c) tCm)::(b5,true,C [.int .i64 y1.1,.int .i64 y1.2] tPc)::(z1.S.st,true,C (stC z1.S) tSt)::(z1.S.ib,true,st.2.obj .i64)::(z1.S.pb,true,z1.S.pend.obj .i64)::(z1.S.sb,true,z1.S.stray.obj .i64)::(lgH z1.L++[])) (fun st=>DelI m27 (Bg c.lv) st.1 st.2) (fun st=>Jn m27 st.1) (([],m27)) (DelI.start m27 _) kP sP ?_
  rintro ⟨seen,X⟩ g0
  simp only at g0
  refine zC ?_
  refine Ll rfl (by repeat (first | exact Pick.here | apply Pick.there | apply Pick.app)) mM g0.wc (A6h _) rfl (fun hl33=> ?_) (fun e33 he33 hn33=> ?_)
  ·refine zC ?_
   refine Ay rfl ?_
   refine zC ?_
   refine Ah4 rfl uD ?_
   refine zC ?_
   refine G5 [0,1,2] [[(3,false),(4,false),(5,false),(6,false),(7,true)],[(8,false)],[(9,false)],[(10,true)],[(11,false)],[(12,false)],[(13,true)]] (by kernel_rfl) ?_
   iterate 4 refine sa ?_
   refine Yg [(b3,true,C (cmC c) tCm),(b5,true,C [.int .i64 y1.1,.int .i64 y1.2] tPc)] sP ?_
   refine Aj (Ao rfl mM (by first | exact J3 | rfl)) ?_
   iterate 4 refine sb ?_
   first | refine Ac (cs':=stC { z1.S with last:=c }) rfl rfl uD (L7) (Bj) (M4 z1.S c) ?_ | refine Ac (cs':=stC { z1.S with last:=c,la:=y1 }) rfl rfl uD rfl rfl (Ci (S:={ z1.S with last:=c }) rfl rfl) ?_ | refine Ac (cs':=stC { z1.S with last:=c,la:=y1,hurt:=false }) rfl rfl uD rfl rfl (Ci (S:={ z1.S with last:=c,la:=y1 }) rfl rfl) ?_
   refine zA ?_
   first | refine Ac (cs':=stC { z1.S with last:=c }) rfl rfl uD (L7) (Bj) (M4 z1.S c) ?_ | refine Ac (cs':=stC { z1.S with last:=c,la:=y1 }) rfl rfl uD rfl rfl (Ci (S:={ z1.S with last:=c }) rfl rfl) ?_ | refine Ac (cs':=stC { z1.S with last:=c,la:=y1,hurt:=false }) rfl rfl uD rfl rfl (Ci (S:={ z1.S with last:=c,la:=y1 }) rfl rfl) ?_
   refine zA ?_
   first | refine Ac (cs':=stC { z1.S with last:=c }) rfl rfl uD (L7) (Bj) (M4 z1.S c) ?_ | refine Ac (cs':=stC { z1.S with last:=c,la:=y1 }) rfl rfl uD rfl rfl (Ci (S:={ z1.S with last:=c }) rfl rfl) ?_ | refine Ac (cs':=stC { z1.S with last:=c,la:=y1,hurt:=false }) rfl rfl uD rfl rfl (Ci (S:={ z1.S with last:=c,la:=y1 }) rfl rfl) ?_
   refine zC ?_
   refine At [(10,[(0,false),(1,false),(2,false),(3,false),(4,false),(5,false),(6,false),(7,false),(8,false),(9,false)]),(11,[(10,true)])] (by kernel_rfl) ?_
   refine zA ?_
   refine Aj (show Rd _ _ _ _ (wv z1.S.seen) from Al rfl mM (Gj (S:={ z1.S with last:=c,la:=y1,hurt:=false }) (o:=8) rfl)) ?_
   iterate 2 refine sb ?_
   refine Aj (Pc rfl rfl) ?_
   refine zA ?_
   refine Ac (cs':=stC { z1.S with last:=c,la:=y1,hurt:=false,seen:=Jj z1.S.seen c.ep }) rfl rfl uD rfl rfl (Ci (S:={ z1.S with last:=c,la:=y1,hurt:=false }) rfl rfl) ?_
   refine zC ?_
   exact zL (hR:=by exact ⟨0,{ z1 with S:=Ave z1.S c y1 X },rfl,rfl,rfl,⟨y1,z1,hP,.inr ⟨rfl,X,fun k=>by rw [(g0.only hl33) k,hO27 k],rfl⟩⟩,fun h9=>⟨(hW (by decide)).1,(hW (by decide)).2⟩⟩)
  ·refine zC ?_
   have hem:=g0.sub e33 he33
   refine zC ?_
   refine Es rfl ?_
   refine zC ?_
   refine Ae (I7 rfl mM mM he33) rfl ?_
   refine zA ?_
   refine Ae (Ao rfl mM (V0 c)) rfl ?_
   refine zC ?_
   refine zI rfl (Vz) ?_
   refine zC ?_
   refine Aa rfl (fun c41=> ?_) (fun c41=> ?_)
   ·skip
    have hp:Bg c.lv e33.k=false:=(by simpa using c41)
    refine zC ?_
    refine Aw4 rfl rfl uD ?_
    refine zC ?_
    rw [g0.cl]
    first | exact ⟨(seen++[e33.n],X.del e33.k),g0.del hem hp,C6 hem hn33,lZ⟩ | exact ⟨(seen++[e33.n],X),g0.skip hem hp,C6 hem hn33,lZ⟩
   ·skip
    have hp:Bg c.lv e33.k=true:=(by simpa using c41)
    refine zC ?_
    rw [g0.cl]
    first | exact ⟨(seen++[e33.n],X.del e33.k),g0.del hem hp,C6 hem hn33,lZ⟩ | exact ⟨(seen++[e33.n],X),g0.skip hem hp,C6 hem hn33,lZ⟩
end
end
section
open Go.K
variable {T:TypeId}
instance zv124:ZerV Tryz.prog 124 (.agg #[.int .i64 0,.int .i64 0,.int .u64 0]):=⟨by kernel_rfl⟩
theorem Alo {α:Type} [Mv α] {P:Program} {E:Env} {H:Hp} {t kt et:TypeId} {x y:Operand} {kd:IntKind} {b:Nat} {m:Mp α} {k:Int} {z:Value} {r:Bool} [ht:Und P t (.map kt et)] [hk:Und P kt (.int kd)] [hz:ZerV P et z]
  (hx:ev E x=some (.map (some b))) (hy:ev E y=some (.int kd k)) (hm:(b,r,m.obj kd)∈H) (hg:m.get k=none):Rd P E H (.lookup t x y true) (.tuple #[z,.bool false]):=by
 have:=Rp (P:=P) (t:=t) (kt:=kt) (et:=et) (z:=z) hx hy hm
 rw [hg] at this
 exact this
theorem Agv {α:Type} [Mv α] {P:Program} {E:Env} {H:Hp} {t kt et:TypeId} {x y:Operand} {kd:IntKind} {b:Nat} {m:Mp α} {k:Int} {z:Value} {r:Bool} {v:α} [ht:Und P t (.map kt et)] [hk:Und P kt (.int kd)] [hz:ZerV P et z]
  (hx:ev E x=some (.map (some b))) (hy:ev E y=some (.int kd k)) (hm:(b,r,m.obj kd)∈H) (hg:m.get k=some v):Rd P E H (.lookup t x y true) (.tuple #[Mv.enc v,.bool true]):=by
 have:=Rp (P:=P) (t:=t) (kt:=kt) (et:=et) (z:=z) hx hy hm
 rw [hg] at this
 exact this
theorem Ze (k:Int) (e:Wd) (b:List By):(E5 k e b).length=9+b.length:=by
 unfold E5
 simp [A4]
 omega
theorem K5 {k:Int} {e:Wd} {b:List By} (h:A9 k b=true):Ad0 (E5 k e b)=true∧Zc (E5 k e b)=k∧Apz (E5 k e b)=e∧(E5 k e b).drop 9=b∧Cv 10 (E5 k e b)=false:=by
 unfold A9 at h
 simp only [A4k,A4f] at h
 obtain ⟨m,rfl,hm⟩:=Dc h.1
 have hl:=Ze (m:Int) e b
 have e1:(E5 (m:Int) e b).take 1=Bz 1 (BitVec.ofInt 64 (m:Int)):=by
  unfold E5
  exact A5e (A4 ..)
 have e2:(E5 (m:Int) e b).drop 1=Bz 8 e++(b++[]):=by
  unfold E5
  grind
 refine ⟨?_,?_,?_,?_,?_⟩
 ·unfold Ad0;rw [hl];simp;omega
 ·unfold Zc;rw [e1,Adv hm]
 ·unfold Apz;rw [e2,A5e (A4 ..),Kz]
 ·rw [show 9=1+8 from rfl,← A5k,e2,A44 (A4 ..),A42]
 ·unfold Cv;rw [hl];simp;omega
abbrev Cz (T:TypeId):K.Blk:=(0,false,C [.int .i64 (-1),.int .i64 (-1)] T)
section
variable {n k:Nat} {q:Qt} {z:Sg}
theorem Alp {key:Int} (hg:z.S.idx.get key=none):Does Tryz.prog 19 [ptr z.S.st,.int .i64 key] ((z.S.st,true,C (stC z.S) tSt)::(z.S.ib,true,z.S.idx.obj .i64)::(z.S.pb,true,z.S.pend.obj .i64)::[])
  (Is (.tuple #[.agg (ndC ⟨0,0,.nil⟩).toArray,.int .i64 0,.int .i64 61]) ((z.S.st,true,C (stC z.S) tSt)::(z.S.ib,true,z.S.idx.obj .i64)::(z.S.pb,true,z.S.pend.obj .i64)::[])):=by
 refine zF 74 Tryz.func19 ?_
 refine zC ?_
 refine Ah rfl (fun b4=> ?_)
 refine zC ?_
 refine Ae (Alo rfl rfl mM hg) rfl ?_
 refine zC ?_
 refine Ah rfl (fun b7=> ?_)
 refine zC ?_
 refine Es rfl ?_
 refine zC ?_
 exact zS
theorem Zf (h:WI n k q z) {key:Int} {e:En} {bd:List By} (hg:z.S.idx.get key=some e) (hr:RecAt z e.at' (Cj 10 (E5 key e.ep bd))) (hok:A9 key bd=true):Does Tryz.prog 19 [ptr z.S.st,.int .i64 key] (Cz T::(z.S.st,true,C (stC z.S) tSt)::(z.S.ib,true,z.S.idx.obj .i64)::(z.S.pb,true,z.S.pend.obj .i64)::(lgH z.L++[]))
  (fun v H=>∃ s:Sl By,v= .tuple #[.agg (ndC ⟨key,e.ep,s⟩).toArray,.int .i64 0,.int .i64 0]∧H=s.hp tU8++(Cz T::(z.S.st,true,C (stC z.S) tSt)::(z.S.ib,true,z.S.idx.obj .i64)::(z.S.pb,true,z.S.pend.obj .i64)::(lgH z.L++[]))∧s.list=bd∧s.isOwn=true):=by
 obtain ⟨hn1,hn2,hn3,hn4,hn5⟩:=K5 (e:=e.ep) hok
 obtain ⟨at0,ep⟩:=e
 obtain ⟨b,j,rfl,hb,hp⟩:=hr
 obtain ⟨V,hZ⟩:=h.2
 have hpl:plB ((b:Int),((2+j:Nat):Int)) (-1,-1)=false:=by
  unfold plB
  simp
 refine zF 74 Tryz.func19 ?_
 refine zC ?_
 refine Ah rfl (fun b4=> ?_)
 refine zC ?_
 refine Ae (Agv rfl rfl mM hg) rfl ?_
 refine zC ?_
 refine Ah rfl (fun b7=> ?_)
 refine zC ?_
 refine Ay rfl ?_
 iterate 8 refine sb ?_
 refine Ae (show Rd _ _ _ _ (.bool false) from by (rw [← hpl];exact Or rfl rfl (V4 ((b:Int),((2+j:Nat):Int)) (-1,-1)))) rfl ?_
 refine zC ?_
 refine Ay rfl ?_
 refine zC ?_
 refine At [(6,[(0,false),(1,false),(2,false),(3,false),(4,false),(5,false)]),(7,[(6,true)]),(16,[(7,false),(8,false),(9,false),(10,false),(11,false),(12,false),(13,false),(14,false),(15,false)])] (by kernel_rfl) ?_
 refine zA ?_
 refine Aj (show Rd _ _ _ _ (ptr z.L.lg) from by rw [← h.1];exact Al rfl mM rfl) ?_
 refine zC ?_
 refine zE rfl (Qq hZ hb hp (by decide) hn5) ?_
 rintro _ _ ⟨s38,rfl,rfl,hs38,ho38⟩
 refine zW ?_
 refine Ay rfl ?_
 refine zC ?_
 refine Ch rfl (Ad1 (s:=s38) (T:=tU8)) sP rfl (fun v49 Y49 h49=> ?_)
 rw [hs38] at h49
 obtain ⟨_,b49,rfl,rfl,hl49,ho49⟩:=h49.resolve_left (fun h9=>by rw [hn1] at h9;grind)
 rw [hn2,hn3]
 rw [hn4] at hl49
 refine A6 aQ ?_
 refine zC ?_
 refine Ah rfl (fun b13=> ?_)
 refine zC ?_
 refine Aa rfl (fun c70=> ?_) (fun c70=> ?_)
 ·skip
  try (exfalso;grind)
  all_goals
   refine zC ?_
   exact zL (hR:=by exact ⟨b49,rfl,rfl,hl49,ho49⟩)
 ·skip
  refine zC ?_
  exact zL (hR:=by exact ⟨b49,rfl,rfl,hl49,ho49⟩)
end
end
section
open Go.K
instance und103:Und Tryz.prog 103 (.slice 40):=⟨Tryz.underlying103⟩
@[irreducible] def C8 (l:List Nd):Hp:=l.flatMap fun x=>x.body.hp tU8
theorem Aqo {l:List Nd} {i:Nat} {x:Nd} (h:l[i]? =some x) (D:Hp):C8 l++D=C8 (l.take i)++(x.body.hp tU8++(C8 (l.drop (i+1))++D)):=by
 obtain ⟨h1,h2⟩:=List.getElem?_eq_some_iff.1 h
 have e:l=l.take i++x::l.drop (i+1):=by
  conv=>lhs;rw [← A23 i l,A2d h1,h2]
 unfold C8
 grind
abbrev N3:=Int×Wd×List By
def nd3 (x:Nd):N3:=(x.key,x.ep,x.body.list)
def wr1 (z:Sg) (k:Int) (e:Wd):Sg:={ z with S:={ z.S with stray:=z.S.stray.put k 1,seen:=Jj z.S.seen e } }
def wr2 (z:Sg) (k:Int) (e:Wd) (y:Pl2):Sg:={ z with S:={ z.S with pend:=z.S.pend.put k ⟨y,e⟩ } }
inductive WrR (n:Nat) (q:Qt):List N3→Sg→Int→Sg→Prop
 | nil {z:Sg}:WrR n q [] z 0 z
 | stop {k:Int} {e:Wd} {b:List By} {xs:List N3} {z z1:Sg} {er:Int} {y:Pl2}:A9 k b=true→PutG n q (wr1 z k e) (Cj 10 (E5 k e b)) er y z1→er≠0→WrR n q ((k,e,b)::xs) z er z1
 | go {k:Int} {e:Wd} {b:List By} {xs:List N3} {z z1 z':Sg} {er:Int} {y:Pl2}:A9 k b=true→PutG n q (wr1 z k e) (Cj 10 (E5 k e b)) 0 y z1→WrR n q xs (wr2 z1 k e y) er z'→WrR n q ((k,e,b)::xs) z er z'
theorem WrR.app {n:Nat} {q:Qt} {xs ys:List N3} {z z1 z':Sg} {e0 e:Int} (h:WrR n q xs z e0 z1) (h0:e0=0) (h2:WrR n q ys z1 e z'):WrR n q (xs++ys) z e z':=by
 induction h with
 | nil=>exact h2
 | stop _ _ h3=>omega
 | go a b _ ih=>exact .go a b (ih h0 h2)
section
variable {n k:Nat} {q:Qt} {z:Sg}
theorem Alq (h:WI n k q z) {nds:Sl Nd} (hln:nds.list.length≤300) (hk:k≤299000000000) (hq:q.n≤3)
  (hS:∀ i z1 x,WrR n q ((nds.list.take i).map nd3) z 0 z1→nds.list[i]? =some x→A9 x.key x.body.list=true→Wa n q (wr1 z1 x.key x.ep)) (hok:∀ x∈nds.list,A9 x.key x.body.list=true) :
  Does Tryz.prog 57 [ptr z.S.st,nds.val] ((z.S.st,true,C (stC z.S) tSt)::(z.S.ib,true,z.S.idx.obj .i64)::(z.S.pb,true,z.S.pend.obj .i64)::(z.S.sb,true,z.S.stray.obj .i64)::(lgH z.L++(nds.hp tNd++(C8 nds.list++[]))))
  (fun v H=>∃ (e:Int) (z':Sg),v= .int .i64 e∧H=(z'.S.st,true,C (stC z'.S) tSt)::(z'.S.ib,true,z'.S.idx.obj .i64)::(z'.S.pb,true,z'.S.pend.obj .i64)::(z'.S.sb,true,z'.S.stray.obj .i64)::(lgH z'.L++[])∧z'.S.st=z.S.st∧WrR n q (nds.list.map nd3) z e z'∧(e≠30→WI n (k+320080*nds.list.length) q z')):=by
 have hsm:=nds.small
 refine zF 61 Tryz.func57 ?_
 refine zC ?_
 refine Ar [0,10,11] kQ (fun (st:Nat×Sg)=>[(12,.int .i64 st.1)]) (fun st=>(st.2.S.st,true,C (stC st.2.S) tSt)::(st.2.S.ib,true,st.2.S.idx.obj .i64)::(st.2.S.pb,true,st.2.S.pend.obj .i64)::(st.2.S.sb,true,st.2.S.stray.obj .i64)::(lgH st.2.L++(nds.hp tNd++(C8 nds.list++[])))) (fun st=>st.1≤nds.list.length∧WI n (k+320080*st.1) q st.2∧st.2.S.st=z.S.st∧WrR n q ((nds.list.take st.1).map nd3) z 0 st.2) (fun st=>nds.list.length - st.1) ((0,z)) ⟨A6j _,h.mono (by omega),rfl,.nil⟩ kP sP ?_
 rintro ⟨i,z1⟩ ⟨g0,g1,g2,g3⟩
 simp only at g0 g1 g2 g3
 rw [← g2]
 refine zC ?_
 refine Aa rfl (fun c13=> ?_) (fun c13=> ?_)
 ·simp only [A4f,A2m] at c13
  obtain ⟨x,hgx⟩:∃ x,nds.list[i]? =some x:=⟨_,A2i (by omega)⟩
  have htk:(nds.list.take (i+1)).map nd3=(nds.list.take i).map nd3++[nd3 x]:=(by rw [A4d,hgx,A48];rfl)
  have hall:∀ e z',WrR n q [nd3 x] z1 e z'→e≠0→WrR n q (nds.list.map nd3) z e z':=(fun e z' h1 h2=>by have h3:nds.list.map nd3=(nds.list.take i).map nd3++nd3 x::(nds.list.drop (i+1)).map nd3:=(by obtain ⟨h7,h8⟩:=List.getElem?_eq_some_iff.1 hgx;conv=>lhs;rw [← A23 i nds.list,A2d h7,h8];rw [A48,A5x]);rw [h3];refine g3.app rfl ?_;cases h1 with | stop a b c=>exact .stop a b c | go a b c=>(cases c;omega))
  refine zA ?_
  refine Ae (Az (s:=nds) rfl rfl (by omega)) rfl ?_
  refine Ae (Cq (s:=nds) (o:=0) rfl pL hgx rfl rfl) rfl ?_
  refine Ah rfl (fun b6=> ?_)
  refine zC ?_
  rw [Aqo hgx]
  have hox:=hok x (A3b hgx)
  refine Ch rfl (Zb (n:=x)) sP rfl (fun v18 Y18 h18=> ?_)
  obtain ⟨_,s18,rfl,rfl,hs18,ho18⟩:=h18.resolve_left (fun h9=>by rw [hox] at h9;grind)
  refine A6 aQ ?_
  refine zC ?_
  refine Ay rfl ?_
  refine zC ?_
  refine At [(6,[(0,false),(1,false),(2,false),(3,false),(4,false),(5,false)]),(7,[(6,true)])] (by kernel_rfl) ?_
  refine zC ?_
  refine Ya (m:=z1.S.stray) (v:=(1:Int)) (kd:= .i64) rfl rfl rfl uD ?_
  refine zC ?_
  refine At [(10,[(0,false),(1,false),(2,false),(3,false),(4,false),(5,false),(6,false),(7,false),(8,false),(9,false)]),(11,[(10,true)])] (by kernel_rfl) ?_
  refine zA ?_
  refine Aj (show Rd _ _ _ _ (wv z1.S.seen) from Al rfl mM (Gj (S:=z1.S) (o:=8) rfl)) ?_
  iterate 2 refine sb ?_
  refine Aj (Pc rfl rfl) ?_
  refine zA ?_
  refine Ac (cs':=stC (wr1 z1 x.key x.ep).S) rfl rfl uD rfl rfl (Ci (S:=z1.S) rfl rfl) ?_
  refine zC ?_
  refine Am rfl rfl rfl rfl (fun b43=> ?_)
  refine Ch rfl (Abh (z:=wr1 z1 x.key x.ep) (k:=k+320080*i) ⟨g1.1,g1.2⟩ (by omega) hq (hS i z1 x g3 hgx hox) (kind:=10) (s:=s18) (b:=b43) (by rw [hs18,Ze];unfold A9 at hox;grind) (by decide) (by rw [hs18];exact (K5 hox).2.2.2.2)) sP rfl (fun v44 Y44 h44=> ?_)
  obtain ⟨e2,y2,z2,rfl,rfl,hst2,hP,hW2⟩:=h44
  rw [hs18] at hP
  have hst2':z2.S.st=z1.S.st:=hst2
  have hsb:z2.S.sb=z1.S.sb:=hP.same.sb
  have hstr:z2.S.stray=z1.S.stray.put x.key 1:=hP.same.stray
  rw [← hsb,← hstr]
  refine A6 aQ ?_
  refine zC ?_
  refine Ah rfl (fun b9=> ?_)
  refine zC ?_
  refine Aa rfl (fun c48=> ?_) (fun c48=> ?_)
  ·skip
   have he:e2≠0:=(by grind)
   refine zC ?_
   exact zL (hR:=by exact ⟨e2,z2,rfl,rfl,hst2',hall _ _ (.stop hox hP he) he,fun h9=>(hW2 h9).mono (by omega)⟩)
  ·skip
   have he:e2=0:=(by grind)
   subst he
   rw [← hst2']
   refine zC ?_
   refine At [(10,[(0,false),(1,false),(2,false),(3,false),(4,false),(5,false),(6,false),(7,false),(8,false),(9,false)]),(11,[(10,true)])] (by kernel_rfl) ?_
   iterate 10 refine sb ?_
   refine Aj (Db rfl rfl) ?_
   refine zC ?_
   refine Ya (m:=z2.S.pend) (v:=(⟨y2,x.ep⟩:En)) (kd:= .i64) rfl rfl rfl uD ?_
   refine zC ?_
   exact ⟨(i+1,wr2 z2 x.key x.ep y2),⟨by omega,⟨(hW2 (by decide)).1,((hW2 (by decide)).mono (by omega)).2⟩,rfl,by simp only;rw [htk];exact g3.app rfl (.go hox hP .nil)⟩,by omega,lZ⟩
 ·simp only [A4f,A2m] at c13
  have hi:i=nds.list.length:=(by omega)
  subst hi
  rw [A4u] at g3
  refine zC ?_
  exact zL (hR:=by exact ⟨0,z1,rfl,rfl,rfl,g3,fun _=>g1⟩)
end
end
section
open Go.K
instance zer31:Zer Tryz.prog 31 ([.int .u64 0,.int .i64 0,.int .u64 0]):=⟨by kernel_rfl⟩
instance fld67_6:Fld Tryz.prog 67 6 40:=⟨⟨_,_,2,Tryz.underlying67,rfl,by kernel_rfl,rfl⟩⟩
def vwM (v:Vw):Vw:={ v with mem:=Em .and .i64 v.mem 255 }
def Aw9 (n:Nat) (q:Qt) (z:Sg) (v:Vw) (e:Int) (z':Sg):Prop :=
 ∃ y z1,PutG n q z (Cj 12 (L8 v)) e y z1∧z'=if (decide (e=0) && (!z1.S.viewed || decide (z1.S.vw.num.toNat≤v.num.toNat)))=true then { z1 with S:={ z1.S with vw:=vwM v,va:=y,viewed:=true } } else z1
theorem Nm (v:Vw):(L8 v).length=17:=by
 unfold L8
 simp [A4]
section
variable {n k:Nat} {q:Qt} {z:Sg} {S:Sto}
theorem Avf (h:WI n k q z) (hk:k≤299999500000) (hq:q.n≤3) (hS:Wa n q z) {v:Vw} :
  Does Tryz.prog 29 [ptr z.S.st,.agg (vwC v).toArray] ((z.S.st,true,C (stC z.S) tSt)::(z.S.ib,true,z.S.idx.obj .i64)::(z.S.pb,true,z.S.pend.obj .i64)::(lgH z.L++[]))
  (fun w H=>∃ (e:Int) (z':Sg),w= .int .i64 e∧H=(z'.S.st,true,C (stC z'.S) tSt)::(z'.S.ib,true,z'.S.idx.obj .i64)::(z'.S.pb,true,z'.S.pend.obj .i64)::(lgH z'.L++[])∧z'.S.st=z.S.st∧Aw9 n q z v e z'∧(e≠30→WI n (k+320080) q z')):=by
 refine zF 50 Tryz.func29 ?_
 refine zC ?_
 refine Cy rfl rfl (fun b3=> ?_)
 refine zC ?_
 refine zE rfl (Ap4) ?_
 rintro _ _ ⟨s10,rfl,rfl,hs10,ho10⟩
 refine A6 aQ ?_
 refine Am rfl rfl rfl rfl (fun b11=> ?_)
 refine Ch rfl (Abh (z:=z) h hk hq hS (kind:=12) (s:=s10) (b:=b11) (by rw [hs10,Nm];decide) (by decide) (by rw [hs10];unfold Cv;rw [Nm];rfl)) sP rfl (fun v12 Y12 h12=> ?_)
 obtain ⟨e1,y1,z1,rfl,rfl,hst1,hP,hW⟩:=h12
 rw [hs10] at hP
 have hdc:decide ((v.num.toNat:Int)≥(z1.S.vw.num.toNat:Int))=decide (z1.S.vw.num.toNat≤v.num.toNat):=A4x.2 (by omega)
 rw [← hst1]
 refine A6 aQ ?_
 refine zC ?_
 refine Ah rfl (fun b5=> ?_)
 refine zC ?_
 refine At [(19,[(0,false),(1,false),(2,false),(3,false),(4,false),(5,false),(6,false),(7,false),(8,false),(9,false),(10,false),(11,false),(12,false),(13,false),(14,false),(15,false),(16,false),(17,false),(18,false)])] (by kernel_rfl) ?_
 iterate 4 refine sb ?_
 refine' Fe rfl rfl inferInstance rfl rfl rfl rfl rfl (fun hg17=> ?_) ?_
 rotate_left
 ·try (simp at hg17;show _)
  refine zA ?_
  refine Aj (Al rfl mM (Gj rfl)) ?_
  refine zA ?_
  refine Aj (D5 rfl) ?_
  iterate 2 refine sa ?_
  refine' Lz rfl rfl inferInstance rfl rfl rfl rfl rfl (fun hg23=> ?_) ?_
  rotate_left
  ·try (simp at hg23;show _)
   iterate 13 refine sb ?_
   refine Aj (show Rd _ _ _ _ (wv z1.S.vw.num) from Al rfl mM (Gj (S:=z1.S) (o:=2) rfl)) ?_
   refine zC ?_
   exact D9 rfl sP
  exact D9 rfl sP
 refine zC ?_
 refine Aa rfl (fun c33=> ?_) (fun c33=> ?_)
 ·skip
  have hc:(decide (e1=0) && (!z1.S.viewed || decide (z1.S.vw.num.toNat≤v.num.toNat)))=true:=(by rw [← hdc];exact c33)
  refine zC ?_
  refine G5 [0,1,2] [[(3,false),(4,false),(5,false),(6,false),(7,true)],[(8,false)],[(9,false)],[(10,true)],[(11,false)],[(12,false)],[(13,true)]] (by kernel_rfl) ?_
  iterate 4 refine sa ?_
  refine Yg [(b3,true,C [wv v.num,.int .i64 (Em .and .i64 v.mem 255),wv v.base] tVw),(b5,true,C [.int .i64 y1.1,.int .i64 y1.2] tPc)] sP ?_
  iterate 5 refine sb ?_
  first | refine Ac (cs':=stC { z1.S with vw:=vwM v }) rfl rfl uD rfl rfl (Ci (S:=z1.S) (o:=2) rfl rfl) ?_ | refine Ac (cs':=stC { z1.S with vw:=vwM v,va:=y1 }) rfl rfl uD rfl rfl (Ci (S:={ z1.S with vw:=vwM v }) (o:=5) rfl rfl) ?_ | refine Ac (cs':=stC { z1.S with vw:=vwM v,va:=y1,viewed:=true }) rfl rfl uD rfl rfl (Ci (S:={ z1.S with vw:=vwM v,va:=y1 }) (o:=7) rfl rfl) ?_
  refine zA ?_
  first | refine Ac (cs':=stC { z1.S with vw:=vwM v }) rfl rfl uD rfl rfl (Ci (S:=z1.S) (o:=2) rfl rfl) ?_ | refine Ac (cs':=stC { z1.S with vw:=vwM v,va:=y1 }) rfl rfl uD rfl rfl (Ci (S:={ z1.S with vw:=vwM v }) (o:=5) rfl rfl) ?_ | refine Ac (cs':=stC { z1.S with vw:=vwM v,va:=y1,viewed:=true }) rfl rfl uD rfl rfl (Ci (S:={ z1.S with vw:=vwM v,va:=y1 }) (o:=7) rfl rfl) ?_
  refine zA ?_
  first | refine Ac (cs':=stC { z1.S with vw:=vwM v }) rfl rfl uD rfl rfl (Ci (S:=z1.S) (o:=2) rfl rfl) ?_ | refine Ac (cs':=stC { z1.S with vw:=vwM v,va:=y1 }) rfl rfl uD rfl rfl (Ci (S:={ z1.S with vw:=vwM v }) (o:=5) rfl rfl) ?_ | refine Ac (cs':=stC { z1.S with vw:=vwM v,va:=y1,viewed:=true }) rfl rfl uD rfl rfl (Ci (S:={ z1.S with vw:=vwM v,va:=y1 }) (o:=7) rfl rfl) ?_
  refine zC ?_
  exact zL (hR:=by exact ⟨e1,{ z1 with S:={ z1.S with vw:=vwM v,va:=y1,viewed:=true } },rfl,rfl,rfl,⟨y1,z1,hP,by rw [A6v hc]⟩,fun h9=>⟨(hW h9).1,(hW h9).2⟩⟩)
 ·skip
  have hc:(decide (e1=0) && (!z1.S.viewed || decide (z1.S.vw.num.toNat≤v.num.toNat)))=false:=(by rw [← hdc];exact c33)
  refine zC ?_
  exact zL (hR:=by exact ⟨e1,z1,rfl,rfl,rfl,⟨y1,z1,hP,by rw [A6u (by rw [hc];decide)]⟩,hW⟩)
theorem Qs:Does Tryz.prog 22 [ptr S.st] [(S.st,true,C (stC S) tSt)] (Is (wv S.last.ep) [(S.st,true,C (stC S) tSt)]):=by
 refine zF 8 Tryz.func22 ?_
 refine zC ?_
 exact zS
theorem Tz:Does Tryz.prog 20 [ptr S.st] [(S.st,true,C (stC S) tSt)] (Is (wv S.seen) [(S.st,true,C (stC S) tSt)]):=by
 refine zF 7 Tryz.func20 ?_
 refine zA ?_
 refine Ae (show Rd _ _ _ _ (wv S.seen) from Al rfl mM (Gj (S:=S) (o:=8) rfl)) rfl ?_
 refine zC ?_
 exact zS
theorem Aqp:Does Tryz.prog 27 [ptr S.st] [(S.st,true,C (stC S) tSt)] (Is (.bool (!S.hurt)) [(S.st,true,C (stC S) tSt)]):=by
 refine zF 8 Tryz.func27 ?_
 refine zA ?_
 refine Ae (Al rfl mM (Gj rfl)) rfl ?_
 refine zC ?_
 exact zS
theorem Avg:Does Tryz.prog 30 [ptr S.st] [(S.st,true,C (stC S) tSt)] (Is (.tuple #[.agg (vwC S.vw).toArray,.bool S.viewed]) [(S.st,true,C (stC S) tSt)]):=by
 refine zF 12 Tryz.func30 ?_
 refine zC ?_
 refine Ah rfl (fun b2=> ?_)
 refine zC ?_
 refine G5 [0,1,2,4,5,6] [[(3,false),(7,false),(8,true)],[(9,false)]] (by kernel_rfl) ?_
 iterate 7 refine sa ?_
 refine Yg [(S.st,true,C (stC S) tSt)] sP ?_
 refine Aj (Ao rfl mM (M3 rfl)) ?_
 refine Aj (Al rfl mM (Gj rfl)) ?_
 refine zC ?_
 exact zS
theorem Avh:Does Tryz.prog 23 [ptr S.st] [(S.st,true,C (stC S) tSt)] (Is (.agg (cmC S.last).toArray) [(S.st,true,C (stC S) tSt)]):=by
 refine zF 7 Tryz.func23 ?_
 refine zC ?_
 refine Ah rfl (fun b2=> ?_)
 refine Pl (G:=(b2,true,C (cmC cm0) tCm)::[(S.st,true,C (stC S) tSt)]) (by rw [← Abc];rfl) ?_
 refine zA ?_
 refine Ae (Ao rfl mM (A04 S)) rfl ?_
 first | refine Ac rfl rfl uD (L7) (Bj) (Oz (by first | exact Bj | exact A20 ..)) ?_ | refine Ac rfl rfl uD rfl rfl rfl ?_
 refine zC ?_
 refine Ak (Aw Tryz.results23 (Bc rfl mM (by first | exact J3 | rfl))) ?_ sP
 rfl
theorem Aeb:Does Tryz.prog 28 [ptr S.st] [(S.st,true,C (stC S) tSt)] (Is (.agg (vbc S.last.lv).toArray) [(S.st,true,C (stC S) tSt)]):=by
 refine zF 8 Tryz.func28 ?_
 refine zC ?_
 refine Ah rfl (fun b2=> ?_)
 refine zA ?_
 refine Ae (Ao rfl mM (Aiw S)) rfl ?_
 first | refine Ac rfl rfl uD (B9) (Ai) (Bi (by grind)) ?_ | refine Ac rfl rfl uD rfl rfl rfl ?_
 refine zC ?_
 refine Ak (Aw Tryz.results28 (Bc rfl mM (by first | exact Ax | rfl))) ?_ sP
 rfl
theorem Aec (h:WI n k q z):Does Tryz.prog 25 [ptr z.S.st] ((z.S.st,true,C (stC z.S) tSt)::(lgH z.L++[])) (Is (.int .i64 (In z.L.nb)) ((z.S.st,true,C (stC z.S) tSt)::(lgH z.L++[]))):=by
 have hul:=h.2.choose_spec.ulen
 refine zF 12 Tryz.func25 ?_
 refine zA ?_
 refine Ae (show Rd _ _ _ _ (ptr z.L.lg) from by rw [← h.1];exact Al rfl mM rfl) rfl ?_
 refine zA ?_
 refine Ae (M6 rfl pL) rfl ?_
 refine zI rfl ((Aqg (L:=z.L)).to (by rw [hul]) rfl) ?_
 refine zI rfl (Ap7) ?_
 refine zC ?_
 exact zS
end
end
section
open Go.K
abbrev tIS:TypeId:=85
abbrev tMI:TypeId:=63
abbrev tMJ:TypeId:=62
structure KII (m:Mp Int) (b2:Nat) (seen:List Nat) (X:Hp):Prop where
 ex:∃ (out:Sl Int) (es:List (Me Int)),X=(b2,true,C [out.val] tIS)::(out.hp tI++[])∧out.isOwn=true∧es.map (·.n)=seen∧out.list=es.map (·.k)∧∀ e∈es,e∈m.es
 nd:seen.Nodup
 le:seen.length+Jn m seen≤m.es.length
theorem Aqq {I:List Nat→Hp→Prop} {l f0 D:Nat} {tm:Array Value} {ps:Array Tmp} {sg bd:Code} {X0:Hp} {bp bm:Nat} {m:Mp Int} (hps:ps.size=1) (h0:I [] X0)
  (hrnd:∀ seen X (e:Me Int),e∈m.es→e.n∉seen→I seen X→Rnd Tryz.prog l f0 (Gc ⟨.ready,none,f0,tm,ps,sg,bd,D⟩ [.int .i64 e.k]) sg bd ((l,true,.loop ⟨.ready,none,f0,tm,ps,sg,bd,D⟩)::(bp,true,C [.map (some bm)] tMI)::(bm,true,m.obj .i64)::(X++[]))
   (fun v Y=>v= .bool true∧∃ X',Y=(l,true,.loop ⟨.ready,none,f0,tm,ps,sg,bd,D⟩)::(bp,true,C [.map (some bm)] tMI)::(bm,true,m.obj .i64)::(X'++[])∧I (seen++[e.n]) X')) :
  Does Tryz.prog 136 [.func (.yield l) #[] #[],ptr bp] ((l,true,.loop ⟨.ready,none,f0,tm,ps,sg,bd,D⟩)::(bp,true,C [.map (some bm)] tMI)::(bm,true,m.obj .i64)::(X0++[]))
   (fun v Y=>v= .tuple #[]∧∃ X seen,Y=(l,true,.loop ⟨.ready,none,f0,tm,ps,sg,bd,D⟩)::(bp,true,C [.map (some bm)] tMI)::(bm,true,m.obj .i64)::(X++[])∧I seen X∧∀ e∈m.es,e.n∈seen):=by
 refine zF 14 Tryz.func136 ?_
 refine zC ?_
 refine I6 (m:=m) (kd:= .i64) rfl mM rfl (fun it5=> ?_)
 refine zC ?_
 refine Ar [0,5] kQ (fun (st:List Nat×Hp)=>[]) (fun st=>(it5,true,itO bm m.cl st.1 m.cl)::(l,true,.loop ⟨.ready,none,f0,tm,ps,sg,bd,D⟩)::(bp,true,C [.map (some bm)] tMI)::(bm,true,m.obj .i64)::(st.2++[])) (fun st=>I st.1 st.2) (fun st=>Jn m st.1) (([],X0)) h0 kP sP ?_
 rintro ⟨seen,X⟩ gI
 simp only at gI
 refine zC ?_
 refine Ll rfl (by repeat (first | exact Pick.here | apply Pick.there | apply Pick.app)) mM (Mp.wc _) (A6h _) rfl (fun hl6=> ?_) (fun e6 he6 hn6=> ?_)
 ·refine zC ?_
  refine Ay rfl ?_
  refine zC ?_
  exact zLN (hR:=by exact ⟨rfl,X,seen,rfl,gI,Iv hl6⟩)
 ·refine zC ?_
  refine Es rfl ?_
  refine zC ?_
  refine Ae (I7 rfl mM mM he6) rfl ?_
  iterate 5 refine sa ?_
  refine Rn [] rfl (fun ops y=>Mr 2 ?_)
  refine oM rfl<|oM rfl<|Ag ⟨rfl,?_⟩
  refine Aag (r:=⟨.ready,none,f0,tm,ps,sg,bd,D⟩) y rfl rfl rfl (by simp [hps]) sP (hrnd seen X e6 he6 hn6 gI) rfl ?_
  rintro v L' ⟨rfl,X',rfl,gI'⟩
  simp only [A4n,A34,A5b]
  refine Mr 1 ?_
  refine oR (D5 rfl)<|Ag ⟨rfl,Ah0<|n_K ?_⟩
  refine Ay rfl<|Cg<|Eh<|n_K ?_
  exact ⟨(seen++[e6.n],X'),gI',C6 he6 hn6,lZ⟩
structure KIJ (m:Mp En) (b2:Nat) (seen:List Nat) (X:Hp):Prop where
 ex:∃ (out:Sl Int) (es:List (Me En)),X=(b2,true,C [out.val] tIS)::(out.hp tI++[])∧out.isOwn=true∧es.map (·.n)=seen∧out.list=es.map (·.k)∧∀ e∈es,e∈m.es
 nd:seen.Nodup
 le:seen.length+Jn m seen≤m.es.length
theorem Aqr {I:List Nat→Hp→Prop} {l f0 D:Nat} {tm:Array Value} {ps:Array Tmp} {sg bd:Code} {X0:Hp} {bp bm:Nat} {m:Mp En} (hps:ps.size=1) (h0:I [] X0)
  (hrnd:∀ seen X (e:Me En),e∈m.es→e.n∉seen→I seen X→Rnd Tryz.prog l f0 (Gc ⟨.ready,none,f0,tm,ps,sg,bd,D⟩ [.int .i64 e.k]) sg bd ((l,true,.loop ⟨.ready,none,f0,tm,ps,sg,bd,D⟩)::(bp,true,C [.map (some bm)] tMJ)::(bm,true,m.obj .i64)::(X++[]))
   (fun v Y=>v= .bool true∧∃ X',Y=(l,true,.loop ⟨.ready,none,f0,tm,ps,sg,bd,D⟩)::(bp,true,C [.map (some bm)] tMJ)::(bm,true,m.obj .i64)::(X'++[])∧I (seen++[e.n]) X')) :
  Does Tryz.prog 137 [.func (.yield l) #[] #[],ptr bp] ((l,true,.loop ⟨.ready,none,f0,tm,ps,sg,bd,D⟩)::(bp,true,C [.map (some bm)] tMJ)::(bm,true,m.obj .i64)::(X0++[]))
   (fun v Y=>v= .tuple #[]∧∃ X seen,Y=(l,true,.loop ⟨.ready,none,f0,tm,ps,sg,bd,D⟩)::(bp,true,C [.map (some bm)] tMJ)::(bm,true,m.obj .i64)::(X++[])∧I seen X∧∀ e∈m.es,e.n∈seen):=by
 refine zF 14 Tryz.func137 ?_
 refine zC ?_
 refine I6 (m:=m) (kd:= .i64) rfl mM rfl (fun it5=> ?_)
 refine zC ?_
 refine Ar [0,5] kQ (fun (st:List Nat×Hp)=>[]) (fun st=>(it5,true,itO bm m.cl st.1 m.cl)::(l,true,.loop ⟨.ready,none,f0,tm,ps,sg,bd,D⟩)::(bp,true,C [.map (some bm)] tMJ)::(bm,true,m.obj .i64)::(st.2++[])) (fun st=>I st.1 st.2) (fun st=>Jn m st.1) (([],X0)) h0 kP sP ?_
 rintro ⟨seen,X⟩ gI
 simp only at gI
 refine zC ?_
 refine Ll rfl (by repeat (first | exact Pick.here | apply Pick.there | apply Pick.app)) mM (Mp.wc _) (A6h _) rfl (fun hl6=> ?_) (fun e6 he6 hn6=> ?_)
 ·refine zC ?_
  refine Ay rfl ?_
  refine zC ?_
  exact zLN (hR:=by exact ⟨rfl,X,seen,rfl,gI,Iv hl6⟩)
 ·refine zC ?_
  refine Es rfl ?_
  refine zC ?_
  refine Ae (I7 rfl mM mM he6) rfl ?_
  iterate 5 refine sa ?_
  refine Rn [] rfl (fun ops y=>Mr 2 ?_)
  refine oM rfl<|oM rfl<|Ag ⟨rfl,?_⟩
  refine Aag (r:=⟨.ready,none,f0,tm,ps,sg,bd,D⟩) y rfl rfl rfl (by simp [hps]) sP (hrnd seen X e6 he6 hn6 gI) rfl ?_
  rintro v L' ⟨rfl,X',rfl,gI'⟩
  simp only [A4n,A34,A5b]
  refine Mr 1 ?_
  refine oR (D5 rfl)<|Ag ⟨rfl,Ah0<|n_K ?_⟩
  refine Ay rfl<|Cg<|Eh<|n_K ?_
  exact ⟨(seen++[e6.n],X'),gI',C6 he6 hn6,lZ⟩
end
section
open Go.K
theorem Zg {α:Type} (m:Mp α):0+Jn m []≤m.es.length:=by
 unfold Jn
 have:=A2z (fun i=> !decide (i∈([]:List Nat))) (m.es.map (·.n))
 rw [A46] at this
 omega
theorem Zh {α:Type} {m:Mp α} {es:List (Me α)} {seen:List Nat} (h1:es.map (·.n)=seen) (hnd:seen.Nodup) (h3:∀ e∈es,e∈m.es) (hall:∀ e∈m.es,e.n∈seen):es.Perm m.es:=by
 subst h1
 have hn1:es.Nodup:=by
  refine List.Pairwise.imp (fun h e=>h (A6r _ e)) (A4c.1 hnd)
 have hn2:m.es.Nodup:=by
  refine List.Pairwise.imp (fun h e=>h (A6r _ e)) (A4c.1 m.wn)
 refine (List.perm_ext_iff_of_nodup hn1 hn2).2 fun x=>⟨fun h=>h3 x h,fun h=> ?_⟩
 obtain ⟨y,hy,e⟩:=A53.1 (hall x h)
 rw [← Mp.n_inj (h3 y hy) h e]
 exact hy
theorem Avi {bp bm:Nat} {m:Mp Int} (hm:m.es.length≤1000):Does Tryz.prog 183 [.slice none 0 0,.func (.func 136) #[] #[ptr bp]] ((bp,true,C [.map (some bm)] tMI)::(bm,true,m.obj .i64)::[])
  (fun v H=>∃ s:Sl Int,v=s.val∧H=s.hp tI++((bp,true,C [.map (some bm)] tMI)::(bm,true,m.obj .i64)::[])∧s.isOwn=true∧s.list.Perm m.keys):=by
 refine Ro (n:=13) Tryz.func183 Tryz.ntmps183 rfl (A25 rfl) ?_
 refine An2 ?_
 refine Ad fun ops=> ?_
 refine Cy rfl rfl fun b2=> ?_
 refine oA rfl<|Ag ?_
 refine ⟨rfl,?_⟩
 refine Afp ?_
 refine Ad fun ops=>oM rfl<|Ag ?_
 refine ⟨rfl,?_⟩
 refine Ac3 (fi:=[]) (ca:=[ptr bp]) (L:=(bp,true,C [.map (some bm)] tMI)::(bm,true,m.obj .i64)::(b2,true,C [(Sl.nil:Sl Int).val] tIS)::[]) (F:=[]) (R1:=fun M=>∃ X seen,M=(bp,true,C [.map (some bm)] tMI)::(bm,true,m.obj .i64)::(X++[])∧KII m b2 seen X∧∀ e∈m.es,e.n∈seen) rfl sP ?_ ?_
 ·intro D l f0 tm ht hsz
  refine (Aqq (m:=m) (bm:=bm) (bp:=bp) (I:=KII m b2) (X0:=(b2,true,C [(Sl.nil:Sl Int).val] tIS)::[]) rfl ⟨⟨.nil,[],by rw [Sl.hp_nil];rfl,rfl,rfl,rfl,fun e he=>nomatch he⟩,A5o,by exact Zg m⟩ ?_).mono ?_
  rotate_left
  ·grind
  rintro seen X e he hne ⟨⟨out,es,rfl,ho,h1,h2,h3⟩,hnd,hle⟩
  have hlt:=C6 he hne
  have hol:out.list.length≤1000:=(by rw [h2,A46];have:es.length=seen.length:=(by rw [← h1,A46]);omega)
  rw [show ((b2,true,C [out.val] tIS)::(out.hp tI++[])++[]:Hp)=(b2,true,C [out.val] tIS)::(out.hp tI++[]) by simp]
  refine U0 (n:=13) [(7,.int .i64 e.k),(2,ptr b2)] (by rw [show Gc _ _=tm.setIfInBounds 7 (.int .i64 e.k) from by simp [Gc]];exact EnvOk.put (a:=⟨tm,[]⟩) (d:=7) (v:= .int .i64 e.k) ((Keep.cons rfl .nil).ok ht) (by rw [hsz];decide)) (by simp [Gc,hsz]) rfl fun rg=> ?_
  refine Ad fun ops=>oA rfl<|Ag ?_
  refine ⟨rfl,_,rfl,?_⟩
  refine Ct<|Ad fun ops=> ?_
  refine oR (Al rfl mM rfl) ?_
  refine oM rfl ?_
  refine Am rfl rfl rfl rfl fun b10=> ?_
  refine A5 (s:=out) (new:=[e.k]) (m:=1) rfl rfl pL ho (Ck (r:=true) mM rfl) rfl rfl rfl rfl (by omega) rfl fun out' hs1 hs2=> ?_
  refine Ac rfl rfl uD rfl rfl rfl ?_
  refine Ag<|Eh ?_
  refine ⟨rfl,(bp,true,C [.map (some bm)] tMI)::(bm,true,m.obj .i64)::((b2,true,C [out'.val] tIS)::(out'.hp tI++[])++[]),_,by rw [show ((b2,true,C [out'.val] tIS)::(out'.hp tI++[])++[]:Hp)=(b2,true,C [out'.val] tIS)::(out'.hp tI++[]) by simp];exact sP,rfl,(b2,true,C [out'.val] tIS)::(out'.hp tI++[]),rfl,⟨out',es++[e],rfl,hs2,by rw [A48,h1];rfl,by rw [hs1,h2,A48];rfl,?_⟩,?_,?_⟩
  ·grind
  ·grind
  grind
 ·rintro rg D M ⟨X,seen,rfl,⟨⟨out,es,rfl,ho,h1,h2,h3⟩,hnd,hle⟩,hall⟩
  rw [show (Go.K.mark D::(((bp,true,C [.map (some bm)] tMI)::(bm,true,m.obj .i64)::((b2,true,C [out.val] tIS)::(out.hp tI++[])++[]))++[]):Hp)=Go.K.mark D::(bp,true,C [.map (some bm)] tMI)::(bm,true,m.obj .i64)::(b2,true,C [out.val] tIS)::(out.hp tI++[]) by simp]
  refine An<|Ad fun ops=> ?_
  refine oR (Al rfl mM rfl) ?_
  refine oA rfl<|Ag<|n_K<|Im ?_
  refine pkD ?_
  exact Bb (Aw Tryz.results183 (Af rfl)) (by exact ⟨out,rfl,rfl,ho,by rw [h2];exact (Zh h1 hnd h3 hall).map _⟩) sP
theorem Avj {bp bm:Nat} {m:Mp En} (hm:m.es.length≤1000):Does Tryz.prog 183 [.slice none 0 0,.func (.func 137) #[] #[ptr bp]] ((bp,true,C [.map (some bm)] tMJ)::(bm,true,m.obj .i64)::[])
  (fun v H=>∃ s:Sl Int,v=s.val∧H=s.hp tI++((bp,true,C [.map (some bm)] tMJ)::(bm,true,m.obj .i64)::[])∧s.isOwn=true∧s.list.Perm m.keys):=by
 refine Ro (n:=13) Tryz.func183 Tryz.ntmps183 rfl (A25 rfl) ?_
 refine An2 ?_
 refine Ad fun ops=> ?_
 refine Cy rfl rfl fun b2=> ?_
 refine oA rfl<|Ag ?_
 refine ⟨rfl,?_⟩
 refine Afp ?_
 refine Ad fun ops=>oM rfl<|Ag ?_
 refine ⟨rfl,?_⟩
 refine Ac3 (fi:=[]) (ca:=[ptr bp]) (L:=(bp,true,C [.map (some bm)] tMJ)::(bm,true,m.obj .i64)::(b2,true,C [(Sl.nil:Sl Int).val] tIS)::[]) (F:=[]) (R1:=fun M=>∃ X seen,M=(bp,true,C [.map (some bm)] tMJ)::(bm,true,m.obj .i64)::(X++[])∧KIJ m b2 seen X∧∀ e∈m.es,e.n∈seen) rfl sP ?_ ?_
 ·intro D l f0 tm ht hsz
  refine (Aqr (m:=m) (bm:=bm) (bp:=bp) (I:=KIJ m b2) (X0:=(b2,true,C [(Sl.nil:Sl Int).val] tIS)::[]) rfl ⟨⟨.nil,[],by rw [Sl.hp_nil];rfl,rfl,rfl,rfl,fun e he=>nomatch he⟩,A5o,by exact Zg m⟩ ?_).mono ?_
  rotate_left
  ·grind
  rintro seen X e he hne ⟨⟨out,es,rfl,ho,h1,h2,h3⟩,hnd,hle⟩
  have hlt:=C6 he hne
  have hol:out.list.length≤1000:=(by rw [h2,A46];have:es.length=seen.length:=(by rw [← h1,A46]);omega)
  rw [show ((b2,true,C [out.val] tIS)::(out.hp tI++[])++[]:Hp)=(b2,true,C [out.val] tIS)::(out.hp tI++[]) by simp]
  refine U0 (n:=13) [(7,.int .i64 e.k),(2,ptr b2)] (by rw [show Gc _ _=tm.setIfInBounds 7 (.int .i64 e.k) from by simp [Gc]];exact EnvOk.put (a:=⟨tm,[]⟩) (d:=7) (v:= .int .i64 e.k) ((Keep.cons rfl .nil).ok ht) (by rw [hsz];decide)) (by simp [Gc,hsz]) rfl fun rg=> ?_
  refine Ad fun ops=>oA rfl<|Ag ?_
  refine ⟨rfl,_,rfl,?_⟩
  refine Ct<|Ad fun ops=> ?_
  refine oR (Al rfl mM rfl) ?_
  refine oM rfl ?_
  refine Am rfl rfl rfl rfl fun b10=> ?_
  refine A5 (s:=out) (new:=[e.k]) (m:=1) rfl rfl pL ho (Ck (r:=true) mM rfl) rfl rfl rfl rfl (by omega) rfl fun out' hs1 hs2=> ?_
  refine Ac rfl rfl uD rfl rfl rfl ?_
  refine Ag<|Eh ?_
  refine ⟨rfl,(bp,true,C [.map (some bm)] tMJ)::(bm,true,m.obj .i64)::((b2,true,C [out'.val] tIS)::(out'.hp tI++[])++[]),_,by rw [show ((b2,true,C [out'.val] tIS)::(out'.hp tI++[])++[]:Hp)=(b2,true,C [out'.val] tIS)::(out'.hp tI++[]) by simp];exact sP,rfl,(b2,true,C [out'.val] tIS)::(out'.hp tI++[]),rfl,⟨out',es++[e],rfl,hs2,by rw [A48,h1];rfl,by rw [hs1,h2,A48];rfl,?_⟩,?_,?_⟩
  ·grind
  ·grind
  grind
 ·rintro rg D M ⟨X,seen,rfl,⟨⟨out,es,rfl,ho,h1,h2,h3⟩,hnd,hle⟩,hall⟩
  rw [show (Go.K.mark D::(((bp,true,C [.map (some bm)] tMJ)::(bm,true,m.obj .i64)::((b2,true,C [out.val] tIS)::(out.hp tI++[])++[]))++[]):Hp)=Go.K.mark D::(bp,true,C [.map (some bm)] tMJ)::(bm,true,m.obj .i64)::(b2,true,C [out.val] tIS)::(out.hp tI++[]) by simp]
  refine An<|Ad fun ops=> ?_
  refine oR (Al rfl mM rfl) ?_
  refine oA rfl<|Ag<|n_K<|Im ?_
  refine pkD ?_
  exact Bb (Aw Tryz.results183 (Af rfl)) (by exact ⟨out,rfl,rfl,ho,by rw [h2];exact (Zh h1 hnd h3 hall).map _⟩) sP
end
section
open Go.K Go.Shelf
def Alr:Go.Shelf.Ren:=⟨fun | 5=>88 | 8=>134 | 7=>133 | 19=>181 | 20=>182 | 10=>172 | 11=>173 | 12=>174 | 13=>175 | 14=>176 | 15=>177 | 16=>178 | 17=>179 | 18=>180 | 30=>210 | 31=>211 | 32=>212 | 33=>213 | 34=>214 | 35=>215 | 40=>234 | n=>n,fun | 23=>85 | 25=>3 | 3=>3 | 32=>151 | 22=>85 | 0=>0 | 44=>55 | 46=>29 | 4=>4 | 36=>247 | 35=>246 | 41=>252 | 5=>5 | 9=>9 | 53=>285 | 57=>288 | 63=>301 | 64=>260 | n=>n,fun | n=>n⟩
theorem Aqs:Go.Proofs.SlLaysM.n5 Tryz.prog Alr:={
 mixed:=by kernel_rfl
 f5:=⟨Tryz.f88.name,by decide,Tryz.func88.trans (A6r some (by kernel_rfl))⟩
 f7:=⟨Tryz.f133.name,by decide,Tryz.func133.trans (A6r some (by kernel_rfl))⟩
 f8:=Tryz.func134.trans (A6r some (by kernel_rfl))
 f10:=⟨Tryz.f172.name,by decide,Tryz.func172.trans (A6r some (by kernel_rfl))⟩
 f11:=⟨Tryz.f173.name,by decide,Tryz.func173.trans (A6r some (by kernel_rfl))⟩
 f12:=⟨Tryz.f174.name,by decide,Tryz.func174.trans (A6r some (by kernel_rfl))⟩
 f13:=⟨Tryz.f175.name,by decide,Tryz.func175.trans (A6r some (by kernel_rfl))⟩
 f14:=⟨Tryz.f176.name,by decide,Tryz.func176.trans (A6r some (by kernel_rfl))⟩
 f15:=⟨Tryz.f177.name,by decide,Tryz.func177.trans (A6r some (by kernel_rfl))⟩
 f16:=⟨Tryz.f178.name,by decide,Tryz.func178.trans (A6r some (by kernel_rfl))⟩
 f17:=⟨Tryz.f179.name,by decide,Tryz.func179.trans (A6r some (by kernel_rfl))⟩
 f18:=⟨Tryz.f180.name,by decide,Tryz.func180.trans (A6r some (by kernel_rfl))⟩
 f19:=Tryz.func181.trans (A6r some (by kernel_rfl))
 f20:=Tryz.func182.trans (A6r some (by kernel_rfl))
 f30:=⟨Tryz.f210.name,by decide,Tryz.func210.trans (A6r some (by kernel_rfl))⟩
 f31:=Tryz.func211.trans (A6r some (by kernel_rfl))
 f32:=Tryz.func212.trans (A6r some (by kernel_rfl))
 f33:=⟨Tryz.f213.name,by decide,Tryz.func213.trans (A6r some (by kernel_rfl))⟩
 f34:=⟨Tryz.f214.name,by decide,Tryz.func214.trans (A6r some (by kernel_rfl))⟩
 f35:=⟨Tryz.f215.name,by decide,Tryz.func215.trans (A6r some (by kernel_rfl))⟩
 f40:=⟨Tryz.f234.name,by decide,Tryz.func234.trans (A6r some (by kernel_rfl))⟩
 t0:=Tryz.underlying0
 a0:=Tryz.isAgg0
 z0:=Tryz.sizeOf0
 v0:=Tryz.zeroValue0
 t3:=Tryz.underlying3
 a3:=Tryz.isAgg3
 z3:=Tryz.sizeOf3
 v3:=Tryz.zeroValue3
 t4:=Tryz.underlying4
 a4:=Tryz.isAgg4
 z4:=Tryz.sizeOf4
 v4:=Tryz.zeroValue4
 t5:=Tryz.underlying5
 a5:=Tryz.isAgg5
 z5:=Tryz.sizeOf5
 v5:=Tryz.zeroValue5
 t9:=Tryz.underlying9
 a9:=Tryz.isAgg9
 z9:=Tryz.sizeOf9
 v9:=Tryz.zeroValue9
 t22:=Tryz.underlying85
 a22:=Tryz.isAgg85
 z22:=Tryz.sizeOf85
 v22:=Tryz.zeroValue85
 t23:=Tryz.underlying85
 a23:=Tryz.isAgg85
 z23:=Tryz.sizeOf85
 v23:=Tryz.zeroValue85
 t25:=Tryz.underlying3
 a25:=Tryz.isAgg3
 z25:=Tryz.sizeOf3
 v25:=Tryz.zeroValue3
 t32:=Tryz.underlying151
 a32:=Tryz.isAgg151
 z32:=Tryz.sizeOf151
 v32:=Tryz.zeroValue151
 t35:=Tryz.underlying246
 a35:=Tryz.isAgg246
 z35:=Tryz.sizeOf246
 v35:=Tryz.zeroValue246
 t36:=Tryz.underlying247
 a36:=Tryz.isAgg247
 z36:=Tryz.sizeOf247
 v36:=Tryz.zeroValue247
 t41:=Tryz.underlying252
 a41:=Tryz.isAgg252
 z41:=Tryz.sizeOf252
 v41:=Tryz.zeroValue252
 t44:=Tryz.underlying55
 a44:=Tryz.isAgg55
 z44:=Tryz.sizeOf55
 v44:=Tryz.zeroValue55
 t46:=Tryz.underlying29
 a46:=Tryz.isAgg29
 z46:=Tryz.sizeOf29
 v46:=Tryz.zeroValue29
 t53:=Tryz.underlying285
 a53:=Tryz.isAgg285
 z53:=Tryz.sizeOf285
 v53:=Tryz.zeroValue285
 t57:=Tryz.underlying288
 a57:=Tryz.isAgg288
 z57:=Tryz.sizeOf288
 v57:=Tryz.zeroValue288
 t63:=Tryz.underlying301
 a63:=Tryz.isAgg301
 z63:=Tryz.sizeOf301
 v63:=Tryz.zeroValue301
 t64:=Tryz.underlying260
 a64:=Tryz.isAgg260
 z64:=Tryz.sizeOf260
 v64:=Tryz.zeroValue260 }
theorem Gt (xs:List Int):cells xs=xs.map (Value.int .i64):=by
 induction xs with
 | nil=>rfl
 | cons z zs ih=>simp only [cells,A36,A5x] at *;rw [ih];rfl
def Dy (xs:List Int):List Int:=xs.mergeSort fun x y=>decide (x≤y)
theorem sortL_nil:Dy []=[]:=by unfold Dy;simp
theorem Bn (xs:List Int):(Dy xs).Perm xs:=List.mergeSort_perm _ _
theorem Wc {s:Sl Int} (ho:s.isOwn=true) (hl:s.list.length≤100000):Does Tryz.prog 88 [s.val] (s.hp tI++[])
  (fun v H=>v= .tuple #[]∧∃ s':Sl Int,H=s'.hp tI++[]∧s'.val=s.val∧s'.isOwn=true∧s'.list=Dy s.list):=by
 intro w hw
 cases s with
 | nil =>
  rw [Sl.hp_nil] at hw ⊢
  have h:=AnyM.slices_Sort_int_none Aqs none 0 w
  refine A6n h ?_
  rintro e w' ⟨rfl,rfl⟩
  exact ⟨_,[],rfl,⟨rfl,.nil,by rw [Sl.hp_nil];rfl,rfl,rfl,sortL_nil.symm⟩,Trk.refl hw⟩
 | emp a =>
  have e0:(Sl.emp a:Sl Int).hp tI=[]:=by unfold Sl.hp;rfl
  rw [e0] at hw ⊢
  have h:=AnyM.slices_Sort_int_none Aqs (some a) 0 w
  refine A6n h ?_
  rintro e w' ⟨rfl,rfl⟩
  exact ⟨_,[],rfl,⟨rfl,.emp a,by rw [e0];rfl,rfl,rfl,sortL_nil.symm⟩,Trk.refl hw⟩
 | vac a c=>cases ho
 | view=>cases ho
 | own b xs cap sp h0 =>
  rw [Sl.hp_own,A42] at hw
  rw [Sl.hp_own]
  have hb:=hw.here _ (A3y)
  simp only at hb
  have hlt:=hw.lt (x:=(b,true,C (cells xs++sp) tI)) A3y
  have hH:Sort.Holds (Value.int .i64) w b 0 xs.toArray:=fun j hj=>by
   have hj':j<xs.length:=by simpa using hj
   refine ⟨?_,H7 hb _ _⟩
   rw [A6c,I9 hb,Dk,A2e (by rw [Gt,A46];exact hj'),Gt,A38,A2i hj',getElem!_pos xs.toArray j hj]
   rfl
  have h:=AnyM.slices_Sort_int Aqs b 0 cap xs w hH hlt (by show xs.length<_;have:xs.length≤100000:=hl;omega)
  refine A6n h ?_
  rintro e w' ⟨rfl,n,os,rfl⟩
  have hlen:(Dy xs).length=xs.length:=(Bn xs).length_eq
  refine ⟨_,[(b,true,C (cells (Dy xs)++sp) tI)],rfl,⟨rfl,.own b (Dy xs) cap sp ⟨by rw [hlen];exact h0.1,by rw [hlen];exact h0.2.1,by rw [hlen];exact h0.2.2⟩,by rw [Sl.hp_own];rfl,?_,rfl,rfl⟩,?_⟩
  ·show Value.slice (some ⟨b,0,none⟩) (Dy xs).length cap=Value.slice (some ⟨b,0,none⟩) xs.length cap
   rw [hlen]
  ·exact Ac5 hw hlen
end
section
open Go.K
theorem Qu (xs:List Int):(Dy xs).Pairwise (·≤·):=by
 have:=List.pairwise_mergeSort (le:=fun x y:Int=>decide (x≤y)) (fun a b c h1 h2=>by grind) (fun a b=>by simp;omega) xs
 exact this.imp (fun h=>by simpa using h)
theorem S6 {xs ys:List Int} (h:xs.Perm ys):Dy xs=Dy ys :=
 List.Perm.eq_of_pairwise (le:=(·≤·)) (fun a b _ _ h1 h2=>by omega) (Qu xs) (Qu ys) (((Bn xs).trans h).trans (Bn ys).symm)
theorem Ay5 {bm:Nat}:Does Tryz.prog 91 [.map (some bm)] [] (fun v H=>∃ bp:Nat,v= .func (.func 136) #[] #[ptr bp]∧H=(bp,true,C [.map (some bm)] tMI)::[]):=by
 refine zF 4 Tryz.func91 ?_
 refine zC ?_
 refine Cy rfl rfl (fun b1=> ?_)
 refine zC ?_
 refine Ae (Pu rfl) rfl ?_
 refine zC ?_
 exact zL (hR:=by exact ⟨b1,rfl,rfl⟩)
theorem Avn {bp bm:Nat} {m:Mp Int} (hm:m.es.length≤1000):Does Tryz.prog 135 [.func (.func 136) #[] #[ptr bp]] ((bp,true,C [.map (some bm)] tMI)::(bm,true,m.obj .i64)::[])
  (fun v H=>∃ s:Sl Int,v=s.val∧H=s.hp tI++((bp,true,C [.map (some bm)] tMI)::(bm,true,m.obj .i64)::[])∧s.isOwn=true∧s.list.Perm m.keys):=by
 refine zF 5 Tryz.func135 ?_
 refine zC ?_
 refine zE rfl (Avi hm) ?_
 rintro _ _ ⟨s4,rfl,rfl,ho4,hp4⟩
 refine zW ?_
 exact zL (hR:=by exact ⟨s4,rfl,rfl,ho4,hp4⟩)
theorem Avo {bp bm:Nat} {m:Mp Int} (hm:m.es.length≤1000):Does Tryz.prog 90 [.func (.func 136) #[] #[ptr bp]] ((bp,true,C [.map (some bm)] tMI)::(bm,true,m.obj .i64)::[])
  (fun v H=>∃ s:Sl Int,v=s.val∧H=s.hp tI++((bp,true,C [.map (some bm)] tMI)::(bm,true,m.obj .i64)::[])∧s.isOwn=true∧s.list=Dy m.keys):=by
 refine zF 9 Tryz.func90 ?_
 refine zC ?_
 refine zE rfl (Avn hm) ?_
 rintro _ _ ⟨s5,rfl,rfl,ho5,hp5⟩
 refine zW ?_
 refine zE rfl (Wc (s:=s5) ho5 (by rw [hp5.length_eq,Mp.keys_len];omega)) ?_
 rintro _ _ ⟨rfl,s7,rfl,hv7,ho7,hl7⟩
 refine zW ?_
 exact zL (hR:=by exact ⟨s7,hv7.symm,rfl,ho7,by rw [hl7];exact S6 hp5⟩)
theorem Ay6 {bm:Nat}:Does Tryz.prog 94 [.map (some bm)] [] (fun v H=>∃ bp:Nat,v= .func (.func 137) #[] #[ptr bp]∧H=(bp,true,C [.map (some bm)] tMJ)::[]):=by
 refine zF 4 Tryz.func94 ?_
 refine zC ?_
 refine Cy rfl rfl (fun b1=> ?_)
 refine zC ?_
 refine Ae (Pu rfl) rfl ?_
 refine zC ?_
 exact zL (hR:=by exact ⟨b1,rfl,rfl⟩)
theorem Avp {bp bm:Nat} {m:Mp En} (hm:m.es.length≤1000):Does Tryz.prog 135 [.func (.func 137) #[] #[ptr bp]] ((bp,true,C [.map (some bm)] tMJ)::(bm,true,m.obj .i64)::[])
  (fun v H=>∃ s:Sl Int,v=s.val∧H=s.hp tI++((bp,true,C [.map (some bm)] tMJ)::(bm,true,m.obj .i64)::[])∧s.isOwn=true∧s.list.Perm m.keys):=by
 refine zF 5 Tryz.func135 ?_
 refine zC ?_
 refine zE rfl (Avj hm) ?_
 rintro _ _ ⟨s4,rfl,rfl,ho4,hp4⟩
 refine zW ?_
 exact zL (hR:=by exact ⟨s4,rfl,rfl,ho4,hp4⟩)
theorem Avq {bp bm:Nat} {m:Mp En} (hm:m.es.length≤1000):Does Tryz.prog 90 [.func (.func 137) #[] #[ptr bp]] ((bp,true,C [.map (some bm)] tMJ)::(bm,true,m.obj .i64)::[])
  (fun v H=>∃ s:Sl Int,v=s.val∧H=s.hp tI++((bp,true,C [.map (some bm)] tMJ)::(bm,true,m.obj .i64)::[])∧s.isOwn=true∧s.list=Dy m.keys):=by
 refine zF 9 Tryz.func90 ?_
 refine zC ?_
 refine zE rfl (Avp hm) ?_
 rintro _ _ ⟨s5,rfl,rfl,ho5,hp5⟩
 refine zW ?_
 refine zE rfl (Wc (s:=s5) ho5 (by rw [hp5.length_eq,Mp.keys_len];omega)) ?_
 rintro _ _ ⟨rfl,s7,rfl,hv7,ho7,hl7⟩
 refine zW ?_
 exact zL (hR:=by exact ⟨s7,hv7.symm,rfl,ho7,by rw [hl7];exact S6 hp5⟩)
theorem Ay7 {c:BitVec 32} {b:Nat} {s1 s2:Sl By}:Does Tryz.prog 95 [uv c,.slice (some ⟨b,0,none⟩) 2 2] ((b,true,C [s1.val,s2.val] tSB)::(s1.hp tU8++(s2.hp tU8++[])))
  (Is (uv (Fy c [s1.list,s2.list])) ((b,true,C [s1.val,s2.val] tSB)::(s1.hp tU8++(s2.hp tU8++[])))):=by
 have e2:(Sl.own b [s1,s2] 2 [] ⟨by simp,A6h _,by simp⟩:Sl (Sl By)).list=[s1,s2]:=rfl
 have h:=Aw6 (c:=c) (q:= .own b [s1,s2] 2 [] ⟨by simp,A6h _,by simp⟩)
 rw [e2] at h
 have e:(Sl.own b [s1,s2] 2 [] ⟨by simp,A6h _,by simp⟩:Sl (Sl By)).hp tSB++(Dg [s1,s2]++[])=((b,true,C [s1.val,s2.val] tSB)::(s1.hp tU8++(s2.hp tU8++[]))):=by
  rw [Sl.hp_own,Cs,Cs,Hx]
  simp only [ A42]
  rfl
 rw [e] at h
 exact h
theorem Avr:Does Tryz.prog 93 [.slice none 0 0] [] (Is (uv 0) []):=by
 have h:=Api (q:=(Sl.nil:Sl (Sl By)))
 have e:(Sl.nil:Sl (Sl By)).hp tSB++(Dg []++[])=[]:=by rw [Sl.hp_nil,Hx];rfl
 rw [show (Sl.nil:Sl (Sl By)).list=[] from rfl,e] at h
 exact h.to (by simp [Fy]) rfl
end
section
open Go.K
instance fldt124_1:FldT Tryz.prog 124 1 2 29:=⟨⟨_,_,Tryz.underlying124,rfl,rfl,rfl⟩⟩
def R7 (m:Mp En) (k:Int):En:=match m.get k with | some e=>e | none=>A03
def Aed (m:Mp En) (k:Int):Wd:=(R7 m k).ep
def Ma (m:Mp En):BitVec 32:=(Dy m.keys).foldl (fun c k=>Fy c [Bz 1 (BitVec.ofInt 64 k),Bz 8 (Aed m k)]) 0
theorem Agw {P:Program} {E:Env} {H:Hp} {t kt et:TypeId} {x y:Operand} {b:Nat} {m:Mp En} {k:Int} {r:Bool} [ht:Und P t (.map kt et)] [hk:Und P kt (.int .i64)] [hz:ZerV P et (.agg #[.int .i64 0,.int .i64 0,.int .u64 0])]
  (hx:ev E x=some (.map (some b))) (hy:ev E y=some (.int .i64 k)) (hm:(b,r,m.obj .i64)∈H):Rd P E H (.lookup t x y false) (.agg (Alh (R7 m k)).toArray):=by
 have h:=Atz (P:=P) (t:=t) (kt:=kt) (et:=et) (z:= .agg #[.int .i64 0,.int .i64 0,.int .u64 0]) hx hy hm
 unfold R7
 cases hg:m.get k with
 | none=>rw [hg] at h;exact h
 | some e=>rw [hg] at h;exact h
theorem Ai4 {S:Nat} {b:Nat} {m:Mp En} (hm:m.es.length≤1000):Does Tryz.prog 59 [ptr S,.map (some b)] ((b,true,m.obj .i64)::[])
  (fun v H=>v=uv (Ma m)∧H=(b,true,m.obj .i64)::[]):=by
 refine zF 30 Tryz.func59 ?_
 refine zC ?_
 refine zI rfl (Avr) ?_
 refine zC ?_
 refine zE rfl (Ay6 (bm:=b)) ?_
 rintro _ _ ⟨bp,rfl,rfl⟩
 refine A6 aQ ?_
 refine zE rfl (Avq hm) ?_
 rintro _ _ ⟨s11,rfl,rfl,ho11,hl11⟩
 refine zW ?_
 have hsm:s11.list.length≤1000:=(by rw [hl11,(Bn _).length_eq,Mp.keys_len];exact hm)
 refine Ar [1,11,12] kQ (fun (st:Nat×BitVec 32)=>[(13,.int .i64 st.1),(5,uv st.2)]) (fun st=>(s11.hp tI++((b,true,m.obj .i64)::[]))) (fun st=>st.1≤s11.list.length∧st.2=(s11.list.take st.1).foldl (fun c k=>Fy c [Bz 1 (BitVec.ofInt 64 k),Bz 8 (Aed m k)]) 0) (fun st=>s11.list.length - st.1) ((0,0)) ⟨A6j _,rfl⟩ kP sP ?_
 rintro ⟨i,c⟩ ⟨g0,g1⟩
 refine zC ?_
 refine Aa rfl (fun c14=> ?_) (fun c14=> ?_)
 ·simp only [A4f] at c14
  obtain ⟨z,hg⟩:∃ z,s11.list[i]? =some z:=⟨_,A2i (by omega)⟩
  have hst:=Id (f:=fun c k=>Fy c [Bz 1 (BitVec.ofInt 64 k),Bz 8 (Aed m k)]) (b:=(0:BitVec 32)) hg
  rw [← g1] at hst
  refine zA ?_
  refine Ae (Az (s:=s11) rfl rfl (by omega)) rfl ?_
  refine Ae (Ca (s:=s11) (o:=0) rfl pL hg rfl rfl) rfl ?_
  refine zC ?_
  refine At [(10,[(0,false),(1,false),(2,false),(4,false),(5,false),(6,false),(7,false),(3,true),(8,true),(9,true)]),(11,[(10,true)]),(12,[(11,false)])] (by kernel_rfl) ?_
  refine zA ?_
  refine Aj (show Rd _ _ _ _ (wv (BitVec.ofInt 64 z)) from by (unfold wv;rw [← Iy];exact Dv rfl)) ?_
  refine zC ?_
  refine Aj (Agw rfl rfl mM) ?_
  refine Aj (show Rd _ _ _ _ (wv (Aed m z)) from Ayc rfl rfl) ?_
  refine zC ?_
  refine zE rfl (Gg) ?_
  rintro _ _ ⟨s20,rfl,rfl,hs20,ho20⟩
  refine zW ?_
  refine zE rfl (Gg) ?_
  rintro _ _ ⟨s25,rfl,rfl,hs25,ho25⟩
  refine zW ?_
  refine Am rfl rfl rfl rfl (fun b26=> ?_)
  refine zC ?_
  refine zI rfl (Ay7 (c:=c) (b:=b26) (s1:=s20) (s2:=s25)) ?_
  refine zC ?_
  exact ⟨(i+1,Fy c [Bz 1 (BitVec.ofInt 64 z),Bz 8 (Aed m z)]),⟨by omega,hst.symm⟩,by omega,(by rw [show Bz 1 (BitVec.ofInt 64 z)=s20.list from hs20.symm,show Bz 8 (Aed m z)=s25.list from hs25.symm];exact kP),kP,_,sP⟩
 ·simp only [ A2m] at c14
  have hi:i=s11.list.length:=(by omega)
  subst hi
  rw [A4u] at g1
  refine zC ?_
  exact zL (hR:=by exact ⟨by rw [g1,hl11];rfl,rfl⟩)
end
section
open Go.K Go.Shelf
def Alt:Go.Shelf.Ren:=⟨fun | 20=>89 | n=>n,fun | 22=>85 | 3=>3 | 4=>4 | 0=>0 | n=>n,fun | n=>n⟩
theorem Aqv:Go.Proofs.Lays2.n20 Tryz.prog Alt:={
 mixed:=by kernel_rfl
 f20:=Tryz.func89.trans (A6r some (by kernel_rfl))
 t0:=Tryz.underlying0
 a0:=Tryz.isAgg0
 z0:=Tryz.sizeOf0
 v0:=Tryz.zeroValue0
 t3:=Tryz.underlying3
 a3:=Tryz.isAgg3
 z3:=Tryz.sizeOf3
 v3:=Tryz.zeroValue3
 t4:=Tryz.underlying4
 a4:=Tryz.isAgg4
 z4:=Tryz.sizeOf4
 v4:=Tryz.zeroValue4
 t22:=Tryz.underlying85
 a22:=Tryz.isAgg85
 z22:=Tryz.sizeOf85
 v22:=Tryz.zeroValue85
 i3:=by kernel_rfl }
theorem Agx (xs:List Int):(Lib.compact xs).length≤xs.length:=by
 unfold Lib.compact Lib.compactUpTo
 rw [A46]
 grind
theorem compact_nil:Lib.compact ([]:List Int)=[]:=by
 rfl
theorem Avs {s:Sl Int} (ho:s.isOwn=true) (hl:s.list.length≤100000):Does Tryz.prog 89 [s.val] (s.hp tI++[])
  (fun v H=>∃ s':Sl Int,v=s'.val∧H=s'.hp tI++[]∧s'.isOwn=true∧s'.list=Lib.compact s.list):=by
 intro w hw
 cases s with
 | nil =>
  rw [Sl.hp_nil] at hw ⊢
  have h:=Any.slices_Compact_int_empty Aqv none 0 w
  refine A6n h ?_
  rintro e w' ⟨rfl,rfl⟩
  exact ⟨_,[],rfl,⟨.nil,rfl,by rw [Sl.hp_nil];rfl,rfl,compact_nil.symm⟩,Trk.refl hw⟩
 | emp a =>
  have e0:(Sl.emp a:Sl Int).hp tI=[]:=by unfold Sl.hp;rfl
  rw [e0] at hw ⊢
  have h:=Any.slices_Compact_int_empty Aqv (some a) 0 w
  refine A6n h ?_
  rintro e w' ⟨rfl,rfl⟩
  exact ⟨_,[],rfl,⟨.emp a,rfl,by rw [e0];rfl,rfl,compact_nil.symm⟩,Trk.refl hw⟩
 | vac a c=>cases ho
 | view=>cases ho
 | own b xs cap sp h0 =>
  rw [Sl.hp_own,A42] at hw
  rw [Sl.hp_own]
  have hb:=hw.here _ (A3y)
  have hlt:=hw.lt (x:=(b,true,C (cells xs++sp) tI)) A3y
  have hH:Sort.Holds (Value.int .i64) w b 0 xs.toArray:=fun j hj=>by
   have hj':j<xs.length:=by omega
   refine ⟨?_,H7 hb _ _⟩
   rw [A6c,I9 hb,Dk,A2e (by rw [Gt,A46];exact hj'),Gt,A38,A2i hj',getElem!_pos xs.toArray j hj]
   rfl
  have hxl:xs.length≤100000:=hl
  have hc:=Agx xs
  have h:=Any.slices_Compact_int Aqv b 0 cap xs w hH (by omega) h0.2.1
  refine A6n h ?_
  rintro e w' ⟨rfl,n,rfl⟩
  have hlen:(Lib.compact xs++List.replicate (xs.length - (Lib.compact xs).length) 0).length=xs.length:=by simp;omega
  have ht:=Ac5 (os:=#[]) (n:=n) hw hlen
  rw [Sort.grow_empty] at ht
  have hcs:(cells (Lib.compact xs++List.replicate (xs.length - (Lib.compact xs).length) (0:Int))++sp:List Value)=cells (Lib.compact xs)++(cells (List.replicate (xs.length - (Lib.compact xs).length) (0:Int))++sp):=by
   rw [Gt,Gt,Gt,A48,A34]
  rw [hcs] at ht
  refine ⟨_,[(b,true,C (cells (Lib.compact xs)++(cells (List.replicate (xs.length - (Lib.compact xs).length) (0:Int))++sp)) tI)],rfl,⟨.own b (Lib.compact xs) cap (cells (List.replicate (xs.length - (Lib.compact xs).length) (0:Int))++sp) ?_,rfl,by rw [Sl.hp_own];rfl,rfl,rfl⟩,ht⟩
  have h1:(cap - xs.length)*1≤sp.length:=h0.1
  refine ⟨?_,by have:=h0.2.1;omega,by omega⟩
  show (cap - (Lib.compact xs).length)*1≤_
  have h2:=h0.2.1
  rw [A3x,Gt,A46,A20]
  omega
def N9 (xs:List Int):Bool:=decide ((Lib.compact (Dy xs)).length=xs.length)
theorem Avt {s:Sl Int} (hs:s.list.length≤1000):Does Tryz.prog 53 [s.val] (s.hp tI++[]) (Is (.bool (N9 s.list)) (s.hp tI++[])):=by
 refine zF 14 Tryz.func53 ?_
 refine zC ?_
 refine zE rfl (No (s:=s) (T:=tI) hs) ?_
 rintro _ _ ⟨s5,rfl,rfl,hl5,ho5⟩
 refine zW ?_
 refine zE rfl (Wc (s:=s5) ho5 (by rw [hl5];omega)) ?_
 rintro _ _ ⟨rfl,s7,rfl,hv7,ho7,hl7⟩
 refine A6 aQ ?_
 rw [← hv7]
 refine zC ?_
 refine zE rfl (Avs (s:=s7) ho7 (by rw [hl7,(Bn _).length_eq,hl5];omega)) ?_
 rintro _ _ ⟨s9,rfl,rfl,ho9,hl9⟩
 refine zW ?_
 refine Ak (Aw Tryz.results53 (Af rfl)) ?_ sP
 rw [hl9,hl7,hl5];exact A6r Value.bool (A4x.2 Int.natCast_inj)
end
section
open Go.K
instance fld45_0:Fld Tryz.prog 45 0 0:=⟨⟨_,_,0,Tryz.underlying45,rfl,by kernel_rfl,rfl⟩⟩
instance fld45_2:Fld Tryz.prog 45 2 2:=⟨⟨_,_,0,Tryz.underlying45,rfl,by kernel_rfl,rfl⟩⟩
structure Chg where
 key:Int
 gone:Bool
 body:Sl By
def W9 (c:Chg):List Value:=[.int .i64 c.key,.bool c.gone,c.body.val]
instance:Cel Chg:=⟨3,W9,fun _=>rfl,fun _=>rfl⟩
theorem Avu {c:Chg}:Does Tryz.prog 50 [.agg (W9 c).toArray] (c.body.hp tU8++[]) (Is (.bool (A9 c.key c.body.list)) (c.body.hp tU8++[])):=by
 refine zF 16 Tryz.func50 ?_
 refine zC ?_
 refine Cy rfl rfl (fun b1=> ?_)
 refine zC ?_
 refine Ch rfl (Zb (n:=⟨c.key,0,c.body⟩)) sP rfl (fun v11 Y11 h11=> ?_)
 obtain ⟨s11,e11,rfl,rfl,he11⟩:∃ (s11:Sl By) (e11:Int),v11= .tuple #[s11.val,.int .i64 e11]∧Y11=s11.hp tU8++(c.body.hp tU8++[])∧decide (e11=0)=A9 c.key c.body.list:=by
  rcases h11 with ⟨hk,rfl,rfl⟩ | ⟨hk,s,rfl,rfl,hs,ho⟩
  ·exact ⟨.nil,1,rfl,by rw [Sl.hp_nil];rfl,hk.symm⟩
  grind
 refine A6 aQ ?_
 refine zC ?_
 refine Ak (Aw Tryz.results50 (Af rfl)) ?_ sP
 rw [he11]
end
section
open Go.K
theorem Aee {P:Program} {E:Env} {H:Hp} {t kt et:TypeId} {x y:Operand} {b:Nat} {m:Mp En} {k:Int} {r:Bool} [ht:Und P t (.map kt et)] [hk:Und P kt (.int .i64)] [hz:ZerV P et (.agg #[.int .i64 0,.int .i64 0,.int .u64 0])]
  (hx:ev E x=some (.map (some b))) (hy:ev E y=some (.int .i64 k)) (hm:(b,r,m.obj .i64)∈H):Rd P E H (.lookup t x y true) (.tuple #[.agg (Alh (R7 m k)).toArray,.bool (m.get k).isSome]):=by
 have h:=Rp (P:=P) (t:=t) (kt:=kt) (et:=et) (z:= .agg #[.int .i64 0,.int .i64 0,.int .u64 0]) hx hy hm
 unfold R7
 cases hg:m.get k with
 | none=>rw [hg] at h;exact h
 | some e=>rw [hg] at h;exact h
section
variable {z:Sg}
end
end
section
open Go.K
instance zer67:Zer Tryz.prog 67 ([.pointer none,.map none,.map none,.map none,.int .u64 0]++List.replicate 32 (.int .u8 0)++[.int .u32 0,.int .i64 0,.int .i64 0,.int .u64 0,.int .i64 0,.int .u64 0,.int .i64 0,.int .i64 0,.bool false,.int .u64 0,.bool false]):=⟨by kernel_rfl⟩
instance plc67:Plc Tryz.prog 67 [(0,1),(1,1),(2,1),(3,1),(4,34),(38,2),(40,3),(43,2),(45,1),(46,1),(47,1)]:=⟨⟨_,Tryz.underlying67,fun _=>by kernel_rfl⟩⟩
def J5 (st lg ib pb sb:Nat):Sto:=⟨st,lg,ib,pb,sb,cm0,(0,0),vw0,(0,0),false,0,false,Mp.nil,Mp.nil,Mp.nil⟩
theorem Zi {lg:Nat}:Does Tryz.prog 86 [ptr lg] [] (fun v H=>∃ st ib pb sb:Nat,v=ptr st∧H=stH (J5 st lg ib pb sb)++[]):=by
 refine zF 9 Tryz.func86 ?_
 refine zC ?_
 refine Aah En .i64 rfl (fun b4=> ?_)
 refine Aah En .i64 rfl (fun b5=> ?_)
 refine Aah Int .i64 rfl (fun b6=> ?_)
 refine zC ?_
 refine Cy rfl rfl (fun b8=> ?_)
 refine zC ?_
 exact zL (hR:=by exact ⟨b8,b4,b5,b6,rfl,rfl⟩)
end
end Go.Proofs.YtpmojdippdlcaaaGreatDoor
