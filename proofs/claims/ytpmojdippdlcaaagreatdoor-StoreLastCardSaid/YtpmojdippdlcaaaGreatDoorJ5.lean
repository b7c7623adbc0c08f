/- For every input, what is said of the program's store holds: its nodes, its last commit; the conditions are the statement's own: part 5. -/
import Derived.Test.YtpmojdippdlcaaaGreatDoorJ3
import Derived.Test.YtpmojdippdlcaaaGreatDoorJ4
import Derived.Test.YtpmojdippdlcaaaGreatDoorJ1
import Derived.Shelf.SortM.Plain
import Derived.Shelf.SortM.SortNone
import Derived.Ground.SlgmProg
import Derived.Shelf.Slices.CompactI
import Derived.Ground.Names2Prog
set_option linter.unusedVariables false
set_option linter.unusedSimpArgs false
set_option maxRecDepth 100000
set_option maxHeartbeats 1000000
set_option synthInstance.maxSize 4000
set_option synthInstance.maxHeartbeats 400000
namespace Go.Proofs.YtpmojdippdlcaaaGreatDoor
section
open Go.K
instance ent68:Ent Tryz.prog 68:=⟨fun _ _=>by kernel_rfl⟩
instance ent111:Ent Tryz.prog 111:=⟨fun _ _=>by kernel_rfl⟩
theorem EmA.nb {n:Nat} {q:Qt} {xs:List Pl2} {z z':Sg} {e:Int} (h:EmA n q xs z e z'):z'.L.nb=z.L.nb:=by
 induction h with
 | nil=>rfl
 | skip _ _ ih=>exact ih
 | stop _ _ hs _=>exact hs.nb
 | go _ _ hs _ ih=>exact ih.trans hs.nb
theorem EmR.nb {n:Nat} {q:Qt} {b:Nat} {xs:List Pl2} {z z':Sg} {e:Int} (h:EmR n q b xs z e z'):z'.L.nb=z.L.nb:=by
 rcases h with ⟨_,h⟩ | ⟨z1,h,hd⟩
 ·exact h.nb
 ·exact hd.2.2.2.1.trans h.nb
theorem ColR.nb {n:Nat} {q:Qt} {z z':Sg} {e:Int} (h:ColR n q z e z'):z'.L.nb=z.L.nb:=by
 obtain ⟨ss,_,h⟩:=h
 rcases h with ⟨_,_,rfl⟩ | ⟨_,g,b,_,_,_,h⟩
 ·rfl
 ·exact h.nb
inductive ColS (n:Nat) (q:Qt) (z:Sg):Sg→Prop
 | refl:ColS n q z z
 | step {z1 z2:Sg}:ColS n q z z1→(∃ k,k≤300000000000∧WI n k q z1)→B6 z1.L.bs z1.L.nb≤1→ColR n q z1 0 z2→ColS n q z z2
def Aar (n:Nat) (q:Qt) (z:Sg):Prop:=∀ z1,ColS n q z z1→(∃ k,k≤300000000000∧WI n k q z1)→B6 z1.L.bs z1.L.nb≤1→B6 z1.L.bs z1.L.nb≠0∧z1.L.nb≤B6 z1.L.bs z1.L.nb+40∧Ax2 n q z1
inductive RoomR (n:Nat) (q:Qt):Nat→Sg→Int→Sg→Prop
 | enough {m:Nat} {z:Sg}:1<B6 z.L.bs z.L.nb→RoomR n q m z 0 z
 | out {z:Sg}:RoomR n q 0 z 0 z
 | stop {m:Nat} {z z1:Sg} {e:Int}:B6 z.L.bs z.L.nb≤1→ColR n q z e z1→e≠0→RoomR n q (m+1) z e z1
 | go {m:Nat} {z z1 z':Sg} {e:Int}:B6 z.L.bs z.L.nb≤1→ColR n q z 0 z1→RoomR n q m z1 e z'→RoomR n q (m+1) z e z'
def PutG (n:Nat) (q:Qt) (z:Sg) (p:Pg) (e:Int) (y:Pl2) (z':Sg):Prop :=
 (e≠0∧RoomR n q (8*z.L.nb) z e z')∨∃ z1,RoomR n q (8*z.L.nb) z 0 z1∧AppG n q z1 p e y z'
section
variable {n k:Nat} {q:Qt} {z:Sg}
theorem WI.nb40 (h:WI n k q z):z.L.nb≤40:=by
 obtain ⟨V,hZ⟩:=h.2
 have:=hZ.num
 have:=hZ.dv.di.wf.n2
 omega
theorem Ap4 (h:WI n k q z) (hk:k≤299999500000) (hq:q.n≤3) (hS:Aar n q z) :
  Does Tryz.prog 111 [ptr z.S.st] ((z.S.st,true,C (stC z.S) tSt)::(z.S.ib,true,z.S.idx.obj .i64)::(z.S.pb,true,z.S.pend.obj .i64)::(lgH z.L++[]))
  (fun v H=>∃ (e:Int) (z':Sg),v= .int .i64 e∧H=(z'.S.st,true,C (stC z'.S) tSt)::(z'.S.ib,true,z'.S.idx.obj .i64)::(z'.S.pb,true,z'.S.pend.obj .i64)::(lgH z'.L++[])∧z'.S.st=z.S.st∧RoomR n q (8*z.L.nb) z e z'∧(e≠30→WI n (k+320000) q z')∧z'.L.nb=z.L.nb):=by
 have hnb:=h.nb40
 refine zF 43 Tryz.func111 ?_
 refine zC ?_
 refine At [0] kQ (fun (st:Nat×Sg)=>[(3,.int .i64 st.1)]) (fun st=>(st.2.S.st,true,C (stC st.2.S) tSt)::(st.2.S.ib,true,st.2.S.idx.obj .i64)::(st.2.S.pb,true,st.2.S.pend.obj .i64)::(lgH st.2.L++[])) (fun st=>st.1≤8*z.L.nb∧WI n (k+1000*st.1) q st.2∧st.2.S.st=z.S.st∧st.2.L.nb=z.L.nb∧ColS n q z st.2∧∀ e z',RoomR n q (8*z.L.nb - st.1) st.2 e z'→RoomR n q (8*z.L.nb) z e z') (fun st=>8*z.L.nb - st.1) ((0,z)) ⟨A5s _,h.mono (by omega),rfl,rfl,.refl,fun _ _ h9=>h9⟩ kP sP ?_
 rintro ⟨t,z1⟩ ⟨g0,g1,g2,g3,g4,g5⟩
 simp only at g0 g1 g2 g3 g4 g5
 rw [← g2]
 obtain ⟨V1,hZ1⟩:=g1.2
 have hul:=hZ1.ulen
 have hWk:∃ k,k≤300000000000∧WI n k q z1:=⟨k+1000*t,by omega,g1⟩
 have hS1:=hS z1 g4 hWk
 refine zA ?_
 refine Ah (show Rd _ _ _ _ (ptr z1.L.lg) from by rw [← g1.1];exact Al rfl mM rfl) rfl ?_
 refine zI rfl (Air (L:=z1.L) hZ1.lv.len (by omega)) ?_
 iterate 2 refine sb ?_
 refine' H9 rfl rfl inferInstance rfl rfl rfl rfl rfl (fun hg12=> ?_) ?_
 rotate_left
 ·try (simp at hg12;show _)
  refine zA ?_
  refine Ah (show Rd _ _ _ _ (ptr z1.L.lg) from by rw [← g1.1];exact Al rfl mM rfl) rfl ?_
  refine zA ?_
  refine Ah (Vt rfl pL) rfl ?_
  refine zC ?_
  refine zI rfl ((Apz (L:=z1.L)).to (by rw [hul,g3]) rfl) ?_
  refine zA ?_
  refine Ah (Pk rfl rfl (by omega)) rfl ?_
  refine zC ?_
  exact Ad ⟨rfl,rfl,⟨_,sP⟩⟩
 refine zC ?_
 refine Ae rfl (fun c24=> ?_) (fun c24=> ?_)
 ·skip
  have hc:B6 z1.L.bs z1.L.nb≤1∧t<8*z.L.nb:=(by simp only [A3n,A3j] at c24;omega)
  obtain ⟨hf0,h12,hHB⟩:=hS1 hc.1
  refine zA ?_
  refine Ah (show Rd _ _ _ _ (ptr z1.L.lg) from by rw [← g1.1];exact Al rfl mM rfl) rfl ?_
  refine zI rfl (Air (L:=z1.L) hZ1.lv.len (by omega)) ?_
  refine zC ?_
  refine Ae rfl (fun c32=> ?_) (fun c32=> ?_)
  ·skip
   exfalso;simp at c32;omega
  ·skip
   refine zC ?_
   refine zE rfl (Agp (z:=z1) g1 (by omega) hq h12 hHB) ?_
   rintro _ _ ⟨e2,z2,rfl,rfl,hst2,hC,hW2⟩
   refine zW ?_
   refine Ae rfl (fun c41=> ?_) (fun c41=> ?_)
   ·skip
    have he:e2≠0:=(by simpa using c41)
    refine zC ?_
    exact zL (hR:=by exact ⟨e2,z2,rfl,rfl,hst2,g5 _ _ (by rw [show 8*z.L.nb - t=(8*z.L.nb - (t+1))+1 by omega];exact .stop hc.1 hC he),fun h9=>(hW2 h9).mono (by omega),hC.nb.trans g3⟩)
   ·skip
    have he:e2=0:=(by simpa using c41)
    subst he
    refine zC ?_
    exact ⟨(t+1,z2),⟨by simp only;omega,(hW2 (by decide)).mono (by omega),hst2,hC.nb.trans g3,.step g4 hWk hc.1 hC,fun e z' h9=>g5 e z' (by rw [show 8*z.L.nb - t=(8*z.L.nb - (t+1))+1 by omega];exact .go hc.1 hC h9)⟩,by simp only;omega,by rw [← hst2];exact lZ⟩
 ·skip
  have hc:1<B6 z1.L.bs z1.L.nb∨t=8*z.L.nb:=(by simp only [A1u,A1k] at c24;omega)
  refine zC ?_
  exact zL (hR:=by exact ⟨0,z1,rfl,rfl,rfl,g5 _ _ (by rcases hc with h9 | h9;exact .enough h9;(rw [h9,A5h];exact .out)),fun h9=>g1.mono (by omega),g3⟩)
theorem Aiu (h:WI n k q z) (hk:k≤299999500000) (hq:q.n≤3) (hS:Aar n q z) {kind:By} {s:Sl By} {b:Nat} (hj:s.list.length≤70000000000000) (hkd:3<kind.toNat) (hw:C1 kind s.list=false) :
  Does Tryz.prog 68 [ptr z.S.st,bv kind,.slice (some ⟨b,0,none⟩) 1 1] ((z.S.st,true,C (stC z.S) tSt)::(z.S.ib,true,z.S.idx.obj .i64)::(z.S.pb,true,z.S.pend.obj .i64)::(lgH z.L++((b,true,C [s.val] tSB)::(s.hp tU8++[]))))
  (fun v H=>∃ (e:Int) (y:Pl2) (z':Sg),v= .tuple #[.agg #[.int .i64 y.1,.int .i64 y.2],.int .i64 e]∧H=(z'.S.st,true,C (stC z'.S) tSt)::(z'.S.ib,true,z'.S.idx.obj .i64)::(z'.S.pb,true,z'.S.pend.obj .i64)::(lgH z'.L++[])∧z'.S.st=z.S.st∧PutG n q z (Cp kind s.list) e y z'∧(e≠30→WI n (k+320080) q z')):=by
 refine zF 24 Tryz.func68 ?_
 refine zC ?_
 refine Aj rfl (fun b6=> ?_)
 refine zC ?_
 refine zE rfl (Ap4 (z:=z) h (by omega) hq hS) ?_
 rintro _ _ ⟨e1,z1,rfl,rfl,hst1,hR,hW1,hnb1⟩
 refine zW ?_
 refine Ae rfl (fun c12=> ?_) (fun c12=> ?_)
 ·skip
  have he:e1≠0:=(by simpa using c12)
  refine zC ?_
  exact zL (hR:=by exact ⟨e1,(0,0),z1,rfl,rfl,hst1,.inl ⟨he,hR⟩,fun h9=>(hW1 h9).mono (by omega)⟩)
 ·skip
  have he:e1=0:=(by simpa using c12)
  subst he
  have hWI:=hW1 (by decide)
  obtain ⟨V1,hZ1⟩:=hWI.2
  rw [← hst1]
  refine zA ?_
  refine Ah (show Rd _ _ _ _ (ptr z1.L.lg) from by rw [← hWI.1];exact Al rfl mM rfl) rfl ?_
  refine zC ?_
  refine Ci rfl (Vu (L:=z1.L) (b:=b) hZ1 (by omega) hq hj hkd hw) sP rfl (fun v21 Y21 h21=> ?_)
  obtain ⟨L2,e2,pb,pj,rfl,rfl,hA⟩:=h21
  obtain ⟨R2,hG,hW2⟩:=hA.g hWI.1 (by omega)
  refine A5 aQ ?_
  refine zC ?_
  exact zL (hR:=by exact ⟨e2,(pb,pj),⟨z1.S,L2,R2⟩,rfl,rfl,rfl,.inr ⟨z1,hR,hG⟩,fun h9=>(hW2 h9).mono (by omega)⟩)
end
end
section
open Go.K
instance ent92:Ent Tryz.prog 92:=⟨fun _ _=>by kernel_rfl⟩
instance ent98:Ent Tryz.prog 98:=⟨fun _ _=>by kernel_rfl⟩
instance ent99:Ent Tryz.prog 99:=⟨fun _ _=>by kernel_rfl⟩
def SeenK {α:Type} (m:Mp α) (seen:List Nat) (k:Int):Prop:=∃ e∈m.es,e.n∈seen∧e.k=k
theorem SeenK.add {α:Type} {m:Mp α} {seen:List Nat} {e:Me α} (he:e∈m.es) {k:Int}:SeenK m (seen++[e.n]) k↔SeenK m seen k∨k=e.k:=by
 constructor
 ·rintro ⟨x,h1,h2,h3⟩
  rcases A4f.1 h2 with h | h
  ·exact .inl ⟨x,h1,h,h3⟩
  ·have:=Mp.n_inj h1 he (A2z.1 h)
   exact .inr (by rw [← h3,this])
 ·rintro (⟨x,h1,h2,h3⟩ | rfl)
  ·exact ⟨x,h1,A18 _ h2,h3⟩
  ·exact ⟨e,he,A10 _ (A2z.2 rfl),rfl⟩
theorem SeenK.no {α:Type} {m:Mp α} {k:Int}:¬ SeenK m [] k:=fun ⟨_,_,h,_⟩=>nomatch h
theorem SeenK.all {α:Type} {m:Mp α} {seen:List Nat} (h:∀ e∈m.es,e.n∈seen) {k:Int}:SeenK m seen k↔(m.get k).isSome=true:=by
 rw [Mp.get_some]
 constructor
 ·rintro ⟨e,h1,_,rfl⟩
  exact A5b.2 ⟨e,h1,rfl⟩
 ·intro hk
  obtain ⟨e,h1,h2⟩:=A5b.1 hk
  exact ⟨e,h1,h e h1,h2⟩
def CopI {α:Type} (d s:Mp α) (seen:List Nat) (c:Mp α):Prop:=(∀ k,SeenK s seen k→c.get k=s.get k)∧∀ k,¬ SeenK s seen k→c.get k=d.get k
theorem CopI.put {α:Type} {d s c:Mp α} {seen:List Nat} {e:Me α} (h:CopI d s seen c) (he:e∈s.es):CopI d s (seen++[e.n]) (c.put e.k e.v):=by
 refine ⟨fun k hk=> ?_,fun k hk=> ?_⟩
 ·rw [Mp.get_put]
  by_cases e1:k=e.k
  ·rw [if_pos e1,e1];exact (Mp.get_mem he).symm
  ·rw [if_neg e1]
   exact h.1 k (((SeenK.add he).1 hk).resolve_right e1)
 ·have h1:¬ (SeenK s seen k∨k=e.k):=fun h2=>hk ((SeenK.add he).2 h2)
  rw [Mp.get_put,if_neg (fun e1=>h1 (.inr e1))]
  exact h.2 k fun h2=>h1 (.inl h2)
def orE {α:Type} (a b:Option α):Option α:=match a with | some v=>some v | none=>b
def Azy {α:Type} (d s m:Mp α):Prop:=∀ k,m.get k=orE (s.get k) (d.get k)
theorem CopI.over {α:Type} {d s c:Mp α} {seen:List Nat} (h:CopI d s seen c) (hl:G5 s seen=[]):Azy d s c:=fun k=>by
 have ha:=SeenK.all (Ip hl) (k:=k)
 cases hs:s.get k with
 | none=>exact h.2 k fun h2=>by have:=ha.1 h2;rw [hs] at this;cases this
 | some v=>rw [h.1 k (ha.2 (by rw [hs];rfl)),hs];rfl
theorem Aiv {b1 b2:Nat} {d s:Mp En}:Does Tryz.prog 92 [.map (some b1),.map (some b2)] ((b1,true,d.obj .i64)::(b2,true,s.obj .i64)::[])
  (fun v H=>∃ m:Mp En,v= .tuple #[]∧H=(b1,true,m.obj .i64)::(b2,true,s.obj .i64)::[]∧Azy d s m):=by
 refine zF 16 Tryz.func92 ?_
 refine zC ?_
 refine I3 rfl mM rfl (fun it7=> ?_)
 refine zC ?_
 refine At [0,7] kQ (fun (st:List Nat×Mp En)=>[]) (fun st=>(it7,true,itO b2 s.cl st.1 s.cl)::(b1,true,st.2.obj .i64)::(b2,true,s.obj .i64)::[]) (fun st=>CopI d s st.1 st.2) (fun st=>If s st.1) (([],d)) ⟨fun k h=>absurd h SeenK.no,fun k _=>rfl⟩ kP sP ?_
 rintro ⟨seen,c⟩ g0
 simp only at g0
 refine zC ?_
 refine Lf rfl (by repeat (first | exact Pick.here | apply Pick.there | apply Pick.app)) mM (Mp.wc _) (A5q _) rfl (fun hl8=> ?_) (fun e8 he8 hn8=> ?_)
 ·refine zC ?_
  refine Ay rfl ?_
  refine zC ?_
  exact zLN (hR:=by exact ⟨c,rfl,rfl,g0.over hl8⟩)
 ·refine zC ?_
  refine Gb rfl ?_
  refine zC ?_
  refine Ah (I4 rfl mM mM he8) rfl ?_
  refine zC ?_
  refine Aj rfl (fun b5=> ?_)
  refine zC ?_
  refine Xn (m:=c) (v:=e8.v) (kd:= .i64) rfl rfl rfl uD ?_
  refine zC ?_
  exact ⟨(seen++[e8.n],c.put e8.k e8.v),(g0.put he8),(C5 he8 hn8),lZ⟩
structure DelI {α:Type} (m:Mp α) (p:Int→Bool) (seen:List Nat) (c:Mp α):Prop where
 cl:c.cl=m.cl
 sub:∀ e∈c.es,e∈m.es
 sup:∀ e∈m.es,e.n∉seen→e∈c.es
 gone:∀ k,SeenK m seen k→p k=false→c.get k=none
 stay:∀ k,(¬ SeenK m seen k∨p k=true)→c.get k=m.get k
theorem DelI.start {α:Type} (m:Mp α) (p:Int→Bool):DelI m p [] m:=⟨rfl,fun _ h=>h,fun _ h _=>h,fun k h=>absurd h SeenK.no,fun _ _=>rfl⟩
theorem DelI.skip {α:Type} {m c:Mp α} {p:Int→Bool} {seen:List Nat} {e:Me α} (h:DelI m p seen c) (he:e∈m.es) (hp:p e.k=true):DelI m p (seen++[e.n]) c:=by
 refine ⟨h.cl,h.sub,fun x hx hn=>h.sup x hx fun h2=>hn (A18 _ h2),fun k hk hpk=> ?_,fun k hk=> ?_⟩
 ·rcases (SeenK.add he).1 hk with h1 | rfl
  ·exact h.gone k h1 hpk
  ·rw [hp] at hpk;cases hpk
 ·refine h.stay k ?_
  rcases hk with h1 | h1
  ·exact .inl fun h2=>h1 ((SeenK.add he).2 (.inl h2))
  ·exact .inr h1
theorem DelI.del {α:Type} {m c:Mp α} {p:Int→Bool} {seen:List Nat} {e:Me α} (h:DelI m p seen c) (he:e∈m.es) (hp:p e.k=false):DelI m p (seen++[e.n]) (c.del e.k):=by
 refine ⟨h.cl,fun x hx=>h.sub x (A4g.1 hx).1,fun x hx hn=>A4g.2 ⟨h.sup x hx fun h2=>hn (A18 _ h2),?_⟩,fun k hk hpk=> ?_,fun k hk=> ?_⟩
 ·simp only [A23,A1k]
  intro h3
  apply hn
  have:x=e:=by
   have h4:=Mp.get_mem hx
   have h5:=Mp.get_mem he
   have:∀ (es:List (Me α)),(es.map (·.k)).Nodup→x∈es→e∈es→x=e:=fun es=>by
    induction es with
    | nil=>intro _ h;cases h
    | cons y es ih =>
     intro hn ha hb
     rw [A45,A4i] at hn
     rcases A46.1 ha with ha | ha <;> rcases A46.1 hb with hb | hb
     ·rw [ha,hb]
     ·exact absurd (A5b.2 ⟨e,hb,by rw [← ha,h3]⟩) hn.1
     ·exact absurd (A5b.2 ⟨x,ha,by rw [← hb,h3]⟩) hn.1
     ·exact ih hn.2 ha hb
   exact this m.es m.wk hx he
  rw [this]
  exact A10 _ (A2z.2 rfl)
 ·rw [Mp.get_del]
  split
  ·rfl
  ·rename_i hne
   exact h.gone k (((SeenK.add he).1 hk).resolve_right hne) hpk
 ·rw [Mp.get_del]
  have hne:k≠e.k:=fun e1=>by
   rcases hk with h1 | h1
   ·exact h1 ((SeenK.add he).2 (.inr e1))
   ·rw [e1,hp] at h1;cases h1
  rw [if_neg hne]
  refine h.stay k ?_
  rcases hk with h1 | h1
  ·exact .inl fun h2=>h1 ((SeenK.add he).2 (.inl h2))
  ·exact .inr h1
def Azz {α:Type} (m:Mp α) (p:Int→Bool) (c:Mp α):Prop:=∀ k,c.get k=if p k=true then m.get k else none
theorem DelI.only {α:Type} {m c:Mp α} {p:Int→Bool} {seen:List Nat} (h:DelI m p seen c) (hl:G5 c seen=[]):Azz m p c:=fun k=>by
 have ha:∀ e∈m.es,e.n∈seen:=fun e he=>by
  by_cases h1:e.n∈seen
  ·exact h1
  ·exact Ip hl e (h.sup e he h1)
 by_cases hp:p k=true
 ·rw [if_pos hp];exact h.stay k (.inr hp)
 ·rw [if_neg hp]
  by_cases hs:SeenK m seen k
  ·exact h.gone k hs (by simpa using hp)
  ·rw [h.stay k (.inl hs)]
   have:=SeenK.all ha (k:=k)
   cases hg:m.get k with
   | none=>rfl
   | some v=>exact absurd (this.2 (by rw [hg];rfl)) hs
theorem DelI.wc {α:Type} {m c:Mp α} {p:Int→Bool} {seen:List Nat} (h:DelI m p seen c):∀ e∈c.es,e.n<m.cl:=fun e he=>m.wc e (h.sub e he)
theorem Ap5 {k:Int} {e:En} {b:Nat} {l:Lv}:Does Tryz.prog 99 [.int .i64 k,.agg (Ak7 e).toArray,ptr b] [(b,true,C (vbc l) tLv)] (Is (.bool (!Bj l k)) [(b,true,C (vbc l) tLv)]):=by
 refine zF 10 Tryz.func99 ?_
 refine zC ?_
 refine Dj rfl rfl (fun b4=> ?_)
 refine zA ?_
 refine Ah (Am rfl mM (by first | exact Ax | rfl)) rfl ?_
 refine zC ?_
 refine zI rfl (Vo) ?_
 refine zC ?_
 exact zS
theorem Auf {b b3:Nat} {m:Mp En} {l:Lv}:Does Tryz.prog 98 [.map (some b),.func (.func 99) #[] #[ptr b3]] ((b,true,m.obj .i64)::(b3,true,C (vbc l) tLv)::[])
  (fun v H=>∃ c:Mp En,v= .tuple #[]∧H=(b,true,c.obj .i64)::(b3,true,C (vbc l) tLv)::[]∧Azz m (Bj l) c):=by
 refine zF 19 Tryz.func98 ?_
 refine zC ?_
 refine I3 rfl mM rfl (fun it7=> ?_)
 refine zC ?_
 refine At [0,1,7] kQ (fun (st:List Nat×Mp En)=>[]) (fun st=>(it7,true,itO b m.cl st.1 m.cl)::(b,true,st.2.obj .i64)::(b3,true,C (vbc l) tLv)::[]) (fun st=>DelI m (Bj l) st.1 st.2) (fun st=>If m st.1) (([],m)) (DelI.start m _) kP sP ?_
 rintro ⟨seen,c⟩ g0
 simp only at g0
 refine zC ?_
 refine Lf rfl (by repeat (first | exact Pick.here | apply Pick.there | apply Pick.app)) mM g0.wc (A5q _) rfl (fun hl8=> ?_) (fun e8 he8 hn8=> ?_)
 ·refine zC ?_
  refine Ay rfl ?_
  refine zC ?_
  exact zLN (hR:=by exact ⟨c,rfl,rfl,g0.only hl8⟩)
 ·refine zC ?_
  have hem:=g0.sub e8 he8
  refine zC ?_
  refine Gb rfl ?_
  refine zC ?_
  refine Ah (I4 rfl mM mM he8) rfl ?_
  refine zC ?_
  refine Aj rfl (fun b5=> ?_)
  refine zC ?_
  refine Xc (fi:=[]) (ca:=[ptr b3]) rfl rfl (Ap5 (k:=e8.k) (e:=e8.v) (b:=b3) (l:=l)) sP rfl aQ ?_
  refine zC ?_
  refine Ae rfl (fun c16=> ?_) (fun c16=> ?_)
  ·skip
   have hp:Bj l e8.k=false:=(by simpa using c16)
   refine zC ?_
   refine Av2 rfl rfl uD ?_
   refine zC ?_
   rw [g0.cl]
   first | exact ⟨(seen++[e8.n],c.del e8.k),g0.del hem hp,C5 hem hn8,lZ⟩ | exact ⟨(seen++[e8.n],c),g0.skip hem hp,C5 hem hn8,lZ⟩
  ·skip
   have hp:Bj l e8.k=true:=(by simpa using c16)
   refine zC ?_
   rw [g0.cl]
   first | exact ⟨(seen++[e8.n],c.del e8.k),g0.del hem hp,C5 hem hn8,lZ⟩ | exact ⟨(seen++[e8.n],c),g0.skip hem hp,C5 hem hn8,lZ⟩
end
section
open Go.K
instance und63:Und Tryz.prog 63 (.map 3 3):=⟨Tryz.underlying63⟩
instance agg63:Agg Tryz.prog 63 false:=⟨⟨_,Tryz.underlying63,rfl⟩⟩
instance fld67_3:Fld Tryz.prog 67 3 3:=⟨⟨_,_,0,Tryz.underlying67,rfl,by kernel_rfl,rfl⟩⟩
instance fld67_9:Fld Tryz.prog 67 9 46:=⟨⟨_,_,0,Tryz.underlying67,rfl,by kernel_rfl,rfl⟩⟩
instance fld67_10:Fld Tryz.prog 67 10 47:=⟨⟨_,_,0,Tryz.underlying67,rfl,by kernel_rfl,rfl⟩⟩
instance ent58:Ent Tryz.prog 58:=⟨fun _ _=>by kernel_rfl⟩
instance ent60:Ent Tryz.prog 60:=⟨fun _ _=>by kernel_rfl⟩
instance ent97:Ent Tryz.prog 97:=⟨fun _ _=>by kernel_rfl⟩
instance mcl:Mcl Tryz.prog 139:=⟨_,Tryz.func139,by kernel_rfl,rfl,by kernel_rfl,by kernel_rfl⟩
theorem Ald {b:Nat} {m:Mp En}:Does Tryz.prog 97 [.map (some b)] ((b,true,m.obj .i64)::[])
  (fun v H=>∃ c:Nat,v= .map (some c)∧H=(c,true,m.obj .i64)::(b,true,m.obj .i64)::[]):=by
 refine zF 9 Tryz.func97 ?_
 refine zA ?_
 refine Ah (Aj8 rfl rfl) rfl ?_
 refine zC ?_
 refine Ay rfl ?_
 refine zC ?_
 refine Ah (Aw8 rfl) rfl ?_
 refine Ant (m:=m) (kd:= .i64) rfl mM rfl (fun b7=> ?_)
 refine Ah (Afl rfl) rfl ?_
 refine zC ?_
 exact zL (hR:=by exact ⟨b7,rfl,rfl⟩)
def N0 (S:Sto) (l:Lv) (m:Mp En):Prop:=∀ k,m.get k=if Bj l k=true then orE (S.pend.get k) (S.idx.get k) else none
theorem Ap6 {S:Sto} {l:Lv}:Does Tryz.prog 60 [ptr S.st,.agg (vbc l).toArray] ((S.st,true,C (stC S) tSt)::(S.ib,true,S.idx.obj .i64)::(S.pb,true,S.pend.obj .i64)::[])
  (fun v H=>∃ (c:Nat) (m:Mp En),v= .map (some c)∧H=(c,true,m.obj .i64)::(S.st,true,C (stC S) tSt)::(S.ib,true,S.idx.obj .i64)::(S.pb,true,S.pend.obj .i64)::[]∧N0 S l m):=by
 refine zF 21 Tryz.func60 ?_
 refine zC ?_
 refine Do rfl rfl (fun b3=> ?_)
 refine zC ?_
 refine zE rfl (Ald) ?_
 rintro _ _ ⟨b10,rfl,rfl⟩
 refine zW ?_
 refine zE rfl (Aiv) ?_
 rintro _ _ ⟨m16,rfl,rfl,hO16⟩
 refine zW ?_
 refine Ah (Pm rfl) rfl ?_
 refine zE rfl (Auf) ?_
 rintro _ _ ⟨c19,rfl,rfl,hO19⟩
 refine zW ?_
 exact zL (hR:=by exact ⟨b10,c19,rfl,rfl,fun k=>by rw [hO19 k,hO16 k]⟩)
def Jg (a b:Wd):Wd:=if a.toNat<b.toNat then b else a
def Aug (S:Sto) (c:Cm) (y:Pl2) (m:Mp En):Sto:={ S with idx:=m,stray:=S.stray.clr,last:=c,la:=y,hurt:=false,seen:=Jg S.seen c.ep }
def EndR (n:Nat) (q:Qt) (z:Sg) (c:Cm) (e:Int) (z':Sg):Prop :=
 ∃ y z1,PutG n q z (Cp 11 (Ge c)) e y z1∧((e≠0∧z'=z1)∨(e=0∧∃ m,N0 z1.S c.lv m∧z'={ z1 with S:=Aug z1.S c y m }))
theorem Js (c:Cm):(Ge c).length=44:=by
 unfold Ge
 simp [A4]
structure SameS (S S':Sto):Prop where
 st:S'.st=S.st
 lg:S'.lg=S.lg
 ib:S'.ib=S.ib
 pb:S'.pb=S.pb
 sb:S'.sb=S.sb
 last:S'.last=S.last
 vw:S'.vw=S.vw
 viewed:S'.viewed=S.viewed
 seen:S'.seen=S.seen
 hurt:S'.hurt=S.hurt
 stray:S'.stray=S.stray
theorem SameS.refl (S:Sto):SameS S S:=⟨rfl,rfl,rfl,rfl,rfl,rfl,rfl,rfl,rfl,rfl,rfl⟩
theorem SameS.trans {S S' S'':Sto} (h:SameS S S') (k:SameS S' S''):SameS S S'' :=
 ⟨k.st.trans h.st,k.lg.trans h.lg,k.ib.trans h.ib,k.pb.trans h.pb,k.sb.trans h.sb,k.last.trans h.last,k.vw.trans h.vw,k.viewed.trans h.viewed,k.seen.trans h.seen,k.hurt.trans h.hurt,k.stray.trans h.stray⟩
theorem SameS.of {S S':Sto} (h:S'=S):SameS S S':=by subst h;exact .refl _
theorem Vv (S:Sto) (f t:Pl2):SameS S (C9 S f t):=⟨rfl,rfl,rfl,rfl,rfl,rfl,rfl,rfl,rfl,rfl,rfl⟩
theorem ShR.same {n:Nat} {q:Qt} {z z':Sg} {x:Pl2} {p:Pg} {e:Int} (h:ShR n q z x p e z'):SameS z.S z'.S:=by
 obtain ⟨y,z1,h1,h2⟩:=h
 subst h2
 split
 ·exact (SameS.of h1.1).trans (Vv _ _ _)
 ·exact .of h1.1
theorem EmA.same {n:Nat} {q:Qt} {xs:List Pl2} {z z':Sg} {e:Int} (h:EmA n q xs z e z'):SameS z.S z'.S:=by
 induction h with
 | nil=>exact .refl _
 | skip _ _ ih=>exact ih
 | stop _ _ hs _=>exact hs.same
 | go _ _ hs _ ih=>exact hs.same.trans ih
theorem EmR.same {n:Nat} {q:Qt} {b:Nat} {xs:List Pl2} {z z':Sg} {e:Int} (h:EmR n q b xs z e z'):SameS z.S z'.S:=by
 rcases h with ⟨_,h⟩ | ⟨z1,h,hd⟩
 ·exact h.same
 ·exact h.same.trans (.of hd.1)
theorem ColR.same {n:Nat} {q:Qt} {z z':Sg} {e:Int} (h:ColR n q z e z'):SameS z.S z'.S:=by
 obtain ⟨ss,_,h⟩:=h
 rcases h with ⟨_,_,rfl⟩ | ⟨_,g,b,_,_,_,h⟩
 ·exact .refl _
 ·exact h.same
theorem RoomR.same {n:Nat} {q:Qt} {m:Nat} {z z':Sg} {e:Int} (h:RoomR n q m z e z'):SameS z.S z'.S:=by
 induction h with
 | enough _=>exact .refl _
 | out=>exact .refl _
 | stop _ hc _=>exact hc.same
 | go _ hc _ ih=>exact hc.same.trans ih
theorem PutG.same {n:Nat} {q:Qt} {z z':Sg} {p:Pg} {e:Int} {y:Pl2} (h:PutG n q z p e y z'):SameS z.S z'.S:=by
 rcases h with ⟨_,h⟩ | ⟨z1,h,ha⟩
 ·exact h.same
 ·exact h.same.trans (.of ha.1)
section
variable {n k:Nat} {q:Qt} {z:Sg}
theorem Ax3 (h:WI n k q z) (hk:k≤299999500000) (hq:q.n≤3) (hS:Aar n q z) {c:Cm} :
  Does Tryz.prog 58 [ptr z.S.st,.agg (cmC c).toArray] ((z.S.st,true,C (stC z.S) tSt)::(z.S.ib,true,z.S.idx.obj .i64)::(z.S.pb,true,z.S.pend.obj .i64)::(z.S.sb,true,z.S.stray.obj .i64)::(lgH z.L++[]))
  (fun v H=>∃ (e:Int) (z':Sg),v= .int .i64 e∧H=(z'.S.st,true,C (stC z'.S) tSt)::(z'.S.ib,true,z'.S.idx.obj .i64)::(z'.S.pb,true,z'.S.pend.obj .i64)::(z'.S.sb,true,z'.S.stray.obj .i64)::(lgH z'.L++[])∧z'.S.st=z.S.st∧EndR n q z c e z'∧(e≠30→WI n (k+320080) q z')):=by
 refine Dw (n:=72) Tryz.func58 Tryz.ntmps58 rfl (A13 rfl)<|Ag<|Aa fun ops=> ?_
 refine Do rfl rfl fun b3=> ?_
 refine oA rfl<|Ad<|n_K<|Ag<|Aa fun ops=>oM rfl ?_
 refine oR (Am rfl mM (by first | exact J1 | rfl)) ?_
 refine Ci rfl (Ak6) sP rfl fun v11 Y11 h11=> ?_
 obtain ⟨s11,rfl,rfl,hs11,ho11⟩:=h11
 refine A5 aQ ?_
 refine Ao rfl rfl rfl rfl fun b12=> ?_
 refine Ci rfl (Aiu (z:=z) h hk hq hS (kind:=11) (s:=s11) (b:=b12) (by rw [hs11,Js];decide) (by decide) (by rw [hs11];unfold C1;rw [Js];rfl)) sP rfl fun v13 Y13 h13=> ?_
 obtain ⟨e1,y1,z1,rfl,rfl,hst1,hP,hW⟩:=h13
 rw [hs11] at hP
 have hsm:=hP.same
 rw [← hsm.sb,← hsm.stray]
 refine A5 aQ ?_
 refine oM rfl<|oE rfl rfl<|oE rfl rfl ?_
 refine Aj rfl fun b5=> ?_
 refine Ac rfl rfl uD rfl rfl rfl ?_
 refine oA rfl<|Ad<|n_K<|Ag<|Ag<|Aa fun ops=>oM rfl<|oR (An rfl rfl rfl)<|Ad<|n_K ?_
 refine Ae rfl (fun c17=> ?_) (fun c17=> ?_)
 ·skip
  have he:e1≠0:=(by simpa using c17)
  refine Ag<|Aa fun ops=>oM rfl<|oA rfl<|Ad<|n_K<|D3<|r_K ?_
  exact A9 (Aw Tryz.results58 (Af rfl)) (by exact ⟨e1,z1,rfl,rfl,hst1,⟨y1,z1,hP,.inl ⟨he,rfl⟩⟩,hW⟩) sP
 ·skip
  have he:e1=0:=(by simpa using c17)
  subst he
  rw [← hst1]
  refine Bd<|n_K<|Ag ?_
  refine D7 [] [(8,[(0,false),(1,false),(2,false),(3,false),(4,false),(5,false),(6,false),(7,false)]),(9,[(8,true)])] (by kernel_rfl) rfl fun ops w0 H0 y=> ?_
  refine Ce<|xM rfl<|xN rfl<|xF rfl ?_
  refine xR (Al rfl mM rfl) ?_
  refine xM rfl<|xN rfl<|xF rfl ?_
  refine xR (Al rfl mM rfl) ?_
  refine As<|Dx<|B1 ?_
  refine Ci rfl (Aiv) sP rfl fun v27 Y27 h27=> ?_
  obtain ⟨m27,rfl,rfl,hO27⟩:=h27
  refine A5 aQ ?_
  refine Ad ⟨rfl,⟨_,sP⟩,?_⟩
  refine As<|Eh<|n_K<|Ag<|Ag<|Aa fun ops=>oM rfl<|oN rfl<|oF rfl ?_
  refine oR (Al rfl mM rfl) ?_
  refine I3 rfl mM rfl fun it32=> ?_
  refine Ad<|n_K<|Bf ?_
  refine At [0,3,5,32] kQ (fun (st:List Nat×Mp En)=>[]) (fun (st:List Nat×Mp En)=>(it32,true,itO z1.S.ib m27.cl st.1 m27.cl)::(b3,true,C (cmC c) tCm)::(b5,true,C [.int .i64 y1.1,.int .i64 y1.2] tPc)::(z1.S.st,true,C (stC z1.S) tSt)::(z1.S.ib,true,st.2.obj .i64)::(z1.S.pb,true,z1.S.pend.obj .i64)::(z1.S.sb,true,z1.S.stray.obj .i64)::(lgH z1.L++[])) (fun (st:List Nat×Mp En)=>DelI m27 (Bj c.lv) st.1 st.2) (fun (st:List Nat×Mp En)=>If m27 st.1) (([],m27)) (DelI.start m27 _) kP sP ?_
  rintro ⟨seen,X⟩ g0
  simp only at g0
  refine Ag<|Aa fun ops=> ?_
  refine Lf rfl (by repeat (first | exact Pick.here | apply Pick.there | apply Pick.app)) mM g0.wc (A5q _) rfl (fun hl33=> ?_) (fun e33 he33 hn33=> ?_)
  ·refine oE rfl rfl<|Ad<|n_K<|Ag ?_
   refine Ay rfl ?_
   refine E9<|x_K<|x_K<|Hv<|n_K<|Ag<|Aa fun ops=>oM rfl<|oN rfl<|oF rfl ?_
   refine oR (Al rfl mM rfl) ?_
   refine Ahu rfl uD ?_
   refine Ad<|n_K<|Ag ?_
   refine Pf [] [0,1,2] [[(3,false),(4,false),(5,false),(6,false),(7,true)],[(8,false)],[(9,false)],[(10,true)],[(11,false)],[(12,false)],[(13,true)]] (by kernel_rfl) rfl rfl fun ops w0 H0 y=> ?_
   unfold Afh
   refine xM rfl<|xM rfl<|xM rfl<|As ?_
   refine An8 [(b3,true,C (cmC c) tCm),(b5,true,C [.int .i64 y1.1,.int .i64 y1.2] tPc)] sP ?_
   refine xR (Am rfl mM (by first | exact J1 | rfl)) ?_
   refine xR (Am rfl mM rfl) ?_
   refine xN rfl<|xF rfl<|B1 ?_
   first | refine Ac (cs':=stC { z1.S with last:=c }) rfl rfl uD (My) (Bu) (Mz z1.S c) ?_ | refine Ac (cs':=stC { z1.S with last:=c,la:=y1 }) rfl rfl uD rfl rfl (Dq (S:={ z1.S with last:=c }) rfl rfl) ?_ | refine Ac (cs':=stC { z1.S with last:=c,la:=y1,hurt:=false }) rfl rfl uD rfl rfl (Dq (S:={ z1.S with last:=c,la:=y1 }) rfl rfl) ?_
   refine Ad ⟨rfl,⟨_,sP⟩,?_⟩
   refine As<|Ce<|xN rfl<|As<|Ce<|xF rfl<|As<|Dx<|B1 ?_
   first | refine Ac (cs':=stC { z1.S with last:=c }) rfl rfl uD (My) (Bu) (Mz z1.S c) ?_ | refine Ac (cs':=stC { z1.S with last:=c,la:=y1 }) rfl rfl uD rfl rfl (Dq (S:={ z1.S with last:=c }) rfl rfl) ?_ | refine Ac (cs':=stC { z1.S with last:=c,la:=y1,hurt:=false }) rfl rfl uD rfl rfl (Dq (S:={ z1.S with last:=c,la:=y1 }) rfl rfl) ?_
   refine Ad ⟨rfl,⟨_,sP⟩,?_⟩
   refine As<|Ce<|xN rfl<|As<|Ce<|xF rfl<|As<|Dx<|B1 ?_
   first | refine Ac (cs':=stC { z1.S with last:=c }) rfl rfl uD (My) (Bu) (Mz z1.S c) ?_ | refine Ac (cs':=stC { z1.S with last:=c,la:=y1 }) rfl rfl uD rfl rfl (Dq (S:={ z1.S with last:=c }) rfl rfl) ?_ | refine Ac (cs':=stC { z1.S with last:=c,la:=y1,hurt:=false }) rfl rfl uD rfl rfl (Dq (S:={ z1.S with last:=c,la:=y1 }) rfl rfl) ?_
   refine Ad ⟨rfl,⟨_,sP⟩,?_⟩
   refine As<|Eh<|n_K<|Ag ?_
   refine D7 [] [(10,[(0,false),(1,false),(2,false),(3,false),(4,false),(5,false),(6,false),(7,false),(8,false),(9,false)]),(11,[(10,true)])] (by kernel_rfl) rfl fun ops w0 H0 y=> ?_
   refine Ce<|xM rfl<|xM rfl<|xN rfl<|xF rfl ?_
   refine xR (show Rd _ _ _ _ (wv z1.S.seen) from Al rfl mM (J2 (S:={ z1.S with last:=c,la:=y1,hurt:=false }) (o:=8) rfl)) ?_
   refine xF rfl ?_
   refine xR (Al rfl mM rfl) ?_
   refine xR (O3 rfl rfl)<|xN rfl<|xF rfl<|As<|Dx<|B1 ?_
   refine Ac (cs':=stC { z1.S with last:=c,la:=y1,hurt:=false,seen:=Jg z1.S.seen c.ep }) rfl rfl uD rfl rfl (Dq (S:={ z1.S with last:=c,la:=y1,hurt:=false }) rfl rfl) ?_
   refine Ad ⟨rfl,⟨_,sP⟩,?_⟩
   refine As<|Eh<|n_K<|Ag<|Aa fun ops=>oA rfl<|Ad<|n_K<|D3 ?_
   exact A9 (Aw Tryz.results58 (Af rfl)) (by exact ⟨0,{ z1 with S:=Aug z1.S c y1 X },rfl,rfl,rfl,⟨y1,z1,hP,.inr ⟨rfl,X,fun k=>by rw [(g0.only hl33) k,hO27 k],rfl⟩⟩,fun h9=>⟨(hW (by decide)).1,(hW (by decide)).2⟩⟩) sP
  ·refine oE rfl rfl<|Ad ?_
   have hem:=g0.sub e33 he33
   refine n_K<|Ag ?_
   refine Gb rfl ?_
   refine Bd<|n_K<|Bf<|Ag<|Aa fun ops=> ?_
   refine oR (I4 rfl mM mM he33) ?_
   refine oE rfl rfl<|oA rfl<|Ad<|n_K<|Ag<|Aa fun ops=>oF rfl ?_
   refine oR (Am rfl mM (Agj c)) ?_
   refine oM rfl ?_
   refine Jv rfl (Vo) sP rfl aQ ?_
   refine oR (D6 rfl)<|Ad<|n_K ?_
   refine Ae rfl (fun c41=> ?_) (fun c41=> ?_)
   ·skip
    have hp:Bj c.lv e33.k=false:=(by simpa using c41)
    refine Aa fun ops=>oM rfl<|oN rfl<|oF rfl ?_
    refine oR (Al rfl mM rfl) ?_
    refine oM rfl ?_
    refine Av2 rfl rfl uD ?_
    refine Ad<|Cq<|n_K ?_
    rw [g0.cl]
    first | exact ⟨(seen++[e33.n],X.del e33.k),g0.del hem hp,C5 hem hn33,lZ⟩ | exact ⟨(seen++[e33.n],X),g0.skip hem hp,C5 hem hn33,lZ⟩
   ·skip
    have hp:Bj c.lv e33.k=true:=(by simpa using c41)
    refine Bd<|Cq<|n_K ?_
    rw [g0.cl]
    first | exact ⟨(seen++[e33.n],X.del e33.k),g0.del hem hp,C5 hem hn33,lZ⟩ | exact ⟨(seen++[e33.n],X),g0.skip hem hp,C5 hem hn33,lZ⟩
end
end
section
open Go.K
variable {T:TypeId}
instance zv124:ZerV Tryz.prog 124 (.agg #[.int .i64 0,.int .i64 0,.int .u64 0]):=⟨by kernel_rfl⟩
instance ent19:Ent Tryz.prog 19:=⟨fun _ _=>by kernel_rfl⟩
theorem Ale {α:Type} [Mv α] {P:Program} {E:Env} {H:Hp} {t kt et:TypeId} {x y:Operand} {kd:IntKind} {b:Nat} {m:Mp α} {k:Int} {z:Value} {r:Bool} [ht:Und P t (.map kt et)] [hk:Und P kt (.int kd)] [hz:ZerV P et z]
  (hx:ev E x=some (.map (some b))) (hy:ev E y=some (.int kd k)) (hm:(b,r,m.obj kd)∈H) (hg:m.get k=none):Rd P E H (.lookup t x y true) (.tuple #[z,.bool false]):=by
 have:=Rb (P:=P) (t:=t) (kt:=kt) (et:=et) (z:=z) hx hy hm
 rw [hg] at this
 exact this
theorem Agq {α:Type} [Mv α] {P:Program} {E:Env} {H:Hp} {t kt et:TypeId} {x y:Operand} {kd:IntKind} {b:Nat} {m:Mp α} {k:Int} {z:Value} {r:Bool} {v:α} [ht:Und P t (.map kt et)] [hk:Und P kt (.int kd)] [hz:ZerV P et z]
  (hx:ev E x=some (.map (some b))) (hy:ev E y=some (.int kd k)) (hm:(b,r,m.obj kd)∈H) (hg:m.get k=some v):Rd P E H (.lookup t x y true) (.tuple #[Mv.enc v,.bool true]):=by
 have:=Rb (P:=P) (t:=t) (kt:=kt) (et:=et) (z:=z) hx hy hm
 rw [hg] at this
 exact this
theorem Yp (k:Int) (e:Wd) (b:List By):(Ez k e b).length=9+b.length:=by
 unfold Ez
 simp [A4]
 omega
theorem Kv {k:Int} {e:Wd} {b:List By} (h:Bh k b=true):Adw (Ez k e b)=true∧Yn (Ez k e b)=k∧Api (Ez k e b)=e∧(Ez k e b).drop 9=b∧C1 10 (Ez k e b)=false:=by
 unfold Bh at h
 simp only [A3n,A3j] at h
 obtain ⟨m,rfl,hm⟩:=Eo h.1
 have hl:=Yp (m:Int) e b
 have e1:(Ez (m:Int) e b).take 1=B4 1 (BitVec.ofInt 64 (m:Int)):=by
  unfold Ez
  exact A4k (A4 ..)
 have e2:(Ez (m:Int) e b).drop 1=B4 8 e++(b++[]):=by
  unfold Ez
  exact A39 (A4 ..)
 refine ⟨?_,?_,?_,?_,?_⟩
 ·unfold Adw;rw [hl];simp;omega
 ·unfold Yn;rw [e1,Adn hm]
 ·unfold Api;rw [e2,A4k (A4 ..),Kr]
 ·rw [show 9=1+8 from rfl,← A4s,e2,A39 (A4 ..),A37]
 ·unfold C1;rw [hl];simp;omega
abbrev Cn (T:TypeId):K.Blk:=(0,false,C [.int .i64 (-1),.int .i64 (-1)] T)
section
variable {n k:Nat} {q:Qt} {z:Sg}
theorem Alf {key:Int} (hg:z.S.idx.get key=none):Does Tryz.prog 19 [ptr z.S.st,.int .i64 key] ((z.S.st,true,C (stC z.S) tSt)::(z.S.ib,true,z.S.idx.obj .i64)::(z.S.pb,true,z.S.pend.obj .i64)::[])
  (Is (.tuple #[.agg (ndC ⟨0,0,.nil⟩).toArray,.int .i64 0,.int .i64 61]) ((z.S.st,true,C (stC z.S) tSt)::(z.S.ib,true,z.S.idx.obj .i64)::(z.S.pb,true,z.S.pend.obj .i64)::[])):=by
 refine zF 74 Tryz.func19 ?_
 refine zC ?_
 refine Aj rfl (fun b4=> ?_)
 refine zC ?_
 refine Ah (Ale rfl rfl mM hg) rfl ?_
 refine zC ?_
 refine Aj rfl (fun b7=> ?_)
 refine zC ?_
 refine Gb rfl ?_
 refine zC ?_
 exact zS
theorem Yq (h:WI n k q z) {key:Int} {e:En} {bd:List By} (hg:z.S.idx.get key=some e) (hr:RecAt z e.at' (Cp 10 (Ez key e.ep bd))) (hok:Bh key bd=true):Does Tryz.prog 19 [ptr z.S.st,.int .i64 key] (Cn T::(z.S.st,true,C (stC z.S) tSt)::(z.S.ib,true,z.S.idx.obj .i64)::(z.S.pb,true,z.S.pend.obj .i64)::(lgH z.L++[]))
  (fun v H=>∃ s:Sl By,v= .tuple #[.agg (ndC ⟨key,e.ep,s⟩).toArray,.int .i64 0,.int .i64 0]∧H=s.hp tU8++(Cn T::(z.S.st,true,C (stC z.S) tSt)::(z.S.ib,true,z.S.idx.obj .i64)::(z.S.pb,true,z.S.pend.obj .i64)::(lgH z.L++[]))∧s.list=bd∧s.isOwn=true):=by
 obtain ⟨hn1,hn2,hn3,hn4,hn5⟩:=Kv (e:=e.ep) hok
 obtain ⟨at0,ep⟩:=e
 obtain ⟨b,j,rfl,hb,hp⟩:=hr
 obtain ⟨V,hZ⟩:=h.2
 have hpl:plB ((b:Int),((2+j:Nat):Int)) (-1,-1)=false:=by
  unfold plB
  simp
 refine zF 74 Tryz.func19 ?_
 refine zC ?_
 refine Aj rfl (fun b4=> ?_)
 refine zC ?_
 refine Ah (Agq rfl rfl mM hg) rfl ?_
 refine zC ?_
 refine Aj rfl (fun b7=> ?_)
 refine zC ?_
 refine Ay rfl ?_
 iterate 8 refine sb ?_
 refine Ah (show Rd _ _ _ _ (.bool false) from by (rw [← hpl];exact Ll rfl rfl (Vp ((b:Int),((2+j:Nat):Int)) (-1,-1)))) rfl ?_
 refine zC ?_
 refine Ay rfl ?_
 refine zC ?_
 refine A0 [(6,[(0,false),(1,false),(2,false),(3,false),(4,false),(5,false)]),(7,[(6,true)]),(16,[(7,false),(8,false),(9,false),(10,false),(11,false),(12,false),(13,false),(14,false),(15,false)])] (by kernel_rfl) ?_
 refine zA ?_
 refine Aq (show Rd _ _ _ _ (ptr z.L.lg) from by rw [← h.1];exact Al rfl mM rfl) ?_
 refine zC ?_
 refine zE rfl (Aaq hZ hb hp (by decide) hn5) ?_
 rintro _ _ ⟨s38,rfl,rfl,hs38,ho38⟩
 refine zW ?_
 refine Ay rfl ?_
 refine zC ?_
 refine Ci rfl (Adx (s:=s38) (T:=tU8)) sP rfl (fun v49 Y49 h49=> ?_)
 rw [hs38] at h49
 obtain ⟨_,b49,rfl,rfl,hl49,ho49⟩:=h49.resolve_left (fun h9=>by rw [hn1] at h9;exact absurd h9.1 (by decide))
 rw [hn2,hn3]
 rw [hn4] at hl49
 refine A5 aQ ?_
 refine zC ?_
 refine Aj rfl (fun b13=> ?_)
 refine zC ?_
 refine Ae rfl (fun c70=> ?_) (fun c70=> ?_)
 ·skip
  try (exfalso;(simp at c70);done)
  all_goals
   refine zC ?_
   exact zL (hR:=by exact ⟨b49,rfl,rfl,hl49,ho49⟩)
 ·skip
  refine zC ?_
  exact zL (hR:=by exact ⟨b49,rfl,rfl,hl49,ho49⟩)
end
end
section
open Go.K
instance und103:Und Tryz.prog 103 (.slice 40):=⟨Tryz.underlying103⟩
instance ent57:Ent Tryz.prog 57:=⟨fun _ _=>by kernel_rfl⟩
@[irreducible] def I9 (l:List Nd):Hp:=l.flatMap fun x=>x.body.hp tU8
theorem Ap7 {l:List Nd} {i:Nat} {x:Nd} (h:l[i]? =some x) (D:Hp):I9 l++D=I9 (l.take i)++(x.body.hp tU8++(I9 (l.drop (i+1))++D)):=by
 obtain ⟨h1,h2⟩:=A08.1 h
 have e:l=l.take i++x::l.drop (i+1):=by
  conv=>lhs;rw [← A11 i l,A05 h1,h2]
 unfold I9
 conv=>lhs;rw [e]
 simp
abbrev N3:=Int×Wd×List By
def nd3 (x:Nd):N3:=(x.key,x.ep,x.body.list)
def wr1 (z:Sg) (k:Int) (e:Wd):Sg:={ z with S:={ z.S with stray:=z.S.stray.put k 1,seen:=Jg z.S.seen e } }
def wr2 (z:Sg) (k:Int) (e:Wd) (y:Pl2):Sg:={ z with S:={ z.S with pend:=z.S.pend.put k ⟨y,e⟩ } }
inductive WrR (n:Nat) (q:Qt):List N3→Sg→Int→Sg→Prop
 | nil {z:Sg}:WrR n q [] z 0 z
 | stop {k:Int} {e:Wd} {b:List By} {xs:List N3} {z z1:Sg} {er:Int} {y:Pl2}:Bh k b=true→PutG n q (wr1 z k e) (Cp 10 (Ez k e b)) er y z1→er≠0→WrR n q ((k,e,b)::xs) z er z1
 | go {k:Int} {e:Wd} {b:List By} {xs:List N3} {z z1 z':Sg} {er:Int} {y:Pl2}:Bh k b=true→PutG n q (wr1 z k e) (Cp 10 (Ez k e b)) 0 y z1→WrR n q xs (wr2 z1 k e y) er z'→WrR n q ((k,e,b)::xs) z er z'
theorem WrR.app {n:Nat} {q:Qt} {xs ys:List N3} {z z1 z':Sg} {e0 e:Int} (h:WrR n q xs z e0 z1) (h0:e0=0) (h2:WrR n q ys z1 e z'):WrR n q (xs++ys) z e z':=by
 induction h with
 | nil=>exact h2
 | stop _ _ h3=>exact absurd h0 h3
 | go a b _ ih=>exact .go a b (ih h0 h2)
section
variable {n k:Nat} {q:Qt} {z:Sg}
theorem Alg (h:WI n k q z) {nds:Sl Nd} (hln:nds.list.length≤300) (hk:k≤299000000000) (hq:q.n≤3)
  (hS:∀ i z1 x,WrR n q ((nds.list.take i).map nd3) z 0 z1→nds.list[i]? =some x→Bh x.key x.body.list=true→Aar n q (wr1 z1 x.key x.ep)) (hok:∀ x∈nds.list,Bh x.key x.body.list=true) :
  Does Tryz.prog 57 [ptr z.S.st,nds.val] ((z.S.st,true,C (stC z.S) tSt)::(z.S.ib,true,z.S.idx.obj .i64)::(z.S.pb,true,z.S.pend.obj .i64)::(z.S.sb,true,z.S.stray.obj .i64)::(lgH z.L++(nds.hp tNd++(I9 nds.list++[]))))
  (fun v H=>∃ (e:Int) (z':Sg),v= .int .i64 e∧H=(z'.S.st,true,C (stC z'.S) tSt)::(z'.S.ib,true,z'.S.idx.obj .i64)::(z'.S.pb,true,z'.S.pend.obj .i64)::(z'.S.sb,true,z'.S.stray.obj .i64)::(lgH z'.L++[])∧z'.S.st=z.S.st∧WrR n q (nds.list.map nd3) z e z'∧(e≠30→WI n (k+320080*nds.list.length) q z')):=by
 have hsm:=nds.small
 refine zF 61 Tryz.func57 ?_
 refine zC ?_
 refine At [0,10,11] kQ (fun (st:Nat×Sg)=>[(12,.int .i64 st.1)]) (fun st=>(st.2.S.st,true,C (stC st.2.S) tSt)::(st.2.S.ib,true,st.2.S.idx.obj .i64)::(st.2.S.pb,true,st.2.S.pend.obj .i64)::(st.2.S.sb,true,st.2.S.stray.obj .i64)::(lgH st.2.L++(nds.hp tNd++(I9 nds.list++[])))) (fun st=>st.1≤nds.list.length∧WI n (k+320080*st.1) q st.2∧st.2.S.st=z.S.st∧WrR n q ((nds.list.take st.1).map nd3) z 0 st.2) (fun st=>nds.list.length - st.1) ((0,z)) ⟨A5s _,h.mono (by omega),rfl,.nil⟩ kP sP ?_
 rintro ⟨i,z1⟩ ⟨g0,g1,g2,g3⟩
 simp only at g0 g1 g2 g3
 rw [← g2]
 refine zC ?_
 refine Ae rfl (fun c13=> ?_) (fun c13=> ?_)
 ·simp only [A3j,A1k] at c13
  obtain ⟨x,hgx⟩:∃ x,nds.list[i]? =some x:=⟨_,A1d (by omega)⟩
  have htk:(nds.list.take (i+1)).map nd3=(nds.list.take i).map nd3++[nd3 x]:=(by rw [A3g,hgx,A4e];rfl)
  have hall:∀ e z',WrR n q [nd3 x] z1 e z'→e≠0→WrR n q (nds.list.map nd3) z e z':=(fun e z' h1 h2=>by have h3:nds.list.map nd3=(nds.list.take i).map nd3++nd3 x::(nds.list.drop (i+1)).map nd3:=(by obtain ⟨h7,h8⟩:=A08.1 hgx;conv=>lhs;rw [← A11 i nds.list,A05 h7,h8];rw [A4e,A45]);rw [h3];refine g3.app rfl ?_;cases h1 with | stop a b c=>exact .stop a b c | go a b c=>(cases c;exact absurd rfl h2))
  refine zA ?_
  refine Ah (A7 (s:=nds) rfl rfl (by omega)) rfl ?_
  refine Ah (Dd (s:=nds) (o:=0) rfl pL hgx rfl rfl) rfl ?_
  refine Aj rfl (fun b6=> ?_)
  refine zC ?_
  rw [Ap7 hgx]
  have hox:=hok x (A2a hgx)
  refine Ci rfl (Ym (n:=x)) sP rfl (fun v18 Y18 h18=> ?_)
  obtain ⟨_,s18,rfl,rfl,hs18,ho18⟩:=h18.resolve_left (fun h9=>by rw [hox] at h9;exact absurd h9.1 (by decide))
  refine A5 aQ ?_
  refine zC ?_
  refine Ay rfl ?_
  refine zC ?_
  refine A0 [(6,[(0,false),(1,false),(2,false),(3,false),(4,false),(5,false)]),(7,[(6,true)])] (by kernel_rfl) ?_
  refine zC ?_
  refine Xn (m:=z1.S.stray) (v:=(1:Int)) (kd:= .i64) rfl rfl rfl uD ?_
  refine zC ?_
  refine A0 [(10,[(0,false),(1,false),(2,false),(3,false),(4,false),(5,false),(6,false),(7,false),(8,false),(9,false)]),(11,[(10,true)])] (by kernel_rfl) ?_
  refine zA ?_
  refine Aq (show Rd _ _ _ _ (wv z1.S.seen) from Al rfl mM (J2 (S:=z1.S) (o:=8) rfl)) ?_
  iterate 2 refine sb ?_
  refine Aq (O3 rfl rfl) ?_
  refine zA ?_
  refine Ac (cs':=stC (wr1 z1 x.key x.ep).S) rfl rfl uD rfl rfl (Dq (S:=z1.S) rfl rfl) ?_
  refine zC ?_
  refine Ao rfl rfl rfl rfl (fun b43=> ?_)
  refine Ci rfl (Aiu (z:=wr1 z1 x.key x.ep) (k:=k+320080*i) ⟨g1.1,g1.2⟩ (by omega) hq (hS i z1 x g3 hgx hox) (kind:=10) (s:=s18) (b:=b43) (by rw [hs18,Yp];unfold Bh at hox;simp at hox;omega) (by decide) (by rw [hs18];exact (Kv hox).2.2.2.2)) sP rfl (fun v44 Y44 h44=> ?_)
  obtain ⟨e2,y2,z2,rfl,rfl,hst2,hP,hW2⟩:=h44
  rw [hs18] at hP
  have hst2':z2.S.st=z1.S.st:=hst2
  have hsb:z2.S.sb=z1.S.sb:=hP.same.sb
  have hstr:z2.S.stray=z1.S.stray.put x.key 1:=hP.same.stray
  rw [← hsb,← hstr]
  refine A5 aQ ?_
  refine zC ?_
  refine Aj rfl (fun b9=> ?_)
  refine zC ?_
  refine Ae rfl (fun c48=> ?_) (fun c48=> ?_)
  ·skip
   have he:e2≠0:=(by simpa using c48)
   refine zC ?_
   exact zL (hR:=by exact ⟨e2,z2,rfl,rfl,hst2',hall _ _ (.stop hox hP he) he,fun h9=>(hW2 h9).mono (by omega)⟩)
  ·skip
   have he:e2=0:=(by simpa using c48)
   subst he
   rw [← hst2']
   refine zC ?_
   refine A0 [(10,[(0,false),(1,false),(2,false),(3,false),(4,false),(5,false),(6,false),(7,false),(8,false),(9,false)]),(11,[(10,true)])] (by kernel_rfl) ?_
   iterate 10 refine sb ?_
   refine Aq (Bl rfl rfl) ?_
   refine zC ?_
   refine Xn (m:=z2.S.pend) (v:=(⟨y2,x.ep⟩:En)) (kd:= .i64) rfl rfl rfl uD ?_
   refine zC ?_
   exact ⟨(i+1,wr2 z2 x.key x.ep y2),⟨by simp only;omega,⟨(hW2 (by decide)).1,((hW2 (by decide)).mono (by omega)).2⟩,rfl,by simp only;rw [htk];exact g3.app rfl (.go hox hP .nil)⟩,by simp only;omega,lZ⟩
 ·simp only [A3j,A1k] at c13
  have hi:i=nds.list.length:=(by omega)
  subst hi
  rw [A30] at g3
  refine zC ?_
  exact zL (hR:=by exact ⟨0,z1,rfl,rfl,rfl,g3,fun _=>g1⟩)
end
end
section
open Go.K
instance zer31:Zer Tryz.prog 31 ([.int .u64 0,.int .i64 0,.int .u64 0]):=⟨by kernel_rfl⟩
instance fld67_6:Fld Tryz.prog 67 6 40:=⟨⟨_,_,2,Tryz.underlying67,rfl,by kernel_rfl,rfl⟩⟩
instance ent20:Ent Tryz.prog 20:=⟨fun _ _=>by kernel_rfl⟩
instance ent22:Ent Tryz.prog 22:=⟨fun _ _=>by kernel_rfl⟩
instance ent23:Ent Tryz.prog 23:=⟨fun _ _=>by kernel_rfl⟩
instance ent25:Ent Tryz.prog 25:=⟨fun _ _=>by kernel_rfl⟩
def vwM (v:Vw):Vw:={ v with mem:=Et .and .i64 v.mem 255 }
theorem Yr (v:Vw):(Nz v).length=17:=by
 unfold Nz
 simp [A4]
section
variable {n k:Nat} {q:Qt} {z:Sg} {S:Sto}
theorem M1:Does Tryz.prog 22 [ptr S.st] [(S.st,true,C (stC S) tSt)] (Is (wv S.last.ep) [(S.st,true,C (stC S) tSt)]):=by
 refine zF 8 Tryz.func22 ?_
 refine zC ?_
 exact zS
theorem Aas:Does Tryz.prog 20 [ptr S.st] [(S.st,true,C (stC S) tSt)] (Is (wv S.seen) [(S.st,true,C (stC S) tSt)]):=by
 refine zF 7 Tryz.func20 ?_
 refine zA ?_
 refine Ah (show Rd _ _ _ _ (wv S.seen) from Al rfl mM (J2 (S:=S) (o:=8) rfl)) rfl ?_
 refine zC ?_
 exact zS
theorem Aat:Does Tryz.prog 23 [ptr S.st] [(S.st,true,C (stC S) tSt)] (Is (.agg (cmC S.last).toArray) [(S.st,true,C (stC S) tSt)]):=by
 refine zF 7 Tryz.func23 ?_
 refine zC ?_
 refine Aj rfl (fun b2=> ?_)
 refine Pb (G:=(b2,true,C (cmC cm0) tCm)::[(S.st,true,C (stC S) tSt)]) (by rw [← Aak];rfl) ?_
 refine zA ?_
 refine Ah (Am rfl mM (Azw S)) rfl ?_
 first | refine Ac rfl rfl uD (My) (Bu) (Rq (by first | exact Bu | exact A1y ..)) ?_ | refine Ac rfl rfl uD rfl rfl rfl ?_
 refine zC ?_
 refine Ak (Aw Tryz.results23 (Bc rfl mM (by first | exact J1 | rfl))) ?_ sP
 rfl
theorem Ap8 (h:WI n k q z):Does Tryz.prog 25 [ptr z.S.st] ((z.S.st,true,C (stC z.S) tSt)::(lgH z.L++[])) (Is (.int .i64 (Jr z.L.nb)) ((z.S.st,true,C (stC z.S) tSt)::(lgH z.L++[]))):=by
 have hul:=h.2.choose_spec.ulen
 refine zF 12 Tryz.func25 ?_
 refine zA ?_
 refine Ah (show Rd _ _ _ _ (ptr z.L.lg) from by rw [← h.1];exact Al rfl mM rfl) rfl ?_
 refine zA ?_
 refine Ah (Vt rfl pL) rfl ?_
 refine zI rfl ((Apz (L:=z.L)).to (by rw [hul]) rfl) ?_
 refine zI rfl (Apq) ?_
 refine zC ?_
 exact zS
end
end
section
open Go.K
instance ent136:Ent Tryz.prog 136:=⟨fun _ _=>by kernel_rfl⟩
instance ent137:Ent Tryz.prog 137:=⟨fun _ _=>by kernel_rfl⟩
abbrev tIS:TypeId:=85
abbrev tMI:TypeId:=63
abbrev tMJ:TypeId:=62
structure KII (m:Mp Int) (b2:Nat) (seen:List Nat) (X:Hp):Prop where
 ex:∃ (out:Sl Int) (es:List (Me Int)),X=(b2,true,C [out.val] tIS)::(out.hp tI++[])∧out.isOwn=true∧es.map (·.n)=seen∧out.list=es.map (·.k)∧∀ e∈es,e∈m.es
 nd:seen.Nodup
 le:seen.length+If m seen≤m.es.length
theorem Ap9 {I:List Nat→Hp→Prop} {l f0 D:Nat} {tm:Array Value} {ps:Array Tmp} {sg bd:Code} {X0:Hp} {bp bm:Nat} {m:Mp Int} (hps:ps.size=1) (h0:I [] X0)
  (hrnd:∀ seen X (e:Me Int),e∈m.es→e.n∉seen→I seen X→Rnd Tryz.prog l f0 (Gj ⟨.ready,none,f0,tm,ps,sg,bd,D⟩ [.int .i64 e.k]) sg bd ((l,true,.loop ⟨.ready,none,f0,tm,ps,sg,bd,D⟩)::(bp,true,C [.map (some bm)] tMI)::(bm,true,m.obj .i64)::(X++[]))
   (fun v Y=>v= .bool true∧∃ X',Y=(l,true,.loop ⟨.ready,none,f0,tm,ps,sg,bd,D⟩)::(bp,true,C [.map (some bm)] tMI)::(bm,true,m.obj .i64)::(X'++[])∧I (seen++[e.n]) X')) :
  Does Tryz.prog 136 [.func (.yield l) #[] #[],ptr bp] ((l,true,.loop ⟨.ready,none,f0,tm,ps,sg,bd,D⟩)::(bp,true,C [.map (some bm)] tMI)::(bm,true,m.obj .i64)::(X0++[]))
   (fun v Y=>v= .tuple #[]∧∃ X seen,Y=(l,true,.loop ⟨.ready,none,f0,tm,ps,sg,bd,D⟩)::(bp,true,C [.map (some bm)] tMI)::(bm,true,m.obj .i64)::(X++[])∧I seen X∧∀ e∈m.es,e.n∈seen):=by
 refine Dw (n:=14) Tryz.func136 Tryz.ntmps136 rfl (A13 rfl)<|Ag<|Aa fun ops=> ?_
 refine oR (Al rfl mM rfl) ?_
 refine I3 (m:=m) (kd:= .i64) rfl mM rfl fun it5=> ?_
 refine Ad<|n_K<|Bf ?_
 refine At [0,5] kQ (fun (st:List Nat×Hp)=>[]) (fun (st:List Nat×Hp)=>(it5,true,itO bm m.cl st.1 m.cl)::(l,true,.loop ⟨.ready,none,f0,tm,ps,sg,bd,D⟩)::(bp,true,C [.map (some bm)] tMI)::(bm,true,m.obj .i64)::(st.2++[])) (fun (st:List Nat×Hp)=>I st.1 st.2) (fun (st:List Nat×Hp)=>If m st.1) (([],X0)) h0 kP sP ?_
 rintro ⟨seen,X⟩ gI
 simp only at gI
 refine Ag<|Aa fun ops=> ?_
 refine Lf rfl (by repeat (first | exact Pick.here | apply Pick.there | apply Pick.app)) mM (Mp.wc _) (A5q _) rfl (fun hl6=> ?_) (fun e6 he6 hn6=> ?_)
 ·refine oE rfl rfl<|Ad<|n_K<|Ag ?_
  refine Ay rfl ?_
  refine E9<|x_K<|x_K<|Hv ?_
  exact Tm (Afe Tryz.results136) (by exact ⟨rfl,X,seen,rfl,gI,Ip hl6⟩) sP
 ·refine oE rfl rfl<|Ad<|n_K<|Ag ?_
  refine Gb rfl ?_
  refine Bd<|n_K<|Bf<|Ag<|Aa fun ops=> ?_
  refine oR (I4 rfl mM mM he6) ?_
  refine oE rfl rfl<|oA rfl<|Ad<|n_K<|Ag ?_
  refine Q9 [] rfl (fun ops y=>Ml 2 ?_)
  refine oM rfl<|oM rfl<|Ad ⟨rfl,?_⟩
  refine Zq (r:=⟨.ready,none,f0,tm,ps,sg,bd,D⟩) y rfl rfl rfl (by simp [hps]) sP (hrnd seen X e6 he6 hn6 gI) rfl ?_
  rintro v L' ⟨rfl,X',rfl,gI'⟩
  simp only [A3q,A25,A4h]
  refine Ml 1 ?_
  refine oR (D6 rfl)<|Ad ⟨rfl,Ahq<|n_K ?_⟩
  refine Ay rfl<|Bd<|Cq<|n_K ?_
  exact ⟨(seen++[e6.n],X'),gI',C5 he6 hn6,lZ⟩
structure KIJ (m:Mp En) (b2:Nat) (seen:List Nat) (X:Hp):Prop where
 ex:∃ (out:Sl Int) (es:List (Me En)),X=(b2,true,C [out.val] tIS)::(out.hp tI++[])∧out.isOwn=true∧es.map (·.n)=seen∧out.list=es.map (·.k)∧∀ e∈es,e∈m.es
 nd:seen.Nodup
 le:seen.length+If m seen≤m.es.length
theorem Aqa {I:List Nat→Hp→Prop} {l f0 D:Nat} {tm:Array Value} {ps:Array Tmp} {sg bd:Code} {X0:Hp} {bp bm:Nat} {m:Mp En} (hps:ps.size=1) (h0:I [] X0)
  (hrnd:∀ seen X (e:Me En),e∈m.es→e.n∉seen→I seen X→Rnd Tryz.prog l f0 (Gj ⟨.ready,none,f0,tm,ps,sg,bd,D⟩ [.int .i64 e.k]) sg bd ((l,true,.loop ⟨.ready,none,f0,tm,ps,sg,bd,D⟩)::(bp,true,C [.map (some bm)] tMJ)::(bm,true,m.obj .i64)::(X++[]))
   (fun v Y=>v= .bool true∧∃ X',Y=(l,true,.loop ⟨.ready,none,f0,tm,ps,sg,bd,D⟩)::(bp,true,C [.map (some bm)] tMJ)::(bm,true,m.obj .i64)::(X'++[])∧I (seen++[e.n]) X')) :
  Does Tryz.prog 137 [.func (.yield l) #[] #[],ptr bp] ((l,true,.loop ⟨.ready,none,f0,tm,ps,sg,bd,D⟩)::(bp,true,C [.map (some bm)] tMJ)::(bm,true,m.obj .i64)::(X0++[]))
   (fun v Y=>v= .tuple #[]∧∃ X seen,Y=(l,true,.loop ⟨.ready,none,f0,tm,ps,sg,bd,D⟩)::(bp,true,C [.map (some bm)] tMJ)::(bm,true,m.obj .i64)::(X++[])∧I seen X∧∀ e∈m.es,e.n∈seen):=by
 refine Dw (n:=14) Tryz.func137 Tryz.ntmps137 rfl (A13 rfl)<|Ag<|Aa fun ops=> ?_
 refine oR (Al rfl mM rfl) ?_
 refine I3 (m:=m) (kd:= .i64) rfl mM rfl fun it5=> ?_
 refine Ad<|n_K<|Bf ?_
 refine At [0,5] kQ (fun (st:List Nat×Hp)=>[]) (fun (st:List Nat×Hp)=>(it5,true,itO bm m.cl st.1 m.cl)::(l,true,.loop ⟨.ready,none,f0,tm,ps,sg,bd,D⟩)::(bp,true,C [.map (some bm)] tMJ)::(bm,true,m.obj .i64)::(st.2++[])) (fun (st:List Nat×Hp)=>I st.1 st.2) (fun (st:List Nat×Hp)=>If m st.1) (([],X0)) h0 kP sP ?_
 rintro ⟨seen,X⟩ gI
 simp only at gI
 refine Ag<|Aa fun ops=> ?_
 refine Lf rfl (by repeat (first | exact Pick.here | apply Pick.there | apply Pick.app)) mM (Mp.wc _) (A5q _) rfl (fun hl6=> ?_) (fun e6 he6 hn6=> ?_)
 ·refine oE rfl rfl<|Ad<|n_K<|Ag ?_
  refine Ay rfl ?_
  refine E9<|x_K<|x_K<|Hv ?_
  exact Tm (Afe Tryz.results137) (by exact ⟨rfl,X,seen,rfl,gI,Ip hl6⟩) sP
 ·refine oE rfl rfl<|Ad<|n_K<|Ag ?_
  refine Gb rfl ?_
  refine Bd<|n_K<|Bf<|Ag<|Aa fun ops=> ?_
  refine oR (I4 rfl mM mM he6) ?_
  refine oE rfl rfl<|oA rfl<|Ad<|n_K<|Ag ?_
  refine Q9 [] rfl (fun ops y=>Ml 2 ?_)
  refine oM rfl<|oM rfl<|Ad ⟨rfl,?_⟩
  refine Zq (r:=⟨.ready,none,f0,tm,ps,sg,bd,D⟩) y rfl rfl rfl (by simp [hps]) sP (hrnd seen X e6 he6 hn6 gI) rfl ?_
  rintro v L' ⟨rfl,X',rfl,gI'⟩
  simp only [A3q,A25,A4h]
  refine Ml 1 ?_
  refine oR (D6 rfl)<|Ad ⟨rfl,Ahq<|n_K ?_⟩
  refine Ay rfl<|Bd<|Cq<|n_K ?_
  exact ⟨(seen++[e6.n],X'),gI',C5 he6 hn6,lZ⟩
end
section
open Go.K
instance ent183:Ent Tryz.prog 183:=⟨fun _ _=>by kernel_rfl⟩
theorem Ys {α:Type} (m:Mp α):0+If m []≤m.es.length:=by
 unfold If
 have:=A1x (fun i=> !decide (i∈([]:List Nat))) (m.es.map (·.n))
 rw [A4b] at this
 omega
theorem Yt {α:Type} {m:Mp α} {es:List (Me α)} {seen:List Nat} (h1:es.map (·.n)=seen) (hnd:seen.Nodup) (h3:∀ e∈es,e∈m.es) (hall:∀ e∈m.es,e.n∈seen):es.Perm m.es:=by
 subst h1
 have hn1:es.Nodup:=by
  refine List.Pairwise.imp (fun h e=>h (A52 _ e)) (A3e.1 hnd)
 have hn2:m.es.Nodup:=by
  refine List.Pairwise.imp (fun h e=>h (A52 _ e)) (A3e.1 m.wn)
 refine (List.perm_ext_iff_of_nodup hn1 hn2).2 fun x=>⟨fun h=>h3 x h,fun h=> ?_⟩
 obtain ⟨y,hy,e⟩:=A5b.1 (hall x h)
 rw [← Mp.n_inj (h3 y hy) h e]
 exact hy
theorem Auh {bp bm:Nat} {m:Mp Int} (hm:m.es.length≤1000):Does Tryz.prog 183 [.slice none 0 0,.func (.func 136) #[] #[ptr bp]] ((bp,true,C [.map (some bm)] tMI)::(bm,true,m.obj .i64)::[])
  (fun v H=>∃ s:Sl Int,v=s.val∧H=s.hp tI++((bp,true,C [.map (some bm)] tMI)::(bm,true,m.obj .i64)::[])∧s.isOwn=true∧s.list.Perm m.keys):=by
 refine Ra (n:=13) Tryz.func183 Tryz.ntmps183 rfl (A13 rfl) ?_
 refine Ano ?_
 refine Aa fun ops=> ?_
 refine Dj rfl rfl fun b2=> ?_
 refine oA rfl<|Ad ?_
 refine ⟨rfl,?_⟩
 refine Afj ?_
 refine Aa fun ops=>oM rfl<|Ad ?_
 refine ⟨rfl,?_⟩
 refine Acr (fi:=[]) (ca:=[ptr bp]) (L:=(bp,true,C [.map (some bm)] tMI)::(bm,true,m.obj .i64)::(b2,true,C [(Sl.nil:Sl Int).val] tIS)::[]) (F:=[]) (R1:=fun M=>∃ X seen,M=(bp,true,C [.map (some bm)] tMI)::(bm,true,m.obj .i64)::(X++[])∧KII m b2 seen X∧∀ e∈m.es,e.n∈seen) rfl sP ?_ ?_
 ·intro D l f0 tm ht hsz
  refine (Ap9 (m:=m) (bm:=bm) (bp:=bp) (I:=KII m b2) (X0:=(b2,true,C [(Sl.nil:Sl Int).val] tIS)::[]) rfl ⟨⟨.nil,[],by rw [Sl.hp_nil];rfl,rfl,rfl,rfl,fun e he=>nomatch he⟩,A4w,by show 0+If m []≤_;exact Ys m⟩ ?_).mono ?_
  rotate_left
  ·rintro v Y ⟨rfl,X,seen,rfl,hX,hall⟩
   exact ⟨_,_,rfl,(fun e=>nomatch e),X,seen,rfl,hX,hall⟩
  rintro seen X e he hne ⟨⟨out,es,rfl,ho,h1,h2,h3⟩,hnd,hle⟩
  have hlt:=C5 he hne
  have hol:out.list.length≤1000:=(by rw [h2,A4b];have:es.length=seen.length:=(by rw [← h1,A4b]);omega)
  rw [show ((b2,true,C [out.val] tIS)::(out.hp tI++[])++[]:Hp)=(b2,true,C [out.val] tIS)::(out.hp tI++[]) by simp]
  refine Ut (n:=13) [(7,.int .i64 e.k),(2,ptr b2)] (by rw [show Gj _ _=tm.setIfInBounds 7 (.int .i64 e.k) from by simp [Gj]];exact EnvOk.put (a:=⟨tm,[]⟩) (d:=7) (v:= .int .i64 e.k) ((Keep.cons rfl .nil).ok ht) (by rw [hsz];decide)) (by simp [Gj,hsz]) rfl fun rg=> ?_
  refine Aa fun ops=>oA rfl<|Ad ?_
  refine ⟨rfl,_,rfl,?_⟩
  refine Bf<|Aa fun ops=> ?_
  refine oR (Al rfl mM rfl) ?_
  refine oM rfl ?_
  refine Ao rfl rfl rfl rfl fun b10=> ?_
  refine Az (s:=out) (new:=[e.k]) (m:=1) rfl rfl pL ho (Ch (r:=true) mM rfl) rfl rfl rfl rfl (by omega) rfl fun out' hs1 hs2=> ?_
  refine Ac rfl rfl uD rfl rfl rfl ?_
  refine Ad<|Cq ?_
  refine ⟨rfl,(bp,true,C [.map (some bm)] tMI)::(bm,true,m.obj .i64)::((b2,true,C [out'.val] tIS)::(out'.hp tI++[])++[]),_,by rw [show ((b2,true,C [out'.val] tIS)::(out'.hp tI++[])++[]:Hp)=(b2,true,C [out'.val] tIS)::(out'.hp tI++[]) by simp];exact sP,rfl,(b2,true,C [out'.val] tIS)::(out'.hp tI++[]),rfl,⟨out',es++[e],rfl,hs2,by rw [A4e,h1];rfl,by rw [hs1,h2,A4e];rfl,?_⟩,?_,?_⟩
  ·intro x hx
   rcases A4f.1 hx with hx | hx
   ·exact h3 x hx
   ·rw [A2z.1 hx];exact he
  ·exact A3d.2 ⟨hnd,by simp,fun a ha b hb e2=>hne (by rw [A2z.1 hb] at e2;rw [← e2];exact ha)⟩
  ·rw [A2x,A1z];omega
 ·rintro rg D M ⟨X,seen,rfl,⟨⟨out,es,rfl,ho,h1,h2,h3⟩,hnd,hle⟩,hall⟩
  rw [show (Go.K.mark D::(((bp,true,C [.map (some bm)] tMI)::(bm,true,m.obj .i64)::((b2,true,C [out.val] tIS)::(out.hp tI++[])++[]))++[]):Hp)=Go.K.mark D::(bp,true,C [.map (some bm)] tMI)::(bm,true,m.obj .i64)::(b2,true,C [out.val] tIS)::(out.hp tI++[]) by simp]
  refine Ag<|Aa fun ops=> ?_
  refine oR (Al rfl mM rfl) ?_
  refine oA rfl<|Ad<|n_K<|D3 ?_
  refine pkD ?_
  exact A9 (Aw Tryz.results183 (Af rfl)) (by exact ⟨out,rfl,rfl,ho,by rw [h2];exact (Yt h1 hnd h3 hall).map _⟩) sP
theorem Aui {bp bm:Nat} {m:Mp En} (hm:m.es.length≤1000):Does Tryz.prog 183 [.slice none 0 0,.func (.func 137) #[] #[ptr bp]] ((bp,true,C [.map (some bm)] tMJ)::(bm,true,m.obj .i64)::[])
  (fun v H=>∃ s:Sl Int,v=s.val∧H=s.hp tI++((bp,true,C [.map (some bm)] tMJ)::(bm,true,m.obj .i64)::[])∧s.isOwn=true∧s.list.Perm m.keys):=by
 refine Ra (n:=13) Tryz.func183 Tryz.ntmps183 rfl (A13 rfl) ?_
 refine Ano ?_
 refine Aa fun ops=> ?_
 refine Dj rfl rfl fun b2=> ?_
 refine oA rfl<|Ad ?_
 refine ⟨rfl,?_⟩
 refine Afj ?_
 refine Aa fun ops=>oM rfl<|Ad ?_
 refine ⟨rfl,?_⟩
 refine Acr (fi:=[]) (ca:=[ptr bp]) (L:=(bp,true,C [.map (some bm)] tMJ)::(bm,true,m.obj .i64)::(b2,true,C [(Sl.nil:Sl Int).val] tIS)::[]) (F:=[]) (R1:=fun M=>∃ X seen,M=(bp,true,C [.map (some bm)] tMJ)::(bm,true,m.obj .i64)::(X++[])∧KIJ m b2 seen X∧∀ e∈m.es,e.n∈seen) rfl sP ?_ ?_
 ·intro D l f0 tm ht hsz
  refine (Aqa (m:=m) (bm:=bm) (bp:=bp) (I:=KIJ m b2) (X0:=(b2,true,C [(Sl.nil:Sl Int).val] tIS)::[]) rfl ⟨⟨.nil,[],by rw [Sl.hp_nil];rfl,rfl,rfl,rfl,fun e he=>nomatch he⟩,A4w,by show 0+If m []≤_;exact Ys m⟩ ?_).mono ?_
  rotate_left
  ·rintro v Y ⟨rfl,X,seen,rfl,hX,hall⟩
   exact ⟨_,_,rfl,(fun e=>nomatch e),X,seen,rfl,hX,hall⟩
  rintro seen X e he hne ⟨⟨out,es,rfl,ho,h1,h2,h3⟩,hnd,hle⟩
  have hlt:=C5 he hne
  have hol:out.list.length≤1000:=(by rw [h2,A4b];have:es.length=seen.length:=(by rw [← h1,A4b]);omega)
  rw [show ((b2,true,C [out.val] tIS)::(out.hp tI++[])++[]:Hp)=(b2,true,C [out.val] tIS)::(out.hp tI++[]) by simp]
  refine Ut (n:=13) [(7,.int .i64 e.k),(2,ptr b2)] (by rw [show Gj _ _=tm.setIfInBounds 7 (.int .i64 e.k) from by simp [Gj]];exact EnvOk.put (a:=⟨tm,[]⟩) (d:=7) (v:= .int .i64 e.k) ((Keep.cons rfl .nil).ok ht) (by rw [hsz];decide)) (by simp [Gj,hsz]) rfl fun rg=> ?_
  refine Aa fun ops=>oA rfl<|Ad ?_
  refine ⟨rfl,_,rfl,?_⟩
  refine Bf<|Aa fun ops=> ?_
  refine oR (Al rfl mM rfl) ?_
  refine oM rfl ?_
  refine Ao rfl rfl rfl rfl fun b10=> ?_
  refine Az (s:=out) (new:=[e.k]) (m:=1) rfl rfl pL ho (Ch (r:=true) mM rfl) rfl rfl rfl rfl (by omega) rfl fun out' hs1 hs2=> ?_
  refine Ac rfl rfl uD rfl rfl rfl ?_
  refine Ad<|Cq ?_
  refine ⟨rfl,(bp,true,C [.map (some bm)] tMJ)::(bm,true,m.obj .i64)::((b2,true,C [out'.val] tIS)::(out'.hp tI++[])++[]),_,by rw [show ((b2,true,C [out'.val] tIS)::(out'.hp tI++[])++[]:Hp)=(b2,true,C [out'.val] tIS)::(out'.hp tI++[]) by simp];exact sP,rfl,(b2,true,C [out'.val] tIS)::(out'.hp tI++[]),rfl,⟨out',es++[e],rfl,hs2,by rw [A4e,h1];rfl,by rw [hs1,h2,A4e];rfl,?_⟩,?_,?_⟩
  ·intro x hx
   rcases A4f.1 hx with hx | hx
   ·exact h3 x hx
   ·rw [A2z.1 hx];exact he
  ·exact A3d.2 ⟨hnd,by simp,fun a ha b hb e2=>hne (by rw [A2z.1 hb] at e2;rw [← e2];exact ha)⟩
  ·rw [A2x,A1z];omega
 ·rintro rg D M ⟨X,seen,rfl,⟨⟨out,es,rfl,ho,h1,h2,h3⟩,hnd,hle⟩,hall⟩
  rw [show (Go.K.mark D::(((bp,true,C [.map (some bm)] tMJ)::(bm,true,m.obj .i64)::((b2,true,C [out.val] tIS)::(out.hp tI++[])++[]))++[]):Hp)=Go.K.mark D::(bp,true,C [.map (some bm)] tMJ)::(bm,true,m.obj .i64)::(b2,true,C [out.val] tIS)::(out.hp tI++[]) by simp]
  refine Ag<|Aa fun ops=> ?_
  refine oR (Al rfl mM rfl) ?_
  refine oA rfl<|Ad<|n_K<|D3 ?_
  refine pkD ?_
  exact A9 (Aw Tryz.results183 (Af rfl)) (by exact ⟨out,rfl,rfl,ho,by rw [h2];exact (Yt h1 hnd h3 hall).map _⟩) sP
end
section
open Go.K Go.Shelf
def Alh:Go.Shelf.Ren:=⟨fun | 5=>88 | 8=>134 | 7=>133 | 19=>181 | 20=>182 | 10=>172 | 11=>173 | 12=>174 | 13=>175 | 14=>176 | 15=>177 | 16=>178 | 17=>179 | 18=>180 | 30=>210 | 31=>211 | 32=>212 | 33=>213 | 34=>214 | 35=>215 | 40=>234 | n=>n,fun | 23=>85 | 25=>3 | 3=>3 | 32=>151 | 22=>85 | 0=>0 | 44=>55 | 46=>29 | 4=>4 | 36=>247 | 35=>246 | 41=>252 | 5=>5 | 9=>9 | 53=>285 | 57=>288 | 63=>301 | 64=>260 | n=>n,fun | n=>n⟩
theorem Aqb:Go.Proofs.SlLaysM.n5 Tryz.prog Alh:={
 mixed:=by kernel_rfl
 f5:=⟨Tryz.f88.name,by decide,Tryz.func88.trans (A52 some (by kernel_rfl))⟩
 f7:=⟨Tryz.f133.name,by decide,Tryz.func133.trans (A52 some (by kernel_rfl))⟩
 f8:=Tryz.func134.trans (A52 some (by kernel_rfl))
 f10:=⟨Tryz.f172.name,by decide,Tryz.func172.trans (A52 some (by kernel_rfl))⟩
 f11:=⟨Tryz.f173.name,by decide,Tryz.func173.trans (A52 some (by kernel_rfl))⟩
 f12:=⟨Tryz.f174.name,by decide,Tryz.func174.trans (A52 some (by kernel_rfl))⟩
 f13:=⟨Tryz.f175.name,by decide,Tryz.func175.trans (A52 some (by kernel_rfl))⟩
 f14:=⟨Tryz.f176.name,by decide,Tryz.func176.trans (A52 some (by kernel_rfl))⟩
 f15:=⟨Tryz.f177.name,by decide,Tryz.func177.trans (A52 some (by kernel_rfl))⟩
 f16:=⟨Tryz.f178.name,by decide,Tryz.func178.trans (A52 some (by kernel_rfl))⟩
 f17:=⟨Tryz.f179.name,by decide,Tryz.func179.trans (A52 some (by kernel_rfl))⟩
 f18:=⟨Tryz.f180.name,by decide,Tryz.func180.trans (A52 some (by kernel_rfl))⟩
 f19:=Tryz.func181.trans (A52 some (by kernel_rfl))
 f20:=Tryz.func182.trans (A52 some (by kernel_rfl))
 f30:=⟨Tryz.f210.name,by decide,Tryz.func210.trans (A52 some (by kernel_rfl))⟩
 f31:=Tryz.func211.trans (A52 some (by kernel_rfl))
 f32:=Tryz.func212.trans (A52 some (by kernel_rfl))
 f33:=⟨Tryz.f213.name,by decide,Tryz.func213.trans (A52 some (by kernel_rfl))⟩
 f34:=⟨Tryz.f214.name,by decide,Tryz.func214.trans (A52 some (by kernel_rfl))⟩
 f35:=⟨Tryz.f215.name,by decide,Tryz.func215.trans (A52 some (by kernel_rfl))⟩
 f40:=⟨Tryz.f234.name,by decide,Tryz.func234.trans (A52 some (by kernel_rfl))⟩
 t0:=Tryz.underlying0
 a0:=Tryz.isAgg0
 z0:=Tryz.sizeOf0
 v0:=Tryz.zeroValue0
 t3:=Tryz.underlying3
 a3:=Tryz.isAgg3
 z3:=Tryz.sizeOf3
 v3:=Tryz.zeroValue3
 t4:=Tryz.underlying4
 a4:=Tryz.isAgg4
 z4:=Tryz.sizeOf4
 v4:=Tryz.zeroValue4
 t5:=Tryz.underlying5
 a5:=Tryz.isAgg5
 z5:=Tryz.sizeOf5
 v5:=Tryz.zeroValue5
 t9:=Tryz.underlying9
 a9:=Tryz.isAgg9
 z9:=Tryz.sizeOf9
 v9:=Tryz.zeroValue9
 t22:=Tryz.underlying85
 a22:=Tryz.isAgg85
 z22:=Tryz.sizeOf85
 v22:=Tryz.zeroValue85
 t23:=Tryz.underlying85
 a23:=Tryz.isAgg85
 z23:=Tryz.sizeOf85
 v23:=Tryz.zeroValue85
 t25:=Tryz.underlying3
 a25:=Tryz.isAgg3
 z25:=Tryz.sizeOf3
 v25:=Tryz.zeroValue3
 t32:=Tryz.underlying151
 a32:=Tryz.isAgg151
 z32:=Tryz.sizeOf151
 v32:=Tryz.zeroValue151
 t35:=Tryz.underlying246
 a35:=Tryz.isAgg246
 z35:=Tryz.sizeOf246
 v35:=Tryz.zeroValue246
 t36:=Tryz.underlying247
 a36:=Tryz.isAgg247
 z36:=Tryz.sizeOf247
 v36:=Tryz.zeroValue247
 t41:=Tryz.underlying252
 a41:=Tryz.isAgg252
 z41:=Tryz.sizeOf252
 v41:=Tryz.zeroValue252
 t44:=Tryz.underlying55
 a44:=Tryz.isAgg55
 z44:=Tryz.sizeOf55
 v44:=Tryz.zeroValue55
 t46:=Tryz.underlying29
 a46:=Tryz.isAgg29
 z46:=Tryz.sizeOf29
 v46:=Tryz.zeroValue29
 t53:=Tryz.underlying285
 a53:=Tryz.isAgg285
 z53:=Tryz.sizeOf285
 v53:=Tryz.zeroValue285
 t57:=Tryz.underlying288
 a57:=Tryz.isAgg288
 z57:=Tryz.sizeOf288
 v57:=Tryz.zeroValue288
 t63:=Tryz.underlying301
 a63:=Tryz.isAgg301
 z63:=Tryz.sizeOf301
 v63:=Tryz.zeroValue301
 t64:=Tryz.underlying260
 a64:=Tryz.isAgg260
 z64:=Tryz.sizeOf260
 v64:=Tryz.zeroValue260 }
theorem Gz (xs:List Int):cells xs=xs.map (Value.int .i64):=by
 induction xs with
 | nil=>rfl
 | cons z zs ih=>simp only [cells,A27,A45] at *;rw [ih];rfl
def D0 (xs:List Int):List Int:=xs.mergeSort fun x y=>decide (x≤y)
theorem sortL_nil:D0 []=[]:=by unfold D0;simp
theorem Bt (xs:List Int):(D0 xs).Perm xs:=List.mergeSort_perm _ _
theorem Vx {s:Sl Int} (ho:s.isOwn=true) (hl:s.list.length≤100000):Does Tryz.prog 88 [s.val] (s.hp tI++[])
  (fun v H=>v= .tuple #[]∧∃ s':Sl Int,H=s'.hp tI++[]∧s'.val=s.val∧s'.isOwn=true∧s'.list=D0 s.list):=by
 intro w hw
 cases s with
 | nil =>
  rw [Sl.hp_nil] at hw ⊢
  have h:=AnyM.slices_Sort_int_none Aqb none 0 w
  refine A5u h ?_
  rintro e w' ⟨rfl,rfl⟩
  exact ⟨_,[],rfl,⟨rfl,.nil,by rw [Sl.hp_nil];rfl,rfl,rfl,sortL_nil.symm⟩,Trk.refl hw⟩
 | emp a =>
  have e0:(Sl.emp a:Sl Int).hp tI=[]:=by unfold Sl.hp;rfl
  rw [e0] at hw ⊢
  have h:=AnyM.slices_Sort_int_none Aqb (some a) 0 w
  refine A5u h ?_
  rintro e w' ⟨rfl,rfl⟩
  exact ⟨_,[],rfl,⟨rfl,.emp a,by rw [e0];rfl,rfl,rfl,sortL_nil.symm⟩,Trk.refl hw⟩
 | vac a c=>cases ho
 | view=>cases ho
 | own b xs cap sp h0 =>
  rw [Sl.hp_own,A37] at hw
  rw [Sl.hp_own]
  have hb:=hw.here _ (A2y)
  simp only at hb
  have hlt:=hw.lt (x:=(b,true,C (cells xs++sp) tI)) A2y
  have hH:Sort.Holds (Value.int .i64) w b 0 xs.toArray:=fun j hj=>by
   have hj':j<xs.length:=by simpa using hj
   refine ⟨?_,Ht hb _ _⟩
   rw [A5k,Jx hb,Dp,A07 (by rw [Gz,A4b];exact hj'),Gz,A29,A1d hj',A5n xs.toArray j hj]
   rfl
  have h:=AnyM.slices_Sort_int Aqb b 0 cap xs w hH hlt (by show xs.length<_;have:xs.length≤100000:=hl;omega)
  refine A5u h ?_
  rintro e w' ⟨rfl,n,os,rfl⟩
  have hlen:(D0 xs).length=xs.length:=(Bt xs).length_eq
  refine ⟨_,[(b,true,C (cells (D0 xs)++sp) tI)],rfl,⟨rfl,.own b (D0 xs) cap sp ⟨by rw [hlen];exact h0.1,by rw [hlen];exact h0.2.1,by rw [hlen];exact h0.2.2⟩,by rw [Sl.hp_own];rfl,?_,rfl,rfl⟩,?_⟩
  ·show Value.slice (some ⟨b,0,none⟩) (D0 xs).length cap=Value.slice (some ⟨b,0,none⟩) xs.length cap
   rw [hlen]
  ·exact Acu hw hlen
end
section
open Go.K
instance ent90:Ent Tryz.prog 90:=⟨fun _ _=>by kernel_rfl⟩
instance ent91:Ent Tryz.prog 91:=⟨fun _ _=>by kernel_rfl⟩
instance ent94:Ent Tryz.prog 94:=⟨fun _ _=>by kernel_rfl⟩
instance ent135:Ent Tryz.prog 135:=⟨fun _ _=>by kernel_rfl⟩
theorem Qe (xs:List Int):(D0 xs).Pairwise (·≤·):=by
 have:=List.pairwise_mergeSort (le:=fun x y:Int=>decide (x≤y)) (fun a b c h1 h2=>by simp at *;omega) (fun a b=>by simp;omega) xs
 exact this.imp (fun h=>by simpa using h)
theorem Sw {xs ys:List Int} (h:xs.Perm ys):D0 xs=D0 ys :=
 List.Perm.eq_of_pairwise (le:=(·≤·)) (fun a b _ _ h1 h2=>by omega) (Qe xs) (Qe ys) (((Bt xs).trans h).trans (Bt ys).symm)
theorem Ax4 {bm:Nat}:Does Tryz.prog 91 [.map (some bm)] [] (fun v H=>∃ bp:Nat,v= .func (.func 136) #[] #[ptr bp]∧H=(bp,true,C [.map (some bm)] tMI)::[]):=by
 refine zF 4 Tryz.func91 ?_
 refine zC ?_
 refine Dj rfl rfl (fun b1=> ?_)
 refine zC ?_
 refine Ah (Pm rfl) rfl ?_
 refine zC ?_
 exact zL (hR:=by exact ⟨b1,rfl,rfl⟩)
theorem Aum {bp bm:Nat} {m:Mp Int} (hm:m.es.length≤1000):Does Tryz.prog 135 [.func (.func 136) #[] #[ptr bp]] ((bp,true,C [.map (some bm)] tMI)::(bm,true,m.obj .i64)::[])
  (fun v H=>∃ s:Sl Int,v=s.val∧H=s.hp tI++((bp,true,C [.map (some bm)] tMI)::(bm,true,m.obj .i64)::[])∧s.isOwn=true∧s.list.Perm m.keys):=by
 refine zF 5 Tryz.func135 ?_
 refine zC ?_
 refine zE rfl (Auh hm) ?_
 rintro _ _ ⟨s4,rfl,rfl,ho4,hp4⟩
 refine zW ?_
 exact zL (hR:=by exact ⟨s4,rfl,rfl,ho4,hp4⟩)
theorem Aun {bp bm:Nat} {m:Mp Int} (hm:m.es.length≤1000):Does Tryz.prog 90 [.func (.func 136) #[] #[ptr bp]] ((bp,true,C [.map (some bm)] tMI)::(bm,true,m.obj .i64)::[])
  (fun v H=>∃ s:Sl Int,v=s.val∧H=s.hp tI++((bp,true,C [.map (some bm)] tMI)::(bm,true,m.obj .i64)::[])∧s.isOwn=true∧s.list=D0 m.keys):=by
 refine zF 9 Tryz.func90 ?_
 refine zC ?_
 refine zE rfl (Aum hm) ?_
 rintro _ _ ⟨s5,rfl,rfl,ho5,hp5⟩
 refine zW ?_
 refine zE rfl (Vx (s:=s5) ho5 (by rw [hp5.length_eq,Mp.keys_len];omega)) ?_
 rintro _ _ ⟨rfl,s7,rfl,hv7,ho7,hl7⟩
 refine zW ?_
 exact zL (hR:=by exact ⟨s7,hv7.symm,rfl,ho7,by rw [hl7];exact Sw hp5⟩)
theorem Ax5 {bm:Nat}:Does Tryz.prog 94 [.map (some bm)] [] (fun v H=>∃ bp:Nat,v= .func (.func 137) #[] #[ptr bp]∧H=(bp,true,C [.map (some bm)] tMJ)::[]):=by
 refine zF 4 Tryz.func94 ?_
 refine zC ?_
 refine Dj rfl rfl (fun b1=> ?_)
 refine zC ?_
 refine Ah (Pm rfl) rfl ?_
 refine zC ?_
 exact zL (hR:=by exact ⟨b1,rfl,rfl⟩)
theorem Auo {bp bm:Nat} {m:Mp En} (hm:m.es.length≤1000):Does Tryz.prog 135 [.func (.func 137) #[] #[ptr bp]] ((bp,true,C [.map (some bm)] tMJ)::(bm,true,m.obj .i64)::[])
  (fun v H=>∃ s:Sl Int,v=s.val∧H=s.hp tI++((bp,true,C [.map (some bm)] tMJ)::(bm,true,m.obj .i64)::[])∧s.isOwn=true∧s.list.Perm m.keys):=by
 refine zF 5 Tryz.func135 ?_
 refine zC ?_
 refine zE rfl (Aui hm) ?_
 rintro _ _ ⟨s4,rfl,rfl,ho4,hp4⟩
 refine zW ?_
 exact zL (hR:=by exact ⟨s4,rfl,rfl,ho4,hp4⟩)
theorem Aup {bp bm:Nat} {m:Mp En} (hm:m.es.length≤1000):Does Tryz.prog 90 [.func (.func 137) #[] #[ptr bp]] ((bp,true,C [.map (some bm)] tMJ)::(bm,true,m.obj .i64)::[])
  (fun v H=>∃ s:Sl Int,v=s.val∧H=s.hp tI++((bp,true,C [.map (some bm)] tMJ)::(bm,true,m.obj .i64)::[])∧s.isOwn=true∧s.list=D0 m.keys):=by
 refine zF 9 Tryz.func90 ?_
 refine zC ?_
 refine zE rfl (Auo hm) ?_
 rintro _ _ ⟨s5,rfl,rfl,ho5,hp5⟩
 refine zW ?_
 refine zE rfl (Vx (s:=s5) ho5 (by rw [hp5.length_eq,Mp.keys_len];omega)) ?_
 rintro _ _ ⟨rfl,s7,rfl,hv7,ho7,hl7⟩
 refine zW ?_
 exact zL (hR:=by exact ⟨s7,hv7.symm,rfl,ho7,by rw [hl7];exact Sw hp5⟩)
theorem Ax6 {c:BitVec 32} {b:Nat} {s1 s2:Sl By}:Does Tryz.prog 95 [uv c,.slice (some ⟨b,0,none⟩) 2 2] ((b,true,C [s1.val,s2.val] tSB)::(s1.hp tU8++(s2.hp tU8++[])))
  (Is (uv (Da c [s1.list,s2.list])) ((b,true,C [s1.val,s2.val] tSB)::(s1.hp tU8++(s2.hp tU8++[])))):=by
 have e2:(Sl.own b [s1,s2] 2 [] ⟨by simp,A5q _,by simp⟩:Sl (Sl By)).list=[s1,s2]:=rfl
 have h:=Av5 (c:=c) (q:= .own b [s1,s2] 2 [] ⟨by simp,A5q _,by simp⟩)
 rw [e2] at h
 have e:(Sl.own b [s1,s2] 2 [] ⟨by simp,A5q _,by simp⟩:Sl (Sl By)).hp tSB++(Dg [s1,s2]++[])=((b,true,C [s1.val,s2.val] tSB)::(s1.hp tU8++(s2.hp tU8++[]))):=by
  rw [Sl.hp_own,Cv,Cv,Hl]
  simp only [A25,A4h,A37]
  rfl
 rw [e] at h
 exact h
theorem Auq:Does Tryz.prog 93 [.slice none 0 0] [] (Is (uv 0) []):=by
 have h:=Ao3 (q:=(Sl.nil:Sl (Sl By)))
 have e:(Sl.nil:Sl (Sl By)).hp tSB++(Dg []++[])=[]:=by rw [Sl.hp_nil,Hl];rfl
 rw [show (Sl.nil:Sl (Sl By)).list=[] from rfl,e] at h
 exact h.to (by simp [Da]) rfl
end
section
open Go.K
instance fldt124_1:FldT Tryz.prog 124 1 2 29:=⟨⟨_,_,Tryz.underlying124,rfl,rfl,rfl⟩⟩
instance ent59:Ent Tryz.prog 59:=⟨fun _ _=>by kernel_rfl⟩
def Ru (m:Mp En) (k:Int):En:=match m.get k with | some e=>e | none=>Azv
def Ad7 (m:Mp En) (k:Int):Wd:=(Ru m k).ep
def L6 (m:Mp En):BitVec 32:=(D0 m.keys).foldl (fun c k=>Da c [B4 1 (BitVec.ofInt 64 k),B4 8 (Ad7 m k)]) 0
theorem Agr {P:Program} {E:Env} {H:Hp} {t kt et:TypeId} {x y:Operand} {b:Nat} {m:Mp En} {k:Int} {r:Bool} [ht:Und P t (.map kt et)] [hk:Und P kt (.int .i64)] [hz:ZerV P et (.agg #[.int .i64 0,.int .i64 0,.int .u64 0])]
  (hx:ev E x=some (.map (some b))) (hy:ev E y=some (.int .i64 k)) (hm:(b,r,m.obj .i64)∈H):Rd P E H (.lookup t x y false) (.agg (Ak7 (Ru m k)).toArray):=by
 have h:=As4 (P:=P) (t:=t) (kt:=kt) (et:=et) (z:= .agg #[.int .i64 0,.int .i64 0,.int .u64 0]) hx hy hm
 unfold Ru
 cases hg:m.get k with
 | none=>rw [hg] at h;exact h
 | some e=>rw [hg] at h;exact h
theorem Aiw {S:Nat} {b:Nat} {m:Mp En} (hm:m.es.length≤1000):Does Tryz.prog 59 [ptr S,.map (some b)] ((b,true,m.obj .i64)::[])
  (fun v H=>v=uv (L6 m)∧H=(b,true,m.obj .i64)::[]):=by
 refine zF 30 Tryz.func59 ?_
 refine zC ?_
 refine zI rfl (Auq) ?_
 refine zC ?_
 refine zE rfl (Ax5 (bm:=b)) ?_
 rintro _ _ ⟨bp,rfl,rfl⟩
 refine A5 aQ ?_
 refine zE rfl (Aup hm) ?_
 rintro _ _ ⟨s11,rfl,rfl,ho11,hl11⟩
 refine zW ?_
 have hsm:s11.list.length≤1000:=(by rw [hl11,(Bt _).length_eq,Mp.keys_len];exact hm)
 refine At [1,11,12] kQ (fun (st:Nat×BitVec 32)=>[(13,.int .i64 st.1),(5,uv st.2)]) (fun st=>(s11.hp tI++((b,true,m.obj .i64)::[]))) (fun st=>st.1≤s11.list.length∧st.2=(s11.list.take st.1).foldl (fun c k=>Da c [B4 1 (BitVec.ofInt 64 k),B4 8 (Ad7 m k)]) 0) (fun st=>s11.list.length - st.1) ((0,0)) ⟨A5s _,rfl⟩ kP sP ?_
 rintro ⟨i,c⟩ ⟨g0,g1⟩
 simp only at g0 g1
 refine zC ?_
 refine Ae rfl (fun c14=> ?_) (fun c14=> ?_)
 ·simp only [A3j,A1k] at c14
  obtain ⟨z,hg⟩:∃ z,s11.list[i]? =some z:=⟨_,A1d (by omega)⟩
  have hst:=H3 (f:=fun c k=>Da c [B4 1 (BitVec.ofInt 64 k),B4 8 (Ad7 m k)]) (b:=(0:BitVec 32)) hg
  rw [← g1] at hst
  refine zA ?_
  refine Ah (A7 (s:=s11) rfl rfl (by omega)) rfl ?_
  refine Ah (Co (s:=s11) (o:=0) rfl pL hg rfl rfl) rfl ?_
  refine zC ?_
  refine A0 [(10,[(0,false),(1,false),(2,false),(4,false),(5,false),(6,false),(7,false),(3,true),(8,true),(9,true)]),(11,[(10,true)]),(12,[(11,false)])] (by kernel_rfl) ?_
  refine zA ?_
  refine Aq (show Rd _ _ _ _ (wv (BitVec.ofInt 64 z)) from by (unfold wv;rw [← Kw];exact D9 rfl)) ?_
  refine zC ?_
  refine Aq (Agr rfl rfl mM) ?_
  refine Aq (show Rd _ _ _ _ (wv (Ad7 m z)) from Axd rfl rfl) ?_
  refine zC ?_
  refine zE rfl (Ia) ?_
  rintro _ _ ⟨s20,rfl,rfl,hs20,ho20⟩
  refine zW ?_
  refine zE rfl (Ia) ?_
  rintro _ _ ⟨s25,rfl,rfl,hs25,ho25⟩
  refine zW ?_
  refine Ao rfl rfl rfl rfl (fun b26=> ?_)
  refine zC ?_
  refine zI rfl (Ax6 (c:=c) (b:=b26) (s1:=s20) (s2:=s25)) ?_
  refine zC ?_
  exact ⟨(i+1,Da c [B4 1 (BitVec.ofInt 64 z),B4 8 (Ad7 m z)]),⟨by simp only;omega,hst.symm⟩,by simp only;omega,(by rw [show B4 1 (BitVec.ofInt 64 z)=s20.list from hs20.symm,show B4 8 (Ad7 m z)=s25.list from hs25.symm];exact kP),kP,_,sP⟩
 ·simp only [A3j,A1k] at c14
  have hi:i=s11.list.length:=(by omega)
  subst hi
  rw [A30] at g1
  refine zC ?_
  exact zL (hR:=by exact ⟨by rw [g1,hl11];rfl,rfl⟩)
end
section
open Go.K Go.Shelf
instance ent53:Ent Tryz.prog 53:=⟨fun _ _=>by kernel_rfl⟩
instance ent89:Ent Tryz.prog 89:=⟨fun _ _=>by kernel_rfl⟩
def Alj:Go.Shelf.Ren:=⟨fun | 20=>89 | n=>n,fun | 22=>85 | 3=>3 | 4=>4 | 0=>0 | n=>n,fun | n=>n⟩
theorem Aqe:Go.Proofs.Lays2.n20 Tryz.prog Alj:={
 mixed:=by kernel_rfl
 f20:=Tryz.func89.trans (A52 some (by kernel_rfl))
 t0:=Tryz.underlying0
 a0:=Tryz.isAgg0
 z0:=Tryz.sizeOf0
 v0:=Tryz.zeroValue0
 t3:=Tryz.underlying3
 a3:=Tryz.isAgg3
 z3:=Tryz.sizeOf3
 v3:=Tryz.zeroValue3
 t4:=Tryz.underlying4
 a4:=Tryz.isAgg4
 z4:=Tryz.sizeOf4
 v4:=Tryz.zeroValue4
 t22:=Tryz.underlying85
 a22:=Tryz.isAgg85
 z22:=Tryz.sizeOf85
 v22:=Tryz.zeroValue85
 i3:=by kernel_rfl }
theorem Ags (xs:List Int):(Lib.compact xs).length≤xs.length:=by
 unfold Lib.compact Lib.compactUpTo
 rw [A4b]
 exact A5f (A1x _ _) (by simp)
theorem compact_nil:Lib.compact ([]:List Int)=[]:=by
 unfold Lib.compact Lib.compactUpTo;rfl
theorem Aur {s:Sl Int} (ho:s.isOwn=true) (hl:s.list.length≤100000):Does Tryz.prog 89 [s.val] (s.hp tI++[])
  (fun v H=>∃ s':Sl Int,v=s'.val∧H=s'.hp tI++[]∧s'.isOwn=true∧s'.list=Lib.compact s.list):=by
 intro w hw
 cases s with
 | nil =>
  rw [Sl.hp_nil] at hw ⊢
  have h:=Any.slices_Compact_int_empty Aqe none 0 w
  refine A5u h ?_
  rintro e w' ⟨rfl,rfl⟩
  exact ⟨_,[],rfl,⟨.nil,rfl,by rw [Sl.hp_nil];rfl,rfl,compact_nil.symm⟩,Trk.refl hw⟩
 | emp a =>
  have e0:(Sl.emp a:Sl Int).hp tI=[]:=by unfold Sl.hp;rfl
  rw [e0] at hw ⊢
  have h:=Any.slices_Compact_int_empty Aqe (some a) 0 w
  refine A5u h ?_
  rintro e w' ⟨rfl,rfl⟩
  exact ⟨_,[],rfl,⟨.emp a,rfl,by rw [e0];rfl,rfl,compact_nil.symm⟩,Trk.refl hw⟩
 | vac a c=>cases ho
 | view=>cases ho
 | own b xs cap sp h0 =>
  rw [Sl.hp_own,A37] at hw
  rw [Sl.hp_own]
  have hb:=hw.here _ (A2y)
  simp only at hb
  have hlt:=hw.lt (x:=(b,true,C (cells xs++sp) tI)) A2y
  have hH:Sort.Holds (Value.int .i64) w b 0 xs.toArray:=fun j hj=>by
   have hj':j<xs.length:=by simpa using hj
   refine ⟨?_,Ht hb _ _⟩
   rw [A5k,Jx hb,Dp,A07 (by rw [Gz,A4b];exact hj'),Gz,A29,A1d hj',A5n xs.toArray j hj]
   rfl
  have hxl:xs.length≤100000:=hl
  have hc:=Ags xs
  have h:=Any.slices_Compact_int Aqe b 0 cap xs w hH (by omega) h0.2.1
  refine A5u h ?_
  rintro e w' ⟨rfl,n,rfl⟩
  have hlen:(Lib.compact xs++List.replicate (xs.length - (Lib.compact xs).length) 0).length=xs.length:=by simp;omega
  have ht:=Acu (os:=#[]) (n:=n) hw hlen
  rw [Sort.grow_empty] at ht
  have hcs:(cells (Lib.compact xs++List.replicate (xs.length - (Lib.compact xs).length) (0:Int))++sp:List Value)=cells (Lib.compact xs)++(cells (List.replicate (xs.length - (Lib.compact xs).length) (0:Int))++sp):=by
   rw [Gz,Gz,Gz,A4e,A25]
  rw [hcs] at ht
  refine ⟨_,[(b,true,C (cells (Lib.compact xs)++(cells (List.replicate (xs.length - (Lib.compact xs).length) (0:Int))++sp)) tI)],rfl,⟨.own b (Lib.compact xs) cap (cells (List.replicate (xs.length - (Lib.compact xs).length) (0:Int))++sp) ?_,rfl,by rw [Sl.hp_own];rfl,rfl,rfl⟩,ht⟩
  have h1:(cap - xs.length)*1≤sp.length:=h0.1
  refine ⟨?_,by have:=h0.2.1;omega,by omega⟩
  show (cap - (Lib.compact xs).length)*1≤_
  have h2:=h0.2.1
  rw [A2x,Gz,A4b,A1y]
  omega
def N1 (xs:List Int):Bool:=decide ((Lib.compact (D0 xs)).length=xs.length)
theorem Aus {s:Sl Int} (hs:s.list.length≤1000):Does Tryz.prog 53 [s.val] (s.hp tI++[]) (Is (.bool (N1 s.list)) (s.hp tI++[])):=by
 refine zF 14 Tryz.func53 ?_
 refine zC ?_
 refine zE rfl (Ry (s:=s) (T:=tI) hs) ?_
 rintro _ _ ⟨s5,rfl,rfl,hl5,ho5⟩
 refine zW ?_
 refine zE rfl (Vx (s:=s5) ho5 (by rw [hl5];omega)) ?_
 rintro _ _ ⟨rfl,s7,rfl,hv7,ho7,hl7⟩
 refine A5 aQ ?_
 rw [← hv7]
 refine zC ?_
 refine zE rfl (Aur (s:=s7) ho7 (by rw [hl7,(Bt _).length_eq,hl5];omega)) ?_
 rintro _ _ ⟨s9,rfl,rfl,ho9,hl9⟩
 refine zW ?_
 refine Ak (Aw Tryz.results53 (Af rfl)) ?_ sP
 unfold N1;rw [hl9,hl7,hl5];exact A52 Value.bool (A34.2 Int.natCast_inj)
end
section
open Go.K
instance fld45_0:Fld Tryz.prog 45 0 0:=⟨⟨_,_,0,Tryz.underlying45,rfl,by kernel_rfl,rfl⟩⟩
instance fld45_2:Fld Tryz.prog 45 2 2:=⟨⟨_,_,0,Tryz.underlying45,rfl,by kernel_rfl,rfl⟩⟩
instance ent50:Ent Tryz.prog 50:=⟨fun _ _=>by kernel_rfl⟩
structure Chg where
 key:Int
 gone:Bool
 body:Sl By
def Ax7 (c:Chg):List Value:=[.int .i64 c.key,.bool c.gone,c.body.val]
instance:Cel Chg:=⟨3,Ax7,fun _=>rfl,fun _=>rfl⟩
theorem Aut {c:Chg}:Does Tryz.prog 50 [.agg (Ax7 c).toArray] (c.body.hp tU8++[]) (Is (.bool (Bh c.key c.body.list)) (c.body.hp tU8++[])):=by
 refine zF 16 Tryz.func50 ?_
 refine zC ?_
 refine Dj rfl rfl (fun b1=> ?_)
 refine zC ?_
 refine Ci rfl (Ym (n:=⟨c.key,0,c.body⟩)) sP rfl (fun v11 Y11 h11=> ?_)
 obtain ⟨s11,e11,rfl,rfl,he11⟩:∃ (s11:Sl By) (e11:Int),v11= .tuple #[s11.val,.int .i64 e11]∧Y11=s11.hp tU8++(c.body.hp tU8++[])∧decide (e11=0)=Bh c.key c.body.list:=by
  rcases h11 with ⟨hk,rfl,rfl⟩ | ⟨hk,s,rfl,rfl,hs,ho⟩
  ·exact ⟨.nil,1,rfl,by rw [Sl.hp_nil];rfl,hk.symm⟩
  ·exact ⟨s,0,rfl,rfl,hk.symm⟩
 refine A5 aQ ?_
 refine zC ?_
 refine Ak (Aw Tryz.results50 (Af rfl)) ?_ sP
 rw [he11]
end
section
open Go.K
theorem Ad8 {P:Program} {E:Env} {H:Hp} {t kt et:TypeId} {x y:Operand} {b:Nat} {m:Mp En} {k:Int} {r:Bool} [ht:Und P t (.map kt et)] [hk:Und P kt (.int .i64)] [hz:ZerV P et (.agg #[.int .i64 0,.int .i64 0,.int .u64 0])]
  (hx:ev E x=some (.map (some b))) (hy:ev E y=some (.int .i64 k)) (hm:(b,r,m.obj .i64)∈H):Rd P E H (.lookup t x y true) (.tuple #[.agg (Ak7 (Ru m k)).toArray,.bool (m.get k).isSome]):=by
 have h:=Rb (P:=P) (t:=t) (kt:=kt) (et:=et) (z:= .agg #[.int .i64 0,.int .i64 0,.int .u64 0]) hx hy hm
 unfold Ru
 cases hg:m.get k with
 | none=>rw [hg] at h;exact h
 | some e=>rw [hg] at h;exact h
section
variable {z:Sg}
end
end
section
open Go.K
instance zer67:Zer Tryz.prog 67 ([.pointer none,.map none,.map none,.map none,.int .u64 0]++List.replicate 32 (.int .u8 0)++[.int .u32 0,.int .i64 0,.int .i64 0,.int .u64 0,.int .i64 0,.int .u64 0,.int .i64 0,.int .i64 0,.bool false,.int .u64 0,.bool false]):=⟨by kernel_rfl⟩
instance plc67:Plc Tryz.prog 67 [(0,1),(1,1),(2,1),(3,1),(4,34),(38,2),(40,3),(43,2),(45,1),(46,1),(47,1)]:=⟨⟨_,Tryz.underlying67,fun _=>by kernel_rfl⟩⟩
instance ent86:Ent Tryz.prog 86:=⟨fun _ _=>by kernel_rfl⟩
def J4 (st lg ib pb sb:Nat):Sto:=⟨st,lg,ib,pb,sb,cm0,(0,0),vw0,(0,0),false,0,false,Mp.nil,Mp.nil,Mp.nil⟩
theorem Yu {lg:Nat}:Does Tryz.prog 86 [ptr lg] [] (fun v H=>∃ st ib pb sb:Nat,v=ptr st∧H=stH (J4 st lg ib pb sb)++[]):=by
 refine zF 9 Tryz.func86 ?_
 refine zC ?_
 refine Zr En .i64 rfl (fun b4=> ?_)
 refine Zr En .i64 rfl (fun b5=> ?_)
 refine Zr Int .i64 rfl (fun b6=> ?_)
 refine zC ?_
 refine Dj rfl rfl (fun b8=> ?_)
 refine zC ?_
 exact zL (hR:=by exact ⟨b8,b4,b5,b6,rfl,rfl⟩)
end
section
open Go.K
def refs (S:Sto):List Pl2:=(if 0<S.last.ep.toNat then [S.la] else [])++((if S.viewed=true then [S.va] else [])++(S.idx.es.map (fun e=>e.v.at')++S.pend.es.map (fun e=>e.v.at')))
theorem cntS_iff {S:Sto} {x:Pl2}:Jf S x=true↔x∈refs S:=by
 unfold Jf Qa Fm refs
 simp only [A36,A3n,A3j,plB_iff,A3p,A4f,A5b]
 constructor
 ·rintro (((⟨a,b⟩ | ⟨a,b⟩) | ⟨e,a,b⟩) | ⟨e,a,b⟩)
  ·exact .inl (by rw [if_pos (by omega)];simp [b])
  ·exact .inr (.inl (by rw [if_pos a];simp [b]))
  ·exact .inr (.inr (.inl ⟨e,a,b⟩))
  ·exact .inr (.inr (.inr ⟨e,a,b⟩))
 ·rintro (h | h | ⟨e,a,b⟩ | ⟨e,a,b⟩)
  ·split at h
   ·rename_i hc
    exact .inl (.inl (.inl ⟨by omega,by simpa using h⟩))
   ·cases h
  ·split at h
   ·rename_i hc
    exact .inl (.inl (.inr ⟨hc,by simpa using h⟩))
   ·cases h
  ·exact .inl (.inr ⟨e,a,b⟩)
  ·exact .inr ⟨e,a,b⟩
theorem Au8 {S:Sto} {x:Pl2} (h:x∉refs S):Jf S x=false:=by
 cases hc:Jf S x with
 | false=>rfl
 | true=>exact absurd (cntS_iff.1 hc) h
def mvP (f t r:Pl2):Pl2:=if r=f then t else r
theorem Ag0 (f t:Pl2) (e:En):(mvE f t e).at'=mvP f t e.at':=by
 unfold mvE mvP
 by_cases h:e.at'=f
 ·rw [if_pos (plB_iff.2 h),if_pos h]
 ·rw [if_neg (fun h2=>h (plB_iff.1 h2)),if_neg h]
theorem Ayb (f t:Pl2) (e:En):(mvE f t e).ep=e.ep:=by
 unfold mvE;split <;> rfl
theorem Aeh {S:Sto} {f t:Pl2} (h:0<S.last.ep.toNat):(C9 S f t).la=mvP f t S.la:=by
 show (if (decide ((S.last.ep.toNat:Int)>0) && plB S.la f)=true then t else S.la)=_
 unfold mvP
 by_cases e:S.la=f
 ·rw [if_pos e,if_pos (by simp [plB_iff.2 e];omega)]
 ·rw [if_neg e,if_neg (fun h2=>e (plB_iff.1 (by rw [A3n] at h2;exact h2.2)))]
theorem V8 {S:Sto} {f t:Pl2} (h:S.viewed=true):(C9 S f t).va=mvP f t S.va:=by
 show (if (S.viewed && plB S.va f)=true then t else S.va)=_
 unfold mvP
 by_cases e:S.va=f
 ·rw [if_pos e,if_pos (by simp [plB_iff.2 e,h])]
 ·rw [if_neg e,if_neg (fun h2=>e (plB_iff.1 (by rw [A3n] at h2;exact h2.2)))]
theorem Ag1 (S:Sto) (f t:Pl2):refs (C9 S f t)=(refs S).map (mvP f t):=by
 unfold refs
 rw [A4e,A4e,A4e]
 congr 1
 ·show (if 0<S.last.ep.toNat then [(C9 S f t).la] else [])=_
  split
  ·rename_i h;rw [Aeh h];rfl
  ·rfl
 congr 1
 ·show (if S.viewed=true then [(C9 S f t).va] else [])=_
  split
  ·rename_i h;rw [V8 h];rfl
  ·rfl
 congr 1
 ·show ((S.idx.es.map fun e=>{ e with v:=mvE f t e.v }).map fun e=>e.v.at')=_
  rw [A49,A49]
  exact A2l fun e _=>Ag0 f t e.v
 ·show ((S.pend.es.map fun e=>{ e with v:=mvE f t e.v }).map fun e=>e.v.at')=_
  rw [A49,A49]
  exact A2l fun e _=>Ag0 f t e.v
theorem RecAt.fn {z:Sg} {x:Pl2} {p r:Pg} (h:RecAt z x p) (g:RecAt z x r):p=r:=by
 obtain ⟨b,j,rfl,hb,hp⟩:=h
 obtain ⟨b',j',e,hb',hp'⟩:=g
 have e1:b=b':=by have:=A52 Prod.fst e;simp only at this;omega
 have e2:j=j':=by have:=A52 Prod.snd e;simp at this;omega
 subst e1 e2
 rw [hp] at hp'
 exact A4o hp'
def P0 (z:Sg):Prop:=∀ r∈refs z.S,∃ p,RecAt z r p∧(Ee p).2.2.2=0
def rm (z:Sg):Nat:=if z.L.last<0 then 0 else if (bAt z.L.bs z.L.last.toNat).next=8 then 0 else 6 - (z.R z.L.last.toNat).length
def fr (z:Sg):Nat:=B6 z.L.bs z.L.nb
def slots (z:Sg):Nat:=6*fr z+rm z
theorem Aq0 (z:Sg):rm z≤6:=by unfold rm;split;omega;split <;> omega
theorem V9 {z:Sg} {l:Nat} (h:z.L.last=l):rm z=if (bAt z.L.bs l).next=8 then 0 else 6 - (z.R l).length:=by
 unfold rm
 rw [if_neg (by omega),show z.L.last.toNat=l by omega]
theorem Aa2 {z:Sg} (h:Ad2 z.L.bs z.L.last z.R):rm z=0:=by
 rcases h with h | ⟨l,h1,h2⟩
 ·unfold rm;rw [if_pos h]
 ·rw [V9 h1]
  split
  ·rfl
  ·rename_i h3;have:=h2.resolve_left h3;omega
structure LW (k:Nat) (z:Sg):Prop where
 rl:∀ j<z.L.nb,(z.R j).length≤6
 z0:∀ j<z.L.nb,(bAt z.L.bs j).seq.toNat=0→z.R j=[]
 lst:(z.L.last= -1∧∀ j<z.L.nb,(bAt z.L.bs j).seq.toNat=0)∨∃ l:Nat,z.L.last=l∧l<z.L.nb∧(bAt z.L.bs l).seq.toNat≠0∧∀ j<z.L.nb,j≠l→(bAt z.L.bs j).seq.toNat<(bAt z.L.bs l).seq.toNat
 top:∀ j<z.L.nb,(bAt z.L.bs j).seq.toNat≤k
theorem Aq1 {bs:List LB} {b:Nat} (h:(bAt bs b).seq.toNat≠0):b<bs.length:=by
 by_cases hb:b<bs.length
 ·exact hb
 ·exfalso
  apply h
  unfold bAt
  rw [A00,A1v (by omega)]
  rfl
theorem Nm {bs cs:List LB} {to:Nat} (h0:(bAt bs to).seq.toNat=0) (h1:(bAt cs to).seq.toNat≠0):∀ k,to<k→(∀ j<k,j≠to→(bAt cs j).seq.toNat=(bAt bs j).seq.toNat)→B6 cs k+1=B6 bs k
 | 0,h,_=>by omega
 | k+1,h,hs=>by
  rw [Gh,Gh]
  by_cases e:to=k
  ·subst e
   rw [Gu (cs:=bs) to fun j hj=>by rw [hs j (by omega) (by omega)]]
   unfold z1
   rw [if_neg h1,if_pos h0]
  ·have ih:=Nm h0 h1 k (by omega) fun j hj hne=>hs j (by omega) hne
   unfold z1
   rw [hs k (by omega) (A54 e)]
   omega
theorem LW.mono {k k':Nat} {z:Sg} (h:LW k z) (hk:k≤k'):LW k' z:=⟨h.rl,h.z0,h.lst,fun j hj=>A5f (h.top j hj) hk⟩
theorem LW.of {k:Nat} {z z':Sg} (h:LW k z) (h1:z'.L=z.L) (h2:z'.R=z.R):LW k z':=by
 cases z;cases z';simp only at h1 h2;subst h1 h2;exact ⟨h.rl,h.z0,h.lst,h.top⟩
theorem WI.lw {n k:Nat} {q:Qt} {z:Sg} (h:WI n k q z):LW k z:=by
 obtain ⟨_,V,hZ⟩:=h
 refine ⟨fun j hj=> ?_,fun j hj hz=> ?_,hZ.lv.lst,hZ.lv.top⟩
 ·rcases hZ.lv.blk j hj with ⟨_,r⟩ | u
  ·rw [r];exact A5s _
  ·exact u.cnt.len
 ·rcases hZ.lv.blk j hj with ⟨_,r⟩ | u
  ·exact r
  ·exact absurd hz u.cnt.seq
theorem LW.seqN {k:Nat} {z:Sg} (h:LW k z) (hk:k≤400000000000):(seqN z.L.bs z.L.last).toNat≠0∧(seqN z.L.bs z.L.last).toNat≤k+1∧∀ j<z.L.nb,(bAt z.L.bs j).seq.toNat<(seqN z.L.bs z.L.last).toNat:=by
 unfold Go.Proofs.YtpmojdippdlcaaaGreatDoor.seqN
 rcases h.lst with ⟨h1,h2⟩ | ⟨l,h1,h2,h3,h4⟩
 ·rw [if_pos (by omega)]
  exact ⟨by decide,by show 1≤k+1;omega,fun j hj=>by rw [h2 j hj];decide⟩
 ·rw [if_neg (by omega),h1,A24]
  have ht:=h.top l h2
  have e:((bAt z.L.bs l).seq+1).toNat=(bAt z.L.bs l).seq.toNat+1:=by
   rw [A3k]
   show ((bAt z.L.bs l).seq.toNat+1) % 2 ^ 64=_
   omega
  rw [e]
  refine ⟨by omega,by omega,fun j hj=> ?_⟩
  by_cases hj2:j=l
  ·subst hj2;omega
  ·have:=h4 j hj hj2;omega
def sqz (z:Sg) (x:Pl2):Nat:=(bAt z.L.bs x.1.toNat).seq.toNat
def bef (z:Sg) (x y:Pl2):Prop:=sqz z x<sqz z y∨(x.1=y.1∧x.2<y.2)
structure NewAt (z:Sg) (p:Pg) (y:Pl2) (z':Sg):Prop where
 S:z'.S=z.S
 nb:z'.L.nb=z.L.nb
 new:RecAt z' y p
 old:∀ x r,RecAt z x r→RecAt z' x r∧x≠y
 inv:∀ x r,RecAt z' x r→RecAt z x r∨(x=y∧r=p)
 blk:∀ b:Nat,b<z.L.nb→(bAt z.L.bs b).seq.toNat≠0→(b:Int)≠z.L.last→y.1≠b∧(b:Int)≠z'.L.last∧z'.R b=z.R b
 sq:∀ b:Nat,b<z.L.nb→(bAt z.L.bs b).seq.toNat≠0→(bAt z'.L.bs b).seq=(bAt z.L.bs b).seq
 bef:∀ x r,RecAt z x r→bef z' x y
theorem RecAt.used {k:Nat} {z:Sg} {x:Pl2} {r:Pg} (hw:LW k z) (h:RecAt z x r):∃ b:Nat,x.1=b∧b<z.L.nb∧(bAt z.L.bs b).seq.toNat≠0:=by
 obtain ⟨b,j,rfl,hb,hp⟩:=h
 refine ⟨b,rfl,hb,fun hz=> ?_⟩
 rw [hw.z0 b hb hz] at hp
 cases hp
theorem NewAt.ord {k:Nat} {z z':Sg} {p:Pg} {y:Pl2} (hw:LW k z) (h:NewAt z p y z') {x x':Pl2} {r r':Pg} (hx:RecAt z x r) (hx':RecAt z x' r'):Go.Proofs.YtpmojdippdlcaaaGreatDoor.bef z' x x'↔Go.Proofs.YtpmojdippdlcaaaGreatDoor.bef z x x':=by
 have e:∀ {x r},RecAt z x r→sqz z' x=sqz z x:=fun hx=>by
  obtain ⟨b,h1,h2,h3⟩:=hx.used hw
  unfold sqz
  rw [h1,A24,h.sq b h2 h3]
 unfold Go.Proofs.YtpmojdippdlcaaaGreatDoor.bef
 rw [e hx,e hx']
theorem Hn {R:Nat→List Pg} {b:Nat} {r:List Pg}:upR R b r b=r:=if_pos rfl
theorem Ep {R:Nat→List Pg} {b j:Nat} {r:List Pg} (h:j≠b):upR R b r j=R j:=if_neg h
theorem AppG.ok {n k:Nat} {q:Qt} {z z':Sg} {p:Pg} {e:Int} {y:Pl2} (hw:LW k z) (hk:k≤390000000000) (h:AppG n q z p e y z') (he:e≠30) :
  (e=40∧slots z=0)∨(e=0∧LW (k+1) z'∧slots z'+1=slots z∧rm z'≤5∧NewAt z p y z'):=by
 obtain ⟨h1,_,_,h4,_,h6⟩:=h
 obtain ⟨_,hA,_,_⟩:=h6.resolve_right (fun h9=>he h9.1)
 clear h6
 obtain ⟨S,L,R⟩:=z
 obtain ⟨S',L',R'⟩:=z'
 obtain ⟨y1,y2⟩:=y
 simp only at h1 h4 hA
 subst h1
 obtain ⟨x1,x2,nb',last',bs',d'⟩:=L'
 simp only at h4 hA
 subst h4
 have hf0:∀ {X:Sg},fr X=B6 X.L.bs X.L.nb:=rfl
 cases hA with
 | @into l g1 g2 g3 g4 g5 =>
  have hb:∀ j,bAt (L.bs.set l { bAt L.bs l with next:=((2+(R l).length:Nat):Int)+1 }) j=if j=l then { bAt L.bs l with next:=((2+(R l).length:Nat):Int)+1 } else bAt L.bs j:=fun j=>Dn (Aq1 g3)
  have hs:∀ j,(bAt (L.bs.set l { bAt L.bs l with next:=((2+(R l).length:Nat):Int)+1 }) j).seq=(bAt L.bs j).seq:=fun j=>by
   rw [hb]
   split
   ·rename_i e;subst e;rfl
   ·rfl
  have hfr:B6 (L.bs.set l { bAt L.bs l with next:=((2+(R l).length:Nat):Int)+1 }) L.nb=B6 L.bs L.nb:=Gu _ fun j _=>by rw [hs]
  have hr1:rm ⟨S',L,R⟩=6 - (R l).length:=by rw [V9 (l:=l) g1,if_neg (by simp only;omega)]
  have hlc:(upR R l (R l++[p]) l).length=(R l).length+1:=by rw [Hn];simp
  refine .inr ⟨rfl,⟨fun j hj=> ?_,fun j hj hz=> ?_,?_,fun j hj=> ?_⟩,?_,?_,⟨rfl,rfl,?_,fun x r hx=>⟨?_,?_⟩,fun x r hx=> ?_,fun b hb1 hb2 hb3=>⟨?_,hb3,?_⟩,fun b _ _=>hs b,fun x r hx=> ?_⟩⟩
  ·show (upR R l (R l++[p]) j).length≤6
   by_cases e:j=l
   ·subst e;omega
   ·rw [Ep e];exact hw.rl j hj
  ·show upR R l (R l++[p]) j=[]
   have hz':(bAt L.bs j).seq.toNat=0:=by rw [← hs j];exact hz
   by_cases e:j=l
   ·subst e;exact absurd hz' g3
   ·rw [Ep e];exact hw.z0 j hj hz'
  ·rcases hw.lst with ⟨q1,q2⟩ | ⟨l',q1,q2,q3,q4⟩
   ·exact .inl ⟨q1,fun j hj=>by show (bAt (L.bs.set l _) j).seq.toNat=0;rw [hs];exact q2 j hj⟩
   ·exact .inr ⟨l',q1,q2,by show (bAt (L.bs.set l _) l').seq.toNat≠0;rw [hs];exact q3,fun j hj hne=>by show (bAt (L.bs.set l _) j).seq.toNat<(bAt (L.bs.set l _) l').seq.toNat;rw [hs,hs];exact q4 j hj hne⟩
  ·show (bAt (L.bs.set l _) j).seq.toNat≤k+1
   rw [hs];have:=hw.top j hj;simp only at this;omega
  ·unfold slots
   rw [hr1,V9 (l:=l) g1,hf0,hf0]
   simp only
   rw [hfr,hb,if_pos rfl,hlc]
   simp only
   split <;> omega
  ·rw [V9 (l:=l) g1]
   simp only
   rw [hlc]
   split <;> omega
  ·exact ⟨l,(R l).length,rfl,g2,by show (upR R l (R l++[p]) l)[_]? =_;rw [Hn,A01 (A5q _)];simp⟩
  ·obtain ⟨b,j,rfl,hb1,hp⟩:=hx
   refine ⟨b,j,rfl,hb1,?_⟩
   show (upR R l (R l++[p]) b)[j]? =_
   by_cases e:b=l
   ·subst e
    rw [Hn,A07 (A08.1 hp).1];exact hp
   ·rw [Ep e];exact hp
  ·obtain ⟨b,j,rfl,hb1,hp⟩:=hx
   intro e9
   have e1:b=l:=by have:=A52 Prod.fst e9;simp only at this;omega
   have e2:j=(R l).length:=by have:=A52 Prod.snd e9;simp at this;omega
   subst e1 e2
   have:=(A08.1 hp).1
   simp only at this
   omega
  ·obtain ⟨b,j,rfl,hb1,hp⟩:=hx
   have hp:(upR R l (R l++[p]) b)[j]? =some r:=hp
   by_cases e:b=l
   ·subst e
    rw [Hn] at hp
    by_cases hj:j<(R b).length
    ·rw [A07 hj] at hp
     exact .inl ⟨b,j,rfl,hb1,hp⟩
    ·have hj2:=(A08.1 hp).1
     simp only [A2x,A1z] at hj2
     have:j=(R b).length:=by omega
     subst this
     rw [A01 (A5q _)] at hp
     simp at hp
     exact .inr ⟨rfl,hp.symm⟩
   ·rw [Ep e] at hp
    exact .inl ⟨b,j,rfl,hb1,hp⟩
  ·intro e
   have:(l:Int)=b:=e
   exact hb3 (by show (b:Int)=L.last;omega)
  ·show upR R l (R l++[p]) b=R b
   refine Ep fun e=>hb3 ?_
   show (b:Int)=L.last
   omega
  ·obtain ⟨b,j,rfl,hb1,hp⟩:=hx
   unfold Go.Proofs.YtpmojdippdlcaaaGreatDoor.bef
   by_cases e:b=l
   ·subst e
    have:=(A08.1 hp).1
    simp only at this
    exact .inr ⟨rfl,by simp only;omega⟩
   ·refine .inl ?_
    rcases hw.lst with ⟨q1,q2⟩ | ⟨l',q1,q2,q3,q4⟩
    ·simp only at q1;omega
    ·have hl':l'=l:=by simp only at q1;omega
     subst hl'
     unfold sqz
     simp only [A24]
     rw [hs,hs]
     exact q4 b hb1 e
 | @none pb pj last' bs' g1 g2 =>
  refine .inl ⟨rfl,?_⟩
  unfold slots
  rw [Aa2 g1,hf0]
  have:B6 L.bs L.nb=0:=by
   rcases Md L.bs L.nb with ⟨_,h2⟩ | ⟨l,h1,_⟩
   ·exact (by
     have:∀ m,m≤L.nb→B6 L.bs m=0:=fun m=>by
      induction m with
      | zero=>exact fun _=>rfl
      | succ m ih =>
       intro hm
       rw [Gh,ih (by omega)]
       unfold z1
       rw [if_neg (h2 m (by omega))]
     exact this _ (A5q _))
   ·omega
  simp only [this]
 | @fresh to _ g1 g3 g4 g5 g6 g7 g8 =>
  obtain ⟨s1,s2,s3⟩:=hw.seqN (by omega)
  simp only at s1 s2 s3
  have hs:∀ j<L.nb,j≠to→(bAt bs' j).seq=(bAt L.bs j).seq:=fun j hj hne=>by
   rcases g8 j hj (by omega) with e | ⟨_,e⟩ <;> rw [e]
  have hst:(bAt bs' to).seq=seqN L.bs L.last:=by rw [g7]
  have hfr:B6 bs' L.nb+1=B6 L.bs L.nb:=Nm g5 (by rw [hst];exact s1) L.nb g4 fun j hj hne=>by rw [hs j hj hne]
  have hr1:rm ⟨S',L,R⟩=0:=Aa2 g1
  have hl1:upR R to [p] to=[p]:=Hn
  have hr2:∀ d,rm ⟨S',⟨x1,x2,L.nb,(to:Int),bs',d⟩,upR R to [p]⟩=5:=fun d=>by
   rw [V9 (l:=to) rfl]
   simp only
   rw [g7,hl1]
   rfl
  refine .inr ⟨rfl,⟨fun j hj=> ?_,fun j hj hz=> ?_,.inr ⟨to,rfl,g4,by rw [hst];exact s1,fun j hj hne=> ?_⟩,fun j hj=> ?_⟩,?_,?_,⟨rfl,rfl,?_,fun x r hx=>⟨?_,?_⟩,fun x r hx=> ?_,fun b hb1 hb2 hb3=>⟨?_,?_,?_⟩,fun b hb1 hb2=>hs b hb1 (fun e=>hb2 (by rw [e];exact g5)),fun x r hx=> ?_⟩⟩
  ·show (upR R to [p] j).length≤6
   by_cases e:j=to
   ·subst e;rw [hl1];show 1≤6;omega
   ·rw [Ep e];exact hw.rl j hj
  ·show upR R to [p] j=[]
   have hz:(bAt bs' j).seq.toNat=0:=hz
   by_cases e:j=to
   ·subst e;rw [hst] at hz;exact absurd hz s1
   ·rw [Ep e];exact hw.z0 j hj (by show (bAt L.bs j).seq.toNat=0;rw [← hs j hj e];exact hz)
  ·show (bAt bs' j).seq.toNat<(bAt bs' to).seq.toNat
   rw [hst,hs j hj hne];exact s3 j hj
  ·show (bAt bs' j).seq.toNat≤k+1
   by_cases e:j=to
   ·subst e;rw [hst];exact s2
   ·rw [hs j hj e];have:=hw.top j hj;simp only at this;omega
  ·unfold slots
   rw [hr1,hr2,hf0,hf0]
   simp only
   omega
  ·rw [hr2];omega
  ·exact ⟨to,0,rfl,g4,by show (upR R to [p] to)[0]? =_;rw [hl1];rfl⟩
  ·obtain ⟨b,j,rfl,hb1,hp⟩:=hx
   refine ⟨b,j,rfl,hb1,?_⟩
   show (upR R to [p] b)[j]? =_
   by_cases e:b=to
   ·subst e
    have hp:(R b)[j]? =some r:=hp
    rw [g6] at hp;cases hp
   ·rw [Ep e];exact hp
  ·obtain ⟨b,j,rfl,hb1,hp⟩:=hx
   intro e9
   have e1:b=to:=by have:=A52 Prod.fst e9;simp only at this;omega
   subst e1
   have hp:(R b)[j]? =some r:=hp
   rw [g6] at hp;cases hp
  ·obtain ⟨b,j,rfl,hb1,hp⟩:=hx
   have hp:(upR R to [p] b)[j]? =some r:=hp
   by_cases e:b=to
   ·subst e
    rw [hl1] at hp
    have:j=0:=by have:=(A08.1 hp).1;simp at this;exact this
    subst this
    simp at hp
    exact .inr ⟨rfl,hp.symm⟩
   ·rw [Ep e] at hp
    exact .inl ⟨b,j,rfl,hb1,hp⟩
  ·intro e
   have:to=b:=by have e':(to:Int)=b:=e;omega
   subst this
   exact hb2 g5
  ·intro e
   have:b=to:=by have e':(b:Int)=to:=e;omega
   subst this
   exact hb2 g5
  ·refine Ep fun e=> ?_
   subst e
   exact hb2 g5
  ·obtain ⟨b,j,rfl,hb1,hp⟩:=hx
   have hp:(R b)[j]? =some r:=hp
   refine .inl ?_
   have hne:b≠to:=fun e=>by subst e;rw [g6] at hp;cases hp
   unfold sqz
   simp only [A24]
   rw [hst,hs b hb1 hne]
   exact s3 b hb1
structure GoneB (z:Sg) (b:Nat) (z':Sg):Prop where
 S:z'.S=z.S
 nb:z'.L.nb=z.L.nb
 old:∀ x r,RecAt z x r→x.1≠b→RecAt z' x r
 inv:∀ x r,RecAt z' x r→RecAt z x r∧x.1≠b
 sq:∀ j:Nat,j≠b→(bAt z'.L.bs j).seq=(bAt z.L.bs j).seq
theorem GoneB.ord {z z':Sg} {b:Nat} (h:GoneB z b z') {x x':Pl2} {r r':Pg} (hx:RecAt z' x r) (hx':RecAt z' x' r'):Go.Proofs.YtpmojdippdlcaaaGreatDoor.bef z' x x'↔Go.Proofs.YtpmojdippdlcaaaGreatDoor.bef z x x':=by
 have e:∀ {x r},RecAt z' x r→sqz z' x=sqz z x:=fun hx=>by
  obtain ⟨h1,h2⟩:=h.inv _ _ hx
  obtain ⟨c,j,rfl,_,_⟩:=h1
  unfold sqz
  simp only [A24]
  rw [h.sq c (fun e=>h2 (by rw [e]))]
 unfold Go.Proofs.YtpmojdippdlcaaaGreatDoor.bef
 rw [e hx,e hx']
theorem DropG.ok {n k:Nat} {q:Qt} {z z':Sg} {b:Nat} (hw:LW k z) (hb:b<z.L.nb) (hs:(bAt z.L.bs b).seq.toNat≠0) (hl:(b:Int)≠z.L.last) (h:DropG n q z b 0 z') :
  LW k z'∧fr z'=fr z+1∧rm z'=rm z∧GoneB z b z':=by
 obtain ⟨h1,_,_,h4,_,_,h7⟩:=h
 obtain ⟨_,h8,h9,h10⟩:=h7.resolve_right (fun h9=>absurd h9.1 (by decide))
 rw [if_neg hl] at h9
 obtain ⟨S,L,R⟩:=z
 obtain ⟨S',L',R'⟩:=z'
 simp only at h1 h4 h8 h9 h10 hb hs hl
 subst h1 h10
 obtain ⟨x1,x2,nb',last',bs',d'⟩:=L'
 simp only at h4 h8 h9
 subst h4 h9 h8
 have hbl:=Aq1 hs
 have hB:∀ j,bAt (L.bs.set b (Iy ((bAt L.bs b).wear+1))) j=if j=b then Iy ((bAt L.bs b).wear+1) else bAt L.bs j:=fun j=>Dn hbl
 have hz:(bAt (L.bs.set b (Iy ((bAt L.bs b).wear+1))) b).seq.toNat=0:=by rw [hB,if_pos rfl];rfl
 have ho:∀ j,j≠b→(bAt (L.bs.set b (Iy ((bAt L.bs b).wear+1))) j).seq=(bAt L.bs j).seq:=fun j hj=>by rw [hB,if_neg hj]
 refine ⟨⟨fun j hj=> ?_,fun j hj hz2=> ?_,?_,fun j hj=> ?_⟩,?_,?_,⟨rfl,rfl,fun x r hx hne=> ?_,fun x r hx=> ?_,ho⟩⟩
 ·show (upR R b [] j).length≤6
  by_cases e:j=b
  ·subst e;rw [Hn];exact A5s _
  ·rw [Ep e];exact hw.rl j hj
 ·show upR R b [] j=[]
  by_cases e:j=b
  ·subst e;exact Hn
  ·rw [Ep e];exact hw.z0 j hj (by show (bAt L.bs j).seq.toNat=0;rw [← ho j e];exact hz2)
 ·rcases hw.lst with ⟨q1,q2⟩ | ⟨l,q1,q2,q3,q4⟩
  ·exact absurd (q2 b hb) hs
  ·have hlb:l≠b:=fun e=>hl (by subst e;exact q1.symm)
   refine .inr ⟨l,q1,q2,?_,fun j hj hne=> ?_⟩
   ·show (bAt (L.bs.set b _) l).seq.toNat≠0
    rw [ho l hlb];exact q3
   ·show (bAt (L.bs.set b _) j).seq.toNat<(bAt (L.bs.set b _) l).seq.toNat
    rw [ho l hlb]
    by_cases e:j=b
    ·subst e;rw [hz];have:(bAt L.bs l).seq.toNat≠0:=q3;omega
    ·rw [ho j e];exact q4 j hj hne
 ·show (bAt (L.bs.set b _) j).seq.toNat≤k
  by_cases e:j=b
  ·subst e;rw [hz];exact A5s _
  ·rw [ho j e];exact hw.top j hj
 ·show B6 (L.bs.set b _) L.nb=B6 L.bs L.nb+1
  exact (Nm hz hs L.nb hb fun j hj hne=>by rw [ho j hne]).symm
 ·rcases hw.lst with ⟨q1,q2⟩ | ⟨l,q1,q2,q3,q4⟩
  ·exact absurd (q2 b hb) hs
  ·have hlb:l≠b:=fun e=>hl (by subst e;exact q1.symm)
   refine (V9 (l:=l) (z:=⟨S',⟨x1,x2,L.nb,L.last,L.bs.set b (Iy ((bAt L.bs b).wear+1)),d'⟩,upR R b []⟩) q1).trans ?_
   rw [V9 (l:=l) q1]
   simp only
   rw [hB,if_neg hlb,Ep hlb]
 ·obtain ⟨c,j,rfl,h1,h2⟩:=hx
  refine ⟨c,j,rfl,h1,?_⟩
  show (upR R b [] c)[j]? =_
  rw [Ep (fun e=>hne (by rw [e]))];exact h2
 ·obtain ⟨c,j,rfl,h1,h2⟩:=hx
  have h2:(upR R b [] c)[j]? =some r:=h2
  by_cases e:c=b
  ·subst e;rw [Hn] at h2;cases h2
  ·rw [Ep e] at h2
   exact ⟨⟨c,j,rfl,h1,h2⟩,fun e9=>e (by have e9':(c:Int)=b:=e9;omega)⟩
end
section
open Go.K
structure Kp (I:Sg→Prop):Prop where
  sh:∀ {k:Nat} {z z1:Sg} {x y:Pl2} {p:Pg},LW k z→P0 z→I z→x∈refs z.S→RecAt z x p→(Ee p).2.2.2=0→NewAt z p y z1→FrA z.L.d.c z1.L.d.c→I { z1 with S:=C9 z1.S x y }
  dr:∀ {k:Nat} {z z':Sg} {b:Nat},LW k z→P0 z→I z→(∀ r∈refs z.S,r.1≠b)→GoneB z b z'→FrA z.L.d.c z'.L.d.c→I z'
def DnM (n:Nat) (q:Qt) (I:Sg→Prop) (z':Sg):Prop:=∃ k z1,LW k z1∧P0 z1∧I z1 ∧
  ((∃ x p y,x∈refs z1.S∧RecAt z1 x p∧(Ee p).2.2.2=0∧AppG n q z1 p 30 y z') ∨
   ∃ b:Nat,b<z1.L.nb∧(bAt z1.L.bs b).seq.toNat≠0∧(b:Int)≠z1.L.last∧(∀ r∈refs z1.S,r.1≠b)∧DropG n q z1 b 30 z')
theorem AppG.fra {n:Nat} {q:Qt} {z z':Sg} {p:Pg} {e:Int} {y:Pl2} (h:AppG n q z p e y z'):FrA z.L.d.c z'.L.d.c:=by
  rcases h.2.2.2.2.2 with ⟨_,_,h,_⟩ | h
  · exact h
  · exact h.2.2.2.1
theorem ShR.ok {n k:Nat} {q:Qt} {z z':Sg} {x:Pl2} {p:Pg} {e:Int} (hw:LW k z) (hk:k≤390000000000) (hP:P0 z) (hx:x∈refs z.S) (hr:RecAt z x p) (hg:(Ee p).2.2.2=0) (h:ShR n q z x p e z') (he:e≠30) :
    (e=40∧slots z=0)∨(e=0∧LW (k+1) z'∧slots z'+1=slots z∧P0 z'∧∃ y z1,NewAt z p y z1∧FrA z.L.d.c z1.L.d.c∧z'={ z1 with S:=C9 z1.S x y }∧refs z'.S=(refs z.S).map (mvP x y)):=by
  obtain ⟨y,z1,hA,rfl⟩:=h
  rcases hA.ok hw hk he with h | ⟨rfl,h2,h3,h4,h5⟩
  · exact .inl h
  · rw [if_pos rfl]
    have hR:refs (C9 z1.S x y)=(refs z.S).map (mvP x y):=by rw [Ag1,h5.S]
    refine .inr ⟨rfl,h2.of rfl rfl,h3,fun r hr'=> ?_,y,z1,h5,hA.fra,rfl,hR⟩
    have hr':r∈refs (C9 z1.S x y):=hr'
    rw [hR] at hr'
    obtain ⟨r0,h6,rfl⟩:=A5b.1 hr'
    unfold mvP
    by_cases e:r0=x
    · rw [if_pos e];exact ⟨p,h5.new,hg⟩
    · rw [if_neg e]
      obtain ⟨p0,h7,h8⟩:=hP r0 h6
      exact ⟨p0,(h5.old _ _ h7).1,h8⟩
theorem EmA.keep {n:Nat} {q:Qt} {I:Sg→Prop} (hK:Kp I) {b:Nat} {xs:List Pl2} {e:Int} {z z':Sg} (h:EmA n q xs z e z'):∀ {k:Nat},LW k z→k+xs.length≤390000000000→P0 z→I z→(∀ x∈xs,x.1=b) →
    b<z.L.nb→(bAt z.L.bs b).seq.toNat≠0→(b:Int)≠z.L.last →
    (e=40∧slots z<Gs z.S xs)∨(e=30∧DnM n q I z') ∨
    (e=0∧LW (k+xs.length) z'∧P0 z'∧I z'∧slots z≤slots z'+Gs z.S xs∧(refs z'.S).length=(refs z.S).length∧(∀ r∈refs z'.S,r.1=b→r∈refs z.S∧r∉xs) ∧
      z'.L.nb=z.L.nb∧(bAt z'.L.bs b).seq.toNat≠0∧(b:Int)≠z'.L.last∧z'.R b=z.R b):=by
  induction h with
  | nil=>exact fun hw hk hP hI hb h1 h2 h3=> .inr (.inr ⟨rfl,hw,hP,hI,Nat.le_add_right _ _,rfl,fun r hr _=>⟨hr,by simp⟩,rfl,h2,h3,rfl⟩)
  | @skip x xs z z' e hc _ ih =>
    intro k hw hk hP hI hb h1 h2 h3
    rw [A3v] at hk
    have hcn:Gs z.S (x::xs)=Gs z.S xs:=by unfold Gs;rw [List.countP_cons_of_neg (by rw [hc];decide)]
    rw [hcn]
    rcases ih hw (by omega) hP hI (fun y hy=>hb y (A19 _ hy)) h1 h2 h3 with g | g | ⟨g1,g2,g3,g4,g5,g6,g7,g8⟩
    · exact .inl g
    · exact .inr (.inl g)
    · refine .inr (.inr ⟨g1,g2.mono (by rw [A3v];omega),g3,g4,g5,g6,fun r hr hrb=> ?_,g8⟩)
      obtain ⟨g9,g10⟩:=g7 r hr hrb
      refine ⟨g9,fun h9=> ?_⟩
      rcases A46.1 h9 with rfl | h9
      · rw [cntS_iff.2 g9] at hc;cases hc
      · exact g10 h9
  | @stop x xs z z1 e p hc hr hs he =>
    intro k hw hk hP hI hb h1 h2 h3
    obtain ⟨p',hr',hg⟩:=hP x (cntS_iff.1 hc)
    have:=hr.fn hr'
    subst this
    by_cases h30:e=30
    · subst h30
      refine .inr (.inl ⟨rfl,k,z,hw,hP,hI,.inl ?_⟩)
      obtain ⟨y,z2,hA,rfl⟩:=hs
      exact ⟨x,p,y,cntS_iff.1 hc,hr,hg,hA⟩
    · rcases hs.ok hw (by omega) hP (cntS_iff.1 hc) hr hg h30 with ⟨g1,g2⟩ | ⟨g1,_⟩
      · refine .inl ⟨g1,?_⟩
        rw [g2]
        unfold Gs
        rw [List.countP_cons_of_pos hc]
        omega
      · exact absurd g1 he
  | @go x xs z z1 z' e p hc hr hs _ ih =>
    intro k hw hk hP hI hb h1 h2 h3
    rw [A3v] at hk
    obtain ⟨p',hr',hg⟩:=hP x (cntS_iff.1 hc)
    have:=hr.fn hr'
    subst this
    obtain ⟨_,w1,w2,w3,y,z2,w4,w5,rfl,w7⟩:=(hs.ok hw (by omega) hP (cntS_iff.1 hc) hr hg (by decide)).resolve_left (fun h=>absurd h.1 (by decide))
    obtain ⟨v1,v2,v3⟩:=w4.blk b h1 h2 h3
    have hnew:∀ r:Pl2,r.1=(b:Int)→r∈refs (C9 z2.S x y)→r∈refs z.S∧r≠x:=fun r hrb hrm=>by
      have hrm:r∈refs ({ z2 with S:=C9 z2.S x y }:Sg).S:=hrm
      rw [w7] at hrm
      obtain ⟨r0,q1,rfl⟩:=A5b.1 hrm
      unfold mvP at hrb ⊢
      by_cases e:r0=x
      · rw [if_pos e] at hrb;exact absurd hrb v1
      · rw [if_neg e];exact ⟨q1,e⟩
    have hcn:Gs z.S (x::xs)=Gs z.S xs+1:=by unfold Gs;rw [List.countP_cons_of_pos hc]
    have hmono:Gs (C9 z2.S x y) xs≤Gs z.S xs:=by
      refine List.countP_mono_left fun r hr h9=> ?_
      exact cntS_iff.2 (hnew r (hb r (A19 _ hr)) (cntS_iff.1 h9)).1
    have hlen:(refs (C9 z2.S x y)).length=(refs z.S).length:=by
      have:refs (C9 z2.S x y)=(refs z.S).map (mvP x y):=w7
      rw [this,A4b]
    have hsq:(bAt z2.L.bs b).seq.toNat≠0:=by rw [w4.sq b h1 h2];exact h2
    rcases ih (k:=k+1) w1 (by omega) w3 (hK.sh hw hP hI (cntS_iff.1 hc) hr hg w4 w5) (fun y hy=>hb y (A19 _ hy)) (by show b<z2.L.nb;rw [w4.nb];exact h1) hsq v2 with ⟨g1,g2⟩ | g | ⟨g1,g2,g3,g4,g5,g6,g7,g8,g9,g10,g11⟩
    · refine .inl ⟨g1,?_⟩
      have g2:slots ({ z2 with S:=C9 z2.S x y }:Sg)<Gs (C9 z2.S x y) xs:=g2
      omega
    · exact .inr (.inl g)
    · refine .inr (.inr ⟨g1,g2.mono (by rw [A3v];omega),g3,g4,?_,g6.trans hlen,fun r hr hrb=> ?_,g8.trans w4.nb,g9,g10,g11.trans v3⟩)
      · have g5:slots ({ z2 with S:=C9 z2.S x y }:Sg)≤slots z'+Gs (C9 z2.S x y) xs:=g5
        omega
      · obtain ⟨q1,q2⟩:=g7 r hr hrb
        obtain ⟨q3,q4⟩:=hnew r hrb q1
        refine ⟨q3,fun h9=> ?_⟩
        rcases A46.1 h9 with h9 | h9
        · exact q4 h9
        · exact q2 h9
theorem Ai0:Kp fun _=>True:=⟨fun _ _ _ _ _ _ _ _=>trivial,fun _ _ _ _ _ _=>trivial⟩
theorem H5 {b:Int} {r:List Pg} {i:Nat}:∀ x∈F7 b i r,x.1=b:=fun x hx=>by
  obtain ⟨j,p,_,_,rfl⟩:=recZ_mem.1 hx
  rfl
theorem Ql {z z1:Sg} {b:Nat} (hP:P0 z) (h:∀ r∈refs z1.S,r.1=b→r∈refs z.S∧r∉F7 b 2 (z.R b)):∀ r∈refs z1.S,r.1≠b:=fun r hr hrb=>by
  obtain ⟨h1,h2⟩:=h r hr hrb
  obtain ⟨p,⟨c,j,rfl,_,hp⟩,hg⟩:=hP r h1
  have:c=b:=by have e9:(c:Int)=b:=hrb;omega
  subst this
  exact h2 (recZ_mem.2 ⟨j,p,hp,hg,rfl⟩)
theorem Ayc {n k:Nat} {q:Qt} {z:Sg} (hw:LW k z) (hk:k≤380000000000) (hP:P0 z):Ax2 n q z:=fun b hb hs hl z1 hE j hj=>by
  have hlen:=Qd b (z.R b) 2
  have:=hw.rl b hb
  rcases hE.keep Ai0 (b:=b) hw (by omega) hP trivial H5 hb hs hl with ⟨h,_⟩ | ⟨h,_⟩ | ⟨_,_,_,_,_,_,h,_⟩
  · cases h
  · cases h
  · refine Au8 fun h9=> ?_
    exact Ql hP h _ h9 rfl
theorem Aq2 {x y:Ldv} (h:Vr x y=true):x.c≤y.c:=by
  unfold Vr at h
  simp only [A3j] at h
  unfold orF at h
  by_cases e:Vq x.c y.c=0
  · unfold Vq at e
    split at e
    · cases e
    · split at e
      · cases e
      · omega
  · rw [if_neg e] at h
    unfold Vq at h
    split at h
    · omega
    · split at h <;> omega
theorem Aq3 {x y:Ldv} (h:Vr x y=false):y.c≤x.c:=by
  unfold Vr at h
  simp only [A1k] at h
  by_cases hl:x.c<y.c
  · exfalso
    apply h
    unfold orF
    have:Vq x.c y.c= -1:=by unfold Vq;rw [if_pos hl]
    rw [this]
    show (if (-1:Int)=0 then _ else (-1:Int))<0
    rw [if_neg (by decide)]
    decide
  · omega
theorem Ou {xs:List Ldv} {but:Int}:∀ {i:Nat} {j:Nat},j<i→(j:Int)≠but→(Cx xs but i).2=true∧(J3 xs (Cx xs but i).1.toNat).c≤(J3 xs j).c
  | 0,j,h,_=>by omega
  | i+1,j,h,hb=>by
    unfold Cx
    by_cases hc:(!decide ((i:Int)=but) && (!(Cx xs but i).2 || Vr (J3 xs i) (J3 xs (Cx xs but i).1.toNat)))=true
    · rw [if_pos hc]
      refine ⟨rfl,?_⟩
      simp only [A24]
      by_cases e:j=i
      · subst e;exact A5p _
      · obtain ⟨h1,h2⟩:=Ou (xs:=xs) (i:=i) (j:=j) (by omega) hb
        simp only [A3n,A36,A23] at hc
        rcases hc.2 with h3 | h3
        · rw [h1] at h3;cases h3
        · have:=Aq2 h3;omega
    · rw [if_neg hc]
      by_cases e:j=i
      · subst e
        simp only [A3n,A36,A23,A1k,not_and,not_or,Bool.not_eq_false,Bool.not_eq_true] at hc
        obtain ⟨h1,h2⟩:=hc hb
        exact ⟨h1,Aq3 h2⟩
      · exact Ou (by omega) hb
theorem R3 (xs:List Ldv):∀ i j,j<i→(J3 xs j).s.seq.toNat≤(J3 xs (D5 xs i)).s.seq.toNat
  | 0,j,h=>by omega
  | i+1,j,h=>by
    unfold D5
    split
    · rename_i hlt
      by_cases e:j=i
      · subst e;exact A5q _
      · have:=R3 xs i j (by omega);omega
    · rename_i hlt
      by_cases e:j=i
      · subst e;omega
      · exact R3 xs i j (by omega)
theorem Qm {S:Sto} {ss:List Seg} {i:Nat} {g:Seg} (h:ss[i]? =some g):J3 (ss.map (ldS S)) i=ldS S g:=by
  unfold J3
  rw [A00,A29,h]
  rfl
theorem SegsOf.has {z:Sg} {ss:List Seg} (h:SegsOf z ss) {b:Nat} (hb:b<z.L.nb) (hs:(bAt z.L.bs b).seq.toNat≠0):∃ (i:Nat) (g:Seg),ss[i]? =some g∧g.b=b∧g.seq=(bAt z.L.bs b).seq∧g.recs.list=F7 b 2 (z.R b):=by
  have:((b:Int),(bAt z.L.bs b).seq,(bAt z.L.bs b).wear,F7 b 2 (z.R b))∈ss.map Wp:=h.1.mem_iff.2 (segZ_mem.2 ⟨b,hb,hs,rfl⟩)
  obtain ⟨g,hg,hv⟩:=A5b.1 this
  unfold Wp at hv
  simp only [A48] at hv
  obtain ⟨i,hi⟩:=List.getElem?_of_mem hg
  exact ⟨i,g,hi,hv.1,hv.2.1,hv.2.2.2⟩
theorem Aq4 {k:Nat} {z:Sg} {ss:List Seg} (hw:LW k z) (hs:SegsOf z ss) {g:Seg} (hg:ss[D5 (ss.map (ldS z.S)) ss.length]? =some g):g.b=z.L.last:=by
  obtain ⟨b,hb,hsq,hgb,hgs,_,_⟩:=hs.mem (A2a hg)
  rcases hw.lst with ⟨_,h2⟩ | ⟨l,h1,h2,h3,h4⟩
  · exact absurd (h2 b hb) hsq
  · obtain ⟨i,g2,e1,e2,e3,_⟩:=hs.has h2 h3
    have hi:=(A08.1 e1).1
    have hm:=R3 (ss.map (ldS z.S)) ss.length i hi
    rw [Qm e1,Qm hg] at hm
    have hm:g2.seq.toNat≤g.seq.toNat:=hm
    rw [e3,hgs] at hm
    by_cases e:b=l
    · subst e;rw [hgb,h1]
    · have:=h4 b hb e;omega
theorem Yy {α:Type} [DecidableEq α]:∀ {xs ys:List α},xs.Nodup→(∀ x∈xs,x∈ys)→xs.length≤ys.length
  | [],ys,_,_=>A5s _
  | x::xs,ys,hn,hs=>by
    rw [A4i] at hn
    have h1:=hs x A2y
    have h2:=Yy (ys:=ys.erase x) hn.2 fun y hy=>by
      have:y≠x:=fun e=>hn.1 (by rw [← e];exact hy)
      exact (List.mem_erase_of_ne this).2 (hs y (A19 _ hy))
    rw [A1f h1] at h2
    have:=A1p h1
    rw [A3v]
    omega
theorem Aa3 (b:Int):∀ (r:List Pg) (i:Nat),(F7 b i r).Nodup∧∀ x∈F7 b i r,(i:Int)≤x.2
  | [],i=>⟨A4w,fun x h=>by cases h⟩
  | p::r,i=>by
    obtain ⟨h1,h2⟩:=Aa3 b r (i+1)
    unfold F7
    refine ⟨A3d.2 ⟨by split <;> simp,h1,fun a ha c hc e=> ?_⟩,fun x hx=> ?_⟩
    · split at ha
      · have:=h2 c hc
        rw [← e] at this
        simp only [A2z] at ha
        rw [ha] at this
        simp only at this
        omega
      · cases ha
    · rcases A4f.1 hx with h | h
      · split at h
        · simp only [A2z] at h;rw [h];exact A5p _
        · cases h
      · have:=h2 x h;omega
def cz (R:Nat→List Pg):Nat→List Pl2
  | 0=>[]
  | j+1=>cz R j++F7 j 2 (R j)
theorem Av9 (R:Nat→List Pg):∀ k,(cz R k).Nodup∧∀ x∈cz R k,x.1<k
  | 0=>⟨A4w,fun x h=>by cases h⟩
  | k+1=>by
    obtain ⟨h1,h2⟩:=Av9 R k
    unfold cz
    refine ⟨A3d.2 ⟨h1,(Aa3 _ _ _).1,fun a ha c hc e=> ?_⟩,fun x hx=> ?_⟩
    · have e1:=H5 c hc
      have e2:=h2 a ha
      rw [e,e1] at e2
      omega
    · rcases A4f.1 hx with h | h
      · have:=h2 x h;omega
      · rw [H5 x h];omega
theorem Aq5 (S:Sto) (R:Nat→List Pg) (k:Nat):(cz R k).countP (Jf S)≤(refs S).length:=by
  rw [List.countP_eq_length_filter]
  exact Yy ((Av9 R k).1.filter _) fun x hx=>cntS_iff.1 (A4g.1 hx).2
theorem Ayd {z:Sg} (hf:fr z≤1) (hc:(refs z.S).length+20≤6*z.L.nb):∃ b:Nat,b<z.L.nb∧(bAt z.L.bs b).seq.toNat≠0∧(b:Int)≠z.L.last∧Gs z.S (F7 b 2 (z.R b))≤5:=by
  refine A04 fun hn=> ?_
  have hall:∀ b:Nat,b<z.L.nb→(bAt z.L.bs b).seq.toNat≠0→(b:Int)≠z.L.last→6≤Gs z.S (F7 b 2 (z.R b)):=fun b h1 h2 h3=>by
    refine A04 fun h4=>hn ⟨b,h1,h2,h3,by omega⟩
  have key:∀ k,k≤z.L.nb→6*k≤(cz z.R k).countP (Jf z.S)+6*B6 z.L.bs k+(if 0≤z.L.last∧z.L.last<k then 6 else 0):=fun k=>by
    induction k with
    | zero=>exact fun _=>A5s _
    | succ k ih =>
      intro hk
      have ih:=ih (by omega)
      rw [Gh]
      unfold cz z1
      rw [List.countP_append]
      by_cases h0:(bAt z.L.bs k).seq.toNat=0
      · rw [if_pos h0]
        split at ih <;> split <;> omega
      · rw [if_neg h0]
        by_cases hl:(k:Int)=z.L.last
        · rw [if_neg (by omega)] at ih
          rw [if_pos (by omega)]
          omega
        · have:=hall k (by omega) h0 hl
          unfold Gs at this
          split at ih <;> split <;> omega
  have h1:=key z.L.nb (A5q _)
  have h2:=Aq5 z.S z.R z.L.nb
  have h3:B6 z.L.bs z.L.nb≤1:=hf
  split at h1 <;> omega
theorem Aq6 {k:Nat} {z:Sg} {ss:List Seg} (hw:LW k z) (hs:SegsOf z ss) (hf:fr z≤1) (hc:(refs z.S).length+20≤6*z.L.nb) :
    (F6 (ss.map (ldS z.S))).2=true∧∀ g,ss[(F6 (ss.map (ldS z.S))).1.toNat]? =some g→Gs z.S g.recs.list≤5:=by
  obtain ⟨b,h1,h2,h3,h4⟩:=Ayd hf hc
  obtain ⟨i,g0,e1,e2,_,e4⟩:=hs.has h1 h2
  have hi:=(A08.1 e1).1
  have hne:(i:Int)≠(D5 (ss.map (ldS z.S)) ss.length:Nat):=fun e=>by
    have:i=D5 (ss.map (ldS z.S)) ss.length:=by omega
    have:=Aq4 hw hs (g:=g0) (by rw [← this];exact e1)
    rw [e2] at this
    exact h3 this
  obtain ⟨m1,m2⟩:=Ou (xs:=ss.map (ldS z.S)) (but:=(D5 (ss.map (ldS z.S)) ss.length:Nat)) (i:=ss.length) hi hne
  unfold F6
  rw [A4b]
  refine ⟨m1,fun g hg=> ?_⟩
  rw [Qm hg,Qm e1] at m2
  have m2:((Gs z.S g.recs.list:Nat):Int)≤(Gs z.S g0.recs.list:Nat):=m2
  rw [e4] at m2
  omega
theorem ColR.keep {n k:Nat} {q:Qt} {z z':Sg} {e:Int} {I:Sg→Prop} (hK:Kp I) (hw:LW k z) (hk:k≤380000000000) (hP:P0 z) (hI:I z) (hf:fr z=1) (hc:(refs z.S).length+20≤6*z.L.nb) (h:ColR n q z e z') :
    (e=30∧DnM n q I z')∨(e=0∧LW (k+6) z'∧P0 z'∧I z'∧slots z+1≤slots z'∧1≤fr z'∧(refs z'.S).length=(refs z.S).length∧z'.L.nb=z.L.nb):=by
  obtain ⟨ss,hss,h⟩:=h
  obtain ⟨v1,v2⟩:=Aq6 hw hss (by omega) hc
  rcases h with ⟨h1,_⟩ | ⟨_,g,b,hg,hgb,hnl,hE⟩
  · rw [v1] at h1;cases h1
  have hc5:=v2 g hg
  obtain ⟨b',hb',hsq,hgb',_,_,hrl⟩:=hss.mem (A2a hg)
  have:b'=b:=by omega
  subst this
  rw [hrl] at hc5
  have hlen:=Qd b' (z.R b') 2
  have hrl6:=hw.rl b' hb'
  have hsl:6≤slots z:=by unfold slots;omega
  rcases hE with ⟨he,hE⟩ | ⟨z1,hE,hD⟩
  · rcases hE.keep hK (b:=b') hw (by omega) hP hI H5 hb' hsq hnl with ⟨_,g1⟩ | g | ⟨g,_⟩
    · omega
    · exact .inl g
    · exact absurd g he
  · rcases hE.keep hK (b:=b') hw (by omega) hP hI H5 hb' hsq hnl with ⟨g,_⟩ | ⟨g,_⟩ | ⟨_,g2,g3,g4,g5,g6,g7,g8,g9,g10,g11⟩
    · cases g
    · cases g
    have hno:=Ql hP g7
    by_cases h30:e=30
    · subst h30
      exact .inl ⟨rfl,_,z1,g2,g3,g4,.inr ⟨b',by omega,g9,g10,hno,hD⟩⟩
    · have he:e=0:=by rcases hD.2.2.2.2.2.2 with h | h;exact h.1;exact absurd h.1 h30
      subst he
      have hfra:=hD.2.2.2.2.2.1
      obtain ⟨d1,d2,d3,d4⟩:=DropG.ok g2 (by omega) g9 g10 hD
      refine .inr ⟨rfl,d1.mono (by omega),fun r hr=> ?_,hK.dr g2 g3 g4 hno d4 hfra,?_,by omega,by rw [d4.S];exact g6,d4.nb.trans g8⟩
      · rw [d4.S] at hr
        obtain ⟨p,p1,p2⟩:=g3 r hr
        exact ⟨p,d4.old _ _ p1 (hno r hr),p2⟩
      · unfold slots at *
        omega
theorem RoomR.keep {n:Nat} {q:Qt} {m:Nat} {z z':Sg} {e:Int} {I:Sg→Prop} (hK:Kp I) (h:RoomR n q m z e z'):∀ {k:Nat},LW k z→k+6*m≤380000000000→P0 z→I z→1≤fr z→(refs z.S).length+20≤6*z.L.nb→13≤slots z+m →
    (e=30∧DnM n q I z')∨(e=0∧LW (k+6*m) z'∧P0 z'∧I z'∧2≤fr z'∧(refs z'.S).length=(refs z.S).length∧z'.L.nb=z.L.nb):=by
  induction h with
  | @enough m z h=>exact fun hw hk hP hI hf hc hs=> .inr ⟨rfl,hw.mono (by omega),hP,hI,h,rfl,rfl⟩
  | @out z=>exact fun hw hk hP hI hf hc hs=> .inr ⟨rfl,hw,hP,hI,by have:=Aq0 z;unfold slots at hs;omega,rfl,rfl⟩
  | @stop m z z1 e h1 h2 h3 =>
    intro k hw hk hP hI hf hc hs
    have h1:fr z≤1:=h1
    rcases h2.keep hK hw (by omega) hP hI (by omega) hc with g | ⟨g,_⟩
    · exact .inl g
    · exact absurd g h3
  | @go m z z1 z' e h1 h2 _ ih =>
    intro k hw hk hP hI hf hc hs
    have h1:fr z≤1:=h1
    rcases h2.keep hK hw (by omega) hP hI (by omega) hc with ⟨g,_⟩ | ⟨_,g1,g2,g3,g4,g5,g6,g7⟩
    · cases g
    · rcases ih g1 (by omega) g2 g3 g5 (by rw [g6,g7];exact hc) (by omega) with w | ⟨w1,w2,w3,w4,w5,w6,w7⟩
      · exact .inl w
      · exact .inr ⟨w1,w2.mono (by omega),w3,w4,w5,w6.trans g6,w7.trans g7⟩
theorem PutG.keep {n k:Nat} {q:Qt} {z z':Sg} {p:Pg} {e:Int} {y:Pl2} {I:Sg→Prop} (hK:Kp I) (hw:LW k z) (hk:k≤300000000000) (h40:z.L.nb≤40) (hP:P0 z) (hI:I z) (hf:1≤fr z) (hc:(refs z.S).length+20≤6*z.L.nb) (h:PutG n q z p e y z') :
    (e=30∧(DnM n q I z'∨∃ k' z1,LW k' z1∧P0 z1∧I z1∧2≤fr z1∧AppG n q z1 p 30 y z')) ∨
    (e=0∧∃ k' z1,LW k' z1∧P0 z1∧I z1∧2≤fr z1∧(refs z1.S).length=(refs z.S).length∧z1.L.nb=z.L.nb∧NewAt z1 p y z'∧FrA z1.L.d.c z'.L.d.c∧1≤fr z'∧LW (k+2000) z'):=by
  have hroom:∀ {e z1},RoomR n q (8*z.L.nb) z e z1→_:=fun h=>RoomR.keep hK h hw (by omega) hP hI hf hc (by unfold slots;omega)
  rcases h with ⟨he,h⟩ | ⟨z1,h,hA⟩
  · rcases hroom h with ⟨g1,g2⟩ | ⟨g,_⟩
    · exact .inl ⟨g1,.inl g2⟩
    · exact absurd g he
  · rcases hroom h with ⟨g1,_⟩ | ⟨_,g2,g3,g4,g5,g6,g7⟩
    · cases g1
    by_cases h30:e=30
    · subst h30
      exact .inl ⟨rfl,.inr ⟨_,z1,g2,g3,g4,g5,hA⟩⟩
    · rcases hA.ok g2 (by omega) h30 with ⟨_,w⟩ | ⟨w1,w2,w3,w4,w5⟩
      · unfold slots at w;omega
      · exact .inr ⟨w1,_,z1,g2,g3,g4,g5,g6,g7,w5,hA.fra,by unfold slots at w3;omega,w2.mono (by omega)⟩
theorem Ai1 {n:Nat} {q:Qt} {z:Sg} (hP:P0 z) (hf:1≤fr z) (hc:(refs z.S).length+20≤6*z.L.nb) (h13:z.L.nb≤40):Aar n q z:=by
  intro z1 hC ⟨k1,hk1,hW1⟩ hf1
  have key:P0 z1∧1≤fr z1∧(refs z1.S).length=(refs z.S).length∧z1.L.nb=z.L.nb:=by
    clear hW1 hf1
    induction hC with
    | refl=>exact ⟨hP,hf,rfl,rfl⟩
    | @step z1 z2 _ hk hf1 hR ih =>
      obtain ⟨k,hk,hW⟩:=hk
      obtain ⟨i1,i2,i3,i4⟩:=ih
      have hf1:fr z1≤1:=hf1
      rcases hR.keep Ai0 hW.lw (by omega) i1 trivial (by omega) (by rw [i3,i4];exact hc) with ⟨g,_⟩ | ⟨_,_,g2,_,_,g5,g6,g7⟩
      · cases g
      · exact ⟨g2,g5,g6.trans i3,g7.trans i4⟩
  obtain ⟨k1',k2,k3,k4⟩:=key
  have k2':1≤B6 z1.L.bs z1.L.nb:=k2
  exact ⟨by omega,by omega,Ayc hW1.lw (by omega) k1'⟩
end
section
open Go.K
inductive Rc
  | nd (k:Int) (e:Wd) (b:List By)
  | cm (c:Cm)
  | vw (v:Vw)
def Rc.pg:Rc→Pg
  | .nd k e b=>Cp 10 (Ez k e b)
  | .cm c=>Cp 11 (Ge c)
  | .vw v=>Cp 12 (Nz v)
def Rc.body:Rc→List By
  | .nd k e b=>Ez k e b
  | .cm c=>Ge c
  | .vw v=>Nz v
def Rc.kind:Rc→By
  | .nd .. =>10
  | .cm _=>11
  | .vw _=>12
def Rc.ok:Rc→Prop
  | .nd k _ b=>Bh k b=true
  | _=>True
theorem Rc.pg_eq (r:Rc):r.pg=Cp r.kind r.body:=by cases r <;> rfl
theorem Rc.wr {r:Rc} (h:r.ok):C1 r.kind r.body=false:=by
  cases r with
  | nd k e b=>exact (Kv h).2.2.2.2
  | cm c=>show C1 11 (Ge c)=false;unfold C1;rw [Js];rfl
  | vw v=>show C1 12 (Nz v)=false;unfold C1;rw [Yr];rfl
theorem Rc.hi (r:Rc):3<r.kind.toNat:=by
  cases r with
  | nd k e b=>show 3<(10:By).toNat;decide
  | cm c=>show 3<(11:By).toNat;decide
  | vw v=>show 3<(12:By).toNat;decide
theorem Rc.get {r:Rc} (h:r.ok):Ee r.pg=(r.kind,r.body,0,0):=by rw [r.pg_eq];exact Yo r.hi (Rc.wr h)
theorem Rc.good {r:Rc} (h:r.ok):(Ee r.pg).2.2.2=0:=by rw [Rc.get h]
theorem Rc.bod {r s:Rc} (h:r.ok) (h2:s.ok) (he:r.pg=s.pg):r.kind=s.kind∧r.body=s.body:=by
  have:=A52 Ee he
  rw [Rc.get h,Rc.get h2] at this
  simp only [A48] at this
  exact ⟨this.1,this.2.1⟩
theorem Aq7 {k k':Int} {e e':Wd} {b b':List By} (h:Bh k b=true) (h':Bh k' b'=true) (he:(Rc.nd k e b).pg=(Rc.nd k' e' b').pg):k=k'∧e=e'∧b=b':=by
  obtain ⟨_,hb⟩:=Rc.bod (r:= .nd k e b) (s:= .nd k' e' b') h h' he
  have hb:Ez k e b=Ez k' e' b':=hb
  obtain ⟨_,h1,h2,h3,_⟩:=Kv (e:=e) h
  obtain ⟨_,h4,h5,h6,_⟩:=Kv (e:=e') h'
  rw [hb] at h1 h2 h3
  exact ⟨h1.symm.trans h4,h2.symm.trans h5,h3.symm.trans h6⟩
theorem Aq8 (x:BitVec 32):(Ec (B4 4 (x.setWidth 64)) 4).setWidth 32=x:=by
  apply A1s
  rw [A1t,P6 _ (by omega) 4 (by omega),A1t]
  have:=x.isLt
  omega
theorem R4 (c:Cm):Apj (Ge c)=c:=by
  unfold Apj Ge
  have e1:(B4 8 c.ep++(B4 4 (c.sum.setWidth 64)++(c.lv.toList++[]))).take 8=B4 8 c.ep:=A4k (A4 ..)
  have e2:(B4 8 c.ep++(B4 4 (c.sum.setWidth 64)++(c.lv.toList++[]))).drop 8=B4 4 (c.sum.setWidth 64)++(c.lv.toList++[]):=A39 (A4 ..)
  have e3:(B4 8 c.ep++(B4 4 (c.sum.setWidth 64)++(c.lv.toList++[]))).drop 12=c.lv.toList:=by
    rw [show 12=8+4 from rfl,← A4s,e2,A39 (A4 ..),A37]
  rw [e1,e2,e3,A4k (A4 ..),Kr,Aq8]
  have:Aal c.lv.toList=c.lv:=by
    apply A5w
    intro i hi
    unfold Aal
    rw [Vector.getElem_ofFn]
    simp only [A00]
    rw [A1d (by simpa using hi),Vector.getElem_toList]
    rfl
  rw [this]
theorem Aq9 {c c':Cm} (he:(Rc.cm c).pg=(Rc.cm c').pg):c=c':=by
  obtain ⟨_,hb⟩:=Rc.bod (r:= .cm c) (s:= .cm c') trivial trivial he
  have hb:Ge c=Ge c':=hb
  rw [← R4 c,← R4 c',hb]
def Au9 (xs:List By):Vw:=⟨Ec (xs.take 8) 8,((Ec ((xs.drop 8).take 1) 1).toNat:Int),Ec ((xs.drop 9).take 8) 8⟩
theorem Aye (x:Int):Et .and .i64 x 255=x % 256:=by
  have h:(BitVec.ofInt 64 x &&& BitVec.ofInt 64 255).toNat=(x % 256).toNat:=by
    rw [A3l,A2o,show (BitVec.ofInt 64 255).toNat=2 ^ 8 - 1 from rfl,A0q]
    omega
  show IntKind.i64.wrap (((BitVec.ofInt 64 x &&& BitVec.ofInt 64 255).toNat:Nat):Int)=_
  rw [h,Cz (by omega)]
  omega
theorem Ara (x:Int):((Ec (B4 1 (BitVec.ofInt 64 x)) 1).toNat:Int)=x % 256:=by
  rw [P6 _ (by omega) 1 (by omega),A2o]
  omega
theorem Aa4 (v:Vw):Au9 (Nz v)=vwM v:=by
  unfold Au9 Nz vwM
  have e1:(B4 8 v.num++(B4 1 (BitVec.ofInt 64 v.mem)++(B4 8 v.base++[]))).take 8=B4 8 v.num:=A4k (A4 ..)
  have e2:(B4 8 v.num++(B4 1 (BitVec.ofInt 64 v.mem)++(B4 8 v.base++[]))).drop 8=B4 1 (BitVec.ofInt 64 v.mem)++(B4 8 v.base++[]):=A39 (A4 ..)
  have e3:(B4 8 v.num++(B4 1 (BitVec.ofInt 64 v.mem)++(B4 8 v.base++[]))).drop 9=B4 8 v.base++[]:=by
    rw [show 9=8+1 from rfl,← A4s,e2,A39 (A4 ..)]
  rw [e1,e2,e3,A4k (A4 ..),A4k (A4 ..),Kr,Kr,Ara,Aye]
theorem Arb {v v':Vw} (he:(Rc.vw v).pg=(Rc.vw v').pg):vwM v=vwM v':=by
  obtain ⟨_,hb⟩:=Rc.bod (r:= .vw v) (s:= .vw v') trivial trivial he
  have hb:Nz v=Nz v':=hb
  rw [← Aa4 v,← Aa4 v',hb]
theorem Gf {r s:Rc} (h:r.ok) (h2:s.ok) (hk:r.kind≠s.kind):r.pg≠s.pg:=fun he=>hk (Rc.bod h h2 he).1
abbrev NdM:=Int→Option (Wd×List By)
structure Ab where
  last:Cm
  vw:Vw
  viewed:Bool
  seen:Wd
  stray:Int→Bool
  ix:NdM
def Stands (z:Sg) (m:Mp En) (f:NdM):Prop:=∀ k,match f k with
  | none=>m.get k=none
  | some (e,b)=>∃ en,m.get k=some en∧en.ep=e∧Bh k b=true∧RecAt z en.at' (Rc.nd k e b).pg
theorem Stands.yes {z:Sg} {m:Mp En} {f:NdM} (h:Stands z m f) {k:Int} {e:Wd} {b:List By} (hf:f k=some (e,b)):∃ en,m.get k=some en∧en.ep=e∧Bh k b=true∧RecAt z en.at' (Rc.nd k e b).pg:=by
  have:=h k
  rw [hf] at this
  exact this
theorem Stands.no {z:Sg} {m:Mp En} {f:NdM} (h:Stands z m f) {k:Int} (hf:f k=none):m.get k=none:=by
  have:=h k
  rw [hf] at this
  exact this
theorem Stands.of {z:Sg} {m:Mp En} {f:NdM} (h:Stands z m f) {k:Int} {en:En} (hg:m.get k=some en):∃ b,f k=some (en.ep,b)∧Bh k b=true∧RecAt z en.at' (Rc.nd k en.ep b).pg:=by
  cases hf:f k with
  | none=>rw [h.no hf] at hg;cases hg
  | some r =>
    obtain ⟨e,b⟩:=r
    obtain ⟨en',h1,h2,h3,h4⟩:=h.yes hf
    rw [hg] at h1
    have:=A4o h1
    subst this
    subst h2
    exact ⟨b,rfl,h3,h4⟩
theorem Stands.mono {z z':Sg} {m:Mp En} {f:NdM} (h:Stands z m f) (hr:∀ k en,m.get k=some en→∀ p,RecAt z en.at' p→RecAt z' en.at' p):Stands z' m f:=fun k=>by
  have:=h k
  cases hf:f k with
  | none=>rw [hf] at this;exact this
  | some r =>
    obtain ⟨e,b⟩:=r
    rw [hf] at this
    obtain ⟨en,h1,h2,h3,h4⟩:=this
    exact ⟨en,h1,h2,h3,hr k en h1 _ h4⟩
theorem Stands.refs {z:Sg} {m:Mp En} {f:NdM} (h:Stands z m f) {x:Pl2} (hx:x∈m.es.map fun e=>e.v.at'):∃ k e b,Bh k b=true∧RecAt z x (Rc.nd k e b).pg:=by
  obtain ⟨e,he,rfl⟩:=A5b.1 hx
  obtain ⟨b,_,h1,h2⟩:=h.of (Mp.get_mem he)
  exact ⟨_,_,b,h1,h2⟩
def A0l (A:Ab) (k:Int) (e:Wd) (b:List By):Prop:=e.toNat≤A.seen.toNat∧(A.stray k=false→e.toNat≤A.last.ep.toNat) ∧
  (Bj A.last.lv k=true→e.toNat≤A.last.ep.toNat→∃ e' b',A.ix k=some (e',b')∧e.toNat≤e'.toNat∧(e=e'→b=b'))
structure Rz (A:Ab) (P:NdM) (Q:Int→Wd→List By→Prop) (z:Sg):Prop where
  last:z.S.last=A.last
  vw:z.S.vw=A.vw
  viewed:z.S.viewed=A.viewed
  ix:Stands z z.S.idx A.ix
  pd:Stands z z.S.pend P
  la:0<A.last.ep.toNat→RecAt z z.S.la (Rc.cm A.last).pg
  va:A.viewed=true→∃ v,vwM v=A.vw∧RecAt z z.S.va (Rc.vw v).pg
  kd:∀ x p,RecAt z x p→(Ee p).2.2.2=0→∃ r:Rc,r.ok∧p=r.pg
  nd:∀ x k e b,Bh k b=true→RecAt z x (Rc.nd k e b).pg→A0l A k e b∨Q k e b
  cm:∀ x c,RecAt z x (Rc.cm c).pg→0<c.ep.toNat∧c.ep.toNat≤A.last.ep.toNat∧(c.ep=A.last.ep→c=A.last)
  vs:∀ x v,RecAt z x (Rc.vw v).pg→A.viewed=true∧v.num.toNat≤A.vw.num.toNat∧(v.num=A.vw.num→vwM v=A.vw∨bef z x z.S.va)
section
variable {A:Ab} {P:NdM} {Q:Int→Wd→List By→Prop} {z z' z1:Sg}
theorem Rz.p0 (h:Rz A P Q z):P0 z:=fun r hr=>by
  unfold refs at hr
  rcases A4f.1 hr with h1 | h1
  · split at h1
    · rename_i hc
      rw [A2z.1 h1]
      exact ⟨_,h.la (by rw [← h.last];exact hc),Rc.good (r:= .cm _) trivial⟩
    · cases h1
  rcases A4f.1 h1 with h1 | h1
  · split at h1
    · rename_i hc
      rw [A2z.1 h1]
      obtain ⟨v,_,hv⟩:=h.va (by rw [← h.viewed];exact hc)
      exact ⟨_,hv,Rc.good (r:= .vw _) trivial⟩
    · cases h1
  rcases A4f.1 h1 with h1 | h1
  · obtain ⟨k,e,b,h2,h3⟩:=h.ix.refs h1
    exact ⟨_,h3,Rc.good (r:= .nd k e b) h2⟩
  · obtain ⟨k,e,b,h2,h3⟩:=h.pd.refs h1
    exact ⟨_,h3,Rc.good (r:= .nd k e b) h2⟩
theorem Rz.ref_vw (h:Rz A P Q z) {x:Pl2} {v:Vw} (hx:x∈refs z.S) (hr:RecAt z x (Rc.vw v).pg):vwM v=A.vw:=by
  unfold refs at hx
  rcases A4f.1 hx with h1 | h1
  · split at h1
    · rename_i hc
      rw [A2z.1 h1] at hr
      exact absurd (hr.fn (h.la (by rw [← h.last];exact hc))) (Gf (r:= .vw v) (s:= .cm _) trivial trivial (by show (12:By)≠11;decide))
    · cases h1
  rcases A4f.1 h1 with h1 | h1
  · split at h1
    · rename_i hc
      rw [A2z.1 h1] at hr
      obtain ⟨v',e,hv⟩:=h.va (by rw [← h.viewed];exact hc)
      rw [← e]
      exact Arb (hr.fn hv)
    · cases h1
  rcases A4f.1 h1 with h1 | h1
  · obtain ⟨k,e,b,h2,h3⟩:=h.ix.refs h1
    exact absurd (hr.fn h3) (Gf (r:= .vw v) (s:= .nd k e b) trivial h2 (by show (12:By)≠10;decide))
  · obtain ⟨k,e,b,h2,h3⟩:=h.pd.refs h1
    exact absurd (hr.fn h3) (Gf (r:= .vw v) (s:= .nd k e b) trivial h2 (by show (12:By)≠10;decide))
theorem Sy (h:z.S.viewed=true):z.S.va∈refs z.S:=by
  unfold refs
  exact A10 _ (A18 _ (by rw [if_pos h];exact A2z.2 rfl))
theorem Stands.moved {m:Mp En} {f:NdM} {x y:Pl2} {p:Pg} (h:Stands z m f) (hx:RecAt z x p) (hy:RecAt z' y p) (ho:∀ x r,RecAt z x r→RecAt z' x r):Stands z' (m.mapV (mvE x y)) f:=fun k=>by
  have:=h k
  cases hf:f k with
  | none=>rw [hf] at this;show (m.mapV (mvE x y)).get k=none;rw [Mp.get_mapV,show m.get k=none from this];rfl
  | some r =>
    obtain ⟨e,b⟩:=r
    rw [hf] at this
    obtain ⟨en,h1,h2,h3,h4⟩:=this
    refine ⟨mvE x y en,by rw [Mp.get_mapV,h1];rfl,by rw [Ayb];exact h2,h3,?_⟩
    rw [Ag0]
    unfold mvP
    by_cases e0:en.at'=x
    · rw [if_pos e0,h4.fn (by rw [e0];exact hx)];exact hy
    · rw [if_neg e0];exact ho _ _ h4
theorem Rz.sh {k:Nat} (hw:LW k z) (h:Rz A P Q z) {x y:Pl2} {p:Pg} (hx:x∈refs z.S) (hr:RecAt z x p) (hg:(Ee p).2.2.2=0) (hn:NewAt z p y z1):Rz A P Q { z1 with S:=C9 z1.S x y }:=by
  have hS:=hn.S
  have hold:∀ x r,RecAt z x r→RecAt z1 x r:=fun x r hx=>(hn.old x r hx).1
  have hinv:∀ x' r,RecAt z1 x' r→∃ x0,RecAt z x0 r:=fun x' r h1=>by
    rcases hn.inv x' r h1 with h2 | ⟨_,rfl⟩
    · exact ⟨x',h2⟩
    · exact ⟨x,hr⟩
  refine ⟨?_,?_,?_,?_,?_,fun h0=> ?_,fun h0=> ?_,fun x' p' h1 h2=> ?_,fun x' k e b h1 h2=> ?_,fun x' c h1=> ?_,fun x' v h1=> ?_⟩
  · show z1.S.last=_;rw [hS];exact h.last
  · show z1.S.vw=_;rw [hS];exact h.vw
  · show z1.S.viewed=_;rw [hS];exact h.viewed
  · show Stands _ (z1.S.idx.mapV (mvE x y)) _
    rw [hS]
    exact (h.ix.moved hr hn.new hold).mono fun _ _ _ _ h9=>h9
  · show Stands _ (z1.S.pend.mapV (mvE x y)) _
    rw [hS]
    exact (h.pd.moved hr hn.new hold).mono fun _ _ _ _ h9=>h9
  · show RecAt z1 (C9 z1.S x y).la _
    rw [Aeh (by rw [hS,h.last];exact h0),hS]
    have h4:=h.la h0
    unfold mvP
    by_cases e0:z.S.la=x
    · rw [if_pos e0,h4.fn (by rw [e0];exact hr)];exact hn.new
    · rw [if_neg e0];exact hold _ _ h4
  · obtain ⟨v,h3,h4⟩:=h.va h0
    refine ⟨v,h3,?_⟩
    show RecAt z1 (C9 z1.S x y).va _
    rw [V8 (by rw [hS,h.viewed];exact h0),hS]
    unfold mvP
    by_cases e0:z.S.va=x
    · rw [if_pos e0,h4.fn (by rw [e0];exact hr)];exact hn.new
    · rw [if_neg e0];exact hold _ _ h4
  · obtain ⟨x0,h3⟩:=hinv x' p' h1
    exact h.kd x0 p' h3 h2
  · obtain ⟨x0,h3⟩:=hinv x' _ h2
    exact h.nd x0 k e b h1 h3
  · obtain ⟨x0,h3⟩:=hinv x' _ h1
    exact h.cm x0 c h3
  · have h1:RecAt z1 x' (Rc.vw v).pg:=h1
    show A.viewed=true∧v.num.toNat≤A.vw.num.toNat∧(v.num=A.vw.num→vwM v=A.vw∨bef z1 x' (C9 z1.S x y).va)
    rcases hn.inv x' _ h1 with h2 | ⟨rfl,h2⟩
    · obtain ⟨g1,g2,g3⟩:=h.vs x' v h2
      refine ⟨g1,g2,fun g4=>(g3 g4).imp id fun g5=> ?_⟩
      obtain ⟨v',_,h5⟩:=h.va g1
      rw [V8 (by rw [hS,h.viewed];exact g1),hS]
      unfold mvP
      by_cases e0:z.S.va=x
      · rw [if_pos e0];exact hn.bef _ _ h2
      · rw [if_neg e0];exact (hn.ord hw h2 h5).2 g5
    · have h3:RecAt z x (Rc.vw v).pg:=by rw [h2];exact hr
      obtain ⟨g1,g2,g3⟩:=h.vs x v h3
      exact ⟨g1,g2,fun _=> .inl (h.ref_vw hx h3)⟩
theorem Rz.dr (h:Rz A P Q z) {b:Nat} (hno:∀ r∈refs z.S,r.1≠b) (hg:GoneB z b z'):Rz A P Q z':=by
  have hS:=hg.S
  have hm:∀ {m:Mp En} {f:NdM},(∀ e∈m.es,e.v.at'.1≠b)→Stands z m f→Stands z' m f:=fun hm h=>h.mono fun k en hk p hp=>by
    obtain ⟨e,he,_,rfl⟩:=Mp.mem_get hk
    exact hg.old _ _ hp (hm e he)
  refine ⟨by rw [hS];exact h.last,by rw [hS];exact h.vw,by rw [hS];exact h.viewed,?_,?_,fun h0=> ?_,fun h0=> ?_,fun x p h1 h2=>h.kd x p (hg.inv _ _ h1).1 h2,fun x k e b h1 h2=>h.nd x k e b h1 (hg.inv _ _ h2).1,fun x c h1=>h.cm x c (hg.inv _ _ h1).1,fun x v h1=> ?_⟩
  · rw [hS]
    exact hm (fun e he=>hno _ (by unfold refs;exact A10 _ (A10 _ (A18 _ (A5b.2 ⟨e,he,rfl⟩))))) h.ix
  · rw [hS]
    exact hm (fun e he=>hno _ (by unfold refs;exact A10 _ (A10 _ (A10 _ (A5b.2 ⟨e,he,rfl⟩))))) h.pd
  · rw [hS]
    refine hg.old _ _ (h.la h0) (hno _ ?_)
    unfold refs
    exact A18 _ (by rw [if_pos (by rw [h.last];exact h0)];exact A2z.2 rfl)
  · obtain ⟨v,h3,h4⟩:=h.va h0
    rw [hS]
    exact ⟨v,h3,hg.old _ _ h4 (hno _ (Sy (by rw [h.viewed];exact h0)))⟩
  · obtain ⟨g1,g2,g3⟩:=h.vs x v (hg.inv _ _ h1).1
    refine ⟨g1,g2,fun g4=>(g3 g4).imp id fun g5=> ?_⟩
    obtain ⟨v',_,h5⟩:=h.va g1
    rw [hS]
    exact (hg.ord h1 (hg.old _ _ h5 (hno _ (Sy (by rw [h.viewed];exact g1))))).2 g5
def IRz (A:Ab) (P:NdM) (Q:Int→Wd→List By→Prop) (S0:Sto) (c0:Chip) (z:Sg):Prop:=Rz A P Q z∧SameS S0 z.S∧FrA c0 z.L.d.c
theorem Arc (A:Ab) (P:NdM) (Q:Int→Wd→List By→Prop) (S0:Sto) (c0:Chip):Kp (IRz A P Q S0 c0) :=
  ⟨fun hw _ hI hx hr hg hn hf=>⟨hI.1.sh hw hx hr hg hn,(hI.2.1.trans (.of hn.S)).trans (Vv _ _ _),hI.2.2.trans hf⟩,
   fun hw _ hI hno hg hf=>⟨hI.1.dr hno hg,hI.2.1.trans (.of hg.S),hI.2.2.trans hf⟩⟩
end
end
section
open Go.K
variable {T:TypeId}
instance byt40:Byt Tryz.prog 40 40:=⟨by kernel_rfl⟩
instance ent55:Ent Tryz.prog 55:=⟨fun _ _=>by kernel_rfl⟩
theorem Auu {s:Sl Int} {x:Int} {T:TypeId}:Does Tryz.prog 127 [s.val,.int .i64 x] (s.hp T++[]) (fun v H=>∃ r:Int,v= .int .i64 r∧H=s.hp T++[]∧(decide (r≥0)=decide (x∈s.list))):=by
 have hsm:=s.small
 refine zF 19 Tryz.func127 ?_
 refine zC ?_
 refine At [0,1,6,7] kQ (fun (i:Nat)=>[(8,.int .i64 i)]) (fun i=>(s.hp T++[])) (fun i=>i≤s.list.length∧x∉s.list.take i) (fun i=>s.list.length - i) (0) ⟨A5s _,by simp⟩ kP sP ?_
 rintro i ⟨g0,g1⟩
 refine zC ?_
 refine Ae rfl (fun c9=> ?_) (fun c9=> ?_)
 ·simp only [A3j,A1k] at c9
  obtain ⟨y,hg⟩:∃ y,s.list[i]? =some y:=⟨_,A1d (by omega)⟩
  refine zA ?_
  refine Ah (A7 rfl rfl (by omega)) rfl ?_
  refine Ah (Co (o:=0) rfl pL hg rfl rfl) rfl ?_
  refine zC ?_
  refine Ae rfl (fun c16=> ?_) (fun c16=> ?_)
  ·simp only [A3j,A1k] at c16
   refine zC ?_
   exact zL (hR:=by exact ⟨(i:Int),rfl,rfl,A34.2 ⟨fun _=>by rw [c16];exact A2a hg,fun _=>by omega⟩⟩)
  ·simp only [A3j,A1k] at c16
   refine zC ?_
   exact ⟨i+1,⟨by omega,by rw [A3g,hg];simp;exact ⟨g1,c16⟩⟩,(by omega),lZ⟩
 ·simp only [A3j,A1k] at c9
  have hi:i=s.list.length:=(by omega)
  subst hi
  rw [A30] at g1
  refine zC ?_
  exact zL (hR:=by exact ⟨-1,rfl,rfl,A34.2 ⟨fun h=>absurd h (by decide),fun h=>absurd h g1⟩⟩)
theorem Auv {s:Sl Int} {x:Int} {T:TypeId}:Does Tryz.prog 81 [s.val,.int .i64 x] (s.hp T++[]) (Is (.bool (decide (x∈s.list))) (s.hp T++[])):=by
 refine zF 9 Tryz.func81 ?_
 refine zC ?_
 refine zE rfl (Auu) ?_
 rintro _ _ ⟨r7,rfl,rfl,hr7⟩
 refine zW ?_
 refine Ak (Aw Tryz.results81 (Af rfl)) ?_ sP
 rw [← hr7]
theorem Nj (l:List Nd) (x:Nd) (D:Hp):I9 (l++[x])++D=I9 l++(x.body.hp tU8++D):=by
 unfold I9
 simp
theorem Aqf:I9 []=[]:=by unfold I9;rfl
def Es (l:Lv) (but:List Int) (k:Int):Bool:=Bj l k && !decide (k∈but)
def Fw (S:Sto) (l:Lv) (ep:Wd) (but:List Int) (bi:Int→List By):List N3:=((D0 S.stray.keys).filter (Es l but)).map fun k=>(k,ep,bi k)
section
variable {n k:Nat} {q:Qt} {z:Sg}
theorem Aqg (h:WI n k q z) {l:Lv} {ep:Wd} {but:Sl Int} {bi:Int→List By} (hm:z.S.stray.es.length≤1000)
  (hA:∀ k∈z.S.stray.keys,Es l but.list k=true→∃ e,z.S.idx.get k=some e∧Bh k (bi k)=true∧RecAt z e.at' (Cp 10 (Ez k e.ep (bi k)))) :
  Does Tryz.prog 55 [ptr z.S.st,.agg (vbc l).toArray,wv ep,but.val] (Cn T::(z.S.st,true,C (stC z.S) tSt)::(z.S.ib,true,z.S.idx.obj .i64)::(z.S.pb,true,z.S.pend.obj .i64)::(z.S.sb,true,z.S.stray.obj .i64)::(lgH z.L++(but.hp tI++[])))
  (fun v H=>∃ nds:Sl Nd,v= .tuple #[nds.val,.int .i64 0]∧H=nds.hp tNd++(I9 nds.list++(Cn T::(z.S.st,true,C (stC z.S) tSt)::(z.S.ib,true,z.S.idx.obj .i64)::(z.S.pb,true,z.S.pend.obj .i64)::(z.S.sb,true,z.S.stray.obj .i64)::(lgH z.L++(but.hp tI++[]))))∧nds.isOwn=true∧nds.list.map nd3=Fw z.S l ep but.list bi):=by
 refine zF 53 Tryz.func55 ?_
 refine zC ?_
 refine Do rfl rfl (fun b5=> ?_)
 refine zC ?_
 refine zE rfl (Ax4 (bm:=z.S.sb)) ?_
 rintro _ _ ⟨bp,rfl,rfl⟩
 refine A5 aQ ?_
 refine zE rfl (Aun hm) ?_
 rintro _ _ ⟨s20,rfl,rfl,ho20,hl20⟩
 refine zW ?_
 have hsm:s20.list.length≤1000:=(by rw [hl20,(Bt _).length_eq,Mp.keys_len];exact hm)
 refine I1 (G6 (α:=Nd) (T:=tNd)) ?_
 refine At [0,2,3,5,20,21] kQ (fun (st:Nat×Sl Nd)=>[(22,.int .i64 st.1),(8,st.2.val)]) (fun st=>(st.2.hp tNd++(I9 st.2.list++((b5,true,C (vbc l) tLv)::Cn T::(z.S.st,true,C (stC z.S) tSt)::(z.S.ib,true,z.S.idx.obj .i64)::(z.S.pb,true,z.S.pend.obj .i64)::(z.S.sb,true,z.S.stray.obj .i64)::(lgH z.L++(but.hp tI++(s20.hp tI++[]))))))) (fun st=>st.1≤s20.list.length∧st.2.list.map nd3=((s20.list.take st.1).filter (Es l but.list)).map (fun k=>(k,ep,bi k))∧st.2.isOwn=true) (fun st=>s20.list.length - st.1) ((0,Sl.nil)) ⟨A5s _,rfl,rfl⟩ kP (by show Split _ (Sl.hp tNd Sl.nil++(I9 []++_)) _;rw [Aqf];exact sP) ?_
 rintro ⟨i,nds⟩ ⟨g0,g1,g2⟩
 simp only at g0 g1 g2
 have hnl:nds.list.length≤1000:=(by have h1:=A52 List.length g1;rw [A4b,A4b] at h1;have h2:=A1x (Es l but.list) (s20.list.take i);rw [A3x] at h2;omega)
 refine zC ?_
 refine Ae rfl (fun c23=> ?_) (fun c23=> ?_)
 ·simp only [A3j,A1k] at c23
  obtain ⟨x,hg⟩:∃ x,s20.list[i]? =some x:=⟨_,A1d (by omega)⟩
  have htk:s20.list.take (i+1)=s20.list.take i++[x]:=(by rw [A3g,hg];rfl)
  refine zA ?_
  refine Ah (A7 (s:=s20) rfl rfl (by omega)) rfl ?_
  refine Ah (Co (s:=s20) (o:=0) rfl pL hg rfl rfl) rfl ?_
  refine zA ?_
  refine Ah (Am rfl mM (by first | exact Ax | rfl)) rfl ?_
  refine zC ?_
  refine zI rfl (Vo) ?_
  iterate 2 refine sb ?_
  refine' Lw rfl rfl inferInstance rfl rfl rfl rfl rfl (fun hg30=> ?_) ?_
  rotate_left
  ·try (simp at hg30;show _)
   refine zC ?_
   refine zI rfl (Auv) ?_
   exact Ad ⟨rfl,rfl,⟨_,sP⟩⟩
  refine zC ?_
  refine Ae rfl (fun c34=> ?_) (fun c34=> ?_)
  ·skip
   have hk:Es l but.list x=false:=(by unfold Es;revert c34;cases Bj l x <;> simp)
   have hI:nds.list.map nd3=((s20.list.take (i+1)).filter (Es l but.list)).map (fun k=>(k,ep,bi k)):=(by rw [htk,A2u,g1];simp [hk])
   refine zC ?_
   first | exact ⟨(i+1,nds),⟨by simp only;omega,hI,g2⟩,by simp only;omega,lZ⟩ | exact ⟨(i+1,s'),⟨by simp only;omega,by simp only;rw [htk,A2u,hs1,A4e,g1];simp [hk,nd3,hs38],hs2⟩,by simp only;omega,kP,kP,_,(by simp only;rw [hs1,Nj];exact sP)⟩
  ·skip
   have hk:Es l but.list x=true:=(by unfold Es;revert c34;cases Bj l x <;> simp)
   obtain ⟨e,he1,he2,he3⟩:=hA x (by have:=A2a hg;rw [hl20] at this;exact (Bt _).mem_iff.1 this) hk
   refine zC ?_
   refine zE rfl (Yq (z:=z) h he1 he3 he2) ?_
   rintro _ _ ⟨s38,rfl,rfl,hs38,ho38⟩
   refine zW ?_
   refine Aj rfl (fun b12=> ?_)
   refine zC ?_
   refine Ay rfl ?_
   refine zC ?_
   refine Ao rfl rfl rfl rfl (fun b49=> ?_)
   refine Az (s:=nds) (new:=[(⟨x,ep,s38⟩:Nd)]) (m:=1) rfl rfl pL g2 (Ch (r:=true) mM rfl) rfl rfl rfl rfl (by omega) rfl (fun s' hs1 hs2=> ?_)
   refine zC ?_
   first | exact ⟨(i+1,nds),⟨by simp only;omega,hI,g2⟩,by simp only;omega,lZ⟩ | exact ⟨(i+1,s'),⟨by simp only;omega,by simp only;rw [htk,A2u,hs1,A4e,g1];simp [hk,nd3,hs38],hs2⟩,by simp only;omega,kP,kP,_,(by simp only;rw [hs1,Nj];exact sP)⟩
 ·simp only [A3j,A1k] at c23
  have hi:i=s20.list.length:=(by omega)
  subst hi
  rw [A30] at g1
  refine zC ?_
  exact zL (hR:=by exact ⟨nds,rfl,rfl,g2,by rw [g1,hl20];rfl⟩)
end
end
section
open Go.K
variable {T:TypeId}
instance und28:Und Tryz.prog 28 (.slice 45):=⟨Tryz.underlying28⟩
instance agg28:Agg Tryz.prog 28 false:=⟨⟨_,Tryz.underlying28,rfl⟩⟩
instance agg45:Agg Tryz.prog 45 true:=⟨⟨_,Tryz.underlying45,rfl⟩⟩
instance siz45:Siz Tryz.prog 45 3:=⟨by kernel_rfl⟩
instance zer45:Zer Tryz.prog 45 ([.int .i64 0,.bool false,.slice none 0 0]):=⟨by kernel_rfl⟩
instance fld45_1:Fld Tryz.prog 45 1 1:=⟨⟨_,_,0,Tryz.underlying45,rfl,by kernel_rfl,rfl⟩⟩
instance plc57:Plc Tryz.prog 57 [(0,1),(1,32),(33,1)]:=⟨⟨_,Tryz.underlying57,fun _=>by kernel_rfl⟩⟩
instance ent16:Ent Tryz.prog 16:=⟨fun _ _=>by kernel_rfl⟩
abbrev tCg:TypeId:=45
@[irreducible] def cbH (l:List Chg):Hp:=l.flatMap fun x=>x.body.hp tU8
theorem Agt {l:List Chg} {i:Nat} {x:Chg} (h:l[i]? =some x) (D:Hp):cbH l++D=cbH (l.take i)++(x.body.hp tU8++(cbH (l.drop (i+1))++D)):=by
 obtain ⟨h1,h2⟩:=A08.1 h
 have e:l=l.take i++x::l.drop (i+1):=by
  conv=>lhs;rw [← A11 i l,A05 h1,h2]
 unfold cbH
 conv=>lhs;rw [e]
 simp
def E3 (l:Lv) (c:Chg):Lv:=if c.gone=true then G7 l c.key else Dz l c.key
def Qf (c:Chg):Bool:=Bh c.key c.body.list
def B7 (z:Sg) (cs:List Chg):Lv:=cs.foldl E3 z.S.last.lv
def M2 (z:Sg) (ep:Wd) (cs:List Chg):Bool:=decide ((ep.toNat:Int)>(z.S.seen.toNat:Int)) && cs.all Qf
def Bn (z:Sg) (ep:Wd) (cs:List Chg):Bool:= !M2 z ep cs || !N1 (cs.map (·.key))
def Bv (z:Sg) (cs:List Chg):Bool:=decide (((Db (B7 z cs) 256).length:Int)>Jr z.L.nb)
def Eq (ep:Wd) (cs:List Chg):List N3:=(cs.filter fun c=> !c.gone).map fun c=>(c.key,ep,c.body.list)
def B0 (z:Sg) (ep:Wd) (cs:List Chg) (bi:Int→List By):List N3:=Fw z.S (B7 z cs) ep (cs.map (·.key)) bi++Eq ep cs
def Hc (z:Sg):Sg:={ z with S:={ z.S with pend:=z.S.pend.clr } }
def Tt (n:Nat) (q:Qt) (z:Sg) (ep:Wd) (cs:List Chg) (bi:Int→List By) (e:Int) (z':Sg):Prop :=
 (Bn z ep cs=true∧e=1∧z'=z)∨(Bn z ep cs=false∧Bv z cs=true∧e=40∧z'=z) ∨
 (Bn z ep cs=false∧Bv z cs=false∧∃ e1 z1,WrR n q (B0 z ep cs bi) (Hc z) e1 z1 ∧
  ((e1≠0∧e=e1∧z'=Hc z1)∨(e1=0∧∃ m z2,N0 z1.S (B7 z cs) m∧EndR n q z1 ⟨ep,B7 z cs,L6 m⟩ e z2∧z'=Hc z2)))
theorem Aqh {S:Sto} {l:Lv} {m:Mp En} (h:N0 S l m):m.es.length≤1000:=by
 rw [← Mp.keys_len]
 have:m.keys.length≤(Db l 256).length:=by
  refine Hx ?_ ?_
  ·exact m.keys_nodup
  ·intro k hk
   have h1:=Mp.get_some.2 hk
   rw [h k] at h1
   refine keysL_mem.2 ?_
   by_cases h2:Bj l k=true
   ·exact h2
   ·rw [if_neg h2] at h1;cases h1
 have:=Hm l 256
 omega
theorem Alk {l:Lv} {b:Nat} {x:Int}:Does Tryz.prog 52 [.agg (vbc l).toArray,.slice (some ⟨b,0,none⟩) 1 1] [(b,true,C [.int .i64 x] tI)] (Is (.agg (vbc (Dz l x)).toArray) [(b,true,C [.int .i64 x] tI)]):=by
 have h:=At7 (l:=l) (s:= .own b [x] 1 [] ⟨by simp,A5q _,by simp⟩) (T:=tI)
 rw [Sl.hp_own] at h
 exact h
theorem All {l:Lv} {b:Nat} {x:Int}:Does Tryz.prog 51 [.agg (vbc l).toArray,.slice (some ⟨b,0,none⟩) 1 1] [(b,true,C [.int .i64 x] tI)] (Is (.agg (vbc (G7 l x)).toArray) [(b,true,C [.int .i64 x] tI)]):=by
 have h:=At8 (l:=l) (s:= .own b [x] 1 [] ⟨by simp,A5q _,by simp⟩) (T:=tI)
 rw [Sl.hp_own] at h
 exact h
theorem Aqi {z:Sg} {ep:Wd} {cs:List Chg} {bi:Int→List By} (hA:∀ k∈z.S.stray.keys,Es (B7 z cs) (cs.map (·.key)) k=true→∃ e,z.S.idx.get k=some e∧Bh k (bi k)=true∧RecAt z e.at' (Cp 10 (Ez k e.ep (bi k)))) (hb:Bn z ep cs=false) :
  ∀ x∈B0 z ep cs bi,Bh x.1 x.2.2=true:=fun x hx=>by
 unfold B0 at hx
 rcases A4f.1 hx with h | h
 ·unfold Fw at h
  obtain ⟨k,hk,rfl⟩:=A5b.1 h
  obtain ⟨h1,h2⟩:=A4g.1 hk
  obtain ⟨e,_,h3,_⟩:=hA k ((Bt _).mem_iff.1 h1) h2
  exact h3
 ·unfold Eq at h
  obtain ⟨c,hc,rfl⟩:=A5b.1 h
  have h1:=(A4g.1 hc).1
  unfold Bn M2 at hb
  simp only [A15,A2s,A3n,A3o] at hb
  exact hb.1.2 c h1
theorem On {pl:List (Nat×Nat)} {cs cs' vs:List Value} {i o s:Nat} {v:Value} {r:List (Nat×Value)} {res:Option (List Value)} (hp:Akf pl i=some (o,s)) (hv:Jw v=some vs) (hl:vs.length=s) (hs:Ba cs o vs=some cs') (hr:K.fillC pl cs' r=res):K.fillC pl cs ((i,v)::r)=res:=by
 unfold K.fillC
 rw [hp]
 simp only
 rw [(Xj hv).1,hs]
 simp only [hl,hr]
 rw [show Nat.beq s s=true from Nat.beq_refl s]
 rfl
theorem Agu (c:Cm) (s:BitVec 32):Ba (cmC c) 33 [uv s]=some (cmC { c with sum:=s }):=by
 refine Ew ?_ (by rw [Bu];show 33+1≤34;omega)
 unfold cmC
 have h1:(wv c.ep::(vbc c.lv++[uv c.sum])).take 33=wv c.ep::vbc c.lv:=by
  rw [show 33=32+1 from rfl,A2m,A4k Ai]
 have h2:(wv c.ep::(vbc c.lv++[uv c.sum])).drop (33+[uv s].length)=[]:=by
  rw [show 33+[uv s].length=33+1 from rfl,A2i,A1o (by rw [A2x,Ai];show 32+1≤33;omega)]
 rw [h1,h2]
 simp
theorem Auw {e:Wd} {l:Lv} {s:BitVec 32}:K.fillC [(0,1),(1,32),(33,1)] ([Value.int .u64 0]++List.replicate 32 (Value.int .u8 0)++[Value.int .u32 0]) [(0,wv e),(1,.agg (vbc l).toArray),(2,uv s)]=some (cmC ⟨e,l,s⟩):=by
 rw [show ([Value.int .u64 0]++List.replicate 32 (Value.int .u8 0)++[Value.int .u32 0])=cmC cm0 from Aak]
 refine On (cs':=cmC ⟨e,lv0,0⟩) rfl (vs:=[wv e]) rfl rfl rfl ?_
 refine On rfl Cg Ai (Rr ⟨e,lv0,0⟩ l) ?_
 exact On rfl (vs:=[uv s]) rfl rfl (Agu ⟨e,l,0⟩ s) rfl
theorem Alm {z:Sg} {ep:Wd} {cs:List Chg} (hb:Bn z ep cs=false) {c:Chg} (hc:c∈cs):c.body.list.length≤70000000000000:=by
 unfold Bn M2 at hb
 simp only [A15,A2s,A3n,A3o] at hb
 have:=hb.1.2 c hc
 unfold Qf Bh at this
 simp at this
 omega
theorem WrR.pb {n:Nat} {q:Qt} {xs:List N3} {z z':Sg} {e:Int} (h:WrR n q xs z e z'):z'.S.pb=z.S.pb:=by
 induction h with
 | nil=>rfl
 | stop _ h _=>exact h.same.pb
 | go _ h _ ih=>exact ih.trans h.same.pb
theorem EndR.pb {n:Nat} {q:Qt} {z z':Sg} {c:Cm} {e:Int} (h:EndR n q z c e z'):z'.S.pb=z.S.pb:=by
 obtain ⟨y,z1,h1,h2⟩:=h
 rcases h2 with ⟨_,rfl⟩ | ⟨_,m,_,rfl⟩
 ·exact h1.same.pb
 ·exact h1.same.pb
section
variable {n k:Nat} {q:Qt} {z:Sg}
theorem Yv (h:WI n k q z) (hk:k≤200000000000) (hq:q.n≤3) {ep:Wd} {cs:Sl Chg} {bi:Int→List By} (hcn:cs.list.length≤300) (hm:z.S.stray.es.length≤1000)
  (hA:∀ k∈z.S.stray.keys,Es (B7 z cs.list) (cs.list.map (·.key)) k=true→∃ e,z.S.idx.get k=some e∧Bh k (bi k)=true∧RecAt z e.at' (Cp 10 (Ez k e.ep (bi k))))
  (hN:Bn z ep cs.list=false→(B0 z ep cs.list bi).length≤300)
  (hS:Bn z ep cs.list=false→Bv z cs.list=false→∀ i z1 k e b,WrR n q ((B0 z ep cs.list bi).take i) (Hc z) 0 z1→(B0 z ep cs.list bi)[i]? =some (k,e,b)→Bh k b=true→Aar n q (wr1 z1 k e))
  (hE:Bn z ep cs.list=false→Bv z cs.list=false→∀ z1,WrR n q (B0 z ep cs.list bi) (Hc z) 0 z1→Aar n q z1) :
  Does Tryz.prog 16 [ptr z.S.st,wv ep,cs.val] (Cn T::(z.S.st,true,C (stC z.S) tSt)::(z.S.ib,true,z.S.idx.obj .i64)::(z.S.pb,true,z.S.pend.obj .i64)::(z.S.sb,true,z.S.stray.obj .i64)::(lgH z.L++(cs.hp tCg++(cbH cs.list++[]))))
  (fun v H=>∃ (e:Int) (z':Sg),v= .int .i64 e∧H=Cn T::(z'.S.st,true,C (stC z'.S) tSt)::(z'.S.ib,true,z'.S.idx.obj .i64)::(z'.S.pb,true,z'.S.pend.obj .i64)::(z'.S.sb,true,z'.S.stray.obj .i64)::(lgH z'.L++(cs.hp tCg++(cbH cs.list++[])))∧z'.S.st=z.S.st∧Tt n q z ep cs.list bi e z'∧(e≠30→WI n (k+100000000) q z')):=by
 have hsm:=cs.small
 refine Aka (n:=127) Tryz.func16 Tryz.ntmps16 rfl (A13 rfl) ?_
 refine Nt ?_
 refine Aa fun ops=>oA rfl<|Ad ?_
 refine Nt ?_
 refine Aa fun ops=>oA rfl<|Ad ?_
 refine Nt ?_
 refine Aa fun ops=>oM rfl<|oN rfl<|oF rfl<|oF rfl ?_
 refine oR (Am rfl mM (Apn z.S)) ?_
 refine Aj rfl fun b8=> ?_
 rw [Aai]
 first | refine Ac rfl rfl uD (Cg) (Ai) (Bo (by first | exact Ai | exact A1y ..)) ?_ | refine Ac rfl rfl uD rfl rfl rfl ?_
 refine Ad ?_
 refine Nt ?_
 refine Aa fun ops=>oM rfl<|oM rfl<|oN rfl<|oF rfl ?_
 refine oR (show Rd _ _ _ _ (wv z.S.seen) from Al rfl mM (J2 (S:=z.S) (o:=8) rfl)) ?_
 refine oR (An rfl rfl rfl)<|oA rfl<|Ad ?_
 refine Nt ?_
 refine Ag<|Aa fun ops=>oM rfl<|oR (Gc rfl)<|oM rfl<|Ad<|n_K<|Bf ?_
 refine I1 (G6 (α:=Int) (T:=tI)) ?_
 refine At [0,1,2,8,28,29] kQ (fun (st:Nat×Sl Int×Bool×Lv)=>[(30,.int .i64 st.1),(7,st.2.1.val),(9,.bool st.2.2.1)]) (fun (st:Nat×Sl Int×Bool×Lv)=>(st.2.1.hp tI++((b8,true,C (vbc st.2.2.2) tLv)::Cn T::(z.S.st,true,C (stC z.S) tSt)::(z.S.ib,true,z.S.idx.obj .i64)::(z.S.pb,true,z.S.pend.obj .i64)::(z.S.sb,true,z.S.stray.obj .i64)::(lgH z.L++(cs.hp tCg++(cbH cs.list++[])))))) (fun (st:Nat×Sl Int×Bool×Lv)=>st.1≤cs.list.length∧st.2.1.list=(cs.list.take st.1).map (·.key)∧st.2.1.isOwn=true∧st.2.2.1=(decide ((ep.toNat:Int)>(z.S.seen.toNat:Int)) && (cs.list.take st.1).all Qf)∧st.2.2.2=(cs.list.take st.1).foldl E3 z.S.last.lv) (fun (st:Nat×Sl Int×Bool×Lv)=>cs.list.length - st.1) ((0,Sl.nil,decide ((ep.toNat:Int)>(z.S.seen.toNat:Int)),z.S.last.lv)) ⟨A5s _,rfl,rfl,by simp,rfl⟩ kP sP ?_
 rintro ⟨i,ks,ok,lv⟩ ⟨g0,g1,g2,g3,g4⟩
 simp only at g0 g1 g2 g3 g4
 have hkl:ks.list.length≤300:=(by rw [g1,A4b,A3x];omega)
 refine Ag<|Aa fun ops=>oR (An rfl rfl rfl)<|Ad<|n_K<|Ag ?_
 refine Ae rfl (fun c31=> ?_) (fun c31=> ?_)
 ·simp only [A3j,A1k] at c31
  obtain ⟨x,hg⟩:∃ x,cs.list[i]? =some x:=⟨_,A1d (by omega)⟩
  rw [Agt hg]
  have hok:(ok && Bh x.key x.body.list)=(decide ((ep.toNat:Int)>(z.S.seen.toNat:Int)) && (cs.list.take (i+1)).all Qf):=(by rw [g3,A3g,hg,List.all_append];simp [Qf,Bool.and_assoc])
  have hlv:(cs.list.take (i+1)).foldl E3 z.S.last.lv=E3 lv x:=(by rw [H3 hg,g4])
  refine Bd<|n_K<|Ag<|Bf<|Ag<|Aa fun ops=> ?_
  refine oR (A7 (s:=cs) rfl rfl (by omega)) ?_
  refine oR (Dd (s:=cs) (o:=0) rfl pL hg rfl rfl) ?_
  refine Aj rfl fun b11=> ?_
  refine Ac rfl rfl uD rfl rfl rfl ?_
  refine Ad<|n_K<|Ag<|Aa fun ops=>oM rfl<|oF rfl ?_
  refine oR (Al rfl mM rfl) ?_
  refine Ao rfl rfl rfl rfl fun b37=> ?_
  refine Az (s:=ks) (new:=[x.key]) (m:=1) rfl rfl pL g2 (Ch (r:=true) mM rfl) rfl rfl rfl rfl (by omega) rfl fun s' hs1 hs2=> ?_
  refine oA rfl<|Ad<|n_K<|Ag ?_
  refine Fz [(1,40)] rfl fun ops y=> ?_
  refine oM rfl<|oM rfl ?_
  refine' Xu (j:=1) (k:=2) y rfl rfl rfl rfl rfl rfl rfl (fun hg40=> ?_) ?_
  rotate_left
  ·try (simp at hg40;show _)
   refine o_g y rfl rfl ?_
   refine oR (Am rfl mM rfl) ?_
   refine o_g y rfl rfl ?_
   refine Jv rfl (Aut (c:=x)) sP rfl aQ ?_
   exact Ad ⟨rfl,rfl,⟨_,sP⟩⟩
  refine oA rfl<|Ad<|n_K<|Ag<|Aa fun ops=>oF rfl ?_
  refine oR (Al rfl mM rfl) ?_
  refine Ad<|n_K ?_
  refine Ae rfl (fun c45=> ?_) (fun c45=> ?_)
  ·skip
   have hT:G7 lv x.key=(cs.list.take (i+1)).foldl E3 z.S.last.lv:=(by rw [hlv];unfold E3;rw [if_pos c45])
   refine Aa fun ops=> ?_
   refine oR (Am rfl mM (by first | exact Ax | rfl)) ?_
   refine oF rfl ?_
   refine oR (Al rfl mM rfl) ?_
   refine Ao rfl rfl rfl rfl fun b49=> ?_
   refine Jv rfl (All (l:=lv) (b:=b49) (x:=x.key)) sP rfl aQ ?_
   first | refine Ac rfl rfl uD (Cg) (Ai) (Bo (by first | exact Ai | exact A1y ..)) ?_ | refine Ac rfl rfl uD rfl rfl rfl ?_
   refine Ad<|Cq<|n_K<|Aa fun ops=> ?_
   refine oR (Bm rfl rfl (by omega)) ?_
   refine oM rfl<|Ad<|n_K ?_
   first | exact ⟨(i+1,s',(ok && Bh x.key x.body.list),G7 lv x.key),⟨by simp only;omega,by simp only;rw [hs1,g1,A3g,hg,A4e];rfl,hs2,hok,hT⟩,by simp only;omega,lZ⟩ | exact ⟨(i+1,s',(ok && Bh x.key x.body.list),Dz lv x.key),⟨by simp only;omega,by simp only;rw [hs1,g1,A3g,hg,A4e];rfl,hs2,hok,hF⟩,by simp only;omega,lZ⟩
  ·skip
   have hF:Dz lv x.key=(cs.list.take (i+1)).foldl E3 z.S.last.lv:=(by rw [hlv];unfold E3;rw [if_neg (by rw [c45];decide)])
   refine Aa fun ops=> ?_
   refine oR (Am rfl mM (by first | exact Ax | rfl)) ?_
   refine oF rfl ?_
   refine oR (Al rfl mM rfl) ?_
   refine Ao rfl rfl rfl rfl fun b54=> ?_
   refine Jv rfl (Alk (l:=lv) (b:=b54) (x:=x.key)) sP rfl aQ ?_
   first | refine Ac rfl rfl uD (Cg) (Ai) (Bo (by first | exact Ai | exact A1y ..)) ?_ | refine Ac rfl rfl uD rfl rfl rfl ?_
   refine Ad<|Cq<|n_K<|Aa fun ops=> ?_
   refine oR (Bm rfl rfl (by omega)) ?_
   refine oM rfl<|Ad<|n_K ?_
   first | exact ⟨(i+1,s',(ok && Bh x.key x.body.list),G7 lv x.key),⟨by simp only;omega,by simp only;rw [hs1,g1,A3g,hg,A4e];rfl,hs2,hok,hT⟩,by simp only;omega,lZ⟩ | exact ⟨(i+1,s',(ok && Bh x.key x.body.list),Dz lv x.key),⟨by simp only;omega,by simp only;rw [hs1,g1,A3g,hg,A4e];rfl,hs2,hok,hF⟩,by simp only;omega,lZ⟩
 ·simp only [A3j,A1k] at c31
  have hi:i=cs.list.length:=(by omega)
  subst hi
  rw [A30] at g1 g3 g4
  have hbad:Bn z ep cs.list=(!ok || !N1 ks.list):=(by unfold Bn M2;rw [g3,g1])
  have hlvC:B7 z cs.list=lv:=g4.symm
  refine E9<|x_K<|x_K<|Hv ?_
  refine Nt ?_
  refine Bf<|Ag ?_
  refine Fz [(2,60)] rfl fun ops y=> ?_
  refine oM rfl<|oR (D6 rfl)<|oM rfl ?_
  refine' Ac1 (j:=2) (k:=3) y rfl rfl rfl rfl rfl rfl rfl (fun hg60=> ?_) ?_
  rotate_left
  ·try (simp at hg60;show _)
   refine o_g y rfl rfl ?_
   refine oM rfl ?_
   refine o_g y rfl rfl ?_
   refine Jv rfl (Aus (s:=ks) (by omega)) sP rfl aQ ?_
   refine o_g y rfl rfl ?_
   refine oR (D6 rfl) ?_
   exact Ad ⟨rfl,rfl,⟨_,sP⟩⟩
  refine oA rfl<|Ad<|n_K ?_
  refine Ae rfl (fun c57=> ?_) (fun c57=> ?_)
  ·skip
   refine Ag<|Aa fun ops=>oA rfl<|Ad<|n_K<|D3<|Ig ?_
   exact A9 (Aw Tryz.results16 (Af rfl)) (by exact ⟨1,z,rfl,rfl,rfl,.inl ⟨by rw [hbad];exact c57,rfl,rfl⟩,fun _=>h.mono (by omega)⟩) sP
  ·skip
   refine Ag<|Aa fun ops=> ?_
   refine oR (Am rfl mM (by first | exact Ax | rfl)) ?_
   refine Ci rfl (Aik) sP rfl fun v67 Y67 h67=> ?_
   obtain ⟨s67,rfl,rfl,hs67,ho67⟩:=h67
   refine A5 aQ ?_
   refine oR (Gc rfl)<|oM rfl ?_
   refine Jv rfl (Ap8 (z:=z) h) sP rfl aQ ?_
   refine oR (An rfl rfl rfl)<|oA rfl<|Ad<|n_K ?_
   refine Ae rfl (fun c65=> ?_) (fun c65=> ?_)
   ·skip
    refine Ag<|Aa fun ops=>oA rfl<|Ad<|n_K<|D3<|Ig ?_
    exact A9 (Aw Tryz.results16 (Af rfl)) (by exact ⟨40,z,rfl,rfl,rfl,.inr (.inl ⟨by rw [hbad];exact c57,by unfold Bv;rw [hlvC,← hs67];exact c65,rfl,rfl⟩),fun _=>h.mono (by omega)⟩) sP
   ·skip
    refine Bd<|Cq ?_
    refine Nt ?_
    refine Aa fun ops=>oM rfl<|oN rfl<|oF rfl ?_
    refine oR (Al rfl mM rfl) ?_
    refine Ahu rfl uD ?_
    refine Ad ?_
    refine Nt ?_
    refine Aa fun ops=>oM rfl ?_
    refine oR (Am rfl mM (by first | exact Ax | rfl)) ?_
    refine oM rfl<|oM rfl ?_
    refine Ci rfl (Aqg (z:=Hc z) (n:=n) (k:=k) (q:=q) ⟨h.1,h.2⟩ (l:=lv) (ep:=ep) (but:=ks) (bi:=bi) hm (by rw [g1,g4];exact hA)) sP rfl fun v81 Y81 h81=> ?_
    obtain ⟨nds,rfl,rfl,hno,hnl⟩:=h81
    refine A5 aQ ?_
    refine oM rfl<|oE rfl rfl<|oE rfl rfl<|oA rfl<|oA rfl<|Ad ?_
    refine Nt ?_
    refine Ag<|Aa fun ops=>oM rfl<|oR (An rfl rfl rfl)<|Ad<|n_K ?_
    refine Ay rfl ?_
    refine Bd ?_
    refine Nt ?_
    refine Ag<|Aa fun ops=>oM rfl<|oR (Gc rfl)<|oM rfl<|Ad<|n_K<|Bf ?_
    have hfF:Bv z cs.list=false:=(by unfold Bv;rw [hlvC,← hs67];exact c65)
    have hbF:Bn z ep cs.list=false:=(by rw [hbad];exact c57)
    refine At [0,1,2,8,87,88] kQ (fun (st:Nat×Sl Nd)=>[(89,.int .i64 st.1),(12,st.2.val)]) (fun (st:Nat×Sl Nd)=>(st.2.hp tNd++(I9 st.2.list++((b8,true,C (vbc lv) tLv)::Cn T::(z.S.st,true,C (stC z.S) tSt)::(z.S.ib,true,z.S.idx.obj .i64)::(z.S.pb,true,z.S.pend.clr.obj .i64)::(z.S.sb,true,z.S.stray.obj .i64)::(lgH z.L++(ks.hp tI++(cs.hp tCg++(cbH cs.list++[])))))))) (fun (st:Nat×Sl Nd)=>st.1≤cs.list.length∧st.2.list.map nd3=Fw z.S lv ep ks.list bi++Eq ep (cs.list.take st.1)∧st.2.isOwn=true) (fun (st:Nat×Sl Nd)=>cs.list.length - st.1) ((0,nds)) ⟨A5s _,by rw [hnl];simp [Eq];rfl,hno⟩ kP sP ?_
    rintro ⟨i,nd⟩ ⟨k0,k1,k2⟩
    simp only at k0 k1 k2
    have hnl1:nd.list.length≤2000:=(by have h1:=A52 List.length k1;rw [A4b,A2x] at h1;have h2:(Fw z.S lv ep ks.list bi).length≤1000:=(by unfold Fw;rw [A4b];refine A5f (A1x _ _) ?_;rw [(Bt _).length_eq,Mp.keys_len];exact hm);have h3:(Eq ep (cs.list.take i)).length≤300:=(by unfold Eq;rw [A4b];refine A5f (A1x _ _) ?_;rw [A3x];omega);omega)
    refine Ag<|Aa fun ops=>oR (An rfl rfl rfl)<|Ad<|n_K<|Ag ?_
    refine Ae rfl (fun c90=> ?_) (fun c90=> ?_)
    ·simp only [A3j,A1k] at c90
     obtain ⟨x,hg⟩:∃ x,cs.list[i]? =some x:=⟨_,A1d (by omega)⟩
     rw [Agt hg]
     have hcn1:Eq ep (cs.list.take (i+1))=Eq ep (cs.list.take i)++Eq ep [x]:=(by unfold Eq;rw [A3g,hg,A2u,A4e];rfl)
     refine Bd<|n_K<|Ag<|Bf<|Ag<|Aa fun ops=> ?_
     refine oR (A7 (s:=cs) rfl rfl (by omega)) ?_
     refine oR (Dd (s:=cs) (o:=0) rfl pL hg rfl rfl) ?_
     refine Aj rfl fun b15=> ?_
     refine Ac rfl rfl uD rfl rfl rfl ?_
     refine Ad<|n_K<|Ag<|Aa fun ops=>oF rfl ?_
     refine oR (Al rfl mM rfl) ?_
     refine oR (D6 rfl)<|Ad<|n_K ?_
     refine Ae rfl (fun c95=> ?_) (fun c95=> ?_)
     ·skip
      have hgn:x.gone=false:=(by simpa using c95)
      refine D7 [] [(9,[(0,false),(1,false),(2,false),(3,false),(4,false),(5,false),(6,true),(7,false),(8,true)]),(10,[(9,true)]),(11,[(10,false)])] (by kernel_rfl) rfl fun ops w0 H0 y=> ?_
      refine Ce<|xM rfl<|xF rfl ?_
      refine xR (Al rfl mM rfl) ?_
      refine xM rfl<|xF rfl ?_
      refine xR (Al rfl mM rfl) ?_
      refine B1 ?_
      refine Ci rfl (P5 (s:=x.body) (T:=tU8) (Alm hbF (A2a hg))) sP rfl fun v102 Y102 h102=> ?_
      obtain ⟨s102,rfl,rfl,hs102,ho102⟩:=h102
      refine A5 aQ ?_
      refine Ad ⟨rfl,⟨_,sP⟩,?_⟩
      refine xR (Bl rfl rfl)<|B1 ?_
      refine Ao rfl rfl rfl rfl fun b104=> ?_
      refine Ad ⟨rfl,⟨_,sP⟩,?_⟩
      refine As<|Dx<|B1 ?_
      refine Az (s:=nd) (new:=[(⟨x.key,ep,s102⟩:Nd)]) (m:=1) rfl rfl pL k2 (Ch (r:=true) mM rfl) rfl rfl rfl rfl (by omega) rfl fun s' hs1 hs2=> ?_
      refine Ad ⟨rfl,⟨_,sP⟩,?_⟩
      refine As<|Ce<|xA rfl<|As<|Eh<|Cq<|n_K<|Aa fun ops=> ?_
      refine oR (Bm rfl rfl (by omega)) ?_
      refine oM rfl<|Ad<|n_K ?_
      first | exact ⟨(i+1,nd),⟨by simp only;omega,hI,k2⟩,by simp only;omega,lZ⟩ | exact ⟨(i+1,s'),⟨by simp only;omega,by simp only;rw [hs1,A4e,k1,hcn1];simp [Eq,hgn,nd3,hs102],hs2⟩,by simp only;omega,kP,kP,_,(by simp only;rw [hs1,Nj];exact sP)⟩
     ·skip
      have hgn:x.gone=true:=(by simpa using c95)
      have hI:nd.list.map nd3=Fw z.S lv ep ks.list bi++Eq ep (cs.list.take (i+1)):=(by rw [k1,hcn1];simp [Eq,hgn])
      refine Bd<|Cq<|n_K<|Aa fun ops=> ?_
      refine oR (Bm rfl rfl (by omega)) ?_
      refine oM rfl<|Ad<|n_K ?_
      first | exact ⟨(i+1,nd),⟨by simp only;omega,hI,k2⟩,by simp only;omega,lZ⟩ | exact ⟨(i+1,s'),⟨by simp only;omega,by simp only;rw [hs1,A4e,k1,hcn1];simp [Eq,hgn,nd3,hs102],hs2⟩,by simp only;omega,kP,kP,_,(by simp only;rw [hs1,Nj];exact sP)⟩
    ·simp only [A3j,A1k] at c90
     have hi:i=cs.list.length:=(by omega)
     subst hi
     rw [A30] at k1
     have hnd:nd.list.map nd3=B0 z ep cs.list bi:=(by rw [k1,g1,g4];rfl)
     have hnd3:nd.list.length≤300:=(by have:=hN hbF;rw [← hnd,A4b] at this;exact this)
     refine E9<|x_K<|x_K<|Hv ?_
     refine As6 En (b:=z.S.pb) (by simp only [List.dropLast];exact rfl) rfl fun ops=> ?_
     refine oM rfl<|oN rfl<|oF rfl ?_
     refine oR (Al rfl mM rfl) ?_
     refine Ad ⟨rfl,rfl,fun rg hds hrd=> ?_⟩
     refine Ag<|Ag<|Aa fun ops=>oM rfl<|oM rfl ?_
     refine Ci rfl (Alg (z:=Hc z) (n:=n) (k:=k) (q:=q) (nds:=nd) ⟨h.1,h.2⟩ hnd3 (by omega) hq (fun i z1 y h1 h2 h3=>hS hbF hfF i z1 y.key y.ep y.body.list (by rw [← hnd,← List.map_take];exact h1) (by rw [← hnd,A29,h2];rfl) h3) (fun y hy=>Aqi hA hbF (nd3 y) (by rw [← hnd];exact A5b.2 ⟨y,hy,rfl⟩))) sP rfl (fun v113 Y113 h113=> ?_)
     obtain ⟨e113,z1,rfl,rfl,hst1,hW1,hWI1⟩:=h113
     have hst1':z1.S.st=z.S.st:=hst1
     rw [hnd] at hW1
     have hpb1:z1.S.pb=z.S.pb:=hW1.pb
     have hln:320080*nd.list.length≤96024000:=(by omega)
     rw [← hst1',← hpb1]
     refine A5 aQ ?_
     refine oA rfl<|Ad<|n_K<|Ag<|Aa fun ops=>oM rfl<|oR (An rfl rfl rfl)<|Ad<|n_K ?_
     refine Ae rfl (fun c115=> ?_) (fun c115=> ?_)
     ·skip
      have he:e113≠0:=(by simpa using c115)
      refine Ag<|Aa fun ops=>oM rfl<|oA rfl<|Ad<|n_K<|D3<|r_K ?_
      refine ⟨.i64,_,_,uD,?_⟩
      exact A9 (Aw Tryz.results16 (Af rfl)) (by exact ⟨e113,Hc z1,rfl,rfl,rfl,.inr (.inr ⟨hbF,by unfold Bv;rw [hlvC,← hs67];exact c65,e113,z1,hW1,.inl ⟨he,rfl,rfl⟩⟩),fun h9=>⟨(hWI1 h9).1,((hWI1 h9).mono (by omega)).2⟩⟩) sP
     ·skip
      have he:e113=0:=(by simpa using c115)
      subst he
      have hWI2:=hWI1 (by decide)
      refine Bd<|n_K<|Ag ?_
      refine D7 [] [(9,[(0,false),(1,false),(2,false),(3,false),(4,false),(5,false),(6,true),(7,true),(8,false)]),(10,[(9,true)]),(11,[(10,false)])] (by kernel_rfl) rfl fun ops w0 H0 y=> ?_
      refine Ce<|xM rfl<|xM rfl ?_
      refine xR (Am rfl mM (by first | exact Ax | rfl)) ?_
      refine xM rfl<|xM rfl ?_
      refine xR (Am rfl mM (by first | exact Ax | rfl)) ?_
      refine B1 ?_
      refine Ci rfl (Ap6 (S:=z1.S) (l:=lv)) sP rfl fun v123 Y123 h123=> ?_
      obtain ⟨c123,m123,rfl,rfl,hM123⟩:=h123
      refine A5 aQ ?_
      refine Ad ⟨rfl,⟨_,sP⟩,?_⟩
      refine B1 ?_
      refine Ci rfl (Aiw (S:=z1.S.st) (b:=c123) (m:=m123) (Aqh hM123)) sP rfl fun v124 Y124 h124=> ?_
      obtain ⟨rfl,rfl⟩:=h124
      refine A5 aQ ?_
      refine Ad ⟨rfl,⟨_,sP⟩,?_⟩
      refine xR (show Rd _ _ _ _ (.agg (cmC ⟨ep,lv,L6 m123⟩).toArray) from Bl rfl Auw) ?_
      refine As<|Dx<|B1 ?_
      refine Ci rfl (Ax3 (z:=z1) (n:=n) (q:=q) hWI2 (by omega) hq (hE hbF hfF z1 hW1) (c:=⟨ep,lv,L6 m123⟩)) sP rfl fun v126 Y126 h126=> ?_
      obtain ⟨e126,z2,rfl,rfl,hst2,hE2,hW2⟩:=h126
      have hpb2:z2.S.pb=z1.S.pb:=hE2.pb
      rw [← hpb2]
      refine A5 aQ ?_
      refine Ad ⟨rfl,⟨_,sP⟩,?_⟩
      refine As<|Ce<|xA rfl<|As<|Eh<|n_K<|D3 ?_
      refine ⟨.i64,_,_,uD,?_⟩
      exact A9 (Aw Tryz.results16 (Af rfl)) (by exact ⟨e126,Hc z2,rfl,rfl,hst2,.inr (.inr ⟨hbF,by unfold Bv;rw [hlvC,← hs67];exact c65,0,z1,hW1,.inr ⟨rfl,m123,z2,by rw [hlvC];exact hM123,by rw [hlvC];exact hE2,rfl⟩⟩),fun h9=>⟨(hW2 h9).1,((hW2 h9).mono (by omega)).2⟩⟩) sP
end
end
section
open Go.K
theorem onceC_iff {xs:List Int}:N1 xs=true↔xs.Nodup:=by
 unfold N1
 rw [A3j]
 have hl:(D0 xs).length=xs.length:=(Bt xs).length_eq
 have hs:=A1a.1 (Qe xs)
 have hg:∀ j (hj:j<(D0 xs).length),(D0 xs).toArray[j]! =(D0 xs)[j]:=fun j hj=>by
  rw [A5n (D0 xs).toArray j (by simpa using hj)]
  simp
 constructor
 ·intro h
  have h1:((List.range (D0 xs).length).filter (Lib.keeps (D0 xs).toArray)).length=(List.range (D0 xs).length).length:=by
   have h2:(Lib.compact (D0 xs)).length=((List.range (D0 xs).length).filter (Lib.keeps (D0 xs).toArray)).length:=by
    unfold Lib.compact Lib.compactUpTo
    rw [A4b]
   rw [← h2,A3b,h,hl]
  have h2:=List.length_filter_eq_length_iff.1 h1
  refine (Bt xs).nodup_iff.1 ?_
  refine A1a.2 fun i j hi hj hij=> ?_
  have h3:=h2 j (A4v.2 hj)
  unfold Lib.keeps at h3
  rw [A3j,hg j hj,hg (j - 1) (by omega)] at h3
  have h4:=h3.resolve_left (by omega)
  have h5:=hs (j - 1) j (by omega) hj (by omega)
  by_cases e:i=j - 1
  ·subst e;exact fun e=>h4 e.symm
  ·have h6:=hs i (j - 1) hi (by omega) (by omega)
   omega
 ·intro hn
  have hn2:=A1a.1 ((Bt xs).nodup_iff.2 hn)
  rw [Lib.compact_all,hl]
  intro j hj
  unfold Lib.keeps
  rw [A3j]
  by_cases e:j=0
  ·exact .inl e
  ·refine .inr ?_
   rw [hg j hj,hg (j - 1) (by omega)]
   exact fun e2=>hn2 (j - 1) j (by omega) hj (by omega) e2.symm
theorem Lq {k:Int}:∀ {cs:List Chg} {l:Lv},k∉cs.map (·.key)→Bj (cs.foldl E3 l) k=Bj l k
 | [],l,_=>rfl
 | c::cs,l,h=>by
  rw [A45,A46,not_or] at h
  rw [A4a,Lq h.2]
  unfold E3
  split
  ·rw [Yk];simp [h.1]
  ·rw [Rp];simp [h.1]
theorem Ag2 {c:Chg}:∀ {cs:List Chg} {l:Lv},(cs.map (·.key)).Nodup→c∈cs→Cs c.key=true→Bj (cs.foldl E3 l) c.key= !c.gone
 | x::cs,l,hn,hc,hv=>by
  rw [A45,A4i] at hn
  rw [A4a]
  rcases A46.1 hc with rfl | hc
  ·rw [Lq hn.1]
   unfold E3
   cases hg:c.gone with
   | true=>rw [if_pos rfl,Yk];simp [hv]
   | false=>rw [if_neg (by decide),Rp];simp [hv]
  ·exact Ag2 hn.2 hc hv
def Wx (P:NdM) (x:N3):NdM:=fun k=>if k=x.1 then some x.2 else P k
def Ji (P:NdM) (xs:List N3):NdM:=xs.foldl Wx P
theorem Ky {k:Int}:∀ {xs:List N3} {P:NdM},k∉xs.map (·.1)→Ji P xs k=P k
 | [],P,_=>rfl
 | x::xs,P,h=>by
  rw [A45,A46,not_or] at h
  show Ji (Wx P x) xs k=_
  rw [Ky h.2]
  unfold Wx
  rw [if_neg h.1]
theorem G9 {k:Int} {e:Wd} {b:List By}:∀ {xs:List N3} {P:NdM},(xs.map (·.1)).Nodup→(k,e,b)∈xs→Ji P xs k=some (e,b)
 | x::xs,P,hn,h=>by
  rw [A45,A4i] at hn
  show Ji (Wx P x) xs k=_
  rcases A46.1 h with rfl | h
  ·rw [Ky hn.1]
   unfold Wx
   rw [if_pos rfl]
  ·exact G9 hn.2 h
theorem Qn {k:Int} {e:Wd} {b:List By}:∀ {xs:List N3} {P:NdM},Ji P xs k=some (e,b)→(k,e,b)∈xs∨P k=some (e,b)
 | [],P,h=> .inr h
 | x::xs,P,h=>by
  have h:Ji (Wx P x) xs k=some (e,b):=h
  rcases Qn h with h | h
  ·exact .inl (A19 _ h)
  ·unfold Wx at h
   split at h
   ·rename_i hk
    left
    have:=A4o h
    rw [hk,← this]
    exact A2y
   ·exact .inr h
section
variable {A:Ab} {P:NdM} {Q:Int→Wd→List By→Prop} {z z' z1:Sg} {k:Nat}
theorem Rz.vs_new (hw:LW k z1) (h:Rz A P Q z1) {r:Rc} (hok:r.ok) (hk:r.kind≠12) {y:Pl2} (hn:NewAt z1 r.pg y z'):∀ x v,RecAt z' x (Rc.vw v).pg→A.viewed=true∧v.num.toNat≤A.vw.num.toNat∧(v.num=A.vw.num→vwM v=A.vw∨bef z' x z1.S.va):=fun x v hx=>by
 rcases hn.inv x _ hx with h2 | ⟨_,h2⟩
 ·obtain ⟨g1,g2,g3⟩:=h.vs x v h2
  obtain ⟨v',_,h5⟩:=h.va g1
  exact ⟨g1,g2,fun g4=>(g3 g4).imp id fun g5=>(hn.ord hw h2 h5).2 g5⟩
 ·exact absurd h2.symm (Gf hok (s:= .vw v) trivial hk)
theorem Rz.kd_new (h:Rz A P Q z1) {r:Rc} (hok:r.ok) {y:Pl2} (hn:NewAt z1 r.pg y z'):∀ x p,RecAt z' x p→(Ee p).2.2.2=0→∃ r:Rc,r.ok∧p=r.pg:=fun x p hx hg=>by
 rcases hn.inv x p hx with h2 | ⟨_,h2⟩
 ·exact h.kd x p h2 hg
 ·exact ⟨r,hok,h2⟩
theorem Rz.write (hw:LW k z1) (h:Rz A P Q z1) {ky:Int} {e:Wd} {b:List By} (hok:Bh ky b=true) {y:Pl2} (hn:NewAt z1 (Rc.nd ky e b).pg y z'):Rz A (Wx P (ky,e,b)) (fun k' e' b'=>Q k' e' b'∨(k',e',b')=(ky,e,b)) (wr2 z' ky e y):=by
 have hS:=hn.S
 have hold:∀ x r,RecAt z1 x r→RecAt z' x r:=fun x r hx=>(hn.old x r hx).1
 refine ⟨by show z'.S.last=_;rw [hS];exact h.last,by show z'.S.vw=_;rw [hS];exact h.vw,by show z'.S.viewed=_;rw [hS];exact h.viewed,?_,?_,fun h0=> ?_,fun h0=> ?_,?_,fun x k' e' b' h1 h2=> ?_,fun x c h1=> ?_,?_⟩
 ·show Stands _ z'.S.idx _
  rw [hS]
  exact h.ix.mono fun _ _ _ _ h9=>hold _ _ h9
 ·show Stands _ (z'.S.pend.put ky ⟨y,e⟩) _
  rw [hS]
  intro k'
  unfold Wx
  by_cases e0:k'=ky
  ·rw [if_pos e0]
   subst e0
   exact ⟨⟨y,e⟩,by rw [Mp.get_put,if_pos rfl],rfl,hok,hn.new⟩
  ·rw [if_neg e0]
   have:=h.pd k'
   cases hf:P k' with
   | none=>rw [hf] at this;show (z1.S.pend.put ky ⟨y,e⟩).get k'=none;rw [Mp.get_put,if_neg e0];exact this
   | some r =>
    obtain ⟨e',b'⟩:=r
    rw [hf] at this
    obtain ⟨en,q1,q2,q3,q4⟩:=this
    exact ⟨en,by rw [Mp.get_put,if_neg e0];exact q1,q2,q3,hold _ _ q4⟩
 ·show RecAt z' z'.S.la _
  rw [hS];exact hold _ _ (h.la h0)
 ·obtain ⟨v,h3,h4⟩:=h.va h0
  exact ⟨v,h3,by show RecAt z' z'.S.va _;rw [hS];exact hold _ _ h4⟩
 ·exact fun x p h1 h2=>h.kd_new (r:= .nd ky e b) hok hn x p h1 h2
 ·rcases hn.inv x _ h2 with h3 | ⟨_,h3⟩
  ·exact (h.nd x k' e' b' h1 h3).imp id .inl
  ·obtain ⟨q1,q2,q3⟩:=Aq7 h1 hok h3
   exact .inr (.inr (by rw [q1,q2,q3]))
 ·rcases hn.inv x _ h1 with h3 | ⟨_,h3⟩
  ·exact h.cm x c h3
  ·exact absurd h3 (Gf (r:= .cm c) (s:= .nd ky e b) trivial hok (by show (11:By)≠10;decide))
 ·show ∀ x v,RecAt z' x (Rc.vw v).pg→A.viewed=true∧v.num.toNat≤A.vw.num.toNat∧(v.num=A.vw.num→vwM v=A.vw∨bef z' x z'.S.va)
  rw [hS]
  exact h.vs_new hw (r:= .nd ky e b) hok (by show (10:By)≠12;decide) hn
def Ab.fin (A:Ab) (P:NdM) (c:Cm):Ab:={ A with last:=c,seen:=c.ep,stray:=fun _=>false,ix:=fun k=>if Bj c.lv k=true then orE (P k) (A.ix k) else none }
theorem M3 {A:Ab} {P:NdM} {Q:Int→Wd→List By→Prop} {z1 z':Sg} (h:Rz A P Q z1) (ho:∀ x r,RecAt z1 x r→RecAt z' x r) {l:Lv} {m:Mp En} (hm:N0 z1.S l m):Stands z' m fun k=>if Bj l k=true then orE (P k) (A.ix k) else none:=fun k=>by
 have hk:=hm k
 by_cases hl:Bj l k=true
 ·simp only [if_pos hl] at hk ⊢
  cases hp:P k with
  | some r =>
   obtain ⟨e,b⟩:=r
   obtain ⟨en,q1,q2,q3,q4⟩:=h.pd.yes hp
   rw [q1] at hk
   exact ⟨en,hk,q2,q3,ho _ _ q4⟩
  | none =>
   rw [h.pd.no hp] at hk
   cases hi:A.ix k with
   | some r =>
    obtain ⟨e,b⟩:=r
    obtain ⟨en,q1,q2,q3,q4⟩:=h.ix.yes hi
    rw [q1] at hk
    exact ⟨en,hk,q2,q3,ho _ _ q4⟩
   | none =>
    rw [h.ix.no hi] at hk
    exact hk
 ·simp only [if_neg hl] at hk ⊢
  exact hk
abbrev noP:NdM:=fun _=>none
abbrev noQ:Int→Wd→List By→Prop:=fun _ _ _=>False
theorem Rz.fin (hw:LW k z1) (h:Rz A P Q z1) {c:Cm} {y:Pl2} (hn:NewAt z1 (Rc.cm c).pg y z') {m:Mp En} (hm:N0 z1.S c.lv m) (hse:A.seen.toNat<c.ep.toNat) (hls:A.last.ep.toNat≤A.seen.toNat)
  (hQ:∀ k e b,Q k e b→e=c.ep∧P k=some (e,b)) (hP:∀ k e b,P k=some (e,b)→e=c.ep)
  (hst:∀ k,Bj c.lv k=true→P k=none→A.stray k=false∧Bj A.last.lv k=true):Rz (A.fin P c) noP noQ (Hc { z' with S:=Aug z'.S c y m }):=by
 have hS:=hn.S
 have hold:∀ x r,RecAt z1 x r→RecAt z' x r:=fun x r hx=>(hn.old x r hx).1
 refine ⟨rfl,by show z'.S.vw=_;rw [hS];exact h.vw,by show z'.S.viewed=_;rw [hS];exact h.viewed,?_,fun k=>Mp.get_clr _ k,fun h0=>hn.new,fun h0=> ?_,?_,fun x k' e' b' h1 h2=> .inl ?_,fun x c' h1=> ?_,?_⟩
 ·exact M3 h hold hm
 ·obtain ⟨v,h3,h4⟩:=h.va h0
  exact ⟨v,h3,by show RecAt z' z'.S.va _;rw [hS];exact hold _ _ h4⟩
 ·exact fun x p h1 h2=>h.kd_new (r:= .cm c) trivial hn x p h1 h2
 ·have h2:RecAt z' x (Rc.nd k' e' b').pg:=h2
  have h3:RecAt z1 x (Rc.nd k' e' b').pg:=by
   rcases hn.inv x _ h2 with h3 | ⟨_,h3⟩
   ·exact h3
   ·exact absurd h3 (Gf (r:= .nd k' e' b') (s:= .cm c) h1 trivial (by show (10:By)≠11;decide))
  rcases h.nd x k' e' b' h1 h3 with hO | hq
  ·obtain ⟨o1,o2,o3⟩:=hO
   have hle:e'.toNat≤c.ep.toNat:=by omega
   refine ⟨hle,fun _=>hle,fun hl _=> ?_⟩
   have hl:Bj c.lv k'=true:=hl
   show ∃ e2 b2,(if Bj c.lv k'=true then orE (P k') (A.ix k') else none)=some (e2,b2)∧_
   rw [if_pos hl]
   cases hp:P k' with
   | some r =>
    obtain ⟨e2,b2⟩:=r
    have he2:=hP _ _ _ hp
    exact ⟨e2,b2,rfl,by rw [he2];omega,fun e0=>by rw [e0,he2] at o1;omega⟩
   | none =>
    obtain ⟨s1,s2⟩:=hst k' hl hp
    obtain ⟨e2,b2,s3,s4,s5⟩:=o3 s2 (o2 s1)
    exact ⟨e2,b2,by show A.ix k'=_;exact s3,s4,s5⟩
  ·obtain ⟨q1,q2⟩:=hQ _ _ _ hq
   subst q1
   refine ⟨A5q _,fun _=>A5q _,fun hl _=> ?_⟩
   have hl:Bj c.lv k'=true:=hl
   show ∃ e2 b2,(if Bj c.lv k'=true then orE (P k') (A.ix k') else none)=some (e2,b2)∧_
   rw [if_pos hl,q2]
   exact ⟨_,_,rfl,A5q _,fun _=>rfl⟩
 ·have h1:RecAt z' x (Rc.cm c').pg:=h1
  show 0<c'.ep.toNat∧c'.ep.toNat≤c.ep.toNat∧(c'.ep=c.ep→c'=c)
  rcases hn.inv x _ h1 with h3 | ⟨_,h3⟩
  ·obtain ⟨g1,g2,g3⟩:=h.cm x c' h3
   exact ⟨g1,by omega,fun e0=>by rw [e0] at g2;omega⟩
  ·have:=Aq9 h3
   subst this
   exact ⟨by omega,A5q _,fun _=>rfl⟩
 ·show ∀ x v,RecAt z' x (Rc.vw v).pg→A.viewed=true∧v.num.toNat≤A.vw.num.toNat∧(v.num=A.vw.num→vwM v=A.vw∨bef z' x z'.S.va)
  rw [hS]
  exact h.vs_new hw (r:= .cm c) trivial (by show (11:By)≠12;decide) hn
end
end
section
open Go.K
theorem Jc (a b:Wd):(Jg a b).toNat=max a.toNat b.toNat:=by
 unfold Jg
 split <;> omega
theorem Rz.monoQ {A:Ab} {P:NdM} {Q Q':Int→Wd→List By→Prop} {z:Sg} (h:Rz A P Q z) (hq:∀ k e b,Q k e b→Q' k e b):Rz A P Q' z :=
 ⟨h.last,h.vw,h.viewed,h.ix,h.pd,h.la,h.va,h.kd,fun x k e b h1 h2=>(h.nd x k e b h1 h2).imp id (hq k e b),h.cm,h.vs⟩
theorem Mp.put_len {α:Type} (m:Mp α) (k:Int) (v:α):(m.put k v).es.length≤m.es.length+1:=by
 rw [← Mp.keys_len,← Mp.keys_len,Mp.put_keys]
 split
 ·omega
 ·simp
theorem refs_len (S:Sto):(refs S).length=(if 0<S.last.ep.toNat then 1 else 0)+(if S.viewed=true then 1 else 0)+S.idx.es.length+S.pend.es.length:=by
 unfold refs
 rw [A2x,A2x,A2x,A4b,A4b]
 split <;> split <;> simp <;> omega
theorem Ard {n:Nat} {q:Qt} {A:Ab} {P:NdM} {Q:Int→Wd→List By→Prop} {S0:Sto} {c0:Chip} {z':Sg} {p:Pg} {y:Pl2} (h0:c0.after<0) (h:DnM n q (IRz A P Q S0 c0) z'∨∃ k' z1,LW k' z1∧P0 z1∧IRz A P Q S0 c0 z1∧2≤fr z1∧AppG n q z1 p 30 y z'):False:=by
 have ha:∀ {z1:Sg} {p:Pg} {y:Pl2},IRz A P Q S0 c0 z1→AppG n q z1 p 30 y z'→False:=fun hI hA=>by
  have h1:=(hI.2.2.pos h0).1
  rcases hA.2.2.2.2.2 with h | h
  ·exact h.1 rfl
  ·exact h.2.2.1 (by omega)
 rcases h with ⟨_,z1,_,_,hI,h⟩ | ⟨_,z1,_,_,hI,_,h⟩
 ·rcases h with ⟨_,_,_,_,_,_,h⟩ | ⟨b,_,_,_,_,h⟩
  ·exact ha hI h
  ·have h1:=(hI.2.2.pos h0).1
   rcases h.2.2.2.2.2.2 with h | h
   ·exact absurd h.1 (by decide)
   ·exact h.2.2 (by omega)
 ·exact ha hI h
theorem WrR.keep {n:Nat} {q:Qt} {A:Ab} {c0:Chip} {xs:List N3} {e:Int} {z z':Sg} (h:WrR n q xs z e z'):∀ {P:NdM} {Q:Int→Wd→List By→Prop} {k:Nat},LW k z→k+2000*xs.length≤300000000000→z.L.nb≤40→Rz A P Q z→FrA c0 z.L.d.c→1≤fr z →
  (refs z.S).length+xs.length+20≤6*z.L.nb→(e≠30∨c0.after<0) →
  e=0∧LW (k+2000*xs.length) z'∧Rz A (Ji P xs) (fun k e b=>Q k e b∨(k,e,b)∈xs) z'∧FrA c0 z'.L.d.c∧1≤fr z'∧z'.L.nb=z.L.nb∧(refs z'.S).length≤(refs z.S).length+xs.length ∧
   (∀ t:Nat,z.S.seen.toNat≤t→(∀ x∈xs,x.2.1.toNat≤t)→z'.S.seen.toNat≤t):=by
 induction h with
 | @nil z=>exact fun hw _ _ hR hf h1 _ _=>⟨rfl,hw,hR.monoQ fun _ _ _ h=> .inl h,hf,h1,rfl,A5q _,fun t h _=>h⟩
 | @stop ky ep b xs z z1 er y hok hp he =>
  intro P Q k hw hk h40 hR hf h1 hc h30
  rw [A3v] at hk hc
  have hI:IRz A P Q (wr1 z ky ep).S c0 (wr1 z ky ep):=⟨⟨hR.last,hR.vw,hR.viewed,hR.ix.mono fun _ _ _ _ h=>h,hR.pd.mono fun _ _ _ _ h=>h,hR.la,hR.va,hR.kd,hR.nd,hR.cm,hR.vs⟩,.refl _,hf⟩
  rcases hp.keep (z:=wr1 z ky ep) (Arc A P Q (wr1 z ky ep).S c0) (hw.of rfl rfl) (by omega) h40 hI.1.p0 hI h1 (by show (refs z.S).length+20≤6*z.L.nb;omega) with ⟨g,hd⟩ | ⟨g,_⟩
  ·rcases h30 with h30 | h30
   ·exact absurd g h30
   ·exact (Ard h30 hd).elim
  ·exact absurd g he
 | @go ky ep b xs z z1 z' er y hok hp _ ih =>
  intro P Q k hw hk h40 hR hf h1 hc h30
  rw [A3v] at hk hc
  have hI:IRz A P Q (wr1 z ky ep).S c0 (wr1 z ky ep):=⟨⟨hR.last,hR.vw,hR.viewed,hR.ix.mono fun _ _ _ _ h=>h,hR.pd.mono fun _ _ _ _ h=>h,hR.la,hR.va,hR.kd,hR.nd,hR.cm,hR.vs⟩,.refl _,hf⟩
  rcases hp.keep (z:=wr1 z ky ep) (Arc A P Q (wr1 z ky ep).S c0) (hw.of rfl rfl) (by omega) h40 hI.1.p0 hI h1 (by show (refs z.S).length+20≤6*z.L.nb;omega) with ⟨g,_⟩ | ⟨_,k',z2,w1,w2,⟨w3,w4,w5⟩,w6,w7,w8,w9,w10,w11,w12⟩
  ·cases g
  have hnb:z1.L.nb=z.L.nb:=w9.nb.trans w8
  have hlen:(refs z1.S).length=(refs z.S).length:=by rw [w9.S];exact w7
  have hlen2:(refs (wr2 z1 ky ep y).S).length≤(refs z.S).length+1:=by
   rw [← hlen,refs_len,refs_len]
   have:=Mp.put_len z1.S.pend ky ⟨y,ep⟩
   show _+_+z1.S.idx.es.length+(z1.S.pend.put ky ⟨y,ep⟩).es.length≤_
   show (if 0<z1.S.last.ep.toNat then 1 else 0)+(if z1.S.viewed=true then 1 else 0)+z1.S.idx.es.length+(z1.S.pend.put ky ⟨y,ep⟩).es.length≤_
   omega
  obtain ⟨v1,v2,v3,v4,v5,v6,v7,v8⟩:=ih (P:=Wx P (ky,ep,b)) (Q:=fun k' e' b'=>Q k' e' b'∨(k',e',b')=(ky,ep,b)) (k:=k+2000) (w12.of rfl rfl) (by omega) (by show z1.L.nb≤40;omega) (w3.write w1 hok w9) (w5.trans w10) w11 (by show (refs (wr2 z1 ky ep y).S).length+xs.length+20≤6*z1.L.nb;omega) h30
  refine ⟨v1,v2.mono (by rw [A3v];omega),v3.monoQ fun k' e' b' h9=> ?_,v4,v5,v6.trans hnb,by rw [A3v];omega,fun t ht hx=> ?_⟩
  ·rcases h9 with (h9 | h9) | h9
   ·exact .inl h9
   ·exact .inr (by rw [h9];exact A2y)
   ·exact .inr (A19 _ h9)
  ·refine v8 t ?_ fun x h9=>hx x (A19 _ h9)
   have h2:=hx _ A2y
   show z1.S.seen.toNat≤t
   rw [w9.S,w4.seen]
   show (Jg z.S.seen ep).toNat≤t
   rw [Jc]
   simp only at h2
   omega
def epN (ix:NdM) (k:Int):Wd:=match ix k with | some r=>r.1 | none=>0
def Wa (l:Lv) (ix:NdM):BitVec 32:=(Db l 256).foldl (fun c k=>Da c [B4 1 (BitVec.ofInt 64 k),B4 8 (epN ix k)]) 0
theorem Aei {α β:Type} {f g:β→α→β}:∀ {xs:List α} {b:β},(∀ b,∀ x∈xs,f b x=g b x)→xs.foldl f b=xs.foldl g b
 | [],_,_=>rfl
 | x::xs,b,h=>by
  rw [A4a,A4a,h b x A2y]
  exact Aei fun b y hy=>h b y (A19 _ hy)
theorem Are (l:Lv) (n:Nat):(Db l n).Pairwise (·<·):=by
 unfold Db
 refine List.Pairwise.filter _ ?_
 rw [A3e]
 exact List.pairwise_lt_range.imp fun h=>by omega
theorem Yz {m:Mp En} {l:Lv} (h:∀ k,(m.get k).isSome=Bj l k):D0 m.keys=Db l 256:=by
 have hp:(D0 m.keys).Perm (Db l 256):=by
  refine (Bt _).trans ((List.perm_ext_iff_of_nodup m.keys_nodup (Adu l 256)).2 fun k=> ?_)
  rw [keysL_mem,← h k]
  exact Mp.get_some.symm
 exact List.Perm.eq_of_pairwise (le:=(·≤·)) (fun a b _ _ h1 h2=>by omega) (Qe _) ((Are l 256).imp fun h=>by omega) hp
theorem Stands.isSome {z:Sg} {m:Mp En} {f:NdM} (h:Stands z m f) (k:Int):(m.get k).isSome=(f k).isSome:=by
 cases hf:f k with
 | none=>rw [h.no hf];rfl
 | some r=>obtain ⟨en,h1,_⟩:=h.yes (k:=k) (e:=r.1) (b:=r.2) hf;rw [h1];rfl
theorem Aa5 {z:Sg} {m:Mp En} {f:NdM} {l:Lv} (h:Stands z m f) (hl:∀ k,(f k).isSome=Bj l k):L6 m=Wa l f:=by
 unfold L6 Wa
 rw [Yz (l:=l) fun k=>(h.isSome k).trans (hl k)]
 refine Aei fun b k hk=> ?_
 have hk:=keysL_mem.1 hk
 rw [← hl k] at hk
 have:Ad7 m k=epN f k:=by
  obtain ⟨r,hr⟩:=Option.isSome_iff_exists.1 hk
  obtain ⟨en,h1,h2,_⟩:=h.yes (k:=k) (e:=r.1) (b:=r.2) hr
  unfold Ad7 Ru epN
  rw [h1,hr]
  exact h2
 rw [this]
theorem Ayf {m:Mp En} {l:Lv} (h:∀ k,(m.get k).isSome=true→Bj l k=true):m.es.length≤(Db l 256).length:=by
 rw [← Mp.keys_len]
 exact Hx m.keys_nodup fun k hk=>keysL_mem.2 (h k (Mp.get_some.2 hk))
structure Std (A:Ab) (z:Sg):Prop where
 rz:Rz A noP noQ z
 seen:z.S.seen=A.seen
 stray:∀ k,(z.S.stray.get k).isSome=A.stray k
 strk:∀ k,A.stray k=true→Cs k=true
 hurt:z.S.hurt=false
 live:∀ k,(A.ix k).isSome=Bj A.last.lv k
 ep:∀ k e b,A.ix k=some (e,b)→e.toNat≤A.last.ep.toNat
 ls:A.last.ep.toNat≤A.seen.toNat
 l0:A.last.ep.toNat=0→A.last=cm0
 sum:0<A.last.ep.toNat→A.last.sum=Wa A.last.lv A.ix
 lim:((Db A.last.lv 256).length:Int)≤Jr z.L.nb
 nb4:4≤z.L.nb∧z.L.nb≤40
 fr:1≤fr z
 vwm:A.viewed=true→vwM A.vw=A.vw
 v0:A.viewed=false→A.vw=vw0
theorem Aej {n:Nat} (h:4≤n∧n≤40):Jr n=3*(n:Int) - 11:=by unfold Jr;omega
theorem Std.idx_len {A:Ab} {z:Sg} (h:Std A z):z.S.idx.es.length≤(Db A.last.lv 256).length:=Ayf fun k hk=>by rw [← h.live k,← h.rz.ix.isSome k];exact hk
theorem Std.refs_len {A:Ab} {z:Sg} (h:Std A z):(refs (Hc z).S).length+(Jr z.L.nb).toNat+20≤6*z.L.nb:=by
 rw [Go.Proofs.YtpmojdippdlcaaaGreatDoor.refs_len]
 have h1:=h.idx_len
 have h2:=h.lim
 have h3:=Aej h.nb4
 have h4:=h.nb4
 show (if 0<z.S.last.ep.toNat then 1 else 0)+(if z.S.viewed=true then 1 else 0)+z.S.idx.es.length+0+(Jr z.L.nb).toNat+20≤6*z.L.nb
 split <;> split <;> omega
def B5 (ix:NdM) (k:Int):List By:=match ix k with | some r=>r.2 | none=>[]
section
variable {n k:Nat} {q:Qt} {A:Ab} {z z':Sg} {ep:Wd} {cs:List Chg}
theorem Std.clr (h:Std A z):Rz A noP noQ (Hc z):=⟨h.rz.last,h.rz.vw,h.rz.viewed,h.rz.ix.mono fun _ _ _ _ h=>h,fun k=>Mp.get_clr _ k,h.rz.la,h.rz.va,h.rz.kd,h.rz.nd,h.rz.cm,h.rz.vs⟩
theorem Std.lv (h:Std A z):B7 z cs=cs.foldl E3 A.last.lv:=by unfold B7;rw [h.rz.last]
theorem Std.again (h:Std A z) {ky:Int} (hk:Es (B7 z cs) (cs.map (·.key)) ky=true):Bj A.last.lv ky=true∧ky∉cs.map (·.key)∧Bj (B7 z cs) ky=true∧∃ e,A.ix ky=some (e,B5 A.ix ky)∧Bh ky (B5 A.ix ky)=true:=by
 unfold Es at hk
 simp only [A3n,A23,A1k] at hk
 obtain ⟨h1,h2⟩:=hk
 have h3:Bj A.last.lv ky=true:=by rw [h.lv,Lq h2] at h1;exact h1
 refine ⟨h3,h2,h1,?_⟩
 have h4:=h.live ky
 rw [h3] at h4
 obtain ⟨r,hr⟩:=Option.isSome_iff_exists.1 h4
 obtain ⟨en,_,_,h5,_⟩:=h.rz.ix.yes (k:=ky) (e:=r.1) (b:=r.2) hr
 have hb:B5 A.ix ky=r.2:=by unfold B5;rw [hr]
 exact ⟨r.1,by rw [hb];exact hr,by rw [hb];exact h5⟩
theorem Std.hA (h:Std A z):∀ k∈z.S.stray.keys,Es (B7 z cs) (cs.map (·.key)) k=true→∃ e,z.S.idx.get k=some e∧Bh k (B5 A.ix k)=true∧RecAt z e.at' (Cp 10 (Ez k e.ep (B5 A.ix k))):=fun ky _ hk=>by
 obtain ⟨_,_,_,e,h1,h2⟩:=h.again hk
 obtain ⟨en,g1,g2,g3,g4⟩:=h.rz.ix.yes h1
 subst g2
 exact ⟨en,g1,g3,g4⟩
theorem Std.hm (h:Std A z):z.S.stray.es.length≤1000:=by
 rw [← Mp.keys_len]
 have:z.S.stray.keys.length≤((List.range 256).map fun i:Nat=>(i:Int)).length:=Hx z.S.stray.keys_nodup fun k hk=>by
  have h1:=h.strk k (by rw [← h.stray k];exact Mp.get_some.2 hk)
  obtain ⟨m,rfl,hm⟩:=Eo h1
  exact A5b.2 ⟨m,A4v.2 hm,rfl⟩
 rw [A4b,A3b] at this
 omega
theorem Std.nds (h:Std A z) (hb:Bn z ep cs=false):((B0 z ep cs (B5 A.ix)).map (·.1)).Nodup∧(∀ x∈B0 z ep cs (B5 A.ix),x.2.1=ep∧Bj (B7 z cs) x.1=true) ∧
  (∀ k,Bj (B7 z cs) k=true→k∉(B0 z ep cs (B5 A.ix)).map (·.1)→A.stray k=false∧Bj A.last.lv k=true):=by
 unfold Bn M2 at hb
 simp only [A15,A2s,A3n,A3o] at hb
 obtain ⟨⟨_,hall⟩,hon⟩:=hb
 have hnd:=onceC_iff.1 hon
 have e1:(Fw z.S (B7 z cs) ep (cs.map (·.key)) (B5 A.ix)).map (·.1)=(D0 z.S.stray.keys).filter (Es (B7 z cs) (cs.map (·.key))):=by
  unfold Fw
  rw [A49]
  exact List.map_id _
 have e2:(Eq ep cs).map (·.1)=(cs.filter fun c=> !c.gone).map (·.key):=by
  unfold Eq
  rw [A49]
  rfl
 have hsub:((cs.filter fun c=> !c.gone).map (·.key)).Sublist (cs.map (·.key)):=List.filter_sublist.map _
 have hv:∀ c∈cs,Cs c.key=true:=fun c hc=>by
  have:=hall c hc
  unfold Qf Bh at this
  simp only [A3n] at this
  exact this.1
 refine ⟨?_,fun x hx=> ?_,fun k h1 h2=> ?_⟩
 ·unfold B0
  rw [A4e,e1,e2]
  refine A3d.2 ⟨((Bt _).nodup_iff.2 z.S.stray.keys_nodup).filter _,hsub.nodup hnd,fun a ha b hb e=> ?_⟩
  have:=(h.again (A4g.1 ha).2).2.1
  exact this (by rw [e];exact hsub.mem hb)
 ·unfold B0 at hx
  rcases A4f.1 hx with hx | hx
  ·unfold Fw at hx
   obtain ⟨ky,hk,rfl⟩:=A5b.1 hx
   exact ⟨rfl,(h.again (A4g.1 hk).2).2.2.1⟩
  ·unfold Eq at hx
   obtain ⟨c,hc,rfl⟩:=A5b.1 hx
   obtain ⟨hc1,hc2⟩:=A4g.1 hc
   refine ⟨rfl,?_⟩
   rw [h.lv]
   show Bj (cs.foldl E3 A.last.lv) c.key=true
   rw [Ag2 hnd hc1 (hv c hc1)]
   exact hc2
 ·have h2':k∉(D0 z.S.stray.keys).filter (Es (B7 z cs) (cs.map (·.key)))∧k∉(cs.filter fun c=> !c.gone).map (·.key):=by
   unfold B0 at h2
   rw [A4e,e1,e2,A4f,not_or] at h2
   exact h2
  have hk:k∉cs.map (·.key):=fun hk=>by
   obtain ⟨c,hc,rfl⟩:=A5b.1 hk
   have h3:=h1
   rw [h.lv,Ag2 hnd hc (hv c hc)] at h3
   exact h2'.2 (A5b.2 ⟨c,A4g.2 ⟨hc,h3⟩,rfl⟩)
  refine ⟨?_,by rw [h.lv,Lq hk] at h1;exact h1⟩
  rw [← h.stray k]
  cases hg:(z.S.stray.get k).isSome with
  | false=>rfl
  | true =>
   exact absurd (A4g.2 ⟨(Bt _).mem_iff.2 (Mp.get_some.1 hg),by unfold Es;simp [h1];simpa using hk⟩) h2'.1
theorem Std.nds_len (h:Std A z) (hb:Bn z ep cs=false):(B0 z ep cs (B5 A.ix)).length≤(Db (B7 z cs) 256).length:=by
 obtain ⟨h1,h2,_⟩:=h.nds hb
 rw [← A4b (f:=fun x:N3=>x.1)]
 exact Hx h1 fun k hk=>by
  obtain ⟨x,hx,rfl⟩:=A5b.1 hk
  exact keysL_mem.2 (h2 x hx).2
theorem Std.cap (h:Std A z) (hb:Bn z ep cs=false) (hf:Bv z cs=false):(refs (Hc z).S).length+(B0 z ep cs (B5 A.ix)).length+20≤6*z.L.nb:=by
 have h1:=h.refs_len
 have h2:=h.nds_len hb
 unfold Bv at hf
 simp only [A1k] at hf
 have h3:=Aej h.nb4
 omega
end
end
section
open Go.K
structure ComA (A:Ab) (e0:Wd) (cs:List Chg) (A':Ab):Prop where
 ep:A'.last.ep=e0
 lv:A'.last.lv=cs.foldl E3 A.last.lv
 seen:A'.seen=e0
 vw:A'.vw=A.vw
 viewed:A'.viewed=A.viewed
 stray:∀ k,A'.stray k=false
 chg:∀ c∈cs,c.gone=false→A'.ix c.key=some (e0,c.body.list)
 oth:∀ k,k∉cs.map (·.key)→∀ e b,A.ix k=some (e,b)→A'.ix k=some (if A.stray k=true then e0 else e,b)
theorem Arf {cs:List Chg} {ep:Wd} {c:Chg} (hc:c∈cs) (hg:c.gone=false):(c.key,ep,c.body.list)∈Eq ep cs :=
 A5b.2 ⟨c,A4g.2 ⟨hc,by rw [hg];rfl⟩,rfl⟩
section
variable {n k:Nat} {q:Qt} {A:Ab} {z z':Sg} {ep:Wd} {cs:List Chg} {e:Int}
theorem Std.commit (h:Std A z) (hw:LW k z) (hk:k≤200000000000) (hb:Bn z ep cs=false) (hf:Bv z cs=false) {z1 z2:Sg} {e1:Int} {m:Mp En} (hW:WrR n q (B0 z ep cs (B5 A.ix)) (Hc z) e1 z1) :
  ((e1≠30∨z.L.d.c.after<0)→e1=0∧FrA z.L.d.c z1.L.d.c∧(N0 z1.S (B7 z cs) m→EndR n q z1 ⟨ep,B7 z cs,L6 m⟩ e z2→(e≠30∨z.L.d.c.after<0)→e=0∧FrA z.L.d.c z2.L.d.c∧∃ A',ComA A ep cs A'∧Std A' (Hc z2))):=by
 intro he1
 have hcap:=h.cap hb hf
 obtain ⟨n1,n2,n3⟩:=h.nds hb
 have hlenN:=h.nds_len hb
 have hk256:=Hm (B7 z cs) 256
 obtain ⟨w1,w2,w3,w4,w5,w6,w7,w8⟩:=hW.keep (hw.of (z':=Hc z) rfl rfl) (by omega) h.nb4.2 h.clr (.refl _) h.fr hcap he1
 refine ⟨w1,w4,fun hM hE he=> ?_⟩
 have hgt:A.seen.toNat<ep.toNat:=by
  have h9:=hb
  unfold Bn M2 at h9
  simp only [A15,A2s,A3n,A3j] at h9
  rw [← h.seen]
  have:=h9.1.1
  omega
 have hseen:z1.S.seen.toNat≤ep.toNat:=w8 ep.toNat (by show z.S.seen.toNat≤_;rw [h.seen];omega) fun x hx=>by rw [(n2 x hx).1];exact A5q _
 have hlive:∀ k,(if Bj (B7 z cs) k=true then orE (Ji noP (B0 z ep cs (B5 A.ix)) k) (A.ix k) else none).isSome=Bj (B7 z cs) k:=fun k=>by
  by_cases hl:Bj (B7 z cs) k=true
  ·rw [if_pos hl,hl]
   by_cases hk:k∈(B0 z ep cs (B5 A.ix)).map (·.1)
   ·obtain ⟨⟨k',e',b'⟩,hx,rfl⟩:=A5b.1 hk
    rw [G9 n1 hx];rfl
   ·rw [Ky hk]
    show (A.ix k).isSome=true
    rw [h.live k]
    exact (n3 k hl hk).2
  ·rw [if_neg hl]
   simp at hl
   rw [hl];rfl
 have hsum:L6 m=Wa (B7 z cs) (fun k=>if Bj (B7 z cs) k=true then orE (Ji noP (B0 z ep cs (B5 A.ix)) k) (A.ix k) else none) :=
  Aa5 (M3 w3 (fun _ _ h=>h) hM) hlive
 obtain ⟨y,z3,hP,hZ⟩:=hE
 have hI:IRz A (Ji noP (B0 z ep cs (B5 A.ix))) (fun k e b=>noQ k e b∨(k,e,b)∈B0 z ep cs (B5 A.ix)) z1.S z.L.d.c z1:=⟨w3,.refl _,w4⟩
 rcases hP.keep (Arc _ _ _ z1.S z.L.d.c) w2 (by omega) (by rw [w6];exact h.nb4.2) hI.1.p0 hI w5 (by rw [w6];show _≤6*z.L.nb;omega) with ⟨g,hd⟩ | ⟨g0,k',z4,g1,g2,⟨g3,g4,g5⟩,g6,g7,g8,g9,g10,g11,g12⟩
 ·rcases he with he | he
  ·exact absurd g he
  ·exact (Ard he hd).elim
 refine ⟨g0,?_⟩
 obtain ⟨m',hm',rfl⟩:∃ m',N0 z3.S (B7 z cs) m'∧z2={ z3 with S:=Aug z3.S ⟨ep,B7 z cs,L6 m⟩ y m' }:=by
  rcases hZ with ⟨g,_⟩ | ⟨_,m',g,g'⟩
  ·exact absurd g0 g
  ·exact ⟨m',g,g'⟩
 refine ⟨g5.trans g10,A.fin (Ji noP (B0 z ep cs (B5 A.ix))) ⟨ep,B7 z cs,L6 m⟩,⟨rfl,h.lv,rfl,rfl,rfl,fun _=>rfl,fun c hc hg=> ?_,fun ky hky e b hi=> ?_⟩,?_⟩
 ·show (if Bj (B7 z cs) c.key=true then orE (Ji noP (B0 z ep cs (B5 A.ix)) c.key) (A.ix c.key) else none)=_
  have hx:(c.key,ep,c.body.list)∈B0 z ep cs (B5 A.ix):=by unfold B0;exact A10 _ (Arf hc hg)
  rw [if_pos (n2 _ hx).2,G9 n1 hx]
  rfl
 ·show (if Bj (B7 z cs) ky=true then orE (Ji noP (B0 z ep cs (B5 A.ix)) ky) (A.ix ky) else none)=_
  have hl:Bj (B7 z cs) ky=true:=by
   rw [h.lv,Lq hky,← h.live ky,hi];rfl
  rw [if_pos hl]
  cases hs:A.stray ky with
  | true =>
   have hx:(ky,ep,B5 A.ix ky)∈B0 z ep cs (B5 A.ix):=by
    unfold B0 Fw
    refine A18 _ (A5b.2 ⟨ky,A4g.2 ⟨(Bt _).mem_iff.2 (Mp.get_some.1 (by rw [h.stray ky];exact hs)),?_⟩,rfl⟩)
    unfold Es
    rw [hl]
    simpa using hky
   rw [G9 n1 hx,if_pos rfl]
   have:B5 A.ix ky=b:=by unfold B5;rw [hi]
   rw [this]
   rfl
  | false =>
   have hx:ky∉(B0 z ep cs (B5 A.ix)).map (·.1):=fun hx=>by
    unfold B0 at hx
    rw [A4e,A4f] at hx
    rcases hx with hx | hx
    ·unfold Fw at hx
     rw [A49] at hx
     obtain ⟨k2,h2,e2⟩:=A5b.1 hx
     have e2:k2=ky:=e2
     subst e2
     have:=Mp.get_some.2 ((Bt _).mem_iff.1 (A4g.1 h2).1)
     rw [h.stray k2,hs] at this
     cases this
    ·unfold Eq at hx
     rw [A49] at hx
     obtain ⟨c,h2,e2⟩:=A5b.1 hx
     exact hky (A5b.2 ⟨c,(A4g.1 h2).1,e2⟩)
   rw [Ky hx,if_neg (by decide)]
   exact hi
 ·have hm4:N0 z4.S (B7 z cs) m':=by rw [← g9.S];exact hm'
  have hrz:=Rz.fin g1 g3 g9 hm4 hgt h.ls (fun ky e b hq=>by
    rcases hq with hq | hq
    ·exact hq.elim
    ·exact ⟨(n2 _ hq).1,G9 n1 hq⟩) (fun ky e b hp=>by
    rcases Qn hp with hx | hx
    ·exact (n2 _ hx).1
    ·cases hx) (fun ky hl hp=>by
    refine n3 ky hl fun hk=> ?_
    obtain ⟨⟨k',e',b'⟩,hx,rfl⟩:=A5b.1 hk
    rw [G9 n1 hx] at hp
    cases hp)
  have hnb:z3.L.nb=z.L.nb:=g9.nb.trans (g8.trans w6)
  have hsn:z3.S.seen=z1.S.seen:=by rw [g9.S];exact g4.seen
  refine ⟨hrz,?_,fun ky=> ?_,fun ky hk=>(by cases hk),rfl,hlive,fun ky e b hi=> ?_,A5q _,fun h0=> ?_,fun _=>hsum,?_,by show 4≤z3.L.nb∧z3.L.nb≤40;rw [hnb];exact h.nb4,g11,h.vwm,h.v0⟩
  ·show Jg z3.S.seen ep=ep
   refine A1s ?_
   rw [Jc,hsn]
   omega
  ·show (z3.S.stray.clr.get ky).isSome=false
   rw [Mp.get_clr];rfl
  ·show e.toNat≤ep.toNat
   have hi:(if Bj (B7 z cs) ky=true then orE (Ji noP (B0 z ep cs (B5 A.ix)) ky) (A.ix ky) else none)=some (e,b):=hi
   split at hi
   ·cases hp:Ji noP (B0 z ep cs (B5 A.ix)) ky with
    | some r =>
     obtain ⟨e2,b2⟩:=r
     rw [hp] at hi
     have hi:some (e2,b2)=some (e,b):=hi
     have:=A4o hi
     simp only [A48] at this
     rw [← this.1]
     rcases Qn hp with hx | hx
     ·have h8:e2=ep:=(n2 _ hx).1
      rw [h8];exact A5q _
     ·cases hx
    | none =>
     rw [hp] at hi
     have:=h.ep ky e b hi
     have:=h.ls
     omega
   ·cases hi
  ·have h0:ep.toNat=0:=h0
   omega
  ·show ((Db (B7 z cs) 256).length:Int)≤Jr z3.L.nb
   rw [hnb]
   have h9:=hf
   unfold Bv at h9
   simp only [A1k] at h9
   omega
theorem Std.hS (h:Std A z) (hw:LW k z) (hk:k≤200000000000) (h13:z.L.nb≤40) (hb:Bn z ep cs=false) (hf:Bv z cs=false):∀ i z1 ky e b,WrR n q ((B0 z ep cs (B5 A.ix)).take i) (Hc z) 0 z1→(B0 z ep cs (B5 A.ix))[i]? =some (ky,e,b)→Bh ky b=true→Aar n q (wr1 z1 ky e):=fun i z1 ky e b hW hg _=>by
 have hcap:=h.cap hb hf
 have hlenN:=h.nds_len hb
 have hk256:=Hm (B7 z cs) 256
 have hi:=(A08.1 hg).1
 have htl:((B0 z ep cs (B5 A.ix)).take i).length=i:=by rw [A3x];omega
 obtain ⟨w1,w2,w3,w4,w5,w6,w7,w8⟩:=hW.keep (hw.of (z':=Hc z) rfl rfl) (by omega) h.nb4.2 h.clr (.refl _) h.fr (by rw [htl];show _≤6*z.L.nb;omega) (.inl (by decide))
 have w6:z1.L.nb=z.L.nb:=w6
 rw [htl] at w7
 exact Ai1 (z:=wr1 z1 ky e) w3.p0 w5 (by show (refs z1.S).length+20≤6*z1.L.nb;rw [w6];omega) (by show z1.L.nb≤40;omega)
theorem Std.hE (h:Std A z) (hw:LW k z) (hk:k≤200000000000) (h13:z.L.nb≤40) (hb:Bn z ep cs=false) (hf:Bv z cs=false):∀ z1,WrR n q (B0 z ep cs (B5 A.ix)) (Hc z) 0 z1→Aar n q z1:=fun z1 hW=>by
 have hcap:=h.cap hb hf
 have hlenN:=h.nds_len hb
 have hk256:=Hm (B7 z cs) 256
 obtain ⟨w1,w2,w3,w4,w5,w6,w7,w8⟩:=hW.keep (hw.of (z':=Hc z) rfl rfl) (by omega) h.nb4.2 h.clr (.refl _) h.fr hcap (.inl (by decide))
 have w6:z1.L.nb=z.L.nb:=w6
 exact Ai1 w3.p0 w5 (by rw [w6];omega) (by omega)
end
end
section
open Go.K
instance ent15:Ent Tryz.prog 15:=⟨fun _ _=>by kernel_rfl⟩
instance ent49:Ent Tryz.prog 49:=⟨fun _ _=>by kernel_rfl⟩
theorem Aln {c:Chip} {a:Nat} {e:Int} (ha:c.aC=a) (hb:2≤c.blocks.length∧c.blocks.length≤1000) (ho:Dk c=(e,ts0)) (he:e≠0):Does Tryz.prog 129 [ptr a] (chH c) (Is (.tuple #[.pointer none,.int .i64 e]) (chH c++[])):=by
 subst ha
 refine (Aa0 hb).mono fun v H h=> ?_
 unfold V7 at h
 rw [ho,if_neg he] at h
 exact h
theorem Aqj {a:Nat} {v:Value} {e:Int} (he:e≠0):Does Tryz.prog 130 [ptr a,v,.int .i64 e] [] (Is (.tuple #[.pointer none,.int .i64 e]) []):=by
 refine zF 15 Tryz.func130 ?_
 refine zC ?_
 refine Ae rfl (fun c9=> ?_) (fun c9=> ?_)
 ·skip
  refine zC ?_
  exact zS
 ·skip
  exact absurd (by simpa using c9) he
theorem Alo {c:Chip} {a:Nat} {e:Int} (ha:c.aC=a) (hb:2≤c.blocks.length∧c.blocks.length≤1000) (ho:Dk c=(e,ts0)) (he:e≠0):Does Tryz.prog 83 [ptr a] (chH c) (Is (.tuple #[.pointer none,.int .i64 e]) (chH c++[])):=by
 refine zF 17 Tryz.func83 ?_
 refine zC ?_
 refine zI rfl (Aln ha hb ho he) ?_
 refine zC ?_
 refine zI rfl (Aqj (a:=a) (v:= .pointer none) he) ?_
 refine zC ?_
 exact zS
def sgN (d:Dsk) (st lg ib pb sb bb:Nat) (bs:List LB):Sg:=⟨J4 st lg ib pb sb,⟨lg,bb,bs.length,-1,bs,d⟩,fun _=>[]⟩
def q0 (m:Nat):Qt:=⟨0,Ox (Ha m []) ((m:Int) - 6) m⟩
structure Laid11 (m:Nat) (z:Sg):Prop where
 wi:WI m 2000 (q0 m) z
 nb:z.L.nb+6=m
 sto:∃ st lg ib pb sb,z.S=J4 st lg ib pb sb
 none:∀ x p,¬ RecAt z x p
 free:B6 z.L.bs z.L.nb=z.L.nb
 af:z.L.d.c.after<0
theorem Laid.lz {m:Nat} {d:Dsk} {bs:List LB} {V:Nat→Blk} (h:Laid m d bs V):LZ m bs.length 2000 (q0 m) d bs (-1) V fun _=>[]:=by
 have hat:∀ j<bs.length,∃ w,bAt bs j=Iy w∧(V j).next=1∧Av (V j) 0=Jk w:=fun j hj=>⟨_,h.blk j hj⟩
 have hs:∀ j<bs.length,(bAt bs j).seq.toNat=0:=fun j hj=>by obtain ⟨w,h1,_⟩:=hat j hj;rw [h1];rfl
 refine ⟨h.len,h.dv,h.acc,rfl,fun j hj=> ?_,.inl ⟨rfl,hs⟩,fun j hj=>by rw [hs j hj];exact A5s _,fun i hi j hj _ h0=>absurd (hs i hi) h0⟩
 obtain ⟨w,h1,h2,h3⟩:=hat j hj
 refine .inl ⟨⟨hs j hj,fun _=>⟨h2,by rw [h1];rfl,by rw [h1];exact h3⟩,?_⟩,rfl⟩
 have hbi:BI (V j):=(h.dv.blk (l:=j) (by have:=h.len;omega)).1
 unfold Qc
 rw [hbi.pg (by omega) (by rw [h2];decide)]
 exact O1
theorem Laid.l11 {m:Nat} {d:Dsk} {bs:List LB} {V:Nat→Blk} (h:Laid m d bs V) (st lg ib pb sb bb:Nat):Laid11 m (sgN d st lg ib pb sb bb bs):=by
 refine ⟨⟨rfl,V,h.lz⟩,h.len,⟨st,lg,ib,pb,sb,rfl⟩,fun x p ⟨b,j,_,_,h3⟩=>(by cases h3),?_,h.af⟩
 show B6 bs bs.length=bs.length
 have:∀ k,k≤bs.length→B6 bs k=k:=fun k=>by
  induction k with
  | zero=>exact fun _=>rfl
  | succ k ih =>
   intro hk
   obtain ⟨h1,_⟩:=h.blk k (by omega)
   rw [Gh,ih (by omega),h1]
   rfl
 exact this _ (A5q _)
theorem Agv {pp aC aB m:Nat} (hm:16≤m∧m≤40):Does Tryz.prog 49 [ptr aC] (chH (Ds (-1) 0 pp aC aB m []))
  (fun v H=>∃ z:Sg,v= .tuple #[ptr z.S.st,.int .i64 0]∧H=(z.S.st,true,C (stC z.S) tSt)::(z.S.ib,true,z.S.idx.obj .i64)::(z.S.pb,true,z.S.pend.obj .i64)::(z.S.sb,true,z.S.stray.obj .i64)::(lgH z.L++[])∧Laid11 m z):=by
 have hX:=Awv hm
 have hlen:(Ds (-1) 0 pp aC aB m []).blocks.length=m:=Ho
 refine Dw (n:=32) Tryz.func49 Tryz.ntmps49 rfl (A13 rfl)<|Ag<|Aa fun ops=>oA rfl<|oA rfl<|Ad<|n_K<|Ag<|Aa fun ops=>oM rfl ?_
 refine Jv rfl (Alo (c:=Ds (-1) 0 pp aC aB m []) (a:=aC) (e:=35) rfl (by rw [hlen];omega) (Ac4 (by omega)) (by decide)) sP rfl aQ ?_
 refine oM rfl<|oE rfl rfl<|oE rfl rfl<|oA rfl<|oA rfl<|Ad<|n_K<|Ag<|Ag<|Aa fun ops=>oM rfl<|oR (An rfl rfl rfl)<|Ad<|n_K ?_
 refine Gb rfl ?_
 refine Aa fun ops=>oM rfl ?_
 refine Ci rfl (Aji (pp:=pp) (aC:=aC) (aB:=aB) (m:=m) hm hX) sP rfl fun v16 Y16 h16=> ?_
 obtain ⟨d,rfl,rfl,hd⟩:=h16
 refine A5 aQ ?_
 refine oM rfl<|oE rfl rfl<|oE rfl rfl<|oA rfl<|oA rfl<|Ad<|n_K<|Ag<|Ag<|Aa fun ops=>oM rfl<|oR (An rfl rfl rfl)<|Ad<|n_K ?_
 refine Ay rfl ?_
 refine Bd<|n_K<|Ag<|Aa fun ops=>oM rfl ?_
 refine Ci rfl (Asp (q:=q0 m) (nb:=m - 6) (d:=d) hd.dd (by omega) (A5s 3) ⟨by rw [Awj hd.pf,Awk hd.wf,hd.lost];exact A5q 0,fun _=>hd.uses⟩ (by omega) hd.af) sP rfl fun v24 Y24 h24=> ?_
 obtain ⟨lg,bb,t',c',bs',V',rfl,rfl,hN⟩:=h24
 refine A5 aQ ?_
 refine oM rfl<|oE rfl rfl<|oE rfl rfl<|oA rfl<|oA rfl<|Ad<|n_K<|Ag<|Ag<|Aa fun ops=>oM rfl<|oR (An rfl rfl rfl)<|Ad<|n_K ?_
 refine Ay rfl ?_
 refine Bd<|n_K<|Ag<|Aa fun ops=>oM rfl ?_
 refine Ci rfl (Yu (lg:=lg)) sP rfl fun v31 Y31 h31=> ?_
 obtain ⟨st,ib,pb,sb,rfl,rfl⟩:=h31
 refine A5 aQ ?_
 refine oA rfl<|oA rfl<|Ad<|n_K<|D3 ?_
 exact A9 (Cu Tryz.results49 (Af rfl) (Af rfl)) (by exact ⟨sgN ⟨d.dk,t',c'⟩ st lg ib pb sb bb bs',rfl,by show _=(st,true,C (stC (J4 st lg ib pb sb)) tSt)::(ib,true,(Mp.nil:Mp En).obj .i64)::(pb,true,(Mp.nil:Mp En).obj .i64)::(sb,true,(Mp.nil:Mp Int).obj .i64)::(lgH ⟨lg,bb,bs'.length,-1,bs',⟨d.dk,t',c'⟩⟩++[]);rw [Fc,hN.len];first | done | simp only [A3q,A37,A4h,A25],Laid.l11 (m:=m) (V:=V') (d:=⟨d.dk,t',c'⟩) (bs:=bs') ⟨by rw [hN.len];omega,hN.dv.mono (by omega),hN.acc,by rw [(hN.fr.pos hd.af).1];exact hd.af,by rw [hN.len];exact hN.new⟩ st lg ib pb sb bb⟩) sP
theorem Rv {m:Nat} (hm:16≤m∧m≤40):Does Tryz.prog 15 [.int .i64 (m:Nat)] []
  (fun v H=>∃ z:Sg,v=ptr z.S.st∧H=(z.S.st,true,C (stC z.S) tSt)::(z.S.ib,true,z.S.idx.obj .i64)::(z.S.pb,true,z.S.pend.obj .i64)::(z.S.sb,true,z.S.stray.obj .i64)::(lgH z.L++[])∧Laid11 m z):=by
 have hok:Px (m:Int) []=true:=by unfold Px;simp;omega
 refine zF 21 Tryz.func15 ?_
 refine zC ?_
 refine zE rfl (Adf) ?_
 rintro _ _ ⟨p8,rfl,rfl⟩
 refine zW ?_
 refine zE rfl (Avv (n:=m) hok) ?_
 rintro _ _ ⟨aC,aB,rfl,rfl⟩
 refine zW ?_
 refine Ay rfl ?_
 refine zC ?_
 refine zE rfl (Agv (pp:=p8) (aC:=aC) (aB:=aB) (m:=m) hm) ?_
 rintro _ _ ⟨z,rfl,rfl,hz⟩
 refine zW ?_
 exact zL (hR:=by exact ⟨z,rfl,rfl,hz⟩)
end
section
open Go.K
instance agg191:Agg Tryz.prog 191 true:=⟨⟨_,Tryz.underlying191,rfl⟩⟩
instance siz191:Siz Tryz.prog 191 4:=⟨by kernel_rfl⟩
instance zer191:Zer Tryz.prog 191 ([.int .i64 0,.int .i64 0,.int .u64 0,.int .i64 0]):=⟨by kernel_rfl⟩
instance plc31:Plc Tryz.prog 31 [(0,1),(1,1),(2,1)]:=⟨⟨_,Tryz.underlying31,fun _=>by kernel_rfl⟩⟩
instance plc191:Plc Tryz.prog 191 [(0,3),(3,1)]:=⟨⟨_,Tryz.underlying191,fun _=>by kernel_rfl⟩⟩
instance ent110:Ent Tryz.prog 110:=⟨fun _ _=>by kernel_rfl⟩
instance ent150:Ent Tryz.prog 150:=⟨fun _ _=>by kernel_rfl⟩
theorem Aqk {s:Sl By} {T:TypeId} (hs:s.list.length=17):Does Tryz.prog 150 [s.val] (s.hp T++[]) (Is (.tuple #[.agg (vwC (Au9 s.list)).toArray,.bool true]) (s.hp T++[])):=by
 have hsm:s.list.length≤70000000000000:=by omega
 refine zF 24 Tryz.func150 ?_
 refine zC ?_
 refine Aj rfl (fun b2=> ?_)
 refine zC ?_
 refine zE rfl (Fk (s:=s) (T:=T) hsm) ?_
 rintro _ _ ⟨r,rfl,rfl,hr1,hr2⟩
 refine zW ?_
 refine Ci rfl (Fl (r:=r) (n:=8) (by rw [hr1];exact hsm)) sP rfl (fun v8 Y8 h8=> ?_)
 obtain ⟨x1,sl1,bad1,rfl,rfl,hx1,hl1,hb1⟩:=h8
 rw [hr1,show A8 8 8=8 from rfl] at hx1 hl1 hb1
 unfold C2 at hx1 hl1 hb1
 rw [if_neg (by omega)] at hx1 hl1 hb1
 simp only at hx1 hl1 hb1
 refine A5 aQ ?_
 refine zC ?_
 refine Ci rfl (Fl (r:=⟨r.b,sl1,bad1⟩) (n:=1) (by simp only;rw [hl1,A3w];omega)) sP rfl (fun v10 Y10 h10=> ?_)
 obtain ⟨x2,sl2,bad2,rfl,rfl,hx2,hl2,hb2⟩:=h10
 simp only at hx2 hl2 hb2
 rw [hl1,show A8 1 8=1 from rfl] at hx2 hl2 hb2
 unfold C2 at hx2 hl2 hb2
 rw [if_neg (by rw [A3w];omega)] at hx2 hl2 hb2
 simp only [A4s] at hx2 hl2 hb2
 have hv1:=Aim (s.list.drop 8)
 rw [← hx2] at hv1
 refine A5 aQ ?_
 refine Ah (show Rd _ _ _ _ (.int .i64 (x2.toNat:Int)) from Gp (Cz (by omega)) rfl) rfl ?_
 refine zC ?_
 refine Ci rfl (Fl (r:=⟨r.b,sl2,bad2⟩) (n:=8) (by simp only;rw [hl2,A3w];omega)) sP rfl (fun v13 Y13 h13=> ?_)
 obtain ⟨x3,sl3,bad3,rfl,rfl,hx3,hl3,hb3⟩:=h13
 simp only at hx3 hl3 hb3
 rw [hl2,show A8 8 8=8 from rfl] at hx3 hl3 hb3
 unfold C2 at hx3 hl3 hb3
 rw [if_neg (by rw [A3w];omega)] at hx3 hl3 hb3
 simp only [A4s] at hx3 hl3 hb3
 have hb:bad3=false:=(by rw [hb3,hb2,hb1,hr2])
 have hl0:sl3.list.length=0:=(by rw [hl3,A3w];omega)
 refine A5 aQ ?_
 refine zC ?_
 refine Mn [1] [[(0,false),(2,true),(3,false),(4,false),(5,false),(6,true),(7,false),(8,false),(9,true)],[(10,false)]] (by kernel_rfl) ?_
 refine zC ?_
 refine zI rfl (Aib (r:=⟨r.b,sl3,bad3⟩)) ?_
 refine zA ?_
 refine Aq (D6 rfl) ?_
 refine sa ?_
 refine' Jz rfl rfl inferInstance rfl rfl rfl rfl rfl (fun hg19=> ?_) ?_
 rotate_left
 ·try (simp at hg19;show _)
  refine zC ?_
  refine zI rfl (Tp (r:=⟨r.b,sl3,bad3⟩)) ?_
  refine zC ?_
  exact Hu rfl sP
 refine zC ?_
 refine Ak (Cu Tryz.results150 (Bc rfl mM rfl) (Af rfl)) ?_ sP
 unfold Au9;rw [← hx1,← hx2,← hx3,hb,hl0];rfl
structure Fd where
 en:En
 key:Int
def fdC (f:Fd):List Value:=[.int .i64 f.en.at'.1,.int .i64 f.en.at'.2,wv f.en.ep,.int .i64 f.key]
instance:Cel Fd:=⟨4,fdC,fun _=>rfl,fun _=>rfl⟩
abbrev tFd:TypeId:=191
def fd0:Fd:=⟨Azv,0⟩
def tkS (S:Sto) (x:Pl2):Rc→Sto
 | .nd _ e _=>{ S with seen:=Jg S.seen e }
 | .cm c=>if decide ((c.ep.toNat:Int)≥(S.last.ep.toNat:Int))=true then { S with last:=c,la:=x } else S
 | .vw v=>if (!S.viewed || decide ((v.num.toNat:Int)≥(S.vw.num.toNat:Int)))=true then { S with vw:=vwM v,va:=x,viewed:=true } else S
def tkF (x:Pl2):Rc→Option Fd
 | .nd k e _=>some ⟨⟨x,e⟩,k⟩
 | _=>none
def fdO:Option Fd→Fd
 | some f=>f
 | none=>fd0
section
variable {S:Sto} {x:Pl2} {s:Sl By}
theorem Aux {k:Int} {e:Wd} {b:List By} (h:Bh k b=true) (hs:s.list=Ez k e b):Does Tryz.prog 110 [ptr S.st,.agg #[.int .i64 x.1,.int .i64 x.2],bv 10,s.val] ((S.st,true,C (stC S) tSt)::(s.hp tU8++[]))
  (Is (.tuple #[.agg (fdC ⟨⟨x,e⟩,k⟩).toArray,.bool true]) ((S.st,true,C (stC { S with seen:=Jg S.seen e }) tSt)::(s.hp tU8++[]))):=by
 obtain ⟨hn1,hn2,hn3,hn4,hn5⟩:=Kv (e:=e) h
 refine Dw (n:=107) Tryz.func110 Tryz.ntmps110 rfl (A13 rfl)<|Ag<|Aa fun ops=> ?_
 refine Dj rfl rfl fun b5=> ?_
 refine Aj rfl fun b8=> ?_
 refine oA rfl<|Ad<|n_K<|Ag<|Ag<|Aa fun ops=>oM rfl<|Ad<|n_K<|Bf<|Ag<|Aa fun ops=>oR (An rfl rfl rfl)<|oA rfl ?_
 refine Ad<|n_K ?_
 refine Gb rfl ?_
 refine Ag<|Aa fun ops=>oM rfl ?_
 refine Ci rfl (Adx (s:=s) (T:=tU8)) sP rfl fun v21 Y21 h21=> ?_
 rw [hs] at h21
 obtain ⟨_,b21,rfl,rfl,hl21,ho21⟩:=h21.resolve_left (fun h9=>by rw [hn1] at h9;exact absurd h9.1 (by decide))
 rw [hn2,hn3]
 refine A5 aQ ?_
 refine oM rfl<|oE rfl rfl<|oE rfl rfl ?_
 refine Aj rfl fun b10=> ?_
 refine Ac rfl rfl uD rfl rfl rfl ?_
 refine oA rfl<|Ad<|n_K<|Ag ?_
 refine D7 [] [(10,[(0,false),(1,false),(2,false),(3,false),(4,false),(5,false),(6,false),(7,false),(8,false),(9,false)]),(11,[(10,true)])] (by kernel_rfl) rfl fun ops w0 H0 y=> ?_
 refine Ce<|xM rfl<|xM rfl<|xN rfl<|xF rfl ?_
 refine xR (show Rd _ _ _ _ (wv S.seen) from Al rfl mM (J2 (S:=S) (o:=8) rfl)) ?_
 refine xF rfl ?_
 refine xR (Al rfl mM rfl) ?_
 refine xR (O3 rfl rfl)<|xN rfl<|xF rfl<|As<|Dx<|B1 ?_
 refine Ac (cs':=stC { S with seen:=Jg S.seen e }) rfl rfl uD rfl rfl (Dq (S:=S) rfl rfl) ?_
 refine Ad ⟨rfl,⟨_,sP⟩,?_⟩
 refine As<|Eh<|n_K<|Ag<|Aa fun ops=> ?_
 refine oR (Am rfl mM rfl) ?_
 refine oF rfl ?_
 refine oR (Al rfl mM rfl) ?_
 refine oR (Bl rfl rfl)<|oF rfl ?_
 refine oR (Al rfl mM rfl) ?_
 refine oR (Bl rfl rfl)<|oM rfl<|oR (An rfl rfl rfl) ?_
 refine Ac rfl rfl uD rfl rfl rfl ?_
 refine oA rfl<|Ad<|n_K<|D3<|Ig<|r_K ?_
 refine Ak (Cu Tryz.results110 (Bc rfl mM rfl) (Af rfl)) ?_ sP
 rfl
theorem Auy {c:Cm} (hs:s.list=Ge c):Does Tryz.prog 110 [ptr S.st,.agg #[.int .i64 x.1,.int .i64 x.2],bv 11,s.val] ((S.st,true,C (stC S) tSt)::(s.hp tU8++[]))
  (Is (.tuple #[.agg (fdC fd0).toArray,.bool false]) ((S.st,true,C (stC (if decide ((c.ep.toNat:Int)≥(S.last.ep.toNat:Int))=true then { S with last:=c,la:=x } else S)) tSt)::(s.hp tU8++[]))):=by
 have hl44:s.list.length=44:=by rw [hs,Js]
 refine Dw (n:=107) Tryz.func110 Tryz.ntmps110 rfl (A13 rfl)<|Ag<|Aa fun ops=> ?_
 refine Dj rfl rfl fun b5=> ?_
 refine Aj rfl fun b8=> ?_
 refine oA rfl<|Ad<|n_K<|Ag<|Ag<|Aa fun ops=>oM rfl<|Ad<|n_K<|Bf<|Ag<|Aa fun ops=>oR (An rfl rfl rfl)<|oA rfl ?_
 refine Ad<|n_K ?_
 refine Ay rfl ?_
 refine Ag<|Aa fun ops=>oR (An rfl rfl rfl)<|oA rfl<|Ad<|n_K ?_
 refine Gb rfl ?_
 refine Ag<|Aa fun ops=>oM rfl ?_
 refine Ci rfl (Apm (s:=s) (T:=tU8)) sP rfl fun v47 Y47 h47=> ?_
 obtain ⟨_,rfl,rfl⟩:=h47.resolve_left (fun h9=>h9.1 hl44)
 rw [hs,R4]
 refine A5 aQ ?_
 refine oM rfl<|oE rfl rfl<|oE rfl rfl ?_
 refine Aj rfl fun b12=> ?_
 rw [show ([Value.int .u64 0]++List.replicate 32 (Value.int .u8 0)++[Value.int .u32 0])=cmC cm0 from Aak]
 first | refine Ac rfl rfl uD (My) (Bu) (Rq (by first | exact Bu | exact A1y ..)) ?_ | refine Ac rfl rfl uD rfl rfl rfl ?_
 refine oA rfl<|Ad<|n_K<|Ag ?_
 refine D7 [(2,52)] [(12,[(0,false),(1,false),(2,false),(3,false),(4,false),(5,false),(6,false),(7,false),(8,false),(9,false),(10,false),(11,false)])] (by kernel_rfl) rfl fun ops w0 H0 y=> ?_
 refine Ce<|xM rfl<|xR (An rfl rfl rfl)<|xM rfl ?_
 refine' U2 (j:=2) (k:=8) y rfl rfl rfl rfl rfl rfl rfl (fun hg52=> ?_) ?_
 rotate_left
 ·try (simp at hg52;show _)
  refine x_g y rfl rfl ?_
  refine xF rfl ?_
  refine x_g y rfl rfl ?_
  refine xR (Al rfl mM rfl) ?_
  refine x_g y rfl rfl ?_
  refine xM rfl ?_
  refine x_g y rfl rfl ?_
  refine xN rfl ?_
  refine x_g y rfl rfl ?_
  refine xF rfl ?_
  refine x_g y rfl rfl ?_
  refine xF rfl ?_
  refine x_g y rfl rfl ?_
  refine xR (Al rfl mM rfl) ?_
  refine x_g y rfl rfl ?_
  refine xR (An rfl rfl rfl) ?_
  exact As ⟨rfl,⟨_,sP⟩⟩
 refine As<|Eh<|n_K ?_
 refine Ae rfl (fun c61=> ?_) (fun c61=> ?_)
 ·skip
  have h61:decide ((c.ep.toNat:Int)≥(S.last.ep.toNat:Int))=true:=c61
  refine Pf [] [0,1] [[(2,false),(3,false),(4,false),(5,false),(6,true)],[(7,false)],[(8,false)],[(9,true)]] (by kernel_rfl) rfl rfl fun ops w0 H0 y=> ?_
  unfold Afh
  refine xM rfl<|xM rfl<|As ?_
  refine An8 [(b12,true,C (cmC c) tCm),(b5,true,C [.int .i64 x.1,.int .i64 x.2] tPc)] sP ?_
  refine xR (Am rfl mM (by first | exact J1 | rfl)) ?_
  refine xR (Am rfl mM rfl) ?_
  refine xN rfl<|xF rfl<|B1 ?_
  first | refine Ac (cs':=stC { S with last:=c }) rfl rfl uD (My) (Bu) (Mz S c) ?_ | refine Ac (cs':=stC { S with last:=c,la:=x }) rfl rfl uD rfl rfl (Dq (S:={ S with last:=c }) rfl rfl) ?_
  refine Ad ⟨rfl,⟨_,sP⟩,?_⟩
  refine As<|Ce<|xN rfl<|As<|Ce<|xF rfl<|As<|Dx<|B1 ?_
  first | refine Ac (cs':=stC { S with last:=c }) rfl rfl uD (My) (Bu) (Mz S c) ?_ | refine Ac (cs':=stC { S with last:=c,la:=x }) rfl rfl uD rfl rfl (Dq (S:={ S with last:=c }) rfl rfl) ?_
  refine Ad ⟨rfl,⟨_,sP⟩,?_⟩
  refine As<|Eh<|Cq<|n_K<|Ag<|Aa fun ops=>oR (Bl rfl rfl) ?_
  refine Ac rfl rfl uD rfl rfl rfl ?_
  refine oA rfl<|Ad<|n_K<|D3 ?_
  refine Ak (Cu Tryz.results110 (Bc rfl mM rfl) (Af rfl)) ?_ (by rw [if_pos h61];exact sP)
  rfl
 ·skip
  have h61:decide ((c.ep.toNat:Int)≥(S.last.ep.toNat:Int))=false:=c61
  refine Bd<|Cq<|n_K<|Ag<|Aa fun ops=>oR (Bl rfl rfl) ?_
  refine Ac rfl rfl uD rfl rfl rfl ?_
  refine oA rfl<|Ad<|n_K<|D3 ?_
  refine Ak (Cu Tryz.results110 (Bc rfl mM rfl) (Af rfl)) ?_ (by rw [if_neg (by rw [h61];decide)];exact sP)
  rfl
theorem Auz {v:Vw} (hs:s.list=Nz v):Does Tryz.prog 110 [ptr S.st,.agg #[.int .i64 x.1,.int .i64 x.2],bv 12,s.val] ((S.st,true,C (stC S) tSt)::(s.hp tU8++[]))
  (Is (.tuple #[.agg (fdC fd0).toArray,.bool false]) ((S.st,true,C (stC (if (!S.viewed || decide ((v.num.toNat:Int)≥(S.vw.num.toNat:Int)))=true then { S with vw:=vwM v,va:=x,viewed:=true } else S)) tSt)::(s.hp tU8++[]))):=by
 have hl17:s.list.length=17:=by rw [hs,Yr]
 refine Dw (n:=107) Tryz.func110 Tryz.ntmps110 rfl (A13 rfl)<|Ag<|Aa fun ops=> ?_
 refine Dj rfl rfl fun b5=> ?_
 refine Aj rfl fun b8=> ?_
 refine oA rfl<|Ad<|n_K<|Ag<|Ag<|Aa fun ops=>oM rfl<|Ad<|n_K<|Bf<|Ag<|Aa fun ops=>oR (An rfl rfl rfl)<|oA rfl ?_
 refine Ad<|n_K ?_
 refine Ay rfl ?_
 refine Ag<|Aa fun ops=>oR (An rfl rfl rfl)<|oA rfl<|Ad<|n_K ?_
 refine Ay rfl ?_
 refine Ag<|Aa fun ops=>oR (An rfl rfl rfl)<|oA rfl<|Ad<|n_K ?_
 refine Gb rfl ?_
 refine Ag<|Aa fun ops=>oM rfl ?_
 refine Jv rfl ((Aqk (s:=s) (T:=tU8) hl17).to (by rw [hs,Aa4]) rfl) sP rfl aQ ?_
 refine oM rfl<|oE rfl rfl<|oE rfl rfl ?_
 refine Aj rfl fun b14=> ?_
 refine Ac rfl rfl uD rfl rfl rfl ?_
 refine oA rfl<|Ad<|n_K<|Ag ?_
 refine D7 [(1,78),(7,84)] [(18,[(0,false),(1,false),(2,false),(3,false),(4,false),(5,false),(6,false),(7,false),(8,false),(9,false),(10,false),(11,false),(12,false),(13,false),(14,false),(15,false),(16,false),(17,false)])] (by kernel_rfl) rfl fun ops w0 H0 y=> ?_
 refine Ce<|xM rfl<|xM rfl ?_
 refine' U2 (j:=1) (k:=15) y rfl rfl rfl rfl rfl rfl rfl (fun hg78=> ?_) ?_
 rotate_left
 ·try (simp at hg78;show _)
  refine x_g y rfl rfl ?_
  refine xM rfl ?_
  refine x_g y rfl rfl ?_
  refine xN rfl ?_
  refine x_g y rfl rfl ?_
  refine xF rfl ?_
  refine x_g y rfl rfl ?_
  refine xR (Al rfl mM (J2 rfl)) ?_
  refine x_g y rfl rfl ?_
  refine xR (D6 rfl) ?_
  refine x_g y rfl rfl ?_
  refine xM rfl ?_
  refine' Ake (j:=7) (k:=8) y rfl rfl rfl rfl rfl rfl rfl (fun hg84=> ?_) ?_
  rotate_left
  ·try (simp at hg84;show _)
   refine x_g y rfl rfl ?_
   refine xF rfl ?_
   refine x_g y rfl rfl ?_
   refine xR (show Rd _ _ _ _ (wv v.num) from Al rfl mM rfl) ?_
   refine x_g y rfl rfl ?_
   refine xM rfl ?_
   refine x_g y rfl rfl ?_
   refine xN rfl ?_
   refine x_g y rfl rfl ?_
   refine xF rfl ?_
   refine x_g y rfl rfl ?_
   refine xF rfl ?_
   refine x_g y rfl rfl ?_
   refine xR (show Rd _ _ _ _ (wv S.vw.num) from Al rfl mM (J2 (S:=S) (o:=2) rfl)) ?_
   refine x_g y rfl rfl ?_
   refine xR (An rfl rfl rfl) ?_
   exact As ⟨rfl,⟨_,sP⟩⟩
  exact As ⟨rfl,⟨_,sP⟩⟩
 refine As<|Eh<|n_K ?_
 refine Ae rfl (fun c94=> ?_) (fun c94=> ?_)
 ·skip
  have h94:(!S.viewed || decide ((v.num.toNat:Int)≥(S.vw.num.toNat:Int)))=true:=c94
  refine Pf [] [0,1,2] [[(3,false),(4,false),(5,false),(6,false),(7,true)],[(8,false)],[(9,false)],[(10,true)],[(11,false)],[(12,false)],[(13,true)]] (by kernel_rfl) rfl rfl fun ops w0 H0 y=> ?_
  unfold Afh
  refine xM rfl<|xM rfl<|xM rfl<|As ?_
  refine An8 [(b14,true,C (vwC (vwM v)) tVw),(b5,true,C [.int .i64 x.1,.int .i64 x.2] tPc)] sP ?_
  refine xR (Am rfl mM rfl) ?_
  refine xR (Am rfl mM rfl) ?_
  refine xN rfl<|xF rfl<|B1 ?_
  first | refine Ac (cs':=stC { S with vw:=vwM v }) rfl rfl uD rfl rfl (Dq (S:=S) (o:=2) rfl rfl) ?_ | refine Ac (cs':=stC { S with vw:=vwM v,va:=x }) rfl rfl uD rfl rfl (Dq (S:={ S with vw:=vwM v }) (o:=5) rfl rfl) ?_ | refine Ac (cs':=stC { S with vw:=vwM v,va:=x,viewed:=true }) rfl rfl uD rfl rfl (Dq (S:={ S with vw:=vwM v,va:=x }) (o:=7) rfl rfl) ?_
  refine Ad ⟨rfl,⟨_,sP⟩,?_⟩
  refine As<|Ce<|xN rfl<|As<|Ce<|xF rfl<|As<|Dx<|B1 ?_
  first | refine Ac (cs':=stC { S with vw:=vwM v }) rfl rfl uD rfl rfl (Dq (S:=S) (o:=2) rfl rfl) ?_ | refine Ac (cs':=stC { S with vw:=vwM v,va:=x }) rfl rfl uD rfl rfl (Dq (S:={ S with vw:=vwM v }) (o:=5) rfl rfl) ?_ | refine Ac (cs':=stC { S with vw:=vwM v,va:=x,viewed:=true }) rfl rfl uD rfl rfl (Dq (S:={ S with vw:=vwM v,va:=x }) (o:=7) rfl rfl) ?_
  refine Ad ⟨rfl,⟨_,sP⟩,?_⟩
  refine As<|Ce<|xN rfl<|As<|Ce<|xF rfl<|As<|Dx<|B1 ?_
  first | refine Ac (cs':=stC { S with vw:=vwM v }) rfl rfl uD rfl rfl (Dq (S:=S) (o:=2) rfl rfl) ?_ | refine Ac (cs':=stC { S with vw:=vwM v,va:=x }) rfl rfl uD rfl rfl (Dq (S:={ S with vw:=vwM v }) (o:=5) rfl rfl) ?_ | refine Ac (cs':=stC { S with vw:=vwM v,va:=x,viewed:=true }) rfl rfl uD rfl rfl (Dq (S:={ S with vw:=vwM v,va:=x }) (o:=7) rfl rfl) ?_
  refine Ad ⟨rfl,⟨_,sP⟩,?_⟩
  refine As<|Eh<|Cq<|n_K<|Ag<|Aa fun ops=>oR (Bl rfl rfl) ?_
  refine Ac rfl rfl uD rfl rfl rfl ?_
  refine oA rfl<|Ad<|n_K<|D3 ?_
  refine Ak (Cu Tryz.results110 (Bc rfl mM rfl) (Af rfl)) ?_ (by rw [if_pos h94];exact sP)
  rfl
 ·skip
  have h94:(!S.viewed || decide ((v.num.toNat:Int)≥(S.vw.num.toNat:Int)))=false:=c94
  refine Bd<|Cq<|n_K<|Ag<|Aa fun ops=>oR (Bl rfl rfl) ?_
  refine Ac rfl rfl uD rfl rfl rfl ?_
  refine oA rfl<|Ad<|n_K<|D3 ?_
  refine Ak (Cu Tryz.results110 (Bc rfl mM rfl) (Af rfl)) ?_ (by rw [if_neg (by rw [h94];decide)];exact sP)
  rfl
theorem Au0 {r:Rc} (hr:r.ok) (hs:s.list=r.body):Does Tryz.prog 110 [ptr S.st,.agg #[.int .i64 x.1,.int .i64 x.2],bv r.kind,s.val] ((S.st,true,C (stC S) tSt)::(s.hp tU8++[]))
  (Is (.tuple #[.agg (fdC (fdO (tkF x r))).toArray,.bool (tkF x r).isSome]) ((S.st,true,C (stC (tkS S x r)) tSt)::(s.hp tU8++[]))):=by
 cases r with
 | nd k e b=>exact Aux hr hs
 | cm c=>exact Auy hs
 | vw v=>exact Auz hs
end
end
end Go.Proofs.YtpmojdippdlcaaaGreatDoor
