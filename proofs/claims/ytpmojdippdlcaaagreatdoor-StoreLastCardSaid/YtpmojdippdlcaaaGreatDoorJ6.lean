/- For every input, what is said of the program's store holds: its nodes, its last commit; the conditions are the statement's own: part 6. -/
import Derived.Test.YtpmojdippdlcaaaGreatDoorJ4
import Derived.Test.YtpmojdippdlcaaaGreatDoorJ5
import Derived.Test.YtpmojdippdlcaaaGreatDoorJ1
import Derived.Test.YtpmojdippdlcaaaGreatDoorRows
import Derived.Test.YtpmojdippdlcaaaGreatDoorCards
import Derived.Test.YtpmojdippdlcaaaGreatDoorTie
import Derived.ChangeSame
import Derived.LaidLaws
import Derived.Handed
set_option linter.unusedVariables false
set_option linter.unusedSimpArgs false
set_option maxRecDepth 100000
set_option maxHeartbeats 1000000
set_option synthInstance.maxSize 4000
set_option synthInstance.maxHeartbeats 400000
namespace Go.Proofs.YtpmojdippdlcaaaGreatDoor
section
open Go.K
instance und189:Und Tryz.prog 189 (.slice 191):=⟨Tryz.underlying189⟩
instance fld191_0:Fld Tryz.prog 191 0 0:=⟨⟨_,_,2,Tryz.underlying191,rfl,by kernel_rfl,rfl⟩⟩
instance fld191_1:Fld Tryz.prog 191 1 3:=⟨⟨_,_,0,Tryz.underlying191,rfl,by kernel_rfl,rfl⟩⟩
instance byt191:Byt Tryz.prog 191 32:=⟨by kernel_rfl⟩
instance ent26:Ent Tryz.prog 26:=⟨fun _ _=>by kernel_rfl⟩
instance ent67:Ent Tryz.prog 67:=⟨fun _ _=>by kernel_rfl⟩
theorem Ax8 (S:Sto):nth (stC S) 37=some (uv S.last.sum):=by
 rw [Dp]
 show (ptr S.lg:: .map (some S.ib):: .map (some S.pb):: .map (some S.sb)::(cmC S.last++stT S))[33+4]? =_
 simp only [A1h]
 rw [A07 (by rw [Bu];omega),← Dp]
 exact Ail _
def tks (rc:Pl2→Rc) (S:Sto) (xs:List Pl2):Sto:=xs.foldl (fun S x=>tkS S x (rc x)) S
def tkl (rc:Pl2→Rc) (xs:List Pl2):List Fd:=xs.filterMap fun x=>tkF x (rc x)
theorem Ad9 (rc:Pl2→Rc) (S:Sto) (xs:List Pl2) (x:Pl2):tks rc S (xs++[x])=tkS (tks rc S xs) x (rc x):=by unfold tks;rw [A28];rfl
theorem Aql (rc:Pl2→Rc) (xs:List Pl2) (x:Pl2):tkl rc (xs++[x])=tkl rc xs++(tkF x (rc x)).toList:=by
 unfold tkl
 rw [List.filterMap_append]
 cases h:tkF x (rc x) <;> simp [h]
structure SameI (S S':Sto):Prop where
 st:S'.st=S.st
 lg:S'.lg=S.lg
 ib:S'.ib=S.ib
 pb:S'.pb=S.pb
 sb:S'.sb=S.sb
 idx:S'.idx=S.idx
 pend:S'.pend=S.pend
 stray:S'.stray=S.stray
 hurt:S'.hurt=S.hurt
theorem Aqm (S:Sto) (x:Pl2) (c:Cm):tkS S x (.cm c)=if decide ((c.ep.toNat:Int)≥(S.last.ep.toNat:Int))=true then { S with last:=c,la:=x } else S:=rfl
theorem Aqn (S:Sto) (x:Pl2) (v:Vw):tkS S x (.vw v)=if (!S.viewed || decide ((v.num.toNat:Int)≥(S.vw.num.toNat:Int)))=true then { S with vw:=vwM v,va:=x,viewed:=true } else S:=rfl
theorem Aea (S:Sto) (x:Pl2) (r:Rc):SameI S (tkS S x r):=by
 cases r with
 | nd k e b=>exact ⟨rfl,rfl,rfl,rfl,rfl,rfl,rfl,rfl,rfl⟩
 | cm c =>
  rw [Aqm]
  by_cases h:decide ((c.ep.toNat:Int)≥(S.last.ep.toNat:Int))=true
  ·rw [if_pos h];exact ⟨rfl,rfl,rfl,rfl,rfl,rfl,rfl,rfl,rfl⟩
  ·rw [if_neg h];exact ⟨rfl,rfl,rfl,rfl,rfl,rfl,rfl,rfl,rfl⟩
 | vw v =>
  rw [Aqn]
  by_cases h:(!S.viewed || decide ((v.num.toNat:Int)≥(S.vw.num.toNat:Int)))=true
  ·rw [if_pos h];exact ⟨rfl,rfl,rfl,rfl,rfl,rfl,rfl,rfl,rfl⟩
  ·rw [if_neg h];exact ⟨rfl,rfl,rfl,rfl,rfl,rfl,rfl,rfl,rfl⟩
theorem SameI.trans {S S' S'':Sto} (h:SameI S S') (k:SameI S' S''):SameI S S'' :=
 ⟨k.st.trans h.st,k.lg.trans h.lg,k.ib.trans h.ib,k.pb.trans h.pb,k.sb.trans h.sb,k.idx.trans h.idx,k.pend.trans h.pend,k.stray.trans h.stray,k.hurt.trans h.hurt⟩
def opf (S:Sto) (m:Mp En×Mp Int) (f:Fd):Mp En×Mp Int :=
 if decide ((f.en.ep.toNat:Int)>(S.last.ep.toNat:Int))=true then (m.1,m.2.put f.key 1)
 else if (Bj S.last.lv f.key && (!(m.1.get f.key).isSome || decide ((f.en.ep.toNat:Int)≥((Ru m.1 f.key).ep.toNat:Int))))=true then (m.1.put f.key f.en,m.2) else m
def Vy (S:Sto) (fs:List Fd):Mp En×Mp Int:=fs.foldl (opf S) (Mp.nil,Mp.nil)
def Aeb (rc:Pl2→Rc) (S0:Sto) (xs:List Pl2):Sto :=
 { tks rc S0 xs with idx:=(Vy (tks rc S0 xs) (tkl rc xs)).1,stray:=(Vy (tks rc S0 xs) (tkl rc xs)).2,seen:=Jg (tks rc S0 xs).seen (tks rc S0 xs).last.ep,hurt:= !decide (((L6 (Vy (tks rc S0 xs) (tkl rc xs)).1).toNat:Int)=((tks rc S0 xs).last.sum.toNat:Int)) || !decide (((Vy (tks rc S0 xs) (tkl rc xs)).1.es.length:Int)=((Db (tks rc S0 xs).last.lv 256).length:Int)) }
theorem Aqo {S:Sto} {m:Mp En×Mp Int} {f:Fd} (h:∀ k,(m.1.get k).isSome=true→Bj S.last.lv k=true):∀ k,((opf S m f).1.get k).isSome=true→Bj S.last.lv k=true:=fun k hk=>by
 unfold opf at hk
 split at hk
 ·exact h k hk
 split at hk
 ·rename_i hc
  simp only [A3n] at hc
  simp only at hk
  rw [Mp.get_put] at hk
  split at hk
  ·rename_i e;rw [e];exact hc.1
  ·exact h k hk
 ·exact h k hk
theorem Aqp {l:Lv} {m:Mp En} (h:∀ k,(m.get k).isSome=true→Bj l k=true):m.es.length≤256:=by
 rw [← Mp.keys_len]
 have:m.keys.length≤(Db l 256).length:=Hx m.keys_nodup fun k hk=>keysL_mem.2 (h k (Mp.get_some.2 hk))
 have:=Hm l 256
 omega
def G0 (ss:List Seg):List Pl2:=ss.flatMap fun g=>g.recs.list
theorem Oo {ss:List Seg} {i:Nat} {g:Seg} (h:ss[i]? =some g):G0 (ss.take (i+1))=G0 (ss.take i)++g.recs.list:=by
 unfold G0
 rw [A3g,h,A2j]
 simp
theorem Rw {z:Sg} {ss:List Seg} {n k:Nat} {q:Qt} {V:Nat→Blk} (hZ:LZ n z.L.nb k q z.L.d z.L.bs z.L.last V z.R) (hS:SegsOf z ss):∀ i,i≤ss.length→(G0 (ss.take i)).length≤6*i
 | 0,_=>A5s _
 | i+1,h=>by
  have ih:=Rw hZ hS i (by omega)
  have hg:ss[i]? =some ss[i]:=A1d (by omega)
  obtain ⟨b,hb,_,_,_,_,hr⟩:=hS.mem (A2a hg)
  rw [Oo hg,A2x,hr]
  have:=hZ.rlen hb
  omega
theorem Aix (rc:Pl2→Rc) (xs:List Pl2):(tkl rc xs).length≤xs.length:=List.length_filterMap_le _ _
theorem Vz (rc:Pl2→Rc):∀ (xs:List Pl2) (S:Sto),SameI S (tks rc S xs)
 | [],S=>⟨rfl,rfl,rfl,rfl,rfl,rfl,rfl,rfl,rfl⟩
 | x::xs,S=>(Aea S x (rc x)).trans (Vz rc xs (tkS S x (rc x)))
section
variable {d:Dsk} {t2:TS} {n nb k:Nat} {q:Qt} {V:Nat→Blk} {sq:Nat→Wd} {R:Nat→List Pg} {rc:Pl2→Rc}
theorem Az0 {S:Sto} {st ib pb sb:Nat} {p:Mp En} (h1:S.st=st) (h2:S.ib=ib) (h3:S.pb=pb) (h4:S.sb=sb) (h5:S.pend=p) (D:Hp) :
  (st,true,C (stC S) tSt)::(ib,true,S.idx.obj .i64)::(pb,true,p.obj .i64)::(sb,true,S.stray.obj .i64)::D=(S.st,true,C (stC S) tSt)::(S.ib,true,S.idx.obj .i64)::(S.pb,true,S.pend.obj .i64)::(S.sb,true,S.stray.obj .i64)::D:=by
 subst h1 h2 h3 h4 h5;rfl
theorem Au1 {S:Sto} {a:Nat} {x:Pl2} {s:Sl By} {r:Rc} (ha:S.st=a) (hr:r.ok) (hs:s.list=r.body):Does Tryz.prog 110 [ptr a,.agg #[.int .i64 x.1,.int .i64 x.2],bv r.kind,s.val] ((a,true,C (stC S) tSt)::(s.hp tU8++[]))
  (Is (.tuple #[.agg (fdC (fdO (tkF x r))).toArray,.bool (tkF x r).isSome]) ((a,true,C (stC (tkS S x r)) tSt)::(s.hp tU8++[]))):=by
 subst ha
 exact Au0 hr hs
theorem Aqq (h:DD d n k V) (hnb:nb+6=n):Does Tryz.prog 109 [ptr d.dk] (dkH d)
  (fun v H=>∃ L:Lg,v= .tuple #[ptr L.lg,.int .i64 0]∧H=lgH L++[]∧L.nb=nb∧L.d=d∧L.bs=(D2 V nb).1∧L.last=(D2 V nb).2):=by
 refine (Ab0 h hnb).mono fun v H ⟨lg,bb,h1,h2⟩=> ?_
 refine ⟨⟨lg,bb,nb,(D2 V nb).2,(D2 V nb).1,d⟩,h1,?_,rfl,rfl,rfl,rfl⟩
 rw [h2,Fc]
 simp
theorem Aqr (hb:2≤d.c.blocks.length∧d.c.blocks.length≤1000) (ho:Dk d.c=(0,t2)) (hv:DV d.c t2 n k V) (ha:Acc q d.c t2) (hn:nb+6=n) (hC:LogC nb k V sq R) (h12:nb≤B6 (D2 V nb).1 nb+40)
  (hrc:∀ (b j:Nat) (p:Pg),b<nb→(R b)[j]? =some p→(Ee p).2.2.2=0→(rc ((b:Int),((2+j:Nat):Int))).ok∧p=(rc ((b:Int),((2+j:Nat):Int))).pg) :
  Does Tryz.prog 67 [ptr d.c.aC] (dkH d)
  (fun v H=>∃ z:Sg,v= .tuple #[ptr z.S.st,.int .i64 0]∧H=(z.S.st,true,C (stC z.S) tSt)::(z.S.ib,true,z.S.idx.obj .i64)::(z.S.pb,true,z.S.pend.obj .i64)::(z.S.sb,true,z.S.stray.obj .i64)::(lgH z.L++[])∧WI n k q z∧z.R=R∧z.L.nb=nb∧z.L.d.c=d.c∧(∀ j<nb,(bAt z.L.bs j).seq=sq j) ∧
   ∃ (ss:List Seg) (st lg ib pb sb:Nat),SegsOf z ss∧z.S=Aeb rc (J4 st lg ib pb sb) (G0 ss)):=by
 obtain ⟨hO,hOs⟩:=hC.opened
 have hn40:=hv.di.wf.n2
 refine Dw (n:=191) Tryz.func67 Tryz.ntmps67 rfl (A13 rfl)<|Ag<|Aa fun ops=>oA rfl<|oA rfl<|Ad<|n_K<|Ag<|Aa fun ops=>oM rfl ?_
 refine Ci rfl (Ar6 (d:=d) hb ho) sP rfl fun v25 Y25 h25=> ?_
 obtain ⟨dk,tb,rfl,rfl,htb⟩:=h25
 refine A5 aQ ?_
 refine oM rfl<|oE rfl rfl<|oE rfl rfl<|oA rfl<|oA rfl<|Ad<|n_K<|Ag<|Ag<|Aa fun ops=>oM rfl<|oR (An rfl rfl rfl)<|Ad<|n_K ?_
 refine Ay rfl ?_
 refine Bd<|n_K<|Ag<|Aa fun ops=>oM rfl ?_
 refine Ci rfl (Aqq (d:=⟨dk,tb,d.c⟩) (nb:=nb) (V:=V) (n:=n) (k:=k) (by show DV d.c tb.ts n k V;rw [htb];exact hv) hn) sP rfl fun v33 Y33 h33=> ?_
 obtain ⟨L,rfl,rfl,hLn,hLd,hLb,hLl⟩:=h33
 refine A5 aQ ?_
 refine oM rfl<|oE rfl rfl<|oE rfl rfl<|oA rfl<|oA rfl<|Ad<|n_K<|Ag<|Ag<|Aa fun ops=>oM rfl<|oR (An rfl rfl rfl)<|Ad<|n_K ?_
 refine Ay rfl ?_
 refine Bd<|n_K<|Ag<|Aa fun ops=>oM rfl ?_
 have hZ:LZ n L.nb k q L.d L.bs L.last V R:=(by rw [hLn,hLd,hLb,hLl];exact ⟨hn,by show DV d.c tb.ts n k V;rw [htb];exact hv,by show Acc q d.c tb.ts;rw [htb];exact ha,hO⟩)
 have h12':L.nb≤B6 L.bs L.nb+40:=(by rw [hLn,hLb];exact h12)
 refine Ci rfl (Yu (lg:=L.lg)) sP rfl fun v40 Y40 h40=> ?_
 obtain ⟨st,ib,pb,sb,rfl,rfl⟩:=h40
 refine A5 (Y:=(st,true,C (stC (J4 st L.lg ib pb sb)) tSt)::(ib,true,(Mp.nil:Mp En).obj .i64)::(pb,true,(Mp.nil:Mp En).obj .i64)::(sb,true,(Mp.nil:Mp Int).obj .i64)::[]) aQ ?_
 refine oA rfl<|Ad<|n_K<|Ag<|Aa fun ops=>oA rfl<|Ad<|n_K<|Ag<|Ag<|Aa fun ops=>oM rfl ?_
 refine Ci rfl (Ais hZ h12') sP rfl fun v42 Y42 h42=> ?_
 obtain ⟨s,l0,rfl,rfl,hp0,hso,hpm,hst,hro,hln⟩:=h42
 refine A5 aQ ?_
 refine oR (Gc rfl)<|oM rfl<|Ad<|n_K<|Bf ?_
 have hSO:SegsOf ⟨J4 st L.lg ib pb sb,L,R⟩ s.list:=⟨hpm,hst⟩
 have hsn:s.list.length≤40:=(by omega)
 refine I1 (G6 (α:=Fd) (T:=tFd)) ?_
 refine At [6,7,42,43] kQ (fun (s1:Nat×Sto×Sl Fd)=>[(44,.int .i64 s1.1),(8,s1.2.2.val)]) (fun (s1:Nat×Sto×Sl Fd)=>(s1.2.2.hp tFd++((st,true,C (stC s1.2.1) tSt)::(ib,true,(Mp.nil:Mp En).obj .i64)::(pb,true,(Mp.nil:Mp En).obj .i64)::(sb,true,(Mp.nil:Mp Int).obj .i64)::(lgH L++(s.hp Iz++(Je l0++[])))))) (fun (s1:Nat×Sto×Sl Fd)=>s1.1≤s.list.length∧s1.2.1=tks rc (J4 st L.lg ib pb sb) (G0 (s.list.take s1.1))∧s1.2.1.st=st∧s1.2.2.list=tkl rc (G0 (s.list.take s1.1))∧s1.2.2.isOwn=true) (fun (s1:Nat×Sto×Sl Fd)=>s.list.length - s1.1) ((0,J4 st L.lg ib pb sb,Sl.nil)) ⟨A5s _,rfl,rfl,rfl,rfl⟩ kP sP ?_
 rintro ⟨i,S,fds⟩ ⟨g0,g1,g2,g3,g4⟩
 simp only at g0 g1 g2 g3 g4
 have hfn:fds.list.length≤6*i:=(by rw [g3];exact A5f (Aix _ _) (Rw (z:=⟨J4 st L.lg ib pb sb,L,R⟩) hZ hSO i g0))
 refine Ag<|Aa fun ops=>oR (An rfl rfl rfl)<|Ad<|n_K<|Ag ?_
 refine Ae rfl (fun c45=> ?_) (fun c45=> ?_)
 ·simp only [A3j,A1k] at c45
  obtain ⟨g,hg⟩:∃ g,s.list[i]? =some g:=⟨_,A1d (by omega)⟩
  have hgl:g∈l0:=hp0.mem_iff.2 (A2a hg)
  obtain ⟨bN,hbN,_,_,_,_,hrl⟩:=hSO.mem (A2a hg)
  have hr6:g.recs.list.length≤6:=(by rw [hrl];exact hZ.rlen hbN)
  refine Bd<|n_K<|Ag<|Bf<|Ag<|Aa fun ops=> ?_
  refine oR (A7 (s:=s) rfl rfl (by omega)) ?_
  refine oR (Dd (s:=s) (o:=0) rfl pL hg rfl rfl) ?_
  refine Aj rfl fun b10=> ?_
  refine Ac rfl rfl uD rfl rfl rfl ?_
  refine Ad<|n_K<|Ag<|Aa fun ops=>oF rfl ?_
  refine oR (Al rfl mM rfl) ?_
  refine oR (Gc rfl)<|oM rfl<|Ad<|n_K<|Bf ?_
  refine At [6,7,42,43,44,49,50] kQ (fun (s1:Nat×Sto×Sl Fd)=>[(51,.int .i64 s1.1),(8,s1.2.2.val)]) (fun (s1:Nat×Sto×Sl Fd)=>(s1.2.2.hp tFd++((st,true,C (stC s1.2.1) tSt)::(ib,true,(Mp.nil:Mp En).obj .i64)::(pb,true,(Mp.nil:Mp En).obj .i64)::(sb,true,(Mp.nil:Mp Int).obj .i64)::(lgH L++(s.hp Iz++(Je l0++[])))))) (fun (s1:Nat×Sto×Sl Fd)=>s1.1≤g.recs.list.length∧s1.2.1=tks rc (J4 st L.lg ib pb sb) (G0 (s.list.take i)++g.recs.list.take s1.1)∧s1.2.1.st=st∧s1.2.2.list=tkl rc (G0 (s.list.take i)++g.recs.list.take s1.1)∧s1.2.2.isOwn=true) (fun (s1:Nat×Sto×Sl Fd)=>g.recs.list.length - s1.1) ((0,S,fds)) ⟨A5s _,by simp only [List.take_zero,A37];exact g1,g2,by simp only [List.take_zero,A37];exact g3,g4⟩ kP sP ?_
  rintro ⟨j,S,fd⟩ ⟨k0,k1,k2,k3,k4⟩
  simp only at k0 k1 k2 k3 k4
  have hfd:fd.list.length≤300:=(by rw [k3];refine A5f (Aix _ _) ?_;rw [A2x,A3x];have:=Rw (z:=⟨J4 st L.lg ib pb sb,L,R⟩) hZ hSO i g0;omega)
  refine Ag<|Aa fun ops=>oR (An rfl rfl rfl)<|Ad<|n_K<|Ag ?_
  refine Ae rfl (fun c52=> ?_) (fun c52=> ?_)
  ·simp only [A3j,A1k] at c52
   obtain ⟨x,hgx⟩:∃ x,g.recs.list[j]? =some x:=⟨_,A1d (by omega)⟩
   obtain ⟨jN,p,hpj,hgp,hx⟩:=recZ_mem.1 (by have:=A2a hgx;rw [hrl] at this;exact this)
   obtain ⟨hrok,hpe⟩:=hrc bN jN p (by rw [← hLn];exact hbN) hpj hgp
   rw [← hx] at hrok hpe
   have htk:g.recs.list.take (j+1)=g.recs.list.take j++[x]:=(by rw [A3g,hgx];rfl)
   have hS1:tkS S x (rc x)=tks rc (J4 st L.lg ib pb sb) (G0 (s.list.take i)++g.recs.list.take (j+1)):=(by rw [htk,← A25,Ad9,← k1])
   have hst1:(tkS S x (rc x)).st=st:=(Aea S x (rc x)).st.trans k2
   have hk1:tkl rc (G0 (s.list.take i)++g.recs.list.take (j+1))=fd.list++(tkF x (rc x)).toList:=(by rw [htk,← A25,Aql,← k3])
   refine Bd<|n_K<|Ag<|Bf<|Ag<|Aa fun ops=> ?_
   refine oR (A7 (s:=g.recs) rfl rfl (by omega)) ?_
   refine oR (Xp (s:=g.recs) (o:=0) rfl (Ait hgl pL) hgx rfl rfl) ?_
   refine Aj rfl fun b12=> ?_
   refine Ac rfl rfl uD rfl rfl rfl ?_
   refine Ad<|n_K<|Ag<|Aa fun ops=>oM rfl ?_
   refine oR (Am rfl mM rfl) ?_
   have hget:=Aaq (kind:=(rc x).kind) (bd:=(rc x).body) hZ hbN (by rw [hpj,hpe];exact A52 some (Rc.pg_eq _)) (Rc.hi _) (Rc.wr hrok)
   rw [show (Value.agg #[.int .i64 (bN:Nat),.int .i64 ((2+jN:Nat):Int)])= .agg #[.int .i64 x.1,.int .i64 x.2] from by rw [hx]] at hget
   refine Ci rfl hget sP rfl fun v58 Y58 h58=> ?_
   obtain ⟨s58,rfl,rfl,hs58,ho58⟩:=h58
   refine A5 aQ ?_
   refine oM rfl<|oE rfl rfl<|oE rfl rfl<|oE rfl rfl<|oE rfl rfl<|oA rfl<|oA rfl<|oA rfl<|oA rfl<|Ad<|n_K<|Ag<|Ag ?_
   refine Fz [(2,65)] rfl fun ops y=> ?_
   refine oM rfl<|oR (An rfl rfl rfl)<|oM rfl ?_
   refine' Ac1 (j:=2) (k:=2) y rfl rfl rfl rfl rfl rfl rfl (fun hg65=> ?_) ?_
   rotate_left
   ·try (simp at hg65;show _)
    refine o_g y rfl rfl ?_
    refine oM rfl ?_
    refine o_g y rfl rfl ?_
    refine oR (An rfl rfl rfl) ?_
    exact Ad ⟨rfl,rfl,⟨_,sP⟩⟩
   refine Ad<|n_K ?_
   refine Ay rfl ?_
   refine Bd<|n_K<|Ag<|Aa fun ops=>oM rfl ?_
   refine oR (Am rfl mM rfl) ?_
   refine oM rfl<|oM rfl ?_
   refine Jv rfl (Au1 (S:=S) (a:=st) (x:=x) (r:=rc x) k2 hrok hs58) sP rfl aQ ?_
   refine oM rfl<|oE rfl rfl<|oE rfl rfl ?_
   refine Aj rfl fun b17=> ?_
   refine Ac rfl rfl uD rfl rfl rfl ?_
   refine oA rfl<|Ad<|n_K<|Ag<|Aa fun ops=>oM rfl<|Ad<|n_K ?_
   refine Ae rfl (fun c78=> ?_) (fun c78=> ?_)
   ·skip
    have hF:fd.list++[fdO (tkF x (rc x))]=tkl rc (G0 (s.list.take i)++g.recs.list.take (j+1)):=(by rw [hk1];revert c78;cases tkF x (rc x) <;> simp [fdO])
    refine Aa fun ops=>oM rfl ?_
    refine oR (Am rfl mM rfl) ?_
    refine Ao rfl rfl rfl rfl fun b81=> ?_
    refine Az (s:=fd) (new:=[fdO (tkF x (rc x))]) (m:=1) rfl rfl pL k4 (Ch (r:=true) mM rfl) rfl rfl rfl rfl (by omega) rfl fun s' hs1 hs2=> ?_
    refine oA rfl<|Ad<|Cq<|n_K<|Aa fun ops=> ?_
    refine oR (Bm rfl rfl (by omega)) ?_
    refine oM rfl<|Ad<|n_K ?_
    first | exact ⟨(j+1,tkS S x (rc x),s'),⟨by simp only;omega,hS1,hst1,hs1.trans hF,hs2⟩,by simp only;omega,lZ⟩ | exact ⟨(j+1,tkS S x (rc x),fd),⟨by simp only;omega,hS1,hst1,hN,k4⟩,by simp only;omega,lZ⟩
   ·skip
    have hN:fd.list=tkl rc (G0 (s.list.take i)++g.recs.list.take (j+1)):=(by rw [hk1];revert c78;cases tkF x (rc x) <;> simp)
    refine Bd<|Cq<|n_K<|Aa fun ops=> ?_
    refine oR (Bm rfl rfl (by omega)) ?_
    refine oM rfl<|Ad<|n_K ?_
    first | exact ⟨(j+1,tkS S x (rc x),s'),⟨by simp only;omega,hS1,hst1,hs1.trans hF,hs2⟩,by simp only;omega,lZ⟩ | exact ⟨(j+1,tkS S x (rc x),fd),⟨by simp only;omega,hS1,hst1,hN,k4⟩,by simp only;omega,lZ⟩
  ·simp only [A3j,A1k] at c52
   have hj:j=g.recs.list.length:=(by omega)
   subst hj
   rw [A30] at k1 k3
   refine E9<|x_K<|x_K<|Hv<|Cq<|n_K<|Aa fun ops=> ?_
   refine oR (Bm rfl rfl (by omega)) ?_
   refine oM rfl<|Ad<|n_K ?_
   exact ⟨(i+1,S,fd),⟨by simp only;omega,by rw [Oo hg];exact k1,k2,by rw [Oo hg];exact k3,k4⟩,(by omega),lZ⟩
 ·simp only [A3j,A1k] at c45
  have hi:i=s.list.length:=(by omega)
  subst hi
  rw [A30] at g1 g3
  have hsm:=Vz rc (G0 s.list) (J4 st L.lg ib pb sb)
  rw [← g1] at hsm
  have hib:S.ib=ib:=hsm.ib
  have hsb:S.sb=sb:=hsm.sb
  have hpb:S.pb=pb:=hsm.pb
  refine E9<|x_K<|x_K<|Hv<|n_K<|Ag<|Ag<|Aa fun ops=>oM rfl<|oR (Gc rfl)<|oM rfl<|Ad<|n_K<|Bf ?_
  have hfl:fds.list.length≤240:=(by omega)
  refine At [7,85,86] kQ (fun (s1:Nat×Mp En×Mp Int)=>[(87,.int .i64 s1.1)]) (fun (s1:Nat×Mp En×Mp Int)=>(fds.hp tFd++((st,true,C (stC S) tSt)::(ib,true,s1.2.1.obj .i64)::(pb,true,(Mp.nil:Mp En).obj .i64)::(sb,true,s1.2.2.obj .i64)::(lgH L++[])))) (fun (s1:Nat×Mp En×Mp Int)=>s1.1≤fds.list.length∧s1.2=(fds.list.take s1.1).foldl (opf S) (Mp.nil,Mp.nil)∧∀ k,(s1.2.1.get k).isSome=true→Bj S.last.lv k=true) (fun (s1:Nat×Mp En×Mp Int)=>fds.list.length - s1.1) ((0,Mp.nil,Mp.nil)) ⟨A5s _,rfl,fun k hk=>nomatch hk⟩ kP sP ?_
  rintro ⟨i,mi,ms⟩ ⟨l0',l1,l2⟩
  simp only at l0' l1 l2
  refine Ag<|Aa fun ops=>oR (An rfl rfl rfl)<|Ad<|n_K<|Ag ?_
  refine Ae rfl (fun c88=> ?_) (fun c88=> ?_)
  ·simp only [A3j,A1k] at c88
   obtain ⟨f,hf⟩:∃ f,fds.list[i]? =some f:=⟨_,A1d (by omega)⟩
   have hst3:(fds.list.take (i+1)).foldl (opf S) (Mp.nil,Mp.nil)=opf S (mi,ms) f:=(by rw [H3 hf,← l1])
   have hlv:=Aqo (S:=S) (m:=(mi,ms)) (f:=f) l2
   refine Bd<|n_K<|Ag<|Bf<|Ag<|Aa fun ops=> ?_
   refine oR (A7 (s:=fds) rfl rfl (by omega)) ?_
   refine oR (Dd (s:=fds) (o:=0) rfl pL hf rfl rfl) ?_
   refine Aj rfl fun b20=> ?_
   refine Ac rfl rfl uD rfl rfl rfl ?_
   refine Ad<|n_K<|Ag ?_
   refine Pf [] [0,1,2,4] [[(3,false),(5,false),(6,false),(7,false),(8,false),(9,false),(10,true),(11,true)],[(12,false)]] (by kernel_rfl) rfl rfl fun ops w0 H0 y=> ?_
   unfold Afh
   refine xM rfl<|xN rfl<|xF rfl<|xF rfl<|As<|Ce ?_
   refine xR (show Rd _ _ _ _ (.map (some ib)) from by rw [← hib];exact Al rfl mM rfl) ?_
   refine xR (Al rfl mM rfl) ?_
   refine xR (Ad8 rfl rfl mM) ?_
   refine xM rfl<|xE rfl rfl<|xE rfl rfl<|B1 ?_
   refine Aj rfl fun b21=> ?_
   refine Ad ⟨rfl,⟨_,sP⟩,?_⟩
   refine B1 ?_
   refine Ac rfl rfl uD rfl rfl rfl ?_
   refine Ad ⟨rfl,⟨_,sP⟩,?_⟩
   refine As<|Ce<|xA rfl<|As<|Eh<|n_K<|Bf<|Ag ?_
   refine D7 [] [(10,[(0,false),(1,false),(2,false),(3,false),(4,false),(5,false),(6,false),(7,false),(8,false),(9,false)])] (by kernel_rfl) rfl fun ops w0 H0 y=> ?_
   refine Ce<|xF rfl<|xF rfl ?_
   refine xR (show Rd _ _ _ _ (wv f.en.ep) from Al rfl mM rfl) ?_
   refine xM rfl<|xN rfl<|xF rfl<|xF rfl ?_
   refine xR (Al rfl mM rfl) ?_
   refine xR (An rfl rfl rfl)<|xA rfl<|As<|Eh<|n_K ?_
   refine Ae rfl (fun c101=> ?_) (fun c101=> ?_)
   ·skip
    have hO1:(mi,ms.put f.key 1)=(fds.list.take (i+1)).foldl (opf S) (Mp.nil,Mp.nil):=(by rw [hst3];unfold opf;rw [if_pos c101])
    refine D7 [] [(6,[(0,false),(1,false),(2,false),(3,false),(4,false),(5,false)]),(7,[(6,true)])] (by kernel_rfl) rfl fun ops w0 H0 y=> ?_
    refine Ce<|xM rfl<|xN rfl<|xF rfl ?_
    refine xR (show Rd _ _ _ _ (.map (some sb)) from by rw [← hsb];exact Al rfl mM rfl) ?_
    refine xF rfl ?_
    refine xR (Al rfl mM rfl) ?_
    refine As<|Dx<|B1 ?_
    refine Xn (m:=ms) (v:=(1:Int)) (kd:= .i64) rfl rfl rfl uD ?_
    refine Ad ⟨rfl,⟨_,sP⟩,?_⟩
    refine As<|Eh<|Cq<|Cq<|n_K<|Aa fun ops=> ?_
    refine oR (Bm rfl rfl (by omega)) ?_
    refine oM rfl<|Ad<|n_K ?_
    first | exact ⟨(i+1,mi,ms.put f.key 1),⟨by simp only;omega,hO1,by rw [← hst3,← hO1] at hlv;exact hlv⟩,by simp only;omega,lZ⟩ | exact ⟨(i+1,mi.put f.key f.en,ms),⟨by simp only;omega,hO2,by rw [← hst3,← hO2] at hlv;exact hlv⟩,by simp only;omega,lZ⟩ | exact ⟨(i+1,mi,ms),⟨by simp only;omega,hO3,l2⟩,by simp only;omega,lZ⟩
   ·skip
    refine Ag ?_
    refine D7 [(8,126),(11,129)] [(7,[(0,false),(1,false),(2,false),(3,false),(4,false),(5,false),(6,false)]),(8,[(7,true)]),(21,[(8,false),(9,false),(10,false),(11,false),(12,false),(13,false),(14,false),(15,false),(16,false),(17,false),(18,false),(19,false),(20,false)])] (by kernel_rfl) rfl fun ops w0 H0 y=> ?_
    refine Ce<|xM rfl<|xN rfl<|xF rfl<|xF rfl ?_
    refine xR (Am rfl mM (Apn S)) ?_
    refine xF rfl ?_
    refine xR (Al rfl mM rfl) ?_
    refine As<|Dx<|B1 ?_
    refine Jv rfl (Vo) sP rfl aQ ?_
    refine Ad ⟨rfl,⟨_,sP⟩,?_⟩
    refine As<|Ce<|xM rfl ?_
    refine' U2 (j:=8) (k:=10) y rfl rfl rfl rfl rfl rfl rfl (fun hg126=> ?_) ?_
    rotate_left
    ·try (simp at hg126;show _)
     refine x_g y rfl rfl ?_
     refine xM rfl ?_
     refine x_g y rfl rfl ?_
     refine xR (D6 rfl) ?_
     refine x_g y rfl rfl ?_
     refine xM rfl ?_
     refine' Ake (j:=11) (k:=6) y rfl rfl rfl rfl rfl rfl rfl (fun hg129=> ?_) ?_
     rotate_left
     ·try (simp at hg129;show _)
      refine x_g y rfl rfl ?_
      refine xF rfl ?_
      refine x_g y rfl rfl ?_
      refine xF rfl ?_
      refine x_g y rfl rfl ?_
      refine xR (show Rd _ _ _ _ (wv f.en.ep) from Al rfl mM rfl) ?_
      refine x_g y rfl rfl ?_
      refine xF rfl ?_
      refine x_g y rfl rfl ?_
      refine xR (show Rd _ _ _ _ (wv (Ru mi f.key).ep) from Al rfl mM rfl) ?_
      refine x_g y rfl rfl ?_
      refine xR (An rfl rfl rfl) ?_
      exact As ⟨rfl,⟨_,sP⟩⟩
     exact As ⟨rfl,⟨_,sP⟩⟩
    refine xA rfl<|As<|Eh<|n_K ?_
    refine Ae rfl (fun c117=> ?_) (fun c117=> ?_)
    ·skip
     have hO2:(mi.put f.key f.en,ms)=(fds.list.take (i+1)).foldl (opf S) (Mp.nil,Mp.nil):=(by rw [hst3];unfold opf;rw [if_neg (by rw [c101];decide),if_pos c117])
     refine D7 [] [(8,[(0,false),(1,false),(2,false),(3,false),(4,false),(5,false),(6,false),(7,false)]),(9,[(8,true)])] (by kernel_rfl) rfl fun ops w0 H0 y=> ?_
     refine Ce<|xM rfl<|xN rfl<|xF rfl ?_
     refine xR (show Rd _ _ _ _ (.map (some ib)) from by rw [← hib];exact Al rfl mM rfl) ?_
     refine xF rfl ?_
     refine xR (Al rfl mM rfl) ?_
     refine xF rfl ?_
     refine xR (show Rd _ _ _ _ (.agg (Ak7 f.en).toArray) from Am rfl mM rfl) ?_
     refine As<|Dx<|B1 ?_
     refine Xn (m:=mi) (v:=f.en) (kd:= .i64) rfl rfl rfl uD ?_
     refine Ad ⟨rfl,⟨_,sP⟩,?_⟩
     refine As<|Eh<|Cq<|Cq<|n_K<|Aa fun ops=> ?_
     refine oR (Bm rfl rfl (by omega)) ?_
     refine oM rfl<|Ad<|n_K ?_
     first | exact ⟨(i+1,mi,ms.put f.key 1),⟨by simp only;omega,hO1,by rw [← hst3,← hO1] at hlv;exact hlv⟩,by simp only;omega,lZ⟩ | exact ⟨(i+1,mi.put f.key f.en,ms),⟨by simp only;omega,hO2,by rw [← hst3,← hO2] at hlv;exact hlv⟩,by simp only;omega,lZ⟩ | exact ⟨(i+1,mi,ms),⟨by simp only;omega,hO3,l2⟩,by simp only;omega,lZ⟩
    ·skip
     have hO3:(mi,ms)=(fds.list.take (i+1)).foldl (opf S) (Mp.nil,Mp.nil):=(by rw [hst3];unfold opf;rw [if_neg (by rw [c101];decide),if_neg (by rw [c117];decide)])
     refine Bd<|Cq<|Cq<|n_K<|Aa fun ops=> ?_
     refine oR (Bm rfl rfl (by omega)) ?_
     refine oM rfl<|Ad<|n_K ?_
     first | exact ⟨(i+1,mi,ms.put f.key 1),⟨by simp only;omega,hO1,by rw [← hst3,← hO1] at hlv;exact hlv⟩,by simp only;omega,lZ⟩ | exact ⟨(i+1,mi.put f.key f.en,ms),⟨by simp only;omega,hO2,by rw [← hst3,← hO2] at hlv;exact hlv⟩,by simp only;omega,lZ⟩ | exact ⟨(i+1,mi,ms),⟨by simp only;omega,hO3,l2⟩,by simp only;omega,lZ⟩
  ·simp only [A3j,A1k] at c88
   have hi:i=fds.list.length:=(by omega)
   subst hi
   rw [A30,g3] at l1
   have hlf:=Aqp l2
   refine E9<|x_K<|x_K<|Hv<|n_K<|Ag ?_
   refine D7 [] [(13,[(0,false),(1,false),(2,false),(3,false),(4,false),(5,false),(6,false),(7,false),(8,false),(9,false),(10,false),(11,false),(12,false)]),(14,[(13,true)])] (by kernel_rfl) rfl fun ops w0 H0 y=> ?_
   refine Ce<|xM rfl<|xM rfl<|xN rfl<|xF rfl ?_
   refine xR (show Rd _ _ _ _ (wv S.seen) from Al rfl mM (J2 (S:=S) (o:=8) rfl)) ?_
   refine xM rfl<|xN rfl<|xF rfl<|xF rfl ?_
   refine xR (show Rd _ _ _ _ (wv S.last.ep) from Al rfl mM rfl) ?_
   refine xR (O3 rfl rfl)<|xN rfl<|xF rfl<|As<|Dx<|B1 ?_
   refine Ac (cs':=stC { S with seen:=Jg S.seen S.last.ep }) rfl rfl uD rfl rfl (Dq (S:=S) (o:=8) rfl rfl) ?_
   refine Ad ⟨rfl,⟨_,sP⟩,?_⟩
   refine As<|Eh<|n_K<|Ag ?_
   refine D7 [(13,173)] [(28,[(0,false),(1,false),(2,false),(3,false),(4,false),(5,false),(7,false),(8,false),(9,false),(10,false),(11,false),(6,true),(12,false),(13,false),(14,false),(15,false),(16,false),(17,false),(18,false),(19,false),(20,false),(21,false),(22,false),(23,false),(24,true),(25,false),(26,false),(27,false)]),(30,[(28,false),(29,false)]),(31,[(30,true)])] (by kernel_rfl) rfl fun ops w0 H0 y=> ?_
   refine Ce<|xM rfl<|xM rfl<|xM rfl<|xN rfl<|xF rfl ?_
   refine xR (show Rd _ _ _ _ (.map (some ib)) from by rw [← hib];exact Al rfl mM rfl) ?_
   refine xM rfl<|xN rfl<|xF rfl<|xF rfl ?_
   refine xR (show Rd _ _ _ _ (uv S.last.sum) from Al rfl mM (Ax8 { S with seen:=Jg S.seen S.last.ep })) ?_
   refine B1 ?_
   refine Ci rfl (Aiw (S:=st) (b:=ib) (m:=mi) (by omega)) sP rfl fun v166 Y166 h166=> ?_
   obtain ⟨rfl,rfl⟩:=h166
   refine A5 aQ ?_
   refine Ad ⟨rfl,⟨_,sP⟩,?_⟩
   refine xR (An rfl rfl rfl)<|xM rfl ?_
   refine' Ake (j:=13) (k:=13) y rfl rfl rfl rfl rfl rfl rfl (fun hg173=> ?_) ?_
   rotate_left
   ·try (simp at hg173;show _)
    refine x_g y rfl rfl ?_
    refine xM rfl ?_
    refine x_g y rfl rfl ?_
    refine xN rfl ?_
    refine x_g y rfl rfl ?_
    refine xF rfl ?_
    refine x_g y rfl rfl ?_
    refine xR (show Rd _ _ _ _ (.map (some ib)) from by rw [← hib];exact Al rfl mM rfl) ?_
    refine x_g y rfl rfl ?_
    refine xR (Anq rfl mM) ?_
    refine x_g y rfl rfl ?_
    refine xM rfl ?_
    refine x_g y rfl rfl ?_
    refine xN rfl ?_
    refine x_g y rfl rfl ?_
    refine xF rfl ?_
    refine x_g y rfl rfl ?_
    refine xF rfl ?_
    refine x_g y rfl rfl ?_
    refine xR (Am rfl mM (Apn { S with seen:=Jg S.seen S.last.ep })) ?_
    refine x_g y rfl rfl ?_
    refine B1 ?_
    refine Ci rfl (Aik (l:=S.last.lv)) sP rfl fun v184 Y184 h184=> ?_
    obtain ⟨s184,rfl,rfl,hs184,ho184⟩:=h184
    refine A5 aQ ?_
    refine Ad ⟨rfl,⟨_,sP⟩,?_⟩
    refine x_g y rfl rfl ?_
    refine xR (show Rd _ _ _ _ (.int .i64 ((Db S.last.lv 256).length:Nat)) from by rw [← hs184];exact Gc rfl) ?_
    refine x_g y rfl rfl ?_
    refine xR (An rfl rfl rfl) ?_
    exact As ⟨rfl,⟨_,sP⟩⟩
   refine As<|Ce<|xN rfl<|xF rfl<|As<|Dx<|B1 ?_
   refine Ac (cs':=stC { S with seen:=Jg S.seen S.last.ep,hurt:= !decide (((L6 mi).toNat:Int)=(S.last.sum.toNat:Int)) || !decide ((mi.es.length:Int)=((Db S.last.lv 256).length:Int)) }) rfl rfl uD rfl rfl (Dq (S:={ S with seen:=Jg S.seen S.last.ep }) (o:=9) rfl rfl) ?_
   refine Ad ⟨rfl,⟨_,sP⟩,?_⟩
   refine As<|Eh<|n_K<|Ag<|Aa fun ops=>oM rfl<|oA rfl<|oA rfl<|Ad<|n_K<|D3 ?_
   exact A9 (Cu Tryz.results67 (Af rfl) (Af rfl)) (by exact ⟨⟨{ S with idx:=mi,stray:=ms,seen:=Jg S.seen S.last.ep,hurt:= !decide (((L6 mi).toNat:Int)=(S.last.sum.toNat:Int)) || !decide ((mi.es.length:Int)=((Db S.last.lv 256).length:Int)) },L,R⟩,by show _=Value.tuple #[ptr S.st,.int .i64 0];rw [g2],Az0 (S:={ S with idx:=mi,stray:=ms,seen:=Jg S.seen S.last.ep,hurt:= !decide (((L6 mi).toNat:Int)=(S.last.sum.toNat:Int)) || !decide ((mi.es.length:Int)=((Db S.last.lv 256).length:Int)) }) g2 hib hpb hsb hsm.pend (lgH L++[]),⟨hsm.lg,V,hZ⟩,rfl,hLn,by show L.d.c=d.c;rw [hLd],fun j hj=>by show (bAt L.bs j).seq=sq j;rw [hLb];exact hOs j hj,s.list,st,L.lg,ib,pb,sb,⟨hpm,hst⟩,by unfold Aeb Vy;rw [← g1,← l1]⟩) sP
theorem Agw (hb:2≤d.c.blocks.length∧d.c.blocks.length≤1000) (ho:Dk d.c=(0,t2)) (hv:DV d.c t2 n k V) (ha:Acc q d.c t2) (hn:nb+6=n) (hC:LogC nb k V sq R) (h12:nb≤B6 (D2 V nb).1 nb+40)
  (hrc:∀ (b j:Nat) (p:Pg),b<nb→(R b)[j]? =some p→(Ee p).2.2.2=0→(rc ((b:Int),((2+j:Nat):Int))).ok∧p=(rc ((b:Int),((2+j:Nat):Int))).pg) :
  Does Tryz.prog 26 [ptr d.c.aC] (dkH d)
  (fun v H=>∃ z:Sg,v=ptr z.S.st∧H=(z.S.st,true,C (stC z.S) tSt)::(z.S.ib,true,z.S.idx.obj .i64)::(z.S.pb,true,z.S.pend.obj .i64)::(z.S.sb,true,z.S.stray.obj .i64)::(lgH z.L++[])∧WI n k q z∧z.R=R∧z.L.nb=nb∧z.L.d.c=d.c∧(∀ j<nb,(bAt z.L.bs j).seq=sq j) ∧
   ∃ (ss:List Seg) (st lg ib pb sb:Nat),SegsOf z ss∧z.S=Aeb rc (J4 st lg ib pb sb) (G0 ss)):=by
 refine zF 11 Tryz.func26 ?_
 refine zC ?_
 refine zE rfl (Aqr (d:=d) (rc:=rc) hb ho hv ha hn hC h12 hrc) ?_
 rintro _ _ ⟨z,rfl,rfl,hz⟩
 refine zW ?_
 exact zL (hR:=by exact ⟨z,rfl,rfl,hz⟩)
end
end
section
open Go.K
structure Tl (A:Ab) (z:Sg):Prop where
  la:0<A.last.ep.toNat→∃ x,RecAt z x (Rc.cm A.last).pg
  va:A.viewed=true→∃ x v,vwM v=A.vw∧RecAt z x (Rc.vw v).pg∧∀ x' v',RecAt z x' (Rc.vw v').pg→v'.num=A.vw.num→vwM v'=A.vw∨bef z x' x
  ix:∀ k e b,A.ix k=some (e,b)→Bh k b=true∧∃ x,RecAt z x (Rc.nd k e b).pg
  kd:∀ x p,RecAt z x p→(Ee p).2.2.2=0→∃ r:Rc,r.ok∧p=r.pg
  nd:∀ x k e b,Bh k b=true→RecAt z x (Rc.nd k e b).pg→e.toNat≤A.last.ep.toNat→Bj A.last.lv k=true→∃ e' b',A.ix k=some (e',b')∧e.toNat≤e'.toNat∧(e=e'→b=b')
  cm:∀ x c,RecAt z x (Rc.cm c).pg→0<c.ep.toNat∧c.ep.toNat≤A.last.ep.toNat∧(c.ep=A.last.ep→c=A.last)
  vs:∀ x v,RecAt z x (Rc.vw v).pg→A.viewed=true∧v.num.toNat≤A.vw.num.toNat
structure Sd (A:Ab) (nb:Nat):Prop where
  live:∀ k,(A.ix k).isSome=Bj A.last.lv k
  ep:∀ k e b,A.ix k=some (e,b)→e.toNat≤A.last.ep.toNat
  l0:A.last.ep.toNat=0→A.last=cm0
  sum:0<A.last.ep.toNat→A.last.sum=Wa A.last.lv A.ix
  lim:((Db A.last.lv 256).length:Int)≤Jr nb
  nb4:4≤nb∧nb≤40
  vwm:A.viewed=true→vwM A.vw=A.vw
  v0:A.viewed=false→A.vw=vw0
theorem Std.sd {A:Ab} {z:Sg} (h:Std A z):Sd A z.L.nb:=⟨h.live,h.ep,h.l0,h.sum,h.lim,h.nb4,h.vwm,h.v0⟩
theorem Rz.tl {A:Ab} {P:NdM} {Q:Int→Wd→List By→Prop} {z:Sg} (h:Rz A P Q z) (hQ:∀ k e b,Q k e b→A.last.ep.toNat<e.toNat):Tl A z :=
  ⟨fun h0=>⟨_,h.la h0⟩,fun h0=>by
    obtain ⟨v,h1,h2⟩:=h.va h0
    exact ⟨_,v,h1,h2,fun x' v' h3=>(h.vs x' v' h3).2.2⟩,
   fun k e b hi=>by obtain ⟨en,_,_,h3,h4⟩:=h.ix.yes hi;exact ⟨h3,_,h4⟩,h.kd,
   fun x k e b h1 h2 h3 h4=>by
    rcases h.nd x k e b h1 h2 with h5 | h5
    · exact h5.2.2 h4 h3
    · have:=hQ k e b h5;omega,
   h.cm,fun x v hx=>⟨(h.vs x v hx).1,(h.vs x v hx).2.1⟩⟩
theorem Tl.of {A:Ab} {z z':Sg} (h:Tl A z) (h1:z'.L.nb=z.L.nb) (h2:z'.R=z.R) (h3:∀ j<z.L.nb,(bAt z'.L.bs j).seq=(bAt z.L.bs j).seq):Tl A z':=by
  have e:∀ {x p},RecAt z' x p↔RecAt z x p:=fun {x p}=>by unfold RecAt;rw [h1,h2]
  have es:∀ {x p},RecAt z x p→sqz z' x=sqz z x:=fun ⟨b,j,hx,hb,_⟩=>by unfold sqz;rw [hx];simp only [A24];rw [h3 b hb]
  have eb:∀ {x p x' p'},RecAt z x p→RecAt z x' p'→(bef z' x x'↔bef z x x'):=fun h h'=>by unfold bef;rw [es h,es h']
  refine ⟨fun h0=>by obtain ⟨x,hx⟩:=h.la h0;exact ⟨x,e.2 hx⟩,fun h0=> ?_,fun k e' b hi=>by obtain ⟨a,x,hx⟩:=h.ix k e' b hi;exact ⟨a,x,e.2 hx⟩,fun x p hx=>h.kd x p (e.1 hx),fun x k e' b h4 hx=>h.nd x k e' b h4 (e.1 hx),fun x c hx=>h.cm x c (e.1 hx),fun x v hx=>h.vs x v (e.1 hx)⟩
  obtain ⟨x,v,a,hx,hv⟩:=h.va h0
  exact ⟨x,v,a,e.2 hx,fun x' v' hx' hn=>(hv x' v' (e.1 hx') hn).imp id fun hb=>(eb (e.1 hx') hx).2 hb⟩
theorem Ava {z:Sg} {x:Pl2}:¬ bef z x x:=fun h=>by unfold bef at h;omega
theorem Arg {z:Sg} {x y:Pl2} (h:bef z x y) (h':bef z y x):False:=by
  unfold bef at h h'
  rcases h with h | ⟨h1,h2⟩
  · rcases h' with h' | ⟨h1,h2⟩
    · omega
    · unfold sqz at h;rw [h1] at h;omega
  · rcases h' with h' | ⟨h3,h4⟩
    · unfold sqz at h';rw [h1] at h';omega
    · omega
structure FlatR (z:Sg) (rc:Pl2→Rc) (xs:List Pl2):Prop where
  ord:xs.Pairwise (bef z)
  rcd:∀ x∈xs,(rc x).ok∧RecAt z x (rc x).pg
  all:∀ x (r:Rc),r.ok→RecAt z x r.pg→x∈xs
theorem Aek (z:Sg) (b:Int):∀ (r:List Pg) (i:Nat),(F7 b i r).Pairwise (bef z)
  | [],i=>List.Pairwise.nil
  | p::r,i=>by
    unfold F7
    refine A2b.2 ⟨by split <;> simp,Aek z b r (i+1),fun x hx y hy=> ?_⟩
    have h1:=(Aa3 b r (i+1)).2 y hy
    have h2:=H5 y hy
    split at hx
    · rw [A2z.1 hx]
      exact .inr ⟨by rw [h2],by simp only;omega⟩
    · cases hx
theorem Avb {n k:Nat} {q:Qt} {z:Sg} {ss:List Seg} {rc:Pl2→Rc} (hw:WI n k q z) (hs:SegsOf z ss)
    (hrc:∀ (b j:Nat) (p:Pg),b<z.L.nb→(z.R b)[j]? =some p→(Ee p).2.2.2=0→(rc ((b:Int),((2+j:Nat):Int))).ok∧p=(rc ((b:Int),((2+j:Nat):Int))).pg):FlatR z rc (G0 ss):=by
  obtain ⟨_,V,hZ⟩:=hw
  refine ⟨?_,fun x hx=> ?_,fun x r hr hx=> ?_⟩
  · unfold G0
    refine List.pairwise_flatMap.2 ⟨fun g hg=> ?_,?_⟩
    · obtain ⟨b,_,_,_,_,_,h⟩:=hs.mem hg
      rw [h];exact Aek z b _ 2
    · refine A1a.2 fun i j hi hj hij x hx y hy=> .inl ?_
      obtain ⟨b,hb,hbs,hb1,hb2,_,hb3⟩:=hs.mem (A3t hi)
      obtain ⟨c,hc,hcs,hc1,hc2,_,hc3⟩:=hs.mem (A3t hj)
      rw [hb3] at hx
      rw [hc3] at hy
      have e1:=H5 x hx
      have e2:=H5 y hy
      unfold sqz
      rw [e1,e2,A24,A24]
      have hle:(bAt z.L.bs b).seq.toNat≤(bAt z.L.bs c).seq.toNat:=by
        have:=hs.2 i j (by omega) (by omega) (by omega)
        have ea:∀ m (hm:m<ss.length),Ab4 ss (m:Int)=ss[m]:=fun m hm=>by
          unfold Ab4
          simp only [A24,A00,A1d hm,A32]
        rw [ea i hi,ea j hj] at this
        unfold key at this
        rw [hb2,hc2] at this
        exact this
      by_cases e:b=c
      · exfalso
        subst e
        have hnd:((ss.map Wp).map fun v=>v.1).Nodup:=by
          refine (hs.1.map fun v:SV=>v.1).nodup_iff.2 ?_
          have key:∀ k,((M0 z.L.bs z.R k).map fun v:SV=>v.1).Nodup∧∀ a∈(M0 z.L.bs z.R k).map fun v:SV=>v.1,a<k:=fun k=>by
            induction k with
            | zero=>exact ⟨A4w,fun a ha=>by cases ha⟩
            | succ k ih =>
              unfold M0
              rw [A4e]
              split
              · simp only [A5a,A37]
                exact ⟨ih.1,fun a ha=>by have:=ih.2 a ha;omega⟩
              · refine ⟨A3d.2 ⟨ih.1,by simp,fun a ha c hc e=> ?_⟩,fun a ha=> ?_⟩
                · simp only [A45,A5a,A2z] at hc
                  have:=ih.2 a ha
                  omega
                · rcases A4f.1 ha with h | h
                  · have:=ih.2 a h;omega
                  · simp only [A45,A5a,A2z] at h
                    omega
          exact (key z.L.nb).1
        rw [A49] at hnd
        have h1:=A1a.1 hnd i j (by simpa using hi) (by simpa using hj) hij
        apply h1
        simp only [List.getElem_map]
        show (ss[i]).b=(ss[j]).b
        rw [hb1,hc1]
      · have:=hZ.lv.dis b hb c hc e hbs
        omega
  · unfold G0 at hx
    obtain ⟨g,hg,hx⟩:=A3y.1 hx
    obtain ⟨b,hb,_,_,_,_,h3⟩:=hs.mem hg
    rw [h3] at hx
    obtain ⟨j,p,h4,h5,rfl⟩:=recZ_mem.1 hx
    obtain ⟨h6,h7⟩:=hrc b j p hb h4 h5
    exact ⟨h6,b,j,rfl,hb,by rw [← h7];exact h4⟩
  · obtain ⟨b,j,rfl,hb,hp⟩:=hx
    have hsq:(bAt z.L.bs b).seq.toNat≠0:=fun h0=>by
      rcases hZ.lv.blk b hb with ⟨_,h⟩ | u
      · rw [h] at hp;cases hp
      · exact u.cnt.seq h0
    obtain ⟨i,g,h1,_,_,h2⟩:=hs.has hb hsq
    unfold G0
    exact A3y.2 ⟨g,A2a h1,by rw [h2];exact recZ_mem.2 ⟨j,_,hp,Rc.good hr,rfl⟩⟩
theorem Alw {r:Rc} {c:Cm} (h:r.ok) (he:r.pg=(Rc.cm c).pg):r= .cm c:=by
  cases r with
  | nd k e b=>exact absurd he (Gf (r:= .nd k e b) (s:= .cm c) h trivial (by show (10:By)≠11;decide))
  | cm c'=>rw [Aq9 he]
  | vw v=>exact absurd he (Gf (r:= .vw v) (s:= .cm c) trivial trivial (by show (12:By)≠11;decide))
theorem Alx {r:Rc} {v:Vw} (h:r.ok) (he:r.pg=(Rc.vw v).pg):∃ v',r= .vw v'∧vwM v'=vwM v:=by
  cases r with
  | nd k e b=>exact absurd he (Gf (r:= .nd k e b) (s:= .vw v) h trivial (by show (10:By)≠12;decide))
  | cm c=>exact absurd he (Gf (r:= .cm c) (s:= .vw v) trivial trivial (by show (11:By)≠12;decide))
  | vw v'=>exact ⟨v',rfl,Arb he⟩
theorem Aly {r:Rc} {k:Int} {e:Wd} {b:List By} (h:r.ok) (h2:Bh k b=true) (he:r.pg=(Rc.nd k e b).pg):r= .nd k e b:=by
  cases r with
  | nd k' e' b'=>obtain ⟨rfl,rfl,rfl⟩:=Aq7 h h2 he;rfl
  | cm c=>exact absurd he (Gf (r:= .cm c) (s:= .nd k e b) trivial h2 (by show (11:By)≠10;decide))
  | vw v=>exact absurd he (Gf (r:= .vw v) (s:= .nd k e b) trivial h2 (by show (12:By)≠10;decide))
end
section
open Go.K
theorem Ael {α:Type} {p:List α→Prop} (h0:p []) (h1:∀ xs x,p xs→p (xs++[x])) (xs:List α):p xs:=by
 have key:∀ ys:List α,p ys.reverse:=fun ys=>by
  induction ys with
  | nil=>exact h0
  | cons y ys ih=>rw [List.reverse_cons];exact h1 _ _ ih
 have:=key xs.reverse
 rwa [List.reverse_reverse] at this
structure TkI (z:Sg) (rc:Pl2→Rc) (xs:List Pl2) (S:Sto):Prop where
 cm:(S.last=cm0∧∀ x∈xs,∀ c,rc x≠.cm c)∨∃ x∈xs,rc x= .cm S.last∧S.la=x∧∀ x'∈xs,∀ c,rc x'= .cm c→c.ep.toNat≤S.last.ep.toNat
 vw:(S.viewed=false∧S.vw=vw0∧∀ x∈xs,∀ v,rc x≠.vw v)∨∃ x∈xs,∃ v,rc x= .vw v∧S.vw=vwM v∧S.va=x∧S.viewed=true∧∀ x'∈xs,∀ v',rc x'= .vw v'→v'.num.toNat≤v.num.toNat∧(v'.num=v.num→x'=x∨bef z x' x)
 lo:∀ x∈xs,∀ k e b,rc x= .nd k e b→e.toNat≤S.seen.toNat
 hi:∀ t:Nat,(∀ x∈xs,∀ k e b,rc x= .nd k e b→e.toNat≤t)→S.seen.toNat≤t
theorem Avc {z:Sg} {rc:Pl2→Rc} {st lg ib pb sb:Nat}:∀ xs:List Pl2,xs.Pairwise (bef z)→TkI z rc xs (tks rc (J4 st lg ib pb sb) xs):=by
 refine Ael (fun _=>⟨.inl ⟨rfl,fun x h=>(by cases h)⟩,.inl ⟨rfl,rfl,fun x h=>(by cases h)⟩,fun x h=>(by cases h),fun t _=>A5s t⟩) ?_
 intro xs x ih hp
 obtain ⟨hp1,_,hp2⟩:=A2b.1 hp
 have I:=ih hp1
 have hbf:∀ a∈xs,bef z a x:=fun a ha=>hp2 a ha x (A2z.2 rfl)
 rw [Ad9]
 generalize tks rc (J4 st lg ib pb sb) xs=S at I ⊢
 have hmem:∀ {y},y∈xs++[x]↔y∈xs∨y=x:=fun {y}=>by simp
 cases hr:rc x with
 | nd k e b =>
  show TkI z rc (xs++[x]) { S with seen:=Jg S.seen e }
  refine ⟨?_,?_,fun y hy k' e' b' he=> ?_,fun t ht=> ?_⟩
  ·rcases I.cm with ⟨h1,h2⟩ | ⟨x1,h1,h2,h3,h4⟩
   ·exact .inl ⟨h1,fun y hy c=>by rcases hmem.1 hy with h | rfl;exact h2 y h c;rw [hr];exact fun h=>by cases h⟩
   ·exact .inr ⟨x1,hmem.2 (.inl h1),h2,h3,fun y hy c hc=>by rcases hmem.1 hy with h | rfl;exact h4 y h c hc;rw [hr] at hc;cases hc⟩
  ·rcases I.vw with ⟨h1,h2,h3⟩ | ⟨x1,h1,v,h2,h3,h4,h5,h6⟩
   ·exact .inl ⟨h1,h2,fun y hy c=>by rcases hmem.1 hy with h | rfl;exact h3 y h c;rw [hr];exact fun h=>by cases h⟩
   ·exact .inr ⟨x1,hmem.2 (.inl h1),v,h2,h3,h4,h5,fun y hy c hc=>by rcases hmem.1 hy with h | rfl;exact h6 y h c hc;rw [hr] at hc;cases hc⟩
  ·show e'.toNat≤(Jg S.seen e).toNat
   rw [Jc]
   rcases hmem.1 hy with h | rfl
   ·have:=I.lo y h k' e' b' he;omega
   ·rw [hr] at he;cases he;omega
  ·show (Jg S.seen e).toNat≤t
   rw [Jc]
   have h1:=I.hi t fun y hy=>ht y (hmem.2 (.inl hy))
   have h2:=ht x (hmem.2 (.inr rfl)) k e b hr
   omega
 | cm c =>
  have hlo:∀ y∈xs++[x],∀ k e b,rc y= .nd k e b→y∈xs:=fun y hy k e b he=>by
   rcases hmem.1 hy with h | rfl
   ·exact h
   ·rw [hr] at he;cases he
  have hvw:∀ S':Sto,S'.vw=S.vw→S'.viewed=S.viewed→S'.va=S.va→(S'.viewed=false∧S'.vw=vw0∧∀ y∈xs++[x],∀ v,rc y≠.vw v)∨∃ x1∈xs++[x],∃ v,rc x1= .vw v∧S'.vw=vwM v∧S'.va=x1∧S'.viewed=true∧∀ x'∈xs++[x],∀ v',rc x'= .vw v'→v'.num.toNat≤v.num.toNat∧(v'.num=v.num→x'=x1∨bef z x' x1):=fun S' e1 e2 e3=>by
   rw [e1,e2,e3]
   rcases I.vw with ⟨h1,h2,h3⟩ | ⟨x1,h1,v,h2,h3,h4,h5,h6⟩
   ·exact .inl ⟨h1,h2,fun y hy c=>by rcases hmem.1 hy with h | rfl;exact h3 y h c;rw [hr];exact fun h=>by cases h⟩
   ·exact .inr ⟨x1,hmem.2 (.inl h1),v,h2,h3,h4,h5,fun y hy c hc=>by rcases hmem.1 hy with h | rfl;exact h6 y h c hc;rw [hr] at hc;cases hc⟩
  rw [Aqm]
  by_cases hc:decide ((c.ep.toNat:Int)≥(S.last.ep.toNat:Int))=true
  ·rw [if_pos hc]
   simp only [A3j] at hc
   refine ⟨.inr ⟨x,hmem.2 (.inr rfl),hr,rfl,fun y hy c' hc'=> ?_⟩,hvw _ rfl rfl rfl,fun y hy k e b he=>I.lo y (hlo y hy k e b he) k e b he,fun t ht=>I.hi t fun y hy=>ht y (hmem.2 (.inl hy))⟩
   show c'.ep.toNat≤c.ep.toNat
   rcases hmem.1 hy with h | rfl
   ·rcases I.cm with ⟨_,h2⟩ | ⟨x1,h1,h2,h3,h4⟩
    ·exact absurd hc' (h2 y h c')
    ·have:=h4 y h c' hc';omega
   ·rw [hr] at hc';cases hc';exact A5q _
  ·rw [if_neg hc]
   simp only [A3j] at hc
   refine ⟨.inr ?_,hvw _ rfl rfl rfl,fun y hy k e b he=>I.lo y (hlo y hy k e b he) k e b he,fun t ht=>I.hi t fun y hy=>ht y (hmem.2 (.inl hy))⟩
   rcases I.cm with ⟨h1,_⟩ | ⟨x1,h1,h2,h3,h4⟩
   ·rw [h1] at hc
    exact absurd (show (c.ep.toNat:Int)≥((0:Wd).toNat:Int) by show (c.ep.toNat:Int)≥(0:Int);omega) hc
   ·refine ⟨x1,hmem.2 (.inl h1),h2,h3,fun y hy c' hc'=> ?_⟩
    rcases hmem.1 hy with h | rfl
    ·exact h4 y h c' hc'
    ·rw [hr] at hc';cases hc';omega
 | vw v =>
  have hlo:∀ y∈xs++[x],∀ k e b,rc y= .nd k e b→y∈xs:=fun y hy k e b he=>by
   rcases hmem.1 hy with h | rfl
   ·exact h
   ·rw [hr] at he;cases he
  have hcm:∀ S':Sto,S'.last=S.last→S'.la=S.la→(S'.last=cm0∧∀ y∈xs++[x],∀ c,rc y≠.cm c)∨∃ x1∈xs++[x],rc x1= .cm S'.last∧S'.la=x1∧∀ x'∈xs++[x],∀ c,rc x'= .cm c→c.ep.toNat≤S'.last.ep.toNat:=fun S' e1 e2=>by
   rw [e1,e2]
   rcases I.cm with ⟨h1,h2⟩ | ⟨x1,h1,h2,h3,h4⟩
   ·exact .inl ⟨h1,fun y hy c=>by rcases hmem.1 hy with h | rfl;exact h2 y h c;rw [hr];exact fun h=>by cases h⟩
   ·exact .inr ⟨x1,hmem.2 (.inl h1),h2,h3,fun y hy c hc=>by rcases hmem.1 hy with h | rfl;exact h4 y h c hc;rw [hr] at hc;cases hc⟩
  rw [Aqn]
  by_cases hc:(!S.viewed || decide ((v.num.toNat:Int)≥(S.vw.num.toNat:Int)))=true
  ·rw [if_pos hc]
   refine ⟨hcm _ rfl rfl,.inr ⟨x,hmem.2 (.inr rfl),v,hr,rfl,rfl,rfl,fun y hy v' hv'=> ?_⟩,fun y hy k e b he=>I.lo y (hlo y hy k e b he) k e b he,fun t ht=>I.hi t fun y hy=>ht y (hmem.2 (.inl hy))⟩
   rcases hmem.1 hy with h | rfl
   ·rcases I.vw with ⟨_,_,h3⟩ | ⟨x1,h1,w,h2,h3,h4,h5,h6⟩
    ·exact absurd hv' (h3 y h v')
    ·simp only [h5,A41,A40,A3j] at hc
     rw [h3] at hc
     have hc:(v.num.toNat:Int)≥(w.num.toNat:Int):=hc
     exact ⟨by have:=(h6 y h v' hv').1;omega,fun _=> .inr (hbf y h)⟩
   ·rw [hr] at hv';cases hv';exact ⟨A5q _,fun _=> .inl rfl⟩
  ·rw [if_neg hc]
   refine ⟨hcm _ rfl rfl,.inr ?_,fun y hy k e b he=>I.lo y (hlo y hy k e b he) k e b he,fun t ht=>I.hi t fun y hy=>ht y (hmem.2 (.inl hy))⟩
   rcases I.vw with ⟨h1,_⟩ | ⟨x1,h1,w,h2,h3,h4,h5,h6⟩
   ·rw [h1] at hc;exact absurd rfl hc
   ·refine ⟨x1,hmem.2 (.inl h1),w,h2,h3,h4,h5,fun y hy v' hv'=> ?_⟩
    rcases hmem.1 hy with h | rfl
    ·exact h6 y h v' hv'
    ·rw [hr] at hv'
     cases hv'
     simp only [h5,A41,A40,A3j] at hc
     rw [h3] at hc
     have hc:¬ (v.num.toNat:Int)≥(w.num.toNat:Int):=hc
     exact ⟨by omega,fun e=>by rw [e] at hc;omega⟩
structure OpfI (l:Cm) (fs:List Fd) (m:Mp En×Mp Int):Prop where
 ix:∀ k en,m.1.get k=some en→Bj l.lv k=true∧⟨en,k⟩∈fs∧en.ep.toNat≤l.ep.toNat∧∀ f∈fs,f.key=k→f.en.ep.toNat≤l.ep.toNat→f.en.ep.toNat≤en.ep.toNat
 no:∀ k,m.1.get k=none→Bj l.lv k=true→∀ f∈fs,f.key=k→l.ep.toNat<f.en.ep.toNat
 st:∀ k,(m.2.get k).isSome=true↔∃ f∈fs,f.key=k∧l.ep.toNat<f.en.ep.toNat
theorem Arh {S:Sto}:∀ fs:List Fd,OpfI S.last fs (Vy S fs):=by
 refine Ael ⟨fun k en h=>(by cases h),fun k _ _ f h=>(by cases h),fun k=>⟨fun h=>(by cases h),fun ⟨f,h,_⟩=>(by cases h)⟩⟩ ?_
 intro fs f I
 have hst:Vy S (fs++[f])=opf S (Vy S fs) f:=by unfold Vy;rw [A28];rfl
 rw [hst]
 generalize Vy S fs=m at I ⊢
 have hmem:∀ {g},g∈fs++[f]↔g∈fs∨g=f:=fun {g}=>by simp
 unfold opf
 by_cases h1:decide ((f.en.ep.toNat:Int)>(S.last.ep.toNat:Int))=true
 ·rw [if_pos h1]
  simp only [A3j] at h1
  refine ⟨fun k en hk=> ?_,fun k hk hl g hg hgk=> ?_,fun k=> ?_⟩
  ·obtain ⟨a,b,c,d⟩:=I.ix k en hk
   exact ⟨a,hmem.2 (.inl b),c,fun g hg hgk hge=>by rcases hmem.1 hg with h | rfl;exact d g h hgk hge;omega⟩
  ·rcases hmem.1 hg with h | rfl
   ·exact I.no k hk hl g h hgk
   ·omega
  ·simp only
   rw [Mp.get_put]
   by_cases e:k=f.key
   ·rw [if_pos e]
    exact ⟨fun _=>⟨f,hmem.2 (.inr rfl),e.symm,by omega⟩,fun _=>rfl⟩
   ·rw [if_neg e,I.st k]
    constructor
    ·rintro ⟨g,a,b⟩;exact ⟨g,hmem.2 (.inl a),b⟩
    ·rintro ⟨g,a,b,c⟩
     rcases hmem.1 a with h | rfl
     ·exact ⟨g,h,b,c⟩
     ·exact absurd b.symm e
 ·rw [if_neg h1]
  simp only [A3j] at h1
  have hle:f.en.ep.toNat≤S.last.ep.toNat:=by omega
  have hst2:∀ k,(m.2.get k).isSome=true↔∃ g∈fs++[f],g.key=k∧S.last.ep.toNat<g.en.ep.toNat:=fun k=>by
   rw [I.st k]
   constructor
   ·rintro ⟨g,a,b⟩;exact ⟨g,hmem.2 (.inl a),b⟩
   ·rintro ⟨g,a,b,c⟩
    rcases hmem.1 a with h | rfl
    ·exact ⟨g,h,b,c⟩
    ·omega
  by_cases h2:(Bj S.last.lv f.key && (!(m.1.get f.key).isSome || decide ((f.en.ep.toNat:Int)≥((Ru m.1 f.key).ep.toNat:Int))))=true
  ·rw [if_pos h2]
   simp only [A3n,A36,A23,A3j] at h2
   obtain ⟨hl,h3⟩:=h2
   refine ⟨fun k en hk=> ?_,fun k hk hl g hg hgk=> ?_,hst2⟩
   ·simp only at hk
    rw [Mp.get_put] at hk
    by_cases e:k=f.key
    ·rw [if_pos e] at hk
     have:=A4o hk
     subst this
     subst e
     refine ⟨hl,hmem.2 (.inr rfl),hle,fun g hg hgk hge=> ?_⟩
     rcases hmem.1 hg with h | rfl
     ·cases hm:m.1.get f.key with
      | none=>have:=I.no _ hm hl g h hgk;omega
      | some en =>
       have h4:=(I.ix _ _ hm).2.2.2 g h hgk hge
       rcases h3 with h3 | h3
       ·rw [hm] at h3;cases h3
       ·have:Ru m.1 f.key=en:=by unfold Ru;rw [hm]
        rw [this] at h3
        omega
     ·exact A5q _
    ·rw [if_neg e] at hk
     obtain ⟨a,b,c,d⟩:=I.ix k en hk
     exact ⟨a,hmem.2 (.inl b),c,fun g hg hgk hge=>by rcases hmem.1 hg with h | rfl;exact d g h hgk hge;exact absurd hgk.symm e⟩
   ·simp only at hk
    rw [Mp.get_put] at hk
    by_cases e:k=f.key
    ·rw [if_pos e] at hk;cases hk
    ·rw [if_neg e] at hk
     rcases hmem.1 hg with h | rfl
     ·exact I.no k hk hl g h hgk
     ·exact absurd hgk.symm e
  ·rw [if_neg h2]
   refine ⟨fun k en hk=> ?_,fun k hk hl g hg hgk=> ?_,hst2⟩
   ·obtain ⟨a,b,c,d⟩:=I.ix k en hk
    refine ⟨a,hmem.2 (.inl b),c,fun g hg hgk hge=> ?_⟩
    rcases hmem.1 hg with h | rfl
    ·exact d g h hgk hge
    ·subst hgk
     have:Ru m.1 g.key=en:=by unfold Ru;rw [hk]
     rw [hk,a,this] at h2
     simp at h2
     omega
   ·rcases hmem.1 hg with h | rfl
    ·exact I.no k hk hl g h hgk
    ·subst hgk
     rw [hk,hl] at h2
     simp at h2
theorem tkl_mem {rc:Pl2→Rc} {xs:List Pl2} {f:Fd}:f∈tkl rc xs↔∃ b,f.en.at'∈xs∧rc f.en.at'= .nd f.key f.en.ep b:=by
 unfold tkl
 rw [List.mem_filterMap]
 constructor
 ·rintro ⟨x,h1,h2⟩
  cases hr:rc x with
  | nd k e b =>
   rw [hr] at h2
   have:=A4o h2
   subst this
   exact ⟨b,h1,hr⟩
  | cm c=>rw [hr] at h2;cases h2
  | vw v=>rw [hr] at h2;cases h2
 ·rintro ⟨b,h1,h2⟩
  exact ⟨_,h1,by rw [h2];rfl⟩
theorem Nn:Db lv0 256=[]:=by decide +kernel
theorem Alz (f:NdM):Wa lv0 f=0:=by unfold Wa;rw [Nn];rfl
section
variable {A:Ab} {z:Sg} {rc:Pl2→Rc} {xs:List Pl2} {st lg ib pb sb:Nat}
theorem FlatR.cm (h:FlatR z rc xs) {x:Pl2} {c:Cm} (hx:RecAt z x (Rc.cm c).pg):x∈xs∧rc x= .cm c:=by
 have h1:=h.all x (.cm c) trivial hx
 obtain ⟨h2,h3⟩:=h.rcd x h1
 exact ⟨h1,Alw h2 (h3.fn hx)⟩
theorem FlatR.vw (h:FlatR z rc xs) {x:Pl2} {v:Vw} (hx:RecAt z x (Rc.vw v).pg):x∈xs∧∃ v',rc x= .vw v'∧vwM v'=vwM v:=by
 have h1:=h.all x (.vw v) trivial hx
 obtain ⟨h2,h3⟩:=h.rcd x h1
 exact ⟨h1,Alx h2 (h3.fn hx)⟩
theorem FlatR.nd (h:FlatR z rc xs) {x:Pl2} {k:Int} {e:Wd} {b:List By} (hk:Bh k b=true) (hx:RecAt z x (Rc.nd k e b).pg):x∈xs∧rc x= .nd k e b:=by
 have h1:=h.all x (.nd k e b) hk hx
 obtain ⟨h2,h3⟩:=h.rcd x h1
 exact ⟨h1,Aly h2 hk (h3.fn hx)⟩
theorem Tl.opened (hT:Tl A z) (hd:Sd A z.L.nb) (hF:FlatR z rc xs) (hS:z.S=Aeb rc (J4 st lg ib pb sb) xs) (hfr:1≤fr z) :
  ∃ A',Std A' z∧A'.last=A.last∧A'.vw=A.vw∧A'.viewed=A.viewed∧A'.ix=A.ix ∧
   ∀ t:Nat,A.last.ep.toNat≤t→(∀ x k e b,Bh k b=true→RecAt z x (Rc.nd k e b).pg→e.toNat≤t)→A'.seen.toNat≤t:=by
 have I:=Avc (z:=z) (rc:=rc) (st:=st) (lg:=lg) (ib:=ib) (pb:=pb) (sb:=sb) xs hF.ord
 have J:=Arh (S:=tks rc (J4 st lg ib pb sb) xs) (tkl rc xs)
 have hsm:=Vz rc xs (J4 st lg ib pb sb)
 unfold Aeb at hS
 generalize tks rc (J4 st lg ib pb sb) xs=T at I J hsm hS
 generalize Vy T (tkl rc xs)=m at J hS
 have e1:z.S.last=T.last:=by rw [hS]
 have e2:z.S.vw=T.vw:=by rw [hS]
 have e3:z.S.viewed=T.viewed:=by rw [hS]
 have e4:z.S.la=T.la:=by rw [hS]
 have e5:z.S.va=T.va:=by rw [hS]
 have e6:z.S.idx=m.1:=by rw [hS]
 have e7:z.S.stray=m.2:=by rw [hS]
 have e8:z.S.seen=Jg T.seen T.last.ep:=by rw [hS]
 have e9:z.S.pend=Mp.nil:=by rw [hS];exact hsm.pend
 have e10:z.S.hurt=(!decide (((L6 m.1).toNat:Int)=(T.last.sum.toNat:Int)) || !decide ((m.1.es.length:Int)=((Db T.last.lv 256).length:Int))):=by rw [hS]
 have hcmR:∀ x∈xs,∀ c,rc x= .cm c→RecAt z x (Rc.cm c).pg:=fun x hx c hc=>by have:=(hF.rcd x hx).2;rwa [hc] at this
 have hvwR:∀ x∈xs,∀ v,rc x= .vw v→RecAt z x (Rc.vw v).pg:=fun x hx v hc=>by have:=(hF.rcd x hx).2;rwa [hc] at this
 have hlast:T.last=A.last∧(0<A.last.ep.toNat→RecAt z T.la (Rc.cm A.last).pg):=by
  rcases I.cm with ⟨h1,h2⟩ | ⟨x,h1,h2,h3,h4⟩
  ·have h0:¬ 0<A.last.ep.toNat:=fun h0=>by
    obtain ⟨x,hx⟩:=hT.la h0
    obtain ⟨h5,h6⟩:=hF.cm hx
    exact h2 x h5 _ h6
   exact ⟨by rw [h1,hd.l0 (by omega)],fun h=>absurd h h0⟩
  ·have hR:=hcmR x h1 _ h2
   obtain ⟨c1,c2,c3⟩:=hT.cm x _ hR
   obtain ⟨xA,hxA⟩:=hT.la (by omega)
   obtain ⟨h5,h6⟩:=hF.cm hxA
   have h7:=h4 xA h5 _ h6
   have h8:T.last.ep=A.last.ep:=A1s (by omega)
   have h9:=c3 h8
   exact ⟨h9,fun _=>by rw [h3,← h9];exact hR⟩
 obtain ⟨hl,hla⟩:=hlast
 have hview:T.viewed=A.viewed∧T.vw=A.vw∧(A.viewed=true→(∃ v,vwM v=A.vw∧RecAt z T.va (Rc.vw v).pg)∧∀ x' v',RecAt z x' (Rc.vw v').pg→v'.num=A.vw.num→vwM v'=A.vw∨bef z x' T.va):=by
  rcases I.vw with ⟨h1,h2,h3⟩ | ⟨x,h1,v,h2,h3,h4,h5,h6⟩
  ·have h0:A.viewed=false:=by
    cases hv:A.viewed with
    | false=>rfl
    | true =>
     obtain ⟨x,v,_,hx,_⟩:=hT.va hv
     obtain ⟨h5,v',h6,_⟩:=hF.vw hx
     exact absurd h6 (h3 x h5 v')
   exact ⟨by rw [h1,h0],by rw [h2,hd.v0 h0],fun h=>by rw [h0] at h;cases h⟩
  ·have hR:=hvwR x h1 _ h2
   obtain ⟨g1,g2⟩:=hT.vs x v hR
   obtain ⟨xA,vA,a1,a2,a3⟩:=hT.va g1
   obtain ⟨a4,v',a5,a6⟩:=hF.vw a2
   obtain ⟨a7,a8⟩:=h6 xA a4 v' a5
   have n1:v'.num=A.vw.num:=by
    have h9:(vwM v').num=A.vw.num:=by rw [a6,a1]
    exact h9
   have n2:v.num=A.vw.num:=A1s (by rw [n1] at a7;omega)
   have hv:vwM v=A.vw:=by
    rcases a3 x v hR n2 with h9 | h9
    ·exact h9
    ·rcases a8 (by rw [n1,n2]) with h10 | h10
     ·rw [h10] at h9;exact absurd h9 Ava
     ·exact (Arg h9 h10).elim
   refine ⟨by rw [h5,g1],by rw [h3,hv],fun _=>⟨⟨v,hv,by rw [h4];exact hR⟩,fun x' v2 hx' hn=> ?_⟩⟩
   obtain ⟨b1,v3,b2,b3⟩:=hF.vw hx'
   have n3:v3.num=v2.num:=by
    have h9:(vwM v3).num=(vwM v2).num:=by rw [b3]
    exact h9
   rcases (h6 x' b1 v3 b2).2 (by rw [n3,hn,n2]) with h9 | h9
   ·left
    subst h9
    rw [h2] at b2
    cases b2
    rw [← b3,hv]
   ·right;rw [h4];exact h9
 obtain ⟨hv1,hv2,hv3⟩:=hview
 rw [hl] at J
 have hndR:∀ x∈xs,∀ k e b,rc x= .nd k e b→Bh k b=true∧RecAt z x (Rc.nd k e b).pg:=fun x hx k e b hc=>by
  obtain ⟨h1,h2⟩:=hF.rcd x hx
  rw [hc] at h1 h2
  exact ⟨h1,h2⟩
 have hix:Stands z m.1 A.ix:=fun k=>by
  cases hi:A.ix k with
  | none =>
   show m.1.get k=none
   cases hm:m.1.get k with
   | none=>rfl
   | some en =>
    have h1:=(J.ix k en hm).1
    rw [← hd.live k,hi] at h1
    cases h1
  | some r =>
   obtain ⟨e,b⟩:=r
   obtain ⟨hok,x,hx⟩:=hT.ix k e b hi
   obtain ⟨x1,x2⟩:=hF.nd hok hx
   have hlv:Bj A.last.lv k=true:=by rw [← hd.live k,hi];rfl
   have hle:=hd.ep k e b hi
   have hf:(⟨⟨x,e⟩,k⟩:Fd)∈tkl rc xs:=tkl_mem.2 ⟨b,x1,x2⟩
   cases hm:m.1.get k with
   | none=>have:=J.no k hm hlv _ hf rfl;simp only at this;omega
   | some en =>
    obtain ⟨_,j1,j2,j3⟩:=J.ix k en hm
    obtain ⟨b',j4,j5⟩:=tkl_mem.1 j1
    obtain ⟨j6,j7⟩:=hndR _ j4 _ _ _ j5
    have j8:=j3 _ hf rfl hle
    obtain ⟨e2,b2,j9,j10,j11⟩:=hT.nd _ _ _ _ j6 j7 j2 hlv
    have j9:A.ix k=some (e2,b2):=j9
    have j10:en.ep.toNat≤e2.toNat:=j10
    rw [hi] at j9
    have j12:=A4o j9
    simp only [A48] at j12
    obtain ⟨rfl,rfl⟩:=j12
    simp only at j8
    have j13:en.ep=e:=A1s (by omega)
    have j14:=j11 j13
    subst j14
    exact ⟨en,rfl,j13,hok,by rw [← j13];exact j7⟩
 have hstray:∀ x k e b,Bh k b=true→RecAt z x (Rc.nd k e b).pg→A.last.ep.toNat<e.toNat→(m.2.get k).isSome=true:=fun x k e b h1 h2 h3=>by
  obtain ⟨h4,h5⟩:=hF.nd h1 h2
  exact (J.st k).2 ⟨⟨⟨x,e⟩,k⟩,tkl_mem.2 ⟨b,h4,h5⟩,rfl,h3⟩
 have hsum:L6 m.1=Wa A.last.lv A.ix:=Aa5 hix hd.live
 have hkeys:=Yz (l:=A.last.lv) fun k=>(hix.isSome k).trans (hd.live k)
 refine ⟨{ A with seen:=z.S.seen,stray:=fun k=>(z.S.stray.get k).isSome },⟨⟨e1.trans hl,e2.trans hv2,e3.trans hv1,by rw [e6];exact hix,fun k=>by show z.S.pend.get k=none;rw [e9];rfl,fun h0=>by rw [e4];exact hla h0,fun h0=>by rw [e5];exact (hv3 h0).1,hT.kd,fun x k e b h1 h2=> .inl ⟨?_,fun h3=> ?_,fun h3 h4=>hT.nd x k e b h1 h2 h4 h3⟩,hT.cm,fun x v hx=>⟨(hT.vs x v hx).1,(hT.vs x v hx).2,fun hn=> ?_⟩⟩,rfl,fun _=>rfl,fun k hk=> ?_,?_,hd.live,hd.ep,?_,hd.l0,hd.sum,hd.lim,hd.nb4,hfr,hd.vwm,hd.v0⟩,rfl,rfl,rfl,rfl,fun t h1 h2=> ?_⟩
 ·show e.toNat≤z.S.seen.toNat
  obtain ⟨h4,h5⟩:=hF.nd h1 h2
  have:=I.lo x h4 k e b h5
  rw [e8,Jc]
  omega
 ·have h3:(z.S.stray.get k).isSome=false:=h3
  rw [e7] at h3
  show e.toNat≤A.last.ep.toNat
  by_cases h4:A.last.ep.toNat<e.toNat
  ·rw [hstray x k e b h1 h2 h4] at h3;cases h3
  ·omega
 ·show vwM v=A.vw∨bef z x z.S.va
  rw [e5]
  exact (hv3 (hT.vs x v hx).1).2 x v hx hn
 ·have hk:(z.S.stray.get k).isSome=true:=hk
  rw [e7] at hk
  obtain ⟨f,h1,rfl,_⟩:=(J.st k).1 hk
  obtain ⟨b,h3,h4⟩:=tkl_mem.1 h1
  have:=(hndR _ h3 _ _ _ h4).1
  unfold Bh at this
  simp only [A3n] at this
  exact this.1
 ·rw [e10,hl,hsum]
  have h1:A.last.sum=Wa A.last.lv A.ix:=by
   by_cases h0:0<A.last.ep.toNat
   ·exact hd.sum h0
   ·rw [hd.l0 (by omega)];exact (Alz _).symm
  rw [← h1]
  have h2:m.1.es.length=(Db A.last.lv 256).length:=by
   rw [← hkeys,(Bt _).length_eq,Mp.keys_len]
  rw [h2]
  simp
 ·show A.last.ep.toNat≤z.S.seen.toNat
  rw [e8,Jc,hl]
  omega
 ·show z.S.seen.toNat≤t
  rw [e8,Jc,hl]
  have:=I.hi t fun x hx k e b hr=>by
   obtain ⟨h3,h4⟩:=hndR x hx k e b hr
   exact h2 x k e b h3 h4
  omega
end
end
section
open Go.K
variable {T:TypeId}
def ab0:Ab:=⟨cm0,vw0,false,0,fun _=>false,fun _=>none⟩
theorem Laid11.std {m:Nat} {z:Sg} (h:Laid11 m z) (hm:16≤m∧m≤40):Std ab0 z:=by
 obtain ⟨st,lg,ib,pb,sb,hS⟩:=h.sto
 have hlv:∀ k,Bj lv0 k=false:=fun k=>by
  cases hk:Bj lv0 k with
  | false=>rfl
  | true=>have:=keysL_mem.2 hk;rw [Nn] at this;cases this
 refine ⟨⟨by rw [hS];rfl,by rw [hS];rfl,by rw [hS];rfl,fun k=>by show z.S.idx.get k=Option.none;rw [hS];rfl,fun k=>by show z.S.pend.get k=Option.none;rw [hS];rfl,fun h0=>absurd h0 (by decide),fun h0=>(by cases h0),fun x p hx=>absurd hx (h.none x p),fun x k e b _ hx=>absurd hx (h.none x _),fun x c hx=>absurd hx (h.none x _),fun x v hx=>absurd hx (h.none x _)⟩,
  by rw [hS];rfl,fun k=>by rw [hS];rfl,fun k hk=>(by cases hk),by rw [hS];rfl,fun k=>(hlv k).symm,fun k e b hi=>(by cases hi),A5q _,fun _=>rfl,fun h0=>absurd h0 (by decide),?_,?_,?_,fun h0=>(by cases h0),fun _=>rfl⟩
 ·show ((Db lv0 256).length:Int)≤Jr z.L.nb
  rw [Nn]
  unfold Jr
  show (0:Int)≤_
  omega
 ·have:=h.nb;omega
 ·unfold fr;rw [h.free];have:=h.nb;omega
def A0m (n k:Nat) (q:Qt) (A:Ab) (z:Sg) (ep:Wd) (cs:List Chg) (e:Int) (z':Sg):Prop :=
 WI n (k+100000000) q z'∧FrA z.L.d.c z'.L.d.c∧((Bn z ep cs=true∧e=1∧z'=z)∨(Bn z ep cs=false∧Bv z cs=true∧e=40∧z'=z)∨(Bn z ep cs=false∧Bv z cs=false∧e=0∧∃ A',ComA A ep cs A'∧Std A' z'))
section
variable {n k:Nat} {q:Qt} {A:Ab} {z:Sg}
theorem Wb (h:Std A z) (hw:WI n k q z) (hk:k≤100000000000) (hq:q.n≤3) (haf:z.L.d.c.after<0) (h13:z.L.nb≤40) {ep:Wd} {cs:Sl Chg} (hcn:cs.list.length≤300) :
  Does Tryz.prog 16 [ptr z.S.st,wv ep,cs.val] (Cn T::(z.S.st,true,C (stC z.S) tSt)::(z.S.ib,true,z.S.idx.obj .i64)::(z.S.pb,true,z.S.pend.obj .i64)::(z.S.sb,true,z.S.stray.obj .i64)::(lgH z.L++(cs.hp tCg++(cbH cs.list++[]))))
  (fun v H=>∃ (e:Int) (z':Sg),v= .int .i64 e∧H=Cn T::(z'.S.st,true,C (stC z'.S) tSt)::(z'.S.ib,true,z'.S.idx.obj .i64)::(z'.S.pb,true,z'.S.pend.obj .i64)::(z'.S.sb,true,z'.S.stray.obj .i64)::(lgH z'.L++(cs.hp tCg++(cbH cs.list++[])))∧z'.S.st=z.S.st∧A0m n k q A z ep cs.list e z'∧Tt n q z ep cs.list (B5 A.ix) e z'):=by
 refine (Yv (bi:=B5 A.ix) hw (by omega) hq hcn h.hm h.hA (fun hb=> ?_) (fun hb hf=>h.hS hw.lw (by omega) h13 hb hf) (fun hb hf=>h.hE hw.lw (by omega) h13 hb hf)).mono ?_
 ·have h1:=h.nds_len hb
  have h2:=Hm (B7 z cs.list) 256
  omega
 ·rintro v H ⟨e,z',rfl,rfl,hst,hR,hW⟩
  refine ⟨e,z',rfl,rfl,hst,?_,hR⟩
  rcases hR with ⟨h1,rfl,rfl⟩ | ⟨h1,h2,rfl,rfl⟩ | ⟨h1,h2,e1,z1,h3,h4⟩
  ·exact ⟨hW (by decide),.refl _,.inl ⟨h1,rfl,rfl⟩⟩
  ·exact ⟨hW (by decide),.refl _,.inr (.inl ⟨h1,h2,rfl,rfl⟩)⟩
  ·rcases h4 with ⟨g1,rfl,rfl⟩ | ⟨rfl,m,z2,g2,g3,rfl⟩
   ·exact absurd (h.commit (m:=Mp.nil) (z2:=z1) (e:=0) hw.lw (by omega) h1 h2 h3 (.inr haf)).1 g1
   ·obtain ⟨_,_,g4⟩:=h.commit (m:=m) (z2:=z2) (e:=e) hw.lw (by omega) h1 h2 h3 (.inr haf)
    obtain ⟨g5,g6,A',g7,g8⟩:=g4 g2 g3 (.inr haf)
    subst g5
    exact ⟨hW (by decide),g6,.inr (.inr ⟨h1,h2,rfl,A',g7,g8⟩)⟩
end
open Classical in
noncomputable def Ari (z:Sg) (x:Pl2):Rc:=if h:∃ r:Rc,r.ok∧RecAt z x r.pg then h.choose else .cm cm0
theorem Ai2 {z:Sg} (hk:∀ x p,RecAt z x p→(Ee p).2.2.2=0→∃ r:Rc,r.ok∧p=r.pg) {x:Pl2} {p:Pg} (h:RecAt z x p) (hg:(Ee p).2.2.2=0):(Ari z x).ok∧p=(Ari z x).pg:=by
 obtain ⟨r,h1,rfl⟩:=hk x p h hg
 have he:∃ r:Rc,r.ok∧RecAt z x r.pg:=⟨r,h1,h⟩
 unfold Ari
 rw [A55 he]
 exact ⟨he.choose_spec.1,h.fn he.choose_spec.2⟩
section
variable {n k:Nat} {q:Qt} {A:Ab} {z:Sg}
theorem Al0 {d:Dsk} {t2:TS} {nb:Nat} {V:Nat→Blk} {sq:Nat→Wd} (hb:2≤d.c.blocks.length∧d.c.blocks.length≤1000) (ho:Dk d.c=(0,t2)) (hv:DV d.c t2 n k V) (ha:Acc q d.c t2) (hn:nb+6=n) (hC:LogC nb k V sq z.R)
  (h1:z.L.nb=nb) (h2:∀ j<nb,(bAt z.L.bs j).seq=sq j) (hT:Tl A z) (hd:Sd A nb) (hf:1≤fr z) (h13:nb≤40) :
  Does Tryz.prog 26 [ptr d.c.aC] (dkH d)
  (fun v H=>∃ z':Sg,v=ptr z'.S.st∧H=(z'.S.st,true,C (stC z'.S) tSt)::(z'.S.ib,true,z'.S.idx.obj .i64)::(z'.S.pb,true,z'.S.pend.obj .i64)::(z'.S.sb,true,z'.S.stray.obj .i64)::(lgH z'.L++[])∧WI n k q z'∧z'.L.d.c=d.c∧z'.L.nb=nb∧∃ A',Std A' z'∧A'.last=A.last∧A'.vw=A.vw∧A'.viewed=A.viewed∧A'.ix=A.ix ∧
   ∀ t:Nat,A.last.ep.toNat≤t→(∀ x k e b,Bh k b=true→RecAt z x (Rc.nd k e b).pg→e.toNat≤t)→A'.seen.toNat≤t):=by
 have hO:=hC.opened.2
 have hfr:B6 (D2 V nb).1 nb=fr z:=by
  unfold fr
  rw [h1]
  exact Gu nb fun j hj=>by rw [hO j hj,h2 j hj]
 refine (Agw (rc:=Ari z) hb ho hv ha hn hC (by rw [hfr];omega) (fun b j p hb hp hg=>Ai2 hT.kd ⟨b,j,rfl,by rw [h1];exact hb,hp⟩ hg)).mono ?_
 rintro v H ⟨z',rfl,rfl,hW,g1,g2,g3,g4,ss,st,lg,ib,pb,sb,g5,g6⟩
 have hT':Tl A z':=hT.of (g2.trans h1.symm) g1 fun j hj=>by rw [h1] at hj;rw [g4 j hj,h2 j hj]
 have hF:FlatR z' (Ari z) (G0 ss):=Avb hW g5 fun b j p hb hp hg=>Ai2 hT.kd ⟨b,j,rfl,by rw [h1,← g2];exact hb,by rw [← g1];exact hp⟩ hg
 have hfr':fr z'=fr z:=by
  unfold fr
  rw [g2,h1]
  exact Gu nb fun j hj=>by rw [g4 j hj,h2 j hj]
 obtain ⟨A',a1,a2,a3,a4,a5,a6⟩:=hT'.opened (by rw [g2];exact hd) hF g6 (by rw [hfr'];exact hf)
 refine ⟨z',rfl,rfl,hW,g3,g2,A',a1,a2,a3,a4,a5,fun t ht hx=>a6 t ht fun x k e b hk hr=>hx x k e b hk ?_⟩
 obtain ⟨b',j,e1,e2,e3⟩:=hr
 exact ⟨b',j,e1,by rw [h1,← g2];exact e2,by rw [← g1];exact e3⟩
end
end
section
open Go.K
def Ayg (sq:Nat→Wd) (nb:Nat):List LB:=(List.range nb).map fun j=>⟨0,false,sq j,false,8⟩
theorem Avd {sq:Nat→Wd} {nb j:Nat} (h:j<nb):(bAt (Ayg sq nb) j).seq=sq j:=by
 unfold bAt Ayg
 simp only [A00,A29,A2k h,A4n,A32]
def Aem (z:Sg) (sq:Nat→Wd) (R:Nat→List Pg) (last:Int):Sg:=⟨z.S,{ z.L with bs:=Ayg sq z.L.nb,last:=last },R⟩
structure GrwO (z zv:Sg):Prop where
 S:zv.S=z.S
 nb:zv.L.nb=z.L.nb
 old:∀ x r,RecAt z x r→RecAt zv x r
 inv:∀ x r,RecAt zv x r→(Ee r).2.2.2=0→RecAt z x r
 sq:∀ b:Nat,b<z.L.nb→(bAt z.L.bs b).seq.toNat≠0→(bAt zv.L.bs b).seq=(bAt z.L.bs b).seq
theorem Aen {k:Nat} {z zv:Sg} {p:Pg} {l:Nat} (hw:LW k z) (hl:l<z.L.nb) (h1:zv.S=z.S) (h2:zv.L.nb=z.L.nb) (h3:zv.R=upR z.R l (z.R l++[p])) (h4:∀ b<z.L.nb,b≠l→(bAt zv.L.bs b).seq=(bAt z.L.bs b).seq)
  (h5:((bAt z.L.bs l).seq.toNat≠0∧z.L.last=l∧(bAt zv.L.bs l).seq=(bAt z.L.bs l).seq)∨((bAt z.L.bs l).seq.toNat=0∧∀ b<z.L.nb,(bAt z.L.bs b).seq.toNat<(bAt zv.L.bs l).seq.toNat)) (h6:zv.L.last=l) :
  NewAt z p ((l:Int),((2+(z.R l).length:Nat):Int)) zv:=by
 have hnR:(bAt z.L.bs l).seq.toNat=0→z.R l=[]:=hw.z0 l hl
 refine ⟨h1,h2,⟨l,(z.R l).length,rfl,by rw [h2];exact hl,by rw [h3,Hn,A01 (A5q _)];simp⟩,fun x r hx=>⟨?_,?_⟩,fun x r hx=> ?_,fun b hb1 hb2 hb3=>⟨?_,?_,?_⟩,fun b hb1 hb2=> ?_,fun x r hx=> ?_⟩
 ·obtain ⟨b,j,rfl,hb1,hp⟩:=hx
  refine ⟨b,j,rfl,by rw [h2];exact hb1,?_⟩
  rw [h3]
  by_cases e:b=l
  ·subst e
   rw [Hn,A07 (A08.1 hp).1];exact hp
  ·rw [Ep e];exact hp
 ·obtain ⟨b,j,rfl,hb1,hp⟩:=hx
  intro e9
  have e1:b=l:=by have:=A52 Prod.fst e9;simp only at this;omega
  have e2:j=(z.R l).length:=by have:=A52 Prod.snd e9;simp only at this;omega
  subst e1 e2
  have:=(A08.1 hp).1
  omega
 ·obtain ⟨b,j,rfl,hb1,hp⟩:=hx
  rw [h2] at hb1
  rw [h3] at hp
  by_cases e:b=l
  ·subst e
   rw [Hn] at hp
   by_cases hj:j<(z.R b).length
   ·rw [A07 hj] at hp
    exact .inl ⟨b,j,rfl,hb1,hp⟩
   ·have hj2:=(A08.1 hp).1
    simp only [A2x,A1z] at hj2
    have:j=(z.R b).length:=by omega
    subst this
    rw [A01 (A5q _)] at hp
    simp at hp
    exact .inr ⟨rfl,hp.symm⟩
  ·rw [Ep e] at hp
   exact .inl ⟨b,j,rfl,hb1,hp⟩
 ·intro e
  have e:(l:Int)=b:=e
  have:l=b:=by omega
  subst this
  rcases h5 with ⟨_,h,_⟩ | ⟨h,_⟩
  ·exact hb3 h.symm
  ·exact hb2 h
 ·rw [h6]
  intro e
  have:l=b:=by omega
  subst this
  rcases h5 with ⟨_,h,_⟩ | ⟨h,_⟩
  ·exact hb3 h.symm
  ·exact hb2 h
 ·rw [h3]
  refine Ep fun e=> ?_
  subst e
  rcases h5 with ⟨_,h,_⟩ | ⟨h,_⟩
  ·exact hb3 h.symm
  ·exact hb2 h
 ·by_cases e:b=l
  ·subst e
   rcases h5 with ⟨_,_,h⟩ | ⟨h,_⟩
   ·exact h
   ·exact absurd h hb2
  ·exact h4 b hb1 e
 ·obtain ⟨b,j,rfl,hb1,hp⟩:=hx
  unfold Go.Proofs.YtpmojdippdlcaaaGreatDoor.bef
  by_cases e:b=l
  ·subst e
   have:=(A08.1 hp).1
   exact .inr ⟨rfl,by simp only;omega⟩
  ·refine .inl ?_
   unfold sqz
   simp only [A24]
   rw [h4 b hb1 e]
   rcases h5 with ⟨h,h7,h8⟩ | ⟨h,h7⟩
   ·rw [h8]
    rcases hw.lst with ⟨q1,q2⟩ | ⟨l',q1,q2,q3,q4⟩
    ·omega
    ·have:l'=l:=by omega
     subst this
     exact q4 b hb1 e
   ·exact h7 b hb1
theorem GrowZ.law {k:Nat} {z:Sg} {p:Pg} {sq:Nat→Wd} {R':Nat→List Pg} (hw:LW k z) (h:GrowZ z.L.nb z.L.bs z.L.last z.R p sq R') :
  ∃ zv:Sg,zv.S=z.S∧zv.L.nb=z.L.nb∧zv.R=R'∧(∀ j<z.L.nb,(bAt zv.L.bs j).seq=sq j)∧fr z≤fr zv+1∧(GrwO z zv∨∃ y,NewAt z p y zv):=by
 have hat:∀ sq R last,∀ j<z.L.nb,(bAt (Aem z sq R last).L.bs j).seq=sq j:=fun sq R last j hj=>Avd hj
 have hfs:∀ R last,fr (Aem z (sqB z.L.bs) R last)=fr z:=fun R last=>Gu z.L.nb fun j hj=>by rw [hat _ R last j hj];exact Iff.rfl
 have hfu:∀ {to:Nat} {x:Wd} (R:Nat→List Pg) (last:Int),to<z.L.nb→(bAt z.L.bs to).seq.toNat=0→x.toNat≠0→fr (Aem z (L5 (sqB z.L.bs) to x) R last)+1=fr z:=fun {to x} R last h1 h2 h3=>by
  refine Nm h2 ?_ z.L.nb h1 fun j hj hne=> ?_
  ·rw [hat _ R last to h1];unfold L5;rw [if_pos rfl];exact h3
  ·rw [hat _ R last j hj];unfold L5;rw [if_neg hne];rfl
 have hsN:∀ {to:Nat},to<z.L.nb→(∀ j<z.L.nb,(bAt z.L.bs j).seq.toNat<(seqN z.L.bs z.L.last).toNat)→(seqN z.L.bs z.L.last).toNat≠0:=fun {to} h1 h2=>by
  have:=h2 to h1
  omega
 have junk:∀ {l:Nat} {x:Pg} {sq:Nat→Wd} {last:Int},Agn x→(∀ b<z.L.nb,(bAt z.L.bs b).seq.toNat≠0→sq b=(bAt z.L.bs b).seq)→GrwO z (Aem z sq (upR z.R l (z.R l++[x])) last):=fun {l x sq last} hx hq=>by
  refine ⟨rfl,rfl,fun y r hy=> ?_,fun y r hy hg=> ?_,fun b hb hs=>by rw [hat _ _ last b hb];exact hq b hb hs⟩
  ·obtain ⟨b,j,rfl,hb1,hp⟩:=hy
   refine ⟨b,j,rfl,hb1,?_⟩
   show (upR z.R l (z.R l++[x]) b)[j]? =_
   by_cases e:b=l
   ·subst e
    rw [Hn,A07 (A08.1 hp).1];exact hp
   ·rw [Ep e];exact hp
  ·obtain ⟨b,j,rfl,hb1,hp⟩:=hy
   have hp:(upR z.R l (z.R l++[x]) b)[j]? =some r:=hp
   by_cases e:b=l
   ·subst e
    rw [Hn] at hp
    by_cases hj:j<(z.R b).length
    ·rw [A07 hj] at hp
     exact ⟨b,j,rfl,hb1,hp⟩
    ·have hj2:=(A08.1 hp).1
     simp only [A2x,A1z] at hj2
     have:j=(z.R b).length:=by omega
     subst this
     rw [A01 (A5q _)] at hp
     simp at hp
     subst hp
     exact absurd hg hx.1
   ·rw [Ep e] at hp
    exact ⟨b,j,rfl,hb1,hp⟩
 cases h with
 | same=>exact ⟨Aem z (sqB z.L.bs) z.R z.L.last,rfl,rfl,rfl,hat _ _ _,by rw [hfs];omega,.inl ⟨rfl,rfl,fun _ _ h=>h,fun _ _ h _=>h,fun b hb _=>hat _ _ _ b hb⟩⟩
 | @into l x g1 g2 g3 g4 g5 =>
  refine ⟨Aem z (sqB z.L.bs) (upR z.R l (z.R l++[x])) l,rfl,rfl,rfl,hat _ _ _,by rw [hfs];omega,?_⟩
  rcases g5 with rfl | g5
  ·exact .inr ⟨_,Aen hw g2 rfl rfl rfl (fun b hb _=>hat _ _ _ b hb) (.inl ⟨g3,g1,hat _ _ _ l g2⟩) rfl⟩
  ·exact .inl (junk g5 fun b _ _=>rfl)
 | @head to g1 g2 g3 g4 =>
  refine ⟨Aem z (L5 (sqB z.L.bs) to (seqN z.L.bs z.L.last)) z.R z.L.last,rfl,rfl,rfl,hat _ _ _,by rw [hfu _ _ g1 g2 (hsN g1 g4)];omega,.inl ⟨rfl,rfl,fun _ _ h=>h,fun _ _ h _=>h,fun b hb hs=> ?_⟩⟩
  rw [hat _ _ _ b hb]
  unfold L5
  rw [if_neg (fun e=>hs (by rw [e];exact g2))]
  rfl
 | @fresh to x g1 g2 g3 g4 g5 =>
  have hR:upR z.R to [x]=upR z.R to (z.R to++[x]):=by rw [g3];rfl
  refine ⟨Aem z (L5 (sqB z.L.bs) to (seqN z.L.bs z.L.last)) (upR z.R to [x]) to,rfl,rfl,rfl,hat _ _ _,by rw [hfu _ _ g1 g2 (hsN g1 g4)];omega,?_⟩
  have hne:∀ b<z.L.nb,b≠to→(L5 (sqB z.L.bs) to (seqN z.L.bs z.L.last)) b=(bAt z.L.bs b).seq:=fun b _ e=>by unfold L5;rw [if_neg e];rfl
  rcases g5 with rfl | g5
  ·refine .inr ⟨_,Aen hw g1 rfl rfl hR (fun b hb e=>by rw [hat _ _ _ b hb];exact hne b hb e) (.inr ⟨g2,fun b hb=> ?_⟩) rfl⟩
   rw [hat _ _ _ to g1]
   unfold L5
   rw [if_pos rfl]
   exact g4 b hb
  ·rw [hR]
   exact .inl (junk g5 fun b hb hs=>hne b hb fun e=>hs (by rw [e];exact g2))
theorem AppG.down {n k:Nat} {q:Qt} {z z':Sg} {p:Pg} {y:Pl2} (hw:LW k z) (h:AppG n q z p 30 y z'):z'.S=z.S∧z'.L.lg=z.L.lg∧z'.L.nb=z.L.nb∧z'.L.d.dk=z.L.d.dk∧z'.L.d.c.off=true∧FrA z.L.d.c z'.L.d.c ∧
  ∃ (V':Nat→Blk) (zv:Sg),zv.S=z.S∧zv.L.nb=z.L.nb∧LogC z.L.nb KM V' (fun j=>(bAt zv.L.bs j).seq) zv.R∧Later z'.L.d.c n KM q.n V'∧fr z≤fr zv+1∧(GrwO z zv∨∃ y,NewAt z p y zv):=by
 obtain ⟨h1,h2,h3,h4,h5,h6⟩:=h
 obtain ⟨_,g1,g2,g3,V',sq',R',g4,g5,g6⟩:=h6.resolve_left (fun h9=>h9.1 rfl)
 obtain ⟨zv,v1,v2,v3,v4,v5,v6⟩:=g4.law hw
 refine ⟨h1,h2,h4,h5,g1,g3,V',zv,v1,v2,?_,g6,v5,v6⟩
 rw [v3]
 exact ⟨g5.bi,fun j hj=>by rw [v4 j hj];exact g5.blk j hj,fun j hj=>by rw [v4 j hj];exact g5.top j hj,fun i hi j hj hne hz=>by rw [v4 i hi] at hz ⊢;rw [v4 j hj];exact g5.dis i hi j hj hne hz⟩
theorem GrwO.ord {k:Nat} {z zv:Sg} (hw:LW k z) (h:GrwO z zv) {x x':Pl2} {r r':Pg} (hx:RecAt z x r) (hx':RecAt z x' r'):bef zv x x'↔bef z x x':=by
 have e:∀ {x r},RecAt z x r→sqz zv x=sqz z x:=fun hx=>by
  obtain ⟨b,h1,h2,h3⟩:=hx.used hw
  unfold sqz
  rw [h1,A24,h.sq b h2 h3]
 unfold bef
 rw [e hx,e hx']
theorem Rz.grw {k:Nat} {A:Ab} {P:NdM} {Q:Int→Wd→List By→Prop} {z zv:Sg} (hw:LW k z) (h:Rz A P Q z) (hg:GrwO z zv):Rz A P Q zv:=by
 have hS:=hg.S
 refine ⟨by rw [hS];exact h.last,by rw [hS];exact h.vw,by rw [hS];exact h.viewed,by rw [hS];exact h.ix.mono fun _ _ _ _ h9=>hg.old _ _ h9,by rw [hS];exact h.pd.mono fun _ _ _ _ h9=>hg.old _ _ h9,fun h0=>by rw [hS];exact hg.old _ _ (h.la h0),fun h0=> ?_,fun x p hx hp=>h.kd x p (hg.inv x p hx hp) hp,fun x k e b h1 h2=>h.nd x k e b h1 (hg.inv _ _ h2 (Rc.good (r:= .nd k e b) h1)),fun x c h1=>h.cm x c (hg.inv _ _ h1 (Rc.good (r:= .cm c) trivial)),fun x v h1=> ?_⟩
 ·obtain ⟨v,h3,h4⟩:=h.va h0
  exact ⟨v,h3,by rw [hS];exact hg.old _ _ h4⟩
 ·have h2:=hg.inv _ _ h1 (Rc.good (r:= .vw v) trivial)
  obtain ⟨g1,g2,g3⟩:=h.vs x v h2
  obtain ⟨w,_,h5⟩:=h.va g1
  rw [hS]
  exact ⟨g1,g2,fun g4=>(g3 g4).imp id fun g5=>(hg.ord hw h2 h5).2 g5⟩
theorem Tl.same {A:Ab} {z z':Sg} (h:Tl A z) (h1:z'.L=z.L) (h2:z'.R=z.R):Tl A z':=h.of (by rw [h1]) h2 fun j _=>by rw [h1]
theorem PutG.free {n:Nat} {q:Qt} {z z':Sg} {p:Pg} {e:Int} {y:Pl2} (hf:2≤fr z) (h:PutG n q z p e y z'):AppG n q z p e y z':=by
 have hr:∀ {m e z1},RoomR n q m z e z1→e=0∧z1=z:=fun h=>by
  cases h with
  | enough _=>exact ⟨rfl,rfl⟩
  | out=>exact ⟨rfl,rfl⟩
  | stop h1 _ _=>have h1:fr z≤1:=h1;omega
  | go h1 _ _=>have h1:fr z≤1:=h1;omega
 rcases h with ⟨he,h⟩ | ⟨z1,h,hA⟩
 ·exact absurd (hr h).1 he
 ·rw [(hr h).2] at hA;exact hA
theorem AppG.last {n k:Nat} {q:Qt} {z z':Sg} {p:Pg} {e:Int} {y:Pl2} (hw:LW k z) (hr:0<rm z) (h:AppG n q z p e y z') (he:e≠30):e=0∧z'.L.last=z.L.last∧(q.n=0→Ab2 z.L.d.c z'.L.d.c):=by
 obtain ⟨h1,_,_,h4,_,h6⟩:=h
 obtain ⟨_,hA,_,h7⟩:=h6.resolve_right (fun h9=>he h9.1)
 have hfull:¬ Ad2 z.L.bs z.L.last z.R:=fun hF=>by have:=Aa2 hF;omega
 have key:e=0∧z'.L.last=z.L.last:=by
  generalize z'.L.last=a,z'.L.bs=b,z'.R=c,y.1=d1,y.2=d2 at hA
  cases hA with
  | into _ _ _ _ _=>exact ⟨rfl,rfl⟩
  | none hF _=>exact absurd hF hfull
  | fresh hF _ _ _ _ _ _=>exact absurd hF hfull
 exact ⟨key.1,key.2,fun hq=>h7 hq key.1 key.2⟩
theorem WrR.slots {n:Nat} {q:Qt} {xs:List N3} {e:Int} {z z':Sg} (h:WrR n q xs z e z'):∀ {k:Nat},LW k z→k+xs.length≤390000000000→2+xs.length≤fr z→e=0→LW (k+xs.length) z'∧Go.Proofs.YtpmojdippdlcaaaGreatDoor.slots z'+xs.length=Go.Proofs.YtpmojdippdlcaaaGreatDoor.slots z∧fr z≤fr z'+xs.length∧(rm z'≤5∨xs=[])∧z'.L.nb=z.L.nb:=by
 induction h with
 | nil=>exact fun hw _ _ _=>⟨hw,rfl,A5q _,.inr rfl,rfl⟩
 | stop _ _ he=>exact fun _ _ _ h0=>absurd h0 he
 | @go ky ep b xs z z1 z' er y hok hp _ ih =>
  intro k hw hk hf h0
  rw [A3v] at hk hf
  have hA:=PutG.free (z:=wr1 z ky ep) (by show 2≤fr z;omega) hp
  obtain ⟨_,w1,w2,w3,w4⟩:=(AppG.ok (z:=wr1 z ky ep) (hw.of rfl rfl) (by omega) hA (by decide)).resolve_left (fun h=>absurd h.1 (by decide))
  have w2:Go.Proofs.YtpmojdippdlcaaaGreatDoor.slots z1+1=Go.Proofs.YtpmojdippdlcaaaGreatDoor.slots z:=w2
  have hf1:fr z≤fr z1+1:=by have:=Aq0 z;unfold Go.Proofs.YtpmojdippdlcaaaGreatDoor.slots at w2;omega
  obtain ⟨v1,v2,v3,v4,v5⟩:=ih (k:=k+1) (w1.of rfl rfl) (by omega) (by show 2+xs.length≤fr z1;omega) h0
  have v2:Go.Proofs.YtpmojdippdlcaaaGreatDoor.slots z'+xs.length=Go.Proofs.YtpmojdippdlcaaaGreatDoor.slots z1:=v2
  have v3:fr z1≤fr z'+xs.length:=v3
  have v5:z'.L.nb=z1.L.nb:=v5
  refine ⟨v1.mono (by rw [A3v];omega),by rw [A3v];omega,by rw [A3v];omega,.inl ?_,v5.trans w4.nb⟩
  rcases v4 with v4 | rfl
  ·exact v4
  ·cases ‹WrR n q [] (wr2 z1 ky ep y) er z'›
   exact w3
end
section
open Go.K
def ixN (A:Ab) (z:Sg) (ep:Wd) (cs:List Chg):NdM:=fun k=>if Bj (B7 z cs) k=true then orE (Ji noP (B0 z ep cs (B5 A.ix)) k) (A.ix k) else none
section
variable {n k:Nat} {q:Qt} {A:Ab} {z z':Sg} {ep:Wd} {cs:List Chg} {e:Int}
theorem Std.gt (h:Std A z) (hb:Bn z ep cs=false):A.seen.toNat<ep.toNat:=by
 unfold Bn M2 at hb
 simp only [A15,A2s,A3n,A3j] at hb
 rw [← h.seen]
 have:=hb.1.1
 omega
theorem Std.ixN_live (h:Std A z) (hb:Bn z ep cs=false):∀ k,(ixN A z ep cs k).isSome=Bj (B7 z cs) k:=fun k=>by
 obtain ⟨n1,n2,n3⟩:=h.nds hb
 unfold ixN
 by_cases hl:Bj (B7 z cs) k=true
 ·rw [if_pos hl,hl]
  by_cases hk:k∈(B0 z ep cs (B5 A.ix)).map (·.1)
  ·obtain ⟨⟨k',e',b'⟩,hx,rfl⟩:=A5b.1 hk
   rw [G9 n1 hx];rfl
  ·rw [Ky hk]
   show (A.ix k).isSome=true
   rw [h.live k]
   exact (n3 k hl hk).2
 ·rw [if_neg hl]
  simp at hl
  rw [hl];rfl
theorem Std.fin (h:Std A z) (hb:Bn z ep cs=false) (hf:Bv z cs=false) {s:BitVec 32} (hs:s=Wa (B7 z cs) (ixN A z ep cs)) :
  Sd (A.fin (Ji noP (B0 z ep cs (B5 A.ix))) ⟨ep,B7 z cs,s⟩) z.L.nb∧ComA A ep cs (A.fin (Ji noP (B0 z ep cs (B5 A.ix))) ⟨ep,B7 z cs,s⟩):=by
 obtain ⟨n1,n2,n3⟩:=h.nds hb
 have hgt:=h.gt hb
 have hix:∀ k e b,ixN A z ep cs k=some (e,b)→e.toNat≤ep.toNat:=fun ky e b hi=>by
  unfold ixN at hi
  split at hi
  ·cases hp:Ji noP (B0 z ep cs (B5 A.ix)) ky with
   | some r =>
    obtain ⟨e2,b2⟩:=r
    rw [hp] at hi
    have hi:some (e2,b2)=some (e,b):=hi
    have:=A4o hi
    simp only [A48] at this
    rw [← this.1]
    rcases Qn hp with hx | hx
    ·have h8:e2=ep:=(n2 _ hx).1
     rw [h8];exact A5q _
    ·cases hx
   | none =>
    rw [hp] at hi
    have:=h.ep ky e b hi
    have:=h.ls
    omega
  ·cases hi
 refine ⟨⟨h.ixN_live hb,hix,fun h0=> ?_,fun _=>hs,?_,h.nb4,h.vwm,h.v0⟩,⟨rfl,h.lv,rfl,rfl,rfl,fun _=>rfl,fun c hc hg=> ?_,fun ky hky e b hi=> ?_⟩⟩
 ·have h0:ep.toNat=0:=h0
  omega
 ·show ((Db (B7 z cs) 256).length:Int)≤Jr z.L.nb
  have h9:=hf
  unfold Bv at h9
  simp only [A1k] at h9
  omega
 ·show (if Bj (B7 z cs) c.key=true then orE (Ji noP (B0 z ep cs (B5 A.ix)) c.key) (A.ix c.key) else none)=_
  have hx:(c.key,ep,c.body.list)∈B0 z ep cs (B5 A.ix):=by unfold B0;exact A10 _ (Arf hc hg)
  rw [if_pos (n2 _ hx).2,G9 n1 hx]
  rfl
 ·show (if Bj (B7 z cs) ky=true then orE (Ji noP (B0 z ep cs (B5 A.ix)) ky) (A.ix ky) else none)=_
  have hl:Bj (B7 z cs) ky=true:=by
   rw [h.lv,Lq hky,← h.live ky,hi];rfl
  rw [if_pos hl]
  cases hs:A.stray ky with
  | true =>
   have hx:(ky,ep,B5 A.ix ky)∈B0 z ep cs (B5 A.ix):=by
    unfold B0 Fw
    refine A18 _ (A5b.2 ⟨ky,A4g.2 ⟨(Bt _).mem_iff.2 (Mp.get_some.1 (by rw [h.stray ky];exact hs)),?_⟩,rfl⟩)
    unfold Es
    rw [hl]
    simpa using hky
   rw [G9 n1 hx,if_pos rfl]
   have:B5 A.ix ky=b:=by unfold B5;rw [hi]
   rw [this]
   rfl
  | false =>
   have hx:ky∉(B0 z ep cs (B5 A.ix)).map (·.1):=fun hx=>by
    unfold B0 at hx
    rw [A4e,A4f] at hx
    rcases hx with hx | hx
    ·unfold Fw at hx
     rw [A49] at hx
     obtain ⟨k2,h2,e2⟩:=A5b.1 hx
     have e2:k2=ky:=e2
     subst e2
     have:=Mp.get_some.2 ((Bt _).mem_iff.1 (A4g.1 h2).1)
     rw [h.stray k2,hs] at this
     cases this
    ·unfold Eq at hx
     rw [A49] at hx
     obtain ⟨c,h2,e2⟩:=A5b.1 hx
     exact hky (A5b.2 ⟨c,(A4g.1 h2).1,e2⟩)
   rw [Ky hx,if_neg (by decide)]
   exact hi
theorem Std.again_nil (h:Std A z) (hs:∀ k,A.stray k=false) {l:Lv} {but:List Int} {bi:Int→List By}:Fw z.S l ep but bi=[]:=by
 have hk:z.S.stray.keys=[]:=by
  refine List.eq_nil_iff_forall_not_mem.2 fun k hk=> ?_
  have:=Mp.get_some.2 hk
  rw [h.stray k,hs k] at this
  cases this
 unfold Fw
 rw [hk,(Bt []).eq_nil]
 rfl
theorem Std.slots (h:Std A z) (hs:∀ k,A.stray k=false) (hw:LW k z) (hk:k≤200000000000) (hb:Bn z ep cs=false) (hfF:Bv z cs=false) (hf:4+(Eq ep cs).length≤Go.Proofs.YtpmojdippdlcaaaGreatDoor.fr z) (hl:(Eq ep cs).length≤1000)
  (hR:Tt n q z ep cs (B5 A.ix) 0 z'):Go.Proofs.YtpmojdippdlcaaaGreatDoor.slots z'+(Eq ep cs).length+1=Go.Proofs.YtpmojdippdlcaaaGreatDoor.slots z∧rm z'≤5:=by
 have hnd:B0 z ep cs (B5 A.ix)=Eq ep cs:=by unfold B0;rw [h.again_nil hs];rfl
 rcases hR with ⟨h1,_⟩ | ⟨_,h1,_⟩ | ⟨_,_,e1,z1,hW,h3⟩
 ·rw [hb] at h1;cases h1
 ·rw [hfF] at h1;cases h1
 ·rw [hnd] at hW
  rcases h3 with ⟨h3,h4,_⟩ | ⟨rfl,m,z2,hM,hE,rfl⟩
  ·exact absurd h4.symm h3
  ·obtain ⟨w1,w2,w3,w4,w5⟩:=hW.slots (hw.of (z':=Hc z) rfl rfl) (by omega) (by show 2+_≤Go.Proofs.YtpmojdippdlcaaaGreatDoor.fr z;omega) rfl
   have w2:Go.Proofs.YtpmojdippdlcaaaGreatDoor.slots z1+(Eq ep cs).length=Go.Proofs.YtpmojdippdlcaaaGreatDoor.slots z:=w2
   have w3:Go.Proofs.YtpmojdippdlcaaaGreatDoor.fr z≤Go.Proofs.YtpmojdippdlcaaaGreatDoor.fr z1+(Eq ep cs).length:=w3
   obtain ⟨y,z3,hP,hZ⟩:=hE
   have hA:=PutG.free (by omega) hP
   obtain ⟨_,v1,v2,v3,v4⟩:=(AppG.ok w1 (by omega) hA (by decide)).resolve_left (fun h=>absurd h.1 (by decide))
   rcases hZ with ⟨hZ,_⟩ | ⟨_,m',_,rfl⟩
   ·exact absurd rfl hZ
   ·refine ⟨?_,v3⟩
    show Go.Proofs.YtpmojdippdlcaaaGreatDoor.slots z3+_+1=_
    omega
structure Cutd (n:Nat) (q:Qt) (A:Ab) (z:Sg) (ep:Wd) (cs:List Chg) (z':Sg):Prop where
 nb:z'.L.nb=z.L.nb
 lg:z.S.lg=z.L.lg→z'.S.lg=z'.L.lg
 off:z'.L.d.c.off=true
 fra:FrA z.L.d.c z'.L.d.c
 told:∃ (A':Ab) (V':Nat→Blk) (zv:Sg),(A'=A∨ComA A ep cs A')∧Tl A' zv∧Sd A' z.L.nb∧zv.L.nb=z.L.nb∧LogC z.L.nb KM V' (fun j=>(bAt zv.L.bs j).seq) zv.R∧Later z'.L.d.c n KM q.n V'∧Go.Proofs.YtpmojdippdlcaaaGreatDoor.fr z≤Go.Proofs.YtpmojdippdlcaaaGreatDoor.fr zv+4
theorem Std.cut1 (h:Std A z) (hw:LW k z) (hk:k≤200000000000) (hq:q.n=0) (ha:z.L.d.c.after=1) (hr:2≤rm z) (hf:4≤Go.Proofs.YtpmojdippdlcaaaGreatDoor.fr z) (hb:Bn z ep cs=false) (hfF:Bv z cs=false) {x:N3} (hnd:B0 z ep cs (B5 A.ix)=[x])
  (hR:Tt n q z ep cs (B5 A.ix) e z'):e=30∧Cutd n q A z ep cs z':=by
 obtain ⟨ky,ep',b⟩:=x
 obtain ⟨n1,n2,n3⟩:=h.nds hb
 have hgt:=h.gt hb
 have hep:ep'=ep:=(n2 (ky,ep',b) (by rw [hnd];exact A2z.2 rfl)).1
 subst hep
 have hrz:Rz A noP noQ (wr1 (Hc z) ky ep'):=⟨h.clr.last,h.clr.vw,h.clr.viewed,h.clr.ix.mono fun _ _ _ _ h=>h,h.clr.pd.mono fun _ _ _ _ h=>h,h.clr.la,h.clr.va,h.clr.kd,h.clr.nd,h.clr.cm,h.clr.vs⟩
 have hw1:LW k (wr1 (Hc z) ky ep'):=hw.of rfl rfl
 have hlt:A.last.ep.toNat<ep'.toNat:=by have:=h.ls;omega
 rcases hR with ⟨h1,_⟩ | ⟨_,h1,_⟩ | ⟨_,_,e1,z1,hW,h3⟩
 ·rw [hb] at h1;cases h1
 ·rw [hfF] at h1;cases h1
 rw [hnd] at hW
 cases hW with
 | @stop _ _ _ _ _ _ _ y hok hp he =>
  have hA:=PutG.free (z:=wr1 (Hc z) ky ep') (by show 2≤Go.Proofs.YtpmojdippdlcaaaGreatDoor.fr z;omega) hp
  have h30:e1=30:=by
   refine A04 fun h30=> ?_
   exact he (AppG.last (z:=wr1 (Hc z) ky ep') hw1 (by show 0<rm z;omega) hA h30).1
  subst h30
  rcases h3 with ⟨_,rfl,rfl⟩ | ⟨h3,_⟩
  ·obtain ⟨d1,d2,d3,d4,d5,d6,V',zv,d7,d8,d9,d10,d11,d12⟩:=hA.down hw1
   refine ⟨rfl,⟨d3,fun h9=>by show z1.S.lg=z1.L.lg;rw [d1,d2];exact h9,d5,d6,A,V',zv,.inl rfl,?_,h.sd,d8,d9,d10,by have d11:Go.Proofs.YtpmojdippdlcaaaGreatDoor.fr z≤Go.Proofs.YtpmojdippdlcaaaGreatDoor.fr zv+1:=d11;omega⟩⟩
   rcases d12 with d12 | ⟨y,d12⟩
   ·exact (hrz.grw hw1 d12).tl fun _ _ _ h=>h.elim
   ·exact ((hrz.write hw1 (b:=b) hok d12).tl fun k e b h=>by
     rcases h with h | h
     ·exact h.elim
     ·simp only [A48] at h
      rw [h.2.1];exact hlt).same rfl rfl
  ·cases h3
 | @go _ _ _ _ _ z2 _ _ y hok hp ht =>
  cases ht with
  | nil =>
   have hA:=PutG.free (z:=wr1 (Hc z) ky ep') (by show 2≤Go.Proofs.YtpmojdippdlcaaaGreatDoor.fr z;omega) hp
   obtain ⟨_,w1,w2,w3,w4⟩:=(AppG.ok (z:=wr1 (Hc z) ky ep') hw1 (by omega) hA (by decide)).resolve_left (fun h=>absurd h.1 (by decide))
   have w2:Go.Proofs.YtpmojdippdlcaaaGreatDoor.slots z2+1=Go.Proofs.YtpmojdippdlcaaaGreatDoor.slots z:=w2
   have hrm:1≤rm z2∧Go.Proofs.YtpmojdippdlcaaaGreatDoor.fr z2=Go.Proofs.YtpmojdippdlcaaaGreatDoor.fr z:=by
    have:=Aq0 z
    unfold Go.Proofs.YtpmojdippdlcaaaGreatDoor.slots at w2
    omega
   obtain ⟨_,_,haft⟩:=AppG.last (z:=wr1 (Hc z) ky ep') hw1 (by show 0<rm z;omega) hA (by decide)
   have haft:z2.L.d.c.after=0:=by
    rcases haft hq with h9 | ⟨_,h9⟩
    ·have h9:z.L.d.c.after<0:=h9;omega
    ·have h9:z2.L.d.c.after=w64 (z.L.d.c.after - 1):=h9
     rw [h9,ha];rfl
   rcases h3 with ⟨h3,_⟩ | ⟨_,m,z3,hM,hE,rfl⟩
   ·exact absurd rfl h3
   have hrz2:Rz A (Ji noP (B0 z ep' cs (B5 A.ix))) (fun k e b'=>noQ k e b'∨(k,e,b')=(ky,ep',b)) (wr2 z2 ky ep' y):=by
    rw [hnd];exact hrz.write hw1 hok w4
   have hw2:LW (k+1) (wr2 z2 ky ep' y):=w1.of rfl rfl
   have hsum:L6 m=Wa (B7 z cs) (ixN A z ep' cs):=Aa5 (M3 hrz2 (fun _ _ h=>h) hM) (h.ixN_live hb)
   obtain ⟨s1,s2⟩:=h.fin hb hfF hsum
   obtain ⟨y2,z4,hP,hZ⟩:=hE
   have hA2:=PutG.free (z:=wr2 z2 ky ep' y) (by show 2≤Go.Proofs.YtpmojdippdlcaaaGreatDoor.fr z2;omega) hP
   have h30:e=30:=by
    refine A04 fun h30=> ?_
    obtain ⟨_,_,h8⟩:=AppG.last (z:=wr2 z2 ky ep' y) hw2 (by show 0<rm z2;omega) hA2 h30
    rcases h8 hq with h9 | ⟨h9,_⟩
    ·have h9:z2.L.d.c.after<0:=h9;omega
    ·exact h9 haft
   subst h30
   rcases hZ with ⟨_,rfl⟩ | ⟨hZ,_⟩
   ·obtain ⟨d1,d2,d3,d4,d5,d6,V',zv,d7,d8,d9,d10,d11,d12⟩:=hA2.down hw2
    have hnb:z2.L.nb=z.L.nb:=w4.nb
    have d3:z3.L.nb=z2.L.nb:=d3
    have d6:FrA z2.L.d.c z3.L.d.c:=d6
    have d8:zv.L.nb=z2.L.nb:=d8
    have d9:LogC z2.L.nb KM V' (fun j=>(bAt zv.L.bs j).seq) zv.R:=d9
    have d11:Go.Proofs.YtpmojdippdlcaaaGreatDoor.fr z2≤Go.Proofs.YtpmojdippdlcaaaGreatDoor.fr zv+1:=d11
    have hf0:FrA z.L.d.c z2.L.d.c:=hA.fra
    refine ⟨rfl,⟨d3.trans hnb,fun h9=> ?_,d5,hf0.trans d6,?_⟩⟩
    ·show z3.S.lg=z3.L.lg
     rw [d1,d2]
     show z2.S.lg=z2.L.lg
     rw [w4.S,hA.2.1]
     exact h9
    rcases d12 with d12 | ⟨y3,d12⟩
    ·refine ⟨A,V',zv,.inl rfl,(hrz2.grw hw2 d12).tl fun k e b h=> ?_,h.sd,d8.trans hnb,by rw [← hnb];exact d9,d10,by omega⟩
     rcases h with h | h
     ·exact h.elim
     ·simp only [A48] at h
      rw [h.2.1];exact hlt
    ·have hM2:N0 (wr2 z2 ky ep' y).S (B7 z cs) m:=hM
     have hfin:=Rz.fin (c:=⟨ep',B7 z cs,L6 m⟩) hw2 hrz2 d12 hM2 hgt h.ls (fun ky2 e2 b2 hq2=>by
      rcases hq2 with h9 | h9
      ·exact h9.elim
      ·simp only [A48] at h9
       obtain ⟨rfl,rfl,rfl⟩:=h9
       exact ⟨rfl,G9 n1 (by rw [hnd];exact A2z.2 rfl)⟩) (fun ky2 e2 b2 hp2=>by
      rcases Qn hp2 with hx | hx
      ·exact (n2 _ hx).1
      ·cases hx) (fun ky2 hl hp2=>by
      refine n3 ky2 hl fun hk2=> ?_
      obtain ⟨⟨k',e',b'⟩,hx,rfl⟩:=A5b.1 hk2
      rw [G9 n1 hx] at hp2
      cases hp2)
     exact ⟨_,V',zv,.inr s2,(hfin.tl fun _ _ _ h=>h.elim).same rfl rfl,s1,d8.trans hnb,by rw [← hnb];exact d9,d10,by omega⟩
   ·cases hZ
end
end
section
open Go.K
variable {T:TypeId}
section
variable {L:Lg}
def Lg.chip (L:Lg) (c:Chip):Lg:={ L with d:=⟨L.d.dk,L.d.t,c⟩ }
theorem Ayh {a k:Int}:Does Tryz.prog 36 [ptr L.d.c.aP,.int .i64 a,.int .i64 k] (lgH L) (Is (.tuple #[]) (lgH (L.chip (Wy L.d.c a k)))):=by
 rw [Fc,Fc]
 exact (Awl (d:=L.d) (a:=a) (k:=k)).inIs sP aQ sP
theorem Az2:Does Tryz.prog 38 [ptr L.d.c.aP] (lgH L) (Is (.tuple #[]) (lgH (L.chip (onC L.d.c)))):=by
 rw [Fc,Fc]
 exact (Ayz (d:=L.d)).inIs sP aQ sP
end
section
variable {n k:Nat} {q:Qt} {A:Ab} {z:Sg}
theorem WI.chip (h:WI n k q z) {c:Chip} (hb:c.blocks=z.L.d.c.blocks) (up:Up c) (hp:c.pc=z.L.d.c.pc) (hw:c.wc=z.L.d.c.wc) (hpf:c.pf=z.L.d.c.pf) (hwf:c.wf=z.L.d.c.wf):WI n k q ⟨z.S,z.L.chip c,z.R⟩:=by
 obtain ⟨h1,V,hZ⟩:=h
 refine ⟨h1,V,hZ.num,DV.same hZ.dv hb up hp hw,?_,hZ.lv⟩
 have h2:=hZ.acc
 unfold Acc at h2 ⊢
 have e1:FP c=FP z.L.d.c:=by unfold FP;rw [hpf,hp]
 have e2:FW c=FW z.L.d.c:=by unfold FW;rw [hwf,hw]
 show z.L.d.t.ts.lost.length+FP c+FW c≤q.n∧_
 rw [e1,e2]
 exact h2
theorem WI.up (h:WI n k q z):Up z.L.d.c:=h.2.choose_spec.dv.di.up
theorem Std.chip (h:Std A z) (c:Chip):Std A ⟨z.S,z.L.chip c,z.R⟩ :=
 ⟨⟨h.rz.last,h.rz.vw,h.rz.viewed,fun k=>h.rz.ix k,fun k=>h.rz.pd k,h.rz.la,h.rz.va,h.rz.kd,h.rz.nd,h.rz.cm,h.rz.vs⟩,h.seen,h.stray,h.strk,h.hurt,h.live,h.ep,h.ls,h.l0,h.sum,h.lim,h.nb4,h.fr,h.vwm,h.v0⟩
theorem Wc (h:Std A z) (hw:WI n k q z) {key:Int}:Does Tryz.prog 19 [ptr z.S.st,.int .i64 key] (Cn T::(z.S.st,true,C (stC z.S) tSt)::(z.S.ib,true,z.S.idx.obj .i64)::(z.S.pb,true,z.S.pend.obj .i64)::(lgH z.L++[]))
  (fun v H=>∃ (s:Sl By) (ky:Int) (e:Wd) (er:Int),v= .tuple #[.agg (ndC ⟨ky,e,s⟩).toArray,.int .i64 0,.int .i64 er]∧H=s.hp tU8++(Cn T::(z.S.st,true,C (stC z.S) tSt)::(z.S.ib,true,z.S.idx.obj .i64)::(z.S.pb,true,z.S.pend.obj .i64)::(lgH z.L++[])) ∧
   ((A.ix key=none∧er=61∧ky=0∧e=0∧s= .nil)∨(er=0∧ky=key∧A.ix key=some (e,s.list)∧s.isOwn=true))):=by
 cases hi:A.ix key with
 | none =>
  refine ((Alf (z:=z) (h.rz.ix.no hi)).inIs (H:=Cn T::(z.S.st,true,C (stC z.S) tSt)::(z.S.ib,true,z.S.idx.obj .i64)::(z.S.pb,true,z.S.pend.obj .i64)::(lgH z.L++[])) (Y':=Cn T::(z.S.st,true,C (stC z.S) tSt)::(z.S.ib,true,z.S.idx.obj .i64)::(z.S.pb,true,z.S.pend.obj .i64)::(lgH z.L++[])) sP aQ sP).mono ?_
  rintro v H ⟨rfl,rfl⟩
  exact ⟨.nil,0,0,61,rfl,by rw [Sl.hp_nil];rfl,.inl ⟨rfl,rfl,rfl,rfl,rfl⟩⟩
 | some r =>
  obtain ⟨e,b⟩:=r
  obtain ⟨en,h1,rfl,h3,h4⟩:=h.rz.ix.yes hi
  refine (Yq hw h1 h4 h3).mono ?_
  rintro v H ⟨s,rfl,rfl,hs,ho⟩
  exact ⟨s,key,en.ep,0,rfl,rfl,.inr ⟨rfl,rfl,by rw [hs],ho⟩⟩
end
theorem Ayi (x:By):Pc [bv x] 0 [x]:=fun i y h=>by
 have hi:i=0:=by have:=(A08.1 h).1;simp at this;exact this
 subst hi
 simp at h
 subst h
 rfl
def bdy (bb:Nat) (x:By):Sl By:= .view bb 0 true [bv x] tU8 (1,2) [x] 1 ⟨Ayi x,A5q _,by simp⟩
def cs1 (b:Nat) (c:Chg):Sl Chg:= .own b [c] 1 [] ⟨by simp,A5q _,by simp⟩
def cs2 (b:Nat) (c d:Chg):Sl Chg:= .own b [c,d] 2 [] ⟨by simp,A5q _,by simp⟩
theorem Ayj (b bb:Nat) (k:Int) (g:Bool) (x:By):(cs1 b ⟨k,g,bdy bb x⟩).hp tCg++(cbH (cs1 b ⟨k,g,bdy bb x⟩).list++[])=(b,true,C [.int .i64 k,.bool g,.slice (some ⟨bb,0,none⟩) 1 1] tCg)::(bb,true,CF [bv x] tU8 (1,2))::[]:=by
 unfold cs1
 rw [Sl.hp_own]
 show _++(cbH [⟨k,g,bdy bb x⟩]++[])=_
 unfold cbH bdy
 simp only [A27,List.flatMap_nil,A37]
 rw [Sl.hp_view]
 rfl
theorem Ayk (b bb:Nat) (k k':Int) (g g':Bool) (x:By):(cs2 b ⟨k,g,.nil⟩ ⟨k',g',bdy bb x⟩).hp tCg++(cbH (cs2 b ⟨k,g,.nil⟩ ⟨k',g',bdy bb x⟩).list++[])=(b,true,C [.int .i64 k,.bool g,.slice none 0 0,.int .i64 k',.bool g',.slice (some ⟨bb,0,none⟩) 1 1] tCg)::(bb,true,CF [bv x] tU8 (1,2))::[]:=by
 unfold cs2
 rw [Sl.hp_own]
 show _++(cbH [⟨k,g,.nil⟩,⟨k',g',bdy bb x⟩]++[])=_
 unfold cbH bdy
 simp only [A27,List.flatMap_nil,A37]
 rw [Sl.hp_view,Sl.hp_nil]
 rfl
theorem Tv (l:Lv) (k:Int) (s:Sl By):E3 l ⟨k,false,s⟩=Dz l k:=rfl
theorem Ai3 (l:Lv) (k:Int) (s:Sl By):E3 l ⟨k,true,s⟩=G7 l k:=rfl
structure Sp1 (A:Ab) (z:Sg):Prop where
 std:Std A z
 wi:WI 16 200000000 (q0 16) z
 ep:A.last.ep=1
 lv:A.last.lv=Dz lv0 5
 seen:A.seen=1
 stray:∀ k,A.stray k=false
 ix:A.ix 5=some (1,[120])
 rm:2≤Go.Proofs.YtpmojdippdlcaaaGreatDoor.rm z
 fr:5≤Go.Proofs.YtpmojdippdlcaaaGreatDoor.fr z
 nb:z.L.nb=10
theorem Ayl {z:Sg} (hL:Laid11 16 z) {b bb:Nat}:Does Tryz.prog 16 [ptr z.S.st,wv 1,.slice (some ⟨b,0,none⟩) 1 1] (Cn T::(z.S.st,true,C (stC z.S) tSt)::(z.S.ib,true,z.S.idx.obj .i64)::(z.S.pb,true,z.S.pend.obj .i64)::(z.S.sb,true,z.S.stray.obj .i64)::(lgH z.L++((b,true,C [.int .i64 5,.bool false,.slice (some ⟨bb,0,none⟩) 1 1] tCg)::(bb,true,CF [bv 120] tU8 (1,2))::[])))
  (fun v H=>∃ z':Sg,v= .int .i64 0∧H=Cn T::(z'.S.st,true,C (stC z'.S) tSt)::(z'.S.ib,true,z'.S.idx.obj .i64)::(z'.S.pb,true,z'.S.pend.obj .i64)::(z'.S.sb,true,z'.S.stray.obj .i64)::(lgH z'.L++((b,true,C [.int .i64 5,.bool false,.slice (some ⟨bb,0,none⟩) 1 1] tCg)::(bb,true,CF [bv 120] tU8 (1,2))::[]))∧z'.S.st=z.S.st∧∃ A,Sp1 A z'):=by
 have hstd:=hL.std ⟨by omega,by omega⟩
 have hnb:z.L.nb=10:=by have:=hL.nb;omega
 have hfr:fr z=10:=by unfold fr;rw [hL.free,hnb]
 have hrm:rm z=0:=by
  rcases hL.wi.lw.lst with ⟨h1,_⟩ | ⟨l,h1,h2,h3,_⟩
  ·unfold rm;rw [h1];rfl
  ·exfalso
   have h4:=hL.free
   have:B6 z.L.bs z.L.nb+1≤z.L.nb:=by
    have key:∀ k,l<k→B6 z.L.bs k+1≤k:=fun k=>by
     induction k with
     | zero=>intro h;omega
     | succ k ih =>
      intro h
      rw [Gh]
      by_cases e:l=k
      ·subst e
       have:=Ub z.L.bs l
       unfold z1
       rw [if_neg h3]
       omega
      ·have:=ih (by omega)
       unfold z1
       split <;> omega
    exact key _ h2
   omega
 have hf:=Wb (T:=T) hstd hL.wi (by omega) (A5s 3) hL.af (by omega) (ep:=1) (cs:=cs1 b ⟨5,false,bdy bb 120⟩) (by show 1≤300;omega)
 rw [Ayj] at hf
 refine hf.mono ?_
 rintro v H ⟨e,z',rfl,rfl,hst,⟨hw,hfra,hc⟩,hR⟩
 have hbad:Bn z 1 (cs1 b ⟨5,false,bdy bb 120⟩).list=false:=by
  unfold Bn M2
  rw [hstd.seen]
  show (!(decide (((1:Wd).toNat:Int)>((0:Wd).toNat:Int)) && [(⟨5,false,bdy bb 120⟩:Chg)].all Qf) || !N1 [5])=false
  rw [onceC_iff.2 (by simp)]
  rfl
 have hlv:B7 z (cs1 b ⟨5,false,bdy bb 120⟩).list=Dz lv0 5:=by
  rw [hstd.lv]
  show E3 lv0 ⟨5,false,bdy bb 120⟩=_
  exact Tv lv0 5 (bdy bb 120)
 have hfull:Bv z (cs1 b ⟨5,false,bdy bb 120⟩).list=false:=by
  unfold Bv
  rw [hlv,hnb]
  decide +kernel
 rcases hc with ⟨h1,_⟩ | ⟨_,h1,_⟩ | ⟨_,_,rfl,A,hcom,hA⟩
 ·rw [hbad] at h1;cases h1
 ·rw [hfull] at h1;cases h1
 obtain ⟨s1,s2⟩:=hstd.slots (fun _=>rfl) hL.wi.lw (by omega) hbad hfull (by rw [hfr];show 4+1≤10;omega) (by show 1≤1000;omega) hR
 have s1:slots z'+1+1=slots z:=s1
 unfold slots at s1
 rw [hfr,hrm] at s1
 refine ⟨z',rfl,rfl,hst,A,hA,hw.mono (by omega),hcom.ep,(by rw [hcom.lv];show E3 lv0 ⟨5,false,bdy bb 120⟩=_;exact Tv lv0 5 (bdy bb 120)),hcom.seen,hcom.stray,hcom.chg _ (A2z.2 rfl) rfl,by omega,by omega,by have:=hw.2.choose_spec.num;omega⟩
theorem Aym {A:Ab} {z:Sg} (h:Sp1 A z) {b bb:Nat}:Does Tryz.prog 16 [ptr z.S.st,wv 2,.slice (some ⟨b,0,none⟩) 2 2] (Cn T::(z.S.st,true,C (stC z.S) tSt)::(z.S.ib,true,z.S.idx.obj .i64)::(z.S.pb,true,z.S.pend.obj .i64)::(z.S.sb,true,z.S.stray.obj .i64)::(lgH (z.L.chip (Wy z.L.d.c 1 9))++((b,true,C [.int .i64 5,.bool true,.slice none 0 0,.int .i64 6,.bool false,.slice (some ⟨bb,0,none⟩) 1 1] tCg)::(bb,true,CF [bv 121] tU8 (1,2))::[])))
  (fun v H=>∃ z':Sg,v= .int .i64 30∧H=Cn T::(z'.S.st,true,C (stC z'.S) tSt)::(z'.S.ib,true,z'.S.idx.obj .i64)::(z'.S.pb,true,z'.S.pend.obj .i64)::(z'.S.sb,true,z'.S.stray.obj .i64)::(lgH z'.L++((b,true,C [.int .i64 5,.bool true,.slice none 0 0,.int .i64 6,.bool false,.slice (some ⟨bb,0,none⟩) 1 1] tCg)::(bb,true,CF [bv 121] tU8 (1,2))::[]))∧z'.S.st=z.S.st∧z'.S.lg=z'.L.lg∧Up (onC z'.L.d.c)∧z'.L.d.c.blocks.length=16∧∃ (A':Ab) (V':Nat→Blk) (zv:Sg),((A'.last.ep=1∧A'.ix 5=some (1,[120]))∨(A'.last.ep=2∧A'.ix 5=none))∧Tl A' zv∧Sd A' 10∧zv.L.nb=10∧LogC 10 KM V' (fun j=>(bAt zv.L.bs j).seq) zv.R∧Later z'.L.d.c 16 KM 0 V'∧1≤fr zv):=by
 have hup:=h.wi.up
 have hw:WI 16 200000000 (q0 16) ⟨z.S,z.L.chip (Wy z.L.d.c 1 9),z.R⟩:=h.wi.chip rfl ⟨hup.off,hup.dead,hup.out⟩ rfl rfl rfl rfl
 have hs:=h.std.chip (Wy z.L.d.c 1 9)
 have hlen:z.L.d.c.blocks.length=16:=h.wi.2.choose_spec.dv.di.len
 have hbad:Bn ⟨z.S,z.L.chip (Wy z.L.d.c 1 9),z.R⟩ 2 (cs2 b ⟨5,true,.nil⟩ ⟨6,false,bdy bb 121⟩).list=false:=by
  unfold Bn M2
  show (!(decide (((2:Wd).toNat:Int)>(z.S.seen.toNat:Int)) && [(⟨5,true,.nil⟩:Chg),⟨6,false,bdy bb 121⟩].all Qf) || !N1 [5,6])=false
  rw [h.std.seen,h.seen,onceC_iff.2 (by simp)]
  rfl
 have hlv:B7 ⟨z.S,z.L.chip (Wy z.L.d.c 1 9),z.R⟩ (cs2 b ⟨5,true,.nil⟩ ⟨6,false,bdy bb 121⟩).list=Dz (G7 (Dz lv0 5) 5) 6:=by
  rw [hs.lv,h.lv]
  show E3 (E3 (Dz lv0 5) ⟨5,true,.nil⟩) ⟨6,false,bdy bb 121⟩=_
  rw [Tv,Ai3]
 have hfull:Bv ⟨z.S,z.L.chip (Wy z.L.d.c 1 9),z.R⟩ (cs2 b ⟨5,true,.nil⟩ ⟨6,false,bdy bb 121⟩).list=false:=by
  unfold Bv
  rw [hlv]
  show decide (((Db (Dz (G7 (Dz lv0 5) 5) 6) 256).length:Int)>Jr (z.L.nb:Nat))=false
  rw [h.nb]
  decide +kernel
 have hnd:B0 ⟨z.S,z.L.chip (Wy z.L.d.c 1 9),z.R⟩ 2 (cs2 b ⟨5,true,.nil⟩ ⟨6,false,bdy bb 121⟩).list (B5 A.ix)=[(6,2,[121])]:=by
  unfold B0
  rw [hs.again_nil h.stray]
  rfl
 have h13:z.L.nb≤40:=by rw [h.nb];omega
 have hf:=Yv (T:=T) (bi:=B5 A.ix) (ep:=2) (cs:=cs2 b ⟨5,true,.nil⟩ ⟨6,false,bdy bb 121⟩) hw (by omega) (A5s 3) (by show 2≤300;omega) hs.hm hs.hA (fun _=>by rw [hnd];show 1≤300;omega) (fun hb hf=>hs.hS hw.lw (by omega) h13 hb hf) (fun hb hf=>hs.hE hw.lw (by omega) h13 hb hf)
 rw [Ayk] at hf
 refine hf.mono ?_
 rintro v H ⟨e,z',rfl,rfl,hst,hR,_⟩
 obtain ⟨rfl,hC⟩:=hs.cut1 hw.lw (by omega) rfl rfl h.rm (by have:=h.fr;show 4≤fr z;omega) hbad hfull hnd hR
 obtain ⟨A',V',zv,c1,c2,c3,c4,c5,c6,c7⟩:=hC.told
 have hfra:=hC.fra
 refine ⟨z',rfl,rfl,hst,hC.lg hw.1,⟨rfl,hfra.dead.trans hup.dead,hfra.out.trans hup.out⟩,hfra.len.trans hlen,A',V',zv,?_,c2,by have c3:Sd A' z.L.nb:=c3;rw [h.nb] at c3;exact c3,c4.trans h.nb,by have c5:LogC z.L.nb KM V' (fun j=>(bAt zv.L.bs j).seq) zv.R:=c5;rw [h.nb] at c5;exact c5,c6,by have:=h.fr;have c7:fr z≤fr zv+4:=c7;omega⟩
 rcases c1 with rfl | c1
 ·exact .inl ⟨h.ep,h.ix⟩
 ·refine .inr ⟨c1.ep,?_⟩
  have h1:=c3.live 5
  rw [c1.lv,h.lv] at h1
  have h2:Bj (List.foldl E3 (Dz lv0 5) (cs2 b ⟨5,true,.nil⟩ ⟨6,false,bdy bb 121⟩).list) 5=false:=by
   show Bj (E3 (E3 (Dz lv0 5) ⟨5,true,.nil⟩) ⟨6,false,bdy bb 121⟩) 5=false
   rw [Tv,Ai3]
   decide +kernel
  rw [h2] at h1
  cases hi:A'.ix 5 with
  | none=>rfl
  | some r=>rw [hi] at h1;cases h1
end
section
open Go.K
variable {T:TypeId}
instance und26:Und Tryz.prog 26 (.pointer 67):=⟨Tryz.underlying26⟩
instance plc45:Plc Tryz.prog 45 [(0,1),(1,1),(2,1)]:=⟨⟨_,Tryz.underlying45,fun _=>by kernel_rfl⟩⟩
instance ent13:Ent Tryz.prog 13:=⟨fun _ _=>by kernel_rfl⟩
theorem Ayn {L:Lg} {A:Ab} {V:Nat→Blk} {zv:Sg} (hup:Up (onC L.d.c)) (hlen:L.d.c.blocks.length=16) (hT:Tl A zv) (hd:Sd A 10) (hnb:zv.L.nb=10) (hC:LogC 10 KM V (fun j=>(bAt zv.L.bs j).seq) zv.R) (hl:Later L.d.c 16 KM 0 V) (hf:1≤fr zv) :
  Does Tryz.prog 26 [ptr L.d.c.aC] (lgH (L.chip (onC L.d.c)))
  (fun v H=>∃ (z:Sg) (A':Ab) (q:Qt),v=ptr z.S.st∧H=(z.S.st,true,C (stC z.S) tSt)::(z.S.ib,true,z.S.idx.obj .i64)::(z.S.pb,true,z.S.pend.obj .i64)::(z.S.sb,true,z.S.stray.obj .i64)::(lgH z.L++[])∧Std A' z∧WI 16 KM q z∧A'.last=A.last∧A'.ix=A.ix):=by
 obtain ⟨t2,o1,o2,o3⟩:=hl (onC L.d.c) rfl hup rfl rfl
 rw [Fc]
 refine (Al0 (d:=⟨L.d.dk,L.d.t,onC L.d.c⟩) (t2:=t2) (n:=16) (nb:=10) (k:=KM) (q:=⟨0,t2.uses⟩) (V:=V) (sq:=fun j=>(bAt zv.L.bs j).seq) (z:=zv) (A:=A) ⟨by show 2≤L.d.c.blocks.length;omega,by show L.d.c.blocks.length≤1000;omega⟩ o1 o2 ⟨o3,fun _=>rfl⟩ rfl hC hnb (fun _ _=>rfl) hT hd hf (by omega)).inn sP fun v Y hh=> ?_
 obtain ⟨z',rfl,rfl,hW,_,_,A',h1,h2,_,_,h3,_⟩:=hh
 exact ⟨_,⟨z',A',_,rfl,rfl,h1,hW,h2,h3⟩,_,_,aQ,sP⟩
theorem Ayo {A A':Ab} {l:Cm} {s:Sl By} {ky er:Int} {en:Wd} (hz:l=A'.last) (hl:A'.last=A.last) (hi:A'.ix=A.ix) (h:(A.last.ep=1∧A.ix 5=some (1,[120]))∨(A.last.ep=2∧A.ix 5=none))
  (hN:(A'.ix 5=none∧er=61∧ky=0∧en=0∧s= .nil)∨(er=0∧ky=5∧A'.ix 5=some (en,s.list)∧s.isOwn=true)) :
  Value.bool (decide ((l.ep.toNat:Int)=1) && decide (er=0) && decide (s.list=[120]) || decide ((l.ep.toNat:Int)=2) && decide (er=61))=Value.bool true:=by
 rw [hz,hl]
 rw [hi] at hN
 rcases h with ⟨a1,a2⟩ | ⟨a1,a2⟩
 ·rw [a2] at hN
  rcases hN with ⟨b1,_⟩ | ⟨b1,_,b2,_⟩
  ·cases b1
  ·have b3:=A4o b2
   simp only [A48] at b3
   rw [a1,b1,← b3.2]
   rfl
 ·rw [a2] at hN
  rcases hN with ⟨_,b1,_⟩ | ⟨_,_,b2,_⟩
  ·rw [a1,b1]
   simp
  ·cases b2
theorem Sz:Does Tryz.prog 13 [] [Cn T] (Is (.bool true) [Cn T]):=by
 refine zF 100 Tryz.func13 ?_
 refine zC ?_
 refine zE rfl (Rv (m:=16) ⟨by omega,by omega⟩) ?_
 rintro _ _ ⟨z0,rfl,rfl,hL⟩
 refine zW ?_
 refine Ay rfl ?_
 refine zC ?_
 refine Ahw rfl rfl rfl rfl rfl (fun b11=> ?_)
 refine zC ?_
 refine Ao rfl rfl rfl rfl (fun b14=> ?_)
 refine Ci rfl (Ayl hL (b:=b14) (bb:=b11)) sP rfl (fun v15 Y15 h15=> ?_)
 obtain ⟨z1,rfl,rfl,hst1,A1,h1⟩:=h15
 rw [← hst1]
 refine A5 aQ ?_
 refine zA ?_
 refine Ah (show Rd _ _ _ _ (ptr z1.L.lg) from by rw [← h1.wi.1];exact Al rfl mM rfl) rfl ?_
 refine zA ?_
 refine Ah (Vt (L:=z1.L) rfl pL) rfl ?_
 refine zA ?_
 refine Ah (Ago (L:=z1.L) rfl pL) rfl ?_
 refine zA ?_
 refine Ah (Apy (L:=z1.L) rfl pL) rfl ?_
 refine zI rfl (Ayh (L:=z1.L) (a:=1) (k:=9)) ?_
 refine zC ?_
 refine Ahw rfl rfl rfl rfl rfl (fun b32=> ?_)
 refine zC ?_
 refine Ao rfl rfl rfl rfl (fun b35=> ?_)
 refine Ci rfl (Aym h1 (b:=b35) (bb:=b32)) sP rfl (fun v36 Y36 h36=> ?_)
 obtain ⟨z2,rfl,rfl,hst2,hlg2,hup2,hlen2,A2,V2,zv,hA2,hT2,hD2,hn2,hC2,hLt2,hf2⟩:=h36
 rw [← hst2]
 refine A5 aQ ?_
 refine zA ?_
 refine Ah (show Rd _ _ _ _ (ptr z2.L.lg) from by rw [← hlg2];exact Al rfl mM rfl) rfl ?_
 refine zA ?_
 refine Ah (Vt (L:=z2.L) rfl pL) rfl ?_
 refine zA ?_
 refine Ah (Ago (L:=z2.L) rfl pL) rfl ?_
 refine zA ?_
 refine Ah (Apy (L:=z2.L) rfl pL) rfl ?_
 refine zI rfl (Az2 (L:=z2.L)) ?_
 refine zA ?_
 refine Ah (show Rd _ _ _ _ (ptr z2.L.lg) from by rw [← hlg2];exact Al rfl mM rfl) rfl ?_
 refine zA ?_
 refine Ah (show Rd _ _ _ _ (ptr z2.L.d.dk) from Vt (L:=z2.L.chip (onC z2.L.d.c)) rfl pL) rfl ?_
 refine zA ?_
 refine Ah (show Rd _ _ _ _ (ptr z2.L.d.c.aC) from Ago (L:=z2.L.chip (onC z2.L.d.c)) rfl pL) rfl ?_
 refine zE rfl (Ayn (L:=z2.L) hup2 hlen2 hT2 hD2 hn2 hC2 hLt2 hf2) ?_
 rintro _ _ ⟨z3,A3,q3,rfl,rfl,hS3,hW3,hl3,hi3⟩
 refine zW ?_
 refine Ay rfl ?_
 refine zC ?_
 refine zE rfl (Wc hS3 hW3 (key:=5)) ?_
 rintro _ _ ⟨s74,ky,en,er,rfl,rfl,hN⟩
 refine zW ?_
 refine Aj rfl (fun b4=> ?_)
 refine zC ?_
 refine zI rfl (M1 (S:=z3.S)) ?_
 iterate 2 refine sb ?_
 refine sg ?_
 refine sa ?_
 refine' H9 rfl rfl inferInstance rfl rfl rfl rfl rfl (fun hg85=> ?_) ?_
 rotate_left
 ·try (simp at hg85;show _)
  iterate 5 refine sb ?_
  refine Ah (Fa (v:=s74) (T:=tU8) rfl (PickL.toSub (L:=s74.hp tU8) pL)) rfl ?_
  refine zA ?_
  refine Ah (Aci (ys:=[120]) rfl rfl) rfl ?_
  exact Ad ⟨rfl,rfl,⟨_,sP⟩⟩
 refine sa ?_
 refine' Lw rfl rfl inferInstance rfl rfl rfl rfl rfl (fun hg91=> ?_) ?_
 rotate_left
 ·try (simp at hg91;show _)
  refine zC ?_
  refine zI rfl (M1 (S:=z3.S)) ?_
  refine zC ?_
  exact Ad ⟨rfl,rfl,⟨_,sP⟩⟩
 refine zC ?_
 refine Ak (Aw Tryz.results13 (Af rfl)) ?_ sP
 exact Ayo hS3.rz.last hl3 hi3 hA2 hN
end
section
open Go.K
variable {T:TypeId}
instance byt45:Byt Tryz.prog 45 40:=⟨by kernel_rfl⟩
theorem Aa6 {P:Program} {E:Env} {H:Hp} {t u:TypeId} {x y:Operand} {a b:Wd} (hx:ev E x=some (wv a)) (hy:ev E y=some (wv b)):Rd P E H (.binOp .add t x y u) (wv (a+b)):=by
 have e:((a+b).toNat:Int)=IntKind.u64.wrap ((a.toNat:Int)+(b.toNat:Int)):=by
  rw [Em .u64 rfl,show ((a.toNat:Int)+(b.toNat:Int))=((a.toNat+b.toNat:Nat):Int) by omega,A14]
  show ((a+b).toNat:Int)=((BitVec.ofNat 64 (a.toNat+b.toNat)).toNat:Int)
  rw [A3k,A2p]
 unfold wv
 rw [e]
 exact An hx hy rfl
theorem Aeo:∀ xs:List By,Bg (L4 xs.length [some .u8]) (xs.map bv) (xs.map bv)=some true
 | []=>rfl
 | x::xs=>by
  show (match veq (some .u8) (bv x) (bv x) with | some a=>(match Bg (L4 xs.length [some .u8]) (xs.map bv) (xs.map bv) with | some b=>some (a && b) | none=>none) | none=>none)=some true
  rw [Aeo xs]
  have:veq (some .u8) (bv x) (bv x)=some true:=by simp [veq,bv]
  rw [this]
  rfl
theorem Az3 (l:Lv):Bg (L4 32 [some .u8]) (vbc l) (vbc l)=some true:=by
 have h:=Aeo l.toList
 rw [A2f] at h
 exact h
theorem Ave (l:List Chg) (x:Chg) (D:Hp):cbH (l++[x])++D=cbH l++(x.body.hp tU8++D):=by
 unfold cbH
 simp
theorem Arj:cbH []=[]:=by unfold cbH;rfl
theorem Ai4 {w:Wd} {i:Nat} (h:w.toNat≤i) (hi:i≤1000):(w+1).toNat=w.toNat+1:=by
 rw [A3k]
 show (w.toNat+1) % 2 ^ 64=_
 omega
section
variable {i:Nat} {A:Ab} {z:Sg}
end
end
section
open Go.ChangeShapes Go.WideShapes Go.ChangeAt Go.RowKit Go.K
set_option linter.constructorNameAsVariable false
theorem A6 {a b:Bool} (h:a=true) (k:b=true):(a && b)=true:=by rw [h,k];rfl
theorem own:ownKnob Tryz.prog.godebug=none:=by kernel_rfl
theorem Tw:laidOutB Tryz.prog=true:=by kernel_rfl
theorem Awa:mapsRowed Tryz.pinned.checked.prog=true:=by kernel_rfl
theorem Awb:(Tryz.pinned.checked.prog.stopKnobs == [])=true:=by kernel_rfl
theorem Awc:Tryz.pinned.checked.prog.stopsHeard=true:=by kernel_rfl
theorem Ark:true=Tryz.pinned.checked.prog.looks []:=by kernel_rfl
abbrev Awd : List (String × DataW Unit) := [("keelson/store.lost", Rows.laid_keelson_store_lost)]
noncomputable def R5 (os:Os):World :=
 let w0:=World.holding Tryz.prog os ⟨#[],#[],[]⟩
 { w0 with heap:=w0.heap.modify 0 fun
   | .cells _ t frozen=> .cells #[.int .i64 (-1),.int .i64 (-1)] t frozen
   | o=>o }
theorem Aep (os:Os) (args:Array Value):laidMet Tryz.prog Awd ((R5 os).forCall (fun _ _=>0) ⟨#[],args,[]⟩).memory :=
 laidMet_of_run (ps:=[.cell 0 0,.cell 0 1]) 8 (by kernel_rfl) (by kernel_rfl) (by kernel_rfl)
theorem lostN : Tryz.prog.globalNamed "keelson/store.lost" = some 0 := by kernel_rfl
theorem lostT:(Tryz.prog.globals[0]?).map (·.type)=some 65:=by kernel_rfl
theorem Qo {W:World} (h:laidMet Tryz.prog Awd W):∃ T,HpOk [Cn T] W:=by
 obtain ⟨ps,⟨g,t,cs,fuel,p,q,hg,ht,hvar,hd,hq,hps⟩,hnd,hall⟩:=h
 obtain rfl:=A4o (lostN.symm.trans hg)
 obtain rfl:=A4o (lostT.symm.trans ht)
 obtain ⟨y0,y1,n,hx,hl,h0,h1⟩:=trod_struct2 Tryz.underlying65 hd
 have hl2:cs.toList.length=2:=hl.trans (by kernel_rfl)
 obtain ⟨a,b,hab⟩:∃ a b,cs.toList=[a,b]:=by
  match hc:cs.toList,hl2 with
  | [a,b],_=>exact ⟨a,b,rfl⟩
 rw [hab] at h0 h1
 obtain ⟨n0,e0,x0,_⟩:=A4r Tryz.underlying3 h0
 obtain ⟨n1,e1,x1,_⟩:=A4r Tryz.underlying3 h1
 have e0':[a]=[Value.int .i64 n0]:=e0
 have e1':[b]=[Value.int .i64 n1]:=e1
 subst x0 x1
 have hxx:Rows.laid_keelson_store_lost=(DataW.agg [.lit (.int .i64 n0),.lit (.int .i64 n1)]:DataW Unit):=(Prod.mk.inj hx).1
 unfold Rows.laid_keelson_store_lost at hxx
 simp only [DataW.agg.injEq,A38,DataW.lit.injEq,Lit.int.injEq,and_true,true_and] at hxx
 obtain ⟨m0,m1⟩:=hxx
 have hcs:cs=#[.int .i64 (-1),.int .i64 (-1)]:=by
  have:cs.toList=[Value.int .i64 (-1),.int .i64 (-1)]:=by
   rw [hab]
   simp only [A38,and_true] at e0' e1'
   rw [e0',e1',← m0,← m1]
  obtain ⟨l⟩:=cs
  simp only at this
  rw [this]
 have hin:MemPlace.cell 0 0∈ps:=by
  rw [hps,hcs]
  exact A18 _ (A18 _ (by simp [MemPlace.row]))
 obtain ⟨⟨c,T,hb⟩,_⟩:=hall 0 0 hin
 refine ⟨T,⟨by simp,fun x hx=> ?_⟩⟩
 rw [A2z.1 hx]
 simp only [World.var?,lostN,Option.bind_some,hb,A3h] at hvar
 rw [hb,hvar,hcs]
 rfl
theorem Avf {W:World} {base:Nat} {v:Value} (ho:Value.okWide Tryz.prog W .any base 3 v):∃ n,v= .int .i64 n:=okWide_int Tryz.underlying3 ho
end
section
open Go.K
variable {T:TypeId}
instance und22:Und Tryz.prog 22 (.slice 33):=⟨Tryz.underlying22⟩
instance agg33:Agg Tryz.prog 33 true:=⟨⟨_,Tryz.underlying33,rfl⟩⟩
instance siz33:Siz Tryz.prog 33 8:=⟨by kernel_rfl⟩
instance zer33:Zer Tryz.prog 33 ([.int .i64 0,.int .i64 0,.int .i64 0,.slice none 0 0,.int .u64 0,.int .i64 0,.int .u64 0,.int .u64 0]):=⟨by kernel_rfl⟩
instance fld33_3:Fld Tryz.prog 33 3 3:=⟨⟨_,_,0,Tryz.underlying33,rfl,by kernel_rfl,rfl⟩⟩
instance ent14:Ent Tryz.prog 14:=⟨fun _ _=>by kernel_rfl⟩
structure OpS where
 kind:Int
 n:Int
 keep:Int
 ch:Sl Chg
 vw:Vw
 jump:Wd
def Az4 (o:OpS):List Value:=[.int .i64 o.kind,.int .i64 o.n,.int .i64 o.keep,o.ch.val,wv o.vw.num,.int .i64 o.vw.mem,wv o.vw.base,wv o.jump]
instance:Cel OpS:=⟨8,Az4,fun _=>rfl,fun _=>rfl⟩
abbrev tOs:TypeId:=33
@[irreducible] def opH (l:List OpS):Hp:=l.flatMap fun o=>o.ch.hp tCg++cbH o.ch.list
theorem Ag3 {l:List OpS} {i:Nat} {o:OpS} (h:l[i]? =some o) (D:Hp):opH l++D=opH (l.take i)++(o.ch.hp tCg++(cbH o.ch.list++(opH (l.drop (i+1))++D))):=by
 obtain ⟨h1,h2⟩:=A08.1 h
 have e:l=l.take i++o::l.drop (i+1):=by
  conv=>lhs;rw [← A11 i l,A05 h1,h2]
 unfold opH
 conv=>lhs;rw [e]
 simp
def SmallC (cs:List Chg):Prop:=∀ c∈cs,c.body.list.length≤300
def SmallO (l:List OpS):Prop:=∀ o∈l,o.ch.list.length≤40∧SmallC o.ch.list
theorem SmallC.step {cs:List Chg} {i:Nat} {c:Chg} (h:SmallC (cs.take i)) (hg:cs[i]? =some c) (hc:c.body.list.length≤300):SmallC (cs.take (i+1)):=fun x hx=>by
 rw [A3g,hg] at hx
 rcases A4f.1 hx with h1 | h1
 ·exact h x h1
 ·rw [show x=c by simpa using h1];exact hc
theorem SmallO.step {l:List OpS} {i:Nat} {o:OpS} (h:SmallO (l.take i)) (hg:l[i]? =some o) (h1:o.ch.list.length≤40) (h2:SmallC o.ch.list):SmallO (l.take (i+1)):=fun x hx=>by
 rw [A3g,hg] at hx
 rcases A4f.1 hx with h3 | h3
 ·exact h x h3
 ·rw [show x=o by simpa using h3];exact ⟨h1,h2⟩
theorem Aeq {sc:Sl OpS}:Does Tryz.prog 14 [sc.val] (sc.hp tOs++(opH sc.list++[]))
  (fun v H=>∃ b:Bool,v= .bool b∧H=sc.hp tOs++(opH sc.list++[])∧(b=false→sc.list.length≤70∧SmallO sc.list)):=by
 have hsm:=sc.small
 refine zF 33 Tryz.func14 ?_
 refine zC ?_
 refine Ae rfl (fun c9=> ?_) (fun c9=> ?_)
 ·simp only [A3j,A1k] at c9
  refine zC ?_
  exact zL (hR:=by exact ⟨true,rfl,rfl,fun h=>by cases h⟩)
 ·simp only [A3j,A1k] at c9
  refine zC ?_
  refine At [0,10,11] kQ (fun (st:Nat)=>[(12,.int .i64 st)]) (fun st=>(sc.hp tOs++(opH sc.list++[]))) (fun st=>st≤sc.list.length∧SmallO (sc.list.take st)) (fun st=>sc.list.length - st) (0) ⟨A5s _,fun x hx=>by cases hx⟩ kP sP ?_
  rintro i ⟨g0,g1⟩
  refine zC ?_
  refine Ae rfl (fun c13=> ?_) (fun c13=> ?_)
  ·simp only [A3j,A1k] at c13
   obtain ⟨o,hg⟩:∃ o,sc.list[i]? =some o:=⟨_,A1d (by omega)⟩
   rw [Ag3 hg]
   have hsm2:=o.ch.small
   refine zA ?_
   refine Ah (A7 (s:=sc) rfl rfl (by omega)) rfl ?_
   refine Ah (Dd (s:=sc) (o:=0) rfl pL hg rfl rfl) rfl ?_
   refine Aj rfl (fun b4=> ?_)
   refine zC ?_
   refine Ae rfl (fun c19=> ?_) (fun c19=> ?_)
   ·simp only [A3j,A1k] at c19
    refine zC ?_
    exact zL (hR:=by exact ⟨true,rfl,rfl,fun h=>by cases h⟩)
   ·simp only [A3j,A1k] at c19
    refine zC ?_
    refine At [0,10,11,12,21,22] kQ (fun (st:Nat)=>[(23,.int .i64 st)]) (fun st=>(sc.hp tOs++(opH (sc.list.take i)++(o.ch.hp tCg++(cbH o.ch.list++(opH (sc.list.drop (i+1))++[])))))) (fun st=>st≤o.ch.list.length∧SmallC (o.ch.list.take st)) (fun st=>o.ch.list.length - st) (0) ⟨A5s _,fun x hx=>by cases hx⟩ kP sP ?_
    rintro j ⟨k0,k1⟩
    refine zC ?_
    refine Ae rfl (fun c24=> ?_) (fun c24=> ?_)
    ·simp only [A3j,A1k] at c24
     obtain ⟨x,hx⟩:∃ x,o.ch.list[j]? =some x:=⟨_,A1d (by omega)⟩
     refine zA ?_
     refine Ah (A7 (s:=o.ch) rfl rfl (by omega)) rfl ?_
     refine Ah (Dd (s:=o.ch) (o:=0) rfl pL hx rfl rfl) rfl ?_
     refine Aj rfl (fun b6=> ?_)
     refine zC ?_
     refine Ae rfl (fun c30=> ?_) (fun c30=> ?_)
     ·simp only [A3j,A1k] at c30
      refine zC ?_
      exact zL (hR:=by exact ⟨true,rfl,rfl,fun h=>by cases h⟩)
     ·simp only [A3j,A1k] at c30
      refine zC ?_
      exact ⟨j+1,⟨by omega,k1.step hx (by omega)⟩,by omega,lZ⟩
    ·simp only [A3j,A1k] at c24
     have hj:j=o.ch.list.length:=(by omega)
     subst hj
     rw [A30] at k1
     have hgo:=g1.step hg (by omega) k1
     refine zC ?_
     exact ⟨i+1,⟨by omega,hgo⟩,by omega,lZ⟩
  ·simp only [A3j,A1k] at c13
   have hi:i=sc.list.length:=(by omega)
   subst hi
   rw [A30] at g1
   refine zC ?_
   exact zL (hR:=by exact ⟨false,rfl,rfl,fun _=>⟨by omega,g1⟩⟩)
end
section
open Go.K
variable {T:TypeId}
instance fld33_5:Fld Tryz.prog 33 5 7:=⟨⟨_,_,0,Tryz.underlying33,rfl,by kernel_rfl,rfl⟩⟩
instance ent17:Ent Tryz.prog 17:=⟨fun _ _=>by kernel_rfl⟩
instance ent18:Ent Tryz.prog 18:=⟨fun _ _=>by kernel_rfl⟩
theorem Ayp (x y:Wd):Et .and .u64 x.toNat y.toNat=((x &&& y).toNat:Int):=by
 show IntKind.u64.wrap (((BitVec.ofInt 64 (x.toNat:Int)) &&& (BitVec.ofInt 64 (y.toNat:Int))).toNat:Int)=_
 have e:∀ z:Wd,BitVec.ofInt 64 (z.toNat:Int)=z:=fun z=>by
  rw [A14]
  exact A1s (by rw [A2p];exact A31 z.isLt)
 rw [e,e,Em .u64 rfl,A14]
 show ((BitVec.ofNat 64 ((x &&& y).toNat)).toNat:Int)=_
 rw [A2p,A31 (x &&& y).isLt]
theorem Avg {P:Program} {E:Env} {H:Hp} {t u:TypeId} {x y:Operand} {a b:Wd} (hx:ev E x=some (wv a)) (hy:ev E y=some (wv b)):Rd P E H (.binOp .and t x y u) (wv (a &&& b)):=by
 unfold wv
 rw [← Ayp]
 exact An hx hy rfl
theorem We {S:Sto} {o:OpS}:Does Tryz.prog 17 [ptr S.st,.agg (Az4 o).toArray] [(S.st,true,C (stC S) tSt)]
  (fun v H=>∃ w:Wd,v=wv w∧H=[(S.st,true,C (stC S) tSt)]∧w=S.seen+(o.jump &&& 3)):=by
 refine zF 11 Tryz.func17 ?_
 refine zC ?_
 refine Dj rfl rfl (fun b3=> ?_)
 refine zC ?_
 refine A0 [(5,[(0,false),(2,false),(3,false),(4,false),(1,true)]),(7,[(5,false),(6,false)])] (by kernel_rfl) ?_
 iterate 4 refine sb ?_
 refine Aq (show Rd _ _ _ _ (wv (o.jump &&& 3)) from Avg (b:=3) rfl rfl) ?_
 refine zC ?_
 refine zI rfl (Aas (S:=S)) ?_
 refine zA ?_
 refine Aq (Aa6 rfl rfl) ?_
 refine zC ?_
 exact zL (hR:=by exact ⟨_,rfl,rfl,rfl⟩)
def Arl (c:Chg):Int×Bool×List By:=(c.key,c.gone,c.body.list)
theorem Wf {cs:Sl Chg} (hn:cs.list.length≤40) (hs:SmallC cs.list):Does Tryz.prog 18 [cs.val] (cs.hp tCg++(cbH cs.list++[]))
  (fun v H=>∃ o:Sl Chg,v=o.val∧H=o.hp tCg++(cbH o.list++(cs.hp tCg++(cbH cs.list++[])))∧o.list.map Arl=cs.list.map Arl∧o.isOwn=true):=by
 have hsm:=cs.small
 refine zF 24 Tryz.func18 ?_
 refine zC ?_
 refine Ao rfl rfl rfl rfl (fun b6=> ?_)
 refine zC ?_
 refine At [0,7,8] kQ (fun (st:Nat×Sl Chg)=>[(9,.int .i64 st.1),(3,st.2.val)]) (fun st=>(st.2.hp tCg++(cbH st.2.list++(cs.hp tCg++(cbH cs.list++[]))))) (fun st=>st.1≤cs.list.length∧st.2.list.map Arl=(cs.list.take st.1).map Arl∧st.2.isOwn=true) (fun st=>cs.list.length - st.1) ((0,.own b6 [] 0 [] ⟨by simp,A5q _,by simp⟩)) ⟨A5s _,rfl,rfl⟩ kP (by show Split _ (Sl.hp tCg (.own b6 [] 0 [] _)++(cbH []++_)) _;rw [Arj,Sl.hp_own];exact sP) ?_
 rintro ⟨i,o⟩ ⟨g0,g1,g2⟩
 simp only at g0 g1 g2
 have hol:o.list.length≤40:=(by have:=A52 List.length g1;rw [A4b,A4b,A3x] at this;omega)
 refine zC ?_
 refine Ae rfl (fun c10=> ?_) (fun c10=> ?_)
 ·simp only [A3j,A1k] at c10
  obtain ⟨x,hg⟩:∃ x,cs.list[i]? =some x:=⟨_,A1d (by omega)⟩
  rw [Agt hg]
  have hx:=hs x (A2a hg)
  refine zA ?_
  refine Ah (A7 (s:=cs) rfl rfl (by omega)) rfl ?_
  refine Ah (Dd (s:=cs) (o:=0) rfl pL hg rfl rfl) rfl ?_
  refine Aj rfl (fun b5=> ?_)
  refine zC ?_
  refine Ao rfl rfl rfl rfl (fun b13=> ?_)
  refine zC ?_
  refine Az (s:= .own b13 [] 0 [] ⟨by simp,A5q _,by simp⟩) (new:=x.body.list) (m:=x.body.list.length) rfl rfl (by rw [Sl.hp_own];exact pL) rfl (Lb pL) rfl rfl rfl rfl (by show (2*(0+_)+1024)*_≤_;omega) rfl (fun s16 h16 o16=> ?_)
  refine zC ?_
  refine Ao rfl rfl rfl rfl (fun b20=> ?_)
  refine Az (s:=o) (new:=[(⟨x.key,x.gone,s16⟩:Chg)]) (m:=1) rfl rfl pL g2 (Ch (r:=true) mM rfl) rfl rfl rfl rfl (by omega) rfl (fun s' hs1 hs2=> ?_)
  refine zC ?_
  exact ⟨(i+1,s'),⟨by simp only;omega,by simp only;rw [hs1,A4e,g1,A3g,hg,A4e];simp [Arl,show s16.list=x.body.list from h16],hs2⟩,by simp only;omega,kP,kP,_,(by simp only;rw [hs1,Ave];exact sP)⟩
 ·simp only [A3j,A1k] at c10
  have hi:i=cs.list.length:=(by omega)
  subst hi
  rw [A30] at g1
  refine zC ?_
  exact zL (hR:=by exact ⟨o,rfl,rfl,g1,g2⟩)
end
section
open Go.K
variable {T:TypeId}
instance:Cel Vw:=⟨3,vwC,fun _=>rfl,fun _=>rfl⟩
theorem Az5 {n k k':Nat} {q q':Qt} {z z':Sg} (h:WI n k q z) (h':WI n k' q' z'):z'.L.nb=z.L.nb:=by
 have:=h.2.choose_spec.num
 have:=h'.2.choose_spec.num
 omega
section
variable {i:Nat} {A:Ab} {z:Sg}
end
end
section
open Go.ChangeShapes Go.WideShapes Go.ChangeAt Go.RowKit Go.K
set_option linter.constructorNameAsVariable false
section
variable {H:Type} {enc:TypeId×Value→H} {w:World} {base:Nat} {spare:Nat→Bool} {held:Bool}
theorem Aer (m:Nat) (row:List Value) (y:DataW H×List MemPlace) (h:DataW.trod enc Tryz.prog w base spare held m 5 row=some y):∃ c:By,row=Cel.cs c∧RoOk w []:=by
 obtain ⟨c,rfl⟩:=Ak4 Tryz.underlying5 h
 exact ⟨c,rfl,.nil⟩
theorem Avh (m:Nat) (row:List Value) (y:DataW H×List MemPlace) (h:DataW.trod enc Tryz.prog w base spare held m 45 row=some y):∃ c:Chg,row=Cel.cs c∧RoOk w (c.body.hp tU8):=by
 obtain ⟨xs,n,_,_,hl,hlen,hf⟩:=DataW.trod_struct Tryz.underlying45 h
 have hl2:row.length=3:=hl.trans (by kernel_rfl)
 have hlen':xs.length=3:=hlen
 obtain ⟨a,b,c,rfl⟩:∃ a b c,row=[a,b,c]:=by
  match row,hl2 with
  | [a,b,c],_=>exact ⟨a,b,c,rfl⟩
 have h0:=(hf 0 _ rfl).trans (A1d (by omega))
 have h1:=(hf 1 _ rfl).trans (A1d (by omega))
 have h2:=(hf 2 _ rfl).trans (A1d (by omega))
 obtain ⟨n0,e0,_⟩:=A4r Tryz.underlying3 h0
 obtain ⟨n1,e1,_⟩:=DataW.trod_bool Tryz.underlying4 h1
 obtain ⟨s,e2,r1,_⟩:=Aah (α:=By) Tryz.underlying23 (by kernel_rfl) (by decide) (fun _=>[]) Aer tU8 h2
 have e0':[a]=[Value.int .i64 n0]:=e0
 have e1':[b]=[Value.bool n1]:=e1
 have e2':[c]=[s.val]:=e2
 refine ⟨⟨n0,n1,s⟩,?_,r1⟩
 show [a,b,c]=[.int .i64 n0,.bool n1,s.val]
 simp only [A38,and_true] at e0' e1' e2' ⊢
 exact ⟨e0',e1',e2'⟩
theorem Ayq (m:Nat) (row:List Value) (y:DataW H×List MemPlace) (h:DataW.trod enc Tryz.prog w base spare held m 31 row=some y):∃ c:Vw,row=Cel.cs c∧RoOk w []:=by
 obtain ⟨xs,n,_,_,hl,hlen,hf⟩:=DataW.trod_struct Tryz.underlying31 h
 have hl2:row.length=3:=hl.trans (by kernel_rfl)
 have hlen':xs.length=3:=hlen
 obtain ⟨a,b,c,rfl⟩:∃ a b c,row=[a,b,c]:=by
  match row,hl2 with
  | [a,b,c],_=>exact ⟨a,b,c,rfl⟩
 have h0:=(hf 0 _ rfl).trans (A1d (by omega))
 have h1:=(hf 1 _ rfl).trans (A1d (by omega))
 have h2:=(hf 2 _ rfl).trans (A1d (by omega))
 obtain ⟨n0,e0,_,w0⟩:=A4r Tryz.underlying29 h0
 obtain ⟨n1,e1,_⟩:=A4r Tryz.underlying3 h1
 obtain ⟨n2,e2,_,w2⟩:=A4r Tryz.underlying29 h2
 obtain ⟨x0,g0⟩:=Vm w0
 obtain ⟨x2,g2⟩:=Vm w2
 have e0':[a]=[Value.int .u64 n0]:=e0
 have e1':[b]=[Value.int .i64 n1]:=e1
 have e2':[c]=[Value.int .u64 n2]:=e2
 refine ⟨⟨x0,n1,x2⟩,?_,.nil⟩
 show [a,b,c]=[wv x0,.int .i64 n1,wv x2]
 simp only [A38,and_true] at e0' e1' e2' ⊢
 exact ⟨e0'.trans g0,e1',e2'.trans g2⟩
theorem Avi (m:Nat) (row:List Value) (y:DataW H×List MemPlace) (h:DataW.trod enc Tryz.prog w base spare held m 33 row=some y):∃ o:OpS,row=Cel.cs o∧RoOk w (o.ch.hp tCg++cbH o.ch.list):=by
 obtain ⟨xs,n,_,_,hl,hlen,hf⟩:=DataW.trod_struct Tryz.underlying33 h
 have hl2:row.length=8:=hl.trans (by kernel_rfl)
 have hlen':xs.length=6:=hlen
 obtain ⟨a0,a1,a2,a3,a4,a5,a6,a7,rfl⟩:∃ a0 a1 a2 a3 a4 a5 a6 a7,row=[a0,a1,a2,a3,a4,a5,a6,a7]:=by
  match row,hl2 with
  | [a0,a1,a2,a3,a4,a5,a6,a7],_=>exact ⟨a0,a1,a2,a3,a4,a5,a6,a7,rfl⟩
 have h0:=(hf 0 _ rfl).trans (A1d (by omega))
 have h1:=(hf 1 _ rfl).trans (A1d (by omega))
 have h2:=(hf 2 _ rfl).trans (A1d (by omega))
 have h3:=(hf 3 _ rfl).trans (A1d (by omega))
 have h4:=(hf 4 _ rfl).trans (A1d (by omega))
 have h5:=(hf 5 _ rfl).trans (A1d (by omega))
 obtain ⟨n0,e0,_⟩:=A4r Tryz.underlying3 h0
 obtain ⟨n1,e1,_⟩:=A4r Tryz.underlying3 h1
 obtain ⟨n2,e2,_⟩:=A4r Tryz.underlying3 h2
 obtain ⟨s,e3,r1,r2⟩:=Aah (α:=Chg) Tryz.underlying28 (by kernel_rfl) (by decide) (fun c=>c.body.hp tU8) Avh tCg h3
 obtain ⟨v,e4,_⟩:=Ayq _ _ _ h4
 obtain ⟨n5,e5,_,w5⟩:=A4r Tryz.underlying29 h5
 obtain ⟨x5,g5⟩:=Vm w5
 have e0':[a0]=[Value.int .i64 n0]:=e0
 have e1':[a1]=[Value.int .i64 n1]:=e1
 have e2':[a2]=[Value.int .i64 n2]:=e2
 have e3':[a3]=[s.val]:=e3
 have e4':[a4,a5,a6]=[wv v.num,.int .i64 v.mem,wv v.base]:=e4
 have e5':[a7]=[Value.int .u64 n5]:=e5
 refine ⟨⟨n0,n1,n2,s,v,x5⟩,?_,r1.app (by unfold cbH;exact r2)⟩
 show [a0,a1,a2,a3,a4,a5,a6,a7]=[.int .i64 n0,.int .i64 n1,.int .i64 n2,s.val,wv v.num,.int .i64 v.mem,wv v.base,wv x5]
 simp only [A38,and_true] at e0' e1' e2' e3' e4' e5' ⊢
 exact ⟨e0',e1',e2',e3',e4'.1,e4'.2.1,e4'.2.2,e5'.trans g5⟩
theorem Wg {v:Value} {d:DataW H} {ps:List MemPlace} {b1:Nat} (ho:Value.okWide Tryz.prog w .any base 22 v) (h:DataW.Trod enc Tryz.prog w b1 spare held 22 v d ps):∃ s:Sl OpS,v=s.val∧RoOk w (s.hp tOs)∧RoOk w (opH s.list):=by
 obtain ⟨s,e,r1,r2⟩:=Ads (α:=OpS) Tryz.underlying22 (by kernel_rfl) (by decide) (fun o=>o.ch.hp tCg++cbH o.ch.list) Avi tOs ho h
 exact ⟨s,e,r1,by unfold opH;exact r2⟩
end
end
section
open Go.K
variable {T:TypeId}
instance und38:Und Tryz.prog 38 (.array 256 9):=⟨Tryz.underlying38⟩
instance siz38:Siz Tryz.prog 38 256:=⟨by kernel_rfl⟩
instance zer38:Zer Tryz.prog 38 (List.replicate 256 (.string ⟨#[]⟩)):=⟨by kernel_rfl⟩
structure StI (n i:Nat) (A:Ab) (z:Sg):Prop where
 std:Std A z
 wi:WI n (2000+100000000*i) (q0 n) z
 af:z.L.d.c.after<0
 nb:z.L.nb+6=n
theorem StI.nb40 {n i:Nat} {A:Ab} {z:Sg} (h:StI n i A z) (hn:n≤40):z.L.nb≤40:=by have:=h.nb;omega
theorem Laid11.sti {n:Nat} {z:Sg} (h:Laid11 n z) (hn:16≤n∧n≤40):StI n 0 ab0 z:=⟨h.std hn,h.wi.mono (by omega),h.af,h.nb⟩
theorem Tx {n i:Nat} {A:Ab} {z:Sg} (h:StI n i A z) (hn:n≤40) (hi:i≤900) {ep:Wd} {cs:Sl Chg} (hc:cs.list.length≤300) :
  Does Tryz.prog 16 [ptr z.S.st,wv ep,cs.val] (Cn T::(z.S.st,true,C (stC z.S) tSt)::(z.S.ib,true,z.S.idx.obj .i64)::(z.S.pb,true,z.S.pend.obj .i64)::(z.S.sb,true,z.S.stray.obj .i64)::(lgH z.L++(cs.hp tCg++(cbH cs.list++[]))))
  (fun v H=>∃ (e:Int) (A':Ab) (z':Sg),v= .int .i64 e∧H=Cn T::(z'.S.st,true,C (stC z'.S) tSt)::(z'.S.ib,true,z'.S.idx.obj .i64)::(z'.S.pb,true,z'.S.pend.obj .i64)::(z'.S.sb,true,z'.S.stray.obj .i64)::(lgH z'.L++(cs.hp tCg++(cbH cs.list++[])))∧z'.S.st=z.S.st∧StI n (i+1) A' z' ∧
   ((Bn z ep cs.list=true∧e=1∧A'=A)∨(Bn z ep cs.list=false∧Bv z cs.list=true∧e=40∧A'=A)∨(Bn z ep cs.list=false∧Bv z cs.list=false∧e=0∧ComA A ep cs.list A'))):=by
 refine (Wb h.std h.wi (by omega) (A5s 3) h.af (h.nb40 hn) hc).mono ?_
 rintro v H ⟨e,z',rfl,rfl,hst,⟨hw,hfra,hcc⟩,_⟩
 have hnb:=Az5 h.wi hw
 have haf:z'.L.d.c.after<0:=by rw [(hfra.pos h.af).1];exact h.af
 have hW:WI n (2000+100000000*(i+1)) (q0 n) z':=hw.mono (by omega)
 rcases hcc with ⟨h1,rfl,rfl⟩ | ⟨h1,h2,rfl,rfl⟩ | ⟨h1,h2,rfl,A',hcom,hA⟩
 ·exact ⟨_,A,z',rfl,rfl,rfl,⟨h.std,hW,h.af,h.nb⟩,.inl ⟨h1,rfl,rfl⟩⟩
 ·exact ⟨_,A,z',rfl,rfl,rfl,⟨h.std,hW,h.af,h.nb⟩,.inr (.inl ⟨h1,h2,rfl,rfl⟩)⟩
 ·exact ⟨_,A',z',rfl,rfl,hst,⟨hA,hW,haf,by rw [hnb];exact h.nb⟩,.inr (.inr ⟨h1,h2,rfl,hcom⟩)⟩
theorem Awe (s j:Wd) (h:s.toNat≤1000):(s+(j &&& 3)).toNat≤s.toNat+3:=by
 have h3:(j &&& 3).toNat≤3:=by
  rw [A3l]
  exact Nat.and_le_right
 rw [A3k]
 omega
def M4 (A:Ab) (k:Int):List By:=match A.ix k with | some (_,b)=>b | none=>[]
theorem Aes {n k:Nat} {q:Qt} {A:Ab} {z:Sg} (h:Std A z) (hw:WI n k q z) {key:Int}:Does Tryz.prog 19 [ptr z.S.st,.int .i64 key] (Cn T::(z.S.st,true,C (stC z.S) tSt)::(z.S.ib,true,z.S.idx.obj .i64)::(z.S.pb,true,z.S.pend.obj .i64)::(lgH z.L++[]))
  (fun v H=>∃ (s:Sl By) (ky:Int) (e:Wd) (er:Int),v= .tuple #[.agg (ndC ⟨ky,e,s⟩).toArray,.int .i64 0,.int .i64 er]∧H=s.hp tU8++(Cn T::(z.S.st,true,C (stC z.S) tSt)::(z.S.ib,true,z.S.idx.obj .i64)::(z.S.pb,true,z.S.pend.obj .i64)::(lgH z.L++[]))∧s.list=M4 A key):=by
 refine (Wc h hw).mono ?_
 rintro v H ⟨s,ky,e,er,rfl,rfl,hh⟩
 refine ⟨s,ky,e,er,rfl,rfl,?_⟩
 unfold M4
 rcases hh with ⟨h1,_,_,_,rfl⟩ | ⟨_,_,h1,_⟩
 ·rw [h1];rfl
 ·rw [h1]
def sv (b:List By):Value:= .string (Mj b)
def S9 (A:Ab) (k:Nat):List (List By):=(List.range 256).map fun j=>if j<k then M4 A (j:Nat) else []
theorem Arm (A:Ab) (k:Nat):(S9 A k).length=256:=by simp [S9]
theorem Ayr (A:Ab):(S9 A 0).map sv=List.replicate 256 (.string ByteArray.empty):=by
 unfold S9
 simp only [Nat.not_lt_zero,A53]
 apply A26
 intro i
 simp only [A29,List.getElem?_replicate]
 by_cases h:i<256
 ·rw [A2k h];simp [h];rfl
 ·rw [A1v (by simpa using h)];simp [h]
theorem Arn (A:Ab) {k:Nat} (hk:k<256):(S9 A k).set k (M4 A (k:Nat))=S9 A (k+1):=by
 unfold S9
 apply A26
 intro i
 rw [A3a]
 simp only [A29,A4b,A3b]
 by_cases hi:i<256
 ·rw [A2k hi]
  by_cases h:k=i
  ·subst h;simp [hk]
  ·rw [if_neg h]
   simp only [A4n]
   by_cases h2:i<k
   ·rw [if_pos h2,if_pos (by omega)]
   ·rw [if_neg h2,if_neg (by omega)]
 ·rw [if_neg (by omega),A1v (by simpa using hi)]
  rfl
theorem Aro (A:Ab) {k:Nat} (hk:k<256):(S9 A 256)[k]? =some (M4 A (k:Nat)):=by
 unfold S9
 rw [A29,A2k hk]
 simp [hk]
theorem Avj (b:Nat) (c:Chg):(cs1 b c).hp tCg++(cbH (cs1 b c).list++[])=(b,true,C (Ax7 c) tCg)::(c.body.hp tU8++[]):=by
 unfold cs1
 rw [Sl.hp_own]
 show _++(cbH [c]++[])=_
 unfold cbH
 simp [cells,Cel.cs]
theorem Avk {A A':Ab} {z z':Sg} {c:Chg} {e:Int} {ep:Wd} (hA:Std A z) (hA':Std A' z') (hg:c.gone=false) (hb:c.body.list.length≤224) (hep:A.seen.toNat<ep.toNat)
  (h:(Bn z ep [c]=true∧e=1∧A'=A)∨(Bn z ep [c]=false∧Bv z [c]=true∧e=40∧A'=A)∨(Bn z ep [c]=false∧Bv z [c]=false∧e=0∧ComA A ep [c] A')) :
  (∀ k,M4 A' k=if k=c.key∧e=0 then c.body.list else M4 A k)∧(e=0∨e=40∨c.key<0∨c.key>255):=by
 rcases h with ⟨h1,rfl,rfl⟩ | ⟨_,_,rfl,rfl⟩ | ⟨h1,_,rfl,h2⟩
 ·refine ⟨fun k=>by rw [if_neg (by simp)],?_⟩
  unfold Bn M2 at h1
  have h3:N1 (([c]:List Chg).map (·.key))=true:=onceC_iff.2 (by simp)
  have h4:decide ((ep.toNat:Int)>(z.S.seen.toNat:Int))=true:=by rw [hA.seen];simp;omega
  rw [h3,h4] at h1
  simp only [A43,A41,A42,A23,A44,List.all_nil,A4z] at h1
  unfold Qf Bh Cs at h1
  have:decide (c.body.list.length≤224)=true:=by simpa using hb
  rw [this,A4z,A1u,A1k,A1k] at h1
  rcases h1 with h1 | h1
  ·exact .inr (.inr (.inl (by omega)))
  ·exact .inr (.inr (.inr (by omega)))
 ·exact ⟨fun k=>by rw [if_neg (by simp)],.inr (.inl rfl)⟩
 ·refine ⟨fun k=> ?_,.inl rfl⟩
  by_cases hk:k=c.key
  ·subst hk
   rw [if_pos ⟨rfl,rfl⟩]
   unfold M4
   rw [h2.chg c (.head _) hg]
  ·rw [if_neg (fun h=>hk h.1)]
   have hno:k∉([c]:List Chg).map (·.key):=by simpa using hk
   unfold M4
   cases hi:A.ix k with
   | some r=>rw [h2.oth k hno r.1 r.2 hi]
   | none =>
    have h3:=hA'.live k
    rw [h2.lv,Lq hno,← hA.live k,hi] at h3
    cases hj:A'.ix k with
    | none=>rfl
    | some r=>rw [hj] at h3;cases h3
theorem Avl {n i:Nat} {A:Ab} {z:Sg} (h:StI n i A z) (hn:n≤40) (hi:i≤900) {ep:Wd} {b:Nat} {key:Int} {body:Sl By} :
  Does Tryz.prog 16 [ptr z.S.st,wv ep,.slice (some ⟨b,0,none⟩) 1 1] (Cn T::(z.S.st,true,C (stC z.S) tSt)::(z.S.ib,true,z.S.idx.obj .i64)::(z.S.pb,true,z.S.pend.obj .i64)::(z.S.sb,true,z.S.stray.obj .i64)::(lgH z.L++((b,true,C [.int .i64 key,.bool false,body.val] tCg)::(body.hp tU8++[]))))
  (fun v H=>∃ (e:Int) (A':Ab) (z':Sg),v= .int .i64 e∧H=Cn T::(z'.S.st,true,C (stC z'.S) tSt)::(z'.S.ib,true,z'.S.idx.obj .i64)::(z'.S.pb,true,z'.S.pend.obj .i64)::(z'.S.sb,true,z'.S.stray.obj .i64)::(lgH z'.L++((b,true,C [.int .i64 key,.bool false,body.val] tCg)::(body.hp tU8++[])))∧z'.S.st=z.S.st∧StI n (i+1) A' z' ∧
   ((Bn z ep [⟨key,false,body⟩]=true∧e=1∧A'=A)∨(Bn z ep [⟨key,false,body⟩]=false∧Bv z [⟨key,false,body⟩]=true∧e=40∧A'=A)∨(Bn z ep [⟨key,false,body⟩]=false∧Bv z [⟨key,false,body⟩]=false∧e=0∧ComA A ep [⟨key,false,body⟩] A'))):=by
 have hf:=Tx (T:=T) h hn hi (ep:=ep) (cs:=cs1 b ⟨key,false,body⟩) (by show 1≤300;omega)
 rw [Avj] at hf
 exact hf
theorem Y0 {P:Program} {E:Env} {H:Hp} {t u:TypeId} {x y:Operand} {xs ys:List By} (hx:ev E x=some (.string (Mj xs))) (hy:ev E y=some (.string (Mj ys))) (h:xs=ys):Rd P E H (.binOp .neq t x y u) (.bool false) :=
 fun a w d ty pos af g h1 h2=>by
  subst h
  simp only [execOp,Au h1 hx,Au h1 hy,eqGuard,Go.binOp_string_neq]
  simp
theorem Arp {sc:Sl OpS} {key:Int} {body:Sl By}:Does Tryz.prog 3 [sc.val,.int .i64 key,body.val] (sc.hp tOs++(opH sc.list++(body.hp tU8++(Cn T::[])))) (fun v H=>v= .bool true):=by
 have hsm:=sc.small
 have hsm0:=body.small
 refine zF 116 Tryz.func3 ?_
 refine zC ?_
 refine zI rfl (Sz) ?_
 refine zC ?_
 refine Ay rfl ?_
 refine zC ?_
 refine zE rfl (Aeq (sc:=sc)) ?_
 rintro _ _ ⟨g24,rfl,rfl,hg24⟩
 refine zW ?_
 refine Ae rfl (fun c29=> ?_) (fun c29=> ?_)
 ·skip
  refine zC ?_
  exact zL (hR:=by simp)
 ·skip
  obtain ⟨hn1,hn2⟩:body.list.length≤224∧g24=false:=(by revert c29;cases g24 <;> simp <;> omega)
  obtain ⟨hl1,hl2⟩:=hg24 hn2
  refine zC ?_
  refine zE rfl (Rv (m:=20) ⟨by omega,by omega⟩) ?_
  rintro _ _ ⟨z0,rfl,rfl,hL⟩
  refine zW ?_
  refine Ay rfl ?_
  refine zC ?_
  have hsti0:=hL.sti ⟨by omega,by omega⟩
  refine At [0,1,2,7,33,34] kQ (fun (st:Nat×Ab×Sg)=>[(35,.int .i64 st.1)]) (fun st=>(Cn T::(st.2.2.S.st,true,C (stC st.2.2.S) tSt)::(st.2.2.S.ib,true,st.2.2.S.idx.obj .i64)::(st.2.2.S.pb,true,st.2.2.S.pend.obj .i64)::(st.2.2.S.sb,true,st.2.2.S.stray.obj .i64)::(lgH st.2.2.L++(sc.hp tOs++(opH sc.list++(body.hp tU8++[])))))) (fun st=>st.1≤sc.list.length∧StI 20 st.1 st.2.1 st.2.2∧st.2.2.S.st=z0.S.st∧st.2.1.seen.toNat≤3*st.1) (fun st=>sc.list.length - st.1) ((0,ab0,z0)) ⟨A5s _,hsti0,rfl,A5s _⟩ kP sP ?_
  rintro ⟨i,A,z⟩ ⟨k0,k1,k2,k3⟩
  simp only at k0 k1 k2 k3
  rw [← k2]
  refine zC ?_
  refine Ae rfl (fun c36=> ?_) (fun c36=> ?_)
  ·simp only [A3j,A1k] at c36
   obtain ⟨o,hgo⟩:∃ o,sc.list[i]? =some o:=⟨_,A1d (by omega)⟩
   rw [Ag3 hgo]
   obtain ⟨ho1,ho2⟩:=hl2 o (A2a hgo)
   refine zA ?_
   refine Ah (A7 (s:=sc) rfl rfl (by omega)) rfl ?_
   refine Ah (Dd (s:=sc) (o:=0) rfl pL hgo rfl rfl) rfl ?_
   refine Aj rfl (fun b9=> ?_)
   refine zC ?_
   refine A0 [(7,[(0,false),(1,false),(2,false),(4,false),(5,false),(3,true),(6,true)]),(8,[(7,true)])] (by kernel_rfl) ?_
   refine zC ?_
   refine zE rfl (We (S:=z.S) (o:=o)) ?_
   rintro _ _ ⟨w42,rfl,rfl,hw42⟩
   refine zW ?_
   refine zE rfl (Wf (cs:=o.ch) ho1 ho2) ?_
   rintro _ _ ⟨c45,rfl,rfl,hc45,ho45⟩
   refine zW ?_
   have hcl:c45.list.length≤40:=(by have:=A52 List.length hc45;rw [A4b,A4b] at this;omega)
   refine Ci rfl (Tx k1 (by omega) (by omega) (ep:=w42) (cs:=c45) (by omega)) sP rfl (fun v46 Y46 h46=> ?_)
   obtain ⟨e46,A2,z2,rfl,rfl,hst2,hI2,hc2⟩:=h46
   have hs2:A2.seen.toNat≤3*(i+1):=(by rcases hc2 with ⟨_,_,rfl⟩ | ⟨_,_,_,rfl⟩ | ⟨_,_,_,h⟩;omega;omega;rw [h.seen,hw42,k1.std.seen];have:=Awe A.seen o.jump (by omega);omega)
   rw [← hst2]
   refine A5 aQ ?_
   refine zC ?_
   exact ⟨(i+1,A2,z2),⟨by simp only;omega,hI2,rfl,hs2⟩,by simp only;omega,lZ⟩
  ·simp only [A3j,A1k] at c36
   refine zA ?_
   refine Ah (Pt) rfl ?_
   refine Aj rfl (fun b10=> ?_)
   refine zC ?_
   have hi70:i≤70:=(by omega)
   refine At [1,2,7,10] kQ (fun (st:Nat)=>[(49,.int .i64 st)]) (fun st=>((b10,true,C ((S9 A st).map sv) 38)::Cn T::(z.S.st,true,C (stC z.S) tSt)::(z.S.ib,true,z.S.idx.obj .i64)::(z.S.pb,true,z.S.pend.obj .i64)::(z.S.sb,true,z.S.stray.obj .i64)::(lgH z.L++(body.hp tU8++[])))) (fun st=>st≤256) (fun st=>256 - st) (0) (A5s _) kP (by rw [Ayr];exact sP) ?_
   rintro j g0
   refine zC ?_
   refine Ae rfl (fun c50=> ?_) (fun c50=> ?_)
   ·simp only [A3j,A1k] at c50
    refine zC ?_
    refine zE rfl (Aes k1.std k1.wi) ?_
    rintro _ _ ⟨s55,y55,e55,r55,rfl,rfl,hs55⟩
    refine zW ?_
    refine Aj rfl (fun b12=> ?_)
    iterate 9 refine sb ?_
    refine Ah (Fa (v:=s55) (T:=tU8) rfl (PickL.toSub (L:=s55.hp tU8) pL)) rfl ?_
    refine sb ?_
    refine Ac (cs':=(S9 A (j+1)).map sv) rfl rfl uD rfl rfl (by simp only [A24,A5k,A5r];rw [← Arn A (k:=j) (by omega),← hs55];exact Oa (by rw [Arm];omega)) ?_
    refine zC ?_
    exact ⟨j+1,by omega,by omega,lZ⟩
   ·simp only [A3j,A1k] at c50
    have hj:j=256:=(by omega)
    subst hj
    refine zC ?_
    refine zI rfl (Aas (S:=z.S)) ?_
    refine Ah (Aa6 (b:=1) rfl rfl) rfl ?_
    refine zC ?_
    refine Ao rfl rfl rfl rfl (fun b72=> ?_)
    refine Ci rfl (Avl k1 (by omega) (by omega) (ep:=z.S.seen+1) (b:=b72) (key:=key) (body:=body)) sP rfl (fun v73 Y73 h73=> ?_)
    obtain ⟨e73,A3,z3,rfl,rfl,hst3,hI3,hc3⟩:=h73
    obtain ⟨hB,hE⟩:=Avk k1.std hI3.std rfl hn1 (by rw [k1.std.seen,Ai4 k3 (by omega)];omega) hc3
    rw [← hst3]
    refine A5 aQ ?_
    refine zC ?_
    refine At [1,2,7,10,15] kQ (fun (st:Nat)=>[(74,.int .i64 st)]) (fun st=>((b10,true,C ((S9 A 256).map sv) 38)::Cn T::(z3.S.st,true,C (stC z3.S) tSt)::(z3.S.ib,true,z3.S.idx.obj .i64)::(z3.S.pb,true,z3.S.pend.obj .i64)::(lgH z3.L++(body.hp tU8++[])))) (fun st=>st≤256) (fun st=>256 - st) (0) (A5s _) kP sP ?_
    rintro m m0
    refine zC ?_
    refine Ae rfl (fun c75=> ?_) (fun c75=> ?_)
    ·simp only [A3j,A1k] at c75
     refine zC ?_
     refine zE rfl (Aes hI3.std hI3.wi) ?_
     rintro _ _ ⟨s80,y80,e80,r80,rfl,rfl,hs80⟩
     refine zW ?_
     refine Aj rfl (fun b17=> ?_)
     iterate 9 refine sb ?_
     refine Ah (show Rd _ _ _ _ (.string (Mj (M4 A (m:Nat)))) from Al rfl mM (by simp only [A24,A5k,A5r];rw [Zm,Aro A (by omega)];rfl)) rfl ?_
     refine zC ?_
     refine Ae rfl (fun c93=> ?_) (fun c93=> ?_)
     ·skip
      have hwT:s80.list=body.list:=(by rw [hs80,hB,if_pos (by simpa using c93)])
      refine zA ?_
      refine Ah (Fa (v:=body) (T:=tU8) rfl (PickL.toSub (L:=body.hp tU8) pL)) rfl ?_
      iterate 7 refine sb ?_
      refine Ah (Fa (v:=s80) (T:=tU8) rfl (PickL.toSub (L:=s80.hp tU8) pL)) rfl ?_
      refine zA ?_
      refine Ah (Y0 rfl rfl (by first | exact hwT | exact hwF)) rfl ?_
      refine zC ?_
      refine Ay rfl ?_
      refine zC ?_
      exact ⟨m+1,by omega,by omega,lZ⟩
     ·skip
      have hwF:s80.list=M4 A (m:Nat):=(by rw [hs80,hB,if_neg (by simpa using c93)])
      iterate 6 refine sb ?_
      refine Ah (Fa (v:=s80) (T:=tU8) rfl (PickL.toSub (L:=s80.hp tU8) pL)) rfl ?_
      refine zA ?_
      refine Ah (Y0 rfl rfl (by first | exact hwT | exact hwF)) rfl ?_
      refine zC ?_
      refine Ay rfl ?_
      refine zC ?_
      exact ⟨m+1,by omega,by omega,lZ⟩
    ·simp only [A3j,A1k] at c75
     refine zC ?_
     exact zL (hR:=by simp only [Value.bool.injEq];simp;simp only at hE;omega)
end
section
open Go.K
variable {T:TypeId}
instance ent41:Ent Tryz.prog 41:=⟨fun _ _=>by kernel_rfl⟩
instance ent64:Ent Tryz.prog 64:=⟨fun _ _=>by kernel_rfl⟩
instance ent106:Ent Tryz.prog 106:=⟨fun _ _=>by kernel_rfl⟩
instance ent107:Ent Tryz.prog 107:=⟨fun _ _=>by kernel_rfl⟩
instance ent147:Ent Tryz.prog 147:=⟨fun _ _=>by kernel_rfl⟩
theorem Awf (x:BitVec 32):x &&& 1=0∨x &&& 1=1:=by
 have h:(x &&& 1).toNat≤1:=by rw [A3l];exact Nat.and_le_right
 rcases Nat.le_one_iff_eq_zero_or_eq_one.1 h with h | h
 ·exact .inl (A1s h)
 ·exact .inr (A1s h)
def ser (c y:BitVec 32):Nat→BitVec 32
 | 0=>c
 | k+1=>if (ser c y k &&& 1) ^^^ ((y >>> k) &&& 1)=1 then (ser c y k >>> 1) ^^^ Hz else ser c y k >>> 1
theorem Ai5 (c y:BitVec 32):∀ k,Wv (c ^^^ y) k=ser c y k ^^^ (y >>> k)
 | 0=>by show c ^^^ y=c ^^^ (y >>> 0);rw [BitVec.ushiftRight_zero]
 | k+1=>by
  show Atx (Wv (c ^^^ y) k)=_
  rw [Ai5 c y k]
  have hs:ser c y (k+1)=if (ser c y k &&& 1) ^^^ ((y >>> k) &&& 1)=1 then (ser c y k >>> 1) ^^^ Hz else ser c y k >>> 1:=rfl
  rw [hs]
  generalize ser c y k=s
  unfold Atx
  have e2:(s ^^^ y >>> k) >>> 1=s >>> 1 ^^^ y >>> (k+1):=by
   rw [BitVec.ushiftRight_xor_distrib,BitVec.shiftRight_add]
  have e1:(s ^^^ y >>> k) &&& 1=(s &&& 1) ^^^ (y >>> k &&& 1):=by
   apply A1g
   intro i hi
   simp only [BitVec.getLsbD_and,BitVec.getLsbD_xor]
   generalize BitVec.getLsbD s i=a
   generalize BitVec.getLsbD (y >>> k) i=b
   generalize BitVec.getLsbD (1:BitVec 32) i=d
   cases a <;> cases b <;> cases d <;> rfl
  rw [e2,e1]
  rcases Awf s with h | h <;> rcases Awf (y >>> k) with g | g <;> rw [h,g]
  ·rw [if_neg (by decide)]
   show _ ^^^ (Hz &&& 0)=_
   simp
  ·rw [if_pos (by decide)]
   show _ ^^^ (Hz &&& _)=_
   rw [show Hz &&& -(0 ^^^ 1:BitVec 32)=Hz by decide,A3m,A3m,BitVec.xor_comm Hz]
  ·rw [if_pos (by decide)]
   show _ ^^^ (Hz &&& _)=_
   rw [show Hz &&& -(1 ^^^ 0:BitVec 32)=Hz by decide,A3m,A3m,BitVec.xor_comm Hz]
  ·rw [if_neg (by decide)]
   show _ ^^^ (Hz &&& _)=_
   rw [show Hz &&& -(1 ^^^ 1:BitVec 32)=0 by decide]
   simp
theorem Az6 (c:BitVec 32) (b:By):ser c (b.setWidth 32) 8=Aoy c b:=by
 unfold Aoy
 rw [Ai5]
 have:(b.setWidth 32:BitVec 32) >>> 8=0:=by
  apply A1s
  have:=b.isLt
  have e:b.toNat % 2 ^ 32=b.toNat:=A31 (by omega)
  rw [A1c,A1t,e,A1b]
  show b.toNat / 2 ^ 8=0
  omega
 rw [this];simp
theorem Al2 (c:BitVec 32) (ps qs:List (List By)):Da (Da c ps) qs=Da c (ps++qs):=by
 unfold Da
 rw [BitVec.not_not,A28]
theorem Arq (c:BitVec 32) (xs ys:List By):Lo c (xs++ys)=Lo (Lo c xs) ys:=by unfold Lo;rw [A28]
theorem Ag4 (c:BitVec 32) (ps:List (List By)):Da c ps=Da c [ps.flatten]:=by
 unfold Da
 congr 1
 generalize ~~~c=a
 show _=Lo a ps.flatten
 induction ps generalizing a with
 | nil=>rfl
 | cons p ps ih=>rw [A4a,ih,List.flatten_cons,Arq]
theorem Avm {P:Program} {E:Env} {H:Hp} {t u:TypeId} {x y:Operand} {v:Wd} (hx:ev E x=some (wv v)) (hy:ev E y=some (.int .u64 256)):Rd P E H (.binOp .quo t x y u) (wv (v >>> 8)):=by
 have:=Anx (P:=P) (H:=H) (t:=t) (u:=u) hx hy (by decide)
 have e:IntKind.u64.wrap ((v.toNat:Int).tdiv 256)=((v >>> 8).toNat:Int):=by
  rw [show ((v.toNat:Int).tdiv 256)=((v.toNat / 256:Nat):Int) from rfl,Ey .u64 rfl (by have:=v.isLt;show _<2 ^ 64;omega),A1c,A1b]
 rw [e] at this
 exact this
theorem Avn {P:Program} {E:Env} {H:Hp} {t u:TypeId} {x y:Operand} {v:Wd} (hx:ev E x=some (wv v)) (hy:ev E y=some (.int .u64 256)):Rd P E H (.binOp .rem t x y u) (.int .u64 ((v.toNat % 256:Nat):Int)) :=
 Aw9 (P:=P) (H:=H) (t:=t) (u:=u) hx hy (by decide)
theorem Al3 {P:Program} {E:Env} {H:Hp} {t u:TypeId} {x y:Operand} {a:BitVec 32} (hx:ev E x=some (uv a)) (hy:ev E y=some (.int .u32 2)):Rd P E H (.binOp .quo t x y u) (uv (a >>> 1)):=by
 have:=Anx (P:=P) (H:=H) (t:=t) (u:=u) hx hy (by decide)
 have e:IntKind.u32.wrap ((a.toNat:Int).tdiv 2)=((a >>> 1).toNat:Int):=by
  rw [show ((a.toNat:Int).tdiv 2)=((a.toNat / 2:Nat):Int) from rfl,Ey .u32 rfl (by have:=a.isLt;show _<2 ^ 32;omega),A1c,A1b]
 rw [e] at this
 exact this
theorem Al4 {P:Program} {E:Env} {H:Hp} {t u:TypeId} {x y:Operand} {k':IntKind} {a:BitVec 32} {m:Nat} (hx:ev E x=some (uv a)) (hy:ev E y=some (.int k' (m:Nat))) (hm:m≤32):Rd P E H (.binOp .shr t x y u) (uv (a >>> m)):=by
 have:=P2 (P:=P) (H:=H) (t:=t) (u:=u) (a:=a.toNat) hx hy rfl (k:= .u32) hm
 unfold uv
 rw [A1c,A1b]
 exact this
theorem Arr:Does Tryz.prog 147 [.int .i64 8] [] (Is (.int .i64 8) []):=by
 refine zF 8 Tryz.func147 ?_
 refine zC ?_
 refine Ay rfl ?_
 refine zC ?_
 refine Ay rfl ?_
 refine zC ?_
 exact zS
theorem Ars {x:Wd}:Does Tryz.prog 106 [.int .i64 8,wv x] [] (fun v H=>∃ s:Sl By,v=s.val∧H=(s.hp tU8++[])∧s.list=B4 8 x∧s.isOwn=true):=by
 refine zF 25 Tryz.func106 ?_
 refine zC ?_
 refine Ao rfl rfl rfl rfl (fun b8=> ?_)
 refine zC ?_
 refine At [0] kQ (fun (st:Nat×Sl By)=>[(7,.int .i64 st.1),(5,st.2.val),(6,wv (I8 x st.1))]) (fun st=>(st.2.hp tU8++[])) (fun st=>st.1≤8∧st.2.list=B4 st.1 x∧st.2.isOwn=true) (fun st=>8 - st.1) ((0,.own b8 [] 0 [] ⟨by simp,A5q _,by simp⟩)) ⟨A5s _,rfl,rfl⟩ kP (by show Split _ (Sl.hp tU8 (.own b8 [] 0 [] _)++[]) _;rw [Sl.hp_own];exact sP) ?_
 rintro ⟨i,s⟩ ⟨h0,h1,h2⟩
 have hl:s.list.length=i:=by rw [h1,A4]
 simp only at h0
 refine zC ?_
 refine zI rfl (Arr) ?_
 refine zC ?_
 refine Ae rfl (fun c13=> ?_) (fun c13=> ?_)
 ·simp only [A3j,A1k] at c13
  refine zA ?_
  refine Ah (Avn rfl rfl) rfl ?_
  refine Ah (show Rd _ _ _ _ (bv ((I8 x i).setWidth 8)) from by (unfold bv;exact Gp (by rw [Em .u8 rfl,A14,A2p,A1t];show (((I8 x i).toNat % 256 % 256:Nat):Int)=(((I8 x i).toNat % 256:Nat):Int);omega) rfl)) rfl ?_
  refine Ao rfl rfl rfl rfl (fun b20=> ?_)
  refine Az (s:=s) (new:=[(I8 x i).setWidth 8]) (m:=1) rfl rfl pL h2 (Ch (r:=true) mM rfl) rfl rfl rfl rfl (by omega) rfl (fun s' hs1 hs2=> ?_)
  refine zA ?_
  refine Ah (show Rd _ _ _ _ (wv (I8 x (i+1))) from Avm rfl rfl) rfl ?_
  refine zC ?_
  exact ⟨(i+1,s'),⟨by simp only;omega,by rw [hs1,h1,X9],hs2⟩,by simp only;omega,lZ⟩
 ·simp only [A3j,A1k] at c13
  have hi:i=8:=(by omega)
  subst hi
  refine zC ?_
  exact zL (hR:=by exact ⟨s,rfl,rfl,h1,h2⟩)
theorem Ays {c:BitVec 32} {s:Sl By}:Does Tryz.prog 107 [uv c,s.val] (s.hp T++[]) (Is (uv (Da c [s.list])) (s.hp T++[])):=by
 have hsm:=s.small
 refine zF 41 Tryz.func107 ?_
 refine zA ?_
 refine Ah (show Rd _ _ _ _ (uv (~~~c)) from by rw [← show c ^^^ 4294967295#32= ~~~c from BitVec.xor_allOnes];exact Ko (b:=4294967295#32) rfl rfl) rfl ?_
 refine zC ?_
 refine Dy [1] kQ (fun (i:Nat)=>[(6,.int .i64 i),(5,uv (Lo (~~~c) (s.list.take i)))]) (fun i=>i≤s.list.length) (fun i=>s.list.length - i) ((0:Nat)) (A5s _) kP ?_
 rintro i h0
 refine zC ?_
 refine Ae rfl (fun c14=> ?_) (fun c14=> ?_)
 ·simp only [A3j,A1k] at c14
  obtain ⟨y,hy⟩:∃ y,s.list[i]? =some y:=⟨_,A1d (by omega)⟩
  have hst2:=Ya (c:= ~~~c) hy
  generalize he:Lo (~~~c) (s.list.take i)=e at hst2 ⊢
  refine zC ?_
  refine Dy [1,6] kQ (fun (k:Nat)=>[(7,.int .i64 k),(5,uv (ser e (y.setWidth 32) k))]) (fun k=>k≤8) (fun k=>8 - k) ((0:Nat)) (A5s _) kP ?_
  rintro k h2
  have hck:ser e (y.setWidth 32) (k+1)=if (ser e (y.setWidth 32) k &&& 1) ^^^ ((y.setWidth 32 >>> k) &&& 1)=1 then (ser e (y.setWidth 32) k >>> 1) ^^^ Hz else ser e (y.setWidth 32) k >>> 1:=rfl
  have hk8:=Az6 e y
  refine zC ?_
  refine Ae rfl (fun c18=> ?_) (fun c18=> ?_)
  ·simp only [A3j,A1k] at c18
   generalize ser e (y.setWidth 32) k=z at hck ⊢
   refine zA ?_
   refine Ah (Pz (b:=1) rfl rfl) rfl ?_
   refine zA ?_
   refine Ah (A7 (s:=s) rfl rfl (by omega)) rfl ?_
   refine Ah (Co (s:=s) (o:=0) (v:=bv y) rfl pL hy rfl rfl) rfl ?_
   refine Ah (Ah8 rfl) rfl ?_
   refine zA ?_
   refine Ah (Eu rfl (Ey .u64 rfl (by show _<2 ^ 64;omega))) rfl ?_
   refine Ah (Al4 rfl rfl (by omega)) rfl ?_
   refine Ah (Pz (b:=1) rfl rfl) rfl ?_
   refine Ah (Ko rfl rfl) rfl ?_
   refine zA ?_
   refine Ah (Al3 rfl rfl) rfl ?_
   refine zA ?_
   refine Ah (show Rd _ _ _ _ (.bool (decide ((z &&& 1) ^^^ ((y.setWidth 32 >>> k) &&& 1)=1))) from by rw [show decide ((z &&& 1) ^^^ ((y.setWidth 32 >>> k) &&& 1)=1)=decide ((((z &&& 1) ^^^ ((y.setWidth 32 >>> k) &&& 1)).toNat:Int)=1) from A34.2 ⟨fun h=>by rw [h];rfl,fun h=>A1s (by rw [show (1:BitVec 32).toNat=1 from rfl];omega)⟩];exact An rfl rfl rfl) rfl ?_
   refine zC ?_
   refine Ae rfl (fun c36=> ?_) (fun c36=> ?_)
   ·simp only [A3j,A1k] at c36
    rw [if_pos c36] at hck
    refine zA ?_
    refine Ah (Ko (b:=Hz) rfl rfl) rfl ?_
    refine zC ?_
    exact ⟨k+1,by omega,by omega,by rw [hck];exact kP,kP,_,sP⟩
   ·simp only [A3j,A1k] at c36
    rw [if_neg c36] at hck
    refine zC ?_
    exact ⟨k+1,by omega,by omega,by rw [hck];exact kP,kP,_,sP⟩
  ·simp only [A3j,A1k] at c18
   have hk:k=8:=(by omega)
   subst hk
   rw [hk8,← hst2]
   refine zC ?_
   exact ⟨i+1,by omega,by omega,lZ⟩
 ·simp only [A3j,A1k] at c14
  have hi:i=s.list.length:=(by omega)
  subst hi
  rw [A30]
  refine zA ?_
  refine Ah (show Rd _ _ _ _ (uv (Da c [s.list])) from by rw [show Da c [s.list]=Lo (~~~c) s.list ^^^ 4294967295#32 from BitVec.xor_allOnes.symm];exact Ko (b:=4294967295#32) rfl rfl) rfl ?_
  refine zC ?_
  exact zS
theorem Avo (x:By) (m:Nat):decide (((x.toNat / 2 ^ m % 2:Nat):Int)=1)=x.getLsbD m:=by
 rw [← BitVec.testBit_toNat,Nat.testBit_eq_decide_div_mod_eq]
 exact A34.2 ⟨fun h=>by omega,fun h=>by omega⟩
theorem Avp {l:Lv} {m:Nat} (hm:m<256):Does Tryz.prog 41 [.agg (vbc l).toArray,.int .i64 (m:Nat)] [] (Is (.bool (Bj l (m:Nat))) []):=by
 refine zF 22 Tryz.func41 ?_
 refine zC ?_
 refine Do rfl rfl (fun b2=> ?_)
 refine zC ?_
 refine Ae rfl (fun c10=> ?_) (fun c10=> ?_)
 ·simp only [A36,A15,A3j,A1k] at c10
  omega
 ·simp only [A36,A15,A3j,A1k] at c10
  refine zA ?_
  refine Ah (Qs (m:=8) rfl rfl (by decide) (by omega)) rfl ?_
  refine Ah (Fi rfl rfl (by omega)) rfl ?_
  refine Ah (Al rfl mM (show nth _ _=some (bv (l[m / 8]'(by omega))) by simp only [A24,A5r];exact Fv (by omega))) rfl ?_
  refine Ah (Gp (Aay _) rfl) rfl ?_
  refine zA ?_
  refine Ah (Np (m:=8) rfl rfl (by decide)) rfl ?_
  refine Ah (Eu rfl (Ey .u64 rfl (by show _<2 ^ 64;omega))) rfl ?_
  refine Ah (P2 (a:=(l[m / 8]'(by omega)).toNat) rfl rfl rfl (by show _≤64;omega)) rfl ?_
  refine Ah (Np (m:=2) rfl rfl (by decide)) rfl ?_
  refine Ah (show Rd _ _ _ _ (.bool (Bj l (m:Nat))) from by rw [show Bj l (m:Nat)=decide ((((l[m / 8]'(by omega)).toNat / 2 ^ (m % 8) % 2:Nat):Int)=1) from by unfold Bj Ww;rw [Gr hm,A24,A55 (show m / 8<32 by omega),Avo];rfl];exact An rfl rfl rfl) rfl ?_
  refine zC ?_
  exact zS
theorem Art {P:Program} {E:Env} {H:Hp} {t u:TypeId} {x y:Operand} {k:Nat} (hx:ev E x=some (.int .u8 1)) (hy:ev E y=some (.int .u64 (k:Nat))) (hk:k<8):Rd P E H (.binOp .shl t x y u) (bv (1#8 <<< k)):=by
 have:=Zs (P:=P) (H:=H) (t:=t) (u:=u) hx hy (by omega)
 rw [Aza k hk] at this
 exact this
theorem A0n {P:Program} {E:Env} {H:Hp} {t u:TypeId} {x y:Operand} {a b:By} (hx:ev E x=some (bv a)) (hy:ev E y=some (bv b)):Rd P E H (.binOp .xor t x y u) (bv (a ^^^ b)):=by
 unfold bv;rw [show (((a ^^^ b).toNat:Nat):Int)=_ from (Ok .xor .u8 rfl _ _).symm];exact An hx hy rfl
theorem Ayt {x:By} {m:Nat} (h:x.getLsbD (m % 8)=false):x ^^^ S8 m=x ||| S8 m:=by
 apply A1g
 intro i hi
 rw [BitVec.getLsbD_xor,BitVec.getLsbD_or,Aaj _ _ hi]
 by_cases e:i=m % 8
 ·subst e;rw [h];simp
 ·simp [e]
theorem Avq {l:Lv} {m:Nat} {on:Bool} (hm:m<256) (hl:Bj l (m:Nat)=false):Does Tryz.prog 64 [.agg (vbc l).toArray,.int .i64 (m:Nat),.bool on] [] (Is (.agg (vbc (if on=true then Dz l (m:Nat) else l)).toArray) []):=by
 have hlb:(l[m / 8]'(by omega)).getLsbD (m % 8)=false:=by
  unfold Bj Ww at hl
  rw [Gr hm,A24,A55 (show m / 8<32 by omega)] at hl
  simpa using hl
 refine zF 32 Tryz.func64 ?_
 refine zC ?_
 refine Do rfl rfl (fun b3=> ?_)
 refine Aj rfl (fun b6=> ?_)
 rw [Aai]
 iterate 8 refine sb ?_
 refine sg ?_
 refine sa ?_
 refine' Lw rfl rfl inferInstance rfl rfl rfl rfl rfl (fun hg13=> ?_) ?_
 rotate_left
 ·try (simp at hg13;show _)
  refine zA ?_
  refine Ah (Am rfl mM (by first | exact Ax | rfl)) rfl ?_
  refine zC ?_
  refine zI rfl (Avp (l:=l) hm) ?_
  refine zC ?_
  exact Ad ⟨rfl,rfl,⟨_,sP⟩⟩
 refine zC ?_
 refine Ae rfl (fun c19=> ?_) (fun c19=> ?_)
 ·skip
  have hon:on=false:=(by rw [hl] at c19;revert c19;cases on <;> simp <;> omega)
  subst hon
  refine zA ?_
  refine Ah (Am rfl mM (by first | exact Ax | rfl)) rfl ?_
  first | refine Ac rfl rfl uD (Cg) (Ai) (Bo (by first | exact Ai | exact A1y ..)) ?_ | refine Ac rfl rfl uD rfl rfl rfl ?_
  refine zC ?_
  refine Ak (Aw Tryz.results64 (Bc rfl mM (by first | exact Ax | rfl))) ?_ sP
  rfl
 ·skip
  have hon:on=true:=(by rw [hl] at c19;revert c19;cases on <;> simp)
  subst hon
  have hw:Ny l m=Dz l (m:Nat):=(by unfold Dz;rw [if_pos (Gr hm),A24])
  refine zA ?_
  refine Ah (Qs (m:=8) rfl rfl (by decide) (by omega)) rfl ?_
  refine Ah (Fi rfl rfl (by omega)) rfl ?_
  refine Ah (Al rfl mM (show nth _ _=some (bv (l[m / 8]'(by omega))) by simp only [A24,A5r];exact Fv (by omega))) rfl ?_
  refine zA ?_
  refine Ah (Np (m:=8) rfl rfl (by decide)) rfl ?_
  refine Ah (Eu rfl (Ey .u64 rfl (by show _<2 ^ 64;omega))) rfl ?_
  refine Ah (show Rd _ _ _ _ (bv (S8 m)) from Art rfl rfl (A5v _ (by decide))) rfl ?_
  refine Ah (show Rd _ _ _ _ (bv ((l[m / 8]'(by omega)) ||| S8 m)) from by rw [← Ayt hlb];exact A0n rfl rfl) rfl ?_
  refine Ah (Fi rfl rfl (by omega)) rfl ?_
  refine Ac (cs':=vbc (Ny l m)) rfl rfl uD rfl rfl (by simp only [A24];exact Yl hm) ?_
  refine zA ?_
  refine Ah (Am rfl mM (by first | exact Ax | rfl)) rfl ?_
  first | refine Ac rfl rfl uD (Cg) (Ai) (Bo (by first | exact Ai | exact A1y ..)) ?_ | refine Ac rfl rfl uD rfl rfl rfl ?_
  refine zC ?_
  refine Ak (Aw Tryz.results64 (Bc rfl mM (by first | exact Ax | rfl))) ?_ sP
  rw [hw];rfl
end
section
open Go.K
variable {T:TypeId}
instance und49:Und Tryz.prog 49 (.array 256 40):=⟨Tryz.underlying49⟩
instance und50:Und Tryz.prog 50 (.array 256 4):=⟨Tryz.underlying50⟩
instance zer52:Zer Tryz.prog 52 (Gl 256 [.int .i64 0,.int .u64 0,.slice none 0 0]++List.replicate 256 (.bool false)++[.int .u64 0,.int .u64 0,.int .u64 0,.int .i64 0,.int .u64 0,.bool false,.int .i64 0]):=⟨by kernel_rfl⟩
instance fld52_0:Fld Tryz.prog 52 0 0:=⟨⟨_,_,767,Tryz.underlying52,rfl,by kernel_rfl,rfl⟩⟩
instance fld52_1:Fld Tryz.prog 52 1 768:=⟨⟨_,_,255,Tryz.underlying52,rfl,by kernel_rfl,rfl⟩⟩
instance fld52_2:Fld Tryz.prog 52 2 1024:=⟨⟨_,_,0,Tryz.underlying52,rfl,by kernel_rfl,rfl⟩⟩
instance plc52:Plc Tryz.prog 52 [(0,768),(768,256),(1024,1),(1025,1),(1026,3),(1029,1),(1030,1)]:=⟨⟨_,Tryz.underlying52,fun _=>by kernel_rfl⟩⟩
instance ent21:Ent Tryz.prog 21:=⟨fun _ _=>by kernel_rfl⟩
instance ent24:Ent Tryz.prog 24:=⟨fun _ _=>by kernel_rfl⟩
instance ent63:Ent Tryz.prog 63:=⟨fun _ _=>by kernel_rfl⟩
structure RSt where
 nd:List Nd
 th:List Bool
 ep:Wd
 seen:Wd
 vw:Vw
 viewed:Bool
 lim:Int
abbrev tRs:TypeId:=52
def rsT (r:RSt):List Value:=[wv r.ep,wv r.seen,wv r.vw.num,.int .i64 r.vw.mem,wv r.vw.base,.bool r.viewed,.int .i64 r.lim]
def rsC (r:RSt):List Value:=r.nd.flatMap ndC++(r.th.map Value.bool++rsT r)
structure RsOk (r:RSt):Prop where
 nd:r.nd.length=256
 th:r.th.length=256
theorem Aru (x:Nd):(ndC x).length=3:=rfl
theorem RsOk.ndl {r:RSt} (h:RsOk r):(r.nd.flatMap ndC).length=768:=by rw [Nb (n:=3) r.nd fun x _=>Aru x,h.nd]
theorem RsOk.thl {r:RSt} (h:RsOk r):(r.th.map Value.bool).length=256:=by rw [A4b,h.th]
def L7 (r:RSt) (k:Nat):Bool:=r.th.getD k false
def Ov (r:RSt) (k:Nat):Nd:=r.nd.getD k ⟨0,0,.nil⟩
theorem RsOk.nthTh {r:RSt} (h:RsOk r) {k o:Nat} (hk:k<256) (ho:o=768+k):nth (rsC r) o=some (.bool (L7 r k)):=by
 subst ho
 unfold rsC
 rw [← h.ndl,Kb,Ui (by rw [h.thl];exact hk),Zm]
 unfold L7
 rw [A00,A1d (by rw [h.th];exact hk)]
 rfl
theorem RsOk.nthEp {r:RSt} (h:RsOk r) {k o:Nat} (hk:k<256) (ho:o=k*3+1):nth (rsC r) o=some (wv (Ov r k).ep):=by
 subst ho
 have hg:r.nd[k]? =some (Ov r k):=by
  unfold Ov
  rw [A00,A1d (by rw [h.nd];exact hk)]
  rfl
 unfold rsC
 rw [Ui (by rw [h.ndl];omega),Nc (n:=3) (fun x _=>Aru x) hg (by omega)]
 rfl
theorem RsOk.nthE {r:RSt} (h:RsOk r):nth (rsC r) 1024=some (wv r.ep):=by
 unfold rsC
 rw [show 1024=(r.nd.flatMap ndC).length+((r.th.map Value.bool).length+0) by rw [h.ndl,h.thl],Kb,Kb]
 rfl
theorem RsOk.setTh {r:RSt} (h:RsOk r) {k o:Nat} (hk:k<256) (ho:o=768+k) (b:Bool):Ba (rsC r) o [.bool b]=some (rsC { r with th:=r.th.set k b }):=by
 subst ho
 unfold rsC
 rw [← h.ndl]
 exact Fh (Jl (Oa (by rw [h.th];exact hk)) _)
theorem RsOk.setNd {r:RSt} (h:RsOk r) {k o:Nat} (hk:k<256) (ho:o=k*3) (x:Nd):Ba (rsC r) o (ndC x)=some (rsC { r with nd:=r.nd.set k x }):=by
 subst ho
 have hg:r.nd[k]? =some (Ov r k):=by
  unfold Ov
  rw [A00,A1d (by rw [h.nd];exact hk)]
  rfl
 unfold rsC
 exact Jl (Gi (f:=ndC) (n:=3) (o:=0) (y:=x) (fun x _=>Aru x) hg (La rfl)) _
theorem RsOk.setE {r:RSt} (h:RsOk r) (e:Wd):Ba (rsC r) 1024 [wv e]=some (rsC { r with ep:=e }):=by
 unfold rsC
 rw [show 1024=(r.nd.flatMap ndC).length+((r.th.map Value.bool).length+0) by rw [h.ndl,h.thl]]
 exact Fh (Fh rfl)
def rs0 (lim:Int):RSt:=⟨List.replicate 256 ⟨0,0,.nil⟩,List.replicate 256 false,0,0,vw0,false,lim⟩
theorem Ayu (lim:Int):RsOk (rs0 lim):=⟨A1y,A1y⟩
theorem Avr:Does Tryz.prog 21 [.int .i64 20] [] (fun v H=>∃ d:Nat,v=ptr d∧H=(d,true,C (rsC (rs0 31)) tRs)::[]):=by
 refine zF 9 Tryz.func21 ?_
 iterate 9 refine sb ?_
 refine Ah (Pk rfl rfl (by omega)) rfl ?_
 refine sb ?_
 refine Ah (show Rd _ _ _ _ (.agg (rsC (rs0 31)).toArray) from Bl rfl (by kernel_rfl)) rfl ?_
 refine Do rfl rfl (fun b8=> ?_)
 refine zC ?_
 exact zL (hR:=by exact ⟨b8,rfl,rfl⟩)
def Ow (r:RSt) (k:Nat):List By:=(List.range k).flatMap fun j=>if L7 r j=true then B4 1 (BitVec.ofInt 64 (j:Nat))++B4 8 (Ov r j).ep else []
theorem R7 (r:RSt) (k:Nat):Ow r (k+1)=Ow r k++if L7 r k=true then B4 1 (BitVec.ofInt 64 (k:Nat))++B4 8 (Ov r k).ep else []:=by
 unfold Ow
 rw [A4j,A2j]
 simp
theorem Arv (r:RSt) (k:Nat):(Ow r k).length≤9*k:=by
 induction k with
 | zero=>exact A5q _
 | succ k ih =>
  rw [R7,A2x]
  split
  ·rw [A2x,A4,A4];omega
  ·simp;omega
theorem Aeu (k:Nat):B4 1 (BitVec.ofInt 64 (k:Nat))=[Fe (k:Nat)]:=by
 unfold B4 Fe
 rw [A14,A14]
 show [(BitVec.ofNat 64 k).setWidth 8]=_
 rw [BitVec.setWidth_ofNat_of_le (by decide)]
theorem Ai6 {d:Nat} {r:RSt} (h:RsOk r):Does Tryz.prog 63 [ptr d] ((d,true,C (rsC r) tRs)::[]) (Is (uv (Da 0 [Ow r 256])) ((d,true,C (rsC r) tRs)::[])):=by
 refine zF 32 Tryz.func63 ?_
 refine zC ?_
 refine Ao rfl rfl rfl rfl (fun b5=> ?_)
 refine zC ?_
 refine At [0] kQ (fun (st:Nat×Sl By)=>[(4,.int .i64 st.1),(3,st.2.val)]) (fun st=>(st.2.hp tU8++((d,true,C (rsC r) tRs)::[]))) (fun st=>st.1≤256∧st.2.list=Ow r st.1∧st.2.isOwn=true) (fun st=>256 - st.1) ((0,.own b5 [] 0 [] ⟨by simp,A5q _,by simp⟩)) ⟨A5s _,rfl,rfl⟩ kP (by show Split _ (Sl.hp tU8 (.own b5 [] 0 [] _)++_) _;rw [Sl.hp_own];exact sP) ?_
 rintro ⟨k,s⟩ ⟨h0,h1,h2⟩
 simp only at h0 h1 h2
 have hl:=Arv r k
 have hs1:=R7 r k
 refine zC ?_
 refine Ae rfl (fun c7=> ?_) (fun c7=> ?_)
 ·simp only [A3j,A1k] at c7
  iterate 11 refine sb ?_
  refine Ah (show Rd _ _ _ _ (.bool (L7 r k)) from Al rfl mM (h.nthTh (k:=k) (by omega) (by simp only [A24];omega))) rfl ?_
  refine zC ?_
  refine Ae rfl (fun c15=> ?_) (fun c15=> ?_)
  ·skip
   rw [if_pos c15] at hs1
   refine A0 [(12,[(0,false),(1,false),(2,false),(5,false),(6,false),(7,false),(8,false),(9,false),(10,false),(11,false),(3,true),(4,true)]),(13,[(12,true)]),(14,[(13,true)]),(15,[(14,false)])] (by kernel_rfl) ?_
   refine Av3 [(d,true,C (rsC r) tRs)] sP ?_
   refine zA ?_
   refine Aq (show Rd _ _ _ _ (bv (Fe (k:Int))) from by (unfold bv;rw [← Amc];exact D9 rfl)) ?_
   refine zA ?_
   refine Aq (H8 rfl rfl (by omega)) ?_
   refine zA ?_
   refine Aq (show Rd _ _ _ _ (wv (Ov r k).ep) from Al rfl mM (h.nthEp (k:=k) (by omega) (by simp only [A24];omega))) ?_
   refine zC ?_
   refine Ao rfl rfl rfl rfl (fun b19=> ?_)
   refine zC ?_
   refine Az (s:=s) (new:=[Fe (k:Int)]) (m:=1) rfl rfl pL h2 (Ch (r:=true) mM rfl) rfl rfl rfl rfl (by rw [h1];omega) rfl (fun s20 l20 o20=> ?_)
   refine zC ?_
   refine zE rfl (Ars) ?_
   rintro _ _ ⟨n28,rfl,rfl,l28,o28⟩
   refine zW ?_
   refine Az (s:=s20) (new:=n28.list) (m:=n28.list.length) rfl rfl pL o20 (Lb pL) rfl rfl rfl rfl (by rw [l20,A2x,h1,l28,A4];simp;omega) rfl (fun s29 l29 o29=> ?_)
   refine zC ?_
   first | exact ⟨(k+1,s29),⟨by simp only;omega,by rw [hs1,l29,l20,h1,l28,Aeu,A25],o29⟩,by simp only;omega,lZ⟩ | exact ⟨(k+1,s),⟨by simp only;omega,by rw [hs1,h1],h2⟩,by simp only;omega,lZ⟩
  ·skip
   rw [if_neg (by rw [c15];decide),A37] at hs1
   refine zC ?_
   first | exact ⟨(k+1,s29),⟨by simp only;omega,by rw [hs1,l29,l20,h1,l28,Aeu,A25],o29⟩,by simp only;omega,lZ⟩ | exact ⟨(k+1,s),⟨by simp only;omega,by rw [hs1,h1],h2⟩,by simp only;omega,lZ⟩
 ·simp only [A3j,A1k] at c7
  have hk:k=256:=(by omega)
  subst hk
  refine zC ?_
  refine zI rfl (Ays (c:=0) (s:=s)) ?_
  refine zC ?_
  refine Ak (Aw Tryz.results63 (Af rfl)) ?_ sP
  rw [h1]
def Jt (r:RSt):Nat→Lv
 | 0=>lv0
 | k+1=>if L7 r k=true then Dz (Jt r k) (k:Nat) else Jt r k
theorem Arw (j:Int):Bj lv0 j=false:=by
 have:=keysL_mem (l:=lv0) (k:=j)
 rw [Nn] at this
 cases h:Bj lv0 j with
 | false=>rfl
 | true=>exact absurd (this.2 h) (by simp)
theorem R8 (r:RSt):∀ k,k≤256→∀ j:Int,Bj (Jt r k) j=(Cs j && decide (j<k) && L7 r j.toNat)
 | 0,_,j=>by
  show Bj lv0 j=_
  rw [Arw]
  cases hv:Cs j with
  | false=>rfl
  | true =>
   obtain ⟨m,rfl,hm⟩:=Eo hv
   simp
   intro h
   omega
 | k+1,hk,j=>by
  have ih:=R8 r k (by omega) j
  unfold Jt
  have hvk:Cs (k:Int)=true:=Gr (by omega)
  by_cases ht:L7 r k=true
  ·rw [if_pos ht,Rp,ih,hvk]
   by_cases e:j=(k:Int)
   ·subst e;simp [ht,hvk];omega
   ·have:decide (j<(k:Int))=decide (j<((k+1:Nat):Int)):=A34.2 (by omega)
    rw [this];simp [e]
  ·rw [if_neg ht,ih]
   by_cases e:j=(k:Int)
   ·subst e;simp [ht]
   ·have:decide (j<(k:Int))=decide (j<((k+1:Nat):Int)):=A34.2 (by omega)
    rw [this]
theorem Aev {d:Nat} {r:RSt} (h:RsOk r):Does Tryz.prog 24 [ptr d] ((d,true,C (rsC r) tRs)::[]) (Is (.agg (cmC ⟨r.ep,Jt r 256,Da 0 [Ow r 256]⟩).toArray) ((d,true,C (rsC r) tRs)::[])):=by
 refine zF 28 Tryz.func24 ?_
 refine zC ?_
 refine Aj rfl (fun b2=> ?_)
 rw [show [Value.int .u64 0]++List.replicate 32 (Value.int .u8 0)++[Value.int .u32 0]=cmC cm0 by kernel_rfl]
 refine zC ?_
 refine Na [] [(8,(.fork [(0,false),(1,false),(2,false),(3,false),(4,false)] 5 (.one [(6,false),(7,true)]) 7 (.one [(5,true),(6,false)]))),(9,(.one [(8,true)]))] (by kernel_rfl) rfl (fun ops w0 H0 y=> ?_)
 refine K8 ?_
 refine K9 ?_ rfl
 refine Cr (Dc rfl) rfl ?_
 refine Cr (Hj rfl) rfl ?_
 refine Cr (De rfl) rfl ?_
 refine Cr (show Rd _ _ _ _ (wv r.ep) from Al rfl mM h.nthE) rfl ?_
 refine Cr (Dc rfl) rfl ?_
 refine As ⟨⟨_,sP⟩,?_,?_⟩
 refine B1 ?_
 refine zI rfl (Ai6 h) ?_
 refine Ad ⟨rfl,⟨_,sP⟩,?_⟩
 refine As ?_
 refine Fy ?_
 refine Cr (show Rd _ _ _ _ (.agg (cmC ⟨r.ep,lv0,Da 0 [Ow r 256]⟩).toArray) from Bl rfl (by kernel_rfl)) rfl ?_
 refine B1 ?_
 refine Aj rfl (fun b3=> ?_)
 rw [show [Value.int .u64 0]++List.replicate 32 (Value.int .u8 0)++[Value.int .u32 0]=cmC cm0 by kernel_rfl]
 refine Ad ⟨rfl,⟨_,sP⟩,?_⟩
 refine As ?_
 rotate_left
 refine B1 ?_
 refine Aj rfl (fun b3=> ?_)
 rw [show [Value.int .u64 0]++List.replicate 32 (Value.int .u8 0)++[Value.int .u32 0]=cmC cm0 by kernel_rfl]
 refine Ad ⟨rfl,⟨_,sP⟩,?_⟩
 refine As ?_
 refine Fy ?_
 refine B1 ?_
 refine zI rfl (Ai6 h) ?_
 refine Ad ⟨rfl,⟨_,sP⟩,?_⟩
 refine Cr (show Rd _ _ _ _ (.agg (cmC ⟨r.ep,lv0,Da 0 [Ow r 256]⟩).toArray) from Bl rfl (by kernel_rfl)) rfl ?_
 refine As ?_
 rotate_left
 all_goals
  refine Zl ?_
  refine Fy ?_
  refine B1 ?_
  first | refine Ac rfl rfl uD (My) (Bu) (Rq (by first | exact Bu | exact A1y ..)) ?_ | refine Ac rfl rfl uD rfl rfl rfl ?_
  refine Ad ⟨rfl,⟨_,sP⟩,?_⟩
  refine As ?_
  refine Q6 ?_
  refine zC ?_
  refine At [0,2,3] kQ (fun (k:Nat)=>[(4,.int .i64 k)]) (fun k=>((b3,true,C (cmC ⟨r.ep,Jt r k,Da 0 [Ow r 256]⟩) tCm)::(b2,true,C (cmC cm0) tCm)::(d,true,C (rsC r) tRs)::[])) (fun k=>k≤256) (fun k=>256 - k) ((0:Nat)) (A5s _) kP sP ?_
  rintro k h0
  refine zC ?_
  refine Ae rfl (fun c13=> ?_) (fun c13=> ?_)
  ·simp only [A3j,A1k] at c13
   have hno:Bj (Jt r k) (k:Nat)=false:=(by rw [R8 r k (by omega)];simp)
   have hlv:Jt r (k+1)=(if L7 r k=true then Dz (Jt r k) (k:Nat) else Jt r k):=rfl
   refine zC ?_
   refine A0 [(9,[(0,false),(1,false),(2,false),(3,false),(4,false),(5,false),(6,false),(7,false),(8,false)]),(10,[(9,true)]),(11,[(10,false)]),(12,[(11,true)])] (by kernel_rfl) ?_
   refine zA ?_
   refine Aq (Am rfl mM (Agj _)) ?_
   refine zA ?_
   refine Aq (H8 rfl rfl (by omega)) ?_
   refine Aq (show Rd _ _ _ _ (.bool (L7 r k)) from Al rfl mM (h.nthTh (k:=k) (by omega) (by simp only [A24];omega))) ?_
   refine zC ?_
   refine zI rfl (Avq (l:=Jt r k) (m:=k) (on:=L7 r k) (by omega) hno) ?_
   refine zA ?_
   refine Ac (cs':=cmC ⟨r.ep,Jt r (k+1),Da 0 [Ow r 256]⟩) rfl rfl uD Cg Ai (by rw [hlv];exact Rr _ _) ?_
   refine zC ?_
   exact ⟨k+1,by omega,by omega,lZ⟩
  ·simp only [A3j,A1k] at c13
   have hk:k=256:=(by omega)
   subst hk
   refine zA ?_
   refine Ah (Am rfl mM (by first | exact J1 | rfl)) rfl ?_
   first | refine Ac rfl rfl uD (My) (Bu) (Rq (by first | exact Bu | exact A1y ..)) ?_ | refine Ac rfl rfl uD rfl rfl rfl ?_
   refine zC ?_
   refine Ak (Aw Tryz.results24 (Bc rfl mM (by first | exact J1 | rfl))) ?_ sP
   rfl
end
section
open Go.K
variable {T:TypeId}
instance flat57:Flat Tryz.prog 57 ([some .u64]++L4 32 ([some .u8])++[some .u32]):=⟨by kernel_rfl,by kernel_rfl,⟨_,Tryz.underlying57,rfl⟩⟩
theorem R9 {k2:List Kd} {xs2 ys2:List Value} {b:Bool} (h2:Bg k2 xs2 ys2=some b):∀ {k1:List Kd} {xs1 ys1:List Value} {a:Bool},Bg k1 xs1 ys1=some a→Bg (k1++k2) (xs1++xs2) (ys1++ys2)=some (a && b)
 | [],[],[],a,h=>by cases h;simpa using h2
 | [],[],_::_,_,h=>by cases h
 | [],_::_,_,_,h=>by cases h
 | _::_,[],_,_,h=>by cases h
 | _::_,_::_,[],_,h=>by cases h
 | k::ks,x::xs,y::ys,a,h=>by
  simp only [Bg] at h
  simp only [A3q,Bg]
  cases hv:veq k x y with
  | none=>rw [hv] at h;cases h
  | some u =>
   rw [hv] at h
   cases hc:Bg ks xs ys with
   | none=>rw [hc] at h;cases h
   | some w =>
    rw [hc] at h
    cases h
    rw [R9 h2 hc]
    simp only [Bool.and_assoc]
theorem Az7 (c:Cm):Bg ([some .u64]++L4 32 ([some .u8])++[some .u32]) (cmC c) (cmC c)=some true:=by
 have h1:Bg [some .u64] [wv c.ep] [wv c.ep]=some true:=by simp [Bg,veq,wv]
 have h3:Bg [some .u32] [uv c.sum] [uv c.sum]=some true:=by simp [Bg,veq,uv]
 have:=R9 h3 (R9 (Az3 c.lv) h1)
 simpa [cmC,A25] using this
theorem Ag5 {c d:Cm} (h:c=d):Bg ([some .u64]++L4 32 ([some .u8])++[some .u32]) (cmC c) (cmC d)=some true:=by subst h;exact Az7 c
theorem Ayv {l m:Lv} (h:∀ k:Nat,k<256→Bj l k=Bj m k):l=m:=by
 apply A5w
 intro i hi
 apply A1g
 intro j hj
 have:=h (8*i+j) (by omega)
 unfold Bj Ww at this
 rw [Gr (by omega),A24,A55 (show (8*i+j) / 8<32 by omega),A55 (show (8*i+j) / 8<32 by omega)] at this
 have e1:(8*i+j) / 8=i:=by omega
 have e2:(8*i+j) % 8=j:=by omega
 simpa only [e1,e2,A43] using this
def RefOf (A:Ab) (r:RSt) (n:Nat):Prop:=∀ k:Nat,k<n→L7 r k=(A.ix (k:Nat)).isSome∧∀ e b,A.ix (k:Nat)=some (e,b)→(Ov r k).ep=e
theorem RsOk.both {r:RSt} (h:RsOk r) (k:Nat) (b:Bool) (x:Nd):RsOk { r with th:=r.th.set k b,nd:=r.nd.set k x }:=⟨by rw [A4d];exact h.nd,by rw [A4d];exact h.th⟩
theorem RefOf.step {A:Ab} {r:RSt} {k:Nat} (h:RefOf A r k) (hr:RsOk r) (hk:k<256) {x:Nd} (hx:∀ e b,A.ix (k:Nat)=some (e,b)→x.ep=e):RefOf A { r with th:=r.th.set k (A.ix (k:Nat)).isSome,nd:=r.nd.set k x } (k+1):=fun j hj=>by
 have h1:=hr.th
 have h2:=hr.nd
 by_cases e:j=k
 ·subst e
  refine ⟨?_,?_⟩
  ·unfold L7
   simp [A00,A3a,h1,hk]
  ·intro e b hb
   have:Ov { r with th:=r.th.set j (A.ix (j:Nat)).isSome,nd:=r.nd.set j x } j=x:=by
    unfold Ov
    simp [A00,A3a,h2,hk]
   rw [this]
   exact hx e b hb
 ·have hh:=h j (by omega)
  have e1:L7 { r with th:=r.th.set k (A.ix (k:Nat)).isSome,nd:=r.nd.set k x } j=L7 r j:=by
   unfold L7
   simp [A00,A3a,A54 e]
  have e2:Ov { r with th:=r.th.set k (A.ix (k:Nat)).isSome,nd:=r.nd.set k x } j=Ov r j:=by
   unfold Ov
   simp [A00,A3a,A54 e]
  rw [e1,e2]
  exact hh
theorem Ai7 {l:Lv} {ix:NdM} {r:RSt} (h:∀ k:Nat,k<256→L7 r k=Bj l (k:Nat)∧(L7 r k=true→(Ov r k).ep=epN ix (k:Nat))):∀ n,n≤256 →
  (Db l n).foldl (fun c k=>Da c [B4 1 (BitVec.ofInt 64 k),B4 8 (epN ix k)]) 0=Da 0 [Ow r n]
 | 0,_=>by
  show (0:BitVec 32)=Da 0 [[]]
  unfold Da
  show (0:BitVec 32)= ~~~ (~~~ 0)
  rw [BitVec.not_not]
 | n+1,hn=>by
  rw [Vn,A28,Ai7 h n (by omega),R7]
  obtain ⟨h1,h2⟩:=h n (by omega)
  rw [h1] at h2 ⊢
  by_cases e:Bj l (n:Nat)=true
  ·rw [if_pos e,if_pos e,h2 e]
   show Da (Da 0 [Ow r n]) _=_
   rw [Al2,Ag4]
   simp
  ·rw [if_neg e,if_neg e,A37]
   rfl
theorem Ai8 {A:Ab} {z:Sg} {r:RSt} (h:Std A z) (hr:RefOf A r 256) (he:r.ep=A.last.ep) (h0:0<A.last.ep.toNat):A.last=⟨r.ep,Jt r 256,Da 0 [Ow r 256]⟩:=by
 have hl:A.last.lv=Jt r 256:=Ayv fun k hk=>by
  rw [R8 r 256 (A5q _),A24,Gr hk,(hr k hk).1,h.live]
  have:decide ((k:Int)<((256:Nat):Int))=true:=A4x (by omega)
  rw [this];rfl
 have hs:A.last.sum=Da 0 [Ow r 256]:=by
  rw [h.sum h0]
  refine Ai7 (fun k hk=> ?_) 256 (A5q _)
  obtain ⟨h1,h2⟩:=hr k hk
  refine ⟨by rw [h1,h.live],fun ht=> ?_⟩
  rw [h1] at ht
  cases hi:A.ix (k:Nat) with
  | none=>rw [hi] at ht;cases ht
  | some p=>rw [h2 p.1 p.2 hi];unfold epN;rw [hi]
 have:A.last=⟨A.last.ep,A.last.lv,A.last.sum⟩:=rfl
 rw [this,hl,hs,he]
theorem Avs:(Sl.nil:Sl Chg).hp tCg++(cbH (Sl.nil:Sl Chg).list++[])=[]:=by
 rw [Sl.hp_nil]
 show cbH []++[]=[]
 rw [Arj];rfl
theorem Avt {n i:Nat} {A:Ab} {z:Sg} (h:StI n i A z) (hn:n≤40) (hi:i≤900) (hs:∀ k,A.stray k=false) (hse:A.seen.toNat≤1000) :
  Does Tryz.prog 16 [ptr z.S.st,wv (z.S.seen+1),.slice none 0 0] (Cn T::(z.S.st,true,C (stC z.S) tSt)::(z.S.ib,true,z.S.idx.obj .i64)::(z.S.pb,true,z.S.pend.obj .i64)::(z.S.sb,true,z.S.stray.obj .i64)::(lgH z.L++[]))
  (fun v H=>∃ (A':Ab) (z':Sg),v= .int .i64 0∧H=Cn T::(z'.S.st,true,C (stC z'.S) tSt)::(z'.S.ib,true,z'.S.idx.obj .i64)::(z'.S.pb,true,z'.S.pend.obj .i64)::(z'.S.sb,true,z'.S.stray.obj .i64)::(lgH z'.L++[])∧z'.S.st=z.S.st∧StI n (i+1) A' z'∧0<A'.last.ep.toNat∧∀ k,A'.ix k=A.ix k):=by
 have hf:=Tx (T:=T) h hn hi (ep:=z.S.seen+1) (cs:= .nil) (A5s _)
 rw [Avs] at hf
 refine hf.mono ?_
 rintro v H ⟨e,A',z',rfl,rfl,hst,hI,hc⟩
 have hin:(z.S.seen+1).toNat=A.seen.toNat+1:=by rw [h.std.seen];exact Ai4 (i:=1000) hse (by omega)
 have hb:Bn z (z.S.seen+1) (Sl.nil:Sl Chg).list=false:=by
  show Bn z (z.S.seen+1) []=false
  unfold Bn M2
  have h3:N1 (([]:List Chg).map (·.key))=true:=onceC_iff.2 (by simp)
  have h4:decide (((z.S.seen+1).toNat:Int)>(z.S.seen.toNat:Int))=true:=by rw [hin,h.std.seen];simp;omega
  rw [h3,h4];rfl
 have hfu:Bv z (Sl.nil:Sl Chg).list=false:=by
  show Bv z []=false
  unfold Bv
  rw [h.std.lv]
  have:=h.std.lim
  exact A4p (by simp only [List.foldl_nil];omega)
 rcases hc with ⟨h1,_⟩ | ⟨_,h1,_⟩ | ⟨_,_,rfl,hcom⟩
 ·rw [hb] at h1;cases h1
 ·rw [hfu] at h1;cases h1
 ·refine ⟨A',z',rfl,rfl,hst,hI,by rw [hcom.ep,hin];omega,fun k=> ?_⟩
  cases hx:A.ix k with
  | some p=>have:=hcom.oth k (fun hh=>by cases hh) p.1 p.2 hx;rw [hs k] at this;simpa using this
  | none =>
   have h3:=hI.std.live k
   rw [hcom.lv] at h3
   have h4:=h.std.live k
   rw [hx] at h4
   cases hj:A'.ix k with
   | none=>rfl
   | some p =>
    rw [hj] at h3
    have h5:=h3.trans h4.symm
    cases h5
theorem Al5 {sc:Sl OpS}:Does Tryz.prog 4 [sc.val] (sc.hp tOs++(opH sc.list++(Cn T::[]))) (fun v H=>v= .bool true):=by
 have hsm:=sc.small
 refine zF 91 Tryz.func4 ?_
 refine zC ?_
 refine zI rfl (Sz) ?_
 refine zC ?_
 refine Ay rfl ?_
 refine zC ?_
 refine zE rfl (Aeq (sc:=sc)) ?_
 rintro _ _ ⟨g14,rfl,rfl,hg14⟩
 refine zW ?_
 refine Ae rfl (fun c14=> ?_) (fun c14=> ?_)
 ·skip
  refine zC ?_
  exact zL (hR:=by simp)
 ·skip
  obtain ⟨hl1,hl2⟩:=hg14 c14
  refine zC ?_
  refine zE rfl (Rv (m:=20) ⟨by omega,by omega⟩) ?_
  rintro _ _ ⟨z0,rfl,rfl,hL⟩
  refine zW ?_
  refine Ay rfl ?_
  refine zC ?_
  have hsti0:=hL.sti ⟨by omega,by omega⟩
  refine At [0,3,18,19] kQ (fun (st:Nat×Ab×Sg)=>[(20,.int .i64 st.1)]) (fun st=>(Cn T::(st.2.2.S.st,true,C (stC st.2.2.S) tSt)::(st.2.2.S.ib,true,st.2.2.S.idx.obj .i64)::(st.2.2.S.pb,true,st.2.2.S.pend.obj .i64)::(st.2.2.S.sb,true,st.2.2.S.stray.obj .i64)::(lgH st.2.2.L++(sc.hp tOs++(opH sc.list++[]))))) (fun st=>st.1≤sc.list.length∧StI 20 st.1 st.2.1 st.2.2∧st.2.2.S.st=z0.S.st∧st.2.1.seen.toNat≤3*st.1∧∀ k,st.2.1.stray k=false) (fun st=>sc.list.length - st.1) ((0,ab0,z0)) ⟨A5s _,hsti0,rfl,A5s _,fun _=>rfl⟩ kP sP ?_
  rintro ⟨i,A,z⟩ ⟨k0,k1,k2,k3,k4⟩
  simp only at k0 k1 k2 k3 k4
  rw [← k2]
  refine zC ?_
  refine Ae rfl (fun c21=> ?_) (fun c21=> ?_)
  ·simp only [A3j,A1k] at c21
   obtain ⟨o,hgo⟩:∃ o,sc.list[i]? =some o:=⟨_,A1d (by omega)⟩
   rw [Ag3 hgo]
   obtain ⟨ho1,ho2⟩:=hl2 o (A2a hgo)
   refine zA ?_
   refine Ah (A7 (s:=sc) rfl rfl (by omega)) rfl ?_
   refine Ah (Dd (s:=sc) (o:=0) rfl pL hgo rfl rfl) rfl ?_
   refine Aj rfl (fun b5=> ?_)
   refine zC ?_
   refine A0 [(7,[(0,false),(1,false),(2,false),(4,false),(5,false),(3,true),(6,true)]),(8,[(7,true)])] (by kernel_rfl) ?_
   refine zC ?_
   refine zE rfl (We (S:=z.S) (o:=o)) ?_
   rintro _ _ ⟨w27,rfl,rfl,hw27⟩
   refine zW ?_
   refine zE rfl (Wf (cs:=o.ch) ho1 ho2) ?_
   rintro _ _ ⟨c30,rfl,rfl,hc30,ho30⟩
   refine zW ?_
   have hcl:c30.list.length≤40:=(by have:=A52 List.length hc30;rw [A4b,A4b] at this;omega)
   refine Ci rfl (Tx k1 (by omega) (by omega) (ep:=w27) (cs:=c30) (by omega)) sP rfl (fun v31 Y31 h31=> ?_)
   obtain ⟨e31,A2,z2,rfl,rfl,hst2,hI2,hc2⟩:=h31
   have hs2:A2.seen.toNat≤3*(i+1)∧∀ k,A2.stray k=false:=(by rcases hc2 with ⟨_,_,rfl⟩ | ⟨_,_,_,rfl⟩ | ⟨_,_,_,h⟩;exact ⟨by omega,k4⟩;exact ⟨by omega,k4⟩;refine ⟨?_,h.stray⟩;rw [h.seen,hw27,k1.std.seen];have:=Awe A.seen o.jump (by omega);omega)
   rw [← hst2]
   refine A5 aQ ?_
   refine zC ?_
   exact ⟨(i+1,A2,z2),⟨by simp only;omega,hI2,rfl,hs2.1,hs2.2⟩,by simp only;omega,lZ⟩
  ·simp only [A3j,A1k] at c21
   have hi70:i≤70:=(by omega)
   have hlA:z.S.last=A.last:=k1.std.rz.last
   refine zC ?_
   refine zE rfl (Avr) ?_
   rintro _ _ ⟨d33,rfl,rfl⟩
   refine zW ?_
   refine At [3,6] kQ (fun (st:Nat×RSt)=>[(7,.int .i64 st.1)]) (fun st=>((d33,true,C (rsC st.2) tRs)::Cn T::(z.S.st,true,C (stC z.S) tSt)::(z.S.ib,true,z.S.idx.obj .i64)::(z.S.pb,true,z.S.pend.obj .i64)::(z.S.sb,true,z.S.stray.obj .i64)::(lgH z.L++[]))) (fun st=>st.1≤256∧RsOk st.2∧RefOf A st.2 st.1) (fun st=>256 - st.1) ((0,rs0 31)) ⟨A5s _,Ayu _,fun k hk=>absurd hk (Nat.not_lt_zero _)⟩ kP sP ?_
   rintro ⟨k,r⟩ ⟨g0,hr,hR⟩
   simp only at g0 hr hR
   refine zC ?_
   refine Ae rfl (fun c35=> ?_) (fun c35=> ?_)
   ·simp only [A3j,A1k] at c35
    refine zC ?_
    refine Ci rfl (Wc k1.std k1.wi (key:=(k:Nat))) sP rfl (fun v41 Y41 h41=> ?_)
    obtain ⟨s41,y41,e41,er41,rfl,rfl,hh⟩:=h41
    have hb:decide (er41=0)=(A.ix (k:Nat)).isSome:=(by rcases hh with ⟨h1,rfl,_⟩ | ⟨rfl,_,h1,_⟩ <;> rw [h1] <;> rfl)
    have he:∀ e b,A.ix (k:Nat)=some (e,b)→e41=e:=(by intro e b hx;rcases hh with ⟨h1,_⟩ | ⟨_,_,h1,_⟩;rw [h1] at hx;cases hx;rw [h1] at hx;cases hx;rfl)
    refine A5 aQ ?_
    refine zC ?_
    refine Aj rfl (fun b8=> ?_)
    refine zC ?_
    refine Mn [0,1,2,3,4,5,7,8,9,11,12] [[(6,false),(10,true)],[(13,false)],[(14,true)]] (by kernel_rfl) ?_
    refine zA ?_
    refine Aq (show Rd _ _ _ _ (.bool (A.ix (k:Nat)).isSome) from by rw [← hb];exact An rfl rfl rfl) ?_
    refine zA ?_
    refine Aq (H8 rfl rfl (by omega)) ?_
    iterate 3 refine sa ?_
    refine Av3 [(b8,true,C (ndC ⟨y41,e41,s41⟩) tNd)] sP ?_
    iterate 2 refine sb ?_
    first | refine Ac (cs':=rsC { r with th:=r.th.set k (A.ix (k:Nat)).isSome }) rfl rfl uD rfl rfl (hr.setTh (k:=k) (by omega) (by simp only [A24];omega) _) ?_ | refine Ac (cs':=rsC { r with th:=r.th.set k (A.ix (k:Nat)).isSome,nd:=r.nd.set k ⟨y41,e41,s41⟩ }) rfl rfl uD rfl rfl (RsOk.setNd (r:={ r with th:=r.th.set k (A.ix (k:Nat)).isSome }) ⟨hr.nd,by rw [A4d];exact hr.th⟩ (k:=k) (by omega) (by simp only [A24];omega) ⟨y41,e41,s41⟩) ?_
    refine zA ?_
    refine Aq (H8 rfl rfl (by omega)) ?_
    refine zA ?_
    first | refine Ac (cs':=rsC { r with th:=r.th.set k (A.ix (k:Nat)).isSome }) rfl rfl uD rfl rfl (hr.setTh (k:=k) (by omega) (by simp only [A24];omega) _) ?_ | refine Ac (cs':=rsC { r with th:=r.th.set k (A.ix (k:Nat)).isSome,nd:=r.nd.set k ⟨y41,e41,s41⟩ }) rfl rfl uD rfl rfl (RsOk.setNd (r:={ r with th:=r.th.set k (A.ix (k:Nat)).isSome }) ⟨hr.nd,by rw [A4d];exact hr.th⟩ (k:=k) (by omega) (by simp only [A24];omega) ⟨y41,e41,s41⟩) ?_
    refine zC ?_
    exact ⟨(k+1,{ r with th:=r.th.set k (A.ix (k:Nat)).isSome,nd:=r.nd.set k ⟨y41,e41,s41⟩ }),⟨by simp only;omega,hr.both _ _ _,hR.step hr (by omega) he⟩,by simp only;omega,lZ⟩
   ·simp only [A3j,A1k] at c35
    have hk:k=256:=(by omega)
    subst hk
    refine zC ?_
    refine zI rfl (M1 (S:=z.S)) ?_
    refine zA ?_
    refine Ac (cs':=rsC { r with ep:=z.S.last.ep }) rfl rfl uD rfl rfl (hr.setE _) ?_
    refine zC ?_
    refine zI rfl (M1 (S:=z.S)) ?_
    refine zC ?_
    refine Ae rfl (fun c65=> ?_) (fun c65=> ?_)
    ·simp only [A3j,A1k] at c65
     have hl0:z.S.last=cm0:=(by rw [hlA];exact k1.std.l0 (by rw [← hlA];omega))
     refine zC ?_
     refine zI rfl (Aat (S:=z.S)) ?_
     refine Ah (show Rd _ _ _ _ (.agg (cmC cm0).toArray) from Bl rfl (by kernel_rfl)) rfl ?_
     refine Ah (show Rd _ _ _ _ (.bool true) from Ll rfl rfl (Ag5 hl0)) rfl ?_
     refine zC ?_
     exact zL (hR:=by simp)
    ·simp only [A3j,A1k] at c65
     have hpos:0<A.last.ep.toNat:=(by rw [hlA] at c65;omega)
     have hE:RsOk { r with ep:=z.S.last.ep }:=⟨hr.nd,hr.th⟩
     have hle:=Ai8 (r:={ r with ep:=z.S.last.ep }) k1.std hR (by rw [hlA]) hpos
     refine zC ?_
     refine zI rfl (Aat (S:=z.S)) ?_
     refine zC ?_
     refine zI rfl (Aev hE) ?_
     refine Ah (show Rd _ _ _ _ (.bool false) from Afs rfl rfl (Ag5 (hlA.trans hle))) rfl ?_
     refine zC ?_
     refine Ay rfl ?_
     refine zC ?_
     refine zI rfl (Aas (S:=z.S)) ?_
     refine Ah (Aa6 (b:=1) rfl rfl) rfl ?_
     refine Ci rfl (Avt k1 (by omega) (by omega) k4 (by omega)) sP rfl (fun v79 Y79 h79=> ?_)
     obtain ⟨A3,z3,rfl,rfl,hst3,hI3,hp3,hx3⟩:=h79
     have hR3:RefOf A3 { r with ep:=z3.S.last.ep } 256:=(fun j hj=>by rw [hx3];exact hR j hj)
     have hE3:RsOk { r with ep:=z3.S.last.ep }:=⟨hr.nd,hr.th⟩
     have hl3:z3.S.last=A3.last:=hI3.std.rz.last
     have hle3:=Ai8 (r:={ r with ep:=z3.S.last.ep }) hI3.std hR3 (by rw [hl3]) hp3
     rw [← hst3]
     refine A5 aQ ?_
     refine zC ?_
     refine Ay rfl ?_
     refine zC ?_
     refine zI rfl (M1 (S:=z3.S)) ?_
     refine zA ?_
     refine Ac (cs':=rsC { r with ep:=z3.S.last.ep }) rfl rfl uD rfl rfl (RsOk.setE (r:={ r with ep:=z.S.last.ep }) hE _) ?_
     refine zC ?_
     refine zI rfl (Aat (S:=z3.S)) ?_
     refine zC ?_
     refine zI rfl (Aev hE3) ?_
     refine Ah (show Rd _ _ _ _ (.bool true) from Ll rfl rfl (Ag5 (hl3.trans hle3))) rfl ?_
     refine zC ?_
     exact zL (hR:=by simp)
end
end Go.Proofs.YtpmojdippdlcaaaGreatDoor
