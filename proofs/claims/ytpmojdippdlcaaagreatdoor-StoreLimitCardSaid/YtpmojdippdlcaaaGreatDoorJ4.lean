/- For every input, the program's store takes as many nodes as Limit tells, over and over, and no more (lemmas of the proof); the conditions are the statement's own: part 4. -/
import Derived.Test.YtpmojdippdlcaaaGreatDoorJ2
import Derived.Test.YtpmojdippdlcaaaGreatDoorJ3
import Derived.Test.YtpmojdippdlcaaaGreatDoorJ1
set_option linter.unusedVariables false
set_option linter.unusedSimpArgs false
namespace Go.Proofs.YtpmojdippdlcaaaGreatDoor
section
open Go.K
instance fld140_3:Fld Tryz.prog 140 3 3:=⟨⟨_,_,0,Tryz.underlying140,rfl,by kernel_rfl,rfl⟩⟩
instance ent132:Ent Tryz.prog 132:=⟨fun _ _=>by kernel_rfl⟩
instance ent154:Ent Tryz.prog 154:=⟨fun _ _=>by kernel_rfl⟩
instance ent194:Ent Tryz.prog 194:=⟨fun _ _=>by kernel_rfl⟩
instance ent222:Ent Tryz.prog 222:=⟨fun _ _=>by kernel_rfl⟩
instance ent223:Ent Tryz.prog 223:=⟨fun _ _=>by kernel_rfl⟩
instance ent239:Ent Tryz.prog 239:=⟨fun _ _=>by kernel_rfl⟩
set_option maxRecDepth 20000
theorem Fa {v:Blk} {j:Nat} (h:j<8):A9 v j=v.pages[j]:=dif_pos h
structure Qt where
 n:Nat
 u:List Int
def Acc (q:Qt) (c:Chip) (t:TS):Prop:=t.lost.length+FP c+FW c≤q.n∧(q.n=0→t.uses=q.u)
section
variable {c:Chip} {t:TS} {n k:Nat} {q:Qt} {V:Nat→Blk} {r:Int×TS×Chip}
theorem DV.keepE {b:Nat} (h:DV c t n k V) (hk:k≤700000000000) (hq:FP c+FW c=0) (hb:b+6<n) (hr:Pq n (b:Nat) c t r):r.2.1=t:=by
 have hu:=h.us hb
 obtain ⟨b1,c1,_,_,_,_,_,hc⟩:=Sm (a:=(at0 t.uses (b:Nat)).toNat) h.di (by omega) (by omega) (b:=(b:Nat)) (by omega) (by omega) (h.vw b hb) hr
 rcases hc with ⟨_,_,hc,_⟩ | ⟨_,hc,_⟩ | ⟨_,_,hc⟩
 ·rw [hc]
 ·omega
 ·rw [hc]
theorem DV.keepP {b j:Nat} {p:Pg} (h:DV c t n k V) (hk:k≤700000000000) (hq:FP c+FW c=0) (hb:b+6<n) (hj:j<8) (hn:(V b).next=j) (hr:Qy n (b:Nat) (j:Nat) p c t r):r.2.1=t:=by
 have hu:=h.us hb
 obtain ⟨m,c1,_,_,_,hc⟩:=Ps (a:=(at0 t.uses (b:Nat)).toNat) h.di (by omega) (by omega) (b:=(b:Nat)) (by omega) (by omega) (h.vw b hb) hj hn hr
 rcases hc with ⟨_,_,hc,_⟩ | ⟨_,_,_,hc,_⟩ | ⟨_,_,_,hc⟩
 ·rw [hc]
 ·omega
 ·rw [hc]
theorem Ahf {b:Nat} (h:DV c t n k V) (hk:k≤700000000000) (hq:q.n≤3) (hacc:Acc q c t) (hb:b+6<n) (hr:Pq n (b:Nat) c t r) :
  FrA c r.2.2∧∃ v:Blk,(∀ (j:Nat) (h:j<8),v.pages[j]=A0∨v.pages[j]=(V b).pages[j]) ∧
   ((r.1=0∧DV r.2.2 r.2.1 n (k+20) (upV V b v)∧v.next=0∧Acc q r.2.2 r.2.1)∨(r.1=30∧r.2.2.off=true∧¬ c.after<0∧Later r.2.2 n (k+20) q.n (upV V b v))):=by
 obtain ⟨hac,hau⟩:=hacc
 obtain ⟨f,v,hv,hc⟩:=Acy h hk (by omega) hb hr
 refine ⟨f,v,hv,?_⟩
 rcases hc with ⟨q1,q2,q3,q4⟩ | ⟨q1,_,q3,q4⟩ | ⟨q1,q2,q3,q4⟩
 ·exact .inl ⟨q1,q2,q3,by omega,fun h0=>by rw [h.keepE hk (by omega) hb hr];exact hau h0⟩
 ·omega
 ·refine .inr ⟨q1,q2,q3,fun d a1 a2 a3 a4=> ?_⟩
  obtain ⟨t2,x1,x2,x3⟩:=q4 d a1 a2 a3 a4
  exact ⟨t2,x1,x2,by omega⟩
theorem Z3 {b j:Nat} {p:Pg} (h:DV c t n k V) (hk:k≤700000000000) (hq:q.n≤3) (hacc:Acc q c t) (hb:b+6<n) (hj:j<8) (hn:(V b).next=j) (hr:Qy n (b:Nat) (j:Nat) p c t r) :
  FrA c r.2.2∧∃ v:Blk,v.next=((j+1:Nat):Int)∧Rq v (V b) j ∧
   ((r.1=0∧DV r.2.2 r.2.1 n (k+20) (upV V b v)∧A9 v j=p∧Acc q r.2.2 r.2.1)∨(r.1=30∧r.2.2.off=true∧¬ c.after<0∧(∃ m,A9 v j=Cu m A0 p)∧Later r.2.2 n (k+20) q.n (upV V b v))):=by
 obtain ⟨hac,hau⟩:=hacc
 obtain ⟨f,v,hv1,hv2,hc⟩:=Ag5 h hk (by omega) hb hj hn hr
 refine ⟨f,v,hv1,hv2,?_⟩
 rcases hc with ⟨q1,q2,q3,q4,_⟩ | ⟨q1,_,q3,q4⟩ | ⟨q1,q2,q3,⟨m,q4⟩,q5⟩
 ·exact .inl ⟨q1,q2,by rw [Fa hj];exact q3 hj,by omega,fun h0=>by rw [h.keepP hk (by omega) hb hj hn hr];exact hau h0⟩
 ·omega
 ·refine .inr ⟨q1,q2,q3,⟨m,by rw [Fa hj];exact q4 hj⟩,fun d a1 a2 a3 a4=> ?_⟩
  obtain ⟨t2,x1,x2,x3⟩:=q5 d a1 a2 a3 a4
  exact ⟨t2,x1,x2,by omega⟩
end
def Z4 (c c':Chip):Prop:=c.after<0∨(c.after≠0∧c'.after=w64 (c.after - 1))
theorem Aki {c:Chip} {t:TS} {n k:Nat} {V:Nat→Blk} {r:Int×TS×Chip} {b j:Nat} {p:Pg} (h:DV c t n k V) (hk:k≤700000000000) (hb:b+6<n) (hj:j<8) (hn:(V b).next=j) (hr:Qy n (b:Nat) (j:Nat) p c t r) (h0:FP c+FW c=0) (he:r.1=0):Z4 c r.2.2:=by
 have hu:=h.us hb
 obtain ⟨a,ha⟩:∃ a:Nat,at0 t.uses (b:Nat)=(a:Nat):=⟨(at0 t.uses (b:Nat)).toNat,by omega⟩
 have hva:=h.vw b hb
 have hta:(at0 t.uses (b:Nat)).toNat=a:=by omega
 rw [hta] at hva
 obtain ⟨m,c1,f,hw,hA,hcase⟩:=Ps h.di (by omega) (by omega) (by omega) ha hva hj hn hr
 rcases hcase with ⟨h1,h2,rfl,h3⟩ | ⟨_,_,_,h4,_⟩ | ⟨rfl,hpe,h1,rfl⟩
 ·cases he
 ·omega
 ·by_cases hp:c.after<0
  ·exact .inl hp
  ·refine .inr ?_
   unfold B1 at hpe
   split at hpe
   ·split at hpe
    ·cases hpe
    ·rename_i b0 hb0
     split at hpe
     ·simp only at hpe
      split at hpe
      ·cases hpe
      ·rename_i hE
       split at hpe
       ·cases hpe
       ·have hE2:c.after≠0:=fun h9=>by
         apply hE
         unfold El
         rw [if_neg hp,h9]
         rfl
        refine ⟨hE2,?_⟩
        simp only [Prod.mk.injEq,true_and] at hpe
        have:c1.after=(Fj (Rt (cnt c))).after:=by rw [← hpe];rfl
        rw [this]
        show (if c.after<0 then c.after else w64 (c.after - 1))=_
        rw [if_neg hp]
     ·cases hpe
   ·rename_i hm
    simp only [Prod.mk.injEq] at hpe
    exact absurd hpe.1 hm
theorem Su {kind:By} (h:0<kind.toNat∧kind.toNat<255) (x:Wd):C3 kind (Co 8 x)=(U3 kind x,0):=by
 unfold C3 U3
 rw [if_neg (by rw [J9 h];simp)]
def Avo (w v:Blk) (x:Wd):Prop:=(∀ (j:Nat) (h:j<8),v.pages[j]=A0∨v.pages[j]=w.pages[j])∨(v.next=1∧∃ m,A9 v 0=Cu m A0 (I7 x))
def Ik (x:Wd):LB:=⟨x,true,0,true,8⟩
def Akj (n nb k:Nat) (q:Qt) (V:Nat→Blk) (b:Nat) (bs:List LB) (c:Chip) (bs':List LB) (e:Int) (t':TS) (c':Chip):Prop :=
 bs'.length=nb∧FrA c c'∧∃ v:Blk,(e=0∧DV c' t' n k (upV V b v)∧Acc q c' t'∧bs'=bs.set b (Ik ((bAt bs b).wear+1))∧v.next=1∧A9 v 0=I7 ((bAt bs b).wear+1)) ∨
  (e=30∧c'.off=true∧¬ c.after<0∧Later c' n k q.n (upV V b v)∧Avo (V b) v ((bAt bs b).wear+1))
def Xq (n k:Nat) (q:Qt) (V:Nat→Blk) (b j:Nat) (p:Pg) (c:Chip) (t:TS) (e:Int) (t':TS) (c':Chip):Prop :=
 FrA c c'∧((e=32∧(V b).next≠j∧t'=t∧c'=c)∨((V b).next=j∧∃ v:Blk,v.next=((j+1:Nat):Int)∧Rq v (V b) j ∧
  ((e=0∧DV c' t' n k (upV V b v)∧Acc q c' t'∧A9 v j=p∧(q.n=0→Z4 c c'))∨(e=30∧c'.off=true∧¬ c.after<0∧(∃ m,A9 v j=Cu m A0 p)∧Later c' n k q.n (upV V b v)))))
section
variable {d:Dsk} {n k:Nat} {q:Qt} {lg bb nb:Nat} {last:Int} {V:Nat→Blk}
theorem Nz (h:DD d n k V) (hk:k≤600000000000) (hq:q.n≤3) (hacc:Acc q d.c d.t.ts) {b:Nat} {bs:List LB} (hnb:nb+6=n) (hl:bs.length=nb) (hb:b<nb) :
  Does Tryz.prog 132 [ptr lg,.int .i64 (b:Nat)] ((lg,true,C (lgC d.dk bb nb last) tLg)::(bb,true,C (lbs bs) tLB)::(dkH d++[]))
  (fun v H=>∃ (t':Tab) (c':Chip) (bs':List LB) (e:Int),v= .int .i64 e∧H=(lg,true,C (lgC d.dk bb nb last) tLg)::(bb,true,C (lbs bs') tLB)::(dkH ⟨d.dk,t',c'⟩++[])∧Akj n nb (k+40) q V b bs d.c bs' e t'.ts c'):=by
 have hg:bs[b]? =some (bAt bs b):=Ep (by omega)
 refine Ah (n:=56) Tryz.func132 Tryz.ntmps132 rfl (Nat.le_of_ble_eq_true rfl)<|Ad<|Aa fun ops=>oA rfl<|Ac<|n_K<|Ad<|Ad<|Aa fun ops=>oM rfl<|oN rfl<|oF rfl ?_
 refine oR (Al rfl mM rfl) ?_
 refine oM rfl ?_
 refine Bd rfl (Aj2 (d:=d) h (b:=(b:Nat))) sP rfl fun v15 Y15 h15=> ?_
 obtain ⟨t1,c1,e1,rfl,rfl,hE⟩:=h15
 obtain ⟨f1,w1,hw1,hc1⟩:=Ahf h (by omega) hq hacc (by omega) hE
 simp only at f1 hc1
 refine Ay aQ ?_
 refine oA rfl<|Ac<|n_K<|Ad<|Aa fun ops=>oM rfl<|oR (Ae rfl rfl rfl)<|Ac<|n_K ?_
 refine Aj rfl (fun c17=> ?_) (fun c17=> ?_)
 ·skip
  have he1:e1≠0:=(by simpa using c17)
  have hc30:=hc1.resolve_left (fun h9=>he1 h9.1)
  refine Ad<|Aa fun ops=>oM rfl<|oA rfl<|Ac<|n_K<|An<|r_K ?_
  exact Av (At Tryz.results132 (Ag rfl)) (by exact ⟨t1,c1,bs,e1,rfl,rfl,hl,f1,w1,.inr ⟨hc30.1,hc30.2.1,hc30.2.2.1,fun d a1 a2 a3 a4=>(by obtain ⟨x0,x1,x2,x3⟩:=hc30.2.2.2 d a1 a2 a3 a4;exact ⟨x0,x1,x2.mono (by omega),x3⟩),.inl hw1⟩⟩) sP
 ·skip
  have he1:e1=0:=(by simpa using c17)
  obtain ⟨_,hD1,hw10,hacc1⟩:=hc1.resolve_right (fun h9=>by rw [he1] at h9;exact absurd h9.1 (by decide))
  have hg1:(bs.set b ⟨(bAt bs b).wear+1,true,0,false,8⟩)[b]? =some ⟨(bAt bs b).wear+1,true,0,false,8⟩:=(by simp [hl,hb])
  refine Ai<|n_K<|Ad<|Aa fun ops=>oM rfl<|oN rfl<|oF rfl ?_
  refine oR (Al rfl mM rfl) ?_
  refine oM rfl ?_
  refine oR (Cp rfl rfl (by omega)) ?_
  refine oA rfl<|Ac<|n_K<|Ad<|Aa fun ops=>oM rfl<|oM rfl<|oN rfl<|oF rfl ?_
  refine oR (Al rfl mM (by simp only [Int.toNat_natCast];exact Fn (o:=0) hg (by omega) rfl)) ?_
  refine oR (Pf rfl rfl)<|oR (Bc rfl rfl)<|oN rfl ?_
  refine Af (cs':=lbs (bs.set b ⟨(bAt bs b).wear+1,true,0,false,8⟩)) rfl rfl uD rfl rfl (by simp only [Int.toNat_natCast];exact Ek (o:=0) hg rfl) ?_
  refine Ac<|n_K<|Ad<|Aa fun ops=>oM rfl<|oN rfl<|oF rfl ?_
  refine oR (Al rfl mM (by simp only [Int.toNat_natCast];exact Fn (o:=0) hg1 (by omega) rfl)) ?_
  refine Bd rfl (Hr) sP rfl fun v38 Y38 h38=> ?_
  obtain ⟨s38,rfl,rfl,hs38,ho38⟩:=h38
  refine Ay aQ ?_
  refine A5 rfl rfl rfl rfl fun b39=> ?_
  refine A6 rfl ((H9 (kind:=2) (s:=s38) (by rw [hs38,Bo];decide)).to (by rw [hs38,show Bl 8 8=8 from rfl,Su (by decide)]) rfl) sP rfl aQ ?_
  refine oM rfl<|oE rfl rfl<|oE rfl rfl ?_
  refine Aw rfl fun b7=> ?_
  rw [Cs]
  first | refine Af rfl rfl uD (Ct) (Ar) (B2 (by first | exact Ar | exact List.length_replicate ..)) ?_ | refine Af rfl rfl uD rfl rfl rfl ?_
  refine oA rfl<|Ac<|n_K<|Ad ?_
  refine s_draw [] [(6,[(0,false),(1,false),(2,false),(3,false),(4,false),(5,false)]),(7,[(6,true)]),(8,[(7,false)])] (by kernel_rfl) rfl fun ops w0 H0 y=> ?_
  refine A4<|xM rfl<|xN rfl<|xF rfl ?_
  refine xR (Al rfl mM rfl) ?_
  refine xM rfl ?_
  refine xR (Au rfl mM (by first | exact Bg | rfl)) ?_
  refine Am<|Bh<|Be ?_
  refine Bd rfl (Sn (d:=⟨d.dk,t1,c1⟩) hD1 (b:=(b:Nat)) (j:=(0:Nat)) (p:=I7 ((bAt bs b).wear+1))) sP rfl fun v49 Y49 h49=> ?_
  obtain ⟨t2,c2,e2,rfl,rfl,hP⟩:=h49
  obtain ⟨f2,w2,hw2,_,hc2⟩:=Z3 hD1 (by omega) hq hacc1 (b:=b) (j:=0) (by omega) (by omega) (by rw [E5];exact hw10) hP
  simp only at f2 hc2
  rw [Pu] at hc2
  refine Ay aQ ?_
  refine Ac ⟨rfl,⟨_,sP⟩,?_⟩
  refine Am<|A4<|xA rfl<|Am<|Bm<|n_K<|Ad<|Aa fun ops=>oM rfl<|oM rfl<|oR (Ae rfl rfl rfl)<|oN rfl<|oF rfl ?_
  refine Af (cs':=lbs ((bs.set b ⟨(bAt bs b).wear+1,true,0,false,8⟩).set b ⟨(bAt bs b).wear+1,true,0,decide (e2=0),8⟩)) rfl rfl uD rfl rfl (by simp only [Int.toNat_natCast];exact Ek (o:=3) hg1 rfl) ?_
  refine Ac<|n_K<|Ad<|Aa fun ops=>oM rfl<|oA rfl<|Ac<|n_K<|An ?_
  exact Av (At Tryz.results132 (Ag rfl)) (by exact ⟨t2,c2,bs.set b ⟨(bAt bs b).wear+1,true,0,decide (e2=0),8⟩,e2,rfl,rfl,by rw [List.length_set];exact hl,f1.trans f2,w2,by rcases hc2 with ⟨q1,q2,q3,q4⟩ | ⟨q1,q2,q3,q4,q5⟩;exact .inl ⟨q1,q2,q4,by rw [q1];rfl,hw2,q3⟩;exact .inr ⟨q1,q2,fun hp=>q3 (by rw [(f1.pos hp).1];exact hp),q5,.inr ⟨hw2,q4⟩⟩⟩) (by rw [List.set_set];exact sP)
theorem Vm (h:DD d n k V) (hk:k≤600000000000) (hq:q.n≤3) (hacc:Acc q d.c d.t.ts) {b j:Nat} {p:Pg} (hb:b+6<n) (hj:j<8) :
  Does Tryz.prog 154 [ptr lg,.int .i64 (b:Nat),.int .i64 (j:Nat),.agg (vbc p).toArray] ((lg,true,C (lgC d.dk bb nb last) tLg)::(dkH d++[]))
  (fun v H=>∃ (t':Tab) (c':Chip) (e:Int),v= .int .i64 e∧H=(lg,true,C (lgC d.dk bb nb last) tLg)::(dkH ⟨d.dk,t',c'⟩++[])∧Xq n (k+20) q V b j p d.c d.t.ts e t'.ts c'):=by
 refine Ah (n:=41) Tryz.func154 Tryz.ntmps154 rfl (Nat.le_of_ble_eq_true rfl)<|Ad<|Aa fun ops=> ?_
 refine Ec rfl rfl fun b7=> ?_
 refine oA rfl<|Ac<|n_K<|Ad<|Ad ?_
 refine s_draw [] [(7,[(0,false),(1,false),(2,false),(3,false),(4,false),(5,false),(6,false)]),(8,[(7,true)]),(9,[(8,false)])] (by kernel_rfl) rfl fun ops w0 H0 y=> ?_
 refine A4<|xM rfl<|xN rfl<|xF rfl ?_
 refine xR (Al rfl mM rfl) ?_
 refine xM rfl<|xM rfl ?_
 refine xR (Au rfl mM (by first | exact Bg | rfl)) ?_
 refine Am<|Bh<|Be ?_
 refine Bd rfl (Sn (d:=d) h (b:=(b:Nat)) (j:=(j:Nat)) (p:=p)) sP rfl fun v19 Y19 h19=> ?_
 obtain ⟨t1,c1,e1,rfl,rfl,hP⟩:=h19
 have hAf:(V b).next=j→e1=0→q.n=0→Z4 d.c c1:=(fun h7 h8 h9=>Aki h (by omega) hb hj h7 hP (by have:=hacc.1;omega) h8)
 have hW:(e1=32∧(V b).next≠j∧t1.ts=d.t.ts∧c1=d.c)∨((V b).next=j∧FrA d.c c1∧∃ v:Blk,v.next=((j+1:Nat):Int)∧Rq v (V b) j∧((e1=0∧DV c1 t1.ts n (k+20) (upV V b v)∧A9 v j=p∧Acc q c1 t1.ts)∨(e1=30∧c1.off=true∧¬ d.c.after<0∧(∃ m,A9 v j=Cu m A0 p)∧Later c1 n (k+20) q.n (upV V b v)))):=(by by_cases hn:(V b).next=j;(obtain ⟨f1,w1,h1,h2,h3⟩:=Z3 h (by omega) hq hacc hb hj hn hP;exact .inr ⟨hn,f1,w1,h1,h2,h3⟩);(have h9:=Ajz h hb hj hn hP;simp only [Prod.mk.injEq] at h9;exact .inl ⟨h9.1,hn,h9.2.1,h9.2.2⟩))
 refine Ay aQ ?_
 refine Ac ⟨rfl,⟨_,sP⟩,?_⟩
 refine Am<|A4<|xA rfl<|Am<|Bm<|n_K<|Ad<|Aa fun ops=>oM rfl<|oR (Ae rfl rfl rfl)<|Ac<|n_K ?_
 refine Aj rfl (fun c21=> ?_) (fun c21=> ?_)
 ·skip
  have he1:e1≠0:=(by simpa using c21)
  refine Ad<|Aa fun ops=>oM rfl<|oA rfl<|Ac<|n_K<|An<|r_K ?_
  exact Av (At Tryz.results154 (Ag rfl)) (by exact ⟨t1,c1,e1,rfl,rfl,by rcases hW with ⟨q1,q2,q3,q4⟩ | ⟨q1,q2,w,q3,q4,q5⟩;(rw [q4];exact .refl _);exact q2,by rcases hW with ⟨q1,q2,q3,q4⟩ | ⟨q1,q2,w,q3,q4,q5⟩;exact .inl ⟨q1,q2,q3,q4⟩;exact .inr ⟨q1,w,q3,q4,by rcases q5 with ⟨r1,r2,r3,r4⟩ | r;exact absurd r1 he1;exact .inr r⟩⟩) sP
 ·skip
  have he1:e1=0:=(by simpa using c21)
  obtain ⟨hn,f1,w1,h1,h2,h3⟩:=hW.resolve_left (fun h9=>by rw [he1] at h9;exact absurd h9.1 (by decide))
  obtain ⟨_,hD1,hp1,hacc1⟩:=h3.resolve_right (fun h9=>by rw [he1] at h9;exact absurd h9.1 (by decide))
  have hrd:=Ii (d:=⟨d.dk,t1,c1⟩) hD1 hb hj
  rw [E5,hp1] at hrd
  refine Ai<|n_K<|Ad<|Aa fun ops=>oM rfl<|oN rfl<|oF rfl ?_
  refine oR (Al rfl mM rfl) ?_
  refine oM rfl<|oM rfl ?_
  refine A6 rfl ((I6 (d:=⟨d.dk,t1,c1⟩) (b:=(b:Nat)) (k:=(j:Nat))).to (by rw [hrd.1,hrd.2]) rfl) sP rfl aQ ?_
  refine oM rfl<|oE rfl rfl<|oE rfl rfl ?_
  refine Aw rfl fun b10=> ?_
  rw [Cs]
  first | refine Af rfl rfl uD (Ct) (Ar) (B2 (by first | exact Ar | exact List.length_replicate ..)) ?_ | refine Af rfl rfl uD rfl rfl rfl ?_
  refine oA rfl<|Ac<|n_K<|Ad<|Ad ?_
  refine Bf [(2,35)] rfl fun ops y=> ?_
  refine oM rfl<|oR (Ae rfl rfl rfl)<|oM rfl ?_
  refine' Df (j:=2) (k:=3) y rfl rfl rfl rfl rfl rfl rfl (fun hg35=> ?_) ?_
  rotate_left
  ·try (simp at hg35;show _)
   refine o_g y rfl rfl ?_
   refine oR (Au rfl mM (by first | exact Bg | rfl)) ?_
   refine o_g y rfl rfl ?_
   refine oR (Au rfl mM (by first | exact Bg | rfl)) ?_
   refine o_g y rfl rfl ?_
   refine oR (Alw rfl rfl (pg_eq _ _)) ?_
   exact Ac ⟨rfl,rfl,⟨_,sP⟩⟩
  refine Ac<|n_K ?_
  refine Aj rfl (fun c39=> ?_) (fun c39=> ?_)
  ·skip
   try (exfalso;(simp at c39);done)
   all_goals
    refine Aa fun ops=>oA rfl<|Ac<|n_K<|Ad<|Aa fun ops=>oM rfl<|oA rfl<|Ac<|n_K<|An ?_
    exact Av (At Tryz.results154 (Ag rfl)) (by exact ⟨t1,c1,0,rfl,rfl,f1,.inr ⟨hn,w1,h1,h2,.inl ⟨rfl,hD1,hacc1,hp1,hAf hn he1⟩⟩⟩) sP
  ·skip
   refine Ai<|n_K<|Ad<|Aa fun ops=>oM rfl<|oA rfl<|Ac<|n_K<|An ?_
   exact Av (At Tryz.results154 (Ag rfl)) (by exact ⟨t1,c1,0,rfl,rfl,f1,.inr ⟨hn,w1,h1,h2,.inl ⟨rfl,hD1,hacc1,hp1,hAf hn he1⟩⟩⟩) sP
def Sv (v:Blk):Bool:=(List.range 7).all fun i=>decide (A9 v (i+1)=A0)
theorem Ahg {x:By}:Does Tryz.prog 223 [bv x] [] (Is (.bool (!decide ((x.toNat:Int)=255))) []):=by
 refine Ah (n:=5) Tryz.func223 Tryz.ntmps223 rfl (Nat.le_of_ble_eq_true rfl)<|Ad<|Aa fun ops=>oA rfl<|Ac<|n_K<|Ad<|Aa fun ops=>oM rfl<|oR (Ae rfl rfl rfl)<|oA rfl<|Ac<|n_K<|An ?_
 refine Aq (At Tryz.results223 (Ag rfl)) ?_ sP
 rfl
theorem Apv {p:Pg} {m:Nat}:Does Tryz.prog 239 [.slice (some ⟨m,0,none⟩) 258 258,.func (.func 223) #[] #[]] [(m,true,C (vbc p) tPg)]
  (fun v H=>H=[(m,true,C (vbc p) tPg)]∧((p≠A0∧∃ i:Nat,v= .int .i64 (i:Nat))∨(p=A0∧v= .int .i64 (-1)))):=by
 refine Ah (n:=19) Tryz.func239 Tryz.ntmps239 rfl (Nat.le_of_ble_eq_true rfl)<|Ad<|Aa fun ops=>oA rfl<|Ac<|n_K<|Ad<|Ad<|Aa fun ops=>oM rfl<|oR (A7 rfl)<|oM rfl<|Ac<|n_K ?_
 refine Ak ?_
 refine A8 [0,1,7] kQ (fun (i:Nat)=>[(8,.int .i64 i)]) (fun (i:Nat)=>[(m,true,C (vbc p) tPg)]) (fun (i:Nat)=>i≤258∧∀ (j:Nat) (h:j<258),j<i→p[j]=255#8) (fun (i:Nat)=>258 - i) (0) ⟨Nat.zero_le _,fun j _ h=>(by cases h)⟩ kP sP ?_
 rintro i ⟨h0,h1⟩
 refine Ad<|Aa fun ops=>oR (Ae rfl rfl rfl)<|Ac<|n_K<|Ad ?_
 refine Aj rfl (fun c9=> ?_) (fun c9=> ?_)
 ·simp only [decide_eq_true_eq,decide_eq_false_iff_not] at c9
  have hi:i<258:=(by omega)
  refine Ai<|n_K<|Ad<|Ak<|Ad<|Aa fun ops=>oM rfl<|oA rfl<|Ac<|n_K<|Ad<|Aa fun ops=>oM rfl<|oM rfl ?_
  refine oM rfl ?_
  refine oR (Cp rfl rfl (by omega)) ?_
  refine oR (Al rfl mM (by simp only [Int.toNat_natCast,Nat.mul_one];exact Gt hi)) ?_
  refine S8 (fi:=[]) (ca:=[]) rfl rfl (Ahg (x:=p[i])) sP rfl aQ ?_
  refine Ac<|n_K ?_
  refine Aj rfl (fun c16=> ?_) (fun c16=> ?_)
  ·skip
   have hne:p≠A0:=(fun e=>by rw [e,J0 hi] at c16;exact absurd c16 (by decide))
   refine Ad<|Aa fun ops=>oM rfl<|oA rfl<|Ac<|n_K<|An<|Bn<|r_K<|r_K<|Bn<|r_K ?_
   exact Av (At Tryz.results239 (Ag rfl)) (by exact ⟨rfl,.inl ⟨hne,i,rfl⟩⟩) sP
  ·skip
   have hb:p[i]=255#8:=(by have h9:(p[i].toNat:Int)=255:=(by simpa using c16);exact BitVec.eq_of_toNat_eq (by show _=255;omega))
   refine Ai<|Az<|n_K<|Aa fun ops=> ?_
   refine oR (Ao rfl rfl (by omega)) ?_
   refine oM rfl<|Ac<|n_K ?_
   exact ⟨i+1,⟨by omega,fun j hj hlt=>by by_cases e:j=i;(subst e;exact hb);exact h1 j hj (by omega)⟩,(by omega),lZ⟩
 ·simp only [decide_eq_true_eq,decide_eq_false_iff_not] at c9
  refine Bb<|x_K<|x_K<|Bj<|n_K<|Ad<|Aa fun ops=>oA rfl<|Ac<|n_K<|An ?_
  exact Av (At Tryz.results239 (Ag rfl)) (by exact ⟨rfl,.inr ⟨by apply Vector.ext;intro j hj;rw [h1 j hj (by omega),J0 hj],rfl⟩⟩) sP
theorem Atq {p:Pg} {m:Nat}:Does Tryz.prog 222 [.slice (some ⟨m,0,none⟩) 258 258,.func (.func 223) #[] #[]] [(m,true,C (vbc p) tPg)]
  (Is (.bool (decide (p≠A0))) [(m,true,C (vbc p) tPg)]):=by
 refine Ah (n:=9) Tryz.func222 Tryz.ntmps222 rfl (Nat.le_of_ble_eq_true rfl)<|Ad<|Aa fun ops=>oA rfl<|Ac<|n_K<|Ad<|Aa fun ops=>oM rfl<|oM rfl ?_
 refine Bd rfl (Apv (p:=p) (m:=m)) sP rfl fun v7 Y7 h7=> ?_
 rcases h7 with ⟨rfl,⟨hne,i,rfl⟩ | ⟨hne,rfl⟩⟩
 all_goals
  refine Ay aQ ?_
  refine oR (Ae rfl rfl rfl)<|oA rfl<|Ac<|n_K<|An ?_
  refine Aq (At Tryz.results222 (Ag rfl)) ?_ sP
  first | (rw [decide_eq_true hne];simp;done) | (simp [hne];done)
theorem Akk (h:DD d n k V) {b:Nat} (hb:b+6<n):Does Tryz.prog 194 [ptr lg,.int .i64 (b:Nat)] ((lg,true,C (lgC d.dk bb nb last) tLg)::(dkH d++[]))
  (Is (.tuple #[.bool (Sv (V b)),.int .i64 0]) ((lg,true,C (lgC d.dk bb nb last) tLg)::(dkH d++[]))):=by
 refine Ah (n:=28) Tryz.func194 Tryz.ntmps194 rfl (Nat.le_of_ble_eq_true rfl)<|Ad<|Aa fun ops=>oA rfl<|oA rfl<|Ac<|n_K<|Ad<|Ad<|Aa fun ops=>oA rfl<|Ac<|n_K<|Ak ?_
 refine A8 [0,1] kQ (fun (i:Nat)=>[(6,.int .i64 ((i:Int)+1))]) (fun (i:Nat)=>(lg,true,C (lgC d.dk bb nb last) tLg)::(dkH d++[])) (fun (i:Nat)=>i≤7∧∀ j<i,A9 (V b) (j+1)=A0) (fun (i:Nat)=>7 - i) (0) ⟨Nat.zero_le _,fun j h=>(by cases h)⟩ kP sP ?_
 rintro i ⟨h0,h1⟩
 refine Ad<|Ad<|Aa fun ops=>oM rfl<|oR (Ae rfl rfl rfl)<|Ac<|n_K ?_
 refine Aj rfl (fun c10=> ?_) (fun c10=> ?_)
 ·simp only [decide_eq_true_eq,decide_eq_false_iff_not] at c10
  have hi:i<7:=(by omega)
  have hrd:=Ii h hb (j:=i+1) (by omega)
  have ei:(((i+1:Nat):Int))=(i:Int)+1:=(by omega)
  rw [ei] at hrd
  refine Ai<|n_K<|Ad<|Ak<|Ad<|Aa fun ops=>oM rfl<|oN rfl<|oF rfl ?_
  refine oR (Al rfl mM rfl) ?_
  refine oM rfl<|oM rfl ?_
  refine A6 rfl ((I6 (d:=d) (b:=(b:Nat)) (k:=(i:Int)+1)).to (by rw [hrd.1,hrd.2]) rfl) sP rfl aQ ?_
  refine oM rfl<|oE rfl rfl<|oE rfl rfl ?_
  refine Aw rfl fun b7=> ?_
  rw [Cs]
  first | refine Af rfl rfl uD (Ct) (Ar) (B2 (by first | exact Ar | exact List.length_replicate ..)) ?_ | refine Af rfl rfl uD rfl rfl rfl ?_
  refine oA rfl<|Ac<|n_K<|Ad<|Ad<|Aa fun ops=>oM rfl<|oR (Ae rfl rfl rfl)<|Ac<|n_K ?_
  refine Bi rfl ?_
  refine Ai<|n_K<|Ad<|Aa fun ops=> ?_
  refine oR (show Rd _ _ _ _ (.slice (some ⟨b7,0,none⟩) 258 258) from C5 (b:=b7) (o:=0) (sz:=1) (i:=0) (j:=258) (l:=258) rfl rfl rfl (by omega)) ?_
  refine A6 rfl (Atq (p:=A9 (V b) (i+1)) (m:=b7)) sP rfl aQ ?_
  refine Ac<|n_K ?_
  refine Aj rfl (fun c27=> ?_) (fun c27=> ?_)
  ·skip
   have hne:A9 (V b) (i+1)≠A0:=(by simpa using c27)
   have hcl:Sv (V b)=false:=(by unfold Sv;rw [List.all_eq_false];exact ⟨i,List.mem_range.2 hi,by simpa using hne⟩)
   refine Ad<|Aa fun ops=>oA rfl<|oA rfl<|Ac<|n_K<|An<|Bn<|r_K<|r_K<|Bn<|r_K ?_
   refine Aq (Bz Tryz.results194 (Ag rfl) (Ag rfl)) ?_ sP
   rw [hcl]
  ·skip
   have he:A9 (V b) (i+1)=A0:=(by simpa using c27)
   refine Ai<|Az<|n_K<|Aa fun ops=>oM rfl ?_
   refine oR (Ao rfl rfl (by omega)) ?_
   refine oA rfl<|Ac<|n_K ?_
   exact ⟨i+1,⟨by omega,fun j hj=>by by_cases e:j=i;(subst e;exact he);exact h1 j (by omega)⟩,(by omega),lZ⟩
 ·simp only [decide_eq_true_eq,decide_eq_false_iff_not] at c10
  have hcl:Sv (V b)=true:=(by unfold Sv;rw [List.all_eq_true];intro j hj;have:=List.mem_range.1 hj;simpa using h1 j (by omega))
  refine Bb<|x_K<|x_K<|Bj<|n_K<|Ad<|Aa fun ops=>oA rfl<|oA rfl<|Ac<|n_K<|An ?_
  refine Aq (Bz Tryz.results194 (Ag rfl) (Ag rfl)) ?_ sP
  rw [hcl]
end
end
section
open Go.K
instance ent153:Ent Tryz.prog 153:=⟨fun _ _=>by kernel_rfl⟩
set_option maxRecDepth 20000
set_option maxHeartbeats 1000000
def toU (bs:List LB):Nat→Int
  | 0=> -1
  | k+1=>if (bAt bs k).seq.toNat=0∧(toU bs k<0∨(bAt bs k).wear.toNat<(bAt bs (toU bs k).toNat).wear.toNat) then k else toU bs k
theorem Lb (bs:List LB):∀ k,(toU bs k= -1∧∀ j<k,(bAt bs j).seq.toNat≠0)∨(∃ l:Nat,toU bs k=l∧l<k∧(bAt bs l).seq.toNat=0∧∀ j<k,(bAt bs j).seq.toNat=0→(bAt bs l).wear.toNat≤(bAt bs j).wear.toNat)
  | 0=> .inl ⟨rfl,fun j hj=>by omega⟩
  | k+1=>by
    rcases Lb bs k with ⟨h1,h2⟩ | ⟨l,h1,h2,h3,h4⟩
    · unfold toU
      rw [h1]
      by_cases h:(bAt bs k).seq.toNat=0
      · rw [if_pos ⟨h,.inl (by omega)⟩]
        refine .inr ⟨k,rfl,by omega,h,fun j hj h0=> ?_⟩
        by_cases e:j=k
        · subst e;exact Nat.le_refl _
        · exact absurd h0 (h2 j (by omega))
      · rw [if_neg (fun h5=>h h5.1)]
        refine .inl ⟨rfl,fun j hj=> ?_⟩
        by_cases e:j=k
        · subst e;exact h
        · exact h2 j (by omega)
    · unfold toU
      rw [h1,Int.toNat_natCast]
      by_cases h:(bAt bs k).seq.toNat=0∧(bAt bs k).wear.toNat<(bAt bs l).wear.toNat
      · rw [if_pos ⟨h.1,.inr h.2⟩]
        refine .inr ⟨k,rfl,by omega,h.1,fun j hj h0=> ?_⟩
        by_cases e:j=k
        · subst e;exact Nat.le_refl _
        · have:=h4 j (by omega) h0;omega
      · rw [if_neg (fun h5=>by rcases h5.2 with h6 | h6;omega;exact h ⟨h5.1,h6⟩)]
        refine .inr ⟨l,rfl,by omega,h3,fun j hj h0=> ?_⟩
        by_cases e:j=k
        · subst e;omega
        · exact h4 j (by omega) h0
theorem Xr (bs:List LB) (k:Nat): -1≤toU bs k∧toU bs k<k:=by
  rcases Lb bs k with ⟨h,_⟩ | ⟨l,h,h2,_⟩ <;> omega
def seqN (bs:List LB) (last:Int):Wd:=if last<0 then 1 else (bAt bs last.toNat).seq+1
theorem Apw {P:Program} {E:Env} {H:Hp} {t u:TypeId} {x y:Operand} {v:Wd} (hx:ev E x=some (wv v)) (hy:ev E y=some (.int .u64 1)):Rd P E H (.binOp .sub t x y u) (wv (v - 1)):=by
  have:=Ae (P:=P) (H:=H) (op:= .sub) (t:=t) (u:=u) hx hy rfl
  have e:IntKind.u64.wrap ((v.toNat:Int) - 1)=((v - 1).toNat:Int):=by
    rw [Ex .u64 rfl]
    show ((BitVec.ofInt 64 ((v.toNat:Int) - 1)).toNat:Int)=_
    have h1:=v.isLt
    rw [BitVec.toNat_ofInt,BitVec.toNat_sub]
    show (((v.toNat:Int) - 1) % (18446744073709551616:Nat)).toNat=(((18446744073709551616 - 1+v.toNat) % 18446744073709551616:Nat):Int)
    omega
  unfold wv
  rw [← e]
  exact this
def Atr (w v:Blk) (x:LB) (sq:Wd):Prop :=
  Avo w v x.wear∨(v.next=2∧(A9 v 0=I7 x.wear∨(x.ready=true∧(A9 v 0=A9 w 0∨A9 v 0=Dv (A9 w 0))))∧∃ m,A9 v 1=Cu m A0 (Nx sq))
def As2 (w v:Blk) (x:LB) (kn:Bool) (sq:Wd):Prop :=
  v.next=2∧A9 v 1=Nx sq∧((kn=true∧A9 v 0=I7 x.wear)∨(x.ready=true∧kn=x.known∧(A9 v 0=A9 w 0∨A9 v 0=Dv (A9 w 0))))
def Akl (n nb k:Nat) (q:Qt) (V:Nat→Blk) (bs:List LB) (last:Int) (c:Chip) (t:TS) (bs':List LB) (last' e:Int) (t':TS) (c':Chip):Prop :=
  (e=40∧toU bs nb<0∧bs'=bs∧last'=last∧t'=t∧c'=c) ∨
  (bs'.length=nb∧FrA c c'∧∃ (to:Nat) (v:Blk),toU bs nb=to ∧
    ((e=0∧DV c' t' n k (upV V to v)∧Acc q c' t'∧last'=to∧(∀ j<nb,j≠to→bAt bs' j=bAt bs j)∧∃ kn,bAt bs' to=⟨(bAt bs to).wear,kn,seqN bs last,false,2⟩∧As2 (V to) v (bAt bs to) kn (seqN bs last)) ∨
     (e=30∧c'.off=true∧¬ c.after<0∧Later c' n k q.n (upV V to v)∧Atr (V to) v (bAt bs to) (seqN bs last))))
def Ats (n nb k:Nat) (q:Qt) (to:Nat) (V:Nat→Blk) (bs:List LB) (c:Chip) (t1:TS) (c1:Chip) (bs1:List LB) (w:Blk):Prop :=
  bs1.length=nb∧FrA c c1∧DV c1 t1 n k (upV V to w)∧Acc q c1 t1∧w.next=1∧(bAt bs1 to).wear=(bAt bs to).wear∧(∀ j<nb,j≠to→bAt bs1 j=bAt bs j) ∧
    (((bAt bs1 to).known=true∧A9 w 0=I7 (bAt bs to).wear)∨((bAt bs to).ready=true∧(bAt bs1 to).known=(bAt bs to).known∧A9 w 0=A9 (V to) 0))
theorem Avp {v w:Blk} {j:Nat} (h:Rq v w j) (hj:0<j):A9 v 0=A9 w 0∨A9 v 0=Dv (A9 w 0):=by
  have:=h 0 (by omega) hj
  rwa [← Fa (v:=v) (by omega),← Fa (v:=w) (by omega)] at this
theorem Akm (V:Nat→Blk) (b:Nat):upV V b (V b)=V:=by
  funext l
  unfold upV
  split
  · rename_i h;rw [h]
  · rfl
section
variable {d:Dsk} {n k:Nat} {q:Qt} {lg bb nb:Nat} {last:Int} {V:Nat→Blk} {bs:List LB}
theorem Akn (h:DD d n k V) (hk:k≤500000000000) (hq:q.n≤3) (hacc:Acc q d.c d.t.ts) (hnb:nb+6=n) (hl:bs.length=nb) (hlr: -1≤last∧last<nb) (hls:0≤last→(bAt bs last.toNat).seq.toNat≠0)
    (hrdy:∀ b<nb,(bAt bs b).ready=true→(V b).next=1) :
    Does Tryz.prog 153 [ptr lg] ((lg,true,C (lgC d.dk bb nb last) tLg)::(bb,true,C (lbs bs) tLB)::(dkH d++[]))
    (fun v H=>∃ (t':Tab) (c':Chip) (bs':List LB) (last' e:Int),v= .int .i64 e∧H=(lg,true,C (lgC d.dk bb nb last') tLg)::(bb,true,C (lbs bs') tLB)::(dkH ⟨d.dk,t',c'⟩++[])∧Akl n nb (k+60) q V bs last d.c d.t.ts bs' last' e t'.ts c'):=by
  refine Ah (n:=147) Tryz.func153 Tryz.ntmps153 rfl (Nat.le_of_ble_eq_true rfl)<|Ad<|Aa fun ops=>oA rfl<|Ac<|n_K<|Ad<|Aa fun ops=>oA rfl<|Ac<|n_K<|Ad<|Ad<|Aa fun ops=> ?_
  refine oM rfl<|oN rfl<|oF rfl ?_
  refine oR (Al rfl mM rfl) ?_
  refine oR (A7 rfl)<|oM rfl<|Ac<|n_K<|Ak ?_
  have hn40:=h.di.wf.n2
  refine A8 [0,17,18] kQ (fun (st:Nat×Int)=>[(19,.int .i64 st.1),(3,.int .i64 st.2)]) (fun (st:Nat×Int)=>(lg,true,C (lgC d.dk bb nb last) tLg)::(bb,true,C (lbs bs) tLB)::(dkH d++[])) (fun (st:Nat×Int)=>st.1≤nb∧st.2=toU bs st.1) (fun (st:Nat×Int)=>nb - st.1) ((0,-1)) ⟨Nat.zero_le _,rfl⟩ kP sP ?_
  rintro ⟨i,to⟩ ⟨g0,g1⟩
  simp only at g0 g1
  refine Ad<|Aa fun ops=>oR (Ae rfl rfl rfl)<|Ac<|n_K<|Ad ?_
  refine Aj rfl (fun c20=> ?_) (fun c20=> ?_)
  · simp only [decide_eq_true_eq,decide_eq_false_iff_not] at c20
    have hi:i<nb:=(by omega)
    have hgi:bs[i]? =some (bAt bs i):=Ep (by omega)
    have hrg:=Xr bs i
    refine Ai<|n_K<|Ad<|Ak<|Ad<|Aa fun ops=>oM rfl ?_
    refine oR (Cp rfl rfl (by omega)) ?_
    refine oR (Au rfl mM (by simp only [Int.toNat_natCast];exact Pv hgi)) ?_
    refine Aw rfl fun b5=> ?_
    refine oA rfl ?_
    refine Af rfl rfl uD rfl rfl rfl ?_
    refine Ac<|n_K<|Ad ?_
    refine s_draw [(3,27),(6,30)] [(20,[(0,false),(1,false),(2,false),(3,false),(4,false),(5,false),(6,false),(7,false),(8,false),(9,false),(10,false),(11,false),(12,false),(13,false),(14,false),(15,false),(16,false),(17,false),(18,false),(19,false)])] (by kernel_rfl) rfl fun ops w0 H0 y=> ?_
    refine A4<|xF rfl ?_
    refine xR (Al rfl mM rfl) ?_
    refine xR (Ae rfl rfl rfl)<|xM rfl ?_
    refine' Hx (j:=3) (k:=15) y rfl rfl rfl rfl rfl rfl rfl (fun hg27=> ?_) ?_
    rotate_left
    · try (simp at hg27;show _)
      refine x_g y rfl rfl ?_
      refine xM rfl ?_
      refine x_g y rfl rfl ?_
      refine xR (Ae rfl rfl rfl) ?_
      refine x_g y rfl rfl ?_
      refine xM rfl ?_
      refine' Qa (j:=6) (k:=11) y rfl rfl rfl rfl rfl rfl rfl (fun hg30=> ?_) ?_
      rotate_left
      · try (simp at hg30;show _)
        refine x_g y rfl rfl ?_
        refine xF rfl ?_
        refine x_g y rfl rfl ?_
        refine xR (Al rfl mM rfl) ?_
        refine x_g y rfl rfl ?_
        refine xM rfl ?_
        refine x_g y rfl rfl ?_
        refine xN rfl ?_
        refine x_g y rfl rfl ?_
        refine xF rfl ?_
        refine x_g y rfl rfl ?_
        refine xR (Al rfl mM rfl) ?_
        refine x_g y rfl rfl ?_
        refine xM rfl ?_
        refine x_g y rfl rfl ?_
        refine xR (Cp rfl rfl (by omega)) ?_
        refine x_g y rfl rfl ?_
        refine xF rfl ?_
        refine x_g y rfl rfl ?_
        refine xR (show Rd _ _ _ _ (wv (bAt bs to.toNat).wear) from Al rfl mM (Fn (o:=0) (Ep (by omega)) (by omega) rfl)) ?_
        refine x_g y rfl rfl ?_
        refine xR (Ae rfl rfl rfl) ?_
        exact Am ⟨rfl,⟨_,sP⟩⟩
      exact Am ⟨rfl,⟨_,sP⟩⟩
    refine Am<|Bm<|n_K ?_
    refine Aj rfl (fun c43=> ?_) (fun c43=> ?_)
    · simp only [Bool.and_eq_true,Bool.or_eq_true,Bool.and_eq_false_iff,Bool.or_eq_false_iff,decide_eq_true_eq,decide_eq_false_iff_not] at c43
      have hT:(i:Int)=toU bs (i+1):=(by unfold toU;rw [← g1,if_pos ⟨by omega,by rcases c43.2 with h9 | h9;exact .inl h9;exact .inr (by omega)⟩])
      refine Aa fun ops=>oM rfl<|oA rfl<|Ac<|Az<|n_K<|Aa fun ops=> ?_
      refine oR (Ao rfl rfl (by omega)) ?_
      refine oM rfl<|Ac<|n_K ?_
      first | exact ⟨(i+1,(i:Int)),⟨by simp only;omega,hT⟩,by simp only;omega,lZ⟩ | exact ⟨(i+1,to),⟨by simp only;omega,hF⟩,by simp only;omega,lZ⟩
    · simp only [Bool.and_eq_true,Bool.or_eq_true,Bool.and_eq_false_iff,Bool.or_eq_false_iff,decide_eq_true_eq,decide_eq_false_iff_not] at c43
      have hF:to=toU bs (i+1):=(by unfold toU;rw [← g1,if_neg (by rintro ⟨h8,h9⟩;rcases c43 with h7 | ⟨h6,h7⟩;omega;rcases h9 with h9 | h9;exact h6 h9;omega)])
      refine Ai<|Az<|n_K<|Aa fun ops=> ?_
      refine oR (Ao rfl rfl (by omega)) ?_
      refine oM rfl<|Ac<|n_K ?_
      first | exact ⟨(i+1,(i:Int)),⟨by simp only;omega,hT⟩,by simp only;omega,lZ⟩ | exact ⟨(i+1,to),⟨by simp only;omega,hF⟩,by simp only;omega,lZ⟩
  · simp only [decide_eq_true_eq,decide_eq_false_iff_not] at c20
    have hi:i=nb:=(by omega)
    subst hi
    refine Bb<|x_K<|x_K<|Bj<|n_K<|Ad<|Ad<|Aa fun ops=>oM rfl<|oR (Ae rfl rfl rfl)<|Ac<|n_K ?_
    refine Aj rfl (fun c47=> ?_) (fun c47=> ?_)
    · simp only [decide_eq_true_eq,decide_eq_false_iff_not] at c47
      refine Ad<|Aa fun ops=>oA rfl<|Ac<|n_K<|An<|r_K ?_
      exact Av (At Tryz.results153 (Ag rfl)) (by exact ⟨d.t,d.c,bs,last,40,rfl,rfl,.inl ⟨rfl,by omega,rfl,rfl,rfl,rfl⟩⟩) sP
    · simp only [decide_eq_true_eq,decide_eq_false_iff_not] at c47
      obtain ⟨tn,rfl⟩:∃ tn:Nat,to=tn:=⟨to.toNat,by omega⟩
      have hrg:=Xr bs i
      have htn:tn<i:=(by omega)
      have hgt:bs[tn]? =some (bAt bs tn):=Ep (by omega)
      have hfree:(bAt bs tn).seq.toNat=0:=(by rcases Lb bs i with ⟨h9,_⟩ | ⟨l,h9,_,h8,_⟩;omega;(have:tn=l:=by omega);subst this;exact h8)
      refine Ai<|n_K<|Ad<|Aa fun ops=>oM rfl<|oN rfl<|oF rfl ?_
      refine oR (Al rfl mM rfl) ?_
      refine oM rfl ?_
      refine oR (Cp rfl rfl (by omega)) ?_
      refine oA rfl<|Ac<|n_K<|Ad<|Aa fun ops=>oM rfl<|oM rfl ?_
      refine A6 rfl (Akk (d:=d) (bb:=bb) (nb:=i) (last:=last) h (b:=tn) (by omega)) sP rfl aQ ?_
      refine oM rfl<|oE rfl rfl<|oE rfl rfl<|oA rfl<|oA rfl<|Ac<|n_K<|Ad<|Ad<|Aa fun ops=>oM rfl<|oR (Ae rfl rfl rfl)<|Ac<|n_K ?_
      refine Bi rfl ?_
      refine Ai<|n_K ?_
      refine P4 (fun F L=>∃ (t1:Tab) (c1:Chip) (bs1:List LB) (w:Blk),F=[(0,ptr lg),(3,.int .i64 (tn:Nat)),(6,.pointer (some ⟨bb,tn*5,none⟩))]∧L=(lg,true,C (lgC d.dk bb i last) tLg)::(bb,true,C (lbs bs1) tLB)::(dkH ⟨d.dk,t1,c1⟩++[])∧Ats n i (k+40) q tn V bs d.c t1.ts c1 bs1 w) ?_ ?_
      · refine Ad ?_
        refine Bf [(5,68)] rfl fun ops y=> ?_
        refine oM rfl<|oN rfl<|oF rfl ?_
        refine oR (Al rfl mM (by simp only [Int.toNat_natCast];exact Fn (o:=3) hgt (by omega) rfl)) ?_
        refine oR (Bx rfl)<|oM rfl ?_
        refine' Es (j:=5) (k:=2) y rfl rfl rfl rfl rfl rfl rfl (fun hg68=> ?_) ?_
        rotate_left
        · try (simp at hg68;show _)
          refine o_g y rfl rfl ?_
          refine oM rfl ?_
          refine o_g y rfl rfl ?_
          refine oR (Bx rfl) ?_
          exact Ac ⟨rfl,rfl,⟨_,sP⟩⟩
        refine Ac<|n_K ?_
        refine Aj rfl (fun c71=> ?_) (fun c71=> ?_)
        · skip
          refine Ad<|Aa fun ops=>oM rfl<|oN rfl<|oF rfl ?_
          refine oR (Al rfl mM (by simp only [Int.toNat_natCast];exact Fn (o:=0) hgt (by omega) rfl)) ?_
          refine oR (Apw rfl rfl)<|oN rfl<|oF rfl ?_
          refine Af (cs':=lbs (bs.set tn { bAt bs tn with wear:=(bAt bs tn).wear - 1 })) rfl rfl uD rfl rfl (by simp only [Int.toNat_natCast];exact Ek (o:=0) hgt rfl) ?_
          refine Ac<|n_K<|Ad<|Aa fun ops=>oM rfl<|oM rfl ?_
          refine Bd rfl (Nz (d:=d) (bb:=bb) (last:=last) h (by omega) hq hacc (b:=tn) (bs:=bs.set tn { bAt bs tn with wear:=(bAt bs tn).wear - 1 }) hnb (by rw [List.length_set];exact hl) htn) sP rfl fun v81 Y81 h81=> ?_
          obtain ⟨t1,c1,bs1,e9,rfl,rfl,hb1,hF1,w,hW⟩:=h81
          rw [Dq (by omega),if_pos rfl,BitVec.sub_add_cancel] at hW
          refine Ay aQ ?_
          refine oA rfl<|Ac<|n_K<|Ad<|Aa fun ops=>oM rfl<|oR (Ae rfl rfl rfl)<|Ac<|n_K ?_
          refine Aj rfl (fun c83=> ?_) (fun c83=> ?_)
          · skip
            have he9:e9≠0:=(by simpa using c83)
            have hW30:=hW.resolve_left (fun h9=>he9 h9.1)
            refine Ad<|Aa fun ops=>oM rfl<|oA rfl<|Ac<|n_K<|An<|r_K ?_
            exact Av (At Tryz.results153 (Ag rfl)) (by exact ⟨t1,c1,bs1,last,e9,rfl,rfl,.inr ⟨hb1,hF1,tn,w,by omega,.inr ⟨hW30.1,hW30.2.1,hW30.2.2.1,fun d a1 a2 a3 a4=>(by obtain ⟨x0,x1,x2,x3⟩:=hW30.2.2.2.1 d a1 a2 a3 a4;exact ⟨x0,x1,x2.mono (by omega),x3⟩),.inl hW30.2.2.2.2⟩⟩⟩) sP
          · skip
            have he9:e9=0:=(by simpa using c83)
            obtain ⟨_,hD1,hacc1,hbs1,hwn,hw0⟩:=hW.resolve_right (fun h9=>by rw [he9] at h9;exact absurd h9.1 (by decide))
            have hJ1:Ats n i (k+40) q tn V bs d.c t1.ts c1 bs1 w:=⟨hb1,hF1,hD1,hacc1,hwn,by rw [hbs1,List.set_set,Dq (by omega),if_pos rfl];rfl,fun j hj hne=>by rw [hbs1,List.set_set,Dq (by omega),if_neg hne],.inl ⟨by rw [hbs1,List.set_set,Dq (by omega),if_pos rfl];rfl,hw0⟩⟩
            refine Ai<|n_K ?_
            first | exact ⟨_,_,⟨t1,c1,bs1,w,rfl,rfl,hJ1⟩,jZ⟩ | exact ⟨_,_,⟨d.t,d.c,bs,V tn,rfl,rfl,hJ0⟩,jZ⟩
        · skip
          have hrc:(bAt bs tn).ready=true:=(by simp at c71;exact c71.1)
          have hJ0:Ats n i (k+40) q tn V bs d.c d.t.ts d.c bs (V tn):=⟨hl,.refl _,by rw [Akm];exact DV.mono h (by omega),hacc,hrdy tn htn hrc,rfl,fun _ _ _=>rfl,.inr ⟨hrc,rfl,rfl⟩⟩
          refine Ai<|n_K ?_
          first | exact ⟨_,_,⟨t1,c1,bs1,w,rfl,rfl,hJ1⟩,jZ⟩ | exact ⟨_,_,⟨d.t,d.c,bs,V tn,rfl,rfl,hJ0⟩,jZ⟩
      · rintro F L ⟨t1,c1,bs1,w,rfl,rfl,hb1,hF1,hD1,hacc1,hwn,hwear,hoth,hpg⟩
        refine Ad<|Aa fun ops=>oA rfl<|Ac<|n_K ?_
        refine P4 (fun F L=>F=[(0,ptr lg),(3,.int .i64 (tn:Nat)),(6,.pointer (some ⟨bb,tn*5,none⟩)),(10,wv (seqN bs last))]∧L=(lg,true,C (lgC d.dk bb i last) tLg)::(bb,true,C (lbs bs1) tLB)::(dkH ⟨d.dk,t1,c1⟩++[])) ?_ ?_
        · refine Ad<|Aa fun ops=>oM rfl<|oN rfl<|oF rfl ?_
          refine oR (Al rfl mM rfl) ?_
          refine oR (Ae rfl rfl rfl)<|Ac<|n_K ?_
          refine Aj rfl (fun c89=> ?_) (fun c89=> ?_)
          · simp only [decide_eq_true_eq,decide_eq_false_iff_not] at c89
            have hlt:last.toNat≠tn:=(fun e=>by have:=hls c89;rw [e] at this;exact this hfree)
            have hsq:seqN bs last=(bAt bs1 last.toNat).seq+1:=(by unfold seqN;rw [if_neg (by omega),hoth _ (by omega) hlt])
            refine s_draw [] [(13,[(0,false),(1,false),(2,false),(3,false),(4,false),(5,false),(6,false),(7,false),(8,false),(9,false),(10,false),(11,false),(12,false)])] (by kernel_rfl) rfl fun ops w0 H0 y=> ?_
            refine A4<|xM rfl<|xN rfl<|xF rfl ?_
            refine xR (Al rfl mM rfl) ?_
            refine xM rfl<|xN rfl<|xF rfl ?_
            refine xR (Al rfl mM rfl) ?_
            refine xR (Cp rfl rfl (by omega)) ?_
            refine xF rfl ?_
            refine xR (show Rd _ _ _ _ (wv (bAt bs1 last.toNat).seq) from Al rfl mM (Fn (o:=2) (Ep (by omega)) (by omega) rfl)) ?_
            refine xR (Pf rfl rfl)<|xA rfl<|Am<|Bm<|n_K ?_
            exact ⟨_,_,⟨rfl,rfl⟩,by rw [hsq];exact jZ⟩
          · simp only [decide_eq_true_eq,decide_eq_false_iff_not] at c89
            have hsq:seqN bs last=1:=(by unfold seqN;rw [if_pos (by omega)])
            refine Ai<|n_K ?_
            exact ⟨_,_,⟨rfl,rfl⟩,by rw [hsq];exact jZ⟩
        · rintro F L ⟨rfl,rfl⟩
          refine Ad<|Aa fun ops=>oM rfl ?_
          refine Bd rfl (Hr) sP rfl fun v104 Y104 h104=> ?_
          obtain ⟨s104,rfl,rfl,hs104,ho104⟩:=h104
          refine Ay aQ ?_
          refine A5 rfl rfl rfl rfl fun b105=> ?_
          refine A6 rfl ((H9 (kind:=3) (s:=s104) (by rw [hs104,Bo];decide)).to (by rw [hs104,show Bl 8 8=8 from rfl,Su (by decide)]) rfl) sP rfl aQ ?_
          refine oM rfl<|oE rfl rfl<|oE rfl rfl ?_
          refine Aw rfl fun b11=> ?_
          rw [Cs]
          first | refine Af rfl rfl uD (Ct) (Ar) (B2 (by first | exact Ar | exact List.length_replicate ..)) ?_ | refine Af rfl rfl uD rfl rfl rfl ?_
          refine oA rfl<|Ac<|n_K<|Ad<|Aa fun ops=>oM rfl<|oM rfl ?_
          refine oR (Au rfl mM (by first | exact Bg | rfl)) ?_
          refine Bd rfl (Vm (d:=⟨d.dk,t1,c1⟩) (bb:=bb) (nb:=i) (last:=last) hD1 (by omega) hq hacc1 (b:=tn) (j:=1) (p:=Nx (seqN bs last)) (by omega) (by omega)) sP rfl fun v112 Y112 h112=> ?_
          obtain ⟨t2,c2,e,rfl,rfl,hF2,hW⟩:=h112
          obtain ⟨_,v,hv1,hv2,hv3⟩:=hW.resolve_left (fun h9=>h9.2.1 (by rw [E5];exact hwn))
          rw [E5] at hv2
          rw [Pu] at hv3
          have hk0:=Avp hv2 (by omega)
          have he32:e≠32:=(by rcases hv3 with h9 | h9 <;> omega)
          refine Ay aQ ?_
          refine oA rfl<|Ac<|n_K<|Ad<|Ad<|Aa fun ops=>oA rfl<|Ac<|n_K<|Ak ?_
          refine A8 [0,3,6,10] kQ (fun (_u:Unit)=>[(8,.int .i64 e),(13,.int .i64 0)]) (fun (_u:Unit)=>(lg,true,C (lgC d.dk bb i last) tLg)::(bb,true,C (lbs bs1) tLB)::(dkH ⟨d.dk,t2,c2⟩++[])) (fun (_u:Unit)=>True) (fun (_u:Unit)=>0) (()) (by first | trivial | omega | simp) kP sP ?_
          rintro _ _
          refine Ad<|Ad ?_
          refine Bf [(2,115)] rfl fun ops y=> ?_
          refine oM rfl<|oR (Ae rfl rfl rfl)<|oM rfl ?_
          refine' Df (j:=2) (k:=2) y rfl rfl rfl rfl rfl rfl rfl (fun hg115=> ?_) ?_
          rotate_left
          · try (simp at hg115;show _)
            refine o_g y rfl rfl ?_
            refine oM rfl ?_
            refine o_g y rfl rfl ?_
            refine oR (Ae rfl rfl rfl) ?_
            exact Ac ⟨rfl,rfl,⟨_,sP⟩⟩
          refine Ac<|n_K ?_
          refine Aj rfl (fun c118=> ?_) (fun c118=> ?_)
          · skip
            exact absurd (by simp at c118;exact c118) he32
          · skip
            refine Bb<|x_K<|x_K<|Bj<|n_K<|Ad<|Ad<|Aa fun ops=>oM rfl<|oR (Ae rfl rfl rfl)<|Ac<|n_K ?_
            refine Aj rfl (fun c131=> ?_) (fun c131=> ?_)
            · skip
              have he0:e≠0:=(by simpa using c131)
              have hv30:=hv3.resolve_left (fun h9=>he0 h9.1)
              refine Ad<|Aa fun ops=>oM rfl<|oA rfl<|Ac<|n_K<|An<|r_K ?_
              exact Av (At Tryz.results153 (Ag rfl)) (by exact ⟨t2,c2,bs1,last,e,rfl,rfl,.inr ⟨hb1,hF1.trans hF2,tn,v,by omega,.inr ⟨hv30.1,hv30.2.1,fun hp=>hv30.2.2.1 (by rw [(hF1.pos hp).1];exact hp),hv30.2.2.2.2,.inr ⟨hv1,by rcases hpg with ⟨_,h9⟩ | ⟨h8,_,h9⟩;(rw [h9] at hk0;rcases hk0 with h7 | h7;exact .inl h7;exact .inl (by rw [h7,Ih (by decide)]));(rw [h9] at hk0;exact .inr ⟨h8,hk0⟩),hv30.2.2.2.1⟩⟩⟩⟩) sP
            · skip
              have he0:e=0:=(by simpa using c131)
              obtain ⟨_,hD2,hacc2,hp2,_⟩:=hv3.resolve_right (fun h9=>by rw [he0] at h9;exact absurd h9.1 (by decide))
              have hg1:bs1[tn]? =some (bAt bs1 tn):=Ep (by omega)
              have hg2:(bs1.set tn { bAt bs1 tn with seq:=seqN bs last })[tn]? =some { bAt bs1 tn with seq:=seqN bs last }:=(by simp [hb1,htn])
              have hg3:(bs1.set tn { bAt bs1 tn with seq:=seqN bs last,next:=2 })[tn]? =some { bAt bs1 tn with seq:=seqN bs last,next:=2 }:=(by simp [hb1,htn])
              refine Ai<|n_K<|Ad<|Aa fun ops=>oM rfl<|oM rfl<|oM rfl<|oM rfl<|oN rfl<|oF rfl ?_
              first | refine Af (cs':=lbs (bs1.set tn { bAt bs1 tn with seq:=seqN bs last })) rfl rfl uD rfl rfl (Ek (o:=2) hg1 rfl) ?_ | refine Af (cs':=lbs ((bs1.set tn { bAt bs1 tn with seq:=seqN bs last }).set tn { bAt bs1 tn with seq:=seqN bs last,next:=2 })) rfl rfl uD rfl rfl (Ek (o:=4) hg2 rfl) ?_ | (rw [List.set_set];refine Af (cs':=lbs ((bs1.set tn { bAt bs1 tn with seq:=seqN bs last,next:=2 }).set tn { bAt bs1 tn with seq:=seqN bs last,next:=2,ready:=false })) rfl rfl uD rfl rfl (Ek (o:=3) hg3 rfl) ?_)
              refine oN rfl<|oF rfl ?_
              first | refine Af (cs':=lbs (bs1.set tn { bAt bs1 tn with seq:=seqN bs last })) rfl rfl uD rfl rfl (Ek (o:=2) hg1 rfl) ?_ | refine Af (cs':=lbs ((bs1.set tn { bAt bs1 tn with seq:=seqN bs last }).set tn { bAt bs1 tn with seq:=seqN bs last,next:=2 })) rfl rfl uD rfl rfl (Ek (o:=4) hg2 rfl) ?_ | (rw [List.set_set];refine Af (cs':=lbs ((bs1.set tn { bAt bs1 tn with seq:=seqN bs last,next:=2 }).set tn { bAt bs1 tn with seq:=seqN bs last,next:=2,ready:=false })) rfl rfl uD rfl rfl (Ek (o:=3) hg3 rfl) ?_)
              refine oN rfl<|oF rfl ?_
              first | refine Af (cs':=lbs (bs1.set tn { bAt bs1 tn with seq:=seqN bs last })) rfl rfl uD rfl rfl (Ek (o:=2) hg1 rfl) ?_ | refine Af (cs':=lbs ((bs1.set tn { bAt bs1 tn with seq:=seqN bs last }).set tn { bAt bs1 tn with seq:=seqN bs last,next:=2 })) rfl rfl uD rfl rfl (Ek (o:=4) hg2 rfl) ?_ | (rw [List.set_set];refine Af (cs':=lbs ((bs1.set tn { bAt bs1 tn with seq:=seqN bs last,next:=2 }).set tn { bAt bs1 tn with seq:=seqN bs last,next:=2,ready:=false })) rfl rfl uD rfl rfl (Ek (o:=3) hg3 rfl) ?_)
              refine Ac<|n_K<|Ad<|Aa fun ops=>oM rfl<|oM rfl<|oN rfl<|oF rfl ?_
              refine Af rfl rfl uD rfl rfl rfl ?_
              refine Ac<|n_K<|Ad<|Aa fun ops=>oA rfl<|Ac<|n_K<|An ?_
              exact Av (At Tryz.results153 (Ag rfl)) (by exact ⟨t2,c2,bs1.set tn { bAt bs1 tn with seq:=seqN bs last,next:=2,ready:=false },(tn:Int),0,rfl,rfl,.inr ⟨by rw [List.length_set];exact hb1,hF1.trans hF2,tn,v,by omega,.inl ⟨rfl,hD2,hacc2,rfl,fun j hj hne=>by rw [Dq (by omega),if_neg hne];exact hoth j hj hne,(bAt bs1 tn).known,by rw [Dq (by omega),if_pos rfl,← hwear],hv1,hp2,by rcases hpg with ⟨h8,h9⟩ | ⟨h8,h7,h9⟩;(rw [h9] at hk0;rcases hk0 with h6 | h6;exact .inl ⟨h8,h6⟩;exact .inl ⟨h8,by rw [h6,Ih (by decide)]⟩);(rw [h9] at hk0;exact .inr ⟨h8,h7,hk0⟩)⟩⟩⟩) (by rw [List.set_set];exact sP)
end
end
section
open Go.K
instance agg65:Agg Tryz.prog 65 true:=⟨⟨_,Tryz.underlying65,rfl⟩⟩
instance siz65:Siz Tryz.prog 65 2:=⟨by kernel_rfl⟩
instance zer65:Zer Tryz.prog 65 ([.int .i64 0,.int .i64 0]):=⟨by kernel_rfl⟩
instance plc65:Plc Tryz.prog 65 [(0,1),(1,1)]:=⟨⟨_,Tryz.underlying65,fun _=>by kernel_rfl⟩⟩
instance ent112:Ent Tryz.prog 112:=⟨fun _ _=>by kernel_rfl⟩
set_option maxRecDepth 20000
set_option maxHeartbeats 1000000
abbrev tPc:TypeId:=65
def Avq (V:Nat→Blk) (bs:List LB) (nb:Nat):Prop:=∀ b<nb,(bAt bs b).ready=true→(V b).next=1∧(bAt bs b).known=true∧A9 (V b) 0=I7 (bAt bs b).wear
def Xs (V:Nat→Blk) (bs:List LB) (last:Int):Prop:=last<0∨∃ l:Nat,last=l∧∀ m:Nat,(bAt bs l).next≤m→m<8→(V l).next≠m
def Py (bs bs':List LB) (nb:Nat) (last to:Int):Prop:=∀ j<nb,(j:Int)≠to→bAt bs' j=bAt bs j∨(last=j∧bAt bs' j={ bAt bs j with next:=8 })
def Apx (n nb k:Nat) (q:Qt) (V:Nat→Blk) (bs:List LB) (last:Int) (p:Pg) (c:Chip) (t:TS) (bs':List LB) (last' e pb pj:Int) (t':TS) (c':Chip):Prop :=
  (∃ l nx:Nat,last=l∧(bAt bs l).next≤nx∧nx<8∧(V l).next=nx∧FrA c c'∧∃ v:Blk,v.next=((nx+1:Nat):Int)∧Rq v (V l) nx ∧
    ((e=0∧DV c' t' n k (upV V l v)∧Acc q c' t'∧A9 v nx=p∧pb=l∧pj=nx∧last'=last∧bs'=bs.set l { bAt bs l with next:=(nx:Int)+1 }∧(q.n=0→Z4 c c')) ∨
     (e=30∧c'.off=true∧¬ c.after<0∧(∃ m,A9 v nx=Cu m A0 p)∧Later c' n k q.n (upV V l v)))) ∨
  (Xs V bs last∧((e=40∧toU bs nb<0∧t'=t∧c'=c∧last'=last∧bs'.length=nb∧Py bs bs' nb last (-1)) ∨
    (FrA c c'∧bs'.length=nb∧∃ (to:Nat) (v:Blk),toU bs nb=to ∧
      ((e=0∧DV c' t' n k (upV V to v)∧Acc q c' t'∧pb=to∧pj=2∧last'=to∧v.next=3∧A9 v 2=p∧A9 v 1=Nx (seqN bs last)∧A9 v 0=I7 (bAt bs to).wear∧bAt bs' to=⟨(bAt bs to).wear,true,seqN bs last,false,3⟩∧Py bs bs' nb last to) ∨
       (e=30∧c'.off=true∧¬ c.after<0∧Later c' n k q.n (upV V to v)∧(Atr (V to) v (bAt bs to) (seqN bs last)∨(v.next=3∧A9 v 1=Nx (seqN bs last)∧∃ m,A9 v 2=Cu m A0 p)))))))
def bsN (bs:List LB) (last:Int) (nx:Nat):List LB:=if 0≤last then bs.set last.toNat { bAt bs last.toNat with next:=(nx:Int) } else bs
theorem N0 (bs:List LB) (last:Int) (nx:Nat):(bsN bs last nx).length=bs.length:=by unfold bsN;split <;> simp
theorem M2 {bs:List LB} {last:Int} {nx j:Nat} (hl:last<bs.length):bAt (bsN bs last nx) j=if last=j then { bAt bs j with next:=(nx:Int) } else bAt bs j:=by
  unfold bsN
  split
  · rw [Dq (by omega)]
    by_cases e:j=last.toNat
    · rw [if_pos e,if_pos (by omega),e]
    · rw [if_neg e,if_neg (by omega)]
  · rw [if_neg (by omega)]
theorem F0 {bs:List LB} {last:Int} {nx j:Nat} (hl:last<bs.length):(bAt (bsN bs last nx) j).seq=(bAt bs j).seq∧(bAt (bsN bs last nx) j).wear=(bAt bs j).wear∧(bAt (bsN bs last nx) j).ready=(bAt bs j).ready∧(bAt (bsN bs last nx) j).known=(bAt bs j).known:=by
  rw [M2 hl]
  split <;> exact ⟨rfl,rfl,rfl,rfl⟩
theorem Ae3 {bs:List LB} {last:Int} {nx:Nat} (hl:last<bs.length):∀ k,toU (bsN bs last nx) k=toU bs k
  | 0=>rfl
  | k+1=>by
    unfold toU
    rw [Ae3 hl k,(F0 hl).1,(F0 hl).2.1,(F0 hl).2.1]
theorem Ako {bs:List LB} {last:Int} {nx:Nat} (hl:last<bs.length):seqN (bsN bs last nx) last=seqN bs last:=by
  unfold seqN
  rw [(F0 hl).1]
theorem Ae4 {bs:List LB} {l nx:Nat} (m:Int) (hl:l<bs.length):(bsN bs l nx).set l { bAt (bsN bs l nx) l with next:=m }=bs.set l { bAt bs l with next:=m }:=by
  rw [M2 (by omega),if_pos rfl]
  unfold bsN
  rw [if_pos (by omega),Int.toNat_natCast,List.set_set]
def Ahh (n nb k:Nat) (q:Qt) (V:Nat→Blk) (bs:List LB) (last:Int) (nx:Nat) (c:Chip) (t:TS) (t1:TS) (c1:Chip) (bs1:List LB) (bn jn:Nat) (V1:Nat→Blk):Prop :=
  bs1.length=nb∧FrA c c1∧DV c1 t1 n k V1∧Acc q c1 t1∧bn<nb∧jn<8∧(bAt bs1 bn).next=jn ∧
  ((last=bn∧jn=nx∧t1=t∧c1=c∧bs1=bsN bs last nx∧V1=V) ∨
   (Xs V bs last∧jn=2∧toU bs nb=bn∧bAt bs1 bn=⟨(bAt bs bn).wear,true,seqN bs last,false,2⟩∧Py bs bs1 nb last bn∧∃ w,V1=upV V bn w∧w.next=2∧A9 w 1=Nx (seqN bs last)∧A9 w 0=I7 (bAt bs bn).wear))
theorem Akp {v w:Blk} {j i:Nat} (h:Rq v w j) (hi:i<j) (h8:i<8):A9 v i=A9 w i∨A9 v i=Dv (A9 w i):=by
  have:=h i h8 hi
  rwa [← Fa (v:=v) h8,← Fa (v:=w) h8] at this
section
variable {n nb k:Nat} {q:Qt} {nx bn jn:Nat} {V V1:Nat→Blk} {bs bs1:List LB} {last e:Int} {c c1 c2:Chip} {t t1 t2:TS} {p:Pg}
theorem Att (hl:bs.length=nb) (hJ:Ahh n nb (k+60) q V bs last nx c t t1 c1 bs1 bn jn V1) (g1:0≤last→(bAt bs last.toNat).next≤nx) (hW:Xq n (k+60+20) q V1 bn jn p c1 t1 0 t2 c2) :
    Apx n nb (k+80) q V bs last p c t (bs1.set bn { bAt bs1 bn with next:=(jn:Int)+1 }) bn 0 bn jn t2 c2:=by
  obtain ⟨hb1,hF1,hD1,hacc1,hbn,hjn,hnx,hph⟩:=hJ
  obtain ⟨hF2,hW⟩:=hW
  obtain ⟨hn2,v,hv1,hv2,hv3⟩:=hW.resolve_left (fun h9=>absurd h9.1 (by decide))
  obtain ⟨_,hD2,hacc2,hp,haf⟩:=hv3.resolve_right (fun h9=>absurd h9.1 (by decide))
  rcases hph with ⟨h1,rfl,rfl,rfl,rfl,rfl⟩ | ⟨h1,rfl,h2,h3,h4,w,rfl,h5,h6,h7⟩
  · subst h1
    have hg:=g1 (by omega)
    rw [Int.toNat_natCast] at hg
    exact .inl ⟨bn,jn,rfl,hg,hjn,hn2,hF2,v,hv1,hv2,.inl ⟨rfl,hD2,hacc2,hp,rfl,rfl,rfl,Ae4 _ (by omega),haf⟩⟩
  · rw [E5] at hv2
    rw [Pu] at hD2
    have k0:=Akp hv2 (i:=0) (by omega) (by omega)
    have k1:=Akp hv2 (i:=1) (by omega) (by omega)
    rw [h7,Ih (by decide)] at k0
    rw [h6,Ih (by decide)] at k1
    refine .inr ⟨h1,.inr ⟨hF1.trans hF2,by rw [List.length_set];exact hb1,bn,v,h2,.inl ⟨rfl,hD2,hacc2,rfl,rfl,rfl,hv1,hp,by rcases k1 with e | e <;> exact e,by rcases k0 with e | e <;> exact e,?_,fun j hj hne=> ?_⟩⟩⟩
    · rw [Dq (by omega),if_pos rfl,h3]
      rfl
    · rw [Dq (by omega),if_neg (by omega)]
      exact h4 j hj hne
theorem Akq (hl:bs.length=nb) (hJ:Ahh n nb (k+60) q V bs last nx c t t1 c1 bs1 bn jn V1) (g1:0≤last→(bAt bs last.toNat).next≤nx) (hW:Xq n (k+60+20) q V1 bn jn p c1 t1 e t2 c2) (h0:e≠0) (h32:e≠32) :
    Apx n nb (k+80) q V bs last p c t bs1 bn e 0 0 t2 c2:=by
  obtain ⟨hb1,hF1,hD1,hacc1,hbn,hjn,hnx,hph⟩:=hJ
  obtain ⟨hF2,hW⟩:=hW
  obtain ⟨hn2,v,hv1,hv2,hv3⟩:=hW.resolve_left (fun h9=>h32 h9.1)
  obtain ⟨r1,r2,r3,r4,r5⟩:=hv3.resolve_left (fun h9=>h0 h9.1)
  rcases hph with ⟨h1,rfl,rfl,rfl,rfl,rfl⟩ | ⟨h1,rfl,h2,h3,h4,w,rfl,h5,h6,h7⟩
  · subst h1
    have hg:=g1 (by omega)
    rw [Int.toNat_natCast] at hg
    exact .inl ⟨bn,jn,rfl,hg,hjn,hn2,hF2,v,hv1,hv2,.inr ⟨r1,r2,r3,r4,r5⟩⟩
  · rw [E5] at hv2
    rw [Pu] at r5
    have k1:=Akp hv2 (i:=1) (by omega) (by omega)
    rw [h6,Ih (by decide)] at k1
    exact .inr ⟨h1,.inr ⟨hF1.trans hF2,hb1,bn,v,h2,.inr ⟨r1,r2,fun hp=>r3 (by rw [(hF1.pos hp).1];exact hp),r5,.inr ⟨hv1,by rcases k1 with e | e <;> exact e,r4⟩⟩⟩⟩
theorem Akr (hl:bs.length=nb) (hJ:Ahh n nb (k+60) q V bs last nx c t t1 c1 bs1 bn jn V1) (hW:Xq n (k+60+20) q V1 bn jn p c1 t1 32 t2 c2) :
    last=bn∧jn=nx∧(V bn).next≠nx∧t2=t∧c2=c∧bs1.set bn { bAt bs1 bn with next:=(jn:Int)+1 }=bsN bs last (nx+1):=by
  obtain ⟨hb1,hF1,hD1,hacc1,hbn,hjn,hnx,hph⟩:=hJ
  obtain ⟨hF2,hW⟩:=hW
  rcases hW with ⟨_,hn2,rfl,rfl⟩ | ⟨_,v,_,_,hv3⟩
  · rcases hph with ⟨h1,rfl,rfl,rfl,rfl,rfl⟩ | ⟨h1,rfl,h2,h3,h4,w,rfl,h5,h6,h7⟩
    · subst h1
      refine ⟨rfl,rfl,hn2,rfl,rfl,?_⟩
      rw [Ae4 _ (by omega)]
      unfold bsN
      rw [if_pos (by omega),Int.toNat_natCast]
      congr 2
    · rw [E5,h5] at hn2
      exact absurd rfl hn2
  · rcases hv3 with h9 | h9
    · exact absurd h9.1 (by decide)
    · exact absurd h9.1 (by decide)
end
section
variable {d:Dsk} {n k:Nat} {q:Qt} {lg bb nb:Nat} {last:Int} {V:Nat→Blk} {bs:List LB}
theorem Ac5 (h:DD d n k V) (hk:k≤400000000000) (hq:q.n≤3) (hacc:Acc q d.c d.t.ts) (hnb:nb+6=n) (hl:bs.length=nb) (hlr: -1≤last∧last<nb)
    (hls:0≤last→(bAt bs last.toNat).seq.toNat≠0∧2≤(bAt bs last.toNat).next∧(bAt bs last.toNat).next≤8) (hrdy:Avq V bs nb) {kind:By} {qs:Sl (Sl By)} (hj:(Bq qs.list).length≤70000000000000) :
    Does Tryz.prog 112 [ptr lg,bv kind,qs.val] ((lg,true,C (lgC d.dk bb nb last) tLg)::(bb,true,C (lbs bs) tLB)::(dkH d++(qs.hp tSB++(Dh qs.list++[]))))
    (fun v H=>∃ (t':Tab) (c':Chip) (bs':List LB) (last' e pb pj:Int),v= .tuple #[.agg #[.int .i64 pb,.int .i64 pj],.int .i64 e]∧H=(lg,true,C (lgC d.dk bb nb last') tLg)::(bb,true,C (lbs bs') tLB)::(dkH ⟨d.dk,t',c'⟩++[]) ∧
      (((kind.toNat≤3∨C6 kind (Bq qs.list)=true)∧e=1∧pb=0∧pj=0∧t'=d.t∧c'=d.c∧bs'=bs∧last'=last) ∨
       (3<kind.toNat∧C6 kind (Bq qs.list)=false∧Apx n nb (k+80) q V bs last (Cw kind (Bq qs.list)) d.c d.t.ts bs' last' e pb pj t'.ts c'))):=by
  have hn40:=h.di.wf.n2
  refine Ah (n:=100) Tryz.func112 Tryz.ntmps112 rfl (Nat.le_of_ble_eq_true rfl)<|Ad<|Aa fun ops=> ?_
  refine Aw rfl fun b6=> ?_
  refine oA rfl<|Ac<|n_K<|Ad<|Aa fun ops=>oM rfl<|oM rfl ?_
  refine A6 rfl (M1 (kind:=kind) (q:=qs) hj) sP rfl aQ ?_
  refine oM rfl<|oE rfl rfl<|oE rfl rfl ?_
  refine Aw rfl fun b8=> ?_
  rw [Cs]
  first | refine Af rfl rfl uD (Ct) (Ar) (B2 (by first | exact Ar | exact List.length_replicate ..)) ?_ | refine Af rfl rfl uD rfl rfl rfl ?_
  refine oA rfl<|Ac<|n_K<|Ad<|Ad ?_
  refine Bf [(2,22)] rfl fun ops y=> ?_
  refine oM rfl<|oR (Ae rfl rfl rfl)<|oM rfl ?_
  refine' Es (j:=2) (k:=2) y rfl rfl rfl rfl rfl rfl rfl (fun hg22=> ?_) ?_
  rotate_left
  · try (simp at hg22;show _)
    refine o_g y rfl rfl ?_
    refine oM rfl ?_
    refine o_g y rfl rfl ?_
    refine oR (Ae rfl rfl rfl) ?_
    exact Ac ⟨rfl,rfl,⟨_,sP⟩⟩
  refine Ac<|n_K ?_
  refine Aj rfl (fun c25=> ?_) (fun c25=> ?_)
  · skip
    have hbad:kind.toNat≤3∨C6 kind (Bq qs.list)=true:=(by simp at c25;rcases c25 with h9 | h9;exact .inl (by omega);right;cases hw:C6 kind (Bq qs.list);(exfalso;apply h9;unfold C3;rw [hw];rfl);rfl)
    refine Ad<|Aa fun ops=>oR (Bc rfl rfl) ?_
    refine Af rfl rfl uD rfl rfl rfl ?_
    refine oA rfl<|Ac<|n_K<|An<|r_K ?_
    exact Av (Bz Tryz.results112 (Bv rfl mM rfl) (Ag rfl)) (by exact ⟨d.t,d.c,bs,last,1,0,0,rfl,rfl,.inl ⟨hbad,rfl,rfl,rfl,rfl,rfl,rfl,rfl⟩⟩) sP
  · skip
    have hgood:3<kind.toNat∧C6 kind (Bq qs.list)=false:=(by simp at c25;refine ⟨by omega,?_⟩;cases hw:C6 kind (Bq qs.list);rfl;(exfalso;have h9:=c25.2;unfold C3 at h9;rw [hw] at h9;simp at h9))
    have hwf:(C3 kind (Bq qs.list)).1=Cw kind (Bq qs.list):=(by unfold C3;rw [hgood.2];rfl)
    obtain ⟨x0,hx0⟩:∃ x0:Nat,x0≤8∧(0≤last→(bAt bs last.toNat).next=x0):=(by by_cases h9:0≤last;(have:=hls h9;exact ⟨(bAt bs last.toNat).next.toNat,by omega,fun _=>by omega⟩);exact ⟨0,by omega,fun h8=>absurd h8 h9⟩)
    have hbs0:bsN bs last x0=bs:=(by apply Akh (N0 ..);intro j hj9;rw [M2 (by omega)];split;(rename_i h9;have h8:=hx0.2 (by omega);rw [show last.toNat=j by omega] at h8;rw [← h8]);rfl)
    refine Ai<|n_K<|Ak ?_
    refine A8 [0,6,8] kQ (fun (st:Nat×Tab)=>[]) (fun (st:Nat×Tab)=>(b8,true,C (vbc (Cw kind (Bq qs.list))) tPg)::(b6,true,C [.int .i64 0,.int .i64 0] tPc)::(lg,true,C (lgC d.dk bb nb last) tLg)::(bb,true,C (lbs (bsN bs last st.1)) tLB)::(dkH ⟨d.dk,st.2,d.c⟩++[])) (fun (st:Nat×Tab)=>st.1≤8∧(0≤last→(bAt bs last.toNat).next≤st.1)∧(∀ m:Nat,0≤last→(bAt bs last.toNat).next≤m→m<st.1→(V last.toNat).next≠m)∧st.2.ts=d.t.ts) (fun (st:Nat×Tab)=>8 - st.1) ((x0,d.t)) ⟨hx0.1,fun h9=>by rw [hx0.2 h9];exact Int.le_refl _,fun m h9 h8 h7=>by rw [hx0.2 h9] at h8;simp only at h7;omega,rfl⟩ kP (by rw [hbs0,← hwf];exact sP) ?_
    rintro ⟨nx,t0⟩ ⟨g0,g1,g2,g3⟩
    simp only at g0 g1 g2 g3
    have h':DD ⟨d.dk,t0,d.c⟩ n k V:=(by show DV d.c t0.ts n k V;rw [g3];exact h)
    have hacc':Acc q d.c t0.ts:=(by rw [g3];exact hacc)
    refine Ak ?_
    refine P4 (fun F L=>∃ (t1:Tab) (c1:Chip) (bs1:List LB) (bn jn:Nat) (V1:Nat→Blk),F=[(0,ptr lg),(6,ptr b6),(8,ptr b8)]∧L=(b8,true,C (vbc (Cw kind (Bq qs.list))) tPg)::(b6,true,C [.int .i64 0,.int .i64 0] tPc)::(lg,true,C (lgC d.dk bb nb (bn:Nat)) tLg)::(bb,true,C (lbs bs1) tLB)::(dkH ⟨d.dk,t1,c1⟩++[])∧Ahh n nb (k+60) q V bs last nx d.c d.t.ts t1.ts c1 bs1 bn jn V1) ?_ ?_
    · refine Ad ?_
      refine s_draw [(5,32)] [(19,[(0,false),(1,false),(2,false),(3,false),(4,false),(5,false),(6,false),(7,false),(8,false),(9,false),(10,false),(11,false),(12,false),(13,false),(14,false),(15,false),(16,false),(17,false),(18,false)])] (by kernel_rfl) rfl fun ops w0 H0 y=> ?_
      refine A4<|xM rfl<|xN rfl<|xF rfl ?_
      refine xR (Al rfl mM rfl) ?_
      refine xR (Ae rfl rfl rfl)<|xM rfl ?_
      refine' Qa (j:=5) (k:=12) y rfl rfl rfl rfl rfl rfl rfl (fun hg32=> ?_) ?_
      rotate_left
      · try (simp at hg32;show _)
        refine x_g y rfl rfl ?_
        refine xM rfl ?_
        refine x_g y rfl rfl ?_
        refine xN rfl ?_
        refine x_g y rfl rfl ?_
        refine xF rfl ?_
        refine x_g y rfl rfl ?_
        refine xR (Al rfl mM rfl) ?_
        refine x_g y rfl rfl ?_
        refine xM rfl ?_
        refine x_g y rfl rfl ?_
        refine xN rfl ?_
        refine x_g y rfl rfl ?_
        refine xF rfl ?_
        refine x_g y rfl rfl ?_
        refine xR (Al rfl mM rfl) ?_
        refine x_g y rfl rfl ?_
        refine xR (Cp rfl rfl (by omega)) ?_
        refine x_g y rfl rfl ?_
        refine xF rfl ?_
        refine x_g y rfl rfl ?_
        refine xR (show Rd _ _ _ _ (.int .i64 (nx:Nat)) from Al rfl mM (Fn (o:=4) (x:={ bAt bs last.toNat with next:=(nx:Int) }) (by rw [Ep (by rw [N0];omega),M2 (by omega),if_pos (by omega)]) (by omega) rfl)) ?_
        refine x_g y rfl rfl ?_
        refine xR (Ae rfl rfl rfl) ?_
        exact Am ⟨rfl,⟨_,sP⟩⟩
      refine Am<|Bm<|n_K ?_
      refine Aj rfl (fun c45=> ?_) (fun c45=> ?_)
      · simp only [Bool.or_eq_true,Bool.or_eq_false_iff,decide_eq_true_eq,decide_eq_false_iff_not] at c45
        have hNR:Xs V bs last:=(by rcases c45 with h9 | h9;exact .inl h9;by_cases h8:last<0;exact .inl h8;exact .inr ⟨last.toNat,by omega,fun m h7 h6=>g2 m (by omega) h7 (by omega)⟩)
        refine Ad<|Aa fun ops=>oM rfl ?_
        refine Bd rfl (Akn (d:=⟨d.dk,t0,d.c⟩) (bb:=bb) (last:=last) (bs:=bsN bs last nx) h' (by omega) hq hacc' hnb (by rw [N0];exact hl) hlr (fun h9=>by rw [(F0 (by omega)).1];exact (hls h9).1) (fun b hb hr=>(hrdy b hb (by rw [(F0 (by omega)).2.2.1] at hr;exact hr)).1)) sP rfl fun v47 Y47 h47=> ?_
        obtain ⟨t1,c1,bs1,last1,e1,rfl,rfl,hB⟩:=h47
        unfold Akl at hB
        rw [Ae3 (by omega),Ako (by omega)] at hB
        simp only at hB
        rw [g3] at hB
        refine Ay aQ ?_
        refine oA rfl<|Ac<|n_K<|Ad<|Aa fun ops=>oM rfl<|oR (Ae rfl rfl rfl)<|Ac<|n_K ?_
        refine Aj rfl (fun c49=> ?_) (fun c49=> ?_)
        · skip
          have he1:e1≠0:=(by simpa using c49)
          refine Ad<|Aa fun ops=>oR (Bc rfl rfl)<|oM rfl ?_
          refine Af rfl rfl uD rfl rfl rfl ?_
          refine oA rfl<|Ac<|n_K<|An<|r_K<|Bn<|r_K<|Bn ?_
          exact Av (Bz Tryz.results112 (Bv rfl mM rfl) (Ag rfl)) (by exact ⟨t1,c1,bs1,last1,e1,0,0,rfl,rfl,.inr ⟨hgood.1,hgood.2,.inr ⟨hNR,by rcases hB with ⟨h9,h8,h7,h6,h5,h4⟩ | ⟨h9,h8,tn,w,h7,h6⟩;(exact .inl ⟨h9,h8,h5,h4,h6,by rw [h7,N0];exact hl,fun j hj9 hne=>by rw [h7,M2 (by omega)];split;(rename_i h3;by_cases h2:nx=8;(subst h2;exact .inr ⟨h3,rfl⟩);(exfalso;rcases c45 with h0 | h0 <;> omega));exact .inl rfl⟩);(obtain ⟨r1,r2,r3,r4,r5⟩:=h6.resolve_left (fun h5=>he1 h5.1);exact .inr ⟨h8,h9,tn,w,h7,.inr ⟨r1,r2,r3,fun d a1 a2 a3 a4=>(by obtain ⟨x0,x1,x2,x3⟩:=r4 d a1 a2 a3 a4;exact ⟨x0,x1,x2.mono (by omega),x3⟩),.inl (by unfold Atr at r5 ⊢;rw [(F0 (by omega)).2.1,(F0 (by omega)).2.2.1] at r5;exact r5)⟩⟩)⟩⟩⟩) sP
        · skip
          have he1:e1=0:=(by simpa using c49)
          have hB2:=hB.resolve_left (fun h9=>by rw [he1] at h9;exact absurd h9.1 (by decide))
          obtain ⟨hb1,hF1,tn,w,htn,hB3⟩:=hB2
          obtain ⟨_,hD1,hacc1,rfl,hoth,kn,hbt,hbg⟩:=hB3.resolve_right (fun h9=>by rw [he1] at h9;exact absurd h9.1 (by decide))
          have htl:tn<nb:=(by have:=Xr bs nb;omega)
          have hp0:kn=true∧A9 w 0=I7 (bAt bs tn).wear:=(by unfold As2 at hbg;rw [(F0 (by omega)).2.1,(F0 (by omega)).2.2.1,(F0 (by omega)).2.2.2] at hbg;rcases hbg.2.2 with h9 | ⟨h9,h8,h7⟩;exact h9;(obtain ⟨_,h6,h5⟩:=hrdy tn htl h9;refine ⟨h8.trans h6,?_⟩;rw [h5] at h7;rcases h7 with h7 | h7;exact h7;rw [h7,Ih (by decide)]))
          have hbt2:bAt bs1 tn=⟨(bAt bs tn).wear,true,seqN bs last,false,2⟩:=(by rw [hbt,hp0.1,(F0 (by omega)).2.1])
          have hoB:Py bs bs1 nb last tn:=(fun j hj9 hne=>by rw [hoth j hj9 (by omega),M2 (by omega)];split;(rename_i h9;by_cases h8:nx=8;(subst h8;exact .inr ⟨h9,rfl⟩);(exfalso;rcases c45 with h7 | h7 <;> omega));exact .inl rfl)
          have hJB:Ahh n nb (k+60) q V bs last nx d.c d.t.ts t1.ts c1 bs1 tn 2 (upV V tn w):=⟨hb1,hF1,hD1,hacc1,htl,by omega,by rw [hbt2];rfl,.inr ⟨hNR,rfl,htn,hbt2,hoB,w,rfl,hbg.1,hbg.2.1,hp0.2⟩⟩
          refine Ai<|n_K ?_
          first | exact ⟨_,_,⟨t1,c1,bs1,tn,2,upV V tn w,rfl,rfl,hJB⟩,jZ⟩ | exact ⟨_,_,⟨t0,d.c,bsN bs last nx,l,nx,V,rfl,rfl,hJA⟩,(by rw [← hll];exact jZ)⟩
      · simp only [Bool.or_eq_true,Bool.or_eq_false_iff,decide_eq_true_eq,decide_eq_false_iff_not] at c45
        obtain ⟨l,hll⟩:∃ l:Nat,last=l:=⟨last.toNat,by omega⟩
        have hJA:Ahh n nb (k+60) q V bs last nx d.c d.t.ts t0.ts d.c (bsN bs last nx) l nx V:=⟨by rw [N0];exact hl,.refl _,DV.mono h' (by omega),hacc',by omega,by omega,by rw [M2 (by omega),if_pos hll],.inl ⟨hll,rfl,g3,rfl,rfl,rfl⟩⟩
        refine Ai<|n_K ?_
        first | exact ⟨_,_,⟨t1,c1,bs1,tn,2,upV V tn w,rfl,rfl,hJB⟩,jZ⟩ | exact ⟨_,_,⟨t0,d.c,bsN bs last nx,l,nx,V,rfl,rfl,hJA⟩,(by rw [← hll];exact jZ)⟩
    · rintro F L ⟨t1,c1,bs1,bn,jn,V1,rfl,rfl,hJ⟩
      obtain ⟨hb1,hF1,hD1,hacc1,hbn,hjn,hnx,hph⟩:=id hJ
      refine Ad ?_
      refine s_draw [] [(10,[(0,false),(1,false),(2,false),(3,false),(4,false),(5,false),(6,false),(7,false),(8,false),(9,false)])] (by kernel_rfl) rfl fun ops w0 H0 y=> ?_
      refine A4<|xM rfl<|xN rfl<|xF rfl ?_
      refine xR (Al rfl mM rfl) ?_
      refine xM rfl<|xN rfl<|xF rfl ?_
      refine xR (Al rfl mM rfl) ?_
      refine xR (Cp rfl rfl (by omega)) ?_
      refine xA rfl<|Am<|Bm<|n_K<|Ad<|Aa fun ops=>oM rfl<|oN rfl<|oF rfl ?_
      refine oR (show Rd _ _ _ _ (.int .i64 (jn:Nat)) from (by rw [← hnx];exact Al rfl mM (by simp only [Int.toNat_natCast];exact Fn (o:=4) (Ep (by omega)) (by omega) rfl))) ?_
      refine oA rfl<|Ac<|n_K<|Ad ?_
      refine s_draw [] [(7,[(0,false),(1,false),(2,false),(3,false),(4,false),(5,false),(6,false)]),(8,[(7,true)]),(9,[(8,false)])] (by kernel_rfl) rfl fun ops w0 H0 y=> ?_
      refine A4<|xM rfl<|xM rfl<|xN rfl<|xF rfl ?_
      refine xR (Al rfl mM rfl) ?_
      refine xM rfl ?_
      refine xR (Au rfl mM (by first | exact Bg | rfl)) ?_
      refine Am<|Bh<|Be ?_
      refine Bd rfl (Vm (d:=⟨d.dk,t1,c1⟩) (bb:=bb) (nb:=nb) (last:=(bn:Nat)) hD1 (by omega) hq hacc1 (b:=bn) (j:=jn) (p:=Cw kind (Bq qs.list)) (by omega) hjn) sP rfl fun v72 Y72 h72=> ?_
      obtain ⟨t2,c2,e,rfl,rfl,hW⟩:=h72
      have hgb:bs1[bn]? =some (bAt bs1 bn):=Ep (by omega)
      refine Ay aQ ?_
      refine Ac ⟨rfl,⟨_,sP⟩,?_⟩
      refine Am<|A4<|xA rfl<|Am<|Bm<|n_K<|Ad<|Aa fun ops=>oM rfl<|Ac<|n_K<|Ak<|Ad<|Aa fun ops=> ?_
      refine oR (Ae rfl rfl rfl)<|oA rfl<|Ac<|n_K ?_
      refine Aj rfl (fun c76=> ?_) (fun c76=> ?_)
      · skip
        have he0:e=0:=(by simpa using c76)
        subst he0
        have hA:=Att hl hJ g1 hW
        refine Ad<|Aa fun ops=>oM rfl<|oN rfl<|oF rfl ?_
        refine oR (show Rd _ _ _ _ (.int .i64 (jn:Nat)) from (by rw [← hnx];exact Al rfl mM (Fn (o:=4) hgb (by omega) rfl))) ?_
        refine oR (Ao rfl rfl (by omega)) ?_
        refine oN rfl<|oF rfl ?_
        refine Af (cs':=lbs (bs1.set bn { bAt bs1 bn with next:=(jn:Int)+1 })) rfl rfl uD rfl rfl (Ek (o:=4) hgb rfl) ?_
        refine Ac<|n_K<|Ad<|Aa fun ops=>oM rfl<|oN rfl<|oF rfl ?_
        refine oR (Al rfl mM rfl) ?_
        refine oM rfl<|oR (Bc rfl rfl) ?_
        refine Af rfl rfl uD rfl rfl rfl ?_
        refine oA rfl<|Ac<|n_K<|An<|Bn<|Bn<|r_K<|Bn ?_
        exact Av (Bz Tryz.results112 (Bv rfl mM rfl) (Ag rfl)) (by exact ⟨t2,c2,_,_,0,bn,jn,rfl,rfl,.inr ⟨hgood.1,hgood.2,hA⟩⟩) sP
      · skip
        have he0:e≠0:=(by simpa using c76)
        refine Ad<|Aa fun ops=>oR (Ae rfl rfl rfl)<|oA rfl<|Ac<|n_K ?_
        refine Aj rfl (fun c91=> ?_) (fun c91=> ?_)
        · skip
          have he32:e=32:=(by simpa using c91)
          subst he32
          obtain ⟨s1,s2,s3,s4,s5,s6⟩:=Akr hl hJ hW
          refine Aa fun ops=>oM rfl<|oN rfl<|oF rfl ?_
          refine oR (show Rd _ _ _ _ (.int .i64 (jn:Nat)) from (by rw [← hnx];exact Al rfl mM (Fn (o:=4) hgb (by omega) rfl))) ?_
          refine oR (Ao rfl rfl (by omega)) ?_
          refine oN rfl<|oF rfl ?_
          refine Af (cs':=lbs (bs1.set bn { bAt bs1 bn with next:=(jn:Int)+1 })) rfl rfl uD rfl rfl (Ek (o:=4) hgb rfl) ?_
          refine Ac<|Az<|Az<|n_K ?_
          exact ⟨(nx+1,t2),⟨by simp only;omega,fun h9=>(by simp only;have:=g1 h9;omega),fun m h9 h8 h7=>(by by_cases e9:m=nx;(subst e9;rw [s1,Int.toNat_natCast];exact s3);exact g2 m h9 h8 (by simp only at h7;omega)),s4⟩,(by simp only;omega),kP,kP,_,(by simp only;rw [← s6,← s5,s1];exact sP)⟩
        · skip
          have he32:e≠32:=(by simpa using c91)
          have hA:=Akq hl hJ g1 hW he0 he32
          refine Ad<|Aa fun ops=>oR (Bc rfl rfl)<|oM rfl ?_
          refine Af rfl rfl uD rfl rfl rfl ?_
          refine oA rfl<|Ac<|n_K<|An<|Bn<|Bn<|r_K<|Bn ?_
          exact Av (Bz Tryz.results112 (Bv rfl mM rfl) (Ag rfl)) (by exact ⟨t2,c2,bs1,_,e,0,0,rfl,rfl,.inr ⟨hgood.1,hgood.2,hA⟩⟩) sP
end
end
section
open Go.K
instance fld65_0:Fld Tryz.prog 65 0 0:=⟨⟨_,_,0,Tryz.underlying65,rfl,by kernel_rfl,rfl⟩⟩
instance fld65_1:Fld Tryz.prog 65 1 1:=⟨⟨_,_,0,Tryz.underlying65,rfl,by kernel_rfl,rfl⟩⟩
instance ent33:Ent Tryz.prog 33:=⟨fun _ _=>by kernel_rfl⟩
instance ent61:Ent Tryz.prog 61:=⟨fun _ _=>by kernel_rfl⟩
set_option maxRecDepth 20000
set_option maxHeartbeats 1000000
def Eb (p:Pg):By×List By×Int×Int:=if (Cg p).2.2.2=0∧(Cg p).1.toNat≤3 then (0,[],0,20) else Cg p
section
variable {d:Dsk} {n k:Nat} {q:Qt} {lg bb nb:Nat} {last:Int} {V:Nat→Blk} {bs:List LB}
theorem Aks (h:DD d n k V) {b j:Nat} (hb:b+6<n) (hj:j<8):Does Tryz.prog 61 [ptr lg,.agg #[.int .i64 (b:Nat),.int .i64 (j:Nat)]] ((lg,true,C (lgC d.dk bb nb last) tLg)::(dkH d++[]))
  (fun v H=>∃ s:Sl By,v= .tuple #[bv (Eb (A9 (V b) j)).1,s.val,.int .i64 (Eb (A9 (V b) j)).2.2.1,.int .i64 (Eb (A9 (V b) j)).2.2.2]∧H=s.hp tU8++((lg,true,C (lgC d.dk bb nb last) tLg)::(dkH d++[]))∧s.list=(Eb (A9 (V b) j)).2.1∧s.isOwn=true):=by
 have hrd:=Ii h hb hj
 refine Ah (n:=45) Tryz.func61 Tryz.ntmps61 rfl (Nat.le_of_ble_eq_true rfl)<|Ad<|Aa fun ops=> ?_
 refine De rfl rfl fun b3=> ?_
 refine oA rfl<|oA rfl<|oA rfl<|oA rfl<|Ac<|n_K<|Ad ?_
 refine N7 [] [(14,(.fork [(0,false),(1,false),(2,false),(3,false),(4,false),(5,false),(6,false),(7,false)] 8 (.one [(9,false),(10,false),(11,false),(12,true),(13,true)]) 12 (.one [(8,true),(9,false),(10,false),(11,false),(13,true)]))),(15,(.one [(14,false)]))] (by kernel_rfl) rfl fun ops w0 H0 y=> ?_
 refine Le ?_
 refine Lf ?_ rfl
 refine xM rfl<|xN rfl<|xF rfl ?_
 refine xR (Al rfl mM rfl) ?_
 refine xF rfl ?_
 refine xR (Al rfl mM rfl) ?_
 refine xF rfl ?_
 refine xR (Al rfl mM rfl) ?_
 refine Am ⟨⟨_,sP⟩,?_,?_⟩
 refine Be ?_
 refine A6 rfl ((I6 (d:=d) (b:=(b:Nat)) (k:=(j:Nat))).to (by rw [hrd.1,hrd.2]) rfl) sP rfl aQ ?_
 refine Ac ⟨rfl,⟨_,sP⟩,?_⟩
 refine Am ?_
 refine G1 ?_
 refine xM rfl<|xE rfl rfl<|xE rfl rfl<|Be ?_
 refine Aw rfl fun b8=> ?_
 rw [Cs]
 refine Ac ⟨rfl,⟨_,sP⟩,?_⟩
 refine Be ?_
 first | refine Af rfl rfl uD (Ct) (Ar) (B2 (by first | exact Ar | exact List.length_replicate ..)) ?_ | refine Af rfl rfl uD rfl rfl rfl ?_
 refine Ac ⟨rfl,⟨_,sP⟩,?_⟩
 refine Am ?_
 rotate_left
 refine Be ?_
 refine Aw rfl fun b8=> ?_
 rw [Cs]
 refine Ac ⟨rfl,⟨_,sP⟩,?_⟩
 refine Am ?_
 refine G1 ?_
 refine Be ?_
 refine A6 rfl ((I6 (d:=d) (b:=(b:Nat)) (k:=(j:Nat))).to (by rw [hrd.1,hrd.2]) rfl) sP rfl aQ ?_
 refine Ac ⟨rfl,⟨_,sP⟩,?_⟩
 refine xM rfl<|xE rfl rfl<|xE rfl rfl<|Be ?_
 first | refine Af rfl rfl uD (Ct) (Ar) (B2 (by first | exact Ar | exact List.length_replicate ..)) ?_ | refine Af rfl rfl uD rfl rfl rfl ?_
 refine Ac ⟨rfl,⟨_,sP⟩,?_⟩
 refine Am ?_
 rotate_left
 all_goals
  refine Le ?_
  refine G1 ?_
  refine xA rfl<|Am ?_
  refine S5 ?_
  refine n_K<|Ad<|Ad<|Aa fun ops=>oM rfl<|oR (Ae rfl rfl rfl)<|Ac<|n_K ?_
  refine Bi rfl ?_
  refine Ai<|n_K<|Ad<|Aa fun ops=> ?_
  refine oR (Au rfl mM (by first | exact Bg | rfl)) ?_
  refine Bd rfl (La (p:=A9 (V b) j)) sP rfl fun v30 Y30 h30=> ?_
  obtain ⟨s,rfl,rfl,hs,ho⟩:=h30
  refine Ay aQ ?_
  refine oM rfl<|oE rfl rfl<|oE rfl rfl<|oE rfl rfl<|oE rfl rfl<|oA rfl<|oA rfl<|oA rfl<|oA rfl<|Ac<|n_K<|Ad<|Ad ?_
  refine Bf [(2,37)] rfl fun ops y=> ?_
  refine oM rfl<|oR (Ae rfl rfl rfl)<|oM rfl ?_
  refine' Df (j:=2) (k:=2) y rfl rfl rfl rfl rfl rfl rfl (fun hg37=> ?_) ?_
  rotate_left
  ·try (simp at hg37;show _)
   refine o_g y rfl rfl ?_
   refine oM rfl ?_
   refine o_g y rfl rfl ?_
   refine oR (Ae rfl rfl rfl) ?_
   exact Ac ⟨rfl,rfl,⟨_,sP⟩⟩
  refine Ac<|n_K ?_
  refine Aj rfl (fun c40=> ?_) (fun c40=> ?_)
  ·simp only [Bool.and_eq_true,Bool.and_eq_false_iff,decide_eq_true_eq,decide_eq_false_iff_not] at c40
   have hg:Eb (A9 (V b) j)=(0,[],0,20):=(by unfold Eb;rw [if_pos ⟨c40.1,by omega⟩])
   refine Ad<|Aa fun ops=>oA rfl<|oA rfl<|oA rfl<|oA rfl<|Ac<|n_K<|An<|r_K ?_
   exact Av (Om Tryz.results61 (Ag rfl) (Ag rfl) (Ag rfl) (Ag rfl)) (by exact ⟨Sl.nil,by rw [hg];rfl,rfl,by rw [hg];rfl,rfl⟩) (by rw [Sl.hp_nil,List.nil_append];exact sP)
  ·simp only [Bool.and_eq_true,Bool.and_eq_false_iff,decide_eq_true_eq,decide_eq_false_iff_not] at c40
   have hg:Eb (A9 (V b) j)=Cg (A9 (V b) j):=(by unfold Eb;rw [if_neg (by rintro ⟨h1,h2⟩;rcases c40 with h3 | h3;exact h3 h1;omega)])
   refine Ai<|n_K<|Ad<|Aa fun ops=>oM rfl<|oM rfl<|oM rfl<|oM rfl<|oA rfl<|oA rfl<|oA rfl<|oA rfl<|Ac<|n_K ?_
   refine An ?_
   exact Av (Om Tryz.results61 (Ag rfl) (Ag rfl) (Ag rfl) (Ag rfl)) (by exact ⟨s,by rw [hg],rfl,by rw [hg];exact hs,ho⟩) sP
def Cb (bs:List LB):Nat→Nat
 | 0=>0
 | k+1=>Cb bs k+(if (bAt bs k).seq.toNat=0 then 1 else 0)
theorem Sw (bs:List LB):∀ k,Cb bs k≤k
 | 0=>Nat.le_refl _
 | k+1=>by have:=Sw bs k;unfold Cb;split <;> omega
theorem Apy (hl:bs.length=nb) (hn:nb≤1000):Does Tryz.prog 33 [ptr lg] ((lg,true,C (lgC d.dk bb nb last) tLg)::(bb,true,C (lbs bs) tLB)::[])
  (Is (.int .i64 (Cb bs nb:Nat)) ((lg,true,C (lgC d.dk bb nb last) tLg)::(bb,true,C (lbs bs) tLB)::[])):=by
 refine Ah (n:=21) Tryz.func33 Tryz.ntmps33 rfl (Nat.le_of_ble_eq_true rfl)<|Ad<|Aa fun ops=>oA rfl<|Ac<|n_K<|Ad<|Ad<|Aa fun ops=>oM rfl<|oN rfl<|oF rfl ?_
 refine oR (Al rfl mM rfl) ?_
 refine oR (A7 rfl)<|oM rfl<|Ac<|n_K<|Ak ?_
 refine A8 [0,8,9] kQ (fun (i:Nat)=>[(10,.int .i64 i),(2,.int .i64 (Cb bs i:Nat))]) (fun (i:Nat)=>(lg,true,C (lgC d.dk bb nb last) tLg)::(bb,true,C (lbs bs) tLB)::[]) (fun (i:Nat)=>i≤nb) (fun (i:Nat)=>nb - i) (0) (Nat.zero_le _) kP sP ?_
 rintro i g0
 refine Ad<|Aa fun ops=>oR (Ae rfl rfl rfl)<|Ac<|n_K<|Ad ?_
 refine Aj rfl (fun c11=> ?_) (fun c11=> ?_)
 ·simp only [decide_eq_true_eq,decide_eq_false_iff_not] at c11
  have hi:i<nb:=(by omega)
  have hgi:bs[i]? =some (bAt bs i):=Ep (by omega)
  have hfl:=Sw bs i
  refine Ai<|n_K<|Ad<|Ak<|Ad<|Aa fun ops=> ?_
  refine oR (Cp rfl rfl (by omega)) ?_
  refine oR (Au rfl mM (by simp only [Int.toNat_natCast];exact Pv hgi)) ?_
  refine Aw rfl fun b4=> ?_
  refine Af rfl rfl uD rfl rfl rfl ?_
  refine Ac<|n_K<|Ad<|Aa fun ops=>oF rfl ?_
  refine oR (Al rfl mM rfl) ?_
  refine oR (Ae rfl rfl rfl)<|Ac<|n_K ?_
  refine Aj rfl (fun c16=> ?_) (fun c16=> ?_)
  ·simp only [decide_eq_true_eq,decide_eq_false_iff_not] at c16
   have hfT:((Cb bs (i+1):Nat):Int)=(Cb bs i:Nat)+1:=(by show ((Cb bs i+(if (bAt bs i).seq.toNat=0 then 1 else 0):Nat):Int)=_;rw [if_pos (by omega)];omega)
   refine Aa fun ops=>oM rfl ?_
   refine oR (Ao rfl rfl (by omega)) ?_
   refine oA rfl<|Ac<|Az<|n_K<|Aa fun ops=> ?_
   refine oR (Ao rfl rfl (by omega)) ?_
   refine oM rfl<|Ac<|n_K ?_
   first | exact ⟨i+1,by omega,by omega,(by rw [hfT];exact kP),kP,_,sP⟩ | exact ⟨i+1,by omega,by omega,(by rw [hfF];exact kP),kP,_,sP⟩
  ·simp only [decide_eq_true_eq,decide_eq_false_iff_not] at c16
   have hfF:((Cb bs (i+1):Nat):Int)=(Cb bs i:Nat):=(by show ((Cb bs i+(if (bAt bs i).seq.toNat=0 then 1 else 0):Nat):Int)=_;rw [if_neg (by omega)];omega)
   refine Ai<|Az<|n_K<|Aa fun ops=> ?_
   refine oR (Ao rfl rfl (by omega)) ?_
   refine oM rfl<|Ac<|n_K ?_
   first | exact ⟨i+1,by omega,by omega,(by rw [hfT];exact kP),kP,_,sP⟩ | exact ⟨i+1,by omega,by omega,(by rw [hfF];exact kP),kP,_,sP⟩
 ·simp only [decide_eq_true_eq,decide_eq_false_iff_not] at c11
  have hi:i=nb:=(by omega)
  subst hi
  refine Bb<|x_K<|x_K<|Bj<|n_K<|Ad<|Aa fun ops=>oM rfl<|oA rfl<|Ac<|n_K<|An ?_
  refine Aq (At Tryz.results33 (Ag rfl)) ?_ sP
  rfl
def Aw2 (v:Blk):Nat→Int
 | 0=>0
 | j+1=>Aw2 v j+(if (Cg (A9 v j)).2.2.2=0 then (Cg (A9 v j)).2.2.1 else 0)
def N1 (bs:List LB) (b:Int):Bool:=decide (0≤b) && decide (b<bs.length) && decide ((bAt bs b.toNat).seq.toNat≠0)
end
end
section
open Go.K
instance ent165:Ent Tryz.prog 165:=⟨fun _ _=>by kernel_rfl⟩
set_option maxRecDepth 20000
set_option maxHeartbeats 1000000
theorem Aw5 (d:Dat) (chk:Nat):0≤(Dn d chk).2.1∧(Dn d chk).2.1≤1:=by
 unfold Dn
 simp only []
 split
 ·exact ⟨by simp,by simp⟩
 ·split
  ·exact ⟨by simp,by simp⟩
  ·split
   ·exact ⟨by simp,by simp⟩
   ·split <;> exact ⟨by simp,by simp⟩
theorem Aw4 (p:Pg):0≤(Cg p).2.2.1∧(Cg p).2.2.1≤2:=by
 unfold Cg
 simp only []
 split
 ·exact ⟨by simp,by simp⟩
 ·split
  ·exact ⟨by simp,by simp⟩
  ·split
   ·exact ⟨by simp,by simp⟩
   ·split
    ·exact ⟨by simp,by simp⟩
    ·have:=Aw5 (If p) (D1 p)
     simp only
     omega
theorem Aw3 (v:Blk):∀ j,0≤Aw2 v j∧Aw2 v j≤2*j
 | 0=>⟨Int.le_refl _,Int.le_refl _⟩
 | j+1=>by
  have ih:=Aw3 v j
  have:=Aw4 (A9 v j)
  unfold Aw2
  split <;> omega
section
variable {d:Dsk} {n k:Nat} {q:Qt} {lg bb nb:Nat} {last:Int} {V:Nat→Blk} {bs:List LB}
theorem Awm (h:DD d n k V) (hnb:nb+6=n) (hl:bs.length=nb) {b:Int}:Does Tryz.prog 121 [ptr lg,.int .i64 b] ((lg,true,C (lgC d.dk bb nb last) tLg)::(bb,true,C (lbs bs) tLB)::(dkH d++[]))
  (Is (.tuple #[.int .i64 (if N1 bs b=true then Aw2 (V b.toNat) 8 else 0),.int .i64 (if N1 bs b=true then 0 else 1)]) ((lg,true,C (lgC d.dk bb nb last) tLg)::(bb,true,C (lbs bs) tLB)::(dkH d++[]))):=by
 refine Ah (n:=65) Tryz.func121 Tryz.ntmps121 rfl (Nat.le_of_ble_eq_true rfl)<|Ad<|Aa fun ops=>oA rfl<|oA rfl<|Ac<|n_K<|Ad<|Ad ?_
 refine Bf [(2,15),(11,24)] rfl fun ops y=> ?_
 refine oM rfl<|oR (Ae rfl rfl rfl)<|oM rfl ?_
 refine' Es (j:=2) (k:=7) y rfl rfl rfl rfl rfl rfl rfl (fun hg15=> ?_) ?_
 rotate_left
 ·try (simp at hg15;show _)
  refine o_g y rfl rfl ?_
  refine oM rfl ?_
  refine o_g y rfl rfl ?_
  refine oM rfl ?_
  refine o_g y rfl rfl ?_
  refine oN rfl ?_
  refine o_g y rfl rfl ?_
  refine oF rfl ?_
  refine o_g y rfl rfl ?_
  refine oR (Al rfl mM rfl) ?_
  refine o_g y rfl rfl ?_
  refine oR (A7 rfl) ?_
  refine o_g y rfl rfl ?_
  refine oR (Ae rfl rfl rfl) ?_
  exact Ac ⟨rfl,rfl,⟨_,sP⟩⟩
 refine oM rfl ?_
 refine' Es (j:=11) (k:=9) y rfl rfl rfl rfl rfl rfl rfl (fun hg24=> ?_) ?_
 rotate_left
 ·try (simp at hg24;show _)
  refine o_g y rfl rfl ?_
  refine oM rfl ?_
  refine o_g y rfl rfl ?_
  refine oN rfl ?_
  refine o_g y rfl rfl ?_
  refine oF rfl ?_
  refine o_g y rfl rfl ?_
  refine oR (Al rfl mM rfl) ?_
  refine o_g y rfl rfl ?_
  refine oM rfl ?_
  refine o_g y rfl rfl ?_
  refine oR (Cp rfl rfl (by omega)) ?_
  refine o_g y rfl rfl ?_
  refine oF rfl ?_
  refine o_g y rfl rfl ?_
  refine oR (show Rd _ _ _ _ (wv (bAt bs b.toNat).seq) from Al rfl mM (Fn (o:=2) (Ep (by omega)) (by omega) rfl)) ?_
  refine o_g y rfl rfl ?_
  refine oR (Ae rfl rfl rfl) ?_
  exact Ac ⟨rfl,rfl,⟨_,sP⟩⟩
 refine Ac<|n_K ?_
 refine Aj rfl (fun c34=> ?_) (fun c34=> ?_)
 ·simp only [Bool.or_eq_true,Bool.or_eq_false_iff,decide_eq_true_eq,decide_eq_false_iff_not] at c34
  have hsg:N1 bs b=false:=(by unfold N1;simp;intro h1 h2;omega)
  refine Ad<|Aa fun ops=>oA rfl<|oA rfl<|Ac<|n_K<|An<|r_K ?_
  refine Aq (Bz Tryz.results121 (Ag rfl) (Ag rfl)) ?_ sP
  rw [hsg];rfl
 ·simp only [Bool.or_eq_true,Bool.or_eq_false_iff,decide_eq_true_eq,decide_eq_false_iff_not] at c34
  have hsg:N1 bs b=true:=(by unfold N1;simp;omega)
  obtain ⟨bN,rfl⟩:∃ bN:Nat,b=bN:=⟨b.toNat,by omega⟩
  refine Ai<|n_K<|Ad<|Ad<|Aa fun ops=>oM rfl<|Ac<|n_K<|Ak ?_
  refine A8 [0,1] kQ (fun (i:Nat)=>[(35,.int .i64 i),(4,.int .i64 (Aw2 (V bN) i))]) (fun (i:Nat)=>(lg,true,C (lgC d.dk bb nb last) tLg)::(bb,true,C (lbs bs) tLB)::(dkH d++[])) (fun (i:Nat)=>i≤8) (fun (i:Nat)=>8 - i) (0) (Nat.zero_le _) kP sP ?_
  rintro i g0
  refine Ad<|Aa fun ops=>oR (Ae rfl rfl rfl)<|Ac<|n_K<|Ad ?_
  refine Aj rfl (fun c36=> ?_) (fun c36=> ?_)
  ·simp only [decide_eq_true_eq,decide_eq_false_iff_not] at c36
   have hi:i<8:=(by omega)
   have hrd:=Ii h (b:=bN) (j:=i) (by omega) hi
   have hml:=Aw3 (V bN) i
   have hrn:=Aw4 (A9 (V bN) i)
   refine Ai<|n_K<|Ad<|Ak<|Ad<|Aa fun ops=>oM rfl<|oA rfl<|Ac<|n_K<|Ad<|Aa fun ops=>oM rfl<|oN rfl ?_
   refine oF rfl ?_
   refine oR (Al rfl mM rfl) ?_
   refine oM rfl<|oM rfl ?_
   refine A6 rfl ((I6 (d:=d) (b:=(bN:Nat)) (k:=(i:Nat))).to (by rw [hrd.1,hrd.2]) rfl) sP rfl aQ ?_
   refine oM rfl<|oE rfl rfl<|oE rfl rfl ?_
   refine Aw rfl fun b7=> ?_
   rw [Cs]
   first | refine Af rfl rfl uD (Ct) (Ar) (B2 (by first | exact Ar | exact List.length_replicate ..)) ?_ | refine Af rfl rfl uD rfl rfl rfl ?_
   refine oA rfl<|Ac<|n_K<|Ad<|Ad<|Aa fun ops=>oM rfl<|oR (Ae rfl rfl rfl)<|Ac<|n_K ?_
   refine Bi rfl ?_
   refine Ai<|n_K<|Ad<|Aa fun ops=> ?_
   refine oR (Au rfl mM (by first | exact Bg | rfl)) ?_
   refine Bd rfl (La (p:=A9 (V bN) i)) sP rfl fun v53 Y53 h53=> ?_
   obtain ⟨s,rfl,rfl,hs,ho⟩:=h53
   refine Ay aQ ?_
   refine oM rfl<|oE rfl rfl<|oE rfl rfl<|oE rfl rfl<|oE rfl rfl<|oA rfl<|oA rfl<|oA rfl<|oA rfl<|Ac<|n_K<|Ad<|Aa fun ops=>oM rfl ?_
   refine oR (Ae rfl rfl rfl)<|Ac<|n_K ?_
   refine Aj rfl (fun c59=> ?_) (fun c59=> ?_)
   ·simp only [decide_eq_true_eq,decide_eq_false_iff_not] at c59
    have hmT:Aw2 (V bN) (i+1)=Aw2 (V bN) i+(Cg (A9 (V bN) i)).2.2.1:=(by show Aw2 (V bN) i+(if (Cg (A9 (V bN) i)).2.2.2=0 then (Cg (A9 (V bN) i)).2.2.1 else 0)=_;rw [if_pos c59])
    refine Aa fun ops=>oM rfl<|oM rfl ?_
    refine oR (Ao rfl rfl (by omega)) ?_
    refine oA rfl<|Ac<|Az<|n_K<|Aa fun ops=> ?_
    refine oR (Ao rfl rfl (by omega)) ?_
    refine oM rfl<|Ac<|n_K ?_
    first | exact ⟨i+1,by omega,by omega,(by rw [hmT];exact kP),kP,_,sP⟩ | exact ⟨i+1,by omega,by omega,(by rw [hmF];exact kP),kP,_,sP⟩
   ·simp only [decide_eq_true_eq,decide_eq_false_iff_not] at c59
    have hmF:Aw2 (V bN) (i+1)=Aw2 (V bN) i:=(by show Aw2 (V bN) i+(if (Cg (A9 (V bN) i)).2.2.2=0 then (Cg (A9 (V bN) i)).2.2.1 else 0)=_;rw [if_neg c59];omega)
    refine Ai<|Az<|n_K<|Aa fun ops=> ?_
    refine oR (Ao rfl rfl (by omega)) ?_
    refine oM rfl<|Ac<|n_K ?_
    first | exact ⟨i+1,by omega,by omega,(by rw [hmT];exact kP),kP,_,sP⟩ | exact ⟨i+1,by omega,by omega,(by rw [hmF];exact kP),kP,_,sP⟩
  ·simp only [decide_eq_true_eq,decide_eq_false_iff_not] at c36
   have hi:i=8:=(by omega)
   subst hi
   refine Bb<|x_K<|x_K<|Bj<|n_K<|Ad<|Aa fun ops=>oM rfl<|oA rfl<|oA rfl<|Ac<|n_K<|An ?_
   refine Aq (Bz Tryz.results121 (Ag rfl) (Ag rfl)) ?_ sP
   rw [hsg];rfl
def As3 (n nb k:Nat) (q:Qt) (V:Nat→Blk) (bs:List LB) (last b:Int) (c:Chip) (t:TS) (bs':List LB) (last' e:Int) (t':TS) (c':Chip):Prop :=
 (N1 bs b=false∧e=1∧bs'=bs∧last'=last∧t'=t∧c'=c) ∨
 (N1 bs b=true∧Akj n nb k q V b.toNat bs c bs' e t' c'∧(e=0→last'=if b=last then Dw bs' nb else last))
theorem Apz (h:DD d n k V) (hk:k≤600000000000) (hq:q.n≤3) (hacc:Acc q d.c d.t.ts) (hnb:nb+6=n) (hl:bs.length=nb) {b:Int} :
  Does Tryz.prog 165 [ptr lg,.int .i64 b] ((lg,true,C (lgC d.dk bb nb last) tLg)::(bb,true,C (lbs bs) tLB)::(dkH d++[]))
  (fun v H=>∃ (t':Tab) (c':Chip) (bs':List LB) (last' e:Int),v= .int .i64 e∧H=(lg,true,C (lgC d.dk bb nb last') tLg)::(bb,true,C (lbs bs') tLB)::(dkH ⟨d.dk,t',c'⟩++[])∧As3 n nb (k+40) q V bs last b d.c d.t.ts bs' last' e t'.ts c'):=by
 have hn40:=h.di.wf.n2
 refine Ah (n:=86) Tryz.func165 Tryz.ntmps165 rfl (Nat.le_of_ble_eq_true rfl)<|Ad<|Aa fun ops=>oA rfl<|Ac<|n_K<|Ad<|Ad ?_
 refine Bf [(2,10),(11,19)] rfl fun ops y=> ?_
 refine oM rfl<|oR (Ae rfl rfl rfl)<|oM rfl ?_
 refine' Es (j:=2) (k:=7) y rfl rfl rfl rfl rfl rfl rfl (fun hg10=> ?_) ?_
 rotate_left
 ·try (simp at hg10;show _)
  refine o_g y rfl rfl ?_
  refine oM rfl ?_
  refine o_g y rfl rfl ?_
  refine oM rfl ?_
  refine o_g y rfl rfl ?_
  refine oN rfl ?_
  refine o_g y rfl rfl ?_
  refine oF rfl ?_
  refine o_g y rfl rfl ?_
  refine oR (Al rfl mM rfl) ?_
  refine o_g y rfl rfl ?_
  refine oR (A7 rfl) ?_
  refine o_g y rfl rfl ?_
  refine oR (Ae rfl rfl rfl) ?_
  exact Ac ⟨rfl,rfl,⟨_,sP⟩⟩
 refine oM rfl ?_
 refine' Es (j:=11) (k:=9) y rfl rfl rfl rfl rfl rfl rfl (fun hg19=> ?_) ?_
 rotate_left
 ·try (simp at hg19;show _)
  refine o_g y rfl rfl ?_
  refine oM rfl ?_
  refine o_g y rfl rfl ?_
  refine oN rfl ?_
  refine o_g y rfl rfl ?_
  refine oF rfl ?_
  refine o_g y rfl rfl ?_
  refine oR (Al rfl mM rfl) ?_
  refine o_g y rfl rfl ?_
  refine oM rfl ?_
  refine o_g y rfl rfl ?_
  refine oR (Cp rfl rfl (by omega)) ?_
  refine o_g y rfl rfl ?_
  refine oF rfl ?_
  refine o_g y rfl rfl ?_
  refine oR (show Rd _ _ _ _ (wv (bAt bs b.toNat).seq) from Al rfl mM (Fn (o:=2) (Ep (by omega)) (by omega) rfl)) ?_
  refine o_g y rfl rfl ?_
  refine oR (Ae rfl rfl rfl) ?_
  exact Ac ⟨rfl,rfl,⟨_,sP⟩⟩
 refine Ac<|n_K ?_
 refine Aj rfl (fun c29=> ?_) (fun c29=> ?_)
 ·simp only [Bool.or_eq_true,Bool.or_eq_false_iff,decide_eq_true_eq,decide_eq_false_iff_not] at c29
  have hsg:N1 bs b=false:=(by unfold N1;simp;intro h1 h2;omega)
  refine Ad<|Aa fun ops=>oA rfl<|Ac<|n_K<|An<|r_K ?_
  exact Av (At Tryz.results165 (Ag rfl)) (by exact ⟨d.t,d.c,bs,last,1,rfl,rfl,.inl ⟨hsg,rfl,rfl,rfl,rfl,rfl⟩⟩) sP
 ·simp only [Bool.or_eq_true,Bool.or_eq_false_iff,decide_eq_true_eq,decide_eq_false_iff_not] at c29
  have hsg:N1 bs b=true:=(by unfold N1;simp;omega)
  obtain ⟨bN,rfl⟩:∃ bN:Nat,b=bN:=⟨b.toNat,by omega⟩
  have hbN:bN<nb:=(by omega)
  refine Ai<|n_K<|Ad<|Ad<|Aa fun ops=>oM rfl<|oM rfl ?_
  refine Bd rfl (Nz (d:=d) (bb:=bb) (last:=last) h hk hq hacc (b:=bN) (bs:=bs) hnb hl hbN) sP rfl fun v32 Y32 h32=> ?_
  obtain ⟨t1,c1,bs1,e1,rfl,rfl,hW⟩:=h32
  have hb1:=hW.1
  refine Ay aQ ?_
  refine oA rfl<|Ac<|n_K<|Ad<|Aa fun ops=>oM rfl<|oR (Ae rfl rfl rfl)<|Ac<|n_K ?_
  refine Aj rfl (fun c34=> ?_) (fun c34=> ?_)
  ·skip
   have he1:e1≠0:=(by simpa using c34)
   refine Ad<|Aa fun ops=>oM rfl<|oA rfl<|Ac<|n_K<|An<|r_K ?_
   exact Av (At Tryz.results165 (Ag rfl)) (by exact ⟨t1,c1,bs1,last,e1,rfl,rfl,.inr ⟨hsg,hW,fun h9=>absurd h9 he1⟩⟩) sP
  ·skip
   have he1:e1=0:=(by simpa using c34)
   refine Ai<|n_K<|Ad<|Ad<|Aa fun ops=>oM rfl<|oM rfl<|oN rfl<|oF rfl ?_
   refine oR (Al rfl mM rfl) ?_
   refine oR (Ae rfl rfl rfl)<|Ac<|n_K ?_
   refine Aj rfl (fun c41=> ?_) (fun c41=> ?_)
   ·simp only [decide_eq_true_eq,decide_eq_false_iff_not] at c41
    refine Ad<|Aa fun ops=>oM rfl<|oN rfl<|oF rfl ?_
    refine Af rfl rfl uD rfl rfl rfl ?_
    refine Ac<|n_K<|Ad<|Aa fun ops=>oM rfl<|oN rfl<|oF rfl ?_
    refine oR (Al rfl mM rfl) ?_
    refine oR (A7 rfl)<|oM rfl<|Ac<|n_K<|Ak ?_
    refine A8 [0,48,49] kQ (fun (st:Nat×Int)=>[(50,.int .i64 st.1)]) (fun (st:Nat×Int)=>(lg,true,C (lgC d.dk bb nb st.2) tLg)::(bb,true,C (lbs bs1) tLB)::(dkH ⟨d.dk,t1,c1⟩++[])) (fun (st:Nat×Int)=>st.1≤nb∧st.2=Dw bs1 st.1) (fun (st:Nat×Int)=>nb - st.1) ((0,-1)) ⟨Nat.zero_le _,rfl⟩ kP sP ?_
    rintro ⟨i,la⟩ ⟨g0,g1⟩
    simp only at g0 g1
    refine Ad<|Aa fun ops=>oR (Ae rfl rfl rfl)<|Ac<|n_K<|Ad ?_
    refine Aj rfl (fun c51=> ?_) (fun c51=> ?_)
    ·simp only [decide_eq_true_eq,decide_eq_false_iff_not] at c51
     have hi:i<nb:=(by omega)
     have hgi:bs1[i]? =some (bAt bs1 i):=Ep (by omega)
     have hrg:=Px bs1 i
     refine Ai<|n_K<|Ad<|Ak<|Ad<|Aa fun ops=>oM rfl ?_
     refine oR (Cp rfl rfl (by omega)) ?_
     refine oR (Au rfl mM (by simp only [Int.toNat_natCast];exact Pv hgi)) ?_
     refine Aw rfl fun b7=> ?_
     refine oA rfl ?_
     refine Af rfl rfl uD rfl rfl rfl ?_
     refine Ac<|n_K<|Ad ?_
     refine s_draw [(3,58),(9,64)] [(26,[(0,false),(1,false),(2,false),(3,false),(4,false),(5,false),(6,false),(7,false),(8,false),(9,false),(10,false),(11,false),(12,false),(13,false),(14,false),(15,false),(16,false),(17,false),(18,false),(19,false),(20,false),(21,false),(22,false),(23,false),(24,false),(25,false)])] (by kernel_rfl) rfl fun ops w0 H0 y=> ?_
     refine A4<|xF rfl ?_
     refine xR (Al rfl mM rfl) ?_
     refine xR (Ae rfl rfl rfl)<|xM rfl ?_
     refine' Hx (j:=3) (k:=21) y rfl rfl rfl rfl rfl rfl rfl (fun hg58=> ?_) ?_
     rotate_left
     ·try (simp at hg58;show _)
      refine x_g y rfl rfl ?_
      refine xM rfl ?_
      refine x_g y rfl rfl ?_
      refine xN rfl ?_
      refine x_g y rfl rfl ?_
      refine xF rfl ?_
      refine x_g y rfl rfl ?_
      refine xR (Al rfl mM rfl) ?_
      refine x_g y rfl rfl ?_
      refine xR (Ae rfl rfl rfl) ?_
      refine x_g y rfl rfl ?_
      refine xM rfl ?_
      refine' Qa (j:=9) (k:=14) y rfl rfl rfl rfl rfl rfl rfl (fun hg64=> ?_) ?_
      rotate_left
      ·try (simp at hg64;show _)
       refine x_g y rfl rfl ?_
       refine xF rfl ?_
       refine x_g y rfl rfl ?_
       refine xR (Al rfl mM rfl) ?_
       refine x_g y rfl rfl ?_
       refine xM rfl ?_
       refine x_g y rfl rfl ?_
       refine xN rfl ?_
       refine x_g y rfl rfl ?_
       refine xF rfl ?_
       refine x_g y rfl rfl ?_
       refine xR (Al rfl mM rfl) ?_
       refine x_g y rfl rfl ?_
       refine xM rfl ?_
       refine x_g y rfl rfl ?_
       refine xN rfl ?_
       refine x_g y rfl rfl ?_
       refine xF rfl ?_
       refine x_g y rfl rfl ?_
       refine xR (Al rfl mM rfl) ?_
       refine x_g y rfl rfl ?_
       refine xR (Cp rfl rfl (by omega)) ?_
       refine x_g y rfl rfl ?_
       refine xF rfl ?_
       refine x_g y rfl rfl ?_
       refine xR (show Rd _ _ _ _ (wv (bAt bs1 la.toNat).seq) from Al rfl mM (Fn (o:=2) (Ep (by omega)) (by omega) rfl)) ?_
       refine x_g y rfl rfl ?_
       refine xR (Ae rfl rfl rfl) ?_
       exact Am ⟨rfl,⟨_,sP⟩⟩
      exact Am ⟨rfl,⟨_,sP⟩⟩
     refine Am<|Bm<|n_K ?_
     refine Aj rfl (fun c80=> ?_) (fun c80=> ?_)
     ·simp only [Bool.and_eq_true,Bool.or_eq_true,Bool.and_eq_false_iff,Bool.or_eq_false_iff,decide_eq_true_eq,decide_eq_false_iff_not] at c80
      have hlT:(i:Int)=Dw bs1 (i+1):=(by unfold Dw;rw [← g1,if_pos ⟨by omega,by rcases c80.2 with h9 | h9;exact .inl h9;exact .inr (by omega)⟩])
      refine Aa fun ops=>oM rfl<|oM rfl<|oN rfl<|oF rfl ?_
      refine Af rfl rfl uD rfl rfl rfl ?_
      refine Ac<|Az<|n_K<|Aa fun ops=> ?_
      refine oR (Ao rfl rfl (by omega)) ?_
      refine oM rfl<|Ac<|n_K ?_
      first | exact ⟨(i+1,(i:Int)),⟨by simp only;omega,hlT⟩,by simp only;omega,lZ⟩ | exact ⟨(i+1,la),⟨by simp only;omega,hlF⟩,by simp only;omega,lZ⟩
     ·simp only [Bool.and_eq_true,Bool.or_eq_true,Bool.and_eq_false_iff,Bool.or_eq_false_iff,decide_eq_true_eq,decide_eq_false_iff_not] at c80
      have hlF:la=Dw bs1 (i+1):=(by unfold Dw;rw [← g1,if_neg (by rintro ⟨h8,h9⟩;rcases c80 with h7 | ⟨h6,h7⟩;omega;rcases h9 with h9 | h9;exact h6 h9;omega)])
      refine Ai<|Az<|n_K<|Aa fun ops=> ?_
      refine oR (Ao rfl rfl (by omega)) ?_
      refine oM rfl<|Ac<|n_K ?_
      first | exact ⟨(i+1,(i:Int)),⟨by simp only;omega,hlT⟩,by simp only;omega,lZ⟩ | exact ⟨(i+1,la),⟨by simp only;omega,hlF⟩,by simp only;omega,lZ⟩
    ·simp only [decide_eq_true_eq,decide_eq_false_iff_not] at c51
     have hi:i=nb:=(by omega)
     subst hi
     refine Bb<|x_K<|x_K<|Bj<|n_K<|Ad<|Aa fun ops=>oA rfl<|Ac<|n_K<|An ?_
     exact Av (At Tryz.results165 (Ag rfl)) (by exact ⟨t1,c1,bs1,la,0,rfl,rfl,.inr ⟨hsg,by rw [← he1];exact hW,fun _=>by rw [if_pos c41];exact g1⟩⟩) sP
   ·simp only [decide_eq_true_eq,decide_eq_false_iff_not] at c41
    refine Ai<|n_K<|Ad<|Aa fun ops=>oA rfl<|Ac<|n_K<|An ?_
    exact Av (At Tryz.results165 (Ag rfl)) (by exact ⟨t1,c1,bs1,last,0,rfl,rfl,.inr ⟨hsg,by rw [← he1];exact hW,fun _=>by rw [if_neg c41]⟩⟩) sP
end
end
section
open Go.K
instance ent116:Ent Tryz.prog 116:=⟨fun _ _=>by kernel_rfl⟩
set_option maxRecDepth 20000
set_option maxHeartbeats 1000000
section
variable {n k:Nat} {q:Qt} {lg bb nb:Nat} {last:Int} {bs:List LB} {dk:Nat}
theorem Ap0 {I:Nat→Hp→Prop} {l f0 D:Nat} {tm:Array Value} {ps:Array Tmp} {sg bd:Code} {X0:Hp} (hl:bs.length=nb) (hn:nb≤1000) (hps:ps.size=1) (h0:I 0 X0)
  (hskip:∀ j X,j<nb→(bAt bs j).seq.toNat=0→I j X→I (j+1) X)
  (hrnd:∀ j X,j<nb→(bAt bs j).seq.toNat≠0→I j X→Rnd Tryz.prog l f0 (F9 ⟨.ready,none,f0,tm,ps,sg,bd,D⟩ [.int .i64 (j:Nat)]) sg bd ((l,true,.loop ⟨.ready,none,f0,tm,ps,sg,bd,D⟩)::(lg,true,C (lgC dk bb nb last) tLg)::(bb,true,C (lbs bs) tLB)::(X++[]))
   (fun v Y=>v= .bool true∧∃ X',Y=(l,true,.loop ⟨.ready,none,f0,tm,ps,sg,bd,D⟩)::(lg,true,C (lgC dk bb nb last) tLg)::(bb,true,C (lbs bs) tLB)::(X'++[])∧I (j+1) X')) :
  Does Tryz.prog 116 [ptr lg,.func (.yield l) #[] #[]] ((l,true,.loop ⟨.ready,none,f0,tm,ps,sg,bd,D⟩)::(lg,true,C (lgC dk bb nb last) tLg)::(bb,true,C (lbs bs) tLB)::(X0++[]))
   (fun v Y=>v= .tuple #[]∧∃ X,Y=(l,true,.loop ⟨.ready,none,f0,tm,ps,sg,bd,D⟩)::(lg,true,C (lgC dk bb nb last) tLg)::(bb,true,C (lbs bs) tLB)::(X++[])∧I nb X):=by
 refine Ah (n:=26) Tryz.func116 Tryz.ntmps116 rfl (Nat.le_of_ble_eq_true rfl)<|Ad<|Aa fun ops=>oM rfl<|oN rfl<|oF rfl ?_
 refine oR (Al rfl mM rfl) ?_
 refine oR (A7 rfl)<|oM rfl<|Ac<|n_K<|Ak ?_
 refine A8 [1,9,10] kQ (fun (st:Nat×Hp)=>[(11,.int .i64 st.1)]) (fun (st:Nat×Hp)=>(l,true,.loop ⟨.ready,none,f0,tm,ps,sg,bd,D⟩)::(lg,true,C (lgC dk bb nb last) tLg)::(bb,true,C (lbs bs) tLB)::(st.2++[])) (fun (st:Nat×Hp)=>st.1≤nb∧I st.1 st.2) (fun (st:Nat×Hp)=>nb - st.1) ((0,X0)) ⟨Nat.zero_le _,h0⟩ kP sP ?_
 rintro ⟨i,X⟩ ⟨g0,gI⟩
 simp only at g0 gI
 refine Ad<|Aa fun ops=>oR (Ae rfl rfl rfl)<|Ac<|n_K<|Ad ?_
 refine Aj rfl (fun c12=> ?_) (fun c12=> ?_)
 ·simp only [decide_eq_true_eq,decide_eq_false_iff_not] at c12
  have hi:i<nb:=(by omega)
  have hgi:bs[i]? =some (bAt bs i):=Ep (by omega)
  refine Ai<|n_K<|Ad<|Ak<|Ad<|Aa fun ops=>oM rfl ?_
  refine oR (Cp rfl rfl (by omega)) ?_
  refine oR (Au rfl mM (by simp only [Int.toNat_natCast];exact Pv hgi)) ?_
  refine Aw rfl fun b5=> ?_
  refine oA rfl ?_
  refine Af rfl rfl uD rfl rfl rfl ?_
  refine Ac<|n_K ?_
  refine P4 (fun F L=>∃ X',F=[(1,.func (.yield l) #[] #[]),(9,.slice (some ⟨bb,0,none⟩) nb nb),(10,.int .i64 nb),(11,.int .i64 i),(24,.bool false)]∧L=(l,true,.loop ⟨.ready,none,f0,tm,ps,sg,bd,D⟩)::(lg,true,C (lgC dk bb nb last) tLg)::(bb,true,C (lbs bs) tLB)::(X'++[])∧I (i+1) X') ?_ ?_
  ·refine P5 [(3,19)] rfl (fun ops y=>Lm 4 ?_)
   refine oF rfl ?_
   refine oR (Al rfl mM rfl) ?_
   refine oR (Ae rfl rfl rfl)<|oM rfl<|Ac ⟨rfl,?_⟩
   by_cases hq:(bAt bs i).seq.toNat=0
   ·refine As6 (F:=[(1,.func (.yield l) #[] #[]),(9,.slice (some ⟨bb,0,none⟩) nb nb),(10,.int .i64 nb),(11,.int .i64 i),(4,.int .i64 i),(19,.bool false)] ) (.cons rfl<| .cons rfl<| .cons rfl<| .cons rfl<| .cons rfl<| .cons (by show some (Value.bool (decide _))=_;rw [decide_eq_false (by omega)]) .nil) ?_
    refine Lm 5 ?_
    refine Aqf y rfl rfl rfl rfl<|Aqf y rfl rfl rfl rfl<|Aqf y rfl rfl rfl rfl<|Aqf y rfl rfl rfl rfl<|oR (Alk rfl rfl)<|Ac ⟨rfl,Afg<|n_K ?_⟩
    exact ⟨_,_,⟨X,rfl,rfl,hskip i X hi hq gI⟩,jZ⟩
   ·refine As6 (F:=[(1,.func (.yield l) #[] #[]),(9,.slice (some ⟨bb,0,none⟩) nb nb),(10,.int .i64 nb),(11,.int .i64 i),(4,.int .i64 i),(19,.bool true)] ) (.cons rfl<| .cons rfl<| .cons rfl<| .cons rfl<| .cons rfl<| .cons (by show some (Value.bool (decide _))=_;rw [decide_eq_true (by omega)]) .nil) ?_
    refine Lm 2 ?_
    refine o_g y rfl rfl<|oM rfl<|o_g y rfl rfl<|oM rfl<|Ac ⟨rfl,?_⟩
    refine X2 (r:=⟨.ready,none,f0,tm,ps,sg,bd,D⟩) y rfl rfl rfl (by simp [hps]) sP (hrnd i X hi hq gI) rfl ?_
    rintro v L' ⟨rfl,X',rfl,gI'⟩
    refine Lm 2 ?_
    refine o_g y rfl rfl<|oR (Bx rfl)<|oR (Alj rfl rfl)<|Ac ⟨rfl,Afg<|n_K ?_⟩
    exact ⟨_,_,⟨X',rfl,rfl,gI'⟩,jZ⟩
  ·rintro F L ⟨X',rfl,rfl,gI'⟩
   refine Bi rfl ?_
   refine Ai<|Az<|n_K<|Aa fun ops=> ?_
   refine oR (Ao rfl rfl (by omega)) ?_
   refine oM rfl<|Ac<|n_K ?_
   exact ⟨(i+1,X'),⟨by simp only;omega,gI'⟩,(by simp only;omega),lZ⟩
 ·simp only [decide_eq_true_eq,decide_eq_false_iff_not] at c12
  have hi:i=nb:=(by omega)
  subst hi
  refine Bb<|x_K<|x_K<|Bj ?_
  exact H5 (Ml Tryz.results116) (by exact ⟨rfl,_,rfl,gI⟩) sP
end
end
section
open Go.K
instance und153:Und Tryz.prog 153 (.slice 157):=⟨Tryz.underlying153⟩
instance agg153:Agg Tryz.prog 153 false:=⟨⟨_,Tryz.underlying153,rfl⟩⟩
instance siz153:Siz Tryz.prog 153 1:=⟨by kernel_rfl⟩
instance agg157:Agg Tryz.prog 157 true:=⟨⟨_,Tryz.underlying157,rfl⟩⟩
instance siz157:Siz Tryz.prog 157 4:=⟨by kernel_rfl⟩
instance fld157_1:Fld Tryz.prog 157 1 1:=⟨⟨_,_,0,Tryz.underlying157,rfl,by kernel_rfl,rfl⟩⟩
instance ent118:Ent Tryz.prog 118:=⟨fun _ _=>by kernel_rfl⟩
instance ent119:Ent Tryz.prog 119:=⟨fun _ _=>by kernel_rfl⟩
instance ent160:Ent Tryz.prog 160:=⟨fun _ _=>by kernel_rfl⟩
instance ent161:Ent Tryz.prog 161:=⟨fun _ _=>by kernel_rfl⟩
instance ent199:Ent Tryz.prog 199:=⟨fun _ _=>by kernel_rfl⟩
set_option maxRecDepth 20000
set_option maxHeartbeats 1000000
abbrev Hj:TypeId:=157
abbrev U4:TypeId:=65
abbrev Pl2:=Int×Int
instance:Cel Pl2:=⟨2,fun p=>[.int .i64 p.1,.int .i64 p.2],fun _=>rfl,fun _=>rfl⟩
structure Seg where
 b:Int
 seq:Wd
 wear:Wd
 recs:Sl Pl2
def Z5 (s:Seg):List Value:=[.int .i64 s.b,wv s.seq,wv s.wear,s.recs.val]
instance:Cel Seg:=⟨4,Z5,fun _=>rfl,fun _=>rfl⟩
def sg0:Seg:=⟨0,0,0,.nil⟩
def E8 (xs:List Seg) (i:Int):Seg:=xs.getD i.toNat sg0
theorem N4 {xs:List Seg} {i:Int} (h0:0≤i) (h1:i<xs.length):xs[i.toNat]? =some (E8 xs i):=by
 have:i.toNat<xs.length:=by omega
 simp [E8,List.getD_eq_getElem?_getD,this]
abbrev key (s:Seg):Nat:=s.seq.toNat
theorem Ae5 {x:Wd}:Does Tryz.prog 161 [wv x] [] (Is (.bool false) []):=by
 refine Ah (n:=6) Tryz.func161 Tryz.ntmps161 rfl (Nat.le_of_ble_eq_true rfl)<|Ad<|Aa fun ops=>oA rfl<|Ac<|n_K<|Ad<|Aa fun ops=>oM rfl<|oM rfl<|oR (Ae rfl rfl rfl)<|oA rfl<|Ac<|n_K ?_
 refine An ?_
 refine Aq (At Tryz.results161 (Ag rfl)) ?_ sP
 simp
def Z6 (x y:Nat):Int:=if x<y then -1 else if y<x then 1 else 0
theorem Sx {x y:Wd}:Does Tryz.prog 119 [wv x,wv y] [] (Is (.int .i64 (Z6 x.toNat y.toNat)) []):=by
 refine Ah (n:=20) Tryz.func119 Tryz.ntmps119 rfl (Nat.le_of_ble_eq_true rfl)<|Ad<|Aa fun ops=>oA rfl<|Ac<|n_K<|Ad<|Aa fun ops=>oM rfl ?_
 refine A6 rfl (Ae5) sP rfl aQ ?_
 refine oA rfl<|Ac<|n_K<|Ad<|Aa fun ops=>oM rfl ?_
 refine A6 rfl (Ae5) sP rfl aQ ?_
 refine oA rfl<|Ac<|n_K<|Ad<|Ad<|Aa fun ops=>oM rfl<|Ac<|n_K ?_
 refine Bi rfl ?_
 refine Ai<|n_K<|Ad<|Ad<|Aa fun ops=>oM rfl<|Ac<|n_K ?_
 refine Bi rfl ?_
 refine Ai<|n_K<|Ad<|Ad<|Aa fun ops=>oM rfl<|oM rfl<|oR (Ae rfl rfl rfl)<|Ac<|n_K ?_
 refine Aj rfl (fun c16=> ?_) (fun c16=> ?_)
 ·simp only [decide_eq_true_eq,decide_eq_false_iff_not] at c16
  refine Ad<|Aa fun ops=>oA rfl<|Ac<|n_K<|An<|r_K ?_
  refine Aq (At Tryz.results119 (Ag rfl)) ?_ sP
  unfold Z6;first | rw [if_pos (by omega)] | rw [if_neg (by omega),if_pos (by omega)] | rw [if_neg (by omega),if_neg (by omega)]
 ·simp only [decide_eq_true_eq,decide_eq_false_iff_not] at c16
  refine Ai<|n_K<|Ad<|Ad<|Aa fun ops=>oM rfl<|oM rfl<|oR (Ae rfl rfl rfl)<|Ac<|n_K ?_
  refine Aj rfl (fun c19=> ?_) (fun c19=> ?_)
  ·simp only [decide_eq_true_eq,decide_eq_false_iff_not] at c19
   refine Ad<|Aa fun ops=>oA rfl<|Ac<|n_K<|An<|r_K ?_
   refine Aq (At Tryz.results119 (Ag rfl)) ?_ sP
   unfold Z6;first | rw [if_pos (by omega)] | rw [if_neg (by omega),if_pos (by omega)] | rw [if_neg (by omega),if_neg (by omega)]
  ·simp only [decide_eq_true_eq,decide_eq_false_iff_not] at c19
   refine Ai<|n_K<|Ad<|Aa fun ops=>oA rfl<|Ac<|n_K<|An ?_
   refine Aq (At Tryz.results119 (Ag rfl)) ?_ sP
   unfold Z6;first | rw [if_pos (by omega)] | rw [if_neg (by omega),if_pos (by omega)] | rw [if_neg (by omega),if_neg (by omega)]
theorem Ahi {x y:Seg}:Does Tryz.prog 118 [.agg (Z5 x).toArray,.agg (Z5 y).toArray] [] (Is (.int .i64 (Z6 (key x) (key y))) []):=by
 refine Ah (n:=10) Tryz.func118 Tryz.ntmps118 rfl (Nat.le_of_ble_eq_true rfl)<|Ad<|Aa fun ops=> ?_
 refine De rfl rfl fun b2=> ?_
 refine De rfl rfl fun b3=> ?_
 refine oA rfl<|Ac<|n_K<|Ad<|Aa fun ops=>oF rfl ?_
 refine oR (Al rfl mM rfl) ?_
 refine oF rfl ?_
 refine oR (Al rfl mM rfl) ?_
 refine A6 rfl (Sx) sP rfl aQ ?_
 refine oA rfl<|Ac<|n_K<|An ?_
 refine Aq (At Tryz.results118 (Ag rfl)) ?_ sP
 rfl
theorem Avr {α:Type} {l:List α} {i j:Nat} {a b:α} (hi:l[i]? =some a) (hj:l[j]? =some b):((l.set i b).set j a).Perm l:=by
 obtain ⟨h1,rfl⟩:=List.getElem?_eq_some_iff.1 hi
 obtain ⟨h2,rfl⟩:=List.getElem?_eq_some_iff.1 hj
 exact List.set_set_perm h1 h2
def SortB (xs:List Seg) (i j:Int):Prop:=∀ a b:Int,0≤a→a<b→b≤i→b≠j→key (E8 xs a)≤key (E8 xs b)
def SortTo (xs:List Seg) (i:Int):Prop:=∀ a b:Int,0≤a→a<b→b<i→key (E8 xs a)≤key (E8 xs b)
theorem Z7 {xs:List Seg} {i a:Int} {x:Seg} (h0:0≤i) (h1:i<xs.length) (ha:0≤a):E8 (xs.set i.toNat x) a=if a=i then x else E8 xs a:=by
 unfold E8
 simp only [List.getD_eq_getElem?_getD,List.getElem?_set]
 by_cases h:a=i
 ·subst h
  have:a.toNat<xs.length:=by omega
  simp [this]
 ·rw [if_neg h,if_neg (by omega)]
theorem SortB.step {xs:List Seg} {i j:Int} (h:SortB xs i j) (hj:0<j) (hi:j≤i) (hl:i<xs.length) (hk:key (E8 xs j)<key (E8 xs (j - 1))) :
  SortB ((xs.set j.toNat (E8 xs (j - 1))).set (j - 1).toNat (E8 xs j)) i (j - 1):=by
 intro a b ha hab hb hne
 have e:∀ c:Int,0≤c→E8 ((xs.set j.toNat (E8 xs (j - 1))).set (j - 1).toNat (E8 xs j)) c=if c=j - 1 then E8 xs j else if c=j then E8 xs (j - 1) else E8 xs c:=fun c hc=>by
  rw [Z7 (by omega) (by rw [List.length_set];omega) hc,Z7 (by omega) (by omega) hc]
 rw [e a ha,e b (by omega)]
 have hb1:¬ b=j - 1:=hne
 rw [if_neg hb1]
 by_cases h1:b=j
 ·subst h1
  rw [if_pos rfl]
  by_cases h2:a=b - 1
  ·rw [if_pos h2];omega
  ·rw [if_neg h2,if_neg (by omega)]
   exact h a (b - 1) ha (by omega) (by omega) (by omega)
 ·rw [if_neg h1]
  by_cases h2:a=j - 1
  ·rw [if_pos h2]
   exact h j b (by omega) (by omega) hb h1
  ·rw [if_neg h2]
   by_cases h3:a=j
   ·rw [if_pos h3]
    exact h (j - 1) b (by omega) (by omega) hb h1
   ·rw [if_neg h3]
    exact h a b ha hab hb h1
theorem SortB.done {xs:List Seg} {i j:Int} (h:SortB xs i j) (h0:0≤j) (hk:0<j→key (E8 xs (j - 1))≤key (E8 xs j)):SortTo xs (i+1):=by
 intro a b ha hab hb
 by_cases h1:b=j
 ·subst h1
  have hk':=hk (by omega)
  by_cases h2:a=b - 1
  ·rw [h2];exact hk'
  ·exact Nat.le_trans (h a (b - 1) ha (by omega) (by omega) (by omega)) hk'
 ·exact h a b ha hab (by omega) h1
theorem Ae6 {a b:Nat}:Z6 a b<0↔a<b:=by
 unfold Z6
 split
 ·simp;omega
 ·split <;> simp <;> omega
theorem SortTo.fin {xs:List Seg} {i:Int} {n:Nat} (h:SortTo xs i) (h0:1≤i) (h5:i≤n∨i=1) (hc:¬ i<n):SortTo xs n:=by
 intro a b ha hab hb
 rcases h5 with h5 | h5
 ·exact h a b ha hab (by omega)
 ·omega
theorem Ac6 {s:Sl Seg} (ho:s.isOwn=true):Does Tryz.prog 199 [s.val,.int .i64 0,.int .i64 s.list.length,.func (.func 118) #[] #[]] (s.hp Hj++[])
  (fun v H=>v= .tuple #[]∧∃ s':Sl Seg,H=s'.hp Hj++[]∧s'.val=s.val∧s'.isOwn=true∧s'.list.Perm s.list∧SortTo s'.list s.list.length):=by
 have hsm:=s.small
 refine Ah (n:=53) Tryz.func199 Tryz.ntmps199 rfl (Nat.le_of_ble_eq_true rfl)<|Ad<|Aa fun ops=>oM rfl ?_
 refine oR (Ao rfl rfl (by omega)) ?_
 refine oA rfl<|Ac<|n_K<|Ak ?_
 refine A8 [0,1,2,3] kQ (fun (st:Int×Sl Seg)=>[(8,.int .i64 st.1)]) (fun (st:Int×Sl Seg)=>(st.2.hp Hj++[])) (fun (st:Int×Sl Seg)=>1≤st.1∧st.2.val=s.val∧st.2.isOwn=true∧st.2.list.Perm s.list∧SortTo st.2.list st.1∧(st.1≤s.list.length∨st.1=1)) (fun (st:Int×Sl Seg)=>((s.list.length:Int) - st.1).toNat) ((0+1,s)) ⟨by show (1:Int)≤0+1;omega,rfl,ho,List.Perm.refl _,fun a b h1 h2 h3=>by simp only at h3;omega,.inr rfl⟩ kP sP ?_
 rintro ⟨i,s1⟩ ⟨h0,h1,h2,h3,h4,h5⟩
 simp only at h0 h1 h2 h3 h4 h5
 refine Ad<|Ad<|Aa fun ops=>oM rfl<|oM rfl<|oR (Ae rfl rfl rfl)<|Ac<|n_K ?_
 refine Aj rfl (fun c14=> ?_) (fun c14=> ?_)
 ·simp only [decide_eq_true_eq,decide_eq_false_iff_not] at c14
  refine Ai<|n_K<|Ad<|Ak<|Ad<|Aa fun ops=>oM rfl<|oA rfl<|Ac<|n_K<|Ak ?_
  refine A8 [0,1,2,3,8] kQ (fun (st:Int×Sl Seg)=>[(9,.int .i64 st.1)]) (fun (st:Int×Sl Seg)=>(st.2.hp Hj++[])) (fun (st:Int×Sl Seg)=>0≤st.1∧st.1≤i∧st.2.val=s.val∧st.2.isOwn=true∧st.2.list.Perm s.list∧SortB st.2.list i st.1) (fun (st:Int×Sl Seg)=>st.1.toNat) ((i,s1)) ⟨by omega,Int.le_refl _,h1,h2,h3,fun a b ha hab hb hne=>h4 a b ha hab (by omega)⟩ kP sP ?_
  rintro ⟨j,s2⟩ ⟨k0,k1,k2,k3,k4,k5⟩
  simp only at k0 k1 k2 k3 k4 k5
  have hlen:s2.list.length=s.list.length:=k4.length_eq
  have hoff:=Kq k3
  refine Ad<|Ad ?_
  refine s_draw [(3,21)] [(3,[(0,false),(1,false),(2,false)]),(17,[(3,false),(4,false),(5,false),(6,false),(7,false),(8,false),(9,false),(10,false),(11,false),(12,false),(13,false),(14,true),(15,false),(16,false)])] (by kernel_rfl) rfl fun ops w0 H0 y=> ?_
  refine A4<|xM rfl<|xM rfl<|xR (Ae rfl rfl rfl)<|Am<|A4<|xM rfl ?_
  refine' Hx (j:=3) (k:=12) y rfl rfl rfl rfl rfl rfl rfl (fun hg21=> ?_) ?_
  rotate_left
  ·try (simp at hg21;show _)
   refine x_g y rfl rfl ?_
   refine xM rfl ?_
   refine x_g y rfl rfl ?_
   refine xM rfl ?_
   refine x_g y rfl rfl ?_
   refine xM rfl ?_
   refine x_g y rfl rfl ?_
   refine xR (Bk (s:=s2) (by rw [k2];rfl) rfl ⟨k0,by omega⟩) ?_
   refine x_g y rfl rfl ?_
   refine xR (Do (s:=s2) (o:=0) rfl pL (N4 k0 (by omega)) rfl rfl) ?_
   refine x_g y rfl rfl ?_
   refine xM rfl ?_
   refine x_g y rfl rfl ?_
   refine xM rfl ?_
   refine x_g y rfl rfl ?_
   refine xR (Cy rfl rfl (by omega)) ?_
   refine x_g y rfl rfl ?_
   refine xR (Bk (s:=s2) (by rw [k2];rfl) rfl ⟨by omega,by omega⟩) ?_
   refine x_g y rfl rfl ?_
   refine xR (Do (s:=s2) (o:=0) rfl pL (N4 (i:=j - 1) (by omega) (by omega)) rfl rfl) ?_
   refine x_g y rfl rfl ?_
   refine Be ?_
   refine S8 (fi:=[]) (ca:=[]) rfl rfl (Ahi (x:=E8 s2.list j) (y:=E8 s2.list (j - 1))) sP rfl aQ ?_
   refine Ac ⟨rfl,⟨_,sP⟩,?_⟩
   refine x_g y rfl rfl ?_
   refine xR (Ae rfl rfl rfl) ?_
   exact Am ⟨rfl,⟨_,sP⟩⟩
  refine Am<|Bm<|n_K ?_
  refine Aj rfl (fun c34=> ?_) (fun c34=> ?_)
  ·skip
   have hj:0<j:=(by simp at c34;exact c34.1)
   have hkk:key (E8 s2.list j)<key (E8 s2.list (j - 1)):=(by simp only [Bool.and_eq_true,decide_eq_true_eq,Ae6] at c34;exact c34.2)
   have ga:=N4 (xs:=s2.list) k0 (by omega)
   have gb:=N4 (xs:=s2.list) (i:=j - 1) (by omega) (by omega)
   obtain ⟨s3,hs3⟩:∃ s3,s3=s2.set j.toNat (E8 s2.list (j - 1)):=⟨_,rfl⟩
   have q1:s3.val=s.val:=(by rw [hs3,Sl.set_val,k2])
   have q2:s3.list=s2.list.set j.toNat (E8 s2.list (j - 1)):=(by rw [hs3,Sl.set_list _ _ _ k3])
   have q3:s3.isOwn=true:=(by rw [hs3];exact Sl.set_isOwn _ _ _ k3)
   have q4:s3.list[(j - 1).toNat]? =some (E8 s2.list (j - 1)):=(by rw [q2,List.getElem?_set_ne (by omega)];exact gb)
   refine Ai<|n_K<|Ad<|Ak ?_
   refine He [] [0,1,2,3,4,5,6,7,8,10,11,12] [[(9,false),(13,false)],[(14,false)],[(15,true)],[(16,false)],[(17,true)]] (by kernel_rfl) rfl rfl fun ops w0 H0 y=> ?_
   unfold Tg
   refine xM rfl<|xM rfl<|xM rfl<|xM rfl ?_
   refine xR (Cy rfl rfl (by omega)) ?_
   refine xM rfl<|xM rfl ?_
   refine xR (Cy rfl rfl (by omega)) ?_
   refine xR (Bk (s:=s2) (by rw [k2];rfl) rfl ⟨by omega,by omega⟩) ?_
   refine xM rfl<|xM rfl ?_
   refine xR (Bk (s:=s2) (by rw [k2];rfl) rfl ⟨by omega,by omega⟩) ?_
   refine Am<|A4 ?_
   refine xR (Do (s:=s2) (o:=0) rfl pL gb rfl rfl) ?_
   refine xR (Do (s:=s2) (o:=0) rfl pL ga rfl rfl) ?_
   refine Am<|A4 ?_
   refine xR (Bk (s:=s2) (by rw [k2];rfl) rfl ⟨by omega,by omega⟩) ?_
   refine Am<|Bh<|Be ?_
   first | (refine Fb (s:=s2) (o:=0) (z':=E8 s2.list (j - 1)) rfl rfl uL k3 ga rfl rfl rfl (by rw [hoff];exact Nat.zero_add _) ?_;rw [← hs3]) | refine Fb (s:=s3) (o:=0) (z':=E8 s2.list j) rfl rfl uL q3 q4 rfl rfl rfl (by rw [Kq q3];exact Nat.zero_add _) ?_
   refine Ac ⟨rfl,⟨_,sP⟩,?_⟩
   refine Am<|A4 ?_
   refine xR (Bk (s:=s3) (by rw [q1];rfl) rfl ⟨by omega,by rw [q2,List.length_set];omega⟩) ?_
   refine Am<|Bh<|Be ?_
   first | (refine Fb (s:=s2) (o:=0) (z':=E8 s2.list (j - 1)) rfl rfl uL k3 ga rfl rfl rfl (by rw [hoff];exact Nat.zero_add _) ?_;rw [← hs3]) | refine Fb (s:=s3) (o:=0) (z':=E8 s2.list j) rfl rfl uL q3 q4 rfl rfl rfl (by rw [Kq q3];exact Nat.zero_add _) ?_
   refine Ac ⟨rfl,⟨_,sP⟩,?_⟩
   refine Am<|Bm<|Az<|n_K<|Aa fun ops=>oM rfl ?_
   refine oR (Cy rfl rfl (by omega)) ?_
   refine oA rfl<|Ac<|n_K ?_
   exact ⟨(j - 1,s3.set (j - 1).toNat (E8 s2.list j)),⟨by simp only;omega,by simp only;omega,by rw [Sl.set_val,q1],Sl.set_isOwn _ _ _ q3,by simp only;rw [Sl.set_list _ _ _ q3,q2];exact (Avr ga gb).trans k4,by simp only;rw [Sl.set_list _ _ _ q3,q2];exact k5.step hj k1 (by omega) hkk⟩,(by simp only;omega),lZ⟩
  ·skip
   have hdn:SortTo s2.list (i+1):=k5.done k0 (fun hj=>by simp [Ae6,hj] at c34;omega)
   refine Bb<|x_K<|x_K<|Bj<|Az<|n_K<|Aa fun ops=>oM rfl ?_
   refine oR (Ao rfl rfl (by omega)) ?_
   refine oA rfl<|Ac<|n_K ?_
   exact ⟨(i+1,s2),⟨by simp only;omega,k2,k3,k4,hdn,by simp only;omega⟩,(by simp only;omega),lZ⟩
 ·simp only [decide_eq_true_eq,decide_eq_false_iff_not] at c14
  refine Bb<|x_K<|x_K<|Bj ?_
  exact H5 (Ml Tryz.results199) (by exact ⟨rfl,s1,rfl,h1,h2,h3,h4.fin h0 h5 c14⟩) sP
theorem Ap1 {s:Sl Seg} {x:Int} (ho:s.isOwn=true) (hn:s.list.length≤12):Does Tryz.prog 160 [s.val,.int .i64 0,.int .i64 s.list.length,.int .i64 x,.func (.func 118) #[] #[]] (s.hp Hj++[])
  (fun v H=>v= .tuple #[]∧∃ s':Sl Seg,H=s'.hp Hj++[]∧s'.val=s.val∧s'.isOwn=true∧s'.list.Perm s.list∧SortTo s'.list s.list.length):=by
 refine Ah (n:=148) Tryz.func160 Tryz.ntmps160 rfl (Nat.le_of_ble_eq_true rfl)<|Ad<|Aa fun ops=>oA rfl<|Ac<|n_K<|Ad<|Aa fun ops=>oA rfl<|Ac<|n_K<|Ak ?_
 refine D7 [0,1,2,3,4] kQ (fun (_u:Unit)=>[]) (fun (_u:Unit)=>True) (fun (_u:Unit)=>0) (()) (by first | trivial | omega | simp) kP ?_
 rintro _ _
 refine Ak<|Ad<|Aa fun ops=>oM rfl<|oM rfl ?_
 refine oR (Cy rfl rfl (by omega)) ?_
 refine oA rfl<|Ac<|n_K<|Ad<|Ad<|Aa fun ops=>oM rfl<|oR (Ae rfl rfl rfl)<|Ac<|n_K ?_
 refine Aj rfl (fun c25=> ?_) (fun c25=> ?_)
 ·simp only [decide_eq_true_eq,decide_eq_false_iff_not] at c25
  refine Ad<|Aa fun ops=>oM rfl<|oM rfl<|oM rfl<|oM rfl ?_
  refine Bd rfl (Ac6 ho) sP rfl fun v30 Y30 h30=> ?_
  obtain ⟨rfl,s30,rfl,hv30,ho30,hp30,hq30⟩:=h30
  refine Ay aQ ?_
  refine Ac<|n_K<|An<|r_K<|Bn<|r_K<|Bn ?_
  exact Av (Ml Tryz.results160) (by exact ⟨rfl,s30,rfl,hv30,ho30,hp30,hq30⟩) sP
 ·simp only [decide_eq_true_eq,decide_eq_false_iff_not] at c25
  omega
end
section
open Go.K
instance agg61:Agg Tryz.prog 61 false:=⟨⟨_,Tryz.underlying61,rfl⟩⟩
instance und155:Und Tryz.prog 155 (.slice 65):=⟨Tryz.underlying155⟩
instance agg155:Agg Tryz.prog 155 false:=⟨⟨_,Tryz.underlying155,rfl⟩⟩
instance siz155:Siz Tryz.prog 155 1:=⟨by kernel_rfl⟩
instance zer153:Zer Tryz.prog 153 ([.slice none 0 0]):=⟨by kernel_rfl⟩
instance zer157:Zer Tryz.prog 157 ([.int .i64 0,.int .u64 0,.int .u64 0,.slice none 0 0]):=⟨by kernel_rfl⟩
instance fld157_3:Fld Tryz.prog 157 3 3:=⟨⟨_,_,0,Tryz.underlying157,rfl,by kernel_rfl,rfl⟩⟩
instance plc157:Plc Tryz.prog 157 [(0,1),(1,1),(2,1),(3,1)]:=⟨⟨_,Tryz.underlying157,fun _=>by kernel_rfl⟩⟩
instance byt65:Byt Tryz.prog 65 16:=⟨by kernel_rfl⟩
instance byt157:Byt Tryz.prog 157 48:=⟨by kernel_rfl⟩
instance ent77:Ent Tryz.prog 77:=⟨fun _ _=>by kernel_rfl⟩
instance ent117:Ent Tryz.prog 117:=⟨fun _ _=>by kernel_rfl⟩
set_option maxRecDepth 20000
set_option maxHeartbeats 1000000
theorem Akt {s:Sl Seg} (ho:s.isOwn=true) (hn:s.list.length≤12):Does Tryz.prog 117 [s.val,.func (.func 118) #[] #[]] (s.hp Hj++[])
  (fun v H=>v= .tuple #[]∧∃ s':Sl Seg,H=s'.hp Hj++[]∧s'.val=s.val∧s'.isOwn=true∧s'.list.Perm s.list∧SortTo s'.list s.list.length):=by
 refine Ah (n:=14) Tryz.func117 Tryz.ntmps117 rfl (Nat.le_of_ble_eq_true rfl)<|Ad<|Aa fun ops=>oM rfl<|oR (A7 rfl)<|oA rfl<|Ac<|n_K<|Aa fun ops=>oM rfl<|oM rfl<|oM rfl ?_
 refine oR (Ft rfl (Hg .u64 rfl (by show _<2 ^ 64;omega))) ?_
 refine A6 rfl (Ad6 (n:=s.list.length) (by omega)) sP rfl aQ ?_
 refine oM rfl ?_
 refine Bd rfl (Ap1 ho hn) sP rfl fun v13 Y13 h13=> ?_
 obtain ⟨rfl,s13,rfl,hv13,ho13,hp13,hq13⟩:=h13
 refine Ay aQ ?_
 refine Ac ?_
 exact H5 (Ml Tryz.results117) (by exact ⟨rfl,s13,rfl,hv13,ho13,hp13,hq13⟩) sP
def Gq (v:Blk) (b:Int):Nat→List Pl2
 | 0=>[]
 | i+1=>Gq v b i++if 2≤i∧(Eb (A9 v i)).2.2.2=0 then [(b,(i:Int))] else []
theorem Xt (v:Blk) (b:Int):Gq v b 2=[]:=by simp [Gq]
theorem Vn (v:Blk) (b:Int):∀ i,(Gq v b i).length≤i
 | 0=>Nat.le_refl _
 | i+1=>by
  have:=Vn v b i
  unfold Gq
  split <;> simp <;> omega
abbrev SV:=Int×Wd×Wd×List Pl2
def U5 (s:Seg):SV:=(s.b,s.seq,s.wear,s.recs.list)
def Mo (V:Nat→Blk) (bs:List LB):Nat→List SV
 | 0=>[]
 | j+1=>Mo V bs j++if (bAt bs j).seq.toNat=0 then [] else [((j:Int),(bAt bs j).seq,(bAt bs j).wear,Gq (V j) j 8)]
theorem Vo (V:Nat→Blk) (bs:List LB):∀ i,(Mo V bs i).length≤i
 | 0=>Nat.le_refl _
 | i+1=>by
  have:=Vo V bs i
  unfold Mo
  split <;> simp <;> omega
def I1 (l:List Seg):Hp:=l.flatMap fun s=>s.recs.hp U4
theorem Aku (l:List Seg) (s:Seg):I1 (l++[s])=I1 l++s.recs.hp U4:=by simp [I1]
abbrev U6:TypeId:=61
abbrev Mq:TypeId:=153
section
variable {d:Dsk} {n k:Nat} {q:Qt} {lg bb nb:Nat} {last:Int} {V:Nat→Blk} {bs:List LB}
def Avs (d:Dsk) (V:Nat→Blk) (bs:List LB) (lg b1 b2:Nat) (j:Nat) (X:Hp):Prop :=
 ∃ out:Sl Seg,X=(b1,true,C [ptr lg] U6)::(b2,true,C [out.val] Mq)::(out.hp Hj++(I1 out.list++dkH d))∧out.isOwn=true∧out.list.map U5=Mo V bs j∧∀ x∈out.list,x.recs.isOwn=true
theorem Z8 (h:DD d n k V) (hnb:nb+6=n) (hn40:n≤40) (hl:bs.length=nb) (h12:(Mo V bs nb).length≤12):Does Tryz.prog 77 [ptr lg] ((lg,true,C (lgC d.dk bb nb last) tLg)::(bb,true,C (lbs bs) tLB)::(dkH d++[]))
  (fun v H=>∃ (s:Sl Seg) (l0:List Seg),v=s.val∧H=s.hp Hj++(I1 l0++((lg,true,C (lgC d.dk bb nb last) tLg)::(bb,true,C (lbs bs) tLB)::(dkH d++[])))∧l0.Perm s.list∧s.isOwn=true∧(s.list.map U5).Perm (Mo V bs nb)∧SortTo s.list s.list.length∧∀ x∈s.list,x.recs.isOwn=true):=by
 refine P6 (n:=58) Tryz.func77 Tryz.ntmps77 rfl (Nat.le_of_ble_eq_true rfl) ?_
 refine Alb ?_
 refine Aa fun ops=> ?_
 refine De rfl rfl fun b1=> ?_
 refine Aw rfl fun b2=> ?_
 refine Ac ?_
 refine ⟨rfl,?_⟩
 refine Adb ?_
 refine Aa fun ops=> ?_
 refine oR (Al rfl mM rfl) ?_
 refine oR (Aah (fi:=[.tmp 12]) (cap:=[]) rfl rfl) ?_
 refine Ac ?_
 refine ⟨rfl,?_⟩
 refine Aqg (fi:=[ptr lg]) (L:=(lg,true,C (lgC d.dk bb nb last) tLg)::(bb,true,C (lbs bs) tLB)::(b1,true,C [ptr lg] U6)::(b2,true,C [(Sl.nil:Sl Seg).val] Mq)::(dkH d++[])) (F:=[]) (R1:=fun M=>∃ X,M=(lg,true,C (lgC d.dk bb nb last) tLg)::(bb,true,C (lbs bs) tLB)::(X++[])∧Avs d V bs lg b1 b2 nb X) rfl sP ?_ ?_
 ·intro D l f0 tm ht hsz
  refine (Ap0 (dk:=d.dk) (I:=Avs d V bs lg b1 b2) (X0:=(b1,true,C [ptr lg] U6)::(b2,true,C [(Sl.nil:Sl Seg).val] Mq)::dkH d) hl (by omega) rfl ⟨.nil,by rw [Sl.hp_nil];rfl,rfl,rfl,fun x hx=>nomatch hx⟩ ?_ ?_).mono ?_
  ·rintro j X hj h0 ⟨out,hX,ho,hm,hr⟩
   exact ⟨out,hX,ho,by rw [hm];show _=Mo V bs j++_;rw [if_pos h0,List.append_nil],hr⟩
  rotate_left
  ·rintro v Y ⟨rfl,X,rfl,hX⟩
   exact ⟨_,_,rfl,(fun e=>nomatch e),X,rfl,hX⟩
  rintro j X hj hne ⟨out,rfl,ho,hm,hr⟩
  rw [show ((b1,true,C [ptr lg] U6)::(b2,true,C [out.val] Mq)::(out.hp Hj++(I1 out.list++dkH d))++[]:Hp)=(b1,true,C [ptr lg] U6)::(b2,true,C [out.val] Mq)::(out.hp Hj++(I1 out.list++(dkH d++[]))) by simp [List.append_assoc]]
  have hgj:bs[j]? =some (bAt bs j):=Ep (by omega)
  have hol:out.list.length≤40:=(by have e:=congrArg List.length hm;rw [List.length_map] at e;rw [e];have:=Vo V bs j;omega)
  refine Tj (n:=58) [(14,.int .i64 (j:Nat)),(1,ptr b1),(2,ptr b2)] (by rw [show F9 _ _=tm.setIfInBounds 14 (.int .i64 (j:Nat)) from by simp [F9]];exact EnvOk.put (a:=⟨tm,[]⟩) (d:=14) (v:= .int .i64 (j:Nat)) ((Keep.cons rfl<|Keep.cons rfl .nil).ok ht) (by rw [hsz];decide)) (by simp [F9,hsz]) rfl fun rg=> ?_
  refine Aa fun ops=>oA rfl<|Ac ?_
  refine ⟨rfl,_,rfl,?_⟩
  refine Ak<|Ad<|Aa fun ops=> ?_
  refine oR (Al rfl mM rfl) ?_
  refine oN rfl<|oF rfl ?_
  refine oR (Al rfl mM rfl) ?_
  refine oM rfl ?_
  refine oR (Cp rfl rfl (by omega)) ?_
  refine oR (Au rfl mM (by simp only [Int.toNat_natCast];exact Pv hgj)) ?_
  refine Aw rfl fun b4=> ?_
  refine Af rfl rfl uD rfl rfl rfl ?_
  refine Ac<|n_K<|Ad<|Aa fun ops=>oM rfl<|oF rfl ?_
  refine oR (Al rfl mM rfl) ?_
  refine oF rfl ?_
  refine oR (Al rfl mM rfl) ?_
  refine oR (Bc rfl rfl) ?_
  refine Aw rfl fun b5=> ?_
  refine Af rfl rfl uD rfl rfl rfl ?_
  refine Ac<|n_K<|Ad<|Ad<|Aa fun ops=>oA rfl<|Ac<|n_K<|Ak ?_
  refine A8 [1,2,3,5] kQ (fun (st:Nat×Sl Pl2)=>[(6,.int .i64 st.1)]) (fun (st:Nat×Sl Pl2)=>(l,true,.loop ⟨.busy,none,f0,tm,_,_,_,D⟩)::(lg,true,C (lgC d.dk bb nb last) tLg)::(bb,true,C (lbs bs) tLB)::(b1,true,C [ptr lg] U6)::(b2,true,C [out.val] Mq)::(b5,true,C (Z5 ⟨j,(bAt bs j).seq,(bAt bs j).wear,st.2⟩) Hj)::(st.2.hp U4++(out.hp Hj++(I1 out.list++(dkH d++[]))))) (fun (st:Nat×Sl Pl2)=>2≤st.1∧st.1≤8∧st.2.isOwn=true∧st.2.list=Gq (V j) j st.1) (fun (st:Nat×Sl Pl2)=>8 - st.1) ((2,Sl.nil)) ⟨Nat.le_refl _,by decide,rfl,(Xt _ _).symm⟩ kP (by rw [Sl.hp_nil,List.nil_append];exact sP) ?_
  rintro ⟨i,rs⟩ ⟨g1,g2,g3,g4⟩
  simp only at g1 g2 g3 g4
  have hrl:=Vn (V j) j i
  rw [← g4] at hrl
  refine Ad<|Ad<|Aa fun ops=>oM rfl<|oR (Ae rfl rfl rfl)<|Ac<|n_K ?_
  refine Aj rfl (fun c29=> ?_) (fun c29=> ?_)
  ·simp only [decide_eq_true_eq,decide_eq_false_iff_not] at c29
   refine Ai<|n_K<|Ad<|Ak<|Ad<|Aa fun ops=>oM rfl<|oM rfl<|oR (Bc rfl rfl) ?_
   refine Aw rfl fun b7=> ?_
   refine Af rfl rfl uD rfl rfl rfl ?_
   refine Ac<|n_K<|Ad<|Aa fun ops=> ?_
   refine oR (Al rfl mM rfl) ?_
   refine oR (Au rfl mM rfl) ?_
   refine Bd rfl (Aks h (b:=j) (j:=i) (by omega) (by omega)) sP rfl fun v38 Y38 h38=> ?_
   obtain ⟨s38,rfl,rfl,hs38,ho38⟩:=h38
   refine Ay aQ ?_
   refine oM rfl<|oE rfl rfl<|oE rfl rfl<|oE rfl rfl<|oE rfl rfl<|oA rfl<|oA rfl<|oA rfl<|oA rfl<|Ac<|n_K<|Ad<|Aa fun ops=>oM rfl ?_
   refine oR (Ae rfl rfl rfl)<|Ac<|n_K ?_
   refine Aj rfl (fun c44=> ?_) (fun c44=> ?_)
   ·simp only [decide_eq_true_eq,decide_eq_false_iff_not] at c44
    have hrT:Gq (V j) j (i+1)=rs.list++[((j:Int),(i:Int))]:=(by show Gq (V j) j i++_=_;rw [if_pos ⟨g1,c44⟩,g4])
    refine Aa fun ops=>oF rfl ?_
    refine oR (Al rfl mM rfl) ?_
    refine oR (Au rfl mM rfl) ?_
    refine A5 rfl rfl rfl rfl fun b48=> ?_
    refine Bp (s:=rs) (new:=[((j:Int),(i:Int))]) (m:=1) rfl rfl pL g3 (Cv (r:=true) mM rfl) rfl rfl rfl rfl (by omega) rfl fun rs' hs1 hs2=> ?_
    refine oF rfl ?_
    refine Af rfl rfl uD rfl rfl rfl ?_
    refine Ac<|Az<|n_K<|Aa fun ops=>oM rfl ?_
    refine oR (Ao rfl rfl (by omega)) ?_
    refine oA rfl<|Ac<|n_K ?_
    first | exact ⟨(i+1,rs'),⟨by simp only;omega,by simp only;omega,hs2,by rw [hrT];exact hs1⟩,by simp only;omega,lZ⟩ | exact ⟨(i+1,rs),⟨by simp only;omega,by simp only;omega,g3,hrF.symm⟩,by simp only;omega,lZ⟩
   ·simp only [decide_eq_true_eq,decide_eq_false_iff_not] at c44
    have hrF:Gq (V j) j (i+1)=rs.list:=(by show Gq (V j) j i++_=_;rw [if_neg (fun e=>c44 e.2),List.append_nil,g4])
    refine Ai<|Az<|n_K<|Aa fun ops=>oM rfl ?_
    refine oR (Ao rfl rfl (by omega)) ?_
    refine oA rfl<|Ac<|n_K ?_
    first | exact ⟨(i+1,rs'),⟨by simp only;omega,by simp only;omega,hs2,by rw [hrT];exact hs1⟩,by simp only;omega,lZ⟩ | exact ⟨(i+1,rs),⟨by simp only;omega,by simp only;omega,g3,hrF.symm⟩,by simp only;omega,lZ⟩
  ·simp only [decide_eq_true_eq,decide_eq_false_iff_not] at c29
   have hi8:i=8:=(by omega)
   subst hi8
   refine Bb<|x_K<|x_K<|Bj<|n_K<|Aa fun ops=> ?_
   refine oR (Al rfl mM rfl) ?_
   refine oR (Au rfl mM rfl) ?_
   refine A5 rfl rfl rfl rfl fun b53=> ?_
   refine Bp (s:=out) (new:=[(⟨(j:Nat),(bAt bs j).seq,(bAt bs j).wear,rs⟩:Seg)]) (m:=1) rfl rfl pL ho (Cv (r:=true) mM rfl) rfl rfl rfl rfl (by omega) rfl fun out' hs1 hs2=> ?_
   refine Af rfl rfl uD rfl rfl rfl ?_
   refine Ac<|Az ?_
   refine ⟨rfl,(lg,true,C (lgC d.dk bb nb last) tLg)::(bb,true,C (lbs bs) tLB)::(b1,true,C [ptr lg] U6)::(b2,true,C [out'.val] Mq)::(out'.hp Hj++(I1 out.list++(rs.hp U4++(dkH d++[])))),_,sP,rfl,(b1,true,C [ptr lg] U6)::(b2,true,C [out'.val] Mq)::(out'.hp Hj++(I1 out'.list++dkH d)),?_,out',rfl,hs2,?_,?_⟩
   ·rw [hs1,Aku];simp [List.append_assoc]
   ·rw [hs1,List.map_append,hm];show _=Mo V bs j++_;rw [if_neg hne,← g4];rfl
   ·intro x hx
    rw [hs1] at hx
    rcases List.mem_append.1 hx with hx | hx
    ·exact hr x hx
    ·obtain rfl:=List.mem_singleton.1 hx;exact g3
 ·rintro rg D M ⟨X,rfl,out,rfl,ho,hm,hr⟩
  have hn:out.list.length≤12:=by have e:=congrArg List.length hm;rw [List.length_map] at e;omega
  rw [show (Go.K.mark D::(((lg,true,C (lgC d.dk bb nb last) tLg)::(bb,true,C (lbs bs) tLB)::((b1,true,C [ptr lg] U6)::(b2,true,C [out.val] Mq)::(out.hp Hj++(I1 out.list++dkH d))++[]))++[]):Hp)=Go.K.mark D::(lg,true,C (lgC d.dk bb nb last) tLg)::(bb,true,C (lbs bs) tLB)::(b1,true,C [ptr lg] U6)::(b2,true,C [out.val] Mq)::(out.hp Hj++(I1 out.list++(dkH d++[]))) by simp [List.append_assoc]]
  refine Ad<|Aa fun ops=> ?_
  refine oR (Al rfl mM rfl) ?_
  refine Bd rfl (Akt ho hn) sP rfl fun v56 Y56 h56=> ?_
  obtain ⟨rfl,s56,rfl,hv56,ho56,hp56,hq56⟩:=h56
  refine Ay aQ ?_
  refine Ac<|n_K<|Ad<|Aa fun ops=> ?_
  refine oR (Al rfl mM rfl) ?_
  refine Af rfl rfl uD rfl rfl rfl ?_
  refine Ac<|n_K<|An ?_
  refine pkD ?_
  exact Av (At Tryz.results77 (Alt rfl mM rfl)) (by exact ⟨s56,out.list,hv56.symm,rfl,hp56.symm,ho56,by rw [← hm];exact hp56.map _,by rw [hp56.length_eq];exact hq56,fun x hx=>hr x (hp56.mem_iff.1 hx)⟩) sP
end
end
section
open Go.K
instance ent85:Ent Tryz.prog 85:=⟨fun _ _=>by kernel_rfl⟩
set_option maxRecDepth 20000
set_option maxHeartbeats 1000000
def U7 (bs0:List LB) (i:Nat):Wd:=(if (bAt bs0 i).known=true then (bAt bs0 i).wear else 0)+1
structure NwI (n nb k:Nat) (q:Qt) (c0:Chip) (bs0:List LB) (j:Nat) (t:Tab) (c:Chip) (bs:List LB) (V:Nat→Blk):Prop where
 le:j≤nb
 len:bs.length=nb
 fr:FrA c0 c
 dv:DV c t.ts n (k+40*j) V
 acc:Acc q c t.ts
 old:∀ i,j≤i→bAt bs i=bAt bs0 i
 new:∀ i<j,bAt bs i=Ik (U7 bs0 i)∧(V i).next=1∧A9 (V i) 0=I7 (U7 bs0 i)
theorem NwI.step {n nb k:Nat} {q:Qt} {j:Nat} {c0 c c':Chip} {bs0 bs bsx bs':List LB} {t t':Tab} {V:Nat→Blk} (g:NwI n nb k q c0 bs0 j t c bs V) (hj:j<nb) (hl:bsx.length=nb) (ho:∀ i,i≠j→bAt bsx i=bAt bs i)
  (hw:(bAt bsx j).wear+1=U7 bs0 j) (hW:Akj n nb (k+40*j+40) q V j bsx c bs' 0 t'.ts c'):∃ V',NwI n nb k q c0 bs0 (j+1) t' c' bs' V':=by
 obtain ⟨h1,h2,v,h3⟩:=hW
 obtain ⟨_,h4,h5,h6,h7,h8⟩:=h3.resolve_right (fun h=>absurd h.1 (by decide))
 have hb:∀ i,bAt bs' i=if i=j then Ik (U7 bs0 j) else bAt bs i:=fun i=>by
  rw [h6,Dq (by omega),hw]
  by_cases e:i=j
  ·rw [if_pos e,if_pos e]
  ·rw [if_neg e,if_neg e,ho i e]
 refine ⟨upV V j v,by omega,h1,g.fr.trans h2,?_,h5,fun i hi=> ?_,fun i hi=> ?_⟩
 ·have:k+40*(j+1)=k+40*j+40:=by omega
  rw [this];exact h4
 ·rw [hb,if_neg (by omega)];exact g.old i (by omega)
 ·rw [hb]
  by_cases e:i=j
  ·subst e
   rw [if_pos rfl,E5]
   exact ⟨rfl,h7,by rw [h8,hw]⟩
  ·rw [if_neg e]
   have:=g.new i (by omega)
   have hv:upV V j v i=V i:=by unfold upV;rw [if_neg e]
   rw [hv];exact this
section
variable {d:Dsk} {n k:Nat} {q:Qt} {nb:Nat} {V:Nat→Blk}
theorem Ap2 (h:DD d n k V) (hk:k≤100000000000) (hq:q.n≤3) (hacc:Acc q d.c d.t.ts) (hnb:nb+6=n) (haf:d.c.after<0):Does Tryz.prog 85 [ptr d.dk] (dkH d++[])
  (fun v H=>∃ (lg bb:Nat) (t':Tab) (c':Chip) (bs':List LB) (V':Nat→Blk),v= .tuple #[ptr lg,.int .i64 0]∧H=(lg,true,C (lgC d.dk bb nb (-1)) tLg)::(bb,true,C (lbs bs') tLB)::(dkH ⟨d.dk,t',c'⟩++[])∧NwI n nb k q d.c (D2 V nb).1 nb t' c' bs' V'):=by
 have hn40:=h.di.wf.n2
 have hol:(D2 V nb).1.length=nb:=by first | exact Pw .. | simp [D2,E7]
 refine Ah (n:=51) Tryz.func85 Tryz.ntmps85 rfl (Nat.le_of_ble_eq_true rfl)<|Ad<|Aa fun ops=>oA rfl<|oA rfl<|Ac<|n_K<|Ad<|Aa fun ops=>oM rfl ?_
 refine Bd rfl (Z2 h hnb) sP rfl fun v10 Y10 h10=> ?_
 obtain ⟨lg10,bb10,rfl,rfl⟩:=h10
 refine Ay aQ ?_
 refine oM rfl<|oE rfl rfl<|oE rfl rfl<|oA rfl<|oA rfl<|Ac<|n_K<|Ad<|Ad<|Aa fun ops=>oM rfl<|oR (Ae rfl rfl rfl)<|Ac<|n_K ?_
 refine Bi rfl ?_
 refine Ai<|n_K<|Ad<|Ad<|Aa fun ops=>oM rfl<|oN rfl<|oF rfl ?_
 refine oR (Al rfl mM rfl) ?_
 refine oR (A7 rfl)<|oM rfl<|Ac<|n_K<|Ak ?_
 refine A8 [4,20] kQ (fun (st:Nat×Tab×Chip×List LB)=>[(21,.int .i64 st.1)]) (fun (st:Nat×Tab×Chip×List LB)=>(lg10,true,C (lgC d.dk bb10 nb (D2 V nb).2) tLg)::(bb10,true,C (lbs st.2.2.2) tLB)::(dkH ⟨d.dk,st.2.1,st.2.2.1⟩++[])) (fun (st:Nat×Tab×Chip×List LB)=>∃ V',NwI n nb k q d.c (D2 V nb).1 st.1 st.2.1 st.2.2.1 st.2.2.2 V') (fun (st:Nat×Tab×Chip×List LB)=>nb - st.1) ((0,d.t,d.c,(D2 V nb).1)) ⟨V,Nat.zero_le _,hol,FrA.refl _,h,hacc,fun _ _=>rfl,fun i hi=>(by cases hi)⟩ kP sP ?_
 rintro ⟨i,t1,c1,bs⟩ ⟨V1,g⟩
 simp only at g
 have g0:=g.le
 have g1:=g.len
 refine Ad<|Aa fun ops=>oR (Ae rfl rfl rfl)<|Ac<|n_K<|Ad ?_
 refine Aj rfl (fun c22=> ?_) (fun c22=> ?_)
 ·simp only [decide_eq_true_eq,decide_eq_false_iff_not] at c22
  have hi:i<nb:=(by omega)
  have hgi:bs[i]? =some (bAt bs i):=Ep (by omega)
  have gold:=g.old i (Nat.le_refl _)
  refine Ai<|n_K<|Ad<|Ak<|Ad<|Aa fun ops=>oM rfl<|oA rfl<|Ac<|n_K<|Ad<|Ad<|Aa fun ops=>oM rfl ?_
  refine oN rfl<|oF rfl ?_
  refine oR (Al rfl mM rfl) ?_
  refine oM rfl ?_
  refine oR (Cp rfl rfl (by omega)) ?_
  refine oF rfl ?_
  refine oR (Al rfl mM (by simp only [Int.toNat_natCast];exact Fn (o:=1) hgi (by omega) rfl)) ?_
  refine oR (Bx rfl)<|Ac<|n_K ?_
  refine Aj rfl (fun c32=> ?_) (fun c32=> ?_)
  ·skip
   have hkn:(bAt bs i).known=false:=(by simpa using c32)
   obtain ⟨bx,hbx⟩:∃ x,x=bs.set i { bAt bs i with wear:=0 }:=⟨_,rfl⟩
   have hlx:bx.length=nb:=(by rw [hbx,List.length_set];exact g1)
   have hx:∀ j,j≠i→bAt bx j=bAt bs j:=(fun j hj=>by rw [hbx,Dq (by omega),if_neg hj])
   have hw:(bAt bx i).wear+1=U7 (D2 V nb).1 i:=(by rw [hbx,Dq (by omega),if_pos rfl];unfold U7;rw [← gold,if_neg (by rw [hkn];decide)])
   refine Aa fun ops=>oM rfl<|oN rfl<|oF rfl ?_
   refine oR (Al rfl mM rfl) ?_
   refine oM rfl ?_
   refine oR (Cp rfl rfl (by omega)) ?_
   refine oF rfl ?_
   refine Af (cs':=lbs bx) rfl rfl uD rfl rfl (by rw [hbx];simp only [Int.toNat_natCast];exact Ek (o:=0) hgi rfl) ?_
   refine Ac<|n_K<|Ad<|Aa fun ops=>oM rfl<|oM rfl ?_
   refine Bd rfl (Nz (d:=⟨d.dk,t1,c1⟩) (bs:=bx) g.dv (by omega) hq g.acc hnb hlx hi) sP rfl fun v42 Y42 h42=> ?_
   obtain ⟨t2,c2,bs2,e2,rfl,rfl,hW⟩:=h42
   refine Ay aQ ?_
   refine oA rfl<|Ac<|n_K<|Ad<|Aa fun ops=>oM rfl<|oR (Ae rfl rfl rfl)<|Ac<|n_K ?_
   refine Aj rfl (fun c44=> ?_) (fun c44=> ?_)
   ·skip
    exact absurd (hW.2.2.elim fun v hv=>hv.elim (fun h1=>absurd h1.1 (by simpa using c44)) (fun h1=>absurd (g.fr.pos haf).1 (fun e=>h1.2.2.1 (by rw [e];exact haf)))) id
   ·skip
    have he2:e2=0:=(by simpa using c44)
    subst he2
    refine Ai<|Az<|n_K<|Aa fun ops=> ?_
    refine oR (Ao rfl rfl (by omega)) ?_
    refine oM rfl<|Ac<|n_K ?_
    obtain ⟨V2,g2⟩:=g.step hi hlx hx hw hW
    exact ⟨(i+1,t2,c2,bs2),⟨V2,g2⟩,by simp only;omega,lZ⟩
  ·skip
   obtain ⟨bx,hbx⟩:∃ x,x=bs:=⟨_,rfl⟩
   subst hbx
   have hkn:(bAt bx i).known=true:=(by simpa using c32)
   have hlx:=g1
   have hx:∀ j,j≠i→bAt bx j=bAt bx j:=(fun j hj=>rfl)
   have hw:(bAt bx i).wear+1=U7 (D2 V nb).1 i:=(by unfold U7;rw [← gold,if_pos hkn])
   refine Ai<|n_K<|Ad<|Aa fun ops=>oM rfl<|oM rfl ?_
   refine Bd rfl (Nz (d:=⟨d.dk,t1,c1⟩) (bs:=bx) g.dv (by omega) hq g.acc hnb hlx hi) sP rfl fun v42 Y42 h42=> ?_
   obtain ⟨t2,c2,bs2,e2,rfl,rfl,hW⟩:=h42
   refine Ay aQ ?_
   refine oA rfl<|Ac<|n_K<|Ad<|Aa fun ops=>oM rfl<|oR (Ae rfl rfl rfl)<|Ac<|n_K ?_
   refine Aj rfl (fun c44=> ?_) (fun c44=> ?_)
   ·skip
    exact absurd (hW.2.2.elim fun v hv=>hv.elim (fun h1=>absurd h1.1 (by simpa using c44)) (fun h1=>absurd (g.fr.pos haf).1 (fun e=>h1.2.2.1 (by rw [e];exact haf)))) id
   ·skip
    have he2:e2=0:=(by simpa using c44)
    subst he2
    refine Ai<|Az<|n_K<|Aa fun ops=> ?_
    refine oR (Ao rfl rfl (by omega)) ?_
    refine oM rfl<|Ac<|n_K ?_
    obtain ⟨V2,g2⟩:=g.step hi hlx hx hw hW
    exact ⟨(i+1,t2,c2,bs2),⟨V2,g2⟩,by simp only;omega,lZ⟩
 ·simp only [decide_eq_true_eq,decide_eq_false_iff_not] at c22
  have hi:i=nb:=(by omega)
  subst hi
  refine Bb<|x_K<|x_K<|Bj<|n_K<|Ad<|Aa fun ops=>oM rfl<|oN rfl<|oF rfl ?_
  refine Af rfl rfl uD rfl rfl rfl ?_
  refine Ac<|n_K<|Ad<|Aa fun ops=>oM rfl<|oA rfl<|oA rfl<|Ac<|n_K<|An ?_
  exact Av (Bz Tryz.results85 (Ag rfl) (Ag rfl)) (by exact ⟨lg10,bb10,t1,c1,bs,V1,rfl,rfl,g⟩) sP
end
end
section
open Go.K
set_option maxRecDepth 20000
set_option maxHeartbeats 1000000
structure Laid (m:Nat) (d:Dsk) (bs:List LB) (V:Nat→Blk):Prop where
 len:bs.length+6=m
 dv:DV d.c d.t.ts m 2000 V
 acc:Acc ⟨0,Ns (Gy m []) ((m:Int) - 6) m⟩ d.c d.t.ts
 af:d.c.after<0
 blk:∀ i<bs.length,bAt bs i=Ik (U7 (D2 (fun _=>Gz false) bs.length).1 i)∧(V i).next=1∧A9 (V i) 0=I7 (U7 (D2 (fun _=>Gz false) bs.length).1 i)
end
section
open Go.K
set_option maxRecDepth 20000
set_option maxHeartbeats 1000000
theorem Atu:∀ k:Fin 41,16≤k.val→Vc (Gy k.val [])=false:=by decide +kernel
theorem Atv {m:Nat} (h:16≤m∧m≤40):Vc (Gy m [])=false:=Atu ⟨m,by omega⟩ h.1
end
section
open Go.K
set_option maxRecDepth 20000
set_option maxHeartbeats 1000000
def RecP (p:Pg):Prop:=∃ (kind:By) (b:List By),3<kind.toNat∧C6 kind b=false∧p=Cw kind b
theorem RecP.mend {p:Pg} (h:RecP p):Dv p=p:=by
 obtain ⟨kind,b,_,h2,rfl⟩:=h
 exact Vd h2
theorem Ae7 {v w:Blk} {j i:Nat} (h:Rq v w j) (hi:i<j) (hj:j≤8) (hm:Dv (A9 w i)=A9 w i):A9 v i=A9 w i:=by
 have h8:i<8:=by omega
 rw [Fa h8] at hm ⊢
 rcases h i h8 hi with e | e
 ·rw [e,Fa h8]
 ·rw [e,hm,Fa h8]
end
section
open Go.K
set_option maxRecDepth 20000
set_option maxHeartbeats 1000000
def upR (R:Nat→List Pg) (b:Nat) (r:List Pg):Nat→List Pg:=fun j=>if j=b then r else R j
section
variable {n nb k k':Nat} {q:Qt} {d:Dsk} {bs:List LB} {last:Int} {V:Nat→Blk} {R:Nat→List Pg} {p:Pg} {t':Tab} {c':Chip} {v:Blk}
end
end
section
open Go.K
set_option maxRecDepth 20000
set_option maxHeartbeats 1000000
section
variable {n nb k:Nat} {q:Qt} {d:Dsk} {bs bs':List LB} {last last' e pb pj:Int} {V:Nat→Blk} {R:Nat→List Pg} {p:Pg} {t':Tab} {c':Chip}
end
end
section
open Go.K
set_option maxRecDepth 20000
set_option maxHeartbeats 1000000
section
variable {n nb k:Nat} {q:Qt} {lg bb:Nat} {d:Dsk} {bs:List LB} {last:Int} {V:Nat→Blk} {R:Nat→List Pg}
end
end
section
open Go.K
set_option maxRecDepth 20000
set_option maxHeartbeats 1000000
theorem DV.again {c:Chip} {t:TS} {n k:Nat} {V:Nat→Blk} (h:DV c t n k V):∃ t2,Dj c=(0,t2)∧t2.lost=t.lost∧t2.uses=t.uses∧DV c t2 n k V:=by
 obtain ⟨a,_,hh,_⟩:=h.di.ti
 obtain ⟨t2,o1,o2,o3,o4⟩:=Ve h.di.up hh h.di.wf h.di.len h.di.bs h.di.cnt h.di.ver
 exact ⟨t2,o1,o4,o3,o2,fun l hl=>by rw [o3];exact h.vw l hl⟩
theorem Atw {p:Pg} (h:(Cg p).2.2.2=0):Bs p=false:=by
 cases hb:Bs p with
 | false=>rfl
 | true=>rw [E6 hb] at h;exact absurd h (by decide)
theorem Atx {kind:By} (h:0<kind.toNat∧kind.toNat<255) (x:Wd):Bs (U3 kind x)=false:=Atw (by unfold U3;rw [Ig (J9 h x)])
theorem Ahj {p:Pg} (h:Bs p=true):(Eb p).2.2.2≠0:=by
 unfold Eb
 rw [E6 h]
 decide
theorem BI.pg {v:Blk} (h:BI v) {j:Nat} (hj:j<8) (hn:v.next≤j):A9 v j=A0:=by
 rw [Fa hj]
 exact h.bl j hj hn
theorem Z9 {bs cs:List LB}:∀ k,(∀ j<k,(bAt bs j).seq=(bAt cs j).seq)→Dw bs k=Dw cs k
 | 0,_=>rfl
 | k+1,h=>by
  have ih:=Z9 k fun j hj=>h j (by omega)
  have hr:=Px cs k
  unfold Dw
  rw [ih,h k (by omega)]
  by_cases h1:Dw cs k<0
  ·simp [h1]
  ·rw [h (Dw cs k).toNat (by omega)]
theorem Gf {bs cs:List LB}:∀ k,(∀ j<k,((bAt bs j).seq.toNat=0↔(bAt cs j).seq.toNat=0))→Cb bs k=Cb cs k
 | 0,_=>rfl
 | k+1,h=>by
  have ih:=Gf k fun j hj=>h j (by omega)
  have:=h k (by omega)
  unfold Cb
  rw [ih]
  by_cases h1:(bAt cs k).seq.toNat=0
  ·rw [if_pos (this.2 h1),if_pos h1]
  ·rw [if_neg (fun h2=>h1 (this.1 h2)),if_neg h1]
section
variable {n nb k:Nat} {q:Qt} {d:Dsk} {bs:List LB} {last:Int} {V:Nat→Blk} {R:Nat→List Pg}
theorem Ahk (V:Nat→Blk) (nb:Nat):(D2 V nb).1.length=nb:=by simp [D2]
def Aw6 (b:Int) (m:Nat):List Pl2:=(List.range m).map fun i=>(b,((2+i:Nat):Int))
theorem Akv {v:Blk} {b:Int} {m:Nat} (h1:∀ i<m,(Eb (A9 v (2+i))).2.2.2=0):∀ i,i≤m→Gq v b (2+i)=Aw6 b i
 | 0,_=>Xt v b
 | i+1,h=>by
  rw [show 2+(i+1)=(2+i)+1 by omega]
  unfold Gq
  rw [Akv h1 i (by omega),if_pos ⟨by omega,h1 i (by omega)⟩]
  unfold Aw6
  rw [List.range_succ,List.map_append]
  rfl
theorem Sy {v:Blk} {b:Int} {m:Nat} (h2:∀ i,m≤i→2+i<8→(Eb (A9 v (2+i))).2.2.2≠0):∀ i,m≤i→2+i≤8→Gq v b (2+i)=Gq v b (2+m)
 | 0,h,_=>by rw [show m=0 by omega]
 | i+1,h,h8=>by
  by_cases e:m=i+1
  ·rw [e]
  ·rw [show 2+(i+1)=(2+i)+1 by omega]
   conv=>lhs;unfold Gq
   rw [Sy h2 i (by omega) (by omega),if_neg (fun h9=>h2 i (by omega) (by omega) h9.2),List.append_nil]
end
end
section
open Go.K
set_option maxRecDepth 20000
set_option maxHeartbeats 1000000
section
variable {n nb k:Nat} {q:Qt} {d:Dsk} {bs bs':List LB} {last last' e:Int} {V:Nat→Blk} {R R':Nat→List Pg} {t':Tab} {c':Chip} {p:Pg} {pb pj:Int}
def z1 (x:LB):Nat:=if x.seq.toNat=0 then 1 else 0
theorem F8 (bs:List LB) (k:Nat):Cb bs (k+1)=Cb bs k+z1 (bAt bs k):=rfl
end
end
section
open Go.K
set_option maxRecDepth 20000
set_option maxHeartbeats 1000000
section
variable {n nb k:Nat} {q:Qt} {i:Nat} {d:Dsk} {bs bs':List LB} {last last' e:Int} {V:Nat→Blk} {R R':Nat→List Pg} {p:Pg} {pb pj:Int}
end
section
variable {n nb k:Nat} {q:Qt} {lg bb:Nat} {d:Dsk} {bs:List LB} {last:Int} {V:Nat→Blk} {R:Nat→List Pg}
end
end
section
open Go.K
instance und54:Und Tryz.prog 54 (.array 32 5):=⟨Tryz.underlying54⟩
instance agg54:Agg Tryz.prog 54 true:=⟨⟨_,Tryz.underlying54,rfl⟩⟩
instance siz54:Siz Tryz.prog 54 32:=⟨by kernel_rfl⟩
instance ent79:Ent Tryz.prog 79:=⟨fun _ _=>by kernel_rfl⟩
instance ent87:Ent Tryz.prog 87:=⟨fun _ _=>by kernel_rfl⟩
set_option maxRecDepth 20000
set_option maxHeartbeats 1000000
abbrev Lv:=Vector By 32
abbrev tLv:TypeId:=54
def lv0:Lv:=Vector.replicate 32 0
theorem Aea:List.replicate 32 (Value.int .u8 0)=vbc lv0:=by kernel_rfl
def Dc (k:Int):Bool:=decide (0≤k) && decide (k<256)
theorem Ev {k:Int} (h:Dc k=true):∃ m:Nat,k=m∧m<256:=by
 unfold Dc at h
 simp at h
 exact ⟨k.toNat,by omega,by omega⟩
theorem Nk {m:Nat} (h:m<256):Dc (m:Int)=true:=by
 unfold Dc
 simp
 omega
def Aeb (l:Lv) (m:Nat):Bool:=if h:m / 8<32 then (l[m / 8]).getLsbD (m % 8) else false
def B4 (l:Lv) (k:Int):Bool:=Dc k && Aeb l k.toNat
def Abq (i:Nat):By:=1#8 <<< (i % 8)
def Rh (l:Lv) (m:Nat):Lv:=if h:m / 8<32 then l.set (m / 8) (l[m / 8] ||| Abq m) else l
def Eg (l:Lv) (k:Int):Lv:=if Dc k=true then Rh l k.toNat else l
def Ri (l:Lv) (m:Nat):Lv:=if h:m / 8<32 then l.set (m / 8) (l[m / 8] &&& ~~~ Abq m) else l
def Gv (l:Lv) (k:Int):Lv:=if Dc k=true then Ri l k.toNat else l
theorem Af7 (i j:Nat) (hj:j<8):(Abq i).getLsbD j=decide (j=i % 8):=by
 unfold Abq
 have h8:i % 8<8:=Nat.mod_lt _ (by decide)
 generalize i % 8=m at h8
 match m,h8,j,hj with
 | 0,_,0,_ | 0,_,1,_ | 0,_,2,_ | 0,_,3,_ | 0,_,4,_ | 0,_,5,_ | 0,_,6,_ | 0,_,7,_=>rfl
 | 1,_,0,_ | 1,_,1,_ | 1,_,2,_ | 1,_,3,_ | 1,_,4,_ | 1,_,5,_ | 1,_,6,_ | 1,_,7,_=>rfl
 | 2,_,0,_ | 2,_,1,_ | 2,_,2,_ | 2,_,3,_ | 2,_,4,_ | 2,_,5,_ | 2,_,6,_ | 2,_,7,_=>rfl
 | 3,_,0,_ | 3,_,1,_ | 3,_,2,_ | 3,_,3,_ | 3,_,4,_ | 3,_,5,_ | 3,_,6,_ | 3,_,7,_=>rfl
 | 4,_,0,_ | 4,_,1,_ | 4,_,2,_ | 4,_,3,_ | 4,_,4,_ | 4,_,5,_ | 4,_,6,_ | 4,_,7,_=>rfl
 | 5,_,0,_ | 5,_,1,_ | 5,_,2,_ | 5,_,3,_ | 5,_,4,_ | 5,_,5,_ | 5,_,6,_ | 5,_,7,_=>rfl
 | 6,_,0,_ | 6,_,1,_ | 6,_,2,_ | 6,_,3,_ | 6,_,4,_ | 6,_,5,_ | 6,_,6,_ | 6,_,7,_=>rfl
 | 7,_,0,_ | 7,_,1,_ | 7,_,2,_ | 7,_,3,_ | 7,_,4,_ | 7,_,5,_ | 7,_,6,_ | 7,_,7,_=>rfl
theorem Abr (l:Lv) {i j:Nat} (hi:i<32) (x:By) (hj:j<256):Aeb (l.set i x) j=if j / 8=i then x.getLsbD (j % 8) else Aeb l j:=by
 unfold Aeb
 have h:j / 8<32:=by omega
 rw [dif_pos h,dif_pos h,Vector.getElem_set]
 by_cases e:i=j / 8
 ·rw [if_pos e,if_pos e.symm]
 ·rw [if_neg e,if_neg (fun h=>e h.symm)]
theorem Ql (l:Lv) (k j:Int):B4 (Eg l k) j=(B4 l j || (Dc k && decide (j=k))):=by
 by_cases hk:Dc k=true
 ·obtain ⟨m,rfl,hm⟩:=Ev hk
  unfold Eg
  rw [if_pos hk,Int.toNat_natCast]
  unfold Rh
  rw [dif_pos (show m / 8<32 by omega)]
  unfold B4
  by_cases hj:Dc j=true
  ·obtain ⟨i,rfl,hi⟩:=Ev hj
   have hb:Aeb l i=if h:i / 8<32 then (l[i / 8]).getLsbD (i % 8) else false:=rfl
   rw [hj,hk,Int.toNat_natCast,Abr l (by omega) _ hi,hb,dif_pos (show i / 8<32 by omega)]
   simp only [Bool.true_and]
   by_cases e:i / 8=m / 8
   ·rw [if_pos e,BitVec.getLsbD_or,Af7 m (i % 8) (Nat.mod_lt _ (by decide))]
    have h1:l[i / 8]=l[m / 8]:=by simp only [e]
    rw [h1]
    congr 1
    exact decide_eq_decide.2 (by omega)
   ·rw [if_neg e,decide_eq_false (show ¬ ((i:Int)=(m:Int)) by omega),Bool.or_false]
  ·have:Dc j=false:=by simpa using hj
   rw [this,Bool.false_and,Bool.false_and,decide_eq_false (fun e=>by rw [e,hk] at this;cases this),Bool.and_false,Bool.or_false]
 ·have hk':Dc k=false:=by simpa using hk
  unfold Eg
  rw [if_neg hk,hk',Bool.false_and,Bool.or_false]
theorem Wy (l:Lv) (k j:Int):B4 (Gv l k) j=(B4 l j && !(Dc k && decide (j=k))):=by
 by_cases hk:Dc k=true
 ·obtain ⟨m,rfl,hm⟩:=Ev hk
  unfold Gv
  rw [if_pos hk,Int.toNat_natCast]
  unfold Ri
  rw [dif_pos (show m / 8<32 by omega)]
  unfold B4
  by_cases hj:Dc j=true
  ·obtain ⟨i,rfl,hi⟩:=Ev hj
   have hb:Aeb l i=if h:i / 8<32 then (l[i / 8]).getLsbD (i % 8) else false:=rfl
   rw [hj,hk,Int.toNat_natCast,Abr l (by omega) _ hi,hb,dif_pos (show i / 8<32 by omega)]
   simp only [Bool.true_and]
   by_cases e:i / 8=m / 8
   ·rw [if_pos e,BitVec.getLsbD_and,BitVec.getLsbD_not,Af7 m (i % 8) (Nat.mod_lt _ (by decide))]
    have h1:l[i / 8]=l[m / 8]:=by simp only [e]
    have h2:decide (i % 8<8)=true:=decide_eq_true (Nat.mod_lt _ (by decide))
    rw [h1,h2,Bool.true_and]
    congr 2
    exact decide_eq_decide.2 (by omega)
   ·rw [if_neg e,decide_eq_false (show ¬ ((i:Int)=(m:Int)) by omega),Bool.not_false,Bool.and_true]
  ·have:Dc j=false:=by simpa using hj
   rw [this,Bool.false_and,Bool.false_and,Bool.false_and]
 ·have hk':Dc k=false:=by simpa using hk
  unfold Gv
  rw [if_neg hk,hk',Bool.false_and,Bool.not_false,Bool.and_true]
def C8 (l:Lv) (n:Nat):List Int:=((List.range n).map fun k:Nat=>(k:Int)).filter fun k=>B4 l k
theorem Aec (l:Lv) (n:Nat):C8 l (n+1)=C8 l n++if B4 l n then [(n:Int)] else []:=by
 unfold C8
 rw [List.range_succ,List.map_append,List.filter_append]
 congr 1
 by_cases h:B4 l n=true
 ·simp [h]
 ·simp [h]
theorem keysL_mem {l:Lv} {k:Int}:k∈C8 l 256↔B4 l k=true:=by
 unfold C8
 rw [List.mem_filter]
 refine ⟨fun h=>h.2,fun h=>⟨?_,h⟩⟩
 have hv:Dc k=true:=by unfold B4 at h;simp at h;exact h.1
 obtain ⟨m,rfl,hm⟩:=Ev hv
 exact List.mem_map.2 ⟨m,List.mem_range.2 hm,rfl⟩
theorem Rj (l:Lv) (n:Nat):(C8 l n).Nodup:=by
 refine List.filter_sublist.nodup ?_
 rw [List.nodup_iff_pairwise_ne,List.pairwise_map]
 exact (List.pairwise_lt_range).imp (fun h=>by omega)
theorem Hb (l:Lv) (n:Nat):(C8 l n).length≤n:=by
 have:=List.length_filter_le (fun k=>B4 l k) ((List.range n).map fun k:Nat=>(k:Int))
 simpa [C8] using this
theorem valid_fn {k:Int}:Does Tryz.prog 87 [.int .i64 k] [] (Is (.bool (Dc k)) []):=by
 refine Ah (n:=9) Tryz.func87 Tryz.ntmps87 rfl (Nat.le_of_ble_eq_true rfl)<|Ad<|Aa fun ops=>oA rfl<|Ac<|n_K<|Ad ?_
 refine Bf [(2,5)] rfl fun ops y=> ?_
 refine oM rfl<|oR (Ae rfl rfl rfl)<|oM rfl ?_
 refine' Df (j:=2) (k:=2) y rfl rfl rfl rfl rfl rfl rfl (fun hg5=> ?_) ?_
 rotate_left
 ·try (simp at hg5;show _)
  refine o_g y rfl rfl ?_
  refine oM rfl ?_
  refine o_g y rfl rfl ?_
  refine oR (Ae rfl rfl rfl) ?_
  exact Ac ⟨rfl,rfl,⟨_,sP⟩⟩
 refine oA rfl<|Ac<|n_K<|An ?_
 refine Aq (At Tryz.results87 (Ag rfl)) ?_ sP
 rfl
theorem Aul {P:Program} {E:Env} {H:Hp} {t u:TypeId} {x y:Operand} {a:By} {m:Nat} (hx:ev E x=some (bv a)) (hy:ev E y=some (.int .i64 (m:Nat))) (hm:m<8):Rd P E H (.binOp .shr t x y u) (bv (a >>> m)):=by
 have:=Ir (P:=P) (H:=H) (t:=t) (u:=u) hx hy (by omega)
 have e:((a.toNat:Int).fdiv (2 ^ (min ((m:Nat):Int).toNat IntKind.u8.bits)))=((a >>> m).toNat:Int):=by
  rw [Int.toNat_natCast,show min m IntKind.u8.bits=m by show min m 8=m;omega,BitVec.toNat_ushiftRight,Nat.shiftRight_eq_div_pow,Int.fdiv_eq_ediv_of_nonneg _ (by exact_mod_cast Nat.zero_le _)]
  exact_mod_cast rfl
 unfold bv
 rw [← e]
 exact this
theorem Arj (a:By) (m:Nat) (hm:m<8):decide ((((a >>> m) &&& 1#8).toNat:Int)=1)=a.getLsbD m:=by
 have h:(a >>> m) &&& 1#8=if a.getLsbD m then 1#8 else 0#8:=by
  apply BitVec.eq_of_getLsbD_eq
  intro i hi
  rw [BitVec.getLsbD_and,BitVec.getLsbD_ushiftRight,BitVec.getLsbD_one]
  by_cases e:i=0
  ·subst e
   cases h:a.getLsbD m <;> simp [h]
  ·cases h:a.getLsbD m <;> simp [e]
 rw [h]
 cases a.getLsbD m <;> rfl
theorem Aum {l:Lv} {m:Nat} (hm:m<256):Does Tryz.prog 79 [.agg (vbc l).toArray,.int .i64 (m:Nat)] [] (Is (.bool (B4 l (m:Nat))) []):=by
 have hv:=Nk hm
 have hbt:B4 l m=decide ((((l[m / 8] >>> (m % 8)) &&& 1#8).toNat:Int)=1):=by
  rw [Arj _ _ (Nat.mod_lt _ (by decide))]
  unfold B4 Aeb
  rw [hv,Int.toNat_natCast,dif_pos (by omega),Bool.true_and]
 refine Ah (n:=18) Tryz.func79 Tryz.ntmps79 rfl (Nat.le_of_ble_eq_true rfl)<|Ad<|Aa fun ops=> ?_
 refine Ec rfl rfl fun b2=> ?_
 refine oA rfl<|Ac<|n_K<|Ad ?_
 refine Bf [(2,7)] rfl fun ops y=> ?_
 refine oM rfl ?_
 refine A6 rfl (valid_fn) sP rfl aQ ?_
 refine oM rfl ?_
 refine' Df (j:=2) (k:=9) y rfl rfl rfl rfl rfl rfl rfl (fun hg7=> ?_) ?_
 rotate_left
 ·try (simp at hg7;show _)
  refine o_g y rfl rfl ?_
  refine oM rfl ?_
  refine o_g y rfl rfl ?_
  refine oR (Zp (m:=8) rfl rfl (by decide) (by omega)) ?_
  refine o_g y rfl rfl ?_
  refine oR (Hd rfl rfl (by omega)) ?_
  refine o_g y rfl rfl ?_
  refine oR (Al rfl mM (show nth _ _=some (bv (l[m / 8])) by simp only [Int.toNat_natCast,Nat.mul_one];exact Gt (by omega))) ?_
  refine o_g y rfl rfl ?_
  refine oM rfl ?_
  refine o_g y rfl rfl ?_
  refine oR (Zq (m:=8) rfl rfl (by decide)) ?_
  refine o_g y rfl rfl ?_
  refine oR (Aul (m:=m % 8) rfl rfl (Nat.mod_lt _ (by decide))) ?_
  refine o_g y rfl rfl ?_
  refine oR (show Rd _ _ _ _ (bv ((l[m / 8] >>> (m % 8)) &&& 1#8)) from by (unfold bv;rw [show ((((l[m / 8] >>> (m % 8)) &&& 1#8).toNat:Nat):Int)=_ from (Qi .and .u8 rfl _ _).symm];exact Ae rfl rfl rfl)) ?_
  refine o_g y rfl rfl ?_
  refine oR (Ae rfl rfl rfl) ?_
  exact Ac ⟨rfl,rfl,⟨_,sP⟩⟩
 refine oA rfl<|Ac<|n_K<|An ?_
 refine Aq (At Tryz.results79 (Ag rfl)) ?_ sP
 rw [hv,hbt];rfl
theorem Ark {l:Lv} {k:Int} (hv:Dc k=false):Does Tryz.prog 79 [.agg (vbc l).toArray,.int .i64 k] [] (Is (.bool (B4 l k)) []):=by
 refine Ah (n:=18) Tryz.func79 Tryz.ntmps79 rfl (Nat.le_of_ble_eq_true rfl)<|Ad<|Aa fun ops=> ?_
 refine Ec rfl rfl fun b2=> ?_
 refine oA rfl<|Ac<|n_K<|Ad ?_
 refine Bf [(2,7)] rfl fun ops y=> ?_
 refine oM rfl ?_
 refine A6 rfl (valid_fn.to (by rw [hv]) rfl) sP rfl aQ ?_
 refine oM rfl ?_
 refine' Df (j:=2) (k:=9) (u:=false) y rfl rfl rfl rfl rfl rfl rfl (fun hg7=>absurd hg7 (by simp)) ?_
 refine oA rfl<|Ac<|n_K<|An ?_
 refine Aq (At Tryz.results79 (Ag rfl)) ?_ sP
 unfold B4;rw [hv];rfl
theorem Ue {l:Lv} {k:Int}:Does Tryz.prog 79 [.agg (vbc l).toArray,.int .i64 k] [] (Is (.bool (B4 l k)) []):=by
 by_cases hv:Dc k=true
 ·obtain ⟨m,rfl,hm⟩:=Ev hv
  exact Aum hm
 ·exact Ark (by simpa using hv)
end
section
open Go.K
instance zer54:Zer Tryz.prog 54 (List.replicate 32 (.int .u8 0)):=⟨by kernel_rfl⟩
instance ent51:Ent Tryz.prog 51:=⟨fun _ _=>by kernel_rfl⟩
instance ent52:Ent Tryz.prog 52:=⟨fun _ _=>by kernel_rfl⟩
instance ent54:Ent Tryz.prog 54:=⟨fun _ _=>by kernel_rfl⟩
set_option maxRecDepth 20000
set_option maxHeartbeats 1000000
theorem Hm {α β:Type} {f:β→α→β} {b:β} {xs:List α} {i:Nat} {x:α} (h:xs[i]? =some x):(xs.take (i+1)).foldl f b=f ((xs.take i).foldl f b) x:=by
 rw [List.take_add_one,h,List.foldl_append];rfl
theorem orB {P:Program} {E:Env} {H:Hp} {t u:TypeId} {x y:Operand} {a b:By} (hx:ev E x=some (bv a)) (hy:ev E y=some (bv b)):Rd P E H (.binOp .or t x y u) (bv (a ||| b)):=by
 unfold bv;rw [show (((a ||| b).toNat:Nat):Int)=_ from (Qi .or .u8 rfl _ _).symm];exact Ae hx hy rfl
theorem Arl {P:Program} {E:Env} {H:Hp} {t u:TypeId} {x y:Operand} {a b:By} (hx:ev E x=some (bv a)) (hy:ev E y=some (bv b)):Rd P E H (.binOp .andNot t x y u) (bv (a &&& ~~~ b)):=by
 unfold bv;rw [show (((a &&& ~~~ b).toNat:Nat):Int)=_ from (Qi .andNot .u8 rfl _ _).symm];exact Ae hx hy rfl
theorem Aiu {l:Lv} {m:Nat} (hm:m<256):Br (vbc l) (m / 8*1) [bv (l[m / 8]'(by omega) ||| Abq m)]=some (vbc (Rh l m)):=by
 unfold Rh
 rw [dif_pos (show m / 8<32 by omega),Nat.mul_one]
 exact H7 (by omega) _
theorem Aiv {l:Lv} {m:Nat} (hm:m<256):Br (vbc l) (m / 8*1) [bv (l[m / 8]'(by omega) &&& ~~~ Abq m)]=some (vbc (Ri l m)):=by
 unfold Ri
 rw [dif_pos (show m / 8<32 by omega),Nat.mul_one]
 exact H7 (by omega) _
theorem Arm {l:Lv} {s:Sl Int} {T:TypeId}:Does Tryz.prog 52 [.agg (vbc l).toArray,s.val] (s.hp T++[]) (Is (.agg (vbc (s.list.foldl Eg l)).toArray) (s.hp T++[])):=by
 refine Ah (n:=26) Tryz.func52 Tryz.ntmps52 rfl (Nat.le_of_ble_eq_true rfl)<|Ad<|Aa fun ops=> ?_
 refine Ec rfl rfl fun b2=> ?_
 refine Aw rfl fun b4=> ?_
 rw [Aea]
 refine Ac<|n_K<|Ad<|Ad<|Aa fun ops=>oM rfl<|oR (A7 rfl)<|oM rfl<|Ac<|n_K<|Ak ?_
 have hsm:=s.small
 refine A8 [2,4,7,8] kQ (fun (st:Nat×Lv)=>[(9,.int .i64 st.1)]) (fun (st:Nat×Lv)=>(b2,true,C (vbc st.2) tLv)::(b4,true,C (vbc lv0) tLv)::(s.hp T++[])) (fun (st:Nat×Lv)=>st.1≤s.list.length∧st.2=(s.list.take st.1).foldl Eg l) (fun (st:Nat×Lv)=>s.list.length - st.1) ((0,l)) ⟨Nat.zero_le _,rfl⟩ kP sP ?_
 rintro ⟨i,lc⟩ ⟨g0,g1⟩
 simp only at g0 g1
 refine Ad<|Aa fun ops=>oR (Ae rfl rfl rfl)<|Ac<|n_K<|Ad ?_
 refine Aj rfl (fun c10=> ?_) (fun c10=> ?_)
 ·simp only [decide_eq_true_eq,decide_eq_false_iff_not] at c10
  obtain ⟨z,hg⟩:∃ z,s.list[i]? =some z:=⟨_,List.getElem?_eq_getElem (by omega)⟩
  have hst:(s.list.take (i+1)).foldl Eg l=Eg lc z:=(by rw [Hm hg,g1])
  refine Ai<|n_K<|Ad<|Ak<|Ad<|Aa fun ops=> ?_
  refine oR (Bk rfl rfl (by omega)) ?_
  refine oR (C0 (o:=0) rfl pL hg rfl rfl) ?_
  refine oA rfl<|Ac<|n_K<|Ad<|Aa fun ops=>oM rfl ?_
  refine A6 rfl (valid_fn) sP rfl aQ ?_
  refine Ac<|n_K ?_
  refine Aj rfl (fun c14=> ?_) (fun c14=> ?_)
  ·skip
   obtain ⟨m,rfl,hm⟩:=Ev c14
   have hst2:Rh lc m=(s.list.take (i+1)).foldl Eg l:=(by rw [hst];unfold Eg;rw [if_pos c14,Int.toNat_natCast])
   refine s_draw [] [(9,[(0,false),(1,false),(2,false),(3,false),(4,false),(5,false),(6,false),(7,false),(8,false)]),(10,[(9,true)])] (by kernel_rfl) rfl fun ops w0 H0 y=> ?_
   refine A4<|xM rfl ?_
   refine xR (Zp (m:=8) rfl rfl (by decide) (by omega)) ?_
   refine xR (Hd rfl rfl (by omega)) ?_
   refine xR (Al rfl mM (show nth _ _=some (bv (lc[m / 8]'(by omega))) by simp only [Int.toNat_natCast,Nat.mul_one];exact Gt (by omega))) ?_
   refine xM rfl ?_
   refine xR (Zq (m:=8) rfl rfl (by decide)) ?_
   refine xR (show Rd _ _ _ _ (bv (Abq m)) from Yp rfl rfl (Nat.mod_lt _ (by decide))) ?_
   refine xR (orB rfl rfl) ?_
   refine xR (Hd rfl rfl (by omega)) ?_
   refine Am<|Bh<|Be ?_
   refine Af (cs':=vbc (Rh lc m)) rfl rfl uD rfl rfl (by simp only [Int.toNat_natCast];exact Aiu hm) ?_
   refine Ac ⟨rfl,⟨_,sP⟩,?_⟩
   refine Am<|Bm<|Az<|n_K<|Aa fun ops=> ?_
   refine oR (Ao rfl rfl (by omega)) ?_
   refine oM rfl<|Ac<|n_K ?_
   first | exact ⟨(i+1,Rh lc m),⟨by simp only;omega,hst2⟩,(by simp only;omega),lZ⟩ | exact ⟨(i+1,lc),⟨by simp only;omega,hst2⟩,(by simp only;omega),lZ⟩
  ·skip
   have hst2:lc=(s.list.take (i+1)).foldl Eg l:=(by rw [hst];unfold Eg;rw [c14];rfl)
   refine Ai<|Az<|n_K<|Aa fun ops=> ?_
   refine oR (Ao rfl rfl (by omega)) ?_
   refine oM rfl<|Ac<|n_K ?_
   first | exact ⟨(i+1,Rh lc m),⟨by simp only;omega,hst2⟩,(by simp only;omega),lZ⟩ | exact ⟨(i+1,lc),⟨by simp only;omega,hst2⟩,(by simp only;omega),lZ⟩
 ·simp only [decide_eq_true_eq,decide_eq_false_iff_not] at c10
  have hi:i=s.list.length:=(by omega)
  subst hi
  rw [List.take_length] at g1
  refine Bb<|x_K<|x_K<|Bj<|n_K<|Ad<|Aa fun ops=> ?_
  refine oR (Au rfl mM (by first | exact Bg | rfl)) ?_
  first | refine Af rfl rfl uD (Ct) (Ar) (B2 (by first | exact Ar | exact List.length_replicate ..)) ?_ | refine Af rfl rfl uD rfl rfl rfl ?_
  refine Ac<|n_K<|An ?_
  refine Aq (At Tryz.results52 (Bv rfl mM (by first | exact Bg | rfl))) ?_ sP
  rw [← g1]
theorem Arn {l:Lv} {s:Sl Int} {T:TypeId}:Does Tryz.prog 51 [.agg (vbc l).toArray,s.val] (s.hp T++[]) (Is (.agg (vbc (s.list.foldl Gv l)).toArray) (s.hp T++[])):=by
 refine Ah (n:=26) Tryz.func51 Tryz.ntmps51 rfl (Nat.le_of_ble_eq_true rfl)<|Ad<|Aa fun ops=> ?_
 refine Ec rfl rfl fun b2=> ?_
 refine Aw rfl fun b4=> ?_
 rw [Aea]
 refine Ac<|n_K<|Ad<|Ad<|Aa fun ops=>oM rfl<|oR (A7 rfl)<|oM rfl<|Ac<|n_K<|Ak ?_
 have hsm:=s.small
 refine A8 [2,4,7,8] kQ (fun (st:Nat×Lv)=>[(9,.int .i64 st.1)]) (fun (st:Nat×Lv)=>(b2,true,C (vbc st.2) tLv)::(b4,true,C (vbc lv0) tLv)::(s.hp T++[])) (fun (st:Nat×Lv)=>st.1≤s.list.length∧st.2=(s.list.take st.1).foldl Gv l) (fun (st:Nat×Lv)=>s.list.length - st.1) ((0,l)) ⟨Nat.zero_le _,rfl⟩ kP sP ?_
 rintro ⟨i,lc⟩ ⟨g0,g1⟩
 simp only at g0 g1
 refine Ad<|Aa fun ops=>oR (Ae rfl rfl rfl)<|Ac<|n_K<|Ad ?_
 refine Aj rfl (fun c10=> ?_) (fun c10=> ?_)
 ·simp only [decide_eq_true_eq,decide_eq_false_iff_not] at c10
  obtain ⟨z,hg⟩:∃ z,s.list[i]? =some z:=⟨_,List.getElem?_eq_getElem (by omega)⟩
  have hst:(s.list.take (i+1)).foldl Gv l=Gv lc z:=(by rw [Hm hg,g1])
  refine Ai<|n_K<|Ad<|Ak<|Ad<|Aa fun ops=> ?_
  refine oR (Bk rfl rfl (by omega)) ?_
  refine oR (C0 (o:=0) rfl pL hg rfl rfl) ?_
  refine oA rfl<|Ac<|n_K<|Ad<|Aa fun ops=>oM rfl ?_
  refine A6 rfl (valid_fn) sP rfl aQ ?_
  refine Ac<|n_K ?_
  refine Aj rfl (fun c14=> ?_) (fun c14=> ?_)
  ·skip
   obtain ⟨m,rfl,hm⟩:=Ev c14
   have hst2:Ri lc m=(s.list.take (i+1)).foldl Gv l:=(by rw [hst];unfold Gv;rw [if_pos c14,Int.toNat_natCast])
   refine s_draw [] [(9,[(0,false),(1,false),(2,false),(3,false),(4,false),(5,false),(6,false),(7,false),(8,false)]),(10,[(9,true)])] (by kernel_rfl) rfl fun ops w0 H0 y=> ?_
   refine A4<|xM rfl ?_
   refine xR (Zp (m:=8) rfl rfl (by decide) (by omega)) ?_
   refine xR (Hd rfl rfl (by omega)) ?_
   refine xR (Al rfl mM (show nth _ _=some (bv (lc[m / 8]'(by omega))) by simp only [Int.toNat_natCast,Nat.mul_one];exact Gt (by omega))) ?_
   refine xM rfl ?_
   refine xR (Zq (m:=8) rfl rfl (by decide)) ?_
   refine xR (show Rd _ _ _ _ (bv (Abq m)) from Yp rfl rfl (Nat.mod_lt _ (by decide))) ?_
   refine xR (Arl rfl rfl) ?_
   refine xR (Hd rfl rfl (by omega)) ?_
   refine Am<|Bh<|Be ?_
   refine Af (cs':=vbc (Ri lc m)) rfl rfl uD rfl rfl (by simp only [Int.toNat_natCast];exact Aiv hm) ?_
   refine Ac ⟨rfl,⟨_,sP⟩,?_⟩
   refine Am<|Bm<|Az<|n_K<|Aa fun ops=> ?_
   refine oR (Ao rfl rfl (by omega)) ?_
   refine oM rfl<|Ac<|n_K ?_
   first | exact ⟨(i+1,Ri lc m),⟨by simp only;omega,hst2⟩,(by simp only;omega),lZ⟩ | exact ⟨(i+1,lc),⟨by simp only;omega,hst2⟩,(by simp only;omega),lZ⟩
  ·skip
   have hst2:lc=(s.list.take (i+1)).foldl Gv l:=(by rw [hst];unfold Gv;rw [c14];rfl)
   refine Ai<|Az<|n_K<|Aa fun ops=> ?_
   refine oR (Ao rfl rfl (by omega)) ?_
   refine oM rfl<|Ac<|n_K ?_
   first | exact ⟨(i+1,Ri lc m),⟨by simp only;omega,hst2⟩,(by simp only;omega),lZ⟩ | exact ⟨(i+1,lc),⟨by simp only;omega,hst2⟩,(by simp only;omega),lZ⟩
 ·simp only [decide_eq_true_eq,decide_eq_false_iff_not] at c10
  have hi:i=s.list.length:=(by omega)
  subst hi
  rw [List.take_length] at g1
  refine Bb<|x_K<|x_K<|Bj<|n_K<|Ad<|Aa fun ops=> ?_
  refine oR (Au rfl mM (by first | exact Bg | rfl)) ?_
  first | refine Af rfl rfl uD (Ct) (Ar) (B2 (by first | exact Ar | exact List.length_replicate ..)) ?_ | refine Af rfl rfl uD rfl rfl rfl ?_
  refine Ac<|n_K<|An ?_
  refine Aq (At Tryz.results51 (Bv rfl mM (by first | exact Bg | rfl))) ?_ sP
  rw [← g1]
theorem Af8 {l:Lv}:Does Tryz.prog 54 [.agg (vbc l).toArray] [] (fun v H=>∃ s:Sl Int,v=s.val∧H=s.hp tI++[]∧s.list=C8 l 256∧s.isOwn=true):=by
 refine Ah (n:=16) Tryz.func54 Tryz.ntmps54 rfl (Nat.le_of_ble_eq_true rfl)<|Ad<|Aa fun ops=> ?_
 refine Ec rfl rfl fun b1=> ?_
 refine oA rfl<|Ac<|n_K<|Ad<|Ad<|Aa fun ops=>oM rfl<|Ac<|n_K<|Ak ?_
 refine Im (Gu (α:=Int) (T:=tI)) ?_
 refine A8 [1] kQ (fun (st:Nat×Sl Int)=>[(4,.int .i64 st.1),(2,st.2.val)]) (fun (st:Nat×Sl Int)=>(st.2.hp tI++((b1,true,C (vbc l) tLv)::[]))) (fun (st:Nat×Sl Int)=>st.1≤256∧st.2.list=C8 l st.1∧st.2.isOwn=true) (fun (st:Nat×Sl Int)=>256 - st.1) ((0,Sl.nil)) ⟨Nat.zero_le _,rfl,rfl⟩ kP sP ?_
 rintro ⟨i,s⟩ ⟨g0,g1,g2⟩
 simp only at g0 g1 g2
 have hsl:=Hb l i
 rw [← g1] at hsl
 refine Ad<|Aa fun ops=>oR (Ae rfl rfl rfl)<|Ac<|n_K<|Ad ?_
 refine Aj rfl (fun c5=> ?_) (fun c5=> ?_)
 ·simp only [decide_eq_true_eq,decide_eq_false_iff_not] at c5
  have hk:=Aec l i
  refine Ai<|n_K<|Ad<|Ak<|Ad<|Aa fun ops=>oM rfl<|oA rfl<|Ac<|n_K<|Ad<|Aa fun ops=> ?_
  refine oR (Au rfl mM (by first | exact Bg | rfl)) ?_
  refine oM rfl ?_
  refine A6 rfl (Ue) sP rfl aQ ?_
  refine Ac<|n_K ?_
  refine Aj rfl (fun c9=> ?_) (fun c9=> ?_)
  ·skip
   refine Aa fun ops=>oM rfl<|oM rfl ?_
   refine A5 rfl rfl rfl rfl fun b12=> ?_
   refine Bp (s:=s) (new:=[(i:Int)]) (m:=1) rfl rfl pL g2 (Cv (r:=true) mM rfl) rfl rfl rfl rfl (by omega) rfl fun s' hs1 hs2=> ?_
   refine oA rfl<|Ac<|Az<|n_K<|Aa fun ops=> ?_
   refine oR (Ao rfl rfl (by omega)) ?_
   refine oM rfl<|Ac<|n_K ?_
   first | exact ⟨(i+1,s'),⟨by simp only;omega,(by simp only;rw [hs1,hk,if_pos c9,g1]),hs2⟩,(by simp only;omega),lZ⟩ | exact ⟨(i+1,s),⟨by simp only;omega,(by simp only;rw [hk,c9,g1];simp),g2⟩,(by simp only;omega),lZ⟩
  ·skip
   refine Ai<|Az<|n_K<|Aa fun ops=> ?_
   refine oR (Ao rfl rfl (by omega)) ?_
   refine oM rfl<|Ac<|n_K ?_
   first | exact ⟨(i+1,s'),⟨by simp only;omega,(by simp only;rw [hs1,hk,if_pos c9,g1]),hs2⟩,(by simp only;omega),lZ⟩ | exact ⟨(i+1,s),⟨by simp only;omega,(by simp only;rw [hk,c9,g1];simp),g2⟩,(by simp only;omega),lZ⟩
 ·simp only [decide_eq_true_eq,decide_eq_false_iff_not] at c5
  have hi:i=256:=(by omega)
  subst hi
  refine Bb<|x_K<|x_K<|Bj<|n_K<|Ad<|Aa fun ops=>oM rfl<|oA rfl<|Ac<|n_K<|An ?_
  exact Av (At Tryz.results54 (Ag rfl)) (by exact ⟨s,rfl,rfl,g1,g2⟩) sP
end
section
open Go.K
instance agg40:Agg Tryz.prog 40 true:=⟨⟨_,Tryz.underlying40,rfl⟩⟩
instance siz40:Siz Tryz.prog 40 3:=⟨by kernel_rfl⟩
instance agg57:Agg Tryz.prog 57 true:=⟨⟨_,Tryz.underlying57,rfl⟩⟩
instance siz57:Siz Tryz.prog 57 34:=⟨by kernel_rfl⟩
instance fld40_0:Fld Tryz.prog 40 0 0:=⟨⟨_,_,0,Tryz.underlying40,rfl,by kernel_rfl,rfl⟩⟩
instance fld40_1:Fld Tryz.prog 40 1 1:=⟨⟨_,_,0,Tryz.underlying40,rfl,by kernel_rfl,rfl⟩⟩
instance fld40_2:Fld Tryz.prog 40 2 2:=⟨⟨_,_,0,Tryz.underlying40,rfl,by kernel_rfl,rfl⟩⟩
instance ent73:Ent Tryz.prog 73:=⟨fun _ _=>by kernel_rfl⟩
set_option maxRecDepth 20000
set_option maxHeartbeats 1000000
structure Cm where
 ep:Wd
 lv:Lv
 sum:BitVec 32
def cmC (c:Cm):List Value:=wv c.ep::(vbc c.lv++[uv c.sum])
abbrev tCm:TypeId:=57
def cm0:Cm:=⟨0,lv0,0⟩
theorem Aed:(Value.int .u64 0)::(List.replicate 32 (Value.int .u8 0)++[Value.int .u32 0])=cmC cm0:=by kernel_rfl
theorem Cr {c:Cm}:(cmC c).length=34:=by unfold cmC;simp [Ar]
theorem Nl {c:Cm}:cut (cmC c) 0 34=some (cmC c):=by have:=Mb (cmC c);rwa [Cr] at this
theorem Aee {c:Cm} {cs:List Value} (h:cs.length=34):Br cs 0 (cmC c)=some (cmC c):=Ob (by rw [Cr,h])
theorem Aun (x:By):(bv x).oneCell'=true:=rfl
theorem Rk {c:Cm}:Jc (.agg (cmC c).toArray)=some (cmC c):=by
 have h:(cmC c).all (·.oneCell')=true:=by
  unfold cmC vbc
  simp only [List.all_cons,List.all_append,List.all_map,List.all_nil,Bool.and_true]
  have h1:(wv c.ep).oneCell'=true:=rfl
  have h2:(uv c.sum).oneCell'=true:=rfl
  rw [h1,h2,Bool.true_and,Bool.and_true]
  exact List.all_eq_true.2 fun x _=>Aun x
 simp [Jc,h]
theorem Am4 (c:Cm):cut (cmC c) 1 32=some (vbc c.lv):=by
 refine cut_iff.2 ⟨?_,by rw [Cr];decide⟩
 unfold cmC
 rw [List.drop_succ_cons,List.drop_zero]
 exact (List.take_left' Ar).symm
theorem Af9 (c:Cm):nth (cmC c) 33=some (uv c.sum):=by
 unfold cmC
 rw [Ee,List.getElem?_cons_succ,List.getElem?_append_right (by rw [Ar];decide),Ar]
 rfl
theorem Wz (c:Cm) (l:Lv):Br (cmC c) 1 (vbc l)=some (cmC { c with lv:=l }):=by
 refine Eu ?_ (by rw [Ar,Cr];decide)
 unfold cmC
 rw [Ar]
 have h1:(wv c.ep::(vbc c.lv++[uv c.sum])).take 1=[wv c.ep]:=rfl
 have h2:(wv c.ep::(vbc c.lv++[uv c.sum])).drop (1+32)=[uv c.sum]:=by
  rw [show 1+32=32+1 from rfl,List.drop_succ_cons,List.drop_left' Ar]
 rw [h1,h2]
 simp
structure Nd where
 key:Int
 ep:Wd
 body:Sl By
def ndC (n:Nd):List Value:=[.int .i64 n.key,wv n.ep,n.body.val]
instance:Cel Nd:=⟨3,ndC,fun _=>rfl,fun _=>rfl⟩
abbrev tNd:TypeId:=40
def Ez (k:Int) (e:Wd) (b:List By):List By:=Co 1 (BitVec.ofInt 64 k)++(Co 8 e++(b++[]))
def Bt (k:Int) (b:List By):Bool:=Dc k && decide (b.length≤224)
theorem Abs {b:Nat} {s1 s2 s3:Sl By} (hl:s1.list.length+s2.list.length+s3.list.length≤70000000000000):Does Tryz.prog 113 [.slice (some ⟨b,0,none⟩) 3 3] ((b,true,C [s1.val,s2.val,s3.val] tSB)::(s1.hp tU8++(s2.hp tU8++(s3.hp tU8++[]))))
  (fun v H=>∃ s:Sl By,v=s.val∧H=s.hp tU8++((b,true,C [s1.val,s2.val,s3.val] tSB)::(s1.hp tU8++(s2.hp tU8++(s3.hp tU8++[]))))∧s.list=s1.list++(s2.list++(s3.list++[]))∧s.isOwn=true):=by
 have e2:(Sl.own b [s1,s2,s3] 3 [] ⟨by simp,Nat.le_refl _,by simp⟩:Sl (Sl By)).list=[s1,s2,s3]:=rfl
 have e3:Bq [s1,s2,s3]=s1.list++(s2.list++(s3.list++[])):=by simp [Bq]
 have h:=Abk (q:= .own b [s1,s2,s3] 3 [] ⟨by simp,Nat.le_refl _,by simp⟩) (by rw [e2,e3];simp only [List.length_append,List.length_nil];omega)
 rw [e2,e3] at h
 have e:(Sl.own b [s1,s2,s3] 3 [] ⟨by simp,Nat.le_refl _,by simp⟩:Sl (Sl By)).hp tSB++(Dh [s1,s2,s3]++[])=((b,true,C [s1.val,s2.val,s3.val] tSB)::(s1.hp tU8++(s2.hp tU8++(s3.hp tU8++[])))):=by
  rw [Sl.hp_own,Cz,Cz,Cz,Ha]
  simp only [List.append_assoc,List.nil_append,List.append_nil]
  rfl
 rw [e] at h
 exact h
theorem W0 {n:Nd}:Does Tryz.prog 73 [.agg (ndC n).toArray] (n.body.hp tU8++[])
  (fun v H=>(Bt n.key n.body.list=false∧v= .tuple #[.slice none 0 0,.int .i64 1]∧H=n.body.hp tU8++[]) ∨
   (Bt n.key n.body.list=true∧∃ s:Sl By,v= .tuple #[s.val,.int .i64 0]∧H=s.hp tU8++(n.body.hp tU8++[])∧s.list=Ez n.key n.ep n.body.list∧s.isOwn=true)):=by
 refine Ah (n:=29) Tryz.func73 Tryz.ntmps73 rfl (Nat.le_of_ble_eq_true rfl)<|Ad<|Aa fun ops=> ?_
 refine De rfl rfl fun b1=> ?_
 refine oA rfl<|oA rfl<|Ac<|n_K<|Ad<|Ad ?_
 refine Bf [(3,7),(8,12)] rfl fun ops y=> ?_
 refine oF rfl ?_
 refine oR (Al rfl mM rfl) ?_
 refine oR (Ae rfl rfl rfl)<|oM rfl ?_
 refine' Es (j:=3) (k:=3) y rfl rfl rfl rfl rfl rfl rfl (fun hg7=> ?_) ?_
 rotate_left
 ·try (simp at hg7;show _)
  refine o_g y rfl rfl ?_
  refine oF rfl ?_
  refine o_g y rfl rfl ?_
  refine oR (Al rfl mM rfl) ?_
  refine o_g y rfl rfl ?_
  refine oR (Ae rfl rfl rfl) ?_
  exact Ac ⟨rfl,rfl,⟨_,sP⟩⟩
 refine oM rfl ?_
 refine' Es (j:=8) (k:=4) y rfl rfl rfl rfl rfl rfl rfl (fun hg12=> ?_) ?_
 rotate_left
 ·try (simp at hg12;show _)
  refine o_g y rfl rfl ?_
  refine oF rfl ?_
  refine o_g y rfl rfl ?_
  refine oR (Al rfl mM rfl) ?_
  refine o_g y rfl rfl ?_
  refine oR (A7 rfl) ?_
  refine o_g y rfl rfl ?_
  refine oR (Ae rfl rfl rfl) ?_
  exact Ac ⟨rfl,rfl,⟨_,sP⟩⟩
 refine Ac<|n_K ?_
 refine Aj rfl (fun c17=> ?_) (fun c17=> ?_)
 ·simp only [Bool.or_eq_true,Bool.or_eq_false_iff,decide_eq_true_eq,decide_eq_false_iff_not] at c17
  have hok:Bt n.key n.body.list=false:=(by unfold Bt Dc;simp;omega)
  refine Ad<|Aa fun ops=>oA rfl<|oA rfl<|Ac<|n_K<|An<|r_K ?_
  exact Av (Bz Tryz.results73 (Ag rfl) (Ag rfl)) (by exact .inl ⟨hok,rfl,rfl⟩) sP
 ·simp only [Bool.or_eq_true,Bool.or_eq_false_iff,decide_eq_true_eq,decide_eq_false_iff_not] at c17
  have hok:Bt n.key n.body.list=true:=(by unfold Bt Dc;simp;omega)
  refine Ai<|n_K<|Ad ?_
  refine s_draw [] [(9,[(0,false),(1,false),(2,false),(4,false),(5,false),(7,false),(8,false),(3,true),(6,true)]),(10,[(9,true)]),(11,[(10,true)]),(13,[(11,false),(12,false)])] (by kernel_rfl) rfl fun ops w0 H0 y=> ?_
  refine A4<|xF rfl ?_
  refine xR (Al rfl mM rfl) ?_
  refine xR (show Rd _ _ _ _ (wv (BitVec.ofInt 64 n.key)) from by (unfold wv;rw [← J3];exact C4 rfl)) ?_
  refine xF rfl ?_
  refine xR (Al rfl mM rfl) ?_
  refine xF rfl ?_
  refine xR (Al rfl mM rfl) ?_
  refine Be ?_
  refine Bd rfl (Hr) sP rfl fun v21 Y21 h21=> ?_
  obtain ⟨s21,rfl,rfl,hs21,ho21⟩:=h21
  refine Ay aQ ?_
  refine Ac ⟨rfl,⟨_,sP⟩,?_⟩
  refine Be ?_
  refine Bd rfl (Hr) sP rfl fun v24 Y24 h24=> ?_
  obtain ⟨s24,rfl,rfl,hs24,ho24⟩:=h24
  refine Ay aQ ?_
  refine Ac ⟨rfl,⟨_,sP⟩,?_⟩
  refine Am<|Bh<|Be ?_
  refine A5 rfl rfl rfl rfl fun b27=> ?_
  refine Ac ⟨rfl,⟨_,sP⟩,?_⟩
  refine Am<|Bh<|Be ?_
  refine Bd rfl (Abs (b:=b27) (s1:=s21) (s2:=s24) (s3:=n.body) (by rw [hs21,hs24,Bo,Bo,show Bl 1 8=1 from rfl,show Bl 8 8=8 from rfl];omega)) sP rfl fun v28 Y28 h28=> ?_
  obtain ⟨s28,rfl,rfl,hs28,ho28⟩:=h28
  refine Ay aQ ?_
  refine Ac ⟨rfl,⟨_,sP⟩,?_⟩
  refine Am<|A4<|xA rfl<|xA rfl<|Am<|Bm<|n_K<|An ?_
  exact Av (Bz Tryz.results73 (Ag rfl) (Ag rfl)) (by exact .inr ⟨hok,s28,rfl,rfl,by rw [hs28,hs21,hs24];rfl,ho28⟩) sP
end
section
open Go.K
instance zer40:Zer Tryz.prog 40 ([.int .i64 0,.int .u64 0,.slice none 0 0]):=⟨by kernel_rfl⟩
instance zer57:Zer Tryz.prog 57 ([.int .u64 0]++List.replicate 32 (.int .u8 0)++[.int .u32 0]):=⟨by kernel_rfl⟩
instance fld57_0:Fld Tryz.prog 57 0 0:=⟨⟨_,_,0,Tryz.underlying57,rfl,by kernel_rfl,rfl⟩⟩
instance fld57_1:Fld Tryz.prog 57 1 1:=⟨⟨_,_,31,Tryz.underlying57,rfl,by kernel_rfl,rfl⟩⟩
instance fld57_2:Fld Tryz.prog 57 2 33:=⟨⟨_,_,0,Tryz.underlying57,rfl,by kernel_rfl,rfl⟩⟩
instance plc40:Plc Tryz.prog 40 [(0,1),(1,1),(2,1)]:=⟨⟨_,Tryz.underlying40,fun _=>by kernel_rfl⟩⟩
instance ent62:Ent Tryz.prog 62:=⟨fun _ _=>by kernel_rfl⟩
instance ent76:Ent Tryz.prog 76:=⟨fun _ _=>by kernel_rfl⟩
instance ent149:Ent Tryz.prog 149:=⟨fun _ _=>by kernel_rfl⟩
set_option maxRecDepth 20000
set_option maxHeartbeats 1000000
def W1 (xs:List By):Int:=((D9 (xs.take 1) 1).toNat:Int)
def Am5 (xs:List By):Wd:=D9 ((xs.drop 1).take 8) 8
def Abt (xs:List By):Bool:=decide (9≤xs.length) && decide (xs.length≤233)
theorem Aga (xs:List By):(D9 (xs.take 1) 1).toNat<256:=by
 cases xs with
 | nil=>decide
 | cons x xs =>
  show (0#64 ||| (x.setWidth 64 <<< (8*0))).toNat<256
  simp
  have:=x.isLt
  omega
theorem Abu {s:Sl By} {T:TypeId}:Does Tryz.prog 62 [s.val] (s.hp T++[])
  (fun v H=>(Abt s.list=false∧v= .tuple #[.agg (ndC ⟨0,0,.nil⟩).toArray,.int .i64 11]∧H=s.hp T++[]) ∨
   (Abt s.list=true∧∃ b:Sl By,v= .tuple #[.agg (ndC ⟨W1 s.list,Am5 s.list,b⟩).toArray,.int .i64 0]∧H=b.hp tU8++(s.hp T++[])∧b.list=s.list.drop 9∧b.isOwn=true)):=by
 have hv1:=Aga s.list
 refine Ah (n:=26) Tryz.func62 Tryz.ntmps62 rfl (Nat.le_of_ble_eq_true rfl)<|Ad<|Aa fun ops=> ?_
 refine Aw rfl fun b2=> ?_
 refine oA rfl<|Ac<|n_K<|Ad<|Ad ?_
 refine Bf [(3,8)] rfl fun ops y=> ?_
 refine oM rfl<|oR (A7 rfl)<|oR (Ae rfl rfl rfl)<|oM rfl ?_
 refine' Es (j:=3) (k:=3) y rfl rfl rfl rfl rfl rfl rfl (fun hg8=> ?_) ?_
 rotate_left
 ·try (simp at hg8;show _)
  refine o_g y rfl rfl ?_
  refine oM rfl ?_
  refine o_g y rfl rfl ?_
  refine oR (A7 rfl) ?_
  refine o_g y rfl rfl ?_
  refine oR (Ae rfl rfl rfl) ?_
  exact Ac ⟨rfl,rfl,⟨_,sP⟩⟩
 refine Ac<|n_K ?_
 refine Aj rfl (fun c12=> ?_) (fun c12=> ?_)
 ·simp only [Bool.or_eq_true,Bool.or_eq_false_iff,decide_eq_true_eq,decide_eq_false_iff_not] at c12
  have hok:Abt s.list=false:=(by unfold Abt;simp;omega)
  refine Ad<|Aa fun ops=>oR (Bc rfl rfl) ?_
  refine Af rfl rfl uD rfl rfl rfl ?_
  refine oA rfl<|Ac<|n_K<|An<|r_K ?_
  exact Av (Bz Tryz.results62 (Bv rfl mM rfl) (Ag rfl)) (by exact .inl ⟨hok,rfl,rfl⟩) sP
 ·simp only [Bool.or_eq_true,Bool.or_eq_false_iff,decide_eq_true_eq,decide_eq_false_iff_not] at c12
  have hok:Abt s.list=true:=(by unfold Abt;simp;omega)
  have hsm:s.list.length≤70000000000000:=(by omega)
  refine Ai<|n_K<|Ad<|Aa fun ops=>oM rfl ?_
  refine Bd rfl (Fe (s:=s) (T:=T) hsm) sP rfl fun v15 Y15 h15=> ?_
  obtain ⟨r,rfl,rfl,hr1,hr2⟩:=h15
  refine Ay aQ ?_
  refine oA rfl<|Ac<|n_K<|Ad<|Aa fun ops=>oM rfl ?_
  refine Bd rfl (Ff (r:=r) (n:=1) (by rw [hr1];exact hsm)) sP rfl fun v17 Y17 h17=> ?_
  obtain ⟨x1,sl1,bad1,rfl,rfl,hx1,hl1,hb1⟩:=h17
  refine Ay aQ ?_
  refine oR (show Rd _ _ _ _ (.int .i64 (W1 s.list)) from by (rw [hr1,show Bl 1 8=1 from rfl] at hx1;unfold C7 at hx1;rw [if_neg (by omega)] at hx1;simp only at hx1;unfold W1;rw [← hx1];rw [← hx1] at hv1;exact G8 (Cx (by omega)) rfl)) ?_
  refine oM rfl ?_
  refine Bd rfl (Ff (r:=⟨r.b,sl1,bad1⟩) (n:=8) (by simp only;rw [hl1,hr1];have:=Oy (Bl 1 8) s.list r.bad;omega)) sP rfl fun v20 Y20 h20=> ?_
  obtain ⟨x2,sl2,bad2,rfl,rfl,hx2,hl2,hb2⟩:=h20
  refine Ay aQ ?_
  refine oM rfl<|oM rfl ?_
  refine A6 rfl (Se (r:=⟨r.b,sl2,bad2⟩)) sP rfl aQ ?_
  refine Bd rfl (Jx (r:=⟨r.b,sl2,bad2⟩) (n:=(sl2.list.length:Nat)) (by simp only;rw [hl2];simp only;have h1:=Oy (Bl 8 8) sl1.list bad1;have h2:=Oy (Bl 1 8) s.list r.bad;rw [hl1,hr1] at h1;rw [hl1,hr1];omega)) sP rfl fun v24 Y24 h24=> ?_
  obtain ⟨bb,sl3,bad3,rfl,rfl,hbo,hbl,hl3,hb3⟩:=h24
  refine Ay aQ ?_
  refine oR (show Rd _ _ _ _ (.agg (ndC ⟨W1 s.list,Am5 s.list,bb⟩).toArray) from by (have e1:sl1.list=s.list.drop 1:=(by rw [hl1,hr1,show Bl 1 8=1 from rfl];unfold C7;rw [if_neg (by omega)]);have e2:x2=Am5 s.list:=(by simp only at hx2;rw [hx2,e1,show Bl 8 8=8 from rfl];unfold C7;rw [if_neg (by rw [List.length_drop];omega)];rfl);rw [← e2];exact Bc rfl rfl)) ?_
  refine Af rfl rfl uD rfl rfl rfl ?_
  refine oA rfl<|Ac<|n_K<|An ?_
  exact Av (Bz Tryz.results62 (Bv rfl mM rfl) (Ag rfl)) (by exact .inr ⟨hok,bb,rfl,rfl,(by have e1:sl1.list=s.list.drop 1:=(by rw [hl1,hr1,show Bl 1 8=1 from rfl];unfold C7;rw [if_neg (by omega)]);have e2:sl2.list=s.list.drop 9:=(by simp only at hl2;rw [hl2,e1,show Bl 8 8=8 from rfl];unfold C7;rw [if_neg (by rw [List.length_drop];omega)];simp only [List.drop_drop]);rw [hbl];simp only;rw [show (max ((sl2.list.length:Nat):Int) 0).toNat=sl2.list.length by omega];unfold C9;rw [if_neg (by omega)];simp only [List.take_length];exact e2),hbo⟩) sP
def F5 (c:Cm):List By:=Co 8 c.ep++(Co 4 (c.sum.setWidth 64)++(c.lv.toList++[]))
def Yv (xs:List By):Lv:=Vector.ofFn fun i:Fin 32=>xs.getD i.val 0
def Am6 (xs:List By):Cm:=⟨D9 (xs.take 8) 8,Yv (xs.drop 12),(D9 ((xs.drop 8).take 4) 4).setWidth 32⟩
theorem Aro {xs:List By} (h:xs.length=32):cells xs=vbc (Yv xs):=by
 have e:xs=(Yv xs).toList:=by
  apply List.ext_getElem
  ·rw [h,Vector.length_toList]
  ·intro i h1 h2
   rw [Vector.getElem_toList]
   unfold Yv
   rw [Vector.getElem_ofFn]
   simp only [List.getD_eq_getElem?_getD]
   rw [List.getElem?_eq_getElem h1]
   rfl
 rw [Lh]
 show xs.map bv=(Yv xs).toList.map bv
 rw [← e]
def lvV (b:Nat) (c:Cm):Sl By:= .view b 1 true (cmC c) tCm (0,0) c.lv.toList 32 ⟨fun i x hx=>by
  have hi:i<32:=by have:=(List.getElem?_eq_some_iff.1 hx).1;simpa using this
  have h1:=Zz (p:=c.lv) (o:=0) (m:=32) i x (by rw [List.drop_zero,List.take_of_length_le (by simp)];exact hx)
  have h2:=Am4 c
  obtain ⟨e1,e2⟩:=cut_iff.1 h1
  obtain ⟨e3,e4⟩:=cut_iff.1 h2
  refine cut_iff.2 ⟨?_,by rw [Cr];simp only [Cel.sz];omega⟩
  rw [e1,e3,Nat.zero_add,List.drop_take,List.take_take,List.drop_drop]
  congr 1
  simp only [Cel.sz]
  omega,by simp,by simp⟩
theorem Arp (b:Nat) (c:Cm):(lvV b c).val= .slice (some ⟨b,1,none⟩) 32 32:=by
 show Value.slice (some ⟨b,1,none⟩) c.lv.toList.length 32=_
 rw [Vector.length_toList]
theorem Auo (b:Nat) (c:Cm) (U:TypeId):(lvV b c).hp U=[(b,true,C (cmC c) tCm)]:=by unfold lvV;rw [Sl.hp_view]
theorem Am7 (x:BitVec 32):IntKind.u64.wrap (x.toNat:Int)=((x.setWidth 64).toNat:Int):=by
 rw [Ex .u64 rfl,BitVec.ofInt_natCast]
 simp
 rfl
theorem Am8 (x:Wd):IntKind.u32.wrap (x.toNat:Int)=((x.setWidth 32).toNat:Int):=by
 rw [Ex .u32 rfl,BitVec.ofInt_natCast]
 simp
 rfl
theorem Aiw {c:Cm}:Does Tryz.prog 76 [.agg (cmC c).toArray] [] (fun v H=>∃ s:Sl By,v=s.val∧H=s.hp tU8++[]∧s.list=F5 c∧s.isOwn=true):=by
 refine Ah (n:=14) Tryz.func76 Tryz.ntmps76 rfl (Nat.le_of_ble_eq_true rfl)<|Ad<|Aa fun ops=> ?_
 refine Ec rfl rfl fun b1=> ?_
 refine oA rfl<|Ac<|n_K<|Ad ?_
 refine s_draw [] [(9,[(0,false),(1,false),(3,false),(4,false),(5,false),(7,false),(8,false),(2,true),(6,true)]),(10,[(9,true)]),(11,[(10,true)]),(12,[(11,false)])] (by kernel_rfl) rfl fun ops w0 H0 y=> ?_
 refine A4<|xF rfl ?_
 refine xR (Al rfl mM rfl) ?_
 refine xF rfl ?_
 refine xR (Al rfl mM (Af9 c)) ?_
 refine xR (show Rd _ _ _ _ (wv (c.sum.setWidth 64)) from by (unfold wv;rw [← Am7];exact C4 rfl)) ?_
 refine xF rfl ?_
 refine xR (show Rd _ _ _ _ (lvV b1 c).val from by (rw [Arp];exact C5 (b:=b1) (o:=1) (sz:=1) (i:=0) (j:=32) (l:=32) rfl rfl rfl (by omega))) ?_
 refine Be ?_
 refine Bd rfl (Hr) sP rfl fun v5 Y5 h5=> ?_
 obtain ⟨s5,rfl,rfl,hs5,ho5⟩:=h5
 refine Ay aQ ?_
 refine Ac ⟨rfl,⟨_,sP⟩,?_⟩
 refine Be ?_
 refine Bd rfl (Hr) sP rfl fun v9 Y9 h9=> ?_
 obtain ⟨s9,rfl,rfl,hs9,ho9⟩:=h9
 refine Ay aQ ?_
 refine Ac ⟨rfl,⟨_,sP⟩,?_⟩
 refine Am<|Bh<|Be ?_
 refine A5 rfl rfl rfl rfl fun b12=> ?_
 refine Ac ⟨rfl,⟨_,sP⟩,?_⟩
 refine Am<|Bh<|Be ?_
 refine Bd rfl (Abs (b:=b12) (s1:=s5) (s2:=s9) (s3:=lvV b1 c) (by rw [hs5,hs9,Bo,Bo];show _+_+c.lv.toList.length≤_;rw [Vector.length_toList,show Bl 8 8=8 from rfl,show Bl 4 8=4 from rfl];decide)) (by rw [Auo];exact sP) rfl fun v13 Y13 h13=> ?_
 obtain ⟨s13,rfl,rfl,hs13,ho13⟩:=h13
 refine Ay aQ ?_
 refine Ac ⟨rfl,⟨_,sP⟩,?_⟩
 refine Am<|A4<|xA rfl<|Am<|Bm<|n_K<|An ?_
 exact Av (At Tryz.results76 (Ag rfl)) (by exact ⟨s13,rfl,rfl,by rw [hs13,hs5,hs9];rfl,ho13⟩) sP
theorem Am9 {s:Sl By} {T:TypeId}:Does Tryz.prog 149 [s.val] (s.hp T++[])
  (fun v H=>(s.list.length≠44∧v= .tuple #[.agg (cmC cm0).toArray,.int .i64 11]∧H=s.hp T++[]) ∨
   (s.list.length=44∧v= .tuple #[.agg (cmC (Am6 s.list)).toArray,.int .i64 0]∧H=s.hp T++[])):=by
 refine Ah (n:=26) Tryz.func149 Tryz.ntmps149 rfl (Nat.le_of_ble_eq_true rfl)<|Ad<|Aa fun ops=> ?_
 refine Aw rfl fun b2=> ?_
 refine Q5 (G:=(b2,true,C (cmC cm0) tCm)::(s.hp T++[])) (by rw [← Aed];rfl) ?_
 refine oA rfl<|Ac<|n_K<|Ad<|Ad<|Aa fun ops=>oM rfl<|oR (A7 rfl)<|oR (Ae rfl rfl rfl)<|Ac<|n_K ?_
 refine Aj rfl (fun c7=> ?_) (fun c7=> ?_)
 ·skip
  have hok:s.list.length≠44:=(by simp at c7;omega)
  refine Ad<|Aa fun ops=> ?_
  refine oR (Au rfl mM (by first | exact Nl | rfl)) ?_
  first | refine Af rfl rfl uD (Rk) (Cr) (Aee (by first | exact Cr | exact List.length_replicate ..)) ?_ | refine Af rfl rfl uD rfl rfl rfl ?_
  refine oA rfl<|Ac<|n_K<|An<|r_K ?_
  exact Av (Bz Tryz.results149 (Bv rfl mM (by first | exact Nl | rfl)) (Ag rfl)) (by exact .inl ⟨hok,rfl,rfl⟩) sP
 ·skip
  have hok:s.list.length=44:=(by have:=c7;simp at this;omega)
  have hsm:s.list.length≤70000000000000:=(by omega)
  refine Ai<|n_K<|Ad<|Aa fun ops=>oM rfl ?_
  refine Bd rfl (Fe (s:=s) (T:=T) hsm) sP rfl fun v10 Y10 h10=> ?_
  obtain ⟨r,rfl,rfl,hr1,hr2⟩:=h10
  refine Ay aQ ?_
  refine oA rfl<|Ac<|n_K<|Ad<|Aa fun ops=>oM rfl ?_
  refine Bd rfl (Ff (r:=r) (n:=8) (by rw [hr1];exact hsm)) sP rfl fun v12 Y12 h12=> ?_
  obtain ⟨x1,sl1,bad1,rfl,rfl,hx1,hl1,hb1⟩:=h12
  rw [hr1,show Bl 8 8=8 from rfl] at hx1 hl1
  unfold C7 at hx1 hl1
  rw [if_neg (by omega)] at hx1 hl1
  simp only at hx1 hl1
  refine Ay aQ ?_
  refine oF rfl ?_
  refine Af (cs':=cmC ⟨x1,lv0,0⟩) rfl rfl uD rfl rfl rfl ?_
  refine Ac<|n_K<|Ad<|Aa fun ops=>oM rfl ?_
  refine Bd rfl (Ff (r:=⟨r.b,sl1,bad1⟩) (n:=4) (by simp only;rw [hl1,List.length_drop];omega)) sP rfl fun v15 Y15 h15=> ?_
  obtain ⟨x2,sl2,bad2,rfl,rfl,hx2,hl2,hb2⟩:=h15
  simp only at hx2 hl2
  rw [hl1,show Bl 4 8=4 from rfl] at hx2 hl2
  unfold C7 at hx2 hl2
  rw [if_neg (by rw [List.length_drop];omega)] at hx2 hl2
  simp only [List.drop_drop] at hx2 hl2
  refine Ay aQ ?_
  refine oR (show Rd _ _ _ _ (uv (x2.setWidth 32)) from by (unfold uv;rw [← Am8];exact C4 rfl)) ?_
  refine oF rfl ?_
  refine Af (cs':=cmC ⟨x1,lv0,x2.setWidth 32⟩) rfl rfl uD rfl rfl (by kernel_rfl) ?_
  refine Ac<|n_K<|Ad ?_
  refine s_draw [] [(6,[(0,false),(1,false),(2,false),(3,false),(4,true),(5,true)]),(7,[(6,true)])] (by kernel_rfl) rfl fun ops w0 H0 y=> ?_
  refine Bh<|xF rfl ?_
  refine xR (C5 (b:=b2) (o:=1) (sz:=1) (i:=0) (j:=32) (l:=32) rfl rfl rfl (by omega)) ?_
  refine xM rfl<|xM rfl<|Be ?_
  refine A6 rfl (Se (r:=⟨r.b,sl2,bad2⟩)) sP rfl aQ ?_
  refine Ac ⟨rfl,⟨_,sP⟩,?_⟩
  refine Be ?_
  refine Bd rfl (Jx (r:=⟨r.b,sl2,bad2⟩) (n:=(sl2.list.length:Nat)) (by simp only;rw [hl2,List.length_drop];omega)) sP rfl fun v23 Y23 h23=> ?_
  obtain ⟨bb,sl3,bad3,rfl,rfl,hbo,hbl,hl3,hb3⟩:=h23
  simp only at hbl
  rw [show (max ((sl2.list.length:Nat):Int) 0).toNat=sl2.list.length by omega] at hbl
  unfold C9 at hbl
  rw [if_neg (by omega),hl2] at hbl
  simp only [List.take_length] at hbl
  have hb32:bb.list.length=32:=(by rw [hbl,List.length_drop];omega)
  refine Ay aQ ?_
  refine Ac ⟨rfl,⟨_,sP⟩,?_⟩
  refine Am<|Bh<|Be ?_
  refine G5 (cs':=cmC ⟨x1,Yv bb.list,x2.setWidth 32⟩) rfl rfl (M5 (s:=bb) (T:=tU8) pL) (by omega) uD (by rw [Aro hb32];exact Wz _ _) (Gg _) rfl ?_
  refine Ac ⟨rfl,⟨_,sP⟩,?_⟩
  refine Am<|Bm<|n_K<|Ad<|Aa fun ops=> ?_
  refine oR (Au rfl mM (by first | exact Nl | rfl)) ?_
  first | refine Af rfl rfl uD (Rk) (Cr) (Aee (by first | exact Cr | exact List.length_replicate ..)) ?_ | refine Af rfl rfl uD rfl rfl rfl ?_
  refine oA rfl<|Ac<|n_K<|An ?_
  exact Av (Bz Tryz.results149 (Bv rfl mM (by first | exact Nl | rfl)) (Ag rfl)) (by exact .inr ⟨hok,(by have e:(⟨x1,Yv bb.list,x2.setWidth 32⟩:Cm)=Am6 s.list:=(by unfold Am6;rw [hx1,hx2,hbl]);rw [e]),rfl⟩) sP
end
section
open Go.K
instance agg31:Agg Tryz.prog 31 true:=⟨⟨_,Tryz.underlying31,rfl⟩⟩
instance siz31:Siz Tryz.prog 31 3:=⟨by kernel_rfl⟩
instance und62:Und Tryz.prog 62 (.map 3 124):=⟨Tryz.underlying62⟩
instance agg62:Agg Tryz.prog 62 false:=⟨⟨_,Tryz.underlying62,rfl⟩⟩
instance siz62:Siz Tryz.prog 62 1:=⟨by kernel_rfl⟩
instance agg124:Agg Tryz.prog 124 true:=⟨⟨_,Tryz.underlying124,rfl⟩⟩
instance siz124:Siz Tryz.prog 124 3:=⟨by kernel_rfl⟩
instance und283:Und Tryz.prog 283 (.array 2 62):=⟨Tryz.underlying283⟩
instance zer124:Zer Tryz.prog 124 ([.int .i64 0,.int .i64 0,.int .u64 0]):=⟨by kernel_rfl⟩
instance zer283:Zer Tryz.prog 283 ([.map none,.map none]):=⟨by kernel_rfl⟩
instance fld31_0:Fld Tryz.prog 31 0 0:=⟨⟨_,_,0,Tryz.underlying31,rfl,by kernel_rfl,rfl⟩⟩
instance fld67_1:Fld Tryz.prog 67 1 1:=⟨⟨_,_,0,Tryz.underlying67,rfl,by kernel_rfl,rfl⟩⟩
instance fld67_2:Fld Tryz.prog 67 2 2:=⟨⟨_,_,0,Tryz.underlying67,rfl,by kernel_rfl,rfl⟩⟩
instance fld67_4:Fld Tryz.prog 67 4 4:=⟨⟨_,_,33,Tryz.underlying67,rfl,by kernel_rfl,rfl⟩⟩
instance fld67_5:Fld Tryz.prog 67 5 38:=⟨⟨_,_,1,Tryz.underlying67,rfl,by kernel_rfl,rfl⟩⟩
instance fld67_7:Fld Tryz.prog 67 7 43:=⟨⟨_,_,1,Tryz.underlying67,rfl,by kernel_rfl,rfl⟩⟩
instance fld67_8:Fld Tryz.prog 67 8 45:=⟨⟨_,_,0,Tryz.underlying67,rfl,by kernel_rfl,rfl⟩⟩
instance fld124_0:Fld Tryz.prog 124 0 0:=⟨⟨_,_,1,Tryz.underlying124,rfl,by kernel_rfl,rfl⟩⟩
instance flat65:Flat Tryz.prog 65 ([some .i64,some .i64]):=⟨by kernel_rfl,by kernel_rfl,⟨_,Tryz.underlying65,rfl⟩⟩
instance ent162:Ent Tryz.prog 162:=⟨fun _ _=>by kernel_rfl⟩
instance ent207:Ent Tryz.prog 207:=⟨fun _ _=>by kernel_rfl⟩
set_option maxRecDepth 20000
set_option maxHeartbeats 1000000
structure Vw where
 num:Wd
 mem:Int
 base:Wd
def vw0:Vw:=⟨0,0,0⟩
def vwC (v:Vw):List Value:=[wv v.num,.int .i64 v.mem,wv v.base]
abbrev tVw:TypeId:=31
def My (v:Vw):List By:=Co 8 v.num++(Co 1 (BitVec.ofInt 64 v.mem)++(Co 8 v.base++[]))
structure En where
 at':Pl2
 ep:Wd
def Aix (e:En):List Value:=[.int .i64 e.at'.1,.int .i64 e.at'.2,wv e.ep]
instance:Mv En:=⟨fun e=> .agg (Aix e).toArray⟩
def Awb:En:=⟨(0,0),0⟩
abbrev tSt:TypeId:=67
structure Sto where
 st:Nat
 lg:Nat
 ib:Nat
 pb:Nat
 sb:Nat
 last:Cm
 la:Pl2
 vw:Vw
 va:Pl2
 viewed:Bool
 seen:Wd
 hurt:Bool
 idx:Mp En
 pend:Mp En
 stray:Mp Int
def stT (S:Sto):List Value:=[.int .i64 S.la.1,.int .i64 S.la.2,wv S.vw.num,.int .i64 S.vw.mem,wv S.vw.base,.int .i64 S.va.1,.int .i64 S.va.2,.bool S.viewed,wv S.seen,.bool S.hurt]
def stC (S:Sto):List Value:=ptr S.lg:: .map (some S.ib):: .map (some S.pb):: .map (some S.sb)::(cmC S.last++stT S)
theorem Yw (S:Sto):(stC S).length=48:=by
 show (cmC S.last++stT S).length+1+1+1+1=48
 rw [List.length_append,Cr];rfl
theorem Iv {S:Sto} {o:Nat} {v:Value} (h:nth (stT S) o=some v):nth (stC S) (o+38)=some v:=by
 rw [Ee] at h ⊢
 show (ptr S.lg:: .map (some S.ib):: .map (some S.pb):: .map (some S.sb)::(cmC S.last++stT S))[o+34+4]? =_
 simp only [List.getElem?_cons_succ]
 rw [List.getElem?_append_right (by rw [Cr];omega),Cr,Nat.add_sub_cancel]
 exact h
theorem Yx {S:Sto} {o m:Nat} {cs:List Value} (h:cut (stT S) o m=some cs):cut (stC S) (o+38) m=some cs:=by
 obtain ⟨h1,h2⟩:=cut_iff.1 h
 refine cut_iff.2 ⟨?_,by rw [Yw];have:(stT S).length=10:=rfl;omega⟩
 rw [h1]
 congr 1
 show (stT S).drop o=(ptr S.lg:: .map (some S.ib):: .map (some S.pb):: .map (some S.sb)::(cmC S.last++stT S)).drop (o+34+4)
 simp only [List.drop_succ_cons]
 have h9:(cmC S.last).drop (o+34)=[]:=List.drop_eq_nil_of_le (by rw [Cr];omega)
 rw [List.drop_append,h9,Cr,Nat.add_sub_cancel]
 rfl
theorem Agb (S:Sto):cut (stC S) 5 32=some (vbc S.last.lv):=by
 refine cut_iff.2 ⟨?_,by rw [Yw];decide⟩
 show _=(vbc S.last.lv++[uv S.last.sum]++stT S).take 32
 rw [List.append_assoc,List.take_left' Ar]
def stA (S:Sto):List Value:=[ptr S.lg,.map (some S.ib),.map (some S.pb),.map (some S.sb)]++cmC S.last
theorem Arq (S:Sto):(stA S).length=38:=by
 unfold stA
 rw [List.length_append,Cr];rfl
theorem Ds {S S':Sto} {o:Nat} {new:List Value} (h:Br (stT S) o new=some (stT S')) (h1:stA S'=stA S):Br (stC S) (o+38) new=some (stC S'):=by
 have e:∀ S,stC S=stA S++stT S:=fun S=>rfl
 have:=Ke (a:=stA S) h
 rw [Arq,Nat.add_comm] at this
 rw [e,e,h1]
 exact this
theorem Lz (S:Sto) (c:Cm):Br (stC S) 4 (cmC c)=some (stC { S with last:=c }):=by
 refine Eu ?_ (by rw [Yw,Cr];decide)
 rw [Cr]
 show ptr S.lg:: .map (some S.ib):: .map (some S.pb):: .map (some S.sb)::(cmC c++stT S)=[ptr S.lg,.map (some S.ib),.map (some S.pb),.map (some S.sb)]++cmC c++(cmC S.last++stT S).drop 34
 rw [List.drop_left' Cr]
 simp
def stH (S:Sto):Hp:=(S.st,true,C (stC S) tSt)::(S.ib,true,S.idx.obj .i64)::(S.pb,true,S.pend.obj .i64)::(S.sb,true,S.stray.obj .i64)::[]
def plB (x y:Pl2):Bool:=decide (x.1=y.1) && decide (x.2=y.2)
theorem plB_iff {x y:Pl2}:plB x y=true↔x=y:=by
 unfold plB
 simp [Prod.ext_iff]
theorem Uf (x y:Pl2):Cd [some .i64,some .i64] [.int .i64 x.1,.int .i64 x.2] [.int .i64 y.1,.int .i64 y.2]=some (plB x y):=by
 unfold plB
 simp [Cd,Kd]
 try rfl
theorem Aef {e:En} {b:Nat} {x:Pl2}:Does Tryz.prog 207 [.agg (Aix e).toArray,ptr b] [(b,true,C [.int .i64 x.1,.int .i64 x.2] tPc)] (Is (.bool (plB e.at' x)) [(b,true,C [.int .i64 x.1,.int .i64 x.2] tPc)]):=by
 refine Ah (n:=8) Tryz.func207 Tryz.ntmps207 rfl (Nat.le_of_ble_eq_true rfl)<|Ad<|Aa fun ops=> ?_
 refine De rfl rfl fun b2=> ?_
 refine oA rfl<|Ac<|n_K<|Ad<|Aa fun ops=>oF rfl ?_
 refine oR (Au rfl mM rfl) ?_
 refine oR (Au rfl mM rfl) ?_
 refine oR (Lq rfl rfl (Uf e.at' x)) ?_
 refine oA rfl<|Ac<|n_K<|An ?_
 refine Aq (At Tryz.results207 (Ag rfl)) ?_ sP
 rfl
def O5 (S:Sto) (x:Pl2):Bool:=(decide ((S.last.ep.toNat:Int)>0) && plB x S.la) || (S.viewed && plB x S.va)
def Fg (m:Mp En) (x:Pl2):Bool:=m.es.any fun e=>plB e.v.at' x
def mb (S:Sto) (i:Nat):Nat:=if i=0 then S.ib else S.pb
def mm (S:Sto) (i:Nat):Mp En:=if i=0 then S.idx else S.pend
theorem Aeg {S:Sto} {i:Nat} (hi:i<2) {H:Hp} (h1:(S.ib,true,S.idx.obj .i64)∈H) (h2:(S.pb,true,S.pend.obj .i64)∈H):(mb S i,true,(mm S i).obj .i64)∈H:=by
 have:i=0∨i=1:=by omega
 rcases this with rfl | rfl
 ·exact h1
 ·exact h2
theorem Aeh {m:Mp En} {x:Pl2} (h:∀ e∈m.es,plB e.v.at' x=false):Fg m x=false:=by
 unfold Fg
 rw [List.any_eq_false]
 intro e he
 rw [h e he];decide
theorem Abv {m:Mp En} {x:Pl2} {e:Me En} (he:e∈m.es) (h:plB e.v.at' x=true):Fg m x=true:=List.any_eq_true.2 ⟨e,he,h⟩
theorem Qm {S:Sto} {x:Pl2}:Does Tryz.prog 162 [ptr S.st,.agg #[.int .i64 x.1,.int .i64 x.2]] ((S.st,true,C (stC S) tSt)::(S.ib,true,S.idx.obj .i64)::(S.pb,true,S.pend.obj .i64)::[])
  (Is (.bool (O5 S x || Fg S.idx x || Fg S.pend x)) ((S.st,true,C (stC S) tSt)::(S.ib,true,S.idx.obj .i64)::(S.pb,true,S.pend.obj .i64)::[])):=by
 refine Ah (n:=61) Tryz.func162 Tryz.ntmps162 rfl (Nat.le_of_ble_eq_true rfl)<|Ad<|Aa fun ops=> ?_
 refine De rfl rfl fun b3=> ?_
 refine oA rfl<|Ac<|n_K<|Ad<|Aa fun ops=>oR (Oh rfl)<|oA rfl<|Ac<|n_K<|Ad<|Ad ?_
 refine s_draw [(6,17),(14,25),(19,30)] [(28,[(0,false),(1,false),(2,false),(3,false),(4,false),(5,false),(6,false),(7,false),(8,false),(9,false),(10,false),(11,false),(12,false),(13,false),(14,false),(15,false),(16,false),(17,false),(18,false),(19,false),(20,false),(21,false),(22,false),(23,false),(24,false),(25,false),(26,false),(27,false)])] (by kernel_rfl) rfl fun ops w0 H0 y=> ?_
 refine A4<|xM rfl<|xN rfl<|xF rfl<|xF rfl ?_
 refine xR (Al rfl mM rfl) ?_
 refine xR (Ae rfl rfl rfl)<|xM rfl ?_
 refine' Hx (j:=6) (k:=6) y rfl rfl rfl rfl rfl rfl rfl (fun hg17=> ?_) ?_
 rotate_left
 ·try (simp at hg17;show _)
  refine x_g y rfl rfl ?_
  refine xR (Au rfl mM rfl) ?_
  refine x_g y rfl rfl ?_
  refine xM rfl ?_
  refine x_g y rfl rfl ?_
  refine xN rfl ?_
  refine x_g y rfl rfl ?_
  refine xF rfl ?_
  refine x_g y rfl rfl ?_
  refine xR (Au rfl mM (Yx rfl)) ?_
  refine x_g y rfl rfl ?_
  refine xR (Lq rfl rfl (Uf x S.la)) ?_
  exact Am ⟨rfl,⟨_,sP⟩⟩
 refine xM rfl ?_
 refine' Qa (j:=14) (k:=12) y rfl rfl rfl rfl rfl rfl rfl (fun hg25=> ?_) ?_
 rotate_left
 ·try (simp at hg25;show _)
  refine x_g y rfl rfl ?_
  refine xM rfl ?_
  refine x_g y rfl rfl ?_
  refine xN rfl ?_
  refine x_g y rfl rfl ?_
  refine xF rfl ?_
  refine x_g y rfl rfl ?_
  refine xR (Al rfl mM (Iv rfl)) ?_
  refine x_g y rfl rfl ?_
  refine xM rfl ?_
  refine' Hx (j:=19) (k:=6) y rfl rfl rfl rfl rfl rfl rfl (fun hg30=> ?_) ?_
  rotate_left
  ·try (simp at hg30;show _)
   refine x_g y rfl rfl ?_
   refine xR (Au rfl mM rfl) ?_
   refine x_g y rfl rfl ?_
   refine xM rfl ?_
   refine x_g y rfl rfl ?_
   refine xN rfl ?_
   refine x_g y rfl rfl ?_
   refine xF rfl ?_
   refine x_g y rfl rfl ?_
   refine xR (Au rfl mM (Yx rfl)) ?_
   refine x_g y rfl rfl ?_
   refine xR (Lq rfl rfl (Uf x S.va)) ?_
   exact Am ⟨rfl,⟨_,sP⟩⟩
  exact Am ⟨rfl,⟨_,sP⟩⟩
 refine Am<|Bm<|n_K ?_
 refine Aj rfl (fun c38=> ?_) (fun c38=> ?_)
 ·skip
  have hB:O5 S x=true:=c38
  refine Ad<|Aa fun ops=>oA rfl<|Ac<|n_K<|An<|r_K ?_
  refine Aq (At Tryz.results162 (Ag rfl)) ?_ sP
  rw [hB];rfl
 ·skip
  have hB:O5 S x=false:=c38
  refine Ai<|n_K<|Ad<|Ad ?_
  refine s_draw [] [(10,[(0,false),(1,false),(2,false),(3,false),(4,false),(5,false),(6,false),(7,false),(8,false),(9,false)])] (by kernel_rfl) rfl fun ops w0 H0 y=> ?_
  refine A4<|xM rfl<|xN rfl<|xF rfl ?_
  refine xR (Al rfl mM rfl) ?_
  refine xM rfl<|xN rfl<|xF rfl ?_
  refine xR (Al rfl mM rfl) ?_
  refine xR (Nf rfl rfl)<|xM rfl<|Am<|Bm<|n_K<|Ak ?_
  refine A8 [0,3,5,47] kQ (fun (i:Nat)=>[(48,.int .i64 i)]) (fun (i:Nat)=>(b3,true,C [.int .i64 x.1,.int .i64 x.2] tPc)::(S.st,true,C (stC S) tSt)::(S.ib,true,S.idx.obj .i64)::(S.pb,true,S.pend.obj .i64)::[]) (fun (i:Nat)=>i≤2∧∀ j<i,Fg (mm S j) x=false) (fun (i:Nat)=>2 - i) (0) ⟨Nat.zero_le _,fun j hj=>by cases hj⟩ kP sP ?_
  rintro i ⟨g0,g1⟩
  refine Ad<|Aa fun ops=>oR (Ae rfl rfl rfl)<|Ac<|n_K<|Ad ?_
  refine Aj rfl (fun c49=> ?_) (fun c49=> ?_)
  ·simp only [decide_eq_true_eq,decide_eq_false_iff_not] at c49
   have hi:i<2:=(by omega)
   refine Ai<|n_K<|Ad<|Ak<|Ad<|Aa fun ops=> ?_
   refine oR (Alm (v:= .map (some (mb S i))) rfl rfl (by omega) (by have:i=0∨i=1:=(by omega);rcases this with rfl | rfl <;> rfl)) ?_
   refine oA rfl<|Ac<|n_K<|Ad<|Aa fun ops=>oM rfl ?_
   refine Ip (m:=mm S i) (kd:= .i64) rfl (Aeg hi mM mM) rfl fun it52=> ?_
   refine Ac<|n_K<|Ak ?_
   refine A8 [0,3,5,47,48,52] kQ (fun (seen:List Nat)=>[]) (fun (seen:List Nat)=>(it52,true,itO (mb S i) (mm S i).cl seen (mm S i).cl)::(b3,true,C [.int .i64 x.1,.int .i64 x.2] tPc)::(S.st,true,C (stC S) tSt)::(S.ib,true,S.idx.obj .i64)::(S.pb,true,S.pend.obj .i64)::[]) (fun (seen:List Nat)=>∀ e∈(mm S i).es,e.n∈seen→plB e.v.at' x=false) (fun (seen:List Nat)=>Hw (mm S i) seen) ([]) (fun e _ h=>by cases h) kP sP ?_
   rintro seen hs
   refine Ad<|Aa fun ops=> ?_
   refine Ki rfl (by repeat (first | exact Pick.here | apply Pick.there | apply Pick.app)) (Aeg hi mM mM) (Mp.wc _) (Nat.le_refl _) rfl (fun hl53=> ?_) (fun e53 he53 hn53=> ?_)
   ·refine oE rfl rfl<|Ac<|n_K<|Ad ?_
    refine Bi rfl ?_
    refine Bb<|x_K<|x_K<|Bj<|Az<|n_K<|Aa fun ops=> ?_
    refine oR (Ao rfl rfl (by omega)) ?_
    refine oM rfl<|Ac<|n_K ?_
    exact ⟨i+1,⟨by omega,fun j hj=>by by_cases h:j=i;(subst h;exact Aeh fun e he=>hs e he (Ib hl53 e he));exact g1 j (by omega)⟩,(by omega),lZ⟩
   ·refine oE rfl rfl<|Ac<|n_K<|Ad ?_
    refine F1 rfl ?_
    refine Ai<|n_K<|Ak<|Ad<|Aa fun ops=> ?_
    refine oR (Iq rfl mM (Aeg hi mM mM) he53) ?_
    refine oE rfl rfl ?_
    refine Aw rfl fun b9=> ?_
    refine Af rfl rfl uD rfl rfl rfl ?_
    refine Ac<|n_K<|Ad<|Aa fun ops=>oM rfl ?_
    refine oR (Au rfl mM rfl) ?_
    refine S8 (fi:=[]) (ca:=[ptr b3]) rfl rfl (Aef (e:=e53.v) (b:=b3) (x:=x)) sP rfl aQ ?_
    refine Ac<|n_K ?_
    refine Aj rfl (fun c59=> ?_) (fun c59=> ?_)
    ·skip
     have hM:=Abv he53 c59
     refine Ad<|Aa fun ops=>oA rfl<|Ac<|n_K<|An<|Bn<|r_K<|Bn<|Bn<|r_K<|r_K<|Bn<|r_K ?_
     refine Aq (At Tryz.results162 (Ag rfl)) ?_ sP
     have hc:Fg S.idx x=true∨Fg S.pend x=true:=(by have:i=0∨i=1:=(by omega);rcases this with rfl | rfl;exact .inl hM;exact .inr hM);rcases hc with h | h <;> rw [h] <;> simp
    ·skip
     refine Ai<|Az<|n_K ?_
     exact ⟨seen++[e53.n],(fun e he h=>by rcases List.mem_append.1 h with h | h;exact hs e he h;(have:=List.mem_singleton.1 h;rw [Mp.n_inj he he53 this];exact c59)),(Da he53 hn53),lZ⟩
  ·simp only [decide_eq_true_eq,decide_eq_false_iff_not] at c49
   have hi:i=2:=(by omega)
   subst hi
   refine Bb<|x_K<|x_K<|Bj<|n_K<|Ad<|Aa fun ops=>oA rfl<|Ac<|n_K<|An ?_
   refine Aq (At Tryz.results162 (Ag rfl)) ?_ sP
   rw [hB,show Fg S.idx x=false from g1 0 (by omega),show Fg S.pend x=false from g1 1 (by omega)];rfl
end
section
open Go.K
instance fld124_1:Fld Tryz.prog 124 1 2:=⟨⟨_,_,0,Tryz.underlying124,rfl,by kernel_rfl,rfl⟩⟩
instance plc124:Plc Tryz.prog 124 [(0,2),(2,1)]:=⟨⟨_,Tryz.underlying124,fun _=>by kernel_rfl⟩⟩
instance ent164:Ent Tryz.prog 164:=⟨fun _ _=>by kernel_rfl⟩
set_option maxRecDepth 20000
set_option maxHeartbeats 1000000
def mvE (f t:Pl2) (e:En):En:=if plB e.at' f=true then ⟨t,e.ep⟩ else e
def Yy (S:Sto) (f t:Pl2):Sto:={ S with la:=if (decide ((S.last.ep.toNat:Int)>0) && plB S.la f)=true then t else S.la }
def Yz (S:Sto) (f t:Pl2):Sto:={ S with va:=if (S.viewed && plB S.va f)=true then t else S.va }
def Dd (S:Sto) (f t:Pl2):Sto:={ Yz (Yy S f t) f t with idx:=S.idx.mapV (mvE f t),pend:=S.pend.mapV (mvE f t) }
def sel (i:Nat) (X Y:Mp En):Mp En:=if i=0 then X else Y
def pX (i:Nat) (m X:Mp En):Mp En:=if i=0 then m else X
def pY (i:Nat) (m Y:Mp En):Mp En:=if i=0 then Y else m
theorem Y0 {S:Sto} {i:Nat} {X Y:Mp En} (hi:i<2) {H:Hp} (h1:(S.ib,true,X.obj .i64)∈H) (h2:(S.pb,true,Y.obj .i64)∈H):(mb S i,true,(sel i X Y).obj .i64)∈H:=by
 have:i=0∨i=1:=by omega
 rcases this with rfl | rfl
 ·exact h1
 ·exact h2
theorem Abw {b:Nat} {o:Obj} {H K:Hp} (h:Upd b o o H K):K=H:=by
 generalize e:o=o' at h
 induction h with
 | here=>subst e;rfl
 | there _ ih=>rw [ih]
theorem Arr {S:Sto} {i:Nat} {X Y m:Mp En} (hi:i<2) {H K G:Hp} (h1:Upd S.ib (X.obj .i64) ((pX i m X).obj .i64) H K) (h2:Upd S.pb (Y.obj .i64) ((pY i m Y).obj .i64) K G):Upd (mb S i) ((sel i X Y).obj .i64) (m.obj .i64) H G:=by
 have:i=0∨i=1:=by omega
 rcases this with rfl | rfl
 ·have:=Abw h2
  subst this
  exact h1
 ·have:=Abw h1
  subst this
  exact h2
theorem Agc {f t:Pl2} {e:En} (h:plB e.at' f=true):mvE f t e=⟨t,e.ep⟩:=if_pos h
theorem Ana {f t:Pl2} {e:En} (h:plB e.at' f=false):mvE f t e=e:=if_neg (by rw [h];decide)
def MvI (S:Sto) (g:En→En) (i:Nat) (X Y:Mp En):Prop:=X=(if 0<i then S.idx.mapV g else S.idx)∧Y=if 1<i then S.pend.mapV g else S.pend
def MvJ (S:Sto) (g:En→En) (i:Nat) (seen:List Nat) (X Y:Mp En):Prop:=(i=0→X=S.idx.upS g seen∧Y=S.pend)∧(i=1→X=S.idx.mapV g∧Y=S.pend.upS g seen)
theorem MvJ.sel {S:Sto} {g:En→En} {i:Nat} {seen:List Nat} {X Y:Mp En} (h:MvJ S g i seen X Y) (hi:i<2):sel i X Y=(mm S i).upS g seen:=by
 have:i=0∨i=1:=by omega
 rcases this with rfl | rfl
 ·exact (h.1 rfl).1
 ·exact (h.2 rfl).2
theorem MvI.start {S:Sto} {g:En→En} {i:Nat} {X Y:Mp En} (h:MvI S g i X Y) (hi:i<2):MvJ S g i [] X Y:=by
 obtain ⟨rfl,rfl⟩:=h
 refine ⟨fun e=> ?_,fun e=> ?_⟩ <;> subst e <;> refine ⟨?_,?_⟩
 ·rw [Mp.upS_nil];rfl
 ·rfl
 ·rfl
 ·rw [Mp.upS_nil];rfl
theorem MvJ.done {S:Sto} {g:En→En} {i:Nat} {seen:List Nat} {X Y:Mp En} (h:MvJ S g i seen X Y) (hi:i<2) (hl:Gr (Go.Proofs.YtpmojdippdlcaaaGreatDoor.sel i X Y) seen=[]):MvI S g (i+1) X Y:=by
 rw [h.sel hi] at hl
 have ha:=Mp.upS_all (f:=g) (Mp.upS_left hl)
 have:i=0∨i=1:=by omega
 rcases this with rfl | rfl
 ·obtain ⟨rfl,rfl⟩:=h.1 rfl
  exact ⟨ha,rfl⟩
 ·obtain ⟨rfl,rfl⟩:=h.2 rfl
  exact ⟨rfl,ha⟩
theorem MvJ.put {S:Sto} {g:En→En} {i:Nat} {seen:List Nat} {X Y:Mp En} {e:Me En} {v:En} (h:MvJ S g i seen X Y) (hi:i<2) (he:e∈(Go.Proofs.YtpmojdippdlcaaaGreatDoor.sel i X Y).es) (hn:e.n∉seen) (hv:v=g e.v) :
  MvJ S g i (seen++[e.n]) (pX i ((Go.Proofs.YtpmojdippdlcaaaGreatDoor.sel i X Y).put e.k v) X) (pY i ((Go.Proofs.YtpmojdippdlcaaaGreatDoor.sel i X Y).put e.k v) Y):=by
 have hs:=h.sel hi
 rw [hs] at he
 have he':=Mp.upS_mem he hn
 have hp:(Go.Proofs.YtpmojdippdlcaaaGreatDoor.sel i X Y).put e.k v=(mm S i).upS g (seen++[e.n]):=by
  rw [hs,hv];exact Mp.upS_put he' hn
 rw [hp]
 have:i=0∨i=1:=by omega
 rcases this with rfl | rfl
 ·exact ⟨fun _=>⟨rfl,(h.1 rfl).2⟩,fun e=>(nomatch e)⟩
 ·exact ⟨fun e=>(nomatch e),fun _=>⟨(h.2 rfl).1,rfl⟩⟩
theorem MvJ.skip {S:Sto} {g:En→En} {i:Nat} {seen:List Nat} {X Y:Mp En} {e:Me En} (h:MvJ S g i seen X Y) (hi:i<2) (he:e∈(Go.Proofs.YtpmojdippdlcaaaGreatDoor.sel i X Y).es) (hn:e.n∉seen) (hv:g e.v=e.v):MvJ S g i (seen++[e.n]) X Y:=by
 have hs:=h.sel hi
 rw [hs] at he
 have he':=Mp.upS_mem he hn
 have hk:=Mp.upS_skip (seen:=seen) he' hv
 have:i=0∨i=1:=by omega
 rcases this with rfl | rfl
 ·obtain ⟨rfl,rfl⟩:=h.1 rfl
  exact ⟨fun _=>⟨hk.symm,rfl⟩,fun e=>(nomatch e)⟩
 ·obtain ⟨rfl,rfl⟩:=h.2 rfl
  exact ⟨fun e=>(nomatch e),fun _=>⟨rfl,hk.symm⟩⟩
theorem MvJ.mem {S:Sto} {g:En→En} {i:Nat} {seen:List Nat} {X Y:Mp En} {e:Me En} (h:MvJ S g i seen X Y) (hi:i<2) (he:e∈(Go.Proofs.YtpmojdippdlcaaaGreatDoor.sel i X Y).es) (hn:e.n∉seen):e∈(mm S i).es:=by
 rw [h.sel hi] at he
 exact Mp.upS_mem he hn
theorem MvJ.cl {S:Sto} {g:En→En} {i:Nat} {seen:List Nat} {X Y:Mp En} (h:MvJ S g i seen X Y) (hi:i<2):(Go.Proofs.YtpmojdippdlcaaaGreatDoor.sel i X Y).cl=(mm S i).cl:=by rw [h.sel hi];rfl
theorem Anb {S:Sto} {f t:Pl2} {S2:Sto} (hS2:S2=Dd S f t):Does Tryz.prog 164 [ptr S.st,.agg #[.int .i64 f.1,.int .i64 f.2],.agg #[.int .i64 t.1,.int .i64 t.2]] ((S.st,true,C (stC S) tSt)::(S.ib,true,S.idx.obj .i64)::(S.pb,true,S.pend.obj .i64)::[])
  (Is (.tuple #[]) ((S2.st,true,C (stC S2) tSt)::(S2.ib,true,S2.idx.obj .i64)::(S2.pb,true,S2.pend.obj .i64)::[])):=by
 obtain ⟨S1,hS1⟩:∃ S1,S1=Yy S f t:=⟨_,rfl⟩
 obtain ⟨S0,hS0⟩:∃ S0,S0=Yz S1 f t:=⟨_,rfl⟩
 refine Ah (n:=74) Tryz.func164 Tryz.ntmps164 rfl (Nat.le_of_ble_eq_true rfl)<|Ad<|Aa fun ops=> ?_
 refine De rfl rfl fun b4=> ?_
 refine De rfl rfl fun b5=> ?_
 refine Ac<|n_K ?_
 refine P4 (fun F L=>F=[(0,ptr S.st),(4,ptr b4),(5,ptr b5)]∧L=(b5,true,C [.int .i64 t.1,.int .i64 t.2] tPc)::(b4,true,C [.int .i64 f.1,.int .i64 f.2] tPc)::(S1.st,true,C (stC S1) tSt)::(S1.ib,true,S1.idx.obj .i64)::(S1.pb,true,S1.pend.obj .i64)::[]) ?_ ?_
 ·refine Ad ?_
  refine s_draw [(6,16)] [(14,[(0,false),(1,false),(2,false),(3,false),(4,false),(5,false),(6,false),(7,false),(8,false),(9,false),(10,false),(11,false),(12,false),(13,false)])] (by kernel_rfl) rfl fun ops w0 H0 y=> ?_
  refine A4<|xM rfl<|xN rfl<|xF rfl<|xF rfl ?_
  refine xR (Al rfl mM rfl) ?_
  refine xR (Ae rfl rfl rfl)<|xM rfl ?_
  refine' Hx (j:=6) (k:=6) y rfl rfl rfl rfl rfl rfl rfl (fun hg16=> ?_) ?_
  rotate_left
  ·try (simp at hg16;show _)
   refine x_g y rfl rfl ?_
   refine xM rfl ?_
   refine x_g y rfl rfl ?_
   refine xN rfl ?_
   refine x_g y rfl rfl ?_
   refine xF rfl ?_
   refine x_g y rfl rfl ?_
   refine xR (Au rfl mM (Yx rfl)) ?_
   refine x_g y rfl rfl ?_
   refine xR (Au rfl mM rfl) ?_
   refine x_g y rfl rfl ?_
   refine xR (Lq rfl rfl (Uf S.la f)) ?_
   exact Am ⟨rfl,⟨_,sP⟩⟩
  refine Am<|Bm<|n_K ?_
  refine Aj rfl (fun c23=> ?_) (fun c23=> ?_)
  ·skip
   have e1:S1={ S with la:=t }:=(by rw [hS1];unfold Yy;rw [if_pos c23])
   subst e1
   refine Aa fun ops=>oM rfl ?_
   refine oR (Au rfl mM rfl) ?_
   refine oN rfl<|oF rfl ?_
   refine Af (cs':=stC { S with la:=t }) rfl rfl uD rfl rfl (Ds (S:=S) rfl rfl) ?_
   refine Ac<|n_K ?_
   exact ⟨_,_,⟨rfl,rfl⟩,jZ⟩
  ·skip
   have e1:S1=S:=(by rw [hS1];unfold Yy;rw [if_neg (by rw [c23];decide)])
   subst e1
   refine Ai<|n_K ?_
   exact ⟨_,_,⟨rfl,rfl⟩,jZ⟩
 ·rintro F L ⟨rfl,rfl⟩
  have est:S1.st=S.st:=(by rw [hS1];rfl)
  rw [← est]
  refine P4 (fun F L=>F=[(0,ptr S1.st),(4,ptr b4),(5,ptr b5)]∧L=(b5,true,C [.int .i64 t.1,.int .i64 t.2] tPc)::(b4,true,C [.int .i64 f.1,.int .i64 f.2] tPc)::(S0.st,true,C (stC S0) tSt)::(S0.ib,true,S0.idx.obj .i64)::(S0.pb,true,S0.pend.obj .i64)::[]) ?_ ?_
  ·refine Ad ?_
   refine s_draw [(4,32)] [(12,[(0,false),(1,false),(2,false),(3,false),(4,false),(5,false),(6,false),(7,false),(8,false),(9,false),(10,false),(11,false)])] (by kernel_rfl) rfl fun ops w0 H0 y=> ?_
   refine A4<|xM rfl<|xN rfl<|xF rfl ?_
   refine xR (Al rfl mM (Iv rfl)) ?_
   refine xM rfl ?_
   refine' Hx (j:=4) (k:=6) y rfl rfl rfl rfl rfl rfl rfl (fun hg32=> ?_) ?_
   rotate_left
   ·try (simp at hg32;show _)
    refine x_g y rfl rfl ?_
    refine xM rfl ?_
    refine x_g y rfl rfl ?_
    refine xN rfl ?_
    refine x_g y rfl rfl ?_
    refine xF rfl ?_
    refine x_g y rfl rfl ?_
    refine xR (Au rfl mM (Yx rfl)) ?_
    refine x_g y rfl rfl ?_
    refine xR (Au rfl mM rfl) ?_
    refine x_g y rfl rfl ?_
    refine xR (Lq rfl rfl (Uf S1.va f)) ?_
    exact Am ⟨rfl,⟨_,sP⟩⟩
   refine Am<|Bm<|n_K ?_
   refine Aj rfl (fun c39=> ?_) (fun c39=> ?_)
   ·skip
    have e1:S0={ S1 with va:=t }:=(by rw [hS0];unfold Yz;rw [if_pos c39])
    subst e1
    refine Aa fun ops=>oM rfl ?_
    refine oR (Au rfl mM rfl) ?_
    refine oN rfl<|oF rfl ?_
    refine Af (cs':=stC { S1 with va:=t }) rfl rfl uD rfl rfl (Ds (S:=S1) rfl rfl) ?_
    refine Ac<|n_K ?_
    exact ⟨_,_,⟨rfl,rfl⟩,jZ⟩
   ·skip
    have e1:S0=S1:=(by rw [hS0];unfold Yz;rw [if_neg (by rw [c39];decide)])
    subst e1
    refine Ai<|n_K ?_
    exact ⟨_,_,⟨rfl,rfl⟩,jZ⟩
  ·rintro F L ⟨rfl,rfl⟩
   have est0:S0.st=S1.st:=(by rw [hS0];rfl)
   rw [← est0]
   refine Ad ?_
   refine s_draw [] [(10,[(0,false),(1,false),(2,false),(3,false),(4,false),(5,false),(6,false),(7,false),(8,false),(9,false)])] (by kernel_rfl) rfl fun ops w0 H0 y=> ?_
   refine A4<|xM rfl<|xN rfl<|xF rfl ?_
   refine xR (Al rfl mM rfl) ?_
   refine xM rfl<|xN rfl<|xF rfl ?_
   refine xR (Al rfl mM rfl) ?_
   refine xR (Nf rfl rfl)<|xM rfl<|Am<|Bm<|n_K<|Ak ?_
   refine A8 [4,5,52] kQ (fun (st:Nat×Mp En×Mp En)=>[(53,.int .i64 st.1)]) (fun (st:Nat×Mp En×Mp En)=>(b5,true,C [.int .i64 t.1,.int .i64 t.2] tPc)::(b4,true,C [.int .i64 f.1,.int .i64 f.2] tPc)::(S0.st,true,C (stC S0) tSt)::(S0.ib,true,st.2.1.obj .i64)::(S0.pb,true,st.2.2.obj .i64)::[]) (fun (st:Nat×Mp En×Mp En)=>st.1≤2∧MvI S0 (mvE f t) st.1 st.2.1 st.2.2) (fun (st:Nat×Mp En×Mp En)=>2 - st.1) ((0,S0.idx,S0.pend)) ⟨Nat.zero_le _,rfl,rfl⟩ kP sP ?_
   rintro ⟨i,X,Y⟩ ⟨g0,gI⟩
   simp only at g0 gI
   refine Ad<|Aa fun ops=>oR (Ae rfl rfl rfl)<|Ac<|n_K<|Ad ?_
   refine Aj rfl (fun c54=> ?_) (fun c54=> ?_)
   ·simp only [decide_eq_true_eq,decide_eq_false_iff_not] at c54
    have hi:i<2:=(by omega)
    have hJ0:=gI.start hi
    have hcl0:=hJ0.cl hi
    refine Ai<|n_K<|Ad<|Ak<|Ad<|Aa fun ops=> ?_
    refine oR (Alm (v:= .map (some (mb S0 i))) rfl rfl (by omega) (by have:i=0∨i=1:=(by omega);rcases this with rfl | rfl <;> rfl)) ?_
    refine oA rfl<|Ac<|n_K<|Ad<|Aa fun ops=>oM rfl ?_
    refine Ip (m:=sel i X Y) (kd:= .i64) rfl (Y0 hi mM mM) rfl fun it57=> ?_
    refine Ac<|n_K<|Ak ?_
    refine A8 [4,5,7,52,53,57] kQ (fun (st:List Nat×Mp En×Mp En)=>[]) (fun (st:List Nat×Mp En×Mp En)=>(it57,true,itO (mb S0 i) (mm S0 i).cl st.1 (mm S0 i).cl)::(b5,true,C [.int .i64 t.1,.int .i64 t.2] tPc)::(b4,true,C [.int .i64 f.1,.int .i64 f.2] tPc)::(S0.st,true,C (stC S0) tSt)::(S0.ib,true,st.2.1.obj .i64)::(S0.pb,true,st.2.2.obj .i64)::[]) (fun (st:List Nat×Mp En×Mp En)=>MvJ S0 (mvE f t) i st.1 st.2.1 st.2.2) (fun (st:List Nat×Mp En×Mp En)=>Hw (mm S0 i) st.1) (([],X,Y)) hJ0 kP (by rw [hcl0];exact sP) ?_
    rintro ⟨seen,X,Y⟩ gJ
    simp only at gJ
    have hcl:=gJ.cl hi
    refine Ad<|Aa fun ops=> ?_
    refine Ki rfl (by repeat (first | exact Pick.here | apply Pick.there | apply Pick.app)) (Y0 hi mM mM) (by rw [← hcl];exact Mp.wc _) (Nat.le_refl _) rfl (fun hl58=> ?_) (fun e58 he58 hn58=> ?_)
    ·refine oE rfl rfl<|Ac<|n_K<|Ad ?_
     refine Bi rfl ?_
     refine Bb<|x_K<|x_K<|Bj<|Az<|n_K<|Aa fun ops=> ?_
     refine oR (Ao rfl rfl (by omega)) ?_
     refine oM rfl<|Ac<|n_K ?_
     exact ⟨(i+1,X,Y),⟨by simp only;omega,gJ.done hi hl58⟩,(by simp only;omega),lZ⟩
    ·refine oE rfl rfl<|Ac<|n_K<|Ad ?_
     refine F1 rfl ?_
     refine Ai<|n_K<|Ak<|Ad<|Aa fun ops=> ?_
     refine oR (Iq rfl mM (Y0 hi mM mM) he58) ?_
     refine oE rfl rfl<|oE rfl rfl ?_
     refine Aw rfl fun b9=> ?_
     refine oA rfl ?_
     refine Af rfl rfl uD rfl rfl rfl ?_
     refine Ac<|n_K<|Ad<|Aa fun ops=>oF rfl ?_
     refine oR (Au rfl mM rfl) ?_
     refine oR (Au rfl mM rfl) ?_
     refine oR (Lq rfl rfl (Uf e58.v.at' f)) ?_
     refine Ac<|n_K ?_
     refine Aj rfl (fun c66=> ?_) (fun c66=> ?_)
     ·skip
      refine Aa fun ops=>oM rfl<|oM rfl ?_
      refine oR (Au rfl mM rfl) ?_
      refine oF rfl ?_
      refine oR (Al rfl mM rfl) ?_
      refine oR (Bc rfl rfl) ?_
      refine V4 (m:=sel i X Y) (v:=(⟨t,e58.v.ep⟩:En)) (kd:= .i64) rfl rfl rfl (Arr hi uD uD) ?_
      refine Ac<|Az<|n_K ?_
      rw [hcl]
      first | exact ⟨(seen++[e58.n],_,_),gJ.put hi he58 hn58 (Agc c66).symm,Da (gJ.mem hi he58 hn58) hn58,lZ⟩ | exact ⟨(seen++[e58.n],X,Y),gJ.skip hi he58 hn58 (Ana c66),Da (gJ.mem hi he58 hn58) hn58,lZ⟩
     ·skip
      refine Ai<|Az<|n_K ?_
      rw [hcl]
      first | exact ⟨(seen++[e58.n],_,_),gJ.put hi he58 hn58 (Agc c66).symm,Da (gJ.mem hi he58 hn58) hn58,lZ⟩ | exact ⟨(seen++[e58.n],X,Y),gJ.skip hi he58 hn58 (Ana c66),Da (gJ.mem hi he58 hn58) hn58,lZ⟩
   ·simp only [decide_eq_true_eq,decide_eq_false_iff_not] at c54
    have hi:i=2:=(by omega)
    subst hi
    refine Bb<|x_K<|x_K<|Bj ?_
    refine Lp (Ml Tryz.results164) ?_ (by obtain ⟨rfl,rfl⟩:=gI;rw [hS2,show Dd S f t={ S0 with idx:=S0.idx.mapV (mvE f t),pend:=S0.pend.mapV (mvE f t) } from by rw [hS0,hS1];rfl];exact sP)
    rfl
end
end Go.Proofs.YtpmojdippdlcaaaGreatDoor
