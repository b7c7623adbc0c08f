/- For every input, what is said of the program's store holds: its nodes, its last commit; the conditions are the statement's own: part 4. -/
import Derived.Test.YtpmojdippdlcaaaGreatDoorJ2
import Derived.Test.YtpmojdippdlcaaaGreatDoorJ3
import Derived.Test.YtpmojdippdlcaaaGreatDoorJ1
import Derived.Lib.Small
import Derived.Lib.Walk
import Derived.Shelf.SlSortCmp.NoneTotal
import Derived.Ground.SlsfProg
set_option linter.unusedVariables false
set_option linter.unusedSimpArgs false
set_option maxRecDepth 100000
set_option maxHeartbeats 1000000
set_option synthInstance.maxSize 4000
set_option synthInstance.maxHeartbeats 400000
namespace Go.Proofs.YtpmojdippdlcaaaGreatDoor
section
open Go.K
instance agg65:Agg Tryz.prog 65 true:=⟨⟨_,Tryz.underlying65,rfl⟩⟩
instance siz65:Siz Tryz.prog 65 2:=⟨by kernel_rfl⟩
instance zer65:Zer Tryz.prog 65 ([.int .i64 0,.int .i64 0]):=⟨by kernel_rfl⟩
instance plc65:Plc Tryz.prog 65 [(0,1),(1,1)]:=⟨⟨_,Tryz.underlying65,fun _=>by kernel_rfl⟩⟩
instance ent112:Ent Tryz.prog 112:=⟨fun _ _=>by kernel_rfl⟩
abbrev tPc:TypeId:=65
def Ay7 (V:Nat→Blk) (bs:List LB) (nb:Nat):Prop:=∀ b<nb,(bAt bs b).ready=true→(V b).next=1∧(bAt bs b).known=true∧Av (V b) 0=Jk (bAt bs b).wear
def Zd (V:Nat→Blk) (bs:List LB) (last:Int):Prop:=last<0∨∃ l:Nat,last=l∧∀ m:Nat,(bAt bs l).next≤m→m<8→(V l).next≠m
def Q4 (bs bs':List LB) (nb:Nat) (last to:Int):Prop:=∀ j<nb,(j:Int)≠to→bAt bs' j=bAt bs j∨(last=j∧bAt bs' j={ bAt bs j with next:=8 })
def Asl (n nb k:Nat) (q:Qt) (V:Nat→Blk) (bs:List LB) (last:Int) (p:Pg) (c:Chip) (t:TS) (bs':List LB) (last' e pb pj:Int) (t':TS) (c':Chip):Prop :=
  (∃ l nx:Nat,last=l∧(bAt bs l).next≤nx∧nx<8∧(V l).next=nx∧FrA c c'∧∃ v:Blk,v.next=((nx+1:Nat):Int)∧S3 v (V l) nx ∧
    ((e=0∧DV c' t' n k (upV V l v)∧Acc q c' t'∧Av v nx=p∧pb=l∧pj=nx∧last'=last∧bs'=bs.set l { bAt bs l with next:=(nx:Int)+1 }∧(q.n=0→Ab2 c c')) ∨
     (e=30∧c'.off=true∧¬ c.after<0∧(∃ m,Av v nx=Ck m Ar p)∧Later c' n k q.n (upV V l v)))) ∨
  (Zd V bs last∧((e=40∧toU bs nb<0∧t'=t∧c'=c∧last'=last∧bs'.length=nb∧Q4 bs bs' nb last (-1)) ∨
    (FrA c c'∧bs'.length=nb∧∃ (to:Nat) (v:Blk),toU bs nb=to ∧
      ((e=0∧DV c' t' n k (upV V to v)∧Acc q c' t'∧pb=to∧pj=2∧last'=to∧v.next=3∧Av v 2=p∧Av v 1=O2 (seqN bs last)∧Av v 0=Jk (bAt bs to).wear∧bAt bs' to=⟨(bAt bs to).wear,true,seqN bs last,false,3⟩∧Q4 bs bs' nb last to) ∨
       (e=30∧c'.off=true∧¬ c.after<0∧Later c' n k q.n (upV V to v)∧(Awr (V to) v (bAt bs to) (seqN bs last)∨(v.next=3∧Av v 1=O2 (seqN bs last)∧∃ m,Av v 2=Ck m Ar p)))))))
def bsN (bs:List LB) (last:Int) (nx:Nat):List LB:=if 0≤last then bs.set last.toNat { bAt bs last.toNat with next:=(nx:Int) } else bs
theorem O5 (bs:List LB) (last:Int) (nx:Nat):(bsN bs last nx).length=bs.length:=by unfold bsN;split <;> simp
theorem N6 {bs:List LB} {last:Int} {nx j:Nat} (hl:last<bs.length):bAt (bsN bs last nx) j=if last=j then { bAt bs j with next:=(nx:Int) } else bAt bs j:=by
  unfold bsN
  split
  · rw [Dn (by omega)]
    by_cases e:j=last.toNat
    · rw [if_pos e,if_pos (by omega),e]
    · rw [if_neg e,if_neg (by omega)]
  · rw [if_neg (by omega)]
theorem Ga {bs:List LB} {last:Int} {nx j:Nat} (hl:last<bs.length):(bAt (bsN bs last nx) j).seq=(bAt bs j).seq∧(bAt (bsN bs last nx) j).wear=(bAt bs j).wear∧(bAt (bsN bs last nx) j).ready=(bAt bs j).ready∧(bAt (bsN bs last nx) j).known=(bAt bs j).known:=by
  rw [N6 hl]
  split <;> exact ⟨rfl,rfl,rfl,rfl⟩
theorem Ahf {bs:List LB} {last:Int} {nx:Nat} (hl:last<bs.length):∀ k,toU (bsN bs last nx) k=toU bs k
  | 0=>rfl
  | k+1=>by
    unfold toU
    rw [Ahf hl k,(Ga hl).1,(Ga hl).2.1,(Ga hl).2.1]
theorem Am3 {bs:List LB} {last:Int} {nx:Nat} (hl:last<bs.length):seqN (bsN bs last nx) last=seqN bs last:=by
  unfold seqN
  rw [(Ga hl).1]
theorem Ahg {bs:List LB} {l nx:Nat} (m:Int) (hl:l<bs.length):(bsN bs l nx).set l { bAt (bsN bs l nx) l with next:=m }=bs.set l { bAt bs l with next:=m }:=by
  rw [N6 (by omega),if_pos rfl]
  unfold bsN
  rw [if_pos (by omega),A24,A5c]
def Ajs (n nb k:Nat) (q:Qt) (V:Nat→Blk) (bs:List LB) (last:Int) (nx:Nat) (c:Chip) (t:TS) (t1:TS) (c1:Chip) (bs1:List LB) (bn jn:Nat) (V1:Nat→Blk):Prop :=
  bs1.length=nb∧FrA c c1∧DV c1 t1 n k V1∧Acc q c1 t1∧bn<nb∧jn<8∧(bAt bs1 bn).next=jn ∧
  ((last=bn∧jn=nx∧t1=t∧c1=c∧bs1=bsN bs last nx∧V1=V) ∨
   (Zd V bs last∧jn=2∧toU bs nb=bn∧bAt bs1 bn=⟨(bAt bs bn).wear,true,seqN bs last,false,2⟩∧Q4 bs bs1 nb last bn∧∃ w,V1=upV V bn w∧w.next=2∧Av w 1=O2 (seqN bs last)∧Av w 0=Jk (bAt bs bn).wear))
theorem Am4 {v w:Blk} {j i:Nat} (h:S3 v w j) (hi:i<j) (h8:i<8):Av v i=Av w i∨Av v i=Dt (Av w i):=by
  have:=h i h8 hi
  rwa [← Fg (v:=v) h8,← Fg (v:=w) h8] at this
section
variable {n nb k:Nat} {q:Qt} {nx bn jn:Nat} {V V1:Nat→Blk} {bs bs1:List LB} {last e:Int} {c c1 c2:Chip} {t t1 t2:TS} {p:Pg}
theorem Awt (hl:bs.length=nb) (hJ:Ajs n nb (k+60) q V bs last nx c t t1 c1 bs1 bn jn V1) (g1:0≤last→(bAt bs last.toNat).next≤nx) (hW:Zb n (k+60+20) q V1 bn jn p c1 t1 0 t2 c2) :
    Asl n nb (k+80) q V bs last p c t (bs1.set bn { bAt bs1 bn with next:=(jn:Int)+1 }) bn 0 bn jn t2 c2:=by
  obtain ⟨hb1,hF1,hD1,hacc1,hbn,hjn,hnx,hph⟩:=hJ
  obtain ⟨hF2,hW⟩:=hW
  obtain ⟨hn2,v,hv1,hv2,hv3⟩:=hW.resolve_left (fun h9=>absurd h9.1 (by decide))
  obtain ⟨_,hD2,hacc2,hp,haf⟩:=hv3.resolve_right (fun h9=>absurd h9.1 (by decide))
  rcases hph with ⟨h1,rfl,rfl,rfl,rfl,rfl⟩ | ⟨h1,rfl,h2,h3,h4,w,rfl,h5,h6,h7⟩
  · subst h1
    have hg:=g1 (by omega)
    rw [A24] at hg
    exact .inl ⟨bn,jn,rfl,hg,hjn,hn2,hF2,v,hv1,hv2,.inl ⟨rfl,hD2,hacc2,hp,rfl,rfl,rfl,Ahg _ (by omega),haf⟩⟩
  · rw [E6] at hv2
    rw [Q0] at hD2
    have k0:=Am4 hv2 (i:=0) (by omega) (by omega)
    have k1:=Am4 hv2 (i:=1) (by omega) (by omega)
    rw [h7,Iv (by decide)] at k0
    rw [h6,Iv (by decide)] at k1
    refine .inr ⟨h1,.inr ⟨hF1.trans hF2,by rw [A4d];exact hb1,bn,v,h2,.inl ⟨rfl,hD2,hacc2,rfl,rfl,rfl,hv1,hp,by rcases k1 with e | e <;> exact e,by rcases k0 with e | e <;> exact e,?_,fun j hj hne=> ?_⟩⟩⟩
    · rw [Dn (by omega),if_pos rfl,h3]
      rfl
    · rw [Dn (by omega),if_neg (by omega)]
      exact h4 j hj hne
theorem Am5 (hl:bs.length=nb) (hJ:Ajs n nb (k+60) q V bs last nx c t t1 c1 bs1 bn jn V1) (g1:0≤last→(bAt bs last.toNat).next≤nx) (hW:Zb n (k+60+20) q V1 bn jn p c1 t1 e t2 c2) (h0:e≠0) (h32:e≠32) :
    Asl n nb (k+80) q V bs last p c t bs1 bn e 0 0 t2 c2:=by
  obtain ⟨hb1,hF1,hD1,hacc1,hbn,hjn,hnx,hph⟩:=hJ
  obtain ⟨hF2,hW⟩:=hW
  obtain ⟨hn2,v,hv1,hv2,hv3⟩:=hW.resolve_left (fun h9=>h32 h9.1)
  obtain ⟨r1,r2,r3,r4,r5⟩:=hv3.resolve_left (fun h9=>h0 h9.1)
  rcases hph with ⟨h1,rfl,rfl,rfl,rfl,rfl⟩ | ⟨h1,rfl,h2,h3,h4,w,rfl,h5,h6,h7⟩
  · subst h1
    have hg:=g1 (by omega)
    rw [A24] at hg
    exact .inl ⟨bn,jn,rfl,hg,hjn,hn2,hF2,v,hv1,hv2,.inr ⟨r1,r2,r3,r4,r5⟩⟩
  · rw [E6] at hv2
    rw [Q0] at r5
    have k1:=Am4 hv2 (i:=1) (by omega) (by omega)
    rw [h6,Iv (by decide)] at k1
    exact .inr ⟨h1,.inr ⟨hF1.trans hF2,hb1,bn,v,h2,.inr ⟨r1,r2,fun hp=>r3 (by rw [(hF1.pos hp).1];exact hp),r5,.inr ⟨hv1,by rcases k1 with e | e <;> exact e,r4⟩⟩⟩⟩
theorem Am6 (hl:bs.length=nb) (hJ:Ajs n nb (k+60) q V bs last nx c t t1 c1 bs1 bn jn V1) (hW:Zb n (k+60+20) q V1 bn jn p c1 t1 32 t2 c2) :
    last=bn∧jn=nx∧(V bn).next≠nx∧t2=t∧c2=c∧bs1.set bn { bAt bs1 bn with next:=(jn:Int)+1 }=bsN bs last (nx+1):=by
  obtain ⟨hb1,hF1,hD1,hacc1,hbn,hjn,hnx,hph⟩:=hJ
  obtain ⟨hF2,hW⟩:=hW
  rcases hW with ⟨_,hn2,rfl,rfl⟩ | ⟨_,v,_,_,hv3⟩
  · rcases hph with ⟨h1,rfl,rfl,rfl,rfl,rfl⟩ | ⟨h1,rfl,h2,h3,h4,w,rfl,h5,h6,h7⟩
    · subst h1
      refine ⟨rfl,rfl,hn2,rfl,rfl,?_⟩
      rw [Ahg _ (by omega)]
      unfold bsN
      rw [if_pos (by omega),A24]
      congr 2
    · rw [E6,h5] at hn2
      exact absurd rfl hn2
  · rcases hv3 with h9 | h9
    · exact absurd h9.1 (by decide)
    · exact absurd h9.1 (by decide)
end
section
variable {d:Dsk} {n k:Nat} {q:Qt} {lg bb nb:Nat} {last:Int} {V:Nat→Blk} {bs:List LB}
theorem Afb (h:DD d n k V) (hk:k≤400000000000) (hq:q.n≤3) (hacc:Acc q d.c d.t.ts) (hnb:nb+6=n) (hl:bs.length=nb) (hlr: -1≤last∧last<nb)
    (hls:0≤last→(bAt bs last.toNat).seq.toNat≠0∧2≤(bAt bs last.toNat).next∧(bAt bs last.toNat).next≤8) (hrdy:Ay7 V bs nb) {kind:By} {qs:Sl (Sl By)} (hj:(Bb qs.list).length≤70000000000000) :
    Does Tryz.prog 112 [ptr lg,bv kind,qs.val] ((lg,true,C (lgC d.dk bb nb last) tLg)::(bb,true,C (lbs bs) tLB)::(dkH d++(qs.hp tSB++(Dg qs.list++[]))))
    (fun v H=>∃ (t':Tab) (c':Chip) (bs':List LB) (last' e pb pj:Int),v= .tuple #[.agg #[.int .i64 pb,.int .i64 pj],.int .i64 e]∧H=(lg,true,C (lgC d.dk bb nb last') tLg)::(bb,true,C (lbs bs') tLB)::(dkH ⟨d.dk,t',c'⟩++[]) ∧
      (((kind.toNat≤3∨C1 kind (Bb qs.list)=true)∧e=1∧pb=0∧pj=0∧t'=d.t∧c'=d.c∧bs'=bs∧last'=last) ∨
       (3<kind.toNat∧C1 kind (Bb qs.list)=false∧Asl n nb (k+80) q V bs last (Cp kind (Bb qs.list)) d.c d.t.ts bs' last' e pb pj t'.ts c'))):=by
  have hn40:=h.di.wf.n2
  refine Dw (n:=100) Tryz.func112 Tryz.ntmps112 rfl (A13 rfl)<|Ag<|Aa fun ops=> ?_
  refine Aj rfl fun b6=> ?_
  refine oA rfl<|Ad<|n_K<|Ag<|Aa fun ops=>oM rfl<|oM rfl ?_
  refine Jv rfl (N5 (kind:=kind) (q:=qs) hj) sP rfl aQ ?_
  refine oM rfl<|oE rfl rfl<|oE rfl rfl ?_
  refine Aj rfl fun b8=> ?_
  rw [Cj]
  first | refine Ac rfl rfl uD (Cg) (Ai) (Bo (by first | exact Ai | exact A1y ..)) ?_ | refine Ac rfl rfl uD rfl rfl rfl ?_
  refine oA rfl<|Ad<|n_K<|Ag<|Ag ?_
  refine Fz [(2,22)] rfl fun ops y=> ?_
  refine oM rfl<|oR (An rfl rfl rfl)<|oM rfl ?_
  refine' Ac1 (j:=2) (k:=2) y rfl rfl rfl rfl rfl rfl rfl (fun hg22=> ?_) ?_
  rotate_left
  · try (simp at hg22;show _)
    refine o_g y rfl rfl ?_
    refine oM rfl ?_
    refine o_g y rfl rfl ?_
    refine oR (An rfl rfl rfl) ?_
    exact Ad ⟨rfl,rfl,⟨_,sP⟩⟩
  refine Ad<|n_K ?_
  refine Ae rfl (fun c25=> ?_) (fun c25=> ?_)
  · skip
    have hbad:kind.toNat≤3∨C1 kind (Bb qs.list)=true:=(by simp at c25;rcases c25 with h9 | h9;exact .inl (by omega);right;cases hw:C1 kind (Bb qs.list);(exfalso;apply h9;unfold Cy;rw [hw];rfl);rfl)
    refine Ag<|Aa fun ops=>oR (Bl rfl rfl) ?_
    refine Ac rfl rfl uD rfl rfl rfl ?_
    refine oA rfl<|Ad<|n_K<|D3<|r_K ?_
    exact A9 (Cu Tryz.results112 (Bc rfl mM rfl) (Af rfl)) (by exact ⟨d.t,d.c,bs,last,1,0,0,rfl,rfl,.inl ⟨hbad,rfl,rfl,rfl,rfl,rfl,rfl,rfl⟩⟩) sP
  · skip
    have hgood:3<kind.toNat∧C1 kind (Bb qs.list)=false:=(by simp at c25;refine ⟨by omega,?_⟩;cases hw:C1 kind (Bb qs.list);rfl;(exfalso;have h9:=c25.2;unfold Cy at h9;rw [hw] at h9;simp at h9))
    have hwf:(Cy kind (Bb qs.list)).1=Cp kind (Bb qs.list):=(by unfold Cy;rw [hgood.2];rfl)
    obtain ⟨x0,hx0⟩:∃ x0:Nat,x0≤8∧(0≤last→(bAt bs last.toNat).next=x0):=(by by_cases h9:0≤last;(have:=hls h9;exact ⟨(bAt bs last.toNat).next.toNat,by omega,fun _=>by omega⟩);exact ⟨0,by omega,fun h8=>absurd h8 h9⟩)
    have hbs0:bsN bs last x0=bs:=(by apply Amw (O5 ..);intro j hj9;rw [N6 (by omega)];split;(rename_i h9;have h8:=hx0.2 (by omega);rw [show last.toNat=j by omega] at h8;rw [← h8]);rfl)
    refine Bd<|n_K<|Bf ?_
    refine At [0,6,8] kQ (fun (st:Nat×Tab)=>[]) (fun (st:Nat×Tab)=>(b8,true,C (vbc (Cp kind (Bb qs.list))) tPg)::(b6,true,C [.int .i64 0,.int .i64 0] tPc)::(lg,true,C (lgC d.dk bb nb last) tLg)::(bb,true,C (lbs (bsN bs last st.1)) tLB)::(dkH ⟨d.dk,st.2,d.c⟩++[])) (fun (st:Nat×Tab)=>st.1≤8∧(0≤last→(bAt bs last.toNat).next≤st.1)∧(∀ m:Nat,0≤last→(bAt bs last.toNat).next≤m→m<st.1→(V last.toNat).next≠m)∧st.2.ts=d.t.ts) (fun (st:Nat×Tab)=>8 - st.1) ((x0,d.t)) ⟨hx0.1,fun h9=>by rw [hx0.2 h9];exact A5p _,fun m h9 h8 h7=>by rw [hx0.2 h9] at h8;simp only at h7;omega,rfl⟩ kP (by rw [hbs0,← hwf];exact sP) ?_
    rintro ⟨nx,t0⟩ ⟨g0,g1,g2,g3⟩
    simp only at g0 g1 g2 g3
    have h':DD ⟨d.dk,t0,d.c⟩ n k V:=(by show DV d.c t0.ts n k V;rw [g3];exact h)
    have hacc':Acc q d.c t0.ts:=(by rw [g3];exact hacc)
    refine Bf ?_
    refine Q8 (fun F L=>∃ (t1:Tab) (c1:Chip) (bs1:List LB) (bn jn:Nat) (V1:Nat→Blk),F=[(0,ptr lg),(6,ptr b6),(8,ptr b8)]∧L=(b8,true,C (vbc (Cp kind (Bb qs.list))) tPg)::(b6,true,C [.int .i64 0,.int .i64 0] tPc)::(lg,true,C (lgC d.dk bb nb (bn:Nat)) tLg)::(bb,true,C (lbs bs1) tLB)::(dkH ⟨d.dk,t1,c1⟩++[])∧Ajs n nb (k+60) q V bs last nx d.c d.t.ts t1.ts c1 bs1 bn jn V1) ?_ ?_
    · refine Ag ?_
      refine D7 [(5,32)] [(19,[(0,false),(1,false),(2,false),(3,false),(4,false),(5,false),(6,false),(7,false),(8,false),(9,false),(10,false),(11,false),(12,false),(13,false),(14,false),(15,false),(16,false),(17,false),(18,false)])] (by kernel_rfl) rfl fun ops w0 H0 y=> ?_
      refine Ce<|xM rfl<|xN rfl<|xF rfl ?_
      refine xR (Al rfl mM rfl) ?_
      refine xR (An rfl rfl rfl)<|xM rfl ?_
      refine' Ake (j:=5) (k:=12) y rfl rfl rfl rfl rfl rfl rfl (fun hg32=> ?_) ?_
      rotate_left
      · try (simp at hg32;show _)
        refine x_g y rfl rfl ?_
        refine xM rfl ?_
        refine x_g y rfl rfl ?_
        refine xN rfl ?_
        refine x_g y rfl rfl ?_
        refine xF rfl ?_
        refine x_g y rfl rfl ?_
        refine xR (Al rfl mM rfl) ?_
        refine x_g y rfl rfl ?_
        refine xM rfl ?_
        refine x_g y rfl rfl ?_
        refine xN rfl ?_
        refine x_g y rfl rfl ?_
        refine xF rfl ?_
        refine x_g y rfl rfl ?_
        refine xR (Al rfl mM rfl) ?_
        refine x_g y rfl rfl ?_
        refine xR (Cd rfl rfl (by omega)) ?_
        refine x_g y rfl rfl ?_
        refine xF rfl ?_
        refine x_g y rfl rfl ?_
        refine xR (show Rd _ _ _ _ (.int .i64 (nx:Nat)) from Al rfl mM (Fu (o:=4) (x:={ bAt bs last.toNat with next:=(nx:Int) }) (by rw [Er (by rw [O5];omega),N6 (by omega),if_pos (by omega)]) (by omega) rfl)) ?_
        refine x_g y rfl rfl ?_
        refine xR (An rfl rfl rfl) ?_
        exact As ⟨rfl,⟨_,sP⟩⟩
      refine As<|Eh<|n_K ?_
      refine Ae rfl (fun c45=> ?_) (fun c45=> ?_)
      · simp only [A36,A15,A3j,A1k] at c45
        have hNR:Zd V bs last:=(by rcases c45 with h9 | h9;exact .inl h9;by_cases h8:last<0;exact .inl h8;exact .inr ⟨last.toNat,by omega,fun m h7 h6=>g2 m (by omega) h7 (by omega)⟩)
        refine Ag<|Aa fun ops=>oM rfl ?_
        refine Ci rfl (Am2 (d:=⟨d.dk,t0,d.c⟩) (bb:=bb) (last:=last) (bs:=bsN bs last nx) h' (by omega) hq hacc' hnb (by rw [O5];exact hl) hlr (fun h9=>by rw [(Ga (by omega)).1];exact (hls h9).1) (fun b hb hr=>(hrdy b hb (by rw [(Ga (by omega)).2.2.1] at hr;exact hr)).1)) sP rfl fun v47 Y47 h47=> ?_
        obtain ⟨t1,c1,bs1,last1,e1,rfl,rfl,hB⟩:=h47
        unfold Am0 at hB
        rw [Ahf (by omega),Am3 (by omega)] at hB
        simp only at hB
        rw [g3] at hB
        refine A5 aQ ?_
        refine oA rfl<|Ad<|n_K<|Ag<|Aa fun ops=>oM rfl<|oR (An rfl rfl rfl)<|Ad<|n_K ?_
        refine Ae rfl (fun c49=> ?_) (fun c49=> ?_)
        · skip
          have he1:e1≠0:=(by simpa using c49)
          refine Ag<|Aa fun ops=>oR (Bl rfl rfl)<|oM rfl ?_
          refine Ac rfl rfl uD rfl rfl rfl ?_
          refine oA rfl<|Ad<|n_K<|D3<|r_K<|Ig<|r_K<|Ig ?_
          exact A9 (Cu Tryz.results112 (Bc rfl mM rfl) (Af rfl)) (by exact ⟨t1,c1,bs1,last1,e1,0,0,rfl,rfl,.inr ⟨hgood.1,hgood.2,.inr ⟨hNR,by rcases hB with ⟨h9,h8,h7,h6,h5,h4⟩ | ⟨h9,h8,tn,w,h7,h6⟩;(exact .inl ⟨h9,h8,h5,h4,h6,by rw [h7,O5];exact hl,fun j hj9 hne=>by rw [h7,N6 (by omega)];split;(rename_i h3;by_cases h2:nx=8;(subst h2;exact .inr ⟨h3,rfl⟩);(exfalso;rcases c45 with h0 | h0 <;> omega));exact .inl rfl⟩);(obtain ⟨r1,r2,r3,r4,r5⟩:=h6.resolve_left (fun h5=>he1 h5.1);exact .inr ⟨h8,h9,tn,w,h7,.inr ⟨r1,r2,r3,fun d a1 a2 a3 a4=>(by obtain ⟨x0,x1,x2,x3⟩:=r4 d a1 a2 a3 a4;exact ⟨x0,x1,x2.mono (by omega),x3⟩),.inl (by unfold Awr at r5 ⊢;rw [(Ga (by omega)).2.1,(Ga (by omega)).2.2.1] at r5;exact r5)⟩⟩)⟩⟩⟩) sP
        · skip
          have he1:e1=0:=(by simpa using c49)
          have hB2:=hB.resolve_left (fun h9=>by rw [he1] at h9;exact absurd h9.1 (by decide))
          obtain ⟨hb1,hF1,tn,w,htn,hB3⟩:=hB2
          obtain ⟨_,hD1,hacc1,rfl,hoth,kn,hbt,hbg⟩:=hB3.resolve_right (fun h9=>by rw [he1] at h9;exact absurd h9.1 (by decide))
          have htl:tn<nb:=(by have:=Zc bs nb;omega)
          have hp0:kn=true∧Av w 0=Jk (bAt bs tn).wear:=(by unfold Avy at hbg;rw [(Ga (by omega)).2.1,(Ga (by omega)).2.2.1,(Ga (by omega)).2.2.2] at hbg;rcases hbg.2.2 with h9 | ⟨h9,h8,h7⟩;exact h9;(obtain ⟨_,h6,h5⟩:=hrdy tn htl h9;refine ⟨h8.trans h6,?_⟩;rw [h5] at h7;rcases h7 with h7 | h7;exact h7;rw [h7,Iv (by decide)]))
          have hbt2:bAt bs1 tn=⟨(bAt bs tn).wear,true,seqN bs last,false,2⟩:=(by rw [hbt,hp0.1,(Ga (by omega)).2.1])
          have hoB:Q4 bs bs1 nb last tn:=(fun j hj9 hne=>by rw [hoth j hj9 (by omega),N6 (by omega)];split;(rename_i h9;by_cases h8:nx=8;(subst h8;exact .inr ⟨h9,rfl⟩);(exfalso;rcases c45 with h7 | h7 <;> omega));exact .inl rfl)
          have hJB:Ajs n nb (k+60) q V bs last nx d.c d.t.ts t1.ts c1 bs1 tn 2 (upV V tn w):=⟨hb1,hF1,hD1,hacc1,htl,by omega,by rw [hbt2];rfl,.inr ⟨hNR,rfl,htn,hbt2,hoB,w,rfl,hbg.1,hbg.2.1,hp0.2⟩⟩
          refine Bd<|n_K ?_
          first | exact ⟨_,_,⟨t1,c1,bs1,tn,2,upV V tn w,rfl,rfl,hJB⟩,jZ⟩ | exact ⟨_,_,⟨t0,d.c,bsN bs last nx,l,nx,V,rfl,rfl,hJA⟩,(by rw [← hll];exact jZ)⟩
      · simp only [A36,A15,A3j,A1k] at c45
        obtain ⟨l,hll⟩:∃ l:Nat,last=l:=⟨last.toNat,by omega⟩
        have hJA:Ajs n nb (k+60) q V bs last nx d.c d.t.ts t0.ts d.c (bsN bs last nx) l nx V:=⟨by rw [O5];exact hl,.refl _,DV.mono h' (by omega),hacc',by omega,by omega,by rw [N6 (by omega),if_pos hll],.inl ⟨hll,rfl,g3,rfl,rfl,rfl⟩⟩
        refine Bd<|n_K ?_
        first | exact ⟨_,_,⟨t1,c1,bs1,tn,2,upV V tn w,rfl,rfl,hJB⟩,jZ⟩ | exact ⟨_,_,⟨t0,d.c,bsN bs last nx,l,nx,V,rfl,rfl,hJA⟩,(by rw [← hll];exact jZ)⟩
    · rintro F L ⟨t1,c1,bs1,bn,jn,V1,rfl,rfl,hJ⟩
      obtain ⟨hb1,hF1,hD1,hacc1,hbn,hjn,hnx,hph⟩:=id hJ
      refine Ag ?_
      refine D7 [] [(10,[(0,false),(1,false),(2,false),(3,false),(4,false),(5,false),(6,false),(7,false),(8,false),(9,false)])] (by kernel_rfl) rfl fun ops w0 H0 y=> ?_
      refine Ce<|xM rfl<|xN rfl<|xF rfl ?_
      refine xR (Al rfl mM rfl) ?_
      refine xM rfl<|xN rfl<|xF rfl ?_
      refine xR (Al rfl mM rfl) ?_
      refine xR (Cd rfl rfl (by omega)) ?_
      refine xA rfl<|As<|Eh<|n_K<|Ag<|Aa fun ops=>oM rfl<|oN rfl<|oF rfl ?_
      refine oR (show Rd _ _ _ _ (.int .i64 (jn:Nat)) from (by rw [← hnx];exact Al rfl mM (by simp only [A24];exact Fu (o:=4) (Er (by omega)) (by omega) rfl))) ?_
      refine oA rfl<|Ad<|n_K<|Ag ?_
      refine D7 [] [(7,[(0,false),(1,false),(2,false),(3,false),(4,false),(5,false),(6,false)]),(8,[(7,true)]),(9,[(8,false)])] (by kernel_rfl) rfl fun ops w0 H0 y=> ?_
      refine Ce<|xM rfl<|xM rfl<|xN rfl<|xF rfl ?_
      refine xR (Al rfl mM rfl) ?_
      refine xM rfl ?_
      refine xR (Am rfl mM (by first | exact Ax | rfl)) ?_
      refine As<|Dx<|B1 ?_
      refine Ci rfl (W9 (d:=⟨d.dk,t1,c1⟩) (bb:=bb) (nb:=nb) (last:=(bn:Nat)) hD1 (by omega) hq hacc1 (b:=bn) (j:=jn) (p:=Cp kind (Bb qs.list)) (by omega) hjn) sP rfl fun v72 Y72 h72=> ?_
      obtain ⟨t2,c2,e,rfl,rfl,hW⟩:=h72
      have hgb:bs1[bn]? =some (bAt bs1 bn):=Er (by omega)
      refine A5 aQ ?_
      refine Ad ⟨rfl,⟨_,sP⟩,?_⟩
      refine As<|Ce<|xA rfl<|As<|Eh<|n_K<|Ag<|Aa fun ops=>oM rfl<|Ad<|n_K<|Bf<|Ag<|Aa fun ops=> ?_
      refine oR (An rfl rfl rfl)<|oA rfl<|Ad<|n_K ?_
      refine Ae rfl (fun c76=> ?_) (fun c76=> ?_)
      · skip
        have he0:e=0:=(by simpa using c76)
        subst he0
        have hA:=Awt hl hJ g1 hW
        refine Ag<|Aa fun ops=>oM rfl<|oN rfl<|oF rfl ?_
        refine oR (show Rd _ _ _ _ (.int .i64 (jn:Nat)) from (by rw [← hnx];exact Al rfl mM (Fu (o:=4) hgb (by omega) rfl))) ?_
        refine oR (Bm rfl rfl (by omega)) ?_
        refine oN rfl<|oF rfl ?_
        refine Ac (cs':=lbs (bs1.set bn { bAt bs1 bn with next:=(jn:Int)+1 })) rfl rfl uD rfl rfl (Ek (o:=4) hgb rfl) ?_
        refine Ad<|n_K<|Ag<|Aa fun ops=>oM rfl<|oN rfl<|oF rfl ?_
        refine oR (Al rfl mM rfl) ?_
        refine oM rfl<|oR (Bl rfl rfl) ?_
        refine Ac rfl rfl uD rfl rfl rfl ?_
        refine oA rfl<|Ad<|n_K<|D3<|Ig<|Ig<|r_K<|Ig ?_
        exact A9 (Cu Tryz.results112 (Bc rfl mM rfl) (Af rfl)) (by exact ⟨t2,c2,_,_,0,bn,jn,rfl,rfl,.inr ⟨hgood.1,hgood.2,hA⟩⟩) sP
      · skip
        have he0:e≠0:=(by simpa using c76)
        refine Ag<|Aa fun ops=>oR (An rfl rfl rfl)<|oA rfl<|Ad<|n_K ?_
        refine Ae rfl (fun c91=> ?_) (fun c91=> ?_)
        · skip
          have he32:e=32:=(by simpa using c91)
          subst he32
          obtain ⟨s1,s2,s3,s4,s5,s6⟩:=Am6 hl hJ hW
          refine Aa fun ops=>oM rfl<|oN rfl<|oF rfl ?_
          refine oR (show Rd _ _ _ _ (.int .i64 (jn:Nat)) from (by rw [← hnx];exact Al rfl mM (Fu (o:=4) hgb (by omega) rfl))) ?_
          refine oR (Bm rfl rfl (by omega)) ?_
          refine oN rfl<|oF rfl ?_
          refine Ac (cs':=lbs (bs1.set bn { bAt bs1 bn with next:=(jn:Int)+1 })) rfl rfl uD rfl rfl (Ek (o:=4) hgb rfl) ?_
          refine Ad<|Cq<|Cq<|n_K ?_
          exact ⟨(nx+1,t2),⟨by simp only;omega,fun h9=>(by simp only;have:=g1 h9;omega),fun m h9 h8 h7=>(by by_cases e9:m=nx;(subst e9;rw [s1,A24];exact s3);exact g2 m h9 h8 (by simp only at h7;omega)),s4⟩,(by simp only;omega),kP,kP,_,(by simp only;rw [← s6,← s5,s1];exact sP)⟩
        · skip
          have he32:e≠32:=(by simpa using c91)
          have hA:=Am5 hl hJ g1 hW he0 he32
          refine Ag<|Aa fun ops=>oR (Bl rfl rfl)<|oM rfl ?_
          refine Ac rfl rfl uD rfl rfl rfl ?_
          refine oA rfl<|Ad<|n_K<|D3<|Ig<|Ig<|r_K<|Ig ?_
          exact A9 (Cu Tryz.results112 (Bc rfl mM rfl) (Af rfl)) (by exact ⟨t2,c2,bs1,_,e,0,0,rfl,rfl,.inr ⟨hgood.1,hgood.2,hA⟩⟩) sP
end
end
section
open Go.K
instance fld65_0:Fld Tryz.prog 65 0 0:=⟨⟨_,_,0,Tryz.underlying65,rfl,by kernel_rfl,rfl⟩⟩
instance fld65_1:Fld Tryz.prog 65 1 1:=⟨⟨_,_,0,Tryz.underlying65,rfl,by kernel_rfl,rfl⟩⟩
instance ent33:Ent Tryz.prog 33:=⟨fun _ _=>by kernel_rfl⟩
instance ent61:Ent Tryz.prog 61:=⟨fun _ _=>by kernel_rfl⟩
def Ee (p:Pg):By×List By×Int×Int:=if (Bz p).2.2.2=0∧(Bz p).1.toNat≤3 then (0,[],0,20) else Bz p
section
variable {d:Dsk} {n k:Nat} {q:Qt} {lg bb nb:Nat} {last:Int} {V:Nat→Blk} {bs:List LB}
theorem Am7 (h:DD d n k V) {b j:Nat} (hb:b+6<n) (hj:j<8):Does Tryz.prog 61 [ptr lg,.agg #[.int .i64 (b:Nat),.int .i64 (j:Nat)]] ((lg,true,C (lgC d.dk bb nb last) tLg)::(dkH d++[]))
  (fun v H=>∃ s:Sl By,v= .tuple #[bv (Ee (Av (V b) j)).1,s.val,.int .i64 (Ee (Av (V b) j)).2.2.1,.int .i64 (Ee (Av (V b) j)).2.2.2]∧H=s.hp tU8++((lg,true,C (lgC d.dk bb nb last) tLg)::(dkH d++[]))∧s.list=(Ee (Av (V b) j)).2.1∧s.isOwn=true):=by
 have hrd:=Iw h hb hj
 refine zF 45 Tryz.func61 ?_
 refine zC ?_
 refine Dj rfl rfl (fun b3=> ?_)
 refine zC ?_
 refine Na [] [(14,(.fork [(0,false),(1,false),(2,false),(3,false),(4,false),(5,false),(6,false),(7,false)] 8 (.one [(9,false),(10,false),(11,false),(12,true),(13,true)]) 12 (.one [(8,true),(9,false),(10,false),(11,false),(13,true)]))),(15,(.one [(14,false)]))] (by kernel_rfl) rfl (fun ops w0 H0 y=> ?_)
 refine K8 ?_
 refine K9 ?_ rfl
 refine Cr (Dc rfl) rfl ?_
 refine Cr (Hj rfl) rfl ?_
 refine Cr (De rfl) rfl ?_
 refine Cr (Al rfl mM rfl) rfl ?_
 refine Cr (De rfl) rfl ?_
 refine Cr (Al rfl mM rfl) rfl ?_
 refine Cr (De rfl) rfl ?_
 refine Cr (Al rfl mM rfl) rfl ?_
 refine As ⟨⟨_,sP⟩,?_,?_⟩
 refine B1 ?_
 refine zI rfl ((Jj (d:=d) (b:=(b:Nat)) (k:=(j:Nat))).to (by rw [hrd.1,hrd.2]) rfl) ?_
 refine Ad ⟨rfl,⟨_,sP⟩,?_⟩
 refine As ?_
 refine Fy ?_
 refine Cr (Dc rfl) rfl ?_
 refine Cr (Gk rfl rfl) rfl ?_
 refine Cr (Gk rfl rfl) rfl ?_
 refine B1 ?_
 refine Aj rfl (fun b8=> ?_)
 rw [Cj]
 refine Ad ⟨rfl,⟨_,sP⟩,?_⟩
 refine B1 ?_
 first | refine Ac rfl rfl uD (Cg) (Ai) (Bo (by first | exact Ai | exact A1y ..)) ?_ | refine Ac rfl rfl uD rfl rfl rfl ?_
 refine Ad ⟨rfl,⟨_,sP⟩,?_⟩
 refine As ?_
 rotate_left
 refine B1 ?_
 refine Aj rfl (fun b8=> ?_)
 rw [Cj]
 refine Ad ⟨rfl,⟨_,sP⟩,?_⟩
 refine As ?_
 refine Fy ?_
 refine B1 ?_
 refine zI rfl ((Jj (d:=d) (b:=(b:Nat)) (k:=(j:Nat))).to (by rw [hrd.1,hrd.2]) rfl) ?_
 refine Ad ⟨rfl,⟨_,sP⟩,?_⟩
 refine Cr (Dc rfl) rfl ?_
 refine Cr (Gk rfl rfl) rfl ?_
 refine Cr (Gk rfl rfl) rfl ?_
 refine B1 ?_
 first | refine Ac rfl rfl uD (Cg) (Ai) (Bo (by first | exact Ai | exact A1y ..)) ?_ | refine Ac rfl rfl uD rfl rfl rfl ?_
 refine Ad ⟨rfl,⟨_,sP⟩,?_⟩
 refine As ?_
 rotate_left
 all_goals
  refine K8 ?_
  refine Fy ?_
  refine Cr (Ng rfl) rfl ?_
  refine As ?_
  refine Q6 ?_
  refine zC ?_
  refine Ay rfl ?_
  refine zA ?_
  refine Ah (Am rfl mM (by first | exact Ax | rfl)) rfl ?_
  refine zE rfl (Mc (p:=Av (V b) j)) ?_
  rintro _ _ ⟨s,rfl,rfl,hs,ho⟩
  refine zW ?_
  refine Ae rfl (fun c40=> ?_) (fun c40=> ?_)
  ·simp only [A3n,A1u,A3j,A1k] at c40
   have hg:Ee (Av (V b) j)=(0,[],0,20):=(by unfold Ee;rw [if_pos ⟨c40.1,by omega⟩])
   refine zC ?_
   exact A9 (U3 Tryz.results61 (Af rfl) (Af rfl) (Af rfl) (Af rfl)) (by exact ⟨Sl.nil,by rw [hg];rfl,rfl,by rw [hg];rfl,rfl⟩) (by rw [Sl.hp_nil,A4h];exact sP)
  ·simp only [A3n,A1u,A3j,A1k] at c40
   have hg:Ee (Av (V b) j)=Bz (Av (V b) j):=(by unfold Ee;rw [if_neg (by rintro ⟨h1,h2⟩;rcases c40 with h3 | h3;exact h3 h1;omega)])
   refine zC ?_
   exact zL (hR:=by exact ⟨s,by rw [hg],rfl,by rw [hg];exact hs,ho⟩)
def B6 (bs:List LB):Nat→Nat
 | 0=>0
 | k+1=>B6 bs k+(if (bAt bs k).seq.toNat=0 then 1 else 0)
theorem Ub (bs:List LB):∀ k,B6 bs k≤k
 | 0=>A5q _
 | k+1=>by have:=Ub bs k;unfold B6;split <;> omega
theorem Asm (hl:bs.length=nb) (hn:nb≤1000):Does Tryz.prog 33 [ptr lg] ((lg,true,C (lgC d.dk bb nb last) tLg)::(bb,true,C (lbs bs) tLB)::[])
  (Is (.int .i64 (B6 bs nb:Nat)) ((lg,true,C (lgC d.dk bb nb last) tLg)::(bb,true,C (lbs bs) tLB)::[])):=by
 refine zF 21 Tryz.func33 ?_
 refine zC ?_
 refine At [0,8,9] kQ (fun (i:Nat)=>[(10,.int .i64 i),(2,.int .i64 (B6 bs i:Nat))]) (fun i=>(lg,true,C (lgC d.dk bb nb last) tLg)::(bb,true,C (lbs bs) tLB)::[]) (fun i=>i≤nb) (fun i=>nb - i) (0) (A5s _) kP sP ?_
 rintro i g0
 refine zC ?_
 refine Ae rfl (fun c11=> ?_) (fun c11=> ?_)
 ·simp only [A3j,A1k] at c11
  have hi:i<nb:=(by omega)
  have hgi:bs[i]? =some (bAt bs i):=Er (by omega)
  have hfl:=Ub bs i
  refine zA ?_
  refine Ah (Cd rfl rfl (by omega)) rfl ?_
  refine Ah (Am rfl mM (by simp only [A24];exact Q1 hgi)) rfl ?_
  refine Aj rfl (fun b4=> ?_)
  refine zC ?_
  refine Ae rfl (fun c16=> ?_) (fun c16=> ?_)
  ·simp only [A3j,A1k] at c16
   have hfT:((B6 bs (i+1):Nat):Int)=(B6 bs i:Nat)+1:=(by show ((B6 bs i+(if (bAt bs i).seq.toNat=0 then 1 else 0):Nat):Int)=_;rw [if_pos (by omega)];omega)
   refine zC ?_
   first | exact ⟨i+1,by omega,by omega,(by rw [hfT];exact kP),kP,_,sP⟩ | exact ⟨i+1,by omega,by omega,(by rw [hfF];exact kP),kP,_,sP⟩
  ·simp only [A3j,A1k] at c16
   have hfF:((B6 bs (i+1):Nat):Int)=(B6 bs i:Nat):=(by show ((B6 bs i+(if (bAt bs i).seq.toNat=0 then 1 else 0):Nat):Int)=_;rw [if_neg (by omega)];omega)
   refine zC ?_
   first | exact ⟨i+1,by omega,by omega,(by rw [hfT];exact kP),kP,_,sP⟩ | exact ⟨i+1,by omega,by omega,(by rw [hfF];exact kP),kP,_,sP⟩
 ·simp only [A3j,A1k] at c11
  have hi:i=nb:=(by omega)
  subst hi
  refine zC ?_
  exact zS
def Lu (v:Blk):Nat→Int
 | 0=>0
 | j+1=>Lu v j+(if (Bz (Av v j)).2.2.2=0 then (Bz (Av v j)).2.2.1 else 0)
def O6 (bs:List LB) (b:Int):Bool:=decide (0≤b) && decide (b<bs.length) && decide ((bAt bs b.toNat).seq.toNat≠0)
end
end
section
open Go.K
instance ent165:Ent Tryz.prog 165:=⟨fun _ _=>by kernel_rfl⟩
theorem Afc (d:Dat) (chk:Nat):0≤(C3 d chk).2.1∧(C3 d chk).2.1≤1:=by
 unfold C3
 simp only []
 split
 ·exact ⟨by simp,by simp⟩
 ·split
  ·exact ⟨by simp,by simp⟩
  ·split
   ·exact ⟨by simp,by simp⟩
   ·split <;> exact ⟨by simp,by simp⟩
theorem Xa (p:Pg):0≤(Bz p).2.2.1∧(Bz p).2.2.1≤2:=by
 unfold Bz
 simp only []
 split
 ·exact ⟨by simp,by simp⟩
 ·split
  ·exact ⟨by simp,by simp⟩
  ·split
   ·exact ⟨by simp,by simp⟩
   ·split
    ·exact ⟨by simp,by simp⟩
    ·have:=Afc (Ie p) (Du p)
     simp only
     omega
theorem Ab3 (v:Blk):∀ j,0≤Lu v j∧Lu v j≤2*j
 | 0=>⟨A5p _,A5p _⟩
 | j+1=>by
  have ih:=Ab3 v j
  have:=Xa (Av v j)
  unfold Lu
  split <;> omega
section
variable {d:Dsk} {n k:Nat} {q:Qt} {lg bb nb:Nat} {last:Int} {V:Nat→Blk} {bs:List LB}
theorem Az9 (h:DD d n k V) (hnb:nb+6=n) (hl:bs.length=nb) {b:Int}:Does Tryz.prog 121 [ptr lg,.int .i64 b] ((lg,true,C (lgC d.dk bb nb last) tLg)::(bb,true,C (lbs bs) tLB)::(dkH d++[]))
  (Is (.tuple #[.int .i64 (if O6 bs b=true then Lu (V b.toNat) 8 else 0),.int .i64 (if O6 bs b=true then 0 else 1)]) ((lg,true,C (lgC d.dk bb nb last) tLg)::(bb,true,C (lbs bs) tLB)::(dkH d++[]))):=by
 refine zF 65 Tryz.func121 ?_
 iterate 12 refine sb ?_
 refine sg ?_
 refine sa ?_
 refine' Lw rfl rfl inferInstance rfl rfl rfl rfl rfl (fun hg24=> ?_) ?_
 rotate_left
 ·try (simp at hg24;show _)
  iterate 11 refine sb ?_
  refine Ah (Cd rfl rfl (by omega)) rfl ?_
  refine zA ?_
  refine Ah (show Rd _ _ _ _ (wv (bAt bs b.toNat).seq) from Al rfl mM (Fu (o:=2) (Er (by omega)) (by omega) rfl)) rfl ?_
  refine zC ?_
  exact Ad ⟨rfl,rfl,⟨_,sP⟩⟩
 refine zC ?_
 refine Ae rfl (fun c34=> ?_) (fun c34=> ?_)
 ·simp only [A36,A15,A3j,A1k] at c34
  have hsg:O6 bs b=false:=(by unfold O6;simp;intro h1 h2;omega)
  refine zC ?_
  refine Ak (Cu Tryz.results121 (Af rfl) (Af rfl)) ?_ sP
  rw [hsg];rfl
 ·simp only [A36,A15,A3j,A1k] at c34
  have hsg:O6 bs b=true:=(by unfold O6;simp;omega)
  obtain ⟨bN,rfl⟩:∃ bN:Nat,b=bN:=⟨b.toNat,by omega⟩
  refine zC ?_
  refine At [0,1] kQ (fun (i:Nat)=>[(35,.int .i64 i),(4,.int .i64 (Lu (V bN) i))]) (fun i=>(lg,true,C (lgC d.dk bb nb last) tLg)::(bb,true,C (lbs bs) tLB)::(dkH d++[])) (fun i=>i≤8) (fun i=>8 - i) (0) (A5s _) kP sP ?_
  rintro i g0
  refine zC ?_
  refine Ae rfl (fun c36=> ?_) (fun c36=> ?_)
  ·simp only [A3j,A1k] at c36
   have hi:i<8:=(by omega)
   have hrd:=Iw h (b:=bN) (j:=i) (by omega) hi
   have hml:=Ab3 (V bN) i
   have hrn:=Xa (Av (V bN) i)
   refine zC ?_
   refine zI rfl ((Jj (d:=d) (b:=(bN:Nat)) (k:=(i:Nat))).to (by rw [hrd.1,hrd.2]) rfl) ?_
   refine zC ?_
   refine Aj rfl (fun b7=> ?_)
   rw [Cj]
   first | refine Ac rfl rfl uD (Cg) (Ai) (Bo (by first | exact Ai | exact A1y ..)) ?_ | refine Ac rfl rfl uD rfl rfl rfl ?_
   refine zC ?_
   refine Ay rfl ?_
   refine zA ?_
   refine Ah (Am rfl mM (by first | exact Ax | rfl)) rfl ?_
   refine zE rfl (Mc (p:=Av (V bN) i)) ?_
   rintro _ _ ⟨s,rfl,rfl,hs,ho⟩
   refine zW ?_
   refine Ae rfl (fun c59=> ?_) (fun c59=> ?_)
   ·simp only [A3j,A1k] at c59
    have hmT:Lu (V bN) (i+1)=Lu (V bN) i+(Bz (Av (V bN) i)).2.2.1:=(by show Lu (V bN) i+(if (Bz (Av (V bN) i)).2.2.2=0 then (Bz (Av (V bN) i)).2.2.1 else 0)=_;rw [if_pos c59])
    refine zC ?_
    first | exact ⟨i+1,by omega,by omega,(by rw [hmT];exact kP),kP,_,sP⟩ | exact ⟨i+1,by omega,by omega,(by rw [hmF];exact kP),kP,_,sP⟩
   ·simp only [A3j,A1k] at c59
    have hmF:Lu (V bN) (i+1)=Lu (V bN) i:=(by show Lu (V bN) i+(if (Bz (Av (V bN) i)).2.2.2=0 then (Bz (Av (V bN) i)).2.2.1 else 0)=_;rw [if_neg c59];omega)
    refine zC ?_
    first | exact ⟨i+1,by omega,by omega,(by rw [hmT];exact kP),kP,_,sP⟩ | exact ⟨i+1,by omega,by omega,(by rw [hmF];exact kP),kP,_,sP⟩
  ·simp only [A3j,A1k] at c36
   have hi:i=8:=(by omega)
   subst hi
   refine zC ?_
   refine Ak (Cu Tryz.results121 (Af rfl) (Af rfl)) ?_ sP
   rw [hsg];rfl
def Avz (n nb k:Nat) (q:Qt) (V:Nat→Blk) (bs:List LB) (last b:Int) (c:Chip) (t:TS) (bs':List LB) (last' e:Int) (t':TS) (c':Chip):Prop :=
 (O6 bs b=false∧e=1∧bs'=bs∧last'=last∧t'=t∧c'=c) ∨
 (O6 bs b=true∧Amy n nb k q V b.toNat bs c bs' e t' c'∧(e=0→last'=if b=last then Dv bs' nb else last))
theorem Asn (h:DD d n k V) (hk:k≤600000000000) (hq:q.n≤3) (hacc:Acc q d.c d.t.ts) (hnb:nb+6=n) (hl:bs.length=nb) {b:Int} :
  Does Tryz.prog 165 [ptr lg,.int .i64 b] ((lg,true,C (lgC d.dk bb nb last) tLg)::(bb,true,C (lbs bs) tLB)::(dkH d++[]))
  (fun v H=>∃ (t':Tab) (c':Chip) (bs':List LB) (last' e:Int),v= .int .i64 e∧H=(lg,true,C (lgC d.dk bb nb last') tLg)::(bb,true,C (lbs bs') tLB)::(dkH ⟨d.dk,t',c'⟩++[])∧Avz n nb (k+40) q V bs last b d.c d.t.ts bs' last' e t'.ts c'):=by
 have hn40:=h.di.wf.n2
 refine zF 86 Tryz.func165 ?_
 iterate 11 refine sb ?_
 refine sg ?_
 refine sa ?_
 refine' Lw rfl rfl inferInstance rfl rfl rfl rfl rfl (fun hg19=> ?_) ?_
 rotate_left
 ·try (simp at hg19;show _)
  iterate 11 refine sb ?_
  refine Ah (Cd rfl rfl (by omega)) rfl ?_
  refine zA ?_
  refine Ah (show Rd _ _ _ _ (wv (bAt bs b.toNat).seq) from Al rfl mM (Fu (o:=2) (Er (by omega)) (by omega) rfl)) rfl ?_
  refine zC ?_
  exact Ad ⟨rfl,rfl,⟨_,sP⟩⟩
 refine zC ?_
 refine Ae rfl (fun c29=> ?_) (fun c29=> ?_)
 ·simp only [A36,A15,A3j,A1k] at c29
  have hsg:O6 bs b=false:=(by unfold O6;simp;intro h1 h2;omega)
  refine zC ?_
  exact zL (hR:=by exact ⟨d.t,d.c,bs,last,1,rfl,rfl,.inl ⟨hsg,rfl,rfl,rfl,rfl,rfl⟩⟩)
 ·simp only [A36,A15,A3j,A1k] at c29
  have hsg:O6 bs b=true:=(by unfold O6;simp;omega)
  obtain ⟨bN,rfl⟩:∃ bN:Nat,b=bN:=⟨b.toNat,by omega⟩
  have hbN:bN<nb:=(by omega)
  refine zC ?_
  refine Ci rfl (O4 (d:=d) (bb:=bb) (last:=last) h hk hq hacc (b:=bN) (bs:=bs) hnb hl hbN) sP rfl (fun v32 Y32 h32=> ?_)
  obtain ⟨t1,c1,bs1,e1,rfl,rfl,hW⟩:=h32
  have hb1:=hW.1
  refine A5 aQ ?_
  refine zC ?_
  refine Ae rfl (fun c34=> ?_) (fun c34=> ?_)
  ·skip
   have he1:e1≠0:=(by simpa using c34)
   refine zC ?_
   exact zL (hR:=by exact ⟨t1,c1,bs1,last,e1,rfl,rfl,.inr ⟨hsg,hW,fun h9=>absurd h9 he1⟩⟩)
  ·skip
   have he1:e1=0:=(by simpa using c34)
   refine zC ?_
   refine Ae rfl (fun c41=> ?_) (fun c41=> ?_)
   ·simp only [A3j,A1k] at c41
    refine zC ?_
    refine At [0,48,49] kQ (fun (st:Nat×Int)=>[(50,.int .i64 st.1)]) (fun st=>(lg,true,C (lgC d.dk bb nb st.2) tLg)::(bb,true,C (lbs bs1) tLB)::(dkH ⟨d.dk,t1,c1⟩++[])) (fun st=>st.1≤nb∧st.2=Dv bs1 st.1) (fun st=>nb - st.1) ((0,-1)) ⟨A5s _,rfl⟩ kP sP ?_
    rintro ⟨i,la⟩ ⟨g0,g1⟩
    simp only at g0 g1
    refine zC ?_
    refine Ae rfl (fun c51=> ?_) (fun c51=> ?_)
    ·simp only [A3j,A1k] at c51
     have hi:i<nb:=(by omega)
     have hgi:bs1[i]? =some (bAt bs1 i):=Er (by omega)
     have hrg:=Q3 bs1 i
     refine zA ?_
     refine Ah (Cd rfl rfl (by omega)) rfl ?_
     refine Ah (Am rfl mM (by simp only [A24];exact Q1 hgi)) rfl ?_
     refine Aj rfl (fun b7=> ?_)
     refine zC ?_
     refine A0 [(26,[(0,false),(1,false),(2,false),(3,false),(4,false),(5,false),(6,false),(7,false),(8,false),(9,false),(10,false),(11,false),(12,false),(13,false),(14,false),(15,false),(16,false),(17,false),(18,false),(19,false),(20,false),(21,false),(22,false),(23,false),(24,false),(25,false)])] (by kernel_rfl) ?_
     iterate 5 refine sb ?_
     refine' Jz rfl rfl inferInstance rfl rfl rfl rfl rfl (fun hg58=> ?_) ?_
     rotate_left
     ·try (simp at hg58;show _)
      iterate 12 refine sb ?_
      refine' Uy rfl rfl inferInstance rfl rfl rfl rfl rfl (fun hg64=> ?_) ?_
      rotate_left
      ·try (simp at hg64;show _)
       iterate 21 refine sb ?_
       refine Aq (Cd rfl rfl (by omega)) ?_
       refine zA ?_
       refine Aq (show Rd _ _ _ _ (wv (bAt bs1 la.toNat).seq) from Al rfl mM (Fu (o:=2) (Er (by omega)) (by omega) rfl)) ?_
       refine zC ?_
       exact Hu rfl sP
      exact Hu rfl sP
     refine zC ?_
     refine Ae rfl (fun c80=> ?_) (fun c80=> ?_)
     ·simp only [A3n,A36,A1u,A15,A3j,A1k] at c80
      have hlT:(i:Int)=Dv bs1 (i+1):=(by unfold Dv;rw [← g1,if_pos ⟨by omega,by rcases c80.2 with h9 | h9;exact .inl h9;exact .inr (by omega)⟩])
      refine zC ?_
      first | exact ⟨(i+1,(i:Int)),⟨by simp only;omega,hlT⟩,by simp only;omega,lZ⟩ | exact ⟨(i+1,la),⟨by simp only;omega,hlF⟩,by simp only;omega,lZ⟩
     ·simp only [A3n,A36,A1u,A15,A3j,A1k] at c80
      have hlF:la=Dv bs1 (i+1):=(by unfold Dv;rw [← g1,if_neg (by rintro ⟨h8,h9⟩;rcases c80 with h7 | ⟨h6,h7⟩;omega;rcases h9 with h9 | h9;exact h6 h9;omega)])
      refine zC ?_
      first | exact ⟨(i+1,(i:Int)),⟨by simp only;omega,hlT⟩,by simp only;omega,lZ⟩ | exact ⟨(i+1,la),⟨by simp only;omega,hlF⟩,by simp only;omega,lZ⟩
    ·simp only [A3j,A1k] at c51
     have hi:i=nb:=(by omega)
     subst hi
     refine zC ?_
     exact zL (hR:=by exact ⟨t1,c1,bs1,la,0,rfl,rfl,.inr ⟨hsg,by rw [← he1];exact hW,fun _=>by rw [if_pos c41];exact g1⟩⟩)
   ·simp only [A3j,A1k] at c41
    refine zC ?_
    exact zL (hR:=by exact ⟨t1,c1,bs1,last,0,rfl,rfl,.inr ⟨hsg,by rw [← he1];exact hW,fun _=>by rw [if_neg c41]⟩⟩)
end
end
section
open Go.K
instance ent116:Ent Tryz.prog 116:=⟨fun _ _=>by kernel_rfl⟩
section
variable {n k:Nat} {q:Qt} {lg bb nb:Nat} {last:Int} {bs:List LB} {dk:Nat}
theorem Aso {I:Nat→Hp→Prop} {l f0 D:Nat} {tm:Array Value} {ps:Array Tmp} {sg bd:Code} {X0:Hp} (hl:bs.length=nb) (hn:nb≤1000) (hps:ps.size=1) (h0:I 0 X0)
  (hskip:∀ j X,j<nb→(bAt bs j).seq.toNat=0→I j X→I (j+1) X)
  (hrnd:∀ j X,j<nb→(bAt bs j).seq.toNat≠0→I j X→Rnd Tryz.prog l f0 (Gj ⟨.ready,none,f0,tm,ps,sg,bd,D⟩ [.int .i64 (j:Nat)]) sg bd ((l,true,.loop ⟨.ready,none,f0,tm,ps,sg,bd,D⟩)::(lg,true,C (lgC dk bb nb last) tLg)::(bb,true,C (lbs bs) tLB)::(X++[]))
   (fun v Y=>v= .bool true∧∃ X',Y=(l,true,.loop ⟨.ready,none,f0,tm,ps,sg,bd,D⟩)::(lg,true,C (lgC dk bb nb last) tLg)::(bb,true,C (lbs bs) tLB)::(X'++[])∧I (j+1) X')) :
  Does Tryz.prog 116 [ptr lg,.func (.yield l) #[] #[]] ((l,true,.loop ⟨.ready,none,f0,tm,ps,sg,bd,D⟩)::(lg,true,C (lgC dk bb nb last) tLg)::(bb,true,C (lbs bs) tLB)::(X0++[]))
   (fun v Y=>v= .tuple #[]∧∃ X,Y=(l,true,.loop ⟨.ready,none,f0,tm,ps,sg,bd,D⟩)::(lg,true,C (lgC dk bb nb last) tLg)::(bb,true,C (lbs bs) tLB)::(X++[])∧I nb X):=by
 refine Dw (n:=26) Tryz.func116 Tryz.ntmps116 rfl (A13 rfl)<|Ag<|Aa fun ops=>oM rfl<|oN rfl<|oF rfl ?_
 refine oR (Al rfl mM rfl) ?_
 refine oR (Gc rfl)<|oM rfl<|Ad<|n_K<|Bf ?_
 refine At [1,9,10] kQ (fun (st:Nat×Hp)=>[(11,.int .i64 st.1)]) (fun (st:Nat×Hp)=>(l,true,.loop ⟨.ready,none,f0,tm,ps,sg,bd,D⟩)::(lg,true,C (lgC dk bb nb last) tLg)::(bb,true,C (lbs bs) tLB)::(st.2++[])) (fun (st:Nat×Hp)=>st.1≤nb∧I st.1 st.2) (fun (st:Nat×Hp)=>nb - st.1) ((0,X0)) ⟨A5s _,h0⟩ kP sP ?_
 rintro ⟨i,X⟩ ⟨g0,gI⟩
 simp only at g0 gI
 refine Ag<|Aa fun ops=>oR (An rfl rfl rfl)<|Ad<|n_K<|Ag ?_
 refine Ae rfl (fun c12=> ?_) (fun c12=> ?_)
 ·simp only [A3j,A1k] at c12
  have hi:i<nb:=(by omega)
  have hgi:bs[i]? =some (bAt bs i):=Er (by omega)
  refine Bd<|n_K<|Ag<|Bf<|Ag<|Aa fun ops=>oM rfl ?_
  refine oR (Cd rfl rfl (by omega)) ?_
  refine oR (Am rfl mM (by simp only [A24];exact Q1 hgi)) ?_
  refine Aj rfl fun b5=> ?_
  refine oA rfl ?_
  refine Ac rfl rfl uD rfl rfl rfl ?_
  refine Ad<|n_K ?_
  refine Q8 (fun F L=>∃ X',F=[(1,.func (.yield l) #[] #[]),(9,.slice (some ⟨bb,0,none⟩) nb nb),(10,.int .i64 nb),(11,.int .i64 i),(24,.bool false)]∧L=(l,true,.loop ⟨.ready,none,f0,tm,ps,sg,bd,D⟩)::(lg,true,C (lgC dk bb nb last) tLg)::(bb,true,C (lbs bs) tLB)::(X'++[])∧I (i+1) X') ?_ ?_
  ·refine Q9 [(3,19)] rfl (fun ops y=>Ml 4 ?_)
   refine oF rfl ?_
   refine oR (Al rfl mM rfl) ?_
   refine oR (An rfl rfl rfl)<|oM rfl<|Ad ⟨rfl,?_⟩
   by_cases hq:(bAt bs i).seq.toNat=0
   ·refine Av1 (F:=[(1,.func (.yield l) #[] #[]),(9,.slice (some ⟨bb,0,none⟩) nb nb),(10,.int .i64 nb),(11,.int .i64 i),(4,.int .i64 i),(19,.bool false)] ) (.cons rfl<| .cons rfl<| .cons rfl<| .cons rfl<| .cons rfl<| .cons (by show some (Value.bool (decide _))=_;rw [A4p (by omega)]) .nil) ?_
    refine Ml 5 ?_
    refine As1 y rfl rfl rfl rfl<|As1 y rfl rfl rfl rfl<|As1 y rfl rfl rfl rfl<|As1 y rfl rfl rfl rfl<|oR (Anw rfl rfl)<|Ad ⟨rfl,Ahq<|n_K ?_⟩
    exact ⟨_,_,⟨X,rfl,rfl,hskip i X hi hq gI⟩,jZ⟩
   ·refine Av1 (F:=[(1,.func (.yield l) #[] #[]),(9,.slice (some ⟨bb,0,none⟩) nb nb),(10,.int .i64 nb),(11,.int .i64 i),(4,.int .i64 i),(19,.bool true)] ) (.cons rfl<| .cons rfl<| .cons rfl<| .cons rfl<| .cons rfl<| .cons (by show some (Value.bool (decide _))=_;rw [A4x (by omega)]) .nil) ?_
    refine Ml 2 ?_
    refine o_g y rfl rfl<|oM rfl<|o_g y rfl rfl<|oM rfl<|Ad ⟨rfl,?_⟩
    refine Zq (r:=⟨.ready,none,f0,tm,ps,sg,bd,D⟩) y rfl rfl rfl (by simp [hps]) sP (hrnd i X hi hq gI) rfl ?_
    rintro v L' ⟨rfl,X',rfl,gI'⟩
    refine Ml 2 ?_
    refine o_g y rfl rfl<|oR (D6 rfl)<|oR (Anv rfl rfl)<|Ad ⟨rfl,Ahq<|n_K ?_⟩
    exact ⟨_,_,⟨X',rfl,rfl,gI'⟩,jZ⟩
  ·rintro F L ⟨X',rfl,rfl,gI'⟩
   refine Ay rfl ?_
   refine Bd<|Cq<|n_K<|Aa fun ops=> ?_
   refine oR (Bm rfl rfl (by omega)) ?_
   refine oM rfl<|Ad<|n_K ?_
   exact ⟨(i+1,X'),⟨by simp only;omega,gI'⟩,(by simp only;omega),lZ⟩
 ·simp only [A3j,A1k] at c12
  have hi:i=nb:=(by omega)
  subst hi
  refine E9<|x_K<|x_K<|Hv ?_
  exact Tm (Afe Tryz.results116) (by exact ⟨rfl,_,rfl,gI⟩) sP
end
end
section
open Go.K
instance und153:Und Tryz.prog 153 (.slice 157):=⟨Tryz.underlying153⟩
instance agg153:Agg Tryz.prog 153 false:=⟨⟨_,Tryz.underlying153,rfl⟩⟩
instance siz153:Siz Tryz.prog 153 1:=⟨by kernel_rfl⟩
instance agg157:Agg Tryz.prog 157 true:=⟨⟨_,Tryz.underlying157,rfl⟩⟩
instance siz157:Siz Tryz.prog 157 4:=⟨by kernel_rfl⟩
instance fld157_1:Fld Tryz.prog 157 1 1:=⟨⟨_,_,0,Tryz.underlying157,rfl,by kernel_rfl,rfl⟩⟩
instance ent119:Ent Tryz.prog 119:=⟨fun _ _=>by kernel_rfl⟩
instance ent161:Ent Tryz.prog 161:=⟨fun _ _=>by kernel_rfl⟩
abbrev Iz:TypeId:=157
abbrev Wo:TypeId:=65
abbrev Pl2:=Int×Int
instance:Cel Pl2:=⟨2,fun p=>[.int .i64 p.1,.int .i64 p.2],fun _=>rfl,fun _=>rfl⟩
structure Seg where
 b:Int
 seq:Wd
 wear:Wd
 recs:Sl Pl2
def Ze (s:Seg):List Value:=[.int .i64 s.b,wv s.seq,wv s.wear,s.recs.val]
instance:Cel Seg:=⟨4,Ze,fun _=>rfl,fun _=>rfl⟩
def sg0:Seg:=⟨0,0,0,.nil⟩
def Ab4 (xs:List Seg) (i:Int):Seg:=xs.getD i.toNat sg0
abbrev key (s:Seg):Nat:=s.seq.toNat
theorem Ahh {x:Wd}:Does Tryz.prog 161 [wv x] [] (Is (.bool false) []):=by
 refine zF 6 Tryz.func161 ?_
 refine zC ?_
 refine Ak (Aw Tryz.results161 (Af rfl)) ?_ sP
 simp
def Am8 (x y:Nat):Int:=if x<y then -1 else if y<x then 1 else 0
theorem Afd {x y:Wd}:Does Tryz.prog 119 [wv x,wv y] [] (Is (.int .i64 (Am8 x.toNat y.toNat)) []):=by
 refine zF 20 Tryz.func119 ?_
 refine zC ?_
 refine zI rfl (Ahh) ?_
 refine zC ?_
 refine zI rfl (Ahh) ?_
 refine zC ?_
 refine Ay rfl ?_
 refine zC ?_
 refine Ay rfl ?_
 refine zC ?_
 refine Ae rfl (fun c16=> ?_) (fun c16=> ?_)
 ·simp only [A3j,A1k] at c16
  refine zC ?_
  refine Ak (Aw Tryz.results119 (Af rfl)) ?_ sP
  unfold Am8;first | rw [if_pos (by omega)] | rw [if_neg (by omega),if_pos (by omega)] | rw [if_neg (by omega),if_neg (by omega)]
 ·simp only [A3j,A1k] at c16
  refine zC ?_
  refine Ae rfl (fun c19=> ?_) (fun c19=> ?_)
  ·simp only [A3j,A1k] at c19
   refine zC ?_
   refine Ak (Aw Tryz.results119 (Af rfl)) ?_ sP
   unfold Am8;first | rw [if_pos (by omega)] | rw [if_neg (by omega),if_pos (by omega)] | rw [if_neg (by omega),if_neg (by omega)]
  ·simp only [A3j,A1k] at c19
   refine zC ?_
   refine Ak (Aw Tryz.results119 (Af rfl)) ?_ sP
   unfold Am8;first | rw [if_pos (by omega)] | rw [if_neg (by omega),if_pos (by omega)] | rw [if_neg (by omega),if_neg (by omega)]
def Uc (xs:List Seg) (i:Int):Prop:=∀ a b:Int,0≤a→a<b→b<i→key (Ab4 xs a)≤key (Ab4 xs b)
end
section
open Go.K Go.Shelf Go.Lib Go.Sort
instance ent117:Ent Tryz.prog 117:=⟨fun _ _=>by kernel_rfl⟩
def Ali:Go.Shelf.Ren:=⟨fun | 6=>117 | 15=>134 | 14=>160 | 28=>181 | 29=>182 | 20=>199 | 21=>200 | 22=>201 | 23=>202 | 24=>203 | 25=>204 | 26=>205 | 27=>206 | 46=>226 | 47=>211 | 48=>212 | 49=>227 | 50=>228 | 57=>240 | n=>n,fun | 22=>153 | 24=>157 | 25=>198 | 3=>3 | 39=>151 | 0=>0 | 53=>55 | 55=>29 | 4=>4 | 46=>247 | 45=>246 | 50=>252 | 5=>5 | 9=>9 | 66=>285 | 70=>288 | 76=>301 | 77=>260 | n=>n,fun | n=>n⟩
theorem Aqc:Go.Proofs.SlLaysF0.n6 Tryz.prog Ali:={
 mixed:=by kernel_rfl
 f6:=⟨Tryz.f117.name,by decide,Tryz.func117.trans (A52 some (by kernel_rfl))⟩
 f14:=⟨Tryz.f160.name,by decide,Tryz.func160.trans (A52 some (by kernel_rfl))⟩
 f15:=Tryz.func134.trans (A52 some (by kernel_rfl))
 f20:=⟨Tryz.f199.name,by decide,Tryz.func199.trans (A52 some (by kernel_rfl))⟩
 f21:=⟨Tryz.f200.name,by decide,Tryz.func200.trans (A52 some (by kernel_rfl))⟩
 f22:=⟨Tryz.f201.name,by decide,Tryz.func201.trans (A52 some (by kernel_rfl))⟩
 f23:=⟨Tryz.f202.name,by decide,Tryz.func202.trans (A52 some (by kernel_rfl))⟩
 f24:=⟨Tryz.f203.name,by decide,Tryz.func203.trans (A52 some (by kernel_rfl))⟩
 f25:=⟨Tryz.f204.name,by decide,Tryz.func204.trans (A52 some (by kernel_rfl))⟩
 f26:=⟨Tryz.f205.name,by decide,Tryz.func205.trans (A52 some (by kernel_rfl))⟩
 f27:=⟨Tryz.f206.name,by decide,Tryz.func206.trans (A52 some (by kernel_rfl))⟩
 f28:=Tryz.func181.trans (A52 some (by kernel_rfl))
 f29:=Tryz.func182.trans (A52 some (by kernel_rfl))
 f46:=⟨Tryz.f226.name,by decide,Tryz.func226.trans (A52 some (by kernel_rfl))⟩
 f47:=Tryz.func211.trans (A52 some (by kernel_rfl))
 f48:=Tryz.func212.trans (A52 some (by kernel_rfl))
 f49:=⟨Tryz.f227.name,by decide,Tryz.func227.trans (A52 some (by kernel_rfl))⟩
 f50:=⟨Tryz.f228.name,by decide,Tryz.func228.trans (A52 some (by kernel_rfl))⟩
 f57:=⟨Tryz.f240.name,by decide,Tryz.func240.trans (A52 some (by kernel_rfl))⟩
 t0:=Tryz.underlying0
 a0:=Tryz.isAgg0
 z0:=Tryz.sizeOf0
 v0:=Tryz.zeroValue0
 t3:=Tryz.underlying3
 a3:=Tryz.isAgg3
 z3:=Tryz.sizeOf3
 v3:=Tryz.zeroValue3
 t4:=Tryz.underlying4
 a4:=Tryz.isAgg4
 z4:=Tryz.sizeOf4
 v4:=Tryz.zeroValue4
 t5:=Tryz.underlying5
 a5:=Tryz.isAgg5
 z5:=Tryz.sizeOf5
 v5:=Tryz.zeroValue5
 t9:=Tryz.underlying9
 a9:=Tryz.isAgg9
 z9:=Tryz.sizeOf9
 v9:=Tryz.zeroValue9
 t22:=Tryz.underlying153
 a22:=Tryz.isAgg153
 z22:=Tryz.sizeOf153
 v22:=Tryz.zeroValue153
 t25:=Tryz.underlying198
 a25:=Tryz.isAgg198
 z25:=Tryz.sizeOf198
 v25:=Tryz.zeroValue198
 t39:=Tryz.underlying151
 a39:=Tryz.isAgg151
 z39:=Tryz.sizeOf151
 v39:=Tryz.zeroValue151
 t45:=Tryz.underlying246
 a45:=Tryz.isAgg246
 z45:=Tryz.sizeOf246
 v45:=Tryz.zeroValue246
 t46:=Tryz.underlying247
 a46:=Tryz.isAgg247
 z46:=Tryz.sizeOf247
 v46:=Tryz.zeroValue247
 t50:=Tryz.underlying252
 a50:=Tryz.isAgg252
 z50:=Tryz.sizeOf252
 v50:=Tryz.zeroValue252
 t53:=Tryz.underlying55
 a53:=Tryz.isAgg55
 z53:=Tryz.sizeOf55
 v53:=Tryz.zeroValue55
 t55:=Tryz.underlying29
 a55:=Tryz.isAgg29
 z55:=Tryz.sizeOf29
 v55:=Tryz.zeroValue29
 t66:=Tryz.underlying285
 a66:=Tryz.isAgg285
 z66:=Tryz.sizeOf285
 v66:=Tryz.zeroValue285
 t70:=Tryz.underlying288
 a70:=Tryz.isAgg288
 z70:=Tryz.sizeOf288
 v70:=Tryz.zeroValue288
 t76:=Tryz.underlying301
 a76:=Tryz.isAgg301
 z76:=Tryz.sizeOf301
 v76:=Tryz.zeroValue301
 t77:=Tryz.underlying260
 a77:=Tryz.isAgg260
 z77:=Tryz.sizeOf260
 v77:=Tryz.zeroValue260 }
theorem Auj (x:Int) (w:World):Calls Tryz.prog 161 #[.int .u64 x] w fun e w'=>e= .returned (.bool false)∧w'=w:=by
 go_enter Tryz.func161,Tryz.ntmps161
 go_wp2
 go_ret
 exact ⟨by simp,rfl⟩
theorem Auk (x y:Int) (w:World):Calls Tryz.prog 119 #[.int .u64 x,.int .u64 y] w fun e w'=>e= .returned (.int .i64 (if x<y then -1 else if y<x then 1 else 0))∧w'=w:=by
 go_enter Tryz.func119,Tryz.ntmps119
 go_wp2_with (go_at_call 161;refine (Auj _ _).mono ?_;rintro e w' ⟨rfl,hw⟩;rw [hw])
 all_goals (go_ret;refine ⟨?_,rfl⟩;(repeat' split) <;> first | rfl | (exfalso;omega))
theorem Aul (x y:Seg) (w:World):Calls Tryz.prog 118 #[.agg (Ze x).toArray,.agg (Ze y).toArray] w fun e w'=>e= .returned (.int .i64 (if (key x:Int)<key y then -1 else if (key y:Int)<key x then 1 else 0))∧∃ q os',w'=grow (w.drewN q) os':=by
 have hcon:=fun W'=>Auk (key x) (key y) W'
 obtain ⟨xb,xs,xw,xr⟩:=x
 obtain ⟨yb,ys,yw,yr⟩:=y
 simp only [key] at hcon ⊢
 generalize (if (xs.toNat:Int)<ys.toNat then (-1:Int) else if (ys.toNat:Int)<xs.toNat then 1 else 0)=r at hcon ⊢
 simp only [Ze,wv]
 generalize xr.val=xv
 generalize yr.val=yv
 go_enter Tryz.func118,Tryz.ntmps118
 go_wp2_with (go_at_call 119;refine (hcon _).mono ?_;rintro e w' ⟨rfl,rfl⟩)
 go_ret
 exact ⟨rfl,0,_,by rw [alloc_eq_grow,alloc_eq_grow,grow_grow];rfl⟩
def cfS (x y:Seg):Int:=if (key x:Int)<key y then -1 else if (key y:Int)<key x then 1 else 0
theorem ltS (x y:Seg):ltOf cfS x y=decide (key x<key y):=by
 unfold ltOf cfS
 by_cases h1:(key x:Int)<key y
 ·rw [if_pos h1];simp;omega
 ·rw [if_neg h1]
  by_cases h2:(key y:Int)<key x
  ·rw [if_pos h2];simp;omega
  ·rw [if_neg h2];simp;omega
theorem A0j:SWO (ltOf cfS) where
 irrefl x:=by rw [ltS];simp
 trans x y z h1 h2:=by rw [ltS] at *;simp at *;omega
 ntrans x y z h1 h2:=by rw [ltS] at *;simp at *;omega
instance:Inhabited Seg:=⟨sg0⟩
theorem Aqd {s:Sl Seg} (ho:s.isOwn=true) (hl:s.list.length≤1000):Does Tryz.prog 117 [s.val,.func (.func 118) #[] #[]] (s.hp Iz++[])
  (fun v H=>v= .tuple #[]∧∃ s':Sl Seg,H=s'.hp Iz++[]∧s'.val=s.val∧s'.isOwn=true∧s'.list.Perm s.list∧Uc s'.list s.list.length):=by
 intro w hw
 have hno:Uc ([]:List Seg) (0:Nat):=fun a b h1 h2 h3=>by omega
 cases s with
 | nil =>
  rw [Sl.hp_nil] at hw ⊢
  refine A5u (AnyF.slices_SortFunc_none Aqc none 0 _ w) ?_
  rintro e w' ⟨rfl,rfl⟩
  exact ⟨_,[],rfl,⟨rfl,.nil,by rw [Sl.hp_nil];rfl,rfl,rfl,.refl _,hno⟩,Trk.refl hw⟩
 | emp a =>
  have e0:(Sl.emp a:Sl Seg).hp Iz=[]:=by unfold Sl.hp;rfl
  rw [e0] at hw ⊢
  refine A5u (AnyF.slices_SortFunc_none Aqc (some a) 0 _ w) ?_
  rintro e w' ⟨rfl,rfl⟩
  exact ⟨_,[],rfl,⟨rfl,.emp a,by rw [e0];rfl,rfl,rfl,.refl _,hno⟩,Trk.refl hw⟩
 | vac a c=>cases ho
 | view=>cases ho
 | own b xs cap sp h0 =>
  rw [Sl.hp_own,A37] at hw
  rw [Sl.hp_own]
  have hb:=hw.here _ (A2y)
  simp only at hb
  have hlt:=hw.lt (x:=(b,true,C (cells xs++sp) Iz)) A2y
  have eg:∀ args w,(callFunc 118 args).run Tryz.prog w= .ok (.enter 118 args) w:=enters_of Tryz.func118 (by kernel_rfl) rfl
  have h:=AnyQ.slices_SortFunc Aqc 4 Tryz.isAgg157 Tryz.sizeOf157 (Cel.cs (α:=Seg)) (fun _=>rfl) (fun x v hv=>by
    have:=Cel.one x
    exact A3o.1 this v hv) cfS A0j 118 #[] b 0 cap xs.toArray w eg (fun _ _ _ _ x y=>Aul x y _) (Afp (by decide) hb) hlt (by have:xs.length≤1000:=hl;simp;omega)
  refine A5u h ?_
  rintro e w' ⟨rfl,d',n,os,hp,hs,rfl⟩
  obtain ⟨hp1,_,hp3⟩:=hp
  have hlen:d'.toList.length=xs.length:=by simpa using hp1
  have hpm:d'.toList.Perm xs:=by
   have e1:(d'.extract 0 xs.toArray.size).toList=d'.toList:=by rw [show xs.toArray.size=d'.size from hp1.symm,Array.extract_size]
   have e2:(xs.toArray.extract 0 xs.toArray.size).toList=xs:=by rw [Array.extract_size]
   rw [e1,e2] at hp3
   exact hp3
  refine ⟨_,[(b,true,C (cells d'.toList++sp) Iz)],rfl,⟨rfl,.own b d'.toList cap sp ⟨by rw [hlen];exact h0.1,by rw [hlen];exact h0.2.1,by rw [hlen];exact h0.2.2⟩,by rw [Sl.hp_own];rfl,?_,rfl,hpm,fun i j h1 h2 h3=> ?_⟩,?_⟩
  ·show Value.slice (some ⟨b,0,none⟩) d'.toList.length cap=Value.slice (some ⟨b,0,none⟩) xs.length cap
   rw [hlen]
  ·have hj:j.toNat<xs.length:=by have:j<(xs.length:Nat):=h3;omega
   have:=hs i.toNat j.toNat (A5s _) (by omega) (by simpa using hj)
   rw [ltS,A1k] at this
   have ge:∀ k:Nat,k<xs.length→d'[k]! =Ab4 d'.toList (k:Int):=fun k hk=>by
    have hk':k<d'.size:=by rw [hp1];simpa using hk
    rw [A5n d' k hk']
    unfold Ab4
    rw [A00,A24,A1d (by simpa using hk')]
    simp
   rw [ge j.toNat hj,ge i.toNat (by omega),A2h h1,A2h (show 0≤j by omega)] at this
   show key (Ab4 d'.toList i)≤key (Ab4 d'.toList j)
   omega
  ·exact Akc (by decide) hw hlen
end
section
open Go.K
instance agg61:Agg Tryz.prog 61 false:=⟨⟨_,Tryz.underlying61,rfl⟩⟩
instance und155:Und Tryz.prog 155 (.slice 65):=⟨Tryz.underlying155⟩
instance agg155:Agg Tryz.prog 155 false:=⟨⟨_,Tryz.underlying155,rfl⟩⟩
instance siz155:Siz Tryz.prog 155 1:=⟨by kernel_rfl⟩
instance zer153:Zer Tryz.prog 153 ([.slice none 0 0]):=⟨by kernel_rfl⟩
instance zer157:Zer Tryz.prog 157 ([.int .i64 0,.int .u64 0,.int .u64 0,.slice none 0 0]):=⟨by kernel_rfl⟩
instance fld157_3:Fld Tryz.prog 157 3 3:=⟨⟨_,_,0,Tryz.underlying157,rfl,by kernel_rfl,rfl⟩⟩
instance plc157:Plc Tryz.prog 157 [(0,1),(1,1),(2,1),(3,1)]:=⟨⟨_,Tryz.underlying157,fun _=>by kernel_rfl⟩⟩
instance byt65:Byt Tryz.prog 65 16:=⟨by kernel_rfl⟩
instance byt157:Byt Tryz.prog 157 48:=⟨by kernel_rfl⟩
instance ent77:Ent Tryz.prog 77:=⟨fun _ _=>by kernel_rfl⟩
def G3 (v:Blk) (b:Int):Nat→List Pl2
 | 0=>[]
 | i+1=>G3 v b i++if 2≤i∧(Ee (Av v i)).2.2.2=0 then [(b,(i:Int))] else []
theorem Zf (v:Blk) (b:Int):G3 v b 2=[]:=by simp [G3]
theorem Xb (v:Blk) (b:Int):∀ i,(G3 v b i).length≤i
 | 0=>A5q _
 | i+1=>by
  have:=Xb v b i
  unfold G3
  split <;> simp <;> omega
abbrev SV:=Int×Wd×Wd×List Pl2
def Wp (s:Seg):SV:=(s.b,s.seq,s.wear,s.recs.list)
def O7 (V:Nat→Blk) (bs:List LB):Nat→List SV
 | 0=>[]
 | j+1=>O7 V bs j++if (bAt bs j).seq.toNat=0 then [] else [((j:Int),(bAt bs j).seq,(bAt bs j).wear,G3 (V j) j 8)]
theorem Q5 (V:Nat→Blk) (bs:List LB):∀ i,(O7 V bs i).length≤i
 | 0=>A5q _
 | i+1=>by
  have:=Q5 V bs i
  unfold O7
  split <;> simp <;> omega
def Je (l:List Seg):Hp:=l.flatMap fun s=>s.recs.hp Wo
theorem Am9 (l:List Seg) (s:Seg):Je (l++[s])=Je l++s.recs.hp Wo:=by simp [Je]
abbrev Wq:TypeId:=61
abbrev Nr:TypeId:=153
section
variable {d:Dsk} {n k:Nat} {q:Qt} {lg bb nb:Nat} {last:Int} {V:Nat→Blk} {bs:List LB}
def Ay8 (d:Dsk) (V:Nat→Blk) (bs:List LB) (lg b1 b2:Nat) (j:Nat) (X:Hp):Prop :=
 ∃ out:Sl Seg,X=(b1,true,C [ptr lg] Wq)::(b2,true,C [out.val] Nr)::(out.hp Iz++(Je out.list++dkH d))∧out.isOwn=true∧out.list.map Wp=O7 V bs j∧∀ x∈out.list,x.recs.isOwn=true
theorem Zg (h:DD d n k V) (hnb:nb+6=n) (hn40:n≤40) (hl:bs.length=nb):Does Tryz.prog 77 [ptr lg] ((lg,true,C (lgC d.dk bb nb last) tLg)::(bb,true,C (lbs bs) tLB)::(dkH d++[]))
  (fun v H=>∃ (s:Sl Seg) (l0:List Seg),v=s.val∧H=s.hp Iz++(Je l0++((lg,true,C (lgC d.dk bb nb last) tLg)::(bb,true,C (lbs bs) tLB)::(dkH d++[])))∧l0.Perm s.list∧s.isOwn=true∧(s.list.map Wp).Perm (O7 V bs nb)∧Uc s.list s.list.length∧∀ x∈s.list,x.recs.isOwn=true):=by
 refine Ra (n:=58) Tryz.func77 Tryz.ntmps77 rfl (A13 rfl) ?_
 refine Ano ?_
 refine Aa fun ops=> ?_
 refine Dj rfl rfl fun b1=> ?_
 refine Aj rfl fun b2=> ?_
 refine Ad ?_
 refine ⟨rfl,?_⟩
 refine Afj ?_
 refine Aa fun ops=> ?_
 refine oR (Al rfl mM rfl) ?_
 refine oR (Ace (fi:=[.tmp 12]) (cap:=[]) rfl rfl) ?_
 refine Ad ?_
 refine ⟨rfl,?_⟩
 refine As2 (fi:=[ptr lg]) (L:=(lg,true,C (lgC d.dk bb nb last) tLg)::(bb,true,C (lbs bs) tLB)::(b1,true,C [ptr lg] Wq)::(b2,true,C [(Sl.nil:Sl Seg).val] Nr)::(dkH d++[])) (F:=[]) (R1:=fun M=>∃ X,M=(lg,true,C (lgC d.dk bb nb last) tLg)::(bb,true,C (lbs bs) tLB)::(X++[])∧Ay8 d V bs lg b1 b2 nb X) rfl sP ?_ ?_
 ·intro D l f0 tm ht hsz
  refine (Aso (dk:=d.dk) (I:=Ay8 d V bs lg b1 b2) (X0:=(b1,true,C [ptr lg] Wq)::(b2,true,C [(Sl.nil:Sl Seg).val] Nr)::dkH d) hl (by omega) rfl ⟨.nil,by rw [Sl.hp_nil];rfl,rfl,rfl,fun x hx=>nomatch hx⟩ ?_ ?_).mono ?_
  ·rintro j X hj h0 ⟨out,hX,ho,hm,hr⟩
   exact ⟨out,hX,ho,by rw [hm];show _=O7 V bs j++_;rw [if_pos h0,A37],hr⟩
  rotate_left
  ·rintro v Y ⟨rfl,X,rfl,hX⟩
   exact ⟨_,_,rfl,(fun e=>nomatch e),X,rfl,hX⟩
  rintro j X hj hne ⟨out,rfl,ho,hm,hr⟩
  rw [show ((b1,true,C [ptr lg] Wq)::(b2,true,C [out.val] Nr)::(out.hp Iz++(Je out.list++dkH d))++[]:Hp)=(b1,true,C [ptr lg] Wq)::(b2,true,C [out.val] Nr)::(out.hp Iz++(Je out.list++(dkH d++[]))) by simp [A25]]
  have hgj:bs[j]? =some (bAt bs j):=Er (by omega)
  have hol:out.list.length≤40:=(by have e:=A52 List.length hm;rw [A4b] at e;rw [e];have:=Q5 V bs j;omega)
  refine Ut (n:=58) [(14,.int .i64 (j:Nat)),(1,ptr b1),(2,ptr b2)] (by rw [show Gj _ _=tm.setIfInBounds 14 (.int .i64 (j:Nat)) from by simp [Gj]];exact EnvOk.put (a:=⟨tm,[]⟩) (d:=14) (v:= .int .i64 (j:Nat)) ((Keep.cons rfl<|Keep.cons rfl .nil).ok ht) (by rw [hsz];decide)) (by simp [Gj,hsz]) rfl fun rg=> ?_
  refine Aa fun ops=>oA rfl<|Ad ?_
  refine ⟨rfl,_,rfl,?_⟩
  refine Bf<|Ag<|Aa fun ops=> ?_
  refine oR (Al rfl mM rfl) ?_
  refine oN rfl<|oF rfl ?_
  refine oR (Al rfl mM rfl) ?_
  refine oM rfl ?_
  refine oR (Cd rfl rfl (by omega)) ?_
  refine oR (Am rfl mM (by simp only [A24];exact Q1 hgj)) ?_
  refine Aj rfl fun b4=> ?_
  refine Ac rfl rfl uD rfl rfl rfl ?_
  refine Ad<|n_K<|Ag<|Aa fun ops=>oM rfl<|oF rfl ?_
  refine oR (Al rfl mM rfl) ?_
  refine oF rfl ?_
  refine oR (Al rfl mM rfl) ?_
  refine oR (Bl rfl rfl) ?_
  refine Aj rfl fun b5=> ?_
  refine Ac rfl rfl uD rfl rfl rfl ?_
  refine Ad<|n_K<|Ag<|Ag<|Aa fun ops=>oA rfl<|Ad<|n_K<|Bf ?_
  refine At [1,2,3,5] kQ (fun (st:Nat×Sl Pl2)=>[(6,.int .i64 st.1)]) (fun (st:Nat×Sl Pl2)=>(l,true,.loop ⟨.busy,none,f0,tm,_,_,_,D⟩)::(lg,true,C (lgC d.dk bb nb last) tLg)::(bb,true,C (lbs bs) tLB)::(b1,true,C [ptr lg] Wq)::(b2,true,C [out.val] Nr)::(b5,true,C (Ze ⟨j,(bAt bs j).seq,(bAt bs j).wear,st.2⟩) Iz)::(st.2.hp Wo++(out.hp Iz++(Je out.list++(dkH d++[]))))) (fun (st:Nat×Sl Pl2)=>2≤st.1∧st.1≤8∧st.2.isOwn=true∧st.2.list=G3 (V j) j st.1) (fun (st:Nat×Sl Pl2)=>8 - st.1) ((2,Sl.nil)) ⟨A5q _,by decide,rfl,(Zf _ _).symm⟩ kP (by rw [Sl.hp_nil,A4h];exact sP) ?_
  rintro ⟨i,rs⟩ ⟨g1,g2,g3,g4⟩
  simp only at g1 g2 g3 g4
  have hrl:=Xb (V j) j i
  rw [← g4] at hrl
  refine Ag<|Ag<|Aa fun ops=>oM rfl<|oR (An rfl rfl rfl)<|Ad<|n_K ?_
  refine Ae rfl (fun c29=> ?_) (fun c29=> ?_)
  ·simp only [A3j,A1k] at c29
   refine Bd<|n_K<|Ag<|Bf<|Ag<|Aa fun ops=>oM rfl<|oM rfl<|oR (Bl rfl rfl) ?_
   refine Aj rfl fun b7=> ?_
   refine Ac rfl rfl uD rfl rfl rfl ?_
   refine Ad<|n_K<|Ag<|Aa fun ops=> ?_
   refine oR (Al rfl mM rfl) ?_
   refine oR (Am rfl mM rfl) ?_
   refine Ci rfl (Am7 h (b:=j) (j:=i) (by omega) (by omega)) sP rfl fun v38 Y38 h38=> ?_
   obtain ⟨s38,rfl,rfl,hs38,ho38⟩:=h38
   refine A5 aQ ?_
   refine oM rfl<|oE rfl rfl<|oE rfl rfl<|oE rfl rfl<|oE rfl rfl<|oA rfl<|oA rfl<|oA rfl<|oA rfl<|Ad<|n_K<|Ag<|Aa fun ops=>oM rfl ?_
   refine oR (An rfl rfl rfl)<|Ad<|n_K ?_
   refine Ae rfl (fun c44=> ?_) (fun c44=> ?_)
   ·simp only [A3j,A1k] at c44
    have hrT:G3 (V j) j (i+1)=rs.list++[((j:Int),(i:Int))]:=(by show G3 (V j) j i++_=_;rw [if_pos ⟨g1,c44⟩,g4])
    refine Aa fun ops=>oF rfl ?_
    refine oR (Al rfl mM rfl) ?_
    refine oR (Am rfl mM rfl) ?_
    refine Ao rfl rfl rfl rfl fun b48=> ?_
    refine Az (s:=rs) (new:=[((j:Int),(i:Int))]) (m:=1) rfl rfl pL g3 (Ch (r:=true) mM rfl) rfl rfl rfl rfl (by omega) rfl fun rs' hs1 hs2=> ?_
    refine oF rfl ?_
    refine Ac rfl rfl uD rfl rfl rfl ?_
    refine Ad<|Cq<|n_K<|Aa fun ops=>oM rfl ?_
    refine oR (Bm rfl rfl (by omega)) ?_
    refine oA rfl<|Ad<|n_K ?_
    first | exact ⟨(i+1,rs'),⟨by simp only;omega,by simp only;omega,hs2,by rw [hrT];exact hs1⟩,by simp only;omega,lZ⟩ | exact ⟨(i+1,rs),⟨by simp only;omega,by simp only;omega,g3,hrF.symm⟩,by simp only;omega,lZ⟩
   ·simp only [A3j,A1k] at c44
    have hrF:G3 (V j) j (i+1)=rs.list:=(by show G3 (V j) j i++_=_;rw [if_neg (fun e=>c44 e.2),A37,g4])
    refine Bd<|Cq<|n_K<|Aa fun ops=>oM rfl ?_
    refine oR (Bm rfl rfl (by omega)) ?_
    refine oA rfl<|Ad<|n_K ?_
    first | exact ⟨(i+1,rs'),⟨by simp only;omega,by simp only;omega,hs2,by rw [hrT];exact hs1⟩,by simp only;omega,lZ⟩ | exact ⟨(i+1,rs),⟨by simp only;omega,by simp only;omega,g3,hrF.symm⟩,by simp only;omega,lZ⟩
  ·simp only [A3j,A1k] at c29
   have hi8:i=8:=(by omega)
   subst hi8
   refine E9<|x_K<|x_K<|Hv<|n_K<|Aa fun ops=> ?_
   refine oR (Al rfl mM rfl) ?_
   refine oR (Am rfl mM rfl) ?_
   refine Ao rfl rfl rfl rfl fun b53=> ?_
   refine Az (s:=out) (new:=[(⟨(j:Nat),(bAt bs j).seq,(bAt bs j).wear,rs⟩:Seg)]) (m:=1) rfl rfl pL ho (Ch (r:=true) mM rfl) rfl rfl rfl rfl (by omega) rfl fun out' hs1 hs2=> ?_
   refine Ac rfl rfl uD rfl rfl rfl ?_
   refine Ad<|Cq ?_
   refine ⟨rfl,(lg,true,C (lgC d.dk bb nb last) tLg)::(bb,true,C (lbs bs) tLB)::(b1,true,C [ptr lg] Wq)::(b2,true,C [out'.val] Nr)::(out'.hp Iz++(Je out.list++(rs.hp Wo++(dkH d++[])))),_,sP,rfl,(b1,true,C [ptr lg] Wq)::(b2,true,C [out'.val] Nr)::(out'.hp Iz++(Je out'.list++dkH d)),?_,out',rfl,hs2,?_,?_⟩
   ·rw [hs1,Am9];simp [A25]
   ·rw [hs1,A4e,hm];show _=O7 V bs j++_;rw [if_neg hne,← g4];rfl
   ·intro x hx
    rw [hs1] at hx
    rcases A4f.1 hx with hx | hx
    ·exact hr x hx
    ·obtain rfl:=A2z.1 hx;exact g3
 ·rintro rg D M ⟨X,rfl,out,rfl,ho,hm,hr⟩
  have hn:out.list.length≤40:=by have e:=A52 List.length hm;rw [A4b] at e;have:=Q5 V bs nb;omega
  rw [show (Go.K.mark D::(((lg,true,C (lgC d.dk bb nb last) tLg)::(bb,true,C (lbs bs) tLB)::((b1,true,C [ptr lg] Wq)::(b2,true,C [out.val] Nr)::(out.hp Iz++(Je out.list++dkH d))++[]))++[]):Hp)=Go.K.mark D::(lg,true,C (lgC d.dk bb nb last) tLg)::(bb,true,C (lbs bs) tLB)::(b1,true,C [ptr lg] Wq)::(b2,true,C [out.val] Nr)::(out.hp Iz++(Je out.list++(dkH d++[]))) by simp [A25]]
  refine Ag<|Aa fun ops=> ?_
  refine oR (Al rfl mM rfl) ?_
  refine Ci rfl (Aqd ho (by omega)) sP rfl fun v56 Y56 h56=> ?_
  obtain ⟨rfl,s56,rfl,hv56,ho56,hp56,hq56⟩:=h56
  refine A5 aQ ?_
  refine Ad<|n_K<|Ag<|Aa fun ops=> ?_
  refine oR (Al rfl mM rfl) ?_
  refine Ac rfl rfl uD rfl rfl rfl ?_
  refine Ad<|n_K<|D3 ?_
  refine pkD ?_
  exact A9 (Aw Tryz.results77 (Fb rfl mM rfl)) (by exact ⟨s56,out.list,hv56.symm,rfl,hp56.symm,ho56,by rw [← hm];exact hp56.map _,by rw [hp56.length_eq];exact hq56,fun x hx=>hr x (hp56.mem_iff.1 hx)⟩) sP
end
end
section
open Go.K
instance ent85:Ent Tryz.prog 85:=⟨fun _ _=>by kernel_rfl⟩
def Wr (bs0:List LB) (i:Nat):Wd:=(if (bAt bs0 i).known=true then (bAt bs0 i).wear else 0)+1
structure NwI (n nb k:Nat) (q:Qt) (c0:Chip) (bs0:List LB) (j:Nat) (t:Tab) (c:Chip) (bs:List LB) (V:Nat→Blk):Prop where
 le:j≤nb
 len:bs.length=nb
 fr:FrA c0 c
 dv:DV c t.ts n (k+40*j) V
 acc:Acc q c t.ts
 old:∀ i,j≤i→bAt bs i=bAt bs0 i
 new:∀ i<j,bAt bs i=Iy (Wr bs0 i)∧(V i).next=1∧Av (V i) 0=Jk (Wr bs0 i)
theorem NwI.step {n nb k:Nat} {q:Qt} {j:Nat} {c0 c c':Chip} {bs0 bs bsx bs':List LB} {t t':Tab} {V:Nat→Blk} (g:NwI n nb k q c0 bs0 j t c bs V) (hj:j<nb) (hl:bsx.length=nb) (ho:∀ i,i≠j→bAt bsx i=bAt bs i)
  (hw:(bAt bsx j).wear+1=Wr bs0 j) (hW:Amy n nb (k+40*j+40) q V j bsx c bs' 0 t'.ts c'):∃ V',NwI n nb k q c0 bs0 (j+1) t' c' bs' V':=by
 obtain ⟨h1,h2,v,h3⟩:=hW
 obtain ⟨_,h4,h5,h6,h7,h8⟩:=h3.resolve_right (fun h=>absurd h.1 (by decide))
 have hb:∀ i,bAt bs' i=if i=j then Iy (Wr bs0 j) else bAt bs i:=fun i=>by
  rw [h6,Dn (by omega),hw]
  by_cases e:i=j
  ·rw [if_pos e,if_pos e]
  ·rw [if_neg e,if_neg e,ho i e]
 refine ⟨upV V j v,by omega,h1,g.fr.trans h2,?_,h5,fun i hi=> ?_,fun i hi=> ?_⟩
 ·have:k+40*(j+1)=k+40*j+40:=by omega
  rw [this];exact h4
 ·rw [hb,if_neg (by omega)];exact g.old i (by omega)
 ·rw [hb]
  by_cases e:i=j
  ·subst e
   rw [if_pos rfl,E6]
   exact ⟨rfl,h7,by rw [h8,hw]⟩
  ·rw [if_neg e]
   have:=g.new i (by omega)
   have hv:upV V j v i=V i:=by unfold upV;rw [if_neg e]
   rw [hv];exact this
section
variable {d:Dsk} {n k:Nat} {q:Qt} {nb:Nat} {V:Nat→Blk}
theorem Asp (h:DD d n k V) (hk:k≤100000000000) (hq:q.n≤3) (hacc:Acc q d.c d.t.ts) (hnb:nb+6=n) (haf:d.c.after<0):Does Tryz.prog 85 [ptr d.dk] (dkH d++[])
  (fun v H=>∃ (lg bb:Nat) (t':Tab) (c':Chip) (bs':List LB) (V':Nat→Blk),v= .tuple #[ptr lg,.int .i64 0]∧H=(lg,true,C (lgC d.dk bb nb (-1)) tLg)::(bb,true,C (lbs bs') tLB)::(dkH ⟨d.dk,t',c'⟩++[])∧NwI n nb k q d.c (D2 V nb).1 nb t' c' bs' V'):=by
 have hn40:=h.di.wf.n2
 have hol:(D2 V nb).1.length=nb:=by first | exact Q2 .. | simp [D2,E8]
 refine zF 51 Tryz.func85 ?_
 refine zC ?_
 refine zE rfl (Ab0 h hnb) ?_
 rintro _ _ ⟨lg10,bb10,rfl,rfl⟩
 refine zW ?_
 refine Ay rfl ?_
 refine zC ?_
 refine At [4,20] kQ (fun (st:Nat×Tab×Chip×List LB)=>[(21,.int .i64 st.1)]) (fun st=>(lg10,true,C (lgC d.dk bb10 nb (D2 V nb).2) tLg)::(bb10,true,C (lbs st.2.2.2) tLB)::(dkH ⟨d.dk,st.2.1,st.2.2.1⟩++[])) (fun st=>∃ V',NwI n nb k q d.c (D2 V nb).1 st.1 st.2.1 st.2.2.1 st.2.2.2 V') (fun st=>nb - st.1) ((0,d.t,d.c,(D2 V nb).1)) ⟨V,A5s _,hol,FrA.refl _,h,hacc,fun _ _=>rfl,fun i hi=>(by cases hi)⟩ kP sP ?_
 rintro ⟨i,t1,c1,bs⟩ ⟨V1,g⟩
 simp only at g
 have g0:=g.le
 have g1:=g.len
 refine zC ?_
 refine Ae rfl (fun c22=> ?_) (fun c22=> ?_)
 ·simp only [A3j,A1k] at c22
  have hi:i<nb:=(by omega)
  have hgi:bs[i]? =some (bAt bs i):=Er (by omega)
  have gold:=g.old i (A5q _)
  iterate 18 refine sb ?_
  refine Ah (Cd rfl rfl (by omega)) rfl ?_
  refine zA ?_
  refine Ah (Al rfl mM (by simp only [A24];exact Fu (o:=1) hgi (by omega) rfl)) rfl ?_
  refine zC ?_
  refine Ae rfl (fun c32=> ?_) (fun c32=> ?_)
  ·skip
   have hkn:(bAt bs i).known=false:=(by simpa using c32)
   obtain ⟨bx,hbx⟩:∃ x,x=bs.set i { bAt bs i with wear:=0 }:=⟨_,rfl⟩
   have hlx:bx.length=nb:=(by rw [hbx,A4d];exact g1)
   have hx:∀ j,j≠i→bAt bx j=bAt bs j:=(fun j hj=>by rw [hbx,Dn (by omega),if_neg hj])
   have hw:(bAt bx i).wear+1=Wr (D2 V nb).1 i:=(by rw [hbx,Dn (by omega),if_pos rfl];unfold Wr;rw [← gold,if_neg (by rw [hkn];decide)])
   iterate 6 refine sb ?_
   refine Ah (Cd rfl rfl (by omega)) rfl ?_
   refine zA ?_
   refine Ac (cs':=lbs bx) rfl rfl uD rfl rfl (by rw [hbx];simp only [A24];exact Ek (o:=0) hgi rfl) ?_
   refine zC ?_
   refine zE rfl (O4 (d:=⟨d.dk,t1,c1⟩) (bs:=bx) g.dv (by omega) hq g.acc hnb hlx hi) ?_
   rintro _ _ ⟨t2,c2,bs2,e2,rfl,rfl,hW⟩
   refine zW ?_
   refine Ae rfl (fun c44=> ?_) (fun c44=> ?_)
   ·skip
    exact absurd (hW.2.2.elim fun v hv=>hv.elim (fun h1=>absurd h1.1 (by simpa using c44)) (fun h1=>absurd (g.fr.pos haf).1 (fun e=>h1.2.2.1 (by rw [e];exact haf)))) id
   ·skip
    have he2:e2=0:=(by simpa using c44)
    subst he2
    refine zC ?_
    obtain ⟨V2,g2⟩:=g.step hi hlx hx hw hW
    exact ⟨(i+1,t2,c2,bs2),⟨V2,g2⟩,by simp only;omega,lZ⟩
  ·skip
   obtain ⟨bx,hbx⟩:∃ x,x=bs:=⟨_,rfl⟩
   subst hbx
   have hkn:(bAt bx i).known=true:=(by simpa using c32)
   have hlx:=g1
   have hx:∀ j,j≠i→bAt bx j=bAt bx j:=(fun j hj=>rfl)
   have hw:(bAt bx i).wear+1=Wr (D2 V nb).1 i:=(by unfold Wr;rw [← gold,if_pos hkn])
   refine zC ?_
   refine zE rfl (O4 (d:=⟨d.dk,t1,c1⟩) (bs:=bx) g.dv (by omega) hq g.acc hnb hlx hi) ?_
   rintro _ _ ⟨t2,c2,bs2,e2,rfl,rfl,hW⟩
   refine zW ?_
   refine Ae rfl (fun c44=> ?_) (fun c44=> ?_)
   ·skip
    exact absurd (hW.2.2.elim fun v hv=>hv.elim (fun h1=>absurd h1.1 (by simpa using c44)) (fun h1=>absurd (g.fr.pos haf).1 (fun e=>h1.2.2.1 (by rw [e];exact haf)))) id
   ·skip
    have he2:e2=0:=(by simpa using c44)
    subst he2
    refine zC ?_
    obtain ⟨V2,g2⟩:=g.step hi hlx hx hw hW
    exact ⟨(i+1,t2,c2,bs2),⟨V2,g2⟩,by simp only;omega,lZ⟩
 ·simp only [A3j,A1k] at c22
  have hi:i=nb:=(by omega)
  subst hi
  refine zC ?_
  exact zL (hR:=by exact ⟨lg10,bb10,t1,c1,bs,V1,rfl,rfl,g⟩)
end
end
section
open Go.K
structure Laid (m:Nat) (d:Dsk) (bs:List LB) (V:Nat→Blk):Prop where
 len:bs.length+6=m
 dv:DV d.c d.t.ts m 2000 V
 acc:Acc ⟨0,Ox (Ha m []) ((m:Int) - 6) m⟩ d.c d.t.ts
 af:d.c.after<0
 blk:∀ i<bs.length,bAt bs i=Iy (Wr (D2 (fun _=>Hb false) bs.length).1 i)∧(V i).next=1∧Av (V i) 0=Jk (Wr (D2 (fun _=>Hb false) bs.length).1 i)
end
section
open Go.K
theorem Awu:∀ k:Fin 41,16≤k.val→Wz (Ha k.val [])=false:=by decide +kernel
theorem Awv {m:Nat} (h:16≤m∧m≤40):Wz (Ha m [])=false:=Awu ⟨m,by omega⟩ h.1
end
section
open Go.K
def RecP (p:Pg):Prop:=∃ (kind:By) (b:List By),3<kind.toNat∧C1 kind b=false∧p=Cp kind b
theorem RecP.mend {p:Pg} (h:RecP p):Dt p=p:=by
 obtain ⟨kind,b,_,h2,rfl⟩:=h
 exact W0 h2
theorem Ahi {v w:Blk} {j i:Nat} (h:S3 v w j) (hi:i<j) (hj:j≤8) (hm:Dt (Av w i)=Av w i):Av v i=Av w i:=by
 have h8:i<8:=by omega
 rw [Fg h8] at hm ⊢
 rcases h i h8 hi with e | e
 ·rw [e,Fg h8]
 ·rw [e,hm,Fg h8]
end
section
open Go.K
def upR (R:Nat→List Pg) (b:Nat) (r:List Pg):Nat→List Pg:=fun j=>if j=b then r else R j
section
variable {n nb k k':Nat} {q:Qt} {d:Dsk} {bs:List LB} {last:Int} {V:Nat→Blk} {R:Nat→List Pg} {p:Pg} {t':Tab} {c':Chip} {v:Blk}
end
end
section
open Go.K
section
variable {n nb k:Nat} {q:Qt} {d:Dsk} {bs bs':List LB} {last last' e pb pj:Int} {V:Nat→Blk} {R:Nat→List Pg} {p:Pg} {t':Tab} {c':Chip}
end
end
section
open Go.K
section
variable {n nb k:Nat} {q:Qt} {lg bb:Nat} {d:Dsk} {bs:List LB} {last:Int} {V:Nat→Blk} {R:Nat→List Pg}
end
end
section
open Go.K
theorem Aww {p:Pg} (h:(Bz p).2.2.2=0):Be p=false:=by
 cases hb:Be p with
 | false=>rfl
 | true=>rw [E7 hb] at h;exact absurd h (by decide)
theorem Awx {kind:By} (h:0<kind.toNat∧kind.toNat<255) (x:Wd):Be (Wn kind x)=false:=Aww (by unfold Wn;rw [Iu (K4 h x)])
theorem Ajt {p:Pg} (h:Be p=true):(Ee p).2.2.2≠0:=by
 unfold Ee
 rw [E7 h]
 decide
theorem BI.pg {v:Blk} (h:BI v) {j:Nat} (hj:j<8) (hn:v.next≤j):Av v j=Ar:=by
 rw [Fg hj]
 exact h.bl j hj hn
theorem Ab5 {bs cs:List LB}:∀ k,(∀ j<k,(bAt bs j).seq=(bAt cs j).seq)→Dv bs k=Dv cs k
 | 0,_=>rfl
 | k+1,h=>by
  have ih:=Ab5 k fun j hj=>h j (by omega)
  have hr:=Q3 cs k
  unfold Dv
  rw [ih,h k (by omega)]
  by_cases h1:Dv cs k<0
  ·simp [h1]
  ·rw [h (Dv cs k).toNat (by omega)]
theorem Gu {bs cs:List LB}:∀ k,(∀ j<k,((bAt bs j).seq.toNat=0↔(bAt cs j).seq.toNat=0))→B6 bs k=B6 cs k
 | 0,_=>rfl
 | k+1,h=>by
  have ih:=Gu k fun j hj=>h j (by omega)
  have:=h k (by omega)
  unfold B6
  rw [ih]
  by_cases h1:(bAt cs k).seq.toNat=0
  ·rw [if_pos (this.2 h1),if_pos h1]
  ·rw [if_neg (fun h2=>h1 (this.1 h2)),if_neg h1]
section
variable {n nb k:Nat} {q:Qt} {d:Dsk} {bs:List LB} {last:Int} {V:Nat→Blk} {R:Nat→List Pg}
theorem Aju (V:Nat→Blk) (nb:Nat):(D2 V nb).1.length=nb:=by simp [D2]
def Ay9 (b:Int) (m:Nat):List Pl2:=(List.range m).map fun i=>(b,((2+i:Nat):Int))
theorem Ana {v:Blk} {b:Int} {m:Nat} (h1:∀ i<m,(Ee (Av v (2+i))).2.2.2=0):∀ i,i≤m→G3 v b (2+i)=Ay9 b i
 | 0,_=>Zf v b
 | i+1,h=>by
  rw [show 2+(i+1)=(2+i)+1 by omega]
  unfold G3
  rw [Ana h1 i (by omega),if_pos ⟨by omega,h1 i (by omega)⟩]
  unfold Ay9
  rw [A4j,A4e]
  rfl
theorem Ud {v:Blk} {b:Int} {m:Nat} (h2:∀ i,m≤i→2+i<8→(Ee (Av v (2+i))).2.2.2≠0):∀ i,m≤i→2+i≤8→G3 v b (2+i)=G3 v b (2+m)
 | 0,h,_=>by rw [show m=0 by omega]
 | i+1,h,h8=>by
  by_cases e:m=i+1
  ·rw [e]
  ·rw [show 2+(i+1)=(2+i)+1 by omega]
   conv=>lhs;unfold G3
   rw [Ud h2 i (by omega) (by omega),if_neg (fun h9=>h2 i (by omega) (by omega) h9.2),A37]
end
end
section
open Go.K
section
variable {n nb k:Nat} {q:Qt} {d:Dsk} {bs bs':List LB} {last last' e:Int} {V:Nat→Blk} {R R':Nat→List Pg} {t':Tab} {c':Chip} {p:Pg} {pb pj:Int}
def z1 (x:LB):Nat:=if x.seq.toNat=0 then 1 else 0
theorem Gh (bs:List LB) (k:Nat):B6 bs (k+1)=B6 bs k+z1 (bAt bs k):=rfl
end
end
section
open Go.K
section
variable {n nb k:Nat} {q:Qt} {i:Nat} {d:Dsk} {bs bs':List LB} {last last' e:Int} {V:Nat→Blk} {R R':Nat→List Pg} {p:Pg} {pb pj:Int}
end
abbrev q3:Qt:=⟨3,[]⟩
section
variable {n nb k:Nat} {q:Qt} {lg bb:Nat} {d:Dsk} {bs:List LB} {last:Int} {V:Nat→Blk} {R:Nat→List Pg}
end
end
section
open Go.K
instance und54:Und Tryz.prog 54 (.array 32 5):=⟨Tryz.underlying54⟩
instance agg54:Agg Tryz.prog 54 true:=⟨⟨_,Tryz.underlying54,rfl⟩⟩
instance siz54:Siz Tryz.prog 54 32:=⟨by kernel_rfl⟩
instance ent79:Ent Tryz.prog 79:=⟨fun _ _=>by kernel_rfl⟩
instance ent87:Ent Tryz.prog 87:=⟨fun _ _=>by kernel_rfl⟩
abbrev Lv:=Vector By 32
abbrev tLv:TypeId:=54
def lv0:Lv:=Vector.replicate 32 0
theorem Aai:List.replicate 32 (Value.int .u8 0)=vbc lv0:=by kernel_rfl
def Cs (k:Int):Bool:=decide (0≤k) && decide (k<256)
theorem Eo {k:Int} (h:Cs k=true):∃ m:Nat,k=m∧m<256:=by
 unfold Cs at h
 simp at h
 exact ⟨k.toNat,by omega,by omega⟩
theorem Gr {m:Nat} (h:m<256):Cs (m:Int)=true:=by
 unfold Cs
 simp
 omega
def Ww (l:Lv) (m:Nat):Bool:=if h:m / 8<32 then (l[m / 8]).getLsbD (m % 8) else false
def Bj (l:Lv) (k:Int):Bool:=Cs k && Ww l k.toNat
def S8 (i:Nat):By:=1#8 <<< (i % 8)
def Ny (l:Lv) (m:Nat):Lv:=if h:m / 8<32 then l.set (m / 8) (l[m / 8] ||| S8 m) else l
def Dz (l:Lv) (k:Int):Lv:=if Cs k=true then Ny l k.toNat else l
def Su (l:Lv) (m:Nat):Lv:=if h:m / 8<32 then l.set (m / 8) (l[m / 8] &&& ~~~ S8 m) else l
def G7 (l:Lv) (k:Int):Lv:=if Cs k=true then Su l k.toNat else l
theorem Aaj (i j:Nat) (hj:j<8):(S8 i).getLsbD j=decide (j=i % 8):=by
 unfold S8
 have h8:i % 8<8:=A5v _ (by decide)
 generalize i % 8=m at h8
 match m,h8,j,hj with
 | 0,_,0,_ | 0,_,1,_ | 0,_,2,_ | 0,_,3,_ | 0,_,4,_ | 0,_,5,_ | 0,_,6,_ | 0,_,7,_=>rfl
 | 1,_,0,_ | 1,_,1,_ | 1,_,2,_ | 1,_,3,_ | 1,_,4,_ | 1,_,5,_ | 1,_,6,_ | 1,_,7,_=>rfl
 | 2,_,0,_ | 2,_,1,_ | 2,_,2,_ | 2,_,3,_ | 2,_,4,_ | 2,_,5,_ | 2,_,6,_ | 2,_,7,_=>rfl
 | 3,_,0,_ | 3,_,1,_ | 3,_,2,_ | 3,_,3,_ | 3,_,4,_ | 3,_,5,_ | 3,_,6,_ | 3,_,7,_=>rfl
 | 4,_,0,_ | 4,_,1,_ | 4,_,2,_ | 4,_,3,_ | 4,_,4,_ | 4,_,5,_ | 4,_,6,_ | 4,_,7,_=>rfl
 | 5,_,0,_ | 5,_,1,_ | 5,_,2,_ | 5,_,3,_ | 5,_,4,_ | 5,_,5,_ | 5,_,6,_ | 5,_,7,_=>rfl
 | 6,_,0,_ | 6,_,1,_ | 6,_,2,_ | 6,_,3,_ | 6,_,4,_ | 6,_,5,_ | 6,_,6,_ | 6,_,7,_=>rfl
 | 7,_,0,_ | 7,_,1,_ | 7,_,2,_ | 7,_,3,_ | 7,_,4,_ | 7,_,5,_ | 7,_,6,_ | 7,_,7,_=>rfl
theorem Adt (l:Lv) {i j:Nat} (hi:i<32) (x:By) (hj:j<256):Ww (l.set i x) j=if j / 8=i then x.getLsbD (j % 8) else Ww l j:=by
 unfold Ww
 have h:j / 8<32:=by omega
 rw [A55 h,A55 h,A21]
 by_cases e:i=j / 8
 ·rw [if_pos e,if_pos e.symm]
 ·rw [if_neg e,if_neg (fun h=>e h.symm)]
theorem Rp (l:Lv) (k j:Int):Bj (Dz l k) j=(Bj l j || (Cs k && decide (j=k))):=by
 by_cases hk:Cs k=true
 ·obtain ⟨m,rfl,hm⟩:=Eo hk
  unfold Dz
  rw [if_pos hk,A24]
  unfold Ny
  rw [A55 (show m / 8<32 by omega)]
  unfold Bj
  by_cases hj:Cs j=true
  ·obtain ⟨i,rfl,hi⟩:=Eo hj
   have hb:Ww l i=if h:i / 8<32 then (l[i / 8]).getLsbD (i % 8) else false:=rfl
   rw [hj,hk,A24,Adt l (by omega) _ hi,hb,A55 (show i / 8<32 by omega)]
   simp only [A43]
   by_cases e:i / 8=m / 8
   ·rw [if_pos e,BitVec.getLsbD_or,Aaj m (i % 8) (A5v _ (by decide))]
    have h1:l[i / 8]=l[m / 8]:=by simp only [e]
    rw [h1]
    congr 1
    exact A34.2 (by omega)
   ·rw [if_neg e,A4p (show ¬ ((i:Int)=(m:Int)) by omega),A42]
  ·have:Cs j=false:=by simpa using hj
   rw [this,A4q,A4q,A4p (fun e=>by rw [e,hk] at this;cases this),Bool.and_false,A42]
 ·have hk':Cs k=false:=by simpa using hk
  unfold Dz
  rw [if_neg hk,hk',A4q,A42]
theorem Yk (l:Lv) (k j:Int):Bj (G7 l k) j=(Bj l j && !(Cs k && decide (j=k))):=by
 by_cases hk:Cs k=true
 ·obtain ⟨m,rfl,hm⟩:=Eo hk
  unfold G7
  rw [if_pos hk,A24]
  unfold Su
  rw [A55 (show m / 8<32 by omega)]
  unfold Bj
  by_cases hj:Cs j=true
  ·obtain ⟨i,rfl,hi⟩:=Eo hj
   have hb:Ww l i=if h:i / 8<32 then (l[i / 8]).getLsbD (i % 8) else false:=rfl
   rw [hj,hk,A24,Adt l (by omega) _ hi,hb,A55 (show i / 8<32 by omega)]
   simp only [A43]
   by_cases e:i / 8=m / 8
   ·rw [if_pos e,BitVec.getLsbD_and,BitVec.getLsbD_not,Aaj m (i % 8) (A5v _ (by decide))]
    have h1:l[i / 8]=l[m / 8]:=by simp only [e]
    have h2:decide (i % 8<8)=true:=A4x (A5v _ (by decide))
    rw [h1,h2,A43]
    congr 2
    exact A34.2 (by omega)
   ·rw [if_neg e,A4p (show ¬ ((i:Int)=(m:Int)) by omega),Bool.not_false,A4z]
  ·have:Cs j=false:=by simpa using hj
   rw [this,A4q,A4q,A4q]
 ·have hk':Cs k=false:=by simpa using hk
  unfold G7
  rw [if_neg hk,hk',A4q,Bool.not_false,A4z]
def Db (l:Lv) (n:Nat):List Int:=((List.range n).map fun k:Nat=>(k:Int)).filter fun k=>Bj l k
theorem Vn (l:Lv) (n:Nat):Db l (n+1)=Db l n++if Bj l n then [(n:Int)] else []:=by
 unfold Db
 rw [A4j,A4e,A2u]
 congr 1
 by_cases h:Bj l n=true
 ·simp [h]
 ·simp [h]
theorem keysL_mem {l:Lv} {k:Int}:k∈Db l 256↔Bj l k=true:=by
 unfold Db
 rw [A4g]
 refine ⟨fun h=>h.2,fun h=>⟨?_,h⟩⟩
 have hv:Cs k=true:=by unfold Bj at h;simp at h;exact h.1
 obtain ⟨m,rfl,hm⟩:=Eo hv
 exact A5b.2 ⟨m,A4v.2 hm,rfl⟩
theorem Adu (l:Lv) (n:Nat):(Db l n).Nodup:=by
 refine List.filter_sublist.nodup ?_
 rw [A02,A3e]
 exact (List.pairwise_lt_range).imp (fun h=>by omega)
theorem Hm (l:Lv) (n:Nat):(Db l n).length≤n:=by
 have:=A1x (fun k=>Bj l k) ((List.range n).map fun k:Nat=>(k:Int))
 simpa [Db] using this
theorem valid_fn {k:Int}:Does Tryz.prog 87 [.int .i64 k] [] (Is (.bool (Cs k)) []):=by
 refine zF 9 Tryz.func87 ?_
 refine zC ?_
 exact zS
theorem Axv {P:Program} {E:Env} {H:Hp} {t u:TypeId} {x y:Operand} {a:By} {m:Nat} (hx:ev E x=some (bv a)) (hy:ev E y=some (.int .i64 (m:Nat))) (hm:m<8):Rd P E H (.binOp .shr t x y u) (bv (a >>> m)):=by
 have:=I5 (P:=P) (H:=H) (t:=t) (u:=u) hx hy (by omega)
 have e:((a.toNat:Int).fdiv (2 ^ (min ((m:Nat):Int).toNat IntKind.u8.bits)))=((a >>> m).toNat:Int):=by
  rw [A24,show min m IntKind.u8.bits=m by show min m 8=m;omega,A1c,A1b,A0z _ (by exact_mod_cast A5s _)]
  exact_mod_cast rfl
 unfold bv
 rw [← e]
 exact this
theorem At4 (a:By) (m:Nat) (hm:m<8):decide ((((a >>> m) &&& 1#8).toNat:Int)=1)=a.getLsbD m:=by
 have h:(a >>> m) &&& 1#8=if a.getLsbD m then 1#8 else 0#8:=by
  apply A1g
  intro i hi
  rw [BitVec.getLsbD_and,BitVec.getLsbD_ushiftRight,BitVec.getLsbD_one]
  by_cases e:i=0
  ·subst e
   cases h:a.getLsbD m <;> simp [h]
  ·cases h:a.getLsbD m <;> simp [e]
 rw [h]
 cases a.getLsbD m <;> rfl
theorem Axw {l:Lv} {m:Nat} (hm:m<256):Does Tryz.prog 79 [.agg (vbc l).toArray,.int .i64 (m:Nat)] [] (Is (.bool (Bj l (m:Nat))) []):=by
 have hv:=Gr hm
 have hbt:Bj l m=decide ((((l[m / 8] >>> (m % 8)) &&& 1#8).toNat:Int)=1):=by
  rw [At4 _ _ (A5v _ (by decide))]
  unfold Bj Ww
  rw [hv,A24,A55 (by omega),A43]
 refine zF 18 Tryz.func79 ?_
 refine zC ?_
 refine Do rfl rfl (fun b2=> ?_)
 refine zC ?_
 refine zI rfl (valid_fn) ?_
 refine sa ?_
 refine' H9 rfl rfl inferInstance rfl rfl rfl rfl rfl (fun hg7=> ?_) ?_
 rotate_left
 ·try (simp at hg7;show _)
  refine zA ?_
  refine Ah (Qs (m:=8) rfl rfl (by decide) (by omega)) rfl ?_
  refine zA ?_
  refine Ah (Fi rfl rfl (by omega)) rfl ?_
  refine zA ?_
  refine Ah (Al rfl mM (show nth _ _=some (bv (l[m / 8])) by simp only [A24,A5r];exact Fv (by omega))) rfl ?_
  refine zA ?_
  refine Ah (Np (m:=8) rfl rfl (by decide)) rfl ?_
  refine zA ?_
  refine Ah (Axv (m:=m % 8) rfl rfl (A5v _ (by decide))) rfl ?_
  refine zA ?_
  refine Ah (show Rd _ _ _ _ (bv ((l[m / 8] >>> (m % 8)) &&& 1#8)) from by (unfold bv;rw [show ((((l[m / 8] >>> (m % 8)) &&& 1#8).toNat:Nat):Int)=_ from (Ok .and .u8 rfl _ _).symm];exact An rfl rfl rfl)) rfl ?_
  refine zC ?_
  exact Ad ⟨rfl,rfl,⟨_,sP⟩⟩
 refine zC ?_
 refine Ak (Aw Tryz.results79 (Af rfl)) ?_ sP
 rw [hv,hbt];rfl
theorem At5 {l:Lv} {k:Int} (hv:Cs k=false):Does Tryz.prog 79 [.agg (vbc l).toArray,.int .i64 k] [] (Is (.bool (Bj l k)) []):=by
 refine zF 18 Tryz.func79 ?_
 refine zC ?_
 refine Do rfl rfl (fun b2=> ?_)
 refine zC ?_
 refine zI rfl (valid_fn.to (by rw [hv]) rfl) ?_
 refine sa ?_
 refine' H9 (u:=false) rfl rfl inferInstance rfl rfl rfl rfl rfl (fun hg7=>absurd hg7 (by simp)) ?_
 refine zC ?_
 refine Ak (Aw Tryz.results79 (Af rfl)) ?_ sP
 unfold Bj;rw [hv];rfl
theorem Vo {l:Lv} {k:Int}:Does Tryz.prog 79 [.agg (vbc l).toArray,.int .i64 k] [] (Is (.bool (Bj l k)) []):=by
 by_cases hv:Cs k=true
 ·obtain ⟨m,rfl,hm⟩:=Eo hv
  exact Axw hm
 ·exact At5 (by simpa using hv)
end
section
open Go.K
instance zer54:Zer Tryz.prog 54 (List.replicate 32 (.int .u8 0)):=⟨by kernel_rfl⟩
instance ent51:Ent Tryz.prog 51:=⟨fun _ _=>by kernel_rfl⟩
instance ent52:Ent Tryz.prog 52:=⟨fun _ _=>by kernel_rfl⟩
instance ent54:Ent Tryz.prog 54:=⟨fun _ _=>by kernel_rfl⟩
theorem H3 {α β:Type} {f:β→α→β} {b:β} {xs:List α} {i:Nat} {x:α} (h:xs[i]? =some x):(xs.take (i+1)).foldl f b=f ((xs.take i).foldl f b) x:=by
 rw [A3g,h,A28];rfl
theorem orB {P:Program} {E:Env} {H:Hp} {t u:TypeId} {x y:Operand} {a b:By} (hx:ev E x=some (bv a)) (hy:ev E y=some (bv b)):Rd P E H (.binOp .or t x y u) (bv (a ||| b)):=by
 unfold bv;rw [show (((a ||| b).toNat:Nat):Int)=_ from (Ok .or .u8 rfl _ _).symm];exact An hx hy rfl
theorem At6 {P:Program} {E:Env} {H:Hp} {t u:TypeId} {x y:Operand} {a b:By} (hx:ev E x=some (bv a)) (hy:ev E y=some (bv b)):Rd P E H (.binOp .andNot t x y u) (bv (a &&& ~~~ b)):=by
 unfold bv;rw [show (((a &&& ~~~ b).toNat:Nat):Int)=_ from (Ok .andNot .u8 rfl _ _).symm];exact An hx hy rfl
theorem Yl {l:Lv} {m:Nat} (hm:m<256):Ba (vbc l) (m / 8*1) [bv (l[m / 8]'(by omega) ||| S8 m)]=some (vbc (Ny l m)):=by
 unfold Ny
 rw [A55 (show m / 8<32 by omega),A5r]
 exact Il (by omega) _
theorem Ak5 {l:Lv} {m:Nat} (hm:m<256):Ba (vbc l) (m / 8*1) [bv (l[m / 8]'(by omega) &&& ~~~ S8 m)]=some (vbc (Su l m)):=by
 unfold Su
 rw [A55 (show m / 8<32 by omega),A5r]
 exact Il (by omega) _
theorem At7 {l:Lv} {s:Sl Int} {T:TypeId}:Does Tryz.prog 52 [.agg (vbc l).toArray,s.val] (s.hp T++[]) (Is (.agg (vbc (s.list.foldl Dz l)).toArray) (s.hp T++[])):=by
 refine zF 26 Tryz.func52 ?_
 refine zC ?_
 refine Do rfl rfl (fun b2=> ?_)
 refine Aj rfl (fun b4=> ?_)
 rw [Aai]
 refine zC ?_
 have hsm:=s.small
 refine At [2,4,7,8] kQ (fun (st:Nat×Lv)=>[(9,.int .i64 st.1)]) (fun st=>(b2,true,C (vbc st.2) tLv)::(b4,true,C (vbc lv0) tLv)::(s.hp T++[])) (fun st=>st.1≤s.list.length∧st.2=(s.list.take st.1).foldl Dz l) (fun st=>s.list.length - st.1) ((0,l)) ⟨A5s _,rfl⟩ kP sP ?_
 rintro ⟨i,lc⟩ ⟨g0,g1⟩
 simp only at g0 g1
 refine zC ?_
 refine Ae rfl (fun c10=> ?_) (fun c10=> ?_)
 ·simp only [A3j,A1k] at c10
  obtain ⟨z,hg⟩:∃ z,s.list[i]? =some z:=⟨_,A1d (by omega)⟩
  have hst:(s.list.take (i+1)).foldl Dz l=Dz lc z:=(by rw [H3 hg,g1])
  refine zA ?_
  refine Ah (A7 rfl rfl (by omega)) rfl ?_
  refine Ah (Co (o:=0) rfl pL hg rfl rfl) rfl ?_
  refine zC ?_
  refine zI rfl (valid_fn) ?_
  refine zC ?_
  refine Ae rfl (fun c14=> ?_) (fun c14=> ?_)
  ·skip
   obtain ⟨m,rfl,hm⟩:=Eo c14
   have hst2:Ny lc m=(s.list.take (i+1)).foldl Dz l:=(by rw [hst];unfold Dz;rw [if_pos c14,A24])
   refine A0 [(9,[(0,false),(1,false),(2,false),(3,false),(4,false),(5,false),(6,false),(7,false),(8,false)]),(10,[(9,true)])] (by kernel_rfl) ?_
   refine zA ?_
   refine Aq (Qs (m:=8) rfl rfl (by decide) (by omega)) ?_
   refine Aq (Fi rfl rfl (by omega)) ?_
   refine Aq (Al rfl mM (show nth _ _=some (bv (lc[m / 8]'(by omega))) by simp only [A24,A5r];exact Fv (by omega))) ?_
   refine zA ?_
   refine Aq (Np (m:=8) rfl rfl (by decide)) ?_
   refine Aq (show Rd _ _ _ _ (bv (S8 m)) from Aab rfl rfl (A5v _ (by decide))) ?_
   refine Aq (orB rfl rfl) ?_
   refine Aq (Fi rfl rfl (by omega)) ?_
   refine zA ?_
   refine Ac (cs':=vbc (Ny lc m)) rfl rfl uD rfl rfl (by simp only [A24];exact Yl hm) ?_
   refine zC ?_
   first | exact ⟨(i+1,Ny lc m),⟨by simp only;omega,hst2⟩,(by simp only;omega),lZ⟩ | exact ⟨(i+1,lc),⟨by simp only;omega,hst2⟩,(by simp only;omega),lZ⟩
  ·skip
   have hst2:lc=(s.list.take (i+1)).foldl Dz l:=(by rw [hst];unfold Dz;rw [c14];rfl)
   refine zC ?_
   first | exact ⟨(i+1,Ny lc m),⟨by simp only;omega,hst2⟩,(by simp only;omega),lZ⟩ | exact ⟨(i+1,lc),⟨by simp only;omega,hst2⟩,(by simp only;omega),lZ⟩
 ·simp only [A3j,A1k] at c10
  have hi:i=s.list.length:=(by omega)
  subst hi
  rw [A30] at g1
  refine zA ?_
  refine Ah (Am rfl mM (by first | exact Ax | rfl)) rfl ?_
  first | refine Ac rfl rfl uD (Cg) (Ai) (Bo (by first | exact Ai | exact A1y ..)) ?_ | refine Ac rfl rfl uD rfl rfl rfl ?_
  refine zC ?_
  refine Ak (Aw Tryz.results52 (Bc rfl mM (by first | exact Ax | rfl))) ?_ sP
  rw [← g1]
theorem At8 {l:Lv} {s:Sl Int} {T:TypeId}:Does Tryz.prog 51 [.agg (vbc l).toArray,s.val] (s.hp T++[]) (Is (.agg (vbc (s.list.foldl G7 l)).toArray) (s.hp T++[])):=by
 refine zF 26 Tryz.func51 ?_
 refine zC ?_
 refine Do rfl rfl (fun b2=> ?_)
 refine Aj rfl (fun b4=> ?_)
 rw [Aai]
 refine zC ?_
 have hsm:=s.small
 refine At [2,4,7,8] kQ (fun (st:Nat×Lv)=>[(9,.int .i64 st.1)]) (fun st=>(b2,true,C (vbc st.2) tLv)::(b4,true,C (vbc lv0) tLv)::(s.hp T++[])) (fun st=>st.1≤s.list.length∧st.2=(s.list.take st.1).foldl G7 l) (fun st=>s.list.length - st.1) ((0,l)) ⟨A5s _,rfl⟩ kP sP ?_
 rintro ⟨i,lc⟩ ⟨g0,g1⟩
 simp only at g0 g1
 refine zC ?_
 refine Ae rfl (fun c10=> ?_) (fun c10=> ?_)
 ·simp only [A3j,A1k] at c10
  obtain ⟨z,hg⟩:∃ z,s.list[i]? =some z:=⟨_,A1d (by omega)⟩
  have hst:(s.list.take (i+1)).foldl G7 l=G7 lc z:=(by rw [H3 hg,g1])
  refine zA ?_
  refine Ah (A7 rfl rfl (by omega)) rfl ?_
  refine Ah (Co (o:=0) rfl pL hg rfl rfl) rfl ?_
  refine zC ?_
  refine zI rfl (valid_fn) ?_
  refine zC ?_
  refine Ae rfl (fun c14=> ?_) (fun c14=> ?_)
  ·skip
   obtain ⟨m,rfl,hm⟩:=Eo c14
   have hst2:Su lc m=(s.list.take (i+1)).foldl G7 l:=(by rw [hst];unfold G7;rw [if_pos c14,A24])
   refine A0 [(9,[(0,false),(1,false),(2,false),(3,false),(4,false),(5,false),(6,false),(7,false),(8,false)]),(10,[(9,true)])] (by kernel_rfl) ?_
   refine zA ?_
   refine Aq (Qs (m:=8) rfl rfl (by decide) (by omega)) ?_
   refine Aq (Fi rfl rfl (by omega)) ?_
   refine Aq (Al rfl mM (show nth _ _=some (bv (lc[m / 8]'(by omega))) by simp only [A24,A5r];exact Fv (by omega))) ?_
   refine zA ?_
   refine Aq (Np (m:=8) rfl rfl (by decide)) ?_
   refine Aq (show Rd _ _ _ _ (bv (S8 m)) from Aab rfl rfl (A5v _ (by decide))) ?_
   refine Aq (At6 rfl rfl) ?_
   refine Aq (Fi rfl rfl (by omega)) ?_
   refine zA ?_
   refine Ac (cs':=vbc (Su lc m)) rfl rfl uD rfl rfl (by simp only [A24];exact Ak5 hm) ?_
   refine zC ?_
   first | exact ⟨(i+1,Su lc m),⟨by simp only;omega,hst2⟩,(by simp only;omega),lZ⟩ | exact ⟨(i+1,lc),⟨by simp only;omega,hst2⟩,(by simp only;omega),lZ⟩
  ·skip
   have hst2:lc=(s.list.take (i+1)).foldl G7 l:=(by rw [hst];unfold G7;rw [c14];rfl)
   refine zC ?_
   first | exact ⟨(i+1,Su lc m),⟨by simp only;omega,hst2⟩,(by simp only;omega),lZ⟩ | exact ⟨(i+1,lc),⟨by simp only;omega,hst2⟩,(by simp only;omega),lZ⟩
 ·simp only [A3j,A1k] at c10
  have hi:i=s.list.length:=(by omega)
  subst hi
  rw [A30] at g1
  refine zA ?_
  refine Ah (Am rfl mM (by first | exact Ax | rfl)) rfl ?_
  first | refine Ac rfl rfl uD (Cg) (Ai) (Bo (by first | exact Ai | exact A1y ..)) ?_ | refine Ac rfl rfl uD rfl rfl rfl ?_
  refine zC ?_
  refine Ak (Aw Tryz.results51 (Bc rfl mM (by first | exact Ax | rfl))) ?_ sP
  rw [← g1]
theorem Aik {l:Lv}:Does Tryz.prog 54 [.agg (vbc l).toArray] [] (fun v H=>∃ s:Sl Int,v=s.val∧H=s.hp tI++[]∧s.list=Db l 256∧s.isOwn=true):=by
 refine zF 16 Tryz.func54 ?_
 refine zC ?_
 refine Do rfl rfl (fun b1=> ?_)
 refine zC ?_
 refine I1 (G6 (α:=Int) (T:=tI)) ?_
 refine At [1] kQ (fun (st:Nat×Sl Int)=>[(4,.int .i64 st.1),(2,st.2.val)]) (fun st=>(st.2.hp tI++((b1,true,C (vbc l) tLv)::[]))) (fun st=>st.1≤256∧st.2.list=Db l st.1∧st.2.isOwn=true) (fun st=>256 - st.1) ((0,Sl.nil)) ⟨A5s _,rfl,rfl⟩ kP sP ?_
 rintro ⟨i,s⟩ ⟨g0,g1,g2⟩
 simp only at g0 g1 g2
 have hsl:=Hm l i
 rw [← g1] at hsl
 refine zC ?_
 refine Ae rfl (fun c5=> ?_) (fun c5=> ?_)
 ·simp only [A3j,A1k] at c5
  have hk:=Vn l i
  refine zA ?_
  refine Ah (Am rfl mM (by first | exact Ax | rfl)) rfl ?_
  refine zC ?_
  refine zI rfl (Vo) ?_
  refine zC ?_
  refine Ae rfl (fun c9=> ?_) (fun c9=> ?_)
  ·skip
   refine zC ?_
   refine Ao rfl rfl rfl rfl (fun b12=> ?_)
   refine Az (s:=s) (new:=[(i:Int)]) (m:=1) rfl rfl pL g2 (Ch (r:=true) mM rfl) rfl rfl rfl rfl (by omega) rfl (fun s' hs1 hs2=> ?_)
   refine zC ?_
   first | exact ⟨(i+1,s'),⟨by simp only;omega,(by simp only;rw [hs1,hk,if_pos c9,g1]),hs2⟩,(by simp only;omega),lZ⟩ | exact ⟨(i+1,s),⟨by simp only;omega,(by simp only;rw [hk,c9,g1];simp),g2⟩,(by simp only;omega),lZ⟩
  ·skip
   refine zC ?_
   first | exact ⟨(i+1,s'),⟨by simp only;omega,(by simp only;rw [hs1,hk,if_pos c9,g1]),hs2⟩,(by simp only;omega),lZ⟩ | exact ⟨(i+1,s),⟨by simp only;omega,(by simp only;rw [hk,c9,g1];simp),g2⟩,(by simp only;omega),lZ⟩
 ·simp only [A3j,A1k] at c5
  have hi:i=256:=(by omega)
  subst hi
  refine zC ?_
  exact zL (hR:=by exact ⟨s,rfl,rfl,g1,g2⟩)
end
section
open Go.K
instance agg40:Agg Tryz.prog 40 true:=⟨⟨_,Tryz.underlying40,rfl⟩⟩
instance siz40:Siz Tryz.prog 40 3:=⟨by kernel_rfl⟩
instance agg57:Agg Tryz.prog 57 true:=⟨⟨_,Tryz.underlying57,rfl⟩⟩
instance siz57:Siz Tryz.prog 57 34:=⟨by kernel_rfl⟩
instance fld40_0:Fld Tryz.prog 40 0 0:=⟨⟨_,_,0,Tryz.underlying40,rfl,by kernel_rfl,rfl⟩⟩
instance fld40_1:Fld Tryz.prog 40 1 1:=⟨⟨_,_,0,Tryz.underlying40,rfl,by kernel_rfl,rfl⟩⟩
instance fld40_2:Fld Tryz.prog 40 2 2:=⟨⟨_,_,0,Tryz.underlying40,rfl,by kernel_rfl,rfl⟩⟩
instance ent73:Ent Tryz.prog 73:=⟨fun _ _=>by kernel_rfl⟩
structure Cm where
 ep:Wd
 lv:Lv
 sum:BitVec 32
def cmC (c:Cm):List Value:=wv c.ep::(vbc c.lv++[uv c.sum])
abbrev tCm:TypeId:=57
def cm0:Cm:=⟨0,lv0,0⟩
theorem Aak:(Value.int .u64 0)::(List.replicate 32 (Value.int .u8 0)++[Value.int .u32 0])=cmC cm0:=by kernel_rfl
theorem Bu {c:Cm}:(cmC c).length=34:=by unfold cmC;simp [Ai]
theorem J1 {c:Cm}:cut (cmC c) 0 34=some (cmC c):=by have:=Nf (cmC c);rwa [Bu] at this
theorem Rq {c:Cm} {cs:List Value} (h:cs.length=34):Ba cs 0 (cmC c)=some (cmC c):=La (by rw [Bu,h])
theorem Axx (x:By):(bv x).oneCell'=true:=rfl
theorem My {c:Cm}:Jw (.agg (cmC c).toArray)=some (cmC c):=by
 have h:(cmC c).all (·.oneCell')=true:=by
  unfold cmC vbc
  simp only [A44,List.all_append,List.all_map,List.all_nil,A4z]
  have h1:(wv c.ep).oneCell'=true:=rfl
  have h2:(uv c.sum).oneCell'=true:=rfl
  rw [h1,h2,A43,A4z]
  exact A3o.2 fun x _=>Axx x
 simp [Jw,h]
theorem Agj (c:Cm):cut (cmC c) 1 32=some (vbc c.lv):=by
 refine cut_iff.2 ⟨?_,by rw [Bu];decide⟩
 unfold cmC
 rw [A2i,A4t]
 exact (A4k Ai).symm
theorem Ail (c:Cm):nth (cmC c) 33=some (uv c.sum):=by
 unfold cmC
 rw [Dp,A1h,A01 (by rw [Ai];decide),Ai]
 rfl
theorem Rr (c:Cm) (l:Lv):Ba (cmC c) 1 (vbc l)=some (cmC { c with lv:=l }):=by
 refine Ew ?_ (by rw [Ai,Bu];decide)
 unfold cmC
 rw [Ai]
 have h1:(wv c.ep::(vbc c.lv++[uv c.sum])).take 1=[wv c.ep]:=rfl
 have h2:(wv c.ep::(vbc c.lv++[uv c.sum])).drop (1+32)=[uv c.sum]:=by
  rw [show 1+32=32+1 from rfl,A2i,A39 Ai]
 rw [h1,h2]
 simp
structure Nd where
 key:Int
 ep:Wd
 body:Sl By
def ndC (n:Nd):List Value:=[.int .i64 n.key,wv n.ep,n.body.val]
instance:Cel Nd:=⟨3,ndC,fun _=>rfl,fun _=>rfl⟩
abbrev tNd:TypeId:=40
def Ez (k:Int) (e:Wd) (b:List By):List By:=B4 1 (BitVec.ofInt 64 k)++(B4 8 e++(b++[]))
def Bh (k:Int) (b:List By):Bool:=Cs k && decide (b.length≤224)
theorem Adv {b:Nat} {s1 s2 s3:Sl By} (hl:s1.list.length+s2.list.length+s3.list.length≤70000000000000):Does Tryz.prog 113 [.slice (some ⟨b,0,none⟩) 3 3] ((b,true,C [s1.val,s2.val,s3.val] tSB)::(s1.hp tU8++(s2.hp tU8++(s3.hp tU8++[]))))
  (fun v H=>∃ s:Sl By,v=s.val∧H=s.hp tU8++((b,true,C [s1.val,s2.val,s3.val] tSB)::(s1.hp tU8++(s2.hp tU8++(s3.hp tU8++[]))))∧s.list=s1.list++(s2.list++(s3.list++[]))∧s.isOwn=true):=by
 have e2:(Sl.own b [s1,s2,s3] 3 [] ⟨by simp,A5q _,by simp⟩:Sl (Sl By)).list=[s1,s2,s3]:=rfl
 have e3:Bb [s1,s2,s3]=s1.list++(s2.list++(s3.list++[])):=by simp [Bb]
 have h:=Adl (q:= .own b [s1,s2,s3] 3 [] ⟨by simp,A5q _,by simp⟩) (by rw [e2,e3];simp only [A2x,A4c];omega)
 rw [e2,e3] at h
 have e:(Sl.own b [s1,s2,s3] 3 [] ⟨by simp,A5q _,by simp⟩:Sl (Sl By)).hp tSB++(Dg [s1,s2,s3]++[])=((b,true,C [s1.val,s2.val,s3.val] tSB)::(s1.hp tU8++(s2.hp tU8++(s3.hp tU8++[])))):=by
  rw [Sl.hp_own,Cv,Cv,Cv,Hl]
  simp only [A25,A4h,A37]
  rfl
 rw [e] at h
 exact h
theorem Ym {n:Nd}:Does Tryz.prog 73 [.agg (ndC n).toArray] (n.body.hp tU8++[])
  (fun v H=>(Bh n.key n.body.list=false∧v= .tuple #[.slice none 0 0,.int .i64 1]∧H=n.body.hp tU8++[]) ∨
   (Bh n.key n.body.list=true∧∃ s:Sl By,v= .tuple #[s.val,.int .i64 0]∧H=s.hp tU8++(n.body.hp tU8++[])∧s.list=Ez n.key n.ep n.body.list∧s.isOwn=true)):=by
 refine zF 29 Tryz.func73 ?_
 refine zC ?_
 refine Dj rfl rfl (fun b1=> ?_)
 refine zC ?_
 refine Ae rfl (fun c17=> ?_) (fun c17=> ?_)
 ·simp only [A36,A15,A3j,A1k] at c17
  have hok:Bh n.key n.body.list=false:=(by unfold Bh Cs;simp;omega)
  refine zC ?_
  exact zL (hR:=by exact .inl ⟨hok,rfl,rfl⟩)
 ·simp only [A36,A15,A3j,A1k] at c17
  have hok:Bh n.key n.body.list=true:=(by unfold Bh Cs;simp;omega)
  refine zC ?_
  refine A0 [(9,[(0,false),(1,false),(2,false),(4,false),(5,false),(7,false),(8,false),(3,true),(6,true)]),(10,[(9,true)]),(11,[(10,true)]),(13,[(11,false),(12,false)])] (by kernel_rfl) ?_
  iterate 3 refine sb ?_
  refine Aq (show Rd _ _ _ _ (wv (BitVec.ofInt 64 n.key)) from by (unfold wv;rw [← Kw];exact D9 rfl)) ?_
  refine zC ?_
  refine zE rfl (Ia) ?_
  rintro _ _ ⟨s21,rfl,rfl,hs21,ho21⟩
  refine zW ?_
  refine zE rfl (Ia) ?_
  rintro _ _ ⟨s24,rfl,rfl,hs24,ho24⟩
  refine zW ?_
  refine Ao rfl rfl rfl rfl (fun b27=> ?_)
  refine zC ?_
  refine zE rfl (Adv (b:=b27) (s1:=s21) (s2:=s24) (s3:=n.body) (by rw [hs21,hs24,A4,A4,show A8 1 8=1 from rfl,show A8 8 8=8 from rfl];omega)) ?_
  rintro _ _ ⟨s28,rfl,rfl,hs28,ho28⟩
  refine zW ?_
  exact zL (hR:=by exact .inr ⟨hok,s28,rfl,rfl,by rw [hs28,hs21,hs24];rfl,ho28⟩)
end
section
open Go.K
instance zer40:Zer Tryz.prog 40 ([.int .i64 0,.int .u64 0,.slice none 0 0]):=⟨by kernel_rfl⟩
instance zer57:Zer Tryz.prog 57 ([.int .u64 0]++List.replicate 32 (.int .u8 0)++[.int .u32 0]):=⟨by kernel_rfl⟩
instance fld57_0:Fld Tryz.prog 57 0 0:=⟨⟨_,_,0,Tryz.underlying57,rfl,by kernel_rfl,rfl⟩⟩
instance fld57_1:Fld Tryz.prog 57 1 1:=⟨⟨_,_,31,Tryz.underlying57,rfl,by kernel_rfl,rfl⟩⟩
instance fld57_2:Fld Tryz.prog 57 2 33:=⟨⟨_,_,0,Tryz.underlying57,rfl,by kernel_rfl,rfl⟩⟩
instance plc40:Plc Tryz.prog 40 [(0,1),(1,1),(2,1)]:=⟨⟨_,Tryz.underlying40,fun _=>by kernel_rfl⟩⟩
instance ent62:Ent Tryz.prog 62:=⟨fun _ _=>by kernel_rfl⟩
instance ent76:Ent Tryz.prog 76:=⟨fun _ _=>by kernel_rfl⟩
instance ent149:Ent Tryz.prog 149:=⟨fun _ _=>by kernel_rfl⟩
def Yn (xs:List By):Int:=((Ec (xs.take 1) 1).toNat:Int)
def Api (xs:List By):Wd:=Ec ((xs.drop 1).take 8) 8
def Adw (xs:List By):Bool:=decide (9≤xs.length) && decide (xs.length≤233)
theorem Aim (xs:List By):(Ec (xs.take 1) 1).toNat<256:=by
 cases xs with
 | nil=>decide
 | cons x xs =>
  show (0#64 ||| (x.setWidth 64 <<< (8*0))).toNat<256
  simp
  have:=x.isLt
  omega
theorem Adx {s:Sl By} {T:TypeId}:Does Tryz.prog 62 [s.val] (s.hp T++[])
  (fun v H=>(Adw s.list=false∧v= .tuple #[.agg (ndC ⟨0,0,.nil⟩).toArray,.int .i64 11]∧H=s.hp T++[]) ∨
   (Adw s.list=true∧∃ b:Sl By,v= .tuple #[.agg (ndC ⟨Yn s.list,Api s.list,b⟩).toArray,.int .i64 0]∧H=b.hp tU8++(s.hp T++[])∧b.list=s.list.drop 9∧b.isOwn=true)):=by
 have hv1:=Aim s.list
 refine zF 26 Tryz.func62 ?_
 refine zC ?_
 refine Aj rfl (fun b2=> ?_)
 refine zC ?_
 refine Ae rfl (fun c12=> ?_) (fun c12=> ?_)
 ·simp only [A36,A15,A3j,A1k] at c12
  have hok:Adw s.list=false:=(by unfold Adw;simp;omega)
  refine zC ?_
  exact zL (hR:=by exact .inl ⟨hok,rfl,rfl⟩)
 ·simp only [A36,A15,A3j,A1k] at c12
  have hok:Adw s.list=true:=(by unfold Adw;simp;omega)
  have hsm:s.list.length≤70000000000000:=(by omega)
  refine zC ?_
  refine zE rfl (Fk (s:=s) (T:=T) hsm) ?_
  rintro _ _ ⟨r,rfl,rfl,hr1,hr2⟩
  refine zW ?_
  refine zE rfl (Fl (r:=r) (n:=1) (by rw [hr1];exact hsm)) ?_
  rintro _ _ ⟨x1,sl1,bad1,rfl,rfl,hx1,hl1,hb1⟩
  refine A5 aQ ?_
  refine Ah (show Rd _ _ _ _ (.int .i64 (Yn s.list)) from by (rw [hr1,show A8 1 8=1 from rfl] at hx1;unfold C2 at hx1;rw [if_neg (by omega)] at hx1;simp only at hx1;unfold Yn;rw [← hx1];rw [← hx1] at hv1;exact Gp (Cz (by omega)) rfl)) rfl ?_
  refine zC ?_
  refine zE rfl (Fl (r:=⟨r.b,sl1,bad1⟩) (n:=8) (by simp only;rw [hl1,hr1];have:=P3 (A8 1 8) s.list r.bad;omega)) ?_
  rintro _ _ ⟨x2,sl2,bad2,rfl,rfl,hx2,hl2,hb2⟩
  refine zW ?_
  refine zI rfl (Tp (r:=⟨r.b,sl2,bad2⟩)) ?_
  refine zE rfl (Kq (r:=⟨r.b,sl2,bad2⟩) (n:=(sl2.list.length:Nat)) (by simp only;rw [hl2];simp only;have h1:=P3 (A8 8 8) sl1.list bad1;have h2:=P3 (A8 1 8) s.list r.bad;rw [hl1,hr1] at h1;rw [hl1,hr1];omega)) ?_
  rintro _ _ ⟨bb,sl3,bad3,rfl,rfl,hbo,hbl,hl3,hb3⟩
  refine A5 aQ ?_
  refine Ah (show Rd _ _ _ _ (.agg (ndC ⟨Yn s.list,Api s.list,bb⟩).toArray) from by (have e1:sl1.list=s.list.drop 1:=(by rw [hl1,hr1,show A8 1 8=1 from rfl];unfold C2;rw [if_neg (by omega)]);have e2:x2=Api s.list:=(by simp only at hx2;rw [hx2,e1,show A8 8 8=8 from rfl];unfold C2;rw [if_neg (by rw [A3w];omega)];rfl);rw [← e2];exact Bl rfl rfl)) rfl ?_
  refine zC ?_
  exact zL (hR:=by exact .inr ⟨hok,bb,rfl,rfl,(by have e1:sl1.list=s.list.drop 1:=(by rw [hl1,hr1,show A8 1 8=1 from rfl];unfold C2;rw [if_neg (by omega)]);have e2:sl2.list=s.list.drop 9:=(by simp only at hl2;rw [hl2,e1,show A8 8 8=8 from rfl];unfold C2;rw [if_neg (by rw [A3w];omega)];simp only [A4s]);rw [hbl];simp only;rw [show (max ((sl2.list.length:Nat):Int) 0).toNat=sl2.list.length by omega];unfold C4;rw [if_neg (by omega)];simp only [A30];exact e2),hbo⟩)
def Ge (c:Cm):List By:=B4 8 c.ep++(B4 4 (c.sum.setWidth 64)++(c.lv.toList++[]))
def Aal (xs:List By):Lv:=Vector.ofFn fun i:Fin 32=>xs.getD i.val 0
def Apj (xs:List By):Cm:=⟨Ec (xs.take 8) 8,Aal (xs.drop 12),(Ec ((xs.drop 8).take 4) 4).setWidth 32⟩
theorem At9 {xs:List By} (h:xs.length=32):cells xs=vbc (Aal xs):=by
 have e:xs=(Aal xs).toList:=by
  apply A3r
  ·rw [h,A2f]
  ·intro i h1 h2
   rw [Vector.getElem_toList]
   unfold Aal
   rw [Vector.getElem_ofFn]
   simp only [A00]
   rw [A1d h1]
   rfl
 rw [Mi]
 show xs.map bv=(Aal xs).toList.map bv
 rw [← e]
def lvV (b:Nat) (c:Cm):Sl By:= .view b 1 true (cmC c) tCm (0,0) c.lv.toList 32 ⟨fun i x hx=>by
  have hi:i<32:=by have:=(A08.1 hx).1;simpa using this
  have h1:=Abx (p:=c.lv) (o:=0) (m:=32) i x (by rw [A4t,A1q (by simp)];exact hx)
  have h2:=Agj c
  obtain ⟨e1,e2⟩:=cut_iff.1 h1
  obtain ⟨e3,e4⟩:=cut_iff.1 h2
  refine cut_iff.2 ⟨?_,by rw [Bu];simp only [Cel.sz];omega⟩
  rw [e1,e3,A5k,List.drop_take,List.take_take,A4s]
  congr 1
  simp only [Cel.sz]
  omega,by simp,by simp⟩
theorem Aua (b:Nat) (c:Cm):(lvV b c).val= .slice (some ⟨b,1,none⟩) 32 32:=by
 show Value.slice (some ⟨b,1,none⟩) c.lv.toList.length 32=_
 rw [A2f]
theorem Axy (b:Nat) (c:Cm) (U:TypeId):(lvV b c).hp U=[(b,true,C (cmC c) tCm)]:=by unfold lvV;rw [Sl.hp_view]
theorem Apk (x:BitVec 32):IntKind.u64.wrap (x.toNat:Int)=((x.setWidth 64).toNat:Int):=by
 rw [Em .u64 rfl,A14]
 simp
 rfl
theorem Apl (x:Wd):IntKind.u32.wrap (x.toNat:Int)=((x.setWidth 32).toNat:Int):=by
 rw [Em .u32 rfl,A14]
 simp
 rfl
theorem Ak6 {c:Cm}:Does Tryz.prog 76 [.agg (cmC c).toArray] [] (fun v H=>∃ s:Sl By,v=s.val∧H=s.hp tU8++[]∧s.list=Ge c∧s.isOwn=true):=by
 refine zF 14 Tryz.func76 ?_
 refine zC ?_
 refine Do rfl rfl (fun b1=> ?_)
 refine zC ?_
 refine A0 [(9,[(0,false),(1,false),(3,false),(4,false),(5,false),(7,false),(8,false),(2,true),(6,true)]),(10,[(9,true)]),(11,[(10,true)]),(12,[(11,false)])] (by kernel_rfl) ?_
 iterate 4 refine sb ?_
 refine Aq (Al rfl mM (Ail c)) ?_
 refine Aq (show Rd _ _ _ _ (wv (c.sum.setWidth 64)) from by (unfold wv;rw [← Apk];exact D9 rfl)) ?_
 refine zC ?_
 refine Aq (show Rd _ _ _ _ (lvV b1 c).val from by (rw [Aua];exact C0 (b:=b1) (o:=1) (sz:=1) (i:=0) (j:=32) (l:=32) rfl rfl rfl (by omega))) ?_
 refine zC ?_
 refine zE rfl (Ia) ?_
 rintro _ _ ⟨s5,rfl,rfl,hs5,ho5⟩
 refine zW ?_
 refine zE rfl (Ia) ?_
 rintro _ _ ⟨s9,rfl,rfl,hs9,ho9⟩
 refine zW ?_
 refine Ao rfl rfl rfl rfl (fun b12=> ?_)
 refine zC ?_
 refine Ci rfl (Adv (b:=b12) (s1:=s5) (s2:=s9) (s3:=lvV b1 c) (by rw [hs5,hs9,A4,A4];show _+_+c.lv.toList.length≤_;rw [A2f,show A8 8 8=8 from rfl,show A8 4 8=4 from rfl];decide)) (by rw [Axy];exact sP) rfl (fun v13 Y13 h13=> ?_)
 obtain ⟨s13,rfl,rfl,hs13,ho13⟩:=h13
 refine A5 aQ ?_
 refine zC ?_
 exact zL (hR:=by exact ⟨s13,rfl,rfl,by rw [hs13,hs5,hs9];rfl,ho13⟩)
theorem Apm {s:Sl By} {T:TypeId}:Does Tryz.prog 149 [s.val] (s.hp T++[])
  (fun v H=>(s.list.length≠44∧v= .tuple #[.agg (cmC cm0).toArray,.int .i64 11]∧H=s.hp T++[]) ∨
   (s.list.length=44∧v= .tuple #[.agg (cmC (Apj s.list)).toArray,.int .i64 0]∧H=s.hp T++[])):=by
 refine Dw (n:=26) Tryz.func149 Tryz.ntmps149 rfl (A13 rfl)<|Ag<|Aa fun ops=> ?_
 refine Aj rfl fun b2=> ?_
 refine Pb (G:=(b2,true,C (cmC cm0) tCm)::(s.hp T++[])) (by rw [← Aak];rfl) ?_
 refine oA rfl<|Ad<|n_K<|Ag<|Ag<|Aa fun ops=>oM rfl<|oR (Gc rfl)<|oR (An rfl rfl rfl)<|Ad<|n_K ?_
 refine Ae rfl (fun c7=> ?_) (fun c7=> ?_)
 ·skip
  have hok:s.list.length≠44:=(by simp at c7;omega)
  refine Ag<|Aa fun ops=> ?_
  refine oR (Am rfl mM (by first | exact J1 | rfl)) ?_
  first | refine Ac rfl rfl uD (My) (Bu) (Rq (by first | exact Bu | exact A1y ..)) ?_ | refine Ac rfl rfl uD rfl rfl rfl ?_
  refine oA rfl<|Ad<|n_K<|D3<|r_K ?_
  exact A9 (Cu Tryz.results149 (Bc rfl mM (by first | exact J1 | rfl)) (Af rfl)) (by exact .inl ⟨hok,rfl,rfl⟩) sP
 ·skip
  have hok:s.list.length=44:=(by have:=c7;simp at this;omega)
  have hsm:s.list.length≤70000000000000:=(by omega)
  refine Bd<|n_K<|Ag<|Aa fun ops=>oM rfl ?_
  refine Ci rfl (Fk (s:=s) (T:=T) hsm) sP rfl fun v10 Y10 h10=> ?_
  obtain ⟨r,rfl,rfl,hr1,hr2⟩:=h10
  refine A5 aQ ?_
  refine oA rfl<|Ad<|n_K<|Ag<|Aa fun ops=>oM rfl ?_
  refine Ci rfl (Fl (r:=r) (n:=8) (by rw [hr1];exact hsm)) sP rfl fun v12 Y12 h12=> ?_
  obtain ⟨x1,sl1,bad1,rfl,rfl,hx1,hl1,hb1⟩:=h12
  rw [hr1,show A8 8 8=8 from rfl] at hx1 hl1
  unfold C2 at hx1 hl1
  rw [if_neg (by omega)] at hx1 hl1
  simp only at hx1 hl1
  refine A5 aQ ?_
  refine oF rfl ?_
  refine Ac (cs':=cmC ⟨x1,lv0,0⟩) rfl rfl uD rfl rfl rfl ?_
  refine Ad<|n_K<|Ag<|Aa fun ops=>oM rfl ?_
  refine Ci rfl (Fl (r:=⟨r.b,sl1,bad1⟩) (n:=4) (by simp only;rw [hl1,A3w];omega)) sP rfl fun v15 Y15 h15=> ?_
  obtain ⟨x2,sl2,bad2,rfl,rfl,hx2,hl2,hb2⟩:=h15
  simp only at hx2 hl2
  rw [hl1,show A8 4 8=4 from rfl] at hx2 hl2
  unfold C2 at hx2 hl2
  rw [if_neg (by rw [A3w];omega)] at hx2 hl2
  simp only [A4s] at hx2 hl2
  refine A5 aQ ?_
  refine oR (show Rd _ _ _ _ (uv (x2.setWidth 32)) from by (unfold uv;rw [← Apl];exact D9 rfl)) ?_
  refine oF rfl ?_
  refine Ac (cs':=cmC ⟨x1,lv0,x2.setWidth 32⟩) rfl rfl uD rfl rfl (by kernel_rfl) ?_
  refine Ad<|n_K<|Ag ?_
  refine D7 [] [(6,[(0,false),(1,false),(2,false),(3,false),(4,true),(5,true)]),(7,[(6,true)])] (by kernel_rfl) rfl fun ops w0 H0 y=> ?_
  refine Dx<|xF rfl ?_
  refine xR (C0 (b:=b2) (o:=1) (sz:=1) (i:=0) (j:=32) (l:=32) rfl rfl rfl (by omega)) ?_
  refine xM rfl<|xM rfl<|B1 ?_
  refine Jv rfl (Tp (r:=⟨r.b,sl2,bad2⟩)) sP rfl aQ ?_
  refine Ad ⟨rfl,⟨_,sP⟩,?_⟩
  refine B1 ?_
  refine Ci rfl (Kq (r:=⟨r.b,sl2,bad2⟩) (n:=(sl2.list.length:Nat)) (by simp only;rw [hl2,A3w];omega)) sP rfl fun v23 Y23 h23=> ?_
  obtain ⟨bb,sl3,bad3,rfl,rfl,hbo,hbl,hl3,hb3⟩:=h23
  simp only at hbl
  rw [show (max ((sl2.list.length:Nat):Int) 0).toNat=sl2.list.length by omega] at hbl
  unfold C4 at hbl
  rw [if_neg (by omega),hl2] at hbl
  simp only [A30] at hbl
  have hb32:bb.list.length=32:=(by rw [hbl,A3w];omega)
  refine A5 aQ ?_
  refine Ad ⟨rfl,⟨_,sP⟩,?_⟩
  refine As<|Dx<|B1 ?_
  refine Hg (cs':=cmC ⟨x1,Aal bb.list,x2.setWidth 32⟩) rfl rfl (Lb (s:=bb) (T:=tU8) pL) (by omega) uD (by rw [At9 hb32];exact Rr _ _) (Gv _) rfl ?_
  refine Ad ⟨rfl,⟨_,sP⟩,?_⟩
  refine As<|Eh<|n_K<|Ag<|Aa fun ops=> ?_
  refine oR (Am rfl mM (by first | exact J1 | rfl)) ?_
  first | refine Ac rfl rfl uD (My) (Bu) (Rq (by first | exact Bu | exact A1y ..)) ?_ | refine Ac rfl rfl uD rfl rfl rfl ?_
  refine oA rfl<|Ad<|n_K<|D3 ?_
  exact A9 (Cu Tryz.results149 (Bc rfl mM (by first | exact J1 | rfl)) (Af rfl)) (by exact .inr ⟨hok,(by have e:(⟨x1,Aal bb.list,x2.setWidth 32⟩:Cm)=Apj s.list:=(by unfold Apj;rw [hx1,hx2,hbl]);rw [e]),rfl⟩) sP
end
section
open Go.K
instance agg31:Agg Tryz.prog 31 true:=⟨⟨_,Tryz.underlying31,rfl⟩⟩
instance siz31:Siz Tryz.prog 31 3:=⟨by kernel_rfl⟩
instance und62:Und Tryz.prog 62 (.map 3 124):=⟨Tryz.underlying62⟩
instance agg62:Agg Tryz.prog 62 false:=⟨⟨_,Tryz.underlying62,rfl⟩⟩
instance siz62:Siz Tryz.prog 62 1:=⟨by kernel_rfl⟩
instance agg124:Agg Tryz.prog 124 true:=⟨⟨_,Tryz.underlying124,rfl⟩⟩
instance siz124:Siz Tryz.prog 124 3:=⟨by kernel_rfl⟩
instance und283:Und Tryz.prog 283 (.array 2 62):=⟨Tryz.underlying283⟩
instance zer124:Zer Tryz.prog 124 ([.int .i64 0,.int .i64 0,.int .u64 0]):=⟨by kernel_rfl⟩
instance zer283:Zer Tryz.prog 283 ([.map none,.map none]):=⟨by kernel_rfl⟩
instance fld31_0:Fld Tryz.prog 31 0 0:=⟨⟨_,_,0,Tryz.underlying31,rfl,by kernel_rfl,rfl⟩⟩
instance fld67_1:Fld Tryz.prog 67 1 1:=⟨⟨_,_,0,Tryz.underlying67,rfl,by kernel_rfl,rfl⟩⟩
instance fld67_2:Fld Tryz.prog 67 2 2:=⟨⟨_,_,0,Tryz.underlying67,rfl,by kernel_rfl,rfl⟩⟩
instance fld67_4:Fld Tryz.prog 67 4 4:=⟨⟨_,_,33,Tryz.underlying67,rfl,by kernel_rfl,rfl⟩⟩
instance fld67_5:Fld Tryz.prog 67 5 38:=⟨⟨_,_,1,Tryz.underlying67,rfl,by kernel_rfl,rfl⟩⟩
instance fld67_7:Fld Tryz.prog 67 7 43:=⟨⟨_,_,1,Tryz.underlying67,rfl,by kernel_rfl,rfl⟩⟩
instance fld67_8:Fld Tryz.prog 67 8 45:=⟨⟨_,_,0,Tryz.underlying67,rfl,by kernel_rfl,rfl⟩⟩
instance fld124_0:Fld Tryz.prog 124 0 0:=⟨⟨_,_,1,Tryz.underlying124,rfl,by kernel_rfl,rfl⟩⟩
instance flat65:Flat Tryz.prog 65 ([some .i64,some .i64]):=⟨by kernel_rfl,by kernel_rfl,⟨_,Tryz.underlying65,rfl⟩⟩
instance ent162:Ent Tryz.prog 162:=⟨fun _ _=>by kernel_rfl⟩
instance ent207:Ent Tryz.prog 207:=⟨fun _ _=>by kernel_rfl⟩
structure Vw where
 num:Wd
 mem:Int
 base:Wd
def vw0:Vw:=⟨0,0,0⟩
def vwC (v:Vw):List Value:=[wv v.num,.int .i64 v.mem,wv v.base]
abbrev tVw:TypeId:=31
def Nz (v:Vw):List By:=B4 8 v.num++(B4 1 (BitVec.ofInt 64 v.mem)++(B4 8 v.base++[]))
structure En where
 at':Pl2
 ep:Wd
def Ak7 (e:En):List Value:=[.int .i64 e.at'.1,.int .i64 e.at'.2,wv e.ep]
instance:Mv En:=⟨fun e=> .agg (Ak7 e).toArray⟩
def Azv:En:=⟨(0,0),0⟩
abbrev tSt:TypeId:=67
structure Sto where
 st:Nat
 lg:Nat
 ib:Nat
 pb:Nat
 sb:Nat
 last:Cm
 la:Pl2
 vw:Vw
 va:Pl2
 viewed:Bool
 seen:Wd
 hurt:Bool
 idx:Mp En
 pend:Mp En
 stray:Mp Int
def stT (S:Sto):List Value:=[.int .i64 S.la.1,.int .i64 S.la.2,wv S.vw.num,.int .i64 S.vw.mem,wv S.vw.base,.int .i64 S.va.1,.int .i64 S.va.2,.bool S.viewed,wv S.seen,.bool S.hurt]
def stC (S:Sto):List Value:=ptr S.lg:: .map (some S.ib):: .map (some S.pb):: .map (some S.sb)::(cmC S.last++stT S)
theorem Tr (S:Sto):(stC S).length=48:=by
 show (cmC S.last++stT S).length+1+1+1+1=48
 rw [A2x,Bu];rfl
theorem J2 {S:Sto} {o:Nat} {v:Value} (h:nth (stT S) o=some v):nth (stC S) (o+38)=some v:=by
 rw [Dp] at h ⊢
 show (ptr S.lg:: .map (some S.ib):: .map (some S.pb):: .map (some S.sb)::(cmC S.last++stT S))[o+34+4]? =_
 simp only [A1h]
 rw [A01 (by rw [Bu];omega),Bu,Nat.add_sub_cancel]
 exact h
theorem Aam {S:Sto} {o m:Nat} {cs:List Value} (h:cut (stT S) o m=some cs):cut (stC S) (o+38) m=some cs:=by
 obtain ⟨h1,h2⟩:=cut_iff.1 h
 refine cut_iff.2 ⟨?_,by rw [Tr];have:(stT S).length=10:=rfl;omega⟩
 rw [h1]
 congr 1
 show (stT S).drop o=(ptr S.lg:: .map (some S.ib):: .map (some S.pb):: .map (some S.sb)::(cmC S.last++stT S)).drop (o+34+4)
 simp only [A2i]
 have h9:(cmC S.last).drop (o+34)=[]:=A1n (by rw [Bu];omega)
 rw [List.drop_append,h9,Bu,Nat.add_sub_cancel]
 rfl
theorem Azw (S:Sto):cut (stC S) 4 34=some (cmC S.last):=by
 refine cut_iff.2 ⟨?_,by rw [Tr];decide⟩
 show _=(cmC S.last++stT S).take 34
 rw [A4k Bu]
theorem Apn (S:Sto):cut (stC S) 5 32=some (vbc S.last.lv):=by
 refine cut_iff.2 ⟨?_,by rw [Tr];decide⟩
 show _=(vbc S.last.lv++[uv S.last.sum]++stT S).take 32
 rw [A25,A4k Ai]
def stA (S:Sto):List Value:=[ptr S.lg,.map (some S.ib),.map (some S.pb),.map (some S.sb)]++cmC S.last
theorem Aub (S:Sto):(stA S).length=38:=by
 unfold stA
 rw [A2x,Bu];rfl
theorem Dq {S S':Sto} {o:Nat} {new:List Value} (h:Ba (stT S) o new=some (stT S')) (h1:stA S'=stA S):Ba (stC S) (o+38) new=some (stC S'):=by
 have e:∀ S,stC S=stA S++stT S:=fun S=>rfl
 have:=Fh (a:=stA S) h
 rw [Aub,A5d] at this
 rw [e,e,h1]
 exact this
theorem Mz (S:Sto) (c:Cm):Ba (stC S) 4 (cmC c)=some (stC { S with last:=c }):=by
 refine Ew ?_ (by rw [Tr,Bu];decide)
 rw [Bu]
 show ptr S.lg:: .map (some S.ib):: .map (some S.pb):: .map (some S.sb)::(cmC c++stT S)=[ptr S.lg,.map (some S.ib),.map (some S.pb),.map (some S.sb)]++cmC c++(cmC S.last++stT S).drop 34
 rw [A39 Bu]
 simp
def stH (S:Sto):Hp:=(S.st,true,C (stC S) tSt)::(S.ib,true,S.idx.obj .i64)::(S.pb,true,S.pend.obj .i64)::(S.sb,true,S.stray.obj .i64)::[]
def plB (x y:Pl2):Bool:=decide (x.1=y.1) && decide (x.2=y.2)
theorem plB_iff {x y:Pl2}:plB x y=true↔x=y:=by
 unfold plB
 simp [Prod.ext_iff]
theorem Vp (x y:Pl2):Bg [some .i64,some .i64] [.int .i64 x.1,.int .i64 x.2] [.int .i64 y.1,.int .i64 y.2]=some (plB x y):=by
 unfold plB
 simp [Bg,Kd]
 try rfl
theorem Agk {e:En} {b:Nat} {x:Pl2}:Does Tryz.prog 207 [.agg (Ak7 e).toArray,ptr b] [(b,true,C [.int .i64 x.1,.int .i64 x.2] tPc)] (Is (.bool (plB e.at' x)) [(b,true,C [.int .i64 x.1,.int .i64 x.2] tPc)]):=by
 refine zF 8 Tryz.func207 ?_
 refine zC ?_
 refine Dj rfl rfl (fun b2=> ?_)
 iterate 8 refine sb ?_
 refine Ah (Ll rfl rfl (Vp e.at' x)) rfl ?_
 refine zC ?_
 exact zS
def Qa (S:Sto) (x:Pl2):Bool:=(decide ((S.last.ep.toNat:Int)>0) && plB x S.la) || (S.viewed && plB x S.va)
def Fm (m:Mp En) (x:Pl2):Bool:=m.es.any fun e=>plB e.v.at' x
def mb (S:Sto) (i:Nat):Nat:=if i=0 then S.ib else S.pb
def mm (S:Sto) (i:Nat):Mp En:=if i=0 then S.idx else S.pend
theorem Agl {S:Sto} {i:Nat} (hi:i<2) {H:Hp} (h1:(S.ib,true,S.idx.obj .i64)∈H) (h2:(S.pb,true,S.pend.obj .i64)∈H):(mb S i,true,(mm S i).obj .i64)∈H:=by
 have:i=0∨i=1:=by omega
 rcases this with rfl | rfl
 ·exact h1
 ·exact h2
theorem Agm {m:Mp En} {x:Pl2} (h:∀ e∈m.es,plB e.v.at' x=false):Fm m x=false:=by
 unfold Fm
 rw [List.any_eq_false]
 intro e he
 rw [h e he];decide
theorem Ady {m:Mp En} {x:Pl2} {e:Me En} (he:e∈m.es) (h:plB e.v.at' x=true):Fm m x=true:=A3p.2 ⟨e,he,h⟩
theorem Rs {S:Sto} {x:Pl2}:Does Tryz.prog 162 [ptr S.st,.agg #[.int .i64 x.1,.int .i64 x.2]] ((S.st,true,C (stC S) tSt)::(S.ib,true,S.idx.obj .i64)::(S.pb,true,S.pend.obj .i64)::[])
  (Is (.bool (Qa S x || Fm S.idx x || Fm S.pend x)) ((S.st,true,C (stC S) tSt)::(S.ib,true,S.idx.obj .i64)::(S.pb,true,S.pend.obj .i64)::[])):=by
 refine zF 61 Tryz.func162 ?_
 refine zC ?_
 refine Dj rfl rfl (fun b3=> ?_)
 refine zC ?_
 refine Ah (Pm rfl) rfl ?_
 refine zC ?_
 refine A0 [(28,[(0,false),(1,false),(2,false),(3,false),(4,false),(5,false),(6,false),(7,false),(8,false),(9,false),(10,false),(11,false),(12,false),(13,false),(14,false),(15,false),(16,false),(17,false),(18,false),(19,false),(20,false),(21,false),(22,false),(23,false),(24,false),(25,false),(26,false),(27,false)])] (by kernel_rfl) ?_
 iterate 8 refine sb ?_
 refine' Jz rfl rfl inferInstance rfl rfl rfl rfl rfl (fun hg17=> ?_) ?_
 rotate_left
 ·try (simp at hg17;show _)
  iterate 9 refine sb ?_
  refine Aq (Am rfl mM (Aam rfl)) ?_
  refine zA ?_
  refine Aq (Ll rfl rfl (Vp x S.la)) ?_
  exact Hu rfl sP
 refine sa ?_
 refine' Uy rfl rfl inferInstance rfl rfl rfl rfl rfl (fun hg25=> ?_) ?_
 rotate_left
 ·try (simp at hg25;show _)
  refine zA ?_
  refine Aq (Al rfl mM (J2 rfl)) ?_
  iterate 2 refine sa ?_
  refine' Jz rfl rfl inferInstance rfl rfl rfl rfl rfl (fun hg30=> ?_) ?_
  rotate_left
  ·try (simp at hg30;show _)
   iterate 9 refine sb ?_
   refine Aq (Am rfl mM (Aam rfl)) ?_
   refine zA ?_
   refine Aq (Ll rfl rfl (Vp x S.va)) ?_
   exact Hu rfl sP
  exact Hu rfl sP
 refine zC ?_
 refine Ae rfl (fun c38=> ?_) (fun c38=> ?_)
 ·skip
  have hB:Qa S x=true:=c38
  refine zC ?_
  refine Ak (Aw Tryz.results162 (Af rfl)) ?_ sP
  rw [hB];rfl
 ·skip
  have hB:Qa S x=false:=c38
  refine zC ?_
  refine A0 [(10,[(0,false),(1,false),(2,false),(3,false),(4,false),(5,false),(6,false),(7,false),(8,false),(9,false)])] (by kernel_rfl) ?_
  iterate 9 refine sb ?_
  refine Aq (Oh rfl rfl) ?_
  refine zC ?_
  refine At [0,3,5,47] kQ (fun (i:Nat)=>[(48,.int .i64 i)]) (fun i=>(b3,true,C [.int .i64 x.1,.int .i64 x.2] tPc)::(S.st,true,C (stC S) tSt)::(S.ib,true,S.idx.obj .i64)::(S.pb,true,S.pend.obj .i64)::[]) (fun i=>i≤2∧∀ j<i,Fm (mm S j) x=false) (fun i=>2 - i) (0) ⟨A5s _,fun j hj=>by cases hj⟩ kP sP ?_
  rintro i ⟨g0,g1⟩
  refine zC ?_
  refine Ae rfl (fun c49=> ?_) (fun c49=> ?_)
  ·simp only [A3j,A1k] at c49
   have hi:i<2:=(by omega)
   refine zC ?_
   refine Ah (An1 (v:= .map (some (mb S i))) rfl rfl (by omega) (by have:i=0∨i=1:=(by omega);rcases this with rfl | rfl <;> rfl)) rfl ?_
   refine zC ?_
   refine I3 (m:=mm S i) (kd:= .i64) rfl (Agl hi mM mM) rfl (fun it52=> ?_)
   refine zC ?_
   refine At [0,3,5,47,48,52] kQ (fun (seen:List Nat)=>[]) (fun seen=>(it52,true,itO (mb S i) (mm S i).cl seen (mm S i).cl)::(b3,true,C [.int .i64 x.1,.int .i64 x.2] tPc)::(S.st,true,C (stC S) tSt)::(S.ib,true,S.idx.obj .i64)::(S.pb,true,S.pend.obj .i64)::[]) (fun seen=>∀ e∈(mm S i).es,e.n∈seen→plB e.v.at' x=false) (fun seen=>If (mm S i) seen) ([]) (fun e _ h=>by cases h) kP sP ?_
   rintro seen hs
   refine zC ?_
   refine Lf rfl (by repeat (first | exact Pick.here | apply Pick.there | apply Pick.app)) (Agl hi mM mM) (Mp.wc _) (A5q _) rfl (fun hl53=> ?_) (fun e53 he53 hn53=> ?_)
   ·refine zC ?_
    refine Ay rfl ?_
    refine zC ?_
    exact ⟨i+1,⟨by omega,fun j hj=>by by_cases h:j=i;(subst h;exact Agm fun e he=>hs e he (Ip hl53 e he));exact g1 j (by omega)⟩,(by omega),lZ⟩
   ·refine zC ?_
    refine Gb rfl ?_
    refine zC ?_
    refine Ah (I4 rfl mM (Agl hi mM mM) he53) rfl ?_
    refine zC ?_
    refine Aj rfl (fun b9=> ?_)
    refine zC ?_
    refine Xc (fi:=[]) (ca:=[ptr b3]) rfl rfl (Agk (e:=e53.v) (b:=b3) (x:=x)) sP rfl aQ ?_
    refine zC ?_
    refine Ae rfl (fun c59=> ?_) (fun c59=> ?_)
    ·skip
     have hM:=Ady he53 c59
     refine zC ?_
     refine Ak (Aw Tryz.results162 (Af rfl)) ?_ sP
     have hc:Fm S.idx x=true∨Fm S.pend x=true:=(by have:i=0∨i=1:=(by omega);rcases this with rfl | rfl;exact .inl hM;exact .inr hM);rcases hc with h | h <;> rw [h] <;> simp
    ·skip
     refine zC ?_
     exact ⟨seen++[e53.n],(fun e he h=>by rcases A4f.1 h with h | h;exact hs e he h;(have:=A2z.1 h;rw [Mp.n_inj he he53 this];exact c59)),(C5 he53 hn53),lZ⟩
  ·simp only [A3j,A1k] at c49
   have hi:i=2:=(by omega)
   subst hi
   refine zC ?_
   refine Ak (Aw Tryz.results162 (Af rfl)) ?_ sP
   rw [hB,show Fm S.idx x=false from g1 0 (by omega),show Fm S.pend x=false from g1 1 (by omega)];rfl
end
section
open Go.K
instance fld124_1:Fld Tryz.prog 124 1 2:=⟨⟨_,_,0,Tryz.underlying124,rfl,by kernel_rfl,rfl⟩⟩
instance plc124:Plc Tryz.prog 124 [(0,2),(2,1)]:=⟨⟨_,Tryz.underlying124,fun _=>by kernel_rfl⟩⟩
instance ent164:Ent Tryz.prog 164:=⟨fun _ _=>by kernel_rfl⟩
def mvE (f t:Pl2) (e:En):En:=if plB e.at' f=true then ⟨t,e.ep⟩ else e
def Aan (S:Sto) (f t:Pl2):Sto:={ S with la:=if (decide ((S.last.ep.toNat:Int)>0) && plB S.la f)=true then t else S.la }
def Aao (S:Sto) (f t:Pl2):Sto:={ S with va:=if (S.viewed && plB S.va f)=true then t else S.va }
def C9 (S:Sto) (f t:Pl2):Sto:={ Aao (Aan S f t) f t with idx:=S.idx.mapV (mvE f t),pend:=S.pend.mapV (mvE f t) }
def sel (i:Nat) (X Y:Mp En):Mp En:=if i=0 then X else Y
def pX (i:Nat) (m X:Mp En):Mp En:=if i=0 then m else X
def pY (i:Nat) (m Y:Mp En):Mp En:=if i=0 then Y else m
theorem Aap {S:Sto} {i:Nat} {X Y:Mp En} (hi:i<2) {H:Hp} (h1:(S.ib,true,X.obj .i64)∈H) (h2:(S.pb,true,Y.obj .i64)∈H):(mb S i,true,(sel i X Y).obj .i64)∈H:=by
 have:i=0∨i=1:=by omega
 rcases this with rfl | rfl
 ·exact h1
 ·exact h2
theorem Adz {b:Nat} {o:Obj} {H K:Hp} (h:Upd b o o H K):K=H:=by
 generalize e:o=o' at h
 induction h with
 | here=>subst e;rfl
 | there _ ih=>rw [ih]
theorem Auc {S:Sto} {i:Nat} {X Y m:Mp En} (hi:i<2) {H K G:Hp} (h1:Upd S.ib (X.obj .i64) ((pX i m X).obj .i64) H K) (h2:Upd S.pb (Y.obj .i64) ((pY i m Y).obj .i64) K G):Upd (mb S i) ((sel i X Y).obj .i64) (m.obj .i64) H G:=by
 have:i=0∨i=1:=by omega
 rcases this with rfl | rfl
 ·have:=Adz h2
  subst this
  exact h1
 ·have:=Adz h1
  subst this
  exact h2
theorem Ain {f t:Pl2} {e:En} (h:plB e.at' f=true):mvE f t e=⟨t,e.ep⟩:=if_pos h
theorem Apo {f t:Pl2} {e:En} (h:plB e.at' f=false):mvE f t e=e:=if_neg (by rw [h];decide)
def MvI (S:Sto) (g:En→En) (i:Nat) (X Y:Mp En):Prop:=X=(if 0<i then S.idx.mapV g else S.idx)∧Y=if 1<i then S.pend.mapV g else S.pend
def MvJ (S:Sto) (g:En→En) (i:Nat) (seen:List Nat) (X Y:Mp En):Prop:=(i=0→X=S.idx.upS g seen∧Y=S.pend)∧(i=1→X=S.idx.mapV g∧Y=S.pend.upS g seen)
theorem MvJ.sel {S:Sto} {g:En→En} {i:Nat} {seen:List Nat} {X Y:Mp En} (h:MvJ S g i seen X Y) (hi:i<2):sel i X Y=(mm S i).upS g seen:=by
 have:i=0∨i=1:=by omega
 rcases this with rfl | rfl
 ·exact (h.1 rfl).1
 ·exact (h.2 rfl).2
theorem MvI.start {S:Sto} {g:En→En} {i:Nat} {X Y:Mp En} (h:MvI S g i X Y) (hi:i<2):MvJ S g i [] X Y:=by
 obtain ⟨rfl,rfl⟩:=h
 refine ⟨fun e=> ?_,fun e=> ?_⟩ <;> subst e <;> refine ⟨?_,?_⟩
 ·rw [Mp.upS_nil];rfl
 ·rfl
 ·rfl
 ·rw [Mp.upS_nil];rfl
theorem MvJ.done {S:Sto} {g:En→En} {i:Nat} {seen:List Nat} {X Y:Mp En} (h:MvJ S g i seen X Y) (hi:i<2) (hl:G5 (Go.Proofs.YtpmojdippdlcaaaGreatDoor.sel i X Y) seen=[]):MvI S g (i+1) X Y:=by
 rw [h.sel hi] at hl
 have ha:=Mp.upS_all (f:=g) (Mp.upS_left hl)
 have:i=0∨i=1:=by omega
 rcases this with rfl | rfl
 ·obtain ⟨rfl,rfl⟩:=h.1 rfl
  exact ⟨ha,rfl⟩
 ·obtain ⟨rfl,rfl⟩:=h.2 rfl
  exact ⟨rfl,ha⟩
theorem MvJ.put {S:Sto} {g:En→En} {i:Nat} {seen:List Nat} {X Y:Mp En} {e:Me En} {v:En} (h:MvJ S g i seen X Y) (hi:i<2) (he:e∈(Go.Proofs.YtpmojdippdlcaaaGreatDoor.sel i X Y).es) (hn:e.n∉seen) (hv:v=g e.v) :
  MvJ S g i (seen++[e.n]) (pX i ((Go.Proofs.YtpmojdippdlcaaaGreatDoor.sel i X Y).put e.k v) X) (pY i ((Go.Proofs.YtpmojdippdlcaaaGreatDoor.sel i X Y).put e.k v) Y):=by
 have hs:=h.sel hi
 rw [hs] at he
 have he':=Mp.upS_mem he hn
 have hp:(Go.Proofs.YtpmojdippdlcaaaGreatDoor.sel i X Y).put e.k v=(mm S i).upS g (seen++[e.n]):=by
  rw [hs,hv];exact Mp.upS_put he' hn
 rw [hp]
 have:i=0∨i=1:=by omega
 rcases this with rfl | rfl
 ·exact ⟨fun _=>⟨rfl,(h.1 rfl).2⟩,fun e=>(nomatch e)⟩
 ·exact ⟨fun e=>(nomatch e),fun _=>⟨(h.2 rfl).1,rfl⟩⟩
theorem MvJ.skip {S:Sto} {g:En→En} {i:Nat} {seen:List Nat} {X Y:Mp En} {e:Me En} (h:MvJ S g i seen X Y) (hi:i<2) (he:e∈(Go.Proofs.YtpmojdippdlcaaaGreatDoor.sel i X Y).es) (hn:e.n∉seen) (hv:g e.v=e.v):MvJ S g i (seen++[e.n]) X Y:=by
 have hs:=h.sel hi
 rw [hs] at he
 have he':=Mp.upS_mem he hn
 have hk:=Mp.upS_skip (seen:=seen) he' hv
 have:i=0∨i=1:=by omega
 rcases this with rfl | rfl
 ·obtain ⟨rfl,rfl⟩:=h.1 rfl
  exact ⟨fun _=>⟨hk.symm,rfl⟩,fun e=>(nomatch e)⟩
 ·obtain ⟨rfl,rfl⟩:=h.2 rfl
  exact ⟨fun e=>(nomatch e),fun _=>⟨rfl,hk.symm⟩⟩
theorem MvJ.mem {S:Sto} {g:En→En} {i:Nat} {seen:List Nat} {X Y:Mp En} {e:Me En} (h:MvJ S g i seen X Y) (hi:i<2) (he:e∈(Go.Proofs.YtpmojdippdlcaaaGreatDoor.sel i X Y).es) (hn:e.n∉seen):e∈(mm S i).es:=by
 rw [h.sel hi] at he
 exact Mp.upS_mem he hn
theorem MvJ.cl {S:Sto} {g:En→En} {i:Nat} {seen:List Nat} {X Y:Mp En} (h:MvJ S g i seen X Y) (hi:i<2):(Go.Proofs.YtpmojdippdlcaaaGreatDoor.sel i X Y).cl=(mm S i).cl:=by rw [h.sel hi];rfl
theorem App {S:Sto} {f t:Pl2} {S2:Sto} (hS2:S2=C9 S f t):Does Tryz.prog 164 [ptr S.st,.agg #[.int .i64 f.1,.int .i64 f.2],.agg #[.int .i64 t.1,.int .i64 t.2]] ((S.st,true,C (stC S) tSt)::(S.ib,true,S.idx.obj .i64)::(S.pb,true,S.pend.obj .i64)::[])
  (Is (.tuple #[]) ((S2.st,true,C (stC S2) tSt)::(S2.ib,true,S2.idx.obj .i64)::(S2.pb,true,S2.pend.obj .i64)::[])):=by
 obtain ⟨S1,hS1⟩:∃ S1,S1=Aan S f t:=⟨_,rfl⟩
 obtain ⟨S0,hS0⟩:∃ S0,S0=Aao S1 f t:=⟨_,rfl⟩
 refine Dw (n:=74) Tryz.func164 Tryz.ntmps164 rfl (A13 rfl)<|Ag<|Aa fun ops=> ?_
 refine Dj rfl rfl fun b4=> ?_
 refine Dj rfl rfl fun b5=> ?_
 refine Ad<|n_K ?_
 refine Q8 (fun F L=>F=[(0,ptr S.st),(4,ptr b4),(5,ptr b5)]∧L=(b5,true,C [.int .i64 t.1,.int .i64 t.2] tPc)::(b4,true,C [.int .i64 f.1,.int .i64 f.2] tPc)::(S1.st,true,C (stC S1) tSt)::(S1.ib,true,S1.idx.obj .i64)::(S1.pb,true,S1.pend.obj .i64)::[]) ?_ ?_
 ·refine Ag ?_
  refine D7 [(6,16)] [(14,[(0,false),(1,false),(2,false),(3,false),(4,false),(5,false),(6,false),(7,false),(8,false),(9,false),(10,false),(11,false),(12,false),(13,false)])] (by kernel_rfl) rfl fun ops w0 H0 y=> ?_
  refine Ce<|xM rfl<|xN rfl<|xF rfl<|xF rfl ?_
  refine xR (Al rfl mM rfl) ?_
  refine xR (An rfl rfl rfl)<|xM rfl ?_
  refine' U2 (j:=6) (k:=6) y rfl rfl rfl rfl rfl rfl rfl (fun hg16=> ?_) ?_
  rotate_left
  ·try (simp at hg16;show _)
   refine x_g y rfl rfl ?_
   refine xM rfl ?_
   refine x_g y rfl rfl ?_
   refine xN rfl ?_
   refine x_g y rfl rfl ?_
   refine xF rfl ?_
   refine x_g y rfl rfl ?_
   refine xR (Am rfl mM (Aam rfl)) ?_
   refine x_g y rfl rfl ?_
   refine xR (Am rfl mM rfl) ?_
   refine x_g y rfl rfl ?_
   refine xR (Ll rfl rfl (Vp S.la f)) ?_
   exact As ⟨rfl,⟨_,sP⟩⟩
  refine As<|Eh<|n_K ?_
  refine Ae rfl (fun c23=> ?_) (fun c23=> ?_)
  ·skip
   have e1:S1={ S with la:=t }:=(by rw [hS1];unfold Aan;rw [if_pos c23])
   subst e1
   refine Aa fun ops=>oM rfl ?_
   refine oR (Am rfl mM rfl) ?_
   refine oN rfl<|oF rfl ?_
   refine Ac (cs':=stC { S with la:=t }) rfl rfl uD rfl rfl (Dq (S:=S) rfl rfl) ?_
   refine Ad<|n_K ?_
   exact ⟨_,_,⟨rfl,rfl⟩,jZ⟩
  ·skip
   have e1:S1=S:=(by rw [hS1];unfold Aan;rw [if_neg (by rw [c23];decide)])
   subst e1
   refine Bd<|n_K ?_
   exact ⟨_,_,⟨rfl,rfl⟩,jZ⟩
 ·rintro F L ⟨rfl,rfl⟩
  have est:S1.st=S.st:=(by rw [hS1];rfl)
  rw [← est]
  refine Q8 (fun F L=>F=[(0,ptr S1.st),(4,ptr b4),(5,ptr b5)]∧L=(b5,true,C [.int .i64 t.1,.int .i64 t.2] tPc)::(b4,true,C [.int .i64 f.1,.int .i64 f.2] tPc)::(S0.st,true,C (stC S0) tSt)::(S0.ib,true,S0.idx.obj .i64)::(S0.pb,true,S0.pend.obj .i64)::[]) ?_ ?_
  ·refine Ag ?_
   refine D7 [(4,32)] [(12,[(0,false),(1,false),(2,false),(3,false),(4,false),(5,false),(6,false),(7,false),(8,false),(9,false),(10,false),(11,false)])] (by kernel_rfl) rfl fun ops w0 H0 y=> ?_
   refine Ce<|xM rfl<|xN rfl<|xF rfl ?_
   refine xR (Al rfl mM (J2 rfl)) ?_
   refine xM rfl ?_
   refine' U2 (j:=4) (k:=6) y rfl rfl rfl rfl rfl rfl rfl (fun hg32=> ?_) ?_
   rotate_left
   ·try (simp at hg32;show _)
    refine x_g y rfl rfl ?_
    refine xM rfl ?_
    refine x_g y rfl rfl ?_
    refine xN rfl ?_
    refine x_g y rfl rfl ?_
    refine xF rfl ?_
    refine x_g y rfl rfl ?_
    refine xR (Am rfl mM (Aam rfl)) ?_
    refine x_g y rfl rfl ?_
    refine xR (Am rfl mM rfl) ?_
    refine x_g y rfl rfl ?_
    refine xR (Ll rfl rfl (Vp S1.va f)) ?_
    exact As ⟨rfl,⟨_,sP⟩⟩
   refine As<|Eh<|n_K ?_
   refine Ae rfl (fun c39=> ?_) (fun c39=> ?_)
   ·skip
    have e1:S0={ S1 with va:=t }:=(by rw [hS0];unfold Aao;rw [if_pos c39])
    subst e1
    refine Aa fun ops=>oM rfl ?_
    refine oR (Am rfl mM rfl) ?_
    refine oN rfl<|oF rfl ?_
    refine Ac (cs':=stC { S1 with va:=t }) rfl rfl uD rfl rfl (Dq (S:=S1) rfl rfl) ?_
    refine Ad<|n_K ?_
    exact ⟨_,_,⟨rfl,rfl⟩,jZ⟩
   ·skip
    have e1:S0=S1:=(by rw [hS0];unfold Aao;rw [if_neg (by rw [c39];decide)])
    subst e1
    refine Bd<|n_K ?_
    exact ⟨_,_,⟨rfl,rfl⟩,jZ⟩
  ·rintro F L ⟨rfl,rfl⟩
   have est0:S0.st=S1.st:=(by rw [hS0];rfl)
   rw [← est0]
   refine Ag ?_
   refine D7 [] [(10,[(0,false),(1,false),(2,false),(3,false),(4,false),(5,false),(6,false),(7,false),(8,false),(9,false)])] (by kernel_rfl) rfl fun ops w0 H0 y=> ?_
   refine Ce<|xM rfl<|xN rfl<|xF rfl ?_
   refine xR (Al rfl mM rfl) ?_
   refine xM rfl<|xN rfl<|xF rfl ?_
   refine xR (Al rfl mM rfl) ?_
   refine xR (Oh rfl rfl)<|xM rfl<|As<|Eh<|n_K<|Bf ?_
   refine At [4,5,52] kQ (fun (st:Nat×Mp En×Mp En)=>[(53,.int .i64 st.1)]) (fun (st:Nat×Mp En×Mp En)=>(b5,true,C [.int .i64 t.1,.int .i64 t.2] tPc)::(b4,true,C [.int .i64 f.1,.int .i64 f.2] tPc)::(S0.st,true,C (stC S0) tSt)::(S0.ib,true,st.2.1.obj .i64)::(S0.pb,true,st.2.2.obj .i64)::[]) (fun (st:Nat×Mp En×Mp En)=>st.1≤2∧MvI S0 (mvE f t) st.1 st.2.1 st.2.2) (fun (st:Nat×Mp En×Mp En)=>2 - st.1) ((0,S0.idx,S0.pend)) ⟨A5s _,rfl,rfl⟩ kP sP ?_
   rintro ⟨i,X,Y⟩ ⟨g0,gI⟩
   simp only at g0 gI
   refine Ag<|Aa fun ops=>oR (An rfl rfl rfl)<|Ad<|n_K<|Ag ?_
   refine Ae rfl (fun c54=> ?_) (fun c54=> ?_)
   ·simp only [A3j,A1k] at c54
    have hi:i<2:=(by omega)
    have hJ0:=gI.start hi
    have hcl0:=hJ0.cl hi
    refine Bd<|n_K<|Ag<|Bf<|Ag<|Aa fun ops=> ?_
    refine oR (An1 (v:= .map (some (mb S0 i))) rfl rfl (by omega) (by have:i=0∨i=1:=(by omega);rcases this with rfl | rfl <;> rfl)) ?_
    refine oA rfl<|Ad<|n_K<|Ag<|Aa fun ops=>oM rfl ?_
    refine I3 (m:=sel i X Y) (kd:= .i64) rfl (Aap hi mM mM) rfl fun it57=> ?_
    refine Ad<|n_K<|Bf ?_
    refine At [4,5,7,52,53,57] kQ (fun (st:List Nat×Mp En×Mp En)=>[]) (fun (st:List Nat×Mp En×Mp En)=>(it57,true,itO (mb S0 i) (mm S0 i).cl st.1 (mm S0 i).cl)::(b5,true,C [.int .i64 t.1,.int .i64 t.2] tPc)::(b4,true,C [.int .i64 f.1,.int .i64 f.2] tPc)::(S0.st,true,C (stC S0) tSt)::(S0.ib,true,st.2.1.obj .i64)::(S0.pb,true,st.2.2.obj .i64)::[]) (fun (st:List Nat×Mp En×Mp En)=>MvJ S0 (mvE f t) i st.1 st.2.1 st.2.2) (fun (st:List Nat×Mp En×Mp En)=>If (mm S0 i) st.1) (([],X,Y)) hJ0 kP (by rw [hcl0];exact sP) ?_
    rintro ⟨seen,X,Y⟩ gJ
    simp only at gJ
    have hcl:=gJ.cl hi
    refine Ag<|Aa fun ops=> ?_
    refine Lf rfl (by repeat (first | exact Pick.here | apply Pick.there | apply Pick.app)) (Aap hi mM mM) (by rw [← hcl];exact Mp.wc _) (A5q _) rfl (fun hl58=> ?_) (fun e58 he58 hn58=> ?_)
    ·refine oE rfl rfl<|Ad<|n_K<|Ag ?_
     refine Ay rfl ?_
     refine E9<|x_K<|x_K<|Hv<|Cq<|n_K<|Aa fun ops=> ?_
     refine oR (Bm rfl rfl (by omega)) ?_
     refine oM rfl<|Ad<|n_K ?_
     exact ⟨(i+1,X,Y),⟨by simp only;omega,gJ.done hi hl58⟩,(by simp only;omega),lZ⟩
    ·refine oE rfl rfl<|Ad<|n_K<|Ag ?_
     refine Gb rfl ?_
     refine Bd<|n_K<|Bf<|Ag<|Aa fun ops=> ?_
     refine oR (I4 rfl mM (Aap hi mM mM) he58) ?_
     refine oE rfl rfl<|oE rfl rfl ?_
     refine Aj rfl fun b9=> ?_
     refine oA rfl ?_
     refine Ac rfl rfl uD rfl rfl rfl ?_
     refine Ad<|n_K<|Ag<|Aa fun ops=>oF rfl ?_
     refine oR (Am rfl mM rfl) ?_
     refine oR (Am rfl mM rfl) ?_
     refine oR (Ll rfl rfl (Vp e58.v.at' f)) ?_
     refine Ad<|n_K ?_
     refine Ae rfl (fun c66=> ?_) (fun c66=> ?_)
     ·skip
      refine Aa fun ops=>oM rfl<|oM rfl ?_
      refine oR (Am rfl mM rfl) ?_
      refine oF rfl ?_
      refine oR (Al rfl mM rfl) ?_
      refine oR (Bl rfl rfl) ?_
      refine Xn (m:=sel i X Y) (v:=(⟨t,e58.v.ep⟩:En)) (kd:= .i64) rfl rfl rfl (Auc hi uD uD) ?_
      refine Ad<|Cq<|n_K ?_
      rw [hcl]
      first | exact ⟨(seen++[e58.n],_,_),gJ.put hi he58 hn58 (Ain c66).symm,C5 (gJ.mem hi he58 hn58) hn58,lZ⟩ | exact ⟨(seen++[e58.n],X,Y),gJ.skip hi he58 hn58 (Apo c66),C5 (gJ.mem hi he58 hn58) hn58,lZ⟩
     ·skip
      refine Bd<|Cq<|n_K ?_
      rw [hcl]
      first | exact ⟨(seen++[e58.n],_,_),gJ.put hi he58 hn58 (Ain c66).symm,C5 (gJ.mem hi he58 hn58) hn58,lZ⟩ | exact ⟨(seen++[e58.n],X,Y),gJ.skip hi he58 hn58 (Apo c66),C5 (gJ.mem hi he58 hn58) hn58,lZ⟩
   ·simp only [A3j,A1k] at c54
    have hi:i=2:=(by omega)
    subst hi
    refine E9<|x_K<|x_K<|Hv ?_
    refine Pq (Afe Tryz.results164) ?_ (by obtain ⟨rfl,rfl⟩:=gI;rw [hS2,show C9 S f t={ S0 with idx:=S0.idx.mapV (mvE f t),pend:=S0.pend.mapV (mvE f t) } from by rw [hS0,hS1];rfl];exact sP)
    rfl
end
section
open Go.K
instance und269:Und Tryz.prog 269 (.slice 271):=⟨Tryz.underlying269⟩
instance agg271:Agg Tryz.prog 271 true:=⟨⟨_,Tryz.underlying271,rfl⟩⟩
instance siz271:Siz Tryz.prog 271 5:=⟨by kernel_rfl⟩
instance zer271:Zer Tryz.prog 271 ([.int .i64 0,.int .u64 0,.int .u64 0,.slice none 0 0,.int .i64 0]):=⟨by kernel_rfl⟩
instance fld157_0:Fld Tryz.prog 157 0 0:=⟨⟨_,_,0,Tryz.underlying157,rfl,by kernel_rfl,rfl⟩⟩
instance fld157_2:Fld Tryz.prog 157 2 2:=⟨⟨_,_,0,Tryz.underlying157,rfl,by kernel_rfl,rfl⟩⟩
instance fld271_0:Fld Tryz.prog 271 0 0:=⟨⟨_,_,3,Tryz.underlying271,rfl,by kernel_rfl,rfl⟩⟩
instance fld271_1:Fld Tryz.prog 271 1 4:=⟨⟨_,_,0,Tryz.underlying271,rfl,by kernel_rfl,rfl⟩⟩
instance ent65:Ent Tryz.prog 65:=⟨fun _ _=>by kernel_rfl⟩
instance ent193:Ent Tryz.prog 193:=⟨fun _ _=>by kernel_rfl⟩
instance ent220:Ent Tryz.prog 220:=⟨fun _ _=>by kernel_rfl⟩
instance ent221:Ent Tryz.prog 221:=⟨fun _ _=>by kernel_rfl⟩
instance ent237:Ent Tryz.prog 237:=⟨fun _ _=>by kernel_rfl⟩
instance ent238:Ent Tryz.prog 238:=⟨fun _ _=>by kernel_rfl⟩
def Jr (n:Int):Int:=max 0 ((min (max n 0) 1099511627776 - 3)*3 - 2)
theorem Apq {n:Int}:Does Tryz.prog 65 [.int .i64 n] [] (Is (.int .i64 (Jr n)) []):=by
 refine zF 10 Tryz.func65 ?_
 refine zA ?_
 refine Ah (Mm rfl rfl) rfl ?_
 refine Ah (Zv rfl rfl) rfl ?_
 refine sb ?_
 refine Ah (Pk rfl rfl (by omega)) rfl ?_
 refine sb ?_
 refine Ah (Mm rfl rfl) rfl ?_
 refine zC ?_
 exact zS
structure Ldv where
 s:Seg
 c:Int
def ldC (x:Ldv):List Value:=[.int .i64 x.s.b,wv x.s.seq,wv x.s.wear,x.s.recs.val,.int .i64 x.c]
instance:Cel Ldv:=⟨5,ldC,fun _=>rfl,fun _=>rfl⟩
abbrev tLd:TypeId:=271
def ld0:Ldv:=⟨sg0,0⟩
def J3 (xs:List Ldv) (i:Nat):Ldv:=xs.getD i ld0
theorem Qb {xs:List Ldv} {i:Nat} (h1:i<xs.length):xs[i]? =some (J3 xs i):=by
 simp [J3,A00,h1]
def Vq (x y:Int):Int:=if x<y then -1 else if y<x then 1 else 0
theorem Aio {x:Int}:Does Tryz.prog 215 [.int .i64 x] [] (Is (.bool false) []):=by
 refine zF 6 Tryz.func215 ?_
 refine zC ?_
 refine Ak (Aw Tryz.results215 (Af rfl)) ?_ sP
 simp
theorem Sv {x y:Int}:Does Tryz.prog 238 [.int .i64 x,.int .i64 y] [] (Is (.int .i64 (Vq x y)) []):=by
 refine zF 20 Tryz.func238 ?_
 refine zC ?_
 refine zI rfl (Aio) ?_
 refine zC ?_
 refine zI rfl (Aio) ?_
 refine zC ?_
 refine Ay rfl ?_
 refine zC ?_
 refine Ay rfl ?_
 refine zC ?_
 refine Ae rfl (fun c16=> ?_) (fun c16=> ?_)
 ·simp only [A3j,A1k] at c16
  refine zC ?_
  refine Ak (Aw Tryz.results238 (Af rfl)) ?_ sP
  unfold Vq;first | rw [if_pos (by omega)] | rw [if_neg (by omega),if_pos (by omega)] | rw [if_neg (by omega),if_neg (by omega)]
 ·simp only [A3j,A1k] at c16
  refine zC ?_
  refine Ae rfl (fun c19=> ?_) (fun c19=> ?_)
  ·simp only [A3j,A1k] at c19
   refine zC ?_
   refine Ak (Aw Tryz.results238 (Af rfl)) ?_ sP
   unfold Vq;first | rw [if_pos (by omega)] | rw [if_neg (by omega),if_pos (by omega)] | rw [if_neg (by omega),if_neg (by omega)]
  ·simp only [A3j,A1k] at c19
   refine zC ?_
   refine Ak (Aw Tryz.results238 (Af rfl)) ?_ sP
   unfold Vq;first | rw [if_pos (by omega)] | rw [if_neg (by omega),if_pos (by omega)] | rw [if_neg (by omega),if_neg (by omega)]
def orF:List Int→Int
 | []=>0
 | x::xs=>if x=0 then orF xs else x
theorem Apr {xs:List Int} {i:Nat} {x:Int} (h:xs[i]? =some x):orF (xs.drop i)=if x=0 then orF (xs.drop (i+1)) else x:=by
 obtain ⟨h1,rfl⟩:=A08.1 h
 rw [A05 h1]
 rfl
theorem Azx {s:Sl Int} {T:TypeId}:Does Tryz.prog 237 [s.val] (s.hp T++[]) (Is (.int .i64 (orF s.list)) (s.hp T++[])):=by
 have hsm:=s.small
 refine zF 18 Tryz.func237 ?_
 refine zC ?_
 refine At [3,6,7] kQ (fun (i:Nat)=>[(8,.int .i64 i)]) (fun i=>(s.hp T++[])) (fun i=>i≤s.list.length∧orF s.list=orF (s.list.drop i)) (fun i=>s.list.length - i) (0) ⟨A5s _,rfl⟩ kP sP ?_
 rintro i ⟨g0,g1⟩
 refine zC ?_
 refine Ae rfl (fun c9=> ?_) (fun c9=> ?_)
 ·simp only [A3j,A1k] at c9
  obtain ⟨z,hg⟩:∃ z,s.list[i]? =some z:=⟨_,A1d (by omega)⟩
  have hod:=Apr hg
  refine zA ?_
  refine Ah (A7 rfl rfl (by omega)) rfl ?_
  refine Ah (Co (o:=0) rfl pL hg rfl rfl) rfl ?_
  refine zC ?_
  refine Ae rfl (fun c14=> ?_) (fun c14=> ?_)
  ·skip
   have hz:z≠0:=(by simpa using c14)
   refine zC ?_
   refine Ak (Aw Tryz.results237 (Af rfl)) ?_ sP
   rw [g1,hod,if_neg hz]
  ·skip
   have hz:z=0:=(by simpa using c14)
   refine zC ?_
   exact ⟨i+1,⟨by omega,by rw [g1,hod,if_pos hz]⟩,(by omega),lZ⟩
 ·simp only [A3j,A1k] at c9
  have hi:i=s.list.length:=(by omega)
  subst hi
  refine zC ?_
  refine Ak (Aw Tryz.results237 (Af rfl)) ?_ sP
  rw [g1,List.drop_length];rfl
theorem Axz {b:Nat} {x y z:Int}:Does Tryz.prog 237 [.slice (some ⟨b,0,none⟩) 3 3] [(b,true,C [.int .i64 x,.int .i64 y,.int .i64 z] tI)] (Is (.int .i64 (orF [x,y,z])) [(b,true,C [.int .i64 x,.int .i64 y,.int .i64 z] tI)]):=by
 have h:=Azx (s:= .own b [x,y,z] 3 [] ⟨by simp,A5q _,by simp⟩) (T:=tI)
 rw [Sl.hp_own] at h
 exact h
def Vr (x y:Ldv):Bool:=decide (orF [Vq x.c y.c,Am8 x.s.wear.toNat y.s.wear.toNat,Vq x.s.b y.s.b]<0)
theorem Aps {x y:Ldv}:Does Tryz.prog 221 [.agg (ldC x).toArray,.agg (ldC y).toArray] [] (Is (.bool (Vr x y)) []):=by
 refine zF 29 Tryz.func221 ?_
 refine zC ?_
 refine Dj rfl rfl (fun b2=> ?_)
 refine Dj rfl rfl (fun b3=> ?_)
 refine zC ?_
 refine Na [] [(7,(.fork [(0,false),(1,false),(2,false),(3,false)] 4 (.one [(5,true),(6,true)]) 5 (.one [(4,true),(6,true)]))),(8,(.one [(7,true)]))] (by kernel_rfl) rfl (fun ops w0 H0 y=> ?_)
 refine K8 ?_
 refine K9 ?_ rfl
 refine Cr (De rfl) rfl ?_
 refine Cr (Am rfl mM rfl) rfl ?_
 refine Cr (De rfl) rfl ?_
 refine Cr (Am rfl mM rfl) rfl ?_
 refine As ⟨⟨_,sP⟩,?_,?_⟩
 refine B1 ?_
 refine Aj rfl (fun b5=> ?_)
 refine Ad ⟨rfl,⟨_,sP⟩,?_⟩
 refine As ?_
 refine Fy ?_
 refine B1 ?_
 refine Aj rfl (fun b6=> ?_)
 refine Ad ⟨rfl,⟨_,sP⟩,?_⟩
 refine B1 ?_
 refine Ac rfl rfl uD rfl rfl rfl ?_
 refine Ad ⟨rfl,⟨_,sP⟩,?_⟩
 refine As ?_
 rotate_left
 refine B1 ?_
 refine Aj rfl (fun b6=> ?_)
 refine Ad ⟨rfl,⟨_,sP⟩,?_⟩
 refine As ?_
 refine Fy ?_
 refine B1 ?_
 refine Aj rfl (fun b5=> ?_)
 refine Ad ⟨rfl,⟨_,sP⟩,?_⟩
 refine B1 ?_
 refine Ac rfl rfl uD rfl rfl rfl ?_
 refine Ad ⟨rfl,⟨_,sP⟩,?_⟩
 refine As ?_
 rotate_left
 all_goals
  refine Zl ?_
  refine Fy ?_
  refine B1 ?_
  refine Ac rfl rfl uD rfl rfl rfl ?_
  refine Ad ⟨rfl,⟨_,sP⟩,?_⟩
  refine As ?_
  refine Q6 ?_
  refine zC ?_
  refine A0 [(14,[(0,false),(1,false),(2,false),(3,false),(5,false),(6,false),(7,false),(8,false),(10,false),(11,false),(12,false),(13,false),(4,true),(9,true)]),(15,[(14,true)]),(16,[(15,true)]),(17,[(16,true)]),(19,[(17,false),(18,false)])] (by kernel_rfl) ?_
  refine zC ?_
  refine zI rfl (Sv) ?_
  refine zC ?_
  refine zI rfl (Afd) ?_
  refine zC ?_
  refine zI rfl (Sv) ?_
  refine zC ?_
  refine Ao rfl rfl rfl rfl (fun b26=> ?_)
  refine zC ?_
  refine zI rfl (Axz) ?_
  refine zC ?_
  exact zS
def Cx (xs:List Ldv) (but:Int):Nat→Int×Bool
 | 0=>(0,false)
 | i+1=>if (!decide ((i:Int)=but) && (!(Cx xs but i).2 || Vr (J3 xs i) (J3 xs (Cx xs but i).1.toNat)))=true then ((i:Int),true) else Cx xs but i
theorem Ku (xs:List Ldv) (but:Int):∀ i,0≤(Cx xs but i).1∧((Cx xs but i).1<i∨(Cx xs but i).1=0)
 | 0=>⟨A5p _,.inr rfl⟩
 | i+1=>by
  have ih:=Ku xs but i
  unfold Cx
  split
  ·simp only;omega
  ·omega
theorem Apt {s:Sl Ldv} {but:Int} {T:TypeId}:Does Tryz.prog 220 [s.val,.int .i64 but,.func (.func 221) #[] #[]] (s.hp T++[])
  (Is (.tuple #[.int .i64 (Cx s.list but s.list.length).1,.bool (Cx s.list but s.list.length).2]) (s.hp T++[])):=by
 have hsm:=s.small
 refine zF 37 Tryz.func220 ?_
 refine zC ?_
 refine At [0,1,2,10,11] kQ (fun (i:Nat)=>[(12,.int .i64 i),(6,.int .i64 (Cx s.list but i).1),(7,.bool (Cx s.list but i).2)]) (fun i=>(s.hp T++[])) (fun i=>i≤s.list.length) (fun i=>s.list.length - i) (0) (A5s _) kP sP ?_
 rintro i g0
 have hin:=Ku s.list but i
 refine zC ?_
 refine Ae rfl (fun c13=> ?_) (fun c13=> ?_)
 ·simp only [A3j,A1k] at c13
  have hi:i<s.list.length:=(by omega)
  have hg:=Qb hi
  have hg2:=Qb (xs:=s.list) (i:=(Cx s.list but i).1.toNat) (by omega)
  refine zA ?_
  refine Ah (A7 rfl rfl (by omega)) rfl ?_
  refine Ah (Dd (o:=0) rfl pL hg rfl rfl) rfl ?_
  refine Aj rfl (fun b9=> ?_)
  refine zC ?_
  refine A0 [(4,[(0,false),(1,false),(2,false),(3,false)]),(16,[(4,false),(5,false),(6,false),(7,false),(8,false),(9,false),(10,false),(11,false),(12,false),(13,true),(14,false),(15,false)])] (by kernel_rfl) ?_
  iterate 7 refine sb ?_
  refine' Jz rfl rfl inferInstance rfl rfl rfl rfl rfl (fun hg20=> ?_) ?_
  rotate_left
  ·try (simp at hg20;show _)
   refine zA ?_
   refine Aq (D6 rfl) ?_
   iterate 2 refine sa ?_
   refine' Uy rfl rfl inferInstance rfl rfl rfl rfl rfl (fun hg23=> ?_) ?_
   rotate_left
   ·try (simp at hg23;show _)
    iterate 9 refine sb ?_
    refine Aq (A7 (s:=s) rfl rfl (by omega)) ?_
    refine zA ?_
    refine Aq (Dd (s:=s) (o:=0) rfl pL hg2 rfl rfl) ?_
    refine zC ?_
    refine Xc (fi:=[]) (ca:=[]) rfl rfl (Aps (x:=J3 s.list i) (y:=J3 s.list (Cx s.list but i).1.toNat)) sP rfl aQ ?_
    refine zC ?_
    exact Hu rfl sP
   exact Hu rfl sP
  refine zC ?_
  refine Ae rfl (fun c32=> ?_) (fun c32=> ?_)
  ·skip
   have hst:Cx s.list but (i+1)=((i:Int),true):=(by unfold Cx;rw [if_pos c32])
   refine zC ?_
   exact ⟨i+1,(by omega),(by omega),(by rw [hst];exact kP),kP,_,sP⟩
  ·skip
   have hst:Cx s.list but (i+1)=Cx s.list but i:=(by conv=>lhs;unfold Cx;rw [if_neg (by rw [c32];decide)])
   refine zC ?_
   exact ⟨i+1,(by omega),(by omega),(by rw [hst];exact kP),kP,_,sP⟩
 ·simp only [A3j,A1k] at c13
  have hi:i=s.list.length:=(by omega)
  subst hi
  refine zC ?_
  exact zS
def D5 (xs:List Ldv):Nat→Nat
 | 0=>0
 | i+1=>if (J3 xs (D5 xs i)).s.seq.toNat<(J3 xs i).s.seq.toNat then i else D5 xs i
theorem Vs (xs:List Ldv):∀ i,D5 xs i<i∨D5 xs i=0
 | 0=> .inr rfl
 | i+1=>by
  have ih:=Vs xs i
  unfold D5
  split
  ·exact .inl (Nat.lt_succ_self _)
  ·omega
def F6 (xs:List Ldv):Int×Bool:=Cx xs (D5 xs xs.length) xs.length
theorem Aud {s:Sl Ldv} {T:TypeId}:Does Tryz.prog 193 [s.val] (s.hp T++[]) (Is (.tuple #[.int .i64 (F6 s.list).1,.bool (F6 s.list).2]) (s.hp T++[])):=by
 have hsm:=s.small
 refine zF 31 Tryz.func193 ?_
 refine zC ?_
 refine At [0,7,8] kQ (fun (i:Nat)=>[(9,.int .i64 i),(4,.int .i64 (D5 s.list i:Nat))]) (fun i=>(s.hp T++[])) (fun i=>i≤s.list.length) (fun i=>s.list.length - i) (0) (A5s _) kP sP ?_
 rintro i g0
 have hin:=Vs s.list i
 refine zC ?_
 refine Ae rfl (fun c10=> ?_) (fun c10=> ?_)
 ·simp only [A3j,A1k] at c10
  have hi:i<s.list.length:=(by omega)
  have hg:=Qb hi
  have hg2:=Qb (xs:=s.list) (i:=D5 s.list i) (by omega)
  refine zA ?_
  refine Ah (A7 rfl rfl (by omega)) rfl ?_
  refine Ah (Dd (o:=0) rfl pL hg rfl rfl) rfl ?_
  refine Aj rfl (fun b6=> ?_)
  refine zC ?_
  refine A0 [(10,[(0,false),(1,false),(2,false),(3,false),(4,false),(5,false),(6,false),(7,false),(8,false),(9,false)])] (by kernel_rfl) ?_
  iterate 6 refine sb ?_
  refine Aq (A7 (s:=s) rfl rfl (by omega)) ?_
  refine zA ?_
  refine Aq (show Rd _ _ _ _ (wv (J3 s.list (D5 s.list i)).s.seq) from Co (s:=s) (o:=1) rfl pL hg2 rfl rfl) ?_
  refine zC ?_
  refine Ae rfl (fun c23=> ?_) (fun c23=> ?_)
  ·simp only [A3j,A1k] at c23
   have hst:D5 s.list (i+1)=i:=(by unfold D5;rw [if_pos (by omega)])
   refine zC ?_
   exact ⟨i+1,(by omega),(by omega),(by rw [hst];exact kP),kP,_,sP⟩
  ·simp only [A3j,A1k] at c23
   have hst:D5 s.list (i+1)=D5 s.list i:=(by conv=>lhs;unfold D5;rw [if_neg (by omega)])
   refine zC ?_
   exact ⟨i+1,(by omega),(by omega),(by rw [hst];exact kP),kP,_,sP⟩
 ·simp only [A3j,A1k] at c10
  have hi:i=s.list.length:=(by omega)
  subst hi
  refine zC ?_
  refine zI rfl (Apt (but:=(D5 s.list s.list.length:Nat))) ?_
  refine zC ?_
  exact zS
end
section
open Go.K
def Agn (p:Pg):Prop:=(Ee p).2.2.2≠0∧Dt p=p
def OkPg (p:Pg):Prop:=RecP p∨Agn p
theorem OkPg.mend {p:Pg} (h:OkPg p):Dt p=p:=by
 rcases h with h | h
 ·exact h.mend
 ·exact h.2
theorem Ak8 {p:Pg} (h:p[257]=255#8):Agn p:=by
 have he:=K3 h
 refine ⟨?_,Ajd h⟩
 unfold Ee
 rw [if_neg (fun h2=>he h2.1)]
 exact he
theorem Ts {m:Nat} {p:Pg}:Ck m Ar p=p∨Agn (Ck m Ar p):=by
 by_cases h:258≤m
 ·exact .inl (F5 h)
 ·refine .inr (Ak8 ?_)
  have:(Ck m Ar p)[257]=Ar[257]:=by rw [P7,if_neg (by omega)]
  rw [this,Kt (by omega)]
structure CntZ (sq:Wd) (v:Blk) (r:List Pg):Prop where
 seq:sq.toNat≠0
 len:r.length≤6
 next:v.next=((2+r.length:Nat):Int)
 head:Av v 1=O2 sq
 recs:∀ i (h:i<r.length),Av v (2+i)=r[i]
 good:∀ p∈r,OkPg p
def Qc (v:Blk):Prop:=(nF (Av v 1) 3).2=false
structure UsedZ (x:LB) (v:Blk) (r:List Pg):Prop where
 cnt:CntZ x.seq v r
 ready:x.ready=false
 lo:2≤x.next
 hi:x.next≤8
 at':x.next≤v.next∨x.next=8
structure FreeZ (x:LB) (v:Blk):Prop where
 seq:x.seq.toNat=0
 rdy:x.ready=true→v.next=1∧x.known=true∧Av v 0=Jk x.wear
 free:Qc v
structure LogV (nb k:Nat) (V:Nat→Blk) (bs:List LB) (last:Int) (R:Nat→List Pg):Prop where
 len:bs.length=nb
 blk:∀ j<nb,(FreeZ (bAt bs j) (V j)∧R j=[])∨UsedZ (bAt bs j) (V j) (R j)
 lst:(last= -1∧∀ j<nb,(bAt bs j).seq.toNat=0)∨∃ l:Nat,last=l∧l<nb∧(bAt bs l).seq.toNat≠0∧∀ j<nb,j≠l→(bAt bs j).seq.toNat<(bAt bs l).seq.toNat
 top:∀ j<nb,(bAt bs j).seq.toNat≤k
 dis:∀ i<nb,∀ j<nb,i≠j→(bAt bs i).seq.toNat≠0→(bAt bs i).seq.toNat≠(bAt bs j).seq.toNat
structure LZ (n nb k:Nat) (q:Qt) (d:Dsk) (bs:List LB) (last:Int) (V:Nat→Blk) (R:Nat→List Pg):Prop where
 num:nb+6=n
 dv:DV d.c d.t.ts n k V
 acc:Acc q d.c d.t.ts
 lv:LogV nb k V bs last R
structure LogC (nb k:Nat) (V:Nat→Blk) (sq:Nat→Wd) (R:Nat→List Pg):Prop where
 bi:∀ j<nb,BI (V j)
 blk:∀ j<nb,((sq j).toNat=0∧Qc (V j)∧R j=[])∨CntZ (sq j) (V j) (R j)
 top:∀ j<nb,(sq j).toNat≤k
 dis:∀ i<nb,∀ j<nb,i≠j→(sq i).toNat≠0→(sq i).toNat≠(sq j).toNat
theorem Ad0 {v:Blk} {j:Nat} (h:∀ i,j≤i→i<8→Be (Av v i)=true):∀ k,k≤8→Fo v k≤max j (8 - k)
 | 0,_=>by show 8≤_;omega
 | k+1,hk=>by
  have ih:=Ad0 h k (by omega)
  have hle:=T6 v k (by omega)
  unfold Fo
  by_cases e:Fo v k=8 - k∧Be (Av v (7 - k))=true
  ·rw [if_pos e];omega
  ·rw [if_neg e]
   by_cases h2:Fo v k=8 - k
   ·have h3:¬ Be (Av v (7 - k))=true:=fun h4=>e ⟨h2,h4⟩
    have:¬ j≤7 - k:=fun h4=>h3 (h _ h4 (by omega))
    omega
   ·omega
theorem Apu {v:Blk} {j:Nat} (h:∀ i,j≤i→i<8→Be (Av v i)=true):Lt v≤j:=by
 have:=Ad0 h 8 (A5q _)
 unfold Lt
 omega
theorem Ad1 {v:Blk} {i:Nat} (hb:Be (Av v i)=false):∀ k,k≤8→i<8→i+1≤Fo v k
 | 0,_,h8=>by show i+1≤8;omega
 | k+1,hk,h8=>by
  have ih:=Ad1 hb k (by omega) h8
  unfold Fo
  by_cases e:Fo v k=8 - k∧Be (Av v (7 - k))=true
  ·rw [if_pos e]
   have:i≠7 - k:=fun h2=>by rw [h2,e.2] at hb;cases hb
   omega
  ·rw [if_neg e];exact ih
theorem Apv {v:Blk} {i:Nat} (hi:i<8) (hb:Be (Av v i)=false):i+1≤Lt v:=Ad1 hb 8 (A5q _) hi
theorem CntZ.add {sq:Wd} {v w:Blk} {r:List Pg} {p:Pg} (u:CntZ sq w r) (hl:r.length<6) (hn:v.next=((2+r.length+1:Nat):Int)) (hk:S3 v w (2+r.length)) (hp:Av v (2+r.length)=p) (hg:OkPg p):CntZ sq v (r++[p]) where
 seq:=u.seq
 len:=by rw [A2x];simp;omega
 next:=by rw [hn,A2x];simp;omega
 head:=by rw [Ahi hk (by omega) (by omega) (by rw [u.head];exact Iv (by decide) _),u.head]
 recs:=fun i hi=>by
  rw [A2x] at hi
  simp only [A1z] at hi
  by_cases e:i=r.length
  ·subst e;rw [hp];simp
  ·have h1:i<r.length:=by omega
   rw [Ahi hk (by omega) (by omega) (by rw [u.recs i h1];exact (u.good _ (A3t h1)).mend),u.recs i h1,A1e h1]
 good:=fun z hz=>by
  rcases A4f.1 hz with h | h
  ·exact u.good z h
  ·rw [A2z.1 h];exact hg
section
variable {n nb k k':Nat} {q:Qt} {d:Dsk} {bs bs':List LB} {last:Int} {V:Nat→Blk} {R:Nat→List Pg} {p:Pg} {v:Blk}
theorem LogV.used (h:LogV nb k V bs last R) {l:Nat} (hl:last=l):l<nb∧UsedZ (bAt bs l) (V l) (R l):=by
 rcases h.lst with ⟨h1,_⟩ | ⟨l',h1,h2,h3,_⟩
 ·omega
 ·have:l'=l:=by omega
  subst this
  refine ⟨h2,?_⟩
  rcases h.blk l' h2 with ⟨f,_⟩ | u
  ·exact absurd f.seq h3
  ·exact u
theorem LogV.us (h:LogV nb k V bs last R) {j:Nat} (hj:j<nb) (hs:(bAt bs j).seq.toNat≠0):UsedZ (bAt bs j) (V j) (R j):=by
 rcases h.blk j hj with ⟨f,_⟩ | u
 ·exact absurd f.seq hs
 ·exact u
theorem LogV.rdy (h:LogV nb k V bs last R):Ay7 V bs nb:=fun b hb hr=>by
 rcases h.blk b hb with ⟨f,_⟩ | u
 ·exact f.rdy hr
 ·rw [u.ready] at hr;cases hr
theorem LogV.rng (h:LogV nb k V bs last R): -1≤last∧last<nb:=by
 rcases h.lst with ⟨h1,_⟩ | ⟨l,h1,h2,_⟩ <;> omega
theorem LogV.lls (h:LogV nb k V bs last R) (h0:0≤last):(bAt bs last.toNat).seq.toNat≠0∧2≤(bAt bs last.toNat).next∧(bAt bs last.toNat).next≤8:=by
 obtain ⟨hlt,u⟩:=h.used (l:=last.toNat) (by omega)
 exact ⟨u.cnt.seq,u.lo,u.hi⟩
theorem LogV.mono (h:LogV nb k V bs last R) (hk:k≤k'):LogV nb k' V bs last R:=⟨h.len,h.blk,h.lst,fun j hj=>A5f (h.top j hj) hk,h.dis⟩
theorem LogV.cont (h:LogV nb k V bs last R) (hb:∀ j<nb,BI (V j)):LogC nb k V (fun j=>(bAt bs j).seq) R :=
 ⟨hb,fun j hj=>(h.blk j hj).imp (fun ⟨f,r⟩=>⟨f.seq,f.free,r⟩) (fun u=>u.cnt),h.top,h.dis⟩
theorem LogV.seqN (h:LogV nb k V bs last R) (hk:k≤400000000000):(seqN bs last).toNat≠0∧(seqN bs last).toNat≤k+1∧∀ j<nb,(bAt bs j).seq.toNat<(seqN bs last).toNat:=by
 unfold Go.Proofs.YtpmojdippdlcaaaGreatDoor.seqN
 rcases h.lst with ⟨h1,h2⟩ | ⟨l,h1,h2,h3,h4⟩
 ·rw [if_pos (by omega)]
  exact ⟨by decide,by show 1≤k+1;omega,fun j hj=>by rw [h2 j hj];decide⟩
 ·rw [if_neg (by omega),h1,A24]
  have ht:=h.top l h2
  have e:((bAt bs l).seq+1).toNat=(bAt bs l).seq.toNat+1:=by
   rw [A3k]
   show ((bAt bs l).seq.toNat+1) % 2 ^ 64=_
   omega
  rw [e]
  refine ⟨by omega,by omega,fun j hj=> ?_⟩
  by_cases hj2:j=l
  ·subst hj2;omega
  ·have:=h4 j hj hj2;omega
theorem LogV.app1 (h:LogV nb k V bs last R) (hkk:k≤k') (hg:OkPg p) {l:Nat} (hl:last=l) (hr:(R l).length<6) (hn:v.next=((2+(R l).length+1:Nat):Int)) (hk:S3 v (V l) (2+(R l).length)) (hp:Av v (2+(R l).length)=p) :
  LogV nb k' (upV V l v) (bs.set l { bAt bs l with next:=((2+(R l).length:Nat):Int)+1 }) last (upR R l (R l++[p])):=by
 obtain ⟨hlt,u⟩:=h.used hl
 have hlb:l<bs.length:=by rw [h.len];exact hlt
 have hb:∀ j,bAt (bs.set l { bAt bs l with next:=((2+(R l).length:Nat):Int)+1 }) j=if j=l then { bAt bs l with next:=((2+(R l).length:Nat):Int)+1 } else bAt bs j:=fun j=>Dn hlb
 have hs:∀ j,(bAt (bs.set l { bAt bs l with next:=((2+(R l).length:Nat):Int)+1 }) j).seq=(bAt bs j).seq:=fun j=>by
  rw [hb]
  split
  ·rename_i e;subst e;rfl
  ·rfl
 refine ⟨by rw [A4d];exact h.len,fun j hj=> ?_,?_,fun j hj=>by rw [hs];exact A5f (h.top j hj) hkk,fun i hi j hj=> ?_⟩
 ·rw [hb]
  unfold upV upR
  by_cases e:j=l
  ·rw [if_pos e,if_pos e,if_pos e]
   have ha:=u.cnt.add hr hn hk hp hg
   have hl6:=ha.len
   rw [A2x] at hl6
   simp only [A1z] at hl6
   exact .inr ⟨ha,u.ready,by simp only;omega,by simp only;omega,.inl (by simp only;omega)⟩
  ·rw [if_neg e,if_neg e,if_neg e]
   exact h.blk j hj
 ·rcases h.lst with ⟨h1,h2⟩ | ⟨l',h1,h2,h3,h4⟩
  ·exact .inl ⟨h1,fun j hj=>by rw [hs];exact h2 j hj⟩
  ·exact .inr ⟨l',h1,h2,by rw [hs];exact h3,fun j hj hne=>by rw [hs,hs];exact h4 j hj hne⟩
 ·rw [hs,hs];exact h.dis i hi j hj
theorem FreeZ.oth {x y:LB} {w:Blk} (f:FreeZ x w) (h:y=x∨y={ x with next:=8 }):FreeZ y w:=by
 rcases h with rfl | rfl
 ·exact f
 ·exact ⟨f.seq,f.rdy,f.free⟩
theorem UsedZ.oth {x y:LB} {w:Blk} {r:List Pg} (u:UsedZ x w r) (h:y=x∨y={ x with next:=8 }):UsedZ y w r:=by
 rcases h with rfl | rfl
 ·exact u
 ·exact ⟨u.cnt,u.ready,by show (2:Int)≤8;decide,by show (8:Int)≤8;decide,.inr rfl⟩
theorem LogV.app2 (h:LogV nb k V bs last R) (hk:k≤400000000000) (hkk:k+1≤k') (hg:OkPg p) {to:Nat} (hto:to<nb) (hlen:bs'.length=nb) (hn:v.next=3) (h2:Av v 2=p) (h1:Av v 1=O2 (Go.Proofs.YtpmojdippdlcaaaGreatDoor.seqN bs last))
  (hx:bAt bs' to=⟨(bAt bs to).wear,true,Go.Proofs.YtpmojdippdlcaaaGreatDoor.seqN bs last,false,3⟩) (ho:Q4 bs bs' nb last to):LogV nb k' (upV V to v) bs' to (upR R to [p]):=by
 obtain ⟨s1,s2,s3⟩:=h.seqN hk
 have ho2:∀ j<nb,j≠to→bAt bs' j=bAt bs j∨bAt bs' j={ bAt bs j with next:=8 }:=fun j hj hne=>(ho j hj (by omega)).imp id (fun e=>e.2)
 have hs:∀ j<nb,j≠to→(bAt bs' j).seq=(bAt bs j).seq:=fun j hj hne=>by
  rcases ho2 j hj hne with e | e <;> rw [e]
 refine ⟨hlen,fun j hj=> ?_,.inr ⟨to,rfl,hto,by rw [hx];exact s1,fun j hj hne=>by rw [hs j hj hne,hx];exact s3 j hj⟩,fun j hj=> ?_,fun i hi j hj hne hz=> ?_⟩
 ·unfold upV upR
  by_cases e:j=to
  ·subst e
   rw [if_pos rfl,if_pos rfl]
   refine .inr ⟨⟨by rw [hx];exact s1,by simp,by rw [hn];rfl,by rw [hx];exact h1,fun i hi=> ?_,fun z hz=>by rw [A2z.1 hz];exact hg⟩,by rw [hx],by rw [hx];show (2:Int)≤3;omega,by rw [hx];show (3:Int)≤8;omega,.inl (by rw [hx,hn];exact A5p _)⟩
   have:i=0:=by simp at hi;exact hi
   subst this
   exact h2
  ·rw [if_neg e,if_neg e]
   exact (h.blk j hj).imp (fun ⟨f,r⟩=>⟨f.oth (ho2 j hj e),r⟩) (fun u=>u.oth (ho2 j hj e))
 ·by_cases e:j=to
  ·subst e;rw [hx];exact A5f s2 hkk
  ·rw [hs j hj e];exact A5f (h.top j hj) (by omega)
 ·by_cases e:i=to
  ·subst e
   rw [hs j hj (A54 hne),hx]
   have:=s3 j hj
   simp only
   omega
  ·by_cases e2:j=to
   ·subst e2
    rw [hs i hi e,hx]
    have:=s3 i hi
    simp only
    omega
   ·rw [hs i hi e] at hz ⊢
    rw [hs j hj e2]
    exact h.dis i hi j hj hne hz
theorem LogC.opened {sq:Nat→Wd} (h:LogC nb k V sq R):LogV nb k V (D2 V nb).1 (D2 V nb).2 R∧∀ j<nb,(bAt (D2 V nb).1 j).seq=sq j:=by
 have hlk:∀ j<nb,(B8 (V j)).seq=sq j∧(B8 (V j)).ready=false∧((sq j).toNat≠0→(B8 (V j)).next=(Lt (V j):Int)):=fun j hj=>by
  unfold B8
  rcases h.blk j hj with ⟨h1,h2,_⟩ | u
  ·have e:sq j=0:=A1s h1
   have h2':¬ (nF (Av (V j) 1) 3).2=true:=by rw [show (nF (Av (V j) 1) 3).2=false from h2];decide
   rw [if_neg h2',e]
   exact ⟨rfl,rfl,fun h9=>absurd rfl h9⟩
  ·rw [u.head,Awp (by decide)]
   exact ⟨rfl,rfl,fun _=>rfl⟩
 have hat:∀ j<nb,bAt (D2 V nb).1 j=H6 (Nq (E8 V nb) nb) (B8 (V j)):=fun j hj=>by
  unfold D2 bAt
  simp only [A00,A29,A2k hj,A4n,A32]
  rfl
 have hkn:∀ (m:Wd) (x:LB),(H6 m x).seq=x.seq∧(H6 m x).ready=x.ready∧(H6 m x).next=x.next:=fun m x=>by unfold H6;split <;> exact ⟨rfl,rfl,rfl⟩
 have hs:∀ j<nb,(bAt (D2 V nb).1 j).seq=sq j:=fun j hj=>by rw [hat j hj,(hkn _ _).1,(hlk j hj).1]
 refine ⟨⟨Aju V nb,fun j hj=> ?_,?_,fun j hj=>by rw [hs j hj];exact h.top j hj,fun i hi j hj hne hz=>by rw [hs i hi] at hz ⊢;rw [hs j hj];exact h.dis i hi j hj hne hz⟩,hs⟩
 ·rcases h.blk j hj with ⟨h1,h2,h3⟩ | u
  ·refine .inl ⟨⟨by rw [hs j hj];exact h1,fun hr=> ?_,h2⟩,h3⟩
   rw [hat j hj,(hkn _ _).2.1,(hlk j hj).2.1] at hr
   cases hr
  ·have hn:(bAt (D2 V nb).1 j).next=(Lt (V j):Int):=by rw [hat j hj,(hkn _ _).2.2,(hlk j hj).2.2 u.seq]
   have hle:=T6 (V j) 8 (A5q _)
   have hlen:=u.len
   have hup:Lt (V j)≤2+(R j).length:=by
    refine Apu (fun i h1 h2=> ?_)
    have:=(h.bi j hj).pg h2 (by rw [u.next];omega)
    rw [this];exact Ik
   have hlo:2≤Lt (V j):=Apv (i:=1) (by omega) (by rw [u.head];exact Awx (by decide) _)
   exact .inr ⟨by rw [hs j hj];exact u,by rw [hat j hj,(hkn _ _).2.1,(hlk j hj).2.1],by rw [hn];omega,by rw [hn];unfold Lt;omega,.inl (by rw [hn,u.next];omega)⟩
 ·have hl:∀ j<nb,(bAt ((List.range nb).map fun b=>B8 (V b)) j).seq=sq j:=fun j hj=>by
   have e:bAt ((List.range nb).map fun b=>B8 (V b)) j=B8 (V j):=by
    unfold bAt
    simp only [A00,A29,A2k hj,A4n,A32]
   rw [e,(hlk j hj).1]
  show (Dv ((List.range nb).map fun b=>B8 (V b)) nb= -1∧_)∨∃ l:Nat,Dv ((List.range nb).map fun b=>B8 (V b)) nb=l∧_
  rcases K5 ((List.range nb).map fun b=>B8 (V b)) nb with ⟨g1,g2⟩ | ⟨l,g1,g2,g3,g4⟩
  ·exact .inl ⟨g1,fun j hj=>by rw [hs j hj,← hl j hj];exact g2 j hj⟩
  ·refine .inr ⟨l,g1,g2,by rw [hs l g2,← hl l g2];omega,fun j hj hne=> ?_⟩
   have h1:=g4 j hj
   rw [hl j hj,hl l g2] at h1
   rw [hl l g2] at g3
   rw [hs j hj,hs l g2]
   have:=h.dis l g2 j hj (A54 hne) (by omega)
   omega
end
end
section
open Go.K
def Ad2 (bs:List LB) (last:Int) (R:Nat→List Pg):Prop:=last<0∨∃ l:Nat,last=l∧((bAt bs l).next=8∨(R l).length=6)
inductive AppZ (nb:Nat) (bs:List LB) (last:Int) (R:Nat→List Pg) (p:Pg):Int→Int→Int→Int→List LB→(Nat→List Pg)→Prop
 | into {l:Nat}:last=l→l<nb→(bAt bs l).seq.toNat≠0→(bAt bs l).next≤((2+(R l).length:Nat):Int)→(R l).length<6→AppZ nb bs last R p 0 l ((2+(R l).length:Nat):Int) last (bs.set l { bAt bs l with next:=((2+(R l).length:Nat):Int)+1 }) (upR R l (R l++[p]))
 | none {pb pj last':Int} {bs':List LB}:Ad2 bs last R→toU bs nb<0→AppZ nb bs last R p 40 pb pj last' bs' R
 | fresh {to:Nat} {bs':List LB}:Ad2 bs last R→toU bs nb=to→to<nb→(bAt bs to).seq.toNat=0→R to=[]→bAt bs' to=⟨(bAt bs to).wear,true,seqN bs last,false,3⟩→Q4 bs bs' nb last to→AppZ nb bs last R p 0 to 2 to bs' (upR R to [p])
def sqB (bs:List LB) (j:Nat):Wd:=(bAt bs j).seq
def L5 (sq:Nat→Wd) (to:Nat) (x:Wd):Nat→Wd:=fun j=>if j=to then x else sq j
inductive GrowZ (nb:Nat) (bs:List LB) (last:Int) (R:Nat→List Pg) (p:Pg):(Nat→Wd)→(Nat→List Pg)→Prop
 | same:GrowZ nb bs last R p (sqB bs) R
 | into {l:Nat} {x:Pg}:last=l→l<nb→(bAt bs l).seq.toNat≠0→(R l).length<6→(x=p∨Agn x)→GrowZ nb bs last R p (sqB bs) (upR R l (R l++[x]))
 | head {to:Nat}:to<nb→(bAt bs to).seq.toNat=0→R to=[]→(∀ j<nb,(bAt bs j).seq.toNat<(seqN bs last).toNat)→GrowZ nb bs last R p (L5 (sqB bs) to (seqN bs last)) R
 | fresh {to:Nat} {x:Pg}:to<nb→(bAt bs to).seq.toNat=0→R to=[]→(∀ j<nb,(bAt bs j).seq.toNat<(seqN bs last).toNat)→(x=p∨Agn x)→GrowZ nb bs last R p (L5 (sqB bs) to (seqN bs last)) (upR R to [x])
def DownZ (n nb k:Nat) (q:Qt) (bs:List LB) (last:Int) (R:Nat→List Pg) (p:Pg) (c c':Chip) (e:Int):Prop :=
 e=30∧c'.off=true∧¬ c.after<0∧FrA c c'∧∃ V' sq' R',GrowZ nb bs last R p sq' R'∧LogC nb k V' sq' R'∧Later c' n k q.n V'
section
variable {n nb k:Nat} {q:Qt} {d:Dsk} {bs bs':List LB} {last last' e pb pj:Int} {V:Nat→Blk} {R:Nat→List Pg} {p:Pg} {t':Tab} {c':Chip}
theorem Later.bi {c c':Chip} {m:Nat} {V:Nat→Blk} (h:Later c' n k m V) (up:Up c) (f:FrA c c') {l:Nat} (hl:l+6<n):BI (V l):=by
 obtain ⟨t2,h1,h2,h3⟩:=h { c' with off:=false,after:= -1 } rfl ⟨rfl,by rw [show ({ c' with off:=false,after:= -1 }:Chip).dead=c'.dead from rfl,f.dead];exact up.dead,by rw [show ({ c' with off:=false,after:= -1 }:Chip).out=c'.out from rfl,f.out];exact up.out⟩ rfl rfl
 exact (h2.blk hl).1
theorem LogV.full (h:LogV nb k V bs last R) (hnr:Zd V bs last):Ad2 bs last R:=by
 rcases hnr with h1 | ⟨l,h1,h2⟩
 ·exact .inl h1
 ·obtain ⟨hlt,u⟩:=h.used h1
  refine .inr ⟨l,h1,?_⟩
  have hun:=u.cnt.next
  have hul:=u.cnt.len
  rcases u.at' with e | e
  ·right
   by_cases h8:(R l).length=6
   ·exact h8
   ·exact absurd hun (h2 (2+(R l).length) (by omega) (by omega))
  ·exact .inl e
theorem Aip {x:Pg} (hg:RecP p) (h:x=p∨Agn x):OkPg x:=by
 rcases h with rfl | h
 ·exact .inl hg
 ·exact .inr h
theorem LogC.set {sq:Nat→Wd} {k':Nat} (h:LogC nb k V sq R) (hkk:k≤k') {b:Nat} {v:Blk} {s:Wd} {r:List Pg} (hv:BI v) (hb:(s.toNat=0∧Qc v∧r=[])∨CntZ s v r) (hs:s=sq b∨(s.toNat≤k'∧∀ j<nb,(sq j).toNat<s.toNat)) (hbn:b<nb) :
  LogC nb k' (upV V b v) (L5 sq b s) (upR R b r):=by
 refine ⟨fun j hj=> ?_,fun j hj=> ?_,fun j hj=> ?_,fun i hi j hj hne hz=> ?_⟩
 ·unfold upV;split
  ·exact hv
  ·exact h.bi j hj
 ·unfold upV L5 upR
  by_cases e:j=b
  ·rw [if_pos e,if_pos e,if_pos e];exact hb
  ·rw [if_neg e,if_neg e,if_neg e];exact h.blk j hj
 ·unfold L5;split
  ·rename_i e
   rcases hs with rfl | ⟨hs,_⟩
   ·exact A5f (h.top b hbn) hkk
   ·exact hs
  ·exact A5f (h.top j hj) hkk
 ·unfold L5 at hz ⊢
  by_cases ei:i=b
  ·rw [if_pos ei] at hz ⊢
   rw [if_neg (fun e=>hne (by rw [ei,e]))]
   rcases hs with rfl | ⟨_,hs⟩
   ·exact h.dis b hbn j hj (by omega) hz
   ·have:=hs j hj;omega
  ·rw [if_neg ei] at hz ⊢
   by_cases ej:j=b
   ·rw [if_pos ej]
    rcases hs with rfl | ⟨_,hs⟩
    ·exact h.dis i hi b hbn (by omega) hz
    ·have:=hs i hi;omega
   ·rw [if_neg ej];exact h.dis i hi j hj hne hz
theorem Ad3 (sq:Nat→Wd) (b:Nat):L5 sq b (sq b)=sq:=by
 funext j
 unfold L5
 split
 ·rename_i e;rw [e]
 ·rfl
theorem Ad4 (R:Nat→List Pg) {b:Nat} {r:List Pg} (h:R b=r):upR R b r=R:=by
 funext j
 unfold upR
 split
 ·rename_i e;rw [e,h]
 ·rfl
theorem Apw {m:Nat} {p:Pg}:Ck m Ar p=p∨(Bz (Ck m Ar p)).2.2.2≠0:=by
 by_cases h:258≤m
 ·exact .inl (F5 h)
 ·refine .inr (K3 ?_)
  have:(Ck m Ar p)[257]=Ar[257]:=by rw [P7,if_neg (by omega)]
  rw [this,Kt (by omega)]
theorem LZ.app (h:LZ n nb k q d bs last V R) (hk:k≤300000000000) (hg:RecP p) (hA:Asl n nb (k+80) q V bs last p d.c d.t.ts bs' last' e pb pj t'.ts c') :
  (e≠30∧∃ R' V',AppZ nb bs last R p e pb pj last' bs' R'∧LZ n nb (k+80) q ⟨d.dk,t',c'⟩ bs' last' V' R'∧FrA d.c c'∧(q.n=0→e=0→last'=last→Ab2 d.c c'))∨DownZ n nb (k+80) q bs last R p d.c c' e:=by
 have hbi:∀ j<nb,BI (V j):=fun j hj=>(h.dv.blk (l:=j) (by have:=h.num;omega)).1
 have hC:=h.lv.cont hbi
 have hup:Up d.c:=h.dv.di.up
 have hnum:=h.num
 rcases hA with ⟨l,nx,h1,h2,h3,h4,h5,v,h6,h7,h8⟩ | ⟨hnr,hA⟩
 ·obtain ⟨hlt,u⟩:=h.lv.used h1
  have hun:=u.cnt.next
  have hnx:nx=2+(R l).length:=by omega
  subst hnx
  rcases h8 with ⟨rfl,q2,q3,q4,rfl,rfl,rfl,rfl,q9⟩ | ⟨q1,q2,q3,⟨m,q4⟩,q5⟩
  ·refine .inl ⟨by decide,_,upV V l v,.into h1 hlt u.cnt.seq h2 (by omega),⟨h.num,q2,q3,?_⟩,h5,fun h0 _ _=>q9 h0⟩
   exact h.lv.app1 (by omega) (.inl hg) h1 (by omega) (by omega) h7 q4
  ·refine .inr ⟨q1,q2,q3,h5,upV V l v,sqB bs,_,.into (x:=Ck m Ar p) h1 hlt u.cnt.seq (by omega) Ts,?_,q5⟩
   have:=hC.set (k':=k+80) (by omega) (b:=l) (v:=v) (s:=(bAt bs l).seq) (r:=R l++[Ck m Ar p]) (by have:=q5.bi hup h5 (l:=l) (by omega);rwa [E6] at this) (.inr (u.cnt.add (by omega) (by omega) h7 q4 (Aip hg Ts))) (.inl rfl) hlt
   rwa [Ad3 (fun j=>(bAt bs j).seq) l] at this
 ·have hfull:=h.lv.full hnr
  obtain ⟨s1,s2,s3⟩:=h.lv.seqN (by omega)
  rcases hA with ⟨rfl,q2,q3,rfl,rfl,q6,q7⟩ | ⟨q1,q2,to,v,q3,q4⟩
  ·refine .inl ⟨by decide,R,V,.none hfull q2,?_,FrA.refl _,fun _ h9=>by cases h9⟩
   have ho2:∀ j<nb,bAt bs' j=bAt bs j∨bAt bs' j={ bAt bs j with next:=8 }:=fun j hj=>(q7 j hj (by omega)).imp id (fun e=>e.2)
   have hs:∀ j<nb,(bAt bs' j).seq=(bAt bs j).seq:=fun j hj=>by rcases ho2 j hj with e | e <;> rw [e]
   refine ⟨h.num,by show DV d.c t'.ts n (k+80) V;rw [q3];exact h.dv.mono (by omega),by show Acc q d.c t'.ts;rw [q3];exact h.acc,?_⟩
   refine ⟨q6,fun j hj=>(h.lv.blk j hj).imp (fun ⟨f,r⟩=>⟨f.oth (ho2 j hj),r⟩) (fun u=>u.oth (ho2 j hj)),?_,fun j hj=>by rw [hs j hj];exact A5f (h.lv.top j hj) (by omega),fun i hi j hj hne hz=> ?_⟩
   ·rcases h.lv.lst with ⟨h1,h2⟩ | ⟨l',h1,h2,h3,h4⟩
    ·exact .inl ⟨h1,fun j hj=>by rw [hs j hj];exact h2 j hj⟩
    ·exact .inr ⟨l',h1,h2,by rw [hs l' h2];exact h3,fun j hj hne=>by rw [hs j hj,hs l' h2];exact h4 j hj hne⟩
   ·rw [hs i hi] at hz ⊢;rw [hs j hj];exact h.lv.dis i hi j hj hne hz
  ·obtain ⟨l,x1,x2,x3,_⟩:=(Md bs nb).resolve_left (fun h=>by
    rcases q4 with ⟨_,_,_,rfl,_⟩ | ⟨_,_,_,_,_⟩ <;> omega)
   have:l=to:=by omega
   subst this
   have hRto:R l=[]:=by
    rcases h.lv.blk l x2 with ⟨_,r⟩ | u
    ·exact r
    ·exact absurd x3 u.cnt.seq
   rcases q4 with ⟨rfl,r2,r3,rfl,rfl,rfl,r7,r8,r9,r10,r11,r12⟩ | ⟨r1,r2,r3,r4,r5⟩
   ·refine .inl ⟨by decide,_,upV V l v,.fresh hfull q3 x2 x3 hRto r11 r12,⟨h.num,r2,r3,?_⟩,q1,fun _ _ h9=> ?_⟩
    ·exact h.lv.app2 (by omega) (by omega) (.inl hg) x2 q2 r7 r8 r9 r11 r12
    ·exfalso
     obtain ⟨g1,u⟩:=h.lv.used h9.symm
     exact u.cnt.seq x3
   ·have hbv:BI v:=by have:=r4.bi hup q1 (l:=l) (by omega);rwa [E6] at this
    have hfr:Qc (V l):=by
     rcases h.lv.blk l x2 with ⟨f,_⟩ | u
     ·exact f.free
     ·exact absurd x3 u.cnt.seq
    have hfree:Qc v→∃ V' sq' R',GrowZ nb bs last R p sq' R'∧LogC nb (k+80) V' sq' R'∧Later c' n (k+80) q.n V':=fun hf=>by
     refine ⟨_,_,R,.same,?_,r4⟩
     have:=hC.set (k':=k+80) (by omega) (b:=l) (v:=v) (s:=(bAt bs l).seq) (r:=[]) hbv (.inl ⟨x3,hf,rfl⟩) (.inl rfl) x2
     rw [Ad3 (fun j=>(bAt bs j).seq) l,Ad4 R hRto] at this
     exact this
    have hused:∀ r,CntZ (seqN bs last) v r→LogC nb (k+80) (upV V l v) (L5 (sqB bs) l (seqN bs last)) (upR R l r):=fun r hr =>
     hC.set (k':=k+80) (by omega) hbv (.inr hr) (.inr ⟨by omega,s3⟩) x2
    refine .inr ⟨r1,r2,r3,q1,?_⟩
    rcases r5 with (he | ⟨g1,_,m,g2⟩) | ⟨g1,g2,m,g3⟩
    ·refine hfree ?_
     unfold Qc
     rcases he with he | ⟨he,_⟩
     ·rcases he 1 (by omega) with e1 | e1
      ·rw [Fg (by omega),e1];exact O1
      ·rw [Fg (by omega),e1,← Fg (by omega)];exact hfr
     ·rw [hbv.pg (by omega) (by rw [he];decide)];exact O1
    ·rcases Apw (m:=m) (p:=O2 (seqN bs last)) with ht | ht
     ·refine ⟨_,_,_,.head x2 x3 hRto s3,?_,r4⟩
      have:=hused [] ⟨s1,by simp,by rw [g1];rfl,by rw [g2,ht],fun i hi=>by simp at hi,fun z hz=>by cases hz⟩
      rwa [Ad4 R hRto] at this
     ·refine hfree ?_
      unfold Qc
      rw [g2]
      exact Amv ht
    ·refine ⟨_,_,_,.fresh (x:=Ck m Ar p) x2 x3 hRto s3 Ts,?_,r4⟩
     exact hused _ ⟨s1,by simp,by rw [g1];rfl,g2,fun i hi=>by
      have:i=0:=by simp at hi;exact hi
      subst this
      exact g3,fun z hz=>by rw [A2z.1 hz];exact Aip hg Ts⟩
end
end
section
open Go.K
def F7 (b:Int):Nat→List Pg→List Pl2
 | _,[]=>[]
 | i,p::r=>(if (Ee p).2.2.2=0 then [(b,(i:Int))] else [])++F7 b (i+1) r
theorem Ad5 (b:Int):∀ (r s:List Pg) (i:Nat),F7 b i (r++s)=F7 b i r++F7 b (i+r.length) s
 | [],s,i=>rfl
 | p::r,s,i=>by
  show _++F7 b (i+1) (r++s)=(_++F7 b (i+1) r)++_
  rw [Ad5 b r s (i+1),A25,A3v,show i+1+r.length=i+(r.length+1) by omega]
theorem recZ_mem {b:Int} {x:Pl2}:∀ {r:List Pg} {i:Nat},x∈F7 b i r↔∃ j,∃ p,r[j]? =some p∧(Ee p).2.2.2=0∧x=(b,((i+j:Nat):Int))
 | [],i=>by simp [F7]
 | p::r,i=>by
  have ih:=recZ_mem (b:=b) (x:=x) (r:=r) (i:=i+1)
  unfold F7
  rw [A4f,ih]
  constructor
  ·rintro (h | ⟨j,q,h1,h2,h3⟩)
   ·split at h
    ·rename_i he
     exact ⟨0,p,rfl,he,by simpa using h⟩
    ·cases h
   ·exact ⟨j+1,q,by simpa using h1,h2,by rw [h3];congr 2;omega⟩
  ·rintro ⟨j,q,h1,h2,h3⟩
   cases j with
   | zero =>
    simp only [A1i,A3h] at h1
    subst h1
    left
    rw [if_pos h2]
    simpa using h3
   | succ j =>
    exact .inr ⟨j,q,by simpa using h1,h2,by rw [h3];congr 2;omega⟩
theorem Aiq {v:Blk} {b:Int} {r:List Pg} (h:∀ i (hi:i<r.length),Av v (2+i)=r[i]):∀ i,i≤r.length→G3 v b (2+i)=F7 b 2 (r.take i)
 | 0,_=>Zf v b
 | i+1,hi=>by
  rw [show 2+(i+1)=(2+i)+1 by omega]
  unfold G3
  rw [Aiq h i (by omega),h i (by omega),A3g,A1d (by omega),Ad5,A3x,A4m (by omega)]
  congr 1
  show (if 2≤2+i∧_ then _ else _)=(if _ then _ else _)++[]
  by_cases e:(Ee r[i]).2.2.2=0
  ·rw [if_pos ⟨by omega,e⟩,if_pos e,A37]
  ·rw [if_neg (fun h2=>e h2.2),if_neg e,A37]
theorem CntZ.segs {sq:Wd} {v:Blk} {r:List Pg} (u:CntZ sq v r) (h:BI v) (b:Int):G3 v b 8=F7 b 2 r:=by
 have hl:=u.len
 have hn:=u.next
 rw [show 8=2+6 from rfl,Ud (m:=r.length) (fun i hi h8=> ?_) 6 hl (by omega),Aiq u.recs _ (A5q _),A30]
 rw [h.pg h8 (by rw [hn];omega)];exact Ajt Ik
def M0 (bs:List LB) (R:Nat→List Pg):Nat→List SV
 | 0=>[]
 | j+1=>M0 bs R j++if (bAt bs j).seq.toNat=0 then [] else [((j:Int),(bAt bs j).seq,(bAt bs j).wear,F7 j 2 (R j))]
section
variable {n nb k:Nat} {q:Qt} {d:Dsk} {bs bs':List LB} {last last' e:Int} {V:Nat→Blk} {R:Nat→List Pg} {t':Tab} {c':Chip}
theorem LZ.bi (h:LZ n nb k q d bs last V R) {j:Nat} (hj:j<nb):BI (V j):=(h.dv.blk (l:=j) (by have:=h.num;omega)).1
theorem LZ.segs (h:LZ n nb k q d bs last V R):∀ j,j≤nb→O7 V bs j=M0 bs R j
 | 0,_=>rfl
 | j+1,hj=>by
  unfold O7 M0
  rw [h.segs j (by omega)]
  by_cases e:(bAt bs j).seq.toNat=0
  ·rw [if_pos e,if_pos e]
  ·rw [if_neg e,if_neg e]
   rw [(h.lv.us (by omega) e).cnt.segs (h.bi (by omega))]
theorem Ad6:∀ k,(M0 bs R k).length+B6 bs k=k
 | 0=>rfl
 | k+1=>by
  have ih:=Ad6 k
  rw [Gh]
  unfold M0 z1
  rw [A2x]
  split <;> simp <;> omega
theorem segZ_mem {x:SV}:∀ {k},x∈M0 bs R k↔∃ j<k,(bAt bs j).seq.toNat≠0∧x=((j:Int),(bAt bs j).seq,(bAt bs j).wear,F7 j 2 (R j))
 | 0=>by simp [M0]
 | k+1=>by
  have ih:=segZ_mem (x:=x) (k:=k)
  unfold M0
  rw [A4f,ih]
  constructor
  ·rintro (⟨j,h1,h2⟩ | h)
   ·exact ⟨j,by omega,h2⟩
   ·split at h
    ·cases h
    ·rename_i hz;exact ⟨k,by omega,hz,by simpa using h⟩
  ·rintro ⟨j,h1,h2,h3⟩
   by_cases e:j=k
   ·subst e;rw [if_neg h2];exact .inr (by simpa using h3)
   ·exact .inl ⟨j,by omega,h2,h3⟩
theorem LZ.drop (h:LZ n nb k q d bs last V R) {b:Nat} (hb:b<nb) (hD:Avz n nb (k+40) q V bs last b d.c d.t.ts bs' last' e t'.ts c') (hs:(bAt bs b).seq.toNat≠0) :
  FrA d.c c'∧((e=0∧bs'=bs.set b (Iy ((bAt bs b).wear+1))∧last'=(if (b:Int)=last then Dv bs' nb else last)∧∃ V',LZ n nb (k+40) q ⟨d.dk,t',c'⟩ bs' last' V' (upR R b []))∨(e=30∧c'.off=true∧¬ d.c.after<0)):=by
 have hlen:=h.lv.len
 have hsg:O6 bs b=true:=by unfold O6;simp;omega
 rcases hD with ⟨h1,_⟩ | ⟨_,hW,hl⟩
 ·rw [hsg] at h1;cases h1
 rw [A24] at hW
 obtain ⟨w1,w2,v,w3⟩:=hW
 refine ⟨w2,?_⟩
 rcases w3 with ⟨rfl,w4,w5,w6,w7,w8⟩ | h9
 rotate_left
 ·exact .inr ⟨h9.1,h9.2.1,h9.2.2.1⟩
 have hl:=hl rfl
 refine .inl ⟨rfl,w6,hl,upV V b v,?_⟩
 have hb':∀ j,bAt bs' j=if j=b then Iy ((bAt bs b).wear+1) else bAt bs j:=fun j=>by rw [w6,Dn (by omega)]
 have hz:(bAt bs' b).seq.toNat=0:=by rw [hb',if_pos rfl];rfl
 have ho:∀ j,j≠b→bAt bs' j=bAt bs j:=fun j hj=>by rw [hb',if_neg hj]
 have hbv:BI v:=by
  have:=(w4.blk (l:=b) (by have:=h.num;omega)).1
  rwa [E6] at this
 refine ⟨h.num,w4,w5,⟨w1,fun j hj=> ?_,?_,fun j hj=> ?_,fun i hi j hj hne hzi=> ?_⟩⟩
 ·unfold upV upR
  by_cases ej:j=b
  ·subst ej
   rw [if_pos rfl,if_pos rfl,hb',if_pos rfl]
   refine .inl ⟨⟨rfl,fun _=>⟨w7,rfl,w8⟩,?_⟩,rfl⟩
   unfold Qc
   rw [hbv.pg (by omega) (by rw [w7];decide)];exact O1
  ·rw [if_neg ej,if_neg ej,ho j ej]
   exact h.lv.blk j hj
 ·rw [hl]
  split
  ·rcases K5 bs' nb with ⟨g1,g2⟩ | ⟨l,g1,g2,g3,g4⟩
   ·exact .inl ⟨g1,g2⟩
   ·refine .inr ⟨l,g1,g2,by omega,fun j hj hne=> ?_⟩
    have:=g4 j hj
    by_cases eq:(bAt bs' j).seq.toNat=(bAt bs' l).seq.toNat
    ·exfalso
     have hjb:j≠b:=fun e=>by rw [e,hz] at eq;omega
     have hlb:l≠b:=fun e=>by rw [e,hz] at g3;omega
     rw [ho j hjb,ho l hlb] at eq
     rw [ho l hlb] at g3
     exact h.lv.dis l g2 j hj (A54 hne) (by omega) eq.symm
    ·omega
  ·rename_i hne
   rcases h.lv.lst with ⟨g1,g2⟩ | ⟨l,g1,g2,g3,g4⟩
   ·exact absurd (g2 b hb) hs
   ·have hlb:l≠b:=fun e=>hne (by omega)
    refine .inr ⟨l,g1,g2,by rw [ho l hlb];exact g3,fun j hj hj2=> ?_⟩
    rw [ho l hlb]
    by_cases ej:j=b
    ·rw [ej,hz];omega
    ·rw [ho j ej];exact g4 j hj hj2
 ·by_cases ej:j=b
  ·rw [ej,hz];omega
  ·rw [ho j ej];exact A5f (h.lv.top j hj) (by omega)
 ·have hib:i≠b:=fun e=>hzi (by rw [e,hz])
  rw [ho i hib] at hzi ⊢
  by_cases ej:j=b
  ·rw [ej,hz];exact hzi
  ·rw [ho j ej];exact h.lv.dis i hi j hj hne hzi
theorem LZ.mono {k':Nat} (h:LZ n nb k q d bs last V R) (hk:k≤k'):LZ n nb k' q d bs last V R:=⟨h.num,h.dv.mono hk,h.acc,h.lv.mono hk⟩
theorem LZ.get (h:LZ n nb k q d bs last V R) {b i:Nat} {p:Pg} (hb:b<nb) (hp:(R b)[i]? =some p):Av (V b) (2+i)=p∧2+i<8:=by
 rcases h.lv.blk b hb with ⟨_,r⟩ | u
 ·rw [r] at hp;cases hp
 ·obtain ⟨h1,rfl⟩:=A08.1 hp
  have:=u.cnt.len
  exact ⟨u.cnt.recs i h1,by omega⟩
end
end
section
open Go.K
structure Lg where
 lg:Nat
 bb:Nat
 nb:Nat
 last:Int
 bs:List LB
 d:Dsk
@[irreducible] def lgH (L:Lg):Hp:=(L.lg,true,C (lgC L.d.dk L.bb L.nb L.last) tLg)::(L.bb,true,C (lbs L.bs) tLB)::(dkH L.d++[])
theorem Fc (L:Lg):lgH L=(L.lg,true,C (lgC L.d.dk L.bb L.nb L.last) tLg)::(L.bb,true,C (lbs L.bs) tLB)::(dkH L.d++[]):=by unfold lgH;rfl
theorem Vt {P:Program} {E:Env} {H F:Hp} {t:TypeId} {x:Operand} {L:Lg} [ht:Agg P t false] (hx:ev E x=some (.pointer (some ⟨L.lg,0,none⟩))) (hm:PickL (lgH L) H F):Rd P E H (.load t x) (ptr L.d.dk) :=
 Al hx (hm.sub (by rw [Fc];exact .head _)) rfl
theorem Apx (L:Lg):∀ x∈dkH L.d,x∈lgH L:=fun x hx=>by
 rw [Fc]
 exact .tail _ (.tail _ (A18 _ hx))
theorem Ago {P:Program} {E:Env} {H F:Hp} {t:TypeId} {x:Operand} {L:Lg} [ht:Agg P t false] (hx:ev E x=some (.pointer (some ⟨L.d.dk,0,none⟩))) (hm:PickL (lgH L) H F):Rd P E H (.load t x) (ptr L.d.c.aC) :=
 Al hx (hm.sub (Apx L _ (by rw [Gg];exact .head _))) rfl
theorem Apy {P:Program} {E:Env} {H F:Hp} {t:TypeId} {x:Operand} {L:Lg} [ht:Agg P t false] (hx:ev E x=some (.pointer (some ⟨L.d.c.aC,0,none⟩))) (hm:PickL (lgH L) H F):Rd P E H (.load t x) (ptr L.d.c.aP) :=
 Al hx (hm.sub (Apx L _ (Awi L.d _ (by rw [Eg];exact .tail _ (.head _))))) rfl
section
variable {L:Lg} {n k:Nat} {q:Qt} {V:Nat→Blk} {R:Nat→List Pg}
theorem LZ.ulen {d:Dsk} {nb:Nat} {bs:List LB} {last:Int} (h:LZ n nb k q d bs last V R):d.t.u.list.length=nb:=by
 have h1:d.t.u.list.length+6=n:=h.dv.di.wf.len
 have h2:=h.num
 omega
theorem Apz:Does Tryz.prog 66 [ptr L.d.dk] (lgH L) (Is (.int .i64 L.d.t.u.list.length) (lgH L)):=by
 rw [Fc];exact (Amg (d:=L.d)).inIs sP aQ sP
theorem Air (hl:L.bs.length=L.nb) (hn:L.nb≤1000):Does Tryz.prog 33 [ptr L.lg] (lgH L) (Is (.int .i64 (B6 L.bs L.nb:Nat)) (lgH L)):=by
 rw [Fc];exact (Asm (d:=L.d) (lg:=L.lg) (bb:=L.bb) (last:=L.last) hl hn).inIs sP aQ sP
theorem Ax0 (h:LZ n L.nb k q L.d L.bs L.last V R) {b i:Nat} {p:Pg} (hb:b<L.nb) (hp:(R b)[i]? =some p):Does Tryz.prog 61 [ptr L.lg,.agg #[.int .i64 (b:Nat),.int .i64 ((2+i:Nat):Int)]] (lgH L)
  (fun v H=>∃ s:Sl By,v= .tuple #[bv (Ee p).1,s.val,.int .i64 (Ee p).2.2.1,.int .i64 (Ee p).2.2.2]∧H=s.hp tU8++(lgH L++[])∧s.list=(Ee p).2.1∧s.isOwn=true):=by
 obtain ⟨e1,e2⟩:=h.get hb hp
 have hn:=h.num
 have hf:=Am7 (lg:=L.lg) (bb:=L.bb) (nb:=L.nb) (last:=L.last) h.dv (b:=b) (j:=2+i) (by omega) e2
 rw [e1] at hf
 rw [Fc]
 refine hf.inn sP fun v Y ⟨s,h1,h2,h3,h4⟩=>⟨_,⟨s,h1,rfl,h3,h4⟩,?_⟩
 rw [h2]
 simp only [A3q,A25,A4h]
 exact ⟨_,_,aQ,sP⟩
def AppL (n k:Nat) (q:Qt) (L:Lg) (R:Nat→List Pg) (p:Pg) (e pb pj:Int) (L':Lg):Prop :=
 L'.lg=L.lg∧L'.bb=L.bb∧L'.nb=L.nb∧L'.d.dk=L.d.dk ∧
 ((e≠30∧∃ R' V',AppZ L.nb L.bs L.last R p e pb pj L'.last L'.bs R'∧LZ n L.nb (k+80) q L'.d L'.bs L'.last V' R'∧FrA L.d.c L'.d.c∧(q.n=0→e=0→L'.last=L.last→Ab2 L.d.c L'.d.c))∨DownZ n L.nb (k+80) q L.bs L.last R p L.d.c L'.d.c e)
theorem Ak9 (h:LZ n L.nb k q L.d L.bs L.last V R) (hk:k≤300000000000) (hq:q.n≤3) {kind:By} {qs:Sl (Sl By)} (hj:(Bb qs.list).length≤70000000000000) (hkd:3<kind.toNat) (hw:C1 kind (Bb qs.list)=false) :
  Does Tryz.prog 112 [ptr L.lg,bv kind,qs.val] (lgH L++(qs.hp tSB++(Dg qs.list++[])))
  (fun v H=>∃ (L':Lg) (e pb pj:Int),v= .tuple #[.agg #[.int .i64 pb,.int .i64 pj],.int .i64 e]∧H=lgH L'++[]∧AppL n k q L R (Cp kind (Bb qs.list)) e pb pj L'):=by
 rw [Fc]
 simp only [A3q,A25,A4h]
 refine (Afb (lg:=L.lg) (bb:=L.bb) (q:=q) h.dv (by omega) hq h.acc h.num h.lv.len h.lv.rng h.lv.lls h.lv.rdy hj).mono ?_
 rintro v H ⟨t',c',bs',last',e,pb,pj,rfl,rfl,hr⟩
 refine ⟨⟨L.lg,L.bb,L.nb,last',bs',⟨L.d.dk,t',c'⟩⟩,e,pb,pj,rfl,by rw [Fc];simp,rfl,rfl,rfl,rfl,?_⟩
 rcases hr with ⟨h1,_⟩ | ⟨h1,h2,h3⟩
 ·rcases h1 with h1 | h1
  ·omega
  ·rw [hw] at h1;cases h1
 ·exact h.app hk ⟨_,_,h1,h2,rfl⟩ h3
def DropL (n k:Nat) (q:Qt) (L:Lg) (R:Nat→List Pg) (b:Nat) (e:Int) (L':Lg):Prop :=
 L'.lg=L.lg∧L'.bb=L.bb∧L'.nb=L.nb∧L'.d.dk=L.d.dk∧FrA L.d.c L'.d.c ∧
 ((e=0∧L'.bs=L.bs.set b (Iy ((bAt L.bs b).wear+1))∧L'.last=(if (b:Int)=L.last then Dv L'.bs L.nb else L.last)∧∃ V',LZ n L.nb (k+40) q L'.d L'.bs L'.last V' (upR R b []))∨(e=30∧L'.d.c.off=true∧¬ L.d.c.after<0))
theorem Aue (h:LZ n L.nb k q L.d L.bs L.last V R) (hk:k≤300000000000) (hq:q.n≤3) {b:Nat} (hb:b<L.nb) (hs:(bAt L.bs b).seq.toNat≠0) :
  Does Tryz.prog 165 [ptr L.lg,.int .i64 (b:Nat)] (lgH L)
  (fun v H=>∃ (L':Lg) (e:Int),v= .int .i64 e∧H=lgH L'++[]∧DropL n k q L R b e L'):=by
 rw [Fc]
 refine (Asn (lg:=L.lg) (bb:=L.bb) (q:=q) (last:=L.last) h.dv (by omega) hq h.acc h.num h.lv.len (b:=(b:Nat))).mono ?_
 rintro v H ⟨t',c',bs',last',e,rfl,rfl,hD⟩
 exact ⟨⟨L.lg,L.bb,L.nb,last',bs',⟨L.d.dk,t',c'⟩⟩,e,rfl,by rw [Fc];simp,rfl,rfl,rfl,rfl,h.drop hb hD hs⟩
theorem Ais (h:LZ n L.nb k q L.d L.bs L.last V R) (h12:L.nb≤B6 L.bs L.nb+40):Does Tryz.prog 77 [ptr L.lg] (lgH L)
  (fun v H=>∃ (s:Sl Seg) (l0:List Seg),v=s.val∧H=s.hp Iz++(Je l0++(lgH L++[]))∧l0.Perm s.list∧s.isOwn=true∧(s.list.map Wp).Perm (M0 L.bs R L.nb)∧Uc s.list s.list.length∧(∀ x∈s.list,x.recs.isOwn=true)∧s.list.length+B6 L.bs L.nb=L.nb):=by
 have hw:=h.dv.di.wf
 have hn2:=hw.n2
 have e:=h.segs L.nb (A5q _)
 have hlen:=Ad6 (bs:=L.bs) (R:=R) L.nb
 rw [Fc]
 refine (Zg (lg:=L.lg) (bb:=L.bb) (last:=L.last) h.dv h.num hn2 h.lv.len).mono ?_
 rintro v H ⟨s,l0,h1,h2,h3,h4,h5,h6,h7⟩
 rw [e] at h5
 have h8:=h5.length_eq
 rw [A4b] at h8
 exact ⟨s,l0,h1,by rw [h2];simp,h3,h4,h5,h6,h7,by omega⟩
end
end
section
open Go.K
instance fld67_0:Fld Tryz.prog 67 0 0:=⟨⟨_,_,0,Tryz.underlying67,rfl,by kernel_rfl,rfl⟩⟩
instance ent163:Ent Tryz.prog 163:=⟨fun _ _=>by kernel_rfl⟩
structure Sg where
 S:Sto
 L:Lg
 R:Nat→List Pg
abbrev KM:Nat:=400000000000
theorem LogC.mono {nb k k':Nat} {V:Nat→Blk} {sq:Nat→Wd} {R:Nat→List Pg} (h:LogC nb k V sq R) (hk:k≤k'):LogC nb k' V sq R:=⟨h.bi,h.blk,fun j hj=>A5f (h.top j hj) hk,h.dis⟩
theorem Later.mono {c:Chip} {n k k' m:Nat} {V:Nat→Blk} (h:Later c n k m V) (hk:k≤k'):Later c n k' m V:=fun d h1 h2 h3 h4=>by
 obtain ⟨t2,x1,x2,x3⟩:=h d h1 h2 h3 h4
 exact ⟨t2,x1,x2.mono hk,x3⟩
theorem DownZ.mono {n nb k k':Nat} {q:Qt} {bs:List LB} {last e:Int} {R:Nat→List Pg} {p:Pg} {c c':Chip} (h:DownZ n nb k q bs last R p c c' e) (hk:k≤k'):DownZ n nb k' q bs last R p c c' e:=by
 obtain ⟨h1,h2,h3,h4,V,sq,R',h5,h6,h7⟩:=h
 exact ⟨h1,h2,h3,h4,V,sq,R',h5,h6.mono hk,h7.mono hk⟩
def WI (n k:Nat) (q:Qt) (z:Sg):Prop:=z.S.lg=z.L.lg∧∃ V,LZ n z.L.nb k q z.L.d z.L.bs z.L.last V z.R
theorem WI.mono {n k k':Nat} {q:Qt} {z:Sg} (h:WI n k q z) (hk:k≤k'):WI n k' q z:=⟨h.1,h.2.choose,h.2.choose_spec.mono hk⟩
def AppG (n:Nat) (q:Qt) (z:Sg) (p:Pg) (e:Int) (y:Pl2) (z':Sg):Prop :=
 z'.S=z.S∧z'.L.lg=z.L.lg∧z'.L.bb=z.L.bb∧z'.L.nb=z.L.nb∧z'.L.d.dk=z.L.d.dk ∧
 ((e≠30∧AppZ z.L.nb z.L.bs z.L.last z.R p e y.1 y.2 z'.L.last z'.L.bs z'.R∧FrA z.L.d.c z'.L.d.c∧(q.n=0→e=0→z'.L.last=z.L.last→Ab2 z.L.d.c z'.L.d.c))∨DownZ n z.L.nb KM q z.L.bs z.L.last z.R p z.L.d.c z'.L.d.c e)
theorem AppL.g {n k:Nat} {q:Qt} {z:Sg} {p:Pg} {e pb pj:Int} {L':Lg} (h:AppL n k q z.L z.R p e pb pj L') (hlg:z.S.lg=z.L.lg) (hk:k≤300000000000):∃ R',AppG n q z p e (pb,pj) ⟨z.S,L',R'⟩∧(e≠30→WI n (k+80) q ⟨z.S,L',R'⟩):=by
 obtain ⟨h1,h2,h3,h4,h5⟩:=h
 rcases h5 with ⟨h5,R',V',h6,h7,h8,h9⟩ | h5
 ·exact ⟨R',⟨rfl,h1,h2,h3,h4,.inl ⟨h5,h6,h8,h9⟩⟩,fun _=>⟨hlg.trans h1.symm,V',by show LZ n L'.nb _ _ _ _ _ _ _;rw [h3];exact h7⟩⟩
 ·exact ⟨z.R,⟨rfl,h1,h2,h3,h4,.inr (h5.mono (by show k+80≤400000000000;omega))⟩,fun h9=>absurd h5.1 h9⟩
def ShR (n:Nat) (q:Qt) (z:Sg) (x:Pl2) (p:Pg) (e:Int) (z':Sg):Prop :=
 ∃ y z1,AppG n q z p e y z1∧z'=if e=0 then { z1 with S:=C9 z1.S x y } else z1
section
variable {n k:Nat} {q:Qt} {z:Sg}
theorem Vu {L:Lg} {V:Nat→Blk} {R:Nat→List Pg} (h:LZ n L.nb k q L.d L.bs L.last V R) (hk:k≤300000000000) (hq:q.n≤3) {kind:By} {s:Sl By} {b:Nat} (hj:s.list.length≤70000000000000) (hkd:3<kind.toNat) (hw:C1 kind s.list=false) :
  Does Tryz.prog 112 [ptr L.lg,bv kind,.slice (some ⟨b,0,none⟩) 1 1] (lgH L++((b,true,C [s.val] tSB)::(s.hp tU8++[])))
  (fun v H=>∃ (L':Lg) (e pb pj:Int),v= .tuple #[.agg #[.int .i64 pb,.int .i64 pj],.int .i64 e]∧H=lgH L'++[]∧AppL n k q L R (Cp kind s.list) e pb pj L'):=by
 have e2:(Sl.own b [s] 1 [] ⟨by simp,A5q _,by simp⟩:Sl (Sl By)).list=[s]:=rfl
 have e3:Bb [s]=s.list:=by simp [Bb]
 have hf:=Ak9 (qs:= .own b [s] 1 [] ⟨by simp,A5q _,by simp⟩) h hk hq (by rw [e2,e3];exact hj) hkd (by rw [e2,e3];exact hw)
 rw [e2,e3] at hf
 have e:(Sl.own b [s] 1 [] ⟨by simp,A5q _,by simp⟩:Sl (Sl By)).hp tSB++(Dg [s]++[])=((b,true,C [s.val] tSB)::(s.hp tU8++[])):=by
  rw [Sl.hp_own,Cv,Hl]
  simp only [A25,A4h,A37]
  rfl
 rw [e] at hf
 exact hf
theorem Ap0 (h:WI n k q z) (hk:k≤300000000000) (hq:q.n≤3) {x:Pl2} {kind:By} {s:Sl By} (hj:s.list.length≤70000000000000) (hkd:3<kind.toNat) (hw:C1 kind s.list=false) :
  Does Tryz.prog 163 [ptr z.S.st,.agg #[.int .i64 x.1,.int .i64 x.2],bv kind,s.val] ((z.S.st,true,C (stC z.S) tSt)::(z.S.ib,true,z.S.idx.obj .i64)::(z.S.pb,true,z.S.pend.obj .i64)::(lgH z.L++(s.hp tU8++[])))
  (fun v H=>∃ (e:Int) (z':Sg),v= .int .i64 e∧H=(z'.S.st,true,C (stC z'.S) tSt)::(z'.S.ib,true,z'.S.idx.obj .i64)::(z'.S.pb,true,z'.S.pend.obj .i64)::(lgH z'.L++[])∧z'.S.st=z.S.st∧ShR n q z x (Cp kind s.list) e z'∧(e≠30→WI n (k+80) q z')):=by
 obtain ⟨hlg,V,hZ⟩:=h
 refine zF 29 Tryz.func163 ?_
 refine zC ?_
 refine Dj rfl rfl (fun b5=> ?_)
 refine zA ?_
 refine Ah (show Rd _ _ _ _ (ptr z.L.lg) from by rw [← hlg];exact Al rfl mM rfl) rfl ?_
 refine zC ?_
 refine Ao rfl rfl rfl rfl (fun b18=> ?_)
 refine Ci rfl (Vu (b:=b18) hZ hk hq hj hkd hw) sP rfl (fun v19 Y19 h19=> ?_)
 obtain ⟨L1,e1,pb,pj,rfl,rfl,hA⟩:=h19
 obtain ⟨R1,hG,hW⟩:=hA.g hlg hk
 refine A5 aQ ?_
 refine zC ?_
 refine Aj rfl (fun b9=> ?_)
 refine zC ?_
 refine Ae rfl (fun c23=> ?_) (fun c23=> ?_)
 ·skip
  have he:e1=0:=(by simpa using c23)
  subst he
  refine zC ?_
  refine zI rfl (App (S:=z.S) (f:=x) (t:=(pb,pj)) rfl) ?_
  refine zC ?_
  exact zL (hR:=by exact ⟨0,⟨C9 z.S x (pb,pj),L1,R1⟩,rfl,rfl,rfl,⟨(pb,pj),⟨z.S,L1,R1⟩,hG,rfl⟩,fun _=>⟨(hW (by decide)).1,(hW (by decide)).2⟩⟩)
 ·skip
  have he:e1≠0:=(by simpa using c23)
  refine zC ?_
  exact zL (hR:=by exact ⟨e1,⟨z.S,L1,R1⟩,rfl,rfl,rfl,⟨(pb,pj),⟨z.S,L1,R1⟩,hG,by rw [if_neg he]⟩,hW⟩)
end
end
section
open Go.K
instance ent124:Ent Tryz.prog 124:=⟨fun _ _=>by kernel_rfl⟩
def Jf (S:Sto) (x:Pl2):Bool:=Qa S x || Fm S.idx x || Fm S.pend x
def RecAt (z:Sg) (x:Pl2) (p:Pg):Prop:=∃ b j:Nat,x=((b:Int),((2+j:Nat):Int))∧b<z.L.nb∧(z.R b)[j]? =some p
theorem AppZ.keep {nb:Nat} {bs bs':List LB} {last last' e pb pj:Int} {R R':Nat→List Pg} {p:Pg} (h:AppZ nb bs last R p e pb pj last' bs' R') {b j:Nat} {x:Pg} (hx:(R b)[j]? =some x):(R' b)[j]? =some x:=by
 cases h with
 | @into l h1 h2 h3 h4 h5 =>
  unfold upR
  split
  ·rename_i e
   subst e
   rw [A07 (A08.1 hx).1];exact hx
  ·exact hx
 | none=>exact hx
 | @fresh to _ h1 h2 h3 h4 h5 =>
  unfold upR
  split
  ·rename_i e
   rw [e,h5] at hx;cases hx
  ·exact hx
theorem AppZ.seq {nb:Nat} {bs bs':List LB} {last last' e pb pj:Int} {R R':Nat→List Pg} {p:Pg} (h:AppZ nb bs last R p e pb pj last' bs' R') (h40:e≠40) (hl:bs.length=nb) {j:Nat} (hj:j<nb) (hs:(bAt bs j).seq.toNat≠0):(bAt bs' j).seq=(bAt bs j).seq:=by
 cases h with
 | @into l h1 h2 h3 h4 h5 =>
  rw [Dn (by omega)]
  split
  ·rename_i e;rw [e]
  ·rfl
 | none=>exact absurd rfl h40
 | @fresh to _ h1 h2 h3 h4 h5 h6 h7 =>
  rcases h7 j hj (fun e=>by have:j=to:=(by omega);subst this;exact hs h4) with e | ⟨_,e⟩ <;> rw [e]
theorem AppG.rec {n:Nat} {q:Qt} {z z':Sg} {p:Pg} {e:Int} {y:Pl2} (h:AppG n q z p e y z') (he:e≠30) {x:Pl2} {r:Pg} (hx:RecAt z x r):RecAt z' x r:=by
 obtain ⟨h1,h2,h3,h4,h5,h6⟩:=h
 rcases h6 with ⟨_,hA,_⟩ | h6
 ·obtain ⟨b,j,g1,g2,g3⟩:=hx
  exact ⟨b,j,g1,by rw [h4];exact g2,hA.keep g3⟩
 ·exact absurd h6.1 he
theorem ShR.rec {n:Nat} {q:Qt} {z z':Sg} {p:Pg} {e:Int} {x0:Pl2} (h:ShR n q z x0 p e z') (he:e≠30) {x:Pl2} {r:Pg} (hx:RecAt z x r):RecAt z' x r:=by
 obtain ⟨y,z1,h1,h2⟩:=h
 have:=h1.rec he hx
 subst h2
 split
 ·exact this
 ·exact this
theorem ShR.nb {n:Nat} {q:Qt} {z z':Sg} {p:Pg} {e:Int} {x0:Pl2} (h:ShR n q z x0 p e z'):z'.L.nb=z.L.nb:=by
 obtain ⟨y,z1,h1,h2⟩:=h
 have:=h1.2.2.2.1
 subst h2
 split <;> exact this
theorem ShR.seq {n:Nat} {q:Qt} {z z':Sg} {p:Pg} {x0:Pl2} (h:ShR n q z x0 p 0 z') (hl:z.L.bs.length=z.L.nb) {j:Nat} (hj:j<z.L.nb) (hs:(bAt z.L.bs j).seq.toNat≠0):(bAt z'.L.bs j).seq.toNat≠0:=by
 obtain ⟨y,z1,h1,h2⟩:=h
 rw [if_pos rfl] at h2
 subst h2
 rcases h1.2.2.2.2.2 with ⟨_,hA,_⟩ | h6
 ·show (bAt z1.L.bs j).seq.toNat≠0
  rw [hA.seq (by decide) hl hj hs];exact hs
 ·exact absurd h6.1 (by decide)
theorem WI.recP {n k:Nat} {q:Qt} {z:Sg} {x:Pl2} {p:Pg} (h:WI n k q z) (hx:RecAt z x p) (he:(Ee p).2.2.2=0):RecP p:=by
 obtain ⟨_,V,hZ⟩:=h
 obtain ⟨b,j,_,g2,g3⟩:=hx
 have hm:p∈z.R b:=A2a g3
 rcases hZ.lv.blk b g2 with ⟨_,r⟩ | u
 ·rw [r] at hm;cases hm
 ·rcases u.cnt.good p hm with h | h
  ·exact h
  ·exact absurd he h.1
theorem Yo {kind:By} {b:List By} (hk:3<kind.toNat) (hw:C1 kind b=false):Ee (Cp kind b)=(kind,b,0,0):=by
 unfold Ee
 rw [Iu hw,if_neg (fun h=>by have:=h.2;simp only at this;omega)]
theorem Aaq {L:Lg} {n k:Nat} {q:Qt} {V:Nat→Blk} {R:Nat→List Pg} (h:LZ n L.nb k q L.d L.bs L.last V R) {b i:Nat} {kind:By} {bd:List By} (hb:b<L.nb) (hp:(R b)[i]? =some (Cp kind bd)) (hk:3<kind.toNat) (hw:C1 kind bd=false) :
  Does Tryz.prog 61 [ptr L.lg,.agg #[.int .i64 (b:Nat),.int .i64 ((2+i:Nat):Int)]] (lgH L)
  (fun v H=>∃ s:Sl By,v= .tuple #[bv kind,s.val,.int .i64 0,.int .i64 0]∧H=s.hp tU8++(lgH L++[])∧s.list=bd∧s.isOwn=true):=by
 have:=Ax0 h hb hp
 rw [Yo hk hw] at this
 exact this
inductive EmA (n:Nat) (q:Qt):List Pl2→Sg→Int→Sg→Prop
 | nil {z:Sg}:EmA n q [] z 0 z
 | skip {x:Pl2} {xs:List Pl2} {z z':Sg} {e:Int}:Jf z.S x=false→EmA n q xs z e z'→EmA n q (x::xs) z e z'
 | stop {x:Pl2} {xs:List Pl2} {z z1:Sg} {e:Int} {p:Pg}:Jf z.S x=true→RecAt z x p→ShR n q z x p e z1→e≠0→EmA n q (x::xs) z e z1
 | go {x:Pl2} {xs:List Pl2} {z z1 z':Sg} {e:Int} {p:Pg}:Jf z.S x=true→RecAt z x p→ShR n q z x p 0 z1→EmA n q xs z1 e z'→EmA n q (x::xs) z e z'
def DropG (n:Nat) (q:Qt) (z:Sg) (b:Nat) (e:Int) (z':Sg):Prop :=
 z'.S=z.S∧z'.L.lg=z.L.lg∧z'.L.bb=z.L.bb∧z'.L.nb=z.L.nb∧z'.L.d.dk=z.L.d.dk∧FrA z.L.d.c z'.L.d.c ∧
 ((e=0∧z'.L.bs=z.L.bs.set b (Iy ((bAt z.L.bs b).wear+1))∧z'.L.last=(if (b:Int)=z.L.last then Dv z'.L.bs z.L.nb else z.L.last)∧z'.R=upR z.R b [])∨(e=30∧z'.L.d.c.off=true∧¬ z.L.d.c.after<0))
theorem DropL.g {n k:Nat} {q:Qt} {z:Sg} {b:Nat} {e:Int} {L':Lg} (h:DropL n k q z.L z.R b e L') (hlg:z.S.lg=z.L.lg):∃ R',DropG n q z b e ⟨z.S,L',R'⟩∧(e≠30→WI n (k+40) q ⟨z.S,L',R'⟩):=by
 obtain ⟨h1,h2,h3,h4,h5,h6⟩:=h
 rcases h6 with ⟨rfl,h7,h8,V',h9⟩ | h6
 ·exact ⟨_,⟨rfl,h1,h2,h3,h4,h5,.inl ⟨rfl,h7,h8,rfl⟩⟩,fun _=>⟨hlg.trans h1.symm,V',by show LZ n L'.nb _ _ _ _ _ _ _;rw [h3];exact h9⟩⟩
 ·exact ⟨z.R,⟨rfl,h1,h2,h3,h4,h5,.inr h6⟩,fun h9=>absurd h6.1 h9⟩
def EmR (n:Nat) (q:Qt) (b:Nat) (xs:List Pl2) (z:Sg) (e:Int) (z':Sg):Prop:=(e≠0∧EmA n q xs z e z')∨∃ z1,EmA n q xs z 0 z1∧DropG n q z1 b e z'
structure EmI (z:Sg) (b:Nat) (xs:List Pl2):Prop where
 lt:b<z.L.nb
 seq:(bAt z.L.bs b).seq.toNat≠0
 recs:∀ x∈xs,∃ p,RecAt z x p∧(Ee p).2.2.2=0
theorem Ala {k:By} {b:List By} (h:C1 k b=false):b.length≤1000:=by
 unfold C1 at h
 simp at h
 omega
section
variable {n k:Nat} {q:Qt} {z:Sg}
theorem Ap1 (h:WI n k q z) (hk:k≤299999900000) (hq:q.n≤3) {s:Seg} {b:Nat} (hb:s.b=b) (hI:EmI z b s.recs.list) (h1000:s.recs.list.length≤1000) (hB:∀ z1,EmA n q s.recs.list z 0 z1→∀ j:Nat,j<8→Jf z1.S ((b:Int),(j:Int))=false) :
  Does Tryz.prog 124 [ptr z.S.st,.agg (Ze s).toArray] ((z.S.st,true,C (stC z.S) tSt)::(z.S.ib,true,z.S.idx.obj .i64)::(z.S.pb,true,z.S.pend.obj .i64)::(lgH z.L++(s.recs.hp Wo++[])))
  (fun v H=>∃ (e:Int) (z':Sg),v= .int .i64 e∧H=(z'.S.st,true,C (stC z'.S) tSt)::(z'.S.ib,true,z'.S.idx.obj .i64)::(z'.S.pb,true,z'.S.pend.obj .i64)::(lgH z'.L++(s.recs.hp Wo++[]))∧z'.S.st=z.S.st∧EmR n q b s.recs.list z e z'∧(e≠30→WI n (k+80*s.recs.list.length+40) q z')):=by
 have hsm:=s.recs.small
 refine zF 119 Tryz.func124 ?_
 refine zC ?_
 refine Dj rfl rfl (fun b3=> ?_)
 refine zC ?_
 refine At [0,3,16,17] kQ (fun (st:Nat×Sg)=>[(18,.int .i64 st.1)]) (fun st=>(b3,true,C (Ze s) Iz)::(st.2.S.st,true,C (stC st.2.S) tSt)::(st.2.S.ib,true,st.2.S.idx.obj .i64)::(st.2.S.pb,true,st.2.S.pend.obj .i64)::(lgH st.2.L++(s.recs.hp Wo++[]))) (fun st=>st.1≤s.recs.list.length∧WI n (k+80*st.1) q st.2∧st.2.S.st=z.S.st∧EmI st.2 b s.recs.list∧∀ e z',EmA n q (s.recs.list.drop st.1) st.2 e z'→EmA n q s.recs.list z e z') (fun st=>s.recs.list.length - st.1) ((0,z)) ⟨A5s _,h.mono (by omega),rfl,hI,fun _ _ h9=>h9⟩ kP sP ?_
 rintro ⟨i,z1⟩ ⟨g0,g1,g2,g3,g4⟩
 simp only at g0 g1 g2 g3 g4
 rw [← g2]
 refine zC ?_
 refine Ae rfl (fun c19=> ?_) (fun c19=> ?_)
 ·simp only [A3j,A1k] at c19
  obtain ⟨x,hgx⟩:∃ x,s.recs.list[i]? =some x:=⟨_,A1d (by omega)⟩
  obtain ⟨p,hrx,hgp⟩:=g3.recs x (A2a hgx)
  have hdr:s.recs.list.drop i=x::s.recs.list.drop (i+1):=(by obtain ⟨h7,h8⟩:=A08.1 hgx;rw [← h8];exact A05 h7)
  refine zA ?_
  refine Ah (A7 rfl rfl (by omega)) rfl ?_
  refine Ah (Dd (o:=0) rfl pL hgx rfl rfl) rfl ?_
  refine Aj rfl (fun b6=> ?_)
  refine zC ?_
  refine zI rfl (Rs (S:=z1.S) (x:=x)) ?_
  refine zC ?_
  refine Ae rfl (fun c25=> ?_) (fun c25=> ?_)
  ·skip
   have hc:Jf z1.S x=false:=(by have h7:(!Jf z1.S x)=true:=c25;simpa using h7)
   refine zC ?_
   first | exact ⟨(i+1,z2),⟨by simp only;omega,(hW2 (by decide)).mono (by omega),hst2,⟨by rw [hSh.nb];exact g3.lt,hSh.seq hZ1.lv.len g3.lt g3.seq,fun x hx=>(let ⟨p,h1,h2⟩:=g3.recs x hx;⟨p,hSh.rec (by decide) h1,h2⟩)⟩,fun e z' h9=>g4 e z' (by rw [hdr];exact .go hc hrx hSh h9)⟩,by simp only;omega,by rw [← hst2];exact lZ⟩ | exact ⟨(i+1,z1),⟨by simp only;omega,g1.mono (by omega),rfl,g3,fun e z' h9=>g4 e z' (by rw [hdr];exact .skip hc h9)⟩,by simp only;omega,lZ⟩
  ·skip
   have hc:Jf z1.S x=true:=(by have h7:(!Jf z1.S x)=false:=c25;simpa using h7)
   obtain ⟨kind,bd,hkd,hwr,rfl⟩:=g1.recP hrx hgp
   obtain ⟨bN,jN,rfl,hbN,hpj⟩:=id hrx
   obtain ⟨hlg1,V1,hZ1⟩:=id g1
   refine zC ?_
   refine A0 [(5,[(0,false),(1,false),(2,false),(3,false),(4,false)]),(6,[(5,true)]),(15,[(6,false),(7,false),(8,false),(9,false),(10,false),(11,false),(12,false),(13,false),(14,false)])] (by kernel_rfl) ?_
   refine zA ?_
   refine Aq (show Rd _ _ _ _ (ptr z1.L.lg) from by rw [← hlg1];exact Al rfl mM rfl) ?_
   refine zC ?_
   refine zE rfl (Aaq hZ1 hbN hpj hkd hwr) ?_
   rintro _ _ ⟨s32,rfl,rfl,hs32,ho32⟩
   refine zW ?_
   refine Ay rfl ?_
   refine zC ?_
   refine zE rfl (Ap0 (z:=z1) (x:=((bN:Int),((2+jN:Nat):Int))) g1 (by omega) hq (kind:=kind) (s:=s32) (by rw [hs32];have:=Ala hwr;omega) hkd (by rw [hs32];exact hwr)) ?_
   rintro _ _ ⟨e2,z2,rfl,rfl,hst2,hSh,hW2⟩
   refine zW ?_
   refine Ae rfl (fun c46=> ?_) (fun c46=> ?_)
   ·skip
    have he:e2≠0:=(by simpa using c46)
    rw [hs32] at hSh
    refine zC ?_
    exact zL (hR:=by exact ⟨e2,z2,rfl,rfl,hst2,.inl ⟨he,g4 _ _ (by rw [hdr];exact .stop hc hrx hSh he)⟩,fun h9=>(hW2 h9).mono (by omega)⟩)
   ·skip
    have he:e2=0:=(by simpa using c46)
    subst he
    rw [hs32] at hSh
    refine zC ?_
    first | exact ⟨(i+1,z2),⟨by simp only;omega,(hW2 (by decide)).mono (by omega),hst2,⟨by rw [hSh.nb];exact g3.lt,hSh.seq hZ1.lv.len g3.lt g3.seq,fun x hx=>(let ⟨p,h1,h2⟩:=g3.recs x hx;⟨p,hSh.rec (by decide) h1,h2⟩)⟩,fun e z' h9=>g4 e z' (by rw [hdr];exact .go hc hrx hSh h9)⟩,by simp only;omega,by rw [← hst2];exact lZ⟩ | exact ⟨(i+1,z1),⟨by simp only;omega,g1.mono (by omega),rfl,g3,fun e z' h9=>g4 e z' (by rw [hdr];exact .skip hc h9)⟩,by simp only;omega,lZ⟩
 ·simp only [A3j,A1k] at c19
  have hi:i=s.recs.list.length:=(by omega)
  subst hi
  rw [List.drop_length] at g4
  have hEA:=g4 0 z1 .nil
  have hBB:=hB z1 hEA
  refine zC ?_
  refine At [0,3] kQ (fun (j:Nat)=>[(49,.int .i64 j)]) (fun j=>(b3,true,C (Ze s) Iz)::(z1.S.st,true,C (stC z1.S) tSt)::(z1.S.ib,true,z1.S.idx.obj .i64)::(z1.S.pb,true,z1.S.pend.obj .i64)::(lgH z1.L++(s.recs.hp Wo++[]))) (fun j=>j≤8) (fun j=>8 - j) (0) (A5s _) kP sP ?_
  rintro j g5
  refine zC ?_
  refine Ae rfl (fun c50=> ?_) (fun c50=> ?_)
  ·simp only [A3j,A1k] at c50
   have hj8:j<8:=(by omega)
   have hBj:=hBB j hj8
   refine zC ?_
   refine Aj rfl (fun b13=> ?_)
   refine zC ?_
   refine zI rfl ((Rs (S:=z1.S) (x:=((s.b:Int),(j:Int))))) ?_
   refine zC ?_
   refine Ae rfl (fun c59=> ?_) (fun c59=> ?_)
   ·skip
    refine zC ?_
    exact ⟨j+1,(by omega),(by omega),lZ⟩
   ·skip
    exact absurd c59 (by have h7:Jf z1.S (s.b,(j:Int))=false:=(by rw [hb];exact hBj);unfold Jf at h7;rw [h7];decide)
  ·simp only [A3j,A1k] at c50
   refine zC ?_
   refine A0 [(6,[(0,false),(1,false),(2,false),(3,false),(4,false),(5,false)]),(7,[(6,true)]),(8,[(7,false)])] (by kernel_rfl) ?_
   refine zA ?_
   refine Aq (show Rd _ _ _ _ (ptr z1.L.lg) from by rw [← g1.1];exact Al rfl mM rfl) ?_
   refine zA ?_
   refine Aq (show Rd _ _ _ _ (.int .i64 (b:Nat)) from by rw [← hb];exact Al rfl mM rfl) ?_
   refine zC ?_
   refine Ci rfl (Aue g1.2.choose_spec (by omega) hq g3.lt g3.seq) sP rfl (fun v118 Y118 h118=> ?_)
   obtain ⟨L2,e3,rfl,rfl,hD⟩:=h118
   obtain ⟨R2,hDG,hW3⟩:=hD.g g1.1
   refine A5 aQ ?_
   refine zC ?_
   exact zL (hR:=by exact ⟨e3,⟨z1.S,L2,R2⟩,rfl,rfl,rfl,.inr ⟨z1,hEA,hDG⟩,fun h9=>(hW3 h9).mono (by omega)⟩)
end
end
section
open Go.K
instance plc271:Plc Tryz.prog 271 [(0,4),(4,1)]:=⟨⟨_,Tryz.underlying271,fun _=>by kernel_rfl⟩⟩
instance byt271:Byt Tryz.prog 271 56:=⟨by kernel_rfl⟩
instance ent152:Ent Tryz.prog 152:=⟨fun _ _=>by kernel_rfl⟩
theorem Ap2 (l1 l2:List Seg) (g:Seg) (D:Hp):Je (l1++g::l2)++D=Je l1++(g.recs.hp Wo++(Je l2++D)):=by simp [Je]
theorem Ait {l:List Seg} {g:Seg} {A B:Hp} (hg:g∈l) (hp:PickL (Je l) A B):Sub (g.recs.hp Wo) A:=fun x hx=>hp.sub (A3y.2 ⟨g,hg,hx⟩)
def Gs (S:Sto) (xs:List Pl2):Nat:=xs.countP (Jf S)
def ldS (S:Sto) (g:Seg):Ldv:=⟨g,(Gs S g.recs.list:Nat)⟩
theorem Alb {S:Sto} {xs:List Pl2} {i:Nat} {x:Pl2} (h:xs[i]? =some x):Gs S (xs.take (i+1))=Gs S (xs.take i)+if Jf S x=true then 1 else 0:=by
 unfold Gs
 rw [A3g,h,List.countP_append]
 simp [List.countP_cons]
theorem Rt {xs:List Ldv} {but:Int}:∀ {i:Nat},(Cx xs but i).2=true→(Cx xs but i).1<i∧(Cx xs but i).1≠but
 | 0,h=>by cases h
 | i+1,h=>by
  unfold Cx at h ⊢
  split at h
  ·rename_i hc
   rw [if_pos hc]
   simp only [A3n,A23,A1k] at hc
   exact ⟨by simp only;omega,hc.1⟩
  ·rename_i hc
   rw [if_neg hc]
   have:=Rt h
   exact ⟨by omega,this.2⟩
def SegsOf (z:Sg) (ss:List Seg):Prop:=(ss.map Wp).Perm (M0 z.L.bs z.R z.L.nb)∧Uc ss ss.length
theorem SegsOf.mem {z:Sg} {ss:List Seg} (h:SegsOf z ss) {g:Seg} (hg:g∈ss):∃ b:Nat,b<z.L.nb∧(bAt z.L.bs b).seq.toNat≠0∧g.b=b∧g.seq=(bAt z.L.bs b).seq∧g.wear=(bAt z.L.bs b).wear∧g.recs.list=F7 b 2 (z.R b):=by
 have:Wp g∈M0 z.L.bs z.R z.L.nb:=h.1.mem_iff.1 (A5b.2 ⟨g,hg,rfl⟩)
 obtain ⟨j,h1,h2,h3⟩:=segZ_mem.1 this
 unfold Wp at h3
 simp only [A48] at h3
 exact ⟨j,h1,h2,h3.1,h3.2.1,h3.2.2.1,h3.2.2.2⟩
theorem Ax1 {z:Sg} {b:Nat} (hb:b<z.L.nb) (hs:(bAt z.L.bs b).seq.toNat≠0):EmI z b (F7 b 2 (z.R b)) :=
 ⟨hb,hs,fun x hx=>by
  obtain ⟨j,p,h1,h2,h3⟩:=recZ_mem.1 hx
  exact ⟨p,⟨b,j,h3,hb,h1⟩,h2⟩⟩
theorem Alc {z:Sg} {n k:Nat} {q:Qt} {ss:List Seg} (h:WI n k q z) (hs:SegsOf z ss) (hv:(F6 (ss.map (ldS z.S))).2=true) {g:Seg} (hg:ss[(F6 (ss.map (ldS z.S))).1.toNat]? =some g):g.b≠z.L.last:=by
 obtain ⟨_,V,hZ⟩:=h
 intro hl
 have hok:=Rt (i:=(ss.map (ldS z.S)).length) hv
 have hin:=Ku (ss.map (ldS z.S)) (D5 (ss.map (ldS z.S)) (ss.map (ldS z.S)).length:Nat) (ss.map (ldS z.S)).length
 obtain ⟨b,hb,hsq,hgb,hgs,_,_⟩:=hs.mem (A2a hg)
 rw [A4b] at hok hin
 have hmax:∀ i,i≤ss.length→(i=0∨D5 (ss.map (ldS z.S)) i<i)∧∀ j<i,(J3 (ss.map (ldS z.S)) j).s.seq.toNat≤(J3 (ss.map (ldS z.S)) (D5 (ss.map (ldS z.S)) i)).s.seq.toNat:=fun i=>by
  induction i with
  | zero=>exact fun _=>⟨.inl rfl,fun j hj=>by omega⟩
  | succ i ih =>
   intro hi
   obtain ⟨h1,h2⟩:=ih (by omega)
   unfold D5
   split
   ·rename_i hlt
    refine ⟨.inr (by omega),fun j hj=> ?_⟩
    by_cases e:j=i
    ·subst e;exact A5q _
    ·have:=h2 j (by omega);omega
   ·rename_i hlt
    refine ⟨.inr (by rcases Vs (ss.map (ldS z.S)) i with h | h <;> omega),fun j hj=> ?_⟩
    by_cases e:j=i
    ·subst e;omega
    ·exact h2 j (by omega)
 obtain ⟨m1,m2⟩:=hmax ss.length (A5q _)
 have hlen:(F6 (ss.map (ldS z.S))).1.toNat<ss.length:=(A08.1 hg).1
 have hat:∀ j,j<ss.length→∃ g',ss[j]? =some g'∧(J3 (ss.map (ldS z.S)) j).s=g':=fun j hj=>by
  refine ⟨ss[j],A1d hj,?_⟩
  unfold J3
  simp only [A00,A29,A1d hj,A4n,A32]
  rfl
 have hm:=m2 _ hlen
 obtain ⟨g1,e1,e2⟩:=hat _ hlen
 have:g1=g:=by rw [hg] at e1;exact (A4o e1).symm
 subst this
 have hll:D5 (ss.map (ldS z.S)) ss.length<ss.length:=by omega
 obtain ⟨g2,f1,f2⟩:=hat _ hll
 rw [e2,f2] at hm
 obtain ⟨b2,hb2,hsq2,hgb2,hgs2,_,_⟩:=hs.mem (A2a f1)
 have hbl:(b:Int)=z.L.last:=by rw [← hgb];exact hl
 have hbb:b2=b:=by
  rcases hZ.lv.lst with ⟨h1,_⟩ | ⟨l,h1,h2,h3,h4⟩
  ·omega
  ·have hlb:l=b:=by omega
   subst hlb
   by_cases e:b2=l
   ·exact e
   ·have:=h4 b2 hb2 e
    rw [hgs,hgs2] at hm
    omega
 have hnd:(ss.map (·.b)).Nodup:=by
  have h1:(ss.map (·.b))=(ss.map Wp).map (·.1):=by rw [A49];rfl
  rw [h1]
  refine (hs.1.map (·.1)).nodup_iff.2 ?_
  have key:∀ j,((M0 z.L.bs z.R j).map (·.1)).Nodup∧∀ x∈(M0 z.L.bs z.R j).map (·.1),x<(j:Int):=fun j=>by
   induction j with
   | zero=>exact ⟨A4w,fun x hx=>by cases hx⟩
   | succ j ih =>
    unfold M0
    rw [A4e]
    split
    ·simp only [A5a,A37]
     exact ⟨ih.1,fun x hx=>by have:=ih.2 x hx;omega⟩
    ·refine ⟨A3d.2 ⟨ih.1,by simp,fun a ha c hc e=> ?_⟩,fun x hx=> ?_⟩
     ·simp only [A45,A5a,A2z] at hc
      have:=ih.2 a ha
      omega
     ·rcases A4f.1 hx with h | h
      ·have:=ih.2 x h;omega
      ·simp only [A45,A5a,A2z] at h
       omega
  exact (key z.L.nb).1
 have hidx:(F6 (ss.map (ldS z.S))).1.toNat=D5 (ss.map (ldS z.S)) ss.length:=by
  have e3:(ss.map (·.b))[(F6 (ss.map (ldS z.S))).1.toNat]? =some (b:Int):=by rw [A29,hg,A4n,hgb]
  have e4:(ss.map (·.b))[D5 (ss.map (ldS z.S)) ss.length]? =some (b:Int):=by rw [A29,f1,A4n,hgb2,hbb]
  obtain ⟨x1,x2⟩:=A08.1 e3
  obtain ⟨y1,y2⟩:=A08.1 e4
  exact (List.getElem_inj hnd).1 (x2.trans y2.symm)
 have h9:=hok.2
 apply h9
 have hvF:F6 (ss.map (ldS z.S))=Cx (ss.map (ldS z.S)) (D5 (ss.map (ldS z.S)) ss.length:Nat) ss.length:=by unfold F6;rw [A4b]
 have hv0:0≤(F6 (ss.map (ldS z.S))).1:=by rw [hvF];exact hin.1
 rw [← hvF]
 omega
def ColR (n:Nat) (q:Qt) (z:Sg) (e:Int) (z':Sg):Prop :=
 ∃ ss:List Seg,SegsOf z ss∧(((F6 (ss.map (ldS z.S))).2=false∧e=40∧z'=z) ∨
  ((F6 (ss.map (ldS z.S))).2=true∧∃ (g:Seg) (b:Nat),ss[(F6 (ss.map (ldS z.S))).1.toNat]? =some g∧g.b=b∧(b:Int)≠z.L.last∧EmR n q b (F7 b 2 (z.R b)) z e z'))
def Ax2 (n:Nat) (q:Qt) (z:Sg):Prop:=∀ b:Nat,b<z.L.nb→(bAt z.L.bs b).seq.toNat≠0→(b:Int)≠z.L.last→∀ z1,EmA n q (F7 b 2 (z.R b)) z 0 z1→∀ j:Nat,j<8→Jf z1.S ((b:Int),(j:Int))=false
theorem Qd (b:Int):∀ (r:List Pg) (i:Nat),(F7 b i r).length≤r.length
 | [],_=>A5q _
 | p::r,i=>by
  have:=Qd b r (i+1)
  show ((if _ then _ else _)++F7 b (i+1) r).length≤_
  rw [A2x,A3v]
  split <;> simp <;> omega
theorem LZ.rlen {n nb k:Nat} {q:Qt} {d:Dsk} {bs:List LB} {last:Int} {V:Nat→Blk} {R:Nat→List Pg} (h:LZ n nb k q d bs last V R) {b:Nat} (hb:b<nb):(F7 b 2 (R b)).length≤6:=by
 have h1:=Qd b (R b) 2
 rcases h.lv.blk b hb with ⟨_,r⟩ | u
 ·rw [r];exact A5s _
 ·have:=u.cnt.len;omega
theorem Ap3 (xs:List Ldv):0≤(F6 xs).1:=(Ku _ _ _).1
section
variable {n k:Nat} {q:Qt} {z:Sg}
theorem Agp (h:WI n k q z) (hk:k≤299999900000) (hq:q.n≤3) (h12:z.L.nb≤B6 z.L.bs z.L.nb+40) (hB:Ax2 n q z) :
  Does Tryz.prog 152 [ptr z.S.st] ((z.S.st,true,C (stC z.S) tSt)::(z.S.ib,true,z.S.idx.obj .i64)::(z.S.pb,true,z.S.pend.obj .i64)::(lgH z.L++[]))
  (fun v H=>∃ (e:Int) (z':Sg),v= .int .i64 e∧H=(z'.S.st,true,C (stC z'.S) tSt)::(z'.S.ib,true,z'.S.idx.obj .i64)::(z'.S.pb,true,z'.S.pend.obj .i64)::(lgH z'.L++[])∧z'.S.st=z.S.st∧ColR n q z e z'∧(e≠30→WI n (k+1000) q z')):=by
 obtain ⟨V,hZ⟩:=h.2
 have hnb:z.L.nb≤40:=(by have:=hZ.num;have:=hZ.dv.di.wf.n2;omega)
 refine zF 56 Tryz.func152 ?_
 refine zA ?_
 refine Ah (show Rd _ _ _ _ (ptr z.L.lg) from by rw [← h.1];exact Al rfl mM rfl) rfl ?_
 refine zE rfl (Ais hZ h12) ?_
 rintro _ _ ⟨s,l0,rfl,rfl,hp0,hso,hpm,hst,hro,hln⟩
 refine zW ?_
 have hSO:SegsOf z s.list:=⟨hpm,hst⟩
 have hsn:s.list.length≤40:=(by omega)
 refine I1 (G6 (α:=Ldv) (T:=tLd)) ?_
 refine At [0,3,17,18] kQ (fun (st:Nat×Sl Ldv)=>[(19,.int .i64 st.1),(4,st.2.val)]) (fun st=>(st.2.hp tLd++((z.S.st,true,C (stC z.S) tSt)::(z.S.ib,true,z.S.idx.obj .i64)::(z.S.pb,true,z.S.pend.obj .i64)::(lgH z.L++(s.hp Iz++(Je l0++[])))))) (fun st=>st.1≤s.list.length∧st.2.list=(s.list.take st.1).map (ldS z.S)∧st.2.isOwn=true) (fun st=>s.list.length - st.1) ((0,Sl.nil)) ⟨A5s _,rfl,rfl⟩ kP sP ?_
 rintro ⟨i,lds⟩ ⟨g0,g1,g2⟩
 simp only at g0 g1 g2
 have hll:lds.list.length≤40:=(by rw [g1,A4b,A3x];omega)
 refine zC ?_
 refine Ae rfl (fun c20=> ?_) (fun c20=> ?_)
 ·simp only [A3j,A1k] at c20
  obtain ⟨g,hg⟩:∃ g,s.list[i]? =some g:=⟨_,A1d (by omega)⟩
  have hgl:g∈l0:=hp0.mem_iff.2 (A2a hg)
  obtain ⟨bN,hbN,_,_,_,_,hrl⟩:=hSO.mem (A2a hg)
  have hr6:g.recs.list.length≤6:=(by rw [hrl];exact hZ.rlen hbN)
  refine zA ?_
  refine Ah (A7 (s:=s) rfl rfl (by omega)) rfl ?_
  refine Ah (Dd (s:=s) (o:=0) rfl pL hg rfl rfl) rfl ?_
  refine Aj rfl (fun b6=> ?_)
  refine zC ?_
  refine At [0,3,4,6,17,18,19,24,25] kQ (fun (j:Nat)=>[(26,.int .i64 j),(7,.int .i64 (Gs z.S (g.recs.list.take j):Nat))]) (fun j=>(b6,true,C (Ze g) Iz)::(lds.hp tLd++((z.S.st,true,C (stC z.S) tSt)::(z.S.ib,true,z.S.idx.obj .i64)::(z.S.pb,true,z.S.pend.obj .i64)::(lgH z.L++(s.hp Iz++(Je l0++[])))))) (fun j=>j≤g.recs.list.length) (fun j=>g.recs.list.length - j) (0) (A5s _) kP sP ?_
  rintro j k0
  refine zC ?_
  refine Ae rfl (fun c27=> ?_) (fun c27=> ?_)
  ·simp only [A3j,A1k] at c27
   obtain ⟨x,hgx⟩:∃ x,g.recs.list[j]? =some x:=⟨_,A1d (by omega)⟩
   have hct:=Alb (S:=z.S) hgx
   have hcle:Gs z.S (g.recs.list.take j)≤6:=(by have:=List.countP_le_length (p:=Jf z.S) (l:=g.recs.list.take j);rw [A3x] at this;unfold Gs;omega)
   refine zA ?_
   refine Ah (A7 (s:=g.recs) rfl rfl (by omega)) rfl ?_
   refine Ah (Xp (s:=g.recs) (o:=0) rfl (Ait hgl pL) hgx rfl rfl) rfl ?_
   refine Aj rfl (fun b9=> ?_)
   refine zC ?_
   refine zI rfl (Rs (S:=z.S) (x:=x)) ?_
   refine zC ?_
   refine Ae rfl (fun c32=> ?_) (fun c32=> ?_)
   ·skip
    have hcT:Gs z.S (g.recs.list.take (j+1))=Gs z.S (g.recs.list.take j)+1:=(by rw [hct,if_pos (show Jf z.S x=true from c32)])
    refine zC ?_
    first | exact ⟨j+1,by omega,by omega,(by rw [hcT];exact kP),kP,_,sP⟩ | exact ⟨j+1,by omega,by omega,(by rw [hcF];exact kP),kP,_,sP⟩
   ·skip
    have hcF:Gs z.S (g.recs.list.take (j+1))=Gs z.S (g.recs.list.take j):=(by rw [hct,if_neg (by rw [show Jf z.S x=false from c32];decide),A5e])
    refine zC ?_
    first | exact ⟨j+1,by omega,by omega,(by rw [hcT];exact kP),kP,_,sP⟩ | exact ⟨j+1,by omega,by omega,(by rw [hcF];exact kP),kP,_,sP⟩
  ·simp only [A3j,A1k] at c27
   have hj:j=g.recs.list.length:=(by omega)
   subst hj
   rw [A30]
   refine zC ?_
   refine Ao rfl rfl rfl rfl (fun b40=> ?_)
   refine Az (s:=lds) (new:=[(⟨g,(Gs z.S g.recs.list:Nat)⟩:Ldv)]) (m:=1) rfl rfl pL g2 (Ch (r:=true) mM rfl) rfl rfl rfl rfl (by omega) rfl (fun s' hs1 hs2=> ?_)
   refine zC ?_
   exact ⟨(i+1,s'),⟨by simp only;omega,by simp only;rw [hs1,g1,A3g,hg,A4e];rfl,hs2⟩,(by simp only;omega),lZ⟩
 ·simp only [A3j,A1k] at c20
  have hi:i=s.list.length:=(by omega)
  subst hi
  rw [A30] at g1
  refine zC ?_
  refine zI rfl (Aud (s:=lds)) ?_
  refine zC ?_
  refine Ae rfl (fun c49=> ?_) (fun c49=> ?_)
  ·skip
   have hv:(F6 (s.list.map (ldS z.S))).2=false:=(by rw [← g1];simpa using c49)
   refine zC ?_
   exact zL (hR:=by exact ⟨40,z,rfl,rfl,rfl,⟨s.list,hSO,.inl ⟨hv,rfl,rfl⟩⟩,fun _=>h.mono (by omega)⟩)
  ·skip
   have hv:(F6 (s.list.map (ldS z.S))).2=true:=(by rw [← g1];simpa using c49)
   have hok:=Rt hv
   have hin:=Ku (s.list.map (ldS z.S)) (D5 (s.list.map (ldS z.S)) (s.list.map (ldS z.S)).length:Nat) (s.list.map (ldS z.S)).length
   rw [A4b] at hok hin
   have hvl:(F6 lds.list).1.toNat<s.list.length:=(by rw [g1];show (Cx _ _ _).1.toNat<_;rw [A4b];omega)
   have hv0:=Ap3 lds.list
   obtain ⟨g,hg⟩:∃ g,s.list[(F6 lds.list).1.toNat]? =some g:=⟨_,A1d hvl⟩
   have hgl:g∈l0:=hp0.mem_iff.2 (A2a hg)
   obtain ⟨bN,hbN,hsq,hgb,_,_,hrl⟩:=hSO.mem (A2a hg)
   have hr6:g.recs.list.length≤6:=(by rw [hrl];exact hZ.rlen hbN)
   have hnl:(bN:Int)≠z.L.last:=(by rw [← hgb];exact Alc h hSO hv (by rw [← g1];exact hg))
   obtain ⟨l1,l2,rfl⟩:=List.append_of_mem hgl
   refine zA ?_
   refine Ah (A7 (s:=s) rfl rfl (by omega)) rfl ?_
   refine Ah (Dd (s:=s) (o:=0) rfl pL hg rfl rfl) rfl ?_
   rw [Ap2]
   refine zE rfl (Ap1 (z:=z) h (by omega) hq (s:=g) hgb (by rw [hrl];exact Ax1 hbN hsq) (by omega) (by rw [hrl];exact hB bN hbN hsq hnl)) ?_
   rintro _ _ ⟨e1,z1,rfl,rfl,hst1,hE,hW⟩
   refine zW ?_
   exact zL (hR:=by exact ⟨e1,z1,rfl,rfl,hst1,⟨s.list,hSO,.inr ⟨hv,g,bN,by rw [← g1];exact hg,hgb,hnl,by rw [← hrl];exact hE⟩⟩,fun h9=>(hW h9).mono (by omega)⟩)
end
end
end Go.Proofs.YtpmojdippdlcaaaGreatDoor
