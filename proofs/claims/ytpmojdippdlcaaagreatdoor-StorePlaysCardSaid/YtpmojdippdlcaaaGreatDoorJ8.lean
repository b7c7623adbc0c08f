/- every call of any script on a store answers as the document says, while acts of the chip fail, as long as there are spares, and leaves the document's nodes, also when it is opened again; its conditions are the statement's own: the bounds of scripts, bodies and fails; the conditions are the statement's own: part 8. -/
import Derived.Test.YtpmojdippdlcaaaGreatDoorJ6
import Derived.Test.YtpmojdippdlcaaaGreatDoorJ7
set_option linter.unusedVariables false
set_option linter.unusedSimpArgs false
set_option maxRecDepth 100000
set_option maxHeartbeats 1000000
set_option synthInstance.maxSize 4000
set_option synthInstance.maxHeartbeats 400000
namespace Go.Proofs.YtpmojdippdlcaaaGreatDoor
section
open Go.K
variable {T:TypeId}
instance fld33_0:Fld Tryz.prog 33 0 0:=⟨⟨_,_,0,Tryz.underlying33,rfl,by kernel_rfl,rfl⟩⟩
instance fld33_4:Fld Tryz.prog 33 4 4:=⟨⟨_,_,2,Tryz.underlying33,rfl,by kernel_rfl,rfl⟩⟩
structure StQ (n i:Nat) (q:Qt) (A:Ab) (z:Sg) (r:RSt):Prop where
  std:Std A z
  wi:WI n (2000+200000000*i) q z
  af:z.L.d.c.after<0
  nb:z.L.nb+6=n
  rs:RSame A z.L.nb r
  sn:A.seen.toNat≤3*i
theorem Azz {l:List Chg} {i:Nat} {x:Chg} (hi:i<l.length) (D:Hp):cbH (l.set i x)++D=cbH (l.take i)++(x.body.hp tU8++(cbH (l.drop (i+1))++D)):=by
  have hg:(l.set i x)[i]? =some x:=by rw [A39];simp [hi]
  rw [R8 hg,List.take_set_of_le (A6h _),List.drop_set_of_lt (by omega)]
theorem Ask {α:Type} {l:List α} {i:Nat} {x:α} (h:l[i]? =some x):l.set i x=l:=by
  obtain ⟨hi,rfl⟩:=List.getElem?_eq_some_iff.1 h
  exact List.set_getElem_self hi
theorem RSt.note_nd (r:RSt) (v:Vw):(r.note v).nd=r.nd:=by unfold RSt.note;split <;> rfl
section
variable {n i:Nat} {q:Qt} {A:Ab} {z:Sg} {r:RSt}
theorem Awv (h:StQ n i q A z r) (hn:n≤40) (hi:i≤400) (hq:q.n≤3) {ep:Wd} {cs:Sl Chg} (hc:cs.list.length≤300) :
    Does Tryz.prog 16 [ptr z.S.st,wv ep,cs.val] (Cz T::(z.S.st,true,C (stC z.S) tSt)::(z.S.ib,true,z.S.idx.obj .i64)::(z.S.pb,true,z.S.pend.obj .i64)::(z.S.sb,true,z.S.stray.obj .i64)::(lgH z.L++(cs.hp tCg++(cbH cs.list++[]))))
    (fun v H=>∃ (e:Int) (A':Ab) (z':Sg),v= .int .i64 e∧H=Cz T::(z'.S.st,true,C (stC z'.S) tSt)::(z'.S.ib,true,z'.S.idx.obj .i64)::(z'.S.pb,true,z'.S.pend.obj .i64)::(z'.S.sb,true,z'.S.stray.obj .i64)::(lgH z'.L++(cs.hp tCg++(cbH cs.list++[])))∧z'.S.st=z.S.st ∧
      Std A' z'∧WI n (2000+200000000*(i+1)) q z'∧z'.L.d.c.after<0∧z'.L.nb=z.L.nb ∧
      ((Bo z ep cs.list=true∧e=1∧A'=A)∨(Bo z ep cs.list=false∧B2 z cs.list=true∧e=40∧A'=A)∨(Bo z ep cs.list=false∧B2 z cs.list=false∧e=0∧ComA A ep cs.list A'))):=by
  have hnb:=h.nb
  refine (Wp h.std h.wi (by omega) hq h.af (by omega) hc).mono ?_
  rintro v H ⟨e,z',rfl,rfl,hst,⟨hw,hfra,hcc⟩,_⟩
  have hnb:=Axe h.wi hw
  have haf:z'.L.d.c.after<0:=by rw [(hfra.pos h.af).1];exact h.af
  have hW:WI n (2000+200000000*(i+1)) q z':=hw.mono (by omega)
  rcases hcc with ⟨h1,h2,rfl⟩ | ⟨h1,h2,h3,rfl⟩ | ⟨h1,h2,h3,A',h4,h5⟩
  · exact ⟨e,A,z',rfl,rfl,hst,h.std,hW,haf,hnb,.inl ⟨h1,h2,rfl⟩⟩
  · exact ⟨e,A,z',rfl,rfl,hst,h.std,hW,haf,hnb,.inr (.inl ⟨h1,h2,h3,rfl⟩)⟩
  · exact ⟨e,A',z',rfl,rfl,hst,h5,hW,haf,hnb,.inr (.inr ⟨h1,h2,h3,h4⟩)⟩
theorem StQ.com {A':Ab} {z':Sg} {r':RSt} {ep:Wd} {cs cs':List Chg} {e e':Int} (h:StQ n i q A z r) (hi:i≤400) (hep:ep.toNat≤A.seen.toNat+3) (hcs:cs.map M9=cs'.map M9)
    (h1:Std A' z') (h2:WI n (2000+200000000*(i+1)) q z') (h3:z'.L.d.c.after<0) (h4:z'.L.nb=z.L.nb)
    (h5:(Bo z ep cs=true∧e=1∧A'=A)∨(Bo z ep cs=false∧B2 z cs=true∧e=40∧A'=A)∨(Bo z ep cs=false∧B2 z cs=false∧e=0∧ComA A ep cs A'))
    (h6:(r'={ r with seen:=z.S.seen }∧((Mc { r with seen:=z.S.seen } ep cs'=true∧e'=1)∨(Mc { r with seen:=z.S.seen } ep cs'=false∧e'=40∧∃ l,CSame cs' l∧r.lim<Na (B1 ep { r with seen:=z.S.seen } l) 256))) ∨
       (e'=0∧Mc { r with seen:=z.S.seen } ep cs'=false∧∃ l,CSame cs' l∧(Na (B1 ep { r with seen:=z.S.seen } l) 256:Int)≤r.lim∧r'={ B1 ep { r with seen:=z.S.seen } l with ep:=ep,seen:=ep })) :
    e=e'∧e≠30∧StQ n (i+1) q A' z' r':=by
  have hr:RSame A z.L.nb { r with seen:=z.S.seen }:=⟨⟨h.rs.ok.nd,h.rs.ok.th⟩,h.rs.ep,h.rs.vw,h.rs.viewed,h.rs.lim,h.rs.nd⟩
  have hb:=Azy (r:={ r with seen:=z.S.seen }) (z:=z) (ep:=ep) hcs rfl
  have hsn:=h.sn
  have hnb:=h.nb
  have cnt:∀ l,CSame cs' l→Na (B1 ep { r with seen:=z.S.seen } l) 256=(C7 (Bw z cs) 256).length:=fun l hl=>by
    have hl':CSame cs l:=⟨by rw [hl.eq,hcs],hl.ok,hl.nd⟩
    rw [h.std.lv]
    exact Aez (hl'.live hr h.std) 256 (A6h _)
  have mk:∀ {A':Ab} {r':RSt},Std A' z'→RSame A' z.L.nb r'→A'.seen.toNat≤3*(i+1)→StQ n (i+1) q A' z' r':=fun a b c=>⟨a,h2,h3,by rw [h4];exact hnb,by rw [h4];exact b,c⟩
  rcases h5 with ⟨a1,rfl,rfl⟩ | ⟨a1,a2,rfl,rfl⟩ | ⟨a1,a2,rfl,a3⟩
  · rw [hb] at a1
    rcases h6 with ⟨rfl,⟨_,rfl⟩ | ⟨b1,_⟩⟩ | ⟨_,b1,_⟩
    · exact ⟨rfl,by decide,mk h1 hr (by omega)⟩
    · rw [a1] at b1;cases b1
    · rw [a1] at b1;cases b1
  · rw [hb] at a1
    unfold B2 at a2
    rw [A4f] at a2
    rcases h6 with ⟨rfl,⟨b1,_⟩ | ⟨_,rfl,_⟩⟩ | ⟨_,_,l,hl,b2,_⟩
    · rw [a1] at b1;cases b1
    · exact ⟨rfl,by decide,mk h1 hr (by omega)⟩
    · have:=cnt l hl;have:=h.rs.lim;omega
  · rw [hb] at a1
    unfold B2 at a2
    rw [A2m] at a2
    rcases h6 with ⟨rfl,⟨b1,_⟩ | ⟨_,_,l,hl,b2⟩⟩ | ⟨rfl,_,l,hl,_,rfl⟩
    · rw [a1] at b1;cases b1
    · have:=cnt l hl;have:=h.rs.lim;omega
    · have hl':CSame cs l:=⟨by rw [hl.eq,hcs],hl.ok,hl.nd⟩
      have hgt:=h.std.gt (ep:=ep) (cs:=cs) (by rw [hb];exact a1)
      have hls:=h.std.ls
      exact ⟨rfl,by decide,mk h1 (hl'.com hr h.std h1 a3 (by omega)) (by rw [a3.seen];omega)⟩
theorem Az0 (h:StQ n i q A z r) (hn:n≤40) (hi:i≤100) (hq:q.n≤3) {d:Nat} {o:OpS} (h40:o.ch.list.length≤40) (hsm:SmallC o.ch.list) :
    Does Tryz.prog 31 [ptr z.S.st,ptr d,.agg (Ar2 o).toArray] (Cz T::(z.S.st,true,C (stC z.S) tSt)::(z.S.ib,true,z.S.idx.obj .i64)::(z.S.pb,true,z.S.pend.obj .i64)::(z.S.sb,true,z.S.stray.obj .i64)::(lgH z.L++((d,true,C (rsC r) tRs)::(C8 r.nd++(o.ch.hp tCg++(cbH o.ch.list++[]))))))
    (fun v H=>∃ (d':Nat) (e:Int) (A':Ab) (z':Sg) (r':RSt),v= .tuple #[ptr d',.int .i64 e,.bool true]∧H=Cz T::(z'.S.st,true,C (stC z'.S) tSt)::(z'.S.ib,true,z'.S.idx.obj .i64)::(z'.S.pb,true,z'.S.pend.obj .i64)::(z'.S.sb,true,z'.S.stray.obj .i64)::(lgH z'.L++((d',true,C (rsC r') tRs)::(C8 r'.nd++(o.ch.hp tCg++(cbH o.ch.list++[])))))∧z'.S.st=z.S.st∧e≠30∧StQ n (i+1) q A' z' r'):=by
  have hnb:=h.nb
  have hsn:=h.sn
  refine zF 112 Tryz.func31 ?_
  refine zC ?_
  refine Cy rfl rfl (fun b5=> ?_)
  refine zC ?_
  refine Aa rfl (fun c21=> ?_) (fun c21=> ?_)
  · try simp at c21
    refine zC ?_
    refine Ch rfl (Arz h.std h.wi (by omega) hq h.af (by omega) (v:=o.vw)) sP rfl (fun v25 Y25 h25=> ?_)
    obtain ⟨z1,rfl,rfl,hst1,hsb1,hstr1,hw1,hF1,hs1⟩:=h25
    have hnb1:=Axe h.wi hw1
    rw [← hsb1,← hstr1]
    refine A6 aQ ?_
    refine zC ?_
    refine zE rfl (Ash h.rs.ok (v:=o.vw)) ?_
    rintro _ _ ⟨d1,rfl,rfl⟩
    refine zW ?_
    exact Bb (N1 Tryz.results31 (Af rfl) (Af rfl) (Af rfl)) (by exact ⟨d1,0,A.note o.vw,z1,r.note o.vw,by simp,rfl,hst1,by decide,hs1,hw1.mono (by omega),by rw [(hF1.pos h.af).1];exact h.af,by rw [hnb1];exact hnb,by rw [hnb1];exact h.rs.note _,by have e9:(A.note o.vw).seen=A.seen:=(by unfold Ab.note;split <;> rfl);rw [e9];omega⟩) (by rw [RSt.note_nd];exact sP)
  · try simp at c21
    refine zC ?_
    refine Aa rfl (fun c40=> ?_) (fun c40=> ?_)
    · try simp at c40
      refine zC ?_
      refine Ch rfl (Ae3 h.std h.wi (by omega) hq h.af) sP rfl (fun v42 Y42 h42=> ?_)
      obtain ⟨t1,c1,rfl,rfl,hw1,hF1⟩:=h42
      have hs1:=h.std.disk t1 c1
      obtain ⟨z1,hz1⟩:∃ z1,z1=z.disk t1 c1:=⟨_,rfl⟩
      rw [show z.S=z1.S from by rw [hz1];rfl,← hz1]
      have hf1:z1.S=z.S∧z1.L.nb=z.L.nb∧z1.L.d.c=c1:=(by rw [hz1];exact ⟨rfl,rfl,rfl⟩)
      rw [← hz1] at hw1 hs1
      refine A6 aQ ?_
      refine zC ?_
      exact zL (hR:=by exact ⟨d,0,A,z1,r,by simp,rfl,by rw [hf1.1],by decide,hs1,hw1.mono (by omega),by rw [hf1.2.2,(hF1.pos h.af).1];exact h.af,by rw [hf1.2.1];exact hnb,by rw [hf1.2.1];exact h.rs,by omega⟩)
    · try simp at c40
      refine zC ?_
      refine zE rfl (Ag8 (S:=z.S) (o:=o)) ?_
      rintro _ _ ⟨w53,rfl,rfl,hw53⟩
      refine zW ?_
      refine zI rfl (Tz (S:=z.S)) ?_
      refine zA ?_
      refine Ac (cs':=rsC { r with seen:=z.S.seen }) rfl rfl uD rfl rfl (h.rs.ok.setS _) ?_
      refine zC ?_
      refine zE rfl (Ag9 (cs:=o.ch) h40 hsm) ?_
      rintro _ _ ⟨c61,rfl,rfl,hc61,ho61,hb61⟩
      refine zW ?_
      have hcl:c61.list.length≤40:=(by have:=A6r List.length hc61;rw [A46,A46] at this;omega)
      refine zE rfl (Awv h hn (by omega) hq (ep:=w53) (cs:=c61) (by omega)) ?_
      rintro _ _ ⟨e65,A2,z2,rfl,rfl,hst2,hS2,hW2,ha2,hn2,hc2⟩
      refine zW ?_
      refine Ar [1,5,11,12,13,67] kQ (fun (st:Nat×List Chg)=>[(68,.int .i64 st.1)]) (fun st=>((b5,true,C (Ar2 o) tOs)::Cz T::(z2.S.st,true,C (stC z2.S) tSt)::(z2.S.ib,true,z2.S.idx.obj .i64)::(z2.S.pb,true,z2.S.pend.obj .i64)::(z2.S.sb,true,z2.S.stray.obj .i64)::(lgH z2.L++(c61.hp tCg++(cbH st.2++((d,true,C (rsC { r with seen:=z.S.seen }) tRs)::(C8 r.nd++(o.ch.hp tCg++(cbH o.ch.list++[]))))))))) (fun st=>st.1≤c61.list.length∧st.2.map W9=c61.list.map W9∧∀ c∈st.2,c.body.isOwn=true) (fun st=>c61.list.length - st.1) ((0,c61.list)) ⟨A6j _,rfl,hb61⟩ kP sP ?_
      rintro ⟨j,l⟩ ⟨g0,g1,g2⟩
      simp only at g0 g1 g2
      have hll:l.length=c61.list.length:=(by have:=A6r List.length g1;rwa [A46,A46] at this)
      refine zC ?_
      refine Aa rfl (fun c69=> ?_) (fun c69=> ?_)
      · simp only [A4f,A2m] at c69
        obtain ⟨c0,hg0⟩:∃ c,c61.list[j]? =some c:=⟨_,A2i (by omega)⟩
        obtain ⟨c,hg⟩:∃ c,l[j]? =some c:=⟨_,A2i (by omega)⟩
        have hcc:W9 c=W9 c0:=(by have h9:=A6r (·[j]?) g1;simp only [A38,hg,hg0,A5h,A4e] at h9;exact h9)
        have hcv:c.body.val=c0.body.val:=(by unfold W9 at hcc;simp only [A43] at hcc;exact hcc.2.2.1)
        rw [R8 hg]
        have hco:=g2 c (A3b hg)
        refine zA ?_
        refine Ae (Az (s:=c61) rfl rfl (by omega)) rfl ?_
        refine zA ?_
        refine Ae (show Rd _ _ _ _ c.body.val from by rw [hcv];exact Ca (s:=c61) (o:=2) rfl pL hg0 rfl rfl) rfl ?_
        refine zC ?_
        refine Ar [1,5,11,12,13,14,67,68,76] kQ (fun (st:Nat×Sl By)=>[(77,.int .i64 st.1)]) (fun st=>((b5,true,C (Ar2 o) tOs)::Cz T::(z2.S.st,true,C (stC z2.S) tSt)::(z2.S.ib,true,z2.S.idx.obj .i64)::(z2.S.pb,true,z2.S.pend.obj .i64)::(z2.S.sb,true,z2.S.stray.obj .i64)::(lgH z2.L++(c61.hp tCg++(cbH (l.take j)++(st.2.hp tU8++(cbH (l.drop (j+1))++((d,true,C (rsC { r with seen:=z.S.seen }) tRs)::(C8 r.nd++(o.ch.hp tCg++(cbH o.ch.list++[]))))))))))) (fun st=>st.1≤c.body.list.length∧st.2.val=c.body.val∧st.2.isOwn=true∧st.2.list.length=c.body.list.length) (fun st=>c.body.list.length - st.1) ((0,c.body)) ⟨A6j _,rfl,hco,rfl⟩ kP sP ?_
        rintro ⟨m,s⟩ ⟨k0,k1,k2,k3⟩
        simp only at k0 k1 k2 k3
        have hsm1:=s.small
        refine zC ?_
        refine Aa rfl (fun c78=> ?_) (fun c78=> ?_)
        · simp only [A4f,A2m] at c78
          obtain ⟨y,hy⟩:∃ y,s.list[m]? =some y:=⟨_,A2i (by omega)⟩
          refine zA ?_
          refine Ae (Az (s:=c61) rfl rfl (by omega)) rfl ?_
          refine zA ?_
          refine Ae (show Rd _ _ _ _ s.val from by rw [k1,hcv];exact Ca (s:=c61) (o:=2) rfl pL hg0 rfl rfl) rfl ?_
          refine zA ?_
          refine Ae (Az (s:=s) rfl rfl (by omega)) rfl ?_
          obtain ⟨s',hs'⟩:∃ s',s'=s.set m 238:=⟨_,rfl⟩;refine Ni (s:=s) (o:=0) (z':=(238:By)) rfl rfl uL k2 hy rfl rfl rfl (by rw [T1 k2];first | exact A6c _ | (simp only [A33];exact A6c _)) ?_;rw [← hs'];have hv':s'.val=s.val:=(by rw [hs',Sl.set_val]);have ho':s'.isOwn=true:=(by rw [hs'];exact Sl.set_isOwn _ _ _ k2);have hl':s'.list.length=s.list.length:=(by rw [hs',Sl.set_list _ _ _ k2,A47])
          refine zC ?_
          exact ⟨(m+1,s'),⟨by simp only;omega,by simp only;rw [hv',k1],ho',by simp only;omega⟩,by simp only;omega,lZ⟩
        · simp only [A4f,A2m] at c78
          refine zC ?_
          exact ⟨(j+1,l.set j { c with body:=s }),⟨by simp only;omega,by simp only;rw [← g1,List.map_set];refine Ask ?_;rw [A38,hg];show some (W9 c)=some (W9 { c with body:=s });unfold W9;rw [k1],fun x hx=>by rcases List.mem_or_eq_of_mem_set hx with h9 | h9;exact g2 x h9;rw [h9];exact k2⟩,by simp only;omega,kP,kP,_,(by simp only;rw [Azz (by omega)];exact sP)⟩
      · simp only [A4f,A2m] at c69
        have hj:j=c61.list.length:=(by omega)
        subst hj
        refine zC ?_
        refine Ch rfl (Ae1 (r:={ r with seen:=z.S.seen }) (ep:=w53) (cs:=o.ch) ⟨h.rs.ok.nd,h.rs.ok.th⟩ h40 hsm) sP rfl (fun v94 Y94 h94=> ?_)
        obtain ⟨d3,e3,r3,rfl,rfl,hR3⟩:=h94
        obtain ⟨hee,he30,hQ⟩:=h.com (by omega) (by rw [hw53,h.std.seen];exact A1g _ _ (by omega)) hc61 hS2 hW2 ha2 hn2 hc2 (hR3.imp (fun h9=>h9.2) id)
        refine A6 aQ ?_
        refine zC ?_
        refine Aa rfl (fun c98=> ?_) (fun c98=> ?_)
        · skip
          have hd3:d3=d:=(by rcases hR3 with ⟨h9,_⟩ | ⟨h9,_⟩;exact h9;rw [h9] at c98;simp at c98)
          refine zC ?_
          exact zL (hR:=by exact ⟨d3,e65,A2,z2,r3,by rw [hd3,hee];simp,rfl,hst2,he30,hQ⟩)
        · skip
          have he0:e65=0:=(by rw [hee];simpa using c98)
          refine zC ?_
          exact zL (hR:=by exact ⟨d3,e65,A2,z2,r3,by rw [he0];simp,rfl,hst2,he30,hQ⟩)
end
end
section
open Go.K
variable {T:TypeId}
theorem Asl {pp:Nat} {n:Int} (hn:Js n []=false):Does Tryz.prog 47 [ptr pp,.int .i64 n,.slice none 0 0] [(pp,true,C [.bool false,.int .i64 (-1),.int .i64 0] tPw)]
  (fun v H=>v= .tuple #[.pointer none,.int .i64 1]∧H=[]):=by
 have h:=Aid (pp:=pp) (n:=n) (s:= .nil) (T:=tI)
 rw [Sl.hp_nil] at h
 refine h.mono fun v H hh=> ?_
 rcases hh with ⟨aC,aB,h1,h2,h3⟩ | ⟨h1,h2,_⟩
 ·rw [show (Sl.nil:Sl Int).list=[] from rfl,hn] at h3;cases h3
 ·exact ⟨h1,h2⟩
theorem Amf {m:Int} (hm:¬ (16≤m∧m≤40)):Does Tryz.prog 15 [.int .i64 m] [] (Is (.pointer none) []):=by
 have hok:Js m []=false:=by
  cases h:Js m [] with
  | false=>rfl
  | true=>exact absurd (Aox h) hm
 refine zF 21 Tryz.func15 ?_
 refine zC ?_
 refine zE rfl (Sy) ?_
 rintro _ _ ⟨p8,rfl,rfl⟩
 refine zW ?_
 refine zE rfl (Asl hok) ?_
 rintro _ _ ⟨rfl,rfl⟩
 refine zW ?_
 refine Es rfl ?_
 refine zC ?_
 exact zS
theorem Asm {m:Int} {sc:Sl OpS} {fl:Sl Int} (hm:¬ (16≤m∧m≤40)):Does Tryz.prog 8 [.int .i64 m,sc.val,fl.val] (sc.hp tOs++(opH sc.list++(fl.hp tI++(Cz T::[])))) (fun v H=>v= .bool true):=by
 refine zF 121 Tryz.func8 ?_
 refine zC ?_
 refine zI rfl (S9) ?_
 refine zC ?_
 refine Ay rfl ?_
 refine zC ?_
 refine zE rfl (Aew (sc:=sc)) ?_
 rintro _ _ ⟨g21,rfl,rfl,hg21⟩
 refine zW ?_
 refine Aa rfl (fun c26=> ?_) (fun c26=> ?_)
 ·skip
  refine zC ?_
  exact zL (hR:=by rfl)
 ·skip
  refine zC ?_
  refine zI rfl (Amf hm) ?_
  refine zC ?_
  refine Es rfl ?_
  refine zC ?_
  exact zL (hR:=by simp;omega)
theorem Asn (lim:Int):C8 (rs0 lim).nd=[]:=by
 unfold C8 rs0
 rw [List.flatMap_eq_nil_iff]
 intro x hx
 rw [(List.mem_replicate.1 hx).2]
 exact Sl.hp_nil _
theorem RSame.new {m nb:Nat} (hm:16≤m∧m≤40) (hn:nb+6=m):RSame ab0 nb (rs0 (3*(m:Int) - 29)):=by
 refine ⟨Azu _,rfl,rfl,rfl,?_,fun k hk=>⟨?_,fun e b h=>by cases h⟩⟩
 ·rw [Aeq (by omega)];show 3*(m:Int) - 29=_;omega
 ·show (List.replicate 256 false).getD k false=_
  rw [A18,A2l,A6v hk]
  rfl
def Sg.fails (z:Sg) (s:Sl Int):Sg:=⟨z.S,z.L.chip (Gl z.L.d.c true s),z.R⟩
theorem Laid11.stq {m:Nat} {z:Sg} (h:Laid11 m z) (hm:16≤m∧m≤40) {s:Sl Int} (hs:s.list.length≤2):StQ m 0 ⟨2,(q0 m).u⟩ ab0 (z.fails s) (rs0 (3*(m:Int) - 29)) :=
 ⟨(h.std hm).chip _,WI.fail (u:=(q0 m).u) h.wi hs (by omega),h.af,h.nb,RSame.new hm h.nb,A6j _⟩
theorem Amg {m:Nat} {sc:Sl OpS} {fl:Sl Int} (hm:16≤m∧m≤40):Does Tryz.prog 8 [.int .i64 (m:Nat),sc.val,fl.val] (sc.hp tOs++(opH sc.list++(fl.hp tI++(Cz T::[])))) (fun v H=>v= .bool true):=by
 have hsm:=sc.small
 have hsf:=fl.small
 refine zF 121 Tryz.func8 ?_
 refine zC ?_
 refine zI rfl (S9) ?_
 refine zC ?_
 refine Ay rfl ?_
 refine zC ?_
 refine zE rfl (Aew (sc:=sc)) ?_
 rintro _ _ ⟨g21,rfl,rfl,hg21⟩
 refine zW ?_
 refine Aa rfl (fun c26=> ?_) (fun c26=> ?_)
 ·skip
  refine zC ?_
  exact zL (hR:=by rfl)
 ·skip
  obtain ⟨hg0,hf2⟩:g21=false∧fl.list.length≤2:=(by revert c26;cases g21 <;> simp <;> omega)
  obtain ⟨hl1,hl2⟩:=hg21 hg0
  refine zC ?_
  refine zE rfl (Zk hm) ?_
  rintro _ _ ⟨z0,rfl,rfl,hL⟩
  refine zW ?_
  refine Ay rfl ?_
  refine zC ?_
  refine Am rfl rfl rfl rfl (fun b37=> ?_)
  refine zC ?_
  refine Ar [0,1,7,38,39] kQ (fun (st:Nat×Sl Int)=>[(40,.int .i64 st.1),(8,st.2.val)]) (fun st=>(st.2.hp tI++(Cz T::(z0.S.st,true,C (stC z0.S) tSt)::(z0.S.ib,true,z0.S.idx.obj .i64)::(z0.S.pb,true,z0.S.pend.obj .i64)::(z0.S.sb,true,z0.S.stray.obj .i64)::(lgH z0.L++(sc.hp tOs++(opH sc.list++(fl.hp tI++[]))))))) (fun st=>st.1≤fl.list.length∧st.2.list.length=st.1∧st.2.isOwn=true) (fun st=>fl.list.length - st.1) ((0,.own b37 [] 0 [] ⟨by simp,A6h _,by simp⟩)) ⟨A6j _,rfl,rfl⟩ kP (by show Split _ (Sl.hp tI (.own b37 [] 0 [] _)++_) _;rw [Sl.hp_own];exact sP) ?_
  rintro ⟨i,s⟩ ⟨g0,g1,g2⟩
  simp only at g0 g1 g2
  refine zC ?_
  refine Aa rfl (fun c41=> ?_) (fun c41=> ?_)
  ·simp only [A4f,A2m] at c41
   obtain ⟨x,hx⟩:∃ x,fl.list[i]? =some x:=⟨_,A2i (by omega)⟩
   refine zA ?_
   refine Ae (Az (s:=fl) rfl rfl (by omega)) rfl ?_
   refine Ae (Ca (s:=fl) (o:=0) rfl pL hx rfl rfl) rfl ?_
   refine zC ?_
   refine Am rfl rfl rfl rfl (fun b51=> ?_)
   refine A5 (s:=s) (new:=[(_:Int)]) (m:=1) rfl rfl pL g2 (Ck (r:=true) mM rfl) rfl rfl rfl rfl (by omega) rfl (fun s' hs1 hs2=> ?_)
   refine zC ?_
   exact ⟨(i+1,s'),⟨by simp only;omega,by simp only;rw [hs1,A3x,g1];rfl,hs2⟩,by simp only;omega,lZ⟩
  ·simp only [A4f,A2m] at c41
   refine zA ?_
   refine Ae (show Rd _ _ _ _ (ptr z0.L.lg) from by rw [← hL.wi.1];exact Al rfl mM rfl) rfl ?_
   refine zA ?_
   refine Ae (M6 (L:=z0.L) rfl pL) rfl ?_
   refine zA ?_
   refine Ae (V8 (L:=z0.L) rfl pL) rfl ?_
   refine zC ?_
   refine Ch rfl (Awr (L:=z0.L) (pr:=true) (s:=s) (by omega)) sP rfl (fun v65 Y65 h65=> ?_)
   obtain ⟨s65,rfl,rfl,hs65⟩:=h65
   have hQ0:=hL.stq hm (s:=s65) (by rw [hs65];omega)
   obtain ⟨z1,hz1⟩:∃ z1,z1=z0.fails s65:=⟨_,rfl⟩
   rw [← hz1] at hQ0
   rw [show z0.L.chip (Gl z0.L.d.c true s65)=z1.L from by rw [hz1];rfl,show z0.S=z1.S from by rw [hz1];rfl]
   refine A6 aQ ?_
   refine zC ?_
   refine zE rfl (Asf hm) ?_
   rintro _ _ ⟨d67,rfl,rfl⟩
   refine zW ?_
   refine Ar [7,68,69] kQ (fun (st:Nat×Ab×Sg×RSt×Nat)=>[(70,.int .i64 st.1),(11,ptr st.2.2.2.2)]) (fun st=>(Cz T::(st.2.2.1.S.st,true,C (stC st.2.2.1.S) tSt)::(st.2.2.1.S.ib,true,st.2.2.1.S.idx.obj .i64)::(st.2.2.1.S.pb,true,st.2.2.1.S.pend.obj .i64)::(st.2.2.1.S.sb,true,st.2.2.1.S.stray.obj .i64)::(lgH st.2.2.1.L++((st.2.2.2.2,true,C (rsC st.2.2.2.1) tRs)::(C8 st.2.2.2.1.nd++(sc.hp tOs++(opH sc.list++[]))))))) (fun st=>st.1≤sc.list.length∧StQ m st.1 ⟨2,(q0 m).u⟩ st.2.1 st.2.2.1 st.2.2.2.1∧st.2.2.1.S.st=z1.S.st) (fun st=>sc.list.length - st.1) ((0,ab0,z1,rs0 (3*(m:Int) - 29),d67)) ⟨A6j _,hQ0,rfl⟩ kP (by rw [Asn];exact sP) ?_
   rintro ⟨j,A,z,r,d⟩ ⟨k0,k1,k2⟩
   simp only at k0 k1 k2
   rw [← k2]
   refine zC ?_
   refine Aa rfl (fun c71=> ?_) (fun c71=> ?_)
   ·simp only [A4f,A2m] at c71
    obtain ⟨o,hgo⟩:∃ o,sc.list[j]? =some o:=⟨_,A2i (by omega)⟩
    rw [Ar3 hgo]
    obtain ⟨ho1,ho2⟩:=hl2 o (A3b hgo)
    refine zA ?_
    refine Ae (Az (s:=sc) rfl rfl (by omega)) rfl ?_
    refine Ae (Cq (s:=sc) (o:=0) rfl pL hgo rfl rfl) rfl ?_
    refine Ah rfl (fun b13=> ?_)
    refine zC ?_
    refine Ch rfl (Az0 k1 hm.2 (by omega) (by show 2≤3;omega) (d:=d) (o:=o) ho1 ho2) sP rfl (fun v78 Y78 h78=> ?_)
    obtain ⟨d2,e2,A2,z2,r2,rfl,rfl,hst2,he2,hI2⟩:=h78
    rw [← hst2]
    refine A6 aQ ?_
    refine zC ?_
    refine Aa rfl (fun c87=> ?_) (fun c87=> ?_)
    ·skip
     exact absurd c87 (by simp;exact he2)
    ·skip
     refine zC ?_
     refine zI rfl (Ae4 hI2.std hI2.wi hI2.rs) ?_
     refine zC ?_
     refine Ay rfl ?_
     refine zC ?_
     exact ⟨(j+1,A2,z2,r2,d2),⟨by simp only;omega,hI2,rfl⟩,by simp only;omega,lZ⟩
   ·simp only [A4f,A2m] at c71
    refine zA ?_
    refine Ae (show Rd _ _ _ _ (ptr z.L.lg) from by rw [← k1.wi.1];exact Al rfl mM rfl) rfl ?_
    refine zA ?_
    refine Ae (M6 (L:=z.L) rfl pL) rfl ?_
    refine zA ?_
    refine Ae (V8 (L:=z.L) rfl pL) rfl ?_
    refine Ch rfl (Al9 k1.std k1.wi (by have:=k1.nb;omega)) sP rfl (fun v104 Y104 h104=> ?_)
    obtain ⟨z3,rfl,rfl,hw3,hc3,hn3,A3,hS3,h31,h32,h33,h34,_⟩:=h104
    have hr3:RSame A3 z3.L.nb r:=(by rw [hn3];exact k1.rs.same h31 h32 h33 h34)
    have hse:r.ep.toNat≤z3.S.seen.toNat:=(by have:=hS3.ls;rw [hS3.seen,hr3.ep];exact this)
    refine A6 aQ ?_
    refine zC ?_
    refine At [(2,[(0,false),(1,false)]),(7,[(2,false),(3,false),(4,false),(5,true),(6,false)]),(16,[(7,false),(8,false),(10,false),(11,false),(12,false),(13,false),(9,true),(14,false),(15,false)]),(17,[(16,false)])] (by kernel_rfl) ?_
    refine zA ?_
    refine Aj (Ac8 rfl rfl) ?_
    iterate 3 refine sa ?_
    refine' Fe rfl rfl inferInstance rfl rfl rfl rfl rfl (fun hg107=> ?_) ?_
    rotate_left
    ·try (simp at hg107;show _)
     refine zC ?_
     refine zI rfl (Ae4 hS3 hw3 hr3) ?_
     refine zC ?_
     exact D9 rfl sP
    iterate 3 refine sa ?_
    refine' Fe rfl rfl inferInstance rfl rfl rfl rfl rfl (fun hg112=> ?_) ?_
    rotate_left
    ·try (simp at hg112;show _)
     refine zA ?_
     refine Aj (Al rfl mM hr3.ok.nthE) ?_
     refine zC ?_
     refine zI rfl (Tz (S:=z3.S)) ?_
     refine zC ?_
     exact D9 rfl sP
    refine zC ?_
    exact zL (hR:=by simp;omega)
end
end Go.Proofs.YtpmojdippdlcaaaGreatDoor
