/- For every input, the program's store tells the view with the greatest number of those that were noted (lemmas of the proof); the conditions are the statement's own: part 3. -/
import Derived.Test.YtpmojdippdlcaaaGreatDoorJ2
import Derived.Test.YtpmojdippdlcaaaGreatDoorJ0
import Derived.Test.YtpmojdippdlcaaaGreatDoorJ1
set_option linter.unusedVariables false
set_option linter.unusedSimpArgs false
set_option maxRecDepth 100000
set_option maxHeartbeats 1000000
namespace Go.Proofs.YtpmojdippdlcaaaGreatDoor
section
open Go.K
instance und297:Und Tryz.prog 297 (.slice 147):=⟨Tryz.underlying297⟩
instance ent230:Ent Tryz.prog 230:=⟨fun _ _=>by kernel_rfl⟩
theorem Apg (p:Pg):((vbc p).all (·.oneCell'))=true:=by
 rw [A00]
 intro x hx
 obtain ⟨y,_,rfl⟩:=A2b.1 hx
 rfl
instance:Cel Pg:=⟨258,vbc,fun _=>Ar,Apg⟩
def E4 (c:Chip) (src to':Int) (i:Int):Int×Chip:=if Aww c src i=0 then B1 c to' i (Dv (B0 c src i)) else (Aww c src i,c)
def Fm:Nat→Chip→Int→Int→Int→Int×Chip
 | 0,c,_,_,_=>(0,c)
 | f+1,c,src,to',i=>if (E4 c src to' i).1≠0 then E4 c src to' i else Fm f (E4 c src to' i).2 src to' (i+1)
def K6:List Pg→Chip→Int→Int→Int×Chip
 | [],c,_,_=>(0,c)
 | p::ps,c,to',i=>if (B1 c to' i p).1≠0 then B1 c to' i p else K6 ps (B1 c to' i p).2 to' (i+1)
def fillC (c:Chip) (src to':Int) (count:Nat) (more:List Pg):Int×Chip :=
 if (Fm count c src to' 0).1≠0 then Fm count c src to' 0 else K6 more (Fm count c src to' 0).2 to' count
theorem Zu (c:Chip) (src to' i:Int):(E4 c src to' i).2.aC=c.aC:=by
 unfold E4
 split
 ·exact Fh _ _ _ _
 ·rfl
theorem Avh {l:List Pg} {i:Nat} {p:Pg} (h:l[i]? =some p):l.drop i=p::l.drop (i+1):=by
 obtain ⟨h1,h2⟩:=Aym.1 h
 rw [Ayq h1,h2]
section
variable {c:Chip} {t:Tab} {a dk:Nat}
theorem Aph (ha:c.aC=a) {b to':Int} {count:Nat} {more:Sl Pg} (hc:count≤8) (hm:more.list.length≤1000) :
  Does Tryz.prog 230 [ptr dk,.int .i64 b,.int .i64 to',.int .i64 (count:Nat),more.val] ((dk,true,C [ptr a,ptr t.b] tDk)::(Dk a t++(chH c++(more.hp tPg++[]))))
  (Is (.int .i64 (fillC c (atD t.ts b) to' count more.list).1) ((dk,true,C [ptr a,ptr t.b] tDk)::(Dk a t++(chH (fillC c (atD t.ts b) to' count more.list).2++(more.hp tPg++[]))))):=by
 refine Ah (n:=64) Tryz.func230 Tryz.ntmps230 rfl (Ay9 rfl)<|Ad<|Aa fun ops=>oA rfl<|Ac<|n_K<|Ad<|Ad<|Aa fun ops=>oM rfl<|oM rfl<|Ac<|n_K<|Ak ?_
 refine A8 [0,1,2,3,4,17] kQ (fun (st:Nat×Chip)=>[(18,.int .i64 st.1)]) (fun (st:Nat×Chip)=>(dk,true,C [ptr a,ptr t.b] tDk)::(Dk a t++(chH st.2++(more.hp tPg++[])))) (fun (st:Nat×Chip)=>st.1≤count∧st.2.aC=a∧Fm (count - st.1) st.2 (atD t.ts b) to' st.1=Fm count c (atD t.ts b) to' 0) (fun (st:Nat×Chip)=>count - st.1) ((0,c)) ⟨A2r _,ha,rfl⟩ kP sP ?_
 rintro ⟨i,c1⟩ ⟨h0,h1,h2⟩
 simp only at h0 h1 h2
 refine Ad<|Aa fun ops=>oR (Ae rfl rfl rfl)<|Ac<|n_K<|Ad ?_
 refine Aj rfl (fun c19=> ?_) (fun c19=> ?_)
 ·simp only [A0d,Ayz] at c19
  have hgo:Fm (count - i) c1 (atD t.ts b) to' i=if (E4 c1 (atD t.ts b) to' i).1≠0 then E4 c1 (atD t.ts b) to' i else Fm (count - (i+1)) (E4 c1 (atD t.ts b) to' i).2 (atD t.ts b) to' ((i:Int)+1):=(by rw [show count - i=(count - (i+1))+1 by omega];rfl)
  rw [h2] at hgo
  refine Ai<|n_K<|Ad<|Ak<|Ad<|Aa fun ops=>oM rfl<|oA rfl<|Ac<|n_K<|Ad<|Aa fun ops=>oM rfl<|oM rfl ?_
  refine oM rfl ?_
  refine A6 rfl (Zt (c:=c1) (t:=t) (dk:=dk) h1) sP rfl aQ ?_
  refine oM rfl<|oE rfl rfl<|oE rfl rfl ?_
  refine Aw rfl fun b12=> ?_
  first | refine Af rfl rfl uD (Ct) (Ar) (B2 (by first | exact Ar | exact Azc ..)) ?_ | refine Af rfl rfl uD rfl rfl rfl ?_
  refine oA rfl<|Ac<|n_K<|Ad<|Ad<|Aa fun ops=>oM rfl<|oR (Ae rfl rfl rfl)<|Ac<|n_K ?_
  refine Aj rfl (fun c29=> ?_) (fun c29=> ?_)
  ·skip
   have hf1:E4 c1 (atD t.ts b) to' i=B1 c1 to' i (Dv (B0 c1 (atD t.ts b) i)):=(by unfold E4;rw [A25 (by simpa using c29)])
   refine s_draw [] [(8,[(0,false),(1,false),(2,false),(3,false),(4,false),(5,false),(6,false),(7,true)]),(9,[(8,true)]),(10,[(9,false)])] (by kernel_rfl) rfl fun ops w0 H0 y=> ?_
   refine A4<|xM rfl<|xN rfl<|xF rfl ?_
   refine xR (Al rfl mM rfl) ?_
   refine xM rfl<|xM rfl ?_
   refine xR (Au rfl mM (by first | exact Bg | rfl)) ?_
   refine Be ?_
   refine A6 rfl (Agz (p:=B0 c1 (atD t.ts b) i)) sP rfl aQ ?_
   refine Ac ⟨rfl,⟨_,sP⟩,?_⟩
   refine Am<|Bh<|Be ?_
   refine A6 rfl (Mg (c:=c1) h1) sP rfl aQ ?_
   refine Ac ⟨rfl,⟨_,sP⟩,?_⟩
   refine Am<|A4<|xA rfl<|Am<|Bm<|n_K<|Ad<|Aa fun ops=>oM rfl<|oR (Ae rfl rfl rfl)<|Ac<|n_K ?_
   refine Aj rfl (fun c40=> ?_) (fun c40=> ?_)
   ·skip
    have hres:fillC c (atD t.ts b) to' count more.list=E4 c1 (atD t.ts b) to' i:=(by have hne:(E4 c1 (atD t.ts b) to' i).1≠0:=(by rw [hf1];simpa using c40);rw [A25 hne] at hgo;unfold fillC;rw [hgo,A25 hne])
    rw [hf1] at hres
    refine Ad<|Aa fun ops=>oM rfl<|oA rfl<|Ac<|n_K<|An<|Bn<|r_K<|r_K<|Bn<|r_K ?_
    refine Aq (At Tryz.results230 (Ag rfl)) ?_ (by rw [hres];exact sP)
    rw [hres]
   ·skip
    have hz:(E4 c1 (atD t.ts b) to' i).1=0:=(by rw [hf1];simpa using c40)
    rw [A26 (by rw [hz];simp),hf1] at hgo
    refine Ai<|Az<|n_K<|Aa fun ops=> ?_
    refine oR (Ao rfl rfl (by omega)) ?_
    refine oM rfl<|Ac<|n_K ?_
    first | exact ⟨(i+1,(B1 c1 to' i (Dv (B0 c1 (atD t.ts b) i))).2),⟨by simp only;omega,(Fh _ _ _ _).trans h1,by simp only;exact hgo.symm⟩,by simp only;omega,lZ⟩ | exact ⟨(i+1,c1),⟨by simp only;omega,h1,by simp only;exact hgo.symm⟩,by simp only;omega,lZ⟩
  ·skip
   have hf1:E4 c1 (atD t.ts b) to' i=(Aww c1 (atD t.ts b) i,c1):=(by unfold E4;rw [A26 (by simpa using c29)])
   refine Ai<|n_K<|Ad<|Aa fun ops=>oM rfl<|oR (Ae rfl rfl rfl)<|Ac<|n_K ?_
   refine Aj rfl (fun c40=> ?_) (fun c40=> ?_)
   ·skip
    have hres:fillC c (atD t.ts b) to' count more.list=E4 c1 (atD t.ts b) to' i:=(by have hne:(E4 c1 (atD t.ts b) to' i).1≠0:=(by rw [hf1];simpa using c40);rw [A25 hne] at hgo;unfold fillC;rw [hgo,A25 hne])
    rw [hf1] at hres
    refine Ad<|Aa fun ops=>oM rfl<|oA rfl<|Ac<|n_K<|An<|Bn<|r_K<|r_K<|Bn<|r_K ?_
    refine Aq (At Tryz.results230 (Ag rfl)) ?_ (by rw [hres];exact sP)
    rw [hres]
   ·skip
    have hz:(E4 c1 (atD t.ts b) to' i).1=0:=(by rw [hf1];simpa using c40)
    rw [A26 (by rw [hz];simp),hf1] at hgo
    refine Ai<|Az<|n_K<|Aa fun ops=> ?_
    refine oR (Ao rfl rfl (by omega)) ?_
    refine oM rfl<|Ac<|n_K ?_
    first | exact ⟨(i+1,(B1 c1 to' i (Dv (B0 c1 (atD t.ts b) i))).2),⟨by simp only;omega,(Fh _ _ _ _).trans h1,by simp only;exact hgo.symm⟩,by simp only;omega,lZ⟩ | exact ⟨(i+1,c1),⟨by simp only;omega,h1,by simp only;exact hgo.symm⟩,by simp only;omega,lZ⟩
 ·simp only [A0d,Ayz] at c19
  have hic:i=count:=(by omega)
  subst hic
  have hz:Fm i c (atD t.ts b) to' 0=(0,c1):=(by rw [← h2,A2l];rfl)
  refine Bb<|x_K<|x_K<|Bj<|n_K<|Ad<|Ad<|Aa fun ops=>oM rfl<|oR (A7 rfl)<|oM rfl<|Ac<|n_K<|Ak ?_
  refine A8 [0,2,3,43,44] kQ (fun (st:Nat×Chip)=>[(45,.int .i64 st.1)]) (fun (st:Nat×Chip)=>(dk,true,C [ptr a,ptr t.b] tDk)::(Dk a t++(chH st.2++(more.hp tPg++[])))) (fun (st:Nat×Chip)=>st.1≤more.list.length∧st.2.aC=a∧K6 (more.list.drop st.1) st.2 to' ((i:Int)+st.1)=K6 more.list c1 to' i) (fun (st:Nat×Chip)=>more.list.length - st.1) ((0,c1)) ⟨A2r _,h1,by simp⟩ kP sP ?_
  rintro ⟨j,c2⟩ ⟨k0,k1,k2⟩
  simp only at k0 k1 k2
  refine Ad<|Aa fun ops=>oR (Ae rfl rfl rfl)<|Ac<|n_K<|Ad ?_
  refine Aj rfl (fun c46=> ?_) (fun c46=> ?_)
  ·simp only [A0d,Ayz] at c46
   obtain ⟨p,hg⟩:∃ p,more.list[j]? =some p:=⟨_,Ayw (by omega)⟩
   rw [Avh hg] at k2
   refine Ai<|n_K<|Ad<|Ak<|Ad<|Aa fun ops=>oM rfl ?_
   refine oR (Bk rfl rfl (by omega)) ?_
   refine oR (Do (o:=0) rfl pL hg Bg rfl) ?_
   refine Aw rfl fun b15=> ?_
   refine oA rfl ?_
   first | refine Af rfl rfl uD (Ct) (Ar) (B2 (by first | exact Ar | exact Azc ..)) ?_ | refine Af rfl rfl uD rfl rfl rfl ?_
   refine Ac<|n_K<|Ad ?_
   refine s_draw [] [(9,[(0,false),(1,false),(2,false),(3,false),(4,false),(5,false),(6,false),(7,false),(8,false)]),(10,[(9,true)]),(11,[(10,false)])] (by kernel_rfl) rfl fun ops w0 H0 y=> ?_
   refine A4<|xM rfl<|xN rfl<|xF rfl ?_
   refine xR (Al rfl mM rfl) ?_
   refine xM rfl<|xM rfl<|xM rfl ?_
   refine xR (Ao rfl rfl (by omega)) ?_
   refine xR (Au rfl mM (by first | exact Bg | rfl)) ?_
   refine Am<|Bh<|Be ?_
   refine A6 rfl (Mg (c:=c2) k1) sP rfl aQ ?_
   refine Ac ⟨rfl,⟨_,sP⟩,?_⟩
   refine Am<|A4<|xA rfl<|Am<|Bm<|n_K<|Ad<|Aa fun ops=>oM rfl<|oR (Ae rfl rfl rfl)<|Ac<|n_K ?_
   refine Aj rfl (fun c61=> ?_) (fun c61=> ?_)
   ·skip
    have hres:fillC c (atD t.ts b) to' i more.list=B1 c2 to' ((i:Int)+j) p:=(by have hne:(B1 c2 to' ((i:Int)+j) p).1≠0:=(by simpa using c61);unfold fillC;rw [hz,A26 (by simp),← k2];exact A25 hne)
    refine Ad<|Aa fun ops=>oM rfl<|oA rfl<|Ac<|n_K<|An<|Bn<|r_K<|r_K<|Bn<|r_K ?_
    refine Aq (At Tryz.results230 (Ag rfl)) ?_ (by rw [hres];exact sP)
    rw [hres]
   ·skip
    have hk:K6 (more.list.drop (j+1)) (B1 c2 to' ((i:Int)+j) p).2 to' ((i:Int)+j+1)=K6 more.list c1 to' i:=(by rw [← k2];exact (A26 (by simpa using c61)).symm)
    refine Ai<|Az<|n_K<|Aa fun ops=> ?_
    refine oR (Ao rfl rfl (by omega)) ?_
    refine oM rfl<|Ac<|n_K ?_
    exact ⟨(j+1,(B1 c2 to' ((i:Int)+j) p).2),⟨by simp only;omega,(Fh _ _ _ _).trans k1,by simp only;rw [← hk];congr 1⟩,(by simp only;omega),lZ⟩
  ·simp only [A0d,Ayz] at c46
   have hres:fillC c (atD t.ts b) to' i more.list=(0,c2):=(by unfold fillC;rw [hz,A26 (by simp),← k2,Ay7 (by omega)];rfl)
   refine Bb<|x_K<|x_K<|Bj<|n_K<|Ad<|Aa fun ops=>oA rfl<|Ac<|n_K<|An ?_
   refine Aq (At Tryz.results230 (Ag rfl)) ?_ (by rw [hres];exact sP)
   rw [hres]
end
end
section
open Go.K
instance ent208:Ent Tryz.prog 208:=⟨fun _ _=>by kernel_rfl⟩
theorem Sj (c:Chip) (src to' i:Int):Ga (E4 c src to' i).2=Ga c:=by
 unfold E4
 split
 ·exact Id _ _ _ _
 ·rfl
theorem Qx (src to':Int):∀ (f:Nat) (c:Chip) (i:Int),Ga (Fm f c src to' i).2=Ga c∧(Fm f c src to' i).2.aC=c.aC
 | 0,c,i=>⟨rfl,rfl⟩
 | f+1,c,i=>by
  unfold Fm
  split
  ·exact ⟨Sj _ _ _ _,Zu _ _ _ _⟩
  ·obtain ⟨h1,h2⟩:=Qx src to' f (E4 c src to' i).2 (i+1)
   exact ⟨h1.trans (Sj _ _ _ _),h2.trans (Zu _ _ _ _)⟩
theorem Sk (to':Int):∀ (ps:List Pg) (c:Chip) (i:Int),Ga (K6 ps c to' i).2=Ga c∧(K6 ps c to' i).2.aC=c.aC
 | [],c,i=>⟨rfl,rfl⟩
 | p::ps,c,i=>by
  unfold K6
  split
  ·exact ⟨Id _ _ _ _,Fh _ _ _ _⟩
  ·obtain ⟨h1,h2⟩:=Sk to' ps (B1 c to' i p).2 (i+1)
   exact ⟨h1.trans (Id _ _ _ _),h2.trans (Fh _ _ _ _)⟩
theorem Acs (c:Chip) (src to':Int) (count:Nat) (more:List Pg):Ga (fillC c src to' count more).2=Ga c∧(fillC c src to' count more).2.aC=c.aC:=by
 obtain ⟨h1,h2⟩:=Qx src to' count c 0
 unfold fillC
 split
 ·exact ⟨h1,h2⟩
 ·obtain ⟨h3,h4⟩:=Sk to' more (Fm count c src to' 0).2 count
  exact ⟨h3.trans h1,h4.trans h2⟩
def I0 (c:Chip) (src to':Int) (count:Nat) (more:List Pg):Int×Chip:=if (B3 c to').1=0 then fillC (B3 c to').2 src to' count more else B3 c to'
theorem L6 (c:Chip) (src to':Int) (count:Nat) (more:List Pg):Ga (I0 c src to' count more).2=Ga c∧(I0 c src to' count more).2.aC=c.aC:=by
 unfold I0
 split
 ·obtain ⟨h1,h2⟩:=Acs (B3 c to').2 src to' count more
  exact ⟨h1.trans (It _ _),h2.trans (Hn _ _)⟩
 ·exact ⟨It _ _,Hn _ _⟩
inductive MoveR (n:Nat) (block:Int) (count:Nat) (more:List Pg):Chip→TS→Int×TS×Chip→Prop
 | none {c:Chip} {t:TS}:(Bu t n).2=false→MoveR n block count more c t (34,t,c)
 | err {c:Chip} {t:TS} {e:Int} {c':Chip}:(Bu t n).2=true→I0 c (atD t block) (Bu t n).1 count more=(e,c')→e≠0→e≠33→MoveR n block count more c t (e,t,c')
 | swap {c:Chip} {t:TS} {c':Chip} {r:Int×TS×Chip}:(Bu t n).2=true→I0 c (atD t block) (Bu t n).1 count more=(0,c')→As8 t c' block (Bu t n).1 r→MoveR n block count more c t r
 | bad {c:Chip} {t:TS} {c':Chip} {e:Int} {t':TS} {c'':Chip}:(Bu t n).2=true→I0 c (atD t block) (Bu t n).1 count more=(33,c')→Afs t c' (Bu t n).1 (e,t',c'')→e≠0→MoveR n block count more c t (e,t',c'')
 | again {c:Chip} {t:TS} {c':Chip} {t':TS} {c'':Chip} {r:Int×TS×Chip}:(Bu t n).2=true→I0 c (atD t block) (Bu t n).1 count more=(33,c')→Afs t c' (Bu t n).1 (0,t',c'')→MoveR n block count more c'' t' r→MoveR n block count more c t r
structure WT (n:Nat) (t:TS):Prop where
 wf:WF n t.uses t.lost
 next:0≤t.next
 area:0≤t.area∧t.area≤1
theorem Acu {t:TS} {u l:List Int} {c:Chip} (h:(B6 t u l c).1=0):(B6 t u l c).2.1.uses=u∧(B6 t u l c).2.1.lost=l:=by
 unfold B6 at h ⊢
 simp only [] at h ⊢
 split at h
 ·rename_i h1;exact absurd h h1
 ·rename_i h1
  rw [A26 h1]
  exact ⟨rfl,rfl⟩
theorem Jh {t:TS} {n:Nat} (h:(Bu t n).2=true):D5 t n (Bu t n).1=true:=by
 unfold Bu at h ⊢
 cases h2:Ko t n with
 | none=>rw [h2] at h;cases h
 | some b =>
  unfold Ko at h2
  simpa using List.find?_some h2
theorem WT.lost {n:Nat} {t:TS} {c c':Chip} {t':TS} (h:WT n t) (hn:c.blocks.length=n) (hs:(Bu t n).2=true) (hd:Afs t c (Bu t n).1 (0,t',c')):WT n t'∧t'.lost.length=t.lost.length+1∧Ga c'=Ga c∧c'.aC=c.aC:=by
 have hb:=Jh hs
 obtain ⟨l,hp,he⟩:=hd.1 (by rw [hn];exact hb)
 have h0:(B6 t t.uses l c).1=0:=by rw [← he]
 have ht:t'=(B6 t t.uses l c).2.1:=by rw [← he]
 have hc:c'=(B6 t t.uses l c).2.2:=by rw [← he]
 obtain ⟨h1,h2⟩:=Acu h0
 rw [← ht] at h1 h2
 have hk:=Aqs t t.uses l c h.next h.area
 rw [← ht] at hk
 refine ⟨⟨by rw [h1,h2];exact h.wf.lose hb hp,?_,?_⟩,by rw [h2,hp.length_eq];simp,by rw [hc];exact Ads _ _ _ _,by rw [hc];exact Aa1 _ _ _ _⟩
 ·rcases hk with e | ⟨_,_,e,_⟩
  ·rw [e];exact h.next
  ·exact e
 ·rcases hk with e | ⟨_,_,_,e⟩
  ·rw [e];exact h.area
  ·exact e
theorem WT.tab {n:Nat} {t:Tab} (h:WT n t.ts):t.u.list.length≤1000∧t.l.list.length≤4∧0≤t.next∧(0≤t.area∧t.area≤1):=by
 have h1:=h.wf.n2
 have h2:t.u.list.length+6=n:=h.wf.len
 have h3:t.l.list.length≤4:=h.wf.lost4
 exact ⟨by omega,h3,h.next,h.area⟩
section
variable {c:Chip} {t:Tab} {a dk n:Nat}
theorem Aez (ha:c.aC=a) (hn:c.blocks.length=n) (hw:WT n t.ts) {b:Int} {count:Nat} {more:Sl Pg} (hc:count≤8) (hm:more.list.length≤1000) :
  Does Tryz.prog 208 [ptr dk,.int .i64 b,.int .i64 (count:Nat),more.val] ((dk,true,C [ptr a,ptr t.b] tDk)::(Dk a t++(chH c++(more.hp tPg++[]))))
  (fun v H=>∃ (t':Tab) (e:Int) (c':Chip),t'.b=t.b∧v= .int .i64 e∧H=(dk,true,C [ptr a,ptr t'.b] tDk)::(Dk a t'++(chH c'++(more.hp tPg++[])))∧c'.aC=a∧MoveR n b count more.list c t.ts (e,t'.ts,c')):=by
 refine Ah (n:=57) Tryz.func208 Tryz.ntmps208 rfl (Ay9 rfl)<|Ad<|Aa fun ops=>oA rfl<|Ac<|n_K<|Ak ?_
 refine A8 [0,1,2,3] kQ (fun (st:Tab×Chip)=>[]) (fun (st:Tab×Chip)=>(dk,true,C [ptr a,ptr st.1.b] tDk)::(Dk a st.1++(chH st.2++(more.hp tPg++[])))) (fun (st:Tab×Chip)=>st.1.b=t.b∧st.2.aC=a∧st.2.blocks.length=n∧WT n st.1.ts∧∀ r,MoveR n b count more.list st.2 st.1.ts r→MoveR n b count more.list c t.ts r) (fun (st:Tab×Chip)=>5 - st.1.l.list.length) ((t,c)) ⟨rfl,ha,hn,hw,fun r h=>h⟩ kP sP ?_
 rintro ⟨t1,c1⟩ ⟨h0,h1,h2,h3,h4⟩
 simp only at h0 h1 h2 h3 h4
 obtain ⟨w1,w2,w3,w4⟩:=h3.tab
 refine Ak<|Ad<|Aa fun ops=>oM rfl<|oN rfl<|oF rfl ?_
 refine oR (Al rfl mM rfl) ?_
 refine A6 rfl ((Aji (t:=t1) (c:=c1) h1 (by have:=h3.wf.n2;omega)).to (by rw [h2]) rfl) sP rfl aQ ?_
 refine oM rfl<|oE rfl rfl<|oE rfl rfl<|oA rfl<|oA rfl<|Ac<|n_K<|Ad<|Ad<|Aa fun ops=>oM rfl<|oR (Bx rfl)<|Ac<|n_K ?_
 refine Aj rfl (fun c21=> ?_) (fun c21=> ?_)
 ·skip
  have hs:(Bu t1.ts n).2=false:=(by simpa using c21)
  refine Ad<|Aa fun ops=>oA rfl<|Ac<|n_K<|An<|r_K<|Bn<|r_K<|Bn ?_
  exact Av (At Tryz.results208 (Ag rfl)) (by exact ⟨t1,34,c1,h0,rfl,rfl,h1,h4 _ (.none hs)⟩) (by first | (rw [hb'];exact sP) | exact sP)
 ·skip
  have hs:(Bu t1.ts n).2=true:=(by simpa using c21)
  refine Ai<|n_K<|Ad<|Aa fun ops=>oM rfl<|oN rfl<|oF rfl ?_
  refine oR (Al rfl mM rfl) ?_
  refine oM rfl ?_
  refine A6 rfl (Ze (c:=c1) h1) sP rfl aQ ?_
  refine oA rfl<|Ac<|n_K<|Ad<|Ad<|Aa fun ops=>oM rfl<|oR (Ae rfl rfl rfl)<|Ac<|n_K ?_
  refine Aj rfl (fun c29=> ?_) (fun c29=> ?_)
  ·skip
   have htr:I0 c1 (atD t1.ts b) (Bu t1.ts n).1 count more.list=fillC (B3 c1 (Bu t1.ts n).1).2 (atD t1.ts b) (Bu t1.ts n).1 count more.list:=(by unfold I0;rw [A25 (by simpa using c29)])
   refine Aa fun ops=>oM rfl<|oM rfl<|oM rfl<|oM rfl<|oM rfl ?_
   refine A6 rfl (Aph (c:=(B3 c1 (Bu t1.ts n).1).2) (t:=t1) (dk:=dk) (to':=(Bu t1.ts n).1) ((Hn _ _).trans h1) hc hm) sP rfl aQ ?_
   refine oA rfl<|Ac<|n_K<|Ad<|Ad<|Aa fun ops=>oM rfl<|Ac<|n_K<|Ak<|Ad<|Aa fun ops=>oR (Ae rfl rfl rfl)<|oA rfl ?_
   refine Ac<|n_K ?_
   refine Aj rfl (fun c37=> ?_) (fun c37=> ?_)
   ·skip
    try (exfalso;((rw [c29] at c37;cases c37));done)
    all_goals
     rw [← htr] at c37 ⊢
     obtain ⟨hTb,hTa⟩:=L6 c1 (atD t1.ts b) (Bu t1.ts n).1 count more.list
     generalize hT:I0 c1 (atD t1.ts b) (Bu t1.ts n).1 count more.list=T at *
     have hTl:T.2.blocks.length=n:=(Fq hTb).trans h2
     have hTa':T.2.aC=a:=hTa.trans h1
     have hT0:I0 c1 (atD t1.ts b) (Bu t1.ts n).1 count more.list=(0,T.2):=(by rw [hT];exact Prod.ext (by simpa using c37) rfl)
     refine Ad<|Aa fun ops=>oM rfl<|oN rfl<|oF rfl ?_
     refine oR (Al rfl mM rfl) ?_
     refine oM rfl<|oM rfl ?_
     refine Bd rfl (Aa5 (c:=T.2) (t:=t1) hTa' w1 (by omega) w3 w4) sP rfl fun v45 Y45 h45=> ?_
     obtain ⟨t',e,c',hb',rfl,rfl,ha',hd⟩:=h45
     refine Ay aQ ?_
     refine oA rfl<|Ac<|n_K<|An<|Bn<|r_K<|Bn<|r_K<|Bn ?_
     exact Av (At Tryz.results208 (Ag rfl)) (by first | exact ⟨t',e,c',hb'.trans h0,rfl,rfl,ha',h4 _ (.swap hs hT0 hd)⟩ | exact ⟨t',e,c',hb'.trans h0,rfl,rfl,ha',h4 _ (.bad hs hT3 hd (by simpa using c55))⟩ | exact ⟨t1,T.1,T.2,h0,rfl,rfl,hTa',h4 _ (.err hs hT hTn hTn3)⟩) (by first | (rw [hb'];exact sP) | exact sP)
   ·skip
    rw [← htr] at c37 ⊢
    obtain ⟨hTb,hTa⟩:=L6 c1 (atD t1.ts b) (Bu t1.ts n).1 count more.list
    generalize hT:I0 c1 (atD t1.ts b) (Bu t1.ts n).1 count more.list=T at *
    have hTl:T.2.blocks.length=n:=(Fq hTb).trans h2
    have hTa':T.2.aC=a:=hTa.trans h1
    have hTn:T.1≠0:=(by simpa using c37)
    refine Ad<|Aa fun ops=>oR (Ae rfl rfl rfl)<|oA rfl<|Ac<|n_K ?_
    refine Aj rfl (fun c46=> ?_) (fun c46=> ?_)
    ·skip
     have hT3:I0 c1 (atD t1.ts b) (Bu t1.ts n).1 count more.list=(33,T.2):=(by rw [hT];exact Prod.ext (by simpa using c46) rfl)
     refine Aa fun ops=>oM rfl<|oN rfl<|oF rfl ?_
     refine oR (Al rfl mM rfl) ?_
     refine oM rfl ?_
     refine Bd rfl (Aa4 (c:=T.2) (t:=t1) hTa' w1 (by omega) w3 w4) sP rfl fun v53 Y53 h53=> ?_
     obtain ⟨t',e,c',hb',rfl,rfl,ha',hd⟩:=h53
     refine Ay aQ ?_
     refine oA rfl<|Ac<|Az<|n_K<|Ad<|Aa fun ops=>oM rfl<|oR (Ae rfl rfl rfl)<|Ac<|n_K ?_
     refine Aj rfl (fun c55=> ?_) (fun c55=> ?_)
     ·skip
      refine Ad<|Aa fun ops=>oM rfl<|oA rfl<|Ac<|n_K<|An<|Bn<|r_K<|Bn ?_
      exact Av (At Tryz.results208 (Ag rfl)) (by first | exact ⟨t',e,c',hb'.trans h0,rfl,rfl,ha',h4 _ (.swap hs hT0 hd)⟩ | exact ⟨t',e,c',hb'.trans h0,rfl,rfl,ha',h4 _ (.bad hs hT3 hd (by simpa using c55))⟩ | exact ⟨t1,T.1,T.2,h0,rfl,rfl,hTa',h4 _ (.err hs hT hTn hTn3)⟩) (by first | (rw [hb'];exact sP) | exact sP)
     ·skip
      try (exfalso;(rw [c37] at c55;cases c55);done)
      all_goals
       have he0:e=0:=(by simpa using c55)
       rw [he0] at hd
       obtain ⟨l1,l2,l3,l4⟩:=h3.lost hTl hs hd
       refine Ai<|Az<|n_K ?_
       exact ⟨(t',c'),⟨hb'.trans h0,ha',(Fq l3).trans hTl,l1,fun r hr=>h4 r (.again hs hT3 hd hr)⟩,(by have h5:t'.l.list.length=t1.l.list.length+1:=l2;simp only;omega),kP,kP,_,(by simp only;rw [hb'];exact sP)⟩
    ·skip
     have hTn3:T.1≠33:=(by simpa using c46)
     refine Ai<|Az<|n_K<|Ad<|Aa fun ops=>oM rfl<|oR (Ae rfl rfl rfl)<|Ac<|n_K ?_
     refine Aj rfl (fun c55=> ?_) (fun c55=> ?_)
     ·skip
      refine Ad<|Aa fun ops=>oM rfl<|oA rfl<|Ac<|n_K<|An<|Bn<|r_K<|Bn ?_
      exact Av (At Tryz.results208 (Ag rfl)) (by first | exact ⟨t',e,c',hb'.trans h0,rfl,rfl,ha',h4 _ (.swap hs hT0 hd)⟩ | exact ⟨t',e,c',hb'.trans h0,rfl,rfl,ha',h4 _ (.bad hs hT3 hd (by simpa using c55))⟩ | exact ⟨t1,T.1,T.2,h0,rfl,rfl,hTa',h4 _ (.err hs hT hTn hTn3)⟩) (by first | (rw [hb'];exact sP) | exact sP)
     ·skip
      try (exfalso;(rw [c37] at c55;cases c55);done)
      all_goals
       have he0:e=0:=(by simpa using c55)
       rw [he0] at hd
       obtain ⟨l1,l2,l3,l4⟩:=h3.lost hTl hs hd
       refine Ai<|Az<|n_K ?_
       exact ⟨(t',c'),⟨hb'.trans h0,ha',(Fq l3).trans hTl,l1,fun r hr=>h4 r (.again hs hT3 hd hr)⟩,(by have h5:t'.l.list.length=t1.l.list.length+1:=l2;simp only;omega),kP,kP,_,(by simp only;rw [hb'];exact sP)⟩
  ·skip
   have htr:I0 c1 (atD t1.ts b) (Bu t1.ts n).1 count more.list=B3 c1 (Bu t1.ts n).1:=(by unfold I0;rw [A26 (by simpa using c29)])
   refine Ai<|n_K<|Ad<|Ad<|Aa fun ops=>oM rfl<|Ac<|n_K<|Ak<|Ad<|Aa fun ops=>oR (Ae rfl rfl rfl)<|oA rfl<|Ac ?_
   refine n_K ?_
   refine Aj rfl (fun c37=> ?_) (fun c37=> ?_)
   ·skip
    try (exfalso;((rw [c29] at c37;cases c37));done)
    all_goals
     rw [← htr] at c37 ⊢
     obtain ⟨hTb,hTa⟩:=L6 c1 (atD t1.ts b) (Bu t1.ts n).1 count more.list
     generalize hT:I0 c1 (atD t1.ts b) (Bu t1.ts n).1 count more.list=T at *
     have hTl:T.2.blocks.length=n:=(Fq hTb).trans h2
     have hTa':T.2.aC=a:=hTa.trans h1
     have hT0:I0 c1 (atD t1.ts b) (Bu t1.ts n).1 count more.list=(0,T.2):=(by rw [hT];exact Prod.ext (by simpa using c37) rfl)
     refine Ad<|Aa fun ops=>oM rfl<|oN rfl<|oF rfl ?_
     refine oR (Al rfl mM rfl) ?_
     refine oM rfl<|oM rfl ?_
     refine Bd rfl (Aa5 (c:=T.2) (t:=t1) hTa' w1 (by omega) w3 w4) sP rfl fun v45 Y45 h45=> ?_
     obtain ⟨t',e,c',hb',rfl,rfl,ha',hd⟩:=h45
     refine Ay aQ ?_
     refine oA rfl<|Ac<|n_K<|An<|Bn<|r_K<|Bn<|r_K<|Bn ?_
     exact Av (At Tryz.results208 (Ag rfl)) (by first | exact ⟨t',e,c',hb'.trans h0,rfl,rfl,ha',h4 _ (.swap hs hT0 hd)⟩ | exact ⟨t',e,c',hb'.trans h0,rfl,rfl,ha',h4 _ (.bad hs hT3 hd (by simpa using c55))⟩ | exact ⟨t1,T.1,T.2,h0,rfl,rfl,hTa',h4 _ (.err hs hT hTn hTn3)⟩) (by first | (rw [hb'];exact sP) | exact sP)
   ·skip
    rw [← htr] at c37 ⊢
    obtain ⟨hTb,hTa⟩:=L6 c1 (atD t1.ts b) (Bu t1.ts n).1 count more.list
    generalize hT:I0 c1 (atD t1.ts b) (Bu t1.ts n).1 count more.list=T at *
    have hTl:T.2.blocks.length=n:=(Fq hTb).trans h2
    have hTa':T.2.aC=a:=hTa.trans h1
    have hTn:T.1≠0:=(by simpa using c37)
    refine Ad<|Aa fun ops=>oR (Ae rfl rfl rfl)<|oA rfl<|Ac<|n_K ?_
    refine Aj rfl (fun c46=> ?_) (fun c46=> ?_)
    ·skip
     have hT3:I0 c1 (atD t1.ts b) (Bu t1.ts n).1 count more.list=(33,T.2):=(by rw [hT];exact Prod.ext (by simpa using c46) rfl)
     refine Aa fun ops=>oM rfl<|oN rfl<|oF rfl ?_
     refine oR (Al rfl mM rfl) ?_
     refine oM rfl ?_
     refine Bd rfl (Aa4 (c:=T.2) (t:=t1) hTa' w1 (by omega) w3 w4) sP rfl fun v53 Y53 h53=> ?_
     obtain ⟨t',e,c',hb',rfl,rfl,ha',hd⟩:=h53
     refine Ay aQ ?_
     refine oA rfl<|Ac<|Az<|n_K<|Ad<|Aa fun ops=>oM rfl<|oR (Ae rfl rfl rfl)<|Ac<|n_K ?_
     refine Aj rfl (fun c55=> ?_) (fun c55=> ?_)
     ·skip
      refine Ad<|Aa fun ops=>oM rfl<|oA rfl<|Ac<|n_K<|An<|Bn<|r_K<|Bn ?_
      exact Av (At Tryz.results208 (Ag rfl)) (by first | exact ⟨t',e,c',hb'.trans h0,rfl,rfl,ha',h4 _ (.swap hs hT0 hd)⟩ | exact ⟨t',e,c',hb'.trans h0,rfl,rfl,ha',h4 _ (.bad hs hT3 hd (by simpa using c55))⟩ | exact ⟨t1,T.1,T.2,h0,rfl,rfl,hTa',h4 _ (.err hs hT hTn hTn3)⟩) (by first | (rw [hb'];exact sP) | exact sP)
     ·skip
      try (exfalso;(rw [c37] at c55;cases c55);done)
      all_goals
       have he0:e=0:=(by simpa using c55)
       rw [he0] at hd
       obtain ⟨l1,l2,l3,l4⟩:=h3.lost hTl hs hd
       refine Ai<|Az<|n_K ?_
       exact ⟨(t',c'),⟨hb'.trans h0,ha',(Fq l3).trans hTl,l1,fun r hr=>h4 r (.again hs hT3 hd hr)⟩,(by have h5:t'.l.list.length=t1.l.list.length+1:=l2;simp only;omega),kP,kP,_,(by simp only;rw [hb'];exact sP)⟩
    ·skip
     have hTn3:T.1≠33:=(by simpa using c46)
     refine Ai<|Az<|n_K<|Ad<|Aa fun ops=>oM rfl<|oR (Ae rfl rfl rfl)<|Ac<|n_K ?_
     refine Aj rfl (fun c55=> ?_) (fun c55=> ?_)
     ·skip
      refine Ad<|Aa fun ops=>oM rfl<|oA rfl<|Ac<|n_K<|An<|Bn<|r_K<|Bn ?_
      exact Av (At Tryz.results208 (Ag rfl)) (by first | exact ⟨t',e,c',hb'.trans h0,rfl,rfl,ha',h4 _ (.swap hs hT0 hd)⟩ | exact ⟨t',e,c',hb'.trans h0,rfl,rfl,ha',h4 _ (.bad hs hT3 hd (by simpa using c55))⟩ | exact ⟨t1,T.1,T.2,h0,rfl,rfl,hTa',h4 _ (.err hs hT hTn hTn3)⟩) (by first | (rw [hb'];exact sP) | exact sP)
     ·skip
      try (exfalso;(rw [c37] at c55;cases c55);done)
      all_goals
       have he0:e=0:=(by simpa using c55)
       rw [he0] at hd
       obtain ⟨l1,l2,l3,l4⟩:=h3.lost hTl hs hd
       refine Ai<|Az<|n_K ?_
       exact ⟨(t',c'),⟨hb'.trans h0,ha',(Fq l3).trans hTl,l1,fun r hr=>h4 r (.again hs hT3 hd hr)⟩,(by have h5:t'.l.list.length=t1.l.list.length+1:=l2;simp only;omega),kP,kP,_,(by simp only;rw [hb'];exact sP)⟩
end
end
section
open Go.K
instance ent170:Ent Tryz.prog 170:=⟨fun _ _=>by kernel_rfl⟩
instance ent171:Ent Tryz.prog 171:=⟨fun _ _=>by kernel_rfl⟩
theorem Ae0 {c:Chip} {i j:Int} {d:Pg} (h:(B1 c i j d).1=33):0≤j∧j<8:=by
 by_cases hm:Aww c i j=0
 ·have:=Yc hm;omega
 ·rw [Aa9 hm] at h
  simp only at h
  unfold Aww at h
  split at h
  ·omega
  ·split at h
   ·omega
   ·split at h <;> omega
theorem Ag0 (p:Pg):On (List.replicate 258 (Value.int .u8 0)).length (Gn 1 (List.replicate 258 (.int .u8 0))) [(0,.agg (vbc p).toArray)]=some (vbc p):=by
 have h1:Nat.beq (Value.agg (vbc p).toArray).cells.toList.length 258=true:=by
  show Nat.beq (vbc p).length 258=true
  rw [Ar];rfl
 have h2:Br (Gn 1 (List.replicate 258 (.int .u8 0))) (0*258) (Value.agg (vbc p).toArray).cells.toList=some (vbc p):=by
  show Br (List.replicate 258 (.int .u8 0)++[]) 0 (vbc p)=some (vbc p)
  rw [A1j]
  exact B2 (Azc ..)
 rw [Azc]
 unfold On
 rw [h1,cond_true,h2]
 rfl
def Qy (n:Nat) (b k:Int) (p:Pg) (c:Chip) (t:TS) (r:Int×TS×Chip):Prop :=
 ((B1 c (atD t b) k p).1=33→MoveR n b k.toNat [p] (B1 c (atD t b) k p).2 t r)∧((B1 c (atD t b) k p).1≠33→r=((B1 c (atD t b) k p).1,t,(B1 c (atD t b) k p).2))
def Pq (n:Nat) (b:Int) (c:Chip) (t:TS) (r:Int×TS×Chip):Prop :=
 ((B3 c (atD t b)).1=33→MoveR n b 0 [] (B3 c (atD t b)).2 t r)∧((B3 c (atD t b)).1≠33→r=((B3 c (atD t b)).1,t,(B3 c (atD t b)).2))
section
variable {c:Chip} {t:Tab} {a dk n:Nat}
theorem Ajv (ha:c.aC=a) (hn:c.blocks.length=n) (hw:WT n t.ts) {b:Int} {count mb:Nat} {p:Pg} (hc:count≤8) :
  Does Tryz.prog 208 [ptr dk,.int .i64 b,.int .i64 (count:Nat),.slice (some ⟨mb,0,none⟩) 1 1] ((dk,true,C [ptr a,ptr t.b] tDk)::(Dk a t++(chH c++[(mb,true,C (vbc p) tPg)])))
  (fun v H=>∃ (t':Tab) (e:Int) (c':Chip),t'.b=t.b∧v= .int .i64 e∧H=(dk,true,C [ptr a,ptr t'.b] tDk)::(Dk a t'++(chH c'++[(mb,true,C (vbc p) tPg)]))∧c'.aC=a∧MoveR n b count [p] c t.ts (e,t'.ts,c')):=by
 have h:=Aez (dk:=dk) (b:=b) (more:=(.own mb [p] 1 [] ⟨by simp,A2q _,by simp⟩:Sl Pg)) ha hn hw hc (by show 1≤1000;omega)
 have e:cells [p]++[]=vbc p:=by simp [cells,Cel.cs]
 rw [Sl.hp_own,e] at h
 exact h
theorem Ajw (ha:c.aC=a) (hn:c.blocks.length=n) (hw:WT n t.ts) {b:Int} :
  Does Tryz.prog 208 [ptr dk,.int .i64 b,.int .i64 0,.slice none 0 0] ((dk,true,C [ptr a,ptr t.b] tDk)::(Dk a t++(chH c++[])))
  (fun v H=>∃ (t':Tab) (e:Int) (c':Chip),t'.b=t.b∧v= .int .i64 e∧H=(dk,true,C [ptr a,ptr t'.b] tDk)::(Dk a t'++(chH c'++[]))∧c'.aC=a∧MoveR n b 0 [] c t.ts (e,t'.ts,c')):=by
 have h:=Aez (dk:=dk) (b:=b) (count:=0) (more:=(.nil:Sl Pg)) ha hn hw (by omega) (by show 0≤1000;omega)
 rw [Sl.hp_nil] at h
 exact h
theorem Zv (ha:c.aC=a) (hn:c.blocks.length=n) (hw:WT n t.ts) {b k:Int} {p:Pg} :
  Does Tryz.prog 171 [ptr dk,.int .i64 b,.int .i64 k,.agg (vbc p).toArray] ((dk,true,C [ptr a,ptr t.b] tDk)::(Dk a t++(chH c++[])))
  (fun v H=>∃ (t':Tab) (e:Int) (c':Chip),t'.b=t.b∧v= .int .i64 e∧H=(dk,true,C [ptr a,ptr t'.b] tDk)::(Dk a t'++(chH c'++[]))∧c'.aC=a∧Qy n b k p c t.ts (e,t'.ts,c')):=by
 refine Ah (n:=29) Tryz.func171 Tryz.ntmps171 rfl (Ay9 rfl)<|Ad<|Aa fun ops=> ?_
 refine Ec rfl rfl fun b7=> ?_
 refine oA rfl<|Ac<|n_K<|Ad ?_
 refine s_draw [] [(9,[(0,false),(1,false),(2,false),(3,false),(4,false),(5,false),(7,false),(8,false),(6,true)]),(10,[(9,true)]),(11,[(10,false)])] (by kernel_rfl) rfl fun ops w0 H0 y=> ?_
 refine A4<|xM rfl<|xN rfl<|xF rfl ?_
 refine xR (Al rfl mM rfl) ?_
 refine xM rfl<|xM rfl<|xM rfl ?_
 refine xR (Au rfl mM (by first | exact Bg | rfl)) ?_
 refine Be ?_
 refine A6 rfl (Acr (a:=a) (t:=t) (dk:=dk)) sP rfl aQ ?_
 refine Ac ⟨rfl,⟨_,sP⟩,?_⟩
 refine Am<|Bh<|Be ?_
 refine A6 rfl (Mg ha) sP rfl aQ ?_
 refine Ac ⟨rfl,⟨_,sP⟩,?_⟩
 refine Am<|A4<|xA rfl<|Am<|Bm<|n_K<|Ad<|Ad<|Aa fun ops=>oM rfl<|oR (Ae rfl rfl rfl)<|Ac<|n_K ?_
 refine Aj rfl (fun c21=> ?_) (fun c21=> ?_)
 ·skip
  have h33:(B1 c (atD t.ts b) k p).1=33:=(by simpa using c21)
  obtain ⟨m,hm⟩:∃ m:Nat,k=m:=⟨k.toNat,by have:=Ae0 h33;omega⟩
  subst hm
  have hm8:m≤8:=(by have:=Ae0 h33;omega)
  refine Aa fun ops=>oM rfl<|oM rfl<|oM rfl ?_
  refine oR (Au rfl mM (by first | exact Bg | rfl)) ?_
  refine A5 (cs:=vbc p) (zs:=List.replicate 258 (.int .u8 0)) rfl (Ag0 p) rfl rfl fun b26=> ?_
  refine Bd rfl (Ajv (c:=(B1 c (atD t.ts b) m p).2) (t:=t) (dk:=dk) (b:=b) (p:=p) ((Fh _ _ _ _).trans ha) ((Fq (Id _ _ _ _)).trans hn) hw hm8) sP rfl fun v27 Y27 h27=> ?_
  obtain ⟨t',e,c',hb',rfl,rfl,ha',hd⟩:=h27
  refine Ay aQ ?_
  refine oA rfl<|Ac<|n_K<|Ad<|Aa fun ops=>oM rfl<|oA rfl<|Ac<|n_K<|An ?_
  exact Av (At Tryz.results171 (Ag rfl)) (by exact ⟨t',e,c',hb',rfl,rfl,ha',fun _=>hd,fun h=>absurd h33 h⟩) (by rw [hb'];exact sP)
 ·skip
  have h33:(B1 c (atD t.ts b) k p).1≠33:=(by simpa using c21)
  refine Ai<|n_K<|Ad<|Aa fun ops=>oM rfl<|oA rfl<|Ac<|n_K<|An ?_
  exact Av (At Tryz.results171 (Ag rfl)) (by exact ⟨t,_,_,rfl,rfl,rfl,(Fh _ _ _ _).trans ha,fun h=>absurd h h33,fun _=>rfl⟩) sP
theorem Ag1 (ha:c.aC=a) (hn:c.blocks.length=n) (hw:WT n t.ts) {b:Int} :
  Does Tryz.prog 170 [ptr dk,.int .i64 b] ((dk,true,C [ptr a,ptr t.b] tDk)::(Dk a t++(chH c++[])))
  (fun v H=>∃ (t':Tab) (e:Int) (c':Chip),t'.b=t.b∧v= .int .i64 e∧H=(dk,true,C [ptr a,ptr t'.b] tDk)::(Dk a t'++(chH c'++[]))∧c'.aC=a∧Pq n b c t.ts (e,t'.ts,c')):=by
 refine Ah (n:=20) Tryz.func170 Tryz.ntmps170 rfl (Ay9 rfl)<|Ad<|Aa fun ops=>oA rfl<|Ac<|n_K<|Ad ?_
 refine s_draw [] [(7,[(0,false),(1,false),(2,false),(3,false),(4,false),(5,false),(6,true)]),(8,[(7,true)]),(9,[(8,false)])] (by kernel_rfl) rfl fun ops w0 H0 y=> ?_
 refine A4<|xM rfl<|xN rfl<|xF rfl ?_
 refine xR (Al rfl mM rfl) ?_
 refine xM rfl<|xM rfl<|Be ?_
 refine A6 rfl (Acr (a:=a) (t:=t) (dk:=dk)) sP rfl aQ ?_
 refine Ac ⟨rfl,⟨_,sP⟩,?_⟩
 refine Am<|Bh<|Be ?_
 refine A6 rfl (Ze ha) sP rfl aQ ?_
 refine Ac ⟨rfl,⟨_,sP⟩,?_⟩
 refine Am<|A4<|xA rfl<|Am<|Bm<|n_K<|Ad<|Ad<|Aa fun ops=>oM rfl<|oR (Ae rfl rfl rfl)<|Ac<|n_K ?_
 refine Aj rfl (fun c15=> ?_) (fun c15=> ?_)
 ·skip
  have h33:(B3 c (atD t.ts b)).1=33:=(by simpa using c15)
  refine Aa fun ops=>oM rfl<|oM rfl ?_
  refine Bd rfl (Ajw (c:=(B3 c (atD t.ts b)).2) (t:=t) (dk:=dk) (b:=b) ((Hn _ _).trans ha) ((Fq (It _ _)).trans hn) hw) sP rfl fun v18 Y18 h18=> ?_
  obtain ⟨t',e,c',hb',rfl,rfl,ha',hd⟩:=h18
  refine Ay aQ ?_
  refine oA rfl<|Ac<|n_K<|Ad<|Aa fun ops=>oM rfl<|oA rfl<|Ac<|n_K<|An ?_
  exact Av (At Tryz.results170 (Ag rfl)) (by exact ⟨t',e,c',hb',rfl,rfl,ha',fun _=>hd,fun h=>absurd h33 h⟩) (by rw [hb'];exact sP)
 ·skip
  have h33:(B3 c (atD t.ts b)).1≠33:=(by simpa using c15)
  refine Ai<|n_K<|Ad<|Aa fun ops=>oM rfl<|oA rfl<|Ac<|n_K<|An ?_
  exact Av (At Tryz.results170 (Ag rfl)) (by exact ⟨t,_,_,rfl,rfl,rfl,(Hn _ _).trans ha,fun h=>absurd h h33,fun _=>rfl⟩) sP
end
end
section
open Go.K
instance zer75:Zer Tryz.prog 75 ([.pointer none,.pointer none]):=⟨by kernel_rfl⟩
instance plc75:Plc Tryz.prog 75 [(0,1),(1,1)]:=⟨⟨_,Tryz.underlying75,fun _=>by kernel_rfl⟩⟩
instance ent130:Ent Tryz.prog 130:=⟨fun _ _=>by kernel_rfl⟩
section
variable {c:Chip} {a:Nat}
theorem Ae1 {tb:Nat}:Does Tryz.prog 130 [ptr a,ptr tb,.int .i64 0] [] (fun v H=>∃ dk,v= .tuple #[ptr dk,.int .i64 0]∧H=[(dk,true,C [ptr a,ptr tb] tDk)]):=by
 refine Ah (n:=15) Tryz.func130 Tryz.ntmps130 rfl (Ay9 rfl)<|Ad<|Aa fun ops=>oA rfl<|oA rfl<|Ac<|n_K<|Ad<|Ad<|Aa fun ops=>oM rfl<|oR (Ae rfl rfl rfl)<|Ac<|n_K ?_
 refine Bi rfl ?_
 refine Ai<|n_K<|Ad<|Aa fun ops=>oM rfl<|oM rfl<|oR (Bc rfl rfl) ?_
 refine De rfl rfl fun b14=> ?_
 refine oA rfl<|oA rfl<|Ac<|n_K<|An ?_
 exact Av (Bz Tryz.results130 (Ag rfl) (Ag rfl)) (by exact ⟨_,rfl,rfl⟩) sP
end
end
section
open Go.K
instance ent84:Ent Tryz.prog 84:=⟨fun _ _=>by kernel_rfl⟩
theorem Acv {pp aC aB m:Nat} (hm:16≤m∧m≤40) (hX:Vc (Gy m [])=false):Does Tryz.prog 131 [ptr aC] (chH (Du (-1) 0 pp aC aB m []))
  (fun v H=>∃ (tb:Tab) (c':Chip),v= .tuple #[ptr tb.b,.int .i64 0]∧H=Dk aC tb++(chH c'++[])∧c'.aC=aC∧c'.aP=pp∧JI c' tb.ts (Ns (Gy m []) ((m:Int) - 6) m) (Gy m []) m 0∧PgP c' (PlB m)∧∀ i,2≤i→i<m→c'.blocks[i]? =some (Gz false)):=by
 have hlen:(Du (-1) 0 pp aC aB m []).blocks.length=m:=Hf
 refine (Apa (c:=Du (-1) 0 pp aC aB m []) (a:=aC) rfl (by rw [hlen];omega)).mono fun v H h=> ?_
 obtain ⟨t,c',h1,h2,h3,h4⟩:=Avf (aP:=pp) (aC:=aC) (aB:=aB) hm hX
 obtain ⟨c2,q1,q2⟩:=Nh (after:= -1) (keep:=0) (aP:=pp) (aC:=aC) (aB:=aB) (n:=m) (bad:=[]) (by omega) (by omega) ((U1 hm).trans hX)
 unfold Zg at h
 rw [h1] at h
 rcases h with ⟨tb,rfl,rfl,h5,_⟩ | ⟨_,_,h6⟩
 ·refine ⟨tb,c',rfl,rfl,h3,h4,by rw [h5];exact h2,Awl hm hX h1 h2,fun i hi hl=> ?_⟩
  rw [q1] at h1
  simp only [A13] at h1
  rw [← h1.2.2,q2,Qd (by omega),Ic hl]
  rfl
 ·exact absurd rfl h6
theorem Acw {pp aC aB m:Nat} (hm:16≤m∧m≤40) (hX:Vc (Gy m [])=false):Does Tryz.prog 84 [ptr aC] (chH (Du (-1) 0 pp aC aB m []))
  (fun v H=>∃ (dk:Nat) (tb:Tab) (c':Chip),v= .tuple #[ptr dk,.int .i64 0]∧H=(dk,true,C [ptr aC,ptr tb.b] tDk)::(Dk aC tb++(chH c'++[]))∧c'.aC=aC∧c'.aP=pp∧JI c' tb.ts (Ns (Gy m []) ((m:Int) - 6) m) (Gy m []) m 0∧∀ i,2≤i→i<m→c'.blocks[i]? =some (Gz false)):=by
 refine Ah (n:=17) Tryz.func84 Tryz.ntmps84 rfl (Ay9 rfl)<|Ad<|Aa fun ops=>oA rfl<|oA rfl<|Ac<|n_K<|Ad<|Aa fun ops=>oM rfl ?_
 refine Bd rfl (Acv (pp:=pp) (aC:=aC) (aB:=aB) (m:=m) hm hX) sP rfl fun v8 Y8 h8=> ?_
 obtain ⟨tb,c',rfl,rfl,a1,a2,a3,_,a4⟩:=h8
 refine Ay aQ ?_
 refine oM rfl<|oE rfl rfl<|oE rfl rfl<|oA rfl<|oA rfl<|Ac<|n_K<|Ad<|Aa fun ops=>oM rfl<|oM rfl<|oM rfl ?_
 refine Bd rfl (Ae1 (a:=aC) (tb:=tb.b)) sP rfl fun v14 Y14 h14=> ?_
 obtain ⟨dk,rfl,rfl⟩:=h14
 refine Ay aQ ?_
 refine oE rfl rfl<|oE rfl rfl<|oA rfl<|oA rfl<|Ac<|n_K<|An ?_
 exact Av (Bz Tryz.results84 (Ag rfl) (Ag rfl)) (by exact ⟨dk,tb,c',rfl,rfl,a1,a2,a3,a4⟩) sP
end
section
open Go.K
theorem Ajy {p:Pg} (h:(Cg p).2.2.2≠0):Dv p=p:=by unfold Dv;rw [A25 (.inl h)]
theorem Ag2 {p:Pg} (h:p[257]=255#8):Dv p=p:=Ajy (J8 h)
theorem Vd {k:By} {b:List By} (hw:C6 k b=false):Dv (Cw k b)=Cw k b:=by
 unfold Dv
 rw [Ig hw,A25 (.inr rfl)]
theorem Hold.far {c c':Chip} {v:Nat} {u l:List Int} {a k:Nat} (h:Hold c v u l a) (hk:2≤k) (f:Fr k c c'):Hold c' v u l a:=by
 have ho:∀ i,i<2→c'.blocks[i]? =c.blocks[i]? :=fun i hi=>f.oth i (by omega)
 refine ⟨by rw [f.len];exact h.ok,h.a2,fun i hi=>by rw [ho i hi];exact h.bs i hi,fun i hi b hb=> ?_,?_⟩
 ·rw [ho i hi] at hb
  rw [f.len]
  exact h.le i hi b hb
 ·rw [ho a h.a2,f.len]
  exact h.ex
theorem TI.far {c c':Chip} {t:TS} {k:Nat} (h:TI c t) (hk:2≤k) (f:Fr k c c'):TI c' t:=by
 obtain ⟨a,h1,h2,h3⟩:=h
 exact ⟨a,h1,h2.far hk f,by rw [f.oth a (by have:=h2.a2;omega)];exact h3⟩
def AllB (c:Chip):Prop:=∀ (i:Nat) (b:Blk),c.blocks[i]? =some b→BI b∧b.bad=false
theorem AllB.far {c c':Chip} {k:Nat} {b:Blk} (h:AllB c) (f:Fr k c c') (hb:c'.blocks[k]? =some b) (h1:BI b) (h2:b.bad=false):AllB c':=fun i b' hb'=>by
 by_cases e:i=k
 ·subst e
  rw [hb] at hb'
  cases hb'
  exact ⟨h1,h2⟩
 ·rw [f.oth i e] at hb'
  exact h i b' hb'
theorem AllB.keep {c c':Chip} {v:Nat} {u l:List Int} {a:Nat} (h:AllB c) (f:Fr2 c c') (hh:Hold c' v u l a):AllB c':=fun i b' hb'=>by
 by_cases e:i<2
 ·obtain ⟨b2,h1,h2,h3⟩:=hh.bs i e
  rw [h1] at hb'
  cases hb'
  exact ⟨h2,h3⟩
 ·rw [f.oth i (by omega)] at hb'
  exact h i b' hb'
theorem Pr {c:Chip} {a j:Nat} {b:Blk} {d:Pg} {B:Int} (up:Up c) (hb:c.blocks[a]? =some b) (hj:j<8) (hbad:b.bad=false) (hbi:BI b) (hn:b.next=j) (hc:Cnt c B) (hB:B<8000000000000000000) :
  ∃ e m c',B1 c a j d=(e,c')∧Fr a c c'∧Cnt c' (B+1)∧c'.blocks[a]? =some (wrK b j (Cu m A0 d)) ∧
   ((e=30∧c'.off=true∧¬ c.after<0)∨(e=33∧m=129∧Up c'∧FP c'+1≤FP c)∨(e=0∧m=258∧Up c')):=by
 obtain ⟨e,m,hp,hcase⟩:=Wv up (d:=d) hb hj hbad hbi hn
 obtain ⟨hfr,hcn,hfp⟩:=Atc (a:=a) (b:=wrK b j (Cu m A0 d)) hc (by omega)
 have hoff:=Am0 (a:=a) (b:=wrK b j (Cu m A0 d)) up
 refine ⟨e,m,_,hp,hfr,hcn,Af4 hb,?_⟩
 rcases hcase with ⟨h1,h2⟩ | ⟨h1,h2,h3,h4⟩ | ⟨h1,h2,h3,h4⟩
 ·exact .inl ⟨h1,by rw [hoff];exact h2,O3 h2⟩
 ·exact .inr (.inl ⟨h1,h2,up.of hfr.dead hfr.out (by rw [hoff];exact h3),hfp h4⟩)
 ·exact .inr (.inr ⟨h1,h2,up.of hfr.dead hfr.out (by rw [hoff];exact h3)⟩)
end
section
open Go.K
def Out (c c':Chip) (e:Int):Prop:=(e=30∧c'.off=true∧¬ c.after<0)∨(e=33∧Up c'∧FP c'+1≤FP c)∨(e=0∧Up c')
theorem Out.step {k:Nat} {c c1 c2:Chip} {e:Int} (f:Fr k c c1) (h:Out c1 c2 e):Out c c2 e:=by
 rcases h with ⟨h1,h2,h3⟩ | ⟨h1,h2,h3⟩ | ⟨h1,h2⟩
 ·exact .inl ⟨h1,h2,fun hp=>h3 (by rw [(f.pos hp).1];exact hp)⟩
 ·exact .inr (.inl ⟨h1,h2,by have:=f.fp;omega⟩)
 ·exact .inr (.inr ⟨h1,h2⟩)
theorem Qz {a to':Nat} {bs:Blk} (hne:a≠to'):∀ (f:Nat) (c:Chip) (i:Nat) (bt:Blk) (B:Int),i+f≤8→Up c→c.blocks[a]? =some bs→c.blocks[to']? =some bt→bt.bad=false→BI bt→bt.next=i→Cnt c B→B+f<8000000000000000000 →
  ∃ e c',Fm f c a to' i=(e,c')∧Fr to' c c'∧Cnt c' (B+f)∧Out c c' e∧∃ b',c'.blocks[to']? =some b'∧BI b'∧b'.bad=false ∧
   (e=0→b'.next=((i+f:Nat):Int)∧(∀ (j:Nat) (h:j<8),j<i→b'.pages[j]=bt.pages[j])∧∀ (j:Nat) (h:j<8),i≤j→j<i+f→b'.pages[j]=Dv bs.pages[j])
 | 0,c,i,bt,B,hf,up,ha,hb,hbad,hbi,hn,hc,hB =>
  ⟨0,c,rfl,Fr.refl _ _,by simpa using hc,.inr (.inr ⟨rfl,up⟩),bt,hb,hbi,hbad,fun _=>⟨hn,fun _ _ _=>rfl,fun j h h1 h2=>by omega⟩⟩
 | f+1,c,i,bt,B,hf,up,ha,hb,hbad,hbi,hn,hc,hB=>by
  have hi8:i<8:=by omega
  have hal:a<c.blocks.length:=(Aym.1 ha).1
  have hm:Aww c (a:Nat) (i:Nat)=0:=Abo up hal hi8
  have hrd:B0 c (a:Nat) (i:Nat)=bs.pages[i]:=Ot hm ha hi8
  obtain ⟨e,m,c1,hp,hfr,hcn,hbk,hcase⟩:=Pr (d:=Dv bs.pages[i]) up hb hi8 hbad hbi hn hc (by omega)
  have hf1:E4 c (a:Nat) (to':Nat) (i:Nat)=(e,c1):=by
   unfold E4
   rw [A25 hm,hrd,hp]
  have hbi':=Yu (q:=Cu m A0 (Dv bs.pages[i])) hbi hi8 hn
  have hcn':Cnt c1 (B+((f+1:Nat):Int)):=⟨by have:=hcn.p0;push_cast;omega,by have:=hcn.w0;push_cast;omega⟩
  unfold Fm
  rw [hf1]
  rcases hcase with ⟨rfl,h1,h2⟩ | ⟨rfl,h1,h2,h3⟩ | ⟨rfl,h1,h2⟩
  ·rw [A25 (by simp)]
   exact ⟨30,c1,rfl,hfr,hcn',.inl ⟨rfl,h1,h2⟩,_,hbk,hbi',hbad,fun h=>by cases h⟩
  ·rw [A25 (by simp)]
   exact ⟨33,c1,rfl,hfr,hcn',.inr (.inl ⟨rfl,h2,h3⟩),_,hbk,hbi',hbad,fun h=>by cases h⟩
  ·rw [A26 (by simp)]
   subst h1
   obtain ⟨e2,c2,k1,k2,k3,k4,b2,k5,k6,k7,k8⟩:=Qz hne f c1 (i+1) (wrK bt i (Cu 258 A0 (Dv bs.pages[i]))) (B+1) (by omega) h2 (by rw [hfr.oth a hne];exact ha) hbk hbad hbi' rfl hcn (by omega)
   refine ⟨e2,c2,?_,hfr.trans k2,⟨by have:=k3.p0;push_cast;omega,by have:=k3.w0;push_cast;omega⟩,k4.step hfr,b2,k5,k6,k7,fun h=> ?_⟩
   ·exact_mod_cast k1
   ·obtain ⟨q1,q2,q3⟩:=k8 h
    refine ⟨by rw [q1];push_cast;omega,fun j hj hlt=> ?_,fun j hj hge hlt=> ?_⟩
    ·rw [q2 j hj (by omega),Gc hj,A26 (by omega)]
    ·by_cases e1:j=i
     ·subst e1
      rw [q2 j hj (by omega),Gc hj,A25 rfl]
      exact Fu (A2q _)
     ·exact q3 j hj (by omega) (by omega)
end
section
open Go.K
def OutW (c c':Chip) (e:Int):Prop:=(e=30∧c'.off=true∧¬ c.after<0)∨(e=33∧Up c'∧FP c'+FW c'+1≤FP c+FW c)∨(e=0∧Up c')
theorem Out.w {k:Nat} {c c':Chip} {e:Int} (f:Fr k c c') (h:Out c c' e):OutW c c' e:=by
 rcases h with h | ⟨h1,h2,h3⟩ | h
 ·exact .inl h
 ·exact .inr (.inl ⟨h1,h2,by have:=f.fw;omega⟩)
 ·exact .inr (.inr h)
theorem OutW.step {k:Nat} {c c1 c2:Chip} {e:Int} (f:Fr k c c1) (h:OutW c1 c2 e):OutW c c2 e:=by
 rcases h with ⟨h1,h2,h3⟩ | ⟨h1,h2,h3⟩ | ⟨h1,h2⟩
 ·exact .inl ⟨h1,h2,fun hp=>h3 (by rw [(f.pos hp).1];exact hp)⟩
 ·exact .inr (.inl ⟨h1,h2,by have:=f.fp;have:=f.fw;omega⟩)
 ·exact .inr (.inr ⟨h1,h2⟩)
def M0 (bs b':Blk) (count:Nat) (more:List Pg):Prop :=
 b'.next=((count+more.length:Nat):Int)∧(∀ (j:Nat) (h:j<8),j<count→b'.pages[j]=Dv bs.pages[j])∧∀ (p:Pg) (h:count<8),more=[p]→b'.pages[count]=p
theorem Acx {a to':Nat} {bs bt:Blk} {c:Chip} {count:Nat} {more:List Pg} {B:Int} (hne:a≠to') (hl:more.length≤1) (h8:count+more.length≤8) (up:Up c) (ha:c.blocks[a]? =some bs) (hb:c.blocks[to']? =some bt) (hbad:bt.bad=false) (hbi:BI bt) (hn:bt.next=0) (hc:Cnt c B) (hB:B+100<8000000000000000000) :
  ∃ e c',fillC c (a:Nat) (to':Nat) count more=(e,c')∧Fr to' c c'∧Cnt c' (B+9)∧Out c c' e∧∃ b',c'.blocks[to']? =some b'∧BI b'∧b'.bad=false∧(e=0→M0 bs b' count more):=by
 obtain ⟨e,c1,h1,h2,h3,h4,b1,h5,h6,h7,h8'⟩:=Qz hne count c 0 bt B (by omega) up ha hb hbad hbi hn hc (by omega)
 have h1':Fm count c (a:Nat) (to':Nat) 0=(e,c1):=h1
 have hc1:Cnt c1 (B+9):=⟨by have:=h3.p0;omega,by have:=h3.w0;omega⟩
 unfold fillC
 rw [h1']
 by_cases he:e=0
 ·subst he
  rw [A26 (by simp)]
  obtain ⟨q1,q2,q3⟩:=h8' rfl
  have up1:Up c1:=by
   rcases h4 with ⟨h,_⟩ | ⟨h,_⟩ | ⟨_,h⟩
   ·cases h
   ·cases h
   ·exact h
  match more,hl,h8 with
  | [],_,_ =>
   exact ⟨0,c1,rfl,h2,hc1,h4,b1,h5,h6,h7,fun _=>⟨by rw [q1];simp,fun j h hlt=>q3 j h (by omega) (by omega),fun p h hp=>by cases hp⟩⟩
  | [p],_,h8 =>
   have hc8:count<8:=by simp at h8;omega
   obtain ⟨e2,m,c2,p1,p2,p3,p4,p5⟩:=Pr (d:=p) up1 h5 hc8 h7 h6 (by rw [q1];simp) h3 (by omega)
   have hM:K6 [p] c1 (to':Nat) (count:Nat)=(e2,c2):=by
    unfold K6
    rw [p1]
    split
    ·rfl
    ·rename_i h
     have:e2=0:=by simpa using h
     rw [this];rfl
   have hbi':=Yu (q:=Cu m A0 p) h6 hc8 (by rw [q1];simp)
   refine ⟨e2,c2,hM,h2.trans p2,⟨by have:=p3.p0;omega,by have:=p3.w0;omega⟩,?_,_,p4,hbi',h7,fun h=> ?_⟩
   ·refine Out.step h2 ?_
    rcases p5 with p5 | ⟨r1,r2,r3,r4⟩ | ⟨r1,r2,r3⟩
    ·exact .inl p5
    ·exact .inr (.inl ⟨r1,r3,r4⟩)
    ·exact .inr (.inr ⟨r1,r3⟩)
   ·have hm:m=258:=by
     rcases p5 with ⟨r1,_⟩ | ⟨r1,_⟩ | ⟨_,r2,_⟩
     ·omega
     ·omega
     ·exact r2
    subst hm
    refine ⟨by show (count:Int)+1=_;simp,fun j hj hlt=> ?_,fun p' hp' heq=> ?_⟩
    ·rw [Gc hj,A26 (by omega)]
     exact q3 j hj (by omega) (by omega)
    ·cases heq
     rw [Gc hp',A25 rfl]
     exact Fu (A2q _)
 ·rw [A25 (by simpa using he)]
  exact ⟨e,c1,rfl,h2,hc1,h4,b1,h5,h6,h7,fun h=>absurd h he⟩
theorem Ag3 {a to':Nat} {bs bt:Blk} {c:Chip} {count:Nat} {more:List Pg} {B:Int} (hne:a≠to') (hl:more.length≤1) (h8:count+more.length≤8) (up:Up c) (ha:c.blocks[a]? =some bs) (hb:c.blocks[to']? =some bt) (hbad:bt.bad=false) (hc:Cnt c B) (hB:B+200<8000000000000000000) :
  ∃ e c',I0 c (a:Nat) (to':Nat) count more=(e,c')∧Fr to' c c'∧Cnt c' (B+10)∧OutW c c' e∧∃ b',c'.blocks[to']? =some b'∧BI b'∧b'.bad=false∧(e=0→M0 bs b' count more):=by
 obtain ⟨e,c1,h1,h2,h3⟩:=Nj up hb hbad hc (by omega)
 obtain ⟨b1,k1,k2,k3,k4,k5⟩:=h2.blk
 unfold I0
 rw [h1]
 rcases h2.how with ⟨rfl,q1,q2⟩ | ⟨rfl,q1,q2⟩ | ⟨rfl,q1⟩
 ·rw [A26 (by simp)]
  exact ⟨30,c1,rfl,h2.fr,⟨by have:=h3.p0;omega,by have:=h3.w0;omega⟩,.inl ⟨rfl,q1,q2⟩,b1,k1,k2,k3.trans hbad,fun h=>by cases h⟩
 ·rw [A26 (by simp)]
  exact ⟨33,c1,rfl,h2.fr,⟨by have:=h3.p0;omega,by have:=h3.w0;omega⟩,.inr (.inl ⟨rfl,up.of h2.fr.dead h2.fr.out q1,by have:=h2.fr.fp;omega⟩),b1,k1,k2,k3.trans hbad,fun h=>by cases h⟩
 ·rw [A25 rfl]
  have up1:=up.of h2.fr.dead h2.fr.out q1
  obtain ⟨e2,c2,r1,r2,r3,r4,b2,r5,r6,r7,r8⟩:=Acx (bs:=bs) (count:=count) (more:=more) hne hl h8 up1 (by rw [h2.fr.oth a hne];exact ha) k1 (k3.trans hbad) k2 (k5 rfl) h3 (by omega)
  exact ⟨e2,c2,r1,h2.fr.trans r2,⟨by have:=r3.p0;omega,by have:=r3.w0;omega⟩,OutW.step h2.fr (r4.w r2),b2,r5,r6,r7,r8⟩
end
section
open Go.K
structure DI (c:Chip) (t:TS) (n k:Nat):Prop where
 up:Up c
 ti:TI c t
 wf:WF n t.uses t.lost
 len:c.blocks.length=n
 bs:AllB c
 cnt:Cnt c (1000*k+1000)
 ver:t.version.toNat≤k+1
theorem DI.wt {c:Chip} {t:TS} {n k:Nat} (h:DI c t n k):WT n t:=by
 obtain ⟨a,h1,h2,b,h3,h4,h5⟩:=h.ti
 have:=h2.a2
 exact ⟨h.wf,h4,by omega⟩
theorem DI.mono {c:Chip} {t:TS} {n k k':Nat} (h:DI c t n k) (hk:k≤k'):DI c t n k' :=
 ⟨h.up,h.ti,h.wf,h.len,h.bs,⟨by have:=h.cnt.p0;omega,by have:=h.cnt.w0;omega⟩,by have:=h.ver;omega⟩
theorem DI.keep {c:Chip} {t:TS} {n k:Nat} {u lost:List Int} {e:Int} {t':TS} {c':Chip} (h:DI c t n k) (hk:k≤1000000000000) (hfp:FP c≤7) (hfw:FW c≤3) (hw:WF n u lost) (hr:(e,t',c')=B6 t u lost c) :
  Fr2 c c'∧((e=0∧DI c' t' n (k+1)∧t'.uses=u∧t'.lost=lost) ∨
   (e=30∧c'.off=true∧¬ c.after<0∧t'=t∧Cnt c' (1000*((k+1:Nat):Int)+1000)∧AllB c'∧∃ v uu ll a,v≤k+2∧Hold c' v uu ll a∧WF n uu ll∧((uu=t.uses∧ll=t.lost)∨(uu=u∧ll=lost)))):=by
 obtain ⟨e2,t2,c2,h1,h2,h3,h4⟩:=Ais (u:=u) (l:=lost) (B:=1000*k+1000) h.up h.ti (by have:=h.ver;omega) (by rw [h.len];exact hw.okP) hfp hfw h.cnt (by omega)
 rw [h1] at hr
 simp only [A13] at hr
 obtain ⟨rfl,rfl,rfl⟩:=hr
 have p:=h3.p0
 have q:=h3.w0
 have hc:Cnt c' (1000*((k+1:Nat):Int)+1000):=⟨by push_cast;omega,by push_cast;omega⟩
 have hv:=h.ver
 refine ⟨h2,?_⟩
 rcases h4 with ⟨h5,h6,h7,h8,h9,h10⟩ | ⟨h5,h6,h7,h8,h9⟩
 ·have h7k:=h7
  obtain ⟨a,_,hh,_⟩:=h7k
  exact .inl ⟨h5,⟨h6,h7,by rw [h8,h9];exact hw,h2.len.trans h.len,h.bs.keep h2 hh,hc,by omega⟩,h8,h9⟩
 ·refine .inr ⟨h5,h6,h7,h8,hc,?_⟩
  rcases h9 with ⟨a,hh⟩ | ⟨a,hh⟩
  ·exact ⟨h.bs.keep h2 hh,_,_,_,a,by omega,hh,h.wf,.inl ⟨rfl,rfl⟩⟩
  ·exact ⟨h.bs.keep h2 hh,_,_,_,a,by omega,hh,hw,.inr ⟨rfl,rfl⟩⟩
theorem DI.far {c c':Chip} {t:TS} {n k i:Nat} {b:Blk} (h:DI c t n k) (hi:2≤i) (f:Fr i c c') (up:Up c') (hb:c'.blocks[i]? =some b) (h1:BI b) (h2:b.bad=false) (hc:Cnt c' (1000*k+1000+10)):DI c' t n (k+1) :=
 ⟨up,h.ti.far hi f,h.wf,f.len.trans h.len,h.bs.far f hb h1 h2,⟨by have:=hc.p0;push_cast;omega,by have:=hc.w0;push_cast;omega⟩,by have:=h.ver;omega⟩
theorem Ve {c:Chip} {n k v a:Nat} {u l:List Int} (up:Up c) (h:Hold c v u l a) (hw:WF n u l) (hl:c.blocks.length=n) (hb:AllB c) (hc:Cnt c (1000*k+1000)) (hv:v≤k+1):∃ t,Dj c=(0,t)∧DI c t n k∧t.uses=u∧t.lost=l:=by
 obtain ⟨t,h1,h2,h3,h4,h5⟩:=Ait up h
 exact ⟨t,h1,⟨up,h2,by rw [h3,h4];exact hw,hl,hb,hc,by omega⟩,h3,h4⟩
end
section
open Go.K
def SameU (u:List Int) (c c':Chip):Prop:=∀ x∈u,c'.blocks[x.toNat]? =c.blocks[x.toNat]?
structure FrA (c c':Chip):Prop where
  len:c'.blocks.length=c.blocks.length
  dead:c'.dead=c.dead
  out:c'.out=c.out
  aP:c'.aP=c.aP
  aC:c'.aC=c.aC
  aB:c'.aB=c.aB
  pf:c'.pf=c.pf
  wf:c'.wf=c.wf
  fp:FP c'≤FP c
  fw:FW c'≤FW c
  pos:c.after<0→c'.after=c.after∧c'.off=c.off
  keep:c'.keep=c.keep
theorem FrA.refl (c:Chip):FrA c c:=⟨rfl,rfl,rfl,rfl,rfl,rfl,rfl,rfl,A2q _,A2q _,fun _=>⟨rfl,rfl⟩,rfl⟩
theorem Fr.all {a:Nat} {c c':Chip} (h:Fr a c c'):FrA c c':=⟨h.len,h.dead,h.out,h.aP,h.aC,h.aB,h.pf,h.wf,h.fp,h.fw,h.pos,h.keep⟩
theorem Fr2.all {c c':Chip} (h:Fr2 c c'):FrA c c':=⟨h.len,h.dead,h.out,h.aP,h.aC,h.aB,h.pf,h.wf,h.fp,h.fw,h.pos,h.keep⟩
theorem FrA.trans {c c' c'':Chip} (h:FrA c c') (k:FrA c' c''):FrA c c'' :=
  ⟨k.len.trans h.len,k.dead.trans h.dead,k.out.trans h.out,k.aP.trans h.aP,k.aC.trans h.aC,k.aB.trans h.aB,k.pf.trans h.pf,k.wf.trans h.wf,A2f k.fp h.fp,A2f k.fw h.fw,
    fun hp=>by
      obtain ⟨h1,h2⟩:=h.pos hp
      obtain ⟨h3,h4⟩:=k.pos (by omega)
      exact ⟨h3.trans h1,h4.trans h2⟩,k.keep.trans h.keep⟩
def Xj (n k:Nat) (b:Int) (count:Nat) (more:List Pg) (bs:Blk) (c:Chip) (t:TS) (r:Int×TS×Chip):Prop :=
  FrA c r.2.2∧SameU t.uses c r.2.2 ∧
  ((r.1=34∧DI r.2.2 r.2.1 n k∧r.2.1.uses=t.uses∧(Bu r.2.1 n).2=false∧r.2.1.lost.length+FP r.2.2+FW r.2.2≤t.lost.length+FP c+FW c) ∨
   (r.1=0∧DI r.2.2 r.2.1 n k∧r.2.1.lost.length+FP r.2.2+FW r.2.2≤t.lost.length+FP c+FW c+1∧t.lost.length+1≤r.2.1.lost.length∧∃ (x:Nat) (b':Blk),(x:Int)∉t.uses∧2≤x∧r.2.1.uses=t.uses.set b.toNat x∧r.2.2.blocks[x]? =some b'∧M0 bs b' count more) ∨
   (r.1=30∧r.2.2.off=true∧¬ c.after<0∧Cnt r.2.2 (1000*k+1000)∧AllB r.2.2∧∃ v uu ll a,v≤k+1∧ll.length+FP r.2.2+FW r.2.2≤t.lost.length+FP c+FW c+1∧Hold r.2.2 v uu ll a∧WF n uu ll∧(uu=t.uses∨∃ (x:Nat) (b':Blk),(x:Int)∉t.uses∧2≤x∧uu=t.uses.set b.toNat x∧r.2.2.blocks[x]? =some b'∧M0 bs b' count more)))
theorem SameU.trans {u:List Int} {c c' c'':Chip} (h:SameU u c c') (k:SameU u c' c''):SameU u c c'':=fun x hx=>(k x hx).trans (h x hx)
theorem SameU.far {u:List Int} {c c':Chip} {i:Nat} (f:Fr i c c') (h:∀ x∈u,0≤x) (hi:(i:Int)∉u):SameU u c c':=fun x hx=>f.oth _ (fun e=>hi (by have:=h x hx;rw [← e,Int.toNat_of_nonneg this];exact hx))
theorem SameU.two {u:List Int} {c c':Chip} (f:Fr2 c c') (h:∀ x∈u,2≤x):SameU u c c':=fun x hx=>f.oth _ (by have:=h x hx;omega)
end
section
open Go.K
theorem DI.try {c:Chip} {t:TS} {n k a:Nat} {bs:Blk} {count:Nat} {more:List Pg} {b e:Int} {c':Chip} (h:DI c t n k) (hk:k≤1000000000000) (hl:more.length≤1) (h8:count+more.length≤8) (hb:0≤b∧b<t.uses.length) (ha:at0 t.uses b=(a:Nat)) (hbs:c.blocks[a]? =some bs)
  (hs:(Bu t n).2=true) (ht:I0 c (atD t b) (Bu t n).1 count more=(e,c')) :
  ∃ x:Nat,(Bu t n).1=(x:Nat)∧2≤x∧(x:Int)∉t.uses∧Fr x c c'∧OutW c c' e∧SameU t.uses c c'∧Cnt c' (1000*k+1000+10)∧AllB c'∧∃ b',c'.blocks[x]? =some b'∧BI b'∧b'.bad=false∧(e=0→M0 bs b' count more):=by
 obtain ⟨s1,s2,s3,s4⟩:=Zn (Jh hs)
 obtain ⟨x,hx⟩:∃ x:Nat,(Bu t n).1=(x:Nat):=⟨(Bu t n).1.toNat,by omega⟩
 rw [hx] at s1 s2 s3 s4 ht
 have hat:atD t b=(a:Nat):=by
  unfold atD
  have:atT t b=(at0 t.uses b,true):=by
   unfold atT
   rw [A26 (by simp;omega)]
  rw [this,A25 rfl]
  exact ha
 have hmem:(a:Int)∈t.uses:=by rw [← ha];exact Ks hb
 have hne:a≠x:=fun e1=>s3 (by rw [← e1];exact hmem)
 have hlen:=h.len
 obtain ⟨bt,hbt⟩:∃ bt,c.blocks[x]? =some bt:=⟨_,Ayw (by omega)⟩
 obtain ⟨hbi,hbad⟩:=h.bs x bt hbt
 obtain ⟨e2,c2,r1,r2,r3,r4,b',r5,r6,r7,r8⟩:=Ag3 (bs:=bs) (count:=count) (more:=more) (B:=1000*k+1000) hne hl h8 h.up hbs hbt hbad h.cnt (by omega)
 rw [hat,r1] at ht
 simp only [A13] at ht
 obtain ⟨rfl,rfl⟩:=ht
 exact ⟨x,hx,by omega,s3,r2,r4,SameU.far r2 (fun y hy=>by have:=h.wf.us y hy;omega) s3,r3,h.bs.far r2 r5 r6 r7,b',r5,r6,r7,r8⟩
end
section
open Go.K
theorem Vf {n:Nat} {b:Int} {count:Nat} {more:List Pg} {c:Chip} {t:TS} {r:Int×TS×Chip} (hm:MoveR n b count more c t r) :
  ∀ (k a:Nat) (bs:Blk),DI c t n k→k+2*(FP c+FW c)≤900000000000→FP c+FW c≤3→more.length≤1→count+more.length≤8→0≤b∧b<t.uses.length→at0 t.uses b=(a:Nat)→c.blocks[a]? =some bs →
   Xj n (k+4*(FP c+FW c)+4) b count more bs c t r:=by
 induction hm with
 | none hs =>
  intro k a bs h hk hf hl h8 hb ha hbs
  exact ⟨.refl _,fun x hx=>rfl,.inl ⟨rfl,h.mono (by omega),rfl,hs,by simp only;omega⟩⟩
 | @err c t e c' hs ht he he3 =>
  intro k a bs h hk hf hl h8 hb ha hbs
  obtain ⟨x,_,hx2,hxu,f,ho,hS,hc,hA,_⟩:=h.try (by omega) hl h8 hb ha hbs hs ht
  obtain ⟨a0,_,hh,_⟩:=h.ti
  rcases ho with ⟨h1,h2,h3⟩ | ⟨h1,_⟩ | ⟨h1,_⟩
  ·exact ⟨f.all,hS,.inr (.inr ⟨h1,h2,h3,⟨by have:=hc.p0;simp only;push_cast;omega,by have:=hc.w0;simp only;push_cast;omega⟩,hA,_,_,_,a0,by have:=h.ver;omega,(by have:=f.fp;have:=f.fw;simp only;omega),hh.far hx2 f,h.wf,.inl rfl⟩)⟩
  ·exact absurd h1 he3
  ·exact absurd h1 he
 | @swap c t c' r hs ht hsw =>
  intro k a bs h hk hf hl h8 hb ha hbs
  obtain ⟨x,hx,hx2,hxu,f,ho,hS,hc,hA,b',hb',hbi,hbad,hfl⟩:=h.try (by omega) hl h8 hb ha hbs hs ht
  have upc:Up c':=by
   rcases ho with ⟨h1,_⟩ | ⟨h1,_⟩ | ⟨_,h1⟩
   ·cases h1
   ·cases h1
   ·exact h1
  have hD:=h.far hx2 f upc hb' hbi hbad hc
  have hsp:=Jh hs
  rw [hx] at hsp hsw
  have hat:(atT t b).2=true:=by
   unfold atT
   rw [A26 (by simp;omega)]
  obtain ⟨lost,hp,hr⟩:=hsw.1 (by rw [hat,hD.len,hsp];rfl)
  have hw:=h.wf.swap hb hsp hp
  obtain ⟨e,t',c''⟩:=r
  have fp:=f.fp
  have fw:=f.fw
  obtain ⟨f2,hk2⟩:=hD.keep (by omega) (by omega) (by omega) hw hr
  have hb2:c''.blocks[x]? =some b':=by rw [f2.oth x hx2];exact hb'
  have hS2:=hS.trans (SameU.two f2 (fun y hy=>(h.wf.us y hy).1))
  have fp2:=f2.fp
  have fw2:=f2.fw
  rcases hk2 with ⟨h1,h2,h3,h4⟩ | ⟨h1,h2,h3,h4,h5,h6,v,uu,ll,a0,h7,h9,h10,h11⟩
  ·refine ⟨f.all.trans f2.all,hS2,.inr (.inl ⟨h1,h2.mono (by omega),?_,?_,x,b',hxu,hx2,h3,hb2,hfl rfl⟩)⟩
   ·simp only
    rw [h4,hp.length_eq]
    simp
    omega
   ·simp only
    rw [h4,hp.length_eq]
    simp
  ·refine ⟨f.all.trans f2.all,hS2,.inr (.inr ⟨h1,h2,fun hp=>h3 (by rw [(f.pos hp).1];exact hp),⟨by have:=h5.p0;simp only;push_cast at this ⊢;omega,by have:=h5.w0;simp only;push_cast at this ⊢;omega⟩,h6,v,uu,ll,a0,by omega,(by have:=f2.fp;have:=f2.fw;have:=f.fp;have:=f.fw;have:=hp.length_eq;simp only [Azz,Azj] at this ⊢;rcases h11 with ⟨_,e⟩ | ⟨_,e⟩ <;> rw [e] <;> omega),h9,h10,?_⟩)⟩
   rcases h11 with ⟨h12,_⟩ | ⟨h12,_⟩
   ·exact .inl h12
   ·exact .inr ⟨x,b',hxu,hx2,h12,hb2,hfl rfl⟩
 | @bad c t c' e t' c'' hs ht hlo he =>
  intro k a bs h hk hf hl h8 hb ha hbs
  obtain ⟨x,hx,hx2,hxu,f,ho,hS,hc,hA,b',hb',hbi,hbad,hfl⟩:=h.try (by omega) hl h8 hb ha hbs hs ht
  have upc:Up c':=by
   rcases ho with ⟨h1,_⟩ | ⟨_,h1,_⟩ | ⟨h1,_⟩
   ·cases h1
   ·exact h1
   ·cases h1
  have hD:=h.far hx2 f upc hb' hbi hbad hc
  have hsp:=Jh hs
  obtain ⟨lost,hp,hr⟩:=hlo.1 (by rw [hD.len];exact hsp)
  have hw:=h.wf.lose hsp hp
  have fp:=f.fp
  have fw:=f.fw
  obtain ⟨f2,hk2⟩:=hD.keep (by omega) (by omega) (by omega) hw hr
  have hS2:=hS.trans (SameU.two f2 (fun y hy=>(h.wf.us y hy).1))
  rcases hk2 with ⟨h1,_⟩ | ⟨h1,h2,h3,h4,h5,h6,v,uu,ll,a0,h7,h9,h10,h11⟩
  ·exact absurd h1 he
  ·refine ⟨f.all.trans f2.all,hS2,.inr (.inr ⟨h1,h2,fun hp=>h3 (by rw [(f.pos hp).1];exact hp),⟨by have:=h5.p0;simp only;push_cast at this ⊢;omega,by have:=h5.w0;simp only;push_cast at this ⊢;omega⟩,h6,v,uu,ll,a0,by omega,(by have:=f2.fp;have:=f2.fw;have:=f.fp;have:=f.fw;have:=hp.length_eq;simp only [Azz,Azj] at this ⊢;rcases h11 with ⟨_,e⟩ | ⟨_,e⟩ <;> rw [e] <;> omega),h9,h10,?_⟩)⟩
   rcases h11 with ⟨h12,_⟩ | ⟨h12,_⟩
   ·exact .inl h12
   ·exact .inl h12
 | @again c t c' t' c'' r hs ht hlo _ ih =>
  intro k a bs h hk hf hl h8 hb ha hbs
  obtain ⟨x,hx,hx2,hxu,f,ho,hS,hc,hA,b',hb',hbi,hbad,hfl⟩:=h.try (by omega) hl h8 hb ha hbs hs ht
  have upc:Up c'∧FP c'+FW c'+1≤FP c+FW c:=by
   rcases ho with ⟨h1,_⟩ | ⟨_,h1⟩ | ⟨h1,_⟩
   ·cases h1
   ·exact h1
   ·cases h1
  have hD:=h.far hx2 f upc.1 hb' hbi hbad hc
  have hsp:=Jh hs
  obtain ⟨lost,hp,hr⟩:=hlo.1 (by rw [hD.len];exact hsp)
  have hw:=h.wf.lose hsp hp
  have hf1:=upc.2
  obtain ⟨f2,hk2⟩:=hD.keep (by omega) (by omega) (by omega) hw hr
  have hS2:=hS.trans (SameU.two f2 (fun y hy=>(h.wf.us y hy).1))
  have fp2:=f2.fp
  have fw2:=f2.fw
  have hmem:(a:Int)∈t.uses:=by rw [← ha];exact Ks hb
  rcases hk2 with ⟨_,h2,h3,h4⟩ | ⟨h1,_⟩
  ·have hbs2:c''.blocks[a]? =some bs:=by
    have:=hS2 _ hmem
    rw [A0c] at this
    rw [this];exact hbs
   have hll:t'.lost.length=t.lost.length+1:=by rw [h4,hp.length_eq];simp
   obtain ⟨g0,g1,g2⟩:=ih (k+2) a bs h2 (by omega) (by omega) hl h8 (by rw [h3];exact hb) (by rw [h3];exact ha) hbs2
   rw [h3] at g1 g2
   refine ⟨(f.all.trans f2.all).trans g0,hS2.trans g1,?_⟩
   rcases g2 with ⟨q1,q2,q3,q4,q5⟩ | ⟨q1,q2,q3,q3',q4⟩ | ⟨q1,q2,q3,q4,q5,v,uu,ll,a0,q6,q6',q7⟩
   ·exact .inl ⟨q1,q2.mono (by omega),q3,q4,by omega⟩
   ·exact .inr (.inl ⟨q1,q2.mono (by omega),by omega,by omega,q4⟩)
   ·exact .inr (.inr ⟨q1,q2,fun hp=>q3 (by rw [(f2.pos (by rw [(f.pos hp).1];exact hp)).1,(f.pos hp).1];exact hp),⟨by have:=q4.p0;omega,by have:=q4.w0;omega⟩,q5,v,uu,ll,a0,by omega,by omega,q7⟩)
  ·cases h1
end
section
open Go.K
theorem Xk {t:TS} {b:Int} {a:Nat} (hb:0≤b∧b<t.uses.length) (ha:at0 t.uses b=(a:Nat)):atD t b=(a:Nat):=by
  unfold atD
  have:atT t b=(at0 t.uses b,true):=by
    unfold atT
    rw [A26 (by simp;omega)]
  rw [this,A25 rfl]
  exact ha
theorem Ps {c:Chip} {t:TS} {n k a j:Nat} {b:Int} {bs:Blk} {p:Pg} {r:Int×TS×Chip} (h:DI c t n k) (hk:k≤800000000000) (hf:FP c+FW c≤3) (hb:0≤b∧b<t.uses.length) (ha:at0 t.uses b=(a:Nat)) (hbs:c.blocks[a]? =some bs) (hj:j<8) (hn:bs.next=j) (hr:Qy n b j p c t r) :
    ∃ m c1,Fr a c c1∧c1.blocks[a]? =some (wrK bs j (Cu m A0 p))∧AllB c1 ∧
      ((c1.off=true∧¬ c.after<0∧r=(30,t,c1)∧Cnt c1 (1000*((k+1:Nat):Int)+1000)) ∨
       (m=129∧(B1 c (atD t b) j p).1=33∧DI c1 t n (k+1)∧FP c1+1≤FP c∧Xj n (k+1+4*(FP c1+FW c1)+4) b j [p] (wrK bs j (Cu 129 A0 p)) c1 t r) ∨
       (m=258∧B1 c (atD t b) j p=(0,c1)∧DI c1 t n (k+1)∧r=(0,t,c1))):=by
  obtain ⟨hbi,hbad⟩:=h.bs a bs hbs
  have hat:=Xk hb ha
  have ha2:2≤a:=by have:=h.wf.us _ (Ks hb);rw [ha] at this;omega
  obtain ⟨e,m,c1,p1,f,hc,hblk,hcase⟩:=Pr (d:=p) (B:=1000*k+1000) h.up hbs hj hbad hbi hn h.cnt (by omega)
  have hbi':=Yu (q:=Cu m A0 p) hbi hj hn
  have hA:=h.bs.far f hblk hbi' hbad
  obtain ⟨r1,r2⟩:=hr
  rw [hat,p1] at r1 r2
  have hc1:Cnt c1 (1000*k+1000+10):=⟨by have:=hc.p0;omega,by have:=hc.w0;omega⟩
  refine ⟨m,c1,f,hblk,hA,?_⟩
  rcases hcase with ⟨rfl,h1,h2⟩ | ⟨rfl,rfl,h2,h3⟩ | ⟨rfl,rfl,h2⟩
  · exact .inl ⟨h1,h2,r2 (show ¬ (30:Int)=33 by decide),⟨by have:=hc.p0;push_cast;omega,by have:=hc.w0;push_cast;omega⟩⟩
  · have hD:=h.far ha2 f h2 hblk hbi' hbad hc1
    have fw:=f.fw
    have hM:MoveR n b j [p] c1 t r:=by
      have:=r1 rfl
      rwa [A0c] at this
    exact .inr (.inl ⟨rfl,by rw [hat,p1],hD,h3,Vf hM (k+1) a _ hD (by omega) (by omega) (by simp) (by simp;omega) hb ha hblk⟩)
  · exact .inr (.inr ⟨rfl,by rw [hat,p1],h.far ha2 f h2 hblk hbi' hbad hc1,r2 (show ¬ (0:Int)=33 by decide)⟩)
end
section
open Go.K
theorem Sm {c:Chip} {t:TS} {n k a:Nat} {b:Int} {bs:Blk} {r:Int×TS×Chip} (h:DI c t n k) (hk:k≤800000000000) (hf:FP c+FW c≤3) (hb:0≤b∧b<t.uses.length) (ha:at0 t.uses b=(a:Nat)) (hbs:c.blocks[a]? =some bs) (hr:Pq n b c t r) :
    ∃ b1 c1,Fr a c c1∧c1.blocks[a]? =some b1∧BI b1∧AllB c1∧(∀ (j:Nat) (h:j<8),b1.pages[j]=A0∨b1.pages[j]=bs.pages[j]) ∧
      ((c1.off=true∧¬ c.after<0∧r=(30,t,c1)∧Cnt c1 (1000*((k+1:Nat):Int)+1000)) ∨
       (DI c1 t n (k+1)∧FW c1+1≤FW c∧Xj n (k+1+4*(FP c1+FW c1)+4) b 0 [] b1 c1 t r) ∨
       (DI c1 t n (k+1)∧b1.next=0∧r=(0,t,c1))):=by
  obtain ⟨hbi,hbad⟩:=h.bs a bs hbs
  have hat:=Xk hb ha
  have ha2:2≤a:=by have:=h.wf.us _ (Ks hb);rw [ha] at this;omega
  obtain ⟨e,c1,p1,p2,hc⟩:=Nj (B:=1000*k+1000) h.up hbs hbad h.cnt (by omega)
  obtain ⟨b1,k1,k2,k3,k4,k5⟩:=p2.blk
  have hA:=h.bs.far p2.fr k1 k2 (k3.trans hbad)
  obtain ⟨r1,r2⟩:=hr
  rw [hat,p1] at r1 r2
  have hc1:Cnt c1 (1000*k+1000+10):=⟨by have:=hc.p0;omega,by have:=hc.w0;omega⟩
  refine ⟨b1,c1,p2.fr,k1,k2,hA,k4,?_⟩
  rcases p2.how with ⟨rfl,h1,h2⟩ | ⟨rfl,h1,h2⟩ | ⟨rfl,h1⟩
  · exact .inl ⟨h1,h2,r2 (show ¬ (30:Int)=33 by decide),⟨by have:=hc.p0;push_cast;omega,by have:=hc.w0;push_cast;omega⟩⟩
  · have hD:=h.far ha2 p2.fr (h.up.of p2.fr.dead p2.fr.out h1) k1 k2 (k3.trans hbad) hc1
    have fp:=p2.fr.fp
    have hM:MoveR n b 0 [] c1 t r:=r1 rfl
    exact .inr (.inl ⟨hD,h2,Vf hM (k+1) a _ hD (by omega) (by omega) (by simp) (by simp) hb ha k1⟩)
  · exact .inr (.inr ⟨h.far ha2 p2.fr (h.up.of p2.fr.dead p2.fr.out h1) k1 k2 (k3.trans hbad) hc1,k5 rfl,r2 (show ¬ (0:Int)=33 by decide)⟩)
end
section
open Go.K
theorem Ag4 {c:Chip} {t:TS} {n k a j:Nat} {b:Int} {bs:Blk} (h:DI c t n k) (hb:0≤b∧b<t.uses.length) (ha:at0 t.uses b=(a:Nat)) (hbs:c.blocks[a]? =some bs) (hj:j<8):Aww c (atD t b) j=0∧B0 c (atD t b) j=bs.pages[j]:=by
 have hi:a<c.blocks.length:=(Aym.1 hbs).1
 rw [Xk hb ha]
 have hm:=Abo h.up hi hj
 exact ⟨hm,Ot hm hbs hj⟩
end
section
open Go.K
theorem Zw {n:Nat} {t:TS} (h:WF n t.uses t.lost) (hs:(Bu t n).2=false):4≤t.lost.length:=by
 have hall:∀ x:Int,2≤x→x<n→x∈t.uses++t.lost:=fun x h1 h2=>by
  have hsp:D5 t n x=false:=by
   unfold Bu at hs
   cases hu:Ko t n with
   | some b=>rw [hu] at hs;cases hs
   | none =>
    unfold Ko at hu
    have:=List.find?_eq_none.1 hu x.toNat (A1w.2 (by omega))
    rw [Int.toNat_of_nonneg (by omega)] at this
    simpa using this
  unfold D5 at hsp
  rw [A1d]
  cases h3:E3 t.uses x with
  | true=>exact .inl (has_mem.1 h3)
  | false =>
   cases h4:E3 t.lost x with
   | true=>exact .inr (has_mem.1 h4)
   | false =>
    rw [h3,h4] at hsp
    simp at hsp
    omega
 have h1:=h.n1
 have:=Fs (l:=(List.range (n - 2)).map fun i=>((i:Nat):Int)+2) (m:=t.uses++t.lost) (by
  rw [Ayi,A0k]
  exact (Ayi.1 List.nodup_range).imp fun hne e=>hne (by omega)) (fun x hx=>by
   obtain ⟨i,hi,rfl⟩:=A2b.1 hx
   have:=A1w.1 hi
   exact hall _ (by omega) (by omega))
 have h2:=h.len
 simp at this
 omega
end
section
open Go.K
end
section
open Go.K
structure DV (c:Chip) (t:TS) (n k:Nat) (V:Nat→Blk):Prop where
 di:DI c t n k
 vw:∀ l:Nat,l+6<n→c.blocks[(at0 t.uses (l:Nat)).toNat]? =some (V l)
def upV (V:Nat→Blk) (b:Nat) (v:Blk):Nat→Blk:=fun l=>if l=b then v else V l
theorem E5 (V:Nat→Blk) (b:Nat) (v:Blk):upV V b v b=v:=A25 rfl
theorem K7 {V:Nat→Blk} {b l:Nat} {v:Blk} (h:l≠b):upV V b v l=V l:=A26 h
theorem DV.mono {c:Chip} {t:TS} {n k k':Nat} {V:Nat→Blk} (h:DV c t n k V) (hk:k≤k'):DV c t n k' V:=⟨h.di.mono hk,h.vw⟩
theorem JI.di {c:Chip} {t:TS} {u:List Int} {l:List Bool} {n:Nat} (h:JI c t u l n 0) (hb:∀ i,2≤i→i<n→c.blocks[i]? =some (Gz false)):DV c t n 0 fun _=>Gz false:=by
 have hU:∀ l:Nat,l+6<n→2≤at0 t.uses (l:Nat)∧at0 t.uses (l:Nat)<n:=fun l hl=>by
  have:=h.wf.us _ (Ks (l:=t.uses) (i:=(l:Nat)) (by have:=h.wf.len;omega))
  exact ⟨this.1,this.2.1⟩
 refine ⟨⟨h.up,h.ti,h.wf,h.len,fun i b hi=> ?_,h.cnt,h.ver⟩,fun l hl=> ?_⟩
 ·by_cases e:i<2
  ·obtain ⟨a,_,hh,_⟩:=h.ti
   obtain ⟨b2,h1,h2,h3⟩:=hh.bs i e
   rw [h1] at hi
   cases hi
   exact ⟨h2,h3⟩
  ·have hl:i<n:=by
    have:=(Aym.1 hi).1
    have:=h.len
    omega
   rw [hb i (by omega) hl] at hi
   cases hi
   refine ⟨⟨by simp [Gz],fun j hj _=>by simp [Gz]⟩,rfl⟩
 ·have:=hU l hl
  exact hb _ (by omega) (by omega)
theorem Xl {u:List Int} (h:u.Nodup) {l m:Nat} (hl:l<u.length) (hm:m<u.length) (e:at0 u (l:Nat)=at0 u (m:Nat)):l=m:=by
 have h1:at0 u (l:Nat)=u[l]:=by simp [at0,Ayg,hl]
 have h2:at0 u (m:Nat)=u[m]:=by simp [at0,Ayg,hm]
 rw [h1,h2] at e
 have hp:=Ayu.1 (Ayi.1 h)
 rcases Nat.lt_trichotomy l m with h3 | h3 | h3
 ·exact absurd e (hp l m hl hm h3)
 ·exact h3
 ·exact absurd e.symm (hp m l hm hl h3)
theorem Xm {u:List Int} {b l:Nat} {x:Int} (hb:b<u.length):at0 (u.set b x) (l:Nat)=if l=b then x else at0 u (l:Nat):=by
 unfold at0
 rw [A0c,Ayg,Ayg,A0l]
 by_cases e:l=b
 ·subst e;simp [hb]
 ·rw [A26 (fun h=>e h.symm),A26 e]
section
variable {c:Chip} {t:TS} {n k:Nat} {V:Nat→Blk}
theorem DV.us (h:DV c t n k V) {l:Nat} (hl:l+6<n):2≤at0 t.uses (l:Nat)∧at0 t.uses (l:Nat)<n∧l<t.uses.length:=by
 have h1:=h.di.wf.len
 have:=h.di.wf.us _ (Ks (l:=t.uses) (i:=(l:Nat)) (by omega))
 exact ⟨this.1,this.2.1,by omega⟩
theorem DV.act {c':Chip} {k':Nat} {b:Nat} {v:Blk} (h:DV c t n k V) (hb:b+6<n) (f:Fr (at0 t.uses (b:Nat)).toNat c c') (hv:c'.blocks[(at0 t.uses (b:Nat)).toNat]? =some v) (hd:DI c' t n k'):DV c' t n k' (upV V b v):=by
 refine ⟨hd,fun l hl=> ?_⟩
 by_cases e:l=b
 ·subst e;rw [E5];exact hv
 ·rw [K7 e,f.oth _ (fun e2=>e ?_)]
  ·exact h.vw l hl
  ·have h1:=h.us hl
   have h2:=h.us hb
   exact Xl h.di.wf.un h1.2.2 h2.2.2 (by omega)
theorem Pt {c c':Chip} {t:TS} {x l:Nat} (h:SameU t.uses c c') (hl:l<t.uses.length):c'.blocks[(at0 t.uses (l:Nat)).toNat]? =c.blocks[(at0 t.uses (l:Nat)).toNat]? :=h _ (Ks (by omega))
theorem DV.moved {c':Chip} {t':TS} {k':Nat} {b x:Nat} {v:Blk} (h:DV c t n k V) (hb:b+6<n) (hS:SameU t.uses c c') (hu:t'.uses=t.uses.set b x) (hv:c'.blocks[x]? =some v) (hd:DI c' t' n k'):DV c' t' n k' (upV V b v):=by
 refine ⟨hd,fun l hl=> ?_⟩
 have h1:=h.us hl
 have h2:=h.us hb
 rw [hu,Xm h2.2.2]
 by_cases e:l=b
 ·subst e;rw [E5,A25 rfl];exact hv
 ·rw [K7 e,A26 e,Pt (x:=0) hS h1.2.2]
  exact h.vw l hl
theorem DV.stay {c':Chip} {t':TS} {k':Nat} (h:DV c t n k V) (hS:SameU t.uses c c') (hu:t'.uses=t.uses) (hd:DI c' t' n k'):DV c' t' n k' V:=by
 refine ⟨hd,fun l hl=> ?_⟩
 have h1:=h.us hl
 rw [hu,Pt (x:=0) hS h1.2.2]
 exact h.vw l hl
end
def Later (c:Chip) (n k m:Nat) (V:Nat→Blk):Prop :=
 ∀ d:Chip,d.blocks=c.blocks→Up d→d.pc=c.pc→d.wc=c.wc→∃ t2,Dj d=(0,t2)∧DV d t2 n k V∧t2.lost.length+FP c+FW c≤m
theorem AllB.same {c c':Chip} (h:AllB c) (hb:c'.blocks=c.blocks):AllB c':=fun i b hi=>h i b (by rw [← hb];exact hi)
theorem Ji {c:Chip} {n k m v a:Nat} {u l:List Int} {V:Nat→Blk} (h:Hold c v u l a) (hw:WF n u l) (hl:c.blocks.length=n) (hb:AllB c) (hc:Cnt c (1000*k+1000)) (hv:v≤k+1) (hm:l.length+FP c+FW c≤m)
  (hV:∀ i:Nat,i+6<n→c.blocks[(at0 u (i:Nat)).toNat]? =some (V i)):Later c n k m V:=fun d h1 h2 h3 h4=>by
 obtain ⟨t,o1,o2,o3,o4⟩:=Ve h2 (h.same h1) hw (by rw [h1];exact hl) (hb.same h1) ⟨by rw [h3];exact hc.p0,by rw [h4];exact hc.w0⟩ hv
 exact ⟨t,o1,⟨o2,fun i hi=>by rw [o3,h1];exact hV i hi⟩,by rw [o4];exact hm⟩
def Rq (v w:Blk) (j:Nat):Prop:=∀ (i:Nat) (h:i<8),i<j→v.pages[i]=w.pages[i]∨v.pages[i]=Dv w.pages[i]
end
section
open Go.K
def PV (n k:Nat) (V:Nat→Blk) (b j:Nat) (p:Pg) (c:Chip) (t:TS) (r:Int×TS×Chip):Prop :=
  FrA c r.2.2∧∃ v:Blk,v.next=((j+1:Nat):Int)∧Rq v (V b) j ∧
  ((r.1=0∧DV r.2.2 r.2.1 n k (upV V b v)∧(∀ h:j<8,v.pages[j]=p)∧r.2.1.lost.length+FP r.2.2+FW r.2.2≤t.lost.length+FP c+FW c ∧
      (((B1 c (atD t (b:Nat)) j p).1=33∧t.lost.length+1≤r.2.1.lost.length∧∀ (i:Nat) (h:i<8),i<j→v.pages[i]=Dv (V b).pages[i])∨(B1 c (atD t (b:Nat)) j p=(0,r.2.2)∧r.2.1=t∧v=wrK (V b) j p))) ∨
   (r.1=34∧DV r.2.2 r.2.1 n k (upV V b v)∧4≤r.2.1.lost.length∧r.2.1.lost.length+FP r.2.2+FW r.2.2+1≤t.lost.length+FP c+FW c) ∨
   (r.1=30∧r.2.2.off=true∧¬ c.after<0∧(∃ m,∀ h:j<8,v.pages[j]=Cu m A0 p)∧Later r.2.2 n k (t.lost.length+FP c+FW c) (upV V b v)))
theorem Nu {w:Blk} {j:Nat} {q:Pg}:Rq (wrK w j q) w j:=fun i h hi=> .inl (by rw [Gc h,A26 (by omega)])
theorem Q0 {w x v:Blk} {j:Nat} {more:List Pg} {q:Pg} (h:M0 (wrK w j q) v j more):Rq v w j:=fun i hi hlt=> .inr (by rw [h.2.1 i hi hlt,Gc hi,A26 (by omega)])
theorem U2 {w x v:Blk} {j:Nat} {more:List Pg} {q:Pg} (h:M0 (wrK w j q) v j more):∀ (i:Nat) (h:i<8),i<j→v.pages[i]=Dv w.pages[i]:=fun i hi hlt=>by rw [h.2.1 i hi hlt,Gc hi,A26 (by omega)]
theorem Pu (V:Nat→Blk) (b:Nat) (v w:Blk):upV (upV V b v) b w=upV V b w:=by
  funext l
  unfold upV
  split <;> rfl
theorem Ag5 {c:Chip} {t:TS} {n k b j:Nat} {V:Nat→Blk} {p:Pg} {r:Int×TS×Chip} (h:DV c t n k V) (hk:k≤700000000000) (hf:FP c+FW c≤3) (hb:b+6<n) (hj:j<8) (hn:(V b).next=j) (hr:Qy n (b:Nat) j p c t r):PV n (k+20) V b j p c t r:=by
  have hu:=h.us hb
  have hlen:=h.di.len
  obtain ⟨a,ha⟩:∃ a:Nat,at0 t.uses (b:Nat)=(a:Nat):=⟨(at0 t.uses (b:Nat)).toNat,by omega⟩
  have hva:=h.vw b hb
  have hta:(at0 t.uses (b:Nat)).toNat=a:=by omega
  rw [hta] at hva
  obtain ⟨m,c1,f,hw,hA,hcase⟩:=Ps h.di (by omega) hf (by omega) ha hva hj hn hr
  rcases hcase with ⟨h1,h2,rfl,h3⟩ | ⟨rfl,hpe,h1,h2,h0,hS,h3⟩ | ⟨rfl,hpe,h1,rfl⟩
  · refine ⟨f.all,wrK (V b) j (Cu m A0 p),by show (j:Int)+1=_;omega,Nu,.inr (.inr ⟨rfl,h1,h2,⟨m,fun hj'=>by rw [Gc hj',A25 rfl]⟩,?_⟩)⟩
    obtain ⟨a0,_,hh,_⟩:=h.di.ti
    have fp:=f.fp
    have fw:=f.fw
    have hv:=h.di.ver
    refine Ji (hh.far (by omega) f) h.di.wf (f.len.trans hlen) hA ⟨by have:=h3.p0;push_cast at this ⊢;omega,by have:=h3.w0;push_cast at this ⊢;omega⟩ (by omega) (by simp only;omega) fun i hi=> ?_
    by_cases e:i=b
    · subst e;rw [E5,hta];exact hw
    · have hui:=h.us hi
      rw [K7 e,f.oth _ (fun e2=>e (Xl h.di.wf.un hui.2.2 hu.2.2 (by omega)))]
      exact h.vw i hi
  · have fw:=f.fw
    have hD:=h.act hb (by rw [hta];exact f) (by rw [hta];exact hw) h1
    refine ⟨f.all.trans h0,?_⟩
    rcases h3 with ⟨q1,q2,q3,q4,q5⟩ | ⟨q1,q2,q3,q4,x,b',q5,q6,q7,q8,q9⟩ | ⟨q1,q2,q3,q4,q5,v,uu,ll,a0,q6,q6',q7,q8,q9⟩
    · refine ⟨_,by show (j:Int)+1=_;omega,Nu,.inr (.inl ⟨q1,(hD.stay hS q3 q2).mono (by omega),Zw q2.wf q4,by omega⟩)⟩
    · refine ⟨b',by rw [q9.1];simp,Q0 (x:=b') q9,.inl ⟨q1,?_,fun hj'=>q9.2.2 p hj' rfl,by omega,.inl ⟨hpe,q4,U2 (x:=b') q9⟩⟩⟩
      have:=(hD.moved hb hS (by rw [A0c] at q7;exact q7) q8 q2).mono (k':=k+20) (by omega)
      rwa [Pu] at this
    · have q3':¬ c.after<0:=fun hp=>q3 (by rw [(f.pos hp).1];exact hp)
      have hc':Cnt r.2.2 (1000*((k+20:Nat):Int)+1000):=⟨by have:=q4.p0;push_cast at this ⊢;omega,by have:=q4.w0;push_cast at this ⊢;omega⟩
      have hl':r.2.2.blocks.length=n:=h0.len.trans h1.len
      rcases q9 with q9 | ⟨x,b',r1,r2,r3,r4,r5⟩
      · refine ⟨_,by show (j:Int)+1=_;omega,Nu,.inr (.inr ⟨q1,q2,q3',⟨129,fun hj'=>by rw [Gc hj',A25 rfl]⟩,?_⟩)⟩
        refine Ji q7 q8 hl' q5 hc' (by omega) (by omega) fun i hi=> ?_
        rw [q9,Pt (x:=0) hS (h.us hi).2.2]
        exact hD.vw i hi
      · refine ⟨b',by rw [r5.1];simp,Q0 (x:=b') r5,.inr (.inr ⟨q1,q2,q3',⟨258,fun hj'=>by rw [Fu (A2q _)];exact r5.2.2 p hj' rfl⟩,?_⟩)⟩
        refine Ji q7 q8 hl' q5 hc' (by omega) (by omega) fun i hi=> ?_
        rw [r3,A0c,Xm hu.2.2]
        by_cases e:i=b
        · subst e;rw [A25 rfl,E5];exact r4
        · rw [A26 e,K7 e,Pt (x:=0) hS (h.us hi).2.2,hD.vw i hi,K7 e]
  · refine ⟨f.all,_,by show (j:Int)+1=_;omega,Nu,.inl ⟨rfl,(h.act hb (by rw [hta];exact f) (by rw [hta];exact hw) h1).mono (by omega),fun hj'=>by rw [Gc hj',A25 rfl];exact Fu (A2q _),?_,.inr ⟨hpe,rfl,by rw [Fu (A2q _)]⟩⟩⟩
    have fp:=f.fp
    have fw:=f.fw
    simp only
    omega
def EV (n k:Nat) (V:Nat→Blk) (b:Nat) (c:Chip) (t:TS) (r:Int×TS×Chip):Prop :=
  FrA c r.2.2∧∃ v:Blk,(∀ (j:Nat) (h:j<8),v.pages[j]=A0∨v.pages[j]=(V b).pages[j]) ∧
  ((r.1=0∧DV r.2.2 r.2.1 n k (upV V b v)∧v.next=0∧r.2.1.lost.length+FP r.2.2+FW r.2.2≤t.lost.length+FP c+FW c) ∨
   (r.1=34∧DV r.2.2 r.2.1 n k (upV V b v)∧4≤r.2.1.lost.length∧r.2.1.lost.length+FP r.2.2+FW r.2.2+1≤t.lost.length+FP c+FW c) ∨
   (r.1=30∧r.2.2.off=true∧¬ c.after<0∧Later r.2.2 n k (t.lost.length+FP c+FW c) (upV V b v)))
theorem DV.blk {c:Chip} {t:TS} {n k:Nat} {V:Nat→Blk} (h:DV c t n k V) {l:Nat} (hl:l+6<n):BI (V l)∧(V l).bad=false:=h.di.bs _ _ (h.vw l hl)
theorem BI.none {b:Blk} (h:BI b) (h0:b.next=0) (j:Nat) (hj:j<8):b.pages[j]=A0:=h.bl j hj (by omega)
theorem Acy {c:Chip} {t:TS} {n k b:Nat} {V:Nat→Blk} {r:Int×TS×Chip} (h:DV c t n k V) (hk:k≤700000000000) (hf:FP c+FW c≤3) (hb:b+6<n) (hr:Pq n (b:Nat) c t r):EV n (k+20) V b c t r:=by
  have hu:=h.us hb
  have hlen:=h.di.len
  obtain ⟨a,ha⟩:∃ a:Nat,at0 t.uses (b:Nat)=(a:Nat):=⟨(at0 t.uses (b:Nat)).toNat,by omega⟩
  have hva:=h.vw b hb
  have hta:(at0 t.uses (b:Nat)).toNat=a:=by omega
  rw [hta] at hva
  obtain ⟨b1,c1,f,hw,hbi,hA,hpg,hcase⟩:=Sm h.di (by omega) hf (by omega) ha hva hr
  rcases hcase with ⟨h1,h2,rfl,h3⟩ | ⟨h1,h2,h0,hS,h3⟩ | ⟨h1,h2,rfl⟩
  · refine ⟨f.all,b1,hpg,.inr (.inr ⟨rfl,h1,h2,?_⟩)⟩
    obtain ⟨a0,_,hh,_⟩:=h.di.ti
    have fp:=f.fp
    have fw:=f.fw
    have hv:=h.di.ver
    refine Ji (hh.far (by omega) f) h.di.wf (f.len.trans hlen) hA ⟨by have:=h3.p0;push_cast at this ⊢;omega,by have:=h3.w0;push_cast at this ⊢;omega⟩ (by omega) (by simp only;omega) fun i hi=> ?_
    by_cases e:i=b
    · subst e;rw [E5,hta];exact hw
    · have hui:=h.us hi
      rw [K7 e,f.oth _ (fun e2=>e (Xl h.di.wf.un hui.2.2 hu.2.2 (by omega)))]
      exact h.vw i hi
  · have fp:=f.fp
    have hD:=h.act hb (by rw [hta];exact f) (by rw [hta];exact hw) h1
    refine ⟨f.all.trans h0,?_⟩
    rcases h3 with ⟨q1,q2,q3,q4,q5⟩ | ⟨q1,q2,q3,q4,x,b',q5,q6,q7,q8,q9⟩ | ⟨q1,q2,q3,q4,q5,v,uu,ll,a0,q6,q6',q7,q8,q9⟩
    · exact ⟨b1,hpg,.inr (.inl ⟨q1,(hD.stay hS q3 q2).mono (by omega),Zw q2.wf q4,by omega⟩)⟩
    · have hb0:b'.next=0:=by rw [q9.1];rfl
      have hbi':=(q2.bs _ _ q8).1
      refine ⟨b',fun j hj=> .inl (hbi'.none hb0 j hj),.inl ⟨q1,?_,hb0,by omega⟩⟩
      have:=(hD.moved hb hS (by rw [A0c] at q7;exact q7) q8 q2).mono (k':=k+20) (by omega)
      rwa [Pu] at this
    · have q3':¬ c.after<0:=fun hp=>q3 (by rw [(f.pos hp).1];exact hp)
      have hc':Cnt r.2.2 (1000*((k+20:Nat):Int)+1000):=⟨by have:=q4.p0;push_cast at this ⊢;omega,by have:=q4.w0;push_cast at this ⊢;omega⟩
      have hl':r.2.2.blocks.length=n:=h0.len.trans h1.len
      rcases q9 with q9 | ⟨x,b',r1,r2,r3,r4,r5⟩
      · refine ⟨b1,hpg,.inr (.inr ⟨q1,q2,q3',?_⟩)⟩
        refine Ji q7 q8 hl' q5 hc' (by omega) (by omega) fun i hi=> ?_
        rw [q9,Pt (x:=0) hS (h.us hi).2.2]
        exact hD.vw i hi
      · have hb0:b'.next=0:=by rw [r5.1];rfl
        have hbi':=(q5 _ _ r4).1
        refine ⟨b',fun j hj=> .inl (hbi'.none hb0 j hj),.inr (.inr ⟨q1,q2,q3',?_⟩)⟩
        refine Ji q7 q8 hl' q5 hc' (by omega) (by omega) fun i hi=> ?_
        rw [r3,A0c,Xm hu.2.2]
        by_cases e:i=b
        · subst e;rw [A25 rfl,E5];exact r4
        · rw [A26 e,K7 e,Pt (x:=0) hS (h.us hi).2.2,hD.vw i hi,K7 e]
  · exact ⟨f.all,b1,hpg,.inl ⟨rfl,(h.act hb (by rw [hta];exact f) (by rw [hta];exact hw) h1).mono (by omega),h2,by have fp:=f.fp;have fw:=f.fw;simp only;omega⟩⟩
end
section
open Go.K
section
variable {c:Chip} {t:TS} {n k:Nat} {V:Nat→Blk} {b j:Int} {p:Pg} {r:Int×TS×Chip}
theorem Ajz (h:DV c t n k V) {b j:Nat} (hb:b+6<n) (hj:j<8) (hn:(V b).next≠j) (hr:Qy n (b:Nat) (j:Nat) p c t r):r=(32,t,c):=by
 have hu:=h.us hb
 have hv:=h.vw b hb
 have hat:atD t (b:Nat)=((at0 t.uses (b:Nat)).toNat:Nat):=Xk (by omega) (by omega)
 have hp:=Ww h.di.up (d:=p) hv hj hn
 rw [← hat] at hp
 have:=hr.2 (by rw [hp];simp)
 rw [hp] at this
 exact this
theorem Aj0 (h:DV c t n k V) {b j:Nat} (hb:b+6<n) (hj:j<8):Aww c (atD t (b:Nat)) j=0∧B0 c (atD t (b:Nat)) j=(V b).pages[j]:=by
 have hu:=h.us hb
 exact Ag4 h.di (by omega) (by omega) (h.vw b hb) hj
end
end
section
open Go.K
structure Dsk where
 dk:Nat
 t:Tab
 c:Chip
@[irreducible] def dkH (d:Dsk):Hp:=(d.dk,true,C [ptr d.c.aC,ptr d.t.b] tDk)::(Dk d.c.aC d.t++(chH d.c++[]))
theorem F7 (d:Dsk):dkH d=(d.dk,true,C [ptr d.c.aC,ptr d.t.b] tDk)::(Dk d.c.aC d.t++(chH d.c++[])):=by unfold dkH;rfl
def DD (d:Dsk) (n k:Nat) (V:Nat→Blk):Prop:=DV d.c d.t.ts n k V
theorem Ati (d:Dsk):∀ x∈chH d.c,x∈dkH d:=fun x hx=>by
 rw [F7]
 exact .tail _ (Aza _ (Azo _ hx))
section
variable {d:Dsk}
theorem Aj1:Does Tryz.prog 66 [ptr d.dk] (dkH d) (Is (.int .i64 d.t.u.list.length) (dkH d)):=by
 rw [F7];exact (Apf (a:=d.c.aC) (t:=d.t) (dk:=d.dk)).inIs sP aQ sP
theorem I6 {b k:Int}:Does Tryz.prog 100 [ptr d.dk,.int .i64 b,.int .i64 k] (dkH d)
  (Is (.tuple #[.agg (vbc (B0 d.c (atD d.t.ts b) k)).toArray,.int .i64 (Aww d.c (atD d.t.ts b) k)]) (dkH d)):=by
 rw [F7];exact (Zt (c:=d.c) (t:=d.t) (dk:=d.dk) rfl).inIs sP aQ sP
theorem Sn {n k:Nat} {V:Nat→Blk} (h:DD d n k V) {b j:Int} {p:Pg}:Does Tryz.prog 171 [ptr d.dk,.int .i64 b,.int .i64 j,.agg (vbc p).toArray] (dkH d)
  (fun v H=>∃ (t':Tab) (c':Chip) (e:Int),v= .int .i64 e∧H=dkH ⟨d.dk,t',c'⟩++[]∧Qy n b j p d.c d.t.ts (e,t'.ts,c')):=by
 rw [F7]
 refine (Zv (c:=d.c) (t:=d.t) (dk:=d.dk) (n:=n) rfl h.di.len h.di.wt).inn sP fun v Y ⟨t',e,c',h1,h2,h3,h4,h5⟩=> ?_
 refine ⟨_,⟨t',c',e,h2,rfl,h5⟩,?_⟩
 rw [h3,F7]
 simp only [h4,A1j]
 exact ⟨_,_,aQ,sP⟩
theorem Aj2 {n k:Nat} {V:Nat→Blk} (h:DD d n k V) {b:Int}:Does Tryz.prog 170 [ptr d.dk,.int .i64 b] (dkH d)
  (fun v H=>∃ (t':Tab) (c':Chip) (e:Int),v= .int .i64 e∧H=dkH ⟨d.dk,t',c'⟩++[]∧Pq n b d.c d.t.ts (e,t'.ts,c')):=by
 rw [F7]
 refine (Ag1 (c:=d.c) (t:=d.t) (dk:=d.dk) (n:=n) rfl h.di.len h.di.wt).inn sP fun v Y ⟨t',e,c',h1,h2,h3,h4,h5⟩=> ?_
 refine ⟨_,⟨t',c',e,h2,rfl,h5⟩,?_⟩
 rw [h3,F7]
 simp only [h4,A1j]
 exact ⟨_,_,aQ,sP⟩
end
theorem Aj3 (m:Nat):(Gy m []).countP id=0:=by
 unfold Gy
 rw [List.countP_map]
 exact List.countP_eq_zero.2 fun x _=>(show ¬ false=true from Az2)
structure New0 (d:Dsk) (m:Nat):Prop where
 dd:DD d m 0 fun _=>Gz false
 pf:d.c.pf.list=[]
 wf:d.c.wf.list=[]
 af:d.c.after<0
 lost:d.t.ts.lost.length=0
 uses:d.t.ts.uses=Ns (Gy m []) ((m:Int) - 6) m
theorem Ag6 {pp aC aB m:Nat} (hm:16≤m∧m≤40) (hX:Vc (Gy m [])=false):Does Tryz.prog 84 [ptr aC] (chH (Du (-1) 0 pp aC aB m []))
  (fun v H=>∃ d:Dsk,v= .tuple #[ptr d.dk,.int .i64 0]∧H=dkH d++[]∧New0 d m):=by
 refine (Acw (pp:=pp) (aC:=aC) (aB:=aB) hm hX).mono fun v H ⟨dk,tb,c',h1,h2,h3,_,h4,h5⟩=> ?_
 refine ⟨⟨dk,tb,c'⟩,h1,by rw [F7,h2,← h3];simp,h4.di h5,h4.pf,h4.wfl,h4.af,?_,h4.rel.uu.symm⟩
 have:=h4.rel.count
 rw [Aj3] at this
 exact this.symm
theorem Atj {c:Chip} (h:c.pf.list=[]):FP c=0:=by unfold FP;rw [h];rfl
theorem Atk {c:Chip} (h:c.wf.list=[]):FW c=0:=by unfold FW;rw [h];rfl
end
section
open Go.K
def nF (p:Pg) (kind:By):Wd×Bool:=((C7 8 (Cg p).2.1 false).1,(decide ((Cg p).2.2.2=0) && decide (((Cg p).1.toNat:Int)=kind.toNat)) && decide (((Cg p).2.1.length:Int)=8))
def U3 (kind:By) (x:Wd):Pg:=Cw kind (Co 8 x)
theorem J9 {kind:By} (h:0<kind.toNat∧kind.toNat<255) (x:Wd):C6 kind (Co 8 x)=false:=by
 unfold C6
 rw [Bo]
 simp
 omega
theorem Atp {kind:By} (h:0<kind.toNat∧kind.toNat<255) (x:Wd):nF (U3 kind x) kind=(x,true):=by
 have hr:=Ig (J9 h x)
 unfold nF U3
 rw [hr]
 have h1:(Co 8 x).length=8:=Bo 8 x
 have h2:C7 8 (Co 8 x) false=(D9 (Co 8 x) 8,[],false):=by
  have:=Jz (k:=8) (xs:=Co 8 x) (r:=[]) (bad:=false) h1
  rwa [A1j] at this
 simp [h2,Jy,h1]
theorem Akg {p:Pg} {kind:By} (h:(Cg p).2.2.2≠0):(nF p kind).2=false:=by
 unfold nF
 simp [h]
theorem Nw {kind:By}:(nF A0 kind).2=false:=Akg (by rw [E6 Ud];decide)
theorem Ih {kind:By} (h:0<kind.toNat∧kind.toNat<255) (x:Wd):Dv (U3 kind x)=U3 kind x:=Vd (J9 h x)
abbrev I7 (x:Wd):Pg:=U3 2 x
abbrev Nx (x:Wd):Pg:=U3 3 x
structure LB where
 wear:Wd
 known:Bool
 seq:Wd
 ready:Bool
 next:Int
def lbC (x:LB):List Value:=[wv x.wear,.bool x.known,wv x.seq,.bool x.ready,.int .i64 x.next]
instance:Cel LB:=⟨5,lbC,fun _=>rfl,fun _=>rfl⟩
def lbs (l:List LB):List Value:=l.flatMap lbC
def A9 (v:Blk) (i:Nat):Pg:=if h:i<8 then v.pages[i] else A0
def Fi (v:Blk):Nat→Nat
 | 0=>8
 | k+1=>if Fi v k=8 - k∧Bs (A9 v (7 - k))=true then 7 - k else Fi v k
def Ku (v:Blk):Nat:=Fi v 8
theorem Sr (v:Blk):∀ k,k≤8→8 - k≤Fi v k∧Fi v k≤8
 | 0,_=>⟨A2q _,A2q _⟩
 | k+1,h=>by
  have ih:=Sr v k (by omega)
  unfold Fi
  split <;> omega
@[irreducible] def Ce (v:Blk):LB:=⟨(nF (A9 v 0) 2).1,(nF (A9 v 0) 2).2,if (nF (A9 v 1) 3).2=true then (nF (A9 v 1) 3).1 else 0,false,if (nF (A9 v 1) 3).2=true then (Ku v:Int) else 8⟩
theorem Ss {v:Blk} {k:Nat} (h:Fi v k=8 - k) (hb:Bs (A9 v (7 - k))=false) (hk:k≤8):∀ m,k<m→m≤8→Fi v m=8 - k
 | 0,h1,_=>by omega
 | m+1,h1,h2=>by
  unfold Fi
  by_cases e:m=k
  ·subst e
   rw [A26 (by rw [hb];simp)];exact h
  ·have ih:=Ss h hb hk m (by omega) (by omega)
   rw [ih,A26 (by omega)]
theorem Z1 {v:Blk} {k:Nat} (h:Fi v k=8 - k) (hb:Bs (A9 v (7 - k))=true):Fi v (k+1)=7 - k:=by
 unfold Fi
 rw [A25 ⟨h,hb⟩]
theorem St {v:Blk} {k:Nat} (h:Fi v k=8 - k) (hb:Bs (A9 v (7 - k))=false) (hk:k<8):Ku v=8 - k:=Ss h hb (by omega) 8 hk (A2q _)
def bAt (bs:List LB) (b:Nat):LB:=bs.getD b ⟨0,false,0,false,0⟩
theorem Ry {bs:List LB} {b:Nat} {x:LB} (h:bs[b]? =some x):bAt bs b=x:=by simp [bAt,Ayg,h]
theorem Ep {bs:List LB} {b:Nat} (h:b<bs.length):bs[b]? =some (bAt bs b):=by
 rw [Ayw h]
 simp [bAt,Ayg,h]
def Dw (bs:List LB):Nat→Int
 | 0=> -1
 | k+1=>if 0<(bAt bs k).seq.toNat∧(Dw bs k<0∨(bAt bs (Dw bs k).toNat).seq.toNat<(bAt bs k).seq.toNat) then k else Dw bs k
theorem Ka (bs:List LB):∀ k,(Dw bs k= -1∧∀ j<k,(bAt bs j).seq.toNat=0)∨(∃ l:Nat,Dw bs k=l∧l<k∧0<(bAt bs l).seq.toNat∧∀ j<k,(bAt bs j).seq.toNat≤(bAt bs l).seq.toNat)
 | 0=> .inl ⟨rfl,fun j hj=>by omega⟩
 | k+1=>by
  rcases Ka bs k with ⟨h1,h2⟩ | ⟨l,h1,h2,h3,h4⟩
  ·unfold Dw
   rw [h1]
   by_cases h:0<(bAt bs k).seq.toNat
   ·rw [A25 ⟨h,.inl (by omega)⟩]
    refine .inr ⟨k,rfl,by omega,h,fun j hj=> ?_⟩
    by_cases e:j=k
    ·subst e;exact A2q _
    ·rw [h2 j (by omega)];omega
   ·rw [A26 (fun h5=>h h5.1)]
    refine .inl ⟨rfl,fun j hj=> ?_⟩
    by_cases e:j=k
    ·subst e;omega
    ·exact h2 j (by omega)
  ·unfold Dw
   rw [h1,A0c]
   by_cases h:(bAt bs l).seq.toNat<(bAt bs k).seq.toNat
   ·rw [A25 ⟨by omega,.inr h⟩]
    refine .inr ⟨k,rfl,by omega,by omega,fun j hj=> ?_⟩
    by_cases e:j=k
    ·subst e;exact A2q _
    ·have:=h4 j (by omega);omega
   ·rw [A26 (fun h5=>by rcases h5.2 with h6 | h6 <;> omega)]
    refine .inr ⟨l,rfl,by omega,h3,fun j hj=> ?_⟩
    by_cases e:j=k
    ·subst e;omega
    ·exact h4 j (by omega)
def Mn (bs:List LB):Nat→Wd
 | 0=>0
 | k+1=>if (Mn bs k).toNat<(bAt bs k).wear.toNat then (bAt bs k).wear else Mn bs k
def Hq (m:Wd) (x:LB):LB:=if x.known=true then x else { x with wear:=m }
def D2 (V:Nat→Blk) (nb:Nat):List LB×Int :=
 let bs:=(List.range nb).map fun b=>Ce (V b)
 (bs.map (Hq (Mn bs nb)),Dw bs nb)
end
section
open Go.K
instance ent83:Ent Tryz.prog 83:=⟨fun _ _=>by kernel_rfl⟩
theorem Aj4 {c:Chip} {t2:TS} (hb:2≤c.blocks.length∧c.blocks.length≤1000) (ho:Dj c=(0,t2)):Does Tryz.prog 83 [ptr c.aC] (chH c)
  (fun v H=>∃ (dk:Nat) (tb:Tab),v= .tuple #[ptr dk,.int .i64 0]∧H=(dk,true,C [ptr c.aC,ptr tb.b] tDk)::(Dk c.aC tb++(chH c++[]))∧tb.ts=t2):=by
 refine Ah (n:=17) Tryz.func83 Tryz.ntmps83 rfl (Ay9 rfl)<|Ad<|Aa fun ops=>oA rfl<|oA rfl<|Ac<|n_K<|Ad<|Aa fun ops=>oM rfl ?_
 refine Bd rfl (Avg (c:=c) rfl (by omega) ho) sP rfl fun v8 Y8 h8=> ?_
 obtain ⟨tb,rfl,rfl,htb⟩:=h8
 refine Ay aQ ?_
 refine oM rfl<|oE rfl rfl<|oE rfl rfl<|oA rfl<|oA rfl<|Ac<|n_K<|Ad<|Aa fun ops=>oM rfl<|oM rfl<|oM rfl ?_
 refine Bd rfl (Ae1 (a:=c.aC) (tb:=tb.b)) sP rfl fun v14 Y14 h14=> ?_
 obtain ⟨dk,rfl,rfl⟩:=h14
 refine Ay aQ ?_
 refine oE rfl rfl<|oE rfl rfl<|oA rfl<|oA rfl<|Ac<|n_K<|An ?_
 exact Av (Bz Tryz.results83 (Ag rfl) (Ag rfl)) (by exact ⟨dk,tb,rfl,rfl,htb⟩) sP
theorem Api {d:Dsk} {t2:TS} (hb:2≤d.c.blocks.length∧d.c.blocks.length≤1000) (ho:Dj d.c=(0,t2)):Does Tryz.prog 83 [ptr d.c.aC] (dkH d)
  (fun v H=>∃ (dk':Nat) (tb:Tab),v= .tuple #[ptr dk',.int .i64 0]∧H=dkH ⟨dk',tb,d.c⟩++[]∧tb.ts=t2):=by
 rw [F7]
 refine (Aj4 hb ho).inn sP fun v Y ⟨dk',tb,h1,h2,h3⟩=> ?_
 refine ⟨_,⟨dk',tb,h1,rfl,h3⟩,?_⟩
 rw [h2,F7]
 simp only [A1j]
 exact ⟨_,_,aQ,sP⟩
theorem DV.same {c c':Chip} {t:TS} {n k:Nat} {V:Nat→Blk} (h:DV c t n k V) (hb:c'.blocks=c.blocks) (up:Up c') (hp:c'.pc=c.pc) (hw:c'.wc=c.wc):DV c' t n k V :=
 ⟨⟨up,h.di.ti.same hb,h.di.wf,by rw [hb];exact h.di.len,h.di.bs.same hb,⟨by rw [hp];exact h.di.cnt.p0,by rw [hw];exact h.di.cnt.w0⟩,h.di.ver⟩,by rw [hb];exact h.vw⟩
section
variable {d:Dsk}
theorem Avi:Does Tryz.prog 38 [ptr d.c.aP] (dkH d) (Is (.tuple #[]) (dkH ⟨d.dk,d.t,onC d.c⟩)):=by
 rw [F7,F7]
 exact (Ao9 (c:=d.c)).inIs sP aQ sP
theorem Atl {a k:Int}:Does Tryz.prog 36 [ptr d.c.aP,.int .i64 a,.int .i64 k] (dkH d) (Is (.tuple #[]) (dkH ⟨d.dk,d.t,Vb d.c a k⟩)):=by
 rw [F7,F7]
 exact (Ajr (c:=d.c)).inIs sP aQ sP
end
end
section
open Go.K
instance agg68:Agg Tryz.prog 68 false:=⟨⟨_,Tryz.underlying68,rfl⟩⟩
instance und69:Und Tryz.prog 69 (.slice 140):=⟨Tryz.underlying69⟩
instance agg69:Agg Tryz.prog 69 false:=⟨⟨_,Tryz.underlying69,rfl⟩⟩
instance agg140:Agg Tryz.prog 140 true:=⟨⟨_,Tryz.underlying140,rfl⟩⟩
instance siz140:Siz Tryz.prog 140 5:=⟨by kernel_rfl⟩
instance zer140:Zer Tryz.prog 140 ([.int .u64 0,.bool false,.int .u64 0,.bool false,.int .i64 0]):=⟨by kernel_rfl⟩
instance fld71_0:Fld Tryz.prog 71 0 0:=⟨⟨_,_,0,Tryz.underlying71,rfl,by kernel_rfl,rfl⟩⟩
instance fld71_1:Fld Tryz.prog 71 1 1:=⟨⟨_,_,0,Tryz.underlying71,rfl,by kernel_rfl,rfl⟩⟩
instance fld140_0:Fld Tryz.prog 140 0 0:=⟨⟨_,_,0,Tryz.underlying140,rfl,by kernel_rfl,rfl⟩⟩
instance fld140_1:Fld Tryz.prog 140 1 1:=⟨⟨_,_,0,Tryz.underlying140,rfl,by kernel_rfl,rfl⟩⟩
instance fld140_2:Fld Tryz.prog 140 2 2:=⟨⟨_,_,0,Tryz.underlying140,rfl,by kernel_rfl,rfl⟩⟩
instance fld140_4:Fld Tryz.prog 140 4 4:=⟨⟨_,_,0,Tryz.underlying140,rfl,by kernel_rfl,rfl⟩⟩
instance plc140:Plc Tryz.prog 140 [(0,1),(1,1),(2,1),(3,1),(4,1)]:=⟨⟨_,Tryz.underlying140,fun _=>by kernel_rfl⟩⟩
instance ent148:Ent Tryz.prog 148:=⟨fun _ _=>by kernel_rfl⟩
instance ent190:Ent Tryz.prog 190:=⟨fun _ _=>by kernel_rfl⟩
abbrev tLg:TypeId:=71
abbrev tLB:TypeId:=140
theorem Xo (x:LB):(lbC x).length=5:=rfl
section
variable {bs:List LB} {b:Nat} {x:LB}
theorem Fn {o:Nat} {v:Value} (h:bs[b]? =some x) (ho:o<5) (hv:nth (lbC x) o=some v):nth (lbs bs) (b*5+o)=some v:=by
 rw [lbs,N9 (n:=5) (fun b _=>Xo b) h ho];exact hv
theorem Pv (h:bs[b]? =some x):cut (lbs bs) (b*5) 5=some (lbC x):=by
 have:=Oa (f:=lbC) (n:=5) (o:=0) (m:=5) (fun b _=>Xo b) h rfl
 rw [A2e] at this;exact this
theorem Ek {o:Nat} {vs:List Value} {y:LB} (h:bs[b]? =some x) (hs:Br (lbC x) o vs=some (lbC y)):Br (lbs bs) (b*5+o) vs=some (lbs (bs.set b y)) :=
 G4 (f:=lbC) (n:=5) (fun b _=>Xo b) h hs
end
abbrev lgC (dk bb nb:Nat) (last:Int):List Value:=[ptr dk,.slice (some ⟨bb,0,none⟩) nb nb,.int .i64 last]
theorem Ii {d:Dsk} {n k:Nat} {V:Nat→Blk} (h:DD d n k V) {b j:Nat} (hb:b+6<n) (hj:j<8):Aww d.c (atD d.t.ts (b:Nat)) j=0∧B0 d.c (atD d.t.ts (b:Nat)) j=A9 (V b) j:=by
 have:=Aj0 h hb hj
 unfold A9
 rw [A22 hj]
 exact this
section
variable {d:Dsk} {n k lg bb nb:Nat} {last:Int} {V:Nat→Blk}
theorem Vl (h:DD d n k V) {b j:Nat} {kind:By} (hb:b+6<n) (hj:j<8):Does Tryz.prog 190 [ptr lg,.int .i64 (b:Nat),.int .i64 (j:Nat),bv kind] ((lg,true,C (lgC d.dk bb nb last) tLg)::(dkH d++[]))
  (Is (.tuple #[wv (nF (A9 (V b) j) kind).1,.bool (nF (A9 (V b) j) kind).2,.int .i64 0]) ((lg,true,C (lgC d.dk bb nb last) tLg)::(dkH d++[]))):=by
 have hrd:=Ii h hb hj
 refine Ah (n:=52) Tryz.func190 Tryz.ntmps190 rfl (Ay9 rfl)<|Ad<|Aa fun ops=>oA rfl<|oA rfl<|oA rfl<|Ac<|n_K<|Ad<|Aa fun ops=>oM rfl<|oN rfl<|oF rfl ?_
 refine oR (Al rfl mM rfl) ?_
 refine oM rfl<|oM rfl ?_
 refine A6 rfl ((I6 (d:=d) (b:=(b:Nat)) (k:=(j:Nat))).to (by rw [hrd.1,hrd.2]) rfl) sP rfl aQ ?_
 refine oM rfl<|oE rfl rfl<|oE rfl rfl ?_
 refine Aw rfl fun b11=> ?_
 rw [Cs]
 first | refine Af rfl rfl uD (Ct) (Ar) (B2 (by first | exact Ar | exact Azc ..)) ?_ | refine Af rfl rfl uD rfl rfl rfl ?_
 refine oA rfl<|Ac<|n_K<|Ad<|Ad<|Aa fun ops=>oM rfl<|oR (Ae rfl rfl rfl)<|Ac<|n_K ?_
 refine Bi rfl ?_
 refine Ai<|n_K<|Ad<|Aa fun ops=> ?_
 refine oR (Au rfl mM (by first | exact Bg | rfl)) ?_
 refine Bd rfl (La (p:=A9 (V b) j)) sP rfl fun v32 Y32 h32=> ?_
 obtain ⟨s,rfl,rfl,hs,ho⟩:=h32
 refine Ay aQ ?_
 refine oM rfl<|oE rfl rfl<|oE rfl rfl<|oE rfl rfl<|oE rfl rfl<|oA rfl<|oA rfl<|oA rfl<|oA rfl<|Ac<|n_K<|Ad ?_
 refine Bf [(5,42),(10,47)] rfl fun ops y=> ?_
 refine oM rfl ?_
 have hsl:s.list.length≤70000000000000:=(by have:=Qu (A9 (V b) j);rw [hs];omega)
 refine Bd rfl (Fe (s:=s) (T:=tU8) hsl) sP rfl fun v38 Y38 h38=> ?_
 obtain ⟨r,rfl,rfl,hr1,hr2⟩:=h38
 refine Ay aQ ?_
 refine Bd rfl (Ff (r:=r) (n:=8) (by rw [hr1];exact hsl)) sP rfl fun v39 Y39 h39=> ?_
 obtain ⟨x,sl,bad,rfl,rfl,hx,_,_⟩:=h39
 refine Ay aQ ?_
 refine oM rfl<|oR (Ae rfl rfl rfl)<|oM rfl ?_
 refine' Df (j:=5) (k:=3) y rfl rfl rfl rfl rfl rfl rfl (fun hg42=> ?_) ?_
 rotate_left
 ·try (simp at hg42;show _)
  refine o_g y rfl rfl ?_
  refine oM rfl ?_
  refine o_g y rfl rfl ?_
  refine oM rfl ?_
  refine o_g y rfl rfl ?_
  refine oR (Ae rfl rfl rfl) ?_
  exact Ac ⟨rfl,rfl,⟨_,sP⟩⟩
 refine oM rfl ?_
 refine' Df (j:=10) (k:=3) y rfl rfl rfl rfl rfl rfl rfl (fun hg47=> ?_) ?_
 rotate_left
 ·try (simp at hg47;show _)
  refine o_g y rfl rfl ?_
  refine oM rfl ?_
  refine o_g y rfl rfl ?_
  refine oR (A7 rfl) ?_
  refine o_g y rfl rfl ?_
  refine oR (Ae rfl rfl rfl) ?_
  exact Ac ⟨rfl,rfl,⟨_,sP⟩⟩
 refine oA rfl<|oA rfl<|oA rfl<|Ac<|n_K<|An ?_
 refine Aq (Kw Tryz.results190 (Ag rfl) (Ag rfl) (Ag rfl)) ?_ sP
 rw [hr1,hr2,hs,show Bl 8 8=8 from rfl] at hx;rw [hx,hs];rfl
theorem Apt (h:DD d n k V) {b:Nat} {bs:List LB} (hb:b+6<n) (hn:bs.length=nb) (hbn:b<nb):Does Tryz.prog 148 [ptr lg,.int .i64 (b:Nat)] ((lg,true,C (lgC d.dk bb nb last) tLg)::(bb,true,C (lbs bs) tLB)::(dkH d++[]))
  (Is (.int .i64 0) ((lg,true,C (lgC d.dk bb nb last) tLg)::(bb,true,C (lbs (bs.set b (Ce (V b)))) tLB)::(dkH d++[]))):=by
 have hg:bs[b]? =some bs[b]:=Ayw (by omega)
 refine Ah (n:=70) Tryz.func148 Tryz.ntmps148 rfl (Ay9 rfl)<|Ad<|Aa fun ops=>oA rfl<|Ac<|n_K<|Ad<|Aa fun ops=>oR (Bc rfl rfl) ?_
 refine Aw rfl fun b5=> ?_
 refine Af rfl rfl uD rfl rfl rfl ?_
 refine Ac<|n_K<|Ad<|Aa fun ops=>oA rfl<|Ac<|n_K<|Ad<|Aa fun ops=>oA rfl<|Ac<|n_K<|Ad<|Ad ?_
 refine Aa fun ops=>oM rfl<|oM rfl ?_
 refine A6 rfl (Vl (d:=d) (bb:=bb) (nb:=nb) (last:=last) h (b:=b) (j:=0) (kind:=2) hb (by omega)) sP rfl aQ ?_
 refine oM rfl<|oE rfl rfl<|oE rfl rfl<|oE rfl rfl<|oF rfl ?_
 refine Af rfl rfl uD rfl rfl rfl ?_
 refine oF rfl ?_
 refine Af rfl rfl uD rfl rfl rfl ?_
 refine oA rfl<|Ac<|n_K<|Ad<|Aa fun ops=>oM rfl<|oR (Ae rfl rfl rfl)<|Ac<|n_K ?_
 refine Bi rfl ?_
 refine Ai<|n_K<|Ad<|Ad<|Aa fun ops=>oM rfl<|oM rfl ?_
 refine A6 rfl (Vl (d:=d) (bb:=bb) (nb:=nb) (last:=last) h (b:=b) (j:=1) (kind:=3) hb (by omega)) sP rfl aQ ?_
 refine oM rfl<|oE rfl rfl<|oE rfl rfl<|oE rfl rfl<|oF rfl ?_
 refine Af rfl rfl uD rfl rfl rfl ?_
 refine oA rfl<|oA rfl<|Ac<|n_K<|Ad<|Aa fun ops=>oM rfl<|oR (Ae rfl rfl rfl)<|Ac<|n_K ?_
 refine Bi rfl ?_
 refine Ai<|n_K<|Ad<|Ad<|Aa fun ops=>oM rfl<|oR (Bx rfl)<|Ac<|n_K ?_
 refine Aj rfl (fun c36=> ?_) (fun c36=> ?_)
 ·skip
  have hokF:¬ (nF (A9 (V b) 1) 3).2=true:=(by simpa using c36)
  refine Aa fun ops=>oF rfl ?_
  refine Af rfl rfl uD rfl rfl rfl ?_
  refine Ac<|n_K<|Ad<|Ad<|Aa fun ops=>oA rfl<|Ac<|n_K<|Ak ?_
  refine A8 [0,1,5,6] kQ (fun (kk:Nat)=>[(8,.int .i64 (7 - (kk:Int)))]) (fun (kk:Nat)=>(b5,true,C (lbC ⟨(nF (A9 (V b) 0) 2).1,(nF (A9 (V b) 0) 2).2,(if (nF (A9 (V b) 1) 3).2=true then (nF (A9 (V b) 1) 3).1 else 0),false,8 - (kk:Int)⟩) tLB)::(lg,true,C (lgC d.dk bb nb last) tLg)::(bb,true,C (lbs bs) tLB)::(dkH d++[])) (fun (kk:Nat)=>kk≤8∧Fi (V b) kk=8 - kk∧((nF (A9 (V b) 1) 3).2=false→kk=0)) (fun (kk:Nat)=>8 - kk) (0) ⟨A2r _,rfl,fun _=>rfl⟩ kP (by first | (rw [A26 hokF];exact sP) | (rw [A25 hok];exact sP)) ?_
  rintro kk ⟨h0,h1,h2⟩
  refine Ad<|Ad ?_
  refine Bf [(2,40)] rfl fun ops y=> ?_
  refine oM rfl<|oR (Ae rfl rfl rfl)<|oM rfl ?_
  refine' Df (j:=2) (k:=1) y rfl rfl rfl rfl rfl rfl rfl (fun hg40=> ?_) ?_
  rotate_left
  ·try (simp at hg40;show _)
   refine o_g y rfl rfl ?_
   refine oM rfl ?_
   exact Ac ⟨rfl,rfl,⟨_,sP⟩⟩
  refine Ac<|n_K ?_
  refine Aj rfl (fun c42=> ?_) (fun c42=> ?_)
  ·simp only [A0r,Azf,A0d,Ayz] at c42
   have hok:=c42.2
   have hk8:kk<8:=(by omega)
   have e7:(7 - (kk:Int))=((7 - kk:Nat):Int):=(by omega)
   have hrd:=Ii h hb (j:=7 - kk) (by omega)
   refine Ai<|n_K<|Ad<|Ak<|Ad<|Aa fun ops=>oM rfl<|oN rfl<|oF rfl ?_
   refine oR (Al rfl mM rfl) ?_
   refine oM rfl<|oM rfl ?_
   refine A6 rfl ((I6 (d:=d) (b:=(b:Nat)) (k:=7 - (kk:Int))).to (by rw [e7,hrd.1,hrd.2]) rfl) sP rfl aQ ?_
   refine oM rfl<|oE rfl rfl<|oE rfl rfl ?_
   refine Aw rfl fun b9=> ?_
   rw [Cs]
   first | refine Af rfl rfl uD (Ct) (Ar) (B2 (by first | exact Ar | exact Azc ..)) ?_ | refine Af rfl rfl uD rfl rfl rfl ?_
   refine oA rfl<|Ac<|n_K<|Ad<|Ad<|Aa fun ops=>oM rfl<|oR (Ae rfl rfl rfl)<|Ac<|n_K ?_
   refine Bi rfl ?_
   refine Ai<|n_K<|Ad<|Ad<|Aa fun ops=> ?_
   refine oR (Au rfl mM (by first | exact Bg | rfl)) ?_
   refine A6 rfl (L7 (p:=A9 (V b) (7 - kk))) sP rfl aQ ?_
   refine oR (Bx rfl)<|Ac<|n_K ?_
   refine Aj rfl (fun c60=> ?_) (fun c60=> ?_)
   ·skip
    have hbl:Bs (A9 (V b) (7 - kk))=false:=(by simpa using c60)
    have hfin:(⟨(nF (A9 (V b) 0) 2).1,(nF (A9 (V b) 0) 2).2,(if (nF (A9 (V b) 1) 3).2=true then (nF (A9 (V b) 1) 3).1 else 0),false,8 - (kk:Int)⟩:LB)=Ce (V b):=(by unfold Ce;rw [A25 hok,A25 hok,St h1 hbl hk8];congr 1;omega)
    refine Bb<|x_K<|Alu rfl<|x_K<|x_K<|Bj<|n_K<|Ad ?_
    refine s_draw [] [(7,[(0,false),(1,false),(2,false),(3,false),(4,false),(5,false),(6,false)]),(8,[(7,true)])] (by kernel_rfl) rfl fun ops w0 H0 y=> ?_
    refine A4<|xM rfl<|xN rfl<|xF rfl ?_
    refine xR (Al rfl mM rfl) ?_
    refine xM rfl ?_
    refine xR (Au rfl mM (show cut (lbC ⟨(nF (A9 (V b) 0) 2).1,(nF (A9 (V b) 0) 2).2,(if (nF (A9 (V b) 1) 3).2=true then (nF (A9 (V b) 1) 3).1 else 0),false,8 - (kk:Int)⟩) 0 5=some (lbC ⟨(nF (A9 (V b) 0) 2).1,(nF (A9 (V b) 0) 2).2,(if (nF (A9 (V b) 1) 3).2=true then (nF (A9 (V b) 1) 3).1 else 0),false,8 - (kk:Int)⟩) from rfl)) ?_
    refine xR (Cp rfl rfl (by omega)) ?_
    refine Am<|Bh<|Be ?_
    refine Af (cs':=lbs (bs.set b (Ce (V b)))) rfl rfl uD rfl rfl (by simp only [A0c];rw [hfin];exact Ek (o:=0) (vs:=lbC (Ce (V b))) (y:=Ce (V b)) hg rfl) ?_
    refine Ac ⟨rfl,⟨_,sP⟩,?_⟩
    refine Am<|Bm<|n_K<|Ad<|Aa fun ops=>oA rfl<|Ac<|n_K<|An ?_
    refine Aq (At Tryz.results148 (Ag rfl)) ?_ sP
    rfl
   ·skip
    have hbl:Bs (A9 (V b) (7 - kk))=true:=(by simpa using c60)
    refine Ai<|n_K<|Aa fun ops=> ?_
    refine oR (show Rd _ _ _ _ (.int .i64 (8 - ((kk+1:Nat):Int))) from (by rw [show (8 - ((kk+1:Nat):Int))=7 - (kk:Int) by omega];exact R8 rfl)) ?_
    refine oF rfl ?_
    refine Af rfl rfl uD rfl rfl rfl ?_
    refine Ac<|Az<|n_K<|Aa fun ops=>oM rfl ?_
    refine oR (show Rd _ _ _ _ (.int .i64 (7 - ((kk+1:Nat):Int))) from (by rw [show (7 - ((kk+1:Nat):Int))=7 - (kk:Int) - 1 by omega];exact Cy rfl rfl (by omega))) ?_
    refine oA rfl<|Ac<|n_K ?_
    exact ⟨kk+1,⟨by omega,(by rw [Z1 h1 hbl];omega),fun h9=>(by rw [hok] at h9;cases h9)⟩,(by omega),lZ⟩
  ·simp only [A0r,Azf,A0d,Ayz] at c42
   have hfin:(⟨(nF (A9 (V b) 0) 2).1,(nF (A9 (V b) 0) 2).2,(if (nF (A9 (V b) 1) 3).2=true then (nF (A9 (V b) 1) 3).1 else 0),false,8 - (kk:Int)⟩:LB)=Ce (V b):=(by unfold Ce;rcases c42 with h9 | h9;(have h8:kk=8:=by omega);subst h8;(by_cases hok:(nF (A9 (V b) 1) 3).2=true);(rw [A25 hok,A25 hok,show Ku (V b)=0 from h1];rfl);(exact absurd (h2 (by simpa using hok)) (by omega));(rw [h2 h9,A26 (by rw [h9];simp),A26 (by rw [h9];simp)];rfl))
   refine Bb<|x_K<|x_K<|Bj<|n_K<|Ad ?_
   refine s_draw [] [(7,[(0,false),(1,false),(2,false),(3,false),(4,false),(5,false),(6,false)]),(8,[(7,true)])] (by kernel_rfl) rfl fun ops w0 H0 y=> ?_
   refine A4<|xM rfl<|xN rfl<|xF rfl ?_
   refine xR (Al rfl mM rfl) ?_
   refine xM rfl ?_
   refine xR (Au rfl mM (show cut (lbC ⟨(nF (A9 (V b) 0) 2).1,(nF (A9 (V b) 0) 2).2,(if (nF (A9 (V b) 1) 3).2=true then (nF (A9 (V b) 1) 3).1 else 0),false,8 - (kk:Int)⟩) 0 5=some (lbC ⟨(nF (A9 (V b) 0) 2).1,(nF (A9 (V b) 0) 2).2,(if (nF (A9 (V b) 1) 3).2=true then (nF (A9 (V b) 1) 3).1 else 0),false,8 - (kk:Int)⟩) from rfl)) ?_
   refine xR (Cp rfl rfl (by omega)) ?_
   refine Am<|Bh<|Be ?_
   refine Af (cs':=lbs (bs.set b (Ce (V b)))) rfl rfl uD rfl rfl (by simp only [A0c];rw [hfin];exact Ek (o:=0) (vs:=lbC (Ce (V b))) (y:=Ce (V b)) hg rfl) ?_
   refine Ac ⟨rfl,⟨_,sP⟩,?_⟩
   refine Am<|Bm<|n_K<|Ad<|Aa fun ops=>oA rfl<|Ac<|n_K<|An ?_
   refine Aq (At Tryz.results148 (Ag rfl)) ?_ sP
   rfl
 ·skip
  have hok:(nF (A9 (V b) 1) 3).2=true:=(by simpa using c36)
  refine Ai<|n_K<|Ad<|Ad<|Aa fun ops=>oA rfl<|Ac<|n_K<|Ak ?_
  refine A8 [0,1,5,6] kQ (fun (kk:Nat)=>[(8,.int .i64 (7 - (kk:Int)))]) (fun (kk:Nat)=>(b5,true,C (lbC ⟨(nF (A9 (V b) 0) 2).1,(nF (A9 (V b) 0) 2).2,(if (nF (A9 (V b) 1) 3).2=true then (nF (A9 (V b) 1) 3).1 else 0),false,8 - (kk:Int)⟩) tLB)::(lg,true,C (lgC d.dk bb nb last) tLg)::(bb,true,C (lbs bs) tLB)::(dkH d++[])) (fun (kk:Nat)=>kk≤8∧Fi (V b) kk=8 - kk∧((nF (A9 (V b) 1) 3).2=false→kk=0)) (fun (kk:Nat)=>8 - kk) (0) ⟨A2r _,rfl,fun _=>rfl⟩ kP (by first | (rw [A26 hokF];exact sP) | (rw [A25 hok];exact sP)) ?_
  rintro kk ⟨h0,h1,h2⟩
  refine Ad<|Ad ?_
  refine Bf [(2,40)] rfl fun ops y=> ?_
  refine oM rfl<|oR (Ae rfl rfl rfl)<|oM rfl ?_
  refine' Df (j:=2) (k:=1) y rfl rfl rfl rfl rfl rfl rfl (fun hg40=> ?_) ?_
  rotate_left
  ·try (simp at hg40;show _)
   refine o_g y rfl rfl ?_
   refine oM rfl ?_
   exact Ac ⟨rfl,rfl,⟨_,sP⟩⟩
  refine Ac<|n_K ?_
  refine Aj rfl (fun c42=> ?_) (fun c42=> ?_)
  ·simp only [A0r,Azf,A0d,Ayz] at c42
   have hok:=c42.2
   have hk8:kk<8:=(by omega)
   have e7:(7 - (kk:Int))=((7 - kk:Nat):Int):=(by omega)
   have hrd:=Ii h hb (j:=7 - kk) (by omega)
   refine Ai<|n_K<|Ad<|Ak<|Ad<|Aa fun ops=>oM rfl<|oN rfl<|oF rfl ?_
   refine oR (Al rfl mM rfl) ?_
   refine oM rfl<|oM rfl ?_
   refine A6 rfl ((I6 (d:=d) (b:=(b:Nat)) (k:=7 - (kk:Int))).to (by rw [e7,hrd.1,hrd.2]) rfl) sP rfl aQ ?_
   refine oM rfl<|oE rfl rfl<|oE rfl rfl ?_
   refine Aw rfl fun b9=> ?_
   rw [Cs]
   first | refine Af rfl rfl uD (Ct) (Ar) (B2 (by first | exact Ar | exact Azc ..)) ?_ | refine Af rfl rfl uD rfl rfl rfl ?_
   refine oA rfl<|Ac<|n_K<|Ad<|Ad<|Aa fun ops=>oM rfl<|oR (Ae rfl rfl rfl)<|Ac<|n_K ?_
   refine Bi rfl ?_
   refine Ai<|n_K<|Ad<|Ad<|Aa fun ops=> ?_
   refine oR (Au rfl mM (by first | exact Bg | rfl)) ?_
   refine A6 rfl (L7 (p:=A9 (V b) (7 - kk))) sP rfl aQ ?_
   refine oR (Bx rfl)<|Ac<|n_K ?_
   refine Aj rfl (fun c60=> ?_) (fun c60=> ?_)
   ·skip
    have hbl:Bs (A9 (V b) (7 - kk))=false:=(by simpa using c60)
    have hfin:(⟨(nF (A9 (V b) 0) 2).1,(nF (A9 (V b) 0) 2).2,(if (nF (A9 (V b) 1) 3).2=true then (nF (A9 (V b) 1) 3).1 else 0),false,8 - (kk:Int)⟩:LB)=Ce (V b):=(by unfold Ce;rw [A25 hok,A25 hok,St h1 hbl hk8];congr 1;omega)
    refine Bb<|x_K<|Alu rfl<|x_K<|x_K<|Bj<|n_K<|Ad ?_
    refine s_draw [] [(7,[(0,false),(1,false),(2,false),(3,false),(4,false),(5,false),(6,false)]),(8,[(7,true)])] (by kernel_rfl) rfl fun ops w0 H0 y=> ?_
    refine A4<|xM rfl<|xN rfl<|xF rfl ?_
    refine xR (Al rfl mM rfl) ?_
    refine xM rfl ?_
    refine xR (Au rfl mM (show cut (lbC ⟨(nF (A9 (V b) 0) 2).1,(nF (A9 (V b) 0) 2).2,(if (nF (A9 (V b) 1) 3).2=true then (nF (A9 (V b) 1) 3).1 else 0),false,8 - (kk:Int)⟩) 0 5=some (lbC ⟨(nF (A9 (V b) 0) 2).1,(nF (A9 (V b) 0) 2).2,(if (nF (A9 (V b) 1) 3).2=true then (nF (A9 (V b) 1) 3).1 else 0),false,8 - (kk:Int)⟩) from rfl)) ?_
    refine xR (Cp rfl rfl (by omega)) ?_
    refine Am<|Bh<|Be ?_
    refine Af (cs':=lbs (bs.set b (Ce (V b)))) rfl rfl uD rfl rfl (by simp only [A0c];rw [hfin];exact Ek (o:=0) (vs:=lbC (Ce (V b))) (y:=Ce (V b)) hg rfl) ?_
    refine Ac ⟨rfl,⟨_,sP⟩,?_⟩
    refine Am<|Bm<|n_K<|Ad<|Aa fun ops=>oA rfl<|Ac<|n_K<|An ?_
    refine Aq (At Tryz.results148 (Ag rfl)) ?_ sP
    rfl
   ·skip
    have hbl:Bs (A9 (V b) (7 - kk))=true:=(by simpa using c60)
    refine Ai<|n_K<|Aa fun ops=> ?_
    refine oR (show Rd _ _ _ _ (.int .i64 (8 - ((kk+1:Nat):Int))) from (by rw [show (8 - ((kk+1:Nat):Int))=7 - (kk:Int) by omega];exact R8 rfl)) ?_
    refine oF rfl ?_
    refine Af rfl rfl uD rfl rfl rfl ?_
    refine Ac<|Az<|n_K<|Aa fun ops=>oM rfl ?_
    refine oR (show Rd _ _ _ _ (.int .i64 (7 - ((kk+1:Nat):Int))) from (by rw [show (7 - ((kk+1:Nat):Int))=7 - (kk:Int) - 1 by omega];exact Cy rfl rfl (by omega))) ?_
    refine oA rfl<|Ac<|n_K ?_
    exact ⟨kk+1,⟨by omega,(by rw [Z1 h1 hbl];omega),fun h9=>(by rw [hok] at h9;cases h9)⟩,(by omega),lZ⟩
  ·simp only [A0r,Azf,A0d,Ayz] at c42
   have hfin:(⟨(nF (A9 (V b) 0) 2).1,(nF (A9 (V b) 0) 2).2,(if (nF (A9 (V b) 1) 3).2=true then (nF (A9 (V b) 1) 3).1 else 0),false,8 - (kk:Int)⟩:LB)=Ce (V b):=(by unfold Ce;rcases c42 with h9 | h9;(have h8:kk=8:=by omega);subst h8;(by_cases hok:(nF (A9 (V b) 1) 3).2=true);(rw [A25 hok,A25 hok,show Ku (V b)=0 from h1];rfl);(exact absurd (h2 (by simpa using hok)) (by omega));(rw [h2 h9,A26 (by rw [h9];simp),A26 (by rw [h9];simp)];rfl))
   refine Bb<|x_K<|x_K<|Bj<|n_K<|Ad ?_
   refine s_draw [] [(7,[(0,false),(1,false),(2,false),(3,false),(4,false),(5,false),(6,false)]),(8,[(7,true)])] (by kernel_rfl) rfl fun ops w0 H0 y=> ?_
   refine A4<|xM rfl<|xN rfl<|xF rfl ?_
   refine xR (Al rfl mM rfl) ?_
   refine xM rfl ?_
   refine xR (Au rfl mM (show cut (lbC ⟨(nF (A9 (V b) 0) 2).1,(nF (A9 (V b) 0) 2).2,(if (nF (A9 (V b) 1) 3).2=true then (nF (A9 (V b) 1) 3).1 else 0),false,8 - (kk:Int)⟩) 0 5=some (lbC ⟨(nF (A9 (V b) 0) 2).1,(nF (A9 (V b) 0) 2).2,(if (nF (A9 (V b) 1) 3).2=true then (nF (A9 (V b) 1) 3).1 else 0),false,8 - (kk:Int)⟩) from rfl)) ?_
   refine xR (Cp rfl rfl (by omega)) ?_
   refine Am<|Bh<|Be ?_
   refine Af (cs':=lbs (bs.set b (Ce (V b)))) rfl rfl uD rfl rfl (by simp only [A0c];rw [hfin];exact Ek (o:=0) (vs:=lbC (Ce (V b))) (y:=Ce (V b)) hg rfl) ?_
   refine Ac ⟨rfl,⟨_,sP⟩,?_⟩
   refine Am<|Bm<|n_K<|Ad<|Aa fun ops=>oA rfl<|Ac<|n_K<|An ?_
   refine Aq (At Tryz.results148 (Ag rfl)) ?_ sP
   rfl
end
end
section
open Go.K
instance zer71:Zer Tryz.prog 71 ([.pointer none,.slice none 0 0,.int .i64 0]):=⟨by kernel_rfl⟩
instance fld71_2:Fld Tryz.prog 71 2 2:=⟨⟨_,_,0,Tryz.underlying71,rfl,by kernel_rfl,rfl⟩⟩
instance plc71:Plc Tryz.prog 71 [(0,1),(1,1),(2,1)]:=⟨⟨_,Tryz.underlying71,fun _=>by kernel_rfl⟩⟩
instance byt140:Byt Tryz.prog 140 40:=⟨by kernel_rfl⟩
instance ent109:Ent Tryz.prog 109:=⟨fun _ _=>by kernel_rfl⟩
def Xp:LB:=⟨0,false,0,false,0⟩
theorem Apu (n:Nat):Gn n [Value.int .u64 0,.bool false,.int .u64 0,.bool false,.int .i64 0]=lbs (List.replicate n Xp):=by
 induction n with
 | zero=>rfl
 | succ n ih =>
  show [Value.int .u64 0,.bool false,.int .u64 0,.bool false,.int .i64 0]++Gn n [Value.int .u64 0,.bool false,.int .u64 0,.bool false,.int .i64 0]=lbs (Xp::List.replicate n Xp)
  rw [ih]
  rfl
def E7 (V:Nat→Blk) (nb:Nat):List LB:=(List.range nb).map fun b=>Ce (V b)
theorem Ij {V:Nat→Blk} {nb j:Nat} (h:j<nb):bAt (E7 V nb) j=Ce (V j):=by
 simp [bAt,E7,Ayg,h]
theorem Pw (V:Nat→Blk) (nb:Nat):(E7 V nb).length=nb:=by simp [E7]
theorem Dq {bs:List LB} {i j:Nat} {x:LB} (h:i<bs.length):bAt (bs.set i x) j=if j=i then x else bAt bs j:=by
 unfold bAt
 rw [Ayg,Ayg,A0l]
 by_cases e:j=i
 ·subst e;simp [h]
 ·rw [A26 (fun h=>e h.symm),A26 e]
theorem Akh {bs cs:List LB} (hl:bs.length=cs.length) (h:∀ j<bs.length,bAt bs j=bAt cs j):bs=cs:=by
 apply A0y hl
 intro j h1 h2
 have:=h j h1
 rwa [Ry (Ayw h1),Ry (Ayw h2)] at this
theorem Px (bs:List LB) (k:Nat): -1≤Dw bs k∧Dw bs k<k:=by
 rcases Ka bs k with ⟨h,_⟩ | ⟨l,h,h2,_⟩ <;> omega
theorem Ny {P:Program} {E:Env} {H:Hp} {x y:Operand} {ts:Array TypeId} {a b:Wd} (hx:ev E x=some (wv a)) (hy:ev E y=some (wv b)):Rd P E H (.call ⟨.builtin .max,#[x,y],ts⟩) (wv (if a.toNat<b.toNat then b else a)):=by
 have h:=Ln (P:=P) (H:=H) (ts:=ts) hx hy
 have e:(Value.int .u64 (max (a.toNat:Int) (b.toNat:Int)))=wv (if a.toNat<b.toNat then b else a):=by
  unfold wv
  congr 1
  split <;> omega
 rw [← e]
 exact h
section
variable {d:Dsk} {n k nb:Nat} {V:Nat→Blk}
theorem Z2 (h:DD d n k V) (hnb:nb+6=n):Does Tryz.prog 109 [ptr d.dk] (dkH d)
  (fun v H=>∃ lg bb,v= .tuple #[ptr lg,.int .i64 0]∧H=(lg,true,C (lgC d.dk bb nb (D2 V nb).2) tLg)::(bb,true,C (lbs (D2 V nb).1) tLB)::(dkH d++[])):=by
 have hul:d.t.u.list.length=nb:=by have:d.t.u.list.length+6=n:=h.di.wf.len;omega
 have hn40:=h.di.wf.n2
 refine Ah (n:=99) Tryz.func109 Tryz.ntmps109 rfl (Ay9 rfl)<|Ad<|Aa fun ops=>oA rfl<|oA rfl<|Ac<|n_K<|Ad<|Aa fun ops=>oM rfl<|oM rfl ?_
 refine A6 rfl ((Aj1 (d:=d)).to (by rw [hul]) rfl) sP rfl aQ ?_
 refine Aly rfl rfl (by omega) rfl fun b13=> ?_
 rw [A0c,Apu]
 refine oR (Bc rfl rfl) ?_
 refine De rfl rfl fun b15=> ?_
 refine oA rfl<|Ac<|n_K<|Ad<|Aa fun ops=>oA rfl<|Ac<|n_K<|Ad<|Ad<|Aa fun ops=>oM rfl<|oN rfl<|oF rfl ?_
 refine oR (Al rfl mM rfl) ?_
 refine oR (A7 rfl)<|oM rfl<|Ac<|n_K<|Ak ?_
 refine A8 [4,20] kQ (fun (st:Nat×List LB×Int×Wd)=>[(21,.int .i64 st.1),(5,wv st.2.2.2)]) (fun (st:Nat×List LB×Int×Wd)=>(b15,true,C (lgC d.dk b13 nb st.2.2.1) tLg)::(b13,true,C (lbs st.2.1) tLB)::(dkH d++[])) (fun (st:Nat×List LB×Int×Wd)=>st.1≤nb∧st.2.1.length=nb∧(∀ j<st.1,bAt st.2.1 j=bAt (E7 V nb) j)∧st.2.2.1=Dw (E7 V nb) st.1∧st.2.2.2=Mn (E7 V nb) st.1) (fun (st:Nat×List LB×Int×Wd)=>nb - st.1) ((0,List.replicate nb Xp,-1,0)) ⟨A2r _,Azc,fun j hj=>(by cases hj),rfl,rfl⟩ kP sP ?_
 rintro ⟨i,bs,last,most⟩ ⟨g0,g1,g2,g3,g4⟩
 simp only at g0 g1 g2 g3 g4
 refine Ad<|Aa fun ops=>oR (Ae rfl rfl rfl)<|Ac<|n_K<|Ad ?_
 refine Aj rfl (fun c22=> ?_) (fun c22=> ?_)
 ·simp only [A0d,Ayz] at c22
  have hi:i<nb:=(by omega)
  have hset:(bs.set i (Ce (V i))).length=nb:=(by rw [A1f];exact g1)
  have hgi:(bs.set i (Ce (V i)))[i]? =some (Ce (V i)):=(by simp [g1,hi])
  have hrg:=Px (E7 V nb) i
  have hb1:∀ j<i+1,bAt (bs.set i (Ce (V i))) j=bAt (E7 V nb) j:=(fun j hj=>by rw [Dq (by omega)];by_cases e:j=i;(subst e;rw [A25 rfl,Ij hi]);(rw [A26 e];exact g2 j (by omega)))
  refine Ai<|n_K<|Ad<|Ak<|Ad<|Aa fun ops=>oM rfl<|oA rfl<|Ac<|n_K<|Ad<|Ad<|Aa fun ops=>oM rfl ?_
  refine oM rfl ?_
  refine A6 rfl (Apt (d:=d) (bb:=b13) (nb:=nb) (last:=last) h (b:=i) (bs:=bs) (by omega) g1 hi) sP rfl aQ ?_
  refine oA rfl<|Ac<|n_K<|Ad<|Aa fun ops=>oM rfl<|oR (Ae rfl rfl rfl)<|Ac<|n_K ?_
  refine Bi rfl ?_
  refine Ai<|n_K<|Ad<|Aa fun ops=>oM rfl<|oN rfl<|oF rfl ?_
  refine oR (Al rfl mM rfl) ?_
  refine oM rfl ?_
  refine oR (Cp rfl rfl (by omega)) ?_
  refine oR (Au rfl mM (by simp only [A0c];exact Pv hgi)) ?_
  refine Aw rfl fun b8=> ?_
  refine Af rfl rfl uD rfl rfl rfl ?_
  refine Ac<|n_K<|Ad<|Aa fun ops=>oM rfl<|oF rfl ?_
  refine oR (Al rfl mM rfl) ?_
  refine oR (Ny rfl rfl)<|oA rfl<|Ac<|n_K<|Ad ?_
  refine s_draw [(3,44),(9,50)] [(26,[(0,false),(1,false),(2,false),(3,false),(4,false),(5,false),(6,false),(7,false),(8,false),(9,false),(10,false),(11,false),(12,false),(13,false),(14,false),(15,false),(16,false),(17,false),(18,false),(19,false),(20,false),(21,false),(22,false),(23,false),(24,false),(25,false)])] (by kernel_rfl) rfl fun ops w0 H0 y=> ?_
  refine A4<|xF rfl ?_
  refine xR (Al rfl mM rfl) ?_
  refine xR (Ae rfl rfl rfl)<|xM rfl ?_
  refine' Hx (j:=3) (k:=21) y rfl rfl rfl rfl rfl rfl rfl (fun hg44=> ?_) ?_
  rotate_left
  ·try (simp at hg44;show _)
   refine x_g y rfl rfl ?_
   refine xM rfl ?_
   refine x_g y rfl rfl ?_
   refine xN rfl ?_
   refine x_g y rfl rfl ?_
   refine xF rfl ?_
   refine x_g y rfl rfl ?_
   refine xR (Al rfl mM rfl) ?_
   refine x_g y rfl rfl ?_
   refine xR (Ae rfl rfl rfl) ?_
   refine x_g y rfl rfl ?_
   refine xM rfl ?_
   refine' Qa (j:=9) (k:=14) y rfl rfl rfl rfl rfl rfl rfl (fun hg50=> ?_) ?_
   rotate_left
   ·try (simp at hg50;show _)
    refine x_g y rfl rfl ?_
    refine xF rfl ?_
    refine x_g y rfl rfl ?_
    refine xR (Al rfl mM rfl) ?_
    refine x_g y rfl rfl ?_
    refine xM rfl ?_
    refine x_g y rfl rfl ?_
    refine xN rfl ?_
    refine x_g y rfl rfl ?_
    refine xF rfl ?_
    refine x_g y rfl rfl ?_
    refine xR (Al rfl mM rfl) ?_
    refine x_g y rfl rfl ?_
    refine xM rfl ?_
    refine x_g y rfl rfl ?_
    refine xN rfl ?_
    refine x_g y rfl rfl ?_
    refine xF rfl ?_
    refine x_g y rfl rfl ?_
    refine xR (Al rfl mM rfl) ?_
    refine x_g y rfl rfl ?_
    refine xR (Cp rfl rfl (by omega)) ?_
    refine x_g y rfl rfl ?_
    refine xF rfl ?_
    refine x_g y rfl rfl ?_
    refine xR (show Rd _ _ _ _ (wv (bAt (bs.set i (Ce (V i))) last.toNat).seq) from Al rfl mM (Fn (o:=2) (Ep (by omega)) (by omega) rfl)) ?_
    refine x_g y rfl rfl ?_
    refine xR (Ae rfl rfl rfl) ?_
    exact Am ⟨rfl,⟨_,sP⟩⟩
   exact Am ⟨rfl,⟨_,sP⟩⟩
  refine Am<|Bm<|n_K ?_
  refine Aj rfl (fun c66=> ?_) (fun c66=> ?_)
  ·simp only [A0r,A1b,Azf,Azp,A0d,Ayz] at c66
   have hl:Dw (E7 V nb) (i+1)=i:=(by unfold Dw;rw [← g3,Ij hi];rw [A25];refine ⟨by omega,?_⟩;rcases c66.2 with h9 | h9;exact .inl h9;by_cases h8:last<0;exact .inl h8;rw [hb1 _ (by omega)] at h9;exact .inr (by omega))
   refine Aa fun ops=>oM rfl<|oM rfl<|oN rfl<|oF rfl ?_
   refine Af rfl rfl uD rfl rfl rfl ?_
   refine Ac<|Az<|n_K<|Aa fun ops=> ?_
   refine oR (Ao rfl rfl (by omega)) ?_
   refine oM rfl<|Ac<|n_K ?_
   first | exact ⟨(i+1,bs.set i (Ce (V i)),(i:Int),(if most.toNat<(Ce (V i)).wear.toNat then (Ce (V i)).wear else most)),⟨by simp only;omega,hset,hb1,hl.symm,(by simp only;rw [Mn,Ij hi,← g4])⟩,by simp only;omega,lZ⟩ | exact ⟨(i+1,bs.set i (Ce (V i)),last,(if most.toNat<(Ce (V i)).wear.toNat then (Ce (V i)).wear else most)),⟨by simp only;omega,hset,hb1,hl.symm,(by simp only;rw [Mn,Ij hi,← g4])⟩,by simp only;omega,lZ⟩
  ·simp only [A0r,A1b,Azf,Azp,A0d,Ayz] at c66
   have hl:Dw (E7 V nb) (i+1)=last:=(by unfold Dw;rw [← g3,Ij hi];rw [A26];rintro ⟨h8,h9⟩;rcases c66 with h7 | ⟨h6,h7⟩;omega;rcases h9 with h9 | h9;exact h6 h9;rw [hb1 _ (by omega)] at h7;omega)
   refine Ai<|Az<|n_K<|Aa fun ops=> ?_
   refine oR (Ao rfl rfl (by omega)) ?_
   refine oM rfl<|Ac<|n_K ?_
   first | exact ⟨(i+1,bs.set i (Ce (V i)),(i:Int),(if most.toNat<(Ce (V i)).wear.toNat then (Ce (V i)).wear else most)),⟨by simp only;omega,hset,hb1,hl.symm,(by simp only;rw [Mn,Ij hi,← g4])⟩,by simp only;omega,lZ⟩ | exact ⟨(i+1,bs.set i (Ce (V i)),last,(if most.toNat<(Ce (V i)).wear.toNat then (Ce (V i)).wear else most)),⟨by simp only;omega,hset,hb1,hl.symm,(by simp only;rw [Mn,Ij hi,← g4])⟩,by simp only;omega,lZ⟩
 ·simp only [A0d,Ayz] at c22
  have hi:i=nb:=(by omega)
  subst hi
  refine Bb<|x_K<|x_K<|Bj<|n_K<|Ad<|Ad<|Aa fun ops=>oM rfl<|oN rfl<|oF rfl ?_
  refine oR (Al rfl mM rfl) ?_
  refine oR (A7 rfl)<|oM rfl<|Ac<|n_K<|Ak ?_
  refine A8 [4,5,76] kQ (fun (st:Nat×List LB)=>[(77,.int .i64 st.1)]) (fun (st:Nat×List LB)=>(b15,true,C (lgC d.dk b13 i last) tLg)::(b13,true,C (lbs st.2) tLB)::(dkH d++[])) (fun (st:Nat×List LB)=>st.1≤i∧st.2.length=i∧(∀ j<i,bAt st.2 j=if j<st.1 then Hq most (bAt (E7 V i) j) else bAt (E7 V i) j)) (fun (st:Nat×List LB)=>i - st.1) ((0,bs)) ⟨A2r _,g1,fun j hj=>(by simp only;rw [A26 (by omega)];exact g2 j hj)⟩ kP sP ?_
  rintro ⟨m,cs⟩ ⟨k0,k1,k2⟩
  simp only at k0 k1 k2
  refine Ad<|Aa fun ops=>oR (Ae rfl rfl rfl)<|Ac<|n_K<|Ad ?_
  refine Aj rfl (fun c78=> ?_) (fun c78=> ?_)
  ·simp only [A0d,Ayz] at c78
   have hm:m<i:=(by omega)
   have hgm:cs[m]? =some (bAt cs m):=Ep (by omega)
   have hkm:=k2 m hm
   rw [A26 (Nat.lt_irrefl m)] at hkm
   refine Ai<|n_K<|Ad<|Ak<|Ad<|Aa fun ops=>oM rfl<|oA rfl<|Ac<|n_K<|Ad<|Aa fun ops=>oM rfl<|oN rfl ?_
   refine oF rfl ?_
   refine oR (Al rfl mM rfl) ?_
   refine oM rfl ?_
   refine oR (Cp rfl rfl (by omega)) ?_
   refine oF rfl ?_
   refine oR (Al rfl mM (by simp only [A0c];exact Fn (o:=1) hgm (by omega) rfl)) ?_
   refine oR (Bx rfl)<|Ac<|n_K ?_
   refine Aj rfl (fun c88=> ?_) (fun c88=> ?_)
   ·skip
    have hkn:(bAt cs m).known=false:=(by simpa using c88)
    have hnT:∀ j<i,bAt (cs.set m { bAt cs m with wear:=most }) j=if j<m+1 then Hq most (bAt (E7 V i) j) else bAt (E7 V i) j:=(fun j hj=>by (rw [Dq (by omega)];by_cases e:j=m;(subst e;rw [A25 rfl,A25 (by omega),← hkm];unfold Hq;rw [A26 (by rw [hkn];simp)]);(rw [A26 e,k2 j hj];by_cases e2:j<m;(rw [A25 e2,A25 (by omega)]);(rw [A26 e2,A26 (by omega)]))))
    refine Aa fun ops=>oM rfl<|oN rfl<|oF rfl ?_
    refine oR (Al rfl mM rfl) ?_
    refine oM rfl<|oM rfl ?_
    refine oR (Cp rfl rfl (by omega)) ?_
    refine oF rfl ?_
    refine Af (cs':=lbs (cs.set m { bAt cs m with wear:=most })) rfl rfl uD rfl rfl (by simp only [A0c];exact Ek (o:=0) (vs:=[wv most]) hgm rfl) ?_
    refine Ac<|Az<|n_K<|Aa fun ops=> ?_
    refine oR (Ao rfl rfl (by omega)) ?_
    refine oM rfl<|Ac<|n_K ?_
    first | exact ⟨(m+1,cs.set m { bAt cs m with wear:=most }),⟨by simp only;omega,by simp only [A1f];exact k1,hnT⟩,by simp only;omega,lZ⟩ | exact ⟨(m+1,cs),⟨by simp only;omega,k1,hnF⟩,by simp only;omega,lZ⟩
   ·skip
    have hkn:(bAt cs m).known=true:=(by simpa using c88)
    have hnF:∀ j<i,bAt cs j=if j<m+1 then Hq most (bAt (E7 V i) j) else bAt (E7 V i) j:=(fun j hj=>by (rw [k2 j hj];by_cases e:j=m;(subst e;rw [A26 (Nat.lt_irrefl _),A25 (by omega),← hkm];unfold Hq;rw [A25 hkn]);(by_cases e2:j<m;(rw [A25 e2,A25 (by omega)]);(rw [A26 e2,A26 (by omega)]))))
    refine Ai<|Az<|n_K<|Aa fun ops=> ?_
    refine oR (Ao rfl rfl (by omega)) ?_
    refine oM rfl<|Ac<|n_K ?_
    first | exact ⟨(m+1,cs.set m { bAt cs m with wear:=most }),⟨by simp only;omega,by simp only [A1f];exact k1,hnT⟩,by simp only;omega,lZ⟩ | exact ⟨(m+1,cs),⟨by simp only;omega,k1,hnF⟩,by simp only;omega,lZ⟩
  ·simp only [A0d,Ayz] at c78
   have hm:m=i:=(by omega)
   subst hm
   have hcs:cs=(D2 V m).1:=(by apply Akh;(show cs.length=((E7 V m).map _).length;rw [A1a,Pw,k1]);(intro j hj;rw [k2 j (by omega),A25 (by omega),g4];show _=bAt ((E7 V m).map (Hq (Mn (E7 V m) m))) j;have hj2:j<(E7 V m).length:=(by rw [Pw];omega);rw [Ry (Ayw hj2),Ry (by rw [A0f,Ayw hj2];rfl)]))
   refine Bb<|x_K<|x_K<|Bj<|n_K<|Ad<|Aa fun ops=>oM rfl<|oA rfl<|oA rfl<|Ac<|n_K<|An ?_
   exact Av (Bz Tryz.results109 (Ag rfl) (Ag rfl)) (by exact ⟨b15,b13,rfl,rfl⟩) (by rw [← hcs,show (D2 V m).2=last from g3.symm];exact sP)
end
end
section
open Go.K
instance fld140_3:Fld Tryz.prog 140 3 3:=⟨⟨_,_,0,Tryz.underlying140,rfl,by kernel_rfl,rfl⟩⟩
instance ent132:Ent Tryz.prog 132:=⟨fun _ _=>by kernel_rfl⟩
instance ent154:Ent Tryz.prog 154:=⟨fun _ _=>by kernel_rfl⟩
instance ent194:Ent Tryz.prog 194:=⟨fun _ _=>by kernel_rfl⟩
instance ent222:Ent Tryz.prog 222:=⟨fun _ _=>by kernel_rfl⟩
instance ent223:Ent Tryz.prog 223:=⟨fun _ _=>by kernel_rfl⟩
instance ent239:Ent Tryz.prog 239:=⟨fun _ _=>by kernel_rfl⟩
theorem Fa {v:Blk} {j:Nat} (h:j<8):A9 v j=v.pages[j]:=A22 h
structure Qt where
 n:Nat
 u:List Int
def Acc (q:Qt) (c:Chip) (t:TS):Prop:=t.lost.length+FP c+FW c≤q.n∧(q.n=0→t.uses=q.u)
section
variable {c:Chip} {t:TS} {n k:Nat} {q:Qt} {V:Nat→Blk} {r:Int×TS×Chip}
theorem DV.keepE {b:Nat} (h:DV c t n k V) (hk:k≤700000000000) (hq:FP c+FW c=0) (hb:b+6<n) (hr:Pq n (b:Nat) c t r):r.2.1=t:=by
 have hu:=h.us hb
 obtain ⟨b1,c1,_,_,_,_,_,hc⟩:=Sm (a:=(at0 t.uses (b:Nat)).toNat) h.di (by omega) (by omega) (b:=(b:Nat)) (by omega) (by omega) (h.vw b hb) hr
 rcases hc with ⟨_,_,hc,_⟩ | ⟨_,hc,_⟩ | ⟨_,_,hc⟩
 ·rw [hc]
 ·omega
 ·rw [hc]
theorem DV.keepP {b j:Nat} {p:Pg} (h:DV c t n k V) (hk:k≤700000000000) (hq:FP c+FW c=0) (hb:b+6<n) (hj:j<8) (hn:(V b).next=j) (hr:Qy n (b:Nat) (j:Nat) p c t r):r.2.1=t:=by
 have hu:=h.us hb
 obtain ⟨m,c1,_,_,_,hc⟩:=Ps (a:=(at0 t.uses (b:Nat)).toNat) h.di (by omega) (by omega) (b:=(b:Nat)) (by omega) (by omega) (h.vw b hb) hj hn hr
 rcases hc with ⟨_,_,hc,_⟩ | ⟨_,_,_,hc,_⟩ | ⟨_,_,_,hc⟩
 ·rw [hc]
 ·omega
 ·rw [hc]
theorem Ahf {b:Nat} (h:DV c t n k V) (hk:k≤700000000000) (hq:q.n≤3) (hacc:Acc q c t) (hb:b+6<n) (hr:Pq n (b:Nat) c t r) :
  FrA c r.2.2∧∃ v:Blk,(∀ (j:Nat) (h:j<8),v.pages[j]=A0∨v.pages[j]=(V b).pages[j]) ∧
   ((r.1=0∧DV r.2.2 r.2.1 n (k+20) (upV V b v)∧v.next=0∧Acc q r.2.2 r.2.1)∨(r.1=30∧r.2.2.off=true∧¬ c.after<0∧Later r.2.2 n (k+20) q.n (upV V b v))):=by
 obtain ⟨hac,hau⟩:=hacc
 obtain ⟨f,v,hv,hc⟩:=Acy h hk (by omega) hb hr
 refine ⟨f,v,hv,?_⟩
 rcases hc with ⟨q1,q2,q3,q4⟩ | ⟨q1,_,q3,q4⟩ | ⟨q1,q2,q3,q4⟩
 ·exact .inl ⟨q1,q2,q3,by omega,fun h0=>by rw [h.keepE hk (by omega) hb hr];exact hau h0⟩
 ·omega
 ·refine .inr ⟨q1,q2,q3,fun d a1 a2 a3 a4=> ?_⟩
  obtain ⟨t2,x1,x2,x3⟩:=q4 d a1 a2 a3 a4
  exact ⟨t2,x1,x2,by omega⟩
theorem Z3 {b j:Nat} {p:Pg} (h:DV c t n k V) (hk:k≤700000000000) (hq:q.n≤3) (hacc:Acc q c t) (hb:b+6<n) (hj:j<8) (hn:(V b).next=j) (hr:Qy n (b:Nat) (j:Nat) p c t r) :
  FrA c r.2.2∧∃ v:Blk,v.next=((j+1:Nat):Int)∧Rq v (V b) j ∧
   ((r.1=0∧DV r.2.2 r.2.1 n (k+20) (upV V b v)∧A9 v j=p∧Acc q r.2.2 r.2.1)∨(r.1=30∧r.2.2.off=true∧¬ c.after<0∧(∃ m,A9 v j=Cu m A0 p)∧Later r.2.2 n (k+20) q.n (upV V b v))):=by
 obtain ⟨hac,hau⟩:=hacc
 obtain ⟨f,v,hv1,hv2,hc⟩:=Ag5 h hk (by omega) hb hj hn hr
 refine ⟨f,v,hv1,hv2,?_⟩
 rcases hc with ⟨q1,q2,q3,q4,_⟩ | ⟨q1,_,q3,q4⟩ | ⟨q1,q2,q3,⟨m,q4⟩,q5⟩
 ·exact .inl ⟨q1,q2,by rw [Fa hj];exact q3 hj,by omega,fun h0=>by rw [h.keepP hk (by omega) hb hj hn hr];exact hau h0⟩
 ·omega
 ·refine .inr ⟨q1,q2,q3,⟨m,by rw [Fa hj];exact q4 hj⟩,fun d a1 a2 a3 a4=> ?_⟩
  obtain ⟨t2,x1,x2,x3⟩:=q5 d a1 a2 a3 a4
  exact ⟨t2,x1,x2,by omega⟩
end
def Z4 (c c':Chip):Prop:=c.after<0∨(c.after≠0∧c'.after=w64 (c.after - 1))
theorem Aki {c:Chip} {t:TS} {n k:Nat} {V:Nat→Blk} {r:Int×TS×Chip} {b j:Nat} {p:Pg} (h:DV c t n k V) (hk:k≤700000000000) (hb:b+6<n) (hj:j<8) (hn:(V b).next=j) (hr:Qy n (b:Nat) (j:Nat) p c t r) (h0:FP c+FW c=0) (he:r.1=0):Z4 c r.2.2:=by
 have hu:=h.us hb
 obtain ⟨a,ha⟩:∃ a:Nat,at0 t.uses (b:Nat)=(a:Nat):=⟨(at0 t.uses (b:Nat)).toNat,by omega⟩
 have hva:=h.vw b hb
 have hta:(at0 t.uses (b:Nat)).toNat=a:=by omega
 rw [hta] at hva
 obtain ⟨m,c1,f,hw,hA,hcase⟩:=Ps h.di (by omega) (by omega) (by omega) ha hva hj hn hr
 rcases hcase with ⟨h1,h2,rfl,h3⟩ | ⟨_,_,_,h4,_⟩ | ⟨rfl,hpe,h1,rfl⟩
 ·cases he
 ·omega
 ·by_cases hp:c.after<0
  ·exact .inl hp
  ·refine .inr ?_
   unfold B1 at hpe
   split at hpe
   ·split at hpe
    ·cases hpe
    ·rename_i b0 hb0
     split at hpe
     ·simp only at hpe
      split at hpe
      ·cases hpe
      ·rename_i hE
       split at hpe
       ·cases hpe
       ·have hE2:c.after≠0:=fun h9=>by
         apply hE
         unfold El
         rw [A26 hp,h9]
         rfl
        refine ⟨hE2,?_⟩
        simp only [A13,true_and] at hpe
        have:c1.after=(Fj (Rt (cnt c))).after:=by rw [← hpe];rfl
        rw [this]
        show (if c.after<0 then c.after else w64 (c.after - 1))=_
        rw [A26 hp]
     ·cases hpe
   ·rename_i hm
    simp only [A13] at hpe
    exact absurd hpe.1 hm
theorem Su {kind:By} (h:0<kind.toNat∧kind.toNat<255) (x:Wd):C3 kind (Co 8 x)=(U3 kind x,0):=by
 unfold C3 U3
 rw [A26 (by rw [J9 h];simp)]
def Avo (w v:Blk) (x:Wd):Prop:=(∀ (j:Nat) (h:j<8),v.pages[j]=A0∨v.pages[j]=w.pages[j])∨(v.next=1∧∃ m,A9 v 0=Cu m A0 (I7 x))
def Ik (x:Wd):LB:=⟨x,true,0,true,8⟩
def Akj (n nb k:Nat) (q:Qt) (V:Nat→Blk) (b:Nat) (bs:List LB) (c:Chip) (bs':List LB) (e:Int) (t':TS) (c':Chip):Prop :=
 bs'.length=nb∧FrA c c'∧∃ v:Blk,(e=0∧DV c' t' n k (upV V b v)∧Acc q c' t'∧bs'=bs.set b (Ik ((bAt bs b).wear+1))∧v.next=1∧A9 v 0=I7 ((bAt bs b).wear+1)) ∨
  (e=30∧c'.off=true∧¬ c.after<0∧Later c' n k q.n (upV V b v)∧Avo (V b) v ((bAt bs b).wear+1))
def Xq (n k:Nat) (q:Qt) (V:Nat→Blk) (b j:Nat) (p:Pg) (c:Chip) (t:TS) (e:Int) (t':TS) (c':Chip):Prop :=
 FrA c c'∧((e=32∧(V b).next≠j∧t'=t∧c'=c)∨((V b).next=j∧∃ v:Blk,v.next=((j+1:Nat):Int)∧Rq v (V b) j ∧
  ((e=0∧DV c' t' n k (upV V b v)∧Acc q c' t'∧A9 v j=p∧(q.n=0→Z4 c c'))∨(e=30∧c'.off=true∧¬ c.after<0∧(∃ m,A9 v j=Cu m A0 p)∧Later c' n k q.n (upV V b v)))))
section
variable {d:Dsk} {n k:Nat} {q:Qt} {lg bb nb:Nat} {last:Int} {V:Nat→Blk}
theorem Nz (h:DD d n k V) (hk:k≤600000000000) (hq:q.n≤3) (hacc:Acc q d.c d.t.ts) {b:Nat} {bs:List LB} (hnb:nb+6=n) (hl:bs.length=nb) (hb:b<nb) :
  Does Tryz.prog 132 [ptr lg,.int .i64 (b:Nat)] ((lg,true,C (lgC d.dk bb nb last) tLg)::(bb,true,C (lbs bs) tLB)::(dkH d++[]))
  (fun v H=>∃ (t':Tab) (c':Chip) (bs':List LB) (e:Int),v= .int .i64 e∧H=(lg,true,C (lgC d.dk bb nb last) tLg)::(bb,true,C (lbs bs') tLB)::(dkH ⟨d.dk,t',c'⟩++[])∧Akj n nb (k+40) q V b bs d.c bs' e t'.ts c'):=by
 have hg:bs[b]? =some (bAt bs b):=Ep (by omega)
 refine Ah (n:=56) Tryz.func132 Tryz.ntmps132 rfl (Ay9 rfl)<|Ad<|Aa fun ops=>oA rfl<|Ac<|n_K<|Ad<|Ad<|Aa fun ops=>oM rfl<|oN rfl<|oF rfl ?_
 refine oR (Al rfl mM rfl) ?_
 refine oM rfl ?_
 refine Bd rfl (Aj2 (d:=d) h (b:=(b:Nat))) sP rfl fun v15 Y15 h15=> ?_
 obtain ⟨t1,c1,e1,rfl,rfl,hE⟩:=h15
 obtain ⟨f1,w1,hw1,hc1⟩:=Ahf h (by omega) hq hacc (by omega) hE
 simp only at f1 hc1
 refine Ay aQ ?_
 refine oA rfl<|Ac<|n_K<|Ad<|Aa fun ops=>oM rfl<|oR (Ae rfl rfl rfl)<|Ac<|n_K ?_
 refine Aj rfl (fun c17=> ?_) (fun c17=> ?_)
 ·skip
  have he1:e1≠0:=(by simpa using c17)
  have hc30:=hc1.resolve_left (fun h9=>he1 h9.1)
  refine Ad<|Aa fun ops=>oM rfl<|oA rfl<|Ac<|n_K<|An<|r_K ?_
  exact Av (At Tryz.results132 (Ag rfl)) (by exact ⟨t1,c1,bs,e1,rfl,rfl,hl,f1,w1,.inr ⟨hc30.1,hc30.2.1,hc30.2.2.1,fun d a1 a2 a3 a4=>(by obtain ⟨x0,x1,x2,x3⟩:=hc30.2.2.2 d a1 a2 a3 a4;exact ⟨x0,x1,x2.mono (by omega),x3⟩),.inl hw1⟩⟩) sP
 ·skip
  have he1:e1=0:=(by simpa using c17)
  obtain ⟨_,hD1,hw10,hacc1⟩:=hc1.resolve_right (fun h9=>by rw [he1] at h9;exact absurd h9.1 (by decide))
  have hg1:(bs.set b ⟨(bAt bs b).wear+1,true,0,false,8⟩)[b]? =some ⟨(bAt bs b).wear+1,true,0,false,8⟩:=(by simp [hl,hb])
  refine Ai<|n_K<|Ad<|Aa fun ops=>oM rfl<|oN rfl<|oF rfl ?_
  refine oR (Al rfl mM rfl) ?_
  refine oM rfl ?_
  refine oR (Cp rfl rfl (by omega)) ?_
  refine oA rfl<|Ac<|n_K<|Ad<|Aa fun ops=>oM rfl<|oM rfl<|oN rfl<|oF rfl ?_
  refine oR (Al rfl mM (by simp only [A0c];exact Fn (o:=0) hg (by omega) rfl)) ?_
  refine oR (Pf rfl rfl)<|oR (Bc rfl rfl)<|oN rfl ?_
  refine Af (cs':=lbs (bs.set b ⟨(bAt bs b).wear+1,true,0,false,8⟩)) rfl rfl uD rfl rfl (by simp only [A0c];exact Ek (o:=0) hg rfl) ?_
  refine Ac<|n_K<|Ad<|Aa fun ops=>oM rfl<|oN rfl<|oF rfl ?_
  refine oR (Al rfl mM (by simp only [A0c];exact Fn (o:=0) hg1 (by omega) rfl)) ?_
  refine Bd rfl (Hr) sP rfl fun v38 Y38 h38=> ?_
  obtain ⟨s38,rfl,rfl,hs38,ho38⟩:=h38
  refine Ay aQ ?_
  refine A5 rfl rfl rfl rfl fun b39=> ?_
  refine A6 rfl ((H9 (kind:=2) (s:=s38) (by rw [hs38,Bo];decide)).to (by rw [hs38,show Bl 8 8=8 from rfl,Su (by decide)]) rfl) sP rfl aQ ?_
  refine oM rfl<|oE rfl rfl<|oE rfl rfl ?_
  refine Aw rfl fun b7=> ?_
  rw [Cs]
  first | refine Af rfl rfl uD (Ct) (Ar) (B2 (by first | exact Ar | exact Azc ..)) ?_ | refine Af rfl rfl uD rfl rfl rfl ?_
  refine oA rfl<|Ac<|n_K<|Ad ?_
  refine s_draw [] [(6,[(0,false),(1,false),(2,false),(3,false),(4,false),(5,false)]),(7,[(6,true)]),(8,[(7,false)])] (by kernel_rfl) rfl fun ops w0 H0 y=> ?_
  refine A4<|xM rfl<|xN rfl<|xF rfl ?_
  refine xR (Al rfl mM rfl) ?_
  refine xM rfl ?_
  refine xR (Au rfl mM (by first | exact Bg | rfl)) ?_
  refine Am<|Bh<|Be ?_
  refine Bd rfl (Sn (d:=⟨d.dk,t1,c1⟩) hD1 (b:=(b:Nat)) (j:=(0:Nat)) (p:=I7 ((bAt bs b).wear+1))) sP rfl fun v49 Y49 h49=> ?_
  obtain ⟨t2,c2,e2,rfl,rfl,hP⟩:=h49
  obtain ⟨f2,w2,hw2,_,hc2⟩:=Z3 hD1 (by omega) hq hacc1 (b:=b) (j:=0) (by omega) (by omega) (by rw [E5];exact hw10) hP
  simp only at f2 hc2
  rw [Pu] at hc2
  refine Ay aQ ?_
  refine Ac ⟨rfl,⟨_,sP⟩,?_⟩
  refine Am<|A4<|xA rfl<|Am<|Bm<|n_K<|Ad<|Aa fun ops=>oM rfl<|oM rfl<|oR (Ae rfl rfl rfl)<|oN rfl<|oF rfl ?_
  refine Af (cs':=lbs ((bs.set b ⟨(bAt bs b).wear+1,true,0,false,8⟩).set b ⟨(bAt bs b).wear+1,true,0,decide (e2=0),8⟩)) rfl rfl uD rfl rfl (by simp only [A0c];exact Ek (o:=3) hg1 rfl) ?_
  refine Ac<|n_K<|Ad<|Aa fun ops=>oM rfl<|oA rfl<|Ac<|n_K<|An ?_
  exact Av (At Tryz.results132 (Ag rfl)) (by exact ⟨t2,c2,bs.set b ⟨(bAt bs b).wear+1,true,0,decide (e2=0),8⟩,e2,rfl,rfl,by rw [A1f];exact hl,f1.trans f2,w2,by rcases hc2 with ⟨q1,q2,q3,q4⟩ | ⟨q1,q2,q3,q4,q5⟩;exact .inl ⟨q1,q2,q4,by rw [q1];rfl,hw2,q3⟩;exact .inr ⟨q1,q2,fun hp=>q3 (by rw [(f1.pos hp).1];exact hp),q5,.inr ⟨hw2,q4⟩⟩⟩) (by rw [A2m];exact sP)
theorem Vm (h:DD d n k V) (hk:k≤600000000000) (hq:q.n≤3) (hacc:Acc q d.c d.t.ts) {b j:Nat} {p:Pg} (hb:b+6<n) (hj:j<8) :
  Does Tryz.prog 154 [ptr lg,.int .i64 (b:Nat),.int .i64 (j:Nat),.agg (vbc p).toArray] ((lg,true,C (lgC d.dk bb nb last) tLg)::(dkH d++[]))
  (fun v H=>∃ (t':Tab) (c':Chip) (e:Int),v= .int .i64 e∧H=(lg,true,C (lgC d.dk bb nb last) tLg)::(dkH ⟨d.dk,t',c'⟩++[])∧Xq n (k+20) q V b j p d.c d.t.ts e t'.ts c'):=by
 refine Ah (n:=41) Tryz.func154 Tryz.ntmps154 rfl (Ay9 rfl)<|Ad<|Aa fun ops=> ?_
 refine Ec rfl rfl fun b7=> ?_
 refine oA rfl<|Ac<|n_K<|Ad<|Ad ?_
 refine s_draw [] [(7,[(0,false),(1,false),(2,false),(3,false),(4,false),(5,false),(6,false)]),(8,[(7,true)]),(9,[(8,false)])] (by kernel_rfl) rfl fun ops w0 H0 y=> ?_
 refine A4<|xM rfl<|xN rfl<|xF rfl ?_
 refine xR (Al rfl mM rfl) ?_
 refine xM rfl<|xM rfl ?_
 refine xR (Au rfl mM (by first | exact Bg | rfl)) ?_
 refine Am<|Bh<|Be ?_
 refine Bd rfl (Sn (d:=d) h (b:=(b:Nat)) (j:=(j:Nat)) (p:=p)) sP rfl fun v19 Y19 h19=> ?_
 obtain ⟨t1,c1,e1,rfl,rfl,hP⟩:=h19
 have hAf:(V b).next=j→e1=0→q.n=0→Z4 d.c c1:=(fun h7 h8 h9=>Aki h (by omega) hb hj h7 hP (by have:=hacc.1;omega) h8)
 have hW:(e1=32∧(V b).next≠j∧t1.ts=d.t.ts∧c1=d.c)∨((V b).next=j∧FrA d.c c1∧∃ v:Blk,v.next=((j+1:Nat):Int)∧Rq v (V b) j∧((e1=0∧DV c1 t1.ts n (k+20) (upV V b v)∧A9 v j=p∧Acc q c1 t1.ts)∨(e1=30∧c1.off=true∧¬ d.c.after<0∧(∃ m,A9 v j=Cu m A0 p)∧Later c1 n (k+20) q.n (upV V b v)))):=(by by_cases hn:(V b).next=j;(obtain ⟨f1,w1,h1,h2,h3⟩:=Z3 h (by omega) hq hacc hb hj hn hP;exact .inr ⟨hn,f1,w1,h1,h2,h3⟩);(have h9:=Ajz h hb hj hn hP;simp only [A13] at h9;exact .inl ⟨h9.1,hn,h9.2.1,h9.2.2⟩))
 refine Ay aQ ?_
 refine Ac ⟨rfl,⟨_,sP⟩,?_⟩
 refine Am<|A4<|xA rfl<|Am<|Bm<|n_K<|Ad<|Aa fun ops=>oM rfl<|oR (Ae rfl rfl rfl)<|Ac<|n_K ?_
 refine Aj rfl (fun c21=> ?_) (fun c21=> ?_)
 ·skip
  have he1:e1≠0:=(by simpa using c21)
  refine Ad<|Aa fun ops=>oM rfl<|oA rfl<|Ac<|n_K<|An<|r_K ?_
  exact Av (At Tryz.results154 (Ag rfl)) (by exact ⟨t1,c1,e1,rfl,rfl,by rcases hW with ⟨q1,q2,q3,q4⟩ | ⟨q1,q2,w,q3,q4,q5⟩;(rw [q4];exact .refl _);exact q2,by rcases hW with ⟨q1,q2,q3,q4⟩ | ⟨q1,q2,w,q3,q4,q5⟩;exact .inl ⟨q1,q2,q3,q4⟩;exact .inr ⟨q1,w,q3,q4,by rcases q5 with ⟨r1,r2,r3,r4⟩ | r;exact absurd r1 he1;exact .inr r⟩⟩) sP
 ·skip
  have he1:e1=0:=(by simpa using c21)
  obtain ⟨hn,f1,w1,h1,h2,h3⟩:=hW.resolve_left (fun h9=>by rw [he1] at h9;exact absurd h9.1 (by decide))
  obtain ⟨_,hD1,hp1,hacc1⟩:=h3.resolve_right (fun h9=>by rw [he1] at h9;exact absurd h9.1 (by decide))
  have hrd:=Ii (d:=⟨d.dk,t1,c1⟩) hD1 hb hj
  rw [E5,hp1] at hrd
  refine Ai<|n_K<|Ad<|Aa fun ops=>oM rfl<|oN rfl<|oF rfl ?_
  refine oR (Al rfl mM rfl) ?_
  refine oM rfl<|oM rfl ?_
  refine A6 rfl ((I6 (d:=⟨d.dk,t1,c1⟩) (b:=(b:Nat)) (k:=(j:Nat))).to (by rw [hrd.1,hrd.2]) rfl) sP rfl aQ ?_
  refine oM rfl<|oE rfl rfl<|oE rfl rfl ?_
  refine Aw rfl fun b10=> ?_
  rw [Cs]
  first | refine Af rfl rfl uD (Ct) (Ar) (B2 (by first | exact Ar | exact Azc ..)) ?_ | refine Af rfl rfl uD rfl rfl rfl ?_
  refine oA rfl<|Ac<|n_K<|Ad<|Ad ?_
  refine Bf [(2,35)] rfl fun ops y=> ?_
  refine oM rfl<|oR (Ae rfl rfl rfl)<|oM rfl ?_
  refine' Df (j:=2) (k:=3) y rfl rfl rfl rfl rfl rfl rfl (fun hg35=> ?_) ?_
  rotate_left
  ·try (simp at hg35;show _)
   refine o_g y rfl rfl ?_
   refine oR (Au rfl mM (by first | exact Bg | rfl)) ?_
   refine o_g y rfl rfl ?_
   refine oR (Au rfl mM (by first | exact Bg | rfl)) ?_
   refine o_g y rfl rfl ?_
   refine oR (Alw rfl rfl (pg_eq _ _)) ?_
   exact Ac ⟨rfl,rfl,⟨_,sP⟩⟩
  refine Ac<|n_K ?_
  refine Aj rfl (fun c39=> ?_) (fun c39=> ?_)
  ·skip
   try (exfalso;(simp at c39);done)
   all_goals
    refine Aa fun ops=>oA rfl<|Ac<|n_K<|Ad<|Aa fun ops=>oM rfl<|oA rfl<|Ac<|n_K<|An ?_
    exact Av (At Tryz.results154 (Ag rfl)) (by exact ⟨t1,c1,0,rfl,rfl,f1,.inr ⟨hn,w1,h1,h2,.inl ⟨rfl,hD1,hacc1,hp1,hAf hn he1⟩⟩⟩) sP
  ·skip
   refine Ai<|n_K<|Ad<|Aa fun ops=>oM rfl<|oA rfl<|Ac<|n_K<|An ?_
   exact Av (At Tryz.results154 (Ag rfl)) (by exact ⟨t1,c1,0,rfl,rfl,f1,.inr ⟨hn,w1,h1,h2,.inl ⟨rfl,hD1,hacc1,hp1,hAf hn he1⟩⟩⟩) sP
def Sv (v:Blk):Bool:=(List.range 7).all fun i=>decide (A9 v (i+1)=A0)
theorem Ahg {x:By}:Does Tryz.prog 223 [bv x] [] (Is (.bool (!decide ((x.toNat:Int)=255))) []):=by
 refine Ah (n:=5) Tryz.func223 Tryz.ntmps223 rfl (Ay9 rfl)<|Ad<|Aa fun ops=>oA rfl<|Ac<|n_K<|Ad<|Aa fun ops=>oM rfl<|oR (Ae rfl rfl rfl)<|oA rfl<|Ac<|n_K<|An ?_
 refine Aq (At Tryz.results223 (Ag rfl)) ?_ sP
 rfl
theorem Apv {p:Pg} {m:Nat}:Does Tryz.prog 239 [.slice (some ⟨m,0,none⟩) 258 258,.func (.func 223) #[] #[]] [(m,true,C (vbc p) tPg)]
  (fun v H=>H=[(m,true,C (vbc p) tPg)]∧((p≠A0∧∃ i:Nat,v= .int .i64 (i:Nat))∨(p=A0∧v= .int .i64 (-1)))):=by
 refine Ah (n:=19) Tryz.func239 Tryz.ntmps239 rfl (Ay9 rfl)<|Ad<|Aa fun ops=>oA rfl<|Ac<|n_K<|Ad<|Ad<|Aa fun ops=>oM rfl<|oR (A7 rfl)<|oM rfl<|Ac<|n_K ?_
 refine Ak ?_
 refine A8 [0,1,7] kQ (fun (i:Nat)=>[(8,.int .i64 i)]) (fun (i:Nat)=>[(m,true,C (vbc p) tPg)]) (fun (i:Nat)=>i≤258∧∀ (j:Nat) (h:j<258),j<i→p[j]=255#8) (fun (i:Nat)=>258 - i) (0) ⟨A2r _,fun j _ h=>(by cases h)⟩ kP sP ?_
 rintro i ⟨h0,h1⟩
 refine Ad<|Aa fun ops=>oR (Ae rfl rfl rfl)<|Ac<|n_K<|Ad ?_
 refine Aj rfl (fun c9=> ?_) (fun c9=> ?_)
 ·simp only [A0d,Ayz] at c9
  have hi:i<258:=(by omega)
  refine Ai<|n_K<|Ad<|Ak<|Ad<|Aa fun ops=>oM rfl<|oA rfl<|Ac<|n_K<|Ad<|Aa fun ops=>oM rfl<|oM rfl ?_
  refine oM rfl ?_
  refine oR (Cp rfl rfl (by omega)) ?_
  refine oR (Al rfl mM (by simp only [A0c,A2s];exact Gt hi)) ?_
  refine S8 (fi:=[]) (ca:=[]) rfl rfl (Ahg (x:=p[i])) sP rfl aQ ?_
  refine Ac<|n_K ?_
  refine Aj rfl (fun c16=> ?_) (fun c16=> ?_)
  ·skip
   have hne:p≠A0:=(fun e=>by rw [e,J0 hi] at c16;exact absurd c16 (by decide))
   refine Ad<|Aa fun ops=>oM rfl<|oA rfl<|Ac<|n_K<|An<|Bn<|r_K<|r_K<|Bn<|r_K ?_
   exact Av (At Tryz.results239 (Ag rfl)) (by exact ⟨rfl,.inl ⟨hne,i,rfl⟩⟩) sP
  ·skip
   have hb:p[i]=255#8:=(by have h9:(p[i].toNat:Int)=255:=(by simpa using c16);exact Azg (by show _=255;omega))
   refine Ai<|Az<|n_K<|Aa fun ops=> ?_
   refine oR (Ao rfl rfl (by omega)) ?_
   refine oM rfl<|Ac<|n_K ?_
   exact ⟨i+1,⟨by omega,fun j hj hlt=>by by_cases e:j=i;(subst e;exact hb);exact h1 j hj (by omega)⟩,(by omega),lZ⟩
 ·simp only [A0d,Ayz] at c9
  refine Bb<|x_K<|x_K<|Bj<|n_K<|Ad<|Aa fun ops=>oA rfl<|Ac<|n_K<|An ?_
  exact Av (At Tryz.results239 (Ag rfl)) (by exact ⟨rfl,.inr ⟨by apply A2u;intro j hj;rw [h1 j hj (by omega),J0 hj],rfl⟩⟩) sP
theorem Atq {p:Pg} {m:Nat}:Does Tryz.prog 222 [.slice (some ⟨m,0,none⟩) 258 258,.func (.func 223) #[] #[]] [(m,true,C (vbc p) tPg)]
  (Is (.bool (decide (p≠A0))) [(m,true,C (vbc p) tPg)]):=by
 refine Ah (n:=9) Tryz.func222 Tryz.ntmps222 rfl (Ay9 rfl)<|Ad<|Aa fun ops=>oA rfl<|Ac<|n_K<|Ad<|Aa fun ops=>oM rfl<|oM rfl ?_
 refine Bd rfl (Apv (p:=p) (m:=m)) sP rfl fun v7 Y7 h7=> ?_
 rcases h7 with ⟨rfl,⟨hne,i,rfl⟩ | ⟨hne,rfl⟩⟩
 all_goals
  refine Ay aQ ?_
  refine oR (Ae rfl rfl rfl)<|oA rfl<|Ac<|n_K<|An ?_
  refine Aq (At Tryz.results222 (Ag rfl)) ?_ sP
  first | (rw [decide_eq_true hne];simp;done) | (simp [hne];done)
theorem Akk (h:DD d n k V) {b:Nat} (hb:b+6<n):Does Tryz.prog 194 [ptr lg,.int .i64 (b:Nat)] ((lg,true,C (lgC d.dk bb nb last) tLg)::(dkH d++[]))
  (Is (.tuple #[.bool (Sv (V b)),.int .i64 0]) ((lg,true,C (lgC d.dk bb nb last) tLg)::(dkH d++[]))):=by
 refine Ah (n:=28) Tryz.func194 Tryz.ntmps194 rfl (Ay9 rfl)<|Ad<|Aa fun ops=>oA rfl<|oA rfl<|Ac<|n_K<|Ad<|Ad<|Aa fun ops=>oA rfl<|Ac<|n_K<|Ak ?_
 refine A8 [0,1] kQ (fun (i:Nat)=>[(6,.int .i64 ((i:Int)+1))]) (fun (i:Nat)=>(lg,true,C (lgC d.dk bb nb last) tLg)::(dkH d++[])) (fun (i:Nat)=>i≤7∧∀ j<i,A9 (V b) (j+1)=A0) (fun (i:Nat)=>7 - i) (0) ⟨A2r _,fun j h=>(by cases h)⟩ kP sP ?_
 rintro i ⟨h0,h1⟩
 refine Ad<|Ad<|Aa fun ops=>oM rfl<|oR (Ae rfl rfl rfl)<|Ac<|n_K ?_
 refine Aj rfl (fun c10=> ?_) (fun c10=> ?_)
 ·simp only [A0d,Ayz] at c10
  have hi:i<7:=(by omega)
  have hrd:=Ii h hb (j:=i+1) (by omega)
  have ei:(((i+1:Nat):Int))=(i:Int)+1:=(by omega)
  rw [ei] at hrd
  refine Ai<|n_K<|Ad<|Ak<|Ad<|Aa fun ops=>oM rfl<|oN rfl<|oF rfl ?_
  refine oR (Al rfl mM rfl) ?_
  refine oM rfl<|oM rfl ?_
  refine A6 rfl ((I6 (d:=d) (b:=(b:Nat)) (k:=(i:Int)+1)).to (by rw [hrd.1,hrd.2]) rfl) sP rfl aQ ?_
  refine oM rfl<|oE rfl rfl<|oE rfl rfl ?_
  refine Aw rfl fun b7=> ?_
  rw [Cs]
  first | refine Af rfl rfl uD (Ct) (Ar) (B2 (by first | exact Ar | exact Azc ..)) ?_ | refine Af rfl rfl uD rfl rfl rfl ?_
  refine oA rfl<|Ac<|n_K<|Ad<|Ad<|Aa fun ops=>oM rfl<|oR (Ae rfl rfl rfl)<|Ac<|n_K ?_
  refine Bi rfl ?_
  refine Ai<|n_K<|Ad<|Aa fun ops=> ?_
  refine oR (show Rd _ _ _ _ (.slice (some ⟨b7,0,none⟩) 258 258) from C5 (b:=b7) (o:=0) (sz:=1) (i:=0) (j:=258) (l:=258) rfl rfl rfl (by omega)) ?_
  refine A6 rfl (Atq (p:=A9 (V b) (i+1)) (m:=b7)) sP rfl aQ ?_
  refine Ac<|n_K ?_
  refine Aj rfl (fun c27=> ?_) (fun c27=> ?_)
  ·skip
   have hne:A9 (V b) (i+1)≠A0:=(by simpa using c27)
   have hcl:Sv (V b)=false:=(by unfold Sv;rw [List.all_eq_false];exact ⟨i,A1w.2 hi,by simpa using hne⟩)
   refine Ad<|Aa fun ops=>oA rfl<|oA rfl<|Ac<|n_K<|An<|Bn<|r_K<|r_K<|Bn<|r_K ?_
   refine Aq (Bz Tryz.results194 (Ag rfl) (Ag rfl)) ?_ sP
   rw [hcl]
  ·skip
   have he:A9 (V b) (i+1)=A0:=(by simpa using c27)
   refine Ai<|Az<|n_K<|Aa fun ops=>oM rfl ?_
   refine oR (Ao rfl rfl (by omega)) ?_
   refine oA rfl<|Ac<|n_K ?_
   exact ⟨i+1,⟨by omega,fun j hj=>by by_cases e:j=i;(subst e;exact he);exact h1 j (by omega)⟩,(by omega),lZ⟩
 ·simp only [A0d,Ayz] at c10
  have hcl:Sv (V b)=true:=(by unfold Sv;rw [A00];intro j hj;have:=A1w.1 hj;simpa using h1 j (by omega))
  refine Bb<|x_K<|x_K<|Bj<|n_K<|Ad<|Aa fun ops=>oA rfl<|oA rfl<|Ac<|n_K<|An ?_
  refine Aq (Bz Tryz.results194 (Ag rfl) (Ag rfl)) ?_ sP
  rw [hcl]
end
end
section
open Go.K
instance ent153:Ent Tryz.prog 153:=⟨fun _ _=>by kernel_rfl⟩
def toU (bs:List LB):Nat→Int
  | 0=> -1
  | k+1=>if (bAt bs k).seq.toNat=0∧(toU bs k<0∨(bAt bs k).wear.toNat<(bAt bs (toU bs k).toNat).wear.toNat) then k else toU bs k
theorem Lb (bs:List LB):∀ k,(toU bs k= -1∧∀ j<k,(bAt bs j).seq.toNat≠0)∨(∃ l:Nat,toU bs k=l∧l<k∧(bAt bs l).seq.toNat=0∧∀ j<k,(bAt bs j).seq.toNat=0→(bAt bs l).wear.toNat≤(bAt bs j).wear.toNat)
  | 0=> .inl ⟨rfl,fun j hj=>by omega⟩
  | k+1=>by
    rcases Lb bs k with ⟨h1,h2⟩ | ⟨l,h1,h2,h3,h4⟩
    · unfold toU
      rw [h1]
      by_cases h:(bAt bs k).seq.toNat=0
      · rw [A25 ⟨h,.inl (by omega)⟩]
        refine .inr ⟨k,rfl,by omega,h,fun j hj h0=> ?_⟩
        by_cases e:j=k
        · subst e;exact A2q _
        · exact absurd h0 (h2 j (by omega))
      · rw [A26 (fun h5=>h h5.1)]
        refine .inl ⟨rfl,fun j hj=> ?_⟩
        by_cases e:j=k
        · subst e;exact h
        · exact h2 j (by omega)
    · unfold toU
      rw [h1,A0c]
      by_cases h:(bAt bs k).seq.toNat=0∧(bAt bs k).wear.toNat<(bAt bs l).wear.toNat
      · rw [A25 ⟨h.1,.inr h.2⟩]
        refine .inr ⟨k,rfl,by omega,h.1,fun j hj h0=> ?_⟩
        by_cases e:j=k
        · subst e;exact A2q _
        · have:=h4 j (by omega) h0;omega
      · rw [A26 (fun h5=>by rcases h5.2 with h6 | h6;omega;exact h ⟨h5.1,h6⟩)]
        refine .inr ⟨l,rfl,by omega,h3,fun j hj h0=> ?_⟩
        by_cases e:j=k
        · subst e;omega
        · exact h4 j (by omega) h0
theorem Xr (bs:List LB) (k:Nat): -1≤toU bs k∧toU bs k<k:=by
  rcases Lb bs k with ⟨h,_⟩ | ⟨l,h,h2,_⟩ <;> omega
def seqN (bs:List LB) (last:Int):Wd:=if last<0 then 1 else (bAt bs last.toNat).seq+1
theorem Apw {P:Program} {E:Env} {H:Hp} {t u:TypeId} {x y:Operand} {v:Wd} (hx:ev E x=some (wv v)) (hy:ev E y=some (.int .u64 1)):Rd P E H (.binOp .sub t x y u) (wv (v - 1)):=by
  have:=Ae (P:=P) (H:=H) (op:= .sub) (t:=t) (u:=u) hx hy rfl
  have e:IntKind.u64.wrap ((v.toNat:Int) - 1)=((v - 1).toNat:Int):=by
    rw [Ex .u64 rfl]
    show ((BitVec.ofInt 64 ((v.toNat:Int) - 1)).toNat:Int)=_
    have h1:=v.isLt
    rw [Az9,BitVec.toNat_sub]
    show (((v.toNat:Int) - 1) % (18446744073709551616:Nat)).toNat=(((18446744073709551616 - 1+v.toNat) % 18446744073709551616:Nat):Int)
    omega
  unfold wv
  rw [← e]
  exact this
def Atr (w v:Blk) (x:LB) (sq:Wd):Prop :=
  Avo w v x.wear∨(v.next=2∧(A9 v 0=I7 x.wear∨(x.ready=true∧(A9 v 0=A9 w 0∨A9 v 0=Dv (A9 w 0))))∧∃ m,A9 v 1=Cu m A0 (Nx sq))
def As2 (w v:Blk) (x:LB) (kn:Bool) (sq:Wd):Prop :=
  v.next=2∧A9 v 1=Nx sq∧((kn=true∧A9 v 0=I7 x.wear)∨(x.ready=true∧kn=x.known∧(A9 v 0=A9 w 0∨A9 v 0=Dv (A9 w 0))))
def Akl (n nb k:Nat) (q:Qt) (V:Nat→Blk) (bs:List LB) (last:Int) (c:Chip) (t:TS) (bs':List LB) (last' e:Int) (t':TS) (c':Chip):Prop :=
  (e=40∧toU bs nb<0∧bs'=bs∧last'=last∧t'=t∧c'=c) ∨
  (bs'.length=nb∧FrA c c'∧∃ (to:Nat) (v:Blk),toU bs nb=to ∧
    ((e=0∧DV c' t' n k (upV V to v)∧Acc q c' t'∧last'=to∧(∀ j<nb,j≠to→bAt bs' j=bAt bs j)∧∃ kn,bAt bs' to=⟨(bAt bs to).wear,kn,seqN bs last,false,2⟩∧As2 (V to) v (bAt bs to) kn (seqN bs last)) ∨
     (e=30∧c'.off=true∧¬ c.after<0∧Later c' n k q.n (upV V to v)∧Atr (V to) v (bAt bs to) (seqN bs last))))
def Ats (n nb k:Nat) (q:Qt) (to:Nat) (V:Nat→Blk) (bs:List LB) (c:Chip) (t1:TS) (c1:Chip) (bs1:List LB) (w:Blk):Prop :=
  bs1.length=nb∧FrA c c1∧DV c1 t1 n k (upV V to w)∧Acc q c1 t1∧w.next=1∧(bAt bs1 to).wear=(bAt bs to).wear∧(∀ j<nb,j≠to→bAt bs1 j=bAt bs j) ∧
    (((bAt bs1 to).known=true∧A9 w 0=I7 (bAt bs to).wear)∨((bAt bs to).ready=true∧(bAt bs1 to).known=(bAt bs to).known∧A9 w 0=A9 (V to) 0))
theorem Avp {v w:Blk} {j:Nat} (h:Rq v w j) (hj:0<j):A9 v 0=A9 w 0∨A9 v 0=Dv (A9 w 0):=by
  have:=h 0 (by omega) hj
  rwa [← Fa (v:=v) (by omega),← Fa (v:=w) (by omega)] at this
theorem Akm (V:Nat→Blk) (b:Nat):upV V b (V b)=V:=by
  funext l
  unfold upV
  split
  · rename_i h;rw [h]
  · rfl
section
variable {d:Dsk} {n k:Nat} {q:Qt} {lg bb nb:Nat} {last:Int} {V:Nat→Blk} {bs:List LB}
theorem Akn (h:DD d n k V) (hk:k≤500000000000) (hq:q.n≤3) (hacc:Acc q d.c d.t.ts) (hnb:nb+6=n) (hl:bs.length=nb) (hlr: -1≤last∧last<nb) (hls:0≤last→(bAt bs last.toNat).seq.toNat≠0)
    (hrdy:∀ b<nb,(bAt bs b).ready=true→(V b).next=1) :
    Does Tryz.prog 153 [ptr lg] ((lg,true,C (lgC d.dk bb nb last) tLg)::(bb,true,C (lbs bs) tLB)::(dkH d++[]))
    (fun v H=>∃ (t':Tab) (c':Chip) (bs':List LB) (last' e:Int),v= .int .i64 e∧H=(lg,true,C (lgC d.dk bb nb last') tLg)::(bb,true,C (lbs bs') tLB)::(dkH ⟨d.dk,t',c'⟩++[])∧Akl n nb (k+60) q V bs last d.c d.t.ts bs' last' e t'.ts c'):=by
  refine Ah (n:=147) Tryz.func153 Tryz.ntmps153 rfl (Ay9 rfl)<|Ad<|Aa fun ops=>oA rfl<|Ac<|n_K<|Ad<|Aa fun ops=>oA rfl<|Ac<|n_K<|Ad<|Ad<|Aa fun ops=> ?_
  refine oM rfl<|oN rfl<|oF rfl ?_
  refine oR (Al rfl mM rfl) ?_
  refine oR (A7 rfl)<|oM rfl<|Ac<|n_K<|Ak ?_
  have hn40:=h.di.wf.n2
  refine A8 [0,17,18] kQ (fun (st:Nat×Int)=>[(19,.int .i64 st.1),(3,.int .i64 st.2)]) (fun (st:Nat×Int)=>(lg,true,C (lgC d.dk bb nb last) tLg)::(bb,true,C (lbs bs) tLB)::(dkH d++[])) (fun (st:Nat×Int)=>st.1≤nb∧st.2=toU bs st.1) (fun (st:Nat×Int)=>nb - st.1) ((0,-1)) ⟨A2r _,rfl⟩ kP sP ?_
  rintro ⟨i,to⟩ ⟨g0,g1⟩
  simp only at g0 g1
  refine Ad<|Aa fun ops=>oR (Ae rfl rfl rfl)<|Ac<|n_K<|Ad ?_
  refine Aj rfl (fun c20=> ?_) (fun c20=> ?_)
  · simp only [A0d,Ayz] at c20
    have hi:i<nb:=(by omega)
    have hgi:bs[i]? =some (bAt bs i):=Ep (by omega)
    have hrg:=Xr bs i
    refine Ai<|n_K<|Ad<|Ak<|Ad<|Aa fun ops=>oM rfl ?_
    refine oR (Cp rfl rfl (by omega)) ?_
    refine oR (Au rfl mM (by simp only [A0c];exact Pv hgi)) ?_
    refine Aw rfl fun b5=> ?_
    refine oA rfl ?_
    refine Af rfl rfl uD rfl rfl rfl ?_
    refine Ac<|n_K<|Ad ?_
    refine s_draw [(3,27),(6,30)] [(20,[(0,false),(1,false),(2,false),(3,false),(4,false),(5,false),(6,false),(7,false),(8,false),(9,false),(10,false),(11,false),(12,false),(13,false),(14,false),(15,false),(16,false),(17,false),(18,false),(19,false)])] (by kernel_rfl) rfl fun ops w0 H0 y=> ?_
    refine A4<|xF rfl ?_
    refine xR (Al rfl mM rfl) ?_
    refine xR (Ae rfl rfl rfl)<|xM rfl ?_
    refine' Hx (j:=3) (k:=15) y rfl rfl rfl rfl rfl rfl rfl (fun hg27=> ?_) ?_
    rotate_left
    · try (simp at hg27;show _)
      refine x_g y rfl rfl ?_
      refine xM rfl ?_
      refine x_g y rfl rfl ?_
      refine xR (Ae rfl rfl rfl) ?_
      refine x_g y rfl rfl ?_
      refine xM rfl ?_
      refine' Qa (j:=6) (k:=11) y rfl rfl rfl rfl rfl rfl rfl (fun hg30=> ?_) ?_
      rotate_left
      · try (simp at hg30;show _)
        refine x_g y rfl rfl ?_
        refine xF rfl ?_
        refine x_g y rfl rfl ?_
        refine xR (Al rfl mM rfl) ?_
        refine x_g y rfl rfl ?_
        refine xM rfl ?_
        refine x_g y rfl rfl ?_
        refine xN rfl ?_
        refine x_g y rfl rfl ?_
        refine xF rfl ?_
        refine x_g y rfl rfl ?_
        refine xR (Al rfl mM rfl) ?_
        refine x_g y rfl rfl ?_
        refine xM rfl ?_
        refine x_g y rfl rfl ?_
        refine xR (Cp rfl rfl (by omega)) ?_
        refine x_g y rfl rfl ?_
        refine xF rfl ?_
        refine x_g y rfl rfl ?_
        refine xR (show Rd _ _ _ _ (wv (bAt bs to.toNat).wear) from Al rfl mM (Fn (o:=0) (Ep (by omega)) (by omega) rfl)) ?_
        refine x_g y rfl rfl ?_
        refine xR (Ae rfl rfl rfl) ?_
        exact Am ⟨rfl,⟨_,sP⟩⟩
      exact Am ⟨rfl,⟨_,sP⟩⟩
    refine Am<|Bm<|n_K ?_
    refine Aj rfl (fun c43=> ?_) (fun c43=> ?_)
    · simp only [A0r,A1b,Azf,Azp,A0d,Ayz] at c43
      have hT:(i:Int)=toU bs (i+1):=(by unfold toU;rw [← g1,A25 ⟨by omega,by rcases c43.2 with h9 | h9;exact .inl h9;exact .inr (by omega)⟩])
      refine Aa fun ops=>oM rfl<|oA rfl<|Ac<|Az<|n_K<|Aa fun ops=> ?_
      refine oR (Ao rfl rfl (by omega)) ?_
      refine oM rfl<|Ac<|n_K ?_
      first | exact ⟨(i+1,(i:Int)),⟨by simp only;omega,hT⟩,by simp only;omega,lZ⟩ | exact ⟨(i+1,to),⟨by simp only;omega,hF⟩,by simp only;omega,lZ⟩
    · simp only [A0r,A1b,Azf,Azp,A0d,Ayz] at c43
      have hF:to=toU bs (i+1):=(by unfold toU;rw [← g1,A26 (by rintro ⟨h8,h9⟩;rcases c43 with h7 | ⟨h6,h7⟩;omega;rcases h9 with h9 | h9;exact h6 h9;omega)])
      refine Ai<|Az<|n_K<|Aa fun ops=> ?_
      refine oR (Ao rfl rfl (by omega)) ?_
      refine oM rfl<|Ac<|n_K ?_
      first | exact ⟨(i+1,(i:Int)),⟨by simp only;omega,hT⟩,by simp only;omega,lZ⟩ | exact ⟨(i+1,to),⟨by simp only;omega,hF⟩,by simp only;omega,lZ⟩
  · simp only [A0d,Ayz] at c20
    have hi:i=nb:=(by omega)
    subst hi
    refine Bb<|x_K<|x_K<|Bj<|n_K<|Ad<|Ad<|Aa fun ops=>oM rfl<|oR (Ae rfl rfl rfl)<|Ac<|n_K ?_
    refine Aj rfl (fun c47=> ?_) (fun c47=> ?_)
    · simp only [A0d,Ayz] at c47
      refine Ad<|Aa fun ops=>oA rfl<|Ac<|n_K<|An<|r_K ?_
      exact Av (At Tryz.results153 (Ag rfl)) (by exact ⟨d.t,d.c,bs,last,40,rfl,rfl,.inl ⟨rfl,by omega,rfl,rfl,rfl,rfl⟩⟩) sP
    · simp only [A0d,Ayz] at c47
      obtain ⟨tn,rfl⟩:∃ tn:Nat,to=tn:=⟨to.toNat,by omega⟩
      have hrg:=Xr bs i
      have htn:tn<i:=(by omega)
      have hgt:bs[tn]? =some (bAt bs tn):=Ep (by omega)
      have hfree:(bAt bs tn).seq.toNat=0:=(by rcases Lb bs i with ⟨h9,_⟩ | ⟨l,h9,_,h8,_⟩;omega;(have:tn=l:=by omega);subst this;exact h8)
      refine Ai<|n_K<|Ad<|Aa fun ops=>oM rfl<|oN rfl<|oF rfl ?_
      refine oR (Al rfl mM rfl) ?_
      refine oM rfl ?_
      refine oR (Cp rfl rfl (by omega)) ?_
      refine oA rfl<|Ac<|n_K<|Ad<|Aa fun ops=>oM rfl<|oM rfl ?_
      refine A6 rfl (Akk (d:=d) (bb:=bb) (nb:=i) (last:=last) h (b:=tn) (by omega)) sP rfl aQ ?_
      refine oM rfl<|oE rfl rfl<|oE rfl rfl<|oA rfl<|oA rfl<|Ac<|n_K<|Ad<|Ad<|Aa fun ops=>oM rfl<|oR (Ae rfl rfl rfl)<|Ac<|n_K ?_
      refine Bi rfl ?_
      refine Ai<|n_K ?_
      refine P4 (fun F L=>∃ (t1:Tab) (c1:Chip) (bs1:List LB) (w:Blk),F=[(0,ptr lg),(3,.int .i64 (tn:Nat)),(6,.pointer (some ⟨bb,tn*5,none⟩))]∧L=(lg,true,C (lgC d.dk bb i last) tLg)::(bb,true,C (lbs bs1) tLB)::(dkH ⟨d.dk,t1,c1⟩++[])∧Ats n i (k+40) q tn V bs d.c t1.ts c1 bs1 w) ?_ ?_
      · refine Ad ?_
        refine Bf [(5,68)] rfl fun ops y=> ?_
        refine oM rfl<|oN rfl<|oF rfl ?_
        refine oR (Al rfl mM (by simp only [A0c];exact Fn (o:=3) hgt (by omega) rfl)) ?_
        refine oR (Bx rfl)<|oM rfl ?_
        refine' Es (j:=5) (k:=2) y rfl rfl rfl rfl rfl rfl rfl (fun hg68=> ?_) ?_
        rotate_left
        · try (simp at hg68;show _)
          refine o_g y rfl rfl ?_
          refine oM rfl ?_
          refine o_g y rfl rfl ?_
          refine oR (Bx rfl) ?_
          exact Ac ⟨rfl,rfl,⟨_,sP⟩⟩
        refine Ac<|n_K ?_
        refine Aj rfl (fun c71=> ?_) (fun c71=> ?_)
        · skip
          refine Ad<|Aa fun ops=>oM rfl<|oN rfl<|oF rfl ?_
          refine oR (Al rfl mM (by simp only [A0c];exact Fn (o:=0) hgt (by omega) rfl)) ?_
          refine oR (Apw rfl rfl)<|oN rfl<|oF rfl ?_
          refine Af (cs':=lbs (bs.set tn { bAt bs tn with wear:=(bAt bs tn).wear - 1 })) rfl rfl uD rfl rfl (by simp only [A0c];exact Ek (o:=0) hgt rfl) ?_
          refine Ac<|n_K<|Ad<|Aa fun ops=>oM rfl<|oM rfl ?_
          refine Bd rfl (Nz (d:=d) (bb:=bb) (last:=last) h (by omega) hq hacc (b:=tn) (bs:=bs.set tn { bAt bs tn with wear:=(bAt bs tn).wear - 1 }) hnb (by rw [A1f];exact hl) htn) sP rfl fun v81 Y81 h81=> ?_
          obtain ⟨t1,c1,bs1,e9,rfl,rfl,hb1,hF1,w,hW⟩:=h81
          rw [Dq (by omega),A25 rfl,BitVec.sub_add_cancel] at hW
          refine Ay aQ ?_
          refine oA rfl<|Ac<|n_K<|Ad<|Aa fun ops=>oM rfl<|oR (Ae rfl rfl rfl)<|Ac<|n_K ?_
          refine Aj rfl (fun c83=> ?_) (fun c83=> ?_)
          · skip
            have he9:e9≠0:=(by simpa using c83)
            have hW30:=hW.resolve_left (fun h9=>he9 h9.1)
            refine Ad<|Aa fun ops=>oM rfl<|oA rfl<|Ac<|n_K<|An<|r_K ?_
            exact Av (At Tryz.results153 (Ag rfl)) (by exact ⟨t1,c1,bs1,last,e9,rfl,rfl,.inr ⟨hb1,hF1,tn,w,by omega,.inr ⟨hW30.1,hW30.2.1,hW30.2.2.1,fun d a1 a2 a3 a4=>(by obtain ⟨x0,x1,x2,x3⟩:=hW30.2.2.2.1 d a1 a2 a3 a4;exact ⟨x0,x1,x2.mono (by omega),x3⟩),.inl hW30.2.2.2.2⟩⟩⟩) sP
          · skip
            have he9:e9=0:=(by simpa using c83)
            obtain ⟨_,hD1,hacc1,hbs1,hwn,hw0⟩:=hW.resolve_right (fun h9=>by rw [he9] at h9;exact absurd h9.1 (by decide))
            have hJ1:Ats n i (k+40) q tn V bs d.c t1.ts c1 bs1 w:=⟨hb1,hF1,hD1,hacc1,hwn,by rw [hbs1,A2m,Dq (by omega),A25 rfl];rfl,fun j hj hne=>by rw [hbs1,A2m,Dq (by omega),A26 hne],.inl ⟨by rw [hbs1,A2m,Dq (by omega),A25 rfl];rfl,hw0⟩⟩
            refine Ai<|n_K ?_
            first | exact ⟨_,_,⟨t1,c1,bs1,w,rfl,rfl,hJ1⟩,jZ⟩ | exact ⟨_,_,⟨d.t,d.c,bs,V tn,rfl,rfl,hJ0⟩,jZ⟩
        · skip
          have hrc:(bAt bs tn).ready=true:=(by simp at c71;exact c71.1)
          have hJ0:Ats n i (k+40) q tn V bs d.c d.t.ts d.c bs (V tn):=⟨hl,.refl _,by rw [Akm];exact DV.mono h (by omega),hacc,hrdy tn htn hrc,rfl,fun _ _ _=>rfl,.inr ⟨hrc,rfl,rfl⟩⟩
          refine Ai<|n_K ?_
          first | exact ⟨_,_,⟨t1,c1,bs1,w,rfl,rfl,hJ1⟩,jZ⟩ | exact ⟨_,_,⟨d.t,d.c,bs,V tn,rfl,rfl,hJ0⟩,jZ⟩
      · rintro F L ⟨t1,c1,bs1,w,rfl,rfl,hb1,hF1,hD1,hacc1,hwn,hwear,hoth,hpg⟩
        refine Ad<|Aa fun ops=>oA rfl<|Ac<|n_K ?_
        refine P4 (fun F L=>F=[(0,ptr lg),(3,.int .i64 (tn:Nat)),(6,.pointer (some ⟨bb,tn*5,none⟩)),(10,wv (seqN bs last))]∧L=(lg,true,C (lgC d.dk bb i last) tLg)::(bb,true,C (lbs bs1) tLB)::(dkH ⟨d.dk,t1,c1⟩++[])) ?_ ?_
        · refine Ad<|Aa fun ops=>oM rfl<|oN rfl<|oF rfl ?_
          refine oR (Al rfl mM rfl) ?_
          refine oR (Ae rfl rfl rfl)<|Ac<|n_K ?_
          refine Aj rfl (fun c89=> ?_) (fun c89=> ?_)
          · simp only [A0d,Ayz] at c89
            have hlt:last.toNat≠tn:=(fun e=>by have:=hls c89;rw [e] at this;exact this hfree)
            have hsq:seqN bs last=(bAt bs1 last.toNat).seq+1:=(by unfold seqN;rw [A26 (by omega),hoth _ (by omega) hlt])
            refine s_draw [] [(13,[(0,false),(1,false),(2,false),(3,false),(4,false),(5,false),(6,false),(7,false),(8,false),(9,false),(10,false),(11,false),(12,false)])] (by kernel_rfl) rfl fun ops w0 H0 y=> ?_
            refine A4<|xM rfl<|xN rfl<|xF rfl ?_
            refine xR (Al rfl mM rfl) ?_
            refine xM rfl<|xN rfl<|xF rfl ?_
            refine xR (Al rfl mM rfl) ?_
            refine xR (Cp rfl rfl (by omega)) ?_
            refine xF rfl ?_
            refine xR (show Rd _ _ _ _ (wv (bAt bs1 last.toNat).seq) from Al rfl mM (Fn (o:=2) (Ep (by omega)) (by omega) rfl)) ?_
            refine xR (Pf rfl rfl)<|xA rfl<|Am<|Bm<|n_K ?_
            exact ⟨_,_,⟨rfl,rfl⟩,by rw [hsq];exact jZ⟩
          · simp only [A0d,Ayz] at c89
            have hsq:seqN bs last=1:=(by unfold seqN;rw [A25 (by omega)])
            refine Ai<|n_K ?_
            exact ⟨_,_,⟨rfl,rfl⟩,by rw [hsq];exact jZ⟩
        · rintro F L ⟨rfl,rfl⟩
          refine Ad<|Aa fun ops=>oM rfl ?_
          refine Bd rfl (Hr) sP rfl fun v104 Y104 h104=> ?_
          obtain ⟨s104,rfl,rfl,hs104,ho104⟩:=h104
          refine Ay aQ ?_
          refine A5 rfl rfl rfl rfl fun b105=> ?_
          refine A6 rfl ((H9 (kind:=3) (s:=s104) (by rw [hs104,Bo];decide)).to (by rw [hs104,show Bl 8 8=8 from rfl,Su (by decide)]) rfl) sP rfl aQ ?_
          refine oM rfl<|oE rfl rfl<|oE rfl rfl ?_
          refine Aw rfl fun b11=> ?_
          rw [Cs]
          first | refine Af rfl rfl uD (Ct) (Ar) (B2 (by first | exact Ar | exact Azc ..)) ?_ | refine Af rfl rfl uD rfl rfl rfl ?_
          refine oA rfl<|Ac<|n_K<|Ad<|Aa fun ops=>oM rfl<|oM rfl ?_
          refine oR (Au rfl mM (by first | exact Bg | rfl)) ?_
          refine Bd rfl (Vm (d:=⟨d.dk,t1,c1⟩) (bb:=bb) (nb:=i) (last:=last) hD1 (by omega) hq hacc1 (b:=tn) (j:=1) (p:=Nx (seqN bs last)) (by omega) (by omega)) sP rfl fun v112 Y112 h112=> ?_
          obtain ⟨t2,c2,e,rfl,rfl,hF2,hW⟩:=h112
          obtain ⟨_,v,hv1,hv2,hv3⟩:=hW.resolve_left (fun h9=>h9.2.1 (by rw [E5];exact hwn))
          rw [E5] at hv2
          rw [Pu] at hv3
          have hk0:=Avp hv2 (by omega)
          have he32:e≠32:=(by rcases hv3 with h9 | h9 <;> omega)
          refine Ay aQ ?_
          refine oA rfl<|Ac<|n_K<|Ad<|Ad<|Aa fun ops=>oA rfl<|Ac<|n_K<|Ak ?_
          refine A8 [0,3,6,10] kQ (fun (_u:Unit)=>[(8,.int .i64 e),(13,.int .i64 0)]) (fun (_u:Unit)=>(lg,true,C (lgC d.dk bb i last) tLg)::(bb,true,C (lbs bs1) tLB)::(dkH ⟨d.dk,t2,c2⟩++[])) (fun (_u:Unit)=>True) (fun (_u:Unit)=>0) (()) (by first | trivial | omega | simp) kP sP ?_
          rintro _ _
          refine Ad<|Ad ?_
          refine Bf [(2,115)] rfl fun ops y=> ?_
          refine oM rfl<|oR (Ae rfl rfl rfl)<|oM rfl ?_
          refine' Df (j:=2) (k:=2) y rfl rfl rfl rfl rfl rfl rfl (fun hg115=> ?_) ?_
          rotate_left
          · try (simp at hg115;show _)
            refine o_g y rfl rfl ?_
            refine oM rfl ?_
            refine o_g y rfl rfl ?_
            refine oR (Ae rfl rfl rfl) ?_
            exact Ac ⟨rfl,rfl,⟨_,sP⟩⟩
          refine Ac<|n_K ?_
          refine Aj rfl (fun c118=> ?_) (fun c118=> ?_)
          · skip
            exact absurd (by simp at c118;exact c118) he32
          · skip
            refine Bb<|x_K<|x_K<|Bj<|n_K<|Ad<|Ad<|Aa fun ops=>oM rfl<|oR (Ae rfl rfl rfl)<|Ac<|n_K ?_
            refine Aj rfl (fun c131=> ?_) (fun c131=> ?_)
            · skip
              have he0:e≠0:=(by simpa using c131)
              have hv30:=hv3.resolve_left (fun h9=>he0 h9.1)
              refine Ad<|Aa fun ops=>oM rfl<|oA rfl<|Ac<|n_K<|An<|r_K ?_
              exact Av (At Tryz.results153 (Ag rfl)) (by exact ⟨t2,c2,bs1,last,e,rfl,rfl,.inr ⟨hb1,hF1.trans hF2,tn,v,by omega,.inr ⟨hv30.1,hv30.2.1,fun hp=>hv30.2.2.1 (by rw [(hF1.pos hp).1];exact hp),hv30.2.2.2.2,.inr ⟨hv1,by rcases hpg with ⟨_,h9⟩ | ⟨h8,_,h9⟩;(rw [h9] at hk0;rcases hk0 with h7 | h7;exact .inl h7;exact .inl (by rw [h7,Ih (by decide)]));(rw [h9] at hk0;exact .inr ⟨h8,hk0⟩),hv30.2.2.2.1⟩⟩⟩⟩) sP
            · skip
              have he0:e=0:=(by simpa using c131)
              obtain ⟨_,hD2,hacc2,hp2,_⟩:=hv3.resolve_right (fun h9=>by rw [he0] at h9;exact absurd h9.1 (by decide))
              have hg1:bs1[tn]? =some (bAt bs1 tn):=Ep (by omega)
              have hg2:(bs1.set tn { bAt bs1 tn with seq:=seqN bs last })[tn]? =some { bAt bs1 tn with seq:=seqN bs last }:=(by simp [hb1,htn])
              have hg3:(bs1.set tn { bAt bs1 tn with seq:=seqN bs last,next:=2 })[tn]? =some { bAt bs1 tn with seq:=seqN bs last,next:=2 }:=(by simp [hb1,htn])
              refine Ai<|n_K<|Ad<|Aa fun ops=>oM rfl<|oM rfl<|oM rfl<|oM rfl<|oN rfl<|oF rfl ?_
              first | refine Af (cs':=lbs (bs1.set tn { bAt bs1 tn with seq:=seqN bs last })) rfl rfl uD rfl rfl (Ek (o:=2) hg1 rfl) ?_ | refine Af (cs':=lbs ((bs1.set tn { bAt bs1 tn with seq:=seqN bs last }).set tn { bAt bs1 tn with seq:=seqN bs last,next:=2 })) rfl rfl uD rfl rfl (Ek (o:=4) hg2 rfl) ?_ | (rw [A2m];refine Af (cs':=lbs ((bs1.set tn { bAt bs1 tn with seq:=seqN bs last,next:=2 }).set tn { bAt bs1 tn with seq:=seqN bs last,next:=2,ready:=false })) rfl rfl uD rfl rfl (Ek (o:=3) hg3 rfl) ?_)
              refine oN rfl<|oF rfl ?_
              first | refine Af (cs':=lbs (bs1.set tn { bAt bs1 tn with seq:=seqN bs last })) rfl rfl uD rfl rfl (Ek (o:=2) hg1 rfl) ?_ | refine Af (cs':=lbs ((bs1.set tn { bAt bs1 tn with seq:=seqN bs last }).set tn { bAt bs1 tn with seq:=seqN bs last,next:=2 })) rfl rfl uD rfl rfl (Ek (o:=4) hg2 rfl) ?_ | (rw [A2m];refine Af (cs':=lbs ((bs1.set tn { bAt bs1 tn with seq:=seqN bs last,next:=2 }).set tn { bAt bs1 tn with seq:=seqN bs last,next:=2,ready:=false })) rfl rfl uD rfl rfl (Ek (o:=3) hg3 rfl) ?_)
              refine oN rfl<|oF rfl ?_
              first | refine Af (cs':=lbs (bs1.set tn { bAt bs1 tn with seq:=seqN bs last })) rfl rfl uD rfl rfl (Ek (o:=2) hg1 rfl) ?_ | refine Af (cs':=lbs ((bs1.set tn { bAt bs1 tn with seq:=seqN bs last }).set tn { bAt bs1 tn with seq:=seqN bs last,next:=2 })) rfl rfl uD rfl rfl (Ek (o:=4) hg2 rfl) ?_ | (rw [A2m];refine Af (cs':=lbs ((bs1.set tn { bAt bs1 tn with seq:=seqN bs last,next:=2 }).set tn { bAt bs1 tn with seq:=seqN bs last,next:=2,ready:=false })) rfl rfl uD rfl rfl (Ek (o:=3) hg3 rfl) ?_)
              refine Ac<|n_K<|Ad<|Aa fun ops=>oM rfl<|oM rfl<|oN rfl<|oF rfl ?_
              refine Af rfl rfl uD rfl rfl rfl ?_
              refine Ac<|n_K<|Ad<|Aa fun ops=>oA rfl<|Ac<|n_K<|An ?_
              exact Av (At Tryz.results153 (Ag rfl)) (by exact ⟨t2,c2,bs1.set tn { bAt bs1 tn with seq:=seqN bs last,next:=2,ready:=false },(tn:Int),0,rfl,rfl,.inr ⟨by rw [A1f];exact hb1,hF1.trans hF2,tn,v,by omega,.inl ⟨rfl,hD2,hacc2,rfl,fun j hj hne=>by rw [Dq (by omega),A26 hne];exact hoth j hj hne,(bAt bs1 tn).known,by rw [Dq (by omega),A25 rfl,← hwear],hv1,hp2,by rcases hpg with ⟨h8,h9⟩ | ⟨h8,h7,h9⟩;(rw [h9] at hk0;rcases hk0 with h6 | h6;exact .inl ⟨h8,h6⟩;exact .inl ⟨h8,by rw [h6,Ih (by decide)]⟩);(rw [h9] at hk0;exact .inr ⟨h8,h7,hk0⟩)⟩⟩⟩) (by rw [A2m];exact sP)
end
end
section
open Go.K
instance agg65:Agg Tryz.prog 65 true:=⟨⟨_,Tryz.underlying65,rfl⟩⟩
instance siz65:Siz Tryz.prog 65 2:=⟨by kernel_rfl⟩
instance zer65:Zer Tryz.prog 65 ([.int .i64 0,.int .i64 0]):=⟨by kernel_rfl⟩
instance plc65:Plc Tryz.prog 65 [(0,1),(1,1)]:=⟨⟨_,Tryz.underlying65,fun _=>by kernel_rfl⟩⟩
instance ent112:Ent Tryz.prog 112:=⟨fun _ _=>by kernel_rfl⟩
abbrev tPc:TypeId:=65
def Avq (V:Nat→Blk) (bs:List LB) (nb:Nat):Prop:=∀ b<nb,(bAt bs b).ready=true→(V b).next=1∧(bAt bs b).known=true∧A9 (V b) 0=I7 (bAt bs b).wear
def Xs (V:Nat→Blk) (bs:List LB) (last:Int):Prop:=last<0∨∃ l:Nat,last=l∧∀ m:Nat,(bAt bs l).next≤m→m<8→(V l).next≠m
def Py (bs bs':List LB) (nb:Nat) (last to:Int):Prop:=∀ j<nb,(j:Int)≠to→bAt bs' j=bAt bs j∨(last=j∧bAt bs' j={ bAt bs j with next:=8 })
def Apx (n nb k:Nat) (q:Qt) (V:Nat→Blk) (bs:List LB) (last:Int) (p:Pg) (c:Chip) (t:TS) (bs':List LB) (last' e pb pj:Int) (t':TS) (c':Chip):Prop :=
  (∃ l nx:Nat,last=l∧(bAt bs l).next≤nx∧nx<8∧(V l).next=nx∧FrA c c'∧∃ v:Blk,v.next=((nx+1:Nat):Int)∧Rq v (V l) nx ∧
    ((e=0∧DV c' t' n k (upV V l v)∧Acc q c' t'∧A9 v nx=p∧pb=l∧pj=nx∧last'=last∧bs'=bs.set l { bAt bs l with next:=(nx:Int)+1 }∧(q.n=0→Z4 c c')) ∨
     (e=30∧c'.off=true∧¬ c.after<0∧(∃ m,A9 v nx=Cu m A0 p)∧Later c' n k q.n (upV V l v)))) ∨
  (Xs V bs last∧((e=40∧toU bs nb<0∧t'=t∧c'=c∧last'=last∧bs'.length=nb∧Py bs bs' nb last (-1)) ∨
    (FrA c c'∧bs'.length=nb∧∃ (to:Nat) (v:Blk),toU bs nb=to ∧
      ((e=0∧DV c' t' n k (upV V to v)∧Acc q c' t'∧pb=to∧pj=2∧last'=to∧v.next=3∧A9 v 2=p∧A9 v 1=Nx (seqN bs last)∧A9 v 0=I7 (bAt bs to).wear∧bAt bs' to=⟨(bAt bs to).wear,true,seqN bs last,false,3⟩∧Py bs bs' nb last to) ∨
       (e=30∧c'.off=true∧¬ c.after<0∧Later c' n k q.n (upV V to v)∧(Atr (V to) v (bAt bs to) (seqN bs last)∨(v.next=3∧A9 v 1=Nx (seqN bs last)∧∃ m,A9 v 2=Cu m A0 p)))))))
def bsN (bs:List LB) (last:Int) (nx:Nat):List LB:=if 0≤last then bs.set last.toNat { bAt bs last.toNat with next:=(nx:Int) } else bs
theorem N0 (bs:List LB) (last:Int) (nx:Nat):(bsN bs last nx).length=bs.length:=by unfold bsN;split <;> simp
theorem M2 {bs:List LB} {last:Int} {nx j:Nat} (hl:last<bs.length):bAt (bsN bs last nx) j=if last=j then { bAt bs j with next:=(nx:Int) } else bAt bs j:=by
  unfold bsN
  split
  · rw [Dq (by omega)]
    by_cases e:j=last.toNat
    · rw [A25 e,A25 (by omega),e]
    · rw [A26 e,A26 (by omega)]
  · rw [A26 (by omega)]
theorem F0 {bs:List LB} {last:Int} {nx j:Nat} (hl:last<bs.length):(bAt (bsN bs last nx) j).seq=(bAt bs j).seq∧(bAt (bsN bs last nx) j).wear=(bAt bs j).wear∧(bAt (bsN bs last nx) j).ready=(bAt bs j).ready∧(bAt (bsN bs last nx) j).known=(bAt bs j).known:=by
  rw [M2 hl]
  split <;> exact ⟨rfl,rfl,rfl,rfl⟩
theorem Ae3 {bs:List LB} {last:Int} {nx:Nat} (hl:last<bs.length):∀ k,toU (bsN bs last nx) k=toU bs k
  | 0=>rfl
  | k+1=>by
    unfold toU
    rw [Ae3 hl k,(F0 hl).1,(F0 hl).2.1,(F0 hl).2.1]
theorem Ako {bs:List LB} {last:Int} {nx:Nat} (hl:last<bs.length):seqN (bsN bs last nx) last=seqN bs last:=by
  unfold seqN
  rw [(F0 hl).1]
theorem Ae4 {bs:List LB} {l nx:Nat} (m:Int) (hl:l<bs.length):(bsN bs l nx).set l { bAt (bsN bs l nx) l with next:=m }=bs.set l { bAt bs l with next:=m }:=by
  rw [M2 (by omega),A25 rfl]
  unfold bsN
  rw [A25 (by omega),A0c,A2m]
def Ahh (n nb k:Nat) (q:Qt) (V:Nat→Blk) (bs:List LB) (last:Int) (nx:Nat) (c:Chip) (t:TS) (t1:TS) (c1:Chip) (bs1:List LB) (bn jn:Nat) (V1:Nat→Blk):Prop :=
  bs1.length=nb∧FrA c c1∧DV c1 t1 n k V1∧Acc q c1 t1∧bn<nb∧jn<8∧(bAt bs1 bn).next=jn ∧
  ((last=bn∧jn=nx∧t1=t∧c1=c∧bs1=bsN bs last nx∧V1=V) ∨
   (Xs V bs last∧jn=2∧toU bs nb=bn∧bAt bs1 bn=⟨(bAt bs bn).wear,true,seqN bs last,false,2⟩∧Py bs bs1 nb last bn∧∃ w,V1=upV V bn w∧w.next=2∧A9 w 1=Nx (seqN bs last)∧A9 w 0=I7 (bAt bs bn).wear))
theorem Akp {v w:Blk} {j i:Nat} (h:Rq v w j) (hi:i<j) (h8:i<8):A9 v i=A9 w i∨A9 v i=Dv (A9 w i):=by
  have:=h i h8 hi
  rwa [← Fa (v:=v) h8,← Fa (v:=w) h8] at this
section
variable {n nb k:Nat} {q:Qt} {nx bn jn:Nat} {V V1:Nat→Blk} {bs bs1:List LB} {last e:Int} {c c1 c2:Chip} {t t1 t2:TS} {p:Pg}
theorem Att (hl:bs.length=nb) (hJ:Ahh n nb (k+60) q V bs last nx c t t1 c1 bs1 bn jn V1) (g1:0≤last→(bAt bs last.toNat).next≤nx) (hW:Xq n (k+60+20) q V1 bn jn p c1 t1 0 t2 c2) :
    Apx n nb (k+80) q V bs last p c t (bs1.set bn { bAt bs1 bn with next:=(jn:Int)+1 }) bn 0 bn jn t2 c2:=by
  obtain ⟨hb1,hF1,hD1,hacc1,hbn,hjn,hnx,hph⟩:=hJ
  obtain ⟨hF2,hW⟩:=hW
  obtain ⟨hn2,v,hv1,hv2,hv3⟩:=hW.resolve_left (fun h9=>absurd h9.1 (by decide))
  obtain ⟨_,hD2,hacc2,hp,haf⟩:=hv3.resolve_right (fun h9=>absurd h9.1 (by decide))
  rcases hph with ⟨h1,rfl,rfl,rfl,rfl,rfl⟩ | ⟨h1,rfl,h2,h3,h4,w,rfl,h5,h6,h7⟩
  · subst h1
    have hg:=g1 (by omega)
    rw [A0c] at hg
    exact .inl ⟨bn,jn,rfl,hg,hjn,hn2,hF2,v,hv1,hv2,.inl ⟨rfl,hD2,hacc2,hp,rfl,rfl,rfl,Ae4 _ (by omega),haf⟩⟩
  · rw [E5] at hv2
    rw [Pu] at hD2
    have k0:=Akp hv2 (i:=0) (by omega) (by omega)
    have k1:=Akp hv2 (i:=1) (by omega) (by omega)
    rw [h7,Ih (by decide)] at k0
    rw [h6,Ih (by decide)] at k1
    refine .inr ⟨h1,.inr ⟨hF1.trans hF2,by rw [A1f];exact hb1,bn,v,h2,.inl ⟨rfl,hD2,hacc2,rfl,rfl,rfl,hv1,hp,by rcases k1 with e | e <;> exact e,by rcases k0 with e | e <;> exact e,?_,fun j hj hne=> ?_⟩⟩⟩
    · rw [Dq (by omega),A25 rfl,h3]
      rfl
    · rw [Dq (by omega),A26 (by omega)]
      exact h4 j hj hne
theorem Akq (hl:bs.length=nb) (hJ:Ahh n nb (k+60) q V bs last nx c t t1 c1 bs1 bn jn V1) (g1:0≤last→(bAt bs last.toNat).next≤nx) (hW:Xq n (k+60+20) q V1 bn jn p c1 t1 e t2 c2) (h0:e≠0) (h32:e≠32) :
    Apx n nb (k+80) q V bs last p c t bs1 bn e 0 0 t2 c2:=by
  obtain ⟨hb1,hF1,hD1,hacc1,hbn,hjn,hnx,hph⟩:=hJ
  obtain ⟨hF2,hW⟩:=hW
  obtain ⟨hn2,v,hv1,hv2,hv3⟩:=hW.resolve_left (fun h9=>h32 h9.1)
  obtain ⟨r1,r2,r3,r4,r5⟩:=hv3.resolve_left (fun h9=>h0 h9.1)
  rcases hph with ⟨h1,rfl,rfl,rfl,rfl,rfl⟩ | ⟨h1,rfl,h2,h3,h4,w,rfl,h5,h6,h7⟩
  · subst h1
    have hg:=g1 (by omega)
    rw [A0c] at hg
    exact .inl ⟨bn,jn,rfl,hg,hjn,hn2,hF2,v,hv1,hv2,.inr ⟨r1,r2,r3,r4,r5⟩⟩
  · rw [E5] at hv2
    rw [Pu] at r5
    have k1:=Akp hv2 (i:=1) (by omega) (by omega)
    rw [h6,Ih (by decide)] at k1
    exact .inr ⟨h1,.inr ⟨hF1.trans hF2,hb1,bn,v,h2,.inr ⟨r1,r2,fun hp=>r3 (by rw [(hF1.pos hp).1];exact hp),r5,.inr ⟨hv1,by rcases k1 with e | e <;> exact e,r4⟩⟩⟩⟩
theorem Akr (hl:bs.length=nb) (hJ:Ahh n nb (k+60) q V bs last nx c t t1 c1 bs1 bn jn V1) (hW:Xq n (k+60+20) q V1 bn jn p c1 t1 32 t2 c2) :
    last=bn∧jn=nx∧(V bn).next≠nx∧t2=t∧c2=c∧bs1.set bn { bAt bs1 bn with next:=(jn:Int)+1 }=bsN bs last (nx+1):=by
  obtain ⟨hb1,hF1,hD1,hacc1,hbn,hjn,hnx,hph⟩:=hJ
  obtain ⟨hF2,hW⟩:=hW
  rcases hW with ⟨_,hn2,rfl,rfl⟩ | ⟨_,v,_,_,hv3⟩
  · rcases hph with ⟨h1,rfl,rfl,rfl,rfl,rfl⟩ | ⟨h1,rfl,h2,h3,h4,w,rfl,h5,h6,h7⟩
    · subst h1
      refine ⟨rfl,rfl,hn2,rfl,rfl,?_⟩
      rw [Ae4 _ (by omega)]
      unfold bsN
      rw [A25 (by omega),A0c]
      congr 2
    · rw [E5,h5] at hn2
      exact absurd rfl hn2
  · rcases hv3 with h9 | h9
    · exact absurd h9.1 (by decide)
    · exact absurd h9.1 (by decide)
end
section
variable {d:Dsk} {n k:Nat} {q:Qt} {lg bb nb:Nat} {last:Int} {V:Nat→Blk} {bs:List LB}
theorem Ac5 (h:DD d n k V) (hk:k≤400000000000) (hq:q.n≤3) (hacc:Acc q d.c d.t.ts) (hnb:nb+6=n) (hl:bs.length=nb) (hlr: -1≤last∧last<nb)
    (hls:0≤last→(bAt bs last.toNat).seq.toNat≠0∧2≤(bAt bs last.toNat).next∧(bAt bs last.toNat).next≤8) (hrdy:Avq V bs nb) {kind:By} {qs:Sl (Sl By)} (hj:(Bq qs.list).length≤70000000000000) :
    Does Tryz.prog 112 [ptr lg,bv kind,qs.val] ((lg,true,C (lgC d.dk bb nb last) tLg)::(bb,true,C (lbs bs) tLB)::(dkH d++(qs.hp tSB++(Dh qs.list++[]))))
    (fun v H=>∃ (t':Tab) (c':Chip) (bs':List LB) (last' e pb pj:Int),v= .tuple #[.agg #[.int .i64 pb,.int .i64 pj],.int .i64 e]∧H=(lg,true,C (lgC d.dk bb nb last') tLg)::(bb,true,C (lbs bs') tLB)::(dkH ⟨d.dk,t',c'⟩++[]) ∧
      (((kind.toNat≤3∨C6 kind (Bq qs.list)=true)∧e=1∧pb=0∧pj=0∧t'=d.t∧c'=d.c∧bs'=bs∧last'=last) ∨
       (3<kind.toNat∧C6 kind (Bq qs.list)=false∧Apx n nb (k+80) q V bs last (Cw kind (Bq qs.list)) d.c d.t.ts bs' last' e pb pj t'.ts c'))):=by
  have hn40:=h.di.wf.n2
  refine Ah (n:=100) Tryz.func112 Tryz.ntmps112 rfl (Ay9 rfl)<|Ad<|Aa fun ops=> ?_
  refine Aw rfl fun b6=> ?_
  refine oA rfl<|Ac<|n_K<|Ad<|Aa fun ops=>oM rfl<|oM rfl ?_
  refine A6 rfl (M1 (kind:=kind) (q:=qs) hj) sP rfl aQ ?_
  refine oM rfl<|oE rfl rfl<|oE rfl rfl ?_
  refine Aw rfl fun b8=> ?_
  rw [Cs]
  first | refine Af rfl rfl uD (Ct) (Ar) (B2 (by first | exact Ar | exact Azc ..)) ?_ | refine Af rfl rfl uD rfl rfl rfl ?_
  refine oA rfl<|Ac<|n_K<|Ad<|Ad ?_
  refine Bf [(2,22)] rfl fun ops y=> ?_
  refine oM rfl<|oR (Ae rfl rfl rfl)<|oM rfl ?_
  refine' Es (j:=2) (k:=2) y rfl rfl rfl rfl rfl rfl rfl (fun hg22=> ?_) ?_
  rotate_left
  · try (simp at hg22;show _)
    refine o_g y rfl rfl ?_
    refine oM rfl ?_
    refine o_g y rfl rfl ?_
    refine oR (Ae rfl rfl rfl) ?_
    exact Ac ⟨rfl,rfl,⟨_,sP⟩⟩
  refine Ac<|n_K ?_
  refine Aj rfl (fun c25=> ?_) (fun c25=> ?_)
  · skip
    have hbad:kind.toNat≤3∨C6 kind (Bq qs.list)=true:=(by simp at c25;rcases c25 with h9 | h9;exact .inl (by omega);right;cases hw:C6 kind (Bq qs.list);(exfalso;apply h9;unfold C3;rw [hw];rfl);rfl)
    refine Ad<|Aa fun ops=>oR (Bc rfl rfl) ?_
    refine Af rfl rfl uD rfl rfl rfl ?_
    refine oA rfl<|Ac<|n_K<|An<|r_K ?_
    exact Av (Bz Tryz.results112 (Bv rfl mM rfl) (Ag rfl)) (by exact ⟨d.t,d.c,bs,last,1,0,0,rfl,rfl,.inl ⟨hbad,rfl,rfl,rfl,rfl,rfl,rfl,rfl⟩⟩) sP
  · skip
    have hgood:3<kind.toNat∧C6 kind (Bq qs.list)=false:=(by simp at c25;refine ⟨by omega,?_⟩;cases hw:C6 kind (Bq qs.list);rfl;(exfalso;have h9:=c25.2;unfold C3 at h9;rw [hw] at h9;simp at h9))
    have hwf:(C3 kind (Bq qs.list)).1=Cw kind (Bq qs.list):=(by unfold C3;rw [hgood.2];rfl)
    obtain ⟨x0,hx0⟩:∃ x0:Nat,x0≤8∧(0≤last→(bAt bs last.toNat).next=x0):=(by by_cases h9:0≤last;(have:=hls h9;exact ⟨(bAt bs last.toNat).next.toNat,by omega,fun _=>by omega⟩);exact ⟨0,by omega,fun h8=>absurd h8 h9⟩)
    have hbs0:bsN bs last x0=bs:=(by apply Akh (N0 ..);intro j hj9;rw [M2 (by omega)];split;(rename_i h9;have h8:=hx0.2 (by omega);rw [show last.toNat=j by omega] at h8;rw [← h8]);rfl)
    refine Ai<|n_K<|Ak ?_
    refine A8 [0,6,8] kQ (fun (st:Nat×Tab)=>[]) (fun (st:Nat×Tab)=>(b8,true,C (vbc (Cw kind (Bq qs.list))) tPg)::(b6,true,C [.int .i64 0,.int .i64 0] tPc)::(lg,true,C (lgC d.dk bb nb last) tLg)::(bb,true,C (lbs (bsN bs last st.1)) tLB)::(dkH ⟨d.dk,st.2,d.c⟩++[])) (fun (st:Nat×Tab)=>st.1≤8∧(0≤last→(bAt bs last.toNat).next≤st.1)∧(∀ m:Nat,0≤last→(bAt bs last.toNat).next≤m→m<st.1→(V last.toNat).next≠m)∧st.2.ts=d.t.ts) (fun (st:Nat×Tab)=>8 - st.1) ((x0,d.t)) ⟨hx0.1,fun h9=>by rw [hx0.2 h9];exact A2p _,fun m h9 h8 h7=>by rw [hx0.2 h9] at h8;simp only at h7;omega,rfl⟩ kP (by rw [hbs0,← hwf];exact sP) ?_
    rintro ⟨nx,t0⟩ ⟨g0,g1,g2,g3⟩
    simp only at g0 g1 g2 g3
    have h':DD ⟨d.dk,t0,d.c⟩ n k V:=(by show DV d.c t0.ts n k V;rw [g3];exact h)
    have hacc':Acc q d.c t0.ts:=(by rw [g3];exact hacc)
    refine Ak ?_
    refine P4 (fun F L=>∃ (t1:Tab) (c1:Chip) (bs1:List LB) (bn jn:Nat) (V1:Nat→Blk),F=[(0,ptr lg),(6,ptr b6),(8,ptr b8)]∧L=(b8,true,C (vbc (Cw kind (Bq qs.list))) tPg)::(b6,true,C [.int .i64 0,.int .i64 0] tPc)::(lg,true,C (lgC d.dk bb nb (bn:Nat)) tLg)::(bb,true,C (lbs bs1) tLB)::(dkH ⟨d.dk,t1,c1⟩++[])∧Ahh n nb (k+60) q V bs last nx d.c d.t.ts t1.ts c1 bs1 bn jn V1) ?_ ?_
    · refine Ad ?_
      refine s_draw [(5,32)] [(19,[(0,false),(1,false),(2,false),(3,false),(4,false),(5,false),(6,false),(7,false),(8,false),(9,false),(10,false),(11,false),(12,false),(13,false),(14,false),(15,false),(16,false),(17,false),(18,false)])] (by kernel_rfl) rfl fun ops w0 H0 y=> ?_
      refine A4<|xM rfl<|xN rfl<|xF rfl ?_
      refine xR (Al rfl mM rfl) ?_
      refine xR (Ae rfl rfl rfl)<|xM rfl ?_
      refine' Qa (j:=5) (k:=12) y rfl rfl rfl rfl rfl rfl rfl (fun hg32=> ?_) ?_
      rotate_left
      · try (simp at hg32;show _)
        refine x_g y rfl rfl ?_
        refine xM rfl ?_
        refine x_g y rfl rfl ?_
        refine xN rfl ?_
        refine x_g y rfl rfl ?_
        refine xF rfl ?_
        refine x_g y rfl rfl ?_
        refine xR (Al rfl mM rfl) ?_
        refine x_g y rfl rfl ?_
        refine xM rfl ?_
        refine x_g y rfl rfl ?_
        refine xN rfl ?_
        refine x_g y rfl rfl ?_
        refine xF rfl ?_
        refine x_g y rfl rfl ?_
        refine xR (Al rfl mM rfl) ?_
        refine x_g y rfl rfl ?_
        refine xR (Cp rfl rfl (by omega)) ?_
        refine x_g y rfl rfl ?_
        refine xF rfl ?_
        refine x_g y rfl rfl ?_
        refine xR (show Rd _ _ _ _ (.int .i64 (nx:Nat)) from Al rfl mM (Fn (o:=4) (x:={ bAt bs last.toNat with next:=(nx:Int) }) (by rw [Ep (by rw [N0];omega),M2 (by omega),A25 (by omega)]) (by omega) rfl)) ?_
        refine x_g y rfl rfl ?_
        refine xR (Ae rfl rfl rfl) ?_
        exact Am ⟨rfl,⟨_,sP⟩⟩
      refine Am<|Bm<|n_K ?_
      refine Aj rfl (fun c45=> ?_) (fun c45=> ?_)
      · simp only [A1b,Azp,A0d,Ayz] at c45
        have hNR:Xs V bs last:=(by rcases c45 with h9 | h9;exact .inl h9;by_cases h8:last<0;exact .inl h8;exact .inr ⟨last.toNat,by omega,fun m h7 h6=>g2 m (by omega) h7 (by omega)⟩)
        refine Ad<|Aa fun ops=>oM rfl ?_
        refine Bd rfl (Akn (d:=⟨d.dk,t0,d.c⟩) (bb:=bb) (last:=last) (bs:=bsN bs last nx) h' (by omega) hq hacc' hnb (by rw [N0];exact hl) hlr (fun h9=>by rw [(F0 (by omega)).1];exact (hls h9).1) (fun b hb hr=>(hrdy b hb (by rw [(F0 (by omega)).2.2.1] at hr;exact hr)).1)) sP rfl fun v47 Y47 h47=> ?_
        obtain ⟨t1,c1,bs1,last1,e1,rfl,rfl,hB⟩:=h47
        unfold Akl at hB
        rw [Ae3 (by omega),Ako (by omega)] at hB
        simp only at hB
        rw [g3] at hB
        refine Ay aQ ?_
        refine oA rfl<|Ac<|n_K<|Ad<|Aa fun ops=>oM rfl<|oR (Ae rfl rfl rfl)<|Ac<|n_K ?_
        refine Aj rfl (fun c49=> ?_) (fun c49=> ?_)
        · skip
          have he1:e1≠0:=(by simpa using c49)
          refine Ad<|Aa fun ops=>oR (Bc rfl rfl)<|oM rfl ?_
          refine Af rfl rfl uD rfl rfl rfl ?_
          refine oA rfl<|Ac<|n_K<|An<|r_K<|Bn<|r_K<|Bn ?_
          exact Av (Bz Tryz.results112 (Bv rfl mM rfl) (Ag rfl)) (by exact ⟨t1,c1,bs1,last1,e1,0,0,rfl,rfl,.inr ⟨hgood.1,hgood.2,.inr ⟨hNR,by rcases hB with ⟨h9,h8,h7,h6,h5,h4⟩ | ⟨h9,h8,tn,w,h7,h6⟩;(exact .inl ⟨h9,h8,h5,h4,h6,by rw [h7,N0];exact hl,fun j hj9 hne=>by rw [h7,M2 (by omega)];split;(rename_i h3;by_cases h2:nx=8;(subst h2;exact .inr ⟨h3,rfl⟩);(exfalso;rcases c45 with h0 | h0 <;> omega));exact .inl rfl⟩);(obtain ⟨r1,r2,r3,r4,r5⟩:=h6.resolve_left (fun h5=>he1 h5.1);exact .inr ⟨h8,h9,tn,w,h7,.inr ⟨r1,r2,r3,fun d a1 a2 a3 a4=>(by obtain ⟨x0,x1,x2,x3⟩:=r4 d a1 a2 a3 a4;exact ⟨x0,x1,x2.mono (by omega),x3⟩),.inl (by unfold Atr at r5 ⊢;rw [(F0 (by omega)).2.1,(F0 (by omega)).2.2.1] at r5;exact r5)⟩⟩)⟩⟩⟩) sP
        · skip
          have he1:e1=0:=(by simpa using c49)
          have hB2:=hB.resolve_left (fun h9=>by rw [he1] at h9;exact absurd h9.1 (by decide))
          obtain ⟨hb1,hF1,tn,w,htn,hB3⟩:=hB2
          obtain ⟨_,hD1,hacc1,rfl,hoth,kn,hbt,hbg⟩:=hB3.resolve_right (fun h9=>by rw [he1] at h9;exact absurd h9.1 (by decide))
          have htl:tn<nb:=(by have:=Xr bs nb;omega)
          have hp0:kn=true∧A9 w 0=I7 (bAt bs tn).wear:=(by unfold As2 at hbg;rw [(F0 (by omega)).2.1,(F0 (by omega)).2.2.1,(F0 (by omega)).2.2.2] at hbg;rcases hbg.2.2 with h9 | ⟨h9,h8,h7⟩;exact h9;(obtain ⟨_,h6,h5⟩:=hrdy tn htl h9;refine ⟨h8.trans h6,?_⟩;rw [h5] at h7;rcases h7 with h7 | h7;exact h7;rw [h7,Ih (by decide)]))
          have hbt2:bAt bs1 tn=⟨(bAt bs tn).wear,true,seqN bs last,false,2⟩:=(by rw [hbt,hp0.1,(F0 (by omega)).2.1])
          have hoB:Py bs bs1 nb last tn:=(fun j hj9 hne=>by rw [hoth j hj9 (by omega),M2 (by omega)];split;(rename_i h9;by_cases h8:nx=8;(subst h8;exact .inr ⟨h9,rfl⟩);(exfalso;rcases c45 with h7 | h7 <;> omega));exact .inl rfl)
          have hJB:Ahh n nb (k+60) q V bs last nx d.c d.t.ts t1.ts c1 bs1 tn 2 (upV V tn w):=⟨hb1,hF1,hD1,hacc1,htl,by omega,by rw [hbt2];rfl,.inr ⟨hNR,rfl,htn,hbt2,hoB,w,rfl,hbg.1,hbg.2.1,hp0.2⟩⟩
          refine Ai<|n_K ?_
          first | exact ⟨_,_,⟨t1,c1,bs1,tn,2,upV V tn w,rfl,rfl,hJB⟩,jZ⟩ | exact ⟨_,_,⟨t0,d.c,bsN bs last nx,l,nx,V,rfl,rfl,hJA⟩,(by rw [← hll];exact jZ)⟩
      · simp only [A1b,Azp,A0d,Ayz] at c45
        obtain ⟨l,hll⟩:∃ l:Nat,last=l:=⟨last.toNat,by omega⟩
        have hJA:Ahh n nb (k+60) q V bs last nx d.c d.t.ts t0.ts d.c (bsN bs last nx) l nx V:=⟨by rw [N0];exact hl,.refl _,DV.mono h' (by omega),hacc',by omega,by omega,by rw [M2 (by omega),A25 hll],.inl ⟨hll,rfl,g3,rfl,rfl,rfl⟩⟩
        refine Ai<|n_K ?_
        first | exact ⟨_,_,⟨t1,c1,bs1,tn,2,upV V tn w,rfl,rfl,hJB⟩,jZ⟩ | exact ⟨_,_,⟨t0,d.c,bsN bs last nx,l,nx,V,rfl,rfl,hJA⟩,(by rw [← hll];exact jZ)⟩
    · rintro F L ⟨t1,c1,bs1,bn,jn,V1,rfl,rfl,hJ⟩
      obtain ⟨hb1,hF1,hD1,hacc1,hbn,hjn,hnx,hph⟩:=id hJ
      refine Ad ?_
      refine s_draw [] [(10,[(0,false),(1,false),(2,false),(3,false),(4,false),(5,false),(6,false),(7,false),(8,false),(9,false)])] (by kernel_rfl) rfl fun ops w0 H0 y=> ?_
      refine A4<|xM rfl<|xN rfl<|xF rfl ?_
      refine xR (Al rfl mM rfl) ?_
      refine xM rfl<|xN rfl<|xF rfl ?_
      refine xR (Al rfl mM rfl) ?_
      refine xR (Cp rfl rfl (by omega)) ?_
      refine xA rfl<|Am<|Bm<|n_K<|Ad<|Aa fun ops=>oM rfl<|oN rfl<|oF rfl ?_
      refine oR (show Rd _ _ _ _ (.int .i64 (jn:Nat)) from (by rw [← hnx];exact Al rfl mM (by simp only [A0c];exact Fn (o:=4) (Ep (by omega)) (by omega) rfl))) ?_
      refine oA rfl<|Ac<|n_K<|Ad ?_
      refine s_draw [] [(7,[(0,false),(1,false),(2,false),(3,false),(4,false),(5,false),(6,false)]),(8,[(7,true)]),(9,[(8,false)])] (by kernel_rfl) rfl fun ops w0 H0 y=> ?_
      refine A4<|xM rfl<|xM rfl<|xN rfl<|xF rfl ?_
      refine xR (Al rfl mM rfl) ?_
      refine xM rfl ?_
      refine xR (Au rfl mM (by first | exact Bg | rfl)) ?_
      refine Am<|Bh<|Be ?_
      refine Bd rfl (Vm (d:=⟨d.dk,t1,c1⟩) (bb:=bb) (nb:=nb) (last:=(bn:Nat)) hD1 (by omega) hq hacc1 (b:=bn) (j:=jn) (p:=Cw kind (Bq qs.list)) (by omega) hjn) sP rfl fun v72 Y72 h72=> ?_
      obtain ⟨t2,c2,e,rfl,rfl,hW⟩:=h72
      have hgb:bs1[bn]? =some (bAt bs1 bn):=Ep (by omega)
      refine Ay aQ ?_
      refine Ac ⟨rfl,⟨_,sP⟩,?_⟩
      refine Am<|A4<|xA rfl<|Am<|Bm<|n_K<|Ad<|Aa fun ops=>oM rfl<|Ac<|n_K<|Ak<|Ad<|Aa fun ops=> ?_
      refine oR (Ae rfl rfl rfl)<|oA rfl<|Ac<|n_K ?_
      refine Aj rfl (fun c76=> ?_) (fun c76=> ?_)
      · skip
        have he0:e=0:=(by simpa using c76)
        subst he0
        have hA:=Att hl hJ g1 hW
        refine Ad<|Aa fun ops=>oM rfl<|oN rfl<|oF rfl ?_
        refine oR (show Rd _ _ _ _ (.int .i64 (jn:Nat)) from (by rw [← hnx];exact Al rfl mM (Fn (o:=4) hgb (by omega) rfl))) ?_
        refine oR (Ao rfl rfl (by omega)) ?_
        refine oN rfl<|oF rfl ?_
        refine Af (cs':=lbs (bs1.set bn { bAt bs1 bn with next:=(jn:Int)+1 })) rfl rfl uD rfl rfl (Ek (o:=4) hgb rfl) ?_
        refine Ac<|n_K<|Ad<|Aa fun ops=>oM rfl<|oN rfl<|oF rfl ?_
        refine oR (Al rfl mM rfl) ?_
        refine oM rfl<|oR (Bc rfl rfl) ?_
        refine Af rfl rfl uD rfl rfl rfl ?_
        refine oA rfl<|Ac<|n_K<|An<|Bn<|Bn<|r_K<|Bn ?_
        exact Av (Bz Tryz.results112 (Bv rfl mM rfl) (Ag rfl)) (by exact ⟨t2,c2,_,_,0,bn,jn,rfl,rfl,.inr ⟨hgood.1,hgood.2,hA⟩⟩) sP
      · skip
        have he0:e≠0:=(by simpa using c76)
        refine Ad<|Aa fun ops=>oR (Ae rfl rfl rfl)<|oA rfl<|Ac<|n_K ?_
        refine Aj rfl (fun c91=> ?_) (fun c91=> ?_)
        · skip
          have he32:e=32:=(by simpa using c91)
          subst he32
          obtain ⟨s1,s2,s3,s4,s5,s6⟩:=Akr hl hJ hW
          refine Aa fun ops=>oM rfl<|oN rfl<|oF rfl ?_
          refine oR (show Rd _ _ _ _ (.int .i64 (jn:Nat)) from (by rw [← hnx];exact Al rfl mM (Fn (o:=4) hgb (by omega) rfl))) ?_
          refine oR (Ao rfl rfl (by omega)) ?_
          refine oN rfl<|oF rfl ?_
          refine Af (cs':=lbs (bs1.set bn { bAt bs1 bn with next:=(jn:Int)+1 })) rfl rfl uD rfl rfl (Ek (o:=4) hgb rfl) ?_
          refine Ac<|Az<|Az<|n_K ?_
          exact ⟨(nx+1,t2),⟨by simp only;omega,fun h9=>(by simp only;have:=g1 h9;omega),fun m h9 h8 h7=>(by by_cases e9:m=nx;(subst e9;rw [s1,A0c];exact s3);exact g2 m h9 h8 (by simp only at h7;omega)),s4⟩,(by simp only;omega),kP,kP,_,(by simp only;rw [← s6,← s5,s1];exact sP)⟩
        · skip
          have he32:e≠32:=(by simpa using c91)
          have hA:=Akq hl hJ g1 hW he0 he32
          refine Ad<|Aa fun ops=>oR (Bc rfl rfl)<|oM rfl ?_
          refine Af rfl rfl uD rfl rfl rfl ?_
          refine oA rfl<|Ac<|n_K<|An<|Bn<|Bn<|r_K<|Bn ?_
          exact Av (Bz Tryz.results112 (Bv rfl mM rfl) (Ag rfl)) (by exact ⟨t2,c2,bs1,_,e,0,0,rfl,rfl,.inr ⟨hgood.1,hgood.2,hA⟩⟩) sP
end
end
section
open Go.K
instance fld65_0:Fld Tryz.prog 65 0 0:=⟨⟨_,_,0,Tryz.underlying65,rfl,by kernel_rfl,rfl⟩⟩
instance fld65_1:Fld Tryz.prog 65 1 1:=⟨⟨_,_,0,Tryz.underlying65,rfl,by kernel_rfl,rfl⟩⟩
instance ent33:Ent Tryz.prog 33:=⟨fun _ _=>by kernel_rfl⟩
instance ent61:Ent Tryz.prog 61:=⟨fun _ _=>by kernel_rfl⟩
def Eb (p:Pg):By×List By×Int×Int:=if (Cg p).2.2.2=0∧(Cg p).1.toNat≤3 then (0,[],0,20) else Cg p
section
variable {d:Dsk} {n k:Nat} {q:Qt} {lg bb nb:Nat} {last:Int} {V:Nat→Blk} {bs:List LB}
theorem Aks (h:DD d n k V) {b j:Nat} (hb:b+6<n) (hj:j<8):Does Tryz.prog 61 [ptr lg,.agg #[.int .i64 (b:Nat),.int .i64 (j:Nat)]] ((lg,true,C (lgC d.dk bb nb last) tLg)::(dkH d++[]))
  (fun v H=>∃ s:Sl By,v= .tuple #[bv (Eb (A9 (V b) j)).1,s.val,.int .i64 (Eb (A9 (V b) j)).2.2.1,.int .i64 (Eb (A9 (V b) j)).2.2.2]∧H=s.hp tU8++((lg,true,C (lgC d.dk bb nb last) tLg)::(dkH d++[]))∧s.list=(Eb (A9 (V b) j)).2.1∧s.isOwn=true):=by
 have hrd:=Ii h hb hj
 refine Ah (n:=45) Tryz.func61 Tryz.ntmps61 rfl (Ay9 rfl)<|Ad<|Aa fun ops=> ?_
 refine De rfl rfl fun b3=> ?_
 refine oA rfl<|oA rfl<|oA rfl<|oA rfl<|Ac<|n_K<|Ad ?_
 refine N7 [] [(14,(.fork [(0,false),(1,false),(2,false),(3,false),(4,false),(5,false),(6,false),(7,false)] 8 (.one [(9,false),(10,false),(11,false),(12,true),(13,true)]) 12 (.one [(8,true),(9,false),(10,false),(11,false),(13,true)]))),(15,(.one [(14,false)]))] (by kernel_rfl) rfl fun ops w0 H0 y=> ?_
 refine Le ?_
 refine Lf ?_ rfl
 refine xM rfl<|xN rfl<|xF rfl ?_
 refine xR (Al rfl mM rfl) ?_
 refine xF rfl ?_
 refine xR (Al rfl mM rfl) ?_
 refine xF rfl ?_
 refine xR (Al rfl mM rfl) ?_
 refine Am ⟨⟨_,sP⟩,?_,?_⟩
 refine Be ?_
 refine A6 rfl ((I6 (d:=d) (b:=(b:Nat)) (k:=(j:Nat))).to (by rw [hrd.1,hrd.2]) rfl) sP rfl aQ ?_
 refine Ac ⟨rfl,⟨_,sP⟩,?_⟩
 refine Am ?_
 refine G1 ?_
 refine xM rfl<|xE rfl rfl<|xE rfl rfl<|Be ?_
 refine Aw rfl fun b8=> ?_
 rw [Cs]
 refine Ac ⟨rfl,⟨_,sP⟩,?_⟩
 refine Be ?_
 first | refine Af rfl rfl uD (Ct) (Ar) (B2 (by first | exact Ar | exact Azc ..)) ?_ | refine Af rfl rfl uD rfl rfl rfl ?_
 refine Ac ⟨rfl,⟨_,sP⟩,?_⟩
 refine Am ?_
 rotate_left
 refine Be ?_
 refine Aw rfl fun b8=> ?_
 rw [Cs]
 refine Ac ⟨rfl,⟨_,sP⟩,?_⟩
 refine Am ?_
 refine G1 ?_
 refine Be ?_
 refine A6 rfl ((I6 (d:=d) (b:=(b:Nat)) (k:=(j:Nat))).to (by rw [hrd.1,hrd.2]) rfl) sP rfl aQ ?_
 refine Ac ⟨rfl,⟨_,sP⟩,?_⟩
 refine xM rfl<|xE rfl rfl<|xE rfl rfl<|Be ?_
 first | refine Af rfl rfl uD (Ct) (Ar) (B2 (by first | exact Ar | exact Azc ..)) ?_ | refine Af rfl rfl uD rfl rfl rfl ?_
 refine Ac ⟨rfl,⟨_,sP⟩,?_⟩
 refine Am ?_
 rotate_left
 all_goals
  refine Le ?_
  refine G1 ?_
  refine xA rfl<|Am ?_
  refine S5 ?_
  refine n_K<|Ad<|Ad<|Aa fun ops=>oM rfl<|oR (Ae rfl rfl rfl)<|Ac<|n_K ?_
  refine Bi rfl ?_
  refine Ai<|n_K<|Ad<|Aa fun ops=> ?_
  refine oR (Au rfl mM (by first | exact Bg | rfl)) ?_
  refine Bd rfl (La (p:=A9 (V b) j)) sP rfl fun v30 Y30 h30=> ?_
  obtain ⟨s,rfl,rfl,hs,ho⟩:=h30
  refine Ay aQ ?_
  refine oM rfl<|oE rfl rfl<|oE rfl rfl<|oE rfl rfl<|oE rfl rfl<|oA rfl<|oA rfl<|oA rfl<|oA rfl<|Ac<|n_K<|Ad<|Ad ?_
  refine Bf [(2,37)] rfl fun ops y=> ?_
  refine oM rfl<|oR (Ae rfl rfl rfl)<|oM rfl ?_
  refine' Df (j:=2) (k:=2) y rfl rfl rfl rfl rfl rfl rfl (fun hg37=> ?_) ?_
  rotate_left
  ·try (simp at hg37;show _)
   refine o_g y rfl rfl ?_
   refine oM rfl ?_
   refine o_g y rfl rfl ?_
   refine oR (Ae rfl rfl rfl) ?_
   exact Ac ⟨rfl,rfl,⟨_,sP⟩⟩
  refine Ac<|n_K ?_
  refine Aj rfl (fun c40=> ?_) (fun c40=> ?_)
  ·simp only [A0r,Azf,A0d,Ayz] at c40
   have hg:Eb (A9 (V b) j)=(0,[],0,20):=(by unfold Eb;rw [A25 ⟨c40.1,by omega⟩])
   refine Ad<|Aa fun ops=>oA rfl<|oA rfl<|oA rfl<|oA rfl<|Ac<|n_K<|An<|r_K ?_
   exact Av (Om Tryz.results61 (Ag rfl) (Ag rfl) (Ag rfl) (Ag rfl)) (by exact ⟨Sl.nil,by rw [hg];rfl,rfl,by rw [hg];rfl,rfl⟩) (by rw [Sl.hp_nil,A1k];exact sP)
  ·simp only [A0r,Azf,A0d,Ayz] at c40
   have hg:Eb (A9 (V b) j)=Cg (A9 (V b) j):=(by unfold Eb;rw [A26 (by rintro ⟨h1,h2⟩;rcases c40 with h3 | h3;exact h3 h1;omega)])
   refine Ai<|n_K<|Ad<|Aa fun ops=>oM rfl<|oM rfl<|oM rfl<|oM rfl<|oA rfl<|oA rfl<|oA rfl<|oA rfl<|Ac<|n_K ?_
   refine An ?_
   exact Av (Om Tryz.results61 (Ag rfl) (Ag rfl) (Ag rfl) (Ag rfl)) (by exact ⟨s,by rw [hg],rfl,by rw [hg];exact hs,ho⟩) sP
def Cb (bs:List LB):Nat→Nat
 | 0=>0
 | k+1=>Cb bs k+(if (bAt bs k).seq.toNat=0 then 1 else 0)
theorem Sw (bs:List LB):∀ k,Cb bs k≤k
 | 0=>A2q _
 | k+1=>by have:=Sw bs k;unfold Cb;split <;> omega
theorem Apy (hl:bs.length=nb) (hn:nb≤1000):Does Tryz.prog 33 [ptr lg] ((lg,true,C (lgC d.dk bb nb last) tLg)::(bb,true,C (lbs bs) tLB)::[])
  (Is (.int .i64 (Cb bs nb:Nat)) ((lg,true,C (lgC d.dk bb nb last) tLg)::(bb,true,C (lbs bs) tLB)::[])):=by
 refine Ah (n:=21) Tryz.func33 Tryz.ntmps33 rfl (Ay9 rfl)<|Ad<|Aa fun ops=>oA rfl<|Ac<|n_K<|Ad<|Ad<|Aa fun ops=>oM rfl<|oN rfl<|oF rfl ?_
 refine oR (Al rfl mM rfl) ?_
 refine oR (A7 rfl)<|oM rfl<|Ac<|n_K<|Ak ?_
 refine A8 [0,8,9] kQ (fun (i:Nat)=>[(10,.int .i64 i),(2,.int .i64 (Cb bs i:Nat))]) (fun (i:Nat)=>(lg,true,C (lgC d.dk bb nb last) tLg)::(bb,true,C (lbs bs) tLB)::[]) (fun (i:Nat)=>i≤nb) (fun (i:Nat)=>nb - i) (0) (A2r _) kP sP ?_
 rintro i g0
 refine Ad<|Aa fun ops=>oR (Ae rfl rfl rfl)<|Ac<|n_K<|Ad ?_
 refine Aj rfl (fun c11=> ?_) (fun c11=> ?_)
 ·simp only [A0d,Ayz] at c11
  have hi:i<nb:=(by omega)
  have hgi:bs[i]? =some (bAt bs i):=Ep (by omega)
  have hfl:=Sw bs i
  refine Ai<|n_K<|Ad<|Ak<|Ad<|Aa fun ops=> ?_
  refine oR (Cp rfl rfl (by omega)) ?_
  refine oR (Au rfl mM (by simp only [A0c];exact Pv hgi)) ?_
  refine Aw rfl fun b4=> ?_
  refine Af rfl rfl uD rfl rfl rfl ?_
  refine Ac<|n_K<|Ad<|Aa fun ops=>oF rfl ?_
  refine oR (Al rfl mM rfl) ?_
  refine oR (Ae rfl rfl rfl)<|Ac<|n_K ?_
  refine Aj rfl (fun c16=> ?_) (fun c16=> ?_)
  ·simp only [A0d,Ayz] at c16
   have hfT:((Cb bs (i+1):Nat):Int)=(Cb bs i:Nat)+1:=(by show ((Cb bs i+(if (bAt bs i).seq.toNat=0 then 1 else 0):Nat):Int)=_;rw [A25 (by omega)];omega)
   refine Aa fun ops=>oM rfl ?_
   refine oR (Ao rfl rfl (by omega)) ?_
   refine oA rfl<|Ac<|Az<|n_K<|Aa fun ops=> ?_
   refine oR (Ao rfl rfl (by omega)) ?_
   refine oM rfl<|Ac<|n_K ?_
   first | exact ⟨i+1,by omega,by omega,(by rw [hfT];exact kP),kP,_,sP⟩ | exact ⟨i+1,by omega,by omega,(by rw [hfF];exact kP),kP,_,sP⟩
  ·simp only [A0d,Ayz] at c16
   have hfF:((Cb bs (i+1):Nat):Int)=(Cb bs i:Nat):=(by show ((Cb bs i+(if (bAt bs i).seq.toNat=0 then 1 else 0):Nat):Int)=_;rw [A26 (by omega)];omega)
   refine Ai<|Az<|n_K<|Aa fun ops=> ?_
   refine oR (Ao rfl rfl (by omega)) ?_
   refine oM rfl<|Ac<|n_K ?_
   first | exact ⟨i+1,by omega,by omega,(by rw [hfT];exact kP),kP,_,sP⟩ | exact ⟨i+1,by omega,by omega,(by rw [hfF];exact kP),kP,_,sP⟩
 ·simp only [A0d,Ayz] at c11
  have hi:i=nb:=(by omega)
  subst hi
  refine Bb<|x_K<|x_K<|Bj<|n_K<|Ad<|Aa fun ops=>oM rfl<|oA rfl<|Ac<|n_K<|An ?_
  refine Aq (At Tryz.results33 (Ag rfl)) ?_ sP
  rfl
def Aw2 (v:Blk):Nat→Int
 | 0=>0
 | j+1=>Aw2 v j+(if (Cg (A9 v j)).2.2.2=0 then (Cg (A9 v j)).2.2.1 else 0)
def N1 (bs:List LB) (b:Int):Bool:=decide (0≤b) && decide (b<bs.length) && decide ((bAt bs b.toNat).seq.toNat≠0)
end
end
section
open Go.K
instance ent165:Ent Tryz.prog 165:=⟨fun _ _=>by kernel_rfl⟩
theorem Aw5 (d:Dat) (chk:Nat):0≤(Dn d chk).2.1∧(Dn d chk).2.1≤1:=by
 unfold Dn
 simp only []
 split
 ·exact ⟨by simp,by simp⟩
 ·split
  ·exact ⟨by simp,by simp⟩
  ·split
   ·exact ⟨by simp,by simp⟩
   ·split <;> exact ⟨by simp,by simp⟩
theorem Aw4 (p:Pg):0≤(Cg p).2.2.1∧(Cg p).2.2.1≤2:=by
 unfold Cg
 simp only []
 split
 ·exact ⟨by simp,by simp⟩
 ·split
  ·exact ⟨by simp,by simp⟩
  ·split
   ·exact ⟨by simp,by simp⟩
   ·split
    ·exact ⟨by simp,by simp⟩
    ·have:=Aw5 (If p) (D1 p)
     simp only
     omega
theorem Aw3 (v:Blk):∀ j,0≤Aw2 v j∧Aw2 v j≤2*j
 | 0=>⟨A2p _,A2p _⟩
 | j+1=>by
  have ih:=Aw3 v j
  have:=Aw4 (A9 v j)
  unfold Aw2
  split <;> omega
section
variable {d:Dsk} {n k:Nat} {q:Qt} {lg bb nb:Nat} {last:Int} {V:Nat→Blk} {bs:List LB}
theorem Awm (h:DD d n k V) (hnb:nb+6=n) (hl:bs.length=nb) {b:Int}:Does Tryz.prog 121 [ptr lg,.int .i64 b] ((lg,true,C (lgC d.dk bb nb last) tLg)::(bb,true,C (lbs bs) tLB)::(dkH d++[]))
  (Is (.tuple #[.int .i64 (if N1 bs b=true then Aw2 (V b.toNat) 8 else 0),.int .i64 (if N1 bs b=true then 0 else 1)]) ((lg,true,C (lgC d.dk bb nb last) tLg)::(bb,true,C (lbs bs) tLB)::(dkH d++[]))):=by
 refine Ah (n:=65) Tryz.func121 Tryz.ntmps121 rfl (Ay9 rfl)<|Ad<|Aa fun ops=>oA rfl<|oA rfl<|Ac<|n_K<|Ad<|Ad ?_
 refine Bf [(2,15),(11,24)] rfl fun ops y=> ?_
 refine oM rfl<|oR (Ae rfl rfl rfl)<|oM rfl ?_
 refine' Es (j:=2) (k:=7) y rfl rfl rfl rfl rfl rfl rfl (fun hg15=> ?_) ?_
 rotate_left
 ·try (simp at hg15;show _)
  refine o_g y rfl rfl ?_
  refine oM rfl ?_
  refine o_g y rfl rfl ?_
  refine oM rfl ?_
  refine o_g y rfl rfl ?_
  refine oN rfl ?_
  refine o_g y rfl rfl ?_
  refine oF rfl ?_
  refine o_g y rfl rfl ?_
  refine oR (Al rfl mM rfl) ?_
  refine o_g y rfl rfl ?_
  refine oR (A7 rfl) ?_
  refine o_g y rfl rfl ?_
  refine oR (Ae rfl rfl rfl) ?_
  exact Ac ⟨rfl,rfl,⟨_,sP⟩⟩
 refine oM rfl ?_
 refine' Es (j:=11) (k:=9) y rfl rfl rfl rfl rfl rfl rfl (fun hg24=> ?_) ?_
 rotate_left
 ·try (simp at hg24;show _)
  refine o_g y rfl rfl ?_
  refine oM rfl ?_
  refine o_g y rfl rfl ?_
  refine oN rfl ?_
  refine o_g y rfl rfl ?_
  refine oF rfl ?_
  refine o_g y rfl rfl ?_
  refine oR (Al rfl mM rfl) ?_
  refine o_g y rfl rfl ?_
  refine oM rfl ?_
  refine o_g y rfl rfl ?_
  refine oR (Cp rfl rfl (by omega)) ?_
  refine o_g y rfl rfl ?_
  refine oF rfl ?_
  refine o_g y rfl rfl ?_
  refine oR (show Rd _ _ _ _ (wv (bAt bs b.toNat).seq) from Al rfl mM (Fn (o:=2) (Ep (by omega)) (by omega) rfl)) ?_
  refine o_g y rfl rfl ?_
  refine oR (Ae rfl rfl rfl) ?_
  exact Ac ⟨rfl,rfl,⟨_,sP⟩⟩
 refine Ac<|n_K ?_
 refine Aj rfl (fun c34=> ?_) (fun c34=> ?_)
 ·simp only [A1b,Azp,A0d,Ayz] at c34
  have hsg:N1 bs b=false:=(by unfold N1;simp;intro h1 h2;omega)
  refine Ad<|Aa fun ops=>oA rfl<|oA rfl<|Ac<|n_K<|An<|r_K ?_
  refine Aq (Bz Tryz.results121 (Ag rfl) (Ag rfl)) ?_ sP
  rw [hsg];rfl
 ·simp only [A1b,Azp,A0d,Ayz] at c34
  have hsg:N1 bs b=true:=(by unfold N1;simp;omega)
  obtain ⟨bN,rfl⟩:∃ bN:Nat,b=bN:=⟨b.toNat,by omega⟩
  refine Ai<|n_K<|Ad<|Ad<|Aa fun ops=>oM rfl<|Ac<|n_K<|Ak ?_
  refine A8 [0,1] kQ (fun (i:Nat)=>[(35,.int .i64 i),(4,.int .i64 (Aw2 (V bN) i))]) (fun (i:Nat)=>(lg,true,C (lgC d.dk bb nb last) tLg)::(bb,true,C (lbs bs) tLB)::(dkH d++[])) (fun (i:Nat)=>i≤8) (fun (i:Nat)=>8 - i) (0) (A2r _) kP sP ?_
  rintro i g0
  refine Ad<|Aa fun ops=>oR (Ae rfl rfl rfl)<|Ac<|n_K<|Ad ?_
  refine Aj rfl (fun c36=> ?_) (fun c36=> ?_)
  ·simp only [A0d,Ayz] at c36
   have hi:i<8:=(by omega)
   have hrd:=Ii h (b:=bN) (j:=i) (by omega) hi
   have hml:=Aw3 (V bN) i
   have hrn:=Aw4 (A9 (V bN) i)
   refine Ai<|n_K<|Ad<|Ak<|Ad<|Aa fun ops=>oM rfl<|oA rfl<|Ac<|n_K<|Ad<|Aa fun ops=>oM rfl<|oN rfl ?_
   refine oF rfl ?_
   refine oR (Al rfl mM rfl) ?_
   refine oM rfl<|oM rfl ?_
   refine A6 rfl ((I6 (d:=d) (b:=(bN:Nat)) (k:=(i:Nat))).to (by rw [hrd.1,hrd.2]) rfl) sP rfl aQ ?_
   refine oM rfl<|oE rfl rfl<|oE rfl rfl ?_
   refine Aw rfl fun b7=> ?_
   rw [Cs]
   first | refine Af rfl rfl uD (Ct) (Ar) (B2 (by first | exact Ar | exact Azc ..)) ?_ | refine Af rfl rfl uD rfl rfl rfl ?_
   refine oA rfl<|Ac<|n_K<|Ad<|Ad<|Aa fun ops=>oM rfl<|oR (Ae rfl rfl rfl)<|Ac<|n_K ?_
   refine Bi rfl ?_
   refine Ai<|n_K<|Ad<|Aa fun ops=> ?_
   refine oR (Au rfl mM (by first | exact Bg | rfl)) ?_
   refine Bd rfl (La (p:=A9 (V bN) i)) sP rfl fun v53 Y53 h53=> ?_
   obtain ⟨s,rfl,rfl,hs,ho⟩:=h53
   refine Ay aQ ?_
   refine oM rfl<|oE rfl rfl<|oE rfl rfl<|oE rfl rfl<|oE rfl rfl<|oA rfl<|oA rfl<|oA rfl<|oA rfl<|Ac<|n_K<|Ad<|Aa fun ops=>oM rfl ?_
   refine oR (Ae rfl rfl rfl)<|Ac<|n_K ?_
   refine Aj rfl (fun c59=> ?_) (fun c59=> ?_)
   ·simp only [A0d,Ayz] at c59
    have hmT:Aw2 (V bN) (i+1)=Aw2 (V bN) i+(Cg (A9 (V bN) i)).2.2.1:=(by show Aw2 (V bN) i+(if (Cg (A9 (V bN) i)).2.2.2=0 then (Cg (A9 (V bN) i)).2.2.1 else 0)=_;rw [A25 c59])
    refine Aa fun ops=>oM rfl<|oM rfl ?_
    refine oR (Ao rfl rfl (by omega)) ?_
    refine oA rfl<|Ac<|Az<|n_K<|Aa fun ops=> ?_
    refine oR (Ao rfl rfl (by omega)) ?_
    refine oM rfl<|Ac<|n_K ?_
    first | exact ⟨i+1,by omega,by omega,(by rw [hmT];exact kP),kP,_,sP⟩ | exact ⟨i+1,by omega,by omega,(by rw [hmF];exact kP),kP,_,sP⟩
   ·simp only [A0d,Ayz] at c59
    have hmF:Aw2 (V bN) (i+1)=Aw2 (V bN) i:=(by show Aw2 (V bN) i+(if (Cg (A9 (V bN) i)).2.2.2=0 then (Cg (A9 (V bN) i)).2.2.1 else 0)=_;rw [A26 c59];omega)
    refine Ai<|Az<|n_K<|Aa fun ops=> ?_
    refine oR (Ao rfl rfl (by omega)) ?_
    refine oM rfl<|Ac<|n_K ?_
    first | exact ⟨i+1,by omega,by omega,(by rw [hmT];exact kP),kP,_,sP⟩ | exact ⟨i+1,by omega,by omega,(by rw [hmF];exact kP),kP,_,sP⟩
  ·simp only [A0d,Ayz] at c36
   have hi:i=8:=(by omega)
   subst hi
   refine Bb<|x_K<|x_K<|Bj<|n_K<|Ad<|Aa fun ops=>oM rfl<|oA rfl<|oA rfl<|Ac<|n_K<|An ?_
   refine Aq (Bz Tryz.results121 (Ag rfl) (Ag rfl)) ?_ sP
   rw [hsg];rfl
def As3 (n nb k:Nat) (q:Qt) (V:Nat→Blk) (bs:List LB) (last b:Int) (c:Chip) (t:TS) (bs':List LB) (last' e:Int) (t':TS) (c':Chip):Prop :=
 (N1 bs b=false∧e=1∧bs'=bs∧last'=last∧t'=t∧c'=c) ∨
 (N1 bs b=true∧Akj n nb k q V b.toNat bs c bs' e t' c'∧(e=0→last'=if b=last then Dw bs' nb else last))
theorem Apz (h:DD d n k V) (hk:k≤600000000000) (hq:q.n≤3) (hacc:Acc q d.c d.t.ts) (hnb:nb+6=n) (hl:bs.length=nb) {b:Int} :
  Does Tryz.prog 165 [ptr lg,.int .i64 b] ((lg,true,C (lgC d.dk bb nb last) tLg)::(bb,true,C (lbs bs) tLB)::(dkH d++[]))
  (fun v H=>∃ (t':Tab) (c':Chip) (bs':List LB) (last' e:Int),v= .int .i64 e∧H=(lg,true,C (lgC d.dk bb nb last') tLg)::(bb,true,C (lbs bs') tLB)::(dkH ⟨d.dk,t',c'⟩++[])∧As3 n nb (k+40) q V bs last b d.c d.t.ts bs' last' e t'.ts c'):=by
 have hn40:=h.di.wf.n2
 refine Ah (n:=86) Tryz.func165 Tryz.ntmps165 rfl (Ay9 rfl)<|Ad<|Aa fun ops=>oA rfl<|Ac<|n_K<|Ad<|Ad ?_
 refine Bf [(2,10),(11,19)] rfl fun ops y=> ?_
 refine oM rfl<|oR (Ae rfl rfl rfl)<|oM rfl ?_
 refine' Es (j:=2) (k:=7) y rfl rfl rfl rfl rfl rfl rfl (fun hg10=> ?_) ?_
 rotate_left
 ·try (simp at hg10;show _)
  refine o_g y rfl rfl ?_
  refine oM rfl ?_
  refine o_g y rfl rfl ?_
  refine oM rfl ?_
  refine o_g y rfl rfl ?_
  refine oN rfl ?_
  refine o_g y rfl rfl ?_
  refine oF rfl ?_
  refine o_g y rfl rfl ?_
  refine oR (Al rfl mM rfl) ?_
  refine o_g y rfl rfl ?_
  refine oR (A7 rfl) ?_
  refine o_g y rfl rfl ?_
  refine oR (Ae rfl rfl rfl) ?_
  exact Ac ⟨rfl,rfl,⟨_,sP⟩⟩
 refine oM rfl ?_
 refine' Es (j:=11) (k:=9) y rfl rfl rfl rfl rfl rfl rfl (fun hg19=> ?_) ?_
 rotate_left
 ·try (simp at hg19;show _)
  refine o_g y rfl rfl ?_
  refine oM rfl ?_
  refine o_g y rfl rfl ?_
  refine oN rfl ?_
  refine o_g y rfl rfl ?_
  refine oF rfl ?_
  refine o_g y rfl rfl ?_
  refine oR (Al rfl mM rfl) ?_
  refine o_g y rfl rfl ?_
  refine oM rfl ?_
  refine o_g y rfl rfl ?_
  refine oR (Cp rfl rfl (by omega)) ?_
  refine o_g y rfl rfl ?_
  refine oF rfl ?_
  refine o_g y rfl rfl ?_
  refine oR (show Rd _ _ _ _ (wv (bAt bs b.toNat).seq) from Al rfl mM (Fn (o:=2) (Ep (by omega)) (by omega) rfl)) ?_
  refine o_g y rfl rfl ?_
  refine oR (Ae rfl rfl rfl) ?_
  exact Ac ⟨rfl,rfl,⟨_,sP⟩⟩
 refine Ac<|n_K ?_
 refine Aj rfl (fun c29=> ?_) (fun c29=> ?_)
 ·simp only [A1b,Azp,A0d,Ayz] at c29
  have hsg:N1 bs b=false:=(by unfold N1;simp;intro h1 h2;omega)
  refine Ad<|Aa fun ops=>oA rfl<|Ac<|n_K<|An<|r_K ?_
  exact Av (At Tryz.results165 (Ag rfl)) (by exact ⟨d.t,d.c,bs,last,1,rfl,rfl,.inl ⟨hsg,rfl,rfl,rfl,rfl,rfl⟩⟩) sP
 ·simp only [A1b,Azp,A0d,Ayz] at c29
  have hsg:N1 bs b=true:=(by unfold N1;simp;omega)
  obtain ⟨bN,rfl⟩:∃ bN:Nat,b=bN:=⟨b.toNat,by omega⟩
  have hbN:bN<nb:=(by omega)
  refine Ai<|n_K<|Ad<|Ad<|Aa fun ops=>oM rfl<|oM rfl ?_
  refine Bd rfl (Nz (d:=d) (bb:=bb) (last:=last) h hk hq hacc (b:=bN) (bs:=bs) hnb hl hbN) sP rfl fun v32 Y32 h32=> ?_
  obtain ⟨t1,c1,bs1,e1,rfl,rfl,hW⟩:=h32
  have hb1:=hW.1
  refine Ay aQ ?_
  refine oA rfl<|Ac<|n_K<|Ad<|Aa fun ops=>oM rfl<|oR (Ae rfl rfl rfl)<|Ac<|n_K ?_
  refine Aj rfl (fun c34=> ?_) (fun c34=> ?_)
  ·skip
   have he1:e1≠0:=(by simpa using c34)
   refine Ad<|Aa fun ops=>oM rfl<|oA rfl<|Ac<|n_K<|An<|r_K ?_
   exact Av (At Tryz.results165 (Ag rfl)) (by exact ⟨t1,c1,bs1,last,e1,rfl,rfl,.inr ⟨hsg,hW,fun h9=>absurd h9 he1⟩⟩) sP
  ·skip
   have he1:e1=0:=(by simpa using c34)
   refine Ai<|n_K<|Ad<|Ad<|Aa fun ops=>oM rfl<|oM rfl<|oN rfl<|oF rfl ?_
   refine oR (Al rfl mM rfl) ?_
   refine oR (Ae rfl rfl rfl)<|Ac<|n_K ?_
   refine Aj rfl (fun c41=> ?_) (fun c41=> ?_)
   ·simp only [A0d,Ayz] at c41
    refine Ad<|Aa fun ops=>oM rfl<|oN rfl<|oF rfl ?_
    refine Af rfl rfl uD rfl rfl rfl ?_
    refine Ac<|n_K<|Ad<|Aa fun ops=>oM rfl<|oN rfl<|oF rfl ?_
    refine oR (Al rfl mM rfl) ?_
    refine oR (A7 rfl)<|oM rfl<|Ac<|n_K<|Ak ?_
    refine A8 [0,48,49] kQ (fun (st:Nat×Int)=>[(50,.int .i64 st.1)]) (fun (st:Nat×Int)=>(lg,true,C (lgC d.dk bb nb st.2) tLg)::(bb,true,C (lbs bs1) tLB)::(dkH ⟨d.dk,t1,c1⟩++[])) (fun (st:Nat×Int)=>st.1≤nb∧st.2=Dw bs1 st.1) (fun (st:Nat×Int)=>nb - st.1) ((0,-1)) ⟨A2r _,rfl⟩ kP sP ?_
    rintro ⟨i,la⟩ ⟨g0,g1⟩
    simp only at g0 g1
    refine Ad<|Aa fun ops=>oR (Ae rfl rfl rfl)<|Ac<|n_K<|Ad ?_
    refine Aj rfl (fun c51=> ?_) (fun c51=> ?_)
    ·simp only [A0d,Ayz] at c51
     have hi:i<nb:=(by omega)
     have hgi:bs1[i]? =some (bAt bs1 i):=Ep (by omega)
     have hrg:=Px bs1 i
     refine Ai<|n_K<|Ad<|Ak<|Ad<|Aa fun ops=>oM rfl ?_
     refine oR (Cp rfl rfl (by omega)) ?_
     refine oR (Au rfl mM (by simp only [A0c];exact Pv hgi)) ?_
     refine Aw rfl fun b7=> ?_
     refine oA rfl ?_
     refine Af rfl rfl uD rfl rfl rfl ?_
     refine Ac<|n_K<|Ad ?_
     refine s_draw [(3,58),(9,64)] [(26,[(0,false),(1,false),(2,false),(3,false),(4,false),(5,false),(6,false),(7,false),(8,false),(9,false),(10,false),(11,false),(12,false),(13,false),(14,false),(15,false),(16,false),(17,false),(18,false),(19,false),(20,false),(21,false),(22,false),(23,false),(24,false),(25,false)])] (by kernel_rfl) rfl fun ops w0 H0 y=> ?_
     refine A4<|xF rfl ?_
     refine xR (Al rfl mM rfl) ?_
     refine xR (Ae rfl rfl rfl)<|xM rfl ?_
     refine' Hx (j:=3) (k:=21) y rfl rfl rfl rfl rfl rfl rfl (fun hg58=> ?_) ?_
     rotate_left
     ·try (simp at hg58;show _)
      refine x_g y rfl rfl ?_
      refine xM rfl ?_
      refine x_g y rfl rfl ?_
      refine xN rfl ?_
      refine x_g y rfl rfl ?_
      refine xF rfl ?_
      refine x_g y rfl rfl ?_
      refine xR (Al rfl mM rfl) ?_
      refine x_g y rfl rfl ?_
      refine xR (Ae rfl rfl rfl) ?_
      refine x_g y rfl rfl ?_
      refine xM rfl ?_
      refine' Qa (j:=9) (k:=14) y rfl rfl rfl rfl rfl rfl rfl (fun hg64=> ?_) ?_
      rotate_left
      ·try (simp at hg64;show _)
       refine x_g y rfl rfl ?_
       refine xF rfl ?_
       refine x_g y rfl rfl ?_
       refine xR (Al rfl mM rfl) ?_
       refine x_g y rfl rfl ?_
       refine xM rfl ?_
       refine x_g y rfl rfl ?_
       refine xN rfl ?_
       refine x_g y rfl rfl ?_
       refine xF rfl ?_
       refine x_g y rfl rfl ?_
       refine xR (Al rfl mM rfl) ?_
       refine x_g y rfl rfl ?_
       refine xM rfl ?_
       refine x_g y rfl rfl ?_
       refine xN rfl ?_
       refine x_g y rfl rfl ?_
       refine xF rfl ?_
       refine x_g y rfl rfl ?_
       refine xR (Al rfl mM rfl) ?_
       refine x_g y rfl rfl ?_
       refine xR (Cp rfl rfl (by omega)) ?_
       refine x_g y rfl rfl ?_
       refine xF rfl ?_
       refine x_g y rfl rfl ?_
       refine xR (show Rd _ _ _ _ (wv (bAt bs1 la.toNat).seq) from Al rfl mM (Fn (o:=2) (Ep (by omega)) (by omega) rfl)) ?_
       refine x_g y rfl rfl ?_
       refine xR (Ae rfl rfl rfl) ?_
       exact Am ⟨rfl,⟨_,sP⟩⟩
      exact Am ⟨rfl,⟨_,sP⟩⟩
     refine Am<|Bm<|n_K ?_
     refine Aj rfl (fun c80=> ?_) (fun c80=> ?_)
     ·simp only [A0r,A1b,Azf,Azp,A0d,Ayz] at c80
      have hlT:(i:Int)=Dw bs1 (i+1):=(by unfold Dw;rw [← g1,A25 ⟨by omega,by rcases c80.2 with h9 | h9;exact .inl h9;exact .inr (by omega)⟩])
      refine Aa fun ops=>oM rfl<|oM rfl<|oN rfl<|oF rfl ?_
      refine Af rfl rfl uD rfl rfl rfl ?_
      refine Ac<|Az<|n_K<|Aa fun ops=> ?_
      refine oR (Ao rfl rfl (by omega)) ?_
      refine oM rfl<|Ac<|n_K ?_
      first | exact ⟨(i+1,(i:Int)),⟨by simp only;omega,hlT⟩,by simp only;omega,lZ⟩ | exact ⟨(i+1,la),⟨by simp only;omega,hlF⟩,by simp only;omega,lZ⟩
     ·simp only [A0r,A1b,Azf,Azp,A0d,Ayz] at c80
      have hlF:la=Dw bs1 (i+1):=(by unfold Dw;rw [← g1,A26 (by rintro ⟨h8,h9⟩;rcases c80 with h7 | ⟨h6,h7⟩;omega;rcases h9 with h9 | h9;exact h6 h9;omega)])
      refine Ai<|Az<|n_K<|Aa fun ops=> ?_
      refine oR (Ao rfl rfl (by omega)) ?_
      refine oM rfl<|Ac<|n_K ?_
      first | exact ⟨(i+1,(i:Int)),⟨by simp only;omega,hlT⟩,by simp only;omega,lZ⟩ | exact ⟨(i+1,la),⟨by simp only;omega,hlF⟩,by simp only;omega,lZ⟩
    ·simp only [A0d,Ayz] at c51
     have hi:i=nb:=(by omega)
     subst hi
     refine Bb<|x_K<|x_K<|Bj<|n_K<|Ad<|Aa fun ops=>oA rfl<|Ac<|n_K<|An ?_
     exact Av (At Tryz.results165 (Ag rfl)) (by exact ⟨t1,c1,bs1,la,0,rfl,rfl,.inr ⟨hsg,by rw [← he1];exact hW,fun _=>by rw [A25 c41];exact g1⟩⟩) sP
   ·simp only [A0d,Ayz] at c41
    refine Ai<|n_K<|Ad<|Aa fun ops=>oA rfl<|Ac<|n_K<|An ?_
    exact Av (At Tryz.results165 (Ag rfl)) (by exact ⟨t1,c1,bs1,last,0,rfl,rfl,.inr ⟨hsg,by rw [← he1];exact hW,fun _=>by rw [A26 c41]⟩⟩) sP
end
end
section
open Go.K
instance ent116:Ent Tryz.prog 116:=⟨fun _ _=>by kernel_rfl⟩
section
variable {n k:Nat} {q:Qt} {lg bb nb:Nat} {last:Int} {bs:List LB} {dk:Nat}
theorem Ap0 {I:Nat→Hp→Prop} {l f0 D:Nat} {tm:Array Value} {ps:Array Tmp} {sg bd:Code} {X0:Hp} (hl:bs.length=nb) (hn:nb≤1000) (hps:ps.size=1) (h0:I 0 X0)
  (hskip:∀ j X,j<nb→(bAt bs j).seq.toNat=0→I j X→I (j+1) X)
  (hrnd:∀ j X,j<nb→(bAt bs j).seq.toNat≠0→I j X→Rnd Tryz.prog l f0 (F9 ⟨.ready,none,f0,tm,ps,sg,bd,D⟩ [.int .i64 (j:Nat)]) sg bd ((l,true,.loop ⟨.ready,none,f0,tm,ps,sg,bd,D⟩)::(lg,true,C (lgC dk bb nb last) tLg)::(bb,true,C (lbs bs) tLB)::(X++[]))
   (fun v Y=>v= .bool true∧∃ X',Y=(l,true,.loop ⟨.ready,none,f0,tm,ps,sg,bd,D⟩)::(lg,true,C (lgC dk bb nb last) tLg)::(bb,true,C (lbs bs) tLB)::(X'++[])∧I (j+1) X')) :
  Does Tryz.prog 116 [ptr lg,.func (.yield l) #[] #[]] ((l,true,.loop ⟨.ready,none,f0,tm,ps,sg,bd,D⟩)::(lg,true,C (lgC dk bb nb last) tLg)::(bb,true,C (lbs bs) tLB)::(X0++[]))
   (fun v Y=>v= .tuple #[]∧∃ X,Y=(l,true,.loop ⟨.ready,none,f0,tm,ps,sg,bd,D⟩)::(lg,true,C (lgC dk bb nb last) tLg)::(bb,true,C (lbs bs) tLB)::(X++[])∧I nb X):=by
 refine Ah (n:=26) Tryz.func116 Tryz.ntmps116 rfl (Ay9 rfl)<|Ad<|Aa fun ops=>oM rfl<|oN rfl<|oF rfl ?_
 refine oR (Al rfl mM rfl) ?_
 refine oR (A7 rfl)<|oM rfl<|Ac<|n_K<|Ak ?_
 refine A8 [1,9,10] kQ (fun (st:Nat×Hp)=>[(11,.int .i64 st.1)]) (fun (st:Nat×Hp)=>(l,true,.loop ⟨.ready,none,f0,tm,ps,sg,bd,D⟩)::(lg,true,C (lgC dk bb nb last) tLg)::(bb,true,C (lbs bs) tLB)::(st.2++[])) (fun (st:Nat×Hp)=>st.1≤nb∧I st.1 st.2) (fun (st:Nat×Hp)=>nb - st.1) ((0,X0)) ⟨A2r _,h0⟩ kP sP ?_
 rintro ⟨i,X⟩ ⟨g0,gI⟩
 simp only at g0 gI
 refine Ad<|Aa fun ops=>oR (Ae rfl rfl rfl)<|Ac<|n_K<|Ad ?_
 refine Aj rfl (fun c12=> ?_) (fun c12=> ?_)
 ·simp only [A0d,Ayz] at c12
  have hi:i<nb:=(by omega)
  have hgi:bs[i]? =some (bAt bs i):=Ep (by omega)
  refine Ai<|n_K<|Ad<|Ak<|Ad<|Aa fun ops=>oM rfl ?_
  refine oR (Cp rfl rfl (by omega)) ?_
  refine oR (Au rfl mM (by simp only [A0c];exact Pv hgi)) ?_
  refine Aw rfl fun b5=> ?_
  refine oA rfl ?_
  refine Af rfl rfl uD rfl rfl rfl ?_
  refine Ac<|n_K ?_
  refine P4 (fun F L=>∃ X',F=[(1,.func (.yield l) #[] #[]),(9,.slice (some ⟨bb,0,none⟩) nb nb),(10,.int .i64 nb),(11,.int .i64 i),(24,.bool false)]∧L=(l,true,.loop ⟨.ready,none,f0,tm,ps,sg,bd,D⟩)::(lg,true,C (lgC dk bb nb last) tLg)::(bb,true,C (lbs bs) tLB)::(X'++[])∧I (i+1) X') ?_ ?_
  ·refine P5 [(3,19)] rfl (fun ops y=>Lm 4 ?_)
   refine oF rfl ?_
   refine oR (Al rfl mM rfl) ?_
   refine oR (Ae rfl rfl rfl)<|oM rfl<|Ac ⟨rfl,?_⟩
   by_cases hq:(bAt bs i).seq.toNat=0
   ·refine As6 (F:=[(1,.func (.yield l) #[] #[]),(9,.slice (some ⟨bb,0,none⟩) nb nb),(10,.int .i64 nb),(11,.int .i64 i),(4,.int .i64 i),(19,.bool false)] ) (.cons rfl<| .cons rfl<| .cons rfl<| .cons rfl<| .cons rfl<| .cons (by show some (Value.bool (decide _))=_;rw [A1o (by omega)]) .nil) ?_
    refine Lm 5 ?_
    refine Aqf y rfl rfl rfl rfl<|Aqf y rfl rfl rfl rfl<|Aqf y rfl rfl rfl rfl<|Aqf y rfl rfl rfl rfl<|oR (Alk rfl rfl)<|Ac ⟨rfl,Afg<|n_K ?_⟩
    exact ⟨_,_,⟨X,rfl,rfl,hskip i X hi hq gI⟩,jZ⟩
   ·refine As6 (F:=[(1,.func (.yield l) #[] #[]),(9,.slice (some ⟨bb,0,none⟩) nb nb),(10,.int .i64 nb),(11,.int .i64 i),(4,.int .i64 i),(19,.bool true)] ) (.cons rfl<| .cons rfl<| .cons rfl<| .cons rfl<| .cons rfl<| .cons (by show some (Value.bool (decide _))=_;rw [decide_eq_true (by omega)]) .nil) ?_
    refine Lm 2 ?_
    refine o_g y rfl rfl<|oM rfl<|o_g y rfl rfl<|oM rfl<|Ac ⟨rfl,?_⟩
    refine X2 (r:=⟨.ready,none,f0,tm,ps,sg,bd,D⟩) y rfl rfl rfl (by simp [hps]) sP (hrnd i X hi hq gI) rfl ?_
    rintro v L' ⟨rfl,X',rfl,gI'⟩
    refine Lm 2 ?_
    refine o_g y rfl rfl<|oR (Bx rfl)<|oR (Alj rfl rfl)<|Ac ⟨rfl,Afg<|n_K ?_⟩
    exact ⟨_,_,⟨X',rfl,rfl,gI'⟩,jZ⟩
  ·rintro F L ⟨X',rfl,rfl,gI'⟩
   refine Bi rfl ?_
   refine Ai<|Az<|n_K<|Aa fun ops=> ?_
   refine oR (Ao rfl rfl (by omega)) ?_
   refine oM rfl<|Ac<|n_K ?_
   exact ⟨(i+1,X'),⟨by simp only;omega,gI'⟩,(by simp only;omega),lZ⟩
 ·simp only [A0d,Ayz] at c12
  have hi:i=nb:=(by omega)
  subst hi
  refine Bb<|x_K<|x_K<|Bj ?_
  exact H5 (Ml Tryz.results116) (by exact ⟨rfl,_,rfl,gI⟩) sP
end
end
section
open Go.K
instance und153:Und Tryz.prog 153 (.slice 157):=⟨Tryz.underlying153⟩
instance agg153:Agg Tryz.prog 153 false:=⟨⟨_,Tryz.underlying153,rfl⟩⟩
instance siz153:Siz Tryz.prog 153 1:=⟨by kernel_rfl⟩
instance agg157:Agg Tryz.prog 157 true:=⟨⟨_,Tryz.underlying157,rfl⟩⟩
instance siz157:Siz Tryz.prog 157 4:=⟨by kernel_rfl⟩
instance fld157_1:Fld Tryz.prog 157 1 1:=⟨⟨_,_,0,Tryz.underlying157,rfl,by kernel_rfl,rfl⟩⟩
instance ent118:Ent Tryz.prog 118:=⟨fun _ _=>by kernel_rfl⟩
instance ent119:Ent Tryz.prog 119:=⟨fun _ _=>by kernel_rfl⟩
instance ent160:Ent Tryz.prog 160:=⟨fun _ _=>by kernel_rfl⟩
instance ent161:Ent Tryz.prog 161:=⟨fun _ _=>by kernel_rfl⟩
instance ent199:Ent Tryz.prog 199:=⟨fun _ _=>by kernel_rfl⟩
abbrev Hj:TypeId:=157
abbrev U4:TypeId:=65
abbrev Pl2:=Int×Int
instance:Cel Pl2:=⟨2,fun p=>[.int .i64 p.1,.int .i64 p.2],fun _=>rfl,fun _=>rfl⟩
structure Seg where
 b:Int
 seq:Wd
 wear:Wd
 recs:Sl Pl2
def Z5 (s:Seg):List Value:=[.int .i64 s.b,wv s.seq,wv s.wear,s.recs.val]
instance:Cel Seg:=⟨4,Z5,fun _=>rfl,fun _=>rfl⟩
def sg0:Seg:=⟨0,0,0,.nil⟩
def E8 (xs:List Seg) (i:Int):Seg:=xs.getD i.toNat sg0
theorem N4 {xs:List Seg} {i:Int} (h0:0≤i) (h1:i<xs.length):xs[i.toNat]? =some (E8 xs i):=by
 have:i.toNat<xs.length:=by omega
 simp [E8,Ayg,this]
abbrev key (s:Seg):Nat:=s.seq.toNat
theorem Ae5 {x:Wd}:Does Tryz.prog 161 [wv x] [] (Is (.bool false) []):=by
 refine Ah (n:=6) Tryz.func161 Tryz.ntmps161 rfl (Ay9 rfl)<|Ad<|Aa fun ops=>oA rfl<|Ac<|n_K<|Ad<|Aa fun ops=>oM rfl<|oM rfl<|oR (Ae rfl rfl rfl)<|oA rfl<|Ac<|n_K ?_
 refine An ?_
 refine Aq (At Tryz.results161 (Ag rfl)) ?_ sP
 simp
def Z6 (x y:Nat):Int:=if x<y then -1 else if y<x then 1 else 0
theorem Sx {x y:Wd}:Does Tryz.prog 119 [wv x,wv y] [] (Is (.int .i64 (Z6 x.toNat y.toNat)) []):=by
 refine Ah (n:=20) Tryz.func119 Tryz.ntmps119 rfl (Ay9 rfl)<|Ad<|Aa fun ops=>oA rfl<|Ac<|n_K<|Ad<|Aa fun ops=>oM rfl ?_
 refine A6 rfl (Ae5) sP rfl aQ ?_
 refine oA rfl<|Ac<|n_K<|Ad<|Aa fun ops=>oM rfl ?_
 refine A6 rfl (Ae5) sP rfl aQ ?_
 refine oA rfl<|Ac<|n_K<|Ad<|Ad<|Aa fun ops=>oM rfl<|Ac<|n_K ?_
 refine Bi rfl ?_
 refine Ai<|n_K<|Ad<|Ad<|Aa fun ops=>oM rfl<|Ac<|n_K ?_
 refine Bi rfl ?_
 refine Ai<|n_K<|Ad<|Ad<|Aa fun ops=>oM rfl<|oM rfl<|oR (Ae rfl rfl rfl)<|Ac<|n_K ?_
 refine Aj rfl (fun c16=> ?_) (fun c16=> ?_)
 ·simp only [A0d,Ayz] at c16
  refine Ad<|Aa fun ops=>oA rfl<|Ac<|n_K<|An<|r_K ?_
  refine Aq (At Tryz.results119 (Ag rfl)) ?_ sP
  unfold Z6;first | rw [A25 (by omega)] | rw [A26 (by omega),A25 (by omega)] | rw [A26 (by omega),A26 (by omega)]
 ·simp only [A0d,Ayz] at c16
  refine Ai<|n_K<|Ad<|Ad<|Aa fun ops=>oM rfl<|oM rfl<|oR (Ae rfl rfl rfl)<|Ac<|n_K ?_
  refine Aj rfl (fun c19=> ?_) (fun c19=> ?_)
  ·simp only [A0d,Ayz] at c19
   refine Ad<|Aa fun ops=>oA rfl<|Ac<|n_K<|An<|r_K ?_
   refine Aq (At Tryz.results119 (Ag rfl)) ?_ sP
   unfold Z6;first | rw [A25 (by omega)] | rw [A26 (by omega),A25 (by omega)] | rw [A26 (by omega),A26 (by omega)]
  ·simp only [A0d,Ayz] at c19
   refine Ai<|n_K<|Ad<|Aa fun ops=>oA rfl<|Ac<|n_K<|An ?_
   refine Aq (At Tryz.results119 (Ag rfl)) ?_ sP
   unfold Z6;first | rw [A25 (by omega)] | rw [A26 (by omega),A25 (by omega)] | rw [A26 (by omega),A26 (by omega)]
theorem Ahi {x y:Seg}:Does Tryz.prog 118 [.agg (Z5 x).toArray,.agg (Z5 y).toArray] [] (Is (.int .i64 (Z6 (key x) (key y))) []):=by
 refine Ah (n:=10) Tryz.func118 Tryz.ntmps118 rfl (Ay9 rfl)<|Ad<|Aa fun ops=> ?_
 refine De rfl rfl fun b2=> ?_
 refine De rfl rfl fun b3=> ?_
 refine oA rfl<|Ac<|n_K<|Ad<|Aa fun ops=>oF rfl ?_
 refine oR (Al rfl mM rfl) ?_
 refine oF rfl ?_
 refine oR (Al rfl mM rfl) ?_
 refine A6 rfl (Sx) sP rfl aQ ?_
 refine oA rfl<|Ac<|n_K<|An ?_
 refine Aq (At Tryz.results118 (Ag rfl)) ?_ sP
 rfl
theorem Avr {α:Type} {l:List α} {i j:Nat} {a b:α} (hi:l[i]? =some a) (hj:l[j]? =some b):((l.set i b).set j a).Perm l:=by
 obtain ⟨h1,rfl⟩:=Aym.1 hi
 obtain ⟨h2,rfl⟩:=Aym.1 hj
 exact List.set_set_perm h1 h2
def SortB (xs:List Seg) (i j:Int):Prop:=∀ a b:Int,0≤a→a<b→b≤i→b≠j→key (E8 xs a)≤key (E8 xs b)
def SortTo (xs:List Seg) (i:Int):Prop:=∀ a b:Int,0≤a→a<b→b<i→key (E8 xs a)≤key (E8 xs b)
theorem Z7 {xs:List Seg} {i a:Int} {x:Seg} (h0:0≤i) (h1:i<xs.length) (ha:0≤a):E8 (xs.set i.toNat x) a=if a=i then x else E8 xs a:=by
 unfold E8
 simp only [Ayg,A0l]
 by_cases h:a=i
 ·subst h
  have:a.toNat<xs.length:=by omega
  simp [this]
 ·rw [A26 h,A26 (by omega)]
theorem SortB.step {xs:List Seg} {i j:Int} (h:SortB xs i j) (hj:0<j) (hi:j≤i) (hl:i<xs.length) (hk:key (E8 xs j)<key (E8 xs (j - 1))) :
  SortB ((xs.set j.toNat (E8 xs (j - 1))).set (j - 1).toNat (E8 xs j)) i (j - 1):=by
 intro a b ha hab hb hne
 have e:∀ c:Int,0≤c→E8 ((xs.set j.toNat (E8 xs (j - 1))).set (j - 1).toNat (E8 xs j)) c=if c=j - 1 then E8 xs j else if c=j then E8 xs (j - 1) else E8 xs c:=fun c hc=>by
  rw [Z7 (by omega) (by rw [A1f];omega) hc,Z7 (by omega) (by omega) hc]
 rw [e a ha,e b (by omega)]
 have hb1:¬ b=j - 1:=hne
 rw [A26 hb1]
 by_cases h1:b=j
 ·subst h1
  rw [A25 rfl]
  by_cases h2:a=b - 1
  ·rw [A25 h2];omega
  ·rw [A26 h2,A26 (by omega)]
   exact h a (b - 1) ha (by omega) (by omega) (by omega)
 ·rw [A26 h1]
  by_cases h2:a=j - 1
  ·rw [A25 h2]
   exact h j b (by omega) (by omega) hb h1
  ·rw [A26 h2]
   by_cases h3:a=j
   ·rw [A25 h3]
    exact h (j - 1) b (by omega) (by omega) hb h1
   ·rw [A26 h3]
    exact h a b ha hab hb h1
theorem SortB.done {xs:List Seg} {i j:Int} (h:SortB xs i j) (h0:0≤j) (hk:0<j→key (E8 xs (j - 1))≤key (E8 xs j)):SortTo xs (i+1):=by
 intro a b ha hab hb
 by_cases h1:b=j
 ·subst h1
  have hk':=hk (by omega)
  by_cases h2:a=b - 1
  ·rw [h2];exact hk'
  ·exact A2f (h a (b - 1) ha (by omega) (by omega) (by omega)) hk'
 ·exact h a b ha hab (by omega) h1
theorem Ae6 {a b:Nat}:Z6 a b<0↔a<b:=by
 unfold Z6
 split
 ·simp;omega
 ·split <;> simp <;> omega
theorem SortTo.fin {xs:List Seg} {i:Int} {n:Nat} (h:SortTo xs i) (h0:1≤i) (h5:i≤n∨i=1) (hc:¬ i<n):SortTo xs n:=by
 intro a b ha hab hb
 rcases h5 with h5 | h5
 ·exact h a b ha hab (by omega)
 ·omega
theorem Ac6 {s:Sl Seg} (ho:s.isOwn=true):Does Tryz.prog 199 [s.val,.int .i64 0,.int .i64 s.list.length,.func (.func 118) #[] #[]] (s.hp Hj++[])
  (fun v H=>v= .tuple #[]∧∃ s':Sl Seg,H=s'.hp Hj++[]∧s'.val=s.val∧s'.isOwn=true∧s'.list.Perm s.list∧SortTo s'.list s.list.length):=by
 have hsm:=s.small
 refine Ah (n:=53) Tryz.func199 Tryz.ntmps199 rfl (Ay9 rfl)<|Ad<|Aa fun ops=>oM rfl ?_
 refine oR (Ao rfl rfl (by omega)) ?_
 refine oA rfl<|Ac<|n_K<|Ak ?_
 refine A8 [0,1,2,3] kQ (fun (st:Int×Sl Seg)=>[(8,.int .i64 st.1)]) (fun (st:Int×Sl Seg)=>(st.2.hp Hj++[])) (fun (st:Int×Sl Seg)=>1≤st.1∧st.2.val=s.val∧st.2.isOwn=true∧st.2.list.Perm s.list∧SortTo st.2.list st.1∧(st.1≤s.list.length∨st.1=1)) (fun (st:Int×Sl Seg)=>((s.list.length:Int) - st.1).toNat) ((0+1,s)) ⟨by show (1:Int)≤0+1;omega,rfl,ho,List.Perm.refl _,fun a b h1 h2 h3=>by simp only at h3;omega,.inr rfl⟩ kP sP ?_
 rintro ⟨i,s1⟩ ⟨h0,h1,h2,h3,h4,h5⟩
 simp only at h0 h1 h2 h3 h4 h5
 refine Ad<|Ad<|Aa fun ops=>oM rfl<|oM rfl<|oR (Ae rfl rfl rfl)<|Ac<|n_K ?_
 refine Aj rfl (fun c14=> ?_) (fun c14=> ?_)
 ·simp only [A0d,Ayz] at c14
  refine Ai<|n_K<|Ad<|Ak<|Ad<|Aa fun ops=>oM rfl<|oA rfl<|Ac<|n_K<|Ak ?_
  refine A8 [0,1,2,3,8] kQ (fun (st:Int×Sl Seg)=>[(9,.int .i64 st.1)]) (fun (st:Int×Sl Seg)=>(st.2.hp Hj++[])) (fun (st:Int×Sl Seg)=>0≤st.1∧st.1≤i∧st.2.val=s.val∧st.2.isOwn=true∧st.2.list.Perm s.list∧SortB st.2.list i st.1) (fun (st:Int×Sl Seg)=>st.1.toNat) ((i,s1)) ⟨by omega,A2p _,h1,h2,h3,fun a b ha hab hb hne=>h4 a b ha hab (by omega)⟩ kP sP ?_
  rintro ⟨j,s2⟩ ⟨k0,k1,k2,k3,k4,k5⟩
  simp only at k0 k1 k2 k3 k4 k5
  have hlen:s2.list.length=s.list.length:=k4.length_eq
  have hoff:=Kq k3
  refine Ad<|Ad ?_
  refine s_draw [(3,21)] [(3,[(0,false),(1,false),(2,false)]),(17,[(3,false),(4,false),(5,false),(6,false),(7,false),(8,false),(9,false),(10,false),(11,false),(12,false),(13,false),(14,true),(15,false),(16,false)])] (by kernel_rfl) rfl fun ops w0 H0 y=> ?_
  refine A4<|xM rfl<|xM rfl<|xR (Ae rfl rfl rfl)<|Am<|A4<|xM rfl ?_
  refine' Hx (j:=3) (k:=12) y rfl rfl rfl rfl rfl rfl rfl (fun hg21=> ?_) ?_
  rotate_left
  ·try (simp at hg21;show _)
   refine x_g y rfl rfl ?_
   refine xM rfl ?_
   refine x_g y rfl rfl ?_
   refine xM rfl ?_
   refine x_g y rfl rfl ?_
   refine xM rfl ?_
   refine x_g y rfl rfl ?_
   refine xR (Bk (s:=s2) (by rw [k2];rfl) rfl ⟨k0,by omega⟩) ?_
   refine x_g y rfl rfl ?_
   refine xR (Do (s:=s2) (o:=0) rfl pL (N4 k0 (by omega)) rfl rfl) ?_
   refine x_g y rfl rfl ?_
   refine xM rfl ?_
   refine x_g y rfl rfl ?_
   refine xM rfl ?_
   refine x_g y rfl rfl ?_
   refine xR (Cy rfl rfl (by omega)) ?_
   refine x_g y rfl rfl ?_
   refine xR (Bk (s:=s2) (by rw [k2];rfl) rfl ⟨by omega,by omega⟩) ?_
   refine x_g y rfl rfl ?_
   refine xR (Do (s:=s2) (o:=0) rfl pL (N4 (i:=j - 1) (by omega) (by omega)) rfl rfl) ?_
   refine x_g y rfl rfl ?_
   refine Be ?_
   refine S8 (fi:=[]) (ca:=[]) rfl rfl (Ahi (x:=E8 s2.list j) (y:=E8 s2.list (j - 1))) sP rfl aQ ?_
   refine Ac ⟨rfl,⟨_,sP⟩,?_⟩
   refine x_g y rfl rfl ?_
   refine xR (Ae rfl rfl rfl) ?_
   exact Am ⟨rfl,⟨_,sP⟩⟩
  refine Am<|Bm<|n_K ?_
  refine Aj rfl (fun c34=> ?_) (fun c34=> ?_)
  ·skip
   have hj:0<j:=(by simp at c34;exact c34.1)
   have hkk:key (E8 s2.list j)<key (E8 s2.list (j - 1)):=(by simp only [A0r,A0d,Ae6] at c34;exact c34.2)
   have ga:=N4 (xs:=s2.list) k0 (by omega)
   have gb:=N4 (xs:=s2.list) (i:=j - 1) (by omega) (by omega)
   obtain ⟨s3,hs3⟩:∃ s3,s3=s2.set j.toNat (E8 s2.list (j - 1)):=⟨_,rfl⟩
   have q1:s3.val=s.val:=(by rw [hs3,Sl.set_val,k2])
   have q2:s3.list=s2.list.set j.toNat (E8 s2.list (j - 1)):=(by rw [hs3,Sl.set_list _ _ _ k3])
   have q3:s3.isOwn=true:=(by rw [hs3];exact Sl.set_isOwn _ _ _ k3)
   have q4:s3.list[(j - 1).toNat]? =some (E8 s2.list (j - 1)):=(by rw [q2,Azl (by omega)];exact gb)
   refine Ai<|n_K<|Ad<|Ak ?_
   refine He [] [0,1,2,3,4,5,6,7,8,10,11,12] [[(9,false),(13,false)],[(14,false)],[(15,true)],[(16,false)],[(17,true)]] (by kernel_rfl) rfl rfl fun ops w0 H0 y=> ?_
   unfold Tg
   refine xM rfl<|xM rfl<|xM rfl<|xM rfl ?_
   refine xR (Cy rfl rfl (by omega)) ?_
   refine xM rfl<|xM rfl ?_
   refine xR (Cy rfl rfl (by omega)) ?_
   refine xR (Bk (s:=s2) (by rw [k2];rfl) rfl ⟨by omega,by omega⟩) ?_
   refine xM rfl<|xM rfl ?_
   refine xR (Bk (s:=s2) (by rw [k2];rfl) rfl ⟨by omega,by omega⟩) ?_
   refine Am<|A4 ?_
   refine xR (Do (s:=s2) (o:=0) rfl pL gb rfl rfl) ?_
   refine xR (Do (s:=s2) (o:=0) rfl pL ga rfl rfl) ?_
   refine Am<|A4 ?_
   refine xR (Bk (s:=s2) (by rw [k2];rfl) rfl ⟨by omega,by omega⟩) ?_
   refine Am<|Bh<|Be ?_
   first | (refine Fb (s:=s2) (o:=0) (z':=E8 s2.list (j - 1)) rfl rfl uL k3 ga rfl rfl rfl (by rw [hoff];exact A2g _) ?_;rw [← hs3]) | refine Fb (s:=s3) (o:=0) (z':=E8 s2.list j) rfl rfl uL q3 q4 rfl rfl rfl (by rw [Kq q3];exact A2g _) ?_
   refine Ac ⟨rfl,⟨_,sP⟩,?_⟩
   refine Am<|A4 ?_
   refine xR (Bk (s:=s3) (by rw [q1];rfl) rfl ⟨by omega,by rw [q2,A1f];omega⟩) ?_
   refine Am<|Bh<|Be ?_
   first | (refine Fb (s:=s2) (o:=0) (z':=E8 s2.list (j - 1)) rfl rfl uL k3 ga rfl rfl rfl (by rw [hoff];exact A2g _) ?_;rw [← hs3]) | refine Fb (s:=s3) (o:=0) (z':=E8 s2.list j) rfl rfl uL q3 q4 rfl rfl rfl (by rw [Kq q3];exact A2g _) ?_
   refine Ac ⟨rfl,⟨_,sP⟩,?_⟩
   refine Am<|Bm<|Az<|n_K<|Aa fun ops=>oM rfl ?_
   refine oR (Cy rfl rfl (by omega)) ?_
   refine oA rfl<|Ac<|n_K ?_
   exact ⟨(j - 1,s3.set (j - 1).toNat (E8 s2.list j)),⟨by simp only;omega,by simp only;omega,by rw [Sl.set_val,q1],Sl.set_isOwn _ _ _ q3,by simp only;rw [Sl.set_list _ _ _ q3,q2];exact (Avr ga gb).trans k4,by simp only;rw [Sl.set_list _ _ _ q3,q2];exact k5.step hj k1 (by omega) hkk⟩,(by simp only;omega),lZ⟩
  ·skip
   have hdn:SortTo s2.list (i+1):=k5.done k0 (fun hj=>by simp [Ae6,hj] at c34;omega)
   refine Bb<|x_K<|x_K<|Bj<|Az<|n_K<|Aa fun ops=>oM rfl ?_
   refine oR (Ao rfl rfl (by omega)) ?_
   refine oA rfl<|Ac<|n_K ?_
   exact ⟨(i+1,s2),⟨by simp only;omega,k2,k3,k4,hdn,by simp only;omega⟩,(by simp only;omega),lZ⟩
 ·simp only [A0d,Ayz] at c14
  refine Bb<|x_K<|x_K<|Bj ?_
  exact H5 (Ml Tryz.results199) (by exact ⟨rfl,s1,rfl,h1,h2,h3,h4.fin h0 h5 c14⟩) sP
theorem Ap1 {s:Sl Seg} {x:Int} (ho:s.isOwn=true) (hn:s.list.length≤12):Does Tryz.prog 160 [s.val,.int .i64 0,.int .i64 s.list.length,.int .i64 x,.func (.func 118) #[] #[]] (s.hp Hj++[])
  (fun v H=>v= .tuple #[]∧∃ s':Sl Seg,H=s'.hp Hj++[]∧s'.val=s.val∧s'.isOwn=true∧s'.list.Perm s.list∧SortTo s'.list s.list.length):=by
 refine Ah (n:=148) Tryz.func160 Tryz.ntmps160 rfl (Ay9 rfl)<|Ad<|Aa fun ops=>oA rfl<|Ac<|n_K<|Ad<|Aa fun ops=>oA rfl<|Ac<|n_K<|Ak ?_
 refine D7 [0,1,2,3,4] kQ (fun (_u:Unit)=>[]) (fun (_u:Unit)=>True) (fun (_u:Unit)=>0) (()) (by first | trivial | omega | simp) kP ?_
 rintro _ _
 refine Ak<|Ad<|Aa fun ops=>oM rfl<|oM rfl ?_
 refine oR (Cy rfl rfl (by omega)) ?_
 refine oA rfl<|Ac<|n_K<|Ad<|Ad<|Aa fun ops=>oM rfl<|oR (Ae rfl rfl rfl)<|Ac<|n_K ?_
 refine Aj rfl (fun c25=> ?_) (fun c25=> ?_)
 ·simp only [A0d,Ayz] at c25
  refine Ad<|Aa fun ops=>oM rfl<|oM rfl<|oM rfl<|oM rfl ?_
  refine Bd rfl (Ac6 ho) sP rfl fun v30 Y30 h30=> ?_
  obtain ⟨rfl,s30,rfl,hv30,ho30,hp30,hq30⟩:=h30
  refine Ay aQ ?_
  refine Ac<|n_K<|An<|r_K<|Bn<|r_K<|Bn ?_
  exact Av (Ml Tryz.results160) (by exact ⟨rfl,s30,rfl,hv30,ho30,hp30,hq30⟩) sP
 ·simp only [A0d,Ayz] at c25
  omega
end
section
open Go.K
instance agg61:Agg Tryz.prog 61 false:=⟨⟨_,Tryz.underlying61,rfl⟩⟩
instance und155:Und Tryz.prog 155 (.slice 65):=⟨Tryz.underlying155⟩
instance agg155:Agg Tryz.prog 155 false:=⟨⟨_,Tryz.underlying155,rfl⟩⟩
instance siz155:Siz Tryz.prog 155 1:=⟨by kernel_rfl⟩
instance zer153:Zer Tryz.prog 153 ([.slice none 0 0]):=⟨by kernel_rfl⟩
instance zer157:Zer Tryz.prog 157 ([.int .i64 0,.int .u64 0,.int .u64 0,.slice none 0 0]):=⟨by kernel_rfl⟩
instance fld157_3:Fld Tryz.prog 157 3 3:=⟨⟨_,_,0,Tryz.underlying157,rfl,by kernel_rfl,rfl⟩⟩
instance plc157:Plc Tryz.prog 157 [(0,1),(1,1),(2,1),(3,1)]:=⟨⟨_,Tryz.underlying157,fun _=>by kernel_rfl⟩⟩
instance byt65:Byt Tryz.prog 65 16:=⟨by kernel_rfl⟩
instance byt157:Byt Tryz.prog 157 48:=⟨by kernel_rfl⟩
instance ent77:Ent Tryz.prog 77:=⟨fun _ _=>by kernel_rfl⟩
instance ent117:Ent Tryz.prog 117:=⟨fun _ _=>by kernel_rfl⟩
theorem Akt {s:Sl Seg} (ho:s.isOwn=true) (hn:s.list.length≤12):Does Tryz.prog 117 [s.val,.func (.func 118) #[] #[]] (s.hp Hj++[])
  (fun v H=>v= .tuple #[]∧∃ s':Sl Seg,H=s'.hp Hj++[]∧s'.val=s.val∧s'.isOwn=true∧s'.list.Perm s.list∧SortTo s'.list s.list.length):=by
 refine Ah (n:=14) Tryz.func117 Tryz.ntmps117 rfl (Ay9 rfl)<|Ad<|Aa fun ops=>oM rfl<|oR (A7 rfl)<|oA rfl<|Ac<|n_K<|Aa fun ops=>oM rfl<|oM rfl<|oM rfl ?_
 refine oR (Ft rfl (Hg .u64 rfl (by show _<2 ^ 64;omega))) ?_
 refine A6 rfl (Ad6 (n:=s.list.length) (by omega)) sP rfl aQ ?_
 refine oM rfl ?_
 refine Bd rfl (Ap1 ho hn) sP rfl fun v13 Y13 h13=> ?_
 obtain ⟨rfl,s13,rfl,hv13,ho13,hp13,hq13⟩:=h13
 refine Ay aQ ?_
 refine Ac ?_
 exact H5 (Ml Tryz.results117) (by exact ⟨rfl,s13,rfl,hv13,ho13,hp13,hq13⟩) sP
def Gq (v:Blk) (b:Int):Nat→List Pl2
 | 0=>[]
 | i+1=>Gq v b i++if 2≤i∧(Eb (A9 v i)).2.2.2=0 then [(b,(i:Int))] else []
theorem Xt (v:Blk) (b:Int):Gq v b 2=[]:=by simp [Gq]
theorem Vn (v:Blk) (b:Int):∀ i,(Gq v b i).length≤i
 | 0=>A2q _
 | i+1=>by
  have:=Vn v b i
  unfold Gq
  split <;> simp <;> omega
abbrev SV:=Int×Wd×Wd×List Pl2
def U5 (s:Seg):SV:=(s.b,s.seq,s.wear,s.recs.list)
def Mo (V:Nat→Blk) (bs:List LB):Nat→List SV
 | 0=>[]
 | j+1=>Mo V bs j++if (bAt bs j).seq.toNat=0 then [] else [((j:Int),(bAt bs j).seq,(bAt bs j).wear,Gq (V j) j 8)]
theorem Vo (V:Nat→Blk) (bs:List LB):∀ i,(Mo V bs i).length≤i
 | 0=>A2q _
 | i+1=>by
  have:=Vo V bs i
  unfold Mo
  split <;> simp <;> omega
def I1 (l:List Seg):Hp:=l.flatMap fun s=>s.recs.hp U4
theorem Aku (l:List Seg) (s:Seg):I1 (l++[s])=I1 l++s.recs.hp U4:=by simp [I1]
abbrev U6:TypeId:=61
abbrev Mq:TypeId:=153
section
variable {d:Dsk} {n k:Nat} {q:Qt} {lg bb nb:Nat} {last:Int} {V:Nat→Blk} {bs:List LB}
def Avs (d:Dsk) (V:Nat→Blk) (bs:List LB) (lg b1 b2:Nat) (j:Nat) (X:Hp):Prop :=
 ∃ out:Sl Seg,X=(b1,true,C [ptr lg] U6)::(b2,true,C [out.val] Mq)::(out.hp Hj++(I1 out.list++dkH d))∧out.isOwn=true∧out.list.map U5=Mo V bs j∧∀ x∈out.list,x.recs.isOwn=true
theorem Z8 (h:DD d n k V) (hnb:nb+6=n) (hn40:n≤40) (hl:bs.length=nb) (h12:(Mo V bs nb).length≤12):Does Tryz.prog 77 [ptr lg] ((lg,true,C (lgC d.dk bb nb last) tLg)::(bb,true,C (lbs bs) tLB)::(dkH d++[]))
  (fun v H=>∃ (s:Sl Seg) (l0:List Seg),v=s.val∧H=s.hp Hj++(I1 l0++((lg,true,C (lgC d.dk bb nb last) tLg)::(bb,true,C (lbs bs) tLB)::(dkH d++[])))∧l0.Perm s.list∧s.isOwn=true∧(s.list.map U5).Perm (Mo V bs nb)∧SortTo s.list s.list.length∧∀ x∈s.list,x.recs.isOwn=true):=by
 refine P6 (n:=58) Tryz.func77 Tryz.ntmps77 rfl (Ay9 rfl) ?_
 refine Alb ?_
 refine Aa fun ops=> ?_
 refine De rfl rfl fun b1=> ?_
 refine Aw rfl fun b2=> ?_
 refine Ac ?_
 refine ⟨rfl,?_⟩
 refine Adb ?_
 refine Aa fun ops=> ?_
 refine oR (Al rfl mM rfl) ?_
 refine oR (Aah (fi:=[.tmp 12]) (cap:=[]) rfl rfl) ?_
 refine Ac ?_
 refine ⟨rfl,?_⟩
 refine Aqg (fi:=[ptr lg]) (L:=(lg,true,C (lgC d.dk bb nb last) tLg)::(bb,true,C (lbs bs) tLB)::(b1,true,C [ptr lg] U6)::(b2,true,C [(Sl.nil:Sl Seg).val] Mq)::(dkH d++[])) (F:=[]) (R1:=fun M=>∃ X,M=(lg,true,C (lgC d.dk bb nb last) tLg)::(bb,true,C (lbs bs) tLB)::(X++[])∧Avs d V bs lg b1 b2 nb X) rfl sP ?_ ?_
 ·intro D l f0 tm ht hsz
  refine (Ap0 (dk:=d.dk) (I:=Avs d V bs lg b1 b2) (X0:=(b1,true,C [ptr lg] U6)::(b2,true,C [(Sl.nil:Sl Seg).val] Mq)::dkH d) hl (by omega) rfl ⟨.nil,by rw [Sl.hp_nil];rfl,rfl,rfl,fun x hx=>nomatch hx⟩ ?_ ?_).mono ?_
  ·rintro j X hj h0 ⟨out,hX,ho,hm,hr⟩
   exact ⟨out,hX,ho,by rw [hm];show _=Mo V bs j++_;rw [A25 h0,A1j],hr⟩
  rotate_left
  ·rintro v Y ⟨rfl,X,rfl,hX⟩
   exact ⟨_,_,rfl,(fun e=>nomatch e),X,rfl,hX⟩
  rintro j X hj hne ⟨out,rfl,ho,hm,hr⟩
  rw [show ((b1,true,C [ptr lg] U6)::(b2,true,C [out.val] Mq)::(out.hp Hj++(I1 out.list++dkH d))++[]:Hp)=(b1,true,C [ptr lg] U6)::(b2,true,C [out.val] Mq)::(out.hp Hj++(I1 out.list++(dkH d++[]))) by simp [A0j]]
  have hgj:bs[j]? =some (bAt bs j):=Ep (by omega)
  have hol:out.list.length≤40:=(by have e:=A20 List.length hm;rw [A1a] at e;rw [e];have:=Vo V bs j;omega)
  refine Tj (n:=58) [(14,.int .i64 (j:Nat)),(1,ptr b1),(2,ptr b2)] (by rw [show F9 _ _=tm.setIfInBounds 14 (.int .i64 (j:Nat)) from by simp [F9]];exact EnvOk.put (a:=⟨tm,[]⟩) (d:=14) (v:= .int .i64 (j:Nat)) ((Keep.cons rfl<|Keep.cons rfl .nil).ok ht) (by rw [hsz];decide)) (by simp [F9,hsz]) rfl fun rg=> ?_
  refine Aa fun ops=>oA rfl<|Ac ?_
  refine ⟨rfl,_,rfl,?_⟩
  refine Ak<|Ad<|Aa fun ops=> ?_
  refine oR (Al rfl mM rfl) ?_
  refine oN rfl<|oF rfl ?_
  refine oR (Al rfl mM rfl) ?_
  refine oM rfl ?_
  refine oR (Cp rfl rfl (by omega)) ?_
  refine oR (Au rfl mM (by simp only [A0c];exact Pv hgj)) ?_
  refine Aw rfl fun b4=> ?_
  refine Af rfl rfl uD rfl rfl rfl ?_
  refine Ac<|n_K<|Ad<|Aa fun ops=>oM rfl<|oF rfl ?_
  refine oR (Al rfl mM rfl) ?_
  refine oF rfl ?_
  refine oR (Al rfl mM rfl) ?_
  refine oR (Bc rfl rfl) ?_
  refine Aw rfl fun b5=> ?_
  refine Af rfl rfl uD rfl rfl rfl ?_
  refine Ac<|n_K<|Ad<|Ad<|Aa fun ops=>oA rfl<|Ac<|n_K<|Ak ?_
  refine A8 [1,2,3,5] kQ (fun (st:Nat×Sl Pl2)=>[(6,.int .i64 st.1)]) (fun (st:Nat×Sl Pl2)=>(l,true,.loop ⟨.busy,none,f0,tm,_,_,_,D⟩)::(lg,true,C (lgC d.dk bb nb last) tLg)::(bb,true,C (lbs bs) tLB)::(b1,true,C [ptr lg] U6)::(b2,true,C [out.val] Mq)::(b5,true,C (Z5 ⟨j,(bAt bs j).seq,(bAt bs j).wear,st.2⟩) Hj)::(st.2.hp U4++(out.hp Hj++(I1 out.list++(dkH d++[]))))) (fun (st:Nat×Sl Pl2)=>2≤st.1∧st.1≤8∧st.2.isOwn=true∧st.2.list=Gq (V j) j st.1) (fun (st:Nat×Sl Pl2)=>8 - st.1) ((2,Sl.nil)) ⟨A2q _,by decide,rfl,(Xt _ _).symm⟩ kP (by rw [Sl.hp_nil,A1k];exact sP) ?_
  rintro ⟨i,rs⟩ ⟨g1,g2,g3,g4⟩
  simp only at g1 g2 g3 g4
  have hrl:=Vn (V j) j i
  rw [← g4] at hrl
  refine Ad<|Ad<|Aa fun ops=>oM rfl<|oR (Ae rfl rfl rfl)<|Ac<|n_K ?_
  refine Aj rfl (fun c29=> ?_) (fun c29=> ?_)
  ·simp only [A0d,Ayz] at c29
   refine Ai<|n_K<|Ad<|Ak<|Ad<|Aa fun ops=>oM rfl<|oM rfl<|oR (Bc rfl rfl) ?_
   refine Aw rfl fun b7=> ?_
   refine Af rfl rfl uD rfl rfl rfl ?_
   refine Ac<|n_K<|Ad<|Aa fun ops=> ?_
   refine oR (Al rfl mM rfl) ?_
   refine oR (Au rfl mM rfl) ?_
   refine Bd rfl (Aks h (b:=j) (j:=i) (by omega) (by omega)) sP rfl fun v38 Y38 h38=> ?_
   obtain ⟨s38,rfl,rfl,hs38,ho38⟩:=h38
   refine Ay aQ ?_
   refine oM rfl<|oE rfl rfl<|oE rfl rfl<|oE rfl rfl<|oE rfl rfl<|oA rfl<|oA rfl<|oA rfl<|oA rfl<|Ac<|n_K<|Ad<|Aa fun ops=>oM rfl ?_
   refine oR (Ae rfl rfl rfl)<|Ac<|n_K ?_
   refine Aj rfl (fun c44=> ?_) (fun c44=> ?_)
   ·simp only [A0d,Ayz] at c44
    have hrT:Gq (V j) j (i+1)=rs.list++[((j:Int),(i:Int))]:=(by show Gq (V j) j i++_=_;rw [A25 ⟨g1,c44⟩,g4])
    refine Aa fun ops=>oF rfl ?_
    refine oR (Al rfl mM rfl) ?_
    refine oR (Au rfl mM rfl) ?_
    refine A5 rfl rfl rfl rfl fun b48=> ?_
    refine Bp (s:=rs) (new:=[((j:Int),(i:Int))]) (m:=1) rfl rfl pL g3 (Cv (r:=true) mM rfl) rfl rfl rfl rfl (by omega) rfl fun rs' hs1 hs2=> ?_
    refine oF rfl ?_
    refine Af rfl rfl uD rfl rfl rfl ?_
    refine Ac<|Az<|n_K<|Aa fun ops=>oM rfl ?_
    refine oR (Ao rfl rfl (by omega)) ?_
    refine oA rfl<|Ac<|n_K ?_
    first | exact ⟨(i+1,rs'),⟨by simp only;omega,by simp only;omega,hs2,by rw [hrT];exact hs1⟩,by simp only;omega,lZ⟩ | exact ⟨(i+1,rs),⟨by simp only;omega,by simp only;omega,g3,hrF.symm⟩,by simp only;omega,lZ⟩
   ·simp only [A0d,Ayz] at c44
    have hrF:Gq (V j) j (i+1)=rs.list:=(by show Gq (V j) j i++_=_;rw [A26 (fun e=>c44 e.2),A1j,g4])
    refine Ai<|Az<|n_K<|Aa fun ops=>oM rfl ?_
    refine oR (Ao rfl rfl (by omega)) ?_
    refine oA rfl<|Ac<|n_K ?_
    first | exact ⟨(i+1,rs'),⟨by simp only;omega,by simp only;omega,hs2,by rw [hrT];exact hs1⟩,by simp only;omega,lZ⟩ | exact ⟨(i+1,rs),⟨by simp only;omega,by simp only;omega,g3,hrF.symm⟩,by simp only;omega,lZ⟩
  ·simp only [A0d,Ayz] at c29
   have hi8:i=8:=(by omega)
   subst hi8
   refine Bb<|x_K<|x_K<|Bj<|n_K<|Aa fun ops=> ?_
   refine oR (Al rfl mM rfl) ?_
   refine oR (Au rfl mM rfl) ?_
   refine A5 rfl rfl rfl rfl fun b53=> ?_
   refine Bp (s:=out) (new:=[(⟨(j:Nat),(bAt bs j).seq,(bAt bs j).wear,rs⟩:Seg)]) (m:=1) rfl rfl pL ho (Cv (r:=true) mM rfl) rfl rfl rfl rfl (by omega) rfl fun out' hs1 hs2=> ?_
   refine Af rfl rfl uD rfl rfl rfl ?_
   refine Ac<|Az ?_
   refine ⟨rfl,(lg,true,C (lgC d.dk bb nb last) tLg)::(bb,true,C (lbs bs) tLB)::(b1,true,C [ptr lg] U6)::(b2,true,C [out'.val] Mq)::(out'.hp Hj++(I1 out.list++(rs.hp U4++(dkH d++[])))),_,sP,rfl,(b1,true,C [ptr lg] U6)::(b2,true,C [out'.val] Mq)::(out'.hp Hj++(I1 out'.list++dkH d)),?_,out',rfl,hs2,?_,?_⟩
   ·rw [hs1,Aku];simp [A0j]
   ·rw [hs1,A1i,hm];show _=Mo V bs j++_;rw [A26 hne,← g4];rfl
   ·intro x hx
    rw [hs1] at hx
    rcases A1d.1 hx with hx | hx
    ·exact hr x hx
    ·obtain rfl:=Azy.1 hx;exact g3
 ·rintro rg D M ⟨X,rfl,out,rfl,ho,hm,hr⟩
  have hn:out.list.length≤12:=by have e:=A20 List.length hm;rw [A1a] at e;omega
  rw [show (Go.K.mark D::(((lg,true,C (lgC d.dk bb nb last) tLg)::(bb,true,C (lbs bs) tLB)::((b1,true,C [ptr lg] U6)::(b2,true,C [out.val] Mq)::(out.hp Hj++(I1 out.list++dkH d))++[]))++[]):Hp)=Go.K.mark D::(lg,true,C (lgC d.dk bb nb last) tLg)::(bb,true,C (lbs bs) tLB)::(b1,true,C [ptr lg] U6)::(b2,true,C [out.val] Mq)::(out.hp Hj++(I1 out.list++(dkH d++[]))) by simp [A0j]]
  refine Ad<|Aa fun ops=> ?_
  refine oR (Al rfl mM rfl) ?_
  refine Bd rfl (Akt ho hn) sP rfl fun v56 Y56 h56=> ?_
  obtain ⟨rfl,s56,rfl,hv56,ho56,hp56,hq56⟩:=h56
  refine Ay aQ ?_
  refine Ac<|n_K<|Ad<|Aa fun ops=> ?_
  refine oR (Al rfl mM rfl) ?_
  refine Af rfl rfl uD rfl rfl rfl ?_
  refine Ac<|n_K<|An ?_
  refine pkD ?_
  exact Av (At Tryz.results77 (Alt rfl mM rfl)) (by exact ⟨s56,out.list,hv56.symm,rfl,hp56.symm,ho56,by rw [← hm];exact hp56.map _,by rw [hp56.length_eq];exact hq56,fun x hx=>hr x (hp56.mem_iff.1 hx)⟩) sP
end
end
end Go.Proofs.YtpmojdippdlcaaaGreatDoor
