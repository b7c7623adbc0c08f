/- For every input, the program's store takes as many nodes as Limit tells, over and over, and no more (lemmas of the proof); the conditions are the statement's own: part 2. -/
import Derived.Test.YtpmojdippdlcaaaGreatDoorJ0
import Derived.Test.YtpmojdippdlcaaaGreatDoorJ1
import Derived.Test.YtpmojdippdlcaaaGreatDoorRows
set_option linter.unusedVariables false
set_option linter.unusedSimpArgs false
namespace Go.Proofs.YtpmojdippdlcaaaGreatDoor
section
open Go.K
structure OpV where
 kind:Int
 logical:Int
 block:Int
 least:Bool
 bit:Int
def opC (o:OpV):List Value:=[.int .i64 o.kind,.int .i64 o.logical,.int .i64 o.block,.bool o.least,.int .i64 o.bit]
instance:Cel OpV:=⟨5,opC,fun _=>rfl,fun _=>rfl⟩
def Ga (c:Chip):List Bool:=c.blocks.map (·.bad)
theorem Jt {c:Chip} {i:Nat} {b b':Blk} (hb:c.blocks[i]? =some b) (h:b'.bad=b.bad):(c.blocks.set i b').map (·.bad)=c.blocks.map (·.bad):=by
 rw [List.map_set,h]
 apply List.ext_getElem?
 intro j
 rw [List.getElem?_set]
 split
 ·rename_i e;subst e
  obtain ⟨h1,h2⟩:=List.getElem?_eq_some_iff.1 hb
  simp [h1,h2]
 ·rfl
theorem Id (c:Chip) (i j:Int) (d:Pg):Ga (B1 c i j d).2=Ga c:=by
 unfold B1
 split
 ·split
  ·rfl
  ·rename_i b hb
   split
   ·simp only []
    split
    ·refine Jt (c:=Fj (Rt (cnt c))) hb ?_;split <;> rfl
    ·split
     ·refine Jt (c:=Fj (Rt (cnt c))) hb ?_;split <;> rfl
     ·refine Jt (c:=Fj (Rt (cnt c))) hb ?_;split <;> rfl
   ·rfl
 ·rfl
theorem It (c:Chip) (i:Int):Ga (B3 c i).2=Ga c:=by
 unfold B3
 split
 ·split
  ·rfl
  ·rename_i b hb
   simp only []
   split
   ·exact Jt (c:=Fj (Yf (cnt c))) hb rfl
   ·split
    ·exact Jt (c:=Fj (Yf (cnt c))) hb rfl
    ·exact Jt (c:=Fj (Yf (cnt c))) hb rfl
 ·rfl
theorem Tw (a:Int) (q:Pg):∀ (f:Nat) (c:Chip) (i:Int),Ga (Fz f c a i q).2.2=Ga c
 | 0,c,i=>rfl
 | f+1,c,i=>by
  unfold Fz
  split
  ·exact Id c a i q
  ·rw [Tw a q f,Id]
theorem Wj (c:Chip) (a i:Int) (q:Pg):Ga (Ge c a i q).2.2=Ga c:=Tw a q _ c i
theorem Adq (a:Int) (q:Pg) (s:KS):Ga (Gw a q s).c=Ga s.c:=by
 unfold Gw
 simp only []
 split
 ·rw [Wj,It]
 ·split <;> exact It _ _
theorem Ra (a:Int) (q:Pg):∀ (f:Nat) (s:KS),Ga (Di f a q s).c=Ga s.c
 | 0,s=>rfl
 | f+1,s=>by
  unfold Di
  split
  ·rw [Ra a q f,Adq]
  ·rfl
theorem Ou (a:Int) (q:Pg):∀ (f:Nat) (s:KS),(0≤s.next∧s.next≤8)→(s.area=a∨s.area=1 - a)→(0≤(Di f a q s).next∧(Di f a q s).next≤8)∧((Di f a q s).area=a∨(Di f a q s).area=1 - a)
 | 0,s,h,h2=>⟨h,h2⟩
 | f+1,s,h,h2=>by
  unfold Di
  split
  ·refine Ou a q f _ (Pd h) (.inr ?_)
   unfold Gw
   simp only []
   split
   ·rfl
   ·split <;> rfl
  ·exact ⟨h,h2⟩
theorem Wk (a:Int) (q:Pg):∀ (f:Nat) (s:KS),(Di f a q s).c.aC=s.c.aC
 | 0,s=>rfl
 | f+1,s=>by
  unfold Di
  split
  ·rw [Wk a q f,Pc]
  ·rfl
theorem Adr (t:TS) (u l:List Int) (c:Chip):Ga (Fl t u l c).c=Ga c:=by
 unfold Fl
 simp only []
 rw [Ra,Wj]
theorem Al7 (t:TS) (u l:List Int) (c:Chip):(Fl t u l c).c.aC=c.aC:=by
 unfold Fl
 simp only []
 rw [Wk,Za]
theorem Ads (t:TS) (u l:List Int) (c:Chip):Ga (B6 t u l c).2.2=Ga c:=by
 unfold B6
 simp only []
 split <;> exact Adr t u l c
theorem Aa1 (t:TS) (u l:List Int) (c:Chip):(B6 t u l c).2.2.aC=c.aC:=by
 unfold B6
 simp only []
 split <;> exact Al7 t u l c
theorem Aqs (t:TS) (u l:List Int) (c:Chip) (hn:0≤t.next) (ha:0≤t.area∧t.area≤1) :
  (B6 t u l c).2.1=t∨((B6 t u l c).2.1.uses=u∧(B6 t u l c).2.1.lost=l∧0≤(B6 t u l c).2.1.next∧(0≤(B6 t u l c).2.1.area∧(B6 t u l c).2.1.area≤1)):=by
 have hr:(0≤(Fl t u l c).next∧(Fl t u l c).next≤8)∧((Fl t u l c).area=t.area∨(Fl t u l c).area=1 - t.area):=by
  unfold Fl
  simp only []
  exact Ou _ _ _ _ (Zb _ _ _ _ hn) (.inl rfl)
 unfold B6
 simp only []
 split
 ·exact .inl rfl
 ·refine .inr ⟨rfl,rfl,hr.1.1,?_⟩
  show 0≤(Fl t u l c).area∧(Fl t u l c).area≤1
  rcases hr.2 with h | h <;> rw [h] <;> omega
theorem Fq {c c':Chip} (h:Ga c'=Ga c):c'.blocks.length=c.blocks.length:=by
 have:=congrArg List.length h
 simpa [Ga] using this
theorem Fs:∀ {l m:List Int},l.Nodup→(∀ x∈l,x∈m)→l.length≤m.length
 | [],m,_,_=>Nat.zero_le _
 | x::l,m,h,hs=>by
  have hx:=hs x (.head _)
  obtain ⟨h1,h2⟩:=List.nodup_cons.1 h
  have:=Fs (l:=l) (m:=m.erase x) h2 (fun y hy=>(List.mem_erase_of_ne (fun e=>by subst e;exact h1 hy)).2 (hs y (.tail _ hy)))
  have h3:=List.length_erase_of_mem hx
  have h4:=List.length_pos_of_mem hx
  rw [List.length_cons]
  omega
theorem has_mem {l:List Int} {x:Int}:E3 l x=true↔x∈l:=by
 have:E3 l x=l.any (· == x):=Tx l (· == x)
 rw [this,List.any_eq_true]
 constructor
 ·rintro ⟨y,h1,h2⟩
  have:y=x:=by simpa using h2
  subst this;exact h1
 ·exact fun h=>⟨x,h,by simp⟩
structure FmtI (c:Chip) (size:Int) (i:Nat) (u l:List Int):Prop where
 len:(u.length:Int)≤size
 un:u.Nodup
 us:∀ x∈u,2≤x∧x<i∧I4 c x=false
 ln:l.Nodup
 ls:∀ x∈l,0≤x∧x<i∧I4 c x=true
 lb:∀ x:Int,0≤x→x<i→I4 c x=true→x∈l
 all:I4 c 0=false→I4 c 1=false→(u.length:Int)=size∨u.length+l.length+min i 2=i
theorem Km {l:List Int} {x:Int} (h:l.Nodup) (hx:x∉l):(l++[x]).Nodup:=by
 rw [List.nodup_append]
 exact ⟨h,by simp,fun a ha b hb=>by simp at hb;subst hb;intro e;subst e;exact hx ha⟩
theorem Av2 (c:Chip) {size:Int} (hs:0≤size):∀ i,FmtI c size i (Fp c size i).1 (Fp c size i).2
 | 0=>⟨by simpa [Fp] using hs,by simp [Fp],by simp [Fp],by simp [Fp],by simp [Fp],fun x h1 h2=>by omega,fun _ _=> .inr (by simp [Fp])⟩
 | i+1=>by
  have ih:=Av2 c hs i
  unfold Fp
  simp only []
  generalize hu:(Fp c size i).1=u at ih ⊢
  generalize hl:(Fp c size i).2=l at ih ⊢
  split
  ·rename_i hb
   refine ⟨ih.len,ih.un,fun x hx=> ?_,Km ih.ln (fun h=>by have:=ih.ls _ h;omega),fun x hx=> ?_,fun x h0 h1 h2=> ?_,fun h0 h1=> ?_⟩
   ·have:=ih.us x hx;exact ⟨this.1,by omega,this.2.2⟩
   ·rcases List.mem_append.1 hx with h | h
    ·have:=ih.ls x h;exact ⟨this.1,by omega,this.2.2⟩
    ·simp at h;subst h;exact ⟨by omega,by omega,hb⟩
   ·by_cases he:x=(i:Int)
    ·subst he;simp
    ·exact List.mem_append_left _ (ih.lb x h0 (by omega) h2)
   ·have hi:2≤i:=by
     rcases Nat.lt_or_ge i 2 with h | h
     ·rcases (show i=0∨i=1 by omega) with rfl | rfl
      ·rw [show ((0:Nat):Int)=0 from rfl,h0] at hb;cases hb
      ·rw [show ((1:Nat):Int)=1 from rfl,h1] at hb;cases hb
     ·exact h
    rcases ih.all h0 h1 with h | h
    ·exact .inl h
    ·refine .inr ?_;simp only [List.length_append,List.length_cons,List.length_nil];omega
  ·rename_i hb
   have hb':I4 c i=false:=by simpa using hb
   split
   ·rename_i hc
    simp only [Bool.and_eq_true,decide_eq_true_eq] at hc
    refine ⟨by simp only [List.length_append,List.length_cons,List.length_nil];omega,Km ih.un (fun h=>by have:=ih.us _ h;omega),fun x hx=> ?_,ih.ln,fun x hx=> ?_,fun x h0 h1 h2=> ?_,fun h0 h1=> ?_⟩
    ·rcases List.mem_append.1 hx with h | h
     ·have:=ih.us x h;exact ⟨this.1,by omega,this.2.2⟩
     ·simp at h;subst h;exact ⟨hc.1,by omega,hb'⟩
    ·have:=ih.ls x hx;exact ⟨this.1,by omega,this.2.2⟩
    ·by_cases he:x=(i:Int)
     ·subst he;rw [hb'] at h2;cases h2
     ·exact ih.lb x h0 (by omega) h2
    ·rcases ih.all h0 h1 with h | h
     ·omega
     ·refine .inr ?_;simp only [List.length_append,List.length_cons,List.length_nil];omega
   ·rename_i hc
    rw [hu,hl]
    have hlen:=ih.len
    refine ⟨ih.len,ih.un,fun x hx=> ?_,ih.ln,fun x hx=> ?_,fun x h0 h1 h2=> ?_,fun h0 h1=> ?_⟩
    ·have:=ih.us x hx;exact ⟨this.1,by omega,this.2.2⟩
    ·have:=ih.ls x hx;exact ⟨this.1,by omega,this.2.2⟩
    ·by_cases he:x=(i:Int)
     ·subst he;rw [hb'] at h2;cases h2
     ·exact ih.lb x h0 (by omega) h2
    ·rcases ih.all h0 h1 with h | h
     ·exact .inl h
     ·rcases Nat.lt_or_ge i 2 with h2 | h2
      ·refine .inr ?_;omega
      ·refine .inl ?_
       have:¬ ((u.length:Int)<size):=fun h3=>hc (by simp only [Bool.and_eq_true,decide_eq_true_eq];exact ⟨by omega,h3⟩)
       omega
theorem Aia {l:List Int} {i:Nat} {b:Int} (h:l.Nodup) (hb:b∉l):(l.set i b).Nodup:=by
 rw [List.nodup_iff_pairwise_ne,List.pairwise_iff_getElem]
 rw [List.nodup_iff_pairwise_ne,List.pairwise_iff_getElem] at h
 intro j k hj hk hjk
 simp only [List.length_set] at hj hk
 rw [List.getElem_set,List.getElem_set]
 split
 ·split
  ·omega
  ·intro e;exact hb (by rw [e];exact List.getElem_mem _)
 ·split
  ·intro e;exact hb (by rw [← e];exact List.getElem_mem _)
  ·exact h j k hj hk hjk
theorem Aqt {l:List Int} {i:Nat} {b x:Int} (h:l.Nodup) (hi:i<l.length) (hx:x∈l.set i b):x=b∨(x∈l∧x≠l[i]):=by
 obtain ⟨j,hj,rfl⟩:=List.getElem_of_mem hx
 simp only [List.length_set] at hj
 rw [List.getElem_set]
 split
 ·exact .inl rfl
 ·refine .inr ⟨List.getElem_mem _,fun e=> ?_⟩
  rename_i hne
  rw [List.nodup_iff_pairwise_ne,List.pairwise_iff_getElem] at h
  rcases Nat.lt_or_gt_of_ne hne with h1 | h1
  ·exact h i j hi hj h1 e.symm
  ·exact h j i hj hi h1 e
end
section
open Go.K
def ce (c:Chip):Chip:=Fj (Yf (cnt c))
structure EraseR (c:Chip) (a:Nat) (b:Blk) (e:Int) (c':Chip):Prop where
  fr:Fr a c c'
  blk:∃ b',c'.blocks[a]? =some b'∧BI b'∧b'.bad=b.bad∧(∀ (j:Nat) (h:j<8),b'.pages[j]=A0∨b'.pages[j]=b.pages[j])∧(e=0→b'.next=0)
  how:(e=30∧c'.off=true∧¬ c.after<0)∨(e=33∧c'.off=false∧FW c'+1≤FW c)∨(e=0∧c'.off=false)
theorem Am1 {c:Chip} {a:Nat} {b:Blk} {B:Int} (hc:Cnt c B) (hB:B<9000000000000000000):Fr a c (Gb (ce c) a b)∧Cnt (Gb (ce c) a b) (B+1)∧(Rb c=true→FW (Gb (ce c) a b)+1≤FW c):=by
  have hp:=hc.p0
  have hw:=hc.w0
  have e:(Gb (ce c) a b).wc=c.wc+1:=by
    show w64 (c.wc+1)=c.wc+1
    exact Ht (by omega)
  have hfs:=Rf c.wf.list c.wc
  have hFW:FW (Gb (ce c) a b)+(if E3 c.wf.list c.wc=true then 1 else 0)≤FW c:=by
    unfold FW
    rw [e]
    exact hfs
  refine ⟨⟨fun k hk=> ?_,?_,rfl,rfl,rfl,rfl,rfl,rfl,rfl,Nat.le_refl _,?_,fun h=> ?_,rfl⟩,⟨by show 0≤c.pc∧c.pc≤B+1;omega,by rw [e];omega⟩,fun h=> ?_⟩
  · exact List.getElem?_set_ne (fun e=>hk e.symm)
  · show (c.blocks.set a b).length=_
    simp
  · omega
  · exact ⟨if_pos h,if_pos h⟩
  · rw [Amz hc hB] at h
    rw [if_pos h] at hFW
    exact hFW
theorem Ad9 {c:Chip} {a:Nat} {b:Blk} (up:Up c):(Gb (ce c) a b).off=El c:=by
  show (if c.after<0 then c.off else decide (c.after=0))=_
  unfold El
  split
  · exact up.off
  · rfl
theorem Uc {c:Chip} {a:Nat} {b b':Blk} (hb:c.blocks[a]? =some b'):(Gb (ce c) a b).blocks[a]? =some b:=by
  have:=(List.getElem?_eq_some_iff.1 hb).1
  show (c.blocks.set a b)[a]? =_
  simp [this]
theorem Af5 {b:Blk} {m j:Nat} (h:j<8):(D3 b m).pages[j]=if j<m then A0 else b.pages[j]:=by simp [D3]
theorem Nj {c:Chip} {a:Nat} {b:Blk} {B:Int} (up:Up c) (hb:c.blocks[a]? =some b) (hbad:b.bad=false) (hc:Cnt c B) (hB:B<8000000000000000000):∃ e c',B3 c a=(e,c')∧EraseR c a b e c'∧Cnt c' (B+1):=by
  have hi:a<c.blocks.length:=(List.getElem?_eq_some_iff.1 hb).1
  have hm:Aww c a 0=0:=Abo (j:=0) up hi (by omega)
  have hb':c.blocks[((a:Nat):Int).toNat]? =some b:=by simpa using hb
  cases he:El c with
  | true =>
    refine ⟨30,_,Tz hm hb' he,?_⟩
    rw [Int.toNat_natCast]
    obtain ⟨h1,h2,_⟩:=Am1 (a:=a) (b:=D3 { b with next:=8 } (Bl c.keep 8)) hc (by omega)
    exact ⟨⟨h1,⟨_,Uc hb,⟨⟨by simp [D3],by simp [D3]⟩,fun j h h2=>(by simp only [D3] at h2;omega)⟩,rfl,fun j h=>by rw [Af5 h];split;exact .inl rfl;exact .inr rfl,fun h=>by cases h⟩,.inl ⟨rfl,(Ad9 up).trans he,O3 he⟩⟩,h2⟩
  | false =>
    cases hf:Rb c with
    | true =>
      refine ⟨33,_,T0 hm hb' he (by rw [hf];rfl),?_⟩
      rw [Int.toNat_natCast]
      obtain ⟨h1,h2,h3⟩:=Am1 (a:=a) (b:={ b with next:=8 }) hc (by omega)
      exact ⟨⟨h1,⟨_,Uc hb,⟨⟨by simp,by simp⟩,fun j h h2=>(by simp only at h2;omega)⟩,rfl,fun j h=> .inr rfl,fun h=>by cases h⟩,.inr (.inl ⟨rfl,(Ad9 up).trans he,h3 hf⟩)⟩,h2⟩
    | false =>
      refine ⟨0,_,Aba hm hb' he (by rw [hf,hbad];rfl),?_⟩
      rw [Int.toNat_natCast]
      obtain ⟨h1,h2,h3⟩:=Am1 (a:=a) (b:={ D3 { b with next:=8 } 8 with next:=0 }) hc (by omega)
      have hpg:∀ (j:Nat) (h:j<8),({ D3 { b with next:=8 } 8 with next:=0 }:Blk).pages[j]=A0:=fun j h=>by
        show (D3 { b with next:=8 } 8).pages[j]=A0
        rw [Af5 h,if_pos h]
      exact ⟨⟨h1,⟨_,Uc hb,⟨⟨by simp,by simp⟩,fun j h _=>hpg j h⟩,rfl,fun j h=> .inl (hpg j h),fun _=>rfl⟩,.inr (.inr ⟨rfl,(Ad9 up).trans he⟩)⟩,h2⟩
structure Hold (c:Chip) (v:Nat) (u l:List Int) (a:Nat):Prop where
  ok:OkP c.blocks.length u l
  a2:a<2
  bs:∀ k<2,∃ b,c.blocks[k]? =some b∧BI b∧b.bad=false
  le:∀ k<2,∀ b,c.blocks[k]? =some b→∀ (j:Nat) (h:j<8) (w:Nat) (u' l':List Int),RP c.blocks.length b.pages[j]=some (w,u',l')→w≤v∧(w=v→u'=u∧l'=l)
  ex:∃ b,c.blocks[a]? =some b∧∃ (j:Nat) (h:j<8),RP c.blocks.length b.pages[j]=some (v,u,l)
theorem Ud:Bs A0=true:=H6
theorem Ly {n:Nat}:RP n A0=none:=Av9 Ud
theorem Hold.put {c c':Chip} {v:Nat} {u l u' l':List Int} {a k:Nat} {V:Wd} {b:Blk} {i' e:Int} (h:Hold c v u l a) (hk:k<2) (hb:c.blocks[k]? =some b) (hV:V.toNat=v+1) (ok:OkP c.blocks.length u' l')
    (r:PutR c k b (Ea V c.blocks.length u' l') i' e c'):(e=0→Hold c' (v+1) u' l' k)∧(e=30→Hold c' v u l a∨Hold c' (v+1) u' l' k)∧(e=34→Hold c' v u l a):=by
  obtain ⟨b',k1,k2,k3,k4,k5,k6,k7⟩:=r.blk
  have hq:=Af1 (v:=V) ok
  rw [hV] at hq
  generalize Ea V c.blocks.length u' l'=q at *
  obtain ⟨b0,hb0,hbi,_⟩:=h.bs k hk
  rw [hb] at hb0
  cases hb0
  have hbs:∀ i<2,∃ b,c'.blocks[i]? =some b∧BI b∧b.bad=false:=fun i hi=>by
    by_cases e1:i=k
    · subst e1;exact ⟨b',k1,k2,k3⟩
    · rw [r.fr.oth i e1];exact h.bs i hi
  have hpg:∀ (j:Nat) (hj:j<8),(RP c.blocks.length b'.pages[j]=none∨∃ (hlt:(j:Int)<b.next),b'.pages[j]=b.pages[j])∨(b'.pages[j]=q∧(e=0∨e=30)):=fun j hj=>by
    rcases (show (j:Int)<b.next∨b.next≤j by omega) with h1 | h1
    · exact .inl (.inr ⟨h1,k5 j hj h1⟩)
    · rcases k6 j hj h1 with h2 | ⟨m,h2,h3⟩
      · exact .inl (.inl (by rw [h2];exact Ly))
      · rcases Nat.lt_or_ge m 258 with hm | hm
        · exact .inl (.inl (by rw [h2];exact Amx hm))
        · rw [Fu hm] at h2
          exact .inr ⟨h2,by rcases h3 with h3 | h3;omega;exact h3⟩
  have hnew:(∃ (j:Nat) (hj:j<8),b'.pages[j]=q)→Hold c' (v+1) u' l' k:=fun ⟨j0,hj0,h0⟩=>by
    refine ⟨by rw [r.fr.len];exact ok,hk,hbs,fun i hi b2 hb2 j hj w u2 l2 hw=> ?_,⟨b',k1,j0,hj0,by rw [r.fr.len,h0];exact hq⟩⟩
    rw [r.fr.len] at hw
    by_cases e1:i=k
    · subst e1
      rw [k1] at hb2
      cases hb2
      rcases hpg j hj with (h1 | ⟨h1,h2⟩) | ⟨h1,_⟩
      · rw [h1] at hw;cases hw
      · rw [h2] at hw
        have:=(h.le i hi b hb j hj w u2 l2 hw).1
        exact ⟨by omega,fun e2=>by omega⟩
      · rw [h1,hq] at hw
        simp only [Option.some.injEq,Prod.mk.injEq] at hw
        obtain ⟨h3,h4,h5⟩:=hw
        exact ⟨by omega,fun _=>⟨h4.symm,h5.symm⟩⟩
    · rw [r.fr.oth i e1] at hb2
      have:=(h.le i hi b2 hb2 j hj w u2 l2 hw).1
      exact ⟨by omega,fun e2=>by omega⟩
  have hold:(∀ (j:Nat) (hj:j<8),RP c.blocks.length b'.pages[j]=none∨∃ (hlt:(j:Int)<b.next),b'.pages[j]=b.pages[j])→Hold c' v u l a:=fun hall=>by
    refine ⟨by rw [r.fr.len];exact h.ok,h.a2,hbs,fun i hi b2 hb2 j hj w u2 l2 hw=> ?_,?_⟩
    · rw [r.fr.len] at hw
      by_cases e1:i=k
      · subst e1
        rw [k1] at hb2
        cases hb2
        rcases hall j hj with h1 | ⟨h1,h2⟩
        · rw [h1] at hw;cases hw
        · rw [h2] at hw
          exact h.le i hi b hb j hj w u2 l2 hw
      · rw [r.fr.oth i e1] at hb2
        exact h.le i hi b2 hb2 j hj w u2 l2 hw
    · obtain ⟨b2,hb2,j,hj,hr⟩:=h.ex
      rw [r.fr.len]
      by_cases e1:a=k
      · subst e1
        rw [hb] at hb2
        cases hb2
        have hlt:(j:Int)<b.next:=by
          rcases (show (j:Int)<b.next∨b.next≤j by omega) with h1 | h1
          · exact h1
          · rw [hbi.bl j hj h1,Ly] at hr;cases hr
        exact ⟨b',k1,j,hj,by rw [k5 j hj hlt];exact hr⟩
      · exact ⟨b2,by rw [r.fr.oth a e1];exact hb2,j,hj,hr⟩
  have hdec:(∃ (j:Nat) (hj:j<8),b'.pages[j]=q)∨(∀ (j:Nat) (hj:j<8),RP c.blocks.length b'.pages[j]=none∨∃ (hlt:(j:Int)<b.next),b'.pages[j]=b.pages[j]):=by
    by_cases hx:∃ (j:Nat) (hj:j<8),b'.pages[j]=q
    · exact .inl hx
    · refine .inr fun j hj=> ?_
      rcases hpg j hj with h1 | ⟨h1,_⟩
      · exact h1
      · exact absurd ⟨j,hj,h1⟩ hx
  refine ⟨fun e0=> ?_,fun e0=> ?_,fun e0=> ?_⟩
  · obtain ⟨j,hj,_,_,_,h1⟩:=k7 e0
    exact hnew ⟨j,hj,h1⟩
  · rcases hdec with h1 | h1
    · exact .inr (hnew h1)
    · exact .inl (hold h1)
  · refine hold fun j hj=> ?_
    rcases hpg j hj with h1 | ⟨_,h1⟩
    · exact h1
    · omega
theorem Hold.erase {c c':Chip} {v:Nat} {u l:List Int} {a k:Nat} {b:Blk} {e:Int} (h:Hold c v u l a) (hk:k≠a) (hb:c.blocks[k]? =some b) (hbad:b.bad=false) (r:EraseR c k b e c'):Hold c' v u l a:=by
  obtain ⟨b',k1,k2,k3,k4,k5⟩:=r.blk
  refine ⟨by rw [r.fr.len];exact h.ok,h.a2,fun i hi=> ?_,fun i hi b2 hb2 j hj w u2 l2 hw=> ?_,?_⟩
  · by_cases e1:i=k
    · subst e1;exact ⟨b',k1,k2,k3.trans hbad⟩
    · rw [r.fr.oth i e1];exact h.bs i hi
  · rw [r.fr.len] at hw
    by_cases e1:i=k
    · subst e1
      rw [k1] at hb2
      cases hb2
      rcases k4 j hj with h1 | h1
      · rw [h1,Ly] at hw;cases hw
      · rw [h1] at hw;exact h.le i hi b hb j hj w u2 l2 hw
    · rw [r.fr.oth i e1] at hb2
      exact h.le i hi b2 hb2 j hj w u2 l2 hw
  · obtain ⟨b2,hb2,j,hj,hr⟩:=h.ex
    rw [r.fr.len]
    exact ⟨b2,by rw [r.fr.oth a (fun e1=>hk e1.symm)];exact hb2,j,hj,hr⟩
def TI (c:Chip) (t:TS):Prop:=∃ a:Nat,t.area=a∧Hold c t.version.toNat t.uses t.lost a∧∃ b,c.blocks[a]? =some b∧0≤t.next∧t.next≤b.next
structure Fr2 (c c':Chip):Prop where
  oth:∀ k,2≤k→c'.blocks[k]? =c.blocks[k]?
  len:c'.blocks.length=c.blocks.length
  dead:c'.dead=c.dead
  out:c'.out=c.out
  aP:c'.aP=c.aP
  aC:c'.aC=c.aC
  aB:c'.aB=c.aB
  pf:c'.pf=c.pf
  wf:c'.wf=c.wf
  fp:FP c'≤FP c
  fw:FW c'≤FW c
  pos:c.after<0→c'.after=c.after∧c'.off=c.off
  keep:c'.keep=c.keep
theorem Fr.two {a:Nat} {c c':Chip} (h:Fr a c c') (ha:a<2):Fr2 c c':=⟨fun k hk=>h.oth k (by omega),h.len,h.dead,h.out,h.aP,h.aC,h.aB,h.pf,h.wf,h.fp,h.fw,h.pos,h.keep⟩
theorem Fr2.trans {c c' c'':Chip} (h:Fr2 c c') (k:Fr2 c' c''):Fr2 c c'' :=
  ⟨fun i hi=>(k.oth i hi).trans (h.oth i hi),k.len.trans h.len,k.dead.trans h.dead,k.out.trans h.out,k.aP.trans h.aP,k.aC.trans h.aC,k.aB.trans h.aB,k.pf.trans h.pf,k.wf.trans h.wf,Nat.le_trans k.fp h.fp,Nat.le_trans k.fw h.fw,
    fun hp=>by
      obtain ⟨h1,h2⟩:=h.pos hp
      obtain ⟨h3,h4⟩:=k.pos (by omega)
      exact ⟨h3.trans h1,h4.trans h2⟩,k.keep.trans h.keep⟩
def Awa (c:Chip) (v:Nat) (u l u' l':List Int) (a:Nat) (s:KS):Prop :=
  (s.e=0∧s.c.off=false∧∃ k,s.area=(k:Nat)∧Hold s.c (v+1) u' l' k∧∃ b,s.c.blocks[k]? =some b∧0≤s.next∧s.next≤b.next) ∨
  (s.e=30∧s.c.off=true∧¬ c.after<0∧(Hold s.c v u l a∨∃ k,Hold s.c (v+1) u' l' k))
theorem Up.of {c c':Chip} (h:Up c) (hd:c'.dead=c.dead) (ho:c'.out=c.out) (hf:c'.off=false):Up c':=⟨hf,hd.trans h.dead,ho.trans h.out⟩
theorem Af6 {c:Chip} {a:Int} {i:Nat} {q:Pg}:Ge c a i q=Fz (8 - i) c a i q:=by
  unfold Ge
  congr 1
  omega
theorem Wx {v:Nat} {u l u' l':List Int} {a n:Nat} {V:Wd} (ha:a<2) (hV:V.toNat=v+1) (ok:OkP n u' l') :
    ∀ (f:Nat) (s:KS) (B:Int),s.e=34→s.c.blocks.length=n→Hold s.c v u l a→Up s.c→FP s.c≤7→FW s.c<f→Cnt s.c B→B+100*f<8000000000000000000 →
      Awa s.c v u l u' l' a (Di f (a:Nat) (Ea V n u' l') s)∧Fr2 s.c (Di f (a:Nat) (Ea V n u' l') s).c∧Cnt (Di f (a:Nat) (Ea V n u' l') s).c (B+9*f)
  | 0,s,B,he,hn,h,up,hfp,hfw,hc,hB=>by omega
  | f+1,s,B,he,hn,h,up,hfp,hfw,hc,hB=>by
    obtain ⟨b,hb,hbi,hbad⟩:=h.bs (1 - a) (by omega)
    obtain ⟨e,c1,h1,h2,h3⟩:=Nj up hb hbad hc (by omega)
    have hra:(1:Int) - (a:Nat)=((1 - a:Nat):Int):=by omega
    have hold1:=h.erase (k:=1 - a) (by omega) hb hbad h2
    unfold Di
    rw [if_pos he]
    unfold Gw
    simp only []
    rw [hra,h1]
    simp only []
    rcases h2.how with ⟨rfl,q1,q2⟩ | ⟨rfl,q1,q2⟩ | ⟨rfl,q1⟩
    · rw [if_neg (by decide),if_neg (by decide)]
      have hk:Di f (a:Nat) (Ea V n u' l') ⟨((1 - a:Nat):Int),s.next,30,c1⟩=⟨((1 - a:Nat):Int),s.next,30,c1⟩:=by
        cases f with
        | zero=>rfl
        | succ f=>unfold Di;rw [if_neg (show ¬ (30:Int)=34 by decide)]
      rw [hk]
      exact ⟨.inr ⟨rfl,q1,q2,.inl hold1⟩,h2.fr.two (by omega),⟨by have:=h3.p0;simp only;omega,by have:=h3.w0;simp only;omega⟩⟩
    · rw [if_neg (by decide),if_pos rfl]
      have up1:=up.of h2.fr.dead h2.fr.out q1
      obtain ⟨r1,r2,r3⟩:=Wx ha hV ok f ⟨((1 - a:Nat):Int),s.next,s.e,c1⟩ (B+1) he (h2.fr.len.trans hn) hold1 up1 (by have:=h2.fr.fp;simp only;omega) (by simp only;omega) h3 (by omega)
      refine ⟨?_,(h2.fr.two (by omega)).trans r2,⟨by have:=r3.p0;omega,by have:=r3.w0;omega⟩⟩
      rcases r1 with r1 | ⟨r1,r4,r5,r6⟩
      · exact .inl r1
      · exact .inr ⟨r1,r4,fun hp=>r5 (by show c1.after<0;rw [(h2.fr.pos hp).1];exact hp),r6⟩
    · rw [if_pos rfl]
      have up1:=up.of h2.fr.dead h2.fr.out q1
      obtain ⟨b1,k1,k2,k3,k4,k5⟩:=h2.blk
      have hp0:Ge c1 ((1 - a:Nat):Int) 0 (Ea V n u' l')=Fz 8 c1 ((1 - a:Nat):Int) ((0:Nat):Int) (Ea V n u' l'):=Af6 (i:=0)
      obtain ⟨i',e,c2,p1,p2,p3⟩:=O4 (a:=1 - a) (q:=Ea V n u' l') 8 c1 0 b1 (B+1) (by omega) up1 k1 (k3.trans hbad) k2 (by rw [k5 rfl];exact Int.le_refl _) h3 (by omega)
      rw [hp0,p1]
      simp only []
      have hlen1:c1.blocks.length=n:=h2.fr.len.trans hn
      have hp:=hold1.put (k:=1 - a) (V:=V) (u':=u') (l':=l') (by omega) k1 hV (by rw [hlen1];exact ok) (by rw [hlen1];exact p2)
      have hkk:e≠34→Di f (a:Nat) (Ea V n u' l') ⟨((1 - a:Nat):Int),i',e,c2⟩=⟨((1 - a:Nat):Int),i',e,c2⟩:=fun hne=>by
        cases f with
        | zero=>rfl
        | succ f=>unfold Di;rw [if_neg hne]
      have hfr:=(h2.fr.two (by omega)).trans (p2.fr.two (by omega))
      rcases p2.how with ⟨rfl,q2,q3⟩ | ⟨rfl,q2⟩ | ⟨rfl,q2,q3,q4⟩
      · rw [hkk (by decide)]
        refine ⟨.inr ⟨rfl,q2,fun hpo=>q3 (by rw [(h2.fr.pos hpo).1];exact hpo),?_⟩,hfr,⟨by have:=p3.p0;simp only;omega,by have:=p3.w0;simp only;omega⟩⟩
        rcases hp.2.1 rfl with h5 | h5
        · exact .inl h5
        · exact .inr ⟨_,h5⟩
      · rw [hkk (by decide)]
        obtain ⟨b2,m1,m2,m3,m4,m5,m6,m7⟩:=p2.blk
        obtain ⟨j,hj,_,n2,n3,_⟩:=m7 rfl
        exact ⟨.inl ⟨rfl,q2,1 - a,rfl,hp.1 rfl,b2,m1,by simp only;omega,by simp only;omega⟩,hfr,⟨by have:=p3.p0;simp only;omega,by have:=p3.w0;simp only;omega⟩⟩
      · have h9:=k5 rfl
        have h10:=h2.fr.fp
        rw [h9] at q4
        have:(8 - (0:Int)).toNat=8:=rfl
        omega
theorem Ais {c:Chip} {t:TS} {u l:List Int} {B:Int} (up:Up c) (h:TI c t) (hv:t.version.toNat+1<18446744073709551616) (ok:OkP c.blocks.length u l) (hfp:FP c≤7) (hfw:FW c≤3) (hc:Cnt c B) (hB:B+1000<8000000000000000000) :
    ∃ e t' c',B6 t u l c=(e,t',c')∧Fr2 c c'∧Cnt c' (B+100) ∧
      ((e=0∧Up c'∧TI c' t'∧t'.uses=u∧t'.lost=l∧t'.version.toNat=t.version.toNat+1) ∨
       (e=30∧c'.off=true∧¬ c.after<0∧t'=t∧((∃ a,Hold c' t.version.toNat t.uses t.lost a)∨∃ a,Hold c' (t.version.toNat+1) u l a))):=by
  obtain ⟨a,ha,hh,b,hb,hn0,hn1⟩:=h
  have hV:(t.version+1).toNat=t.version.toNat+1:=by
    rw [BitVec.toNat_add]
    show (t.version.toNat+1) % 2 ^ 64=_
    exact Nat.mod_eq_of_lt hv
  obtain ⟨b0,hb0,hbi,hbad⟩:=hh.bs a hh.a2
  rw [hb] at hb0
  cases hb0
  have hnx:=hbi.nx
  obtain ⟨i,hi⟩:∃ i:Nat,t.next=i:=⟨t.next.toNat,by omega⟩
  obtain ⟨i',e,c1,p1,p2,p3⟩:=O4 (a:=a) (q:=Ea (t.version+1) c.blocks.length u l) (8 - i) c i b B (by omega) up hb hbad hbi (by omega) hc (by omega)
  have hp0:Ge c t.area t.next (Ea (t.version+1) c.blocks.length u l)=(i',e,c1):=by rw [ha,hi,Af6];exact p1
  have hp:=hh.put (k:=a) (V:=t.version+1) (u':=u) (l':=l) hh.a2 hb hV ok p2
  have hS:Fl t u l c=Di 4 (a:Nat) (Ea (t.version+1) c.blocks.length u l) ⟨(a:Nat),i',e,c1⟩:=by
    unfold Fl
    simp only []
    rw [hp0,ha]
  have key:Awa c t.version.toNat t.uses t.lost u l a (Fl t u l c)∧Fr2 c (Fl t u l c).c∧Cnt (Fl t u l c).c (B+100):=by
    rw [hS]
    have hfr:=p2.fr.two hh.a2
    have hkk:e≠34→Di 4 (a:Nat) (Ea (t.version+1) c.blocks.length u l) ⟨(a:Nat),i',e,c1⟩=⟨(a:Nat),i',e,c1⟩:=fun hne=>by
      unfold Di;rw [if_neg hne]
    rcases p2.how with ⟨rfl,q2,q3⟩ | ⟨rfl,q2⟩ | ⟨rfl,q2,q3,q4⟩
    · rw [hkk (by decide)]
      refine ⟨.inr ⟨rfl,q2,q3,?_⟩,hfr,⟨by have:=p3.p0;simp only;omega,by have:=p3.w0;simp only;omega⟩⟩
      rcases hp.2.1 rfl with h5 | h5
      · exact .inl h5
      · exact .inr ⟨_,h5⟩
    · rw [hkk (by decide)]
      obtain ⟨b2,m1,m2,m3,m4,m5,m6,m7⟩:=p2.blk
      obtain ⟨j,hj,_,n2,n3,_⟩:=m7 rfl
      exact ⟨.inl ⟨rfl,q2,a,rfl,hp.1 rfl,b2,m1,by simp only;omega,by simp only;omega⟩,hfr,⟨by have:=p3.p0;simp only;omega,by have:=p3.w0;simp only;omega⟩⟩
    · have h10:=p2.fr.fp
      have h11:=p2.fr.fw
      have hlen:c1.blocks.length=c.blocks.length:=p2.fr.len
      obtain ⟨r1,r2,r3⟩:=Wx (n:=c.blocks.length) (V:=t.version+1) (u:=t.uses) (l:=t.lost) hh.a2 hV ok 4 ⟨(a:Nat),i',34,c1⟩ (B+8) rfl hlen (hp.2.2 rfl) (up.of p2.fr.dead p2.fr.out q2) (by simp only;omega) (by simp only;omega) ⟨by have:=p3.p0;simp only;omega,by have:=p3.w0;simp only;omega⟩ (by omega)
      refine ⟨?_,hfr.trans r2,⟨by have:=r3.p0;omega,by have:=r3.w0;omega⟩⟩
      rcases r1 with r1 | ⟨r1,r4,r5,r6⟩
      · exact .inl r1
      · exact .inr ⟨r1,r4,fun hpo=>r5 (by show c1.after<0;rw [(p2.fr.pos hpo).1];exact hpo),r6⟩
  obtain ⟨k1,k2,k3⟩:=key
  generalize hs:Fl t u l c=s at *
  rcases k1 with ⟨e0,h1,k,h2,h3,b2,h4,h5,h6⟩ | ⟨e0,h1,h2,h3⟩
  · refine ⟨0,⟨u,l,t.version+1,s.area,s.next,s.next - 1⟩,s.c,?_,k2,k3,.inl ⟨rfl,up.of k2.dead k2.out h1,⟨k,h2,?_,b2,h4,h5,h6⟩,rfl,rfl,hV⟩⟩
    · unfold B6
      simp only [hs]
      rw [if_neg (by rw [e0];decide)]
    · show Hold s.c (t.version+1).toNat u l k
      rw [hV];exact h3
  · refine ⟨30,t,s.c,?_,k2,k3,.inr ⟨rfl,h1,h2,rfl,?_⟩⟩
    · unfold B6
      simp only [hs]
      rw [if_pos (by rw [e0];decide),e0]
    · rcases h3 with h3 | h3
      · exact .inl ⟨a,h3⟩
      · exact .inr h3
theorem Ait {c:Chip} {v a:Nat} {u l:List Int} (up:Up c) (h:Hold c v u l a):∃ t,Dj c=(0,t)∧TI c t∧t.uses=u∧t.lost=l∧t.version.toNat=v:=by
  have hlen:2≤c.blocks.length:=by have:=h.ok.n1;omega
  have hm:Aww c 0 0=0:=Abo (i:=0) (j:=0) up (by omega) (by omega)
  have hrd:∀ k<2,∀ b,c.blocks[k]? =some b→∀ (j:Nat) (hj:j<8),B0 c (k:Nat) (j:Nat)=b.pages[j]:=fun k hk b hb j hj=>Ot (Abo up (by omega) hj) hb hj
  obtain ⟨b,hb,j,hj,hr⟩:=h.ex
  obtain ⟨t,ho,hi⟩:=Ad7 hm h.a2 hj (by rw [hrd a h.a2 b hb j hj];exact hr)
  refine ⟨t,ho,?_⟩
  obtain ⟨k,hk⟩:∃ k:Nat,t.area=k:=⟨t.area.toNat,by have:=hi.area;omega⟩
  have hk2:k<2:=by have:=hi.area;omega
  obtain ⟨b2,hb2,hbi2,_⟩:=h.bs k hk2
  obtain ⟨⟨r1,r2⟩,r3⟩:=hi.rc
  obtain ⟨j2,hj2⟩:∃ j:Nat,t.at'=j:=⟨t.at'.toNat,by omega⟩
  have hj28:j2<8:=by omega
  rw [hk,hj2,hrd k hk2 b2 hb2 j2 hj28] at r3
  have h1:=h.le k hk2 b2 hb2 j2 hj28 _ _ _ r3
  have h2:=hi.le a h.a2 j hj v u l (by rw [hrd a h.a2 b hb j hj];exact hr)
  have hv:t.version.toNat=v:=by omega
  obtain ⟨h3,h4⟩:=h1.2 hv
  refine ⟨⟨k,hk,?_,b2,hb2,hi.l0.1,?_⟩,h3,h4,hv⟩
  · rw [hv,h3,h4]
    refine ⟨h.ok,hk2,h.bs,h.le,⟨b2,hb2,j2,hj28,?_⟩⟩
    rw [r3,hv,h3,h4]
  · rcases (show t.next≤b2.next∨b2.next<t.next by omega) with h5 | h5
    · exact h5
    · exfalso
      have hnx:=hbi2.nx
      have hl:=hi.l0
      have hnb:=hi.nb (by omega)
      obtain ⟨i,hi2⟩:∃ i:Nat,t.next - 1=i:=⟨(t.next - 1).toNat,by omega⟩
      rw [hk,hi2,hrd k hk2 b2 hb2 i (by omega),hbi2.bl i (by omega) (by omega),Ud] at hnb
      cases hnb
end
section
open Go.K
instance und3:Und Tryz.prog 3 (.int .i64):=⟨Tryz.underlying3⟩
instance agg3:Agg Tryz.prog 3 false:=⟨⟨_,Tryz.underlying3,rfl⟩⟩
instance siz3:Siz Tryz.prog 3 1:=⟨by kernel_rfl⟩
instance und5:Und Tryz.prog 5 (.int .u8):=⟨Tryz.underlying5⟩
instance agg5:Agg Tryz.prog 5 false:=⟨⟨_,Tryz.underlying5,rfl⟩⟩
instance siz5:Siz Tryz.prog 5 1:=⟨by kernel_rfl⟩
instance und9:Und Tryz.prog 9 .string:=⟨Tryz.underlying9⟩
instance und85:Und Tryz.prog 85 (.slice 3):=⟨Tryz.underlying85⟩
instance agg85:Agg Tryz.prog 85 false:=⟨⟨_,Tryz.underlying85,rfl⟩⟩
instance siz85:Siz Tryz.prog 85 1:=⟨by kernel_rfl⟩
instance ent81:Ent Tryz.prog 81:=⟨fun _ _=>by kernel_rfl⟩
instance ent127:Ent Tryz.prog 127:=⟨fun _ _=>by kernel_rfl⟩
instance ent186:Ent Tryz.prog 186:=⟨fun _ _=>by kernel_rfl⟩
instance ent217:Ent Tryz.prog 217:=⟨fun _ _=>by kernel_rfl⟩
instance wide:Wide Tryz.prog:=⟨by kernel_rfl⟩
theorem Zs {x:By}:Does Tryz.prog 186 [.int .u8 x.toNat] [] (Is (.int .i64 (G2 x)) []):=by
 refine Ah (n:=6) Tryz.func186 Tryz.ntmps186 rfl (Nat.le_of_ble_eq_true rfl)<|Ad<|Aa fun ops=>oA rfl<|Ac<|n_K<|Ad<|Aa fun ops=>oM rfl ?_
 refine oR (Jm rfl rfl (Int.natCast_nonneg _) (Xi x)) ?_
 refine oR (C4 rfl)<|oA rfl<|Ac<|n_K<|An ?_
 refine Aq (At Tryz.results186 (Ag rfl)) ?_ sP
 exact congrArg (Value.int .i64) (Apc x)
theorem Ape {x:By}:Does Tryz.prog 217 [.int .u8 x.toNat] [] (Is (.int .i64 (Pp x)) []):=by
 refine Ah (n:=6) Tryz.func217 Tryz.ntmps217 rfl (Nat.le_of_ble_eq_true rfl)<|Ad<|Aa fun ops=>oA rfl<|Ac<|n_K<|Ad<|Aa fun ops=>oM rfl ?_
 refine oR (Jm rfl rfl (Int.natCast_nonneg _) (Apb x)) ?_
 refine oR (C4 rfl)<|oA rfl<|Ac<|n_K<|An ?_
 refine Aq (At Tryz.results217 (Ag rfl)) ?_ sP
 exact congrArg (Value.int .i64) (Apd x)
abbrev tI:TypeId:=3
theorem Aju {v:Int} {s:Sl Int} {T:TypeId} :
  Does Tryz.prog 127 [s.val,.int .i64 v] (s.hp T) (Is (.int .i64 (idx s.list v)) (s.hp T)):=by
 refine Ah (n:=19) Tryz.func127 Tryz.ntmps127 rfl (Nat.le_of_ble_eq_true rfl)<|Ad<|Aa fun ops=>oA rfl<|Ac<|n_K<|Ad<|Ad<|Aa fun ops=>oM rfl<|oR (A7 rfl)<|oM rfl<|Ac<|n_K ?_
 refine Ak ?_
 have hsm:=s.small
 refine D7 [0,1,7] kQ (fun i=>[(8,.int .i64 i)]) (fun i=>0≤i∧i≤s.list.length∧∀ k:Int,0≤k→k<i→at0 s.list k≠v) (fun i=>((s.list.length:Int) - i).toNat) ((0:Int)) ⟨by omega,by omega,by intro k h0 h1;omega⟩ kP ?_
 rintro i ⟨h0,h1,h2⟩
 refine Ad<|Aa fun ops=>oR (Ae rfl rfl rfl)<|Ac<|n_K<|Ad ?_
 refine Aj rfl (fun c9=> ?_) (fun c9=> ?_)
 ·try simp at c9
  refine Ai<|n_K<|Ad<|Ak<|Ad<|Aa fun ops=>oM rfl<|oA rfl<|Ac<|n_K<|Ad<|Aa fun ops=>oM rfl<|oM rfl ?_
  refine oM rfl ?_
  refine oR (Bk rfl rfl ⟨h0,c9⟩) ?_
  refine oR (C0 (o:=0) rfl pL (Hz h0 c9) rfl rfl) ?_
  refine oR (Ae rfl rfl rfl)<|Ac<|n_K ?_
  refine Aj rfl (fun c16=> ?_) (fun c16=> ?_)
  ·simp at c16
   refine Ad<|Aa fun ops=>oM rfl<|oA rfl<|Ac<|n_K<|An<|Bn<|r_K<|r_K<|Bn<|r_K ?_
   refine Aq (At Tryz.results127 (Ag rfl)) ?_ sP
   rw [Ath i h0 c9 h2 c16.symm]
  ·simp at c16
   refine Ai<|Az<|n_K<|Aa fun ops=> ?_
   refine oR (Ao rfl rfl (by omega)) ?_
   refine oM rfl<|Ac<|n_K ?_
   exact ⟨i+1,⟨by omega,by omega,Zr h2 (fun e=>c16 e.symm)⟩,(by omega),lZ⟩
 ·try simp at c9
  refine Bb<|x_K<|x_K<|Bj<|n_K<|Ad<|Aa fun ops=>oA rfl<|Ac<|n_K<|An ?_
  refine Aq (At Tryz.results127 (Ag rfl)) ?_ sP
  rw [Ajt (fun k k0 k1=>h2 k k0 (by omega))]
theorem Hi {v:Int} {s:Sl Int} {T:TypeId} :
  Does Tryz.prog 81 [s.val,.int .i64 v] (s.hp T) (Is (.bool (E3 s.list v)) (s.hp T)):=by
 refine Ah (n:=9) Tryz.func81 Tryz.ntmps81 rfl (Nat.le_of_ble_eq_true rfl)<|Ad<|Aa fun ops=>oA rfl<|Ac<|n_K<|Ad<|Aa fun ops=>oM rfl<|oM rfl ?_
 refine A6 rfl (Aju) sP rfl aQ ?_
 refine oR (Ae rfl rfl rfl)<|oA rfl<|Ac<|n_K<|An ?_
 refine Aq (At Tryz.results81 (Ag rfl)) ?_ sP
 rfl
end
section
open Go.K
instance agg4:Agg Tryz.prog 4 false:=⟨⟨_,Tryz.underlying4,rfl⟩⟩
instance siz4:Siz Tryz.prog 4 1:=⟨by kernel_rfl⟩
instance agg90:Agg Tryz.prog 90 false:=⟨⟨_,Tryz.underlying90,rfl⟩⟩
instance und91:Und Tryz.prog 91 (.slice 150):=⟨Tryz.underlying91⟩
instance agg91:Agg Tryz.prog 91 false:=⟨⟨_,Tryz.underlying91,rfl⟩⟩
instance und147:Und Tryz.prog 147 (.array 258 5):=⟨Tryz.underlying147⟩
instance agg147:Agg Tryz.prog 147 true:=⟨⟨_,Tryz.underlying147,rfl⟩⟩
instance siz147:Siz Tryz.prog 147 258:=⟨by kernel_rfl⟩
instance und148:Und Tryz.prog 148 (.array 8 147):=⟨Tryz.underlying148⟩
instance siz150:Siz Tryz.prog 150 2066:=⟨by kernel_rfl⟩
instance zer147:Zer Tryz.prog 147 (List.replicate 258 (.int .u8 0)):=⟨by kernel_rfl⟩
instance fld93_0:Fld Tryz.prog 93 0 0:=⟨⟨_,_,0,Tryz.underlying93,rfl,by kernel_rfl,rfl⟩⟩
instance fld93_1:Fld Tryz.prog 93 1 1:=⟨⟨_,_,0,Tryz.underlying93,rfl,by kernel_rfl,rfl⟩⟩
instance fld95_0:Fld Tryz.prog 95 0 0:=⟨⟨_,_,0,Tryz.underlying95,rfl,by kernel_rfl,rfl⟩⟩
instance fld95_1:Fld Tryz.prog 95 1 1:=⟨⟨_,_,0,Tryz.underlying95,rfl,by kernel_rfl,rfl⟩⟩
instance fld95_2:Fld Tryz.prog 95 2 2:=⟨⟨_,_,0,Tryz.underlying95,rfl,by kernel_rfl,rfl⟩⟩
instance fld95_3:Fld Tryz.prog 95 3 3:=⟨⟨_,_,0,Tryz.underlying95,rfl,by kernel_rfl,rfl⟩⟩
instance fld143_0:Fld Tryz.prog 143 0 0:=⟨⟨_,_,0,Tryz.underlying143,rfl,by kernel_rfl,rfl⟩⟩
instance fld143_1:Fld Tryz.prog 143 1 1:=⟨⟨_,_,0,Tryz.underlying143,rfl,by kernel_rfl,rfl⟩⟩
instance fld150_0:Fld Tryz.prog 150 0 0:=⟨⟨_,_,2063,Tryz.underlying150,rfl,by kernel_rfl,rfl⟩⟩
instance fld150_2:Fld Tryz.prog 150 2 2065:=⟨⟨_,_,0,Tryz.underlying150,rfl,by kernel_rfl,rfl⟩⟩
instance ent37:Ent Tryz.prog 37:=⟨fun _ _=>by kernel_rfl⟩
instance ent74:Ent Tryz.prog 74:=⟨fun _ _=>by kernel_rfl⟩
instance ent82:Ent Tryz.prog 82:=⟨fun _ _=>by kernel_rfl⟩
instance ent128:Ent Tryz.prog 128:=⟨fun _ _=>by kernel_rfl⟩
instance ent140:Ent Tryz.prog 140:=⟨fun _ _=>by kernel_rfl⟩
instance ent158:Ent Tryz.prog 158:=⟨fun _ _=>by kernel_rfl⟩
instance ent169:Ent Tryz.prog 169:=⟨fun _ _=>by kernel_rfl⟩
instance ent184:Ent Tryz.prog 184:=⟨fun _ _=>by kernel_rfl⟩
instance ent216:Ent Tryz.prog 216:=⟨fun _ _=>by kernel_rfl⟩
instance ent224:Ent Tryz.prog 224:=⟨fun _ _=>by kernel_rfl⟩
instance ent225:Ent Tryz.prog 225:=⟨fun _ _=>by kernel_rfl⟩
instance ent233:Ent Tryz.prog 233:=⟨fun _ _=>by kernel_rfl⟩
theorem Amd:Does Tryz.prog 128 [] [] (Is (.agg (vbc A0).toArray) []):=by
 refine Ah (n:=9) Tryz.func128 Tryz.ntmps128 rfl (Nat.le_of_ble_eq_true rfl)<|Ad<|Aa fun ops=> ?_
 refine Aw rfl fun b0=> ?_
 refine Ac<|n_K<|Ad<|Ad<|Aa fun ops=>oM rfl<|Ac<|n_K<|Ak ?_
 rw [Aqv]
 refine A8 [0] kQ (fun (s:Nat)=>[(2,.int .i64 s)]) (fun (s:Nat)=>[(b0,true,C (vbc (Kx s)) 147)]) (fun (s:Nat)=>s≤258) (fun (s:Nat)=>258 - s) ((0:Nat)) (by omega) kP sP ?_
 rintro i h0
 refine Ad<|Aa fun ops=>oR (Ae rfl rfl rfl)<|Ac<|n_K<|Ad ?_
 refine Aj rfl (fun c3=> ?_) (fun c3=> ?_)
 ·try simp at c3
  refine Ai<|n_K<|Ad<|Ak<|Ad<|Aa fun ops=>oM rfl<|oA rfl<|Ac<|n_K<|Aa fun ops=>oM rfl ?_
  refine oR (Gs rfl rfl (by omega)) ?_
  refine Af (cs':=vbc (Kx (i+1))) rfl rfl uD rfl rfl (by simpa using Adu (i:=i) (by omega)) ?_
  refine Ac<|Az<|n_K<|Aa fun ops=> ?_
  refine oR (Ao rfl rfl (by omega)) ?_
  refine oM rfl<|Ac<|n_K ?_
  exact ⟨i+1,(by omega),(by omega),lZ⟩
 ·try simp at c3
  refine Bb<|x_K<|x_K<|Bj<|n_K<|Ad<|Aa fun ops=> ?_
  refine oR (Au rfl mM (by first | exact Bg | rfl)) ?_
  first | refine Af rfl rfl uD (Ct) (Ar) (B2 (by first | exact Ar | exact List.length_replicate ..)) ?_ | refine Af rfl rfl uD rfl rfl rfl ?_
  refine Ac<|n_K<|An ?_
  refine Aq (At Tryz.results128 (Bv rfl mM (by first | exact Bg | rfl))) ?_ sP
  rw [show i=258 by omega,Aib]
abbrev tPw:TypeId:=143
abbrev tCh:TypeId:=95
abbrev tBk:TypeId:=150
abbrev ptr (p:Nat):Value:= .pointer (some ⟨p,0,none⟩)
@[irreducible] def chH (c:Chip):Hp:=(c.aP,true,C (pwc c) tPw)::(c.aC,true,C (chc c) tCh)::(c.aB,true,C (D8 c.blocks) tBk)::(c.pf.hp tI++(c.wf.hp tI++[]))
theorem Ef (c:Chip):chH c=(c.aP,true,C (pwc c) tPw)::(c.aC,true,C (chc c) tCh)::(c.aB,true,C (D8 c.blocks) tBk)::(c.pf.hp tI++(c.wf.hp tI++[])):=by unfold chH;rfl
section
variable {c:Chip} {i j:Int}
theorem Aue:Does Tryz.prog 37 [ptr c.aP] [(c.aP,true,C (pwc c) tPw)] (Is (.bool c.off) [(c.aP,true,C (pwc c) tPw)]):=by
 refine Ah (n:=7) Tryz.func37 Tryz.ntmps37 rfl (Nat.le_of_ble_eq_true rfl)<|Ad<|Aa fun ops=>oA rfl<|Ac<|n_K<|Ad<|Aa fun ops=>oM rfl<|oN rfl<|oF rfl ?_
 refine oR (Al rfl mM rfl) ?_
 refine oA rfl<|Ac<|n_K<|An ?_
 refine Aq (At Tryz.results37 (Ag rfl)) ?_ sP
 rfl
theorem Aq1:Does Tryz.prog 216 [ptr c.aC] [(c.aC,true,C (chc c) tCh)] (Is (.bool (!c.dead && !c.out)) [(c.aC,true,C (chc c) tCh)]):=by
 refine Ah (n:=15) Tryz.func216 Tryz.ntmps216 rfl (Nat.le_of_ble_eq_true rfl)<|Ad<|Aa fun ops=>oA rfl<|Ac<|n_K<|Ad ?_
 refine Bf [(5,8)] rfl fun ops y=> ?_
 refine oM rfl<|oN rfl<|oF rfl ?_
 refine oR (Al rfl mM rfl) ?_
 refine oR (Bx rfl)<|oM rfl ?_
 refine' Df (j:=5) (k:=5) y rfl rfl rfl rfl rfl rfl rfl (fun hg8=> ?_) ?_
 rotate_left
 ·try (simp at hg8;show _)
  refine o_g y rfl rfl ?_
  refine oM rfl ?_
  refine o_g y rfl rfl ?_
  refine oN rfl ?_
  refine o_g y rfl rfl ?_
  refine oF rfl ?_
  refine o_g y rfl rfl ?_
  refine oR (Al rfl mM rfl) ?_
  refine o_g y rfl rfl ?_
  refine oR (Bx rfl) ?_
  exact Ac ⟨rfl,rfl,⟨_,sP⟩⟩
 refine oA rfl<|Ac<|n_K<|An ?_
 refine Aq (At Tryz.results216 (Ag rfl)) ?_ sP
 rfl
theorem T1:Does Tryz.prog 74 [ptr c.aC,.int .i64 i] [(c.aC,true,C (chc c) tCh)] (Is (.bool (Ew c i)) [(c.aC,true,C (chc c) tCh)]):=by
 refine Ah (n:=16) Tryz.func74 Tryz.ntmps74 rfl (Nat.le_of_ble_eq_true rfl)<|Ad<|Aa fun ops=>oA rfl<|Ac<|n_K<|Ad ?_
 refine Bf [(2,7)] rfl fun ops y=> ?_
 refine oM rfl<|oR (Ae rfl rfl rfl)<|oM rfl ?_
 refine' Df (j:=2) (k:=7) y rfl rfl rfl rfl rfl rfl rfl (fun hg7=> ?_) ?_
 rotate_left
 ·try (simp at hg7;show _)
  refine o_g y rfl rfl ?_
  refine oM rfl ?_
  refine o_g y rfl rfl ?_
  refine oM rfl ?_
  refine o_g y rfl rfl ?_
  refine oN rfl ?_
  refine o_g y rfl rfl ?_
  refine oF rfl ?_
  refine o_g y rfl rfl ?_
  refine oR (Al rfl mM rfl) ?_
  refine o_g y rfl rfl ?_
  refine oR (A7 rfl) ?_
  refine o_g y rfl rfl ?_
  refine oR (Ae rfl rfl rfl) ?_
  exact Ac ⟨rfl,rfl,⟨_,sP⟩⟩
 refine oA rfl<|Ac<|n_K<|An ?_
 refine Aq (At Tryz.results74 (Ag rfl)) ?_ sP
 rfl
theorem Yh:Does Tryz.prog 184 [ptr c.aC,.int .i64 i,.int .i64 j] [(c.aP,true,C (pwc c) tPw),(c.aC,true,C (chc c) tCh)] (Is (.int .i64 (Aww c i j)) [(c.aP,true,C (pwc c) tPw),(c.aC,true,C (chc c) tCh)]):=by
 refine Ah (n:=30) Tryz.func184 Tryz.ntmps184 rfl (Nat.le_of_ble_eq_true rfl)<|Ad<|Aa fun ops=>oA rfl<|Ac<|n_K<|Ad<|Ak<|Ad<|Aa fun ops=>oM rfl<|oN rfl<|oF rfl ?_
 refine oR (Al rfl mM rfl) ?_
 refine A6 rfl (Aue) sP rfl aQ ?_
 refine oA rfl<|Ac<|n_K ?_
 refine Aj rfl (fun c7=> ?_) (fun c7=> ?_)
 ·skip
  refine Ad<|Aa fun ops=>oA rfl<|Ac<|n_K<|An<|Bn<|r_K ?_
  refine Aq (At Tryz.results184 (Ag rfl)) ?_ sP
  rw [Aww,if_pos c7]
 ·skip
  refine Ad<|Aa fun ops=>oM rfl ?_
  refine A6 rfl (Aq1) sP rfl aQ ?_
  refine oR (Bx rfl)<|oA rfl<|Ac<|n_K ?_
  refine Aj rfl (fun c13=> ?_) (fun c13=> ?_)
  ·skip
   refine Ad<|Aa fun ops=>oA rfl<|Ac<|n_K<|An<|Bn<|r_K ?_
   refine Aq (At Tryz.results184 (Ag rfl)) ?_ sP
   rw [Aww,if_neg (by rw [c7];exact Bool.false_ne_true),if_pos c13]
  ·skip
   refine Ad ?_
   refine Bf [(4,22),(8,26)] rfl fun ops y=> ?_
   refine oM rfl<|oM rfl ?_
   refine A6 rfl (T1) sP rfl aQ ?_
   refine oR (Bx rfl)<|oM rfl ?_
   refine' Es (j:=4) (k:=2) y rfl rfl rfl rfl rfl rfl rfl (fun hg22=> ?_) ?_
   rotate_left
   ·try (simp at hg22;show _)
    refine o_g y rfl rfl ?_
    refine oM rfl ?_
    refine o_g y rfl rfl ?_
    refine oR (Ae rfl rfl rfl) ?_
    exact Ac ⟨rfl,rfl,⟨_,sP⟩⟩
   refine oM rfl ?_
   refine' Es (j:=8) (k:=2) y rfl rfl rfl rfl rfl rfl rfl (fun hg26=> ?_) ?_
   rotate_left
   ·try (simp at hg26;show _)
    refine o_g y rfl rfl ?_
    refine oM rfl ?_
    refine o_g y rfl rfl ?_
    refine oR (Ae rfl rfl rfl) ?_
    exact Ac ⟨rfl,rfl,⟨_,sP⟩⟩
   refine oA rfl<|Ac<|n_K ?_
   refine Aj rfl (fun c17=> ?_) (fun c17=> ?_)
   ·skip
    refine Ad<|Aa fun ops=>oA rfl<|Ac<|n_K<|An<|Bn<|r_K ?_
    refine Aq (At Tryz.results184 (Ag rfl)) ?_ sP
    rw [Aww,if_neg (by rw [c7];exact Bool.false_ne_true),if_neg (by rw [c13];exact Bool.false_ne_true),if_pos c17]
   ·skip
    refine Ai<|Az<|n_K<|Ad<|Aa fun ops=>oA rfl<|Ac<|n_K<|An ?_
    refine Aq (At Tryz.results184 (Ag rfl)) ?_ sP
    rw [Aww,if_neg (by rw [c7];exact Bool.false_ne_true),if_neg (by rw [c13];exact Bool.false_ne_true),if_neg (by rw [c17];exact Bool.false_ne_true)]
theorem Fc:Does Tryz.prog 158 [ptr c.aC] (chH c) (Is (.int .i64 c.blocks.length) (chH c)):=by
 rw [Ef]
 refine Ah (n:=8) Tryz.func158 Tryz.ntmps158 rfl (Nat.le_of_ble_eq_true rfl)<|Ad<|Aa fun ops=>oA rfl<|Ac<|n_K<|Ad<|Aa fun ops=>oM rfl<|oN rfl<|oF rfl ?_
 refine oR (Al rfl mM rfl) ?_
 refine oR (A7 rfl)<|oA rfl<|Ac<|n_K<|An ?_
 refine Aq (At Tryz.results158 (Ag rfl)) ?_ sP
 rfl
theorem Yi:Does Tryz.prog 140 [ptr c.aC,.int .i64 i,.int .i64 j] (chH c) (Is (.tuple #[.agg (vbc (B0 c i j)).toArray,.int .i64 (Aww c i j)]) (chH c)):=by
 rw [Ef]
 refine Ah (n:=27) Tryz.func140 Tryz.ntmps140 rfl (Nat.le_of_ble_eq_true rfl)<|Ad<|Aa fun ops=> ?_
 refine Aw rfl fun b6=> ?_
 refine oA rfl<|Ac<|n_K<|Ad<|Ad<|Aa fun ops=>oM rfl<|oM rfl<|oM rfl ?_
 refine A6 rfl (Yh) sP rfl aQ ?_
 refine oA rfl<|Ac<|n_K<|Ad<|Aa fun ops=>oM rfl<|oR (Ae rfl rfl rfl)<|Ac<|n_K ?_
 refine Aj rfl (fun c14=> ?_) (fun c14=> ?_)
 ·skip
  refine Ad<|Aa fun ops=> ?_
  refine oR (show Rd _ _ _ _ (.agg (vbc Jv).toArray) from by (rw [← Cs];exact Tu)) ?_
  refine oM rfl ?_
  first | refine Af rfl rfl uD (Ct) (Ar) (B2 (by first | exact Ar | exact List.length_replicate ..)) ?_ | refine Af rfl rfl uD rfl rfl rfl ?_
  refine oA rfl<|Ac<|n_K<|An<|r_K ?_
  refine Aq (Bz Tryz.results140 (Bv rfl mM (by first | exact Bg | rfl)) (Ag rfl)) ?_ sP
  (have hm:¬ Aww c i j=0:=by simpa using c14);rw [B0,if_neg hm]
 ·skip
  have hm:Aww c i j=0:=by simpa using c14
  obtain ⟨m0,m1,m2,m3,_⟩:=Yc hm
  refine Ai<|n_K<|Ad<|Aa fun ops=>oM rfl<|oN rfl<|oF rfl ?_
  refine oR (Al rfl mM rfl) ?_
  refine oM rfl<|oM rfl ?_
  refine oR (X7 rfl rfl (by omega)) ?_
  refine oF rfl ?_
  refine oR (Gs rfl rfl (by omega)) ?_
  refine oR (Au rfl mM (show cut (D8 c.blocks) _ 258=_ by simpa using Al8 m0 m1 m2 m3)) ?_
  first | refine Af rfl rfl uD (Ct) (Ar) (B2 (by first | exact Ar | exact List.length_replicate ..)) ?_ | refine Af rfl rfl uD rfl rfl rfl ?_
  refine oA rfl<|Ac<|n_K<|An ?_
  refine Aq (Bz Tryz.results140 (Bv rfl mM (by first | exact Bg | rfl)) (Ag rfl)) ?_ sP
  rw [B0,if_pos hm,hm]
end
section
variable {c:Chip} {i j:Int}
theorem Afv:Does Tryz.prog 225 [ptr c.aP] [(c.aP,true,C (pwc c) tPw)] (Is (.bool (El c)) [(c.aP,true,C (pwc (Fj c)) tPw)]):=by
 refine Ah (n:=27) Tryz.func225 Tryz.ntmps225 rfl (Nat.le_of_ble_eq_true rfl)<|Ad<|Aa fun ops=>oA rfl<|Ac<|n_K<|Ad<|Ad<|Aa fun ops=>oM rfl<|oN rfl<|oF rfl ?_
 refine oR (Al rfl mM rfl) ?_
 refine oR (Ae rfl rfl rfl)<|Ac<|n_K ?_
 refine Aj rfl (fun c7=> ?_) (fun c7=> ?_)
 ·try simp at c7
  refine Ad<|Aa fun ops=>oA rfl<|Ac<|n_K<|An<|r_K ?_
  refine Aq (At Tryz.results225 (Ag rfl)) ?_ (by first | (rw [Aft c7];exact sP) | (rw [Afu c7];exact sP))
  simp [El,c7]
 ·try simp at c7
  refine Ai<|n_K<|Ad<|Aa fun ops=>oM rfl<|oM rfl<|oN rfl<|oF rfl ?_
  refine oR (Al rfl mM rfl) ?_
  refine oR (Ae rfl rfl rfl)<|oN rfl<|oF rfl ?_
  refine Af rfl rfl uD rfl rfl rfl ?_
  refine Ac<|n_K<|Ad<|Aa fun ops=>oM rfl<|oN rfl<|oF rfl ?_
  refine oR (Al rfl mM rfl) ?_
  refine oR (Ae rfl rfl rfl)<|oN rfl<|oF rfl ?_
  refine Af rfl rfl uD rfl rfl rfl ?_
  refine Ac<|n_K<|Ad<|Aa fun ops=>oM rfl<|oN rfl<|oF rfl ?_
  refine oR (Al rfl mM rfl) ?_
  refine oA rfl<|Ac<|n_K<|An ?_
  refine Aq (At Tryz.results225 (Ag rfl)) ?_ (by first | (rw [Aft c7];exact sP) | (rw [Afu c7];exact sP))
  simp [El,c7]
theorem Aq2:Does Tryz.prog 224 [.pointer (some ⟨c.aC,4,none⟩)] ((c.aC,true,C (chc c) tCh)::(c.pf.hp tI++[])) (Is (.bool (Ky c)) ((c.aC,true,C (chc (Rt c)) tCh)::(c.pf.hp tI++[]))):=by
 refine Ah (n:=20) Tryz.func224 Tryz.ntmps224 rfl (Nat.le_of_ble_eq_true rfl)<|Ad<|Aa fun ops=>oA rfl<|Ac<|n_K<|Ad<|Aa fun ops=>oM rfl<|oN rfl<|oF rfl ?_
 refine oR (Al rfl mM rfl) ?_
 refine oR (Ae rfl rfl rfl)<|oN rfl<|oF rfl ?_
 refine Af rfl rfl uD rfl rfl rfl ?_
 refine Ac<|n_K<|Ad ?_
 refine s_draw [] [(9,[(0,false),(1,false),(2,false),(3,false),(4,false),(5,false),(6,false),(7,false),(8,false)]),(10,[(9,true)]),(11,[(10,false)])] (by kernel_rfl) rfl fun ops w0 H0 y=> ?_
 refine A4<|xM rfl<|xN rfl<|xF rfl ?_
 refine xR (Al rfl mM rfl) ?_
 refine xM rfl<|xN rfl<|xF rfl ?_
 refine xR (Al rfl mM rfl) ?_
 refine xR (Ae rfl rfl rfl)<|Am<|Bh<|Be ?_
 refine A6 rfl (Hi) sP rfl aQ ?_
 refine Ac ⟨rfl,⟨_,sP⟩,?_⟩
 refine Am<|A4<|xA rfl<|Am<|Bm<|n_K<|An ?_
 refine Aq (At Tryz.results224 (Ag rfl)) ?_ sP
 rfl
theorem Aq3:Does Tryz.prog 224 [.pointer (some ⟨c.aC,6,none⟩)] ((c.aC,true,C (chc c) tCh)::(c.wf.hp tI++[])) (Is (.bool (Rb c)) ((c.aC,true,C (chc (Yf c)) tCh)::(c.wf.hp tI++[]))):=by
 refine Ah (n:=20) Tryz.func224 Tryz.ntmps224 rfl (Nat.le_of_ble_eq_true rfl)<|Ad<|Aa fun ops=>oA rfl<|Ac<|n_K<|Ad<|Aa fun ops=>oM rfl<|oN rfl<|oF rfl ?_
 refine oR (Al rfl mM rfl) ?_
 refine oR (Ae rfl rfl rfl)<|oN rfl<|oF rfl ?_
 refine Af rfl rfl uD rfl rfl rfl ?_
 refine Ac<|n_K<|Ad ?_
 refine s_draw [] [(9,[(0,false),(1,false),(2,false),(3,false),(4,false),(5,false),(6,false),(7,false),(8,false)]),(10,[(9,true)]),(11,[(10,false)])] (by kernel_rfl) rfl fun ops w0 H0 y=> ?_
 refine A4<|xM rfl<|xN rfl<|xF rfl ?_
 refine xR (Al rfl mM rfl) ?_
 refine xM rfl<|xN rfl<|xF rfl ?_
 refine xR (Al rfl mM rfl) ?_
 refine xR (Ae rfl rfl rfl)<|Am<|Bh<|Be ?_
 refine A6 rfl (Hi) sP rfl aQ ?_
 refine Ac ⟨rfl,⟨_,sP⟩,?_⟩
 refine Am<|A4<|xA rfl<|Am<|Bm<|n_K<|An ?_
 refine Aq (At Tryz.results224 (Ag rfl)) ?_ sP
 rfl
end
theorem Ame {pb k i:Nat} {n:Int} {l:List Blk} {b:Blk} {d:Pg} (hk:l[k]? =some b) (hi:i<8) :
  Does Tryz.prog 233 [.pointer (some ⟨pb,k*2066,none⟩),.int .i64 (i:Int),.int .i64 n,.agg (vbc d).toArray] [(pb,true,C (D8 l) tBk)]
   (Is (.tuple #[]) [(pb,true,C (D8 (l.set k (wrB b i (Bl n 258) d hi))) tBk)]):=by
 refine Ah (n:=32) Tryz.func233 Tryz.ntmps233 rfl (Nat.le_of_ble_eq_true rfl)<|Ad<|Aa fun ops=> ?_
 refine Ec rfl rfl fun b7=> ?_
 refine Ac<|n_K<|Ad<|Aa fun ops=>oM rfl<|oR (Ln rfl rfl)<|oR (X8 rfl rfl)<|oM rfl<|Ac<|n_K<|Ak ?_
 have hset:l.set k (wrB b i 0 d hi)=l:=by (rw [Av3];have:=List.getElem?_eq_some_iff.1 hk;obtain ⟨h1,rfl⟩:=this;exact List.set_getElem_self h1)
 rw [← congrArg D8 hset]
 have hmm:(min (max n 0) 258)=(Bl n 258:Nat)∧Bl n 258≤258:=by unfold Bl;omega
 refine A8 [0,1,7,11] kQ (fun (s:Nat)=>[(12,.int .i64 s)]) (fun (s:Nat)=>[(b7,true,C (vbc d) 147),(pb,true,C (D8 (l.set k (wrB b i s d hi))) tBk)]) (fun (s:Nat)=>s≤Bl n 258) (fun (s:Nat)=>Bl n 258 - s) ((0:Nat)) (by omega) kP sP ?_
 rintro j h0
 refine Ad<|Aa fun ops=>oR (Ae rfl rfl rfl)<|Ac<|n_K<|Ad ?_
 refine Aj rfl (fun c13=> ?_) (fun c13=> ?_)
 ·simp only [decide_eq_true_eq,decide_eq_false_iff_not] at c13;rw [hmm.1] at c13
  have hj:j<258:=by omega
  refine Ai<|n_K<|Ad<|Ak<|Ad<|Aa fun ops=>oM rfl<|oA rfl<|Ac<|n_K ?_
  refine s_draw [] [(16,[(0,false),(1,false),(2,false),(3,false),(4,false),(5,false),(6,false),(7,false),(8,false),(9,false),(10,false),(11,false),(12,false),(13,false),(14,false),(15,false)]),(17,[(16,true)])] (by kernel_rfl) rfl fun ops w0 H0 y=> ?_
  refine A4<|xM rfl<|xM rfl<|xM rfl<|xN rfl<|xF rfl ?_
  refine xR (Gs rfl rfl (by omega)) ?_
  refine xR (Gs rfl rfl (by omega)) ?_
  refine xR (Al rfl mM (show nth _ _=some (bv b.pages[i][j]) by simpa [Nat.add_assoc] using Av4 hk hi hj)) ?_
  refine xM rfl ?_
  refine xR (Gs rfl rfl (by omega)) ?_
  refine xR (Al rfl mM (show nth _ _=some (bv d[j]) by simpa using Gt (p:=d) hj)) ?_
  refine xR (show Rd _ _ _ _ (bv (b.pages[i][j] &&& d[j])) from by (unfold bv;rw [← Ajs];exact Ae rfl rfl rfl)) ?_
  refine xN rfl<|xF rfl ?_
  refine xR (Gs rfl rfl (by omega)) ?_
  refine xR (Gs rfl rfl (by omega)) ?_
  refine Am<|Bh<|Be ?_
  refine Af (cs':=D8 (l.set k (wrB b i (j+1) d hi))) rfl rfl uD rfl rfl (by simpa [Nat.add_assoc] using Aqx hk hi hj) ?_
  refine Ac ⟨rfl,⟨_,sP⟩,?_⟩
  refine Am<|Bm<|Az<|n_K<|Aa fun ops=> ?_
  refine oR (Ao rfl rfl (by omega)) ?_
  refine oM rfl<|Ac<|n_K ?_
  exact ⟨j+1,(by omega),(by omega),lZ⟩
 ·simp only [decide_eq_true_eq,decide_eq_false_iff_not] at c13;rw [hmm.1] at c13
  refine Bb<|x_K<|x_K<|Bj ?_
  refine Lp (Ml Tryz.results233) ?_ (by rw [show j=Bl n 258 by omega];repeat (first | exact Split.nil | (apply Split.cons;next=>repeat (first | exact Pick.here | apply Pick.there))))
  rfl
theorem Yj {pb k:Nat} {n:Int} {l:List Blk} {b:Blk} (hk:l[k]? =some b) :
  Does Tryz.prog 82 [.pointer (some ⟨pb,k*2066,none⟩),.int .i64 n] [(pb,true,C (D8 l) tBk)]
   (Is (.tuple #[]) [(pb,true,C (D8 (l.set k (D3 b (Bl n 8)))) tBk)]):=by
 refine Ah (n:=18) Tryz.func82 Tryz.ntmps82 rfl (Nat.le_of_ble_eq_true rfl)<|Ad<|Aa fun ops=>oM rfl<|oR (Ln rfl rfl)<|oR (X8 rfl rfl)<|oM rfl<|Ac<|n_K<|Ak ?_
 have hset:l.set k (D3 b 0)=l:=by (rw [Aqy];have:=List.getElem?_eq_some_iff.1 hk;obtain ⟨h1,rfl⟩:=this;exact List.set_getElem_self h1)
 rw [← congrArg D8 hset]
 have hmm:(min (max n 0) 8)=(Bl n 8:Nat)∧Bl n 8≤8:=by unfold Bl;omega
 refine A8 [0,7] kQ (fun (s:Nat)=>[(8,.int .i64 s)]) (fun (s:Nat)=>[(pb,true,C (D8 (l.set k (D3 b s))) tBk)]) (fun (s:Nat)=>s≤Bl n 8) (fun (s:Nat)=>Bl n 8 - s) ((0:Nat)) (by omega) kP sP ?_
 rintro j h0
 refine Ad<|Aa fun ops=>oR (Ae rfl rfl rfl)<|Ac<|n_K<|Ad ?_
 refine Aj rfl (fun c9=> ?_) (fun c9=> ?_)
 ·simp only [decide_eq_true_eq,decide_eq_false_iff_not] at c9;rw [hmm.1] at c9
  have hj:j<8:=by omega
  refine Ai<|n_K<|Ad<|Ak<|Ad<|Aa fun ops=>oM rfl<|oA rfl<|Ac<|n_K ?_
  refine s_draw [] [(5,[(0,false),(1,false),(3,false),(4,false),(2,true)]),(6,[(5,false)]),(7,[(6,true)])] (by kernel_rfl) rfl fun ops w0 H0 y=> ?_
  refine A4<|xM rfl<|xM rfl<|xN rfl<|xF rfl<|Be ?_
  refine A6 rfl (Amd) sP rfl aQ ?_
  refine Ac ⟨rfl,⟨_,sP⟩,?_⟩
  refine Am<|A4 ?_
  refine xR (Gs rfl rfl (by omega)) ?_
  refine Am<|Bh<|Be ?_
  refine Af (cs':=D8 (l.set k (D3 b (j+1)))) rfl rfl uD Ct Ar (by simpa [Nat.add_assoc] using Aid hk hj) ?_
  refine Ac ⟨rfl,⟨_,sP⟩,?_⟩
  refine Am<|Bm<|Az<|n_K<|Aa fun ops=> ?_
  refine oR (Ao rfl rfl (by omega)) ?_
  refine oM rfl<|Ac<|n_K ?_
  exact ⟨j+1,(by omega),(by omega),lZ⟩
 ·simp only [decide_eq_true_eq,decide_eq_false_iff_not] at c9;rw [hmm.1] at c9
  refine Bb<|x_K<|x_K<|Bj ?_
  refine Lp (Ml Tryz.results82) ?_ (by rw [show j=Bl n 8 by omega];repeat (first | exact Split.nil | (apply Split.cons;next=>repeat (first | exact Pick.here | apply Pick.there))))
  rfl
section
variable {c:Chip} {i j:Int}
theorem Auf:Does Tryz.prog 169 [ptr c.aC,.int .i64 i] (chH c) (Is (.bool (Ew c i && Wm c i)) (chH c)):=by
 rw [Ef]
 refine Ah (n:=18) Tryz.func169 Tryz.ntmps169 rfl (Nat.le_of_ble_eq_true rfl)<|Ad<|Aa fun ops=>oA rfl<|Ac<|n_K<|Ad ?_
 refine Bf [(3,8)] rfl fun ops y=> ?_
 refine oM rfl<|oM rfl ?_
 refine A6 rfl (T1) sP rfl aQ ?_
 refine oM rfl ?_
 refine' Df (j:=3) (k:=8) y rfl rfl rfl rfl rfl rfl rfl (fun hg8=> ?_) ?_
 rotate_left
 ·try (simp at hg8;show _)
  refine o_g y rfl rfl ?_
  refine oM rfl ?_
  refine o_g y rfl rfl ?_
  refine oN rfl ?_
  refine o_g y rfl rfl ?_
  refine oF rfl ?_
  refine o_g y rfl rfl ?_
  refine oR (Al rfl mM rfl) ?_
  refine o_g y rfl rfl ?_
  refine oM rfl ?_
  refine o_g y rfl rfl ?_
  refine oR (X7 rfl rfl (Aa8 hg8)) ?_
  refine o_g y rfl rfl ?_
  refine oF rfl ?_
  refine o_g y rfl rfl ?_
  refine oR (Al rfl mM (show nth _ _=some (.bool (Wm c i)) by simpa [Nat.add_assoc] using Aud hg8)) ?_
  exact Ac ⟨rfl,rfl,⟨_,sP⟩⟩
 refine oA rfl<|Ac<|n_K<|An ?_
 refine Aq (At Tryz.results169 (Ag rfl)) ?_ sP
 rfl
end
end
section
open Go.K
instance agg77:Agg Tryz.prog 77 false:=⟨⟨_,Tryz.underlying77,rfl⟩⟩
instance zer95:Zer Tryz.prog 95 ([.pointer none,.slice none 0 0,.bool false,.bool false,.slice none 0 0,.int .i64 0,.slice none 0 0,.int .i64 0,.int .i64 0]):=⟨by kernel_rfl⟩
instance zer143:Zer Tryz.prog 143 ([.bool false,.int .i64 0,.int .i64 0]):=⟨by kernel_rfl⟩
instance zer150:Zer Tryz.prog 150 (List.replicate 2064 (.int .u8 0)++[.int .i64 0,.bool false]):=⟨by kernel_rfl⟩
instance fld95_4:Fld Tryz.prog 95 4 4:=⟨⟨_,_,1,Tryz.underlying95,rfl,by kernel_rfl,rfl⟩⟩
instance fld95_5:Fld Tryz.prog 95 5 6:=⟨⟨_,_,1,Tryz.underlying95,rfl,by kernel_rfl,rfl⟩⟩
instance fld95_6:Fld Tryz.prog 95 6 8:=⟨⟨_,_,0,Tryz.underlying95,rfl,by kernel_rfl,rfl⟩⟩
instance fld143_2:Fld Tryz.prog 143 2 2:=⟨⟨_,_,0,Tryz.underlying143,rfl,by kernel_rfl,rfl⟩⟩
instance fld150_1:Fld Tryz.prog 150 1 2064:=⟨⟨_,_,0,Tryz.underlying150,rfl,by kernel_rfl,rfl⟩⟩
instance plc95:Plc Tryz.prog 95 [(0,1),(1,1),(2,1),(3,1),(4,2),(6,2),(8,1)]:=⟨⟨_,Tryz.underlying95,fun _=>by kernel_rfl⟩⟩
instance plc143:Plc Tryz.prog 143 [(0,1),(1,1),(2,1)]:=⟨⟨_,Tryz.underlying143,fun _=>by kernel_rfl⟩⟩
instance byt150:Byt Tryz.prog 150 2080:=⟨by kernel_rfl⟩
instance ent36:Ent Tryz.prog 36:=⟨fun _ _=>by kernel_rfl⟩
instance ent47:Ent Tryz.prog 47:=⟨fun _ _=>by kernel_rfl⟩
instance ent48:Ent Tryz.prog 48:=⟨fun _ _=>by kernel_rfl⟩
instance ent80:Ent Tryz.prog 80:=⟨fun _ _=>by kernel_rfl⟩
instance ent125:Ent Tryz.prog 125:=⟨fun _ _=>by kernel_rfl⟩
instance ent126:Ent Tryz.prog 126:=⟨fun _ _=>by kernel_rfl⟩
instance ent166:Ent Tryz.prog 166:=⟨fun _ _=>by kernel_rfl⟩
instance ent198:Ent Tryz.prog 198:=⟨fun _ _=>by kernel_rfl⟩
instance ent209:Ent Tryz.prog 209:=⟨fun _ _=>by kernel_rfl⟩
theorem H8 (c:Chip) (k:Nat) (b:Blk):chH (Gb c k b)=(c.aP,true,C (pwc c) tPw)::(c.aC,true,C (chc c) tCh)::(c.aB,true,C (D8 (c.blocks.set k b)) tBk)::(c.pf.hp tI++(c.wf.hp tI++[])):=by
 rw [Ef]
 simp only [Gb,chc,List.length_set]
theorem T3 {pb k:Nat} {n j:Int} {l:List Blk} {b:Blk} {d:Pg} (hk:l[k]? =some b) (h0:0≤j) (hi:j.toNat<8) :
  Does Tryz.prog 233 [.pointer (some ⟨pb,k*2066,none⟩),.int .i64 j,.int .i64 n,.agg (vbc d).toArray] [(pb,true,C (D8 l) tBk)]
   (Is (.tuple #[]) [(pb,true,C (D8 (l.set k (wrB b j.toNat (Bl n 258) d hi))) tBk)]):=by
 obtain ⟨i,rfl⟩:=Int.eq_ofNat_of_zero_le h0
 exact Ame hk hi
theorem Kn {l:List Blk} {k:Nat} {b:Blk} (h:l[k]? =some b) (b':Blk):(l.set k b')[k]? =some b':=by
 have:=(List.getElem?_eq_some_iff.1 h).1
 simp [this]
section
variable {c:Chip} {i j:Int} {d:Pg}
theorem Adz:Does Tryz.prog 209 [ptr c.aC,.int .i64 i,.int .i64 j,.agg (vbc d).toArray] (chH c) (Is (.int .i64 (B1 c i j d).1) (chH (B1 c i j d).2)):=by
 rw [Ef c]
 refine Ah (n:=82) Tryz.func209 Tryz.ntmps209 rfl (Nat.le_of_ble_eq_true rfl)<|Ad<|Aa fun ops=> ?_
 refine Ec rfl rfl fun b7=> ?_
 refine oA rfl<|Ac<|n_K<|Ad<|Ad<|Aa fun ops=>oM rfl<|oM rfl<|oM rfl ?_
 refine A6 rfl (Yh) sP rfl aQ ?_
 refine oA rfl<|Ac<|n_K<|Ad<|Aa fun ops=>oM rfl<|oR (Ae rfl rfl rfl)<|Ac<|n_K ?_
 refine Aj rfl (fun c17=> ?_) (fun c17=> ?_)
 ·skip
  have hm:¬ Aww c i j=0:=by simpa using c17
  have hres:=Aa9 (d:=d) hm
  refine Ad<|Aa fun ops=>oM rfl<|oA rfl<|Ac<|n_K<|An<|r_K ?_
  refine Aq (At Tryz.results209 (Ag rfl)) ?_ (by rw [hres];first | (rw [wrC,H8,List.set_set];exact sP) | (rw [Ef c];exact sP))
  rw [hres]
 ·skip
  have hm:Aww c i j=0:=by simpa using c17
  obtain ⟨m0,m1,m2,m3,_⟩:=Yc hm
  have h8:j.toNat<8:=by omega
  obtain ⟨b,hb⟩:∃ b,c.blocks[i.toNat]? =some b:=⟨_,List.getElem?_eq_getElem (by omega)⟩
  refine Ai<|n_K<|Ad<|Aa fun ops=>oM rfl<|oN rfl<|oF rfl ?_
  refine oR (Al rfl mM rfl) ?_
  refine oM rfl ?_
  refine oR (Cp rfl rfl ⟨m0,m1⟩) ?_
  refine oA rfl<|Ac<|n_K<|Ad<|Ad<|Aa fun ops=>oM rfl<|oM rfl<|oN rfl<|oF rfl ?_
  refine oR (Al rfl mM (Aa7 hb)) ?_
  refine oR (Ae rfl rfl rfl)<|Ac<|n_K ?_
  refine Aj rfl (fun c30=> ?_) (fun c30=> ?_)
  ·skip
   have hn:¬ j=b.next:=by simpa using c30
   have hres:=Ty (d:=d) hm hb hn
   refine Ad<|Aa fun ops=>oA rfl<|Ac<|n_K<|An<|r_K ?_
   refine Aq (At Tryz.results209 (Ag rfl)) ?_ (by rw [hres];first | (rw [wrC,H8,List.set_set];exact sP) | (rw [Ef c];exact sP))
   rw [hres]
  ·skip
   have hn:j=b.next:=by simpa using c30
   refine Ai<|n_K<|Ad<|Aa fun ops=>oM rfl<|oN rfl<|oF rfl ?_
   refine oR (Al rfl mM rfl) ?_
   refine oR (Ae rfl rfl rfl)<|oN rfl<|oF rfl ?_
   refine Af rfl rfl uD rfl rfl rfl ?_
   refine Ac<|n_K<|Ad<|Aa fun ops=>oM rfl<|oN rfl<|oF rfl ?_
   refine oR (Al rfl mM (Aa7 hb)) ?_
   refine oR (Ae rfl rfl rfl)<|oN rfl<|oF rfl ?_
   refine Af (cs':=D8 (c.blocks.set i.toNat { b with next:=w64 (b.next+1) })) rfl rfl uD rfl rfl (Lt _ hb) ?_
   refine Ac<|n_K<|Ad<|Aa fun ops=>oM rfl<|oN rfl<|oF rfl ?_
   refine A6 rfl (Aq2 (c:=cnt c)) sP rfl aQ ?_
   refine oA rfl<|Ac<|n_K<|Ad<|Ak<|Ad<|Aa fun ops=>oM rfl<|oN rfl<|oF rfl ?_
   refine oR (Al rfl mM rfl) ?_
   refine A6 rfl (Afv (c:=c)) sP rfl aQ ?_
   refine oA rfl<|Ac<|n_K ?_
   refine Aj rfl (fun c49=> ?_) (fun c49=> ?_)
   ·skip
    have hres:=Wn (d:=d) hm h8 hb hn c49
    refine Ad ?_
    refine s_draw [] [(10,[(0,false),(1,false),(2,false),(3,false),(4,false),(5,false),(6,false),(7,false),(8,false),(9,false)]),(11,[(10,true)])] (by kernel_rfl) rfl fun ops w0 H0 y=> ?_
    refine A4<|xM rfl<|xM rfl<|xM rfl<|xN rfl<|xF rfl ?_
    refine xR (Al rfl mM rfl) ?_
    refine xN rfl<|xF rfl ?_
    refine xR (Al rfl mM rfl) ?_
    refine xR (Au rfl mM (by first | exact Bg | rfl)) ?_
    refine Am<|Bh<|Be ?_
    refine A6 rfl (T3 (Kn hb _) m2 h8) sP rfl aQ ?_
    refine Ac ⟨rfl,⟨_,sP⟩,?_⟩
    refine Am<|Bm<|n_K<|Ad<|Aa fun ops=>oA rfl<|Ac<|n_K<|An<|Bn<|r_K ?_
    refine Aq (At Tryz.results209 (Ag rfl)) ?_ (by rw [hres];first | (rw [wrC,H8,List.set_set];exact sP) | (rw [Ef c];exact sP))
    rw [hres]
   ·skip
    have he:El c=false:=c49
    refine Ad ?_
    refine Bf [(1,68)] rfl fun ops y=> ?_
    refine oM rfl<|oM rfl ?_
    refine' Es (j:=1) (k:=4) y rfl rfl rfl rfl rfl rfl rfl (fun hg68=> ?_) ?_
    rotate_left
    ·try (simp at hg68;show _)
     refine o_g y rfl rfl ?_
     refine oM rfl ?_
     refine o_g y rfl rfl ?_
     refine oN rfl ?_
     refine o_g y rfl rfl ?_
     refine oF rfl ?_
     refine o_g y rfl rfl ?_
     refine oR (Al rfl mM (Ye (Kn hb _))) ?_
     exact Ac ⟨rfl,rfl,⟨_,sP⟩⟩
    refine oA rfl<|Ac<|n_K ?_
    refine Aj rfl (fun c66=> ?_) (fun c66=> ?_)
    ·skip
     have hres:=Wo (d:=d) hm h8 hb hn he c66
     refine Ad<|Aa fun ops=>oM rfl<|oM rfl ?_
     refine oR (Au rfl mM (by first | exact Bg | rfl)) ?_
     refine A6 rfl (T3 (Kn hb _) m2 h8) sP rfl aQ ?_
     refine Ac<|n_K<|Ad<|Aa fun ops=>oA rfl<|Ac<|n_K<|An<|Bn<|r_K ?_
     refine Aq (At Tryz.results209 (Ag rfl)) ?_ (by rw [hres];first | (rw [wrC,H8,List.set_set];exact sP) | (rw [Ef c];exact sP))
     rw [hres]
    ·skip
     have hres:=Yg (d:=d) hm h8 hb hn he c66
     refine Ai<|Az<|n_K<|Ad<|Aa fun ops=>oM rfl<|oM rfl ?_
     refine oR (Au rfl mM (by first | exact Bg | rfl)) ?_
     refine A6 rfl (T3 (Kn hb _) m2 h8) sP rfl aQ ?_
     refine Ac<|n_K<|Ad<|Aa fun ops=>oA rfl<|Ac<|n_K<|An ?_
     refine Aq (At Tryz.results209 (Ag rfl)) ?_ (by rw [hres];first | (rw [wrC,H8,List.set_set];exact sP) | (rw [Ef c];exact sP))
     rw [hres]
theorem Amf:Does Tryz.prog 198 [ptr c.aC,.int .i64 i] (chH c) (Is (.int .i64 (B3 c i).1) (chH (B3 c i).2)):=by
 rw [Ef c]
 refine Ah (n:=62) Tryz.func198 Tryz.ntmps198 rfl (Nat.le_of_ble_eq_true rfl)<|Ad<|Aa fun ops=>oA rfl<|Ac<|n_K<|Ad<|Ad<|Aa fun ops=>oM rfl<|oM rfl ?_
 refine A6 rfl (Yh) sP rfl aQ ?_
 refine oA rfl<|Ac<|n_K<|Ad<|Aa fun ops=>oM rfl<|oR (Ae rfl rfl rfl)<|Ac<|n_K ?_
 refine Aj rfl (fun c12=> ?_) (fun c12=> ?_)
 ·skip
  have hm:¬ Aww c i 0=0:=by simpa using c12
  have hres:=Aih hm
  refine Ad<|Aa fun ops=>oM rfl<|oA rfl<|Ac<|n_K<|An<|r_K ?_
  refine Aq (At Tryz.results198 (Ag rfl)) ?_ (by rw [hres];first | (rw [H8];(try rw [List.set_set]);exact sP) | (rw [Ef c];exact sP))
  rw [hres]
 ·skip
  have hm:Aww c i 0=0:=by simpa using c12
  obtain ⟨m0,m1,m2,m3,_⟩:=Yc hm
  obtain ⟨b,hb⟩:∃ b,c.blocks[i.toNat]? =some b:=⟨_,List.getElem?_eq_getElem (by omega)⟩
  refine Ai<|n_K<|Ad<|Aa fun ops=>oM rfl<|oN rfl<|oF rfl ?_
  refine oR (Al rfl mM rfl) ?_
  refine oM rfl ?_
  refine oR (Cp rfl rfl ⟨m0,m1⟩) ?_
  refine oA rfl<|Ac<|n_K<|Ad<|Aa fun ops=>oM rfl<|oN rfl<|oF rfl ?_
  refine oR (Al rfl mM rfl) ?_
  refine oR (Ae rfl rfl rfl)<|oN rfl<|oF rfl ?_
  refine Af rfl rfl uD rfl rfl rfl ?_
  refine Ac<|n_K<|Ad<|Aa fun ops=>oM rfl<|oN rfl<|oF rfl ?_
  refine A6 rfl (Aq3 (c:=cnt c)) sP rfl aQ ?_
  refine oA rfl<|Ac<|n_K<|Ad<|Aa fun ops=>oM rfl<|oN rfl<|oF rfl ?_
  refine Af (cs':=D8 (c.blocks.set i.toNat { b with next:=8 })) rfl rfl uD rfl rfl (Lt _ hb) ?_
  refine Ac<|n_K<|Ad<|Ak<|Ad<|Aa fun ops=>oM rfl<|oN rfl<|oF rfl ?_
  refine oR (Al rfl mM rfl) ?_
  refine A6 rfl (Afv (c:=c)) sP rfl aQ ?_
  refine oA rfl<|Ac<|n_K ?_
  refine Aj rfl (fun c34=> ?_) (fun c34=> ?_)
  ·skip
   have hres:=Tz hm hb c34
   refine Ad<|Aa fun ops=>oM rfl<|oM rfl<|oN rfl<|oF rfl ?_
   refine oR (Al rfl mM rfl) ?_
   refine oN rfl<|oF rfl ?_
   refine oR (Al rfl mM rfl) ?_
   refine A6 rfl (Yj (Kn hb _)) sP rfl aQ ?_
   refine Ac<|n_K<|Ad<|Aa fun ops=>oA rfl<|Ac<|n_K<|An<|Bn<|r_K ?_
   refine Aq (At Tryz.results198 (Ag rfl)) ?_ (by rw [hres];first | (rw [H8];(try rw [List.set_set]);exact sP) | (rw [Ef c];exact sP))
   rw [hres]
  ·skip
   have he:El c=false:=c34
   refine Ad ?_
   refine Bf [(1,51)] rfl fun ops y=> ?_
   refine oM rfl<|oM rfl ?_
   refine' Es (j:=1) (k:=4) y rfl rfl rfl rfl rfl rfl rfl (fun hg51=> ?_) ?_
   rotate_left
   ·try (simp at hg51;show _)
    refine o_g y rfl rfl ?_
    refine oM rfl ?_
    refine o_g y rfl rfl ?_
    refine oN rfl ?_
    refine o_g y rfl rfl ?_
    refine oF rfl ?_
    refine o_g y rfl rfl ?_
    refine oR (Al rfl mM (Ye (Kn hb _))) ?_
    exact Ac ⟨rfl,rfl,⟨_,sP⟩⟩
   refine oA rfl<|Ac<|n_K ?_
   refine Aj rfl (fun c49=> ?_) (fun c49=> ?_)
   ·skip
    have hres:=T0 hm hb he c49
    refine Ad<|Aa fun ops=>oA rfl<|Ac<|n_K<|An<|Bn<|r_K ?_
    refine Aq (At Tryz.results198 (Ag rfl)) ?_ (by rw [hres];first | (rw [H8];(try rw [List.set_set]);exact sP) | (rw [Ef c];exact sP))
    rw [hres]
   ·skip
    have hres:=Aba hm hb he c49
    refine Ai<|Az<|n_K<|Ad<|Aa fun ops=>oM rfl ?_
    refine A6 rfl (Yj (Kn hb _)) sP rfl aQ ?_
    refine Ac<|n_K<|Ad<|Aa fun ops=>oM rfl<|oN rfl<|oF rfl ?_
    refine Af (cs':=D8 (c.blocks.set i.toNat { D3 { b with next:=8 } 8 with next:=0 })) rfl rfl uD rfl rfl (by rw [List.set_set];have:=Lt (l:=c.blocks.set i.toNat (D3 { b with next:=8 } 8)) 0 (Kn hb _);rw [List.set_set] at this;exact this) ?_
    refine Ac<|n_K<|Ad<|Aa fun ops=>oA rfl<|Ac<|n_K<|An ?_
    refine Aq (At Tryz.results198 (Ag rfl)) ?_ (by rw [hres];first | (rw [H8];(try rw [List.set_set]);exact sP) | (rw [Ef c];exact sP))
    rw [hres]
end
theorem Aug {c:Chip} {a k:Int}:Does Tryz.prog 36 [ptr c.aP,.int .i64 a,.int .i64 k] (chH c) (Is (.tuple #[]) (chH { c with after:=max a (-1),keep:=k })):=by
 rw [Ef,Ef]
 refine Ah (n:=15) Tryz.func36 Tryz.ntmps36 rfl (Nat.le_of_ble_eq_true rfl)<|Aa fun ops=>oM rfl<|oM rfl<|oM rfl<|oR (Ln rfl rfl)<|oM rfl<|oN rfl<|oF rfl ?_
 refine Af rfl rfl uD rfl rfl rfl ?_
 refine oN rfl<|oF rfl ?_
 refine Af rfl rfl uD rfl rfl rfl ?_
 refine Ac ?_
 refine Lp (Ml Tryz.results36) ?_ sP
 rfl
theorem Abb:Does Tryz.prog 48 [] [] (fun v H=>∃ b,v=ptr b∧H=[(b,true,C [.bool false,.int .i64 (-1),.int .i64 0] tPw)]):=by
 refine Ah (n:=3) Tryz.func48 Tryz.ntmps48 rfl (Nat.le_of_ble_eq_true rfl)<|Ad<|Aa fun ops=>oA rfl<|Ac<|n_K<|Ad<|Aa fun ops=>oR (Bc rfl rfl) ?_
 refine De rfl rfl fun b2=> ?_
 refine oA rfl<|Ac<|n_K<|An ?_
 exact Av (At Tryz.results48 (Ag rfl)) (by exact ⟨_,rfl,rfl⟩) sP
section
variable {f:FuncId} [Ent Tryz.prog f] {fi ca:List Value} {p:Int→Bool} {L:Hp} {s:Sl Int} {T:TypeId}
theorem Yk (hf:∀ x:Int,Does Tryz.prog f (fi++[.int .i64 x]++ca) L (Is (.bool (p x)) L)) :
  Does Tryz.prog 166 [s.val,.func (.func f) fi.toArray ca.toArray] (s.hp T++(L++[])) (Is (.int .i64 (Ady s.list p)) (s.hp T++(L++[]))):=by
 refine Ah (n:=19) Tryz.func166 Tryz.ntmps166 rfl (Nat.le_of_ble_eq_true rfl)<|Ad<|Aa fun ops=>oA rfl<|Ac<|n_K<|Ad<|Ad<|Aa fun ops=>oM rfl<|oR (A7 rfl)<|oM rfl<|Ac<|n_K ?_
 refine Ak ?_
 have hsm:=s.small
 refine D7 [0,1,7] kQ (fun i=>[(8,.int .i64 i)]) (fun i=>0≤i∧i≤s.list.length∧∀ k:Int,0≤k→k<i→p (at0 s.list k)=false) (fun i=>((s.list.length:Int) - i).toNat) ((0:Int)) ⟨by omega,by omega,by intro k h0 h1;omega⟩ kP ?_
 rintro i ⟨h0,h1,h2⟩
 refine Ad<|Aa fun ops=>oR (Ae rfl rfl rfl)<|Ac<|n_K<|Ad ?_
 refine Aj rfl (fun c9=> ?_) (fun c9=> ?_)
 ·try simp at c9
  refine Ai<|n_K<|Ad<|Ak<|Ad<|Aa fun ops=>oM rfl<|oA rfl<|Ac<|n_K<|Ad<|Aa fun ops=>oM rfl<|oM rfl ?_
  refine oM rfl ?_
  refine oR (Bk rfl rfl ⟨h0,c9⟩) ?_
  refine oR (C0 (o:=0) rfl pL (Hz h0 c9) rfl rfl) ?_
  refine S8 rfl rfl (hf _) sP rfl aQ ?_
  refine Ac<|n_K ?_
  refine Aj rfl (fun c16=> ?_) (fun c16=> ?_)
  ·skip
   refine Ad<|Aa fun ops=>oM rfl<|oA rfl<|Ac<|n_K<|An<|Bn<|r_K<|r_K<|Bn<|r_K ?_
   refine Aq (At Tryz.results166 (Ag rfl)) ?_ sP
   rw [Aq0 i h0 c9 h2 c16]
  ·skip
   refine Ai<|Az<|n_K<|Aa fun ops=> ?_
   refine oR (Ao rfl rfl (by omega)) ?_
   refine oM rfl<|Ac<|n_K ?_
   exact ⟨i+1,⟨by omega,by omega,Zr h2 c16⟩,(by omega),lZ⟩
 ·try simp at c9
  refine Bb<|x_K<|x_K<|Bj<|n_K<|Ad<|Aa fun ops=>oA rfl<|Ac<|n_K<|An ?_
  refine Aq (At Tryz.results166 (Ag rfl)) ?_ sP
  rw [Aig (fun k k0 k1=>h2 k k0 (by omega))]
theorem Ru (hf:∀ x:Int,Does Tryz.prog f (fi++[.int .i64 x]++ca) L (Is (.bool (p x)) L)) :
  Does Tryz.prog 125 [s.val,.func (.func f) fi.toArray ca.toArray] (s.hp T++(L++[])) (Is (.bool (s.list.any p)) (s.hp T++(L++[]))):=by
 refine Ah (n:=9) Tryz.func125 Tryz.ntmps125 rfl (Nat.le_of_ble_eq_true rfl)<|Ad<|Aa fun ops=>oA rfl<|Ac<|n_K<|Ad<|Aa fun ops=>oM rfl<|oM rfl ?_
 refine A6 rfl (Yk hf) sP rfl aQ ?_
 refine oR (Ae rfl rfl rfl)<|oA rfl<|Ac<|n_K<|An ?_
 refine Aq (At Tryz.results125 (Ag rfl)) ?_ sP
 exact congrArg Value.bool (Tx _ _)
theorem Aq4 {b:Nat} (hf:∀ x:Int,Does Tryz.prog f (fi++[.int .i64 x]++ca) L (Is (.bool (p x)) L)) (x:Int) :
  Does Tryz.prog 126 [.int .i64 x,ptr b] ((b,true,C [.func (.func f) fi.toArray ca.toArray] 77)::(L++[])) (Is (.bool (!p x)) ((b,true,C [.func (.func f) fi.toArray ca.toArray] 77)::(L++[]))):=by
 refine Ah (n:=8) Tryz.func126 Tryz.ntmps126 rfl (Nat.le_of_ble_eq_true rfl)<|Ad<|Aa fun ops=>oA rfl<|Ac<|n_K<|Ad<|Aa fun ops=> ?_
 refine oR (Al rfl mM rfl) ?_
 refine oM rfl ?_
 refine S8 rfl rfl (hf _) sP rfl aQ ?_
 refine oR (Bx rfl)<|oA rfl<|Ac<|n_K<|An ?_
 refine Aq (At Tryz.results126 (Ag rfl)) ?_ sP
 rfl
theorem Auh (hf:∀ x:Int,Does Tryz.prog f (fi++[.int .i64 x]++ca) L (Is (.bool (p x)) L)) :
  Does Tryz.prog 80 [s.val,.func (.func f) fi.toArray ca.toArray] (s.hp T++(L++[])) (Is (.bool (s.list.all p)) (s.hp T++(L++[]))):=by
 refine Ah (n:=9) Tryz.func80 Tryz.ntmps80 rfl (Nat.le_of_ble_eq_true rfl)<|Ad<|Aa fun ops=> ?_
 refine De rfl rfl fun b3=> ?_
 refine oA rfl<|Ac<|n_K<|Ad<|Aa fun ops=>oM rfl<|oR (Oh rfl) ?_
 refine A6 rfl (Ru (f:=126) (fi:=[]) (ca:=[ptr b3]) (p:=fun x=> !p x) (L:=(b3,true,C [.func (.func f) fi.toArray ca.toArray] 77)::(L++[])) (fun x=>Aq4 hf x)) sP rfl aQ ?_
 refine oR (Bx rfl)<|oA rfl<|Ac<|n_K<|An ?_
 refine Aq (At Tryz.results80 (Ag rfl)) ?_ sP
 exact congrArg Value.bool (by rw [← List.not_all_eq_any_not,Bool.not_not])
end
instance (priority:=2000) zerBk:Zer Tryz.prog 150 (Qe Kz):=⟨by rw [← Ama];exact (inferInstance:Zer Tryz.prog 150 (List.replicate 2064 (.int .u8 0)++[.int .i64 0,.bool false])).eq⟩
def Amg (off:Bool) (after keep:Int) (pp:Nat) (n:Int) (s:Sl Int) (T:TypeId) (v:Value) (H:Hp):Prop :=
 if Ov n s.list=true then ∃ aC aB,v= .tuple #[ptr aC,.int .i64 0]∧H=chH (Ow off after keep pp aC aB n.toNat s.list)++(s.hp T++[])
 else v= .tuple #[.pointer none,.int .i64 1]∧H=(s.hp T++[])
theorem Aq5 {off:Bool} {after keep:Int} {aP aC aB n:Nat} {bad:List Int}:chH (Ow off after keep aP aC aB n bad)=[(aP,true,C [.bool off,.int .i64 after,.int .i64 keep] tPw),(aC,true,C (chc (Ow off after keep aP aC aB n bad)) tCh),(aB,true,C (D8 (Gi n bad n)) tBk)]:=by
 rw [Ef]
 simp only [Ow,Sl.hp_nil,List.nil_append]
theorem Yl {off:Bool} {after keep:Int} {aP aC aB n:Nat} {bad:List Int}:chc (Ow off after keep aP aC aB n bad)=[ptr aP,.slice (some ⟨aB,0,none⟩) n n,.bool false,.bool false,.slice none 0 0,.int .i64 0,.slice none 0 0,.int .i64 0,.int .i64 0]:=by
 simp only [chc,Ow,Qg];rfl
theorem Afw {off:Bool} {after keep:Int} {aP aC aB n:Nat} {bad:List Int}:Ew (Ow off after keep aP aC aB n bad)=fun x=>(decide (0≤x) && decide (x<(n:Int))):=by
 funext x
 simp only [Ew,Ow,Qg]
theorem Aui {off:Bool} {after keep:Int} {pp:Nat} {n:Int} {s:Sl Int} {T:TypeId} :
  Does Tryz.prog 47 [ptr pp,.int .i64 n,s.val] ((pp,true,C [.bool off,.int .i64 after,.int .i64 keep] tPw)::(s.hp T++[])) (Amg off after keep pp n s T):=by
 refine Ah (n:=51) Tryz.func47 Tryz.ntmps47 rfl (Nat.le_of_ble_eq_true rfl)<|Ad<|Aa fun ops=>oA rfl<|oA rfl<|Ac<|n_K<|Ad<|Ad ?_
 refine Bf [(2,13)] rfl fun ops y=> ?_
 refine oM rfl<|oR (Ae rfl rfl rfl)<|oM rfl ?_
 refine' Es (j:=2) (k:=2) y rfl rfl rfl rfl rfl rfl rfl (fun hg13=> ?_) ?_
 rotate_left
 ·try (simp at hg13;show _)
  refine o_g y rfl rfl ?_
  refine oM rfl ?_
  refine o_g y rfl rfl ?_
  refine oR (Ae rfl rfl rfl) ?_
  exact Ac ⟨rfl,rfl,⟨_,sP⟩⟩
 refine Ac<|n_K ?_
 refine Aj rfl (fun c16=> ?_) (fun c16=> ?_)
 ·skip
  refine Ad<|Aa fun ops=>oA rfl<|oA rfl<|Ac<|n_K<|An<|r_K ?_
  exact Av (Bz Tryz.results47 (Ag rfl) (Ag rfl)) (by unfold Amg;rw [if_neg (by rw [Ov,c16];simp)];exact ⟨rfl,rfl⟩) sP
 ·skip
  have h16:16≤n∧n≤40:=by simp at c16;omega
  obtain ⟨N,rfl⟩:∃ N:Nat,n=N:=⟨n.toNat,by omega⟩
  refine Ai<|n_K<|Ad<|Aa fun ops=>oM rfl<|oM rfl ?_
  refine Aly (zs:=Qe Kz) (hz:=zerBk) (hs:=by rw [Hl];infer_instance) (hby:=byt150) rfl rfl (by omega) rfl fun b19=> ?_
  refine oR (Bc rfl rfl) ?_
  refine De rfl rfl fun b21=> ?_
  refine Q5 (G:=(b21,true,C (chc (Ow off after keep pp b21 b19 N s.list)) tCh)::(b19,true,C (D8 (Gi N s.list 0)) tBk)::(pp,true,C [.bool off,.int .i64 after,.int .i64 keep] tPw)::(s.hp T++[])) (by rw [Yl,Aqz,← Amb];rfl) ?_
  refine oA rfl<|Ac<|n_K<|Ad<|Ad<|Aa fun ops=>oM rfl<|oM rfl ?_
  refine oR (Aah (fi:=[_]) (cap:=[]) rfl rfl) ?_
  refine A6 rfl (Auh (f:=74) (fi:=[ptr b21]) (ca:=[]) (fun x=>T1 (c:=Ow off after keep pp b21 b19 N s.list))) sP rfl aQ ?_
  refine oR (Bx rfl)<|Ac<|n_K ?_
  refine Aj rfl (fun c26=> ?_) (fun c26=> ?_)
  ·skip
   have hall:(s.list.all fun x=>decide (0≤x) && decide (x<(N:Int)))=false:=by simpa only [Afw,Bool.not_eq_true'] using c26
   refine Ad<|Aa fun ops=>oA rfl<|oA rfl<|Ac<|n_K<|An<|r_K ?_
   exact Av (Bz Tryz.results47 (Ag rfl) (Ag rfl)) (by unfold Amg;rw [if_neg (by rw [Ov,hall];simp)];exact ⟨rfl,rfl⟩) sP
  ·skip
   have hall:(s.list.all fun x=>decide (0≤x) && decide (x<(N:Int)))=true:=by simpa only [Afw,Bool.not_eq_false'] using c26
   refine Ai<|n_K<|Ad<|Ad<|Aa fun ops=>oM rfl<|oN rfl<|oF rfl ?_
   refine oR (Al rfl mM (by rw [Yl];rfl)) ?_
   refine oR (A7 rfl)<|oM rfl<|Ac<|n_K<|Ak ?_
   refine A8 [2,8,31] kQ (fun (s':Nat)=>[(32,.int .i64 s')]) (fun (s':Nat)=>(b21,true,C (chc (Ow off after keep pp b21 b19 N s.list)) tCh)::(b19,true,C (D8 (Gi N s.list s')) tBk)::(pp,true,C [.bool off,.int .i64 after,.int .i64 keep] tPw)::(s.hp T++[])) (fun (s':Nat)=>s'≤N) (fun (s':Nat)=>N - s') ((0:Nat)) (by first | trivial | omega | simp) kP sP ?_
   rintro i h0
   refine Ad<|Aa fun ops=>oR (Ae rfl rfl rfl)<|Ac<|n_K<|Ad ?_
   refine Aj rfl (fun c33=> ?_) (fun c33=> ?_)
   ·simp at c33
    have hi:(Gi N s.list i)[i]? =some Kz:=Amc s.list c33
    refine Ai<|n_K<|Ad<|Ak<|Ad<|Aa fun ops=>oM rfl<|oA rfl<|Ac<|n_K<|Ad<|Aa fun ops=>oM rfl<|oN rfl ?_
    refine oF rfl ?_
    refine oR (Al rfl mM (by rw [Yl];rfl)) ?_
    refine oM rfl ?_
    refine oR (Cp rfl rfl (by omega)) ?_
    refine oA rfl<|Ac<|n_K<|Ad<|Aa fun ops=>oM rfl<|oM rfl<|oM rfl ?_
    refine A6 rfl (Hi) sP rfl aQ ?_
    refine oN rfl<|oF rfl ?_
    refine Af (cs':=D8 ((Gi N s.list i).set i { Kz with bad:=E3 s.list i })) rfl rfl uD rfl rfl (Adw _ hi) ?_
    refine Ac<|n_K<|Aa fun ops=>oM rfl ?_
    refine A6 rfl ((Yj (Kn hi _)).to rfl (by rw [List.set_set,show Bl 8 8=8 from rfl,Aif,Adx s.list c33])) sP rfl aQ ?_
    refine Ac<|Az<|n_K<|Aa fun ops=> ?_
    refine oR (Ao rfl rfl (by omega)) ?_
    refine oM rfl<|Ac<|n_K ?_
    exact ⟨i+1,(by omega),(by omega),lZ⟩
   ·simp at c33
    refine Bb<|x_K<|x_K<|Bj<|n_K<|Ad<|Aa fun ops=>oM rfl<|oA rfl<|oA rfl<|Ac<|n_K<|An ?_
    exact Av (Bz Tryz.results47 (Ag rfl) (Ag rfl)) (by unfold Amg;rw [if_pos (by rw [Ov,hall,c16];rfl)];exact ⟨b21,b19,rfl,rfl⟩) (by rw [show ((N:Int)).toNat=N from rfl,Aq5];rw [show i=N by omega];exact sP)
end
section
open Go.K
instance und23:Und Tryz.prog 23 (.slice 5):=⟨Tryz.underlying23⟩
instance agg23:Agg Tryz.prog 23 false:=⟨⟨_,Tryz.underlying23,rfl⟩⟩
instance siz23:Siz Tryz.prog 23 1:=⟨by kernel_rfl⟩
instance und29:Und Tryz.prog 29 (.int .u64):=⟨Tryz.underlying29⟩
instance agg29:Agg Tryz.prog 29 false:=⟨⟨_,Tryz.underlying29,rfl⟩⟩
instance siz29:Siz Tryz.prog 29 1:=⟨by kernel_rfl⟩
instance und294:Und Tryz.prog 294 (.slice 29):=⟨Tryz.underlying294⟩
instance zer5:Zer Tryz.prog 5 ([.int .u8 0]):=⟨by kernel_rfl⟩
instance zer223:Zer Tryz.prog 223 ([.slice none 0 0,.bool false]):=⟨by kernel_rfl⟩
instance fld223_0:Fld Tryz.prog 223 0 0:=⟨⟨_,_,0,Tryz.underlying223,rfl,by kernel_rfl,rfl⟩⟩
instance fld223_1:Fld Tryz.prog 223 1 1:=⟨⟨_,_,0,Tryz.underlying223,rfl,by kernel_rfl,rfl⟩⟩
instance plc223:Plc Tryz.prog 223 [(0,1),(1,1)]:=⟨⟨_,Tryz.underlying223,fun _=>by kernel_rfl⟩⟩
instance byt5:Byt Tryz.prog 5 1:=⟨by kernel_rfl⟩
instance ent56:Ent Tryz.prog 56:=⟨fun _ _=>by kernel_rfl⟩
instance ent96:Ent Tryz.prog 96:=⟨fun _ _=>by kernel_rfl⟩
instance ent102:Ent Tryz.prog 102:=⟨fun _ _=>by kernel_rfl⟩
instance ent103:Ent Tryz.prog 103:=⟨fun _ _=>by kernel_rfl⟩
instance ent104:Ent Tryz.prog 104:=⟨fun _ _=>by kernel_rfl⟩
instance ent105:Ent Tryz.prog 105:=⟨fun _ _=>by kernel_rfl⟩
instance ent138:Ent Tryz.prog 138:=⟨fun _ _=>by kernel_rfl⟩
instance ent191:Ent Tryz.prog 191:=⟨fun _ _=>by kernel_rfl⟩
instance ent196:Ent Tryz.prog 196:=⟨fun _ _=>by kernel_rfl⟩
abbrev tU8:TypeId:=5
abbrev Amm:TypeId:=29
abbrev tSB:TypeId:=23
theorem Abj {n:Int}:Does Tryz.prog 138 [.int .i64 n] [] (Is (.int .i64 (Bl n 8:Nat)) []):=by
 refine Ah (n:=6) Tryz.func138 Tryz.ntmps138 rfl (Nat.le_of_ble_eq_true rfl)<|Ad<|Aa fun ops=>oA rfl<|Ac<|n_K<|Ad<|Aa fun ops=>oM rfl<|oR (Ln rfl rfl)<|oR (X8 rfl rfl)<|oA rfl<|Ac<|n_K ?_
 refine An ?_
 refine Aq (At Tryz.results138 (Ag rfl)) ?_ sP
 exact congrArg (Value.int .i64) (by unfold Bl;omega)
theorem Gu {α:Type} [Cel α] {T:TypeId} {L:Hp}:L=(Sl.nil:Sl α).hp T++L:=by rw [Sl.hp_nil];rfl
theorem Hr {n:Int} {x:Wd}:Does Tryz.prog 96 [.int .i64 n,wv x] [] (fun v H=>∃ s:Sl By,v=s.val∧H=(s.hp tU8++[])∧s.list=Co (Bl n 8) x∧s.isOwn=true):=by
 refine Ah (n:=18) Tryz.func96 Tryz.ntmps96 rfl (Nat.le_of_ble_eq_true rfl)<|Ad<|Aa fun ops=>oA rfl<|Ac<|n_K<|Ad<|Ad<|Aa fun ops=>oM rfl ?_
 refine A6 rfl (Abj) sP rfl aQ ?_
 refine oM rfl<|Ac<|n_K<|Ak ?_
 have hk:Bl n 8≤8:=by unfold Bl;omega
 generalize Bl n 8=k at hk ⊢
 refine Im (Gu (α:=By) (T:=tU8)) ?_
 refine A8 [6] kQ (fun (st:Nat×Sl By)=>[(7,.int .i64 st.1),(4,st.2.val),(1,wv (Lu x st.1))]) (fun (st:Nat×Sl By)=>(st.2.hp tU8++[])) (fun (st:Nat×Sl By)=>st.1≤k∧st.2.list=Co st.1 x∧st.2.isOwn=true) (fun (st:Nat×Sl By)=>k - st.1) ((0,Sl.nil)) ⟨Nat.zero_le _,rfl,rfl⟩ kP sP ?_
 rintro ⟨i,s⟩ ⟨h0,h1,h2⟩
 have hl:s.list.length=i:=by rw [h1,Bo]
 simp only at h0
 refine Ad<|Aa fun ops=>oR (Ae rfl rfl rfl)<|Ac<|n_K<|Ad ?_
 refine Aj rfl (fun c8=> ?_) (fun c8=> ?_)
 ·try simp at c8
  refine Ai<|n_K<|Ad<|Ak<|Ad<|Aa fun ops=>oM rfl<|oM rfl ?_
  refine oR (show Rd _ _ _ _ (bv ((Lu x i).setWidth 8)) from by (unfold bv;rw [← Aq6];exact C4 rfl)) ?_
  refine A5 rfl rfl rfl rfl fun b12=> ?_
  refine Bp (s:=s) (new:=[(Lu x i).setWidth 8]) (m:=1) rfl rfl pL h2 (Cv (r:=true) mM rfl) rfl rfl rfl rfl (by omega) rfl fun s' hs1 hs2=> ?_
  refine oA rfl<|Ac<|n_K<|Aa fun ops=>oM rfl ?_
  refine oR (show Rd _ _ _ _ (wv (Lu x (i+1))) from by (unfold wv;exact Aq7 rfl rfl)) ?_
  refine oA rfl<|Ac<|Az<|n_K<|Aa fun ops=> ?_
  refine oR (Ao rfl rfl (by omega)) ?_
  refine oM rfl<|Ac<|n_K ?_
  exact ⟨(i+1,s'),⟨by simp only;omega,by rw [hs1,h1,Aim],hs2⟩,(by simp only;omega),lZ⟩
 ·try simp at c8
  refine Bb<|x_K<|x_K<|Bj<|n_K<|Ad<|Aa fun ops=>oM rfl<|oA rfl<|Ac<|n_K<|An ?_
  exact Av (At Tryz.results96 (Ag rfl)) (by exact ⟨s,rfl,rfl,by rw [h1,show i=k by omega],h2⟩) sP
theorem Arc {n:Int} {xs:Sl Wd} {T:TypeId} (hx:xs.list.length≤1000000):Does Tryz.prog 196 [.int .i64 n,xs.val] (xs.hp T++[]) (fun v H=>∃ s:Sl By,v=s.val∧H=(s.hp tU8++(xs.hp T++[]))∧s.list=K0 (Bl n 8) xs.list∧s.isOwn=true):=by
 refine Ah (n:=20) Tryz.func196 Tryz.ntmps196 rfl (Nat.le_of_ble_eq_true rfl)<|Ad<|Aa fun ops=>oA rfl<|Ac<|n_K<|Ad<|Ad<|Aa fun ops=>oM rfl<|oR (A7 rfl)<|oM rfl<|Ac<|n_K ?_
 refine Ak ?_
 have hk:Bl n 8≤8:=by unfold Bl;omega
 refine Im (Gu (α:=By) (T:=tU8)) ?_
 refine A8 [0,7,8] kQ (fun (st:Nat×Sl By)=>[(9,.int .i64 st.1),(4,st.2.val)]) (fun (st:Nat×Sl By)=>(st.2.hp tU8++(xs.hp T++[]))) (fun (st:Nat×Sl By)=>st.1≤xs.list.length∧st.2.list=K0 (Bl n 8) (xs.list.take st.1)∧st.2.isOwn=true) (fun (st:Nat×Sl By)=>xs.list.length - st.1) ((0,Sl.nil)) ⟨Nat.zero_le _,by simp [K0,Sl.list],rfl⟩ kP sP ?_
 rintro ⟨i,s⟩ ⟨h0,h1,h2⟩
 simp only at h0
 refine Ad<|Aa fun ops=>oR (Ae rfl rfl rfl)<|Ac<|n_K<|Ad ?_
 refine Aj rfl (fun c10=> ?_) (fun c10=> ?_)
 ·simp at c10
  obtain ⟨x,hg⟩:∃ x,xs.list[i]? =some x:=⟨_,List.getElem?_eq_getElem c10⟩
  have hl:s.list.length≤8000000:=by (rw [h1,Qj];have:=Nat.mul_le_mul (show (xs.list.take i).length≤1000000 by (rw [List.length_take];omega)) hk;omega)
  refine Ai<|n_K<|Ad<|Ak<|Ad<|Aa fun ops=> ?_
  refine oR (Bk rfl rfl (by omega)) ?_
  refine oR (C0 (o:=0) (v:=wv x) rfl pL hg rfl rfl) ?_
  refine oA rfl<|Ac<|n_K<|Aa fun ops=>oM rfl<|oM rfl<|oM rfl ?_
  refine Bd rfl (Hr) sP rfl fun v16 Y16 h16=> ?_
  obtain ⟨s16,rfl,rfl,hs16,ho16⟩:=h16
  refine Ay aQ ?_
  refine Bp (s:=s) (new:=s16.list) (m:=s16.list.length) rfl rfl pL h2 (M5 pL) rfl rfl rfl rfl (by rw [hs16,Bo];omega) rfl fun s' hs1 hs2=> ?_
  refine oA rfl<|Ac<|Az<|n_K<|Aa fun ops=> ?_
  refine oR (Ao rfl rfl (by omega)) ?_
  refine oM rfl<|Ac<|n_K ?_
  exact ⟨(i+1,s'),⟨by simp only;omega,by rw [hs1,h1,hs16,Ad1 hg],hs2⟩,(by simp only;omega),lZ⟩
 ·simp at c10
  refine Bb<|x_K<|x_K<|Bj<|n_K<|Ad<|Aa fun ops=>oM rfl<|oA rfl<|Ac<|n_K<|An ?_
  exact Av (At Tryz.results196 (Ag rfl)) (by exact ⟨s,rfl,rfl,by rw [h1,show i=xs.list.length by omega,List.take_length],h2⟩) sP
abbrev mt (α:Type) [Cel α] (b:Nat):Sl α:= .own b [] 0 [] ⟨by simp,Nat.le_refl _,Nat.zero_le _⟩
theorem Amn {α:Type} [Cel α] {b:Nat} {T:TypeId} {L:Hp}:((b,true,C [] T)::L)=(mt α b).hp T++L:=by rw [Sl.hp_own];rfl
theorem O0 {s:Sl By} {T:TypeId} (hs:s.list.length≤70000000000000):Does Tryz.prog 56 [s.val] (s.hp T++[]) (fun v H=>∃ s':Sl By,v=s'.val∧H=(s'.hp tU8++(s.hp T++[]))∧s'.list=s.list∧s'.isOwn=true):=by
 refine Ah (n:=8) Tryz.func56 Tryz.ntmps56 rfl (Nat.le_of_ble_eq_true rfl)<|Ad<|Aa fun ops=>oA rfl<|Ac<|n_K<|Ad<|Ad<|Aa fun ops=>oM rfl<|oR (V9 rfl rfl)<|Ac<|n_K ?_
 refine Aj rfl (fun c4=> ?_) (fun c4=> ?_)
 ·skip
  have hn:=Sl.nil_of s c4
  subst hn
  refine Ad<|Aa fun ops=>oA rfl<|Ac<|n_K<|An<|r_K ?_
  exact Av (At Tryz.results56 (Ag rfl)) (by refine ⟨Sl.nil,rfl,rfl,rfl,rfl⟩) (by simp only [Sl.hp_nil,List.nil_append];exact Split.nil)
 ·skip
  refine Ai<|n_K<|Ad<|Aa fun ops=> ?_
  refine A5 rfl rfl rfl rfl fun b5=> ?_
  refine Q5 (Amn (α:=By) (b:=b5) (T:=tU8)) ?_
  refine oM rfl ?_
  refine Bp (s:=mt By b5) (new:=s.list) (m:=s.list.length) rfl rfl pL rfl (M5 pL) rfl rfl rfl rfl (by rw [show (mt By b5).list.length=0 from rfl];omega) rfl fun s' hs1 hs2=> ?_
  refine oA rfl<|Ac<|n_K<|An ?_
  exact Av (At Tryz.results56 (Ag rfl)) (by exact ⟨s',rfl,rfl,by rw [hs1];rfl,hs2⟩) sP
abbrev tRd:TypeId:=223
structure Rdr where
 b:Nat
 sl:Sl By
 bad:Bool
@[irreducible] def rdH (r:Rdr):Hp:=(r.b,true,C [r.sl.val,.bool r.bad] tRd)::(r.sl.hp tU8++[])
theorem Qk (r:Rdr):rdH r=(r.b,true,C [r.sl.val,.bool r.bad] tRd)::(r.sl.hp tU8++[]):=by unfold rdH;rfl
theorem Fe {s:Sl By} {T:TypeId} (hs:s.list.length≤70000000000000):Does Tryz.prog 102 [s.val] (s.hp T++[]) (fun v H=>∃ r:Rdr,v=ptr r.b∧H=rdH r++(s.hp T++[])∧r.sl.list=s.list∧r.bad=false):=by
 refine Ah (n:=7) Tryz.func102 Tryz.ntmps102 rfl (Nat.le_of_ble_eq_true rfl)<|Ad<|Aa fun ops=>oA rfl<|Ac<|n_K<|Ad<|Aa fun ops=>oM rfl ?_
 refine Bd rfl (O0 hs) sP rfl fun v4 Y4 h4=> ?_
 obtain ⟨s4,rfl,rfl,hs4,ho4⟩:=h4
 refine Ay aQ ?_
 refine oR (Bc rfl rfl) ?_
 refine De rfl rfl fun b6=> ?_
 refine oA rfl<|Ac<|n_K<|An ?_
 exact Av (At Tryz.results102 (Ag rfl)) (by exact ⟨⟨b6,s4,false⟩,rfl,rfl,hs4,rfl⟩) (by rw [Qk];simp only [List.cons_append,List.append_assoc,List.nil_append];exact sP)
theorem Se {r:Rdr}:Does Tryz.prog 105 [ptr r.b] (rdH r) (Is (.int .i64 r.sl.list.length) (rdH r)):=by
 rw [Qk]
 refine Ah (n:=8) Tryz.func105 Tryz.ntmps105 rfl (Nat.le_of_ble_eq_true rfl)<|Ad<|Aa fun ops=>oA rfl<|Ac<|n_K<|Ad<|Aa fun ops=>oM rfl<|oN rfl<|oF rfl ?_
 refine oR (Al rfl mM rfl) ?_
 refine oR (A7 rfl)<|oA rfl<|Ac<|n_K<|An ?_
 refine Aq (At Tryz.results105 (Ag rfl)) ?_ sP
 rfl
theorem Afz {r:Rdr}:Does Tryz.prog 191 [ptr r.b] (rdH r) (Is (.bool r.bad) (rdH r)):=by
 rw [Qk]
 refine Ah (n:=7) Tryz.func191 Tryz.ntmps191 rfl (Nat.le_of_ble_eq_true rfl)<|Ad<|Aa fun ops=>oA rfl<|Ac<|n_K<|Ad<|Aa fun ops=>oM rfl<|oN rfl<|oF rfl ?_
 refine oR (Al rfl mM rfl) ?_
 refine oA rfl<|Ac<|n_K<|An ?_
 refine Aq (At Tryz.results191 (Ag rfl)) ?_ sP
 rfl
theorem Ad5 {s:Sl By} {k:Nat} {T:TypeId} (hs:s.list.length≤70000000000000):Does Tryz.prog 56 [(s.take k T).val] (s.hp T++[]) (fun v H=>∃ s':Sl By,v=s'.val∧H=(s'.hp tU8++(s.hp T++[]))∧s'.list=s.list.take k∧s'.isOwn=true):=by
 have:=O0 (s:=s.take k T) (T:=T) (by rw [Sl.take_list,List.length_take];omega)
 rwa [Sl.take_hp,Sl.take_list] at this
theorem Jx {r:Rdr} {n:Int} (hs:r.sl.list.length≤70000000000000):Does Tryz.prog 104 [ptr r.b,.int .i64 n] (rdH r) (fun v H=>∃ (s sl:Sl By) (bad:Bool),v=s.val∧H=s.hp tU8++(rdH ⟨r.b,sl,bad⟩++[])∧s.isOwn=true ∧
   s.list=(C9 (max n 0).toNat r.sl.list r.bad).1∧sl.list=(C9 (max n 0).toNat r.sl.list r.bad).2.1∧bad=(C9 (max n 0).toNat r.sl.list r.bad).2.2):=by
 rw [Qk]
 refine Ah (n:=37) Tryz.func104 Tryz.ntmps104 rfl (Nat.le_of_ble_eq_true rfl)<|Ad<|Aa fun ops=>oA rfl<|Ac<|n_K<|Ad<|Aa fun ops=>oM rfl<|oR (Ln rfl rfl)<|oA rfl<|Ac<|n_K<|Ad ?_
 refine Ad<|Aa fun ops=>oM rfl<|oM rfl<|oN rfl<|oF rfl ?_
 refine oR (Al rfl mM rfl) ?_
 refine oR (A7 rfl)<|oR (Ae rfl rfl rfl)<|Ac<|n_K ?_
 refine Aj rfl (fun c13=> ?_) (fun c13=> ?_)
 ·simp at c13
  refine Ad<|Aa fun ops=>oM rfl<|oM rfl<|oN rfl<|oF rfl ?_
  refine Af rfl rfl uD rfl rfl rfl ?_
  refine oN rfl<|oF rfl ?_
  refine Af rfl rfl uD rfl rfl rfl ?_
  refine Ac<|n_K<|Ad<|Aa fun ops=>oA rfl<|Ac<|n_K<|An<|r_K ?_
  exact Av (At Tryz.results104 (Ag rfl)) (by refine ⟨Sl.nil,Sl.nil,true,rfl,rfl,rfl,?_⟩;unfold C9;rw [if_pos (by omega)];exact ⟨rfl,rfl,rfl⟩) (by rw [Qk,Sl.hp_nil];exact sP)
 ·simp at c13
  refine Ai<|n_K<|Ad ?_
  refine s_draw [] [(15,[(0,false),(1,false),(2,false),(3,false),(4,false),(5,false),(6,false),(8,false),(9,false),(10,false),(11,false),(12,false),(13,false),(7,true),(14,false)]),(17,[(15,false),(16,false)]),(18,[(17,true)])] (by kernel_rfl) rfl fun ops w0 H0 y=> ?_
  refine A4<|xM rfl<|xM rfl<|xN rfl<|xF rfl ?_
  refine xR (Al rfl mM rfl) ?_
  refine xM rfl ?_
  refine xR (Ahp tU8 rfl rfl (by omega)) ?_
  refine xM rfl<|xN rfl<|xF rfl ?_
  refine xR (Al rfl mM rfl) ?_
  refine xM rfl ?_
  refine xR (Vs tU8 rfl rfl (by omega) rfl) ?_
  refine Be ?_
  refine Bd rfl (Ad5 hs) sP rfl fun v27 Y27 h27=> ?_
  obtain ⟨s27,rfl,rfl,hs27,ho27⟩:=h27
  refine Ay aQ ?_
  refine Ac ⟨rfl,⟨_,sP⟩,?_⟩
  refine xA rfl<|Am<|A4<|xN rfl<|xF rfl<|Am<|Bh<|Be ?_
  refine Af rfl rfl uD rfl rfl rfl ?_
  refine Ac ⟨rfl,⟨_,sP⟩,?_⟩
  refine Am<|Bm<|n_K<|Ad<|Aa fun ops=>oM rfl<|oA rfl<|Ac<|n_K<|An ?_
  exact Av (At Tryz.results104 (Ag rfl)) (by refine ⟨s27,r.sl.drop (max n 0).toNat tU8,r.bad,rfl,rfl,ho27,?_⟩;unfold C9;rw [if_neg (by omega)];exact ⟨hs27,Sl.drop_list ..,rfl⟩) (by rw [Qk];simp only [Sl.drop_hp];exact sP)
theorem Ff {r:Rdr} {n:Int} (hs:r.sl.list.length≤70000000000000):Does Tryz.prog 103 [ptr r.b,.int .i64 n] (rdH r) (fun v H=>∃ (x:Wd) (sl:Sl By) (bad:Bool),v=wv x∧H=rdH ⟨r.b,sl,bad⟩++[] ∧
   x=(C7 (Bl n 8) r.sl.list r.bad).1∧sl.list=(C7 (Bl n 8) r.sl.list r.bad).2.1∧bad=(C7 (Bl n 8) r.sl.list r.bad).2.2):=by
 have hk:Bl n 8≤8:=by unfold Bl;omega
 refine Ah (n:=26) Tryz.func103 Tryz.ntmps103 rfl (Nat.le_of_ble_eq_true rfl)<|Ad<|Aa fun ops=>oA rfl<|Ac<|n_K<|Ad<|Ad<|Aa fun ops=>oM rfl<|oM rfl ?_
 refine A6 rfl (Abj) sP rfl aQ ?_
 refine Bd rfl (Jx hs) sP rfl fun v10 Y10 h10=> ?_
 obtain ⟨s10,sl10,bad10,rfl,rfl,ho10,hs10,hl10,hb10⟩:=h10
 refine Ay aQ ?_
 refine oR (A7 rfl)<|oM rfl<|Ac<|n_K<|Ak ?_
 have hmx:(max ((Bl n 8:Nat):Int) 0).toNat=Bl n 8:=by omega
 rw [hmx] at hs10 hl10 hb10
 have hl8:s10.list.length≤8:=by (rw [hs10];unfold C9;split;simp;simp;omega)
 refine D7 [10,11] kQ (fun (i:Nat)=>[(12,.int .i64 i),(4,wv (D9 s10.list i))]) (fun (i:Nat)=>i≤s10.list.length) (fun (i:Nat)=>s10.list.length - i) ((0:Nat)) (Nat.zero_le _) kP ?_
 rintro i h0
 refine Ad<|Aa fun ops=>oR (Ae rfl rfl rfl)<|Ac<|n_K<|Ad ?_
 refine Aj rfl (fun c13=> ?_) (fun c13=> ?_)
 ·simp at c13
  obtain ⟨y,hg⟩:∃ y,s10.list[i]? =some y:=⟨_,List.getElem?_eq_getElem c13⟩
  refine Ai<|n_K<|Ad<|Ak<|Ad<|Aa fun ops=>oM rfl ?_
  refine oR (Bk rfl rfl (by omega)) ?_
  refine oR (C0 (o:=0) (v:=bv y) rfl pL hg rfl rfl) ?_
  refine oA rfl<|oA rfl<|Ac<|n_K<|Aa fun ops=>oM rfl<|oM rfl<|oR (Arb rfl)<|oM rfl ?_
  refine oR (To rfl rfl (by omega)) ?_
  refine oR (show Rd _ _ _ _ (wv (y.setWidth 64 <<< (8*i))) from Amh rfl rfl (by omega) (by omega)) ?_
  refine Aap (show Rd _ _ _ _ (wv (D9 s10.list (i+1))) from by (rw [T6,List.getD_eq_getElem?_getD,hg,Option.getD_some];unfold wv;rw [show (((D9 s10.list i ||| (y.setWidth 64 <<< (8*i))).toNat:Nat):Int)=_ from (Qi .or .u64 rfl _ _).symm];exact Ae rfl rfl rfl)) rfl ?_
  refine oA rfl<|Ac<|Az<|n_K<|Aa fun ops=> ?_
  refine oR (Ao rfl rfl (by omega)) ?_
  refine oM rfl<|Ac<|n_K ?_
  exact ⟨i+1,(by first | omega | trivial | (refine ⟨?_,?_⟩ <;> omega)),(by omega),lZ⟩
 ·simp at c13
  refine Bb<|x_K<|x_K<|Bj<|n_K<|Ad<|Aa fun ops=>oM rfl<|oA rfl<|Ac<|n_K<|An ?_
  exact Av (At Tryz.results103 (Ag rfl)) (by refine ⟨D9 s10.list i,sl10,bad10,rfl,rfl,?_⟩;rw [hl10,hb10];unfold C9 at hs10 ⊢;unfold C7;split at hs10 <;> rename_i hc;(rw [if_pos hc,if_pos hc];refine ⟨?_,rfl,rfl⟩;rw [show i=0 by (rw [hs10] at h0;simpa using h0)];rfl);(rw [if_neg hc,if_neg hc];refine ⟨?_,rfl,rfl⟩;rw [show i=s10.list.length by omega,hs10];simp only;rw [List.length_take,Nat.min_eq_left (by omega)])) sP
end
section
open Go.K
instance und55:Und Tryz.prog 55 (.int .u32):=⟨Tryz.underlying55⟩
instance agg55:Agg Tryz.prog 55 false:=⟨⟨_,Tryz.underlying55,rfl⟩⟩
instance siz55:Siz Tryz.prog 55 1:=⟨by kernel_rfl⟩
instance und194:Und Tryz.prog 194 (.slice 23):=⟨Tryz.underlying194⟩
instance ent93:Ent Tryz.prog 93:=⟨fun _ _=>by kernel_rfl⟩
instance ent95:Ent Tryz.prog 95:=⟨fun _ _=>by kernel_rfl⟩
instance ent113:Ent Tryz.prog 113:=⟨fun _ _=>by kernel_rfl⟩
instance ent155:Ent Tryz.prog 155:=⟨fun _ _=>by kernel_rfl⟩
@[irreducible] def Dh (l:List (Sl By)):Hp:=l.flatMap (·.hp tU8)
theorem Ha:Dh []=[]:=by unfold Dh;rfl
theorem Cz (s:Sl By) (l:List (Sl By)):Dh (s::l)=s.hp tU8++Dh l:=by unfold Dh;rfl
theorem Wq:∀ {l:List (Sl By)} {i:Nat} {s:Sl By},l[i]? =some s→Sub (s.hp tU8) (Dh l)
 | [],_,_,h=>by simp at h
 | x::l,0,s,h=>by
  simp at h;subst h
  rw [Cz];exact fun y hy=>List.mem_append_left _ hy
 | x::l,i+1,s,h=>by
  have:=Wq (l:=l) (i:=i) (s:=s) (by simpa using h)
  rw [Cz];exact fun y hy=>List.mem_append_right _ (this y hy)
theorem Sf {q:Hp} {l:List (Sl By)} {i:Nat} {s:Sl By} {A B:Hp} (h:l[i]? =some s) (hp:PickL (Dh l) A B):Sub (s.hp tU8) A:=(Wq h).trans hp.toSub
instance mnz:Mnz Tryz.prog 195 23:=⟨_,#[3],Tryz.func195,by kernel_rfl,rfl,by kernel_rfl,by kernel_rfl⟩
theorem Amo {P:Program} {E:Env} {H:Hp} {t e:TypeId} {x lo:Operand} {b l i:Nat} [ht:Und P t (.slice e)] [hz:Siz P e 1] (hx:ev E x=some (.slice (some ⟨b,0,none⟩) l l)) (hlo:ev E lo=some (.int .i64 (i:Int))) (hb:i≤l) :
  Rd P E H (.slice t x (some lo) none none) (.slice (some ⟨b,if l=i then 0 else i,none⟩) (l - i) (l - i)):=by
 have:=M8 (P:=P) (H:=H) (t:=t) (e:=e) (sz:=1) hx hlo (by omega)
 by_cases h:l=i
 ·simpa [h] using this
 ·simpa [h,Dx] using this
theorem Ard {P:Program} {E:Env} {H:Hp} {t u:TypeId} {x y:Operand} {i:Int} (hx:ev E x=some (.int .i64 i)) (hy:ev E y=some (.int .i64 ((0:Nat):Int))) (hb: -9223372036854775808≤i∧i≤9223372036854775807):Rd P E H (.binOp .add t x y u) (.int .i64 i):=by
 have:=Ao (P:=P) (H:=H) (t:=t) (u:=u) hx hy (by omega)
 rwa [show i+((0:Nat):Int)=i by omega] at this
theorem Aip {b:Nat} {cs:List Value} {xs:List By} {L:Hp} {q:List (Sl By)} (hx:xs=Bq q) (hn:(Bq q).length≤cs.length) (hb:(Bq q).length≤70000000000000) :
  ∃ s:Sl By,Value.slice (some ⟨b,0,none⟩) (Bq q).length (Bq q).length=s.val∧((b,true,C (Yr cs xs) tU8)::L)=s.hp tU8++L∧s.list=Bq q∧s.isOwn=true:=by
 subst hx
 refine ⟨.own b (Bq q) (Bq q).length (cs.drop (Bq q).length) ⟨by simp,Nat.le_refl _,by omega⟩,rfl,?_,rfl,rfl⟩
 rw [Sl.hp_own]
 rfl
theorem Are {q:Sl (Sl By)} (hl:(Bq q.list).length≤70000000000000):Does Tryz.prog 155 [q.val,.slice none 0 0] (q.hp tSB++(Dh q.list++[])) (fun v H=>∃ s:Sl By,v=s.val∧H=s.hp tU8++(q.hp tSB++(Dh q.list++[]))∧s.list=Bq q.list∧s.isOwn=true):=by
 have hsm:=q.small
 refine Ah (n:=92) Tryz.func155 Tryz.ntmps155 rfl (Nat.le_of_ble_eq_true rfl)<|Ad<|Aa fun ops=>oA rfl<|Ac<|n_K<|Ad<|Ad<|Aa fun ops=>oM rfl<|oR (A7 rfl)<|oR (Ae rfl rfl rfl)<|Ac<|n_K ?_
 refine Aj rfl (fun c14=> ?_) (fun c14=> ?_)
 ·simp only [decide_eq_true_eq,decide_eq_false_iff_not] at c14
  refine Ad<|Aa fun ops=> ?_
  refine A5 rfl rfl rfl rfl fun b15=> ?_
  refine Q5 (Amn (α:=By) (b:=b15) (T:=tU8)) ?_
  refine oA rfl<|Ac<|n_K<|An<|r_K ?_
  exact Av (At Tryz.results155 (Ag rfl)) (by refine ⟨mt By b15,rfl,rfl,?_,rfl⟩;rw [List.length_eq_zero_iff.1 (show q.list.length=0 by omega)];rfl) sP
 ·simp only [decide_eq_true_eq,decide_eq_false_iff_not] at c14
  refine Ai<|n_K<|Ad<|Ad<|Aa fun ops=>oM rfl<|oR (A7 rfl)<|oR (Ae rfl rfl rfl)<|Ac<|n_K ?_
  refine Aj rfl (fun c18=> ?_) (fun c18=> ?_)
  ·simp only [decide_eq_true_eq,decide_eq_false_iff_not] at c18
   obtain ⟨s,hs⟩:∃ s,q.list=[s]:=List.length_eq_one_iff.1 (by omega)
   have hg:q.list[0]? =some s:=by (rw [hs];rfl)
   have hjl:Bq q.list=s.list:=by (rw [hs];simp [Bq])
   refine Ad<|Aa fun ops=>oM rfl ?_
   refine oR (Bk rfl rfl (by omega)) ?_
   refine oR (C0 (o:=0) (i:=0) (v:=s.val) rfl pL hg rfl rfl) ?_
   refine Q5 (Gu (α:=By) (T:=tU8)) ?_
   refine Bp (s:=(Sl.nil:Sl By)) (new:=s.list) (m:=s.list.length) rfl rfl pL rfl (R4 (Sf (q:=[]) hg pL)) rfl rfl rfl rfl (by rw [show (Sl.nil:Sl By).list.length=0 from rfl,← hjl];omega) rfl fun s' hs1 hs2=> ?_
   refine oA rfl<|Ac<|n_K<|An<|r_K ?_
   exact Av (At Tryz.results155 (Ag rfl)) (by refine ⟨s',rfl,rfl,?_,hs2⟩;rw [hs1,hjl];rfl) sP
  ·simp only [decide_eq_true_eq,decide_eq_false_iff_not] at c18
   have hne:0<q.list.length:=by omega
   refine Ai<|n_K<|Ad<|Aa fun ops=>oA rfl<|Ac<|n_K<|Ad<|Ad<|Aa fun ops=>oM rfl<|oR (A7 rfl)<|oR (Ae rfl rfl rfl)<|Ac ?_
   refine n_K ?_
   refine Bi rfl ?_
   refine Ai<|n_K<|Ad<|Ad<|Aa fun ops=>oM rfl<|oR (A7 rfl)<|oM rfl<|Ac<|n_K<|Ak ?_
   refine D7 [0,1,42,43] kQ (fun (i:Nat)=>[(44,.int .i64 i),(5,.int .i64 (Bq (q.list.take i)).length)]) (fun (i:Nat)=>i≤q.list.length) (fun (i:Nat)=>q.list.length - i) ((0:Nat)) (Nat.zero_le _) kP ?_
   rintro i h0
   have hle:=Oz q.list i
   refine Ad<|Aa fun ops=>oR (Ae rfl rfl rfl)<|Ac<|n_K<|Ad ?_
   refine Aj rfl (fun c45=> ?_) (fun c45=> ?_)
   ·simp at c45
    obtain ⟨s,hg⟩:∃ s,q.list[i]? =some s:=⟨_,List.getElem?_eq_getElem c45⟩
    have hst:=Ni hg
    have hle2:=Oz q.list (i+1)
    rw [hst,List.length_append] at hle2
    refine Ai<|n_K<|Ad<|Ak<|Ad<|Aa fun ops=> ?_
    refine oR (Bk rfl rfl (by omega)) ?_
    refine oR (C0 (o:=0) (v:=s.val) rfl pL hg rfl rfl) ?_
    refine oA rfl<|Ac<|n_K<|Ad<|Ad<|Aa fun ops=>oM rfl<|oR (A7 rfl)<|oM rfl ?_
    refine oR (Cy rfl rfl (by omega)) ?_
    refine oR (Ae rfl rfl rfl)<|Ac<|n_K ?_
    refine Aj rfl (fun c52=> ?_) (fun c52=> ?_)
    ·simp at c52
     omega
    ·simp at c52
     refine Ai<|n_K<|Aa fun ops=>oM rfl<|oM rfl<|oR (A7 rfl) ?_
     refine oR (show Rd _ _ _ _ (.int .i64 (Bq (q.list.take (i+1))).length) from by (rw [hst,List.length_append];push_cast;exact Ao rfl rfl (by omega))) ?_
     refine oA rfl<|Ac<|Az<|n_K<|Aa fun ops=> ?_
     refine oR (Ao rfl rfl (by omega)) ?_
     refine oM rfl<|Ac<|n_K ?_
     exact ⟨i+1,(by first | omega | trivial | (refine ⟨?_,?_⟩ <;> omega)),(by omega),lZ⟩
   ·simp at c45
    have hall:Bq (q.list.take i)=Bq q.list:=by rw [List.take_of_length_le (by omega)]
    rw [hall]
    refine Bb<|x_K<|x_K<|Bj<|n_K<|Ad<|Aa fun ops=>oM rfl ?_
    refine Avu (m:=(Bq q.list).length) rfl (by omega) rfl fun b60 cs hcs=> ?_
    refine oM rfl<|oM rfl ?_
    refine oR (Ahq rfl rfl rfl (by omega)) ?_
    refine oA rfl<|Ac<|n_K<|Ad<|Aa fun ops=>oM rfl<|oM rfl ?_
    refine oR (Bk rfl rfl (by omega)) ?_
    refine Aap (C0 (o:=0) (i:=0) (v:=(q.list[0]'hne).val) rfl pL (List.getElem?_eq_getElem hne) rfl rfl) rfl ?_
    have hb0:Yr cs []=cs:=(by simp [Yr,cells])
    have hg0:q.list[0]? =some (q.list[0]'hne):=List.getElem?_eq_getElem hne
    have hst0:=Ni hg0
    rw [show Bq (q.list.take 0)=[] from rfl,List.nil_append] at hst0
    have hle0:=Oz q.list (0+1)
    rw [hst0] at hle0
    have hsp0:=Abh (cs:=cs) (xs:=[]) (ys:=(q.list[0]'hne).list) (o:=0) (by rw [List.length_nil,Nat.zero_add];omega) (.inr rfl)
    rw [hb0,List.nil_append] at hsp0
    refine G5 rfl rfl (R4 (Sf (q:=[]) hg0 pL)) (by omega) uD hsp0 (Gg _) rfl ?_
    refine oA rfl<|Ac<|n_K<|Ad<|Ad<|Aa fun ops=>oM rfl ?_
    refine oR (show Rd _ _ _ _ (q.drop 1 tSB).val from Vs (i:=1) tSB rfl rfl (by omega) rfl) ?_
    refine oR (A7 rfl)<|oM rfl<|Ac<|n_K<|Ak ?_
    have hdl:(q.drop 1 tSB).list.length=q.list.length - 1:=by rw [Sl.drop_list,List.length_drop]
    rw [← hst0]
    refine A8 [1,8,70,71] kQ (fun (j:Nat)=>[(72,.int .i64 j),(9,.int .i64 (Bq (q.list.take (j+1))).length)]) (fun (j:Nat)=>(b60,true,C (Yr cs (Bq (q.list.take (j+1)))) tU8)::(q.hp tSB++(Dh q.list++[]))) (fun (j:Nat)=>j+1≤q.list.length) (fun (j:Nat)=>q.list.length - j) ((0:Nat)) (by omega) kP sP ?_
    rintro j h1
    refine Ad<|Aa fun ops=>oR (Ae rfl rfl rfl)<|Ac<|n_K<|Ad ?_
    refine Aj rfl (fun c73=> ?_) (fun c73=> ?_)
    ·simp only [decide_eq_true_eq,decide_eq_false_iff_not] at c73
     have hj:j+1<q.list.length:=by omega
     obtain ⟨s,hg⟩:∃ s,q.list[j+1]? =some s:=⟨_,List.getElem?_eq_getElem hj⟩
     have hg':(q.drop 1 tSB).list[j]? =some s:=(by rw [Sl.drop_list,List.getElem?_drop,Nat.add_comm 1 j];exact hg)
     have hst:=Ni hg
     have hle1:=Oz q.list (j+1+1)
     rw [hst,List.length_append] at hle1
     have hb1:=Abh (cs:=cs) (xs:=Bq (q.list.take (j+1))) (ys:=s.list) (o:=if (Bq q.list).length=(Bq (q.list.take (j+1))).length then 0 else (Bq (q.list.take (j+1))).length) (by omega) (by split;(left;exact ⟨List.length_eq_zero_iff.1 (by omega),rfl⟩);(right;rfl))
     rw [← hst] at hb1
     refine Ai<|n_K<|Ad<|Ak<|Ad<|Aa fun ops=> ?_
     refine oR (Bk rfl rfl (by omega)) ?_
     refine oR (Aak (o:=0) (v:=s.val) rfl (by rw [Sl.drop_hp];exact PickL.toSub pL) hg' rfl rfl) ?_
     refine oA rfl<|Ac<|n_K<|Ad<|Aa fun ops=>oM rfl<|oM rfl<|oM rfl ?_
     refine oR (M8 rfl rfl (by omega)) ?_
     refine oM rfl ?_
     refine Adl rfl rfl rfl ?_
     refine oR (show Rd _ _ _ _ (.int .i64 (Bq (q.list.take (j+1))).length) from Ard rfl rfl (by omega)) ?_
     refine oA rfl<|Ac<|n_K<|Aa fun ops=>oM rfl<|oM rfl<|oM rfl ?_
     refine oR (show Rd _ _ _ _ (.slice (some ⟨b60,if (Bq q.list).length=(Bq (q.list.take (j+1))).length then 0 else (Bq (q.list.take (j+1))).length,none⟩) ((Bq q.list).length - (Bq (q.list.take (j+1))).length) ((Bq q.list).length - (Bq (q.list.take (j+1))).length)) from Amo rfl rfl (by omega)) ?_
     refine oM rfl ?_
     refine G5 rfl rfl (R4 (Sf (q:=[]) hg pL)) (by omega) uD hb1 (Gg _) rfl ?_
     refine oR (show Rd _ _ _ _ (.int .i64 (Bq (q.list.take (j+1+1))).length) from by (rw [hst,List.length_append];push_cast;exact Ao rfl rfl (by omega))) ?_
     refine oA rfl<|Ac<|Az<|n_K<|Aa fun ops=> ?_
     refine oR (Ao rfl rfl (by omega)) ?_
     refine oM rfl<|Ac<|n_K ?_
     exact ⟨j+1,(by first | omega | trivial | (refine ⟨?_,?_⟩ <;> omega)),(by omega),lZ⟩
    ·simp only [decide_eq_true_eq,decide_eq_false_iff_not] at c73
     refine Bb<|x_K<|x_K<|Bj<|n_K<|Ad<|Aa fun ops=>oM rfl<|oA rfl<|Ac<|n_K<|An ?_
     exact Av (At Tryz.results155 (Ag rfl)) (by exact Aip (q:=q.list) (cs:=cs) (b:=b60) (show Bq (q.list.take (j+1))=_ from by rw [List.take_of_length_le (by omega)]) hcs hl) sP
theorem Abk {q:Sl (Sl By)} (hl:(Bq q.list).length≤70000000000000):Does Tryz.prog 113 [q.val] (q.hp tSB++(Dh q.list++[])) (fun v H=>∃ s:Sl By,v=s.val∧H=s.hp tU8++(q.hp tSB++(Dh q.list++[]))∧s.list=Bq q.list∧s.isOwn=true):=by
 refine Ah (n:=5) Tryz.func113 Tryz.ntmps113 rfl (Nat.le_of_ble_eq_true rfl)<|Ad<|Aa fun ops=>oA rfl<|Ac<|n_K<|Ad<|Aa fun ops=>oM rfl ?_
 refine Bd rfl (Are hl) sP rfl fun v4 Y4 h4=> ?_
 obtain ⟨s4,rfl,rfl,hs4,ho4⟩:=h4
 refine Ay aQ ?_
 refine oA rfl<|Ac<|n_K<|An ?_
 exact Av (At Tryz.results113 (Ag rfl)) (by exact ⟨s4,rfl,rfl,hs4,ho4⟩) sP
theorem Ata {c:BitVec 32} {q:Sl (Sl By)}:Does Tryz.prog 95 [uv c,q.val] (q.hp tSB++(Dh q.list++[])) (Is (uv (K3 c (q.list.map (·.list)))) (q.hp tSB++(Dh q.list++[]))):=by
 have hsm:=q.small
 refine Ah (n:=42) Tryz.func95 Tryz.ntmps95 rfl (Nat.le_of_ble_eq_true rfl)<|Ad<|Aa fun ops=>oA rfl<|Ac<|n_K<|Ad<|Aa fun ops=>oM rfl<|oR (T5 rfl)<|oA rfl<|Ac<|n_K<|Ad ?_
 refine Ad<|Aa fun ops=>oM rfl<|oR (A7 rfl)<|oM rfl<|Ac<|n_K<|Ak ?_
 refine D7 [12,13] kQ (fun (i:Nat)=>[(14,.int .i64 i),(5,uv (((q.list.take i).map (·.list)).foldl T8 (~~~c)))]) (fun (i:Nat)=>i≤q.list.length) (fun (i:Nat)=>q.list.length - i) ((0:Nat)) (Nat.zero_le _) kP ?_
 rintro i h0
 refine Ad<|Aa fun ops=>oR (Ae rfl rfl rfl)<|Ac<|n_K<|Ad ?_
 refine Aj rfl (fun c15=> ?_) (fun c15=> ?_)
 ·simp only [decide_eq_true_eq,decide_eq_false_iff_not] at c15
  obtain ⟨s,hg⟩:∃ s,q.list[i]? =some s:=⟨_,List.getElem?_eq_getElem (by omega)⟩
  have hst:((q.list.take (i+1)).map (·.list)).foldl T8 (~~~c)=T8 (((q.list.take i).map (·.list)).foldl T8 (~~~c)) s.list:=(by rw [List.map_take,List.map_take];exact Ad3 (by rw [List.getElem?_map,hg];rfl))
  have hss:=s.small
  generalize ha:((q.list.take i).map (·.list)).foldl T8 (~~~c)=a at hst ⊢
  refine Ai<|n_K<|Ad<|Ak<|Ad<|Aa fun ops=> ?_
  refine oR (Bk rfl rfl (by omega)) ?_
  refine oR (C0 (o:=0) (v:=s.val) rfl pL hg rfl rfl) ?_
  refine oA rfl<|Ac<|n_K<|Ad<|Aa fun ops=>oM rfl<|oR (A7 rfl)<|oM rfl<|Ac<|n_K<|Ak ?_
  refine D7 [12,13,14,18,19] kQ (fun (j:Nat)=>[(20,.int .i64 j),(5,uv (T8 a (s.list.take j)))]) (fun (j:Nat)=>j≤s.list.length) (fun (j:Nat)=>s.list.length - j) ((0:Nat)) (Nat.zero_le _) kP ?_
  rintro j h1
  refine Ad<|Aa fun ops=>oR (Ae rfl rfl rfl)<|Ac<|n_K<|Ad ?_
  refine Aj rfl (fun c21=> ?_) (fun c21=> ?_)
  ·simp only [decide_eq_true_eq,decide_eq_false_iff_not] at c21
   obtain ⟨y,hy⟩:∃ y,s.list[j]? =some y:=⟨_,List.getElem?_eq_getElem (by omega)⟩
   have hst2:=Ain (c:=a) hy
   generalize he:T8 a (s.list.take j)=e at hst2 ⊢
   refine Ai<|n_K<|Ad<|Ak<|Ad<|Aa fun ops=> ?_
   refine oR (Bk rfl rfl (by omega)) ?_
   refine oR (Aak (o:=0) (v:=bv y) rfl (Sf (q:=[]) hg pL) hy rfl rfl) ?_
   refine oA rfl<|Ac<|n_K<|Ad<|Aa fun ops=>oM rfl<|oM rfl<|oR (Ara rfl)<|oR (Abc rfl rfl)<|oA rfl<|Ac<|n_K<|Ad<|Aa fun ops=> ?_
   refine oM rfl<|Ac<|n_K<|Ak ?_
   refine D7 [12,13,14,18,19,20] kQ (fun (k:Nat)=>[(28,.int .i64 k),(5,uv (Abg (e ^^^ y.setWidth 32) k))]) (fun (k:Nat)=>k≤8) (fun (k:Nat)=>8 - k) ((0:Nat)) (Nat.zero_le _) kP ?_
   rintro k h2
   have hck:Abg (e ^^^ y.setWidth 32) (k+1)=Av7 (Abg (e ^^^ y.setWidth 32) k):=rfl
   have hk8:Auj e y=Abg (e ^^^ y.setWidth 32) 8:=rfl
   generalize hz:Abg (e ^^^ y.setWidth 32) k=z at hck ⊢
   refine Ad<|Aa fun ops=>oR (Ae rfl rfl rfl)<|Ac<|n_K<|Ad ?_
   refine Aj rfl (fun c29=> ?_) (fun c29=> ?_)
   ·simp only [decide_eq_true_eq,decide_eq_false_iff_not] at c29
    refine Ai<|n_K<|Ad<|Ak<|Aa fun ops=>oM rfl<|oR (Aij rfl rfl)<|oM rfl ?_
    refine oR (Abd (b:=1) rfl rfl) ?_
    refine oR (Amj rfl) ?_
    refine oR (Abd (a:=As9) rfl rfl) ?_
    refine oR (show Rd _ _ _ _ (uv (Abg (e ^^^ y.setWidth 32) (k+1))) from by (rw [hck];exact Abc rfl rfl)) ?_
    refine oA rfl<|Ac<|Az<|n_K<|Aa fun ops=> ?_
    refine oR (Ao rfl rfl (by omega)) ?_
    refine oM rfl<|Ac<|n_K ?_
    exact ⟨k+1,(by first | omega | trivial | (refine ⟨?_,?_⟩ <;> omega)),(by omega),lZ⟩
   ·simp only [decide_eq_true_eq,decide_eq_false_iff_not] at c29
    refine Bb<|x_K<|x_K<|Bj<|Az<|n_K<|Aa fun ops=> ?_
    refine oR (Ao rfl rfl (by omega)) ?_
    refine oM rfl<|Ac<|n_K ?_
    have hk:k=8:=by omega
    subst hk
    rw [← hz,← hk8,← hst2]
    exact ⟨j+1,(by first | omega | trivial | (refine ⟨?_,?_⟩ <;> omega)),(by omega),lZ⟩
  ·simp only [decide_eq_true_eq,decide_eq_false_iff_not] at c21
   refine Bb<|x_K<|x_K<|Bj<|Az<|n_K<|Aa fun ops=> ?_
   refine oR (Ao rfl rfl (by omega)) ?_
   refine oM rfl<|Ac<|n_K ?_
   have hj:j=s.list.length:=by omega
   rw [hj,List.take_length,← hst]
   exact ⟨i+1,(by first | omega | trivial | (refine ⟨?_,?_⟩ <;> omega)),(by omega),lZ⟩
 ·simp only [decide_eq_true_eq,decide_eq_false_iff_not] at c15
  refine Bb<|x_K<|x_K<|Bj<|n_K<|Ad<|Aa fun ops=>oM rfl ?_
  refine oR (show Rd _ _ _ _ (uv (K3 c (q.list.map (·.list)))) from by (rw [K3,show q.list.map (·.list)=(q.list.take i).map (·.list) by rw [List.take_of_length_le (by omega)]];exact T5 rfl)) ?_
  refine oA rfl<|Ac<|n_K<|An ?_
  refine Aq (At Tryz.results95 (Ag rfl)) ?_ sP
  rfl
theorem Amp {q:Sl (Sl By)}:Does Tryz.prog 93 [q.val] (q.hp tSB++(Dh q.list++[])) (Is (uv (K3 0 (q.list.map (·.list)))) (q.hp tSB++(Dh q.list++[]))):=by
 refine Ah (n:=5) Tryz.func93 Tryz.ntmps93 rfl (Nat.le_of_ble_eq_true rfl)<|Ad<|Aa fun ops=>oA rfl<|Ac<|n_K<|Ad<|Aa fun ops=>oM rfl ?_
 refine A6 rfl (Ata (c:=0)) sP rfl aQ ?_
 refine oA rfl<|Ac<|n_K<|An ?_
 refine Aq (At Tryz.results93 (Ag rfl)) ?_ sP
 rfl
end
section
open Go.K
instance und151:Und Tryz.prog 151 (.int .u64):=⟨Tryz.underlying151⟩
instance und214:Und Tryz.prog 214 (.int .u16):=⟨Tryz.underlying214⟩
instance und217:Und Tryz.prog 217 (.array 256 5):=⟨Tryz.underlying217⟩
instance agg217:Agg Tryz.prog 217 true:=⟨⟨_,Tryz.underlying217,rfl⟩⟩
instance siz217:Siz Tryz.prog 217 256:=⟨by kernel_rfl⟩
instance zer217:Zer Tryz.prog 217 (List.replicate 256 (.int .u8 0)):=⟨by kernel_rfl⟩
instance ent134:Ent Tryz.prog 134:=⟨fun _ _=>by kernel_rfl⟩
instance ent143:Ent Tryz.prog 143:=⟨fun _ _=>by kernel_rfl⟩
instance ent144:Ent Tryz.prog 144:=⟨fun _ _=>by kernel_rfl⟩
instance ent182:Ent Tryz.prog 182:=⟨fun _ _=>by kernel_rfl⟩
instance ent187:Ent Tryz.prog 187:=⟨fun _ _=>by kernel_rfl⟩
instance ent188:Ent Tryz.prog 188:=⟨fun _ _=>by kernel_rfl⟩
instance ent189:Ent Tryz.prog 189:=⟨fun _ _=>by kernel_rfl⟩
instance ent218:Ent Tryz.prog 218:=⟨fun _ _=>by kernel_rfl⟩
instance ent219:Ent Tryz.prog 219:=⟨fun _ _=>by kernel_rfl⟩
instance ent236:Ent Tryz.prog 236:=⟨fun _ _=>by kernel_rfl⟩
abbrev tDa:TypeId:=217
abbrev tPg:TypeId:=147
theorem Wr {n:Nat} (hn:n<65536):Does Tryz.prog 143 [.int .u16 (n:Nat)] [] (Is (.int .i64 (Gm n:Nat)) []):=by
 have h1:n / 256<256:=by omega
 have h2:(BitVec.ofNat 8 (n / 256)).toNat=n / 256:=by simp;omega
 have h3:(BitVec.ofNat 8 (n % 256)).toNat=n % 256:=by simp
 have t1:=Xi (BitVec.ofNat 8 (n / 256))
 have t2:=Xi (BitVec.ofNat 8 (n % 256))
 rw [h2] at t1
 rw [h3] at t2
 refine Ah (n:=11) Tryz.func143 Tryz.ntmps143 rfl (Nat.le_of_ble_eq_true rfl)<|Ad<|Aa fun ops=>oA rfl<|Ac<|n_K<|Ad ?_
 refine s_draw [] [(9,[(0,false),(1,false),(2,false),(3,false),(4,false),(5,false),(6,false),(7,false),(8,false)])] (by kernel_rfl) rfl fun ops w0 H0 y=> ?_
 refine A4<|xM rfl ?_
 refine xR (show Rd _ _ _ _ (.int .u16 ((n / 256:Nat):Int)) from Yo (m:=8) rfl rfl rfl (by decide)) ?_
 refine xR (Jm rfl rfl (by omega) t1) ?_
 refine xM rfl ?_
 refine xR (show Rd _ _ _ _ (.int .u16 ((n % 256:Nat):Int)) from by (rw [← Nat.and_two_pow_sub_one_eq_mod n 8];exact Abe (b:=255) rfl rfl hn (by omega))) ?_
 refine xR (Jm rfl rfl (by omega) t2) ?_
 refine xR (Ae rfl rfl rfl)<|xR (C4 rfl)<|xA rfl<|Am<|Bm<|n_K<|An ?_
 refine Aq (At Tryz.results143 (Ag rfl)) ?_ sP
 have p1:=Kb (BitVec.ofNat 8 (n / 256));have p2:=Kb (BitVec.ofNat 8 (n % 256));exact congrArg (Value.int .i64) (by rw [Ae8,Ae8,Gm,← Int.natCast_add,Hg .u8 rfl (by show _<256;omega),Yq (by omega)])
theorem Aiq {n:Nat} (hn:n<4096):Does Tryz.prog 236 [.int .u64 (n:Nat)] [] (Is (.int .i64 (Gm n:Nat)) []):=by
 refine Ah (n:=35) Tryz.func236 Tryz.ntmps236 rfl (Nat.le_of_ble_eq_true rfl)<|Ad<|Aa fun ops=>oA rfl<|Ac<|n_K<|Ad<|Aa fun ops=>oM rfl ?_
 refine oR (Ir rfl rfl (by omega)) ?_
 refine oR (Ae rfl rfl rfl)<|oM rfl<|oR (Ae rfl rfl rfl)<|oR (Ae rfl rfl rfl)<|oA rfl<|Ac<|n_K<|Ad<|Aa fun ops=>oM rfl ?_
 refine oR (Ir rfl rfl (by omega)) ?_
 refine oR (Ae rfl rfl rfl)<|oM rfl<|oR (Ae rfl rfl rfl)<|oR (Ae rfl rfl rfl)<|oA rfl<|Ac<|n_K<|Ad<|Aa fun ops=>oM rfl ?_
 refine oR (Ir rfl rfl (by omega)) ?_
 refine oM rfl<|oR (Ae rfl rfl rfl)<|oR (Ae rfl rfl rfl)<|oA rfl<|Ac<|n_K<|Ad<|Aa fun ops=>oM rfl<|oM rfl ?_
 refine oR (Ir rfl rfl (by omega)) ?_
 refine oR (Ae rfl rfl rfl)<|oA rfl<|Ac<|n_K<|Ad<|Aa fun ops=>oM rfl<|oM rfl ?_
 refine oR (Ir rfl rfl (by omega)) ?_
 refine oR (Ae rfl rfl rfl)<|oA rfl<|Ac<|n_K<|Ad<|Aa fun ops=>oM rfl<|oM rfl ?_
 refine oR (Ir rfl rfl (by omega)) ?_
 refine oR (Ae rfl rfl rfl)<|oA rfl<|Ac<|n_K<|Ad<|Aa fun ops=>oM rfl<|oR (C4 rfl)<|oR (Ae rfl rfl rfl)<|oA rfl<|Ac<|n_K<|An ?_
 refine Aq (At Tryz.results236 (Ag rfl)) ?_ sP
 exact congrArg (Value.int .i64) (Ap3 n hn)
theorem Arf {n:Nat} (hn:n<4096):Does Tryz.prog 219 [.int .u64 (n:Nat)] [] (Is (.int .i64 (Gm n:Nat)) []):=by
 refine Ah (n:=8) Tryz.func219 Tryz.ntmps219 rfl (Nat.le_of_ble_eq_true rfl)<|Ad<|Aa fun ops=>oA rfl<|Ac<|n_K<|Ad ?_
 refine Bi rfl ?_
 refine Ai<|n_K<|Ad<|Aa fun ops=>oM rfl ?_
 refine A6 rfl (Aiq hn) sP rfl aQ ?_
 refine oA rfl<|Ac<|n_K<|An ?_
 refine Aq (At Tryz.results219 (Ag rfl)) ?_ sP
 rfl
theorem Amq {n:Nat} (hn:n<4096):Does Tryz.prog 182 [.int .u64 (n:Nat)] [] (Is (.int .i64 (Rr n:Nat)) []):=by
 refine Ah (n:=25) Tryz.func182 Tryz.ntmps182 rfl (Nat.le_of_ble_eq_true rfl)<|Ad<|Aa fun ops=>oA rfl<|Ac<|n_K<|Ad<|Ad<|Aa fun ops=>oM rfl<|oR (Ae rfl rfl rfl)<|Ac<|n_K ?_
 refine Aj rfl (fun c4=> ?_) (fun c4=> ?_)
 ·simp only [decide_eq_true_eq,decide_eq_false_iff_not] at c4
  omega
 ·simp only [decide_eq_true_eq,decide_eq_false_iff_not] at c4
  refine Ai<|n_K<|Ad<|Ad<|Aa fun ops=>oM rfl<|oR (Ae rfl rfl rfl)<|Ac<|n_K ?_
  refine Aj rfl (fun c8=> ?_) (fun c8=> ?_)
  ·simp only [decide_eq_true_eq,decide_eq_false_iff_not] at c8
   omega
  ·simp only [decide_eq_true_eq,decide_eq_false_iff_not] at c8
   refine Ai<|n_K<|Ad<|Ad<|Aa fun ops=>oM rfl<|oR (Ae rfl rfl rfl)<|Ac<|n_K ?_
   refine Aj rfl (fun c14=> ?_) (fun c14=> ?_)
   ·simp only [decide_eq_true_eq,decide_eq_false_iff_not] at c14
    have h8:(BitVec.ofNat 8 (n / 256)).toNat=n / 256:=(by simp;omega)
    have t1:=Aew (BitVec.ofNat 8 (n / 256))
    have t2:=Aex (BitVec.ofNat 8 (n / 256))
    rw [h8] at t1
    have t3:=Atz n hn (by omega)
    have t4:=Ae9 (BitVec.ofNat 8 (n / 256))
    refine Ad<|Aa fun ops=>oM rfl ?_
    refine oR (show Rd _ _ _ _ (.int .u64 ((n / 256:Nat):Int)) from Yo (m:=8) rfl rfl rfl (by decide)) ?_
    refine oA rfl<|Ac<|n_K<|Aa fun ops=>oM rfl ?_
    refine oR (Ao rfl rfl (by omega)) ?_
    refine oA rfl<|Ac<|n_K<|Ad<|Aa fun ops=>oM rfl<|oM rfl ?_
    refine oR (Ft rfl (Hg .u8 rfl (by show _<256;omega))) ?_
    refine oR (Jm rfl rfl (by omega) t1) ?_
    refine oR (G8 t2 rfl) ?_
    refine oR (Ao rfl rfl (by omega)) ?_
    refine oA rfl<|Ac<|n_K<|An ?_
    refine Aq (At Tryz.results182 (Ag rfl)) ?_ sP
    exact congrArg (Value.int .i64) (by omega)
   ·simp only [decide_eq_true_eq,decide_eq_false_iff_not] at c14
    have h8:(BitVec.ofNat 8 n).toNat=n:=(by simp;omega)
    have t1:=Aew (BitVec.ofNat 8 n)
    have t2:=Aex (BitVec.ofNat 8 n)
    rw [h8] at t1
    have t3:=Aty n (by omega)
    have t4:=Ae9 (BitVec.ofNat 8 n)
    refine Ai<|n_K<|Ad<|Aa fun ops=>oM rfl<|oM rfl ?_
    refine oR (Ft rfl (Hg .u8 rfl (by show _<256;omega))) ?_
    refine oR (Jm rfl rfl (by omega) t1) ?_
    refine oR (G8 t2 rfl) ?_
    refine oR (Ao rfl rfl (by omega)) ?_
    refine oA rfl<|Ac<|n_K<|An ?_
    refine Aq (At Tryz.results182 (Ag rfl)) ?_ sP
    exact congrArg (Value.int .i64) (by omega)
theorem Ad6 {n:Nat} (hn:n<4096):Does Tryz.prog 134 [.int .u64 (n:Nat)] [] (Is (.int .i64 (Rr n:Nat)) []):=by
 refine Ah (n:=8) Tryz.func134 Tryz.ntmps134 rfl (Nat.le_of_ble_eq_true rfl)<|Ad<|Aa fun ops=>oA rfl<|Ac<|n_K<|Ad ?_
 refine Bi rfl ?_
 refine Ai<|n_K<|Ad<|Aa fun ops=>oM rfl ?_
 refine A6 rfl (Amq hn) sP rfl aQ ?_
 refine oA rfl<|Ac<|n_K<|An ?_
 refine Aq (At Tryz.results134 (Ag rfl)) ?_ sP
 rfl
theorem Amr {i:Nat} (hi:i<2048):Does Tryz.prog 218 [.int .i64 (i:Nat)] [] (Is (.int .i64 (M3 i:Nat)) []):=by
 refine Ah (n:=15) Tryz.func218 Tryz.ntmps218 rfl (Nat.le_of_ble_eq_true rfl)<|Ad<|Aa fun ops=>oA rfl<|Ac<|n_K<|Ad<|Aa fun ops=>oM rfl ?_
 refine oR (Ao rfl rfl (by omega)) ?_
 refine oA rfl<|Ac<|n_K<|Ad<|Ad<|Aa fun ops=>oA rfl<|Ac<|n_K<|Ak ?_
 refine D7 [] kQ (fun (k:Nat)=>[(3,.int .i64 ((i+1+k:Nat):Int)),(4,.int .i64 ((2 ^ k:Nat):Int))]) (fun (k:Nat)=>k≤13∧L9 (13 - k) (i+1+k) (2 ^ k)=M3 i) (fun (k:Nat)=>14 - k) ((0:Nat)) ⟨Nat.zero_le _,rfl⟩ kP ?_
 rintro k ⟨h0,h1⟩
 refine Ad<|Ad<|Aa fun ops=>oM rfl<|oM rfl<|oR (Ae rfl rfl rfl)<|Ac<|n_K ?_
 refine Aj rfl (fun c9=> ?_) (fun c9=> ?_)
 ·simp only [decide_eq_true_eq,decide_eq_false_iff_not] at c9
  have hk:k<13:=(by rcases Nat.lt_or_ge k 13 with h | h;exact h;exfalso;have:k=13:=(by omega);subst this;simp at c9;omega)
  have h2:13 - k=(12 - k)+1:=(by omega)
  rw [h2,L9,if_pos (by exact_mod_cast c9)] at h1
  have hp:2 ^ k≤2 ^ 12:=Nat.pow_le_pow_right (by omega) (by omega)
  refine Ai<|n_K<|Ad<|Ak<|Aa fun ops=>oM rfl ?_
  refine oR (show Rd _ _ _ _ (.int .i64 ((i+1+(k+1):Nat):Int)) from by (rw [show ((i+1+(k+1):Nat):Int)=((i+1+k:Nat):Int)+1 by push_cast;omega];exact Ao rfl rfl (by omega))) ?_
  refine oA rfl<|Ac<|Az<|n_K<|Aa fun ops=>oM rfl ?_
  refine oR (show Rd _ _ _ _ (.int .i64 ((2 ^ (k+1):Nat):Int)) from Afx (a:=2 ^ k) (m:=1) rfl rfl rfl (by omega) (by omega)) ?_
  refine oA rfl<|Ac<|n_K ?_
  exact ⟨k+1,⟨by omega,by rw [Nat.pow_succ,show 13 - (k+1)=12 - k by omega];exact h1⟩,(by omega),lZ⟩
 ·simp only [decide_eq_true_eq,decide_eq_false_iff_not] at c9
  have hr:M3 i=i+1+k:=(by have h3:¬ 2 ^ k≤i+1+k:=(fun h=>c9 (by exact_mod_cast h));rcases Nat.eq_zero_or_pos (13 - k) with h | h;(rw [h,L9] at h1;exact h1.symm);(rw [show 13 - k=(12 - k)+1 by omega,L9,if_neg h3] at h1;exact h1.symm))
  refine Bb<|x_K<|x_K<|Bj<|n_K<|Ad<|Aa fun ops=>oM rfl<|oA rfl<|Ac<|n_K<|An ?_
  refine Aq (At Tryz.results218 (Ag rfl)) ?_ sP
  rw [hr]
theorem Af0 {b:Nat} {d:Dat} {T:TypeId}:Does Tryz.prog 187 [ptr b] [(b,true,C (vbc d) T)] (Is (.tuple #[.int .i64 (Gj d:Nat),.int .i64 (Lw d:Nat)]) [(b,true,C (vbc d) T)]):=by
 refine Ah (n:=37) Tryz.func187 Tryz.ntmps187 rfl (Nat.le_of_ble_eq_true rfl)<|Ad<|Aa fun ops=>oA rfl<|oA rfl<|Ac<|n_K<|Ad<|Ad<|Aa fun ops=>oM rfl<|oM rfl<|Ac<|n_K ?_
 refine Ak ?_
 refine D7 [7] kQ (fun (i:Nat)=>[(8,.int .i64 i),(2,.int .i64 (Mw d i:Nat)),(3,.int .i64 (Ys d i:Nat))]) (fun (i:Nat)=>i≤256) (fun (i:Nat)=>256 - i) ((0:Nat)) (Nat.zero_le _) kP ?_
 rintro i h0
 refine Ad<|Aa fun ops=>oR (Ae rfl rfl rfl)<|Ac<|n_K<|Ad ?_
 refine Aj rfl (fun c9=> ?_) (fun c9=> ?_)
 ·simp only [decide_eq_true_eq,decide_eq_false_iff_not] at c9
  have hi:i<256:=(by omega)
  have hl:=Lx d i h0
  have ho:=Yt d i
  have hd:d.toList.getD i 0=d[i]:=(by simp [List.getD_eq_getElem?_getD,hi])
  have hls:=T9 d i
  have hos:=Wp d i
  rw [hd] at hls hos
  generalize Mw d i=ln at hl hls ⊢
  generalize Ys d i=od at ho hos ⊢
  generalize hy:d[i]=yy at hls hos
  refine Ai<|n_K<|Ad<|Ak<|Ad ?_
  refine s_draw [] [(6,[(0,false),(1,false),(2,false),(3,false),(4,false),(5,false)])] (by kernel_rfl) rfl fun ops w0 H0 y=> ?_
  refine A4<|xM rfl<|xN rfl ?_
  refine xR (Hd rfl rfl (by omega)) ?_
  refine xR (Al rfl mM (show nth _ _=some (bv yy) by (rw [← hy];simpa using Gt (p:=d) hi))) ?_
  refine xA rfl<|xA rfl<|Am<|Bm<|n_K<|Ad<|Aa fun ops=>oM rfl<|oM rfl ?_
  refine A6 rfl (Zs) sP rfl aQ ?_
  refine oR (show Rd _ _ _ _ (.int .i64 ((G2 yy % 2:Nat):Int)) from by (rw [← Nat.and_one_is_mod];exact Ox (b:=1) rfl rfl (by have:=Kb yy;omega) (by omega))) ?_
  refine oR (show Rd _ _ _ _ (.int .i64 ((Ys d (i+1):Nat):Int)) from by (rw [hos];exact Yn rfl rfl (by omega) (by omega))) ?_
  refine oA rfl<|Ac<|n_K<|Ak ?_
  refine D7 [7,8,4,3] kQ (fun (st:By×Nat)=>[(5,bv st.1),(2,.int .i64 (st.2:Nat))]) (fun (st:By×Nat)=>Aaa i (Lc st.1) st.2=Mw d (i+1)∧st.2<4096) (fun (st:By×Nat)=>st.1.toNat) ((yy,ln)) ⟨hls.symm,hl⟩ kP ?_
  rintro ⟨z,s⟩ ⟨h1,h2⟩
  simp only at h1 h2
  refine Ad<|Ad<|Aa fun ops=>oM rfl<|oR (Ae rfl rfl rfl)<|Ac<|n_K ?_
  refine Aj rfl (fun c20=> ?_) (fun c20=> ?_)
  ·skip
   have hz:z≠0:=(by intro h;subst h;simp at c20)
   obtain ⟨hb1,hb2⟩:=Ahl z hz
   have hdr:=Ahn z hz
   rw [hb1] at h1
   have hpl:=Aac (8*i+Pp z) (by omega)
   refine Ai<|n_K<|Ak<|Ad<|Aa fun ops=>oM rfl ?_
   refine A6 rfl (Ape) sP rfl aQ ?_
   refine oA rfl<|Ac<|n_K<|Ad<|Aa fun ops=>oM rfl<|oM rfl ?_
   refine oR (show Rd _ _ _ _ (.int .i64 ((8*i:Nat):Int)) from by (rw [Nat.mul_comm];exact Afx (m:=3) rfl rfl rfl (by omega) (by omega))) ?_
   refine oM rfl ?_
   refine oR (show Rd _ _ _ _ (.int .i64 ((8*i+Pp z:Nat):Int)) from by (rw [show 8*i+Pp z=8*i ||| Pp z from Nat.two_pow_add_eq_or_of_lt (i:=3) hb2 i];exact Amk rfl rfl (by omega) (by omega))) ?_
   refine A6 rfl (Amr (i:=8*i+Pp z) (by omega)) sP rfl aQ ?_
   refine oR (show Rd _ _ _ _ (.int .i64 ((s ^^^ M3 (8*i+Pp z):Nat):Int)) from Yn rfl rfl (by omega) (by omega)) ?_
   refine oA rfl<|Ac<|n_K<|Aa fun ops=>oM rfl<|oM rfl ?_
   refine oR (show Rd _ _ _ _ (bv (z - 1)) from Aq9 (b:=1) rfl rfl) ?_
   refine oR (show Rd _ _ _ _ (bv (z &&& (z - 1))) from by (unfold bv;rw [← Ajs];exact Ae rfl rfl rfl)) ?_
   refine oA rfl<|Ac<|Az<|n_K ?_
   exact ⟨(z &&& (z - 1),s ^^^ M3 (8*i+Pp z)),⟨h1,Ad4 h2 hpl⟩,hdr,lZ⟩
  ·skip
   have hz:z=0:=(by have:z.toNat=0:=(by simpa using c20);exact BitVec.eq_of_toNat_eq this)
   subst hz
   rw [Ahm] at h1
   refine Bb<|x_K<|x_K<|Bj<|Az<|n_K<|Aa fun ops=> ?_
   refine oR (Ao rfl rfl (by omega)) ?_
   refine oM rfl<|Ac<|n_K ?_
   have h3:Mw d (i+1)=s:=h1.symm
   rw [← h3]
   exact ⟨i+1,(by omega),(by omega),lZ⟩
 ·simp only [decide_eq_true_eq,decide_eq_false_iff_not] at c9
  refine Bb<|x_K<|x_K<|Bj<|n_K<|Ad<|Aa fun ops=>oM rfl<|oM rfl<|oA rfl<|oA rfl<|Ac<|n_K<|An ?_
  refine Aq (Bz Tryz.results187 (Ag rfl) (Ag rfl)) ?_ sP
  have hi:i=256:=(by omega);simp only [Gj,Lw,hi]
theorem Ams {n:Nat} (hn:n<4096):Does Tryz.prog 188 [.int .i64 (n:Nat)] [] (Is (.bool (decide (n &&& (n - 1)=0))) []):=by
 refine Ah (n:=8) Tryz.func188 Tryz.ntmps188 rfl (Nat.le_of_ble_eq_true rfl)<|Ad<|Aa fun ops=>oA rfl<|Ac<|n_K<|Ad<|Aa fun ops=>oM rfl<|oM rfl ?_
 refine oR (show Rd _ _ _ _ (.int .i64 ((n:Int) - 1)) from Cy rfl rfl (by omega)) ?_
 refine oR (show Rd _ _ _ _ (.int .i64 ((n &&& (n - 1):Nat):Int)) from Ad2 rfl rfl hn) ?_
 refine oR (Ae rfl rfl rfl)<|oA rfl<|Ac<|n_K<|An ?_
 refine Aq (At Tryz.results188 (Ag rfl)) ?_ sP
 exact congrArg Value.bool (by by_cases h:n &&& (n - 1)=0 <;> simp [h])
theorem Amt {d:Dat}:Does Tryz.prog 189 [.agg (vbc d).toArray] [] (Is (.int .u16 (Dm d:Nat)) []):=by
 have hl:=Lx d 256 (Nat.le_refl _)
 have ho:=Yt d 256
 have hp:Gm (Gj d)≤16:=Xu _
 refine Ah (n:=20) Tryz.func189 Tryz.ntmps189 rfl (Nat.le_of_ble_eq_true rfl)<|Ad<|Aa fun ops=> ?_
 refine Ec rfl rfl fun b1=> ?_
 refine oA rfl<|Ac<|n_K<|Ad<|Aa fun ops=> ?_
 refine A6 rfl (Af0) sP rfl aQ ?_
 refine oM rfl<|oE rfl rfl<|oE rfl rfl<|oA rfl<|oA rfl<|Ac<|n_K<|Ad<|Ad<|Aa fun ops=>oM rfl<|oM rfl ?_
 refine oR (Ft rfl (Hg .u64 rfl (by show _<2 ^ 64;unfold Gj;omega))) ?_
 refine A6 rfl (Arf hl) sP rfl aQ ?_
 refine oR (show Rd _ _ _ _ (.int .i64 ((Lw d+Gm (Gj d):Nat):Int)) from Sb rfl rfl (by unfold Lw;omega)) ?_
 refine oR (show Rd _ _ _ _ (.int .i64 (((Lw d+Gm (Gj d)) % 2:Nat):Int)) from by (rw [← Nat.and_one_is_mod];exact Ox (b:=1) rfl rfl (by unfold Lw;omega) (by omega))) ?_
 refine oR (Ae rfl rfl rfl)<|Ac<|n_K ?_
 refine Aj rfl (fun c15=> ?_) (fun c15=> ?_)
 ·skip
  have hc:Dm d=Gj d ||| 4096:=(by unfold Dm;rw [if_neg (by intro h;rw [h] at c15;simp at c15)])
  refine Aa fun ops=>oM rfl ?_
  refine oR (show Rd _ _ _ _ (.int .i64 ((Dm d:Nat):Int)) from by (rw [hc];exact Amk (b:=4096) rfl rfl (by unfold Gj;omega) (by omega))) ?_
  refine oA rfl<|Ac<|n_K<|Ad<|Aa fun ops=>oM rfl ?_
  refine oR (Ft (a:=Dm d) rfl (Hg .u16 rfl (by have:=G9 d;show _<65536;omega))) ?_
  refine oA rfl<|Ac<|n_K<|An ?_
  refine Aq (At Tryz.results189 (Ag rfl)) ?_ sP
  rfl
 ·skip
  have hc:Dm d=Gj d:=(by unfold Dm;rw [if_pos (by simp at c15;omega)])
  rw [← hc]
  refine Ai<|n_K<|Ad<|Aa fun ops=>oM rfl ?_
  refine oR (Ft (a:=Dm d) rfl (Hg .u16 rfl (by have:=G9 d;show _<65536;omega))) ?_
  refine oA rfl<|Ac<|n_K<|An ?_
  refine Aq (At Tryz.results189 (Ag rfl)) ?_ sP
  rfl
theorem Auk {d:Dat} {chk:Nat} (hk:chk<65536):Does Tryz.prog 144 [.agg (vbc d).toArray,.int .u16 (chk:Nat)] [] (Is (.tuple #[.agg (vbc (Dn d chk).1).toArray,.int .i64 (Dn d chk).2.1,.int .i64 (Dn d chk).2.2]) []):=by
 have hl:=Lx d 256 (Nat.le_refl _)
 have ho:=Yt d 256
 have hp:=Xu (chk &&& 8191)
 have ha:chk &&& 4095<4096:=Nat.and_lt_two_pow (n:=12) _ (by omega)
 have hs:Gj d ^^^ (chk &&& 4095)<4096:=Ad4 hl ha
 obtain ⟨S,hS⟩:∃ S,S=Gj d ^^^ (chk &&& 4095):=⟨_,rfl⟩
 rw [← hS] at hs
 refine Ah (n:=61) Tryz.func144 Tryz.ntmps144 rfl (Nat.le_of_ble_eq_true rfl)<|Ad<|Aa fun ops=> ?_
 refine Ec rfl rfl fun b2=> ?_
 refine Aw rfl fun b4=> ?_
 refine oA rfl<|oA rfl<|Ac<|n_K<|Ad<|Aa fun ops=> ?_
 refine A6 rfl (Af0) sP rfl aQ ?_
 refine oM rfl<|oE rfl rfl<|oE rfl rfl<|oA rfl<|oA rfl<|Ac<|n_K<|Ad<|Aa fun ops=>oM rfl<|oM rfl ?_
 refine oR (Ft rfl (Yq (by omega))) ?_
 refine oR (show Rd _ _ _ _ (.int .i64 ((chk &&& 4095:Nat):Int)) from Ox (b:=4095) rfl rfl (by omega) (by omega)) ?_
 refine oR (show Rd _ _ _ _ (.int .i64 (S:Nat)) from by (rw [hS];exact Yn rfl rfl (by unfold Gj;omega) (by omega))) ?_
 refine oA rfl<|Ac<|n_K<|Ad<|Aa fun ops=>oM rfl<|oM rfl ?_
 refine oR (show Rd _ _ _ _ (.int .u16 ((chk &&& 8191:Nat):Int)) from Abe (b:=8191) rfl rfl hk (by omega)) ?_
 refine A6 rfl (Wr (n:=chk &&& 8191) (by have:chk &&& 8191≤chk:=Nat.and_le_left;omega)) sP rfl aQ ?_
 refine oR (show Rd _ _ _ _ (.int .i64 ((Lw d+Gm (chk &&& 8191):Nat):Int)) from Sb rfl rfl (by unfold Lw;omega)) ?_
 refine oR (show Rd _ _ _ _ (.int .i64 (((Lw d+Gm (chk &&& 8191)) % 2:Nat):Int)) from by (rw [← Nat.and_one_is_mod];exact Ox (b:=1) rfl rfl (by unfold Lw;omega) (by omega))) ?_
 refine oA rfl<|Ac<|n_K<|Ad<|Ak<|Ad ?_
 refine Bf [(2,29)] rfl fun ops y=> ?_
 refine oM rfl<|oR (Ae rfl rfl rfl)<|oM rfl ?_
 refine' Df (j:=2) (k:=2) y rfl rfl rfl rfl rfl rfl rfl (fun hg29=> ?_) ?_
 rotate_left
 ·try (simp at hg29;show _)
  refine o_g y rfl rfl ?_
  refine oM rfl ?_
  refine o_g y rfl rfl ?_
  refine oR (Ae rfl rfl rfl) ?_
  exact Ac ⟨rfl,rfl,⟨_,sP⟩⟩
 refine oA rfl<|Ac<|n_K ?_
 refine Aj rfl (fun c26=> ?_) (fun c26=> ?_)
 ·skip
  have e1:S=0∧(Lw d+Gm (chk &&& 8191)) % 2=0:=(by simp at c26;omega)
  have hres:Dn d chk=(d,0,0):=(by unfold Dn;simp only [];rw [← hS];rw [if_pos e1])
  refine Ad<|Aa fun ops=> ?_
  refine oR (Au rfl mM (by first | exact Bg | rfl)) ?_
  first | refine Af rfl rfl uD (Ct) (Ar) (B2 (by first | exact Ar | exact List.length_replicate ..)) ?_ | refine Af rfl rfl uD rfl rfl rfl ?_
  refine oA rfl<|oA rfl<|Ac<|n_K<|An<|Bn<|r_K ?_
  refine Aq (Kw Tryz.results144 (Bv rfl mM (by first | exact Bg | rfl)) (Ag rfl) (Ag rfl)) ?_ sP
  rw [hres]
 ·skip
  have e1:¬ (S=0∧(Lw d+Gm (chk &&& 8191)) % 2=0):=(by intro h;simp at c26;omega)
  refine Ad<|Aa fun ops=>oM rfl<|oR (Ae rfl rfl rfl)<|oA rfl<|Ac<|n_K ?_
  refine Aj rfl (fun c34=> ?_) (fun c34=> ?_)
  ·skip
   have e2:(Lw d+Gm (chk &&& 8191)) % 2=0:=(by simp at c34;omega)
   have hres:Dn d chk=(zeroD,0,21):=(by unfold Dn;simp only [];rw [← hS];rw [if_neg e1,if_pos e2])
   refine Ad<|Aa fun ops=> ?_
   refine oR (show Rd _ _ _ _ (.agg (vbc zeroD).toArray) from by (rw [← Ua];exact Tu)) ?_
   first | refine Af rfl rfl uD (Ct) (Ar) (B2 (by first | exact Ar | exact List.length_replicate ..)) ?_ | refine Af rfl rfl uD rfl rfl rfl ?_
   refine oA rfl<|oA rfl<|Ac<|n_K<|An<|Bn<|r_K ?_
   refine Aq (Kw Tryz.results144 (Bv rfl mM (by first | exact Bg | rfl)) (Ag rfl) (Ag rfl)) ?_ sP
   rw [hres]
  ·skip
   have e2:¬ (Lw d+Gm (chk &&& 8191)) % 2=0:=(by intro h;simp at c34;omega)
   refine Ad<|Aa fun ops=>oM rfl ?_
   refine A6 rfl (Ams hs) sP rfl aQ ?_
   refine oA rfl<|Ac<|n_K ?_
   refine Aj rfl (fun c38=> ?_) (fun c38=> ?_)
   ·simp only [decide_eq_true_eq,decide_eq_false_iff_not] at c38
    have hres:Dn d chk=(d,1,0):=(by unfold Dn;simp only [];rw [← hS];rw [if_neg e1,if_neg e2,if_pos c38])
    refine Ad<|Aa fun ops=> ?_
    refine oR (Au rfl mM (by first | exact Bg | rfl)) ?_
    first | refine Af rfl rfl uD (Ct) (Ar) (B2 (by first | exact Ar | exact List.length_replicate ..)) ?_ | refine Af rfl rfl uD rfl rfl rfl ?_
    refine oA rfl<|oA rfl<|Ac<|n_K<|An<|Bn<|r_K ?_
    refine Aq (Kw Tryz.results144 (Bv rfl mM (by first | exact Bg | rfl)) (Ag rfl) (Ag rfl)) ?_ sP
    rw [hres]
   ·simp only [decide_eq_true_eq,decide_eq_false_iff_not] at c38
    have hn:=At0 _ hs c38
    refine Ai<|Az<|n_K<|Ad<|Aa fun ops=>oM rfl ?_
    refine oR (show Rd _ _ _ _ (.int .i64 ((S - 1:Nat):Int)) from by (rw [show ((S - 1:Nat):Int)=((S:Nat):Int) - 1 by omega];exact Cy rfl rfl (by omega))) ?_
    refine oM rfl ?_
    refine oR (Ft rfl (Hg .u64 rfl (by show _<2 ^ 64;omega))) ?_
    refine A6 rfl (Ad6 hs) sP rfl aQ ?_
    refine oR (show Rd _ _ _ _ (.int .i64 ((S - 1 - Rr S:Nat):Int)) from by (rw [show ((S - 1 - Rr S:Nat):Int)=((S - 1:Nat):Int) - ((Rr S:Nat):Int) by omega];exact Cy rfl rfl (by omega))) ?_
    refine oA rfl<|Ac<|n_K<|Ad<|Ad<|Aa fun ops=>oM rfl<|oR (Ae rfl rfl rfl)<|Ac<|n_K ?_
    refine Aj rfl (fun c49=> ?_) (fun c49=> ?_)
    ·simp only [decide_eq_true_eq,decide_eq_false_iff_not] at c49
     have hres:Dn d chk=(zeroD,0,21):=(by unfold Dn;simp only [];rw [← hS];rw [if_neg e1,if_neg e2,if_neg c38,if_pos (by omega)])
     refine Ad<|Aa fun ops=> ?_
     refine oR (show Rd _ _ _ _ (.agg (vbc zeroD).toArray) from by (rw [← Ua];exact Tu)) ?_
     first | refine Af rfl rfl uD (Ct) (Ar) (B2 (by first | exact Ar | exact List.length_replicate ..)) ?_ | refine Af rfl rfl uD rfl rfl rfl ?_
     refine oA rfl<|oA rfl<|Ac<|n_K<|An<|r_K ?_
     refine Aq (Kw Tryz.results144 (Bv rfl mM (by first | exact Bg | rfl)) (Ag rfl) (Ag rfl)) ?_ sP
     rw [hres]
    ·simp only [decide_eq_true_eq,decide_eq_false_iff_not] at c49
     have hres:Dn d chk=(Abi d (S - 1 - Rr S),1,0):=(by unfold Dn;simp only [];rw [← hS];rw [if_neg e1,if_neg e2,if_neg c38,if_neg (by omega)])
     generalize hI:S - 1 - Rr S=i at c49 hres ⊢
     have hi8:i / 8<256:=(by omega)
     have hfl:Abi d i=d.set (i / 8) (d[i / 8] ^^^ (1#8 <<< (i % 8))):=(by unfold Abi;rw [dif_pos hi8])
     refine Ai<|n_K<|Ad ?_
     refine s_draw [] [(9,[(0,false),(1,false),(2,false),(3,false),(4,false),(5,false),(6,false),(7,false),(8,false)]),(10,[(9,true)])] (by kernel_rfl) rfl fun ops w0 H0 y=> ?_
     refine A4<|xM rfl ?_
     refine xR (show Rd _ _ _ _ (.int .i64 ((i / 8:Nat):Int)) from Yo (m:=3) rfl rfl rfl (by decide)) ?_
     refine xR (Hd rfl rfl (by omega)) ?_
     refine xR (Al rfl mM (show nth (vbc d) (i / 8*1)=some (bv d[i / 8]) by rw [Nat.mul_one];exact Gt (p:=d) hi8)) ?_
     refine xM rfl ?_
     refine xR (show Rd _ _ _ _ (.int .i64 ((i % 8:Nat):Int)) from by (rw [← Nat.and_two_pow_sub_one_eq_mod i 3];exact Ox (b:=7) rfl rfl (by omega) (by omega))) ?_
     refine xR (show Rd _ _ _ _ (bv (1#8 <<< (i % 8))) from Yp rfl rfl (by omega)) ?_
     refine xR (show Rd _ _ _ _ (bv (d[i / 8] ^^^ (1#8 <<< (i % 8)))) from by (unfold bv;rw [← Atg];exact Ae rfl rfl rfl)) ?_
     refine xR (Hd rfl rfl (by omega)) ?_
     refine Am<|Bh<|Be ?_
     refine Af (cs':=vbc (Abi d i)) rfl rfl uD rfl rfl (show Br (vbc d) (i / 8*1) [bv (d[i / 8] ^^^ (1#8 <<< (i % 8)))]=_ by rw [Nat.mul_one,hfl];exact H7 (p:=d) hi8 _) ?_
     refine Ac ⟨rfl,⟨_,sP⟩,?_⟩
     refine Am<|Bm<|n_K<|Ad<|Aa fun ops=> ?_
     refine oR (Au rfl mM (by first | exact Bg | rfl)) ?_
     first | refine Af rfl rfl uD (Ct) (Ar) (B2 (by first | exact Ar | exact List.length_replicate ..)) ?_ | refine Af rfl rfl uD rfl rfl rfl ?_
     refine oA rfl<|oA rfl<|Ac<|n_K<|An ?_
     refine Aq (Kw Tryz.results144 (Bv rfl mM (by first | exact Bg | rfl)) (Ag rfl) (Ag rfl)) ?_ sP
     rw [hres]
end
section
open Go.K
instance zer23:Zer Tryz.prog 23 ([.slice none 0 0]):=⟨by kernel_rfl⟩
instance ent101:Ent Tryz.prog 101:=⟨fun _ _=>by kernel_rfl⟩
instance ent142:Ent Tryz.prog 142:=⟨fun _ _=>by kernel_rfl⟩
instance ent145:Ent Tryz.prog 145:=⟨fun _ _=>by kernel_rfl⟩
instance ent146:Ent Tryz.prog 146:=⟨fun _ _=>by kernel_rfl⟩
theorem L7 {p:Pg}:Does Tryz.prog 142 [.agg (vbc p).toArray] [] (Is (.bool (Bs p)) []):=by
 refine Ah (n:=18) Tryz.func142 Tryz.ntmps142 rfl (Nat.le_of_ble_eq_true rfl)<|Ad<|Aa fun ops=> ?_
 refine Ec rfl rfl fun b1=> ?_
 refine oA rfl<|Ac<|n_K<|Ad<|Aa fun ops=>oA rfl<|Ac<|n_K<|Ad<|Ad<|Aa fun ops=> ?_
 refine oR (Au rfl mM (by first | exact Bg | rfl)) ?_
 refine oM rfl<|Ac<|n_K<|Ak ?_
 refine D7 [6] kQ (fun (i:Nat)=>[(7,.int .i64 i),(3,.int .i64 (J7 p i:Nat))]) (fun (i:Nat)=>i≤258) (fun (i:Nat)=>258 - i) ((0:Nat)) (Nat.zero_le _) kP ?_
 rintro i h0
 refine Ad<|Aa fun ops=>oR (Ae rfl rfl rfl)<|Ac<|n_K<|Ad ?_
 refine Aj rfl (fun c8=> ?_) (fun c8=> ?_)
 ·simp only [decide_eq_true_eq,decide_eq_false_iff_not] at c8
  have hi:i<258:=(by omega)
  have hd:p.toList.getD i 0=p[i]:=(by simp [List.getD_eq_getElem?_getD,hi])
  have hz:=K8 p i
  have hle:=Ag9 p i
  have hp8:=Kb (~~~ (p.toList.getD i 0))
  rw [hd] at hz hp8
  refine Ai<|n_K<|Ad<|Ak<|Ad<|Aa fun ops=> ?_
  refine oR (show Rd _ _ _ _ (bv p[i]) from Alm rfl rfl (by omega) (show nth (vbc p) (i*1)=_ by rw [Nat.mul_one];exact Gt hi)) ?_
  refine oA rfl<|Ac<|n_K<|Aa fun ops=>oM rfl<|oM rfl<|oR (Aik rfl) ?_
  refine A6 rfl (Zs) sP rfl aQ ?_
  refine oR (show Rd _ _ _ _ (.int .i64 ((J7 p (i+1):Nat):Int)) from by (rw [hz];exact Sb rfl rfl (by omega))) ?_
  refine oA rfl<|Ac<|Az<|n_K<|Aa fun ops=> ?_
  refine oR (Ao rfl rfl (by omega)) ?_
  refine oM rfl<|Ac<|n_K ?_
  exact ⟨i+1,(by omega),(by omega),lZ⟩
 ·simp only [decide_eq_true_eq,decide_eq_false_iff_not] at c8
  refine Bb<|x_K<|x_K<|Bj<|n_K<|Ad<|Aa fun ops=>oM rfl<|oR (Ae rfl rfl rfl)<|oA rfl<|Ac<|n_K<|An ?_
  refine Aq (At Tryz.results142 (Ag rfl)) ?_ sP
  unfold Bs;rw [show i=258 by omega];exact congrArg Value.bool (decide_eq_decide.2 (by omega))
theorem Vh {b:Nat} {s:Sl By} {L:Hp}:((b,true,C [s.val] tSB)::(s.hp tU8++L))=(Sl.own b [s] 1 [] ⟨by simp,Nat.le_refl _,by simp⟩:Sl (Sl By)).hp tSB++(Dh [s]++L):=by
 rw [Sl.hp_own,Cz,Ha]
 simp only [List.append_assoc,List.nil_append]
 rfl
theorem Zz {n:Nat} {p:Vector By n} {o m:Nat}:Oc (vbc p) o ((p.toList.drop o).take m):=fun i x hx=>by
 have hx':=S9 hx
 rw [List.getElem?_drop] at hx'
 have hlt:o+i<n:=by have:=(List.getElem?_eq_some_iff.1 hx').1;simpa using this
 refine cut_iff.2 ⟨?_,by rw [Ar];simp only [Cel.sz];omega⟩
 simp only [Cel.sz,Nat.mul_one,Cel.cs]
 have h1:(vbc p)[o+i]? =some (bv x):=by rw [vbc,List.getElem?_map,hx'];rfl
 have hl:o+i<(vbc p).length:=by rw [Ar];exact hlt
 rw [List.drop_eq_getElem_cons hl,List.take_succ_cons,List.take_zero]
 have:=List.getElem?_eq_getElem hl
 rw [h1] at this
 rw [Option.some.inj this]
def Kt {n:Nat} (b:Nat) (p:Vector By n) (o m cap:Nat) (T:TypeId) (h:min m (n - o)≤cap∧n≤1000):Sl By :=
 .view b o true (vbc p) T (0,0) ((p.toList.drop o).take m) cap ⟨Zz,by simp only [List.length_take,List.length_drop,Vector.length_toList];omega,by simp only [List.length_take,List.length_drop,Vector.length_toList];omega⟩
theorem Jj {n b o m cap:Nat} {p:Vector By n} {T:TypeId} {h} (hm:o+m≤n):(Kt b p o m cap T h).val= .slice (some ⟨b,o,none⟩) m cap:=by
 have:((p.toList.drop o).take m).length=m:=by simp only [List.length_take,List.length_drop,Vector.length_toList];omega
 show Value.slice (some ⟨b,o,none⟩) ((p.toList.drop o).take m).length cap=_
 rw [this]
theorem K9 {n b o m cap:Nat} {p:Vector By n} {T U:TypeId} {h}:(Kt b p o m cap T h).hp U=[(b,true,C (vbc p) T)]:=by unfold Kt;rw [Sl.hp_view]
theorem G3 {n b o m cap:Nat} {p:Vector By n} {T:TypeId} {h}:(Kt b p o m cap T h).list=(p.toList.drop o).take m:=rfl
theorem Apm {b33 b7:Nat} {d:Dat}:Does Tryz.prog 93 [.slice (some ⟨b33,0,none⟩) 1 1] [(b33,true,C [.slice (some ⟨b7,0,none⟩) 252 256] tSB),(b7,true,C (vbc d) tDa)] (Is (uv (As0 d)) [(b33,true,C [.slice (some ⟨b7,0,none⟩) 252 256] tSB),(b7,true,C (vbc d) tDa)]):=by
 have h:=Amp (q:= .own b33 [Kt b7 d 0 252 256 tDa (by omega)] 1 [] ⟨by simp,Nat.le_refl _,by simp⟩)
 have e:=Vh (b:=b33) (s:=Kt b7 d 0 252 256 tDa (by omega)) (L:=[])
 rw [Jj (by omega),K9] at e
 have e2:(Sl.own b33 [Kt b7 d 0 252 256 tDa (by omega)] 1 [] ⟨by simp,Nat.le_refl _,by simp⟩:Sl (Sl By)).list=[Kt b7 d 0 252 256 tDa (by omega)]:=rfl
 rw [e2,← e] at h
 exact h
theorem Apn (n:Nat):IntKind.u8.wrap (n:Int)=((BitVec.ofNat 8 n).toNat:Int):=by
 rw [Ex .u8 rfl,BitVec.ofInt_natCast];rfl
theorem Aj7 (n:Nat):IntKind.u64.wrap (n:Int)=((BitVec.ofNat 64 n).toNat:Int):=by
 rw [Ex .u64 rfl,BitVec.ofInt_natCast];rfl
theorem Apo {n:Nat} {p:Vector By n}:cut (vbc p) 0 (n*1)=some (cells p.toList):=by
 rw [Nat.mul_one,Lh];exact Bg
theorem M1 {kind:By} {q:Sl (Sl By)} (hl:(Bq q.list).length≤70000000000000):Does Tryz.prog 145 [bv kind,q.val] (q.hp tSB++(Dh q.list++[]))
  (Is (.tuple #[.agg (vbc (C3 kind (Bq q.list)).1).toArray,.int .i64 (C3 kind (Bq q.list)).2]) (q.hp tSB++(Dh q.list++[]))):=by
 refine Ah (n:=48) Tryz.func145 Tryz.ntmps145 rfl (Nat.le_of_ble_eq_true rfl)<|Ad<|Aa fun ops=> ?_
 refine Aw rfl fun b4=> ?_
 rw [Cs]
 refine oA rfl<|Ac<|n_K<|Ad<|Aa fun ops=>oM rfl ?_
 refine Bd rfl (Abk hl) sP rfl fun v9 Y9 h9=> ?_
 obtain ⟨s9,rfl,rfl,hs9,ho9⟩:=h9
 refine Ay aQ ?_
 refine oA rfl<|Ac<|n_K<|Ad<|Ad ?_
 refine Bf [(2,12),(6,16)] rfl fun ops y=> ?_
 refine oM rfl<|oR (Ae rfl rfl rfl)<|oM rfl ?_
 refine' Es (j:=2) (k:=2) y rfl rfl rfl rfl rfl rfl rfl (fun hg12=> ?_) ?_
 rotate_left
 ·try (simp at hg12;show _)
  refine o_g y rfl rfl ?_
  refine oM rfl ?_
  refine o_g y rfl rfl ?_
  refine oR (Ae rfl rfl rfl) ?_
  exact Ac ⟨rfl,rfl,⟨_,sP⟩⟩
 refine oM rfl ?_
 refine' Es (j:=6) (k:=3) y rfl rfl rfl rfl rfl rfl rfl (fun hg16=> ?_) ?_
 rotate_left
 ·try (simp at hg16;show _)
  refine o_g y rfl rfl ?_
  refine oM rfl ?_
  refine o_g y rfl rfl ?_
  refine oR (A7 rfl) ?_
  refine o_g y rfl rfl ?_
  refine oR (Ae rfl rfl rfl) ?_
  exact Ac ⟨rfl,rfl,⟨_,sP⟩⟩
 refine Ac<|n_K ?_
 refine Aj rfl (fun c20=> ?_) (fun c20=> ?_)
 ·skip
  have hres:C3 kind (Bq q.list)=(Jv,1):=(by unfold C3;rw [if_pos (by unfold C6;rw [← hs9];exact c20)])
  refine Ad<|Aa fun ops=> ?_
  refine oR (Au rfl mM (by first | exact Bg | rfl)) ?_
  first | refine Af rfl rfl uD (Ct) (Ar) (B2 (by first | exact Ar | exact List.length_replicate ..)) ?_ | refine Af rfl rfl uD rfl rfl rfl ?_
  refine oA rfl<|Ac<|n_K<|An<|r_K ?_
  refine Aq (Bz Tryz.results145 (Bv rfl mM (by first | exact Bg | rfl)) (Ag rfl)) ?_ sP
  rw [← hs9];first | rw [hs9,hres] | (rw [← hb,hres])
 ·skip
  have hres:C3 kind (Bq q.list)=(Cw kind (Bq q.list),0):=(by unfold C3;rw [if_neg (by unfold C6;rw [← hs9,c20];exact Bool.false_ne_true)])
  have hlen:s9.list.length≤240:=(by simp at c20;omega)
  obtain ⟨body,hb⟩:∃ body,body=s9.list:=⟨_,rfl⟩
  rw [← hb] at hlen
  rw [← hs9,← hb] at hres
  refine Ai<|n_K<|Ad<|Aa fun ops=> ?_
  refine Aw rfl fun b7=> ?_
  rw [Ua]
  refine Ac<|n_K<|Ad<|Aa fun ops=>oM rfl<|oM rfl<|oR (A7 rfl) ?_
  refine oR (show Rd _ _ _ _ (bv (BitVec.ofNat 8 s9.list.length)) from by (unfold bv;rw [← Apn];exact C4 rfl)) ?_
  refine oR (Hd rfl rfl (by omega)) ?_
  first | refine Af (cs':=vbc (zeroD.set 0 kind)) rfl rfl uD rfl rfl (H7 (by omega) kind) ?_ | refine Af (cs':=vbc ((zeroD.set 0 kind).set 1 (BitVec.ofNat 8 s9.list.length))) rfl rfl uD rfl rfl (H7 (by omega) _) ?_
  refine oR (Hd rfl rfl (by omega)) ?_
  first | refine Af (cs':=vbc (zeroD.set 0 kind)) rfl rfl uD rfl rfl (H7 (by omega) kind) ?_ | refine Af (cs':=vbc ((zeroD.set 0 kind).set 1 (BitVec.ofNat 8 s9.list.length))) rfl rfl uD rfl rfl (H7 (by omega) _) ?_
  refine Ac<|n_K<|Ad<|Aa fun ops=> ?_
  refine oR (C5 (i:=2) (j:=256) rfl ⟨_,rfl⟩ rfl (by omega)) ?_
  refine oM rfl ?_
  refine G5 (cs':=vbc (Ag8 kind body)) rfl rfl (M5 pL) (by rw [← hb];omega) uD (by rw [← hb];exact Rw (by omega)) (Gg _) rfl ?_
  refine Ac<|n_K<|Ad ?_
  refine s_draw [] [(6,[(0,false),(1,false),(2,true),(3,true),(4,false),(5,true)]),(7,[(6,true)])] (by kernel_rfl) rfl fun ops w0 H0 y=> ?_
  refine A4 ?_
  refine xR (C5 (i:=252) (j:=256) rfl ⟨_,rfl⟩ rfl (by omega)) ?_
  refine xR (C5 (i:=0) (j:=252) rfl rfl ⟨_,rfl⟩ (by omega)) ?_
  refine Be ?_
  refine A5 rfl rfl rfl rfl fun b33=> ?_
  refine Ac ⟨rfl,⟨_,sP⟩,?_⟩
  refine Be ?_
  refine A6 rfl (Apm) sP rfl aQ ?_
  refine Ac ⟨rfl,⟨_,sP⟩,?_⟩
  refine xR (Ail rfl)<|Be ?_
  refine Bd rfl (Hr) sP rfl fun v36 Y36 h36=> ?_
  obtain ⟨s36,rfl,rfl,hs36,ho36⟩:=h36
  refine Ay aQ ?_
  refine Ac ⟨rfl,⟨_,sP⟩,?_⟩
  refine Am<|Bh<|Be ?_
  refine G5 (cs':=vbc (J6 kind body)) rfl rfl (M5 pL) (by rw [hs36,Bo];decide) uD (by rw [hs36];exact Rw (by rw [Bo];decide)) (Gg _) rfl ?_
  refine Ac ⟨rfl,⟨_,sP⟩,?_⟩
  refine Am<|Bm<|n_K<|Ad ?_
  refine s_draw [] [(2,[(0,false),(1,false)]),(3,[(2,true)])] (by kernel_rfl) rfl fun ops w0 H0 y=> ?_
  refine A4 ?_
  refine xR (C5 (i:=0) (j:=258) rfl rfl rfl (by omega)) ?_
  refine xR (C5 (i:=0) (j:=256) rfl rfl rfl (by omega)) ?_
  refine Am<|Bh<|Be ?_
  refine G5 (cs':=vbc (Zx Jv 0 (J6 kind body).toList)) rfl rfl (Cv (r:=true) mM Apo) (by decide) uD (Rw (by simp)) (Gg _) rfl ?_
  refine Ac ⟨rfl,⟨_,sP⟩,?_⟩
  refine Am<|Bm<|n_K<|Ad ?_
  refine s_draw [] [(5,[(0,false),(1,false),(2,true),(3,false),(4,true)]),(6,[(5,true)])] (by kernel_rfl) rfl fun ops w0 H0 y=> ?_
  refine A4 ?_
  refine xR (C5 (i:=256) (j:=258) rfl ⟨_,rfl⟩ rfl (by omega)) ?_
  refine xR (Au rfl mM (by first | exact Bg | rfl)) ?_
  refine Be ?_
  refine A6 rfl (Amt) sP rfl aQ ?_
  refine Ac ⟨rfl,⟨_,sP⟩,?_⟩
  refine xR (show Rd _ _ _ _ (wv (BitVec.ofNat 64 (Dm (J6 kind body)))) from G8 (Aj7 _) rfl) ?_
  refine Be ?_
  refine Bd rfl (Hr (x:=BitVec.ofNat 64 (Dm (J6 kind body)))) sP rfl fun v45 Y45 h45=> ?_
  obtain ⟨s45,rfl,rfl,hs45,ho45⟩:=h45
  refine Ay aQ ?_
  refine Ac ⟨rfl,⟨_,sP⟩,?_⟩
  refine Am<|Bh<|Be ?_
  refine G5 (cs':=vbc (Cw kind body)) rfl rfl (M5 pL) (by rw [hs45,Bo];decide) uD (by rw [hs45];exact Rw (by rw [Bo];decide)) (Gg _) rfl ?_
  refine Ac ⟨rfl,⟨_,sP⟩,?_⟩
  refine Am<|Bm<|n_K<|Ad<|Aa fun ops=> ?_
  refine oR (Au rfl mM (by first | exact Bg | rfl)) ?_
  first | refine Af rfl rfl uD (Ct) (Ar) (B2 (by first | exact Ar | exact List.length_replicate ..)) ?_ | refine Af rfl rfl uD rfl rfl rfl ?_
  refine oA rfl<|Ac<|n_K<|An ?_
  refine Aq (Bz Tryz.results145 (Bv rfl mM (by first | exact Bg | rfl)) (Ag rfl)) ?_ sP
  rw [← hs9];first | rw [hs9,hres] | (rw [← hb,hres])
theorem Z0 {b:Nat} {p:Pg}:Does Tryz.prog 102 [.slice (some ⟨b,256,none⟩) 2 2] [(b,true,C (vbc p) tPg)] (fun v H=>∃ r:Rdr,v=ptr r.b∧H=rdH r++([(b,true,C (vbc p) tPg)]++[])∧r.sl.list=(p.toList.drop 256).take 2∧r.bad=false):=by
 have h:=Fe (s:=Kt b p 256 2 2 tPg (by omega)) (T:=tPg) (by rw [G3,List.length_take];omega)
 rw [Jj (by omega),K9,G3] at h
 exact h
theorem App {b n:Nat} {d:Dat} (hn:n≤240):Does Tryz.prog 56 [.slice (some ⟨b,2,none⟩) n 254] [(b,true,C (vbc d) tDa)] (fun v H=>∃ s:Sl By,v=s.val∧H=s.hp tU8++([(b,true,C (vbc d) tDa)]++[])∧s.list=(d.toList.drop 2).take n∧s.isOwn=true):=by
 have h:=O0 (s:=Kt b d 2 n 254 tDa (by omega)) (T:=tDa) (by rw [G3,List.length_take];omega)
 rw [Jj (by omega),K9,G3] at h
 exact h
theorem Aj8 {s t:Sl By} {T U:TypeId}:Does Tryz.prog 146 [s.val,t.val] (s.hp T++(t.hp U++[])) (Is (.bool (decide (s.list=t.list))) (s.hp T++(t.hp U++[]))):=by
 refine Ah (n:=10) Tryz.func146 Tryz.ntmps146 rfl (Nat.le_of_ble_eq_true rfl)<|Ad<|Aa fun ops=>oA rfl<|Ac<|n_K<|Ad<|Aa fun ops=>oM rfl ?_
 refine oR (Li (T:=T) rfl (PickL.toSub pL)) ?_
 refine oM rfl ?_
 refine oR (Li (T:=U) rfl (PickL.toSub pL)) ?_
 refine oR (Aal rfl rfl)<|oA rfl<|Ac<|n_K<|An ?_
 refine Aq (At Tryz.results146 (Ag rfl)) ?_ sP
 rfl
theorem Ae2 {b c:Nat} {p:Pg} {d:Dat}:Does Tryz.prog 146 [.slice (some ⟨b,0,none⟩) 256 258,.slice (some ⟨c,0,none⟩) 256 256] [(b,true,C (vbc p) tPg),(c,true,C (vbc d) tDa)] (Is (.bool (decide (p.toList.take 256=d.toList))) [(b,true,C (vbc p) tPg),(c,true,C (vbc d) tDa)]):=by
 have h:=Aj8 (s:=Kt b p 0 256 258 tPg (by omega)) (t:=Kt c d 0 256 256 tDa (by omega)) (T:=tPg) (U:=tDa)
 rw [Jj (by omega),Jj (by omega),K9,K9,G3,G3,List.drop_zero,List.drop_zero,List.take_of_length_le (l:=d.toList) (by simp)] at h
 exact h
theorem H9 {b:Nat} {kind:By} {s:Sl By} (hl:s.list.length≤70000000000000):Does Tryz.prog 145 [bv kind,.slice (some ⟨b,0,none⟩) 1 1] ((b,true,C [s.val] tSB)::(s.hp tU8++[]))
  (Is (.tuple #[.agg (vbc (C3 kind s.list).1).toArray,.int .i64 (C3 kind s.list).2]) ((b,true,C [s.val] tSB)::(s.hp tU8++[]))):=by
 have e2:(Sl.own b [s] 1 [] ⟨by simp,Nat.le_refl _,by simp⟩:Sl (Sl By)).list=[s]:=rfl
 have e3:Bq [s]=s.list:=by simp [Bq]
 have h:=M1 (kind:=kind) (q:= .own b [s] 1 [] ⟨by simp,Nat.le_refl _,by simp⟩) (by rw [e2,e3];exact hl)
 have e:=Vh (b:=b) (s:=s) (L:=[])
 rw [e2,← e,e3] at h
 exact h
theorem Vi {b:Nat} {kind:By}:Does Tryz.prog 145 [bv kind,.slice (some ⟨b,0,none⟩) 1 1] [(b,true,C [.slice none 0 0] tSB)]
  (Is (.tuple #[.agg (vbc (C3 kind []).1).toArray,.int .i64 (C3 kind []).2]) [(b,true,C [.slice none 0 0] tSB)]):=by
 have h:=H9 (b:=b) (kind:=kind) (s:= .nil) (by decide)
 rw [Sl.hp_nil] at h
 exact h
theorem Atm {E:Env} {H:Hp} {x lo hi:Operand} {b n:Nat} (hx:ev E x=some (.pointer (some ⟨b,0,none⟩))) (hlo:ev E lo=some (.int .i64 2)) (hhi:ev E hi=some (.int .i64 ((2+n:Nat):Int))) (hn:n≤240) :
  Rd Tryz.prog E H (.slice tDa x (some lo) (some hi) none) (.slice (some ⟨b,2,none⟩) n 254):=by
 have:=C5 (P:=Tryz.prog) (H:=H) (t:=tDa) (i:=2) (j:=2+n) hx (lo:=some lo) (hi:=some hi) ⟨_,hlo⟩ ⟨_,hhi⟩ (by omega)
 rwa [show 2+n - 2=n by omega] at this
theorem La {p:Pg}:Does Tryz.prog 101 [.agg (vbc p).toArray] [] (fun v H=>∃ s:Sl By,v= .tuple #[bv (Cg p).1,s.val,.int .i64 (Cg p).2.2.1,.int .i64 (Cg p).2.2.2]∧H=s.hp tU8++[]∧s.list=(Cg p).2.1∧s.isOwn=true):=by
 have hck:=Aj5 p
 have hfl:=Apl (If p) (D1 p)
 have hpn:=Xu (D1 p &&& 57344)
 have hck2:D1 p &&& 57344<65536:=Nat.lt_of_le_of_lt Nat.and_le_left hck
 refine Ah (n:=71) Tryz.func101 Tryz.ntmps101 rfl (Nat.le_of_ble_eq_true rfl)<|Ad<|Aa fun ops=> ?_
 refine Ec rfl rfl fun b1=> ?_
 refine oA rfl<|oA rfl<|oA rfl<|oA rfl<|Ac<|n_K<|Ad<|Ad<|Aa fun ops=> ?_
 refine oR (Au rfl mM (by first | exact Bg | rfl)) ?_
 refine A6 rfl (L7) sP rfl aQ ?_
 refine Ac<|n_K ?_
 refine Aj rfl (fun c14=> ?_) (fun c14=> ?_)
 ·skip
  have hres:=E6 c14
  refine Ad<|Aa fun ops=>oA rfl<|oA rfl<|oA rfl<|oA rfl<|Ac<|n_K<|An<|r_K ?_
  exact Av (Om Tryz.results101 (Ag rfl) (Ag rfl) (Ag rfl) (Ag rfl)) (by refine ⟨Sl.nil,?_,rfl,?_,rfl⟩ <;> rw [hres] <;> rfl) (by rw [Sl.hp_nil];exact sP)
 ·skip
  have hb:Bs p=false:=c14
  refine Ai<|n_K<|Ad<|Aa fun ops=> ?_
  refine oR (C5 (i:=256) (j:=258) rfl ⟨_,rfl⟩ rfl (by omega)) ?_
  refine Bd rfl (Z0) sP rfl fun v16 Y16 h16=> ?_
  obtain ⟨r16,rfl,rfl,hr16,hbad16⟩:=h16
  refine Ay aQ ?_
  refine Bd rfl (Ff (n:=2) (by rw [hr16,List.length_take];omega)) sP rfl fun v17 Y17 h17=> ?_
  obtain ⟨x17,sl17,bad17,rfl,rfl,hx17,hsl17,hbb17⟩:=h17
  refine Ay aQ ?_
  refine oR (show Rd _ _ _ _ (.int .u16 ((D1 p:Nat):Int)) from by (rw [hr16,show Bl 2 8=2 from rfl] at hx17;unfold C7 at hx17;rw [if_neg (by rw [List.length_take,List.length_drop,Vector.length_toList];decide)] at hx17;rw [D1,← show x17=D9 ((p.toList.drop 256).take 2) 2 from by (rw [hx17];simp only;rw [List.take_of_length_le (l:=(p.toList.drop 256).take 2) (by rw [List.length_take];omega)])];exact G8 (Apk _) rfl)) ?_
  refine oA rfl<|Ac<|n_K<|Ad<|Aa fun ops=>oM rfl ?_
  refine oR (show Rd _ _ _ _ (.int .u16 ((D1 p &&& 57344:Nat):Int)) from by (rw [← Aj6 hck];exact Ae rfl rfl rfl)) ?_
  refine A6 rfl (Wr hck2) sP rfl aQ ?_
  refine oA rfl<|Ac<|n_K<|Ad<|Ad<|Aa fun ops=>oM rfl<|oR (Ae rfl rfl rfl)<|Ac<|n_K ?_
  refine Aj rfl (fun c23=> ?_) (fun c23=> ?_)
  ·simp only [decide_eq_true_eq,decide_eq_false_iff_not] at c23
   have hres:=Q1 hb (by omega)
   refine Ad<|Aa fun ops=>oA rfl<|oA rfl<|oA rfl<|oA rfl<|Ac<|n_K<|An<|r_K ?_
   exact Av (Om Tryz.results101 (Ag rfl) (Ag rfl) (Ag rfl) (Ag rfl)) (by refine ⟨Sl.nil,?_,rfl,?_,rfl⟩ <;> rw [hres] <;> rfl) (by rw [Sl.hp_nil];exact sP)
  ·simp only [decide_eq_true_eq,decide_eq_false_iff_not] at c23
   have hab:¬ 1<Gm (D1 p &&& 57344):=(by omega)
   obtain ⟨f,hf⟩:∃ f,Dn (If p) (D1 p)=f:=⟨_,rfl⟩
   rw [hf] at hfl
   refine Ai<|n_K<|Ad<|Aa fun ops=> ?_
   refine oR (C5 (i:=0) (j:=256) rfl rfl ⟨_,rfl⟩ (by omega)) ?_
   refine oR (At5 rfl (by decide)) ?_
   refine oR (Au rfl mM (Apj p)) ?_
   refine oM rfl ?_
   refine A6 rfl ((Auk (d:=If p) hck).to (by rw [hf]) rfl) sP rfl aQ ?_
   refine oM rfl<|oE rfl rfl<|oE rfl rfl<|oE rfl rfl ?_
   refine Aw rfl fun b8=> ?_
   first | refine Af rfl rfl uD (Ct) (Ar) (B2 (by first | exact Ar | exact List.length_replicate ..)) ?_ | refine Af rfl rfl uD rfl rfl rfl ?_
   refine oA rfl<|oA rfl<|Ac<|n_K<|Ad<|Ad<|Aa fun ops=>oM rfl<|oR (Ae rfl rfl rfl)<|Ac<|n_K ?_
   refine Aj rfl (fun c34=> ?_) (fun c34=> ?_)
   ·skip
    have hres:=Aha hb hab (by rw [hf];simpa using c34)
    rw [hf] at hres
    refine Ad<|Aa fun ops=>oM rfl<|oA rfl<|oA rfl<|oA rfl<|oA rfl<|Ac<|n_K<|An<|r_K ?_
    exact Av (Om Tryz.results101 (Ag rfl) (Ag rfl) (Ag rfl) (Ag rfl)) (by refine ⟨Sl.nil,?_,rfl,?_,rfl⟩ <;> rw [hres] <;> rfl) (by rw [Sl.hp_nil];exact sP)
   ·skip
    have he:f.2.2=0:=(by simpa using c34)
    have hd1:=f.1[1].isLt
    refine Ai<|n_K<|Ad<|Aa fun ops=> ?_
    refine oR (Gs rfl rfl (by omega)) ?_
    refine oR (Al rfl mM (show nth (vbc f.1) 1=some (bv f.1[1]) from Gt (by decide))) ?_
    refine oR (show Rd _ _ _ _ (.int .i64 ((f.1[1].toNat:Nat):Int)) from Ft rfl (Yq (by omega))) ?_
    refine oA rfl<|Ac<|n_K<|Ad<|Ad<|Aa fun ops=>oM rfl<|oR (Ae rfl rfl rfl)<|Ac<|n_K ?_
    refine Aj rfl (fun c40=> ?_) (fun c40=> ?_)
    ·simp only [decide_eq_true_eq,decide_eq_false_iff_not] at c40
     have hbody:Gp f.1=(f.1.toList.drop 2).take f.1[1].toNat:=(by unfold Gp;rw [if_pos (by omega)])
     refine Aa fun ops=>oM rfl ?_
     refine oR (show Rd _ _ _ _ (.int .i64 ((2+f.1[1].toNat:Nat):Int)) from Sb (a:=2) rfl rfl (by omega)) ?_
     refine oR (Atm rfl rfl rfl (by omega)) ?_
     refine Bd rfl (App (n:=f.1[1].toNat) (by omega)) sP rfl fun v44 Y44 h44=> ?_
     obtain ⟨s44,rfl,rfl,hs44,ho44⟩:=h44
     refine Ay aQ ?_
     refine oA rfl<|Ac<|n_K<|Ad<|Aa fun ops=> ?_
     refine oR (Gs rfl rfl (by omega)) ?_
     refine oR (Al rfl mM (show nth (vbc f.1) 0=some (bv f.1[0]) from Gt (by decide))) ?_
     refine oM rfl ?_
     refine A5 rfl rfl rfl rfl fun b49=> ?_
     refine A6 rfl ((by first | exact H9 (s:=s44) (by rw [hs44,List.length_take];omega) | exact Vi)) sP rfl aQ ?_
     refine oM rfl<|oE rfl rfl<|oE rfl rfl ?_
     refine Aw rfl fun b12=> ?_
     first | refine Af rfl rfl uD (Ct) (Ar) (B2 (by first | exact Ar | exact List.length_replicate ..)) ?_ | refine Af rfl rfl uD rfl rfl rfl ?_
     refine oA rfl<|Ac<|n_K<|Ad<|Ad ?_
     refine s_draw [(2,55),(6,59)] [(6,[(0,false),(1,false),(2,false),(3,false),(4,false),(5,false)]),(12,[(6,false),(7,false),(8,false),(9,true),(10,false),(11,false)])] (by kernel_rfl) rfl fun ops w0 H0 y=> ?_
     refine A4<|xM rfl<|xR (Ae rfl rfl rfl)<|xM rfl ?_
     refine' Qa (j:=2) (k:=2) y rfl rfl rfl rfl rfl rfl rfl (fun hg55=> ?_) ?_
     rotate_left
     ·try (simp at hg55;show _)
      refine x_g y rfl rfl ?_
      refine xM rfl ?_
      refine x_g y rfl rfl ?_
      refine xR (Ae rfl rfl rfl) ?_
      exact Am ⟨rfl,⟨_,sP⟩⟩
     refine Am<|A4<|xM rfl ?_
     refine' Qa (j:=6) (k:=4) y rfl rfl rfl rfl rfl rfl rfl (fun hg59=> ?_) ?_
     rotate_left
     ·try (simp at hg59;show _)
      refine x_g y rfl rfl ?_
      refine xR (C5 (i:=0) (j:=256) rfl rfl ⟨_,rfl⟩ (by omega)) ?_
      refine x_g y rfl rfl ?_
      refine xR (C5 (i:=0) (j:=256) rfl rfl rfl (by omega)) ?_
      refine x_g y rfl rfl ?_
      refine Be ?_
      refine A6 rfl (Ae2) sP rfl aQ ?_
      refine Ac ⟨rfl,⟨_,sP⟩,?_⟩
      refine x_g y rfl rfl ?_
      refine xR (Bx rfl) ?_
      exact Am ⟨rfl,⟨_,sP⟩⟩
     refine Am<|Bm<|n_K ?_
     refine Aj rfl (fun c64=> ?_) (fun c64=> ?_)
     ·skip
      refine Ad<|Aa fun ops=>oA rfl<|oA rfl<|oA rfl<|oA rfl<|Ac<|n_K<|An<|r_K ?_
      exact Av (Om Tryz.results101 (Ag rfl) (Ag rfl) (Ag rfl) (Ag rfl)) (by have h4:=Avk c64;rw [hs44,← hbody] at h4;have hres:=Vg hf hb hab he (by rcases h4 with h | h | h;exact .inl h;exact .inr (.inl (by omega));exact .inr (.inr h));refine ⟨Sl.nil,?_,rfl,?_,rfl⟩ <;> rw [hres] <;> rfl) (by rw [Sl.hp_nil];exact sP)
     ·skip
      refine Ai<|n_K<|Ad<|Aa fun ops=> ?_
      refine oR (Gs rfl rfl (by omega)) ?_
      refine oR (Al rfl mM (show nth (vbc f.1) 0=some (bv f.1[0]) from Gt (by decide))) ?_
      refine oM rfl<|oM rfl<|oM rfl ?_
      refine oR (Ao rfl rfl (by omega)) ?_
      refine oA rfl<|oA rfl<|oA rfl<|oA rfl<|Ac<|n_K<|An ?_
      exact Av (Om Tryz.results101 (Ag rfl) (Ag rfl) (Ag rfl) (Ag rfl)) (by have h4:=As1 c64;rw [hs44,← hbody] at h4;have hres:=Zy hf hb hab he (by rintro (h | h | h);exact h h4.1;exact h4.2.1 (by omega);exact h h4.2.2);refine ⟨s44,?_,rfl,?_,ho44⟩ <;> rw [hres];rw [hs44,hbody]) sP
    ·simp only [decide_eq_true_eq,decide_eq_false_iff_not] at c40
     have hbody:Gp f.1=[]:=(by unfold Gp;rw [if_neg (by omega)])
     refine Ai<|n_K<|Ad<|Aa fun ops=> ?_
     refine oR (Gs rfl rfl (by omega)) ?_
     refine oR (Al rfl mM (show nth (vbc f.1) 0=some (bv f.1[0]) from Gt (by decide))) ?_
     refine oM rfl ?_
     refine A5 rfl rfl rfl rfl fun b49=> ?_
     refine A6 rfl ((by first | exact H9 (s:=s44) (by rw [hs44,List.length_take];omega) | exact Vi)) sP rfl aQ ?_
     refine oM rfl<|oE rfl rfl<|oE rfl rfl ?_
     refine Aw rfl fun b12=> ?_
     first | refine Af rfl rfl uD (Ct) (Ar) (B2 (by first | exact Ar | exact List.length_replicate ..)) ?_ | refine Af rfl rfl uD rfl rfl rfl ?_
     refine oA rfl<|Ac<|n_K<|Ad<|Ad ?_
     refine s_draw [(2,55),(6,59)] [(6,[(0,false),(1,false),(2,false),(3,false),(4,false),(5,false)]),(12,[(6,false),(7,false),(8,false),(9,true),(10,false),(11,false)])] (by kernel_rfl) rfl fun ops w0 H0 y=> ?_
     refine A4<|xM rfl<|xR (Ae rfl rfl rfl)<|xM rfl ?_
     refine' Qa (j:=2) (k:=2) y rfl rfl rfl rfl rfl rfl rfl (fun hg55=> ?_) ?_
     rotate_left
     ·try (simp at hg55;show _)
      refine x_g y rfl rfl ?_
      refine xM rfl ?_
      refine x_g y rfl rfl ?_
      refine xR (Ae rfl rfl rfl) ?_
      exact Am ⟨rfl,⟨_,sP⟩⟩
     refine Am<|A4<|xM rfl ?_
     refine' Qa (j:=6) (k:=4) y rfl rfl rfl rfl rfl rfl rfl (fun hg59=> ?_) ?_
     rotate_left
     ·try (simp at hg59;show _)
      refine x_g y rfl rfl ?_
      refine xR (C5 (i:=0) (j:=256) rfl rfl ⟨_,rfl⟩ (by omega)) ?_
      refine x_g y rfl rfl ?_
      refine xR (C5 (i:=0) (j:=256) rfl rfl rfl (by omega)) ?_
      refine x_g y rfl rfl ?_
      refine Be ?_
      refine A6 rfl (Ae2) sP rfl aQ ?_
      refine Ac ⟨rfl,⟨_,sP⟩,?_⟩
      refine x_g y rfl rfl ?_
      refine xR (Bx rfl) ?_
      exact Am ⟨rfl,⟨_,sP⟩⟩
     refine Am<|Bm<|n_K ?_
     refine Aj rfl (fun c64=> ?_) (fun c64=> ?_)
     ·skip
      refine Ad<|Aa fun ops=>oA rfl<|oA rfl<|oA rfl<|oA rfl<|Ac<|n_K<|An<|r_K ?_
      exact Av (Om Tryz.results101 (Ag rfl) (Ag rfl) (Ag rfl) (Ag rfl)) (by have hres:=Vg hf hb hab he (.inr (.inl (by omega)));refine ⟨Sl.nil,?_,rfl,?_,rfl⟩ <;> rw [hres] <;> rfl) (by rw [Sl.hp_nil];exact sP)
     ·skip
      refine Ai<|n_K<|Ad<|Aa fun ops=> ?_
      refine oR (Gs rfl rfl (by omega)) ?_
      refine oR (Al rfl mM (show nth (vbc f.1) 0=some (bv f.1[0]) from Gt (by decide))) ?_
      refine oM rfl<|oM rfl<|oM rfl ?_
      refine oR (Ao rfl rfl (by omega)) ?_
      refine oA rfl<|oA rfl<|oA rfl<|oA rfl<|Ac<|n_K<|An ?_
      exact Av (Om Tryz.results101 (Ag rfl) (Ag rfl) (Ag rfl) (Ag rfl)) (by exfalso;have h4:=As1 c64;exact h4.2.1 (by omega)) sP
end
section
open Go.K
instance agg225:Agg Tryz.prog 225 true:=⟨⟨_,Tryz.underlying225,rfl⟩⟩
instance siz225:Siz Tryz.prog 225 2:=⟨by kernel_rfl⟩
instance zer3:Zer Tryz.prog 3 ([.int .i64 0]):=⟨by kernel_rfl⟩
instance zer29:Zer Tryz.prog 29 ([.int .u64 0]):=⟨by kernel_rfl⟩
instance zer225:Zer Tryz.prog 225 ([.slice none 0 0,.slice none 0 0]):=⟨by kernel_rfl⟩
instance fld225_0:Fld Tryz.prog 225 0 0:=⟨⟨_,_,0,Tryz.underlying225,rfl,by kernel_rfl,rfl⟩⟩
instance fld225_1:Fld Tryz.prog 225 1 1:=⟨⟨_,_,0,Tryz.underlying225,rfl,by kernel_rfl,rfl⟩⟩
instance plc225:Plc Tryz.prog 225 [(0,1),(1,1)]:=⟨⟨_,Tryz.underlying225,fun _=>by kernel_rfl⟩⟩
instance byt3:Byt Tryz.prog 3 8:=⟨by kernel_rfl⟩
instance ent72:Ent Tryz.prog 72:=⟨fun _ _=>by kernel_rfl⟩
instance ent88:Ent Tryz.prog 88:=⟨fun _ _=>by kernel_rfl⟩
instance ent133:Ent Tryz.prog 133:=⟨fun _ _=>by kernel_rfl⟩
instance ent157:Ent Tryz.prog 157:=⟨fun _ _=>by kernel_rfl⟩
instance ent168:Ent Tryz.prog 168:=⟨fun _ _=>by kernel_rfl⟩
instance ent172:Ent Tryz.prog 172:=⟨fun _ _=>by kernel_rfl⟩
instance ent178:Ent Tryz.prog 178:=⟨fun _ _=>by kernel_rfl⟩
instance ent215:Ent Tryz.prog 215:=⟨fun _ _=>by kernel_rfl⟩
instance ent244:Ent Tryz.prog 244:=⟨fun _ _=>by kernel_rfl⟩
abbrev tPl:TypeId:=225
abbrev tTb:TypeId:=227
theorem Aer {c:Chip}:Does Tryz.prog 168 [ptr c.aC] (chH c) (Is (.int .i64 (Aww c 0 0)) (chH c)):=by
 refine Ah (n:=11) Tryz.func168 Tryz.ntmps168 rfl (Nat.le_of_ble_eq_true rfl)<|Ad<|Aa fun ops=>oA rfl<|Ac<|n_K<|Ad<|Aa fun ops=>oM rfl ?_
 refine A6 rfl (Yi) sP rfl aQ ?_
 refine oM rfl<|oE rfl rfl<|oE rfl rfl ?_
 refine Aw rfl fun b3=> ?_
 first | refine Af rfl rfl uD (Ct) (Ar) (B2 (by first | exact Ar | exact List.length_replicate ..)) ?_ | refine Af rfl rfl uD rfl rfl rfl ?_
 refine oA rfl<|Ac<|n_K<|Ad<|Aa fun ops=>oM rfl<|oA rfl<|Ac<|n_K<|An ?_
 refine Aq (At Tryz.results168 (Ag rfl)) ?_ sP
 rfl
theorem Auy {x:Int}:Does Tryz.prog 215 [.int .i64 x] [] (Is (.bool false) []):=by
 refine Ah (n:=6) Tryz.func215 Tryz.ntmps215 rfl (Nat.le_of_ble_eq_true rfl)<|Ad<|Aa fun ops=>oA rfl<|Ac<|n_K<|Ad<|Aa fun ops=>oM rfl<|oM rfl<|oR (Ae rfl rfl rfl)<|oA rfl<|Ac<|n_K ?_
 refine An ?_
 refine Aq (At Tryz.results215 (Ag rfl)) ?_ sP
 simp
theorem Ase {x y:Int}:Does Tryz.prog 178 [.int .i64 x,.int .i64 y] [] (Is (.bool (decide (x<y))) []):=by
 refine Ah (n:=17) Tryz.func178 Tryz.ntmps178 rfl (Nat.le_of_ble_eq_true rfl)<|Ad<|Aa fun ops=>oA rfl<|Ac<|n_K<|Ad ?_
 refine Bf [(2,7),(7,12)] rfl fun ops y=> ?_
 refine oM rfl ?_
 refine A6 rfl (Auy) sP rfl aQ ?_
 refine oM rfl ?_
 refine' Df (j:=2) (k:=3) (u:=false) y rfl rfl rfl rfl rfl rfl rfl (fun hg7=>absurd hg7 (by simp)) ?_
 refine oM rfl ?_
 refine' Es (j:=7) (k:=3) y rfl rfl rfl rfl rfl rfl rfl (fun hg12=> ?_) ?_
 rotate_left
 ·try (simp at hg12;show _)
  refine o_g y rfl rfl ?_
  refine oM rfl ?_
  refine o_g y rfl rfl ?_
  refine oM rfl ?_
  refine o_g y rfl rfl ?_
  refine oR (Ae rfl rfl rfl) ?_
  exact Ac ⟨rfl,rfl,⟨_,sP⟩⟩
 refine oA rfl<|Ac<|n_K<|An ?_
 refine Aq (At Tryz.results178 (Ag rfl)) ?_ sP
 simp
theorem Kq {α:Type} [Cel α] {s:Sl α} (h:s.isOwn=true):s.off=0:=by cases s <;> first | rfl | simp [Sl.isOwn] at h
theorem Ajf {l:List Int} {i j:Nat} {a b:Int} (hi:l[i]? =some a) (hj:l[j]? =some b):((l.set i b).set j a).Perm l:=by
 obtain ⟨h1,rfl⟩:=List.getElem?_eq_some_iff.1 hi
 obtain ⟨h2,rfl⟩:=List.getElem?_eq_some_iff.1 hj
 exact List.set_set_perm h1 h2
theorem Zc {s:Sl Int} (ho:s.isOwn=true):Does Tryz.prog 172 [s.val,.int .i64 0,.int .i64 s.list.length] (s.hp tI++[]) (fun v H=>v= .tuple #[]∧∃ s':Sl Int,H=s'.hp tI++[]∧s'.val=s.val∧s'.isOwn=true∧s'.list.Perm s.list):=by
 have hsm:=s.small
 refine Ah (n:=49) Tryz.func172 Tryz.ntmps172 rfl (Nat.le_of_ble_eq_true rfl)<|Ad<|Aa fun ops=>oM rfl ?_
 refine oR (Ao rfl rfl (by omega)) ?_
 refine oA rfl<|Ac<|n_K<|Ak ?_
 refine A8 [0,1,2] kQ (fun (st:Int×Sl Int)=>[(6,.int .i64 st.1)]) (fun (st:Int×Sl Int)=>(st.2.hp tI++[])) (fun (st:Int×Sl Int)=>1≤st.1∧st.2.val=s.val∧st.2.isOwn=true∧st.2.list.Perm s.list) (fun (st:Int×Sl Int)=>((s.list.length:Int) - st.1).toNat) ((0+1,s)) ⟨by show (1:Int)≤0+1;omega,rfl,ho,List.Perm.refl _⟩ kP sP ?_
 rintro ⟨i,s1⟩ ⟨h0,h1,h2,h3⟩
 simp only at h0 h1 h2 h3
 refine Ad<|Ad<|Aa fun ops=>oM rfl<|oM rfl<|oR (Ae rfl rfl rfl)<|Ac<|n_K ?_
 refine Aj rfl (fun c12=> ?_) (fun c12=> ?_)
 ·simp only [decide_eq_true_eq,decide_eq_false_iff_not] at c12
  refine Ai<|n_K<|Ad<|Ak<|Ad<|Aa fun ops=>oM rfl<|oA rfl<|Ac<|n_K<|Ak ?_
  refine A8 [0,1,2,6] kQ (fun (st:Int×Sl Int)=>[(7,.int .i64 st.1)]) (fun (st:Int×Sl Int)=>(st.2.hp tI++[])) (fun (st:Int×Sl Int)=>0≤st.1∧st.1≤i∧st.2.val=s.val∧st.2.isOwn=true∧st.2.list.Perm s.list) (fun (st:Int×Sl Int)=>st.1.toNat) ((i,s1)) ⟨by omega,Int.le_refl _,h1,h2,h3⟩ kP sP ?_
  rintro ⟨j,s2⟩ ⟨k0,k1,k2,k3,k4⟩
  simp only at k0 k1 k2 k3 k4
  have hlen:s2.list.length=s.list.length:=k4.length_eq
  have hoff:=Kq k3
  refine Ad<|Ad ?_
  refine s_draw [(3,19)] [(3,[(0,false),(1,false),(2,false)]),(15,[(3,false),(4,false),(5,false),(6,false),(7,false),(8,false),(9,false),(10,false),(11,false),(12,false),(13,true),(14,false)])] (by kernel_rfl) rfl fun ops w0 H0 y=> ?_
  refine A4<|xM rfl<|xM rfl<|xR (Ae rfl rfl rfl)<|Am<|A4<|xM rfl ?_
  refine' Hx (j:=3) (k:=10) y rfl rfl rfl rfl rfl rfl rfl (fun hg19=> ?_) ?_
  rotate_left
  ·try (simp at hg19;show _)
   refine x_g y rfl rfl ?_
   refine xM rfl ?_
   refine x_g y rfl rfl ?_
   refine xM rfl ?_
   refine x_g y rfl rfl ?_
   refine xR (Bk (s:=s2) (by rw [k2];rfl) rfl ⟨k0,by omega⟩) ?_
   refine x_g y rfl rfl ?_
   refine xR (C0 (s:=s2) (o:=0) rfl pL (Hz k0 (by omega)) rfl rfl) ?_
   refine x_g y rfl rfl ?_
   refine xM rfl ?_
   refine x_g y rfl rfl ?_
   refine xM rfl ?_
   refine x_g y rfl rfl ?_
   refine xR (Cy rfl rfl (by omega)) ?_
   refine x_g y rfl rfl ?_
   refine xR (Bk (s:=s2) (by rw [k2];rfl) rfl ⟨by omega,by omega⟩) ?_
   refine x_g y rfl rfl ?_
   refine xR (C0 (s:=s2) (o:=0) rfl pL (Hz (i:=j - 1) (by omega) (by omega)) rfl rfl) ?_
   refine x_g y rfl rfl ?_
   refine Be ?_
   refine A6 rfl (Ase) sP rfl aQ ?_
   refine Ac ⟨rfl,⟨_,sP⟩,?_⟩
   exact Am ⟨rfl,⟨_,sP⟩⟩
  refine Am<|Bm<|n_K ?_
  refine Aj rfl (fun c30=> ?_) (fun c30=> ?_)
  ·skip
   have hj:0<j:=(by simp at c30;exact c30.1)
   have ga:=Hz (xs:=s2.list) k0 (by omega)
   have gb:=Hz (xs:=s2.list) (i:=j - 1) (by omega) (by omega)
   obtain ⟨s3,hs3⟩:∃ s3,s3=s2.set j.toNat (at0 s2.list (j - 1)):=⟨_,rfl⟩
   have q1:s3.val=s.val:=(by rw [hs3,Sl.set_val,k2])
   have q2:s3.list=s2.list.set j.toNat (at0 s2.list (j - 1)):=(by rw [hs3,Sl.set_list _ _ _ k3])
   have q3:s3.isOwn=true:=(by rw [hs3];exact Sl.set_isOwn _ _ _ k3)
   have q4:s3.list[(j - 1).toNat]? =some (at0 s2.list (j - 1)):=(by rw [q2,List.getElem?_set_ne (by omega)];exact gb)
   refine Ai<|n_K<|Ad<|Ak ?_
   refine He [] [0,1,2,3,4,5,6,7,8,10,11,12] [[(9,false),(13,false)],[(14,false)],[(15,true)],[(16,false)],[(17,true)]] (by kernel_rfl) rfl rfl fun ops w0 H0 y=> ?_
   unfold Tg
   refine xM rfl<|xM rfl<|xM rfl<|xM rfl ?_
   refine xR (Cy rfl rfl (by omega)) ?_
   refine xM rfl<|xM rfl ?_
   refine xR (Cy rfl rfl (by omega)) ?_
   refine xR (Bk (s:=s2) (by rw [k2];rfl) rfl ⟨by omega,by omega⟩) ?_
   refine xM rfl<|xM rfl ?_
   refine xR (Bk (s:=s2) (by rw [k2];rfl) rfl ⟨by omega,by omega⟩) ?_
   refine Am<|A4 ?_
   refine xR (C0 (s:=s2) (o:=0) rfl pL gb rfl rfl) ?_
   refine xR (C0 (s:=s2) (o:=0) rfl pL ga rfl rfl) ?_
   refine Am<|A4 ?_
   refine xR (Bk (s:=s2) (by rw [k2];rfl) rfl ⟨by omega,by omega⟩) ?_
   refine Am<|Bh<|Be ?_
   first | (refine Fb (s:=s2) (o:=0) (z':=at0 s2.list (j - 1)) rfl rfl uL k3 ga rfl rfl rfl (by rw [hoff];exact Nat.zero_add _) ?_;rw [← hs3]) | refine Fb (s:=s3) (o:=0) (z':=at0 s2.list j) rfl rfl uL q3 q4 rfl rfl rfl (by rw [Kq q3];exact Nat.zero_add _) ?_
   refine Ac ⟨rfl,⟨_,sP⟩,?_⟩
   refine Am<|A4 ?_
   refine xR (Bk (s:=s3) (by rw [q1];rfl) rfl ⟨by omega,by rw [q2,List.length_set];omega⟩) ?_
   refine Am<|Bh<|Be ?_
   first | (refine Fb (s:=s2) (o:=0) (z':=at0 s2.list (j - 1)) rfl rfl uL k3 ga rfl rfl rfl (by rw [hoff];exact Nat.zero_add _) ?_;rw [← hs3]) | refine Fb (s:=s3) (o:=0) (z':=at0 s2.list j) rfl rfl uL q3 q4 rfl rfl rfl (by rw [Kq q3];exact Nat.zero_add _) ?_
   refine Ac ⟨rfl,⟨_,sP⟩,?_⟩
   refine Am<|Bm<|Az<|n_K<|Aa fun ops=>oM rfl ?_
   refine oR (Cy rfl rfl (by omega)) ?_
   refine oA rfl<|Ac<|n_K ?_
   exact ⟨(j - 1,s3.set (j - 1).toNat (at0 s2.list j)),⟨by simp only;omega,by simp only;omega,by rw [Sl.set_val,q1],Sl.set_isOwn _ _ _ q3,by simp only;rw [Sl.set_list _ _ _ q3,q2];exact (Ajf ga gb).trans k4⟩,(by simp only;omega),lZ⟩
  ·skip
   refine Bb<|x_K<|x_K<|Bj<|Az<|n_K<|Aa fun ops=>oM rfl ?_
   refine oR (Ao rfl rfl (by omega)) ?_
   refine oA rfl<|Ac<|n_K ?_
   exact ⟨(i+1,s2),⟨by simp only;omega,k2,k3,k4⟩,(by simp only;omega),lZ⟩
 ·simp only [decide_eq_true_eq,decide_eq_false_iff_not] at c12
  refine Bb<|x_K<|x_K<|Bj ?_
  exact H5 (Ml Tryz.results172) (by exact ⟨rfl,s1,rfl,h1,h2,h3⟩) sP
theorem Auz {s:Sl Int} {x:Int} (ho:s.isOwn=true) (hn:s.list.length≤12):Does Tryz.prog 133 [s.val,.int .i64 0,.int .i64 s.list.length,.int .i64 x] (s.hp tI++[]) (fun v H=>v= .tuple #[]∧∃ s':Sl Int,H=s'.hp tI++[]∧s'.val=s.val∧s'.isOwn=true∧s'.list.Perm s.list):=by
 refine Ah (n:=134) Tryz.func133 Tryz.ntmps133 rfl (Nat.le_of_ble_eq_true rfl)<|Ad<|Aa fun ops=>oA rfl<|Ac<|n_K<|Ad<|Aa fun ops=>oA rfl<|Ac<|n_K<|Ak ?_
 refine D7 [0,1,2,3] kQ (fun (_u:Unit)=>[]) (fun (_u:Unit)=>True) (fun (_u:Unit)=>0) (()) (by first | trivial | omega | simp) kP ?_
 rintro _ _
 refine Ak<|Ad<|Aa fun ops=>oM rfl<|oM rfl ?_
 refine oR (Cy rfl rfl (by omega)) ?_
 refine oA rfl<|Ac<|n_K<|Ad<|Ad<|Aa fun ops=>oM rfl<|oR (Ae rfl rfl rfl)<|Ac<|n_K ?_
 refine Aj rfl (fun c23=> ?_) (fun c23=> ?_)
 ·simp only [decide_eq_true_eq,decide_eq_false_iff_not] at c23
  refine Ad<|Aa fun ops=>oM rfl<|oM rfl<|oM rfl ?_
  refine Bd rfl (Zc ho) sP rfl fun v27 Y27 h27=> ?_
  obtain ⟨rfl,s27,rfl,hv27,ho27,hp27⟩:=h27
  refine Ay aQ ?_
  refine Ac<|n_K<|An<|r_K<|Bn<|r_K<|Bn ?_
  exact Av (Ml Tryz.results133) (by exact ⟨rfl,s27,rfl,hv27,ho27,hp27⟩) sP
 ·simp only [decide_eq_true_eq,decide_eq_false_iff_not] at c23
  omega
theorem Asf {s:Sl Int} (ho:s.isOwn=true) (hn:s.list.length≤12):Does Tryz.prog 88 [s.val] (s.hp tI++[]) (fun v H=>v= .tuple #[]∧∃ s':Sl Int,H=s'.hp tI++[]∧s'.val=s.val∧s'.isOwn=true∧s'.list.Perm s.list):=by
 refine Ah (n:=11) Tryz.func88 Tryz.ntmps88 rfl (Nat.le_of_ble_eq_true rfl)<|Ad<|Aa fun ops=>oM rfl<|oR (A7 rfl)<|oA rfl<|Ac<|n_K<|Aa fun ops=>oM rfl<|oM rfl<|oM rfl ?_
 refine oR (Ft rfl (Hg .u64 rfl (by show _<2 ^ 64;omega))) ?_
 refine A6 rfl (Ad6 (n:=s.list.length) (by omega)) sP rfl aQ ?_
 refine Bd rfl (Auz ho hn) sP rfl fun v10 Y10 h10=> ?_
 obtain ⟨rfl,s10,rfl,hv10,ho10,hp10⟩:=h10
 refine Ay aQ ?_
 refine Ac ?_
 exact H5 (Ml Tryz.results88) (by exact ⟨rfl,s10,rfl,hv10,ho10,hp10⟩) sP
theorem Qs {s:Sl Int} {T:TypeId} (hs:s.list.length≤1000):Does Tryz.prog 72 [s.val] (s.hp T++[]) (fun v H=>∃ s':Sl Int,v=s'.val∧H=(s'.hp tI++(s.hp T++[]))∧s'.list=s.list∧s'.isOwn=true):=by
 refine Ah (n:=8) Tryz.func72 Tryz.ntmps72 rfl (Nat.le_of_ble_eq_true rfl)<|Ad<|Aa fun ops=>oA rfl<|Ac<|n_K<|Ad<|Ad<|Aa fun ops=>oM rfl<|oR (V9 rfl rfl)<|Ac<|n_K ?_
 refine Aj rfl (fun c4=> ?_) (fun c4=> ?_)
 ·skip
  have hn:=Sl.nil_of s c4
  subst hn
  refine Ad<|Aa fun ops=>oA rfl<|Ac<|n_K<|An<|r_K ?_
  exact Av (At Tryz.results72 (Ag rfl)) (by refine ⟨Sl.nil,rfl,rfl,rfl,rfl⟩) (by simp only [Sl.hp_nil,List.nil_append];exact Split.nil)
 ·skip
  refine Ai<|n_K<|Ad<|Aa fun ops=> ?_
  refine A5 rfl rfl rfl rfl fun b5=> ?_
  refine Q5 (Amn (α:=Int) (b:=b5) (T:=tI)) ?_
  refine oM rfl ?_
  refine Bp (s:=mt Int b5) (new:=s.list) (m:=s.list.length) rfl rfl pL rfl (M5 pL) rfl rfl rfl rfl (by rw [show (mt Int b5).list.length=0 from rfl];omega) rfl fun s' hs1 hs2=> ?_
  refine oA rfl<|Ac<|n_K<|An ?_
  exact Av (At Tryz.results72 (Ag rfl)) (by exact ⟨s',rfl,rfl,by rw [hs1];rfl,hs2⟩) sP
theorem Ajg {u l:Sl Int} (hu:u.list.length≤1000) (hl:l.list.length≤1000):Does Tryz.prog 244 [.agg #[u.val,l.val]] (u.hp tI++(l.hp tI++[])) (fun v H=>∃ u' l':Sl Int,v= .agg #[u'.val,l'.val]∧H=u'.hp tI++(l'.hp tI++(u.hp tI++(l.hp tI++[])))∧u'.list=u.list∧l'.list=l.list∧u'.isOwn=true∧l'.isOwn=true):=by
 refine Ah (n:=10) Tryz.func244 Tryz.ntmps244 rfl (Nat.le_of_ble_eq_true rfl)<|Ad<|Aa fun ops=> ?_
 refine De rfl rfl fun b1=> ?_
 refine Aw rfl fun b2=> ?_
 refine Ac<|n_K<|Ad ?_
 refine s_draw [] [(5,[(0,false),(1,false),(3,false),(4,false),(2,true)]),(6,[(5,true)]),(7,[(6,false)]),(8,[(7,true)])] (by kernel_rfl) rfl fun ops w0 H0 y=> ?_
 refine A4<|xF rfl ?_
 refine xR (Al rfl mM rfl) ?_
 refine xF rfl ?_
 refine xR (Al rfl mM rfl) ?_
 refine Be ?_
 refine Bd rfl (Qs hu) sP rfl fun v5 Y5 h5=> ?_
 obtain ⟨s5,rfl,rfl,hs5,ho5⟩:=h5
 refine Ay aQ ?_
 refine Ac ⟨rfl,⟨_,sP⟩,?_⟩
 refine Am<|Bh<|Be ?_
 refine Bd rfl (Qs hl) sP rfl fun v8 Y8 h8=> ?_
 obtain ⟨s8,rfl,rfl,hs8,ho8⟩:=h8
 refine Ay aQ ?_
 refine Ac ⟨rfl,⟨_,sP⟩,?_⟩
 refine Am<|A4<|xR (Bc rfl rfl)<|Am<|Bh<|Be ?_
 refine Af rfl rfl uD rfl rfl rfl ?_
 refine Ac ⟨rfl,⟨_,sP⟩,?_⟩
 refine Am<|Bm<|n_K<|An ?_
 exact Av (At Tryz.results244 (Bv rfl mM rfl)) (by exact ⟨s5,s8,rfl,rfl,hs5,hs8,ho5,ho8⟩) sP
theorem Acf (i:Int):IntKind.u8.wrap i=((Fx i).toNat:Int):=Ex .u8 rfl i
theorem J3 (i:Int):IntKind.u64.wrap i=((BitVec.ofInt 64 i).toNat:Int):=Ex .u64 rfl i
theorem Aes {b:Nat} {kind:By} {s1 s2 s3 s4:Sl By} (hl:s1.list.length+s2.list.length+s3.list.length+s4.list.length≤70000000000000):Does Tryz.prog 145 [bv kind,.slice (some ⟨b,0,none⟩) 4 4] ((b,true,C [s1.val,s2.val,s3.val,s4.val] tSB)::(s1.hp tU8++(s2.hp tU8++(s3.hp tU8++(s4.hp tU8++[])))))
  (Is (.tuple #[.agg (vbc (C3 kind (s1.list++(s2.list++(s3.list++(s4.list++[]))))).1).toArray,.int .i64 (C3 kind (s1.list++(s2.list++(s3.list++(s4.list++[]))))).2]) ((b,true,C [s1.val,s2.val,s3.val,s4.val] tSB)::(s1.hp tU8++(s2.hp tU8++(s3.hp tU8++(s4.hp tU8++[])))))):=by
 have e2:(Sl.own b [s1,s2,s3,s4] 4 [] ⟨by simp,Nat.le_refl _,by simp⟩:Sl (Sl By)).list=[s1,s2,s3,s4]:=rfl
 have e3:Bq [s1,s2,s3,s4]=s1.list++(s2.list++(s3.list++(s4.list++[]))):=by simp [Bq]
 have h:=M1 (kind:=kind) (q:= .own b [s1,s2,s3,s4] 4 [] ⟨by simp,Nat.le_refl _,by simp⟩) (by rw [e2,e3];simp only [List.length_append,List.length_nil];omega)
 rw [e2,e3] at h
 have e:(Sl.own b [s1,s2,s3,s4] 4 [] ⟨by simp,Nat.le_refl _,by simp⟩:Sl (Sl By)).hp tSB++(Dh [s1,s2,s3,s4]++[])=((b,true,C [s1.val,s2.val,s3.val,s4.val] tSB)::(s1.hp tU8++(s2.hp tU8++(s3.hp tU8++(s4.hp tU8++[]))))):=by
  rw [Sl.hp_own,Cz,Cz,Cz,Cz,Ha]
  simp only [List.append_assoc,List.nil_append,List.append_nil]
  rfl
 rw [e] at h
 exact h
theorem map_take {α β:Type} {f:α→β} {xs:List α} {i:Nat} {x:α} (h:xs[i]? =some x):(xs.take (i+1)).map f=(xs.take i).map f++[f x]:=by
 rw [List.take_add_one,h];simp
theorem Aog {b:Nat} {x y z:Wd}:Does Tryz.prog 196 [.int .i64 1,.slice (some ⟨b,0,none⟩) 3 3] [(b,true,C [wv x,wv y,wv z] Amm)] (fun v H=>∃ s:Sl By,v=s.val∧H=(s.hp tU8++[(b,true,C [wv x,wv y,wv z] Amm)])∧s.list=K0 1 [x,y,z]∧s.isOwn=true):=by
 have h:=Arc (n:=1) (xs:=(Sl.own b [x,y,z] 3 [] ⟨by simp,Nat.le_refl _,by simp⟩:Sl Wd)) (T:=Amm) (by show 3≤1000000;decide)
 have e:(Sl.own b [x,y,z] 3 [] ⟨by simp,Nat.le_refl _,by simp⟩:Sl Wd).hp Amm++[]=[(b,true,C [wv x,wv y,wv z] Amm)]:=by rw [Sl.hp_own];rfl
 rw [e] at h
 exact h
theorem Zd {u l:Sl Int} {v:Wd} {n:Int} (hu:u.list.length≤1000) (hl:l.list.length≤1000):Does Tryz.prog 157 [.agg #[u.val,l.val],wv v,.int .i64 n] (u.hp tI++(l.hp tI++[]))
  (Is (.agg (vbc (Ea v n u.list l.list)).toArray) (u.hp tI++(l.hp tI++[]))):=by
 refine Ah (n:=63) Tryz.func157 Tryz.ntmps157 rfl (Nat.le_of_ble_eq_true rfl)<|Ad<|Aa fun ops=> ?_
 refine De rfl rfl fun b3=> ?_
 refine Aw rfl fun b6=> ?_
 rw [Cs]
 refine Ac<|n_K<|Ad<|Aa fun ops=> ?_
 refine A5 rfl rfl rfl rfl fun b15=> ?_
 refine Q5 (Amn (α:=By) (b:=b15) (T:=tU8)) ?_
 refine A5 rfl rfl rfl rfl fun b16=> ?_
 refine Q5 (Amn (α:=By) (b:=b16) (T:=tU8)) ?_
 refine oA rfl<|oA rfl<|Ac<|n_K<|Ad<|Ad<|Aa fun ops=>oF rfl ?_
 refine oR (Al rfl mM rfl) ?_
 refine oR (A7 rfl)<|oM rfl<|Ac<|n_K<|Ak ?_
 refine A8 [1,2,3,6,8,18,19] kQ (fun (st:Nat×Sl By)=>[(20,.int .i64 st.1),(7,st.2.val)]) (fun (st:Nat×Sl By)=>(b3,true,C [u.val,l.val] tPl)::(b6,true,C (vbc Jv) tPg)::(st.2.hp tU8++((mt By b16).hp tU8++(u.hp tI++(l.hp tI++[]))))) (fun (st:Nat×Sl By)=>st.1≤u.list.length∧st.2.list=(u.list.take st.1).map Fx∧st.2.isOwn=true) (fun (st:Nat×Sl By)=>u.list.length - st.1) ((0,mt By b15)) ⟨Nat.zero_le _,rfl,rfl⟩ kP sP ?_
 rintro ⟨i,s⟩ ⟨h0,h1,h2⟩
 simp only at h0 h1 h2
 have hsl:s.list.length=i:=by rw [h1,List.length_map,List.length_take];omega
 refine Ad<|Aa fun ops=>oR (Ae rfl rfl rfl)<|Ac<|n_K<|Ad ?_
 refine Aj rfl (fun c21=> ?_) (fun c21=> ?_)
 ·simp only [decide_eq_true_eq,decide_eq_false_iff_not] at c21
  obtain ⟨x,hg⟩:∃ x,u.list[i]? =some x:=⟨_,List.getElem?_eq_getElem (by omega)⟩
  refine Ai<|n_K<|Ad<|Ak<|Ad<|Aa fun ops=> ?_
  refine oR (Bk rfl rfl (by omega)) ?_
  refine oR (C0 (o:=0) rfl pL hg rfl rfl) ?_
  refine oA rfl<|Ac<|n_K<|Aa fun ops=>oM rfl<|oM rfl ?_
  refine oR (show Rd _ _ _ _ (bv (Fx x)) from G8 (Acf x) rfl) ?_
  refine A5 rfl rfl rfl rfl fun b27=> ?_
  refine Bp (s:=s) (new:=[Fx x]) (m:=1) rfl rfl pL h2 (Cv (r:=true) mM rfl) rfl rfl rfl rfl (by omega) rfl fun s' hs1 hs2=> ?_
  refine oA rfl<|Ac<|Az<|n_K<|Aa fun ops=> ?_
  refine oR (Ao rfl rfl (by omega)) ?_
  refine oM rfl<|Ac<|n_K ?_
  exact ⟨(i+1,s'),⟨by simp only;omega,by rw [hs1,h1,map_take hg],hs2⟩,(by simp only;omega),lZ⟩
 ·simp only [decide_eq_true_eq,decide_eq_false_iff_not] at c21
  have hall:s.list=u.list.map Fx:=by rw [h1,List.take_of_length_le (by omega)]
  refine Bb<|x_K<|x_K<|Bj<|n_K<|Ad<|Ad<|Aa fun ops=>oF rfl ?_
  refine oR (Al rfl mM rfl) ?_
  refine oR (A7 rfl)<|oM rfl<|Ac<|n_K<|Ak ?_
  refine A8 [1,2,3,6,7,31,32] kQ (fun (st:Nat×Sl By)=>[(33,.int .i64 st.1),(8,st.2.val)]) (fun (st:Nat×Sl By)=>(b3,true,C [u.val,l.val] tPl)::(b6,true,C (vbc Jv) tPg)::(st.2.hp tU8++(s.hp tU8++(u.hp tI++(l.hp tI++[]))))) (fun (st:Nat×Sl By)=>st.1≤l.list.length∧st.2.list=(l.list.take st.1).map Fx∧st.2.isOwn=true) (fun (st:Nat×Sl By)=>l.list.length - st.1) ((0,mt By b16)) ⟨Nat.zero_le _,rfl,rfl⟩ kP sP ?_
  rintro ⟨j,q⟩ ⟨k0,k1,k2⟩
  simp only at k0 k1 k2
  have hql:q.list.length=j:=by rw [k1,List.length_map,List.length_take];omega
  refine Ad<|Aa fun ops=>oR (Ae rfl rfl rfl)<|Ac<|n_K<|Ad ?_
  refine Aj rfl (fun c34=> ?_) (fun c34=> ?_)
  ·simp only [decide_eq_true_eq,decide_eq_false_iff_not] at c34
   obtain ⟨x,hg⟩:∃ x,l.list[j]? =some x:=⟨_,List.getElem?_eq_getElem (by omega)⟩
   refine Ai<|n_K<|Ad<|Ak<|Ad<|Aa fun ops=> ?_
   refine oR (Bk rfl rfl (by omega)) ?_
   refine oR (C0 (o:=0) rfl pL hg rfl rfl) ?_
   refine oA rfl<|Ac<|n_K<|Aa fun ops=>oM rfl<|oM rfl ?_
   refine oR (show Rd _ _ _ _ (bv (Fx x)) from G8 (Acf x) rfl) ?_
   refine A5 rfl rfl rfl rfl fun b40=> ?_
   refine Bp (s:=q) (new:=[Fx x]) (m:=1) rfl rfl pL k2 (Cv (r:=true) mM rfl) rfl rfl rfl rfl (by omega) rfl fun s' hs1 hs2=> ?_
   refine oA rfl<|Ac<|Az<|n_K<|Aa fun ops=> ?_
   refine oR (Ao rfl rfl (by omega)) ?_
   refine oM rfl<|Ac<|n_K ?_
   exact ⟨(j+1,s'),⟨by simp only;omega,by rw [hs1,k1,map_take hg],hs2⟩,(by simp only;omega),lZ⟩
  ·simp only [decide_eq_true_eq,decide_eq_false_iff_not] at c34
   have hall2:q.list=l.list.map Fx:=by rw [k1,List.take_of_length_le (by omega)]
   have hul:s.list.length=u.list.length:=(by rw [hall,List.length_map])
   have hll:q.list.length=l.list.length:=(by rw [hall2,List.length_map])
   refine Bb<|x_K<|x_K<|Bj<|n_K<|Ad<|Aa fun ops=>oM rfl ?_
   refine Bd rfl (Hr (x:=v)) sP rfl fun v45 Y45 h45=> ?_
   obtain ⟨s45,rfl,rfl,hs45,ho45⟩:=h45
   refine Ay aQ ?_
   refine oM rfl ?_
   refine oR (show Rd _ _ _ _ (wv (BitVec.ofInt 64 n)) from G8 (J3 n) rfl) ?_
   refine oM rfl<|oR (A7 rfl) ?_
   refine oR (show Rd _ _ _ _ (wv (BitVec.ofInt 64 (u.list.length:Int))) from by (rw [← hul];exact G8 (J3 _) rfl)) ?_
   refine oM rfl<|oR (A7 rfl) ?_
   refine oR (show Rd _ _ _ _ (wv (BitVec.ofInt 64 (l.list.length:Int))) from by (rw [← hll];exact G8 (J3 _) rfl)) ?_
   refine A5 rfl rfl rfl rfl fun b54=> ?_
   refine Bd rfl (Aog) sP rfl fun v55 Y55 h55=> ?_
   obtain ⟨s55,rfl,rfl,hs55,ho55⟩:=h55
   refine Ay aQ ?_
   refine oM rfl<|oM rfl ?_
   refine A5 rfl rfl rfl rfl fun b58=> ?_
   refine A6 rfl ((Aes (kind:=1) (s1:=s45) (s2:=s55) (s3:=s) (s4:=q) (by rw [hs45,hs55,Bo,Qj];simp only [List.length_cons,List.length_nil];have:Bl 8 8=8:=rfl;omega)).to (by rw [hs45,hs55,hall,hall2]) rfl) sP rfl aQ ?_
   refine oM rfl<|oE rfl rfl<|oE rfl rfl ?_
   refine Aw rfl fun b13=> ?_
   rw [Cs]
   first | refine Af rfl rfl uD (Ct) (Ar) (B2 (by first | exact Ar | exact List.length_replicate ..)) ?_ | refine Af rfl rfl uD rfl rfl rfl ?_
   refine oA rfl<|Ac<|n_K<|Ad<|Aa fun ops=> ?_
   refine oR (Au rfl mM (by first | exact Bg | rfl)) ?_
   first | refine Af rfl rfl uD (Ct) (Ar) (B2 (by first | exact Ar | exact List.length_replicate ..)) ?_ | refine Af rfl rfl uD rfl rfl rfl ?_
   refine Ac<|n_K<|An ?_
   refine Aq (At Tryz.results157 (Bv rfl mM (by first | exact Bg | rfl))) ?_ sP
   rfl
end
section
open Go.K
instance ent167:Ent Tryz.prog 167:=⟨fun _ _=>by kernel_rfl⟩
theorem Agq (b:By):IntKind.i64.wrap (b.toNat:Int)=No b:=Cx (by have:=b.isLt;omega)
theorem Qu (p:Pg):(Cg p).2.1.length≤240:=by
 unfold Cg
 simp only []
 split
 ·simp
 ·split
  ·simp
  ·split
   ·simp
   ·split
    ·simp
    ·simp only [Gp]
     split
     ·rw [List.length_take];omega
     ·simp
theorem J4 {q:Pg} {n:Int}:Does Tryz.prog 167 [.agg (vbc q).toArray,.int .i64 n] [] (fun v H=>∃ u l:Sl Int,v= .tuple #[.agg #[u.val,l.val],wv (Dp q n).2.2.1,.bool (Dp q n).2.2.2]∧H=u.hp tI++(l.hp tI++[])∧u.list=(Dp q n).1∧l.list=(Dp q n).2.1∧u.isOwn=true∧l.isOwn=true):=by
 have hbl:=Qu q
 refine Ah (n:=97) Tryz.func167 Tryz.ntmps167 rfl (Nat.le_of_ble_eq_true rfl)<|Ad<|Aa fun ops=> ?_
 refine Ec rfl rfl fun b2=> ?_
 refine Aw rfl fun b4=> ?_
 refine oA rfl<|oA rfl<|Ac<|n_K<|Ad<|Aa fun ops=> ?_
 refine oR (Au rfl mM (by first | exact Bg | rfl)) ?_
 refine Bd rfl (La) sP rfl fun v20 Y20 h20=> ?_
 obtain ⟨s20,rfl,rfl,hs20,ho20⟩:=h20
 refine Ay aQ ?_
 refine oM rfl<|oE rfl rfl<|oE rfl rfl<|oE rfl rfl<|oE rfl rfl<|oA rfl<|oA rfl<|oA rfl<|oA rfl<|Ac<|n_K<|Ad<|Ad ?_
 refine Bf [(2,27)] rfl fun ops y=> ?_
 refine oM rfl<|oR (Ae rfl rfl rfl)<|oM rfl ?_
 refine' Es (j:=2) (k:=2) y rfl rfl rfl rfl rfl rfl rfl (fun hg27=> ?_) ?_
 rotate_left
 ·try (simp at hg27;show _)
  refine o_g y rfl rfl ?_
  refine oM rfl ?_
  refine o_g y rfl rfl ?_
  refine oR (Ae rfl rfl rfl) ?_
  exact Ac ⟨rfl,rfl,⟨_,sP⟩⟩
 refine Ac<|n_K ?_
 refine Aj rfl (fun c30=> ?_) (fun c30=> ?_)
 ·skip
  have hres:Dp q n=([],[],0,false):=(by unfold Dp;simp only [];rw [if_pos (by simp at c30;rcases c30 with h | h;exact .inl h;right;intro e;rw [e] at h;exact h rfl)])
  refine Ad<|Aa fun ops=> ?_
  refine oR (Au rfl mM rfl) ?_
  refine Af rfl rfl uD rfl rfl rfl ?_
  refine oA rfl<|oA rfl<|Ac<|n_K<|An<|r_K ?_
  exact Av (Kw Tryz.results167 (Bv rfl mM rfl) (Ag rfl) (Ag rfl)) (by refine ⟨.nil,.nil,?_,rfl,?_,?_,rfl,rfl⟩ <;> rw [hres] <;> rfl) (by simp only [Sl.hp_nil,List.nil_append];exact Split.nil)
 ·skip
  have h0:Dp q n=Np (Cg q).2.1 n:=(by unfold Dp;simp only [];rw [if_neg (by simp at c30;rintro (h | h);exact h c30.1;exact h (BitVec.eq_of_toNat_eq (by have:=c30.2;show _=1;omega)))])
  refine Ai<|n_K<|Ad<|Aa fun ops=>oM rfl ?_
  refine Bd rfl (Fe (s:=s20) (by rw [hs20];omega)) sP rfl fun v33 Y33 h33=> ?_
  obtain ⟨r33,rfl,rfl,hr33,hb33⟩:=h33
  refine Ay aQ ?_
  refine oA rfl<|Ac<|n_K<|Ad<|Aa fun ops=>oM rfl ?_
  refine Bd rfl (Ff (n:=8) (by rw [hr33,hs20];omega)) sP rfl fun v35 Y35 h35=> ?_
  obtain ⟨x35,sl35,bad35,rfl,rfl,hx35,hsl35,hbd35⟩:=h35
  refine Ay aQ ?_
  refine oA rfl<|Ac<|n_K<|Ad<|Ad<|Aa fun ops=>oM rfl ?_
  refine Bd rfl (Ff (r:=⟨r33.b,sl35,bad35⟩) (n:=1) (Nat.le_trans (F4 hsl35 (by rw [hr33,hs20];exact hbl)) (by omega))) sP rfl fun v37 Y37 h37=> ?_
  obtain ⟨x37,sl37,bad37,rfl,rfl,hx37,hsl37,hbd37⟩:=h37
  refine Ay aQ ?_
  refine oR (C4 rfl)<|oM rfl<|oR (Ae rfl rfl rfl)<|Ac<|n_K ?_
  refine Aj rfl (fun c40=> ?_) (fun c40=> ?_)
  ·skip
   rw [hr33,hs20,hb33] at hx35 hsl35 hbd35
   have ha:(x35,sl35.list,bad35)=C7 8 (Cg q).2.1 false:=(by rw [hx35,hsl35,hbd35];rfl)
   have hb:(x37,sl37.list,bad37)=C7 1 sl35.list bad35:=(by rw [hx37,hsl37,hbd37];rfl)
   have hres:Dp q n=([],[],0,false):=(by rw [h0];exact Aje ha hb (by simpa using c40))
   refine Ad<|Aa fun ops=> ?_
   refine oR (Au rfl mM rfl) ?_
   refine Af rfl rfl uD rfl rfl rfl ?_
   refine oA rfl<|oA rfl<|Ac<|n_K<|An<|r_K ?_
   exact Av (Kw Tryz.results167 (Bv rfl mM rfl) (Ag rfl) (Ag rfl)) (by refine ⟨.nil,.nil,?_,rfl,?_,?_,rfl,rfl⟩ <;> rw [hres] <;> rfl) (by simp only [Sl.hp_nil,List.nil_append];exact Split.nil)
  ·skip
   rw [hr33,hs20,hb33] at hx35 hsl35 hbd35
   have ha:(x35,sl35.list,bad35)=C7 8 (Cg q).2.1 false:=(by rw [hx35,hsl35,hbd35];rfl)
   have hb:(x37,sl37.list,bad37)=C7 1 sl35.list bad35:=(by rw [hx37,hsl37,hbd37];rfl)
   have h1:w64 (x37.toNat:Int)=n:=(by simpa using c40)
   have l37:=F4 hsl37 (F4 hsl35 hbl)
   refine Ai<|n_K<|Ad<|Aa fun ops=>oM rfl ?_
   refine Bd rfl (Ff (r:=⟨r33.b,sl37,bad37⟩) (n:=1) (Nat.le_trans l37 (by omega))) sP rfl fun v43 Y43 h43=> ?_
   obtain ⟨x43,sl43,bad43,rfl,rfl,hx43,hsl43,hbd43⟩:=h43
   refine Ay aQ ?_
   refine oR (C4 rfl)<|oM rfl ?_
   refine Bd rfl (Ff (r:=⟨r33.b,sl43,bad43⟩) (n:=1) (Nat.le_trans (F4 hsl43 l37) (by omega))) sP rfl fun v46 Y46 h46=> ?_
   obtain ⟨x46,sl46,bad46,rfl,rfl,hx46,hsl46,hbd46⟩:=h46
   refine Ay aQ ?_
   refine oR (C4 rfl)<|oA rfl<|oA rfl<|Ac<|n_K<|Ad<|Ad<|Aa fun ops=>oM rfl<|oM rfl ?_
   refine Bd rfl (Jx (r:=⟨r33.b,sl46,bad46⟩) (Nat.le_trans (F4 hsl46 (F4 hsl43 l37)) (by omega))) sP rfl fun v50 Y50 h50=> ?_
   obtain ⟨s50,sl50,bad50,rfl,rfl,ho50,hs50,hsl50,hbd50⟩:=h50
   refine Ay aQ ?_
   refine oR (A7 rfl)<|oM rfl<|Ac<|n_K<|Ak ?_
   have hs50len:=Abf hs50 (F4 hsl46 (F4 hsl43 l37))
   refine Im (Gu (α:=Int) (T:=tI)) ?_
   refine A8 [1,4,5,11,12,13,50,51] kQ (fun (st:Nat×Sl Int)=>[(52,.int .i64 st.1)]) (fun (st:Nat×Sl Int)=>(b4,true,C [st.2.val,.slice none 0 0] tPl)::(st.2.hp tI++(s50.hp tU8++(rdH ⟨r33.b,sl50,bad50⟩++[])))) (fun (st:Nat×Sl Int)=>st.1≤s50.list.length∧st.2.list=(s50.list.take st.1).map No∧st.2.isOwn=true) (fun (st:Nat×Sl Int)=>s50.list.length - st.1) ((0,.nil)) ⟨Nat.zero_le _,rfl,rfl⟩ kP sP ?_
   rintro ⟨i,u⟩ ⟨g0,h1',h2⟩
   simp only at g0 h1' h2
   have hul:u.list.length=i:=by rw [h1',List.length_map,List.length_take];omega
   refine Ad<|Aa fun ops=>oR (Ae rfl rfl rfl)<|Ac<|n_K<|Ad ?_
   refine Aj rfl (fun c53=> ?_) (fun c53=> ?_)
   ·simp only [decide_eq_true_eq,decide_eq_false_iff_not] at c53
    obtain ⟨y,hg⟩:∃ y,s50.list[i]? =some y:=⟨_,List.getElem?_eq_getElem (by omega)⟩
    refine Ai<|n_K<|Ad<|Ak<|Ad<|Aa fun ops=> ?_
    refine oR (Bk rfl rfl (by omega)) ?_
    refine oR (C0 (o:=0) (v:=bv y) rfl pL hg rfl rfl) ?_
    refine oA rfl<|Ac<|n_K<|Aa fun ops=>oF rfl ?_
    refine oR (Al rfl mM rfl) ?_
    refine oM rfl ?_
    refine oR (show Rd _ _ _ _ (.int .i64 (No y)) from G8 (Agq y) rfl) ?_
    refine A5 rfl rfl rfl rfl fun b60=> ?_
    refine Bp (s:=u) (new:=[No y]) (m:=1) rfl rfl pL h2 (Cv (r:=true) mM rfl) rfl rfl rfl rfl (by have:=hs50len;omega) rfl fun s' hs1 hs2=> ?_
    refine oF rfl ?_
    refine Af rfl rfl uD rfl rfl rfl ?_
    refine Ac<|Az<|n_K<|Aa fun ops=> ?_
    refine oR (Ao rfl rfl (by omega)) ?_
    refine oM rfl<|Ac<|n_K ?_
    exact ⟨(i+1,s'),⟨by simp only;omega,by rw [hs1,h1',map_take hg],hs2⟩,(by simp only;omega),lZ⟩
   ·simp only [decide_eq_true_eq,decide_eq_false_iff_not] at c53
    have hall:u.list=s50.list.map No:=by rw [h1',List.take_of_length_le (by omega)]
    refine Bb<|x_K<|x_K<|Bj<|n_K<|Ad<|Ad<|Aa fun ops=>oM rfl<|oM rfl ?_
    refine Bd rfl (Jx (r:=⟨r33.b,sl50,bad50⟩) (Nat.le_trans (Afy hsl50 (F4 hsl46 (F4 hsl43 l37))) (by omega))) sP rfl fun v66 Y66 h66=> ?_
    obtain ⟨s66,sl66,bad66,rfl,rfl,ho66,hs66,hsl66,hbd66⟩:=h66
    refine Ay aQ ?_
    refine oR (A7 rfl)<|oM rfl<|Ac<|n_K<|Ak ?_
    have hs66len:=Abf hs66 (Afy hsl50 (F4 hsl46 (F4 hsl43 l37)))
    refine Im (Gu (α:=Int) (T:=tI)) ?_
    refine A8 [1,4,5,11,12,66,67] kQ (fun (st:Nat×Sl Int)=>[(68,.int .i64 st.1)]) (fun (st:Nat×Sl Int)=>(b4,true,C [u.val,st.2.val] tPl)::(st.2.hp tI++(u.hp tI++(s66.hp tU8++(rdH ⟨r33.b,sl66,bad66⟩++[]))))) (fun (st:Nat×Sl Int)=>st.1≤s66.list.length∧st.2.list=(s66.list.take st.1).map No∧st.2.isOwn=true) (fun (st:Nat×Sl Int)=>s66.list.length - st.1) ((0,.nil)) ⟨Nat.zero_le _,rfl,rfl⟩ kP sP ?_
    rintro ⟨j,l⟩ ⟨k0,k1,k2⟩
    simp only at k0 k1 k2
    have hll:l.list.length=j:=by rw [k1,List.length_map,List.length_take];omega
    refine Ad<|Aa fun ops=>oR (Ae rfl rfl rfl)<|Ac<|n_K<|Ad ?_
    refine Aj rfl (fun c69=> ?_) (fun c69=> ?_)
    ·simp only [decide_eq_true_eq,decide_eq_false_iff_not] at c69
     obtain ⟨y,hg⟩:∃ y,s66.list[j]? =some y:=⟨_,List.getElem?_eq_getElem (by omega)⟩
     refine Ai<|n_K<|Ad<|Ak<|Ad<|Aa fun ops=> ?_
     refine oR (Bk rfl rfl (by omega)) ?_
     refine oR (C0 (o:=0) (v:=bv y) rfl pL hg rfl rfl) ?_
     refine oA rfl<|Ac<|n_K<|Aa fun ops=>oF rfl ?_
     refine oR (Al rfl mM rfl) ?_
     refine oM rfl ?_
     refine oR (show Rd _ _ _ _ (.int .i64 (No y)) from G8 (Agq y) rfl) ?_
     refine A5 rfl rfl rfl rfl fun b76=> ?_
     refine Bp (s:=l) (new:=[No y]) (m:=1) rfl rfl pL k2 (Cv (r:=true) mM rfl) rfl rfl rfl rfl (by have:=hs66len;omega) rfl fun s' hs1 hs2=> ?_
     refine oF rfl ?_
     refine Af rfl rfl uD rfl rfl rfl ?_
     refine Ac<|Az<|n_K<|Aa fun ops=> ?_
     refine oR (Ao rfl rfl (by omega)) ?_
     refine oM rfl<|Ac<|n_K ?_
     exact ⟨(j+1,s'),⟨by simp only;omega,by rw [hs1,k1,map_take hg],hs2⟩,(by simp only;omega),lZ⟩
    ·simp only [decide_eq_true_eq,decide_eq_false_iff_not] at c69
     have hall2:l.list=s66.list.map No:=by rw [k1,List.take_of_length_le (by omega)]
     refine Bb<|x_K<|x_K<|Bj<|n_K<|Ad ?_
     refine He [(5,85),(10,90)] [1,2] [[(0,false),(3,true),(4,false),(5,false),(6,false),(7,true),(8,false),(9,false),(10,false),(11,false),(12,false),(13,false),(14,false),(15,false),(16,false),(17,true),(18,false)],[(19,false)]] (by kernel_rfl) rfl rfl fun ops w0 H0 y=> ?_
     unfold Tg
     refine xM rfl<|xM rfl<|Am<|A4 ?_
     refine xR (Au rfl mM rfl) ?_
     refine Be ?_
     refine A6 rfl (Afz (r:=⟨r33.b,sl66,bad66⟩)) sP rfl aQ ?_
     refine Ac ⟨rfl,⟨_,sP⟩,?_⟩
     refine xR (Bx rfl)<|xM rfl ?_
     refine' Hx (j:=5) (k:=3) y rfl rfl rfl rfl rfl rfl rfl (fun hg85=> ?_) ?_
     rotate_left
     ·try (simp at hg85;show _)
      refine x_g y rfl rfl ?_
      refine xM rfl ?_
      refine x_g y rfl rfl ?_
      refine Be ?_
      refine A6 rfl (Se (r:=⟨r33.b,sl66,bad66⟩)) sP rfl aQ ?_
      refine Ac ⟨rfl,⟨_,sP⟩,?_⟩
      refine x_g y rfl rfl ?_
      refine xR (Ae rfl rfl rfl) ?_
      exact Am ⟨rfl,⟨_,sP⟩⟩
     refine xM rfl ?_
     refine' Hx (j:=10) (k:=5) y rfl rfl rfl rfl rfl rfl rfl (fun hg90=> ?_) ?_
     rotate_left
     ·try (simp at hg90;show _)
      refine x_g y rfl rfl ?_
      refine xM rfl ?_
      refine x_g y rfl rfl ?_
      refine xM rfl ?_
      refine x_g y rfl rfl ?_
      refine xR (Ae rfl rfl rfl) ?_
      refine x_g y rfl rfl ?_
      refine xR (Ae rfl rfl rfl) ?_
      refine x_g y rfl rfl ?_
      refine xR (Ae rfl rfl rfl) ?_
      exact Am ⟨rfl,⟨_,sP⟩⟩
     refine Be ?_
     refine Af rfl rfl uD rfl rfl rfl ?_
     refine Ac ⟨rfl,⟨_,sP⟩,?_⟩
     refine xA rfl<|Am<|A4<|xA rfl<|Am<|Bm<|n_K<|An ?_
     exact Av (Kw Tryz.results167 (Bv rfl mM rfl) (Ag rfl) (Ag rfl)) (by have hn:(x43,sl43.list,bad43)=C7 1 sl37.list bad37:=(by rw [hx43,hsl43,hbd43];rfl);have hm:(x46,sl46.list,bad46)=C7 1 sl43.list bad43:=(by rw [hx46,hsl46,hbd46];rfl);have hu:(s50.list,sl50.list,bad50)=C9 (max (w64 (x43.toNat:Int)) 0).toNat sl46.list bad46:=(by rw [hs50,hsl50,hbd50]);have hv:(s66.list,sl66.list,bad66)=C9 (max (w64 (x46.toNat:Int)) 0).toNat sl50.list bad50:=(by rw [hs66,hsl66,hbd66]);have hres:=Uo ha hb h1 hn hm hu hv;refine ⟨u,l,?_,rfl,?_,?_,h2,k2⟩ <;> rw [h0,hres];exact hall;exact hall2) sP
end
section
open Go.K
instance und72:Und Tryz.prog 72 (.pointer 95):=⟨Tryz.underlying72⟩
instance agg72:Agg Tryz.prog 72 false:=⟨⟨_,Tryz.underlying72,rfl⟩⟩
instance fld227_0:Fld Tryz.prog 227 0 0:=⟨⟨_,_,0,Tryz.underlying227,rfl,by kernel_rfl,rfl⟩⟩
instance fld227_1:Fld Tryz.prog 227 1 1:=⟨⟨_,_,1,Tryz.underlying227,rfl,by kernel_rfl,rfl⟩⟩
instance fld227_2:Fld Tryz.prog 227 2 3:=⟨⟨_,_,0,Tryz.underlying227,rfl,by kernel_rfl,rfl⟩⟩
instance fld227_3:Fld Tryz.prog 227 3 4:=⟨⟨_,_,0,Tryz.underlying227,rfl,by kernel_rfl,rfl⟩⟩
instance fld227_4:Fld Tryz.prog 227 4 5:=⟨⟨_,_,0,Tryz.underlying227,rfl,by kernel_rfl,rfl⟩⟩
instance fld227_5:Fld Tryz.prog 227 5 6:=⟨⟨_,_,0,Tryz.underlying227,rfl,by kernel_rfl,rfl⟩⟩
instance flat147:Flat Tryz.prog 147 (Mm 258 ([some .u8])):=⟨by kernel_rfl,by kernel_rfl,⟨_,Tryz.underlying147,rfl⟩⟩
instance ent156:Ent Tryz.prog 156:=⟨fun _ _=>by kernel_rfl⟩
instance ent159:Ent Tryz.prog 159:=⟨fun _ _=>by kernel_rfl⟩
instance ent197:Ent Tryz.prog 197:=⟨fun _ _=>by kernel_rfl⟩
structure Tab where
 b:Nat
 u:Sl Int
 l:Sl Int
 version:Wd
 area:Int
 next:Int
 at':Int
abbrev Hv (a:Nat) (t:Tab):List Value:=[ptr a,t.u.val,t.l.val,wv t.version,.int .i64 t.area,.int .i64 t.next,.int .i64 t.at']
def Tab.ts (t:Tab):TS:=⟨t.u.list,t.l.list,t.version,t.area,t.next,t.at'⟩
section
variable {c:Chip} {a:Nat}
theorem Aoh (ha:c.aC=a) {i j:Int}:Does Tryz.prog 140 [ptr a,.int .i64 i,.int .i64 j] (chH c) (Is (.tuple #[.agg (vbc (B0 c i j)).toArray,.int .i64 (Aww c i j)]) (chH c)):=by subst ha;exact Yi
theorem Mg (ha:c.aC=a) {i j:Int} {d:Pg}:Does Tryz.prog 209 [ptr a,.int .i64 i,.int .i64 j,.agg (vbc d).toArray] (chH c) (Is (.int .i64 (B1 c i j d).1) (chH (B1 c i j d).2)):=by subst ha;exact Adz
theorem Ze (ha:c.aC=a) {i:Int}:Does Tryz.prog 198 [ptr a,.int .i64 i] (chH c) (Is (.int .i64 (B3 c i).1) (chH (B3 c i).2)):=by subst ha;exact Amf
theorem Pe (ha:c.aC=a):Does Tryz.prog 158 [ptr a] (chH c) (Is (.int .i64 c.blocks.length) (chH c)):=by subst ha;exact Fc
theorem Xd (ha:c.aC=a) {i:Int}:Does Tryz.prog 169 [ptr a,.int .i64 i] (chH c) (Is (.bool (I4 c i)) (chH c)):=by subst ha;exact Auf
theorem Awh:Mm 258 [some .u8]=List.replicate 258 (some .u8):=by kernel_rfl
theorem Aoi:∀ (xs ys:List By),xs.length=ys.length→Cd (List.replicate xs.length (some .u8)) (xs.map bv) (ys.map bv)=some (decide (xs=ys))
 | [],[],_=>rfl
 | [],_::_,h=>by simp at h
 | _::_,[],h=>by simp at h
 | x::xs,y::ys,h=>by
  have ih:=Aoi xs ys (by simpa using h)
  simp only [List.length_cons,List.replicate_succ,List.map_cons,Cd,ih,bv,veq]
  by_cases h1:x=y
  ·subst h1
   by_cases h2:xs=ys <;> simp [h2]
  ·have:¬ (x.toNat:Int)=y.toNat:=fun e=>h1 (BitVec.eq_of_toNat_eq (by omega))
   simp [h1,this]
theorem pg_eq (p q:Pg):Cd (Mm 258 [some .u8]) (vbc p) (vbc q)=some (decide (p=q)):=by
 have:=Aoi p.toList q.toList (by simp)
 rw [show p.toList.length=258 by simp] at this
 rw [Awh,vbc,vbc,this]
 congr 1
 exact decide_eq_decide.2 ⟨fun h=>Vector.toList_inj.1 h,fun h=>by rw [h]⟩
theorem Ajh {t:Tab} (ha:c.aC=a) {ar i:Int} {q:Pg}:Does Tryz.prog 156 [ptr t.b,.int .i64 ar,.int .i64 i,.agg (vbc q).toArray] ((t.b,true,C (Hv a t) tTb)::(chH c++[]))
  (Is (.int .i64 (Hh c ar i q)) ((t.b,true,C (Hv a t) tTb)::(chH c++[]))):=by
 refine Ah (n:=29) Tryz.func156 Tryz.ntmps156 rfl (Nat.le_of_ble_eq_true rfl)<|Ad<|Aa fun ops=> ?_
 refine Ec rfl rfl fun b7=> ?_
 refine oA rfl<|Ac<|n_K<|Ad<|Aa fun ops=>oM rfl<|oN rfl<|oF rfl ?_
 refine oR (Al rfl mM rfl) ?_
 refine oM rfl<|oM rfl ?_
 refine A6 rfl (Aoh ha) sP rfl aQ ?_
 refine oM rfl<|oE rfl rfl<|oE rfl rfl ?_
 refine Aw rfl fun b9=> ?_
 rw [Cs]
 first | refine Af rfl rfl uD (Ct) (Ar) (B2 (by first | exact Ar | exact List.length_replicate ..)) ?_ | refine Af rfl rfl uD rfl rfl rfl ?_
 refine oA rfl<|Ac<|n_K<|Ad<|Ad ?_
 refine Bf [(2,23)] rfl fun ops y=> ?_
 refine oM rfl<|oR (Ae rfl rfl rfl)<|oM rfl ?_
 refine' Df (j:=2) (k:=3) y rfl rfl rfl rfl rfl rfl rfl (fun hg23=> ?_) ?_
 rotate_left
 ·try (simp at hg23;show _)
  refine o_g y rfl rfl ?_
  refine oR (Au rfl mM (by first | exact Bg | rfl)) ?_
  refine o_g y rfl rfl ?_
  refine oR (Au rfl mM (by first | exact Bg | rfl)) ?_
  refine o_g y rfl rfl ?_
  refine oR (Alw rfl rfl (pg_eq _ _)) ?_
  exact Ac ⟨rfl,rfl,⟨_,sP⟩⟩
 refine Ac<|n_K ?_
 refine Aj rfl (fun c27=> ?_) (fun c27=> ?_)
 ·skip
  have hres:Hh c ar i q=33:=(by unfold Hh;rw [if_pos (by simp at c27;exact c27)])
  refine Aa fun ops=>oA rfl<|Ac<|n_K<|Ad<|Aa fun ops=>oM rfl<|oA rfl<|Ac<|n_K<|An ?_
  refine Aq (At Tryz.results156 (Ag rfl)) ?_ sP
  rw [hres]
 ·skip
  have hres:Hh c ar i q=Aww c ar i:=(by unfold Hh;rw [if_neg (by simp at c27;rintro ⟨h1,h2⟩;exact h2 (c27 h1))])
  refine Ai<|n_K<|Ad<|Aa fun ops=>oM rfl<|oA rfl<|Ac<|n_K<|An ?_
  refine Aq (At Tryz.results156 (Ag rfl)) ?_ sP
  rw [hres]
theorem Aoj {t:Tab} (ha:c.aC=a) {ar from':Int} {q:Pg} (hf:0≤from'):Does Tryz.prog 197 [ptr t.b,.int .i64 ar,.int .i64 from',.agg (vbc q).toArray] ((t.b,true,C (Hv a t) tTb)::(chH c++[]))
  (Is (.tuple #[.int .i64 (Ge c ar from' q).1,.int .i64 (Ge c ar from' q).2.1]) ((t.b,true,C (Hv a t) tTb)::(chH (Ge c ar from' q).2.2++[]))):=by
 refine Ah (n:=41) Tryz.func197 Tryz.ntmps197 rfl (Nat.le_of_ble_eq_true rfl)<|Ad<|Aa fun ops=> ?_
 refine Ec rfl rfl fun b7=> ?_
 refine oA rfl<|oA rfl<|Ac<|n_K<|Ad<|Ad<|Aa fun ops=>oM rfl<|oA rfl<|Ac<|n_K<|Ak ?_
 refine A8 [0,1,7] kQ (fun (st:Int×Chip)=>[(10,.int .i64 st.1)]) (fun (st:Int×Chip)=>(b7,true,C (vbc q) tPg)::(t.b,true,C (Hv a t) tTb)::(chH st.2++[])) (fun (st:Int×Chip)=>0≤st.1∧st.2.aC=a∧Ge st.2 ar st.1 q=Ge c ar from' q) (fun (st:Int×Chip)=>(8 - st.1).toNat) ((from',c)) ⟨hf,ha,rfl⟩ kP sP ?_
 rintro ⟨i,c1⟩ ⟨h0,h1,h2⟩
 simp only at h0 h1 h2
 refine Ad<|Ad<|Aa fun ops=>oM rfl<|oR (Ae rfl rfl rfl)<|Ac<|n_K ?_
 refine Aj rfl (fun c14=> ?_) (fun c14=> ?_)
 ·simp only [decide_eq_true_eq,decide_eq_false_iff_not] at c14
  refine Ai<|n_K<|Ad<|Ak<|Ad ?_
  refine s_draw [] [(7,[(0,false),(1,false),(2,false),(3,false),(4,false),(5,false),(6,false)]),(8,[(7,true)]),(9,[(8,false)])] (by kernel_rfl) rfl fun ops w0 H0 y=> ?_
  refine A4<|xM rfl<|xN rfl<|xF rfl ?_
  refine xR (Al rfl mM rfl) ?_
  refine xM rfl<|xM rfl ?_
  refine xR (Au rfl mM (by first | exact Bg | rfl)) ?_
  refine Am<|Bh<|Be ?_
  refine A6 rfl (Mg h1) sP rfl aQ ?_
  refine Ac ⟨rfl,⟨_,sP⟩,?_⟩
  refine Am<|A4<|xA rfl<|Am<|Bm<|n_K<|Ad<|Ad<|Aa fun ops=>oM rfl<|oR (Ae rfl rfl rfl)<|Ac<|n_K ?_
  refine Aj rfl (fun c26=> ?_) (fun c26=> ?_)
  ·skip
   have hst:Fk c1 ar i q=Hh (B1 c1 ar i q).2 ar i q:=(by unfold Fk;rw [if_pos (by simpa using c26)])
   refine Aa fun ops=>oM rfl<|oM rfl<|oM rfl ?_
   refine oR (Au rfl mM (by first | exact Bg | rfl)) ?_
   refine A6 rfl (Ajh (t:=t) (c:=(B1 c1 ar i q).2) ((Fh c1 ar i q).trans h1)) sP rfl aQ ?_
   refine oA rfl<|Ac<|n_K<|Ad ?_
   refine Bf [(2,34)] rfl fun ops y=> ?_
   refine oM rfl<|oR (Ae rfl rfl rfl)<|oM rfl ?_
   refine' Df (j:=2) (k:=2) y rfl rfl rfl rfl rfl rfl rfl (fun hg34=> ?_) ?_
   rotate_left
   ·try (simp at hg34;show _)
    refine o_g y rfl rfl ?_
    refine oM rfl ?_
    refine o_g y rfl rfl ?_
    refine oR (Ae rfl rfl rfl) ?_
    exact Ac ⟨rfl,rfl,⟨_,sP⟩⟩
   refine Ac<|n_K ?_
   refine Aj rfl (fun c37=> ?_) (fun c37=> ?_)
   ·skip
    have hres:=Qr c14 (by rw [hst];simpa using c37)
    rw [h2] at hres
    refine Ad<|Aa fun ops=>oM rfl ?_
    refine oR (Ao rfl rfl (by omega)) ?_
    refine oM rfl<|oA rfl<|oA rfl<|Ac<|n_K<|An<|Bn<|r_K<|r_K<|Bn<|r_K ?_
    refine Aq (Bz Tryz.results197 (Ag rfl) (Ag rfl)) ?_ (by rw [hres];exact sP)
    rw [hres,hst]
   ·skip
    have hgo:=Agp c14 (by rw [hst];intro h;simp at c37;exact h.2 (c37 h.1))
    refine Ai<|Az<|n_K<|Aa fun ops=>oM rfl ?_
    refine oR (Ao rfl rfl (by omega)) ?_
    refine oA rfl<|Ac<|n_K ?_
    exact ⟨(i+1,(B1 c1 ar i q).2),⟨by simp only;omega,(Fh c1 ar i q).trans h1,by simp only;rw [← hgo,h2]⟩,(by simp only;omega),lZ⟩
  ·skip
   have hst:Fk c1 ar i q=(B1 c1 ar i q).1:=(by unfold Fk;rw [if_neg (by simpa using c26)])
   refine Ai<|n_K<|Ad ?_
   refine Bf [(2,34)] rfl fun ops y=> ?_
   refine oM rfl<|oR (Ae rfl rfl rfl)<|oM rfl ?_
   refine' Df (j:=2) (k:=2) y rfl rfl rfl rfl rfl rfl rfl (fun hg34=> ?_) ?_
   rotate_left
   ·try (simp at hg34;show _)
    refine o_g y rfl rfl ?_
    refine oM rfl ?_
    refine o_g y rfl rfl ?_
    refine oR (Ae rfl rfl rfl) ?_
    exact Ac ⟨rfl,rfl,⟨_,sP⟩⟩
   refine Ac<|n_K ?_
   refine Aj rfl (fun c37=> ?_) (fun c37=> ?_)
   ·skip
    have hres:=Qr c14 (by rw [hst];simpa using c37)
    rw [h2] at hres
    refine Ad<|Aa fun ops=>oM rfl ?_
    refine oR (Ao rfl rfl (by omega)) ?_
    refine oM rfl<|oA rfl<|oA rfl<|Ac<|n_K<|An<|Bn<|r_K<|r_K<|Bn<|r_K ?_
    refine Aq (Bz Tryz.results197 (Ag rfl) (Ag rfl)) ?_ (by rw [hres];exact sP)
    rw [hres,hst]
   ·skip
    have hgo:=Agp c14 (by rw [hst];intro h;simp at c37;exact h.2 (c37 h.1))
    refine Ai<|Az<|n_K<|Aa fun ops=>oM rfl ?_
    refine oR (Ao rfl rfl (by omega)) ?_
    refine oA rfl<|Ac<|n_K ?_
    exact ⟨(i+1,(B1 c1 ar i q).2),⟨by simp only;omega,(Fh c1 ar i q).trans h1,by simp only;rw [← hgo,h2]⟩,(by simp only;omega),lZ⟩
 ·simp only [decide_eq_true_eq,decide_eq_false_iff_not] at c14
  refine Bb<|x_K<|x_K<|Bj<|n_K<|Ad<|Aa fun ops=>oA rfl<|oA rfl<|Ac<|n_K<|An ?_
  refine Aq (Bz Tryz.results197 (Ag rfl) (Ag rfl)) ?_ (by rw [← h2,Uq c14];exact sP)
  rw [← h2,Uq c14]
theorem Pf {P:Program} {E:Env} {H:Hp} {t u:TypeId} {x y:Operand} {v:Wd} (hx:ev E x=some (wv v)) (hy:ev E y=some (.int .u64 1)):Rd P E H (.binOp .add t x y u) (wv (v+1)):=by
 have:=Ae (P:=P) (H:=H) (op:= .add) (t:=t) (u:=u) hx hy rfl
 have e:IntKind.u64.wrap ((v.toNat:Int)+1)=((v+1).toNat:Int):=by
  rw [Ex .u64 rfl]
  show ((BitVec.ofInt 64 ((v.toNat:Int)+1)).toNat:Int)=_
  rw [show ((v.toNat:Int)+1)=((v.toNat+1:Nat):Int) by push_cast;rfl,BitVec.ofInt_natCast,BitVec.toNat_ofNat,BitVec.toNat_add]
  rfl
 rw [e] at this
 exact this
theorem Asg {t:Tab} {u l:Sl Int} (ha:c.aC=a) (hu:u.list.length≤1000) (hl:l.list.length≤1000) (hn:0≤t.next) (har:0≤t.area∧t.area≤1) :
  Does Tryz.prog 159 [ptr t.b,.agg #[u.val,l.val]] ((t.b,true,C (Hv a t) tTb)::(u.hp tI++(l.hp tI++(chH c++[]))))
   (fun v H=>∃ t':Tab,t'.b=t.b∧v= .int .i64 (B6 t.ts u.list l.list c).1∧H=(t'.b,true,C (Hv a t') tTb)::(u.hp tI++(l.hp tI++(chH (B6 t.ts u.list l.list c).2.2++[])))∧t'.ts=(B6 t.ts u.list l.list c).2.1 ∧
    ((B6 t.ts u.list l.list c).1=0→t'.u=u∧t'.l=l)∧((B6 t.ts u.list l.list c).1≠0→t'=t)):=by
 refine Ah (n:=98) Tryz.func159 Tryz.ntmps159 rfl (Nat.le_of_ble_eq_true rfl)<|Ad<|Aa fun ops=> ?_
 refine De rfl rfl fun b3=> ?_
 refine oA rfl<|Ac<|n_K<|Ad ?_
 refine N7 [] [(13,(.fork [(0,false),(1,false),(2,false),(3,false),(4,false),(5,false),(6,false),(7,false),(8,false),(9,false)] 10 (.fork [] 11 (.one [(12,true)]) 12 (.one [(11,true)])) 12 (.one [(10,true),(11,true)]))),(14,(.one [(13,true)]))] (by kernel_rfl) rfl fun ops w0 H0 y=> ?_
 refine Le ?_
 refine Lf ?_ rfl
 refine xR (Au rfl mM rfl) ?_
 refine xM rfl<|xN rfl<|xF rfl ?_
 refine xR (Al rfl mM rfl) ?_
 refine xR (Pf rfl rfl)<|xM rfl<|xN rfl<|xF rfl ?_
 refine xR (Al rfl mM rfl) ?_
 refine Am ⟨⟨_,sP⟩,?_,?_⟩
 refine Be ?_
 refine A6 rfl (Pe ha) sP rfl aQ ?_
 refine Ac ⟨rfl,⟨_,sP⟩,?_⟩
 refine Am ?_
 refine Lf ?_ rfl
 refine Am ⟨⟨_,sP⟩,?_,?_⟩
 refine Be ?_
 refine A6 rfl (Zd (v:=t.version+1) (n:=c.blocks.length) hu hl) sP rfl aQ ?_
 refine Ac ⟨rfl,⟨_,sP⟩,?_⟩
 refine Am ?_
 refine G1 ?_
 refine Be ?_
 refine Aw rfl fun b5=> ?_
 rw [Cs]
 refine Ac ⟨rfl,⟨_,sP⟩,?_⟩
 refine Am ?_
 rotate_left
 refine Be ?_
 refine Aw rfl fun b5=> ?_
 rw [Cs]
 refine Ac ⟨rfl,⟨_,sP⟩,?_⟩
 refine Am ?_
 refine G1 ?_
 refine Be ?_
 refine A6 rfl (Zd (v:=t.version+1) (n:=c.blocks.length) hu hl) sP rfl aQ ?_
 refine Ac ⟨rfl,⟨_,sP⟩,?_⟩
 refine Am ?_
 rotate_left
 refine Be ?_
 refine Aw rfl fun b5=> ?_
 rw [Cs]
 refine Ac ⟨rfl,⟨_,sP⟩,?_⟩
 refine Am ?_
 refine G1 ?_
 refine Be ?_
 refine A6 rfl (Pe ha) sP rfl aQ ?_
 refine Ac ⟨rfl,⟨_,sP⟩,?_⟩
 refine Be ?_
 refine A6 rfl (Zd (v:=t.version+1) (n:=c.blocks.length) hu hl) sP rfl aQ ?_
 refine Ac ⟨rfl,⟨_,sP⟩,?_⟩
 refine Am ?_
 rotate_left
 all_goals
  refine Afa ?_
  refine G1 ?_
  refine Be ?_
  first | refine Af rfl rfl uD (Ct) (Ar) (B2 (by first | exact Ar | exact List.length_replicate ..)) ?_ | refine Af rfl rfl uD rfl rfl rfl ?_
  refine Ac ⟨rfl,⟨_,sP⟩,?_⟩
  refine Am ?_
  refine S5 ?_
  refine n_K<|Ad<|Aa fun ops=>oM rfl<|oN rfl<|oF rfl ?_
  refine oR (Al rfl mM rfl) ?_
  refine oA rfl<|Ac<|n_K<|Ad ?_
  refine s_draw [] [(7,[(0,false),(1,false),(2,false),(3,false),(4,false),(5,false),(6,false)]),(8,[(7,true)]),(13,[(8,false),(9,false),(10,false),(11,false),(12,false)])] (by kernel_rfl) rfl fun ops w0 H0 y=> ?_
  refine A4<|xM rfl<|xM rfl<|xM rfl<|xN rfl<|xF rfl ?_
  refine xR (Al rfl mM rfl) ?_
  refine xR (Au rfl mM (by first | exact Bg | rfl)) ?_
  refine Am<|Bh<|Be ?_
  refine A6 rfl (Aoj (t:=t) ha hn) sP rfl aQ ?_
  refine Ac ⟨rfl,⟨_,sP⟩,?_⟩
  refine Am<|A4<|xM rfl<|xE rfl rfl<|xE rfl rfl<|xA rfl<|xA rfl<|Am<|Bm<|n_K<|Ad<|Ad<|Aa fun ops=>oA rfl ?_
  refine Ac<|n_K<|Ak ?_
  obtain ⟨q,hq⟩:∃ q,q=Ea (t.version+1) c.blocks.length u.list l.list:=⟨_,rfl⟩
  rw [← hq]
  refine A8 [0,3,5] kQ (fun (st:Nat×KS)=>[(9,.int .i64 st.1),(6,.int .i64 st.2.area),(7,.int .i64 st.2.next),(8,.int .i64 st.2.e)]) (fun (st:Nat×KS)=>(b5,true,C (vbc q) tPg)::(b3,true,C [u.val,l.val] tPl)::(t.b,true,C (Hv a t) tTb)::(u.hp tI++(l.hp tI++(chH st.2.c++[])))) (fun (st:Nat×KS)=>st.1≤4∧st.2.c.aC=a∧(0≤st.2.next∧st.2.next≤8)∧Di (4 - st.1) t.area q st.2=Fl t.ts u.list l.list c) (fun (st:Nat×KS)=>4 - st.1) ((0,⟨t.area,(Ge c t.area t.next q).1,(Ge c t.area t.next q).2.1,(Ge c t.area t.next q).2.2⟩)) ⟨Nat.zero_le _,(Za _ _ _ _).trans ha,Zb _ _ _ _ hn,by rw [hq];rfl⟩ kP sP ?_
  rintro ⟨k,s⟩ ⟨h0,h1,h2,h3⟩
  simp only at h0 h1 h2 h3
  refine Ad<|Ad ?_
  refine Bf [(2,40)] rfl fun ops y=> ?_
  refine oM rfl<|oR (Ae rfl rfl rfl)<|oM rfl ?_
  refine' Df (j:=2) (k:=2) y rfl rfl rfl rfl rfl rfl rfl (fun hg40=> ?_) ?_
  rotate_left
  ·try (simp at hg40;show _)
   refine o_g y rfl rfl ?_
   refine oM rfl ?_
   refine o_g y rfl rfl ?_
   refine oR (Ae rfl rfl rfl) ?_
   exact Ac ⟨rfl,rfl,⟨_,sP⟩⟩
  refine Ac<|n_K ?_
  refine Aj rfl (fun c43=> ?_) (fun c43=> ?_)
  ·skip
   have hk:k<4:=(by simp at c43;omega)
   have he:s.e=34:=(by simp at c43;exact c43.2)
   rw [show 4 - k=(4 - (k+1))+1 by omega,Di,if_pos he] at h3
   refine Ai<|n_K<|Ad<|Ak<|Ad<|Aa fun ops=>oM rfl<|oN rfl<|oF rfl ?_
   refine oR (Al rfl mM rfl) ?_
   refine oR (Cy rfl rfl (by omega)) ?_
   refine oA rfl<|Ac<|n_K<|Ad<|Aa fun ops=>oM rfl<|oN rfl<|oF rfl ?_
   refine oR (Al rfl mM rfl) ?_
   refine oM rfl ?_
   refine A6 rfl (Ze h1) sP rfl aQ ?_
   refine oA rfl<|Ac<|n_K<|Ad<|Aa fun ops=>oM rfl<|Ac<|n_K<|Ak<|Ad<|Aa fun ops=>oR (Ae rfl rfl rfl)<|oA rfl<|Ac ?_
   refine n_K ?_
   refine Aj rfl (fun c59=> ?_) (fun c59=> ?_)
   ·skip
    have hf:(B3 s.c (1 - t.area)).1=0:=(by simpa using c59)
    have hk1:Gw t.area q s=⟨1 - t.area,(Ge (B3 s.c (1 - t.area)).2 (1 - t.area) 0 q).1,(Ge (B3 s.c (1 - t.area)).2 (1 - t.area) 0 q).2.1,(Ge (B3 s.c (1 - t.area)).2 (1 - t.area) 0 q).2.2⟩:=(by unfold Gw;simp only [];rw [if_pos hf])
    refine Aa fun ops=>oM rfl<|oM rfl ?_
    refine oR (Au rfl mM (by first | exact Bg | rfl)) ?_
    refine A6 rfl (Aoj (t:=t) (c:=(B3 s.c (1 - t.area)).2) ((Hn _ _).trans h1) (Int.le_refl 0)) sP rfl aQ ?_
    refine oM rfl<|oE rfl rfl<|oE rfl rfl<|oA rfl<|oA rfl<|Ac<|Az<|Az<|n_K<|Aa fun ops=>oM rfl ?_
    refine oR (Ao rfl rfl (by omega)) ?_
    refine oA rfl<|Ac<|n_K ?_
    exact ⟨(k+1,Gw t.area q s),⟨by simp only;omega,by simp only;rw [Pc];exact h1,by simp only;exact Pd h2,h3⟩,(by simp only;omega),(by rw [hk1];exact kP),kP,_,(by rw [hk1];exact sP)⟩
   ·skip
    have hf:¬ (B3 s.c (1 - t.area)).1=0:=(by simpa using c59)
    refine Ad<|Aa fun ops=>oR (Ae rfl rfl rfl)<|oA rfl<|Ac<|n_K ?_
    refine Aj rfl (fun c68=> ?_) (fun c68=> ?_)
    ·skip
     have hf3:(B3 s.c (1 - t.area)).1=33:=(by simpa using c68)
     have hk1:Gw t.area q s=⟨1 - t.area,s.next,s.e,(B3 s.c (1 - t.area)).2⟩:=(by unfold Gw;simp only [];rw [if_neg hf,if_pos hf3])
     refine Ai<|Az<|Az<|n_K<|Aa fun ops=>oM rfl ?_
     refine oR (Ao rfl rfl (by omega)) ?_
     refine oA rfl<|Ac<|n_K ?_
     exact ⟨(k+1,Gw t.area q s),⟨by simp only;omega,by simp only;rw [Pc];exact h1,by simp only;exact Pd h2,h3⟩,(by simp only;omega),(by rw [hk1];exact kP),kP,_,(by rw [hk1];exact sP)⟩
    ·skip
     have hf3:¬ (B3 s.c (1 - t.area)).1=33:=(by simpa using c68)
     have hk1:Gw t.area q s=⟨1 - t.area,s.next,(B3 s.c (1 - t.area)).1,(B3 s.c (1 - t.area)).2⟩:=(by unfold Gw;simp only [];rw [if_neg hf,if_neg hf3])
     refine Aa fun ops=>oM rfl<|oA rfl<|Ac<|Az<|Az<|n_K<|Aa fun ops=>oM rfl ?_
     refine oR (Ao rfl rfl (by omega)) ?_
     refine oA rfl<|Ac<|n_K ?_
     exact ⟨(k+1,Gw t.area q s),⟨by simp only;omega,by simp only;rw [Pc];exact h1,by simp only;exact Pd h2,h3⟩,(by simp only;omega),(by rw [hk1];exact kP),kP,_,(by rw [hk1];exact sP)⟩
  ·skip
   have hend:Fl t.ts u.list l.list c=s:=(by rw [← h3];rcases Nat.lt_or_ge k 4 with hk | hk;(rw [show 4 - k=(4 - (k+1))+1 by omega,Di,if_neg (by intro e;simp [hk,e] at c43;omega)]);(rw [show 4 - k=0 by omega,Di]))
   refine Bb<|x_K<|x_K<|Bj<|n_K<|Ad<|Ad<|Aa fun ops=>oM rfl<|oR (Ae rfl rfl rfl)<|Ac<|n_K ?_
   refine Aj rfl (fun c71=> ?_) (fun c71=> ?_)
   ·skip
    have hres:B6 t.ts u.list l.list c=(s.e,t.ts,s.c):=(by unfold B6;simp only [];rw [hend,if_pos (by simpa using c71)])
    refine Ad<|Aa fun ops=>oM rfl<|oA rfl<|Ac<|n_K<|An<|r_K ?_
    exact Av (At Tryz.results159 (Ag rfl)) (by refine ⟨t,rfl,?_,rfl,?_,?_,?_⟩ <;> rw [hres];(intro h;simp at h;simp [h] at c71);(intro _;rfl)) (by rw [hres];exact sP)
   ·skip
    have hz:s.e=0:=(by simpa using c71)
    have hres:B6 t.ts u.list l.list c=(0,⟨u.list,l.list,t.version+1,s.area,s.next,s.next - 1⟩,s.c):=(by unfold B6;simp only [];rw [hend,if_neg (by rw [hz];simp)];rfl)
    refine Ai<|n_K<|Ad ?_
    refine He [] [0,1,2,3,4,6,7,8,11,12,13,14] [[(5,false),(9,false),(10,false),(15,false),(16,false),(17,true)],[(18,false)],[(19,false)],[(20,true)],[(21,false)],[(22,false)],[(23,true)],[(24,false)],[(25,false)],[(26,true)],[(27,false)],[(28,false)],[(29,true)]] (by kernel_rfl) rfl rfl fun ops w0 H0 y=> ?_
    unfold Tg
    refine xM rfl<|xM rfl<|xM rfl<|xM rfl<|xM rfl<|xM rfl<|xN rfl<|xF rfl<|xM rfl<|xM rfl<|xM rfl ?_
    refine xR (show Rd _ _ _ _ (.int .i64 (s.next - 1)) from Cy rfl rfl (by omega)) ?_
    refine Am ?_
    refine Avv ([(b3,true,C [u.val,l.val] tPl)]) ([(t.b,3,wv t.version)]) sP (Ti (r:=true) mM rfl Vv) ?_
    refine Afe (Au rfl mM rfl) rfl ?_
    refine Avw rfl mM rfl ?_
    refine Afe (Pf rfl rfl) rfl ?_
    refine Afe (Adf rfl) rfl ?_
    refine Afe (Tp rfl) rfl ?_
    refine Avx ?_
    refine Af rfl rfl uD rfl rfl rfl ?_
    refine Ac ⟨rfl,⟨_,sP⟩,(Ti (r:=true) mM rfl Vv),?_⟩
    refine At7 ?_
    refine A4<|xN rfl<|Am<|A4<|xF rfl<|Am<|Bh<|Be ?_
    refine Af rfl rfl uD rfl rfl rfl ?_
    refine Ac ⟨rfl,⟨_,sP⟩,?_⟩
    refine Am<|A4<|xN rfl<|Am<|A4<|xF rfl<|Am<|Bh<|Be ?_
    refine Af rfl rfl uD rfl rfl rfl ?_
    refine Ac ⟨rfl,⟨_,sP⟩,?_⟩
    refine Am<|A4<|xN rfl<|Am<|A4<|xF rfl<|Am<|Bh<|Be ?_
    refine Af rfl rfl uD rfl rfl rfl ?_
    refine Ac ⟨rfl,⟨_,sP⟩,?_⟩
    refine Am<|A4<|xN rfl<|Am<|A4<|xF rfl<|Am<|Bh<|Be ?_
    refine Af rfl rfl uD rfl rfl rfl ?_
    refine Ac ⟨rfl,⟨_,sP⟩,?_⟩
    refine Am<|Bm<|n_K<|Ad<|Aa fun ops=>oA rfl<|Ac<|n_K<|An ?_
    exact Av (At Tryz.results159 (Ag rfl)) (by refine ⟨⟨t.b,u,l,t.version+1,s.area,s.next,s.next - 1⟩,rfl,?_,rfl,?_,?_,?_⟩ <;> rw [hres];(rfl);(intro _;exact ⟨rfl,rfl⟩);(intro h;exact absurd rfl h)) (by rw [hres];exact sP)
@[irreducible] def Dk (a:Nat) (t:Tab):Hp:=(t.b,true,C (Hv a t) tTb)::(t.u.hp tI++(t.l.hp tI++[]))
theorem Ej (a:Nat) (t:Tab):Dk a t=(t.b,true,C (Hv a t) tTb)::(t.u.hp tI++(t.l.hp tI++[])):=by unfold Dk;rfl
theorem Ph {t:Tab} {u l:Sl Int} (ha:c.aC=a) (hu:u.list.length≤1000) (hl:l.list.length≤1000) (hn:0≤t.next) (har:0≤t.area∧t.area≤1) :
  Does Tryz.prog 159 [ptr t.b,.agg #[u.val,l.val]] ((t.b,true,C (Hv a t) tTb)::(u.hp tI++(l.hp tI++(chH c++[]))))
   (fun v H=>(∃ t':Tab,t'.b=t.b∧t'.u=u∧t'.l=l∧v= .int .i64 0∧H=(t'.b,true,C (Hv a t') tTb)::(u.hp tI++(l.hp tI++(chH (B6 t.ts u.list l.list c).2.2++[])))∧(B6 t.ts u.list l.list c).1=0∧t'.ts=(B6 t.ts u.list l.list c).2.1) ∨
    (∃ e,v= .int .i64 e∧e≠0∧H=(t.b,true,C (Hv a t) tTb)::(u.hp tI++(l.hp tI++(chH (B6 t.ts u.list l.list c).2.2++[])))∧(B6 t.ts u.list l.list c).1=e∧t.ts=(B6 t.ts u.list l.list c).2.1)):=by
 refine (Asg ha hu hl hn har).mono fun v H ⟨t',h1,h2,h3,h4,h5,h6⟩=> ?_
 by_cases h:(B6 t.ts u.list l.list c).1=0
 ·exact .inl ⟨t',h1,(h5 h).1,(h5 h).2,by rw [h2,h],h3,h,h4⟩
 ·have:=h6 h
  subst this
  exact .inr ⟨_,h2,h,h3,rfl,h4⟩
end
end
end Go.Proofs.YtpmojdippdlcaaaGreatDoor
