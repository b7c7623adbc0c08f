/- For every input, the program's store tells the view with the greatest number of those that were noted (lemmas of the proof); the conditions are the statement's own: part 5. -/
import Derived.Test.YtpmojdippdlcaaaGreatDoorJ3
import Derived.Test.YtpmojdippdlcaaaGreatDoorJ4
import Derived.Test.YtpmojdippdlcaaaGreatDoorJ1
import Derived.Shelf.SortM.Plain
import Derived.Shelf.SortM.SortNone
import Derived.Ground.SlgmProg
import Derived.Shelf.Slices.CompactI
import Derived.Ground.Names2Prog
set_option linter.unusedVariables false
set_option linter.unusedSimpArgs false
set_option maxRecDepth 100000
set_option maxHeartbeats 1000000
namespace Go.Proofs.YtpmojdippdlcaaaGreatDoor
section
open Go.K Go.Shelf
def Ai7:Go.Shelf.Ren:=⟨fun | 5=>88 | 8=>134 | 7=>133 | 19=>181 | 20=>182 | 10=>172 | 11=>173 | 12=>174 | 13=>175 | 14=>176 | 15=>177 | 16=>178 | 17=>179 | 18=>180 | 30=>210 | 31=>211 | 32=>212 | 33=>213 | 34=>214 | 35=>215 | 40=>234 | n=>n,fun | 23=>85 | 25=>3 | 3=>3 | 32=>151 | 22=>85 | 0=>0 | 44=>55 | 46=>29 | 4=>4 | 36=>247 | 35=>246 | 41=>252 | 5=>5 | 9=>9 | 53=>285 | 57=>288 | 63=>301 | 64=>260 | n=>n,fun | n=>n⟩
theorem Anz:Go.Proofs.SlLaysM.n5 Tryz.prog Ai7:={
 mixed:=by kernel_rfl
 f5:=⟨Tryz.f88.name,by decide,Tryz.func88.trans (A20 some (by kernel_rfl))⟩
 f7:=⟨Tryz.f133.name,by decide,Tryz.func133.trans (A20 some (by kernel_rfl))⟩
 f8:=Tryz.func134.trans (A20 some (by kernel_rfl))
 f10:=⟨Tryz.f172.name,by decide,Tryz.func172.trans (A20 some (by kernel_rfl))⟩
 f11:=⟨Tryz.f173.name,by decide,Tryz.func173.trans (A20 some (by kernel_rfl))⟩
 f12:=⟨Tryz.f174.name,by decide,Tryz.func174.trans (A20 some (by kernel_rfl))⟩
 f13:=⟨Tryz.f175.name,by decide,Tryz.func175.trans (A20 some (by kernel_rfl))⟩
 f14:=⟨Tryz.f176.name,by decide,Tryz.func176.trans (A20 some (by kernel_rfl))⟩
 f15:=⟨Tryz.f177.name,by decide,Tryz.func177.trans (A20 some (by kernel_rfl))⟩
 f16:=⟨Tryz.f178.name,by decide,Tryz.func178.trans (A20 some (by kernel_rfl))⟩
 f17:=⟨Tryz.f179.name,by decide,Tryz.func179.trans (A20 some (by kernel_rfl))⟩
 f18:=⟨Tryz.f180.name,by decide,Tryz.func180.trans (A20 some (by kernel_rfl))⟩
 f19:=Tryz.func181.trans (A20 some (by kernel_rfl))
 f20:=Tryz.func182.trans (A20 some (by kernel_rfl))
 f30:=⟨Tryz.f210.name,by decide,Tryz.func210.trans (A20 some (by kernel_rfl))⟩
 f31:=Tryz.func211.trans (A20 some (by kernel_rfl))
 f32:=Tryz.func212.trans (A20 some (by kernel_rfl))
 f33:=⟨Tryz.f213.name,by decide,Tryz.func213.trans (A20 some (by kernel_rfl))⟩
 f34:=⟨Tryz.f214.name,by decide,Tryz.func214.trans (A20 some (by kernel_rfl))⟩
 f35:=⟨Tryz.f215.name,by decide,Tryz.func215.trans (A20 some (by kernel_rfl))⟩
 f40:=⟨Tryz.f234.name,by decide,Tryz.func234.trans (A20 some (by kernel_rfl))⟩
 t0:=Tryz.underlying0
 a0:=Tryz.isAgg0
 z0:=Tryz.sizeOf0
 v0:=Tryz.zeroValue0
 t3:=Tryz.underlying3
 a3:=Tryz.isAgg3
 z3:=Tryz.sizeOf3
 v3:=Tryz.zeroValue3
 t4:=Tryz.underlying4
 a4:=Tryz.isAgg4
 z4:=Tryz.sizeOf4
 v4:=Tryz.zeroValue4
 t5:=Tryz.underlying5
 a5:=Tryz.isAgg5
 z5:=Tryz.sizeOf5
 v5:=Tryz.zeroValue5
 t9:=Tryz.underlying9
 a9:=Tryz.isAgg9
 z9:=Tryz.sizeOf9
 v9:=Tryz.zeroValue9
 t22:=Tryz.underlying85
 a22:=Tryz.isAgg85
 z22:=Tryz.sizeOf85
 v22:=Tryz.zeroValue85
 t23:=Tryz.underlying85
 a23:=Tryz.isAgg85
 z23:=Tryz.sizeOf85
 v23:=Tryz.zeroValue85
 t25:=Tryz.underlying3
 a25:=Tryz.isAgg3
 z25:=Tryz.sizeOf3
 v25:=Tryz.zeroValue3
 t32:=Tryz.underlying151
 a32:=Tryz.isAgg151
 z32:=Tryz.sizeOf151
 v32:=Tryz.zeroValue151
 t35:=Tryz.underlying246
 a35:=Tryz.isAgg246
 z35:=Tryz.sizeOf246
 v35:=Tryz.zeroValue246
 t36:=Tryz.underlying247
 a36:=Tryz.isAgg247
 z36:=Tryz.sizeOf247
 v36:=Tryz.zeroValue247
 t41:=Tryz.underlying252
 a41:=Tryz.isAgg252
 z41:=Tryz.sizeOf252
 v41:=Tryz.zeroValue252
 t44:=Tryz.underlying55
 a44:=Tryz.isAgg55
 z44:=Tryz.sizeOf55
 v44:=Tryz.zeroValue55
 t46:=Tryz.underlying29
 a46:=Tryz.isAgg29
 z46:=Tryz.sizeOf29
 v46:=Tryz.zeroValue29
 t53:=Tryz.underlying285
 a53:=Tryz.isAgg285
 z53:=Tryz.sizeOf285
 v53:=Tryz.zeroValue285
 t57:=Tryz.underlying288
 a57:=Tryz.isAgg288
 z57:=Tryz.sizeOf288
 v57:=Tryz.zeroValue288
 t63:=Tryz.underlying301
 a63:=Tryz.isAgg301
 z63:=Tryz.sizeOf301
 v63:=Tryz.zeroValue301
 t64:=Tryz.underlying260
 a64:=Tryz.isAgg260
 z64:=Tryz.sizeOf260
 v64:=Tryz.zeroValue260 }
theorem Gk (xs:List Int):cells xs=xs.map (Value.int .i64):=by
 induction xs with
 | nil=>rfl
 | cons z zs ih=>simp only [cells,A0m,A15] at *;rw [ih];rfl
def Dz (xs:List Int):List Int:=xs.mergeSort fun x y=>decide (x≤y)
theorem sortL_nil:Dz []=[]:=by unfold Dz;simp
theorem B5 (xs:List Int):(Dz xs).Perm xs:=List.mergeSort_perm _ _
theorem Ul {s:Sl Int} (ho:s.isOwn=true) (hl:s.list.length≤100000):Does Tryz.prog 88 [s.val] (s.hp tI++[])
  (fun v H=>v= .tuple #[]∧∃ s':Sl Int,H=s'.hp tI++[]∧s'.val=s.val∧s'.isOwn=true∧s'.list=Dz s.list):=by
 intro w hw
 cases s with
 | nil =>
  rw [Sl.hp_nil] at hw ⊢
  have h:=AnyM.slices_Sort_int_none Anz none 0 w
  refine A2x h ?_
  rintro e w' ⟨rfl,rfl⟩
  exact ⟨_,[],rfl,⟨rfl,.nil,by rw [Sl.hp_nil];rfl,rfl,rfl,sortL_nil.symm⟩,Trk.refl hw⟩
 | emp a =>
  have e0:(Sl.emp a:Sl Int).hp tI=[]:=by unfold Sl.hp;rfl
  rw [e0] at hw ⊢
  have h:=AnyM.slices_Sort_int_none Anz (some a) 0 w
  refine A2x h ?_
  rintro e w' ⟨rfl,rfl⟩
  exact ⟨_,[],rfl,⟨rfl,.emp a,by rw [e0];rfl,rfl,rfl,sortL_nil.symm⟩,Trk.refl hw⟩
 | vac a c=>cases ho
 | view=>cases ho
 | own b xs cap sp h0 =>
  rw [Sl.hp_own,A1j] at hw
  rw [Sl.hp_own]
  have hb:=hw.here _ (Azx)
  simp only at hb
  have hlt:=hw.lt (x:=(b,true,C (cells xs++sp) tI)) Azx
  have hH:Sort.Holds (Value.int .i64) w b 0 xs.toArray:=fun j hj=>by
   have hj':j<xs.length:=by simpa using hj
   refine ⟨?_,Lk hb _ _⟩
   rw [A2g,M7 hb,Ee,Ayo (by rw [Gk,A1a];exact hj'),Gk,A0f,Ayw hj',getElem!_pos xs.toArray j hj]
   rfl
  have h:=AnyM.slices_Sort_int Anz b 0 cap xs w hH hlt (by show xs.length<_;have:xs.length≤100000:=hl;omega)
  refine A2x h ?_
  rintro e w' ⟨rfl,n,os,rfl⟩
  have hlen:(Dz xs).length=xs.length:=(B5 xs).length_eq
  refine ⟨_,[(b,true,C (cells (Dz xs)++sp) tI)],rfl,⟨rfl,.own b (Dz xs) cap sp ⟨by rw [hlen];exact h0.1,by rw [hlen];exact h0.2.1,by rw [hlen];exact h0.2.2⟩,by rw [Sl.hp_own];rfl,?_,rfl,rfl⟩,?_⟩
  ·show Value.slice (some ⟨b,0,none⟩) (Dz xs).length cap=Value.slice (some ⟨b,0,none⟩) xs.length cap
   rw [hlen]
  ·exact Aat hw hlen
end
section
open Go.K
instance ent90:Ent Tryz.prog 90:=⟨fun _ _=>by kernel_rfl⟩
instance ent91:Ent Tryz.prog 91:=⟨fun _ _=>by kernel_rfl⟩
instance ent94:Ent Tryz.prog 94:=⟨fun _ _=>by kernel_rfl⟩
instance ent135:Ent Tryz.prog 135:=⟨fun _ _=>by kernel_rfl⟩
theorem Pa (xs:List Int):(Dz xs).Pairwise (·≤·):=by
 have:=List.pairwise_mergeSort (le:=fun x y:Int=>decide (x≤y)) (fun a b c h1 h2=>by simp at *;omega) (fun a b=>by simp;omega) xs
 exact this.imp (fun h=>by simpa using h)
theorem Rm {xs ys:List Int} (h:xs.Perm ys):Dz xs=Dz ys :=
 List.Perm.eq_of_pairwise (le:=(·≤·)) (fun a b _ _ h1 h2=>by omega) (Pa xs) (Pa ys) (((B5 xs).trans h).trans (B5 ys).symm)
theorem Auu {bm:Nat}:Does Tryz.prog 91 [.map (some bm)] [] (fun v H=>∃ bp:Nat,v= .func (.func 136) #[] #[ptr bp]∧H=(bp,true,C [.map (some bm)] tMI)::[]):=by
 refine Ah (n:=4) Tryz.func91 Tryz.ntmps91 rfl (Ay9 rfl)<|Ad<|Aa fun ops=> ?_
 refine De rfl rfl fun b1=> ?_
 refine oA rfl<|Ac<|n_K<|Ad<|Aa fun ops=>oR (Oh rfl)<|oA rfl<|Ac<|n_K<|An ?_
 exact Av (At Tryz.results91 (Ag rfl)) (by exact ⟨b1,rfl,rfl⟩) sP
theorem Ary {bp bm:Nat} {m:Mp Int} (hm:m.es.length≤1000):Does Tryz.prog 135 [.func (.func 136) #[] #[ptr bp]] ((bp,true,C [.map (some bm)] tMI)::(bm,true,m.obj .i64)::[])
  (fun v H=>∃ s:Sl Int,v=s.val∧H=s.hp tI++((bp,true,C [.map (some bm)] tMI)::(bm,true,m.obj .i64)::[])∧s.isOwn=true∧s.list.Perm m.keys):=by
 refine Ah (n:=5) Tryz.func135 Tryz.ntmps135 rfl (Ay9 rfl)<|Ad<|Aa fun ops=>oA rfl<|Ac<|n_K<|Ad<|Aa fun ops=>oM rfl ?_
 refine Bd rfl (Arw hm) sP rfl fun v4 Y4 h4=> ?_
 obtain ⟨s4,rfl,rfl,ho4,hp4⟩:=h4
 refine Ay aQ ?_
 refine oA rfl<|Ac<|n_K<|An ?_
 exact Av (At Tryz.results135 (Ag rfl)) (by exact ⟨s4,rfl,rfl,ho4,hp4⟩) sP
theorem Arz {bp bm:Nat} {m:Mp Int} (hm:m.es.length≤1000):Does Tryz.prog 90 [.func (.func 136) #[] #[ptr bp]] ((bp,true,C [.map (some bm)] tMI)::(bm,true,m.obj .i64)::[])
  (fun v H=>∃ s:Sl Int,v=s.val∧H=s.hp tI++((bp,true,C [.map (some bm)] tMI)::(bm,true,m.obj .i64)::[])∧s.isOwn=true∧s.list=Dz m.keys):=by
 refine Ah (n:=9) Tryz.func90 Tryz.ntmps90 rfl (Ay9 rfl)<|Ad<|Aa fun ops=>oA rfl<|Ac<|n_K<|Ad<|Aa fun ops=>oM rfl ?_
 refine Bd rfl (Ary hm) sP rfl fun v5 Y5 h5=> ?_
 obtain ⟨s5,rfl,rfl,ho5,hp5⟩:=h5
 refine Ay aQ ?_
 refine oA rfl<|Ac<|n_K<|Ad<|Aa fun ops=>oM rfl ?_
 refine Bd rfl (Ul (s:=s5) ho5 (by rw [hp5.length_eq,Mp.keys_len];omega)) sP rfl fun v7 Y7 h7=> ?_
 obtain ⟨rfl,s7,rfl,hv7,ho7,hl7⟩:=h7
 refine Ay aQ ?_
 refine Ac<|n_K<|Ad<|Aa fun ops=>oM rfl<|oA rfl<|Ac<|n_K<|An ?_
 exact Av (At Tryz.results90 (Ag rfl)) (by exact ⟨s7,hv7.symm,rfl,ho7,by rw [hl7];exact Rm hp5⟩) sP
theorem Auv {bm:Nat}:Does Tryz.prog 94 [.map (some bm)] [] (fun v H=>∃ bp:Nat,v= .func (.func 137) #[] #[ptr bp]∧H=(bp,true,C [.map (some bm)] tMJ)::[]):=by
 refine Ah (n:=4) Tryz.func94 Tryz.ntmps94 rfl (Ay9 rfl)<|Ad<|Aa fun ops=> ?_
 refine De rfl rfl fun b1=> ?_
 refine oA rfl<|Ac<|n_K<|Ad<|Aa fun ops=>oR (Oh rfl)<|oA rfl<|Ac<|n_K<|An ?_
 exact Av (At Tryz.results94 (Ag rfl)) (by exact ⟨b1,rfl,rfl⟩) sP
theorem Ar0 {bp bm:Nat} {m:Mp En} (hm:m.es.length≤1000):Does Tryz.prog 135 [.func (.func 137) #[] #[ptr bp]] ((bp,true,C [.map (some bm)] tMJ)::(bm,true,m.obj .i64)::[])
  (fun v H=>∃ s:Sl Int,v=s.val∧H=s.hp tI++((bp,true,C [.map (some bm)] tMJ)::(bm,true,m.obj .i64)::[])∧s.isOwn=true∧s.list.Perm m.keys):=by
 refine Ah (n:=5) Tryz.func135 Tryz.ntmps135 rfl (Ay9 rfl)<|Ad<|Aa fun ops=>oA rfl<|Ac<|n_K<|Ad<|Aa fun ops=>oM rfl ?_
 refine Bd rfl (Arx hm) sP rfl fun v4 Y4 h4=> ?_
 obtain ⟨s4,rfl,rfl,ho4,hp4⟩:=h4
 refine Ay aQ ?_
 refine oA rfl<|Ac<|n_K<|An ?_
 exact Av (At Tryz.results135 (Ag rfl)) (by exact ⟨s4,rfl,rfl,ho4,hp4⟩) sP
theorem Ar1 {bp bm:Nat} {m:Mp En} (hm:m.es.length≤1000):Does Tryz.prog 90 [.func (.func 137) #[] #[ptr bp]] ((bp,true,C [.map (some bm)] tMJ)::(bm,true,m.obj .i64)::[])
  (fun v H=>∃ s:Sl Int,v=s.val∧H=s.hp tI++((bp,true,C [.map (some bm)] tMJ)::(bm,true,m.obj .i64)::[])∧s.isOwn=true∧s.list=Dz m.keys):=by
 refine Ah (n:=9) Tryz.func90 Tryz.ntmps90 rfl (Ay9 rfl)<|Ad<|Aa fun ops=>oA rfl<|Ac<|n_K<|Ad<|Aa fun ops=>oM rfl ?_
 refine Bd rfl (Ar0 hm) sP rfl fun v5 Y5 h5=> ?_
 obtain ⟨s5,rfl,rfl,ho5,hp5⟩:=h5
 refine Ay aQ ?_
 refine oA rfl<|Ac<|n_K<|Ad<|Aa fun ops=>oM rfl ?_
 refine Bd rfl (Ul (s:=s5) ho5 (by rw [hp5.length_eq,Mp.keys_len];omega)) sP rfl fun v7 Y7 h7=> ?_
 obtain ⟨rfl,s7,rfl,hv7,ho7,hl7⟩:=h7
 refine Ay aQ ?_
 refine Ac<|n_K<|Ad<|Aa fun ops=>oM rfl<|oA rfl<|Ac<|n_K<|An ?_
 exact Av (At Tryz.results90 (Ag rfl)) (by exact ⟨s7,hv7.symm,rfl,ho7,by rw [hl7];exact Rm hp5⟩) sP
theorem Auw {c:BitVec 32} {b:Nat} {s1 s2:Sl By}:Does Tryz.prog 95 [uv c,.slice (some ⟨b,0,none⟩) 2 2] ((b,true,C [s1.val,s2.val] tSB)::(s1.hp tU8++(s2.hp tU8++[])))
  (Is (uv (K3 c [s1.list,s2.list])) ((b,true,C [s1.val,s2.val] tSB)::(s1.hp tU8++(s2.hp tU8++[])))):=by
 have e2:(Sl.own b [s1,s2] 2 [] ⟨by simp,A2q _,by simp⟩:Sl (Sl By)).list=[s1,s2]:=rfl
 have h:=Ata (c:=c) (q:= .own b [s1,s2] 2 [] ⟨by simp,A2q _,by simp⟩)
 rw [e2] at h
 have e:(Sl.own b [s1,s2] 2 [] ⟨by simp,A2q _,by simp⟩:Sl (Sl By)).hp tSB++(Dh [s1,s2]++[])=((b,true,C [s1.val,s2.val] tSB)::(s1.hp tU8++(s2.hp tU8++[]))):=by
  rw [Sl.hp_own,Cz,Cz,Ha]
  simp only [A0j,A1k,A1j]
  rfl
 rw [e] at h
 exact h
theorem Ar2:Does Tryz.prog 93 [.slice none 0 0] [] (Is (uv 0) []):=by
 have h:=Amp (q:=(Sl.nil:Sl (Sl By)))
 have e:(Sl.nil:Sl (Sl By)).hp tSB++(Dh []++[])=[]:=by rw [Sl.hp_nil,Ha];rfl
 rw [show (Sl.nil:Sl (Sl By)).list=[] from rfl,e] at h
 exact h.to (by simp [K3]) rfl
end
section
open Go.K
instance fldt124_1:FldT Tryz.prog 124 1 2 29:=⟨⟨_,_,Tryz.underlying124,rfl,rfl,rfl⟩⟩
instance ent59:Ent Tryz.prog 59:=⟨fun _ _=>by kernel_rfl⟩
def Qp (m:Mp En) (k:Int):En:=match m.get k with | some e=>e | none=>Awb
def Ab6 (m:Mp En) (k:Int):Wd:=(Qp m k).ep
def K5 (m:Mp En):BitVec 32:=(Dz m.keys).foldl (fun c k=>K3 c [Co 1 (BitVec.ofInt 64 k),Co 8 (Ab6 m k)]) 0
theorem Ael {P:Program} {E:Env} {H:Hp} {t kt et:TypeId} {x y:Operand} {b:Nat} {m:Mp En} {k:Int} {r:Bool} [ht:Und P t (.map kt et)] [hk:Und P kt (.int .i64)] [hz:ZerV P et (.agg #[.int .i64 0,.int .i64 0,.int .u64 0])]
  (hx:ev E x=some (.map (some b))) (hy:ev E y=some (.int .i64 k)) (hm:(b,r,m.obj .i64)∈H):Rd P E H (.lookup t x y false) (.agg (Aix (Qp m k)).toArray):=by
 have h:=Aqi (P:=P) (t:=t) (kt:=kt) (et:=et) (z:= .agg #[.int .i64 0,.int .i64 0,.int .u64 0]) hx hy hm
 unfold Qp
 cases hg:m.get k with
 | none=>rw [hg] at h;exact h
 | some e=>rw [hg] at h;exact h
theorem Agn {S:Nat} {b:Nat} {m:Mp En} (hm:m.es.length≤1000):Does Tryz.prog 59 [ptr S,.map (some b)] ((b,true,m.obj .i64)::[])
  (fun v H=>v=uv (K5 m)∧H=(b,true,m.obj .i64)::[]):=by
 refine Ah (n:=30) Tryz.func59 Tryz.ntmps59 rfl (Ay9 rfl)<|Ad<|Aa fun ops=>oA rfl<|Ac<|n_K<|Ad<|Aa fun ops=> ?_
 refine A6 rfl (Ar2) sP rfl aQ ?_
 refine oA rfl<|Ac<|n_K<|Ad<|Ad<|Aa fun ops=>oM rfl ?_
 refine Bd rfl (Auv (bm:=b)) sP rfl fun v10 Y10 h10=> ?_
 obtain ⟨bp,rfl,rfl⟩:=h10
 refine Ay aQ ?_
 refine Bd rfl (Ar1 hm) sP rfl fun v11 Y11 h11=> ?_
 obtain ⟨s11,rfl,rfl,ho11,hl11⟩:=h11
 refine Ay aQ ?_
 refine oR (A7 rfl)<|oM rfl<|Ac<|n_K<|Ak ?_
 have hsm:s11.list.length≤1000:=(by rw [hl11,(B5 _).length_eq,Mp.keys_len];exact hm)
 refine A8 [1,11,12] kQ (fun (st:Nat×BitVec 32)=>[(13,.int .i64 st.1),(5,uv st.2)]) (fun (st:Nat×BitVec 32)=>(s11.hp tI++((b,true,m.obj .i64)::[]))) (fun (st:Nat×BitVec 32)=>st.1≤s11.list.length∧st.2=(s11.list.take st.1).foldl (fun c k=>K3 c [Co 1 (BitVec.ofInt 64 k),Co 8 (Ab6 m k)]) 0) (fun (st:Nat×BitVec 32)=>s11.list.length - st.1) ((0,0)) ⟨A2r _,rfl⟩ kP sP ?_
 rintro ⟨i,c⟩ ⟨g0,g1⟩
 simp only at g0 g1
 refine Ad<|Aa fun ops=>oR (Ae rfl rfl rfl)<|Ac<|n_K<|Ad ?_
 refine Aj rfl (fun c14=> ?_) (fun c14=> ?_)
 ·simp only [A0d,Ayz] at c14
  obtain ⟨z,hg⟩:∃ z,s11.list[i]? =some z:=⟨_,Ayw (by omega)⟩
  have hst:=Hm (f:=fun c k=>K3 c [Co 1 (BitVec.ofInt 64 k),Co 8 (Ab6 m k)]) (b:=(0:BitVec 32)) hg
  rw [← g1] at hst
  refine Ai<|n_K<|Ad<|Ak<|Ad<|Aa fun ops=> ?_
  refine oR (Bk (s:=s11) rfl rfl (by omega)) ?_
  refine oR (C0 (s:=s11) (o:=0) rfl pL hg rfl rfl) ?_
  refine oA rfl<|Ac<|n_K ?_
  refine s_draw [] [(10,[(0,false),(1,false),(2,false),(4,false),(5,false),(6,false),(7,false),(3,true),(8,true),(9,true)]),(11,[(10,true)]),(12,[(11,false)])] (by kernel_rfl) rfl fun ops w0 H0 y=> ?_
  refine A4<|xM rfl<|xM rfl ?_
  refine xR (show Rd _ _ _ _ (wv (BitVec.ofInt 64 z)) from by (unfold wv;rw [← J3];exact C4 rfl)) ?_
  refine xM rfl<|xM rfl ?_
  refine xR (Ael rfl rfl mM) ?_
  refine xR (show Rd _ _ _ _ (wv (Ab6 m z)) from Aub rfl rfl) ?_
  refine Be ?_
  refine Bd rfl (Hr) sP rfl fun v20 Y20 h20=> ?_
  obtain ⟨s20,rfl,rfl,hs20,ho20⟩:=h20
  refine Ay aQ ?_
  refine Ac ⟨rfl,⟨_,sP⟩,?_⟩
  refine Be ?_
  refine Bd rfl (Hr) sP rfl fun v25 Y25 h25=> ?_
  obtain ⟨s25,rfl,rfl,hs25,ho25⟩:=h25
  refine Ay aQ ?_
  refine Ac ⟨rfl,⟨_,sP⟩,?_⟩
  refine Be ?_
  refine A5 rfl rfl rfl rfl fun b26=> ?_
  refine Ac ⟨rfl,⟨_,sP⟩,?_⟩
  refine Am<|Bh<|Be ?_
  refine A6 rfl (Auw (c:=c) (b:=b26) (s1:=s20) (s2:=s25)) sP rfl aQ ?_
  refine Ac ⟨rfl,⟨_,sP⟩,?_⟩
  refine Am<|A4<|xA rfl<|Am<|Bm<|Az<|n_K<|Aa fun ops=> ?_
  refine oR (Ao rfl rfl (by omega)) ?_
  refine oM rfl<|Ac<|n_K ?_
  exact ⟨(i+1,K3 c [Co 1 (BitVec.ofInt 64 z),Co 8 (Ab6 m z)]),⟨by simp only;omega,hst.symm⟩,by simp only;omega,(by rw [show Co 1 (BitVec.ofInt 64 z)=s20.list from hs20.symm,show Co 8 (Ab6 m z)=s25.list from hs25.symm];exact kP),kP,_,sP⟩
 ·simp only [A0d,Ayz] at c14
  have hi:i=s11.list.length:=(by omega)
  subst hi
  rw [A0w] at g1
  refine Bb<|x_K<|x_K<|Bj<|n_K<|Ad<|Aa fun ops=>oM rfl<|oA rfl<|Ac<|n_K<|An ?_
  exact Av (At Tryz.results59 (Ag rfl)) (by exact ⟨by rw [g1,hl11];rfl,rfl⟩) sP
end
section
open Go.K Go.Shelf
instance ent53:Ent Tryz.prog 53:=⟨fun _ _=>by kernel_rfl⟩
instance ent89:Ent Tryz.prog 89:=⟨fun _ _=>by kernel_rfl⟩
def Ai8:Go.Shelf.Ren:=⟨fun | 20=>89 | n=>n,fun | 22=>85 | 3=>3 | 4=>4 | 0=>0 | n=>n,fun | n=>n⟩
theorem An0:Go.Proofs.Lays2.n20 Tryz.prog Ai8:={
 mixed:=by kernel_rfl
 f20:=Tryz.func89.trans (A20 some (by kernel_rfl))
 t0:=Tryz.underlying0
 a0:=Tryz.isAgg0
 z0:=Tryz.sizeOf0
 v0:=Tryz.zeroValue0
 t3:=Tryz.underlying3
 a3:=Tryz.isAgg3
 z3:=Tryz.sizeOf3
 v3:=Tryz.zeroValue3
 t4:=Tryz.underlying4
 a4:=Tryz.isAgg4
 z4:=Tryz.sizeOf4
 v4:=Tryz.zeroValue4
 t22:=Tryz.underlying85
 a22:=Tryz.isAgg85
 z22:=Tryz.sizeOf85
 v22:=Tryz.zeroValue85
 i3:=by kernel_rfl }
theorem Aem (xs:List Int):(Lib.compact xs).length≤xs.length:=by
 unfold Lib.compact Lib.compactUpTo
 rw [A1a]
 exact A2f (Azb _ _) (by simp)
theorem compact_nil:Lib.compact ([]:List Int)=[]:=by
 unfold Lib.compact Lib.compactUpTo;rfl
theorem Ar3 {s:Sl Int} (ho:s.isOwn=true) (hl:s.list.length≤100000):Does Tryz.prog 89 [s.val] (s.hp tI++[])
  (fun v H=>∃ s':Sl Int,v=s'.val∧H=s'.hp tI++[]∧s'.isOwn=true∧s'.list=Lib.compact s.list):=by
 intro w hw
 cases s with
 | nil =>
  rw [Sl.hp_nil] at hw ⊢
  have h:=Any.slices_Compact_int_empty An0 none 0 w
  refine A2x h ?_
  rintro e w' ⟨rfl,rfl⟩
  exact ⟨_,[],rfl,⟨.nil,rfl,by rw [Sl.hp_nil];rfl,rfl,compact_nil.symm⟩,Trk.refl hw⟩
 | emp a =>
  have e0:(Sl.emp a:Sl Int).hp tI=[]:=by unfold Sl.hp;rfl
  rw [e0] at hw ⊢
  have h:=Any.slices_Compact_int_empty An0 (some a) 0 w
  refine A2x h ?_
  rintro e w' ⟨rfl,rfl⟩
  exact ⟨_,[],rfl,⟨.emp a,rfl,by rw [e0];rfl,rfl,compact_nil.symm⟩,Trk.refl hw⟩
 | vac a c=>cases ho
 | view=>cases ho
 | own b xs cap sp h0 =>
  rw [Sl.hp_own,A1j] at hw
  rw [Sl.hp_own]
  have hb:=hw.here _ (Azx)
  simp only at hb
  have hlt:=hw.lt (x:=(b,true,C (cells xs++sp) tI)) Azx
  have hH:Sort.Holds (Value.int .i64) w b 0 xs.toArray:=fun j hj=>by
   have hj':j<xs.length:=by simpa using hj
   refine ⟨?_,Lk hb _ _⟩
   rw [A2g,M7 hb,Ee,Ayo (by rw [Gk,A1a];exact hj'),Gk,A0f,Ayw hj',getElem!_pos xs.toArray j hj]
   rfl
  have hxl:xs.length≤100000:=hl
  have hc:=Aem xs
  have h:=Any.slices_Compact_int An0 b 0 cap xs w hH (by omega) h0.2.1
  refine A2x h ?_
  rintro e w' ⟨rfl,n,rfl⟩
  have hlen:(Lib.compact xs++List.replicate (xs.length - (Lib.compact xs).length) 0).length=xs.length:=by simp;omega
  have ht:=Aat (os:=#[]) (n:=n) hw hlen
  rw [Sort.grow_empty] at ht
  have hcs:(cells (Lib.compact xs++List.replicate (xs.length - (Lib.compact xs).length) (0:Int))++sp:List Value)=cells (Lib.compact xs)++(cells (List.replicate (xs.length - (Lib.compact xs).length) (0:Int))++sp):=by
   rw [Gk,Gk,Gk,A1i,A0j]
  rw [hcs] at ht
  refine ⟨_,[(b,true,C (cells (Lib.compact xs)++(cells (List.replicate (xs.length - (Lib.compact xs).length) (0:Int))++sp)) tI)],rfl,⟨.own b (Lib.compact xs) cap (cells (List.replicate (xs.length - (Lib.compact xs).length) (0:Int))++sp) ?_,rfl,by rw [Sl.hp_own];rfl,rfl,rfl⟩,ht⟩
  have h1:(cap - xs.length)*1≤sp.length:=h0.1
  refine ⟨?_,by have:=h0.2.1;omega,by omega⟩
  show (cap - (Lib.compact xs).length)*1≤_
  have h2:=h0.2.1
  rw [Azz,Gk,A1a,Azc]
  omega
def Rn (xs:List Int):Bool:=decide ((Lib.compact (Dz xs)).length=xs.length)
theorem Ar4 {s:Sl Int} (hs:s.list.length≤1000):Does Tryz.prog 53 [s.val] (s.hp tI++[]) (Is (.bool (Rn s.list)) (s.hp tI++[])):=by
 refine Ah (n:=14) Tryz.func53 Tryz.ntmps53 rfl (Ay9 rfl)<|Ad<|Aa fun ops=>oA rfl<|Ac<|n_K<|Ad<|Aa fun ops=>oM rfl ?_
 refine Bd rfl (Qs (s:=s) (T:=tI) hs) sP rfl fun v5 Y5 h5=> ?_
 obtain ⟨s5,rfl,rfl,hl5,ho5⟩:=h5
 refine Ay aQ ?_
 refine oA rfl<|Ac<|n_K<|Ad<|Aa fun ops=>oM rfl ?_
 refine Bd rfl (Ul (s:=s5) ho5 (by rw [hl5];omega)) sP rfl fun v7 Y7 h7=> ?_
 obtain ⟨rfl,s7,rfl,hv7,ho7,hl7⟩:=h7
 refine Ay aQ ?_
 rw [← hv7]
 refine Ac<|n_K<|Ad<|Aa fun ops=>oM rfl ?_
 refine Bd rfl (Ar3 (s:=s7) ho7 (by rw [hl7,(B5 _).length_eq,hl5];omega)) sP rfl fun v9 Y9 h9=> ?_
 obtain ⟨s9,rfl,rfl,ho9,hl9⟩:=h9
 refine Ay aQ ?_
 refine oR (A7 rfl)<|oM rfl<|oR (A7 rfl)<|oR (Ae rfl rfl rfl)<|oA rfl<|Ac<|n_K<|An ?_
 refine Aq (At Tryz.results53 (Ag rfl)) ?_ sP
 unfold Rn;rw [hl9,hl7,hl5];exact A20 Value.bool (A0x.2 Int.natCast_inj)
end
section
open Go.K
instance fld45_0:Fld Tryz.prog 45 0 0:=⟨⟨_,_,0,Tryz.underlying45,rfl,by kernel_rfl,rfl⟩⟩
instance fld45_2:Fld Tryz.prog 45 2 2:=⟨⟨_,_,0,Tryz.underlying45,rfl,by kernel_rfl,rfl⟩⟩
instance ent50:Ent Tryz.prog 50:=⟨fun _ _=>by kernel_rfl⟩
structure Chg where
 key:Int
 gone:Bool
 body:Sl By
def Awf (c:Chg):List Value:=[.int .i64 c.key,.bool c.gone,c.body.val]
instance:Cel Chg:=⟨3,Awf,fun _=>rfl,fun _=>rfl⟩
theorem Ar5 {c:Chg}:Does Tryz.prog 50 [.agg (Awf c).toArray] (c.body.hp tU8++[]) (Is (.bool (Bt c.key c.body.list)) (c.body.hp tU8++[])):=by
 refine Ah (n:=16) Tryz.func50 Tryz.ntmps50 rfl (Ay9 rfl)<|Ad<|Aa fun ops=> ?_
 refine De rfl rfl fun b1=> ?_
 refine oA rfl<|Ac<|n_K<|Ad<|Aa fun ops=>oF rfl ?_
 refine oR (Al rfl mM rfl) ?_
 refine oF rfl ?_
 refine oR (Al rfl mM rfl) ?_
 refine oR (Bc rfl rfl) ?_
 refine Bd rfl (W0 (n:=⟨c.key,0,c.body⟩)) sP rfl fun v11 Y11 h11=> ?_
 obtain ⟨s11,e11,rfl,rfl,he11⟩:∃ (s11:Sl By) (e11:Int),v11= .tuple #[s11.val,.int .i64 e11]∧Y11=s11.hp tU8++(c.body.hp tU8++[])∧decide (e11=0)=Bt c.key c.body.list:=by
  rcases h11 with ⟨hk,rfl,rfl⟩ | ⟨hk,s,rfl,rfl,hs,ho⟩
  ·exact ⟨.nil,1,rfl,by rw [Sl.hp_nil];rfl,hk.symm⟩
  ·exact ⟨s,0,rfl,rfl,hk.symm⟩
 refine Ay aQ ?_
 refine oM rfl<|oE rfl rfl<|oE rfl rfl<|oA rfl<|oA rfl<|Ac<|n_K<|Ad<|Aa fun ops=>oM rfl<|oR (Ae rfl rfl rfl)<|oA rfl<|Ac<|n_K ?_
 refine An ?_
 refine Aq (At Tryz.results50 (Ag rfl)) ?_ sP
 rw [he11]
end
section
open Go.K
theorem Ab7 {P:Program} {E:Env} {H:Hp} {t kt et:TypeId} {x y:Operand} {b:Nat} {m:Mp En} {k:Int} {r:Bool} [ht:Und P t (.map kt et)] [hk:Und P kt (.int .i64)] [hz:ZerV P et (.agg #[.int .i64 0,.int .i64 0,.int .u64 0])]
  (hx:ev E x=some (.map (some b))) (hy:ev E y=some (.int .i64 k)) (hm:(b,r,m.obj .i64)∈H):Rd P E H (.lookup t x y true) (.tuple #[.agg (Aix (Qp m k)).toArray,.bool (m.get k).isSome]):=by
 have h:=P7 (P:=P) (t:=t) (kt:=kt) (et:=et) (z:= .agg #[.int .i64 0,.int .i64 0,.int .u64 0]) hx hy hm
 unfold Qp
 cases hg:m.get k with
 | none=>rw [hg] at h;exact h
 | some e=>rw [hg] at h;exact h
section
variable {z:Sg}
end
end
section
open Go.K
instance zer67:Zer Tryz.prog 67 ([.pointer none,.map none,.map none,.map none,.int .u64 0]++List.replicate 32 (.int .u8 0)++[.int .u32 0,.int .i64 0,.int .i64 0,.int .u64 0,.int .i64 0,.int .u64 0,.int .i64 0,.int .i64 0,.bool false,.int .u64 0,.bool false]):=⟨by kernel_rfl⟩
instance plc67:Plc Tryz.prog 67 [(0,1),(1,1),(2,1),(3,1),(4,34),(38,2),(40,3),(43,2),(45,1),(46,1),(47,1)]:=⟨⟨_,Tryz.underlying67,fun _=>by kernel_rfl⟩⟩
instance ent86:Ent Tryz.prog 86:=⟨fun _ _=>by kernel_rfl⟩
def Jg (st lg ib pb sb:Nat):Sto:=⟨st,lg,ib,pb,sb,cm0,(0,0),vw0,(0,0),false,0,false,Mp.nil,Mp.nil,Mp.nil⟩
theorem W9 {lg:Nat}:Does Tryz.prog 86 [ptr lg] [] (fun v H=>∃ st ib pb sb:Nat,v=ptr st∧H=stH (Jg st lg ib pb sb)++[]):=by
 refine Ah (n:=9) Tryz.func86 Tryz.ntmps86 rfl (Ay9 rfl)<|Ad<|Aa fun ops=>oA rfl<|Ac<|n_K<|Ad<|Aa fun ops=>oM rfl ?_
 refine X3 En .i64 rfl fun b4=> ?_
 refine X3 En .i64 rfl fun b5=> ?_
 refine X3 Int .i64 rfl fun b6=> ?_
 refine oR (Bc rfl rfl) ?_
 refine De rfl rfl fun b8=> ?_
 refine oA rfl<|Ac<|n_K<|An ?_
 exact Av (At Tryz.results86 (Ag rfl)) (by exact ⟨b8,b4,b5,b6,rfl,rfl⟩) sP
end
section
open Go.K
def refs (S:Sto):List Pl2:=(if 0<S.last.ep.toNat then [S.la] else [])++((if S.viewed=true then [S.va] else [])++(S.idx.es.map (fun e=>e.v.at')++S.pend.es.map (fun e=>e.v.at')))
theorem cntS_iff {S:Sto} {x:Pl2}:I2 S x=true↔x∈refs S:=by
 unfold I2 O5 Fg refs
 simp only [A1b,A0r,A0d,plB_iff,A04,A1d,A2b]
 constructor
 ·rintro (((⟨a,b⟩ | ⟨a,b⟩) | ⟨e,a,b⟩) | ⟨e,a,b⟩)
  ·exact .inl (by rw [A25 (by omega)];simp [b])
  ·exact .inr (.inl (by rw [A25 a];simp [b]))
  ·exact .inr (.inr (.inl ⟨e,a,b⟩))
  ·exact .inr (.inr (.inr ⟨e,a,b⟩))
 ·rintro (h | h | ⟨e,a,b⟩ | ⟨e,a,b⟩)
  ·split at h
   ·rename_i hc
    exact .inl (.inl (.inl ⟨by omega,by simpa using h⟩))
   ·cases h
  ·split at h
   ·rename_i hc
    exact .inl (.inl (.inr ⟨hc,by simpa using h⟩))
   ·cases h
  ·exact .inl (.inr ⟨e,a,b⟩)
  ·exact .inr ⟨e,a,b⟩
theorem Ask {S:Sto} {x:Pl2} (h:x∉refs S):I2 S x=false:=by
 cases hc:I2 S x with
 | false=>rfl
 | true=>exact absurd (cntS_iff.1 hc) h
def mvP (f t r:Pl2):Pl2:=if r=f then t else r
theorem Aet (f t:Pl2) (e:En):(mvE f t e).at'=mvP f t e.at':=by
 unfold mvE mvP
 by_cases h:e.at'=f
 ·rw [A25 (plB_iff.2 h),A25 h]
 ·rw [A26 (fun h2=>h (plB_iff.1 h2)),A26 h]
theorem Au0 (f t:Pl2) (e:En):(mvE f t e).ep=e.ep:=by
 unfold mvE;split <;> rfl
theorem Ach {S:Sto} {f t:Pl2} (h:0<S.last.ep.toNat):(Dd S f t).la=mvP f t S.la:=by
 show (if (decide ((S.last.ep.toNat:Int)>0) && plB S.la f)=true then t else S.la)=_
 unfold mvP
 by_cases e:S.la=f
 ·rw [A25 e,A25 (by simp [plB_iff.2 e];omega)]
 ·rw [A26 e,A26 (fun h2=>e (plB_iff.1 (by rw [A0r] at h2;exact h2.2)))]
theorem Uv {S:Sto} {f t:Pl2} (h:S.viewed=true):(Dd S f t).va=mvP f t S.va:=by
 show (if (S.viewed && plB S.va f)=true then t else S.va)=_
 unfold mvP
 by_cases e:S.va=f
 ·rw [A25 e,A25 (by simp [plB_iff.2 e,h])]
 ·rw [A26 e,A26 (fun h2=>e (plB_iff.1 (by rw [A0r] at h2;exact h2.2)))]
theorem Aeu (S:Sto) (f t:Pl2):refs (Dd S f t)=(refs S).map (mvP f t):=by
 unfold refs
 rw [A1i,A1i,A1i]
 congr 1
 ·show (if 0<S.last.ep.toNat then [(Dd S f t).la] else [])=_
  split
  ·rename_i h;rw [Ach h];rfl
  ·rfl
 congr 1
 ·show (if S.viewed=true then [(Dd S f t).va] else [])=_
  split
  ·rename_i h;rw [Uv h];rfl
  ·rfl
 congr 1
 ·show ((S.idx.es.map fun e=>{ e with v:=mvE f t e.v }).map fun e=>e.v.at')=_
  rw [A2c,A2c]
  exact Azv fun e _=>Aet f t e.v
 ·show ((S.pend.es.map fun e=>{ e with v:=mvE f t e.v }).map fun e=>e.v.at')=_
  rw [A2c,A2c]
  exact Azv fun e _=>Aet f t e.v
theorem RecAt.fn {z:Sg} {x:Pl2} {p r:Pg} (h:RecAt z x p) (g:RecAt z x r):p=r:=by
 obtain ⟨b,j,rfl,hb,hp⟩:=h
 obtain ⟨b',j',e,hb',hp'⟩:=g
 have e1:b=b':=by have:=A20 Prod.fst e;simp only at this;omega
 have e2:j=j':=by have:=A20 Prod.snd e;simp at this;omega
 subst e1 e2
 rw [hp] at hp'
 exact A1h hp'
def P0 (z:Sg):Prop:=∀ r∈refs z.S,∃ p,RecAt z r p∧(Eb p).2.2.2=0
def rm (z:Sg):Nat:=if z.L.last<0 then 0 else if (bAt z.L.bs z.L.last.toNat).next=8 then 0 else 6 - (z.R z.L.last.toNat).length
def fr (z:Sg):Nat:=Cb z.L.bs z.L.nb
def slots (z:Sg):Nat:=6*fr z+rm z
theorem Aon (z:Sg):rm z≤6:=by unfold rm;split;omega;split <;> omega
theorem Uw {z:Sg} {l:Nat} (h:z.L.last=l):rm z=if (bAt z.L.bs l).next=8 then 0 else 6 - (z.R l).length:=by
 unfold rm
 rw [A26 (by omega),show z.L.last.toNat=l by omega]
theorem Zh {z:Sg} (h:Abz z.L.bs z.L.last z.R):rm z=0:=by
 rcases h with h | ⟨l,h1,h2⟩
 ·unfold rm;rw [A25 h]
 ·rw [Uw h1]
  split
  ·rfl
  ·rename_i h3;have:=h2.resolve_left h3;omega
structure LW (k:Nat) (z:Sg):Prop where
 rl:∀ j<z.L.nb,(z.R j).length≤6
 z0:∀ j<z.L.nb,(bAt z.L.bs j).seq.toNat=0→z.R j=[]
 lst:(z.L.last= -1∧∀ j<z.L.nb,(bAt z.L.bs j).seq.toNat=0)∨∃ l:Nat,z.L.last=l∧l<z.L.nb∧(bAt z.L.bs l).seq.toNat≠0∧∀ j<z.L.nb,j≠l→(bAt z.L.bs j).seq.toNat<(bAt z.L.bs l).seq.toNat
 top:∀ j<z.L.nb,(bAt z.L.bs j).seq.toNat≤k
theorem Aoo {bs:List LB} {b:Nat} (h:(bAt bs b).seq.toNat≠0):b<bs.length:=by
 by_cases hb:b<bs.length
 ·exact hb
 ·exfalso
  apply h
  unfold bAt
  rw [Ayg,Azk (by omega)]
  rfl
theorem Mi {bs cs:List LB} {to:Nat} (h0:(bAt bs to).seq.toNat=0) (h1:(bAt cs to).seq.toNat≠0):∀ k,to<k→(∀ j<k,j≠to→(bAt cs j).seq.toNat=(bAt bs j).seq.toNat)→Cb cs k+1=Cb bs k
 | 0,h,_=>by omega
 | k+1,h,hs=>by
  rw [F8,F8]
  by_cases e:to=k
  ·subst e
   rw [Gf (cs:=bs) to fun j hj=>by rw [hs j (by omega) (by omega)]]
   unfold z1
   rw [A26 h1,A25 h0]
  ·have ih:=Mi h0 h1 k (by omega) fun j hj hne=>hs j (by omega) hne
   unfold z1
   rw [hs k (by omega) (A23 e)]
   omega
theorem LW.mono {k k':Nat} {z:Sg} (h:LW k z) (hk:k≤k'):LW k' z:=⟨h.rl,h.z0,h.lst,fun j hj=>A2f (h.top j hj) hk⟩
theorem LW.of {k:Nat} {z z':Sg} (h:LW k z) (h1:z'.L=z.L) (h2:z'.R=z.R):LW k z':=by
 cases z;cases z';simp only at h1 h2;subst h1 h2;exact ⟨h.rl,h.z0,h.lst,h.top⟩
theorem WI.lw {n k:Nat} {q:Qt} {z:Sg} (h:WI n k q z):LW k z:=by
 obtain ⟨_,V,hZ⟩:=h
 refine ⟨fun j hj=> ?_,fun j hj hz=> ?_,hZ.lv.lst,hZ.lv.top⟩
 ·rcases hZ.lv.blk j hj with ⟨_,r⟩ | u
  ·rw [r];exact A2r _
  ·exact u.cnt.len
 ·rcases hZ.lv.blk j hj with ⟨_,r⟩ | u
  ·exact r
  ·exact absurd hz u.cnt.seq
theorem LW.seqN {k:Nat} {z:Sg} (h:LW k z) (hk:k≤400000000000):(seqN z.L.bs z.L.last).toNat≠0∧(seqN z.L.bs z.L.last).toNat≤k+1∧∀ j<z.L.nb,(bAt z.L.bs j).seq.toNat<(seqN z.L.bs z.L.last).toNat:=by
 unfold Go.Proofs.YtpmojdippdlcaaaGreatDoor.seqN
 rcases h.lst with ⟨h1,h2⟩ | ⟨l,h1,h2,h3,h4⟩
 ·rw [A25 (by omega)]
  exact ⟨by decide,by show 1≤k+1;omega,fun j hj=>by rw [h2 j hj];decide⟩
 ·rw [A26 (by omega),h1,A0c]
  have ht:=h.top l h2
  have e:((bAt z.L.bs l).seq+1).toNat=(bAt z.L.bs l).seq.toNat+1:=by
   rw [A05]
   show ((bAt z.L.bs l).seq.toNat+1) % 2 ^ 64=_
   omega
  rw [e]
  refine ⟨by omega,by omega,fun j hj=> ?_⟩
  by_cases hj2:j=l
  ·subst hj2;omega
  ·have:=h4 j hj hj2;omega
def sqz (z:Sg) (x:Pl2):Nat:=(bAt z.L.bs x.1.toNat).seq.toNat
def bef (z:Sg) (x y:Pl2):Prop:=sqz z x<sqz z y∨(x.1=y.1∧x.2<y.2)
structure NewAt (z:Sg) (p:Pg) (y:Pl2) (z':Sg):Prop where
 S:z'.S=z.S
 nb:z'.L.nb=z.L.nb
 new:RecAt z' y p
 old:∀ x r,RecAt z x r→RecAt z' x r∧x≠y
 inv:∀ x r,RecAt z' x r→RecAt z x r∨(x=y∧r=p)
 blk:∀ b:Nat,b<z.L.nb→(bAt z.L.bs b).seq.toNat≠0→(b:Int)≠z.L.last→y.1≠b∧(b:Int)≠z'.L.last∧z'.R b=z.R b
 sq:∀ b:Nat,b<z.L.nb→(bAt z.L.bs b).seq.toNat≠0→(bAt z'.L.bs b).seq=(bAt z.L.bs b).seq
 bef:∀ x r,RecAt z x r→bef z' x y
theorem RecAt.used {k:Nat} {z:Sg} {x:Pl2} {r:Pg} (hw:LW k z) (h:RecAt z x r):∃ b:Nat,x.1=b∧b<z.L.nb∧(bAt z.L.bs b).seq.toNat≠0:=by
 obtain ⟨b,j,rfl,hb,hp⟩:=h
 refine ⟨b,rfl,hb,fun hz=> ?_⟩
 rw [hw.z0 b hb hz] at hp
 cases hp
theorem NewAt.ord {k:Nat} {z z':Sg} {p:Pg} {y:Pl2} (hw:LW k z) (h:NewAt z p y z') {x x':Pl2} {r r':Pg} (hx:RecAt z x r) (hx':RecAt z x' r'):Go.Proofs.YtpmojdippdlcaaaGreatDoor.bef z' x x'↔Go.Proofs.YtpmojdippdlcaaaGreatDoor.bef z x x':=by
 have e:∀ {x r},RecAt z x r→sqz z' x=sqz z x:=fun hx=>by
  obtain ⟨b,h1,h2,h3⟩:=hx.used hw
  unfold sqz
  rw [h1,A0c,h.sq b h2 h3]
 unfold Go.Proofs.YtpmojdippdlcaaaGreatDoor.bef
 rw [e hx,e hx']
theorem Hc {R:Nat→List Pg} {b:Nat} {r:List Pg}:upR R b r b=r:=A25 rfl
theorem Em {R:Nat→List Pg} {b j:Nat} {r:List Pg} (h:j≠b):upR R b r j=R j:=A26 h
theorem AppG.ok {n k:Nat} {q:Qt} {z z':Sg} {p:Pg} {e:Int} {y:Pl2} (hw:LW k z) (hk:k≤390000000000) (h:AppG n q z p e y z') (he:e≠30) :
  (e=40∧slots z=0)∨(e=0∧LW (k+1) z'∧slots z'+1=slots z∧rm z'≤5∧NewAt z p y z'):=by
 obtain ⟨h1,_,_,h4,_,h6⟩:=h
 obtain ⟨_,hA,_,_⟩:=h6.resolve_right (fun h9=>he h9.1)
 clear h6
 obtain ⟨S,L,R⟩:=z
 obtain ⟨S',L',R'⟩:=z'
 obtain ⟨y1,y2⟩:=y
 simp only at h1 h4 hA
 subst h1
 obtain ⟨x1,x2,nb',last',bs',d'⟩:=L'
 simp only at h4 hA
 subst h4
 have hf0:∀ {X:Sg},fr X=Cb X.L.bs X.L.nb:=rfl
 cases hA with
 | @into l g1 g2 g3 g4 g5 =>
  have hb:∀ j,bAt (L.bs.set l { bAt L.bs l with next:=((2+(R l).length:Nat):Int)+1 }) j=if j=l then { bAt L.bs l with next:=((2+(R l).length:Nat):Int)+1 } else bAt L.bs j:=fun j=>Dq (Aoo g3)
  have hs:∀ j,(bAt (L.bs.set l { bAt L.bs l with next:=((2+(R l).length:Nat):Int)+1 }) j).seq=(bAt L.bs j).seq:=fun j=>by
   rw [hb]
   split
   ·rename_i e;subst e;rfl
   ·rfl
  have hfr:Cb (L.bs.set l { bAt L.bs l with next:=((2+(R l).length:Nat):Int)+1 }) L.nb=Cb L.bs L.nb:=Gf _ fun j _=>by rw [hs]
  have hr1:rm ⟨S',L,R⟩=6 - (R l).length:=by rw [Uw (l:=l) g1,A26 (by simp only;omega)]
  have hlc:(upR R l (R l++[p]) l).length=(R l).length+1:=by rw [Hc];simp
  refine .inr ⟨rfl,⟨fun j hj=> ?_,fun j hj hz=> ?_,?_,fun j hj=> ?_⟩,?_,?_,⟨rfl,rfl,?_,fun x r hx=>⟨?_,?_⟩,fun x r hx=> ?_,fun b hb1 hb2 hb3=>⟨?_,hb3,?_⟩,fun b _ _=>hs b,fun x r hx=> ?_⟩⟩
  ·show (upR R l (R l++[p]) j).length≤6
   by_cases e:j=l
   ·subst e;omega
   ·rw [Em e];exact hw.rl j hj
  ·show upR R l (R l++[p]) j=[]
   have hz':(bAt L.bs j).seq.toNat=0:=by rw [← hs j];exact hz
   by_cases e:j=l
   ·subst e;exact absurd hz' g3
   ·rw [Em e];exact hw.z0 j hj hz'
  ·rcases hw.lst with ⟨q1,q2⟩ | ⟨l',q1,q2,q3,q4⟩
   ·exact .inl ⟨q1,fun j hj=>by show (bAt (L.bs.set l _) j).seq.toNat=0;rw [hs];exact q2 j hj⟩
   ·exact .inr ⟨l',q1,q2,by show (bAt (L.bs.set l _) l').seq.toNat≠0;rw [hs];exact q3,fun j hj hne=>by show (bAt (L.bs.set l _) j).seq.toNat<(bAt (L.bs.set l _) l').seq.toNat;rw [hs,hs];exact q4 j hj hne⟩
  ·show (bAt (L.bs.set l _) j).seq.toNat≤k+1
   rw [hs];have:=hw.top j hj;simp only at this;omega
  ·unfold slots
   rw [hr1,Uw (l:=l) g1,hf0,hf0]
   simp only
   rw [hfr,hb,A25 rfl,hlc]
   simp only
   split <;> omega
  ·rw [Uw (l:=l) g1]
   simp only
   rw [hlc]
   split <;> omega
  ·exact ⟨l,(R l).length,rfl,g2,by show (upR R l (R l++[p]) l)[_]? =_;rw [Hc,Ayk (A2q _)];simp⟩
  ·obtain ⟨b,j,rfl,hb1,hp⟩:=hx
   refine ⟨b,j,rfl,hb1,?_⟩
   show (upR R l (R l++[p]) b)[j]? =_
   by_cases e:b=l
   ·subst e
    rw [Hc,Ayo (Aym.1 hp).1];exact hp
   ·rw [Em e];exact hp
  ·obtain ⟨b,j,rfl,hb1,hp⟩:=hx
   intro e9
   have e1:b=l:=by have:=A20 Prod.fst e9;simp only at this;omega
   have e2:j=(R l).length:=by have:=A20 Prod.snd e9;simp at this;omega
   subst e1 e2
   have:=(Aym.1 hp).1
   simp only at this
   omega
  ·obtain ⟨b,j,rfl,hb1,hp⟩:=hx
   have hp:(upR R l (R l++[p]) b)[j]? =some r:=hp
   by_cases e:b=l
   ·subst e
    rw [Hc] at hp
    by_cases hj:j<(R b).length
    ·rw [Ayo hj] at hp
     exact .inl ⟨b,j,rfl,hb1,hp⟩
    ·have hj2:=(Aym.1 hp).1
     simp only [Azz,Azj] at hj2
     have:j=(R b).length:=by omega
     subst this
     rw [Ayk (A2q _)] at hp
     simp at hp
     exact .inr ⟨rfl,hp.symm⟩
   ·rw [Em e] at hp
    exact .inl ⟨b,j,rfl,hb1,hp⟩
  ·intro e
   have:(l:Int)=b:=e
   exact hb3 (by show (b:Int)=L.last;omega)
  ·show upR R l (R l++[p]) b=R b
   refine Em fun e=>hb3 ?_
   show (b:Int)=L.last
   omega
  ·obtain ⟨b,j,rfl,hb1,hp⟩:=hx
   unfold Go.Proofs.YtpmojdippdlcaaaGreatDoor.bef
   by_cases e:b=l
   ·subst e
    have:=(Aym.1 hp).1
    simp only at this
    exact .inr ⟨rfl,by simp only;omega⟩
   ·refine .inl ?_
    rcases hw.lst with ⟨q1,q2⟩ | ⟨l',q1,q2,q3,q4⟩
    ·simp only at q1;omega
    ·have hl':l'=l:=by simp only at q1;omega
     subst hl'
     unfold sqz
     simp only [A0c]
     rw [hs,hs]
     exact q4 b hb1 e
 | @none pb pj last' bs' g1 g2 =>
  refine .inl ⟨rfl,?_⟩
  unfold slots
  rw [Zh g1,hf0]
  have:Cb L.bs L.nb=0:=by
   rcases Lb L.bs L.nb with ⟨_,h2⟩ | ⟨l,h1,_⟩
   ·exact (by
     have:∀ m,m≤L.nb→Cb L.bs m=0:=fun m=>by
      induction m with
      | zero=>exact fun _=>rfl
      | succ m ih =>
       intro hm
       rw [F8,ih (by omega)]
       unfold z1
       rw [A26 (h2 m (by omega))]
     exact this _ (A2q _))
   ·omega
  simp only [this]
 | @fresh to _ g1 g3 g4 g5 g6 g7 g8 =>
  obtain ⟨s1,s2,s3⟩:=hw.seqN (by omega)
  simp only at s1 s2 s3
  have hs:∀ j<L.nb,j≠to→(bAt bs' j).seq=(bAt L.bs j).seq:=fun j hj hne=>by
   rcases g8 j hj (by omega) with e | ⟨_,e⟩ <;> rw [e]
  have hst:(bAt bs' to).seq=seqN L.bs L.last:=by rw [g7]
  have hfr:Cb bs' L.nb+1=Cb L.bs L.nb:=Mi g5 (by rw [hst];exact s1) L.nb g4 fun j hj hne=>by rw [hs j hj hne]
  have hr1:rm ⟨S',L,R⟩=0:=Zh g1
  have hl1:upR R to [p] to=[p]:=Hc
  have hr2:∀ d,rm ⟨S',⟨x1,x2,L.nb,(to:Int),bs',d⟩,upR R to [p]⟩=5:=fun d=>by
   rw [Uw (l:=to) rfl]
   simp only
   rw [g7,hl1]
   rfl
  refine .inr ⟨rfl,⟨fun j hj=> ?_,fun j hj hz=> ?_,.inr ⟨to,rfl,g4,by rw [hst];exact s1,fun j hj hne=> ?_⟩,fun j hj=> ?_⟩,?_,?_,⟨rfl,rfl,?_,fun x r hx=>⟨?_,?_⟩,fun x r hx=> ?_,fun b hb1 hb2 hb3=>⟨?_,?_,?_⟩,fun b hb1 hb2=>hs b hb1 (fun e=>hb2 (by rw [e];exact g5)),fun x r hx=> ?_⟩⟩
  ·show (upR R to [p] j).length≤6
   by_cases e:j=to
   ·subst e;rw [hl1];show 1≤6;omega
   ·rw [Em e];exact hw.rl j hj
  ·show upR R to [p] j=[]
   have hz:(bAt bs' j).seq.toNat=0:=hz
   by_cases e:j=to
   ·subst e;rw [hst] at hz;exact absurd hz s1
   ·rw [Em e];exact hw.z0 j hj (by show (bAt L.bs j).seq.toNat=0;rw [← hs j hj e];exact hz)
  ·show (bAt bs' j).seq.toNat<(bAt bs' to).seq.toNat
   rw [hst,hs j hj hne];exact s3 j hj
  ·show (bAt bs' j).seq.toNat≤k+1
   by_cases e:j=to
   ·subst e;rw [hst];exact s2
   ·rw [hs j hj e];have:=hw.top j hj;simp only at this;omega
  ·unfold slots
   rw [hr1,hr2,hf0,hf0]
   simp only
   omega
  ·rw [hr2];omega
  ·exact ⟨to,0,rfl,g4,by show (upR R to [p] to)[0]? =_;rw [hl1];rfl⟩
  ·obtain ⟨b,j,rfl,hb1,hp⟩:=hx
   refine ⟨b,j,rfl,hb1,?_⟩
   show (upR R to [p] b)[j]? =_
   by_cases e:b=to
   ·subst e
    have hp:(R b)[j]? =some r:=hp
    rw [g6] at hp;cases hp
   ·rw [Em e];exact hp
  ·obtain ⟨b,j,rfl,hb1,hp⟩:=hx
   intro e9
   have e1:b=to:=by have:=A20 Prod.fst e9;simp only at this;omega
   subst e1
   have hp:(R b)[j]? =some r:=hp
   rw [g6] at hp;cases hp
  ·obtain ⟨b,j,rfl,hb1,hp⟩:=hx
   have hp:(upR R to [p] b)[j]? =some r:=hp
   by_cases e:b=to
   ·subst e
    rw [hl1] at hp
    have:j=0:=by have:=(Aym.1 hp).1;simp at this;exact this
    subst this
    simp at hp
    exact .inr ⟨rfl,hp.symm⟩
   ·rw [Em e] at hp
    exact .inl ⟨b,j,rfl,hb1,hp⟩
  ·intro e
   have:to=b:=by have e':(to:Int)=b:=e;omega
   subst this
   exact hb2 g5
  ·intro e
   have:b=to:=by have e':(b:Int)=to:=e;omega
   subst this
   exact hb2 g5
  ·refine Em fun e=> ?_
   subst e
   exact hb2 g5
  ·obtain ⟨b,j,rfl,hb1,hp⟩:=hx
   have hp:(R b)[j]? =some r:=hp
   refine .inl ?_
   have hne:b≠to:=fun e=>by subst e;rw [g6] at hp;cases hp
   unfold sqz
   simp only [A0c]
   rw [hst,hs b hb1 hne]
   exact s3 b hb1
structure GoneB (z:Sg) (b:Nat) (z':Sg):Prop where
 S:z'.S=z.S
 nb:z'.L.nb=z.L.nb
 old:∀ x r,RecAt z x r→x.1≠b→RecAt z' x r
 inv:∀ x r,RecAt z' x r→RecAt z x r∧x.1≠b
 sq:∀ j:Nat,j≠b→(bAt z'.L.bs j).seq=(bAt z.L.bs j).seq
theorem GoneB.ord {z z':Sg} {b:Nat} (h:GoneB z b z') {x x':Pl2} {r r':Pg} (hx:RecAt z' x r) (hx':RecAt z' x' r'):Go.Proofs.YtpmojdippdlcaaaGreatDoor.bef z' x x'↔Go.Proofs.YtpmojdippdlcaaaGreatDoor.bef z x x':=by
 have e:∀ {x r},RecAt z' x r→sqz z' x=sqz z x:=fun hx=>by
  obtain ⟨h1,h2⟩:=h.inv _ _ hx
  obtain ⟨c,j,rfl,_,_⟩:=h1
  unfold sqz
  simp only [A0c]
  rw [h.sq c (fun e=>h2 (by rw [e]))]
 unfold Go.Proofs.YtpmojdippdlcaaaGreatDoor.bef
 rw [e hx,e hx']
theorem DropG.ok {n k:Nat} {q:Qt} {z z':Sg} {b:Nat} (hw:LW k z) (hb:b<z.L.nb) (hs:(bAt z.L.bs b).seq.toNat≠0) (hl:(b:Int)≠z.L.last) (h:DropG n q z b 0 z') :
  LW k z'∧fr z'=fr z+1∧rm z'=rm z∧GoneB z b z':=by
 obtain ⟨h1,_,_,h4,_,_,h7⟩:=h
 obtain ⟨_,h8,h9,h10⟩:=h7.resolve_right (fun h9=>absurd h9.1 (by decide))
 rw [A26 hl] at h9
 obtain ⟨S,L,R⟩:=z
 obtain ⟨S',L',R'⟩:=z'
 simp only at h1 h4 h8 h9 h10 hb hs hl
 subst h1 h10
 obtain ⟨x1,x2,nb',last',bs',d'⟩:=L'
 simp only at h4 h8 h9
 subst h4 h9 h8
 have hbl:=Aoo hs
 have hB:∀ j,bAt (L.bs.set b (Ik ((bAt L.bs b).wear+1))) j=if j=b then Ik ((bAt L.bs b).wear+1) else bAt L.bs j:=fun j=>Dq hbl
 have hz:(bAt (L.bs.set b (Ik ((bAt L.bs b).wear+1))) b).seq.toNat=0:=by rw [hB,A25 rfl];rfl
 have ho:∀ j,j≠b→(bAt (L.bs.set b (Ik ((bAt L.bs b).wear+1))) j).seq=(bAt L.bs j).seq:=fun j hj=>by rw [hB,A26 hj]
 refine ⟨⟨fun j hj=> ?_,fun j hj hz2=> ?_,?_,fun j hj=> ?_⟩,?_,?_,⟨rfl,rfl,fun x r hx hne=> ?_,fun x r hx=> ?_,ho⟩⟩
 ·show (upR R b [] j).length≤6
  by_cases e:j=b
  ·subst e;rw [Hc];exact A2r _
  ·rw [Em e];exact hw.rl j hj
 ·show upR R b [] j=[]
  by_cases e:j=b
  ·subst e;exact Hc
  ·rw [Em e];exact hw.z0 j hj (by show (bAt L.bs j).seq.toNat=0;rw [← ho j e];exact hz2)
 ·rcases hw.lst with ⟨q1,q2⟩ | ⟨l,q1,q2,q3,q4⟩
  ·exact absurd (q2 b hb) hs
  ·have hlb:l≠b:=fun e=>hl (by subst e;exact q1.symm)
   refine .inr ⟨l,q1,q2,?_,fun j hj hne=> ?_⟩
   ·show (bAt (L.bs.set b _) l).seq.toNat≠0
    rw [ho l hlb];exact q3
   ·show (bAt (L.bs.set b _) j).seq.toNat<(bAt (L.bs.set b _) l).seq.toNat
    rw [ho l hlb]
    by_cases e:j=b
    ·subst e;rw [hz];have:(bAt L.bs l).seq.toNat≠0:=q3;omega
    ·rw [ho j e];exact q4 j hj hne
 ·show (bAt (L.bs.set b _) j).seq.toNat≤k
  by_cases e:j=b
  ·subst e;rw [hz];exact A2r _
  ·rw [ho j e];exact hw.top j hj
 ·show Cb (L.bs.set b _) L.nb=Cb L.bs L.nb+1
  exact (Mi hz hs L.nb hb fun j hj hne=>by rw [ho j hne]).symm
 ·rcases hw.lst with ⟨q1,q2⟩ | ⟨l,q1,q2,q3,q4⟩
  ·exact absurd (q2 b hb) hs
  ·have hlb:l≠b:=fun e=>hl (by subst e;exact q1.symm)
   refine (Uw (l:=l) (z:=⟨S',⟨x1,x2,L.nb,L.last,L.bs.set b (Ik ((bAt L.bs b).wear+1)),d'⟩,upR R b []⟩) q1).trans ?_
   rw [Uw (l:=l) q1]
   simp only
   rw [hB,A26 hlb,Em hlb]
 ·obtain ⟨c,j,rfl,h1,h2⟩:=hx
  refine ⟨c,j,rfl,h1,?_⟩
  show (upR R b [] c)[j]? =_
  rw [Em (fun e=>hne (by rw [e]))];exact h2
 ·obtain ⟨c,j,rfl,h1,h2⟩:=hx
  have h2:(upR R b [] c)[j]? =some r:=h2
  by_cases e:c=b
  ·subst e;rw [Hc] at h2;cases h2
  ·rw [Em e] at h2
   exact ⟨⟨c,j,rfl,h1,h2⟩,fun e9=>e (by have e9':(c:Int)=b:=e9;omega)⟩
end
section
open Go.K
structure Kp (I:Sg→Prop):Prop where
  sh:∀ {k:Nat} {z z1:Sg} {x y:Pl2} {p:Pg},LW k z→P0 z→I z→x∈refs z.S→RecAt z x p→(Eb p).2.2.2=0→NewAt z p y z1→FrA z.L.d.c z1.L.d.c→I { z1 with S:=Dd z1.S x y }
  dr:∀ {k:Nat} {z z':Sg} {b:Nat},LW k z→P0 z→I z→(∀ r∈refs z.S,r.1≠b)→GoneB z b z'→FrA z.L.d.c z'.L.d.c→I z'
def DnM (n:Nat) (q:Qt) (I:Sg→Prop) (z':Sg):Prop:=∃ k z1,LW k z1∧P0 z1∧I z1 ∧
  ((∃ x p y,x∈refs z1.S∧RecAt z1 x p∧(Eb p).2.2.2=0∧AppG n q z1 p 30 y z') ∨
   ∃ b:Nat,b<z1.L.nb∧(bAt z1.L.bs b).seq.toNat≠0∧(b:Int)≠z1.L.last∧(∀ r∈refs z1.S,r.1≠b)∧DropG n q z1 b 30 z')
theorem AppG.fra {n:Nat} {q:Qt} {z z':Sg} {p:Pg} {e:Int} {y:Pl2} (h:AppG n q z p e y z'):FrA z.L.d.c z'.L.d.c:=by
  rcases h.2.2.2.2.2 with ⟨_,_,h,_⟩ | h
  · exact h
  · exact h.2.2.2.1
theorem ShR.ok {n k:Nat} {q:Qt} {z z':Sg} {x:Pl2} {p:Pg} {e:Int} (hw:LW k z) (hk:k≤390000000000) (hP:P0 z) (hx:x∈refs z.S) (hr:RecAt z x p) (hg:(Eb p).2.2.2=0) (h:ShR n q z x p e z') (he:e≠30) :
    (e=40∧slots z=0)∨(e=0∧LW (k+1) z'∧slots z'+1=slots z∧P0 z'∧∃ y z1,NewAt z p y z1∧FrA z.L.d.c z1.L.d.c∧z'={ z1 with S:=Dd z1.S x y }∧refs z'.S=(refs z.S).map (mvP x y)):=by
  obtain ⟨y,z1,hA,rfl⟩:=h
  rcases hA.ok hw hk he with h | ⟨rfl,h2,h3,h4,h5⟩
  · exact .inl h
  · rw [A25 rfl]
    have hR:refs (Dd z1.S x y)=(refs z.S).map (mvP x y):=by rw [Aeu,h5.S]
    refine .inr ⟨rfl,h2.of rfl rfl,h3,fun r hr'=> ?_,y,z1,h5,hA.fra,rfl,hR⟩
    have hr':r∈refs (Dd z1.S x y):=hr'
    rw [hR] at hr'
    obtain ⟨r0,h6,rfl⟩:=A2b.1 hr'
    unfold mvP
    by_cases e:r0=x
    · rw [A25 e];exact ⟨p,h5.new,hg⟩
    · rw [A26 e]
      obtain ⟨p0,h7,h8⟩:=hP r0 h6
      exact ⟨p0,(h5.old _ _ h7).1,h8⟩
theorem EmA.keep {n:Nat} {q:Qt} {I:Sg→Prop} (hK:Kp I) {b:Nat} {xs:List Pl2} {e:Int} {z z':Sg} (h:EmA n q xs z e z'):∀ {k:Nat},LW k z→k+xs.length≤390000000000→P0 z→I z→(∀ x∈xs,x.1=b) →
    b<z.L.nb→(bAt z.L.bs b).seq.toNat≠0→(b:Int)≠z.L.last →
    (e=40∧slots z<Gd z.S xs)∨(e=30∧DnM n q I z') ∨
    (e=0∧LW (k+xs.length) z'∧P0 z'∧I z'∧slots z≤slots z'+Gd z.S xs∧(refs z'.S).length=(refs z.S).length∧(∀ r∈refs z'.S,r.1=b→r∈refs z.S∧r∉xs) ∧
      z'.L.nb=z.L.nb∧(bAt z'.L.bs b).seq.toNat≠0∧(b:Int)≠z'.L.last∧z'.R b=z.R b):=by
  induction h with
  | nil=>exact fun hw hk hP hI hb h1 h2 h3=> .inr (.inr ⟨rfl,hw,hP,hI,Nat.le_add_right _ _,rfl,fun r hr _=>⟨hr,by simp⟩,rfl,h2,h3,rfl⟩)
  | @skip x xs z z' e hc _ ih =>
    intro k hw hk hP hI hb h1 h2 h3
    rw [A0q] at hk
    have hcn:Gd z.S (x::xs)=Gd z.S xs:=by unfold Gd;rw [List.countP_cons_of_neg (by rw [hc];decide)]
    rw [hcn]
    rcases ih hw (by omega) hP hI (fun y hy=>hb y (Azm _ hy)) h1 h2 h3 with g | g | ⟨g1,g2,g3,g4,g5,g6,g7,g8⟩
    · exact .inl g
    · exact .inr (.inl g)
    · refine .inr (.inr ⟨g1,g2.mono (by rw [A0q];omega),g3,g4,g5,g6,fun r hr hrb=> ?_,g8⟩)
      obtain ⟨g9,g10⟩:=g7 r hr hrb
      refine ⟨g9,fun h9=> ?_⟩
      rcases A12.1 h9 with rfl | h9
      · rw [cntS_iff.2 g9] at hc;cases hc
      · exact g10 h9
  | @stop x xs z z1 e p hc hr hs he =>
    intro k hw hk hP hI hb h1 h2 h3
    obtain ⟨p',hr',hg⟩:=hP x (cntS_iff.1 hc)
    have:=hr.fn hr'
    subst this
    by_cases h30:e=30
    · subst h30
      refine .inr (.inl ⟨rfl,k,z,hw,hP,hI,.inl ?_⟩)
      obtain ⟨y,z2,hA,rfl⟩:=hs
      exact ⟨x,p,y,cntS_iff.1 hc,hr,hg,hA⟩
    · rcases hs.ok hw (by omega) hP (cntS_iff.1 hc) hr hg h30 with ⟨g1,g2⟩ | ⟨g1,_⟩
      · refine .inl ⟨g1,?_⟩
        rw [g2]
        unfold Gd
        rw [List.countP_cons_of_pos hc]
        omega
      · exact absurd g1 he
  | @go x xs z z1 z' e p hc hr hs _ ih =>
    intro k hw hk hP hI hb h1 h2 h3
    rw [A0q] at hk
    obtain ⟨p',hr',hg⟩:=hP x (cntS_iff.1 hc)
    have:=hr.fn hr'
    subst this
    obtain ⟨_,w1,w2,w3,y,z2,w4,w5,rfl,w7⟩:=(hs.ok hw (by omega) hP (cntS_iff.1 hc) hr hg (by decide)).resolve_left (fun h=>absurd h.1 (by decide))
    obtain ⟨v1,v2,v3⟩:=w4.blk b h1 h2 h3
    have hnew:∀ r:Pl2,r.1=(b:Int)→r∈refs (Dd z2.S x y)→r∈refs z.S∧r≠x:=fun r hrb hrm=>by
      have hrm:r∈refs ({ z2 with S:=Dd z2.S x y }:Sg).S:=hrm
      rw [w7] at hrm
      obtain ⟨r0,q1,rfl⟩:=A2b.1 hrm
      unfold mvP at hrb ⊢
      by_cases e:r0=x
      · rw [A25 e] at hrb;exact absurd hrb v1
      · rw [A26 e];exact ⟨q1,e⟩
    have hcn:Gd z.S (x::xs)=Gd z.S xs+1:=by unfold Gd;rw [List.countP_cons_of_pos hc]
    have hmono:Gd (Dd z2.S x y) xs≤Gd z.S xs:=by
      refine List.countP_mono_left fun r hr h9=> ?_
      exact cntS_iff.2 (hnew r (hb r (Azm _ hr)) (cntS_iff.1 h9)).1
    have hlen:(refs (Dd z2.S x y)).length=(refs z.S).length:=by
      have:refs (Dd z2.S x y)=(refs z.S).map (mvP x y):=w7
      rw [this,A1a]
    have hsq:(bAt z2.L.bs b).seq.toNat≠0:=by rw [w4.sq b h1 h2];exact h2
    rcases ih (k:=k+1) w1 (by omega) w3 (hK.sh hw hP hI (cntS_iff.1 hc) hr hg w4 w5) (fun y hy=>hb y (Azm _ hy)) (by show b<z2.L.nb;rw [w4.nb];exact h1) hsq v2 with ⟨g1,g2⟩ | g | ⟨g1,g2,g3,g4,g5,g6,g7,g8,g9,g10,g11⟩
    · refine .inl ⟨g1,?_⟩
      have g2:slots ({ z2 with S:=Dd z2.S x y }:Sg)<Gd (Dd z2.S x y) xs:=g2
      omega
    · exact .inr (.inl g)
    · refine .inr (.inr ⟨g1,g2.mono (by rw [A0q];omega),g3,g4,?_,g6.trans hlen,fun r hr hrb=> ?_,g8.trans w4.nb,g9,g10,g11.trans v3⟩)
      · have g5:slots ({ z2 with S:=Dd z2.S x y }:Sg)≤slots z'+Gd (Dd z2.S x y) xs:=g5
        omega
      · obtain ⟨q1,q2⟩:=g7 r hr hrb
        obtain ⟨q3,q4⟩:=hnew r hrb q1
        refine ⟨q3,fun h9=> ?_⟩
        rcases A12.1 h9 with h9 | h9
        · exact q4 h9
        · exact q2 h9
theorem Ags:Kp fun _=>True:=⟨fun _ _ _ _ _ _ _ _=>trivial,fun _ _ _ _ _ _=>trivial⟩
theorem Ho {b:Int} {r:List Pg} {i:Nat}:∀ x∈Fw b i r,x.1=b:=fun x hx=>by
  obtain ⟨j,p,_,_,rfl⟩:=recZ_mem.1 hx
  rfl
theorem Pi {z z1:Sg} {b:Nat} (hP:P0 z) (h:∀ r∈refs z1.S,r.1=b→r∈refs z.S∧r∉Fw b 2 (z.R b)):∀ r∈refs z1.S,r.1≠b:=fun r hr hrb=>by
  obtain ⟨h1,h2⟩:=h r hr hrb
  obtain ⟨p,⟨c,j,rfl,_,hp⟩,hg⟩:=hP r h1
  have:c=b:=by have e9:(c:Int)=b:=hrb;omega
  subst this
  exact h2 (recZ_mem.2 ⟨j,p,hp,hg,rfl⟩)
theorem Au1 {n k:Nat} {q:Qt} {z:Sg} (hw:LW k z) (hk:k≤380000000000) (hP:P0 z):Aus n q z:=fun b hb hs hl z1 hE j hj=>by
  have hlen:=O8 b (z.R b) 2
  have:=hw.rl b hb
  rcases hE.keep Ags (b:=b) hw (by omega) hP trivial Ho hb hs hl with ⟨h,_⟩ | ⟨h,_⟩ | ⟨_,_,_,_,_,_,h,_⟩
  · cases h
  · cases h
  · refine Ask fun h9=> ?_
    exact Pi hP h _ h9 rfl
theorem Aop {x y:Ldv} (h:Uh x y=true):x.c≤y.c:=by
  unfold Uh at h
  simp only [A0d] at h
  unfold orF at h
  by_cases e:Ug x.c y.c=0
  · unfold Ug at e
    split at e
    · cases e
    · split at e
      · cases e
      · omega
  · rw [A26 e] at h
    unfold Ug at h
    split at h
    · omega
    · split at h <;> omega
theorem Aoq {x y:Ldv} (h:Uh x y=false):y.c≤x.c:=by
  unfold Uh at h
  simp only [Ayz] at h
  by_cases hl:x.c<y.c
  · exfalso
    apply h
    unfold orF
    have:Ug x.c y.c= -1:=by unfold Ug;rw [A25 hl]
    rw [this]
    show (if (-1:Int)=0 then _ else (-1:Int))<0
    rw [A26 (by decide)]
    decide
  · omega
theorem Nq {xs:List Ldv} {but:Int}:∀ {i:Nat} {j:Nat},j<i→(j:Int)≠but→(C2 xs but i).2=true∧(Jf xs (C2 xs but i).1.toNat).c≤(Jf xs j).c
  | 0,j,h,_=>by omega
  | i+1,j,h,hb=>by
    unfold C2
    by_cases hc:(!decide ((i:Int)=but) && (!(C2 xs but i).2 || Uh (Jf xs i) (Jf xs (C2 xs but i).1.toNat)))=true
    · rw [A25 hc]
      refine ⟨rfl,?_⟩
      simp only [A0c]
      by_cases e:j=i
      · subst e;exact A2p _
      · obtain ⟨h1,h2⟩:=Nq (xs:=xs) (i:=i) (j:=j) (by omega) hb
        simp only [A0r,A1b,A0e] at hc
        rcases hc.2 with h3 | h3
        · rw [h1] at h3;cases h3
        · have:=Aop h3;omega
    · rw [A26 hc]
      by_cases e:j=i
      · subst e
        simp only [A0r,A1b,A0e,Ayz,not_and,not_or,Bool.not_eq_false,Bool.not_eq_true] at hc
        obtain ⟨h1,h2⟩:=hc hb
        exact ⟨h1,Aoq h2⟩
      · exact Nq (by omega) hb
theorem Qv (xs:List Ldv):∀ i j,j<i→(Jf xs j).s.seq.toNat≤(Jf xs (D4 xs i)).s.seq.toNat
  | 0,j,h=>by omega
  | i+1,j,h=>by
    unfold D4
    split
    · rename_i hlt
      by_cases e:j=i
      · subst e;exact A2q _
      · have:=Qv xs i j (by omega);omega
    · rename_i hlt
      by_cases e:j=i
      · subst e;omega
      · exact Qv xs i j (by omega)
theorem Pj {S:Sto} {ss:List Seg} {i:Nat} {g:Seg} (h:ss[i]? =some g):Jf (ss.map (ldS S)) i=ldS S g:=by
  unfold Jf
  rw [Ayg,A0f,h]
  rfl
theorem SegsOf.has {z:Sg} {ss:List Seg} (h:SegsOf z ss) {b:Nat} (hb:b<z.L.nb) (hs:(bAt z.L.bs b).seq.toNat≠0):∃ (i:Nat) (g:Seg),ss[i]? =some g∧g.b=b∧g.seq=(bAt z.L.bs b).seq∧g.recs.list=Fw b 2 (z.R b):=by
  have:((b:Int),(bAt z.L.bs b).seq,(bAt z.L.bs b).wear,Fw b 2 (z.R b))∈ss.map U5:=h.1.mem_iff.2 (segZ_mem.2 ⟨b,hb,hs,rfl⟩)
  obtain ⟨g,hg,hv⟩:=A2b.1 this
  unfold U5 at hv
  simp only [A13] at hv
  obtain ⟨i,hi⟩:=List.getElem?_of_mem hg
  exact ⟨i,g,hi,hv.1,hv.2.1,hv.2.2.2⟩
theorem Aor {k:Nat} {z:Sg} {ss:List Seg} (hw:LW k z) (hs:SegsOf z ss) {g:Seg} (hg:ss[D4 (ss.map (ldS z.S)) ss.length]? =some g):g.b=z.L.last:=by
  obtain ⟨b,hb,hsq,hgb,hgs,_,_⟩:=hs.mem (Azn hg)
  rcases hw.lst with ⟨_,h2⟩ | ⟨l,h1,h2,h3,h4⟩
  · exact absurd (h2 b hb) hsq
  · obtain ⟨i,g2,e1,e2,e3,_⟩:=hs.has h2 h3
    have hi:=(Aym.1 e1).1
    have hm:=Qv (ss.map (ldS z.S)) ss.length i hi
    rw [Pj e1,Pj hg] at hm
    have hm:g2.seq.toNat≤g.seq.toNat:=hm
    rw [e3,hgs] at hm
    by_cases e:b=l
    · subst e;rw [hgb,h1]
    · have:=h4 b hb e;omega
theorem Xe {α:Type} [DecidableEq α]:∀ {xs ys:List α},xs.Nodup→(∀ x∈xs,x∈ys)→xs.length≤ys.length
  | [],ys,_,_=>A2r _
  | x::xs,ys,hn,hs=>by
    rw [A1c] at hn
    have h1:=hs x Azx
    have h2:=Xe (ys:=ys.erase x) hn.2 fun y hy=>by
      have:y≠x:=fun e=>hn.1 (by rw [← e];exact hy)
      exact (List.mem_erase_of_ne this).2 (hs y (Azm _ hy))
    rw [Ayv h1] at h2
    have:=Ay3 h1
    rw [A0q]
    omega
theorem Zi (b:Int):∀ (r:List Pg) (i:Nat),(Fw b i r).Nodup∧∀ x∈Fw b i r,(i:Int)≤x.2
  | [],i=>⟨A1u,fun x h=>by cases h⟩
  | p::r,i=>by
    obtain ⟨h1,h2⟩:=Zi b r (i+1)
    unfold Fw
    refine ⟨A0g.2 ⟨by split <;> simp,h1,fun a ha c hc e=> ?_⟩,fun x hx=> ?_⟩
    · split at ha
      · have:=h2 c hc
        rw [← e] at this
        simp only [Azy] at ha
        rw [ha] at this
        simp only at this
        omega
      · cases ha
    · rcases A1d.1 hx with h | h
      · split at h
        · simp only [Azy] at h;rw [h];exact A2p _
        · cases h
      · have:=h2 x h;omega
def cz (R:Nat→List Pg):Nat→List Pl2
  | 0=>[]
  | j+1=>cz R j++Fw j 2 (R j)
theorem Ate (R:Nat→List Pg):∀ k,(cz R k).Nodup∧∀ x∈cz R k,x.1<k
  | 0=>⟨A1u,fun x h=>by cases h⟩
  | k+1=>by
    obtain ⟨h1,h2⟩:=Ate R k
    unfold cz
    refine ⟨A0g.2 ⟨h1,(Zi _ _ _).1,fun a ha c hc e=> ?_⟩,fun x hx=> ?_⟩
    · have e1:=Ho c hc
      have e2:=h2 a ha
      rw [e,e1] at e2
      omega
    · rcases A1d.1 hx with h | h
      · have:=h2 x h;omega
      · rw [Ho x h];omega
theorem Aos (S:Sto) (R:Nat→List Pg) (k:Nat):(cz R k).countP (I2 S)≤(refs S).length:=by
  rw [List.countP_eq_length_filter]
  exact Xe ((Ate R k).1.filter _) fun x hx=>cntS_iff.1 (A1e.1 hx).2
theorem Au2 {z:Sg} (hf:fr z≤1) (hc:(refs z.S).length+20≤6*z.L.nb):∃ b:Nat,b<z.L.nb∧(bAt z.L.bs b).seq.toNat≠0∧(b:Int)≠z.L.last∧Gd z.S (Fw b 2 (z.R b))≤5:=by
  refine Ayn fun hn=> ?_
  have hall:∀ b:Nat,b<z.L.nb→(bAt z.L.bs b).seq.toNat≠0→(b:Int)≠z.L.last→6≤Gd z.S (Fw b 2 (z.R b)):=fun b h1 h2 h3=>by
    refine Ayn fun h4=>hn ⟨b,h1,h2,h3,by omega⟩
  have key:∀ k,k≤z.L.nb→6*k≤(cz z.R k).countP (I2 z.S)+6*Cb z.L.bs k+(if 0≤z.L.last∧z.L.last<k then 6 else 0):=fun k=>by
    induction k with
    | zero=>exact fun _=>A2r _
    | succ k ih =>
      intro hk
      have ih:=ih (by omega)
      rw [F8]
      unfold cz z1
      rw [List.countP_append]
      by_cases h0:(bAt z.L.bs k).seq.toNat=0
      · rw [A25 h0]
        split at ih <;> split <;> omega
      · rw [A26 h0]
        by_cases hl:(k:Int)=z.L.last
        · rw [A26 (by omega)] at ih
          rw [A25 (by omega)]
          omega
        · have:=hall k (by omega) h0 hl
          unfold Gd at this
          split at ih <;> split <;> omega
  have h1:=key z.L.nb (A2q _)
  have h2:=Aos z.S z.R z.L.nb
  have h3:Cb z.L.bs z.L.nb≤1:=hf
  split at h1 <;> omega
theorem Aot {k:Nat} {z:Sg} {ss:List Seg} (hw:LW k z) (hs:SegsOf z ss) (hf:fr z≤1) (hc:(refs z.S).length+20≤6*z.L.nb) :
    (Fv (ss.map (ldS z.S))).2=true∧∀ g,ss[(Fv (ss.map (ldS z.S))).1.toNat]? =some g→Gd z.S g.recs.list≤5:=by
  obtain ⟨b,h1,h2,h3,h4⟩:=Au2 hf hc
  obtain ⟨i,g0,e1,e2,_,e4⟩:=hs.has h1 h2
  have hi:=(Aym.1 e1).1
  have hne:(i:Int)≠(D4 (ss.map (ldS z.S)) ss.length:Nat):=fun e=>by
    have:i=D4 (ss.map (ldS z.S)) ss.length:=by omega
    have:=Aor hw hs (g:=g0) (by rw [← this];exact e1)
    rw [e2] at this
    exact h3 this
  obtain ⟨m1,m2⟩:=Nq (xs:=ss.map (ldS z.S)) (but:=(D4 (ss.map (ldS z.S)) ss.length:Nat)) (i:=ss.length) hi hne
  unfold Fv
  rw [A1a]
  refine ⟨m1,fun g hg=> ?_⟩
  rw [Pj hg,Pj e1] at m2
  have m2:((Gd z.S g.recs.list:Nat):Int)≤(Gd z.S g0.recs.list:Nat):=m2
  rw [e4] at m2
  omega
theorem ColR.keep {n k:Nat} {q:Qt} {z z':Sg} {e:Int} {I:Sg→Prop} (hK:Kp I) (hw:LW k z) (hk:k≤380000000000) (hP:P0 z) (hI:I z) (hf:fr z=1) (hc:(refs z.S).length+20≤6*z.L.nb) (h:ColR n q z e z') :
    (e=30∧DnM n q I z')∨(e=0∧LW (k+6) z'∧P0 z'∧I z'∧slots z+1≤slots z'∧1≤fr z'∧(refs z'.S).length=(refs z.S).length∧z'.L.nb=z.L.nb):=by
  obtain ⟨ss,hss,h⟩:=h
  obtain ⟨v1,v2⟩:=Aot hw hss (by omega) hc
  rcases h with ⟨h1,_⟩ | ⟨_,g,b,hg,hgb,hnl,hE⟩
  · rw [v1] at h1;cases h1
  have hc5:=v2 g hg
  obtain ⟨b',hb',hsq,hgb',_,_,hrl⟩:=hss.mem (Azn hg)
  have:b'=b:=by omega
  subst this
  rw [hrl] at hc5
  have hlen:=O8 b' (z.R b') 2
  have hrl6:=hw.rl b' hb'
  have hsl:6≤slots z:=by unfold slots;omega
  rcases hE with ⟨he,hE⟩ | ⟨z1,hE,hD⟩
  · rcases hE.keep hK (b:=b') hw (by omega) hP hI Ho hb' hsq hnl with ⟨_,g1⟩ | g | ⟨g,_⟩
    · omega
    · exact .inl g
    · exact absurd g he
  · rcases hE.keep hK (b:=b') hw (by omega) hP hI Ho hb' hsq hnl with ⟨g,_⟩ | ⟨g,_⟩ | ⟨_,g2,g3,g4,g5,g6,g7,g8,g9,g10,g11⟩
    · cases g
    · cases g
    have hno:=Pi hP g7
    by_cases h30:e=30
    · subst h30
      exact .inl ⟨rfl,_,z1,g2,g3,g4,.inr ⟨b',by omega,g9,g10,hno,hD⟩⟩
    · have he:e=0:=by rcases hD.2.2.2.2.2.2 with h | h;exact h.1;exact absurd h.1 h30
      subst he
      have hfra:=hD.2.2.2.2.2.1
      obtain ⟨d1,d2,d3,d4⟩:=DropG.ok g2 (by omega) g9 g10 hD
      refine .inr ⟨rfl,d1.mono (by omega),fun r hr=> ?_,hK.dr g2 g3 g4 hno d4 hfra,?_,by omega,by rw [d4.S];exact g6,d4.nb.trans g8⟩
      · rw [d4.S] at hr
        obtain ⟨p,p1,p2⟩:=g3 r hr
        exact ⟨p,d4.old _ _ p1 (hno r hr),p2⟩
      · unfold slots at *
        omega
theorem RoomR.keep {n:Nat} {q:Qt} {m:Nat} {z z':Sg} {e:Int} {I:Sg→Prop} (hK:Kp I) (h:RoomR n q m z e z'):∀ {k:Nat},LW k z→k+6*m≤380000000000→P0 z→I z→1≤fr z→(refs z.S).length+20≤6*z.L.nb→13≤slots z+m →
    (e=30∧DnM n q I z')∨(e=0∧LW (k+6*m) z'∧P0 z'∧I z'∧2≤fr z'∧(refs z'.S).length=(refs z.S).length∧z'.L.nb=z.L.nb):=by
  induction h with
  | @enough m z h=>exact fun hw hk hP hI hf hc hs=> .inr ⟨rfl,hw.mono (by omega),hP,hI,h,rfl,rfl⟩
  | @out z=>exact fun hw hk hP hI hf hc hs=> .inr ⟨rfl,hw,hP,hI,by have:=Aon z;unfold slots at hs;omega,rfl,rfl⟩
  | @stop m z z1 e h1 h2 h3 =>
    intro k hw hk hP hI hf hc hs
    have h1:fr z≤1:=h1
    rcases h2.keep hK hw (by omega) hP hI (by omega) hc with g | ⟨g,_⟩
    · exact .inl g
    · exact absurd g h3
  | @go m z z1 z' e h1 h2 _ ih =>
    intro k hw hk hP hI hf hc hs
    have h1:fr z≤1:=h1
    rcases h2.keep hK hw (by omega) hP hI (by omega) hc with ⟨g,_⟩ | ⟨_,g1,g2,g3,g4,g5,g6,g7⟩
    · cases g
    · rcases ih g1 (by omega) g2 g3 g5 (by rw [g6,g7];exact hc) (by omega) with w | ⟨w1,w2,w3,w4,w5,w6,w7⟩
      · exact .inl w
      · exact .inr ⟨w1,w2.mono (by omega),w3,w4,w5,w6.trans g6,w7.trans g7⟩
theorem PutG.keep {n k:Nat} {q:Qt} {z z':Sg} {p:Pg} {e:Int} {y:Pl2} {I:Sg→Prop} (hK:Kp I) (hw:LW k z) (hk:k≤300000000000) (h40:z.L.nb≤40) (hP:P0 z) (hI:I z) (hf:1≤fr z) (hc:(refs z.S).length+20≤6*z.L.nb) (h:PutG n q z p e y z') :
    (e=30∧(DnM n q I z'∨∃ k' z1,LW k' z1∧P0 z1∧I z1∧2≤fr z1∧AppG n q z1 p 30 y z')) ∨
    (e=0∧∃ k' z1,LW k' z1∧P0 z1∧I z1∧2≤fr z1∧(refs z1.S).length=(refs z.S).length∧z1.L.nb=z.L.nb∧NewAt z1 p y z'∧FrA z1.L.d.c z'.L.d.c∧1≤fr z'∧LW (k+2000) z'):=by
  have hroom:∀ {e z1},RoomR n q (8*z.L.nb) z e z1→_:=fun h=>RoomR.keep hK h hw (by omega) hP hI hf hc (by unfold slots;omega)
  rcases h with ⟨he,h⟩ | ⟨z1,h,hA⟩
  · rcases hroom h with ⟨g1,g2⟩ | ⟨g,_⟩
    · exact .inl ⟨g1,.inl g2⟩
    · exact absurd g he
  · rcases hroom h with ⟨g1,_⟩ | ⟨_,g2,g3,g4,g5,g6,g7⟩
    · cases g1
    by_cases h30:e=30
    · subst h30
      exact .inl ⟨rfl,.inr ⟨_,z1,g2,g3,g4,g5,hA⟩⟩
    · rcases hA.ok g2 (by omega) h30 with ⟨_,w⟩ | ⟨w1,w2,w3,w4,w5⟩
      · unfold slots at w;omega
      · exact .inr ⟨w1,_,z1,g2,g3,g4,g5,g6,g7,w5,hA.fra,by unfold slots at w3;omega,w2.mono (by omega)⟩
theorem Agt {n:Nat} {q:Qt} {z:Sg} (hP:P0 z) (hf:1≤fr z) (hc:(refs z.S).length+20≤6*z.L.nb) (h13:z.L.nb≤13):Y3 n q z:=by
  intro z1 hC ⟨k1,hk1,hW1⟩ hf1
  have key:P0 z1∧1≤fr z1∧(refs z1.S).length=(refs z.S).length∧z1.L.nb=z.L.nb:=by
    clear hW1 hf1
    induction hC with
    | refl=>exact ⟨hP,hf,rfl,rfl⟩
    | @step z1 z2 _ hk hf1 hR ih =>
      obtain ⟨k,hk,hW⟩:=hk
      obtain ⟨i1,i2,i3,i4⟩:=ih
      have hf1:fr z1≤1:=hf1
      rcases hR.keep Ags hW.lw (by omega) i1 trivial (by omega) (by rw [i3,i4];exact hc) with ⟨g,_⟩ | ⟨_,_,g2,_,_,g5,g6,g7⟩
      · cases g
      · exact ⟨g2,g5,g6.trans i3,g7.trans i4⟩
  obtain ⟨k1',k2,k3,k4⟩:=key
  have k2':1≤Cb z1.L.bs z1.L.nb:=k2
  exact ⟨by omega,by omega,Au1 hW1.lw (by omega) k1'⟩
end
section
open Go.K
inductive Rc
  | nd (k:Int) (e:Wd) (b:List By)
  | cm (c:Cm)
  | vw (v:Vw)
def Rc.pg:Rc→Pg
  | .nd k e b=>Cw 10 (Ez k e b)
  | .cm c=>Cw 11 (F5 c)
  | .vw v=>Cw 12 (My v)
def Rc.body:Rc→List By
  | .nd k e b=>Ez k e b
  | .cm c=>F5 c
  | .vw v=>My v
def Rc.kind:Rc→By
  | .nd .. =>10
  | .cm _=>11
  | .vw _=>12
def Rc.ok:Rc→Prop
  | .nd k _ b=>Bt k b=true
  | _=>True
theorem Rc.pg_eq (r:Rc):r.pg=Cw r.kind r.body:=by cases r <;> rfl
theorem Rc.wr {r:Rc} (h:r.ok):C6 r.kind r.body=false:=by
  cases r with
  | nd k e b=>exact (J2 h).2.2.2.2
  | cm c=>show C6 11 (F5 c)=false;unfold C6;rw [Ja];rfl
  | vw v=>show C6 12 (My v)=false;unfold C6;rw [W6];rfl
theorem Rc.hi (r:Rc):3<r.kind.toNat:=by
  cases r with
  | nd k e b=>show 3<(10:By).toNat;decide
  | cm c=>show 3<(11:By).toNat;decide
  | vw v=>show 3<(12:By).toNat;decide
theorem Rc.get {r:Rc} (h:r.ok):Eb r.pg=(r.kind,r.body,0,0):=by rw [r.pg_eq];exact W3 r.hi (Rc.wr h)
theorem Rc.good {r:Rc} (h:r.ok):(Eb r.pg).2.2.2=0:=by rw [Rc.get h]
theorem Rc.bod {r s:Rc} (h:r.ok) (h2:s.ok) (he:r.pg=s.pg):r.kind=s.kind∧r.body=s.body:=by
  have:=A20 Eb he
  rw [Rc.get h,Rc.get h2] at this
  simp only [A13] at this
  exact ⟨this.1,this.2.1⟩
theorem Aou {k k':Int} {e e':Wd} {b b':List By} (h:Bt k b=true) (h':Bt k' b'=true) (he:(Rc.nd k e b).pg=(Rc.nd k' e' b').pg):k=k'∧e=e'∧b=b':=by
  obtain ⟨_,hb⟩:=Rc.bod (r:= .nd k e b) (s:= .nd k' e' b') h h' he
  have hb:Ez k e b=Ez k' e' b':=hb
  obtain ⟨_,h1,h2,h3,_⟩:=J2 (e:=e) h
  obtain ⟨_,h4,h5,h6,_⟩:=J2 (e:=e') h'
  rw [hb] at h1 h2 h3
  exact ⟨h1.symm.trans h4,h2.symm.trans h5,h3.symm.trans h6⟩
theorem Aov (x:BitVec 32):(D9 (Co 4 (x.setWidth 64)) 4).setWidth 32=x:=by
  apply Azg
  rw [Azd,O1 _ (by omega) 4 (by omega),Azd]
  have:=x.isLt
  omega
theorem Qw (c:Cm):Am6 (F5 c)=c:=by
  unfold Am6 F5
  have e1:(Co 8 c.ep++(Co 4 (c.sum.setWidth 64)++(c.lv.toList++[]))).take 8=Co 8 c.ep:=A1s (Bo ..)
  have e2:(Co 8 c.ep++(Co 4 (c.sum.setWidth 64)++(c.lv.toList++[]))).drop 8=Co 4 (c.sum.setWidth 64)++(c.lv.toList++[]):=A1t (Bo ..)
  have e3:(Co 8 c.ep++(Co 4 (c.sum.setWidth 64)++(c.lv.toList++[]))).drop 12=c.lv.toList:=by
    rw [show 12=8+4 from rfl,← A1y,e2,A1t (Bo ..),A1j]
  rw [e1,e2,e3,A1s (Bo ..),Jy,Aov]
  have:Yv c.lv.toList=c.lv:=by
    apply A2u
    intro i hi
    unfold Yv
    rw [Vector.getElem_ofFn]
    simp only [Ayg]
    rw [Ayw (by simpa using hi),Vector.getElem_toList]
    rfl
  rw [this]
theorem Aow {c c':Cm} (he:(Rc.cm c).pg=(Rc.cm c').pg):c=c':=by
  obtain ⟨_,hb⟩:=Rc.bod (r:= .cm c) (s:= .cm c') trivial trivial he
  have hb:F5 c=F5 c':=hb
  rw [← Qw c,← Qw c',hb]
def Asl (xs:List By):Vw:=⟨D9 (xs.take 8) 8,((D9 ((xs.drop 8).take 1) 1).toNat:Int),D9 ((xs.drop 9).take 8) 8⟩
theorem Au3 (x:Int):Er .and .i64 x 255=x % 256:=by
  have h:(BitVec.ofInt 64 x &&& BitVec.ofInt 64 255).toNat=(x % 256).toNat:=by
    rw [A07,Az9,show (BitVec.ofInt 64 255).toNat=2 ^ 8 - 1 from rfl,Ax9]
    omega
  show IntKind.i64.wrap (((BitVec.ofInt 64 x &&& BitVec.ofInt 64 255).toNat:Nat):Int)=_
  rw [h,Cx (by omega)]
  omega
theorem Aox (x:Int):((D9 (Co 1 (BitVec.ofInt 64 x)) 1).toNat:Int)=x % 256:=by
  rw [O1 _ (by omega) 1 (by omega),Az9]
  omega
theorem Zj (v:Vw):Asl (My v)=vwM v:=by
  unfold Asl My vwM
  have e1:(Co 8 v.num++(Co 1 (BitVec.ofInt 64 v.mem)++(Co 8 v.base++[]))).take 8=Co 8 v.num:=A1s (Bo ..)
  have e2:(Co 8 v.num++(Co 1 (BitVec.ofInt 64 v.mem)++(Co 8 v.base++[]))).drop 8=Co 1 (BitVec.ofInt 64 v.mem)++(Co 8 v.base++[]):=A1t (Bo ..)
  have e3:(Co 8 v.num++(Co 1 (BitVec.ofInt 64 v.mem)++(Co 8 v.base++[]))).drop 9=Co 8 v.base++[]:=by
    rw [show 9=8+1 from rfl,← A1y,e2,A1t (Bo ..)]
  rw [e1,e2,e3,A1s (Bo ..),A1s (Bo ..),Jy,Jy,Aox,Au3]
theorem Aoy {v v':Vw} (he:(Rc.vw v).pg=(Rc.vw v').pg):vwM v=vwM v':=by
  obtain ⟨_,hb⟩:=Rc.bod (r:= .vw v) (s:= .vw v') trivial trivial he
  have hb:My v=My v':=hb
  rw [← Zj v,← Zj v',hb]
theorem F6 {r s:Rc} (h:r.ok) (h2:s.ok) (hk:r.kind≠s.kind):r.pg≠s.pg:=fun he=>hk (Rc.bod h h2 he).1
abbrev NdM:=Int→Option (Wd×List By)
structure Ab where
  last:Cm
  vw:Vw
  viewed:Bool
  seen:Wd
  stray:Int→Bool
  ix:NdM
def Stands (z:Sg) (m:Mp En) (f:NdM):Prop:=∀ k,match f k with
  | none=>m.get k=none
  | some (e,b)=>∃ en,m.get k=some en∧en.ep=e∧Bt k b=true∧RecAt z en.at' (Rc.nd k e b).pg
theorem Stands.yes {z:Sg} {m:Mp En} {f:NdM} (h:Stands z m f) {k:Int} {e:Wd} {b:List By} (hf:f k=some (e,b)):∃ en,m.get k=some en∧en.ep=e∧Bt k b=true∧RecAt z en.at' (Rc.nd k e b).pg:=by
  have:=h k
  rw [hf] at this
  exact this
theorem Stands.no {z:Sg} {m:Mp En} {f:NdM} (h:Stands z m f) {k:Int} (hf:f k=none):m.get k=none:=by
  have:=h k
  rw [hf] at this
  exact this
theorem Stands.of {z:Sg} {m:Mp En} {f:NdM} (h:Stands z m f) {k:Int} {en:En} (hg:m.get k=some en):∃ b,f k=some (en.ep,b)∧Bt k b=true∧RecAt z en.at' (Rc.nd k en.ep b).pg:=by
  cases hf:f k with
  | none=>rw [h.no hf] at hg;cases hg
  | some r =>
    obtain ⟨e,b⟩:=r
    obtain ⟨en',h1,h2,h3,h4⟩:=h.yes hf
    rw [hg] at h1
    have:=A1h h1
    subst this
    subst h2
    exact ⟨b,rfl,h3,h4⟩
theorem Stands.mono {z z':Sg} {m:Mp En} {f:NdM} (h:Stands z m f) (hr:∀ k en,m.get k=some en→∀ p,RecAt z en.at' p→RecAt z' en.at' p):Stands z' m f:=fun k=>by
  have:=h k
  cases hf:f k with
  | none=>rw [hf] at this;exact this
  | some r =>
    obtain ⟨e,b⟩:=r
    rw [hf] at this
    obtain ⟨en,h1,h2,h3,h4⟩:=this
    exact ⟨en,h1,h2,h3,hr k en h1 _ h4⟩
theorem Stands.refs {z:Sg} {m:Mp En} {f:NdM} (h:Stands z m f) {x:Pl2} (hx:x∈m.es.map fun e=>e.v.at'):∃ k e b,Bt k b=true∧RecAt z x (Rc.nd k e b).pg:=by
  obtain ⟨e,he,rfl⟩:=A2b.1 hx
  obtain ⟨b,_,h1,h2⟩:=h.of (Mp.get_mem he)
  exact ⟨_,_,b,h1,h2⟩
def Awu (A:Ab) (k:Int) (e:Wd) (b:List By):Prop:=e.toNat≤A.seen.toNat∧(A.stray k=false→e.toNat≤A.last.ep.toNat) ∧
  (B4 A.last.lv k=true→e.toNat≤A.last.ep.toNat→∃ e' b',A.ix k=some (e',b')∧e.toNat≤e'.toNat∧(e=e'→b=b'))
structure Rz (A:Ab) (P:NdM) (Q:Int→Wd→List By→Prop) (z:Sg):Prop where
  last:z.S.last=A.last
  vw:z.S.vw=A.vw
  viewed:z.S.viewed=A.viewed
  ix:Stands z z.S.idx A.ix
  pd:Stands z z.S.pend P
  la:0<A.last.ep.toNat→RecAt z z.S.la (Rc.cm A.last).pg
  va:A.viewed=true→∃ v,vwM v=A.vw∧RecAt z z.S.va (Rc.vw v).pg
  kd:∀ x p,RecAt z x p→(Eb p).2.2.2=0→∃ r:Rc,r.ok∧p=r.pg
  nd:∀ x k e b,Bt k b=true→RecAt z x (Rc.nd k e b).pg→Awu A k e b∨Q k e b
  cm:∀ x c,RecAt z x (Rc.cm c).pg→0<c.ep.toNat∧c.ep.toNat≤A.last.ep.toNat∧(c.ep=A.last.ep→c=A.last)
  vs:∀ x v,RecAt z x (Rc.vw v).pg→A.viewed=true∧v.num.toNat≤A.vw.num.toNat∧(v.num=A.vw.num→vwM v=A.vw∨bef z x z.S.va)
section
variable {A:Ab} {P:NdM} {Q:Int→Wd→List By→Prop} {z z' z1:Sg}
theorem Rz.p0 (h:Rz A P Q z):P0 z:=fun r hr=>by
  unfold refs at hr
  rcases A1d.1 hr with h1 | h1
  · split at h1
    · rename_i hc
      rw [Azy.1 h1]
      exact ⟨_,h.la (by rw [← h.last];exact hc),Rc.good (r:= .cm _) trivial⟩
    · cases h1
  rcases A1d.1 h1 with h1 | h1
  · split at h1
    · rename_i hc
      rw [Azy.1 h1]
      obtain ⟨v,_,hv⟩:=h.va (by rw [← h.viewed];exact hc)
      exact ⟨_,hv,Rc.good (r:= .vw _) trivial⟩
    · cases h1
  rcases A1d.1 h1 with h1 | h1
  · obtain ⟨k,e,b,h2,h3⟩:=h.ix.refs h1
    exact ⟨_,h3,Rc.good (r:= .nd k e b) h2⟩
  · obtain ⟨k,e,b,h2,h3⟩:=h.pd.refs h1
    exact ⟨_,h3,Rc.good (r:= .nd k e b) h2⟩
theorem Rz.ref_vw (h:Rz A P Q z) {x:Pl2} {v:Vw} (hx:x∈refs z.S) (hr:RecAt z x (Rc.vw v).pg):vwM v=A.vw:=by
  unfold refs at hx
  rcases A1d.1 hx with h1 | h1
  · split at h1
    · rename_i hc
      rw [Azy.1 h1] at hr
      exact absurd (hr.fn (h.la (by rw [← h.last];exact hc))) (F6 (r:= .vw v) (s:= .cm _) trivial trivial (by show (12:By)≠11;decide))
    · cases h1
  rcases A1d.1 h1 with h1 | h1
  · split at h1
    · rename_i hc
      rw [Azy.1 h1] at hr
      obtain ⟨v',e,hv⟩:=h.va (by rw [← h.viewed];exact hc)
      rw [← e]
      exact Aoy (hr.fn hv)
    · cases h1
  rcases A1d.1 h1 with h1 | h1
  · obtain ⟨k,e,b,h2,h3⟩:=h.ix.refs h1
    exact absurd (hr.fn h3) (F6 (r:= .vw v) (s:= .nd k e b) trivial h2 (by show (12:By)≠10;decide))
  · obtain ⟨k,e,b,h2,h3⟩:=h.pd.refs h1
    exact absurd (hr.fn h3) (F6 (r:= .vw v) (s:= .nd k e b) trivial h2 (by show (12:By)≠10;decide))
theorem Rp (h:z.S.viewed=true):z.S.va∈refs z.S:=by
  unfold refs
  exact Aza _ (Azo _ (by rw [A25 h];exact Azy.2 rfl))
theorem Stands.moved {m:Mp En} {f:NdM} {x y:Pl2} {p:Pg} (h:Stands z m f) (hx:RecAt z x p) (hy:RecAt z' y p) (ho:∀ x r,RecAt z x r→RecAt z' x r):Stands z' (m.mapV (mvE x y)) f:=fun k=>by
  have:=h k
  cases hf:f k with
  | none=>rw [hf] at this;show (m.mapV (mvE x y)).get k=none;rw [Mp.get_mapV,show m.get k=none from this];rfl
  | some r =>
    obtain ⟨e,b⟩:=r
    rw [hf] at this
    obtain ⟨en,h1,h2,h3,h4⟩:=this
    refine ⟨mvE x y en,by rw [Mp.get_mapV,h1];rfl,by rw [Au0];exact h2,h3,?_⟩
    rw [Aet]
    unfold mvP
    by_cases e0:en.at'=x
    · rw [A25 e0,h4.fn (by rw [e0];exact hx)];exact hy
    · rw [A26 e0];exact ho _ _ h4
theorem Rz.sh {k:Nat} (hw:LW k z) (h:Rz A P Q z) {x y:Pl2} {p:Pg} (hx:x∈refs z.S) (hr:RecAt z x p) (hg:(Eb p).2.2.2=0) (hn:NewAt z p y z1):Rz A P Q { z1 with S:=Dd z1.S x y }:=by
  have hS:=hn.S
  have hold:∀ x r,RecAt z x r→RecAt z1 x r:=fun x r hx=>(hn.old x r hx).1
  have hinv:∀ x' r,RecAt z1 x' r→∃ x0,RecAt z x0 r:=fun x' r h1=>by
    rcases hn.inv x' r h1 with h2 | ⟨_,rfl⟩
    · exact ⟨x',h2⟩
    · exact ⟨x,hr⟩
  refine ⟨?_,?_,?_,?_,?_,fun h0=> ?_,fun h0=> ?_,fun x' p' h1 h2=> ?_,fun x' k e b h1 h2=> ?_,fun x' c h1=> ?_,fun x' v h1=> ?_⟩
  · show z1.S.last=_;rw [hS];exact h.last
  · show z1.S.vw=_;rw [hS];exact h.vw
  · show z1.S.viewed=_;rw [hS];exact h.viewed
  · show Stands _ (z1.S.idx.mapV (mvE x y)) _
    rw [hS]
    exact (h.ix.moved hr hn.new hold).mono fun _ _ _ _ h9=>h9
  · show Stands _ (z1.S.pend.mapV (mvE x y)) _
    rw [hS]
    exact (h.pd.moved hr hn.new hold).mono fun _ _ _ _ h9=>h9
  · show RecAt z1 (Dd z1.S x y).la _
    rw [Ach (by rw [hS,h.last];exact h0),hS]
    have h4:=h.la h0
    unfold mvP
    by_cases e0:z.S.la=x
    · rw [A25 e0,h4.fn (by rw [e0];exact hr)];exact hn.new
    · rw [A26 e0];exact hold _ _ h4
  · obtain ⟨v,h3,h4⟩:=h.va h0
    refine ⟨v,h3,?_⟩
    show RecAt z1 (Dd z1.S x y).va _
    rw [Uv (by rw [hS,h.viewed];exact h0),hS]
    unfold mvP
    by_cases e0:z.S.va=x
    · rw [A25 e0,h4.fn (by rw [e0];exact hr)];exact hn.new
    · rw [A26 e0];exact hold _ _ h4
  · obtain ⟨x0,h3⟩:=hinv x' p' h1
    exact h.kd x0 p' h3 h2
  · obtain ⟨x0,h3⟩:=hinv x' _ h2
    exact h.nd x0 k e b h1 h3
  · obtain ⟨x0,h3⟩:=hinv x' _ h1
    exact h.cm x0 c h3
  · have h1:RecAt z1 x' (Rc.vw v).pg:=h1
    show A.viewed=true∧v.num.toNat≤A.vw.num.toNat∧(v.num=A.vw.num→vwM v=A.vw∨bef z1 x' (Dd z1.S x y).va)
    rcases hn.inv x' _ h1 with h2 | ⟨rfl,h2⟩
    · obtain ⟨g1,g2,g3⟩:=h.vs x' v h2
      refine ⟨g1,g2,fun g4=>(g3 g4).imp id fun g5=> ?_⟩
      obtain ⟨v',_,h5⟩:=h.va g1
      rw [Uv (by rw [hS,h.viewed];exact g1),hS]
      unfold mvP
      by_cases e0:z.S.va=x
      · rw [A25 e0];exact hn.bef _ _ h2
      · rw [A26 e0];exact (hn.ord hw h2 h5).2 g5
    · have h3:RecAt z x (Rc.vw v).pg:=by rw [h2];exact hr
      obtain ⟨g1,g2,g3⟩:=h.vs x v h3
      exact ⟨g1,g2,fun _=> .inl (h.ref_vw hx h3)⟩
theorem Rz.dr (h:Rz A P Q z) {b:Nat} (hno:∀ r∈refs z.S,r.1≠b) (hg:GoneB z b z'):Rz A P Q z':=by
  have hS:=hg.S
  have hm:∀ {m:Mp En} {f:NdM},(∀ e∈m.es,e.v.at'.1≠b)→Stands z m f→Stands z' m f:=fun hm h=>h.mono fun k en hk p hp=>by
    obtain ⟨e,he,_,rfl⟩:=Mp.mem_get hk
    exact hg.old _ _ hp (hm e he)
  refine ⟨by rw [hS];exact h.last,by rw [hS];exact h.vw,by rw [hS];exact h.viewed,?_,?_,fun h0=> ?_,fun h0=> ?_,fun x p h1 h2=>h.kd x p (hg.inv _ _ h1).1 h2,fun x k e b h1 h2=>h.nd x k e b h1 (hg.inv _ _ h2).1,fun x c h1=>h.cm x c (hg.inv _ _ h1).1,fun x v h1=> ?_⟩
  · rw [hS]
    exact hm (fun e he=>hno _ (by unfold refs;exact Aza _ (Aza _ (Azo _ (A2b.2 ⟨e,he,rfl⟩))))) h.ix
  · rw [hS]
    exact hm (fun e he=>hno _ (by unfold refs;exact Aza _ (Aza _ (Aza _ (A2b.2 ⟨e,he,rfl⟩))))) h.pd
  · rw [hS]
    refine hg.old _ _ (h.la h0) (hno _ ?_)
    unfold refs
    exact Azo _ (by rw [A25 (by rw [h.last];exact h0)];exact Azy.2 rfl)
  · obtain ⟨v,h3,h4⟩:=h.va h0
    rw [hS]
    exact ⟨v,h3,hg.old _ _ h4 (hno _ (Rp (by rw [h.viewed];exact h0)))⟩
  · obtain ⟨g1,g2,g3⟩:=h.vs x v (hg.inv _ _ h1).1
    refine ⟨g1,g2,fun g4=>(g3 g4).imp id fun g5=> ?_⟩
    obtain ⟨v',_,h5⟩:=h.va g1
    rw [hS]
    exact (hg.ord h1 (hg.old _ _ h5 (hno _ (Rp (by rw [h.viewed];exact g1))))).2 g5
def IRz (A:Ab) (P:NdM) (Q:Int→Wd→List By→Prop) (S0:Sto) (c0:Chip) (z:Sg):Prop:=Rz A P Q z∧SameS S0 z.S∧FrA c0 z.L.d.c
theorem Aoz (A:Ab) (P:NdM) (Q:Int→Wd→List By→Prop) (S0:Sto) (c0:Chip):Kp (IRz A P Q S0 c0) :=
  ⟨fun hw _ hI hx hr hg hn hf=>⟨hI.1.sh hw hx hr hg hn,(hI.2.1.trans (.of hn.S)).trans (Uk _ _ _),hI.2.2.trans hf⟩,
   fun hw _ hI hno hg hf=>⟨hI.1.dr hno hg,hI.2.1.trans (.of hg.S),hI.2.2.trans hf⟩⟩
end
end
section
open Go.K
variable {T:TypeId}
instance byt40:Byt Tryz.prog 40 40:=⟨by kernel_rfl⟩
instance ent55:Ent Tryz.prog 55:=⟨fun _ _=>by kernel_rfl⟩
theorem Ar6 {s:Sl Int} {x:Int} {T:TypeId}:Does Tryz.prog 127 [s.val,.int .i64 x] (s.hp T++[]) (fun v H=>∃ r:Int,v= .int .i64 r∧H=s.hp T++[]∧(decide (r≥0)=decide (x∈s.list))):=by
 have hsm:=s.small
 refine Ah (n:=19) Tryz.func127 Tryz.ntmps127 rfl (Ay9 rfl)<|Ad<|Aa fun ops=>oA rfl<|Ac<|n_K<|Ad<|Ad<|Aa fun ops=>oM rfl<|oR (A7 rfl)<|oM rfl<|Ac<|n_K ?_
 refine Ak ?_
 refine A8 [0,1,6,7] kQ (fun (i:Nat)=>[(8,.int .i64 i)]) (fun (i:Nat)=>(s.hp T++[])) (fun (i:Nat)=>i≤s.list.length∧x∉s.list.take i) (fun (i:Nat)=>s.list.length - i) (0) ⟨A2r _,by simp⟩ kP sP ?_
 rintro i ⟨g0,g1⟩
 refine Ad<|Aa fun ops=>oR (Ae rfl rfl rfl)<|Ac<|n_K<|Ad ?_
 refine Aj rfl (fun c9=> ?_) (fun c9=> ?_)
 ·simp only [A0d,Ayz] at c9
  obtain ⟨y,hg⟩:∃ y,s.list[i]? =some y:=⟨_,Ayw (by omega)⟩
  refine Ai<|n_K<|Ad<|Ak<|Ad<|Aa fun ops=>oM rfl<|oA rfl<|Ac<|n_K<|Ad<|Aa fun ops=>oM rfl<|oM rfl ?_
  refine oM rfl ?_
  refine oR (Bk rfl rfl (by omega)) ?_
  refine oR (C0 (o:=0) rfl pL hg rfl rfl) ?_
  refine oR (Ae rfl rfl rfl)<|Ac<|n_K ?_
  refine Aj rfl (fun c16=> ?_) (fun c16=> ?_)
  ·simp only [A0d,Ayz] at c16
   refine Ad<|Aa fun ops=>oM rfl<|oA rfl<|Ac<|n_K<|An<|Bn<|r_K<|r_K<|Bn<|r_K ?_
   exact Av (At Tryz.results127 (Ag rfl)) (by exact ⟨(i:Int),rfl,rfl,A0x.2 ⟨fun _=>by rw [c16];exact Azn hg,fun _=>by omega⟩⟩) sP
  ·simp only [A0d,Ayz] at c16
   refine Ai<|Az<|n_K<|Aa fun ops=> ?_
   refine oR (Ao rfl rfl (by omega)) ?_
   refine oM rfl<|Ac<|n_K ?_
   exact ⟨i+1,⟨by omega,by rw [A0i,hg];simp;exact ⟨g1,c16⟩⟩,(by omega),lZ⟩
 ·simp only [A0d,Ayz] at c9
  have hi:i=s.list.length:=(by omega)
  subst hi
  rw [A0w] at g1
  refine Bb<|x_K<|x_K<|Bj<|n_K<|Ad<|Aa fun ops=>oA rfl<|Ac<|n_K<|An ?_
  exact Av (At Tryz.results127 (Ag rfl)) (by exact ⟨-1,rfl,rfl,A0x.2 ⟨fun h=>absurd h (by decide),fun h=>absurd h g1⟩⟩) sP
theorem Ar7 {s:Sl Int} {x:Int} {T:TypeId}:Does Tryz.prog 81 [s.val,.int .i64 x] (s.hp T++[]) (Is (.bool (decide (x∈s.list))) (s.hp T++[])):=by
 refine Ah (n:=9) Tryz.func81 Tryz.ntmps81 rfl (Ay9 rfl)<|Ad<|Aa fun ops=>oA rfl<|Ac<|n_K<|Ad<|Aa fun ops=>oM rfl<|oM rfl ?_
 refine Bd rfl (Ar6) sP rfl fun v7 Y7 h7=> ?_
 obtain ⟨r7,rfl,rfl,hr7⟩:=h7
 refine Ay aQ ?_
 refine oR (Ae rfl rfl rfl)<|oA rfl<|Ac<|n_K<|An ?_
 refine Aq (At Tryz.results81 (Ag rfl)) ?_ sP
 rw [← hr7]
theorem Mf (l:List Nd) (x:Nd) (D:Hp):Iw (l++[x])++D=Iw l++(x.body.hp tU8++D):=by
 unfold Iw
 simp
theorem An1:Iw []=[]:=by unfold Iw;rfl
def Eq (l:Lv) (but:List Int) (k:Int):Bool:=B4 l k && !decide (k∈but)
def Fo (S:Sto) (l:Lv) (ep:Wd) (but:List Int) (bi:Int→List By):List N3:=((Dz S.stray.keys).filter (Eq l but)).map fun k=>(k,ep,bi k)
section
variable {n k:Nat} {q:Qt} {z:Sg}
theorem An2 (h:WI n k q z) {l:Lv} {ep:Wd} {but:Sl Int} {bi:Int→List By} (hm:z.S.stray.es.length≤1000)
  (hA:∀ k∈z.S.stray.keys,Eq l but.list k=true→∃ e,z.S.idx.get k=some e∧Bt k (bi k)=true∧RecAt z e.at' (Cw 10 (Ez k e.ep (bi k)))) :
  Does Tryz.prog 55 [ptr z.S.st,.agg (vbc l).toArray,wv ep,but.val] (Dy T::(z.S.st,true,C (stC z.S) tSt)::(z.S.ib,true,z.S.idx.obj .i64)::(z.S.pb,true,z.S.pend.obj .i64)::(z.S.sb,true,z.S.stray.obj .i64)::(lgH z.L++(but.hp tI++[])))
  (fun v H=>∃ nds:Sl Nd,v= .tuple #[nds.val,.int .i64 0]∧H=nds.hp tNd++(Iw nds.list++(Dy T::(z.S.st,true,C (stC z.S) tSt)::(z.S.ib,true,z.S.idx.obj .i64)::(z.S.pb,true,z.S.pend.obj .i64)::(z.S.sb,true,z.S.stray.obj .i64)::(lgH z.L++(but.hp tI++[]))))∧nds.isOwn=true∧nds.list.map nd3=Fo z.S l ep but.list bi):=by
 refine Ah (n:=53) Tryz.func55 Tryz.ntmps55 rfl (Ay9 rfl)<|Ad<|Aa fun ops=> ?_
 refine Ec rfl rfl fun b5=> ?_
 refine oA rfl<|oA rfl<|Ac<|n_K<|Ad<|Ad<|Aa fun ops=>oM rfl<|oN rfl<|oF rfl ?_
 refine oR (Al rfl mM rfl) ?_
 refine Bd rfl (Auu (bm:=z.S.sb)) sP rfl fun v19 Y19 h19=> ?_
 obtain ⟨bp,rfl,rfl⟩:=h19
 refine Ay aQ ?_
 refine Bd rfl (Arz hm) sP rfl fun v20 Y20 h20=> ?_
 obtain ⟨s20,rfl,rfl,ho20,hl20⟩:=h20
 refine Ay aQ ?_
 refine oR (A7 rfl)<|oM rfl<|Ac<|n_K<|Ak ?_
 have hsm:s20.list.length≤1000:=(by rw [hl20,(B5 _).length_eq,Mp.keys_len];exact hm)
 refine Im (Gu (α:=Nd) (T:=tNd)) ?_
 refine A8 [0,2,3,5,20,21] kQ (fun (st:Nat×Sl Nd)=>[(22,.int .i64 st.1),(8,st.2.val)]) (fun (st:Nat×Sl Nd)=>(st.2.hp tNd++(Iw st.2.list++((b5,true,C (vbc l) tLv)::Dy T::(z.S.st,true,C (stC z.S) tSt)::(z.S.ib,true,z.S.idx.obj .i64)::(z.S.pb,true,z.S.pend.obj .i64)::(z.S.sb,true,z.S.stray.obj .i64)::(lgH z.L++(but.hp tI++(s20.hp tI++[]))))))) (fun (st:Nat×Sl Nd)=>st.1≤s20.list.length∧st.2.list.map nd3=((s20.list.take st.1).filter (Eq l but.list)).map (fun k=>(k,ep,bi k))∧st.2.isOwn=true) (fun (st:Nat×Sl Nd)=>s20.list.length - st.1) ((0,Sl.nil)) ⟨A2r _,rfl,rfl⟩ kP (by show Split _ (Sl.hp tNd Sl.nil++(Iw []++_)) _;rw [An1];exact sP) ?_
 rintro ⟨i,nds⟩ ⟨g0,g1,g2⟩
 simp only at g0 g1 g2
 have hnl:nds.list.length≤1000:=(by have h1:=A20 List.length g1;rw [A1a,A1a] at h1;have h2:=Azb (Eq l but.list) (s20.list.take i);rw [A0v] at h2;omega)
 refine Ad<|Aa fun ops=>oR (Ae rfl rfl rfl)<|Ac<|n_K<|Ad ?_
 refine Aj rfl (fun c23=> ?_) (fun c23=> ?_)
 ·simp only [A0d,Ayz] at c23
  obtain ⟨x,hg⟩:∃ x,s20.list[i]? =some x:=⟨_,Ayw (by omega)⟩
  have htk:s20.list.take (i+1)=s20.list.take i++[x]:=(by rw [A0i,hg];rfl)
  refine Ai<|n_K<|Ad<|Ak<|Ad<|Aa fun ops=> ?_
  refine oR (Bk (s:=s20) rfl rfl (by omega)) ?_
  refine oR (C0 (s:=s20) (o:=0) rfl pL hg rfl rfl) ?_
  refine oA rfl<|Ac<|n_K<|Ad<|Ad ?_
  refine Bf [(4,30)] rfl fun ops y=> ?_
  refine oR (Au rfl mM (by first | exact Bg | rfl)) ?_
  refine oM rfl ?_
  refine A6 rfl (Ue) sP rfl aQ ?_
  refine oR (Bx rfl)<|oM rfl ?_
  refine' Es (j:=4) (k:=3) y rfl rfl rfl rfl rfl rfl rfl (fun hg30=> ?_) ?_
  rotate_left
  ·try (simp at hg30;show _)
   refine o_g y rfl rfl ?_
   refine oM rfl ?_
   refine o_g y rfl rfl ?_
   refine oM rfl ?_
   refine o_g y rfl rfl ?_
   refine A6 rfl (Ar7) sP rfl aQ ?_
   exact Ac ⟨rfl,rfl,⟨_,sP⟩⟩
  refine Ac<|n_K ?_
  refine Aj rfl (fun c34=> ?_) (fun c34=> ?_)
  ·skip
   have hk:Eq l but.list x=false:=(by unfold Eq;revert c34;cases B4 l x <;> simp)
   have hI:nds.list.map nd3=((s20.list.take (i+1)).filter (Eq l but.list)).map (fun k=>(k,ep,bi k)):=(by rw [htk,A0a,g1];simp [hk])
   refine Bb<|x_K<|Bj<|n_K<|Aa fun ops=> ?_
   refine oR (Ao rfl rfl (by omega)) ?_
   refine oM rfl<|Ac<|n_K ?_
   first | exact ⟨(i+1,nds),⟨by simp only;omega,hI,g2⟩,by simp only;omega,lZ⟩ | exact ⟨(i+1,s'),⟨by simp only;omega,by simp only;rw [htk,A0a,hs1,A1i,g1];simp [hk,nd3,hs38],hs2⟩,by simp only;omega,kP,kP,_,(by simp only;rw [hs1,Mf];exact sP)⟩
  ·skip
   have hk:Eq l but.list x=true:=(by unfold Eq;revert c34;cases B4 l x <;> simp)
   obtain ⟨e,he1,he2,he3⟩:=hA x (by have:=Azn hg;rw [hl20] at this;exact (B5 _).mem_iff.1 this) hk
   refine Ai<|n_K<|Ad<|Aa fun ops=>oM rfl<|oM rfl ?_
   refine Bd rfl (W5 (z:=z) h he1 he3 he2) sP rfl fun v38 Y38 h38=> ?_
   obtain ⟨s38,rfl,rfl,hs38,ho38⟩:=h38
   refine Ay aQ ?_
   refine oM rfl<|oE rfl rfl<|oE rfl rfl<|oE rfl rfl ?_
   refine Aw rfl fun b12=> ?_
   refine Af rfl rfl uD rfl rfl rfl ?_
   refine oA rfl<|oA rfl<|Ac<|n_K<|Ad<|Ad<|Aa fun ops=>oM rfl<|oR (Ae rfl rfl rfl)<|Ac<|n_K ?_
   refine Bi rfl ?_
   refine Ai<|n_K<|Ad<|Aa fun ops=>oM rfl<|oF rfl ?_
   refine Af rfl rfl uD rfl rfl rfl ?_
   refine Ac<|n_K<|Aa fun ops=>oM rfl ?_
   refine oR (Au rfl mM rfl) ?_
   refine A5 rfl rfl rfl rfl fun b49=> ?_
   refine Bp (s:=nds) (new:=[(⟨x,ep,s38⟩:Nd)]) (m:=1) rfl rfl pL g2 (Cv (r:=true) mM rfl) rfl rfl rfl rfl (by omega) rfl fun s' hs1 hs2=> ?_
   refine oA rfl<|Ac<|Az<|n_K<|Aa fun ops=> ?_
   refine oR (Ao rfl rfl (by omega)) ?_
   refine oM rfl<|Ac<|n_K ?_
   first | exact ⟨(i+1,nds),⟨by simp only;omega,hI,g2⟩,by simp only;omega,lZ⟩ | exact ⟨(i+1,s'),⟨by simp only;omega,by simp only;rw [htk,A0a,hs1,A1i,g1];simp [hk,nd3,hs38],hs2⟩,by simp only;omega,kP,kP,_,(by simp only;rw [hs1,Mf];exact sP)⟩
 ·simp only [A0d,Ayz] at c23
  have hi:i=s20.list.length:=(by omega)
  subst hi
  rw [A0w] at g1
  refine Bb<|x_K<|x_K<|Bj<|n_K<|Ad<|Aa fun ops=>oM rfl<|oA rfl<|oA rfl<|Ac<|n_K<|An ?_
  exact Av (Bz Tryz.results55 (Ag rfl) (Ag rfl)) (by exact ⟨nds,rfl,rfl,g2,by rw [g1,hl20];rfl⟩) sP
end
end
section
open Go.K
variable {T:TypeId}
instance und28:Und Tryz.prog 28 (.slice 45):=⟨Tryz.underlying28⟩
instance agg28:Agg Tryz.prog 28 false:=⟨⟨_,Tryz.underlying28,rfl⟩⟩
instance agg45:Agg Tryz.prog 45 true:=⟨⟨_,Tryz.underlying45,rfl⟩⟩
instance siz45:Siz Tryz.prog 45 3:=⟨by kernel_rfl⟩
instance zer45:Zer Tryz.prog 45 ([.int .i64 0,.bool false,.slice none 0 0]):=⟨by kernel_rfl⟩
instance fld45_1:Fld Tryz.prog 45 1 1:=⟨⟨_,_,0,Tryz.underlying45,rfl,by kernel_rfl,rfl⟩⟩
instance plc57:Plc Tryz.prog 57 [(0,1),(1,32),(33,1)]:=⟨⟨_,Tryz.underlying57,fun _=>by kernel_rfl⟩⟩
instance ent16:Ent Tryz.prog 16:=⟨fun _ _=>by kernel_rfl⟩
abbrev tCg:TypeId:=45
@[irreducible] def cbH (l:List Chg):Hp:=l.flatMap fun x=>x.body.hp tU8
theorem An3 {l:List Chg} {i:Nat} {x:Chg} (h:l[i]? =some x) (D:Hp):cbH l++D=cbH (l.take i)++(x.body.hp tU8++(cbH (l.drop (i+1))++D)):=by
 obtain ⟨h1,h2⟩:=Aym.1 h
 have e:l=l.take i++x::l.drop (i+1):=by
  conv=>lhs;rw [← Aze i l,Ayq h1,h2]
 unfold cbH
 conv=>lhs;rw [e]
 simp
def Eh (l:Lv) (c:Chg):Lv:=if c.gone=true then Gv l c.key else Eg l c.key
def Pb (c:Chg):Bool:=Bt c.key c.body.list
def Cc (z:Sg) (cs:List Chg):Lv:=cs.foldl Eh z.S.last.lv
def L4 (z:Sg) (ep:Wd) (cs:List Chg):Bool:=decide ((ep.toNat:Int)>(z.S.seen.toNat:Int)) && cs.all Pb
def Ch (z:Sg) (ep:Wd) (cs:List Chg):Bool:= !L4 z ep cs || !Rn (cs.map (·.key))
def Cn (z:Sg) (cs:List Chg):Bool:=decide (((C8 (Cc z cs) 256).length:Int)>Hy z.L.nb)
def Eo (ep:Wd) (cs:List Chg):List N3:=(cs.filter fun c=> !c.gone).map fun c=>(c.key,ep,c.body.list)
def B7 (z:Sg) (ep:Wd) (cs:List Chg) (bi:Int→List By):List N3:=Fo z.S (Cc z cs) ep (cs.map (·.key)) bi++Eo ep cs
def G0 (z:Sg):Sg:={ z with S:={ z.S with pend:=z.S.pend.clr } }
def Si (n:Nat) (q:Qt) (z:Sg) (ep:Wd) (cs:List Chg) (bi:Int→List By) (e:Int) (z':Sg):Prop :=
 (Ch z ep cs=true∧e=1∧z'=z)∨(Ch z ep cs=false∧Cn z cs=true∧e=40∧z'=z) ∨
 (Ch z ep cs=false∧Cn z cs=false∧∃ e1 z1,WrR n q (B7 z ep cs bi) (G0 z) e1 z1 ∧
  ((e1≠0∧e=e1∧z'=G0 z1)∨(e1=0∧∃ m z2,Mz z1.S (Cc z cs) m∧EndR n q z1 ⟨ep,Cc z cs,K5 m⟩ e z2∧z'=G0 z2)))
theorem An4 {S:Sto} {l:Lv} {m:Mp En} (h:Mz S l m):m.es.length≤1000:=by
 rw [← Mp.keys_len]
 have:m.keys.length≤(C8 l 256).length:=by
  refine Fs ?_ ?_
  ·exact m.keys_nodup
  ·intro k hk
   have h1:=Mp.get_some.2 hk
   rw [h k] at h1
   refine keysL_mem.2 ?_
   by_cases h2:B4 l k=true
   ·exact h2
   ·rw [A26 h2] at h1;cases h1
 have:=Hb l 256
 omega
theorem Ai9 {l:Lv} {b:Nat} {x:Int}:Does Tryz.prog 52 [.agg (vbc l).toArray,.slice (some ⟨b,0,none⟩) 1 1] [(b,true,C [.int .i64 x] tI)] (Is (.agg (vbc (Eg l x)).toArray) [(b,true,C [.int .i64 x] tI)]):=by
 have h:=Arm (l:=l) (s:= .own b [x] 1 [] ⟨by simp,A2q _,by simp⟩) (T:=tI)
 rw [Sl.hp_own] at h
 exact h
theorem Aja {l:Lv} {b:Nat} {x:Int}:Does Tryz.prog 51 [.agg (vbc l).toArray,.slice (some ⟨b,0,none⟩) 1 1] [(b,true,C [.int .i64 x] tI)] (Is (.agg (vbc (Gv l x)).toArray) [(b,true,C [.int .i64 x] tI)]):=by
 have h:=Arn (l:=l) (s:= .own b [x] 1 [] ⟨by simp,A2q _,by simp⟩) (T:=tI)
 rw [Sl.hp_own] at h
 exact h
theorem An5 {z:Sg} {ep:Wd} {cs:List Chg} {bi:Int→List By} (hA:∀ k∈z.S.stray.keys,Eq (Cc z cs) (cs.map (·.key)) k=true→∃ e,z.S.idx.get k=some e∧Bt k (bi k)=true∧RecAt z e.at' (Cw 10 (Ez k e.ep (bi k)))) (hb:Ch z ep cs=false) :
  ∀ x∈B7 z ep cs bi,Bt x.1 x.2.2=true:=fun x hx=>by
 unfold B7 at hx
 rcases A1d.1 hx with h | h
 ·unfold Fo at h
  obtain ⟨k,hk,rfl⟩:=A2b.1 h
  obtain ⟨h1,h2⟩:=A1e.1 hk
  obtain ⟨e,_,h3,_⟩:=hA k ((B5 _).mem_iff.1 h1) h2
  exact h3
 ·unfold Eo at h
  obtain ⟨c,hc,rfl⟩:=A2b.1 h
  have h1:=(A1e.1 hc).1
  unfold Ch L4 at hb
  simp only [Azp,Az7,A0r,A00] at hb
  exact hb.1.2 c h1
theorem Nm {pl:List (Nat×Nat)} {cs cs' vs:List Value} {i o s:Nat} {v:Value} {r:List (Nat×Value)} {res:Option (List Value)} (hp:Ah3 pl i=some (o,s)) (hv:Jc v=some vs) (hl:vs.length=s) (hs:Br cs o vs=some cs') (hr:K.fillC pl cs' r=res):K.fillC pl cs ((i,v)::r)=res:=by
 unfold K.fillC
 rw [hp]
 simp only
 rw [(Vy hv).1,hs]
 simp only [hl,hr]
 rw [show Nat.beq s s=true from Nat.beq_refl s]
 rfl
theorem Aen (c:Cm) (s:BitVec 32):Br (cmC c) 33 [uv s]=some (cmC { c with sum:=s }):=by
 refine Eu ?_ (by rw [Cr];show 33+1≤34;omega)
 unfold cmC
 have h1:(wv c.ep::(vbc c.lv++[uv c.sum])).take 33=wv c.ep::vbc c.lv:=by
  rw [show 33=32+1 from rfl,List.take_succ_cons,A1s Ar]
 have h2:(wv c.ep::(vbc c.lv++[uv c.sum])).drop (33+[uv s].length)=[]:=by
  rw [show 33+[uv s].length=33+1 from rfl,Azw,Ay7 (by rw [Azz,Ar];show 32+1≤33;omega)]
 rw [h1,h2]
 simp
theorem Ar8 {e:Wd} {l:Lv} {s:BitVec 32}:K.fillC [(0,1),(1,32),(33,1)] ([Value.int .u64 0]++List.replicate 32 (Value.int .u8 0)++[Value.int .u32 0]) [(0,wv e),(1,.agg (vbc l).toArray),(2,uv s)]=some (cmC ⟨e,l,s⟩):=by
 rw [show ([Value.int .u64 0]++List.replicate 32 (Value.int .u8 0)++[Value.int .u32 0])=cmC cm0 from Aed]
 refine Nm (cs':=cmC ⟨e,lv0,0⟩) rfl (vs:=[wv e]) rfl rfl rfl ?_
 refine Nm rfl Ct Ar (Wz ⟨e,lv0,0⟩ l) ?_
 exact Nm rfl (vs:=[uv s]) rfl rfl (Aen ⟨e,l,0⟩ s) rfl
theorem Ajb {z:Sg} {ep:Wd} {cs:List Chg} (hb:Ch z ep cs=false) {c:Chg} (hc:c∈cs):c.body.list.length≤70000000000000:=by
 unfold Ch L4 at hb
 simp only [Azp,Az7,A0r,A00] at hb
 have:=hb.1.2 c hc
 unfold Pb Bt at this
 simp at this
 omega
theorem WrR.pb {n:Nat} {q:Qt} {xs:List N3} {z z':Sg} {e:Int} (h:WrR n q xs z e z'):z'.S.pb=z.S.pb:=by
 induction h with
 | nil=>rfl
 | stop _ h _=>exact h.same.pb
 | go _ h _ ih=>exact ih.trans h.same.pb
theorem EndR.pb {n:Nat} {q:Qt} {z z':Sg} {c:Cm} {e:Int} (h:EndR n q z c e z'):z'.S.pb=z.S.pb:=by
 obtain ⟨y,z1,h1,h2⟩:=h
 rcases h2 with ⟨_,rfl⟩ | ⟨_,m,_,rfl⟩
 ·exact h1.same.pb
 ·exact h1.same.pb
section
variable {n k:Nat} {q:Qt} {z:Sg}
theorem Xa (h:WI n k q z) (hk:k≤200000000000) (hq:q.n≤3) {ep:Wd} {cs:Sl Chg} {bi:Int→List By} (hcn:cs.list.length≤300) (hm:z.S.stray.es.length≤1000)
  (hA:∀ k∈z.S.stray.keys,Eq (Cc z cs.list) (cs.list.map (·.key)) k=true→∃ e,z.S.idx.get k=some e∧Bt k (bi k)=true∧RecAt z e.at' (Cw 10 (Ez k e.ep (bi k))))
  (hN:Ch z ep cs.list=false→(B7 z ep cs.list bi).length≤300)
  (hS:Ch z ep cs.list=false→Cn z cs.list=false→∀ i z1 k e b,WrR n q ((B7 z ep cs.list bi).take i) (G0 z) 0 z1→(B7 z ep cs.list bi)[i]? =some (k,e,b)→Bt k b=true→Y3 n q (wr1 z1 k e))
  (hE:Ch z ep cs.list=false→Cn z cs.list=false→∀ z1,WrR n q (B7 z ep cs.list bi) (G0 z) 0 z1→Y3 n q z1) :
  Does Tryz.prog 16 [ptr z.S.st,wv ep,cs.val] (Dy T::(z.S.st,true,C (stC z.S) tSt)::(z.S.ib,true,z.S.idx.obj .i64)::(z.S.pb,true,z.S.pend.obj .i64)::(z.S.sb,true,z.S.stray.obj .i64)::(lgH z.L++(cs.hp tCg++(cbH cs.list++[]))))
  (fun v H=>∃ (e:Int) (z':Sg),v= .int .i64 e∧H=Dy T::(z'.S.st,true,C (stC z'.S) tSt)::(z'.S.ib,true,z'.S.idx.obj .i64)::(z'.S.pb,true,z'.S.pend.obj .i64)::(z'.S.sb,true,z'.S.stray.obj .i64)::(lgH z'.L++(cs.hp tCg++(cbH cs.list++[])))∧z'.S.st=z.S.st∧Si n q z ep cs.list bi e z'∧(e≠30→WI n (k+100000000) q z')):=by
 have hsm:=cs.small
 refine Ahz (n:=127) Tryz.func16 Tryz.ntmps16 rfl (Ay9 rfl) ?_
 refine Ms ?_
 refine Aa fun ops=>oA rfl<|Ac ?_
 refine Ms ?_
 refine Aa fun ops=>oA rfl<|Ac ?_
 refine Ms ?_
 refine Aa fun ops=>oM rfl<|oN rfl<|oF rfl<|oF rfl ?_
 refine oR (Au rfl mM (Agb z.S)) ?_
 refine Aw rfl fun b8=> ?_
 rw [Aea]
 first | refine Af rfl rfl uD (Ct) (Ar) (B2 (by first | exact Ar | exact Azc ..)) ?_ | refine Af rfl rfl uD rfl rfl rfl ?_
 refine Ac ?_
 refine Ms ?_
 refine Aa fun ops=>oM rfl<|oM rfl<|oN rfl<|oF rfl ?_
 refine oR (show Rd _ _ _ _ (wv z.S.seen) from Al rfl mM (Iv (S:=z.S) (o:=8) rfl)) ?_
 refine oR (Ae rfl rfl rfl)<|oA rfl<|Ac ?_
 refine Ms ?_
 refine Ad<|Aa fun ops=>oM rfl<|oR (A7 rfl)<|oM rfl<|Ac<|n_K<|Ak ?_
 refine Im (Gu (α:=Int) (T:=tI)) ?_
 refine A8 [0,1,2,8,28,29] kQ (fun (st:Nat×Sl Int×Bool×Lv)=>[(30,.int .i64 st.1),(7,st.2.1.val),(9,.bool st.2.2.1)]) (fun (st:Nat×Sl Int×Bool×Lv)=>(st.2.1.hp tI++((b8,true,C (vbc st.2.2.2) tLv)::Dy T::(z.S.st,true,C (stC z.S) tSt)::(z.S.ib,true,z.S.idx.obj .i64)::(z.S.pb,true,z.S.pend.obj .i64)::(z.S.sb,true,z.S.stray.obj .i64)::(lgH z.L++(cs.hp tCg++(cbH cs.list++[])))))) (fun (st:Nat×Sl Int×Bool×Lv)=>st.1≤cs.list.length∧st.2.1.list=(cs.list.take st.1).map (·.key)∧st.2.1.isOwn=true∧st.2.2.1=(decide ((ep.toNat:Int)>(z.S.seen.toNat:Int)) && (cs.list.take st.1).all Pb)∧st.2.2.2=(cs.list.take st.1).foldl Eh z.S.last.lv) (fun (st:Nat×Sl Int×Bool×Lv)=>cs.list.length - st.1) ((0,Sl.nil,decide ((ep.toNat:Int)>(z.S.seen.toNat:Int)),z.S.last.lv)) ⟨A2r _,rfl,rfl,by simp,rfl⟩ kP sP ?_
 rintro ⟨i,ks,ok,lv⟩ ⟨g0,g1,g2,g3,g4⟩
 simp only at g0 g1 g2 g3 g4
 have hkl:ks.list.length≤300:=(by rw [g1,A1a,A0v];omega)
 refine Ad<|Aa fun ops=>oR (Ae rfl rfl rfl)<|Ac<|n_K<|Ad ?_
 refine Aj rfl (fun c31=> ?_) (fun c31=> ?_)
 ·simp only [A0d,Ayz] at c31
  obtain ⟨x,hg⟩:∃ x,cs.list[i]? =some x:=⟨_,Ayw (by omega)⟩
  rw [An3 hg]
  have hok:(ok && Bt x.key x.body.list)=(decide ((ep.toNat:Int)>(z.S.seen.toNat:Int)) && (cs.list.take (i+1)).all Pb):=(by rw [g3,A0i,hg,List.all_append];simp [Pb,Bool.and_assoc])
  have hlv:(cs.list.take (i+1)).foldl Eh z.S.last.lv=Eh lv x:=(by rw [Hm hg,g4])
  refine Ai<|n_K<|Ad<|Ak<|Ad<|Aa fun ops=> ?_
  refine oR (Bk (s:=cs) rfl rfl (by omega)) ?_
  refine oR (Do (s:=cs) (o:=0) rfl pL hg rfl rfl) ?_
  refine Aw rfl fun b11=> ?_
  refine Af rfl rfl uD rfl rfl rfl ?_
  refine Ac<|n_K<|Ad<|Aa fun ops=>oM rfl<|oF rfl ?_
  refine oR (Al rfl mM rfl) ?_
  refine A5 rfl rfl rfl rfl fun b37=> ?_
  refine Bp (s:=ks) (new:=[x.key]) (m:=1) rfl rfl pL g2 (Cv (r:=true) mM rfl) rfl rfl rfl rfl (by omega) rfl fun s' hs1 hs2=> ?_
  refine oA rfl<|Ac<|n_K<|Ad ?_
  refine Bf [(1,40)] rfl fun ops y=> ?_
  refine oM rfl<|oM rfl ?_
  refine' Df (j:=1) (k:=2) y rfl rfl rfl rfl rfl rfl rfl (fun hg40=> ?_) ?_
  rotate_left
  ·try (simp at hg40;show _)
   refine o_g y rfl rfl ?_
   refine oR (Au rfl mM rfl) ?_
   refine o_g y rfl rfl ?_
   refine A6 rfl (Ar5 (c:=x)) sP rfl aQ ?_
   exact Ac ⟨rfl,rfl,⟨_,sP⟩⟩
  refine oA rfl<|Ac<|n_K<|Ad<|Aa fun ops=>oF rfl ?_
  refine oR (Al rfl mM rfl) ?_
  refine Ac<|n_K ?_
  refine Aj rfl (fun c45=> ?_) (fun c45=> ?_)
  ·skip
   have hT:Gv lv x.key=(cs.list.take (i+1)).foldl Eh z.S.last.lv:=(by rw [hlv];unfold Eh;rw [A25 c45])
   refine Aa fun ops=> ?_
   refine oR (Au rfl mM (by first | exact Bg | rfl)) ?_
   refine oF rfl ?_
   refine oR (Al rfl mM rfl) ?_
   refine A5 rfl rfl rfl rfl fun b49=> ?_
   refine A6 rfl (Aja (l:=lv) (b:=b49) (x:=x.key)) sP rfl aQ ?_
   first | refine Af rfl rfl uD (Ct) (Ar) (B2 (by first | exact Ar | exact Azc ..)) ?_ | refine Af rfl rfl uD rfl rfl rfl ?_
   refine Ac<|Az<|n_K<|Aa fun ops=> ?_
   refine oR (Ao rfl rfl (by omega)) ?_
   refine oM rfl<|Ac<|n_K ?_
   first | exact ⟨(i+1,s',(ok && Bt x.key x.body.list),Gv lv x.key),⟨by simp only;omega,by simp only;rw [hs1,g1,A0i,hg,A1i];rfl,hs2,hok,hT⟩,by simp only;omega,lZ⟩ | exact ⟨(i+1,s',(ok && Bt x.key x.body.list),Eg lv x.key),⟨by simp only;omega,by simp only;rw [hs1,g1,A0i,hg,A1i];rfl,hs2,hok,hF⟩,by simp only;omega,lZ⟩
  ·skip
   have hF:Eg lv x.key=(cs.list.take (i+1)).foldl Eh z.S.last.lv:=(by rw [hlv];unfold Eh;rw [A26 (by rw [c45];decide)])
   refine Aa fun ops=> ?_
   refine oR (Au rfl mM (by first | exact Bg | rfl)) ?_
   refine oF rfl ?_
   refine oR (Al rfl mM rfl) ?_
   refine A5 rfl rfl rfl rfl fun b54=> ?_
   refine A6 rfl (Ai9 (l:=lv) (b:=b54) (x:=x.key)) sP rfl aQ ?_
   first | refine Af rfl rfl uD (Ct) (Ar) (B2 (by first | exact Ar | exact Azc ..)) ?_ | refine Af rfl rfl uD rfl rfl rfl ?_
   refine Ac<|Az<|n_K<|Aa fun ops=> ?_
   refine oR (Ao rfl rfl (by omega)) ?_
   refine oM rfl<|Ac<|n_K ?_
   first | exact ⟨(i+1,s',(ok && Bt x.key x.body.list),Gv lv x.key),⟨by simp only;omega,by simp only;rw [hs1,g1,A0i,hg,A1i];rfl,hs2,hok,hT⟩,by simp only;omega,lZ⟩ | exact ⟨(i+1,s',(ok && Bt x.key x.body.list),Eg lv x.key),⟨by simp only;omega,by simp only;rw [hs1,g1,A0i,hg,A1i];rfl,hs2,hok,hF⟩,by simp only;omega,lZ⟩
 ·simp only [A0d,Ayz] at c31
  have hi:i=cs.list.length:=(by omega)
  subst hi
  rw [A0w] at g1 g3 g4
  have hbad:Ch z ep cs.list=(!ok || !Rn ks.list):=(by unfold Ch L4;rw [g3,g1])
  have hlvC:Cc z cs.list=lv:=g4.symm
  refine Bb<|x_K<|x_K<|Bj ?_
  refine Ms ?_
  refine Ak<|Ad ?_
  refine Bf [(2,60)] rfl fun ops y=> ?_
  refine oM rfl<|oR (Bx rfl)<|oM rfl ?_
  refine' Es (j:=2) (k:=3) y rfl rfl rfl rfl rfl rfl rfl (fun hg60=> ?_) ?_
  rotate_left
  ·try (simp at hg60;show _)
   refine o_g y rfl rfl ?_
   refine oM rfl ?_
   refine o_g y rfl rfl ?_
   refine A6 rfl (Ar4 (s:=ks) (by omega)) sP rfl aQ ?_
   refine o_g y rfl rfl ?_
   refine oR (Bx rfl) ?_
   exact Ac ⟨rfl,rfl,⟨_,sP⟩⟩
  refine oA rfl<|Ac<|n_K ?_
  refine Aj rfl (fun c57=> ?_) (fun c57=> ?_)
  ·skip
   refine Ad<|Aa fun ops=>oA rfl<|Ac<|n_K<|An<|Bn ?_
   exact Av (At Tryz.results16 (Ag rfl)) (by exact ⟨1,z,rfl,rfl,rfl,.inl ⟨by rw [hbad];exact c57,rfl,rfl⟩,fun _=>h.mono (by omega)⟩) sP
  ·skip
   refine Ad<|Aa fun ops=> ?_
   refine oR (Au rfl mM (by first | exact Bg | rfl)) ?_
   refine Bd rfl (Af8) sP rfl fun v67 Y67 h67=> ?_
   obtain ⟨s67,rfl,rfl,hs67,ho67⟩:=h67
   refine Ay aQ ?_
   refine oR (A7 rfl)<|oM rfl ?_
   refine A6 rfl (Ab5 (z:=z) h) sP rfl aQ ?_
   refine oR (Ae rfl rfl rfl)<|oA rfl<|Ac<|n_K ?_
   refine Aj rfl (fun c65=> ?_) (fun c65=> ?_)
   ·skip
    refine Ad<|Aa fun ops=>oA rfl<|Ac<|n_K<|An<|Bn ?_
    exact Av (At Tryz.results16 (Ag rfl)) (by exact ⟨40,z,rfl,rfl,rfl,.inr (.inl ⟨by rw [hbad];exact c57,by unfold Cn;rw [hlvC,← hs67];exact c65,rfl,rfl⟩),fun _=>h.mono (by omega)⟩) sP
   ·skip
    refine Ai<|Az ?_
    refine Ms ?_
    refine Aa fun ops=>oM rfl<|oN rfl<|oF rfl ?_
    refine oR (Al rfl mM rfl) ?_
    refine Afk rfl uD ?_
    refine Ac ?_
    refine Ms ?_
    refine Aa fun ops=>oM rfl ?_
    refine oR (Au rfl mM (by first | exact Bg | rfl)) ?_
    refine oM rfl<|oM rfl ?_
    refine Bd rfl (An2 (z:=G0 z) (n:=n) (k:=k) (q:=q) ⟨h.1,h.2⟩ (l:=lv) (ep:=ep) (but:=ks) (bi:=bi) hm (by rw [g1,g4];exact hA)) sP rfl fun v81 Y81 h81=> ?_
    obtain ⟨nds,rfl,rfl,hno,hnl⟩:=h81
    refine Ay aQ ?_
    refine oM rfl<|oE rfl rfl<|oE rfl rfl<|oA rfl<|oA rfl<|Ac ?_
    refine Ms ?_
    refine Ad<|Aa fun ops=>oM rfl<|oR (Ae rfl rfl rfl)<|Ac<|n_K ?_
    refine Bi rfl ?_
    refine Ai ?_
    refine Ms ?_
    refine Ad<|Aa fun ops=>oM rfl<|oR (A7 rfl)<|oM rfl<|Ac<|n_K<|Ak ?_
    have hfF:Cn z cs.list=false:=(by unfold Cn;rw [hlvC,← hs67];exact c65)
    have hbF:Ch z ep cs.list=false:=(by rw [hbad];exact c57)
    refine A8 [0,1,2,8,87,88] kQ (fun (st:Nat×Sl Nd)=>[(89,.int .i64 st.1),(12,st.2.val)]) (fun (st:Nat×Sl Nd)=>(st.2.hp tNd++(Iw st.2.list++((b8,true,C (vbc lv) tLv)::Dy T::(z.S.st,true,C (stC z.S) tSt)::(z.S.ib,true,z.S.idx.obj .i64)::(z.S.pb,true,z.S.pend.clr.obj .i64)::(z.S.sb,true,z.S.stray.obj .i64)::(lgH z.L++(ks.hp tI++(cs.hp tCg++(cbH cs.list++[])))))))) (fun (st:Nat×Sl Nd)=>st.1≤cs.list.length∧st.2.list.map nd3=Fo z.S lv ep ks.list bi++Eo ep (cs.list.take st.1)∧st.2.isOwn=true) (fun (st:Nat×Sl Nd)=>cs.list.length - st.1) ((0,nds)) ⟨A2r _,by rw [hnl];simp [Eo];rfl,hno⟩ kP sP ?_
    rintro ⟨i,nd⟩ ⟨k0,k1,k2⟩
    simp only at k0 k1 k2
    have hnl1:nd.list.length≤2000:=(by have h1:=A20 List.length k1;rw [A1a,Azz] at h1;have h2:(Fo z.S lv ep ks.list bi).length≤1000:=(by unfold Fo;rw [A1a];refine A2f (Azb _ _) ?_;rw [(B5 _).length_eq,Mp.keys_len];exact hm);have h3:(Eo ep (cs.list.take i)).length≤300:=(by unfold Eo;rw [A1a];refine A2f (Azb _ _) ?_;rw [A0v];omega);omega)
    refine Ad<|Aa fun ops=>oR (Ae rfl rfl rfl)<|Ac<|n_K<|Ad ?_
    refine Aj rfl (fun c90=> ?_) (fun c90=> ?_)
    ·simp only [A0d,Ayz] at c90
     obtain ⟨x,hg⟩:∃ x,cs.list[i]? =some x:=⟨_,Ayw (by omega)⟩
     rw [An3 hg]
     have hcn1:Eo ep (cs.list.take (i+1))=Eo ep (cs.list.take i)++Eo ep [x]:=(by unfold Eo;rw [A0i,hg,A0a,A1i];rfl)
     refine Ai<|n_K<|Ad<|Ak<|Ad<|Aa fun ops=> ?_
     refine oR (Bk (s:=cs) rfl rfl (by omega)) ?_
     refine oR (Do (s:=cs) (o:=0) rfl pL hg rfl rfl) ?_
     refine Aw rfl fun b15=> ?_
     refine Af rfl rfl uD rfl rfl rfl ?_
     refine Ac<|n_K<|Ad<|Aa fun ops=>oF rfl ?_
     refine oR (Al rfl mM rfl) ?_
     refine oR (Bx rfl)<|Ac<|n_K ?_
     refine Aj rfl (fun c95=> ?_) (fun c95=> ?_)
     ·skip
      have hgn:x.gone=false:=(by simpa using c95)
      refine s_draw [] [(9,[(0,false),(1,false),(2,false),(3,false),(4,false),(5,false),(6,true),(7,false),(8,true)]),(10,[(9,true)]),(11,[(10,false)])] (by kernel_rfl) rfl fun ops w0 H0 y=> ?_
      refine A4<|xM rfl<|xF rfl ?_
      refine xR (Al rfl mM rfl) ?_
      refine xM rfl<|xF rfl ?_
      refine xR (Al rfl mM rfl) ?_
      refine Be ?_
      refine Bd rfl (O0 (s:=x.body) (T:=tU8) (Ajb hbF (Azn hg))) sP rfl fun v102 Y102 h102=> ?_
      obtain ⟨s102,rfl,rfl,hs102,ho102⟩:=h102
      refine Ay aQ ?_
      refine Ac ⟨rfl,⟨_,sP⟩,?_⟩
      refine xR (Bc rfl rfl)<|Be ?_
      refine A5 rfl rfl rfl rfl fun b104=> ?_
      refine Ac ⟨rfl,⟨_,sP⟩,?_⟩
      refine Am<|Bh<|Be ?_
      refine Bp (s:=nd) (new:=[(⟨x.key,ep,s102⟩:Nd)]) (m:=1) rfl rfl pL k2 (Cv (r:=true) mM rfl) rfl rfl rfl rfl (by omega) rfl fun s' hs1 hs2=> ?_
      refine Ac ⟨rfl,⟨_,sP⟩,?_⟩
      refine Am<|A4<|xA rfl<|Am<|Bm<|Az<|n_K<|Aa fun ops=> ?_
      refine oR (Ao rfl rfl (by omega)) ?_
      refine oM rfl<|Ac<|n_K ?_
      first | exact ⟨(i+1,nd),⟨by simp only;omega,hI,k2⟩,by simp only;omega,lZ⟩ | exact ⟨(i+1,s'),⟨by simp only;omega,by simp only;rw [hs1,A1i,k1,hcn1];simp [Eo,hgn,nd3,hs102],hs2⟩,by simp only;omega,kP,kP,_,(by simp only;rw [hs1,Mf];exact sP)⟩
     ·skip
      have hgn:x.gone=true:=(by simpa using c95)
      have hI:nd.list.map nd3=Fo z.S lv ep ks.list bi++Eo ep (cs.list.take (i+1)):=(by rw [k1,hcn1];simp [Eo,hgn])
      refine Ai<|Az<|n_K<|Aa fun ops=> ?_
      refine oR (Ao rfl rfl (by omega)) ?_
      refine oM rfl<|Ac<|n_K ?_
      first | exact ⟨(i+1,nd),⟨by simp only;omega,hI,k2⟩,by simp only;omega,lZ⟩ | exact ⟨(i+1,s'),⟨by simp only;omega,by simp only;rw [hs1,A1i,k1,hcn1];simp [Eo,hgn,nd3,hs102],hs2⟩,by simp only;omega,kP,kP,_,(by simp only;rw [hs1,Mf];exact sP)⟩
    ·simp only [A0d,Ayz] at c90
     have hi:i=cs.list.length:=(by omega)
     subst hi
     rw [A0w] at k1
     have hnd:nd.list.map nd3=B7 z ep cs.list bi:=(by rw [k1,g1,g4];rfl)
     have hnd3:nd.list.length≤300:=(by have:=hN hbF;rw [← hnd,A1a] at this;exact this)
     refine Bb<|x_K<|x_K<|Bj ?_
     refine Aqk En (b:=z.S.pb) (by simp only [List.dropLast];exact rfl) rfl fun ops=> ?_
     refine oM rfl<|oN rfl<|oF rfl ?_
     refine oR (Al rfl mM rfl) ?_
     refine Ac ⟨rfl,rfl,fun rg hds hrd=> ?_⟩
     refine Ad<|Ad<|Aa fun ops=>oM rfl<|oM rfl ?_
     refine Bd rfl (Ai6 (z:=G0 z) (n:=n) (k:=k) (q:=q) (nds:=nd) ⟨h.1,h.2⟩ hnd3 (by omega) hq (fun i z1 y h1 h2 h3=>hS hbF hfF i z1 y.key y.ep y.body.list (by rw [← hnd,← List.map_take];exact h1) (by rw [← hnd,A0f,h2];rfl) h3) (fun y hy=>An5 hA hbF (nd3 y) (by rw [← hnd];exact A2b.2 ⟨y,hy,rfl⟩))) sP rfl (fun v113 Y113 h113=> ?_)
     obtain ⟨e113,z1,rfl,rfl,hst1,hW1,hWI1⟩:=h113
     have hst1':z1.S.st=z.S.st:=hst1
     rw [hnd] at hW1
     have hpb1:z1.S.pb=z.S.pb:=hW1.pb
     have hln:320080*nd.list.length≤96024000:=(by omega)
     rw [← hst1',← hpb1]
     refine Ay aQ ?_
     refine oA rfl<|Ac<|n_K<|Ad<|Aa fun ops=>oM rfl<|oR (Ae rfl rfl rfl)<|Ac<|n_K ?_
     refine Aj rfl (fun c115=> ?_) (fun c115=> ?_)
     ·skip
      have he:e113≠0:=(by simpa using c115)
      refine Ad<|Aa fun ops=>oM rfl<|oA rfl<|Ac<|n_K<|An<|r_K ?_
      refine ⟨.i64,_,_,uD,?_⟩
      exact Av (At Tryz.results16 (Ag rfl)) (by exact ⟨e113,G0 z1,rfl,rfl,rfl,.inr (.inr ⟨hbF,by unfold Cn;rw [hlvC,← hs67];exact c65,e113,z1,hW1,.inl ⟨he,rfl,rfl⟩⟩),fun h9=>⟨(hWI1 h9).1,((hWI1 h9).mono (by omega)).2⟩⟩) sP
     ·skip
      have he:e113=0:=(by simpa using c115)
      subst he
      have hWI2:=hWI1 (by decide)
      refine Ai<|n_K<|Ad ?_
      refine s_draw [] [(9,[(0,false),(1,false),(2,false),(3,false),(4,false),(5,false),(6,true),(7,true),(8,false)]),(10,[(9,true)]),(11,[(10,false)])] (by kernel_rfl) rfl fun ops w0 H0 y=> ?_
      refine A4<|xM rfl<|xM rfl ?_
      refine xR (Au rfl mM (by first | exact Bg | rfl)) ?_
      refine xM rfl<|xM rfl ?_
      refine xR (Au rfl mM (by first | exact Bg | rfl)) ?_
      refine Be ?_
      refine Bd rfl (Ant (S:=z1.S) (l:=lv)) sP rfl fun v123 Y123 h123=> ?_
      obtain ⟨c123,m123,rfl,rfl,hM123⟩:=h123
      refine Ay aQ ?_
      refine Ac ⟨rfl,⟨_,sP⟩,?_⟩
      refine Be ?_
      refine Bd rfl (Agn (S:=z1.S.st) (b:=c123) (m:=m123) (An4 hM123)) sP rfl fun v124 Y124 h124=> ?_
      obtain ⟨rfl,rfl⟩:=h124
      refine Ay aQ ?_
      refine Ac ⟨rfl,⟨_,sP⟩,?_⟩
      refine xR (show Rd _ _ _ _ (.agg (cmC ⟨ep,lv,K5 m123⟩).toArray) from Bc rfl Ar8) ?_
      refine Am<|Bh<|Be ?_
      refine Bd rfl (Aut (z:=z1) (n:=n) (q:=q) hWI2 (by omega) hq (hE hbF hfF z1 hW1) (c:=⟨ep,lv,K5 m123⟩)) sP rfl fun v126 Y126 h126=> ?_
      obtain ⟨e126,z2,rfl,rfl,hst2,hE2,hW2⟩:=h126
      have hpb2:z2.S.pb=z1.S.pb:=hE2.pb
      rw [← hpb2]
      refine Ay aQ ?_
      refine Ac ⟨rfl,⟨_,sP⟩,?_⟩
      refine Am<|A4<|xA rfl<|Am<|Bm<|n_K<|An ?_
      refine ⟨.i64,_,_,uD,?_⟩
      exact Av (At Tryz.results16 (Ag rfl)) (by exact ⟨e126,G0 z2,rfl,rfl,hst2,.inr (.inr ⟨hbF,by unfold Cn;rw [hlvC,← hs67];exact c65,0,z1,hW1,.inr ⟨rfl,m123,z2,by rw [hlvC];exact hM123,by rw [hlvC];exact hE2,rfl⟩⟩),fun h9=>⟨(hW2 h9).1,((hW2 h9).mono (by omega)).2⟩⟩) sP
end
end
section
open Go.K
theorem onceC_iff {xs:List Int}:Rn xs=true↔xs.Nodup:=by
 unfold Rn
 rw [A0d]
 have hl:(Dz xs).length=xs.length:=(B5 xs).length_eq
 have hs:=Ayu.1 (Pa xs)
 have hg:∀ j (hj:j<(Dz xs).length),(Dz xs).toArray[j]! =(Dz xs)[j]:=fun j hj=>by
  rw [getElem!_pos (Dz xs).toArray j (by simpa using hj)]
  simp
 constructor
 ·intro h
  have h1:((List.range (Dz xs).length).filter (Lib.keeps (Dz xs).toArray)).length=(List.range (Dz xs).length).length:=by
   have h2:(Lib.compact (Dz xs)).length=((List.range (Dz xs).length).filter (Lib.keeps (Dz xs).toArray)).length:=by
    unfold Lib.compact Lib.compactUpTo
    rw [A1a]
   rw [← h2,List.length_range,h,hl]
  have h2:=List.length_filter_eq_length_iff.1 h1
  refine (B5 xs).nodup_iff.1 ?_
  refine Ayu.2 fun i j hi hj hij=> ?_
  have h3:=h2 j (A1w.2 hj)
  unfold Lib.keeps at h3
  rw [A0d,hg j hj,hg (j - 1) (by omega)] at h3
  have h4:=h3.resolve_left (by omega)
  have h5:=hs (j - 1) j (by omega) hj (by omega)
  by_cases e:i=j - 1
  ·subst e;exact fun e=>h4 e.symm
  ·have h6:=hs i (j - 1) hi (by omega) (by omega)
   omega
 ·intro hn
  have hn2:=Ayu.1 ((B5 xs).nodup_iff.2 hn)
  rw [Lib.compact_all,hl]
  intro j hj
  unfold Lib.keeps
  rw [A0d]
  by_cases e:j=0
  ·exact .inl e
  ·refine .inr ?_
   rw [hg j hj,hg (j - 1) (by omega)]
   exact fun e2=>hn2 (j - 1) j (by omega) hj (by omega) e2.symm
theorem Kr {k:Int}:∀ {cs:List Chg} {l:Lv},k∉cs.map (·.key)→B4 (cs.foldl Eh l) k=B4 l k
 | [],l,_=>rfl
 | c::cs,l,h=>by
  rw [A15,A12,not_or] at h
  rw [A1n,Kr h.2]
  unfold Eh
  split
  ·rw [Wy];simp [h.1]
  ·rw [Ql];simp [h.1]
theorem Zk {c:Chg}:∀ {cs:List Chg} {l:Lv},(cs.map (·.key)).Nodup→c∈cs→Dc c.key=true→B4 (cs.foldl Eh l) c.key= !c.gone
 | x::cs,l,hn,hc,hv=>by
  rw [A15,A1c] at hn
  rw [A1n]
  rcases A12.1 hc with rfl | hc
  ·rw [Kr hn.1]
   unfold Eh
   cases hg:c.gone with
   | true=>rw [A25 rfl,Wy];simp [hv]
   | false=>rw [A26 (by decide),Ql];simp [hv]
  ·exact Zk hn.2 hc hv
def Va (P:NdM) (x:N3):NdM:=fun k=>if k=x.1 then some x.2 else P k
def I5 (P:NdM) (xs:List N3):NdM:=xs.foldl Va P
theorem J5 {k:Int}:∀ {xs:List N3} {P:NdM},k∉xs.map (·.1)→I5 P xs k=P k
 | [],P,_=>rfl
 | x::xs,P,h=>by
  rw [A15,A12,not_or] at h
  show I5 (Va P x) xs k=_
  rw [J5 h.2]
  unfold Va
  rw [A26 h.1]
theorem Gx {k:Int} {e:Wd} {b:List By}:∀ {xs:List N3} {P:NdM},(xs.map (·.1)).Nodup→(k,e,b)∈xs→I5 P xs k=some (e,b)
 | x::xs,P,hn,h=>by
  rw [A15,A1c] at hn
  show I5 (Va P x) xs k=_
  rcases A12.1 h with rfl | h
  ·rw [J5 hn.1]
   unfold Va
   rw [A25 rfl]
  ·exact Gx hn.2 h
theorem Pk {k:Int} {e:Wd} {b:List By}:∀ {xs:List N3} {P:NdM},I5 P xs k=some (e,b)→(k,e,b)∈xs∨P k=some (e,b)
 | [],P,h=> .inr h
 | x::xs,P,h=>by
  have h:I5 (Va P x) xs k=some (e,b):=h
  rcases Pk h with h | h
  ·exact .inl (Azm _ h)
  ·unfold Va at h
   split at h
   ·rename_i hk
    left
    have:=A1h h
    rw [hk,← this]
    exact Azx
   ·exact .inr h
section
variable {A:Ab} {P:NdM} {Q:Int→Wd→List By→Prop} {z z' z1:Sg} {k:Nat}
theorem Rz.vs_new (hw:LW k z1) (h:Rz A P Q z1) {r:Rc} (hok:r.ok) (hk:r.kind≠12) {y:Pl2} (hn:NewAt z1 r.pg y z'):∀ x v,RecAt z' x (Rc.vw v).pg→A.viewed=true∧v.num.toNat≤A.vw.num.toNat∧(v.num=A.vw.num→vwM v=A.vw∨bef z' x z1.S.va):=fun x v hx=>by
 rcases hn.inv x _ hx with h2 | ⟨_,h2⟩
 ·obtain ⟨g1,g2,g3⟩:=h.vs x v h2
  obtain ⟨v',_,h5⟩:=h.va g1
  exact ⟨g1,g2,fun g4=>(g3 g4).imp id fun g5=>(hn.ord hw h2 h5).2 g5⟩
 ·exact absurd h2.symm (F6 hok (s:= .vw v) trivial hk)
theorem Rz.kd_new (h:Rz A P Q z1) {r:Rc} (hok:r.ok) {y:Pl2} (hn:NewAt z1 r.pg y z'):∀ x p,RecAt z' x p→(Eb p).2.2.2=0→∃ r:Rc,r.ok∧p=r.pg:=fun x p hx hg=>by
 rcases hn.inv x p hx with h2 | ⟨_,h2⟩
 ·exact h.kd x p h2 hg
 ·exact ⟨r,hok,h2⟩
theorem Rz.write (hw:LW k z1) (h:Rz A P Q z1) {ky:Int} {e:Wd} {b:List By} (hok:Bt ky b=true) {y:Pl2} (hn:NewAt z1 (Rc.nd ky e b).pg y z'):Rz A (Va P (ky,e,b)) (fun k' e' b'=>Q k' e' b'∨(k',e',b')=(ky,e,b)) (wr2 z' ky e y):=by
 have hS:=hn.S
 have hold:∀ x r,RecAt z1 x r→RecAt z' x r:=fun x r hx=>(hn.old x r hx).1
 refine ⟨by show z'.S.last=_;rw [hS];exact h.last,by show z'.S.vw=_;rw [hS];exact h.vw,by show z'.S.viewed=_;rw [hS];exact h.viewed,?_,?_,fun h0=> ?_,fun h0=> ?_,?_,fun x k' e' b' h1 h2=> ?_,fun x c h1=> ?_,?_⟩
 ·show Stands _ z'.S.idx _
  rw [hS]
  exact h.ix.mono fun _ _ _ _ h9=>hold _ _ h9
 ·show Stands _ (z'.S.pend.put ky ⟨y,e⟩) _
  rw [hS]
  intro k'
  unfold Va
  by_cases e0:k'=ky
  ·rw [A25 e0]
   subst e0
   exact ⟨⟨y,e⟩,by rw [Mp.get_put,A25 rfl],rfl,hok,hn.new⟩
  ·rw [A26 e0]
   have:=h.pd k'
   cases hf:P k' with
   | none=>rw [hf] at this;show (z1.S.pend.put ky ⟨y,e⟩).get k'=none;rw [Mp.get_put,A26 e0];exact this
   | some r =>
    obtain ⟨e',b'⟩:=r
    rw [hf] at this
    obtain ⟨en,q1,q2,q3,q4⟩:=this
    exact ⟨en,by rw [Mp.get_put,A26 e0];exact q1,q2,q3,hold _ _ q4⟩
 ·show RecAt z' z'.S.la _
  rw [hS];exact hold _ _ (h.la h0)
 ·obtain ⟨v,h3,h4⟩:=h.va h0
  exact ⟨v,h3,by show RecAt z' z'.S.va _;rw [hS];exact hold _ _ h4⟩
 ·exact fun x p h1 h2=>h.kd_new (r:= .nd ky e b) hok hn x p h1 h2
 ·rcases hn.inv x _ h2 with h3 | ⟨_,h3⟩
  ·exact (h.nd x k' e' b' h1 h3).imp id .inl
  ·obtain ⟨q1,q2,q3⟩:=Aou h1 hok h3
   exact .inr (.inr (by rw [q1,q2,q3]))
 ·rcases hn.inv x _ h1 with h3 | ⟨_,h3⟩
  ·exact h.cm x c h3
  ·exact absurd h3 (F6 (r:= .cm c) (s:= .nd ky e b) trivial hok (by show (11:By)≠10;decide))
 ·show ∀ x v,RecAt z' x (Rc.vw v).pg→A.viewed=true∧v.num.toNat≤A.vw.num.toNat∧(v.num=A.vw.num→vwM v=A.vw∨bef z' x z'.S.va)
  rw [hS]
  exact h.vs_new hw (r:= .nd ky e b) hok (by show (10:By)≠12;decide) hn
def Ab.fin (A:Ab) (P:NdM) (c:Cm):Ab:={ A with last:=c,seen:=c.ep,stray:=fun _=>false,ix:=fun k=>if B4 c.lv k=true then orE (P k) (A.ix k) else none }
theorem L5 {A:Ab} {P:NdM} {Q:Int→Wd→List By→Prop} {z1 z':Sg} (h:Rz A P Q z1) (ho:∀ x r,RecAt z1 x r→RecAt z' x r) {l:Lv} {m:Mp En} (hm:Mz z1.S l m):Stands z' m fun k=>if B4 l k=true then orE (P k) (A.ix k) else none:=fun k=>by
 have hk:=hm k
 by_cases hl:B4 l k=true
 ·simp only [A25 hl] at hk ⊢
  cases hp:P k with
  | some r =>
   obtain ⟨e,b⟩:=r
   obtain ⟨en,q1,q2,q3,q4⟩:=h.pd.yes hp
   rw [q1] at hk
   exact ⟨en,hk,q2,q3,ho _ _ q4⟩
  | none =>
   rw [h.pd.no hp] at hk
   cases hi:A.ix k with
   | some r =>
    obtain ⟨e,b⟩:=r
    obtain ⟨en,q1,q2,q3,q4⟩:=h.ix.yes hi
    rw [q1] at hk
    exact ⟨en,hk,q2,q3,ho _ _ q4⟩
   | none =>
    rw [h.ix.no hi] at hk
    exact hk
 ·simp only [A26 hl] at hk ⊢
  exact hk
abbrev noP:NdM:=fun _=>none
abbrev noQ:Int→Wd→List By→Prop:=fun _ _ _=>False
theorem Rz.fin (hw:LW k z1) (h:Rz A P Q z1) {c:Cm} {y:Pl2} (hn:NewAt z1 (Rc.cm c).pg y z') {m:Mp En} (hm:Mz z1.S c.lv m) (hse:A.seen.toNat<c.ep.toNat) (hls:A.last.ep.toNat≤A.seen.toNat)
  (hQ:∀ k e b,Q k e b→e=c.ep∧P k=some (e,b)) (hP:∀ k e b,P k=some (e,b)→e=c.ep)
  (hst:∀ k,B4 c.lv k=true→P k=none→A.stray k=false∧B4 A.last.lv k=true):Rz (A.fin P c) noP noQ (G0 { z' with S:=Arv z'.S c y m }):=by
 have hS:=hn.S
 have hold:∀ x r,RecAt z1 x r→RecAt z' x r:=fun x r hx=>(hn.old x r hx).1
 refine ⟨rfl,by show z'.S.vw=_;rw [hS];exact h.vw,by show z'.S.viewed=_;rw [hS];exact h.viewed,?_,fun k=>Mp.get_clr _ k,fun h0=>hn.new,fun h0=> ?_,?_,fun x k' e' b' h1 h2=> .inl ?_,fun x c' h1=> ?_,?_⟩
 ·exact L5 h hold hm
 ·obtain ⟨v,h3,h4⟩:=h.va h0
  exact ⟨v,h3,by show RecAt z' z'.S.va _;rw [hS];exact hold _ _ h4⟩
 ·exact fun x p h1 h2=>h.kd_new (r:= .cm c) trivial hn x p h1 h2
 ·have h2:RecAt z' x (Rc.nd k' e' b').pg:=h2
  have h3:RecAt z1 x (Rc.nd k' e' b').pg:=by
   rcases hn.inv x _ h2 with h3 | ⟨_,h3⟩
   ·exact h3
   ·exact absurd h3 (F6 (r:= .nd k' e' b') (s:= .cm c) h1 trivial (by show (10:By)≠11;decide))
  rcases h.nd x k' e' b' h1 h3 with hO | hq
  ·obtain ⟨o1,o2,o3⟩:=hO
   have hle:e'.toNat≤c.ep.toNat:=by omega
   refine ⟨hle,fun _=>hle,fun hl _=> ?_⟩
   have hl:B4 c.lv k'=true:=hl
   show ∃ e2 b2,(if B4 c.lv k'=true then orE (P k') (A.ix k') else none)=some (e2,b2)∧_
   rw [A25 hl]
   cases hp:P k' with
   | some r =>
    obtain ⟨e2,b2⟩:=r
    have he2:=hP _ _ _ hp
    exact ⟨e2,b2,rfl,by rw [he2];omega,fun e0=>by rw [e0,he2] at o1;omega⟩
   | none =>
    obtain ⟨s1,s2⟩:=hst k' hl hp
    obtain ⟨e2,b2,s3,s4,s5⟩:=o3 s2 (o2 s1)
    exact ⟨e2,b2,by show A.ix k'=_;exact s3,s4,s5⟩
  ·obtain ⟨q1,q2⟩:=hQ _ _ _ hq
   subst q1
   refine ⟨A2q _,fun _=>A2q _,fun hl _=> ?_⟩
   have hl:B4 c.lv k'=true:=hl
   show ∃ e2 b2,(if B4 c.lv k'=true then orE (P k') (A.ix k') else none)=some (e2,b2)∧_
   rw [A25 hl,q2]
   exact ⟨_,_,rfl,A2q _,fun _=>rfl⟩
 ·have h1:RecAt z' x (Rc.cm c').pg:=h1
  show 0<c'.ep.toNat∧c'.ep.toNat≤c.ep.toNat∧(c'.ep=c.ep→c'=c)
  rcases hn.inv x _ h1 with h3 | ⟨_,h3⟩
  ·obtain ⟨g1,g2,g3⟩:=h.cm x c' h3
   exact ⟨g1,by omega,fun e0=>by rw [e0] at g2;omega⟩
  ·have:=Aow h3
   subst this
   exact ⟨by omega,A2q _,fun _=>rfl⟩
 ·show ∀ x v,RecAt z' x (Rc.vw v).pg→A.viewed=true∧v.num.toNat≤A.vw.num.toNat∧(v.num=A.vw.num→vwM v=A.vw∨bef z' x z'.S.va)
  rw [hS]
  exact h.vs_new hw (r:= .cm c) trivial (by show (11:By)≠12;decide) hn
def Ab.note (A:Ab) (v:Vw):Ab:=if (!A.viewed || decide (A.vw.num.toNat≤v.num.toNat))=true then { A with vw:=vwM v,viewed:=true } else A
theorem Rz.note (hw:LW k z1) (h:Rz A P Q z1) {v:Vw} {y:Pl2} (hn:NewAt z1 (Rc.vw v).pg y z') (hv0:A.viewed=true→vwM A.vw=A.vw) :
  Rz (A.note v) P Q (if (!z'.S.viewed || decide (z'.S.vw.num.toNat≤v.num.toNat))=true then { z' with S:={ z'.S with vw:=vwM v,va:=y,viewed:=true } } else z'):=by
 have hS:=hn.S
 have hold:∀ x r,RecAt z1 x r→RecAt z' x r:=fun x r hx=>(hn.old x r hx).1
 have hvn:z'.S.viewed=A.viewed:=by rw [hS];exact h.viewed
 have hvw:z'.S.vw=A.vw:=by rw [hS];exact h.vw
 have hnd:∀ x k' e' b',Bt k' b'=true→RecAt z' x (Rc.nd k' e' b').pg→Awu A k' e' b'∨Q k' e' b':=fun x k' e' b' h1 h2=>by
  rcases hn.inv x _ h2 with h3 | ⟨_,h3⟩
  ·exact h.nd x k' e' b' h1 h3
  ·exact absurd h3 (F6 (r:= .nd k' e' b') (s:= .vw v) h1 trivial (by show (10:By)≠12;decide))
 have hcm:∀ x c,RecAt z' x (Rc.cm c).pg→0<c.ep.toNat∧c.ep.toNat≤A.last.ep.toNat∧(c.ep=A.last.ep→c=A.last):=fun x c h1=>by
  rcases hn.inv x _ h1 with h3 | ⟨_,h3⟩
  ·exact h.cm x c h3
  ·exact absurd h3 (F6 (r:= .cm c) (s:= .vw v) trivial trivial (by show (11:By)≠12;decide))
 rw [hvn,hvw]
 unfold Ab.note
 by_cases hc:(!A.viewed || decide (A.vw.num.toNat≤v.num.toNat))=true
 ·rw [A25 hc,A25 hc]
  refine ⟨by show z'.S.last=_;rw [hS];exact h.last,rfl,rfl,?_,?_,fun h0=> ?_,fun h0=>⟨v,rfl,hn.new⟩,fun x p h1 h2=>h.kd_new (r:= .vw v) trivial hn x p h1 h2,hnd,hcm,fun x v' h1=> ?_⟩
  ·show Stands _ z'.S.idx _
   rw [hS];exact h.ix.mono fun _ _ _ _ h9=>hold _ _ h9
  ·show Stands _ z'.S.pend _
   rw [hS];exact h.pd.mono fun _ _ _ _ h9=>hold _ _ h9
  ·show RecAt z' z'.S.la _
   rw [hS];exact hold _ _ (h.la h0)
  ·have h1:RecAt z' x (Rc.vw v').pg:=h1
   show true=true∧v'.num.toNat≤v.num.toNat∧(v'.num=v.num→vwM v'=vwM v∨bef z' x y)
   rcases hn.inv x _ h1 with h3 | ⟨_,h3⟩
   ·obtain ⟨g1,g2,g3⟩:=h.vs x v' h3
    simp only [g1,A17,A18,A0d] at hc
    exact ⟨rfl,by omega,fun _=> .inr (hn.bef _ _ h3)⟩
   ·have hm:=Aoy h3
    have hnum:v'.num=v.num:=by have h8:=A20 Vw.num hm;exact h8
    exact ⟨rfl,by rw [hnum];exact A2q _,fun _=> .inl hm⟩
 ·rw [A26 hc,A26 hc]
  have hvd:A.viewed=true:=by
   cases hv:A.viewed with
   | true=>rfl
   | false=>rw [hv] at hc;exact absurd rfl hc
  have hlt:¬ A.vw.num.toNat≤v.num.toNat:=fun h9=>hc (by simp [h9])
  refine ⟨by rw [hS];exact h.last,hvw,hvn,?_,?_,fun h0=> ?_,fun h0=> ?_,h.kd_new (r:= .vw v) trivial hn,hnd,hcm,fun x v' h1=> ?_⟩
  ·rw [hS];exact h.ix.mono fun _ _ _ _ h9=>hold _ _ h9
  ·rw [hS];exact h.pd.mono fun _ _ _ _ h9=>hold _ _ h9
  ·rw [hS];exact hold _ _ (h.la h0)
  ·obtain ⟨w,h3,h4⟩:=h.va h0
   exact ⟨w,h3,by rw [hS];exact hold _ _ h4⟩
  ·rw [hS]
   rcases hn.inv x _ h1 with h3 | ⟨_,h3⟩
   ·obtain ⟨g1,g2,g3⟩:=h.vs x v' h3
    obtain ⟨w,_,h5⟩:=h.va g1
    exact ⟨g1,g2,fun g4=>(g3 g4).imp id fun g5=>(hn.ord hw h3 h5).2 g5⟩
   ·have hm:=Aoy h3
    have hnum:v'.num=v.num:=by have h8:=A20 Vw.num hm;exact h8
    exact ⟨hvd,by rw [hnum];omega,fun g4=>by rw [hnum] at g4;rw [g4] at hlt;omega⟩
end
end
section
open Go.K
theorem Iz (a b:Wd):(I3 a b).toNat=max a.toNat b.toNat:=by
 unfold I3
 split <;> omega
theorem Rz.monoQ {A:Ab} {P:NdM} {Q Q':Int→Wd→List By→Prop} {z:Sg} (h:Rz A P Q z) (hq:∀ k e b,Q k e b→Q' k e b):Rz A P Q' z :=
 ⟨h.last,h.vw,h.viewed,h.ix,h.pd,h.la,h.va,h.kd,fun x k e b h1 h2=>(h.nd x k e b h1 h2).imp id (hq k e b),h.cm,h.vs⟩
theorem Mp.put_len {α:Type} (m:Mp α) (k:Int) (v:α):(m.put k v).es.length≤m.es.length+1:=by
 rw [← Mp.keys_len,← Mp.keys_len,Mp.put_keys]
 split
 ·omega
 ·simp
theorem refs_len (S:Sto):(refs S).length=(if 0<S.last.ep.toNat then 1 else 0)+(if S.viewed=true then 1 else 0)+S.idx.es.length+S.pend.es.length:=by
 unfold refs
 rw [Azz,Azz,Azz,A1a,A1a]
 split <;> split <;> simp <;> omega
theorem Ao0 {n:Nat} {q:Qt} {A:Ab} {P:NdM} {Q:Int→Wd→List By→Prop} {S0:Sto} {c0:Chip} {z':Sg} {p:Pg} {y:Pl2} (h0:c0.after<0) (h:DnM n q (IRz A P Q S0 c0) z'∨∃ k' z1,LW k' z1∧P0 z1∧IRz A P Q S0 c0 z1∧2≤fr z1∧AppG n q z1 p 30 y z'):False:=by
 have ha:∀ {z1:Sg} {p:Pg} {y:Pl2},IRz A P Q S0 c0 z1→AppG n q z1 p 30 y z'→False:=fun hI hA=>by
  have h1:=(hI.2.2.pos h0).1
  rcases hA.2.2.2.2.2 with h | h
  ·exact h.1 rfl
  ·exact h.2.2.1 (by omega)
 rcases h with ⟨_,z1,_,_,hI,h⟩ | ⟨_,z1,_,_,hI,_,h⟩
 ·rcases h with ⟨_,_,_,_,_,_,h⟩ | ⟨b,_,_,_,_,h⟩
  ·exact ha hI h
  ·have h1:=(hI.2.2.pos h0).1
   rcases h.2.2.2.2.2.2 with h | h
   ·exact absurd h.1 (by decide)
   ·exact h.2.2 (by omega)
 ·exact ha hI h
theorem WrR.keep {n:Nat} {q:Qt} {A:Ab} {c0:Chip} {xs:List N3} {e:Int} {z z':Sg} (h:WrR n q xs z e z'):∀ {P:NdM} {Q:Int→Wd→List By→Prop} {k:Nat},LW k z→k+2000*xs.length≤300000000000→z.L.nb≤40→Rz A P Q z→FrA c0 z.L.d.c→1≤fr z →
  (refs z.S).length+xs.length+20≤6*z.L.nb→(e≠30∨c0.after<0) →
  e=0∧LW (k+2000*xs.length) z'∧Rz A (I5 P xs) (fun k e b=>Q k e b∨(k,e,b)∈xs) z'∧FrA c0 z'.L.d.c∧1≤fr z'∧z'.L.nb=z.L.nb∧(refs z'.S).length≤(refs z.S).length+xs.length ∧
   (∀ t:Nat,z.S.seen.toNat≤t→(∀ x∈xs,x.2.1.toNat≤t)→z'.S.seen.toNat≤t):=by
 induction h with
 | @nil z=>exact fun hw _ _ hR hf h1 _ _=>⟨rfl,hw,hR.monoQ fun _ _ _ h=> .inl h,hf,h1,rfl,A2q _,fun t h _=>h⟩
 | @stop ky ep b xs z z1 er y hok hp he =>
  intro P Q k hw hk h40 hR hf h1 hc h30
  rw [A0q] at hk hc
  have hI:IRz A P Q (wr1 z ky ep).S c0 (wr1 z ky ep):=⟨⟨hR.last,hR.vw,hR.viewed,hR.ix.mono fun _ _ _ _ h=>h,hR.pd.mono fun _ _ _ _ h=>h,hR.la,hR.va,hR.kd,hR.nd,hR.cm,hR.vs⟩,.refl _,hf⟩
  rcases hp.keep (z:=wr1 z ky ep) (Aoz A P Q (wr1 z ky ep).S c0) (hw.of rfl rfl) (by omega) h40 hI.1.p0 hI h1 (by show (refs z.S).length+20≤6*z.L.nb;omega) with ⟨g,hd⟩ | ⟨g,_⟩
  ·rcases h30 with h30 | h30
   ·exact absurd g h30
   ·exact (Ao0 h30 hd).elim
  ·exact absurd g he
 | @go ky ep b xs z z1 z' er y hok hp _ ih =>
  intro P Q k hw hk h40 hR hf h1 hc h30
  rw [A0q] at hk hc
  have hI:IRz A P Q (wr1 z ky ep).S c0 (wr1 z ky ep):=⟨⟨hR.last,hR.vw,hR.viewed,hR.ix.mono fun _ _ _ _ h=>h,hR.pd.mono fun _ _ _ _ h=>h,hR.la,hR.va,hR.kd,hR.nd,hR.cm,hR.vs⟩,.refl _,hf⟩
  rcases hp.keep (z:=wr1 z ky ep) (Aoz A P Q (wr1 z ky ep).S c0) (hw.of rfl rfl) (by omega) h40 hI.1.p0 hI h1 (by show (refs z.S).length+20≤6*z.L.nb;omega) with ⟨g,_⟩ | ⟨_,k',z2,w1,w2,⟨w3,w4,w5⟩,w6,w7,w8,w9,w10,w11,w12⟩
  ·cases g
  have hnb:z1.L.nb=z.L.nb:=w9.nb.trans w8
  have hlen:(refs z1.S).length=(refs z.S).length:=by rw [w9.S];exact w7
  have hlen2:(refs (wr2 z1 ky ep y).S).length≤(refs z.S).length+1:=by
   rw [← hlen,refs_len,refs_len]
   have:=Mp.put_len z1.S.pend ky ⟨y,ep⟩
   show _+_+z1.S.idx.es.length+(z1.S.pend.put ky ⟨y,ep⟩).es.length≤_
   show (if 0<z1.S.last.ep.toNat then 1 else 0)+(if z1.S.viewed=true then 1 else 0)+z1.S.idx.es.length+(z1.S.pend.put ky ⟨y,ep⟩).es.length≤_
   omega
  obtain ⟨v1,v2,v3,v4,v5,v6,v7,v8⟩:=ih (P:=Va P (ky,ep,b)) (Q:=fun k' e' b'=>Q k' e' b'∨(k',e',b')=(ky,ep,b)) (k:=k+2000) (w12.of rfl rfl) (by omega) (by show z1.L.nb≤40;omega) (w3.write w1 hok w9) (w5.trans w10) w11 (by show (refs (wr2 z1 ky ep y).S).length+xs.length+20≤6*z1.L.nb;omega) h30
  refine ⟨v1,v2.mono (by rw [A0q];omega),v3.monoQ fun k' e' b' h9=> ?_,v4,v5,v6.trans hnb,by rw [A0q];omega,fun t ht hx=> ?_⟩
  ·rcases h9 with (h9 | h9) | h9
   ·exact .inl h9
   ·exact .inr (by rw [h9];exact Azx)
   ·exact .inr (Azm _ h9)
  ·refine v8 t ?_ fun x h9=>hx x (Azm _ h9)
   have h2:=hx _ Azx
   show z1.S.seen.toNat≤t
   rw [w9.S,w4.seen]
   show (I3 z.S.seen ep).toNat≤t
   rw [Iz]
   simp only at h2
   omega
def epN (ix:NdM) (k:Int):Wd:=match ix k with | some r=>r.1 | none=>0
def Ux (l:Lv) (ix:NdM):BitVec 32:=(C8 l 256).foldl (fun c k=>K3 c [Co 1 (BitVec.ofInt 64 k),Co 8 (epN ix k)]) 0
theorem Aci {α β:Type} {f g:β→α→β}:∀ {xs:List α} {b:β},(∀ b,∀ x∈xs,f b x=g b x)→xs.foldl f b=xs.foldl g b
 | [],_,_=>rfl
 | x::xs,b,h=>by
  rw [A1n,A1n,h b x Azx]
  exact Aci fun b y hy=>h b y (Azm _ hy)
theorem Ao1 (l:Lv) (n:Nat):(C8 l n).Pairwise (·<·):=by
 unfold C8
 refine List.Pairwise.filter _ ?_
 rw [A0k]
 exact List.pairwise_lt_range.imp fun h=>by omega
theorem Xf {m:Mp En} {l:Lv} (h:∀ k,(m.get k).isSome=B4 l k):Dz m.keys=C8 l 256:=by
 have hp:(Dz m.keys).Perm (C8 l 256):=by
  refine (B5 _).trans ((List.perm_ext_iff_of_nodup m.keys_nodup (Rj l 256)).2 fun k=> ?_)
  rw [keysL_mem,← h k]
  exact Mp.get_some.symm
 exact List.Perm.eq_of_pairwise (le:=(·≤·)) (fun a b _ _ h1 h2=>by omega) (Pa _) ((Ao1 l 256).imp fun h=>by omega) hp
theorem Stands.isSome {z:Sg} {m:Mp En} {f:NdM} (h:Stands z m f) (k:Int):(m.get k).isSome=(f k).isSome:=by
 cases hf:f k with
 | none=>rw [h.no hf];rfl
 | some r=>obtain ⟨en,h1,_⟩:=h.yes (k:=k) (e:=r.1) (b:=r.2) hf;rw [h1];rfl
theorem Zl {z:Sg} {m:Mp En} {f:NdM} {l:Lv} (h:Stands z m f) (hl:∀ k,(f k).isSome=B4 l k):K5 m=Ux l f:=by
 unfold K5 Ux
 rw [Xf (l:=l) fun k=>(h.isSome k).trans (hl k)]
 refine Aci fun b k hk=> ?_
 have hk:=keysL_mem.1 hk
 rw [← hl k] at hk
 have:Ab6 m k=epN f k:=by
  obtain ⟨r,hr⟩:=Option.isSome_iff_exists.1 hk
  obtain ⟨en,h1,h2,_⟩:=h.yes (k:=k) (e:=r.1) (b:=r.2) hr
  unfold Ab6 Qp epN
  rw [h1,hr]
  exact h2
 rw [this]
theorem Au4 {m:Mp En} {l:Lv} (h:∀ k,(m.get k).isSome=true→B4 l k=true):m.es.length≤(C8 l 256).length:=by
 rw [← Mp.keys_len]
 exact Fs m.keys_nodup fun k hk=>keysL_mem.2 (h k (Mp.get_some.2 hk))
structure Std (A:Ab) (z:Sg):Prop where
 rz:Rz A noP noQ z
 seen:z.S.seen=A.seen
 stray:∀ k,(z.S.stray.get k).isSome=A.stray k
 strk:∀ k,A.stray k=true→Dc k=true
 hurt:z.S.hurt=false
 live:∀ k,(A.ix k).isSome=B4 A.last.lv k
 ep:∀ k e b,A.ix k=some (e,b)→e.toNat≤A.last.ep.toNat
 ls:A.last.ep.toNat≤A.seen.toNat
 l0:A.last.ep.toNat=0→A.last=cm0
 sum:0<A.last.ep.toNat→A.last.sum=Ux A.last.lv A.ix
 lim:((C8 A.last.lv 256).length:Int)≤Hy z.L.nb
 nb4:4≤z.L.nb∧z.L.nb≤40
 fr:1≤fr z
 vwm:A.viewed=true→vwM A.vw=A.vw
 v0:A.viewed=false→A.vw=vw0
theorem Acj {n:Nat} (h:4≤n∧n≤40):Hy n=3*(n:Int) - 11:=by unfold Hy;omega
theorem Std.idx_len {A:Ab} {z:Sg} (h:Std A z):z.S.idx.es.length≤(C8 A.last.lv 256).length:=Au4 fun k hk=>by rw [← h.live k,← h.rz.ix.isSome k];exact hk
theorem Std.refs_len {A:Ab} {z:Sg} (h:Std A z):(refs (G0 z).S).length+(Hy z.L.nb).toNat+20≤6*z.L.nb:=by
 rw [Go.Proofs.YtpmojdippdlcaaaGreatDoor.refs_len]
 have h1:=h.idx_len
 have h2:=h.lim
 have h3:=Acj h.nb4
 have h4:=h.nb4
 show (if 0<z.S.last.ep.toNat then 1 else 0)+(if z.S.viewed=true then 1 else 0)+z.S.idx.es.length+0+(Hy z.L.nb).toNat+20≤6*z.L.nb
 split <;> split <;> omega
def Ca (ix:NdM) (k:Int):List By:=match ix k with | some r=>r.2 | none=>[]
theorem Axo {z:Sg} (h:Stands z z.S.pend noP):z.S.pend.es=[]:=by
 cases hp:z.S.pend.es with
 | nil=>rfl
 | cons x xs =>
  have h1:x∈z.S.pend.es:=by rw [hp];exact Azx
  have:=h.no (k:=x.k) rfl
  rw [Mp.get_mem h1] at this
  cases this
section
variable {n k:Nat} {q:Qt} {A:Ab} {z z':Sg} {ep:Wd} {cs:List Chg}
theorem Std.clr (h:Std A z):Rz A noP noQ (G0 z):=⟨h.rz.last,h.rz.vw,h.rz.viewed,h.rz.ix.mono fun _ _ _ _ h=>h,fun k=>Mp.get_clr _ k,h.rz.la,h.rz.va,h.rz.kd,h.rz.nd,h.rz.cm,h.rz.vs⟩
theorem Std.lv (h:Std A z):Cc z cs=cs.foldl Eh A.last.lv:=by unfold Cc;rw [h.rz.last]
theorem Std.again (h:Std A z) {ky:Int} (hk:Eq (Cc z cs) (cs.map (·.key)) ky=true):B4 A.last.lv ky=true∧ky∉cs.map (·.key)∧B4 (Cc z cs) ky=true∧∃ e,A.ix ky=some (e,Ca A.ix ky)∧Bt ky (Ca A.ix ky)=true:=by
 unfold Eq at hk
 simp only [A0r,A0e,Ayz] at hk
 obtain ⟨h1,h2⟩:=hk
 have h3:B4 A.last.lv ky=true:=by rw [h.lv,Kr h2] at h1;exact h1
 refine ⟨h3,h2,h1,?_⟩
 have h4:=h.live ky
 rw [h3] at h4
 obtain ⟨r,hr⟩:=Option.isSome_iff_exists.1 h4
 obtain ⟨en,_,_,h5,_⟩:=h.rz.ix.yes (k:=ky) (e:=r.1) (b:=r.2) hr
 have hb:Ca A.ix ky=r.2:=by unfold Ca;rw [hr]
 exact ⟨r.1,by rw [hb];exact hr,by rw [hb];exact h5⟩
theorem Std.hA (h:Std A z):∀ k∈z.S.stray.keys,Eq (Cc z cs) (cs.map (·.key)) k=true→∃ e,z.S.idx.get k=some e∧Bt k (Ca A.ix k)=true∧RecAt z e.at' (Cw 10 (Ez k e.ep (Ca A.ix k))):=fun ky _ hk=>by
 obtain ⟨_,_,_,e,h1,h2⟩:=h.again hk
 obtain ⟨en,g1,g2,g3,g4⟩:=h.rz.ix.yes h1
 subst g2
 exact ⟨en,g1,g3,g4⟩
theorem Std.hm (h:Std A z):z.S.stray.es.length≤1000:=by
 rw [← Mp.keys_len]
 have:z.S.stray.keys.length≤((List.range 256).map fun i:Nat=>(i:Int)).length:=Fs z.S.stray.keys_nodup fun k hk=>by
  have h1:=h.strk k (by rw [← h.stray k];exact Mp.get_some.2 hk)
  obtain ⟨m,rfl,hm⟩:=Ev h1
  exact A2b.2 ⟨m,A1w.2 hm,rfl⟩
 rw [A1a,List.length_range] at this
 omega
theorem Std.nds (h:Std A z) (hb:Ch z ep cs=false):((B7 z ep cs (Ca A.ix)).map (·.1)).Nodup∧(∀ x∈B7 z ep cs (Ca A.ix),x.2.1=ep∧B4 (Cc z cs) x.1=true) ∧
  (∀ k,B4 (Cc z cs) k=true→k∉(B7 z ep cs (Ca A.ix)).map (·.1)→A.stray k=false∧B4 A.last.lv k=true):=by
 unfold Ch L4 at hb
 simp only [Azp,Az7,A0r,A00] at hb
 obtain ⟨⟨_,hall⟩,hon⟩:=hb
 have hnd:=onceC_iff.1 hon
 have e1:(Fo z.S (Cc z cs) ep (cs.map (·.key)) (Ca A.ix)).map (·.1)=(Dz z.S.stray.keys).filter (Eq (Cc z cs) (cs.map (·.key))):=by
  unfold Fo
  rw [A2c]
  exact List.map_id _
 have e2:(Eo ep cs).map (·.1)=(cs.filter fun c=> !c.gone).map (·.key):=by
  unfold Eo
  rw [A2c]
  rfl
 have hsub:((cs.filter fun c=> !c.gone).map (·.key)).Sublist (cs.map (·.key)):=List.filter_sublist.map _
 have hv:∀ c∈cs,Dc c.key=true:=fun c hc=>by
  have:=hall c hc
  unfold Pb Bt at this
  simp only [A0r] at this
  exact this.1
 refine ⟨?_,fun x hx=> ?_,fun k h1 h2=> ?_⟩
 ·unfold B7
  rw [A1i,e1,e2]
  refine A0g.2 ⟨((B5 _).nodup_iff.2 z.S.stray.keys_nodup).filter _,hsub.nodup hnd,fun a ha b hb e=> ?_⟩
  have:=(h.again (A1e.1 ha).2).2.1
  exact this (by rw [e];exact hsub.mem hb)
 ·unfold B7 at hx
  rcases A1d.1 hx with hx | hx
  ·unfold Fo at hx
   obtain ⟨ky,hk,rfl⟩:=A2b.1 hx
   exact ⟨rfl,(h.again (A1e.1 hk).2).2.2.1⟩
  ·unfold Eo at hx
   obtain ⟨c,hc,rfl⟩:=A2b.1 hx
   obtain ⟨hc1,hc2⟩:=A1e.1 hc
   refine ⟨rfl,?_⟩
   rw [h.lv]
   show B4 (cs.foldl Eh A.last.lv) c.key=true
   rw [Zk hnd hc1 (hv c hc1)]
   exact hc2
 ·have h2':k∉(Dz z.S.stray.keys).filter (Eq (Cc z cs) (cs.map (·.key)))∧k∉(cs.filter fun c=> !c.gone).map (·.key):=by
   unfold B7 at h2
   rw [A1i,e1,e2,A1d,not_or] at h2
   exact h2
  have hk:k∉cs.map (·.key):=fun hk=>by
   obtain ⟨c,hc,rfl⟩:=A2b.1 hk
   have h3:=h1
   rw [h.lv,Zk hnd hc (hv c hc)] at h3
   exact h2'.2 (A2b.2 ⟨c,A1e.2 ⟨hc,h3⟩,rfl⟩)
  refine ⟨?_,by rw [h.lv,Kr hk] at h1;exact h1⟩
  rw [← h.stray k]
  cases hg:(z.S.stray.get k).isSome with
  | false=>rfl
  | true =>
   exact absurd (A1e.2 ⟨(B5 _).mem_iff.2 (Mp.get_some.1 hg),by unfold Eq;simp [h1];simpa using hk⟩) h2'.1
theorem Std.nds_len (h:Std A z) (hb:Ch z ep cs=false):(B7 z ep cs (Ca A.ix)).length≤(C8 (Cc z cs) 256).length:=by
 obtain ⟨h1,h2,_⟩:=h.nds hb
 rw [← A1a (f:=fun x:N3=>x.1)]
 exact Fs h1 fun k hk=>by
  obtain ⟨x,hx,rfl⟩:=A2b.1 hk
  exact keysL_mem.2 (h2 x hx).2
theorem Std.cap (h:Std A z) (hb:Ch z ep cs=false) (hf:Cn z cs=false):(refs (G0 z).S).length+(B7 z ep cs (Ca A.ix)).length+20≤6*z.L.nb:=by
 have h1:=h.refs_len
 have h2:=h.nds_len hb
 unfold Cn at hf
 simp only [Ayz] at hf
 have h3:=Acj h.nb4
 omega
end
end
section
open Go.K
structure ComA (A:Ab) (e0:Wd) (cs:List Chg) (A':Ab):Prop where
 ep:A'.last.ep=e0
 lv:A'.last.lv=cs.foldl Eh A.last.lv
 seen:A'.seen=e0
 vw:A'.vw=A.vw
 viewed:A'.viewed=A.viewed
 stray:∀ k,A'.stray k=false
 chg:∀ c∈cs,c.gone=false→A'.ix c.key=some (e0,c.body.list)
 oth:∀ k,k∉cs.map (·.key)→∀ e b,A.ix k=some (e,b)→A'.ix k=some (if A.stray k=true then e0 else e,b)
theorem Ao2 {cs:List Chg} {ep:Wd} {c:Chg} (hc:c∈cs) (hg:c.gone=false):(c.key,ep,c.body.list)∈Eo ep cs :=
 A2b.2 ⟨c,A1e.2 ⟨hc,by rw [hg];rfl⟩,rfl⟩
section
variable {n k:Nat} {q:Qt} {A:Ab} {z z':Sg} {ep:Wd} {cs:List Chg} {e:Int}
theorem Std.commit (h:Std A z) (hw:LW k z) (hk:k≤200000000000) (hb:Ch z ep cs=false) (hf:Cn z cs=false) {z1 z2:Sg} {e1:Int} {m:Mp En} (hW:WrR n q (B7 z ep cs (Ca A.ix)) (G0 z) e1 z1) :
  ((e1≠30∨z.L.d.c.after<0)→e1=0∧FrA z.L.d.c z1.L.d.c∧(Mz z1.S (Cc z cs) m→EndR n q z1 ⟨ep,Cc z cs,K5 m⟩ e z2→(e≠30∨z.L.d.c.after<0)→e=0∧FrA z.L.d.c z2.L.d.c∧∃ A',ComA A ep cs A'∧Std A' (G0 z2))):=by
 intro he1
 have hcap:=h.cap hb hf
 obtain ⟨n1,n2,n3⟩:=h.nds hb
 have hlenN:=h.nds_len hb
 have hk256:=Hb (Cc z cs) 256
 obtain ⟨w1,w2,w3,w4,w5,w6,w7,w8⟩:=hW.keep (hw.of (z':=G0 z) rfl rfl) (by omega) h.nb4.2 h.clr (.refl _) h.fr hcap he1
 refine ⟨w1,w4,fun hM hE he=> ?_⟩
 have hgt:A.seen.toNat<ep.toNat:=by
  have h9:=hb
  unfold Ch L4 at h9
  simp only [Azp,Az7,A0r,A0d] at h9
  rw [← h.seen]
  have:=h9.1.1
  omega
 have hseen:z1.S.seen.toNat≤ep.toNat:=w8 ep.toNat (by show z.S.seen.toNat≤_;rw [h.seen];omega) fun x hx=>by rw [(n2 x hx).1];exact A2q _
 have hlive:∀ k,(if B4 (Cc z cs) k=true then orE (I5 noP (B7 z ep cs (Ca A.ix)) k) (A.ix k) else none).isSome=B4 (Cc z cs) k:=fun k=>by
  by_cases hl:B4 (Cc z cs) k=true
  ·rw [A25 hl,hl]
   by_cases hk:k∈(B7 z ep cs (Ca A.ix)).map (·.1)
   ·obtain ⟨⟨k',e',b'⟩,hx,rfl⟩:=A2b.1 hk
    rw [Gx n1 hx];rfl
   ·rw [J5 hk]
    show (A.ix k).isSome=true
    rw [h.live k]
    exact (n3 k hl hk).2
  ·rw [A26 hl]
   simp at hl
   rw [hl];rfl
 have hsum:K5 m=Ux (Cc z cs) (fun k=>if B4 (Cc z cs) k=true then orE (I5 noP (B7 z ep cs (Ca A.ix)) k) (A.ix k) else none) :=
  Zl (L5 w3 (fun _ _ h=>h) hM) hlive
 obtain ⟨y,z3,hP,hZ⟩:=hE
 have hI:IRz A (I5 noP (B7 z ep cs (Ca A.ix))) (fun k e b=>noQ k e b∨(k,e,b)∈B7 z ep cs (Ca A.ix)) z1.S z.L.d.c z1:=⟨w3,.refl _,w4⟩
 rcases hP.keep (Aoz _ _ _ z1.S z.L.d.c) w2 (by omega) (by rw [w6];exact h.nb4.2) hI.1.p0 hI w5 (by rw [w6];show _≤6*z.L.nb;omega) with ⟨g,hd⟩ | ⟨g0,k',z4,g1,g2,⟨g3,g4,g5⟩,g6,g7,g8,g9,g10,g11,g12⟩
 ·rcases he with he | he
  ·exact absurd g he
  ·exact (Ao0 he hd).elim
 refine ⟨g0,?_⟩
 obtain ⟨m',hm',rfl⟩:∃ m',Mz z3.S (Cc z cs) m'∧z2={ z3 with S:=Arv z3.S ⟨ep,Cc z cs,K5 m⟩ y m' }:=by
  rcases hZ with ⟨g,_⟩ | ⟨_,m',g,g'⟩
  ·exact absurd g0 g
  ·exact ⟨m',g,g'⟩
 refine ⟨g5.trans g10,A.fin (I5 noP (B7 z ep cs (Ca A.ix))) ⟨ep,Cc z cs,K5 m⟩,⟨rfl,h.lv,rfl,rfl,rfl,fun _=>rfl,fun c hc hg=> ?_,fun ky hky e b hi=> ?_⟩,?_⟩
 ·show (if B4 (Cc z cs) c.key=true then orE (I5 noP (B7 z ep cs (Ca A.ix)) c.key) (A.ix c.key) else none)=_
  have hx:(c.key,ep,c.body.list)∈B7 z ep cs (Ca A.ix):=by unfold B7;exact Aza _ (Ao2 hc hg)
  rw [A25 (n2 _ hx).2,Gx n1 hx]
  rfl
 ·show (if B4 (Cc z cs) ky=true then orE (I5 noP (B7 z ep cs (Ca A.ix)) ky) (A.ix ky) else none)=_
  have hl:B4 (Cc z cs) ky=true:=by
   rw [h.lv,Kr hky,← h.live ky,hi];rfl
  rw [A25 hl]
  cases hs:A.stray ky with
  | true =>
   have hx:(ky,ep,Ca A.ix ky)∈B7 z ep cs (Ca A.ix):=by
    unfold B7 Fo
    refine Azo _ (A2b.2 ⟨ky,A1e.2 ⟨(B5 _).mem_iff.2 (Mp.get_some.1 (by rw [h.stray ky];exact hs)),?_⟩,rfl⟩)
    unfold Eq
    rw [hl]
    simpa using hky
   rw [Gx n1 hx,A25 rfl]
   have:Ca A.ix ky=b:=by unfold Ca;rw [hi]
   rw [this]
   rfl
  | false =>
   have hx:ky∉(B7 z ep cs (Ca A.ix)).map (·.1):=fun hx=>by
    unfold B7 at hx
    rw [A1i,A1d] at hx
    rcases hx with hx | hx
    ·unfold Fo at hx
     rw [A2c] at hx
     obtain ⟨k2,h2,e2⟩:=A2b.1 hx
     have e2:k2=ky:=e2
     subst e2
     have:=Mp.get_some.2 ((B5 _).mem_iff.1 (A1e.1 h2).1)
     rw [h.stray k2,hs] at this
     cases this
    ·unfold Eo at hx
     rw [A2c] at hx
     obtain ⟨c,h2,e2⟩:=A2b.1 hx
     exact hky (A2b.2 ⟨c,(A1e.1 h2).1,e2⟩)
   rw [J5 hx,A26 (by decide)]
   exact hi
 ·have hm4:Mz z4.S (Cc z cs) m':=by rw [← g9.S];exact hm'
  have hrz:=Rz.fin g1 g3 g9 hm4 hgt h.ls (fun ky e b hq=>by
    rcases hq with hq | hq
    ·exact hq.elim
    ·exact ⟨(n2 _ hq).1,Gx n1 hq⟩) (fun ky e b hp=>by
    rcases Pk hp with hx | hx
    ·exact (n2 _ hx).1
    ·cases hx) (fun ky hl hp=>by
    refine n3 ky hl fun hk=> ?_
    obtain ⟨⟨k',e',b'⟩,hx,rfl⟩:=A2b.1 hk
    rw [Gx n1 hx] at hp
    cases hp)
  have hnb:z3.L.nb=z.L.nb:=g9.nb.trans (g8.trans w6)
  have hsn:z3.S.seen=z1.S.seen:=by rw [g9.S];exact g4.seen
  refine ⟨hrz,?_,fun ky=> ?_,fun ky hk=>(by cases hk),rfl,hlive,fun ky e b hi=> ?_,A2q _,fun h0=> ?_,fun _=>hsum,?_,by show 4≤z3.L.nb∧z3.L.nb≤40;rw [hnb];exact h.nb4,g11,h.vwm,h.v0⟩
  ·show I3 z3.S.seen ep=ep
   refine Azg ?_
   rw [Iz,hsn]
   omega
  ·show (z3.S.stray.clr.get ky).isSome=false
   rw [Mp.get_clr];rfl
  ·show e.toNat≤ep.toNat
   have hi:(if B4 (Cc z cs) ky=true then orE (I5 noP (B7 z ep cs (Ca A.ix)) ky) (A.ix ky) else none)=some (e,b):=hi
   split at hi
   ·cases hp:I5 noP (B7 z ep cs (Ca A.ix)) ky with
    | some r =>
     obtain ⟨e2,b2⟩:=r
     rw [hp] at hi
     have hi:some (e2,b2)=some (e,b):=hi
     have:=A1h hi
     simp only [A13] at this
     rw [← this.1]
     rcases Pk hp with hx | hx
     ·have h8:e2=ep:=(n2 _ hx).1
      rw [h8];exact A2q _
     ·cases hx
    | none =>
     rw [hp] at hi
     have:=h.ep ky e b hi
     have:=h.ls
     omega
   ·cases hi
  ·have h0:ep.toNat=0:=h0
   omega
  ·show ((C8 (Cc z cs) 256).length:Int)≤Hy z3.L.nb
   rw [hnb]
   have h9:=hf
   unfold Cn at h9
   simp only [Ayz] at h9
   omega
theorem Std.hS (h:Std A z) (hw:LW k z) (hk:k≤200000000000) (h13:z.L.nb≤13) (hb:Ch z ep cs=false) (hf:Cn z cs=false):∀ i z1 ky e b,WrR n q ((B7 z ep cs (Ca A.ix)).take i) (G0 z) 0 z1→(B7 z ep cs (Ca A.ix))[i]? =some (ky,e,b)→Bt ky b=true→Y3 n q (wr1 z1 ky e):=fun i z1 ky e b hW hg _=>by
 have hcap:=h.cap hb hf
 have hlenN:=h.nds_len hb
 have hk256:=Hb (Cc z cs) 256
 have hi:=(Aym.1 hg).1
 have htl:((B7 z ep cs (Ca A.ix)).take i).length=i:=by rw [A0v];omega
 obtain ⟨w1,w2,w3,w4,w5,w6,w7,w8⟩:=hW.keep (hw.of (z':=G0 z) rfl rfl) (by omega) h.nb4.2 h.clr (.refl _) h.fr (by rw [htl];show _≤6*z.L.nb;omega) (.inl (by decide))
 have w6:z1.L.nb=z.L.nb:=w6
 rw [htl] at w7
 exact Agt (z:=wr1 z1 ky e) w3.p0 w5 (by show (refs z1.S).length+20≤6*z1.L.nb;rw [w6];omega) (by show z1.L.nb≤13;omega)
theorem Std.hE (h:Std A z) (hw:LW k z) (hk:k≤200000000000) (h13:z.L.nb≤13) (hb:Ch z ep cs=false) (hf:Cn z cs=false):∀ z1,WrR n q (B7 z ep cs (Ca A.ix)) (G0 z) 0 z1→Y3 n q z1:=fun z1 hW=>by
 have hcap:=h.cap hb hf
 have hlenN:=h.nds_len hb
 have hk256:=Hb (Cc z cs) 256
 obtain ⟨w1,w2,w3,w4,w5,w6,w7,w8⟩:=hW.keep (hw.of (z':=G0 z) rfl rfl) (by omega) h.nb4.2 h.clr (.refl _) h.fr hcap (.inl (by decide))
 have w6:z1.L.nb=z.L.nb:=w6
 exact Agt w3.p0 w5 (by rw [w6];omega) (by omega)
theorem Std.safe (h:Std A z) (h13:z.L.nb≤13):Y3 n q z:=by
 have h1:=h.refs_len
 have h2:(refs z.S).length=(refs (G0 z).S).length:=by
  rw [Go.Proofs.YtpmojdippdlcaaaGreatDoor.refs_len,Go.Proofs.YtpmojdippdlcaaaGreatDoor.refs_len,Axo h.rz.pd]
  rfl
 exact Agt h.rz.p0 h.fr (by omega) h13
theorem Std.note (h:Std A z) (hw:LW k z) (hk:k≤200000000000) {v:Vw} (hN:Axz n q z v e z') (he:e≠30∨z.L.d.c.after<0):e=0∧FrA z.L.d.c z'.L.d.c∧Std (A.note v) z':=by
 obtain ⟨y,z1,hP,rfl⟩:=hN
 have h1:=h.refs_len
 have h2:(refs z.S).length=(refs (G0 z).S).length:=by
  rw [Go.Proofs.YtpmojdippdlcaaaGreatDoor.refs_len,Go.Proofs.YtpmojdippdlcaaaGreatDoor.refs_len,Axo h.rz.pd]
  rfl
 have hI:IRz A noP noQ z.S z.L.d.c z:=⟨h.rz,.refl _,.refl _⟩
 rcases hP.keep (Aoz _ _ _ z.S z.L.d.c) hw (by omega) h.nb4.2 hI.1.p0 hI h.fr (by omega) with ⟨g,hd⟩ | ⟨g0,k',z4,g1,g2,⟨g3,g4,g5⟩,g6,g7,g8,g9,g10,g11,g12⟩
 ·rcases he with he | he
  ·exact absurd g he
  ·exact (Ao0 he hd).elim
 subst g0
 have hrz:=Rz.note g1 g3 g9 (h.vwm)
 have hnb:z1.L.nb=z.L.nb:=g9.nb.trans g8
 have hS1:=g9.S
 rw [show (decide ((0:Int)=0) && (!z1.S.viewed || decide (z1.S.vw.num.toNat≤v.num.toNat)))=(!z1.S.viewed || decide (z1.S.vw.num.toNat≤v.num.toNat)) from rfl]
 have hvd:z1.S.viewed=A.viewed:=by rw [hS1];exact g3.viewed
 have hvw:z1.S.vw=A.vw:=by rw [hS1];exact g3.vw
 have hA:(A.note v).last=A.last∧(A.note v).seen=A.seen∧(A.note v).stray=A.stray∧(A.note v).ix=A.ix:=by
  unfold Ab.note;split <;> exact ⟨rfl,rfl,rfl,rfl⟩
 have hZ:(if (!z1.S.viewed || decide (z1.S.vw.num.toNat≤v.num.toNat))=true then { z1 with S:={ z1.S with vw:=vwM v,va:=y,viewed:=true } } else z1).L=z1.L∧(if (!z1.S.viewed || decide (z1.S.vw.num.toNat≤v.num.toNat))=true then { z1 with S:={ z1.S with vw:=vwM v,va:=y,viewed:=true } } else z1).R=z1.R ∧
   (if (!z1.S.viewed || decide (z1.S.vw.num.toNat≤v.num.toNat))=true then { z1 with S:={ z1.S with vw:=vwM v,va:=y,viewed:=true } } else z1).S.seen=z1.S.seen∧(if (!z1.S.viewed || decide (z1.S.vw.num.toNat≤v.num.toNat))=true then { z1 with S:={ z1.S with vw:=vwM v,va:=y,viewed:=true } } else z1).S.stray=z1.S.stray∧(if (!z1.S.viewed || decide (z1.S.vw.num.toNat≤v.num.toNat))=true then { z1 with S:={ z1.S with vw:=vwM v,va:=y,viewed:=true } } else z1).S.hurt=z1.S.hurt:=by
  split <;> exact ⟨rfl,rfl,rfl,rfl,rfl⟩
 generalize hzz:(if (!z1.S.viewed || decide (z1.S.vw.num.toNat≤v.num.toNat))=true then { z1 with S:={ z1.S with vw:=vwM v,va:=y,viewed:=true } } else z1)=zz at hrz hZ ⊢
 obtain ⟨a1,a2,a3,a4⟩:=hA
 obtain ⟨b1,b2,b3,b4,b5⟩:=hZ
 refine ⟨rfl,by rw [b1];exact g5.trans g10,hrz,by rw [b3,a2,hS1];exact g4.seen.trans h.seen,fun ky=>by rw [b4,a3,hS1,g4.stray];exact h.stray ky,by rw [a3];exact h.strk,by rw [b5,hS1,g4.hurt];exact h.hurt,by rw [a4,a1];exact h.live,by rw [a4,a1];exact h.ep,by rw [a1,a2];exact h.ls,by rw [a1];exact h.l0,by rw [a1,a4];exact h.sum,by rw [a1,b1,hnb];exact h.lim,by rw [b1,hnb];exact h.nb4,by unfold Go.Proofs.YtpmojdippdlcaaaGreatDoor.fr at g11 ⊢;rw [b1];exact g11,?_,?_⟩
 ·unfold Ab.note
  split
  ·intro _
   show vwM (vwM v)=vwM v
   unfold vwM
   simp only [Au3]
   congr 1
   omega
  ·exact h.vwm
 ·unfold Ab.note
  split
  ·intro h9;cases h9
  ·exact h.v0
end
end
section
open Go.K
instance ent15:Ent Tryz.prog 15:=⟨fun _ _=>by kernel_rfl⟩
instance ent49:Ent Tryz.prog 49:=⟨fun _ _=>by kernel_rfl⟩
theorem Ajc {c:Chip} {a:Nat} {e:Int} (ha:c.aC=a) (hb:2≤c.blocks.length∧c.blocks.length≤1000) (ho:Dj c=(e,ts0)) (he:e≠0):Does Tryz.prog 129 [ptr a] (chH c) (Is (.tuple #[.pointer none,.int .i64 e]) (chH c++[])):=by
 subst ha
 refine (Zf hb).mono fun v H h=> ?_
 unfold Uu at h
 rw [ho,A26 he] at h
 exact h
theorem An6 {a:Nat} {v:Value} {e:Int} (he:e≠0):Does Tryz.prog 130 [ptr a,v,.int .i64 e] [] (Is (.tuple #[.pointer none,.int .i64 e]) []):=by
 refine Ah (n:=15) Tryz.func130 Tryz.ntmps130 rfl (Ay9 rfl)<|Ad<|Aa fun ops=>oA rfl<|oA rfl<|Ac<|n_K<|Ad<|Ad<|Aa fun ops=>oM rfl<|oR (Ae rfl rfl rfl)<|Ac<|n_K ?_
 refine Aj rfl (fun c9=> ?_) (fun c9=> ?_)
 ·skip
  refine Ad<|Aa fun ops=>oM rfl<|oA rfl<|oA rfl<|Ac<|n_K<|An<|r_K ?_
  refine Aq (Bz Tryz.results130 (Ag rfl) (Ag rfl)) ?_ sP
  rfl
 ·skip
  exact absurd (by simpa using c9) he
theorem Ajd {c:Chip} {a:Nat} {e:Int} (ha:c.aC=a) (hb:2≤c.blocks.length∧c.blocks.length≤1000) (ho:Dj c=(e,ts0)) (he:e≠0):Does Tryz.prog 83 [ptr a] (chH c) (Is (.tuple #[.pointer none,.int .i64 e]) (chH c++[])):=by
 refine Ah (n:=17) Tryz.func83 Tryz.ntmps83 rfl (Ay9 rfl)<|Ad<|Aa fun ops=>oA rfl<|oA rfl<|Ac<|n_K<|Ad<|Aa fun ops=>oM rfl ?_
 refine A6 rfl (Ajc ha hb ho he) sP rfl aQ ?_
 refine oM rfl<|oE rfl rfl<|oE rfl rfl<|oA rfl<|oA rfl<|Ac<|n_K<|Ad<|Aa fun ops=>oM rfl<|oM rfl<|oM rfl ?_
 refine A6 rfl (An6 (a:=a) (v:= .pointer none) he) sP rfl aQ ?_
 refine oE rfl rfl<|oE rfl rfl<|oA rfl<|oA rfl<|Ac<|n_K<|An ?_
 refine Aq (Bz Tryz.results83 (Ag rfl) (Ag rfl)) ?_ sP
 rfl
def sgN (d:Dsk) (st lg ib pb sb bb:Nat) (bs:List LB):Sg:=⟨Jg st lg ib pb sb,⟨lg,bb,bs.length,-1,bs,d⟩,fun _=>[]⟩
def q0 (m:Nat):Qt:=⟨0,Ns (Gy m []) ((m:Int) - 6) m⟩
structure Laid11 (m:Nat) (z:Sg):Prop where
 wi:WI m 2000 (q0 m) z
 nb:z.L.nb+6=m
 sto:∃ st lg ib pb sb,z.S=Jg st lg ib pb sb
 none:∀ x p,¬ RecAt z x p
 free:Cb z.L.bs z.L.nb=z.L.nb
 af:z.L.d.c.after<0
theorem Laid.lz {m:Nat} {d:Dsk} {bs:List LB} {V:Nat→Blk} (h:Laid m d bs V):LZ m bs.length 2000 (q0 m) d bs (-1) V fun _=>[]:=by
 have hat:∀ j<bs.length,∃ w,bAt bs j=Ik w∧(V j).next=1∧A9 (V j) 0=I7 w:=fun j hj=>⟨_,h.blk j hj⟩
 have hs:∀ j<bs.length,(bAt bs j).seq.toNat=0:=fun j hj=>by obtain ⟨w,h1,_⟩:=hat j hj;rw [h1];rfl
 refine ⟨h.len,h.dv,h.acc,rfl,fun j hj=> ?_,.inl ⟨rfl,hs⟩,fun j hj=>by rw [hs j hj];exact A2r _,fun i hi j hj _ h0=>absurd (hs i hi) h0⟩
 obtain ⟨w,h1,h2,h3⟩:=hat j hj
 refine .inl ⟨⟨hs j hj,fun _=>⟨h2,by rw [h1];rfl,by rw [h1];exact h3⟩,?_⟩,rfl⟩
 have hbi:BI (V j):=(h.dv.blk (l:=j) (by have:=h.len;omega)).1
 unfold O7
 rw [hbi.pg (by omega) (by rw [h2];decide)]
 exact Nw
theorem Laid.l11 {m:Nat} {d:Dsk} {bs:List LB} {V:Nat→Blk} (h:Laid m d bs V) (st lg ib pb sb bb:Nat):Laid11 m (sgN d st lg ib pb sb bb bs):=by
 refine ⟨⟨rfl,V,h.lz⟩,h.len,⟨st,lg,ib,pb,sb,rfl⟩,fun x p ⟨b,j,_,_,h3⟩=>(by cases h3),?_,h.af⟩
 show Cb bs bs.length=bs.length
 have:∀ k,k≤bs.length→Cb bs k=k:=fun k=>by
  induction k with
  | zero=>exact fun _=>rfl
  | succ k ih =>
   intro hk
   obtain ⟨h1,_⟩:=h.blk k (by omega)
   rw [F8,ih (by omega),h1]
   rfl
 exact this _ (A2q _)
theorem Aeo {pp aC aB m:Nat} (hm:16≤m∧m≤40):Does Tryz.prog 49 [ptr aC] (chH (Du (-1) 0 pp aC aB m []))
  (fun v H=>∃ z:Sg,v= .tuple #[ptr z.S.st,.int .i64 0]∧H=(z.S.st,true,C (stC z.S) tSt)::(z.S.ib,true,z.S.idx.obj .i64)::(z.S.pb,true,z.S.pend.obj .i64)::(z.S.sb,true,z.S.stray.obj .i64)::(lgH z.L++[])∧Laid11 m z):=by
 have hX:=Atv hm
 have hlen:(Du (-1) 0 pp aC aB m []).blocks.length=m:=Hf
 refine Ah (n:=32) Tryz.func49 Tryz.ntmps49 rfl (Ay9 rfl)<|Ad<|Aa fun ops=>oA rfl<|oA rfl<|Ac<|n_K<|Ad<|Aa fun ops=>oM rfl ?_
 refine A6 rfl (Ajd (c:=Du (-1) 0 pp aC aB m []) (a:=aC) (e:=35) rfl (by rw [hlen];omega) (Aa0 (by omega)) (by decide)) sP rfl aQ ?_
 refine oM rfl<|oE rfl rfl<|oE rfl rfl<|oA rfl<|oA rfl<|Ac<|n_K<|Ad<|Ad<|Aa fun ops=>oM rfl<|oR (Ae rfl rfl rfl)<|Ac<|n_K ?_
 refine F1 rfl ?_
 refine Aa fun ops=>oM rfl ?_
 refine Bd rfl (Ag6 (pp:=pp) (aC:=aC) (aB:=aB) (m:=m) hm hX) sP rfl fun v16 Y16 h16=> ?_
 obtain ⟨d,rfl,rfl,hd⟩:=h16
 refine Ay aQ ?_
 refine oM rfl<|oE rfl rfl<|oE rfl rfl<|oA rfl<|oA rfl<|Ac<|n_K<|Ad<|Ad<|Aa fun ops=>oM rfl<|oR (Ae rfl rfl rfl)<|Ac<|n_K ?_
 refine Bi rfl ?_
 refine Ai<|n_K<|Ad<|Aa fun ops=>oM rfl ?_
 refine Bd rfl (Ap2 (q:=q0 m) (nb:=m - 6) (d:=d) hd.dd (by omega) (A2r 3) ⟨by rw [Atj hd.pf,Atk hd.wf,hd.lost];exact A2q 0,fun _=>hd.uses⟩ (by omega) hd.af) sP rfl fun v24 Y24 h24=> ?_
 obtain ⟨lg,bb,t',c',bs',V',rfl,rfl,hN⟩:=h24
 refine Ay aQ ?_
 refine oM rfl<|oE rfl rfl<|oE rfl rfl<|oA rfl<|oA rfl<|Ac<|n_K<|Ad<|Ad<|Aa fun ops=>oM rfl<|oR (Ae rfl rfl rfl)<|Ac<|n_K ?_
 refine Bi rfl ?_
 refine Ai<|n_K<|Ad<|Aa fun ops=>oM rfl ?_
 refine Bd rfl (W9 (lg:=lg)) sP rfl fun v31 Y31 h31=> ?_
 obtain ⟨st,ib,pb,sb,rfl,rfl⟩:=h31
 refine Ay aQ ?_
 refine oA rfl<|oA rfl<|Ac<|n_K<|An ?_
 exact Av (Bz Tryz.results49 (Ag rfl) (Ag rfl)) (by exact ⟨sgN ⟨d.dk,t',c'⟩ st lg ib pb sb bb bs',rfl,by show _=(st,true,C (stC (Jg st lg ib pb sb)) tSt)::(ib,true,(Mp.nil:Mp En).obj .i64)::(pb,true,(Mp.nil:Mp En).obj .i64)::(sb,true,(Mp.nil:Mp Int).obj .i64)::(lgH ⟨lg,bb,bs'.length,-1,bs',⟨d.dk,t',c'⟩⟩++[]);rw [Ey,hN.len];first | done | simp only [A02,A1j,A1k,A0j],Laid.l11 (m:=m) (V:=V') (d:=⟨d.dk,t',c'⟩) (bs:=bs') ⟨by rw [hN.len];omega,hN.dv.mono (by omega),hN.acc,by rw [(hN.fr.pos hd.af).1];exact hd.af,by rw [hN.len];exact hN.new⟩ st lg ib pb sb bb⟩) sP
theorem Xb {m:Nat} (hm:16≤m∧m≤40):Does Tryz.prog 15 [.int .i64 (m:Nat)] []
  (fun v H=>∃ z:Sg,v=ptr z.S.st∧H=(z.S.st,true,C (stC z.S) tSt)::(z.S.ib,true,z.S.idx.obj .i64)::(z.S.pb,true,z.S.pend.obj .i64)::(z.S.sb,true,z.S.stray.obj .i64)::(lgH z.L++[])∧Laid11 m z):=by
 have hok:Ov (m:Int) []=true:=by unfold Ov;simp;omega
 refine Ah (n:=21) Tryz.func15 Tryz.ntmps15 rfl (Ay9 rfl)<|Ad<|Aa fun ops=>oA rfl<|Ac<|n_K<|Ad<|Aa fun ops=> ?_
 refine Bd rfl (Abb) sP rfl fun v8 Y8 h8=> ?_
 obtain ⟨p8,rfl,rfl⟩:=h8
 refine Ay aQ ?_
 refine oM rfl ?_
 refine Bd rfl (Asz (n:=m) hok) sP rfl fun v10 Y10 h10=> ?_
 obtain ⟨aC,aB,rfl,rfl⟩:=h10
 refine Ay aQ ?_
 refine oM rfl<|oE rfl rfl<|oE rfl rfl<|oA rfl<|oA rfl<|Ac<|n_K<|Ad<|Ad<|Aa fun ops=>oM rfl<|oR (Og rfl rfl)<|Ac<|n_K ?_
 refine Bi rfl ?_
 refine Ai<|n_K<|Ad<|Aa fun ops=>oM rfl ?_
 refine Bd rfl (Aeo (pp:=p8) (aC:=aC) (aB:=aB) (m:=m) hm) sP rfl fun v17 Y17 h17=> ?_
 obtain ⟨z,rfl,rfl,hz⟩:=h17
 refine Ay aQ ?_
 refine oM rfl<|oE rfl rfl<|oE rfl rfl<|oA rfl<|oA rfl<|Ac<|n_K<|Ad<|Aa fun ops=>oM rfl<|oA rfl<|Ac<|n_K<|An ?_
 exact Av (At Tryz.results15 (Ag rfl)) (by exact ⟨z,rfl,rfl,hz⟩) sP
end
section
open Go.K
instance agg191:Agg Tryz.prog 191 true:=⟨⟨_,Tryz.underlying191,rfl⟩⟩
instance siz191:Siz Tryz.prog 191 4:=⟨by kernel_rfl⟩
instance zer191:Zer Tryz.prog 191 ([.int .i64 0,.int .i64 0,.int .u64 0,.int .i64 0]):=⟨by kernel_rfl⟩
instance plc31:Plc Tryz.prog 31 [(0,1),(1,1),(2,1)]:=⟨⟨_,Tryz.underlying31,fun _=>by kernel_rfl⟩⟩
instance plc191:Plc Tryz.prog 191 [(0,3),(3,1)]:=⟨⟨_,Tryz.underlying191,fun _=>by kernel_rfl⟩⟩
instance ent110:Ent Tryz.prog 110:=⟨fun _ _=>by kernel_rfl⟩
instance ent150:Ent Tryz.prog 150:=⟨fun _ _=>by kernel_rfl⟩
theorem An7 {s:Sl By} {T:TypeId} (hs:s.list.length=17):Does Tryz.prog 150 [s.val] (s.hp T++[]) (Is (.tuple #[.agg (vwC (Asl s.list)).toArray,.bool true]) (s.hp T++[])):=by
 have hsm:s.list.length≤70000000000000:=by omega
 refine Ah (n:=24) Tryz.func150 Tryz.ntmps150 rfl (Ay9 rfl)<|Ad<|Aa fun ops=> ?_
 refine Aw rfl fun b2=> ?_
 refine oA rfl<|Ac<|n_K<|Ad<|Aa fun ops=>oM rfl ?_
 refine Bd rfl (Fe (s:=s) (T:=T) hsm) sP rfl fun v6 Y6 h6=> ?_
 obtain ⟨r,rfl,rfl,hr1,hr2⟩:=h6
 refine Ay aQ ?_
 refine oA rfl<|Ac<|n_K<|Ad<|Aa fun ops=>oM rfl ?_
 refine Bd rfl (Ff (r:=r) (n:=8) (by rw [hr1];exact hsm)) sP rfl fun v8 Y8 h8=> ?_
 obtain ⟨x1,sl1,bad1,rfl,rfl,hx1,hl1,hb1⟩:=h8
 rw [hr1,show Bl 8 8=8 from rfl] at hx1 hl1 hb1
 unfold C7 at hx1 hl1 hb1
 rw [A26 (by omega)] at hx1 hl1 hb1
 simp only at hx1 hl1 hb1
 refine Ay aQ ?_
 refine oM rfl ?_
 refine Bd rfl (Ff (r:=⟨r.b,sl1,bad1⟩) (n:=1) (by simp only;rw [hl1,A03];omega)) sP rfl fun v10 Y10 h10=> ?_
 obtain ⟨x2,sl2,bad2,rfl,rfl,hx2,hl2,hb2⟩:=h10
 simp only at hx2 hl2 hb2
 rw [hl1,show Bl 1 8=1 from rfl] at hx2 hl2 hb2
 unfold C7 at hx2 hl2 hb2
 rw [A26 (by rw [A03];omega)] at hx2 hl2 hb2
 simp only [A1y] at hx2 hl2 hb2
 have hv1:=Aga (s.list.drop 8)
 rw [← hx2] at hv1
 refine Ay aQ ?_
 refine oR (show Rd _ _ _ _ (.int .i64 (x2.toNat:Int)) from G8 (Cx (by omega)) rfl) ?_
 refine oM rfl ?_
 refine Bd rfl (Ff (r:=⟨r.b,sl2,bad2⟩) (n:=8) (by simp only;rw [hl2,A03];omega)) sP rfl fun v13 Y13 h13=> ?_
 obtain ⟨x3,sl3,bad3,rfl,rfl,hx3,hl3,hb3⟩:=h13
 simp only at hx3 hl3 hb3
 rw [hl2,show Bl 8 8=8 from rfl] at hx3 hl3 hb3
 unfold C7 at hx3 hl3 hb3
 rw [A26 (by rw [A03];omega)] at hx3 hl3 hb3
 simp only [A1y] at hx3 hl3 hb3
 have hb:bad3=false:=(by rw [hb3,hb2,hb1,hr2])
 have hl0:sl3.list.length=0:=(by rw [hl3,A03];omega)
 refine Ay aQ ?_
 refine oR (Bc rfl rfl) ?_
 refine Af rfl rfl uD rfl rfl rfl ?_
 refine Ac<|n_K<|Ad ?_
 refine He [(4,19)] [1] [[(0,false),(2,true),(3,false),(4,false),(5,false),(6,true),(7,false),(8,false),(9,true)],[(10,false)]] (by kernel_rfl) rfl rfl fun ops w0 H0 y=> ?_
 unfold Tg
 refine xM rfl<|Am<|A4 ?_
 refine xR (Au rfl mM rfl) ?_
 refine Be ?_
 refine A6 rfl (Afz (r:=⟨r.b,sl3,bad3⟩)) sP rfl aQ ?_
 refine Ac ⟨rfl,⟨_,sP⟩,?_⟩
 refine xR (Bx rfl)<|xM rfl ?_
 refine' Hx (j:=4) (k:=3) y rfl rfl rfl rfl rfl rfl rfl (fun hg19=> ?_) ?_
 rotate_left
 ·try (simp at hg19;show _)
  refine x_g y rfl rfl ?_
  refine xM rfl ?_
  refine x_g y rfl rfl ?_
  refine Be ?_
  refine A6 rfl (Se (r:=⟨r.b,sl3,bad3⟩)) sP rfl aQ ?_
  refine Ac ⟨rfl,⟨_,sP⟩,?_⟩
  refine x_g y rfl rfl ?_
  refine xR (Ae rfl rfl rfl) ?_
  exact Am ⟨rfl,⟨_,sP⟩⟩
 refine Be ?_
 refine Af rfl rfl uD rfl rfl rfl ?_
 refine Ac ⟨rfl,⟨_,sP⟩,?_⟩
 refine Am<|A4<|xA rfl<|Am<|Bm<|n_K<|An ?_
 refine Aq (Bz Tryz.results150 (Bv rfl mM rfl) (Ag rfl)) ?_ sP
 unfold Asl;rw [← hx1,← hx2,← hx3,hb,hl0];rfl
structure Fd where
 en:En
 key:Int
def fdC (f:Fd):List Value:=[.int .i64 f.en.at'.1,.int .i64 f.en.at'.2,wv f.en.ep,.int .i64 f.key]
instance:Cel Fd:=⟨4,fdC,fun _=>rfl,fun _=>rfl⟩
abbrev tFd:TypeId:=191
def fd0:Fd:=⟨Awb,0⟩
def tkS (S:Sto) (x:Pl2):Rc→Sto
 | .nd _ e _=>{ S with seen:=I3 S.seen e }
 | .cm c=>if decide ((c.ep.toNat:Int)≥(S.last.ep.toNat:Int))=true then { S with last:=c,la:=x } else S
 | .vw v=>if (!S.viewed || decide ((v.num.toNat:Int)≥(S.vw.num.toNat:Int)))=true then { S with vw:=vwM v,va:=x,viewed:=true } else S
def tkF (x:Pl2):Rc→Option Fd
 | .nd k e _=>some ⟨⟨x,e⟩,k⟩
 | _=>none
def fdO:Option Fd→Fd
 | some f=>f
 | none=>fd0
section
variable {S:Sto} {x:Pl2} {s:Sl By}
theorem Ar9 {k:Int} {e:Wd} {b:List By} (h:Bt k b=true) (hs:s.list=Ez k e b):Does Tryz.prog 110 [ptr S.st,.agg #[.int .i64 x.1,.int .i64 x.2],bv 10,s.val] ((S.st,true,C (stC S) tSt)::(s.hp tU8++[]))
  (Is (.tuple #[.agg (fdC ⟨⟨x,e⟩,k⟩).toArray,.bool true]) ((S.st,true,C (stC { S with seen:=I3 S.seen e }) tSt)::(s.hp tU8++[]))):=by
 obtain ⟨hn1,hn2,hn3,hn4,hn5⟩:=J2 (e:=e) h
 refine Ah (n:=107) Tryz.func110 Tryz.ntmps110 rfl (Ay9 rfl)<|Ad<|Aa fun ops=> ?_
 refine De rfl rfl fun b5=> ?_
 refine Aw rfl fun b8=> ?_
 refine oA rfl<|Ac<|n_K<|Ad<|Ad<|Aa fun ops=>oM rfl<|Ac<|n_K<|Ak<|Ad<|Aa fun ops=>oR (Ae rfl rfl rfl)<|oA rfl ?_
 refine Ac<|n_K ?_
 refine F1 rfl ?_
 refine Ad<|Aa fun ops=>oM rfl ?_
 refine Bd rfl (Abu (s:=s) (T:=tU8)) sP rfl fun v21 Y21 h21=> ?_
 rw [hs] at h21
 obtain ⟨_,b21,rfl,rfl,hl21,ho21⟩:=h21.resolve_left (fun h9=>by rw [hn1] at h9;exact absurd h9.1 (by decide))
 rw [hn2,hn3]
 refine Ay aQ ?_
 refine oM rfl<|oE rfl rfl<|oE rfl rfl ?_
 refine Aw rfl fun b10=> ?_
 refine Af rfl rfl uD rfl rfl rfl ?_
 refine oA rfl<|Ac<|n_K<|Ad ?_
 refine s_draw [] [(10,[(0,false),(1,false),(2,false),(3,false),(4,false),(5,false),(6,false),(7,false),(8,false),(9,false)]),(11,[(10,true)])] (by kernel_rfl) rfl fun ops w0 H0 y=> ?_
 refine A4<|xM rfl<|xM rfl<|xN rfl<|xF rfl ?_
 refine xR (show Rd _ _ _ _ (wv S.seen) from Al rfl mM (Iv (S:=S) (o:=8) rfl)) ?_
 refine xF rfl ?_
 refine xR (Al rfl mM rfl) ?_
 refine xR (Ny rfl rfl)<|xN rfl<|xF rfl<|Am<|Bh<|Be ?_
 refine Af (cs':=stC { S with seen:=I3 S.seen e }) rfl rfl uD rfl rfl (Ds (S:=S) rfl rfl) ?_
 refine Ac ⟨rfl,⟨_,sP⟩,?_⟩
 refine Am<|Bm<|n_K<|Ad<|Aa fun ops=> ?_
 refine oR (Au rfl mM rfl) ?_
 refine oF rfl ?_
 refine oR (Al rfl mM rfl) ?_
 refine oR (Bc rfl rfl)<|oF rfl ?_
 refine oR (Al rfl mM rfl) ?_
 refine oR (Bc rfl rfl)<|oM rfl<|oR (Ae rfl rfl rfl) ?_
 refine Af rfl rfl uD rfl rfl rfl ?_
 refine oA rfl<|Ac<|n_K<|An<|Bn<|r_K ?_
 refine Aq (Bz Tryz.results110 (Bv rfl mM rfl) (Ag rfl)) ?_ sP
 rfl
theorem Asa {c:Cm} (hs:s.list=F5 c):Does Tryz.prog 110 [ptr S.st,.agg #[.int .i64 x.1,.int .i64 x.2],bv 11,s.val] ((S.st,true,C (stC S) tSt)::(s.hp tU8++[]))
  (Is (.tuple #[.agg (fdC fd0).toArray,.bool false]) ((S.st,true,C (stC (if decide ((c.ep.toNat:Int)≥(S.last.ep.toNat:Int))=true then { S with last:=c,la:=x } else S)) tSt)::(s.hp tU8++[]))):=by
 have hl44:s.list.length=44:=by rw [hs,Ja]
 refine Ah (n:=107) Tryz.func110 Tryz.ntmps110 rfl (Ay9 rfl)<|Ad<|Aa fun ops=> ?_
 refine De rfl rfl fun b5=> ?_
 refine Aw rfl fun b8=> ?_
 refine oA rfl<|Ac<|n_K<|Ad<|Ad<|Aa fun ops=>oM rfl<|Ac<|n_K<|Ak<|Ad<|Aa fun ops=>oR (Ae rfl rfl rfl)<|oA rfl ?_
 refine Ac<|n_K ?_
 refine Bi rfl ?_
 refine Ad<|Aa fun ops=>oR (Ae rfl rfl rfl)<|oA rfl<|Ac<|n_K ?_
 refine F1 rfl ?_
 refine Ad<|Aa fun ops=>oM rfl ?_
 refine Bd rfl (Am9 (s:=s) (T:=tU8)) sP rfl fun v47 Y47 h47=> ?_
 obtain ⟨_,rfl,rfl⟩:=h47.resolve_left (fun h9=>h9.1 hl44)
 rw [hs,Qw]
 refine Ay aQ ?_
 refine oM rfl<|oE rfl rfl<|oE rfl rfl ?_
 refine Aw rfl fun b12=> ?_
 rw [show ([Value.int .u64 0]++List.replicate 32 (Value.int .u8 0)++[Value.int .u32 0])=cmC cm0 from Aed]
 first | refine Af rfl rfl uD (Rk) (Cr) (Aee (by first | exact Cr | exact Azc ..)) ?_ | refine Af rfl rfl uD rfl rfl rfl ?_
 refine oA rfl<|Ac<|n_K<|Ad ?_
 refine s_draw [(2,52)] [(12,[(0,false),(1,false),(2,false),(3,false),(4,false),(5,false),(6,false),(7,false),(8,false),(9,false),(10,false),(11,false)])] (by kernel_rfl) rfl fun ops w0 H0 y=> ?_
 refine A4<|xM rfl<|xR (Ae rfl rfl rfl)<|xM rfl ?_
 refine' Hx (j:=2) (k:=8) y rfl rfl rfl rfl rfl rfl rfl (fun hg52=> ?_) ?_
 rotate_left
 ·try (simp at hg52;show _)
  refine x_g y rfl rfl ?_
  refine xF rfl ?_
  refine x_g y rfl rfl ?_
  refine xR (Al rfl mM rfl) ?_
  refine x_g y rfl rfl ?_
  refine xM rfl ?_
  refine x_g y rfl rfl ?_
  refine xN rfl ?_
  refine x_g y rfl rfl ?_
  refine xF rfl ?_
  refine x_g y rfl rfl ?_
  refine xF rfl ?_
  refine x_g y rfl rfl ?_
  refine xR (Al rfl mM rfl) ?_
  refine x_g y rfl rfl ?_
  refine xR (Ae rfl rfl rfl) ?_
  exact Am ⟨rfl,⟨_,sP⟩⟩
 refine Am<|Bm<|n_K ?_
 refine Aj rfl (fun c61=> ?_) (fun c61=> ?_)
 ·skip
  have h61:decide ((c.ep.toNat:Int)≥(S.last.ep.toNat:Int))=true:=c61
  refine He [] [0,1] [[(2,false),(3,false),(4,false),(5,false),(6,true)],[(7,false)],[(8,false)],[(9,true)]] (by kernel_rfl) rfl rfl fun ops w0 H0 y=> ?_
  unfold Tg
  refine xM rfl<|xM rfl<|Am ?_
  refine Aqn [(b12,true,C (cmC c) tCm),(b5,true,C [.int .i64 x.1,.int .i64 x.2] tPc)] sP ?_
  refine xR (Au rfl mM (by first | exact Nl | rfl)) ?_
  refine xR (Au rfl mM rfl) ?_
  refine xN rfl<|xF rfl<|Be ?_
  first | refine Af (cs':=stC { S with last:=c }) rfl rfl uD (Rk) (Cr) (Lz S c) ?_ | refine Af (cs':=stC { S with last:=c,la:=x }) rfl rfl uD rfl rfl (Ds (S:={ S with last:=c }) rfl rfl) ?_
  refine Ac ⟨rfl,⟨_,sP⟩,?_⟩
  refine Am<|A4<|xN rfl<|Am<|A4<|xF rfl<|Am<|Bh<|Be ?_
  first | refine Af (cs':=stC { S with last:=c }) rfl rfl uD (Rk) (Cr) (Lz S c) ?_ | refine Af (cs':=stC { S with last:=c,la:=x }) rfl rfl uD rfl rfl (Ds (S:={ S with last:=c }) rfl rfl) ?_
  refine Ac ⟨rfl,⟨_,sP⟩,?_⟩
  refine Am<|Bm<|Az<|n_K<|Ad<|Aa fun ops=>oR (Bc rfl rfl) ?_
  refine Af rfl rfl uD rfl rfl rfl ?_
  refine oA rfl<|Ac<|n_K<|An ?_
  refine Aq (Bz Tryz.results110 (Bv rfl mM rfl) (Ag rfl)) ?_ (by rw [A25 h61];exact sP)
  rfl
 ·skip
  have h61:decide ((c.ep.toNat:Int)≥(S.last.ep.toNat:Int))=false:=c61
  refine Ai<|Az<|n_K<|Ad<|Aa fun ops=>oR (Bc rfl rfl) ?_
  refine Af rfl rfl uD rfl rfl rfl ?_
  refine oA rfl<|Ac<|n_K<|An ?_
  refine Aq (Bz Tryz.results110 (Bv rfl mM rfl) (Ag rfl)) ?_ (by rw [A26 (by rw [h61];decide)];exact sP)
  rfl
theorem Asb {v:Vw} (hs:s.list=My v):Does Tryz.prog 110 [ptr S.st,.agg #[.int .i64 x.1,.int .i64 x.2],bv 12,s.val] ((S.st,true,C (stC S) tSt)::(s.hp tU8++[]))
  (Is (.tuple #[.agg (fdC fd0).toArray,.bool false]) ((S.st,true,C (stC (if (!S.viewed || decide ((v.num.toNat:Int)≥(S.vw.num.toNat:Int)))=true then { S with vw:=vwM v,va:=x,viewed:=true } else S)) tSt)::(s.hp tU8++[]))):=by
 have hl17:s.list.length=17:=by rw [hs,W6]
 refine Ah (n:=107) Tryz.func110 Tryz.ntmps110 rfl (Ay9 rfl)<|Ad<|Aa fun ops=> ?_
 refine De rfl rfl fun b5=> ?_
 refine Aw rfl fun b8=> ?_
 refine oA rfl<|Ac<|n_K<|Ad<|Ad<|Aa fun ops=>oM rfl<|Ac<|n_K<|Ak<|Ad<|Aa fun ops=>oR (Ae rfl rfl rfl)<|oA rfl ?_
 refine Ac<|n_K ?_
 refine Bi rfl ?_
 refine Ad<|Aa fun ops=>oR (Ae rfl rfl rfl)<|oA rfl<|Ac<|n_K ?_
 refine Bi rfl ?_
 refine Ad<|Aa fun ops=>oR (Ae rfl rfl rfl)<|oA rfl<|Ac<|n_K ?_
 refine F1 rfl ?_
 refine Ad<|Aa fun ops=>oM rfl ?_
 refine A6 rfl ((An7 (s:=s) (T:=tU8) hl17).to (by rw [hs,Zj]) rfl) sP rfl aQ ?_
 refine oM rfl<|oE rfl rfl<|oE rfl rfl ?_
 refine Aw rfl fun b14=> ?_
 refine Af rfl rfl uD rfl rfl rfl ?_
 refine oA rfl<|Ac<|n_K<|Ad ?_
 refine s_draw [(1,78),(7,84)] [(18,[(0,false),(1,false),(2,false),(3,false),(4,false),(5,false),(6,false),(7,false),(8,false),(9,false),(10,false),(11,false),(12,false),(13,false),(14,false),(15,false),(16,false),(17,false)])] (by kernel_rfl) rfl fun ops w0 H0 y=> ?_
 refine A4<|xM rfl<|xM rfl ?_
 refine' Hx (j:=1) (k:=15) y rfl rfl rfl rfl rfl rfl rfl (fun hg78=> ?_) ?_
 rotate_left
 ·try (simp at hg78;show _)
  refine x_g y rfl rfl ?_
  refine xM rfl ?_
  refine x_g y rfl rfl ?_
  refine xN rfl ?_
  refine x_g y rfl rfl ?_
  refine xF rfl ?_
  refine x_g y rfl rfl ?_
  refine xR (Al rfl mM (Iv rfl)) ?_
  refine x_g y rfl rfl ?_
  refine xR (Bx rfl) ?_
  refine x_g y rfl rfl ?_
  refine xM rfl ?_
  refine' Qa (j:=7) (k:=8) y rfl rfl rfl rfl rfl rfl rfl (fun hg84=> ?_) ?_
  rotate_left
  ·try (simp at hg84;show _)
   refine x_g y rfl rfl ?_
   refine xF rfl ?_
   refine x_g y rfl rfl ?_
   refine xR (show Rd _ _ _ _ (wv v.num) from Al rfl mM rfl) ?_
   refine x_g y rfl rfl ?_
   refine xM rfl ?_
   refine x_g y rfl rfl ?_
   refine xN rfl ?_
   refine x_g y rfl rfl ?_
   refine xF rfl ?_
   refine x_g y rfl rfl ?_
   refine xF rfl ?_
   refine x_g y rfl rfl ?_
   refine xR (show Rd _ _ _ _ (wv S.vw.num) from Al rfl mM (Iv (S:=S) (o:=2) rfl)) ?_
   refine x_g y rfl rfl ?_
   refine xR (Ae rfl rfl rfl) ?_
   exact Am ⟨rfl,⟨_,sP⟩⟩
  exact Am ⟨rfl,⟨_,sP⟩⟩
 refine Am<|Bm<|n_K ?_
 refine Aj rfl (fun c94=> ?_) (fun c94=> ?_)
 ·skip
  have h94:(!S.viewed || decide ((v.num.toNat:Int)≥(S.vw.num.toNat:Int)))=true:=c94
  refine He [] [0,1,2] [[(3,false),(4,false),(5,false),(6,false),(7,true)],[(8,false)],[(9,false)],[(10,true)],[(11,false)],[(12,false)],[(13,true)]] (by kernel_rfl) rfl rfl fun ops w0 H0 y=> ?_
  unfold Tg
  refine xM rfl<|xM rfl<|xM rfl<|Am ?_
  refine Aqn [(b14,true,C (vwC (vwM v)) tVw),(b5,true,C [.int .i64 x.1,.int .i64 x.2] tPc)] sP ?_
  refine xR (Au rfl mM rfl) ?_
  refine xR (Au rfl mM rfl) ?_
  refine xN rfl<|xF rfl<|Be ?_
  first | refine Af (cs':=stC { S with vw:=vwM v }) rfl rfl uD rfl rfl (Ds (S:=S) (o:=2) rfl rfl) ?_ | refine Af (cs':=stC { S with vw:=vwM v,va:=x }) rfl rfl uD rfl rfl (Ds (S:={ S with vw:=vwM v }) (o:=5) rfl rfl) ?_ | refine Af (cs':=stC { S with vw:=vwM v,va:=x,viewed:=true }) rfl rfl uD rfl rfl (Ds (S:={ S with vw:=vwM v,va:=x }) (o:=7) rfl rfl) ?_
  refine Ac ⟨rfl,⟨_,sP⟩,?_⟩
  refine Am<|A4<|xN rfl<|Am<|A4<|xF rfl<|Am<|Bh<|Be ?_
  first | refine Af (cs':=stC { S with vw:=vwM v }) rfl rfl uD rfl rfl (Ds (S:=S) (o:=2) rfl rfl) ?_ | refine Af (cs':=stC { S with vw:=vwM v,va:=x }) rfl rfl uD rfl rfl (Ds (S:={ S with vw:=vwM v }) (o:=5) rfl rfl) ?_ | refine Af (cs':=stC { S with vw:=vwM v,va:=x,viewed:=true }) rfl rfl uD rfl rfl (Ds (S:={ S with vw:=vwM v,va:=x }) (o:=7) rfl rfl) ?_
  refine Ac ⟨rfl,⟨_,sP⟩,?_⟩
  refine Am<|A4<|xN rfl<|Am<|A4<|xF rfl<|Am<|Bh<|Be ?_
  first | refine Af (cs':=stC { S with vw:=vwM v }) rfl rfl uD rfl rfl (Ds (S:=S) (o:=2) rfl rfl) ?_ | refine Af (cs':=stC { S with vw:=vwM v,va:=x }) rfl rfl uD rfl rfl (Ds (S:={ S with vw:=vwM v }) (o:=5) rfl rfl) ?_ | refine Af (cs':=stC { S with vw:=vwM v,va:=x,viewed:=true }) rfl rfl uD rfl rfl (Ds (S:={ S with vw:=vwM v,va:=x }) (o:=7) rfl rfl) ?_
  refine Ac ⟨rfl,⟨_,sP⟩,?_⟩
  refine Am<|Bm<|Az<|n_K<|Ad<|Aa fun ops=>oR (Bc rfl rfl) ?_
  refine Af rfl rfl uD rfl rfl rfl ?_
  refine oA rfl<|Ac<|n_K<|An ?_
  refine Aq (Bz Tryz.results110 (Bv rfl mM rfl) (Ag rfl)) ?_ (by rw [A25 h94];exact sP)
  rfl
 ·skip
  have h94:(!S.viewed || decide ((v.num.toNat:Int)≥(S.vw.num.toNat:Int)))=false:=c94
  refine Ai<|Az<|n_K<|Ad<|Aa fun ops=>oR (Bc rfl rfl) ?_
  refine Af rfl rfl uD rfl rfl rfl ?_
  refine oA rfl<|Ac<|n_K<|An ?_
  refine Aq (Bz Tryz.results110 (Bv rfl mM rfl) (Ag rfl)) ?_ (by rw [A26 (by rw [h94];decide)];exact sP)
  rfl
theorem Asc {r:Rc} (hr:r.ok) (hs:s.list=r.body):Does Tryz.prog 110 [ptr S.st,.agg #[.int .i64 x.1,.int .i64 x.2],bv r.kind,s.val] ((S.st,true,C (stC S) tSt)::(s.hp tU8++[]))
  (Is (.tuple #[.agg (fdC (fdO (tkF x r))).toArray,.bool (tkF x r).isSome]) ((S.st,true,C (stC (tkS S x r)) tSt)::(s.hp tU8++[]))):=by
 cases r with
 | nd k e b=>exact Ar9 hr hs
 | cm c=>exact Asa hs
 | vw v=>exact Asb hs
end
end
section
open Go.K
instance und189:Und Tryz.prog 189 (.slice 191):=⟨Tryz.underlying189⟩
instance fld191_0:Fld Tryz.prog 191 0 0:=⟨⟨_,_,2,Tryz.underlying191,rfl,by kernel_rfl,rfl⟩⟩
instance fld191_1:Fld Tryz.prog 191 1 3:=⟨⟨_,_,0,Tryz.underlying191,rfl,by kernel_rfl,rfl⟩⟩
instance byt191:Byt Tryz.prog 191 32:=⟨by kernel_rfl⟩
instance ent26:Ent Tryz.prog 26:=⟨fun _ _=>by kernel_rfl⟩
instance ent67:Ent Tryz.prog 67:=⟨fun _ _=>by kernel_rfl⟩
theorem Aux (S:Sto):nth (stC S) 37=some (uv S.last.sum):=by
 rw [Ee]
 show (ptr S.lg:: .map (some S.ib):: .map (some S.pb):: .map (some S.sb)::(cmC S.last++stT S))[33+4]? =_
 simp only [Ay2]
 rw [Ayo (by rw [Cr];omega),← Ee]
 exact Af9 _
def tks (rc:Pl2→Rc) (S:Sto) (xs:List Pl2):Sto:=xs.foldl (fun S x=>tkS S x (rc x)) S
def tkl (rc:Pl2→Rc) (xs:List Pl2):List Fd:=xs.filterMap fun x=>tkF x (rc x)
theorem Ab8 (rc:Pl2→Rc) (S:Sto) (xs:List Pl2) (x:Pl2):tks rc S (xs++[x])=tkS (tks rc S xs) x (rc x):=by unfold tks;rw [List.foldl_append];rfl
theorem An8 (rc:Pl2→Rc) (xs:List Pl2) (x:Pl2):tkl rc (xs++[x])=tkl rc xs++(tkF x (rc x)).toList:=by
 unfold tkl
 rw [List.filterMap_append]
 cases h:tkF x (rc x) <;> simp [h]
structure SameI (S S':Sto):Prop where
 st:S'.st=S.st
 lg:S'.lg=S.lg
 ib:S'.ib=S.ib
 pb:S'.pb=S.pb
 sb:S'.sb=S.sb
 idx:S'.idx=S.idx
 pend:S'.pend=S.pend
 stray:S'.stray=S.stray
 hurt:S'.hurt=S.hurt
theorem An9 (S:Sto) (x:Pl2) (c:Cm):tkS S x (.cm c)=if decide ((c.ep.toNat:Int)≥(S.last.ep.toNat:Int))=true then { S with last:=c,la:=x } else S:=rfl
theorem Aoa (S:Sto) (x:Pl2) (v:Vw):tkS S x (.vw v)=if (!S.viewed || decide ((v.num.toNat:Int)≥(S.vw.num.toNat:Int)))=true then { S with vw:=vwM v,va:=x,viewed:=true } else S:=rfl
theorem Ab9 (S:Sto) (x:Pl2) (r:Rc):SameI S (tkS S x r):=by
 cases r with
 | nd k e b=>exact ⟨rfl,rfl,rfl,rfl,rfl,rfl,rfl,rfl,rfl⟩
 | cm c =>
  rw [An9]
  by_cases h:decide ((c.ep.toNat:Int)≥(S.last.ep.toNat:Int))=true
  ·rw [A25 h];exact ⟨rfl,rfl,rfl,rfl,rfl,rfl,rfl,rfl,rfl⟩
  ·rw [A26 h];exact ⟨rfl,rfl,rfl,rfl,rfl,rfl,rfl,rfl,rfl⟩
 | vw v =>
  rw [Aoa]
  by_cases h:(!S.viewed || decide ((v.num.toNat:Int)≥(S.vw.num.toNat:Int)))=true
  ·rw [A25 h];exact ⟨rfl,rfl,rfl,rfl,rfl,rfl,rfl,rfl,rfl⟩
  ·rw [A26 h];exact ⟨rfl,rfl,rfl,rfl,rfl,rfl,rfl,rfl,rfl⟩
theorem SameI.trans {S S' S'':Sto} (h:SameI S S') (k:SameI S' S''):SameI S S'' :=
 ⟨k.st.trans h.st,k.lg.trans h.lg,k.ib.trans h.ib,k.pb.trans h.pb,k.sb.trans h.sb,k.idx.trans h.idx,k.pend.trans h.pend,k.stray.trans h.stray,k.hurt.trans h.hurt⟩
def opf (S:Sto) (m:Mp En×Mp Int) (f:Fd):Mp En×Mp Int :=
 if decide ((f.en.ep.toNat:Int)>(S.last.ep.toNat:Int))=true then (m.1,m.2.put f.key 1)
 else if (B4 S.last.lv f.key && (!(m.1.get f.key).isSome || decide ((f.en.ep.toNat:Int)≥((Qp m.1 f.key).ep.toNat:Int))))=true then (m.1.put f.key f.en,m.2) else m
def Um (S:Sto) (fs:List Fd):Mp En×Mp Int:=fs.foldl (opf S) (Mp.nil,Mp.nil)
def Aca (rc:Pl2→Rc) (S0:Sto) (xs:List Pl2):Sto :=
 { tks rc S0 xs with idx:=(Um (tks rc S0 xs) (tkl rc xs)).1,stray:=(Um (tks rc S0 xs) (tkl rc xs)).2,seen:=I3 (tks rc S0 xs).seen (tks rc S0 xs).last.ep,hurt:= !decide (((K5 (Um (tks rc S0 xs) (tkl rc xs)).1).toNat:Int)=((tks rc S0 xs).last.sum.toNat:Int)) || !decide (((Um (tks rc S0 xs) (tkl rc xs)).1.es.length:Int)=((C8 (tks rc S0 xs).last.lv 256).length:Int)) }
theorem Aob {S:Sto} {m:Mp En×Mp Int} {f:Fd} (h:∀ k,(m.1.get k).isSome=true→B4 S.last.lv k=true):∀ k,((opf S m f).1.get k).isSome=true→B4 S.last.lv k=true:=fun k hk=>by
 unfold opf at hk
 split at hk
 ·exact h k hk
 split at hk
 ·rename_i hc
  simp only [A0r] at hc
  simp only at hk
  rw [Mp.get_put] at hk
  split at hk
  ·rename_i e;rw [e];exact hc.1
  ·exact h k hk
 ·exact h k hk
theorem Aoc {l:Lv} {m:Mp En} (h:∀ k,(m.get k).isSome=true→B4 l k=true):m.es.length≤256:=by
 rw [← Mp.keys_len]
 have:m.keys.length≤(C8 l 256).length:=Fs m.keys_nodup fun k hk=>keysL_mem.2 (h k (Mp.get_some.2 hk))
 have:=Hb l 256
 omega
def Gl (ss:List Seg):List Pl2:=ss.flatMap fun g=>g.recs.list
theorem Nn {ss:List Seg} {i:Nat} {g:Seg} (h:ss[i]? =some g):Gl (ss.take (i+1))=Gl (ss.take i)++g.recs.list:=by
 unfold Gl
 rw [A0i,h,List.flatMap_append]
 simp
theorem Qq {z:Sg} {ss:List Seg} {n k:Nat} {q:Qt} {V:Nat→Blk} (hZ:LZ n z.L.nb k q z.L.d z.L.bs z.L.last V z.R) (hS:SegsOf z ss):∀ i,i≤ss.length→(Gl (ss.take i)).length≤6*i
 | 0,_=>A2r _
 | i+1,h=>by
  have ih:=Qq hZ hS i (by omega)
  have hg:ss[i]? =some ss[i]:=Ayw (by omega)
  obtain ⟨b,hb,_,_,_,_,hr⟩:=hS.mem (Azn hg)
  rw [Nn hg,Azz,hr]
  have:=hZ.rlen hb
  omega
theorem Ago (rc:Pl2→Rc) (xs:List Pl2):(tkl rc xs).length≤xs.length:=List.length_filterMap_le _ _
theorem Un (rc:Pl2→Rc):∀ (xs:List Pl2) (S:Sto),SameI S (tks rc S xs)
 | [],S=>⟨rfl,rfl,rfl,rfl,rfl,rfl,rfl,rfl,rfl⟩
 | x::xs,S=>(Ab9 S x (rc x)).trans (Un rc xs (tkS S x (rc x)))
section
variable {d:Dsk} {t2:TS} {n nb k:Nat} {q:Qt} {V:Nat→Blk} {sq:Nat→Wd} {R:Nat→List Pg} {rc:Pl2→Rc}
theorem Awg {S:Sto} {st ib pb sb:Nat} {p:Mp En} (h1:S.st=st) (h2:S.ib=ib) (h3:S.pb=pb) (h4:S.sb=sb) (h5:S.pend=p) (D:Hp) :
  (st,true,C (stC S) tSt)::(ib,true,S.idx.obj .i64)::(pb,true,p.obj .i64)::(sb,true,S.stray.obj .i64)::D=(S.st,true,C (stC S) tSt)::(S.ib,true,S.idx.obj .i64)::(S.pb,true,S.pend.obj .i64)::(S.sb,true,S.stray.obj .i64)::D:=by
 subst h1 h2 h3 h4 h5;rfl
theorem Asd {S:Sto} {a:Nat} {x:Pl2} {s:Sl By} {r:Rc} (ha:S.st=a) (hr:r.ok) (hs:s.list=r.body):Does Tryz.prog 110 [ptr a,.agg #[.int .i64 x.1,.int .i64 x.2],bv r.kind,s.val] ((a,true,C (stC S) tSt)::(s.hp tU8++[]))
  (Is (.tuple #[.agg (fdC (fdO (tkF x r))).toArray,.bool (tkF x r).isSome]) ((a,true,C (stC (tkS S x r)) tSt)::(s.hp tU8++[]))):=by
 subst ha
 exact Asc hr hs
theorem Aod (h:DD d n k V) (hnb:nb+6=n):Does Tryz.prog 109 [ptr d.dk] (dkH d)
  (fun v H=>∃ L:Lg,v= .tuple #[ptr L.lg,.int .i64 0]∧H=lgH L++[]∧L.nb=nb∧L.d=d∧L.bs=(D2 V nb).1∧L.last=(D2 V nb).2):=by
 refine (Z2 h hnb).mono fun v H ⟨lg,bb,h1,h2⟩=> ?_
 refine ⟨⟨lg,bb,nb,(D2 V nb).2,(D2 V nb).1,d⟩,h1,?_,rfl,rfl,rfl,rfl⟩
 rw [h2,Ey]
 simp
theorem Aoe (hb:2≤d.c.blocks.length∧d.c.blocks.length≤1000) (ho:Dj d.c=(0,t2)) (hv:DV d.c t2 n k V) (ha:Acc q d.c t2) (hn:nb+6=n) (hC:LogC nb k V sq R) (h12:nb≤Cb (D2 V nb).1 nb+12)
  (hrc:∀ (b j:Nat) (p:Pg),b<nb→(R b)[j]? =some p→(Eb p).2.2.2=0→(rc ((b:Int),((2+j:Nat):Int))).ok∧p=(rc ((b:Int),((2+j:Nat):Int))).pg) :
  Does Tryz.prog 67 [ptr d.c.aC] (dkH d)
  (fun v H=>∃ z:Sg,v= .tuple #[ptr z.S.st,.int .i64 0]∧H=(z.S.st,true,C (stC z.S) tSt)::(z.S.ib,true,z.S.idx.obj .i64)::(z.S.pb,true,z.S.pend.obj .i64)::(z.S.sb,true,z.S.stray.obj .i64)::(lgH z.L++[])∧WI n k q z∧z.R=R∧z.L.nb=nb∧z.L.d.c=d.c∧(∀ j<nb,(bAt z.L.bs j).seq=sq j) ∧
   ∃ (ss:List Seg) (st lg ib pb sb:Nat),SegsOf z ss∧z.S=Aca rc (Jg st lg ib pb sb) (Gl ss)):=by
 obtain ⟨hO,hOs⟩:=hC.opened
 have hn40:=hv.di.wf.n2
 refine Ah (n:=191) Tryz.func67 Tryz.ntmps67 rfl (Ay9 rfl)<|Ad<|Aa fun ops=>oA rfl<|oA rfl<|Ac<|n_K<|Ad<|Aa fun ops=>oM rfl ?_
 refine Bd rfl (Api (d:=d) hb ho) sP rfl fun v25 Y25 h25=> ?_
 obtain ⟨dk,tb,rfl,rfl,htb⟩:=h25
 refine Ay aQ ?_
 refine oM rfl<|oE rfl rfl<|oE rfl rfl<|oA rfl<|oA rfl<|Ac<|n_K<|Ad<|Ad<|Aa fun ops=>oM rfl<|oR (Ae rfl rfl rfl)<|Ac<|n_K ?_
 refine Bi rfl ?_
 refine Ai<|n_K<|Ad<|Aa fun ops=>oM rfl ?_
 refine Bd rfl (Aod (d:=⟨dk,tb,d.c⟩) (nb:=nb) (V:=V) (n:=n) (k:=k) (by show DV d.c tb.ts n k V;rw [htb];exact hv) hn) sP rfl fun v33 Y33 h33=> ?_
 obtain ⟨L,rfl,rfl,hLn,hLd,hLb,hLl⟩:=h33
 refine Ay aQ ?_
 refine oM rfl<|oE rfl rfl<|oE rfl rfl<|oA rfl<|oA rfl<|Ac<|n_K<|Ad<|Ad<|Aa fun ops=>oM rfl<|oR (Ae rfl rfl rfl)<|Ac<|n_K ?_
 refine Bi rfl ?_
 refine Ai<|n_K<|Ad<|Aa fun ops=>oM rfl ?_
 have hZ:LZ n L.nb k q L.d L.bs L.last V R:=(by rw [hLn,hLd,hLb,hLl];exact ⟨hn,by show DV d.c tb.ts n k V;rw [htb];exact hv,by show Acc q d.c tb.ts;rw [htb];exact ha,hO⟩)
 have h12':L.nb≤Cb L.bs L.nb+12:=(by rw [hLn,hLb];exact h12)
 refine Bd rfl (W9 (lg:=L.lg)) sP rfl fun v40 Y40 h40=> ?_
 obtain ⟨st,ib,pb,sb,rfl,rfl⟩:=h40
 refine Ay (Y:=(st,true,C (stC (Jg st L.lg ib pb sb)) tSt)::(ib,true,(Mp.nil:Mp En).obj .i64)::(pb,true,(Mp.nil:Mp En).obj .i64)::(sb,true,(Mp.nil:Mp Int).obj .i64)::[]) aQ ?_
 refine oA rfl<|Ac<|n_K<|Ad<|Aa fun ops=>oA rfl<|Ac<|n_K<|Ad<|Ad<|Aa fun ops=>oM rfl ?_
 refine Bd rfl (Agi hZ h12') sP rfl fun v42 Y42 h42=> ?_
 obtain ⟨s,l0,rfl,rfl,hp0,hso,hpm,hst,hro,hln⟩:=h42
 refine Ay aQ ?_
 refine oR (A7 rfl)<|oM rfl<|Ac<|n_K<|Ak ?_
 have hSO:SegsOf ⟨Jg st L.lg ib pb sb,L,R⟩ s.list:=⟨hpm,hst⟩
 have hsn:s.list.length≤40:=(by omega)
 refine Im (Gu (α:=Fd) (T:=tFd)) ?_
 refine A8 [6,7,42,43] kQ (fun (s1:Nat×Sto×Sl Fd)=>[(44,.int .i64 s1.1),(8,s1.2.2.val)]) (fun (s1:Nat×Sto×Sl Fd)=>(s1.2.2.hp tFd++((st,true,C (stC s1.2.1) tSt)::(ib,true,(Mp.nil:Mp En).obj .i64)::(pb,true,(Mp.nil:Mp En).obj .i64)::(sb,true,(Mp.nil:Mp Int).obj .i64)::(lgH L++(s.hp Hj++(I1 l0++[])))))) (fun (s1:Nat×Sto×Sl Fd)=>s1.1≤s.list.length∧s1.2.1=tks rc (Jg st L.lg ib pb sb) (Gl (s.list.take s1.1))∧s1.2.1.st=st∧s1.2.2.list=tkl rc (Gl (s.list.take s1.1))∧s1.2.2.isOwn=true) (fun (s1:Nat×Sto×Sl Fd)=>s.list.length - s1.1) ((0,Jg st L.lg ib pb sb,Sl.nil)) ⟨A2r _,rfl,rfl,rfl,rfl⟩ kP sP ?_
 rintro ⟨i,S,fds⟩ ⟨g0,g1,g2,g3,g4⟩
 simp only at g0 g1 g2 g3 g4
 have hfn:fds.list.length≤6*i:=(by rw [g3];exact A2f (Ago _ _) (Qq (z:=⟨Jg st L.lg ib pb sb,L,R⟩) hZ hSO i g0))
 refine Ad<|Aa fun ops=>oR (Ae rfl rfl rfl)<|Ac<|n_K<|Ad ?_
 refine Aj rfl (fun c45=> ?_) (fun c45=> ?_)
 ·simp only [A0d,Ayz] at c45
  obtain ⟨g,hg⟩:∃ g,s.list[i]? =some g:=⟨_,Ayw (by omega)⟩
  have hgl:g∈l0:=hp0.mem_iff.2 (Azn hg)
  obtain ⟨bN,hbN,_,_,_,_,hrl⟩:=hSO.mem (Azn hg)
  have hr6:g.recs.list.length≤6:=(by rw [hrl];exact hZ.rlen hbN)
  refine Ai<|n_K<|Ad<|Ak<|Ad<|Aa fun ops=> ?_
  refine oR (Bk (s:=s) rfl rfl (by omega)) ?_
  refine oR (Do (s:=s) (o:=0) rfl pL hg rfl rfl) ?_
  refine Aw rfl fun b10=> ?_
  refine Af rfl rfl uD rfl rfl rfl ?_
  refine Ac<|n_K<|Ad<|Aa fun ops=>oF rfl ?_
  refine oR (Al rfl mM rfl) ?_
  refine oR (A7 rfl)<|oM rfl<|Ac<|n_K<|Ak ?_
  refine A8 [6,7,42,43,44,49,50] kQ (fun (s1:Nat×Sto×Sl Fd)=>[(51,.int .i64 s1.1),(8,s1.2.2.val)]) (fun (s1:Nat×Sto×Sl Fd)=>(s1.2.2.hp tFd++((st,true,C (stC s1.2.1) tSt)::(ib,true,(Mp.nil:Mp En).obj .i64)::(pb,true,(Mp.nil:Mp En).obj .i64)::(sb,true,(Mp.nil:Mp Int).obj .i64)::(lgH L++(s.hp Hj++(I1 l0++[])))))) (fun (s1:Nat×Sto×Sl Fd)=>s1.1≤g.recs.list.length∧s1.2.1=tks rc (Jg st L.lg ib pb sb) (Gl (s.list.take i)++g.recs.list.take s1.1)∧s1.2.1.st=st∧s1.2.2.list=tkl rc (Gl (s.list.take i)++g.recs.list.take s1.1)∧s1.2.2.isOwn=true) (fun (s1:Nat×Sto×Sl Fd)=>g.recs.list.length - s1.1) ((0,S,fds)) ⟨A2r _,by simp only [List.take_zero,A1j];exact g1,g2,by simp only [List.take_zero,A1j];exact g3,g4⟩ kP sP ?_
  rintro ⟨j,S,fd⟩ ⟨k0,k1,k2,k3,k4⟩
  simp only at k0 k1 k2 k3 k4
  have hfd:fd.list.length≤300:=(by rw [k3];refine A2f (Ago _ _) ?_;rw [Azz,A0v];have:=Qq (z:=⟨Jg st L.lg ib pb sb,L,R⟩) hZ hSO i g0;omega)
  refine Ad<|Aa fun ops=>oR (Ae rfl rfl rfl)<|Ac<|n_K<|Ad ?_
  refine Aj rfl (fun c52=> ?_) (fun c52=> ?_)
  ·simp only [A0d,Ayz] at c52
   obtain ⟨x,hgx⟩:∃ x,g.recs.list[j]? =some x:=⟨_,Ayw (by omega)⟩
   obtain ⟨jN,p,hpj,hgp,hx⟩:=recZ_mem.1 (by have:=Azn hgx;rw [hrl] at this;exact this)
   obtain ⟨hrok,hpe⟩:=hrc bN jN p (by rw [← hLn];exact hbN) hpj hgp
   rw [← hx] at hrok hpe
   have htk:g.recs.list.take (j+1)=g.recs.list.take j++[x]:=(by rw [A0i,hgx];rfl)
   have hS1:tkS S x (rc x)=tks rc (Jg st L.lg ib pb sb) (Gl (s.list.take i)++g.recs.list.take (j+1)):=(by rw [htk,← A0j,Ab8,← k1])
   have hst1:(tkS S x (rc x)).st=st:=(Ab9 S x (rc x)).st.trans k2
   have hk1:tkl rc (Gl (s.list.take i)++g.recs.list.take (j+1))=fd.list++(tkF x (rc x)).toList:=(by rw [htk,← A0j,An8,← k3])
   refine Ai<|n_K<|Ad<|Ak<|Ad<|Aa fun ops=> ?_
   refine oR (Bk (s:=g.recs) rfl rfl (by omega)) ?_
   refine oR (V6 (s:=g.recs) (o:=0) rfl (Agj hgl pL) hgx rfl rfl) ?_
   refine Aw rfl fun b12=> ?_
   refine Af rfl rfl uD rfl rfl rfl ?_
   refine Ac<|n_K<|Ad<|Aa fun ops=>oM rfl ?_
   refine oR (Au rfl mM rfl) ?_
   have hget:=Y2 (kind:=(rc x).kind) (bd:=(rc x).body) hZ hbN (by rw [hpj,hpe];exact A20 some (Rc.pg_eq _)) (Rc.hi _) (Rc.wr hrok)
   rw [show (Value.agg #[.int .i64 (bN:Nat),.int .i64 ((2+jN:Nat):Int)])= .agg #[.int .i64 x.1,.int .i64 x.2] from by rw [hx]] at hget
   refine Bd rfl hget sP rfl fun v58 Y58 h58=> ?_
   obtain ⟨s58,rfl,rfl,hs58,ho58⟩:=h58
   refine Ay aQ ?_
   refine oM rfl<|oE rfl rfl<|oE rfl rfl<|oE rfl rfl<|oE rfl rfl<|oA rfl<|oA rfl<|oA rfl<|oA rfl<|Ac<|n_K<|Ad<|Ad ?_
   refine Bf [(2,65)] rfl fun ops y=> ?_
   refine oM rfl<|oR (Ae rfl rfl rfl)<|oM rfl ?_
   refine' Es (j:=2) (k:=2) y rfl rfl rfl rfl rfl rfl rfl (fun hg65=> ?_) ?_
   rotate_left
   ·try (simp at hg65;show _)
    refine o_g y rfl rfl ?_
    refine oM rfl ?_
    refine o_g y rfl rfl ?_
    refine oR (Ae rfl rfl rfl) ?_
    exact Ac ⟨rfl,rfl,⟨_,sP⟩⟩
   refine Ac<|n_K ?_
   refine Bi rfl ?_
   refine Ai<|n_K<|Ad<|Aa fun ops=>oM rfl ?_
   refine oR (Au rfl mM rfl) ?_
   refine oM rfl<|oM rfl ?_
   refine A6 rfl (Asd (S:=S) (a:=st) (x:=x) (r:=rc x) k2 hrok hs58) sP rfl aQ ?_
   refine oM rfl<|oE rfl rfl<|oE rfl rfl ?_
   refine Aw rfl fun b17=> ?_
   refine Af rfl rfl uD rfl rfl rfl ?_
   refine oA rfl<|Ac<|n_K<|Ad<|Aa fun ops=>oM rfl<|Ac<|n_K ?_
   refine Aj rfl (fun c78=> ?_) (fun c78=> ?_)
   ·skip
    have hF:fd.list++[fdO (tkF x (rc x))]=tkl rc (Gl (s.list.take i)++g.recs.list.take (j+1)):=(by rw [hk1];revert c78;cases tkF x (rc x) <;> simp [fdO])
    refine Aa fun ops=>oM rfl ?_
    refine oR (Au rfl mM rfl) ?_
    refine A5 rfl rfl rfl rfl fun b81=> ?_
    refine Bp (s:=fd) (new:=[fdO (tkF x (rc x))]) (m:=1) rfl rfl pL k4 (Cv (r:=true) mM rfl) rfl rfl rfl rfl (by omega) rfl fun s' hs1 hs2=> ?_
    refine oA rfl<|Ac<|Az<|n_K<|Aa fun ops=> ?_
    refine oR (Ao rfl rfl (by omega)) ?_
    refine oM rfl<|Ac<|n_K ?_
    first | exact ⟨(j+1,tkS S x (rc x),s'),⟨by simp only;omega,hS1,hst1,hs1.trans hF,hs2⟩,by simp only;omega,lZ⟩ | exact ⟨(j+1,tkS S x (rc x),fd),⟨by simp only;omega,hS1,hst1,hN,k4⟩,by simp only;omega,lZ⟩
   ·skip
    have hN:fd.list=tkl rc (Gl (s.list.take i)++g.recs.list.take (j+1)):=(by rw [hk1];revert c78;cases tkF x (rc x) <;> simp)
    refine Ai<|Az<|n_K<|Aa fun ops=> ?_
    refine oR (Ao rfl rfl (by omega)) ?_
    refine oM rfl<|Ac<|n_K ?_
    first | exact ⟨(j+1,tkS S x (rc x),s'),⟨by simp only;omega,hS1,hst1,hs1.trans hF,hs2⟩,by simp only;omega,lZ⟩ | exact ⟨(j+1,tkS S x (rc x),fd),⟨by simp only;omega,hS1,hst1,hN,k4⟩,by simp only;omega,lZ⟩
  ·simp only [A0d,Ayz] at c52
   have hj:j=g.recs.list.length:=(by omega)
   subst hj
   rw [A0w] at k1 k3
   refine Bb<|x_K<|x_K<|Bj<|Az<|n_K<|Aa fun ops=> ?_
   refine oR (Ao rfl rfl (by omega)) ?_
   refine oM rfl<|Ac<|n_K ?_
   exact ⟨(i+1,S,fd),⟨by simp only;omega,by rw [Nn hg];exact k1,k2,by rw [Nn hg];exact k3,k4⟩,(by omega),lZ⟩
 ·simp only [A0d,Ayz] at c45
  have hi:i=s.list.length:=(by omega)
  subst hi
  rw [A0w] at g1 g3
  have hsm:=Un rc (Gl s.list) (Jg st L.lg ib pb sb)
  rw [← g1] at hsm
  have hib:S.ib=ib:=hsm.ib
  have hsb:S.sb=sb:=hsm.sb
  have hpb:S.pb=pb:=hsm.pb
  refine Bb<|x_K<|x_K<|Bj<|n_K<|Ad<|Ad<|Aa fun ops=>oM rfl<|oR (A7 rfl)<|oM rfl<|Ac<|n_K<|Ak ?_
  have hfl:fds.list.length≤240:=(by omega)
  refine A8 [7,85,86] kQ (fun (s1:Nat×Mp En×Mp Int)=>[(87,.int .i64 s1.1)]) (fun (s1:Nat×Mp En×Mp Int)=>(fds.hp tFd++((st,true,C (stC S) tSt)::(ib,true,s1.2.1.obj .i64)::(pb,true,(Mp.nil:Mp En).obj .i64)::(sb,true,s1.2.2.obj .i64)::(lgH L++[])))) (fun (s1:Nat×Mp En×Mp Int)=>s1.1≤fds.list.length∧s1.2=(fds.list.take s1.1).foldl (opf S) (Mp.nil,Mp.nil)∧∀ k,(s1.2.1.get k).isSome=true→B4 S.last.lv k=true) (fun (s1:Nat×Mp En×Mp Int)=>fds.list.length - s1.1) ((0,Mp.nil,Mp.nil)) ⟨A2r _,rfl,fun k hk=>nomatch hk⟩ kP sP ?_
  rintro ⟨i,mi,ms⟩ ⟨l0',l1,l2⟩
  simp only at l0' l1 l2
  refine Ad<|Aa fun ops=>oR (Ae rfl rfl rfl)<|Ac<|n_K<|Ad ?_
  refine Aj rfl (fun c88=> ?_) (fun c88=> ?_)
  ·simp only [A0d,Ayz] at c88
   obtain ⟨f,hf⟩:∃ f,fds.list[i]? =some f:=⟨_,Ayw (by omega)⟩
   have hst3:(fds.list.take (i+1)).foldl (opf S) (Mp.nil,Mp.nil)=opf S (mi,ms) f:=(by rw [Hm hf,← l1])
   have hlv:=Aob (S:=S) (m:=(mi,ms)) (f:=f) l2
   refine Ai<|n_K<|Ad<|Ak<|Ad<|Aa fun ops=> ?_
   refine oR (Bk (s:=fds) rfl rfl (by omega)) ?_
   refine oR (Do (s:=fds) (o:=0) rfl pL hf rfl rfl) ?_
   refine Aw rfl fun b20=> ?_
   refine Af rfl rfl uD rfl rfl rfl ?_
   refine Ac<|n_K<|Ad ?_
   refine He [] [0,1,2,4] [[(3,false),(5,false),(6,false),(7,false),(8,false),(9,false),(10,true),(11,true)],[(12,false)]] (by kernel_rfl) rfl rfl fun ops w0 H0 y=> ?_
   unfold Tg
   refine xM rfl<|xN rfl<|xF rfl<|xF rfl<|Am<|A4 ?_
   refine xR (show Rd _ _ _ _ (.map (some ib)) from by rw [← hib];exact Al rfl mM rfl) ?_
   refine xR (Al rfl mM rfl) ?_
   refine xR (Ab7 rfl rfl mM) ?_
   refine xM rfl<|xE rfl rfl<|xE rfl rfl<|Be ?_
   refine Aw rfl fun b21=> ?_
   refine Ac ⟨rfl,⟨_,sP⟩,?_⟩
   refine Be ?_
   refine Af rfl rfl uD rfl rfl rfl ?_
   refine Ac ⟨rfl,⟨_,sP⟩,?_⟩
   refine Am<|A4<|xA rfl<|Am<|Bm<|n_K<|Ak<|Ad ?_
   refine s_draw [] [(10,[(0,false),(1,false),(2,false),(3,false),(4,false),(5,false),(6,false),(7,false),(8,false),(9,false)])] (by kernel_rfl) rfl fun ops w0 H0 y=> ?_
   refine A4<|xF rfl<|xF rfl ?_
   refine xR (show Rd _ _ _ _ (wv f.en.ep) from Al rfl mM rfl) ?_
   refine xM rfl<|xN rfl<|xF rfl<|xF rfl ?_
   refine xR (Al rfl mM rfl) ?_
   refine xR (Ae rfl rfl rfl)<|xA rfl<|Am<|Bm<|n_K ?_
   refine Aj rfl (fun c101=> ?_) (fun c101=> ?_)
   ·skip
    have hO1:(mi,ms.put f.key 1)=(fds.list.take (i+1)).foldl (opf S) (Mp.nil,Mp.nil):=(by rw [hst3];unfold opf;rw [A25 c101])
    refine s_draw [] [(6,[(0,false),(1,false),(2,false),(3,false),(4,false),(5,false)]),(7,[(6,true)])] (by kernel_rfl) rfl fun ops w0 H0 y=> ?_
    refine A4<|xM rfl<|xN rfl<|xF rfl ?_
    refine xR (show Rd _ _ _ _ (.map (some sb)) from by rw [← hsb];exact Al rfl mM rfl) ?_
    refine xF rfl ?_
    refine xR (Al rfl mM rfl) ?_
    refine Am<|Bh<|Be ?_
    refine V4 (m:=ms) (v:=(1:Int)) (kd:= .i64) rfl rfl rfl uD ?_
    refine Ac ⟨rfl,⟨_,sP⟩,?_⟩
    refine Am<|Bm<|Az<|Az<|n_K<|Aa fun ops=> ?_
    refine oR (Ao rfl rfl (by omega)) ?_
    refine oM rfl<|Ac<|n_K ?_
    first | exact ⟨(i+1,mi,ms.put f.key 1),⟨by simp only;omega,hO1,by rw [← hst3,← hO1] at hlv;exact hlv⟩,by simp only;omega,lZ⟩ | exact ⟨(i+1,mi.put f.key f.en,ms),⟨by simp only;omega,hO2,by rw [← hst3,← hO2] at hlv;exact hlv⟩,by simp only;omega,lZ⟩ | exact ⟨(i+1,mi,ms),⟨by simp only;omega,hO3,l2⟩,by simp only;omega,lZ⟩
   ·skip
    refine Ad ?_
    refine s_draw [(8,126),(11,129)] [(7,[(0,false),(1,false),(2,false),(3,false),(4,false),(5,false),(6,false)]),(8,[(7,true)]),(21,[(8,false),(9,false),(10,false),(11,false),(12,false),(13,false),(14,false),(15,false),(16,false),(17,false),(18,false),(19,false),(20,false)])] (by kernel_rfl) rfl fun ops w0 H0 y=> ?_
    refine A4<|xM rfl<|xN rfl<|xF rfl<|xF rfl ?_
    refine xR (Au rfl mM (Agb S)) ?_
    refine xF rfl ?_
    refine xR (Al rfl mM rfl) ?_
    refine Am<|Bh<|Be ?_
    refine A6 rfl (Ue) sP rfl aQ ?_
    refine Ac ⟨rfl,⟨_,sP⟩,?_⟩
    refine Am<|A4<|xM rfl ?_
    refine' Hx (j:=8) (k:=10) y rfl rfl rfl rfl rfl rfl rfl (fun hg126=> ?_) ?_
    rotate_left
    ·try (simp at hg126;show _)
     refine x_g y rfl rfl ?_
     refine xM rfl ?_
     refine x_g y rfl rfl ?_
     refine xR (Bx rfl) ?_
     refine x_g y rfl rfl ?_
     refine xM rfl ?_
     refine' Qa (j:=11) (k:=6) y rfl rfl rfl rfl rfl rfl rfl (fun hg129=> ?_) ?_
     rotate_left
     ·try (simp at hg129;show _)
      refine x_g y rfl rfl ?_
      refine xF rfl ?_
      refine x_g y rfl rfl ?_
      refine xF rfl ?_
      refine x_g y rfl rfl ?_
      refine xR (show Rd _ _ _ _ (wv f.en.ep) from Al rfl mM rfl) ?_
      refine x_g y rfl rfl ?_
      refine xF rfl ?_
      refine x_g y rfl rfl ?_
      refine xR (show Rd _ _ _ _ (wv (Qp mi f.key).ep) from Al rfl mM rfl) ?_
      refine x_g y rfl rfl ?_
      refine xR (Ae rfl rfl rfl) ?_
      exact Am ⟨rfl,⟨_,sP⟩⟩
     exact Am ⟨rfl,⟨_,sP⟩⟩
    refine xA rfl<|Am<|Bm<|n_K ?_
    refine Aj rfl (fun c117=> ?_) (fun c117=> ?_)
    ·skip
     have hO2:(mi.put f.key f.en,ms)=(fds.list.take (i+1)).foldl (opf S) (Mp.nil,Mp.nil):=(by rw [hst3];unfold opf;rw [A26 (by rw [c101];decide),A25 c117])
     refine s_draw [] [(8,[(0,false),(1,false),(2,false),(3,false),(4,false),(5,false),(6,false),(7,false)]),(9,[(8,true)])] (by kernel_rfl) rfl fun ops w0 H0 y=> ?_
     refine A4<|xM rfl<|xN rfl<|xF rfl ?_
     refine xR (show Rd _ _ _ _ (.map (some ib)) from by rw [← hib];exact Al rfl mM rfl) ?_
     refine xF rfl ?_
     refine xR (Al rfl mM rfl) ?_
     refine xF rfl ?_
     refine xR (show Rd _ _ _ _ (.agg (Aix f.en).toArray) from Au rfl mM rfl) ?_
     refine Am<|Bh<|Be ?_
     refine V4 (m:=mi) (v:=f.en) (kd:= .i64) rfl rfl rfl uD ?_
     refine Ac ⟨rfl,⟨_,sP⟩,?_⟩
     refine Am<|Bm<|Az<|Az<|n_K<|Aa fun ops=> ?_
     refine oR (Ao rfl rfl (by omega)) ?_
     refine oM rfl<|Ac<|n_K ?_
     first | exact ⟨(i+1,mi,ms.put f.key 1),⟨by simp only;omega,hO1,by rw [← hst3,← hO1] at hlv;exact hlv⟩,by simp only;omega,lZ⟩ | exact ⟨(i+1,mi.put f.key f.en,ms),⟨by simp only;omega,hO2,by rw [← hst3,← hO2] at hlv;exact hlv⟩,by simp only;omega,lZ⟩ | exact ⟨(i+1,mi,ms),⟨by simp only;omega,hO3,l2⟩,by simp only;omega,lZ⟩
    ·skip
     have hO3:(mi,ms)=(fds.list.take (i+1)).foldl (opf S) (Mp.nil,Mp.nil):=(by rw [hst3];unfold opf;rw [A26 (by rw [c101];decide),A26 (by rw [c117];decide)])
     refine Ai<|Az<|Az<|n_K<|Aa fun ops=> ?_
     refine oR (Ao rfl rfl (by omega)) ?_
     refine oM rfl<|Ac<|n_K ?_
     first | exact ⟨(i+1,mi,ms.put f.key 1),⟨by simp only;omega,hO1,by rw [← hst3,← hO1] at hlv;exact hlv⟩,by simp only;omega,lZ⟩ | exact ⟨(i+1,mi.put f.key f.en,ms),⟨by simp only;omega,hO2,by rw [← hst3,← hO2] at hlv;exact hlv⟩,by simp only;omega,lZ⟩ | exact ⟨(i+1,mi,ms),⟨by simp only;omega,hO3,l2⟩,by simp only;omega,lZ⟩
  ·simp only [A0d,Ayz] at c88
   have hi:i=fds.list.length:=(by omega)
   subst hi
   rw [A0w,g3] at l1
   have hlf:=Aoc l2
   refine Bb<|x_K<|x_K<|Bj<|n_K<|Ad ?_
   refine s_draw [] [(13,[(0,false),(1,false),(2,false),(3,false),(4,false),(5,false),(6,false),(7,false),(8,false),(9,false),(10,false),(11,false),(12,false)]),(14,[(13,true)])] (by kernel_rfl) rfl fun ops w0 H0 y=> ?_
   refine A4<|xM rfl<|xM rfl<|xN rfl<|xF rfl ?_
   refine xR (show Rd _ _ _ _ (wv S.seen) from Al rfl mM (Iv (S:=S) (o:=8) rfl)) ?_
   refine xM rfl<|xN rfl<|xF rfl<|xF rfl ?_
   refine xR (show Rd _ _ _ _ (wv S.last.ep) from Al rfl mM rfl) ?_
   refine xR (Ny rfl rfl)<|xN rfl<|xF rfl<|Am<|Bh<|Be ?_
   refine Af (cs':=stC { S with seen:=I3 S.seen S.last.ep }) rfl rfl uD rfl rfl (Ds (S:=S) (o:=8) rfl rfl) ?_
   refine Ac ⟨rfl,⟨_,sP⟩,?_⟩
   refine Am<|Bm<|n_K<|Ad ?_
   refine s_draw [(13,173)] [(28,[(0,false),(1,false),(2,false),(3,false),(4,false),(5,false),(7,false),(8,false),(9,false),(10,false),(11,false),(6,true),(12,false),(13,false),(14,false),(15,false),(16,false),(17,false),(18,false),(19,false),(20,false),(21,false),(22,false),(23,false),(24,true),(25,false),(26,false),(27,false)]),(30,[(28,false),(29,false)]),(31,[(30,true)])] (by kernel_rfl) rfl fun ops w0 H0 y=> ?_
   refine A4<|xM rfl<|xM rfl<|xM rfl<|xN rfl<|xF rfl ?_
   refine xR (show Rd _ _ _ _ (.map (some ib)) from by rw [← hib];exact Al rfl mM rfl) ?_
   refine xM rfl<|xN rfl<|xF rfl<|xF rfl ?_
   refine xR (show Rd _ _ _ _ (uv S.last.sum) from Al rfl mM (Aux { S with seen:=I3 S.seen S.last.ep })) ?_
   refine Be ?_
   refine Bd rfl (Agn (S:=st) (b:=ib) (m:=mi) (by omega)) sP rfl fun v166 Y166 h166=> ?_
   obtain ⟨rfl,rfl⟩:=h166
   refine Ay aQ ?_
   refine Ac ⟨rfl,⟨_,sP⟩,?_⟩
   refine xR (Ae rfl rfl rfl)<|xM rfl ?_
   refine' Qa (j:=13) (k:=13) y rfl rfl rfl rfl rfl rfl rfl (fun hg173=> ?_) ?_
   rotate_left
   ·try (simp at hg173;show _)
    refine x_g y rfl rfl ?_
    refine xM rfl ?_
    refine x_g y rfl rfl ?_
    refine xN rfl ?_
    refine x_g y rfl rfl ?_
    refine xF rfl ?_
    refine x_g y rfl rfl ?_
    refine xR (show Rd _ _ _ _ (.map (some ib)) from by rw [← hib];exact Al rfl mM rfl) ?_
    refine x_g y rfl rfl ?_
    refine xR (Ald rfl mM) ?_
    refine x_g y rfl rfl ?_
    refine xM rfl ?_
    refine x_g y rfl rfl ?_
    refine xN rfl ?_
    refine x_g y rfl rfl ?_
    refine xF rfl ?_
    refine x_g y rfl rfl ?_
    refine xF rfl ?_
    refine x_g y rfl rfl ?_
    refine xR (Au rfl mM (Agb { S with seen:=I3 S.seen S.last.ep })) ?_
    refine x_g y rfl rfl ?_
    refine Be ?_
    refine Bd rfl (Af8 (l:=S.last.lv)) sP rfl fun v184 Y184 h184=> ?_
    obtain ⟨s184,rfl,rfl,hs184,ho184⟩:=h184
    refine Ay aQ ?_
    refine Ac ⟨rfl,⟨_,sP⟩,?_⟩
    refine x_g y rfl rfl ?_
    refine xR (show Rd _ _ _ _ (.int .i64 ((C8 S.last.lv 256).length:Nat)) from by rw [← hs184];exact A7 rfl) ?_
    refine x_g y rfl rfl ?_
    refine xR (Ae rfl rfl rfl) ?_
    exact Am ⟨rfl,⟨_,sP⟩⟩
   refine Am<|A4<|xN rfl<|xF rfl<|Am<|Bh<|Be ?_
   refine Af (cs':=stC { S with seen:=I3 S.seen S.last.ep,hurt:= !decide (((K5 mi).toNat:Int)=(S.last.sum.toNat:Int)) || !decide ((mi.es.length:Int)=((C8 S.last.lv 256).length:Int)) }) rfl rfl uD rfl rfl (Ds (S:={ S with seen:=I3 S.seen S.last.ep }) (o:=9) rfl rfl) ?_
   refine Ac ⟨rfl,⟨_,sP⟩,?_⟩
   refine Am<|Bm<|n_K<|Ad<|Aa fun ops=>oM rfl<|oA rfl<|oA rfl<|Ac<|n_K<|An ?_
   exact Av (Bz Tryz.results67 (Ag rfl) (Ag rfl)) (by exact ⟨⟨{ S with idx:=mi,stray:=ms,seen:=I3 S.seen S.last.ep,hurt:= !decide (((K5 mi).toNat:Int)=(S.last.sum.toNat:Int)) || !decide ((mi.es.length:Int)=((C8 S.last.lv 256).length:Int)) },L,R⟩,by show _=Value.tuple #[ptr S.st,.int .i64 0];rw [g2],Awg (S:={ S with idx:=mi,stray:=ms,seen:=I3 S.seen S.last.ep,hurt:= !decide (((K5 mi).toNat:Int)=(S.last.sum.toNat:Int)) || !decide ((mi.es.length:Int)=((C8 S.last.lv 256).length:Int)) }) g2 hib hpb hsb hsm.pend (lgH L++[]),⟨hsm.lg,V,hZ⟩,rfl,hLn,by show L.d.c=d.c;rw [hLd],fun j hj=>by show (bAt L.bs j).seq=sq j;rw [hLb];exact hOs j hj,s.list,st,L.lg,ib,pb,sb,⟨hpm,hst⟩,by unfold Aca Um;rw [← g1,← l1]⟩) sP
theorem Aep (hb:2≤d.c.blocks.length∧d.c.blocks.length≤1000) (ho:Dj d.c=(0,t2)) (hv:DV d.c t2 n k V) (ha:Acc q d.c t2) (hn:nb+6=n) (hC:LogC nb k V sq R) (h12:nb≤Cb (D2 V nb).1 nb+12)
  (hrc:∀ (b j:Nat) (p:Pg),b<nb→(R b)[j]? =some p→(Eb p).2.2.2=0→(rc ((b:Int),((2+j:Nat):Int))).ok∧p=(rc ((b:Int),((2+j:Nat):Int))).pg) :
  Does Tryz.prog 26 [ptr d.c.aC] (dkH d)
  (fun v H=>∃ z:Sg,v=ptr z.S.st∧H=(z.S.st,true,C (stC z.S) tSt)::(z.S.ib,true,z.S.idx.obj .i64)::(z.S.pb,true,z.S.pend.obj .i64)::(z.S.sb,true,z.S.stray.obj .i64)::(lgH z.L++[])∧WI n k q z∧z.R=R∧z.L.nb=nb∧z.L.d.c=d.c∧(∀ j<nb,(bAt z.L.bs j).seq=sq j) ∧
   ∃ (ss:List Seg) (st lg ib pb sb:Nat),SegsOf z ss∧z.S=Aca rc (Jg st lg ib pb sb) (Gl ss)):=by
 refine Ah (n:=11) Tryz.func26 Tryz.ntmps26 rfl (Ay9 rfl)<|Ad<|Aa fun ops=>oA rfl<|Ac<|n_K<|Ad<|Aa fun ops=>oM rfl ?_
 refine Bd rfl (Aoe (d:=d) (rc:=rc) hb ho hv ha hn hC h12 hrc) sP rfl fun v7 Y7 h7=> ?_
 obtain ⟨z,rfl,rfl,hz⟩:=h7
 refine Ay aQ ?_
 refine oM rfl<|oE rfl rfl<|oE rfl rfl<|oA rfl<|oA rfl<|Ac<|n_K<|Ad<|Aa fun ops=>oM rfl<|oA rfl<|Ac<|n_K<|An ?_
 exact Av (At Tryz.results26 (Ag rfl)) (by exact ⟨z,rfl,rfl,hz⟩) sP
end
end
section
open Go.K
structure Tl (A:Ab) (z:Sg):Prop where
  la:0<A.last.ep.toNat→∃ x,RecAt z x (Rc.cm A.last).pg
  va:A.viewed=true→∃ x v,vwM v=A.vw∧RecAt z x (Rc.vw v).pg∧∀ x' v',RecAt z x' (Rc.vw v').pg→v'.num=A.vw.num→vwM v'=A.vw∨bef z x' x
  ix:∀ k e b,A.ix k=some (e,b)→Bt k b=true∧∃ x,RecAt z x (Rc.nd k e b).pg
  kd:∀ x p,RecAt z x p→(Eb p).2.2.2=0→∃ r:Rc,r.ok∧p=r.pg
  nd:∀ x k e b,Bt k b=true→RecAt z x (Rc.nd k e b).pg→e.toNat≤A.last.ep.toNat→B4 A.last.lv k=true→∃ e' b',A.ix k=some (e',b')∧e.toNat≤e'.toNat∧(e=e'→b=b')
  cm:∀ x c,RecAt z x (Rc.cm c).pg→0<c.ep.toNat∧c.ep.toNat≤A.last.ep.toNat∧(c.ep=A.last.ep→c=A.last)
  vs:∀ x v,RecAt z x (Rc.vw v).pg→A.viewed=true∧v.num.toNat≤A.vw.num.toNat
structure Sd (A:Ab) (nb:Nat):Prop where
  live:∀ k,(A.ix k).isSome=B4 A.last.lv k
  ep:∀ k e b,A.ix k=some (e,b)→e.toNat≤A.last.ep.toNat
  l0:A.last.ep.toNat=0→A.last=cm0
  sum:0<A.last.ep.toNat→A.last.sum=Ux A.last.lv A.ix
  lim:((C8 A.last.lv 256).length:Int)≤Hy nb
  nb4:4≤nb∧nb≤40
  vwm:A.viewed=true→vwM A.vw=A.vw
  v0:A.viewed=false→A.vw=vw0
theorem Std.sd {A:Ab} {z:Sg} (h:Std A z):Sd A z.L.nb:=⟨h.live,h.ep,h.l0,h.sum,h.lim,h.nb4,h.vwm,h.v0⟩
theorem Rz.tl {A:Ab} {P:NdM} {Q:Int→Wd→List By→Prop} {z:Sg} (h:Rz A P Q z) (hQ:∀ k e b,Q k e b→A.last.ep.toNat<e.toNat):Tl A z :=
  ⟨fun h0=>⟨_,h.la h0⟩,fun h0=>by
    obtain ⟨v,h1,h2⟩:=h.va h0
    exact ⟨_,v,h1,h2,fun x' v' h3=>(h.vs x' v' h3).2.2⟩,
   fun k e b hi=>by obtain ⟨en,_,_,h3,h4⟩:=h.ix.yes hi;exact ⟨h3,_,h4⟩,h.kd,
   fun x k e b h1 h2 h3 h4=>by
    rcases h.nd x k e b h1 h2 with h5 | h5
    · exact h5.2.2 h4 h3
    · have:=hQ k e b h5;omega,
   h.cm,fun x v hx=>⟨(h.vs x v hx).1,(h.vs x v hx).2.1⟩⟩
theorem Tl.of {A:Ab} {z z':Sg} (h:Tl A z) (h1:z'.L.nb=z.L.nb) (h2:z'.R=z.R) (h3:∀ j<z.L.nb,(bAt z'.L.bs j).seq=(bAt z.L.bs j).seq):Tl A z':=by
  have e:∀ {x p},RecAt z' x p↔RecAt z x p:=fun {x p}=>by unfold RecAt;rw [h1,h2]
  have es:∀ {x p},RecAt z x p→sqz z' x=sqz z x:=fun ⟨b,j,hx,hb,_⟩=>by unfold sqz;rw [hx];simp only [A0c];rw [h3 b hb]
  have eb:∀ {x p x' p'},RecAt z x p→RecAt z x' p'→(bef z' x x'↔bef z x x'):=fun h h'=>by unfold bef;rw [es h,es h']
  refine ⟨fun h0=>by obtain ⟨x,hx⟩:=h.la h0;exact ⟨x,e.2 hx⟩,fun h0=> ?_,fun k e' b hi=>by obtain ⟨a,x,hx⟩:=h.ix k e' b hi;exact ⟨a,x,e.2 hx⟩,fun x p hx=>h.kd x p (e.1 hx),fun x k e' b h4 hx=>h.nd x k e' b h4 (e.1 hx),fun x c hx=>h.cm x c (e.1 hx),fun x v hx=>h.vs x v (e.1 hx)⟩
  obtain ⟨x,v,a,hx,hv⟩:=h.va h0
  exact ⟨x,v,a,e.2 hx,fun x' v' hx' hn=>(hv x' v' (e.1 hx') hn).imp id fun hb=>(eb (e.1 hx') hx).2 hb⟩
theorem Asm {z:Sg} {x:Pl2}:¬ bef z x x:=fun h=>by unfold bef at h;omega
theorem Ao3 {z:Sg} {x y:Pl2} (h:bef z x y) (h':bef z y x):False:=by
  unfold bef at h h'
  rcases h with h | ⟨h1,h2⟩
  · rcases h' with h' | ⟨h1,h2⟩
    · omega
    · unfold sqz at h;rw [h1] at h;omega
  · rcases h' with h' | ⟨h3,h4⟩
    · unfold sqz at h';rw [h1] at h';omega
    · omega
structure FlatR (z:Sg) (rc:Pl2→Rc) (xs:List Pl2):Prop where
  ord:xs.Pairwise (bef z)
  rcd:∀ x∈xs,(rc x).ok∧RecAt z x (rc x).pg
  all:∀ x (r:Rc),r.ok→RecAt z x r.pg→x∈xs
theorem Ack (z:Sg) (b:Int):∀ (r:List Pg) (i:Nat),(Fw b i r).Pairwise (bef z)
  | [],i=>List.Pairwise.nil
  | p::r,i=>by
    unfold Fw
    refine Azs.2 ⟨by split <;> simp,Ack z b r (i+1),fun x hx y hy=> ?_⟩
    have h1:=(Zi b r (i+1)).2 y hy
    have h2:=Ho y hy
    split at hx
    · rw [Azy.1 hx]
      exact .inr ⟨by rw [h2],by simp only;omega⟩
    · cases hx
theorem Asn {n k:Nat} {q:Qt} {z:Sg} {ss:List Seg} {rc:Pl2→Rc} (hw:WI n k q z) (hs:SegsOf z ss)
    (hrc:∀ (b j:Nat) (p:Pg),b<z.L.nb→(z.R b)[j]? =some p→(Eb p).2.2.2=0→(rc ((b:Int),((2+j:Nat):Int))).ok∧p=(rc ((b:Int),((2+j:Nat):Int))).pg):FlatR z rc (Gl ss):=by
  obtain ⟨_,V,hZ⟩:=hw
  refine ⟨?_,fun x hx=> ?_,fun x r hr hx=> ?_⟩
  · unfold Gl
    refine List.pairwise_flatMap.2 ⟨fun g hg=> ?_,?_⟩
    · obtain ⟨b,_,_,_,_,_,h⟩:=hs.mem hg
      rw [h];exact Ack z b _ 2
    · refine Ayu.2 fun i j hi hj hij x hx y hy=> .inl ?_
      obtain ⟨b,hb,hbs,hb1,hb2,_,hb3⟩:=hs.mem (A0s hi)
      obtain ⟨c,hc,hcs,hc1,hc2,_,hc3⟩:=hs.mem (A0s hj)
      rw [hb3] at hx
      rw [hc3] at hy
      have e1:=Ho x hx
      have e2:=Ho y hy
      unfold sqz
      rw [e1,e2,A0c,A0c]
      have hle:(bAt z.L.bs b).seq.toNat≤(bAt z.L.bs c).seq.toNat:=by
        have:=hs.2 i j (by omega) (by omega) (by omega)
        have ea:∀ m (hm:m<ss.length),E8 ss (m:Int)=ss[m]:=fun m hm=>by
          unfold E8
          simp only [A0c,Ayg,Ayw hm,A0t]
        rw [ea i hi,ea j hj] at this
        unfold key at this
        rw [hb2,hc2] at this
        exact this
      by_cases e:b=c
      · exfalso
        subst e
        have hnd:((ss.map U5).map fun v=>v.1).Nodup:=by
          refine (hs.1.map fun v:SV=>v.1).nodup_iff.2 ?_
          have key:∀ k,((L3 z.L.bs z.R k).map fun v:SV=>v.1).Nodup∧∀ a∈(L3 z.L.bs z.R k).map fun v:SV=>v.1,a<k:=fun k=>by
            induction k with
            | zero=>exact ⟨A1u,fun a ha=>by cases ha⟩
            | succ k ih =>
              unfold L3
              rw [A1i]
              split
              · simp only [A2d,A1j]
                exact ⟨ih.1,fun a ha=>by have:=ih.2 a ha;omega⟩
              · refine ⟨A0g.2 ⟨ih.1,by simp,fun a ha c hc e=> ?_⟩,fun a ha=> ?_⟩
                · simp only [A15,A2d,Azy] at hc
                  have:=ih.2 a ha
                  omega
                · rcases A1d.1 ha with h | h
                  · have:=ih.2 a h;omega
                  · simp only [A15,A2d,Azy] at h
                    omega
          exact (key z.L.nb).1
        rw [A2c] at hnd
        have h1:=Ayu.1 hnd i j (by simpa using hi) (by simpa using hj) hij
        apply h1
        simp only [List.getElem_map]
        show (ss[i]).b=(ss[j]).b
        rw [hb1,hc1]
      · have:=hZ.lv.dis b hb c hc e hbs
        omega
  · unfold Gl at hx
    obtain ⟨g,hg,hx⟩:=A0u.1 hx
    obtain ⟨b,hb,_,_,_,_,h3⟩:=hs.mem hg
    rw [h3] at hx
    obtain ⟨j,p,h4,h5,rfl⟩:=recZ_mem.1 hx
    obtain ⟨h6,h7⟩:=hrc b j p hb h4 h5
    exact ⟨h6,b,j,rfl,hb,by rw [← h7];exact h4⟩
  · obtain ⟨b,j,rfl,hb,hp⟩:=hx
    have hsq:(bAt z.L.bs b).seq.toNat≠0:=fun h0=>by
      rcases hZ.lv.blk b hb with ⟨_,h⟩ | u
      · rw [h] at hp;cases hp
      · exact u.cnt.seq h0
    obtain ⟨i,g,h1,_,_,h2⟩:=hs.has hb hsq
    unfold Gl
    exact A0u.2 ⟨g,Azn h1,by rw [h2];exact recZ_mem.2 ⟨j,_,hp,Rc.good hr,rfl⟩⟩
theorem Ajl {r:Rc} {c:Cm} (h:r.ok) (he:r.pg=(Rc.cm c).pg):r= .cm c:=by
  cases r with
  | nd k e b=>exact absurd he (F6 (r:= .nd k e b) (s:= .cm c) h trivial (by show (10:By)≠11;decide))
  | cm c'=>rw [Aow he]
  | vw v=>exact absurd he (F6 (r:= .vw v) (s:= .cm c) trivial trivial (by show (12:By)≠11;decide))
theorem Ajm {r:Rc} {v:Vw} (h:r.ok) (he:r.pg=(Rc.vw v).pg):∃ v',r= .vw v'∧vwM v'=vwM v:=by
  cases r with
  | nd k e b=>exact absurd he (F6 (r:= .nd k e b) (s:= .vw v) h trivial (by show (10:By)≠12;decide))
  | cm c=>exact absurd he (F6 (r:= .cm c) (s:= .vw v) trivial trivial (by show (11:By)≠12;decide))
  | vw v'=>exact ⟨v',rfl,Aoy he⟩
theorem Ajn {r:Rc} {k:Int} {e:Wd} {b:List By} (h:r.ok) (h2:Bt k b=true) (he:r.pg=(Rc.nd k e b).pg):r= .nd k e b:=by
  cases r with
  | nd k' e' b'=>obtain ⟨rfl,rfl,rfl⟩:=Aou h h2 he;rfl
  | cm c=>exact absurd he (F6 (r:= .cm c) (s:= .nd k e b) trivial h2 (by show (11:By)≠10;decide))
  | vw v=>exact absurd he (F6 (r:= .vw v) (s:= .nd k e b) trivial h2 (by show (12:By)≠10;decide))
end
section
open Go.K
theorem Acl {α:Type} {p:List α→Prop} (h0:p []) (h1:∀ xs x,p xs→p (xs++[x])) (xs:List α):p xs:=by
 have key:∀ ys:List α,p ys.reverse:=fun ys=>by
  induction ys with
  | nil=>exact h0
  | cons y ys ih=>rw [List.reverse_cons];exact h1 _ _ ih
 have:=key xs.reverse
 rwa [List.reverse_reverse] at this
structure TkI (z:Sg) (rc:Pl2→Rc) (xs:List Pl2) (S:Sto):Prop where
 cm:(S.last=cm0∧∀ x∈xs,∀ c,rc x≠.cm c)∨∃ x∈xs,rc x= .cm S.last∧S.la=x∧∀ x'∈xs,∀ c,rc x'= .cm c→c.ep.toNat≤S.last.ep.toNat
 vw:(S.viewed=false∧S.vw=vw0∧∀ x∈xs,∀ v,rc x≠.vw v)∨∃ x∈xs,∃ v,rc x= .vw v∧S.vw=vwM v∧S.va=x∧S.viewed=true∧∀ x'∈xs,∀ v',rc x'= .vw v'→v'.num.toNat≤v.num.toNat∧(v'.num=v.num→x'=x∨bef z x' x)
 lo:∀ x∈xs,∀ k e b,rc x= .nd k e b→e.toNat≤S.seen.toNat
 hi:∀ t:Nat,(∀ x∈xs,∀ k e b,rc x= .nd k e b→e.toNat≤t)→S.seen.toNat≤t
theorem Aso {z:Sg} {rc:Pl2→Rc} {st lg ib pb sb:Nat}:∀ xs:List Pl2,xs.Pairwise (bef z)→TkI z rc xs (tks rc (Jg st lg ib pb sb) xs):=by
 refine Acl (fun _=>⟨.inl ⟨rfl,fun x h=>(by cases h)⟩,.inl ⟨rfl,rfl,fun x h=>(by cases h)⟩,fun x h=>(by cases h),fun t _=>A2r t⟩) ?_
 intro xs x ih hp
 obtain ⟨hp1,_,hp2⟩:=Azs.1 hp
 have I:=ih hp1
 have hbf:∀ a∈xs,bef z a x:=fun a ha=>hp2 a ha x (Azy.2 rfl)
 rw [Ab8]
 generalize tks rc (Jg st lg ib pb sb) xs=S at I ⊢
 have hmem:∀ {y},y∈xs++[x]↔y∈xs∨y=x:=fun {y}=>by simp
 cases hr:rc x with
 | nd k e b =>
  show TkI z rc (xs++[x]) { S with seen:=I3 S.seen e }
  refine ⟨?_,?_,fun y hy k' e' b' he=> ?_,fun t ht=> ?_⟩
  ·rcases I.cm with ⟨h1,h2⟩ | ⟨x1,h1,h2,h3,h4⟩
   ·exact .inl ⟨h1,fun y hy c=>by rcases hmem.1 hy with h | rfl;exact h2 y h c;rw [hr];exact fun h=>by cases h⟩
   ·exact .inr ⟨x1,hmem.2 (.inl h1),h2,h3,fun y hy c hc=>by rcases hmem.1 hy with h | rfl;exact h4 y h c hc;rw [hr] at hc;cases hc⟩
  ·rcases I.vw with ⟨h1,h2,h3⟩ | ⟨x1,h1,v,h2,h3,h4,h5,h6⟩
   ·exact .inl ⟨h1,h2,fun y hy c=>by rcases hmem.1 hy with h | rfl;exact h3 y h c;rw [hr];exact fun h=>by cases h⟩
   ·exact .inr ⟨x1,hmem.2 (.inl h1),v,h2,h3,h4,h5,fun y hy c hc=>by rcases hmem.1 hy with h | rfl;exact h6 y h c hc;rw [hr] at hc;cases hc⟩
  ·show e'.toNat≤(I3 S.seen e).toNat
   rw [Iz]
   rcases hmem.1 hy with h | rfl
   ·have:=I.lo y h k' e' b' he;omega
   ·rw [hr] at he;cases he;omega
  ·show (I3 S.seen e).toNat≤t
   rw [Iz]
   have h1:=I.hi t fun y hy=>ht y (hmem.2 (.inl hy))
   have h2:=ht x (hmem.2 (.inr rfl)) k e b hr
   omega
 | cm c =>
  have hlo:∀ y∈xs++[x],∀ k e b,rc y= .nd k e b→y∈xs:=fun y hy k e b he=>by
   rcases hmem.1 hy with h | rfl
   ·exact h
   ·rw [hr] at he;cases he
  have hvw:∀ S':Sto,S'.vw=S.vw→S'.viewed=S.viewed→S'.va=S.va→(S'.viewed=false∧S'.vw=vw0∧∀ y∈xs++[x],∀ v,rc y≠.vw v)∨∃ x1∈xs++[x],∃ v,rc x1= .vw v∧S'.vw=vwM v∧S'.va=x1∧S'.viewed=true∧∀ x'∈xs++[x],∀ v',rc x'= .vw v'→v'.num.toNat≤v.num.toNat∧(v'.num=v.num→x'=x1∨bef z x' x1):=fun S' e1 e2 e3=>by
   rw [e1,e2,e3]
   rcases I.vw with ⟨h1,h2,h3⟩ | ⟨x1,h1,v,h2,h3,h4,h5,h6⟩
   ·exact .inl ⟨h1,h2,fun y hy c=>by rcases hmem.1 hy with h | rfl;exact h3 y h c;rw [hr];exact fun h=>by cases h⟩
   ·exact .inr ⟨x1,hmem.2 (.inl h1),v,h2,h3,h4,h5,fun y hy c hc=>by rcases hmem.1 hy with h | rfl;exact h6 y h c hc;rw [hr] at hc;cases hc⟩
  rw [An9]
  by_cases hc:decide ((c.ep.toNat:Int)≥(S.last.ep.toNat:Int))=true
  ·rw [A25 hc]
   simp only [A0d] at hc
   refine ⟨.inr ⟨x,hmem.2 (.inr rfl),hr,rfl,fun y hy c' hc'=> ?_⟩,hvw _ rfl rfl rfl,fun y hy k e b he=>I.lo y (hlo y hy k e b he) k e b he,fun t ht=>I.hi t fun y hy=>ht y (hmem.2 (.inl hy))⟩
   show c'.ep.toNat≤c.ep.toNat
   rcases hmem.1 hy with h | rfl
   ·rcases I.cm with ⟨_,h2⟩ | ⟨x1,h1,h2,h3,h4⟩
    ·exact absurd hc' (h2 y h c')
    ·have:=h4 y h c' hc';omega
   ·rw [hr] at hc';cases hc';exact A2q _
  ·rw [A26 hc]
   simp only [A0d] at hc
   refine ⟨.inr ?_,hvw _ rfl rfl rfl,fun y hy k e b he=>I.lo y (hlo y hy k e b he) k e b he,fun t ht=>I.hi t fun y hy=>ht y (hmem.2 (.inl hy))⟩
   rcases I.cm with ⟨h1,_⟩ | ⟨x1,h1,h2,h3,h4⟩
   ·rw [h1] at hc
    exact absurd (show (c.ep.toNat:Int)≥((0:Wd).toNat:Int) by show (c.ep.toNat:Int)≥(0:Int);omega) hc
   ·refine ⟨x1,hmem.2 (.inl h1),h2,h3,fun y hy c' hc'=> ?_⟩
    rcases hmem.1 hy with h | rfl
    ·exact h4 y h c' hc'
    ·rw [hr] at hc';cases hc';omega
 | vw v =>
  have hlo:∀ y∈xs++[x],∀ k e b,rc y= .nd k e b→y∈xs:=fun y hy k e b he=>by
   rcases hmem.1 hy with h | rfl
   ·exact h
   ·rw [hr] at he;cases he
  have hcm:∀ S':Sto,S'.last=S.last→S'.la=S.la→(S'.last=cm0∧∀ y∈xs++[x],∀ c,rc y≠.cm c)∨∃ x1∈xs++[x],rc x1= .cm S'.last∧S'.la=x1∧∀ x'∈xs++[x],∀ c,rc x'= .cm c→c.ep.toNat≤S'.last.ep.toNat:=fun S' e1 e2=>by
   rw [e1,e2]
   rcases I.cm with ⟨h1,h2⟩ | ⟨x1,h1,h2,h3,h4⟩
   ·exact .inl ⟨h1,fun y hy c=>by rcases hmem.1 hy with h | rfl;exact h2 y h c;rw [hr];exact fun h=>by cases h⟩
   ·exact .inr ⟨x1,hmem.2 (.inl h1),h2,h3,fun y hy c hc=>by rcases hmem.1 hy with h | rfl;exact h4 y h c hc;rw [hr] at hc;cases hc⟩
  rw [Aoa]
  by_cases hc:(!S.viewed || decide ((v.num.toNat:Int)≥(S.vw.num.toNat:Int)))=true
  ·rw [A25 hc]
   refine ⟨hcm _ rfl rfl,.inr ⟨x,hmem.2 (.inr rfl),v,hr,rfl,rfl,rfl,fun y hy v' hv'=> ?_⟩,fun y hy k e b he=>I.lo y (hlo y hy k e b he) k e b he,fun t ht=>I.hi t fun y hy=>ht y (hmem.2 (.inl hy))⟩
   rcases hmem.1 hy with h | rfl
   ·rcases I.vw with ⟨_,_,h3⟩ | ⟨x1,h1,w,h2,h3,h4,h5,h6⟩
    ·exact absurd hv' (h3 y h v')
    ·simp only [h5,A17,A18,A0d] at hc
     rw [h3] at hc
     have hc:(v.num.toNat:Int)≥(w.num.toNat:Int):=hc
     exact ⟨by have:=(h6 y h v' hv').1;omega,fun _=> .inr (hbf y h)⟩
   ·rw [hr] at hv';cases hv';exact ⟨A2q _,fun _=> .inl rfl⟩
  ·rw [A26 hc]
   refine ⟨hcm _ rfl rfl,.inr ?_,fun y hy k e b he=>I.lo y (hlo y hy k e b he) k e b he,fun t ht=>I.hi t fun y hy=>ht y (hmem.2 (.inl hy))⟩
   rcases I.vw with ⟨h1,_⟩ | ⟨x1,h1,w,h2,h3,h4,h5,h6⟩
   ·rw [h1] at hc;exact absurd rfl hc
   ·refine ⟨x1,hmem.2 (.inl h1),w,h2,h3,h4,h5,fun y hy v' hv'=> ?_⟩
    rcases hmem.1 hy with h | rfl
    ·exact h6 y h v' hv'
    ·rw [hr] at hv'
     cases hv'
     simp only [h5,A17,A18,A0d] at hc
     rw [h3] at hc
     have hc:¬ (v.num.toNat:Int)≥(w.num.toNat:Int):=hc
     exact ⟨by omega,fun e=>by rw [e] at hc;omega⟩
structure OpfI (l:Cm) (fs:List Fd) (m:Mp En×Mp Int):Prop where
 ix:∀ k en,m.1.get k=some en→B4 l.lv k=true∧⟨en,k⟩∈fs∧en.ep.toNat≤l.ep.toNat∧∀ f∈fs,f.key=k→f.en.ep.toNat≤l.ep.toNat→f.en.ep.toNat≤en.ep.toNat
 no:∀ k,m.1.get k=none→B4 l.lv k=true→∀ f∈fs,f.key=k→l.ep.toNat<f.en.ep.toNat
 st:∀ k,(m.2.get k).isSome=true↔∃ f∈fs,f.key=k∧l.ep.toNat<f.en.ep.toNat
theorem Ao4 {S:Sto}:∀ fs:List Fd,OpfI S.last fs (Um S fs):=by
 refine Acl ⟨fun k en h=>(by cases h),fun k _ _ f h=>(by cases h),fun k=>⟨fun h=>(by cases h),fun ⟨f,h,_⟩=>(by cases h)⟩⟩ ?_
 intro fs f I
 have hst:Um S (fs++[f])=opf S (Um S fs) f:=by unfold Um;rw [List.foldl_append];rfl
 rw [hst]
 generalize Um S fs=m at I ⊢
 have hmem:∀ {g},g∈fs++[f]↔g∈fs∨g=f:=fun {g}=>by simp
 unfold opf
 by_cases h1:decide ((f.en.ep.toNat:Int)>(S.last.ep.toNat:Int))=true
 ·rw [A25 h1]
  simp only [A0d] at h1
  refine ⟨fun k en hk=> ?_,fun k hk hl g hg hgk=> ?_,fun k=> ?_⟩
  ·obtain ⟨a,b,c,d⟩:=I.ix k en hk
   exact ⟨a,hmem.2 (.inl b),c,fun g hg hgk hge=>by rcases hmem.1 hg with h | rfl;exact d g h hgk hge;omega⟩
  ·rcases hmem.1 hg with h | rfl
   ·exact I.no k hk hl g h hgk
   ·omega
  ·simp only
   rw [Mp.get_put]
   by_cases e:k=f.key
   ·rw [A25 e]
    exact ⟨fun _=>⟨f,hmem.2 (.inr rfl),e.symm,by omega⟩,fun _=>rfl⟩
   ·rw [A26 e,I.st k]
    constructor
    ·rintro ⟨g,a,b⟩;exact ⟨g,hmem.2 (.inl a),b⟩
    ·rintro ⟨g,a,b,c⟩
     rcases hmem.1 a with h | rfl
     ·exact ⟨g,h,b,c⟩
     ·exact absurd b.symm e
 ·rw [A26 h1]
  simp only [A0d] at h1
  have hle:f.en.ep.toNat≤S.last.ep.toNat:=by omega
  have hst2:∀ k,(m.2.get k).isSome=true↔∃ g∈fs++[f],g.key=k∧S.last.ep.toNat<g.en.ep.toNat:=fun k=>by
   rw [I.st k]
   constructor
   ·rintro ⟨g,a,b⟩;exact ⟨g,hmem.2 (.inl a),b⟩
   ·rintro ⟨g,a,b,c⟩
    rcases hmem.1 a with h | rfl
    ·exact ⟨g,h,b,c⟩
    ·omega
  by_cases h2:(B4 S.last.lv f.key && (!(m.1.get f.key).isSome || decide ((f.en.ep.toNat:Int)≥((Qp m.1 f.key).ep.toNat:Int))))=true
  ·rw [A25 h2]
   simp only [A0r,A1b,A0e,A0d] at h2
   obtain ⟨hl,h3⟩:=h2
   refine ⟨fun k en hk=> ?_,fun k hk hl g hg hgk=> ?_,hst2⟩
   ·simp only at hk
    rw [Mp.get_put] at hk
    by_cases e:k=f.key
    ·rw [A25 e] at hk
     have:=A1h hk
     subst this
     subst e
     refine ⟨hl,hmem.2 (.inr rfl),hle,fun g hg hgk hge=> ?_⟩
     rcases hmem.1 hg with h | rfl
     ·cases hm:m.1.get f.key with
      | none=>have:=I.no _ hm hl g h hgk;omega
      | some en =>
       have h4:=(I.ix _ _ hm).2.2.2 g h hgk hge
       rcases h3 with h3 | h3
       ·rw [hm] at h3;cases h3
       ·have:Qp m.1 f.key=en:=by unfold Qp;rw [hm]
        rw [this] at h3
        omega
     ·exact A2q _
    ·rw [A26 e] at hk
     obtain ⟨a,b,c,d⟩:=I.ix k en hk
     exact ⟨a,hmem.2 (.inl b),c,fun g hg hgk hge=>by rcases hmem.1 hg with h | rfl;exact d g h hgk hge;exact absurd hgk.symm e⟩
   ·simp only at hk
    rw [Mp.get_put] at hk
    by_cases e:k=f.key
    ·rw [A25 e] at hk;cases hk
    ·rw [A26 e] at hk
     rcases hmem.1 hg with h | rfl
     ·exact I.no k hk hl g h hgk
     ·exact absurd hgk.symm e
  ·rw [A26 h2]
   refine ⟨fun k en hk=> ?_,fun k hk hl g hg hgk=> ?_,hst2⟩
   ·obtain ⟨a,b,c,d⟩:=I.ix k en hk
    refine ⟨a,hmem.2 (.inl b),c,fun g hg hgk hge=> ?_⟩
    rcases hmem.1 hg with h | rfl
    ·exact d g h hgk hge
    ·subst hgk
     have:Qp m.1 g.key=en:=by unfold Qp;rw [hk]
     rw [hk,a,this] at h2
     simp at h2
     omega
   ·rcases hmem.1 hg with h | rfl
    ·exact I.no k hk hl g h hgk
    ·subst hgk
     rw [hk,hl] at h2
     simp at h2
theorem tkl_mem {rc:Pl2→Rc} {xs:List Pl2} {f:Fd}:f∈tkl rc xs↔∃ b,f.en.at'∈xs∧rc f.en.at'= .nd f.key f.en.ep b:=by
 unfold tkl
 rw [List.mem_filterMap]
 constructor
 ·rintro ⟨x,h1,h2⟩
  cases hr:rc x with
  | nd k e b =>
   rw [hr] at h2
   have:=A1h h2
   subst this
   exact ⟨b,h1,hr⟩
  | cm c=>rw [hr] at h2;cases h2
  | vw v=>rw [hr] at h2;cases h2
 ·rintro ⟨b,h1,h2⟩
  exact ⟨_,h1,by rw [h2];rfl⟩
theorem Mj:C8 lv0 256=[]:=by decide +kernel
theorem Ajo (f:NdM):Ux lv0 f=0:=by unfold Ux;rw [Mj];rfl
section
variable {A:Ab} {z:Sg} {rc:Pl2→Rc} {xs:List Pl2} {st lg ib pb sb:Nat}
theorem FlatR.cm (h:FlatR z rc xs) {x:Pl2} {c:Cm} (hx:RecAt z x (Rc.cm c).pg):x∈xs∧rc x= .cm c:=by
 have h1:=h.all x (.cm c) trivial hx
 obtain ⟨h2,h3⟩:=h.rcd x h1
 exact ⟨h1,Ajl h2 (h3.fn hx)⟩
theorem FlatR.vw (h:FlatR z rc xs) {x:Pl2} {v:Vw} (hx:RecAt z x (Rc.vw v).pg):x∈xs∧∃ v',rc x= .vw v'∧vwM v'=vwM v:=by
 have h1:=h.all x (.vw v) trivial hx
 obtain ⟨h2,h3⟩:=h.rcd x h1
 exact ⟨h1,Ajm h2 (h3.fn hx)⟩
theorem FlatR.nd (h:FlatR z rc xs) {x:Pl2} {k:Int} {e:Wd} {b:List By} (hk:Bt k b=true) (hx:RecAt z x (Rc.nd k e b).pg):x∈xs∧rc x= .nd k e b:=by
 have h1:=h.all x (.nd k e b) hk hx
 obtain ⟨h2,h3⟩:=h.rcd x h1
 exact ⟨h1,Ajn h2 hk (h3.fn hx)⟩
theorem Tl.opened (hT:Tl A z) (hd:Sd A z.L.nb) (hF:FlatR z rc xs) (hS:z.S=Aca rc (Jg st lg ib pb sb) xs) (hfr:1≤fr z) :
  ∃ A',Std A' z∧A'.last=A.last∧A'.vw=A.vw∧A'.viewed=A.viewed∧A'.ix=A.ix ∧
   ∀ t:Nat,A.last.ep.toNat≤t→(∀ x k e b,Bt k b=true→RecAt z x (Rc.nd k e b).pg→e.toNat≤t)→A'.seen.toNat≤t:=by
 have I:=Aso (z:=z) (rc:=rc) (st:=st) (lg:=lg) (ib:=ib) (pb:=pb) (sb:=sb) xs hF.ord
 have J:=Ao4 (S:=tks rc (Jg st lg ib pb sb) xs) (tkl rc xs)
 have hsm:=Un rc xs (Jg st lg ib pb sb)
 unfold Aca at hS
 generalize tks rc (Jg st lg ib pb sb) xs=T at I J hsm hS
 generalize Um T (tkl rc xs)=m at J hS
 have e1:z.S.last=T.last:=by rw [hS]
 have e2:z.S.vw=T.vw:=by rw [hS]
 have e3:z.S.viewed=T.viewed:=by rw [hS]
 have e4:z.S.la=T.la:=by rw [hS]
 have e5:z.S.va=T.va:=by rw [hS]
 have e6:z.S.idx=m.1:=by rw [hS]
 have e7:z.S.stray=m.2:=by rw [hS]
 have e8:z.S.seen=I3 T.seen T.last.ep:=by rw [hS]
 have e9:z.S.pend=Mp.nil:=by rw [hS];exact hsm.pend
 have e10:z.S.hurt=(!decide (((K5 m.1).toNat:Int)=(T.last.sum.toNat:Int)) || !decide ((m.1.es.length:Int)=((C8 T.last.lv 256).length:Int))):=by rw [hS]
 have hcmR:∀ x∈xs,∀ c,rc x= .cm c→RecAt z x (Rc.cm c).pg:=fun x hx c hc=>by have:=(hF.rcd x hx).2;rwa [hc] at this
 have hvwR:∀ x∈xs,∀ v,rc x= .vw v→RecAt z x (Rc.vw v).pg:=fun x hx v hc=>by have:=(hF.rcd x hx).2;rwa [hc] at this
 have hlast:T.last=A.last∧(0<A.last.ep.toNat→RecAt z T.la (Rc.cm A.last).pg):=by
  rcases I.cm with ⟨h1,h2⟩ | ⟨x,h1,h2,h3,h4⟩
  ·have h0:¬ 0<A.last.ep.toNat:=fun h0=>by
    obtain ⟨x,hx⟩:=hT.la h0
    obtain ⟨h5,h6⟩:=hF.cm hx
    exact h2 x h5 _ h6
   exact ⟨by rw [h1,hd.l0 (by omega)],fun h=>absurd h h0⟩
  ·have hR:=hcmR x h1 _ h2
   obtain ⟨c1,c2,c3⟩:=hT.cm x _ hR
   obtain ⟨xA,hxA⟩:=hT.la (by omega)
   obtain ⟨h5,h6⟩:=hF.cm hxA
   have h7:=h4 xA h5 _ h6
   have h8:T.last.ep=A.last.ep:=Azg (by omega)
   have h9:=c3 h8
   exact ⟨h9,fun _=>by rw [h3,← h9];exact hR⟩
 obtain ⟨hl,hla⟩:=hlast
 have hview:T.viewed=A.viewed∧T.vw=A.vw∧(A.viewed=true→(∃ v,vwM v=A.vw∧RecAt z T.va (Rc.vw v).pg)∧∀ x' v',RecAt z x' (Rc.vw v').pg→v'.num=A.vw.num→vwM v'=A.vw∨bef z x' T.va):=by
  rcases I.vw with ⟨h1,h2,h3⟩ | ⟨x,h1,v,h2,h3,h4,h5,h6⟩
  ·have h0:A.viewed=false:=by
    cases hv:A.viewed with
    | false=>rfl
    | true =>
     obtain ⟨x,v,_,hx,_⟩:=hT.va hv
     obtain ⟨h5,v',h6,_⟩:=hF.vw hx
     exact absurd h6 (h3 x h5 v')
   exact ⟨by rw [h1,h0],by rw [h2,hd.v0 h0],fun h=>by rw [h0] at h;cases h⟩
  ·have hR:=hvwR x h1 _ h2
   obtain ⟨g1,g2⟩:=hT.vs x v hR
   obtain ⟨xA,vA,a1,a2,a3⟩:=hT.va g1
   obtain ⟨a4,v',a5,a6⟩:=hF.vw a2
   obtain ⟨a7,a8⟩:=h6 xA a4 v' a5
   have n1:v'.num=A.vw.num:=by
    have h9:(vwM v').num=A.vw.num:=by rw [a6,a1]
    exact h9
   have n2:v.num=A.vw.num:=Azg (by rw [n1] at a7;omega)
   have hv:vwM v=A.vw:=by
    rcases a3 x v hR n2 with h9 | h9
    ·exact h9
    ·rcases a8 (by rw [n1,n2]) with h10 | h10
     ·rw [h10] at h9;exact absurd h9 Asm
     ·exact (Ao3 h9 h10).elim
   refine ⟨by rw [h5,g1],by rw [h3,hv],fun _=>⟨⟨v,hv,by rw [h4];exact hR⟩,fun x' v2 hx' hn=> ?_⟩⟩
   obtain ⟨b1,v3,b2,b3⟩:=hF.vw hx'
   have n3:v3.num=v2.num:=by
    have h9:(vwM v3).num=(vwM v2).num:=by rw [b3]
    exact h9
   rcases (h6 x' b1 v3 b2).2 (by rw [n3,hn,n2]) with h9 | h9
   ·left
    subst h9
    rw [h2] at b2
    cases b2
    rw [← b3,hv]
   ·right;rw [h4];exact h9
 obtain ⟨hv1,hv2,hv3⟩:=hview
 rw [hl] at J
 have hndR:∀ x∈xs,∀ k e b,rc x= .nd k e b→Bt k b=true∧RecAt z x (Rc.nd k e b).pg:=fun x hx k e b hc=>by
  obtain ⟨h1,h2⟩:=hF.rcd x hx
  rw [hc] at h1 h2
  exact ⟨h1,h2⟩
 have hix:Stands z m.1 A.ix:=fun k=>by
  cases hi:A.ix k with
  | none =>
   show m.1.get k=none
   cases hm:m.1.get k with
   | none=>rfl
   | some en =>
    have h1:=(J.ix k en hm).1
    rw [← hd.live k,hi] at h1
    cases h1
  | some r =>
   obtain ⟨e,b⟩:=r
   obtain ⟨hok,x,hx⟩:=hT.ix k e b hi
   obtain ⟨x1,x2⟩:=hF.nd hok hx
   have hlv:B4 A.last.lv k=true:=by rw [← hd.live k,hi];rfl
   have hle:=hd.ep k e b hi
   have hf:(⟨⟨x,e⟩,k⟩:Fd)∈tkl rc xs:=tkl_mem.2 ⟨b,x1,x2⟩
   cases hm:m.1.get k with
   | none=>have:=J.no k hm hlv _ hf rfl;simp only at this;omega
   | some en =>
    obtain ⟨_,j1,j2,j3⟩:=J.ix k en hm
    obtain ⟨b',j4,j5⟩:=tkl_mem.1 j1
    obtain ⟨j6,j7⟩:=hndR _ j4 _ _ _ j5
    have j8:=j3 _ hf rfl hle
    obtain ⟨e2,b2,j9,j10,j11⟩:=hT.nd _ _ _ _ j6 j7 j2 hlv
    have j9:A.ix k=some (e2,b2):=j9
    have j10:en.ep.toNat≤e2.toNat:=j10
    rw [hi] at j9
    have j12:=A1h j9
    simp only [A13] at j12
    obtain ⟨rfl,rfl⟩:=j12
    simp only at j8
    have j13:en.ep=e:=Azg (by omega)
    have j14:=j11 j13
    subst j14
    exact ⟨en,rfl,j13,hok,by rw [← j13];exact j7⟩
 have hstray:∀ x k e b,Bt k b=true→RecAt z x (Rc.nd k e b).pg→A.last.ep.toNat<e.toNat→(m.2.get k).isSome=true:=fun x k e b h1 h2 h3=>by
  obtain ⟨h4,h5⟩:=hF.nd h1 h2
  exact (J.st k).2 ⟨⟨⟨x,e⟩,k⟩,tkl_mem.2 ⟨b,h4,h5⟩,rfl,h3⟩
 have hsum:K5 m.1=Ux A.last.lv A.ix:=Zl hix hd.live
 have hkeys:=Xf (l:=A.last.lv) fun k=>(hix.isSome k).trans (hd.live k)
 refine ⟨{ A with seen:=z.S.seen,stray:=fun k=>(z.S.stray.get k).isSome },⟨⟨e1.trans hl,e2.trans hv2,e3.trans hv1,by rw [e6];exact hix,fun k=>by show z.S.pend.get k=none;rw [e9];rfl,fun h0=>by rw [e4];exact hla h0,fun h0=>by rw [e5];exact (hv3 h0).1,hT.kd,fun x k e b h1 h2=> .inl ⟨?_,fun h3=> ?_,fun h3 h4=>hT.nd x k e b h1 h2 h4 h3⟩,hT.cm,fun x v hx=>⟨(hT.vs x v hx).1,(hT.vs x v hx).2,fun hn=> ?_⟩⟩,rfl,fun _=>rfl,fun k hk=> ?_,?_,hd.live,hd.ep,?_,hd.l0,hd.sum,hd.lim,hd.nb4,hfr,hd.vwm,hd.v0⟩,rfl,rfl,rfl,rfl,fun t h1 h2=> ?_⟩
 ·show e.toNat≤z.S.seen.toNat
  obtain ⟨h4,h5⟩:=hF.nd h1 h2
  have:=I.lo x h4 k e b h5
  rw [e8,Iz]
  omega
 ·have h3:(z.S.stray.get k).isSome=false:=h3
  rw [e7] at h3
  show e.toNat≤A.last.ep.toNat
  by_cases h4:A.last.ep.toNat<e.toNat
  ·rw [hstray x k e b h1 h2 h4] at h3;cases h3
  ·omega
 ·show vwM v=A.vw∨bef z x z.S.va
  rw [e5]
  exact (hv3 (hT.vs x v hx).1).2 x v hx hn
 ·have hk:(z.S.stray.get k).isSome=true:=hk
  rw [e7] at hk
  obtain ⟨f,h1,rfl,_⟩:=(J.st k).1 hk
  obtain ⟨b,h3,h4⟩:=tkl_mem.1 h1
  have:=(hndR _ h3 _ _ _ h4).1
  unfold Bt at this
  simp only [A0r] at this
  exact this.1
 ·rw [e10,hl,hsum]
  have h1:A.last.sum=Ux A.last.lv A.ix:=by
   by_cases h0:0<A.last.ep.toNat
   ·exact hd.sum h0
   ·rw [hd.l0 (by omega)];exact (Ajo _).symm
  rw [← h1]
  have h2:m.1.es.length=(C8 A.last.lv 256).length:=by
   rw [← hkeys,(B5 _).length_eq,Mp.keys_len]
  rw [h2]
  simp
 ·show A.last.ep.toNat≤z.S.seen.toNat
  rw [e8,Iz,hl]
  omega
 ·show z.S.seen.toNat≤t
  rw [e8,Iz,hl]
  have:=I.hi t fun x hx k e b hr=>by
   obtain ⟨h3,h4⟩:=hndR x hx k e b hr
   exact h2 x k e b h3 h4
  omega
end
end
section
open Go.K
variable {T:TypeId}
def ab0:Ab:=⟨cm0,vw0,false,0,fun _=>false,fun _=>none⟩
theorem Laid11.std {m:Nat} {z:Sg} (h:Laid11 m z) (hm:16≤m∧m≤40):Std ab0 z:=by
 obtain ⟨st,lg,ib,pb,sb,hS⟩:=h.sto
 have hlv:∀ k,B4 lv0 k=false:=fun k=>by
  cases hk:B4 lv0 k with
  | false=>rfl
  | true=>have:=keysL_mem.2 hk;rw [Mj] at this;cases this
 refine ⟨⟨by rw [hS];rfl,by rw [hS];rfl,by rw [hS];rfl,fun k=>by show z.S.idx.get k=Option.none;rw [hS];rfl,fun k=>by show z.S.pend.get k=Option.none;rw [hS];rfl,fun h0=>absurd h0 (by decide),fun h0=>(by cases h0),fun x p hx=>absurd hx (h.none x p),fun x k e b _ hx=>absurd hx (h.none x _),fun x c hx=>absurd hx (h.none x _),fun x v hx=>absurd hx (h.none x _)⟩,
  by rw [hS];rfl,fun k=>by rw [hS];rfl,fun k hk=>(by cases hk),by rw [hS];rfl,fun k=>(hlv k).symm,fun k e b hi=>(by cases hi),A2q _,fun _=>rfl,fun h0=>absurd h0 (by decide),?_,?_,?_,fun h0=>(by cases h0),fun _=>rfl⟩
 ·show ((C8 lv0 256).length:Int)≤Hy z.L.nb
  rw [Mj]
  unfold Hy
  show (0:Int)≤_
  omega
 ·have:=h.nb;omega
 ·unfold fr;rw [h.free];have:=h.nb;omega
def Awv (n k:Nat) (q:Qt) (A:Ab) (z:Sg) (ep:Wd) (cs:List Chg) (e:Int) (z':Sg):Prop :=
 WI n (k+100000000) q z'∧FrA z.L.d.c z'.L.d.c∧((Ch z ep cs=true∧e=1∧z'=z)∨(Ch z ep cs=false∧Cn z cs=true∧e=40∧z'=z)∨(Ch z ep cs=false∧Cn z cs=false∧e=0∧∃ A',ComA A ep cs A'∧Std A' z'))
section
variable {n k:Nat} {q:Qt} {A:Ab} {z:Sg}
theorem Nr (h:Std A z) (hw:WI n k q z) (hk:k≤100000000000) (hq:q.n≤3) (haf:z.L.d.c.after<0) (h13:z.L.nb≤13) {ep:Wd} {cs:Sl Chg} (hcn:cs.list.length≤300) :
  Does Tryz.prog 16 [ptr z.S.st,wv ep,cs.val] (Dy T::(z.S.st,true,C (stC z.S) tSt)::(z.S.ib,true,z.S.idx.obj .i64)::(z.S.pb,true,z.S.pend.obj .i64)::(z.S.sb,true,z.S.stray.obj .i64)::(lgH z.L++(cs.hp tCg++(cbH cs.list++[]))))
  (fun v H=>∃ (e:Int) (z':Sg),v= .int .i64 e∧H=Dy T::(z'.S.st,true,C (stC z'.S) tSt)::(z'.S.ib,true,z'.S.idx.obj .i64)::(z'.S.pb,true,z'.S.pend.obj .i64)::(z'.S.sb,true,z'.S.stray.obj .i64)::(lgH z'.L++(cs.hp tCg++(cbH cs.list++[])))∧z'.S.st=z.S.st∧Awv n k q A z ep cs.list e z'∧Si n q z ep cs.list (Ca A.ix) e z'):=by
 refine (Xa (bi:=Ca A.ix) hw (by omega) hq hcn h.hm h.hA (fun hb=> ?_) (fun hb hf=>h.hS hw.lw (by omega) h13 hb hf) (fun hb hf=>h.hE hw.lw (by omega) h13 hb hf)).mono ?_
 ·have h1:=h.nds_len hb
  have h2:=Hb (Cc z cs.list) 256
  omega
 ·rintro v H ⟨e,z',rfl,rfl,hst,hR,hW⟩
  refine ⟨e,z',rfl,rfl,hst,?_,hR⟩
  rcases hR with ⟨h1,rfl,rfl⟩ | ⟨h1,h2,rfl,rfl⟩ | ⟨h1,h2,e1,z1,h3,h4⟩
  ·exact ⟨hW (by decide),.refl _,.inl ⟨h1,rfl,rfl⟩⟩
  ·exact ⟨hW (by decide),.refl _,.inr (.inl ⟨h1,h2,rfl,rfl⟩)⟩
  ·rcases h4 with ⟨g1,rfl,rfl⟩ | ⟨rfl,m,z2,g2,g3,rfl⟩
   ·exact absurd (h.commit (m:=Mp.nil) (z2:=z1) (e:=0) hw.lw (by omega) h1 h2 h3 (.inr haf)).1 g1
   ·obtain ⟨_,_,g4⟩:=h.commit (m:=m) (z2:=z2) (e:=e) hw.lw (by omega) h1 h2 h3 (.inr haf)
    obtain ⟨g5,g6,A',g7,g8⟩:=g4 g2 g3 (.inr haf)
    subst g5
    exact ⟨hW (by decide),g6,.inr (.inr ⟨h1,h2,rfl,A',g7,g8⟩)⟩
theorem Axp (h:Std A z) (hw:WI n k q z) (hk:k≤100000000000) (hq:q.n≤3) (haf:z.L.d.c.after<0) (h13:z.L.nb≤13) {v:Vw} :
  Does Tryz.prog 29 [ptr z.S.st,.agg (vwC v).toArray] ((z.S.st,true,C (stC z.S) tSt)::(z.S.ib,true,z.S.idx.obj .i64)::(z.S.pb,true,z.S.pend.obj .i64)::(lgH z.L++[]))
  (fun w H=>∃ (z':Sg),w= .int .i64 0∧H=(z'.S.st,true,C (stC z'.S) tSt)::(z'.S.ib,true,z'.S.idx.obj .i64)::(z'.S.pb,true,z'.S.pend.obj .i64)::(lgH z'.L++[])∧z'.S.st=z.S.st∧z'.S.sb=z.S.sb∧z'.S.stray=z.S.stray∧WI n (k+100000000) q z'∧FrA z.L.d.c z'.L.d.c∧Std (A.note v) z'):=by
 refine (Axv hw (by omega) hq (h.safe h13)).mono ?_
 rintro w H ⟨e,z',rfl,rfl,hst,hR,hW⟩
 have hs:z'.S.sb=z.S.sb∧z'.S.stray=z.S.stray:=by
  obtain ⟨y,z1,h1,rfl⟩:=hR
  split
  ·exact ⟨h1.same.sb,h1.same.stray⟩
  ·exact ⟨h1.same.sb,h1.same.stray⟩
 obtain ⟨rfl,h2,h3⟩:=h.note hw.lw (by omega) hR (.inr haf)
 exact ⟨z',rfl,rfl,hst,hs.1,hs.2,(hW (by decide)).mono (by omega),h2,h3⟩
end
open Classical in
noncomputable def Ao5 (z:Sg) (x:Pl2):Rc:=if h:∃ r:Rc,r.ok∧RecAt z x r.pg then h.choose else .cm cm0
theorem Agu {z:Sg} (hk:∀ x p,RecAt z x p→(Eb p).2.2.2=0→∃ r:Rc,r.ok∧p=r.pg) {x:Pl2} {p:Pg} (h:RecAt z x p) (hg:(Eb p).2.2.2=0):(Ao5 z x).ok∧p=(Ao5 z x).pg:=by
 obtain ⟨r,h1,rfl⟩:=hk x p h hg
 have he:∃ r:Rc,r.ok∧RecAt z x r.pg:=⟨r,h1,h⟩
 unfold Ao5
 rw [A22 he]
 exact ⟨he.choose_spec.1,h.fn he.choose_spec.2⟩
section
variable {n k:Nat} {q:Qt} {A:Ab} {z:Sg}
theorem Xg {d:Dsk} {t2:TS} {nb:Nat} {V:Nat→Blk} {sq:Nat→Wd} (hb:2≤d.c.blocks.length∧d.c.blocks.length≤1000) (ho:Dj d.c=(0,t2)) (hv:DV d.c t2 n k V) (ha:Acc q d.c t2) (hn:nb+6=n) (hC:LogC nb k V sq z.R)
  (h1:z.L.nb=nb) (h2:∀ j<nb,(bAt z.L.bs j).seq=sq j) (hT:Tl A z) (hd:Sd A nb) (hf:1≤fr z) (h13:nb≤13) :
  Does Tryz.prog 26 [ptr d.c.aC] (dkH d)
  (fun v H=>∃ z':Sg,v=ptr z'.S.st∧H=(z'.S.st,true,C (stC z'.S) tSt)::(z'.S.ib,true,z'.S.idx.obj .i64)::(z'.S.pb,true,z'.S.pend.obj .i64)::(z'.S.sb,true,z'.S.stray.obj .i64)::(lgH z'.L++[])∧WI n k q z'∧z'.L.d.c=d.c∧z'.L.nb=nb∧∃ A',Std A' z'∧A'.last=A.last∧A'.vw=A.vw∧A'.viewed=A.viewed∧A'.ix=A.ix ∧
   ∀ t:Nat,A.last.ep.toNat≤t→(∀ x k e b,Bt k b=true→RecAt z x (Rc.nd k e b).pg→e.toNat≤t)→A'.seen.toNat≤t):=by
 have hO:=hC.opened.2
 have hfr:Cb (D2 V nb).1 nb=fr z:=by
  unfold fr
  rw [h1]
  exact Gf nb fun j hj=>by rw [hO j hj,h2 j hj]
 refine (Aep (rc:=Ao5 z) hb ho hv ha hn hC (by rw [hfr];omega) (fun b j p hb hp hg=>Agu hT.kd ⟨b,j,rfl,by rw [h1];exact hb,hp⟩ hg)).mono ?_
 rintro v H ⟨z',rfl,rfl,hW,g1,g2,g3,g4,ss,st,lg,ib,pb,sb,g5,g6⟩
 have hT':Tl A z':=hT.of (g2.trans h1.symm) g1 fun j hj=>by rw [h1] at hj;rw [g4 j hj,h2 j hj]
 have hF:FlatR z' (Ao5 z) (Gl ss):=Asn hW g5 fun b j p hb hp hg=>Agu hT.kd ⟨b,j,rfl,by rw [h1,← g2];exact hb,by rw [← g1];exact hp⟩ hg
 have hfr':fr z'=fr z:=by
  unfold fr
  rw [g2,h1]
  exact Gf nb fun j hj=>by rw [g4 j hj,h2 j hj]
 obtain ⟨A',a1,a2,a3,a4,a5,a6⟩:=hT'.opened (by rw [g2];exact hd) hF g6 (by rw [hfr'];exact hf)
 refine ⟨z',rfl,rfl,hW,g3,g2,A',a1,a2,a3,a4,a5,fun t ht hx=>a6 t ht fun x k e b hk hr=>hx x k e b hk ?_⟩
 obtain ⟨b',j,e1,e2,e3⟩:=hr
 exact ⟨b',j,e1,by rw [h1,← g2];exact e2,by rw [← g1];exact e3⟩
theorem Ajp (h:Std A z) (hw:WI n k q z) (h13:z.L.nb≤13):Does Tryz.prog 26 [ptr z.L.d.c.aC] (lgH z.L)
  (fun v H=>∃ z':Sg,v=ptr z'.S.st∧H=(z'.S.st,true,C (stC z'.S) tSt)::(z'.S.ib,true,z'.S.idx.obj .i64)::(z'.S.pb,true,z'.S.pend.obj .i64)::(z'.S.sb,true,z'.S.stray.obj .i64)::(lgH z'.L++[])∧WI n k q z'∧z'.L.d.c=z.L.d.c∧z'.L.nb=z.L.nb∧∃ A',Std A' z'∧A'.last=A.last∧A'.vw=A.vw∧A'.viewed=A.viewed∧A'.ix=A.ix ∧
   ∀ t:Nat,A.last.ep.toNat≤t→(∀ x k e b,Bt k b=true→RecAt z x (Rc.nd k e b).pg→e.toNat≤t)→A'.seen.toNat≤t):=by
 obtain ⟨V,hZ⟩:=hw.2
 obtain ⟨t2,o1,o2,o4,o3⟩:=DV.again hZ.dv
 have hlen:z.L.d.c.blocks.length=n:=DI.len (DV.di hZ.dv)
 have hwf:=(DV.di hZ.dv).wf
 have hn1:=hwf.n1
 have hn2:=hwf.n2
 have hacc:Acc q z.L.d.c t2:=by
  have:=hZ.acc
  unfold Acc at this ⊢
  rw [o2,o4]
  exact this
 rw [Ey]
 refine (Xg (d:=z.L.d) (nb:=z.L.nb) (sq:=fun j=>(bAt z.L.bs j).seq) (by omega) o1 o3 hacc hZ.num (hZ.lv.cont fun j hj=>hZ.bi hj) rfl (fun _ _=>rfl) (h.rz.tl fun _ _ _ h=>h.elim) h.sd h.fr h13).inn sP fun v Y hh=> ?_
 obtain ⟨z',rfl,rfl,hz⟩:=hh
 exact ⟨_,⟨z',rfl,rfl,hz⟩,_,_,aQ,sP⟩
end
end
end Go.Proofs.YtpmojdippdlcaaaGreatDoor
