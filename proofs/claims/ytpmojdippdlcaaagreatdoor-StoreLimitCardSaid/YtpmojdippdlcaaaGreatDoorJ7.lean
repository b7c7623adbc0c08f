/- For every input, the program's store takes as many nodes as Limit tells, over and over, and no more (lemmas of the proof); the conditions are the statement's own: part 7. -/
import Derived.Test.YtpmojdippdlcaaaGreatDoorJ5
import Derived.Test.YtpmojdippdlcaaaGreatDoorJ6
import Derived.Test.YtpmojdippdlcaaaGreatDoorJ1
import Derived.Test.YtpmojdippdlcaaaGreatDoorRows
import Derived.Test.YtpmojdippdlcaaaGreatDoorCards
import Derived.Test.YtpmojdippdlcaaaGreatDoorTie
import Derived.ChangeSame
import Derived.LaidLaws
import Derived.Handed
set_option linter.unusedVariables false
set_option linter.unusedSimpArgs false
namespace Go.Proofs.YtpmojdippdlcaaaGreatDoor
section
open Go.K
variable {T:TypeId}
instance byt45:Byt Tryz.prog 45 40:=⟨by kernel_rfl⟩
instance flat54:Flat Tryz.prog 54 (Mm 32 ([some .u8])):=⟨by kernel_rfl,by kernel_rfl,⟨_,Tryz.underlying54,rfl⟩⟩
set_option maxRecDepth 20000
set_option maxHeartbeats 1000000
theorem Agw {P:Program} {E:Env} {H:Hp} {t u:TypeId} {x y:Operand} {a b:Wd} (hx:ev E x=some (wv a)) (hy:ev E y=some (wv b)):Rd P E H (.binOp .add t x y u) (wv (a+b)):=by
 have e:((a+b).toNat:Int)=IntKind.u64.wrap ((a.toNat:Int)+(b.toNat:Int)):=by
  rw [Ex .u64 rfl,show ((a.toNat:Int)+(b.toNat:Int))=((a.toNat+b.toNat:Nat):Int) by omega,BitVec.ofInt_natCast]
  show ((a+b).toNat:Int)=((BitVec.ofNat 64 (a.toNat+b.toNat)).toNat:Int)
  rw [BitVec.toNat_add,BitVec.toNat_ofNat]
 unfold wv
 rw [e]
 exact Ae hx hy rfl
theorem Awj (x:Int):Er .and .i64 x 15=x % 16:=by
 have h:(BitVec.ofInt 64 x &&& BitVec.ofInt 64 15).toNat=(x % 16).toNat:=by
  rw [BitVec.toNat_and,BitVec.toNat_ofInt,show (BitVec.ofInt 64 15).toNat=2 ^ 4 - 1 from rfl,Nat.and_two_pow_sub_one_eq_mod]
  omega
 show IntKind.i64.wrap (((BitVec.ofInt 64 x &&& BitVec.ofInt 64 15).toNat:Nat):Int)=_
 rw [h,Cx (by omega)]
 omega
theorem Acp:∀ xs:List By,Cd (Mm xs.length [some .u8]) (xs.map bv) (xs.map bv)=some true
 | []=>rfl
 | x::xs=>by
  show (match veq (some .u8) (bv x) (bv x) with | some a=>(match Cd (Mm xs.length [some .u8]) (xs.map bv) (xs.map bv) with | some b=>some (a && b) | none=>none) | none=>none)=some true
  rw [Acp xs]
  have:veq (some .u8) (bv x) (bv x)=some true:=by simp [veq,bv]
  rw [this]
  rfl
theorem Awk (l:Lv):Cd (Mm 32 [some .u8]) (vbc l) (vbc l)=some true:=by
 have h:=Acp l.toList
 rw [Vector.length_toList] at h
 exact h
theorem Asq (l:List Chg) (x:Chg) (D:Hp):cbH (l++[x])++D=cbH l++(x.body.hp tU8++D):=by
 unfold cbH
 simp
theorem Ave:cbH []=[]:=by unfold cbH;rfl
def chL (b:Nat) (k:Int):Chg:=⟨k,false,.own b [Fx k] 1 [] ⟨by simp,Nat.le_refl _,by simp⟩⟩
def LimC (n:Nat) (cs:List Chg):Prop:=cs.map (·.key)=(List.range n).map (fun k:Nat=>(k:Int))∧∀ c∈cs,c.gone=false∧c.body.list.length=1
theorem LimC.snoc {n b:Nat} {cs:List Chg} (h:LimC n cs):LimC (n+1) (cs++[chL b n]):=by
 refine ⟨by rw [List.map_append,h.1,List.range_succ,List.map_append];rfl,fun c hc=> ?_⟩
 rcases List.mem_append.1 hc with h1 | h1
 ·exact h.2 c h1
 ·rw [List.mem_singleton.1 h1];exact ⟨rfl,rfl⟩
theorem Uy (n:Nat):((List.range n).map (fun k:Nat=>(k:Int))).Nodup:=by
 unfold List.Nodup
 rw [List.pairwise_map]
 exact List.nodup_range.imp fun h e=>h (Int.ofNat.inj e)
theorem LimC.len {n:Nat} {cs:List Chg} (h:LimC n cs):cs.length=n:=by
 have:=congrArg List.length h.1
 rw [List.length_map,List.length_map,List.length_range] at this
 exact this
def Asr (l:Lv):Prop:=∀ k,B4 l k=true→0≤k∧k<19
theorem LimC.live {cs:List Chg} (h:LimC 19 cs) {l:Lv} (hl:Asr l):∀ k,B4 (cs.foldl Eh l) k=true↔0≤k∧k<19:=fun k=>by
 by_cases hk:k∈cs.map (·.key)
 ·have hk2:=hk
  rw [h.1] at hk2
  obtain ⟨m,hm,rfl⟩:=List.mem_map.1 hk2
  have hm:=List.mem_range.1 hm
  obtain ⟨c,hc,e⟩:=List.mem_map.1 hk
  have:=Zk (l:=l) (by rw [h.1];exact Uy _) hc (by rw [e];exact Nk (by omega))
  rw [e,(h.2 c hc).1] at this
  rw [this]
  simp
  omega
 ·rw [Kr hk]
  constructor
  ·exact hl k
  ·rintro ⟨h1,h2⟩
   exact absurd (by rw [h.1];exact List.mem_map.2 ⟨k.toNat,List.mem_range.2 (by omega),by omega⟩) hk
theorem Ao7 {l:Lv} (h:Asr l):(C8 l 256).length≤19:=by
 have:=Fs (Rj l 256) (m:=(List.range 19).map fun k:Nat=>(k:Int)) fun k hk=>by
  have:=h k (keysL_mem.1 hk)
  exact List.mem_map.2 ⟨k.toNat,List.mem_range.2 (by omega),by omega⟩
 rw [List.length_map,List.length_range] at this
 exact this
theorem Ass {l:Lv} (h:∀ k,0≤k∧k<20→B4 l k=true):20≤(C8 l 256).length:=by
 have:=Fs (Uy 20) (m:=C8 l 256) fun k hk=>by
  obtain ⟨m,hm,rfl⟩:=List.mem_map.1 hk
  have hm:=List.mem_range.1 hm
  exact keysL_mem.2 (h _ (by omega))
 rw [List.length_map,List.length_range] at this
 exact this
theorem Ast (b:Nat) (k:Int) (g:Bool):(cs1 b ⟨k,g,.nil⟩).hp tCg++(cbH (cs1 b ⟨k,g,.nil⟩).list++[])=(b,true,C [.int .i64 k,.bool g,.slice none 0 0] tCg)::[]:=by
 unfold cs1
 rw [Sl.hp_own]
 show _++(cbH [⟨k,g,.nil⟩]++[])=_
 unfold cbH
 simp only [List.flatMap_cons,List.flatMap_nil,List.append_nil]
 rw [Sl.hp_nil]
 rfl
structure LimI (i:Nat) (A:Ab) (z:Sg):Prop where
 std:Std A z
 wi:WI 16 (2000+200000000*i) (q0 16) z
 af:z.L.d.c.after<0
 nb:z.L.nb=10
 seen:A.seen.toNat≤i
 live:Asr A.last.lv
theorem Agx {w:Wd} {i:Nat} (h:w.toNat≤i) (hi:i≤1000):(w+1).toNat=w.toNat+1:=by
 rw [BitVec.toNat_add]
 show (w.toNat+1) % 2 ^ 64=_
 omega
section
variable {i:Nat} {A:Ab} {z:Sg}
theorem Asu (h:LimI i A z) (hi:i≤100) {cs:Sl Chg} (hc:LimC 19 cs.list):Does Tryz.prog 16 [ptr z.S.st,wv (z.S.seen+1),cs.val] (Dy T::(z.S.st,true,C (stC z.S) tSt)::(z.S.ib,true,z.S.idx.obj .i64)::(z.S.pb,true,z.S.pend.obj .i64)::(z.S.sb,true,z.S.stray.obj .i64)::(lgH z.L++(cs.hp tCg++(cbH cs.list++[]))))
  (fun v H=>∃ (A':Ab) (z':Sg),v= .int .i64 0∧H=Dy T::(z'.S.st,true,C (stC z'.S) tSt)::(z'.S.ib,true,z'.S.idx.obj .i64)::(z'.S.pb,true,z'.S.pend.obj .i64)::(z'.S.sb,true,z'.S.stray.obj .i64)::(lgH z'.L++(cs.hp tCg++(cbH cs.list++[])))∧z'.S.st=z.S.st∧Std A' z'∧WI 16 (2000+200000000*i+100000000) (q0 16) z'∧z'.L.d.c.after<0∧z'.L.nb=10∧A'.seen.toNat≤i+1∧∀ k,B4 A'.last.lv k=true↔0≤k∧k<19):=by
 have hseen:z.S.seen=A.seen:=h.std.seen
 have hin:=Agx h.seen (by omega)
 refine (Nr h.std h.wi (by omega) (Nat.zero_le 3) h.af (by rw [h.nb];omega) (ep:=z.S.seen+1) (cs:=cs) (by rw [hc.len];omega)).mono ?_
 rintro v H ⟨e,z',rfl,rfl,hst,⟨hw,hfra,hcc⟩,_⟩
 have hbad:Ch z (z.S.seen+1) cs.list=false:=by
  unfold Ch L4
  simp only [Bool.or_eq_false_iff,Bool.not_eq_false',Bool.and_eq_true,decide_eq_true_eq,List.all_eq_true]
  refine ⟨⟨?_,fun c hx=> ?_⟩,onceC_iff.2 (by rw [hc.1];exact Uy _)⟩
  ·rw [hseen,hin];omega
  ·unfold Pb Bt
   have hk:c.key∈cs.list.map (·.key):=List.mem_map.2 ⟨c,hx,rfl⟩
   rw [hc.1] at hk
   obtain ⟨m,hm,e⟩:=List.mem_map.1 hk
   have hm:=List.mem_range.1 hm
   rw [← e,Nk (by omega),(hc.2 c hx).2]
   rfl
 have hlv:=hc.live h.live
 have hfull:Cn z cs.list=false:=by
  unfold Cn
  rw [h.std.lv,h.nb]
  have:=Ao7 (l:=cs.list.foldl Eh A.last.lv) fun k hk=>(hlv k).1 hk
  have e:Hy (10:Nat)=19:=rfl
  rw [e]
  simp only [decide_eq_false_iff_not]
  omega
 rcases hcc with ⟨h1,_⟩ | ⟨_,h1,_⟩ | ⟨_,_,rfl,A',hcom,hA⟩
 ·rw [hbad] at h1;cases h1
 ·rw [hfull] at h1;cases h1
 ·refine ⟨A',z',rfl,rfl,hst,hA,hw,by rw [(hfra.pos h.af).1];exact h.af,by have:=hw.2.choose_spec.num;omega,by rw [hcom.seen,hseen,hin];have:=h.seen;omega,fun k=>by rw [hcom.lv];exact hlv k⟩
theorem Asv (h:Std A z) (hw:WI 16 (2000+200000000*i+100000000) (q0 16) z) (haf:z.L.d.c.after<0) (hnb:z.L.nb=10) (hs:A.seen.toNat≤i+1) (hi:i≤100) (hl:∀ k,B4 A.last.lv k=true↔0≤k∧k<19) {b:Nat} :
  Does Tryz.prog 16 [ptr z.S.st,wv (z.S.seen+1),.slice (some ⟨b,0,none⟩) 1 1] (Dy T::(z.S.st,true,C (stC z.S) tSt)::(z.S.ib,true,z.S.idx.obj .i64)::(z.S.pb,true,z.S.pend.obj .i64)::(z.S.sb,true,z.S.stray.obj .i64)::(lgH z.L++((b,true,C [.int .i64 19,.bool false,.slice none 0 0] tCg)::[])))
  (fun v H=>v= .int .i64 40∧H=Dy T::(z.S.st,true,C (stC z.S) tSt)::(z.S.ib,true,z.S.idx.obj .i64)::(z.S.pb,true,z.S.pend.obj .i64)::(z.S.sb,true,z.S.stray.obj .i64)::(lgH z.L++((b,true,C [.int .i64 19,.bool false,.slice none 0 0] tCg)::[]))∧LimI (i+1) A z):=by
 have hseen:z.S.seen=A.seen:=h.seen
 have hin:=Agx hs (by omega)
 have hf:=Nr (T:=T) h hw (by omega) (Nat.zero_le 3) haf (by rw [hnb];omega) (ep:=z.S.seen+1) (cs:=cs1 b ⟨19,false,.nil⟩) (by show 1≤300;omega)
 rw [Ast] at hf
 refine hf.mono ?_
 rintro v H ⟨e,z',rfl,rfl,hst,⟨hw',hfra,hcc⟩,_⟩
 have hbad:Ch z (z.S.seen+1) (cs1 b ⟨19,false,.nil⟩).list=false:=by
  unfold Ch L4
  simp only [Bool.or_eq_false_iff,Bool.not_eq_false',Bool.and_eq_true,decide_eq_true_eq]
  exact ⟨⟨by rw [hseen,hin];omega,rfl⟩,onceC_iff.2 (by show [(19:Int)].Nodup;simp)⟩
 have hfull:Cn z (cs1 b ⟨19,false,.nil⟩).list=true:=by
  unfold Cn
  rw [h.lv,hnb]
  have e2:(cs1 b ⟨19,false,.nil⟩).list.foldl Eh A.last.lv=Eg A.last.lv 19:=by
   show Eh A.last.lv ⟨19,false,.nil⟩=_
   exact Pl _ _ _
  have:=Ass (l:=Eg A.last.lv 19) fun k hk=>by
   rw [Ql]
   by_cases e:k=19
   ·rw [e];simp;right;rfl
   ·rw [(hl k).2 (by omega)];rfl
  have e:Hy (10:Nat)=19:=rfl
  rw [e,e2]
  simp only [decide_eq_true_eq]
  omega
 rcases hcc with ⟨h1,_⟩ | ⟨_,_,rfl,rfl⟩ | ⟨_,h1,_⟩
 ·rw [hbad] at h1;cases h1
 ·exact ⟨rfl,rfl,h,hw'.mono (by omega),haf,hnb,hs,fun k hk=>(hl k).1 hk⟩
 ·rw [hfull] at h1;cases h1
end
theorem Ajq {r:Int}:Does Tryz.prog 5 [.int .i64 r] [Dy T] (fun v H=>v= .bool true):=by
 refine Ah (n:=86) Tryz.func5 Tryz.ntmps5 rfl (Nat.le_of_ble_eq_true rfl)<|Ad<|Aa fun ops=>oA rfl<|Ac<|n_K<|Ad<|Ad<|Aa fun ops=> ?_
 refine A6 rfl (Aco) sP rfl aQ ?_
 refine oR (Bx rfl)<|Ac<|n_K ?_
 refine Bi rfl ?_
 refine Ai<|n_K<|Ad<|Aa fun ops=> ?_
 refine Bd rfl (Xb (m:=16) ⟨by omega,by omega⟩) sP rfl fun v11 Y11 h11=> ?_
 obtain ⟨z0,rfl,rfl,hL⟩:=h11
 refine Ay aQ ?_
 refine oA rfl<|Ac<|n_K<|Ad<|Ad<|Aa fun ops=>oM rfl<|oR (Og rfl rfl)<|Ac<|n_K ?_
 refine Bi rfl ?_
 refine Ai<|n_K<|Ad<|Aa fun ops=>oM rfl ?_
 have hstd0:=hL.std ⟨by omega,by omega⟩
 have hnb0:z0.L.nb=10:=(by have:=hL.nb;omega)
 refine A6 rfl ((Ab5 (z:=z0) hL.wi).to (X':= .int .i64 19) (by rw [hnb0];rfl) rfl) sP rfl aQ ?_
 refine oA rfl<|Ac<|n_K<|Ad<|Aa fun ops=> ?_
 refine A5 rfl rfl rfl rfl fun b16=> ?_
 refine oA rfl<|Ac<|n_K<|Ad<|Ad<|Aa fun ops=>oA rfl<|Ac<|n_K<|Ak ?_
 refine A8 [0,3,4] kQ (fun (st:Nat×Sl Chg)=>[(6,.int .i64 st.1),(5,st.2.val)]) (fun (st:Nat×Sl Chg)=>(st.2.hp tCg++(cbH st.2.list++(Dy T::(z0.S.st,true,C (stC z0.S) tSt)::(z0.S.ib,true,z0.S.idx.obj .i64)::(z0.S.pb,true,z0.S.pend.obj .i64)::(z0.S.sb,true,z0.S.stray.obj .i64)::(lgH z0.L++[]))))) (fun (st:Nat×Sl Chg)=>st.1≤19∧LimC st.1 st.2.list∧st.2.isOwn=true) (fun (st:Nat×Sl Chg)=>19 - st.1) ((0,.own b16 [] 0 [] ⟨by simp,Nat.le_refl _,by simp⟩)) ⟨Nat.zero_le _,⟨rfl,fun c hc=>by cases hc⟩,rfl⟩ kP (by show Split _ (Sl.hp tCg (.own b16 [] 0 [] _)++(cbH []++_)) _;rw [Ave,Sl.hp_own];exact sP) ?_
 rintro ⟨i,all⟩ ⟨g0,g1,g2⟩
 simp only at g0 g1 g2
 have hal:=g1.len
 refine Ad<|Ad<|Aa fun ops=>oM rfl<|oM rfl<|oR (Ae rfl rfl rfl)<|Ac<|n_K ?_
 refine Aj rfl (fun c19=> ?_) (fun c19=> ?_)
 ·simp only [decide_eq_true_eq,decide_eq_false_iff_not] at c19
  refine Ai<|n_K<|Ad<|Ak<|Aa fun ops=>oM rfl<|oM rfl<|oM rfl ?_
  refine oR (show Rd _ _ _ _ (bv (Fx (i:Int))) from by (unfold bv;rw [← Ajx];exact C4 rfl)) ?_
  refine A5 rfl rfl rfl rfl fun b26=> ?_
  refine oR (Bc rfl rfl) ?_
  refine A5 rfl rfl rfl rfl fun b28=> ?_
  refine Bp (s:=all) (new:=[(chL b26 i:Chg)]) (m:=1) rfl rfl pL g2 (Cv (r:=true) mM rfl) rfl rfl rfl rfl (by omega) rfl fun s' hs1 hs2=> ?_
  refine oA rfl<|Ac<|Az<|n_K<|Aa fun ops=>oM rfl ?_
  refine oR (Ao rfl rfl (by omega)) ?_
  refine oA rfl<|Ac<|n_K ?_
  exact ⟨(i+1,s'),⟨by simp only;omega,by simp only;rw [hs1];exact g1.snoc,hs2⟩,by simp only;omega,kP,kP,_,(by simp only;rw [hs1,Asq];show Split _ (_++(_++(Sl.hp tU8 (chL b26 i).body++_))) _;unfold chL;rw [Sl.hp_own];exact sP)⟩
 ·simp only [decide_eq_true_eq,decide_eq_false_iff_not] at c19
  have hi:i=19:=(by omega)
  subst hi
  refine Bb<|x_K<|x_K<|Bj<|n_K<|Ad<|Ad<|Aa fun ops=>oA rfl<|Ac<|n_K<|Ak ?_
  have hlv0:Asr lv0:=(fun k hk=>by have:=keysL_mem.2 hk;rw [Mj] at this;cases this)
  refine A8 [0,3,4,5] kQ (fun (st:Nat×Ab×Sg)=>[(7,.int .i64 st.1)]) (fun (st:Nat×Ab×Sg)=>(Dy T::(st.2.2.S.st,true,C (stC st.2.2.S) tSt)::(st.2.2.S.ib,true,st.2.2.S.idx.obj .i64)::(st.2.2.S.pb,true,st.2.2.S.pend.obj .i64)::(st.2.2.S.sb,true,st.2.2.S.stray.obj .i64)::(lgH st.2.2.L++(all.hp tCg++(cbH all.list++[]))))) (fun (st:Nat×Ab×Sg)=>(st.1:Int)≤1+r % 16∧LimI st.1 st.2.1 st.2.2∧st.2.2.S.st=z0.S.st) (fun (st:Nat×Ab×Sg)=>17 - st.1) ((0,ab0,z0)) ⟨by omega,⟨hstd0,hL.wi.mono (by omega),hL.af,hnb0,Nat.le_refl _,hlv0⟩,rfl⟩ kP sP ?_
  rintro ⟨i,A,z⟩ ⟨k0,k1,k2⟩
  simp only at k0 k1 k2
  rw [← k2]
  refine Ad<|Ad<|Aa fun ops=>oM rfl<|oM rfl ?_
  refine oR (show Rd _ _ _ _ (.int .i64 (r % 16)) from by rw [← Awj];exact Ae rfl rfl rfl) ?_
  refine oR (Ao rfl rfl (by omega)) ?_
  refine oR (Ae rfl rfl rfl)<|Ac<|n_K ?_
  refine Aj rfl (fun c34=> ?_) (fun c34=> ?_)
  ·simp only [decide_eq_true_eq,decide_eq_false_iff_not] at c34
   refine Ai<|n_K<|Ad<|Ak<|Ad ?_
   refine Bf [(7,44)] rfl fun ops y=> ?_
   refine oM rfl<|oM rfl ?_
   refine A6 rfl (Agm (S:=z.S)) sP rfl aQ ?_
   refine oR (Agw (b:=1) rfl rfl) ?_
   refine oM rfl ?_
   refine Bd rfl (Asu k1 (by omega) (cs:=all) g1) sP rfl fun v42 Y42 h42=> ?_
   obtain ⟨A1,z1,rfl,rfl,hst1,hA1,hW1,haf1,hnb1,hs1,hl1⟩:=h42
   rw [← hst1]
   refine Ay aQ ?_
   refine oR (Ae rfl rfl rfl)<|oM rfl ?_
   refine' Es (j:=7) (k:=9) y rfl rfl rfl rfl rfl rfl rfl (fun hg44=> ?_) ?_
   rotate_left
   ·try (simp at hg44;show _)
    refine o_g y rfl rfl ?_
    refine oM rfl ?_
    refine o_g y rfl rfl ?_
    refine oM rfl ?_
    refine o_g y rfl rfl ?_
    refine A6 rfl (Agm (S:=z1.S)) sP rfl aQ ?_
    refine o_g y rfl rfl ?_
    refine oR (Agw (b:=1) rfl rfl) ?_
    refine o_g y rfl rfl ?_
    refine oM rfl ?_
    refine o_g y rfl rfl ?_
    refine oR (Bc rfl rfl) ?_
    refine o_g y rfl rfl ?_
    refine A5 rfl rfl rfl rfl fun b51=> ?_
    refine o_g y rfl rfl ?_
    refine Bd rfl (Asv hA1 hW1 haf1 hnb1 hs1 (by omega) hl1 (b:=b51)) sP rfl fun v52 Y52 h52=> ?_
    obtain ⟨rfl,rfl,hI⟩:=h52
    refine Ay aQ ?_
    refine o_g y rfl rfl ?_
    refine oR (Ae rfl rfl rfl) ?_
    exact Ac ⟨rfl,rfl,⟨_,sP⟩⟩
   refine Ac<|n_K ?_
   refine Bi rfl ?_
   refine Ai<|Az<|n_K<|Aa fun ops=>oM rfl ?_
   refine oR (Ao rfl rfl (by omega)) ?_
   refine oA rfl<|Ac<|n_K ?_
   exact ⟨(i+1,A1,z1),⟨by simp only;omega,⟨hA1,hW1.mono (by omega),haf1,hnb1,hs1,fun k hk=>(hl1 k).1 hk⟩,rfl⟩,by simp only;omega,lZ⟩
  ·simp only [decide_eq_true_eq,decide_eq_false_iff_not] at c34
   refine Bb<|x_K<|x_K<|Bj<|n_K<|Ad<|Aa fun ops=>oM rfl<|oN rfl<|oF rfl ?_
   refine oR (show Rd _ _ _ _ (ptr z.L.lg) from by rw [← k1.wi.1];exact Al rfl mM rfl) ?_
   refine oN rfl<|oF rfl ?_
   refine oR (Qn (L:=z.L) rfl pL) ?_
   refine oN rfl<|oF rfl ?_
   refine oR (Y1 (L:=z.L) rfl pL) ?_
   refine Bd rfl (Ajp k1.std k1.wi (by rw [k1.nb];omega)) sP rfl fun v65 Y65 h65=> ?_
   obtain ⟨x,rfl,rfl,hWx,hcx,hnx,Ax,hSx,hxl,hxv,hxd,hxi,_⟩:=h65
   have hx1:x.S.last=z.S.last:=(by rw [hSx.rz.last,hxl,k1.std.rz.last])
   refine Ay aQ ?_
   refine oA rfl<|Ac<|n_K<|Ad ?_
   refine Bf [(2,68),(6,72),(13,79)] rfl fun ops y=> ?_
   refine oM rfl<|oR (All rfl rfl)<|oM rfl ?_
   refine' Df (j:=2) (k:=2) y rfl rfl rfl rfl rfl rfl rfl (fun hg68=> ?_) ?_
   rotate_left
   ·try (simp at hg68;show _)
    refine o_g y rfl rfl ?_
    refine oM rfl ?_
    refine o_g y rfl rfl ?_
    refine A6 rfl ((Anv (S:=x.S)).to (X':= .bool true) (by rw [hSx.hurt];rfl) rfl) sP rfl aQ ?_
    exact Ac ⟨rfl,rfl,⟨_,sP⟩⟩
   refine oM rfl ?_
   refine' Df (j:=6) (k:=5) y rfl rfl rfl rfl rfl rfl rfl (fun hg72=> ?_) ?_
   rotate_left
   ·try (simp at hg72;show _)
    refine o_g y rfl rfl ?_
    refine oM rfl ?_
    refine o_g y rfl rfl ?_
    refine A6 rfl ((O9 (S:=x.S)).to (by rw [hx1]) rfl) sP rfl aQ ?_
    refine o_g y rfl rfl ?_
    refine oM rfl ?_
    refine o_g y rfl rfl ?_
    refine A6 rfl (O9 (S:=z.S)) sP rfl aQ ?_
    refine o_g y rfl rfl ?_
    refine oR (Ae rfl rfl rfl) ?_
    exact Ac ⟨rfl,rfl,⟨_,sP⟩⟩
   refine oM rfl ?_
   refine' Df (j:=13) (k:=5) y rfl rfl rfl rfl rfl rfl rfl (fun hg79=> ?_) ?_
   rotate_left
   ·try (simp at hg79;show _)
    refine o_g y rfl rfl ?_
    refine oM rfl ?_
    refine o_g y rfl rfl ?_
    refine A6 rfl ((Ab4 (S:=x.S)).to (by rw [hx1]) rfl) sP rfl aQ ?_
    refine o_g y rfl rfl ?_
    refine oM rfl ?_
    refine o_g y rfl rfl ?_
    refine A6 rfl (Ab4 (S:=z.S)) sP rfl aQ ?_
    refine o_g y rfl rfl ?_
    refine oR (Lq rfl rfl (Awk z.S.last.lv)) ?_
    exact Ac ⟨rfl,rfl,⟨_,sP⟩⟩
   refine oA rfl<|Ac<|n_K<|An ?_
   exact Av (At Tryz.results5 (Ag rfl)) (by simp) sP
end
section
open Go.ChangeShapes Go.WideShapes Go.ChangeAt Go.RowKit Go.K
set_option linter.constructorNameAsVariable false
set_option maxRecDepth 100000
theorem own:ownKnob Tryz.prog.godebug=none:=by kernel_rfl
theorem Asw:laidOutB Tryz.prog=true:=by kernel_rfl
abbrev Atf : List (String × DataW Unit) := [("keelson/store.lost", Rows.laid_keelson_store_lost)]
noncomputable def Xh (os:Os):World :=
 let w0:=World.holding Tryz.prog os ⟨#[],#[],[]⟩
 { w0 with heap:=w0.heap.modify 0 fun
   | .cells _ t frozen=> .cells #[.int .i64 (-1),.int .i64 (-1)] t frozen
   | o=>o }
theorem Ao8 (os:Os) (args:Array Value):laidMet Tryz.prog Atf ((Xh os).forCall (fun _ _=>0) ⟨#[],args,[]⟩).memory :=
 laidMet_of_run (ps:=[.cell 0 0,.cell 0 1]) 8 (by kernel_rfl) (by kernel_rfl) (by kernel_rfl)
theorem lostN : Tryz.prog.globalNamed "keelson/store.lost" = some 0 := by kernel_rfl
theorem lostT:(Tryz.prog.globals[0]?).map (·.type)=some 65:=by kernel_rfl
theorem Zm {W:World} (h:laidMet Tryz.prog Atf W):∃ T,HpOk [Dy T] W:=by
 obtain ⟨ps,⟨g,t,cs,fuel,p,q,hg,ht,hvar,hd,hq,hps⟩,hnd,hall⟩:=h
 obtain rfl:=Option.some.inj (lostN.symm.trans hg)
 obtain rfl:=Option.some.inj (lostT.symm.trans ht)
 obtain ⟨y0,y1,n,hx,hl,h0,h1⟩:=trod_struct2 Tryz.underlying65 hd
 have hl2:cs.toList.length=2:=hl.trans (by kernel_rfl)
 obtain ⟨a,b,hab⟩:∃ a b,cs.toList=[a,b]:=by
  match hc:cs.toList,hl2 with
  | [a,b],_=>exact ⟨a,b,rfl⟩
 rw [hab] at h0 h1
 obtain ⟨n0,e0,x0,_⟩:=DataW.trod_int Tryz.underlying3 h0
 obtain ⟨n1,e1,x1,_⟩:=DataW.trod_int Tryz.underlying3 h1
 have e0':[a]=[Value.int .i64 n0]:=e0
 have e1':[b]=[Value.int .i64 n1]:=e1
 subst x0 x1
 have hxx:Rows.laid_keelson_store_lost=(DataW.agg [.lit (.int .i64 n0),.lit (.int .i64 n1)]:DataW Unit):=(Prod.mk.inj hx).1
 unfold Rows.laid_keelson_store_lost at hxx
 simp only [DataW.agg.injEq,List.cons.injEq,DataW.lit.injEq,Lit.int.injEq,and_true,true_and] at hxx
 obtain ⟨m0,m1⟩:=hxx
 have hcs:cs=#[.int .i64 (-1),.int .i64 (-1)]:=by
  have:cs.toList=[Value.int .i64 (-1),.int .i64 (-1)]:=by
   rw [hab]
   simp only [List.cons.injEq,and_true] at e0' e1'
   rw [e0',e1',← m0,← m1]
  obtain ⟨l⟩:=cs
  simp only at this
  rw [this]
 have hin:MemPlace.cell 0 0∈ps:=by
  rw [hps,hcs]
  exact List.mem_append_left _ (List.mem_append_left _ (by simp [MemPlace.row]))
 obtain ⟨⟨c,T,hb⟩,_⟩:=hall 0 0 hin
 refine ⟨T,⟨by simp,fun x hx=> ?_⟩⟩
 rw [List.mem_singleton.1 hx]
 simp only [World.var?,lostN,Option.bind_some,hb,Option.some.injEq] at hvar
 rw [hb,hvar,hcs]
 rfl
theorem Asx {W:World} {base:Nat} {v:Value} (ho:Value.okWide Tryz.prog W .any base 3 v):∃ n,v= .int .i64 n:=okWide_int Tryz.underlying3 ho
end
end Go.Proofs.YtpmojdippdlcaaaGreatDoor
