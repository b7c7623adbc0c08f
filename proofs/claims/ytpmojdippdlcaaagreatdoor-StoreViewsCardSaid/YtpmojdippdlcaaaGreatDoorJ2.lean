/- For every input, the program's store tells the view with the greatest number of those that were noted (lemmas of the proof); the conditions are the statement's own: part 2. -/
import Derived.Test.YtpmojdippdlcaaaGreatDoorJ1
import Derived.Test.YtpmojdippdlcaaaGreatDoorJ0
set_option linter.unusedVariables false
set_option linter.unusedSimpArgs false
set_option maxRecDepth 100000
set_option maxHeartbeats 1000000
namespace Go.Proofs.YtpmojdippdlcaaaGreatDoor
section
open Go.K
instance agg77:Agg Tryz.prog 77 false:=⟨⟨_,Tryz.underlying77,rfl⟩⟩
instance zer95:Zer Tryz.prog 95 ([.pointer none,.slice none 0 0,.bool false,.bool false,.slice none 0 0,.int .i64 0,.slice none 0 0,.int .i64 0,.int .i64 0]):=⟨by kernel_rfl⟩
instance zer143:Zer Tryz.prog 143 ([.bool false,.int .i64 0,.int .i64 0]):=⟨by kernel_rfl⟩
instance zer150:Zer Tryz.prog 150 (List.replicate 2064 (.int .u8 0)++[.int .i64 0,.bool false]):=⟨by kernel_rfl⟩
instance fld95_4:Fld Tryz.prog 95 4 4:=⟨⟨_,_,1,Tryz.underlying95,rfl,by kernel_rfl,rfl⟩⟩
instance fld95_5:Fld Tryz.prog 95 5 6:=⟨⟨_,_,1,Tryz.underlying95,rfl,by kernel_rfl,rfl⟩⟩
instance fld95_6:Fld Tryz.prog 95 6 8:=⟨⟨_,_,0,Tryz.underlying95,rfl,by kernel_rfl,rfl⟩⟩
instance fld143_2:Fld Tryz.prog 143 2 2:=⟨⟨_,_,0,Tryz.underlying143,rfl,by kernel_rfl,rfl⟩⟩
instance fld150_1:Fld Tryz.prog 150 1 2064:=⟨⟨_,_,0,Tryz.underlying150,rfl,by kernel_rfl,rfl⟩⟩
instance plc95:Plc Tryz.prog 95 [(0,1),(1,1),(2,1),(3,1),(4,2),(6,2),(8,1)]:=⟨⟨_,Tryz.underlying95,fun _=>by kernel_rfl⟩⟩
instance plc143:Plc Tryz.prog 143 [(0,1),(1,1),(2,1)]:=⟨⟨_,Tryz.underlying143,fun _=>by kernel_rfl⟩⟩
instance byt150:Byt Tryz.prog 150 2080:=⟨by kernel_rfl⟩
instance ent36:Ent Tryz.prog 36:=⟨fun _ _=>by kernel_rfl⟩
instance ent47:Ent Tryz.prog 47:=⟨fun _ _=>by kernel_rfl⟩
instance ent48:Ent Tryz.prog 48:=⟨fun _ _=>by kernel_rfl⟩
instance ent80:Ent Tryz.prog 80:=⟨fun _ _=>by kernel_rfl⟩
instance ent125:Ent Tryz.prog 125:=⟨fun _ _=>by kernel_rfl⟩
instance ent126:Ent Tryz.prog 126:=⟨fun _ _=>by kernel_rfl⟩
instance ent166:Ent Tryz.prog 166:=⟨fun _ _=>by kernel_rfl⟩
instance ent198:Ent Tryz.prog 198:=⟨fun _ _=>by kernel_rfl⟩
instance ent209:Ent Tryz.prog 209:=⟨fun _ _=>by kernel_rfl⟩
theorem H8 (c:Chip) (k:Nat) (b:Blk):chH (Gb c k b)=(c.aP,true,C (pwc c) tPw)::(c.aC,true,C (chc c) tCh)::(c.aB,true,C (D8 (c.blocks.set k b)) tBk)::(c.pf.hp tI++(c.wf.hp tI++[])):=by
 rw [Ef]
 simp only [Gb,chc,A1f]
theorem T3 {pb k:Nat} {n j:Int} {l:List Blk} {b:Blk} {d:Pg} (hk:l[k]? =some b) (h0:0≤j) (hi:j.toNat<8) :
  Does Tryz.prog 233 [.pointer (some ⟨pb,k*2066,none⟩),.int .i64 j,.int .i64 n,.agg (vbc d).toArray] [(pb,true,C (D8 l) tBk)]
   (Is (.tuple #[]) [(pb,true,C (D8 (l.set k (wrB b j.toNat (Bl n 258) d hi))) tBk)]):=by
 obtain ⟨i,rfl⟩:=Int.eq_ofNat_of_zero_le h0
 exact Ame hk hi
theorem Kn {l:List Blk} {k:Nat} {b:Blk} (h:l[k]? =some b) (b':Blk):(l.set k b')[k]? =some b':=by
 have:=(Aym.1 h).1
 simp [this]
section
variable {c:Chip} {i j:Int} {d:Pg}
theorem Adz:Does Tryz.prog 209 [ptr c.aC,.int .i64 i,.int .i64 j,.agg (vbc d).toArray] (chH c) (Is (.int .i64 (B1 c i j d).1) (chH (B1 c i j d).2)):=by
 rw [Ef c]
 refine Ah (n:=82) Tryz.func209 Tryz.ntmps209 rfl (Ay9 rfl)<|Ad<|Aa fun ops=> ?_
 refine Ec rfl rfl fun b7=> ?_
 refine oA rfl<|Ac<|n_K<|Ad<|Ad<|Aa fun ops=>oM rfl<|oM rfl<|oM rfl ?_
 refine A6 rfl (Yh) sP rfl aQ ?_
 refine oA rfl<|Ac<|n_K<|Ad<|Aa fun ops=>oM rfl<|oR (Ae rfl rfl rfl)<|Ac<|n_K ?_
 refine Aj rfl (fun c17=> ?_) (fun c17=> ?_)
 ·skip
  have hm:¬ Aww c i j=0:=by simpa using c17
  have hres:=Aa9 (d:=d) hm
  refine Ad<|Aa fun ops=>oM rfl<|oA rfl<|Ac<|n_K<|An<|r_K ?_
  refine Aq (At Tryz.results209 (Ag rfl)) ?_ (by rw [hres];first | (rw [wrC,H8,A2m];exact sP) | (rw [Ef c];exact sP))
  rw [hres]
 ·skip
  have hm:Aww c i j=0:=by simpa using c17
  obtain ⟨m0,m1,m2,m3,_⟩:=Yc hm
  have h8:j.toNat<8:=by omega
  obtain ⟨b,hb⟩:∃ b,c.blocks[i.toNat]? =some b:=⟨_,Ayw (by omega)⟩
  refine Ai<|n_K<|Ad<|Aa fun ops=>oM rfl<|oN rfl<|oF rfl ?_
  refine oR (Al rfl mM rfl) ?_
  refine oM rfl ?_
  refine oR (Cp rfl rfl ⟨m0,m1⟩) ?_
  refine oA rfl<|Ac<|n_K<|Ad<|Ad<|Aa fun ops=>oM rfl<|oM rfl<|oN rfl<|oF rfl ?_
  refine oR (Al rfl mM (Aa7 hb)) ?_
  refine oR (Ae rfl rfl rfl)<|Ac<|n_K ?_
  refine Aj rfl (fun c30=> ?_) (fun c30=> ?_)
  ·skip
   have hn:¬ j=b.next:=by simpa using c30
   have hres:=Ty (d:=d) hm hb hn
   refine Ad<|Aa fun ops=>oA rfl<|Ac<|n_K<|An<|r_K ?_
   refine Aq (At Tryz.results209 (Ag rfl)) ?_ (by rw [hres];first | (rw [wrC,H8,A2m];exact sP) | (rw [Ef c];exact sP))
   rw [hres]
  ·skip
   have hn:j=b.next:=by simpa using c30
   refine Ai<|n_K<|Ad<|Aa fun ops=>oM rfl<|oN rfl<|oF rfl ?_
   refine oR (Al rfl mM rfl) ?_
   refine oR (Ae rfl rfl rfl)<|oN rfl<|oF rfl ?_
   refine Af rfl rfl uD rfl rfl rfl ?_
   refine Ac<|n_K<|Ad<|Aa fun ops=>oM rfl<|oN rfl<|oF rfl ?_
   refine oR (Al rfl mM (Aa7 hb)) ?_
   refine oR (Ae rfl rfl rfl)<|oN rfl<|oF rfl ?_
   refine Af (cs':=D8 (c.blocks.set i.toNat { b with next:=w64 (b.next+1) })) rfl rfl uD rfl rfl (Lt _ hb) ?_
   refine Ac<|n_K<|Ad<|Aa fun ops=>oM rfl<|oN rfl<|oF rfl ?_
   refine A6 rfl (Aq2 (c:=cnt c)) sP rfl aQ ?_
   refine oA rfl<|Ac<|n_K<|Ad<|Ak<|Ad<|Aa fun ops=>oM rfl<|oN rfl<|oF rfl ?_
   refine oR (Al rfl mM rfl) ?_
   refine A6 rfl (Afv (c:=c)) sP rfl aQ ?_
   refine oA rfl<|Ac<|n_K ?_
   refine Aj rfl (fun c49=> ?_) (fun c49=> ?_)
   ·skip
    have hres:=Wn (d:=d) hm h8 hb hn c49
    refine Ad ?_
    refine s_draw [] [(10,[(0,false),(1,false),(2,false),(3,false),(4,false),(5,false),(6,false),(7,false),(8,false),(9,false)]),(11,[(10,true)])] (by kernel_rfl) rfl fun ops w0 H0 y=> ?_
    refine A4<|xM rfl<|xM rfl<|xM rfl<|xN rfl<|xF rfl ?_
    refine xR (Al rfl mM rfl) ?_
    refine xN rfl<|xF rfl ?_
    refine xR (Al rfl mM rfl) ?_
    refine xR (Au rfl mM (by first | exact Bg | rfl)) ?_
    refine Am<|Bh<|Be ?_
    refine A6 rfl (T3 (Kn hb _) m2 h8) sP rfl aQ ?_
    refine Ac ⟨rfl,⟨_,sP⟩,?_⟩
    refine Am<|Bm<|n_K<|Ad<|Aa fun ops=>oA rfl<|Ac<|n_K<|An<|Bn<|r_K ?_
    refine Aq (At Tryz.results209 (Ag rfl)) ?_ (by rw [hres];first | (rw [wrC,H8,A2m];exact sP) | (rw [Ef c];exact sP))
    rw [hres]
   ·skip
    have he:El c=false:=c49
    refine Ad ?_
    refine Bf [(1,68)] rfl fun ops y=> ?_
    refine oM rfl<|oM rfl ?_
    refine' Es (j:=1) (k:=4) y rfl rfl rfl rfl rfl rfl rfl (fun hg68=> ?_) ?_
    rotate_left
    ·try (simp at hg68;show _)
     refine o_g y rfl rfl ?_
     refine oM rfl ?_
     refine o_g y rfl rfl ?_
     refine oN rfl ?_
     refine o_g y rfl rfl ?_
     refine oF rfl ?_
     refine o_g y rfl rfl ?_
     refine oR (Al rfl mM (Ye (Kn hb _))) ?_
     exact Ac ⟨rfl,rfl,⟨_,sP⟩⟩
    refine oA rfl<|Ac<|n_K ?_
    refine Aj rfl (fun c66=> ?_) (fun c66=> ?_)
    ·skip
     have hres:=Wo (d:=d) hm h8 hb hn he c66
     refine Ad<|Aa fun ops=>oM rfl<|oM rfl ?_
     refine oR (Au rfl mM (by first | exact Bg | rfl)) ?_
     refine A6 rfl (T3 (Kn hb _) m2 h8) sP rfl aQ ?_
     refine Ac<|n_K<|Ad<|Aa fun ops=>oA rfl<|Ac<|n_K<|An<|Bn<|r_K ?_
     refine Aq (At Tryz.results209 (Ag rfl)) ?_ (by rw [hres];first | (rw [wrC,H8,A2m];exact sP) | (rw [Ef c];exact sP))
     rw [hres]
    ·skip
     have hres:=Yg (d:=d) hm h8 hb hn he c66
     refine Ai<|Az<|n_K<|Ad<|Aa fun ops=>oM rfl<|oM rfl ?_
     refine oR (Au rfl mM (by first | exact Bg | rfl)) ?_
     refine A6 rfl (T3 (Kn hb _) m2 h8) sP rfl aQ ?_
     refine Ac<|n_K<|Ad<|Aa fun ops=>oA rfl<|Ac<|n_K<|An ?_
     refine Aq (At Tryz.results209 (Ag rfl)) ?_ (by rw [hres];first | (rw [wrC,H8,A2m];exact sP) | (rw [Ef c];exact sP))
     rw [hres]
theorem Amf:Does Tryz.prog 198 [ptr c.aC,.int .i64 i] (chH c) (Is (.int .i64 (B3 c i).1) (chH (B3 c i).2)):=by
 rw [Ef c]
 refine Ah (n:=62) Tryz.func198 Tryz.ntmps198 rfl (Ay9 rfl)<|Ad<|Aa fun ops=>oA rfl<|Ac<|n_K<|Ad<|Ad<|Aa fun ops=>oM rfl<|oM rfl ?_
 refine A6 rfl (Yh) sP rfl aQ ?_
 refine oA rfl<|Ac<|n_K<|Ad<|Aa fun ops=>oM rfl<|oR (Ae rfl rfl rfl)<|Ac<|n_K ?_
 refine Aj rfl (fun c12=> ?_) (fun c12=> ?_)
 ·skip
  have hm:¬ Aww c i 0=0:=by simpa using c12
  have hres:=Aih hm
  refine Ad<|Aa fun ops=>oM rfl<|oA rfl<|Ac<|n_K<|An<|r_K ?_
  refine Aq (At Tryz.results198 (Ag rfl)) ?_ (by rw [hres];first | (rw [H8];(try rw [A2m]);exact sP) | (rw [Ef c];exact sP))
  rw [hres]
 ·skip
  have hm:Aww c i 0=0:=by simpa using c12
  obtain ⟨m0,m1,m2,m3,_⟩:=Yc hm
  obtain ⟨b,hb⟩:∃ b,c.blocks[i.toNat]? =some b:=⟨_,Ayw (by omega)⟩
  refine Ai<|n_K<|Ad<|Aa fun ops=>oM rfl<|oN rfl<|oF rfl ?_
  refine oR (Al rfl mM rfl) ?_
  refine oM rfl ?_
  refine oR (Cp rfl rfl ⟨m0,m1⟩) ?_
  refine oA rfl<|Ac<|n_K<|Ad<|Aa fun ops=>oM rfl<|oN rfl<|oF rfl ?_
  refine oR (Al rfl mM rfl) ?_
  refine oR (Ae rfl rfl rfl)<|oN rfl<|oF rfl ?_
  refine Af rfl rfl uD rfl rfl rfl ?_
  refine Ac<|n_K<|Ad<|Aa fun ops=>oM rfl<|oN rfl<|oF rfl ?_
  refine A6 rfl (Aq3 (c:=cnt c)) sP rfl aQ ?_
  refine oA rfl<|Ac<|n_K<|Ad<|Aa fun ops=>oM rfl<|oN rfl<|oF rfl ?_
  refine Af (cs':=D8 (c.blocks.set i.toNat { b with next:=8 })) rfl rfl uD rfl rfl (Lt _ hb) ?_
  refine Ac<|n_K<|Ad<|Ak<|Ad<|Aa fun ops=>oM rfl<|oN rfl<|oF rfl ?_
  refine oR (Al rfl mM rfl) ?_
  refine A6 rfl (Afv (c:=c)) sP rfl aQ ?_
  refine oA rfl<|Ac<|n_K ?_
  refine Aj rfl (fun c34=> ?_) (fun c34=> ?_)
  ·skip
   have hres:=Tz hm hb c34
   refine Ad<|Aa fun ops=>oM rfl<|oM rfl<|oN rfl<|oF rfl ?_
   refine oR (Al rfl mM rfl) ?_
   refine oN rfl<|oF rfl ?_
   refine oR (Al rfl mM rfl) ?_
   refine A6 rfl (Yj (Kn hb _)) sP rfl aQ ?_
   refine Ac<|n_K<|Ad<|Aa fun ops=>oA rfl<|Ac<|n_K<|An<|Bn<|r_K ?_
   refine Aq (At Tryz.results198 (Ag rfl)) ?_ (by rw [hres];first | (rw [H8];(try rw [A2m]);exact sP) | (rw [Ef c];exact sP))
   rw [hres]
  ·skip
   have he:El c=false:=c34
   refine Ad ?_
   refine Bf [(1,51)] rfl fun ops y=> ?_
   refine oM rfl<|oM rfl ?_
   refine' Es (j:=1) (k:=4) y rfl rfl rfl rfl rfl rfl rfl (fun hg51=> ?_) ?_
   rotate_left
   ·try (simp at hg51;show _)
    refine o_g y rfl rfl ?_
    refine oM rfl ?_
    refine o_g y rfl rfl ?_
    refine oN rfl ?_
    refine o_g y rfl rfl ?_
    refine oF rfl ?_
    refine o_g y rfl rfl ?_
    refine oR (Al rfl mM (Ye (Kn hb _))) ?_
    exact Ac ⟨rfl,rfl,⟨_,sP⟩⟩
   refine oA rfl<|Ac<|n_K ?_
   refine Aj rfl (fun c49=> ?_) (fun c49=> ?_)
   ·skip
    have hres:=T0 hm hb he c49
    refine Ad<|Aa fun ops=>oA rfl<|Ac<|n_K<|An<|Bn<|r_K ?_
    refine Aq (At Tryz.results198 (Ag rfl)) ?_ (by rw [hres];first | (rw [H8];(try rw [A2m]);exact sP) | (rw [Ef c];exact sP))
    rw [hres]
   ·skip
    have hres:=Aba hm hb he c49
    refine Ai<|Az<|n_K<|Ad<|Aa fun ops=>oM rfl ?_
    refine A6 rfl (Yj (Kn hb _)) sP rfl aQ ?_
    refine Ac<|n_K<|Ad<|Aa fun ops=>oM rfl<|oN rfl<|oF rfl ?_
    refine Af (cs':=D8 (c.blocks.set i.toNat { D3 { b with next:=8 } 8 with next:=0 })) rfl rfl uD rfl rfl (by rw [A2m];have:=Lt (l:=c.blocks.set i.toNat (D3 { b with next:=8 } 8)) 0 (Kn hb _);rw [A2m] at this;exact this) ?_
    refine Ac<|n_K<|Ad<|Aa fun ops=>oA rfl<|Ac<|n_K<|An ?_
    refine Aq (At Tryz.results198 (Ag rfl)) ?_ (by rw [hres];first | (rw [H8];(try rw [A2m]);exact sP) | (rw [Ef c];exact sP))
    rw [hres]
end
theorem Aug {c:Chip} {a k:Int}:Does Tryz.prog 36 [ptr c.aP,.int .i64 a,.int .i64 k] (chH c) (Is (.tuple #[]) (chH { c with after:=max a (-1),keep:=k })):=by
 rw [Ef,Ef]
 refine Ah (n:=15) Tryz.func36 Tryz.ntmps36 rfl (Ay9 rfl)<|Aa fun ops=>oM rfl<|oM rfl<|oM rfl<|oR (Ln rfl rfl)<|oM rfl<|oN rfl<|oF rfl ?_
 refine Af rfl rfl uD rfl rfl rfl ?_
 refine oN rfl<|oF rfl ?_
 refine Af rfl rfl uD rfl rfl rfl ?_
 refine Ac ?_
 refine Lp (Ml Tryz.results36) ?_ sP
 rfl
theorem Abb:Does Tryz.prog 48 [] [] (fun v H=>∃ b,v=ptr b∧H=[(b,true,C [.bool false,.int .i64 (-1),.int .i64 0] tPw)]):=by
 refine Ah (n:=3) Tryz.func48 Tryz.ntmps48 rfl (Ay9 rfl)<|Ad<|Aa fun ops=>oA rfl<|Ac<|n_K<|Ad<|Aa fun ops=>oR (Bc rfl rfl) ?_
 refine De rfl rfl fun b2=> ?_
 refine oA rfl<|Ac<|n_K<|An ?_
 exact Av (At Tryz.results48 (Ag rfl)) (by exact ⟨_,rfl,rfl⟩) sP
section
variable {f:FuncId} [Ent Tryz.prog f] {fi ca:List Value} {p:Int→Bool} {L:Hp} {s:Sl Int} {T:TypeId}
theorem Yk (hf:∀ x:Int,Does Tryz.prog f (fi++[.int .i64 x]++ca) L (Is (.bool (p x)) L)) :
  Does Tryz.prog 166 [s.val,.func (.func f) fi.toArray ca.toArray] (s.hp T++(L++[])) (Is (.int .i64 (Ady s.list p)) (s.hp T++(L++[]))):=by
 refine Ah (n:=19) Tryz.func166 Tryz.ntmps166 rfl (Ay9 rfl)<|Ad<|Aa fun ops=>oA rfl<|Ac<|n_K<|Ad<|Ad<|Aa fun ops=>oM rfl<|oR (A7 rfl)<|oM rfl<|Ac<|n_K ?_
 refine Ak ?_
 have hsm:=s.small
 refine D7 [0,1,7] kQ (fun i=>[(8,.int .i64 i)]) (fun i=>0≤i∧i≤s.list.length∧∀ k:Int,0≤k→k<i→p (at0 s.list k)=false) (fun i=>((s.list.length:Int) - i).toNat) ((0:Int)) ⟨by omega,by omega,by intro k h0 h1;omega⟩ kP ?_
 rintro i ⟨h0,h1,h2⟩
 refine Ad<|Aa fun ops=>oR (Ae rfl rfl rfl)<|Ac<|n_K<|Ad ?_
 refine Aj rfl (fun c9=> ?_) (fun c9=> ?_)
 ·try simp at c9
  refine Ai<|n_K<|Ad<|Ak<|Ad<|Aa fun ops=>oM rfl<|oA rfl<|Ac<|n_K<|Ad<|Aa fun ops=>oM rfl<|oM rfl ?_
  refine oM rfl ?_
  refine oR (Bk rfl rfl ⟨h0,c9⟩) ?_
  refine oR (C0 (o:=0) rfl pL (Hz h0 c9) rfl rfl) ?_
  refine S8 rfl rfl (hf _) sP rfl aQ ?_
  refine Ac<|n_K ?_
  refine Aj rfl (fun c16=> ?_) (fun c16=> ?_)
  ·skip
   refine Ad<|Aa fun ops=>oM rfl<|oA rfl<|Ac<|n_K<|An<|Bn<|r_K<|r_K<|Bn<|r_K ?_
   refine Aq (At Tryz.results166 (Ag rfl)) ?_ sP
   rw [Aq0 i h0 c9 h2 c16]
  ·skip
   refine Ai<|Az<|n_K<|Aa fun ops=> ?_
   refine oR (Ao rfl rfl (by omega)) ?_
   refine oM rfl<|Ac<|n_K ?_
   exact ⟨i+1,⟨by omega,by omega,Zr h2 c16⟩,(by omega),lZ⟩
 ·try simp at c9
  refine Bb<|x_K<|x_K<|Bj<|n_K<|Ad<|Aa fun ops=>oA rfl<|Ac<|n_K<|An ?_
  refine Aq (At Tryz.results166 (Ag rfl)) ?_ sP
  rw [Aig (fun k k0 k1=>h2 k k0 (by omega))]
theorem Ru (hf:∀ x:Int,Does Tryz.prog f (fi++[.int .i64 x]++ca) L (Is (.bool (p x)) L)) :
  Does Tryz.prog 125 [s.val,.func (.func f) fi.toArray ca.toArray] (s.hp T++(L++[])) (Is (.bool (s.list.any p)) (s.hp T++(L++[]))):=by
 refine Ah (n:=9) Tryz.func125 Tryz.ntmps125 rfl (Ay9 rfl)<|Ad<|Aa fun ops=>oA rfl<|Ac<|n_K<|Ad<|Aa fun ops=>oM rfl<|oM rfl ?_
 refine A6 rfl (Yk hf) sP rfl aQ ?_
 refine oR (Ae rfl rfl rfl)<|oA rfl<|Ac<|n_K<|An ?_
 refine Aq (At Tryz.results125 (Ag rfl)) ?_ sP
 exact A20 Value.bool (Tx _ _)
theorem Aq4 {b:Nat} (hf:∀ x:Int,Does Tryz.prog f (fi++[.int .i64 x]++ca) L (Is (.bool (p x)) L)) (x:Int) :
  Does Tryz.prog 126 [.int .i64 x,ptr b] ((b,true,C [.func (.func f) fi.toArray ca.toArray] 77)::(L++[])) (Is (.bool (!p x)) ((b,true,C [.func (.func f) fi.toArray ca.toArray] 77)::(L++[]))):=by
 refine Ah (n:=8) Tryz.func126 Tryz.ntmps126 rfl (Ay9 rfl)<|Ad<|Aa fun ops=>oA rfl<|Ac<|n_K<|Ad<|Aa fun ops=> ?_
 refine oR (Al rfl mM rfl) ?_
 refine oM rfl ?_
 refine S8 rfl rfl (hf _) sP rfl aQ ?_
 refine oR (Bx rfl)<|oA rfl<|Ac<|n_K<|An ?_
 refine Aq (At Tryz.results126 (Ag rfl)) ?_ sP
 rfl
theorem Auh (hf:∀ x:Int,Does Tryz.prog f (fi++[.int .i64 x]++ca) L (Is (.bool (p x)) L)) :
  Does Tryz.prog 80 [s.val,.func (.func f) fi.toArray ca.toArray] (s.hp T++(L++[])) (Is (.bool (s.list.all p)) (s.hp T++(L++[]))):=by
 refine Ah (n:=9) Tryz.func80 Tryz.ntmps80 rfl (Ay9 rfl)<|Ad<|Aa fun ops=> ?_
 refine De rfl rfl fun b3=> ?_
 refine oA rfl<|Ac<|n_K<|Ad<|Aa fun ops=>oM rfl<|oR (Oh rfl) ?_
 refine A6 rfl (Ru (f:=126) (fi:=[]) (ca:=[ptr b3]) (p:=fun x=> !p x) (L:=(b3,true,C [.func (.func f) fi.toArray ca.toArray] 77)::(L++[])) (fun x=>Aq4 hf x)) sP rfl aQ ?_
 refine oR (Bx rfl)<|oA rfl<|Ac<|n_K<|An ?_
 refine Aq (At Tryz.results80 (Ag rfl)) ?_ sP
 exact A20 Value.bool (by rw [← List.not_all_eq_any_not,Bool.not_not])
end
instance (priority:=2000) zerBk:Zer Tryz.prog 150 (Qe Kz):=⟨by rw [← Ama];exact (inferInstance:Zer Tryz.prog 150 (List.replicate 2064 (.int .u8 0)++[.int .i64 0,.bool false])).eq⟩
def Amg (off:Bool) (after keep:Int) (pp:Nat) (n:Int) (s:Sl Int) (T:TypeId) (v:Value) (H:Hp):Prop :=
 if Ov n s.list=true then ∃ aC aB,v= .tuple #[ptr aC,.int .i64 0]∧H=chH (Ow off after keep pp aC aB n.toNat s.list)++(s.hp T++[])
 else v= .tuple #[.pointer none,.int .i64 1]∧H=(s.hp T++[])
theorem Aq5 {off:Bool} {after keep:Int} {aP aC aB n:Nat} {bad:List Int}:chH (Ow off after keep aP aC aB n bad)=[(aP,true,C [.bool off,.int .i64 after,.int .i64 keep] tPw),(aC,true,C (chc (Ow off after keep aP aC aB n bad)) tCh),(aB,true,C (D8 (Gi n bad n)) tBk)]:=by
 rw [Ef]
 simp only [Ow,Sl.hp_nil,A1k]
theorem Yl {off:Bool} {after keep:Int} {aP aC aB n:Nat} {bad:List Int}:chc (Ow off after keep aP aC aB n bad)=[ptr aP,.slice (some ⟨aB,0,none⟩) n n,.bool false,.bool false,.slice none 0 0,.int .i64 0,.slice none 0 0,.int .i64 0,.int .i64 0]:=by
 simp only [chc,Ow,Qg];rfl
theorem Afw {off:Bool} {after keep:Int} {aP aC aB n:Nat} {bad:List Int}:Ew (Ow off after keep aP aC aB n bad)=fun x=>(decide (0≤x) && decide (x<(n:Int))):=by
 funext x
 simp only [Ew,Ow,Qg]
theorem Aui {off:Bool} {after keep:Int} {pp:Nat} {n:Int} {s:Sl Int} {T:TypeId} :
  Does Tryz.prog 47 [ptr pp,.int .i64 n,s.val] ((pp,true,C [.bool off,.int .i64 after,.int .i64 keep] tPw)::(s.hp T++[])) (Amg off after keep pp n s T):=by
 refine Ah (n:=51) Tryz.func47 Tryz.ntmps47 rfl (Ay9 rfl)<|Ad<|Aa fun ops=>oA rfl<|oA rfl<|Ac<|n_K<|Ad<|Ad ?_
 refine Bf [(2,13)] rfl fun ops y=> ?_
 refine oM rfl<|oR (Ae rfl rfl rfl)<|oM rfl ?_
 refine' Es (j:=2) (k:=2) y rfl rfl rfl rfl rfl rfl rfl (fun hg13=> ?_) ?_
 rotate_left
 ·try (simp at hg13;show _)
  refine o_g y rfl rfl ?_
  refine oM rfl ?_
  refine o_g y rfl rfl ?_
  refine oR (Ae rfl rfl rfl) ?_
  exact Ac ⟨rfl,rfl,⟨_,sP⟩⟩
 refine Ac<|n_K ?_
 refine Aj rfl (fun c16=> ?_) (fun c16=> ?_)
 ·skip
  refine Ad<|Aa fun ops=>oA rfl<|oA rfl<|Ac<|n_K<|An<|r_K ?_
  exact Av (Bz Tryz.results47 (Ag rfl) (Ag rfl)) (by unfold Amg;rw [A26 (by rw [Ov,c16];simp)];exact ⟨rfl,rfl⟩) sP
 ·skip
  have h16:16≤n∧n≤40:=by simp at c16;omega
  obtain ⟨N,rfl⟩:∃ N:Nat,n=N:=⟨n.toNat,by omega⟩
  refine Ai<|n_K<|Ad<|Aa fun ops=>oM rfl<|oM rfl ?_
  refine Aly (zs:=Qe Kz) (hz:=zerBk) (hs:=by rw [Hl];infer_instance) (hby:=byt150) rfl rfl (by omega) rfl fun b19=> ?_
  refine oR (Bc rfl rfl) ?_
  refine De rfl rfl fun b21=> ?_
  refine Q5 (G:=(b21,true,C (chc (Ow off after keep pp b21 b19 N s.list)) tCh)::(b19,true,C (D8 (Gi N s.list 0)) tBk)::(pp,true,C [.bool off,.int .i64 after,.int .i64 keep] tPw)::(s.hp T++[])) (by rw [Yl,Aqz,← Amb];rfl) ?_
  refine oA rfl<|Ac<|n_K<|Ad<|Ad<|Aa fun ops=>oM rfl<|oM rfl ?_
  refine oR (Aah (fi:=[_]) (cap:=[]) rfl rfl) ?_
  refine A6 rfl (Auh (f:=74) (fi:=[ptr b21]) (ca:=[]) (fun x=>T1 (c:=Ow off after keep pp b21 b19 N s.list))) sP rfl aQ ?_
  refine oR (Bx rfl)<|Ac<|n_K ?_
  refine Aj rfl (fun c26=> ?_) (fun c26=> ?_)
  ·skip
   have hall:(s.list.all fun x=>decide (0≤x) && decide (x<(N:Int)))=false:=by simpa only [Afw,A0e] using c26
   refine Ad<|Aa fun ops=>oA rfl<|oA rfl<|Ac<|n_K<|An<|r_K ?_
   exact Av (Bz Tryz.results47 (Ag rfl) (Ag rfl)) (by unfold Amg;rw [A26 (by rw [Ov,hall];simp)];exact ⟨rfl,rfl⟩) sP
  ·skip
   have hall:(s.list.all fun x=>decide (0≤x) && decide (x<(N:Int)))=true:=by simpa only [Afw,Az7] using c26
   refine Ai<|n_K<|Ad<|Ad<|Aa fun ops=>oM rfl<|oN rfl<|oF rfl ?_
   refine oR (Al rfl mM (by rw [Yl];rfl)) ?_
   refine oR (A7 rfl)<|oM rfl<|Ac<|n_K<|Ak ?_
   refine A8 [2,8,31] kQ (fun (s':Nat)=>[(32,.int .i64 s')]) (fun (s':Nat)=>(b21,true,C (chc (Ow off after keep pp b21 b19 N s.list)) tCh)::(b19,true,C (D8 (Gi N s.list s')) tBk)::(pp,true,C [.bool off,.int .i64 after,.int .i64 keep] tPw)::(s.hp T++[])) (fun (s':Nat)=>s'≤N) (fun (s':Nat)=>N - s') ((0:Nat)) (by first | trivial | omega | simp) kP sP ?_
   rintro i h0
   refine Ad<|Aa fun ops=>oR (Ae rfl rfl rfl)<|Ac<|n_K<|Ad ?_
   refine Aj rfl (fun c33=> ?_) (fun c33=> ?_)
   ·simp at c33
    have hi:(Gi N s.list i)[i]? =some Kz:=Amc s.list c33
    refine Ai<|n_K<|Ad<|Ak<|Ad<|Aa fun ops=>oM rfl<|oA rfl<|Ac<|n_K<|Ad<|Aa fun ops=>oM rfl<|oN rfl ?_
    refine oF rfl ?_
    refine oR (Al rfl mM (by rw [Yl];rfl)) ?_
    refine oM rfl ?_
    refine oR (Cp rfl rfl (by omega)) ?_
    refine oA rfl<|Ac<|n_K<|Ad<|Aa fun ops=>oM rfl<|oM rfl<|oM rfl ?_
    refine A6 rfl (Hi) sP rfl aQ ?_
    refine oN rfl<|oF rfl ?_
    refine Af (cs':=D8 ((Gi N s.list i).set i { Kz with bad:=E3 s.list i })) rfl rfl uD rfl rfl (Adw _ hi) ?_
    refine Ac<|n_K<|Aa fun ops=>oM rfl ?_
    refine A6 rfl ((Yj (Kn hi _)).to rfl (by rw [A2m,show Bl 8 8=8 from rfl,Aif,Adx s.list c33])) sP rfl aQ ?_
    refine Ac<|Az<|n_K<|Aa fun ops=> ?_
    refine oR (Ao rfl rfl (by omega)) ?_
    refine oM rfl<|Ac<|n_K ?_
    exact ⟨i+1,(by omega),(by omega),lZ⟩
   ·simp at c33
    refine Bb<|x_K<|x_K<|Bj<|n_K<|Ad<|Aa fun ops=>oM rfl<|oA rfl<|oA rfl<|Ac<|n_K<|An ?_
    exact Av (Bz Tryz.results47 (Ag rfl) (Ag rfl)) (by unfold Amg;rw [A25 (by rw [Ov,hall,c16];rfl)];exact ⟨b21,b19,rfl,rfl⟩) (by rw [show ((N:Int)).toNat=N from rfl,Aq5];rw [show i=N by omega];exact sP)
end
section
open Go.K
instance und23:Und Tryz.prog 23 (.slice 5):=⟨Tryz.underlying23⟩
instance agg23:Agg Tryz.prog 23 false:=⟨⟨_,Tryz.underlying23,rfl⟩⟩
instance siz23:Siz Tryz.prog 23 1:=⟨by kernel_rfl⟩
instance und29:Und Tryz.prog 29 (.int .u64):=⟨Tryz.underlying29⟩
instance agg29:Agg Tryz.prog 29 false:=⟨⟨_,Tryz.underlying29,rfl⟩⟩
instance siz29:Siz Tryz.prog 29 1:=⟨by kernel_rfl⟩
instance und294:Und Tryz.prog 294 (.slice 29):=⟨Tryz.underlying294⟩
instance zer5:Zer Tryz.prog 5 ([.int .u8 0]):=⟨by kernel_rfl⟩
instance zer223:Zer Tryz.prog 223 ([.slice none 0 0,.bool false]):=⟨by kernel_rfl⟩
instance fld223_0:Fld Tryz.prog 223 0 0:=⟨⟨_,_,0,Tryz.underlying223,rfl,by kernel_rfl,rfl⟩⟩
instance fld223_1:Fld Tryz.prog 223 1 1:=⟨⟨_,_,0,Tryz.underlying223,rfl,by kernel_rfl,rfl⟩⟩
instance plc223:Plc Tryz.prog 223 [(0,1),(1,1)]:=⟨⟨_,Tryz.underlying223,fun _=>by kernel_rfl⟩⟩
instance byt5:Byt Tryz.prog 5 1:=⟨by kernel_rfl⟩
instance ent56:Ent Tryz.prog 56:=⟨fun _ _=>by kernel_rfl⟩
instance ent96:Ent Tryz.prog 96:=⟨fun _ _=>by kernel_rfl⟩
instance ent102:Ent Tryz.prog 102:=⟨fun _ _=>by kernel_rfl⟩
instance ent103:Ent Tryz.prog 103:=⟨fun _ _=>by kernel_rfl⟩
instance ent104:Ent Tryz.prog 104:=⟨fun _ _=>by kernel_rfl⟩
instance ent105:Ent Tryz.prog 105:=⟨fun _ _=>by kernel_rfl⟩
instance ent138:Ent Tryz.prog 138:=⟨fun _ _=>by kernel_rfl⟩
instance ent191:Ent Tryz.prog 191:=⟨fun _ _=>by kernel_rfl⟩
instance ent196:Ent Tryz.prog 196:=⟨fun _ _=>by kernel_rfl⟩
abbrev tU8:TypeId:=5
abbrev Amm:TypeId:=29
abbrev tSB:TypeId:=23
theorem Abj {n:Int}:Does Tryz.prog 138 [.int .i64 n] [] (Is (.int .i64 (Bl n 8:Nat)) []):=by
 refine Ah (n:=6) Tryz.func138 Tryz.ntmps138 rfl (Ay9 rfl)<|Ad<|Aa fun ops=>oA rfl<|Ac<|n_K<|Ad<|Aa fun ops=>oM rfl<|oR (Ln rfl rfl)<|oR (X8 rfl rfl)<|oA rfl<|Ac<|n_K ?_
 refine An ?_
 refine Aq (At Tryz.results138 (Ag rfl)) ?_ sP
 exact A20 (Value.int .i64) (by unfold Bl;omega)
theorem Gu {α:Type} [Cel α] {T:TypeId} {L:Hp}:L=(Sl.nil:Sl α).hp T++L:=by rw [Sl.hp_nil];rfl
theorem Hr {n:Int} {x:Wd}:Does Tryz.prog 96 [.int .i64 n,wv x] [] (fun v H=>∃ s:Sl By,v=s.val∧H=(s.hp tU8++[])∧s.list=Co (Bl n 8) x∧s.isOwn=true):=by
 refine Ah (n:=18) Tryz.func96 Tryz.ntmps96 rfl (Ay9 rfl)<|Ad<|Aa fun ops=>oA rfl<|Ac<|n_K<|Ad<|Ad<|Aa fun ops=>oM rfl ?_
 refine A6 rfl (Abj) sP rfl aQ ?_
 refine oM rfl<|Ac<|n_K<|Ak ?_
 have hk:Bl n 8≤8:=by unfold Bl;omega
 generalize Bl n 8=k at hk ⊢
 refine Im (Gu (α:=By) (T:=tU8)) ?_
 refine A8 [6] kQ (fun (st:Nat×Sl By)=>[(7,.int .i64 st.1),(4,st.2.val),(1,wv (Lu x st.1))]) (fun (st:Nat×Sl By)=>(st.2.hp tU8++[])) (fun (st:Nat×Sl By)=>st.1≤k∧st.2.list=Co st.1 x∧st.2.isOwn=true) (fun (st:Nat×Sl By)=>k - st.1) ((0,Sl.nil)) ⟨A2r _,rfl,rfl⟩ kP sP ?_
 rintro ⟨i,s⟩ ⟨h0,h1,h2⟩
 have hl:s.list.length=i:=by rw [h1,Bo]
 simp only at h0
 refine Ad<|Aa fun ops=>oR (Ae rfl rfl rfl)<|Ac<|n_K<|Ad ?_
 refine Aj rfl (fun c8=> ?_) (fun c8=> ?_)
 ·try simp at c8
  refine Ai<|n_K<|Ad<|Ak<|Ad<|Aa fun ops=>oM rfl<|oM rfl ?_
  refine oR (show Rd _ _ _ _ (bv ((Lu x i).setWidth 8)) from by (unfold bv;rw [← Aq6];exact C4 rfl)) ?_
  refine A5 rfl rfl rfl rfl fun b12=> ?_
  refine Bp (s:=s) (new:=[(Lu x i).setWidth 8]) (m:=1) rfl rfl pL h2 (Cv (r:=true) mM rfl) rfl rfl rfl rfl (by omega) rfl fun s' hs1 hs2=> ?_
  refine oA rfl<|Ac<|n_K<|Aa fun ops=>oM rfl ?_
  refine oR (show Rd _ _ _ _ (wv (Lu x (i+1))) from by (unfold wv;exact Aq7 rfl rfl)) ?_
  refine oA rfl<|Ac<|Az<|n_K<|Aa fun ops=> ?_
  refine oR (Ao rfl rfl (by omega)) ?_
  refine oM rfl<|Ac<|n_K ?_
  exact ⟨(i+1,s'),⟨by simp only;omega,by rw [hs1,h1,Aim],hs2⟩,(by simp only;omega),lZ⟩
 ·try simp at c8
  refine Bb<|x_K<|x_K<|Bj<|n_K<|Ad<|Aa fun ops=>oM rfl<|oA rfl<|Ac<|n_K<|An ?_
  exact Av (At Tryz.results96 (Ag rfl)) (by exact ⟨s,rfl,rfl,by rw [h1,show i=k by omega],h2⟩) sP
theorem Arc {n:Int} {xs:Sl Wd} {T:TypeId} (hx:xs.list.length≤1000000):Does Tryz.prog 196 [.int .i64 n,xs.val] (xs.hp T++[]) (fun v H=>∃ s:Sl By,v=s.val∧H=(s.hp tU8++(xs.hp T++[]))∧s.list=K0 (Bl n 8) xs.list∧s.isOwn=true):=by
 refine Ah (n:=20) Tryz.func196 Tryz.ntmps196 rfl (Ay9 rfl)<|Ad<|Aa fun ops=>oA rfl<|Ac<|n_K<|Ad<|Ad<|Aa fun ops=>oM rfl<|oR (A7 rfl)<|oM rfl<|Ac<|n_K ?_
 refine Ak ?_
 have hk:Bl n 8≤8:=by unfold Bl;omega
 refine Im (Gu (α:=By) (T:=tU8)) ?_
 refine A8 [0,7,8] kQ (fun (st:Nat×Sl By)=>[(9,.int .i64 st.1),(4,st.2.val)]) (fun (st:Nat×Sl By)=>(st.2.hp tU8++(xs.hp T++[]))) (fun (st:Nat×Sl By)=>st.1≤xs.list.length∧st.2.list=K0 (Bl n 8) (xs.list.take st.1)∧st.2.isOwn=true) (fun (st:Nat×Sl By)=>xs.list.length - st.1) ((0,Sl.nil)) ⟨A2r _,by simp [K0,Sl.list],rfl⟩ kP sP ?_
 rintro ⟨i,s⟩ ⟨h0,h1,h2⟩
 simp only at h0
 refine Ad<|Aa fun ops=>oR (Ae rfl rfl rfl)<|Ac<|n_K<|Ad ?_
 refine Aj rfl (fun c10=> ?_) (fun c10=> ?_)
 ·simp at c10
  obtain ⟨x,hg⟩:∃ x,xs.list[i]? =some x:=⟨_,Ayw c10⟩
  have hl:s.list.length≤8000000:=by (rw [h1,Qj];have:=Nat.mul_le_mul (show (xs.list.take i).length≤1000000 by (rw [A0v];omega)) hk;omega)
  refine Ai<|n_K<|Ad<|Ak<|Ad<|Aa fun ops=> ?_
  refine oR (Bk rfl rfl (by omega)) ?_
  refine oR (C0 (o:=0) (v:=wv x) rfl pL hg rfl rfl) ?_
  refine oA rfl<|Ac<|n_K<|Aa fun ops=>oM rfl<|oM rfl<|oM rfl ?_
  refine Bd rfl (Hr) sP rfl fun v16 Y16 h16=> ?_
  obtain ⟨s16,rfl,rfl,hs16,ho16⟩:=h16
  refine Ay aQ ?_
  refine Bp (s:=s) (new:=s16.list) (m:=s16.list.length) rfl rfl pL h2 (M5 pL) rfl rfl rfl rfl (by rw [hs16,Bo];omega) rfl fun s' hs1 hs2=> ?_
  refine oA rfl<|Ac<|Az<|n_K<|Aa fun ops=> ?_
  refine oR (Ao rfl rfl (by omega)) ?_
  refine oM rfl<|Ac<|n_K ?_
  exact ⟨(i+1,s'),⟨by simp only;omega,by rw [hs1,h1,hs16,Ad1 hg],hs2⟩,(by simp only;omega),lZ⟩
 ·simp at c10
  refine Bb<|x_K<|x_K<|Bj<|n_K<|Ad<|Aa fun ops=>oM rfl<|oA rfl<|Ac<|n_K<|An ?_
  exact Av (At Tryz.results196 (Ag rfl)) (by exact ⟨s,rfl,rfl,by rw [h1,show i=xs.list.length by omega,A0w],h2⟩) sP
abbrev mt (α:Type) [Cel α] (b:Nat):Sl α:= .own b [] 0 [] ⟨by simp,A2q _,A2r _⟩
theorem Amn {α:Type} [Cel α] {b:Nat} {T:TypeId} {L:Hp}:((b,true,C [] T)::L)=(mt α b).hp T++L:=by rw [Sl.hp_own];rfl
theorem O0 {s:Sl By} {T:TypeId} (hs:s.list.length≤70000000000000):Does Tryz.prog 56 [s.val] (s.hp T++[]) (fun v H=>∃ s':Sl By,v=s'.val∧H=(s'.hp tU8++(s.hp T++[]))∧s'.list=s.list∧s'.isOwn=true):=by
 refine Ah (n:=8) Tryz.func56 Tryz.ntmps56 rfl (Ay9 rfl)<|Ad<|Aa fun ops=>oA rfl<|Ac<|n_K<|Ad<|Ad<|Aa fun ops=>oM rfl<|oR (V9 rfl rfl)<|Ac<|n_K ?_
 refine Aj rfl (fun c4=> ?_) (fun c4=> ?_)
 ·skip
  have hn:=Sl.nil_of s c4
  subst hn
  refine Ad<|Aa fun ops=>oA rfl<|Ac<|n_K<|An<|r_K ?_
  exact Av (At Tryz.results56 (Ag rfl)) (by refine ⟨Sl.nil,rfl,rfl,rfl,rfl⟩) (by simp only [Sl.hp_nil,A1k];exact Split.nil)
 ·skip
  refine Ai<|n_K<|Ad<|Aa fun ops=> ?_
  refine A5 rfl rfl rfl rfl fun b5=> ?_
  refine Q5 (Amn (α:=By) (b:=b5) (T:=tU8)) ?_
  refine oM rfl ?_
  refine Bp (s:=mt By b5) (new:=s.list) (m:=s.list.length) rfl rfl pL rfl (M5 pL) rfl rfl rfl rfl (by rw [show (mt By b5).list.length=0 from rfl];omega) rfl fun s' hs1 hs2=> ?_
  refine oA rfl<|Ac<|n_K<|An ?_
  exact Av (At Tryz.results56 (Ag rfl)) (by exact ⟨s',rfl,rfl,by rw [hs1];rfl,hs2⟩) sP
abbrev tRd:TypeId:=223
structure Rdr where
 b:Nat
 sl:Sl By
 bad:Bool
@[irreducible] def rdH (r:Rdr):Hp:=(r.b,true,C [r.sl.val,.bool r.bad] tRd)::(r.sl.hp tU8++[])
theorem Qk (r:Rdr):rdH r=(r.b,true,C [r.sl.val,.bool r.bad] tRd)::(r.sl.hp tU8++[]):=by unfold rdH;rfl
theorem Fe {s:Sl By} {T:TypeId} (hs:s.list.length≤70000000000000):Does Tryz.prog 102 [s.val] (s.hp T++[]) (fun v H=>∃ r:Rdr,v=ptr r.b∧H=rdH r++(s.hp T++[])∧r.sl.list=s.list∧r.bad=false):=by
 refine Ah (n:=7) Tryz.func102 Tryz.ntmps102 rfl (Ay9 rfl)<|Ad<|Aa fun ops=>oA rfl<|Ac<|n_K<|Ad<|Aa fun ops=>oM rfl ?_
 refine Bd rfl (O0 hs) sP rfl fun v4 Y4 h4=> ?_
 obtain ⟨s4,rfl,rfl,hs4,ho4⟩:=h4
 refine Ay aQ ?_
 refine oR (Bc rfl rfl) ?_
 refine De rfl rfl fun b6=> ?_
 refine oA rfl<|Ac<|n_K<|An ?_
 exact Av (At Tryz.results102 (Ag rfl)) (by exact ⟨⟨b6,s4,false⟩,rfl,rfl,hs4,rfl⟩) (by rw [Qk];simp only [A02,A0j,A1k];exact sP)
theorem Se {r:Rdr}:Does Tryz.prog 105 [ptr r.b] (rdH r) (Is (.int .i64 r.sl.list.length) (rdH r)):=by
 rw [Qk]
 refine Ah (n:=8) Tryz.func105 Tryz.ntmps105 rfl (Ay9 rfl)<|Ad<|Aa fun ops=>oA rfl<|Ac<|n_K<|Ad<|Aa fun ops=>oM rfl<|oN rfl<|oF rfl ?_
 refine oR (Al rfl mM rfl) ?_
 refine oR (A7 rfl)<|oA rfl<|Ac<|n_K<|An ?_
 refine Aq (At Tryz.results105 (Ag rfl)) ?_ sP
 rfl
theorem Afz {r:Rdr}:Does Tryz.prog 191 [ptr r.b] (rdH r) (Is (.bool r.bad) (rdH r)):=by
 rw [Qk]
 refine Ah (n:=7) Tryz.func191 Tryz.ntmps191 rfl (Ay9 rfl)<|Ad<|Aa fun ops=>oA rfl<|Ac<|n_K<|Ad<|Aa fun ops=>oM rfl<|oN rfl<|oF rfl ?_
 refine oR (Al rfl mM rfl) ?_
 refine oA rfl<|Ac<|n_K<|An ?_
 refine Aq (At Tryz.results191 (Ag rfl)) ?_ sP
 rfl
theorem Ad5 {s:Sl By} {k:Nat} {T:TypeId} (hs:s.list.length≤70000000000000):Does Tryz.prog 56 [(s.take k T).val] (s.hp T++[]) (fun v H=>∃ s':Sl By,v=s'.val∧H=(s'.hp tU8++(s.hp T++[]))∧s'.list=s.list.take k∧s'.isOwn=true):=by
 have:=O0 (s:=s.take k T) (T:=T) (by rw [Sl.take_list,A0v];omega)
 rwa [Sl.take_hp,Sl.take_list] at this
theorem Jx {r:Rdr} {n:Int} (hs:r.sl.list.length≤70000000000000):Does Tryz.prog 104 [ptr r.b,.int .i64 n] (rdH r) (fun v H=>∃ (s sl:Sl By) (bad:Bool),v=s.val∧H=s.hp tU8++(rdH ⟨r.b,sl,bad⟩++[])∧s.isOwn=true ∧
   s.list=(C9 (max n 0).toNat r.sl.list r.bad).1∧sl.list=(C9 (max n 0).toNat r.sl.list r.bad).2.1∧bad=(C9 (max n 0).toNat r.sl.list r.bad).2.2):=by
 rw [Qk]
 refine Ah (n:=37) Tryz.func104 Tryz.ntmps104 rfl (Ay9 rfl)<|Ad<|Aa fun ops=>oA rfl<|Ac<|n_K<|Ad<|Aa fun ops=>oM rfl<|oR (Ln rfl rfl)<|oA rfl<|Ac<|n_K<|Ad ?_
 refine Ad<|Aa fun ops=>oM rfl<|oM rfl<|oN rfl<|oF rfl ?_
 refine oR (Al rfl mM rfl) ?_
 refine oR (A7 rfl)<|oR (Ae rfl rfl rfl)<|Ac<|n_K ?_
 refine Aj rfl (fun c13=> ?_) (fun c13=> ?_)
 ·simp at c13
  refine Ad<|Aa fun ops=>oM rfl<|oM rfl<|oN rfl<|oF rfl ?_
  refine Af rfl rfl uD rfl rfl rfl ?_
  refine oN rfl<|oF rfl ?_
  refine Af rfl rfl uD rfl rfl rfl ?_
  refine Ac<|n_K<|Ad<|Aa fun ops=>oA rfl<|Ac<|n_K<|An<|r_K ?_
  exact Av (At Tryz.results104 (Ag rfl)) (by refine ⟨Sl.nil,Sl.nil,true,rfl,rfl,rfl,?_⟩;unfold C9;rw [A25 (by omega)];exact ⟨rfl,rfl,rfl⟩) (by rw [Qk,Sl.hp_nil];exact sP)
 ·simp at c13
  refine Ai<|n_K<|Ad ?_
  refine s_draw [] [(15,[(0,false),(1,false),(2,false),(3,false),(4,false),(5,false),(6,false),(8,false),(9,false),(10,false),(11,false),(12,false),(13,false),(7,true),(14,false)]),(17,[(15,false),(16,false)]),(18,[(17,true)])] (by kernel_rfl) rfl fun ops w0 H0 y=> ?_
  refine A4<|xM rfl<|xM rfl<|xN rfl<|xF rfl ?_
  refine xR (Al rfl mM rfl) ?_
  refine xM rfl ?_
  refine xR (Ahp tU8 rfl rfl (by omega)) ?_
  refine xM rfl<|xN rfl<|xF rfl ?_
  refine xR (Al rfl mM rfl) ?_
  refine xM rfl ?_
  refine xR (Vs tU8 rfl rfl (by omega) rfl) ?_
  refine Be ?_
  refine Bd rfl (Ad5 hs) sP rfl fun v27 Y27 h27=> ?_
  obtain ⟨s27,rfl,rfl,hs27,ho27⟩:=h27
  refine Ay aQ ?_
  refine Ac ⟨rfl,⟨_,sP⟩,?_⟩
  refine xA rfl<|Am<|A4<|xN rfl<|xF rfl<|Am<|Bh<|Be ?_
  refine Af rfl rfl uD rfl rfl rfl ?_
  refine Ac ⟨rfl,⟨_,sP⟩,?_⟩
  refine Am<|Bm<|n_K<|Ad<|Aa fun ops=>oM rfl<|oA rfl<|Ac<|n_K<|An ?_
  exact Av (At Tryz.results104 (Ag rfl)) (by refine ⟨s27,r.sl.drop (max n 0).toNat tU8,r.bad,rfl,rfl,ho27,?_⟩;unfold C9;rw [A26 (by omega)];exact ⟨hs27,Sl.drop_list ..,rfl⟩) (by rw [Qk];simp only [Sl.drop_hp];exact sP)
theorem Ff {r:Rdr} {n:Int} (hs:r.sl.list.length≤70000000000000):Does Tryz.prog 103 [ptr r.b,.int .i64 n] (rdH r) (fun v H=>∃ (x:Wd) (sl:Sl By) (bad:Bool),v=wv x∧H=rdH ⟨r.b,sl,bad⟩++[] ∧
   x=(C7 (Bl n 8) r.sl.list r.bad).1∧sl.list=(C7 (Bl n 8) r.sl.list r.bad).2.1∧bad=(C7 (Bl n 8) r.sl.list r.bad).2.2):=by
 have hk:Bl n 8≤8:=by unfold Bl;omega
 refine Ah (n:=26) Tryz.func103 Tryz.ntmps103 rfl (Ay9 rfl)<|Ad<|Aa fun ops=>oA rfl<|Ac<|n_K<|Ad<|Ad<|Aa fun ops=>oM rfl<|oM rfl ?_
 refine A6 rfl (Abj) sP rfl aQ ?_
 refine Bd rfl (Jx hs) sP rfl fun v10 Y10 h10=> ?_
 obtain ⟨s10,sl10,bad10,rfl,rfl,ho10,hs10,hl10,hb10⟩:=h10
 refine Ay aQ ?_
 refine oR (A7 rfl)<|oM rfl<|Ac<|n_K<|Ak ?_
 have hmx:(max ((Bl n 8:Nat):Int) 0).toNat=Bl n 8:=by omega
 rw [hmx] at hs10 hl10 hb10
 have hl8:s10.list.length≤8:=by (rw [hs10];unfold C9;split;simp;simp;omega)
 refine D7 [10,11] kQ (fun (i:Nat)=>[(12,.int .i64 i),(4,wv (D9 s10.list i))]) (fun (i:Nat)=>i≤s10.list.length) (fun (i:Nat)=>s10.list.length - i) ((0:Nat)) (A2r _) kP ?_
 rintro i h0
 refine Ad<|Aa fun ops=>oR (Ae rfl rfl rfl)<|Ac<|n_K<|Ad ?_
 refine Aj rfl (fun c13=> ?_) (fun c13=> ?_)
 ·simp at c13
  obtain ⟨y,hg⟩:∃ y,s10.list[i]? =some y:=⟨_,Ayw c13⟩
  refine Ai<|n_K<|Ad<|Ak<|Ad<|Aa fun ops=>oM rfl ?_
  refine oR (Bk rfl rfl (by omega)) ?_
  refine oR (C0 (o:=0) (v:=bv y) rfl pL hg rfl rfl) ?_
  refine oA rfl<|oA rfl<|Ac<|n_K<|Aa fun ops=>oM rfl<|oM rfl<|oR (Arb rfl)<|oM rfl ?_
  refine oR (To rfl rfl (by omega)) ?_
  refine oR (show Rd _ _ _ _ (wv (y.setWidth 64 <<< (8*i))) from Amh rfl rfl (by omega) (by omega)) ?_
  refine Aap (show Rd _ _ _ _ (wv (D9 s10.list (i+1))) from by (rw [T6,Ayg,hg,A0t];unfold wv;rw [show (((D9 s10.list i ||| (y.setWidth 64 <<< (8*i))).toNat:Nat):Int)=_ from (Qi .or .u64 rfl _ _).symm];exact Ae rfl rfl rfl)) rfl ?_
  refine oA rfl<|Ac<|Az<|n_K<|Aa fun ops=> ?_
  refine oR (Ao rfl rfl (by omega)) ?_
  refine oM rfl<|Ac<|n_K ?_
  exact ⟨i+1,(by first | omega | trivial | (refine ⟨?_,?_⟩ <;> omega)),(by omega),lZ⟩
 ·simp at c13
  refine Bb<|x_K<|x_K<|Bj<|n_K<|Ad<|Aa fun ops=>oM rfl<|oA rfl<|Ac<|n_K<|An ?_
  exact Av (At Tryz.results103 (Ag rfl)) (by refine ⟨D9 s10.list i,sl10,bad10,rfl,rfl,?_⟩;rw [hl10,hb10];unfold C9 at hs10 ⊢;unfold C7;split at hs10 <;> rename_i hc;(rw [A25 hc,A25 hc];refine ⟨?_,rfl,rfl⟩;rw [show i=0 by (rw [hs10] at h0;simpa using h0)];rfl);(rw [A26 hc,A26 hc];refine ⟨?_,rfl,rfl⟩;rw [show i=s10.list.length by omega,hs10];simp only;rw [A0v,A1l (by omega)])) sP
end
section
open Go.K
instance und55:Und Tryz.prog 55 (.int .u32):=⟨Tryz.underlying55⟩
instance agg55:Agg Tryz.prog 55 false:=⟨⟨_,Tryz.underlying55,rfl⟩⟩
instance siz55:Siz Tryz.prog 55 1:=⟨by kernel_rfl⟩
instance und194:Und Tryz.prog 194 (.slice 23):=⟨Tryz.underlying194⟩
instance ent93:Ent Tryz.prog 93:=⟨fun _ _=>by kernel_rfl⟩
instance ent95:Ent Tryz.prog 95:=⟨fun _ _=>by kernel_rfl⟩
instance ent113:Ent Tryz.prog 113:=⟨fun _ _=>by kernel_rfl⟩
instance ent155:Ent Tryz.prog 155:=⟨fun _ _=>by kernel_rfl⟩
@[irreducible] def Dh (l:List (Sl By)):Hp:=l.flatMap (·.hp tU8)
theorem Ha:Dh []=[]:=by unfold Dh;rfl
theorem Cz (s:Sl By) (l:List (Sl By)):Dh (s::l)=s.hp tU8++Dh l:=by unfold Dh;rfl
theorem Wq:∀ {l:List (Sl By)} {i:Nat} {s:Sl By},l[i]? =some s→Sub (s.hp tU8) (Dh l)
 | [],_,_,h=>by simp at h
 | x::l,0,s,h=>by
  simp at h;subst h
  rw [Cz];exact fun y hy=>Azo _ hy
 | x::l,i+1,s,h=>by
  have:=Wq (l:=l) (i:=i) (s:=s) (by simpa using h)
  rw [Cz];exact fun y hy=>Aza _ (this y hy)
theorem Sf {q:Hp} {l:List (Sl By)} {i:Nat} {s:Sl By} {A B:Hp} (h:l[i]? =some s) (hp:PickL (Dh l) A B):Sub (s.hp tU8) A:=(Wq h).trans hp.toSub
instance mnz:Mnz Tryz.prog 195 23:=⟨_,#[3],Tryz.func195,by kernel_rfl,rfl,by kernel_rfl,by kernel_rfl⟩
theorem Amo {P:Program} {E:Env} {H:Hp} {t e:TypeId} {x lo:Operand} {b l i:Nat} [ht:Und P t (.slice e)] [hz:Siz P e 1] (hx:ev E x=some (.slice (some ⟨b,0,none⟩) l l)) (hlo:ev E lo=some (.int .i64 (i:Int))) (hb:i≤l) :
  Rd P E H (.slice t x (some lo) none none) (.slice (some ⟨b,if l=i then 0 else i,none⟩) (l - i) (l - i)):=by
 have:=M8 (P:=P) (H:=H) (t:=t) (e:=e) (sz:=1) hx hlo (by omega)
 by_cases h:l=i
 ·simpa [h] using this
 ·simpa [h,Dx] using this
theorem Ard {P:Program} {E:Env} {H:Hp} {t u:TypeId} {x y:Operand} {i:Int} (hx:ev E x=some (.int .i64 i)) (hy:ev E y=some (.int .i64 ((0:Nat):Int))) (hb: -9223372036854775808≤i∧i≤9223372036854775807):Rd P E H (.binOp .add t x y u) (.int .i64 i):=by
 have:=Ao (P:=P) (H:=H) (t:=t) (u:=u) hx hy (by omega)
 rwa [show i+((0:Nat):Int)=i by omega] at this
theorem Aip {b:Nat} {cs:List Value} {xs:List By} {L:Hp} {q:List (Sl By)} (hx:xs=Bq q) (hn:(Bq q).length≤cs.length) (hb:(Bq q).length≤70000000000000) :
  ∃ s:Sl By,Value.slice (some ⟨b,0,none⟩) (Bq q).length (Bq q).length=s.val∧((b,true,C (Yr cs xs) tU8)::L)=s.hp tU8++L∧s.list=Bq q∧s.isOwn=true:=by
 subst hx
 refine ⟨.own b (Bq q) (Bq q).length (cs.drop (Bq q).length) ⟨by simp,A2q _,by omega⟩,rfl,?_,rfl,rfl⟩
 rw [Sl.hp_own]
 rfl
theorem Are {q:Sl (Sl By)} (hl:(Bq q.list).length≤70000000000000):Does Tryz.prog 155 [q.val,.slice none 0 0] (q.hp tSB++(Dh q.list++[])) (fun v H=>∃ s:Sl By,v=s.val∧H=s.hp tU8++(q.hp tSB++(Dh q.list++[]))∧s.list=Bq q.list∧s.isOwn=true):=by
 have hsm:=q.small
 refine Ah (n:=92) Tryz.func155 Tryz.ntmps155 rfl (Ay9 rfl)<|Ad<|Aa fun ops=>oA rfl<|Ac<|n_K<|Ad<|Ad<|Aa fun ops=>oM rfl<|oR (A7 rfl)<|oR (Ae rfl rfl rfl)<|Ac<|n_K ?_
 refine Aj rfl (fun c14=> ?_) (fun c14=> ?_)
 ·simp only [A0d,Ayz] at c14
  refine Ad<|Aa fun ops=> ?_
  refine A5 rfl rfl rfl rfl fun b15=> ?_
  refine Q5 (Amn (α:=By) (b:=b15) (T:=tU8)) ?_
  refine oA rfl<|Ac<|n_K<|An<|r_K ?_
  exact Av (At Tryz.results155 (Ag rfl)) (by refine ⟨mt By b15,rfl,rfl,?_,rfl⟩;rw [Ay0.1 (show q.list.length=0 by omega)];rfl) sP
 ·simp only [A0d,Ayz] at c14
  refine Ai<|n_K<|Ad<|Ad<|Aa fun ops=>oM rfl<|oR (A7 rfl)<|oR (Ae rfl rfl rfl)<|Ac<|n_K ?_
  refine Aj rfl (fun c18=> ?_) (fun c18=> ?_)
  ·simp only [A0d,Ayz] at c18
   obtain ⟨s,hs⟩:∃ s,q.list=[s]:=List.length_eq_one_iff.1 (by omega)
   have hg:q.list[0]? =some s:=by (rw [hs];rfl)
   have hjl:Bq q.list=s.list:=by (rw [hs];simp [Bq])
   refine Ad<|Aa fun ops=>oM rfl ?_
   refine oR (Bk rfl rfl (by omega)) ?_
   refine oR (C0 (o:=0) (i:=0) (v:=s.val) rfl pL hg rfl rfl) ?_
   refine Q5 (Gu (α:=By) (T:=tU8)) ?_
   refine Bp (s:=(Sl.nil:Sl By)) (new:=s.list) (m:=s.list.length) rfl rfl pL rfl (R4 (Sf (q:=[]) hg pL)) rfl rfl rfl rfl (by rw [show (Sl.nil:Sl By).list.length=0 from rfl,← hjl];omega) rfl fun s' hs1 hs2=> ?_
   refine oA rfl<|Ac<|n_K<|An<|r_K ?_
   exact Av (At Tryz.results155 (Ag rfl)) (by refine ⟨s',rfl,rfl,?_,hs2⟩;rw [hs1,hjl];rfl) sP
  ·simp only [A0d,Ayz] at c18
   have hne:0<q.list.length:=by omega
   refine Ai<|n_K<|Ad<|Aa fun ops=>oA rfl<|Ac<|n_K<|Ad<|Ad<|Aa fun ops=>oM rfl<|oR (A7 rfl)<|oR (Ae rfl rfl rfl)<|Ac ?_
   refine n_K ?_
   refine Bi rfl ?_
   refine Ai<|n_K<|Ad<|Ad<|Aa fun ops=>oM rfl<|oR (A7 rfl)<|oM rfl<|Ac<|n_K<|Ak ?_
   refine D7 [0,1,42,43] kQ (fun (i:Nat)=>[(44,.int .i64 i),(5,.int .i64 (Bq (q.list.take i)).length)]) (fun (i:Nat)=>i≤q.list.length) (fun (i:Nat)=>q.list.length - i) ((0:Nat)) (A2r _) kP ?_
   rintro i h0
   have hle:=Oz q.list i
   refine Ad<|Aa fun ops=>oR (Ae rfl rfl rfl)<|Ac<|n_K<|Ad ?_
   refine Aj rfl (fun c45=> ?_) (fun c45=> ?_)
   ·simp at c45
    obtain ⟨s,hg⟩:∃ s,q.list[i]? =some s:=⟨_,Ayw c45⟩
    have hst:=Ni hg
    have hle2:=Oz q.list (i+1)
    rw [hst,Azz] at hle2
    refine Ai<|n_K<|Ad<|Ak<|Ad<|Aa fun ops=> ?_
    refine oR (Bk rfl rfl (by omega)) ?_
    refine oR (C0 (o:=0) (v:=s.val) rfl pL hg rfl rfl) ?_
    refine oA rfl<|Ac<|n_K<|Ad<|Ad<|Aa fun ops=>oM rfl<|oR (A7 rfl)<|oM rfl ?_
    refine oR (Cy rfl rfl (by omega)) ?_
    refine oR (Ae rfl rfl rfl)<|Ac<|n_K ?_
    refine Aj rfl (fun c52=> ?_) (fun c52=> ?_)
    ·simp at c52
     omega
    ·simp at c52
     refine Ai<|n_K<|Aa fun ops=>oM rfl<|oM rfl<|oR (A7 rfl) ?_
     refine oR (show Rd _ _ _ _ (.int .i64 (Bq (q.list.take (i+1))).length) from by (rw [hst,Azz];push_cast;exact Ao rfl rfl (by omega))) ?_
     refine oA rfl<|Ac<|Az<|n_K<|Aa fun ops=> ?_
     refine oR (Ao rfl rfl (by omega)) ?_
     refine oM rfl<|Ac<|n_K ?_
     exact ⟨i+1,(by first | omega | trivial | (refine ⟨?_,?_⟩ <;> omega)),(by omega),lZ⟩
   ·simp at c45
    have hall:Bq (q.list.take i)=Bq q.list:=by rw [Ay4 (by omega)]
    rw [hall]
    refine Bb<|x_K<|x_K<|Bj<|n_K<|Ad<|Aa fun ops=>oM rfl ?_
    refine Avu (m:=(Bq q.list).length) rfl (by omega) rfl fun b60 cs hcs=> ?_
    refine oM rfl<|oM rfl ?_
    refine oR (Ahq rfl rfl rfl (by omega)) ?_
    refine oA rfl<|Ac<|n_K<|Ad<|Aa fun ops=>oM rfl<|oM rfl ?_
    refine oR (Bk rfl rfl (by omega)) ?_
    refine Aap (C0 (o:=0) (i:=0) (v:=(q.list[0]'hne).val) rfl pL (Ayw hne) rfl rfl) rfl ?_
    have hb0:Yr cs []=cs:=(by simp [Yr,cells])
    have hg0:q.list[0]? =some (q.list[0]'hne):=Ayw hne
    have hst0:=Ni hg0
    rw [show Bq (q.list.take 0)=[] from rfl,A1k] at hst0
    have hle0:=Oz q.list (0+1)
    rw [hst0] at hle0
    have hsp0:=Abh (cs:=cs) (xs:=[]) (ys:=(q.list[0]'hne).list) (o:=0) (by rw [A1p,A2g];omega) (.inr rfl)
    rw [hb0,A1k] at hsp0
    refine G5 rfl rfl (R4 (Sf (q:=[]) hg0 pL)) (by omega) uD hsp0 (Gg _) rfl ?_
    refine oA rfl<|Ac<|n_K<|Ad<|Ad<|Aa fun ops=>oM rfl ?_
    refine oR (show Rd _ _ _ _ (q.drop 1 tSB).val from Vs (i:=1) tSB rfl rfl (by omega) rfl) ?_
    refine oR (A7 rfl)<|oM rfl<|Ac<|n_K<|Ak ?_
    have hdl:(q.drop 1 tSB).list.length=q.list.length - 1:=by rw [Sl.drop_list,A03]
    rw [← hst0]
    refine A8 [1,8,70,71] kQ (fun (j:Nat)=>[(72,.int .i64 j),(9,.int .i64 (Bq (q.list.take (j+1))).length)]) (fun (j:Nat)=>(b60,true,C (Yr cs (Bq (q.list.take (j+1)))) tU8)::(q.hp tSB++(Dh q.list++[]))) (fun (j:Nat)=>j+1≤q.list.length) (fun (j:Nat)=>q.list.length - j) ((0:Nat)) (by omega) kP sP ?_
    rintro j h1
    refine Ad<|Aa fun ops=>oR (Ae rfl rfl rfl)<|Ac<|n_K<|Ad ?_
    refine Aj rfl (fun c73=> ?_) (fun c73=> ?_)
    ·simp only [A0d,Ayz] at c73
     have hj:j+1<q.list.length:=by omega
     obtain ⟨s,hg⟩:∃ s,q.list[j+1]? =some s:=⟨_,Ayw hj⟩
     have hg':(q.drop 1 tSB).list[j]? =some s:=(by rw [Sl.drop_list,Az4,A2k 1 j];exact hg)
     have hst:=Ni hg
     have hle1:=Oz q.list (j+1+1)
     rw [hst,Azz] at hle1
     have hb1:=Abh (cs:=cs) (xs:=Bq (q.list.take (j+1))) (ys:=s.list) (o:=if (Bq q.list).length=(Bq (q.list.take (j+1))).length then 0 else (Bq (q.list.take (j+1))).length) (by omega) (by split;(left;exact ⟨Ay0.1 (by omega),rfl⟩);(right;rfl))
     rw [← hst] at hb1
     refine Ai<|n_K<|Ad<|Ak<|Ad<|Aa fun ops=> ?_
     refine oR (Bk rfl rfl (by omega)) ?_
     refine oR (Aak (o:=0) (v:=s.val) rfl (by rw [Sl.drop_hp];exact PickL.toSub pL) hg' rfl rfl) ?_
     refine oA rfl<|Ac<|n_K<|Ad<|Aa fun ops=>oM rfl<|oM rfl<|oM rfl ?_
     refine oR (M8 rfl rfl (by omega)) ?_
     refine oM rfl ?_
     refine Adl rfl rfl rfl ?_
     refine oR (show Rd _ _ _ _ (.int .i64 (Bq (q.list.take (j+1))).length) from Ard rfl rfl (by omega)) ?_
     refine oA rfl<|Ac<|n_K<|Aa fun ops=>oM rfl<|oM rfl<|oM rfl ?_
     refine oR (show Rd _ _ _ _ (.slice (some ⟨b60,if (Bq q.list).length=(Bq (q.list.take (j+1))).length then 0 else (Bq (q.list.take (j+1))).length,none⟩) ((Bq q.list).length - (Bq (q.list.take (j+1))).length) ((Bq q.list).length - (Bq (q.list.take (j+1))).length)) from Amo rfl rfl (by omega)) ?_
     refine oM rfl ?_
     refine G5 rfl rfl (R4 (Sf (q:=[]) hg pL)) (by omega) uD hb1 (Gg _) rfl ?_
     refine oR (show Rd _ _ _ _ (.int .i64 (Bq (q.list.take (j+1+1))).length) from by (rw [hst,Azz];push_cast;exact Ao rfl rfl (by omega))) ?_
     refine oA rfl<|Ac<|Az<|n_K<|Aa fun ops=> ?_
     refine oR (Ao rfl rfl (by omega)) ?_
     refine oM rfl<|Ac<|n_K ?_
     exact ⟨j+1,(by first | omega | trivial | (refine ⟨?_,?_⟩ <;> omega)),(by omega),lZ⟩
    ·simp only [A0d,Ayz] at c73
     refine Bb<|x_K<|x_K<|Bj<|n_K<|Ad<|Aa fun ops=>oM rfl<|oA rfl<|Ac<|n_K<|An ?_
     exact Av (At Tryz.results155 (Ag rfl)) (by exact Aip (q:=q.list) (cs:=cs) (b:=b60) (show Bq (q.list.take (j+1))=_ from by rw [Ay4 (by omega)]) hcs hl) sP
theorem Abk {q:Sl (Sl By)} (hl:(Bq q.list).length≤70000000000000):Does Tryz.prog 113 [q.val] (q.hp tSB++(Dh q.list++[])) (fun v H=>∃ s:Sl By,v=s.val∧H=s.hp tU8++(q.hp tSB++(Dh q.list++[]))∧s.list=Bq q.list∧s.isOwn=true):=by
 refine Ah (n:=5) Tryz.func113 Tryz.ntmps113 rfl (Ay9 rfl)<|Ad<|Aa fun ops=>oA rfl<|Ac<|n_K<|Ad<|Aa fun ops=>oM rfl ?_
 refine Bd rfl (Are hl) sP rfl fun v4 Y4 h4=> ?_
 obtain ⟨s4,rfl,rfl,hs4,ho4⟩:=h4
 refine Ay aQ ?_
 refine oA rfl<|Ac<|n_K<|An ?_
 exact Av (At Tryz.results113 (Ag rfl)) (by exact ⟨s4,rfl,rfl,hs4,ho4⟩) sP
theorem Ata {c:BitVec 32} {q:Sl (Sl By)}:Does Tryz.prog 95 [uv c,q.val] (q.hp tSB++(Dh q.list++[])) (Is (uv (K3 c (q.list.map (·.list)))) (q.hp tSB++(Dh q.list++[]))):=by
 have hsm:=q.small
 refine Ah (n:=42) Tryz.func95 Tryz.ntmps95 rfl (Ay9 rfl)<|Ad<|Aa fun ops=>oA rfl<|Ac<|n_K<|Ad<|Aa fun ops=>oM rfl<|oR (T5 rfl)<|oA rfl<|Ac<|n_K<|Ad ?_
 refine Ad<|Aa fun ops=>oM rfl<|oR (A7 rfl)<|oM rfl<|Ac<|n_K<|Ak ?_
 refine D7 [12,13] kQ (fun (i:Nat)=>[(14,.int .i64 i),(5,uv (((q.list.take i).map (·.list)).foldl T8 (~~~c)))]) (fun (i:Nat)=>i≤q.list.length) (fun (i:Nat)=>q.list.length - i) ((0:Nat)) (A2r _) kP ?_
 rintro i h0
 refine Ad<|Aa fun ops=>oR (Ae rfl rfl rfl)<|Ac<|n_K<|Ad ?_
 refine Aj rfl (fun c15=> ?_) (fun c15=> ?_)
 ·simp only [A0d,Ayz] at c15
  obtain ⟨s,hg⟩:∃ s,q.list[i]? =some s:=⟨_,Ayw (by omega)⟩
  have hst:((q.list.take (i+1)).map (·.list)).foldl T8 (~~~c)=T8 (((q.list.take i).map (·.list)).foldl T8 (~~~c)) s.list:=(by rw [List.map_take,List.map_take];exact Ad3 (by rw [A0f,hg];rfl))
  have hss:=s.small
  generalize ha:((q.list.take i).map (·.list)).foldl T8 (~~~c)=a at hst ⊢
  refine Ai<|n_K<|Ad<|Ak<|Ad<|Aa fun ops=> ?_
  refine oR (Bk rfl rfl (by omega)) ?_
  refine oR (C0 (o:=0) (v:=s.val) rfl pL hg rfl rfl) ?_
  refine oA rfl<|Ac<|n_K<|Ad<|Aa fun ops=>oM rfl<|oR (A7 rfl)<|oM rfl<|Ac<|n_K<|Ak ?_
  refine D7 [12,13,14,18,19] kQ (fun (j:Nat)=>[(20,.int .i64 j),(5,uv (T8 a (s.list.take j)))]) (fun (j:Nat)=>j≤s.list.length) (fun (j:Nat)=>s.list.length - j) ((0:Nat)) (A2r _) kP ?_
  rintro j h1
  refine Ad<|Aa fun ops=>oR (Ae rfl rfl rfl)<|Ac<|n_K<|Ad ?_
  refine Aj rfl (fun c21=> ?_) (fun c21=> ?_)
  ·simp only [A0d,Ayz] at c21
   obtain ⟨y,hy⟩:∃ y,s.list[j]? =some y:=⟨_,Ayw (by omega)⟩
   have hst2:=Ain (c:=a) hy
   generalize he:T8 a (s.list.take j)=e at hst2 ⊢
   refine Ai<|n_K<|Ad<|Ak<|Ad<|Aa fun ops=> ?_
   refine oR (Bk rfl rfl (by omega)) ?_
   refine oR (Aak (o:=0) (v:=bv y) rfl (Sf (q:=[]) hg pL) hy rfl rfl) ?_
   refine oA rfl<|Ac<|n_K<|Ad<|Aa fun ops=>oM rfl<|oM rfl<|oR (Ara rfl)<|oR (Abc rfl rfl)<|oA rfl<|Ac<|n_K<|Ad<|Aa fun ops=> ?_
   refine oM rfl<|Ac<|n_K<|Ak ?_
   refine D7 [12,13,14,18,19,20] kQ (fun (k:Nat)=>[(28,.int .i64 k),(5,uv (Abg (e ^^^ y.setWidth 32) k))]) (fun (k:Nat)=>k≤8) (fun (k:Nat)=>8 - k) ((0:Nat)) (A2r _) kP ?_
   rintro k h2
   have hck:Abg (e ^^^ y.setWidth 32) (k+1)=Av7 (Abg (e ^^^ y.setWidth 32) k):=rfl
   have hk8:Auj e y=Abg (e ^^^ y.setWidth 32) 8:=rfl
   generalize hz:Abg (e ^^^ y.setWidth 32) k=z at hck ⊢
   refine Ad<|Aa fun ops=>oR (Ae rfl rfl rfl)<|Ac<|n_K<|Ad ?_
   refine Aj rfl (fun c29=> ?_) (fun c29=> ?_)
   ·simp only [A0d,Ayz] at c29
    refine Ai<|n_K<|Ad<|Ak<|Aa fun ops=>oM rfl<|oR (Aij rfl rfl)<|oM rfl ?_
    refine oR (Abd (b:=1) rfl rfl) ?_
    refine oR (Amj rfl) ?_
    refine oR (Abd (a:=As9) rfl rfl) ?_
    refine oR (show Rd _ _ _ _ (uv (Abg (e ^^^ y.setWidth 32) (k+1))) from by (rw [hck];exact Abc rfl rfl)) ?_
    refine oA rfl<|Ac<|Az<|n_K<|Aa fun ops=> ?_
    refine oR (Ao rfl rfl (by omega)) ?_
    refine oM rfl<|Ac<|n_K ?_
    exact ⟨k+1,(by first | omega | trivial | (refine ⟨?_,?_⟩ <;> omega)),(by omega),lZ⟩
   ·simp only [A0d,Ayz] at c29
    refine Bb<|x_K<|x_K<|Bj<|Az<|n_K<|Aa fun ops=> ?_
    refine oR (Ao rfl rfl (by omega)) ?_
    refine oM rfl<|Ac<|n_K ?_
    have hk:k=8:=by omega
    subst hk
    rw [← hz,← hk8,← hst2]
    exact ⟨j+1,(by first | omega | trivial | (refine ⟨?_,?_⟩ <;> omega)),(by omega),lZ⟩
  ·simp only [A0d,Ayz] at c21
   refine Bb<|x_K<|x_K<|Bj<|Az<|n_K<|Aa fun ops=> ?_
   refine oR (Ao rfl rfl (by omega)) ?_
   refine oM rfl<|Ac<|n_K ?_
   have hj:j=s.list.length:=by omega
   rw [hj,A0w,← hst]
   exact ⟨i+1,(by first | omega | trivial | (refine ⟨?_,?_⟩ <;> omega)),(by omega),lZ⟩
 ·simp only [A0d,Ayz] at c15
  refine Bb<|x_K<|x_K<|Bj<|n_K<|Ad<|Aa fun ops=>oM rfl ?_
  refine oR (show Rd _ _ _ _ (uv (K3 c (q.list.map (·.list)))) from by (rw [K3,show q.list.map (·.list)=(q.list.take i).map (·.list) by rw [Ay4 (by omega)]];exact T5 rfl)) ?_
  refine oA rfl<|Ac<|n_K<|An ?_
  refine Aq (At Tryz.results95 (Ag rfl)) ?_ sP
  rfl
theorem Amp {q:Sl (Sl By)}:Does Tryz.prog 93 [q.val] (q.hp tSB++(Dh q.list++[])) (Is (uv (K3 0 (q.list.map (·.list)))) (q.hp tSB++(Dh q.list++[]))):=by
 refine Ah (n:=5) Tryz.func93 Tryz.ntmps93 rfl (Ay9 rfl)<|Ad<|Aa fun ops=>oA rfl<|Ac<|n_K<|Ad<|Aa fun ops=>oM rfl ?_
 refine A6 rfl (Ata (c:=0)) sP rfl aQ ?_
 refine oA rfl<|Ac<|n_K<|An ?_
 refine Aq (At Tryz.results93 (Ag rfl)) ?_ sP
 rfl
end
section
open Go.K
instance und151:Und Tryz.prog 151 (.int .u64):=⟨Tryz.underlying151⟩
instance und214:Und Tryz.prog 214 (.int .u16):=⟨Tryz.underlying214⟩
instance und217:Und Tryz.prog 217 (.array 256 5):=⟨Tryz.underlying217⟩
instance agg217:Agg Tryz.prog 217 true:=⟨⟨_,Tryz.underlying217,rfl⟩⟩
instance siz217:Siz Tryz.prog 217 256:=⟨by kernel_rfl⟩
instance zer217:Zer Tryz.prog 217 (List.replicate 256 (.int .u8 0)):=⟨by kernel_rfl⟩
instance ent134:Ent Tryz.prog 134:=⟨fun _ _=>by kernel_rfl⟩
instance ent143:Ent Tryz.prog 143:=⟨fun _ _=>by kernel_rfl⟩
instance ent144:Ent Tryz.prog 144:=⟨fun _ _=>by kernel_rfl⟩
instance ent182:Ent Tryz.prog 182:=⟨fun _ _=>by kernel_rfl⟩
instance ent187:Ent Tryz.prog 187:=⟨fun _ _=>by kernel_rfl⟩
instance ent188:Ent Tryz.prog 188:=⟨fun _ _=>by kernel_rfl⟩
instance ent189:Ent Tryz.prog 189:=⟨fun _ _=>by kernel_rfl⟩
instance ent218:Ent Tryz.prog 218:=⟨fun _ _=>by kernel_rfl⟩
instance ent219:Ent Tryz.prog 219:=⟨fun _ _=>by kernel_rfl⟩
instance ent236:Ent Tryz.prog 236:=⟨fun _ _=>by kernel_rfl⟩
abbrev tDa:TypeId:=217
abbrev tPg:TypeId:=147
theorem Wr {n:Nat} (hn:n<65536):Does Tryz.prog 143 [.int .u16 (n:Nat)] [] (Is (.int .i64 (Gm n:Nat)) []):=by
 have h1:n / 256<256:=by omega
 have h2:(BitVec.ofNat 8 (n / 256)).toNat=n / 256:=by simp;omega
 have h3:(BitVec.ofNat 8 (n % 256)).toNat=n % 256:=by simp
 have t1:=Xi (BitVec.ofNat 8 (n / 256))
 have t2:=Xi (BitVec.ofNat 8 (n % 256))
 rw [h2] at t1
 rw [h3] at t2
 refine Ah (n:=11) Tryz.func143 Tryz.ntmps143 rfl (Ay9 rfl)<|Ad<|Aa fun ops=>oA rfl<|Ac<|n_K<|Ad ?_
 refine s_draw [] [(9,[(0,false),(1,false),(2,false),(3,false),(4,false),(5,false),(6,false),(7,false),(8,false)])] (by kernel_rfl) rfl fun ops w0 H0 y=> ?_
 refine A4<|xM rfl ?_
 refine xR (show Rd _ _ _ _ (.int .u16 ((n / 256:Nat):Int)) from Yo (m:=8) rfl rfl rfl (by decide)) ?_
 refine xR (Jm rfl rfl (by omega) t1) ?_
 refine xM rfl ?_
 refine xR (show Rd _ _ _ _ (.int .u16 ((n % 256:Nat):Int)) from by (rw [← Ax9 n 8];exact Abe (b:=255) rfl rfl hn (by omega))) ?_
 refine xR (Jm rfl rfl (by omega) t2) ?_
 refine xR (Ae rfl rfl rfl)<|xR (C4 rfl)<|xA rfl<|Am<|Bm<|n_K<|An ?_
 refine Aq (At Tryz.results143 (Ag rfl)) ?_ sP
 have p1:=Kb (BitVec.ofNat 8 (n / 256));have p2:=Kb (BitVec.ofNat 8 (n % 256));exact A20 (Value.int .i64) (by rw [Ae8,Ae8,Gm,← Int.natCast_add,Hg .u8 rfl (by show _<256;omega),Yq (by omega)])
theorem Aiq {n:Nat} (hn:n<4096):Does Tryz.prog 236 [.int .u64 (n:Nat)] [] (Is (.int .i64 (Gm n:Nat)) []):=by
 refine Ah (n:=35) Tryz.func236 Tryz.ntmps236 rfl (Ay9 rfl)<|Ad<|Aa fun ops=>oA rfl<|Ac<|n_K<|Ad<|Aa fun ops=>oM rfl ?_
 refine oR (Ir rfl rfl (by omega)) ?_
 refine oR (Ae rfl rfl rfl)<|oM rfl<|oR (Ae rfl rfl rfl)<|oR (Ae rfl rfl rfl)<|oA rfl<|Ac<|n_K<|Ad<|Aa fun ops=>oM rfl ?_
 refine oR (Ir rfl rfl (by omega)) ?_
 refine oR (Ae rfl rfl rfl)<|oM rfl<|oR (Ae rfl rfl rfl)<|oR (Ae rfl rfl rfl)<|oA rfl<|Ac<|n_K<|Ad<|Aa fun ops=>oM rfl ?_
 refine oR (Ir rfl rfl (by omega)) ?_
 refine oM rfl<|oR (Ae rfl rfl rfl)<|oR (Ae rfl rfl rfl)<|oA rfl<|Ac<|n_K<|Ad<|Aa fun ops=>oM rfl<|oM rfl ?_
 refine oR (Ir rfl rfl (by omega)) ?_
 refine oR (Ae rfl rfl rfl)<|oA rfl<|Ac<|n_K<|Ad<|Aa fun ops=>oM rfl<|oM rfl ?_
 refine oR (Ir rfl rfl (by omega)) ?_
 refine oR (Ae rfl rfl rfl)<|oA rfl<|Ac<|n_K<|Ad<|Aa fun ops=>oM rfl<|oM rfl ?_
 refine oR (Ir rfl rfl (by omega)) ?_
 refine oR (Ae rfl rfl rfl)<|oA rfl<|Ac<|n_K<|Ad<|Aa fun ops=>oM rfl<|oR (C4 rfl)<|oR (Ae rfl rfl rfl)<|oA rfl<|Ac<|n_K<|An ?_
 refine Aq (At Tryz.results236 (Ag rfl)) ?_ sP
 exact A20 (Value.int .i64) (Ap3 n hn)
theorem Arf {n:Nat} (hn:n<4096):Does Tryz.prog 219 [.int .u64 (n:Nat)] [] (Is (.int .i64 (Gm n:Nat)) []):=by
 refine Ah (n:=8) Tryz.func219 Tryz.ntmps219 rfl (Ay9 rfl)<|Ad<|Aa fun ops=>oA rfl<|Ac<|n_K<|Ad ?_
 refine Bi rfl ?_
 refine Ai<|n_K<|Ad<|Aa fun ops=>oM rfl ?_
 refine A6 rfl (Aiq hn) sP rfl aQ ?_
 refine oA rfl<|Ac<|n_K<|An ?_
 refine Aq (At Tryz.results219 (Ag rfl)) ?_ sP
 rfl
theorem Amq {n:Nat} (hn:n<4096):Does Tryz.prog 182 [.int .u64 (n:Nat)] [] (Is (.int .i64 (Rr n:Nat)) []):=by
 refine Ah (n:=25) Tryz.func182 Tryz.ntmps182 rfl (Ay9 rfl)<|Ad<|Aa fun ops=>oA rfl<|Ac<|n_K<|Ad<|Ad<|Aa fun ops=>oM rfl<|oR (Ae rfl rfl rfl)<|Ac<|n_K ?_
 refine Aj rfl (fun c4=> ?_) (fun c4=> ?_)
 ·simp only [A0d,Ayz] at c4
  omega
 ·simp only [A0d,Ayz] at c4
  refine Ai<|n_K<|Ad<|Ad<|Aa fun ops=>oM rfl<|oR (Ae rfl rfl rfl)<|Ac<|n_K ?_
  refine Aj rfl (fun c8=> ?_) (fun c8=> ?_)
  ·simp only [A0d,Ayz] at c8
   omega
  ·simp only [A0d,Ayz] at c8
   refine Ai<|n_K<|Ad<|Ad<|Aa fun ops=>oM rfl<|oR (Ae rfl rfl rfl)<|Ac<|n_K ?_
   refine Aj rfl (fun c14=> ?_) (fun c14=> ?_)
   ·simp only [A0d,Ayz] at c14
    have h8:(BitVec.ofNat 8 (n / 256)).toNat=n / 256:=(by simp;omega)
    have t1:=Aew (BitVec.ofNat 8 (n / 256))
    have t2:=Aex (BitVec.ofNat 8 (n / 256))
    rw [h8] at t1
    have t3:=Atz n hn (by omega)
    have t4:=Ae9 (BitVec.ofNat 8 (n / 256))
    refine Ad<|Aa fun ops=>oM rfl ?_
    refine oR (show Rd _ _ _ _ (.int .u64 ((n / 256:Nat):Int)) from Yo (m:=8) rfl rfl rfl (by decide)) ?_
    refine oA rfl<|Ac<|n_K<|Aa fun ops=>oM rfl ?_
    refine oR (Ao rfl rfl (by omega)) ?_
    refine oA rfl<|Ac<|n_K<|Ad<|Aa fun ops=>oM rfl<|oM rfl ?_
    refine oR (Ft rfl (Hg .u8 rfl (by show _<256;omega))) ?_
    refine oR (Jm rfl rfl (by omega) t1) ?_
    refine oR (G8 t2 rfl) ?_
    refine oR (Ao rfl rfl (by omega)) ?_
    refine oA rfl<|Ac<|n_K<|An ?_
    refine Aq (At Tryz.results182 (Ag rfl)) ?_ sP
    exact A20 (Value.int .i64) (by omega)
   ·simp only [A0d,Ayz] at c14
    have h8:(BitVec.ofNat 8 n).toNat=n:=(by simp;omega)
    have t1:=Aew (BitVec.ofNat 8 n)
    have t2:=Aex (BitVec.ofNat 8 n)
    rw [h8] at t1
    have t3:=Aty n (by omega)
    have t4:=Ae9 (BitVec.ofNat 8 n)
    refine Ai<|n_K<|Ad<|Aa fun ops=>oM rfl<|oM rfl ?_
    refine oR (Ft rfl (Hg .u8 rfl (by show _<256;omega))) ?_
    refine oR (Jm rfl rfl (by omega) t1) ?_
    refine oR (G8 t2 rfl) ?_
    refine oR (Ao rfl rfl (by omega)) ?_
    refine oA rfl<|Ac<|n_K<|An ?_
    refine Aq (At Tryz.results182 (Ag rfl)) ?_ sP
    exact A20 (Value.int .i64) (by omega)
theorem Ad6 {n:Nat} (hn:n<4096):Does Tryz.prog 134 [.int .u64 (n:Nat)] [] (Is (.int .i64 (Rr n:Nat)) []):=by
 refine Ah (n:=8) Tryz.func134 Tryz.ntmps134 rfl (Ay9 rfl)<|Ad<|Aa fun ops=>oA rfl<|Ac<|n_K<|Ad ?_
 refine Bi rfl ?_
 refine Ai<|n_K<|Ad<|Aa fun ops=>oM rfl ?_
 refine A6 rfl (Amq hn) sP rfl aQ ?_
 refine oA rfl<|Ac<|n_K<|An ?_
 refine Aq (At Tryz.results134 (Ag rfl)) ?_ sP
 rfl
theorem Amr {i:Nat} (hi:i<2048):Does Tryz.prog 218 [.int .i64 (i:Nat)] [] (Is (.int .i64 (M3 i:Nat)) []):=by
 refine Ah (n:=15) Tryz.func218 Tryz.ntmps218 rfl (Ay9 rfl)<|Ad<|Aa fun ops=>oA rfl<|Ac<|n_K<|Ad<|Aa fun ops=>oM rfl ?_
 refine oR (Ao rfl rfl (by omega)) ?_
 refine oA rfl<|Ac<|n_K<|Ad<|Ad<|Aa fun ops=>oA rfl<|Ac<|n_K<|Ak ?_
 refine D7 [] kQ (fun (k:Nat)=>[(3,.int .i64 ((i+1+k:Nat):Int)),(4,.int .i64 ((2 ^ k:Nat):Int))]) (fun (k:Nat)=>k≤13∧L9 (13 - k) (i+1+k) (2 ^ k)=M3 i) (fun (k:Nat)=>14 - k) ((0:Nat)) ⟨A2r _,rfl⟩ kP ?_
 rintro k ⟨h0,h1⟩
 refine Ad<|Ad<|Aa fun ops=>oM rfl<|oM rfl<|oR (Ae rfl rfl rfl)<|Ac<|n_K ?_
 refine Aj rfl (fun c9=> ?_) (fun c9=> ?_)
 ·simp only [A0d,Ayz] at c9
  have hk:k<13:=(by rcases A2i k 13 with h | h;exact h;exfalso;have:k=13:=(by omega);subst this;simp at c9;omega)
  have h2:13 - k=(12 - k)+1:=(by omega)
  rw [h2,L9,A25 (by exact_mod_cast c9)] at h1
  have hp:2 ^ k≤2 ^ 12:=Nat.pow_le_pow_right (by omega) (by omega)
  refine Ai<|n_K<|Ad<|Ak<|Aa fun ops=>oM rfl ?_
  refine oR (show Rd _ _ _ _ (.int .i64 ((i+1+(k+1):Nat):Int)) from by (rw [show ((i+1+(k+1):Nat):Int)=((i+1+k:Nat):Int)+1 by push_cast;omega];exact Ao rfl rfl (by omega))) ?_
  refine oA rfl<|Ac<|Az<|n_K<|Aa fun ops=>oM rfl ?_
  refine oR (show Rd _ _ _ _ (.int .i64 ((2 ^ (k+1):Nat):Int)) from Afx (a:=2 ^ k) (m:=1) rfl rfl rfl (by omega) (by omega)) ?_
  refine oA rfl<|Ac<|n_K ?_
  exact ⟨k+1,⟨by omega,by rw [Nat.pow_succ,show 13 - (k+1)=12 - k by omega];exact h1⟩,(by omega),lZ⟩
 ·simp only [A0d,Ayz] at c9
  have hr:M3 i=i+1+k:=(by have h3:¬ 2 ^ k≤i+1+k:=(fun h=>c9 (by exact_mod_cast h));rcases Nat.eq_zero_or_pos (13 - k) with h | h;(rw [h,L9] at h1;exact h1.symm);(rw [show 13 - k=(12 - k)+1 by omega,L9,A26 h3] at h1;exact h1.symm))
  refine Bb<|x_K<|x_K<|Bj<|n_K<|Ad<|Aa fun ops=>oM rfl<|oA rfl<|Ac<|n_K<|An ?_
  refine Aq (At Tryz.results218 (Ag rfl)) ?_ sP
  rw [hr]
theorem Af0 {b:Nat} {d:Dat} {T:TypeId}:Does Tryz.prog 187 [ptr b] [(b,true,C (vbc d) T)] (Is (.tuple #[.int .i64 (Gj d:Nat),.int .i64 (Lw d:Nat)]) [(b,true,C (vbc d) T)]):=by
 refine Ah (n:=37) Tryz.func187 Tryz.ntmps187 rfl (Ay9 rfl)<|Ad<|Aa fun ops=>oA rfl<|oA rfl<|Ac<|n_K<|Ad<|Ad<|Aa fun ops=>oM rfl<|oM rfl<|Ac<|n_K ?_
 refine Ak ?_
 refine D7 [7] kQ (fun (i:Nat)=>[(8,.int .i64 i),(2,.int .i64 (Mw d i:Nat)),(3,.int .i64 (Ys d i:Nat))]) (fun (i:Nat)=>i≤256) (fun (i:Nat)=>256 - i) ((0:Nat)) (A2r _) kP ?_
 rintro i h0
 refine Ad<|Aa fun ops=>oR (Ae rfl rfl rfl)<|Ac<|n_K<|Ad ?_
 refine Aj rfl (fun c9=> ?_) (fun c9=> ?_)
 ·simp only [A0d,Ayz] at c9
  have hi:i<256:=(by omega)
  have hl:=Lx d i h0
  have ho:=Yt d i
  have hd:d.toList.getD i 0=d[i]:=(by simp [Ayg,hi])
  have hls:=T9 d i
  have hos:=Wp d i
  rw [hd] at hls hos
  generalize Mw d i=ln at hl hls ⊢
  generalize Ys d i=od at ho hos ⊢
  generalize hy:d[i]=yy at hls hos
  refine Ai<|n_K<|Ad<|Ak<|Ad ?_
  refine s_draw [] [(6,[(0,false),(1,false),(2,false),(3,false),(4,false),(5,false)])] (by kernel_rfl) rfl fun ops w0 H0 y=> ?_
  refine A4<|xM rfl<|xN rfl ?_
  refine xR (Hd rfl rfl (by omega)) ?_
  refine xR (Al rfl mM (show nth _ _=some (bv yy) by (rw [← hy];simpa using Gt (p:=d) hi))) ?_
  refine xA rfl<|xA rfl<|Am<|Bm<|n_K<|Ad<|Aa fun ops=>oM rfl<|oM rfl ?_
  refine A6 rfl (Zs) sP rfl aQ ?_
  refine oR (show Rd _ _ _ _ (.int .i64 ((G2 yy % 2:Nat):Int)) from by (rw [← Nat.and_one_is_mod];exact Ox (b:=1) rfl rfl (by have:=Kb yy;omega) (by omega))) ?_
  refine oR (show Rd _ _ _ _ (.int .i64 ((Ys d (i+1):Nat):Int)) from by (rw [hos];exact Yn rfl rfl (by omega) (by omega))) ?_
  refine oA rfl<|Ac<|n_K<|Ak ?_
  refine D7 [7,8,4,3] kQ (fun (st:By×Nat)=>[(5,bv st.1),(2,.int .i64 (st.2:Nat))]) (fun (st:By×Nat)=>Aaa i (Lc st.1) st.2=Mw d (i+1)∧st.2<4096) (fun (st:By×Nat)=>st.1.toNat) ((yy,ln)) ⟨hls.symm,hl⟩ kP ?_
  rintro ⟨z,s⟩ ⟨h1,h2⟩
  simp only at h1 h2
  refine Ad<|Ad<|Aa fun ops=>oM rfl<|oR (Ae rfl rfl rfl)<|Ac<|n_K ?_
  refine Aj rfl (fun c20=> ?_) (fun c20=> ?_)
  ·skip
   have hz:z≠0:=(by intro h;subst h;simp at c20)
   obtain ⟨hb1,hb2⟩:=Ahl z hz
   have hdr:=Ahn z hz
   rw [hb1] at h1
   have hpl:=Aac (8*i+Pp z) (by omega)
   refine Ai<|n_K<|Ak<|Ad<|Aa fun ops=>oM rfl ?_
   refine A6 rfl (Ape) sP rfl aQ ?_
   refine oA rfl<|Ac<|n_K<|Ad<|Aa fun ops=>oM rfl<|oM rfl ?_
   refine oR (show Rd _ _ _ _ (.int .i64 ((8*i:Nat):Int)) from by (rw [Nat.mul_comm];exact Afx (m:=3) rfl rfl rfl (by omega) (by omega))) ?_
   refine oM rfl ?_
   refine oR (show Rd _ _ _ _ (.int .i64 ((8*i+Pp z:Nat):Int)) from by (rw [show 8*i+Pp z=8*i ||| Pp z from Ayf (i:=3) hb2 i];exact Amk rfl rfl (by omega) (by omega))) ?_
   refine A6 rfl (Amr (i:=8*i+Pp z) (by omega)) sP rfl aQ ?_
   refine oR (show Rd _ _ _ _ (.int .i64 ((s ^^^ M3 (8*i+Pp z):Nat):Int)) from Yn rfl rfl (by omega) (by omega)) ?_
   refine oA rfl<|Ac<|n_K<|Aa fun ops=>oM rfl<|oM rfl ?_
   refine oR (show Rd _ _ _ _ (bv (z - 1)) from Aq9 (b:=1) rfl rfl) ?_
   refine oR (show Rd _ _ _ _ (bv (z &&& (z - 1))) from by (unfold bv;rw [← Ajs];exact Ae rfl rfl rfl)) ?_
   refine oA rfl<|Ac<|Az<|n_K ?_
   exact ⟨(z &&& (z - 1),s ^^^ M3 (8*i+Pp z)),⟨h1,Ad4 h2 hpl⟩,hdr,lZ⟩
  ·skip
   have hz:z=0:=(by have:z.toNat=0:=(by simpa using c20);exact Azg this)
   subst hz
   rw [Ahm] at h1
   refine Bb<|x_K<|x_K<|Bj<|Az<|n_K<|Aa fun ops=> ?_
   refine oR (Ao rfl rfl (by omega)) ?_
   refine oM rfl<|Ac<|n_K ?_
   have h3:Mw d (i+1)=s:=h1.symm
   rw [← h3]
   exact ⟨i+1,(by omega),(by omega),lZ⟩
 ·simp only [A0d,Ayz] at c9
  refine Bb<|x_K<|x_K<|Bj<|n_K<|Ad<|Aa fun ops=>oM rfl<|oM rfl<|oA rfl<|oA rfl<|Ac<|n_K<|An ?_
  refine Aq (Bz Tryz.results187 (Ag rfl) (Ag rfl)) ?_ sP
  have hi:i=256:=(by omega);simp only [Gj,Lw,hi]
theorem Ams {n:Nat} (hn:n<4096):Does Tryz.prog 188 [.int .i64 (n:Nat)] [] (Is (.bool (decide (n &&& (n - 1)=0))) []):=by
 refine Ah (n:=8) Tryz.func188 Tryz.ntmps188 rfl (Ay9 rfl)<|Ad<|Aa fun ops=>oA rfl<|Ac<|n_K<|Ad<|Aa fun ops=>oM rfl<|oM rfl ?_
 refine oR (show Rd _ _ _ _ (.int .i64 ((n:Int) - 1)) from Cy rfl rfl (by omega)) ?_
 refine oR (show Rd _ _ _ _ (.int .i64 ((n &&& (n - 1):Nat):Int)) from Ad2 rfl rfl hn) ?_
 refine oR (Ae rfl rfl rfl)<|oA rfl<|Ac<|n_K<|An ?_
 refine Aq (At Tryz.results188 (Ag rfl)) ?_ sP
 exact A20 Value.bool (by by_cases h:n &&& (n - 1)=0 <;> simp [h])
theorem Amt {d:Dat}:Does Tryz.prog 189 [.agg (vbc d).toArray] [] (Is (.int .u16 (Dm d:Nat)) []):=by
 have hl:=Lx d 256 (A2q _)
 have ho:=Yt d 256
 have hp:Gm (Gj d)≤16:=Xu _
 refine Ah (n:=20) Tryz.func189 Tryz.ntmps189 rfl (Ay9 rfl)<|Ad<|Aa fun ops=> ?_
 refine Ec rfl rfl fun b1=> ?_
 refine oA rfl<|Ac<|n_K<|Ad<|Aa fun ops=> ?_
 refine A6 rfl (Af0) sP rfl aQ ?_
 refine oM rfl<|oE rfl rfl<|oE rfl rfl<|oA rfl<|oA rfl<|Ac<|n_K<|Ad<|Ad<|Aa fun ops=>oM rfl<|oM rfl ?_
 refine oR (Ft rfl (Hg .u64 rfl (by show _<2 ^ 64;unfold Gj;omega))) ?_
 refine A6 rfl (Arf hl) sP rfl aQ ?_
 refine oR (show Rd _ _ _ _ (.int .i64 ((Lw d+Gm (Gj d):Nat):Int)) from Sb rfl rfl (by unfold Lw;omega)) ?_
 refine oR (show Rd _ _ _ _ (.int .i64 (((Lw d+Gm (Gj d)) % 2:Nat):Int)) from by (rw [← Nat.and_one_is_mod];exact Ox (b:=1) rfl rfl (by unfold Lw;omega) (by omega))) ?_
 refine oR (Ae rfl rfl rfl)<|Ac<|n_K ?_
 refine Aj rfl (fun c15=> ?_) (fun c15=> ?_)
 ·skip
  have hc:Dm d=Gj d ||| 4096:=(by unfold Dm;rw [A26 (by intro h;rw [h] at c15;simp at c15)])
  refine Aa fun ops=>oM rfl ?_
  refine oR (show Rd _ _ _ _ (.int .i64 ((Dm d:Nat):Int)) from by (rw [hc];exact Amk (b:=4096) rfl rfl (by unfold Gj;omega) (by omega))) ?_
  refine oA rfl<|Ac<|n_K<|Ad<|Aa fun ops=>oM rfl ?_
  refine oR (Ft (a:=Dm d) rfl (Hg .u16 rfl (by have:=G9 d;show _<65536;omega))) ?_
  refine oA rfl<|Ac<|n_K<|An ?_
  refine Aq (At Tryz.results189 (Ag rfl)) ?_ sP
  rfl
 ·skip
  have hc:Dm d=Gj d:=(by unfold Dm;rw [A25 (by simp at c15;omega)])
  rw [← hc]
  refine Ai<|n_K<|Ad<|Aa fun ops=>oM rfl ?_
  refine oR (Ft (a:=Dm d) rfl (Hg .u16 rfl (by have:=G9 d;show _<65536;omega))) ?_
  refine oA rfl<|Ac<|n_K<|An ?_
  refine Aq (At Tryz.results189 (Ag rfl)) ?_ sP
  rfl
theorem Auk {d:Dat} {chk:Nat} (hk:chk<65536):Does Tryz.prog 144 [.agg (vbc d).toArray,.int .u16 (chk:Nat)] [] (Is (.tuple #[.agg (vbc (Dn d chk).1).toArray,.int .i64 (Dn d chk).2.1,.int .i64 (Dn d chk).2.2]) []):=by
 have hl:=Lx d 256 (A2q _)
 have ho:=Yt d 256
 have hp:=Xu (chk &&& 8191)
 have ha:chk &&& 4095<4096:=Nat.and_lt_two_pow (n:=12) _ (by omega)
 have hs:Gj d ^^^ (chk &&& 4095)<4096:=Ad4 hl ha
 obtain ⟨S,hS⟩:∃ S,S=Gj d ^^^ (chk &&& 4095):=⟨_,rfl⟩
 rw [← hS] at hs
 refine Ah (n:=61) Tryz.func144 Tryz.ntmps144 rfl (Ay9 rfl)<|Ad<|Aa fun ops=> ?_
 refine Ec rfl rfl fun b2=> ?_
 refine Aw rfl fun b4=> ?_
 refine oA rfl<|oA rfl<|Ac<|n_K<|Ad<|Aa fun ops=> ?_
 refine A6 rfl (Af0) sP rfl aQ ?_
 refine oM rfl<|oE rfl rfl<|oE rfl rfl<|oA rfl<|oA rfl<|Ac<|n_K<|Ad<|Aa fun ops=>oM rfl<|oM rfl ?_
 refine oR (Ft rfl (Yq (by omega))) ?_
 refine oR (show Rd _ _ _ _ (.int .i64 ((chk &&& 4095:Nat):Int)) from Ox (b:=4095) rfl rfl (by omega) (by omega)) ?_
 refine oR (show Rd _ _ _ _ (.int .i64 (S:Nat)) from by (rw [hS];exact Yn rfl rfl (by unfold Gj;omega) (by omega))) ?_
 refine oA rfl<|Ac<|n_K<|Ad<|Aa fun ops=>oM rfl<|oM rfl ?_
 refine oR (show Rd _ _ _ _ (.int .u16 ((chk &&& 8191:Nat):Int)) from Abe (b:=8191) rfl rfl hk (by omega)) ?_
 refine A6 rfl (Wr (n:=chk &&& 8191) (by have:chk &&& 8191≤chk:=A1m;omega)) sP rfl aQ ?_
 refine oR (show Rd _ _ _ _ (.int .i64 ((Lw d+Gm (chk &&& 8191):Nat):Int)) from Sb rfl rfl (by unfold Lw;omega)) ?_
 refine oR (show Rd _ _ _ _ (.int .i64 (((Lw d+Gm (chk &&& 8191)) % 2:Nat):Int)) from by (rw [← Nat.and_one_is_mod];exact Ox (b:=1) rfl rfl (by unfold Lw;omega) (by omega))) ?_
 refine oA rfl<|Ac<|n_K<|Ad<|Ak<|Ad ?_
 refine Bf [(2,29)] rfl fun ops y=> ?_
 refine oM rfl<|oR (Ae rfl rfl rfl)<|oM rfl ?_
 refine' Df (j:=2) (k:=2) y rfl rfl rfl rfl rfl rfl rfl (fun hg29=> ?_) ?_
 rotate_left
 ·try (simp at hg29;show _)
  refine o_g y rfl rfl ?_
  refine oM rfl ?_
  refine o_g y rfl rfl ?_
  refine oR (Ae rfl rfl rfl) ?_
  exact Ac ⟨rfl,rfl,⟨_,sP⟩⟩
 refine oA rfl<|Ac<|n_K ?_
 refine Aj rfl (fun c26=> ?_) (fun c26=> ?_)
 ·skip
  have e1:S=0∧(Lw d+Gm (chk &&& 8191)) % 2=0:=(by simp at c26;omega)
  have hres:Dn d chk=(d,0,0):=(by unfold Dn;simp only [];rw [← hS];rw [A25 e1])
  refine Ad<|Aa fun ops=> ?_
  refine oR (Au rfl mM (by first | exact Bg | rfl)) ?_
  first | refine Af rfl rfl uD (Ct) (Ar) (B2 (by first | exact Ar | exact Azc ..)) ?_ | refine Af rfl rfl uD rfl rfl rfl ?_
  refine oA rfl<|oA rfl<|Ac<|n_K<|An<|Bn<|r_K ?_
  refine Aq (Kw Tryz.results144 (Bv rfl mM (by first | exact Bg | rfl)) (Ag rfl) (Ag rfl)) ?_ sP
  rw [hres]
 ·skip
  have e1:¬ (S=0∧(Lw d+Gm (chk &&& 8191)) % 2=0):=(by intro h;simp at c26;omega)
  refine Ad<|Aa fun ops=>oM rfl<|oR (Ae rfl rfl rfl)<|oA rfl<|Ac<|n_K ?_
  refine Aj rfl (fun c34=> ?_) (fun c34=> ?_)
  ·skip
   have e2:(Lw d+Gm (chk &&& 8191)) % 2=0:=(by simp at c34;omega)
   have hres:Dn d chk=(zeroD,0,21):=(by unfold Dn;simp only [];rw [← hS];rw [A26 e1,A25 e2])
   refine Ad<|Aa fun ops=> ?_
   refine oR (show Rd _ _ _ _ (.agg (vbc zeroD).toArray) from by (rw [← Ua];exact Tu)) ?_
   first | refine Af rfl rfl uD (Ct) (Ar) (B2 (by first | exact Ar | exact Azc ..)) ?_ | refine Af rfl rfl uD rfl rfl rfl ?_
   refine oA rfl<|oA rfl<|Ac<|n_K<|An<|Bn<|r_K ?_
   refine Aq (Kw Tryz.results144 (Bv rfl mM (by first | exact Bg | rfl)) (Ag rfl) (Ag rfl)) ?_ sP
   rw [hres]
  ·skip
   have e2:¬ (Lw d+Gm (chk &&& 8191)) % 2=0:=(by intro h;simp at c34;omega)
   refine Ad<|Aa fun ops=>oM rfl ?_
   refine A6 rfl (Ams hs) sP rfl aQ ?_
   refine oA rfl<|Ac<|n_K ?_
   refine Aj rfl (fun c38=> ?_) (fun c38=> ?_)
   ·simp only [A0d,Ayz] at c38
    have hres:Dn d chk=(d,1,0):=(by unfold Dn;simp only [];rw [← hS];rw [A26 e1,A26 e2,A25 c38])
    refine Ad<|Aa fun ops=> ?_
    refine oR (Au rfl mM (by first | exact Bg | rfl)) ?_
    first | refine Af rfl rfl uD (Ct) (Ar) (B2 (by first | exact Ar | exact Azc ..)) ?_ | refine Af rfl rfl uD rfl rfl rfl ?_
    refine oA rfl<|oA rfl<|Ac<|n_K<|An<|Bn<|r_K ?_
    refine Aq (Kw Tryz.results144 (Bv rfl mM (by first | exact Bg | rfl)) (Ag rfl) (Ag rfl)) ?_ sP
    rw [hres]
   ·simp only [A0d,Ayz] at c38
    have hn:=At0 _ hs c38
    refine Ai<|Az<|n_K<|Ad<|Aa fun ops=>oM rfl ?_
    refine oR (show Rd _ _ _ _ (.int .i64 ((S - 1:Nat):Int)) from by (rw [show ((S - 1:Nat):Int)=((S:Nat):Int) - 1 by omega];exact Cy rfl rfl (by omega))) ?_
    refine oM rfl ?_
    refine oR (Ft rfl (Hg .u64 rfl (by show _<2 ^ 64;omega))) ?_
    refine A6 rfl (Ad6 hs) sP rfl aQ ?_
    refine oR (show Rd _ _ _ _ (.int .i64 ((S - 1 - Rr S:Nat):Int)) from by (rw [show ((S - 1 - Rr S:Nat):Int)=((S - 1:Nat):Int) - ((Rr S:Nat):Int) by omega];exact Cy rfl rfl (by omega))) ?_
    refine oA rfl<|Ac<|n_K<|Ad<|Ad<|Aa fun ops=>oM rfl<|oR (Ae rfl rfl rfl)<|Ac<|n_K ?_
    refine Aj rfl (fun c49=> ?_) (fun c49=> ?_)
    ·simp only [A0d,Ayz] at c49
     have hres:Dn d chk=(zeroD,0,21):=(by unfold Dn;simp only [];rw [← hS];rw [A26 e1,A26 e2,A26 c38,A25 (by omega)])
     refine Ad<|Aa fun ops=> ?_
     refine oR (show Rd _ _ _ _ (.agg (vbc zeroD).toArray) from by (rw [← Ua];exact Tu)) ?_
     first | refine Af rfl rfl uD (Ct) (Ar) (B2 (by first | exact Ar | exact Azc ..)) ?_ | refine Af rfl rfl uD rfl rfl rfl ?_
     refine oA rfl<|oA rfl<|Ac<|n_K<|An<|r_K ?_
     refine Aq (Kw Tryz.results144 (Bv rfl mM (by first | exact Bg | rfl)) (Ag rfl) (Ag rfl)) ?_ sP
     rw [hres]
    ·simp only [A0d,Ayz] at c49
     have hres:Dn d chk=(Abi d (S - 1 - Rr S),1,0):=(by unfold Dn;simp only [];rw [← hS];rw [A26 e1,A26 e2,A26 c38,A26 (by omega)])
     generalize hI:S - 1 - Rr S=i at c49 hres ⊢
     have hi8:i / 8<256:=(by omega)
     have hfl:Abi d i=d.set (i / 8) (d[i / 8] ^^^ (1#8 <<< (i % 8))):=(by unfold Abi;rw [A22 hi8])
     refine Ai<|n_K<|Ad ?_
     refine s_draw [] [(9,[(0,false),(1,false),(2,false),(3,false),(4,false),(5,false),(6,false),(7,false),(8,false)]),(10,[(9,true)])] (by kernel_rfl) rfl fun ops w0 H0 y=> ?_
     refine A4<|xM rfl ?_
     refine xR (show Rd _ _ _ _ (.int .i64 ((i / 8:Nat):Int)) from Yo (m:=3) rfl rfl rfl (by decide)) ?_
     refine xR (Hd rfl rfl (by omega)) ?_
     refine xR (Al rfl mM (show nth (vbc d) (i / 8*1)=some (bv d[i / 8]) by rw [A2s];exact Gt (p:=d) hi8)) ?_
     refine xM rfl ?_
     refine xR (show Rd _ _ _ _ (.int .i64 ((i % 8:Nat):Int)) from by (rw [← Ax9 i 3];exact Ox (b:=7) rfl rfl (by omega) (by omega))) ?_
     refine xR (show Rd _ _ _ _ (bv (1#8 <<< (i % 8))) from Yp rfl rfl (by omega)) ?_
     refine xR (show Rd _ _ _ _ (bv (d[i / 8] ^^^ (1#8 <<< (i % 8)))) from by (unfold bv;rw [← Atg];exact Ae rfl rfl rfl)) ?_
     refine xR (Hd rfl rfl (by omega)) ?_
     refine Am<|Bh<|Be ?_
     refine Af (cs':=vbc (Abi d i)) rfl rfl uD rfl rfl (show Br (vbc d) (i / 8*1) [bv (d[i / 8] ^^^ (1#8 <<< (i % 8)))]=_ by rw [A2s,hfl];exact H7 (p:=d) hi8 _) ?_
     refine Ac ⟨rfl,⟨_,sP⟩,?_⟩
     refine Am<|Bm<|n_K<|Ad<|Aa fun ops=> ?_
     refine oR (Au rfl mM (by first | exact Bg | rfl)) ?_
     first | refine Af rfl rfl uD (Ct) (Ar) (B2 (by first | exact Ar | exact Azc ..)) ?_ | refine Af rfl rfl uD rfl rfl rfl ?_
     refine oA rfl<|oA rfl<|Ac<|n_K<|An ?_
     refine Aq (Kw Tryz.results144 (Bv rfl mM (by first | exact Bg | rfl)) (Ag rfl) (Ag rfl)) ?_ sP
     rw [hres]
end
section
open Go.K
instance zer23:Zer Tryz.prog 23 ([.slice none 0 0]):=⟨by kernel_rfl⟩
instance ent101:Ent Tryz.prog 101:=⟨fun _ _=>by kernel_rfl⟩
instance ent142:Ent Tryz.prog 142:=⟨fun _ _=>by kernel_rfl⟩
instance ent145:Ent Tryz.prog 145:=⟨fun _ _=>by kernel_rfl⟩
instance ent146:Ent Tryz.prog 146:=⟨fun _ _=>by kernel_rfl⟩
theorem L7 {p:Pg}:Does Tryz.prog 142 [.agg (vbc p).toArray] [] (Is (.bool (Bs p)) []):=by
 refine Ah (n:=18) Tryz.func142 Tryz.ntmps142 rfl (Ay9 rfl)<|Ad<|Aa fun ops=> ?_
 refine Ec rfl rfl fun b1=> ?_
 refine oA rfl<|Ac<|n_K<|Ad<|Aa fun ops=>oA rfl<|Ac<|n_K<|Ad<|Ad<|Aa fun ops=> ?_
 refine oR (Au rfl mM (by first | exact Bg | rfl)) ?_
 refine oM rfl<|Ac<|n_K<|Ak ?_
 refine D7 [6] kQ (fun (i:Nat)=>[(7,.int .i64 i),(3,.int .i64 (J7 p i:Nat))]) (fun (i:Nat)=>i≤258) (fun (i:Nat)=>258 - i) ((0:Nat)) (A2r _) kP ?_
 rintro i h0
 refine Ad<|Aa fun ops=>oR (Ae rfl rfl rfl)<|Ac<|n_K<|Ad ?_
 refine Aj rfl (fun c8=> ?_) (fun c8=> ?_)
 ·simp only [A0d,Ayz] at c8
  have hi:i<258:=(by omega)
  have hd:p.toList.getD i 0=p[i]:=(by simp [Ayg,hi])
  have hz:=K8 p i
  have hle:=Ag9 p i
  have hp8:=Kb (~~~ (p.toList.getD i 0))
  rw [hd] at hz hp8
  refine Ai<|n_K<|Ad<|Ak<|Ad<|Aa fun ops=> ?_
  refine oR (show Rd _ _ _ _ (bv p[i]) from Alm rfl rfl (by omega) (show nth (vbc p) (i*1)=_ by rw [A2s];exact Gt hi)) ?_
  refine oA rfl<|Ac<|n_K<|Aa fun ops=>oM rfl<|oM rfl<|oR (Aik rfl) ?_
  refine A6 rfl (Zs) sP rfl aQ ?_
  refine oR (show Rd _ _ _ _ (.int .i64 ((J7 p (i+1):Nat):Int)) from by (rw [hz];exact Sb rfl rfl (by omega))) ?_
  refine oA rfl<|Ac<|Az<|n_K<|Aa fun ops=> ?_
  refine oR (Ao rfl rfl (by omega)) ?_
  refine oM rfl<|Ac<|n_K ?_
  exact ⟨i+1,(by omega),(by omega),lZ⟩
 ·simp only [A0d,Ayz] at c8
  refine Bb<|x_K<|x_K<|Bj<|n_K<|Ad<|Aa fun ops=>oM rfl<|oR (Ae rfl rfl rfl)<|oA rfl<|Ac<|n_K<|An ?_
  refine Aq (At Tryz.results142 (Ag rfl)) ?_ sP
  unfold Bs;rw [show i=258 by omega];exact A20 Value.bool (A0x.2 (by omega))
theorem Vh {b:Nat} {s:Sl By} {L:Hp}:((b,true,C [s.val] tSB)::(s.hp tU8++L))=(Sl.own b [s] 1 [] ⟨by simp,A2q _,by simp⟩:Sl (Sl By)).hp tSB++(Dh [s]++L):=by
 rw [Sl.hp_own,Cz,Ha]
 simp only [A0j,A1k]
 rfl
theorem Zz {n:Nat} {p:Vector By n} {o m:Nat}:Oc (vbc p) o ((p.toList.drop o).take m):=fun i x hx=>by
 have hx':=S9 hx
 rw [Az4] at hx'
 have hlt:o+i<n:=by have:=(Aym.1 hx').1;simpa using this
 refine cut_iff.2 ⟨?_,by rw [Ar];simp only [Cel.sz];omega⟩
 simp only [Cel.sz,A2s,Cel.cs]
 have h1:(vbc p)[o+i]? =some (bv x):=by rw [vbc,A0f,hx'];rfl
 have hl:o+i<(vbc p).length:=by rw [Ar];exact hlt
 rw [Ayq hl,List.take_succ_cons,List.take_zero]
 have:=Ayw hl
 rw [h1] at this
 rw [A1h this]
def Kt {n:Nat} (b:Nat) (p:Vector By n) (o m cap:Nat) (T:TypeId) (h:min m (n - o)≤cap∧n≤1000):Sl By :=
 .view b o true (vbc p) T (0,0) ((p.toList.drop o).take m) cap ⟨Zz,by simp only [A0v,A03,Azq];omega,by simp only [A0v,A03,Azq];omega⟩
theorem Jj {n b o m cap:Nat} {p:Vector By n} {T:TypeId} {h} (hm:o+m≤n):(Kt b p o m cap T h).val= .slice (some ⟨b,o,none⟩) m cap:=by
 have:((p.toList.drop o).take m).length=m:=by simp only [A0v,A03,Azq];omega
 show Value.slice (some ⟨b,o,none⟩) ((p.toList.drop o).take m).length cap=_
 rw [this]
theorem K9 {n b o m cap:Nat} {p:Vector By n} {T U:TypeId} {h}:(Kt b p o m cap T h).hp U=[(b,true,C (vbc p) T)]:=by unfold Kt;rw [Sl.hp_view]
theorem G3 {n b o m cap:Nat} {p:Vector By n} {T:TypeId} {h}:(Kt b p o m cap T h).list=(p.toList.drop o).take m:=rfl
theorem Apm {b33 b7:Nat} {d:Dat}:Does Tryz.prog 93 [.slice (some ⟨b33,0,none⟩) 1 1] [(b33,true,C [.slice (some ⟨b7,0,none⟩) 252 256] tSB),(b7,true,C (vbc d) tDa)] (Is (uv (As0 d)) [(b33,true,C [.slice (some ⟨b7,0,none⟩) 252 256] tSB),(b7,true,C (vbc d) tDa)]):=by
 have h:=Amp (q:= .own b33 [Kt b7 d 0 252 256 tDa (by omega)] 1 [] ⟨by simp,A2q _,by simp⟩)
 have e:=Vh (b:=b33) (s:=Kt b7 d 0 252 256 tDa (by omega)) (L:=[])
 rw [Jj (by omega),K9] at e
 have e2:(Sl.own b33 [Kt b7 d 0 252 256 tDa (by omega)] 1 [] ⟨by simp,A2q _,by simp⟩:Sl (Sl By)).list=[Kt b7 d 0 252 256 tDa (by omega)]:=rfl
 rw [e2,← e] at h
 exact h
theorem Apn (n:Nat):IntKind.u8.wrap (n:Int)=((BitVec.ofNat 8 n).toNat:Int):=by
 rw [Ex .u8 rfl,Azr];rfl
theorem Aj7 (n:Nat):IntKind.u64.wrap (n:Int)=((BitVec.ofNat 64 n).toNat:Int):=by
 rw [Ex .u64 rfl,Azr];rfl
theorem Apo {n:Nat} {p:Vector By n}:cut (vbc p) 0 (n*1)=some (cells p.toList):=by
 rw [A2s,Lh];exact Bg
theorem M1 {kind:By} {q:Sl (Sl By)} (hl:(Bq q.list).length≤70000000000000):Does Tryz.prog 145 [bv kind,q.val] (q.hp tSB++(Dh q.list++[]))
  (Is (.tuple #[.agg (vbc (C3 kind (Bq q.list)).1).toArray,.int .i64 (C3 kind (Bq q.list)).2]) (q.hp tSB++(Dh q.list++[]))):=by
 refine Ah (n:=48) Tryz.func145 Tryz.ntmps145 rfl (Ay9 rfl)<|Ad<|Aa fun ops=> ?_
 refine Aw rfl fun b4=> ?_
 rw [Cs]
 refine oA rfl<|Ac<|n_K<|Ad<|Aa fun ops=>oM rfl ?_
 refine Bd rfl (Abk hl) sP rfl fun v9 Y9 h9=> ?_
 obtain ⟨s9,rfl,rfl,hs9,ho9⟩:=h9
 refine Ay aQ ?_
 refine oA rfl<|Ac<|n_K<|Ad<|Ad ?_
 refine Bf [(2,12),(6,16)] rfl fun ops y=> ?_
 refine oM rfl<|oR (Ae rfl rfl rfl)<|oM rfl ?_
 refine' Es (j:=2) (k:=2) y rfl rfl rfl rfl rfl rfl rfl (fun hg12=> ?_) ?_
 rotate_left
 ·try (simp at hg12;show _)
  refine o_g y rfl rfl ?_
  refine oM rfl ?_
  refine o_g y rfl rfl ?_
  refine oR (Ae rfl rfl rfl) ?_
  exact Ac ⟨rfl,rfl,⟨_,sP⟩⟩
 refine oM rfl ?_
 refine' Es (j:=6) (k:=3) y rfl rfl rfl rfl rfl rfl rfl (fun hg16=> ?_) ?_
 rotate_left
 ·try (simp at hg16;show _)
  refine o_g y rfl rfl ?_
  refine oM rfl ?_
  refine o_g y rfl rfl ?_
  refine oR (A7 rfl) ?_
  refine o_g y rfl rfl ?_
  refine oR (Ae rfl rfl rfl) ?_
  exact Ac ⟨rfl,rfl,⟨_,sP⟩⟩
 refine Ac<|n_K ?_
 refine Aj rfl (fun c20=> ?_) (fun c20=> ?_)
 ·skip
  have hres:C3 kind (Bq q.list)=(Jv,1):=(by unfold C3;rw [A25 (by unfold C6;rw [← hs9];exact c20)])
  refine Ad<|Aa fun ops=> ?_
  refine oR (Au rfl mM (by first | exact Bg | rfl)) ?_
  first | refine Af rfl rfl uD (Ct) (Ar) (B2 (by first | exact Ar | exact Azc ..)) ?_ | refine Af rfl rfl uD rfl rfl rfl ?_
  refine oA rfl<|Ac<|n_K<|An<|r_K ?_
  refine Aq (Bz Tryz.results145 (Bv rfl mM (by first | exact Bg | rfl)) (Ag rfl)) ?_ sP
  rw [← hs9];first | rw [hs9,hres] | (rw [← hb,hres])
 ·skip
  have hres:C3 kind (Bq q.list)=(Cw kind (Bq q.list),0):=(by unfold C3;rw [A26 (by unfold C6;rw [← hs9,c20];exact Az2)])
  have hlen:s9.list.length≤240:=(by simp at c20;omega)
  obtain ⟨body,hb⟩:∃ body,body=s9.list:=⟨_,rfl⟩
  rw [← hb] at hlen
  rw [← hs9,← hb] at hres
  refine Ai<|n_K<|Ad<|Aa fun ops=> ?_
  refine Aw rfl fun b7=> ?_
  rw [Ua]
  refine Ac<|n_K<|Ad<|Aa fun ops=>oM rfl<|oM rfl<|oR (A7 rfl) ?_
  refine oR (show Rd _ _ _ _ (bv (BitVec.ofNat 8 s9.list.length)) from by (unfold bv;rw [← Apn];exact C4 rfl)) ?_
  refine oR (Hd rfl rfl (by omega)) ?_
  first | refine Af (cs':=vbc (zeroD.set 0 kind)) rfl rfl uD rfl rfl (H7 (by omega) kind) ?_ | refine Af (cs':=vbc ((zeroD.set 0 kind).set 1 (BitVec.ofNat 8 s9.list.length))) rfl rfl uD rfl rfl (H7 (by omega) _) ?_
  refine oR (Hd rfl rfl (by omega)) ?_
  first | refine Af (cs':=vbc (zeroD.set 0 kind)) rfl rfl uD rfl rfl (H7 (by omega) kind) ?_ | refine Af (cs':=vbc ((zeroD.set 0 kind).set 1 (BitVec.ofNat 8 s9.list.length))) rfl rfl uD rfl rfl (H7 (by omega) _) ?_
  refine Ac<|n_K<|Ad<|Aa fun ops=> ?_
  refine oR (C5 (i:=2) (j:=256) rfl ⟨_,rfl⟩ rfl (by omega)) ?_
  refine oM rfl ?_
  refine G5 (cs':=vbc (Ag8 kind body)) rfl rfl (M5 pL) (by rw [← hb];omega) uD (by rw [← hb];exact Rw (by omega)) (Gg _) rfl ?_
  refine Ac<|n_K<|Ad ?_
  refine s_draw [] [(6,[(0,false),(1,false),(2,true),(3,true),(4,false),(5,true)]),(7,[(6,true)])] (by kernel_rfl) rfl fun ops w0 H0 y=> ?_
  refine A4 ?_
  refine xR (C5 (i:=252) (j:=256) rfl ⟨_,rfl⟩ rfl (by omega)) ?_
  refine xR (C5 (i:=0) (j:=252) rfl rfl ⟨_,rfl⟩ (by omega)) ?_
  refine Be ?_
  refine A5 rfl rfl rfl rfl fun b33=> ?_
  refine Ac ⟨rfl,⟨_,sP⟩,?_⟩
  refine Be ?_
  refine A6 rfl (Apm) sP rfl aQ ?_
  refine Ac ⟨rfl,⟨_,sP⟩,?_⟩
  refine xR (Ail rfl)<|Be ?_
  refine Bd rfl (Hr) sP rfl fun v36 Y36 h36=> ?_
  obtain ⟨s36,rfl,rfl,hs36,ho36⟩:=h36
  refine Ay aQ ?_
  refine Ac ⟨rfl,⟨_,sP⟩,?_⟩
  refine Am<|Bh<|Be ?_
  refine G5 (cs':=vbc (J6 kind body)) rfl rfl (M5 pL) (by rw [hs36,Bo];decide) uD (by rw [hs36];exact Rw (by rw [Bo];decide)) (Gg _) rfl ?_
  refine Ac ⟨rfl,⟨_,sP⟩,?_⟩
  refine Am<|Bm<|n_K<|Ad ?_
  refine s_draw [] [(2,[(0,false),(1,false)]),(3,[(2,true)])] (by kernel_rfl) rfl fun ops w0 H0 y=> ?_
  refine A4 ?_
  refine xR (C5 (i:=0) (j:=258) rfl rfl rfl (by omega)) ?_
  refine xR (C5 (i:=0) (j:=256) rfl rfl rfl (by omega)) ?_
  refine Am<|Bh<|Be ?_
  refine G5 (cs':=vbc (Zx Jv 0 (J6 kind body).toList)) rfl rfl (Cv (r:=true) mM Apo) (by decide) uD (Rw (by simp)) (Gg _) rfl ?_
  refine Ac ⟨rfl,⟨_,sP⟩,?_⟩
  refine Am<|Bm<|n_K<|Ad ?_
  refine s_draw [] [(5,[(0,false),(1,false),(2,true),(3,false),(4,true)]),(6,[(5,true)])] (by kernel_rfl) rfl fun ops w0 H0 y=> ?_
  refine A4 ?_
  refine xR (C5 (i:=256) (j:=258) rfl ⟨_,rfl⟩ rfl (by omega)) ?_
  refine xR (Au rfl mM (by first | exact Bg | rfl)) ?_
  refine Be ?_
  refine A6 rfl (Amt) sP rfl aQ ?_
  refine Ac ⟨rfl,⟨_,sP⟩,?_⟩
  refine xR (show Rd _ _ _ _ (wv (BitVec.ofNat 64 (Dm (J6 kind body)))) from G8 (Aj7 _) rfl) ?_
  refine Be ?_
  refine Bd rfl (Hr (x:=BitVec.ofNat 64 (Dm (J6 kind body)))) sP rfl fun v45 Y45 h45=> ?_
  obtain ⟨s45,rfl,rfl,hs45,ho45⟩:=h45
  refine Ay aQ ?_
  refine Ac ⟨rfl,⟨_,sP⟩,?_⟩
  refine Am<|Bh<|Be ?_
  refine G5 (cs':=vbc (Cw kind body)) rfl rfl (M5 pL) (by rw [hs45,Bo];decide) uD (by rw [hs45];exact Rw (by rw [Bo];decide)) (Gg _) rfl ?_
  refine Ac ⟨rfl,⟨_,sP⟩,?_⟩
  refine Am<|Bm<|n_K<|Ad<|Aa fun ops=> ?_
  refine oR (Au rfl mM (by first | exact Bg | rfl)) ?_
  first | refine Af rfl rfl uD (Ct) (Ar) (B2 (by first | exact Ar | exact Azc ..)) ?_ | refine Af rfl rfl uD rfl rfl rfl ?_
  refine oA rfl<|Ac<|n_K<|An ?_
  refine Aq (Bz Tryz.results145 (Bv rfl mM (by first | exact Bg | rfl)) (Ag rfl)) ?_ sP
  rw [← hs9];first | rw [hs9,hres] | (rw [← hb,hres])
theorem Z0 {b:Nat} {p:Pg}:Does Tryz.prog 102 [.slice (some ⟨b,256,none⟩) 2 2] [(b,true,C (vbc p) tPg)] (fun v H=>∃ r:Rdr,v=ptr r.b∧H=rdH r++([(b,true,C (vbc p) tPg)]++[])∧r.sl.list=(p.toList.drop 256).take 2∧r.bad=false):=by
 have h:=Fe (s:=Kt b p 256 2 2 tPg (by omega)) (T:=tPg) (by rw [G3,A0v];omega)
 rw [Jj (by omega),K9,G3] at h
 exact h
theorem App {b n:Nat} {d:Dat} (hn:n≤240):Does Tryz.prog 56 [.slice (some ⟨b,2,none⟩) n 254] [(b,true,C (vbc d) tDa)] (fun v H=>∃ s:Sl By,v=s.val∧H=s.hp tU8++([(b,true,C (vbc d) tDa)]++[])∧s.list=(d.toList.drop 2).take n∧s.isOwn=true):=by
 have h:=O0 (s:=Kt b d 2 n 254 tDa (by omega)) (T:=tDa) (by rw [G3,A0v];omega)
 rw [Jj (by omega),K9,G3] at h
 exact h
theorem Aj8 {s t:Sl By} {T U:TypeId}:Does Tryz.prog 146 [s.val,t.val] (s.hp T++(t.hp U++[])) (Is (.bool (decide (s.list=t.list))) (s.hp T++(t.hp U++[]))):=by
 refine Ah (n:=10) Tryz.func146 Tryz.ntmps146 rfl (Ay9 rfl)<|Ad<|Aa fun ops=>oA rfl<|Ac<|n_K<|Ad<|Aa fun ops=>oM rfl ?_
 refine oR (Li (T:=T) rfl (PickL.toSub pL)) ?_
 refine oM rfl ?_
 refine oR (Li (T:=U) rfl (PickL.toSub pL)) ?_
 refine oR (Aal rfl rfl)<|oA rfl<|Ac<|n_K<|An ?_
 refine Aq (At Tryz.results146 (Ag rfl)) ?_ sP
 rfl
theorem Ae2 {b c:Nat} {p:Pg} {d:Dat}:Does Tryz.prog 146 [.slice (some ⟨b,0,none⟩) 256 258,.slice (some ⟨c,0,none⟩) 256 256] [(b,true,C (vbc p) tPg),(c,true,C (vbc d) tDa)] (Is (.bool (decide (p.toList.take 256=d.toList))) [(b,true,C (vbc p) tPg),(c,true,C (vbc d) tDa)]):=by
 have h:=Aj8 (s:=Kt b p 0 256 258 tPg (by omega)) (t:=Kt c d 0 256 256 tDa (by omega)) (T:=tPg) (U:=tDa)
 rw [Jj (by omega),Jj (by omega),K9,K9,G3,G3,A1x,A1x,Ay4 (l:=d.toList) (by simp)] at h
 exact h
theorem H9 {b:Nat} {kind:By} {s:Sl By} (hl:s.list.length≤70000000000000):Does Tryz.prog 145 [bv kind,.slice (some ⟨b,0,none⟩) 1 1] ((b,true,C [s.val] tSB)::(s.hp tU8++[]))
  (Is (.tuple #[.agg (vbc (C3 kind s.list).1).toArray,.int .i64 (C3 kind s.list).2]) ((b,true,C [s.val] tSB)::(s.hp tU8++[]))):=by
 have e2:(Sl.own b [s] 1 [] ⟨by simp,A2q _,by simp⟩:Sl (Sl By)).list=[s]:=rfl
 have e3:Bq [s]=s.list:=by simp [Bq]
 have h:=M1 (kind:=kind) (q:= .own b [s] 1 [] ⟨by simp,A2q _,by simp⟩) (by rw [e2,e3];exact hl)
 have e:=Vh (b:=b) (s:=s) (L:=[])
 rw [e2,← e,e3] at h
 exact h
theorem Vi {b:Nat} {kind:By}:Does Tryz.prog 145 [bv kind,.slice (some ⟨b,0,none⟩) 1 1] [(b,true,C [.slice none 0 0] tSB)]
  (Is (.tuple #[.agg (vbc (C3 kind []).1).toArray,.int .i64 (C3 kind []).2]) [(b,true,C [.slice none 0 0] tSB)]):=by
 have h:=H9 (b:=b) (kind:=kind) (s:= .nil) (by decide)
 rw [Sl.hp_nil] at h
 exact h
theorem Atm {E:Env} {H:Hp} {x lo hi:Operand} {b n:Nat} (hx:ev E x=some (.pointer (some ⟨b,0,none⟩))) (hlo:ev E lo=some (.int .i64 2)) (hhi:ev E hi=some (.int .i64 ((2+n:Nat):Int))) (hn:n≤240) :
  Rd Tryz.prog E H (.slice tDa x (some lo) (some hi) none) (.slice (some ⟨b,2,none⟩) n 254):=by
 have:=C5 (P:=Tryz.prog) (H:=H) (t:=tDa) (i:=2) (j:=2+n) hx (lo:=some lo) (hi:=some hi) ⟨_,hlo⟩ ⟨_,hhi⟩ (by omega)
 rwa [show 2+n - 2=n by omega] at this
theorem La {p:Pg}:Does Tryz.prog 101 [.agg (vbc p).toArray] [] (fun v H=>∃ s:Sl By,v= .tuple #[bv (Cg p).1,s.val,.int .i64 (Cg p).2.2.1,.int .i64 (Cg p).2.2.2]∧H=s.hp tU8++[]∧s.list=(Cg p).2.1∧s.isOwn=true):=by
 have hck:=Aj5 p
 have hfl:=Apl (If p) (D1 p)
 have hpn:=Xu (D1 p &&& 57344)
 have hck2:D1 p &&& 57344<65536:=Nat.lt_of_le_of_lt A1m hck
 refine Ah (n:=71) Tryz.func101 Tryz.ntmps101 rfl (Ay9 rfl)<|Ad<|Aa fun ops=> ?_
 refine Ec rfl rfl fun b1=> ?_
 refine oA rfl<|oA rfl<|oA rfl<|oA rfl<|Ac<|n_K<|Ad<|Ad<|Aa fun ops=> ?_
 refine oR (Au rfl mM (by first | exact Bg | rfl)) ?_
 refine A6 rfl (L7) sP rfl aQ ?_
 refine Ac<|n_K ?_
 refine Aj rfl (fun c14=> ?_) (fun c14=> ?_)
 ·skip
  have hres:=E6 c14
  refine Ad<|Aa fun ops=>oA rfl<|oA rfl<|oA rfl<|oA rfl<|Ac<|n_K<|An<|r_K ?_
  exact Av (Om Tryz.results101 (Ag rfl) (Ag rfl) (Ag rfl) (Ag rfl)) (by refine ⟨Sl.nil,?_,rfl,?_,rfl⟩ <;> rw [hres] <;> rfl) (by rw [Sl.hp_nil];exact sP)
 ·skip
  have hb:Bs p=false:=c14
  refine Ai<|n_K<|Ad<|Aa fun ops=> ?_
  refine oR (C5 (i:=256) (j:=258) rfl ⟨_,rfl⟩ rfl (by omega)) ?_
  refine Bd rfl (Z0) sP rfl fun v16 Y16 h16=> ?_
  obtain ⟨r16,rfl,rfl,hr16,hbad16⟩:=h16
  refine Ay aQ ?_
  refine Bd rfl (Ff (n:=2) (by rw [hr16,A0v];omega)) sP rfl fun v17 Y17 h17=> ?_
  obtain ⟨x17,sl17,bad17,rfl,rfl,hx17,hsl17,hbb17⟩:=h17
  refine Ay aQ ?_
  refine oR (show Rd _ _ _ _ (.int .u16 ((D1 p:Nat):Int)) from by (rw [hr16,show Bl 2 8=2 from rfl] at hx17;unfold C7 at hx17;rw [A26 (by rw [A0v,A03,Azq];decide)] at hx17;rw [D1,← show x17=D9 ((p.toList.drop 256).take 2) 2 from by (rw [hx17];simp only;rw [Ay4 (l:=(p.toList.drop 256).take 2) (by rw [A0v];omega)])];exact G8 (Apk _) rfl)) ?_
  refine oA rfl<|Ac<|n_K<|Ad<|Aa fun ops=>oM rfl ?_
  refine oR (show Rd _ _ _ _ (.int .u16 ((D1 p &&& 57344:Nat):Int)) from by (rw [← Aj6 hck];exact Ae rfl rfl rfl)) ?_
  refine A6 rfl (Wr hck2) sP rfl aQ ?_
  refine oA rfl<|Ac<|n_K<|Ad<|Ad<|Aa fun ops=>oM rfl<|oR (Ae rfl rfl rfl)<|Ac<|n_K ?_
  refine Aj rfl (fun c23=> ?_) (fun c23=> ?_)
  ·simp only [A0d,Ayz] at c23
   have hres:=Q1 hb (by omega)
   refine Ad<|Aa fun ops=>oA rfl<|oA rfl<|oA rfl<|oA rfl<|Ac<|n_K<|An<|r_K ?_
   exact Av (Om Tryz.results101 (Ag rfl) (Ag rfl) (Ag rfl) (Ag rfl)) (by refine ⟨Sl.nil,?_,rfl,?_,rfl⟩ <;> rw [hres] <;> rfl) (by rw [Sl.hp_nil];exact sP)
  ·simp only [A0d,Ayz] at c23
   have hab:¬ 1<Gm (D1 p &&& 57344):=(by omega)
   obtain ⟨f,hf⟩:∃ f,Dn (If p) (D1 p)=f:=⟨_,rfl⟩
   rw [hf] at hfl
   refine Ai<|n_K<|Ad<|Aa fun ops=> ?_
   refine oR (C5 (i:=0) (j:=256) rfl rfl ⟨_,rfl⟩ (by omega)) ?_
   refine oR (At5 rfl (by decide)) ?_
   refine oR (Au rfl mM (Apj p)) ?_
   refine oM rfl ?_
   refine A6 rfl ((Auk (d:=If p) hck).to (by rw [hf]) rfl) sP rfl aQ ?_
   refine oM rfl<|oE rfl rfl<|oE rfl rfl<|oE rfl rfl ?_
   refine Aw rfl fun b8=> ?_
   first | refine Af rfl rfl uD (Ct) (Ar) (B2 (by first | exact Ar | exact Azc ..)) ?_ | refine Af rfl rfl uD rfl rfl rfl ?_
   refine oA rfl<|oA rfl<|Ac<|n_K<|Ad<|Ad<|Aa fun ops=>oM rfl<|oR (Ae rfl rfl rfl)<|Ac<|n_K ?_
   refine Aj rfl (fun c34=> ?_) (fun c34=> ?_)
   ·skip
    have hres:=Aha hb hab (by rw [hf];simpa using c34)
    rw [hf] at hres
    refine Ad<|Aa fun ops=>oM rfl<|oA rfl<|oA rfl<|oA rfl<|oA rfl<|Ac<|n_K<|An<|r_K ?_
    exact Av (Om Tryz.results101 (Ag rfl) (Ag rfl) (Ag rfl) (Ag rfl)) (by refine ⟨Sl.nil,?_,rfl,?_,rfl⟩ <;> rw [hres] <;> rfl) (by rw [Sl.hp_nil];exact sP)
   ·skip
    have he:f.2.2=0:=(by simpa using c34)
    have hd1:=f.1[1].isLt
    refine Ai<|n_K<|Ad<|Aa fun ops=> ?_
    refine oR (Gs rfl rfl (by omega)) ?_
    refine oR (Al rfl mM (show nth (vbc f.1) 1=some (bv f.1[1]) from Gt (by decide))) ?_
    refine oR (show Rd _ _ _ _ (.int .i64 ((f.1[1].toNat:Nat):Int)) from Ft rfl (Yq (by omega))) ?_
    refine oA rfl<|Ac<|n_K<|Ad<|Ad<|Aa fun ops=>oM rfl<|oR (Ae rfl rfl rfl)<|Ac<|n_K ?_
    refine Aj rfl (fun c40=> ?_) (fun c40=> ?_)
    ·simp only [A0d,Ayz] at c40
     have hbody:Gp f.1=(f.1.toList.drop 2).take f.1[1].toNat:=(by unfold Gp;rw [A25 (by omega)])
     refine Aa fun ops=>oM rfl ?_
     refine oR (show Rd _ _ _ _ (.int .i64 ((2+f.1[1].toNat:Nat):Int)) from Sb (a:=2) rfl rfl (by omega)) ?_
     refine oR (Atm rfl rfl rfl (by omega)) ?_
     refine Bd rfl (App (n:=f.1[1].toNat) (by omega)) sP rfl fun v44 Y44 h44=> ?_
     obtain ⟨s44,rfl,rfl,hs44,ho44⟩:=h44
     refine Ay aQ ?_
     refine oA rfl<|Ac<|n_K<|Ad<|Aa fun ops=> ?_
     refine oR (Gs rfl rfl (by omega)) ?_
     refine oR (Al rfl mM (show nth (vbc f.1) 0=some (bv f.1[0]) from Gt (by decide))) ?_
     refine oM rfl ?_
     refine A5 rfl rfl rfl rfl fun b49=> ?_
     refine A6 rfl ((by first | exact H9 (s:=s44) (by rw [hs44,A0v];omega) | exact Vi)) sP rfl aQ ?_
     refine oM rfl<|oE rfl rfl<|oE rfl rfl ?_
     refine Aw rfl fun b12=> ?_
     first | refine Af rfl rfl uD (Ct) (Ar) (B2 (by first | exact Ar | exact Azc ..)) ?_ | refine Af rfl rfl uD rfl rfl rfl ?_
     refine oA rfl<|Ac<|n_K<|Ad<|Ad ?_
     refine s_draw [(2,55),(6,59)] [(6,[(0,false),(1,false),(2,false),(3,false),(4,false),(5,false)]),(12,[(6,false),(7,false),(8,false),(9,true),(10,false),(11,false)])] (by kernel_rfl) rfl fun ops w0 H0 y=> ?_
     refine A4<|xM rfl<|xR (Ae rfl rfl rfl)<|xM rfl ?_
     refine' Qa (j:=2) (k:=2) y rfl rfl rfl rfl rfl rfl rfl (fun hg55=> ?_) ?_
     rotate_left
     ·try (simp at hg55;show _)
      refine x_g y rfl rfl ?_
      refine xM rfl ?_
      refine x_g y rfl rfl ?_
      refine xR (Ae rfl rfl rfl) ?_
      exact Am ⟨rfl,⟨_,sP⟩⟩
     refine Am<|A4<|xM rfl ?_
     refine' Qa (j:=6) (k:=4) y rfl rfl rfl rfl rfl rfl rfl (fun hg59=> ?_) ?_
     rotate_left
     ·try (simp at hg59;show _)
      refine x_g y rfl rfl ?_
      refine xR (C5 (i:=0) (j:=256) rfl rfl ⟨_,rfl⟩ (by omega)) ?_
      refine x_g y rfl rfl ?_
      refine xR (C5 (i:=0) (j:=256) rfl rfl rfl (by omega)) ?_
      refine x_g y rfl rfl ?_
      refine Be ?_
      refine A6 rfl (Ae2) sP rfl aQ ?_
      refine Ac ⟨rfl,⟨_,sP⟩,?_⟩
      refine x_g y rfl rfl ?_
      refine xR (Bx rfl) ?_
      exact Am ⟨rfl,⟨_,sP⟩⟩
     refine Am<|Bm<|n_K ?_
     refine Aj rfl (fun c64=> ?_) (fun c64=> ?_)
     ·skip
      refine Ad<|Aa fun ops=>oA rfl<|oA rfl<|oA rfl<|oA rfl<|Ac<|n_K<|An<|r_K ?_
      exact Av (Om Tryz.results101 (Ag rfl) (Ag rfl) (Ag rfl) (Ag rfl)) (by have h4:=Avk c64;rw [hs44,← hbody] at h4;have hres:=Vg hf hb hab he (by rcases h4 with h | h | h;exact .inl h;exact .inr (.inl (by omega));exact .inr (.inr h));refine ⟨Sl.nil,?_,rfl,?_,rfl⟩ <;> rw [hres] <;> rfl) (by rw [Sl.hp_nil];exact sP)
     ·skip
      refine Ai<|n_K<|Ad<|Aa fun ops=> ?_
      refine oR (Gs rfl rfl (by omega)) ?_
      refine oR (Al rfl mM (show nth (vbc f.1) 0=some (bv f.1[0]) from Gt (by decide))) ?_
      refine oM rfl<|oM rfl<|oM rfl ?_
      refine oR (Ao rfl rfl (by omega)) ?_
      refine oA rfl<|oA rfl<|oA rfl<|oA rfl<|Ac<|n_K<|An ?_
      exact Av (Om Tryz.results101 (Ag rfl) (Ag rfl) (Ag rfl) (Ag rfl)) (by have h4:=As1 c64;rw [hs44,← hbody] at h4;have hres:=Zy hf hb hab he (by rintro (h | h | h);exact h h4.1;exact h4.2.1 (by omega);exact h h4.2.2);refine ⟨s44,?_,rfl,?_,ho44⟩ <;> rw [hres];rw [hs44,hbody]) sP
    ·simp only [A0d,Ayz] at c40
     have hbody:Gp f.1=[]:=(by unfold Gp;rw [A26 (by omega)])
     refine Ai<|n_K<|Ad<|Aa fun ops=> ?_
     refine oR (Gs rfl rfl (by omega)) ?_
     refine oR (Al rfl mM (show nth (vbc f.1) 0=some (bv f.1[0]) from Gt (by decide))) ?_
     refine oM rfl ?_
     refine A5 rfl rfl rfl rfl fun b49=> ?_
     refine A6 rfl ((by first | exact H9 (s:=s44) (by rw [hs44,A0v];omega) | exact Vi)) sP rfl aQ ?_
     refine oM rfl<|oE rfl rfl<|oE rfl rfl ?_
     refine Aw rfl fun b12=> ?_
     first | refine Af rfl rfl uD (Ct) (Ar) (B2 (by first | exact Ar | exact Azc ..)) ?_ | refine Af rfl rfl uD rfl rfl rfl ?_
     refine oA rfl<|Ac<|n_K<|Ad<|Ad ?_
     refine s_draw [(2,55),(6,59)] [(6,[(0,false),(1,false),(2,false),(3,false),(4,false),(5,false)]),(12,[(6,false),(7,false),(8,false),(9,true),(10,false),(11,false)])] (by kernel_rfl) rfl fun ops w0 H0 y=> ?_
     refine A4<|xM rfl<|xR (Ae rfl rfl rfl)<|xM rfl ?_
     refine' Qa (j:=2) (k:=2) y rfl rfl rfl rfl rfl rfl rfl (fun hg55=> ?_) ?_
     rotate_left
     ·try (simp at hg55;show _)
      refine x_g y rfl rfl ?_
      refine xM rfl ?_
      refine x_g y rfl rfl ?_
      refine xR (Ae rfl rfl rfl) ?_
      exact Am ⟨rfl,⟨_,sP⟩⟩
     refine Am<|A4<|xM rfl ?_
     refine' Qa (j:=6) (k:=4) y rfl rfl rfl rfl rfl rfl rfl (fun hg59=> ?_) ?_
     rotate_left
     ·try (simp at hg59;show _)
      refine x_g y rfl rfl ?_
      refine xR (C5 (i:=0) (j:=256) rfl rfl ⟨_,rfl⟩ (by omega)) ?_
      refine x_g y rfl rfl ?_
      refine xR (C5 (i:=0) (j:=256) rfl rfl rfl (by omega)) ?_
      refine x_g y rfl rfl ?_
      refine Be ?_
      refine A6 rfl (Ae2) sP rfl aQ ?_
      refine Ac ⟨rfl,⟨_,sP⟩,?_⟩
      refine x_g y rfl rfl ?_
      refine xR (Bx rfl) ?_
      exact Am ⟨rfl,⟨_,sP⟩⟩
     refine Am<|Bm<|n_K ?_
     refine Aj rfl (fun c64=> ?_) (fun c64=> ?_)
     ·skip
      refine Ad<|Aa fun ops=>oA rfl<|oA rfl<|oA rfl<|oA rfl<|Ac<|n_K<|An<|r_K ?_
      exact Av (Om Tryz.results101 (Ag rfl) (Ag rfl) (Ag rfl) (Ag rfl)) (by have hres:=Vg hf hb hab he (.inr (.inl (by omega)));refine ⟨Sl.nil,?_,rfl,?_,rfl⟩ <;> rw [hres] <;> rfl) (by rw [Sl.hp_nil];exact sP)
     ·skip
      refine Ai<|n_K<|Ad<|Aa fun ops=> ?_
      refine oR (Gs rfl rfl (by omega)) ?_
      refine oR (Al rfl mM (show nth (vbc f.1) 0=some (bv f.1[0]) from Gt (by decide))) ?_
      refine oM rfl<|oM rfl<|oM rfl ?_
      refine oR (Ao rfl rfl (by omega)) ?_
      refine oA rfl<|oA rfl<|oA rfl<|oA rfl<|Ac<|n_K<|An ?_
      exact Av (Om Tryz.results101 (Ag rfl) (Ag rfl) (Ag rfl) (Ag rfl)) (by exfalso;have h4:=As1 c64;exact h4.2.1 (by omega)) sP
end
section
open Go.K
instance agg225:Agg Tryz.prog 225 true:=⟨⟨_,Tryz.underlying225,rfl⟩⟩
instance siz225:Siz Tryz.prog 225 2:=⟨by kernel_rfl⟩
instance zer3:Zer Tryz.prog 3 ([.int .i64 0]):=⟨by kernel_rfl⟩
instance zer29:Zer Tryz.prog 29 ([.int .u64 0]):=⟨by kernel_rfl⟩
instance zer225:Zer Tryz.prog 225 ([.slice none 0 0,.slice none 0 0]):=⟨by kernel_rfl⟩
instance fld225_0:Fld Tryz.prog 225 0 0:=⟨⟨_,_,0,Tryz.underlying225,rfl,by kernel_rfl,rfl⟩⟩
instance fld225_1:Fld Tryz.prog 225 1 1:=⟨⟨_,_,0,Tryz.underlying225,rfl,by kernel_rfl,rfl⟩⟩
instance plc225:Plc Tryz.prog 225 [(0,1),(1,1)]:=⟨⟨_,Tryz.underlying225,fun _=>by kernel_rfl⟩⟩
instance byt3:Byt Tryz.prog 3 8:=⟨by kernel_rfl⟩
instance ent72:Ent Tryz.prog 72:=⟨fun _ _=>by kernel_rfl⟩
instance ent88:Ent Tryz.prog 88:=⟨fun _ _=>by kernel_rfl⟩
instance ent133:Ent Tryz.prog 133:=⟨fun _ _=>by kernel_rfl⟩
instance ent157:Ent Tryz.prog 157:=⟨fun _ _=>by kernel_rfl⟩
instance ent168:Ent Tryz.prog 168:=⟨fun _ _=>by kernel_rfl⟩
instance ent172:Ent Tryz.prog 172:=⟨fun _ _=>by kernel_rfl⟩
instance ent178:Ent Tryz.prog 178:=⟨fun _ _=>by kernel_rfl⟩
instance ent215:Ent Tryz.prog 215:=⟨fun _ _=>by kernel_rfl⟩
instance ent244:Ent Tryz.prog 244:=⟨fun _ _=>by kernel_rfl⟩
abbrev tPl:TypeId:=225
abbrev tTb:TypeId:=227
theorem Aer {c:Chip}:Does Tryz.prog 168 [ptr c.aC] (chH c) (Is (.int .i64 (Aww c 0 0)) (chH c)):=by
 refine Ah (n:=11) Tryz.func168 Tryz.ntmps168 rfl (Ay9 rfl)<|Ad<|Aa fun ops=>oA rfl<|Ac<|n_K<|Ad<|Aa fun ops=>oM rfl ?_
 refine A6 rfl (Yi) sP rfl aQ ?_
 refine oM rfl<|oE rfl rfl<|oE rfl rfl ?_
 refine Aw rfl fun b3=> ?_
 first | refine Af rfl rfl uD (Ct) (Ar) (B2 (by first | exact Ar | exact Azc ..)) ?_ | refine Af rfl rfl uD rfl rfl rfl ?_
 refine oA rfl<|Ac<|n_K<|Ad<|Aa fun ops=>oM rfl<|oA rfl<|Ac<|n_K<|An ?_
 refine Aq (At Tryz.results168 (Ag rfl)) ?_ sP
 rfl
theorem Auy {x:Int}:Does Tryz.prog 215 [.int .i64 x] [] (Is (.bool false) []):=by
 refine Ah (n:=6) Tryz.func215 Tryz.ntmps215 rfl (Ay9 rfl)<|Ad<|Aa fun ops=>oA rfl<|Ac<|n_K<|Ad<|Aa fun ops=>oM rfl<|oM rfl<|oR (Ae rfl rfl rfl)<|oA rfl<|Ac<|n_K ?_
 refine An ?_
 refine Aq (At Tryz.results215 (Ag rfl)) ?_ sP
 simp
theorem Ase {x y:Int}:Does Tryz.prog 178 [.int .i64 x,.int .i64 y] [] (Is (.bool (decide (x<y))) []):=by
 refine Ah (n:=17) Tryz.func178 Tryz.ntmps178 rfl (Ay9 rfl)<|Ad<|Aa fun ops=>oA rfl<|Ac<|n_K<|Ad ?_
 refine Bf [(2,7),(7,12)] rfl fun ops y=> ?_
 refine oM rfl ?_
 refine A6 rfl (Auy) sP rfl aQ ?_
 refine oM rfl ?_
 refine' Df (j:=2) (k:=3) (u:=false) y rfl rfl rfl rfl rfl rfl rfl (fun hg7=>absurd hg7 (by simp)) ?_
 refine oM rfl ?_
 refine' Es (j:=7) (k:=3) y rfl rfl rfl rfl rfl rfl rfl (fun hg12=> ?_) ?_
 rotate_left
 ·try (simp at hg12;show _)
  refine o_g y rfl rfl ?_
  refine oM rfl ?_
  refine o_g y rfl rfl ?_
  refine oM rfl ?_
  refine o_g y rfl rfl ?_
  refine oR (Ae rfl rfl rfl) ?_
  exact Ac ⟨rfl,rfl,⟨_,sP⟩⟩
 refine oA rfl<|Ac<|n_K<|An ?_
 refine Aq (At Tryz.results178 (Ag rfl)) ?_ sP
 simp
theorem Kq {α:Type} [Cel α] {s:Sl α} (h:s.isOwn=true):s.off=0:=by cases s <;> first | rfl | simp [Sl.isOwn] at h
theorem Ajf {l:List Int} {i j:Nat} {a b:Int} (hi:l[i]? =some a) (hj:l[j]? =some b):((l.set i b).set j a).Perm l:=by
 obtain ⟨h1,rfl⟩:=Aym.1 hi
 obtain ⟨h2,rfl⟩:=Aym.1 hj
 exact List.set_set_perm h1 h2
theorem Zc {s:Sl Int} (ho:s.isOwn=true):Does Tryz.prog 172 [s.val,.int .i64 0,.int .i64 s.list.length] (s.hp tI++[]) (fun v H=>v= .tuple #[]∧∃ s':Sl Int,H=s'.hp tI++[]∧s'.val=s.val∧s'.isOwn=true∧s'.list.Perm s.list):=by
 have hsm:=s.small
 refine Ah (n:=49) Tryz.func172 Tryz.ntmps172 rfl (Ay9 rfl)<|Ad<|Aa fun ops=>oM rfl ?_
 refine oR (Ao rfl rfl (by omega)) ?_
 refine oA rfl<|Ac<|n_K<|Ak ?_
 refine A8 [0,1,2] kQ (fun (st:Int×Sl Int)=>[(6,.int .i64 st.1)]) (fun (st:Int×Sl Int)=>(st.2.hp tI++[])) (fun (st:Int×Sl Int)=>1≤st.1∧st.2.val=s.val∧st.2.isOwn=true∧st.2.list.Perm s.list) (fun (st:Int×Sl Int)=>((s.list.length:Int) - st.1).toNat) ((0+1,s)) ⟨by show (1:Int)≤0+1;omega,rfl,ho,List.Perm.refl _⟩ kP sP ?_
 rintro ⟨i,s1⟩ ⟨h0,h1,h2,h3⟩
 simp only at h0 h1 h2 h3
 refine Ad<|Ad<|Aa fun ops=>oM rfl<|oM rfl<|oR (Ae rfl rfl rfl)<|Ac<|n_K ?_
 refine Aj rfl (fun c12=> ?_) (fun c12=> ?_)
 ·simp only [A0d,Ayz] at c12
  refine Ai<|n_K<|Ad<|Ak<|Ad<|Aa fun ops=>oM rfl<|oA rfl<|Ac<|n_K<|Ak ?_
  refine A8 [0,1,2,6] kQ (fun (st:Int×Sl Int)=>[(7,.int .i64 st.1)]) (fun (st:Int×Sl Int)=>(st.2.hp tI++[])) (fun (st:Int×Sl Int)=>0≤st.1∧st.1≤i∧st.2.val=s.val∧st.2.isOwn=true∧st.2.list.Perm s.list) (fun (st:Int×Sl Int)=>st.1.toNat) ((i,s1)) ⟨by omega,A2p _,h1,h2,h3⟩ kP sP ?_
  rintro ⟨j,s2⟩ ⟨k0,k1,k2,k3,k4⟩
  simp only at k0 k1 k2 k3 k4
  have hlen:s2.list.length=s.list.length:=k4.length_eq
  have hoff:=Kq k3
  refine Ad<|Ad ?_
  refine s_draw [(3,19)] [(3,[(0,false),(1,false),(2,false)]),(15,[(3,false),(4,false),(5,false),(6,false),(7,false),(8,false),(9,false),(10,false),(11,false),(12,false),(13,true),(14,false)])] (by kernel_rfl) rfl fun ops w0 H0 y=> ?_
  refine A4<|xM rfl<|xM rfl<|xR (Ae rfl rfl rfl)<|Am<|A4<|xM rfl ?_
  refine' Hx (j:=3) (k:=10) y rfl rfl rfl rfl rfl rfl rfl (fun hg19=> ?_) ?_
  rotate_left
  ·try (simp at hg19;show _)
   refine x_g y rfl rfl ?_
   refine xM rfl ?_
   refine x_g y rfl rfl ?_
   refine xM rfl ?_
   refine x_g y rfl rfl ?_
   refine xR (Bk (s:=s2) (by rw [k2];rfl) rfl ⟨k0,by omega⟩) ?_
   refine x_g y rfl rfl ?_
   refine xR (C0 (s:=s2) (o:=0) rfl pL (Hz k0 (by omega)) rfl rfl) ?_
   refine x_g y rfl rfl ?_
   refine xM rfl ?_
   refine x_g y rfl rfl ?_
   refine xM rfl ?_
   refine x_g y rfl rfl ?_
   refine xR (Cy rfl rfl (by omega)) ?_
   refine x_g y rfl rfl ?_
   refine xR (Bk (s:=s2) (by rw [k2];rfl) rfl ⟨by omega,by omega⟩) ?_
   refine x_g y rfl rfl ?_
   refine xR (C0 (s:=s2) (o:=0) rfl pL (Hz (i:=j - 1) (by omega) (by omega)) rfl rfl) ?_
   refine x_g y rfl rfl ?_
   refine Be ?_
   refine A6 rfl (Ase) sP rfl aQ ?_
   refine Ac ⟨rfl,⟨_,sP⟩,?_⟩
   exact Am ⟨rfl,⟨_,sP⟩⟩
  refine Am<|Bm<|n_K ?_
  refine Aj rfl (fun c30=> ?_) (fun c30=> ?_)
  ·skip
   have hj:0<j:=(by simp at c30;exact c30.1)
   have ga:=Hz (xs:=s2.list) k0 (by omega)
   have gb:=Hz (xs:=s2.list) (i:=j - 1) (by omega) (by omega)
   obtain ⟨s3,hs3⟩:∃ s3,s3=s2.set j.toNat (at0 s2.list (j - 1)):=⟨_,rfl⟩
   have q1:s3.val=s.val:=(by rw [hs3,Sl.set_val,k2])
   have q2:s3.list=s2.list.set j.toNat (at0 s2.list (j - 1)):=(by rw [hs3,Sl.set_list _ _ _ k3])
   have q3:s3.isOwn=true:=(by rw [hs3];exact Sl.set_isOwn _ _ _ k3)
   have q4:s3.list[(j - 1).toNat]? =some (at0 s2.list (j - 1)):=(by rw [q2,Azl (by omega)];exact gb)
   refine Ai<|n_K<|Ad<|Ak ?_
   refine He [] [0,1,2,3,4,5,6,7,8,10,11,12] [[(9,false),(13,false)],[(14,false)],[(15,true)],[(16,false)],[(17,true)]] (by kernel_rfl) rfl rfl fun ops w0 H0 y=> ?_
   unfold Tg
   refine xM rfl<|xM rfl<|xM rfl<|xM rfl ?_
   refine xR (Cy rfl rfl (by omega)) ?_
   refine xM rfl<|xM rfl ?_
   refine xR (Cy rfl rfl (by omega)) ?_
   refine xR (Bk (s:=s2) (by rw [k2];rfl) rfl ⟨by omega,by omega⟩) ?_
   refine xM rfl<|xM rfl ?_
   refine xR (Bk (s:=s2) (by rw [k2];rfl) rfl ⟨by omega,by omega⟩) ?_
   refine Am<|A4 ?_
   refine xR (C0 (s:=s2) (o:=0) rfl pL gb rfl rfl) ?_
   refine xR (C0 (s:=s2) (o:=0) rfl pL ga rfl rfl) ?_
   refine Am<|A4 ?_
   refine xR (Bk (s:=s2) (by rw [k2];rfl) rfl ⟨by omega,by omega⟩) ?_
   refine Am<|Bh<|Be ?_
   first | (refine Fb (s:=s2) (o:=0) (z':=at0 s2.list (j - 1)) rfl rfl uL k3 ga rfl rfl rfl (by rw [hoff];exact A2g _) ?_;rw [← hs3]) | refine Fb (s:=s3) (o:=0) (z':=at0 s2.list j) rfl rfl uL q3 q4 rfl rfl rfl (by rw [Kq q3];exact A2g _) ?_
   refine Ac ⟨rfl,⟨_,sP⟩,?_⟩
   refine Am<|A4 ?_
   refine xR (Bk (s:=s3) (by rw [q1];rfl) rfl ⟨by omega,by rw [q2,A1f];omega⟩) ?_
   refine Am<|Bh<|Be ?_
   first | (refine Fb (s:=s2) (o:=0) (z':=at0 s2.list (j - 1)) rfl rfl uL k3 ga rfl rfl rfl (by rw [hoff];exact A2g _) ?_;rw [← hs3]) | refine Fb (s:=s3) (o:=0) (z':=at0 s2.list j) rfl rfl uL q3 q4 rfl rfl rfl (by rw [Kq q3];exact A2g _) ?_
   refine Ac ⟨rfl,⟨_,sP⟩,?_⟩
   refine Am<|Bm<|Az<|n_K<|Aa fun ops=>oM rfl ?_
   refine oR (Cy rfl rfl (by omega)) ?_
   refine oA rfl<|Ac<|n_K ?_
   exact ⟨(j - 1,s3.set (j - 1).toNat (at0 s2.list j)),⟨by simp only;omega,by simp only;omega,by rw [Sl.set_val,q1],Sl.set_isOwn _ _ _ q3,by simp only;rw [Sl.set_list _ _ _ q3,q2];exact (Ajf ga gb).trans k4⟩,(by simp only;omega),lZ⟩
  ·skip
   refine Bb<|x_K<|x_K<|Bj<|Az<|n_K<|Aa fun ops=>oM rfl ?_
   refine oR (Ao rfl rfl (by omega)) ?_
   refine oA rfl<|Ac<|n_K ?_
   exact ⟨(i+1,s2),⟨by simp only;omega,k2,k3,k4⟩,(by simp only;omega),lZ⟩
 ·simp only [A0d,Ayz] at c12
  refine Bb<|x_K<|x_K<|Bj ?_
  exact H5 (Ml Tryz.results172) (by exact ⟨rfl,s1,rfl,h1,h2,h3⟩) sP
theorem Auz {s:Sl Int} {x:Int} (ho:s.isOwn=true) (hn:s.list.length≤12):Does Tryz.prog 133 [s.val,.int .i64 0,.int .i64 s.list.length,.int .i64 x] (s.hp tI++[]) (fun v H=>v= .tuple #[]∧∃ s':Sl Int,H=s'.hp tI++[]∧s'.val=s.val∧s'.isOwn=true∧s'.list.Perm s.list):=by
 refine Ah (n:=134) Tryz.func133 Tryz.ntmps133 rfl (Ay9 rfl)<|Ad<|Aa fun ops=>oA rfl<|Ac<|n_K<|Ad<|Aa fun ops=>oA rfl<|Ac<|n_K<|Ak ?_
 refine D7 [0,1,2,3] kQ (fun (_u:Unit)=>[]) (fun (_u:Unit)=>True) (fun (_u:Unit)=>0) (()) (by first | trivial | omega | simp) kP ?_
 rintro _ _
 refine Ak<|Ad<|Aa fun ops=>oM rfl<|oM rfl ?_
 refine oR (Cy rfl rfl (by omega)) ?_
 refine oA rfl<|Ac<|n_K<|Ad<|Ad<|Aa fun ops=>oM rfl<|oR (Ae rfl rfl rfl)<|Ac<|n_K ?_
 refine Aj rfl (fun c23=> ?_) (fun c23=> ?_)
 ·simp only [A0d,Ayz] at c23
  refine Ad<|Aa fun ops=>oM rfl<|oM rfl<|oM rfl ?_
  refine Bd rfl (Zc ho) sP rfl fun v27 Y27 h27=> ?_
  obtain ⟨rfl,s27,rfl,hv27,ho27,hp27⟩:=h27
  refine Ay aQ ?_
  refine Ac<|n_K<|An<|r_K<|Bn<|r_K<|Bn ?_
  exact Av (Ml Tryz.results133) (by exact ⟨rfl,s27,rfl,hv27,ho27,hp27⟩) sP
 ·simp only [A0d,Ayz] at c23
  omega
theorem Asf {s:Sl Int} (ho:s.isOwn=true) (hn:s.list.length≤12):Does Tryz.prog 88 [s.val] (s.hp tI++[]) (fun v H=>v= .tuple #[]∧∃ s':Sl Int,H=s'.hp tI++[]∧s'.val=s.val∧s'.isOwn=true∧s'.list.Perm s.list):=by
 refine Ah (n:=11) Tryz.func88 Tryz.ntmps88 rfl (Ay9 rfl)<|Ad<|Aa fun ops=>oM rfl<|oR (A7 rfl)<|oA rfl<|Ac<|n_K<|Aa fun ops=>oM rfl<|oM rfl<|oM rfl ?_
 refine oR (Ft rfl (Hg .u64 rfl (by show _<2 ^ 64;omega))) ?_
 refine A6 rfl (Ad6 (n:=s.list.length) (by omega)) sP rfl aQ ?_
 refine Bd rfl (Auz ho hn) sP rfl fun v10 Y10 h10=> ?_
 obtain ⟨rfl,s10,rfl,hv10,ho10,hp10⟩:=h10
 refine Ay aQ ?_
 refine Ac ?_
 exact H5 (Ml Tryz.results88) (by exact ⟨rfl,s10,rfl,hv10,ho10,hp10⟩) sP
theorem Qs {s:Sl Int} {T:TypeId} (hs:s.list.length≤1000):Does Tryz.prog 72 [s.val] (s.hp T++[]) (fun v H=>∃ s':Sl Int,v=s'.val∧H=(s'.hp tI++(s.hp T++[]))∧s'.list=s.list∧s'.isOwn=true):=by
 refine Ah (n:=8) Tryz.func72 Tryz.ntmps72 rfl (Ay9 rfl)<|Ad<|Aa fun ops=>oA rfl<|Ac<|n_K<|Ad<|Ad<|Aa fun ops=>oM rfl<|oR (V9 rfl rfl)<|Ac<|n_K ?_
 refine Aj rfl (fun c4=> ?_) (fun c4=> ?_)
 ·skip
  have hn:=Sl.nil_of s c4
  subst hn
  refine Ad<|Aa fun ops=>oA rfl<|Ac<|n_K<|An<|r_K ?_
  exact Av (At Tryz.results72 (Ag rfl)) (by refine ⟨Sl.nil,rfl,rfl,rfl,rfl⟩) (by simp only [Sl.hp_nil,A1k];exact Split.nil)
 ·skip
  refine Ai<|n_K<|Ad<|Aa fun ops=> ?_
  refine A5 rfl rfl rfl rfl fun b5=> ?_
  refine Q5 (Amn (α:=Int) (b:=b5) (T:=tI)) ?_
  refine oM rfl ?_
  refine Bp (s:=mt Int b5) (new:=s.list) (m:=s.list.length) rfl rfl pL rfl (M5 pL) rfl rfl rfl rfl (by rw [show (mt Int b5).list.length=0 from rfl];omega) rfl fun s' hs1 hs2=> ?_
  refine oA rfl<|Ac<|n_K<|An ?_
  exact Av (At Tryz.results72 (Ag rfl)) (by exact ⟨s',rfl,rfl,by rw [hs1];rfl,hs2⟩) sP
theorem Ajg {u l:Sl Int} (hu:u.list.length≤1000) (hl:l.list.length≤1000):Does Tryz.prog 244 [.agg #[u.val,l.val]] (u.hp tI++(l.hp tI++[])) (fun v H=>∃ u' l':Sl Int,v= .agg #[u'.val,l'.val]∧H=u'.hp tI++(l'.hp tI++(u.hp tI++(l.hp tI++[])))∧u'.list=u.list∧l'.list=l.list∧u'.isOwn=true∧l'.isOwn=true):=by
 refine Ah (n:=10) Tryz.func244 Tryz.ntmps244 rfl (Ay9 rfl)<|Ad<|Aa fun ops=> ?_
 refine De rfl rfl fun b1=> ?_
 refine Aw rfl fun b2=> ?_
 refine Ac<|n_K<|Ad ?_
 refine s_draw [] [(5,[(0,false),(1,false),(3,false),(4,false),(2,true)]),(6,[(5,true)]),(7,[(6,false)]),(8,[(7,true)])] (by kernel_rfl) rfl fun ops w0 H0 y=> ?_
 refine A4<|xF rfl ?_
 refine xR (Al rfl mM rfl) ?_
 refine xF rfl ?_
 refine xR (Al rfl mM rfl) ?_
 refine Be ?_
 refine Bd rfl (Qs hu) sP rfl fun v5 Y5 h5=> ?_
 obtain ⟨s5,rfl,rfl,hs5,ho5⟩:=h5
 refine Ay aQ ?_
 refine Ac ⟨rfl,⟨_,sP⟩,?_⟩
 refine Am<|Bh<|Be ?_
 refine Bd rfl (Qs hl) sP rfl fun v8 Y8 h8=> ?_
 obtain ⟨s8,rfl,rfl,hs8,ho8⟩:=h8
 refine Ay aQ ?_
 refine Ac ⟨rfl,⟨_,sP⟩,?_⟩
 refine Am<|A4<|xR (Bc rfl rfl)<|Am<|Bh<|Be ?_
 refine Af rfl rfl uD rfl rfl rfl ?_
 refine Ac ⟨rfl,⟨_,sP⟩,?_⟩
 refine Am<|Bm<|n_K<|An ?_
 exact Av (At Tryz.results244 (Bv rfl mM rfl)) (by exact ⟨s5,s8,rfl,rfl,hs5,hs8,ho5,ho8⟩) sP
theorem Acf (i:Int):IntKind.u8.wrap i=((Fx i).toNat:Int):=Ex .u8 rfl i
theorem J3 (i:Int):IntKind.u64.wrap i=((BitVec.ofInt 64 i).toNat:Int):=Ex .u64 rfl i
theorem Aes {b:Nat} {kind:By} {s1 s2 s3 s4:Sl By} (hl:s1.list.length+s2.list.length+s3.list.length+s4.list.length≤70000000000000):Does Tryz.prog 145 [bv kind,.slice (some ⟨b,0,none⟩) 4 4] ((b,true,C [s1.val,s2.val,s3.val,s4.val] tSB)::(s1.hp tU8++(s2.hp tU8++(s3.hp tU8++(s4.hp tU8++[])))))
  (Is (.tuple #[.agg (vbc (C3 kind (s1.list++(s2.list++(s3.list++(s4.list++[]))))).1).toArray,.int .i64 (C3 kind (s1.list++(s2.list++(s3.list++(s4.list++[]))))).2]) ((b,true,C [s1.val,s2.val,s3.val,s4.val] tSB)::(s1.hp tU8++(s2.hp tU8++(s3.hp tU8++(s4.hp tU8++[])))))):=by
 have e2:(Sl.own b [s1,s2,s3,s4] 4 [] ⟨by simp,A2q _,by simp⟩:Sl (Sl By)).list=[s1,s2,s3,s4]:=rfl
 have e3:Bq [s1,s2,s3,s4]=s1.list++(s2.list++(s3.list++(s4.list++[]))):=by simp [Bq]
 have h:=M1 (kind:=kind) (q:= .own b [s1,s2,s3,s4] 4 [] ⟨by simp,A2q _,by simp⟩) (by rw [e2,e3];simp only [Azz,A1p];omega)
 rw [e2,e3] at h
 have e:(Sl.own b [s1,s2,s3,s4] 4 [] ⟨by simp,A2q _,by simp⟩:Sl (Sl By)).hp tSB++(Dh [s1,s2,s3,s4]++[])=((b,true,C [s1.val,s2.val,s3.val,s4.val] tSB)::(s1.hp tU8++(s2.hp tU8++(s3.hp tU8++(s4.hp tU8++[]))))):=by
  rw [Sl.hp_own,Cz,Cz,Cz,Cz,Ha]
  simp only [A0j,A1k,A1j]
  rfl
 rw [e] at h
 exact h
theorem map_take {α β:Type} {f:α→β} {xs:List α} {i:Nat} {x:α} (h:xs[i]? =some x):(xs.take (i+1)).map f=(xs.take i).map f++[f x]:=by
 rw [A0i,h];simp
theorem Aog {b:Nat} {x y z:Wd}:Does Tryz.prog 196 [.int .i64 1,.slice (some ⟨b,0,none⟩) 3 3] [(b,true,C [wv x,wv y,wv z] Amm)] (fun v H=>∃ s:Sl By,v=s.val∧H=(s.hp tU8++[(b,true,C [wv x,wv y,wv z] Amm)])∧s.list=K0 1 [x,y,z]∧s.isOwn=true):=by
 have h:=Arc (n:=1) (xs:=(Sl.own b [x,y,z] 3 [] ⟨by simp,A2q _,by simp⟩:Sl Wd)) (T:=Amm) (by show 3≤1000000;decide)
 have e:(Sl.own b [x,y,z] 3 [] ⟨by simp,A2q _,by simp⟩:Sl Wd).hp Amm++[]=[(b,true,C [wv x,wv y,wv z] Amm)]:=by rw [Sl.hp_own];rfl
 rw [e] at h
 exact h
theorem Zd {u l:Sl Int} {v:Wd} {n:Int} (hu:u.list.length≤1000) (hl:l.list.length≤1000):Does Tryz.prog 157 [.agg #[u.val,l.val],wv v,.int .i64 n] (u.hp tI++(l.hp tI++[]))
  (Is (.agg (vbc (Ea v n u.list l.list)).toArray) (u.hp tI++(l.hp tI++[]))):=by
 refine Ah (n:=63) Tryz.func157 Tryz.ntmps157 rfl (Ay9 rfl)<|Ad<|Aa fun ops=> ?_
 refine De rfl rfl fun b3=> ?_
 refine Aw rfl fun b6=> ?_
 rw [Cs]
 refine Ac<|n_K<|Ad<|Aa fun ops=> ?_
 refine A5 rfl rfl rfl rfl fun b15=> ?_
 refine Q5 (Amn (α:=By) (b:=b15) (T:=tU8)) ?_
 refine A5 rfl rfl rfl rfl fun b16=> ?_
 refine Q5 (Amn (α:=By) (b:=b16) (T:=tU8)) ?_
 refine oA rfl<|oA rfl<|Ac<|n_K<|Ad<|Ad<|Aa fun ops=>oF rfl ?_
 refine oR (Al rfl mM rfl) ?_
 refine oR (A7 rfl)<|oM rfl<|Ac<|n_K<|Ak ?_
 refine A8 [1,2,3,6,8,18,19] kQ (fun (st:Nat×Sl By)=>[(20,.int .i64 st.1),(7,st.2.val)]) (fun (st:Nat×Sl By)=>(b3,true,C [u.val,l.val] tPl)::(b6,true,C (vbc Jv) tPg)::(st.2.hp tU8++((mt By b16).hp tU8++(u.hp tI++(l.hp tI++[]))))) (fun (st:Nat×Sl By)=>st.1≤u.list.length∧st.2.list=(u.list.take st.1).map Fx∧st.2.isOwn=true) (fun (st:Nat×Sl By)=>u.list.length - st.1) ((0,mt By b15)) ⟨A2r _,rfl,rfl⟩ kP sP ?_
 rintro ⟨i,s⟩ ⟨h0,h1,h2⟩
 simp only at h0 h1 h2
 have hsl:s.list.length=i:=by rw [h1,A1a,A0v];omega
 refine Ad<|Aa fun ops=>oR (Ae rfl rfl rfl)<|Ac<|n_K<|Ad ?_
 refine Aj rfl (fun c21=> ?_) (fun c21=> ?_)
 ·simp only [A0d,Ayz] at c21
  obtain ⟨x,hg⟩:∃ x,u.list[i]? =some x:=⟨_,Ayw (by omega)⟩
  refine Ai<|n_K<|Ad<|Ak<|Ad<|Aa fun ops=> ?_
  refine oR (Bk rfl rfl (by omega)) ?_
  refine oR (C0 (o:=0) rfl pL hg rfl rfl) ?_
  refine oA rfl<|Ac<|n_K<|Aa fun ops=>oM rfl<|oM rfl ?_
  refine oR (show Rd _ _ _ _ (bv (Fx x)) from G8 (Acf x) rfl) ?_
  refine A5 rfl rfl rfl rfl fun b27=> ?_
  refine Bp (s:=s) (new:=[Fx x]) (m:=1) rfl rfl pL h2 (Cv (r:=true) mM rfl) rfl rfl rfl rfl (by omega) rfl fun s' hs1 hs2=> ?_
  refine oA rfl<|Ac<|Az<|n_K<|Aa fun ops=> ?_
  refine oR (Ao rfl rfl (by omega)) ?_
  refine oM rfl<|Ac<|n_K ?_
  exact ⟨(i+1,s'),⟨by simp only;omega,by rw [hs1,h1,map_take hg],hs2⟩,(by simp only;omega),lZ⟩
 ·simp only [A0d,Ayz] at c21
  have hall:s.list=u.list.map Fx:=by rw [h1,Ay4 (by omega)]
  refine Bb<|x_K<|x_K<|Bj<|n_K<|Ad<|Ad<|Aa fun ops=>oF rfl ?_
  refine oR (Al rfl mM rfl) ?_
  refine oR (A7 rfl)<|oM rfl<|Ac<|n_K<|Ak ?_
  refine A8 [1,2,3,6,7,31,32] kQ (fun (st:Nat×Sl By)=>[(33,.int .i64 st.1),(8,st.2.val)]) (fun (st:Nat×Sl By)=>(b3,true,C [u.val,l.val] tPl)::(b6,true,C (vbc Jv) tPg)::(st.2.hp tU8++(s.hp tU8++(u.hp tI++(l.hp tI++[]))))) (fun (st:Nat×Sl By)=>st.1≤l.list.length∧st.2.list=(l.list.take st.1).map Fx∧st.2.isOwn=true) (fun (st:Nat×Sl By)=>l.list.length - st.1) ((0,mt By b16)) ⟨A2r _,rfl,rfl⟩ kP sP ?_
  rintro ⟨j,q⟩ ⟨k0,k1,k2⟩
  simp only at k0 k1 k2
  have hql:q.list.length=j:=by rw [k1,A1a,A0v];omega
  refine Ad<|Aa fun ops=>oR (Ae rfl rfl rfl)<|Ac<|n_K<|Ad ?_
  refine Aj rfl (fun c34=> ?_) (fun c34=> ?_)
  ·simp only [A0d,Ayz] at c34
   obtain ⟨x,hg⟩:∃ x,l.list[j]? =some x:=⟨_,Ayw (by omega)⟩
   refine Ai<|n_K<|Ad<|Ak<|Ad<|Aa fun ops=> ?_
   refine oR (Bk rfl rfl (by omega)) ?_
   refine oR (C0 (o:=0) rfl pL hg rfl rfl) ?_
   refine oA rfl<|Ac<|n_K<|Aa fun ops=>oM rfl<|oM rfl ?_
   refine oR (show Rd _ _ _ _ (bv (Fx x)) from G8 (Acf x) rfl) ?_
   refine A5 rfl rfl rfl rfl fun b40=> ?_
   refine Bp (s:=q) (new:=[Fx x]) (m:=1) rfl rfl pL k2 (Cv (r:=true) mM rfl) rfl rfl rfl rfl (by omega) rfl fun s' hs1 hs2=> ?_
   refine oA rfl<|Ac<|Az<|n_K<|Aa fun ops=> ?_
   refine oR (Ao rfl rfl (by omega)) ?_
   refine oM rfl<|Ac<|n_K ?_
   exact ⟨(j+1,s'),⟨by simp only;omega,by rw [hs1,k1,map_take hg],hs2⟩,(by simp only;omega),lZ⟩
  ·simp only [A0d,Ayz] at c34
   have hall2:q.list=l.list.map Fx:=by rw [k1,Ay4 (by omega)]
   have hul:s.list.length=u.list.length:=(by rw [hall,A1a])
   have hll:q.list.length=l.list.length:=(by rw [hall2,A1a])
   refine Bb<|x_K<|x_K<|Bj<|n_K<|Ad<|Aa fun ops=>oM rfl ?_
   refine Bd rfl (Hr (x:=v)) sP rfl fun v45 Y45 h45=> ?_
   obtain ⟨s45,rfl,rfl,hs45,ho45⟩:=h45
   refine Ay aQ ?_
   refine oM rfl ?_
   refine oR (show Rd _ _ _ _ (wv (BitVec.ofInt 64 n)) from G8 (J3 n) rfl) ?_
   refine oM rfl<|oR (A7 rfl) ?_
   refine oR (show Rd _ _ _ _ (wv (BitVec.ofInt 64 (u.list.length:Int))) from by (rw [← hul];exact G8 (J3 _) rfl)) ?_
   refine oM rfl<|oR (A7 rfl) ?_
   refine oR (show Rd _ _ _ _ (wv (BitVec.ofInt 64 (l.list.length:Int))) from by (rw [← hll];exact G8 (J3 _) rfl)) ?_
   refine A5 rfl rfl rfl rfl fun b54=> ?_
   refine Bd rfl (Aog) sP rfl fun v55 Y55 h55=> ?_
   obtain ⟨s55,rfl,rfl,hs55,ho55⟩:=h55
   refine Ay aQ ?_
   refine oM rfl<|oM rfl ?_
   refine A5 rfl rfl rfl rfl fun b58=> ?_
   refine A6 rfl ((Aes (kind:=1) (s1:=s45) (s2:=s55) (s3:=s) (s4:=q) (by rw [hs45,hs55,Bo,Qj];simp only [A0q,A1p];have:Bl 8 8=8:=rfl;omega)).to (by rw [hs45,hs55,hall,hall2]) rfl) sP rfl aQ ?_
   refine oM rfl<|oE rfl rfl<|oE rfl rfl ?_
   refine Aw rfl fun b13=> ?_
   rw [Cs]
   first | refine Af rfl rfl uD (Ct) (Ar) (B2 (by first | exact Ar | exact Azc ..)) ?_ | refine Af rfl rfl uD rfl rfl rfl ?_
   refine oA rfl<|Ac<|n_K<|Ad<|Aa fun ops=> ?_
   refine oR (Au rfl mM (by first | exact Bg | rfl)) ?_
   first | refine Af rfl rfl uD (Ct) (Ar) (B2 (by first | exact Ar | exact Azc ..)) ?_ | refine Af rfl rfl uD rfl rfl rfl ?_
   refine Ac<|n_K<|An ?_
   refine Aq (At Tryz.results157 (Bv rfl mM (by first | exact Bg | rfl))) ?_ sP
   rfl
end
section
open Go.K
instance ent167:Ent Tryz.prog 167:=⟨fun _ _=>by kernel_rfl⟩
theorem Agq (b:By):IntKind.i64.wrap (b.toNat:Int)=No b:=Cx (by have:=b.isLt;omega)
theorem Qu (p:Pg):(Cg p).2.1.length≤240:=by
 unfold Cg
 simp only []
 split
 ·simp
 ·split
  ·simp
  ·split
   ·simp
   ·split
    ·simp
    ·simp only [Gp]
     split
     ·rw [A0v];omega
     ·simp
theorem J4 {q:Pg} {n:Int}:Does Tryz.prog 167 [.agg (vbc q).toArray,.int .i64 n] [] (fun v H=>∃ u l:Sl Int,v= .tuple #[.agg #[u.val,l.val],wv (Dp q n).2.2.1,.bool (Dp q n).2.2.2]∧H=u.hp tI++(l.hp tI++[])∧u.list=(Dp q n).1∧l.list=(Dp q n).2.1∧u.isOwn=true∧l.isOwn=true):=by
 have hbl:=Qu q
 refine Ah (n:=97) Tryz.func167 Tryz.ntmps167 rfl (Ay9 rfl)<|Ad<|Aa fun ops=> ?_
 refine Ec rfl rfl fun b2=> ?_
 refine Aw rfl fun b4=> ?_
 refine oA rfl<|oA rfl<|Ac<|n_K<|Ad<|Aa fun ops=> ?_
 refine oR (Au rfl mM (by first | exact Bg | rfl)) ?_
 refine Bd rfl (La) sP rfl fun v20 Y20 h20=> ?_
 obtain ⟨s20,rfl,rfl,hs20,ho20⟩:=h20
 refine Ay aQ ?_
 refine oM rfl<|oE rfl rfl<|oE rfl rfl<|oE rfl rfl<|oE rfl rfl<|oA rfl<|oA rfl<|oA rfl<|oA rfl<|Ac<|n_K<|Ad<|Ad ?_
 refine Bf [(2,27)] rfl fun ops y=> ?_
 refine oM rfl<|oR (Ae rfl rfl rfl)<|oM rfl ?_
 refine' Es (j:=2) (k:=2) y rfl rfl rfl rfl rfl rfl rfl (fun hg27=> ?_) ?_
 rotate_left
 ·try (simp at hg27;show _)
  refine o_g y rfl rfl ?_
  refine oM rfl ?_
  refine o_g y rfl rfl ?_
  refine oR (Ae rfl rfl rfl) ?_
  exact Ac ⟨rfl,rfl,⟨_,sP⟩⟩
 refine Ac<|n_K ?_
 refine Aj rfl (fun c30=> ?_) (fun c30=> ?_)
 ·skip
  have hres:Dp q n=([],[],0,false):=(by unfold Dp;simp only [];rw [A25 (by simp at c30;rcases c30 with h | h;exact .inl h;right;intro e;rw [e] at h;exact h rfl)])
  refine Ad<|Aa fun ops=> ?_
  refine oR (Au rfl mM rfl) ?_
  refine Af rfl rfl uD rfl rfl rfl ?_
  refine oA rfl<|oA rfl<|Ac<|n_K<|An<|r_K ?_
  exact Av (Kw Tryz.results167 (Bv rfl mM rfl) (Ag rfl) (Ag rfl)) (by refine ⟨.nil,.nil,?_,rfl,?_,?_,rfl,rfl⟩ <;> rw [hres] <;> rfl) (by simp only [Sl.hp_nil,A1k];exact Split.nil)
 ·skip
  have h0:Dp q n=Np (Cg q).2.1 n:=(by unfold Dp;simp only [];rw [A26 (by simp at c30;rintro (h | h);exact h c30.1;exact h (Azg (by have:=c30.2;show _=1;omega)))])
  refine Ai<|n_K<|Ad<|Aa fun ops=>oM rfl ?_
  refine Bd rfl (Fe (s:=s20) (by rw [hs20];omega)) sP rfl fun v33 Y33 h33=> ?_
  obtain ⟨r33,rfl,rfl,hr33,hb33⟩:=h33
  refine Ay aQ ?_
  refine oA rfl<|Ac<|n_K<|Ad<|Aa fun ops=>oM rfl ?_
  refine Bd rfl (Ff (n:=8) (by rw [hr33,hs20];omega)) sP rfl fun v35 Y35 h35=> ?_
  obtain ⟨x35,sl35,bad35,rfl,rfl,hx35,hsl35,hbd35⟩:=h35
  refine Ay aQ ?_
  refine oA rfl<|Ac<|n_K<|Ad<|Ad<|Aa fun ops=>oM rfl ?_
  refine Bd rfl (Ff (r:=⟨r33.b,sl35,bad35⟩) (n:=1) (A2f (F4 hsl35 (by rw [hr33,hs20];exact hbl)) (by omega))) sP rfl fun v37 Y37 h37=> ?_
  obtain ⟨x37,sl37,bad37,rfl,rfl,hx37,hsl37,hbd37⟩:=h37
  refine Ay aQ ?_
  refine oR (C4 rfl)<|oM rfl<|oR (Ae rfl rfl rfl)<|Ac<|n_K ?_
  refine Aj rfl (fun c40=> ?_) (fun c40=> ?_)
  ·skip
   rw [hr33,hs20,hb33] at hx35 hsl35 hbd35
   have ha:(x35,sl35.list,bad35)=C7 8 (Cg q).2.1 false:=(by rw [hx35,hsl35,hbd35];rfl)
   have hb:(x37,sl37.list,bad37)=C7 1 sl35.list bad35:=(by rw [hx37,hsl37,hbd37];rfl)
   have hres:Dp q n=([],[],0,false):=(by rw [h0];exact Aje ha hb (by simpa using c40))
   refine Ad<|Aa fun ops=> ?_
   refine oR (Au rfl mM rfl) ?_
   refine Af rfl rfl uD rfl rfl rfl ?_
   refine oA rfl<|oA rfl<|Ac<|n_K<|An<|r_K ?_
   exact Av (Kw Tryz.results167 (Bv rfl mM rfl) (Ag rfl) (Ag rfl)) (by refine ⟨.nil,.nil,?_,rfl,?_,?_,rfl,rfl⟩ <;> rw [hres] <;> rfl) (by simp only [Sl.hp_nil,A1k];exact Split.nil)
  ·skip
   rw [hr33,hs20,hb33] at hx35 hsl35 hbd35
   have ha:(x35,sl35.list,bad35)=C7 8 (Cg q).2.1 false:=(by rw [hx35,hsl35,hbd35];rfl)
   have hb:(x37,sl37.list,bad37)=C7 1 sl35.list bad35:=(by rw [hx37,hsl37,hbd37];rfl)
   have h1:w64 (x37.toNat:Int)=n:=(by simpa using c40)
   have l37:=F4 hsl37 (F4 hsl35 hbl)
   refine Ai<|n_K<|Ad<|Aa fun ops=>oM rfl ?_
   refine Bd rfl (Ff (r:=⟨r33.b,sl37,bad37⟩) (n:=1) (A2f l37 (by omega))) sP rfl fun v43 Y43 h43=> ?_
   obtain ⟨x43,sl43,bad43,rfl,rfl,hx43,hsl43,hbd43⟩:=h43
   refine Ay aQ ?_
   refine oR (C4 rfl)<|oM rfl ?_
   refine Bd rfl (Ff (r:=⟨r33.b,sl43,bad43⟩) (n:=1) (A2f (F4 hsl43 l37) (by omega))) sP rfl fun v46 Y46 h46=> ?_
   obtain ⟨x46,sl46,bad46,rfl,rfl,hx46,hsl46,hbd46⟩:=h46
   refine Ay aQ ?_
   refine oR (C4 rfl)<|oA rfl<|oA rfl<|Ac<|n_K<|Ad<|Ad<|Aa fun ops=>oM rfl<|oM rfl ?_
   refine Bd rfl (Jx (r:=⟨r33.b,sl46,bad46⟩) (A2f (F4 hsl46 (F4 hsl43 l37)) (by omega))) sP rfl fun v50 Y50 h50=> ?_
   obtain ⟨s50,sl50,bad50,rfl,rfl,ho50,hs50,hsl50,hbd50⟩:=h50
   refine Ay aQ ?_
   refine oR (A7 rfl)<|oM rfl<|Ac<|n_K<|Ak ?_
   have hs50len:=Abf hs50 (F4 hsl46 (F4 hsl43 l37))
   refine Im (Gu (α:=Int) (T:=tI)) ?_
   refine A8 [1,4,5,11,12,13,50,51] kQ (fun (st:Nat×Sl Int)=>[(52,.int .i64 st.1)]) (fun (st:Nat×Sl Int)=>(b4,true,C [st.2.val,.slice none 0 0] tPl)::(st.2.hp tI++(s50.hp tU8++(rdH ⟨r33.b,sl50,bad50⟩++[])))) (fun (st:Nat×Sl Int)=>st.1≤s50.list.length∧st.2.list=(s50.list.take st.1).map No∧st.2.isOwn=true) (fun (st:Nat×Sl Int)=>s50.list.length - st.1) ((0,.nil)) ⟨A2r _,rfl,rfl⟩ kP sP ?_
   rintro ⟨i,u⟩ ⟨g0,h1',h2⟩
   simp only at g0 h1' h2
   have hul:u.list.length=i:=by rw [h1',A1a,A0v];omega
   refine Ad<|Aa fun ops=>oR (Ae rfl rfl rfl)<|Ac<|n_K<|Ad ?_
   refine Aj rfl (fun c53=> ?_) (fun c53=> ?_)
   ·simp only [A0d,Ayz] at c53
    obtain ⟨y,hg⟩:∃ y,s50.list[i]? =some y:=⟨_,Ayw (by omega)⟩
    refine Ai<|n_K<|Ad<|Ak<|Ad<|Aa fun ops=> ?_
    refine oR (Bk rfl rfl (by omega)) ?_
    refine oR (C0 (o:=0) (v:=bv y) rfl pL hg rfl rfl) ?_
    refine oA rfl<|Ac<|n_K<|Aa fun ops=>oF rfl ?_
    refine oR (Al rfl mM rfl) ?_
    refine oM rfl ?_
    refine oR (show Rd _ _ _ _ (.int .i64 (No y)) from G8 (Agq y) rfl) ?_
    refine A5 rfl rfl rfl rfl fun b60=> ?_
    refine Bp (s:=u) (new:=[No y]) (m:=1) rfl rfl pL h2 (Cv (r:=true) mM rfl) rfl rfl rfl rfl (by have:=hs50len;omega) rfl fun s' hs1 hs2=> ?_
    refine oF rfl ?_
    refine Af rfl rfl uD rfl rfl rfl ?_
    refine Ac<|Az<|n_K<|Aa fun ops=> ?_
    refine oR (Ao rfl rfl (by omega)) ?_
    refine oM rfl<|Ac<|n_K ?_
    exact ⟨(i+1,s'),⟨by simp only;omega,by rw [hs1,h1',map_take hg],hs2⟩,(by simp only;omega),lZ⟩
   ·simp only [A0d,Ayz] at c53
    have hall:u.list=s50.list.map No:=by rw [h1',Ay4 (by omega)]
    refine Bb<|x_K<|x_K<|Bj<|n_K<|Ad<|Ad<|Aa fun ops=>oM rfl<|oM rfl ?_
    refine Bd rfl (Jx (r:=⟨r33.b,sl50,bad50⟩) (A2f (Afy hsl50 (F4 hsl46 (F4 hsl43 l37))) (by omega))) sP rfl fun v66 Y66 h66=> ?_
    obtain ⟨s66,sl66,bad66,rfl,rfl,ho66,hs66,hsl66,hbd66⟩:=h66
    refine Ay aQ ?_
    refine oR (A7 rfl)<|oM rfl<|Ac<|n_K<|Ak ?_
    have hs66len:=Abf hs66 (Afy hsl50 (F4 hsl46 (F4 hsl43 l37)))
    refine Im (Gu (α:=Int) (T:=tI)) ?_
    refine A8 [1,4,5,11,12,66,67] kQ (fun (st:Nat×Sl Int)=>[(68,.int .i64 st.1)]) (fun (st:Nat×Sl Int)=>(b4,true,C [u.val,st.2.val] tPl)::(st.2.hp tI++(u.hp tI++(s66.hp tU8++(rdH ⟨r33.b,sl66,bad66⟩++[]))))) (fun (st:Nat×Sl Int)=>st.1≤s66.list.length∧st.2.list=(s66.list.take st.1).map No∧st.2.isOwn=true) (fun (st:Nat×Sl Int)=>s66.list.length - st.1) ((0,.nil)) ⟨A2r _,rfl,rfl⟩ kP sP ?_
    rintro ⟨j,l⟩ ⟨k0,k1,k2⟩
    simp only at k0 k1 k2
    have hll:l.list.length=j:=by rw [k1,A1a,A0v];omega
    refine Ad<|Aa fun ops=>oR (Ae rfl rfl rfl)<|Ac<|n_K<|Ad ?_
    refine Aj rfl (fun c69=> ?_) (fun c69=> ?_)
    ·simp only [A0d,Ayz] at c69
     obtain ⟨y,hg⟩:∃ y,s66.list[j]? =some y:=⟨_,Ayw (by omega)⟩
     refine Ai<|n_K<|Ad<|Ak<|Ad<|Aa fun ops=> ?_
     refine oR (Bk rfl rfl (by omega)) ?_
     refine oR (C0 (o:=0) (v:=bv y) rfl pL hg rfl rfl) ?_
     refine oA rfl<|Ac<|n_K<|Aa fun ops=>oF rfl ?_
     refine oR (Al rfl mM rfl) ?_
     refine oM rfl ?_
     refine oR (show Rd _ _ _ _ (.int .i64 (No y)) from G8 (Agq y) rfl) ?_
     refine A5 rfl rfl rfl rfl fun b76=> ?_
     refine Bp (s:=l) (new:=[No y]) (m:=1) rfl rfl pL k2 (Cv (r:=true) mM rfl) rfl rfl rfl rfl (by have:=hs66len;omega) rfl fun s' hs1 hs2=> ?_
     refine oF rfl ?_
     refine Af rfl rfl uD rfl rfl rfl ?_
     refine Ac<|Az<|n_K<|Aa fun ops=> ?_
     refine oR (Ao rfl rfl (by omega)) ?_
     refine oM rfl<|Ac<|n_K ?_
     exact ⟨(j+1,s'),⟨by simp only;omega,by rw [hs1,k1,map_take hg],hs2⟩,(by simp only;omega),lZ⟩
    ·simp only [A0d,Ayz] at c69
     have hall2:l.list=s66.list.map No:=by rw [k1,Ay4 (by omega)]
     refine Bb<|x_K<|x_K<|Bj<|n_K<|Ad ?_
     refine He [(5,85),(10,90)] [1,2] [[(0,false),(3,true),(4,false),(5,false),(6,false),(7,true),(8,false),(9,false),(10,false),(11,false),(12,false),(13,false),(14,false),(15,false),(16,false),(17,true),(18,false)],[(19,false)]] (by kernel_rfl) rfl rfl fun ops w0 H0 y=> ?_
     unfold Tg
     refine xM rfl<|xM rfl<|Am<|A4 ?_
     refine xR (Au rfl mM rfl) ?_
     refine Be ?_
     refine A6 rfl (Afz (r:=⟨r33.b,sl66,bad66⟩)) sP rfl aQ ?_
     refine Ac ⟨rfl,⟨_,sP⟩,?_⟩
     refine xR (Bx rfl)<|xM rfl ?_
     refine' Hx (j:=5) (k:=3) y rfl rfl rfl rfl rfl rfl rfl (fun hg85=> ?_) ?_
     rotate_left
     ·try (simp at hg85;show _)
      refine x_g y rfl rfl ?_
      refine xM rfl ?_
      refine x_g y rfl rfl ?_
      refine Be ?_
      refine A6 rfl (Se (r:=⟨r33.b,sl66,bad66⟩)) sP rfl aQ ?_
      refine Ac ⟨rfl,⟨_,sP⟩,?_⟩
      refine x_g y rfl rfl ?_
      refine xR (Ae rfl rfl rfl) ?_
      exact Am ⟨rfl,⟨_,sP⟩⟩
     refine xM rfl ?_
     refine' Hx (j:=10) (k:=5) y rfl rfl rfl rfl rfl rfl rfl (fun hg90=> ?_) ?_
     rotate_left
     ·try (simp at hg90;show _)
      refine x_g y rfl rfl ?_
      refine xM rfl ?_
      refine x_g y rfl rfl ?_
      refine xM rfl ?_
      refine x_g y rfl rfl ?_
      refine xR (Ae rfl rfl rfl) ?_
      refine x_g y rfl rfl ?_
      refine xR (Ae rfl rfl rfl) ?_
      refine x_g y rfl rfl ?_
      refine xR (Ae rfl rfl rfl) ?_
      exact Am ⟨rfl,⟨_,sP⟩⟩
     refine Be ?_
     refine Af rfl rfl uD rfl rfl rfl ?_
     refine Ac ⟨rfl,⟨_,sP⟩,?_⟩
     refine xA rfl<|Am<|A4<|xA rfl<|Am<|Bm<|n_K<|An ?_
     exact Av (Kw Tryz.results167 (Bv rfl mM rfl) (Ag rfl) (Ag rfl)) (by have hn:(x43,sl43.list,bad43)=C7 1 sl37.list bad37:=(by rw [hx43,hsl43,hbd43];rfl);have hm:(x46,sl46.list,bad46)=C7 1 sl43.list bad43:=(by rw [hx46,hsl46,hbd46];rfl);have hu:(s50.list,sl50.list,bad50)=C9 (max (w64 (x43.toNat:Int)) 0).toNat sl46.list bad46:=(by rw [hs50,hsl50,hbd50]);have hv:(s66.list,sl66.list,bad66)=C9 (max (w64 (x46.toNat:Int)) 0).toNat sl50.list bad50:=(by rw [hs66,hsl66,hbd66]);have hres:=Uo ha hb h1 hn hm hu hv;refine ⟨u,l,?_,rfl,?_,?_,h2,k2⟩ <;> rw [h0,hres];exact hall;exact hall2) sP
end
section
open Go.K
instance und72:Und Tryz.prog 72 (.pointer 95):=⟨Tryz.underlying72⟩
instance agg72:Agg Tryz.prog 72 false:=⟨⟨_,Tryz.underlying72,rfl⟩⟩
instance fld227_0:Fld Tryz.prog 227 0 0:=⟨⟨_,_,0,Tryz.underlying227,rfl,by kernel_rfl,rfl⟩⟩
instance fld227_1:Fld Tryz.prog 227 1 1:=⟨⟨_,_,1,Tryz.underlying227,rfl,by kernel_rfl,rfl⟩⟩
instance fld227_2:Fld Tryz.prog 227 2 3:=⟨⟨_,_,0,Tryz.underlying227,rfl,by kernel_rfl,rfl⟩⟩
instance fld227_3:Fld Tryz.prog 227 3 4:=⟨⟨_,_,0,Tryz.underlying227,rfl,by kernel_rfl,rfl⟩⟩
instance fld227_4:Fld Tryz.prog 227 4 5:=⟨⟨_,_,0,Tryz.underlying227,rfl,by kernel_rfl,rfl⟩⟩
instance fld227_5:Fld Tryz.prog 227 5 6:=⟨⟨_,_,0,Tryz.underlying227,rfl,by kernel_rfl,rfl⟩⟩
instance flat147:Flat Tryz.prog 147 (Mm 258 ([some .u8])):=⟨by kernel_rfl,by kernel_rfl,⟨_,Tryz.underlying147,rfl⟩⟩
instance ent156:Ent Tryz.prog 156:=⟨fun _ _=>by kernel_rfl⟩
instance ent159:Ent Tryz.prog 159:=⟨fun _ _=>by kernel_rfl⟩
instance ent197:Ent Tryz.prog 197:=⟨fun _ _=>by kernel_rfl⟩
structure Tab where
 b:Nat
 u:Sl Int
 l:Sl Int
 version:Wd
 area:Int
 next:Int
 at':Int
abbrev Hv (a:Nat) (t:Tab):List Value:=[ptr a,t.u.val,t.l.val,wv t.version,.int .i64 t.area,.int .i64 t.next,.int .i64 t.at']
def Tab.ts (t:Tab):TS:=⟨t.u.list,t.l.list,t.version,t.area,t.next,t.at'⟩
section
variable {c:Chip} {a:Nat}
theorem Aoh (ha:c.aC=a) {i j:Int}:Does Tryz.prog 140 [ptr a,.int .i64 i,.int .i64 j] (chH c) (Is (.tuple #[.agg (vbc (B0 c i j)).toArray,.int .i64 (Aww c i j)]) (chH c)):=by subst ha;exact Yi
theorem Mg (ha:c.aC=a) {i j:Int} {d:Pg}:Does Tryz.prog 209 [ptr a,.int .i64 i,.int .i64 j,.agg (vbc d).toArray] (chH c) (Is (.int .i64 (B1 c i j d).1) (chH (B1 c i j d).2)):=by subst ha;exact Adz
theorem Ze (ha:c.aC=a) {i:Int}:Does Tryz.prog 198 [ptr a,.int .i64 i] (chH c) (Is (.int .i64 (B3 c i).1) (chH (B3 c i).2)):=by subst ha;exact Amf
theorem Pe (ha:c.aC=a):Does Tryz.prog 158 [ptr a] (chH c) (Is (.int .i64 c.blocks.length) (chH c)):=by subst ha;exact Fc
theorem Xd (ha:c.aC=a) {i:Int}:Does Tryz.prog 169 [ptr a,.int .i64 i] (chH c) (Is (.bool (I4 c i)) (chH c)):=by subst ha;exact Auf
theorem Awh:Mm 258 [some .u8]=List.replicate 258 (some .u8):=by kernel_rfl
theorem Aoi:∀ (xs ys:List By),xs.length=ys.length→Cd (List.replicate xs.length (some .u8)) (xs.map bv) (ys.map bv)=some (decide (xs=ys))
 | [],[],_=>rfl
 | [],_::_,h=>by simp at h
 | _::_,[],h=>by simp at h
 | x::xs,y::ys,h=>by
  have ih:=Aoi xs ys (by simpa using h)
  simp only [A0q,List.replicate_succ,A15,Cd,ih,bv,veq]
  by_cases h1:x=y
  ·subst h1
   by_cases h2:xs=ys <;> simp [h2]
  ·have:¬ (x.toNat:Int)=y.toNat:=fun e=>h1 (Azg (by omega))
   simp [h1,this]
theorem pg_eq (p q:Pg):Cd (Mm 258 [some .u8]) (vbc p) (vbc q)=some (decide (p=q)):=by
 have:=Aoi p.toList q.toList (by simp)
 rw [show p.toList.length=258 by simp] at this
 rw [Awh,vbc,vbc,this]
 congr 1
 exact A0x.2 ⟨fun h=>Vector.toList_inj.1 h,fun h=>by rw [h]⟩
theorem Ajh {t:Tab} (ha:c.aC=a) {ar i:Int} {q:Pg}:Does Tryz.prog 156 [ptr t.b,.int .i64 ar,.int .i64 i,.agg (vbc q).toArray] ((t.b,true,C (Hv a t) tTb)::(chH c++[]))
  (Is (.int .i64 (Hh c ar i q)) ((t.b,true,C (Hv a t) tTb)::(chH c++[]))):=by
 refine Ah (n:=29) Tryz.func156 Tryz.ntmps156 rfl (Ay9 rfl)<|Ad<|Aa fun ops=> ?_
 refine Ec rfl rfl fun b7=> ?_
 refine oA rfl<|Ac<|n_K<|Ad<|Aa fun ops=>oM rfl<|oN rfl<|oF rfl ?_
 refine oR (Al rfl mM rfl) ?_
 refine oM rfl<|oM rfl ?_
 refine A6 rfl (Aoh ha) sP rfl aQ ?_
 refine oM rfl<|oE rfl rfl<|oE rfl rfl ?_
 refine Aw rfl fun b9=> ?_
 rw [Cs]
 first | refine Af rfl rfl uD (Ct) (Ar) (B2 (by first | exact Ar | exact Azc ..)) ?_ | refine Af rfl rfl uD rfl rfl rfl ?_
 refine oA rfl<|Ac<|n_K<|Ad<|Ad ?_
 refine Bf [(2,23)] rfl fun ops y=> ?_
 refine oM rfl<|oR (Ae rfl rfl rfl)<|oM rfl ?_
 refine' Df (j:=2) (k:=3) y rfl rfl rfl rfl rfl rfl rfl (fun hg23=> ?_) ?_
 rotate_left
 ·try (simp at hg23;show _)
  refine o_g y rfl rfl ?_
  refine oR (Au rfl mM (by first | exact Bg | rfl)) ?_
  refine o_g y rfl rfl ?_
  refine oR (Au rfl mM (by first | exact Bg | rfl)) ?_
  refine o_g y rfl rfl ?_
  refine oR (Alw rfl rfl (pg_eq _ _)) ?_
  exact Ac ⟨rfl,rfl,⟨_,sP⟩⟩
 refine Ac<|n_K ?_
 refine Aj rfl (fun c27=> ?_) (fun c27=> ?_)
 ·skip
  have hres:Hh c ar i q=33:=(by unfold Hh;rw [A25 (by simp at c27;exact c27)])
  refine Aa fun ops=>oA rfl<|Ac<|n_K<|Ad<|Aa fun ops=>oM rfl<|oA rfl<|Ac<|n_K<|An ?_
  refine Aq (At Tryz.results156 (Ag rfl)) ?_ sP
  rw [hres]
 ·skip
  have hres:Hh c ar i q=Aww c ar i:=(by unfold Hh;rw [A26 (by simp at c27;rintro ⟨h1,h2⟩;exact h2 (c27 h1))])
  refine Ai<|n_K<|Ad<|Aa fun ops=>oM rfl<|oA rfl<|Ac<|n_K<|An ?_
  refine Aq (At Tryz.results156 (Ag rfl)) ?_ sP
  rw [hres]
theorem Aoj {t:Tab} (ha:c.aC=a) {ar from':Int} {q:Pg} (hf:0≤from'):Does Tryz.prog 197 [ptr t.b,.int .i64 ar,.int .i64 from',.agg (vbc q).toArray] ((t.b,true,C (Hv a t) tTb)::(chH c++[]))
  (Is (.tuple #[.int .i64 (Ge c ar from' q).1,.int .i64 (Ge c ar from' q).2.1]) ((t.b,true,C (Hv a t) tTb)::(chH (Ge c ar from' q).2.2++[]))):=by
 refine Ah (n:=41) Tryz.func197 Tryz.ntmps197 rfl (Ay9 rfl)<|Ad<|Aa fun ops=> ?_
 refine Ec rfl rfl fun b7=> ?_
 refine oA rfl<|oA rfl<|Ac<|n_K<|Ad<|Ad<|Aa fun ops=>oM rfl<|oA rfl<|Ac<|n_K<|Ak ?_
 refine A8 [0,1,7] kQ (fun (st:Int×Chip)=>[(10,.int .i64 st.1)]) (fun (st:Int×Chip)=>(b7,true,C (vbc q) tPg)::(t.b,true,C (Hv a t) tTb)::(chH st.2++[])) (fun (st:Int×Chip)=>0≤st.1∧st.2.aC=a∧Ge st.2 ar st.1 q=Ge c ar from' q) (fun (st:Int×Chip)=>(8 - st.1).toNat) ((from',c)) ⟨hf,ha,rfl⟩ kP sP ?_
 rintro ⟨i,c1⟩ ⟨h0,h1,h2⟩
 simp only at h0 h1 h2
 refine Ad<|Ad<|Aa fun ops=>oM rfl<|oR (Ae rfl rfl rfl)<|Ac<|n_K ?_
 refine Aj rfl (fun c14=> ?_) (fun c14=> ?_)
 ·simp only [A0d,Ayz] at c14
  refine Ai<|n_K<|Ad<|Ak<|Ad ?_
  refine s_draw [] [(7,[(0,false),(1,false),(2,false),(3,false),(4,false),(5,false),(6,false)]),(8,[(7,true)]),(9,[(8,false)])] (by kernel_rfl) rfl fun ops w0 H0 y=> ?_
  refine A4<|xM rfl<|xN rfl<|xF rfl ?_
  refine xR (Al rfl mM rfl) ?_
  refine xM rfl<|xM rfl ?_
  refine xR (Au rfl mM (by first | exact Bg | rfl)) ?_
  refine Am<|Bh<|Be ?_
  refine A6 rfl (Mg h1) sP rfl aQ ?_
  refine Ac ⟨rfl,⟨_,sP⟩,?_⟩
  refine Am<|A4<|xA rfl<|Am<|Bm<|n_K<|Ad<|Ad<|Aa fun ops=>oM rfl<|oR (Ae rfl rfl rfl)<|Ac<|n_K ?_
  refine Aj rfl (fun c26=> ?_) (fun c26=> ?_)
  ·skip
   have hst:Fk c1 ar i q=Hh (B1 c1 ar i q).2 ar i q:=(by unfold Fk;rw [A25 (by simpa using c26)])
   refine Aa fun ops=>oM rfl<|oM rfl<|oM rfl ?_
   refine oR (Au rfl mM (by first | exact Bg | rfl)) ?_
   refine A6 rfl (Ajh (t:=t) (c:=(B1 c1 ar i q).2) ((Fh c1 ar i q).trans h1)) sP rfl aQ ?_
   refine oA rfl<|Ac<|n_K<|Ad ?_
   refine Bf [(2,34)] rfl fun ops y=> ?_
   refine oM rfl<|oR (Ae rfl rfl rfl)<|oM rfl ?_
   refine' Df (j:=2) (k:=2) y rfl rfl rfl rfl rfl rfl rfl (fun hg34=> ?_) ?_
   rotate_left
   ·try (simp at hg34;show _)
    refine o_g y rfl rfl ?_
    refine oM rfl ?_
    refine o_g y rfl rfl ?_
    refine oR (Ae rfl rfl rfl) ?_
    exact Ac ⟨rfl,rfl,⟨_,sP⟩⟩
   refine Ac<|n_K ?_
   refine Aj rfl (fun c37=> ?_) (fun c37=> ?_)
   ·skip
    have hres:=Qr c14 (by rw [hst];simpa using c37)
    rw [h2] at hres
    refine Ad<|Aa fun ops=>oM rfl ?_
    refine oR (Ao rfl rfl (by omega)) ?_
    refine oM rfl<|oA rfl<|oA rfl<|Ac<|n_K<|An<|Bn<|r_K<|r_K<|Bn<|r_K ?_
    refine Aq (Bz Tryz.results197 (Ag rfl) (Ag rfl)) ?_ (by rw [hres];exact sP)
    rw [hres,hst]
   ·skip
    have hgo:=Agp c14 (by rw [hst];intro h;simp at c37;exact h.2 (c37 h.1))
    refine Ai<|Az<|n_K<|Aa fun ops=>oM rfl ?_
    refine oR (Ao rfl rfl (by omega)) ?_
    refine oA rfl<|Ac<|n_K ?_
    exact ⟨(i+1,(B1 c1 ar i q).2),⟨by simp only;omega,(Fh c1 ar i q).trans h1,by simp only;rw [← hgo,h2]⟩,(by simp only;omega),lZ⟩
  ·skip
   have hst:Fk c1 ar i q=(B1 c1 ar i q).1:=(by unfold Fk;rw [A26 (by simpa using c26)])
   refine Ai<|n_K<|Ad ?_
   refine Bf [(2,34)] rfl fun ops y=> ?_
   refine oM rfl<|oR (Ae rfl rfl rfl)<|oM rfl ?_
   refine' Df (j:=2) (k:=2) y rfl rfl rfl rfl rfl rfl rfl (fun hg34=> ?_) ?_
   rotate_left
   ·try (simp at hg34;show _)
    refine o_g y rfl rfl ?_
    refine oM rfl ?_
    refine o_g y rfl rfl ?_
    refine oR (Ae rfl rfl rfl) ?_
    exact Ac ⟨rfl,rfl,⟨_,sP⟩⟩
   refine Ac<|n_K ?_
   refine Aj rfl (fun c37=> ?_) (fun c37=> ?_)
   ·skip
    have hres:=Qr c14 (by rw [hst];simpa using c37)
    rw [h2] at hres
    refine Ad<|Aa fun ops=>oM rfl ?_
    refine oR (Ao rfl rfl (by omega)) ?_
    refine oM rfl<|oA rfl<|oA rfl<|Ac<|n_K<|An<|Bn<|r_K<|r_K<|Bn<|r_K ?_
    refine Aq (Bz Tryz.results197 (Ag rfl) (Ag rfl)) ?_ (by rw [hres];exact sP)
    rw [hres,hst]
   ·skip
    have hgo:=Agp c14 (by rw [hst];intro h;simp at c37;exact h.2 (c37 h.1))
    refine Ai<|Az<|n_K<|Aa fun ops=>oM rfl ?_
    refine oR (Ao rfl rfl (by omega)) ?_
    refine oA rfl<|Ac<|n_K ?_
    exact ⟨(i+1,(B1 c1 ar i q).2),⟨by simp only;omega,(Fh c1 ar i q).trans h1,by simp only;rw [← hgo,h2]⟩,(by simp only;omega),lZ⟩
 ·simp only [A0d,Ayz] at c14
  refine Bb<|x_K<|x_K<|Bj<|n_K<|Ad<|Aa fun ops=>oA rfl<|oA rfl<|Ac<|n_K<|An ?_
  refine Aq (Bz Tryz.results197 (Ag rfl) (Ag rfl)) ?_ (by rw [← h2,Uq c14];exact sP)
  rw [← h2,Uq c14]
theorem Pf {P:Program} {E:Env} {H:Hp} {t u:TypeId} {x y:Operand} {v:Wd} (hx:ev E x=some (wv v)) (hy:ev E y=some (.int .u64 1)):Rd P E H (.binOp .add t x y u) (wv (v+1)):=by
 have:=Ae (P:=P) (H:=H) (op:= .add) (t:=t) (u:=u) hx hy rfl
 have e:IntKind.u64.wrap ((v.toNat:Int)+1)=((v+1).toNat:Int):=by
  rw [Ex .u64 rfl]
  show ((BitVec.ofInt 64 ((v.toNat:Int)+1)).toNat:Int)=_
  rw [show ((v.toNat:Int)+1)=((v.toNat+1:Nat):Int) by push_cast;rfl,Azr,Az0,A05]
  rfl
 rw [e] at this
 exact this
theorem Asg {t:Tab} {u l:Sl Int} (ha:c.aC=a) (hu:u.list.length≤1000) (hl:l.list.length≤1000) (hn:0≤t.next) (har:0≤t.area∧t.area≤1) :
  Does Tryz.prog 159 [ptr t.b,.agg #[u.val,l.val]] ((t.b,true,C (Hv a t) tTb)::(u.hp tI++(l.hp tI++(chH c++[]))))
   (fun v H=>∃ t':Tab,t'.b=t.b∧v= .int .i64 (B6 t.ts u.list l.list c).1∧H=(t'.b,true,C (Hv a t') tTb)::(u.hp tI++(l.hp tI++(chH (B6 t.ts u.list l.list c).2.2++[])))∧t'.ts=(B6 t.ts u.list l.list c).2.1 ∧
    ((B6 t.ts u.list l.list c).1=0→t'.u=u∧t'.l=l)∧((B6 t.ts u.list l.list c).1≠0→t'=t)):=by
 refine Ah (n:=98) Tryz.func159 Tryz.ntmps159 rfl (Ay9 rfl)<|Ad<|Aa fun ops=> ?_
 refine De rfl rfl fun b3=> ?_
 refine oA rfl<|Ac<|n_K<|Ad ?_
 refine N7 [] [(13,(.fork [(0,false),(1,false),(2,false),(3,false),(4,false),(5,false),(6,false),(7,false),(8,false),(9,false)] 10 (.fork [] 11 (.one [(12,true)]) 12 (.one [(11,true)])) 12 (.one [(10,true),(11,true)]))),(14,(.one [(13,true)]))] (by kernel_rfl) rfl fun ops w0 H0 y=> ?_
 refine Le ?_
 refine Lf ?_ rfl
 refine xR (Au rfl mM rfl) ?_
 refine xM rfl<|xN rfl<|xF rfl ?_
 refine xR (Al rfl mM rfl) ?_
 refine xR (Pf rfl rfl)<|xM rfl<|xN rfl<|xF rfl ?_
 refine xR (Al rfl mM rfl) ?_
 refine Am ⟨⟨_,sP⟩,?_,?_⟩
 refine Be ?_
 refine A6 rfl (Pe ha) sP rfl aQ ?_
 refine Ac ⟨rfl,⟨_,sP⟩,?_⟩
 refine Am ?_
 refine Lf ?_ rfl
 refine Am ⟨⟨_,sP⟩,?_,?_⟩
 refine Be ?_
 refine A6 rfl (Zd (v:=t.version+1) (n:=c.blocks.length) hu hl) sP rfl aQ ?_
 refine Ac ⟨rfl,⟨_,sP⟩,?_⟩
 refine Am ?_
 refine G1 ?_
 refine Be ?_
 refine Aw rfl fun b5=> ?_
 rw [Cs]
 refine Ac ⟨rfl,⟨_,sP⟩,?_⟩
 refine Am ?_
 rotate_left
 refine Be ?_
 refine Aw rfl fun b5=> ?_
 rw [Cs]
 refine Ac ⟨rfl,⟨_,sP⟩,?_⟩
 refine Am ?_
 refine G1 ?_
 refine Be ?_
 refine A6 rfl (Zd (v:=t.version+1) (n:=c.blocks.length) hu hl) sP rfl aQ ?_
 refine Ac ⟨rfl,⟨_,sP⟩,?_⟩
 refine Am ?_
 rotate_left
 refine Be ?_
 refine Aw rfl fun b5=> ?_
 rw [Cs]
 refine Ac ⟨rfl,⟨_,sP⟩,?_⟩
 refine Am ?_
 refine G1 ?_
 refine Be ?_
 refine A6 rfl (Pe ha) sP rfl aQ ?_
 refine Ac ⟨rfl,⟨_,sP⟩,?_⟩
 refine Be ?_
 refine A6 rfl (Zd (v:=t.version+1) (n:=c.blocks.length) hu hl) sP rfl aQ ?_
 refine Ac ⟨rfl,⟨_,sP⟩,?_⟩
 refine Am ?_
 rotate_left
 all_goals
  refine Afa ?_
  refine G1 ?_
  refine Be ?_
  first | refine Af rfl rfl uD (Ct) (Ar) (B2 (by first | exact Ar | exact Azc ..)) ?_ | refine Af rfl rfl uD rfl rfl rfl ?_
  refine Ac ⟨rfl,⟨_,sP⟩,?_⟩
  refine Am ?_
  refine S5 ?_
  refine n_K<|Ad<|Aa fun ops=>oM rfl<|oN rfl<|oF rfl ?_
  refine oR (Al rfl mM rfl) ?_
  refine oA rfl<|Ac<|n_K<|Ad ?_
  refine s_draw [] [(7,[(0,false),(1,false),(2,false),(3,false),(4,false),(5,false),(6,false)]),(8,[(7,true)]),(13,[(8,false),(9,false),(10,false),(11,false),(12,false)])] (by kernel_rfl) rfl fun ops w0 H0 y=> ?_
  refine A4<|xM rfl<|xM rfl<|xM rfl<|xN rfl<|xF rfl ?_
  refine xR (Al rfl mM rfl) ?_
  refine xR (Au rfl mM (by first | exact Bg | rfl)) ?_
  refine Am<|Bh<|Be ?_
  refine A6 rfl (Aoj (t:=t) ha hn) sP rfl aQ ?_
  refine Ac ⟨rfl,⟨_,sP⟩,?_⟩
  refine Am<|A4<|xM rfl<|xE rfl rfl<|xE rfl rfl<|xA rfl<|xA rfl<|Am<|Bm<|n_K<|Ad<|Ad<|Aa fun ops=>oA rfl ?_
  refine Ac<|n_K<|Ak ?_
  obtain ⟨q,hq⟩:∃ q,q=Ea (t.version+1) c.blocks.length u.list l.list:=⟨_,rfl⟩
  rw [← hq]
  refine A8 [0,3,5] kQ (fun (st:Nat×KS)=>[(9,.int .i64 st.1),(6,.int .i64 st.2.area),(7,.int .i64 st.2.next),(8,.int .i64 st.2.e)]) (fun (st:Nat×KS)=>(b5,true,C (vbc q) tPg)::(b3,true,C [u.val,l.val] tPl)::(t.b,true,C (Hv a t) tTb)::(u.hp tI++(l.hp tI++(chH st.2.c++[])))) (fun (st:Nat×KS)=>st.1≤4∧st.2.c.aC=a∧(0≤st.2.next∧st.2.next≤8)∧Di (4 - st.1) t.area q st.2=Fl t.ts u.list l.list c) (fun (st:Nat×KS)=>4 - st.1) ((0,⟨t.area,(Ge c t.area t.next q).1,(Ge c t.area t.next q).2.1,(Ge c t.area t.next q).2.2⟩)) ⟨A2r _,(Za _ _ _ _).trans ha,Zb _ _ _ _ hn,by rw [hq];rfl⟩ kP sP ?_
  rintro ⟨k,s⟩ ⟨h0,h1,h2,h3⟩
  simp only at h0 h1 h2 h3
  refine Ad<|Ad ?_
  refine Bf [(2,40)] rfl fun ops y=> ?_
  refine oM rfl<|oR (Ae rfl rfl rfl)<|oM rfl ?_
  refine' Df (j:=2) (k:=2) y rfl rfl rfl rfl rfl rfl rfl (fun hg40=> ?_) ?_
  rotate_left
  ·try (simp at hg40;show _)
   refine o_g y rfl rfl ?_
   refine oM rfl ?_
   refine o_g y rfl rfl ?_
   refine oR (Ae rfl rfl rfl) ?_
   exact Ac ⟨rfl,rfl,⟨_,sP⟩⟩
  refine Ac<|n_K ?_
  refine Aj rfl (fun c43=> ?_) (fun c43=> ?_)
  ·skip
   have hk:k<4:=(by simp at c43;omega)
   have he:s.e=34:=(by simp at c43;exact c43.2)
   rw [show 4 - k=(4 - (k+1))+1 by omega,Di,A25 he] at h3
   refine Ai<|n_K<|Ad<|Ak<|Ad<|Aa fun ops=>oM rfl<|oN rfl<|oF rfl ?_
   refine oR (Al rfl mM rfl) ?_
   refine oR (Cy rfl rfl (by omega)) ?_
   refine oA rfl<|Ac<|n_K<|Ad<|Aa fun ops=>oM rfl<|oN rfl<|oF rfl ?_
   refine oR (Al rfl mM rfl) ?_
   refine oM rfl ?_
   refine A6 rfl (Ze h1) sP rfl aQ ?_
   refine oA rfl<|Ac<|n_K<|Ad<|Aa fun ops=>oM rfl<|Ac<|n_K<|Ak<|Ad<|Aa fun ops=>oR (Ae rfl rfl rfl)<|oA rfl<|Ac ?_
   refine n_K ?_
   refine Aj rfl (fun c59=> ?_) (fun c59=> ?_)
   ·skip
    have hf:(B3 s.c (1 - t.area)).1=0:=(by simpa using c59)
    have hk1:Gw t.area q s=⟨1 - t.area,(Ge (B3 s.c (1 - t.area)).2 (1 - t.area) 0 q).1,(Ge (B3 s.c (1 - t.area)).2 (1 - t.area) 0 q).2.1,(Ge (B3 s.c (1 - t.area)).2 (1 - t.area) 0 q).2.2⟩:=(by unfold Gw;simp only [];rw [A25 hf])
    refine Aa fun ops=>oM rfl<|oM rfl ?_
    refine oR (Au rfl mM (by first | exact Bg | rfl)) ?_
    refine A6 rfl (Aoj (t:=t) (c:=(B3 s.c (1 - t.area)).2) ((Hn _ _).trans h1) (A2p 0)) sP rfl aQ ?_
    refine oM rfl<|oE rfl rfl<|oE rfl rfl<|oA rfl<|oA rfl<|Ac<|Az<|Az<|n_K<|Aa fun ops=>oM rfl ?_
    refine oR (Ao rfl rfl (by omega)) ?_
    refine oA rfl<|Ac<|n_K ?_
    exact ⟨(k+1,Gw t.area q s),⟨by simp only;omega,by simp only;rw [Pc];exact h1,by simp only;exact Pd h2,h3⟩,(by simp only;omega),(by rw [hk1];exact kP),kP,_,(by rw [hk1];exact sP)⟩
   ·skip
    have hf:¬ (B3 s.c (1 - t.area)).1=0:=(by simpa using c59)
    refine Ad<|Aa fun ops=>oR (Ae rfl rfl rfl)<|oA rfl<|Ac<|n_K ?_
    refine Aj rfl (fun c68=> ?_) (fun c68=> ?_)
    ·skip
     have hf3:(B3 s.c (1 - t.area)).1=33:=(by simpa using c68)
     have hk1:Gw t.area q s=⟨1 - t.area,s.next,s.e,(B3 s.c (1 - t.area)).2⟩:=(by unfold Gw;simp only [];rw [A26 hf,A25 hf3])
     refine Ai<|Az<|Az<|n_K<|Aa fun ops=>oM rfl ?_
     refine oR (Ao rfl rfl (by omega)) ?_
     refine oA rfl<|Ac<|n_K ?_
     exact ⟨(k+1,Gw t.area q s),⟨by simp only;omega,by simp only;rw [Pc];exact h1,by simp only;exact Pd h2,h3⟩,(by simp only;omega),(by rw [hk1];exact kP),kP,_,(by rw [hk1];exact sP)⟩
    ·skip
     have hf3:¬ (B3 s.c (1 - t.area)).1=33:=(by simpa using c68)
     have hk1:Gw t.area q s=⟨1 - t.area,s.next,(B3 s.c (1 - t.area)).1,(B3 s.c (1 - t.area)).2⟩:=(by unfold Gw;simp only [];rw [A26 hf,A26 hf3])
     refine Aa fun ops=>oM rfl<|oA rfl<|Ac<|Az<|Az<|n_K<|Aa fun ops=>oM rfl ?_
     refine oR (Ao rfl rfl (by omega)) ?_
     refine oA rfl<|Ac<|n_K ?_
     exact ⟨(k+1,Gw t.area q s),⟨by simp only;omega,by simp only;rw [Pc];exact h1,by simp only;exact Pd h2,h3⟩,(by simp only;omega),(by rw [hk1];exact kP),kP,_,(by rw [hk1];exact sP)⟩
  ·skip
   have hend:Fl t.ts u.list l.list c=s:=(by rw [← h3];rcases A2i k 4 with hk | hk;(rw [show 4 - k=(4 - (k+1))+1 by omega,Di,A26 (by intro e;simp [hk,e] at c43;omega)]);(rw [show 4 - k=0 by omega,Di]))
   refine Bb<|x_K<|x_K<|Bj<|n_K<|Ad<|Ad<|Aa fun ops=>oM rfl<|oR (Ae rfl rfl rfl)<|Ac<|n_K ?_
   refine Aj rfl (fun c71=> ?_) (fun c71=> ?_)
   ·skip
    have hres:B6 t.ts u.list l.list c=(s.e,t.ts,s.c):=(by unfold B6;simp only [];rw [hend,A25 (by simpa using c71)])
    refine Ad<|Aa fun ops=>oM rfl<|oA rfl<|Ac<|n_K<|An<|r_K ?_
    exact Av (At Tryz.results159 (Ag rfl)) (by refine ⟨t,rfl,?_,rfl,?_,?_,?_⟩ <;> rw [hres];(intro h;simp at h;simp [h] at c71);(intro _;rfl)) (by rw [hres];exact sP)
   ·skip
    have hz:s.e=0:=(by simpa using c71)
    have hres:B6 t.ts u.list l.list c=(0,⟨u.list,l.list,t.version+1,s.area,s.next,s.next - 1⟩,s.c):=(by unfold B6;simp only [];rw [hend,A26 (by rw [hz];simp)];rfl)
    refine Ai<|n_K<|Ad ?_
    refine He [] [0,1,2,3,4,6,7,8,11,12,13,14] [[(5,false),(9,false),(10,false),(15,false),(16,false),(17,true)],[(18,false)],[(19,false)],[(20,true)],[(21,false)],[(22,false)],[(23,true)],[(24,false)],[(25,false)],[(26,true)],[(27,false)],[(28,false)],[(29,true)]] (by kernel_rfl) rfl rfl fun ops w0 H0 y=> ?_
    unfold Tg
    refine xM rfl<|xM rfl<|xM rfl<|xM rfl<|xM rfl<|xM rfl<|xN rfl<|xF rfl<|xM rfl<|xM rfl<|xM rfl ?_
    refine xR (show Rd _ _ _ _ (.int .i64 (s.next - 1)) from Cy rfl rfl (by omega)) ?_
    refine Am ?_
    refine Avv ([(b3,true,C [u.val,l.val] tPl)]) ([(t.b,3,wv t.version)]) sP (Ti (r:=true) mM rfl Vv) ?_
    refine Afe (Au rfl mM rfl) rfl ?_
    refine Avw rfl mM rfl ?_
    refine Afe (Pf rfl rfl) rfl ?_
    refine Afe (Adf rfl) rfl ?_
    refine Afe (Tp rfl) rfl ?_
    refine Avx ?_
    refine Af rfl rfl uD rfl rfl rfl ?_
    refine Ac ⟨rfl,⟨_,sP⟩,(Ti (r:=true) mM rfl Vv),?_⟩
    refine At7 ?_
    refine A4<|xN rfl<|Am<|A4<|xF rfl<|Am<|Bh<|Be ?_
    refine Af rfl rfl uD rfl rfl rfl ?_
    refine Ac ⟨rfl,⟨_,sP⟩,?_⟩
    refine Am<|A4<|xN rfl<|Am<|A4<|xF rfl<|Am<|Bh<|Be ?_
    refine Af rfl rfl uD rfl rfl rfl ?_
    refine Ac ⟨rfl,⟨_,sP⟩,?_⟩
    refine Am<|A4<|xN rfl<|Am<|A4<|xF rfl<|Am<|Bh<|Be ?_
    refine Af rfl rfl uD rfl rfl rfl ?_
    refine Ac ⟨rfl,⟨_,sP⟩,?_⟩
    refine Am<|A4<|xN rfl<|Am<|A4<|xF rfl<|Am<|Bh<|Be ?_
    refine Af rfl rfl uD rfl rfl rfl ?_
    refine Ac ⟨rfl,⟨_,sP⟩,?_⟩
    refine Am<|Bm<|n_K<|Ad<|Aa fun ops=>oA rfl<|Ac<|n_K<|An ?_
    exact Av (At Tryz.results159 (Ag rfl)) (by refine ⟨⟨t.b,u,l,t.version+1,s.area,s.next,s.next - 1⟩,rfl,?_,rfl,?_,?_,?_⟩ <;> rw [hres];(rfl);(intro _;exact ⟨rfl,rfl⟩);(intro h;exact absurd rfl h)) (by rw [hres];exact sP)
@[irreducible] def Dk (a:Nat) (t:Tab):Hp:=(t.b,true,C (Hv a t) tTb)::(t.u.hp tI++(t.l.hp tI++[]))
theorem Ej (a:Nat) (t:Tab):Dk a t=(t.b,true,C (Hv a t) tTb)::(t.u.hp tI++(t.l.hp tI++[])):=by unfold Dk;rfl
theorem Ph {t:Tab} {u l:Sl Int} (ha:c.aC=a) (hu:u.list.length≤1000) (hl:l.list.length≤1000) (hn:0≤t.next) (har:0≤t.area∧t.area≤1) :
  Does Tryz.prog 159 [ptr t.b,.agg #[u.val,l.val]] ((t.b,true,C (Hv a t) tTb)::(u.hp tI++(l.hp tI++(chH c++[]))))
   (fun v H=>(∃ t':Tab,t'.b=t.b∧t'.u=u∧t'.l=l∧v= .int .i64 0∧H=(t'.b,true,C (Hv a t') tTb)::(u.hp tI++(l.hp tI++(chH (B6 t.ts u.list l.list c).2.2++[])))∧(B6 t.ts u.list l.list c).1=0∧t'.ts=(B6 t.ts u.list l.list c).2.1) ∨
    (∃ e,v= .int .i64 e∧e≠0∧H=(t.b,true,C (Hv a t) tTb)::(u.hp tI++(l.hp tI++(chH (B6 t.ts u.list l.list c).2.2++[])))∧(B6 t.ts u.list l.list c).1=e∧t.ts=(B6 t.ts u.list l.list c).2.1)):=by
 refine (Asg ha hu hl hn har).mono fun v H ⟨t',h1,h2,h3,h4,h5,h6⟩=> ?_
 by_cases h:(B6 t.ts u.list l.list c).1=0
 ·exact .inl ⟨t',h1,(h5 h).1,(h5 h).2,by rw [h2,h],h3,h,h4⟩
 ·have:=h6 h
  subst this
  exact .inr ⟨_,h2,h,h3,rfl,h4⟩
end
end
section
open Go.K
instance ent108:Ent Tryz.prog 108:=⟨fun _ _=>by kernel_rfl⟩
instance ent185:Ent Tryz.prog 185:=⟨fun _ _=>by kernel_rfl⟩
instance ent229:Ent Tryz.prog 229:=⟨fun _ _=>by kernel_rfl⟩
instance ent231:Ent Tryz.prog 231:=⟨fun _ _=>by kernel_rfl⟩
instance ent232:Ent Tryz.prog 232:=⟨fun _ _=>by kernel_rfl⟩
instance ent241:Ent Tryz.prog 241:=⟨fun _ _=>by kernel_rfl⟩
instance ent243:Ent Tryz.prog 243:=⟨fun _ _=>by kernel_rfl⟩
section
variable {c:Chip} {a:Nat} {t:Tab}
theorem Ash:Does Tryz.prog 108 [ptr t.b] (Dk a t) (Is (.int .i64 t.u.list.length) (Dk a t)):=by
 rw [Ej]
 refine Ah (n:=9) Tryz.func108 Tryz.ntmps108 rfl (Ay9 rfl)<|Ad<|Aa fun ops=>oA rfl<|Ac<|n_K<|Ad<|Aa fun ops=>oM rfl<|oN rfl<|oF rfl<|oF rfl ?_
 refine oR (Al rfl mM rfl) ?_
 refine oR (A7 rfl)<|oA rfl<|Ac<|n_K<|An ?_
 refine Aq (At Tryz.results108 (Ag rfl)) ?_ sP
 rfl
theorem Aok:Does Tryz.prog 108 [ptr t.b] [(t.b,true,C (Hv a t) tTb)] (Is (.int .i64 t.u.list.length) [(t.b,true,C (Hv a t) tTb)]):=by
 refine Ah (n:=9) Tryz.func108 Tryz.ntmps108 rfl (Ay9 rfl)<|Ad<|Aa fun ops=>oA rfl<|Ac<|n_K<|Ad<|Aa fun ops=>oM rfl<|oN rfl<|oF rfl<|oF rfl ?_
 refine oR (Al rfl mM rfl) ?_
 refine oR (A7 rfl)<|oA rfl<|Ac<|n_K<|An ?_
 refine Aq (At Tryz.results108 (Ag rfl)) ?_ sP
 rfl
theorem Atd {i:Int}:Does Tryz.prog 185 [ptr t.b,.int .i64 i] (Dk a t) (Is (.tuple #[.int .i64 (atT t.ts i).1,.bool (atT t.ts i).2]) (Dk a t)):=by
 rw [Ej]
 refine Ah (n:=22) Tryz.func185 Tryz.ntmps185 rfl (Ay9 rfl)<|Ad<|Aa fun ops=>oA rfl<|oA rfl<|Ac<|n_K<|Ad<|Ad ?_
 refine Bf [(2,8)] rfl fun ops y=> ?_
 refine oM rfl<|oR (Ae rfl rfl rfl)<|oM rfl ?_
 refine' Es (j:=2) (k:=4) y rfl rfl rfl rfl rfl rfl rfl (fun hg8=> ?_) ?_
 rotate_left
 ·try (simp at hg8;show _)
  refine o_g y rfl rfl ?_
  refine oM rfl ?_
  refine o_g y rfl rfl ?_
  refine oM rfl ?_
  refine o_g y rfl rfl ?_
  refine A6 rfl (Aok (a:=a) (t:=t)) sP rfl aQ ?_
  refine o_g y rfl rfl ?_
  refine oR (Ae rfl rfl rfl) ?_
  exact Ac ⟨rfl,rfl,⟨_,sP⟩⟩
 refine Ac<|n_K ?_
 refine Aj rfl (fun c13=> ?_) (fun c13=> ?_)
 ·skip
  have hres:atT t.ts i=(0,false):=(by unfold atT;exact A25 c13)
  refine Ad<|Aa fun ops=>oA rfl<|oA rfl<|Ac<|n_K<|An<|r_K ?_
  refine Aq (Bz Tryz.results185 (Ag rfl) (Ag rfl)) ?_ sP
  rw [hres]
 ·skip
  have hres:atT t.ts i=(at0 t.u.list i,true):=(by unfold atT;rw [A26 (by rw [show t.ts.uses=t.u.list from rfl,c13];exact Az2)];rfl)
  have hi:0≤i∧i<t.u.list.length:=(by simp at c13;omega)
  refine Ai<|n_K<|Ad<|Aa fun ops=>oM rfl<|oN rfl<|oF rfl<|oF rfl ?_
  refine oR (Al rfl mM rfl) ?_
  refine oM rfl ?_
  refine oR (Bk rfl rfl hi) ?_
  refine oR (C0 (o:=0) rfl pL (Hz hi.1 hi.2) rfl rfl) ?_
  refine oA rfl<|oA rfl<|Ac<|n_K<|An ?_
  refine Aq (Bz Tryz.results185 (Ag rfl) (Ag rfl)) ?_ sP
  rw [hres]
theorem Ut (ha:c.aC=a) {b:Int}:Does Tryz.prog 241 [ptr t.b,.int .i64 b] (Dk a t++(chH c++[])) (Is (.bool (D5 t.ts c.blocks.length b)) (Dk a t++(chH c++[]))):=by
 rw [Ej];simp only [A02,A0j,A1k]
 refine Ah (n:=36) Tryz.func241 Tryz.ntmps241 rfl (Ay9 rfl)<|Ad<|Aa fun ops=>oA rfl<|Ac<|n_K<|Ad ?_
 refine Bf [(2,7),(11,16),(21,26)] rfl fun ops y=> ?_
 refine oM rfl<|oR (Ae rfl rfl rfl)<|oM rfl ?_
 refine' Df (j:=2) (k:=7) y rfl rfl rfl rfl rfl rfl rfl (fun hg7=> ?_) ?_
 rotate_left
 ·try (simp at hg7;show _)
  refine o_g y rfl rfl ?_
  refine oM rfl ?_
  refine o_g y rfl rfl ?_
  refine oM rfl ?_
  refine o_g y rfl rfl ?_
  refine oN rfl ?_
  refine o_g y rfl rfl ?_
  refine oF rfl ?_
  refine o_g y rfl rfl ?_
  refine oR (Al rfl mM rfl) ?_
  refine o_g y rfl rfl ?_
  refine A6 rfl (Pe ha) sP rfl aQ ?_
  refine o_g y rfl rfl ?_
  refine oR (Ae rfl rfl rfl) ?_
  exact Ac ⟨rfl,rfl,⟨_,sP⟩⟩
 refine oM rfl ?_
 refine' Df (j:=11) (k:=8) y rfl rfl rfl rfl rfl rfl rfl (fun hg16=> ?_) ?_
 rotate_left
 ·try (simp at hg16;show _)
  refine o_g y rfl rfl ?_
  refine oM rfl ?_
  refine o_g y rfl rfl ?_
  refine oN rfl ?_
  refine o_g y rfl rfl ?_
  refine oF rfl ?_
  refine o_g y rfl rfl ?_
  refine oF rfl ?_
  refine o_g y rfl rfl ?_
  refine oR (Al rfl mM rfl) ?_
  refine o_g y rfl rfl ?_
  refine oM rfl ?_
  refine o_g y rfl rfl ?_
  refine A6 rfl (Hi (s:=t.u) (T:=tI)) sP rfl aQ ?_
  refine o_g y rfl rfl ?_
  refine oR (Bx rfl) ?_
  exact Ac ⟨rfl,rfl,⟨_,sP⟩⟩
 refine oM rfl ?_
 refine' Df (j:=21) (k:=8) y rfl rfl rfl rfl rfl rfl rfl (fun hg26=> ?_) ?_
 rotate_left
 ·try (simp at hg26;show _)
  refine o_g y rfl rfl ?_
  refine oM rfl ?_
  refine o_g y rfl rfl ?_
  refine oN rfl ?_
  refine o_g y rfl rfl ?_
  refine oF rfl ?_
  refine o_g y rfl rfl ?_
  refine oF rfl ?_
  refine o_g y rfl rfl ?_
  refine oR (Al rfl mM rfl) ?_
  refine o_g y rfl rfl ?_
  refine oM rfl ?_
  refine o_g y rfl rfl ?_
  refine A6 rfl (Hi (s:=t.l) (T:=tI)) sP rfl aQ ?_
  refine o_g y rfl rfl ?_
  refine oR (Bx rfl) ?_
  exact Ac ⟨rfl,rfl,⟨_,sP⟩⟩
 refine oA rfl<|Ac<|n_K<|An ?_
 refine Aq (At Tryz.results241 (Ag rfl)) ?_ sP
 rfl
theorem Aji (ha:c.aC=a) (hn:c.blocks.length≤1000):Does Tryz.prog 229 [ptr t.b] (Dk a t++(chH c++[])) (Is (.tuple #[.int .i64 (Bu t.ts c.blocks.length).1,.bool (Bu t.ts c.blocks.length).2]) (Dk a t++(chH c++[]))):=by
 rw [Ej];simp only [A02,A0j,A1k]
 refine Ah (n:=18) Tryz.func229 Tryz.ntmps229 rfl (Ay9 rfl)<|Ad<|Aa fun ops=>oA rfl<|oA rfl<|Ac<|n_K<|Ad<|Ad<|Aa fun ops=>oM rfl<|oN rfl<|oF rfl ?_
 refine oR (Al rfl mM rfl) ?_
 refine A6 rfl (Pe ha) sP rfl aQ ?_
 refine oM rfl<|Ac<|n_K<|Ak ?_
 refine D7 [0,9] kQ (fun (i:Nat)=>[(10,.int .i64 i)]) (fun (i:Nat)=>i≤c.blocks.length∧∀ k<i,D5 t.ts c.blocks.length k=false) (fun (i:Nat)=>c.blocks.length - i) ((0:Nat)) ⟨A2r _,fun k hk=>by omega⟩ kP ?_
 rintro i ⟨h0,h1⟩
 refine Ad<|Aa fun ops=>oR (Ae rfl rfl rfl)<|Ac<|n_K<|Ad ?_
 refine Aj rfl (fun c11=> ?_) (fun c11=> ?_)
 ·simp only [A0d,Ayz] at c11
  refine Ai<|n_K<|Ad<|Ak<|Ad<|Aa fun ops=>oM rfl<|oA rfl<|Ac<|n_K<|Ad<|Aa fun ops=>oM rfl<|oM rfl ?_
  refine A6 rfl ((by have h:=Ut (t:=t) ha (b:=(i:Int));rw [Ej] at h;simp only [A02,A0j,A1k] at h;exact h)) sP rfl aQ ?_
  refine Ac<|n_K ?_
  refine Aj rfl (fun c15=> ?_) (fun c15=> ?_)
  ·skip
   have hres:=Ace (by omega) h1 c15
   refine Ad<|Aa fun ops=>oM rfl<|oA rfl<|oA rfl<|Ac<|n_K<|An<|Bn<|r_K<|r_K<|Bn<|r_K ?_
   refine Aq (Bz Tryz.results229 (Ag rfl) (Ag rfl)) ?_ sP
   rw [hres]
  ·skip
   refine Ai<|Az<|n_K<|Aa fun ops=> ?_
   refine oR (Ao rfl rfl (by omega)) ?_
   refine oM rfl<|Ac<|n_K ?_
   exact ⟨i+1,⟨by omega,fun k hk=>by rcases A2i k i with h | h;exact h1 k h;rw [show k=i by omega];exact c15⟩,(by omega),lZ⟩
 ·simp only [A0d,Ayz] at c11
  have hres:=Aeq (t:=t.ts) (n:=c.blocks.length) (fun k hk=>h1 k (by omega))
  refine Bb<|x_K<|x_K<|Bj<|n_K<|Ad<|Aa fun ops=>oA rfl<|oA rfl<|Ac<|n_K<|An ?_
  refine Aq (Bz Tryz.results229 (Ag rfl) (Ag rfl)) ?_ sP
  rw [hres]
theorem Asi {b:Int} (hu:t.u.list.length≤1000) (hl:t.l.list.length≤11):Does Tryz.prog 243 [ptr t.b,.int .i64 b] (Dk a t) (fun v H=>∃ u l:Sl Int,v= .agg #[u.val,l.val]∧H=u.hp tI++(l.hp tI++(Dk a t++[]))∧u.list=t.u.list∧l.list.Perm (t.l.list++[b])∧u.isOwn=true∧l.isOwn=true):=by
 rw [Ej]
 refine Ah (n:=21) Tryz.func243 Tryz.ntmps243 rfl (Ay9 rfl)<|Ad<|Aa fun ops=> ?_
 refine Aw rfl fun b4=> ?_
 refine Ac<|n_K<|Ad<|Aa fun ops=>oM rfl<|oN rfl<|oF rfl ?_
 refine oR (Au rfl mM rfl) ?_
 refine Bd rfl (Ajg (u:=t.u) (l:=t.l) hu (by omega)) sP rfl fun v10 Y10 h10=> ?_
 obtain ⟨u10,l10,rfl,rfl,hu10,hl10,ou10,ol10⟩:=h10
 refine Ay aQ ?_
 refine Aw rfl fun b5=> ?_
 refine Af rfl rfl uD rfl rfl rfl ?_
 refine Ac<|n_K<|Ad<|Aa fun ops=>oF rfl ?_
 refine oR (Al rfl mM rfl) ?_
 refine oM rfl ?_
 refine A5 rfl rfl rfl rfl fun b14=> ?_
 refine Bp (s:=l10) (new:=[b]) (m:=1) rfl rfl pL ol10 (Cv (r:=true) mM rfl) rfl rfl rfl rfl (by rw [hl10];omega) rfl fun s15 hs1 hs2=> ?_
 refine oF rfl ?_
 refine Af rfl rfl uD rfl rfl rfl ?_
 refine Ac<|n_K<|Ad<|Aa fun ops=>oF rfl ?_
 refine oR (Al rfl mM rfl) ?_
 refine Bd rfl (Asf (s:=s15) hs2 (by rw [hs1,hl10];simp;omega)) sP rfl fun v19 Y19 h19=> ?_
 obtain ⟨rfl,l19,rfl,hv19,ho19,hp19⟩:=h19
 refine Ay aQ ?_
 refine Ac<|n_K<|Ad<|Aa fun ops=> ?_
 refine oR (Au rfl mM rfl) ?_
 refine Af rfl rfl uD rfl rfl rfl ?_
 refine Ac<|n_K<|An ?_
 exact Av (At Tryz.results243 (Bv rfl mM rfl)) (by exact ⟨u10,l19,by rw [hv19],rfl,hu10,by rw [← hl10,← hs1];exact hp19,ou10,ho19⟩) (by simp only [A02,A0j,A1k];exact sP)
def Agr (a:Nat) (t:Tab) (c:Chip) (uses lost:List Int) (v:Value) (H:Hp):Prop :=
 ∃ (t':Tab) (lost':List Int),t'.b=t.b∧lost'.Perm lost∧v= .int .i64 (B6 t.ts uses lost' c).1∧H=Dk a t'++(chH (B6 t.ts uses lost' c).2.2++[])∧t'.ts=(B6 t.ts uses lost' c).2.1
theorem Mh {u uses l lost:List Int} {t':Tab} {v:Value} (hb:t'.b=t.b) (hP:l.Perm lost) (hu:u=uses) (hv:v= .int .i64 (B6 t.ts u l c).1) (hts:t'.ts=(B6 t.ts u l c).2.1):Agr a t c uses lost v (Dk a t'++(chH (B6 t.ts u l c).2.2++[])):=by
 subst hu;exact ⟨t',l,hb,hP,hv,rfl,hts⟩
theorem Ajj (ha:c.aC=a) {b:Int}:Does Tryz.prog 241 [ptr t.b,.int .i64 b] ((t.b,true,C (Hv a t) tTb)::(t.u.hp tI++(t.l.hp tI++(chH c++[])))) (Is (.bool (D5 t.ts c.blocks.length b)) ((t.b,true,C (Hv a t) tTb)::(t.u.hp tI++(t.l.hp tI++(chH c++[]))))):=by
 have h:=Ut (t:=t) ha (b:=b)
 rw [Ej] at h;simp only [A02,A0j,A1k] at h;exact h
theorem Acg {b:Int} (hu:t.u.list.length≤1000) (hl:t.l.list.length≤11):Does Tryz.prog 243 [ptr t.b,.int .i64 b] ((t.b,true,C (Hv a t) tTb)::(t.u.hp tI++(t.l.hp tI++[]))) (fun v H=>∃ u l:Sl Int,v= .agg #[u.val,l.val]∧H=u.hp tI++(l.hp tI++((t.b,true,C (Hv a t) tTb)::(t.u.hp tI++(t.l.hp tI++[]))))∧u.list=t.u.list∧l.list.Perm (t.l.list++[b])∧u.isOwn=true∧l.isOwn=true):=by
 have h:=Asi (t:=t) (a:=a) (b:=b) hu hl
 rw [Ej] at h;simp only [A02,A0j,A1k] at h;exact h
theorem Aol (ha:c.aC=a) {b:Int} (hu:t.u.list.length≤1000) (hl:t.l.list.length≤11) (hn:0≤t.next) (har:0≤t.area∧t.area≤1):Does Tryz.prog 232 [ptr t.b,.int .i64 b] (Dk a t++(chH c++[]))
  (fun v H=>if D5 t.ts c.blocks.length b=true then Agr a t c t.u.list (t.l.list++[b]) v H else v= .int .i64 1∧H=Dk a t++(chH c++[])):=by
 rw [Ej];simp only [A02,A0j,A1k]
 refine Ah (n:=14) Tryz.func232 Tryz.ntmps232 rfl (Ay9 rfl)<|Ad<|Aa fun ops=>oA rfl<|Ac<|n_K<|Ad<|Ad<|Aa fun ops=>oM rfl<|oM rfl ?_
 refine A6 rfl (Ajj (t:=t) ha) sP rfl aQ ?_
 refine oR (Bx rfl)<|Ac<|n_K ?_
 refine Aj rfl (fun c8=> ?_) (fun c8=> ?_)
 ·skip
  refine Ad<|Aa fun ops=>oA rfl<|Ac<|n_K<|An<|r_K ?_
  exact Av (At Tryz.results232 (Ag rfl)) (by rw [A26 (by simpa using c8)];exact ⟨rfl,rfl⟩) sP
 ·skip
  refine Ai<|n_K<|Ad<|Aa fun ops=>oM rfl<|oM rfl<|oM rfl ?_
  refine Bd rfl (Acg (t:=t) (a:=a) hu hl) sP rfl fun v12 Y12 h12=> ?_
  obtain ⟨u12,l12,rfl,rfl,hu12,hl12,ou12,ol12⟩:=h12
  refine Ay aQ ?_
  refine Bd rfl (Ph (t:=t) (u:=u12) (l:=l12) ha (by rw [hu12];exact hu) (by rw [hl12.length_eq];simp;omega) hn har) sP rfl fun v13 Y13 h13=> ?_
  rcases h13 with ⟨t',e1,e2,e3,rfl,rfl,e4,e5⟩ | ⟨e,rfl,e1,rfl,e4,e5⟩
  all_goals
   refine Ay aQ ?_
   refine oA rfl<|Ac<|n_K<|An ?_
   exact Av (At Tryz.results232 (Ag rfl)) (by rw [A25 (by simpa using c8)];first | exact Mh e1 hl12 hu12 (by rw [e4]) e5 | exact Mh (t':=t) rfl hl12 hu12 (by rw [e4]) e5) (by rw [Ej];simp only [A02,A0j,A1k];first | (rw [e2,e3];exact sP) | exact sP)
theorem Asj (ha:c.aC=a) {i b:Int} (hu:t.u.list.length≤1000) (hl:t.l.list.length≤11) (hn:0≤t.next) (har:0≤t.area∧t.area≤1):Does Tryz.prog 231 [ptr t.b,.int .i64 i,.int .i64 b] (Dk a t++(chH c++[]))
  (fun v H=>if ((atT t.ts i).2 && D5 t.ts c.blocks.length b)=true then Agr a t c (t.u.list.set i.toNat b) (t.l.list++[at0 t.u.list i]) v H else v= .int .i64 1∧H=Dk a t++(chH c++[])):=by
 refine Ah (n:=35) Tryz.func231 Tryz.ntmps231 rfl (Ay9 rfl)<|Ad<|Aa fun ops=>oA rfl<|Ac<|n_K<|Ad<|Aa fun ops=>oM rfl<|oM rfl ?_
 refine A6 rfl (Atd (t:=t)) sP rfl aQ ?_
 refine oM rfl<|oE rfl rfl<|oE rfl rfl<|oA rfl<|oA rfl<|Ac<|n_K<|Ad<|Ad ?_
 refine Bf [(2,18)] rfl fun ops y=> ?_
 refine oM rfl<|oR (Bx rfl)<|oM rfl ?_
 refine' Es (j:=2) (k:=4) y rfl rfl rfl rfl rfl rfl rfl (fun hg18=> ?_) ?_
 rotate_left
 ·try (simp at hg18;show _)
  refine o_g y rfl rfl ?_
  refine oM rfl ?_
  refine o_g y rfl rfl ?_
  refine oM rfl ?_
  refine o_g y rfl rfl ?_
  refine A6 rfl (Ut (t:=t) ha) sP rfl aQ ?_
  refine o_g y rfl rfl ?_
  refine oR (Bx rfl) ?_
  exact Ac ⟨rfl,rfl,⟨_,sP⟩⟩
 refine Ac<|n_K ?_
 refine Aj rfl (fun c23=> ?_) (fun c23=> ?_)
 ·skip
  have hc:¬ ((atT t.ts i).2 && D5 t.ts c.blocks.length b)=true:=(by simp at c23 ⊢;intro h;rcases c23 with h2 | h2;rw [h] at h2;cases h2;exact h2)
  refine Ad<|Aa fun ops=>oA rfl<|Ac<|n_K<|An<|r_K ?_
  exact Av (At Tryz.results231 (Ag rfl)) (by rw [A26 hc];exact ⟨rfl,rfl⟩) sP
 ·skip
  have hc:(atT t.ts i).2=true∧D5 t.ts c.blocks.length b=true:=(by simp at c23;exact c23)
  have hi:0≤i∧i<t.u.list.length:=(by have:=hc.1;unfold atT at this;split at this;cases this;rename_i h;simp at h;have e:t.ts.uses=t.u.list:=rfl;rw [e] at h;omega)
  have hat:(atT t.ts i).1=at0 t.u.list i:=(by have:=hc.1;unfold atT at this ⊢;split at this;cases this;rename_i h;rw [A26 h];rfl)
  rw [hat,Ej]
  simp only [A02,A0j,A1k]
  refine Ai<|n_K<|Ad<|Aa fun ops=>oM rfl<|oM rfl ?_
  refine Bd rfl (Acg (t:=t) (a:=a) hu hl) sP rfl fun v26 Y26 h26=> ?_
  obtain ⟨u26,l26,rfl,rfl,hu26,hl26,ou26,ol26⟩:=h26
  refine Ay aQ ?_
  refine Aw rfl fun b9=> ?_
  refine Af rfl rfl uD rfl rfl rfl ?_
  refine Ac<|n_K<|Ad<|Aa fun ops=>oF rfl ?_
  refine oR (Al rfl mM rfl) ?_
  refine oM rfl<|oM rfl ?_
  refine oR (Bk rfl rfl ⟨hi.1,by rw [hu26];exact hi.2⟩) ?_
  (have hg:u26.list[i.toNat]? =some (at0 t.u.list i):=by (rw [hu26];exact Hz hi.1 hi.2));obtain ⟨u',hu'⟩:∃ u',u'=u26.set i.toNat b:=⟨_,rfl⟩;refine Fb (s:=u26) (o:=0) (z':=b) rfl rfl uL ou26 hg rfl rfl rfl (by rw [Kq ou26];exact A2g _) ?_;rw [← hu'];have hl':u'.list=t.u.list.set i.toNat b:=(by rw [hu',Sl.set_list _ _ _ ou26,hu26]);have hv':u'.val=u26.val:=(by rw [hu',Sl.set_val])
  refine Ac<|n_K<|Ad<|Aa fun ops=>oM rfl ?_
  refine oR (Au rfl mM rfl) ?_
  refine Bd rfl ((by have h:=Ph (c:=c) (a:=a) (t:=t) (u:=u') (l:=l26) ha (by rw [hl',A1f];exact hu) (by rw [hl26.length_eq];simp;omega) hn har;rw [hv'] at h;exact h)) sP rfl fun v34 Y34 h34=> ?_
  rcases h34 with ⟨t',e1,e2,e3,rfl,rfl,e4,e5⟩ | ⟨e,rfl,e1,rfl,e4,e5⟩
  all_goals
   refine Ay aQ ?_
   refine oA rfl<|Ac<|n_K<|An ?_
   exact Av (At Tryz.results231 (Ag rfl)) (by rw [A25 (by rw [hc.1,hc.2];rfl)];first | exact Mh e1 hl26 hl' (by rw [e4]) e5 | exact Mh (t':=t) rfl hl26 hl' (by rw [e4]) e5) (by rw [Ej];simp only [A02,A0j,A1k];first | (rw [e2,e3];exact sP) | exact sP)
end
end
section
open Go.K
instance zer227:Zer Tryz.prog 227 ([.pointer none,.slice none 0 0,.slice none 0 0,.int .u64 0,.int .i64 0,.int .i64 0,.int .i64 0]):=⟨by kernel_rfl⟩
instance plc227:Plc Tryz.prog 227 [(0,1),(1,2),(3,1),(4,1),(5,1),(6,1)]:=⟨⟨_,Tryz.underlying227,fun _=>by kernel_rfl⟩⟩
instance ent129:Ent Tryz.prog 129:=⟨fun _ _=>by kernel_rfl⟩
instance ent131:Ent Tryz.prog 131:=⟨fun _ _=>by kernel_rfl⟩
def Uu (a:Nat) (c:Chip) (v:Value) (H:Hp):Prop :=
 if (Dj c).1=0 then ∃ t:Tab,v= .tuple #[ptr t.b,.int .i64 0]∧H=Dk a t++(chH c++[])∧t.ts=(Dj c).2
 else v= .tuple #[.pointer none,.int .i64 (Dj c).1]∧H=chH c++[]
def Awt (s:Sc) (u l:Sl Int):Prop:=u.list=s.uses∧l.list=s.lost
theorem Zf {c:Chip} (hb:2≤c.blocks.length∧c.blocks.length≤1000):Does Tryz.prog 129 [ptr c.aC] (chH c) (Uu c.aC c):=by
 refine Ah (n:=101) Tryz.func129 Tryz.ntmps129 rfl (Ay9 rfl)<|Ad<|Aa fun ops=>oA rfl<|oA rfl<|Ac<|n_K<|Ad<|Aa fun ops=>oM rfl<|oR (Bc rfl rfl) ?_
 refine De rfl rfl fun b20=> ?_
 refine oA rfl<|Ac<|n_K<|Ad<|Aa fun ops=>oA rfl<|Ac<|n_K<|Ad<|Ad<|Aa fun ops=>oM rfl<|Ac<|n_K ?_
 refine Ak ?_
 refine Im (G:=(b20,true,C (Hv c.aC ⟨b20,.nil,.nil,0,0,0,0⟩) tTb)::((Sl.nil:Sl Int).hp tI++((Sl.nil:Sl Int).hp tI++(chH c++[])))) (by simp only [Sl.hp_nil,A1k,A1j];rfl) ?_
 refine A8 [0,4] kQ (fun (st:Nat×Tab)=>[(21,.int .i64 st.1),(5,.bool (Db c st.1).2)]) (fun (st:Nat×Tab)=>(b20,true,C (Hv c.aC st.2) tTb)::(st.2.u.hp tI++(st.2.l.hp tI++(chH c++[])))) (fun (st:Nat×Tab)=>st.1≤2∧st.2.ts=(Db c st.1).1∧st.2.b=b20∧(0<st.1→Aww c 0 0=0)) (fun (st:Nat×Tab)=>2 - st.1) ((0,⟨b20,.nil,.nil,0,0,0,0⟩)) ⟨A2r _,rfl,rfl,fun h=>by simp at h⟩ kP sP ?_
 rintro ⟨k,t⟩ ⟨h0,h1,h2,h3⟩
 simp only at h0 h1 h2 h3
 refine Ad<|Aa fun ops=>oR (Ae rfl rfl rfl)<|Ac<|n_K<|Ad ?_
 refine Aj rfl (fun c22=> ?_) (fun c22=> ?_)
 ·simp only [A0d,Ayz] at c22
  refine Ai<|n_K<|Ad<|Ak<|Ad<|Aa fun ops=>oM rfl<|oA rfl<|Ac<|n_K<|Ad<|Aa fun ops=>oA rfl<|Ac ?_
  refine n_K<|Ad<|Aa fun ops=> ?_
  refine Aw rfl fun b8=> ?_
  refine Ac<|n_K<|Ad<|Aa fun ops=>oA rfl<|Ac<|n_K<|Ad<|Aa fun ops=>oA rfl<|oA rfl<|Ac<|n_K<|Ad ?_
  refine Ad<|Aa fun ops=>oM rfl<|Ac<|n_K<|Ak ?_
  refine Im (G:=(b8,true,C [(Sl.nil:Sl Int).val,(Sl.nil:Sl Int).val] tPl)::((Sl.nil:Sl Int).hp tI++((Sl.nil:Sl Int).hp tI++((b20,true,C (Hv c.aC t) tTb)::(t.u.hp tI++(t.l.hp tI++(chH c++[]))))))) (by simp only [Sl.hp_nil,A1k];rfl) ?_
  refine A8 [0,4,5,6,8,21] kQ (fun (st:Nat×Sl Int×Sl Int)=>[(24,.int .i64 st.1),(7,.int .i64 (Ci c k st.1).last),(9,wv (Ci c k st.1).newest),(10,.int .i64 (Ci c k st.1).at'),(11,.bool (Ci c k st.1).any)]) (fun (st:Nat×Sl Int×Sl Int)=>(b8,true,C [st.2.1.val,st.2.2.val] tPl)::(st.2.1.hp tI++(st.2.2.hp tI++((b20,true,C (Hv c.aC t) tTb)::(t.u.hp tI++(t.l.hp tI++(chH c++[]))))))) (fun (st:Nat×Sl Int×Sl Int)=>st.1≤8∧Awt (Ci c k st.1) st.2.1 st.2.2∧(0<st.1→Aww c 0 0=0)) (fun (st:Nat×Sl Int×Sl Int)=>8 - st.1) ((0,.nil,.nil)) ⟨A2r _,⟨rfl,rfl⟩,fun h=>by simp at h⟩ kP sP ?_
  rintro ⟨i,u,l⟩ ⟨k0,k1,k2⟩
  simp only at k0 k1 k2
  refine Ad<|Aa fun ops=>oR (Ae rfl rfl rfl)<|Ac<|n_K<|Ad ?_
  refine Aj rfl (fun c25=> ?_) (fun c25=> ?_)
  ·simp only [A0d,Ayz] at c25
   have hms:Aww c k i=Aww c 0 0:=Aof hb.1 (by omega) (by omega)
   have hsc:Ci c k (i+1)=Ix c k i (Ci c k i):=rfl
   refine Ai<|n_K<|Ad<|Ak<|Ad<|Aa fun ops=>oM rfl<|oA rfl<|Ac<|n_K<|Ad<|Aa fun ops=>oM rfl<|oM rfl ?_
   refine oM rfl ?_
   refine A6 rfl (Yi) sP rfl aQ ?_
   refine oM rfl<|oE rfl rfl<|oE rfl rfl ?_
   refine Aw rfl fun b13=> ?_
   rw [Cs]
   first | refine Af rfl rfl uD (Ct) (Ar) (B2 (by first | exact Ar | exact Azc ..)) ?_ | refine Af rfl rfl uD rfl rfl rfl ?_
   refine oA rfl<|Ac<|n_K<|Ad<|Ad<|Aa fun ops=>oM rfl<|oR (Ae rfl rfl rfl)<|Ac<|n_K ?_
   refine Aj rfl (fun c35=> ?_) (fun c35=> ?_)
   ·skip
    have hne:¬ Aww c 0 0=0:=(by rw [← hms];simpa using c35)
    have hres:Dj c=(Aww c 0 0,ts0):=(by unfold Dj;rw [A25 hne])
    refine Ad<|Aa fun ops=>oM rfl<|oA rfl<|oA rfl<|Ac<|n_K<|An<|r_K<|Bn<|r_K<|r_K<|Bn<|r_K ?_
    refine Bn<|r_K<|r_K<|Bn<|r_K ?_
    exact Av (Bz Tryz.results129 (Ag rfl) (Ag rfl)) (by unfold Uu;rw [A26 (by rw [hres];exact hne),hres,hms];exact ⟨rfl,rfl⟩) sP
   ·skip
    have hz:Aww c 0 0=0:=(by rw [← hms];simpa using c35)
    refine Ai<|n_K<|Ad<|Ad<|Aa fun ops=> ?_
    refine oR (Au rfl mM (by first | exact Bg | rfl)) ?_
    refine A6 rfl (L7) sP rfl aQ ?_
    refine oR (Bx rfl)<|Ac<|n_K ?_
    refine Aj rfl (fun c39=> ?_) (fun c39=> ?_)
    ·skip
     have hla:(if Bs (B0 c k i)=true then (Ci c k i).last else (i:Int)+1)=(i:Int)+1:=(by rw [A26 (by simpa using c39)])
     refine Aa fun ops=>oM rfl ?_
     refine oR (Ao rfl rfl (by omega)) ?_
     refine oA rfl<|Ac<|n_K<|Ad ?_
     refine N7 [] [(11,(.fork [(0,false),(1,false)] 2 (.fork [] 3 (.one [(4,false),(5,false),(6,false),(7,false),(8,true),(9,true),(10,false)]) 8 (.one [(3,true),(4,false),(5,false),(6,false),(7,false),(9,true),(10,false)])) 8 (.one [(2,true),(3,true),(4,false),(5,false),(6,false),(7,false),(9,true),(10,false)]))),(12,(.one [(11,false)]))] (by kernel_rfl) rfl fun ops w0 H0 y=> ?_
     refine Le ?_
     refine Lf ?_ rfl
     refine xR (Au rfl mM (by first | exact Bg | rfl)) ?_
     refine xM rfl ?_
     refine Am ⟨⟨_,sP⟩,?_,?_⟩
     refine Be ?_
     refine A6 rfl (Fc) sP rfl aQ ?_
     refine Ac ⟨rfl,⟨_,sP⟩,?_⟩
     refine Am ?_
     refine Lf ?_ rfl
     refine Am ⟨⟨_,sP⟩,?_,?_⟩
     refine Be ?_
     refine Bd rfl (J4 (q:=B0 c k i) (n:=c.blocks.length)) sP rfl fun v46 Y46 h46=> ?_
     obtain ⟨u46,l46,rfl,rfl,hu46,hl46,ou46,ol46⟩:=h46
     refine Ay aQ ?_
     refine Ac ⟨rfl,⟨_,sP⟩,?_⟩
     refine Am ?_
     refine G1 ?_
     refine xM rfl<|xE rfl rfl<|xE rfl rfl<|xE rfl rfl<|Be ?_
     refine Aw rfl fun b15=> ?_
     refine Ac ⟨rfl,⟨_,sP⟩,?_⟩
     refine Be ?_
     refine Af rfl rfl uD rfl rfl rfl ?_
     refine Ac ⟨rfl,⟨_,sP⟩,?_⟩
     refine xA rfl<|Am ?_
     rotate_left
     refine Be ?_
     refine Aw rfl fun b15=> ?_
     refine Ac ⟨rfl,⟨_,sP⟩,?_⟩
     refine Am ?_
     refine G1 ?_
     refine Be ?_
     refine Bd rfl (J4 (q:=B0 c k i) (n:=c.blocks.length)) sP rfl fun v46 Y46 h46=> ?_
     obtain ⟨u46,l46,rfl,rfl,hu46,hl46,ou46,ol46⟩:=h46
     refine Ay aQ ?_
     refine Ac ⟨rfl,⟨_,sP⟩,?_⟩
     refine xM rfl<|xE rfl rfl<|xE rfl rfl<|xE rfl rfl<|Be ?_
     refine Af rfl rfl uD rfl rfl rfl ?_
     refine Ac ⟨rfl,⟨_,sP⟩,?_⟩
     refine xA rfl<|Am ?_
     rotate_left
     refine Be ?_
     refine Aw rfl fun b15=> ?_
     refine Ac ⟨rfl,⟨_,sP⟩,?_⟩
     refine Am ?_
     refine G1 ?_
     refine Be ?_
     refine A6 rfl (Fc) sP rfl aQ ?_
     refine Ac ⟨rfl,⟨_,sP⟩,?_⟩
     refine Be ?_
     refine Bd rfl (J4 (q:=B0 c k i) (n:=c.blocks.length)) sP rfl fun v46 Y46 h46=> ?_
     obtain ⟨u46,l46,rfl,rfl,hu46,hl46,ou46,ol46⟩:=h46
     refine Ay aQ ?_
     refine Ac ⟨rfl,⟨_,sP⟩,?_⟩
     refine xM rfl<|xE rfl rfl<|xE rfl rfl<|xE rfl rfl<|Be ?_
     refine Af rfl rfl uD rfl rfl rfl ?_
     refine Ac ⟨rfl,⟨_,sP⟩,?_⟩
     refine xA rfl<|Am ?_
     rotate_left
     all_goals
      refine Le ?_
      refine G1 ?_
      refine xA rfl<|Am ?_
      refine S5 ?_
      refine n_K<|Ad ?_
      refine Bf [(1,51),(4,54)] rfl fun ops y=> ?_
      refine oM rfl<|oM rfl ?_
      refine' Df (j:=1) (k:=7) y rfl rfl rfl rfl rfl rfl rfl (fun hg51=> ?_) ?_
      rotate_left
      ·try (simp at hg51;show _)
       refine o_g y rfl rfl ?_
       refine oM rfl ?_
       refine o_g y rfl rfl ?_
       refine oR (Bx rfl) ?_
       refine o_g y rfl rfl ?_
       refine oM rfl ?_
       refine' Es (j:=4) (k:=3) y rfl rfl rfl rfl rfl rfl rfl (fun hg54=> ?_) ?_
       rotate_left
       ·try (simp at hg54;show _)
        refine o_g y rfl rfl ?_
        refine oM rfl ?_
        refine o_g y rfl rfl ?_
        refine oM rfl ?_
        refine o_g y rfl rfl ?_
        refine oR (Ae rfl rfl rfl) ?_
        exact Ac ⟨rfl,rfl,⟨_,sP⟩⟩
       exact Ac ⟨rfl,rfl,⟨_,sP⟩⟩
      refine Ac<|n_K ?_
      refine Aj rfl (fun c59=> ?_) (fun c59=> ?_)
      ·skip
       have hs1:Ci c k (i+1)=⟨(if Bs (B0 c k i)=true then (Ci c k i).last else (i:Int)+1),(Dp (B0 c k i) c.blocks.length).1,(Dp (B0 c k i) c.blocks.length).2.1,(Dp (B0 c k i) c.blocks.length).2.2.1,i,true⟩:=(by rw [hsc];unfold Ix;simp only [];rw [A25 c59])
       rw [hla] at hs1
       refine Aa fun ops=> ?_
       refine oR (Au rfl mM rfl) ?_
       refine oM rfl<|oM rfl ?_
       refine Af rfl rfl uD rfl rfl rfl ?_
       refine oA rfl<|oA rfl<|oA rfl<|Ac<|Az<|n_K<|Aa fun ops=> ?_
       refine oR (Ao rfl rfl (by omega)) ?_
       refine oM rfl<|Ac<|n_K ?_
       first | refine ⟨(i+1,u,l),⟨by simp only;omega,by rw [hs1];exact k1,fun _=>hz⟩,by simp only;omega,(by rw [hs1];exact kP),kP,_,sP⟩ | refine ⟨(i+1,u46,l46),⟨by simp only;omega,by rw [hs1];exact ⟨hu46,hl46⟩,fun _=>hz⟩,by simp only;omega,(by rw [hs1];exact kP),kP,_,sP⟩
      ·skip
       have hs1:Ci c k (i+1)={ Ci c k i with last:=(if Bs (B0 c k i)=true then (Ci c k i).last else (i:Int)+1) }:=(by rw [hsc];unfold Ix;simp only [];rw [A26 (by rw [c59];exact Az2)])
       rw [hla] at hs1
       refine Ai<|Az<|n_K<|Aa fun ops=> ?_
       refine oR (Ao rfl rfl (by omega)) ?_
       refine oM rfl<|Ac<|n_K ?_
       first | refine ⟨(i+1,u,l),⟨by simp only;omega,by rw [hs1];exact k1,fun _=>hz⟩,by simp only;omega,(by rw [hs1];exact kP),kP,_,sP⟩ | refine ⟨(i+1,u46,l46),⟨by simp only;omega,by rw [hs1];exact ⟨hu46,hl46⟩,fun _=>hz⟩,by simp only;omega,(by rw [hs1];exact kP),kP,_,sP⟩
    ·skip
     have hla:(if Bs (B0 c k i)=true then (Ci c k i).last else (i:Int)+1)=(Ci c k i).last:=(by rw [A25 (by simpa using c39)])
     refine Ai<|n_K<|Ad ?_
     refine N7 [] [(11,(.fork [(0,false),(1,false)] 2 (.fork [] 3 (.one [(4,false),(5,false),(6,false),(7,false),(8,true),(9,true),(10,false)]) 8 (.one [(3,true),(4,false),(5,false),(6,false),(7,false),(9,true),(10,false)])) 8 (.one [(2,true),(3,true),(4,false),(5,false),(6,false),(7,false),(9,true),(10,false)]))),(12,(.one [(11,false)]))] (by kernel_rfl) rfl fun ops w0 H0 y=> ?_
     refine Le ?_
     refine Lf ?_ rfl
     refine xR (Au rfl mM (by first | exact Bg | rfl)) ?_
     refine xM rfl ?_
     refine Am ⟨⟨_,sP⟩,?_,?_⟩
     refine Be ?_
     refine A6 rfl (Fc) sP rfl aQ ?_
     refine Ac ⟨rfl,⟨_,sP⟩,?_⟩
     refine Am ?_
     refine Lf ?_ rfl
     refine Am ⟨⟨_,sP⟩,?_,?_⟩
     refine Be ?_
     refine Bd rfl (J4 (q:=B0 c k i) (n:=c.blocks.length)) sP rfl fun v46 Y46 h46=> ?_
     obtain ⟨u46,l46,rfl,rfl,hu46,hl46,ou46,ol46⟩:=h46
     refine Ay aQ ?_
     refine Ac ⟨rfl,⟨_,sP⟩,?_⟩
     refine Am ?_
     refine G1 ?_
     refine xM rfl<|xE rfl rfl<|xE rfl rfl<|xE rfl rfl<|Be ?_
     refine Aw rfl fun b15=> ?_
     refine Ac ⟨rfl,⟨_,sP⟩,?_⟩
     refine Be ?_
     refine Af rfl rfl uD rfl rfl rfl ?_
     refine Ac ⟨rfl,⟨_,sP⟩,?_⟩
     refine xA rfl<|Am ?_
     rotate_left
     refine Be ?_
     refine Aw rfl fun b15=> ?_
     refine Ac ⟨rfl,⟨_,sP⟩,?_⟩
     refine Am ?_
     refine G1 ?_
     refine Be ?_
     refine Bd rfl (J4 (q:=B0 c k i) (n:=c.blocks.length)) sP rfl fun v46 Y46 h46=> ?_
     obtain ⟨u46,l46,rfl,rfl,hu46,hl46,ou46,ol46⟩:=h46
     refine Ay aQ ?_
     refine Ac ⟨rfl,⟨_,sP⟩,?_⟩
     refine xM rfl<|xE rfl rfl<|xE rfl rfl<|xE rfl rfl<|Be ?_
     refine Af rfl rfl uD rfl rfl rfl ?_
     refine Ac ⟨rfl,⟨_,sP⟩,?_⟩
     refine xA rfl<|Am ?_
     rotate_left
     refine Be ?_
     refine Aw rfl fun b15=> ?_
     refine Ac ⟨rfl,⟨_,sP⟩,?_⟩
     refine Am ?_
     refine G1 ?_
     refine Be ?_
     refine A6 rfl (Fc) sP rfl aQ ?_
     refine Ac ⟨rfl,⟨_,sP⟩,?_⟩
     refine Be ?_
     refine Bd rfl (J4 (q:=B0 c k i) (n:=c.blocks.length)) sP rfl fun v46 Y46 h46=> ?_
     obtain ⟨u46,l46,rfl,rfl,hu46,hl46,ou46,ol46⟩:=h46
     refine Ay aQ ?_
     refine Ac ⟨rfl,⟨_,sP⟩,?_⟩
     refine xM rfl<|xE rfl rfl<|xE rfl rfl<|xE rfl rfl<|Be ?_
     refine Af rfl rfl uD rfl rfl rfl ?_
     refine Ac ⟨rfl,⟨_,sP⟩,?_⟩
     refine xA rfl<|Am ?_
     rotate_left
     all_goals
      refine Le ?_
      refine G1 ?_
      refine xA rfl<|Am ?_
      refine S5 ?_
      refine n_K<|Ad ?_
      refine Bf [(1,51),(4,54)] rfl fun ops y=> ?_
      refine oM rfl<|oM rfl ?_
      refine' Df (j:=1) (k:=7) y rfl rfl rfl rfl rfl rfl rfl (fun hg51=> ?_) ?_
      rotate_left
      ·try (simp at hg51;show _)
       refine o_g y rfl rfl ?_
       refine oM rfl ?_
       refine o_g y rfl rfl ?_
       refine oR (Bx rfl) ?_
       refine o_g y rfl rfl ?_
       refine oM rfl ?_
       refine' Es (j:=4) (k:=3) y rfl rfl rfl rfl rfl rfl rfl (fun hg54=> ?_) ?_
       rotate_left
       ·try (simp at hg54;show _)
        refine o_g y rfl rfl ?_
        refine oM rfl ?_
        refine o_g y rfl rfl ?_
        refine oM rfl ?_
        refine o_g y rfl rfl ?_
        refine oR (Ae rfl rfl rfl) ?_
        exact Ac ⟨rfl,rfl,⟨_,sP⟩⟩
       exact Ac ⟨rfl,rfl,⟨_,sP⟩⟩
      refine Ac<|n_K ?_
      refine Aj rfl (fun c59=> ?_) (fun c59=> ?_)
      ·skip
       have hs1:Ci c k (i+1)=⟨(if Bs (B0 c k i)=true then (Ci c k i).last else (i:Int)+1),(Dp (B0 c k i) c.blocks.length).1,(Dp (B0 c k i) c.blocks.length).2.1,(Dp (B0 c k i) c.blocks.length).2.2.1,i,true⟩:=(by rw [hsc];unfold Ix;simp only [];rw [A25 c59])
       rw [hla] at hs1
       refine Aa fun ops=> ?_
       refine oR (Au rfl mM rfl) ?_
       refine oM rfl<|oM rfl ?_
       refine Af rfl rfl uD rfl rfl rfl ?_
       refine oA rfl<|oA rfl<|oA rfl<|Ac<|Az<|n_K<|Aa fun ops=> ?_
       refine oR (Ao rfl rfl (by omega)) ?_
       refine oM rfl<|Ac<|n_K ?_
       first | refine ⟨(i+1,u,l),⟨by simp only;omega,by rw [hs1];exact k1,fun _=>hz⟩,by simp only;omega,(by rw [hs1];exact kP),kP,_,sP⟩ | refine ⟨(i+1,u46,l46),⟨by simp only;omega,by rw [hs1];exact ⟨hu46,hl46⟩,fun _=>hz⟩,by simp only;omega,(by rw [hs1];exact kP),kP,_,sP⟩
      ·skip
       have hs1:Ci c k (i+1)={ Ci c k i with last:=(if Bs (B0 c k i)=true then (Ci c k i).last else (i:Int)+1) }:=(by rw [hsc];unfold Ix;simp only [];rw [A26 (by rw [c59];exact Az2)])
       rw [hla] at hs1
       refine Ai<|Az<|n_K<|Aa fun ops=> ?_
       refine oR (Ao rfl rfl (by omega)) ?_
       refine oM rfl<|Ac<|n_K ?_
       first | refine ⟨(i+1,u,l),⟨by simp only;omega,by rw [hs1];exact k1,fun _=>hz⟩,by simp only;omega,(by rw [hs1];exact kP),kP,_,sP⟩ | refine ⟨(i+1,u46,l46),⟨by simp only;omega,by rw [hs1];exact ⟨hu46,hl46⟩,fun _=>hz⟩,by simp only;omega,(by rw [hs1];exact kP),kP,_,sP⟩
  ·simp only [A0d,Ayz] at c25
   have hi8:i=8:=(by omega)
   subst hi8
   have hz:Aww c 0 0=0:=k2 (by omega)
   have hop:Db c (k+1)=Iy c k (Db c k):=rfl
   rw [show Db c k=((Db c k).1,(Db c k).2) from rfl,← h1] at hop
   refine Bb<|x_K<|x_K<|Bj<|n_K<|Ad ?_
   refine Bf [(1,65),(4,68)] rfl fun ops y=> ?_
   refine oM rfl<|oM rfl ?_
   refine' Df (j:=1) (k:=10) y rfl rfl rfl rfl rfl rfl rfl (fun hg65=> ?_) ?_
   rotate_left
   ·try (simp at hg65;show _)
    refine o_g y rfl rfl ?_
    refine oM rfl ?_
    refine o_g y rfl rfl ?_
    refine oR (Bx rfl) ?_
    refine o_g y rfl rfl ?_
    refine oM rfl ?_
    refine' Es (j:=4) (k:=6) y rfl rfl rfl rfl rfl rfl rfl (fun hg68=> ?_) ?_
    rotate_left
    ·try (simp at hg68;show _)
     refine o_g y rfl rfl ?_
     refine oM rfl ?_
     refine o_g y rfl rfl ?_
     refine oM rfl ?_
     refine o_g y rfl rfl ?_
     refine oN rfl ?_
     refine o_g y rfl rfl ?_
     refine oF rfl ?_
     refine o_g y rfl rfl ?_
     refine oR (Al rfl mM rfl) ?_
     refine o_g y rfl rfl ?_
     refine oR (Ae rfl rfl rfl) ?_
     exact Ac ⟨rfl,rfl,⟨_,sP⟩⟩
    exact Ac ⟨rfl,rfl,⟨_,sP⟩⟩
   refine Ac<|n_K ?_
   refine Aj rfl (fun c76=> ?_) (fun c76=> ?_)
   ·skip
    have ho1:Db c (k+1)=(⟨(Ci c k 8).uses,(Ci c k 8).lost,(Ci c k 8).newest,k,(Ci c k 8).last,(Ci c k 8).at'⟩,true):=(by rw [hop];exact A25 c76)
    refine Aa fun ops=>oM rfl<|oM rfl<|oM rfl<|oM rfl<|oM rfl ?_
    refine oR (Au rfl mM rfl) ?_
    refine oM rfl<|oM rfl<|oM rfl<|oM rfl<|oN rfl<|oF rfl ?_
    refine Af rfl rfl uD rfl rfl rfl ?_
    refine oN rfl<|oF rfl ?_
    refine Af rfl rfl uD rfl rfl rfl ?_
    refine oN rfl<|oF rfl ?_
    refine Af rfl rfl uD rfl rfl rfl ?_
    refine oN rfl<|oF rfl ?_
    refine Af rfl rfl uD rfl rfl rfl ?_
    refine oN rfl<|oF rfl ?_
    refine Af rfl rfl uD rfl rfl rfl ?_
    refine oA rfl<|Ac<|Az<|n_K<|Aa fun ops=> ?_
    refine oR (Ao rfl rfl (by omega)) ?_
    refine oM rfl<|Ac<|n_K ?_
    first | refine ⟨(k+1,t),⟨by simp only;omega,by rw [ho1];exact h1,h2,fun _=>hz⟩,by simp only;omega,(by rw [ho1];exact kP),kP,_,sP⟩ | refine ⟨(k+1,⟨b20,u,l,(Ci c k 8).newest,k,(Ci c k 8).last,(Ci c k 8).at'⟩),⟨by simp only;omega,by rw [ho1];show TS.mk _ _ _ _ _ _=_;rw [k1.1,k1.2],rfl,fun _=>hz⟩,by simp only;omega,(by rw [ho1];exact kP),kP,_,sP⟩
   ·skip
    have ho1:Db c (k+1)=Db c k:=(by rw [hop];refine (A26 (by intro h;have h':=h.symm.trans c76;cases h')).trans ?_;rw [h1])
    refine Ai<|Az<|n_K<|Aa fun ops=> ?_
    refine oR (Ao rfl rfl (by omega)) ?_
    refine oM rfl<|Ac<|n_K ?_
    first | refine ⟨(k+1,t),⟨by simp only;omega,by rw [ho1];exact h1,h2,fun _=>hz⟩,by simp only;omega,(by rw [ho1];exact kP),kP,_,sP⟩ | refine ⟨(k+1,⟨b20,u,l,(Ci c k 8).newest,k,(Ci c k 8).last,(Ci c k 8).at'⟩),⟨by simp only;omega,by rw [ho1];show TS.mk _ _ _ _ _ _=_;rw [k1.1,k1.2],rfl,fun _=>hz⟩,by simp only;omega,(by rw [ho1];exact kP),kP,_,sP⟩
 ·simp only [A0d,Ayz] at c22
  have hk2:k=2:=(by omega)
  subst hk2
  have hz:Aww c 0 0=0:=h3 (by omega)
  refine Bb<|x_K<|x_K<|Bj<|n_K<|Ad<|Ad<|Aa fun ops=>oM rfl<|oR (Bx rfl)<|Ac<|n_K ?_
  refine Aj rfl (fun c99=> ?_) (fun c99=> ?_)
  ·skip
   have hres:Dj c=(35,ts0):=(by unfold Dj;rw [A26 (by rw [hz];simp),A26 (by simpa using c99)])
   refine Ad<|Aa fun ops=>oA rfl<|oA rfl<|Ac<|n_K<|An<|r_K ?_
   exact Av (Bz Tryz.results129 (Ag rfl) (Ag rfl)) (by unfold Uu;rw [A26 (by rw [hres];decide),hres];exact ⟨rfl,rfl⟩) sP
  ·skip
   have hres:Dj c=(0,(Db c 2).1):=(by unfold Dj;rw [A26 (by rw [hz];simp),A25 (by simpa using c99)])
   refine Ai<|n_K<|Ad<|Aa fun ops=>oM rfl<|oA rfl<|oA rfl<|Ac<|n_K<|An ?_
   exact Av (Bz Tryz.results129 (Ag rfl) (Ag rfl)) (by unfold Uu;rw [A25 (by rw [hres])];exact ⟨t,by rw [h2],rfl,by rw [hres,h1]⟩) (by rw [Ej,h2];simp only [A02,A0j,A1k];exact sP)
theorem Aom {c:Chip} (hb:2≤c.blocks.length∧c.blocks.length≤1000):Does Tryz.prog 129 [ptr c.aC] (chH c) (fun v H=>(∃ t:Tab,v= .tuple #[ptr t.b,.int .i64 0]∧H=Dk c.aC t++(chH c++[])∧t.ts=(Dj c).2∧(Dj c).1=0)∨(v= .tuple #[.pointer none,.int .i64 (Dj c).1]∧H=chH c++[]∧(Dj c).1≠0)) :=
 (Zf hb).mono fun v H h=>by
  unfold Uu at h
  split at h
  ·rename_i h0;obtain ⟨t,h1,h2,h3⟩:=h;exact .inl ⟨t,h1,h2,h3,h0⟩
  ·rename_i h0;exact .inr ⟨h.1,h.2,h0⟩
def Zg (a:Nat) (c:Chip) (v:Value) (H:Hp):Prop :=
 (∃ t:Tab,v= .tuple #[ptr t.b,.int .i64 0]∧H=Dk a t++(chH (C1 c).2.2++[])∧t.ts=(C1 c).2.1∧(C1 c).1=0)∨(v= .tuple #[.pointer none,.int .i64 (C1 c).1]∧H=chH (C1 c).2.2++[]∧(C1 c).1≠0)
theorem Ajk {c:Chip} (hb:2≤c.blocks.length∧c.blocks.length≤1000):Does Tryz.prog 131 [ptr c.aC] (chH c) (Zg c.aC c):=by
 refine Ah (n:=124) Tryz.func131 Tryz.ntmps131 rfl (Ay9 rfl)<|Ad<|Aa fun ops=>oA rfl<|oA rfl<|Ac<|n_K<|Ad<|Ad<|Aa fun ops=>oM rfl ?_
 refine A6 rfl (Aer) sP rfl aQ ?_
 refine oA rfl<|Ac<|n_K<|Ad<|Aa fun ops=>oM rfl<|oR (Ae rfl rfl rfl)<|Ac<|n_K ?_
 refine Aj rfl (fun c14=> ?_) (fun c14=> ?_)
 ·skip
  have hm:¬ Aww c 0 0=0:=(by simpa using c14)
  have hres:C1 c=(Aww c 0 0,ts0,c):=(by unfold C1;rw [A25 hm])
  refine Ad<|Aa fun ops=>oM rfl<|oA rfl<|oA rfl<|Ac<|n_K<|An<|r_K ?_
  exact Av (Bz Tryz.results131 (Ag rfl) (Ag rfl)) (by right;rw [hres];exact ⟨rfl,rfl,hm⟩) sP
 ·skip
  have hm:Aww c 0 0=0:=(by simpa using c14)
  refine Ai<|n_K<|Ad<|Aa fun ops=>oM rfl<|oR (Bc rfl rfl) ?_
  refine De rfl rfl fun b18=> ?_
  refine oA rfl<|Ac<|n_K<|Ad<|Ad<|Aa fun ops=>oM rfl ?_
  refine Bd rfl (Aom hb) sP rfl fun v21 Y21 h21=> ?_
  rcases h21 with ⟨t',rfl,rfl,ht,ho⟩ | ⟨rfl,rfl,ho⟩
  all_goals
   refine Ay aQ ?_
   refine oM rfl<|oE rfl rfl<|oE rfl rfl<|oA rfl<|oA rfl<|Ac<|n_K<|Ad<|Aa fun ops=>oM rfl<|oR (Ae rfl rfl rfl)<|Ac<|n_K ?_
   refine Aj rfl (fun c25=> ?_) (fun c25=> ?_)
   ·skip
    try (exfalso;(simp at c25;exact ho c25);done)
    all_goals
     have hv:E9 c=(t'.version,t'.area,t'.next):=(by unfold E9;rw [A25 ho,← ht];rfl)
     rw [Ej]
     simp only [A02,A0j,A1k]
     refine He [] [0,1,2,3,4,5,7,8,9,11,12,13] [[(6,false),(10,false),(14,false)],[(15,false)],[(16,false)],[(17,true)],[(18,false)],[(19,false)],[(20,true)],[(21,false)],[(22,false)],[(23,true)]] (by kernel_rfl) rfl rfl fun ops w0 H0 y=> ?_
     unfold Tg
     refine xM rfl<|xM rfl<|xM rfl<|xM rfl<|xN rfl<|xF rfl<|xM rfl<|xN rfl<|xF rfl<|xM rfl<|xN rfl<|xF rfl<|Am<|A4 ?_
     refine xR (Al rfl mM rfl) ?_
     refine xR (Al rfl mM rfl) ?_
     refine xR (Al rfl mM rfl) ?_
     refine Am<|A4<|xN rfl<|Am<|A4<|xF rfl<|Am<|Bh<|Be ?_
     refine Af rfl rfl uD rfl rfl rfl ?_
     refine Ac ⟨rfl,⟨_,sP⟩,?_⟩
     refine Am<|A4<|xN rfl<|Am<|A4<|xF rfl<|Am<|Bh<|Be ?_
     refine Af rfl rfl uD rfl rfl rfl ?_
     refine Ac ⟨rfl,⟨_,sP⟩,?_⟩
     refine Am<|A4<|xN rfl<|Am<|A4<|xF rfl<|Am<|Bh<|Be ?_
     refine Af rfl rfl uD rfl rfl rfl ?_
     refine Ac ⟨rfl,⟨_,sP⟩,?_⟩
     refine Am<|Bm<|n_K<|Ad<|Aa fun ops=>oM rfl ?_
     refine A6 rfl (Fc) sP rfl aQ ?_
     refine oR (Ae rfl rfl rfl)<|oR (Ae rfl rfl rfl)<|oA rfl<|Ac<|n_K<|Ad<|Ad<|Aa fun ops=>oM rfl ?_
     refine A6 rfl (Fc) sP rfl aQ ?_
     refine oM rfl<|Ac<|n_K<|Ak ?_
     refine Im (Gu (α:=Int) (T:=tI)) ?_
     refine Im (Gu (α:=Int) (T:=tI)) ?_
     have hfr:=Ur c
     refine A8 [0,5,8,52] kQ (fun (st:Nat×Sl Int×Sl Int)=>[(53,.int .i64 st.1)]) (fun (st:Nat×Sl Int×Sl Int)=>(b18,true,C (Hv c.aC ⟨b18,st.2.1,st.2.2,(E9 c).1,(E9 c).2.1,(E9 c).2.2,0⟩) tTb)::(st.2.1.hp tI++(st.2.2.hp tI++(chH c++[])))) (fun (st:Nat×Sl Int×Sl Int)=>st.1≤c.blocks.length∧st.2.1.list=(Fp c (Dt c) st.1).1∧st.2.2.list=(Fp c (Dt c) st.1).2∧st.2.1.isOwn=true∧st.2.2.isOwn=true) (fun (st:Nat×Sl Int×Sl Int)=>c.blocks.length - st.1) ((0,.nil,.nil)) ⟨A2r _,rfl,rfl,rfl,rfl⟩ kP (by rw [hv];exact sP) ?_
     rintro ⟨i,u,l⟩ ⟨h0,h1,h2,h3,h4⟩
     simp only at h0 h1 h2 h3 h4
     have hlen:=Us c (Dt c) i
     rw [← h1,← h2] at hlen
     refine Ad<|Aa fun ops=>oR (Ae rfl rfl rfl)<|Ac<|n_K<|Ad ?_
     refine Aj rfl (fun c54=> ?_) (fun c54=> ?_)
     ·simp only [A0d,Ayz] at c54
      refine Ai<|n_K<|Ad<|Ak<|Ad<|Aa fun ops=>oM rfl<|oA rfl<|Ac<|n_K<|Ak<|Ad<|Aa fun ops=>oM rfl ?_
      refine oM rfl ?_
      refine A6 rfl (Xd (c:=c) rfl) sP rfl aQ ?_
      refine oA rfl<|Ac<|n_K ?_
      refine Aj rfl (fun c56=> ?_) (fun c56=> ?_)
      ·skip
       have hf:Fp c (Dt c) (i+1)=(u.list,l.list++[(i:Int)]):=(by show (if I4 c i=true then _ else _)=_;rw [A25 c56,h1,h2])
       refine Aa fun ops=>oM rfl<|oM rfl<|oN rfl<|oF rfl<|oF rfl ?_
       refine oR (Al rfl mM rfl) ?_
       refine oM rfl ?_
       refine A5 rfl rfl rfl rfl fun b67=> ?_
       refine Bp (s:=l) (new:=[(i:Int)]) (m:=1) rfl rfl pL h4 (Cv (r:=true) mM rfl) rfl rfl rfl rfl (by omega) rfl fun s68 hs1 hs2=> ?_
       refine oN rfl<|oF rfl<|oF rfl ?_
       refine Af rfl rfl uD rfl rfl rfl ?_
       refine Ac<|Az<|Az<|n_K<|Aa fun ops=> ?_
       refine oR (Ao rfl rfl (by omega)) ?_
       refine oM rfl<|Ac<|n_K ?_
       first | refine ⟨(i+1,u,l),⟨by simp only;omega,(A20 Prod.fst hf).symm,(A20 Prod.snd hf).symm,h3,h4⟩,by simp only;omega,lZ⟩ | refine ⟨(i+1,u,s68),⟨by simp only;omega,(A20 Prod.fst hf).symm,hs1.trans (A20 Prod.snd hf).symm,h3,hs2⟩,by simp only;omega,lZ⟩ | refine ⟨(i+1,s93,l),⟨by simp only;omega,hs1.trans (A20 Prod.fst hf).symm,(A20 Prod.snd hf).symm,hs2,h4⟩,by simp only;omega,lZ⟩
      ·skip
       have hf0:¬ I4 c i=true:=(by rw [c56];exact Az2)
       refine Ad ?_
       refine Bf [(2,75)] rfl fun ops y=> ?_
       refine oM rfl<|oR (Ae rfl rfl rfl)<|oM rfl ?_
       refine' Df (j:=2) (k:=8) y rfl rfl rfl rfl rfl rfl rfl (fun hg75=> ?_) ?_
       rotate_left
       ·try (simp at hg75;show _)
        refine o_g y rfl rfl ?_
        refine oM rfl ?_
        refine o_g y rfl rfl ?_
        refine oN rfl ?_
        refine o_g y rfl rfl ?_
        refine oF rfl ?_
        refine o_g y rfl rfl ?_
        refine oF rfl ?_
        refine o_g y rfl rfl ?_
        refine oR (Al rfl mM rfl) ?_
        refine o_g y rfl rfl ?_
        refine oR (A7 rfl) ?_
        refine o_g y rfl rfl ?_
        refine oM rfl ?_
        refine o_g y rfl rfl ?_
        refine oR (Ae rfl rfl rfl) ?_
        exact Ac ⟨rfl,rfl,⟨_,sP⟩⟩
       refine oA rfl<|Ac<|n_K ?_
       refine Aj rfl (fun c72=> ?_) (fun c72=> ?_)
       ·skip
        have hf:Fp c (Dt c) (i+1)=(u.list++[(i:Int)],l.list):=(by show (if I4 c i=true then _ else _)=_;rw [A26 hf0,← h1,← h2];exact A25 c72)
        refine Aa fun ops=>oM rfl<|oM rfl<|oN rfl<|oF rfl<|oF rfl ?_
        refine oR (Al rfl mM rfl) ?_
        refine oM rfl ?_
        refine A5 rfl rfl rfl rfl fun b92=> ?_
        refine Bp (s:=u) (new:=[(i:Int)]) (m:=1) rfl rfl pL h3 (Cv (r:=true) mM rfl) rfl rfl rfl rfl (by omega) rfl fun s93 hs1 hs2=> ?_
        refine oN rfl<|oF rfl<|oF rfl ?_
        refine Af rfl rfl uD rfl rfl rfl ?_
        refine Ac<|Az<|Az<|n_K<|Aa fun ops=> ?_
        refine oR (Ao rfl rfl (by omega)) ?_
        refine oM rfl<|Ac<|n_K ?_
        first | refine ⟨(i+1,u,l),⟨by simp only;omega,(A20 Prod.fst hf).symm,(A20 Prod.snd hf).symm,h3,h4⟩,by simp only;omega,lZ⟩ | refine ⟨(i+1,u,s68),⟨by simp only;omega,(A20 Prod.fst hf).symm,hs1.trans (A20 Prod.snd hf).symm,h3,hs2⟩,by simp only;omega,lZ⟩ | refine ⟨(i+1,s93,l),⟨by simp only;omega,hs1.trans (A20 Prod.fst hf).symm,(A20 Prod.snd hf).symm,hs2,h4⟩,by simp only;omega,lZ⟩
       ·skip
        have hf:Fp c (Dt c) (i+1)=(u.list,l.list):=(by show (if I4 c i=true then _ else _)=_;rw [A26 hf0,← h1,← h2];refine (A26 (by intro h;have h':=h.symm.trans c72;cases h')).trans ?_;rw [h1,h2])
        refine Ai<|Az<|Az<|n_K<|Aa fun ops=> ?_
        refine oR (Ao rfl rfl (by omega)) ?_
        refine oM rfl<|Ac<|n_K ?_
        first | refine ⟨(i+1,u,l),⟨by simp only;omega,(A20 Prod.fst hf).symm,(A20 Prod.snd hf).symm,h3,h4⟩,by simp only;omega,lZ⟩ | refine ⟨(i+1,u,s68),⟨by simp only;omega,(A20 Prod.fst hf).symm,hs1.trans (A20 Prod.snd hf).symm,h3,hs2⟩,by simp only;omega,lZ⟩ | refine ⟨(i+1,s93,l),⟨by simp only;omega,hs1.trans (A20 Prod.fst hf).symm,(A20 Prod.snd hf).symm,hs2,h4⟩,by simp only;omega,lZ⟩
     ·simp only [A0d,Ayz] at c54
      have hi:i=c.blocks.length:=(by omega)
      subst hi
      have hu:u.list=(D0 c).uses:=h1
      have hl:l.list=(D0 c).lost:=h2
      refine Bb<|x_K<|x_K<|Bj<|n_K<|Ad<|Ad ?_
      refine Bf [(2,100),(6,104)] rfl fun ops y=> ?_
      refine oM rfl ?_
      refine A6 rfl (Xd (c:=c) (i:=0) rfl) sP rfl aQ ?_
      refine oM rfl ?_
      refine' Es (j:=2) (k:=2) y rfl rfl rfl rfl rfl rfl rfl (fun hg100=> ?_) ?_
      rotate_left
      ·try (simp at hg100;show _)
       refine o_g y rfl rfl ?_
       refine oM rfl ?_
       refine o_g y rfl rfl ?_
       refine A6 rfl (Xd (c:=c) (i:=1) rfl) sP rfl aQ ?_
       exact Ac ⟨rfl,rfl,⟨_,sP⟩⟩
      refine oM rfl ?_
      refine' Es (j:=6) (k:=8) y rfl rfl rfl rfl rfl rfl rfl (fun hg104=> ?_) ?_
      rotate_left
      ·try (simp at hg104;show _)
       refine o_g y rfl rfl ?_
       refine oM rfl ?_
       refine o_g y rfl rfl ?_
       refine oN rfl ?_
       refine o_g y rfl rfl ?_
       refine oF rfl ?_
       refine o_g y rfl rfl ?_
       refine oF rfl ?_
       refine o_g y rfl rfl ?_
       refine oR (Al rfl mM rfl) ?_
       refine o_g y rfl rfl ?_
       refine oR (A7 rfl) ?_
       refine o_g y rfl rfl ?_
       refine oM rfl ?_
       refine o_g y rfl rfl ?_
       refine oR (Ae rfl rfl rfl) ?_
       exact Ac ⟨rfl,rfl,⟨_,sP⟩⟩
      refine Ac<|n_K ?_
      refine Aj rfl (fun c113=> ?_) (fun c113=> ?_)
      ·skip
       have hres:C1 c=(34,ts0,c):=(by unfold C1;rw [A26 (by rw [hm];simp),A25 (by unfold Hu;rw [← hu];exact c113)])
       refine Ad<|Aa fun ops=>oA rfl<|oA rfl<|Ac<|n_K<|An<|r_K ?_
       exact Av (Bz Tryz.results131 (Ag rfl) (Ag rfl)) (by right;rw [hres];exact ⟨rfl,rfl,by simp⟩) sP
      ·skip
       have hnb:¬ Hu c=true:=(by unfold Hu;rw [← hu];intro h;have h':=h.symm.trans c113;cases h')
       have hT:Tab.ts ⟨b18,u,l,(E9 c).1,(E9 c).2.1,(E9 c).2.2,0⟩=D0 c:=(by show TS.mk _ _ _ _ _ _=_;rw [hu,hl];rfl)
       refine Ai<|n_K<|Ad<|Ad<|Aa fun ops=>oM rfl<|oM rfl<|oN rfl<|oF rfl ?_
       refine oR (Au rfl mM rfl) ?_
       refine Bd rfl (Ph (c:=c) (a:=c.aC) (t:=⟨b18,u,l,(E9 c).1,(E9 c).2.1,(E9 c).2.2,0⟩) (u:=u) (l:=l) rfl (by omega) (by omega) hfr.2.1 hfr.1) sP rfl fun v119 Y119 h119=> ?_
       rcases h119 with ⟨t2,e1,e2,e3,rfl,rfl,e4,e5⟩ | ⟨e,rfl,e1,rfl,e4,e5⟩
       all_goals
        refine Ay aQ ?_
        refine oA rfl<|Ac<|n_K<|Ad<|Aa fun ops=>oM rfl<|oR (Ae rfl rfl rfl)<|Ac<|n_K ?_
        refine Aj rfl (fun c121=> ?_) (fun c121=> ?_)
        ·skip
         try (exfalso;(simp at c121);done)
         all_goals
          refine Ad<|Aa fun ops=>oM rfl<|oA rfl<|oA rfl<|Ac<|n_K<|An<|r_K ?_
          exact Av (Bz Tryz.results131 (Ag rfl) (Ag rfl)) (by rw [hT,hu,hl] at e4;have hres:C1 c=(e,ts0,(B6 (D0 c) (D0 c).uses (D0 c).lost c).2.2):=(by unfold C1;rw [A26 (by rw [hm];simp),A26 hnb,A25 (by rw [e4];exact e1),e4]);right;rw [hres];exact ⟨rfl,rfl,e1⟩) (by rw [hT,hu,hl];exact sP)
        ·skip
         try (exfalso;(simp at c121;exact e1 c121);done)
         all_goals
          refine Ai<|n_K<|Ad<|Aa fun ops=>oM rfl<|oA rfl<|oA rfl<|Ac<|n_K<|An ?_
          exact Av (Bz Tryz.results131 (Ag rfl) (Ag rfl)) (by rw [hT,hu,hl] at e4 e5;have hres:C1 c=B6 (D0 c) (D0 c).uses (D0 c).lost c:=(by unfold C1;rw [A26 (by rw [hm];simp),A26 hnb,A26 (by rw [e4];simp)]);left;rw [hres];exact ⟨t2,by rw [e1],rfl,e5,e4⟩) (by rw [hT,hu,hl,Ej,e2,e3];simp only [A02,A0j,A1k];exact sP)
   ·skip
    try (exfalso;(simp at c25);done)
    all_goals
     have hv:E9 c=(0,0,0):=(by unfold E9;rw [A26 ho])
     refine Ai<|n_K<|Ad<|Aa fun ops=>oM rfl ?_
     refine A6 rfl (Fc) sP rfl aQ ?_
     refine oR (Ae rfl rfl rfl)<|oR (Ae rfl rfl rfl)<|oA rfl<|Ac<|n_K<|Ad<|Ad<|Aa fun ops=>oM rfl ?_
     refine A6 rfl (Fc) sP rfl aQ ?_
     refine oM rfl<|Ac<|n_K<|Ak ?_
     refine Im (Gu (α:=Int) (T:=tI)) ?_
     refine Im (Gu (α:=Int) (T:=tI)) ?_
     have hfr:=Ur c
     refine A8 [0,5,8,52] kQ (fun (st:Nat×Sl Int×Sl Int)=>[(53,.int .i64 st.1)]) (fun (st:Nat×Sl Int×Sl Int)=>(b18,true,C (Hv c.aC ⟨b18,st.2.1,st.2.2,(E9 c).1,(E9 c).2.1,(E9 c).2.2,0⟩) tTb)::(st.2.1.hp tI++(st.2.2.hp tI++(chH c++[])))) (fun (st:Nat×Sl Int×Sl Int)=>st.1≤c.blocks.length∧st.2.1.list=(Fp c (Dt c) st.1).1∧st.2.2.list=(Fp c (Dt c) st.1).2∧st.2.1.isOwn=true∧st.2.2.isOwn=true) (fun (st:Nat×Sl Int×Sl Int)=>c.blocks.length - st.1) ((0,.nil,.nil)) ⟨A2r _,rfl,rfl,rfl,rfl⟩ kP (by rw [hv];exact sP) ?_
     rintro ⟨i,u,l⟩ ⟨h0,h1,h2,h3,h4⟩
     simp only at h0 h1 h2 h3 h4
     have hlen:=Us c (Dt c) i
     rw [← h1,← h2] at hlen
     refine Ad<|Aa fun ops=>oR (Ae rfl rfl rfl)<|Ac<|n_K<|Ad ?_
     refine Aj rfl (fun c54=> ?_) (fun c54=> ?_)
     ·simp only [A0d,Ayz] at c54
      refine Ai<|n_K<|Ad<|Ak<|Ad<|Aa fun ops=>oM rfl<|oA rfl<|Ac<|n_K<|Ak<|Ad<|Aa fun ops=>oM rfl ?_
      refine oM rfl ?_
      refine A6 rfl (Xd (c:=c) rfl) sP rfl aQ ?_
      refine oA rfl<|Ac<|n_K ?_
      refine Aj rfl (fun c56=> ?_) (fun c56=> ?_)
      ·skip
       have hf:Fp c (Dt c) (i+1)=(u.list,l.list++[(i:Int)]):=(by show (if I4 c i=true then _ else _)=_;rw [A25 c56,h1,h2])
       refine Aa fun ops=>oM rfl<|oM rfl<|oN rfl<|oF rfl<|oF rfl ?_
       refine oR (Al rfl mM rfl) ?_
       refine oM rfl ?_
       refine A5 rfl rfl rfl rfl fun b67=> ?_
       refine Bp (s:=l) (new:=[(i:Int)]) (m:=1) rfl rfl pL h4 (Cv (r:=true) mM rfl) rfl rfl rfl rfl (by omega) rfl fun s68 hs1 hs2=> ?_
       refine oN rfl<|oF rfl<|oF rfl ?_
       refine Af rfl rfl uD rfl rfl rfl ?_
       refine Ac<|Az<|Az<|n_K<|Aa fun ops=> ?_
       refine oR (Ao rfl rfl (by omega)) ?_
       refine oM rfl<|Ac<|n_K ?_
       first | refine ⟨(i+1,u,l),⟨by simp only;omega,(A20 Prod.fst hf).symm,(A20 Prod.snd hf).symm,h3,h4⟩,by simp only;omega,lZ⟩ | refine ⟨(i+1,u,s68),⟨by simp only;omega,(A20 Prod.fst hf).symm,hs1.trans (A20 Prod.snd hf).symm,h3,hs2⟩,by simp only;omega,lZ⟩ | refine ⟨(i+1,s93,l),⟨by simp only;omega,hs1.trans (A20 Prod.fst hf).symm,(A20 Prod.snd hf).symm,hs2,h4⟩,by simp only;omega,lZ⟩
      ·skip
       have hf0:¬ I4 c i=true:=(by rw [c56];exact Az2)
       refine Ad ?_
       refine Bf [(2,75)] rfl fun ops y=> ?_
       refine oM rfl<|oR (Ae rfl rfl rfl)<|oM rfl ?_
       refine' Df (j:=2) (k:=8) y rfl rfl rfl rfl rfl rfl rfl (fun hg75=> ?_) ?_
       rotate_left
       ·try (simp at hg75;show _)
        refine o_g y rfl rfl ?_
        refine oM rfl ?_
        refine o_g y rfl rfl ?_
        refine oN rfl ?_
        refine o_g y rfl rfl ?_
        refine oF rfl ?_
        refine o_g y rfl rfl ?_
        refine oF rfl ?_
        refine o_g y rfl rfl ?_
        refine oR (Al rfl mM rfl) ?_
        refine o_g y rfl rfl ?_
        refine oR (A7 rfl) ?_
        refine o_g y rfl rfl ?_
        refine oM rfl ?_
        refine o_g y rfl rfl ?_
        refine oR (Ae rfl rfl rfl) ?_
        exact Ac ⟨rfl,rfl,⟨_,sP⟩⟩
       refine oA rfl<|Ac<|n_K ?_
       refine Aj rfl (fun c72=> ?_) (fun c72=> ?_)
       ·skip
        have hf:Fp c (Dt c) (i+1)=(u.list++[(i:Int)],l.list):=(by show (if I4 c i=true then _ else _)=_;rw [A26 hf0,← h1,← h2];exact A25 c72)
        refine Aa fun ops=>oM rfl<|oM rfl<|oN rfl<|oF rfl<|oF rfl ?_
        refine oR (Al rfl mM rfl) ?_
        refine oM rfl ?_
        refine A5 rfl rfl rfl rfl fun b92=> ?_
        refine Bp (s:=u) (new:=[(i:Int)]) (m:=1) rfl rfl pL h3 (Cv (r:=true) mM rfl) rfl rfl rfl rfl (by omega) rfl fun s93 hs1 hs2=> ?_
        refine oN rfl<|oF rfl<|oF rfl ?_
        refine Af rfl rfl uD rfl rfl rfl ?_
        refine Ac<|Az<|Az<|n_K<|Aa fun ops=> ?_
        refine oR (Ao rfl rfl (by omega)) ?_
        refine oM rfl<|Ac<|n_K ?_
        first | refine ⟨(i+1,u,l),⟨by simp only;omega,(A20 Prod.fst hf).symm,(A20 Prod.snd hf).symm,h3,h4⟩,by simp only;omega,lZ⟩ | refine ⟨(i+1,u,s68),⟨by simp only;omega,(A20 Prod.fst hf).symm,hs1.trans (A20 Prod.snd hf).symm,h3,hs2⟩,by simp only;omega,lZ⟩ | refine ⟨(i+1,s93,l),⟨by simp only;omega,hs1.trans (A20 Prod.fst hf).symm,(A20 Prod.snd hf).symm,hs2,h4⟩,by simp only;omega,lZ⟩
       ·skip
        have hf:Fp c (Dt c) (i+1)=(u.list,l.list):=(by show (if I4 c i=true then _ else _)=_;rw [A26 hf0,← h1,← h2];refine (A26 (by intro h;have h':=h.symm.trans c72;cases h')).trans ?_;rw [h1,h2])
        refine Ai<|Az<|Az<|n_K<|Aa fun ops=> ?_
        refine oR (Ao rfl rfl (by omega)) ?_
        refine oM rfl<|Ac<|n_K ?_
        first | refine ⟨(i+1,u,l),⟨by simp only;omega,(A20 Prod.fst hf).symm,(A20 Prod.snd hf).symm,h3,h4⟩,by simp only;omega,lZ⟩ | refine ⟨(i+1,u,s68),⟨by simp only;omega,(A20 Prod.fst hf).symm,hs1.trans (A20 Prod.snd hf).symm,h3,hs2⟩,by simp only;omega,lZ⟩ | refine ⟨(i+1,s93,l),⟨by simp only;omega,hs1.trans (A20 Prod.fst hf).symm,(A20 Prod.snd hf).symm,hs2,h4⟩,by simp only;omega,lZ⟩
     ·simp only [A0d,Ayz] at c54
      have hi:i=c.blocks.length:=(by omega)
      subst hi
      have hu:u.list=(D0 c).uses:=h1
      have hl:l.list=(D0 c).lost:=h2
      refine Bb<|x_K<|x_K<|Bj<|n_K<|Ad<|Ad ?_
      refine Bf [(2,100),(6,104)] rfl fun ops y=> ?_
      refine oM rfl ?_
      refine A6 rfl (Xd (c:=c) (i:=0) rfl) sP rfl aQ ?_
      refine oM rfl ?_
      refine' Es (j:=2) (k:=2) y rfl rfl rfl rfl rfl rfl rfl (fun hg100=> ?_) ?_
      rotate_left
      ·try (simp at hg100;show _)
       refine o_g y rfl rfl ?_
       refine oM rfl ?_
       refine o_g y rfl rfl ?_
       refine A6 rfl (Xd (c:=c) (i:=1) rfl) sP rfl aQ ?_
       exact Ac ⟨rfl,rfl,⟨_,sP⟩⟩
      refine oM rfl ?_
      refine' Es (j:=6) (k:=8) y rfl rfl rfl rfl rfl rfl rfl (fun hg104=> ?_) ?_
      rotate_left
      ·try (simp at hg104;show _)
       refine o_g y rfl rfl ?_
       refine oM rfl ?_
       refine o_g y rfl rfl ?_
       refine oN rfl ?_
       refine o_g y rfl rfl ?_
       refine oF rfl ?_
       refine o_g y rfl rfl ?_
       refine oF rfl ?_
       refine o_g y rfl rfl ?_
       refine oR (Al rfl mM rfl) ?_
       refine o_g y rfl rfl ?_
       refine oR (A7 rfl) ?_
       refine o_g y rfl rfl ?_
       refine oM rfl ?_
       refine o_g y rfl rfl ?_
       refine oR (Ae rfl rfl rfl) ?_
       exact Ac ⟨rfl,rfl,⟨_,sP⟩⟩
      refine Ac<|n_K ?_
      refine Aj rfl (fun c113=> ?_) (fun c113=> ?_)
      ·skip
       have hres:C1 c=(34,ts0,c):=(by unfold C1;rw [A26 (by rw [hm];simp),A25 (by unfold Hu;rw [← hu];exact c113)])
       refine Ad<|Aa fun ops=>oA rfl<|oA rfl<|Ac<|n_K<|An<|r_K ?_
       exact Av (Bz Tryz.results131 (Ag rfl) (Ag rfl)) (by right;rw [hres];exact ⟨rfl,rfl,by simp⟩) sP
      ·skip
       have hnb:¬ Hu c=true:=(by unfold Hu;rw [← hu];intro h;have h':=h.symm.trans c113;cases h')
       have hT:Tab.ts ⟨b18,u,l,(E9 c).1,(E9 c).2.1,(E9 c).2.2,0⟩=D0 c:=(by show TS.mk _ _ _ _ _ _=_;rw [hu,hl];rfl)
       refine Ai<|n_K<|Ad<|Ad<|Aa fun ops=>oM rfl<|oM rfl<|oN rfl<|oF rfl ?_
       refine oR (Au rfl mM rfl) ?_
       refine Bd rfl (Ph (c:=c) (a:=c.aC) (t:=⟨b18,u,l,(E9 c).1,(E9 c).2.1,(E9 c).2.2,0⟩) (u:=u) (l:=l) rfl (by omega) (by omega) hfr.2.1 hfr.1) sP rfl fun v119 Y119 h119=> ?_
       rcases h119 with ⟨t2,e1,e2,e3,rfl,rfl,e4,e5⟩ | ⟨e,rfl,e1,rfl,e4,e5⟩
       all_goals
        refine Ay aQ ?_
        refine oA rfl<|Ac<|n_K<|Ad<|Aa fun ops=>oM rfl<|oR (Ae rfl rfl rfl)<|Ac<|n_K ?_
        refine Aj rfl (fun c121=> ?_) (fun c121=> ?_)
        ·skip
         try (exfalso;(simp at c121);done)
         all_goals
          refine Ad<|Aa fun ops=>oM rfl<|oA rfl<|oA rfl<|Ac<|n_K<|An<|r_K ?_
          exact Av (Bz Tryz.results131 (Ag rfl) (Ag rfl)) (by rw [hT,hu,hl] at e4;have hres:C1 c=(e,ts0,(B6 (D0 c) (D0 c).uses (D0 c).lost c).2.2):=(by unfold C1;rw [A26 (by rw [hm];simp),A26 hnb,A25 (by rw [e4];exact e1),e4]);right;rw [hres];exact ⟨rfl,rfl,e1⟩) (by rw [hT,hu,hl];exact sP)
        ·skip
         try (exfalso;(simp at c121;exact e1 c121);done)
         all_goals
          refine Ai<|n_K<|Ad<|Aa fun ops=>oM rfl<|oA rfl<|oA rfl<|Ac<|n_K<|An ?_
          exact Av (Bz Tryz.results131 (Ag rfl) (Ag rfl)) (by rw [hT,hu,hl] at e4 e5;have hres:C1 c=B6 (D0 c) (D0 c).uses (D0 c).lost c:=(by unfold C1;rw [A26 (by rw [hm];simp),A26 hnb,A26 (by rw [e4];simp)]);left;rw [hres];exact ⟨t2,by rw [e1],rfl,e5,e4⟩) (by rw [hT,hu,hl,Ej,e2,e3];simp only [A02,A0j,A1k];exact sP)
end
section
open Go.K
def Afs (t:TS) (c:Chip) (b:Int) (r:Int×TS×Chip):Prop :=
 (D5 t c.blocks.length b=true→∃ l,l.Perm (t.lost++[b])∧r=B6 t t.uses l c)∧(D5 t c.blocks.length b=false→r=(1,t,c))
def As8 (t:TS) (c:Chip) (i b:Int) (r:Int×TS×Chip):Prop :=
 (((atT t i).2 && D5 t c.blocks.length b)=true→∃ l,l.Perm (t.lost++[at0 t.uses i])∧r=B6 t (t.uses.set i.toNat b) l c)∧(((atT t i).2 && D5 t c.blocks.length b)=false→r=(1,t,c))
def Aqu (a:Nat) (t:Tab) (D:Int×TS×Chip→Prop) (v:Value) (H:Hp):Prop :=
 ∃ (t':Tab) (e:Int) (c':Chip),t'.b=t.b∧v= .int .i64 e∧H=Dk a t'++(chH c'++[])∧c'.aC=a∧D (e,t'.ts,c')
theorem Aa2 {a:Nat} {t:Tab} {c:Chip} {D:Int×TS×Chip→Prop} (ha:c.aC=a) (h:D (1,t.ts,c)):Aqu a t D (.int .i64 1) (Dk a t++(chH c++[])):=⟨t,1,c,rfl,rfl,rfl,ha,h⟩
theorem Aa3 {a:Nat} {t:Tab} {c:Chip} {u l:List Int} {D:Int×TS×Chip→Prop} {v:Value} {H:Hp} (ha:c.aC=a) (h:Agr a t c u l v H) (hD:∀ l',l'.Perm l→D (B6 t.ts u l' c)):Aqu a t D v H:=by
 obtain ⟨t',l',h1,h2,rfl,rfl,h3⟩:=h
 refine ⟨t',_,_,h1,rfl,rfl,(Aa1 _ _ _ _).trans ha,?_⟩
 rw [h3]
 exact hD l' h2
section
variable {c:Chip} {a:Nat} {t:Tab}
theorem Aa4 (ha:c.aC=a) {b:Int} (hu:t.u.list.length≤1000) (hl:t.l.list.length≤11) (hn:0≤t.next) (har:0≤t.area∧t.area≤1):Does Tryz.prog 232 [ptr t.b,.int .i64 b] (Dk a t++(chH c++[])) (Aqu a t (Afs t.ts c b)) :=
 (Aol ha hu hl hn har).mono fun v H h=>by
  split at h
  ·rename_i hs
   exact Aa3 ha h (fun l' hp=>⟨fun _=>⟨l',hp,rfl⟩,fun h2=>by rw [hs] at h2;cases h2⟩)
  ·rename_i hs
   obtain ⟨rfl,rfl⟩:=h
   exact Aa2 ha ⟨fun h2=>absurd h2 hs,fun _=>rfl⟩
theorem Aa5 (ha:c.aC=a) {i b:Int} (hu:t.u.list.length≤1000) (hl:t.l.list.length≤11) (hn:0≤t.next) (har:0≤t.area∧t.area≤1):Does Tryz.prog 231 [ptr t.b,.int .i64 i,.int .i64 b] (Dk a t++(chH c++[])) (Aqu a t (As8 t.ts c i b)) :=
 (Asj ha hu hl hn har).mono fun v H h=>by
  split at h
  ·rename_i hs
   exact Aa3 ha h (fun l' hp=>⟨fun _=>⟨l',hp,rfl⟩,fun h2=>by rw [hs] at h2;cases h2⟩)
  ·rename_i hs
   obtain ⟨rfl,rfl⟩:=h
   exact Aa2 ha ⟨fun h2=>absurd h2 hs,fun _=>rfl⟩
end
end
section
open Go.K
instance:Cel Bool:=⟨1,fun b=>[.bool b],fun _=>rfl,fun _=>rfl⟩
structure RTab where
 b:Nat
 u:Sl Int
 l:Sl Bool
def atB (l:List Bool) (i:Int):Bool:=l.getD i.toNat false
section
variable {r:RTab}
end
end
section
open Go.K
def Gy (n:Nat) (l:List Int):List Bool:=(List.range n).map fun i=>E3 l (i:Nat)
theorem Pn (n:Nat) (l:List Int):(Gy n l).length=n:=by simp [Gy]
def Ns (l:List Bool) (size:Int):Nat→List Int
 | 0=>[]
 | i+1=>if atB l (i:Nat)=true then Ns l size i else if (decide (2≤(i:Int)) && decide (((Ns l size i).length:Int)<size))=true then Ns l size i++[(i:Int)] else Ns l size i
def Vc (l:List Bool):Bool:=(atB l 0 || atB l 1) || decide (((Ns l ((l.length:Int) - 6) l.length).length:Int)<(l.length:Int) - 6)
section
variable {r:RTab}
end
end
section
open Go.K
theorem Aqr {pp:Nat} {n:Int} {s:Sl Int} {T:TypeId}:Does Tryz.prog 47 [ptr pp,.int .i64 n,s.val] ((pp,true,C [.bool false,.int .i64 (-1),.int .i64 0] tPw)::(s.hp T++[]))
  (fun v H=>(∃ aC aB,v= .tuple #[ptr aC,.int .i64 0]∧H=chH (Du (-1) 0 pp aC aB n.toNat s.list)++(s.hp T++[])∧Ov n s.list=true)∨(v= .tuple #[.pointer none,.int .i64 1]∧H=(s.hp T++[])∧Ov n s.list=false)) :=
 (Aui (off:=false) (after:= -1) (keep:=0)).mono fun v H h=>by
  unfold Amg at h
  split at h
  ·rename_i h0;obtain ⟨aC,aB,h1,h2⟩:=h;exact .inl ⟨aC,aB,h1,h2,h0⟩
  ·rename_i h0;exact .inr ⟨h.1,h.2,by simpa using h0⟩
end
section
open Go.K
section
variable {r:RTab} {t:Tab} {c:Chip} {a:Nat}
structure RelT (t:TS) (u:List Int) (l:List Bool) (n:Nat):Prop where
 uu:u=t.uses
 ll:l.length=n
 lo:∀ b:Int,0≤b→b<n→atB l b=E3 t.lost b
 ln:t.lost.Nodup
 lr:∀ x∈t.lost,0≤x∧x<n
theorem Uz:∀ (l:List Bool) (k:Nat) (s:List Int),s.Nodup→(∀ x∈s,(k:Int)≤x∧x<k+l.length)→(∀ i (h:i<l.length),l[i]=E3 s ((k+i:Nat):Int))→l.countP id=s.length
 | [],k,s,hn,hr,_=>by
  cases s with
  | nil=>rfl
  | cons x s=>have:=hr x (.head _);simp at this;omega
 | b::l,k,s,hn,hr,hb=>by
  have h0:=hb 0 (by simp)
  simp only [List.getElem_cons_zero,A2e] at h0
  have ih:=Uz l (k+1) (s.erase (k:Int)) (hn.erase _) (fun x hx=>by
   have h1:=(hn.mem_erase_iff).1 hx
   have h2:=hr x h1.2
   have h3:=h1.1
   simp only [A0q] at h2
   push_cast
   omega) (fun i hi=>by
   have h1:=hb (i+1) (by simp;omega)
   simp only [List.getElem_cons_succ] at h1
   rw [h1,show ((k+1+i:Nat):Int)=((k+(i+1):Nat):Int) by omega]
   cases hh:E3 s ((k+(i+1):Nat):Int) with
   | true =>
    symm
    apply has_mem.2
    exact (hn.mem_erase_iff).2 ⟨by omega,has_mem.1 hh⟩
   | false =>
    symm
    cases h2:E3 (s.erase (k:Int)) ((k+(i+1):Nat):Int) with
    | false=>rfl
    | true =>
     have:=has_mem.2 ((hn.mem_erase_iff).1 (has_mem.1 h2)).2
     rw [hh] at this
     cases this)
  rw [List.countP_cons,ih]
  cases b with
  | true =>
   have hm:=has_mem.1 h0.symm
   have:=Ayv hm
   have:=Ay3 hm
   simp
   omega
  | false =>
   have hm:(k:Int)∉s:=fun h=>by rw [has_mem.2 h] at h0;cases h0
   rw [List.erase_of_not_mem hm]
   simp
theorem RelT.count {t:TS} {u:List Int} {l:List Bool} {n:Nat} (h:RelT t u l n):l.countP id=t.lost.length :=
 Uz l 0 t.lost h.ln (fun x hx=>by have:=h.lr x hx;rw [h.ll];omega) (fun i hi=>by
  have:=h.lo (i:Nat) (by omega) (by rw [h.ll] at hi;omega)
  rw [A2g,← this]
  simp [atB,Ayg,hi])
section
variable {u u1 u2:List Int} {l l1 l2:List Bool} {o:OpV} {b:Int}
end
end
end
section
open Go.K
structure WF (n:Nat) (u l:List Int):Prop where
 n1:16≤n
 n2:n≤40
 un:u.Nodup
 len:u.length+6=n
 us:∀ x∈u,2≤x∧x<n∧x∉l
 ln:l.Nodup
 ls:∀ x∈l,2≤x∧x<n
theorem WF.lost4 {n:Nat} {u l:List Int} (h:WF n u l):l.length≤4:=by
 have h1:=h.n1
 have:=Fs (l:=u++l) (m:=(List.range (n - 2)).map fun i=>((i:Nat):Int)+2) (by
  rw [A0g]
  exact ⟨h.un,h.ln,fun a ha b hb e=>by subst e;exact (h.us a ha).2.2 hb⟩) (fun x hx=>by
   have hr:2≤x∧x<n:=by
    rcases A1d.1 hx with h1 | h1
    ·have:=h.us x h1;exact ⟨this.1,this.2.1⟩
    ·exact h.ls x h1
   exact A2b.2 ⟨(x - 2).toNat,A1w.2 (by omega),by omega⟩)
 have h2:=h.len
 simp at this
 omega
theorem WF.okP {n:Nat} {u l:List Int} (h:WF n u l):OkP n u l :=
 ⟨h.n1,h.n2,h.len,by have:=h.lost4;omega,fun x hx=>by have:=h.us x hx;have:=h.n2;omega,fun x hx=>by have:=h.ls x hx;have:=h.n2;omega⟩
theorem Zn {t:TS} {n:Nat} {b:Int} (h:D5 t n b=true):2≤b∧b<n∧b∉t.uses∧b∉t.lost:=by
 unfold D5 at h
 simp only [A0r,A0e,A0d] at h
 obtain ⟨⟨⟨h1,h2⟩,h3⟩,h4⟩:=h
 exact ⟨h1,h2,fun e=>(by rw [has_mem.2 e] at h3;cases h3),fun e=>(by rw [has_mem.2 e] at h4;cases h4)⟩
theorem WF.lose {n:Nat} {t:TS} {b:Int} {l:List Int} (h:WF n t.uses t.lost) (hb:D5 t n b=true) (hp:l.Perm (t.lost++[b])):WF n t.uses l:=by
 obtain ⟨b1,b2,b3,b4⟩:=Zn hb
 have hm:∀ x,x∈l↔x∈t.lost∨x=b:=fun x=>by rw [hp.mem_iff];simp
 refine ⟨h.n1,h.n2,h.un,h.len,fun x hx=> ?_,hp.nodup_iff.2 (Km h.ln b4),fun x hx=> ?_⟩
 ·obtain ⟨h1,h2,h4⟩:=h.us x hx
  exact ⟨h1,h2,fun e=>by rcases (hm x).1 e with e | e;exact h4 e;subst e;exact b3 hx⟩
 ·rcases (hm x).1 hx with e | e
  ·exact h.ls x e
  ·subst e;exact ⟨b1,b2⟩
theorem Ks {l:List Int} {i:Int} (hi:0≤i∧i<l.length):at0 l i∈l:=Azn (Hz hi.1 hi.2)
theorem WF.swap {n:Nat} {t:TS} {b i:Int} {l:List Int} (h:WF n t.uses t.lost) (hi:0≤i∧i<t.uses.length) (hb:D5 t n b=true) (hp:l.Perm (t.lost++[at0 t.uses i])):WF n (t.uses.set i.toNat b) l:=by
 obtain ⟨b1,b2,b3,b4⟩:=Zn hb
 have hlt:i.toNat<t.uses.length:=by omega
 have hat:at0 t.uses i=t.uses[i.toNat]:=by simp [at0,Ayg,hlt]
 rw [hat] at hp
 have hu:=h.us _ (A0s hlt)
 have hm:∀ x,x∈l↔x∈t.lost∨x=t.uses[i.toNat]:=fun x=>by rw [hp.mem_iff];simp
 refine ⟨h.n1,h.n2,Aia h.un b3,by rw [A1f];exact h.len,fun x hx=> ?_,hp.nodup_iff.2 (Km h.ln hu.2.2),fun x hx=> ?_⟩
 ·rcases Aqt h.un hlt hx with e | ⟨e,hne⟩
  ·subst e
   exact ⟨b1,b2,fun e=>by rcases (hm _).1 e with e | e;exact b4 e;exact b3 (by rw [e];exact A0s hlt)⟩
  ·obtain ⟨h1,h2,h4⟩:=h.us x e
   exact ⟨h1,h2,fun e=>by rcases (hm x).1 e with e | e;exact h4 e;exact hne e⟩
 ·rcases (hm x).1 hx with e | e
  ·exact h.ls x e
  ·subst e;exact ⟨hu.1,hu.2.1⟩
structure JI (c:Chip) (t:TS) (u:List Int) (l:List Bool) (n k:Nat):Prop where
 up:Up c
 ti:TI c t
 rel:RelT t u l n
 wf:WF n t.uses t.lost
 len:c.blocks.length=n
 ver:t.version.toNat≤k+1
 cnt:Cnt c (1000*k+1000)
 pf:c.pf.list=[]
 wfl:c.wf.list=[]
 af:c.after<0
section
variable {aP aC aB n:Nat} {bad:List Int}
theorem Mk {i:Int} (h:0≤i∧i<n):atB (Gy n bad) i=E3 bad i:=by
 have:i.toNat<(Gy n bad).length:=by rw [Pn];omega
 simp only [atB,Ayg,Ayw this,A0t]
 simp only [Gy,List.getElem_map,List.getElem_range]
 congr 1;omega
theorem Zo (hn:2≤n) (size:Int):∀ i,i≤n→Ns (Gy n bad) size i=(Fp (Du (-1) 0 aP aC aB n bad) size i).1
 | 0,_=>rfl
 | i+1,h=>by
  have ih:=Zo hn size i (by omega)
  have hb:I4 (Du (-1) 0 aP aC aB n bad) (i:Nat)=atB (Gy n bad) (i:Nat):=by rw [Oq (by omega),Mk (by omega)]
  unfold Ns Fp
  simp only []
  rw [hb,ih]
  split
  ·rfl
  ·split <;> rfl
theorem U0 (hn:16≤n∧n≤40):Dt (Du (-1) 0 aP aC aB n bad)=(n:Int) - 6:=by
 unfold Dt
 rw [Hf,Ht (x:=(n:Int) - 2) (by omega),Ht (by omega)]
 omega
theorem Acq (hn:16≤n∧n≤40):(D0 (Du (-1) 0 aP aC aB n bad)).uses=Ns (Gy n bad) ((n:Int) - 6) n:=by
 rw [Ah8,U0 hn,Hf,Zo (aP:=aP) (aC:=aC) (aB:=aB) (by omega) _ n (A2q _)]
theorem U1 (hn:16≤n∧n≤40):Hu (Du (-1) 0 aP aC aB n bad)=Vc (Gy n bad):=by
 unfold Hu Vc
 rw [Oq (by omega),Oq (by omega),U0 hn,Acq hn,Pn,Mk (by omega),Mk (by omega)]
theorem Avf (hn:16≤n∧n≤40) (hx:Vc (Gy n bad)=false):∃ t c',C1 (Du (-1) 0 aP aC aB n bad)=(0,t,c')∧JI c' t (Ns (Gy n bad) ((n:Int) - 6) n) (Gy n bad) n 0∧c'.aC=aC∧c'.aP=aP:=by
 have hnb:Hu (Du (-1) 0 aP aC aB n bad)=false:=(U1 hn).trans hx
 have hI:=Av2 (Du (-1) 0 aP aC aB n bad) (size:=(n:Int) - 6) (by omega) n
 have hu:=Acq (aP:=aP) (aC:=aC) (aB:=aB) (bad:=bad) hn
 have hl:(D0 (Du (-1) 0 aP aC aB n bad)).lost=(Fp (Du (-1) 0 aP aC aB n bad) ((n:Int) - 6) n).2:=by rw [Ah9,U0 hn,Hf]
 rw [← Zo (by omega) _ n (A2q _),← hl] at hI
 obtain ⟨c',h1,h2⟩:=Nh (after:= -1) (keep:=0) (aP:=aP) (aC:=aC) (aB:=aB) (n:=n) (bad:=bad) (by omega) (by omega) hnb
 rw [hu] at h1 h2
 generalize (D0 (Du (-1) 0 aP aC aB n bad)).lost=lost at *
 generalize hus:Ns (Gy n bad) ((n:Int) - 6) n=us at *
 have hbd:∀ x:Int,0≤x→x<n→I4 (Du (-1) 0 aP aC aB n bad) x=E3 bad x:=fun x h2 h3=>Oq (by omega)
 have hx2:E3 bad 0=false∧E3 bad 1=false∧¬ ((us.length:Int)<(n:Int) - 6):=by
  unfold Vc at hx
  rw [Pn,hus,Mk (by omega),Mk (by omega)] at hx
  simp only [Azp,Ayz] at hx
  exact ⟨hx.1.1,hx.1.2,hx.2⟩
 obtain ⟨hb0,hb1,hlen⟩:=hx2
 have hlo:∀ x∈lost,2≤x∧x<n:=fun x hx=>by
  have:=hI.ls x hx
  rw [hbd x this.1 this.2.1] at this
  refine ⟨?_,this.2.1⟩
  rcases (show x<2∨2≤x by omega) with h | h
  ·rcases (show x=0∨x=1 by omega) with rfl | rfl
   ·rw [hb0] at this;exact absurd this.2.2 (by simp)
   ·rw [hb1] at this;exact absurd this.2.2 (by simp)
  ·exact h
 have hw:WF n us lost:=⟨hn.1,hn.2,hI.un,by have:=hI.len;omega,fun x hx=>by
  have:=hI.us x hx
  exact ⟨this.1,this.2.1,fun h=>by have h5:=(hI.ls x h).2.2;rw [this.2.2] at h5;cases h5⟩,hI.ln,hlo⟩
 have hrel:RelT ⟨us,lost,1,0,1,0⟩ us (Gy n bad) n:=⟨rfl,Pn _ _,fun b h3 h4=>by
  rw [Mk ⟨h3,h4⟩]
  show E3 bad b=E3 lost b
  have hb:=hbd b h3 h4
  cases hh:E3 bad b with
  | true=>rw [hh] at hb;exact (has_mem.2 (hI.lb b h3 h4 hb)).symm
  | false =>
   rw [hh] at hb
   cases h5:E3 lost b with
   | false=>rfl
   | true=>(have:=(hI.ls b (has_mem.1 h5)).2.2;rw [hb] at this;cases this),hI.ln,fun x hx=>by have:=hlo x hx;omega⟩
 have hblk:∀ k<2,(Du (-1) 0 aP aC aB n bad).blocks[k]? =some (Gz false):=fun k hk=>by
  rw [Ic (by omega)]
  rcases (show k=0∨k=1 by omega) with rfl | rfl
  ·rw [show (((0:Nat):Int))=0 from rfl,hb0]
  ·rw [show (((1:Nat):Int))=1 from rfl,hb1]
 have hlen':c'.blocks.length=n:=by rw [h2,Afr,Hf]
 have hc0:c'.blocks[0]? =some ⟨(Gz false).pages.setIfInBounds 0 (Ea 1 n us lost),1,false⟩:=by
  rw [h2]
  exact Tv (by rw [Hf];omega)
 have hc1:c'.blocks[1]? =some (Gz false):=by
  rw [h2,Qd (by omega)]
  exact hblk 1 (by omega)
 have hnp:∀ (j:Nat) (h:j<8),(Gz false).pages[j]=A0:=fun j h=>by simp [Gz]
 have hp0:∀ (j:Nat) (h:j<8),((Gz false).pages.setIfInBounds 0 (Ea 1 n us lost))[j]=if 0=j then Ea 1 n us lost else A0:=fun j h=>by
  rw [Ayc]
  split
  ·rfl
  ·exact hnp j h
 have hrp:RP n (Ea 1 n us lost)=some (1,us,lost):=Af1 hw.okP
 have hg:c'.off=false∧c'.dead=false∧c'.out=false∧c'.after<0∧c'.pf.list=[]∧c'.wf.list=[]∧c'.pc=1∧c'.wc=0∧c'.aC=aC∧c'.aP=aP:=by
  rw [h2]
  refine ⟨rfl,rfl,rfl,by show (-1:Int)<0;omega,rfl,rfl,?_,rfl,rfl,rfl⟩
  show w64 (0+1)=1
  exact Ht (by omega)
 obtain ⟨g1,g2,g3,g4,g5,g6,g7,g8,g9,g10⟩:=hg
 refine ⟨_,c',h1,⟨⟨g1,g2,g3⟩,⟨0,rfl,⟨?_,by omega,fun k hk=> ?_,fun k hk b hb j hj w u l hr=> ?_,?_⟩,_,hc0,(show (0:Int)≤1 by decide),(show (1:Int)≤1 by decide)⟩,hrel,hw,hlen',(show (1#64).toNat≤0+1 by decide),⟨by rw [g7];omega,by rw [g8];omega⟩,g5,g6,g4⟩,g9,g10⟩
 ·rw [hlen'];exact hw.okP
 ·rcases (show k=0∨k=1 by omega) with rfl | rfl
  ·exact ⟨_,hc0,⟨⟨by simp,by simp⟩,fun j hj hle=>by simp only at hle ⊢;rw [hp0 j hj,A26 (by omega)]⟩,rfl⟩
  ·exact ⟨_,hc1,⟨⟨by simp [Gz],by simp [Gz]⟩,fun j hj _=>hnp j hj⟩,rfl⟩
 ·rw [hlen'] at hr
  rcases (show k=0∨k=1 by omega) with rfl | rfl
  ·rw [hc0] at hb
   cases hb
   simp only at hr
   rw [hp0 j hj] at hr
   split at hr
   ·rw [hrp] at hr
    simp only [A0h,A13] at hr
    obtain ⟨rfl,rfl,rfl⟩:=hr
    exact ⟨A2q _,fun _=>⟨rfl,rfl⟩⟩
   ·rw [Ly] at hr;cases hr
  ·rw [hc1] at hb
   cases hb
   rw [hnp j hj,Ly] at hr;cases hr
 ·refine ⟨_,hc0,0,by omega,?_⟩
  rw [hlen']
  simp only
  rw [hp0 0 (by omega),A25 rfl]
  exact hrp
end
end
section
open Go.K
theorem Apa {c:Chip} {a:Nat} (ha:c.aC=a) (hb:2≤c.blocks.length∧c.blocks.length≤1000):Does Tryz.prog 131 [ptr a] (chH c) (Zg a c):=by subst ha;exact Ajk hb
theorem Avg {c:Chip} {a:Nat} (ha:c.aC=a) (hb:2≤c.blocks.length∧c.blocks.length≤1000) {t:TS} (ho:Dj c=(0,t)):Does Tryz.prog 129 [ptr a] (chH c) (fun v H=>∃ tb:Tab,v= .tuple #[ptr tb.b,.int .i64 0]∧H=Dk a tb++(chH c++[])∧tb.ts=t):=by
 subst ha
 refine (Zf hb).mono fun v H h=> ?_
 unfold Uu at h
 rw [ho,A25 rfl] at h
 exact h
end
section
open Go.K
def PgP (c:Chip) (S:Pg→Prop):Prop:=∀ a<2,∀ b,c.blocks[a]? =some b→∀ (j:Nat) (h:j<8),S b.pages[j]
def PlB (n:Nat) (p:Pg):Prop:=p=A0∨∃ w u l,OkP n u l∧p=Ea w n u l
end
section
open Go.K
instance ent38:Ent Tryz.prog 38:=⟨fun _ _=>by kernel_rfl⟩
theorem Asy {c:Chip}:Does Tryz.prog 38 [ptr c.aP] (chH c) (Is (.tuple #[]) (chH { c with off:=false,after:= -1 })):=by
 rw [Ef,Ef]
 refine Ah (n:=8) Tryz.func38 Tryz.ntmps38 rfl (Ay9 rfl)<|Aa fun ops=>oM rfl<|oM rfl<|oN rfl<|oF rfl ?_
 refine Af rfl rfl uD rfl rfl rfl ?_
 refine oN rfl<|oF rfl ?_
 refine Af rfl rfl uD rfl rfl rfl ?_
 refine Ac ?_
 refine Lp (Ml Tryz.results38) ?_ sP
 rfl
section
variable {P:Program} {E:Env} {H:Hp} {t u:TypeId} {x y:Operand} {i m:Nat}
theorem Zp (hx:ev E x=some (.int .i64 (i:Nat))) (hy:ev E y=some (.int .i64 (m:Nat))) (hm:m≠0) (hi:i<9223372036854775808):Rd P E H (.binOp .quo t x y u) (.int .i64 ((i / m:Nat):Int)):=fun a w d ty pos af g h1 h2=>by
 have e1:=Ba h1 hx
 have e2:=Ba h1 hy
 have e3:¬ (m:Int)=0:=by omega
 have e4:IntKind.i64.wrap ((i:Int).tdiv (m:Int))=((i / m:Nat):Int):=by
  rw [Int.tdiv_eq_ediv_of_nonneg (by omega),← Int.natCast_ediv]
  exact Cx (by have:=Nat.div_le_self i m;have h0:=Az1 (i / m);omega)
 simp only [execOp,e1,e2,eqGuard,binOp,Op.intDiv,A26 e3,e4]
 simp
theorem Zq (hx:ev E x=some (.int .i64 (i:Nat))) (hy:ev E y=some (.int .i64 (m:Nat))) (hm:m≠0):Rd P E H (.binOp .rem t x y u) (.int .i64 ((i % m:Nat):Int)):=fun a w d ty pos af g h1 h2=>by
 have e1:=Ba h1 hx
 have e2:=Ba h1 hy
 have e3:¬ (m:Int)=0:=by omega
 have e4:(i:Int).tmod (m:Int)=((i % m:Nat):Int):=by
  rw [Int.tmod_eq_emod_of_nonneg (by omega),← Int.natCast_emod]
 simp only [execOp,e1,e2,eqGuard,binOp,Op.intDiv,A26 e3,e4]
 simp
end
end
section
open Go.K
theorem Asz {pp:Nat} {n:Nat} (hn:Ov n []=true):Does Tryz.prog 47 [ptr pp,.int .i64 (n:Nat),.slice none 0 0] [(pp,true,C [.bool false,.int .i64 (-1),.int .i64 0] tPw)]
  (fun v H=>∃ aC aB,v= .tuple #[ptr aC,.int .i64 0]∧H=chH (Du (-1) 0 pp aC aB n [])++[]):=by
 have h:=Aqr (pp:=pp) (n:=(n:Int)) (s:= .nil) (T:=tI)
 rw [Sl.hp_nil] at h
 refine h.mono fun v H hh=> ?_
 rcases hh with ⟨aC,aB,h1,h2,_⟩ | ⟨_,_,h3⟩
 ·exact ⟨aC,aB,h1,h2⟩
 ·rw [show (Sl.nil:Sl Int).list=[] from rfl,hn] at h3;cases h3
theorem Awl {pp aC aB n:Nat} {bad:List Int} {t:TS} {c':Chip} {k:Nat} {u:List Int} {l:List Bool} (hn:16≤n∧n≤40) (hx:Vc (Gy n bad)=false) (hf:C1 (Du (-1) 0 pp aC aB n bad)=(0,t,c')) (hJ:JI c' t u l n k):PgP c' (PlB n):=by
 obtain ⟨c2,h1,h2⟩:=Nh (after:= -1) (keep:=0) (aP:=pp) (aC:=aC) (aB:=aB) (n:=n) (bad:=bad) (by omega) (by omega) ((U1 hn).trans hx)
 rw [h1] at hf
 simp only [A13] at hf
 obtain ⟨_,rfl,rfl⟩:=hf
 have hok:=hJ.wf.okP
 generalize (D0 (Du (-1) 0 pp aC aB n bad)).uses=us at *
 generalize (D0 (Du (-1) 0 pp aC aB n bad)).lost=lost at *
 intro a ha b hb j hj
 rw [h2] at hb
 rcases (show a=0∨a=1 by omega) with rfl | rfl
 ·rw [Tv (by rw [Hf];omega)] at hb
  cases hb
  simp only
  rw [Ayc]
  split
  ·exact .inr ⟨1,us,lost,hok,rfl⟩
  ·refine .inl ?_
   simp [Gz]
 ·rw [Qd (by omega),Ic (by omega)] at hb
  cases hb
  refine .inl ?_
  simp [Gz]
end
section
open Go.K
def onC (c:Chip):Chip:={ c with off:=false,after:= -1 }
def Vb (c:Chip) (a k:Int):Chip:={ c with after:=max a (-1),keep:=k }
theorem Hold.same {c c':Chip} {v:Nat} {u l:List Int} {a:Nat} (h:Hold c v u l a) (hb:c'.blocks=c.blocks):Hold c' v u l a :=
 ⟨by rw [hb];exact h.ok,h.a2,by rw [hb];exact h.bs,by rw [hb];exact h.le,by rw [hb];exact h.ex⟩
theorem TI.same {c c':Chip} {t:TS} (h:TI c t) (hb:c'.blocks=c.blocks):TI c' t:=by
 obtain ⟨a,h1,h2,h3⟩:=h
 exact ⟨a,h1,h2.same hb,by rw [hb];exact h3⟩
theorem Ao9 {c:Chip}:Does Tryz.prog 38 [ptr c.aP] (chH c) (Is (.tuple #[]) (chH (onC c))):=Asy
theorem Ajr {c:Chip} {a k:Int}:Does Tryz.prog 36 [ptr c.aP,.int .i64 a,.int .i64 k] (chH c) (Is (.tuple #[]) (chH (Vb c a k))):=Aug
end
section
open Go.K
instance agg73:Agg Tryz.prog 73 false:=⟨⟨_,Tryz.underlying73,rfl⟩⟩
instance fld75_0:Fld Tryz.prog 75 0 0:=⟨⟨_,_,0,Tryz.underlying75,rfl,by kernel_rfl,rfl⟩⟩
instance fld75_1:Fld Tryz.prog 75 1 1:=⟨⟨_,_,0,Tryz.underlying75,rfl,by kernel_rfl,rfl⟩⟩
instance ent66:Ent Tryz.prog 66:=⟨fun _ _=>by kernel_rfl⟩
instance ent100:Ent Tryz.prog 100:=⟨fun _ _=>by kernel_rfl⟩
instance ent141:Ent Tryz.prog 141:=⟨fun _ _=>by kernel_rfl⟩
instance ent242:Ent Tryz.prog 242:=⟨fun _ _=>by kernel_rfl⟩
abbrev tDk:TypeId:=75
def atD (t:TS) (b:Int):Int:=if (atT t b).2=true then (atT t b).1 else -1
def Dv (p:Pg):Pg:=if (Cg p).2.2.2≠0∨(Cg p).2.2.1=0 then p else (C3 (Cg p).1 (Cg p).2.1).1
section
variable {c:Chip} {t:Tab} {a dk:Nat}
theorem Acr {b:Int}:Does Tryz.prog 141 [ptr dk,.int .i64 b] ((dk,true,C [ptr a,ptr t.b] tDk)::(Dk a t++[])) (Is (.int .i64 (atD t.ts b)) ((dk,true,C [ptr a,ptr t.b] tDk)::(Dk a t++[]))):=by
 refine Ah (n:=19) Tryz.func141 Tryz.ntmps141 rfl (Ay9 rfl)<|Ad<|Aa fun ops=>oA rfl<|Ac<|n_K<|Ad<|Aa fun ops=>oM rfl<|oN rfl<|oF rfl ?_
 refine oR (Al rfl mM rfl) ?_
 refine oM rfl ?_
 refine A6 rfl (Atd (a:=a) (t:=t)) sP rfl aQ ?_
 refine oM rfl<|oE rfl rfl<|oE rfl rfl<|oA rfl<|oA rfl<|Ac<|n_K<|Ad<|Ad<|Aa fun ops=>oM rfl<|oR (Bx rfl)<|Ac<|n_K ?_
 refine Aj rfl (fun c17=> ?_) (fun c17=> ?_)
 ·skip
  have hres:atD t.ts b= -1:=(by unfold atD;rw [A26 (by simpa using c17)])
  refine Ad<|Aa fun ops=>oA rfl<|Ac<|n_K<|An<|r_K ?_
  refine Aq (At Tryz.results141 (Ag rfl)) ?_ sP
  rw [hres]
 ·skip
  have hres:atD t.ts b=(atT t.ts b).1:=(by unfold atD;rw [A25 (by simpa using c17)])
  refine Ai<|n_K<|Ad<|Aa fun ops=>oM rfl<|oA rfl<|Ac<|n_K<|An ?_
  refine Aq (At Tryz.results141 (Ag rfl)) ?_ sP
  rw [hres]
theorem Apf:Does Tryz.prog 66 [ptr dk] ((dk,true,C [ptr a,ptr t.b] tDk)::(Dk a t++[])) (Is (.int .i64 t.u.list.length) ((dk,true,C [ptr a,ptr t.b] tDk)::(Dk a t++[]))):=by
 refine Ah (n:=8) Tryz.func66 Tryz.ntmps66 rfl (Ay9 rfl)<|Ad<|Aa fun ops=>oA rfl<|Ac<|n_K<|Ad<|Aa fun ops=>oM rfl<|oN rfl<|oF rfl ?_
 refine oR (Al rfl mM rfl) ?_
 refine A6 rfl (Ash (a:=a) (t:=t)) sP rfl aQ ?_
 refine oA rfl<|Ac<|n_K<|An ?_
 refine Aq (At Tryz.results66 (Ag rfl)) ?_ sP
 rfl
theorem Zt (ha:c.aC=a) {b k:Int}:Does Tryz.prog 100 [ptr dk,.int .i64 b,.int .i64 k] ((dk,true,C [ptr a,ptr t.b] tDk)::(Dk a t++(chH c++[])))
  (Is (.tuple #[.agg (vbc (B0 c (atD t.ts b) k)).toArray,.int .i64 (Aww c (atD t.ts b) k)]) ((dk,true,C [ptr a,ptr t.b] tDk)::(Dk a t++(chH c++[])))):=by
 refine Ah (n:=19) Tryz.func100 Tryz.ntmps100 rfl (Ay9 rfl)<|Ad<|Aa fun ops=> ?_
 refine Aw rfl fun b6=> ?_
 rw [Cs]
 refine oA rfl<|Ac<|n_K<|Ad ?_
 refine s_draw [] [(8,[(0,false),(1,false),(2,false),(3,false),(4,false),(5,false),(7,false),(6,true)]),(11,[(8,true),(9,false),(10,false)]),(12,[(11,true)]),(13,[(12,false)])] (by kernel_rfl) rfl fun ops w0 H0 y=> ?_
 refine A4<|xM rfl<|xN rfl<|xF rfl ?_
 refine xR (Al rfl mM rfl) ?_
 refine xM rfl<|xM rfl<|xM rfl<|Be ?_
 refine A6 rfl (Acr (a:=a) (t:=t) (dk:=dk)) sP rfl aQ ?_
 refine Ac ⟨rfl,⟨_,sP⟩,?_⟩
 refine Am<|A4<|Be ?_
 refine A6 rfl (Aoh ha) sP rfl aQ ?_
 refine Ac ⟨rfl,⟨_,sP⟩,?_⟩
 refine xE rfl rfl<|xE rfl rfl<|Am<|Bh<|Be ?_
 first | refine Af rfl rfl uD (Ct) (Ar) (B2 (by first | exact Ar | exact Azc ..)) ?_ | refine Af rfl rfl uD rfl rfl rfl ?_
 refine Ac ⟨rfl,⟨_,sP⟩,?_⟩
 refine Am<|A4<|xA rfl<|Am<|Bm<|n_K<|An ?_
 refine Aq (Bz Tryz.results100 (Bv rfl mM (by first | exact Bg | rfl)) (Ag rfl)) ?_ sP
 rfl
theorem Agz {p:Pg}:Does Tryz.prog 242 [.agg (vbc p).toArray] [] (Is (.agg (vbc (Dv p)).toArray) []):=by
 refine Ah (n:=29) Tryz.func242 Tryz.ntmps242 rfl (Ay9 rfl)<|Ad<|Aa fun ops=> ?_
 refine Ec rfl rfl fun b1=> ?_
 refine Aw rfl fun b2=> ?_
 rw [Cs]
 refine Ac<|n_K<|Ad<|Aa fun ops=> ?_
 refine oR (Au rfl mM (by first | exact Bg | rfl)) ?_
 refine Bd rfl (La (p:=p)) sP rfl fun v9 Y9 h9=> ?_
 obtain ⟨s,rfl,rfl,hs,ho⟩:=h9
 refine Ay aQ ?_
 refine oM rfl<|oE rfl rfl<|oE rfl rfl<|oE rfl rfl<|oE rfl rfl<|oA rfl<|oA rfl<|oA rfl<|oA rfl<|Ac<|n_K<|Ad<|Ad ?_
 refine Bf [(2,16)] rfl fun ops y=> ?_
 refine oM rfl<|oR (Ae rfl rfl rfl)<|oM rfl ?_
 refine' Es (j:=2) (k:=2) y rfl rfl rfl rfl rfl rfl rfl (fun hg16=> ?_) ?_
 rotate_left
 ·try (simp at hg16;show _)
  refine o_g y rfl rfl ?_
  refine oM rfl ?_
  refine o_g y rfl rfl ?_
  refine oR (Ae rfl rfl rfl) ?_
  exact Ac ⟨rfl,rfl,⟨_,sP⟩⟩
 refine Ac<|n_K ?_
 refine Aj rfl (fun c19=> ?_) (fun c19=> ?_)
 ·skip
  have hres:Dv p=p:=(by unfold Dv;rw [A25 (by simp at c19;rcases c19 with h | h;exact .inl h;exact .inr h)])
  refine Ad<|Aa fun ops=> ?_
  refine oR (Au rfl mM (by first | exact Bg | rfl)) ?_
  first | refine Af rfl rfl uD (Ct) (Ar) (B2 (by first | exact Ar | exact Azc ..)) ?_ | refine Af rfl rfl uD rfl rfl rfl ?_
  refine Ac<|n_K<|An<|r_K ?_
  refine Aq (At Tryz.results242 (Bv rfl mM (by first | exact Bg | rfl))) ?_ sP
  rw [hres]
 ·skip
  have hres:Dv p=(C3 (Cg p).1 (Cg p).2.1).1:=(by unfold Dv;rw [A26 (by simp at c19;rintro (h | h);exact h c19.1;exact c19.2 h)])
  refine Ai<|n_K<|Ad<|Aa fun ops=>oM rfl<|oM rfl ?_
  refine A5 rfl rfl rfl rfl fun b24=> ?_
  refine A6 rfl (H9 (kind:=(Cg p).1) (s:=s) (by have:=Qu p;rw [hs];omega)) sP rfl aQ ?_
  refine oM rfl<|oE rfl rfl<|oE rfl rfl ?_
  first | refine Af rfl rfl uD (Ct) (Ar) (B2 (by first | exact Ar | exact Azc ..)) ?_ | refine Af rfl rfl uD rfl rfl rfl ?_
  refine Ac<|n_K<|Ad<|Aa fun ops=> ?_
  refine oR (Au rfl mM (by first | exact Bg | rfl)) ?_
  first | refine Af rfl rfl uD (Ct) (Ar) (B2 (by first | exact Ar | exact Azc ..)) ?_ | refine Af rfl rfl uD rfl rfl rfl ?_
  refine Ac<|n_K<|An ?_
  refine Aq (At Tryz.results242 (Bv rfl mM (by first | exact Bg | rfl))) ?_ sP
  rw [hres,← hs]
end
end
end Go.Proofs.YtpmojdippdlcaaaGreatDoor
