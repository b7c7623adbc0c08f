/- For every input, what is said of the program's store holds: its nodes, its last commit; the conditions are the statement's own: part 3. -/
import Derived.Test.YtpmojdippdlcaaaGreatDoorJ0
import Derived.Test.YtpmojdippdlcaaaGreatDoorJ2
import Derived.Test.YtpmojdippdlcaaaGreatDoorJ1
set_option linter.unusedVariables false
set_option linter.unusedSimpArgs false
set_option maxRecDepth 100000
set_option maxHeartbeats 1000000
set_option synthInstance.maxSize 4000
set_option synthInstance.maxHeartbeats 400000
namespace Go.Proofs.YtpmojdippdlcaaaGreatDoor
section
open Go.K
instance zer227:Zer Tryz.prog 227 ([.pointer none,.slice none 0 0,.slice none 0 0,.int .u64 0,.int .i64 0,.int .i64 0,.int .i64 0]):=⟨by kernel_rfl⟩
instance plc227:Plc Tryz.prog 227 [(0,1),(1,2),(3,1),(4,1),(5,1),(6,1)]:=⟨⟨_,Tryz.underlying227,fun _=>by kernel_rfl⟩⟩
instance ent129:Ent Tryz.prog 129:=⟨fun _ _=>by kernel_rfl⟩
instance ent131:Ent Tryz.prog 131:=⟨fun _ _=>by kernel_rfl⟩
def V7 (a:Nat) (c:Chip) (v:Value) (H:Hp):Prop :=
 if (Dk c).1=0 then ∃ t:Tab,v= .tuple #[ptr t.b,.int .i64 0]∧H=Di a t++(chH c++[])∧t.ts=(Dk c).2
 else v= .tuple #[.pointer none,.int .i64 (Dk c).1]∧H=chH c++[]
def A0k (s:Sc) (u l:Sl Int):Prop:=u.list=s.uses∧l.list=s.lost
theorem Aa0 {c:Chip} (hb:2≤c.blocks.length∧c.blocks.length≤1000):Does Tryz.prog 129 [ptr c.aC] (chH c) (V7 c.aC c):=by
 refine Dw (n:=101) Tryz.func129 Tryz.ntmps129 rfl (A13 rfl)<|Ag<|Aa fun ops=>oA rfl<|oA rfl<|Ad<|n_K<|Ag<|Aa fun ops=>oM rfl<|oR (Bl rfl rfl) ?_
 refine Dj rfl rfl fun b20=> ?_
 refine oA rfl<|Ad<|n_K<|Ag<|Aa fun ops=>oA rfl<|Ad<|n_K<|Ag<|Ag<|Aa fun ops=>oM rfl<|Ad<|n_K ?_
 refine Bf ?_
 refine I1 (G:=(b20,true,C (Id c.aC ⟨b20,.nil,.nil,0,0,0,0⟩) tTb)::((Sl.nil:Sl Int).hp tI++((Sl.nil:Sl Int).hp tI++(chH c++[])))) (by simp only [Sl.hp_nil,A4h,A37];rfl) ?_
 refine At [0,4] kQ (fun (st:Nat×Tab)=>[(21,.int .i64 st.1),(5,.bool (C6 c st.1).2)]) (fun (st:Nat×Tab)=>(b20,true,C (Id c.aC st.2) tTb)::(st.2.u.hp tI++(st.2.l.hp tI++(chH c++[])))) (fun (st:Nat×Tab)=>st.1≤2∧st.2.ts=(C6 c st.1).1∧st.2.b=b20∧(0<st.1→B9 c 0 0=0)) (fun (st:Nat×Tab)=>2 - st.1) ((0,⟨b20,.nil,.nil,0,0,0,0⟩)) ⟨A5s _,rfl,rfl,fun h=>by simp at h⟩ kP sP ?_
 rintro ⟨k,t⟩ ⟨h0,h1,h2,h3⟩
 simp only at h0 h1 h2 h3
 refine Ag<|Aa fun ops=>oR (An rfl rfl rfl)<|Ad<|n_K<|Ag ?_
 refine Ae rfl (fun c22=> ?_) (fun c22=> ?_)
 ·simp only [A3j,A1k] at c22
  refine Bd<|n_K<|Ag<|Bf<|Ag<|Aa fun ops=>oM rfl<|oA rfl<|Ad<|n_K<|Ag<|Aa fun ops=>oA rfl<|Ad ?_
  refine n_K<|Ag<|Aa fun ops=> ?_
  refine Aj rfl fun b8=> ?_
  refine Ad<|n_K<|Ag<|Aa fun ops=>oA rfl<|Ad<|n_K<|Ag<|Aa fun ops=>oA rfl<|oA rfl<|Ad<|n_K<|Ag ?_
  refine Ag<|Aa fun ops=>oM rfl<|Ad<|n_K<|Bf ?_
  refine I1 (G:=(b8,true,C [(Sl.nil:Sl Int).val,(Sl.nil:Sl Int).val] tPl)::((Sl.nil:Sl Int).hp tI++((Sl.nil:Sl Int).hp tI++((b20,true,C (Id c.aC t) tTb)::(t.u.hp tI++(t.l.hp tI++(chH c++[]))))))) (by simp only [Sl.hp_nil,A4h];rfl) ?_
  refine At [0,4,5,6,8,21] kQ (fun (st:Nat×Sl Int×Sl Int)=>[(24,.int .i64 st.1),(7,.int .i64 (Ca c k st.1).last),(9,wv (Ca c k st.1).newest),(10,.int .i64 (Ca c k st.1).at'),(11,.bool (Ca c k st.1).any)]) (fun (st:Nat×Sl Int×Sl Int)=>(b8,true,C [st.2.1.val,st.2.2.val] tPl)::(st.2.1.hp tI++(st.2.2.hp tI++((b20,true,C (Id c.aC t) tTb)::(t.u.hp tI++(t.l.hp tI++(chH c++[]))))))) (fun (st:Nat×Sl Int×Sl Int)=>st.1≤8∧A0k (Ca c k st.1) st.2.1 st.2.2∧(0<st.1→B9 c 0 0=0)) (fun (st:Nat×Sl Int×Sl Int)=>8 - st.1) ((0,.nil,.nil)) ⟨A5s _,⟨rfl,rfl⟩,fun h=>by simp at h⟩ kP sP ?_
  rintro ⟨i,u,l⟩ ⟨k0,k1,k2⟩
  simp only at k0 k1 k2
  refine Ag<|Aa fun ops=>oR (An rfl rfl rfl)<|Ad<|n_K<|Ag ?_
  refine Ae rfl (fun c25=> ?_) (fun c25=> ?_)
  ·simp only [A3j,A1k] at c25
   have hms:B9 c k i=B9 c 0 0:=Aqs hb.1 (by omega) (by omega)
   have hsc:Ca c k (i+1)=Ja c k i (Ca c k i):=rfl
   refine Bd<|n_K<|Ag<|Bf<|Ag<|Aa fun ops=>oM rfl<|oA rfl<|Ad<|n_K<|Ag<|Aa fun ops=>oM rfl<|oM rfl ?_
   refine oM rfl ?_
   refine Jv rfl (Z5) sP rfl aQ ?_
   refine oM rfl<|oE rfl rfl<|oE rfl rfl ?_
   refine Aj rfl fun b13=> ?_
   rw [Cj]
   first | refine Ac rfl rfl uD (Cg) (Ai) (Bo (by first | exact Ai | exact A1y ..)) ?_ | refine Ac rfl rfl uD rfl rfl rfl ?_
   refine oA rfl<|Ad<|n_K<|Ag<|Ag<|Aa fun ops=>oM rfl<|oR (An rfl rfl rfl)<|Ad<|n_K ?_
   refine Ae rfl (fun c35=> ?_) (fun c35=> ?_)
   ·skip
    have hne:¬ B9 c 0 0=0:=(by rw [← hms];simpa using c35)
    have hres:Dk c=(B9 c 0 0,ts0):=(by unfold Dk;rw [if_pos hne])
    refine Ag<|Aa fun ops=>oM rfl<|oA rfl<|oA rfl<|Ad<|n_K<|D3<|r_K<|Ig<|r_K<|r_K<|Ig<|r_K ?_
    refine Ig<|r_K<|r_K<|Ig<|r_K ?_
    exact A9 (Cu Tryz.results129 (Af rfl) (Af rfl)) (by unfold V7;rw [if_neg (by rw [hres];exact hne),hres,hms];exact ⟨rfl,rfl⟩) sP
   ·skip
    have hz:B9 c 0 0=0:=(by rw [← hms];simpa using c35)
    refine Bd<|n_K<|Ag<|Ag<|Aa fun ops=> ?_
    refine oR (Am rfl mM (by first | exact Ax | rfl)) ?_
    refine Jv rfl (M6) sP rfl aQ ?_
    refine oR (D6 rfl)<|Ad<|n_K ?_
    refine Ae rfl (fun c39=> ?_) (fun c39=> ?_)
    ·skip
     have hla:(if Be (Bp c k i)=true then (Ca c k i).last else (i:Int)+1)=(i:Int)+1:=(by rw [if_neg (by simpa using c39)])
     refine Aa fun ops=>oM rfl ?_
     refine oR (Bm rfl rfl (by omega)) ?_
     refine oA rfl<|Ad<|n_K<|Ag ?_
     refine Na [] [(11,(.fork [(0,false),(1,false)] 2 (.fork [] 3 (.one [(4,false),(5,false),(6,false),(7,false),(8,true),(9,true),(10,false)]) 8 (.one [(3,true),(4,false),(5,false),(6,false),(7,false),(9,true),(10,false)])) 8 (.one [(2,true),(3,true),(4,false),(5,false),(6,false),(7,false),(9,true),(10,false)]))),(12,(.one [(11,false)]))] (by kernel_rfl) rfl fun ops w0 H0 y=> ?_
     refine K8 ?_
     refine K9 ?_ rfl
     refine xR (Am rfl mM (by first | exact Ax | rfl)) ?_
     refine xM rfl ?_
     refine As ⟨⟨_,sP⟩,?_,?_⟩
     refine B1 ?_
     refine Jv rfl (Fj) sP rfl aQ ?_
     refine Ad ⟨rfl,⟨_,sP⟩,?_⟩
     refine As ?_
     refine K9 ?_ rfl
     refine As ⟨⟨_,sP⟩,?_,?_⟩
     refine B1 ?_
     refine Ci rfl (Kx (q:=Bp c k i) (n:=c.blocks.length)) sP rfl fun v46 Y46 h46=> ?_
     obtain ⟨u46,l46,rfl,rfl,hu46,hl46,ou46,ol46⟩:=h46
     refine A5 aQ ?_
     refine Ad ⟨rfl,⟨_,sP⟩,?_⟩
     refine As ?_
     refine Fy ?_
     refine xM rfl<|xE rfl rfl<|xE rfl rfl<|xE rfl rfl<|B1 ?_
     refine Aj rfl fun b15=> ?_
     refine Ad ⟨rfl,⟨_,sP⟩,?_⟩
     refine B1 ?_
     refine Ac rfl rfl uD rfl rfl rfl ?_
     refine Ad ⟨rfl,⟨_,sP⟩,?_⟩
     refine xA rfl<|As ?_
     rotate_left
     refine B1 ?_
     refine Aj rfl fun b15=> ?_
     refine Ad ⟨rfl,⟨_,sP⟩,?_⟩
     refine As ?_
     refine Fy ?_
     refine B1 ?_
     refine Ci rfl (Kx (q:=Bp c k i) (n:=c.blocks.length)) sP rfl fun v46 Y46 h46=> ?_
     obtain ⟨u46,l46,rfl,rfl,hu46,hl46,ou46,ol46⟩:=h46
     refine A5 aQ ?_
     refine Ad ⟨rfl,⟨_,sP⟩,?_⟩
     refine xM rfl<|xE rfl rfl<|xE rfl rfl<|xE rfl rfl<|B1 ?_
     refine Ac rfl rfl uD rfl rfl rfl ?_
     refine Ad ⟨rfl,⟨_,sP⟩,?_⟩
     refine xA rfl<|As ?_
     rotate_left
     refine B1 ?_
     refine Aj rfl fun b15=> ?_
     refine Ad ⟨rfl,⟨_,sP⟩,?_⟩
     refine As ?_
     refine Fy ?_
     refine B1 ?_
     refine Jv rfl (Fj) sP rfl aQ ?_
     refine Ad ⟨rfl,⟨_,sP⟩,?_⟩
     refine B1 ?_
     refine Ci rfl (Kx (q:=Bp c k i) (n:=c.blocks.length)) sP rfl fun v46 Y46 h46=> ?_
     obtain ⟨u46,l46,rfl,rfl,hu46,hl46,ou46,ol46⟩:=h46
     refine A5 aQ ?_
     refine Ad ⟨rfl,⟨_,sP⟩,?_⟩
     refine xM rfl<|xE rfl rfl<|xE rfl rfl<|xE rfl rfl<|B1 ?_
     refine Ac rfl rfl uD rfl rfl rfl ?_
     refine Ad ⟨rfl,⟨_,sP⟩,?_⟩
     refine xA rfl<|As ?_
     rotate_left
     all_goals
      refine K8 ?_
      refine Fy ?_
      refine xA rfl<|As ?_
      refine Q6 ?_
      refine n_K<|Ag ?_
      refine Fz [(1,51),(4,54)] rfl fun ops y=> ?_
      refine oM rfl<|oM rfl ?_
      refine' Xu (j:=1) (k:=7) y rfl rfl rfl rfl rfl rfl rfl (fun hg51=> ?_) ?_
      rotate_left
      ·try (simp at hg51;show _)
       refine o_g y rfl rfl ?_
       refine oM rfl ?_
       refine o_g y rfl rfl ?_
       refine oR (D6 rfl) ?_
       refine o_g y rfl rfl ?_
       refine oM rfl ?_
       refine' Ac1 (j:=4) (k:=3) y rfl rfl rfl rfl rfl rfl rfl (fun hg54=> ?_) ?_
       rotate_left
       ·try (simp at hg54;show _)
        refine o_g y rfl rfl ?_
        refine oM rfl ?_
        refine o_g y rfl rfl ?_
        refine oM rfl ?_
        refine o_g y rfl rfl ?_
        refine oR (An rfl rfl rfl) ?_
        exact Ad ⟨rfl,rfl,⟨_,sP⟩⟩
       exact Ad ⟨rfl,rfl,⟨_,sP⟩⟩
      refine Ad<|n_K ?_
      refine Ae rfl (fun c59=> ?_) (fun c59=> ?_)
      ·skip
       have hs1:Ca c k (i+1)=⟨(if Be (Bp c k i)=true then (Ca c k i).last else (i:Int)+1),(Dm (Bp c k i) c.blocks.length).1,(Dm (Bp c k i) c.blocks.length).2.1,(Dm (Bp c k i) c.blocks.length).2.2.1,i,true⟩:=(by rw [hsc];unfold Ja;simp only [];rw [if_pos c59])
       rw [hla] at hs1
       refine Aa fun ops=> ?_
       refine oR (Am rfl mM rfl) ?_
       refine oM rfl<|oM rfl ?_
       refine Ac rfl rfl uD rfl rfl rfl ?_
       refine oA rfl<|oA rfl<|oA rfl<|Ad<|Cq<|n_K<|Aa fun ops=> ?_
       refine oR (Bm rfl rfl (by omega)) ?_
       refine oM rfl<|Ad<|n_K ?_
       first | refine ⟨(i+1,u,l),⟨by simp only;omega,by rw [hs1];exact k1,fun _=>hz⟩,by simp only;omega,(by rw [hs1];exact kP),kP,_,sP⟩ | refine ⟨(i+1,u46,l46),⟨by simp only;omega,by rw [hs1];exact ⟨hu46,hl46⟩,fun _=>hz⟩,by simp only;omega,(by rw [hs1];exact kP),kP,_,sP⟩
      ·skip
       have hs1:Ca c k (i+1)={ Ca c k i with last:=(if Be (Bp c k i)=true then (Ca c k i).last else (i:Int)+1) }:=(by rw [hsc];unfold Ja;simp only [];rw [if_neg (by rw [c59];exact A2r)])
       rw [hla] at hs1
       refine Bd<|Cq<|n_K<|Aa fun ops=> ?_
       refine oR (Bm rfl rfl (by omega)) ?_
       refine oM rfl<|Ad<|n_K ?_
       first | refine ⟨(i+1,u,l),⟨by simp only;omega,by rw [hs1];exact k1,fun _=>hz⟩,by simp only;omega,(by rw [hs1];exact kP),kP,_,sP⟩ | refine ⟨(i+1,u46,l46),⟨by simp only;omega,by rw [hs1];exact ⟨hu46,hl46⟩,fun _=>hz⟩,by simp only;omega,(by rw [hs1];exact kP),kP,_,sP⟩
    ·skip
     have hla:(if Be (Bp c k i)=true then (Ca c k i).last else (i:Int)+1)=(Ca c k i).last:=(by rw [if_pos (by simpa using c39)])
     refine Bd<|n_K<|Ag ?_
     refine Na [] [(11,(.fork [(0,false),(1,false)] 2 (.fork [] 3 (.one [(4,false),(5,false),(6,false),(7,false),(8,true),(9,true),(10,false)]) 8 (.one [(3,true),(4,false),(5,false),(6,false),(7,false),(9,true),(10,false)])) 8 (.one [(2,true),(3,true),(4,false),(5,false),(6,false),(7,false),(9,true),(10,false)]))),(12,(.one [(11,false)]))] (by kernel_rfl) rfl fun ops w0 H0 y=> ?_
     refine K8 ?_
     refine K9 ?_ rfl
     refine xR (Am rfl mM (by first | exact Ax | rfl)) ?_
     refine xM rfl ?_
     refine As ⟨⟨_,sP⟩,?_,?_⟩
     refine B1 ?_
     refine Jv rfl (Fj) sP rfl aQ ?_
     refine Ad ⟨rfl,⟨_,sP⟩,?_⟩
     refine As ?_
     refine K9 ?_ rfl
     refine As ⟨⟨_,sP⟩,?_,?_⟩
     refine B1 ?_
     refine Ci rfl (Kx (q:=Bp c k i) (n:=c.blocks.length)) sP rfl fun v46 Y46 h46=> ?_
     obtain ⟨u46,l46,rfl,rfl,hu46,hl46,ou46,ol46⟩:=h46
     refine A5 aQ ?_
     refine Ad ⟨rfl,⟨_,sP⟩,?_⟩
     refine As ?_
     refine Fy ?_
     refine xM rfl<|xE rfl rfl<|xE rfl rfl<|xE rfl rfl<|B1 ?_
     refine Aj rfl fun b15=> ?_
     refine Ad ⟨rfl,⟨_,sP⟩,?_⟩
     refine B1 ?_
     refine Ac rfl rfl uD rfl rfl rfl ?_
     refine Ad ⟨rfl,⟨_,sP⟩,?_⟩
     refine xA rfl<|As ?_
     rotate_left
     refine B1 ?_
     refine Aj rfl fun b15=> ?_
     refine Ad ⟨rfl,⟨_,sP⟩,?_⟩
     refine As ?_
     refine Fy ?_
     refine B1 ?_
     refine Ci rfl (Kx (q:=Bp c k i) (n:=c.blocks.length)) sP rfl fun v46 Y46 h46=> ?_
     obtain ⟨u46,l46,rfl,rfl,hu46,hl46,ou46,ol46⟩:=h46
     refine A5 aQ ?_
     refine Ad ⟨rfl,⟨_,sP⟩,?_⟩
     refine xM rfl<|xE rfl rfl<|xE rfl rfl<|xE rfl rfl<|B1 ?_
     refine Ac rfl rfl uD rfl rfl rfl ?_
     refine Ad ⟨rfl,⟨_,sP⟩,?_⟩
     refine xA rfl<|As ?_
     rotate_left
     refine B1 ?_
     refine Aj rfl fun b15=> ?_
     refine Ad ⟨rfl,⟨_,sP⟩,?_⟩
     refine As ?_
     refine Fy ?_
     refine B1 ?_
     refine Jv rfl (Fj) sP rfl aQ ?_
     refine Ad ⟨rfl,⟨_,sP⟩,?_⟩
     refine B1 ?_
     refine Ci rfl (Kx (q:=Bp c k i) (n:=c.blocks.length)) sP rfl fun v46 Y46 h46=> ?_
     obtain ⟨u46,l46,rfl,rfl,hu46,hl46,ou46,ol46⟩:=h46
     refine A5 aQ ?_
     refine Ad ⟨rfl,⟨_,sP⟩,?_⟩
     refine xM rfl<|xE rfl rfl<|xE rfl rfl<|xE rfl rfl<|B1 ?_
     refine Ac rfl rfl uD rfl rfl rfl ?_
     refine Ad ⟨rfl,⟨_,sP⟩,?_⟩
     refine xA rfl<|As ?_
     rotate_left
     all_goals
      refine K8 ?_
      refine Fy ?_
      refine xA rfl<|As ?_
      refine Q6 ?_
      refine n_K<|Ag ?_
      refine Fz [(1,51),(4,54)] rfl fun ops y=> ?_
      refine oM rfl<|oM rfl ?_
      refine' Xu (j:=1) (k:=7) y rfl rfl rfl rfl rfl rfl rfl (fun hg51=> ?_) ?_
      rotate_left
      ·try (simp at hg51;show _)
       refine o_g y rfl rfl ?_
       refine oM rfl ?_
       refine o_g y rfl rfl ?_
       refine oR (D6 rfl) ?_
       refine o_g y rfl rfl ?_
       refine oM rfl ?_
       refine' Ac1 (j:=4) (k:=3) y rfl rfl rfl rfl rfl rfl rfl (fun hg54=> ?_) ?_
       rotate_left
       ·try (simp at hg54;show _)
        refine o_g y rfl rfl ?_
        refine oM rfl ?_
        refine o_g y rfl rfl ?_
        refine oM rfl ?_
        refine o_g y rfl rfl ?_
        refine oR (An rfl rfl rfl) ?_
        exact Ad ⟨rfl,rfl,⟨_,sP⟩⟩
       exact Ad ⟨rfl,rfl,⟨_,sP⟩⟩
      refine Ad<|n_K ?_
      refine Ae rfl (fun c59=> ?_) (fun c59=> ?_)
      ·skip
       have hs1:Ca c k (i+1)=⟨(if Be (Bp c k i)=true then (Ca c k i).last else (i:Int)+1),(Dm (Bp c k i) c.blocks.length).1,(Dm (Bp c k i) c.blocks.length).2.1,(Dm (Bp c k i) c.blocks.length).2.2.1,i,true⟩:=(by rw [hsc];unfold Ja;simp only [];rw [if_pos c59])
       rw [hla] at hs1
       refine Aa fun ops=> ?_
       refine oR (Am rfl mM rfl) ?_
       refine oM rfl<|oM rfl ?_
       refine Ac rfl rfl uD rfl rfl rfl ?_
       refine oA rfl<|oA rfl<|oA rfl<|Ad<|Cq<|n_K<|Aa fun ops=> ?_
       refine oR (Bm rfl rfl (by omega)) ?_
       refine oM rfl<|Ad<|n_K ?_
       first | refine ⟨(i+1,u,l),⟨by simp only;omega,by rw [hs1];exact k1,fun _=>hz⟩,by simp only;omega,(by rw [hs1];exact kP),kP,_,sP⟩ | refine ⟨(i+1,u46,l46),⟨by simp only;omega,by rw [hs1];exact ⟨hu46,hl46⟩,fun _=>hz⟩,by simp only;omega,(by rw [hs1];exact kP),kP,_,sP⟩
      ·skip
       have hs1:Ca c k (i+1)={ Ca c k i with last:=(if Be (Bp c k i)=true then (Ca c k i).last else (i:Int)+1) }:=(by rw [hsc];unfold Ja;simp only [];rw [if_neg (by rw [c59];exact A2r)])
       rw [hla] at hs1
       refine Bd<|Cq<|n_K<|Aa fun ops=> ?_
       refine oR (Bm rfl rfl (by omega)) ?_
       refine oM rfl<|Ad<|n_K ?_
       first | refine ⟨(i+1,u,l),⟨by simp only;omega,by rw [hs1];exact k1,fun _=>hz⟩,by simp only;omega,(by rw [hs1];exact kP),kP,_,sP⟩ | refine ⟨(i+1,u46,l46),⟨by simp only;omega,by rw [hs1];exact ⟨hu46,hl46⟩,fun _=>hz⟩,by simp only;omega,(by rw [hs1];exact kP),kP,_,sP⟩
  ·simp only [A3j,A1k] at c25
   have hi8:i=8:=(by omega)
   subst hi8
   have hz:B9 c 0 0=0:=k2 (by omega)
   have hop:C6 c (k+1)=Jb c k (C6 c k):=rfl
   rw [show C6 c k=((C6 c k).1,(C6 c k).2) from rfl,← h1] at hop
   refine E9<|x_K<|x_K<|Hv<|n_K<|Ag ?_
   refine Fz [(1,65),(4,68)] rfl fun ops y=> ?_
   refine oM rfl<|oM rfl ?_
   refine' Xu (j:=1) (k:=10) y rfl rfl rfl rfl rfl rfl rfl (fun hg65=> ?_) ?_
   rotate_left
   ·try (simp at hg65;show _)
    refine o_g y rfl rfl ?_
    refine oM rfl ?_
    refine o_g y rfl rfl ?_
    refine oR (D6 rfl) ?_
    refine o_g y rfl rfl ?_
    refine oM rfl ?_
    refine' Ac1 (j:=4) (k:=6) y rfl rfl rfl rfl rfl rfl rfl (fun hg68=> ?_) ?_
    rotate_left
    ·try (simp at hg68;show _)
     refine o_g y rfl rfl ?_
     refine oM rfl ?_
     refine o_g y rfl rfl ?_
     refine oM rfl ?_
     refine o_g y rfl rfl ?_
     refine oN rfl ?_
     refine o_g y rfl rfl ?_
     refine oF rfl ?_
     refine o_g y rfl rfl ?_
     refine oR (Al rfl mM rfl) ?_
     refine o_g y rfl rfl ?_
     refine oR (An rfl rfl rfl) ?_
     exact Ad ⟨rfl,rfl,⟨_,sP⟩⟩
    exact Ad ⟨rfl,rfl,⟨_,sP⟩⟩
   refine Ad<|n_K ?_
   refine Ae rfl (fun c76=> ?_) (fun c76=> ?_)
   ·skip
    have ho1:C6 c (k+1)=(⟨(Ca c k 8).uses,(Ca c k 8).lost,(Ca c k 8).newest,k,(Ca c k 8).last,(Ca c k 8).at'⟩,true):=(by rw [hop];exact if_pos c76)
    refine Aa fun ops=>oM rfl<|oM rfl<|oM rfl<|oM rfl<|oM rfl ?_
    refine oR (Am rfl mM rfl) ?_
    refine oM rfl<|oM rfl<|oM rfl<|oM rfl<|oN rfl<|oF rfl ?_
    refine Ac rfl rfl uD rfl rfl rfl ?_
    refine oN rfl<|oF rfl ?_
    refine Ac rfl rfl uD rfl rfl rfl ?_
    refine oN rfl<|oF rfl ?_
    refine Ac rfl rfl uD rfl rfl rfl ?_
    refine oN rfl<|oF rfl ?_
    refine Ac rfl rfl uD rfl rfl rfl ?_
    refine oN rfl<|oF rfl ?_
    refine Ac rfl rfl uD rfl rfl rfl ?_
    refine oA rfl<|Ad<|Cq<|n_K<|Aa fun ops=> ?_
    refine oR (Bm rfl rfl (by omega)) ?_
    refine oM rfl<|Ad<|n_K ?_
    first | refine ⟨(k+1,t),⟨by simp only;omega,by rw [ho1];exact h1,h2,fun _=>hz⟩,by simp only;omega,(by rw [ho1];exact kP),kP,_,sP⟩ | refine ⟨(k+1,⟨b20,u,l,(Ca c k 8).newest,k,(Ca c k 8).last,(Ca c k 8).at'⟩),⟨by simp only;omega,by rw [ho1];show TS.mk _ _ _ _ _ _=_;rw [k1.1,k1.2],rfl,fun _=>hz⟩,by simp only;omega,(by rw [ho1];exact kP),kP,_,sP⟩
   ·skip
    have ho1:C6 c (k+1)=C6 c k:=(by rw [hop];refine (if_neg (by intro h;have h':=h.symm.trans c76;cases h')).trans ?_;rw [h1])
    refine Bd<|Cq<|n_K<|Aa fun ops=> ?_
    refine oR (Bm rfl rfl (by omega)) ?_
    refine oM rfl<|Ad<|n_K ?_
    first | refine ⟨(k+1,t),⟨by simp only;omega,by rw [ho1];exact h1,h2,fun _=>hz⟩,by simp only;omega,(by rw [ho1];exact kP),kP,_,sP⟩ | refine ⟨(k+1,⟨b20,u,l,(Ca c k 8).newest,k,(Ca c k 8).last,(Ca c k 8).at'⟩),⟨by simp only;omega,by rw [ho1];show TS.mk _ _ _ _ _ _=_;rw [k1.1,k1.2],rfl,fun _=>hz⟩,by simp only;omega,(by rw [ho1];exact kP),kP,_,sP⟩
 ·simp only [A3j,A1k] at c22
  have hk2:k=2:=(by omega)
  subst hk2
  have hz:B9 c 0 0=0:=h3 (by omega)
  refine E9<|x_K<|x_K<|Hv<|n_K<|Ag<|Ag<|Aa fun ops=>oM rfl<|oR (D6 rfl)<|Ad<|n_K ?_
  refine Ae rfl (fun c99=> ?_) (fun c99=> ?_)
  ·skip
   have hres:Dk c=(35,ts0):=(by unfold Dk;rw [if_neg (by rw [hz];simp),if_neg (by simpa using c99)])
   refine Ag<|Aa fun ops=>oA rfl<|oA rfl<|Ad<|n_K<|D3<|r_K ?_
   exact A9 (Cu Tryz.results129 (Af rfl) (Af rfl)) (by unfold V7;rw [if_neg (by rw [hres];decide),hres];exact ⟨rfl,rfl⟩) sP
  ·skip
   have hres:Dk c=(0,(C6 c 2).1):=(by unfold Dk;rw [if_neg (by rw [hz];simp),if_pos (by simpa using c99)])
   refine Bd<|n_K<|Ag<|Aa fun ops=>oM rfl<|oA rfl<|oA rfl<|Ad<|n_K<|D3 ?_
   exact A9 (Cu Tryz.results129 (Af rfl) (Af rfl)) (by unfold V7;rw [if_pos (by rw [hres])];exact ⟨t,by rw [h2],rfl,by rw [hres,h1]⟩) (by rw [Ej,h2];simp only [A3q,A25,A4h];exact sP)
theorem Aqz {c:Chip} (hb:2≤c.blocks.length∧c.blocks.length≤1000):Does Tryz.prog 129 [ptr c.aC] (chH c) (fun v H=>(∃ t:Tab,v= .tuple #[ptr t.b,.int .i64 0]∧H=Di c.aC t++(chH c++[])∧t.ts=(Dk c).2∧(Dk c).1=0)∨(v= .tuple #[.pointer none,.int .i64 (Dk c).1]∧H=chH c++[]∧(Dk c).1≠0)) :=
 (Aa0 hb).mono fun v H h=>by
  unfold V7 at h
  split at h
  ·rename_i h0;obtain ⟨t,h1,h2,h3⟩:=h;exact .inl ⟨t,h1,h2,h3,h0⟩
  ·rename_i h0;exact .inr ⟨h.1,h.2,h0⟩
def Aa1 (a:Nat) (c:Chip) (v:Value) (H:Hp):Prop :=
 (∃ t:Tab,v= .tuple #[ptr t.b,.int .i64 0]∧H=Di a t++(chH (Cw c).2.2++[])∧t.ts=(Cw c).2.1∧(Cw c).1=0)∨(v= .tuple #[.pointer none,.int .i64 (Cw c).1]∧H=chH (Cw c).2.2++[]∧(Cw c).1≠0)
theorem Alv {c:Chip} (hb:2≤c.blocks.length∧c.blocks.length≤1000):Does Tryz.prog 131 [ptr c.aC] (chH c) (Aa1 c.aC c):=by
 refine zF 124 Tryz.func131 ?_
 refine zC ?_
 refine zI rfl (Agy) ?_
 refine zC ?_
 refine Ae rfl (fun c14=> ?_) (fun c14=> ?_)
 ·skip
  have hm:¬ B9 c 0 0=0:=(by simpa using c14)
  have hres:Cw c=(B9 c 0 0,ts0,c):=(by unfold Cw;rw [if_pos hm])
  refine zC ?_
  exact zL (hR:=by right;rw [hres];exact ⟨rfl,rfl,hm⟩)
 ·skip
  have hm:B9 c 0 0=0:=(by simpa using c14)
  refine zC ?_
  refine Dj rfl rfl (fun b18=> ?_)
  refine zC ?_
  refine Ci rfl (Aqz hb) sP rfl (fun v21 Y21 h21=> ?_)
  rcases h21 with ⟨t',rfl,rfl,ht,ho⟩ | ⟨rfl,rfl,ho⟩
  all_goals
   refine A5 aQ ?_
   refine zC ?_
   refine Ae rfl (fun c25=> ?_) (fun c25=> ?_)
   ·skip
    try (exfalso;(simp at c25;exact ho c25);done)
    all_goals
     have hv:Ff c=(t'.version,t'.area,t'.next):=(by unfold Ff;rw [if_pos ho,← ht];rfl)
     rw [Ej]
     simp only [A3q,A25,A4h]
     refine Mn [0,1,2,3,4,5,7,8,9,11,12,13] [[(6,false),(10,false),(14,false)],[(15,false)],[(16,false)],[(17,true)],[(18,false)],[(19,false)],[(20,true)],[(21,false)],[(22,false)],[(23,true)]] (by kernel_rfl) ?_
     refine zC ?_
     refine zI rfl (Fj) ?_
     refine Ah (An rfl rfl (rfl)) rfl ?_
     refine Ah (An rfl rfl (rfl)) rfl ?_
     refine zC ?_
     refine zI rfl (Fj) ?_
     refine zC ?_
     refine I1 (G6 (α:=Int) (T:=tI)) ?_
     refine I1 (G6 (α:=Int) (T:=tI)) ?_
     have hfr:=V4 c
     refine At [0,5,8,52] kQ (fun (st:Nat×Sl Int×Sl Int)=>[(53,.int .i64 st.1)]) (fun st=>(b18,true,C (Id c.aC ⟨b18,st.2.1,st.2.2,(Ff c).1,(Ff c).2.1,(Ff c).2.2,0⟩) tTb)::(st.2.1.hp tI++(st.2.2.hp tI++(chH c++[])))) (fun st=>st.1≤c.blocks.length∧st.2.1.list=(Fx c (Dr c) st.1).1∧st.2.2.list=(Fx c (Dr c) st.1).2∧st.2.1.isOwn=true∧st.2.2.isOwn=true) (fun st=>c.blocks.length - st.1) ((0,.nil,.nil)) ⟨A5s _,rfl,rfl,rfl,rfl⟩ kP (by rw [hv];exact sP) ?_
     rintro ⟨i,u,l⟩ ⟨h0,h1,h2,h3,h4⟩
     simp only at h0 h1 h2 h3 h4
     have hlen:=V5 c (Dr c) i
     rw [← h1,← h2] at hlen
     refine zC ?_
     refine Ae rfl (fun c54=> ?_) (fun c54=> ?_)
     ·simp only [A3j,A1k] at c54
      refine zC ?_
      refine zI rfl (Yx (c:=c) rfl) ?_
      refine zC ?_
      refine Ae rfl (fun c56=> ?_) (fun c56=> ?_)
      ·skip
       have hf:Fx c (Dr c) (i+1)=(u.list,l.list++[(i:Int)]):=(by show (if Jh c i=true then _ else _)=_;rw [if_pos c56,h1,h2])
       refine zC ?_
       refine Ao rfl rfl rfl rfl (fun b67=> ?_)
       refine Az (s:=l) (new:=[(i:Int)]) (m:=1) rfl rfl pL h4 (Ch (r:=true) mM rfl) rfl rfl rfl rfl (by omega) rfl (fun s68 hs1 hs2=> ?_)
       refine zC ?_
       first | refine ⟨(i+1,u,l),⟨by simp only;omega,(A52 Prod.fst hf).symm,(A52 Prod.snd hf).symm,h3,h4⟩,by simp only;omega,lZ⟩ | refine ⟨(i+1,u,s68),⟨by simp only;omega,(A52 Prod.fst hf).symm,hs1.trans (A52 Prod.snd hf).symm,h3,hs2⟩,by simp only;omega,lZ⟩ | refine ⟨(i+1,s93,l),⟨by simp only;omega,hs1.trans (A52 Prod.fst hf).symm,(A52 Prod.snd hf).symm,hs2,h4⟩,by simp only;omega,lZ⟩
      ·skip
       have hf0:¬ Jh c i=true:=(by rw [c56];exact A2r)
       refine zC ?_
       refine Ae rfl (fun c72=> ?_) (fun c72=> ?_)
       ·skip
        have hf:Fx c (Dr c) (i+1)=(u.list++[(i:Int)],l.list):=(by show (if Jh c i=true then _ else _)=_;rw [if_neg hf0,← h1,← h2];exact if_pos c72)
        refine zC ?_
        refine Ao rfl rfl rfl rfl (fun b92=> ?_)
        refine Az (s:=u) (new:=[(i:Int)]) (m:=1) rfl rfl pL h3 (Ch (r:=true) mM rfl) rfl rfl rfl rfl (by omega) rfl (fun s93 hs1 hs2=> ?_)
        refine zC ?_
        first | refine ⟨(i+1,u,l),⟨by simp only;omega,(A52 Prod.fst hf).symm,(A52 Prod.snd hf).symm,h3,h4⟩,by simp only;omega,lZ⟩ | refine ⟨(i+1,u,s68),⟨by simp only;omega,(A52 Prod.fst hf).symm,hs1.trans (A52 Prod.snd hf).symm,h3,hs2⟩,by simp only;omega,lZ⟩ | refine ⟨(i+1,s93,l),⟨by simp only;omega,hs1.trans (A52 Prod.fst hf).symm,(A52 Prod.snd hf).symm,hs2,h4⟩,by simp only;omega,lZ⟩
       ·skip
        have hf:Fx c (Dr c) (i+1)=(u.list,l.list):=(by show (if Jh c i=true then _ else _)=_;rw [if_neg hf0,← h1,← h2];refine (if_neg (by intro h;have h':=h.symm.trans c72;cases h')).trans ?_;rw [h1,h2])
        refine zC ?_
        first | refine ⟨(i+1,u,l),⟨by simp only;omega,(A52 Prod.fst hf).symm,(A52 Prod.snd hf).symm,h3,h4⟩,by simp only;omega,lZ⟩ | refine ⟨(i+1,u,s68),⟨by simp only;omega,(A52 Prod.fst hf).symm,hs1.trans (A52 Prod.snd hf).symm,h3,hs2⟩,by simp only;omega,lZ⟩ | refine ⟨(i+1,s93,l),⟨by simp only;omega,hs1.trans (A52 Prod.fst hf).symm,(A52 Prod.snd hf).symm,hs2,h4⟩,by simp only;omega,lZ⟩
     ·simp only [A3j,A1k] at c54
      have hi:i=c.blocks.length:=(by omega)
      subst hi
      have hu:u.list=(D1 c).uses:=h1
      have hl:l.list=(D1 c).lost:=h2
      refine zC ?_
      refine zI rfl (Yx (c:=c) (i:=0) rfl) ?_
      refine sa ?_
      refine' Lw rfl rfl inferInstance rfl rfl rfl rfl rfl (fun hg100=> ?_) ?_
      rotate_left
      ·try (simp at hg100;show _)
       refine zC ?_
       refine zI rfl (Yx (c:=c) (i:=1) rfl) ?_
       exact Ad ⟨rfl,rfl,⟨_,sP⟩⟩
      refine zC ?_
      refine Ae rfl (fun c113=> ?_) (fun c113=> ?_)
      ·skip
       have hres:Cw c=(34,ts0,c):=(by unfold Cw;rw [if_neg (by rw [hm];simp),if_pos (by unfold Ic;rw [← hu];exact c113)])
       refine zC ?_
       exact zL (hR:=by right;rw [hres];exact ⟨rfl,rfl,by simp⟩)
      ·skip
       have hnb:¬ Ic c=true:=(by unfold Ic;rw [← hu];intro h;have h':=h.symm.trans c113;cases h')
       have hT:Tab.ts ⟨b18,u,l,(Ff c).1,(Ff c).2.1,(Ff c).2.2,0⟩=D1 c:=(by show TS.mk _ _ _ _ _ _=_;rw [hu,hl];rfl)
       refine zC ?_
       refine Ci rfl (Qk (c:=c) (a:=c.aC) (t:=⟨b18,u,l,(Ff c).1,(Ff c).2.1,(Ff c).2.2,0⟩) (u:=u) (l:=l) rfl (by omega) (by omega) hfr.2.1 hfr.1) sP rfl (fun v119 Y119 h119=> ?_)
       rcases h119 with ⟨t2,e1,e2,e3,rfl,rfl,e4,e5⟩ | ⟨e,rfl,e1,rfl,e4,e5⟩
       all_goals
        refine A5 aQ ?_
        refine zC ?_
        refine Ae rfl (fun c121=> ?_) (fun c121=> ?_)
        ·skip
         try (exfalso;(simp at c121);done)
         all_goals
          refine zC ?_
          exact A9 (Cu Tryz.results131 (Af rfl) (Af rfl)) (by rw [hT,hu,hl] at e4;have hres:Cw c=(e,ts0,(Bw (D1 c) (D1 c).uses (D1 c).lost c).2.2):=(by unfold Cw;rw [if_neg (by rw [hm];simp),if_neg hnb,if_pos (by rw [e4];exact e1),e4]);right;rw [hres];exact ⟨rfl,rfl,e1⟩) (by rw [hT,hu,hl];exact sP)
        ·skip
         try (exfalso;(simp at c121;exact e1 c121);done)
         all_goals
          refine zC ?_
          exact A9 (Cu Tryz.results131 (Af rfl) (Af rfl)) (by rw [hT,hu,hl] at e4 e5;have hres:Cw c=Bw (D1 c) (D1 c).uses (D1 c).lost c:=(by unfold Cw;rw [if_neg (by rw [hm];simp),if_neg hnb,if_neg (by rw [e4];simp)]);left;rw [hres];exact ⟨t2,by rw [e1],rfl,e5,e4⟩) (by rw [hT,hu,hl,Ej,e2,e3];simp only [A3q,A25,A4h];exact sP)
   ·skip
    try (exfalso;(simp at c25);done)
    all_goals
     have hv:Ff c=(0,0,0):=(by unfold Ff;rw [if_neg ho])
     refine zC ?_
     refine zI rfl (Fj) ?_
     refine Ah (An rfl rfl (rfl)) rfl ?_
     refine Ah (An rfl rfl (rfl)) rfl ?_
     refine zC ?_
     refine zI rfl (Fj) ?_
     refine zC ?_
     refine I1 (G6 (α:=Int) (T:=tI)) ?_
     refine I1 (G6 (α:=Int) (T:=tI)) ?_
     have hfr:=V4 c
     refine At [0,5,8,52] kQ (fun (st:Nat×Sl Int×Sl Int)=>[(53,.int .i64 st.1)]) (fun st=>(b18,true,C (Id c.aC ⟨b18,st.2.1,st.2.2,(Ff c).1,(Ff c).2.1,(Ff c).2.2,0⟩) tTb)::(st.2.1.hp tI++(st.2.2.hp tI++(chH c++[])))) (fun st=>st.1≤c.blocks.length∧st.2.1.list=(Fx c (Dr c) st.1).1∧st.2.2.list=(Fx c (Dr c) st.1).2∧st.2.1.isOwn=true∧st.2.2.isOwn=true) (fun st=>c.blocks.length - st.1) ((0,.nil,.nil)) ⟨A5s _,rfl,rfl,rfl,rfl⟩ kP (by rw [hv];exact sP) ?_
     rintro ⟨i,u,l⟩ ⟨h0,h1,h2,h3,h4⟩
     simp only at h0 h1 h2 h3 h4
     have hlen:=V5 c (Dr c) i
     rw [← h1,← h2] at hlen
     refine zC ?_
     refine Ae rfl (fun c54=> ?_) (fun c54=> ?_)
     ·simp only [A3j,A1k] at c54
      refine zC ?_
      refine zI rfl (Yx (c:=c) rfl) ?_
      refine zC ?_
      refine Ae rfl (fun c56=> ?_) (fun c56=> ?_)
      ·skip
       have hf:Fx c (Dr c) (i+1)=(u.list,l.list++[(i:Int)]):=(by show (if Jh c i=true then _ else _)=_;rw [if_pos c56,h1,h2])
       refine zC ?_
       refine Ao rfl rfl rfl rfl (fun b67=> ?_)
       refine Az (s:=l) (new:=[(i:Int)]) (m:=1) rfl rfl pL h4 (Ch (r:=true) mM rfl) rfl rfl rfl rfl (by omega) rfl (fun s68 hs1 hs2=> ?_)
       refine zC ?_
       first | refine ⟨(i+1,u,l),⟨by simp only;omega,(A52 Prod.fst hf).symm,(A52 Prod.snd hf).symm,h3,h4⟩,by simp only;omega,lZ⟩ | refine ⟨(i+1,u,s68),⟨by simp only;omega,(A52 Prod.fst hf).symm,hs1.trans (A52 Prod.snd hf).symm,h3,hs2⟩,by simp only;omega,lZ⟩ | refine ⟨(i+1,s93,l),⟨by simp only;omega,hs1.trans (A52 Prod.fst hf).symm,(A52 Prod.snd hf).symm,hs2,h4⟩,by simp only;omega,lZ⟩
      ·skip
       have hf0:¬ Jh c i=true:=(by rw [c56];exact A2r)
       refine zC ?_
       refine Ae rfl (fun c72=> ?_) (fun c72=> ?_)
       ·skip
        have hf:Fx c (Dr c) (i+1)=(u.list++[(i:Int)],l.list):=(by show (if Jh c i=true then _ else _)=_;rw [if_neg hf0,← h1,← h2];exact if_pos c72)
        refine zC ?_
        refine Ao rfl rfl rfl rfl (fun b92=> ?_)
        refine Az (s:=u) (new:=[(i:Int)]) (m:=1) rfl rfl pL h3 (Ch (r:=true) mM rfl) rfl rfl rfl rfl (by omega) rfl (fun s93 hs1 hs2=> ?_)
        refine zC ?_
        first | refine ⟨(i+1,u,l),⟨by simp only;omega,(A52 Prod.fst hf).symm,(A52 Prod.snd hf).symm,h3,h4⟩,by simp only;omega,lZ⟩ | refine ⟨(i+1,u,s68),⟨by simp only;omega,(A52 Prod.fst hf).symm,hs1.trans (A52 Prod.snd hf).symm,h3,hs2⟩,by simp only;omega,lZ⟩ | refine ⟨(i+1,s93,l),⟨by simp only;omega,hs1.trans (A52 Prod.fst hf).symm,(A52 Prod.snd hf).symm,hs2,h4⟩,by simp only;omega,lZ⟩
       ·skip
        have hf:Fx c (Dr c) (i+1)=(u.list,l.list):=(by show (if Jh c i=true then _ else _)=_;rw [if_neg hf0,← h1,← h2];refine (if_neg (by intro h;have h':=h.symm.trans c72;cases h')).trans ?_;rw [h1,h2])
        refine zC ?_
        first | refine ⟨(i+1,u,l),⟨by simp only;omega,(A52 Prod.fst hf).symm,(A52 Prod.snd hf).symm,h3,h4⟩,by simp only;omega,lZ⟩ | refine ⟨(i+1,u,s68),⟨by simp only;omega,(A52 Prod.fst hf).symm,hs1.trans (A52 Prod.snd hf).symm,h3,hs2⟩,by simp only;omega,lZ⟩ | refine ⟨(i+1,s93,l),⟨by simp only;omega,hs1.trans (A52 Prod.fst hf).symm,(A52 Prod.snd hf).symm,hs2,h4⟩,by simp only;omega,lZ⟩
     ·simp only [A3j,A1k] at c54
      have hi:i=c.blocks.length:=(by omega)
      subst hi
      have hu:u.list=(D1 c).uses:=h1
      have hl:l.list=(D1 c).lost:=h2
      refine zC ?_
      refine zI rfl (Yx (c:=c) (i:=0) rfl) ?_
      refine sa ?_
      refine' Lw rfl rfl inferInstance rfl rfl rfl rfl rfl (fun hg100=> ?_) ?_
      rotate_left
      ·try (simp at hg100;show _)
       refine zC ?_
       refine zI rfl (Yx (c:=c) (i:=1) rfl) ?_
       exact Ad ⟨rfl,rfl,⟨_,sP⟩⟩
      refine zC ?_
      refine Ae rfl (fun c113=> ?_) (fun c113=> ?_)
      ·skip
       have hres:Cw c=(34,ts0,c):=(by unfold Cw;rw [if_neg (by rw [hm];simp),if_pos (by unfold Ic;rw [← hu];exact c113)])
       refine zC ?_
       exact zL (hR:=by right;rw [hres];exact ⟨rfl,rfl,by simp⟩)
      ·skip
       have hnb:¬ Ic c=true:=(by unfold Ic;rw [← hu];intro h;have h':=h.symm.trans c113;cases h')
       have hT:Tab.ts ⟨b18,u,l,(Ff c).1,(Ff c).2.1,(Ff c).2.2,0⟩=D1 c:=(by show TS.mk _ _ _ _ _ _=_;rw [hu,hl];rfl)
       refine zC ?_
       refine Ci rfl (Qk (c:=c) (a:=c.aC) (t:=⟨b18,u,l,(Ff c).1,(Ff c).2.1,(Ff c).2.2,0⟩) (u:=u) (l:=l) rfl (by omega) (by omega) hfr.2.1 hfr.1) sP rfl (fun v119 Y119 h119=> ?_)
       rcases h119 with ⟨t2,e1,e2,e3,rfl,rfl,e4,e5⟩ | ⟨e,rfl,e1,rfl,e4,e5⟩
       all_goals
        refine A5 aQ ?_
        refine zC ?_
        refine Ae rfl (fun c121=> ?_) (fun c121=> ?_)
        ·skip
         try (exfalso;(simp at c121);done)
         all_goals
          refine zC ?_
          exact A9 (Cu Tryz.results131 (Af rfl) (Af rfl)) (by rw [hT,hu,hl] at e4;have hres:Cw c=(e,ts0,(Bw (D1 c) (D1 c).uses (D1 c).lost c).2.2):=(by unfold Cw;rw [if_neg (by rw [hm];simp),if_neg hnb,if_pos (by rw [e4];exact e1),e4]);right;rw [hres];exact ⟨rfl,rfl,e1⟩) (by rw [hT,hu,hl];exact sP)
        ·skip
         try (exfalso;(simp at c121;exact e1 c121);done)
         all_goals
          refine zC ?_
          exact A9 (Cu Tryz.results131 (Af rfl) (Af rfl)) (by rw [hT,hu,hl] at e4 e5;have hres:Cw c=Bw (D1 c) (D1 c).uses (D1 c).lost c:=(by unfold Cw;rw [if_neg (by rw [hm];simp),if_neg hnb,if_neg (by rw [e4];simp)]);left;rw [hres];exact ⟨t2,by rw [e1],rfl,e5,e4⟩) (by rw [hT,hu,hl,Ej,e2,e3];simp only [A3q,A25,A4h];exact sP)
end
section
open Go.K
def Ah3 (t:TS) (c:Chip) (b:Int) (r:Int×TS×Chip):Prop :=
 (D8 t c.blocks.length b=true→∃ l,l.Perm (t.lost++[b])∧r=Bw t t.uses l c)∧(D8 t c.blocks.length b=false→r=(1,t,c))
def Av4 (t:TS) (c:Chip) (i b:Int) (r:Int×TS×Chip):Prop :=
 (((atT t i).2 && D8 t c.blocks.length b)=true→∃ l,l.Perm (t.lost++[at0 t.uses i])∧r=Bw t (t.uses.set i.toNat b) l c)∧(((atT t i).2 && D8 t c.blocks.length b)=false→r=(1,t,c))
def Atg (a:Nat) (t:Tab) (D:Int×TS×Chip→Prop) (v:Value) (H:Hp):Prop :=
 ∃ (t':Tab) (e:Int) (c':Chip),t'.b=t.b∧v= .int .i64 e∧H=Di a t'++(chH c'++[])∧c'.aC=a∧D (e,t'.ts,c')
theorem Ac6 {a:Nat} {t:Tab} {c:Chip} {D:Int×TS×Chip→Prop} (ha:c.aC=a) (h:D (1,t.ts,c)):Atg a t D (.int .i64 1) (Di a t++(chH c++[])):=⟨t,1,c,rfl,rfl,rfl,ha,h⟩
theorem Ac7 {a:Nat} {t:Tab} {c:Chip} {u l:List Int} {D:Int×TS×Chip→Prop} {v:Value} {H:Hp} (ha:c.aC=a) (h:Aiz a t c u l v H) (hD:∀ l',l'.Perm l→D (Bw t.ts u l' c)):Atg a t D v H:=by
 obtain ⟨t',l',h1,h2,rfl,rfl,h3⟩:=h
 refine ⟨t',_,_,h1,rfl,rfl,(Ac5 _ _ _ _).trans ha,?_⟩
 rw [h3]
 exact hD l' h2
section
variable {c:Chip} {a:Nat} {t:Tab}
theorem Ac8 (ha:c.aC=a) {b:Int} (hu:t.u.list.length≤1000) (hl:t.l.list.length≤11) (hn:0≤t.next) (har:0≤t.area∧t.area≤1):Does Tryz.prog 232 [ptr t.b,.int .i64 b] (Di a t++(chH c++[])) (Atg a t (Ah3 t.ts c b)) :=
 (Aqy ha hu hl hn har).mono fun v H h=>by
  split at h
  ·rename_i hs
   exact Ac7 ha h (fun l' hp=>⟨fun _=>⟨l',hp,rfl⟩,fun h2=>by rw [hs] at h2;cases h2⟩)
  ·rename_i hs
   obtain ⟨rfl,rfl⟩:=h
   exact Ac6 ha ⟨fun h2=>absurd h2 hs,fun _=>rfl⟩
theorem Ac9 (ha:c.aC=a) {i b:Int} (hu:t.u.list.length≤1000) (hl:t.l.list.length≤11) (hn:0≤t.next) (har:0≤t.area∧t.area≤1):Does Tryz.prog 231 [ptr t.b,.int .i64 i,.int .i64 b] (Di a t++(chH c++[])) (Atg a t (Av4 t.ts c i b)) :=
 (Au7 ha hu hl hn har).mono fun v H h=>by
  split at h
  ·rename_i hs
   exact Ac7 ha h (fun l' hp=>⟨fun _=>⟨l',hp,rfl⟩,fun h2=>by rw [hs] at h2;cases h2⟩)
  ·rename_i hs
   obtain ⟨rfl,rfl⟩:=h
   exact Ac6 ha ⟨fun h2=>absurd h2 hs,fun _=>rfl⟩
end
end
section
open Go.K
instance:Cel Bool:=⟨1,fun b=>[.bool b],fun _=>rfl,fun _=>rfl⟩
structure RTab where
 b:Nat
 u:Sl Int
 l:Sl Bool
def atB (l:List Bool) (i:Int):Bool:=l.getD i.toNat false
section
variable {r:RTab}
end
end
section
open Go.K
def Ha (n:Nat) (l:List Int):List Bool:=(List.range n).map fun i=>E4 l (i:Nat)
theorem Qr (n:Nat) (l:List Int):(Ha n l).length=n:=by simp [Ha]
def Ox (l:List Bool) (size:Int):Nat→List Int
 | 0=>[]
 | i+1=>if atB l (i:Nat)=true then Ox l size i else if (decide (2≤(i:Int)) && decide (((Ox l size i).length:Int)<size))=true then Ox l size i++[(i:Int)] else Ox l size i
def Wz (l:List Bool):Bool:=(atB l 0 || atB l 1) || decide (((Ox l ((l.length:Int) - 6) l.length).length:Int)<(l.length:Int) - 6)
section
variable {r:RTab}
end
end
section
open Go.K
theorem Atd {pp:Nat} {n:Int} {s:Sl Int} {T:TypeId}:Does Tryz.prog 47 [ptr pp,.int .i64 n,s.val] ((pp,true,C [.bool false,.int .i64 (-1),.int .i64 0] tPw)::(s.hp T++[]))
  (fun v H=>(∃ aC aB,v= .tuple #[ptr aC,.int .i64 0]∧H=chH (Ds (-1) 0 pp aC aB n.toNat s.list)++(s.hp T++[])∧Px n s.list=true)∨(v= .tuple #[.pointer none,.int .i64 1]∧H=(s.hp T++[])∧Px n s.list=false)) :=
 (Axt (off:=false) (after:= -1) (keep:=0)).mono fun v H h=>by
  unfold Aot at h
  split at h
  ·rename_i h0;obtain ⟨aC,aB,h1,h2⟩:=h;exact .inl ⟨aC,aB,h1,h2,h0⟩
  ·rename_i h0;exact .inr ⟨h.1,h.2,by simpa using h0⟩
end
section
open Go.K
section
variable {r:RTab} {t:Tab} {c:Chip} {a:Nat}
structure RelT (t:TS) (u:List Int) (l:List Bool) (n:Nat):Prop where
 uu:u=t.uses
 ll:l.length=n
 lo:∀ b:Int,0≤b→b<n→atB l b=E4 t.lost b
 ln:t.lost.Nodup
 lr:∀ x∈t.lost,0≤x∧x<n
theorem Wj:∀ (l:List Bool) (k:Nat) (s:List Int),s.Nodup→(∀ x∈s,(k:Int)≤x∧x<k+l.length)→(∀ i (h:i<l.length),l[i]=E4 s ((k+i:Nat):Int))→l.countP id=s.length
 | [],k,s,hn,hr,_=>by
  cases s with
  | nil=>rfl
  | cons x s=>have:=hr x (.head _);simp at this;omega
 | b::l,k,s,hn,hr,hb=>by
  have h0:=hb 0 (by simp)
  simp only [List.getElem_cons_zero,A5e] at h0
  have ih:=Wj l (k+1) (s.erase (k:Int)) (hn.erase _) (fun x hx=>by
   have h1:=(hn.mem_erase_iff).1 hx
   have h2:=hr x h1.2
   have h3:=h1.1
   simp only [A3v] at h2
   push_cast
   omega) (fun i hi=>by
   have h1:=hb (i+1) (by simp;omega)
   simp only [List.getElem_cons_succ] at h1
   rw [h1,show ((k+1+i:Nat):Int)=((k+(i+1):Nat):Int) by omega]
   cases hh:E4 s ((k+(i+1):Nat):Int) with
   | true =>
    symm
    apply has_mem.2
    exact (hn.mem_erase_iff).2 ⟨by omega,has_mem.1 hh⟩
   | false =>
    symm
    cases h2:E4 (s.erase (k:Int)) ((k+(i+1):Nat):Int) with
    | false=>rfl
    | true =>
     have:=has_mem.2 ((hn.mem_erase_iff).1 (has_mem.1 h2)).2
     rw [hh] at this
     cases this)
  rw [List.countP_cons,ih]
  cases b with
  | true =>
   have hm:=has_mem.1 h0.symm
   have:=A1f hm
   have:=A1p hm
   simp
   omega
  | false =>
   have hm:(k:Int)∉s:=fun h=>by rw [has_mem.2 h] at h0;cases h0
   rw [List.erase_of_not_mem hm]
   simp
theorem RelT.count {t:TS} {u:List Int} {l:List Bool} {n:Nat} (h:RelT t u l n):l.countP id=t.lost.length :=
 Wj l 0 t.lost h.ln (fun x hx=>by have:=h.lr x hx;rw [h.ll];omega) (fun i hi=>by
  have:=h.lo (i:Nat) (by omega) (by rw [h.ll] at hi;omega)
  rw [A5k,← this]
  simp [atB,A00,hi])
section
variable {u u1 u2:List Int} {l l1 l2:List Bool} {o:OpV} {b:Int}
end
end
end
section
open Go.K
structure WF (n:Nat) (u l:List Int):Prop where
 n1:16≤n
 n2:n≤40
 un:u.Nodup
 len:u.length+6=n
 us:∀ x∈u,2≤x∧x<n∧x∉l
 ln:l.Nodup
 ls:∀ x∈l,2≤x∧x<n
theorem WF.lost4 {n:Nat} {u l:List Int} (h:WF n u l):l.length≤4:=by
 have h1:=h.n1
 have:=Hx (l:=u++l) (m:=(List.range (n - 2)).map fun i=>((i:Nat):Int)+2) (by
  rw [A3d]
  exact ⟨h.un,h.ln,fun a ha b hb e=>by subst e;exact (h.us a ha).2.2 hb⟩) (fun x hx=>by
   have hr:2≤x∧x<n:=by
    rcases A4f.1 hx with h1 | h1
    ·have:=h.us x h1;exact ⟨this.1,this.2.1⟩
    ·exact h.ls x h1
   exact A5b.2 ⟨(x - 2).toNat,A4v.2 (by omega),by omega⟩)
 have h2:=h.len
 simp at this
 omega
theorem WF.okP {n:Nat} {u l:List Int} (h:WF n u l):OkP n u l :=
 ⟨h.n1,h.n2,h.len,by have:=h.lost4;omega,fun x hx=>by have:=h.us x hx;have:=h.n2;omega,fun x hx=>by have:=h.ls x hx;have:=h.n2;omega⟩
theorem Abn {t:TS} {n:Nat} {b:Int} (h:D8 t n b=true):2≤b∧b<n∧b∉t.uses∧b∉t.lost:=by
 unfold D8 at h
 simp only [A3n,A23,A3j] at h
 obtain ⟨⟨⟨h1,h2⟩,h3⟩,h4⟩:=h
 exact ⟨h1,h2,fun e=>(by rw [has_mem.2 e] at h3;cases h3),fun e=>(by rw [has_mem.2 e] at h4;cases h4)⟩
theorem WF.lose {n:Nat} {t:TS} {b:Int} {l:List Int} (h:WF n t.uses t.lost) (hb:D8 t n b=true) (hp:l.Perm (t.lost++[b])):WF n t.uses l:=by
 obtain ⟨b1,b2,b3,b4⟩:=Abn hb
 have hm:∀ x,x∈l↔x∈t.lost∨x=b:=fun x=>by rw [hp.mem_iff];simp
 refine ⟨h.n1,h.n2,h.un,h.len,fun x hx=> ?_,hp.nodup_iff.2 (Lm h.ln b4),fun x hx=> ?_⟩
 ·obtain ⟨h1,h2,h4⟩:=h.us x hx
  exact ⟨h1,h2,fun e=>by rcases (hm x).1 e with e | e;exact h4 e;subst e;exact b3 hx⟩
 ·rcases (hm x).1 hx with e | e
  ·exact h.ls x e
  ·subst e;exact ⟨b1,b2⟩
theorem Lr {l:List Int} {i:Int} (hi:0≤i∧i<l.length):at0 l i∈l:=A2a (Ih hi.1 hi.2)
theorem WF.swap {n:Nat} {t:TS} {b i:Int} {l:List Int} (h:WF n t.uses t.lost) (hi:0≤i∧i<t.uses.length) (hb:D8 t n b=true) (hp:l.Perm (t.lost++[at0 t.uses i])):WF n (t.uses.set i.toNat b) l:=by
 obtain ⟨b1,b2,b3,b4⟩:=Abn hb
 have hlt:i.toNat<t.uses.length:=by omega
 have hat:at0 t.uses i=t.uses[i.toNat]:=by simp [at0,A00,hlt]
 rw [hat] at hp
 have hu:=h.us _ (A3t hlt)
 have hm:∀ x,x∈l↔x∈t.lost∨x=t.uses[i.toNat]:=fun x=>by rw [hp.mem_iff];simp
 refine ⟨h.n1,h.n2,Akm h.un b3,by rw [A4d];exact h.len,fun x hx=> ?_,hp.nodup_iff.2 (Lm h.ln hu.2.2),fun x hx=> ?_⟩
 ·rcases Atf h.un hlt hx with e | ⟨e,hne⟩
  ·subst e
   exact ⟨b1,b2,fun e=>by rcases (hm _).1 e with e | e;exact b4 e;exact b3 (by rw [e];exact A3t hlt)⟩
  ·obtain ⟨h1,h2,h4⟩:=h.us x e
   exact ⟨h1,h2,fun e=>by rcases (hm x).1 e with e | e;exact h4 e;exact hne e⟩
 ·rcases (hm x).1 hx with e | e
  ·exact h.ls x e
  ·subst e;exact ⟨hu.1,hu.2.1⟩
structure JI (c:Chip) (t:TS) (u:List Int) (l:List Bool) (n k:Nat):Prop where
 up:Up c
 ti:TI c t
 rel:RelT t u l n
 wf:WF n t.uses t.lost
 len:c.blocks.length=n
 ver:t.version.toNat≤k+1
 cnt:Cnt c (1000*k+1000)
 pf:c.pf.list=[]
 wfl:c.wf.list=[]
 af:c.after<0
section
variable {aP aC aB n:Nat} {bad:List Int}
theorem No {i:Int} (h:0≤i∧i<n):atB (Ha n bad) i=E4 bad i:=by
 have:i.toNat<(Ha n bad).length:=by rw [Qr];omega
 simp only [atB,A00,A1d this,A32]
 simp only [Ha,List.getElem_map,List.getElem_range]
 congr 1;omega
theorem Abo (hn:2≤n) (size:Int):∀ i,i≤n→Ox (Ha n bad) size i=(Fx (Ds (-1) 0 aP aC aB n bad) size i).1
 | 0,_=>rfl
 | i+1,h=>by
  have ih:=Abo hn size i (by omega)
  have hb:Jh (Ds (-1) 0 aP aC aB n bad) (i:Nat)=atB (Ha n bad) (i:Nat):=by rw [Pu (by omega),No (by omega)]
  unfold Ox Fx
  simp only []
  rw [hb,ih]
  split
  ·rfl
  ·split <;> rfl
theorem Wk (hn:16≤n∧n≤40):Dr (Ds (-1) 0 aP aC aB n bad)=(n:Int) - 6:=by
 unfold Dr
 rw [Ho,Ib (x:=(n:Int) - 2) (by omega),Ib (by omega)]
 omega
theorem Aex (hn:16≤n∧n≤40):(D1 (Ds (-1) 0 aP aC aB n bad)).uses=Ox (Ha n bad) ((n:Int) - 6) n:=by
 rw [Akk,Wk hn,Ho,Abo (aP:=aP) (aC:=aC) (aB:=aB) (by omega) _ n (A5q _)]
theorem Wl (hn:16≤n∧n≤40):Ic (Ds (-1) 0 aP aC aB n bad)=Wz (Ha n bad):=by
 unfold Ic Wz
 rw [Pu (by omega),Pu (by omega),Wk hn,Aex hn,Qr,No (by omega),No (by omega)]
theorem Ayw (hn:16≤n∧n≤40) (hx:Wz (Ha n bad)=false):∃ t c',Cw (Ds (-1) 0 aP aC aB n bad)=(0,t,c')∧JI c' t (Ox (Ha n bad) ((n:Int) - 6) n) (Ha n bad) n 0∧c'.aC=aC∧c'.aP=aP:=by
 have hnb:Ic (Ds (-1) 0 aP aC aB n bad)=false:=(Wl hn).trans hx
 have hI:=Azn (Ds (-1) 0 aP aC aB n bad) (size:=(n:Int) - 6) (by omega) n
 have hu:=Aex (aP:=aP) (aC:=aC) (aB:=aB) (bad:=bad) hn
 have hl:(D1 (Ds (-1) 0 aP aC aB n bad)).lost=(Fx (Ds (-1) 0 aP aC aB n bad) ((n:Int) - 6) n).2:=by rw [Akl,Wk hn,Ho]
 rw [← Abo (by omega) _ n (A5q _),← hl] at hI
 obtain ⟨c',h1,h2⟩:=Oj (after:= -1) (keep:=0) (aP:=aP) (aC:=aC) (aB:=aB) (n:=n) (bad:=bad) (by omega) (by omega) hnb
 rw [hu] at h1 h2
 generalize (D1 (Ds (-1) 0 aP aC aB n bad)).lost=lost at *
 generalize hus:Ox (Ha n bad) ((n:Int) - 6) n=us at *
 have hbd:∀ x:Int,0≤x→x<n→Jh (Ds (-1) 0 aP aC aB n bad) x=E4 bad x:=fun x h2 h3=>Pu (by omega)
 have hx2:E4 bad 0=false∧E4 bad 1=false∧¬ ((us.length:Int)<(n:Int) - 6):=by
  unfold Wz at hx
  rw [Qr,hus,No (by omega),No (by omega)] at hx
  simp only [A15,A1k] at hx
  exact ⟨hx.1.1,hx.1.2,hx.2⟩
 obtain ⟨hb0,hb1,hlen⟩:=hx2
 have hlo:∀ x∈lost,2≤x∧x<n:=fun x hx=>by
  have:=hI.ls x hx
  rw [hbd x this.1 this.2.1] at this
  refine ⟨?_,this.2.1⟩
  rcases (show x<2∨2≤x by omega) with h | h
  ·rcases (show x=0∨x=1 by omega) with rfl | rfl
   ·rw [hb0] at this;exact absurd this.2.2 (by simp)
   ·rw [hb1] at this;exact absurd this.2.2 (by simp)
  ·exact h
 have hw:WF n us lost:=⟨hn.1,hn.2,hI.un,by have:=hI.len;omega,fun x hx=>by
  have:=hI.us x hx
  exact ⟨this.1,this.2.1,fun h=>by have h5:=(hI.ls x h).2.2;rw [this.2.2] at h5;cases h5⟩,hI.ln,hlo⟩
 have hrel:RelT ⟨us,lost,1,0,1,0⟩ us (Ha n bad) n:=⟨rfl,Qr _ _,fun b h3 h4=>by
  rw [No ⟨h3,h4⟩]
  show E4 bad b=E4 lost b
  have hb:=hbd b h3 h4
  cases hh:E4 bad b with
  | true=>rw [hh] at hb;exact (has_mem.2 (hI.lb b h3 h4 hb)).symm
  | false =>
   rw [hh] at hb
   cases h5:E4 lost b with
   | false=>rfl
   | true=>(have:=(hI.ls b (has_mem.1 h5)).2.2;rw [hb] at this;cases this),hI.ln,fun x hx=>by have:=hlo x hx;omega⟩
 have hblk:∀ k<2,(Ds (-1) 0 aP aC aB n bad).blocks[k]? =some (Hb false):=fun k hk=>by
  rw [Iq (by omega)]
  rcases (show k=0∨k=1 by omega) with rfl | rfl
  ·rw [show (((0:Nat):Int))=0 from rfl,hb0]
  ·rw [show (((1:Nat):Int))=1 from rfl,hb1]
 have hlen':c'.blocks.length=n:=by rw [h2,Ah2,Ho]
 have hc0:c'.blocks[0]? =some ⟨(Hb false).pages.setIfInBounds 0 (Ed 1 n us lost),1,false⟩:=by
  rw [h2]
  exact U5 (by rw [Ho];omega)
 have hc1:c'.blocks[1]? =some (Hb false):=by
  rw [h2,Ri (by omega)]
  exact hblk 1 (by omega)
 have hnp:∀ (j:Nat) (h:j<8),(Hb false).pages[j]=Ar:=fun j h=>by simp [Hb]
 have hp0:∀ (j:Nat) (h:j<8),((Hb false).pages.setIfInBounds 0 (Ed 1 n us lost))[j]=if 0=j then Ed 1 n us lost else Ar:=fun j h=>by
  rw [A0u]
  split
  ·rfl
  ·exact hnp j h
 have hrp:RP n (Ed 1 n us lost)=some (1,us,lost):=Aid hw.okP
 have hg:c'.off=false∧c'.dead=false∧c'.out=false∧c'.after<0∧c'.pf.list=[]∧c'.wf.list=[]∧c'.pc=1∧c'.wc=0∧c'.aC=aC∧c'.aP=aP:=by
  rw [h2]
  refine ⟨rfl,rfl,rfl,by show (-1:Int)<0;omega,rfl,rfl,?_,rfl,rfl,rfl⟩
  show w64 (0+1)=1
  exact Ib (by omega)
 obtain ⟨g1,g2,g3,g4,g5,g6,g7,g8,g9,g10⟩:=hg
 refine ⟨_,c',h1,⟨⟨g1,g2,g3⟩,⟨0,rfl,⟨?_,by omega,fun k hk=> ?_,fun k hk b hb j hj w u l hr=> ?_,?_⟩,_,hc0,(show (0:Int)≤1 by decide),(show (1:Int)≤1 by decide)⟩,hrel,hw,hlen',(show (1#64).toNat≤0+1 by decide),⟨by rw [g7];omega,by rw [g8];omega⟩,g5,g6,g4⟩,g9,g10⟩
 ·rw [hlen'];exact hw.okP
 ·rcases (show k=0∨k=1 by omega) with rfl | rfl
  ·exact ⟨_,hc0,⟨⟨by simp,by simp⟩,fun j hj hle=>by simp only at hle ⊢;rw [hp0 j hj,if_neg (by omega)]⟩,rfl⟩
  ·exact ⟨_,hc1,⟨⟨by simp [Hb],by simp [Hb]⟩,fun j hj _=>hnp j hj⟩,rfl⟩
 ·rw [hlen'] at hr
  rcases (show k=0∨k=1 by omega) with rfl | rfl
  ·rw [hc0] at hb
   cases hb
   simp only at hr
   rw [hp0 j hj] at hr
   split at hr
   ·rw [hrp] at hr
    simp only [A3h,A48] at hr
    obtain ⟨rfl,rfl,rfl⟩:=hr
    exact ⟨A5q _,fun _=>⟨rfl,rfl⟩⟩
   ·rw [Mx] at hr;cases hr
  ·rw [hc1] at hb
   cases hb
   rw [hnp j hj,Mx] at hr;cases hr
 ·refine ⟨_,hc0,0,by omega,?_⟩
  rw [hlen']
  simp only
  rw [hp0 0 (by omega),if_pos rfl]
  exact hrp
end
end
section
open Go.K
theorem Ary {c:Chip} {a:Nat} (ha:c.aC=a) (hb:2≤c.blocks.length∧c.blocks.length≤1000):Does Tryz.prog 131 [ptr a] (chH c) (Aa1 a c):=by subst ha;exact Alv hb
theorem Ayx {c:Chip} {a:Nat} (ha:c.aC=a) (hb:2≤c.blocks.length∧c.blocks.length≤1000) {t:TS} (ho:Dk c=(0,t)):Does Tryz.prog 129 [ptr a] (chH c) (fun v H=>∃ tb:Tab,v= .tuple #[ptr tb.b,.int .i64 0]∧H=Di a tb++(chH c++[])∧tb.ts=t):=by
 subst ha
 refine (Aa0 hb).mono fun v H h=> ?_
 unfold V7 at h
 rw [ho,if_pos rfl] at h
 exact h
end
section
open Go.K
def PgP (c:Chip) (S:Pg→Prop):Prop:=∀ a<2,∀ b,c.blocks[a]? =some b→∀ (j:Nat) (h:j<8),S b.pages[j]
def PlB (n:Nat) (p:Pg):Prop:=p=Ar∨∃ w u l,OkP n u l∧p=Ed w n u l
end
section
open Go.K
instance ent38:Ent Tryz.prog 38:=⟨fun _ _=>by kernel_rfl⟩
theorem Avu {c:Chip}:Does Tryz.prog 38 [ptr c.aP] (chH c) (Is (.tuple #[]) (chH { c with off:=false,after:= -1 })):=by
 rw [Eg,Eg]
 refine zF 8 Tryz.func38 ?_
 refine zC ?_
 exact zSN
section
variable {P:Program} {E:Env} {H:Hp} {t u:TypeId} {x y:Operand} {i m:Nat}
theorem Qs (hx:ev E x=some (.int .i64 (i:Nat))) (hy:ev E y=some (.int .i64 (m:Nat))) (hm:m≠0) (hi:i<9223372036854775808):Rd P E H (.binOp .quo t x y u) (.int .i64 ((i / m:Nat):Int)):=fun a w d ty pos af g h1 h2=>by
 have e1:=Au h1 hx
 have e2:=Au h1 hy
 have e3:¬ (m:Int)=0:=by omega
 have e4:IntKind.i64.wrap ((i:Int).tdiv (m:Int))=((i / m:Nat):Int):=by
  rw [Int.tdiv_eq_ediv_of_nonneg (by omega),← Int.natCast_ediv]
  exact Cz (by have:=Nat.div_le_self i m;have h0:=A2t (i / m);omega)
 simp only [execOp,e1,e2,eqGuard,binOp,Op.intDiv,if_neg e3,e4]
 simp
theorem Np (hx:ev E x=some (.int .i64 (i:Nat))) (hy:ev E y=some (.int .i64 (m:Nat))) (hm:m≠0):Rd P E H (.binOp .rem t x y u) (.int .i64 ((i % m:Nat):Int)):=fun a w d ty pos af g h1 h2=>by
 have e1:=Au h1 hx
 have e2:=Au h1 hy
 have e3:¬ (m:Int)=0:=by omega
 have e4:(i:Int).tmod (m:Int)=((i % m:Nat):Int):=by
  rw [Int.tmod_eq_emod_of_nonneg (by omega),← Int.natCast_emod]
 simp only [execOp,e1,e2,eqGuard,binOp,Op.intDiv,if_neg e3,e4]
 simp
end
end
section
open Go.K
theorem Avv {pp:Nat} {n:Nat} (hn:Px n []=true):Does Tryz.prog 47 [ptr pp,.int .i64 (n:Nat),.slice none 0 0] [(pp,true,C [.bool false,.int .i64 (-1),.int .i64 0] tPw)]
  (fun v H=>∃ aC aB,v= .tuple #[ptr aC,.int .i64 0]∧H=chH (Ds (-1) 0 pp aC aB n [])++[]):=by
 have h:=Atd (pp:=pp) (n:=(n:Int)) (s:= .nil) (T:=tI)
 rw [Sl.hp_nil] at h
 refine h.mono fun v H hh=> ?_
 rcases hh with ⟨aC,aB,h1,h2,_⟩ | ⟨_,_,h3⟩
 ·exact ⟨aC,aB,h1,h2⟩
 ·rw [show (Sl.nil:Sl Int).list=[] from rfl,hn] at h3;cases h3
theorem Az8 {pp aC aB n:Nat} {bad:List Int} {t:TS} {c':Chip} {k:Nat} {u:List Int} {l:List Bool} (hn:16≤n∧n≤40) (hx:Wz (Ha n bad)=false) (hf:Cw (Ds (-1) 0 pp aC aB n bad)=(0,t,c')) (hJ:JI c' t u l n k):PgP c' (PlB n):=by
 obtain ⟨c2,h1,h2⟩:=Oj (after:= -1) (keep:=0) (aP:=pp) (aC:=aC) (aB:=aB) (n:=n) (bad:=bad) (by omega) (by omega) ((Wl hn).trans hx)
 rw [h1] at hf
 simp only [A48] at hf
 obtain ⟨_,rfl,rfl⟩:=hf
 have hok:=hJ.wf.okP
 generalize (D1 (Ds (-1) 0 pp aC aB n bad)).uses=us at *
 generalize (D1 (Ds (-1) 0 pp aC aB n bad)).lost=lost at *
 intro a ha b hb j hj
 rw [h2] at hb
 rcases (show a=0∨a=1 by omega) with rfl | rfl
 ·rw [U5 (by rw [Ho];omega)] at hb
  cases hb
  simp only
  rw [A0u]
  split
  ·exact .inr ⟨1,us,lost,hok,rfl⟩
  ·refine .inl ?_
   simp [Hb]
 ·rw [Ri (by omega),Iq (by omega)] at hb
  cases hb
  refine .inl ?_
  simp [Hb]
end
section
open Go.K
def onC (c:Chip):Chip:={ c with off:=false,after:= -1 }
def Wy (c:Chip) (a k:Int):Chip:={ c with after:=max a (-1),keep:=k }
theorem Hold.same {c c':Chip} {v:Nat} {u l:List Int} {a:Nat} (h:Hold c v u l a) (hb:c'.blocks=c.blocks):Hold c' v u l a :=
 ⟨by rw [hb];exact h.ok,h.a2,by rw [hb];exact h.bs,by rw [hb];exact h.le,by rw [hb];exact h.ex⟩
theorem TI.same {c c':Chip} {t:TS} (h:TI c t) (hb:c'.blocks=c.blocks):TI c' t:=by
 obtain ⟨a,h1,h2,h3⟩:=h
 exact ⟨a,h1,h2.same hb,by rw [hb];exact h3⟩
theorem Arx {c:Chip}:Does Tryz.prog 38 [ptr c.aP] (chH c) (Is (.tuple #[]) (chH (onC c))):=Avu
theorem Al6 {c:Chip} {a k:Int}:Does Tryz.prog 36 [ptr c.aP,.int .i64 a,.int .i64 k] (chH c) (Is (.tuple #[]) (chH (Wy c a k))):=Axr
end
section
open Go.K
instance agg73:Agg Tryz.prog 73 false:=⟨⟨_,Tryz.underlying73,rfl⟩⟩
instance fld75_0:Fld Tryz.prog 75 0 0:=⟨⟨_,_,0,Tryz.underlying75,rfl,by kernel_rfl,rfl⟩⟩
instance fld75_1:Fld Tryz.prog 75 1 1:=⟨⟨_,_,0,Tryz.underlying75,rfl,by kernel_rfl,rfl⟩⟩
instance ent66:Ent Tryz.prog 66:=⟨fun _ _=>by kernel_rfl⟩
instance ent100:Ent Tryz.prog 100:=⟨fun _ _=>by kernel_rfl⟩
instance ent141:Ent Tryz.prog 141:=⟨fun _ _=>by kernel_rfl⟩
instance ent242:Ent Tryz.prog 242:=⟨fun _ _=>by kernel_rfl⟩
abbrev tDk:TypeId:=75
def atD (t:TS) (b:Int):Int:=if (atT t b).2=true then (atT t b).1 else -1
def Dt (p:Pg):Pg:=if (Bz p).2.2.2≠0∨(Bz p).2.2.1=0 then p else (Cy (Bz p).1 (Bz p).2.1).1
section
variable {c:Chip} {t:Tab} {a dk:Nat}
theorem Aey {b:Int}:Does Tryz.prog 141 [ptr dk,.int .i64 b] ((dk,true,C [ptr a,ptr t.b] tDk)::(Di a t++[])) (Is (.int .i64 (atD t.ts b)) ((dk,true,C [ptr a,ptr t.b] tDk)::(Di a t++[]))):=by
 refine zF 19 Tryz.func141 ?_
 refine zC ?_
 refine zI rfl (Av8 (a:=a) (t:=t)) ?_
 refine zC ?_
 refine Ae rfl (fun c17=> ?_) (fun c17=> ?_)
 ·skip
  have hres:atD t.ts b= -1:=(by unfold atD;rw [if_neg (by simpa using c17)])
  refine zC ?_
  refine Ak (Aw Tryz.results141 (Af rfl)) ?_ sP
  rw [hres]
 ·skip
  have hres:atD t.ts b=(atT t.ts b).1:=(by unfold atD;rw [if_pos (by simpa using c17)])
  refine zC ?_
  refine Ak (Aw Tryz.results141 (Af rfl)) ?_ sP
  rw [hres]
theorem Ar3:Does Tryz.prog 66 [ptr dk] ((dk,true,C [ptr a,ptr t.b] tDk)::(Di a t++[])) (Is (.int .i64 t.u.list.length) ((dk,true,C [ptr a,ptr t.b] tDk)::(Di a t++[]))):=by
 refine zF 8 Tryz.func66 ?_
 refine zC ?_
 refine zI rfl (Au5 (a:=a) (t:=t)) ?_
 refine zC ?_
 exact zS
theorem Abr (ha:c.aC=a) {b k:Int}:Does Tryz.prog 100 [ptr dk,.int .i64 b,.int .i64 k] ((dk,true,C [ptr a,ptr t.b] tDk)::(Di a t++(chH c++[])))
  (Is (.tuple #[.agg (vbc (Bp c (atD t.ts b) k)).toArray,.int .i64 (B9 c (atD t.ts b) k)]) ((dk,true,C [ptr a,ptr t.b] tDk)::(Di a t++(chH c++[])))):=by
 refine zF 19 Tryz.func100 ?_
 refine zC ?_
 refine Aj rfl (fun b6=> ?_)
 rw [Cj]
 refine zC ?_
 refine A0 [(8,[(0,false),(1,false),(2,false),(3,false),(4,false),(5,false),(7,false),(6,true)]),(11,[(8,true),(9,false),(10,false)]),(12,[(11,true)]),(13,[(12,false)])] (by kernel_rfl) ?_
 refine zC ?_
 refine zI rfl (Aey (a:=a) (t:=t) (dk:=dk)) ?_
 refine zC ?_
 refine zI rfl (Aqu ha) ?_
 refine zA ?_
 first | refine Ac rfl rfl uD (Cg) (Ai) (Bo (by first | exact Ai | exact A1y ..)) ?_ | refine Ac rfl rfl uD rfl rfl rfl ?_
 refine zC ?_
 refine Ak (Cu Tryz.results100 (Bc rfl mM (by first | exact Ax | rfl)) (Af rfl)) ?_ sP
 rfl
theorem Aja {p:Pg}:Does Tryz.prog 242 [.agg (vbc p).toArray] [] (Is (.agg (vbc (Dt p)).toArray) []):=by
 refine zF 29 Tryz.func242 ?_
 refine zC ?_
 refine Do rfl rfl (fun b1=> ?_)
 refine Aj rfl (fun b2=> ?_)
 rw [Cj]
 refine zA ?_
 refine Ah (Am rfl mM (by first | exact Ax | rfl)) rfl ?_
 refine zE rfl (Mc (p:=p)) ?_
 rintro _ _ ⟨s,rfl,rfl,hs,ho⟩
 refine zW ?_
 refine Ae rfl (fun c19=> ?_) (fun c19=> ?_)
 ·skip
  have hres:Dt p=p:=(by unfold Dt;rw [if_pos (by simp at c19;rcases c19 with h | h;exact .inl h;exact .inr h)])
  refine zA ?_
  refine Ah (Am rfl mM (by first | exact Ax | rfl)) rfl ?_
  first | refine Ac rfl rfl uD (Cg) (Ai) (Bo (by first | exact Ai | exact A1y ..)) ?_ | refine Ac rfl rfl uD rfl rfl rfl ?_
  refine zC ?_
  refine Ak (Aw Tryz.results242 (Bc rfl mM (by first | exact Ax | rfl))) ?_ sP
  rw [hres]
 ·skip
  have hres:Dt p=(Cy (Bz p).1 (Bz p).2.1).1:=(by unfold Dt;rw [if_neg (by simp at c19;rintro (h | h);exact h c19.1;exact c19.2 h)])
  refine zC ?_
  refine Ao rfl rfl rfl rfl (fun b24=> ?_)
  refine zI rfl (In (kind:=(Bz p).1) (s:=s) (by have:=R0 p;rw [hs];omega)) ?_
  refine zA ?_
  first | refine Ac rfl rfl uD (Cg) (Ai) (Bo (by first | exact Ai | exact A1y ..)) ?_ | refine Ac rfl rfl uD rfl rfl rfl ?_
  refine zA ?_
  refine Ah (Am rfl mM (by first | exact Ax | rfl)) rfl ?_
  first | refine Ac rfl rfl uD (Cg) (Ai) (Bo (by first | exact Ai | exact A1y ..)) ?_ | refine Ac rfl rfl uD rfl rfl rfl ?_
  refine zC ?_
  refine Ak (Aw Tryz.results242 (Bc rfl mM (by first | exact Ax | rfl))) ?_ sP
  rw [hres,← hs]
end
end
section
open Go.K
instance und297:Und Tryz.prog 297 (.slice 147):=⟨Tryz.underlying297⟩
instance ent230:Ent Tryz.prog 230:=⟨fun _ _=>by kernel_rfl⟩
theorem Ar4 (p:Pg):((vbc p).all (·.oneCell'))=true:=by
 rw [A3o]
 intro x hx
 obtain ⟨y,_,rfl⟩:=A5b.1 hx
 rfl
instance:Cel Pg:=⟨258,vbc,fun _=>Ai,Ar4⟩
def E5 (c:Chip) (src to':Int) (i:Int):Int×Chip:=if B9 c src i=0 then Bq c to' i (Dt (Bp c src i)) else (B9 c src i,c)
def Ft:Nat→Chip→Int→Int→Int→Int×Chip
 | 0,c,_,_,_=>(0,c)
 | f+1,c,src,to',i=>if (E5 c src to' i).1≠0 then E5 c src to' i else Ft f (E5 c src to' i).2 src to' (i+1)
def L8:List Pg→Chip→Int→Int→Int×Chip
 | [],c,_,_=>(0,c)
 | p::ps,c,to',i=>if (Bq c to' i p).1≠0 then Bq c to' i p else L8 ps (Bq c to' i p).2 to' (i+1)
def fillC (c:Chip) (src to':Int) (count:Nat) (more:List Pg):Int×Chip :=
 if (Ft count c src to' 0).1≠0 then Ft count c src to' 0 else L8 more (Ft count c src to' 0).2 to' count
theorem Abs (c:Chip) (src to' i:Int):(E5 c src to' i).2.aC=c.aC:=by
 unfold E5
 split
 ·exact Fn _ _ _ _
 ·rfl
theorem Ayy {l:List Pg} {i:Nat} {p:Pg} (h:l[i]? =some p):l.drop i=p::l.drop (i+1):=by
 obtain ⟨h1,h2⟩:=A08.1 h
 rw [A05 h1,h2]
section
variable {c:Chip} {t:Tab} {a dk:Nat}
theorem Ar5 (ha:c.aC=a) {b to':Int} {count:Nat} {more:Sl Pg} (hc:count≤8) (hm:more.list.length≤1000) :
  Does Tryz.prog 230 [ptr dk,.int .i64 b,.int .i64 to',.int .i64 (count:Nat),more.val] ((dk,true,C [ptr a,ptr t.b] tDk)::(Di a t++(chH c++(more.hp tPg++[]))))
  (Is (.int .i64 (fillC c (atD t.ts b) to' count more.list).1) ((dk,true,C [ptr a,ptr t.b] tDk)::(Di a t++(chH (fillC c (atD t.ts b) to' count more.list).2++(more.hp tPg++[]))))):=by
 refine zF 64 Tryz.func230 ?_
 refine zC ?_
 refine At [0,1,2,3,4,17] kQ (fun (st:Nat×Chip)=>[(18,.int .i64 st.1)]) (fun st=>(dk,true,C [ptr a,ptr t.b] tDk)::(Di a t++(chH st.2++(more.hp tPg++[])))) (fun st=>st.1≤count∧st.2.aC=a∧Ft (count - st.1) st.2 (atD t.ts b) to' st.1=Ft count c (atD t.ts b) to' 0) (fun st=>count - st.1) ((0,c)) ⟨A5s _,ha,rfl⟩ kP sP ?_
 rintro ⟨i,c1⟩ ⟨h0,h1,h2⟩
 simp only at h0 h1 h2
 refine zC ?_
 refine Ae rfl (fun c19=> ?_) (fun c19=> ?_)
 ·simp only [A3j,A1k] at c19
  have hgo:Ft (count - i) c1 (atD t.ts b) to' i=if (E5 c1 (atD t.ts b) to' i).1≠0 then E5 c1 (atD t.ts b) to' i else Ft (count - (i+1)) (E5 c1 (atD t.ts b) to' i).2 (atD t.ts b) to' ((i:Int)+1):=(by rw [show count - i=(count - (i+1))+1 by omega];rfl)
  rw [h2] at hgo
  refine zC ?_
  refine zI rfl (Abr (c:=c1) (t:=t) (dk:=dk) h1) ?_
  refine zC ?_
  refine Aj rfl (fun b12=> ?_)
  first | refine Ac rfl rfl uD (Cg) (Ai) (Bo (by first | exact Ai | exact A1y ..)) ?_ | refine Ac rfl rfl uD rfl rfl rfl ?_
  refine zC ?_
  refine Ae rfl (fun c29=> ?_) (fun c29=> ?_)
  ·skip
   have hf1:E5 c1 (atD t.ts b) to' i=Bq c1 to' i (Dt (Bp c1 (atD t.ts b) i)):=(by unfold E5;rw [if_pos (by simpa using c29)])
   refine A0 [(8,[(0,false),(1,false),(2,false),(3,false),(4,false),(5,false),(6,false),(7,true)]),(9,[(8,true)]),(10,[(9,false)])] (by kernel_rfl) ?_
   iterate 7 refine sb ?_
   refine Aq (Am rfl mM (by first | exact Ax | rfl)) ?_
   refine zC ?_
   refine zI rfl (Aja (p:=Bp c1 (atD t.ts b) i)) ?_
   refine zC ?_
   refine zI rfl (Nk (c:=c1) h1) ?_
   refine zC ?_
   refine Ae rfl (fun c40=> ?_) (fun c40=> ?_)
   ·skip
    have hres:fillC c (atD t.ts b) to' count more.list=E5 c1 (atD t.ts b) to' i:=(by have hne:(E5 c1 (atD t.ts b) to' i).1≠0:=(by rw [hf1];simpa using c40);rw [if_pos hne] at hgo;unfold fillC;rw [hgo,if_pos hne])
    rw [hf1] at hres
    refine zC ?_
    refine Ak (Aw Tryz.results230 (Af rfl)) ?_ (by rw [hres];exact sP)
    rw [hres]
   ·skip
    have hz:(E5 c1 (atD t.ts b) to' i).1=0:=(by rw [hf1];simpa using c40)
    rw [if_neg (by rw [hz];simp),hf1] at hgo
    refine zC ?_
    first | exact ⟨(i+1,(Bq c1 to' i (Dt (Bp c1 (atD t.ts b) i))).2),⟨by simp only;omega,(Fn _ _ _ _).trans h1,by simp only;exact hgo.symm⟩,by simp only;omega,lZ⟩ | exact ⟨(i+1,c1),⟨by simp only;omega,h1,by simp only;exact hgo.symm⟩,by simp only;omega,lZ⟩
  ·skip
   have hf1:E5 c1 (atD t.ts b) to' i=(B9 c1 (atD t.ts b) i,c1):=(by unfold E5;rw [if_neg (by simpa using c29)])
   refine zC ?_
   refine Ae rfl (fun c40=> ?_) (fun c40=> ?_)
   ·skip
    have hres:fillC c (atD t.ts b) to' count more.list=E5 c1 (atD t.ts b) to' i:=(by have hne:(E5 c1 (atD t.ts b) to' i).1≠0:=(by rw [hf1];simpa using c40);rw [if_pos hne] at hgo;unfold fillC;rw [hgo,if_pos hne])
    rw [hf1] at hres
    refine zC ?_
    refine Ak (Aw Tryz.results230 (Af rfl)) ?_ (by rw [hres];exact sP)
    rw [hres]
   ·skip
    have hz:(E5 c1 (atD t.ts b) to' i).1=0:=(by rw [hf1];simpa using c40)
    rw [if_neg (by rw [hz];simp),hf1] at hgo
    refine zC ?_
    first | exact ⟨(i+1,(Bq c1 to' i (Dt (Bp c1 (atD t.ts b) i))).2),⟨by simp only;omega,(Fn _ _ _ _).trans h1,by simp only;exact hgo.symm⟩,by simp only;omega,lZ⟩ | exact ⟨(i+1,c1),⟨by simp only;omega,h1,by simp only;exact hgo.symm⟩,by simp only;omega,lZ⟩
 ·simp only [A3j,A1k] at c19
  have hic:i=count:=(by omega)
  subst hic
  have hz:Ft i c (atD t.ts b) to' 0=(0,c1):=(by rw [← h2,A5h];rfl)
  refine zC ?_
  refine At [0,2,3,43,44] kQ (fun (st:Nat×Chip)=>[(45,.int .i64 st.1)]) (fun st=>(dk,true,C [ptr a,ptr t.b] tDk)::(Di a t++(chH st.2++(more.hp tPg++[])))) (fun st=>st.1≤more.list.length∧st.2.aC=a∧L8 (more.list.drop st.1) st.2 to' ((i:Int)+st.1)=L8 more.list c1 to' i) (fun st=>more.list.length - st.1) ((0,c1)) ⟨A5s _,h1,by simp⟩ kP sP ?_
  rintro ⟨j,c2⟩ ⟨k0,k1,k2⟩
  simp only at k0 k1 k2
  refine zC ?_
  refine Ae rfl (fun c46=> ?_) (fun c46=> ?_)
  ·simp only [A3j,A1k] at c46
   obtain ⟨p,hg⟩:∃ p,more.list[j]? =some p:=⟨_,A1d (by omega)⟩
   rw [Ayy hg] at k2
   refine zA ?_
   refine Ah (A7 rfl rfl (by omega)) rfl ?_
   refine Ah (Dd (o:=0) rfl pL hg Ax rfl) rfl ?_
   refine Aj rfl (fun b15=> ?_)
   refine zA ?_
   first | refine Ac rfl rfl uD (Cg) (Ai) (Bo (by first | exact Ai | exact A1y ..)) ?_ | refine Ac rfl rfl uD rfl rfl rfl ?_
   refine zC ?_
   refine A0 [(9,[(0,false),(1,false),(2,false),(3,false),(4,false),(5,false),(6,false),(7,false),(8,false)]),(10,[(9,true)]),(11,[(10,false)])] (by kernel_rfl) ?_
   iterate 8 refine sb ?_
   refine Aq (Bm rfl rfl (by omega)) ?_
   refine Aq (Am rfl mM (by first | exact Ax | rfl)) ?_
   refine zC ?_
   refine zI rfl (Nk (c:=c2) k1) ?_
   refine zC ?_
   refine Ae rfl (fun c61=> ?_) (fun c61=> ?_)
   ·skip
    have hres:fillC c (atD t.ts b) to' i more.list=Bq c2 to' ((i:Int)+j) p:=(by have hne:(Bq c2 to' ((i:Int)+j) p).1≠0:=(by simpa using c61);unfold fillC;rw [hz,if_neg (by simp),← k2];exact if_pos hne)
    refine zC ?_
    refine Ak (Aw Tryz.results230 (Af rfl)) ?_ (by rw [hres];exact sP)
    rw [hres]
   ·skip
    have hk:L8 (more.list.drop (j+1)) (Bq c2 to' ((i:Int)+j) p).2 to' ((i:Int)+j+1)=L8 more.list c1 to' i:=(by rw [← k2];exact (if_neg (by simpa using c61)).symm)
    refine zC ?_
    exact ⟨(j+1,(Bq c2 to' ((i:Int)+j) p).2),⟨by simp only;omega,(Fn _ _ _ _).trans k1,by simp only;rw [← hk];congr 1⟩,(by simp only;omega),lZ⟩
  ·simp only [A3j,A1k] at c46
   have hres:fillC c (atD t.ts b) to' i more.list=(0,c2):=(by unfold fillC;rw [hz,if_neg (by simp),← k2,A1o (by omega)];rfl)
   refine zC ?_
   refine Ak (Aw Tryz.results230 (Af rfl)) ?_ (by rw [hres];exact sP)
   rw [hres]
end
end
section
open Go.K
instance ent208:Ent Tryz.prog 208:=⟨fun _ _=>by kernel_rfl⟩
theorem Ty (c:Chip) (src to' i:Int):Gm (E5 c src to' i).2=Gm c:=by
 unfold E5
 split
 ·exact Ir _ _ _ _
 ·rfl
theorem Sb (src to':Int):∀ (f:Nat) (c:Chip) (i:Int),Gm (Ft f c src to' i).2=Gm c∧(Ft f c src to' i).2.aC=c.aC
 | 0,c,i=>⟨rfl,rfl⟩
 | f+1,c,i=>by
  unfold Ft
  split
  ·exact ⟨Ty _ _ _ _,Abs _ _ _ _⟩
  ·obtain ⟨h1,h2⟩:=Sb src to' f (E5 c src to' i).2 (i+1)
   exact ⟨h1.trans (Ty _ _ _ _),h2.trans (Abs _ _ _ _)⟩
theorem Tz (to':Int):∀ (ps:List Pg) (c:Chip) (i:Int),Gm (L8 ps c to' i).2=Gm c∧(L8 ps c to' i).2.aC=c.aC
 | [],c,i=>⟨rfl,rfl⟩
 | p::ps,c,i=>by
  unfold L8
  split
  ·exact ⟨Ir _ _ _ _,Fn _ _ _ _⟩
  ·obtain ⟨h1,h2⟩:=Tz to' ps (Bq c to' i p).2 (i+1)
   exact ⟨h1.trans (Ir _ _ _ _),h2.trans (Fn _ _ _ _)⟩
theorem Aez (c:Chip) (src to':Int) (count:Nat) (more:List Pg):Gm (fillC c src to' count more).2=Gm c∧(fillC c src to' count more).2.aC=c.aC:=by
 obtain ⟨h1,h2⟩:=Sb src to' count c 0
 unfold fillC
 split
 ·exact ⟨h1,h2⟩
 ·obtain ⟨h3,h4⟩:=Tz to' more (Ft count c src to' 0).2 count
  exact ⟨h3.trans h1,h4.trans h2⟩
def Jd (c:Chip) (src to':Int) (count:Nat) (more:List Pg):Int×Chip:=if (Bs c to').1=0 then fillC (Bs c to').2 src to' count more else Bs c to'
theorem M5 (c:Chip) (src to':Int) (count:Nat) (more:List Pg):Gm (Jd c src to' count more).2=Gm c∧(Jd c src to' count more).2.aC=c.aC:=by
 unfold Jd
 split
 ·obtain ⟨h1,h2⟩:=Aez (Bs c to').2 src to' count more
  exact ⟨h1.trans (I6 _ _),h2.trans (H4 _ _)⟩
 ·exact ⟨I6 _ _,H4 _ _⟩
inductive MoveR (n:Nat) (block:Int) (count:Nat) (more:List Pg):Chip→TS→Int×TS×Chip→Prop
 | none {c:Chip} {t:TS}:(Bi t n).2=false→MoveR n block count more c t (34,t,c)
 | err {c:Chip} {t:TS} {e:Int} {c':Chip}:(Bi t n).2=true→Jd c (atD t block) (Bi t n).1 count more=(e,c')→e≠0→e≠33→MoveR n block count more c t (e,t,c')
 | swap {c:Chip} {t:TS} {c':Chip} {r:Int×TS×Chip}:(Bi t n).2=true→Jd c (atD t block) (Bi t n).1 count more=(0,c')→Av4 t c' block (Bi t n).1 r→MoveR n block count more c t r
 | bad {c:Chip} {t:TS} {c':Chip} {e:Int} {t':TS} {c'':Chip}:(Bi t n).2=true→Jd c (atD t block) (Bi t n).1 count more=(33,c')→Ah3 t c' (Bi t n).1 (e,t',c'')→e≠0→MoveR n block count more c t (e,t',c'')
 | again {c:Chip} {t:TS} {c':Chip} {t':TS} {c'':Chip} {r:Int×TS×Chip}:(Bi t n).2=true→Jd c (atD t block) (Bi t n).1 count more=(33,c')→Ah3 t c' (Bi t n).1 (0,t',c'')→MoveR n block count more c'' t' r→MoveR n block count more c t r
structure WT (n:Nat) (t:TS):Prop where
 wf:WF n t.uses t.lost
 next:0≤t.next
 area:0≤t.area∧t.area≤1
theorem Ae0 {t:TS} {u l:List Int} {c:Chip} (h:(Bw t u l c).1=0):(Bw t u l c).2.1.uses=u∧(Bw t u l c).2.1.lost=l:=by
 unfold Bw at h ⊢
 simp only [] at h ⊢
 split at h
 ·rename_i h1;exact absurd h h1
 ·rename_i h1
  rw [if_neg h1]
  exact ⟨rfl,rfl⟩
theorem J5 {t:TS} {n:Nat} (h:(Bi t n).2=true):D8 t n (Bi t n).1=true:=by
 unfold Bi at h ⊢
 cases h2:Lp t n with
 | none=>rw [h2] at h;cases h
 | some b =>
  unfold Lp at h2
  simpa using List.find?_some h2
theorem WT.lost {n:Nat} {t:TS} {c c':Chip} {t':TS} (h:WT n t) (hn:c.blocks.length=n) (hs:(Bi t n).2=true) (hd:Ah3 t c (Bi t n).1 (0,t',c')):WT n t'∧t'.lost.length=t.lost.length+1∧Gm c'=Gm c∧c'.aC=c.aC:=by
 have hb:=J5 hs
 obtain ⟨l,hp,he⟩:=hd.1 (by rw [hn];exact hb)
 have h0:(Bw t t.uses l c).1=0:=by rw [← he]
 have ht:t'=(Bw t t.uses l c).2.1:=by rw [← he]
 have hc:c'=(Bw t t.uses l c).2.2:=by rw [← he]
 obtain ⟨h1,h2⟩:=Ae0 h0
 rw [← ht] at h1 h2
 have hk:=Ate t t.uses l c h.next h.area
 rw [← ht] at hk
 refine ⟨⟨by rw [h1,h2];exact h.wf.lose hb hp,?_,?_⟩,by rw [h2,hp.length_eq];simp,by rw [hc];exact Af0 _ _ _ _,by rw [hc];exact Ac5 _ _ _ _⟩
 ·rcases hk with e | ⟨_,_,e,_⟩
  ·rw [e];exact h.next
  ·exact e
 ·rcases hk with e | ⟨_,_,_,e⟩
  ·rw [e];exact h.area
  ·exact e
theorem WT.tab {n:Nat} {t:Tab} (h:WT n t.ts):t.u.list.length≤1000∧t.l.list.length≤4∧0≤t.next∧(0≤t.area∧t.area≤1):=by
 have h1:=h.wf.n2
 have h2:t.u.list.length+6=n:=h.wf.len
 have h3:t.l.list.length≤4:=h.wf.lost4
 exact ⟨by omega,h3,h.next,h.area⟩
section
variable {c:Chip} {t:Tab} {a dk n:Nat}
theorem Aha (ha:c.aC=a) (hn:c.blocks.length=n) (hw:WT n t.ts) {b:Int} {count:Nat} {more:Sl Pg} (hc:count≤8) (hm:more.list.length≤1000) :
  Does Tryz.prog 208 [ptr dk,.int .i64 b,.int .i64 (count:Nat),more.val] ((dk,true,C [ptr a,ptr t.b] tDk)::(Di a t++(chH c++(more.hp tPg++[]))))
  (fun v H=>∃ (t':Tab) (e:Int) (c':Chip),t'.b=t.b∧v= .int .i64 e∧H=(dk,true,C [ptr a,ptr t'.b] tDk)::(Di a t'++(chH c'++(more.hp tPg++[])))∧c'.aC=a∧MoveR n b count more.list c t.ts (e,t'.ts,c')):=by
 refine zF 57 Tryz.func208 ?_
 refine zC ?_
 refine At [0,1,2,3] kQ (fun (st:Tab×Chip)=>[]) (fun st=>(dk,true,C [ptr a,ptr st.1.b] tDk)::(Di a st.1++(chH st.2++(more.hp tPg++[])))) (fun st=>st.1.b=t.b∧st.2.aC=a∧st.2.blocks.length=n∧WT n st.1.ts∧∀ r,MoveR n b count more.list st.2 st.1.ts r→MoveR n b count more.list c t.ts r) (fun st=>5 - st.1.l.list.length) ((t,c)) ⟨rfl,ha,hn,hw,fun r h=>h⟩ kP sP ?_
 rintro ⟨t1,c1⟩ ⟨h0,h1,h2,h3,h4⟩
 simp only at h0 h1 h2 h3 h4
 obtain ⟨w1,w2,w3,w4⟩:=h3.tab
 refine zC ?_
 refine zI rfl ((Alt (t:=t1) (c:=c1) h1 (by have:=h3.wf.n2;omega)).to (by rw [h2]) rfl) ?_
 refine zC ?_
 refine Ae rfl (fun c21=> ?_) (fun c21=> ?_)
 ·skip
  have hs:(Bi t1.ts n).2=false:=(by simpa using c21)
  refine zC ?_
  exact A9 (Aw Tryz.results208 (Af rfl)) (by exact ⟨t1,34,c1,h0,rfl,rfl,h1,h4 _ (.none hs)⟩) (by first | (rw [hb'];exact sP) | exact sP)
 ·skip
  have hs:(Bi t1.ts n).2=true:=(by simpa using c21)
  refine zC ?_
  refine zI rfl (Aaz (c:=c1) h1) ?_
  refine zC ?_
  refine Ae rfl (fun c29=> ?_) (fun c29=> ?_)
  ·skip
   have htr:Jd c1 (atD t1.ts b) (Bi t1.ts n).1 count more.list=fillC (Bs c1 (Bi t1.ts n).1).2 (atD t1.ts b) (Bi t1.ts n).1 count more.list:=(by unfold Jd;rw [if_pos (by simpa using c29)])
   refine zC ?_
   refine zI rfl (Ar5 (c:=(Bs c1 (Bi t1.ts n).1).2) (t:=t1) (dk:=dk) (to':=(Bi t1.ts n).1) ((H4 _ _).trans h1) hc hm) ?_
   refine zC ?_
   refine Ae rfl (fun c37=> ?_) (fun c37=> ?_)
   ·skip
    try (exfalso;((rw [c29] at c37;cases c37));done)
    all_goals
     rw [← htr] at c37 ⊢
     obtain ⟨hTb,hTa⟩:=M5 c1 (atD t1.ts b) (Bi t1.ts n).1 count more.list
     generalize hT:Jd c1 (atD t1.ts b) (Bi t1.ts n).1 count more.list=T at *
     have hTl:T.2.blocks.length=n:=(F4 hTb).trans h2
     have hTa':T.2.aC=a:=hTa.trans h1
     have hT0:Jd c1 (atD t1.ts b) (Bi t1.ts n).1 count more.list=(0,T.2):=(by rw [hT];exact Prod.ext (by simpa using c37) rfl)
     refine zC ?_
     refine zE rfl (Ac9 (c:=T.2) (t:=t1) hTa' w1 (by omega) w3 w4) ?_
     rintro _ _ ⟨t',e,c',hb',rfl,rfl,ha',hd⟩
     refine zW ?_
     exact A9 (Aw Tryz.results208 (Af rfl)) (by first | exact ⟨t',e,c',hb'.trans h0,rfl,rfl,ha',h4 _ (.swap hs hT0 hd)⟩ | exact ⟨t',e,c',hb'.trans h0,rfl,rfl,ha',h4 _ (.bad hs hT3 hd (by simpa using c55))⟩ | exact ⟨t1,T.1,T.2,h0,rfl,rfl,hTa',h4 _ (.err hs hT hTn hTn3)⟩) (by first | (rw [hb'];exact sP) | exact sP)
   ·skip
    rw [← htr] at c37 ⊢
    obtain ⟨hTb,hTa⟩:=M5 c1 (atD t1.ts b) (Bi t1.ts n).1 count more.list
    generalize hT:Jd c1 (atD t1.ts b) (Bi t1.ts n).1 count more.list=T at *
    have hTl:T.2.blocks.length=n:=(F4 hTb).trans h2
    have hTa':T.2.aC=a:=hTa.trans h1
    have hTn:T.1≠0:=(by simpa using c37)
    refine zC ?_
    refine Ae rfl (fun c46=> ?_) (fun c46=> ?_)
    ·skip
     have hT3:Jd c1 (atD t1.ts b) (Bi t1.ts n).1 count more.list=(33,T.2):=(by rw [hT];exact Prod.ext (by simpa using c46) rfl)
     refine zC ?_
     refine zE rfl (Ac8 (c:=T.2) (t:=t1) hTa' w1 (by omega) w3 w4) ?_
     rintro _ _ ⟨t',e,c',hb',rfl,rfl,ha',hd⟩
     refine zW ?_
     refine Ae rfl (fun c55=> ?_) (fun c55=> ?_)
     ·skip
      refine zC ?_
      exact A9 (Aw Tryz.results208 (Af rfl)) (by first | exact ⟨t',e,c',hb'.trans h0,rfl,rfl,ha',h4 _ (.swap hs hT0 hd)⟩ | exact ⟨t',e,c',hb'.trans h0,rfl,rfl,ha',h4 _ (.bad hs hT3 hd (by simpa using c55))⟩ | exact ⟨t1,T.1,T.2,h0,rfl,rfl,hTa',h4 _ (.err hs hT hTn hTn3)⟩) (by first | (rw [hb'];exact sP) | exact sP)
     ·skip
      try (exfalso;(rw [c37] at c55;cases c55);done)
      all_goals
       have he0:e=0:=(by simpa using c55)
       rw [he0] at hd
       obtain ⟨l1,l2,l3,l4⟩:=h3.lost hTl hs hd
       refine zC ?_
       exact ⟨(t',c'),⟨hb'.trans h0,ha',(F4 l3).trans hTl,l1,fun r hr=>h4 r (.again hs hT3 hd hr)⟩,(by have h5:t'.l.list.length=t1.l.list.length+1:=l2;simp only;omega),kP,kP,_,(by simp only;rw [hb'];exact sP)⟩
    ·skip
     have hTn3:T.1≠33:=(by simpa using c46)
     refine zC ?_
     refine Ae rfl (fun c55=> ?_) (fun c55=> ?_)
     ·skip
      refine zC ?_
      exact A9 (Aw Tryz.results208 (Af rfl)) (by first | exact ⟨t',e,c',hb'.trans h0,rfl,rfl,ha',h4 _ (.swap hs hT0 hd)⟩ | exact ⟨t',e,c',hb'.trans h0,rfl,rfl,ha',h4 _ (.bad hs hT3 hd (by simpa using c55))⟩ | exact ⟨t1,T.1,T.2,h0,rfl,rfl,hTa',h4 _ (.err hs hT hTn hTn3)⟩) (by first | (rw [hb'];exact sP) | exact sP)
     ·skip
      try (exfalso;(rw [c37] at c55;cases c55);done)
      all_goals
       have he0:e=0:=(by simpa using c55)
       rw [he0] at hd
       obtain ⟨l1,l2,l3,l4⟩:=h3.lost hTl hs hd
       refine zC ?_
       exact ⟨(t',c'),⟨hb'.trans h0,ha',(F4 l3).trans hTl,l1,fun r hr=>h4 r (.again hs hT3 hd hr)⟩,(by have h5:t'.l.list.length=t1.l.list.length+1:=l2;simp only;omega),kP,kP,_,(by simp only;rw [hb'];exact sP)⟩
  ·skip
   have htr:Jd c1 (atD t1.ts b) (Bi t1.ts n).1 count more.list=Bs c1 (Bi t1.ts n).1:=(by unfold Jd;rw [if_neg (by simpa using c29)])
   refine zC ?_
   refine Ae rfl (fun c37=> ?_) (fun c37=> ?_)
   ·skip
    try (exfalso;((rw [c29] at c37;cases c37));done)
    all_goals
     rw [← htr] at c37 ⊢
     obtain ⟨hTb,hTa⟩:=M5 c1 (atD t1.ts b) (Bi t1.ts n).1 count more.list
     generalize hT:Jd c1 (atD t1.ts b) (Bi t1.ts n).1 count more.list=T at *
     have hTl:T.2.blocks.length=n:=(F4 hTb).trans h2
     have hTa':T.2.aC=a:=hTa.trans h1
     have hT0:Jd c1 (atD t1.ts b) (Bi t1.ts n).1 count more.list=(0,T.2):=(by rw [hT];exact Prod.ext (by simpa using c37) rfl)
     refine zC ?_
     refine zE rfl (Ac9 (c:=T.2) (t:=t1) hTa' w1 (by omega) w3 w4) ?_
     rintro _ _ ⟨t',e,c',hb',rfl,rfl,ha',hd⟩
     refine zW ?_
     exact A9 (Aw Tryz.results208 (Af rfl)) (by first | exact ⟨t',e,c',hb'.trans h0,rfl,rfl,ha',h4 _ (.swap hs hT0 hd)⟩ | exact ⟨t',e,c',hb'.trans h0,rfl,rfl,ha',h4 _ (.bad hs hT3 hd (by simpa using c55))⟩ | exact ⟨t1,T.1,T.2,h0,rfl,rfl,hTa',h4 _ (.err hs hT hTn hTn3)⟩) (by first | (rw [hb'];exact sP) | exact sP)
   ·skip
    rw [← htr] at c37 ⊢
    obtain ⟨hTb,hTa⟩:=M5 c1 (atD t1.ts b) (Bi t1.ts n).1 count more.list
    generalize hT:Jd c1 (atD t1.ts b) (Bi t1.ts n).1 count more.list=T at *
    have hTl:T.2.blocks.length=n:=(F4 hTb).trans h2
    have hTa':T.2.aC=a:=hTa.trans h1
    have hTn:T.1≠0:=(by simpa using c37)
    refine zC ?_
    refine Ae rfl (fun c46=> ?_) (fun c46=> ?_)
    ·skip
     have hT3:Jd c1 (atD t1.ts b) (Bi t1.ts n).1 count more.list=(33,T.2):=(by rw [hT];exact Prod.ext (by simpa using c46) rfl)
     refine zC ?_
     refine zE rfl (Ac8 (c:=T.2) (t:=t1) hTa' w1 (by omega) w3 w4) ?_
     rintro _ _ ⟨t',e,c',hb',rfl,rfl,ha',hd⟩
     refine zW ?_
     refine Ae rfl (fun c55=> ?_) (fun c55=> ?_)
     ·skip
      refine zC ?_
      exact A9 (Aw Tryz.results208 (Af rfl)) (by first | exact ⟨t',e,c',hb'.trans h0,rfl,rfl,ha',h4 _ (.swap hs hT0 hd)⟩ | exact ⟨t',e,c',hb'.trans h0,rfl,rfl,ha',h4 _ (.bad hs hT3 hd (by simpa using c55))⟩ | exact ⟨t1,T.1,T.2,h0,rfl,rfl,hTa',h4 _ (.err hs hT hTn hTn3)⟩) (by first | (rw [hb'];exact sP) | exact sP)
     ·skip
      try (exfalso;(rw [c37] at c55;cases c55);done)
      all_goals
       have he0:e=0:=(by simpa using c55)
       rw [he0] at hd
       obtain ⟨l1,l2,l3,l4⟩:=h3.lost hTl hs hd
       refine zC ?_
       exact ⟨(t',c'),⟨hb'.trans h0,ha',(F4 l3).trans hTl,l1,fun r hr=>h4 r (.again hs hT3 hd hr)⟩,(by have h5:t'.l.list.length=t1.l.list.length+1:=l2;simp only;omega),kP,kP,_,(by simp only;rw [hb'];exact sP)⟩
    ·skip
     have hTn3:T.1≠33:=(by simpa using c46)
     refine zC ?_
     refine Ae rfl (fun c55=> ?_) (fun c55=> ?_)
     ·skip
      refine zC ?_
      exact A9 (Aw Tryz.results208 (Af rfl)) (by first | exact ⟨t',e,c',hb'.trans h0,rfl,rfl,ha',h4 _ (.swap hs hT0 hd)⟩ | exact ⟨t',e,c',hb'.trans h0,rfl,rfl,ha',h4 _ (.bad hs hT3 hd (by simpa using c55))⟩ | exact ⟨t1,T.1,T.2,h0,rfl,rfl,hTa',h4 _ (.err hs hT hTn hTn3)⟩) (by first | (rw [hb'];exact sP) | exact sP)
     ·skip
      try (exfalso;(rw [c37] at c55;cases c55);done)
      all_goals
       have he0:e=0:=(by simpa using c55)
       rw [he0] at hd
       obtain ⟨l1,l2,l3,l4⟩:=h3.lost hTl hs hd
       refine zC ?_
       exact ⟨(t',c'),⟨hb'.trans h0,ha',(F4 l3).trans hTl,l1,fun r hr=>h4 r (.again hs hT3 hd hr)⟩,(by have h5:t'.l.list.length=t1.l.list.length+1:=l2;simp only;omega),kP,kP,_,(by simp only;rw [hb'];exact sP)⟩
end
end
section
open Go.K
instance ent170:Ent Tryz.prog 170:=⟨fun _ _=>by kernel_rfl⟩
instance ent171:Ent Tryz.prog 171:=⟨fun _ _=>by kernel_rfl⟩
theorem Ahb {c:Chip} {i j:Int} {d:Pg} (h:(Bq c i j d).1=33):0≤j∧j<8:=by
 by_cases hm:B9 c i j=0
 ·have:=Zz hm;omega
 ·rw [Add hm] at h
  simp only at h
  unfold B9 at h
  split at h
  ·omega
  ·split at h
   ·omega
   ·split at h <;> omega
theorem Ajb (p:Pg):Pr (List.replicate 258 (Value.int .u8 0)).length (Gl 1 (List.replicate 258 (.int .u8 0))) [(0,.agg (vbc p).toArray)]=some (vbc p):=by
 have h1:Nat.beq (Value.agg (vbc p).toArray).cells.toList.length 258=true:=by
  show Nat.beq (vbc p).length 258=true
  rw [Ai];rfl
 have h2:Ba (Gl 1 (List.replicate 258 (.int .u8 0))) (0*258) (Value.agg (vbc p).toArray).cells.toList=some (vbc p):=by
  show Ba (List.replicate 258 (.int .u8 0)++[]) 0 (vbc p)=some (vbc p)
  rw [A37]
  exact Bo (A1y ..)
 rw [A1y]
 unfold Pr
 rw [h1,cond_true,h2]
 rfl
def Se (n:Nat) (b k:Int) (p:Pg) (c:Chip) (t:TS) (r:Int×TS×Chip):Prop :=
 ((Bq c (atD t b) k p).1=33→MoveR n b k.toNat [p] (Bq c (atD t b) k p).2 t r)∧((Bq c (atD t b) k p).1≠33→r=((Bq c (atD t b) k p).1,t,(Bq c (atD t b) k p).2))
def Qw (n:Nat) (b:Int) (c:Chip) (t:TS) (r:Int×TS×Chip):Prop :=
 ((Bs c (atD t b)).1=33→MoveR n b 0 [] (Bs c (atD t b)).2 t r)∧((Bs c (atD t b)).1≠33→r=((Bs c (atD t b)).1,t,(Bs c (atD t b)).2))
section
variable {c:Chip} {t:Tab} {a dk n:Nat}
theorem Ama (ha:c.aC=a) (hn:c.blocks.length=n) (hw:WT n t.ts) {b:Int} {count mb:Nat} {p:Pg} (hc:count≤8) :
  Does Tryz.prog 208 [ptr dk,.int .i64 b,.int .i64 (count:Nat),.slice (some ⟨mb,0,none⟩) 1 1] ((dk,true,C [ptr a,ptr t.b] tDk)::(Di a t++(chH c++[(mb,true,C (vbc p) tPg)])))
  (fun v H=>∃ (t':Tab) (e:Int) (c':Chip),t'.b=t.b∧v= .int .i64 e∧H=(dk,true,C [ptr a,ptr t'.b] tDk)::(Di a t'++(chH c'++[(mb,true,C (vbc p) tPg)]))∧c'.aC=a∧MoveR n b count [p] c t.ts (e,t'.ts,c')):=by
 have h:=Aha (dk:=dk) (b:=b) (more:=(.own mb [p] 1 [] ⟨by simp,A5q _,by simp⟩:Sl Pg)) ha hn hw hc (by show 1≤1000;omega)
 have e:cells [p]++[]=vbc p:=by simp [cells,Cel.cs]
 rw [Sl.hp_own,e] at h
 exact h
theorem Amb (ha:c.aC=a) (hn:c.blocks.length=n) (hw:WT n t.ts) {b:Int} :
  Does Tryz.prog 208 [ptr dk,.int .i64 b,.int .i64 0,.slice none 0 0] ((dk,true,C [ptr a,ptr t.b] tDk)::(Di a t++(chH c++[])))
  (fun v H=>∃ (t':Tab) (e:Int) (c':Chip),t'.b=t.b∧v= .int .i64 e∧H=(dk,true,C [ptr a,ptr t'.b] tDk)::(Di a t'++(chH c'++[]))∧c'.aC=a∧MoveR n b 0 [] c t.ts (e,t'.ts,c')):=by
 have h:=Aha (dk:=dk) (b:=b) (count:=0) (more:=(.nil:Sl Pg)) ha hn hw (by omega) (by show 0≤1000;omega)
 rw [Sl.hp_nil] at h
 exact h
theorem Abt (ha:c.aC=a) (hn:c.blocks.length=n) (hw:WT n t.ts) {b k:Int} {p:Pg} :
  Does Tryz.prog 171 [ptr dk,.int .i64 b,.int .i64 k,.agg (vbc p).toArray] ((dk,true,C [ptr a,ptr t.b] tDk)::(Di a t++(chH c++[])))
  (fun v H=>∃ (t':Tab) (e:Int) (c':Chip),t'.b=t.b∧v= .int .i64 e∧H=(dk,true,C [ptr a,ptr t'.b] tDk)::(Di a t'++(chH c'++[]))∧c'.aC=a∧Se n b k p c t.ts (e,t'.ts,c')):=by
 refine zF 29 Tryz.func171 ?_
 refine zC ?_
 refine Do rfl rfl (fun b7=> ?_)
 refine zC ?_
 refine A0 [(9,[(0,false),(1,false),(2,false),(3,false),(4,false),(5,false),(7,false),(8,false),(6,true)]),(10,[(9,true)]),(11,[(10,false)])] (by kernel_rfl) ?_
 iterate 8 refine sb ?_
 refine Aq (Am rfl mM (by first | exact Ax | rfl)) ?_
 refine zC ?_
 refine zI rfl (Aey (a:=a) (t:=t) (dk:=dk)) ?_
 refine zC ?_
 refine zI rfl (Nk ha) ?_
 refine zC ?_
 refine Ae rfl (fun c21=> ?_) (fun c21=> ?_)
 ·skip
  have h33:(Bq c (atD t.ts b) k p).1=33:=(by simpa using c21)
  obtain ⟨m,hm⟩:∃ m:Nat,k=m:=⟨k.toNat,by have:=Ahb h33;omega⟩
  subst hm
  have hm8:m≤8:=(by have:=Ahb h33;omega)
  refine zA ?_
  refine Ah (Am rfl mM (by first | exact Ax | rfl)) rfl ?_
  refine Ao (cs:=vbc p) (zs:=List.replicate 258 (.int .u8 0)) rfl (Ajb p) rfl rfl (fun b26=> ?_)
  refine zE rfl (Ama (c:=(Bq c (atD t.ts b) m p).2) (t:=t) (dk:=dk) (b:=b) (p:=p) ((Fn _ _ _ _).trans ha) ((F4 (Ir _ _ _ _)).trans hn) hw hm8) ?_
  rintro _ _ ⟨t',e,c',hb',rfl,rfl,ha',hd⟩
  refine zW ?_
  exact A9 (Aw Tryz.results171 (Af rfl)) (by exact ⟨t',e,c',hb',rfl,rfl,ha',fun _=>hd,fun h=>absurd h33 h⟩) (by rw [hb'];exact sP)
 ·skip
  have h33:(Bq c (atD t.ts b) k p).1≠33:=(by simpa using c21)
  refine zC ?_
  exact zL (hR:=by exact ⟨t,_,_,rfl,rfl,rfl,(Fn _ _ _ _).trans ha,fun h=>absurd h h33,fun _=>rfl⟩)
theorem Ajc (ha:c.aC=a) (hn:c.blocks.length=n) (hw:WT n t.ts) {b:Int} :
  Does Tryz.prog 170 [ptr dk,.int .i64 b] ((dk,true,C [ptr a,ptr t.b] tDk)::(Di a t++(chH c++[])))
  (fun v H=>∃ (t':Tab) (e:Int) (c':Chip),t'.b=t.b∧v= .int .i64 e∧H=(dk,true,C [ptr a,ptr t'.b] tDk)::(Di a t'++(chH c'++[]))∧c'.aC=a∧Qw n b c t.ts (e,t'.ts,c')):=by
 refine zF 20 Tryz.func170 ?_
 refine zC ?_
 refine A0 [(7,[(0,false),(1,false),(2,false),(3,false),(4,false),(5,false),(6,true)]),(8,[(7,true)]),(9,[(8,false)])] (by kernel_rfl) ?_
 refine zC ?_
 refine zI rfl (Aey (a:=a) (t:=t) (dk:=dk)) ?_
 refine zC ?_
 refine zI rfl (Aaz ha) ?_
 refine zC ?_
 refine Ae rfl (fun c15=> ?_) (fun c15=> ?_)
 ·skip
  have h33:(Bs c (atD t.ts b)).1=33:=(by simpa using c15)
  refine zC ?_
  refine zE rfl (Amb (c:=(Bs c (atD t.ts b)).2) (t:=t) (dk:=dk) (b:=b) ((H4 _ _).trans ha) ((F4 (I6 _ _)).trans hn) hw) ?_
  rintro _ _ ⟨t',e,c',hb',rfl,rfl,ha',hd⟩
  refine zW ?_
  exact A9 (Aw Tryz.results170 (Af rfl)) (by exact ⟨t',e,c',hb',rfl,rfl,ha',fun _=>hd,fun h=>absurd h33 h⟩) (by rw [hb'];exact sP)
 ·skip
  have h33:(Bs c (atD t.ts b)).1≠33:=(by simpa using c15)
  refine zC ?_
  exact zL (hR:=by exact ⟨t,_,_,rfl,rfl,rfl,(H4 _ _).trans ha,fun h=>absurd h h33,fun _=>rfl⟩)
end
end
section
open Go.K
instance zer75:Zer Tryz.prog 75 ([.pointer none,.pointer none]):=⟨by kernel_rfl⟩
instance plc75:Plc Tryz.prog 75 [(0,1),(1,1)]:=⟨⟨_,Tryz.underlying75,fun _=>by kernel_rfl⟩⟩
instance ent130:Ent Tryz.prog 130:=⟨fun _ _=>by kernel_rfl⟩
section
variable {c:Chip} {a:Nat}
theorem Ahc {tb:Nat}:Does Tryz.prog 130 [ptr a,ptr tb,.int .i64 0] [] (fun v H=>∃ dk,v= .tuple #[ptr dk,.int .i64 0]∧H=[(dk,true,C [ptr a,ptr tb] tDk)]):=by
 refine zF 15 Tryz.func130 ?_
 refine zC ?_
 refine Ay rfl ?_
 refine zC ?_
 refine Dj rfl rfl (fun b14=> ?_)
 refine zC ?_
 exact zL (hR:=by exact ⟨_,rfl,rfl⟩)
end
end
section
open Go.K
instance ent84:Ent Tryz.prog 84:=⟨fun _ _=>by kernel_rfl⟩
theorem Amc (k:Int):IntKind.u8.wrap k=((Fe k).toNat:Int):=Em .u8 rfl k
theorem Ae1 {pp aC aB m:Nat} (hm:16≤m∧m≤40) (hX:Wz (Ha m [])=false):Does Tryz.prog 131 [ptr aC] (chH (Ds (-1) 0 pp aC aB m []))
  (fun v H=>∃ (tb:Tab) (c':Chip),v= .tuple #[ptr tb.b,.int .i64 0]∧H=Di aC tb++(chH c'++[])∧c'.aC=aC∧c'.aP=pp∧JI c' tb.ts (Ox (Ha m []) ((m:Int) - 6) m) (Ha m []) m 0∧PgP c' (PlB m)∧∀ i,2≤i→i<m→c'.blocks[i]? =some (Hb false)):=by
 have hlen:(Ds (-1) 0 pp aC aB m []).blocks.length=m:=Ho
 refine (Ary (c:=Ds (-1) 0 pp aC aB m []) (a:=aC) rfl (by rw [hlen];omega)).mono fun v H h=> ?_
 obtain ⟨t,c',h1,h2,h3,h4⟩:=Ayw (aP:=pp) (aC:=aC) (aB:=aB) hm hX
 obtain ⟨c2,q1,q2⟩:=Oj (after:= -1) (keep:=0) (aP:=pp) (aC:=aC) (aB:=aB) (n:=m) (bad:=[]) (by omega) (by omega) ((Wl hm).trans hX)
 unfold Aa1 at h
 rw [h1] at h
 rcases h with ⟨tb,rfl,rfl,h5,_⟩ | ⟨_,_,h6⟩
 ·refine ⟨tb,c',rfl,rfl,h3,h4,by rw [h5];exact h2,Az8 hm hX h1 h2,fun i hi hl=> ?_⟩
  rw [q1] at h1
  simp only [A48] at h1
  rw [← h1.2.2,q2,Ri (by omega),Iq hl]
  rfl
 ·exact absurd rfl h6
theorem Ae2 {pp aC aB m:Nat} (hm:16≤m∧m≤40) (hX:Wz (Ha m [])=false):Does Tryz.prog 84 [ptr aC] (chH (Ds (-1) 0 pp aC aB m []))
  (fun v H=>∃ (dk:Nat) (tb:Tab) (c':Chip),v= .tuple #[ptr dk,.int .i64 0]∧H=(dk,true,C [ptr aC,ptr tb.b] tDk)::(Di aC tb++(chH c'++[]))∧c'.aC=aC∧c'.aP=pp∧JI c' tb.ts (Ox (Ha m []) ((m:Int) - 6) m) (Ha m []) m 0∧∀ i,2≤i→i<m→c'.blocks[i]? =some (Hb false)):=by
 refine zF 17 Tryz.func84 ?_
 refine zC ?_
 refine zE rfl (Ae1 (pp:=pp) (aC:=aC) (aB:=aB) (m:=m) hm hX) ?_
 rintro _ _ ⟨tb,c',rfl,rfl,a1,a2,a3,_,a4⟩
 refine zW ?_
 refine zE rfl (Ahc (a:=aC) (tb:=tb.b)) ?_
 rintro _ _ ⟨dk,rfl,rfl⟩
 refine zW ?_
 exact zL (hR:=by exact ⟨dk,tb,c',rfl,rfl,a1,a2,a3,a4⟩)
end
section
open Go.K
theorem Amd {p:Pg} (h:(Bz p).2.2.2≠0):Dt p=p:=by unfold Dt;rw [if_pos (.inl h)]
theorem Ajd {p:Pg} (h:p[257]=255#8):Dt p=p:=Amd (K3 h)
theorem W0 {k:By} {b:List By} (hw:C1 k b=false):Dt (Cp k b)=Cp k b:=by
 unfold Dt
 rw [Iu hw,if_pos (.inr rfl)]
theorem Hold.far {c c':Chip} {v:Nat} {u l:List Int} {a k:Nat} (h:Hold c v u l a) (hk:2≤k) (f:Fr k c c'):Hold c' v u l a:=by
 have ho:∀ i,i<2→c'.blocks[i]? =c.blocks[i]? :=fun i hi=>f.oth i (by omega)
 refine ⟨by rw [f.len];exact h.ok,h.a2,fun i hi=>by rw [ho i hi];exact h.bs i hi,fun i hi b hb=> ?_,?_⟩
 ·rw [ho i hi] at hb
  rw [f.len]
  exact h.le i hi b hb
 ·rw [ho a h.a2,f.len]
  exact h.ex
theorem TI.far {c c':Chip} {t:TS} {k:Nat} (h:TI c t) (hk:2≤k) (f:Fr k c c'):TI c' t:=by
 obtain ⟨a,h1,h2,h3⟩:=h
 exact ⟨a,h1,h2.far hk f,by rw [f.oth a (by have:=h2.a2;omega)];exact h3⟩
def AllB (c:Chip):Prop:=∀ (i:Nat) (b:Blk),c.blocks[i]? =some b→BI b∧b.bad=false
theorem AllB.far {c c':Chip} {k:Nat} {b:Blk} (h:AllB c) (f:Fr k c c') (hb:c'.blocks[k]? =some b) (h1:BI b) (h2:b.bad=false):AllB c':=fun i b' hb'=>by
 by_cases e:i=k
 ·subst e
  rw [hb] at hb'
  cases hb'
  exact ⟨h1,h2⟩
 ·rw [f.oth i e] at hb'
  exact h i b' hb'
theorem AllB.keep {c c':Chip} {v:Nat} {u l:List Int} {a:Nat} (h:AllB c) (f:Fr2 c c') (hh:Hold c' v u l a):AllB c':=fun i b' hb'=>by
 by_cases e:i<2
 ·obtain ⟨b2,h1,h2,h3⟩:=hh.bs i e
  rw [h1] at hb'
  cases hb'
  exact ⟨h2,h3⟩
 ·rw [f.oth i (by omega)] at hb'
  exact h i b' hb'
theorem Qx {c:Chip} {a j:Nat} {b:Blk} {d:Pg} {B:Int} (up:Up c) (hb:c.blocks[a]? =some b) (hj:j<8) (hbad:b.bad=false) (hbi:BI b) (hn:b.next=j) (hc:Cnt c B) (hB:B<8000000000000000000) :
  ∃ e m c',Bq c a j d=(e,c')∧Fr a c c'∧Cnt c' (B+1)∧c'.blocks[a]? =some (wrK b j (Ck m Ar d)) ∧
   ((e=30∧c'.off=true∧¬ c.after<0)∨(e=33∧m=129∧Up c'∧FP c'+1≤FP c)∨(e=0∧m=258∧Up c')):=by
 obtain ⟨e,m,hp,hcase⟩:=Yh up (d:=d) hb hj hbad hbi hn
 obtain ⟨hfr,hcn,hfp⟩:=Av7 (a:=a) (b:=wrK b j (Ck m Ar d)) hc (by omega)
 have hoff:=Apf (a:=a) (b:=wrK b j (Ck m Ar d)) up
 refine ⟨e,m,_,hp,hfr,hcn,Aig hb,?_⟩
 rcases hcase with ⟨h1,h2⟩ | ⟨h1,h2,h3,h4⟩ | ⟨h1,h2,h3,h4⟩
 ·exact .inl ⟨h1,by rw [hoff];exact h2,P8 h2⟩
 ·exact .inr (.inl ⟨h1,h2,up.of hfr.dead hfr.out (by rw [hoff];exact h3),hfp h4⟩)
 ·exact .inr (.inr ⟨h1,h2,up.of hfr.dead hfr.out (by rw [hoff];exact h3)⟩)
end
section
open Go.K
def Out (c c':Chip) (e:Int):Prop:=(e=30∧c'.off=true∧¬ c.after<0)∨(e=33∧Up c'∧FP c'+1≤FP c)∨(e=0∧Up c')
theorem Out.step {k:Nat} {c c1 c2:Chip} {e:Int} (f:Fr k c c1) (h:Out c1 c2 e):Out c c2 e:=by
 rcases h with ⟨h1,h2,h3⟩ | ⟨h1,h2,h3⟩ | ⟨h1,h2⟩
 ·exact .inl ⟨h1,h2,fun hp=>h3 (by rw [(f.pos hp).1];exact hp)⟩
 ·exact .inr (.inl ⟨h1,h2,by have:=f.fp;omega⟩)
 ·exact .inr (.inr ⟨h1,h2⟩)
theorem Sf {a to':Nat} {bs:Blk} (hne:a≠to'):∀ (f:Nat) (c:Chip) (i:Nat) (bt:Blk) (B:Int),i+f≤8→Up c→c.blocks[a]? =some bs→c.blocks[to']? =some bt→bt.bad=false→BI bt→bt.next=i→Cnt c B→B+f<8000000000000000000 →
  ∃ e c',Ft f c a to' i=(e,c')∧Fr to' c c'∧Cnt c' (B+f)∧Out c c' e∧∃ b',c'.blocks[to']? =some b'∧BI b'∧b'.bad=false ∧
   (e=0→b'.next=((i+f:Nat):Int)∧(∀ (j:Nat) (h:j<8),j<i→b'.pages[j]=bt.pages[j])∧∀ (j:Nat) (h:j<8),i≤j→j<i+f→b'.pages[j]=Dt bs.pages[j])
 | 0,c,i,bt,B,hf,up,ha,hb,hbad,hbi,hn,hc,hB =>
  ⟨0,c,rfl,Fr.refl _ _,by simpa using hc,.inr (.inr ⟨rfl,up⟩),bt,hb,hbi,hbad,fun _=>⟨hn,fun _ _ _=>rfl,fun j h h1 h2=>by omega⟩⟩
 | f+1,c,i,bt,B,hf,up,ha,hb,hbad,hbi,hn,hc,hB=>by
  have hi8:i<8:=by omega
  have hal:a<c.blocks.length:=(A08.1 ha).1
  have hm:B9 c (a:Nat) (i:Nat)=0:=Adp up hal hi8
  have hrd:Bp c (a:Nat) (i:Nat)=bs.pages[i]:=Pv hm ha hi8
  obtain ⟨e,m,c1,hp,hfr,hcn,hbk,hcase⟩:=Qx (d:=Dt bs.pages[i]) up hb hi8 hbad hbi hn hc (by omega)
  have hf1:E5 c (a:Nat) (to':Nat) (i:Nat)=(e,c1):=by
   unfold E5
   rw [if_pos hm,hrd,hp]
  have hbi':=Aag (q:=Ck m Ar (Dt bs.pages[i])) hbi hi8 hn
  have hcn':Cnt c1 (B+((f+1:Nat):Int)):=⟨by have:=hcn.p0;push_cast;omega,by have:=hcn.w0;push_cast;omega⟩
  unfold Ft
  rw [hf1]
  rcases hcase with ⟨rfl,h1,h2⟩ | ⟨rfl,h1,h2,h3⟩ | ⟨rfl,h1,h2⟩
  ·rw [if_pos (by simp)]
   exact ⟨30,c1,rfl,hfr,hcn',.inl ⟨rfl,h1,h2⟩,_,hbk,hbi',hbad,fun h=>by cases h⟩
  ·rw [if_pos (by simp)]
   exact ⟨33,c1,rfl,hfr,hcn',.inr (.inl ⟨rfl,h2,h3⟩),_,hbk,hbi',hbad,fun h=>by cases h⟩
  ·rw [if_neg (by simp)]
   subst h1
   obtain ⟨e2,c2,k1,k2,k3,k4,b2,k5,k6,k7,k8⟩:=Sf hne f c1 (i+1) (wrK bt i (Ck 258 Ar (Dt bs.pages[i]))) (B+1) (by omega) h2 (by rw [hfr.oth a hne];exact ha) hbk hbad hbi' rfl hcn (by omega)
   refine ⟨e2,c2,?_,hfr.trans k2,⟨by have:=k3.p0;push_cast;omega,by have:=k3.w0;push_cast;omega⟩,k4.step hfr,b2,k5,k6,k7,fun h=> ?_⟩
   ·exact_mod_cast k1
   ·obtain ⟨q1,q2,q3⟩:=k8 h
    refine ⟨by rw [q1];push_cast;omega,fun j hj hlt=> ?_,fun j hj hge hlt=> ?_⟩
    ·rw [q2 j hj (by omega),Gq hj,if_neg (by omega)]
    ·by_cases e1:j=i
     ·subst e1
      rw [q2 j hj (by omega),Gq hj,if_pos rfl]
      exact F5 (A5q _)
     ·exact q3 j hj (by omega) (by omega)
end
section
open Go.K
def OutW (c c':Chip) (e:Int):Prop:=(e=30∧c'.off=true∧¬ c.after<0)∨(e=33∧Up c'∧FP c'+FW c'+1≤FP c+FW c)∨(e=0∧Up c')
theorem Out.w {k:Nat} {c c':Chip} {e:Int} (f:Fr k c c') (h:Out c c' e):OutW c c' e:=by
 rcases h with h | ⟨h1,h2,h3⟩ | h
 ·exact .inl h
 ·exact .inr (.inl ⟨h1,h2,by have:=f.fw;omega⟩)
 ·exact .inr (.inr h)
theorem OutW.step {k:Nat} {c c1 c2:Chip} {e:Int} (f:Fr k c c1) (h:OutW c1 c2 e):OutW c c2 e:=by
 rcases h with ⟨h1,h2,h3⟩ | ⟨h1,h2,h3⟩ | ⟨h1,h2⟩
 ·exact .inl ⟨h1,h2,fun hp=>h3 (by rw [(f.pos hp).1];exact hp)⟩
 ·exact .inr (.inl ⟨h1,h2,by have:=f.fp;have:=f.fw;omega⟩)
 ·exact .inr (.inr ⟨h1,h2⟩)
def N4 (bs b':Blk) (count:Nat) (more:List Pg):Prop :=
 b'.next=((count+more.length:Nat):Int)∧(∀ (j:Nat) (h:j<8),j<count→b'.pages[j]=Dt bs.pages[j])∧∀ (p:Pg) (h:count<8),more=[p]→b'.pages[count]=p
theorem Ae3 {a to':Nat} {bs bt:Blk} {c:Chip} {count:Nat} {more:List Pg} {B:Int} (hne:a≠to') (hl:more.length≤1) (h8:count+more.length≤8) (up:Up c) (ha:c.blocks[a]? =some bs) (hb:c.blocks[to']? =some bt) (hbad:bt.bad=false) (hbi:BI bt) (hn:bt.next=0) (hc:Cnt c B) (hB:B+100<8000000000000000000) :
  ∃ e c',fillC c (a:Nat) (to':Nat) count more=(e,c')∧Fr to' c c'∧Cnt c' (B+9)∧Out c c' e∧∃ b',c'.blocks[to']? =some b'∧BI b'∧b'.bad=false∧(e=0→N4 bs b' count more):=by
 obtain ⟨e,c1,h1,h2,h3,h4,b1,h5,h6,h7,h8'⟩:=Sf hne count c 0 bt B (by omega) up ha hb hbad hbi hn hc (by omega)
 have h1':Ft count c (a:Nat) (to':Nat) 0=(e,c1):=h1
 have hc1:Cnt c1 (B+9):=⟨by have:=h3.p0;omega,by have:=h3.w0;omega⟩
 unfold fillC
 rw [h1']
 by_cases he:e=0
 ·subst he
  rw [if_neg (by simp)]
  obtain ⟨q1,q2,q3⟩:=h8' rfl
  have up1:Up c1:=by
   rcases h4 with ⟨h,_⟩ | ⟨h,_⟩ | ⟨_,h⟩
   ·cases h
   ·cases h
   ·exact h
  match more,hl,h8 with
  | [],_,_ =>
   exact ⟨0,c1,rfl,h2,hc1,h4,b1,h5,h6,h7,fun _=>⟨by rw [q1];simp,fun j h hlt=>q3 j h (by omega) (by omega),fun p h hp=>by cases hp⟩⟩
  | [p],_,h8 =>
   have hc8:count<8:=by simp at h8;omega
   obtain ⟨e2,m,c2,p1,p2,p3,p4,p5⟩:=Qx (d:=p) up1 h5 hc8 h7 h6 (by rw [q1];simp) h3 (by omega)
   have hM:L8 [p] c1 (to':Nat) (count:Nat)=(e2,c2):=by
    unfold L8
    rw [p1]
    split
    ·rfl
    ·rename_i h
     have:e2=0:=by simpa using h
     rw [this];rfl
   have hbi':=Aag (q:=Ck m Ar p) h6 hc8 (by rw [q1];simp)
   refine ⟨e2,c2,hM,h2.trans p2,⟨by have:=p3.p0;omega,by have:=p3.w0;omega⟩,?_,_,p4,hbi',h7,fun h=> ?_⟩
   ·refine Out.step h2 ?_
    rcases p5 with p5 | ⟨r1,r2,r3,r4⟩ | ⟨r1,r2,r3⟩
    ·exact .inl p5
    ·exact .inr (.inl ⟨r1,r3,r4⟩)
    ·exact .inr (.inr ⟨r1,r3⟩)
   ·have hm:m=258:=by
     rcases p5 with ⟨r1,_⟩ | ⟨r1,_⟩ | ⟨_,r2,_⟩
     ·omega
     ·omega
     ·exact r2
    subst hm
    refine ⟨by show (count:Int)+1=_;simp,fun j hj hlt=> ?_,fun p' hp' heq=> ?_⟩
    ·rw [Gq hj,if_neg (by omega)]
     exact q3 j hj (by omega) (by omega)
    ·cases heq
     rw [Gq hp',if_pos rfl]
     exact F5 (A5q _)
 ·rw [if_pos (by simpa using he)]
  exact ⟨e,c1,rfl,h2,hc1,h4,b1,h5,h6,h7,fun h=>absurd h he⟩
theorem Aje {a to':Nat} {bs bt:Blk} {c:Chip} {count:Nat} {more:List Pg} {B:Int} (hne:a≠to') (hl:more.length≤1) (h8:count+more.length≤8) (up:Up c) (ha:c.blocks[a]? =some bs) (hb:c.blocks[to']? =some bt) (hbad:bt.bad=false) (hc:Cnt c B) (hB:B+200<8000000000000000000) :
  ∃ e c',Jd c (a:Nat) (to':Nat) count more=(e,c')∧Fr to' c c'∧Cnt c' (B+10)∧OutW c c' e∧∃ b',c'.blocks[to']? =some b'∧BI b'∧b'.bad=false∧(e=0→N4 bs b' count more):=by
 obtain ⟨e,c1,h1,h2,h3⟩:=Om up hb hbad hc (by omega)
 obtain ⟨b1,k1,k2,k3,k4,k5⟩:=h2.blk
 unfold Jd
 rw [h1]
 rcases h2.how with ⟨rfl,q1,q2⟩ | ⟨rfl,q1,q2⟩ | ⟨rfl,q1⟩
 ·rw [if_neg (by simp)]
  exact ⟨30,c1,rfl,h2.fr,⟨by have:=h3.p0;omega,by have:=h3.w0;omega⟩,.inl ⟨rfl,q1,q2⟩,b1,k1,k2,k3.trans hbad,fun h=>by cases h⟩
 ·rw [if_neg (by simp)]
  exact ⟨33,c1,rfl,h2.fr,⟨by have:=h3.p0;omega,by have:=h3.w0;omega⟩,.inr (.inl ⟨rfl,up.of h2.fr.dead h2.fr.out q1,by have:=h2.fr.fp;omega⟩),b1,k1,k2,k3.trans hbad,fun h=>by cases h⟩
 ·rw [if_pos rfl]
  have up1:=up.of h2.fr.dead h2.fr.out q1
  obtain ⟨e2,c2,r1,r2,r3,r4,b2,r5,r6,r7,r8⟩:=Ae3 (bs:=bs) (count:=count) (more:=more) hne hl h8 up1 (by rw [h2.fr.oth a hne];exact ha) k1 (k3.trans hbad) k2 (k5 rfl) h3 (by omega)
  exact ⟨e2,c2,r1,h2.fr.trans r2,⟨by have:=r3.p0;omega,by have:=r3.w0;omega⟩,OutW.step h2.fr (r4.w r2),b2,r5,r6,r7,r8⟩
end
section
open Go.K
structure DI (c:Chip) (t:TS) (n k:Nat):Prop where
 up:Up c
 ti:TI c t
 wf:WF n t.uses t.lost
 len:c.blocks.length=n
 bs:AllB c
 cnt:Cnt c (1000*k+1000)
 ver:t.version.toNat≤k+1
theorem DI.wt {c:Chip} {t:TS} {n k:Nat} (h:DI c t n k):WT n t:=by
 obtain ⟨a,h1,h2,b,h3,h4,h5⟩:=h.ti
 have:=h2.a2
 exact ⟨h.wf,h4,by omega⟩
theorem DI.mono {c:Chip} {t:TS} {n k k':Nat} (h:DI c t n k) (hk:k≤k'):DI c t n k' :=
 ⟨h.up,h.ti,h.wf,h.len,h.bs,⟨by have:=h.cnt.p0;omega,by have:=h.cnt.w0;omega⟩,by have:=h.ver;omega⟩
theorem DI.keep {c:Chip} {t:TS} {n k:Nat} {u lost:List Int} {e:Int} {t':TS} {c':Chip} (h:DI c t n k) (hk:k≤1000000000000) (hfp:FP c≤7) (hfw:FW c≤3) (hw:WF n u lost) (hr:(e,t',c')=Bw t u lost c) :
  Fr2 c c'∧((e=0∧DI c' t' n (k+1)∧t'.uses=u∧t'.lost=lost) ∨
   (e=30∧c'.off=true∧¬ c.after<0∧t'=t∧Cnt c' (1000*((k+1:Nat):Int)+1000)∧AllB c'∧∃ v uu ll a,v≤k+2∧Hold c' v uu ll a∧WF n uu ll∧((uu=t.uses∧ll=t.lost)∨(uu=u∧ll=lost)))):=by
 obtain ⟨e2,t2,c2,h1,h2,h3,h4⟩:=Ak2 (u:=u) (l:=lost) (B:=1000*k+1000) h.up h.ti (by have:=h.ver;omega) (by rw [h.len];exact hw.okP) hfp hfw h.cnt (by omega)
 rw [h1] at hr
 simp only [A48] at hr
 obtain ⟨rfl,rfl,rfl⟩:=hr
 have p:=h3.p0
 have q:=h3.w0
 have hc:Cnt c' (1000*((k+1:Nat):Int)+1000):=⟨by push_cast;omega,by push_cast;omega⟩
 have hv:=h.ver
 refine ⟨h2,?_⟩
 rcases h4 with ⟨h5,h6,h7,h8,h9,h10⟩ | ⟨h5,h6,h7,h8,h9⟩
 ·have h7k:=h7
  obtain ⟨a,_,hh,_⟩:=h7k
  exact .inl ⟨h5,⟨h6,h7,by rw [h8,h9];exact hw,h2.len.trans h.len,h.bs.keep h2 hh,hc,by omega⟩,h8,h9⟩
 ·refine .inr ⟨h5,h6,h7,h8,hc,?_⟩
  rcases h9 with ⟨a,hh⟩ | ⟨a,hh⟩
  ·exact ⟨h.bs.keep h2 hh,_,_,_,a,by omega,hh,h.wf,.inl ⟨rfl,rfl⟩⟩
  ·exact ⟨h.bs.keep h2 hh,_,_,_,a,by omega,hh,hw,.inr ⟨rfl,rfl⟩⟩
theorem DI.far {c c':Chip} {t:TS} {n k i:Nat} {b:Blk} (h:DI c t n k) (hi:2≤i) (f:Fr i c c') (up:Up c') (hb:c'.blocks[i]? =some b) (h1:BI b) (h2:b.bad=false) (hc:Cnt c' (1000*k+1000+10)):DI c' t n (k+1) :=
 ⟨up,h.ti.far hi f,h.wf,f.len.trans h.len,h.bs.far f hb h1 h2,⟨by have:=hc.p0;push_cast;omega,by have:=hc.w0;push_cast;omega⟩,by have:=h.ver;omega⟩
theorem Ajf {c:Chip} {n k v a:Nat} {u l:List Int} (up:Up c) (h:Hold c v u l a) (hw:WF n u l) (hl:c.blocks.length=n) (hb:AllB c) (hc:Cnt c (1000*k+1000)) (hv:v≤k+1):∃ t,Dk c=(0,t)∧DI c t n k∧t.uses=u∧t.lost=l:=by
 obtain ⟨t,h1,h2,h3,h4,h5⟩:=Ak3 up h
 exact ⟨t,h1,⟨up,h2,by rw [h3,h4];exact hw,hl,hb,hc,by omega⟩,h3,h4⟩
end
section
open Go.K
def SameU (u:List Int) (c c':Chip):Prop:=∀ x∈u,c'.blocks[x.toNat]? =c.blocks[x.toNat]?
structure FrA (c c':Chip):Prop where
  len:c'.blocks.length=c.blocks.length
  dead:c'.dead=c.dead
  out:c'.out=c.out
  aP:c'.aP=c.aP
  aC:c'.aC=c.aC
  aB:c'.aB=c.aB
  pf:c'.pf=c.pf
  wf:c'.wf=c.wf
  fp:FP c'≤FP c
  fw:FW c'≤FW c
  pos:c.after<0→c'.after=c.after∧c'.off=c.off
  keep:c'.keep=c.keep
theorem FrA.refl (c:Chip):FrA c c:=⟨rfl,rfl,rfl,rfl,rfl,rfl,rfl,rfl,A5q _,A5q _,fun _=>⟨rfl,rfl⟩,rfl⟩
theorem Fr.all {a:Nat} {c c':Chip} (h:Fr a c c'):FrA c c':=⟨h.len,h.dead,h.out,h.aP,h.aC,h.aB,h.pf,h.wf,h.fp,h.fw,h.pos,h.keep⟩
theorem Fr2.all {c c':Chip} (h:Fr2 c c'):FrA c c':=⟨h.len,h.dead,h.out,h.aP,h.aC,h.aB,h.pf,h.wf,h.fp,h.fw,h.pos,h.keep⟩
theorem FrA.trans {c c' c'':Chip} (h:FrA c c') (k:FrA c' c''):FrA c c'' :=
  ⟨k.len.trans h.len,k.dead.trans h.dead,k.out.trans h.out,k.aP.trans h.aP,k.aC.trans h.aC,k.aB.trans h.aB,k.pf.trans h.pf,k.wf.trans h.wf,A5f k.fp h.fp,A5f k.fw h.fw,
    fun hp=>by
      obtain ⟨h1,h2⟩:=h.pos hp
      obtain ⟨h3,h4⟩:=k.pos (by omega)
      exact ⟨h3.trans h1,h4.trans h2⟩,k.keep.trans h.keep⟩
def Y2 (n k:Nat) (b:Int) (count:Nat) (more:List Pg) (bs:Blk) (c:Chip) (t:TS) (r:Int×TS×Chip):Prop :=
  FrA c r.2.2∧SameU t.uses c r.2.2 ∧
  ((r.1=34∧DI r.2.2 r.2.1 n k∧r.2.1.uses=t.uses∧(Bi r.2.1 n).2=false∧r.2.1.lost.length+FP r.2.2+FW r.2.2≤t.lost.length+FP c+FW c) ∨
   (r.1=0∧DI r.2.2 r.2.1 n k∧r.2.1.lost.length+FP r.2.2+FW r.2.2≤t.lost.length+FP c+FW c+1∧t.lost.length+1≤r.2.1.lost.length∧∃ (x:Nat) (b':Blk),(x:Int)∉t.uses∧2≤x∧r.2.1.uses=t.uses.set b.toNat x∧r.2.2.blocks[x]? =some b'∧N4 bs b' count more) ∨
   (r.1=30∧r.2.2.off=true∧¬ c.after<0∧Cnt r.2.2 (1000*k+1000)∧AllB r.2.2∧∃ v uu ll a,v≤k+1∧ll.length+FP r.2.2+FW r.2.2≤t.lost.length+FP c+FW c+1∧Hold r.2.2 v uu ll a∧WF n uu ll∧(uu=t.uses∨∃ (x:Nat) (b':Blk),(x:Int)∉t.uses∧2≤x∧uu=t.uses.set b.toNat x∧r.2.2.blocks[x]? =some b'∧N4 bs b' count more)))
theorem SameU.trans {u:List Int} {c c' c'':Chip} (h:SameU u c c') (k:SameU u c' c''):SameU u c c'':=fun x hx=>(k x hx).trans (h x hx)
theorem SameU.far {u:List Int} {c c':Chip} {i:Nat} (f:Fr i c c') (h:∀ x∈u,0≤x) (hi:(i:Int)∉u):SameU u c c':=fun x hx=>f.oth _ (fun e=>hi (by have:=h x hx;rw [← e,A2h this];exact hx))
theorem SameU.two {u:List Int} {c c':Chip} (f:Fr2 c c') (h:∀ x∈u,2≤x):SameU u c c':=fun x hx=>f.oth _ (by have:=h x hx;omega)
end
section
open Go.K
theorem DI.try {c:Chip} {t:TS} {n k a:Nat} {bs:Blk} {count:Nat} {more:List Pg} {b e:Int} {c':Chip} (h:DI c t n k) (hk:k≤1000000000000) (hl:more.length≤1) (h8:count+more.length≤8) (hb:0≤b∧b<t.uses.length) (ha:at0 t.uses b=(a:Nat)) (hbs:c.blocks[a]? =some bs)
  (hs:(Bi t n).2=true) (ht:Jd c (atD t b) (Bi t n).1 count more=(e,c')) :
  ∃ x:Nat,(Bi t n).1=(x:Nat)∧2≤x∧(x:Int)∉t.uses∧Fr x c c'∧OutW c c' e∧SameU t.uses c c'∧Cnt c' (1000*k+1000+10)∧AllB c'∧∃ b',c'.blocks[x]? =some b'∧BI b'∧b'.bad=false∧(e=0→N4 bs b' count more):=by
 obtain ⟨s1,s2,s3,s4⟩:=Abn (J5 hs)
 obtain ⟨x,hx⟩:∃ x:Nat,(Bi t n).1=(x:Nat):=⟨(Bi t n).1.toNat,by omega⟩
 rw [hx] at s1 s2 s3 s4 ht
 have hat:atD t b=(a:Nat):=by
  unfold atD
  have:atT t b=(at0 t.uses b,true):=by
   unfold atT
   rw [if_neg (by simp;omega)]
  rw [this,if_pos rfl]
  exact ha
 have hmem:(a:Int)∈t.uses:=by rw [← ha];exact Lr hb
 have hne:a≠x:=fun e1=>s3 (by rw [← e1];exact hmem)
 have hlen:=h.len
 obtain ⟨bt,hbt⟩:∃ bt,c.blocks[x]? =some bt:=⟨_,A1d (by omega)⟩
 obtain ⟨hbi,hbad⟩:=h.bs x bt hbt
 obtain ⟨e2,c2,r1,r2,r3,r4,b',r5,r6,r7,r8⟩:=Aje (bs:=bs) (count:=count) (more:=more) (B:=1000*k+1000) hne hl h8 h.up hbs hbt hbad h.cnt (by omega)
 rw [hat,r1] at ht
 simp only [A48] at ht
 obtain ⟨rfl,rfl⟩:=ht
 exact ⟨x,hx,by omega,s3,r2,r4,SameU.far r2 (fun y hy=>by have:=h.wf.us y hy;omega) s3,r3,h.bs.far r2 r5 r6 r7,b',r5,r6,r7,r8⟩
end
section
open Go.K
theorem W1 {n:Nat} {b:Int} {count:Nat} {more:List Pg} {c:Chip} {t:TS} {r:Int×TS×Chip} (hm:MoveR n b count more c t r) :
  ∀ (k a:Nat) (bs:Blk),DI c t n k→k+2*(FP c+FW c)≤900000000000→FP c+FW c≤3→more.length≤1→count+more.length≤8→0≤b∧b<t.uses.length→at0 t.uses b=(a:Nat)→c.blocks[a]? =some bs →
   Y2 n (k+4*(FP c+FW c)+4) b count more bs c t r:=by
 induction hm with
 | none hs =>
  intro k a bs h hk hf hl h8 hb ha hbs
  exact ⟨.refl _,fun x hx=>rfl,.inl ⟨rfl,h.mono (by omega),rfl,hs,by simp only;omega⟩⟩
 | @err c t e c' hs ht he he3 =>
  intro k a bs h hk hf hl h8 hb ha hbs
  obtain ⟨x,_,hx2,hxu,f,ho,hS,hc,hA,_⟩:=h.try (by omega) hl h8 hb ha hbs hs ht
  obtain ⟨a0,_,hh,_⟩:=h.ti
  rcases ho with ⟨h1,h2,h3⟩ | ⟨h1,_⟩ | ⟨h1,_⟩
  ·exact ⟨f.all,hS,.inr (.inr ⟨h1,h2,h3,⟨by have:=hc.p0;simp only;push_cast;omega,by have:=hc.w0;simp only;push_cast;omega⟩,hA,_,_,_,a0,by have:=h.ver;omega,(by have:=f.fp;have:=f.fw;simp only;omega),hh.far hx2 f,h.wf,.inl rfl⟩)⟩
  ·exact absurd h1 he3
  ·exact absurd h1 he
 | @swap c t c' r hs ht hsw =>
  intro k a bs h hk hf hl h8 hb ha hbs
  obtain ⟨x,hx,hx2,hxu,f,ho,hS,hc,hA,b',hb',hbi,hbad,hfl⟩:=h.try (by omega) hl h8 hb ha hbs hs ht
  have upc:Up c':=by
   rcases ho with ⟨h1,_⟩ | ⟨h1,_⟩ | ⟨_,h1⟩
   ·cases h1
   ·cases h1
   ·exact h1
  have hD:=h.far hx2 f upc hb' hbi hbad hc
  have hsp:=J5 hs
  rw [hx] at hsp hsw
  have hat:(atT t b).2=true:=by
   unfold atT
   rw [if_neg (by simp;omega)]
  obtain ⟨lost,hp,hr⟩:=hsw.1 (by rw [hat,hD.len,hsp];rfl)
  have hw:=h.wf.swap hb hsp hp
  obtain ⟨e,t',c''⟩:=r
  have fp:=f.fp
  have fw:=f.fw
  obtain ⟨f2,hk2⟩:=hD.keep (by omega) (by omega) (by omega) hw hr
  have hb2:c''.blocks[x]? =some b':=by rw [f2.oth x hx2];exact hb'
  have hS2:=hS.trans (SameU.two f2 (fun y hy=>(h.wf.us y hy).1))
  have fp2:=f2.fp
  have fw2:=f2.fw
  rcases hk2 with ⟨h1,h2,h3,h4⟩ | ⟨h1,h2,h3,h4,h5,h6,v,uu,ll,a0,h7,h9,h10,h11⟩
  ·refine ⟨f.all.trans f2.all,hS2,.inr (.inl ⟨h1,h2.mono (by omega),?_,?_,x,b',hxu,hx2,h3,hb2,hfl rfl⟩)⟩
   ·simp only
    rw [h4,hp.length_eq]
    simp
    omega
   ·simp only
    rw [h4,hp.length_eq]
    simp
  ·refine ⟨f.all.trans f2.all,hS2,.inr (.inr ⟨h1,h2,fun hp=>h3 (by rw [(f.pos hp).1];exact hp),⟨by have:=h5.p0;simp only;push_cast at this ⊢;omega,by have:=h5.w0;simp only;push_cast at this ⊢;omega⟩,h6,v,uu,ll,a0,by omega,(by have:=f2.fp;have:=f2.fw;have:=f.fp;have:=f.fw;have:=hp.length_eq;simp only [A2x,A1z] at this ⊢;rcases h11 with ⟨_,e⟩ | ⟨_,e⟩ <;> rw [e] <;> omega),h9,h10,?_⟩)⟩
   rcases h11 with ⟨h12,_⟩ | ⟨h12,_⟩
   ·exact .inl h12
   ·exact .inr ⟨x,b',hxu,hx2,h12,hb2,hfl rfl⟩
 | @bad c t c' e t' c'' hs ht hlo he =>
  intro k a bs h hk hf hl h8 hb ha hbs
  obtain ⟨x,hx,hx2,hxu,f,ho,hS,hc,hA,b',hb',hbi,hbad,hfl⟩:=h.try (by omega) hl h8 hb ha hbs hs ht
  have upc:Up c':=by
   rcases ho with ⟨h1,_⟩ | ⟨_,h1,_⟩ | ⟨h1,_⟩
   ·cases h1
   ·exact h1
   ·cases h1
  have hD:=h.far hx2 f upc hb' hbi hbad hc
  have hsp:=J5 hs
  obtain ⟨lost,hp,hr⟩:=hlo.1 (by rw [hD.len];exact hsp)
  have hw:=h.wf.lose hsp hp
  have fp:=f.fp
  have fw:=f.fw
  obtain ⟨f2,hk2⟩:=hD.keep (by omega) (by omega) (by omega) hw hr
  have hS2:=hS.trans (SameU.two f2 (fun y hy=>(h.wf.us y hy).1))
  rcases hk2 with ⟨h1,_⟩ | ⟨h1,h2,h3,h4,h5,h6,v,uu,ll,a0,h7,h9,h10,h11⟩
  ·exact absurd h1 he
  ·refine ⟨f.all.trans f2.all,hS2,.inr (.inr ⟨h1,h2,fun hp=>h3 (by rw [(f.pos hp).1];exact hp),⟨by have:=h5.p0;simp only;push_cast at this ⊢;omega,by have:=h5.w0;simp only;push_cast at this ⊢;omega⟩,h6,v,uu,ll,a0,by omega,(by have:=f2.fp;have:=f2.fw;have:=f.fp;have:=f.fw;have:=hp.length_eq;simp only [A2x,A1z] at this ⊢;rcases h11 with ⟨_,e⟩ | ⟨_,e⟩ <;> rw [e] <;> omega),h9,h10,?_⟩)⟩
   rcases h11 with ⟨h12,_⟩ | ⟨h12,_⟩
   ·exact .inl h12
   ·exact .inl h12
 | @again c t c' t' c'' r hs ht hlo _ ih =>
  intro k a bs h hk hf hl h8 hb ha hbs
  obtain ⟨x,hx,hx2,hxu,f,ho,hS,hc,hA,b',hb',hbi,hbad,hfl⟩:=h.try (by omega) hl h8 hb ha hbs hs ht
  have upc:Up c'∧FP c'+FW c'+1≤FP c+FW c:=by
   rcases ho with ⟨h1,_⟩ | ⟨_,h1⟩ | ⟨h1,_⟩
   ·cases h1
   ·exact h1
   ·cases h1
  have hD:=h.far hx2 f upc.1 hb' hbi hbad hc
  have hsp:=J5 hs
  obtain ⟨lost,hp,hr⟩:=hlo.1 (by rw [hD.len];exact hsp)
  have hw:=h.wf.lose hsp hp
  have hf1:=upc.2
  obtain ⟨f2,hk2⟩:=hD.keep (by omega) (by omega) (by omega) hw hr
  have hS2:=hS.trans (SameU.two f2 (fun y hy=>(h.wf.us y hy).1))
  have fp2:=f2.fp
  have fw2:=f2.fw
  have hmem:(a:Int)∈t.uses:=by rw [← ha];exact Lr hb
  rcases hk2 with ⟨_,h2,h3,h4⟩ | ⟨h1,_⟩
  ·have hbs2:c''.blocks[a]? =some bs:=by
    have:=hS2 _ hmem
    rw [A24] at this
    rw [this];exact hbs
   have hll:t'.lost.length=t.lost.length+1:=by rw [h4,hp.length_eq];simp
   obtain ⟨g0,g1,g2⟩:=ih (k+2) a bs h2 (by omega) (by omega) hl h8 (by rw [h3];exact hb) (by rw [h3];exact ha) hbs2
   rw [h3] at g1 g2
   refine ⟨(f.all.trans f2.all).trans g0,hS2.trans g1,?_⟩
   rcases g2 with ⟨q1,q2,q3,q4,q5⟩ | ⟨q1,q2,q3,q3',q4⟩ | ⟨q1,q2,q3,q4,q5,v,uu,ll,a0,q6,q6',q7⟩
   ·exact .inl ⟨q1,q2.mono (by omega),q3,q4,by omega⟩
   ·exact .inr (.inl ⟨q1,q2.mono (by omega),by omega,by omega,q4⟩)
   ·exact .inr (.inr ⟨q1,q2,fun hp=>q3 (by rw [(f2.pos (by rw [(f.pos hp).1];exact hp)).1,(f.pos hp).1];exact hp),⟨by have:=q4.p0;omega,by have:=q4.w0;omega⟩,q5,v,uu,ll,a0,by omega,by omega,q7⟩)
  ·cases h1
end
section
open Go.K
theorem Y3 {t:TS} {b:Int} {a:Nat} (hb:0≤b∧b<t.uses.length) (ha:at0 t.uses b=(a:Nat)):atD t b=(a:Nat):=by
  unfold atD
  have:atT t b=(at0 t.uses b,true):=by
    unfold atT
    rw [if_neg (by simp;omega)]
  rw [this,if_pos rfl]
  exact ha
theorem Qy {c:Chip} {t:TS} {n k a j:Nat} {b:Int} {bs:Blk} {p:Pg} {r:Int×TS×Chip} (h:DI c t n k) (hk:k≤800000000000) (hf:FP c+FW c≤3) (hb:0≤b∧b<t.uses.length) (ha:at0 t.uses b=(a:Nat)) (hbs:c.blocks[a]? =some bs) (hj:j<8) (hn:bs.next=j) (hr:Se n b j p c t r) :
    ∃ m c1,Fr a c c1∧c1.blocks[a]? =some (wrK bs j (Ck m Ar p))∧AllB c1 ∧
      ((c1.off=true∧¬ c.after<0∧r=(30,t,c1)∧Cnt c1 (1000*((k+1:Nat):Int)+1000)) ∨
       (m=129∧(Bq c (atD t b) j p).1=33∧DI c1 t n (k+1)∧FP c1+1≤FP c∧Y2 n (k+1+4*(FP c1+FW c1)+4) b j [p] (wrK bs j (Ck 129 Ar p)) c1 t r) ∨
       (m=258∧Bq c (atD t b) j p=(0,c1)∧DI c1 t n (k+1)∧r=(0,t,c1))):=by
  obtain ⟨hbi,hbad⟩:=h.bs a bs hbs
  have hat:=Y3 hb ha
  have ha2:2≤a:=by have:=h.wf.us _ (Lr hb);rw [ha] at this;omega
  obtain ⟨e,m,c1,p1,f,hc,hblk,hcase⟩:=Qx (d:=p) (B:=1000*k+1000) h.up hbs hj hbad hbi hn h.cnt (by omega)
  have hbi':=Aag (q:=Ck m Ar p) hbi hj hn
  have hA:=h.bs.far f hblk hbi' hbad
  obtain ⟨r1,r2⟩:=hr
  rw [hat,p1] at r1 r2
  have hc1:Cnt c1 (1000*k+1000+10):=⟨by have:=hc.p0;omega,by have:=hc.w0;omega⟩
  refine ⟨m,c1,f,hblk,hA,?_⟩
  rcases hcase with ⟨rfl,h1,h2⟩ | ⟨rfl,rfl,h2,h3⟩ | ⟨rfl,rfl,h2⟩
  · exact .inl ⟨h1,h2,r2 (show ¬ (30:Int)=33 by decide),⟨by have:=hc.p0;push_cast;omega,by have:=hc.w0;push_cast;omega⟩⟩
  · have hD:=h.far ha2 f h2 hblk hbi' hbad hc1
    have fw:=f.fw
    have hM:MoveR n b j [p] c1 t r:=by
      have:=r1 rfl
      rwa [A24] at this
    exact .inr (.inl ⟨rfl,by rw [hat,p1],hD,h3,W1 hM (k+1) a _ hD (by omega) (by omega) (by simp) (by simp;omega) hb ha hblk⟩)
  · exact .inr (.inr ⟨rfl,by rw [hat,p1],h.far ha2 f h2 hblk hbi' hbad hc1,r2 (show ¬ (0:Int)=33 by decide)⟩)
end
section
open Go.K
theorem T0 {c:Chip} {t:TS} {n k a:Nat} {b:Int} {bs:Blk} {r:Int×TS×Chip} (h:DI c t n k) (hk:k≤800000000000) (hf:FP c+FW c≤3) (hb:0≤b∧b<t.uses.length) (ha:at0 t.uses b=(a:Nat)) (hbs:c.blocks[a]? =some bs) (hr:Qw n b c t r) :
    ∃ b1 c1,Fr a c c1∧c1.blocks[a]? =some b1∧BI b1∧AllB c1∧(∀ (j:Nat) (h:j<8),b1.pages[j]=Ar∨b1.pages[j]=bs.pages[j]) ∧
      ((c1.off=true∧¬ c.after<0∧r=(30,t,c1)∧Cnt c1 (1000*((k+1:Nat):Int)+1000)) ∨
       (DI c1 t n (k+1)∧FW c1+1≤FW c∧Y2 n (k+1+4*(FP c1+FW c1)+4) b 0 [] b1 c1 t r) ∨
       (DI c1 t n (k+1)∧b1.next=0∧r=(0,t,c1))):=by
  obtain ⟨hbi,hbad⟩:=h.bs a bs hbs
  have hat:=Y3 hb ha
  have ha2:2≤a:=by have:=h.wf.us _ (Lr hb);rw [ha] at this;omega
  obtain ⟨e,c1,p1,p2,hc⟩:=Om (B:=1000*k+1000) h.up hbs hbad h.cnt (by omega)
  obtain ⟨b1,k1,k2,k3,k4,k5⟩:=p2.blk
  have hA:=h.bs.far p2.fr k1 k2 (k3.trans hbad)
  obtain ⟨r1,r2⟩:=hr
  rw [hat,p1] at r1 r2
  have hc1:Cnt c1 (1000*k+1000+10):=⟨by have:=hc.p0;omega,by have:=hc.w0;omega⟩
  refine ⟨b1,c1,p2.fr,k1,k2,hA,k4,?_⟩
  rcases p2.how with ⟨rfl,h1,h2⟩ | ⟨rfl,h1,h2⟩ | ⟨rfl,h1⟩
  · exact .inl ⟨h1,h2,r2 (show ¬ (30:Int)=33 by decide),⟨by have:=hc.p0;push_cast;omega,by have:=hc.w0;push_cast;omega⟩⟩
  · have hD:=h.far ha2 p2.fr (h.up.of p2.fr.dead p2.fr.out h1) k1 k2 (k3.trans hbad) hc1
    have fp:=p2.fr.fp
    have hM:MoveR n b 0 [] c1 t r:=r1 rfl
    exact .inr (.inl ⟨hD,h2,W1 hM (k+1) a _ hD (by omega) (by omega) (by simp) (by simp) hb ha k1⟩)
  · exact .inr (.inr ⟨h.far ha2 p2.fr (h.up.of p2.fr.dead p2.fr.out h1) k1 k2 (k3.trans hbad) hc1,k5 rfl,r2 (show ¬ (0:Int)=33 by decide)⟩)
end
section
open Go.K
theorem Ajg {c:Chip} {t:TS} {n k a j:Nat} {b:Int} {bs:Blk} (h:DI c t n k) (hb:0≤b∧b<t.uses.length) (ha:at0 t.uses b=(a:Nat)) (hbs:c.blocks[a]? =some bs) (hj:j<8):B9 c (atD t b) j=0∧Bp c (atD t b) j=bs.pages[j]:=by
 have hi:a<c.blocks.length:=(A08.1 hbs).1
 rw [Y3 hb ha]
 have hm:=Adp h.up hi hj
 exact ⟨hm,Pv hm hbs hj⟩
end
section
open Go.K
theorem Abu {n:Nat} {t:TS} (h:WF n t.uses t.lost) (hs:(Bi t n).2=false):4≤t.lost.length:=by
 have hall:∀ x:Int,2≤x→x<n→x∈t.uses++t.lost:=fun x h1 h2=>by
  have hsp:D8 t n x=false:=by
   unfold Bi at hs
   cases hu:Lp t n with
   | some b=>rw [hu] at hs;cases hs
   | none =>
    unfold Lp at hu
    have:=List.find?_eq_none.1 hu x.toNat (A4v.2 (by omega))
    rw [A2h (by omega)] at this
    simpa using this
  unfold D8 at hsp
  rw [A4f]
  cases h3:E4 t.uses x with
  | true=>exact .inl (has_mem.1 h3)
  | false =>
   cases h4:E4 t.lost x with
   | true=>exact .inr (has_mem.1 h4)
   | false =>
    rw [h3,h4] at hsp
    simp at hsp
    omega
 have h1:=h.n1
 have:=Hx (l:=(List.range (n - 2)).map fun i=>((i:Nat):Int)+2) (m:=t.uses++t.lost) (by
  rw [A02,A3e]
  exact (A02.1 List.nodup_range).imp fun hne e=>hne (by omega)) (fun x hx=>by
   obtain ⟨i,hi,rfl⟩:=A5b.1 hx
   have:=A4v.1 hi
   exact hall _ (by omega) (by omega))
 have h2:=h.len
 simp at this
 omega
end
section
open Go.K
end
section
open Go.K
structure DV (c:Chip) (t:TS) (n k:Nat) (V:Nat→Blk):Prop where
 di:DI c t n k
 vw:∀ l:Nat,l+6<n→c.blocks[(at0 t.uses (l:Nat)).toNat]? =some (V l)
def upV (V:Nat→Blk) (b:Nat) (v:Blk):Nat→Blk:=fun l=>if l=b then v else V l
theorem E6 (V:Nat→Blk) (b:Nat) (v:Blk):upV V b v b=v:=if_pos rfl
theorem L9 {V:Nat→Blk} {b l:Nat} {v:Blk} (h:l≠b):upV V b v l=V l:=if_neg h
theorem DV.mono {c:Chip} {t:TS} {n k k':Nat} {V:Nat→Blk} (h:DV c t n k V) (hk:k≤k'):DV c t n k' V:=⟨h.di.mono hk,h.vw⟩
theorem JI.di {c:Chip} {t:TS} {u:List Int} {l:List Bool} {n:Nat} (h:JI c t u l n 0) (hb:∀ i,2≤i→i<n→c.blocks[i]? =some (Hb false)):DV c t n 0 fun _=>Hb false:=by
 have hU:∀ l:Nat,l+6<n→2≤at0 t.uses (l:Nat)∧at0 t.uses (l:Nat)<n:=fun l hl=>by
  have:=h.wf.us _ (Lr (l:=t.uses) (i:=(l:Nat)) (by have:=h.wf.len;omega))
  exact ⟨this.1,this.2.1⟩
 refine ⟨⟨h.up,h.ti,h.wf,h.len,fun i b hi=> ?_,h.cnt,h.ver⟩,fun l hl=> ?_⟩
 ·by_cases e:i<2
  ·obtain ⟨a,_,hh,_⟩:=h.ti
   obtain ⟨b2,h1,h2,h3⟩:=hh.bs i e
   rw [h1] at hi
   cases hi
   exact ⟨h2,h3⟩
  ·have hl:i<n:=by
    have:=(A08.1 hi).1
    have:=h.len
    omega
   rw [hb i (by omega) hl] at hi
   cases hi
   refine ⟨⟨by simp [Hb],fun j hj _=>by simp [Hb]⟩,rfl⟩
 ·have:=hU l hl
  exact hb _ (by omega) (by omega)
theorem Y4 {u:List Int} (h:u.Nodup) {l m:Nat} (hl:l<u.length) (hm:m<u.length) (e:at0 u (l:Nat)=at0 u (m:Nat)):l=m:=by
 have h1:at0 u (l:Nat)=u[l]:=by simp [at0,A00,hl]
 have h2:at0 u (m:Nat)=u[m]:=by simp [at0,A00,hm]
 rw [h1,h2] at e
 have hp:=A1a.1 (A02.1 h)
 rcases Nat.lt_trichotomy l m with h3 | h3 | h3
 ·exact absurd e (hp l m hl hm h3)
 ·exact h3
 ·exact absurd e.symm (hp m l hm hl h3)
theorem Y5 {u:List Int} {b l:Nat} {x:Int} (hb:b<u.length):at0 (u.set b x) (l:Nat)=if l=b then x else at0 u (l:Nat):=by
 unfold at0
 rw [A24,A00,A00,A3a]
 by_cases e:l=b
 ·subst e;simp [hb]
 ·rw [if_neg (fun h=>e h.symm),if_neg e]
section
variable {c:Chip} {t:TS} {n k:Nat} {V:Nat→Blk}
theorem DV.us (h:DV c t n k V) {l:Nat} (hl:l+6<n):2≤at0 t.uses (l:Nat)∧at0 t.uses (l:Nat)<n∧l<t.uses.length:=by
 have h1:=h.di.wf.len
 have:=h.di.wf.us _ (Lr (l:=t.uses) (i:=(l:Nat)) (by omega))
 exact ⟨this.1,this.2.1,by omega⟩
theorem DV.act {c':Chip} {k':Nat} {b:Nat} {v:Blk} (h:DV c t n k V) (hb:b+6<n) (f:Fr (at0 t.uses (b:Nat)).toNat c c') (hv:c'.blocks[(at0 t.uses (b:Nat)).toNat]? =some v) (hd:DI c' t n k'):DV c' t n k' (upV V b v):=by
 refine ⟨hd,fun l hl=> ?_⟩
 by_cases e:l=b
 ·subst e;rw [E6];exact hv
 ·rw [L9 e,f.oth _ (fun e2=>e ?_)]
  ·exact h.vw l hl
  ·have h1:=h.us hl
   have h2:=h.us hb
   exact Y4 h.di.wf.un h1.2.2 h2.2.2 (by omega)
theorem Qz {c c':Chip} {t:TS} {x l:Nat} (h:SameU t.uses c c') (hl:l<t.uses.length):c'.blocks[(at0 t.uses (l:Nat)).toNat]? =c.blocks[(at0 t.uses (l:Nat)).toNat]? :=h _ (Lr (by omega))
theorem DV.moved {c':Chip} {t':TS} {k':Nat} {b x:Nat} {v:Blk} (h:DV c t n k V) (hb:b+6<n) (hS:SameU t.uses c c') (hu:t'.uses=t.uses.set b x) (hv:c'.blocks[x]? =some v) (hd:DI c' t' n k'):DV c' t' n k' (upV V b v):=by
 refine ⟨hd,fun l hl=> ?_⟩
 have h1:=h.us hl
 have h2:=h.us hb
 rw [hu,Y5 h2.2.2]
 by_cases e:l=b
 ·subst e;rw [E6,if_pos rfl];exact hv
 ·rw [L9 e,if_neg e,Qz (x:=0) hS h1.2.2]
  exact h.vw l hl
theorem DV.stay {c':Chip} {t':TS} {k':Nat} (h:DV c t n k V) (hS:SameU t.uses c c') (hu:t'.uses=t.uses) (hd:DI c' t' n k'):DV c' t' n k' V:=by
 refine ⟨hd,fun l hl=> ?_⟩
 have h1:=h.us hl
 rw [hu,Qz (x:=0) hS h1.2.2]
 exact h.vw l hl
end
def Later (c:Chip) (n k m:Nat) (V:Nat→Blk):Prop :=
 ∀ d:Chip,d.blocks=c.blocks→Up d→d.pc=c.pc→d.wc=c.wc→∃ t2,Dk d=(0,t2)∧DV d t2 n k V∧t2.lost.length+FP c+FW c≤m
theorem AllB.same {c c':Chip} (h:AllB c) (hb:c'.blocks=c.blocks):AllB c':=fun i b hi=>h i b (by rw [← hb];exact hi)
theorem J6 {c:Chip} {n k m v a:Nat} {u l:List Int} {V:Nat→Blk} (h:Hold c v u l a) (hw:WF n u l) (hl:c.blocks.length=n) (hb:AllB c) (hc:Cnt c (1000*k+1000)) (hv:v≤k+1) (hm:l.length+FP c+FW c≤m)
  (hV:∀ i:Nat,i+6<n→c.blocks[(at0 u (i:Nat)).toNat]? =some (V i)):Later c n k m V:=fun d h1 h2 h3 h4=>by
 obtain ⟨t,o1,o2,o3,o4⟩:=Ajf h2 (h.same h1) hw (by rw [h1];exact hl) (hb.same h1) ⟨by rw [h3];exact hc.p0,by rw [h4];exact hc.w0⟩ hv
 exact ⟨t,o1,⟨o2,fun i hi=>by rw [o3,h1];exact hV i hi⟩,by rw [o4];exact hm⟩
def S3 (v w:Blk) (j:Nat):Prop:=∀ (i:Nat) (h:i<8),i<j→v.pages[i]=w.pages[i]∨v.pages[i]=Dt w.pages[i]
end
section
open Go.K
def PV (n k:Nat) (V:Nat→Blk) (b j:Nat) (p:Pg) (c:Chip) (t:TS) (r:Int×TS×Chip):Prop :=
  FrA c r.2.2∧∃ v:Blk,v.next=((j+1:Nat):Int)∧S3 v (V b) j ∧
  ((r.1=0∧DV r.2.2 r.2.1 n k (upV V b v)∧(∀ h:j<8,v.pages[j]=p)∧r.2.1.lost.length+FP r.2.2+FW r.2.2≤t.lost.length+FP c+FW c ∧
      (((Bq c (atD t (b:Nat)) j p).1=33∧t.lost.length+1≤r.2.1.lost.length∧∀ (i:Nat) (h:i<8),i<j→v.pages[i]=Dt (V b).pages[i])∨(Bq c (atD t (b:Nat)) j p=(0,r.2.2)∧r.2.1=t∧v=wrK (V b) j p))) ∨
   (r.1=34∧DV r.2.2 r.2.1 n k (upV V b v)∧4≤r.2.1.lost.length∧r.2.1.lost.length+FP r.2.2+FW r.2.2+1≤t.lost.length+FP c+FW c) ∨
   (r.1=30∧r.2.2.off=true∧¬ c.after<0∧(∃ m,∀ h:j<8,v.pages[j]=Ck m Ar p)∧Later r.2.2 n k (t.lost.length+FP c+FW c) (upV V b v)))
theorem Oz {w:Blk} {j:Nat} {q:Pg}:S3 (wrK w j q) w j:=fun i h hi=> .inl (by rw [Gq h,if_neg (by omega)])
theorem Sh {w x v:Blk} {j:Nat} {more:List Pg} {q:Pg} (h:N4 (wrK w j q) v j more):S3 v w j:=fun i hi hlt=> .inr (by rw [h.2.1 i hi hlt,Gq hi,if_neg (by omega)])
theorem Wm {w x v:Blk} {j:Nat} {more:List Pg} {q:Pg} (h:N4 (wrK w j q) v j more):∀ (i:Nat) (h:i<8),i<j→v.pages[i]=Dt w.pages[i]:=fun i hi hlt=>by rw [h.2.1 i hi hlt,Gq hi,if_neg (by omega)]
theorem Q0 (V:Nat→Blk) (b:Nat) (v w:Blk):upV (upV V b v) b w=upV V b w:=by
  funext l
  unfold upV
  split <;> rfl
theorem Ajh {c:Chip} {t:TS} {n k b j:Nat} {V:Nat→Blk} {p:Pg} {r:Int×TS×Chip} (h:DV c t n k V) (hk:k≤700000000000) (hf:FP c+FW c≤3) (hb:b+6<n) (hj:j<8) (hn:(V b).next=j) (hr:Se n (b:Nat) j p c t r):PV n (k+20) V b j p c t r:=by
  have hu:=h.us hb
  have hlen:=h.di.len
  obtain ⟨a,ha⟩:∃ a:Nat,at0 t.uses (b:Nat)=(a:Nat):=⟨(at0 t.uses (b:Nat)).toNat,by omega⟩
  have hva:=h.vw b hb
  have hta:(at0 t.uses (b:Nat)).toNat=a:=by omega
  rw [hta] at hva
  obtain ⟨m,c1,f,hw,hA,hcase⟩:=Qy h.di (by omega) hf (by omega) ha hva hj hn hr
  rcases hcase with ⟨h1,h2,rfl,h3⟩ | ⟨rfl,hpe,h1,h2,h0,hS,h3⟩ | ⟨rfl,hpe,h1,rfl⟩
  · refine ⟨f.all,wrK (V b) j (Ck m Ar p),by show (j:Int)+1=_;omega,Oz,.inr (.inr ⟨rfl,h1,h2,⟨m,fun hj'=>by rw [Gq hj',if_pos rfl]⟩,?_⟩)⟩
    obtain ⟨a0,_,hh,_⟩:=h.di.ti
    have fp:=f.fp
    have fw:=f.fw
    have hv:=h.di.ver
    refine J6 (hh.far (by omega) f) h.di.wf (f.len.trans hlen) hA ⟨by have:=h3.p0;push_cast at this ⊢;omega,by have:=h3.w0;push_cast at this ⊢;omega⟩ (by omega) (by simp only;omega) fun i hi=> ?_
    by_cases e:i=b
    · subst e;rw [E6,hta];exact hw
    · have hui:=h.us hi
      rw [L9 e,f.oth _ (fun e2=>e (Y4 h.di.wf.un hui.2.2 hu.2.2 (by omega)))]
      exact h.vw i hi
  · have fw:=f.fw
    have hD:=h.act hb (by rw [hta];exact f) (by rw [hta];exact hw) h1
    refine ⟨f.all.trans h0,?_⟩
    rcases h3 with ⟨q1,q2,q3,q4,q5⟩ | ⟨q1,q2,q3,q4,x,b',q5,q6,q7,q8,q9⟩ | ⟨q1,q2,q3,q4,q5,v,uu,ll,a0,q6,q6',q7,q8,q9⟩
    · refine ⟨_,by show (j:Int)+1=_;omega,Oz,.inr (.inl ⟨q1,(hD.stay hS q3 q2).mono (by omega),Abu q2.wf q4,by omega⟩)⟩
    · refine ⟨b',by rw [q9.1];simp,Sh (x:=b') q9,.inl ⟨q1,?_,fun hj'=>q9.2.2 p hj' rfl,by omega,.inl ⟨hpe,q4,Wm (x:=b') q9⟩⟩⟩
      have:=(hD.moved hb hS (by rw [A24] at q7;exact q7) q8 q2).mono (k':=k+20) (by omega)
      rwa [Q0] at this
    · have q3':¬ c.after<0:=fun hp=>q3 (by rw [(f.pos hp).1];exact hp)
      have hc':Cnt r.2.2 (1000*((k+20:Nat):Int)+1000):=⟨by have:=q4.p0;push_cast at this ⊢;omega,by have:=q4.w0;push_cast at this ⊢;omega⟩
      have hl':r.2.2.blocks.length=n:=h0.len.trans h1.len
      rcases q9 with q9 | ⟨x,b',r1,r2,r3,r4,r5⟩
      · refine ⟨_,by show (j:Int)+1=_;omega,Oz,.inr (.inr ⟨q1,q2,q3',⟨129,fun hj'=>by rw [Gq hj',if_pos rfl]⟩,?_⟩)⟩
        refine J6 q7 q8 hl' q5 hc' (by omega) (by omega) fun i hi=> ?_
        rw [q9,Qz (x:=0) hS (h.us hi).2.2]
        exact hD.vw i hi
      · refine ⟨b',by rw [r5.1];simp,Sh (x:=b') r5,.inr (.inr ⟨q1,q2,q3',⟨258,fun hj'=>by rw [F5 (A5q _)];exact r5.2.2 p hj' rfl⟩,?_⟩)⟩
        refine J6 q7 q8 hl' q5 hc' (by omega) (by omega) fun i hi=> ?_
        rw [r3,A24,Y5 hu.2.2]
        by_cases e:i=b
        · subst e;rw [if_pos rfl,E6];exact r4
        · rw [if_neg e,L9 e,Qz (x:=0) hS (h.us hi).2.2,hD.vw i hi,L9 e]
  · refine ⟨f.all,_,by show (j:Int)+1=_;omega,Oz,.inl ⟨rfl,(h.act hb (by rw [hta];exact f) (by rw [hta];exact hw) h1).mono (by omega),fun hj'=>by rw [Gq hj',if_pos rfl];exact F5 (A5q _),?_,.inr ⟨hpe,rfl,by rw [F5 (A5q _)]⟩⟩⟩
    have fp:=f.fp
    have fw:=f.fw
    simp only
    omega
def EV (n k:Nat) (V:Nat→Blk) (b:Nat) (c:Chip) (t:TS) (r:Int×TS×Chip):Prop :=
  FrA c r.2.2∧∃ v:Blk,(∀ (j:Nat) (h:j<8),v.pages[j]=Ar∨v.pages[j]=(V b).pages[j]) ∧
  ((r.1=0∧DV r.2.2 r.2.1 n k (upV V b v)∧v.next=0∧r.2.1.lost.length+FP r.2.2+FW r.2.2≤t.lost.length+FP c+FW c) ∨
   (r.1=34∧DV r.2.2 r.2.1 n k (upV V b v)∧4≤r.2.1.lost.length∧r.2.1.lost.length+FP r.2.2+FW r.2.2+1≤t.lost.length+FP c+FW c) ∨
   (r.1=30∧r.2.2.off=true∧¬ c.after<0∧Later r.2.2 n k (t.lost.length+FP c+FW c) (upV V b v)))
theorem DV.blk {c:Chip} {t:TS} {n k:Nat} {V:Nat→Blk} (h:DV c t n k V) {l:Nat} (hl:l+6<n):BI (V l)∧(V l).bad=false:=h.di.bs _ _ (h.vw l hl)
theorem BI.none {b:Blk} (h:BI b) (h0:b.next=0) (j:Nat) (hj:j<8):b.pages[j]=Ar:=h.bl j hj (by omega)
theorem Ae4 {c:Chip} {t:TS} {n k b:Nat} {V:Nat→Blk} {r:Int×TS×Chip} (h:DV c t n k V) (hk:k≤700000000000) (hf:FP c+FW c≤3) (hb:b+6<n) (hr:Qw n (b:Nat) c t r):EV n (k+20) V b c t r:=by
  have hu:=h.us hb
  have hlen:=h.di.len
  obtain ⟨a,ha⟩:∃ a:Nat,at0 t.uses (b:Nat)=(a:Nat):=⟨(at0 t.uses (b:Nat)).toNat,by omega⟩
  have hva:=h.vw b hb
  have hta:(at0 t.uses (b:Nat)).toNat=a:=by omega
  rw [hta] at hva
  obtain ⟨b1,c1,f,hw,hbi,hA,hpg,hcase⟩:=T0 h.di (by omega) hf (by omega) ha hva hr
  rcases hcase with ⟨h1,h2,rfl,h3⟩ | ⟨h1,h2,h0,hS,h3⟩ | ⟨h1,h2,rfl⟩
  · refine ⟨f.all,b1,hpg,.inr (.inr ⟨rfl,h1,h2,?_⟩)⟩
    obtain ⟨a0,_,hh,_⟩:=h.di.ti
    have fp:=f.fp
    have fw:=f.fw
    have hv:=h.di.ver
    refine J6 (hh.far (by omega) f) h.di.wf (f.len.trans hlen) hA ⟨by have:=h3.p0;push_cast at this ⊢;omega,by have:=h3.w0;push_cast at this ⊢;omega⟩ (by omega) (by simp only;omega) fun i hi=> ?_
    by_cases e:i=b
    · subst e;rw [E6,hta];exact hw
    · have hui:=h.us hi
      rw [L9 e,f.oth _ (fun e2=>e (Y4 h.di.wf.un hui.2.2 hu.2.2 (by omega)))]
      exact h.vw i hi
  · have fp:=f.fp
    have hD:=h.act hb (by rw [hta];exact f) (by rw [hta];exact hw) h1
    refine ⟨f.all.trans h0,?_⟩
    rcases h3 with ⟨q1,q2,q3,q4,q5⟩ | ⟨q1,q2,q3,q4,x,b',q5,q6,q7,q8,q9⟩ | ⟨q1,q2,q3,q4,q5,v,uu,ll,a0,q6,q6',q7,q8,q9⟩
    · exact ⟨b1,hpg,.inr (.inl ⟨q1,(hD.stay hS q3 q2).mono (by omega),Abu q2.wf q4,by omega⟩)⟩
    · have hb0:b'.next=0:=by rw [q9.1];rfl
      have hbi':=(q2.bs _ _ q8).1
      refine ⟨b',fun j hj=> .inl (hbi'.none hb0 j hj),.inl ⟨q1,?_,hb0,by omega⟩⟩
      have:=(hD.moved hb hS (by rw [A24] at q7;exact q7) q8 q2).mono (k':=k+20) (by omega)
      rwa [Q0] at this
    · have q3':¬ c.after<0:=fun hp=>q3 (by rw [(f.pos hp).1];exact hp)
      have hc':Cnt r.2.2 (1000*((k+20:Nat):Int)+1000):=⟨by have:=q4.p0;push_cast at this ⊢;omega,by have:=q4.w0;push_cast at this ⊢;omega⟩
      have hl':r.2.2.blocks.length=n:=h0.len.trans h1.len
      rcases q9 with q9 | ⟨x,b',r1,r2,r3,r4,r5⟩
      · refine ⟨b1,hpg,.inr (.inr ⟨q1,q2,q3',?_⟩)⟩
        refine J6 q7 q8 hl' q5 hc' (by omega) (by omega) fun i hi=> ?_
        rw [q9,Qz (x:=0) hS (h.us hi).2.2]
        exact hD.vw i hi
      · have hb0:b'.next=0:=by rw [r5.1];rfl
        have hbi':=(q5 _ _ r4).1
        refine ⟨b',fun j hj=> .inl (hbi'.none hb0 j hj),.inr (.inr ⟨q1,q2,q3',?_⟩)⟩
        refine J6 q7 q8 hl' q5 hc' (by omega) (by omega) fun i hi=> ?_
        rw [r3,A24,Y5 hu.2.2]
        by_cases e:i=b
        · subst e;rw [if_pos rfl,E6];exact r4
        · rw [if_neg e,L9 e,Qz (x:=0) hS (h.us hi).2.2,hD.vw i hi,L9 e]
  · exact ⟨f.all,b1,hpg,.inl ⟨rfl,(h.act hb (by rw [hta];exact f) (by rw [hta];exact hw) h1).mono (by omega),h2,by have fp:=f.fp;have fw:=f.fw;simp only;omega⟩⟩
end
section
open Go.K
section
variable {c:Chip} {t:TS} {n k:Nat} {V:Nat→Blk} {b j:Int} {p:Pg} {r:Int×TS×Chip}
theorem Ame (h:DV c t n k V) {b j:Nat} (hb:b+6<n) (hj:j<8) (hn:(V b).next≠j) (hr:Se n (b:Nat) (j:Nat) p c t r):r=(32,t,c):=by
 have hu:=h.us hb
 have hv:=h.vw b hb
 have hat:atD t (b:Nat)=((at0 t.uses (b:Nat)).toNat:Nat):=Y3 (by omega) (by omega)
 have hp:=Yi h.di.up (d:=p) hv hj hn
 rw [← hat] at hp
 have:=hr.2 (by rw [hp];simp)
 rw [hp] at this
 exact this
theorem Amf (h:DV c t n k V) {b j:Nat} (hb:b+6<n) (hj:j<8):B9 c (atD t (b:Nat)) j=0∧Bp c (atD t (b:Nat)) j=(V b).pages[j]:=by
 have hu:=h.us hb
 exact Ajg h.di (by omega) (by omega) (h.vw b hb) hj
end
end
section
open Go.K
structure Dsk where
 dk:Nat
 t:Tab
 c:Chip
@[irreducible] def dkH (d:Dsk):Hp:=(d.dk,true,C [ptr d.c.aC,ptr d.t.b] tDk)::(Di d.c.aC d.t++(chH d.c++[]))
theorem Gg (d:Dsk):dkH d=(d.dk,true,C [ptr d.c.aC,ptr d.t.b] tDk)::(Di d.c.aC d.t++(chH d.c++[])):=by unfold dkH;rfl
def DD (d:Dsk) (n k:Nat) (V:Nat→Blk):Prop:=DV d.c d.t.ts n k V
theorem Awi (d:Dsk):∀ x∈chH d.c,x∈dkH d:=fun x hx=>by
 rw [Gg]
 exact .tail _ (A10 _ (A18 _ hx))
section
variable {d:Dsk}
theorem Amg:Does Tryz.prog 66 [ptr d.dk] (dkH d) (Is (.int .i64 d.t.u.list.length) (dkH d)):=by
 rw [Gg];exact (Ar3 (a:=d.c.aC) (t:=d.t) (dk:=d.dk)).inIs sP aQ sP
theorem Jj {b k:Int}:Does Tryz.prog 100 [ptr d.dk,.int .i64 b,.int .i64 k] (dkH d)
  (Is (.tuple #[.agg (vbc (Bp d.c (atD d.t.ts b) k)).toArray,.int .i64 (B9 d.c (atD d.t.ts b) k)]) (dkH d)):=by
 rw [Gg];exact (Abr (c:=d.c) (t:=d.t) (dk:=d.dk) rfl).inIs sP aQ sP
theorem T1 {n k:Nat} {V:Nat→Blk} (h:DD d n k V) {b j:Int} {p:Pg}:Does Tryz.prog 171 [ptr d.dk,.int .i64 b,.int .i64 j,.agg (vbc p).toArray] (dkH d)
  (fun v H=>∃ (t':Tab) (c':Chip) (e:Int),v= .int .i64 e∧H=dkH ⟨d.dk,t',c'⟩++[]∧Se n b j p d.c d.t.ts (e,t'.ts,c')):=by
 rw [Gg]
 refine (Abt (c:=d.c) (t:=d.t) (dk:=d.dk) (n:=n) rfl h.di.len h.di.wt).inn sP fun v Y ⟨t',e,c',h1,h2,h3,h4,h5⟩=> ?_
 refine ⟨_,⟨t',c',e,h2,rfl,h5⟩,?_⟩
 rw [h3,Gg]
 simp only [h4,A37]
 exact ⟨_,_,aQ,sP⟩
theorem Amh {n k:Nat} {V:Nat→Blk} (h:DD d n k V) {b:Int}:Does Tryz.prog 170 [ptr d.dk,.int .i64 b] (dkH d)
  (fun v H=>∃ (t':Tab) (c':Chip) (e:Int),v= .int .i64 e∧H=dkH ⟨d.dk,t',c'⟩++[]∧Qw n b d.c d.t.ts (e,t'.ts,c')):=by
 rw [Gg]
 refine (Ajc (c:=d.c) (t:=d.t) (dk:=d.dk) (n:=n) rfl h.di.len h.di.wt).inn sP fun v Y ⟨t',e,c',h1,h2,h3,h4,h5⟩=> ?_
 refine ⟨_,⟨t',c',e,h2,rfl,h5⟩,?_⟩
 rw [h3,Gg]
 simp only [h4,A37]
 exact ⟨_,_,aQ,sP⟩
end
theorem Ami (m:Nat):(Ha m []).countP id=0:=by
 unfold Ha
 rw [List.countP_map]
 exact List.countP_eq_zero.2 fun x _=>(show ¬ false=true from A2r)
structure New0 (d:Dsk) (m:Nat):Prop where
 dd:DD d m 0 fun _=>Hb false
 pf:d.c.pf.list=[]
 wf:d.c.wf.list=[]
 af:d.c.after<0
 lost:d.t.ts.lost.length=0
 uses:d.t.ts.uses=Ox (Ha m []) ((m:Int) - 6) m
theorem Aji {pp aC aB m:Nat} (hm:16≤m∧m≤40) (hX:Wz (Ha m [])=false):Does Tryz.prog 84 [ptr aC] (chH (Ds (-1) 0 pp aC aB m []))
  (fun v H=>∃ d:Dsk,v= .tuple #[ptr d.dk,.int .i64 0]∧H=dkH d++[]∧New0 d m):=by
 refine (Ae2 (pp:=pp) (aC:=aC) (aB:=aB) hm hX).mono fun v H ⟨dk,tb,c',h1,h2,h3,_,h4,h5⟩=> ?_
 refine ⟨⟨dk,tb,c'⟩,h1,by rw [Gg,h2,← h3];simp,h4.di h5,h4.pf,h4.wfl,h4.af,?_,h4.rel.uu.symm⟩
 have:=h4.rel.count
 rw [Ami] at this
 exact this.symm
theorem Awj {c:Chip} (h:c.pf.list=[]):FP c=0:=by unfold FP;rw [h];rfl
theorem Awk {c:Chip} (h:c.wf.list=[]):FW c=0:=by unfold FW;rw [h];rfl
end
section
open Go.K
def nF (p:Pg) (kind:By):Wd×Bool:=((C2 8 (Bz p).2.1 false).1,(decide ((Bz p).2.2.2=0) && decide (((Bz p).1.toNat:Int)=kind.toNat)) && decide (((Bz p).2.1.length:Int)=8))
def Wn (kind:By) (x:Wd):Pg:=Cp kind (B4 8 x)
theorem K4 {kind:By} (h:0<kind.toNat∧kind.toNat<255) (x:Wd):C1 kind (B4 8 x)=false:=by
 unfold C1
 rw [A4]
 simp
 omega
theorem Awp {kind:By} (h:0<kind.toNat∧kind.toNat<255) (x:Wd):nF (Wn kind x) kind=(x,true):=by
 have hr:=Iu (K4 h x)
 unfold nF Wn
 rw [hr]
 have h1:(B4 8 x).length=8:=A4 8 x
 have h2:C2 8 (B4 8 x) false=(Ec (B4 8 x) 8,[],false):=by
  have:=Ks (k:=8) (xs:=B4 8 x) (r:=[]) (bad:=false) h1
  rwa [A37] at this
 simp [h2,Kr,h1]
theorem Amv {p:Pg} {kind:By} (h:(Bz p).2.2.2≠0):(nF p kind).2=false:=by
 unfold nF
 simp [h]
theorem O1 {kind:By}:(nF Ar kind).2=false:=Amv (by rw [E7 Vl];decide)
theorem Iv {kind:By} (h:0<kind.toNat∧kind.toNat<255) (x:Wd):Dt (Wn kind x)=Wn kind x:=W0 (K4 h x)
abbrev Jk (x:Wd):Pg:=Wn 2 x
abbrev O2 (x:Wd):Pg:=Wn 3 x
structure LB where
 wear:Wd
 known:Bool
 seq:Wd
 ready:Bool
 next:Int
def lbC (x:LB):List Value:=[wv x.wear,.bool x.known,wv x.seq,.bool x.ready,.int .i64 x.next]
instance:Cel LB:=⟨5,lbC,fun _=>rfl,fun _=>rfl⟩
def lbs (l:List LB):List Value:=l.flatMap lbC
def Av (v:Blk) (i:Nat):Pg:=if h:i<8 then v.pages[i] else Ar
def Fo (v:Blk):Nat→Nat
 | 0=>8
 | k+1=>if Fo v k=8 - k∧Be (Av v (7 - k))=true then 7 - k else Fo v k
def Lt (v:Blk):Nat:=Fo v 8
theorem T6 (v:Blk):∀ k,k≤8→8 - k≤Fo v k∧Fo v k≤8
 | 0,_=>⟨A5q _,A5q _⟩
 | k+1,h=>by
  have ih:=T6 v k (by omega)
  unfold Fo
  split <;> omega
@[irreducible] def B8 (v:Blk):LB:=⟨(nF (Av v 0) 2).1,(nF (Av v 0) 2).2,if (nF (Av v 1) 3).2=true then (nF (Av v 1) 3).1 else 0,false,if (nF (Av v 1) 3).2=true then (Lt v:Int) else 8⟩
theorem T7 {v:Blk} {k:Nat} (h:Fo v k=8 - k) (hb:Be (Av v (7 - k))=false) (hk:k≤8):∀ m,k<m→m≤8→Fo v m=8 - k
 | 0,h1,_=>by omega
 | m+1,h1,h2=>by
  unfold Fo
  by_cases e:m=k
  ·subst e
   rw [if_neg (by rw [hb];simp)];exact h
  ·have ih:=T7 h hb hk m (by omega) (by omega)
   rw [ih,if_neg (by omega)]
theorem Abz {v:Blk} {k:Nat} (h:Fo v k=8 - k) (hb:Be (Av v (7 - k))=true):Fo v (k+1)=7 - k:=by
 unfold Fo
 rw [if_pos ⟨h,hb⟩]
theorem T8 {v:Blk} {k:Nat} (h:Fo v k=8 - k) (hb:Be (Av v (7 - k))=false) (hk:k<8):Lt v=8 - k:=T7 h hb (by omega) 8 hk (A5q _)
def bAt (bs:List LB) (b:Nat):LB:=bs.getD b ⟨0,false,0,false,0⟩
theorem Td {bs:List LB} {b:Nat} {x:LB} (h:bs[b]? =some x):bAt bs b=x:=by simp [bAt,A00,h]
theorem Er {bs:List LB} {b:Nat} (h:b<bs.length):bs[b]? =some (bAt bs b):=by
 rw [A1d h]
 simp [bAt,A00,h]
def Dv (bs:List LB):Nat→Int
 | 0=> -1
 | k+1=>if 0<(bAt bs k).seq.toNat∧(Dv bs k<0∨(bAt bs (Dv bs k).toNat).seq.toNat<(bAt bs k).seq.toNat) then k else Dv bs k
theorem K5 (bs:List LB):∀ k,(Dv bs k= -1∧∀ j<k,(bAt bs j).seq.toNat=0)∨(∃ l:Nat,Dv bs k=l∧l<k∧0<(bAt bs l).seq.toNat∧∀ j<k,(bAt bs j).seq.toNat≤(bAt bs l).seq.toNat)
 | 0=> .inl ⟨rfl,fun j hj=>by omega⟩
 | k+1=>by
  rcases K5 bs k with ⟨h1,h2⟩ | ⟨l,h1,h2,h3,h4⟩
  ·unfold Dv
   rw [h1]
   by_cases h:0<(bAt bs k).seq.toNat
   ·rw [if_pos ⟨h,.inl (by omega)⟩]
    refine .inr ⟨k,rfl,by omega,h,fun j hj=> ?_⟩
    by_cases e:j=k
    ·subst e;exact A5q _
    ·rw [h2 j (by omega)];omega
   ·rw [if_neg (fun h5=>h h5.1)]
    refine .inl ⟨rfl,fun j hj=> ?_⟩
    by_cases e:j=k
    ·subst e;omega
    ·exact h2 j (by omega)
  ·unfold Dv
   rw [h1,A24]
   by_cases h:(bAt bs l).seq.toNat<(bAt bs k).seq.toNat
   ·rw [if_pos ⟨by omega,.inr h⟩]
    refine .inr ⟨k,rfl,by omega,by omega,fun j hj=> ?_⟩
    by_cases e:j=k
    ·subst e;exact A5q _
    ·have:=h4 j (by omega);omega
   ·rw [if_neg (fun h5=>by rcases h5.2 with h6 | h6 <;> omega)]
    refine .inr ⟨l,rfl,by omega,h3,fun j hj=> ?_⟩
    by_cases e:j=k
    ·subst e;omega
    ·exact h4 j (by omega)
def Nq (bs:List LB):Nat→Wd
 | 0=>0
 | k+1=>if (Nq bs k).toNat<(bAt bs k).wear.toNat then (bAt bs k).wear else Nq bs k
def H6 (m:Wd) (x:LB):LB:=if x.known=true then x else { x with wear:=m }
def D2 (V:Nat→Blk) (nb:Nat):List LB×Int :=
 let bs:=(List.range nb).map fun b=>B8 (V b)
 (bs.map (H6 (Nq bs nb)),Dv bs nb)
end
section
open Go.K
instance ent83:Ent Tryz.prog 83:=⟨fun _ _=>by kernel_rfl⟩
theorem Amj {c:Chip} {t2:TS} (hb:2≤c.blocks.length∧c.blocks.length≤1000) (ho:Dk c=(0,t2)):Does Tryz.prog 83 [ptr c.aC] (chH c)
  (fun v H=>∃ (dk:Nat) (tb:Tab),v= .tuple #[ptr dk,.int .i64 0]∧H=(dk,true,C [ptr c.aC,ptr tb.b] tDk)::(Di c.aC tb++(chH c++[]))∧tb.ts=t2):=by
 refine zF 17 Tryz.func83 ?_
 refine zC ?_
 refine zE rfl (Ayx (c:=c) rfl (by omega) ho) ?_
 rintro _ _ ⟨tb,rfl,rfl,htb⟩
 refine zW ?_
 refine zE rfl (Ahc (a:=c.aC) (tb:=tb.b)) ?_
 rintro _ _ ⟨dk,rfl,rfl⟩
 refine zW ?_
 exact zL (hR:=by exact ⟨dk,tb,rfl,rfl,htb⟩)
theorem Ar6 {d:Dsk} {t2:TS} (hb:2≤d.c.blocks.length∧d.c.blocks.length≤1000) (ho:Dk d.c=(0,t2)):Does Tryz.prog 83 [ptr d.c.aC] (dkH d)
  (fun v H=>∃ (dk':Nat) (tb:Tab),v= .tuple #[ptr dk',.int .i64 0]∧H=dkH ⟨dk',tb,d.c⟩++[]∧tb.ts=t2):=by
 rw [Gg]
 refine (Amj hb ho).inn sP fun v Y ⟨dk',tb,h1,h2,h3⟩=> ?_
 refine ⟨_,⟨dk',tb,h1,rfl,h3⟩,?_⟩
 rw [h2,Gg]
 simp only [A37]
 exact ⟨_,_,aQ,sP⟩
theorem DV.same {c c':Chip} {t:TS} {n k:Nat} {V:Nat→Blk} (h:DV c t n k V) (hb:c'.blocks=c.blocks) (up:Up c') (hp:c'.pc=c.pc) (hw:c'.wc=c.wc):DV c' t n k V :=
 ⟨⟨up,h.di.ti.same hb,h.di.wf,by rw [hb];exact h.di.len,h.di.bs.same hb,⟨by rw [hp];exact h.di.cnt.p0,by rw [hw];exact h.di.cnt.w0⟩,h.di.ver⟩,by rw [hb];exact h.vw⟩
section
variable {d:Dsk}
theorem Ayz:Does Tryz.prog 38 [ptr d.c.aP] (dkH d) (Is (.tuple #[]) (dkH ⟨d.dk,d.t,onC d.c⟩)):=by
 rw [Gg,Gg]
 exact (Arx (c:=d.c)).inIs sP aQ sP
theorem Awl {a k:Int}:Does Tryz.prog 36 [ptr d.c.aP,.int .i64 a,.int .i64 k] (dkH d) (Is (.tuple #[]) (dkH ⟨d.dk,d.t,Wy d.c a k⟩)):=by
 rw [Gg,Gg]
 exact (Al6 (c:=d.c)).inIs sP aQ sP
end
end
section
open Go.K
instance agg68:Agg Tryz.prog 68 false:=⟨⟨_,Tryz.underlying68,rfl⟩⟩
instance und69:Und Tryz.prog 69 (.slice 140):=⟨Tryz.underlying69⟩
instance agg69:Agg Tryz.prog 69 false:=⟨⟨_,Tryz.underlying69,rfl⟩⟩
instance agg140:Agg Tryz.prog 140 true:=⟨⟨_,Tryz.underlying140,rfl⟩⟩
instance siz140:Siz Tryz.prog 140 5:=⟨by kernel_rfl⟩
instance zer140:Zer Tryz.prog 140 ([.int .u64 0,.bool false,.int .u64 0,.bool false,.int .i64 0]):=⟨by kernel_rfl⟩
instance fld71_0:Fld Tryz.prog 71 0 0:=⟨⟨_,_,0,Tryz.underlying71,rfl,by kernel_rfl,rfl⟩⟩
instance fld71_1:Fld Tryz.prog 71 1 1:=⟨⟨_,_,0,Tryz.underlying71,rfl,by kernel_rfl,rfl⟩⟩
instance fld140_0:Fld Tryz.prog 140 0 0:=⟨⟨_,_,0,Tryz.underlying140,rfl,by kernel_rfl,rfl⟩⟩
instance fld140_1:Fld Tryz.prog 140 1 1:=⟨⟨_,_,0,Tryz.underlying140,rfl,by kernel_rfl,rfl⟩⟩
instance fld140_2:Fld Tryz.prog 140 2 2:=⟨⟨_,_,0,Tryz.underlying140,rfl,by kernel_rfl,rfl⟩⟩
instance fld140_4:Fld Tryz.prog 140 4 4:=⟨⟨_,_,0,Tryz.underlying140,rfl,by kernel_rfl,rfl⟩⟩
instance plc140:Plc Tryz.prog 140 [(0,1),(1,1),(2,1),(3,1),(4,1)]:=⟨⟨_,Tryz.underlying140,fun _=>by kernel_rfl⟩⟩
instance ent148:Ent Tryz.prog 148:=⟨fun _ _=>by kernel_rfl⟩
instance ent190:Ent Tryz.prog 190:=⟨fun _ _=>by kernel_rfl⟩
abbrev tLg:TypeId:=71
abbrev tLB:TypeId:=140
theorem Y9 (x:LB):(lbC x).length=5:=rfl
section
variable {bs:List LB} {b:Nat} {x:LB}
theorem Fu {o:Nat} {v:Value} (h:bs[b]? =some x) (ho:o<5) (hv:nth (lbC x) o=some v):nth (lbs bs) (b*5+o)=some v:=by
 rw [lbs,Nc (n:=5) (fun b _=>Y9 b) h ho];exact hv
theorem Q1 (h:bs[b]? =some x):cut (lbs bs) (b*5) 5=some (lbC x):=by
 have:=Pa (f:=lbC) (n:=5) (o:=0) (m:=5) (fun b _=>Y9 b) h rfl
 rw [A5e] at this;exact this
theorem Ek {o:Nat} {vs:List Value} {y:LB} (h:bs[b]? =some x) (hs:Ba (lbC x) o vs=some (lbC y)):Ba (lbs bs) (b*5+o) vs=some (lbs (bs.set b y)) :=
 Gi (f:=lbC) (n:=5) (fun b _=>Y9 b) h hs
end
abbrev lgC (dk bb nb:Nat) (last:Int):List Value:=[ptr dk,.slice (some ⟨bb,0,none⟩) nb nb,.int .i64 last]
theorem Iw {d:Dsk} {n k:Nat} {V:Nat→Blk} (h:DD d n k V) {b j:Nat} (hb:b+6<n) (hj:j<8):B9 d.c (atD d.t.ts (b:Nat)) j=0∧Bp d.c (atD d.t.ts (b:Nat)) j=Av (V b) j:=by
 have:=Amf h hb hj
 unfold Av
 rw [A55 hj]
 exact this
section
variable {d:Dsk} {n k lg bb nb:Nat} {last:Int} {V:Nat→Blk}
theorem W8 (h:DD d n k V) {b j:Nat} {kind:By} (hb:b+6<n) (hj:j<8):Does Tryz.prog 190 [ptr lg,.int .i64 (b:Nat),.int .i64 (j:Nat),bv kind] ((lg,true,C (lgC d.dk bb nb last) tLg)::(dkH d++[]))
  (Is (.tuple #[wv (nF (Av (V b) j) kind).1,.bool (nF (Av (V b) j) kind).2,.int .i64 0]) ((lg,true,C (lgC d.dk bb nb last) tLg)::(dkH d++[]))):=by
 have hrd:=Iw h hb hj
 refine zF 52 Tryz.func190 ?_
 refine zC ?_
 refine zI rfl ((Jj (d:=d) (b:=(b:Nat)) (k:=(j:Nat))).to (by rw [hrd.1,hrd.2]) rfl) ?_
 refine zC ?_
 refine Aj rfl (fun b11=> ?_)
 rw [Cj]
 first | refine Ac rfl rfl uD (Cg) (Ai) (Bo (by first | exact Ai | exact A1y ..)) ?_ | refine Ac rfl rfl uD rfl rfl rfl ?_
 refine zC ?_
 refine Ay rfl ?_
 refine zA ?_
 refine Ah (Am rfl mM (by first | exact Ax | rfl)) rfl ?_
 refine zE rfl (Mc (p:=Av (V b) j)) ?_
 rintro _ _ ⟨s,rfl,rfl,hs,ho⟩
 refine zW ?_
 have hsl:s.list.length≤70000000000000:=(by have:=R0 (Av (V b) j);rw [hs];omega)
 refine zE rfl (Fk (s:=s) (T:=tU8) hsl) ?_
 rintro _ _ ⟨r,rfl,rfl,hr1,hr2⟩
 refine A5 aQ ?_
 refine zE rfl (Fl (r:=r) (n:=8) (by rw [hr1];exact hsl)) ?_
 rintro _ _ ⟨x,sl,bad,rfl,rfl,hx,_,_⟩
 refine zW ?_
 refine Ak (Pp Tryz.results190 (Af rfl) (Af rfl) (Af rfl)) ?_ sP
 rw [hr1,hr2,hs,show A8 8 8=8 from rfl] at hx;rw [hx,hs];rfl
theorem Ash (h:DD d n k V) {b:Nat} {bs:List LB} (hb:b+6<n) (hn:bs.length=nb) (hbn:b<nb):Does Tryz.prog 148 [ptr lg,.int .i64 (b:Nat)] ((lg,true,C (lgC d.dk bb nb last) tLg)::(bb,true,C (lbs bs) tLB)::(dkH d++[]))
  (Is (.int .i64 0) ((lg,true,C (lgC d.dk bb nb last) tLg)::(bb,true,C (lbs (bs.set b (B8 (V b)))) tLB)::(dkH d++[]))):=by
 have hg:bs[b]? =some bs[b]:=A1d (by omega)
 refine zF 70 Tryz.func148 ?_
 refine zC ?_
 refine Aj rfl (fun b5=> ?_)
 refine zC ?_
 refine zI rfl (W8 (d:=d) (bb:=bb) (nb:=nb) (last:=last) h (b:=b) (j:=0) (kind:=2) hb (by omega)) ?_
 refine zC ?_
 refine Ay rfl ?_
 refine zC ?_
 refine zI rfl (W8 (d:=d) (bb:=bb) (nb:=nb) (last:=last) h (b:=b) (j:=1) (kind:=3) hb (by omega)) ?_
 refine zC ?_
 refine Ay rfl ?_
 refine zC ?_
 refine Ae rfl (fun c36=> ?_) (fun c36=> ?_)
 ·skip
  have hokF:¬ (nF (Av (V b) 1) 3).2=true:=(by simpa using c36)
  refine zC ?_
  refine At [0,1,5,6] kQ (fun (kk:Nat)=>[(8,.int .i64 (7 - (kk:Int)))]) (fun kk=>(b5,true,C (lbC ⟨(nF (Av (V b) 0) 2).1,(nF (Av (V b) 0) 2).2,(if (nF (Av (V b) 1) 3).2=true then (nF (Av (V b) 1) 3).1 else 0),false,8 - (kk:Int)⟩) tLB)::(lg,true,C (lgC d.dk bb nb last) tLg)::(bb,true,C (lbs bs) tLB)::(dkH d++[])) (fun kk=>kk≤8∧Fo (V b) kk=8 - kk∧((nF (Av (V b) 1) 3).2=false→kk=0)) (fun kk=>8 - kk) (0) ⟨A5s _,rfl,fun _=>rfl⟩ kP (by first | (rw [if_neg hokF];exact sP) | (rw [if_pos hok];exact sP)) ?_
  rintro kk ⟨h0,h1,h2⟩
  refine zC ?_
  refine Ae rfl (fun c42=> ?_) (fun c42=> ?_)
  ·simp only [A3n,A1u,A3j,A1k] at c42
   have hok:=c42.2
   have hk8:kk<8:=(by omega)
   have e7:(7 - (kk:Int))=((7 - kk:Nat):Int):=(by omega)
   have hrd:=Iw h hb (j:=7 - kk) (by omega)
   refine zC ?_
   refine zI rfl ((Jj (d:=d) (b:=(b:Nat)) (k:=7 - (kk:Int))).to (by rw [e7,hrd.1,hrd.2]) rfl) ?_
   refine zC ?_
   refine Aj rfl (fun b9=> ?_)
   rw [Cj]
   first | refine Ac rfl rfl uD (Cg) (Ai) (Bo (by first | exact Ai | exact A1y ..)) ?_ | refine Ac rfl rfl uD rfl rfl rfl ?_
   refine zC ?_
   refine Ay rfl ?_
   refine zA ?_
   refine Ah (Am rfl mM (by first | exact Ax | rfl)) rfl ?_
   refine zI rfl (M6 (p:=Av (V b) (7 - kk))) ?_
   refine zC ?_
   refine Ae rfl (fun c60=> ?_) (fun c60=> ?_)
   ·skip
    have hbl:Be (Av (V b) (7 - kk))=false:=(by simpa using c60)
    have hfin:(⟨(nF (Av (V b) 0) 2).1,(nF (Av (V b) 0) 2).2,(if (nF (Av (V b) 1) 3).2=true then (nF (Av (V b) 1) 3).1 else 0),false,8 - (kk:Int)⟩:LB)=B8 (V b):=(by unfold B8;rw [if_pos hok,if_pos hok,T8 h1 hbl hk8];congr 1;omega)
    refine zC ?_
    refine A0 [(7,[(0,false),(1,false),(2,false),(3,false),(4,false),(5,false),(6,false)]),(8,[(7,true)])] (by kernel_rfl) ?_
    iterate 6 refine sb ?_
    refine Aq (Am rfl mM (show cut (lbC ⟨(nF (Av (V b) 0) 2).1,(nF (Av (V b) 0) 2).2,(if (nF (Av (V b) 1) 3).2=true then (nF (Av (V b) 1) 3).1 else 0),false,8 - (kk:Int)⟩) 0 5=some (lbC ⟨(nF (Av (V b) 0) 2).1,(nF (Av (V b) 0) 2).2,(if (nF (Av (V b) 1) 3).2=true then (nF (Av (V b) 1) 3).1 else 0),false,8 - (kk:Int)⟩) from rfl)) ?_
    refine Aq (Cd rfl rfl (by omega)) ?_
    refine zA ?_
    refine Ac (cs':=lbs (bs.set b (B8 (V b)))) rfl rfl uD rfl rfl (by simp only [A24];rw [hfin];exact Ek (o:=0) (vs:=lbC (B8 (V b))) (y:=B8 (V b)) hg rfl) ?_
    refine zC ?_
    exact zS
   ·skip
    have hbl:Be (Av (V b) (7 - kk))=true:=(by simpa using c60)
    iterate 3 refine sa ?_
    refine Ah (show Rd _ _ _ _ (.int .i64 (8 - ((kk+1:Nat):Int))) from (by rw [show (8 - ((kk+1:Nat):Int))=7 - (kk:Int) by omega];exact Dc rfl)) rfl ?_
    iterate 7 refine sb ?_
    refine Ah (show Rd _ _ _ _ (.int .i64 (7 - ((kk+1:Nat):Int))) from (by rw [show (7 - ((kk+1:Nat):Int))=7 - (kk:Int) - 1 by omega];exact F0 rfl rfl (by omega))) rfl ?_
    refine zC ?_
    exact ⟨kk+1,⟨by omega,(by rw [Abz h1 hbl];omega),fun h9=>(by rw [hok] at h9;cases h9)⟩,(by omega),lZ⟩
  ·simp only [A3n,A1u,A3j,A1k] at c42
   have hfin:(⟨(nF (Av (V b) 0) 2).1,(nF (Av (V b) 0) 2).2,(if (nF (Av (V b) 1) 3).2=true then (nF (Av (V b) 1) 3).1 else 0),false,8 - (kk:Int)⟩:LB)=B8 (V b):=(by unfold B8;rcases c42 with h9 | h9;(have h8:kk=8:=by omega);subst h8;(by_cases hok:(nF (Av (V b) 1) 3).2=true);(rw [if_pos hok,if_pos hok,show Lt (V b)=0 from h1];rfl);(exact absurd (h2 (by simpa using hok)) (by omega));(rw [h2 h9,if_neg (by rw [h9];simp),if_neg (by rw [h9];simp)];rfl))
   refine zC ?_
   refine A0 [(7,[(0,false),(1,false),(2,false),(3,false),(4,false),(5,false),(6,false)]),(8,[(7,true)])] (by kernel_rfl) ?_
   iterate 6 refine sb ?_
   refine Aq (Am rfl mM (show cut (lbC ⟨(nF (Av (V b) 0) 2).1,(nF (Av (V b) 0) 2).2,(if (nF (Av (V b) 1) 3).2=true then (nF (Av (V b) 1) 3).1 else 0),false,8 - (kk:Int)⟩) 0 5=some (lbC ⟨(nF (Av (V b) 0) 2).1,(nF (Av (V b) 0) 2).2,(if (nF (Av (V b) 1) 3).2=true then (nF (Av (V b) 1) 3).1 else 0),false,8 - (kk:Int)⟩) from rfl)) ?_
   refine Aq (Cd rfl rfl (by omega)) ?_
   refine zA ?_
   refine Ac (cs':=lbs (bs.set b (B8 (V b)))) rfl rfl uD rfl rfl (by simp only [A24];rw [hfin];exact Ek (o:=0) (vs:=lbC (B8 (V b))) (y:=B8 (V b)) hg rfl) ?_
   refine zC ?_
   exact zS
 ·skip
  have hok:(nF (Av (V b) 1) 3).2=true:=(by simpa using c36)
  refine zC ?_
  refine At [0,1,5,6] kQ (fun (kk:Nat)=>[(8,.int .i64 (7 - (kk:Int)))]) (fun kk=>(b5,true,C (lbC ⟨(nF (Av (V b) 0) 2).1,(nF (Av (V b) 0) 2).2,(if (nF (Av (V b) 1) 3).2=true then (nF (Av (V b) 1) 3).1 else 0),false,8 - (kk:Int)⟩) tLB)::(lg,true,C (lgC d.dk bb nb last) tLg)::(bb,true,C (lbs bs) tLB)::(dkH d++[])) (fun kk=>kk≤8∧Fo (V b) kk=8 - kk∧((nF (Av (V b) 1) 3).2=false→kk=0)) (fun kk=>8 - kk) (0) ⟨A5s _,rfl,fun _=>rfl⟩ kP (by first | (rw [if_neg hokF];exact sP) | (rw [if_pos hok];exact sP)) ?_
  rintro kk ⟨h0,h1,h2⟩
  refine zC ?_
  refine Ae rfl (fun c42=> ?_) (fun c42=> ?_)
  ·simp only [A3n,A1u,A3j,A1k] at c42
   have hok:=c42.2
   have hk8:kk<8:=(by omega)
   have e7:(7 - (kk:Int))=((7 - kk:Nat):Int):=(by omega)
   have hrd:=Iw h hb (j:=7 - kk) (by omega)
   refine zC ?_
   refine zI rfl ((Jj (d:=d) (b:=(b:Nat)) (k:=7 - (kk:Int))).to (by rw [e7,hrd.1,hrd.2]) rfl) ?_
   refine zC ?_
   refine Aj rfl (fun b9=> ?_)
   rw [Cj]
   first | refine Ac rfl rfl uD (Cg) (Ai) (Bo (by first | exact Ai | exact A1y ..)) ?_ | refine Ac rfl rfl uD rfl rfl rfl ?_
   refine zC ?_
   refine Ay rfl ?_
   refine zA ?_
   refine Ah (Am rfl mM (by first | exact Ax | rfl)) rfl ?_
   refine zI rfl (M6 (p:=Av (V b) (7 - kk))) ?_
   refine zC ?_
   refine Ae rfl (fun c60=> ?_) (fun c60=> ?_)
   ·skip
    have hbl:Be (Av (V b) (7 - kk))=false:=(by simpa using c60)
    have hfin:(⟨(nF (Av (V b) 0) 2).1,(nF (Av (V b) 0) 2).2,(if (nF (Av (V b) 1) 3).2=true then (nF (Av (V b) 1) 3).1 else 0),false,8 - (kk:Int)⟩:LB)=B8 (V b):=(by unfold B8;rw [if_pos hok,if_pos hok,T8 h1 hbl hk8];congr 1;omega)
    refine zC ?_
    refine A0 [(7,[(0,false),(1,false),(2,false),(3,false),(4,false),(5,false),(6,false)]),(8,[(7,true)])] (by kernel_rfl) ?_
    iterate 6 refine sb ?_
    refine Aq (Am rfl mM (show cut (lbC ⟨(nF (Av (V b) 0) 2).1,(nF (Av (V b) 0) 2).2,(if (nF (Av (V b) 1) 3).2=true then (nF (Av (V b) 1) 3).1 else 0),false,8 - (kk:Int)⟩) 0 5=some (lbC ⟨(nF (Av (V b) 0) 2).1,(nF (Av (V b) 0) 2).2,(if (nF (Av (V b) 1) 3).2=true then (nF (Av (V b) 1) 3).1 else 0),false,8 - (kk:Int)⟩) from rfl)) ?_
    refine Aq (Cd rfl rfl (by omega)) ?_
    refine zA ?_
    refine Ac (cs':=lbs (bs.set b (B8 (V b)))) rfl rfl uD rfl rfl (by simp only [A24];rw [hfin];exact Ek (o:=0) (vs:=lbC (B8 (V b))) (y:=B8 (V b)) hg rfl) ?_
    refine zC ?_
    exact zS
   ·skip
    have hbl:Be (Av (V b) (7 - kk))=true:=(by simpa using c60)
    iterate 3 refine sa ?_
    refine Ah (show Rd _ _ _ _ (.int .i64 (8 - ((kk+1:Nat):Int))) from (by rw [show (8 - ((kk+1:Nat):Int))=7 - (kk:Int) by omega];exact Dc rfl)) rfl ?_
    iterate 7 refine sb ?_
    refine Ah (show Rd _ _ _ _ (.int .i64 (7 - ((kk+1:Nat):Int))) from (by rw [show (7 - ((kk+1:Nat):Int))=7 - (kk:Int) - 1 by omega];exact F0 rfl rfl (by omega))) rfl ?_
    refine zC ?_
    exact ⟨kk+1,⟨by omega,(by rw [Abz h1 hbl];omega),fun h9=>(by rw [hok] at h9;cases h9)⟩,(by omega),lZ⟩
  ·simp only [A3n,A1u,A3j,A1k] at c42
   have hfin:(⟨(nF (Av (V b) 0) 2).1,(nF (Av (V b) 0) 2).2,(if (nF (Av (V b) 1) 3).2=true then (nF (Av (V b) 1) 3).1 else 0),false,8 - (kk:Int)⟩:LB)=B8 (V b):=(by unfold B8;rcases c42 with h9 | h9;(have h8:kk=8:=by omega);subst h8;(by_cases hok:(nF (Av (V b) 1) 3).2=true);(rw [if_pos hok,if_pos hok,show Lt (V b)=0 from h1];rfl);(exact absurd (h2 (by simpa using hok)) (by omega));(rw [h2 h9,if_neg (by rw [h9];simp),if_neg (by rw [h9];simp)];rfl))
   refine zC ?_
   refine A0 [(7,[(0,false),(1,false),(2,false),(3,false),(4,false),(5,false),(6,false)]),(8,[(7,true)])] (by kernel_rfl) ?_
   iterate 6 refine sb ?_
   refine Aq (Am rfl mM (show cut (lbC ⟨(nF (Av (V b) 0) 2).1,(nF (Av (V b) 0) 2).2,(if (nF (Av (V b) 1) 3).2=true then (nF (Av (V b) 1) 3).1 else 0),false,8 - (kk:Int)⟩) 0 5=some (lbC ⟨(nF (Av (V b) 0) 2).1,(nF (Av (V b) 0) 2).2,(if (nF (Av (V b) 1) 3).2=true then (nF (Av (V b) 1) 3).1 else 0),false,8 - (kk:Int)⟩) from rfl)) ?_
   refine Aq (Cd rfl rfl (by omega)) ?_
   refine zA ?_
   refine Ac (cs':=lbs (bs.set b (B8 (V b)))) rfl rfl uD rfl rfl (by simp only [A24];rw [hfin];exact Ek (o:=0) (vs:=lbC (B8 (V b))) (y:=B8 (V b)) hg rfl) ?_
   refine zC ?_
   exact zS
end
end
section
open Go.K
instance zer71:Zer Tryz.prog 71 ([.pointer none,.slice none 0 0,.int .i64 0]):=⟨by kernel_rfl⟩
instance fld71_2:Fld Tryz.prog 71 2 2:=⟨⟨_,_,0,Tryz.underlying71,rfl,by kernel_rfl,rfl⟩⟩
instance plc71:Plc Tryz.prog 71 [(0,1),(1,1),(2,1)]:=⟨⟨_,Tryz.underlying71,fun _=>by kernel_rfl⟩⟩
instance byt140:Byt Tryz.prog 140 40:=⟨by kernel_rfl⟩
instance ent109:Ent Tryz.prog 109:=⟨fun _ _=>by kernel_rfl⟩
def Za:LB:=⟨0,false,0,false,0⟩
theorem Asi (n:Nat):Gl n [Value.int .u64 0,.bool false,.int .u64 0,.bool false,.int .i64 0]=lbs (List.replicate n Za):=by
 induction n with
 | zero=>rfl
 | succ n ih =>
  show [Value.int .u64 0,.bool false,.int .u64 0,.bool false,.int .i64 0]++Gl n [Value.int .u64 0,.bool false,.int .u64 0,.bool false,.int .i64 0]=lbs (Za::List.replicate n Za)
  rw [ih]
  rfl
def E8 (V:Nat→Blk) (nb:Nat):List LB:=(List.range nb).map fun b=>B8 (V b)
theorem Ix {V:Nat→Blk} {nb j:Nat} (h:j<nb):bAt (E8 V nb) j=B8 (V j):=by
 simp [bAt,E8,A00,h]
theorem Q2 (V:Nat→Blk) (nb:Nat):(E8 V nb).length=nb:=by simp [E8]
theorem Dn {bs:List LB} {i j:Nat} {x:LB} (h:i<bs.length):bAt (bs.set i x) j=if j=i then x else bAt bs j:=by
 unfold bAt
 rw [A00,A00,A3a]
 by_cases e:j=i
 ·subst e;simp [h]
 ·rw [if_neg (fun h=>e h.symm),if_neg e]
theorem Amw {bs cs:List LB} (hl:bs.length=cs.length) (h:∀ j<bs.length,bAt bs j=bAt cs j):bs=cs:=by
 apply A3r hl
 intro j h1 h2
 have:=h j h1
 rwa [Td (A1d h1),Td (A1d h2)] at this
theorem Q3 (bs:List LB) (k:Nat): -1≤Dv bs k∧Dv bs k<k:=by
 rcases K5 bs k with ⟨h,_⟩ | ⟨l,h,h2,_⟩ <;> omega
theorem O3 {P:Program} {E:Env} {H:Hp} {x y:Operand} {ts:Array TypeId} {a b:Wd} (hx:ev E x=some (wv a)) (hy:ev E y=some (wv b)):Rd P E H (.call ⟨.builtin .max,#[x,y],ts⟩) (wv (if a.toNat<b.toNat then b else a)):=by
 have h:=Mm (P:=P) (H:=H) (ts:=ts) hx hy
 have e:(Value.int .u64 (max (a.toNat:Int) (b.toNat:Int)))=wv (if a.toNat<b.toNat then b else a):=by
  unfold wv
  congr 1
  split <;> omega
 rw [← e]
 exact h
section
variable {d:Dsk} {n k nb:Nat} {V:Nat→Blk}
theorem Ab0 (h:DD d n k V) (hnb:nb+6=n):Does Tryz.prog 109 [ptr d.dk] (dkH d)
  (fun v H=>∃ lg bb,v= .tuple #[ptr lg,.int .i64 0]∧H=(lg,true,C (lgC d.dk bb nb (D2 V nb).2) tLg)::(bb,true,C (lbs (D2 V nb).1) tLB)::(dkH d++[])):=by
 have hul:d.t.u.list.length=nb:=by have:d.t.u.list.length+6=n:=h.di.wf.len;omega
 have hn40:=h.di.wf.n2
 refine zF 99 Tryz.func109 ?_
 refine zC ?_
 refine zI rfl ((Amg (d:=d)).to (by rw [hul]) rfl) ?_
 refine Aoc rfl rfl (by omega) rfl (fun b13=> ?_)
 rw [A24,Asi]
 refine zC ?_
 refine Dj rfl rfl (fun b15=> ?_)
 refine zC ?_
 refine At [4,20] kQ (fun (st:Nat×List LB×Int×Wd)=>[(21,.int .i64 st.1),(5,wv st.2.2.2)]) (fun st=>(b15,true,C (lgC d.dk b13 nb st.2.2.1) tLg)::(b13,true,C (lbs st.2.1) tLB)::(dkH d++[])) (fun st=>st.1≤nb∧st.2.1.length=nb∧(∀ j<st.1,bAt st.2.1 j=bAt (E8 V nb) j)∧st.2.2.1=Dv (E8 V nb) st.1∧st.2.2.2=Nq (E8 V nb) st.1) (fun st=>nb - st.1) ((0,List.replicate nb Za,-1,0)) ⟨A5s _,A1y,fun j hj=>(by cases hj),rfl,rfl⟩ kP sP ?_
 rintro ⟨i,bs,last,most⟩ ⟨g0,g1,g2,g3,g4⟩
 simp only at g0 g1 g2 g3 g4
 refine zC ?_
 refine Ae rfl (fun c22=> ?_) (fun c22=> ?_)
 ·simp only [A3j,A1k] at c22
  have hi:i<nb:=(by omega)
  have hset:(bs.set i (B8 (V i))).length=nb:=(by rw [A4d];exact g1)
  have hgi:(bs.set i (B8 (V i)))[i]? =some (B8 (V i)):=(by simp [g1,hi])
  have hrg:=Q3 (E8 V nb) i
  have hb1:∀ j<i+1,bAt (bs.set i (B8 (V i))) j=bAt (E8 V nb) j:=(fun j hj=>by rw [Dn (by omega)];by_cases e:j=i;(subst e;rw [if_pos rfl,Ix hi]);(rw [if_neg e];exact g2 j (by omega)))
  refine zC ?_
  refine zI rfl (Ash (d:=d) (bb:=b13) (nb:=nb) (last:=last) h (b:=i) (bs:=bs) (by omega) g1 hi) ?_
  refine zC ?_
  refine Ay rfl ?_
  iterate 9 refine sb ?_
  refine Ah (Cd rfl rfl (by omega)) rfl ?_
  refine Ah (Am rfl mM (by simp only [A24];exact Q1 hgi)) rfl ?_
  refine Aj rfl (fun b8=> ?_)
  iterate 8 refine sb ?_
  refine Ah (O3 rfl rfl) rfl ?_
  refine zC ?_
  refine A0 [(26,[(0,false),(1,false),(2,false),(3,false),(4,false),(5,false),(6,false),(7,false),(8,false),(9,false),(10,false),(11,false),(12,false),(13,false),(14,false),(15,false),(16,false),(17,false),(18,false),(19,false),(20,false),(21,false),(22,false),(23,false),(24,false),(25,false)])] (by kernel_rfl) ?_
  iterate 5 refine sb ?_
  refine' Jz rfl rfl inferInstance rfl rfl rfl rfl rfl (fun hg44=> ?_) ?_
  rotate_left
  ·try (simp at hg44;show _)
   iterate 12 refine sb ?_
   refine' Uy rfl rfl inferInstance rfl rfl rfl rfl rfl (fun hg50=> ?_) ?_
   rotate_left
   ·try (simp at hg50;show _)
    iterate 21 refine sb ?_
    refine Aq (Cd rfl rfl (by omega)) ?_
    refine zA ?_
    refine Aq (show Rd _ _ _ _ (wv (bAt (bs.set i (B8 (V i))) last.toNat).seq) from Al rfl mM (Fu (o:=2) (Er (by omega)) (by omega) rfl)) ?_
    refine zC ?_
    exact Hu rfl sP
   exact Hu rfl sP
  refine zC ?_
  refine Ae rfl (fun c66=> ?_) (fun c66=> ?_)
  ·simp only [A3n,A36,A1u,A15,A3j,A1k] at c66
   have hl:Dv (E8 V nb) (i+1)=i:=(by unfold Dv;rw [← g3,Ix hi];rw [if_pos];refine ⟨by omega,?_⟩;rcases c66.2 with h9 | h9;exact .inl h9;by_cases h8:last<0;exact .inl h8;rw [hb1 _ (by omega)] at h9;exact .inr (by omega))
   refine zC ?_
   first | exact ⟨(i+1,bs.set i (B8 (V i)),(i:Int),(if most.toNat<(B8 (V i)).wear.toNat then (B8 (V i)).wear else most)),⟨by simp only;omega,hset,hb1,hl.symm,(by simp only;rw [Nq,Ix hi,← g4])⟩,by simp only;omega,lZ⟩ | exact ⟨(i+1,bs.set i (B8 (V i)),last,(if most.toNat<(B8 (V i)).wear.toNat then (B8 (V i)).wear else most)),⟨by simp only;omega,hset,hb1,hl.symm,(by simp only;rw [Nq,Ix hi,← g4])⟩,by simp only;omega,lZ⟩
  ·simp only [A3n,A36,A1u,A15,A3j,A1k] at c66
   have hl:Dv (E8 V nb) (i+1)=last:=(by unfold Dv;rw [← g3,Ix hi];rw [if_neg];rintro ⟨h8,h9⟩;rcases c66 with h7 | ⟨h6,h7⟩;omega;rcases h9 with h9 | h9;exact h6 h9;rw [hb1 _ (by omega)] at h7;omega)
   refine zC ?_
   first | exact ⟨(i+1,bs.set i (B8 (V i)),(i:Int),(if most.toNat<(B8 (V i)).wear.toNat then (B8 (V i)).wear else most)),⟨by simp only;omega,hset,hb1,hl.symm,(by simp only;rw [Nq,Ix hi,← g4])⟩,by simp only;omega,lZ⟩ | exact ⟨(i+1,bs.set i (B8 (V i)),last,(if most.toNat<(B8 (V i)).wear.toNat then (B8 (V i)).wear else most)),⟨by simp only;omega,hset,hb1,hl.symm,(by simp only;rw [Nq,Ix hi,← g4])⟩,by simp only;omega,lZ⟩
 ·simp only [A3j,A1k] at c22
  have hi:i=nb:=(by omega)
  subst hi
  refine zC ?_
  refine At [4,5,76] kQ (fun (st:Nat×List LB)=>[(77,.int .i64 st.1)]) (fun st=>(b15,true,C (lgC d.dk b13 i last) tLg)::(b13,true,C (lbs st.2) tLB)::(dkH d++[])) (fun st=>st.1≤i∧st.2.length=i∧(∀ j<i,bAt st.2 j=if j<st.1 then H6 most (bAt (E8 V i) j) else bAt (E8 V i) j)) (fun st=>i - st.1) ((0,bs)) ⟨A5s _,g1,fun j hj=>(by simp only;rw [if_neg (by omega)];exact g2 j hj)⟩ kP sP ?_
  rintro ⟨m,cs⟩ ⟨k0,k1,k2⟩
  simp only at k0 k1 k2
  refine zC ?_
  refine Ae rfl (fun c78=> ?_) (fun c78=> ?_)
  ·simp only [A3j,A1k] at c78
   have hm:m<i:=(by omega)
   have hgm:cs[m]? =some (bAt cs m):=Er (by omega)
   have hkm:=k2 m hm
   rw [if_neg (Nat.lt_irrefl m)] at hkm
   iterate 17 refine sb ?_
   refine Ah (Cd rfl rfl (by omega)) rfl ?_
   refine zA ?_
   refine Ah (Al rfl mM (by simp only [A24];exact Fu (o:=1) hgm (by omega) rfl)) rfl ?_
   refine zC ?_
   refine Ae rfl (fun c88=> ?_) (fun c88=> ?_)
   ·skip
    have hkn:(bAt cs m).known=false:=(by simpa using c88)
    have hnT:∀ j<i,bAt (cs.set m { bAt cs m with wear:=most }) j=if j<m+1 then H6 most (bAt (E8 V i) j) else bAt (E8 V i) j:=(fun j hj=>by (rw [Dn (by omega)];by_cases e:j=m;(subst e;rw [if_pos rfl,if_pos (by omega),← hkm];unfold H6;rw [if_neg (by rw [hkn];simp)]);(rw [if_neg e,k2 j hj];by_cases e2:j<m;(rw [if_pos e2,if_pos (by omega)]);(rw [if_neg e2,if_neg (by omega)]))))
    iterate 7 refine sb ?_
    refine Ah (Cd rfl rfl (by omega)) rfl ?_
    refine zA ?_
    refine Ac (cs':=lbs (cs.set m { bAt cs m with wear:=most })) rfl rfl uD rfl rfl (by simp only [A24];exact Ek (o:=0) (vs:=[wv most]) hgm rfl) ?_
    refine zC ?_
    first | exact ⟨(m+1,cs.set m { bAt cs m with wear:=most }),⟨by simp only;omega,by simp only [A4d];exact k1,hnT⟩,by simp only;omega,lZ⟩ | exact ⟨(m+1,cs),⟨by simp only;omega,k1,hnF⟩,by simp only;omega,lZ⟩
   ·skip
    have hkn:(bAt cs m).known=true:=(by simpa using c88)
    have hnF:∀ j<i,bAt cs j=if j<m+1 then H6 most (bAt (E8 V i) j) else bAt (E8 V i) j:=(fun j hj=>by (rw [k2 j hj];by_cases e:j=m;(subst e;rw [if_neg (Nat.lt_irrefl _),if_pos (by omega),← hkm];unfold H6;rw [if_pos hkn]);(by_cases e2:j<m;(rw [if_pos e2,if_pos (by omega)]);(rw [if_neg e2,if_neg (by omega)]))))
    refine zC ?_
    first | exact ⟨(m+1,cs.set m { bAt cs m with wear:=most }),⟨by simp only;omega,by simp only [A4d];exact k1,hnT⟩,by simp only;omega,lZ⟩ | exact ⟨(m+1,cs),⟨by simp only;omega,k1,hnF⟩,by simp only;omega,lZ⟩
  ·simp only [A3j,A1k] at c78
   have hm:m=i:=(by omega)
   subst hm
   have hcs:cs=(D2 V m).1:=(by apply Amw;(show cs.length=((E8 V m).map _).length;rw [A4b,Q2,k1]);(intro j hj;rw [k2 j (by omega),if_pos (by omega),g4];show _=bAt ((E8 V m).map (H6 (Nq (E8 V m) m))) j;have hj2:j<(E8 V m).length:=(by rw [Q2];omega);rw [Td (A1d hj2),Td (by rw [A29,A1d hj2];rfl)]))
   refine zC ?_
   exact A9 (Cu Tryz.results109 (Af rfl) (Af rfl)) (by exact ⟨b15,b13,rfl,rfl⟩) (by rw [← hcs,show (D2 V m).2=last from g3.symm];exact sP)
end
end
section
open Go.K
instance fld140_3:Fld Tryz.prog 140 3 3:=⟨⟨_,_,0,Tryz.underlying140,rfl,by kernel_rfl,rfl⟩⟩
instance ent132:Ent Tryz.prog 132:=⟨fun _ _=>by kernel_rfl⟩
instance ent154:Ent Tryz.prog 154:=⟨fun _ _=>by kernel_rfl⟩
instance ent194:Ent Tryz.prog 194:=⟨fun _ _=>by kernel_rfl⟩
instance ent222:Ent Tryz.prog 222:=⟨fun _ _=>by kernel_rfl⟩
instance ent223:Ent Tryz.prog 223:=⟨fun _ _=>by kernel_rfl⟩
instance ent239:Ent Tryz.prog 239:=⟨fun _ _=>by kernel_rfl⟩
theorem Fg {v:Blk} {j:Nat} (h:j<8):Av v j=v.pages[j]:=A55 h
structure Qt where
 n:Nat
 u:List Int
def Acc (q:Qt) (c:Chip) (t:TS):Prop:=t.lost.length+FP c+FW c≤q.n∧(q.n=0→t.uses=q.u)
section
variable {c:Chip} {t:TS} {n k:Nat} {q:Qt} {V:Nat→Blk} {r:Int×TS×Chip}
theorem DV.keepE {b:Nat} (h:DV c t n k V) (hk:k≤700000000000) (hq:FP c+FW c=0) (hb:b+6<n) (hr:Qw n (b:Nat) c t r):r.2.1=t:=by
 have hu:=h.us hb
 obtain ⟨b1,c1,_,_,_,_,_,hc⟩:=T0 (a:=(at0 t.uses (b:Nat)).toNat) h.di (by omega) (by omega) (b:=(b:Nat)) (by omega) (by omega) (h.vw b hb) hr
 rcases hc with ⟨_,_,hc,_⟩ | ⟨_,hc,_⟩ | ⟨_,_,hc⟩
 ·rw [hc]
 ·omega
 ·rw [hc]
theorem DV.keepP {b j:Nat} {p:Pg} (h:DV c t n k V) (hk:k≤700000000000) (hq:FP c+FW c=0) (hb:b+6<n) (hj:j<8) (hn:(V b).next=j) (hr:Se n (b:Nat) (j:Nat) p c t r):r.2.1=t:=by
 have hu:=h.us hb
 obtain ⟨m,c1,_,_,_,hc⟩:=Qy (a:=(at0 t.uses (b:Nat)).toNat) h.di (by omega) (by omega) (b:=(b:Nat)) (by omega) (by omega) (h.vw b hb) hj hn hr
 rcases hc with ⟨_,_,hc,_⟩ | ⟨_,_,_,hc,_⟩ | ⟨_,_,_,hc⟩
 ·rw [hc]
 ·omega
 ·rw [hc]
theorem Ajq {b:Nat} (h:DV c t n k V) (hk:k≤700000000000) (hq:q.n≤3) (hacc:Acc q c t) (hb:b+6<n) (hr:Qw n (b:Nat) c t r) :
  FrA c r.2.2∧∃ v:Blk,(∀ (j:Nat) (h:j<8),v.pages[j]=Ar∨v.pages[j]=(V b).pages[j]) ∧
   ((r.1=0∧DV r.2.2 r.2.1 n (k+20) (upV V b v)∧v.next=0∧Acc q r.2.2 r.2.1)∨(r.1=30∧r.2.2.off=true∧¬ c.after<0∧Later r.2.2 n (k+20) q.n (upV V b v))):=by
 obtain ⟨hac,hau⟩:=hacc
 obtain ⟨f,v,hv,hc⟩:=Ae4 h hk (by omega) hb hr
 refine ⟨f,v,hv,?_⟩
 rcases hc with ⟨q1,q2,q3,q4⟩ | ⟨q1,_,q3,q4⟩ | ⟨q1,q2,q3,q4⟩
 ·exact .inl ⟨q1,q2,q3,by omega,fun h0=>by rw [h.keepE hk (by omega) hb hr];exact hau h0⟩
 ·omega
 ·refine .inr ⟨q1,q2,q3,fun d a1 a2 a3 a4=> ?_⟩
  obtain ⟨t2,x1,x2,x3⟩:=q4 d a1 a2 a3 a4
  exact ⟨t2,x1,x2,by omega⟩
theorem Ab1 {b j:Nat} {p:Pg} (h:DV c t n k V) (hk:k≤700000000000) (hq:q.n≤3) (hacc:Acc q c t) (hb:b+6<n) (hj:j<8) (hn:(V b).next=j) (hr:Se n (b:Nat) (j:Nat) p c t r) :
  FrA c r.2.2∧∃ v:Blk,v.next=((j+1:Nat):Int)∧S3 v (V b) j ∧
   ((r.1=0∧DV r.2.2 r.2.1 n (k+20) (upV V b v)∧Av v j=p∧Acc q r.2.2 r.2.1)∨(r.1=30∧r.2.2.off=true∧¬ c.after<0∧(∃ m,Av v j=Ck m Ar p)∧Later r.2.2 n (k+20) q.n (upV V b v))):=by
 obtain ⟨hac,hau⟩:=hacc
 obtain ⟨f,v,hv1,hv2,hc⟩:=Ajh h hk (by omega) hb hj hn hr
 refine ⟨f,v,hv1,hv2,?_⟩
 rcases hc with ⟨q1,q2,q3,q4,_⟩ | ⟨q1,_,q3,q4⟩ | ⟨q1,q2,q3,⟨m,q4⟩,q5⟩
 ·exact .inl ⟨q1,q2,by rw [Fg hj];exact q3 hj,by omega,fun h0=>by rw [h.keepP hk (by omega) hb hj hn hr];exact hau h0⟩
 ·omega
 ·refine .inr ⟨q1,q2,q3,⟨m,by rw [Fg hj];exact q4 hj⟩,fun d a1 a2 a3 a4=> ?_⟩
  obtain ⟨t2,x1,x2,x3⟩:=q5 d a1 a2 a3 a4
  exact ⟨t2,x1,x2,by omega⟩
end
def Ab2 (c c':Chip):Prop:=c.after<0∨(c.after≠0∧c'.after=w64 (c.after - 1))
theorem Amx {c:Chip} {t:TS} {n k:Nat} {V:Nat→Blk} {r:Int×TS×Chip} {b j:Nat} {p:Pg} (h:DV c t n k V) (hk:k≤700000000000) (hb:b+6<n) (hj:j<8) (hn:(V b).next=j) (hr:Se n (b:Nat) (j:Nat) p c t r) (h0:FP c+FW c=0) (he:r.1=0):Ab2 c r.2.2:=by
 have hu:=h.us hb
 obtain ⟨a,ha⟩:∃ a:Nat,at0 t.uses (b:Nat)=(a:Nat):=⟨(at0 t.uses (b:Nat)).toNat,by omega⟩
 have hva:=h.vw b hb
 have hta:(at0 t.uses (b:Nat)).toNat=a:=by omega
 rw [hta] at hva
 obtain ⟨m,c1,f,hw,hA,hcase⟩:=Qy h.di (by omega) (by omega) (by omega) ha hva hj hn hr
 rcases hcase with ⟨h1,h2,rfl,h3⟩ | ⟨_,_,_,h4,_⟩ | ⟨rfl,hpe,h1,rfl⟩
 ·cases he
 ·omega
 ·by_cases hp:c.after<0
  ·exact .inl hp
  ·refine .inr ?_
   unfold Bq at hpe
   split at hpe
   ·split at hpe
    ·cases hpe
    ·rename_i b0 hb0
     split at hpe
     ·simp only at hpe
      split at hpe
      ·cases hpe
      ·rename_i hE
       split at hpe
       ·cases hpe
       ·have hE2:c.after≠0:=fun h9=>by
         apply hE
         unfold El
         rw [if_neg hp,h9]
         rfl
        refine ⟨hE2,?_⟩
        simp only [A48,true_and] at hpe
        have:c1.after=(Fp (S6 (cnt c))).after:=by rw [← hpe];rfl
        rw [this]
        show (if c.after<0 then c.after else w64 (c.after - 1))=_
        rw [if_neg hp]
     ·cases hpe
   ·rename_i hm
    simp only [A48] at hpe
    exact absurd hpe.1 hm
theorem T9 {kind:By} (h:0<kind.toNat∧kind.toNat<255) (x:Wd):Cy kind (B4 8 x)=(Wn kind x,0):=by
 unfold Cy Wn
 rw [if_neg (by rw [K4 h];simp)]
def Ay5 (w v:Blk) (x:Wd):Prop:=(∀ (j:Nat) (h:j<8),v.pages[j]=Ar∨v.pages[j]=w.pages[j])∨(v.next=1∧∃ m,Av v 0=Ck m Ar (Jk x))
def Iy (x:Wd):LB:=⟨x,true,0,true,8⟩
def Amy (n nb k:Nat) (q:Qt) (V:Nat→Blk) (b:Nat) (bs:List LB) (c:Chip) (bs':List LB) (e:Int) (t':TS) (c':Chip):Prop :=
 bs'.length=nb∧FrA c c'∧∃ v:Blk,(e=0∧DV c' t' n k (upV V b v)∧Acc q c' t'∧bs'=bs.set b (Iy ((bAt bs b).wear+1))∧v.next=1∧Av v 0=Jk ((bAt bs b).wear+1)) ∨
  (e=30∧c'.off=true∧¬ c.after<0∧Later c' n k q.n (upV V b v)∧Ay5 (V b) v ((bAt bs b).wear+1))
def Zb (n k:Nat) (q:Qt) (V:Nat→Blk) (b j:Nat) (p:Pg) (c:Chip) (t:TS) (e:Int) (t':TS) (c':Chip):Prop :=
 FrA c c'∧((e=32∧(V b).next≠j∧t'=t∧c'=c)∨((V b).next=j∧∃ v:Blk,v.next=((j+1:Nat):Int)∧S3 v (V b) j ∧
  ((e=0∧DV c' t' n k (upV V b v)∧Acc q c' t'∧Av v j=p∧(q.n=0→Ab2 c c'))∨(e=30∧c'.off=true∧¬ c.after<0∧(∃ m,Av v j=Ck m Ar p)∧Later c' n k q.n (upV V b v)))))
section
variable {d:Dsk} {n k:Nat} {q:Qt} {lg bb nb:Nat} {last:Int} {V:Nat→Blk}
theorem O4 (h:DD d n k V) (hk:k≤600000000000) (hq:q.n≤3) (hacc:Acc q d.c d.t.ts) {b:Nat} {bs:List LB} (hnb:nb+6=n) (hl:bs.length=nb) (hb:b<nb) :
  Does Tryz.prog 132 [ptr lg,.int .i64 (b:Nat)] ((lg,true,C (lgC d.dk bb nb last) tLg)::(bb,true,C (lbs bs) tLB)::(dkH d++[]))
  (fun v H=>∃ (t':Tab) (c':Chip) (bs':List LB) (e:Int),v= .int .i64 e∧H=(lg,true,C (lgC d.dk bb nb last) tLg)::(bb,true,C (lbs bs') tLB)::(dkH ⟨d.dk,t',c'⟩++[])∧Amy n nb (k+40) q V b bs d.c bs' e t'.ts c'):=by
 have hg:bs[b]? =some (bAt bs b):=Er (by omega)
 refine zF 56 Tryz.func132 ?_
 refine zC ?_
 refine Ci rfl (Amh (d:=d) h (b:=(b:Nat))) sP rfl (fun v15 Y15 h15=> ?_)
 obtain ⟨t1,c1,e1,rfl,rfl,hE⟩:=h15
 obtain ⟨f1,w1,hw1,hc1⟩:=Ajq h (by omega) hq hacc (by omega) hE
 simp only at f1 hc1
 refine A5 aQ ?_
 refine zC ?_
 refine Ae rfl (fun c17=> ?_) (fun c17=> ?_)
 ·skip
  have he1:e1≠0:=(by simpa using c17)
  have hc30:=hc1.resolve_left (fun h9=>he1 h9.1)
  refine zC ?_
  exact zL (hR:=by exact ⟨t1,c1,bs,e1,rfl,rfl,hl,f1,w1,.inr ⟨hc30.1,hc30.2.1,hc30.2.2.1,fun d a1 a2 a3 a4=>(by obtain ⟨x0,x1,x2,x3⟩:=hc30.2.2.2 d a1 a2 a3 a4;exact ⟨x0,x1,x2.mono (by omega),x3⟩),.inl hw1⟩⟩)
 ·skip
  have he1:e1=0:=(by simpa using c17)
  obtain ⟨_,hD1,hw10,hacc1⟩:=hc1.resolve_right (fun h9=>by rw [he1] at h9;exact absurd h9.1 (by decide))
  have hg1:(bs.set b ⟨(bAt bs b).wear+1,true,0,false,8⟩)[b]? =some ⟨(bAt bs b).wear+1,true,0,false,8⟩:=(by simp [hl,hb])
  iterate 9 refine sb ?_
  refine Ah (Cd rfl rfl (by omega)) rfl ?_
  refine zA ?_
  refine Ah (Al rfl mM (by simp only [A24];exact Fu (o:=0) hg (by omega) rfl)) rfl ?_
  refine Ah (Qj rfl rfl) rfl ?_
  iterate 2 refine sb ?_
  refine Ac (cs':=lbs (bs.set b ⟨(bAt bs b).wear+1,true,0,false,8⟩)) rfl rfl uD rfl rfl (by simp only [A24];exact Ek (o:=0) hg rfl) ?_
  refine zA ?_
  refine Ah (Al rfl mM (by simp only [A24];exact Fu (o:=0) hg1 (by omega) rfl)) rfl ?_
  refine zE rfl (Ia) ?_
  rintro _ _ ⟨s38,rfl,rfl,hs38,ho38⟩
  refine A5 aQ ?_
  refine Ao rfl rfl rfl rfl (fun b39=> ?_)
  refine zI rfl ((In (kind:=2) (s:=s38) (by rw [hs38,A4];decide)).to (by rw [hs38,show A8 8 8=8 from rfl,T9 (by decide)]) rfl) ?_
  refine zC ?_
  refine Aj rfl (fun b7=> ?_)
  rw [Cj]
  first | refine Ac rfl rfl uD (Cg) (Ai) (Bo (by first | exact Ai | exact A1y ..)) ?_ | refine Ac rfl rfl uD rfl rfl rfl ?_
  refine zC ?_
  refine A0 [(6,[(0,false),(1,false),(2,false),(3,false),(4,false),(5,false)]),(7,[(6,true)]),(8,[(7,false)])] (by kernel_rfl) ?_
  iterate 6 refine sb ?_
  refine Aq (Am rfl mM (by first | exact Ax | rfl)) ?_
  refine zC ?_
  refine Ci rfl (T1 (d:=⟨d.dk,t1,c1⟩) hD1 (b:=(b:Nat)) (j:=(0:Nat)) (p:=Jk ((bAt bs b).wear+1))) sP rfl (fun v49 Y49 h49=> ?_)
  obtain ⟨t2,c2,e2,rfl,rfl,hP⟩:=h49
  obtain ⟨f2,w2,hw2,_,hc2⟩:=Ab1 hD1 (by omega) hq hacc1 (b:=b) (j:=0) (by omega) (by omega) (by rw [E6];exact hw10) hP
  simp only at f2 hc2
  rw [Q0] at hc2
  refine A5 aQ ?_
  iterate 14 refine sb ?_
  refine Ac (cs':=lbs ((bs.set b ⟨(bAt bs b).wear+1,true,0,false,8⟩).set b ⟨(bAt bs b).wear+1,true,0,decide (e2=0),8⟩)) rfl rfl uD rfl rfl (by simp only [A24];exact Ek (o:=3) hg1 rfl) ?_
  refine zC ?_
  exact A9 (Aw Tryz.results132 (Af rfl)) (by exact ⟨t2,c2,bs.set b ⟨(bAt bs b).wear+1,true,0,decide (e2=0),8⟩,e2,rfl,rfl,by rw [A4d];exact hl,f1.trans f2,w2,by rcases hc2 with ⟨q1,q2,q3,q4⟩ | ⟨q1,q2,q3,q4,q5⟩;exact .inl ⟨q1,q2,q4,by rw [q1];rfl,hw2,q3⟩;exact .inr ⟨q1,q2,fun hp=>q3 (by rw [(f1.pos hp).1];exact hp),q5,.inr ⟨hw2,q4⟩⟩⟩) (by rw [A5c];exact sP)
theorem W9 (h:DD d n k V) (hk:k≤600000000000) (hq:q.n≤3) (hacc:Acc q d.c d.t.ts) {b j:Nat} {p:Pg} (hb:b+6<n) (hj:j<8) :
  Does Tryz.prog 154 [ptr lg,.int .i64 (b:Nat),.int .i64 (j:Nat),.agg (vbc p).toArray] ((lg,true,C (lgC d.dk bb nb last) tLg)::(dkH d++[]))
  (fun v H=>∃ (t':Tab) (c':Chip) (e:Int),v= .int .i64 e∧H=(lg,true,C (lgC d.dk bb nb last) tLg)::(dkH ⟨d.dk,t',c'⟩++[])∧Zb n (k+20) q V b j p d.c d.t.ts e t'.ts c'):=by
 refine zF 41 Tryz.func154 ?_
 refine zC ?_
 refine Do rfl rfl (fun b7=> ?_)
 refine zC ?_
 refine A0 [(7,[(0,false),(1,false),(2,false),(3,false),(4,false),(5,false),(6,false)]),(8,[(7,true)]),(9,[(8,false)])] (by kernel_rfl) ?_
 iterate 7 refine sb ?_
 refine Aq (Am rfl mM (by first | exact Ax | rfl)) ?_
 refine zC ?_
 refine Ci rfl (T1 (d:=d) h (b:=(b:Nat)) (j:=(j:Nat)) (p:=p)) sP rfl (fun v19 Y19 h19=> ?_)
 obtain ⟨t1,c1,e1,rfl,rfl,hP⟩:=h19
 have hAf:(V b).next=j→e1=0→q.n=0→Ab2 d.c c1:=(fun h7 h8 h9=>Amx h (by omega) hb hj h7 hP (by have:=hacc.1;omega) h8)
 have hW:(e1=32∧(V b).next≠j∧t1.ts=d.t.ts∧c1=d.c)∨((V b).next=j∧FrA d.c c1∧∃ v:Blk,v.next=((j+1:Nat):Int)∧S3 v (V b) j∧((e1=0∧DV c1 t1.ts n (k+20) (upV V b v)∧Av v j=p∧Acc q c1 t1.ts)∨(e1=30∧c1.off=true∧¬ d.c.after<0∧(∃ m,Av v j=Ck m Ar p)∧Later c1 n (k+20) q.n (upV V b v)))):=(by by_cases hn:(V b).next=j;(obtain ⟨f1,w1,h1,h2,h3⟩:=Ab1 h (by omega) hq hacc hb hj hn hP;exact .inr ⟨hn,f1,w1,h1,h2,h3⟩);(have h9:=Ame h hb hj hn hP;simp only [A48] at h9;exact .inl ⟨h9.1,hn,h9.2.1,h9.2.2⟩))
 refine A5 aQ ?_
 refine zC ?_
 refine Ae rfl (fun c21=> ?_) (fun c21=> ?_)
 ·skip
  have he1:e1≠0:=(by simpa using c21)
  refine zC ?_
  exact zL (hR:=by exact ⟨t1,c1,e1,rfl,rfl,by rcases hW with ⟨q1,q2,q3,q4⟩ | ⟨q1,q2,w,q3,q4,q5⟩;(rw [q4];exact .refl _);exact q2,by rcases hW with ⟨q1,q2,q3,q4⟩ | ⟨q1,q2,w,q3,q4,q5⟩;exact .inl ⟨q1,q2,q3,q4⟩;exact .inr ⟨q1,w,q3,q4,by rcases q5 with ⟨r1,r2,r3,r4⟩ | r;exact absurd r1 he1;exact .inr r⟩⟩)
 ·skip
  have he1:e1=0:=(by simpa using c21)
  obtain ⟨hn,f1,w1,h1,h2,h3⟩:=hW.resolve_left (fun h9=>by rw [he1] at h9;exact absurd h9.1 (by decide))
  obtain ⟨_,hD1,hp1,hacc1⟩:=h3.resolve_right (fun h9=>by rw [he1] at h9;exact absurd h9.1 (by decide))
  have hrd:=Iw (d:=⟨d.dk,t1,c1⟩) hD1 hb hj
  rw [E6,hp1] at hrd
  refine zC ?_
  refine zI rfl ((Jj (d:=⟨d.dk,t1,c1⟩) (b:=(b:Nat)) (k:=(j:Nat))).to (by rw [hrd.1,hrd.2]) rfl) ?_
  refine zC ?_
  refine Aj rfl (fun b10=> ?_)
  rw [Cj]
  first | refine Ac rfl rfl uD (Cg) (Ai) (Bo (by first | exact Ai | exact A1y ..)) ?_ | refine Ac rfl rfl uD rfl rfl rfl ?_
  iterate 9 refine sb ?_
  refine' H9 rfl rfl inferInstance rfl rfl rfl rfl rfl (fun hg35=> ?_) ?_
  rotate_left
  ·try (simp at hg35;show _)
   refine zA ?_
   refine Ah (Am rfl mM (by first | exact Ax | rfl)) rfl ?_
   refine zA ?_
   refine Ah (Am rfl mM (by first | exact Ax | rfl)) rfl ?_
   refine zA ?_
   refine Ah (Afs rfl rfl (pg_eq _ _)) rfl ?_
   exact Ad ⟨rfl,rfl,⟨_,sP⟩⟩
  refine zC ?_
  refine Ae rfl (fun c39=> ?_) (fun c39=> ?_)
  ·skip
   try (exfalso;(simp at c39);done)
   all_goals
    refine zC ?_
    exact zL (hR:=by exact ⟨t1,c1,0,rfl,rfl,f1,.inr ⟨hn,w1,h1,h2,.inl ⟨rfl,hD1,hacc1,hp1,hAf hn he1⟩⟩⟩)
  ·skip
   refine zC ?_
   exact zL (hR:=by exact ⟨t1,c1,0,rfl,rfl,f1,.inr ⟨hn,w1,h1,h2,.inl ⟨rfl,hD1,hacc1,hp1,hAf hn he1⟩⟩⟩)
def Ua (v:Blk):Bool:=(List.range 7).all fun i=>decide (Av v (i+1)=Ar)
theorem Ajr {x:By}:Does Tryz.prog 223 [bv x] [] (Is (.bool (!decide ((x.toNat:Int)=255))) []):=by
 refine zF 5 Tryz.func223 ?_
 refine zC ?_
 exact zS
theorem Asj {p:Pg} {m:Nat}:Does Tryz.prog 239 [.slice (some ⟨m,0,none⟩) 258 258,.func (.func 223) #[] #[]] [(m,true,C (vbc p) tPg)]
  (fun v H=>H=[(m,true,C (vbc p) tPg)]∧((p≠Ar∧∃ i:Nat,v= .int .i64 (i:Nat))∨(p=Ar∧v= .int .i64 (-1)))):=by
 refine zF 19 Tryz.func239 ?_
 refine zC ?_
 refine At [0,1,7] kQ (fun (i:Nat)=>[(8,.int .i64 i)]) (fun i=>[(m,true,C (vbc p) tPg)]) (fun i=>i≤258∧∀ (j:Nat) (h:j<258),j<i→p[j]=255#8) (fun i=>258 - i) (0) ⟨A5s _,fun j _ h=>(by cases h)⟩ kP sP ?_
 rintro i ⟨h0,h1⟩
 refine zC ?_
 refine Ae rfl (fun c9=> ?_) (fun c9=> ?_)
 ·simp only [A3j,A1k] at c9
  have hi:i<258:=(by omega)
  refine zA ?_
  refine Ah (Cd rfl rfl (by omega)) rfl ?_
  refine Ah (Al rfl mM (by simp only [A24,A5r];exact Fv hi)) rfl ?_
  refine Xc (fi:=[]) (ca:=[]) rfl rfl (Ajr (x:=p[i])) sP rfl aQ ?_
  refine zC ?_
  refine Ae rfl (fun c16=> ?_) (fun c16=> ?_)
  ·skip
   have hne:p≠Ar:=(fun e=>by rw [e,Kt hi] at c16;exact absurd c16 (by decide))
   refine zC ?_
   exact zL (hR:=by exact ⟨rfl,.inl ⟨hne,i,rfl⟩⟩)
  ·skip
   have hb:p[i]=255#8:=(by have h9:(p[i].toNat:Int)=255:=(by simpa using c16);exact A1s (by show _=255;omega))
   refine zC ?_
   exact ⟨i+1,⟨by omega,fun j hj hlt=>by by_cases e:j=i;(subst e;exact hb);exact h1 j hj (by omega)⟩,(by omega),lZ⟩
 ·simp only [A3j,A1k] at c9
  refine zC ?_
  exact zL (hR:=by exact ⟨rfl,.inr ⟨by apply A5w;intro j hj;rw [h1 j hj (by omega),Kt hj],rfl⟩⟩)
theorem Awq {p:Pg} {m:Nat}:Does Tryz.prog 222 [.slice (some ⟨m,0,none⟩) 258 258,.func (.func 223) #[] #[]] [(m,true,C (vbc p) tPg)]
  (Is (.bool (decide (p≠Ar))) [(m,true,C (vbc p) tPg)]):=by
 refine zF 9 Tryz.func222 ?_
 refine zC ?_
 refine Ci rfl (Asj (p:=p) (m:=m)) sP rfl (fun v7 Y7 h7=> ?_)
 rcases h7 with ⟨rfl,⟨hne,i,rfl⟩ | ⟨hne,rfl⟩⟩
 all_goals
  refine A5 aQ ?_
  refine zC ?_
  refine Ak (Aw Tryz.results222 (Af rfl)) ?_ sP
  first | (rw [A4x hne];simp;done) | (simp [hne];done)
theorem Amz (h:DD d n k V) {b:Nat} (hb:b+6<n):Does Tryz.prog 194 [ptr lg,.int .i64 (b:Nat)] ((lg,true,C (lgC d.dk bb nb last) tLg)::(dkH d++[]))
  (Is (.tuple #[.bool (Ua (V b)),.int .i64 0]) ((lg,true,C (lgC d.dk bb nb last) tLg)::(dkH d++[]))):=by
 refine zF 28 Tryz.func194 ?_
 refine zC ?_
 refine At [0,1] kQ (fun (i:Nat)=>[(6,.int .i64 ((i:Int)+1))]) (fun i=>(lg,true,C (lgC d.dk bb nb last) tLg)::(dkH d++[])) (fun i=>i≤7∧∀ j<i,Av (V b) (j+1)=Ar) (fun i=>7 - i) (0) ⟨A5s _,fun j h=>(by cases h)⟩ kP sP ?_
 rintro i ⟨h0,h1⟩
 refine zC ?_
 refine Ae rfl (fun c10=> ?_) (fun c10=> ?_)
 ·simp only [A3j,A1k] at c10
  have hi:i<7:=(by omega)
  have hrd:=Iw h hb (j:=i+1) (by omega)
  have ei:(((i+1:Nat):Int))=(i:Int)+1:=(by omega)
  rw [ei] at hrd
  refine zC ?_
  refine zI rfl ((Jj (d:=d) (b:=(b:Nat)) (k:=(i:Int)+1)).to (by rw [hrd.1,hrd.2]) rfl) ?_
  refine zC ?_
  refine Aj rfl (fun b7=> ?_)
  rw [Cj]
  first | refine Ac rfl rfl uD (Cg) (Ai) (Bo (by first | exact Ai | exact A1y ..)) ?_ | refine Ac rfl rfl uD rfl rfl rfl ?_
  refine zC ?_
  refine Ay rfl ?_
  refine zC ?_
  refine Ah (show Rd _ _ _ _ (.slice (some ⟨b7,0,none⟩) 258 258) from C0 (b:=b7) (o:=0) (sz:=1) (i:=0) (j:=258) (l:=258) rfl rfl rfl (by omega)) rfl ?_
  refine zI rfl (Awq (p:=Av (V b) (i+1)) (m:=b7)) ?_
  refine zC ?_
  refine Ae rfl (fun c27=> ?_) (fun c27=> ?_)
  ·skip
   have hne:Av (V b) (i+1)≠Ar:=(by simpa using c27)
   have hcl:Ua (V b)=false:=(by unfold Ua;rw [List.all_eq_false];exact ⟨i,A4v.2 hi,by simpa using hne⟩)
   refine zC ?_
   refine Ak (Cu Tryz.results194 (Af rfl) (Af rfl)) ?_ sP
   rw [hcl]
  ·skip
   have he:Av (V b) (i+1)=Ar:=(by simpa using c27)
   refine zC ?_
   exact ⟨i+1,⟨by omega,fun j hj=>by by_cases e:j=i;(subst e;exact he);exact h1 j (by omega)⟩,(by omega),lZ⟩
 ·simp only [A3j,A1k] at c10
  have hcl:Ua (V b)=true:=(by unfold Ua;rw [A3o];intro j hj;have:=A4v.1 hj;simpa using h1 j (by omega))
  refine zC ?_
  refine Ak (Cu Tryz.results194 (Af rfl) (Af rfl)) ?_ sP
  rw [hcl]
end
end
section
open Go.K
instance ent153:Ent Tryz.prog 153:=⟨fun _ _=>by kernel_rfl⟩
def toU (bs:List LB):Nat→Int
  | 0=> -1
  | k+1=>if (bAt bs k).seq.toNat=0∧(toU bs k<0∨(bAt bs k).wear.toNat<(bAt bs (toU bs k).toNat).wear.toNat) then k else toU bs k
theorem Md (bs:List LB):∀ k,(toU bs k= -1∧∀ j<k,(bAt bs j).seq.toNat≠0)∨(∃ l:Nat,toU bs k=l∧l<k∧(bAt bs l).seq.toNat=0∧∀ j<k,(bAt bs j).seq.toNat=0→(bAt bs l).wear.toNat≤(bAt bs j).wear.toNat)
  | 0=> .inl ⟨rfl,fun j hj=>by omega⟩
  | k+1=>by
    rcases Md bs k with ⟨h1,h2⟩ | ⟨l,h1,h2,h3,h4⟩
    · unfold toU
      rw [h1]
      by_cases h:(bAt bs k).seq.toNat=0
      · rw [if_pos ⟨h,.inl (by omega)⟩]
        refine .inr ⟨k,rfl,by omega,h,fun j hj h0=> ?_⟩
        by_cases e:j=k
        · subst e;exact A5q _
        · exact absurd h0 (h2 j (by omega))
      · rw [if_neg (fun h5=>h h5.1)]
        refine .inl ⟨rfl,fun j hj=> ?_⟩
        by_cases e:j=k
        · subst e;exact h
        · exact h2 j (by omega)
    · unfold toU
      rw [h1,A24]
      by_cases h:(bAt bs k).seq.toNat=0∧(bAt bs k).wear.toNat<(bAt bs l).wear.toNat
      · rw [if_pos ⟨h.1,.inr h.2⟩]
        refine .inr ⟨k,rfl,by omega,h.1,fun j hj h0=> ?_⟩
        by_cases e:j=k
        · subst e;exact A5q _
        · have:=h4 j (by omega) h0;omega
      · rw [if_neg (fun h5=>by rcases h5.2 with h6 | h6;omega;exact h ⟨h5.1,h6⟩)]
        refine .inr ⟨l,rfl,by omega,h3,fun j hj h0=> ?_⟩
        by_cases e:j=k
        · subst e;omega
        · exact h4 j (by omega) h0
theorem Zc (bs:List LB) (k:Nat): -1≤toU bs k∧toU bs k<k:=by
  rcases Md bs k with ⟨h,_⟩ | ⟨l,h,h2,_⟩ <;> omega
def seqN (bs:List LB) (last:Int):Wd:=if last<0 then 1 else (bAt bs last.toNat).seq+1
theorem Ask {P:Program} {E:Env} {H:Hp} {t u:TypeId} {x y:Operand} {v:Wd} (hx:ev E x=some (wv v)) (hy:ev E y=some (.int .u64 1)):Rd P E H (.binOp .sub t x y u) (wv (v - 1)):=by
  have:=An (P:=P) (H:=H) (op:= .sub) (t:=t) (u:=u) hx hy rfl
  have e:IntKind.u64.wrap ((v.toNat:Int) - 1)=((v - 1).toNat:Int):=by
    rw [Em .u64 rfl]
    show ((BitVec.ofInt 64 ((v.toNat:Int) - 1)).toNat:Int)=_
    have h1:=v.isLt
    rw [A2o,BitVec.toNat_sub]
    show (((v.toNat:Int) - 1) % (18446744073709551616:Nat)).toNat=(((18446744073709551616 - 1+v.toNat) % 18446744073709551616:Nat):Int)
    omega
  unfold wv
  rw [← e]
  exact this
def Awr (w v:Blk) (x:LB) (sq:Wd):Prop :=
  Ay5 w v x.wear∨(v.next=2∧(Av v 0=Jk x.wear∨(x.ready=true∧(Av v 0=Av w 0∨Av v 0=Dt (Av w 0))))∧∃ m,Av v 1=Ck m Ar (O2 sq))
def Avy (w v:Blk) (x:LB) (kn:Bool) (sq:Wd):Prop :=
  v.next=2∧Av v 1=O2 sq∧((kn=true∧Av v 0=Jk x.wear)∨(x.ready=true∧kn=x.known∧(Av v 0=Av w 0∨Av v 0=Dt (Av w 0))))
def Am0 (n nb k:Nat) (q:Qt) (V:Nat→Blk) (bs:List LB) (last:Int) (c:Chip) (t:TS) (bs':List LB) (last' e:Int) (t':TS) (c':Chip):Prop :=
  (e=40∧toU bs nb<0∧bs'=bs∧last'=last∧t'=t∧c'=c) ∨
  (bs'.length=nb∧FrA c c'∧∃ (to:Nat) (v:Blk),toU bs nb=to ∧
    ((e=0∧DV c' t' n k (upV V to v)∧Acc q c' t'∧last'=to∧(∀ j<nb,j≠to→bAt bs' j=bAt bs j)∧∃ kn,bAt bs' to=⟨(bAt bs to).wear,kn,seqN bs last,false,2⟩∧Avy (V to) v (bAt bs to) kn (seqN bs last)) ∨
     (e=30∧c'.off=true∧¬ c.after<0∧Later c' n k q.n (upV V to v)∧Awr (V to) v (bAt bs to) (seqN bs last))))
def Aws (n nb k:Nat) (q:Qt) (to:Nat) (V:Nat→Blk) (bs:List LB) (c:Chip) (t1:TS) (c1:Chip) (bs1:List LB) (w:Blk):Prop :=
  bs1.length=nb∧FrA c c1∧DV c1 t1 n k (upV V to w)∧Acc q c1 t1∧w.next=1∧(bAt bs1 to).wear=(bAt bs to).wear∧(∀ j<nb,j≠to→bAt bs1 j=bAt bs j) ∧
    (((bAt bs1 to).known=true∧Av w 0=Jk (bAt bs to).wear)∨((bAt bs to).ready=true∧(bAt bs1 to).known=(bAt bs to).known∧Av w 0=Av (V to) 0))
theorem Ay6 {v w:Blk} {j:Nat} (h:S3 v w j) (hj:0<j):Av v 0=Av w 0∨Av v 0=Dt (Av w 0):=by
  have:=h 0 (by omega) hj
  rwa [← Fg (v:=v) (by omega),← Fg (v:=w) (by omega)] at this
theorem Am1 (V:Nat→Blk) (b:Nat):upV V b (V b)=V:=by
  funext l
  unfold upV
  split
  · rename_i h;rw [h]
  · rfl
section
variable {d:Dsk} {n k:Nat} {q:Qt} {lg bb nb:Nat} {last:Int} {V:Nat→Blk} {bs:List LB}
theorem Am2 (h:DD d n k V) (hk:k≤500000000000) (hq:q.n≤3) (hacc:Acc q d.c d.t.ts) (hnb:nb+6=n) (hl:bs.length=nb) (hlr: -1≤last∧last<nb) (hls:0≤last→(bAt bs last.toNat).seq.toNat≠0)
    (hrdy:∀ b<nb,(bAt bs b).ready=true→(V b).next=1) :
    Does Tryz.prog 153 [ptr lg] ((lg,true,C (lgC d.dk bb nb last) tLg)::(bb,true,C (lbs bs) tLB)::(dkH d++[]))
    (fun v H=>∃ (t':Tab) (c':Chip) (bs':List LB) (last' e:Int),v= .int .i64 e∧H=(lg,true,C (lgC d.dk bb nb last') tLg)::(bb,true,C (lbs bs') tLB)::(dkH ⟨d.dk,t',c'⟩++[])∧Am0 n nb (k+60) q V bs last d.c d.t.ts bs' last' e t'.ts c'):=by
  refine Dw (n:=147) Tryz.func153 Tryz.ntmps153 rfl (A13 rfl)<|Ag<|Aa fun ops=>oA rfl<|Ad<|n_K<|Ag<|Aa fun ops=>oA rfl<|Ad<|n_K<|Ag<|Ag<|Aa fun ops=> ?_
  refine oM rfl<|oN rfl<|oF rfl ?_
  refine oR (Al rfl mM rfl) ?_
  refine oR (Gc rfl)<|oM rfl<|Ad<|n_K<|Bf ?_
  have hn40:=h.di.wf.n2
  refine At [0,17,18] kQ (fun (st:Nat×Int)=>[(19,.int .i64 st.1),(3,.int .i64 st.2)]) (fun (st:Nat×Int)=>(lg,true,C (lgC d.dk bb nb last) tLg)::(bb,true,C (lbs bs) tLB)::(dkH d++[])) (fun (st:Nat×Int)=>st.1≤nb∧st.2=toU bs st.1) (fun (st:Nat×Int)=>nb - st.1) ((0,-1)) ⟨A5s _,rfl⟩ kP sP ?_
  rintro ⟨i,to⟩ ⟨g0,g1⟩
  simp only at g0 g1
  refine Ag<|Aa fun ops=>oR (An rfl rfl rfl)<|Ad<|n_K<|Ag ?_
  refine Ae rfl (fun c20=> ?_) (fun c20=> ?_)
  · simp only [A3j,A1k] at c20
    have hi:i<nb:=(by omega)
    have hgi:bs[i]? =some (bAt bs i):=Er (by omega)
    have hrg:=Zc bs i
    refine Bd<|n_K<|Ag<|Bf<|Ag<|Aa fun ops=>oM rfl ?_
    refine oR (Cd rfl rfl (by omega)) ?_
    refine oR (Am rfl mM (by simp only [A24];exact Q1 hgi)) ?_
    refine Aj rfl fun b5=> ?_
    refine oA rfl ?_
    refine Ac rfl rfl uD rfl rfl rfl ?_
    refine Ad<|n_K<|Ag ?_
    refine D7 [(3,27),(6,30)] [(20,[(0,false),(1,false),(2,false),(3,false),(4,false),(5,false),(6,false),(7,false),(8,false),(9,false),(10,false),(11,false),(12,false),(13,false),(14,false),(15,false),(16,false),(17,false),(18,false),(19,false)])] (by kernel_rfl) rfl fun ops w0 H0 y=> ?_
    refine Ce<|xF rfl ?_
    refine xR (Al rfl mM rfl) ?_
    refine xR (An rfl rfl rfl)<|xM rfl ?_
    refine' U2 (j:=3) (k:=15) y rfl rfl rfl rfl rfl rfl rfl (fun hg27=> ?_) ?_
    rotate_left
    · try (simp at hg27;show _)
      refine x_g y rfl rfl ?_
      refine xM rfl ?_
      refine x_g y rfl rfl ?_
      refine xR (An rfl rfl rfl) ?_
      refine x_g y rfl rfl ?_
      refine xM rfl ?_
      refine' Ake (j:=6) (k:=11) y rfl rfl rfl rfl rfl rfl rfl (fun hg30=> ?_) ?_
      rotate_left
      · try (simp at hg30;show _)
        refine x_g y rfl rfl ?_
        refine xF rfl ?_
        refine x_g y rfl rfl ?_
        refine xR (Al rfl mM rfl) ?_
        refine x_g y rfl rfl ?_
        refine xM rfl ?_
        refine x_g y rfl rfl ?_
        refine xN rfl ?_
        refine x_g y rfl rfl ?_
        refine xF rfl ?_
        refine x_g y rfl rfl ?_
        refine xR (Al rfl mM rfl) ?_
        refine x_g y rfl rfl ?_
        refine xM rfl ?_
        refine x_g y rfl rfl ?_
        refine xR (Cd rfl rfl (by omega)) ?_
        refine x_g y rfl rfl ?_
        refine xF rfl ?_
        refine x_g y rfl rfl ?_
        refine xR (show Rd _ _ _ _ (wv (bAt bs to.toNat).wear) from Al rfl mM (Fu (o:=0) (Er (by omega)) (by omega) rfl)) ?_
        refine x_g y rfl rfl ?_
        refine xR (An rfl rfl rfl) ?_
        exact As ⟨rfl,⟨_,sP⟩⟩
      exact As ⟨rfl,⟨_,sP⟩⟩
    refine As<|Eh<|n_K ?_
    refine Ae rfl (fun c43=> ?_) (fun c43=> ?_)
    · simp only [A3n,A36,A1u,A15,A3j,A1k] at c43
      have hT:(i:Int)=toU bs (i+1):=(by unfold toU;rw [← g1,if_pos ⟨by omega,by rcases c43.2 with h9 | h9;exact .inl h9;exact .inr (by omega)⟩])
      refine Aa fun ops=>oM rfl<|oA rfl<|Ad<|Cq<|n_K<|Aa fun ops=> ?_
      refine oR (Bm rfl rfl (by omega)) ?_
      refine oM rfl<|Ad<|n_K ?_
      first | exact ⟨(i+1,(i:Int)),⟨by simp only;omega,hT⟩,by simp only;omega,lZ⟩ | exact ⟨(i+1,to),⟨by simp only;omega,hF⟩,by simp only;omega,lZ⟩
    · simp only [A3n,A36,A1u,A15,A3j,A1k] at c43
      have hF:to=toU bs (i+1):=(by unfold toU;rw [← g1,if_neg (by rintro ⟨h8,h9⟩;rcases c43 with h7 | ⟨h6,h7⟩;omega;rcases h9 with h9 | h9;exact h6 h9;omega)])
      refine Bd<|Cq<|n_K<|Aa fun ops=> ?_
      refine oR (Bm rfl rfl (by omega)) ?_
      refine oM rfl<|Ad<|n_K ?_
      first | exact ⟨(i+1,(i:Int)),⟨by simp only;omega,hT⟩,by simp only;omega,lZ⟩ | exact ⟨(i+1,to),⟨by simp only;omega,hF⟩,by simp only;omega,lZ⟩
  · simp only [A3j,A1k] at c20
    have hi:i=nb:=(by omega)
    subst hi
    refine E9<|x_K<|x_K<|Hv<|n_K<|Ag<|Ag<|Aa fun ops=>oM rfl<|oR (An rfl rfl rfl)<|Ad<|n_K ?_
    refine Ae rfl (fun c47=> ?_) (fun c47=> ?_)
    · simp only [A3j,A1k] at c47
      refine Ag<|Aa fun ops=>oA rfl<|Ad<|n_K<|D3<|r_K ?_
      exact A9 (Aw Tryz.results153 (Af rfl)) (by exact ⟨d.t,d.c,bs,last,40,rfl,rfl,.inl ⟨rfl,by omega,rfl,rfl,rfl,rfl⟩⟩) sP
    · simp only [A3j,A1k] at c47
      obtain ⟨tn,rfl⟩:∃ tn:Nat,to=tn:=⟨to.toNat,by omega⟩
      have hrg:=Zc bs i
      have htn:tn<i:=(by omega)
      have hgt:bs[tn]? =some (bAt bs tn):=Er (by omega)
      have hfree:(bAt bs tn).seq.toNat=0:=(by rcases Md bs i with ⟨h9,_⟩ | ⟨l,h9,_,h8,_⟩;omega;(have:tn=l:=by omega);subst this;exact h8)
      refine Bd<|n_K<|Ag<|Aa fun ops=>oM rfl<|oN rfl<|oF rfl ?_
      refine oR (Al rfl mM rfl) ?_
      refine oM rfl ?_
      refine oR (Cd rfl rfl (by omega)) ?_
      refine oA rfl<|Ad<|n_K<|Ag<|Aa fun ops=>oM rfl<|oM rfl ?_
      refine Jv rfl (Amz (d:=d) (bb:=bb) (nb:=i) (last:=last) h (b:=tn) (by omega)) sP rfl aQ ?_
      refine oM rfl<|oE rfl rfl<|oE rfl rfl<|oA rfl<|oA rfl<|Ad<|n_K<|Ag<|Ag<|Aa fun ops=>oM rfl<|oR (An rfl rfl rfl)<|Ad<|n_K ?_
      refine Ay rfl ?_
      refine Bd<|n_K ?_
      refine Q8 (fun F L=>∃ (t1:Tab) (c1:Chip) (bs1:List LB) (w:Blk),F=[(0,ptr lg),(3,.int .i64 (tn:Nat)),(6,.pointer (some ⟨bb,tn*5,none⟩))]∧L=(lg,true,C (lgC d.dk bb i last) tLg)::(bb,true,C (lbs bs1) tLB)::(dkH ⟨d.dk,t1,c1⟩++[])∧Aws n i (k+40) q tn V bs d.c t1.ts c1 bs1 w) ?_ ?_
      · refine Ag ?_
        refine Fz [(5,68)] rfl fun ops y=> ?_
        refine oM rfl<|oN rfl<|oF rfl ?_
        refine oR (Al rfl mM (by simp only [A24];exact Fu (o:=3) hgt (by omega) rfl)) ?_
        refine oR (D6 rfl)<|oM rfl ?_
        refine' Ac1 (j:=5) (k:=2) y rfl rfl rfl rfl rfl rfl rfl (fun hg68=> ?_) ?_
        rotate_left
        · try (simp at hg68;show _)
          refine o_g y rfl rfl ?_
          refine oM rfl ?_
          refine o_g y rfl rfl ?_
          refine oR (D6 rfl) ?_
          exact Ad ⟨rfl,rfl,⟨_,sP⟩⟩
        refine Ad<|n_K ?_
        refine Ae rfl (fun c71=> ?_) (fun c71=> ?_)
        · skip
          refine Ag<|Aa fun ops=>oM rfl<|oN rfl<|oF rfl ?_
          refine oR (Al rfl mM (by simp only [A24];exact Fu (o:=0) hgt (by omega) rfl)) ?_
          refine oR (Ask rfl rfl)<|oN rfl<|oF rfl ?_
          refine Ac (cs':=lbs (bs.set tn { bAt bs tn with wear:=(bAt bs tn).wear - 1 })) rfl rfl uD rfl rfl (by simp only [A24];exact Ek (o:=0) hgt rfl) ?_
          refine Ad<|n_K<|Ag<|Aa fun ops=>oM rfl<|oM rfl ?_
          refine Ci rfl (O4 (d:=d) (bb:=bb) (last:=last) h (by omega) hq hacc (b:=tn) (bs:=bs.set tn { bAt bs tn with wear:=(bAt bs tn).wear - 1 }) hnb (by rw [A4d];exact hl) htn) sP rfl fun v81 Y81 h81=> ?_
          obtain ⟨t1,c1,bs1,e9,rfl,rfl,hb1,hF1,w,hW⟩:=h81
          rw [Dn (by omega),if_pos rfl,BitVec.sub_add_cancel] at hW
          refine A5 aQ ?_
          refine oA rfl<|Ad<|n_K<|Ag<|Aa fun ops=>oM rfl<|oR (An rfl rfl rfl)<|Ad<|n_K ?_
          refine Ae rfl (fun c83=> ?_) (fun c83=> ?_)
          · skip
            have he9:e9≠0:=(by simpa using c83)
            have hW30:=hW.resolve_left (fun h9=>he9 h9.1)
            refine Ag<|Aa fun ops=>oM rfl<|oA rfl<|Ad<|n_K<|D3<|r_K ?_
            exact A9 (Aw Tryz.results153 (Af rfl)) (by exact ⟨t1,c1,bs1,last,e9,rfl,rfl,.inr ⟨hb1,hF1,tn,w,by omega,.inr ⟨hW30.1,hW30.2.1,hW30.2.2.1,fun d a1 a2 a3 a4=>(by obtain ⟨x0,x1,x2,x3⟩:=hW30.2.2.2.1 d a1 a2 a3 a4;exact ⟨x0,x1,x2.mono (by omega),x3⟩),.inl hW30.2.2.2.2⟩⟩⟩) sP
          · skip
            have he9:e9=0:=(by simpa using c83)
            obtain ⟨_,hD1,hacc1,hbs1,hwn,hw0⟩:=hW.resolve_right (fun h9=>by rw [he9] at h9;exact absurd h9.1 (by decide))
            have hJ1:Aws n i (k+40) q tn V bs d.c t1.ts c1 bs1 w:=⟨hb1,hF1,hD1,hacc1,hwn,by rw [hbs1,A5c,Dn (by omega),if_pos rfl];rfl,fun j hj hne=>by rw [hbs1,A5c,Dn (by omega),if_neg hne],.inl ⟨by rw [hbs1,A5c,Dn (by omega),if_pos rfl];rfl,hw0⟩⟩
            refine Bd<|n_K ?_
            first | exact ⟨_,_,⟨t1,c1,bs1,w,rfl,rfl,hJ1⟩,jZ⟩ | exact ⟨_,_,⟨d.t,d.c,bs,V tn,rfl,rfl,hJ0⟩,jZ⟩
        · skip
          have hrc:(bAt bs tn).ready=true:=(by simp at c71;exact c71.1)
          have hJ0:Aws n i (k+40) q tn V bs d.c d.t.ts d.c bs (V tn):=⟨hl,.refl _,by rw [Am1];exact DV.mono h (by omega),hacc,hrdy tn htn hrc,rfl,fun _ _ _=>rfl,.inr ⟨hrc,rfl,rfl⟩⟩
          refine Bd<|n_K ?_
          first | exact ⟨_,_,⟨t1,c1,bs1,w,rfl,rfl,hJ1⟩,jZ⟩ | exact ⟨_,_,⟨d.t,d.c,bs,V tn,rfl,rfl,hJ0⟩,jZ⟩
      · rintro F L ⟨t1,c1,bs1,w,rfl,rfl,hb1,hF1,hD1,hacc1,hwn,hwear,hoth,hpg⟩
        refine Ag<|Aa fun ops=>oA rfl<|Ad<|n_K ?_
        refine Q8 (fun F L=>F=[(0,ptr lg),(3,.int .i64 (tn:Nat)),(6,.pointer (some ⟨bb,tn*5,none⟩)),(10,wv (seqN bs last))]∧L=(lg,true,C (lgC d.dk bb i last) tLg)::(bb,true,C (lbs bs1) tLB)::(dkH ⟨d.dk,t1,c1⟩++[])) ?_ ?_
        · refine Ag<|Aa fun ops=>oM rfl<|oN rfl<|oF rfl ?_
          refine oR (Al rfl mM rfl) ?_
          refine oR (An rfl rfl rfl)<|Ad<|n_K ?_
          refine Ae rfl (fun c89=> ?_) (fun c89=> ?_)
          · simp only [A3j,A1k] at c89
            have hlt:last.toNat≠tn:=(fun e=>by have:=hls c89;rw [e] at this;exact this hfree)
            have hsq:seqN bs last=(bAt bs1 last.toNat).seq+1:=(by unfold seqN;rw [if_neg (by omega),hoth _ (by omega) hlt])
            refine D7 [] [(13,[(0,false),(1,false),(2,false),(3,false),(4,false),(5,false),(6,false),(7,false),(8,false),(9,false),(10,false),(11,false),(12,false)])] (by kernel_rfl) rfl fun ops w0 H0 y=> ?_
            refine Ce<|xM rfl<|xN rfl<|xF rfl ?_
            refine xR (Al rfl mM rfl) ?_
            refine xM rfl<|xN rfl<|xF rfl ?_
            refine xR (Al rfl mM rfl) ?_
            refine xR (Cd rfl rfl (by omega)) ?_
            refine xF rfl ?_
            refine xR (show Rd _ _ _ _ (wv (bAt bs1 last.toNat).seq) from Al rfl mM (Fu (o:=2) (Er (by omega)) (by omega) rfl)) ?_
            refine xR (Qj rfl rfl)<|xA rfl<|As<|Eh<|n_K ?_
            exact ⟨_,_,⟨rfl,rfl⟩,by rw [hsq];exact jZ⟩
          · simp only [A3j,A1k] at c89
            have hsq:seqN bs last=1:=(by unfold seqN;rw [if_pos (by omega)])
            refine Bd<|n_K ?_
            exact ⟨_,_,⟨rfl,rfl⟩,by rw [hsq];exact jZ⟩
        · rintro F L ⟨rfl,rfl⟩
          refine Ag<|Aa fun ops=>oM rfl ?_
          refine Ci rfl (Ia) sP rfl fun v104 Y104 h104=> ?_
          obtain ⟨s104,rfl,rfl,hs104,ho104⟩:=h104
          refine A5 aQ ?_
          refine Ao rfl rfl rfl rfl fun b105=> ?_
          refine Jv rfl ((In (kind:=3) (s:=s104) (by rw [hs104,A4];decide)).to (by rw [hs104,show A8 8 8=8 from rfl,T9 (by decide)]) rfl) sP rfl aQ ?_
          refine oM rfl<|oE rfl rfl<|oE rfl rfl ?_
          refine Aj rfl fun b11=> ?_
          rw [Cj]
          first | refine Ac rfl rfl uD (Cg) (Ai) (Bo (by first | exact Ai | exact A1y ..)) ?_ | refine Ac rfl rfl uD rfl rfl rfl ?_
          refine oA rfl<|Ad<|n_K<|Ag<|Aa fun ops=>oM rfl<|oM rfl ?_
          refine oR (Am rfl mM (by first | exact Ax | rfl)) ?_
          refine Ci rfl (W9 (d:=⟨d.dk,t1,c1⟩) (bb:=bb) (nb:=i) (last:=last) hD1 (by omega) hq hacc1 (b:=tn) (j:=1) (p:=O2 (seqN bs last)) (by omega) (by omega)) sP rfl fun v112 Y112 h112=> ?_
          obtain ⟨t2,c2,e,rfl,rfl,hF2,hW⟩:=h112
          obtain ⟨_,v,hv1,hv2,hv3⟩:=hW.resolve_left (fun h9=>h9.2.1 (by rw [E6];exact hwn))
          rw [E6] at hv2
          rw [Q0] at hv3
          have hk0:=Ay6 hv2 (by omega)
          have he32:e≠32:=(by rcases hv3 with h9 | h9 <;> omega)
          refine A5 aQ ?_
          refine oA rfl<|Ad<|n_K<|Ag<|Ag<|Aa fun ops=>oA rfl<|Ad<|n_K<|Bf ?_
          refine At [0,3,6,10] kQ (fun (_u:Unit)=>[(8,.int .i64 e),(13,.int .i64 0)]) (fun (_u:Unit)=>(lg,true,C (lgC d.dk bb i last) tLg)::(bb,true,C (lbs bs1) tLB)::(dkH ⟨d.dk,t2,c2⟩++[])) (fun (_u:Unit)=>True) (fun (_u:Unit)=>0) (()) (by first | trivial | omega | simp) kP sP ?_
          rintro _ _
          refine Ag<|Ag ?_
          refine Fz [(2,115)] rfl fun ops y=> ?_
          refine oM rfl<|oR (An rfl rfl rfl)<|oM rfl ?_
          refine' Xu (j:=2) (k:=2) y rfl rfl rfl rfl rfl rfl rfl (fun hg115=> ?_) ?_
          rotate_left
          · try (simp at hg115;show _)
            refine o_g y rfl rfl ?_
            refine oM rfl ?_
            refine o_g y rfl rfl ?_
            refine oR (An rfl rfl rfl) ?_
            exact Ad ⟨rfl,rfl,⟨_,sP⟩⟩
          refine Ad<|n_K ?_
          refine Ae rfl (fun c118=> ?_) (fun c118=> ?_)
          · skip
            exact absurd (by simp at c118;exact c118) he32
          · skip
            refine E9<|x_K<|x_K<|Hv<|n_K<|Ag<|Ag<|Aa fun ops=>oM rfl<|oR (An rfl rfl rfl)<|Ad<|n_K ?_
            refine Ae rfl (fun c131=> ?_) (fun c131=> ?_)
            · skip
              have he0:e≠0:=(by simpa using c131)
              have hv30:=hv3.resolve_left (fun h9=>he0 h9.1)
              refine Ag<|Aa fun ops=>oM rfl<|oA rfl<|Ad<|n_K<|D3<|r_K ?_
              exact A9 (Aw Tryz.results153 (Af rfl)) (by exact ⟨t2,c2,bs1,last,e,rfl,rfl,.inr ⟨hb1,hF1.trans hF2,tn,v,by omega,.inr ⟨hv30.1,hv30.2.1,fun hp=>hv30.2.2.1 (by rw [(hF1.pos hp).1];exact hp),hv30.2.2.2.2,.inr ⟨hv1,by rcases hpg with ⟨_,h9⟩ | ⟨h8,_,h9⟩;(rw [h9] at hk0;rcases hk0 with h7 | h7;exact .inl h7;exact .inl (by rw [h7,Iv (by decide)]));(rw [h9] at hk0;exact .inr ⟨h8,hk0⟩),hv30.2.2.2.1⟩⟩⟩⟩) sP
            · skip
              have he0:e=0:=(by simpa using c131)
              obtain ⟨_,hD2,hacc2,hp2,_⟩:=hv3.resolve_right (fun h9=>by rw [he0] at h9;exact absurd h9.1 (by decide))
              have hg1:bs1[tn]? =some (bAt bs1 tn):=Er (by omega)
              have hg2:(bs1.set tn { bAt bs1 tn with seq:=seqN bs last })[tn]? =some { bAt bs1 tn with seq:=seqN bs last }:=(by simp [hb1,htn])
              have hg3:(bs1.set tn { bAt bs1 tn with seq:=seqN bs last,next:=2 })[tn]? =some { bAt bs1 tn with seq:=seqN bs last,next:=2 }:=(by simp [hb1,htn])
              refine Bd<|n_K<|Ag<|Aa fun ops=>oM rfl<|oM rfl<|oM rfl<|oM rfl<|oN rfl<|oF rfl ?_
              first | refine Ac (cs':=lbs (bs1.set tn { bAt bs1 tn with seq:=seqN bs last })) rfl rfl uD rfl rfl (Ek (o:=2) hg1 rfl) ?_ | refine Ac (cs':=lbs ((bs1.set tn { bAt bs1 tn with seq:=seqN bs last }).set tn { bAt bs1 tn with seq:=seqN bs last,next:=2 })) rfl rfl uD rfl rfl (Ek (o:=4) hg2 rfl) ?_ | (rw [A5c];refine Ac (cs':=lbs ((bs1.set tn { bAt bs1 tn with seq:=seqN bs last,next:=2 }).set tn { bAt bs1 tn with seq:=seqN bs last,next:=2,ready:=false })) rfl rfl uD rfl rfl (Ek (o:=3) hg3 rfl) ?_)
              refine oN rfl<|oF rfl ?_
              first | refine Ac (cs':=lbs (bs1.set tn { bAt bs1 tn with seq:=seqN bs last })) rfl rfl uD rfl rfl (Ek (o:=2) hg1 rfl) ?_ | refine Ac (cs':=lbs ((bs1.set tn { bAt bs1 tn with seq:=seqN bs last }).set tn { bAt bs1 tn with seq:=seqN bs last,next:=2 })) rfl rfl uD rfl rfl (Ek (o:=4) hg2 rfl) ?_ | (rw [A5c];refine Ac (cs':=lbs ((bs1.set tn { bAt bs1 tn with seq:=seqN bs last,next:=2 }).set tn { bAt bs1 tn with seq:=seqN bs last,next:=2,ready:=false })) rfl rfl uD rfl rfl (Ek (o:=3) hg3 rfl) ?_)
              refine oN rfl<|oF rfl ?_
              first | refine Ac (cs':=lbs (bs1.set tn { bAt bs1 tn with seq:=seqN bs last })) rfl rfl uD rfl rfl (Ek (o:=2) hg1 rfl) ?_ | refine Ac (cs':=lbs ((bs1.set tn { bAt bs1 tn with seq:=seqN bs last }).set tn { bAt bs1 tn with seq:=seqN bs last,next:=2 })) rfl rfl uD rfl rfl (Ek (o:=4) hg2 rfl) ?_ | (rw [A5c];refine Ac (cs':=lbs ((bs1.set tn { bAt bs1 tn with seq:=seqN bs last,next:=2 }).set tn { bAt bs1 tn with seq:=seqN bs last,next:=2,ready:=false })) rfl rfl uD rfl rfl (Ek (o:=3) hg3 rfl) ?_)
              refine Ad<|n_K<|Ag<|Aa fun ops=>oM rfl<|oM rfl<|oN rfl<|oF rfl ?_
              refine Ac rfl rfl uD rfl rfl rfl ?_
              refine Ad<|n_K<|Ag<|Aa fun ops=>oA rfl<|Ad<|n_K<|D3 ?_
              exact A9 (Aw Tryz.results153 (Af rfl)) (by exact ⟨t2,c2,bs1.set tn { bAt bs1 tn with seq:=seqN bs last,next:=2,ready:=false },(tn:Int),0,rfl,rfl,.inr ⟨by rw [A4d];exact hb1,hF1.trans hF2,tn,v,by omega,.inl ⟨rfl,hD2,hacc2,rfl,fun j hj hne=>by rw [Dn (by omega),if_neg hne];exact hoth j hj hne,(bAt bs1 tn).known,by rw [Dn (by omega),if_pos rfl,← hwear],hv1,hp2,by rcases hpg with ⟨h8,h9⟩ | ⟨h8,h7,h9⟩;(rw [h9] at hk0;rcases hk0 with h6 | h6;exact .inl ⟨h8,h6⟩;exact .inl ⟨h8,by rw [h6,Iv (by decide)]⟩);(rw [h9] at hk0;exact .inr ⟨h8,h7,hk0⟩)⟩⟩⟩) (by rw [A5c];exact sP)
end
end
end Go.Proofs.YtpmojdippdlcaaaGreatDoor
