/- For every input, the program's store takes as many nodes as Limit tells, over and over, and no more (lemmas of the proof); the conditions are the statement's own: part 5. -/
import Derived.Test.YtpmojdippdlcaaaGreatDoorJ3
import Derived.Test.YtpmojdippdlcaaaGreatDoorJ4
import Derived.Test.YtpmojdippdlcaaaGreatDoorJ1
import Derived.Shelf.SortM.Plain
import Derived.Shelf.SortM.SortNone
import Derived.Ground.SlgmProg
import Derived.Shelf.Slices.CompactI
import Derived.Ground.Names2Prog
set_option linter.unusedVariables false
set_option linter.unusedSimpArgs false
namespace Go.Proofs.YtpmojdippdlcaaaGreatDoor
section
open Go.K
instance und269:Und Tryz.prog 269 (.slice 271):=⟨Tryz.underlying269⟩
instance agg271:Agg Tryz.prog 271 true:=⟨⟨_,Tryz.underlying271,rfl⟩⟩
instance siz271:Siz Tryz.prog 271 5:=⟨by kernel_rfl⟩
instance zer271:Zer Tryz.prog 271 ([.int .i64 0,.int .u64 0,.int .u64 0,.slice none 0 0,.int .i64 0]):=⟨by kernel_rfl⟩
instance fld157_0:Fld Tryz.prog 157 0 0:=⟨⟨_,_,0,Tryz.underlying157,rfl,by kernel_rfl,rfl⟩⟩
instance fld157_2:Fld Tryz.prog 157 2 2:=⟨⟨_,_,0,Tryz.underlying157,rfl,by kernel_rfl,rfl⟩⟩
instance fld271_0:Fld Tryz.prog 271 0 0:=⟨⟨_,_,3,Tryz.underlying271,rfl,by kernel_rfl,rfl⟩⟩
instance fld271_1:Fld Tryz.prog 271 1 4:=⟨⟨_,_,0,Tryz.underlying271,rfl,by kernel_rfl,rfl⟩⟩
instance ent65:Ent Tryz.prog 65:=⟨fun _ _=>by kernel_rfl⟩
instance ent193:Ent Tryz.prog 193:=⟨fun _ _=>by kernel_rfl⟩
instance ent220:Ent Tryz.prog 220:=⟨fun _ _=>by kernel_rfl⟩
instance ent221:Ent Tryz.prog 221:=⟨fun _ _=>by kernel_rfl⟩
instance ent237:Ent Tryz.prog 237:=⟨fun _ _=>by kernel_rfl⟩
instance ent238:Ent Tryz.prog 238:=⟨fun _ _=>by kernel_rfl⟩
set_option maxRecDepth 20000
set_option maxHeartbeats 1000000
def Hy (n:Int):Int:=max 0 ((min (max n 0) 1099511627776 - 3)*3 - 2)
theorem Anc {n:Int}:Does Tryz.prog 65 [.int .i64 n] [] (Is (.int .i64 (Hy n)) []):=by
 refine Ah (n:=10) Tryz.func65 Tryz.ntmps65 rfl (Nat.le_of_ble_eq_true rfl)<|Ad<|Aa fun ops=>oA rfl<|Ac<|n_K<|Ad<|Aa fun ops=>oM rfl<|oR (Ln rfl rfl)<|oR (X8 rfl rfl) ?_
 refine oR (Cy rfl rfl (by omega)) ?_
 refine oR (To rfl rfl (by omega)) ?_
 refine oR (Cy rfl rfl (by omega)) ?_
 refine oR (Ln rfl rfl)<|oA rfl<|Ac<|n_K<|An ?_
 refine Aq (At Tryz.results65 (Ag rfl)) ?_ sP
 rfl
structure Ldv where
 s:Seg
 c:Int
def ldC (x:Ldv):List Value:=[.int .i64 x.s.b,wv x.s.seq,wv x.s.wear,x.s.recs.val,.int .i64 x.c]
instance:Cel Ldv:=⟨5,ldC,fun _=>rfl,fun _=>rfl⟩
abbrev tLd:TypeId:=271
def ld0:Ldv:=⟨sg0,0⟩
def Jf (xs:List Ldv) (i:Nat):Ldv:=xs.getD i ld0
theorem O6 {xs:List Ldv} {i:Nat} (h1:i<xs.length):xs[i]? =some (Jf xs i):=by
 simp [Jf,List.getD_eq_getElem?_getD,h1]
def Ug (x y:Int):Int:=if x<y then -1 else if y<x then 1 else 0
theorem Agd {x:Int}:Does Tryz.prog 215 [.int .i64 x] [] (Is (.bool false) []):=by
 refine Ah (n:=6) Tryz.func215 Tryz.ntmps215 rfl (Nat.le_of_ble_eq_true rfl)<|Ad<|Aa fun ops=>oA rfl<|Ac<|n_K<|Ad<|Aa fun ops=>oM rfl<|oM rfl<|oR (Ae rfl rfl rfl)<|oA rfl<|Ac<|n_K ?_
 refine An ?_
 refine Aq (At Tryz.results215 (Ag rfl)) ?_ sP
 simp
theorem Rl {x y:Int}:Does Tryz.prog 238 [.int .i64 x,.int .i64 y] [] (Is (.int .i64 (Ug x y)) []):=by
 refine Ah (n:=20) Tryz.func238 Tryz.ntmps238 rfl (Nat.le_of_ble_eq_true rfl)<|Ad<|Aa fun ops=>oA rfl<|Ac<|n_K<|Ad<|Aa fun ops=>oM rfl ?_
 refine A6 rfl (Agd) sP rfl aQ ?_
 refine oA rfl<|Ac<|n_K<|Ad<|Aa fun ops=>oM rfl ?_
 refine A6 rfl (Agd) sP rfl aQ ?_
 refine oA rfl<|Ac<|n_K<|Ad<|Ad<|Aa fun ops=>oM rfl<|Ac<|n_K ?_
 refine Bi rfl ?_
 refine Ai<|n_K<|Ad<|Ad<|Aa fun ops=>oM rfl<|Ac<|n_K ?_
 refine Bi rfl ?_
 refine Ai<|n_K<|Ad<|Ad<|Aa fun ops=>oM rfl<|oM rfl<|oR (Ae rfl rfl rfl)<|Ac<|n_K ?_
 refine Aj rfl (fun c16=> ?_) (fun c16=> ?_)
 ·simp only [decide_eq_true_eq,decide_eq_false_iff_not] at c16
  refine Ad<|Aa fun ops=>oA rfl<|Ac<|n_K<|An<|r_K ?_
  refine Aq (At Tryz.results238 (Ag rfl)) ?_ sP
  unfold Ug;first | rw [if_pos (by omega)] | rw [if_neg (by omega),if_pos (by omega)] | rw [if_neg (by omega),if_neg (by omega)]
 ·simp only [decide_eq_true_eq,decide_eq_false_iff_not] at c16
  refine Ai<|n_K<|Ad<|Ad<|Aa fun ops=>oM rfl<|oM rfl<|oR (Ae rfl rfl rfl)<|Ac<|n_K ?_
  refine Aj rfl (fun c19=> ?_) (fun c19=> ?_)
  ·simp only [decide_eq_true_eq,decide_eq_false_iff_not] at c19
   refine Ad<|Aa fun ops=>oA rfl<|Ac<|n_K<|An<|r_K ?_
   refine Aq (At Tryz.results238 (Ag rfl)) ?_ sP
   unfold Ug;first | rw [if_pos (by omega)] | rw [if_neg (by omega),if_pos (by omega)] | rw [if_neg (by omega),if_neg (by omega)]
  ·simp only [decide_eq_true_eq,decide_eq_false_iff_not] at c19
   refine Ai<|n_K<|Ad<|Aa fun ops=>oA rfl<|Ac<|n_K<|An ?_
   refine Aq (At Tryz.results238 (Ag rfl)) ?_ sP
   unfold Ug;first | rw [if_pos (by omega)] | rw [if_neg (by omega),if_pos (by omega)] | rw [if_neg (by omega),if_neg (by omega)]
def orF:List Int→Int
 | []=>0
 | x::xs=>if x=0 then orF xs else x
theorem Ane {xs:List Int} {i:Nat} {x:Int} (h:xs[i]? =some x):orF (xs.drop i)=if x=0 then orF (xs.drop (i+1)) else x:=by
 obtain ⟨h1,rfl⟩:=List.getElem?_eq_some_iff.1 h
 rw [List.drop_eq_getElem_cons h1]
 rfl
theorem Awc {s:Sl Int} {T:TypeId}:Does Tryz.prog 237 [s.val] (s.hp T++[]) (Is (.int .i64 (orF s.list)) (s.hp T++[])):=by
 have hsm:=s.small
 refine Ah (n:=18) Tryz.func237 Tryz.ntmps237 rfl (Nat.le_of_ble_eq_true rfl)<|Ad<|Aa fun ops=>oA rfl<|Ac<|n_K<|Ad<|Aa fun ops=>oA rfl<|Ac<|n_K<|Ad<|Ad<|Aa fun ops=> ?_
 refine oM rfl<|oR (A7 rfl)<|oM rfl<|Ac<|n_K<|Ak ?_
 refine A8 [3,6,7] kQ (fun (i:Nat)=>[(8,.int .i64 i)]) (fun (i:Nat)=>(s.hp T++[])) (fun (i:Nat)=>i≤s.list.length∧orF s.list=orF (s.list.drop i)) (fun (i:Nat)=>s.list.length - i) (0) ⟨Nat.zero_le _,rfl⟩ kP sP ?_
 rintro i ⟨g0,g1⟩
 refine Ad<|Aa fun ops=>oR (Ae rfl rfl rfl)<|Ac<|n_K<|Ad ?_
 refine Aj rfl (fun c9=> ?_) (fun c9=> ?_)
 ·simp only [decide_eq_true_eq,decide_eq_false_iff_not] at c9
  obtain ⟨z,hg⟩:∃ z,s.list[i]? =some z:=⟨_,List.getElem?_eq_getElem (by omega)⟩
  have hod:=Ane hg
  refine Ai<|n_K<|Ad<|Ak<|Ad<|Aa fun ops=> ?_
  refine oR (Bk rfl rfl (by omega)) ?_
  refine oR (C0 (o:=0) rfl pL hg rfl rfl) ?_
  refine oA rfl<|Ac<|n_K<|Ad<|Aa fun ops=>oM rfl<|oM rfl<|oR (Ae rfl rfl rfl)<|Ac<|n_K ?_
  refine Aj rfl (fun c14=> ?_) (fun c14=> ?_)
  ·skip
   have hz:z≠0:=(by simpa using c14)
   refine Ad<|Aa fun ops=>oM rfl<|oA rfl<|Ac<|n_K<|An<|Bn<|r_K<|r_K<|Bn<|r_K ?_
   refine Aq (At Tryz.results237 (Ag rfl)) ?_ sP
   rw [g1,hod,if_neg hz]
  ·skip
   have hz:z=0:=(by simpa using c14)
   refine Ai<|Az<|n_K<|Aa fun ops=> ?_
   refine oR (Ao rfl rfl (by omega)) ?_
   refine oM rfl<|Ac<|n_K ?_
   exact ⟨i+1,⟨by omega,by rw [g1,hod,if_pos hz]⟩,(by omega),lZ⟩
 ·simp only [decide_eq_true_eq,decide_eq_false_iff_not] at c9
  have hi:i=s.list.length:=(by omega)
  subst hi
  refine Bb<|x_K<|x_K<|Bj<|n_K<|Ad<|Aa fun ops=>oM rfl<|oA rfl<|Ac<|n_K<|An ?_
  refine Aq (At Tryz.results237 (Ag rfl)) ?_ sP
  rw [g1,List.drop_length];rfl
theorem Aup {b:Nat} {x y z:Int}:Does Tryz.prog 237 [.slice (some ⟨b,0,none⟩) 3 3] [(b,true,C [.int .i64 x,.int .i64 y,.int .i64 z] tI)] (Is (.int .i64 (orF [x,y,z])) [(b,true,C [.int .i64 x,.int .i64 y,.int .i64 z] tI)]):=by
 have h:=Awc (s:= .own b [x,y,z] 3 [] ⟨by simp,Nat.le_refl _,by simp⟩) (T:=tI)
 rw [Sl.hp_own] at h
 exact h
def Uh (x y:Ldv):Bool:=decide (orF [Ug x.c y.c,Z6 x.s.wear.toNat y.s.wear.toNat,Ug x.s.b y.s.b]<0)
theorem Anf {x y:Ldv}:Does Tryz.prog 221 [.agg (ldC x).toArray,.agg (ldC y).toArray] [] (Is (.bool (Uh x y)) []):=by
 refine Ah (n:=29) Tryz.func221 Tryz.ntmps221 rfl (Nat.le_of_ble_eq_true rfl)<|Ad<|Aa fun ops=> ?_
 refine De rfl rfl fun b2=> ?_
 refine De rfl rfl fun b3=> ?_
 refine oA rfl<|Ac<|n_K<|Ad ?_
 refine N7 [] [(7,(.fork [(0,false),(1,false),(2,false),(3,false)] 4 (.one [(5,true),(6,true)]) 5 (.one [(4,true),(6,true)]))),(8,(.one [(7,true)]))] (by kernel_rfl) rfl fun ops w0 H0 y=> ?_
 refine Le ?_
 refine Lf ?_ rfl
 refine xF rfl ?_
 refine xR (Au rfl mM rfl) ?_
 refine xF rfl ?_
 refine xR (Au rfl mM rfl) ?_
 refine Am ⟨⟨_,sP⟩,?_,?_⟩
 refine Be ?_
 refine Aw rfl fun b5=> ?_
 refine Ac ⟨rfl,⟨_,sP⟩,?_⟩
 refine Am ?_
 refine G1 ?_
 refine Be ?_
 refine Aw rfl fun b6=> ?_
 refine Ac ⟨rfl,⟨_,sP⟩,?_⟩
 refine Be ?_
 refine Af rfl rfl uD rfl rfl rfl ?_
 refine Ac ⟨rfl,⟨_,sP⟩,?_⟩
 refine Am ?_
 rotate_left
 refine Be ?_
 refine Aw rfl fun b6=> ?_
 refine Ac ⟨rfl,⟨_,sP⟩,?_⟩
 refine Am ?_
 refine G1 ?_
 refine Be ?_
 refine Aw rfl fun b5=> ?_
 refine Ac ⟨rfl,⟨_,sP⟩,?_⟩
 refine Be ?_
 refine Af rfl rfl uD rfl rfl rfl ?_
 refine Ac ⟨rfl,⟨_,sP⟩,?_⟩
 refine Am ?_
 rotate_left
 all_goals
  refine Afa ?_
  refine G1 ?_
  refine Be ?_
  refine Af rfl rfl uD rfl rfl rfl ?_
  refine Ac ⟨rfl,⟨_,sP⟩,?_⟩
  refine Am ?_
  refine S5 ?_
  refine n_K<|Ad ?_
  refine s_draw [] [(14,[(0,false),(1,false),(2,false),(3,false),(5,false),(6,false),(7,false),(8,false),(10,false),(11,false),(12,false),(13,false),(4,true),(9,true)]),(15,[(14,true)]),(16,[(15,true)]),(17,[(16,true)]),(19,[(17,false),(18,false)])] (by kernel_rfl) rfl fun ops w0 H0 y=> ?_
  refine A4<|xF rfl ?_
  refine xR (Al rfl mM rfl) ?_
  refine xF rfl ?_
  refine xR (Al rfl mM rfl) ?_
  refine xF rfl ?_
  refine xR (Al rfl mM rfl) ?_
  refine xF rfl ?_
  refine xR (Al rfl mM rfl) ?_
  refine xF rfl ?_
  refine xR (Al rfl mM rfl) ?_
  refine xF rfl ?_
  refine xR (Al rfl mM rfl) ?_
  refine Be ?_
  refine A6 rfl (Rl) sP rfl aQ ?_
  refine Ac ⟨rfl,⟨_,sP⟩,?_⟩
  refine Be ?_
  refine A6 rfl (Sx) sP rfl aQ ?_
  refine Ac ⟨rfl,⟨_,sP⟩,?_⟩
  refine Am<|Bh<|Be ?_
  refine A6 rfl (Rl) sP rfl aQ ?_
  refine Ac ⟨rfl,⟨_,sP⟩,?_⟩
  refine Am<|Bh<|Be ?_
  refine A5 rfl rfl rfl rfl fun b26=> ?_
  refine Ac ⟨rfl,⟨_,sP⟩,?_⟩
  refine Am<|Bh<|Be ?_
  refine A6 rfl (Aup) sP rfl aQ ?_
  refine Ac ⟨rfl,⟨_,sP⟩,?_⟩
  refine Am<|A4<|xR (Ae rfl rfl rfl)<|xA rfl<|Am<|Bm<|n_K<|An ?_
  refine Aq (At Tryz.results221 (Ag rfl)) ?_ sP
  rfl
def C2 (xs:List Ldv) (but:Int):Nat→Int×Bool
 | 0=>(0,false)
 | i+1=>if (!decide ((i:Int)=but) && (!(C2 xs but i).2 || Uh (Jf xs i) (Jf xs (C2 xs but i).1.toNat)))=true then ((i:Int),true) else C2 xs but i
theorem J1 (xs:List Ldv) (but:Int):∀ i,0≤(C2 xs but i).1∧((C2 xs but i).1<i∨(C2 xs but i).1=0)
 | 0=>⟨Int.le_refl _,.inr rfl⟩
 | i+1=>by
  have ih:=J1 xs but i
  unfold C2
  split
  ·simp only;omega
  ·omega
theorem Ang {s:Sl Ldv} {but:Int} {T:TypeId}:Does Tryz.prog 220 [s.val,.int .i64 but,.func (.func 221) #[] #[]] (s.hp T++[])
  (Is (.tuple #[.int .i64 (C2 s.list but s.list.length).1,.bool (C2 s.list but s.list.length).2]) (s.hp T++[])):=by
 have hsm:=s.small
 refine Ah (n:=37) Tryz.func220 Tryz.ntmps220 rfl (Nat.le_of_ble_eq_true rfl)<|Ad<|Aa fun ops=>oA rfl<|oA rfl<|Ac<|n_K<|Ad<|Ad<|Aa fun ops=>oM rfl<|oR (A7 rfl)<|oM rfl<|Ac ?_
 refine n_K<|Ak ?_
 refine A8 [0,1,2,10,11] kQ (fun (i:Nat)=>[(12,.int .i64 i),(6,.int .i64 (C2 s.list but i).1),(7,.bool (C2 s.list but i).2)]) (fun (i:Nat)=>(s.hp T++[])) (fun (i:Nat)=>i≤s.list.length) (fun (i:Nat)=>s.list.length - i) (0) (Nat.zero_le _) kP sP ?_
 rintro i g0
 have hin:=J1 s.list but i
 refine Ad<|Aa fun ops=>oR (Ae rfl rfl rfl)<|Ac<|n_K<|Ad ?_
 refine Aj rfl (fun c13=> ?_) (fun c13=> ?_)
 ·simp only [decide_eq_true_eq,decide_eq_false_iff_not] at c13
  have hi:i<s.list.length:=(by omega)
  have hg:=O6 hi
  have hg2:=O6 (xs:=s.list) (i:=(C2 s.list but i).1.toNat) (by omega)
  refine Ai<|n_K<|Ad<|Ak<|Ad<|Aa fun ops=>oM rfl ?_
  refine oR (Bk rfl rfl (by omega)) ?_
  refine oR (Do (o:=0) rfl pL hg rfl rfl) ?_
  refine Aw rfl fun b9=> ?_
  refine oA rfl ?_
  refine Af rfl rfl uD rfl rfl rfl ?_
  refine Ac<|n_K<|Ad ?_
  refine s_draw [(3,20),(6,23)] [(4,[(0,false),(1,false),(2,false),(3,false)]),(16,[(4,false),(5,false),(6,false),(7,false),(8,false),(9,false),(10,false),(11,false),(12,false),(13,true),(14,false),(15,false)])] (by kernel_rfl) rfl fun ops w0 H0 y=> ?_
  refine A4<|xM rfl<|xM rfl<|xR (Ae rfl rfl rfl)<|xM rfl<|Am<|A4 ?_
  refine' Hx (j:=3) (k:=11) y rfl rfl rfl rfl rfl rfl rfl (fun hg20=> ?_) ?_
  rotate_left
  ·try (simp at hg20;show _)
   refine x_g y rfl rfl ?_
   refine xM rfl ?_
   refine x_g y rfl rfl ?_
   refine xR (Bx rfl) ?_
   refine x_g y rfl rfl ?_
   refine xM rfl ?_
   refine' Qa (j:=6) (k:=7) y rfl rfl rfl rfl rfl rfl rfl (fun hg23=> ?_) ?_
   rotate_left
   ·try (simp at hg23;show _)
    refine x_g y rfl rfl ?_
    refine xM rfl ?_
    refine x_g y rfl rfl ?_
    refine xR (Au rfl mM rfl) ?_
    refine x_g y rfl rfl ?_
    refine xM rfl ?_
    refine x_g y rfl rfl ?_
    refine xM rfl ?_
    refine x_g y rfl rfl ?_
    refine xR (Bk (s:=s) rfl rfl (by omega)) ?_
    refine x_g y rfl rfl ?_
    refine xR (Do (s:=s) (o:=0) rfl pL hg2 rfl rfl) ?_
    refine x_g y rfl rfl ?_
    refine Be ?_
    refine S8 (fi:=[]) (ca:=[]) rfl rfl (Anf (x:=Jf s.list i) (y:=Jf s.list (C2 s.list but i).1.toNat)) sP rfl aQ ?_
    refine Ac ⟨rfl,⟨_,sP⟩,?_⟩
    exact Am ⟨rfl,⟨_,sP⟩⟩
   exact Am ⟨rfl,⟨_,sP⟩⟩
  refine Am<|Bm<|n_K ?_
  refine Aj rfl (fun c32=> ?_) (fun c32=> ?_)
  ·skip
   have hst:C2 s.list but (i+1)=((i:Int),true):=(by unfold C2;rw [if_pos c32])
   refine Aa fun ops=>oM rfl<|oA rfl<|oA rfl<|Ac<|Az<|n_K<|Aa fun ops=> ?_
   refine oR (Ao rfl rfl (by omega)) ?_
   refine oM rfl<|Ac<|n_K ?_
   exact ⟨i+1,(by omega),(by omega),(by rw [hst];exact kP),kP,_,sP⟩
  ·skip
   have hst:C2 s.list but (i+1)=C2 s.list but i:=(by conv=>lhs;unfold C2;rw [if_neg (by rw [c32];decide)])
   refine Ai<|Az<|n_K<|Aa fun ops=> ?_
   refine oR (Ao rfl rfl (by omega)) ?_
   refine oM rfl<|Ac<|n_K ?_
   exact ⟨i+1,(by omega),(by omega),(by rw [hst];exact kP),kP,_,sP⟩
 ·simp only [decide_eq_true_eq,decide_eq_false_iff_not] at c13
  have hi:i=s.list.length:=(by omega)
  subst hi
  refine Bb<|x_K<|x_K<|Bj<|n_K<|Ad<|Aa fun ops=>oM rfl<|oM rfl<|oA rfl<|oA rfl<|Ac<|n_K<|An ?_
  refine Aq (Bz Tryz.results220 (Ag rfl) (Ag rfl)) ?_ sP
  rfl
def D4 (xs:List Ldv):Nat→Nat
 | 0=>0
 | i+1=>if (Jf xs (D4 xs i)).s.seq.toNat<(Jf xs i).s.seq.toNat then i else D4 xs i
theorem Ui (xs:List Ldv):∀ i,D4 xs i<i∨D4 xs i=0
 | 0=> .inr rfl
 | i+1=>by
  have ih:=Ui xs i
  unfold D4
  split
  ·exact .inl (Nat.lt_succ_self _)
  ·omega
def Fv (xs:List Ldv):Int×Bool:=C2 xs (D4 xs xs.length) xs.length
theorem Ars {s:Sl Ldv} {T:TypeId}:Does Tryz.prog 193 [s.val] (s.hp T++[]) (Is (.tuple #[.int .i64 (Fv s.list).1,.bool (Fv s.list).2]) (s.hp T++[])):=by
 have hsm:=s.small
 refine Ah (n:=31) Tryz.func193 Tryz.ntmps193 rfl (Nat.le_of_ble_eq_true rfl)<|Ad<|Aa fun ops=>oA rfl<|oA rfl<|Ac<|n_K<|Ad<|Aa fun ops=>oA rfl<|Ac<|n_K<|Ad<|Ad ?_
 refine Aa fun ops=>oM rfl<|oR (A7 rfl)<|oM rfl<|Ac<|n_K<|Ak ?_
 refine A8 [0,7,8] kQ (fun (i:Nat)=>[(9,.int .i64 i),(4,.int .i64 (D4 s.list i:Nat))]) (fun (i:Nat)=>(s.hp T++[])) (fun (i:Nat)=>i≤s.list.length) (fun (i:Nat)=>s.list.length - i) (0) (Nat.zero_le _) kP sP ?_
 rintro i g0
 have hin:=Ui s.list i
 refine Ad<|Aa fun ops=>oR (Ae rfl rfl rfl)<|Ac<|n_K<|Ad ?_
 refine Aj rfl (fun c10=> ?_) (fun c10=> ?_)
 ·simp only [decide_eq_true_eq,decide_eq_false_iff_not] at c10
  have hi:i<s.list.length:=(by omega)
  have hg:=O6 hi
  have hg2:=O6 (xs:=s.list) (i:=D4 s.list i) (by omega)
  refine Ai<|n_K<|Ad<|Ak<|Ad<|Aa fun ops=>oM rfl ?_
  refine oR (Bk rfl rfl (by omega)) ?_
  refine oR (Do (o:=0) rfl pL hg rfl rfl) ?_
  refine Aw rfl fun b6=> ?_
  refine oA rfl ?_
  refine Af rfl rfl uD rfl rfl rfl ?_
  refine Ac<|n_K<|Ad ?_
  refine s_draw [] [(10,[(0,false),(1,false),(2,false),(3,false),(4,false),(5,false),(6,false),(7,false),(8,false),(9,false)])] (by kernel_rfl) rfl fun ops w0 H0 y=> ?_
  refine A4<|xF rfl<|xF rfl ?_
  refine xR (Al rfl mM rfl) ?_
  refine xM rfl<|xM rfl ?_
  refine xR (Bk (s:=s) rfl rfl (by omega)) ?_
  refine xF rfl<|xF rfl ?_
  refine xR (show Rd _ _ _ _ (wv (Jf s.list (D4 s.list i)).s.seq) from C0 (s:=s) (o:=1) rfl pL hg2 rfl rfl) ?_
  refine xR (Ae rfl rfl rfl)<|Am<|Bm<|n_K ?_
  refine Aj rfl (fun c23=> ?_) (fun c23=> ?_)
  ·simp only [decide_eq_true_eq,decide_eq_false_iff_not] at c23
   have hst:D4 s.list (i+1)=i:=(by unfold D4;rw [if_pos (by omega)])
   refine Aa fun ops=>oM rfl<|oA rfl<|Ac<|Az<|n_K<|Aa fun ops=> ?_
   refine oR (Ao rfl rfl (by omega)) ?_
   refine oM rfl<|Ac<|n_K ?_
   exact ⟨i+1,(by omega),(by omega),(by rw [hst];exact kP),kP,_,sP⟩
  ·simp only [decide_eq_true_eq,decide_eq_false_iff_not] at c23
   have hst:D4 s.list (i+1)=D4 s.list i:=(by conv=>lhs;unfold D4;rw [if_neg (by omega)])
   refine Ai<|Az<|n_K<|Aa fun ops=> ?_
   refine oR (Ao rfl rfl (by omega)) ?_
   refine oM rfl<|Ac<|n_K ?_
   exact ⟨i+1,(by omega),(by omega),(by rw [hst];exact kP),kP,_,sP⟩
 ·simp only [decide_eq_true_eq,decide_eq_false_iff_not] at c10
  have hi:i=s.list.length:=(by omega)
  subst hi
  refine Bb<|x_K<|x_K<|Bj<|n_K<|Ad<|Aa fun ops=>oM rfl<|oM rfl ?_
  refine A6 rfl (Ang (but:=(D4 s.list s.list.length:Nat))) sP rfl aQ ?_
  refine oE rfl rfl<|oE rfl rfl<|oA rfl<|oA rfl<|Ac<|n_K<|An ?_
  refine Aq (Bz Tryz.results193 (Ag rfl) (Ag rfl)) ?_ sP
  rfl
end
section
open Go.K
set_option maxRecDepth 20000
set_option maxHeartbeats 1000000
def Aei (p:Pg):Prop:=(Eb p).2.2.2≠0∧Dv p=p
def OkPg (p:Pg):Prop:=RecP p∨Aei p
theorem OkPg.mend {p:Pg} (h:OkPg p):Dv p=p:=by
 rcases h with h | h
 ·exact h.mend
 ·exact h.2
theorem Aiy {p:Pg} (h:p[257]=255#8):Aei p:=by
 have he:=J8 h
 refine ⟨?_,Ag2 h⟩
 unfold Eb
 rw [if_neg (fun h2=>he h2.1)]
 exact he
theorem Sh {m:Nat} {p:Pg}:Cu m A0 p=p∨Aei (Cu m A0 p):=by
 by_cases h:258≤m
 ·exact .inl (Fu h)
 ·refine .inr (Aiy ?_)
  have:(Cu m A0 p)[257]=A0[257]:=by rw [O2,if_neg (by omega)]
  rw [this,J0 (by omega)]
structure CntZ (sq:Wd) (v:Blk) (r:List Pg):Prop where
 seq:sq.toNat≠0
 len:r.length≤6
 next:v.next=((2+r.length:Nat):Int)
 head:A9 v 1=Nx sq
 recs:∀ i (h:i<r.length),A9 v (2+i)=r[i]
 good:∀ p∈r,OkPg p
def O7 (v:Blk):Prop:=(nF (A9 v 1) 3).2=false
structure UsedZ (x:LB) (v:Blk) (r:List Pg):Prop where
 cnt:CntZ x.seq v r
 ready:x.ready=false
 lo:2≤x.next
 hi:x.next≤8
 at':x.next≤v.next∨x.next=8
structure FreeZ (x:LB) (v:Blk):Prop where
 seq:x.seq.toNat=0
 rdy:x.ready=true→v.next=1∧x.known=true∧A9 v 0=I7 x.wear
 free:O7 v
structure LogV (nb k:Nat) (V:Nat→Blk) (bs:List LB) (last:Int) (R:Nat→List Pg):Prop where
 len:bs.length=nb
 blk:∀ j<nb,(FreeZ (bAt bs j) (V j)∧R j=[])∨UsedZ (bAt bs j) (V j) (R j)
 lst:(last= -1∧∀ j<nb,(bAt bs j).seq.toNat=0)∨∃ l:Nat,last=l∧l<nb∧(bAt bs l).seq.toNat≠0∧∀ j<nb,j≠l→(bAt bs j).seq.toNat<(bAt bs l).seq.toNat
 top:∀ j<nb,(bAt bs j).seq.toNat≤k
 dis:∀ i<nb,∀ j<nb,i≠j→(bAt bs i).seq.toNat≠0→(bAt bs i).seq.toNat≠(bAt bs j).seq.toNat
structure LZ (n nb k:Nat) (q:Qt) (d:Dsk) (bs:List LB) (last:Int) (V:Nat→Blk) (R:Nat→List Pg):Prop where
 num:nb+6=n
 dv:DV d.c d.t.ts n k V
 acc:Acc q d.c d.t.ts
 lv:LogV nb k V bs last R
structure LogC (nb k:Nat) (V:Nat→Blk) (sq:Nat→Wd) (R:Nat→List Pg):Prop where
 bi:∀ j<nb,BI (V j)
 blk:∀ j<nb,((sq j).toNat=0∧O7 (V j)∧R j=[])∨CntZ (sq j) (V j) (R j)
 top:∀ j<nb,(sq j).toNat≤k
 dis:∀ i<nb,∀ j<nb,i≠j→(sq i).toNat≠0→(sq i).toNat≠(sq j).toNat
theorem Abx {v:Blk} {j:Nat} (h:∀ i,j≤i→i<8→Bs (A9 v i)=true):∀ k,k≤8→Fi v k≤max j (8 - k)
 | 0,_=>by show 8≤_;omega
 | k+1,hk=>by
  have ih:=Abx h k (by omega)
  have hle:=Sr v k (by omega)
  unfold Fi
  by_cases e:Fi v k=8 - k∧Bs (A9 v (7 - k))=true
  ·rw [if_pos e];omega
  ·rw [if_neg e]
   by_cases h2:Fi v k=8 - k
   ·have h3:¬ Bs (A9 v (7 - k))=true:=fun h4=>e ⟨h2,h4⟩
    have:¬ j≤7 - k:=fun h4=>h3 (h _ h4 (by omega))
    omega
   ·omega
theorem Anh {v:Blk} {j:Nat} (h:∀ i,j≤i→i<8→Bs (A9 v i)=true):Ku v≤j:=by
 have:=Abx h 8 (Nat.le_refl _)
 unfold Ku
 omega
theorem Aby {v:Blk} {i:Nat} (hb:Bs (A9 v i)=false):∀ k,k≤8→i<8→i+1≤Fi v k
 | 0,_,h8=>by show i+1≤8;omega
 | k+1,hk,h8=>by
  have ih:=Aby hb k (by omega) h8
  unfold Fi
  by_cases e:Fi v k=8 - k∧Bs (A9 v (7 - k))=true
  ·rw [if_pos e]
   have:i≠7 - k:=fun h2=>by rw [h2,e.2] at hb;cases hb
   omega
  ·rw [if_neg e];exact ih
theorem Ani {v:Blk} {i:Nat} (hi:i<8) (hb:Bs (A9 v i)=false):i+1≤Ku v:=Aby hb 8 (Nat.le_refl _) hi
theorem CntZ.add {sq:Wd} {v w:Blk} {r:List Pg} {p:Pg} (u:CntZ sq w r) (hl:r.length<6) (hn:v.next=((2+r.length+1:Nat):Int)) (hk:Rq v w (2+r.length)) (hp:A9 v (2+r.length)=p) (hg:OkPg p):CntZ sq v (r++[p]) where
 seq:=u.seq
 len:=by rw [List.length_append];simp;omega
 next:=by rw [hn,List.length_append];simp;omega
 head:=by rw [Ae7 hk (by omega) (by omega) (by rw [u.head];exact Ih (by decide) _),u.head]
 recs:=fun i hi=>by
  rw [List.length_append] at hi
  simp only [List.length_singleton] at hi
  by_cases e:i=r.length
  ·subst e;rw [hp];simp
  ·have h1:i<r.length:=by omega
   rw [Ae7 hk (by omega) (by omega) (by rw [u.recs i h1];exact (u.good _ (List.getElem_mem h1)).mend),u.recs i h1,List.getElem_append_left h1]
 good:=fun z hz=>by
  rcases List.mem_append.1 hz with h | h
  ·exact u.good z h
  ·rw [List.mem_singleton.1 h];exact hg
section
variable {n nb k k':Nat} {q:Qt} {d:Dsk} {bs bs':List LB} {last:Int} {V:Nat→Blk} {R:Nat→List Pg} {p:Pg} {v:Blk}
theorem LogV.used (h:LogV nb k V bs last R) {l:Nat} (hl:last=l):l<nb∧UsedZ (bAt bs l) (V l) (R l):=by
 rcases h.lst with ⟨h1,_⟩ | ⟨l',h1,h2,h3,_⟩
 ·omega
 ·have:l'=l:=by omega
  subst this
  refine ⟨h2,?_⟩
  rcases h.blk l' h2 with ⟨f,_⟩ | u
  ·exact absurd f.seq h3
  ·exact u
theorem LogV.us (h:LogV nb k V bs last R) {j:Nat} (hj:j<nb) (hs:(bAt bs j).seq.toNat≠0):UsedZ (bAt bs j) (V j) (R j):=by
 rcases h.blk j hj with ⟨f,_⟩ | u
 ·exact absurd f.seq hs
 ·exact u
theorem LogV.rdy (h:LogV nb k V bs last R):Avq V bs nb:=fun b hb hr=>by
 rcases h.blk b hb with ⟨f,_⟩ | u
 ·exact f.rdy hr
 ·rw [u.ready] at hr;cases hr
theorem LogV.rng (h:LogV nb k V bs last R): -1≤last∧last<nb:=by
 rcases h.lst with ⟨h1,_⟩ | ⟨l,h1,h2,_⟩ <;> omega
theorem LogV.lls (h:LogV nb k V bs last R) (h0:0≤last):(bAt bs last.toNat).seq.toNat≠0∧2≤(bAt bs last.toNat).next∧(bAt bs last.toNat).next≤8:=by
 obtain ⟨hlt,u⟩:=h.used (l:=last.toNat) (by omega)
 exact ⟨u.cnt.seq,u.lo,u.hi⟩
theorem LogV.mono (h:LogV nb k V bs last R) (hk:k≤k'):LogV nb k' V bs last R:=⟨h.len,h.blk,h.lst,fun j hj=>Nat.le_trans (h.top j hj) hk,h.dis⟩
theorem LogV.cont (h:LogV nb k V bs last R) (hb:∀ j<nb,BI (V j)):LogC nb k V (fun j=>(bAt bs j).seq) R :=
 ⟨hb,fun j hj=>(h.blk j hj).imp (fun ⟨f,r⟩=>⟨f.seq,f.free,r⟩) (fun u=>u.cnt),h.top,h.dis⟩
theorem LogV.seqN (h:LogV nb k V bs last R) (hk:k≤400000000000):(seqN bs last).toNat≠0∧(seqN bs last).toNat≤k+1∧∀ j<nb,(bAt bs j).seq.toNat<(seqN bs last).toNat:=by
 unfold Go.Proofs.YtpmojdippdlcaaaGreatDoor.seqN
 rcases h.lst with ⟨h1,h2⟩ | ⟨l,h1,h2,h3,h4⟩
 ·rw [if_pos (by omega)]
  exact ⟨by decide,by show 1≤k+1;omega,fun j hj=>by rw [h2 j hj];decide⟩
 ·rw [if_neg (by omega),h1,Int.toNat_natCast]
  have ht:=h.top l h2
  have e:((bAt bs l).seq+1).toNat=(bAt bs l).seq.toNat+1:=by
   rw [BitVec.toNat_add]
   show ((bAt bs l).seq.toNat+1) % 2 ^ 64=_
   omega
  rw [e]
  refine ⟨by omega,by omega,fun j hj=> ?_⟩
  by_cases hj2:j=l
  ·subst hj2;omega
  ·have:=h4 j hj hj2;omega
theorem LogV.app1 (h:LogV nb k V bs last R) (hkk:k≤k') (hg:OkPg p) {l:Nat} (hl:last=l) (hr:(R l).length<6) (hn:v.next=((2+(R l).length+1:Nat):Int)) (hk:Rq v (V l) (2+(R l).length)) (hp:A9 v (2+(R l).length)=p) :
  LogV nb k' (upV V l v) (bs.set l { bAt bs l with next:=((2+(R l).length:Nat):Int)+1 }) last (upR R l (R l++[p])):=by
 obtain ⟨hlt,u⟩:=h.used hl
 have hlb:l<bs.length:=by rw [h.len];exact hlt
 have hb:∀ j,bAt (bs.set l { bAt bs l with next:=((2+(R l).length:Nat):Int)+1 }) j=if j=l then { bAt bs l with next:=((2+(R l).length:Nat):Int)+1 } else bAt bs j:=fun j=>Dq hlb
 have hs:∀ j,(bAt (bs.set l { bAt bs l with next:=((2+(R l).length:Nat):Int)+1 }) j).seq=(bAt bs j).seq:=fun j=>by
  rw [hb]
  split
  ·rename_i e;subst e;rfl
  ·rfl
 refine ⟨by rw [List.length_set];exact h.len,fun j hj=> ?_,?_,fun j hj=>by rw [hs];exact Nat.le_trans (h.top j hj) hkk,fun i hi j hj=> ?_⟩
 ·rw [hb]
  unfold upV upR
  by_cases e:j=l
  ·rw [if_pos e,if_pos e,if_pos e]
   have ha:=u.cnt.add hr hn hk hp hg
   have hl6:=ha.len
   rw [List.length_append] at hl6
   simp only [List.length_singleton] at hl6
   exact .inr ⟨ha,u.ready,by simp only;omega,by simp only;omega,.inl (by simp only;omega)⟩
  ·rw [if_neg e,if_neg e,if_neg e]
   exact h.blk j hj
 ·rcases h.lst with ⟨h1,h2⟩ | ⟨l',h1,h2,h3,h4⟩
  ·exact .inl ⟨h1,fun j hj=>by rw [hs];exact h2 j hj⟩
  ·exact .inr ⟨l',h1,h2,by rw [hs];exact h3,fun j hj hne=>by rw [hs,hs];exact h4 j hj hne⟩
 ·rw [hs,hs];exact h.dis i hi j hj
theorem FreeZ.oth {x y:LB} {w:Blk} (f:FreeZ x w) (h:y=x∨y={ x with next:=8 }):FreeZ y w:=by
 rcases h with rfl | rfl
 ·exact f
 ·exact ⟨f.seq,f.rdy,f.free⟩
theorem UsedZ.oth {x y:LB} {w:Blk} {r:List Pg} (u:UsedZ x w r) (h:y=x∨y={ x with next:=8 }):UsedZ y w r:=by
 rcases h with rfl | rfl
 ·exact u
 ·exact ⟨u.cnt,u.ready,by show (2:Int)≤8;decide,by show (8:Int)≤8;decide,.inr rfl⟩
theorem LogV.app2 (h:LogV nb k V bs last R) (hk:k≤400000000000) (hkk:k+1≤k') (hg:OkPg p) {to:Nat} (hto:to<nb) (hlen:bs'.length=nb) (hn:v.next=3) (h2:A9 v 2=p) (h1:A9 v 1=Nx (Go.Proofs.YtpmojdippdlcaaaGreatDoor.seqN bs last))
  (hx:bAt bs' to=⟨(bAt bs to).wear,true,Go.Proofs.YtpmojdippdlcaaaGreatDoor.seqN bs last,false,3⟩) (ho:Py bs bs' nb last to):LogV nb k' (upV V to v) bs' to (upR R to [p]):=by
 obtain ⟨s1,s2,s3⟩:=h.seqN hk
 have ho2:∀ j<nb,j≠to→bAt bs' j=bAt bs j∨bAt bs' j={ bAt bs j with next:=8 }:=fun j hj hne=>(ho j hj (by omega)).imp id (fun e=>e.2)
 have hs:∀ j<nb,j≠to→(bAt bs' j).seq=(bAt bs j).seq:=fun j hj hne=>by
  rcases ho2 j hj hne with e | e <;> rw [e]
 refine ⟨hlen,fun j hj=> ?_,.inr ⟨to,rfl,hto,by rw [hx];exact s1,fun j hj hne=>by rw [hs j hj hne,hx];exact s3 j hj⟩,fun j hj=> ?_,fun i hi j hj hne hz=> ?_⟩
 ·unfold upV upR
  by_cases e:j=to
  ·subst e
   rw [if_pos rfl,if_pos rfl]
   refine .inr ⟨⟨by rw [hx];exact s1,by simp,by rw [hn];rfl,by rw [hx];exact h1,fun i hi=> ?_,fun z hz=>by rw [List.mem_singleton.1 hz];exact hg⟩,by rw [hx],by rw [hx];show (2:Int)≤3;omega,by rw [hx];show (3:Int)≤8;omega,.inl (by rw [hx,hn];exact Int.le_refl _)⟩
   have:i=0:=by simp at hi;exact hi
   subst this
   exact h2
  ·rw [if_neg e,if_neg e]
   exact (h.blk j hj).imp (fun ⟨f,r⟩=>⟨f.oth (ho2 j hj e),r⟩) (fun u=>u.oth (ho2 j hj e))
 ·by_cases e:j=to
  ·subst e;rw [hx];exact Nat.le_trans s2 hkk
  ·rw [hs j hj e];exact Nat.le_trans (h.top j hj) (by omega)
 ·by_cases e:i=to
  ·subst e
   rw [hs j hj (Ne.symm hne),hx]
   have:=s3 j hj
   simp only
   omega
  ·by_cases e2:j=to
   ·subst e2
    rw [hs i hi e,hx]
    have:=s3 i hi
    simp only
    omega
   ·rw [hs i hi e] at hz ⊢
    rw [hs j hj e2]
    exact h.dis i hi j hj hne hz
theorem LogC.opened {sq:Nat→Wd} (h:LogC nb k V sq R):LogV nb k V (D2 V nb).1 (D2 V nb).2 R∧∀ j<nb,(bAt (D2 V nb).1 j).seq=sq j:=by
 have hlk:∀ j<nb,(Ce (V j)).seq=sq j∧(Ce (V j)).ready=false∧((sq j).toNat≠0→(Ce (V j)).next=(Ku (V j):Int)):=fun j hj=>by
  unfold Ce
  rcases h.blk j hj with ⟨h1,h2,_⟩ | u
  ·have e:sq j=0:=BitVec.eq_of_toNat_eq h1
   have h2':¬ (nF (A9 (V j) 1) 3).2=true:=by rw [show (nF (A9 (V j) 1) 3).2=false from h2];decide
   rw [if_neg h2',e]
   exact ⟨rfl,rfl,fun h9=>absurd rfl h9⟩
  ·rw [u.head,Atp (by decide)]
   exact ⟨rfl,rfl,fun _=>rfl⟩
 have hat:∀ j<nb,bAt (D2 V nb).1 j=Hq (Mn (E7 V nb) nb) (Ce (V j)):=fun j hj=>by
  unfold D2 bAt
  simp only [List.getD_eq_getElem?_getD,List.getElem?_map,List.getElem?_range hj,Option.map_some,Option.getD_some]
  rfl
 have hkn:∀ (m:Wd) (x:LB),(Hq m x).seq=x.seq∧(Hq m x).ready=x.ready∧(Hq m x).next=x.next:=fun m x=>by unfold Hq;split <;> exact ⟨rfl,rfl,rfl⟩
 have hs:∀ j<nb,(bAt (D2 V nb).1 j).seq=sq j:=fun j hj=>by rw [hat j hj,(hkn _ _).1,(hlk j hj).1]
 refine ⟨⟨Ahk V nb,fun j hj=> ?_,?_,fun j hj=>by rw [hs j hj];exact h.top j hj,fun i hi j hj hne hz=>by rw [hs i hi] at hz ⊢;rw [hs j hj];exact h.dis i hi j hj hne hz⟩,hs⟩
 ·rcases h.blk j hj with ⟨h1,h2,h3⟩ | u
  ·refine .inl ⟨⟨by rw [hs j hj];exact h1,fun hr=> ?_,h2⟩,h3⟩
   rw [hat j hj,(hkn _ _).2.1,(hlk j hj).2.1] at hr
   cases hr
  ·have hn:(bAt (D2 V nb).1 j).next=(Ku (V j):Int):=by rw [hat j hj,(hkn _ _).2.2,(hlk j hj).2.2 u.seq]
   have hle:=Sr (V j) 8 (Nat.le_refl _)
   have hlen:=u.len
   have hup:Ku (V j)≤2+(R j).length:=by
    refine Anh (fun i h1 h2=> ?_)
    have:=(h.bi j hj).pg h2 (by rw [u.next];omega)
    rw [this];exact H6
   have hlo:2≤Ku (V j):=Ani (i:=1) (by omega) (by rw [u.head];exact Atx (by decide) _)
   exact .inr ⟨by rw [hs j hj];exact u,by rw [hat j hj,(hkn _ _).2.1,(hlk j hj).2.1],by rw [hn];omega,by rw [hn];unfold Ku;omega,.inl (by rw [hn,u.next];omega)⟩
 ·have hl:∀ j<nb,(bAt ((List.range nb).map fun b=>Ce (V b)) j).seq=sq j:=fun j hj=>by
   have e:bAt ((List.range nb).map fun b=>Ce (V b)) j=Ce (V j):=by
    unfold bAt
    simp only [List.getD_eq_getElem?_getD,List.getElem?_map,List.getElem?_range hj,Option.map_some,Option.getD_some]
   rw [e,(hlk j hj).1]
  show (Dw ((List.range nb).map fun b=>Ce (V b)) nb= -1∧_)∨∃ l:Nat,Dw ((List.range nb).map fun b=>Ce (V b)) nb=l∧_
  rcases Ka ((List.range nb).map fun b=>Ce (V b)) nb with ⟨g1,g2⟩ | ⟨l,g1,g2,g3,g4⟩
  ·exact .inl ⟨g1,fun j hj=>by rw [hs j hj,← hl j hj];exact g2 j hj⟩
  ·refine .inr ⟨l,g1,g2,by rw [hs l g2,← hl l g2];omega,fun j hj hne=> ?_⟩
   have h1:=g4 j hj
   rw [hl j hj,hl l g2] at h1
   rw [hl l g2] at g3
   rw [hs j hj,hs l g2]
   have:=h.dis l g2 j hj (Ne.symm hne) (by omega)
   omega
end
end
section
open Go.K
set_option maxRecDepth 20000
set_option maxHeartbeats 1000000
def Abz (bs:List LB) (last:Int) (R:Nat→List Pg):Prop:=last<0∨∃ l:Nat,last=l∧((bAt bs l).next=8∨(R l).length=6)
inductive AppZ (nb:Nat) (bs:List LB) (last:Int) (R:Nat→List Pg) (p:Pg):Int→Int→Int→Int→List LB→(Nat→List Pg)→Prop
 | into {l:Nat}:last=l→l<nb→(bAt bs l).seq.toNat≠0→(bAt bs l).next≤((2+(R l).length:Nat):Int)→(R l).length<6→AppZ nb bs last R p 0 l ((2+(R l).length:Nat):Int) last (bs.set l { bAt bs l with next:=((2+(R l).length:Nat):Int)+1 }) (upR R l (R l++[p]))
 | none {pb pj last':Int} {bs':List LB}:Abz bs last R→toU bs nb<0→AppZ nb bs last R p 40 pb pj last' bs' R
 | fresh {to:Nat} {bs':List LB}:Abz bs last R→toU bs nb=to→to<nb→(bAt bs to).seq.toNat=0→R to=[]→bAt bs' to=⟨(bAt bs to).wear,true,seqN bs last,false,3⟩→Py bs bs' nb last to→AppZ nb bs last R p 0 to 2 to bs' (upR R to [p])
def sqB (bs:List LB) (j:Nat):Wd:=(bAt bs j).seq
def K4 (sq:Nat→Wd) (to:Nat) (x:Wd):Nat→Wd:=fun j=>if j=to then x else sq j
inductive GrowZ (nb:Nat) (bs:List LB) (last:Int) (R:Nat→List Pg) (p:Pg):(Nat→Wd)→(Nat→List Pg)→Prop
 | same:GrowZ nb bs last R p (sqB bs) R
 | into {l:Nat} {x:Pg}:last=l→l<nb→(bAt bs l).seq.toNat≠0→(R l).length<6→(x=p∨Aei x)→GrowZ nb bs last R p (sqB bs) (upR R l (R l++[x]))
 | head {to:Nat}:to<nb→(bAt bs to).seq.toNat=0→R to=[]→(∀ j<nb,(bAt bs j).seq.toNat<(seqN bs last).toNat)→GrowZ nb bs last R p (K4 (sqB bs) to (seqN bs last)) R
 | fresh {to:Nat} {x:Pg}:to<nb→(bAt bs to).seq.toNat=0→R to=[]→(∀ j<nb,(bAt bs j).seq.toNat<(seqN bs last).toNat)→(x=p∨Aei x)→GrowZ nb bs last R p (K4 (sqB bs) to (seqN bs last)) (upR R to [x])
def DownZ (n nb k:Nat) (q:Qt) (bs:List LB) (last:Int) (R:Nat→List Pg) (p:Pg) (c c':Chip) (e:Int):Prop :=
 e=30∧c'.off=true∧¬ c.after<0∧FrA c c'∧∃ V' sq' R',GrowZ nb bs last R p sq' R'∧LogC nb k V' sq' R'∧Later c' n k q.n V'
section
variable {n nb k:Nat} {q:Qt} {d:Dsk} {bs bs':List LB} {last last' e pb pj:Int} {V:Nat→Blk} {R:Nat→List Pg} {p:Pg} {t':Tab} {c':Chip}
theorem Later.bi {c c':Chip} {m:Nat} {V:Nat→Blk} (h:Later c' n k m V) (up:Up c) (f:FrA c c') {l:Nat} (hl:l+6<n):BI (V l):=by
 obtain ⟨t2,h1,h2,h3⟩:=h { c' with off:=false,after:= -1 } rfl ⟨rfl,by rw [show ({ c' with off:=false,after:= -1 }:Chip).dead=c'.dead from rfl,f.dead];exact up.dead,by rw [show ({ c' with off:=false,after:= -1 }:Chip).out=c'.out from rfl,f.out];exact up.out⟩ rfl rfl
 exact (h2.blk hl).1
theorem LogV.full (h:LogV nb k V bs last R) (hnr:Xs V bs last):Abz bs last R:=by
 rcases hnr with h1 | ⟨l,h1,h2⟩
 ·exact .inl h1
 ·obtain ⟨hlt,u⟩:=h.used h1
  refine .inr ⟨l,h1,?_⟩
  have hun:=u.cnt.next
  have hul:=u.cnt.len
  rcases u.at' with e | e
  ·right
   by_cases h8:(R l).length=6
   ·exact h8
   ·exact absurd hun (h2 (2+(R l).length) (by omega) (by omega))
  ·exact .inl e
theorem Age {x:Pg} (hg:RecP p) (h:x=p∨Aei x):OkPg x:=by
 rcases h with rfl | h
 ·exact .inl hg
 ·exact .inr h
theorem LogC.set {sq:Nat→Wd} {k':Nat} (h:LogC nb k V sq R) (hkk:k≤k') {b:Nat} {v:Blk} {s:Wd} {r:List Pg} (hv:BI v) (hb:(s.toNat=0∧O7 v∧r=[])∨CntZ s v r) (hs:s=sq b∨(s.toNat≤k'∧∀ j<nb,(sq j).toNat<s.toNat)) (hbn:b<nb) :
  LogC nb k' (upV V b v) (K4 sq b s) (upR R b r):=by
 refine ⟨fun j hj=> ?_,fun j hj=> ?_,fun j hj=> ?_,fun i hi j hj hne hz=> ?_⟩
 ·unfold upV;split
  ·exact hv
  ·exact h.bi j hj
 ·unfold upV K4 upR
  by_cases e:j=b
  ·rw [if_pos e,if_pos e,if_pos e];exact hb
  ·rw [if_neg e,if_neg e,if_neg e];exact h.blk j hj
 ·unfold K4;split
  ·rename_i e
   rcases hs with rfl | ⟨hs,_⟩
   ·exact Nat.le_trans (h.top b hbn) hkk
   ·exact hs
  ·exact Nat.le_trans (h.top j hj) hkk
 ·unfold K4 at hz ⊢
  by_cases ei:i=b
  ·rw [if_pos ei] at hz ⊢
   rw [if_neg (fun e=>hne (by rw [ei,e]))]
   rcases hs with rfl | ⟨_,hs⟩
   ·exact h.dis b hbn j hj (by omega) hz
   ·have:=hs j hj;omega
  ·rw [if_neg ei] at hz ⊢
   by_cases ej:j=b
   ·rw [if_pos ej]
    rcases hs with rfl | ⟨_,hs⟩
    ·exact h.dis i hi b hbn (by omega) hz
    ·have:=hs i hi;omega
   ·rw [if_neg ej];exact h.dis i hi j hj hne hz
theorem Ab0 (sq:Nat→Wd) (b:Nat):K4 sq b (sq b)=sq:=by
 funext j
 unfold K4
 split
 ·rename_i e;rw [e]
 ·rfl
theorem Ab1 (R:Nat→List Pg) {b:Nat} {r:List Pg} (h:R b=r):upR R b r=R:=by
 funext j
 unfold upR
 split
 ·rename_i e;rw [e,h]
 ·rfl
theorem Anj {m:Nat} {p:Pg}:Cu m A0 p=p∨(Cg (Cu m A0 p)).2.2.2≠0:=by
 by_cases h:258≤m
 ·exact .inl (Fu h)
 ·refine .inr (J8 ?_)
  have:(Cu m A0 p)[257]=A0[257]:=by rw [O2,if_neg (by omega)]
  rw [this,J0 (by omega)]
theorem LZ.app (h:LZ n nb k q d bs last V R) (hk:k≤300000000000) (hg:RecP p) (hA:Apx n nb (k+80) q V bs last p d.c d.t.ts bs' last' e pb pj t'.ts c') :
  (e≠30∧∃ R' V',AppZ nb bs last R p e pb pj last' bs' R'∧LZ n nb (k+80) q ⟨d.dk,t',c'⟩ bs' last' V' R'∧FrA d.c c'∧(q.n=0→e=0→last'=last→Z4 d.c c'))∨DownZ n nb (k+80) q bs last R p d.c c' e:=by
 have hbi:∀ j<nb,BI (V j):=fun j hj=>(h.dv.blk (l:=j) (by have:=h.num;omega)).1
 have hC:=h.lv.cont hbi
 have hup:Up d.c:=h.dv.di.up
 have hnum:=h.num
 rcases hA with ⟨l,nx,h1,h2,h3,h4,h5,v,h6,h7,h8⟩ | ⟨hnr,hA⟩
 ·obtain ⟨hlt,u⟩:=h.lv.used h1
  have hun:=u.cnt.next
  have hnx:nx=2+(R l).length:=by omega
  subst hnx
  rcases h8 with ⟨rfl,q2,q3,q4,rfl,rfl,rfl,rfl,q9⟩ | ⟨q1,q2,q3,⟨m,q4⟩,q5⟩
  ·refine .inl ⟨by decide,_,upV V l v,.into h1 hlt u.cnt.seq h2 (by omega),⟨h.num,q2,q3,?_⟩,h5,fun h0 _ _=>q9 h0⟩
   exact h.lv.app1 (by omega) (.inl hg) h1 (by omega) (by omega) h7 q4
  ·refine .inr ⟨q1,q2,q3,h5,upV V l v,sqB bs,_,.into (x:=Cu m A0 p) h1 hlt u.cnt.seq (by omega) Sh,?_,q5⟩
   have:=hC.set (k':=k+80) (by omega) (b:=l) (v:=v) (s:=(bAt bs l).seq) (r:=R l++[Cu m A0 p]) (by have:=q5.bi hup h5 (l:=l) (by omega);rwa [E5] at this) (.inr (u.cnt.add (by omega) (by omega) h7 q4 (Age hg Sh))) (.inl rfl) hlt
   rwa [Ab0 (fun j=>(bAt bs j).seq) l] at this
 ·have hfull:=h.lv.full hnr
  obtain ⟨s1,s2,s3⟩:=h.lv.seqN (by omega)
  rcases hA with ⟨rfl,q2,q3,rfl,rfl,q6,q7⟩ | ⟨q1,q2,to,v,q3,q4⟩
  ·refine .inl ⟨by decide,R,V,.none hfull q2,?_,FrA.refl _,fun _ h9=>by cases h9⟩
   have ho2:∀ j<nb,bAt bs' j=bAt bs j∨bAt bs' j={ bAt bs j with next:=8 }:=fun j hj=>(q7 j hj (by omega)).imp id (fun e=>e.2)
   have hs:∀ j<nb,(bAt bs' j).seq=(bAt bs j).seq:=fun j hj=>by rcases ho2 j hj with e | e <;> rw [e]
   refine ⟨h.num,by show DV d.c t'.ts n (k+80) V;rw [q3];exact h.dv.mono (by omega),by show Acc q d.c t'.ts;rw [q3];exact h.acc,?_⟩
   refine ⟨q6,fun j hj=>(h.lv.blk j hj).imp (fun ⟨f,r⟩=>⟨f.oth (ho2 j hj),r⟩) (fun u=>u.oth (ho2 j hj)),?_,fun j hj=>by rw [hs j hj];exact Nat.le_trans (h.lv.top j hj) (by omega),fun i hi j hj hne hz=> ?_⟩
   ·rcases h.lv.lst with ⟨h1,h2⟩ | ⟨l',h1,h2,h3,h4⟩
    ·exact .inl ⟨h1,fun j hj=>by rw [hs j hj];exact h2 j hj⟩
    ·exact .inr ⟨l',h1,h2,by rw [hs l' h2];exact h3,fun j hj hne=>by rw [hs j hj,hs l' h2];exact h4 j hj hne⟩
   ·rw [hs i hi] at hz ⊢;rw [hs j hj];exact h.lv.dis i hi j hj hne hz
  ·obtain ⟨l,x1,x2,x3,_⟩:=(Lb bs nb).resolve_left (fun h=>by
    rcases q4 with ⟨_,_,_,rfl,_⟩ | ⟨_,_,_,_,_⟩ <;> omega)
   have:l=to:=by omega
   subst this
   have hRto:R l=[]:=by
    rcases h.lv.blk l x2 with ⟨_,r⟩ | u
    ·exact r
    ·exact absurd x3 u.cnt.seq
   rcases q4 with ⟨rfl,r2,r3,rfl,rfl,rfl,r7,r8,r9,r10,r11,r12⟩ | ⟨r1,r2,r3,r4,r5⟩
   ·refine .inl ⟨by decide,_,upV V l v,.fresh hfull q3 x2 x3 hRto r11 r12,⟨h.num,r2,r3,?_⟩,q1,fun _ _ h9=> ?_⟩
    ·exact h.lv.app2 (by omega) (by omega) (.inl hg) x2 q2 r7 r8 r9 r11 r12
    ·exfalso
     obtain ⟨g1,u⟩:=h.lv.used h9.symm
     exact u.cnt.seq x3
   ·have hbv:BI v:=by have:=r4.bi hup q1 (l:=l) (by omega);rwa [E5] at this
    have hfr:O7 (V l):=by
     rcases h.lv.blk l x2 with ⟨f,_⟩ | u
     ·exact f.free
     ·exact absurd x3 u.cnt.seq
    have hfree:O7 v→∃ V' sq' R',GrowZ nb bs last R p sq' R'∧LogC nb (k+80) V' sq' R'∧Later c' n (k+80) q.n V':=fun hf=>by
     refine ⟨_,_,R,.same,?_,r4⟩
     have:=hC.set (k':=k+80) (by omega) (b:=l) (v:=v) (s:=(bAt bs l).seq) (r:=[]) hbv (.inl ⟨x3,hf,rfl⟩) (.inl rfl) x2
     rw [Ab0 (fun j=>(bAt bs j).seq) l,Ab1 R hRto] at this
     exact this
    have hused:∀ r,CntZ (seqN bs last) v r→LogC nb (k+80) (upV V l v) (K4 (sqB bs) l (seqN bs last)) (upR R l r):=fun r hr =>
     hC.set (k':=k+80) (by omega) hbv (.inr hr) (.inr ⟨by omega,s3⟩) x2
    refine .inr ⟨r1,r2,r3,q1,?_⟩
    rcases r5 with (he | ⟨g1,_,m,g2⟩) | ⟨g1,g2,m,g3⟩
    ·refine hfree ?_
     unfold O7
     rcases he with he | ⟨he,_⟩
     ·rcases he 1 (by omega) with e1 | e1
      ·rw [Fa (by omega),e1];exact Nw
      ·rw [Fa (by omega),e1,← Fa (by omega)];exact hfr
     ·rw [hbv.pg (by omega) (by rw [he];decide)];exact Nw
    ·rcases Anj (m:=m) (p:=Nx (seqN bs last)) with ht | ht
     ·refine ⟨_,_,_,.head x2 x3 hRto s3,?_,r4⟩
      have:=hused [] ⟨s1,by simp,by rw [g1];rfl,by rw [g2,ht],fun i hi=>by simp at hi,fun z hz=>by cases hz⟩
      rwa [Ab1 R hRto] at this
     ·refine hfree ?_
      unfold O7
      rw [g2]
      exact Akg ht
    ·refine ⟨_,_,_,.fresh (x:=Cu m A0 p) x2 x3 hRto s3 Sh,?_,r4⟩
     exact hused _ ⟨s1,by simp,by rw [g1];rfl,g2,fun i hi=>by
      have:i=0:=by simp at hi;exact hi
      subst this
      exact g3,fun z hz=>by rw [List.mem_singleton.1 hz];exact Age hg Sh⟩
end
end
section
open Go.K
set_option maxRecDepth 20000
set_option maxHeartbeats 1000000
def Fw (b:Int):Nat→List Pg→List Pl2
 | _,[]=>[]
 | i,p::r=>(if (Eb p).2.2.2=0 then [(b,(i:Int))] else [])++Fw b (i+1) r
theorem Ab2 (b:Int):∀ (r s:List Pg) (i:Nat),Fw b i (r++s)=Fw b i r++Fw b (i+r.length) s
 | [],s,i=>rfl
 | p::r,s,i=>by
  show _++Fw b (i+1) (r++s)=(_++Fw b (i+1) r)++_
  rw [Ab2 b r s (i+1),List.append_assoc,List.length_cons,show i+1+r.length=i+(r.length+1) by omega]
theorem recZ_mem {b:Int} {x:Pl2}:∀ {r:List Pg} {i:Nat},x∈Fw b i r↔∃ j,∃ p,r[j]? =some p∧(Eb p).2.2.2=0∧x=(b,((i+j:Nat):Int))
 | [],i=>by simp [Fw]
 | p::r,i=>by
  have ih:=recZ_mem (b:=b) (x:=x) (r:=r) (i:=i+1)
  unfold Fw
  rw [List.mem_append,ih]
  constructor
  ·rintro (h | ⟨j,q,h1,h2,h3⟩)
   ·split at h
    ·rename_i he
     exact ⟨0,p,rfl,he,by simpa using h⟩
    ·cases h
   ·exact ⟨j+1,q,by simpa using h1,h2,by rw [h3];congr 2;omega⟩
  ·rintro ⟨j,q,h1,h2,h3⟩
   cases j with
   | zero =>
    simp only [List.getElem?_cons_zero,Option.some.injEq] at h1
    subst h1
    left
    rw [if_pos h2]
    simpa using h3
   | succ j =>
    exact .inr ⟨j,q,by simpa using h1,h2,by rw [h3];congr 2;omega⟩
theorem Agf {v:Blk} {b:Int} {r:List Pg} (h:∀ i (hi:i<r.length),A9 v (2+i)=r[i]):∀ i,i≤r.length→Gq v b (2+i)=Fw b 2 (r.take i)
 | 0,_=>Xt v b
 | i+1,hi=>by
  rw [show 2+(i+1)=(2+i)+1 by omega]
  unfold Gq
  rw [Agf h i (by omega),h i (by omega),List.take_add_one,List.getElem?_eq_getElem (by omega),Ab2,List.length_take,Nat.min_eq_left (by omega)]
  congr 1
  show (if 2≤2+i∧_ then _ else _)=(if _ then _ else _)++[]
  by_cases e:(Eb r[i]).2.2.2=0
  ·rw [if_pos ⟨by omega,e⟩,if_pos e,List.append_nil]
  ·rw [if_neg (fun h2=>e h2.2),if_neg e,List.append_nil]
theorem CntZ.segs {sq:Wd} {v:Blk} {r:List Pg} (u:CntZ sq v r) (h:BI v) (b:Int):Gq v b 8=Fw b 2 r:=by
 have hl:=u.len
 have hn:=u.next
 rw [show 8=2+6 from rfl,Sy (m:=r.length) (fun i hi h8=> ?_) 6 hl (by omega),Agf u.recs _ (Nat.le_refl _),List.take_length]
 rw [h.pg h8 (by rw [hn];omega)];exact Ahj H6
def L3 (bs:List LB) (R:Nat→List Pg):Nat→List SV
 | 0=>[]
 | j+1=>L3 bs R j++if (bAt bs j).seq.toNat=0 then [] else [((j:Int),(bAt bs j).seq,(bAt bs j).wear,Fw j 2 (R j))]
section
variable {n nb k:Nat} {q:Qt} {d:Dsk} {bs bs':List LB} {last last' e:Int} {V:Nat→Blk} {R:Nat→List Pg} {t':Tab} {c':Chip}
theorem LZ.bi (h:LZ n nb k q d bs last V R) {j:Nat} (hj:j<nb):BI (V j):=(h.dv.blk (l:=j) (by have:=h.num;omega)).1
theorem LZ.segs (h:LZ n nb k q d bs last V R):∀ j,j≤nb→Mo V bs j=L3 bs R j
 | 0,_=>rfl
 | j+1,hj=>by
  unfold Mo L3
  rw [h.segs j (by omega)]
  by_cases e:(bAt bs j).seq.toNat=0
  ·rw [if_pos e,if_pos e]
  ·rw [if_neg e,if_neg e]
   rw [(h.lv.us (by omega) e).cnt.segs (h.bi (by omega))]
theorem Ab3:∀ k,(L3 bs R k).length+Cb bs k=k
 | 0=>rfl
 | k+1=>by
  have ih:=Ab3 k
  rw [F8]
  unfold L3 z1
  rw [List.length_append]
  split <;> simp <;> omega
theorem segZ_mem {x:SV}:∀ {k},x∈L3 bs R k↔∃ j<k,(bAt bs j).seq.toNat≠0∧x=((j:Int),(bAt bs j).seq,(bAt bs j).wear,Fw j 2 (R j))
 | 0=>by simp [L3]
 | k+1=>by
  have ih:=segZ_mem (x:=x) (k:=k)
  unfold L3
  rw [List.mem_append,ih]
  constructor
  ·rintro (⟨j,h1,h2⟩ | h)
   ·exact ⟨j,by omega,h2⟩
   ·split at h
    ·cases h
    ·rename_i hz;exact ⟨k,by omega,hz,by simpa using h⟩
  ·rintro ⟨j,h1,h2,h3⟩
   by_cases e:j=k
   ·subst e;rw [if_neg h2];exact .inr (by simpa using h3)
   ·exact .inl ⟨j,by omega,h2,h3⟩
theorem LZ.drop (h:LZ n nb k q d bs last V R) {b:Nat} (hb:b<nb) (hD:As3 n nb (k+40) q V bs last b d.c d.t.ts bs' last' e t'.ts c') (hs:(bAt bs b).seq.toNat≠0) :
  FrA d.c c'∧((e=0∧bs'=bs.set b (Ik ((bAt bs b).wear+1))∧last'=(if (b:Int)=last then Dw bs' nb else last)∧∃ V',LZ n nb (k+40) q ⟨d.dk,t',c'⟩ bs' last' V' (upR R b []))∨(e=30∧c'.off=true∧¬ d.c.after<0)):=by
 have hlen:=h.lv.len
 have hsg:N1 bs b=true:=by unfold N1;simp;omega
 rcases hD with ⟨h1,_⟩ | ⟨_,hW,hl⟩
 ·rw [hsg] at h1;cases h1
 rw [Int.toNat_natCast] at hW
 obtain ⟨w1,w2,v,w3⟩:=hW
 refine ⟨w2,?_⟩
 rcases w3 with ⟨rfl,w4,w5,w6,w7,w8⟩ | h9
 rotate_left
 ·exact .inr ⟨h9.1,h9.2.1,h9.2.2.1⟩
 have hl:=hl rfl
 refine .inl ⟨rfl,w6,hl,upV V b v,?_⟩
 have hb':∀ j,bAt bs' j=if j=b then Ik ((bAt bs b).wear+1) else bAt bs j:=fun j=>by rw [w6,Dq (by omega)]
 have hz:(bAt bs' b).seq.toNat=0:=by rw [hb',if_pos rfl];rfl
 have ho:∀ j,j≠b→bAt bs' j=bAt bs j:=fun j hj=>by rw [hb',if_neg hj]
 have hbv:BI v:=by
  have:=(w4.blk (l:=b) (by have:=h.num;omega)).1
  rwa [E5] at this
 refine ⟨h.num,w4,w5,⟨w1,fun j hj=> ?_,?_,fun j hj=> ?_,fun i hi j hj hne hzi=> ?_⟩⟩
 ·unfold upV upR
  by_cases ej:j=b
  ·subst ej
   rw [if_pos rfl,if_pos rfl,hb',if_pos rfl]
   refine .inl ⟨⟨rfl,fun _=>⟨w7,rfl,w8⟩,?_⟩,rfl⟩
   unfold O7
   rw [hbv.pg (by omega) (by rw [w7];decide)];exact Nw
  ·rw [if_neg ej,if_neg ej,ho j ej]
   exact h.lv.blk j hj
 ·rw [hl]
  split
  ·rcases Ka bs' nb with ⟨g1,g2⟩ | ⟨l,g1,g2,g3,g4⟩
   ·exact .inl ⟨g1,g2⟩
   ·refine .inr ⟨l,g1,g2,by omega,fun j hj hne=> ?_⟩
    have:=g4 j hj
    by_cases eq:(bAt bs' j).seq.toNat=(bAt bs' l).seq.toNat
    ·exfalso
     have hjb:j≠b:=fun e=>by rw [e,hz] at eq;omega
     have hlb:l≠b:=fun e=>by rw [e,hz] at g3;omega
     rw [ho j hjb,ho l hlb] at eq
     rw [ho l hlb] at g3
     exact h.lv.dis l g2 j hj (Ne.symm hne) (by omega) eq.symm
    ·omega
  ·rename_i hne
   rcases h.lv.lst with ⟨g1,g2⟩ | ⟨l,g1,g2,g3,g4⟩
   ·exact absurd (g2 b hb) hs
   ·have hlb:l≠b:=fun e=>hne (by omega)
    refine .inr ⟨l,g1,g2,by rw [ho l hlb];exact g3,fun j hj hj2=> ?_⟩
    rw [ho l hlb]
    by_cases ej:j=b
    ·rw [ej,hz];omega
    ·rw [ho j ej];exact g4 j hj hj2
 ·by_cases ej:j=b
  ·rw [ej,hz];omega
  ·rw [ho j ej];exact Nat.le_trans (h.lv.top j hj) (by omega)
 ·have hib:i≠b:=fun e=>hzi (by rw [e,hz])
  rw [ho i hib] at hzi ⊢
  by_cases ej:j=b
  ·rw [ej,hz];exact hzi
  ·rw [ho j ej];exact h.lv.dis i hi j hj hne hzi
theorem LZ.mono {k':Nat} (h:LZ n nb k q d bs last V R) (hk:k≤k'):LZ n nb k' q d bs last V R:=⟨h.num,h.dv.mono hk,h.acc,h.lv.mono hk⟩
theorem LZ.get (h:LZ n nb k q d bs last V R) {b i:Nat} {p:Pg} (hb:b<nb) (hp:(R b)[i]? =some p):A9 (V b) (2+i)=p∧2+i<8:=by
 rcases h.lv.blk b hb with ⟨_,r⟩ | u
 ·rw [r] at hp;cases hp
 ·obtain ⟨h1,rfl⟩:=List.getElem?_eq_some_iff.1 hp
  have:=u.cnt.len
  exact ⟨u.cnt.recs i h1,by omega⟩
end
end
section
open Go.K
set_option maxRecDepth 20000
set_option maxHeartbeats 1000000
structure Lg where
 lg:Nat
 bb:Nat
 nb:Nat
 last:Int
 bs:List LB
 d:Dsk
@[irreducible] def lgH (L:Lg):Hp:=(L.lg,true,C (lgC L.d.dk L.bb L.nb L.last) tLg)::(L.bb,true,C (lbs L.bs) tLB)::(dkH L.d++[])
theorem Ey (L:Lg):lgH L=(L.lg,true,C (lgC L.d.dk L.bb L.nb L.last) tLg)::(L.bb,true,C (lbs L.bs) tLB)::(dkH L.d++[]):=by unfold lgH;rfl
theorem Qn {P:Program} {E:Env} {H F:Hp} {t:TypeId} {x:Operand} {L:Lg} [ht:Agg P t false] (hx:ev E x=some (.pointer (some ⟨L.lg,0,none⟩))) (hm:PickL (lgH L) H F):Rd P E H (.load t x) (ptr L.d.dk) :=
 Al hx (hm.sub (by rw [Ey];exact .head _)) rfl
theorem Ank (L:Lg):∀ x∈dkH L.d,x∈lgH L:=fun x hx=>by
 rw [Ey]
 exact .tail _ (.tail _ (List.mem_append_left _ hx))
theorem Y1 {P:Program} {E:Env} {H F:Hp} {t:TypeId} {x:Operand} {L:Lg} [ht:Agg P t false] (hx:ev E x=some (.pointer (some ⟨L.d.dk,0,none⟩))) (hm:PickL (lgH L) H F):Rd P E H (.load t x) (ptr L.d.c.aC) :=
 Al hx (hm.sub (Ank L _ (by rw [F7];exact .head _))) rfl
theorem Anl {P:Program} {E:Env} {H F:Hp} {t:TypeId} {x:Operand} {L:Lg} [ht:Agg P t false] (hx:ev E x=some (.pointer (some ⟨L.d.c.aC,0,none⟩))) (hm:PickL (lgH L) H F):Rd P E H (.load t x) (ptr L.d.c.aP) :=
 Al hx (hm.sub (Ank L _ (Ati L.d _ (by rw [Ef];exact .tail _ (.head _))))) rfl
section
variable {L:Lg} {n k:Nat} {q:Qt} {V:Nat→Blk} {R:Nat→List Pg}
theorem LZ.ulen {d:Dsk} {nb:Nat} {bs:List LB} {last:Int} (h:LZ n nb k q d bs last V R):d.t.u.list.length=nb:=by
 have h1:d.t.u.list.length+6=n:=h.dv.di.wf.len
 have h2:=h.num
 omega
theorem Anm:Does Tryz.prog 66 [ptr L.d.dk] (lgH L) (Is (.int .i64 L.d.t.u.list.length) (lgH L)):=by
 rw [Ey];exact (Aj1 (d:=L.d)).inIs sP aQ sP
theorem Agh (hl:L.bs.length=L.nb) (hn:L.nb≤1000):Does Tryz.prog 33 [ptr L.lg] (lgH L) (Is (.int .i64 (Cb L.bs L.nb:Nat)) (lgH L)):=by
 rw [Ey];exact (Apy (d:=L.d) (lg:=L.lg) (bb:=L.bb) (last:=L.last) hl hn).inIs sP aQ sP
theorem Auq (h:LZ n L.nb k q L.d L.bs L.last V R) {b i:Nat} {p:Pg} (hb:b<L.nb) (hp:(R b)[i]? =some p):Does Tryz.prog 61 [ptr L.lg,.agg #[.int .i64 (b:Nat),.int .i64 ((2+i:Nat):Int)]] (lgH L)
  (fun v H=>∃ s:Sl By,v= .tuple #[bv (Eb p).1,s.val,.int .i64 (Eb p).2.2.1,.int .i64 (Eb p).2.2.2]∧H=s.hp tU8++(lgH L++[])∧s.list=(Eb p).2.1∧s.isOwn=true):=by
 obtain ⟨e1,e2⟩:=h.get hb hp
 have hn:=h.num
 have hf:=Aks (lg:=L.lg) (bb:=L.bb) (nb:=L.nb) (last:=L.last) h.dv (b:=b) (j:=2+i) (by omega) e2
 rw [e1] at hf
 rw [Ey]
 refine hf.inn sP fun v Y ⟨s,h1,h2,h3,h4⟩=>⟨_,⟨s,h1,rfl,h3,h4⟩,?_⟩
 rw [h2]
 simp only [List.cons_append,List.append_assoc,List.nil_append]
 exact ⟨_,_,aQ,sP⟩
def AppL (n k:Nat) (q:Qt) (L:Lg) (R:Nat→List Pg) (p:Pg) (e pb pj:Int) (L':Lg):Prop :=
 L'.lg=L.lg∧L'.bb=L.bb∧L'.nb=L.nb∧L'.d.dk=L.d.dk ∧
 ((e≠30∧∃ R' V',AppZ L.nb L.bs L.last R p e pb pj L'.last L'.bs R'∧LZ n L.nb (k+80) q L'.d L'.bs L'.last V' R'∧FrA L.d.c L'.d.c∧(q.n=0→e=0→L'.last=L.last→Z4 L.d.c L'.d.c))∨DownZ n L.nb (k+80) q L.bs L.last R p L.d.c L'.d.c e)
theorem Aiz (h:LZ n L.nb k q L.d L.bs L.last V R) (hk:k≤300000000000) (hq:q.n≤3) {kind:By} {qs:Sl (Sl By)} (hj:(Bq qs.list).length≤70000000000000) (hkd:3<kind.toNat) (hw:C6 kind (Bq qs.list)=false) :
  Does Tryz.prog 112 [ptr L.lg,bv kind,qs.val] (lgH L++(qs.hp tSB++(Dh qs.list++[])))
  (fun v H=>∃ (L':Lg) (e pb pj:Int),v= .tuple #[.agg #[.int .i64 pb,.int .i64 pj],.int .i64 e]∧H=lgH L'++[]∧AppL n k q L R (Cw kind (Bq qs.list)) e pb pj L'):=by
 rw [Ey]
 simp only [List.cons_append,List.append_assoc,List.nil_append]
 refine (Ac5 (lg:=L.lg) (bb:=L.bb) (q:=q) h.dv (by omega) hq h.acc h.num h.lv.len h.lv.rng h.lv.lls h.lv.rdy hj).mono ?_
 rintro v H ⟨t',c',bs',last',e,pb,pj,rfl,rfl,hr⟩
 refine ⟨⟨L.lg,L.bb,L.nb,last',bs',⟨L.d.dk,t',c'⟩⟩,e,pb,pj,rfl,by rw [Ey];simp,rfl,rfl,rfl,rfl,?_⟩
 rcases hr with ⟨h1,_⟩ | ⟨h1,h2,h3⟩
 ·rcases h1 with h1 | h1
  ·omega
  ·rw [hw] at h1;cases h1
 ·exact h.app hk ⟨_,_,h1,h2,rfl⟩ h3
def DropL (n k:Nat) (q:Qt) (L:Lg) (R:Nat→List Pg) (b:Nat) (e:Int) (L':Lg):Prop :=
 L'.lg=L.lg∧L'.bb=L.bb∧L'.nb=L.nb∧L'.d.dk=L.d.dk∧FrA L.d.c L'.d.c ∧
 ((e=0∧L'.bs=L.bs.set b (Ik ((bAt L.bs b).wear+1))∧L'.last=(if (b:Int)=L.last then Dw L'.bs L.nb else L.last)∧∃ V',LZ n L.nb (k+40) q L'.d L'.bs L'.last V' (upR R b []))∨(e=30∧L'.d.c.off=true∧¬ L.d.c.after<0))
theorem Art (h:LZ n L.nb k q L.d L.bs L.last V R) (hk:k≤300000000000) (hq:q.n≤3) {b:Nat} (hb:b<L.nb) (hs:(bAt L.bs b).seq.toNat≠0) :
  Does Tryz.prog 165 [ptr L.lg,.int .i64 (b:Nat)] (lgH L)
  (fun v H=>∃ (L':Lg) (e:Int),v= .int .i64 e∧H=lgH L'++[]∧DropL n k q L R b e L'):=by
 rw [Ey]
 refine (Apz (lg:=L.lg) (bb:=L.bb) (q:=q) (last:=L.last) h.dv (by omega) hq h.acc h.num h.lv.len (b:=(b:Nat))).mono ?_
 rintro v H ⟨t',c',bs',last',e,rfl,rfl,hD⟩
 exact ⟨⟨L.lg,L.bb,L.nb,last',bs',⟨L.d.dk,t',c'⟩⟩,e,rfl,by rw [Ey];simp,rfl,rfl,rfl,rfl,h.drop hb hD hs⟩
theorem Agi (h:LZ n L.nb k q L.d L.bs L.last V R) (h12:L.nb≤Cb L.bs L.nb+12):Does Tryz.prog 77 [ptr L.lg] (lgH L)
  (fun v H=>∃ (s:Sl Seg) (l0:List Seg),v=s.val∧H=s.hp Hj++(I1 l0++(lgH L++[]))∧l0.Perm s.list∧s.isOwn=true∧(s.list.map U5).Perm (L3 L.bs R L.nb)∧SortTo s.list s.list.length∧(∀ x∈s.list,x.recs.isOwn=true)∧s.list.length+Cb L.bs L.nb=L.nb):=by
 have hw:=h.dv.di.wf
 have hn2:=hw.n2
 have e:=h.segs L.nb (Nat.le_refl _)
 have hlen:=Ab3 (bs:=L.bs) (R:=R) L.nb
 rw [Ey]
 refine (Z8 (lg:=L.lg) (bb:=L.bb) (last:=L.last) h.dv h.num hn2 h.lv.len (by rw [e];omega)).mono ?_
 rintro v H ⟨s,l0,h1,h2,h3,h4,h5,h6,h7⟩
 rw [e] at h5
 have h8:=h5.length_eq
 rw [List.length_map] at h8
 exact ⟨s,l0,h1,by rw [h2];simp,h3,h4,h5,h6,h7,by omega⟩
end
end
section
open Go.K
instance fld67_0:Fld Tryz.prog 67 0 0:=⟨⟨_,_,0,Tryz.underlying67,rfl,by kernel_rfl,rfl⟩⟩
instance ent163:Ent Tryz.prog 163:=⟨fun _ _=>by kernel_rfl⟩
set_option maxRecDepth 20000
set_option maxHeartbeats 1000000
structure Sg where
 S:Sto
 L:Lg
 R:Nat→List Pg
abbrev KM:Nat:=400000000000
theorem LogC.mono {nb k k':Nat} {V:Nat→Blk} {sq:Nat→Wd} {R:Nat→List Pg} (h:LogC nb k V sq R) (hk:k≤k'):LogC nb k' V sq R:=⟨h.bi,h.blk,fun j hj=>Nat.le_trans (h.top j hj) hk,h.dis⟩
theorem Later.mono {c:Chip} {n k k' m:Nat} {V:Nat→Blk} (h:Later c n k m V) (hk:k≤k'):Later c n k' m V:=fun d h1 h2 h3 h4=>by
 obtain ⟨t2,x1,x2,x3⟩:=h d h1 h2 h3 h4
 exact ⟨t2,x1,x2.mono hk,x3⟩
theorem DownZ.mono {n nb k k':Nat} {q:Qt} {bs:List LB} {last e:Int} {R:Nat→List Pg} {p:Pg} {c c':Chip} (h:DownZ n nb k q bs last R p c c' e) (hk:k≤k'):DownZ n nb k' q bs last R p c c' e:=by
 obtain ⟨h1,h2,h3,h4,V,sq,R',h5,h6,h7⟩:=h
 exact ⟨h1,h2,h3,h4,V,sq,R',h5,h6.mono hk,h7.mono hk⟩
def WI (n k:Nat) (q:Qt) (z:Sg):Prop:=z.S.lg=z.L.lg∧∃ V,LZ n z.L.nb k q z.L.d z.L.bs z.L.last V z.R
theorem WI.mono {n k k':Nat} {q:Qt} {z:Sg} (h:WI n k q z) (hk:k≤k'):WI n k' q z:=⟨h.1,h.2.choose,h.2.choose_spec.mono hk⟩
def AppG (n:Nat) (q:Qt) (z:Sg) (p:Pg) (e:Int) (y:Pl2) (z':Sg):Prop :=
 z'.S=z.S∧z'.L.lg=z.L.lg∧z'.L.bb=z.L.bb∧z'.L.nb=z.L.nb∧z'.L.d.dk=z.L.d.dk ∧
 ((e≠30∧AppZ z.L.nb z.L.bs z.L.last z.R p e y.1 y.2 z'.L.last z'.L.bs z'.R∧FrA z.L.d.c z'.L.d.c∧(q.n=0→e=0→z'.L.last=z.L.last→Z4 z.L.d.c z'.L.d.c))∨DownZ n z.L.nb KM q z.L.bs z.L.last z.R p z.L.d.c z'.L.d.c e)
theorem AppL.g {n k:Nat} {q:Qt} {z:Sg} {p:Pg} {e pb pj:Int} {L':Lg} (h:AppL n k q z.L z.R p e pb pj L') (hlg:z.S.lg=z.L.lg) (hk:k≤300000000000):∃ R',AppG n q z p e (pb,pj) ⟨z.S,L',R'⟩∧(e≠30→WI n (k+80) q ⟨z.S,L',R'⟩):=by
 obtain ⟨h1,h2,h3,h4,h5⟩:=h
 rcases h5 with ⟨h5,R',V',h6,h7,h8,h9⟩ | h5
 ·exact ⟨R',⟨rfl,h1,h2,h3,h4,.inl ⟨h5,h6,h8,h9⟩⟩,fun _=>⟨hlg.trans h1.symm,V',by show LZ n L'.nb _ _ _ _ _ _ _;rw [h3];exact h7⟩⟩
 ·exact ⟨z.R,⟨rfl,h1,h2,h3,h4,.inr (h5.mono (by show k+80≤400000000000;omega))⟩,fun h9=>absurd h5.1 h9⟩
def ShR (n:Nat) (q:Qt) (z:Sg) (x:Pl2) (p:Pg) (e:Int) (z':Sg):Prop :=
 ∃ y z1,AppG n q z p e y z1∧z'=if e=0 then { z1 with S:=Dd z1.S x y } else z1
section
variable {n k:Nat} {q:Qt} {z:Sg}
theorem Uj {L:Lg} {V:Nat→Blk} {R:Nat→List Pg} (h:LZ n L.nb k q L.d L.bs L.last V R) (hk:k≤300000000000) (hq:q.n≤3) {kind:By} {s:Sl By} {b:Nat} (hj:s.list.length≤70000000000000) (hkd:3<kind.toNat) (hw:C6 kind s.list=false) :
  Does Tryz.prog 112 [ptr L.lg,bv kind,.slice (some ⟨b,0,none⟩) 1 1] (lgH L++((b,true,C [s.val] tSB)::(s.hp tU8++[])))
  (fun v H=>∃ (L':Lg) (e pb pj:Int),v= .tuple #[.agg #[.int .i64 pb,.int .i64 pj],.int .i64 e]∧H=lgH L'++[]∧AppL n k q L R (Cw kind s.list) e pb pj L'):=by
 have e2:(Sl.own b [s] 1 [] ⟨by simp,Nat.le_refl _,by simp⟩:Sl (Sl By)).list=[s]:=rfl
 have e3:Bq [s]=s.list:=by simp [Bq]
 have hf:=Aiz (qs:= .own b [s] 1 [] ⟨by simp,Nat.le_refl _,by simp⟩) h hk hq (by rw [e2,e3];exact hj) hkd (by rw [e2,e3];exact hw)
 rw [e2,e3] at hf
 have e:(Sl.own b [s] 1 [] ⟨by simp,Nat.le_refl _,by simp⟩:Sl (Sl By)).hp tSB++(Dh [s]++[])=((b,true,C [s.val] tSB)::(s.hp tU8++[])):=by
  rw [Sl.hp_own,Cz,Ha]
  simp only [List.append_assoc,List.nil_append,List.append_nil]
  rfl
 rw [e] at hf
 exact hf
theorem Ann (h:WI n k q z) (hk:k≤300000000000) (hq:q.n≤3) {x:Pl2} {kind:By} {s:Sl By} (hj:s.list.length≤70000000000000) (hkd:3<kind.toNat) (hw:C6 kind s.list=false) :
  Does Tryz.prog 163 [ptr z.S.st,.agg #[.int .i64 x.1,.int .i64 x.2],bv kind,s.val] ((z.S.st,true,C (stC z.S) tSt)::(z.S.ib,true,z.S.idx.obj .i64)::(z.S.pb,true,z.S.pend.obj .i64)::(lgH z.L++(s.hp tU8++[])))
  (fun v H=>∃ (e:Int) (z':Sg),v= .int .i64 e∧H=(z'.S.st,true,C (stC z'.S) tSt)::(z'.S.ib,true,z'.S.idx.obj .i64)::(z'.S.pb,true,z'.S.pend.obj .i64)::(lgH z'.L++[])∧z'.S.st=z.S.st∧ShR n q z x (Cw kind s.list) e z'∧(e≠30→WI n (k+80) q z')):=by
 obtain ⟨hlg,V,hZ⟩:=h
 refine Ah (n:=29) Tryz.func163 Tryz.ntmps163 rfl (Nat.le_of_ble_eq_true rfl)<|Ad<|Aa fun ops=> ?_
 refine De rfl rfl fun b5=> ?_
 refine oA rfl<|Ac<|n_K<|Ad<|Aa fun ops=>oM rfl<|oN rfl<|oF rfl ?_
 refine oR (show Rd _ _ _ _ (ptr z.L.lg) from by rw [← hlg];exact Al rfl mM rfl) ?_
 refine oM rfl<|oM rfl ?_
 refine A5 rfl rfl rfl rfl fun b18=> ?_
 refine Bd rfl (Uj (b:=b18) hZ hk hq hj hkd hw) sP rfl fun v19 Y19 h19=> ?_
 obtain ⟨L1,e1,pb,pj,rfl,rfl,hA⟩:=h19
 obtain ⟨R1,hG,hW⟩:=hA.g hlg hk
 refine Ay aQ ?_
 refine oM rfl<|oE rfl rfl<|oE rfl rfl ?_
 refine Aw rfl fun b9=> ?_
 refine Af rfl rfl uD rfl rfl rfl ?_
 refine oA rfl<|Ac<|n_K<|Ad<|Ad<|Aa fun ops=>oM rfl<|oR (Ae rfl rfl rfl)<|Ac<|n_K ?_
 refine Aj rfl (fun c23=> ?_) (fun c23=> ?_)
 ·skip
  have he:e1=0:=(by simpa using c23)
  subst he
  refine Aa fun ops=>oM rfl ?_
  refine oR (Au rfl mM rfl) ?_
  refine oR (Au rfl mM rfl) ?_
  refine A6 rfl (Anb (S:=z.S) (f:=x) (t:=(pb,pj)) rfl) sP rfl aQ ?_
  refine Ac<|n_K<|Ad<|Aa fun ops=>oM rfl<|oA rfl<|Ac<|n_K<|An ?_
  exact Av (At Tryz.results163 (Ag rfl)) (by exact ⟨0,⟨Dd z.S x (pb,pj),L1,R1⟩,rfl,rfl,rfl,⟨(pb,pj),⟨z.S,L1,R1⟩,hG,rfl⟩,fun _=>⟨(hW (by decide)).1,(hW (by decide)).2⟩⟩) sP
 ·skip
  have he:e1≠0:=(by simpa using c23)
  refine Ai<|n_K<|Ad<|Aa fun ops=>oM rfl<|oA rfl<|Ac<|n_K<|An ?_
  exact Av (At Tryz.results163 (Ag rfl)) (by exact ⟨e1,⟨z.S,L1,R1⟩,rfl,rfl,rfl,⟨(pb,pj),⟨z.S,L1,R1⟩,hG,by rw [if_neg he]⟩,hW⟩) sP
end
end
section
open Go.K
instance ent124:Ent Tryz.prog 124:=⟨fun _ _=>by kernel_rfl⟩
set_option maxRecDepth 20000
set_option maxHeartbeats 1000000
def I2 (S:Sto) (x:Pl2):Bool:=O5 S x || Fg S.idx x || Fg S.pend x
def RecAt (z:Sg) (x:Pl2) (p:Pg):Prop:=∃ b j:Nat,x=((b:Int),((2+j:Nat):Int))∧b<z.L.nb∧(z.R b)[j]? =some p
theorem AppZ.keep {nb:Nat} {bs bs':List LB} {last last' e pb pj:Int} {R R':Nat→List Pg} {p:Pg} (h:AppZ nb bs last R p e pb pj last' bs' R') {b j:Nat} {x:Pg} (hx:(R b)[j]? =some x):(R' b)[j]? =some x:=by
 cases h with
 | @into l h1 h2 h3 h4 h5 =>
  unfold upR
  split
  ·rename_i e
   subst e
   rw [List.getElem?_append_left (List.getElem?_eq_some_iff.1 hx).1];exact hx
  ·exact hx
 | none=>exact hx
 | @fresh to _ h1 h2 h3 h4 h5 =>
  unfold upR
  split
  ·rename_i e
   rw [e,h5] at hx;cases hx
  ·exact hx
theorem AppZ.seq {nb:Nat} {bs bs':List LB} {last last' e pb pj:Int} {R R':Nat→List Pg} {p:Pg} (h:AppZ nb bs last R p e pb pj last' bs' R') (h40:e≠40) (hl:bs.length=nb) {j:Nat} (hj:j<nb) (hs:(bAt bs j).seq.toNat≠0):(bAt bs' j).seq=(bAt bs j).seq:=by
 cases h with
 | @into l h1 h2 h3 h4 h5 =>
  rw [Dq (by omega)]
  split
  ·rename_i e;rw [e]
  ·rfl
 | none=>exact absurd rfl h40
 | @fresh to _ h1 h2 h3 h4 h5 h6 h7 =>
  rcases h7 j hj (fun e=>by have:j=to:=(by omega);subst this;exact hs h4) with e | ⟨_,e⟩ <;> rw [e]
theorem AppG.rec {n:Nat} {q:Qt} {z z':Sg} {p:Pg} {e:Int} {y:Pl2} (h:AppG n q z p e y z') (he:e≠30) {x:Pl2} {r:Pg} (hx:RecAt z x r):RecAt z' x r:=by
 obtain ⟨h1,h2,h3,h4,h5,h6⟩:=h
 rcases h6 with ⟨_,hA,_⟩ | h6
 ·obtain ⟨b,j,g1,g2,g3⟩:=hx
  exact ⟨b,j,g1,by rw [h4];exact g2,hA.keep g3⟩
 ·exact absurd h6.1 he
theorem ShR.rec {n:Nat} {q:Qt} {z z':Sg} {p:Pg} {e:Int} {x0:Pl2} (h:ShR n q z x0 p e z') (he:e≠30) {x:Pl2} {r:Pg} (hx:RecAt z x r):RecAt z' x r:=by
 obtain ⟨y,z1,h1,h2⟩:=h
 have:=h1.rec he hx
 subst h2
 split
 ·exact this
 ·exact this
theorem ShR.nb {n:Nat} {q:Qt} {z z':Sg} {p:Pg} {e:Int} {x0:Pl2} (h:ShR n q z x0 p e z'):z'.L.nb=z.L.nb:=by
 obtain ⟨y,z1,h1,h2⟩:=h
 have:=h1.2.2.2.1
 subst h2
 split <;> exact this
theorem ShR.seq {n:Nat} {q:Qt} {z z':Sg} {p:Pg} {x0:Pl2} (h:ShR n q z x0 p 0 z') (hl:z.L.bs.length=z.L.nb) {j:Nat} (hj:j<z.L.nb) (hs:(bAt z.L.bs j).seq.toNat≠0):(bAt z'.L.bs j).seq.toNat≠0:=by
 obtain ⟨y,z1,h1,h2⟩:=h
 rw [if_pos rfl] at h2
 subst h2
 rcases h1.2.2.2.2.2 with ⟨_,hA,_⟩ | h6
 ·show (bAt z1.L.bs j).seq.toNat≠0
  rw [hA.seq (by decide) hl hj hs];exact hs
 ·exact absurd h6.1 (by decide)
theorem WI.recP {n k:Nat} {q:Qt} {z:Sg} {x:Pl2} {p:Pg} (h:WI n k q z) (hx:RecAt z x p) (he:(Eb p).2.2.2=0):RecP p:=by
 obtain ⟨_,V,hZ⟩:=h
 obtain ⟨b,j,_,g2,g3⟩:=hx
 have hm:p∈z.R b:=List.mem_of_getElem? g3
 rcases hZ.lv.blk b g2 with ⟨_,r⟩ | u
 ·rw [r] at hm;cases hm
 ·rcases u.cnt.good p hm with h | h
  ·exact h
  ·exact absurd he h.1
theorem W3 {kind:By} {b:List By} (hk:3<kind.toNat) (hw:C6 kind b=false):Eb (Cw kind b)=(kind,b,0,0):=by
 unfold Eb
 rw [Ig hw,if_neg (fun h=>by have:=h.2;simp only at this;omega)]
theorem Y2 {L:Lg} {n k:Nat} {q:Qt} {V:Nat→Blk} {R:Nat→List Pg} (h:LZ n L.nb k q L.d L.bs L.last V R) {b i:Nat} {kind:By} {bd:List By} (hb:b<L.nb) (hp:(R b)[i]? =some (Cw kind bd)) (hk:3<kind.toNat) (hw:C6 kind bd=false) :
  Does Tryz.prog 61 [ptr L.lg,.agg #[.int .i64 (b:Nat),.int .i64 ((2+i:Nat):Int)]] (lgH L)
  (fun v H=>∃ s:Sl By,v= .tuple #[bv kind,s.val,.int .i64 0,.int .i64 0]∧H=s.hp tU8++(lgH L++[])∧s.list=bd∧s.isOwn=true):=by
 have:=Auq h hb hp
 rw [W3 hk hw] at this
 exact this
inductive EmA (n:Nat) (q:Qt):List Pl2→Sg→Int→Sg→Prop
 | nil {z:Sg}:EmA n q [] z 0 z
 | skip {x:Pl2} {xs:List Pl2} {z z':Sg} {e:Int}:I2 z.S x=false→EmA n q xs z e z'→EmA n q (x::xs) z e z'
 | stop {x:Pl2} {xs:List Pl2} {z z1:Sg} {e:Int} {p:Pg}:I2 z.S x=true→RecAt z x p→ShR n q z x p e z1→e≠0→EmA n q (x::xs) z e z1
 | go {x:Pl2} {xs:List Pl2} {z z1 z':Sg} {e:Int} {p:Pg}:I2 z.S x=true→RecAt z x p→ShR n q z x p 0 z1→EmA n q xs z1 e z'→EmA n q (x::xs) z e z'
def DropG (n:Nat) (q:Qt) (z:Sg) (b:Nat) (e:Int) (z':Sg):Prop :=
 z'.S=z.S∧z'.L.lg=z.L.lg∧z'.L.bb=z.L.bb∧z'.L.nb=z.L.nb∧z'.L.d.dk=z.L.d.dk∧FrA z.L.d.c z'.L.d.c ∧
 ((e=0∧z'.L.bs=z.L.bs.set b (Ik ((bAt z.L.bs b).wear+1))∧z'.L.last=(if (b:Int)=z.L.last then Dw z'.L.bs z.L.nb else z.L.last)∧z'.R=upR z.R b [])∨(e=30∧z'.L.d.c.off=true∧¬ z.L.d.c.after<0))
theorem DropL.g {n k:Nat} {q:Qt} {z:Sg} {b:Nat} {e:Int} {L':Lg} (h:DropL n k q z.L z.R b e L') (hlg:z.S.lg=z.L.lg):∃ R',DropG n q z b e ⟨z.S,L',R'⟩∧(e≠30→WI n (k+40) q ⟨z.S,L',R'⟩):=by
 obtain ⟨h1,h2,h3,h4,h5,h6⟩:=h
 rcases h6 with ⟨rfl,h7,h8,V',h9⟩ | h6
 ·exact ⟨_,⟨rfl,h1,h2,h3,h4,h5,.inl ⟨rfl,h7,h8,rfl⟩⟩,fun _=>⟨hlg.trans h1.symm,V',by show LZ n L'.nb _ _ _ _ _ _ _;rw [h3];exact h9⟩⟩
 ·exact ⟨z.R,⟨rfl,h1,h2,h3,h4,h5,.inr h6⟩,fun h9=>absurd h6.1 h9⟩
def EmR (n:Nat) (q:Qt) (b:Nat) (xs:List Pl2) (z:Sg) (e:Int) (z':Sg):Prop:=(e≠0∧EmA n q xs z e z')∨∃ z1,EmA n q xs z 0 z1∧DropG n q z1 b e z'
structure EmI (z:Sg) (b:Nat) (xs:List Pl2):Prop where
 lt:b<z.L.nb
 seq:(bAt z.L.bs b).seq.toNat≠0
 recs:∀ x∈xs,∃ p,RecAt z x p∧(Eb p).2.2.2=0
theorem Ai0 {k:By} {b:List By} (h:C6 k b=false):b.length≤1000:=by
 unfold C6 at h
 simp at h
 omega
section
variable {n k:Nat} {q:Qt} {z:Sg}
theorem Ano (h:WI n k q z) (hk:k≤299999900000) (hq:q.n≤3) {s:Seg} {b:Nat} (hb:s.b=b) (hI:EmI z b s.recs.list) (h1000:s.recs.list.length≤1000) (hB:∀ z1,EmA n q s.recs.list z 0 z1→∀ j:Nat,j<8→I2 z1.S ((b:Int),(j:Int))=false) :
  Does Tryz.prog 124 [ptr z.S.st,.agg (Z5 s).toArray] ((z.S.st,true,C (stC z.S) tSt)::(z.S.ib,true,z.S.idx.obj .i64)::(z.S.pb,true,z.S.pend.obj .i64)::(lgH z.L++(s.recs.hp U4++[])))
  (fun v H=>∃ (e:Int) (z':Sg),v= .int .i64 e∧H=(z'.S.st,true,C (stC z'.S) tSt)::(z'.S.ib,true,z'.S.idx.obj .i64)::(z'.S.pb,true,z'.S.pend.obj .i64)::(lgH z'.L++(s.recs.hp U4++[]))∧z'.S.st=z.S.st∧EmR n q b s.recs.list z e z'∧(e≠30→WI n (k+80*s.recs.list.length+40) q z')):=by
 have hsm:=s.recs.small
 refine Ah (n:=119) Tryz.func124 Tryz.ntmps124 rfl (Nat.le_of_ble_eq_true rfl)<|Ad<|Aa fun ops=> ?_
 refine De rfl rfl fun b3=> ?_
 refine oA rfl<|Ac<|n_K<|Ad<|Ad<|Aa fun ops=>oF rfl ?_
 refine oR (Al rfl mM rfl) ?_
 refine oR (A7 rfl)<|oM rfl<|Ac<|n_K<|Ak ?_
 refine A8 [0,3,16,17] kQ (fun (st:Nat×Sg)=>[(18,.int .i64 st.1)]) (fun (st:Nat×Sg)=>(b3,true,C (Z5 s) Hj)::(st.2.S.st,true,C (stC st.2.S) tSt)::(st.2.S.ib,true,st.2.S.idx.obj .i64)::(st.2.S.pb,true,st.2.S.pend.obj .i64)::(lgH st.2.L++(s.recs.hp U4++[]))) (fun (st:Nat×Sg)=>st.1≤s.recs.list.length∧WI n (k+80*st.1) q st.2∧st.2.S.st=z.S.st∧EmI st.2 b s.recs.list∧∀ e z',EmA n q (s.recs.list.drop st.1) st.2 e z'→EmA n q s.recs.list z e z') (fun (st:Nat×Sg)=>s.recs.list.length - st.1) ((0,z)) ⟨Nat.zero_le _,h.mono (by omega),rfl,hI,fun _ _ h9=>h9⟩ kP sP ?_
 rintro ⟨i,z1⟩ ⟨g0,g1,g2,g3,g4⟩
 simp only at g0 g1 g2 g3 g4
 rw [← g2]
 refine Ad<|Aa fun ops=>oR (Ae rfl rfl rfl)<|Ac<|n_K<|Ad ?_
 refine Aj rfl (fun c19=> ?_) (fun c19=> ?_)
 ·simp only [decide_eq_true_eq,decide_eq_false_iff_not] at c19
  obtain ⟨x,hgx⟩:∃ x,s.recs.list[i]? =some x:=⟨_,List.getElem?_eq_getElem (by omega)⟩
  obtain ⟨p,hrx,hgp⟩:=g3.recs x (List.mem_of_getElem? hgx)
  have hdr:s.recs.list.drop i=x::s.recs.list.drop (i+1):=(by obtain ⟨h7,h8⟩:=List.getElem?_eq_some_iff.1 hgx;rw [← h8];exact List.drop_eq_getElem_cons h7)
  refine Ai<|n_K<|Ad<|Ak<|Ad<|Aa fun ops=> ?_
  refine oR (Bk rfl rfl (by omega)) ?_
  refine oR (Do (o:=0) rfl pL hgx rfl rfl) ?_
  refine Aw rfl fun b6=> ?_
  refine Af rfl rfl uD rfl rfl rfl ?_
  refine Ac<|n_K<|Ad<|Ad<|Aa fun ops=>oM rfl ?_
  refine oR (Au rfl mM rfl) ?_
  refine A6 rfl (Qm (S:=z1.S) (x:=x)) sP rfl aQ ?_
  refine oR (Bx rfl)<|Ac<|n_K ?_
  refine Aj rfl (fun c25=> ?_) (fun c25=> ?_)
  ·skip
   have hc:I2 z1.S x=false:=(by have h7:(!I2 z1.S x)=true:=c25;simpa using h7)
   refine Bb<|x_K<|Bj<|n_K<|Aa fun ops=> ?_
   refine oR (Ao rfl rfl (by omega)) ?_
   refine oM rfl<|Ac<|n_K ?_
   first | exact ⟨(i+1,z2),⟨by simp only;omega,(hW2 (by decide)).mono (by omega),hst2,⟨by rw [hSh.nb];exact g3.lt,hSh.seq hZ1.lv.len g3.lt g3.seq,fun x hx=>(let ⟨p,h1,h2⟩:=g3.recs x hx;⟨p,hSh.rec (by decide) h1,h2⟩)⟩,fun e z' h9=>g4 e z' (by rw [hdr];exact .go hc hrx hSh h9)⟩,by simp only;omega,by rw [← hst2];exact lZ⟩ | exact ⟨(i+1,z1),⟨by simp only;omega,g1.mono (by omega),rfl,g3,fun e z' h9=>g4 e z' (by rw [hdr];exact .skip hc h9)⟩,by simp only;omega,lZ⟩
  ·skip
   have hc:I2 z1.S x=true:=(by have h7:(!I2 z1.S x)=false:=c25;simpa using h7)
   obtain ⟨kind,bd,hkd,hwr,rfl⟩:=g1.recP hrx hgp
   obtain ⟨bN,jN,rfl,hbN,hpj⟩:=id hrx
   obtain ⟨hlg1,V1,hZ1⟩:=id g1
   refine Ai<|n_K<|Ad ?_
   refine s_draw [] [(5,[(0,false),(1,false),(2,false),(3,false),(4,false)]),(6,[(5,true)]),(15,[(6,false),(7,false),(8,false),(9,false),(10,false),(11,false),(12,false),(13,false),(14,false)])] (by kernel_rfl) rfl fun ops w0 H0 y=> ?_
   refine A4<|xM rfl<|xN rfl<|xF rfl ?_
   refine xR (show Rd _ _ _ _ (ptr z1.L.lg) from by rw [← hlg1];exact Al rfl mM rfl) ?_
   refine xR (Au rfl mM rfl) ?_
   refine Am<|Bh<|Be ?_
   refine Bd rfl (Y2 hZ1 hbN hpj hkd hwr) sP rfl fun v32 Y32 h32=> ?_
   obtain ⟨s32,rfl,rfl,hs32,ho32⟩:=h32
   refine Ay aQ ?_
   refine Ac ⟨rfl,⟨_,sP⟩,?_⟩
   refine Am<|A4<|xM rfl<|xE rfl rfl<|xE rfl rfl<|xE rfl rfl<|xE rfl rfl<|xA rfl<|xA rfl<|xA rfl<|xA rfl<|Am<|Bm<|n_K ?_
   refine Ad<|Ad<|Aa fun ops=>oM rfl<|oR (Ae rfl rfl rfl)<|Ac<|n_K ?_
   refine Bi rfl ?_
   refine Ai<|n_K<|Ad<|Aa fun ops=>oM rfl ?_
   refine oR (Au rfl mM rfl) ?_
   refine oM rfl<|oM rfl ?_
   refine Bd rfl (Ann (z:=z1) (x:=((bN:Int),((2+jN:Nat):Int))) g1 (by omega) hq (kind:=kind) (s:=s32) (by rw [hs32];have:=Ai0 hwr;omega) hkd (by rw [hs32];exact hwr)) sP rfl fun v44 Y44 h44=> ?_
   obtain ⟨e2,z2,rfl,rfl,hst2,hSh,hW2⟩:=h44
   refine Ay aQ ?_
   refine oA rfl<|Ac<|n_K<|Ad<|Aa fun ops=>oM rfl<|oR (Ae rfl rfl rfl)<|Ac<|n_K ?_
   refine Aj rfl (fun c46=> ?_) (fun c46=> ?_)
   ·skip
    have he:e2≠0:=(by simpa using c46)
    rw [hs32] at hSh
    refine Ad<|Aa fun ops=>oM rfl<|oA rfl<|Ac<|n_K<|An<|Bn<|r_K<|r_K<|Bn<|r_K ?_
    exact Av (At Tryz.results124 (Ag rfl)) (by exact ⟨e2,z2,rfl,rfl,hst2,.inl ⟨he,g4 _ _ (by rw [hdr];exact .stop hc hrx hSh he)⟩,fun h9=>(hW2 h9).mono (by omega)⟩) sP
   ·skip
    have he:e2=0:=(by simpa using c46)
    subst he
    rw [hs32] at hSh
    refine Ai<|Az<|n_K<|Aa fun ops=> ?_
    refine oR (Ao rfl rfl (by omega)) ?_
    refine oM rfl<|Ac<|n_K ?_
    first | exact ⟨(i+1,z2),⟨by simp only;omega,(hW2 (by decide)).mono (by omega),hst2,⟨by rw [hSh.nb];exact g3.lt,hSh.seq hZ1.lv.len g3.lt g3.seq,fun x hx=>(let ⟨p,h1,h2⟩:=g3.recs x hx;⟨p,hSh.rec (by decide) h1,h2⟩)⟩,fun e z' h9=>g4 e z' (by rw [hdr];exact .go hc hrx hSh h9)⟩,by simp only;omega,by rw [← hst2];exact lZ⟩ | exact ⟨(i+1,z1),⟨by simp only;omega,g1.mono (by omega),rfl,g3,fun e z' h9=>g4 e z' (by rw [hdr];exact .skip hc h9)⟩,by simp only;omega,lZ⟩
 ·simp only [decide_eq_true_eq,decide_eq_false_iff_not] at c19
  have hi:i=s.recs.list.length:=(by omega)
  subst hi
  rw [List.drop_length] at g4
  have hEA:=g4 0 z1 .nil
  have hBB:=hB z1 hEA
  refine Bb<|x_K<|x_K<|Bj<|n_K<|Ad<|Ad<|Aa fun ops=>oM rfl<|Ac<|n_K<|Ak ?_
  refine A8 [0,3] kQ (fun (j:Nat)=>[(49,.int .i64 j)]) (fun (j:Nat)=>(b3,true,C (Z5 s) Hj)::(z1.S.st,true,C (stC z1.S) tSt)::(z1.S.ib,true,z1.S.idx.obj .i64)::(z1.S.pb,true,z1.S.pend.obj .i64)::(lgH z1.L++(s.recs.hp U4++[]))) (fun (j:Nat)=>j≤8) (fun (j:Nat)=>8 - j) (0) (Nat.zero_le _) kP sP ?_
  rintro j g5
  refine Ad<|Aa fun ops=>oR (Ae rfl rfl rfl)<|Ac<|n_K<|Ad ?_
  refine Aj rfl (fun c50=> ?_) (fun c50=> ?_)
  ·simp only [decide_eq_true_eq,decide_eq_false_iff_not] at c50
   have hj8:j<8:=(by omega)
   have hBj:=hBB j hj8
   refine Ai<|n_K<|Ad<|Ak<|Ad<|Aa fun ops=>oM rfl<|oA rfl<|Ac<|n_K<|Ad<|Aa fun ops=>oF rfl ?_
   refine oR (Al rfl mM rfl) ?_
   refine oM rfl<|oR (Bc rfl rfl) ?_
   refine Aw rfl fun b13=> ?_
   refine Af rfl rfl uD rfl rfl rfl ?_
   refine Ac<|n_K<|Ad<|Ad<|Aa fun ops=>oM rfl ?_
   refine oR (Au rfl mM rfl) ?_
   refine A6 rfl ((Qm (S:=z1.S) (x:=((s.b:Int),(j:Int))))) sP rfl aQ ?_
   refine oR (Bx rfl)<|Ac<|n_K ?_
   refine Aj rfl (fun c59=> ?_) (fun c59=> ?_)
   ·skip
    refine Bb<|x_K<|Bj<|n_K<|Aa fun ops=> ?_
    refine oR (Ao rfl rfl (by omega)) ?_
    refine oM rfl<|Ac<|n_K ?_
    exact ⟨j+1,(by omega),(by omega),lZ⟩
   ·skip
    exact absurd c59 (by have h7:I2 z1.S (s.b,(j:Int))=false:=(by rw [hb];exact hBj);unfold I2 at h7;rw [h7];decide)
  ·simp only [decide_eq_true_eq,decide_eq_false_iff_not] at c50
   refine Bb<|x_K<|x_K<|Bj<|n_K<|Ad ?_
   refine s_draw [] [(6,[(0,false),(1,false),(2,false),(3,false),(4,false),(5,false)]),(7,[(6,true)]),(8,[(7,false)])] (by kernel_rfl) rfl fun ops w0 H0 y=> ?_
   refine A4<|xM rfl<|xN rfl<|xF rfl ?_
   refine xR (show Rd _ _ _ _ (ptr z1.L.lg) from by rw [← g1.1];exact Al rfl mM rfl) ?_
   refine xF rfl ?_
   refine xR (show Rd _ _ _ _ (.int .i64 (b:Nat)) from by rw [← hb];exact Al rfl mM rfl) ?_
   refine Am<|Bh<|Be ?_
   refine Bd rfl (Art g1.2.choose_spec (by omega) hq g3.lt g3.seq) sP rfl fun v118 Y118 h118=> ?_
   obtain ⟨L2,e3,rfl,rfl,hD⟩:=h118
   obtain ⟨R2,hDG,hW3⟩:=hD.g g1.1
   refine Ay aQ ?_
   refine Ac ⟨rfl,⟨_,sP⟩,?_⟩
   refine Am<|A4<|xA rfl<|Am<|Bm<|n_K<|An ?_
   exact Av (At Tryz.results124 (Ag rfl)) (by exact ⟨e3,⟨z1.S,L2,R2⟩,rfl,rfl,rfl,.inr ⟨z1,hEA,hDG⟩,fun h9=>(hW3 h9).mono (by omega)⟩) sP
end
end
section
open Go.K
instance plc271:Plc Tryz.prog 271 [(0,4),(4,1)]:=⟨⟨_,Tryz.underlying271,fun _=>by kernel_rfl⟩⟩
instance byt271:Byt Tryz.prog 271 56:=⟨by kernel_rfl⟩
instance ent152:Ent Tryz.prog 152:=⟨fun _ _=>by kernel_rfl⟩
set_option maxRecDepth 20000
set_option maxHeartbeats 1000000
theorem Anp (l1 l2:List Seg) (g:Seg) (D:Hp):I1 (l1++g::l2)++D=I1 l1++(g.recs.hp U4++(I1 l2++D)):=by simp [I1]
theorem Agj {l:List Seg} {g:Seg} {A B:Hp} (hg:g∈l) (hp:PickL (I1 l) A B):Sub (g.recs.hp U4) A:=fun x hx=>hp.sub (List.mem_flatMap.2 ⟨g,hg,hx⟩)
def Gd (S:Sto) (xs:List Pl2):Nat:=xs.countP (I2 S)
def ldS (S:Sto) (g:Seg):Ldv:=⟨g,(Gd S g.recs.list:Nat)⟩
theorem Ai1 {S:Sto} {xs:List Pl2} {i:Nat} {x:Pl2} (h:xs[i]? =some x):Gd S (xs.take (i+1))=Gd S (xs.take i)+if I2 S x=true then 1 else 0:=by
 unfold Gd
 rw [List.take_add_one,h,List.countP_append]
 simp [List.countP_cons]
theorem Qo {xs:List Ldv} {but:Int}:∀ {i:Nat},(C2 xs but i).2=true→(C2 xs but i).1<i∧(C2 xs but i).1≠but
 | 0,h=>by cases h
 | i+1,h=>by
  unfold C2 at h ⊢
  split at h
  ·rename_i hc
   rw [if_pos hc]
   simp only [Bool.and_eq_true,Bool.not_eq_true',decide_eq_false_iff_not] at hc
   exact ⟨by simp only;omega,hc.1⟩
  ·rename_i hc
   rw [if_neg hc]
   have:=Qo h
   exact ⟨by omega,this.2⟩
def SegsOf (z:Sg) (ss:List Seg):Prop:=(ss.map U5).Perm (L3 z.L.bs z.R z.L.nb)∧SortTo ss ss.length
theorem SegsOf.mem {z:Sg} {ss:List Seg} (h:SegsOf z ss) {g:Seg} (hg:g∈ss):∃ b:Nat,b<z.L.nb∧(bAt z.L.bs b).seq.toNat≠0∧g.b=b∧g.seq=(bAt z.L.bs b).seq∧g.wear=(bAt z.L.bs b).wear∧g.recs.list=Fw b 2 (z.R b):=by
 have:U5 g∈L3 z.L.bs z.R z.L.nb:=h.1.mem_iff.1 (List.mem_map.2 ⟨g,hg,rfl⟩)
 obtain ⟨j,h1,h2,h3⟩:=segZ_mem.1 this
 unfold U5 at h3
 simp only [Prod.mk.injEq] at h3
 exact ⟨j,h1,h2,h3.1,h3.2.1,h3.2.2.1,h3.2.2.2⟩
theorem Aur {z:Sg} {b:Nat} (hb:b<z.L.nb) (hs:(bAt z.L.bs b).seq.toNat≠0):EmI z b (Fw b 2 (z.R b)) :=
 ⟨hb,hs,fun x hx=>by
  obtain ⟨j,p,h1,h2,h3⟩:=recZ_mem.1 hx
  exact ⟨p,⟨b,j,h3,hb,h1⟩,h2⟩⟩
theorem Ai2 {z:Sg} {n k:Nat} {q:Qt} {ss:List Seg} (h:WI n k q z) (hs:SegsOf z ss) (hv:(Fv (ss.map (ldS z.S))).2=true) {g:Seg} (hg:ss[(Fv (ss.map (ldS z.S))).1.toNat]? =some g):g.b≠z.L.last:=by
 obtain ⟨_,V,hZ⟩:=h
 intro hl
 have hok:=Qo (i:=(ss.map (ldS z.S)).length) hv
 have hin:=J1 (ss.map (ldS z.S)) (D4 (ss.map (ldS z.S)) (ss.map (ldS z.S)).length:Nat) (ss.map (ldS z.S)).length
 obtain ⟨b,hb,hsq,hgb,hgs,_,_⟩:=hs.mem (List.mem_of_getElem? hg)
 rw [List.length_map] at hok hin
 have hmax:∀ i,i≤ss.length→(i=0∨D4 (ss.map (ldS z.S)) i<i)∧∀ j<i,(Jf (ss.map (ldS z.S)) j).s.seq.toNat≤(Jf (ss.map (ldS z.S)) (D4 (ss.map (ldS z.S)) i)).s.seq.toNat:=fun i=>by
  induction i with
  | zero=>exact fun _=>⟨.inl rfl,fun j hj=>by omega⟩
  | succ i ih =>
   intro hi
   obtain ⟨h1,h2⟩:=ih (by omega)
   unfold D4
   split
   ·rename_i hlt
    refine ⟨.inr (by omega),fun j hj=> ?_⟩
    by_cases e:j=i
    ·subst e;exact Nat.le_refl _
    ·have:=h2 j (by omega);omega
   ·rename_i hlt
    refine ⟨.inr (by rcases Ui (ss.map (ldS z.S)) i with h | h <;> omega),fun j hj=> ?_⟩
    by_cases e:j=i
    ·subst e;omega
    ·exact h2 j (by omega)
 obtain ⟨m1,m2⟩:=hmax ss.length (Nat.le_refl _)
 have hlen:(Fv (ss.map (ldS z.S))).1.toNat<ss.length:=(List.getElem?_eq_some_iff.1 hg).1
 have hat:∀ j,j<ss.length→∃ g',ss[j]? =some g'∧(Jf (ss.map (ldS z.S)) j).s=g':=fun j hj=>by
  refine ⟨ss[j],List.getElem?_eq_getElem hj,?_⟩
  unfold Jf
  simp only [List.getD_eq_getElem?_getD,List.getElem?_map,List.getElem?_eq_getElem hj,Option.map_some,Option.getD_some]
  rfl
 have hm:=m2 _ hlen
 obtain ⟨g1,e1,e2⟩:=hat _ hlen
 have:g1=g:=by rw [hg] at e1;exact (Option.some.inj e1).symm
 subst this
 have hll:D4 (ss.map (ldS z.S)) ss.length<ss.length:=by omega
 obtain ⟨g2,f1,f2⟩:=hat _ hll
 rw [e2,f2] at hm
 obtain ⟨b2,hb2,hsq2,hgb2,hgs2,_,_⟩:=hs.mem (List.mem_of_getElem? f1)
 have hbl:(b:Int)=z.L.last:=by rw [← hgb];exact hl
 have hbb:b2=b:=by
  rcases hZ.lv.lst with ⟨h1,_⟩ | ⟨l,h1,h2,h3,h4⟩
  ·omega
  ·have hlb:l=b:=by omega
   subst hlb
   by_cases e:b2=l
   ·exact e
   ·have:=h4 b2 hb2 e
    rw [hgs,hgs2] at hm
    omega
 have hnd:(ss.map (·.b)).Nodup:=by
  have h1:(ss.map (·.b))=(ss.map U5).map (·.1):=by rw [List.map_map];rfl
  rw [h1]
  refine (hs.1.map (·.1)).nodup_iff.2 ?_
  have key:∀ j,((L3 z.L.bs z.R j).map (·.1)).Nodup∧∀ x∈(L3 z.L.bs z.R j).map (·.1),x<(j:Int):=fun j=>by
   induction j with
   | zero=>exact ⟨List.nodup_nil,fun x hx=>by cases hx⟩
   | succ j ih =>
    unfold L3
    rw [List.map_append]
    split
    ·simp only [List.map_nil,List.append_nil]
     exact ⟨ih.1,fun x hx=>by have:=ih.2 x hx;omega⟩
    ·refine ⟨List.nodup_append.2 ⟨ih.1,by simp,fun a ha c hc e=> ?_⟩,fun x hx=> ?_⟩
     ·simp only [List.map_cons,List.map_nil,List.mem_singleton] at hc
      have:=ih.2 a ha
      omega
     ·rcases List.mem_append.1 hx with h | h
      ·have:=ih.2 x h;omega
      ·simp only [List.map_cons,List.map_nil,List.mem_singleton] at h
       omega
  exact (key z.L.nb).1
 have hidx:(Fv (ss.map (ldS z.S))).1.toNat=D4 (ss.map (ldS z.S)) ss.length:=by
  have e3:(ss.map (·.b))[(Fv (ss.map (ldS z.S))).1.toNat]? =some (b:Int):=by rw [List.getElem?_map,hg,Option.map_some,hgb]
  have e4:(ss.map (·.b))[D4 (ss.map (ldS z.S)) ss.length]? =some (b:Int):=by rw [List.getElem?_map,f1,Option.map_some,hgb2,hbb]
  obtain ⟨x1,x2⟩:=List.getElem?_eq_some_iff.1 e3
  obtain ⟨y1,y2⟩:=List.getElem?_eq_some_iff.1 e4
  exact (List.getElem_inj hnd).1 (x2.trans y2.symm)
 have h9:=hok.2
 apply h9
 have hvF:Fv (ss.map (ldS z.S))=C2 (ss.map (ldS z.S)) (D4 (ss.map (ldS z.S)) ss.length:Nat) ss.length:=by unfold Fv;rw [List.length_map]
 have hv0:0≤(Fv (ss.map (ldS z.S))).1:=by rw [hvF];exact hin.1
 rw [← hvF]
 omega
def ColR (n:Nat) (q:Qt) (z:Sg) (e:Int) (z':Sg):Prop :=
 ∃ ss:List Seg,SegsOf z ss∧(((Fv (ss.map (ldS z.S))).2=false∧e=40∧z'=z) ∨
  ((Fv (ss.map (ldS z.S))).2=true∧∃ (g:Seg) (b:Nat),ss[(Fv (ss.map (ldS z.S))).1.toNat]? =some g∧g.b=b∧(b:Int)≠z.L.last∧EmR n q b (Fw b 2 (z.R b)) z e z'))
def Aus (n:Nat) (q:Qt) (z:Sg):Prop:=∀ b:Nat,b<z.L.nb→(bAt z.L.bs b).seq.toNat≠0→(b:Int)≠z.L.last→∀ z1,EmA n q (Fw b 2 (z.R b)) z 0 z1→∀ j:Nat,j<8→I2 z1.S ((b:Int),(j:Int))=false
theorem O8 (b:Int):∀ (r:List Pg) (i:Nat),(Fw b i r).length≤r.length
 | [],_=>Nat.le_refl _
 | p::r,i=>by
  have:=O8 b r (i+1)
  show ((if _ then _ else _)++Fw b (i+1) r).length≤_
  rw [List.length_append,List.length_cons]
  split <;> simp <;> omega
theorem LZ.rlen {n nb k:Nat} {q:Qt} {d:Dsk} {bs:List LB} {last:Int} {V:Nat→Blk} {R:Nat→List Pg} (h:LZ n nb k q d bs last V R) {b:Nat} (hb:b<nb):(Fw b 2 (R b)).length≤6:=by
 have h1:=O8 b (R b) 2
 rcases h.lv.blk b hb with ⟨_,r⟩ | u
 ·rw [r];exact Nat.zero_le _
 ·have:=u.cnt.len;omega
theorem Anq (xs:List Ldv):0≤(Fv xs).1:=(J1 _ _ _).1
section
variable {n k:Nat} {q:Qt} {z:Sg}
theorem Aej (h:WI n k q z) (hk:k≤299999900000) (hq:q.n≤3) (h12:z.L.nb≤Cb z.L.bs z.L.nb+12) (hB:Aus n q z) :
  Does Tryz.prog 152 [ptr z.S.st] ((z.S.st,true,C (stC z.S) tSt)::(z.S.ib,true,z.S.idx.obj .i64)::(z.S.pb,true,z.S.pend.obj .i64)::(lgH z.L++[]))
  (fun v H=>∃ (e:Int) (z':Sg),v= .int .i64 e∧H=(z'.S.st,true,C (stC z'.S) tSt)::(z'.S.ib,true,z'.S.idx.obj .i64)::(z'.S.pb,true,z'.S.pend.obj .i64)::(lgH z'.L++[])∧z'.S.st=z.S.st∧ColR n q z e z'∧(e≠30→WI n (k+1000) q z')):=by
 obtain ⟨V,hZ⟩:=h.2
 have hnb:z.L.nb≤40:=(by have:=hZ.num;have:=hZ.dv.di.wf.n2;omega)
 refine Ah (n:=56) Tryz.func152 Tryz.ntmps152 rfl (Nat.le_of_ble_eq_true rfl)<|Ad<|Aa fun ops=>oA rfl<|Ac<|n_K<|Ad<|Aa fun ops=>oM rfl<|oN rfl<|oF rfl ?_
 refine oR (show Rd _ _ _ _ (ptr z.L.lg) from by rw [← h.1];exact Al rfl mM rfl) ?_
 refine Bd rfl (Agi hZ h12) sP rfl fun v16 Y16 h16=> ?_
 obtain ⟨s,l0,rfl,rfl,hp0,hso,hpm,hst,hro,hln⟩:=h16
 refine Ay aQ ?_
 refine oA rfl<|Ac<|n_K<|Ad<|Aa fun ops=>oA rfl<|Ac<|n_K<|Ad<|Ad<|Aa fun ops=>oM rfl<|oR (A7 rfl)<|oM rfl ?_
 refine Ac<|n_K<|Ak ?_
 have hSO:SegsOf z s.list:=⟨hpm,hst⟩
 have hsn:s.list.length≤40:=(by omega)
 refine Im (Gu (α:=Ldv) (T:=tLd)) ?_
 refine A8 [0,3,17,18] kQ (fun (st:Nat×Sl Ldv)=>[(19,.int .i64 st.1),(4,st.2.val)]) (fun (st:Nat×Sl Ldv)=>(st.2.hp tLd++((z.S.st,true,C (stC z.S) tSt)::(z.S.ib,true,z.S.idx.obj .i64)::(z.S.pb,true,z.S.pend.obj .i64)::(lgH z.L++(s.hp Hj++(I1 l0++[])))))) (fun (st:Nat×Sl Ldv)=>st.1≤s.list.length∧st.2.list=(s.list.take st.1).map (ldS z.S)∧st.2.isOwn=true) (fun (st:Nat×Sl Ldv)=>s.list.length - st.1) ((0,Sl.nil)) ⟨Nat.zero_le _,rfl,rfl⟩ kP sP ?_
 rintro ⟨i,lds⟩ ⟨g0,g1,g2⟩
 simp only at g0 g1 g2
 have hll:lds.list.length≤40:=(by rw [g1,List.length_map,List.length_take];omega)
 refine Ad<|Aa fun ops=>oR (Ae rfl rfl rfl)<|Ac<|n_K<|Ad ?_
 refine Aj rfl (fun c20=> ?_) (fun c20=> ?_)
 ·simp only [decide_eq_true_eq,decide_eq_false_iff_not] at c20
  obtain ⟨g,hg⟩:∃ g,s.list[i]? =some g:=⟨_,List.getElem?_eq_getElem (by omega)⟩
  have hgl:g∈l0:=hp0.mem_iff.2 (List.mem_of_getElem? hg)
  obtain ⟨bN,hbN,_,_,_,_,hrl⟩:=hSO.mem (List.mem_of_getElem? hg)
  have hr6:g.recs.list.length≤6:=(by rw [hrl];exact hZ.rlen hbN)
  refine Ai<|n_K<|Ad<|Ak<|Ad<|Aa fun ops=> ?_
  refine oR (Bk (s:=s) rfl rfl (by omega)) ?_
  refine oR (Do (s:=s) (o:=0) rfl pL hg rfl rfl) ?_
  refine Aw rfl fun b6=> ?_
  refine Af rfl rfl uD rfl rfl rfl ?_
  refine Ac<|n_K<|Ad<|Aa fun ops=>oA rfl<|Ac<|n_K<|Ad<|Ad<|Aa fun ops=>oF rfl ?_
  refine oR (Al rfl mM rfl) ?_
  refine oR (A7 rfl)<|oM rfl<|Ac<|n_K<|Ak ?_
  refine A8 [0,3,4,6,17,18,19,24,25] kQ (fun (j:Nat)=>[(26,.int .i64 j),(7,.int .i64 (Gd z.S (g.recs.list.take j):Nat))]) (fun (j:Nat)=>(b6,true,C (Z5 g) Hj)::(lds.hp tLd++((z.S.st,true,C (stC z.S) tSt)::(z.S.ib,true,z.S.idx.obj .i64)::(z.S.pb,true,z.S.pend.obj .i64)::(lgH z.L++(s.hp Hj++(I1 l0++[])))))) (fun (j:Nat)=>j≤g.recs.list.length) (fun (j:Nat)=>g.recs.list.length - j) (0) (Nat.zero_le _) kP sP ?_
  rintro j k0
  refine Ad<|Aa fun ops=>oR (Ae rfl rfl rfl)<|Ac<|n_K<|Ad ?_
  refine Aj rfl (fun c27=> ?_) (fun c27=> ?_)
  ·simp only [decide_eq_true_eq,decide_eq_false_iff_not] at c27
   obtain ⟨x,hgx⟩:∃ x,g.recs.list[j]? =some x:=⟨_,List.getElem?_eq_getElem (by omega)⟩
   have hct:=Ai1 (S:=z.S) hgx
   have hcle:Gd z.S (g.recs.list.take j)≤6:=(by have:=List.countP_le_length (p:=I2 z.S) (l:=g.recs.list.take j);rw [List.length_take] at this;unfold Gd;omega)
   refine Ai<|n_K<|Ad<|Ak<|Ad<|Aa fun ops=> ?_
   refine oR (Bk (s:=g.recs) rfl rfl (by omega)) ?_
   refine oR (V6 (s:=g.recs) (o:=0) rfl (Agj hgl pL) hgx rfl rfl) ?_
   refine Aw rfl fun b9=> ?_
   refine Af rfl rfl uD rfl rfl rfl ?_
   refine Ac<|n_K<|Ad<|Aa fun ops=>oM rfl ?_
   refine oR (Au rfl mM rfl) ?_
   refine A6 rfl (Qm (S:=z.S) (x:=x)) sP rfl aQ ?_
   refine Ac<|n_K ?_
   refine Aj rfl (fun c32=> ?_) (fun c32=> ?_)
   ·skip
    have hcT:Gd z.S (g.recs.list.take (j+1))=Gd z.S (g.recs.list.take j)+1:=(by rw [hct,if_pos (show I2 z.S x=true from c32)])
    refine Aa fun ops=>oM rfl ?_
    refine oR (Ao rfl rfl (by omega)) ?_
    refine oA rfl<|Ac<|Az<|n_K<|Aa fun ops=> ?_
    refine oR (Ao rfl rfl (by omega)) ?_
    refine oM rfl<|Ac<|n_K ?_
    first | exact ⟨j+1,by omega,by omega,(by rw [hcT];exact kP),kP,_,sP⟩ | exact ⟨j+1,by omega,by omega,(by rw [hcF];exact kP),kP,_,sP⟩
   ·skip
    have hcF:Gd z.S (g.recs.list.take (j+1))=Gd z.S (g.recs.list.take j):=(by rw [hct,if_neg (by rw [show I2 z.S x=false from c32];decide),Nat.add_zero])
    refine Ai<|Az<|n_K<|Aa fun ops=> ?_
    refine oR (Ao rfl rfl (by omega)) ?_
    refine oM rfl<|Ac<|n_K ?_
    first | exact ⟨j+1,by omega,by omega,(by rw [hcT];exact kP),kP,_,sP⟩ | exact ⟨j+1,by omega,by omega,(by rw [hcF];exact kP),kP,_,sP⟩
  ·simp only [decide_eq_true_eq,decide_eq_false_iff_not] at c27
   have hj:j=g.recs.list.length:=(by omega)
   subst hj
   rw [List.take_length]
   refine Bb<|x_K<|x_K<|Bj<|n_K<|Aa fun ops=>oM rfl ?_
   refine oR (Au rfl mM rfl) ?_
   refine oM rfl<|oR (Bc rfl rfl) ?_
   refine A5 rfl rfl rfl rfl fun b40=> ?_
   refine Bp (s:=lds) (new:=[(⟨g,(Gd z.S g.recs.list:Nat)⟩:Ldv)]) (m:=1) rfl rfl pL g2 (Cv (r:=true) mM rfl) rfl rfl rfl rfl (by omega) rfl fun s' hs1 hs2=> ?_
   refine oA rfl<|Ac<|Az<|n_K<|Aa fun ops=> ?_
   refine oR (Ao rfl rfl (by omega)) ?_
   refine oM rfl<|Ac<|n_K ?_
   exact ⟨(i+1,s'),⟨by simp only;omega,by simp only;rw [hs1,g1,List.take_add_one,hg,List.map_append];rfl,hs2⟩,(by simp only;omega),lZ⟩
 ·simp only [decide_eq_true_eq,decide_eq_false_iff_not] at c20
  have hi:i=s.list.length:=(by omega)
  subst hi
  rw [List.take_length] at g1
  refine Bb<|x_K<|x_K<|Bj<|n_K<|Ad<|Aa fun ops=>oM rfl ?_
  refine A6 rfl (Ars (s:=lds)) sP rfl aQ ?_
  refine oM rfl<|oE rfl rfl<|oE rfl rfl<|oA rfl<|oA rfl<|Ac<|n_K<|Ad<|Ad<|Aa fun ops=>oM rfl<|oR (Bx rfl)<|Ac<|n_K ?_
  refine Aj rfl (fun c49=> ?_) (fun c49=> ?_)
  ·skip
   have hv:(Fv (s.list.map (ldS z.S))).2=false:=(by rw [← g1];simpa using c49)
   refine Ad<|Aa fun ops=>oA rfl<|Ac<|n_K<|An<|r_K ?_
   exact Av (At Tryz.results152 (Ag rfl)) (by exact ⟨40,z,rfl,rfl,rfl,⟨s.list,hSO,.inl ⟨hv,rfl,rfl⟩⟩,fun _=>h.mono (by omega)⟩) sP
  ·skip
   have hv:(Fv (s.list.map (ldS z.S))).2=true:=(by rw [← g1];simpa using c49)
   have hok:=Qo hv
   have hin:=J1 (s.list.map (ldS z.S)) (D4 (s.list.map (ldS z.S)) (s.list.map (ldS z.S)).length:Nat) (s.list.map (ldS z.S)).length
   rw [List.length_map] at hok hin
   have hvl:(Fv lds.list).1.toNat<s.list.length:=(by rw [g1];show (C2 _ _ _).1.toNat<_;rw [List.length_map];omega)
   have hv0:=Anq lds.list
   obtain ⟨g,hg⟩:∃ g,s.list[(Fv lds.list).1.toNat]? =some g:=⟨_,List.getElem?_eq_getElem hvl⟩
   have hgl:g∈l0:=hp0.mem_iff.2 (List.mem_of_getElem? hg)
   obtain ⟨bN,hbN,hsq,hgb,_,_,hrl⟩:=hSO.mem (List.mem_of_getElem? hg)
   have hr6:g.recs.list.length≤6:=(by rw [hrl];exact hZ.rlen hbN)
   have hnl:(bN:Int)≠z.L.last:=(by rw [← hgb];exact Ai2 h hSO hv (by rw [← g1];exact hg))
   obtain ⟨l1,l2,rfl⟩:=List.append_of_mem hgl
   refine Ai<|n_K<|Ad<|Aa fun ops=>oM rfl<|oM rfl<|oM rfl ?_
   refine oR (Bk (s:=s) rfl rfl (by omega)) ?_
   refine oR (Do (s:=s) (o:=0) rfl pL hg rfl rfl) ?_
   rw [Anp]
   refine Bd rfl (Ano (z:=z) h (by omega) hq (s:=g) hgb (by rw [hrl];exact Aur hbN hsq) (by omega) (by rw [hrl];exact hB bN hbN hsq hnl)) sP rfl fun v55 Y55 h55=> ?_
   obtain ⟨e1,z1,rfl,rfl,hst1,hE,hW⟩:=h55
   refine Ay aQ ?_
   refine oA rfl<|Ac<|n_K<|An ?_
   exact Av (At Tryz.results152 (Ag rfl)) (by exact ⟨e1,z1,rfl,rfl,hst1,⟨s.list,hSO,.inr ⟨hv,g,bN,by rw [← g1];exact hg,hgb,hnl,by rw [← hrl];exact hE⟩⟩,fun h9=>(hW h9).mono (by omega)⟩) sP
end
end
section
open Go.K
instance ent68:Ent Tryz.prog 68:=⟨fun _ _=>by kernel_rfl⟩
instance ent111:Ent Tryz.prog 111:=⟨fun _ _=>by kernel_rfl⟩
set_option maxRecDepth 20000
set_option maxHeartbeats 1000000
theorem EmA.nb {n:Nat} {q:Qt} {xs:List Pl2} {z z':Sg} {e:Int} (h:EmA n q xs z e z'):z'.L.nb=z.L.nb:=by
 induction h with
 | nil=>rfl
 | skip _ _ ih=>exact ih
 | stop _ _ hs _=>exact hs.nb
 | go _ _ hs _ ih=>exact ih.trans hs.nb
theorem EmR.nb {n:Nat} {q:Qt} {b:Nat} {xs:List Pl2} {z z':Sg} {e:Int} (h:EmR n q b xs z e z'):z'.L.nb=z.L.nb:=by
 rcases h with ⟨_,h⟩ | ⟨z1,h,hd⟩
 ·exact h.nb
 ·exact hd.2.2.2.1.trans h.nb
theorem ColR.nb {n:Nat} {q:Qt} {z z':Sg} {e:Int} (h:ColR n q z e z'):z'.L.nb=z.L.nb:=by
 obtain ⟨ss,_,h⟩:=h
 rcases h with ⟨_,_,rfl⟩ | ⟨_,g,b,_,_,_,h⟩
 ·rfl
 ·exact h.nb
inductive ColS (n:Nat) (q:Qt) (z:Sg):Sg→Prop
 | refl:ColS n q z z
 | step {z1 z2:Sg}:ColS n q z z1→(∃ k,k≤300000000000∧WI n k q z1)→Cb z1.L.bs z1.L.nb≤1→ColR n q z1 0 z2→ColS n q z z2
def Y3 (n:Nat) (q:Qt) (z:Sg):Prop:=∀ z1,ColS n q z z1→(∃ k,k≤300000000000∧WI n k q z1)→Cb z1.L.bs z1.L.nb≤1→Cb z1.L.bs z1.L.nb≠0∧z1.L.nb≤Cb z1.L.bs z1.L.nb+12∧Aus n q z1
inductive RoomR (n:Nat) (q:Qt):Nat→Sg→Int→Sg→Prop
 | enough {m:Nat} {z:Sg}:1<Cb z.L.bs z.L.nb→RoomR n q m z 0 z
 | out {z:Sg}:RoomR n q 0 z 0 z
 | stop {m:Nat} {z z1:Sg} {e:Int}:Cb z.L.bs z.L.nb≤1→ColR n q z e z1→e≠0→RoomR n q (m+1) z e z1
 | go {m:Nat} {z z1 z':Sg} {e:Int}:Cb z.L.bs z.L.nb≤1→ColR n q z 0 z1→RoomR n q m z1 e z'→RoomR n q (m+1) z e z'
def PutG (n:Nat) (q:Qt) (z:Sg) (p:Pg) (e:Int) (y:Pl2) (z':Sg):Prop :=
 (e≠0∧RoomR n q (8*z.L.nb) z e z')∨∃ z1,RoomR n q (8*z.L.nb) z 0 z1∧AppG n q z1 p e y z'
section
variable {n k:Nat} {q:Qt} {z:Sg}
theorem WI.nb40 (h:WI n k q z):z.L.nb≤40:=by
 obtain ⟨V,hZ⟩:=h.2
 have:=hZ.num
 have:=hZ.dv.di.wf.n2
 omega
theorem Anr (h:WI n k q z) (hk:k≤299999500000) (hq:q.n≤3) (hS:Y3 n q z) :
  Does Tryz.prog 111 [ptr z.S.st] ((z.S.st,true,C (stC z.S) tSt)::(z.S.ib,true,z.S.idx.obj .i64)::(z.S.pb,true,z.S.pend.obj .i64)::(lgH z.L++[]))
  (fun v H=>∃ (e:Int) (z':Sg),v= .int .i64 e∧H=(z'.S.st,true,C (stC z'.S) tSt)::(z'.S.ib,true,z'.S.idx.obj .i64)::(z'.S.pb,true,z'.S.pend.obj .i64)::(lgH z'.L++[])∧z'.S.st=z.S.st∧RoomR n q (8*z.L.nb) z e z'∧(e≠30→WI n (k+320000) q z')∧z'.L.nb=z.L.nb):=by
 have hnb:=h.nb40
 refine Ah (n:=43) Tryz.func111 Tryz.ntmps111 rfl (Nat.le_of_ble_eq_true rfl)<|Ad<|Aa fun ops=>oA rfl<|Ac<|n_K<|Ad<|Ad<|Aa fun ops=>oA rfl<|Ac<|n_K<|Ak ?_
 refine A8 [0] kQ (fun (st:Nat×Sg)=>[(3,.int .i64 st.1)]) (fun (st:Nat×Sg)=>(st.2.S.st,true,C (stC st.2.S) tSt)::(st.2.S.ib,true,st.2.S.idx.obj .i64)::(st.2.S.pb,true,st.2.S.pend.obj .i64)::(lgH st.2.L++[])) (fun (st:Nat×Sg)=>st.1≤8*z.L.nb∧WI n (k+1000*st.1) q st.2∧st.2.S.st=z.S.st∧st.2.L.nb=z.L.nb∧ColS n q z st.2∧∀ e z',RoomR n q (8*z.L.nb - st.1) st.2 e z'→RoomR n q (8*z.L.nb) z e z') (fun (st:Nat×Sg)=>8*z.L.nb - st.1) ((0,z)) ⟨Nat.zero_le _,h.mono (by omega),rfl,rfl,.refl,fun _ _ h9=>h9⟩ kP sP ?_
 rintro ⟨t,z1⟩ ⟨g0,g1,g2,g3,g4,g5⟩
 simp only at g0 g1 g2 g3 g4 g5
 rw [← g2]
 obtain ⟨V1,hZ1⟩:=g1.2
 have hul:=hZ1.ulen
 have hWk:∃ k,k≤300000000000∧WI n k q z1:=⟨k+1000*t,by omega,g1⟩
 have hS1:=hS z1 g4 hWk
 refine Ad<|Ad ?_
 refine Bf [(6,12)] rfl fun ops y=> ?_
 refine oM rfl<|oN rfl<|oF rfl ?_
 refine oR (show Rd _ _ _ _ (ptr z1.L.lg) from by rw [← g1.1];exact Al rfl mM rfl) ?_
 refine A6 rfl (Agh (L:=z1.L) hZ1.lv.len (by omega)) sP rfl aQ ?_
 refine oR (Ae rfl rfl rfl)<|oM rfl ?_
 refine' Df (j:=6) (k:=11) y rfl rfl rfl rfl rfl rfl rfl (fun hg12=> ?_) ?_
 rotate_left
 ·try (simp at hg12;show _)
  refine o_g y rfl rfl ?_
  refine oM rfl ?_
  refine o_g y rfl rfl ?_
  refine oM rfl ?_
  refine o_g y rfl rfl ?_
  refine oN rfl ?_
  refine o_g y rfl rfl ?_
  refine oF rfl ?_
  refine o_g y rfl rfl ?_
  refine oR (show Rd _ _ _ _ (ptr z1.L.lg) from by rw [← g1.1];exact Al rfl mM rfl) ?_
  refine o_g y rfl rfl ?_
  refine oN rfl ?_
  refine o_g y rfl rfl ?_
  refine oF rfl ?_
  refine o_g y rfl rfl ?_
  refine oR (Qn rfl pL) ?_
  refine o_g y rfl rfl ?_
  refine A6 rfl ((Anm (L:=z1.L)).to (by rw [hul,g3]) rfl) sP rfl aQ ?_
  refine o_g y rfl rfl ?_
  refine oR (To rfl rfl (by omega)) ?_
  refine o_g y rfl rfl ?_
  refine oR (Ae rfl rfl rfl) ?_
  exact Ac ⟨rfl,rfl,⟨_,sP⟩⟩
 refine Ac<|n_K ?_
 refine Aj rfl (fun c24=> ?_) (fun c24=> ?_)
 ·skip
  have hc:Cb z1.L.bs z1.L.nb≤1∧t<8*z.L.nb:=(by simp only [Bool.and_eq_true,decide_eq_true_eq] at c24;omega)
  obtain ⟨hf0,h12,hHB⟩:=hS1 hc.1
  refine Ai<|n_K<|Ad<|Ak<|Ad<|Ad<|Aa fun ops=>oM rfl<|oN rfl<|oF rfl ?_
  refine oR (show Rd _ _ _ _ (ptr z1.L.lg) from by rw [← g1.1];exact Al rfl mM rfl) ?_
  refine A6 rfl (Agh (L:=z1.L) hZ1.lv.len (by omega)) sP rfl aQ ?_
  refine oR (Ae rfl rfl rfl)<|Ac<|n_K ?_
  refine Aj rfl (fun c32=> ?_) (fun c32=> ?_)
  ·skip
   exfalso;simp at c32;omega
  ·skip
   refine Ai<|n_K<|Ad<|Aa fun ops=>oM rfl ?_
   refine Bd rfl (Aej (z:=z1) g1 (by omega) hq h12 hHB) sP rfl fun v39 Y39 h39=> ?_
   obtain ⟨e2,z2,rfl,rfl,hst2,hC,hW2⟩:=h39
   refine Ay aQ ?_
   refine oA rfl<|Ac<|n_K<|Ad<|Aa fun ops=>oM rfl<|oR (Ae rfl rfl rfl)<|Ac<|n_K ?_
   refine Aj rfl (fun c41=> ?_) (fun c41=> ?_)
   ·skip
    have he:e2≠0:=(by simpa using c41)
    refine Ad<|Aa fun ops=>oM rfl<|oA rfl<|Ac<|n_K<|An<|Bn<|r_K<|r_K<|Bn<|r_K ?_
    exact Av (At Tryz.results111 (Ag rfl)) (by exact ⟨e2,z2,rfl,rfl,hst2,g5 _ _ (by rw [show 8*z.L.nb - t=(8*z.L.nb - (t+1))+1 by omega];exact .stop hc.1 hC he),fun h9=>(hW2 h9).mono (by omega),hC.nb.trans g3⟩) sP
   ·skip
    have he:e2=0:=(by simpa using c41)
    subst he
    refine Ai<|Az<|n_K<|Aa fun ops=>oM rfl ?_
    refine oR (Ao rfl rfl (by omega)) ?_
    refine oA rfl<|Ac<|n_K ?_
    exact ⟨(t+1,z2),⟨by simp only;omega,(hW2 (by decide)).mono (by omega),hst2,hC.nb.trans g3,.step g4 hWk hc.1 hC,fun e z' h9=>g5 e z' (by rw [show 8*z.L.nb - t=(8*z.L.nb - (t+1))+1 by omega];exact .go hc.1 hC h9)⟩,by simp only;omega,by rw [← hst2];exact lZ⟩
 ·skip
  have hc:1<Cb z1.L.bs z1.L.nb∨t=8*z.L.nb:=(by simp only [Bool.and_eq_false_iff,decide_eq_false_iff_not] at c24;omega)
  refine Bb<|x_K<|x_K<|Bj<|n_K<|Ad<|Aa fun ops=>oA rfl<|Ac<|n_K<|An ?_
  exact Av (At Tryz.results111 (Ag rfl)) (by exact ⟨0,z1,rfl,rfl,rfl,g5 _ _ (by rcases hc with h9 | h9;exact .enough h9;(rw [h9,Nat.sub_self];exact .out)),fun h9=>g1.mono (by omega),g3⟩) sP
theorem Agk (h:WI n k q z) (hk:k≤299999500000) (hq:q.n≤3) (hS:Y3 n q z) {kind:By} {s:Sl By} {b:Nat} (hj:s.list.length≤70000000000000) (hkd:3<kind.toNat) (hw:C6 kind s.list=false) :
  Does Tryz.prog 68 [ptr z.S.st,bv kind,.slice (some ⟨b,0,none⟩) 1 1] ((z.S.st,true,C (stC z.S) tSt)::(z.S.ib,true,z.S.idx.obj .i64)::(z.S.pb,true,z.S.pend.obj .i64)::(lgH z.L++((b,true,C [s.val] tSB)::(s.hp tU8++[]))))
  (fun v H=>∃ (e:Int) (y:Pl2) (z':Sg),v= .tuple #[.agg #[.int .i64 y.1,.int .i64 y.2],.int .i64 e]∧H=(z'.S.st,true,C (stC z'.S) tSt)::(z'.S.ib,true,z'.S.idx.obj .i64)::(z'.S.pb,true,z'.S.pend.obj .i64)::(lgH z'.L++[])∧z'.S.st=z.S.st∧PutG n q z (Cw kind s.list) e y z'∧(e≠30→WI n (k+320080) q z')):=by
 refine Ah (n:=24) Tryz.func68 Tryz.ntmps68 rfl (Nat.le_of_ble_eq_true rfl)<|Ad<|Aa fun ops=> ?_
 refine Aw rfl fun b6=> ?_
 refine oA rfl<|Ac<|n_K<|Ad<|Ad<|Aa fun ops=>oM rfl ?_
 refine Bd rfl (Anr (z:=z) h (by omega) hq hS) sP rfl fun v10 Y10 h10=> ?_
 obtain ⟨e1,z1,rfl,rfl,hst1,hR,hW1,hnb1⟩:=h10
 refine Ay aQ ?_
 refine oA rfl<|Ac<|n_K<|Ad<|Aa fun ops=>oM rfl<|oR (Ae rfl rfl rfl)<|Ac<|n_K ?_
 refine Aj rfl (fun c12=> ?_) (fun c12=> ?_)
 ·skip
  have he:e1≠0:=(by simpa using c12)
  refine Ad<|Aa fun ops=>oR (Bc rfl rfl)<|oM rfl ?_
  refine Af rfl rfl uD rfl rfl rfl ?_
  refine oA rfl<|Ac<|n_K<|An<|r_K ?_
  exact Av (Bz Tryz.results68 (Bv rfl mM rfl) (Ag rfl)) (by exact ⟨e1,(0,0),z1,rfl,rfl,hst1,.inl ⟨he,hR⟩,fun h9=>(hW1 h9).mono (by omega)⟩) sP
 ·skip
  have he:e1=0:=(by simpa using c12)
  subst he
  have hWI:=hW1 (by decide)
  obtain ⟨V1,hZ1⟩:=hWI.2
  rw [← hst1]
  refine Ai<|n_K<|Ad<|Aa fun ops=>oM rfl<|oN rfl<|oF rfl ?_
  refine oR (show Rd _ _ _ _ (ptr z1.L.lg) from by rw [← hWI.1];exact Al rfl mM rfl) ?_
  refine oM rfl<|oM rfl ?_
  refine Bd rfl (Uj (L:=z1.L) (b:=b) hZ1 (by omega) hq hj hkd hw) sP rfl fun v21 Y21 h21=> ?_
  obtain ⟨L2,e2,pb,pj,rfl,rfl,hA⟩:=h21
  obtain ⟨R2,hG,hW2⟩:=hA.g hWI.1 (by omega)
  refine Ay aQ ?_
  refine oE rfl rfl<|oE rfl rfl ?_
  refine Af rfl rfl uD rfl rfl rfl ?_
  refine oA rfl<|Ac<|n_K<|An ?_
  exact Av (Bz Tryz.results68 (Bv rfl mM rfl) (Ag rfl)) (by exact ⟨e2,(pb,pj),⟨z1.S,L2,R2⟩,rfl,rfl,rfl,.inr ⟨z1,hR,hG⟩,fun h9=>(hW2 h9).mono (by omega)⟩) sP
end
end
section
open Go.K
instance ent92:Ent Tryz.prog 92:=⟨fun _ _=>by kernel_rfl⟩
instance ent98:Ent Tryz.prog 98:=⟨fun _ _=>by kernel_rfl⟩
instance ent99:Ent Tryz.prog 99:=⟨fun _ _=>by kernel_rfl⟩
set_option maxRecDepth 20000
set_option maxHeartbeats 1000000
def SeenK {α:Type} (m:Mp α) (seen:List Nat) (k:Int):Prop:=∃ e∈m.es,e.n∈seen∧e.k=k
theorem SeenK.add {α:Type} {m:Mp α} {seen:List Nat} {e:Me α} (he:e∈m.es) {k:Int}:SeenK m (seen++[e.n]) k↔SeenK m seen k∨k=e.k:=by
 constructor
 ·rintro ⟨x,h1,h2,h3⟩
  rcases List.mem_append.1 h2 with h | h
  ·exact .inl ⟨x,h1,h,h3⟩
  ·have:=Mp.n_inj h1 he (List.mem_singleton.1 h)
   exact .inr (by rw [← h3,this])
 ·rintro (⟨x,h1,h2,h3⟩ | rfl)
  ·exact ⟨x,h1,List.mem_append_left _ h2,h3⟩
  ·exact ⟨e,he,List.mem_append_right _ (List.mem_singleton.2 rfl),rfl⟩
theorem SeenK.no {α:Type} {m:Mp α} {k:Int}:¬ SeenK m [] k:=fun ⟨_,_,h,_⟩=>nomatch h
theorem SeenK.all {α:Type} {m:Mp α} {seen:List Nat} (h:∀ e∈m.es,e.n∈seen) {k:Int}:SeenK m seen k↔(m.get k).isSome=true:=by
 rw [Mp.get_some]
 constructor
 ·rintro ⟨e,h1,_,rfl⟩
  exact List.mem_map.2 ⟨e,h1,rfl⟩
 ·intro hk
  obtain ⟨e,h1,h2⟩:=List.mem_map.1 hk
  exact ⟨e,h1,h e h1,h2⟩
def CopI {α:Type} (d s:Mp α) (seen:List Nat) (c:Mp α):Prop:=(∀ k,SeenK s seen k→c.get k=s.get k)∧∀ k,¬ SeenK s seen k→c.get k=d.get k
theorem CopI.put {α:Type} {d s c:Mp α} {seen:List Nat} {e:Me α} (h:CopI d s seen c) (he:e∈s.es):CopI d s (seen++[e.n]) (c.put e.k e.v):=by
 refine ⟨fun k hk=> ?_,fun k hk=> ?_⟩
 ·rw [Mp.get_put]
  by_cases e1:k=e.k
  ·rw [if_pos e1,e1];exact (Mp.get_mem he).symm
  ·rw [if_neg e1]
   exact h.1 k (((SeenK.add he).1 hk).resolve_right e1)
 ·have h1:¬ (SeenK s seen k∨k=e.k):=fun h2=>hk ((SeenK.add he).2 h2)
  rw [Mp.get_put,if_neg (fun e1=>h1 (.inr e1))]
  exact h.2 k fun h2=>h1 (.inl h2)
def orE {α:Type} (a b:Option α):Option α:=match a with | some v=>some v | none=>b
def Awd {α:Type} (d s m:Mp α):Prop:=∀ k,m.get k=orE (s.get k) (d.get k)
theorem CopI.over {α:Type} {d s c:Mp α} {seen:List Nat} (h:CopI d s seen c) (hl:Gr s seen=[]):Awd d s c:=fun k=>by
 have ha:=SeenK.all (Ib hl) (k:=k)
 cases hs:s.get k with
 | none=>exact h.2 k fun h2=>by have:=ha.1 h2;rw [hs] at this;cases this
 | some v=>rw [h.1 k (ha.2 (by rw [hs];rfl)),hs];rfl
theorem Agl {b1 b2:Nat} {d s:Mp En}:Does Tryz.prog 92 [.map (some b1),.map (some b2)] ((b1,true,d.obj .i64)::(b2,true,s.obj .i64)::[])
  (fun v H=>∃ m:Mp En,v= .tuple #[]∧H=(b1,true,m.obj .i64)::(b2,true,s.obj .i64)::[]∧Awd d s m):=by
 refine Ah (n:=16) Tryz.func92 Tryz.ntmps92 rfl (Nat.le_of_ble_eq_true rfl)<|Ad<|Aa fun ops=>oM rfl ?_
 refine Ip rfl mM rfl fun it7=> ?_
 refine Ac<|n_K<|Ak ?_
 refine A8 [0,7] kQ (fun (st:List Nat×Mp En)=>[]) (fun (st:List Nat×Mp En)=>(it7,true,itO b2 s.cl st.1 s.cl)::(b1,true,st.2.obj .i64)::(b2,true,s.obj .i64)::[]) (fun (st:List Nat×Mp En)=>CopI d s st.1 st.2) (fun (st:List Nat×Mp En)=>Hw s st.1) (([],d)) ⟨fun k h=>absurd h SeenK.no,fun k _=>rfl⟩ kP sP ?_
 rintro ⟨seen,c⟩ g0
 simp only at g0
 refine Ad<|Aa fun ops=> ?_
 refine Ki rfl (by repeat (first | exact Pick.here | apply Pick.there | apply Pick.app)) mM (Mp.wc _) (Nat.le_refl _) rfl (fun hl8=> ?_) (fun e8 he8 hn8=> ?_)
 ·refine oE rfl rfl<|Ac<|n_K<|Ad ?_
  refine Bi rfl ?_
  refine Bb<|x_K<|x_K<|Bj ?_
  exact H5 (Ml Tryz.results92) (by exact ⟨c,rfl,rfl,g0.over hl8⟩) sP
 ·refine oE rfl rfl<|Ac<|n_K<|Ad ?_
  refine F1 rfl ?_
  refine Ai<|n_K<|Ak<|Ad<|Aa fun ops=> ?_
  refine oR (Iq rfl mM mM he8) ?_
  refine oE rfl rfl<|oE rfl rfl ?_
  refine Aw rfl fun b5=> ?_
  refine oA rfl ?_
  refine Af rfl rfl uD rfl rfl rfl ?_
  refine Ac<|n_K<|Aa fun ops=>oM rfl<|oM rfl ?_
  refine oR (Au rfl mM rfl) ?_
  refine V4 (m:=c) (v:=e8.v) (kd:= .i64) rfl rfl rfl uD ?_
  refine Ac<|Az<|n_K ?_
  exact ⟨(seen++[e8.n],c.put e8.k e8.v),(g0.put he8),(Da he8 hn8),lZ⟩
structure DelI {α:Type} (m:Mp α) (p:Int→Bool) (seen:List Nat) (c:Mp α):Prop where
 cl:c.cl=m.cl
 sub:∀ e∈c.es,e∈m.es
 sup:∀ e∈m.es,e.n∉seen→e∈c.es
 gone:∀ k,SeenK m seen k→p k=false→c.get k=none
 stay:∀ k,(¬ SeenK m seen k∨p k=true)→c.get k=m.get k
theorem DelI.start {α:Type} (m:Mp α) (p:Int→Bool):DelI m p [] m:=⟨rfl,fun _ h=>h,fun _ h _=>h,fun k h=>absurd h SeenK.no,fun _ _=>rfl⟩
theorem DelI.skip {α:Type} {m c:Mp α} {p:Int→Bool} {seen:List Nat} {e:Me α} (h:DelI m p seen c) (he:e∈m.es) (hp:p e.k=true):DelI m p (seen++[e.n]) c:=by
 refine ⟨h.cl,h.sub,fun x hx hn=>h.sup x hx fun h2=>hn (List.mem_append_left _ h2),fun k hk hpk=> ?_,fun k hk=> ?_⟩
 ·rcases (SeenK.add he).1 hk with h1 | rfl
  ·exact h.gone k h1 hpk
  ·rw [hp] at hpk;cases hpk
 ·refine h.stay k ?_
  rcases hk with h1 | h1
  ·exact .inl fun h2=>h1 ((SeenK.add he).2 (.inl h2))
  ·exact .inr h1
theorem DelI.del {α:Type} {m c:Mp α} {p:Int→Bool} {seen:List Nat} {e:Me α} (h:DelI m p seen c) (he:e∈m.es) (hp:p e.k=false):DelI m p (seen++[e.n]) (c.del e.k):=by
 refine ⟨h.cl,fun x hx=>h.sub x (List.mem_filter.1 hx).1,fun x hx hn=>List.mem_filter.2 ⟨h.sup x hx fun h2=>hn (List.mem_append_left _ h2),?_⟩,fun k hk hpk=> ?_,fun k hk=> ?_⟩
 ·simp only [Bool.not_eq_true',decide_eq_false_iff_not]
  intro h3
  apply hn
  have:x=e:=by
   have h4:=Mp.get_mem hx
   have h5:=Mp.get_mem he
   have:∀ (es:List (Me α)),(es.map (·.k)).Nodup→x∈es→e∈es→x=e:=fun es=>by
    induction es with
    | nil=>intro _ h;cases h
    | cons y es ih =>
     intro hn ha hb
     rw [List.map_cons,List.nodup_cons] at hn
     rcases List.mem_cons.1 ha with ha | ha <;> rcases List.mem_cons.1 hb with hb | hb
     ·rw [ha,hb]
     ·exact absurd (List.mem_map.2 ⟨e,hb,by rw [← ha,h3]⟩) hn.1
     ·exact absurd (List.mem_map.2 ⟨x,ha,by rw [← hb,h3]⟩) hn.1
     ·exact ih hn.2 ha hb
   exact this m.es m.wk hx he
  rw [this]
  exact List.mem_append_right _ (List.mem_singleton.2 rfl)
 ·rw [Mp.get_del]
  split
  ·rfl
  ·rename_i hne
   exact h.gone k (((SeenK.add he).1 hk).resolve_right hne) hpk
 ·rw [Mp.get_del]
  have hne:k≠e.k:=fun e1=>by
   rcases hk with h1 | h1
   ·exact h1 ((SeenK.add he).2 (.inr e1))
   ·rw [e1,hp] at h1;cases h1
  rw [if_neg hne]
  refine h.stay k ?_
  rcases hk with h1 | h1
  ·exact .inl fun h2=>h1 ((SeenK.add he).2 (.inl h2))
  ·exact .inr h1
def Awe {α:Type} (m:Mp α) (p:Int→Bool) (c:Mp α):Prop:=∀ k,c.get k=if p k=true then m.get k else none
theorem DelI.only {α:Type} {m c:Mp α} {p:Int→Bool} {seen:List Nat} (h:DelI m p seen c) (hl:Gr c seen=[]):Awe m p c:=fun k=>by
 have ha:∀ e∈m.es,e.n∈seen:=fun e he=>by
  by_cases h1:e.n∈seen
  ·exact h1
  ·exact Ib hl e (h.sup e he h1)
 by_cases hp:p k=true
 ·rw [if_pos hp];exact h.stay k (.inr hp)
 ·rw [if_neg hp]
  by_cases hs:SeenK m seen k
  ·exact h.gone k hs (by simpa using hp)
  ·rw [h.stay k (.inl hs)]
   have:=SeenK.all ha (k:=k)
   cases hg:m.get k with
   | none=>rfl
   | some v=>exact absurd (this.2 (by rw [hg];rfl)) hs
theorem DelI.wc {α:Type} {m c:Mp α} {p:Int→Bool} {seen:List Nat} (h:DelI m p seen c):∀ e∈c.es,e.n<m.cl:=fun e he=>m.wc e (h.sub e he)
theorem Ans {k:Int} {e:En} {b:Nat} {l:Lv}:Does Tryz.prog 99 [.int .i64 k,.agg (Aix e).toArray,ptr b] [(b,true,C (vbc l) tLv)] (Is (.bool (!B4 l k)) [(b,true,C (vbc l) tLv)]):=by
 refine Ah (n:=10) Tryz.func99 Tryz.ntmps99 rfl (Nat.le_of_ble_eq_true rfl)<|Ad<|Aa fun ops=> ?_
 refine De rfl rfl fun b4=> ?_
 refine oA rfl<|Ac<|n_K<|Ad<|Aa fun ops=> ?_
 refine oR (Au rfl mM (by first | exact Bg | rfl)) ?_
 refine oM rfl ?_
 refine A6 rfl (Ue) sP rfl aQ ?_
 refine oR (Bx rfl)<|oA rfl<|Ac<|n_K<|An ?_
 refine Aq (At Tryz.results99 (Ag rfl)) ?_ sP
 rfl
theorem Aru {b b3:Nat} {m:Mp En} {l:Lv}:Does Tryz.prog 98 [.map (some b),.func (.func 99) #[] #[ptr b3]] ((b,true,m.obj .i64)::(b3,true,C (vbc l) tLv)::[])
  (fun v H=>∃ c:Mp En,v= .tuple #[]∧H=(b,true,c.obj .i64)::(b3,true,C (vbc l) tLv)::[]∧Awe m (B4 l) c):=by
 refine Ah (n:=19) Tryz.func98 Tryz.ntmps98 rfl (Nat.le_of_ble_eq_true rfl)<|Ad<|Aa fun ops=>oM rfl ?_
 refine Ip rfl mM rfl fun it7=> ?_
 refine Ac<|n_K<|Ak ?_
 refine A8 [0,1,7] kQ (fun (st:List Nat×Mp En)=>[]) (fun (st:List Nat×Mp En)=>(it7,true,itO b m.cl st.1 m.cl)::(b,true,st.2.obj .i64)::(b3,true,C (vbc l) tLv)::[]) (fun (st:List Nat×Mp En)=>DelI m (B4 l) st.1 st.2) (fun (st:List Nat×Mp En)=>Hw m st.1) (([],m)) (DelI.start m _) kP sP ?_
 rintro ⟨seen,c⟩ g0
 simp only at g0
 refine Ad<|Aa fun ops=> ?_
 refine Ki rfl (by repeat (first | exact Pick.here | apply Pick.there | apply Pick.app)) mM g0.wc (Nat.le_refl _) rfl (fun hl8=> ?_) (fun e8 he8 hn8=> ?_)
 ·refine oE rfl rfl<|Ac<|n_K<|Ad ?_
  refine Bi rfl ?_
  refine Bb<|x_K<|x_K<|Bj ?_
  exact H5 (Ml Tryz.results98) (by exact ⟨c,rfl,rfl,g0.only hl8⟩) sP
 ·refine oE rfl rfl<|Ac ?_
  have hem:=g0.sub e8 he8
  refine n_K<|Ad ?_
  refine F1 rfl ?_
  refine Ai<|n_K<|Ak<|Ad<|Aa fun ops=> ?_
  refine oR (Iq rfl mM mM he8) ?_
  refine oE rfl rfl<|oE rfl rfl ?_
  refine Aw rfl fun b5=> ?_
  refine oA rfl ?_
  refine Af rfl rfl uD rfl rfl rfl ?_
  refine Ac<|n_K<|Ad<|Aa fun ops=>oM rfl<|oM rfl ?_
  refine oR (Au rfl mM rfl) ?_
  refine S8 (fi:=[]) (ca:=[ptr b3]) rfl rfl (Ans (k:=e8.k) (e:=e8.v) (b:=b3) (l:=l)) sP rfl aQ ?_
  refine Ac<|n_K ?_
  refine Aj rfl (fun c16=> ?_) (fun c16=> ?_)
  ·skip
   have hp:B4 l e8.k=false:=(by simpa using c16)
   refine Aa fun ops=>oM rfl<|oM rfl ?_
   refine As7 rfl rfl uD ?_
   refine Ac<|Az<|n_K ?_
   rw [g0.cl]
   first | exact ⟨(seen++[e8.n],c.del e8.k),g0.del hem hp,Da hem hn8,lZ⟩ | exact ⟨(seen++[e8.n],c),g0.skip hem hp,Da hem hn8,lZ⟩
  ·skip
   have hp:B4 l e8.k=true:=(by simpa using c16)
   refine Ai<|Az<|n_K ?_
   rw [g0.cl]
   first | exact ⟨(seen++[e8.n],c.del e8.k),g0.del hem hp,Da hem hn8,lZ⟩ | exact ⟨(seen++[e8.n],c),g0.skip hem hp,Da hem hn8,lZ⟩
end
section
open Go.K
instance und63:Und Tryz.prog 63 (.map 3 3):=⟨Tryz.underlying63⟩
instance agg63:Agg Tryz.prog 63 false:=⟨⟨_,Tryz.underlying63,rfl⟩⟩
instance fld67_3:Fld Tryz.prog 67 3 3:=⟨⟨_,_,0,Tryz.underlying67,rfl,by kernel_rfl,rfl⟩⟩
instance fld67_9:Fld Tryz.prog 67 9 46:=⟨⟨_,_,0,Tryz.underlying67,rfl,by kernel_rfl,rfl⟩⟩
instance fld67_10:Fld Tryz.prog 67 10 47:=⟨⟨_,_,0,Tryz.underlying67,rfl,by kernel_rfl,rfl⟩⟩
instance ent58:Ent Tryz.prog 58:=⟨fun _ _=>by kernel_rfl⟩
instance ent60:Ent Tryz.prog 60:=⟨fun _ _=>by kernel_rfl⟩
instance ent97:Ent Tryz.prog 97:=⟨fun _ _=>by kernel_rfl⟩
set_option maxRecDepth 20000
set_option maxHeartbeats 1000000
instance mcl:Mcl Tryz.prog 139:=⟨_,Tryz.func139,by kernel_rfl,rfl,by kernel_rfl,by kernel_rfl⟩
theorem Ai3 {b:Nat} {m:Mp En}:Does Tryz.prog 97 [.map (some b)] ((b,true,m.obj .i64)::[])
  (fun v H=>∃ c:Nat,v= .map (some c)∧H=(c,true,m.obj .i64)::(b,true,m.obj .i64)::[]):=by
 refine Ah (n:=9) Tryz.func97 Tryz.ntmps97 rfl (Nat.le_of_ble_eq_true rfl)<|Ad<|Aa fun ops=>oA rfl<|Ac<|n_K<|Ad<|Ad<|Aa fun ops=>oM rfl<|oR (Ahx rfl rfl)<|Ac<|n_K ?_
 refine Bi rfl ?_
 refine Ai<|n_K<|Ad<|Aa fun ops=>oM rfl<|oR (At9 rfl) ?_
 refine Alg (m:=m) (kd:= .i64) rfl mM rfl fun b7=> ?_
 refine oR (Add rfl)<|oA rfl<|Ac<|n_K<|An ?_
 exact Av (At Tryz.results97 (Ag rfl)) (by exact ⟨b7,rfl,rfl⟩) sP
def Mz (S:Sto) (l:Lv) (m:Mp En):Prop:=∀ k,m.get k=if B4 l k=true then orE (S.pend.get k) (S.idx.get k) else none
theorem Ant {S:Sto} {l:Lv}:Does Tryz.prog 60 [ptr S.st,.agg (vbc l).toArray] ((S.st,true,C (stC S) tSt)::(S.ib,true,S.idx.obj .i64)::(S.pb,true,S.pend.obj .i64)::[])
  (fun v H=>∃ (c:Nat) (m:Mp En),v= .map (some c)∧H=(c,true,m.obj .i64)::(S.st,true,C (stC S) tSt)::(S.ib,true,S.idx.obj .i64)::(S.pb,true,S.pend.obj .i64)::[]∧Mz S l m):=by
 refine Ah (n:=21) Tryz.func60 Tryz.ntmps60 rfl (Nat.le_of_ble_eq_true rfl)<|Ad<|Aa fun ops=> ?_
 refine Ec rfl rfl fun b3=> ?_
 refine oA rfl<|Ac<|n_K<|Ad<|Aa fun ops=>oM rfl<|oN rfl<|oF rfl ?_
 refine oR (Al rfl mM rfl) ?_
 refine Bd rfl (Ai3) sP rfl fun v10 Y10 h10=> ?_
 obtain ⟨b10,rfl,rfl⟩:=h10
 refine Ay aQ ?_
 refine oA rfl<|Ac<|n_K<|Ad<|Aa fun ops=>oM rfl<|oM rfl<|oN rfl<|oF rfl ?_
 refine oR (Al rfl mM rfl) ?_
 refine Bd rfl (Agl) sP rfl fun v16 Y16 h16=> ?_
 obtain ⟨m16,rfl,rfl,hO16⟩:=h16
 refine Ay aQ ?_
 refine Ac<|n_K<|Ad<|Aa fun ops=>oM rfl<|oR (Oh rfl) ?_
 refine Bd rfl (Aru) sP rfl fun v19 Y19 h19=> ?_
 obtain ⟨c19,rfl,rfl,hO19⟩:=h19
 refine Ay aQ ?_
 refine Ac<|n_K<|Ad<|Aa fun ops=>oM rfl<|oA rfl<|Ac<|n_K<|An ?_
 exact Av (At Tryz.results60 (Ag rfl)) (by exact ⟨b10,c19,rfl,rfl,fun k=>by rw [hO19 k,hO16 k]⟩) sP
def I3 (a b:Wd):Wd:=if a.toNat<b.toNat then b else a
def Arv (S:Sto) (c:Cm) (y:Pl2) (m:Mp En):Sto:={ S with idx:=m,stray:=S.stray.clr,last:=c,la:=y,hurt:=false,seen:=I3 S.seen c.ep }
def EndR (n:Nat) (q:Qt) (z:Sg) (c:Cm) (e:Int) (z':Sg):Prop :=
 ∃ y z1,PutG n q z (Cw 11 (F5 c)) e y z1∧((e≠0∧z'=z1)∨(e=0∧∃ m,Mz z1.S c.lv m∧z'={ z1 with S:=Arv z1.S c y m }))
theorem Ja (c:Cm):(F5 c).length=44:=by
 unfold F5
 simp [Bo]
structure SameS (S S':Sto):Prop where
 st:S'.st=S.st
 lg:S'.lg=S.lg
 ib:S'.ib=S.ib
 pb:S'.pb=S.pb
 sb:S'.sb=S.sb
 last:S'.last=S.last
 vw:S'.vw=S.vw
 viewed:S'.viewed=S.viewed
 seen:S'.seen=S.seen
 hurt:S'.hurt=S.hurt
 stray:S'.stray=S.stray
theorem SameS.refl (S:Sto):SameS S S:=⟨rfl,rfl,rfl,rfl,rfl,rfl,rfl,rfl,rfl,rfl,rfl⟩
theorem SameS.trans {S S' S'':Sto} (h:SameS S S') (k:SameS S' S''):SameS S S'' :=
 ⟨k.st.trans h.st,k.lg.trans h.lg,k.ib.trans h.ib,k.pb.trans h.pb,k.sb.trans h.sb,k.last.trans h.last,k.vw.trans h.vw,k.viewed.trans h.viewed,k.seen.trans h.seen,k.hurt.trans h.hurt,k.stray.trans h.stray⟩
theorem SameS.of {S S':Sto} (h:S'=S):SameS S S':=by subst h;exact .refl _
theorem Uk (S:Sto) (f t:Pl2):SameS S (Dd S f t):=⟨rfl,rfl,rfl,rfl,rfl,rfl,rfl,rfl,rfl,rfl,rfl⟩
theorem ShR.same {n:Nat} {q:Qt} {z z':Sg} {x:Pl2} {p:Pg} {e:Int} (h:ShR n q z x p e z'):SameS z.S z'.S:=by
 obtain ⟨y,z1,h1,h2⟩:=h
 subst h2
 split
 ·exact (SameS.of h1.1).trans (Uk _ _ _)
 ·exact .of h1.1
theorem EmA.same {n:Nat} {q:Qt} {xs:List Pl2} {z z':Sg} {e:Int} (h:EmA n q xs z e z'):SameS z.S z'.S:=by
 induction h with
 | nil=>exact .refl _
 | skip _ _ ih=>exact ih
 | stop _ _ hs _=>exact hs.same
 | go _ _ hs _ ih=>exact hs.same.trans ih
theorem EmR.same {n:Nat} {q:Qt} {b:Nat} {xs:List Pl2} {z z':Sg} {e:Int} (h:EmR n q b xs z e z'):SameS z.S z'.S:=by
 rcases h with ⟨_,h⟩ | ⟨z1,h,hd⟩
 ·exact h.same
 ·exact h.same.trans (.of hd.1)
theorem ColR.same {n:Nat} {q:Qt} {z z':Sg} {e:Int} (h:ColR n q z e z'):SameS z.S z'.S:=by
 obtain ⟨ss,_,h⟩:=h
 rcases h with ⟨_,_,rfl⟩ | ⟨_,g,b,_,_,_,h⟩
 ·exact .refl _
 ·exact h.same
theorem RoomR.same {n:Nat} {q:Qt} {m:Nat} {z z':Sg} {e:Int} (h:RoomR n q m z e z'):SameS z.S z'.S:=by
 induction h with
 | enough _=>exact .refl _
 | out=>exact .refl _
 | stop _ hc _=>exact hc.same
 | go _ hc _ ih=>exact hc.same.trans ih
theorem PutG.same {n:Nat} {q:Qt} {z z':Sg} {p:Pg} {e:Int} {y:Pl2} (h:PutG n q z p e y z'):SameS z.S z'.S:=by
 rcases h with ⟨_,h⟩ | ⟨z1,h,ha⟩
 ·exact h.same
 ·exact h.same.trans (.of ha.1)
section
variable {n k:Nat} {q:Qt} {z:Sg}
theorem Aut (h:WI n k q z) (hk:k≤299999500000) (hq:q.n≤3) (hS:Y3 n q z) {c:Cm} :
  Does Tryz.prog 58 [ptr z.S.st,.agg (cmC c).toArray] ((z.S.st,true,C (stC z.S) tSt)::(z.S.ib,true,z.S.idx.obj .i64)::(z.S.pb,true,z.S.pend.obj .i64)::(z.S.sb,true,z.S.stray.obj .i64)::(lgH z.L++[]))
  (fun v H=>∃ (e:Int) (z':Sg),v= .int .i64 e∧H=(z'.S.st,true,C (stC z'.S) tSt)::(z'.S.ib,true,z'.S.idx.obj .i64)::(z'.S.pb,true,z'.S.pend.obj .i64)::(z'.S.sb,true,z'.S.stray.obj .i64)::(lgH z'.L++[])∧z'.S.st=z.S.st∧EndR n q z c e z'∧(e≠30→WI n (k+320080) q z')):=by
 refine Ah (n:=72) Tryz.func58 Tryz.ntmps58 rfl (Nat.le_of_ble_eq_true rfl)<|Ad<|Aa fun ops=> ?_
 refine Ec rfl rfl fun b3=> ?_
 refine oA rfl<|Ac<|n_K<|Ad<|Aa fun ops=>oM rfl ?_
 refine oR (Au rfl mM (by first | exact Nl | rfl)) ?_
 refine Bd rfl (Aiw) sP rfl fun v11 Y11 h11=> ?_
 obtain ⟨s11,rfl,rfl,hs11,ho11⟩:=h11
 refine Ay aQ ?_
 refine A5 rfl rfl rfl rfl fun b12=> ?_
 refine Bd rfl (Agk (z:=z) h hk hq hS (kind:=11) (s:=s11) (b:=b12) (by rw [hs11,Ja];decide) (by decide) (by rw [hs11];unfold C6;rw [Ja];rfl)) sP rfl fun v13 Y13 h13=> ?_
 obtain ⟨e1,y1,z1,rfl,rfl,hst1,hP,hW⟩:=h13
 rw [hs11] at hP
 have hsm:=hP.same
 rw [← hsm.sb,← hsm.stray]
 refine Ay aQ ?_
 refine oM rfl<|oE rfl rfl<|oE rfl rfl ?_
 refine Aw rfl fun b5=> ?_
 refine Af rfl rfl uD rfl rfl rfl ?_
 refine oA rfl<|Ac<|n_K<|Ad<|Ad<|Aa fun ops=>oM rfl<|oR (Ae rfl rfl rfl)<|Ac<|n_K ?_
 refine Aj rfl (fun c17=> ?_) (fun c17=> ?_)
 ·skip
  have he:e1≠0:=(by simpa using c17)
  refine Ad<|Aa fun ops=>oM rfl<|oA rfl<|Ac<|n_K<|An<|r_K ?_
  exact Av (At Tryz.results58 (Ag rfl)) (by exact ⟨e1,z1,rfl,rfl,hst1,⟨y1,z1,hP,.inl ⟨he,rfl⟩⟩,hW⟩) sP
 ·skip
  have he:e1=0:=(by simpa using c17)
  subst he
  rw [← hst1]
  refine Ai<|n_K<|Ad ?_
  refine s_draw [] [(8,[(0,false),(1,false),(2,false),(3,false),(4,false),(5,false),(6,false),(7,false)]),(9,[(8,true)])] (by kernel_rfl) rfl fun ops w0 H0 y=> ?_
  refine A4<|xM rfl<|xN rfl<|xF rfl ?_
  refine xR (Al rfl mM rfl) ?_
  refine xM rfl<|xN rfl<|xF rfl ?_
  refine xR (Al rfl mM rfl) ?_
  refine Am<|Bh<|Be ?_
  refine Bd rfl (Agl) sP rfl fun v27 Y27 h27=> ?_
  obtain ⟨m27,rfl,rfl,hO27⟩:=h27
  refine Ay aQ ?_
  refine Ac ⟨rfl,⟨_,sP⟩,?_⟩
  refine Am<|Bm<|n_K<|Ad<|Ad<|Aa fun ops=>oM rfl<|oN rfl<|oF rfl ?_
  refine oR (Al rfl mM rfl) ?_
  refine Ip rfl mM rfl fun it32=> ?_
  refine Ac<|n_K<|Ak ?_
  refine A8 [0,3,5,32] kQ (fun (st:List Nat×Mp En)=>[]) (fun (st:List Nat×Mp En)=>(it32,true,itO z1.S.ib m27.cl st.1 m27.cl)::(b3,true,C (cmC c) tCm)::(b5,true,C [.int .i64 y1.1,.int .i64 y1.2] tPc)::(z1.S.st,true,C (stC z1.S) tSt)::(z1.S.ib,true,st.2.obj .i64)::(z1.S.pb,true,z1.S.pend.obj .i64)::(z1.S.sb,true,z1.S.stray.obj .i64)::(lgH z1.L++[])) (fun (st:List Nat×Mp En)=>DelI m27 (B4 c.lv) st.1 st.2) (fun (st:List Nat×Mp En)=>Hw m27 st.1) (([],m27)) (DelI.start m27 _) kP sP ?_
  rintro ⟨seen,X⟩ g0
  simp only at g0
  refine Ad<|Aa fun ops=> ?_
  refine Ki rfl (by repeat (first | exact Pick.here | apply Pick.there | apply Pick.app)) mM g0.wc (Nat.le_refl _) rfl (fun hl33=> ?_) (fun e33 he33 hn33=> ?_)
  ·refine oE rfl rfl<|Ac<|n_K<|Ad ?_
   refine Bi rfl ?_
   refine Bb<|x_K<|x_K<|Bj<|n_K<|Ad<|Aa fun ops=>oM rfl<|oN rfl<|oF rfl ?_
   refine oR (Al rfl mM rfl) ?_
   refine Afk rfl uD ?_
   refine Ac<|n_K<|Ad ?_
   refine He [] [0,1,2] [[(3,false),(4,false),(5,false),(6,false),(7,true)],[(8,false)],[(9,false)],[(10,true)],[(11,false)],[(12,false)],[(13,true)]] (by kernel_rfl) rfl rfl fun ops w0 H0 y=> ?_
   unfold Tg
   refine xM rfl<|xM rfl<|xM rfl<|Am ?_
   refine Aqn [(b3,true,C (cmC c) tCm),(b5,true,C [.int .i64 y1.1,.int .i64 y1.2] tPc)] sP ?_
   refine xR (Au rfl mM (by first | exact Nl | rfl)) ?_
   refine xR (Au rfl mM rfl) ?_
   refine xN rfl<|xF rfl<|Be ?_
   first | refine Af (cs':=stC { z1.S with last:=c }) rfl rfl uD (Rk) (Cr) (Lz z1.S c) ?_ | refine Af (cs':=stC { z1.S with last:=c,la:=y1 }) rfl rfl uD rfl rfl (Ds (S:={ z1.S with last:=c }) rfl rfl) ?_ | refine Af (cs':=stC { z1.S with last:=c,la:=y1,hurt:=false }) rfl rfl uD rfl rfl (Ds (S:={ z1.S with last:=c,la:=y1 }) rfl rfl) ?_
   refine Ac ⟨rfl,⟨_,sP⟩,?_⟩
   refine Am<|A4<|xN rfl<|Am<|A4<|xF rfl<|Am<|Bh<|Be ?_
   first | refine Af (cs':=stC { z1.S with last:=c }) rfl rfl uD (Rk) (Cr) (Lz z1.S c) ?_ | refine Af (cs':=stC { z1.S with last:=c,la:=y1 }) rfl rfl uD rfl rfl (Ds (S:={ z1.S with last:=c }) rfl rfl) ?_ | refine Af (cs':=stC { z1.S with last:=c,la:=y1,hurt:=false }) rfl rfl uD rfl rfl (Ds (S:={ z1.S with last:=c,la:=y1 }) rfl rfl) ?_
   refine Ac ⟨rfl,⟨_,sP⟩,?_⟩
   refine Am<|A4<|xN rfl<|Am<|A4<|xF rfl<|Am<|Bh<|Be ?_
   first | refine Af (cs':=stC { z1.S with last:=c }) rfl rfl uD (Rk) (Cr) (Lz z1.S c) ?_ | refine Af (cs':=stC { z1.S with last:=c,la:=y1 }) rfl rfl uD rfl rfl (Ds (S:={ z1.S with last:=c }) rfl rfl) ?_ | refine Af (cs':=stC { z1.S with last:=c,la:=y1,hurt:=false }) rfl rfl uD rfl rfl (Ds (S:={ z1.S with last:=c,la:=y1 }) rfl rfl) ?_
   refine Ac ⟨rfl,⟨_,sP⟩,?_⟩
   refine Am<|Bm<|n_K<|Ad ?_
   refine s_draw [] [(10,[(0,false),(1,false),(2,false),(3,false),(4,false),(5,false),(6,false),(7,false),(8,false),(9,false)]),(11,[(10,true)])] (by kernel_rfl) rfl fun ops w0 H0 y=> ?_
   refine A4<|xM rfl<|xM rfl<|xN rfl<|xF rfl ?_
   refine xR (show Rd _ _ _ _ (wv z1.S.seen) from Al rfl mM (Iv (S:={ z1.S with last:=c,la:=y1,hurt:=false }) (o:=8) rfl)) ?_
   refine xF rfl ?_
   refine xR (Al rfl mM rfl) ?_
   refine xR (Ny rfl rfl)<|xN rfl<|xF rfl<|Am<|Bh<|Be ?_
   refine Af (cs':=stC { z1.S with last:=c,la:=y1,hurt:=false,seen:=I3 z1.S.seen c.ep }) rfl rfl uD rfl rfl (Ds (S:={ z1.S with last:=c,la:=y1,hurt:=false }) rfl rfl) ?_
   refine Ac ⟨rfl,⟨_,sP⟩,?_⟩
   refine Am<|Bm<|n_K<|Ad<|Aa fun ops=>oA rfl<|Ac<|n_K<|An ?_
   exact Av (At Tryz.results58 (Ag rfl)) (by exact ⟨0,{ z1 with S:=Arv z1.S c y1 X },rfl,rfl,rfl,⟨y1,z1,hP,.inr ⟨rfl,X,fun k=>by rw [(g0.only hl33) k,hO27 k],rfl⟩⟩,fun h9=>⟨(hW (by decide)).1,(hW (by decide)).2⟩⟩) sP
  ·refine oE rfl rfl<|Ac ?_
   have hem:=g0.sub e33 he33
   refine n_K<|Ad ?_
   refine F1 rfl ?_
   refine Ai<|n_K<|Ak<|Ad<|Aa fun ops=> ?_
   refine oR (Iq rfl mM mM he33) ?_
   refine oE rfl rfl<|oA rfl<|Ac<|n_K<|Ad<|Aa fun ops=>oF rfl ?_
   refine oR (Au rfl mM (Am4 c)) ?_
   refine oM rfl ?_
   refine A6 rfl (Ue) sP rfl aQ ?_
   refine oR (Bx rfl)<|Ac<|n_K ?_
   refine Aj rfl (fun c41=> ?_) (fun c41=> ?_)
   ·skip
    have hp:B4 c.lv e33.k=false:=(by simpa using c41)
    refine Aa fun ops=>oM rfl<|oN rfl<|oF rfl ?_
    refine oR (Al rfl mM rfl) ?_
    refine oM rfl ?_
    refine As7 rfl rfl uD ?_
    refine Ac<|Az<|n_K ?_
    rw [g0.cl]
    first | exact ⟨(seen++[e33.n],X.del e33.k),g0.del hem hp,Da hem hn33,lZ⟩ | exact ⟨(seen++[e33.n],X),g0.skip hem hp,Da hem hn33,lZ⟩
   ·skip
    have hp:B4 c.lv e33.k=true:=(by simpa using c41)
    refine Ai<|Az<|n_K ?_
    rw [g0.cl]
    first | exact ⟨(seen++[e33.n],X.del e33.k),g0.del hem hp,Da hem hn33,lZ⟩ | exact ⟨(seen++[e33.n],X),g0.skip hem hp,Da hem hn33,lZ⟩
end
end
section
open Go.K
variable {T:TypeId}
instance zv124:ZerV Tryz.prog 124 (.agg #[.int .i64 0,.int .i64 0,.int .u64 0]):=⟨by kernel_rfl⟩
instance ent19:Ent Tryz.prog 19:=⟨fun _ _=>by kernel_rfl⟩
set_option maxRecDepth 20000
set_option maxHeartbeats 1000000
theorem Ai4 {α:Type} [Mv α] {P:Program} {E:Env} {H:Hp} {t kt et:TypeId} {x y:Operand} {kd:IntKind} {b:Nat} {m:Mp α} {k:Int} {z:Value} {r:Bool} [ht:Und P t (.map kt et)] [hk:Und P kt (.int kd)] [hz:ZerV P et z]
  (hx:ev E x=some (.map (some b))) (hy:ev E y=some (.int kd k)) (hm:(b,r,m.obj kd)∈H) (hg:m.get k=none):Rd P E H (.lookup t x y true) (.tuple #[z,.bool false]):=by
 have:=P7 (P:=P) (t:=t) (kt:=kt) (et:=et) (z:=z) hx hy hm
 rw [hg] at this
 exact this
theorem Aek {α:Type} [Mv α] {P:Program} {E:Env} {H:Hp} {t kt et:TypeId} {x y:Operand} {kd:IntKind} {b:Nat} {m:Mp α} {k:Int} {z:Value} {r:Bool} {v:α} [ht:Und P t (.map kt et)] [hk:Und P kt (.int kd)] [hz:ZerV P et z]
  (hx:ev E x=some (.map (some b))) (hy:ev E y=some (.int kd k)) (hm:(b,r,m.obj kd)∈H) (hg:m.get k=some v):Rd P E H (.lookup t x y true) (.tuple #[Mv.enc v,.bool true]):=by
 have:=P7 (P:=P) (t:=t) (kt:=kt) (et:=et) (z:=z) hx hy hm
 rw [hg] at this
 exact this
theorem W4 (k:Int) (e:Wd) (b:List By):(Ez k e b).length=9+b.length:=by
 unfold Ez
 simp [Bo]
 omega
theorem J2 {k:Int} {e:Wd} {b:List By} (h:Bt k b=true):Abt (Ez k e b)=true∧W1 (Ez k e b)=k∧Am5 (Ez k e b)=e∧(Ez k e b).drop 9=b∧C6 10 (Ez k e b)=false:=by
 unfold Bt at h
 simp only [Bool.and_eq_true,decide_eq_true_eq] at h
 obtain ⟨m,rfl,hm⟩:=Ev h.1
 have hl:=W4 (m:Int) e b
 have e1:(Ez (m:Int) e b).take 1=Co 1 (BitVec.ofInt 64 (m:Int)):=by
  unfold Ez
  exact List.take_left' (Bo ..)
 have e2:(Ez (m:Int) e b).drop 1=Co 8 e++(b++[]):=by
  unfold Ez
  exact List.drop_left' (Bo ..)
 refine ⟨?_,?_,?_,?_,?_⟩
 ·unfold Abt;rw [hl];simp;omega
 ·unfold W1;rw [e1,Abm hm]
 ·unfold Am5;rw [e2,List.take_left' (Bo ..),Jy]
 ·rw [show 9=1+8 from rfl,← List.drop_drop,e2,List.drop_left' (Bo ..),List.append_nil]
 ·unfold C6;rw [hl];simp;omega
abbrev Dy (T:TypeId):K.Blk:=(0,false,C [.int .i64 (-1),.int .i64 (-1)] T)
section
variable {n k:Nat} {q:Qt} {z:Sg}
theorem Ai5 {key:Int} (hg:z.S.idx.get key=none):Does Tryz.prog 19 [ptr z.S.st,.int .i64 key] ((z.S.st,true,C (stC z.S) tSt)::(z.S.ib,true,z.S.idx.obj .i64)::(z.S.pb,true,z.S.pend.obj .i64)::[])
  (Is (.tuple #[.agg (ndC ⟨0,0,.nil⟩).toArray,.int .i64 0,.int .i64 61]) ((z.S.st,true,C (stC z.S) tSt)::(z.S.ib,true,z.S.idx.obj .i64)::(z.S.pb,true,z.S.pend.obj .i64)::[])):=by
 refine Ah (n:=74) Tryz.func19 Tryz.ntmps19 rfl (Nat.le_of_ble_eq_true rfl)<|Ad<|Aa fun ops=> ?_
 refine Aw rfl fun b4=> ?_
 refine oA rfl<|oA rfl<|Ac<|n_K<|Ad<|Aa fun ops=>oM rfl<|oN rfl<|oF rfl ?_
 refine oR (Al rfl mM rfl) ?_
 refine oM rfl ?_
 refine oR (Ai4 rfl rfl mM hg) ?_
 refine oM rfl<|oE rfl rfl<|oE rfl rfl ?_
 refine Aw rfl fun b7=> ?_
 refine Af rfl rfl uD rfl rfl rfl ?_
 refine oA rfl<|Ac<|n_K<|Ad<|Ad<|Aa fun ops=>oM rfl<|oR (Bx rfl)<|Ac<|n_K ?_
 refine F1 rfl ?_
 refine Ad<|Aa fun ops=>oR (Bc rfl rfl) ?_
 refine Af rfl rfl uD rfl rfl rfl ?_
 refine oA rfl<|oA rfl<|Ac<|n_K<|An<|r_K ?_
 refine Aq (Kw Tryz.results19 (Bv rfl mM rfl) (Ag rfl) (Ag rfl)) ?_ sP
 rfl
theorem W5 (h:WI n k q z) {key:Int} {e:En} {bd:List By} (hg:z.S.idx.get key=some e) (hr:RecAt z e.at' (Cw 10 (Ez key e.ep bd))) (hok:Bt key bd=true):Does Tryz.prog 19 [ptr z.S.st,.int .i64 key] (Dy T::(z.S.st,true,C (stC z.S) tSt)::(z.S.ib,true,z.S.idx.obj .i64)::(z.S.pb,true,z.S.pend.obj .i64)::(lgH z.L++[]))
  (fun v H=>∃ s:Sl By,v= .tuple #[.agg (ndC ⟨key,e.ep,s⟩).toArray,.int .i64 0,.int .i64 0]∧H=s.hp tU8++(Dy T::(z.S.st,true,C (stC z.S) tSt)::(z.S.ib,true,z.S.idx.obj .i64)::(z.S.pb,true,z.S.pend.obj .i64)::(lgH z.L++[]))∧s.list=bd∧s.isOwn=true):=by
 obtain ⟨hn1,hn2,hn3,hn4,hn5⟩:=J2 (e:=e.ep) hok
 obtain ⟨at0,ep⟩:=e
 obtain ⟨b,j,rfl,hb,hp⟩:=hr
 obtain ⟨V,hZ⟩:=h.2
 have hpl:plB ((b:Int),((2+j:Nat):Int)) (-1,-1)=false:=by
  unfold plB
  simp
 refine Ah (n:=74) Tryz.func19 Tryz.ntmps19 rfl (Nat.le_of_ble_eq_true rfl)<|Ad<|Aa fun ops=> ?_
 refine Aw rfl fun b4=> ?_
 refine oA rfl<|oA rfl<|Ac<|n_K<|Ad<|Aa fun ops=>oM rfl<|oN rfl<|oF rfl ?_
 refine oR (Al rfl mM rfl) ?_
 refine oM rfl ?_
 refine oR (Aek rfl rfl mM hg) ?_
 refine oM rfl<|oE rfl rfl<|oE rfl rfl ?_
 refine Aw rfl fun b7=> ?_
 refine Af rfl rfl uD rfl rfl rfl ?_
 refine oA rfl<|Ac<|n_K<|Ad<|Ad<|Aa fun ops=>oM rfl<|oR (Bx rfl)<|Ac<|n_K ?_
 refine Bi rfl ?_
 refine Ai<|n_K<|Ad<|Ad<|Aa fun ops=>oF rfl ?_
 refine oR (Au rfl mM rfl) ?_
 refine oR (Au rfl mM rfl) ?_
 refine oR (show Rd _ _ _ _ (.bool false) from by (rw [← hpl];exact Lq rfl rfl (Uf ((b:Int),((2+j:Nat):Int)) (-1,-1)))) ?_
 refine Ac<|n_K ?_
 refine Bi rfl ?_
 refine Ai<|n_K<|Ad ?_
 refine s_draw [] [(6,[(0,false),(1,false),(2,false),(3,false),(4,false),(5,false)]),(7,[(6,true)]),(16,[(7,false),(8,false),(9,false),(10,false),(11,false),(12,false),(13,false),(14,false),(15,false)])] (by kernel_rfl) rfl fun ops w0 H0 y=> ?_
 refine A4<|xM rfl<|xN rfl<|xF rfl ?_
 refine xR (show Rd _ _ _ _ (ptr z.L.lg) from by rw [← h.1];exact Al rfl mM rfl) ?_
 refine xF rfl ?_
 refine xR (Au rfl mM rfl) ?_
 refine Am<|Bh<|Be ?_
 refine Bd rfl (Y2 hZ hb hp (by decide) hn5) sP rfl fun v38 Y38 h38=> ?_
 obtain ⟨s38,rfl,rfl,hs38,ho38⟩:=h38
 refine Ay aQ ?_
 refine Ac ⟨rfl,⟨_,sP⟩,?_⟩
 refine Am<|A4<|xM rfl<|xE rfl rfl<|xE rfl rfl<|xE rfl rfl<|xE rfl rfl<|xA rfl<|xA rfl<|xA rfl<|xA rfl<|Am<|Bm<|n_K ?_
 refine Ad<|Ad<|Aa fun ops=>oM rfl<|oR (Ae rfl rfl rfl)<|Ac<|n_K ?_
 refine Bi rfl ?_
 refine Ai<|n_K<|Ad<|Aa fun ops=>oM rfl ?_
 refine Bd rfl (Abu (s:=s38) (T:=tU8)) sP rfl fun v49 Y49 h49=> ?_
 rw [hs38] at h49
 obtain ⟨_,b49,rfl,rfl,hl49,ho49⟩:=h49.resolve_left (fun h9=>by rw [hn1] at h9;exact absurd h9.1 (by decide))
 rw [hn2,hn3]
 rw [hn4] at hl49
 refine Ay aQ ?_
 refine oM rfl<|oE rfl rfl<|oE rfl rfl ?_
 refine Aw rfl fun b13=> ?_
 refine Af rfl rfl uD rfl rfl rfl ?_
 refine oA rfl<|Ac<|n_K<|Ad<|Ad ?_
 refine Bf [(2,54),(6,58),(12,64)] rfl fun ops y=> ?_
 refine oM rfl<|oR (Ae rfl rfl rfl)<|oM rfl ?_
 refine' Es (j:=2) (k:=2) y rfl rfl rfl rfl rfl rfl rfl (fun hg54=> ?_) ?_
 rotate_left
 ·try (simp at hg54;show _)
  refine o_g y rfl rfl ?_
  refine oM rfl ?_
  refine o_g y rfl rfl ?_
  refine oR (Ae rfl rfl rfl) ?_
  exact Ac ⟨rfl,rfl,⟨_,sP⟩⟩
 refine oM rfl ?_
 refine' Es (j:=6) (k:=4) y rfl rfl rfl rfl rfl rfl rfl (fun hg58=> ?_) ?_
 rotate_left
 ·try (simp at hg58;show _)
  refine o_g y rfl rfl ?_
  refine oF rfl ?_
  refine o_g y rfl rfl ?_
  refine oR (Al rfl mM rfl) ?_
  refine o_g y rfl rfl ?_
  refine oM rfl ?_
  refine o_g y rfl rfl ?_
  refine oR (Ae rfl rfl rfl) ?_
  exact Ac ⟨rfl,rfl,⟨_,sP⟩⟩
 refine oM rfl ?_
 refine' Es (j:=12) (k:=5) y rfl rfl rfl rfl rfl rfl rfl (fun hg64=> ?_) ?_
 rotate_left
 ·try (simp at hg64;show _)
  refine o_g y rfl rfl ?_
  refine oF rfl ?_
  refine o_g y rfl rfl ?_
  refine oR (Al rfl mM rfl) ?_
  refine o_g y rfl rfl ?_
  refine oF rfl ?_
  refine o_g y rfl rfl ?_
  refine oR (Al rfl mM rfl) ?_
  refine o_g y rfl rfl ?_
  refine oR (Ae rfl rfl rfl) ?_
  exact Ac ⟨rfl,rfl,⟨_,sP⟩⟩
 refine Ac<|n_K ?_
 refine Aj rfl (fun c70=> ?_) (fun c70=> ?_)
 ·skip
  try (exfalso;(simp at c70);done)
  all_goals
   refine Ad<|Aa fun ops=>oR (Bc rfl rfl) ?_
   refine Af rfl rfl uD rfl rfl rfl ?_
   refine oA rfl<|oA rfl<|Ac<|n_K<|An<|r_K ?_
   exact Av (Kw Tryz.results19 (Bv rfl mM rfl) (Ag rfl) (Ag rfl)) (by exact ⟨b49,rfl,rfl,hl49,ho49⟩) sP
 ·skip
  refine Ai<|n_K<|Ad<|Aa fun ops=> ?_
  refine oR (Au rfl mM rfl) ?_
  refine oM rfl ?_
  refine Af rfl rfl uD rfl rfl rfl ?_
  refine oA rfl<|oA rfl<|Ac<|n_K<|An ?_
  exact Av (Kw Tryz.results19 (Bv rfl mM rfl) (Ag rfl) (Ag rfl)) (by exact ⟨b49,rfl,rfl,hl49,ho49⟩) sP
end
end
section
open Go.K
instance und103:Und Tryz.prog 103 (.slice 40):=⟨Tryz.underlying103⟩
instance ent57:Ent Tryz.prog 57:=⟨fun _ _=>by kernel_rfl⟩
set_option maxRecDepth 20000
set_option maxHeartbeats 1000000
@[irreducible] def Iw (l:List Nd):Hp:=l.flatMap fun x=>x.body.hp tU8
theorem Anu {l:List Nd} {i:Nat} {x:Nd} (h:l[i]? =some x) (D:Hp):Iw l++D=Iw (l.take i)++(x.body.hp tU8++(Iw (l.drop (i+1))++D)):=by
 obtain ⟨h1,h2⟩:=List.getElem?_eq_some_iff.1 h
 have e:l=l.take i++x::l.drop (i+1):=by
  conv=>lhs;rw [← List.take_append_drop i l,List.drop_eq_getElem_cons h1,h2]
 unfold Iw
 conv=>lhs;rw [e]
 simp
abbrev N3:=Int×Wd×List By
def nd3 (x:Nd):N3:=(x.key,x.ep,x.body.list)
def wr1 (z:Sg) (k:Int) (e:Wd):Sg:={ z with S:={ z.S with stray:=z.S.stray.put k 1,seen:=I3 z.S.seen e } }
def wr2 (z:Sg) (k:Int) (e:Wd) (y:Pl2):Sg:={ z with S:={ z.S with pend:=z.S.pend.put k ⟨y,e⟩ } }
inductive WrR (n:Nat) (q:Qt):List N3→Sg→Int→Sg→Prop
 | nil {z:Sg}:WrR n q [] z 0 z
 | stop {k:Int} {e:Wd} {b:List By} {xs:List N3} {z z1:Sg} {er:Int} {y:Pl2}:Bt k b=true→PutG n q (wr1 z k e) (Cw 10 (Ez k e b)) er y z1→er≠0→WrR n q ((k,e,b)::xs) z er z1
 | go {k:Int} {e:Wd} {b:List By} {xs:List N3} {z z1 z':Sg} {er:Int} {y:Pl2}:Bt k b=true→PutG n q (wr1 z k e) (Cw 10 (Ez k e b)) 0 y z1→WrR n q xs (wr2 z1 k e y) er z'→WrR n q ((k,e,b)::xs) z er z'
theorem WrR.app {n:Nat} {q:Qt} {xs ys:List N3} {z z1 z':Sg} {e0 e:Int} (h:WrR n q xs z e0 z1) (h0:e0=0) (h2:WrR n q ys z1 e z'):WrR n q (xs++ys) z e z':=by
 induction h with
 | nil=>exact h2
 | stop _ _ h3=>exact absurd h0 h3
 | go a b _ ih=>exact .go a b (ih h0 h2)
section
variable {n k:Nat} {q:Qt} {z:Sg}
theorem Ai6 (h:WI n k q z) {nds:Sl Nd} (hln:nds.list.length≤300) (hk:k≤299000000000) (hq:q.n≤3)
  (hS:∀ i z1 x,WrR n q ((nds.list.take i).map nd3) z 0 z1→nds.list[i]? =some x→Bt x.key x.body.list=true→Y3 n q (wr1 z1 x.key x.ep)) (hok:∀ x∈nds.list,Bt x.key x.body.list=true) :
  Does Tryz.prog 57 [ptr z.S.st,nds.val] ((z.S.st,true,C (stC z.S) tSt)::(z.S.ib,true,z.S.idx.obj .i64)::(z.S.pb,true,z.S.pend.obj .i64)::(z.S.sb,true,z.S.stray.obj .i64)::(lgH z.L++(nds.hp tNd++(Iw nds.list++[]))))
  (fun v H=>∃ (e:Int) (z':Sg),v= .int .i64 e∧H=(z'.S.st,true,C (stC z'.S) tSt)::(z'.S.ib,true,z'.S.idx.obj .i64)::(z'.S.pb,true,z'.S.pend.obj .i64)::(z'.S.sb,true,z'.S.stray.obj .i64)::(lgH z'.L++[])∧z'.S.st=z.S.st∧WrR n q (nds.list.map nd3) z e z'∧(e≠30→WI n (k+320080*nds.list.length) q z')):=by
 have hsm:=nds.small
 refine Ah (n:=61) Tryz.func57 Tryz.ntmps57 rfl (Nat.le_of_ble_eq_true rfl)<|Ad<|Aa fun ops=>oA rfl<|Ac<|n_K<|Ad<|Ad<|Aa fun ops=>oM rfl<|oR (A7 rfl)<|oM rfl<|Ac<|n_K ?_
 refine Ak ?_
 refine A8 [0,10,11] kQ (fun (st:Nat×Sg)=>[(12,.int .i64 st.1)]) (fun (st:Nat×Sg)=>(st.2.S.st,true,C (stC st.2.S) tSt)::(st.2.S.ib,true,st.2.S.idx.obj .i64)::(st.2.S.pb,true,st.2.S.pend.obj .i64)::(st.2.S.sb,true,st.2.S.stray.obj .i64)::(lgH st.2.L++(nds.hp tNd++(Iw nds.list++[])))) (fun (st:Nat×Sg)=>st.1≤nds.list.length∧WI n (k+320080*st.1) q st.2∧st.2.S.st=z.S.st∧WrR n q ((nds.list.take st.1).map nd3) z 0 st.2) (fun (st:Nat×Sg)=>nds.list.length - st.1) ((0,z)) ⟨Nat.zero_le _,h.mono (by omega),rfl,.nil⟩ kP sP ?_
 rintro ⟨i,z1⟩ ⟨g0,g1,g2,g3⟩
 simp only at g0 g1 g2 g3
 rw [← g2]
 refine Ad<|Aa fun ops=>oR (Ae rfl rfl rfl)<|Ac<|n_K<|Ad ?_
 refine Aj rfl (fun c13=> ?_) (fun c13=> ?_)
 ·simp only [decide_eq_true_eq,decide_eq_false_iff_not] at c13
  obtain ⟨x,hgx⟩:∃ x,nds.list[i]? =some x:=⟨_,List.getElem?_eq_getElem (by omega)⟩
  have htk:(nds.list.take (i+1)).map nd3=(nds.list.take i).map nd3++[nd3 x]:=(by rw [List.take_add_one,hgx,List.map_append];rfl)
  have hall:∀ e z',WrR n q [nd3 x] z1 e z'→e≠0→WrR n q (nds.list.map nd3) z e z':=(fun e z' h1 h2=>by have h3:nds.list.map nd3=(nds.list.take i).map nd3++nd3 x::(nds.list.drop (i+1)).map nd3:=(by obtain ⟨h7,h8⟩:=List.getElem?_eq_some_iff.1 hgx;conv=>lhs;rw [← List.take_append_drop i nds.list,List.drop_eq_getElem_cons h7,h8];rw [List.map_append,List.map_cons]);rw [h3];refine g3.app rfl ?_;cases h1 with | stop a b c=>exact .stop a b c | go a b c=>(cases c;exact absurd rfl h2))
  refine Ai<|n_K<|Ad<|Ak<|Ad<|Aa fun ops=> ?_
  refine oR (Bk (s:=nds) rfl rfl (by omega)) ?_
  refine oR (Do (s:=nds) (o:=0) rfl pL hgx rfl rfl) ?_
  refine Aw rfl fun b6=> ?_
  refine Af rfl rfl uD rfl rfl rfl ?_
  refine Ac<|n_K<|Ad<|Aa fun ops=> ?_
  refine oR (Au rfl mM rfl) ?_
  rw [Anu hgx]
  have hox:=hok x (List.mem_of_getElem? hgx)
  refine Bd rfl (W0 (n:=x)) sP rfl fun v18 Y18 h18=> ?_
  obtain ⟨_,s18,rfl,rfl,hs18,ho18⟩:=h18.resolve_left (fun h9=>by rw [hox] at h9;exact absurd h9.1 (by decide))
  refine Ay aQ ?_
  refine oM rfl<|oE rfl rfl<|oE rfl rfl<|oA rfl<|oA rfl<|Ac<|n_K<|Ad<|Ad<|Aa fun ops=>oM rfl<|oR (Ae rfl rfl rfl)<|Ac<|n_K ?_
  refine Bi rfl ?_
  refine Ai<|n_K<|Ad ?_
  refine s_draw [] [(6,[(0,false),(1,false),(2,false),(3,false),(4,false),(5,false)]),(7,[(6,true)])] (by kernel_rfl) rfl fun ops w0 H0 y=> ?_
  refine A4<|xM rfl<|xN rfl<|xF rfl ?_
  refine xR (Al rfl mM rfl) ?_
  refine xF rfl ?_
  refine xR (Al rfl mM rfl) ?_
  refine Am<|Bh<|Be ?_
  refine V4 (m:=z1.S.stray) (v:=(1:Int)) (kd:= .i64) rfl rfl rfl uD ?_
  refine Ac ⟨rfl,⟨_,sP⟩,?_⟩
  refine Am<|Bm<|n_K<|Ad ?_
  refine s_draw [] [(10,[(0,false),(1,false),(2,false),(3,false),(4,false),(5,false),(6,false),(7,false),(8,false),(9,false)]),(11,[(10,true)])] (by kernel_rfl) rfl fun ops w0 H0 y=> ?_
  refine A4<|xM rfl<|xM rfl<|xN rfl<|xF rfl ?_
  refine xR (show Rd _ _ _ _ (wv z1.S.seen) from Al rfl mM (Iv (S:=z1.S) (o:=8) rfl)) ?_
  refine xF rfl ?_
  refine xR (Al rfl mM rfl) ?_
  refine xR (Ny rfl rfl)<|xN rfl<|xF rfl<|Am<|Bh<|Be ?_
  refine Af (cs':=stC (wr1 z1 x.key x.ep).S) rfl rfl uD rfl rfl (Ds (S:=z1.S) rfl rfl) ?_
  refine Ac ⟨rfl,⟨_,sP⟩,?_⟩
  refine Am<|Bm<|n_K<|Ad<|Aa fun ops=>oM rfl<|oM rfl ?_
  refine A5 rfl rfl rfl rfl fun b43=> ?_
  refine Bd rfl (Agk (z:=wr1 z1 x.key x.ep) (k:=k+320080*i) ⟨g1.1,g1.2⟩ (by omega) hq (hS i z1 x g3 hgx hox) (kind:=10) (s:=s18) (b:=b43) (by rw [hs18,W4];unfold Bt at hox;simp at hox;omega) (by decide) (by rw [hs18];exact (J2 hox).2.2.2.2)) sP rfl fun v44 Y44 h44=> ?_
  obtain ⟨e2,y2,z2,rfl,rfl,hst2,hP,hW2⟩:=h44
  rw [hs18] at hP
  have hst2':z2.S.st=z1.S.st:=hst2
  have hsb:z2.S.sb=z1.S.sb:=hP.same.sb
  have hstr:z2.S.stray=z1.S.stray.put x.key 1:=hP.same.stray
  rw [← hsb,← hstr]
  refine Ay aQ ?_
  refine oM rfl<|oE rfl rfl<|oE rfl rfl ?_
  refine Aw rfl fun b9=> ?_
  refine Af rfl rfl uD rfl rfl rfl ?_
  refine oA rfl<|Ac<|n_K<|Ad<|Ad<|Aa fun ops=>oM rfl<|oR (Ae rfl rfl rfl)<|Ac<|n_K ?_
  refine Aj rfl (fun c48=> ?_) (fun c48=> ?_)
  ·skip
   have he:e2≠0:=(by simpa using c48)
   refine Ad<|Aa fun ops=>oM rfl<|oA rfl<|Ac<|n_K<|An<|r_K<|Bn<|r_K<|r_K<|Bn<|r_K ?_
   exact Av (At Tryz.results57 (Ag rfl)) (by exact ⟨e2,z2,rfl,rfl,hst2',hall _ _ (.stop hox hP he) he,fun h9=>(hW2 h9).mono (by omega)⟩) sP
  ·skip
   have he:e2=0:=(by simpa using c48)
   subst he
   rw [← hst2']
   refine Ai<|n_K ?_
   refine s_draw [] [(10,[(0,false),(1,false),(2,false),(3,false),(4,false),(5,false),(6,false),(7,false),(8,false),(9,false)]),(11,[(10,true)])] (by kernel_rfl) rfl fun ops w0 H0 y=> ?_
   refine A4<|xM rfl<|xN rfl<|xF rfl ?_
   refine xR (Al rfl mM rfl) ?_
   refine xF rfl ?_
   refine xR (Al rfl mM rfl) ?_
   refine xR (Au rfl mM rfl) ?_
   refine xF rfl ?_
   refine xR (Al rfl mM rfl) ?_
   refine xR (Bc rfl rfl)<|Am<|Bh<|Be ?_
   refine V4 (m:=z2.S.pend) (v:=(⟨y2,x.ep⟩:En)) (kd:= .i64) rfl rfl rfl uD ?_
   refine Ac ⟨rfl,⟨_,sP⟩,?_⟩
   refine Am<|Bm<|Az<|n_K<|Aa fun ops=> ?_
   refine oR (Ao rfl rfl (by omega)) ?_
   refine oM rfl<|Ac<|n_K ?_
   exact ⟨(i+1,wr2 z2 x.key x.ep y2),⟨by simp only;omega,⟨(hW2 (by decide)).1,((hW2 (by decide)).mono (by omega)).2⟩,rfl,by simp only;rw [htk];exact g3.app rfl (.go hox hP .nil)⟩,by simp only;omega,lZ⟩
 ·simp only [decide_eq_true_eq,decide_eq_false_iff_not] at c13
  have hi:i=nds.list.length:=(by omega)
  subst hi
  rw [List.take_length] at g3
  refine Bb<|x_K<|x_K<|Bj<|n_K<|Ad<|Aa fun ops=>oA rfl<|Ac<|n_K<|An ?_
  exact Av (At Tryz.results57 (Ag rfl)) (by exact ⟨0,z1,rfl,rfl,rfl,g3,fun _=>g1⟩) sP
end
end
section
open Go.K
instance zer31:Zer Tryz.prog 31 ([.int .u64 0,.int .i64 0,.int .u64 0]):=⟨by kernel_rfl⟩
instance fld67_6:Fld Tryz.prog 67 6 40:=⟨⟨_,_,2,Tryz.underlying67,rfl,by kernel_rfl,rfl⟩⟩
instance ent20:Ent Tryz.prog 20:=⟨fun _ _=>by kernel_rfl⟩
instance ent22:Ent Tryz.prog 22:=⟨fun _ _=>by kernel_rfl⟩
instance ent25:Ent Tryz.prog 25:=⟨fun _ _=>by kernel_rfl⟩
instance ent27:Ent Tryz.prog 27:=⟨fun _ _=>by kernel_rfl⟩
instance ent28:Ent Tryz.prog 28:=⟨fun _ _=>by kernel_rfl⟩
set_option maxRecDepth 20000
set_option maxHeartbeats 1000000
def vwM (v:Vw):Vw:={ v with mem:=Er .and .i64 v.mem 255 }
theorem W6 (v:Vw):(My v).length=17:=by
 unfold My
 simp [Bo]
section
variable {n k:Nat} {q:Qt} {z:Sg} {S:Sto}
theorem O9:Does Tryz.prog 22 [ptr S.st] [(S.st,true,C (stC S) tSt)] (Is (wv S.last.ep) [(S.st,true,C (stC S) tSt)]):=by
 refine Ah (n:=8) Tryz.func22 Tryz.ntmps22 rfl (Nat.le_of_ble_eq_true rfl)<|Ad<|Aa fun ops=>oA rfl<|Ac<|n_K<|Ad<|Aa fun ops=>oM rfl<|oN rfl<|oF rfl<|oF rfl ?_
 refine oR (Al rfl mM rfl) ?_
 refine oA rfl<|Ac<|n_K<|An ?_
 refine Aq (At Tryz.results22 (Ag rfl)) ?_ sP
 rfl
theorem Agm:Does Tryz.prog 20 [ptr S.st] [(S.st,true,C (stC S) tSt)] (Is (wv S.seen) [(S.st,true,C (stC S) tSt)]):=by
 refine Ah (n:=7) Tryz.func20 Tryz.ntmps20 rfl (Nat.le_of_ble_eq_true rfl)<|Ad<|Aa fun ops=>oA rfl<|Ac<|n_K<|Ad<|Aa fun ops=>oM rfl<|oN rfl<|oF rfl ?_
 refine oR (show Rd _ _ _ _ (wv S.seen) from Al rfl mM (Iv (S:=S) (o:=8) rfl)) ?_
 refine oA rfl<|Ac<|n_K<|An ?_
 refine Aq (At Tryz.results20 (Ag rfl)) ?_ sP
 rfl
theorem Anv:Does Tryz.prog 27 [ptr S.st] [(S.st,true,C (stC S) tSt)] (Is (.bool (!S.hurt)) [(S.st,true,C (stC S) tSt)]):=by
 refine Ah (n:=8) Tryz.func27 Tryz.ntmps27 rfl (Nat.le_of_ble_eq_true rfl)<|Ad<|Aa fun ops=>oA rfl<|Ac<|n_K<|Ad<|Aa fun ops=>oM rfl<|oN rfl<|oF rfl ?_
 refine oR (Al rfl mM (Iv rfl)) ?_
 refine oR (Bx rfl)<|oA rfl<|Ac<|n_K<|An ?_
 refine Aq (At Tryz.results27 (Ag rfl)) ?_ sP
 rfl
theorem Ab4:Does Tryz.prog 28 [ptr S.st] [(S.st,true,C (stC S) tSt)] (Is (.agg (vbc S.last.lv).toArray) [(S.st,true,C (stC S) tSt)]):=by
 refine Ah (n:=8) Tryz.func28 Tryz.ntmps28 rfl (Nat.le_of_ble_eq_true rfl)<|Ad<|Aa fun ops=> ?_
 refine Aw rfl fun b2=> ?_
 refine Ac<|n_K<|Ad<|Aa fun ops=>oM rfl<|oN rfl<|oF rfl<|oF rfl ?_
 refine oR (Au rfl mM (Agb S)) ?_
 first | refine Af rfl rfl uD (Ct) (Ar) (B2 (by first | exact Ar | exact List.length_replicate ..)) ?_ | refine Af rfl rfl uD rfl rfl rfl ?_
 refine Ac<|n_K<|An ?_
 refine Aq (At Tryz.results28 (Bv rfl mM (by first | exact Bg | rfl))) ?_ sP
 rfl
theorem Ab5 (h:WI n k q z):Does Tryz.prog 25 [ptr z.S.st] ((z.S.st,true,C (stC z.S) tSt)::(lgH z.L++[])) (Is (.int .i64 (Hy z.L.nb)) ((z.S.st,true,C (stC z.S) tSt)::(lgH z.L++[]))):=by
 have hul:=h.2.choose_spec.ulen
 refine Ah (n:=12) Tryz.func25 Tryz.ntmps25 rfl (Nat.le_of_ble_eq_true rfl)<|Ad<|Aa fun ops=>oA rfl<|Ac<|n_K<|Ad<|Aa fun ops=>oM rfl<|oN rfl<|oF rfl ?_
 refine oR (show Rd _ _ _ _ (ptr z.L.lg) from by rw [← h.1];exact Al rfl mM rfl) ?_
 refine oN rfl<|oF rfl ?_
 refine oR (Qn rfl pL) ?_
 refine A6 rfl ((Anm (L:=z.L)).to (by rw [hul]) rfl) sP rfl aQ ?_
 refine A6 rfl (Anc) sP rfl aQ ?_
 refine oA rfl<|Ac<|n_K<|An ?_
 refine Aq (At Tryz.results25 (Ag rfl)) ?_ sP
 rfl
end
end
section
open Go.K
instance ent136:Ent Tryz.prog 136:=⟨fun _ _=>by kernel_rfl⟩
instance ent137:Ent Tryz.prog 137:=⟨fun _ _=>by kernel_rfl⟩
set_option maxRecDepth 20000
set_option maxHeartbeats 1000000
abbrev tIS:TypeId:=85
abbrev tMI:TypeId:=63
abbrev tMJ:TypeId:=62
structure KII (m:Mp Int) (b2:Nat) (seen:List Nat) (X:Hp):Prop where
 ex:∃ (out:Sl Int) (es:List (Me Int)),X=(b2,true,C [out.val] tIS)::(out.hp tI++[])∧out.isOwn=true∧es.map (·.n)=seen∧out.list=es.map (·.k)∧∀ e∈es,e∈m.es
 nd:seen.Nodup
 le:seen.length+Hw m seen≤m.es.length
theorem Anw {I:List Nat→Hp→Prop} {l f0 D:Nat} {tm:Array Value} {ps:Array Tmp} {sg bd:Code} {X0:Hp} {bp bm:Nat} {m:Mp Int} (hps:ps.size=1) (h0:I [] X0)
  (hrnd:∀ seen X (e:Me Int),e∈m.es→e.n∉seen→I seen X→Rnd Tryz.prog l f0 (F9 ⟨.ready,none,f0,tm,ps,sg,bd,D⟩ [.int .i64 e.k]) sg bd ((l,true,.loop ⟨.ready,none,f0,tm,ps,sg,bd,D⟩)::(bp,true,C [.map (some bm)] tMI)::(bm,true,m.obj .i64)::(X++[]))
   (fun v Y=>v= .bool true∧∃ X',Y=(l,true,.loop ⟨.ready,none,f0,tm,ps,sg,bd,D⟩)::(bp,true,C [.map (some bm)] tMI)::(bm,true,m.obj .i64)::(X'++[])∧I (seen++[e.n]) X')) :
  Does Tryz.prog 136 [.func (.yield l) #[] #[],ptr bp] ((l,true,.loop ⟨.ready,none,f0,tm,ps,sg,bd,D⟩)::(bp,true,C [.map (some bm)] tMI)::(bm,true,m.obj .i64)::(X0++[]))
   (fun v Y=>v= .tuple #[]∧∃ X seen,Y=(l,true,.loop ⟨.ready,none,f0,tm,ps,sg,bd,D⟩)::(bp,true,C [.map (some bm)] tMI)::(bm,true,m.obj .i64)::(X++[])∧I seen X∧∀ e∈m.es,e.n∈seen):=by
 refine Ah (n:=14) Tryz.func136 Tryz.ntmps136 rfl (Nat.le_of_ble_eq_true rfl)<|Ad<|Aa fun ops=> ?_
 refine oR (Al rfl mM rfl) ?_
 refine Ip (m:=m) (kd:= .i64) rfl mM rfl fun it5=> ?_
 refine Ac<|n_K<|Ak ?_
 refine A8 [0,5] kQ (fun (st:List Nat×Hp)=>[]) (fun (st:List Nat×Hp)=>(it5,true,itO bm m.cl st.1 m.cl)::(l,true,.loop ⟨.ready,none,f0,tm,ps,sg,bd,D⟩)::(bp,true,C [.map (some bm)] tMI)::(bm,true,m.obj .i64)::(st.2++[])) (fun (st:List Nat×Hp)=>I st.1 st.2) (fun (st:List Nat×Hp)=>Hw m st.1) (([],X0)) h0 kP sP ?_
 rintro ⟨seen,X⟩ gI
 simp only at gI
 refine Ad<|Aa fun ops=> ?_
 refine Ki rfl (by repeat (first | exact Pick.here | apply Pick.there | apply Pick.app)) mM (Mp.wc _) (Nat.le_refl _) rfl (fun hl6=> ?_) (fun e6 he6 hn6=> ?_)
 ·refine oE rfl rfl<|Ac<|n_K<|Ad ?_
  refine Bi rfl ?_
  refine Bb<|x_K<|x_K<|Bj ?_
  exact H5 (Ml Tryz.results136) (by exact ⟨rfl,X,seen,rfl,gI,Ib hl6⟩) sP
 ·refine oE rfl rfl<|Ac<|n_K<|Ad ?_
  refine F1 rfl ?_
  refine Ai<|n_K<|Ak<|Ad<|Aa fun ops=> ?_
  refine oR (Iq rfl mM mM he6) ?_
  refine oE rfl rfl<|oA rfl<|Ac<|n_K<|Ad ?_
  refine P5 [] rfl (fun ops y=>Lm 2 ?_)
  refine oM rfl<|oM rfl<|Ac ⟨rfl,?_⟩
  refine X2 (r:=⟨.ready,none,f0,tm,ps,sg,bd,D⟩) y rfl rfl rfl (by simp [hps]) sP (hrnd seen X e6 he6 hn6 gI) rfl ?_
  rintro v L' ⟨rfl,X',rfl,gI'⟩
  simp only [List.cons_append,List.append_assoc,List.nil_append]
  refine Lm 1 ?_
  refine oR (Bx rfl)<|Ac ⟨rfl,Afg<|n_K ?_⟩
  refine Bi rfl<|Ai<|Az<|n_K ?_
  exact ⟨(seen++[e6.n],X'),gI',Da he6 hn6,lZ⟩
structure KIJ (m:Mp En) (b2:Nat) (seen:List Nat) (X:Hp):Prop where
 ex:∃ (out:Sl Int) (es:List (Me En)),X=(b2,true,C [out.val] tIS)::(out.hp tI++[])∧out.isOwn=true∧es.map (·.n)=seen∧out.list=es.map (·.k)∧∀ e∈es,e∈m.es
 nd:seen.Nodup
 le:seen.length+Hw m seen≤m.es.length
theorem Anx {I:List Nat→Hp→Prop} {l f0 D:Nat} {tm:Array Value} {ps:Array Tmp} {sg bd:Code} {X0:Hp} {bp bm:Nat} {m:Mp En} (hps:ps.size=1) (h0:I [] X0)
  (hrnd:∀ seen X (e:Me En),e∈m.es→e.n∉seen→I seen X→Rnd Tryz.prog l f0 (F9 ⟨.ready,none,f0,tm,ps,sg,bd,D⟩ [.int .i64 e.k]) sg bd ((l,true,.loop ⟨.ready,none,f0,tm,ps,sg,bd,D⟩)::(bp,true,C [.map (some bm)] tMJ)::(bm,true,m.obj .i64)::(X++[]))
   (fun v Y=>v= .bool true∧∃ X',Y=(l,true,.loop ⟨.ready,none,f0,tm,ps,sg,bd,D⟩)::(bp,true,C [.map (some bm)] tMJ)::(bm,true,m.obj .i64)::(X'++[])∧I (seen++[e.n]) X')) :
  Does Tryz.prog 137 [.func (.yield l) #[] #[],ptr bp] ((l,true,.loop ⟨.ready,none,f0,tm,ps,sg,bd,D⟩)::(bp,true,C [.map (some bm)] tMJ)::(bm,true,m.obj .i64)::(X0++[]))
   (fun v Y=>v= .tuple #[]∧∃ X seen,Y=(l,true,.loop ⟨.ready,none,f0,tm,ps,sg,bd,D⟩)::(bp,true,C [.map (some bm)] tMJ)::(bm,true,m.obj .i64)::(X++[])∧I seen X∧∀ e∈m.es,e.n∈seen):=by
 refine Ah (n:=14) Tryz.func137 Tryz.ntmps137 rfl (Nat.le_of_ble_eq_true rfl)<|Ad<|Aa fun ops=> ?_
 refine oR (Al rfl mM rfl) ?_
 refine Ip (m:=m) (kd:= .i64) rfl mM rfl fun it5=> ?_
 refine Ac<|n_K<|Ak ?_
 refine A8 [0,5] kQ (fun (st:List Nat×Hp)=>[]) (fun (st:List Nat×Hp)=>(it5,true,itO bm m.cl st.1 m.cl)::(l,true,.loop ⟨.ready,none,f0,tm,ps,sg,bd,D⟩)::(bp,true,C [.map (some bm)] tMJ)::(bm,true,m.obj .i64)::(st.2++[])) (fun (st:List Nat×Hp)=>I st.1 st.2) (fun (st:List Nat×Hp)=>Hw m st.1) (([],X0)) h0 kP sP ?_
 rintro ⟨seen,X⟩ gI
 simp only at gI
 refine Ad<|Aa fun ops=> ?_
 refine Ki rfl (by repeat (first | exact Pick.here | apply Pick.there | apply Pick.app)) mM (Mp.wc _) (Nat.le_refl _) rfl (fun hl6=> ?_) (fun e6 he6 hn6=> ?_)
 ·refine oE rfl rfl<|Ac<|n_K<|Ad ?_
  refine Bi rfl ?_
  refine Bb<|x_K<|x_K<|Bj ?_
  exact H5 (Ml Tryz.results137) (by exact ⟨rfl,X,seen,rfl,gI,Ib hl6⟩) sP
 ·refine oE rfl rfl<|Ac<|n_K<|Ad ?_
  refine F1 rfl ?_
  refine Ai<|n_K<|Ak<|Ad<|Aa fun ops=> ?_
  refine oR (Iq rfl mM mM he6) ?_
  refine oE rfl rfl<|oA rfl<|Ac<|n_K<|Ad ?_
  refine P5 [] rfl (fun ops y=>Lm 2 ?_)
  refine oM rfl<|oM rfl<|Ac ⟨rfl,?_⟩
  refine X2 (r:=⟨.ready,none,f0,tm,ps,sg,bd,D⟩) y rfl rfl rfl (by simp [hps]) sP (hrnd seen X e6 he6 hn6 gI) rfl ?_
  rintro v L' ⟨rfl,X',rfl,gI'⟩
  simp only [List.cons_append,List.append_assoc,List.nil_append]
  refine Lm 1 ?_
  refine oR (Bx rfl)<|Ac ⟨rfl,Afg<|n_K ?_⟩
  refine Bi rfl<|Ai<|Az<|n_K ?_
  exact ⟨(seen++[e6.n],X'),gI',Da he6 hn6,lZ⟩
end
section
open Go.K
instance ent183:Ent Tryz.prog 183:=⟨fun _ _=>by kernel_rfl⟩
set_option maxRecDepth 20000
set_option maxHeartbeats 1000000
theorem W7 {α:Type} (m:Mp α):0+Hw m []≤m.es.length:=by
 unfold Hw
 have:=List.length_filter_le (fun i=> !decide (i∈([]:List Nat))) (m.es.map (·.n))
 rw [List.length_map] at this
 omega
theorem W8 {α:Type} {m:Mp α} {es:List (Me α)} {seen:List Nat} (h1:es.map (·.n)=seen) (hnd:seen.Nodup) (h3:∀ e∈es,e∈m.es) (hall:∀ e∈m.es,e.n∈seen):es.Perm m.es:=by
 subst h1
 have hn1:es.Nodup:=by
  refine List.Pairwise.imp (fun h e=>h (congrArg _ e)) (List.pairwise_map.1 hnd)
 have hn2:m.es.Nodup:=by
  refine List.Pairwise.imp (fun h e=>h (congrArg _ e)) (List.pairwise_map.1 m.wn)
 refine (List.perm_ext_iff_of_nodup hn1 hn2).2 fun x=>⟨fun h=>h3 x h,fun h=> ?_⟩
 obtain ⟨y,hy,e⟩:=List.mem_map.1 (hall x h)
 rw [← Mp.n_inj (h3 y hy) h e]
 exact hy
theorem Arw {bp bm:Nat} {m:Mp Int} (hm:m.es.length≤1000):Does Tryz.prog 183 [.slice none 0 0,.func (.func 136) #[] #[ptr bp]] ((bp,true,C [.map (some bm)] tMI)::(bm,true,m.obj .i64)::[])
  (fun v H=>∃ s:Sl Int,v=s.val∧H=s.hp tI++((bp,true,C [.map (some bm)] tMI)::(bm,true,m.obj .i64)::[])∧s.isOwn=true∧s.list.Perm m.keys):=by
 refine P6 (n:=13) Tryz.func183 Tryz.ntmps183 rfl (Nat.le_of_ble_eq_true rfl) ?_
 refine Alb ?_
 refine Aa fun ops=> ?_
 refine De rfl rfl fun b2=> ?_
 refine oA rfl<|Ac ?_
 refine ⟨rfl,?_⟩
 refine Adb ?_
 refine Aa fun ops=>oM rfl<|Ac ?_
 refine ⟨rfl,?_⟩
 refine Aas (fi:=[]) (ca:=[ptr bp]) (L:=(bp,true,C [.map (some bm)] tMI)::(bm,true,m.obj .i64)::(b2,true,C [(Sl.nil:Sl Int).val] tIS)::[]) (F:=[]) (R1:=fun M=>∃ X seen,M=(bp,true,C [.map (some bm)] tMI)::(bm,true,m.obj .i64)::(X++[])∧KII m b2 seen X∧∀ e∈m.es,e.n∈seen) rfl sP ?_ ?_
 ·intro D l f0 tm ht hsz
  refine (Anw (m:=m) (bm:=bm) (bp:=bp) (I:=KII m b2) (X0:=(b2,true,C [(Sl.nil:Sl Int).val] tIS)::[]) rfl ⟨⟨.nil,[],by rw [Sl.hp_nil];rfl,rfl,rfl,rfl,fun e he=>nomatch he⟩,List.nodup_nil,by show 0+Hw m []≤_;exact W7 m⟩ ?_).mono ?_
  rotate_left
  ·rintro v Y ⟨rfl,X,seen,rfl,hX,hall⟩
   exact ⟨_,_,rfl,(fun e=>nomatch e),X,seen,rfl,hX,hall⟩
  rintro seen X e he hne ⟨⟨out,es,rfl,ho,h1,h2,h3⟩,hnd,hle⟩
  have hlt:=Da he hne
  have hol:out.list.length≤1000:=(by rw [h2,List.length_map];have:es.length=seen.length:=(by rw [← h1,List.length_map]);omega)
  rw [show ((b2,true,C [out.val] tIS)::(out.hp tI++[])++[]:Hp)=(b2,true,C [out.val] tIS)::(out.hp tI++[]) by simp]
  refine Tj (n:=13) [(7,.int .i64 e.k),(2,ptr b2)] (by rw [show F9 _ _=tm.setIfInBounds 7 (.int .i64 e.k) from by simp [F9]];exact EnvOk.put (a:=⟨tm,[]⟩) (d:=7) (v:= .int .i64 e.k) ((Keep.cons rfl .nil).ok ht) (by rw [hsz];decide)) (by simp [F9,hsz]) rfl fun rg=> ?_
  refine Aa fun ops=>oA rfl<|Ac ?_
  refine ⟨rfl,_,rfl,?_⟩
  refine Ak<|Aa fun ops=> ?_
  refine oR (Al rfl mM rfl) ?_
  refine oM rfl ?_
  refine A5 rfl rfl rfl rfl fun b10=> ?_
  refine Bp (s:=out) (new:=[e.k]) (m:=1) rfl rfl pL ho (Cv (r:=true) mM rfl) rfl rfl rfl rfl (by omega) rfl fun out' hs1 hs2=> ?_
  refine Af rfl rfl uD rfl rfl rfl ?_
  refine Ac<|Az ?_
  refine ⟨rfl,(bp,true,C [.map (some bm)] tMI)::(bm,true,m.obj .i64)::((b2,true,C [out'.val] tIS)::(out'.hp tI++[])++[]),_,by rw [show ((b2,true,C [out'.val] tIS)::(out'.hp tI++[])++[]:Hp)=(b2,true,C [out'.val] tIS)::(out'.hp tI++[]) by simp];exact sP,rfl,(b2,true,C [out'.val] tIS)::(out'.hp tI++[]),rfl,⟨out',es++[e],rfl,hs2,by rw [List.map_append,h1];rfl,by rw [hs1,h2,List.map_append];rfl,?_⟩,?_,?_⟩
  ·intro x hx
   rcases List.mem_append.1 hx with hx | hx
   ·exact h3 x hx
   ·rw [List.mem_singleton.1 hx];exact he
  ·exact List.nodup_append.2 ⟨hnd,by simp,fun a ha b hb e2=>hne (by rw [List.mem_singleton.1 hb] at e2;rw [← e2];exact ha)⟩
  ·rw [List.length_append,List.length_singleton];omega
 ·rintro rg D M ⟨X,seen,rfl,⟨⟨out,es,rfl,ho,h1,h2,h3⟩,hnd,hle⟩,hall⟩
  rw [show (Go.K.mark D::(((bp,true,C [.map (some bm)] tMI)::(bm,true,m.obj .i64)::((b2,true,C [out.val] tIS)::(out.hp tI++[])++[]))++[]):Hp)=Go.K.mark D::(bp,true,C [.map (some bm)] tMI)::(bm,true,m.obj .i64)::(b2,true,C [out.val] tIS)::(out.hp tI++[]) by simp]
  refine Ad<|Aa fun ops=> ?_
  refine oR (Al rfl mM rfl) ?_
  refine oA rfl<|Ac<|n_K<|An ?_
  refine pkD ?_
  exact Av (At Tryz.results183 (Ag rfl)) (by exact ⟨out,rfl,rfl,ho,by rw [h2];exact (W8 h1 hnd h3 hall).map _⟩) sP
theorem Arx {bp bm:Nat} {m:Mp En} (hm:m.es.length≤1000):Does Tryz.prog 183 [.slice none 0 0,.func (.func 137) #[] #[ptr bp]] ((bp,true,C [.map (some bm)] tMJ)::(bm,true,m.obj .i64)::[])
  (fun v H=>∃ s:Sl Int,v=s.val∧H=s.hp tI++((bp,true,C [.map (some bm)] tMJ)::(bm,true,m.obj .i64)::[])∧s.isOwn=true∧s.list.Perm m.keys):=by
 refine P6 (n:=13) Tryz.func183 Tryz.ntmps183 rfl (Nat.le_of_ble_eq_true rfl) ?_
 refine Alb ?_
 refine Aa fun ops=> ?_
 refine De rfl rfl fun b2=> ?_
 refine oA rfl<|Ac ?_
 refine ⟨rfl,?_⟩
 refine Adb ?_
 refine Aa fun ops=>oM rfl<|Ac ?_
 refine ⟨rfl,?_⟩
 refine Aas (fi:=[]) (ca:=[ptr bp]) (L:=(bp,true,C [.map (some bm)] tMJ)::(bm,true,m.obj .i64)::(b2,true,C [(Sl.nil:Sl Int).val] tIS)::[]) (F:=[]) (R1:=fun M=>∃ X seen,M=(bp,true,C [.map (some bm)] tMJ)::(bm,true,m.obj .i64)::(X++[])∧KIJ m b2 seen X∧∀ e∈m.es,e.n∈seen) rfl sP ?_ ?_
 ·intro D l f0 tm ht hsz
  refine (Anx (m:=m) (bm:=bm) (bp:=bp) (I:=KIJ m b2) (X0:=(b2,true,C [(Sl.nil:Sl Int).val] tIS)::[]) rfl ⟨⟨.nil,[],by rw [Sl.hp_nil];rfl,rfl,rfl,rfl,fun e he=>nomatch he⟩,List.nodup_nil,by show 0+Hw m []≤_;exact W7 m⟩ ?_).mono ?_
  rotate_left
  ·rintro v Y ⟨rfl,X,seen,rfl,hX,hall⟩
   exact ⟨_,_,rfl,(fun e=>nomatch e),X,seen,rfl,hX,hall⟩
  rintro seen X e he hne ⟨⟨out,es,rfl,ho,h1,h2,h3⟩,hnd,hle⟩
  have hlt:=Da he hne
  have hol:out.list.length≤1000:=(by rw [h2,List.length_map];have:es.length=seen.length:=(by rw [← h1,List.length_map]);omega)
  rw [show ((b2,true,C [out.val] tIS)::(out.hp tI++[])++[]:Hp)=(b2,true,C [out.val] tIS)::(out.hp tI++[]) by simp]
  refine Tj (n:=13) [(7,.int .i64 e.k),(2,ptr b2)] (by rw [show F9 _ _=tm.setIfInBounds 7 (.int .i64 e.k) from by simp [F9]];exact EnvOk.put (a:=⟨tm,[]⟩) (d:=7) (v:= .int .i64 e.k) ((Keep.cons rfl .nil).ok ht) (by rw [hsz];decide)) (by simp [F9,hsz]) rfl fun rg=> ?_
  refine Aa fun ops=>oA rfl<|Ac ?_
  refine ⟨rfl,_,rfl,?_⟩
  refine Ak<|Aa fun ops=> ?_
  refine oR (Al rfl mM rfl) ?_
  refine oM rfl ?_
  refine A5 rfl rfl rfl rfl fun b10=> ?_
  refine Bp (s:=out) (new:=[e.k]) (m:=1) rfl rfl pL ho (Cv (r:=true) mM rfl) rfl rfl rfl rfl (by omega) rfl fun out' hs1 hs2=> ?_
  refine Af rfl rfl uD rfl rfl rfl ?_
  refine Ac<|Az ?_
  refine ⟨rfl,(bp,true,C [.map (some bm)] tMJ)::(bm,true,m.obj .i64)::((b2,true,C [out'.val] tIS)::(out'.hp tI++[])++[]),_,by rw [show ((b2,true,C [out'.val] tIS)::(out'.hp tI++[])++[]:Hp)=(b2,true,C [out'.val] tIS)::(out'.hp tI++[]) by simp];exact sP,rfl,(b2,true,C [out'.val] tIS)::(out'.hp tI++[]),rfl,⟨out',es++[e],rfl,hs2,by rw [List.map_append,h1];rfl,by rw [hs1,h2,List.map_append];rfl,?_⟩,?_,?_⟩
  ·intro x hx
   rcases List.mem_append.1 hx with hx | hx
   ·exact h3 x hx
   ·rw [List.mem_singleton.1 hx];exact he
  ·exact List.nodup_append.2 ⟨hnd,by simp,fun a ha b hb e2=>hne (by rw [List.mem_singleton.1 hb] at e2;rw [← e2];exact ha)⟩
  ·rw [List.length_append,List.length_singleton];omega
 ·rintro rg D M ⟨X,seen,rfl,⟨⟨out,es,rfl,ho,h1,h2,h3⟩,hnd,hle⟩,hall⟩
  rw [show (Go.K.mark D::(((bp,true,C [.map (some bm)] tMJ)::(bm,true,m.obj .i64)::((b2,true,C [out.val] tIS)::(out.hp tI++[])++[]))++[]):Hp)=Go.K.mark D::(bp,true,C [.map (some bm)] tMJ)::(bm,true,m.obj .i64)::(b2,true,C [out.val] tIS)::(out.hp tI++[]) by simp]
  refine Ad<|Aa fun ops=> ?_
  refine oR (Al rfl mM rfl) ?_
  refine oA rfl<|Ac<|n_K<|An ?_
  refine pkD ?_
  exact Av (At Tryz.results183 (Ag rfl)) (by exact ⟨out,rfl,rfl,ho,by rw [h2];exact (W8 h1 hnd h3 hall).map _⟩) sP
end
section
open Go.K Go.Shelf
set_option maxRecDepth 20000
set_option maxHeartbeats 1000000
def Ai7:Go.Shelf.Ren:=⟨fun | 5=>88 | 8=>134 | 7=>133 | 19=>181 | 20=>182 | 10=>172 | 11=>173 | 12=>174 | 13=>175 | 14=>176 | 15=>177 | 16=>178 | 17=>179 | 18=>180 | 30=>210 | 31=>211 | 32=>212 | 33=>213 | 34=>214 | 35=>215 | 40=>234 | n=>n,fun | 23=>85 | 25=>3 | 3=>3 | 32=>151 | 22=>85 | 0=>0 | 44=>55 | 46=>29 | 4=>4 | 36=>247 | 35=>246 | 41=>252 | 5=>5 | 9=>9 | 53=>285 | 57=>288 | 63=>301 | 64=>260 | n=>n,fun | n=>n⟩
theorem Anz:Go.Proofs.SlLaysM.n5 Tryz.prog Ai7:={
 mixed:=by kernel_rfl
 f5:=⟨Tryz.f88.name,by decide,Tryz.func88.trans (congrArg some (by kernel_rfl))⟩
 f7:=⟨Tryz.f133.name,by decide,Tryz.func133.trans (congrArg some (by kernel_rfl))⟩
 f8:=Tryz.func134.trans (congrArg some (by kernel_rfl))
 f10:=⟨Tryz.f172.name,by decide,Tryz.func172.trans (congrArg some (by kernel_rfl))⟩
 f11:=⟨Tryz.f173.name,by decide,Tryz.func173.trans (congrArg some (by kernel_rfl))⟩
 f12:=⟨Tryz.f174.name,by decide,Tryz.func174.trans (congrArg some (by kernel_rfl))⟩
 f13:=⟨Tryz.f175.name,by decide,Tryz.func175.trans (congrArg some (by kernel_rfl))⟩
 f14:=⟨Tryz.f176.name,by decide,Tryz.func176.trans (congrArg some (by kernel_rfl))⟩
 f15:=⟨Tryz.f177.name,by decide,Tryz.func177.trans (congrArg some (by kernel_rfl))⟩
 f16:=⟨Tryz.f178.name,by decide,Tryz.func178.trans (congrArg some (by kernel_rfl))⟩
 f17:=⟨Tryz.f179.name,by decide,Tryz.func179.trans (congrArg some (by kernel_rfl))⟩
 f18:=⟨Tryz.f180.name,by decide,Tryz.func180.trans (congrArg some (by kernel_rfl))⟩
 f19:=Tryz.func181.trans (congrArg some (by kernel_rfl))
 f20:=Tryz.func182.trans (congrArg some (by kernel_rfl))
 f30:=⟨Tryz.f210.name,by decide,Tryz.func210.trans (congrArg some (by kernel_rfl))⟩
 f31:=Tryz.func211.trans (congrArg some (by kernel_rfl))
 f32:=Tryz.func212.trans (congrArg some (by kernel_rfl))
 f33:=⟨Tryz.f213.name,by decide,Tryz.func213.trans (congrArg some (by kernel_rfl))⟩
 f34:=⟨Tryz.f214.name,by decide,Tryz.func214.trans (congrArg some (by kernel_rfl))⟩
 f35:=⟨Tryz.f215.name,by decide,Tryz.func215.trans (congrArg some (by kernel_rfl))⟩
 f40:=⟨Tryz.f234.name,by decide,Tryz.func234.trans (congrArg some (by kernel_rfl))⟩
 t0:=Tryz.underlying0
 a0:=Tryz.isAgg0
 z0:=Tryz.sizeOf0
 v0:=Tryz.zeroValue0
 t3:=Tryz.underlying3
 a3:=Tryz.isAgg3
 z3:=Tryz.sizeOf3
 v3:=Tryz.zeroValue3
 t4:=Tryz.underlying4
 a4:=Tryz.isAgg4
 z4:=Tryz.sizeOf4
 v4:=Tryz.zeroValue4
 t5:=Tryz.underlying5
 a5:=Tryz.isAgg5
 z5:=Tryz.sizeOf5
 v5:=Tryz.zeroValue5
 t9:=Tryz.underlying9
 a9:=Tryz.isAgg9
 z9:=Tryz.sizeOf9
 v9:=Tryz.zeroValue9
 t22:=Tryz.underlying85
 a22:=Tryz.isAgg85
 z22:=Tryz.sizeOf85
 v22:=Tryz.zeroValue85
 t23:=Tryz.underlying85
 a23:=Tryz.isAgg85
 z23:=Tryz.sizeOf85
 v23:=Tryz.zeroValue85
 t25:=Tryz.underlying3
 a25:=Tryz.isAgg3
 z25:=Tryz.sizeOf3
 v25:=Tryz.zeroValue3
 t32:=Tryz.underlying151
 a32:=Tryz.isAgg151
 z32:=Tryz.sizeOf151
 v32:=Tryz.zeroValue151
 t35:=Tryz.underlying246
 a35:=Tryz.isAgg246
 z35:=Tryz.sizeOf246
 v35:=Tryz.zeroValue246
 t36:=Tryz.underlying247
 a36:=Tryz.isAgg247
 z36:=Tryz.sizeOf247
 v36:=Tryz.zeroValue247
 t41:=Tryz.underlying252
 a41:=Tryz.isAgg252
 z41:=Tryz.sizeOf252
 v41:=Tryz.zeroValue252
 t44:=Tryz.underlying55
 a44:=Tryz.isAgg55
 z44:=Tryz.sizeOf55
 v44:=Tryz.zeroValue55
 t46:=Tryz.underlying29
 a46:=Tryz.isAgg29
 z46:=Tryz.sizeOf29
 v46:=Tryz.zeroValue29
 t53:=Tryz.underlying285
 a53:=Tryz.isAgg285
 z53:=Tryz.sizeOf285
 v53:=Tryz.zeroValue285
 t57:=Tryz.underlying288
 a57:=Tryz.isAgg288
 z57:=Tryz.sizeOf288
 v57:=Tryz.zeroValue288
 t63:=Tryz.underlying301
 a63:=Tryz.isAgg301
 z63:=Tryz.sizeOf301
 v63:=Tryz.zeroValue301
 t64:=Tryz.underlying260
 a64:=Tryz.isAgg260
 z64:=Tryz.sizeOf260
 v64:=Tryz.zeroValue260 }
theorem Gk (xs:List Int):cells xs=xs.map (Value.int .i64):=by
 induction xs with
 | nil=>rfl
 | cons z zs ih=>simp only [cells,List.flatMap_cons,List.map_cons] at *;rw [ih];rfl
def Dz (xs:List Int):List Int:=xs.mergeSort fun x y=>decide (x≤y)
theorem sortL_nil:Dz []=[]:=by unfold Dz;simp
theorem B5 (xs:List Int):(Dz xs).Perm xs:=List.mergeSort_perm _ _
theorem Ul {s:Sl Int} (ho:s.isOwn=true) (hl:s.list.length≤100000):Does Tryz.prog 88 [s.val] (s.hp tI++[])
  (fun v H=>v= .tuple #[]∧∃ s':Sl Int,H=s'.hp tI++[]∧s'.val=s.val∧s'.isOwn=true∧s'.list=Dz s.list):=by
 intro w hw
 cases s with
 | nil =>
  rw [Sl.hp_nil] at hw ⊢
  have h:=AnyM.slices_Sort_int_none Anz none 0 w
  refine Calls.mono h ?_
  rintro e w' ⟨rfl,rfl⟩
  exact ⟨_,[],rfl,⟨rfl,.nil,by rw [Sl.hp_nil];rfl,rfl,rfl,sortL_nil.symm⟩,Trk.refl hw⟩
 | emp a =>
  have e0:(Sl.emp a:Sl Int).hp tI=[]:=by unfold Sl.hp;rfl
  rw [e0] at hw ⊢
  have h:=AnyM.slices_Sort_int_none Anz (some a) 0 w
  refine Calls.mono h ?_
  rintro e w' ⟨rfl,rfl⟩
  exact ⟨_,[],rfl,⟨rfl,.emp a,by rw [e0];rfl,rfl,rfl,sortL_nil.symm⟩,Trk.refl hw⟩
 | vac a c=>cases ho
 | view=>cases ho
 | own b xs cap sp h0 =>
  rw [Sl.hp_own,List.append_nil] at hw
  rw [Sl.hp_own]
  have hb:=hw.here _ (List.mem_cons_self)
  simp only at hb
  have hlt:=hw.lt (x:=(b,true,C (cells xs++sp) tI)) List.mem_cons_self
  have hH:Sort.Holds (Value.int .i64) w b 0 xs.toArray:=fun j hj=>by
   have hj':j<xs.length:=by simpa using hj
   refine ⟨?_,Lk hb _ _⟩
   rw [Nat.zero_add,M7 hb,Ee,List.getElem?_append_left (by rw [Gk,List.length_map];exact hj'),Gk,List.getElem?_map,List.getElem?_eq_getElem hj',getElem!_pos xs.toArray j hj]
   rfl
  have h:=AnyM.slices_Sort_int Anz b 0 cap xs w hH hlt (by show xs.length<_;have:xs.length≤100000:=hl;omega)
  refine Calls.mono h ?_
  rintro e w' ⟨rfl,n,os,rfl⟩
  have hlen:(Dz xs).length=xs.length:=(B5 xs).length_eq
  refine ⟨_,[(b,true,C (cells (Dz xs)++sp) tI)],rfl,⟨rfl,.own b (Dz xs) cap sp ⟨by rw [hlen];exact h0.1,by rw [hlen];exact h0.2.1,by rw [hlen];exact h0.2.2⟩,by rw [Sl.hp_own];rfl,?_,rfl,rfl⟩,?_⟩
  ·show Value.slice (some ⟨b,0,none⟩) (Dz xs).length cap=Value.slice (some ⟨b,0,none⟩) xs.length cap
   rw [hlen]
  ·exact Aat hw hlen
end
section
open Go.K
instance ent90:Ent Tryz.prog 90:=⟨fun _ _=>by kernel_rfl⟩
instance ent91:Ent Tryz.prog 91:=⟨fun _ _=>by kernel_rfl⟩
instance ent94:Ent Tryz.prog 94:=⟨fun _ _=>by kernel_rfl⟩
instance ent135:Ent Tryz.prog 135:=⟨fun _ _=>by kernel_rfl⟩
set_option maxRecDepth 20000
set_option maxHeartbeats 1000000
theorem Pa (xs:List Int):(Dz xs).Pairwise (·≤·):=by
 have:=List.pairwise_mergeSort (le:=fun x y:Int=>decide (x≤y)) (fun a b c h1 h2=>by simp at *;omega) (fun a b=>by simp;omega) xs
 exact this.imp (fun h=>by simpa using h)
theorem Rm {xs ys:List Int} (h:xs.Perm ys):Dz xs=Dz ys :=
 List.Perm.eq_of_pairwise (le:=(·≤·)) (fun a b _ _ h1 h2=>by omega) (Pa xs) (Pa ys) (((B5 xs).trans h).trans (B5 ys).symm)
theorem Auu {bm:Nat}:Does Tryz.prog 91 [.map (some bm)] [] (fun v H=>∃ bp:Nat,v= .func (.func 136) #[] #[ptr bp]∧H=(bp,true,C [.map (some bm)] tMI)::[]):=by
 refine Ah (n:=4) Tryz.func91 Tryz.ntmps91 rfl (Nat.le_of_ble_eq_true rfl)<|Ad<|Aa fun ops=> ?_
 refine De rfl rfl fun b1=> ?_
 refine oA rfl<|Ac<|n_K<|Ad<|Aa fun ops=>oR (Oh rfl)<|oA rfl<|Ac<|n_K<|An ?_
 exact Av (At Tryz.results91 (Ag rfl)) (by exact ⟨b1,rfl,rfl⟩) sP
theorem Ary {bp bm:Nat} {m:Mp Int} (hm:m.es.length≤1000):Does Tryz.prog 135 [.func (.func 136) #[] #[ptr bp]] ((bp,true,C [.map (some bm)] tMI)::(bm,true,m.obj .i64)::[])
  (fun v H=>∃ s:Sl Int,v=s.val∧H=s.hp tI++((bp,true,C [.map (some bm)] tMI)::(bm,true,m.obj .i64)::[])∧s.isOwn=true∧s.list.Perm m.keys):=by
 refine Ah (n:=5) Tryz.func135 Tryz.ntmps135 rfl (Nat.le_of_ble_eq_true rfl)<|Ad<|Aa fun ops=>oA rfl<|Ac<|n_K<|Ad<|Aa fun ops=>oM rfl ?_
 refine Bd rfl (Arw hm) sP rfl fun v4 Y4 h4=> ?_
 obtain ⟨s4,rfl,rfl,ho4,hp4⟩:=h4
 refine Ay aQ ?_
 refine oA rfl<|Ac<|n_K<|An ?_
 exact Av (At Tryz.results135 (Ag rfl)) (by exact ⟨s4,rfl,rfl,ho4,hp4⟩) sP
theorem Arz {bp bm:Nat} {m:Mp Int} (hm:m.es.length≤1000):Does Tryz.prog 90 [.func (.func 136) #[] #[ptr bp]] ((bp,true,C [.map (some bm)] tMI)::(bm,true,m.obj .i64)::[])
  (fun v H=>∃ s:Sl Int,v=s.val∧H=s.hp tI++((bp,true,C [.map (some bm)] tMI)::(bm,true,m.obj .i64)::[])∧s.isOwn=true∧s.list=Dz m.keys):=by
 refine Ah (n:=9) Tryz.func90 Tryz.ntmps90 rfl (Nat.le_of_ble_eq_true rfl)<|Ad<|Aa fun ops=>oA rfl<|Ac<|n_K<|Ad<|Aa fun ops=>oM rfl ?_
 refine Bd rfl (Ary hm) sP rfl fun v5 Y5 h5=> ?_
 obtain ⟨s5,rfl,rfl,ho5,hp5⟩:=h5
 refine Ay aQ ?_
 refine oA rfl<|Ac<|n_K<|Ad<|Aa fun ops=>oM rfl ?_
 refine Bd rfl (Ul (s:=s5) ho5 (by rw [hp5.length_eq,Mp.keys_len];omega)) sP rfl fun v7 Y7 h7=> ?_
 obtain ⟨rfl,s7,rfl,hv7,ho7,hl7⟩:=h7
 refine Ay aQ ?_
 refine Ac<|n_K<|Ad<|Aa fun ops=>oM rfl<|oA rfl<|Ac<|n_K<|An ?_
 exact Av (At Tryz.results90 (Ag rfl)) (by exact ⟨s7,hv7.symm,rfl,ho7,by rw [hl7];exact Rm hp5⟩) sP
theorem Auv {bm:Nat}:Does Tryz.prog 94 [.map (some bm)] [] (fun v H=>∃ bp:Nat,v= .func (.func 137) #[] #[ptr bp]∧H=(bp,true,C [.map (some bm)] tMJ)::[]):=by
 refine Ah (n:=4) Tryz.func94 Tryz.ntmps94 rfl (Nat.le_of_ble_eq_true rfl)<|Ad<|Aa fun ops=> ?_
 refine De rfl rfl fun b1=> ?_
 refine oA rfl<|Ac<|n_K<|Ad<|Aa fun ops=>oR (Oh rfl)<|oA rfl<|Ac<|n_K<|An ?_
 exact Av (At Tryz.results94 (Ag rfl)) (by exact ⟨b1,rfl,rfl⟩) sP
theorem Ar0 {bp bm:Nat} {m:Mp En} (hm:m.es.length≤1000):Does Tryz.prog 135 [.func (.func 137) #[] #[ptr bp]] ((bp,true,C [.map (some bm)] tMJ)::(bm,true,m.obj .i64)::[])
  (fun v H=>∃ s:Sl Int,v=s.val∧H=s.hp tI++((bp,true,C [.map (some bm)] tMJ)::(bm,true,m.obj .i64)::[])∧s.isOwn=true∧s.list.Perm m.keys):=by
 refine Ah (n:=5) Tryz.func135 Tryz.ntmps135 rfl (Nat.le_of_ble_eq_true rfl)<|Ad<|Aa fun ops=>oA rfl<|Ac<|n_K<|Ad<|Aa fun ops=>oM rfl ?_
 refine Bd rfl (Arx hm) sP rfl fun v4 Y4 h4=> ?_
 obtain ⟨s4,rfl,rfl,ho4,hp4⟩:=h4
 refine Ay aQ ?_
 refine oA rfl<|Ac<|n_K<|An ?_
 exact Av (At Tryz.results135 (Ag rfl)) (by exact ⟨s4,rfl,rfl,ho4,hp4⟩) sP
theorem Ar1 {bp bm:Nat} {m:Mp En} (hm:m.es.length≤1000):Does Tryz.prog 90 [.func (.func 137) #[] #[ptr bp]] ((bp,true,C [.map (some bm)] tMJ)::(bm,true,m.obj .i64)::[])
  (fun v H=>∃ s:Sl Int,v=s.val∧H=s.hp tI++((bp,true,C [.map (some bm)] tMJ)::(bm,true,m.obj .i64)::[])∧s.isOwn=true∧s.list=Dz m.keys):=by
 refine Ah (n:=9) Tryz.func90 Tryz.ntmps90 rfl (Nat.le_of_ble_eq_true rfl)<|Ad<|Aa fun ops=>oA rfl<|Ac<|n_K<|Ad<|Aa fun ops=>oM rfl ?_
 refine Bd rfl (Ar0 hm) sP rfl fun v5 Y5 h5=> ?_
 obtain ⟨s5,rfl,rfl,ho5,hp5⟩:=h5
 refine Ay aQ ?_
 refine oA rfl<|Ac<|n_K<|Ad<|Aa fun ops=>oM rfl ?_
 refine Bd rfl (Ul (s:=s5) ho5 (by rw [hp5.length_eq,Mp.keys_len];omega)) sP rfl fun v7 Y7 h7=> ?_
 obtain ⟨rfl,s7,rfl,hv7,ho7,hl7⟩:=h7
 refine Ay aQ ?_
 refine Ac<|n_K<|Ad<|Aa fun ops=>oM rfl<|oA rfl<|Ac<|n_K<|An ?_
 exact Av (At Tryz.results90 (Ag rfl)) (by exact ⟨s7,hv7.symm,rfl,ho7,by rw [hl7];exact Rm hp5⟩) sP
theorem Auw {c:BitVec 32} {b:Nat} {s1 s2:Sl By}:Does Tryz.prog 95 [uv c,.slice (some ⟨b,0,none⟩) 2 2] ((b,true,C [s1.val,s2.val] tSB)::(s1.hp tU8++(s2.hp tU8++[])))
  (Is (uv (K3 c [s1.list,s2.list])) ((b,true,C [s1.val,s2.val] tSB)::(s1.hp tU8++(s2.hp tU8++[])))):=by
 have e2:(Sl.own b [s1,s2] 2 [] ⟨by simp,Nat.le_refl _,by simp⟩:Sl (Sl By)).list=[s1,s2]:=rfl
 have h:=Ata (c:=c) (q:= .own b [s1,s2] 2 [] ⟨by simp,Nat.le_refl _,by simp⟩)
 rw [e2] at h
 have e:(Sl.own b [s1,s2] 2 [] ⟨by simp,Nat.le_refl _,by simp⟩:Sl (Sl By)).hp tSB++(Dh [s1,s2]++[])=((b,true,C [s1.val,s2.val] tSB)::(s1.hp tU8++(s2.hp tU8++[]))):=by
  rw [Sl.hp_own,Cz,Cz,Ha]
  simp only [List.append_assoc,List.nil_append,List.append_nil]
  rfl
 rw [e] at h
 exact h
theorem Ar2:Does Tryz.prog 93 [.slice none 0 0] [] (Is (uv 0) []):=by
 have h:=Amp (q:=(Sl.nil:Sl (Sl By)))
 have e:(Sl.nil:Sl (Sl By)).hp tSB++(Dh []++[])=[]:=by rw [Sl.hp_nil,Ha];rfl
 rw [show (Sl.nil:Sl (Sl By)).list=[] from rfl,e] at h
 exact h.to (by simp [K3]) rfl
end
section
open Go.K
instance fldt124_1:FldT Tryz.prog 124 1 2 29:=⟨⟨_,_,Tryz.underlying124,rfl,rfl,rfl⟩⟩
instance ent59:Ent Tryz.prog 59:=⟨fun _ _=>by kernel_rfl⟩
set_option maxRecDepth 20000
set_option maxHeartbeats 1000000
def Qp (m:Mp En) (k:Int):En:=match m.get k with | some e=>e | none=>Awb
def Ab6 (m:Mp En) (k:Int):Wd:=(Qp m k).ep
def K5 (m:Mp En):BitVec 32:=(Dz m.keys).foldl (fun c k=>K3 c [Co 1 (BitVec.ofInt 64 k),Co 8 (Ab6 m k)]) 0
theorem Ael {P:Program} {E:Env} {H:Hp} {t kt et:TypeId} {x y:Operand} {b:Nat} {m:Mp En} {k:Int} {r:Bool} [ht:Und P t (.map kt et)] [hk:Und P kt (.int .i64)] [hz:ZerV P et (.agg #[.int .i64 0,.int .i64 0,.int .u64 0])]
  (hx:ev E x=some (.map (some b))) (hy:ev E y=some (.int .i64 k)) (hm:(b,r,m.obj .i64)∈H):Rd P E H (.lookup t x y false) (.agg (Aix (Qp m k)).toArray):=by
 have h:=Aqi (P:=P) (t:=t) (kt:=kt) (et:=et) (z:= .agg #[.int .i64 0,.int .i64 0,.int .u64 0]) hx hy hm
 unfold Qp
 cases hg:m.get k with
 | none=>rw [hg] at h;exact h
 | some e=>rw [hg] at h;exact h
theorem Agn {S:Nat} {b:Nat} {m:Mp En} (hm:m.es.length≤1000):Does Tryz.prog 59 [ptr S,.map (some b)] ((b,true,m.obj .i64)::[])
  (fun v H=>v=uv (K5 m)∧H=(b,true,m.obj .i64)::[]):=by
 refine Ah (n:=30) Tryz.func59 Tryz.ntmps59 rfl (Nat.le_of_ble_eq_true rfl)<|Ad<|Aa fun ops=>oA rfl<|Ac<|n_K<|Ad<|Aa fun ops=> ?_
 refine A6 rfl (Ar2) sP rfl aQ ?_
 refine oA rfl<|Ac<|n_K<|Ad<|Ad<|Aa fun ops=>oM rfl ?_
 refine Bd rfl (Auv (bm:=b)) sP rfl fun v10 Y10 h10=> ?_
 obtain ⟨bp,rfl,rfl⟩:=h10
 refine Ay aQ ?_
 refine Bd rfl (Ar1 hm) sP rfl fun v11 Y11 h11=> ?_
 obtain ⟨s11,rfl,rfl,ho11,hl11⟩:=h11
 refine Ay aQ ?_
 refine oR (A7 rfl)<|oM rfl<|Ac<|n_K<|Ak ?_
 have hsm:s11.list.length≤1000:=(by rw [hl11,(B5 _).length_eq,Mp.keys_len];exact hm)
 refine A8 [1,11,12] kQ (fun (st:Nat×BitVec 32)=>[(13,.int .i64 st.1),(5,uv st.2)]) (fun (st:Nat×BitVec 32)=>(s11.hp tI++((b,true,m.obj .i64)::[]))) (fun (st:Nat×BitVec 32)=>st.1≤s11.list.length∧st.2=(s11.list.take st.1).foldl (fun c k=>K3 c [Co 1 (BitVec.ofInt 64 k),Co 8 (Ab6 m k)]) 0) (fun (st:Nat×BitVec 32)=>s11.list.length - st.1) ((0,0)) ⟨Nat.zero_le _,rfl⟩ kP sP ?_
 rintro ⟨i,c⟩ ⟨g0,g1⟩
 simp only at g0 g1
 refine Ad<|Aa fun ops=>oR (Ae rfl rfl rfl)<|Ac<|n_K<|Ad ?_
 refine Aj rfl (fun c14=> ?_) (fun c14=> ?_)
 ·simp only [decide_eq_true_eq,decide_eq_false_iff_not] at c14
  obtain ⟨z,hg⟩:∃ z,s11.list[i]? =some z:=⟨_,List.getElem?_eq_getElem (by omega)⟩
  have hst:=Hm (f:=fun c k=>K3 c [Co 1 (BitVec.ofInt 64 k),Co 8 (Ab6 m k)]) (b:=(0:BitVec 32)) hg
  rw [← g1] at hst
  refine Ai<|n_K<|Ad<|Ak<|Ad<|Aa fun ops=> ?_
  refine oR (Bk (s:=s11) rfl rfl (by omega)) ?_
  refine oR (C0 (s:=s11) (o:=0) rfl pL hg rfl rfl) ?_
  refine oA rfl<|Ac<|n_K ?_
  refine s_draw [] [(10,[(0,false),(1,false),(2,false),(4,false),(5,false),(6,false),(7,false),(3,true),(8,true),(9,true)]),(11,[(10,true)]),(12,[(11,false)])] (by kernel_rfl) rfl fun ops w0 H0 y=> ?_
  refine A4<|xM rfl<|xM rfl ?_
  refine xR (show Rd _ _ _ _ (wv (BitVec.ofInt 64 z)) from by (unfold wv;rw [← J3];exact C4 rfl)) ?_
  refine xM rfl<|xM rfl ?_
  refine xR (Ael rfl rfl mM) ?_
  refine xR (show Rd _ _ _ _ (wv (Ab6 m z)) from Aub rfl rfl) ?_
  refine Be ?_
  refine Bd rfl (Hr) sP rfl fun v20 Y20 h20=> ?_
  obtain ⟨s20,rfl,rfl,hs20,ho20⟩:=h20
  refine Ay aQ ?_
  refine Ac ⟨rfl,⟨_,sP⟩,?_⟩
  refine Be ?_
  refine Bd rfl (Hr) sP rfl fun v25 Y25 h25=> ?_
  obtain ⟨s25,rfl,rfl,hs25,ho25⟩:=h25
  refine Ay aQ ?_
  refine Ac ⟨rfl,⟨_,sP⟩,?_⟩
  refine Be ?_
  refine A5 rfl rfl rfl rfl fun b26=> ?_
  refine Ac ⟨rfl,⟨_,sP⟩,?_⟩
  refine Am<|Bh<|Be ?_
  refine A6 rfl (Auw (c:=c) (b:=b26) (s1:=s20) (s2:=s25)) sP rfl aQ ?_
  refine Ac ⟨rfl,⟨_,sP⟩,?_⟩
  refine Am<|A4<|xA rfl<|Am<|Bm<|Az<|n_K<|Aa fun ops=> ?_
  refine oR (Ao rfl rfl (by omega)) ?_
  refine oM rfl<|Ac<|n_K ?_
  exact ⟨(i+1,K3 c [Co 1 (BitVec.ofInt 64 z),Co 8 (Ab6 m z)]),⟨by simp only;omega,hst.symm⟩,by simp only;omega,(by rw [show Co 1 (BitVec.ofInt 64 z)=s20.list from hs20.symm,show Co 8 (Ab6 m z)=s25.list from hs25.symm];exact kP),kP,_,sP⟩
 ·simp only [decide_eq_true_eq,decide_eq_false_iff_not] at c14
  have hi:i=s11.list.length:=(by omega)
  subst hi
  rw [List.take_length] at g1
  refine Bb<|x_K<|x_K<|Bj<|n_K<|Ad<|Aa fun ops=>oM rfl<|oA rfl<|Ac<|n_K<|An ?_
  exact Av (At Tryz.results59 (Ag rfl)) (by exact ⟨by rw [g1,hl11];rfl,rfl⟩) sP
end
section
open Go.K Go.Shelf
instance ent53:Ent Tryz.prog 53:=⟨fun _ _=>by kernel_rfl⟩
instance ent89:Ent Tryz.prog 89:=⟨fun _ _=>by kernel_rfl⟩
set_option maxRecDepth 20000
set_option maxHeartbeats 1000000
def Ai8:Go.Shelf.Ren:=⟨fun | 20=>89 | n=>n,fun | 22=>85 | 3=>3 | 4=>4 | 0=>0 | n=>n,fun | n=>n⟩
theorem An0:Go.Proofs.Lays2.n20 Tryz.prog Ai8:={
 mixed:=by kernel_rfl
 f20:=Tryz.func89.trans (congrArg some (by kernel_rfl))
 t0:=Tryz.underlying0
 a0:=Tryz.isAgg0
 z0:=Tryz.sizeOf0
 v0:=Tryz.zeroValue0
 t3:=Tryz.underlying3
 a3:=Tryz.isAgg3
 z3:=Tryz.sizeOf3
 v3:=Tryz.zeroValue3
 t4:=Tryz.underlying4
 a4:=Tryz.isAgg4
 z4:=Tryz.sizeOf4
 v4:=Tryz.zeroValue4
 t22:=Tryz.underlying85
 a22:=Tryz.isAgg85
 z22:=Tryz.sizeOf85
 v22:=Tryz.zeroValue85
 i3:=by kernel_rfl }
theorem Aem (xs:List Int):(Lib.compact xs).length≤xs.length:=by
 unfold Lib.compact Lib.compactUpTo
 rw [List.length_map]
 exact Nat.le_trans (List.length_filter_le _ _) (by simp)
theorem compact_nil:Lib.compact ([]:List Int)=[]:=by
 unfold Lib.compact Lib.compactUpTo;rfl
theorem Ar3 {s:Sl Int} (ho:s.isOwn=true) (hl:s.list.length≤100000):Does Tryz.prog 89 [s.val] (s.hp tI++[])
  (fun v H=>∃ s':Sl Int,v=s'.val∧H=s'.hp tI++[]∧s'.isOwn=true∧s'.list=Lib.compact s.list):=by
 intro w hw
 cases s with
 | nil =>
  rw [Sl.hp_nil] at hw ⊢
  have h:=Any.slices_Compact_int_empty An0 none 0 w
  refine Calls.mono h ?_
  rintro e w' ⟨rfl,rfl⟩
  exact ⟨_,[],rfl,⟨.nil,rfl,by rw [Sl.hp_nil];rfl,rfl,compact_nil.symm⟩,Trk.refl hw⟩
 | emp a =>
  have e0:(Sl.emp a:Sl Int).hp tI=[]:=by unfold Sl.hp;rfl
  rw [e0] at hw ⊢
  have h:=Any.slices_Compact_int_empty An0 (some a) 0 w
  refine Calls.mono h ?_
  rintro e w' ⟨rfl,rfl⟩
  exact ⟨_,[],rfl,⟨.emp a,rfl,by rw [e0];rfl,rfl,compact_nil.symm⟩,Trk.refl hw⟩
 | vac a c=>cases ho
 | view=>cases ho
 | own b xs cap sp h0 =>
  rw [Sl.hp_own,List.append_nil] at hw
  rw [Sl.hp_own]
  have hb:=hw.here _ (List.mem_cons_self)
  simp only at hb
  have hlt:=hw.lt (x:=(b,true,C (cells xs++sp) tI)) List.mem_cons_self
  have hH:Sort.Holds (Value.int .i64) w b 0 xs.toArray:=fun j hj=>by
   have hj':j<xs.length:=by simpa using hj
   refine ⟨?_,Lk hb _ _⟩
   rw [Nat.zero_add,M7 hb,Ee,List.getElem?_append_left (by rw [Gk,List.length_map];exact hj'),Gk,List.getElem?_map,List.getElem?_eq_getElem hj',getElem!_pos xs.toArray j hj]
   rfl
  have hxl:xs.length≤100000:=hl
  have hc:=Aem xs
  have h:=Any.slices_Compact_int An0 b 0 cap xs w hH (by omega) h0.2.1
  refine Calls.mono h ?_
  rintro e w' ⟨rfl,n,rfl⟩
  have hlen:(Lib.compact xs++List.replicate (xs.length - (Lib.compact xs).length) 0).length=xs.length:=by simp;omega
  have ht:=Aat (os:=#[]) (n:=n) hw hlen
  rw [Sort.grow_empty] at ht
  have hcs:(cells (Lib.compact xs++List.replicate (xs.length - (Lib.compact xs).length) (0:Int))++sp:List Value)=cells (Lib.compact xs)++(cells (List.replicate (xs.length - (Lib.compact xs).length) (0:Int))++sp):=by
   rw [Gk,Gk,Gk,List.map_append,List.append_assoc]
  rw [hcs] at ht
  refine ⟨_,[(b,true,C (cells (Lib.compact xs)++(cells (List.replicate (xs.length - (Lib.compact xs).length) (0:Int))++sp)) tI)],rfl,⟨.own b (Lib.compact xs) cap (cells (List.replicate (xs.length - (Lib.compact xs).length) (0:Int))++sp) ?_,rfl,by rw [Sl.hp_own];rfl,rfl,rfl⟩,ht⟩
  have h1:(cap - xs.length)*1≤sp.length:=h0.1
  refine ⟨?_,by have:=h0.2.1;omega,by omega⟩
  show (cap - (Lib.compact xs).length)*1≤_
  have h2:=h0.2.1
  rw [List.length_append,Gk,List.length_map,List.length_replicate]
  omega
def Rn (xs:List Int):Bool:=decide ((Lib.compact (Dz xs)).length=xs.length)
theorem Ar4 {s:Sl Int} (hs:s.list.length≤1000):Does Tryz.prog 53 [s.val] (s.hp tI++[]) (Is (.bool (Rn s.list)) (s.hp tI++[])):=by
 refine Ah (n:=14) Tryz.func53 Tryz.ntmps53 rfl (Nat.le_of_ble_eq_true rfl)<|Ad<|Aa fun ops=>oA rfl<|Ac<|n_K<|Ad<|Aa fun ops=>oM rfl ?_
 refine Bd rfl (Qs (s:=s) (T:=tI) hs) sP rfl fun v5 Y5 h5=> ?_
 obtain ⟨s5,rfl,rfl,hl5,ho5⟩:=h5
 refine Ay aQ ?_
 refine oA rfl<|Ac<|n_K<|Ad<|Aa fun ops=>oM rfl ?_
 refine Bd rfl (Ul (s:=s5) ho5 (by rw [hl5];omega)) sP rfl fun v7 Y7 h7=> ?_
 obtain ⟨rfl,s7,rfl,hv7,ho7,hl7⟩:=h7
 refine Ay aQ ?_
 rw [← hv7]
 refine Ac<|n_K<|Ad<|Aa fun ops=>oM rfl ?_
 refine Bd rfl (Ar3 (s:=s7) ho7 (by rw [hl7,(B5 _).length_eq,hl5];omega)) sP rfl fun v9 Y9 h9=> ?_
 obtain ⟨s9,rfl,rfl,ho9,hl9⟩:=h9
 refine Ay aQ ?_
 refine oR (A7 rfl)<|oM rfl<|oR (A7 rfl)<|oR (Ae rfl rfl rfl)<|oA rfl<|Ac<|n_K<|An ?_
 refine Aq (At Tryz.results53 (Ag rfl)) ?_ sP
 unfold Rn;rw [hl9,hl7,hl5];exact congrArg Value.bool (decide_eq_decide.2 Int.natCast_inj)
end
section
open Go.K
instance fld45_0:Fld Tryz.prog 45 0 0:=⟨⟨_,_,0,Tryz.underlying45,rfl,by kernel_rfl,rfl⟩⟩
instance fld45_2:Fld Tryz.prog 45 2 2:=⟨⟨_,_,0,Tryz.underlying45,rfl,by kernel_rfl,rfl⟩⟩
instance ent50:Ent Tryz.prog 50:=⟨fun _ _=>by kernel_rfl⟩
set_option maxRecDepth 20000
set_option maxHeartbeats 1000000
structure Chg where
 key:Int
 gone:Bool
 body:Sl By
def Awf (c:Chg):List Value:=[.int .i64 c.key,.bool c.gone,c.body.val]
instance:Cel Chg:=⟨3,Awf,fun _=>rfl,fun _=>rfl⟩
theorem Ar5 {c:Chg}:Does Tryz.prog 50 [.agg (Awf c).toArray] (c.body.hp tU8++[]) (Is (.bool (Bt c.key c.body.list)) (c.body.hp tU8++[])):=by
 refine Ah (n:=16) Tryz.func50 Tryz.ntmps50 rfl (Nat.le_of_ble_eq_true rfl)<|Ad<|Aa fun ops=> ?_
 refine De rfl rfl fun b1=> ?_
 refine oA rfl<|Ac<|n_K<|Ad<|Aa fun ops=>oF rfl ?_
 refine oR (Al rfl mM rfl) ?_
 refine oF rfl ?_
 refine oR (Al rfl mM rfl) ?_
 refine oR (Bc rfl rfl) ?_
 refine Bd rfl (W0 (n:=⟨c.key,0,c.body⟩)) sP rfl fun v11 Y11 h11=> ?_
 obtain ⟨s11,e11,rfl,rfl,he11⟩:∃ (s11:Sl By) (e11:Int),v11= .tuple #[s11.val,.int .i64 e11]∧Y11=s11.hp tU8++(c.body.hp tU8++[])∧decide (e11=0)=Bt c.key c.body.list:=by
  rcases h11 with ⟨hk,rfl,rfl⟩ | ⟨hk,s,rfl,rfl,hs,ho⟩
  ·exact ⟨.nil,1,rfl,by rw [Sl.hp_nil];rfl,hk.symm⟩
  ·exact ⟨s,0,rfl,rfl,hk.symm⟩
 refine Ay aQ ?_
 refine oM rfl<|oE rfl rfl<|oE rfl rfl<|oA rfl<|oA rfl<|Ac<|n_K<|Ad<|Aa fun ops=>oM rfl<|oR (Ae rfl rfl rfl)<|oA rfl<|Ac<|n_K ?_
 refine An ?_
 refine Aq (At Tryz.results50 (Ag rfl)) ?_ sP
 rw [he11]
end
section
open Go.K
set_option maxRecDepth 20000
set_option maxHeartbeats 1000000
theorem Ab7 {P:Program} {E:Env} {H:Hp} {t kt et:TypeId} {x y:Operand} {b:Nat} {m:Mp En} {k:Int} {r:Bool} [ht:Und P t (.map kt et)] [hk:Und P kt (.int .i64)] [hz:ZerV P et (.agg #[.int .i64 0,.int .i64 0,.int .u64 0])]
  (hx:ev E x=some (.map (some b))) (hy:ev E y=some (.int .i64 k)) (hm:(b,r,m.obj .i64)∈H):Rd P E H (.lookup t x y true) (.tuple #[.agg (Aix (Qp m k)).toArray,.bool (m.get k).isSome]):=by
 have h:=P7 (P:=P) (t:=t) (kt:=kt) (et:=et) (z:= .agg #[.int .i64 0,.int .i64 0,.int .u64 0]) hx hy hm
 unfold Qp
 cases hg:m.get k with
 | none=>rw [hg] at h;exact h
 | some e=>rw [hg] at h;exact h
section
variable {z:Sg}
end
end
section
open Go.K
instance zer67:Zer Tryz.prog 67 ([.pointer none,.map none,.map none,.map none,.int .u64 0]++List.replicate 32 (.int .u8 0)++[.int .u32 0,.int .i64 0,.int .i64 0,.int .u64 0,.int .i64 0,.int .u64 0,.int .i64 0,.int .i64 0,.bool false,.int .u64 0,.bool false]):=⟨by kernel_rfl⟩
instance plc67:Plc Tryz.prog 67 [(0,1),(1,1),(2,1),(3,1),(4,34),(38,2),(40,3),(43,2),(45,1),(46,1),(47,1)]:=⟨⟨_,Tryz.underlying67,fun _=>by kernel_rfl⟩⟩
instance ent86:Ent Tryz.prog 86:=⟨fun _ _=>by kernel_rfl⟩
set_option maxRecDepth 20000
set_option maxHeartbeats 1000000
def Jg (st lg ib pb sb:Nat):Sto:=⟨st,lg,ib,pb,sb,cm0,(0,0),vw0,(0,0),false,0,false,Mp.nil,Mp.nil,Mp.nil⟩
theorem W9 {lg:Nat}:Does Tryz.prog 86 [ptr lg] [] (fun v H=>∃ st ib pb sb:Nat,v=ptr st∧H=stH (Jg st lg ib pb sb)++[]):=by
 refine Ah (n:=9) Tryz.func86 Tryz.ntmps86 rfl (Nat.le_of_ble_eq_true rfl)<|Ad<|Aa fun ops=>oA rfl<|Ac<|n_K<|Ad<|Aa fun ops=>oM rfl ?_
 refine X3 En .i64 rfl fun b4=> ?_
 refine X3 En .i64 rfl fun b5=> ?_
 refine X3 Int .i64 rfl fun b6=> ?_
 refine oR (Bc rfl rfl) ?_
 refine De rfl rfl fun b8=> ?_
 refine oA rfl<|Ac<|n_K<|An ?_
 exact Av (At Tryz.results86 (Ag rfl)) (by exact ⟨b8,b4,b5,b6,rfl,rfl⟩) sP
end
section
open Go.K
set_option maxRecDepth 20000
set_option maxHeartbeats 1000000
def refs (S:Sto):List Pl2:=(if 0<S.last.ep.toNat then [S.la] else [])++((if S.viewed=true then [S.va] else [])++(S.idx.es.map (fun e=>e.v.at')++S.pend.es.map (fun e=>e.v.at')))
theorem cntS_iff {S:Sto} {x:Pl2}:I2 S x=true↔x∈refs S:=by
 unfold I2 O5 Fg refs
 simp only [Bool.or_eq_true,Bool.and_eq_true,decide_eq_true_eq,plB_iff,List.any_eq_true,List.mem_append,List.mem_map]
 constructor
 ·rintro (((⟨a,b⟩ | ⟨a,b⟩) | ⟨e,a,b⟩) | ⟨e,a,b⟩)
  ·exact .inl (by rw [if_pos (by omega)];simp [b])
  ·exact .inr (.inl (by rw [if_pos a];simp [b]))
  ·exact .inr (.inr (.inl ⟨e,a,b⟩))
  ·exact .inr (.inr (.inr ⟨e,a,b⟩))
 ·rintro (h | h | ⟨e,a,b⟩ | ⟨e,a,b⟩)
  ·split at h
   ·rename_i hc
    exact .inl (.inl (.inl ⟨by omega,by simpa using h⟩))
   ·cases h
  ·split at h
   ·rename_i hc
    exact .inl (.inl (.inr ⟨hc,by simpa using h⟩))
   ·cases h
  ·exact .inl (.inr ⟨e,a,b⟩)
  ·exact .inr ⟨e,a,b⟩
theorem Ask {S:Sto} {x:Pl2} (h:x∉refs S):I2 S x=false:=by
 cases hc:I2 S x with
 | false=>rfl
 | true=>exact absurd (cntS_iff.1 hc) h
def mvP (f t r:Pl2):Pl2:=if r=f then t else r
theorem Aet (f t:Pl2) (e:En):(mvE f t e).at'=mvP f t e.at':=by
 unfold mvE mvP
 by_cases h:e.at'=f
 ·rw [if_pos (plB_iff.2 h),if_pos h]
 ·rw [if_neg (fun h2=>h (plB_iff.1 h2)),if_neg h]
theorem Au0 (f t:Pl2) (e:En):(mvE f t e).ep=e.ep:=by
 unfold mvE;split <;> rfl
theorem Ach {S:Sto} {f t:Pl2} (h:0<S.last.ep.toNat):(Dd S f t).la=mvP f t S.la:=by
 show (if (decide ((S.last.ep.toNat:Int)>0) && plB S.la f)=true then t else S.la)=_
 unfold mvP
 by_cases e:S.la=f
 ·rw [if_pos e,if_pos (by simp [plB_iff.2 e];omega)]
 ·rw [if_neg e,if_neg (fun h2=>e (plB_iff.1 (by rw [Bool.and_eq_true] at h2;exact h2.2)))]
theorem Uv {S:Sto} {f t:Pl2} (h:S.viewed=true):(Dd S f t).va=mvP f t S.va:=by
 show (if (S.viewed && plB S.va f)=true then t else S.va)=_
 unfold mvP
 by_cases e:S.va=f
 ·rw [if_pos e,if_pos (by simp [plB_iff.2 e,h])]
 ·rw [if_neg e,if_neg (fun h2=>e (plB_iff.1 (by rw [Bool.and_eq_true] at h2;exact h2.2)))]
theorem Aeu (S:Sto) (f t:Pl2):refs (Dd S f t)=(refs S).map (mvP f t):=by
 unfold refs
 rw [List.map_append,List.map_append,List.map_append]
 congr 1
 ·show (if 0<S.last.ep.toNat then [(Dd S f t).la] else [])=_
  split
  ·rename_i h;rw [Ach h];rfl
  ·rfl
 congr 1
 ·show (if S.viewed=true then [(Dd S f t).va] else [])=_
  split
  ·rename_i h;rw [Uv h];rfl
  ·rfl
 congr 1
 ·show ((S.idx.es.map fun e=>{ e with v:=mvE f t e.v }).map fun e=>e.v.at')=_
  rw [List.map_map,List.map_map]
  exact List.map_congr_left fun e _=>Aet f t e.v
 ·show ((S.pend.es.map fun e=>{ e with v:=mvE f t e.v }).map fun e=>e.v.at')=_
  rw [List.map_map,List.map_map]
  exact List.map_congr_left fun e _=>Aet f t e.v
theorem RecAt.fn {z:Sg} {x:Pl2} {p r:Pg} (h:RecAt z x p) (g:RecAt z x r):p=r:=by
 obtain ⟨b,j,rfl,hb,hp⟩:=h
 obtain ⟨b',j',e,hb',hp'⟩:=g
 have e1:b=b':=by have:=congrArg Prod.fst e;simp only at this;omega
 have e2:j=j':=by have:=congrArg Prod.snd e;simp at this;omega
 subst e1 e2
 rw [hp] at hp'
 exact Option.some.inj hp'
def P0 (z:Sg):Prop:=∀ r∈refs z.S,∃ p,RecAt z r p∧(Eb p).2.2.2=0
def rm (z:Sg):Nat:=if z.L.last<0 then 0 else if (bAt z.L.bs z.L.last.toNat).next=8 then 0 else 6 - (z.R z.L.last.toNat).length
def fr (z:Sg):Nat:=Cb z.L.bs z.L.nb
def slots (z:Sg):Nat:=6*fr z+rm z
theorem Aon (z:Sg):rm z≤6:=by unfold rm;split;omega;split <;> omega
theorem Uw {z:Sg} {l:Nat} (h:z.L.last=l):rm z=if (bAt z.L.bs l).next=8 then 0 else 6 - (z.R l).length:=by
 unfold rm
 rw [if_neg (by omega),show z.L.last.toNat=l by omega]
theorem Zh {z:Sg} (h:Abz z.L.bs z.L.last z.R):rm z=0:=by
 rcases h with h | ⟨l,h1,h2⟩
 ·unfold rm;rw [if_pos h]
 ·rw [Uw h1]
  split
  ·rfl
  ·rename_i h3;have:=h2.resolve_left h3;omega
structure LW (k:Nat) (z:Sg):Prop where
 rl:∀ j<z.L.nb,(z.R j).length≤6
 z0:∀ j<z.L.nb,(bAt z.L.bs j).seq.toNat=0→z.R j=[]
 lst:(z.L.last= -1∧∀ j<z.L.nb,(bAt z.L.bs j).seq.toNat=0)∨∃ l:Nat,z.L.last=l∧l<z.L.nb∧(bAt z.L.bs l).seq.toNat≠0∧∀ j<z.L.nb,j≠l→(bAt z.L.bs j).seq.toNat<(bAt z.L.bs l).seq.toNat
 top:∀ j<z.L.nb,(bAt z.L.bs j).seq.toNat≤k
theorem Aoo {bs:List LB} {b:Nat} (h:(bAt bs b).seq.toNat≠0):b<bs.length:=by
 by_cases hb:b<bs.length
 ·exact hb
 ·exfalso
  apply h
  unfold bAt
  rw [List.getD_eq_getElem?_getD,List.getElem?_eq_none (by omega)]
  rfl
theorem Mi {bs cs:List LB} {to:Nat} (h0:(bAt bs to).seq.toNat=0) (h1:(bAt cs to).seq.toNat≠0):∀ k,to<k→(∀ j<k,j≠to→(bAt cs j).seq.toNat=(bAt bs j).seq.toNat)→Cb cs k+1=Cb bs k
 | 0,h,_=>by omega
 | k+1,h,hs=>by
  rw [F8,F8]
  by_cases e:to=k
  ·subst e
   rw [Gf (cs:=bs) to fun j hj=>by rw [hs j (by omega) (by omega)]]
   unfold z1
   rw [if_neg h1,if_pos h0]
  ·have ih:=Mi h0 h1 k (by omega) fun j hj hne=>hs j (by omega) hne
   unfold z1
   rw [hs k (by omega) (Ne.symm e)]
   omega
theorem LW.mono {k k':Nat} {z:Sg} (h:LW k z) (hk:k≤k'):LW k' z:=⟨h.rl,h.z0,h.lst,fun j hj=>Nat.le_trans (h.top j hj) hk⟩
theorem LW.of {k:Nat} {z z':Sg} (h:LW k z) (h1:z'.L=z.L) (h2:z'.R=z.R):LW k z':=by
 cases z;cases z';simp only at h1 h2;subst h1 h2;exact ⟨h.rl,h.z0,h.lst,h.top⟩
theorem WI.lw {n k:Nat} {q:Qt} {z:Sg} (h:WI n k q z):LW k z:=by
 obtain ⟨_,V,hZ⟩:=h
 refine ⟨fun j hj=> ?_,fun j hj hz=> ?_,hZ.lv.lst,hZ.lv.top⟩
 ·rcases hZ.lv.blk j hj with ⟨_,r⟩ | u
  ·rw [r];exact Nat.zero_le _
  ·exact u.cnt.len
 ·rcases hZ.lv.blk j hj with ⟨_,r⟩ | u
  ·exact r
  ·exact absurd hz u.cnt.seq
theorem LW.seqN {k:Nat} {z:Sg} (h:LW k z) (hk:k≤400000000000):(seqN z.L.bs z.L.last).toNat≠0∧(seqN z.L.bs z.L.last).toNat≤k+1∧∀ j<z.L.nb,(bAt z.L.bs j).seq.toNat<(seqN z.L.bs z.L.last).toNat:=by
 unfold Go.Proofs.YtpmojdippdlcaaaGreatDoor.seqN
 rcases h.lst with ⟨h1,h2⟩ | ⟨l,h1,h2,h3,h4⟩
 ·rw [if_pos (by omega)]
  exact ⟨by decide,by show 1≤k+1;omega,fun j hj=>by rw [h2 j hj];decide⟩
 ·rw [if_neg (by omega),h1,Int.toNat_natCast]
  have ht:=h.top l h2
  have e:((bAt z.L.bs l).seq+1).toNat=(bAt z.L.bs l).seq.toNat+1:=by
   rw [BitVec.toNat_add]
   show ((bAt z.L.bs l).seq.toNat+1) % 2 ^ 64=_
   omega
  rw [e]
  refine ⟨by omega,by omega,fun j hj=> ?_⟩
  by_cases hj2:j=l
  ·subst hj2;omega
  ·have:=h4 j hj hj2;omega
def sqz (z:Sg) (x:Pl2):Nat:=(bAt z.L.bs x.1.toNat).seq.toNat
def bef (z:Sg) (x y:Pl2):Prop:=sqz z x<sqz z y∨(x.1=y.1∧x.2<y.2)
structure NewAt (z:Sg) (p:Pg) (y:Pl2) (z':Sg):Prop where
 S:z'.S=z.S
 nb:z'.L.nb=z.L.nb
 new:RecAt z' y p
 old:∀ x r,RecAt z x r→RecAt z' x r∧x≠y
 inv:∀ x r,RecAt z' x r→RecAt z x r∨(x=y∧r=p)
 blk:∀ b:Nat,b<z.L.nb→(bAt z.L.bs b).seq.toNat≠0→(b:Int)≠z.L.last→y.1≠b∧(b:Int)≠z'.L.last∧z'.R b=z.R b
 sq:∀ b:Nat,b<z.L.nb→(bAt z.L.bs b).seq.toNat≠0→(bAt z'.L.bs b).seq=(bAt z.L.bs b).seq
 bef:∀ x r,RecAt z x r→bef z' x y
theorem RecAt.used {k:Nat} {z:Sg} {x:Pl2} {r:Pg} (hw:LW k z) (h:RecAt z x r):∃ b:Nat,x.1=b∧b<z.L.nb∧(bAt z.L.bs b).seq.toNat≠0:=by
 obtain ⟨b,j,rfl,hb,hp⟩:=h
 refine ⟨b,rfl,hb,fun hz=> ?_⟩
 rw [hw.z0 b hb hz] at hp
 cases hp
theorem NewAt.ord {k:Nat} {z z':Sg} {p:Pg} {y:Pl2} (hw:LW k z) (h:NewAt z p y z') {x x':Pl2} {r r':Pg} (hx:RecAt z x r) (hx':RecAt z x' r'):Go.Proofs.YtpmojdippdlcaaaGreatDoor.bef z' x x'↔Go.Proofs.YtpmojdippdlcaaaGreatDoor.bef z x x':=by
 have e:∀ {x r},RecAt z x r→sqz z' x=sqz z x:=fun hx=>by
  obtain ⟨b,h1,h2,h3⟩:=hx.used hw
  unfold sqz
  rw [h1,Int.toNat_natCast,h.sq b h2 h3]
 unfold Go.Proofs.YtpmojdippdlcaaaGreatDoor.bef
 rw [e hx,e hx']
theorem Hc {R:Nat→List Pg} {b:Nat} {r:List Pg}:upR R b r b=r:=if_pos rfl
theorem Em {R:Nat→List Pg} {b j:Nat} {r:List Pg} (h:j≠b):upR R b r j=R j:=if_neg h
theorem AppG.ok {n k:Nat} {q:Qt} {z z':Sg} {p:Pg} {e:Int} {y:Pl2} (hw:LW k z) (hk:k≤390000000000) (h:AppG n q z p e y z') (he:e≠30) :
  (e=40∧slots z=0)∨(e=0∧LW (k+1) z'∧slots z'+1=slots z∧rm z'≤5∧NewAt z p y z'):=by
 obtain ⟨h1,_,_,h4,_,h6⟩:=h
 obtain ⟨_,hA,_,_⟩:=h6.resolve_right (fun h9=>he h9.1)
 clear h6
 obtain ⟨S,L,R⟩:=z
 obtain ⟨S',L',R'⟩:=z'
 obtain ⟨y1,y2⟩:=y
 simp only at h1 h4 hA
 subst h1
 obtain ⟨x1,x2,nb',last',bs',d'⟩:=L'
 simp only at h4 hA
 subst h4
 have hf0:∀ {X:Sg},fr X=Cb X.L.bs X.L.nb:=rfl
 cases hA with
 | @into l g1 g2 g3 g4 g5 =>
  have hb:∀ j,bAt (L.bs.set l { bAt L.bs l with next:=((2+(R l).length:Nat):Int)+1 }) j=if j=l then { bAt L.bs l with next:=((2+(R l).length:Nat):Int)+1 } else bAt L.bs j:=fun j=>Dq (Aoo g3)
  have hs:∀ j,(bAt (L.bs.set l { bAt L.bs l with next:=((2+(R l).length:Nat):Int)+1 }) j).seq=(bAt L.bs j).seq:=fun j=>by
   rw [hb]
   split
   ·rename_i e;subst e;rfl
   ·rfl
  have hfr:Cb (L.bs.set l { bAt L.bs l with next:=((2+(R l).length:Nat):Int)+1 }) L.nb=Cb L.bs L.nb:=Gf _ fun j _=>by rw [hs]
  have hr1:rm ⟨S',L,R⟩=6 - (R l).length:=by rw [Uw (l:=l) g1,if_neg (by simp only;omega)]
  have hlc:(upR R l (R l++[p]) l).length=(R l).length+1:=by rw [Hc];simp
  refine .inr ⟨rfl,⟨fun j hj=> ?_,fun j hj hz=> ?_,?_,fun j hj=> ?_⟩,?_,?_,⟨rfl,rfl,?_,fun x r hx=>⟨?_,?_⟩,fun x r hx=> ?_,fun b hb1 hb2 hb3=>⟨?_,hb3,?_⟩,fun b _ _=>hs b,fun x r hx=> ?_⟩⟩
  ·show (upR R l (R l++[p]) j).length≤6
   by_cases e:j=l
   ·subst e;omega
   ·rw [Em e];exact hw.rl j hj
  ·show upR R l (R l++[p]) j=[]
   have hz':(bAt L.bs j).seq.toNat=0:=by rw [← hs j];exact hz
   by_cases e:j=l
   ·subst e;exact absurd hz' g3
   ·rw [Em e];exact hw.z0 j hj hz'
  ·rcases hw.lst with ⟨q1,q2⟩ | ⟨l',q1,q2,q3,q4⟩
   ·exact .inl ⟨q1,fun j hj=>by show (bAt (L.bs.set l _) j).seq.toNat=0;rw [hs];exact q2 j hj⟩
   ·exact .inr ⟨l',q1,q2,by show (bAt (L.bs.set l _) l').seq.toNat≠0;rw [hs];exact q3,fun j hj hne=>by show (bAt (L.bs.set l _) j).seq.toNat<(bAt (L.bs.set l _) l').seq.toNat;rw [hs,hs];exact q4 j hj hne⟩
  ·show (bAt (L.bs.set l _) j).seq.toNat≤k+1
   rw [hs];have:=hw.top j hj;simp only at this;omega
  ·unfold slots
   rw [hr1,Uw (l:=l) g1,hf0,hf0]
   simp only
   rw [hfr,hb,if_pos rfl,hlc]
   simp only
   split <;> omega
  ·rw [Uw (l:=l) g1]
   simp only
   rw [hlc]
   split <;> omega
  ·exact ⟨l,(R l).length,rfl,g2,by show (upR R l (R l++[p]) l)[_]? =_;rw [Hc,List.getElem?_append_right (Nat.le_refl _)];simp⟩
  ·obtain ⟨b,j,rfl,hb1,hp⟩:=hx
   refine ⟨b,j,rfl,hb1,?_⟩
   show (upR R l (R l++[p]) b)[j]? =_
   by_cases e:b=l
   ·subst e
    rw [Hc,List.getElem?_append_left (List.getElem?_eq_some_iff.1 hp).1];exact hp
   ·rw [Em e];exact hp
  ·obtain ⟨b,j,rfl,hb1,hp⟩:=hx
   intro e9
   have e1:b=l:=by have:=congrArg Prod.fst e9;simp only at this;omega
   have e2:j=(R l).length:=by have:=congrArg Prod.snd e9;simp at this;omega
   subst e1 e2
   have:=(List.getElem?_eq_some_iff.1 hp).1
   simp only at this
   omega
  ·obtain ⟨b,j,rfl,hb1,hp⟩:=hx
   have hp:(upR R l (R l++[p]) b)[j]? =some r:=hp
   by_cases e:b=l
   ·subst e
    rw [Hc] at hp
    by_cases hj:j<(R b).length
    ·rw [List.getElem?_append_left hj] at hp
     exact .inl ⟨b,j,rfl,hb1,hp⟩
    ·have hj2:=(List.getElem?_eq_some_iff.1 hp).1
     simp only [List.length_append,List.length_singleton] at hj2
     have:j=(R b).length:=by omega
     subst this
     rw [List.getElem?_append_right (Nat.le_refl _)] at hp
     simp at hp
     exact .inr ⟨rfl,hp.symm⟩
   ·rw [Em e] at hp
    exact .inl ⟨b,j,rfl,hb1,hp⟩
  ·intro e
   have:(l:Int)=b:=e
   exact hb3 (by show (b:Int)=L.last;omega)
  ·show upR R l (R l++[p]) b=R b
   refine Em fun e=>hb3 ?_
   show (b:Int)=L.last
   omega
  ·obtain ⟨b,j,rfl,hb1,hp⟩:=hx
   unfold Go.Proofs.YtpmojdippdlcaaaGreatDoor.bef
   by_cases e:b=l
   ·subst e
    have:=(List.getElem?_eq_some_iff.1 hp).1
    simp only at this
    exact .inr ⟨rfl,by simp only;omega⟩
   ·refine .inl ?_
    rcases hw.lst with ⟨q1,q2⟩ | ⟨l',q1,q2,q3,q4⟩
    ·simp only at q1;omega
    ·have hl':l'=l:=by simp only at q1;omega
     subst hl'
     unfold sqz
     simp only [Int.toNat_natCast]
     rw [hs,hs]
     exact q4 b hb1 e
 | @none pb pj last' bs' g1 g2 =>
  refine .inl ⟨rfl,?_⟩
  unfold slots
  rw [Zh g1,hf0]
  have:Cb L.bs L.nb=0:=by
   rcases Lb L.bs L.nb with ⟨_,h2⟩ | ⟨l,h1,_⟩
   ·exact (by
     have:∀ m,m≤L.nb→Cb L.bs m=0:=fun m=>by
      induction m with
      | zero=>exact fun _=>rfl
      | succ m ih =>
       intro hm
       rw [F8,ih (by omega)]
       unfold z1
       rw [if_neg (h2 m (by omega))]
     exact this _ (Nat.le_refl _))
   ·omega
  simp only [this]
 | @fresh to _ g1 g3 g4 g5 g6 g7 g8 =>
  obtain ⟨s1,s2,s3⟩:=hw.seqN (by omega)
  simp only at s1 s2 s3
  have hs:∀ j<L.nb,j≠to→(bAt bs' j).seq=(bAt L.bs j).seq:=fun j hj hne=>by
   rcases g8 j hj (by omega) with e | ⟨_,e⟩ <;> rw [e]
  have hst:(bAt bs' to).seq=seqN L.bs L.last:=by rw [g7]
  have hfr:Cb bs' L.nb+1=Cb L.bs L.nb:=Mi g5 (by rw [hst];exact s1) L.nb g4 fun j hj hne=>by rw [hs j hj hne]
  have hr1:rm ⟨S',L,R⟩=0:=Zh g1
  have hl1:upR R to [p] to=[p]:=Hc
  have hr2:∀ d,rm ⟨S',⟨x1,x2,L.nb,(to:Int),bs',d⟩,upR R to [p]⟩=5:=fun d=>by
   rw [Uw (l:=to) rfl]
   simp only
   rw [g7,hl1]
   rfl
  refine .inr ⟨rfl,⟨fun j hj=> ?_,fun j hj hz=> ?_,.inr ⟨to,rfl,g4,by rw [hst];exact s1,fun j hj hne=> ?_⟩,fun j hj=> ?_⟩,?_,?_,⟨rfl,rfl,?_,fun x r hx=>⟨?_,?_⟩,fun x r hx=> ?_,fun b hb1 hb2 hb3=>⟨?_,?_,?_⟩,fun b hb1 hb2=>hs b hb1 (fun e=>hb2 (by rw [e];exact g5)),fun x r hx=> ?_⟩⟩
  ·show (upR R to [p] j).length≤6
   by_cases e:j=to
   ·subst e;rw [hl1];show 1≤6;omega
   ·rw [Em e];exact hw.rl j hj
  ·show upR R to [p] j=[]
   have hz:(bAt bs' j).seq.toNat=0:=hz
   by_cases e:j=to
   ·subst e;rw [hst] at hz;exact absurd hz s1
   ·rw [Em e];exact hw.z0 j hj (by show (bAt L.bs j).seq.toNat=0;rw [← hs j hj e];exact hz)
  ·show (bAt bs' j).seq.toNat<(bAt bs' to).seq.toNat
   rw [hst,hs j hj hne];exact s3 j hj
  ·show (bAt bs' j).seq.toNat≤k+1
   by_cases e:j=to
   ·subst e;rw [hst];exact s2
   ·rw [hs j hj e];have:=hw.top j hj;simp only at this;omega
  ·unfold slots
   rw [hr1,hr2,hf0,hf0]
   simp only
   omega
  ·rw [hr2];omega
  ·exact ⟨to,0,rfl,g4,by show (upR R to [p] to)[0]? =_;rw [hl1];rfl⟩
  ·obtain ⟨b,j,rfl,hb1,hp⟩:=hx
   refine ⟨b,j,rfl,hb1,?_⟩
   show (upR R to [p] b)[j]? =_
   by_cases e:b=to
   ·subst e
    have hp:(R b)[j]? =some r:=hp
    rw [g6] at hp;cases hp
   ·rw [Em e];exact hp
  ·obtain ⟨b,j,rfl,hb1,hp⟩:=hx
   intro e9
   have e1:b=to:=by have:=congrArg Prod.fst e9;simp only at this;omega
   subst e1
   have hp:(R b)[j]? =some r:=hp
   rw [g6] at hp;cases hp
  ·obtain ⟨b,j,rfl,hb1,hp⟩:=hx
   have hp:(upR R to [p] b)[j]? =some r:=hp
   by_cases e:b=to
   ·subst e
    rw [hl1] at hp
    have:j=0:=by have:=(List.getElem?_eq_some_iff.1 hp).1;simp at this;exact this
    subst this
    simp at hp
    exact .inr ⟨rfl,hp.symm⟩
   ·rw [Em e] at hp
    exact .inl ⟨b,j,rfl,hb1,hp⟩
  ·intro e
   have:to=b:=by have e':(to:Int)=b:=e;omega
   subst this
   exact hb2 g5
  ·intro e
   have:b=to:=by have e':(b:Int)=to:=e;omega
   subst this
   exact hb2 g5
  ·refine Em fun e=> ?_
   subst e
   exact hb2 g5
  ·obtain ⟨b,j,rfl,hb1,hp⟩:=hx
   have hp:(R b)[j]? =some r:=hp
   refine .inl ?_
   have hne:b≠to:=fun e=>by subst e;rw [g6] at hp;cases hp
   unfold sqz
   simp only [Int.toNat_natCast]
   rw [hst,hs b hb1 hne]
   exact s3 b hb1
structure GoneB (z:Sg) (b:Nat) (z':Sg):Prop where
 S:z'.S=z.S
 nb:z'.L.nb=z.L.nb
 old:∀ x r,RecAt z x r→x.1≠b→RecAt z' x r
 inv:∀ x r,RecAt z' x r→RecAt z x r∧x.1≠b
 sq:∀ j:Nat,j≠b→(bAt z'.L.bs j).seq=(bAt z.L.bs j).seq
theorem GoneB.ord {z z':Sg} {b:Nat} (h:GoneB z b z') {x x':Pl2} {r r':Pg} (hx:RecAt z' x r) (hx':RecAt z' x' r'):Go.Proofs.YtpmojdippdlcaaaGreatDoor.bef z' x x'↔Go.Proofs.YtpmojdippdlcaaaGreatDoor.bef z x x':=by
 have e:∀ {x r},RecAt z' x r→sqz z' x=sqz z x:=fun hx=>by
  obtain ⟨h1,h2⟩:=h.inv _ _ hx
  obtain ⟨c,j,rfl,_,_⟩:=h1
  unfold sqz
  simp only [Int.toNat_natCast]
  rw [h.sq c (fun e=>h2 (by rw [e]))]
 unfold Go.Proofs.YtpmojdippdlcaaaGreatDoor.bef
 rw [e hx,e hx']
theorem DropG.ok {n k:Nat} {q:Qt} {z z':Sg} {b:Nat} (hw:LW k z) (hb:b<z.L.nb) (hs:(bAt z.L.bs b).seq.toNat≠0) (hl:(b:Int)≠z.L.last) (h:DropG n q z b 0 z') :
  LW k z'∧fr z'=fr z+1∧rm z'=rm z∧GoneB z b z':=by
 obtain ⟨h1,_,_,h4,_,_,h7⟩:=h
 obtain ⟨_,h8,h9,h10⟩:=h7.resolve_right (fun h9=>absurd h9.1 (by decide))
 rw [if_neg hl] at h9
 obtain ⟨S,L,R⟩:=z
 obtain ⟨S',L',R'⟩:=z'
 simp only at h1 h4 h8 h9 h10 hb hs hl
 subst h1 h10
 obtain ⟨x1,x2,nb',last',bs',d'⟩:=L'
 simp only at h4 h8 h9
 subst h4 h9 h8
 have hbl:=Aoo hs
 have hB:∀ j,bAt (L.bs.set b (Ik ((bAt L.bs b).wear+1))) j=if j=b then Ik ((bAt L.bs b).wear+1) else bAt L.bs j:=fun j=>Dq hbl
 have hz:(bAt (L.bs.set b (Ik ((bAt L.bs b).wear+1))) b).seq.toNat=0:=by rw [hB,if_pos rfl];rfl
 have ho:∀ j,j≠b→(bAt (L.bs.set b (Ik ((bAt L.bs b).wear+1))) j).seq=(bAt L.bs j).seq:=fun j hj=>by rw [hB,if_neg hj]
 refine ⟨⟨fun j hj=> ?_,fun j hj hz2=> ?_,?_,fun j hj=> ?_⟩,?_,?_,⟨rfl,rfl,fun x r hx hne=> ?_,fun x r hx=> ?_,ho⟩⟩
 ·show (upR R b [] j).length≤6
  by_cases e:j=b
  ·subst e;rw [Hc];exact Nat.zero_le _
  ·rw [Em e];exact hw.rl j hj
 ·show upR R b [] j=[]
  by_cases e:j=b
  ·subst e;exact Hc
  ·rw [Em e];exact hw.z0 j hj (by show (bAt L.bs j).seq.toNat=0;rw [← ho j e];exact hz2)
 ·rcases hw.lst with ⟨q1,q2⟩ | ⟨l,q1,q2,q3,q4⟩
  ·exact absurd (q2 b hb) hs
  ·have hlb:l≠b:=fun e=>hl (by subst e;exact q1.symm)
   refine .inr ⟨l,q1,q2,?_,fun j hj hne=> ?_⟩
   ·show (bAt (L.bs.set b _) l).seq.toNat≠0
    rw [ho l hlb];exact q3
   ·show (bAt (L.bs.set b _) j).seq.toNat<(bAt (L.bs.set b _) l).seq.toNat
    rw [ho l hlb]
    by_cases e:j=b
    ·subst e;rw [hz];have:(bAt L.bs l).seq.toNat≠0:=q3;omega
    ·rw [ho j e];exact q4 j hj hne
 ·show (bAt (L.bs.set b _) j).seq.toNat≤k
  by_cases e:j=b
  ·subst e;rw [hz];exact Nat.zero_le _
  ·rw [ho j e];exact hw.top j hj
 ·show Cb (L.bs.set b _) L.nb=Cb L.bs L.nb+1
  exact (Mi hz hs L.nb hb fun j hj hne=>by rw [ho j hne]).symm
 ·rcases hw.lst with ⟨q1,q2⟩ | ⟨l,q1,q2,q3,q4⟩
  ·exact absurd (q2 b hb) hs
  ·have hlb:l≠b:=fun e=>hl (by subst e;exact q1.symm)
   refine (Uw (l:=l) (z:=⟨S',⟨x1,x2,L.nb,L.last,L.bs.set b (Ik ((bAt L.bs b).wear+1)),d'⟩,upR R b []⟩) q1).trans ?_
   rw [Uw (l:=l) q1]
   simp only
   rw [hB,if_neg hlb,Em hlb]
 ·obtain ⟨c,j,rfl,h1,h2⟩:=hx
  refine ⟨c,j,rfl,h1,?_⟩
  show (upR R b [] c)[j]? =_
  rw [Em (fun e=>hne (by rw [e]))];exact h2
 ·obtain ⟨c,j,rfl,h1,h2⟩:=hx
  have h2:(upR R b [] c)[j]? =some r:=h2
  by_cases e:c=b
  ·subst e;rw [Hc] at h2;cases h2
  ·rw [Em e] at h2
   exact ⟨⟨c,j,rfl,h1,h2⟩,fun e9=>e (by have e9':(c:Int)=b:=e9;omega)⟩
end
section
open Go.K
set_option maxRecDepth 20000
set_option maxHeartbeats 1000000
structure Kp (I:Sg→Prop):Prop where
  sh:∀ {k:Nat} {z z1:Sg} {x y:Pl2} {p:Pg},LW k z→P0 z→I z→x∈refs z.S→RecAt z x p→(Eb p).2.2.2=0→NewAt z p y z1→FrA z.L.d.c z1.L.d.c→I { z1 with S:=Dd z1.S x y }
  dr:∀ {k:Nat} {z z':Sg} {b:Nat},LW k z→P0 z→I z→(∀ r∈refs z.S,r.1≠b)→GoneB z b z'→FrA z.L.d.c z'.L.d.c→I z'
def DnM (n:Nat) (q:Qt) (I:Sg→Prop) (z':Sg):Prop:=∃ k z1,LW k z1∧P0 z1∧I z1 ∧
  ((∃ x p y,x∈refs z1.S∧RecAt z1 x p∧(Eb p).2.2.2=0∧AppG n q z1 p 30 y z') ∨
   ∃ b:Nat,b<z1.L.nb∧(bAt z1.L.bs b).seq.toNat≠0∧(b:Int)≠z1.L.last∧(∀ r∈refs z1.S,r.1≠b)∧DropG n q z1 b 30 z')
theorem AppG.fra {n:Nat} {q:Qt} {z z':Sg} {p:Pg} {e:Int} {y:Pl2} (h:AppG n q z p e y z'):FrA z.L.d.c z'.L.d.c:=by
  rcases h.2.2.2.2.2 with ⟨_,_,h,_⟩ | h
  · exact h
  · exact h.2.2.2.1
theorem ShR.ok {n k:Nat} {q:Qt} {z z':Sg} {x:Pl2} {p:Pg} {e:Int} (hw:LW k z) (hk:k≤390000000000) (hP:P0 z) (hx:x∈refs z.S) (hr:RecAt z x p) (hg:(Eb p).2.2.2=0) (h:ShR n q z x p e z') (he:e≠30) :
    (e=40∧slots z=0)∨(e=0∧LW (k+1) z'∧slots z'+1=slots z∧P0 z'∧∃ y z1,NewAt z p y z1∧FrA z.L.d.c z1.L.d.c∧z'={ z1 with S:=Dd z1.S x y }∧refs z'.S=(refs z.S).map (mvP x y)):=by
  obtain ⟨y,z1,hA,rfl⟩:=h
  rcases hA.ok hw hk he with h | ⟨rfl,h2,h3,h4,h5⟩
  · exact .inl h
  · rw [if_pos rfl]
    have hR:refs (Dd z1.S x y)=(refs z.S).map (mvP x y):=by rw [Aeu,h5.S]
    refine .inr ⟨rfl,h2.of rfl rfl,h3,fun r hr'=> ?_,y,z1,h5,hA.fra,rfl,hR⟩
    have hr':r∈refs (Dd z1.S x y):=hr'
    rw [hR] at hr'
    obtain ⟨r0,h6,rfl⟩:=List.mem_map.1 hr'
    unfold mvP
    by_cases e:r0=x
    · rw [if_pos e];exact ⟨p,h5.new,hg⟩
    · rw [if_neg e]
      obtain ⟨p0,h7,h8⟩:=hP r0 h6
      exact ⟨p0,(h5.old _ _ h7).1,h8⟩
theorem EmA.keep {n:Nat} {q:Qt} {I:Sg→Prop} (hK:Kp I) {b:Nat} {xs:List Pl2} {e:Int} {z z':Sg} (h:EmA n q xs z e z'):∀ {k:Nat},LW k z→k+xs.length≤390000000000→P0 z→I z→(∀ x∈xs,x.1=b) →
    b<z.L.nb→(bAt z.L.bs b).seq.toNat≠0→(b:Int)≠z.L.last →
    (e=40∧slots z<Gd z.S xs)∨(e=30∧DnM n q I z') ∨
    (e=0∧LW (k+xs.length) z'∧P0 z'∧I z'∧slots z≤slots z'+Gd z.S xs∧(refs z'.S).length=(refs z.S).length∧(∀ r∈refs z'.S,r.1=b→r∈refs z.S∧r∉xs) ∧
      z'.L.nb=z.L.nb∧(bAt z'.L.bs b).seq.toNat≠0∧(b:Int)≠z'.L.last∧z'.R b=z.R b):=by
  induction h with
  | nil=>exact fun hw hk hP hI hb h1 h2 h3=> .inr (.inr ⟨rfl,hw,hP,hI,Nat.le_add_right _ _,rfl,fun r hr _=>⟨hr,by simp⟩,rfl,h2,h3,rfl⟩)
  | @skip x xs z z' e hc _ ih =>
    intro k hw hk hP hI hb h1 h2 h3
    rw [List.length_cons] at hk
    have hcn:Gd z.S (x::xs)=Gd z.S xs:=by unfold Gd;rw [List.countP_cons_of_neg (by rw [hc];decide)]
    rw [hcn]
    rcases ih hw (by omega) hP hI (fun y hy=>hb y (List.mem_cons_of_mem _ hy)) h1 h2 h3 with g | g | ⟨g1,g2,g3,g4,g5,g6,g7,g8⟩
    · exact .inl g
    · exact .inr (.inl g)
    · refine .inr (.inr ⟨g1,g2.mono (by rw [List.length_cons];omega),g3,g4,g5,g6,fun r hr hrb=> ?_,g8⟩)
      obtain ⟨g9,g10⟩:=g7 r hr hrb
      refine ⟨g9,fun h9=> ?_⟩
      rcases List.mem_cons.1 h9 with rfl | h9
      · rw [cntS_iff.2 g9] at hc;cases hc
      · exact g10 h9
  | @stop x xs z z1 e p hc hr hs he =>
    intro k hw hk hP hI hb h1 h2 h3
    obtain ⟨p',hr',hg⟩:=hP x (cntS_iff.1 hc)
    have:=hr.fn hr'
    subst this
    by_cases h30:e=30
    · subst h30
      refine .inr (.inl ⟨rfl,k,z,hw,hP,hI,.inl ?_⟩)
      obtain ⟨y,z2,hA,rfl⟩:=hs
      exact ⟨x,p,y,cntS_iff.1 hc,hr,hg,hA⟩
    · rcases hs.ok hw (by omega) hP (cntS_iff.1 hc) hr hg h30 with ⟨g1,g2⟩ | ⟨g1,_⟩
      · refine .inl ⟨g1,?_⟩
        rw [g2]
        unfold Gd
        rw [List.countP_cons_of_pos hc]
        omega
      · exact absurd g1 he
  | @go x xs z z1 z' e p hc hr hs _ ih =>
    intro k hw hk hP hI hb h1 h2 h3
    rw [List.length_cons] at hk
    obtain ⟨p',hr',hg⟩:=hP x (cntS_iff.1 hc)
    have:=hr.fn hr'
    subst this
    obtain ⟨_,w1,w2,w3,y,z2,w4,w5,rfl,w7⟩:=(hs.ok hw (by omega) hP (cntS_iff.1 hc) hr hg (by decide)).resolve_left (fun h=>absurd h.1 (by decide))
    obtain ⟨v1,v2,v3⟩:=w4.blk b h1 h2 h3
    have hnew:∀ r:Pl2,r.1=(b:Int)→r∈refs (Dd z2.S x y)→r∈refs z.S∧r≠x:=fun r hrb hrm=>by
      have hrm:r∈refs ({ z2 with S:=Dd z2.S x y }:Sg).S:=hrm
      rw [w7] at hrm
      obtain ⟨r0,q1,rfl⟩:=List.mem_map.1 hrm
      unfold mvP at hrb ⊢
      by_cases e:r0=x
      · rw [if_pos e] at hrb;exact absurd hrb v1
      · rw [if_neg e];exact ⟨q1,e⟩
    have hcn:Gd z.S (x::xs)=Gd z.S xs+1:=by unfold Gd;rw [List.countP_cons_of_pos hc]
    have hmono:Gd (Dd z2.S x y) xs≤Gd z.S xs:=by
      refine List.countP_mono_left fun r hr h9=> ?_
      exact cntS_iff.2 (hnew r (hb r (List.mem_cons_of_mem _ hr)) (cntS_iff.1 h9)).1
    have hlen:(refs (Dd z2.S x y)).length=(refs z.S).length:=by
      have:refs (Dd z2.S x y)=(refs z.S).map (mvP x y):=w7
      rw [this,List.length_map]
    have hsq:(bAt z2.L.bs b).seq.toNat≠0:=by rw [w4.sq b h1 h2];exact h2
    rcases ih (k:=k+1) w1 (by omega) w3 (hK.sh hw hP hI (cntS_iff.1 hc) hr hg w4 w5) (fun y hy=>hb y (List.mem_cons_of_mem _ hy)) (by show b<z2.L.nb;rw [w4.nb];exact h1) hsq v2 with ⟨g1,g2⟩ | g | ⟨g1,g2,g3,g4,g5,g6,g7,g8,g9,g10,g11⟩
    · refine .inl ⟨g1,?_⟩
      have g2:slots ({ z2 with S:=Dd z2.S x y }:Sg)<Gd (Dd z2.S x y) xs:=g2
      omega
    · exact .inr (.inl g)
    · refine .inr (.inr ⟨g1,g2.mono (by rw [List.length_cons];omega),g3,g4,?_,g6.trans hlen,fun r hr hrb=> ?_,g8.trans w4.nb,g9,g10,g11.trans v3⟩)
      · have g5:slots ({ z2 with S:=Dd z2.S x y }:Sg)≤slots z'+Gd (Dd z2.S x y) xs:=g5
        omega
      · obtain ⟨q1,q2⟩:=g7 r hr hrb
        obtain ⟨q3,q4⟩:=hnew r hrb q1
        refine ⟨q3,fun h9=> ?_⟩
        rcases List.mem_cons.1 h9 with h9 | h9
        · exact q4 h9
        · exact q2 h9
theorem Ags:Kp fun _=>True:=⟨fun _ _ _ _ _ _ _ _=>trivial,fun _ _ _ _ _ _=>trivial⟩
theorem Ho {b:Int} {r:List Pg} {i:Nat}:∀ x∈Fw b i r,x.1=b:=fun x hx=>by
  obtain ⟨j,p,_,_,rfl⟩:=recZ_mem.1 hx
  rfl
theorem Pi {z z1:Sg} {b:Nat} (hP:P0 z) (h:∀ r∈refs z1.S,r.1=b→r∈refs z.S∧r∉Fw b 2 (z.R b)):∀ r∈refs z1.S,r.1≠b:=fun r hr hrb=>by
  obtain ⟨h1,h2⟩:=h r hr hrb
  obtain ⟨p,⟨c,j,rfl,_,hp⟩,hg⟩:=hP r h1
  have:c=b:=by have e9:(c:Int)=b:=hrb;omega
  subst this
  exact h2 (recZ_mem.2 ⟨j,p,hp,hg,rfl⟩)
theorem Au1 {n k:Nat} {q:Qt} {z:Sg} (hw:LW k z) (hk:k≤380000000000) (hP:P0 z):Aus n q z:=fun b hb hs hl z1 hE j hj=>by
  have hlen:=O8 b (z.R b) 2
  have:=hw.rl b hb
  rcases hE.keep Ags (b:=b) hw (by omega) hP trivial Ho hb hs hl with ⟨h,_⟩ | ⟨h,_⟩ | ⟨_,_,_,_,_,_,h,_⟩
  · cases h
  · cases h
  · refine Ask fun h9=> ?_
    exact Pi hP h _ h9 rfl
theorem Aop {x y:Ldv} (h:Uh x y=true):x.c≤y.c:=by
  unfold Uh at h
  simp only [decide_eq_true_eq] at h
  unfold orF at h
  by_cases e:Ug x.c y.c=0
  · unfold Ug at e
    split at e
    · cases e
    · split at e
      · cases e
      · omega
  · rw [if_neg e] at h
    unfold Ug at h
    split at h
    · omega
    · split at h <;> omega
theorem Aoq {x y:Ldv} (h:Uh x y=false):y.c≤x.c:=by
  unfold Uh at h
  simp only [decide_eq_false_iff_not] at h
  by_cases hl:x.c<y.c
  · exfalso
    apply h
    unfold orF
    have:Ug x.c y.c= -1:=by unfold Ug;rw [if_pos hl]
    rw [this]
    show (if (-1:Int)=0 then _ else (-1:Int))<0
    rw [if_neg (by decide)]
    decide
  · omega
theorem Nq {xs:List Ldv} {but:Int}:∀ {i:Nat} {j:Nat},j<i→(j:Int)≠but→(C2 xs but i).2=true∧(Jf xs (C2 xs but i).1.toNat).c≤(Jf xs j).c
  | 0,j,h,_=>by omega
  | i+1,j,h,hb=>by
    unfold C2
    by_cases hc:(!decide ((i:Int)=but) && (!(C2 xs but i).2 || Uh (Jf xs i) (Jf xs (C2 xs but i).1.toNat)))=true
    · rw [if_pos hc]
      refine ⟨rfl,?_⟩
      simp only [Int.toNat_natCast]
      by_cases e:j=i
      · subst e;exact Int.le_refl _
      · obtain ⟨h1,h2⟩:=Nq (xs:=xs) (i:=i) (j:=j) (by omega) hb
        simp only [Bool.and_eq_true,Bool.or_eq_true,Bool.not_eq_true'] at hc
        rcases hc.2 with h3 | h3
        · rw [h1] at h3;cases h3
        · have:=Aop h3;omega
    · rw [if_neg hc]
      by_cases e:j=i
      · subst e
        simp only [Bool.and_eq_true,Bool.or_eq_true,Bool.not_eq_true',decide_eq_false_iff_not,not_and,not_or,Bool.not_eq_false,Bool.not_eq_true] at hc
        obtain ⟨h1,h2⟩:=hc hb
        exact ⟨h1,Aoq h2⟩
      · exact Nq (by omega) hb
theorem Qv (xs:List Ldv):∀ i j,j<i→(Jf xs j).s.seq.toNat≤(Jf xs (D4 xs i)).s.seq.toNat
  | 0,j,h=>by omega
  | i+1,j,h=>by
    unfold D4
    split
    · rename_i hlt
      by_cases e:j=i
      · subst e;exact Nat.le_refl _
      · have:=Qv xs i j (by omega);omega
    · rename_i hlt
      by_cases e:j=i
      · subst e;omega
      · exact Qv xs i j (by omega)
theorem Pj {S:Sto} {ss:List Seg} {i:Nat} {g:Seg} (h:ss[i]? =some g):Jf (ss.map (ldS S)) i=ldS S g:=by
  unfold Jf
  rw [List.getD_eq_getElem?_getD,List.getElem?_map,h]
  rfl
theorem SegsOf.has {z:Sg} {ss:List Seg} (h:SegsOf z ss) {b:Nat} (hb:b<z.L.nb) (hs:(bAt z.L.bs b).seq.toNat≠0):∃ (i:Nat) (g:Seg),ss[i]? =some g∧g.b=b∧g.seq=(bAt z.L.bs b).seq∧g.recs.list=Fw b 2 (z.R b):=by
  have:((b:Int),(bAt z.L.bs b).seq,(bAt z.L.bs b).wear,Fw b 2 (z.R b))∈ss.map U5:=h.1.mem_iff.2 (segZ_mem.2 ⟨b,hb,hs,rfl⟩)
  obtain ⟨g,hg,hv⟩:=List.mem_map.1 this
  unfold U5 at hv
  simp only [Prod.mk.injEq] at hv
  obtain ⟨i,hi⟩:=List.getElem?_of_mem hg
  exact ⟨i,g,hi,hv.1,hv.2.1,hv.2.2.2⟩
theorem Aor {k:Nat} {z:Sg} {ss:List Seg} (hw:LW k z) (hs:SegsOf z ss) {g:Seg} (hg:ss[D4 (ss.map (ldS z.S)) ss.length]? =some g):g.b=z.L.last:=by
  obtain ⟨b,hb,hsq,hgb,hgs,_,_⟩:=hs.mem (List.mem_of_getElem? hg)
  rcases hw.lst with ⟨_,h2⟩ | ⟨l,h1,h2,h3,h4⟩
  · exact absurd (h2 b hb) hsq
  · obtain ⟨i,g2,e1,e2,e3,_⟩:=hs.has h2 h3
    have hi:=(List.getElem?_eq_some_iff.1 e1).1
    have hm:=Qv (ss.map (ldS z.S)) ss.length i hi
    rw [Pj e1,Pj hg] at hm
    have hm:g2.seq.toNat≤g.seq.toNat:=hm
    rw [e3,hgs] at hm
    by_cases e:b=l
    · subst e;rw [hgb,h1]
    · have:=h4 b hb e;omega
theorem Xe {α:Type} [DecidableEq α]:∀ {xs ys:List α},xs.Nodup→(∀ x∈xs,x∈ys)→xs.length≤ys.length
  | [],ys,_,_=>Nat.zero_le _
  | x::xs,ys,hn,hs=>by
    rw [List.nodup_cons] at hn
    have h1:=hs x List.mem_cons_self
    have h2:=Xe (ys:=ys.erase x) hn.2 fun y hy=>by
      have:y≠x:=fun e=>hn.1 (by rw [← e];exact hy)
      exact (List.mem_erase_of_ne this).2 (hs y (List.mem_cons_of_mem _ hy))
    rw [List.length_erase_of_mem h1] at h2
    have:=List.length_pos_of_mem h1
    rw [List.length_cons]
    omega
theorem Zi (b:Int):∀ (r:List Pg) (i:Nat),(Fw b i r).Nodup∧∀ x∈Fw b i r,(i:Int)≤x.2
  | [],i=>⟨List.nodup_nil,fun x h=>by cases h⟩
  | p::r,i=>by
    obtain ⟨h1,h2⟩:=Zi b r (i+1)
    unfold Fw
    refine ⟨List.nodup_append.2 ⟨by split <;> simp,h1,fun a ha c hc e=> ?_⟩,fun x hx=> ?_⟩
    · split at ha
      · have:=h2 c hc
        rw [← e] at this
        simp only [List.mem_singleton] at ha
        rw [ha] at this
        simp only at this
        omega
      · cases ha
    · rcases List.mem_append.1 hx with h | h
      · split at h
        · simp only [List.mem_singleton] at h;rw [h];exact Int.le_refl _
        · cases h
      · have:=h2 x h;omega
def cz (R:Nat→List Pg):Nat→List Pl2
  | 0=>[]
  | j+1=>cz R j++Fw j 2 (R j)
theorem Ate (R:Nat→List Pg):∀ k,(cz R k).Nodup∧∀ x∈cz R k,x.1<k
  | 0=>⟨List.nodup_nil,fun x h=>by cases h⟩
  | k+1=>by
    obtain ⟨h1,h2⟩:=Ate R k
    unfold cz
    refine ⟨List.nodup_append.2 ⟨h1,(Zi _ _ _).1,fun a ha c hc e=> ?_⟩,fun x hx=> ?_⟩
    · have e1:=Ho c hc
      have e2:=h2 a ha
      rw [e,e1] at e2
      omega
    · rcases List.mem_append.1 hx with h | h
      · have:=h2 x h;omega
      · rw [Ho x h];omega
theorem Aos (S:Sto) (R:Nat→List Pg) (k:Nat):(cz R k).countP (I2 S)≤(refs S).length:=by
  rw [List.countP_eq_length_filter]
  exact Xe ((Ate R k).1.filter _) fun x hx=>cntS_iff.1 (List.mem_filter.1 hx).2
theorem Au2 {z:Sg} (hf:fr z≤1) (hc:(refs z.S).length+20≤6*z.L.nb):∃ b:Nat,b<z.L.nb∧(bAt z.L.bs b).seq.toNat≠0∧(b:Int)≠z.L.last∧Gd z.S (Fw b 2 (z.R b))≤5:=by
  refine Classical.byContradiction fun hn=> ?_
  have hall:∀ b:Nat,b<z.L.nb→(bAt z.L.bs b).seq.toNat≠0→(b:Int)≠z.L.last→6≤Gd z.S (Fw b 2 (z.R b)):=fun b h1 h2 h3=>by
    refine Classical.byContradiction fun h4=>hn ⟨b,h1,h2,h3,by omega⟩
  have key:∀ k,k≤z.L.nb→6*k≤(cz z.R k).countP (I2 z.S)+6*Cb z.L.bs k+(if 0≤z.L.last∧z.L.last<k then 6 else 0):=fun k=>by
    induction k with
    | zero=>exact fun _=>Nat.zero_le _
    | succ k ih =>
      intro hk
      have ih:=ih (by omega)
      rw [F8]
      unfold cz z1
      rw [List.countP_append]
      by_cases h0:(bAt z.L.bs k).seq.toNat=0
      · rw [if_pos h0]
        split at ih <;> split <;> omega
      · rw [if_neg h0]
        by_cases hl:(k:Int)=z.L.last
        · rw [if_neg (by omega)] at ih
          rw [if_pos (by omega)]
          omega
        · have:=hall k (by omega) h0 hl
          unfold Gd at this
          split at ih <;> split <;> omega
  have h1:=key z.L.nb (Nat.le_refl _)
  have h2:=Aos z.S z.R z.L.nb
  have h3:Cb z.L.bs z.L.nb≤1:=hf
  split at h1 <;> omega
theorem Aot {k:Nat} {z:Sg} {ss:List Seg} (hw:LW k z) (hs:SegsOf z ss) (hf:fr z≤1) (hc:(refs z.S).length+20≤6*z.L.nb) :
    (Fv (ss.map (ldS z.S))).2=true∧∀ g,ss[(Fv (ss.map (ldS z.S))).1.toNat]? =some g→Gd z.S g.recs.list≤5:=by
  obtain ⟨b,h1,h2,h3,h4⟩:=Au2 hf hc
  obtain ⟨i,g0,e1,e2,_,e4⟩:=hs.has h1 h2
  have hi:=(List.getElem?_eq_some_iff.1 e1).1
  have hne:(i:Int)≠(D4 (ss.map (ldS z.S)) ss.length:Nat):=fun e=>by
    have:i=D4 (ss.map (ldS z.S)) ss.length:=by omega
    have:=Aor hw hs (g:=g0) (by rw [← this];exact e1)
    rw [e2] at this
    exact h3 this
  obtain ⟨m1,m2⟩:=Nq (xs:=ss.map (ldS z.S)) (but:=(D4 (ss.map (ldS z.S)) ss.length:Nat)) (i:=ss.length) hi hne
  unfold Fv
  rw [List.length_map]
  refine ⟨m1,fun g hg=> ?_⟩
  rw [Pj hg,Pj e1] at m2
  have m2:((Gd z.S g.recs.list:Nat):Int)≤(Gd z.S g0.recs.list:Nat):=m2
  rw [e4] at m2
  omega
theorem ColR.keep {n k:Nat} {q:Qt} {z z':Sg} {e:Int} {I:Sg→Prop} (hK:Kp I) (hw:LW k z) (hk:k≤380000000000) (hP:P0 z) (hI:I z) (hf:fr z=1) (hc:(refs z.S).length+20≤6*z.L.nb) (h:ColR n q z e z') :
    (e=30∧DnM n q I z')∨(e=0∧LW (k+6) z'∧P0 z'∧I z'∧slots z+1≤slots z'∧1≤fr z'∧(refs z'.S).length=(refs z.S).length∧z'.L.nb=z.L.nb):=by
  obtain ⟨ss,hss,h⟩:=h
  obtain ⟨v1,v2⟩:=Aot hw hss (by omega) hc
  rcases h with ⟨h1,_⟩ | ⟨_,g,b,hg,hgb,hnl,hE⟩
  · rw [v1] at h1;cases h1
  have hc5:=v2 g hg
  obtain ⟨b',hb',hsq,hgb',_,_,hrl⟩:=hss.mem (List.mem_of_getElem? hg)
  have:b'=b:=by omega
  subst this
  rw [hrl] at hc5
  have hlen:=O8 b' (z.R b') 2
  have hrl6:=hw.rl b' hb'
  have hsl:6≤slots z:=by unfold slots;omega
  rcases hE with ⟨he,hE⟩ | ⟨z1,hE,hD⟩
  · rcases hE.keep hK (b:=b') hw (by omega) hP hI Ho hb' hsq hnl with ⟨_,g1⟩ | g | ⟨g,_⟩
    · omega
    · exact .inl g
    · exact absurd g he
  · rcases hE.keep hK (b:=b') hw (by omega) hP hI Ho hb' hsq hnl with ⟨g,_⟩ | ⟨g,_⟩ | ⟨_,g2,g3,g4,g5,g6,g7,g8,g9,g10,g11⟩
    · cases g
    · cases g
    have hno:=Pi hP g7
    by_cases h30:e=30
    · subst h30
      exact .inl ⟨rfl,_,z1,g2,g3,g4,.inr ⟨b',by omega,g9,g10,hno,hD⟩⟩
    · have he:e=0:=by rcases hD.2.2.2.2.2.2 with h | h;exact h.1;exact absurd h.1 h30
      subst he
      have hfra:=hD.2.2.2.2.2.1
      obtain ⟨d1,d2,d3,d4⟩:=DropG.ok g2 (by omega) g9 g10 hD
      refine .inr ⟨rfl,d1.mono (by omega),fun r hr=> ?_,hK.dr g2 g3 g4 hno d4 hfra,?_,by omega,by rw [d4.S];exact g6,d4.nb.trans g8⟩
      · rw [d4.S] at hr
        obtain ⟨p,p1,p2⟩:=g3 r hr
        exact ⟨p,d4.old _ _ p1 (hno r hr),p2⟩
      · unfold slots at *
        omega
theorem RoomR.keep {n:Nat} {q:Qt} {m:Nat} {z z':Sg} {e:Int} {I:Sg→Prop} (hK:Kp I) (h:RoomR n q m z e z'):∀ {k:Nat},LW k z→k+6*m≤380000000000→P0 z→I z→1≤fr z→(refs z.S).length+20≤6*z.L.nb→13≤slots z+m →
    (e=30∧DnM n q I z')∨(e=0∧LW (k+6*m) z'∧P0 z'∧I z'∧2≤fr z'∧(refs z'.S).length=(refs z.S).length∧z'.L.nb=z.L.nb):=by
  induction h with
  | @enough m z h=>exact fun hw hk hP hI hf hc hs=> .inr ⟨rfl,hw.mono (by omega),hP,hI,h,rfl,rfl⟩
  | @out z=>exact fun hw hk hP hI hf hc hs=> .inr ⟨rfl,hw,hP,hI,by have:=Aon z;unfold slots at hs;omega,rfl,rfl⟩
  | @stop m z z1 e h1 h2 h3 =>
    intro k hw hk hP hI hf hc hs
    have h1:fr z≤1:=h1
    rcases h2.keep hK hw (by omega) hP hI (by omega) hc with g | ⟨g,_⟩
    · exact .inl g
    · exact absurd g h3
  | @go m z z1 z' e h1 h2 _ ih =>
    intro k hw hk hP hI hf hc hs
    have h1:fr z≤1:=h1
    rcases h2.keep hK hw (by omega) hP hI (by omega) hc with ⟨g,_⟩ | ⟨_,g1,g2,g3,g4,g5,g6,g7⟩
    · cases g
    · rcases ih g1 (by omega) g2 g3 g5 (by rw [g6,g7];exact hc) (by omega) with w | ⟨w1,w2,w3,w4,w5,w6,w7⟩
      · exact .inl w
      · exact .inr ⟨w1,w2.mono (by omega),w3,w4,w5,w6.trans g6,w7.trans g7⟩
theorem PutG.keep {n k:Nat} {q:Qt} {z z':Sg} {p:Pg} {e:Int} {y:Pl2} {I:Sg→Prop} (hK:Kp I) (hw:LW k z) (hk:k≤300000000000) (h40:z.L.nb≤40) (hP:P0 z) (hI:I z) (hf:1≤fr z) (hc:(refs z.S).length+20≤6*z.L.nb) (h:PutG n q z p e y z') :
    (e=30∧(DnM n q I z'∨∃ k' z1,LW k' z1∧P0 z1∧I z1∧2≤fr z1∧AppG n q z1 p 30 y z')) ∨
    (e=0∧∃ k' z1,LW k' z1∧P0 z1∧I z1∧2≤fr z1∧(refs z1.S).length=(refs z.S).length∧z1.L.nb=z.L.nb∧NewAt z1 p y z'∧FrA z1.L.d.c z'.L.d.c∧1≤fr z'∧LW (k+2000) z'):=by
  have hroom:∀ {e z1},RoomR n q (8*z.L.nb) z e z1→_:=fun h=>RoomR.keep hK h hw (by omega) hP hI hf hc (by unfold slots;omega)
  rcases h with ⟨he,h⟩ | ⟨z1,h,hA⟩
  · rcases hroom h with ⟨g1,g2⟩ | ⟨g,_⟩
    · exact .inl ⟨g1,.inl g2⟩
    · exact absurd g he
  · rcases hroom h with ⟨g1,_⟩ | ⟨_,g2,g3,g4,g5,g6,g7⟩
    · cases g1
    by_cases h30:e=30
    · subst h30
      exact .inl ⟨rfl,.inr ⟨_,z1,g2,g3,g4,g5,hA⟩⟩
    · rcases hA.ok g2 (by omega) h30 with ⟨_,w⟩ | ⟨w1,w2,w3,w4,w5⟩
      · unfold slots at w;omega
      · exact .inr ⟨w1,_,z1,g2,g3,g4,g5,g6,g7,w5,hA.fra,by unfold slots at w3;omega,w2.mono (by omega)⟩
theorem Agt {n:Nat} {q:Qt} {z:Sg} (hP:P0 z) (hf:1≤fr z) (hc:(refs z.S).length+20≤6*z.L.nb) (h13:z.L.nb≤13):Y3 n q z:=by
  intro z1 hC ⟨k1,hk1,hW1⟩ hf1
  have key:P0 z1∧1≤fr z1∧(refs z1.S).length=(refs z.S).length∧z1.L.nb=z.L.nb:=by
    clear hW1 hf1
    induction hC with
    | refl=>exact ⟨hP,hf,rfl,rfl⟩
    | @step z1 z2 _ hk hf1 hR ih =>
      obtain ⟨k,hk,hW⟩:=hk
      obtain ⟨i1,i2,i3,i4⟩:=ih
      have hf1:fr z1≤1:=hf1
      rcases hR.keep Ags hW.lw (by omega) i1 trivial (by omega) (by rw [i3,i4];exact hc) with ⟨g,_⟩ | ⟨_,_,g2,_,_,g5,g6,g7⟩
      · cases g
      · exact ⟨g2,g5,g6.trans i3,g7.trans i4⟩
  obtain ⟨k1',k2,k3,k4⟩:=key
  have k2':1≤Cb z1.L.bs z1.L.nb:=k2
  exact ⟨by omega,by omega,Au1 hW1.lw (by omega) k1'⟩
end
end Go.Proofs.YtpmojdippdlcaaaGreatDoor
