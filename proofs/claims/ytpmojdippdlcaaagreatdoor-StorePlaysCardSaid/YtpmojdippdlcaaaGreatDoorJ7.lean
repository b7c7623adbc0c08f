/- every call of any script on a store answers as the document says, while acts of the chip fail, as long as there are spares, and leaves the document's nodes, also when it is opened again; its conditions are the statement's own: the bounds of scripts, bodies and fails; the conditions are the statement's own: part 7. -/
import Derived.Test.YtpmojdippdlcaaaGreatDoorJ5
import Derived.Test.YtpmojdippdlcaaaGreatDoorJ6
set_option linter.unusedVariables false
set_option linter.unusedSimpArgs false
set_option maxRecDepth 100000
set_option maxHeartbeats 1000000
set_option synthInstance.maxSize 4000
set_option synthInstance.maxHeartbeats 400000
namespace Go.Proofs.YtpmojdippdlcaaaGreatDoor
section
open Go.K
variable {T:TypeId}
instance fldt57_1:FldT Tryz.prog 57 1 1 54:=⟨⟨_,_,Tryz.underlying57,rfl,rfl,rfl⟩⟩
section
variable {n k:Nat} {q:Qt} {A:Ab} {z:Sg} {r:RSt}
theorem RSame.live {nb:Nat} (h:RSame A nb r) (hA:Std A z):Jw r 256=A.last.lv:=Azv fun k hk=>by
 have h1:=(h.nd k hk).1
 rw [hA.live] at h1
 rw [Sh r 256 (A6h _),Gi hk,A33,h1,A5p (show (k:Int)<((256:Nat):Int) by omega)]
 simp
theorem RsOk.nthBd (h:RsOk r) {k o:Nat} (hk:k<256) (ho:o=k*3+2):nth (rsC r) o=some (Hd r k).body.val:=by
 subst ho
 have hg:r.nd[k]? =some (Hd r k):=by
  unfold Hd
  rw [A18,A2i (by rw [h.nd];exact hk)]
  rfl
 unfold rsC
 rw [Pk (by rw [h.ndl];omega),Lf (n:=3) (fun x _=>Aje x) hg (by omega)]
 rfl
theorem RsOk.nd_at (h:RsOk r) {k:Nat} (hk:k<256):r.nd[k]? =some (Hd r k):=by
 unfold Hd
 rw [A18,A2i (by rw [h.nd];exact hk)]
 rfl
theorem Awu {l:List Nd} {i:Nat} {x:Nd} (h:l[i]? =some x):Sub (x.body.hp tU8) (C8 l):=fun y hy=>by
 unfold C8
 exact List.mem_flatMap.2 ⟨x,A3b h,hy⟩
theorem A1i {th a b c:Bool} (h1:th=a) (h2:th=false→b=true) (hc:c=false) (h:(!(th == a) || !th && !b || c)=true):False:=by
 subst h1 hc
 cases th
 ·simp [h2 rfl] at h
 ·simp at h
theorem Ae4 {d:Nat} (hA:Std A z) (hw:WI n k q z) (hr:RSame A z.L.nb r):Does Tryz.prog 35 [ptr z.S.st,ptr d] (Cz T::(z.S.st,true,C (stC z.S) tSt)::(z.S.ib,true,z.S.idx.obj .i64)::(z.S.pb,true,z.S.pend.obj .i64)::(lgH z.L++((d,true,C (rsC r) tRs)::(C8 r.nd++[]))))
  (Is (.bool true) (Cz T::(z.S.st,true,C (stC z.S) tSt)::(z.S.ib,true,z.S.idx.obj .i64)::(z.S.pb,true,z.S.pend.obj .i64)::(lgH z.L++((d,true,C (rsC r) tRs)::(C8 r.nd++[]))))):=by
 have hep:r.ep=z.S.last.ep:=by rw [hr.ep,hA.rz.last]
 have hvw:r.vw=z.S.vw:=by rw [hr.vw,hA.rz.vw]
 have hvd:r.viewed=z.S.viewed:=by rw [hr.viewed,hA.rz.viewed]
 have hlv:Jw r 256=z.S.last.lv:=by rw [hr.live hA,hA.rz.last]
 have hse:¬ z.S.seen.toNat<z.S.last.ep.toNat:=by have:=hA.ls;rw [hA.seen,hA.rz.last];omega
 have hhu:=hA.hurt
 refine Kf (n:=171) Tryz.func35 Tryz.ntmps35 rfl (A25 rfl)<|An<|Ad fun ops=>oA rfl<|Ag<|n_K<|An<|Ad fun ops=>oM rfl ?_
 refine Ir rfl (Avg (S:=z.S)) sP rfl aQ ?_
 refine oM rfl<|oE rfl rfl<|oE rfl rfl ?_
 refine Ah rfl fun b5=> ?_
 refine Ac rfl rfl uD rfl rfl rfl ?_
 refine oA rfl<|Ag<|n_K<|An<|Ad fun ops=>oM rfl ?_
 refine Ir rfl (Avh (S:=z.S)) sP rfl aQ ?_
 refine Ah rfl fun b7=> ?_
 rw [show [Value.int .u64 0]++List.replicate 32 (Value.int .u8 0)++[Value.int .u32 0]=cmC cm0 by kernel_rfl]
 first | refine Ac rfl rfl uD (L7) (Bj) (Oz (by first | exact Bj | exact A20 ..)) ?_ | refine Ac rfl rfl uD rfl rfl rfl ?_
 refine Ag<|n_K<|An<|An ?_
 refine Ja [(7,27),(12,32),(20,40),(28,48),(37,57),(45,65),(52,72),(61,81)] [(6,[(0,false),(2,false),(3,false),(4,false),(5,false),(1,true)]),(8,[(6,false),(7,false)]),(12,[(8,false),(9,true),(10,false),(11,false)]),(37,[(12,false),(13,false),(14,false),(15,false),(16,false),(17,false),(18,false),(19,false),(20,false),(21,false),(22,false),(23,false),(24,false),(25,false),(26,false),(27,false),(28,false),(29,false),(30,false),(31,false),(32,false),(33,false),(34,false),(35,false),(36,false)]),(45,[(37,false),(38,false),(40,false),(39,true),(41,true),(42,false),(43,false),(44,false)]),(52,[(45,false),(46,false),(47,false),(48,false),(49,true),(50,false),(51,false)]),(61,[(52,false),(53,false),(55,false),(56,false),(57,false),(58,false),(54,true),(59,false),(60,false)]),(68,[(61,false),(62,false),(64,false),(63,true),(65,true),(66,false),(67,false)])] (by kernel_rfl) rfl fun ops w0 H0 y=> ?_
 refine Dq<|xM rfl<|xM rfl<|xN rfl<|xF rfl ?_
 refine xR (show Rd _ _ _ _ (wv z.S.last.ep) from by rw [← hep];exact Al rfl mM hr.ok.nthE) ?_
 refine B7 ?_
 refine Ir rfl (Qs (S:=z.S)) sP rfl aQ ?_
 refine Ag ⟨rfl,⟨_,sP⟩,?_⟩
 refine Av<|Dq<|xR (Au rfl rfl rfl)<|xM rfl<|Av<|Dq ?_
 refine' Px (j:=7) (k:=3) y rfl rfl rfl rfl rfl rfl rfl (fun hg27=> ?_) ?_
 rotate_left
 ·try (simp at hg27;show _)
  refine x_g y rfl rfl ?_
  refine xM rfl ?_
  refine x_g y rfl rfl ?_
  refine B7 ?_
  refine Ir rfl (Aqp (S:=z.S)) sP rfl aQ ?_
  refine Ag ⟨rfl,⟨_,sP⟩,?_⟩
  refine x_g y rfl rfl ?_
  refine xR (D5 rfl) ?_
  exact Av ⟨rfl,⟨_,sP⟩⟩
 refine Av<|Dq<|xM rfl ?_
 refine' Px (j:=12) (k:=6) y rfl rfl rfl rfl rfl rfl rfl (fun hg32=> ?_) ?_
 rotate_left
 ·try (simp at hg32;show _)
  refine x_g y rfl rfl ?_
  refine xR (Ao rfl mM rfl) ?_
  refine x_g y rfl rfl ?_
  refine xM rfl ?_
  refine x_g y rfl rfl ?_
  refine xN rfl ?_
  refine x_g y rfl rfl ?_
  refine xF rfl ?_
  refine x_g y rfl rfl ?_
  refine xR (show Rd _ _ _ _ (.agg (vwC z.S.vw).toArray) from by rw [← hvw];exact Ao rfl mM hr.ok.cutV) ?_
  refine x_g y rfl rfl ?_
  refine xR (Vc rfl rfl (A1f _)) ?_
  exact Av ⟨rfl,⟨_,sP⟩⟩
 refine xM rfl ?_
 refine' Px (j:=20) (k:=6) y rfl rfl rfl rfl rfl rfl rfl (fun hg40=> ?_) ?_
 rotate_left
 ·try (simp at hg40;show _)
  refine x_g y rfl rfl ?_
  refine xM rfl ?_
  refine x_g y rfl rfl ?_
  refine xM rfl ?_
  refine x_g y rfl rfl ?_
  refine xN rfl ?_
  refine x_g y rfl rfl ?_
  refine xF rfl ?_
  refine x_g y rfl rfl ?_
  refine xR (show Rd _ _ _ _ (.bool z.S.viewed) from by rw [← hvd];exact Al rfl mM hr.ok.nthB) ?_
  refine x_g y rfl rfl ?_
  refine xR (Afu rfl rfl) ?_
  exact Av ⟨rfl,⟨_,sP⟩⟩
 refine xM rfl ?_
 refine' Px (j:=28) (k:=7) y rfl rfl rfl rfl rfl rfl rfl (fun hg48=> ?_) ?_
 rotate_left
 ·try (simp at hg48;show _)
  refine x_g y rfl rfl ?_
  refine xF rfl ?_
  refine x_g y rfl rfl ?_
  refine xR (Al rfl mM rfl) ?_
  refine x_g y rfl rfl ?_
  refine xM rfl ?_
  refine x_g y rfl rfl ?_
  refine xN rfl ?_
  refine x_g y rfl rfl ?_
  refine xF rfl ?_
  refine x_g y rfl rfl ?_
  refine xR (show Rd _ _ _ _ (wv z.S.last.ep) from by rw [← hep];exact Al rfl mM hr.ok.nthE) ?_
  refine x_g y rfl rfl ?_
  refine xR (Au rfl rfl rfl) ?_
  exact Av ⟨rfl,⟨_,sP⟩⟩
 refine Av<|Dq<|xM rfl ?_
 refine' Px (j:=37) (k:=6) y rfl rfl rfl rfl rfl rfl rfl (fun hg57=> ?_) ?_
 rotate_left
 ·try (simp at hg57;show _)
  refine x_g y rfl rfl ?_
  refine xM rfl ?_
  refine x_g y rfl rfl ?_
  refine xM rfl ?_
  refine x_g y rfl rfl ?_
  refine B7 ?_
  refine Ir rfl (Aeb (S:=z.S)) sP rfl aQ ?_
  refine Ag ⟨rfl,⟨_,sP⟩,?_⟩
  refine x_g y rfl rfl ?_
  refine B7 ?_
  refine Ir rfl (Asa hr.ok) sP rfl aQ ?_
  refine Ag ⟨rfl,⟨_,sP⟩,?_⟩
  refine x_g y rfl rfl ?_
  refine xR (show Rd _ _ _ _ (.agg (vbc z.S.last.lv).toArray) from by rw [← hlv];exact At2 rfl (V0 _)) ?_
  refine x_g y rfl rfl ?_
  refine xR (Vc rfl rfl (Axc _)) ?_
  exact Av ⟨rfl,⟨_,sP⟩⟩
 refine Av<|Dq<|xM rfl ?_
 refine' Px (j:=45) (k:=5) y rfl rfl rfl rfl rfl rfl rfl (fun hg65=> ?_) ?_
 rotate_left
 ·try (simp at hg65;show _)
  refine x_g y rfl rfl ?_
  refine xF rfl ?_
  refine x_g y rfl rfl ?_
  refine xR (Ao rfl mM (V0 _)) ?_
  refine x_g y rfl rfl ?_
  refine xM rfl ?_
  refine x_g y rfl rfl ?_
  refine B7 ?_
  refine Ir rfl (Aeb (S:=z.S)) sP rfl aQ ?_
  refine Ag ⟨rfl,⟨_,sP⟩,?_⟩
  refine x_g y rfl rfl ?_
  refine xR (Vc rfl rfl (Axc _)) ?_
  exact Av ⟨rfl,⟨_,sP⟩⟩
 refine Av<|Dq<|xM rfl ?_
 refine' Px (j:=52) (k:=7) y rfl rfl rfl rfl rfl rfl rfl (fun hg72=> ?_) ?_
 rotate_left
 ·try (simp at hg72;show _)
  refine x_g y rfl rfl ?_
  refine xM rfl ?_
  refine x_g y rfl rfl ?_
  refine xM rfl ?_
  refine x_g y rfl rfl ?_
  refine xN rfl ?_
  refine x_g y rfl rfl ?_
  refine xF rfl ?_
  refine x_g y rfl rfl ?_
  refine xR (show Rd _ _ _ _ (.int .i64 (In z.L.nb)) from by rw [← hr.lim];exact Al rfl mM hr.ok.nthL) ?_
  refine x_g y rfl rfl ?_
  refine B7 ?_
  refine Ir rfl (Aec hw) sP rfl aQ ?_
  refine Ag ⟨rfl,⟨_,sP⟩,?_⟩
  refine x_g y rfl rfl ?_
  refine xR (Au rfl rfl rfl) ?_
  exact Av ⟨rfl,⟨_,sP⟩⟩
 refine Av<|Dq<|xM rfl ?_
 refine' Px (j:=61) (k:=5) y rfl rfl rfl rfl rfl rfl rfl (fun hg81=> ?_) ?_
 rotate_left
 ·try (simp at hg81;show _)
  refine x_g y rfl rfl ?_
  refine xM rfl ?_
  refine x_g y rfl rfl ?_
  refine xM rfl ?_
  refine x_g y rfl rfl ?_
  refine B7 ?_
  refine Ir rfl (Tz (S:=z.S)) sP rfl aQ ?_
  refine Ag ⟨rfl,⟨_,sP⟩,?_⟩
  refine x_g y rfl rfl ?_
  refine B7 ?_
  refine Ir rfl (Qs (S:=z.S)) sP rfl aQ ?_
  refine Ag ⟨rfl,⟨_,sP⟩,?_⟩
  refine x_g y rfl rfl ?_
  refine xR (Au rfl rfl rfl) ?_
  exact Av ⟨rfl,⟨_,sP⟩⟩
 refine Av<|Jq<|n_K ?_
 refine Aa rfl (fun c87=> ?_) (fun c87=> ?_)
 ·skip
  exact absurd c87 (by simp;exact ⟨hhu,by omega⟩)
 ·skip
  refine Cg<|n_K<|An<|An<|Ad fun ops=>oA rfl<|Ag<|n_K<|Ct ?_
  refine Ar [0,1] kQ (fun (j:Int)=>[(8,.int .i64 j)]) (fun (j:Int)=>(Cz T::(z.S.st,true,C (stC z.S) tSt)::(z.S.ib,true,z.S.idx.obj .i64)::(z.S.pb,true,z.S.pend.obj .i64)::(lgH z.L++((d,true,C (rsC r) tRs)::(C8 r.nd++[]))))) (fun (j:Int)=> -1≤j∧j≤257) (fun (j:Int)=>(257 - j).toNat) ((-1:Int)) ⟨by omega,by omega⟩ kP sP ?_
  rintro j ⟨g0,g1⟩
  refine An<|An<|Ad fun ops=>oM rfl<|oR (Au rfl rfl rfl)<|Ag<|n_K ?_
  refine Aa rfl (fun c89=> ?_) (fun c89=> ?_)
  ·simp only [A4f,A2m] at c89
   obtain ⟨th,hth⟩:∃ th:Bool,th=(A.ix j).isSome:=⟨_,rfl⟩
   have hno:¬ (0≤j∧j<256)→th=false:=(fun h9=>by rw [hth,hA.live];unfold Bg;rw [show Cd j=false from by unfold Cd;simp;omega];rfl)
   refine Cg<|n_K<|An<|Ct<|An<|Ad fun ops=>oM rfl<|oM rfl ?_
   refine Ch rfl (Aeu hA hw (key:=j)) sP rfl fun v95 Y95 h95=> ?_
   obtain ⟨s,ky,en,er,rfl,rfl,hN⟩:=h95
   have h1:th=decide (er=0)∧(th=false→er=61)∧(th=true→ky=j∧A.ix j=some (en,s.list)):=(by rcases hN with ⟨a1,a2,_⟩ | ⟨a1,a2,a3,_⟩;(rw [hth,a1,a2];simp);(rw [hth,a3,a1];simp [a2]))
   have hV:(decide (0≤j) && decide (j<256) && th)=th:=(by by_cases h8:0≤j∧j<256;(rw [A5p h8.1,A5p h8.2];rfl);(rw [hno h8,Bool.and_false]))
   have h2:th=true→s.list=(Hd r j.toNat).body.list∧(Hd r j.toNat).ep.toNat≤en.toNat∧en.toNat≤z.S.last.ep.toNat:=(fun h9=>by obtain ⟨a1,a2⟩:=h1.2.2 h9;have h8:0≤j∧j<256:=(by apply A2c;intro h7;rw [hno h7] at h9;cases h9);obtain ⟨m,hm⟩:∃ m:Nat,j=m:=⟨j.toNat,by omega⟩;subst hm;rw [A33];obtain ⟨b1,b2⟩:=(hr.nd m (by omega)).2 _ _ a2;have b3:=hA.ep _ _ _ a2;rw [hA.rz.last];exact ⟨b1.symm,b2,b3⟩)
   refine A6 aQ ?_
   refine oM rfl<|oE rfl rfl<|oE rfl rfl<|oE rfl rfl ?_
   refine Ah rfl fun b9=> ?_
   refine Ac rfl rfl uD rfl rfl rfl ?_
   refine oA rfl<|oA rfl<|Ag<|n_K<|An ?_
   refine H8 [(2,101),(6,105)] rfl fun ops y=> ?_
   refine oM rfl<|oR (Au rfl rfl rfl)<|oM rfl ?_
   refine' U5 (j:=2) (k:=2) y rfl rfl rfl rfl rfl rfl rfl (fun hg101=> ?_) ?_
   rotate_left
   ·try (simp at hg101;show _)
    refine o_g y rfl rfl ?_
    refine oM rfl ?_
    refine o_g y rfl rfl ?_
    refine oR (Au rfl rfl rfl) ?_
    exact Ag ⟨rfl,rfl,⟨_,sP⟩⟩
   refine oM rfl ?_
   refine' U5 (j:=6) (k:=6) y rfl rfl rfl rfl rfl rfl rfl (fun hg105=> ?_) ?_
   rotate_left
   ·try (simp at hg105;show _)
    refine o_g y rfl rfl ?_
    refine oM rfl ?_
    refine o_g y rfl rfl ?_
    refine oM rfl ?_
    refine o_g y rfl rfl ?_
    refine oN rfl ?_
    refine o_g y rfl rfl ?_
    refine oF rfl ?_
    refine o_g y rfl rfl ?_
    refine oR (G3 rfl rfl (by omega)) ?_
    refine o_g y rfl rfl ?_
    refine oR (show Rd _ _ _ _ (.bool th) from by obtain ⟨m,hm⟩:∃ m:Nat,j=m:=⟨j.toNat,by omega⟩;subst hm;rw [hth,← (hr.nd m (by omega)).1];exact Al rfl mM (hr.ok.nthTh (k:=m) (by omega) (by simp only [A33];omega))) ?_
    exact Ag ⟨rfl,rfl,⟨_,sP⟩⟩
   refine oA rfl<|Ag<|n_K<|An<|An ?_
   refine H8 [(4,117),(7,120),(12,125)] rfl fun ops y=> ?_
   refine oM rfl<|oM rfl<|oR (Au rfl rfl rfl)<|oR (Afu rfl rfl)<|oM rfl ?_
   refine' Afx (j:=4) (k:=6) y rfl rfl rfl rfl rfl rfl rfl (fun hg117=> ?_) ?_
   rotate_left
   ·try (simp at hg117;show _)
    refine o_g y rfl rfl ?_
    refine oM rfl ?_
    refine o_g y rfl rfl ?_
    refine oR (D5 rfl) ?_
    refine o_g y rfl rfl ?_
    refine oM rfl ?_
    refine' U5 (j:=7) (k:=2) y rfl rfl rfl rfl rfl rfl rfl (fun hg120=> ?_) ?_
    rotate_left
    ·try (simp at hg120;show _)
     refine o_g y rfl rfl ?_
     refine oM rfl ?_
     refine o_g y rfl rfl ?_
     refine oR (Au rfl rfl rfl) ?_
     exact Ag ⟨rfl,rfl,⟨_,sP⟩⟩
    exact Ag ⟨rfl,rfl,⟨_,sP⟩⟩
   refine oM rfl ?_
   refine' Afx (j:=12) (k:=2) y rfl rfl rfl rfl rfl rfl rfl (fun hg125=> ?_) ?_
   rotate_left
   ·try (simp at hg125;show _)
    refine o_g y rfl rfl ?_
    refine oM rfl ?_
    refine o_g y rfl rfl ?_
    refine oR (Au rfl rfl rfl) ?_
    exact Ag ⟨rfl,rfl,⟨_,sP⟩⟩
   refine Ag<|n_K ?_
   refine Aa rfl (fun c128=> ?_) (fun c128=> ?_)
   ·skip
    have h9:=c128;rw [hV] at h9;exact (A1i h1.1 (fun h8=>A5p (h1.2.1 h8)) rfl h9).elim
   ·skip
    refine Cg<|n_K<|An ?_
    refine Ja [(1,130),(6,135),(20,149),(29,158)] [(42,[(0,false),(1,false),(2,false),(3,false),(4,false),(5,false),(6,false),(7,false),(8,false),(9,false),(10,false),(11,false),(12,false),(13,false),(14,false),(15,false),(16,false),(17,false),(18,false),(19,false),(20,false),(21,false),(22,false),(23,false),(24,false),(25,false),(26,false),(27,false),(28,false),(29,false),(30,false),(31,false),(32,false),(33,false),(34,false),(35,false),(36,false),(37,false),(38,false),(39,false),(40,false),(41,false)])] (by kernel_rfl) rfl fun ops w0 H0 y=> ?_
    refine Dq<|xM rfl<|xM rfl ?_
    refine' Aok (j:=1) (k:=39) y rfl rfl rfl rfl rfl rfl rfl (fun hg130=> ?_) ?_
    rotate_left
    ·try (simp at hg130;show _)
     refine x_g y rfl rfl ?_
     refine xF rfl ?_
     refine x_g y rfl rfl ?_
     refine xR (Al rfl mM rfl) ?_
     refine x_g y rfl rfl ?_
     refine xM rfl ?_
     refine x_g y rfl rfl ?_
     refine xR (Au rfl rfl rfl) ?_
     refine x_g y rfl rfl ?_
     refine xM rfl ?_
     refine' Px (j:=6) (k:=12) y rfl rfl rfl rfl rfl rfl rfl (fun hg135=> ?_) ?_
     rotate_left
     ·try (simp at hg135;show _)
      refine x_g y rfl rfl ?_
      refine xF rfl ?_
      refine x_g y rfl rfl ?_
      refine xR (Al rfl mM rfl) ?_
      refine x_g y rfl rfl ?_
      refine xR (H6 (v:=s) (T:=tU8) rfl (PickL.toSub (L:=s.hp tU8) pL)) ?_
      refine x_g y rfl rfl ?_
      refine xM rfl ?_
      refine x_g y rfl rfl ?_
      refine xM rfl ?_
      refine x_g y rfl rfl ?_
      refine xN rfl ?_
      refine x_g y rfl rfl ?_
      refine xF rfl ?_
      refine x_g y rfl rfl ?_
      refine xR (G3 rfl rfl (by omega)) ?_
      refine x_g y rfl rfl ?_
      refine xF rfl ?_
      refine x_g y rfl rfl ?_
      refine xR (Al rfl mM (hr.ok.nthBd (k:=j.toNat) (by omega) (by omega))) ?_
      refine x_g y rfl rfl ?_
      refine xR (H6 (v:=(Hd r j.toNat).body) (T:=tU8) rfl (fun x hx=>PickL.toSub (L:=C8 r.nd) pL x (Awu (hr.ok.nd_at (by omega)) x hx))) ?_
      refine x_g y rfl rfl ?_
      refine xR (Ama rfl rfl (h2 (by simp_all)).1) ?_
      exact Av ⟨rfl,⟨_,sP⟩⟩
     refine x_g y rfl rfl ?_
     refine xM rfl ?_
     refine' Px (j:=20) (k:=7) y rfl rfl rfl rfl rfl rfl rfl (fun hg149=> ?_) ?_
     rotate_left
     ·try (simp at hg149;show _)
      refine x_g y rfl rfl ?_
      refine xF rfl ?_
      refine x_g y rfl rfl ?_
      refine xR (Al rfl mM rfl) ?_
      refine x_g y rfl rfl ?_
      refine xM rfl ?_
      refine x_g y rfl rfl ?_
      refine xN rfl ?_
      refine x_g y rfl rfl ?_
      refine xF rfl ?_
      refine x_g y rfl rfl ?_
      refine xR (show Rd _ _ _ _ (wv z.S.last.ep) from by rw [← hep];exact Al rfl mM hr.ok.nthE) ?_
      refine x_g y rfl rfl ?_
      refine xR (Au rfl rfl rfl) ?_
      exact Av ⟨rfl,⟨_,sP⟩⟩
     refine x_g y rfl rfl ?_
     refine xM rfl ?_
     refine' Px (j:=29) (k:=10) y rfl rfl rfl rfl rfl rfl rfl (fun hg158=> ?_) ?_
     rotate_left
     ·try (simp at hg158;show _)
      refine x_g y rfl rfl ?_
      refine xF rfl ?_
      refine x_g y rfl rfl ?_
      refine xR (Al rfl mM rfl) ?_
      refine x_g y rfl rfl ?_
      refine xM rfl ?_
      refine x_g y rfl rfl ?_
      refine xM rfl ?_
      refine x_g y rfl rfl ?_
      refine xN rfl ?_
      refine x_g y rfl rfl ?_
      refine xF rfl ?_
      refine x_g y rfl rfl ?_
      refine xR (G3 rfl rfl (by omega)) ?_
      refine x_g y rfl rfl ?_
      refine xF rfl ?_
      refine x_g y rfl rfl ?_
      refine xR (Al rfl mM (hr.ok.nthEp (k:=j.toNat) (by omega) (by omega))) ?_
      refine x_g y rfl rfl ?_
      refine xR (Au rfl rfl rfl) ?_
      exact Av ⟨rfl,⟨_,sP⟩⟩
     exact Av ⟨rfl,⟨_,sP⟩⟩
    refine Av<|Jq<|n_K ?_
    refine Aa rfl (fun c170=> ?_) (fun c170=> ?_)
    ·skip
     have h9:=c170;rw [hV] at h9;simp only [A4k,A40,A32,A4f,A2m,A3q,or_false] at h9;obtain ⟨h8,h7⟩:=h9;obtain ⟨q1,_⟩:=h1.2.2 h8;obtain ⟨_,q2,q3⟩:=h2 h8;exfalso;(try simp only at h7);omega
    ·skip
     refine Cg<|Eh<|n_K<|Ad fun ops=>oM rfl ?_
     refine oR (B5 rfl rfl (by omega)) ?_
     refine oA rfl<|Ag<|n_K ?_
     exact ⟨j+1,⟨by omega,by omega⟩,by omega,lZ⟩
  ·simp only [A4f,A2m] at c89
   refine Jy<|x_K<|x_K<|N4<|n_K<|An<|Ad fun ops=>oA rfl<|Ag<|n_K<|Im ?_
   refine Ak (Aw Tryz.results35 (Af rfl)) ?_ sP
   rfl
end
end
end Go.Proofs.YtpmojdippdlcaaaGreatDoor
