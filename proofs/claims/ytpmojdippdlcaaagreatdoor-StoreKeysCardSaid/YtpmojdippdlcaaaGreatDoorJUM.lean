/- What is changed in one node changes no other one;the conditions are the statement's own. -/
import Derived.Test.YtpmojdippdlcaaaGreatDoorJ5
import Derived.Test.YtpmojdippdlcaaaGreatDoorJ6
set_option linter.unusedVariables false
set_option linter.unusedSimpArgs false
set_option maxRecDepth 100000
set_option maxHeartbeats 1000000
set_option synthInstance.maxSize 4000
set_option synthInstance.maxHeartbeats 400000
namespace Go.Proofs.YtpmojdippdlcaaaGreatDoor
section
open Go.ChangeShapes Go.WideShapes Go.ChangeAt Go.RowKit Go.K
set_option linter.constructorNameAsVariable false
theorem Al1 {H:Type} {W:World} {enc:TypeId×Value→H} {base:Nat} {T:TypeId} (hT:HpOk [Cn T] W) {v0 v1 v2:Value} {d0 d1 d2:DataW H} {p0 p1 p2:List MemPlace}
  (o0:Value.okWide Tryz.prog W .any base 22 v0) (h0:DataW.Trod enc Tryz.prog W 0 (fun _=>true) true 22 v0 d0 p0)
  (o1:Value.okWide Tryz.prog W .any base 3 v1) (h1:DataW.Trod enc Tryz.prog W 0 (fun _=>true) true 3 v1 d1 p1)
  (o2:Value.okWide Tryz.prog W .any base 23 v2) (h2:DataW.Trod enc Tryz.prog W 0 (fun _=>true) true 23 v2 d2 p2) :
  Calls Tryz.prog 3 #[v0,v1,v2] W fun e W'=>e= .returned (.bool true)∧∃ L L',Trk W W' L L'∧∀ x∈L,x.2.1=false:=by
 obtain ⟨x0,rfl,k0,m0⟩:=Wg o0 h0
 obtain ⟨x1,rfl⟩:=Avf o1
 obtain ⟨x2,rfl,k2,_⟩:=Ads (α:=By) Tryz.underlying23 (by kernel_rfl) (by decide) (fun _=>[]) Aer tU8 o2 h2
 obtain ⟨r1,r2⟩:=k0.app (m0.app (k2.app (M:=[Cn T]) ⟨hT,fun x hx=>by rw [A2z.1 hx]⟩))
 exact Aij (L:=x0.hp tOs++(opH x0.list++(x2.hp tU8++(Cn T::[])))) r1 r2 (L':=[]) Arp
set_option maxRecDepth 100000 in
theorem R6 (os:Os) (started:os.Started) (H:Type) (enc:TypeId×Value→H) :
  ReturnsInHanded {} Tryz.checked os 3 .any (fun w args=>(Rows.storeKeysSpec.pre enc Tryz.prog Tryz.f3 Rows.storeKeysRow.domain false w args∧laidMet Tryz.prog Rows.storeKeysRow.laid w)∧sizedMet enc Tryz.prog Tryz.f3 (OpenSpec.ofChange Rows.storeKeysSpec) false w args)
   (Rows.storeKeysSpec.post enc Tryz.prog Tryz.f3 false true false false):=by
 refine returnsInHanded_of_change_and (C:=Tryz.checked) (X:=fun w _=>laidMet Tryz.prog Rows.storeKeysRow.laid w) (fun _ _ _ hh h=>h.of_heap hh) own started (by kernel_rfl) Tryz.func3
  (ChangeSpec.witness_at (enc:=enc) (C:=Tryz.checked) (os:=os) (X:=fun w _=>laidMet Tryz.prog Rows.storeKeysRow.laid w) false (R5 os) #[.slice none 0 0,.int .i64 0,.slice none 0 0] 8 rfl (by kernel_rfl) (by kernel_rfl) (by kernel_rfl) (by kernel_rfl) (by kernel_rfl) (Aep os _)) ?_
 intro W base args ds gs before hval0 hW hcnd0 _ hL _
 have hval:∀ (j:Nat) t v,Tryz.f3.params[j]? =some t→args[j]? =some v→Value.okWide Tryz.prog W .any base t v:=hval0
 have hW':=hW
 obtain ⟨p,q,hA0,hV,hbq,hfz,hnd⟩:=hW'
 have hA:DataW.TrodAll enc Tryz.prog W 0 (fun _=>true) true Tryz.f3.params.toList args.toList ds p:=hA0
 rw [Tryz.params3] at hA hval
 obtain ⟨v0,vs0,d0,ds0,p0,q0,hargs,rfl,hp0,h0,r0⟩:=trodAll_cons hA
 obtain ⟨v1,vs1,d1,ds1,p1,q1,rfl,rfl,hp1,h1,r1⟩:=trodAll_cons r0
 obtain ⟨v2,vs2,d2,ds2,p2,q2,rfl,rfl,hp2,h2,r2⟩:=trodAll_cons r1
 obtain ⟨rfl,rfl,hpl⟩:=trodAll_nil r2
 obtain rfl:args=#[v0,v1,v2]:=by cases args;simp_all
 have hgs:gs=[]:=by cases gs with | nil=>rfl | cons g gs=>exact hV.elim
 subst hgs
 obtain ⟨T,hT⟩:=Qo hL
 refine (Al1 hT (hval 0 22 v0 rfl rfl) h0 (hval 1 3 v1 rfl rfl) h1 (hval 2 23 v2 rfl rfl) h2).mono fun e W' ⟨he,L,L',ht,hro⟩=> ?_
 subst he
 exact ⟨_,rfl,Adr Tw hW rfl (by kernel_rfl) Tryz.underlying4 (by kernel_rfl) ht hro rfl⟩
theorem Qp:Tryz.pinned.checked.prog.funcNamed Rows.storeKeysRow.func=some 3:=by kernel_rfl
theorem Aa7:(Rows.storeKeysRow.inPlace == Tryz.pinned.checked.prog.inPlace 3)=true:=by kernel_rfl
theorem Aa8:(Rows.storeKeysRow.unfollowed == Tryz.pinned.checked.prog.unfollowed 3)=true:=by kernel_rfl
theorem Aa9:(Rows.storeKeysRow.recurses == Tryz.pinned.checked.prog.recurses 3)=true:=by kernel_rfl
theorem Aba:(Rows.storeKeysRow.named == Tryz.pinned.checked.prog.varsNamed 3)=true:=by kernel_rfl
theorem Abb:(Rows.storeKeysRow.lifted == Tryz.pinned.checked.prog.liftsFinal)=true:=by kernel_rfl
theorem Abc:joinedFacts Tryz.pinned.checked.prog 3 Tryz.f3 Rows.storeKeysSpec Rows.storeKeysRow=true:=by
 unfold joinedFacts;exact A6 (A6 (A6 (A6 (A6 (A6 (A6 (A6 (A6 (A6 (A6 (A6 (A6 (A6 (A6 (A6 (A6 (A6 (A6 (A6 (A6 (A6 (A6 (A6 (A6 (A6 (A6 (A6 (A6 (A6 (A6 (by kernel_rfl) Tw) Awa) (by kernel_rfl)) (by kernel_rfl)) (by kernel_rfl)) (by kernel_rfl)) (by kernel_rfl)) Awb) Aa7) Aa8) Aa9) Aba) (by kernel_rfl)) (by kernel_rfl)) (by kernel_rfl)) (by kernel_rfl)) (by kernel_rfl)) (by kernel_rfl)) (by kernel_rfl)) (by kernel_rfl)) (by kernel_rfl)) (by kernel_rfl)) (by kernel_rfl)) Awc) (by kernel_rfl)) Abb) (by kernel_rfl)) (by kernel_rfl)) (by kernel_rfl)) (by kernel_rfl)) (by kernel_rfl)
theorem Abd:Tryz.f3.isInstance Tryz.pinned.checked.prog Rows.storeKeysRow.origin Rows.storeKeysRow.targs:=of_decide_eq_true (by kernel_rfl)
theorem Abe:Tryz.f3.isWrapper Tryz.pinned.checked.prog Rows.storeKeysRow.wrapper Rows.storeKeysRow.mainSum:=by
 unfold Func.isWrapper;first | (rw [if_pos (by decide +kernel)];kernel_rfl) | (rw [if_neg (by decide +kernel)];exact ⟨rfl,rfl⟩)
theorem Wh:Rows.storeKeysRow.holds Tryz.pinned (OpenSpec.ofChange Rows.storeKeysSpec) :=
 OpenClaim.holds_of_wide 3 Tryz.f3 rfl rfl rfl rfl rfl rfl rfl ⟨rfl,rfl,rfl,rfl,rfl⟩ rfl rfl rfl rfl rfl Qp Tryz.func3 Abc Abd Abe
  (fun os started H enc _=>R6 os started H enc)
theorem Aet:false=Rows.storeKeysRow.goesBy Tryz.pinned.checked.prog:=by kernel_rfl
theorem storeKeys_proved:Rows.StoreKeysCardSaid :=
 Claim7.holds_tied_plain_at .later [] [.data] true _ true Wh (fun _ h=>by cases h) (by kernel_rfl) (fun _ h=>by cases h) storeKeys_row_tie rfl ⟨rfl,rfl⟩ (by kernel_rfl) rfl
  (fun f fn hf hfn=>by
   obtain rfl : f = 3 := (A4o ((show Tryz.prog.funcNamed "keelson/keelsonlaw11.StoreKeys" = some 3 from Qp).symm.trans hf)).symm
   obtain rfl:fn=Tryz.f3:=(A4o (Tryz.func3.symm.trans hfn)).symm
   refine ⟨Ark,fun j t hj=> ?_⟩
   rw [Tryz.params3] at hj
   match j,hj with
   | 0,hj =>
    obtain rfl:t=22:=by simpa using hj.symm
    exact (by kernel_rfl:Tryz.pinned.checked.prog.wantsStandIn 22=false)
   | 1,hj =>
    obtain rfl:t=3:=by simpa using hj.symm
    exact (by kernel_rfl:Tryz.pinned.checked.prog.wantsStandIn 3=false)
   | 2,hj =>
    obtain rfl:t=23:=by simpa using hj.symm
    exact (by kernel_rfl:Tryz.pinned.checked.prog.wantsStandIn 23=false)
   | j+3,hj=>simp at hj)
  Aet
end
end Go.Proofs.YtpmojdippdlcaaaGreatDoor
