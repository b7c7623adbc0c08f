/- The last commit tells just the nodes that there are,with their keys and epochs;a Commit without changes keeps them;the conditions are the statement's own. -/
import Derived.Test.YtpmojdippdlcaaaGreatDoorJ5
import Derived.Test.YtpmojdippdlcaaaGreatDoorJ6
set_option linter.unusedVariables false
set_option linter.unusedSimpArgs false
set_option maxRecDepth 100000
set_option maxHeartbeats 1000000
set_option synthInstance.maxSize 4000
set_option synthInstance.maxHeartbeats 400000
namespace Go.Proofs.YtpmojdippdlcaaaGreatDoor
section
open Go.ChangeShapes Go.WideShapes Go.ChangeAt Go.RowKit Go.K
set_option linter.constructorNameAsVariable false
theorem Ag6 {H:Type} {W:World} {enc:TypeId×Value→H} {base:Nat} {T:TypeId} (hT:HpOk [Cn T] W) {v0:Value} {d0:DataW H} {p0:List MemPlace}
  (o0:Value.okWide Tryz.prog W .any base 22 v0) (h0:DataW.Trod enc Tryz.prog W 0 (fun _=>true) true 22 v0 d0 p0) :
  Calls Tryz.prog 4 #[v0] W fun e W'=>e= .returned (.bool true)∧∃ L L',Trk W W' L L'∧∀ x∈L,x.2.1=false:=by
 obtain ⟨x0,rfl,k0,m0⟩:=Wg o0 h0
 obtain ⟨r1,r2⟩:=k0.app (m0.app (M:=[Cn T]) ⟨hT,fun x hx=>by rw [A2z.1 hx]⟩)
 exact Aij (L:=x0.hp tOs++(opH x0.list++(Cn T::[]))) r1 r2 (L':=[]) Al5
set_option maxRecDepth 100000 in
theorem Sa (os:Os) (started:os.Started) (H:Type) (enc:TypeId×Value→H) :
  ReturnsInHanded {} Tryz.checked os 4 .any (fun w args=>(Rows.storeLastSpec.pre enc Tryz.prog Tryz.f4 Rows.storeLastRow.domain false w args∧laidMet Tryz.prog Rows.storeLastRow.laid w)∧sizedMet enc Tryz.prog Tryz.f4 (OpenSpec.ofChange Rows.storeLastSpec) false w args)
   (Rows.storeLastSpec.post enc Tryz.prog Tryz.f4 false true false false):=by
 refine returnsInHanded_of_change_and (C:=Tryz.checked) (X:=fun w _=>laidMet Tryz.prog Rows.storeLastRow.laid w) (fun _ _ _ hh h=>h.of_heap hh) own started (by kernel_rfl) Tryz.func4
  (ChangeSpec.witness_at (enc:=enc) (C:=Tryz.checked) (os:=os) (X:=fun w _=>laidMet Tryz.prog Rows.storeLastRow.laid w) false (R5 os) #[.slice none 0 0] 8 rfl (by kernel_rfl) (by kernel_rfl) (by kernel_rfl) (by kernel_rfl) (by kernel_rfl) (Aep os _)) ?_
 intro W base args ds gs before hval0 hW hcnd0 _ hL _
 have hval:∀ (j:Nat) t v,Tryz.f4.params[j]? =some t→args[j]? =some v→Value.okWide Tryz.prog W .any base t v:=hval0
 have hW':=hW
 obtain ⟨p,q,hA0,hV,hbq,hfz,hnd⟩:=hW'
 have hA:DataW.TrodAll enc Tryz.prog W 0 (fun _=>true) true Tryz.f4.params.toList args.toList ds p:=hA0
 rw [Tryz.params4] at hA hval
 obtain ⟨v0,vs0,d0,ds0,p0,q0,hargs,rfl,hp0,h0,r0⟩:=trodAll_cons hA
 obtain ⟨rfl,rfl,hpl⟩:=trodAll_nil r0
 obtain rfl:args=#[v0]:=by cases args;simp_all
 have hgs:gs=[]:=by cases gs with | nil=>rfl | cons g gs=>exact hV.elim
 subst hgs
 obtain ⟨T,hT⟩:=Qo hL
 refine (Ag6 hT (hval 0 22 v0 rfl rfl) h0).mono fun e W' ⟨he,L,L',ht,hro⟩=> ?_
 subst he
 exact ⟨_,rfl,Adr Tw hW rfl (by kernel_rfl) Tryz.underlying4 (by kernel_rfl) ht hro rfl⟩
theorem Qq:Tryz.pinned.checked.prog.funcNamed Rows.storeLastRow.func=some 4:=by kernel_rfl
theorem Abf:(Rows.storeLastRow.inPlace == Tryz.pinned.checked.prog.inPlace 4)=true:=by kernel_rfl
theorem Abg:(Rows.storeLastRow.unfollowed == Tryz.pinned.checked.prog.unfollowed 4)=true:=by kernel_rfl
theorem Abh:(Rows.storeLastRow.recurses == Tryz.pinned.checked.prog.recurses 4)=true:=by kernel_rfl
theorem Abi:(Rows.storeLastRow.named == Tryz.pinned.checked.prog.varsNamed 4)=true:=by kernel_rfl
theorem Abj:(Rows.storeLastRow.lifted == Tryz.pinned.checked.prog.liftsFinal)=true:=by kernel_rfl
theorem Abk:joinedFacts Tryz.pinned.checked.prog 4 Tryz.f4 Rows.storeLastSpec Rows.storeLastRow=true:=by
 unfold joinedFacts;exact A6 (A6 (A6 (A6 (A6 (A6 (A6 (A6 (A6 (A6 (A6 (A6 (A6 (A6 (A6 (A6 (A6 (A6 (A6 (A6 (A6 (A6 (A6 (A6 (A6 (A6 (A6 (A6 (A6 (A6 (A6 (by kernel_rfl) Tw) Awa) (by kernel_rfl)) (by kernel_rfl)) (by kernel_rfl)) (by kernel_rfl)) (by kernel_rfl)) Awb) Abf) Abg) Abh) Abi) (by kernel_rfl)) (by kernel_rfl)) (by kernel_rfl)) (by kernel_rfl)) (by kernel_rfl)) (by kernel_rfl)) (by kernel_rfl)) (by kernel_rfl)) (by kernel_rfl)) (by kernel_rfl)) (by kernel_rfl)) Awc) (by kernel_rfl)) Abj) (by kernel_rfl)) (by kernel_rfl)) (by kernel_rfl)) (by kernel_rfl)) (by kernel_rfl)
theorem Abl:Tryz.f4.isInstance Tryz.pinned.checked.prog Rows.storeLastRow.origin Rows.storeLastRow.targs:=of_decide_eq_true (by kernel_rfl)
theorem Abm:Tryz.f4.isWrapper Tryz.pinned.checked.prog Rows.storeLastRow.wrapper Rows.storeLastRow.mainSum:=by
 unfold Func.isWrapper;first | (rw [if_pos (by decide +kernel)];kernel_rfl) | (rw [if_neg (by decide +kernel)];exact ⟨rfl,rfl⟩)
theorem Wi:Rows.storeLastRow.holds Tryz.pinned (OpenSpec.ofChange Rows.storeLastSpec) :=
 OpenClaim.holds_of_wide 4 Tryz.f4 rfl rfl rfl rfl rfl rfl rfl ⟨rfl,rfl,rfl,rfl,rfl⟩ rfl rfl rfl rfl rfl Qq Tryz.func4 Abk Abl Abm
  (fun os started H enc _=>Sa os started H enc)
theorem Aew:false=Rows.storeLastRow.goesBy Tryz.pinned.checked.prog:=by kernel_rfl
theorem storeLast_proved:Rows.StoreLastCardSaid :=
 Claim7.holds_tied_plain_at .later [] [.data] true _ true Wi (fun _ h=>by cases h) (by kernel_rfl) (fun _ h=>by cases h) storeLast_row_tie rfl ⟨rfl,rfl⟩ (by kernel_rfl) rfl
  (fun f fn hf hfn=>by
   obtain rfl : f = 4 := (A4o ((show Tryz.prog.funcNamed "keelson/keelsonlaw11.StoreLast" = some 4 from Qq).symm.trans hf)).symm
   obtain rfl:fn=Tryz.f4:=(A4o (Tryz.func4.symm.trans hfn)).symm
   refine ⟨Ark,fun j t hj=> ?_⟩
   rw [Tryz.params4] at hj
   match j,hj with
   | 0,hj =>
    obtain rfl:t=22:=by simpa using hj.symm
    exact (by kernel_rfl:Tryz.pinned.checked.prog.wantsStandIn 22=false)
   | j+1,hj=>simp at hj)
  Aew
end
end Go.Proofs.YtpmojdippdlcaaaGreatDoor
