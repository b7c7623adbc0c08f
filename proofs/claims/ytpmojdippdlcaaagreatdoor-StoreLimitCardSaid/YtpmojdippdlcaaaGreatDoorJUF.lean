/- As many nodes fit as Limit tells,over and over,and no more;the conditions are the statement's own. -/
import Derived.Test.YtpmojdippdlcaaaGreatDoorJ6
import Derived.Test.YtpmojdippdlcaaaGreatDoorJ7
set_option linter.unusedVariables false
set_option linter.unusedSimpArgs false
namespace Go.Proofs.YtpmojdippdlcaaaGreatDoor
section
open Go.ChangeShapes Go.WideShapes Go.ChangeAt Go.RowKit Go.K
set_option linter.constructorNameAsVariable false
set_option maxRecDepth 100000
theorem Aev {H:Type} {W:World} {enc:TypeId×Value→H} {base:Nat} {T:TypeId} (hT:HpOk [Dy T] W) {v0:Value} {d0:DataW H} {p0:List MemPlace}
  (o0:Value.okWide Tryz.prog W .any base 3 v0) (h0:DataW.Trod enc Tryz.prog W 0 (fun _=>true) true 3 v0 d0 p0) :
  Calls Tryz.prog 5 #[v0] W fun e W'=>e= .returned (.bool true)∧∃ L L',Trk W W' L L'∧∀ x∈L,x.2.1=false:=by
 obtain ⟨x0,rfl⟩:=Asx o0
 exact Ari (L:=[Dy T]) hT (fun x hx=>by rw [List.mem_singleton.1 hx]) (L':=[]) Ajq
set_option maxRecDepth 100000 in
theorem Pm (os:Os) (started:os.Started) (H:Type) (enc:TypeId×Value→H) :
  ReturnsInHanded {} Tryz.checked os 5 .any (fun w args=>(Rows.storeLimitSpec.pre enc Tryz.prog Tryz.f5 Rows.storeLimitRow.domain false w args∧laidMet Tryz.prog Rows.storeLimitRow.laid w)∧sizedMet enc Tryz.prog Tryz.f5 (OpenSpec.ofChange Rows.storeLimitSpec) false w args)
   (Rows.storeLimitSpec.post enc Tryz.prog Tryz.f5 false true false false):=by
 refine returnsInHanded_of_change_and (C:=Tryz.checked) (X:=fun w _=>laidMet Tryz.prog Rows.storeLimitRow.laid w) (fun _ _ _ hh h=>h.of_heap hh) own started (by kernel_rfl) Tryz.func5
  (ChangeSpec.witness_at (enc:=enc) (C:=Tryz.checked) (os:=os) (X:=fun w _=>laidMet Tryz.prog Rows.storeLimitRow.laid w) false (Xh os) #[.int .i64 0] 8 rfl (by kernel_rfl) (by kernel_rfl) (by kernel_rfl) (by kernel_rfl) (by kernel_rfl) (Ao8 os _)) ?_
 intro W base args ds gs before hval0 hW hcnd0 _ hL _
 have hval:∀ (j:Nat) t v,Tryz.f5.params[j]? =some t→args[j]? =some v→Value.okWide Tryz.prog W .any base t v:=hval0
 have hW':=hW
 obtain ⟨p,q,hA0,hV,hbq,hfz,hnd⟩:=hW'
 have hA:DataW.TrodAll enc Tryz.prog W 0 (fun _=>true) true Tryz.f5.params.toList args.toList ds p:=hA0
 rw [Tryz.params5] at hA hval
 obtain ⟨v0,vs0,d0,ds0,p0,q0,hargs,rfl,hp0,h0,r0⟩:=trodAll_cons hA
 obtain ⟨rfl,rfl,hpl⟩:=trodAll_nil r0
 obtain rfl:args=#[v0]:=by cases args;simp_all
 have hgs:gs=[]:=by cases gs with | nil=>rfl | cons g gs=>exact hV.elim
 subst hgs
 obtain ⟨T,hT⟩:=Zm hL
 refine (Aev hT (hval 0 3 v0 rfl rfl) h0).mono fun e W' ⟨he,L,L',ht,hro⟩=> ?_
 subst he
 exact ⟨_,rfl,Am3 Asw hW rfl (by kernel_rfl) Tryz.underlying4 (by kernel_rfl) ht hro rfl⟩
theorem Rv:Rows.storeLimitRow.holds Tryz.pinned (OpenSpec.ofChange Rows.storeLimitSpec) :=
 OpenClaim.holds_of_wide 5 Tryz.f5 rfl rfl rfl rfl rfl rfl rfl ⟨rfl,rfl,rfl,rfl,rfl⟩ rfl rfl rfl rfl rfl (by kernel_rfl) Tryz.func5 (by kernel_rfl)
  (of_decide_eq_true (by kernel_rfl)) (by unfold Func.isWrapper;first | (rw [if_pos (by decide +kernel)];kernel_rfl) | (rw [if_neg (by decide +kernel)];exact ⟨rfl,rfl⟩))
  (fun os started H enc _=>Pm os started H enc)
theorem storeLimit_proved:Rows.StoreLimitCardSaid :=
 Claim7.holds_tied_plain_at .later [] [.data] true _ true Rv (fun _ h=>by cases h) (by kernel_rfl) (fun _ h=>by cases h) storeLimit_row_tie rfl ⟨rfl,rfl⟩ (by kernel_rfl) rfl
  (fun f fn hf hfn=>by
   obtain rfl : f = 5 := (Option.some.inj ((show Tryz.prog.funcNamed "keelson/keelsonlaw11.StoreLimit" = some 5 by kernel_rfl).symm.trans hf)).symm
   obtain rfl:fn=Tryz.f5:=(Option.some.inj (Tryz.func5.symm.trans hfn)).symm
   refine ⟨by kernel_rfl,fun j t hj=> ?_⟩
   rw [Tryz.params5] at hj
   match j,hj with
   | 0,hj =>
    obtain rfl:t=3:=by simpa using hj.symm
    exact (by kernel_rfl:Tryz.pinned.checked.prog.wantsStandIn 3=false)
   | j+1,hj=>simp at hj)
  (by kernel_rfl)
end
end Go.Proofs.YtpmojdippdlcaaaGreatDoor
