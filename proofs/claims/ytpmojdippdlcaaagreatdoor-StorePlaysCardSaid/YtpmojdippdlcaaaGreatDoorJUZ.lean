/- Every call of any script answers as0 the document says,while acts of the chip fail,and leaves the document's nodes;the conditions are the statement's own. -/
import Derived.Test.YtpmojdippdlcaaaGreatDoorJ7
import Derived.Test.YtpmojdippdlcaaaGreatDoorJ6
import Derived.Test.YtpmojdippdlcaaaGreatDoorJ8
set_option linter.unusedVariables false
set_option linter.unusedSimpArgs false
set_option maxRecDepth 100000
set_option maxHeartbeats 1000000
set_option synthInstance.maxSize 4000
set_option synthInstance.maxHeartbeats 400000
namespace Go.Proofs.YtpmojdippdlcaaaGreatDoor
section
open Go.ChangeShapes Go.WideShapes Go.ChangeAt Go.RowKit Go.K
set_option linter.constructorNameAsVariable false
theorem Ahf {H:Type} {W:World} {enc:TypeId×Value→H} {base:Nat} {T:TypeId} (hT:HpOk [Cz T] W) {v0 v1 v2:Value} {d0 d1 d2:DataW H} {p0 p1 p2:List MemPlace}
  (o0:Value.okWide Tryz.prog W .any base 3 v0) (h0:DataW.Trod enc Tryz.prog W 0 (fun _=>true) true 3 v0 d0 p0)
  (o1:Value.okWide Tryz.prog W .any base 22 v1) (h1:DataW.Trod enc Tryz.prog W 0 (fun _=>true) true 22 v1 d1 p1)
  (o2:Value.okWide Tryz.prog W .any base 85 v2) (h2:DataW.Trod enc Tryz.prog W 0 (fun _=>true) true 85 v2 d2 p2) :
  Calls Tryz.prog 8 #[v0,v1,v2] W fun e W'=>e= .returned (.bool true)∧∃ L L',Trk W W' L L'∧∀ x∈L,x.2.1=false:=by
 obtain ⟨x0,rfl⟩:=Awg o0
 obtain ⟨x1,rfl,k1,m1⟩:=Aha o1 h1
 obtain ⟨x2,rfl,k2⟩:=Ayv (α:=Int) Tryz.underlying85 (ks:=[some .i64]) (by kernel_rfl) rfl (by decide) (fun _ h=>Au1 h) tI o2 h2
 have k2:RoOk W (x2.hp tI):=k2
 obtain ⟨r1,r2⟩:=k1.app (m1.app (k2.app (M:=[Cz T]) ⟨hT,fun x hx=>by rw [A3z.1 hx]⟩))
 by_cases hm:16≤x0∧x0≤40
 ·obtain ⟨m,rfl⟩:∃ m:Nat,x0=m:=⟨x0.toNat,by omega⟩
  exact Ais (L:=x1.hp tOs++(opH x1.list++(x2.hp tI++(Cz T::[])))) r1 r2 (L':=[]) (Amg (by omega))
 ·exact Ais (L:=x1.hp tOs++(opH x1.list++(x2.hp tI++(Cz T::[])))) r1 r2 (L':=[]) (Asm hm)
set_option maxRecDepth 100000 in
theorem Q2 (os:Os) (started:os.Started) (H:Type) (enc:TypeId×Value→H) :
  ReturnsInHanded {} Tryz.checked os 8 .any (fun w args=>(Rows.storePlaysSpec.pre enc Tryz.prog Tryz.f8 Rows.storePlaysRow.domain false w args∧laidMet Tryz.prog Rows.storePlaysRow.laid w)∧sizedMet enc Tryz.prog Tryz.f8 (OpenSpec.ofChange Rows.storePlaysSpec) false w args)
   (Rows.storePlaysSpec.post enc Tryz.prog Tryz.f8 false true false false):=by
 refine returnsInHanded_of_change_and (C:=Tryz.checked) (X:=fun w _=>laidMet Tryz.prog Rows.storePlaysRow.laid w) (fun _ _ _ hh h=>h.of_heap hh) own started (by kernel_rfl) Tryz.func8
  (ChangeSpec.witness_at (enc:=enc) (C:=Tryz.checked) (os:=os) (X:=fun w _=>laidMet Tryz.prog Rows.storePlaysRow.laid w) false (Zq os) #[.int .i64 0,.slice none 0 0,.slice none 0 0] 8 rfl (by kernel_rfl) (by kernel_rfl) (by kernel_rfl) (by kernel_rfl) (by kernel_rfl) (Ar1 os _)) ?_
 intro W base args ds gs before hval0 hW hcnd0 _ hL _
 have hval:∀ (j:Nat) t v,Tryz.f8.params[j]? =some t→args[j]? =some v→Value.okWide Tryz.prog W .any base t v:=hval0
 have hW':=hW
 obtain ⟨p,q,hA0,hV,hbq,hfz,hnd⟩:=hW'
 have hA:DataW.TrodAll enc Tryz.prog W 0 (fun _=>true) true Tryz.f8.params.toList args.toList ds p:=hA0
 rw [Tryz.params8] at hA hval
 obtain ⟨v0,vs0,d0,ds0,p0,q0,hargs,rfl,hp0,h0,r0⟩:=trodAll_cons hA
 obtain ⟨v1,vs1,d1,ds1,p1,q1,rfl,rfl,hp1,h1,r1⟩:=trodAll_cons r0
 obtain ⟨v2,vs2,d2,ds2,p2,q2,rfl,rfl,hp2,h2,r2⟩:=trodAll_cons r1
 obtain ⟨rfl,rfl,hpl⟩:=trodAll_nil r2
 obtain rfl:args=#[v0,v1,v2]:=by cases args;simp_all
 have hgs:gs=[]:=by cases gs with | nil=>rfl | cons g gs=>exact hV.elim
 subst hgs
 obtain ⟨T,hT⟩:=Abw hL
 refine (Ahf hT (hval 0 3 v0 rfl rfl) h0 (hval 1 22 v1 rfl rfl) h1 (hval 2 85 v2 rfl rfl) h2).mono fun e W' ⟨he,L,L',ht,hro⟩=> ?_
 subst he
 exact ⟨_,rfl,Apx Ajc hW rfl (by kernel_rfl) Tryz.underlying4 (by kernel_rfl) ht hro rfl⟩
theorem Ob:Tryz.pinned.checked.prog.funcNamed Rows.storePlaysRow.func=some 8:=by kernel_rfl
theorem Xb:(Rows.storePlaysRow.inPlace == Tryz.pinned.checked.prog.inPlace 8)=true:=by kernel_rfl
theorem Xc:(Rows.storePlaysRow.unfollowed == Tryz.pinned.checked.prog.unfollowed 8)=true:=by kernel_rfl
theorem Xd:(Rows.storePlaysRow.recurses == Tryz.pinned.checked.prog.recurses 8)=true:=by kernel_rfl
theorem Xe:(Rows.storePlaysRow.named == Tryz.pinned.checked.prog.varsNamed 8)=true:=by kernel_rfl
theorem Xf:(Rows.storePlaysRow.lifted == Tryz.pinned.checked.prog.liftsFinal)=true:=by kernel_rfl
theorem Xg:joinedFacts Tryz.pinned.checked.prog 8 Tryz.f8 Rows.storePlaysSpec Rows.storePlaysRow=true:=by
 unfold joinedFacts;exact Cp (Cp (Cp (Cp (Cp (Cp (Cp (Cp (Cp (Cp (Cp (Cp (Cp (Cp (Cp (Cp (Cp (Cp (Cp (Cp (Cp (Cp (Cp (Cp (Cp (Cp (Cp (Cp (Cp (Cp (Cp (by kernel_rfl) Ajc) A1c) (by kernel_rfl)) (by kernel_rfl)) (by kernel_rfl)) (by kernel_rfl)) (by kernel_rfl)) A1d) Xb) Xc) Xd) Xe) (by kernel_rfl)) (by kernel_rfl)) (by kernel_rfl)) (by kernel_rfl)) (by kernel_rfl)) (by kernel_rfl)) (by kernel_rfl)) (by kernel_rfl)) (by kernel_rfl)) (by kernel_rfl)) (by kernel_rfl)) A1e) (by kernel_rfl)) Xf) (by kernel_rfl)) (by kernel_rfl)) (by kernel_rfl)) (by kernel_rfl)) (by kernel_rfl)
theorem Xh:Tryz.f8.isInstance Tryz.pinned.checked.prog Rows.storePlaysRow.origin Rows.storePlaysRow.targs:=of_decide_eq_true (by kernel_rfl)
theorem Xi:Tryz.f8.isWrapper Tryz.pinned.checked.prog Rows.storePlaysRow.wrapper Rows.storePlaysRow.mainSum:=by
 unfold Func.isWrapper;first | (rw [A6v (by decide +kernel)];kernel_rfl) | (rw [A6u (by decide +kernel)];exact ⟨rfl,rfl⟩)
theorem Tg:Rows.storePlaysRow.holds Tryz.pinned (OpenSpec.ofChange Rows.storePlaysSpec) :=
 OpenClaim.holds_of_wide 8 Tryz.f8 rfl rfl rfl rfl rfl rfl rfl ⟨rfl,rfl,rfl,rfl,rfl⟩ rfl rfl rfl rfl rfl Ob Tryz.func8 Xg Xh Xi
  (fun os started H enc _=>Q2 os started H enc)
theorem Aby:false=Rows.storePlaysRow.goesBy Tryz.pinned.checked.prog:=by kernel_rfl
theorem storePlays_proved:Rows.StorePlaysCardSaid :=
 Claim7.holds_tied_plain_at .later [] [.data] true _ true Tg (fun _ h=>by cases h) (by kernel_rfl) (fun _ h=>by cases h) storePlays_row_tie rfl ⟨rfl,rfl⟩ (by kernel_rfl) rfl
  (fun f fn hf hfn=>by
   obtain rfl : f = 8 := (A5i ((show Tryz.prog.funcNamed "keelson/keelsonlaw11.StorePlays" = some 8 from Ob).symm.trans hf)).symm
   obtain rfl:fn=Tryz.f8:=(A5i (Tryz.func8.symm.trans hfn)).symm
   refine ⟨Azp,fun j t hj=> ?_⟩
   rw [Tryz.params8] at hj
   match j,hj with
   | 0,hj =>
    obtain rfl:t=3:=by simpa using hj.symm
    exact (by kernel_rfl:Tryz.pinned.checked.prog.wantsStandIn 3=false)
   | 1,hj =>
    obtain rfl:t=22:=by simpa using hj.symm
    exact (by kernel_rfl:Tryz.pinned.checked.prog.wantsStandIn 22=false)
   | 2,hj =>
    obtain rfl:t=85:=by simpa using hj.symm
    exact (by kernel_rfl:Tryz.pinned.checked.prog.wantsStandIn 85=false)
   | j+3,hj=>simp at hj)
  Aby
end
end Go.Proofs.YtpmojdippdlcaaaGreatDoor
