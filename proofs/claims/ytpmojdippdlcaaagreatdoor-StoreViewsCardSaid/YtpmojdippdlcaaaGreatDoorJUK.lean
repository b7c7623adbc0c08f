/- The view is the one with the greatest number of those that were noted,also when the store is opened;the conditions are the statement's own. -/
import Derived.Test.YtpmojdippdlcaaaGreatDoorJ5
import Derived.Test.YtpmojdippdlcaaaGreatDoorJ6
import Derived.Test.YtpmojdippdlcaaaGreatDoorJ1
set_option linter.unusedVariables false
set_option linter.unusedSimpArgs false
set_option maxRecDepth 100000
set_option maxHeartbeats 1000000
namespace Go.Proofs.YtpmojdippdlcaaaGreatDoor
section
open Go.ChangeShapes Go.WideShapes Go.ChangeAt Go.RowKit Go.K
set_option linter.constructorNameAsVariable false
section
variable {H:Type} {enc:TypeId×Value→H} {w:World} {base:Nat} {spare:Nat→Bool} {held:Bool}
theorem Axt (m:Nat) (row:List Value) (y:DataW H×List MemPlace) (h:DataW.trod enc Tryz.prog w base spare held m 5 row=some y):∃ c:By,row=Cel.cs c∧RoOk w []:=by
 obtain ⟨c,rfl⟩:=Axk Tryz.underlying5 h
 exact ⟨c,rfl,.nil⟩
theorem Axx (m:Nat) (row:List Value) (y:DataW H×List MemPlace) (h:DataW.trod enc Tryz.prog w base spare held m 45 row=some y):∃ c:Chg,row=Cel.cs c∧RoOk w (c.body.hp tU8):=by
 obtain ⟨xs,n,_,_,hl,hlen,hf⟩:=DataW.trod_struct Tryz.underlying45 h
 have hl2:row.length=3:=hl.trans (by kernel_rfl)
 have hlen':xs.length=3:=hlen
 obtain ⟨a,b,c,rfl⟩:∃ a b c,row=[a,b,c]:=by
  match row,hl2 with
  | [a,b,c],_=>exact ⟨a,b,c,rfl⟩
 have h0:=(hf 0 _ rfl).trans (Ayw (by omega))
 have h1:=(hf 1 _ rfl).trans (Ayw (by omega))
 have h2:=(hf 2 _ rfl).trans (Ayw (by omega))
 obtain ⟨n0,e0,_⟩:=A11 Tryz.underlying3 h0
 obtain ⟨n1,e1,_⟩:=DataW.trod_bool Tryz.underlying4 h1
 obtain ⟨s,e2,r1,_⟩:=Axc (α:=By) Tryz.underlying23 (by kernel_rfl) (by decide) (fun _=>[]) Axt tU8 h2
 have e0':[a]=[Value.int .i64 n0]:=e0
 have e1':[b]=[Value.bool n1]:=e1
 have e2':[c]=[s.val]:=e2
 refine ⟨⟨n0,n1,s⟩,?_,r1⟩
 show [a,b,c]=[.int .i64 n0,.bool n1,s.val]
 simp only [A1r,and_true] at e0' e1' e2' ⊢
 exact ⟨e0',e1',e2'⟩
theorem Axu (m:Nat) (row:List Value) (y:DataW H×List MemPlace) (h:DataW.trod enc Tryz.prog w base spare held m 31 row=some y):∃ c:Vw,row=Cel.cs c∧RoOk w []:=by
 obtain ⟨xs,n,_,_,hl,hlen,hf⟩:=DataW.trod_struct Tryz.underlying31 h
 have hl2:row.length=3:=hl.trans (by kernel_rfl)
 have hlen':xs.length=3:=hlen
 obtain ⟨a,b,c,rfl⟩:∃ a b c,row=[a,b,c]:=by
  match row,hl2 with
  | [a,b,c],_=>exact ⟨a,b,c,rfl⟩
 have h0:=(hf 0 _ rfl).trans (Ayw (by omega))
 have h1:=(hf 1 _ rfl).trans (Ayw (by omega))
 have h2:=(hf 2 _ rfl).trans (Ayw (by omega))
 obtain ⟨n0,e0,_,w0⟩:=A11 Tryz.underlying29 h0
 obtain ⟨n1,e1,_⟩:=A11 Tryz.underlying3 h1
 obtain ⟨n2,e2,_,w2⟩:=A11 Tryz.underlying29 h2
 obtain ⟨x0,g0⟩:=Aw9 w0
 obtain ⟨x2,g2⟩:=Aw9 w2
 have e0':[a]=[Value.int .u64 n0]:=e0
 have e1':[b]=[Value.int .i64 n1]:=e1
 have e2':[c]=[Value.int .u64 n2]:=e2
 refine ⟨⟨x0,n1,x2⟩,?_,.nil⟩
 show [a,b,c]=[wv x0,.int .i64 n1,wv x2]
 simp only [A1r,and_true] at e0' e1' e2' ⊢
 exact ⟨e0'.trans g0,e1',e2'.trans g2⟩
theorem Axy (m:Nat) (row:List Value) (y:DataW H×List MemPlace) (h:DataW.trod enc Tryz.prog w base spare held m 33 row=some y):∃ o:OpS,row=Cel.cs o∧RoOk w (o.ch.hp tCg++cbH o.ch.list):=by
 obtain ⟨xs,n,_,_,hl,hlen,hf⟩:=DataW.trod_struct Tryz.underlying33 h
 have hl2:row.length=8:=hl.trans (by kernel_rfl)
 have hlen':xs.length=6:=hlen
 obtain ⟨a0,a1,a2,a3,a4,a5,a6,a7,rfl⟩:∃ a0 a1 a2 a3 a4 a5 a6 a7,row=[a0,a1,a2,a3,a4,a5,a6,a7]:=by
  match row,hl2 with
  | [a0,a1,a2,a3,a4,a5,a6,a7],_=>exact ⟨a0,a1,a2,a3,a4,a5,a6,a7,rfl⟩
 have h0:=(hf 0 _ rfl).trans (Ayw (by omega))
 have h1:=(hf 1 _ rfl).trans (Ayw (by omega))
 have h2:=(hf 2 _ rfl).trans (Ayw (by omega))
 have h3:=(hf 3 _ rfl).trans (Ayw (by omega))
 have h4:=(hf 4 _ rfl).trans (Ayw (by omega))
 have h5:=(hf 5 _ rfl).trans (Ayw (by omega))
 obtain ⟨n0,e0,_⟩:=A11 Tryz.underlying3 h0
 obtain ⟨n1,e1,_⟩:=A11 Tryz.underlying3 h1
 obtain ⟨n2,e2,_⟩:=A11 Tryz.underlying3 h2
 obtain ⟨s,e3,r1,r2⟩:=Axc (α:=Chg) Tryz.underlying28 (by kernel_rfl) (by decide) (fun c=>c.body.hp tU8) Axx tCg h3
 obtain ⟨v,e4,_⟩:=Axu _ _ _ h4
 obtain ⟨n5,e5,_,w5⟩:=A11 Tryz.underlying29 h5
 obtain ⟨x5,g5⟩:=Aw9 w5
 have e0':[a0]=[Value.int .i64 n0]:=e0
 have e1':[a1]=[Value.int .i64 n1]:=e1
 have e2':[a2]=[Value.int .i64 n2]:=e2
 have e3':[a3]=[s.val]:=e3
 have e4':[a4,a5,a6]=[wv v.num,.int .i64 v.mem,wv v.base]:=e4
 have e5':[a7]=[Value.int .u64 n5]:=e5
 refine ⟨⟨n0,n1,n2,s,v,x5⟩,?_,r1.app (by unfold cbH;exact r2)⟩
 show [a0,a1,a2,a3,a4,a5,a6,a7]=[.int .i64 n0,.int .i64 n1,.int .i64 n2,s.val,wv v.num,.int .i64 v.mem,wv v.base,wv x5]
 simp only [A1r,and_true] at e0' e1' e2' e3' e4' e5' ⊢
 exact ⟨e0',e1',e2',e3',e4'.1,e4'.2.1,e4'.2.2,e5'.trans g5⟩
theorem Axh {v:Value} {d:DataW H} {ps:List MemPlace} {b1:Nat} (ho:Value.okWide Tryz.prog w .any base 22 v) (h:DataW.Trod enc Tryz.prog w b1 spare held 22 v d ps):∃ s:Sl OpS,v=s.val∧RoOk w (s.hp tOs)∧RoOk w (opH s.list):=by
 obtain ⟨s,e,r1,r2⟩:=Axd (α:=OpS) Tryz.underlying22 (by kernel_rfl) (by decide) (fun o=>o.ch.hp tCg++cbH o.ch.list) Axy tOs ho h
 exact ⟨s,e,r1,by unfold opH;exact r2⟩
end
theorem Axi {H:Type} {W:World} {enc:TypeId×Value→H} {base:Nat} {T:TypeId} (hT:HpOk [Dy T] W) {v0 v1:Value} {d0 d1:DataW H} {p0 p1:List MemPlace}
  (o0:Value.okWide Tryz.prog W .any base 78 v0) (h0:DataW.Trod enc Tryz.prog W 0 (fun _=>true) true 78 v0 d0 p0)
  (o1:Value.okWide Tryz.prog W .any base 22 v1) (h1:DataW.Trod enc Tryz.prog W 0 (fun _=>true) true 22 v1 d1 p1) :
  Calls Tryz.prog 6 #[v0,v1] W fun e W'=>e= .returned (.bool true)∧∃ L L',Trk W W' L L'∧∀ x∈L,x.2.1=false:=by
 obtain ⟨x0,rfl,k0,_⟩:=Axd (α:=Vw) Tryz.underlying78 (by kernel_rfl) (by decide) (fun _=>[]) Axu tVw o0 h0
 obtain ⟨x1,rfl,k1,m1⟩:=Axh o1 h1
 obtain ⟨r1,r2⟩:=k0.app (k1.app (m1.app (M:=[Dy T]) ⟨hT,fun x hx=>by rw [Azy.1 hx]⟩))
 exact Ari (L:=x0.hp tVw++(x1.hp tOs++(opH x1.list++(Dy T::[])))) r1 r2 (L':=[]) Axl
set_option maxRecDepth 100000 in
theorem As (os:Os) (started:os.Started) (H:Type) (enc:TypeId×Value→H) :
  ReturnsInHanded {} Tryz.checked os 6 .any (fun w args=>(Rows.storeViewsSpec.pre enc Tryz.prog Tryz.f6 Rows.storeViewsRow.domain false w args∧laidMet Tryz.prog Rows.storeViewsRow.laid w)∧sizedMet enc Tryz.prog Tryz.f6 (OpenSpec.ofChange Rows.storeViewsSpec) false w args)
   (Rows.storeViewsSpec.post enc Tryz.prog Tryz.f6 false true false false):=by
 refine returnsInHanded_of_change_and (C:=Tryz.checked) (X:=fun w _=>laidMet Tryz.prog Rows.storeViewsRow.laid w) (fun _ _ _ hh h=>h.of_heap hh) own started (by kernel_rfl) Tryz.func6
  (ChangeSpec.witness_at (enc:=enc) (C:=Tryz.checked) (os:=os) (X:=fun w _=>laidMet Tryz.prog Rows.storeViewsRow.laid w) false (Xh os) #[.slice none 0 0,.slice none 0 0] 8 rfl (by kernel_rfl) (by kernel_rfl) (by kernel_rfl) (by kernel_rfl) (by kernel_rfl) (Ao8 os _)) ?_
 intro W base args ds gs before hval0 hW hcnd0 _ hL _
 have hval:∀ (j:Nat) t v,Tryz.f6.params[j]? =some t→args[j]? =some v→Value.okWide Tryz.prog W .any base t v:=hval0
 have hW':=hW
 obtain ⟨p,q,hA0,hV,hbq,hfz,hnd⟩:=hW'
 have hA:DataW.TrodAll enc Tryz.prog W 0 (fun _=>true) true Tryz.f6.params.toList args.toList ds p:=hA0
 rw [Tryz.params6] at hA hval
 obtain ⟨v0,vs0,d0,ds0,p0,q0,hargs,rfl,hp0,h0,r0⟩:=trodAll_cons hA
 obtain ⟨v1,vs1,d1,ds1,p1,q1,rfl,rfl,hp1,h1,r1⟩:=trodAll_cons r0
 obtain ⟨rfl,rfl,hpl⟩:=trodAll_nil r1
 obtain rfl:args=#[v0,v1]:=by cases args;simp_all
 have hgs:gs=[]:=by cases gs with | nil=>rfl | cons g gs=>exact hV.elim
 subst hgs
 obtain ⟨T,hT⟩:=Zm hL
 refine (Axi hT (hval 0 78 v0 rfl rfl) h0 (hval 1 22 v1 rfl rfl) h1).mono fun e W' ⟨he,L,L',ht,hro⟩=> ?_
 subst he
 exact ⟨_,rfl,Am3 Asw hW rfl (by kernel_rfl) Tryz.underlying4 (by kernel_rfl) ht hro rfl⟩
theorem Aw7:Rows.storeViewsRow.holds Tryz.pinned (OpenSpec.ofChange Rows.storeViewsSpec) :=
 OpenClaim.holds_of_wide 6 Tryz.f6 rfl rfl rfl rfl rfl rfl rfl ⟨rfl,rfl,rfl,rfl,rfl⟩ rfl rfl rfl rfl rfl (by kernel_rfl) Tryz.func6 (by kernel_rfl)
  (of_decide_eq_true (by kernel_rfl)) (by unfold Func.isWrapper;first | (rw [A25 (by decide +kernel)];kernel_rfl) | (rw [A26 (by decide +kernel)];exact ⟨rfl,rfl⟩))
  (fun os started H enc _=>As os started H enc)
theorem storeViews_proved:Rows.StoreViewsCardSaid :=
 Claim7.holds_tied_plain_at .later [] [.data] true _ true Aw7 (fun _ h=>by cases h) (by kernel_rfl) (fun _ h=>by cases h) storeViews_row_tie rfl ⟨rfl,rfl⟩ (by kernel_rfl) rfl
  (fun f fn hf hfn=>by
   obtain rfl : f = 6 := (A1h ((show Tryz.prog.funcNamed "keelson/keelsonlaw11.StoreViews" = some 6 by kernel_rfl).symm.trans hf)).symm
   obtain rfl:fn=Tryz.f6:=(A1h (Tryz.func6.symm.trans hfn)).symm
   refine ⟨by kernel_rfl,fun j t hj=> ?_⟩
   rw [Tryz.params6] at hj
   match j,hj with
   | 0,hj =>
    obtain rfl:t=78:=by simpa using hj.symm
    exact (by kernel_rfl:Tryz.pinned.checked.prog.wantsStandIn 78=false)
   | 1,hj =>
    obtain rfl:t=22:=by simpa using hj.symm
    exact (by kernel_rfl:Tryz.pinned.checked.prog.wantsStandIn 22=false)
   | j+2,hj=>simp at hj)
  (by kernel_rfl)
end
end Go.Proofs.YtpmojdippdlcaaaGreatDoor
