/- For every input, the program's store takes as many nodes as Limit tells, over and over, and no more (lemmas of the proof); the conditions are the statement's own: part 3. -/
import Derived.Test.YtpmojdippdlcaaaGreatDoorJ0
import Derived.Test.YtpmojdippdlcaaaGreatDoorJ2
import Derived.Test.YtpmojdippdlcaaaGreatDoorJ1
set_option linter.unusedVariables false
set_option linter.unusedSimpArgs false
namespace Go.Proofs.YtpmojdippdlcaaaGreatDoor
section
open Go.K
instance ent108:Ent Tryz.prog 108:=⟨fun _ _=>by kernel_rfl⟩
instance ent185:Ent Tryz.prog 185:=⟨fun _ _=>by kernel_rfl⟩
instance ent229:Ent Tryz.prog 229:=⟨fun _ _=>by kernel_rfl⟩
instance ent231:Ent Tryz.prog 231:=⟨fun _ _=>by kernel_rfl⟩
instance ent232:Ent Tryz.prog 232:=⟨fun _ _=>by kernel_rfl⟩
instance ent241:Ent Tryz.prog 241:=⟨fun _ _=>by kernel_rfl⟩
instance ent243:Ent Tryz.prog 243:=⟨fun _ _=>by kernel_rfl⟩
section
variable {c:Chip} {a:Nat} {t:Tab}
theorem Ash:Does Tryz.prog 108 [ptr t.b] (Dk a t) (Is (.int .i64 t.u.list.length) (Dk a t)):=by
 rw [Ej]
 refine Ah (n:=9) Tryz.func108 Tryz.ntmps108 rfl (Nat.le_of_ble_eq_true rfl)<|Ad<|Aa fun ops=>oA rfl<|Ac<|n_K<|Ad<|Aa fun ops=>oM rfl<|oN rfl<|oF rfl<|oF rfl ?_
 refine oR (Al rfl mM rfl) ?_
 refine oR (A7 rfl)<|oA rfl<|Ac<|n_K<|An ?_
 refine Aq (At Tryz.results108 (Ag rfl)) ?_ sP
 rfl
theorem Aok:Does Tryz.prog 108 [ptr t.b] [(t.b,true,C (Hv a t) tTb)] (Is (.int .i64 t.u.list.length) [(t.b,true,C (Hv a t) tTb)]):=by
 refine Ah (n:=9) Tryz.func108 Tryz.ntmps108 rfl (Nat.le_of_ble_eq_true rfl)<|Ad<|Aa fun ops=>oA rfl<|Ac<|n_K<|Ad<|Aa fun ops=>oM rfl<|oN rfl<|oF rfl<|oF rfl ?_
 refine oR (Al rfl mM rfl) ?_
 refine oR (A7 rfl)<|oA rfl<|Ac<|n_K<|An ?_
 refine Aq (At Tryz.results108 (Ag rfl)) ?_ sP
 rfl
theorem Atd {i:Int}:Does Tryz.prog 185 [ptr t.b,.int .i64 i] (Dk a t) (Is (.tuple #[.int .i64 (atT t.ts i).1,.bool (atT t.ts i).2]) (Dk a t)):=by
 rw [Ej]
 refine Ah (n:=22) Tryz.func185 Tryz.ntmps185 rfl (Nat.le_of_ble_eq_true rfl)<|Ad<|Aa fun ops=>oA rfl<|oA rfl<|Ac<|n_K<|Ad<|Ad ?_
 refine Bf [(2,8)] rfl fun ops y=> ?_
 refine oM rfl<|oR (Ae rfl rfl rfl)<|oM rfl ?_
 refine' Es (j:=2) (k:=4) y rfl rfl rfl rfl rfl rfl rfl (fun hg8=> ?_) ?_
 rotate_left
 ·try (simp at hg8;show _)
  refine o_g y rfl rfl ?_
  refine oM rfl ?_
  refine o_g y rfl rfl ?_
  refine oM rfl ?_
  refine o_g y rfl rfl ?_
  refine A6 rfl (Aok (a:=a) (t:=t)) sP rfl aQ ?_
  refine o_g y rfl rfl ?_
  refine oR (Ae rfl rfl rfl) ?_
  exact Ac ⟨rfl,rfl,⟨_,sP⟩⟩
 refine Ac<|n_K ?_
 refine Aj rfl (fun c13=> ?_) (fun c13=> ?_)
 ·skip
  have hres:atT t.ts i=(0,false):=(by unfold atT;exact if_pos c13)
  refine Ad<|Aa fun ops=>oA rfl<|oA rfl<|Ac<|n_K<|An<|r_K ?_
  refine Aq (Bz Tryz.results185 (Ag rfl) (Ag rfl)) ?_ sP
  rw [hres]
 ·skip
  have hres:atT t.ts i=(at0 t.u.list i,true):=(by unfold atT;rw [if_neg (by rw [show t.ts.uses=t.u.list from rfl,c13];exact Bool.false_ne_true)];rfl)
  have hi:0≤i∧i<t.u.list.length:=(by simp at c13;omega)
  refine Ai<|n_K<|Ad<|Aa fun ops=>oM rfl<|oN rfl<|oF rfl<|oF rfl ?_
  refine oR (Al rfl mM rfl) ?_
  refine oM rfl ?_
  refine oR (Bk rfl rfl hi) ?_
  refine oR (C0 (o:=0) rfl pL (Hz hi.1 hi.2) rfl rfl) ?_
  refine oA rfl<|oA rfl<|Ac<|n_K<|An ?_
  refine Aq (Bz Tryz.results185 (Ag rfl) (Ag rfl)) ?_ sP
  rw [hres]
theorem Ut (ha:c.aC=a) {b:Int}:Does Tryz.prog 241 [ptr t.b,.int .i64 b] (Dk a t++(chH c++[])) (Is (.bool (D5 t.ts c.blocks.length b)) (Dk a t++(chH c++[]))):=by
 rw [Ej];simp only [List.cons_append,List.append_assoc,List.nil_append]
 refine Ah (n:=36) Tryz.func241 Tryz.ntmps241 rfl (Nat.le_of_ble_eq_true rfl)<|Ad<|Aa fun ops=>oA rfl<|Ac<|n_K<|Ad ?_
 refine Bf [(2,7),(11,16),(21,26)] rfl fun ops y=> ?_
 refine oM rfl<|oR (Ae rfl rfl rfl)<|oM rfl ?_
 refine' Df (j:=2) (k:=7) y rfl rfl rfl rfl rfl rfl rfl (fun hg7=> ?_) ?_
 rotate_left
 ·try (simp at hg7;show _)
  refine o_g y rfl rfl ?_
  refine oM rfl ?_
  refine o_g y rfl rfl ?_
  refine oM rfl ?_
  refine o_g y rfl rfl ?_
  refine oN rfl ?_
  refine o_g y rfl rfl ?_
  refine oF rfl ?_
  refine o_g y rfl rfl ?_
  refine oR (Al rfl mM rfl) ?_
  refine o_g y rfl rfl ?_
  refine A6 rfl (Pe ha) sP rfl aQ ?_
  refine o_g y rfl rfl ?_
  refine oR (Ae rfl rfl rfl) ?_
  exact Ac ⟨rfl,rfl,⟨_,sP⟩⟩
 refine oM rfl ?_
 refine' Df (j:=11) (k:=8) y rfl rfl rfl rfl rfl rfl rfl (fun hg16=> ?_) ?_
 rotate_left
 ·try (simp at hg16;show _)
  refine o_g y rfl rfl ?_
  refine oM rfl ?_
  refine o_g y rfl rfl ?_
  refine oN rfl ?_
  refine o_g y rfl rfl ?_
  refine oF rfl ?_
  refine o_g y rfl rfl ?_
  refine oF rfl ?_
  refine o_g y rfl rfl ?_
  refine oR (Al rfl mM rfl) ?_
  refine o_g y rfl rfl ?_
  refine oM rfl ?_
  refine o_g y rfl rfl ?_
  refine A6 rfl (Hi (s:=t.u) (T:=tI)) sP rfl aQ ?_
  refine o_g y rfl rfl ?_
  refine oR (Bx rfl) ?_
  exact Ac ⟨rfl,rfl,⟨_,sP⟩⟩
 refine oM rfl ?_
 refine' Df (j:=21) (k:=8) y rfl rfl rfl rfl rfl rfl rfl (fun hg26=> ?_) ?_
 rotate_left
 ·try (simp at hg26;show _)
  refine o_g y rfl rfl ?_
  refine oM rfl ?_
  refine o_g y rfl rfl ?_
  refine oN rfl ?_
  refine o_g y rfl rfl ?_
  refine oF rfl ?_
  refine o_g y rfl rfl ?_
  refine oF rfl ?_
  refine o_g y rfl rfl ?_
  refine oR (Al rfl mM rfl) ?_
  refine o_g y rfl rfl ?_
  refine oM rfl ?_
  refine o_g y rfl rfl ?_
  refine A6 rfl (Hi (s:=t.l) (T:=tI)) sP rfl aQ ?_
  refine o_g y rfl rfl ?_
  refine oR (Bx rfl) ?_
  exact Ac ⟨rfl,rfl,⟨_,sP⟩⟩
 refine oA rfl<|Ac<|n_K<|An ?_
 refine Aq (At Tryz.results241 (Ag rfl)) ?_ sP
 rfl
theorem Aji (ha:c.aC=a) (hn:c.blocks.length≤1000):Does Tryz.prog 229 [ptr t.b] (Dk a t++(chH c++[])) (Is (.tuple #[.int .i64 (Bu t.ts c.blocks.length).1,.bool (Bu t.ts c.blocks.length).2]) (Dk a t++(chH c++[]))):=by
 rw [Ej];simp only [List.cons_append,List.append_assoc,List.nil_append]
 refine Ah (n:=18) Tryz.func229 Tryz.ntmps229 rfl (Nat.le_of_ble_eq_true rfl)<|Ad<|Aa fun ops=>oA rfl<|oA rfl<|Ac<|n_K<|Ad<|Ad<|Aa fun ops=>oM rfl<|oN rfl<|oF rfl ?_
 refine oR (Al rfl mM rfl) ?_
 refine A6 rfl (Pe ha) sP rfl aQ ?_
 refine oM rfl<|Ac<|n_K<|Ak ?_
 refine D7 [0,9] kQ (fun (i:Nat)=>[(10,.int .i64 i)]) (fun (i:Nat)=>i≤c.blocks.length∧∀ k<i,D5 t.ts c.blocks.length k=false) (fun (i:Nat)=>c.blocks.length - i) ((0:Nat)) ⟨Nat.zero_le _,fun k hk=>by omega⟩ kP ?_
 rintro i ⟨h0,h1⟩
 refine Ad<|Aa fun ops=>oR (Ae rfl rfl rfl)<|Ac<|n_K<|Ad ?_
 refine Aj rfl (fun c11=> ?_) (fun c11=> ?_)
 ·simp only [decide_eq_true_eq,decide_eq_false_iff_not] at c11
  refine Ai<|n_K<|Ad<|Ak<|Ad<|Aa fun ops=>oM rfl<|oA rfl<|Ac<|n_K<|Ad<|Aa fun ops=>oM rfl<|oM rfl ?_
  refine A6 rfl ((by have h:=Ut (t:=t) ha (b:=(i:Int));rw [Ej] at h;simp only [List.cons_append,List.append_assoc,List.nil_append] at h;exact h)) sP rfl aQ ?_
  refine Ac<|n_K ?_
  refine Aj rfl (fun c15=> ?_) (fun c15=> ?_)
  ·skip
   have hres:=Ace (by omega) h1 c15
   refine Ad<|Aa fun ops=>oM rfl<|oA rfl<|oA rfl<|Ac<|n_K<|An<|Bn<|r_K<|r_K<|Bn<|r_K ?_
   refine Aq (Bz Tryz.results229 (Ag rfl) (Ag rfl)) ?_ sP
   rw [hres]
  ·skip
   refine Ai<|Az<|n_K<|Aa fun ops=> ?_
   refine oR (Ao rfl rfl (by omega)) ?_
   refine oM rfl<|Ac<|n_K ?_
   exact ⟨i+1,⟨by omega,fun k hk=>by rcases Nat.lt_or_ge k i with h | h;exact h1 k h;rw [show k=i by omega];exact c15⟩,(by omega),lZ⟩
 ·simp only [decide_eq_true_eq,decide_eq_false_iff_not] at c11
  have hres:=Aeq (t:=t.ts) (n:=c.blocks.length) (fun k hk=>h1 k (by omega))
  refine Bb<|x_K<|x_K<|Bj<|n_K<|Ad<|Aa fun ops=>oA rfl<|oA rfl<|Ac<|n_K<|An ?_
  refine Aq (Bz Tryz.results229 (Ag rfl) (Ag rfl)) ?_ sP
  rw [hres]
theorem Asi {b:Int} (hu:t.u.list.length≤1000) (hl:t.l.list.length≤11):Does Tryz.prog 243 [ptr t.b,.int .i64 b] (Dk a t) (fun v H=>∃ u l:Sl Int,v= .agg #[u.val,l.val]∧H=u.hp tI++(l.hp tI++(Dk a t++[]))∧u.list=t.u.list∧l.list.Perm (t.l.list++[b])∧u.isOwn=true∧l.isOwn=true):=by
 rw [Ej]
 refine Ah (n:=21) Tryz.func243 Tryz.ntmps243 rfl (Nat.le_of_ble_eq_true rfl)<|Ad<|Aa fun ops=> ?_
 refine Aw rfl fun b4=> ?_
 refine Ac<|n_K<|Ad<|Aa fun ops=>oM rfl<|oN rfl<|oF rfl ?_
 refine oR (Au rfl mM rfl) ?_
 refine Bd rfl (Ajg (u:=t.u) (l:=t.l) hu (by omega)) sP rfl fun v10 Y10 h10=> ?_
 obtain ⟨u10,l10,rfl,rfl,hu10,hl10,ou10,ol10⟩:=h10
 refine Ay aQ ?_
 refine Aw rfl fun b5=> ?_
 refine Af rfl rfl uD rfl rfl rfl ?_
 refine Ac<|n_K<|Ad<|Aa fun ops=>oF rfl ?_
 refine oR (Al rfl mM rfl) ?_
 refine oM rfl ?_
 refine A5 rfl rfl rfl rfl fun b14=> ?_
 refine Bp (s:=l10) (new:=[b]) (m:=1) rfl rfl pL ol10 (Cv (r:=true) mM rfl) rfl rfl rfl rfl (by rw [hl10];omega) rfl fun s15 hs1 hs2=> ?_
 refine oF rfl ?_
 refine Af rfl rfl uD rfl rfl rfl ?_
 refine Ac<|n_K<|Ad<|Aa fun ops=>oF rfl ?_
 refine oR (Al rfl mM rfl) ?_
 refine Bd rfl (Asf (s:=s15) hs2 (by rw [hs1,hl10];simp;omega)) sP rfl fun v19 Y19 h19=> ?_
 obtain ⟨rfl,l19,rfl,hv19,ho19,hp19⟩:=h19
 refine Ay aQ ?_
 refine Ac<|n_K<|Ad<|Aa fun ops=> ?_
 refine oR (Au rfl mM rfl) ?_
 refine Af rfl rfl uD rfl rfl rfl ?_
 refine Ac<|n_K<|An ?_
 exact Av (At Tryz.results243 (Bv rfl mM rfl)) (by exact ⟨u10,l19,by rw [hv19],rfl,hu10,by rw [← hl10,← hs1];exact hp19,ou10,ho19⟩) (by simp only [List.cons_append,List.append_assoc,List.nil_append];exact sP)
def Agr (a:Nat) (t:Tab) (c:Chip) (uses lost:List Int) (v:Value) (H:Hp):Prop :=
 ∃ (t':Tab) (lost':List Int),t'.b=t.b∧lost'.Perm lost∧v= .int .i64 (B6 t.ts uses lost' c).1∧H=Dk a t'++(chH (B6 t.ts uses lost' c).2.2++[])∧t'.ts=(B6 t.ts uses lost' c).2.1
theorem Mh {u uses l lost:List Int} {t':Tab} {v:Value} (hb:t'.b=t.b) (hP:l.Perm lost) (hu:u=uses) (hv:v= .int .i64 (B6 t.ts u l c).1) (hts:t'.ts=(B6 t.ts u l c).2.1):Agr a t c uses lost v (Dk a t'++(chH (B6 t.ts u l c).2.2++[])):=by
 subst hu;exact ⟨t',l,hb,hP,hv,rfl,hts⟩
theorem Ajj (ha:c.aC=a) {b:Int}:Does Tryz.prog 241 [ptr t.b,.int .i64 b] ((t.b,true,C (Hv a t) tTb)::(t.u.hp tI++(t.l.hp tI++(chH c++[])))) (Is (.bool (D5 t.ts c.blocks.length b)) ((t.b,true,C (Hv a t) tTb)::(t.u.hp tI++(t.l.hp tI++(chH c++[]))))):=by
 have h:=Ut (t:=t) ha (b:=b)
 rw [Ej] at h;simp only [List.cons_append,List.append_assoc,List.nil_append] at h;exact h
theorem Acg {b:Int} (hu:t.u.list.length≤1000) (hl:t.l.list.length≤11):Does Tryz.prog 243 [ptr t.b,.int .i64 b] ((t.b,true,C (Hv a t) tTb)::(t.u.hp tI++(t.l.hp tI++[]))) (fun v H=>∃ u l:Sl Int,v= .agg #[u.val,l.val]∧H=u.hp tI++(l.hp tI++((t.b,true,C (Hv a t) tTb)::(t.u.hp tI++(t.l.hp tI++[]))))∧u.list=t.u.list∧l.list.Perm (t.l.list++[b])∧u.isOwn=true∧l.isOwn=true):=by
 have h:=Asi (t:=t) (a:=a) (b:=b) hu hl
 rw [Ej] at h;simp only [List.cons_append,List.append_assoc,List.nil_append] at h;exact h
theorem Aol (ha:c.aC=a) {b:Int} (hu:t.u.list.length≤1000) (hl:t.l.list.length≤11) (hn:0≤t.next) (har:0≤t.area∧t.area≤1):Does Tryz.prog 232 [ptr t.b,.int .i64 b] (Dk a t++(chH c++[]))
  (fun v H=>if D5 t.ts c.blocks.length b=true then Agr a t c t.u.list (t.l.list++[b]) v H else v= .int .i64 1∧H=Dk a t++(chH c++[])):=by
 rw [Ej];simp only [List.cons_append,List.append_assoc,List.nil_append]
 refine Ah (n:=14) Tryz.func232 Tryz.ntmps232 rfl (Nat.le_of_ble_eq_true rfl)<|Ad<|Aa fun ops=>oA rfl<|Ac<|n_K<|Ad<|Ad<|Aa fun ops=>oM rfl<|oM rfl ?_
 refine A6 rfl (Ajj (t:=t) ha) sP rfl aQ ?_
 refine oR (Bx rfl)<|Ac<|n_K ?_
 refine Aj rfl (fun c8=> ?_) (fun c8=> ?_)
 ·skip
  refine Ad<|Aa fun ops=>oA rfl<|Ac<|n_K<|An<|r_K ?_
  exact Av (At Tryz.results232 (Ag rfl)) (by rw [if_neg (by simpa using c8)];exact ⟨rfl,rfl⟩) sP
 ·skip
  refine Ai<|n_K<|Ad<|Aa fun ops=>oM rfl<|oM rfl<|oM rfl ?_
  refine Bd rfl (Acg (t:=t) (a:=a) hu hl) sP rfl fun v12 Y12 h12=> ?_
  obtain ⟨u12,l12,rfl,rfl,hu12,hl12,ou12,ol12⟩:=h12
  refine Ay aQ ?_
  refine Bd rfl (Ph (t:=t) (u:=u12) (l:=l12) ha (by rw [hu12];exact hu) (by rw [hl12.length_eq];simp;omega) hn har) sP rfl fun v13 Y13 h13=> ?_
  rcases h13 with ⟨t',e1,e2,e3,rfl,rfl,e4,e5⟩ | ⟨e,rfl,e1,rfl,e4,e5⟩
  all_goals
   refine Ay aQ ?_
   refine oA rfl<|Ac<|n_K<|An ?_
   exact Av (At Tryz.results232 (Ag rfl)) (by rw [if_pos (by simpa using c8)];first | exact Mh e1 hl12 hu12 (by rw [e4]) e5 | exact Mh (t':=t) rfl hl12 hu12 (by rw [e4]) e5) (by rw [Ej];simp only [List.cons_append,List.append_assoc,List.nil_append];first | (rw [e2,e3];exact sP) | exact sP)
theorem Asj (ha:c.aC=a) {i b:Int} (hu:t.u.list.length≤1000) (hl:t.l.list.length≤11) (hn:0≤t.next) (har:0≤t.area∧t.area≤1):Does Tryz.prog 231 [ptr t.b,.int .i64 i,.int .i64 b] (Dk a t++(chH c++[]))
  (fun v H=>if ((atT t.ts i).2 && D5 t.ts c.blocks.length b)=true then Agr a t c (t.u.list.set i.toNat b) (t.l.list++[at0 t.u.list i]) v H else v= .int .i64 1∧H=Dk a t++(chH c++[])):=by
 refine Ah (n:=35) Tryz.func231 Tryz.ntmps231 rfl (Nat.le_of_ble_eq_true rfl)<|Ad<|Aa fun ops=>oA rfl<|Ac<|n_K<|Ad<|Aa fun ops=>oM rfl<|oM rfl ?_
 refine A6 rfl (Atd (t:=t)) sP rfl aQ ?_
 refine oM rfl<|oE rfl rfl<|oE rfl rfl<|oA rfl<|oA rfl<|Ac<|n_K<|Ad<|Ad ?_
 refine Bf [(2,18)] rfl fun ops y=> ?_
 refine oM rfl<|oR (Bx rfl)<|oM rfl ?_
 refine' Es (j:=2) (k:=4) y rfl rfl rfl rfl rfl rfl rfl (fun hg18=> ?_) ?_
 rotate_left
 ·try (simp at hg18;show _)
  refine o_g y rfl rfl ?_
  refine oM rfl ?_
  refine o_g y rfl rfl ?_
  refine oM rfl ?_
  refine o_g y rfl rfl ?_
  refine A6 rfl (Ut (t:=t) ha) sP rfl aQ ?_
  refine o_g y rfl rfl ?_
  refine oR (Bx rfl) ?_
  exact Ac ⟨rfl,rfl,⟨_,sP⟩⟩
 refine Ac<|n_K ?_
 refine Aj rfl (fun c23=> ?_) (fun c23=> ?_)
 ·skip
  have hc:¬ ((atT t.ts i).2 && D5 t.ts c.blocks.length b)=true:=(by simp at c23 ⊢;intro h;rcases c23 with h2 | h2;rw [h] at h2;cases h2;exact h2)
  refine Ad<|Aa fun ops=>oA rfl<|Ac<|n_K<|An<|r_K ?_
  exact Av (At Tryz.results231 (Ag rfl)) (by rw [if_neg hc];exact ⟨rfl,rfl⟩) sP
 ·skip
  have hc:(atT t.ts i).2=true∧D5 t.ts c.blocks.length b=true:=(by simp at c23;exact c23)
  have hi:0≤i∧i<t.u.list.length:=(by have:=hc.1;unfold atT at this;split at this;cases this;rename_i h;simp at h;have e:t.ts.uses=t.u.list:=rfl;rw [e] at h;omega)
  have hat:(atT t.ts i).1=at0 t.u.list i:=(by have:=hc.1;unfold atT at this ⊢;split at this;cases this;rename_i h;rw [if_neg h];rfl)
  rw [hat,Ej]
  simp only [List.cons_append,List.append_assoc,List.nil_append]
  refine Ai<|n_K<|Ad<|Aa fun ops=>oM rfl<|oM rfl ?_
  refine Bd rfl (Acg (t:=t) (a:=a) hu hl) sP rfl fun v26 Y26 h26=> ?_
  obtain ⟨u26,l26,rfl,rfl,hu26,hl26,ou26,ol26⟩:=h26
  refine Ay aQ ?_
  refine Aw rfl fun b9=> ?_
  refine Af rfl rfl uD rfl rfl rfl ?_
  refine Ac<|n_K<|Ad<|Aa fun ops=>oF rfl ?_
  refine oR (Al rfl mM rfl) ?_
  refine oM rfl<|oM rfl ?_
  refine oR (Bk rfl rfl ⟨hi.1,by rw [hu26];exact hi.2⟩) ?_
  (have hg:u26.list[i.toNat]? =some (at0 t.u.list i):=by (rw [hu26];exact Hz hi.1 hi.2));obtain ⟨u',hu'⟩:∃ u',u'=u26.set i.toNat b:=⟨_,rfl⟩;refine Fb (s:=u26) (o:=0) (z':=b) rfl rfl uL ou26 hg rfl rfl rfl (by rw [Kq ou26];exact Nat.zero_add _) ?_;rw [← hu'];have hl':u'.list=t.u.list.set i.toNat b:=(by rw [hu',Sl.set_list _ _ _ ou26,hu26]);have hv':u'.val=u26.val:=(by rw [hu',Sl.set_val])
  refine Ac<|n_K<|Ad<|Aa fun ops=>oM rfl ?_
  refine oR (Au rfl mM rfl) ?_
  refine Bd rfl ((by have h:=Ph (c:=c) (a:=a) (t:=t) (u:=u') (l:=l26) ha (by rw [hl',List.length_set];exact hu) (by rw [hl26.length_eq];simp;omega) hn har;rw [hv'] at h;exact h)) sP rfl fun v34 Y34 h34=> ?_
  rcases h34 with ⟨t',e1,e2,e3,rfl,rfl,e4,e5⟩ | ⟨e,rfl,e1,rfl,e4,e5⟩
  all_goals
   refine Ay aQ ?_
   refine oA rfl<|Ac<|n_K<|An ?_
   exact Av (At Tryz.results231 (Ag rfl)) (by rw [if_pos (by rw [hc.1,hc.2];rfl)];first | exact Mh e1 hl26 hl' (by rw [e4]) e5 | exact Mh (t':=t) rfl hl26 hl' (by rw [e4]) e5) (by rw [Ej];simp only [List.cons_append,List.append_assoc,List.nil_append];first | (rw [e2,e3];exact sP) | exact sP)
end
end
section
open Go.K
instance zer227:Zer Tryz.prog 227 ([.pointer none,.slice none 0 0,.slice none 0 0,.int .u64 0,.int .i64 0,.int .i64 0,.int .i64 0]):=⟨by kernel_rfl⟩
instance plc227:Plc Tryz.prog 227 [(0,1),(1,2),(3,1),(4,1),(5,1),(6,1)]:=⟨⟨_,Tryz.underlying227,fun _=>by kernel_rfl⟩⟩
instance ent129:Ent Tryz.prog 129:=⟨fun _ _=>by kernel_rfl⟩
instance ent131:Ent Tryz.prog 131:=⟨fun _ _=>by kernel_rfl⟩
def Uu (a:Nat) (c:Chip) (v:Value) (H:Hp):Prop :=
 if (Dj c).1=0 then ∃ t:Tab,v= .tuple #[ptr t.b,.int .i64 0]∧H=Dk a t++(chH c++[])∧t.ts=(Dj c).2
 else v= .tuple #[.pointer none,.int .i64 (Dj c).1]∧H=chH c++[]
def Awt (s:Sc) (u l:Sl Int):Prop:=u.list=s.uses∧l.list=s.lost
theorem Zf {c:Chip} (hb:2≤c.blocks.length∧c.blocks.length≤1000):Does Tryz.prog 129 [ptr c.aC] (chH c) (Uu c.aC c):=by
 refine Ah (n:=101) Tryz.func129 Tryz.ntmps129 rfl (Nat.le_of_ble_eq_true rfl)<|Ad<|Aa fun ops=>oA rfl<|oA rfl<|Ac<|n_K<|Ad<|Aa fun ops=>oM rfl<|oR (Bc rfl rfl) ?_
 refine De rfl rfl fun b20=> ?_
 refine oA rfl<|Ac<|n_K<|Ad<|Aa fun ops=>oA rfl<|Ac<|n_K<|Ad<|Ad<|Aa fun ops=>oM rfl<|Ac<|n_K ?_
 refine Ak ?_
 refine Im (G:=(b20,true,C (Hv c.aC ⟨b20,.nil,.nil,0,0,0,0⟩) tTb)::((Sl.nil:Sl Int).hp tI++((Sl.nil:Sl Int).hp tI++(chH c++[])))) (by simp only [Sl.hp_nil,List.nil_append,List.append_nil];rfl) ?_
 refine A8 [0,4] kQ (fun (st:Nat×Tab)=>[(21,.int .i64 st.1),(5,.bool (Db c st.1).2)]) (fun (st:Nat×Tab)=>(b20,true,C (Hv c.aC st.2) tTb)::(st.2.u.hp tI++(st.2.l.hp tI++(chH c++[])))) (fun (st:Nat×Tab)=>st.1≤2∧st.2.ts=(Db c st.1).1∧st.2.b=b20∧(0<st.1→Aww c 0 0=0)) (fun (st:Nat×Tab)=>2 - st.1) ((0,⟨b20,.nil,.nil,0,0,0,0⟩)) ⟨Nat.zero_le _,rfl,rfl,fun h=>by simp at h⟩ kP sP ?_
 rintro ⟨k,t⟩ ⟨h0,h1,h2,h3⟩
 simp only at h0 h1 h2 h3
 refine Ad<|Aa fun ops=>oR (Ae rfl rfl rfl)<|Ac<|n_K<|Ad ?_
 refine Aj rfl (fun c22=> ?_) (fun c22=> ?_)
 ·simp only [decide_eq_true_eq,decide_eq_false_iff_not] at c22
  refine Ai<|n_K<|Ad<|Ak<|Ad<|Aa fun ops=>oM rfl<|oA rfl<|Ac<|n_K<|Ad<|Aa fun ops=>oA rfl<|Ac ?_
  refine n_K<|Ad<|Aa fun ops=> ?_
  refine Aw rfl fun b8=> ?_
  refine Ac<|n_K<|Ad<|Aa fun ops=>oA rfl<|Ac<|n_K<|Ad<|Aa fun ops=>oA rfl<|oA rfl<|Ac<|n_K<|Ad ?_
  refine Ad<|Aa fun ops=>oM rfl<|Ac<|n_K<|Ak ?_
  refine Im (G:=(b8,true,C [(Sl.nil:Sl Int).val,(Sl.nil:Sl Int).val] tPl)::((Sl.nil:Sl Int).hp tI++((Sl.nil:Sl Int).hp tI++((b20,true,C (Hv c.aC t) tTb)::(t.u.hp tI++(t.l.hp tI++(chH c++[]))))))) (by simp only [Sl.hp_nil,List.nil_append];rfl) ?_
  refine A8 [0,4,5,6,8,21] kQ (fun (st:Nat×Sl Int×Sl Int)=>[(24,.int .i64 st.1),(7,.int .i64 (Ci c k st.1).last),(9,wv (Ci c k st.1).newest),(10,.int .i64 (Ci c k st.1).at'),(11,.bool (Ci c k st.1).any)]) (fun (st:Nat×Sl Int×Sl Int)=>(b8,true,C [st.2.1.val,st.2.2.val] tPl)::(st.2.1.hp tI++(st.2.2.hp tI++((b20,true,C (Hv c.aC t) tTb)::(t.u.hp tI++(t.l.hp tI++(chH c++[]))))))) (fun (st:Nat×Sl Int×Sl Int)=>st.1≤8∧Awt (Ci c k st.1) st.2.1 st.2.2∧(0<st.1→Aww c 0 0=0)) (fun (st:Nat×Sl Int×Sl Int)=>8 - st.1) ((0,.nil,.nil)) ⟨Nat.zero_le _,⟨rfl,rfl⟩,fun h=>by simp at h⟩ kP sP ?_
  rintro ⟨i,u,l⟩ ⟨k0,k1,k2⟩
  simp only at k0 k1 k2
  refine Ad<|Aa fun ops=>oR (Ae rfl rfl rfl)<|Ac<|n_K<|Ad ?_
  refine Aj rfl (fun c25=> ?_) (fun c25=> ?_)
  ·simp only [decide_eq_true_eq,decide_eq_false_iff_not] at c25
   have hms:Aww c k i=Aww c 0 0:=Aof hb.1 (by omega) (by omega)
   have hsc:Ci c k (i+1)=Ix c k i (Ci c k i):=rfl
   refine Ai<|n_K<|Ad<|Ak<|Ad<|Aa fun ops=>oM rfl<|oA rfl<|Ac<|n_K<|Ad<|Aa fun ops=>oM rfl<|oM rfl ?_
   refine oM rfl ?_
   refine A6 rfl (Yi) sP rfl aQ ?_
   refine oM rfl<|oE rfl rfl<|oE rfl rfl ?_
   refine Aw rfl fun b13=> ?_
   rw [Cs]
   first | refine Af rfl rfl uD (Ct) (Ar) (B2 (by first | exact Ar | exact List.length_replicate ..)) ?_ | refine Af rfl rfl uD rfl rfl rfl ?_
   refine oA rfl<|Ac<|n_K<|Ad<|Ad<|Aa fun ops=>oM rfl<|oR (Ae rfl rfl rfl)<|Ac<|n_K ?_
   refine Aj rfl (fun c35=> ?_) (fun c35=> ?_)
   ·skip
    have hne:¬ Aww c 0 0=0:=(by rw [← hms];simpa using c35)
    have hres:Dj c=(Aww c 0 0,ts0):=(by unfold Dj;rw [if_pos hne])
    refine Ad<|Aa fun ops=>oM rfl<|oA rfl<|oA rfl<|Ac<|n_K<|An<|r_K<|Bn<|r_K<|r_K<|Bn<|r_K ?_
    refine Bn<|r_K<|r_K<|Bn<|r_K ?_
    exact Av (Bz Tryz.results129 (Ag rfl) (Ag rfl)) (by unfold Uu;rw [if_neg (by rw [hres];exact hne),hres,hms];exact ⟨rfl,rfl⟩) sP
   ·skip
    have hz:Aww c 0 0=0:=(by rw [← hms];simpa using c35)
    refine Ai<|n_K<|Ad<|Ad<|Aa fun ops=> ?_
    refine oR (Au rfl mM (by first | exact Bg | rfl)) ?_
    refine A6 rfl (L7) sP rfl aQ ?_
    refine oR (Bx rfl)<|Ac<|n_K ?_
    refine Aj rfl (fun c39=> ?_) (fun c39=> ?_)
    ·skip
     have hla:(if Bs (B0 c k i)=true then (Ci c k i).last else (i:Int)+1)=(i:Int)+1:=(by rw [if_neg (by simpa using c39)])
     refine Aa fun ops=>oM rfl ?_
     refine oR (Ao rfl rfl (by omega)) ?_
     refine oA rfl<|Ac<|n_K<|Ad ?_
     refine N7 [] [(11,(.fork [(0,false),(1,false)] 2 (.fork [] 3 (.one [(4,false),(5,false),(6,false),(7,false),(8,true),(9,true),(10,false)]) 8 (.one [(3,true),(4,false),(5,false),(6,false),(7,false),(9,true),(10,false)])) 8 (.one [(2,true),(3,true),(4,false),(5,false),(6,false),(7,false),(9,true),(10,false)]))),(12,(.one [(11,false)]))] (by kernel_rfl) rfl fun ops w0 H0 y=> ?_
     refine Le ?_
     refine Lf ?_ rfl
     refine xR (Au rfl mM (by first | exact Bg | rfl)) ?_
     refine xM rfl ?_
     refine Am ⟨⟨_,sP⟩,?_,?_⟩
     refine Be ?_
     refine A6 rfl (Fc) sP rfl aQ ?_
     refine Ac ⟨rfl,⟨_,sP⟩,?_⟩
     refine Am ?_
     refine Lf ?_ rfl
     refine Am ⟨⟨_,sP⟩,?_,?_⟩
     refine Be ?_
     refine Bd rfl (J4 (q:=B0 c k i) (n:=c.blocks.length)) sP rfl fun v46 Y46 h46=> ?_
     obtain ⟨u46,l46,rfl,rfl,hu46,hl46,ou46,ol46⟩:=h46
     refine Ay aQ ?_
     refine Ac ⟨rfl,⟨_,sP⟩,?_⟩
     refine Am ?_
     refine G1 ?_
     refine xM rfl<|xE rfl rfl<|xE rfl rfl<|xE rfl rfl<|Be ?_
     refine Aw rfl fun b15=> ?_
     refine Ac ⟨rfl,⟨_,sP⟩,?_⟩
     refine Be ?_
     refine Af rfl rfl uD rfl rfl rfl ?_
     refine Ac ⟨rfl,⟨_,sP⟩,?_⟩
     refine xA rfl<|Am ?_
     rotate_left
     refine Be ?_
     refine Aw rfl fun b15=> ?_
     refine Ac ⟨rfl,⟨_,sP⟩,?_⟩
     refine Am ?_
     refine G1 ?_
     refine Be ?_
     refine Bd rfl (J4 (q:=B0 c k i) (n:=c.blocks.length)) sP rfl fun v46 Y46 h46=> ?_
     obtain ⟨u46,l46,rfl,rfl,hu46,hl46,ou46,ol46⟩:=h46
     refine Ay aQ ?_
     refine Ac ⟨rfl,⟨_,sP⟩,?_⟩
     refine xM rfl<|xE rfl rfl<|xE rfl rfl<|xE rfl rfl<|Be ?_
     refine Af rfl rfl uD rfl rfl rfl ?_
     refine Ac ⟨rfl,⟨_,sP⟩,?_⟩
     refine xA rfl<|Am ?_
     rotate_left
     refine Be ?_
     refine Aw rfl fun b15=> ?_
     refine Ac ⟨rfl,⟨_,sP⟩,?_⟩
     refine Am ?_
     refine G1 ?_
     refine Be ?_
     refine A6 rfl (Fc) sP rfl aQ ?_
     refine Ac ⟨rfl,⟨_,sP⟩,?_⟩
     refine Be ?_
     refine Bd rfl (J4 (q:=B0 c k i) (n:=c.blocks.length)) sP rfl fun v46 Y46 h46=> ?_
     obtain ⟨u46,l46,rfl,rfl,hu46,hl46,ou46,ol46⟩:=h46
     refine Ay aQ ?_
     refine Ac ⟨rfl,⟨_,sP⟩,?_⟩
     refine xM rfl<|xE rfl rfl<|xE rfl rfl<|xE rfl rfl<|Be ?_
     refine Af rfl rfl uD rfl rfl rfl ?_
     refine Ac ⟨rfl,⟨_,sP⟩,?_⟩
     refine xA rfl<|Am ?_
     rotate_left
     all_goals
      refine Le ?_
      refine G1 ?_
      refine xA rfl<|Am ?_
      refine S5 ?_
      refine n_K<|Ad ?_
      refine Bf [(1,51),(4,54)] rfl fun ops y=> ?_
      refine oM rfl<|oM rfl ?_
      refine' Df (j:=1) (k:=7) y rfl rfl rfl rfl rfl rfl rfl (fun hg51=> ?_) ?_
      rotate_left
      ·try (simp at hg51;show _)
       refine o_g y rfl rfl ?_
       refine oM rfl ?_
       refine o_g y rfl rfl ?_
       refine oR (Bx rfl) ?_
       refine o_g y rfl rfl ?_
       refine oM rfl ?_
       refine' Es (j:=4) (k:=3) y rfl rfl rfl rfl rfl rfl rfl (fun hg54=> ?_) ?_
       rotate_left
       ·try (simp at hg54;show _)
        refine o_g y rfl rfl ?_
        refine oM rfl ?_
        refine o_g y rfl rfl ?_
        refine oM rfl ?_
        refine o_g y rfl rfl ?_
        refine oR (Ae rfl rfl rfl) ?_
        exact Ac ⟨rfl,rfl,⟨_,sP⟩⟩
       exact Ac ⟨rfl,rfl,⟨_,sP⟩⟩
      refine Ac<|n_K ?_
      refine Aj rfl (fun c59=> ?_) (fun c59=> ?_)
      ·skip
       have hs1:Ci c k (i+1)=⟨(if Bs (B0 c k i)=true then (Ci c k i).last else (i:Int)+1),(Dp (B0 c k i) c.blocks.length).1,(Dp (B0 c k i) c.blocks.length).2.1,(Dp (B0 c k i) c.blocks.length).2.2.1,i,true⟩:=(by rw [hsc];unfold Ix;simp only [];rw [if_pos c59])
       rw [hla] at hs1
       refine Aa fun ops=> ?_
       refine oR (Au rfl mM rfl) ?_
       refine oM rfl<|oM rfl ?_
       refine Af rfl rfl uD rfl rfl rfl ?_
       refine oA rfl<|oA rfl<|oA rfl<|Ac<|Az<|n_K<|Aa fun ops=> ?_
       refine oR (Ao rfl rfl (by omega)) ?_
       refine oM rfl<|Ac<|n_K ?_
       first | refine ⟨(i+1,u,l),⟨by simp only;omega,by rw [hs1];exact k1,fun _=>hz⟩,by simp only;omega,(by rw [hs1];exact kP),kP,_,sP⟩ | refine ⟨(i+1,u46,l46),⟨by simp only;omega,by rw [hs1];exact ⟨hu46,hl46⟩,fun _=>hz⟩,by simp only;omega,(by rw [hs1];exact kP),kP,_,sP⟩
      ·skip
       have hs1:Ci c k (i+1)={ Ci c k i with last:=(if Bs (B0 c k i)=true then (Ci c k i).last else (i:Int)+1) }:=(by rw [hsc];unfold Ix;simp only [];rw [if_neg (by rw [c59];exact Bool.false_ne_true)])
       rw [hla] at hs1
       refine Ai<|Az<|n_K<|Aa fun ops=> ?_
       refine oR (Ao rfl rfl (by omega)) ?_
       refine oM rfl<|Ac<|n_K ?_
       first | refine ⟨(i+1,u,l),⟨by simp only;omega,by rw [hs1];exact k1,fun _=>hz⟩,by simp only;omega,(by rw [hs1];exact kP),kP,_,sP⟩ | refine ⟨(i+1,u46,l46),⟨by simp only;omega,by rw [hs1];exact ⟨hu46,hl46⟩,fun _=>hz⟩,by simp only;omega,(by rw [hs1];exact kP),kP,_,sP⟩
    ·skip
     have hla:(if Bs (B0 c k i)=true then (Ci c k i).last else (i:Int)+1)=(Ci c k i).last:=(by rw [if_pos (by simpa using c39)])
     refine Ai<|n_K<|Ad ?_
     refine N7 [] [(11,(.fork [(0,false),(1,false)] 2 (.fork [] 3 (.one [(4,false),(5,false),(6,false),(7,false),(8,true),(9,true),(10,false)]) 8 (.one [(3,true),(4,false),(5,false),(6,false),(7,false),(9,true),(10,false)])) 8 (.one [(2,true),(3,true),(4,false),(5,false),(6,false),(7,false),(9,true),(10,false)]))),(12,(.one [(11,false)]))] (by kernel_rfl) rfl fun ops w0 H0 y=> ?_
     refine Le ?_
     refine Lf ?_ rfl
     refine xR (Au rfl mM (by first | exact Bg | rfl)) ?_
     refine xM rfl ?_
     refine Am ⟨⟨_,sP⟩,?_,?_⟩
     refine Be ?_
     refine A6 rfl (Fc) sP rfl aQ ?_
     refine Ac ⟨rfl,⟨_,sP⟩,?_⟩
     refine Am ?_
     refine Lf ?_ rfl
     refine Am ⟨⟨_,sP⟩,?_,?_⟩
     refine Be ?_
     refine Bd rfl (J4 (q:=B0 c k i) (n:=c.blocks.length)) sP rfl fun v46 Y46 h46=> ?_
     obtain ⟨u46,l46,rfl,rfl,hu46,hl46,ou46,ol46⟩:=h46
     refine Ay aQ ?_
     refine Ac ⟨rfl,⟨_,sP⟩,?_⟩
     refine Am ?_
     refine G1 ?_
     refine xM rfl<|xE rfl rfl<|xE rfl rfl<|xE rfl rfl<|Be ?_
     refine Aw rfl fun b15=> ?_
     refine Ac ⟨rfl,⟨_,sP⟩,?_⟩
     refine Be ?_
     refine Af rfl rfl uD rfl rfl rfl ?_
     refine Ac ⟨rfl,⟨_,sP⟩,?_⟩
     refine xA rfl<|Am ?_
     rotate_left
     refine Be ?_
     refine Aw rfl fun b15=> ?_
     refine Ac ⟨rfl,⟨_,sP⟩,?_⟩
     refine Am ?_
     refine G1 ?_
     refine Be ?_
     refine Bd rfl (J4 (q:=B0 c k i) (n:=c.blocks.length)) sP rfl fun v46 Y46 h46=> ?_
     obtain ⟨u46,l46,rfl,rfl,hu46,hl46,ou46,ol46⟩:=h46
     refine Ay aQ ?_
     refine Ac ⟨rfl,⟨_,sP⟩,?_⟩
     refine xM rfl<|xE rfl rfl<|xE rfl rfl<|xE rfl rfl<|Be ?_
     refine Af rfl rfl uD rfl rfl rfl ?_
     refine Ac ⟨rfl,⟨_,sP⟩,?_⟩
     refine xA rfl<|Am ?_
     rotate_left
     refine Be ?_
     refine Aw rfl fun b15=> ?_
     refine Ac ⟨rfl,⟨_,sP⟩,?_⟩
     refine Am ?_
     refine G1 ?_
     refine Be ?_
     refine A6 rfl (Fc) sP rfl aQ ?_
     refine Ac ⟨rfl,⟨_,sP⟩,?_⟩
     refine Be ?_
     refine Bd rfl (J4 (q:=B0 c k i) (n:=c.blocks.length)) sP rfl fun v46 Y46 h46=> ?_
     obtain ⟨u46,l46,rfl,rfl,hu46,hl46,ou46,ol46⟩:=h46
     refine Ay aQ ?_
     refine Ac ⟨rfl,⟨_,sP⟩,?_⟩
     refine xM rfl<|xE rfl rfl<|xE rfl rfl<|xE rfl rfl<|Be ?_
     refine Af rfl rfl uD rfl rfl rfl ?_
     refine Ac ⟨rfl,⟨_,sP⟩,?_⟩
     refine xA rfl<|Am ?_
     rotate_left
     all_goals
      refine Le ?_
      refine G1 ?_
      refine xA rfl<|Am ?_
      refine S5 ?_
      refine n_K<|Ad ?_
      refine Bf [(1,51),(4,54)] rfl fun ops y=> ?_
      refine oM rfl<|oM rfl ?_
      refine' Df (j:=1) (k:=7) y rfl rfl rfl rfl rfl rfl rfl (fun hg51=> ?_) ?_
      rotate_left
      ·try (simp at hg51;show _)
       refine o_g y rfl rfl ?_
       refine oM rfl ?_
       refine o_g y rfl rfl ?_
       refine oR (Bx rfl) ?_
       refine o_g y rfl rfl ?_
       refine oM rfl ?_
       refine' Es (j:=4) (k:=3) y rfl rfl rfl rfl rfl rfl rfl (fun hg54=> ?_) ?_
       rotate_left
       ·try (simp at hg54;show _)
        refine o_g y rfl rfl ?_
        refine oM rfl ?_
        refine o_g y rfl rfl ?_
        refine oM rfl ?_
        refine o_g y rfl rfl ?_
        refine oR (Ae rfl rfl rfl) ?_
        exact Ac ⟨rfl,rfl,⟨_,sP⟩⟩
       exact Ac ⟨rfl,rfl,⟨_,sP⟩⟩
      refine Ac<|n_K ?_
      refine Aj rfl (fun c59=> ?_) (fun c59=> ?_)
      ·skip
       have hs1:Ci c k (i+1)=⟨(if Bs (B0 c k i)=true then (Ci c k i).last else (i:Int)+1),(Dp (B0 c k i) c.blocks.length).1,(Dp (B0 c k i) c.blocks.length).2.1,(Dp (B0 c k i) c.blocks.length).2.2.1,i,true⟩:=(by rw [hsc];unfold Ix;simp only [];rw [if_pos c59])
       rw [hla] at hs1
       refine Aa fun ops=> ?_
       refine oR (Au rfl mM rfl) ?_
       refine oM rfl<|oM rfl ?_
       refine Af rfl rfl uD rfl rfl rfl ?_
       refine oA rfl<|oA rfl<|oA rfl<|Ac<|Az<|n_K<|Aa fun ops=> ?_
       refine oR (Ao rfl rfl (by omega)) ?_
       refine oM rfl<|Ac<|n_K ?_
       first | refine ⟨(i+1,u,l),⟨by simp only;omega,by rw [hs1];exact k1,fun _=>hz⟩,by simp only;omega,(by rw [hs1];exact kP),kP,_,sP⟩ | refine ⟨(i+1,u46,l46),⟨by simp only;omega,by rw [hs1];exact ⟨hu46,hl46⟩,fun _=>hz⟩,by simp only;omega,(by rw [hs1];exact kP),kP,_,sP⟩
      ·skip
       have hs1:Ci c k (i+1)={ Ci c k i with last:=(if Bs (B0 c k i)=true then (Ci c k i).last else (i:Int)+1) }:=(by rw [hsc];unfold Ix;simp only [];rw [if_neg (by rw [c59];exact Bool.false_ne_true)])
       rw [hla] at hs1
       refine Ai<|Az<|n_K<|Aa fun ops=> ?_
       refine oR (Ao rfl rfl (by omega)) ?_
       refine oM rfl<|Ac<|n_K ?_
       first | refine ⟨(i+1,u,l),⟨by simp only;omega,by rw [hs1];exact k1,fun _=>hz⟩,by simp only;omega,(by rw [hs1];exact kP),kP,_,sP⟩ | refine ⟨(i+1,u46,l46),⟨by simp only;omega,by rw [hs1];exact ⟨hu46,hl46⟩,fun _=>hz⟩,by simp only;omega,(by rw [hs1];exact kP),kP,_,sP⟩
  ·simp only [decide_eq_true_eq,decide_eq_false_iff_not] at c25
   have hi8:i=8:=(by omega)
   subst hi8
   have hz:Aww c 0 0=0:=k2 (by omega)
   have hop:Db c (k+1)=Iy c k (Db c k):=rfl
   rw [show Db c k=((Db c k).1,(Db c k).2) from rfl,← h1] at hop
   refine Bb<|x_K<|x_K<|Bj<|n_K<|Ad ?_
   refine Bf [(1,65),(4,68)] rfl fun ops y=> ?_
   refine oM rfl<|oM rfl ?_
   refine' Df (j:=1) (k:=10) y rfl rfl rfl rfl rfl rfl rfl (fun hg65=> ?_) ?_
   rotate_left
   ·try (simp at hg65;show _)
    refine o_g y rfl rfl ?_
    refine oM rfl ?_
    refine o_g y rfl rfl ?_
    refine oR (Bx rfl) ?_
    refine o_g y rfl rfl ?_
    refine oM rfl ?_
    refine' Es (j:=4) (k:=6) y rfl rfl rfl rfl rfl rfl rfl (fun hg68=> ?_) ?_
    rotate_left
    ·try (simp at hg68;show _)
     refine o_g y rfl rfl ?_
     refine oM rfl ?_
     refine o_g y rfl rfl ?_
     refine oM rfl ?_
     refine o_g y rfl rfl ?_
     refine oN rfl ?_
     refine o_g y rfl rfl ?_
     refine oF rfl ?_
     refine o_g y rfl rfl ?_
     refine oR (Al rfl mM rfl) ?_
     refine o_g y rfl rfl ?_
     refine oR (Ae rfl rfl rfl) ?_
     exact Ac ⟨rfl,rfl,⟨_,sP⟩⟩
    exact Ac ⟨rfl,rfl,⟨_,sP⟩⟩
   refine Ac<|n_K ?_
   refine Aj rfl (fun c76=> ?_) (fun c76=> ?_)
   ·skip
    have ho1:Db c (k+1)=(⟨(Ci c k 8).uses,(Ci c k 8).lost,(Ci c k 8).newest,k,(Ci c k 8).last,(Ci c k 8).at'⟩,true):=(by rw [hop];exact if_pos c76)
    refine Aa fun ops=>oM rfl<|oM rfl<|oM rfl<|oM rfl<|oM rfl ?_
    refine oR (Au rfl mM rfl) ?_
    refine oM rfl<|oM rfl<|oM rfl<|oM rfl<|oN rfl<|oF rfl ?_
    refine Af rfl rfl uD rfl rfl rfl ?_
    refine oN rfl<|oF rfl ?_
    refine Af rfl rfl uD rfl rfl rfl ?_
    refine oN rfl<|oF rfl ?_
    refine Af rfl rfl uD rfl rfl rfl ?_
    refine oN rfl<|oF rfl ?_
    refine Af rfl rfl uD rfl rfl rfl ?_
    refine oN rfl<|oF rfl ?_
    refine Af rfl rfl uD rfl rfl rfl ?_
    refine oA rfl<|Ac<|Az<|n_K<|Aa fun ops=> ?_
    refine oR (Ao rfl rfl (by omega)) ?_
    refine oM rfl<|Ac<|n_K ?_
    first | refine ⟨(k+1,t),⟨by simp only;omega,by rw [ho1];exact h1,h2,fun _=>hz⟩,by simp only;omega,(by rw [ho1];exact kP),kP,_,sP⟩ | refine ⟨(k+1,⟨b20,u,l,(Ci c k 8).newest,k,(Ci c k 8).last,(Ci c k 8).at'⟩),⟨by simp only;omega,by rw [ho1];show TS.mk _ _ _ _ _ _=_;rw [k1.1,k1.2],rfl,fun _=>hz⟩,by simp only;omega,(by rw [ho1];exact kP),kP,_,sP⟩
   ·skip
    have ho1:Db c (k+1)=Db c k:=(by rw [hop];refine (if_neg (by intro h;have h':=h.symm.trans c76;cases h')).trans ?_;rw [h1])
    refine Ai<|Az<|n_K<|Aa fun ops=> ?_
    refine oR (Ao rfl rfl (by omega)) ?_
    refine oM rfl<|Ac<|n_K ?_
    first | refine ⟨(k+1,t),⟨by simp only;omega,by rw [ho1];exact h1,h2,fun _=>hz⟩,by simp only;omega,(by rw [ho1];exact kP),kP,_,sP⟩ | refine ⟨(k+1,⟨b20,u,l,(Ci c k 8).newest,k,(Ci c k 8).last,(Ci c k 8).at'⟩),⟨by simp only;omega,by rw [ho1];show TS.mk _ _ _ _ _ _=_;rw [k1.1,k1.2],rfl,fun _=>hz⟩,by simp only;omega,(by rw [ho1];exact kP),kP,_,sP⟩
 ·simp only [decide_eq_true_eq,decide_eq_false_iff_not] at c22
  have hk2:k=2:=(by omega)
  subst hk2
  have hz:Aww c 0 0=0:=h3 (by omega)
  refine Bb<|x_K<|x_K<|Bj<|n_K<|Ad<|Ad<|Aa fun ops=>oM rfl<|oR (Bx rfl)<|Ac<|n_K ?_
  refine Aj rfl (fun c99=> ?_) (fun c99=> ?_)
  ·skip
   have hres:Dj c=(35,ts0):=(by unfold Dj;rw [if_neg (by rw [hz];simp),if_neg (by simpa using c99)])
   refine Ad<|Aa fun ops=>oA rfl<|oA rfl<|Ac<|n_K<|An<|r_K ?_
   exact Av (Bz Tryz.results129 (Ag rfl) (Ag rfl)) (by unfold Uu;rw [if_neg (by rw [hres];decide),hres];exact ⟨rfl,rfl⟩) sP
  ·skip
   have hres:Dj c=(0,(Db c 2).1):=(by unfold Dj;rw [if_neg (by rw [hz];simp),if_pos (by simpa using c99)])
   refine Ai<|n_K<|Ad<|Aa fun ops=>oM rfl<|oA rfl<|oA rfl<|Ac<|n_K<|An ?_
   exact Av (Bz Tryz.results129 (Ag rfl) (Ag rfl)) (by unfold Uu;rw [if_pos (by rw [hres])];exact ⟨t,by rw [h2],rfl,by rw [hres,h1]⟩) (by rw [Ej,h2];simp only [List.cons_append,List.append_assoc,List.nil_append];exact sP)
theorem Aom {c:Chip} (hb:2≤c.blocks.length∧c.blocks.length≤1000):Does Tryz.prog 129 [ptr c.aC] (chH c) (fun v H=>(∃ t:Tab,v= .tuple #[ptr t.b,.int .i64 0]∧H=Dk c.aC t++(chH c++[])∧t.ts=(Dj c).2∧(Dj c).1=0)∨(v= .tuple #[.pointer none,.int .i64 (Dj c).1]∧H=chH c++[]∧(Dj c).1≠0)) :=
 (Zf hb).mono fun v H h=>by
  unfold Uu at h
  split at h
  ·rename_i h0;obtain ⟨t,h1,h2,h3⟩:=h;exact .inl ⟨t,h1,h2,h3,h0⟩
  ·rename_i h0;exact .inr ⟨h.1,h.2,h0⟩
def Zg (a:Nat) (c:Chip) (v:Value) (H:Hp):Prop :=
 (∃ t:Tab,v= .tuple #[ptr t.b,.int .i64 0]∧H=Dk a t++(chH (C1 c).2.2++[])∧t.ts=(C1 c).2.1∧(C1 c).1=0)∨(v= .tuple #[.pointer none,.int .i64 (C1 c).1]∧H=chH (C1 c).2.2++[]∧(C1 c).1≠0)
theorem Ajk {c:Chip} (hb:2≤c.blocks.length∧c.blocks.length≤1000):Does Tryz.prog 131 [ptr c.aC] (chH c) (Zg c.aC c):=by
 refine Ah (n:=124) Tryz.func131 Tryz.ntmps131 rfl (Nat.le_of_ble_eq_true rfl)<|Ad<|Aa fun ops=>oA rfl<|oA rfl<|Ac<|n_K<|Ad<|Ad<|Aa fun ops=>oM rfl ?_
 refine A6 rfl (Aer) sP rfl aQ ?_
 refine oA rfl<|Ac<|n_K<|Ad<|Aa fun ops=>oM rfl<|oR (Ae rfl rfl rfl)<|Ac<|n_K ?_
 refine Aj rfl (fun c14=> ?_) (fun c14=> ?_)
 ·skip
  have hm:¬ Aww c 0 0=0:=(by simpa using c14)
  have hres:C1 c=(Aww c 0 0,ts0,c):=(by unfold C1;rw [if_pos hm])
  refine Ad<|Aa fun ops=>oM rfl<|oA rfl<|oA rfl<|Ac<|n_K<|An<|r_K ?_
  exact Av (Bz Tryz.results131 (Ag rfl) (Ag rfl)) (by right;rw [hres];exact ⟨rfl,rfl,hm⟩) sP
 ·skip
  have hm:Aww c 0 0=0:=(by simpa using c14)
  refine Ai<|n_K<|Ad<|Aa fun ops=>oM rfl<|oR (Bc rfl rfl) ?_
  refine De rfl rfl fun b18=> ?_
  refine oA rfl<|Ac<|n_K<|Ad<|Ad<|Aa fun ops=>oM rfl ?_
  refine Bd rfl (Aom hb) sP rfl fun v21 Y21 h21=> ?_
  rcases h21 with ⟨t',rfl,rfl,ht,ho⟩ | ⟨rfl,rfl,ho⟩
  all_goals
   refine Ay aQ ?_
   refine oM rfl<|oE rfl rfl<|oE rfl rfl<|oA rfl<|oA rfl<|Ac<|n_K<|Ad<|Aa fun ops=>oM rfl<|oR (Ae rfl rfl rfl)<|Ac<|n_K ?_
   refine Aj rfl (fun c25=> ?_) (fun c25=> ?_)
   ·skip
    try (exfalso;(simp at c25;exact ho c25);done)
    all_goals
     have hv:E9 c=(t'.version,t'.area,t'.next):=(by unfold E9;rw [if_pos ho,← ht];rfl)
     rw [Ej]
     simp only [List.cons_append,List.append_assoc,List.nil_append]
     refine He [] [0,1,2,3,4,5,7,8,9,11,12,13] [[(6,false),(10,false),(14,false)],[(15,false)],[(16,false)],[(17,true)],[(18,false)],[(19,false)],[(20,true)],[(21,false)],[(22,false)],[(23,true)]] (by kernel_rfl) rfl rfl fun ops w0 H0 y=> ?_
     unfold Tg
     refine xM rfl<|xM rfl<|xM rfl<|xM rfl<|xN rfl<|xF rfl<|xM rfl<|xN rfl<|xF rfl<|xM rfl<|xN rfl<|xF rfl<|Am<|A4 ?_
     refine xR (Al rfl mM rfl) ?_
     refine xR (Al rfl mM rfl) ?_
     refine xR (Al rfl mM rfl) ?_
     refine Am<|A4<|xN rfl<|Am<|A4<|xF rfl<|Am<|Bh<|Be ?_
     refine Af rfl rfl uD rfl rfl rfl ?_
     refine Ac ⟨rfl,⟨_,sP⟩,?_⟩
     refine Am<|A4<|xN rfl<|Am<|A4<|xF rfl<|Am<|Bh<|Be ?_
     refine Af rfl rfl uD rfl rfl rfl ?_
     refine Ac ⟨rfl,⟨_,sP⟩,?_⟩
     refine Am<|A4<|xN rfl<|Am<|A4<|xF rfl<|Am<|Bh<|Be ?_
     refine Af rfl rfl uD rfl rfl rfl ?_
     refine Ac ⟨rfl,⟨_,sP⟩,?_⟩
     refine Am<|Bm<|n_K<|Ad<|Aa fun ops=>oM rfl ?_
     refine A6 rfl (Fc) sP rfl aQ ?_
     refine oR (Ae rfl rfl rfl)<|oR (Ae rfl rfl rfl)<|oA rfl<|Ac<|n_K<|Ad<|Ad<|Aa fun ops=>oM rfl ?_
     refine A6 rfl (Fc) sP rfl aQ ?_
     refine oM rfl<|Ac<|n_K<|Ak ?_
     refine Im (Gu (α:=Int) (T:=tI)) ?_
     refine Im (Gu (α:=Int) (T:=tI)) ?_
     have hfr:=Ur c
     refine A8 [0,5,8,52] kQ (fun (st:Nat×Sl Int×Sl Int)=>[(53,.int .i64 st.1)]) (fun (st:Nat×Sl Int×Sl Int)=>(b18,true,C (Hv c.aC ⟨b18,st.2.1,st.2.2,(E9 c).1,(E9 c).2.1,(E9 c).2.2,0⟩) tTb)::(st.2.1.hp tI++(st.2.2.hp tI++(chH c++[])))) (fun (st:Nat×Sl Int×Sl Int)=>st.1≤c.blocks.length∧st.2.1.list=(Fp c (Dt c) st.1).1∧st.2.2.list=(Fp c (Dt c) st.1).2∧st.2.1.isOwn=true∧st.2.2.isOwn=true) (fun (st:Nat×Sl Int×Sl Int)=>c.blocks.length - st.1) ((0,.nil,.nil)) ⟨Nat.zero_le _,rfl,rfl,rfl,rfl⟩ kP (by rw [hv];exact sP) ?_
     rintro ⟨i,u,l⟩ ⟨h0,h1,h2,h3,h4⟩
     simp only at h0 h1 h2 h3 h4
     have hlen:=Us c (Dt c) i
     rw [← h1,← h2] at hlen
     refine Ad<|Aa fun ops=>oR (Ae rfl rfl rfl)<|Ac<|n_K<|Ad ?_
     refine Aj rfl (fun c54=> ?_) (fun c54=> ?_)
     ·simp only [decide_eq_true_eq,decide_eq_false_iff_not] at c54
      refine Ai<|n_K<|Ad<|Ak<|Ad<|Aa fun ops=>oM rfl<|oA rfl<|Ac<|n_K<|Ak<|Ad<|Aa fun ops=>oM rfl ?_
      refine oM rfl ?_
      refine A6 rfl (Xd (c:=c) rfl) sP rfl aQ ?_
      refine oA rfl<|Ac<|n_K ?_
      refine Aj rfl (fun c56=> ?_) (fun c56=> ?_)
      ·skip
       have hf:Fp c (Dt c) (i+1)=(u.list,l.list++[(i:Int)]):=(by show (if I4 c i=true then _ else _)=_;rw [if_pos c56,h1,h2])
       refine Aa fun ops=>oM rfl<|oM rfl<|oN rfl<|oF rfl<|oF rfl ?_
       refine oR (Al rfl mM rfl) ?_
       refine oM rfl ?_
       refine A5 rfl rfl rfl rfl fun b67=> ?_
       refine Bp (s:=l) (new:=[(i:Int)]) (m:=1) rfl rfl pL h4 (Cv (r:=true) mM rfl) rfl rfl rfl rfl (by omega) rfl fun s68 hs1 hs2=> ?_
       refine oN rfl<|oF rfl<|oF rfl ?_
       refine Af rfl rfl uD rfl rfl rfl ?_
       refine Ac<|Az<|Az<|n_K<|Aa fun ops=> ?_
       refine oR (Ao rfl rfl (by omega)) ?_
       refine oM rfl<|Ac<|n_K ?_
       first | refine ⟨(i+1,u,l),⟨by simp only;omega,(congrArg Prod.fst hf).symm,(congrArg Prod.snd hf).symm,h3,h4⟩,by simp only;omega,lZ⟩ | refine ⟨(i+1,u,s68),⟨by simp only;omega,(congrArg Prod.fst hf).symm,hs1.trans (congrArg Prod.snd hf).symm,h3,hs2⟩,by simp only;omega,lZ⟩ | refine ⟨(i+1,s93,l),⟨by simp only;omega,hs1.trans (congrArg Prod.fst hf).symm,(congrArg Prod.snd hf).symm,hs2,h4⟩,by simp only;omega,lZ⟩
      ·skip
       have hf0:¬ I4 c i=true:=(by rw [c56];exact Bool.false_ne_true)
       refine Ad ?_
       refine Bf [(2,75)] rfl fun ops y=> ?_
       refine oM rfl<|oR (Ae rfl rfl rfl)<|oM rfl ?_
       refine' Df (j:=2) (k:=8) y rfl rfl rfl rfl rfl rfl rfl (fun hg75=> ?_) ?_
       rotate_left
       ·try (simp at hg75;show _)
        refine o_g y rfl rfl ?_
        refine oM rfl ?_
        refine o_g y rfl rfl ?_
        refine oN rfl ?_
        refine o_g y rfl rfl ?_
        refine oF rfl ?_
        refine o_g y rfl rfl ?_
        refine oF rfl ?_
        refine o_g y rfl rfl ?_
        refine oR (Al rfl mM rfl) ?_
        refine o_g y rfl rfl ?_
        refine oR (A7 rfl) ?_
        refine o_g y rfl rfl ?_
        refine oM rfl ?_
        refine o_g y rfl rfl ?_
        refine oR (Ae rfl rfl rfl) ?_
        exact Ac ⟨rfl,rfl,⟨_,sP⟩⟩
       refine oA rfl<|Ac<|n_K ?_
       refine Aj rfl (fun c72=> ?_) (fun c72=> ?_)
       ·skip
        have hf:Fp c (Dt c) (i+1)=(u.list++[(i:Int)],l.list):=(by show (if I4 c i=true then _ else _)=_;rw [if_neg hf0,← h1,← h2];exact if_pos c72)
        refine Aa fun ops=>oM rfl<|oM rfl<|oN rfl<|oF rfl<|oF rfl ?_
        refine oR (Al rfl mM rfl) ?_
        refine oM rfl ?_
        refine A5 rfl rfl rfl rfl fun b92=> ?_
        refine Bp (s:=u) (new:=[(i:Int)]) (m:=1) rfl rfl pL h3 (Cv (r:=true) mM rfl) rfl rfl rfl rfl (by omega) rfl fun s93 hs1 hs2=> ?_
        refine oN rfl<|oF rfl<|oF rfl ?_
        refine Af rfl rfl uD rfl rfl rfl ?_
        refine Ac<|Az<|Az<|n_K<|Aa fun ops=> ?_
        refine oR (Ao rfl rfl (by omega)) ?_
        refine oM rfl<|Ac<|n_K ?_
        first | refine ⟨(i+1,u,l),⟨by simp only;omega,(congrArg Prod.fst hf).symm,(congrArg Prod.snd hf).symm,h3,h4⟩,by simp only;omega,lZ⟩ | refine ⟨(i+1,u,s68),⟨by simp only;omega,(congrArg Prod.fst hf).symm,hs1.trans (congrArg Prod.snd hf).symm,h3,hs2⟩,by simp only;omega,lZ⟩ | refine ⟨(i+1,s93,l),⟨by simp only;omega,hs1.trans (congrArg Prod.fst hf).symm,(congrArg Prod.snd hf).symm,hs2,h4⟩,by simp only;omega,lZ⟩
       ·skip
        have hf:Fp c (Dt c) (i+1)=(u.list,l.list):=(by show (if I4 c i=true then _ else _)=_;rw [if_neg hf0,← h1,← h2];refine (if_neg (by intro h;have h':=h.symm.trans c72;cases h')).trans ?_;rw [h1,h2])
        refine Ai<|Az<|Az<|n_K<|Aa fun ops=> ?_
        refine oR (Ao rfl rfl (by omega)) ?_
        refine oM rfl<|Ac<|n_K ?_
        first | refine ⟨(i+1,u,l),⟨by simp only;omega,(congrArg Prod.fst hf).symm,(congrArg Prod.snd hf).symm,h3,h4⟩,by simp only;omega,lZ⟩ | refine ⟨(i+1,u,s68),⟨by simp only;omega,(congrArg Prod.fst hf).symm,hs1.trans (congrArg Prod.snd hf).symm,h3,hs2⟩,by simp only;omega,lZ⟩ | refine ⟨(i+1,s93,l),⟨by simp only;omega,hs1.trans (congrArg Prod.fst hf).symm,(congrArg Prod.snd hf).symm,hs2,h4⟩,by simp only;omega,lZ⟩
     ·simp only [decide_eq_true_eq,decide_eq_false_iff_not] at c54
      have hi:i=c.blocks.length:=(by omega)
      subst hi
      have hu:u.list=(D0 c).uses:=h1
      have hl:l.list=(D0 c).lost:=h2
      refine Bb<|x_K<|x_K<|Bj<|n_K<|Ad<|Ad ?_
      refine Bf [(2,100),(6,104)] rfl fun ops y=> ?_
      refine oM rfl ?_
      refine A6 rfl (Xd (c:=c) (i:=0) rfl) sP rfl aQ ?_
      refine oM rfl ?_
      refine' Es (j:=2) (k:=2) y rfl rfl rfl rfl rfl rfl rfl (fun hg100=> ?_) ?_
      rotate_left
      ·try (simp at hg100;show _)
       refine o_g y rfl rfl ?_
       refine oM rfl ?_
       refine o_g y rfl rfl ?_
       refine A6 rfl (Xd (c:=c) (i:=1) rfl) sP rfl aQ ?_
       exact Ac ⟨rfl,rfl,⟨_,sP⟩⟩
      refine oM rfl ?_
      refine' Es (j:=6) (k:=8) y rfl rfl rfl rfl rfl rfl rfl (fun hg104=> ?_) ?_
      rotate_left
      ·try (simp at hg104;show _)
       refine o_g y rfl rfl ?_
       refine oM rfl ?_
       refine o_g y rfl rfl ?_
       refine oN rfl ?_
       refine o_g y rfl rfl ?_
       refine oF rfl ?_
       refine o_g y rfl rfl ?_
       refine oF rfl ?_
       refine o_g y rfl rfl ?_
       refine oR (Al rfl mM rfl) ?_
       refine o_g y rfl rfl ?_
       refine oR (A7 rfl) ?_
       refine o_g y rfl rfl ?_
       refine oM rfl ?_
       refine o_g y rfl rfl ?_
       refine oR (Ae rfl rfl rfl) ?_
       exact Ac ⟨rfl,rfl,⟨_,sP⟩⟩
      refine Ac<|n_K ?_
      refine Aj rfl (fun c113=> ?_) (fun c113=> ?_)
      ·skip
       have hres:C1 c=(34,ts0,c):=(by unfold C1;rw [if_neg (by rw [hm];simp),if_pos (by unfold Hu;rw [← hu];exact c113)])
       refine Ad<|Aa fun ops=>oA rfl<|oA rfl<|Ac<|n_K<|An<|r_K ?_
       exact Av (Bz Tryz.results131 (Ag rfl) (Ag rfl)) (by right;rw [hres];exact ⟨rfl,rfl,by simp⟩) sP
      ·skip
       have hnb:¬ Hu c=true:=(by unfold Hu;rw [← hu];intro h;have h':=h.symm.trans c113;cases h')
       have hT:Tab.ts ⟨b18,u,l,(E9 c).1,(E9 c).2.1,(E9 c).2.2,0⟩=D0 c:=(by show TS.mk _ _ _ _ _ _=_;rw [hu,hl];rfl)
       refine Ai<|n_K<|Ad<|Ad<|Aa fun ops=>oM rfl<|oM rfl<|oN rfl<|oF rfl ?_
       refine oR (Au rfl mM rfl) ?_
       refine Bd rfl (Ph (c:=c) (a:=c.aC) (t:=⟨b18,u,l,(E9 c).1,(E9 c).2.1,(E9 c).2.2,0⟩) (u:=u) (l:=l) rfl (by omega) (by omega) hfr.2.1 hfr.1) sP rfl fun v119 Y119 h119=> ?_
       rcases h119 with ⟨t2,e1,e2,e3,rfl,rfl,e4,e5⟩ | ⟨e,rfl,e1,rfl,e4,e5⟩
       all_goals
        refine Ay aQ ?_
        refine oA rfl<|Ac<|n_K<|Ad<|Aa fun ops=>oM rfl<|oR (Ae rfl rfl rfl)<|Ac<|n_K ?_
        refine Aj rfl (fun c121=> ?_) (fun c121=> ?_)
        ·skip
         try (exfalso;(simp at c121);done)
         all_goals
          refine Ad<|Aa fun ops=>oM rfl<|oA rfl<|oA rfl<|Ac<|n_K<|An<|r_K ?_
          exact Av (Bz Tryz.results131 (Ag rfl) (Ag rfl)) (by rw [hT,hu,hl] at e4;have hres:C1 c=(e,ts0,(B6 (D0 c) (D0 c).uses (D0 c).lost c).2.2):=(by unfold C1;rw [if_neg (by rw [hm];simp),if_neg hnb,if_pos (by rw [e4];exact e1),e4]);right;rw [hres];exact ⟨rfl,rfl,e1⟩) (by rw [hT,hu,hl];exact sP)
        ·skip
         try (exfalso;(simp at c121;exact e1 c121);done)
         all_goals
          refine Ai<|n_K<|Ad<|Aa fun ops=>oM rfl<|oA rfl<|oA rfl<|Ac<|n_K<|An ?_
          exact Av (Bz Tryz.results131 (Ag rfl) (Ag rfl)) (by rw [hT,hu,hl] at e4 e5;have hres:C1 c=B6 (D0 c) (D0 c).uses (D0 c).lost c:=(by unfold C1;rw [if_neg (by rw [hm];simp),if_neg hnb,if_neg (by rw [e4];simp)]);left;rw [hres];exact ⟨t2,by rw [e1],rfl,e5,e4⟩) (by rw [hT,hu,hl,Ej,e2,e3];simp only [List.cons_append,List.append_assoc,List.nil_append];exact sP)
   ·skip
    try (exfalso;(simp at c25);done)
    all_goals
     have hv:E9 c=(0,0,0):=(by unfold E9;rw [if_neg ho])
     refine Ai<|n_K<|Ad<|Aa fun ops=>oM rfl ?_
     refine A6 rfl (Fc) sP rfl aQ ?_
     refine oR (Ae rfl rfl rfl)<|oR (Ae rfl rfl rfl)<|oA rfl<|Ac<|n_K<|Ad<|Ad<|Aa fun ops=>oM rfl ?_
     refine A6 rfl (Fc) sP rfl aQ ?_
     refine oM rfl<|Ac<|n_K<|Ak ?_
     refine Im (Gu (α:=Int) (T:=tI)) ?_
     refine Im (Gu (α:=Int) (T:=tI)) ?_
     have hfr:=Ur c
     refine A8 [0,5,8,52] kQ (fun (st:Nat×Sl Int×Sl Int)=>[(53,.int .i64 st.1)]) (fun (st:Nat×Sl Int×Sl Int)=>(b18,true,C (Hv c.aC ⟨b18,st.2.1,st.2.2,(E9 c).1,(E9 c).2.1,(E9 c).2.2,0⟩) tTb)::(st.2.1.hp tI++(st.2.2.hp tI++(chH c++[])))) (fun (st:Nat×Sl Int×Sl Int)=>st.1≤c.blocks.length∧st.2.1.list=(Fp c (Dt c) st.1).1∧st.2.2.list=(Fp c (Dt c) st.1).2∧st.2.1.isOwn=true∧st.2.2.isOwn=true) (fun (st:Nat×Sl Int×Sl Int)=>c.blocks.length - st.1) ((0,.nil,.nil)) ⟨Nat.zero_le _,rfl,rfl,rfl,rfl⟩ kP (by rw [hv];exact sP) ?_
     rintro ⟨i,u,l⟩ ⟨h0,h1,h2,h3,h4⟩
     simp only at h0 h1 h2 h3 h4
     have hlen:=Us c (Dt c) i
     rw [← h1,← h2] at hlen
     refine Ad<|Aa fun ops=>oR (Ae rfl rfl rfl)<|Ac<|n_K<|Ad ?_
     refine Aj rfl (fun c54=> ?_) (fun c54=> ?_)
     ·simp only [decide_eq_true_eq,decide_eq_false_iff_not] at c54
      refine Ai<|n_K<|Ad<|Ak<|Ad<|Aa fun ops=>oM rfl<|oA rfl<|Ac<|n_K<|Ak<|Ad<|Aa fun ops=>oM rfl ?_
      refine oM rfl ?_
      refine A6 rfl (Xd (c:=c) rfl) sP rfl aQ ?_
      refine oA rfl<|Ac<|n_K ?_
      refine Aj rfl (fun c56=> ?_) (fun c56=> ?_)
      ·skip
       have hf:Fp c (Dt c) (i+1)=(u.list,l.list++[(i:Int)]):=(by show (if I4 c i=true then _ else _)=_;rw [if_pos c56,h1,h2])
       refine Aa fun ops=>oM rfl<|oM rfl<|oN rfl<|oF rfl<|oF rfl ?_
       refine oR (Al rfl mM rfl) ?_
       refine oM rfl ?_
       refine A5 rfl rfl rfl rfl fun b67=> ?_
       refine Bp (s:=l) (new:=[(i:Int)]) (m:=1) rfl rfl pL h4 (Cv (r:=true) mM rfl) rfl rfl rfl rfl (by omega) rfl fun s68 hs1 hs2=> ?_
       refine oN rfl<|oF rfl<|oF rfl ?_
       refine Af rfl rfl uD rfl rfl rfl ?_
       refine Ac<|Az<|Az<|n_K<|Aa fun ops=> ?_
       refine oR (Ao rfl rfl (by omega)) ?_
       refine oM rfl<|Ac<|n_K ?_
       first | refine ⟨(i+1,u,l),⟨by simp only;omega,(congrArg Prod.fst hf).symm,(congrArg Prod.snd hf).symm,h3,h4⟩,by simp only;omega,lZ⟩ | refine ⟨(i+1,u,s68),⟨by simp only;omega,(congrArg Prod.fst hf).symm,hs1.trans (congrArg Prod.snd hf).symm,h3,hs2⟩,by simp only;omega,lZ⟩ | refine ⟨(i+1,s93,l),⟨by simp only;omega,hs1.trans (congrArg Prod.fst hf).symm,(congrArg Prod.snd hf).symm,hs2,h4⟩,by simp only;omega,lZ⟩
      ·skip
       have hf0:¬ I4 c i=true:=(by rw [c56];exact Bool.false_ne_true)
       refine Ad ?_
       refine Bf [(2,75)] rfl fun ops y=> ?_
       refine oM rfl<|oR (Ae rfl rfl rfl)<|oM rfl ?_
       refine' Df (j:=2) (k:=8) y rfl rfl rfl rfl rfl rfl rfl (fun hg75=> ?_) ?_
       rotate_left
       ·try (simp at hg75;show _)
        refine o_g y rfl rfl ?_
        refine oM rfl ?_
        refine o_g y rfl rfl ?_
        refine oN rfl ?_
        refine o_g y rfl rfl ?_
        refine oF rfl ?_
        refine o_g y rfl rfl ?_
        refine oF rfl ?_
        refine o_g y rfl rfl ?_
        refine oR (Al rfl mM rfl) ?_
        refine o_g y rfl rfl ?_
        refine oR (A7 rfl) ?_
        refine o_g y rfl rfl ?_
        refine oM rfl ?_
        refine o_g y rfl rfl ?_
        refine oR (Ae rfl rfl rfl) ?_
        exact Ac ⟨rfl,rfl,⟨_,sP⟩⟩
       refine oA rfl<|Ac<|n_K ?_
       refine Aj rfl (fun c72=> ?_) (fun c72=> ?_)
       ·skip
        have hf:Fp c (Dt c) (i+1)=(u.list++[(i:Int)],l.list):=(by show (if I4 c i=true then _ else _)=_;rw [if_neg hf0,← h1,← h2];exact if_pos c72)
        refine Aa fun ops=>oM rfl<|oM rfl<|oN rfl<|oF rfl<|oF rfl ?_
        refine oR (Al rfl mM rfl) ?_
        refine oM rfl ?_
        refine A5 rfl rfl rfl rfl fun b92=> ?_
        refine Bp (s:=u) (new:=[(i:Int)]) (m:=1) rfl rfl pL h3 (Cv (r:=true) mM rfl) rfl rfl rfl rfl (by omega) rfl fun s93 hs1 hs2=> ?_
        refine oN rfl<|oF rfl<|oF rfl ?_
        refine Af rfl rfl uD rfl rfl rfl ?_
        refine Ac<|Az<|Az<|n_K<|Aa fun ops=> ?_
        refine oR (Ao rfl rfl (by omega)) ?_
        refine oM rfl<|Ac<|n_K ?_
        first | refine ⟨(i+1,u,l),⟨by simp only;omega,(congrArg Prod.fst hf).symm,(congrArg Prod.snd hf).symm,h3,h4⟩,by simp only;omega,lZ⟩ | refine ⟨(i+1,u,s68),⟨by simp only;omega,(congrArg Prod.fst hf).symm,hs1.trans (congrArg Prod.snd hf).symm,h3,hs2⟩,by simp only;omega,lZ⟩ | refine ⟨(i+1,s93,l),⟨by simp only;omega,hs1.trans (congrArg Prod.fst hf).symm,(congrArg Prod.snd hf).symm,hs2,h4⟩,by simp only;omega,lZ⟩
       ·skip
        have hf:Fp c (Dt c) (i+1)=(u.list,l.list):=(by show (if I4 c i=true then _ else _)=_;rw [if_neg hf0,← h1,← h2];refine (if_neg (by intro h;have h':=h.symm.trans c72;cases h')).trans ?_;rw [h1,h2])
        refine Ai<|Az<|Az<|n_K<|Aa fun ops=> ?_
        refine oR (Ao rfl rfl (by omega)) ?_
        refine oM rfl<|Ac<|n_K ?_
        first | refine ⟨(i+1,u,l),⟨by simp only;omega,(congrArg Prod.fst hf).symm,(congrArg Prod.snd hf).symm,h3,h4⟩,by simp only;omega,lZ⟩ | refine ⟨(i+1,u,s68),⟨by simp only;omega,(congrArg Prod.fst hf).symm,hs1.trans (congrArg Prod.snd hf).symm,h3,hs2⟩,by simp only;omega,lZ⟩ | refine ⟨(i+1,s93,l),⟨by simp only;omega,hs1.trans (congrArg Prod.fst hf).symm,(congrArg Prod.snd hf).symm,hs2,h4⟩,by simp only;omega,lZ⟩
     ·simp only [decide_eq_true_eq,decide_eq_false_iff_not] at c54
      have hi:i=c.blocks.length:=(by omega)
      subst hi
      have hu:u.list=(D0 c).uses:=h1
      have hl:l.list=(D0 c).lost:=h2
      refine Bb<|x_K<|x_K<|Bj<|n_K<|Ad<|Ad ?_
      refine Bf [(2,100),(6,104)] rfl fun ops y=> ?_
      refine oM rfl ?_
      refine A6 rfl (Xd (c:=c) (i:=0) rfl) sP rfl aQ ?_
      refine oM rfl ?_
      refine' Es (j:=2) (k:=2) y rfl rfl rfl rfl rfl rfl rfl (fun hg100=> ?_) ?_
      rotate_left
      ·try (simp at hg100;show _)
       refine o_g y rfl rfl ?_
       refine oM rfl ?_
       refine o_g y rfl rfl ?_
       refine A6 rfl (Xd (c:=c) (i:=1) rfl) sP rfl aQ ?_
       exact Ac ⟨rfl,rfl,⟨_,sP⟩⟩
      refine oM rfl ?_
      refine' Es (j:=6) (k:=8) y rfl rfl rfl rfl rfl rfl rfl (fun hg104=> ?_) ?_
      rotate_left
      ·try (simp at hg104;show _)
       refine o_g y rfl rfl ?_
       refine oM rfl ?_
       refine o_g y rfl rfl ?_
       refine oN rfl ?_
       refine o_g y rfl rfl ?_
       refine oF rfl ?_
       refine o_g y rfl rfl ?_
       refine oF rfl ?_
       refine o_g y rfl rfl ?_
       refine oR (Al rfl mM rfl) ?_
       refine o_g y rfl rfl ?_
       refine oR (A7 rfl) ?_
       refine o_g y rfl rfl ?_
       refine oM rfl ?_
       refine o_g y rfl rfl ?_
       refine oR (Ae rfl rfl rfl) ?_
       exact Ac ⟨rfl,rfl,⟨_,sP⟩⟩
      refine Ac<|n_K ?_
      refine Aj rfl (fun c113=> ?_) (fun c113=> ?_)
      ·skip
       have hres:C1 c=(34,ts0,c):=(by unfold C1;rw [if_neg (by rw [hm];simp),if_pos (by unfold Hu;rw [← hu];exact c113)])
       refine Ad<|Aa fun ops=>oA rfl<|oA rfl<|Ac<|n_K<|An<|r_K ?_
       exact Av (Bz Tryz.results131 (Ag rfl) (Ag rfl)) (by right;rw [hres];exact ⟨rfl,rfl,by simp⟩) sP
      ·skip
       have hnb:¬ Hu c=true:=(by unfold Hu;rw [← hu];intro h;have h':=h.symm.trans c113;cases h')
       have hT:Tab.ts ⟨b18,u,l,(E9 c).1,(E9 c).2.1,(E9 c).2.2,0⟩=D0 c:=(by show TS.mk _ _ _ _ _ _=_;rw [hu,hl];rfl)
       refine Ai<|n_K<|Ad<|Ad<|Aa fun ops=>oM rfl<|oM rfl<|oN rfl<|oF rfl ?_
       refine oR (Au rfl mM rfl) ?_
       refine Bd rfl (Ph (c:=c) (a:=c.aC) (t:=⟨b18,u,l,(E9 c).1,(E9 c).2.1,(E9 c).2.2,0⟩) (u:=u) (l:=l) rfl (by omega) (by omega) hfr.2.1 hfr.1) sP rfl fun v119 Y119 h119=> ?_
       rcases h119 with ⟨t2,e1,e2,e3,rfl,rfl,e4,e5⟩ | ⟨e,rfl,e1,rfl,e4,e5⟩
       all_goals
        refine Ay aQ ?_
        refine oA rfl<|Ac<|n_K<|Ad<|Aa fun ops=>oM rfl<|oR (Ae rfl rfl rfl)<|Ac<|n_K ?_
        refine Aj rfl (fun c121=> ?_) (fun c121=> ?_)
        ·skip
         try (exfalso;(simp at c121);done)
         all_goals
          refine Ad<|Aa fun ops=>oM rfl<|oA rfl<|oA rfl<|Ac<|n_K<|An<|r_K ?_
          exact Av (Bz Tryz.results131 (Ag rfl) (Ag rfl)) (by rw [hT,hu,hl] at e4;have hres:C1 c=(e,ts0,(B6 (D0 c) (D0 c).uses (D0 c).lost c).2.2):=(by unfold C1;rw [if_neg (by rw [hm];simp),if_neg hnb,if_pos (by rw [e4];exact e1),e4]);right;rw [hres];exact ⟨rfl,rfl,e1⟩) (by rw [hT,hu,hl];exact sP)
        ·skip
         try (exfalso;(simp at c121;exact e1 c121);done)
         all_goals
          refine Ai<|n_K<|Ad<|Aa fun ops=>oM rfl<|oA rfl<|oA rfl<|Ac<|n_K<|An ?_
          exact Av (Bz Tryz.results131 (Ag rfl) (Ag rfl)) (by rw [hT,hu,hl] at e4 e5;have hres:C1 c=B6 (D0 c) (D0 c).uses (D0 c).lost c:=(by unfold C1;rw [if_neg (by rw [hm];simp),if_neg hnb,if_neg (by rw [e4];simp)]);left;rw [hres];exact ⟨t2,by rw [e1],rfl,e5,e4⟩) (by rw [hT,hu,hl,Ej,e2,e3];simp only [List.cons_append,List.append_assoc,List.nil_append];exact sP)
end
section
open Go.K
def Afs (t:TS) (c:Chip) (b:Int) (r:Int×TS×Chip):Prop :=
 (D5 t c.blocks.length b=true→∃ l,l.Perm (t.lost++[b])∧r=B6 t t.uses l c)∧(D5 t c.blocks.length b=false→r=(1,t,c))
def As8 (t:TS) (c:Chip) (i b:Int) (r:Int×TS×Chip):Prop :=
 (((atT t i).2 && D5 t c.blocks.length b)=true→∃ l,l.Perm (t.lost++[at0 t.uses i])∧r=B6 t (t.uses.set i.toNat b) l c)∧(((atT t i).2 && D5 t c.blocks.length b)=false→r=(1,t,c))
def Aqu (a:Nat) (t:Tab) (D:Int×TS×Chip→Prop) (v:Value) (H:Hp):Prop :=
 ∃ (t':Tab) (e:Int) (c':Chip),t'.b=t.b∧v= .int .i64 e∧H=Dk a t'++(chH c'++[])∧c'.aC=a∧D (e,t'.ts,c')
theorem Aa2 {a:Nat} {t:Tab} {c:Chip} {D:Int×TS×Chip→Prop} (ha:c.aC=a) (h:D (1,t.ts,c)):Aqu a t D (.int .i64 1) (Dk a t++(chH c++[])):=⟨t,1,c,rfl,rfl,rfl,ha,h⟩
theorem Aa3 {a:Nat} {t:Tab} {c:Chip} {u l:List Int} {D:Int×TS×Chip→Prop} {v:Value} {H:Hp} (ha:c.aC=a) (h:Agr a t c u l v H) (hD:∀ l',l'.Perm l→D (B6 t.ts u l' c)):Aqu a t D v H:=by
 obtain ⟨t',l',h1,h2,rfl,rfl,h3⟩:=h
 refine ⟨t',_,_,h1,rfl,rfl,(Aa1 _ _ _ _).trans ha,?_⟩
 rw [h3]
 exact hD l' h2
section
variable {c:Chip} {a:Nat} {t:Tab}
theorem Aa4 (ha:c.aC=a) {b:Int} (hu:t.u.list.length≤1000) (hl:t.l.list.length≤11) (hn:0≤t.next) (har:0≤t.area∧t.area≤1):Does Tryz.prog 232 [ptr t.b,.int .i64 b] (Dk a t++(chH c++[])) (Aqu a t (Afs t.ts c b)) :=
 (Aol ha hu hl hn har).mono fun v H h=>by
  split at h
  ·rename_i hs
   exact Aa3 ha h (fun l' hp=>⟨fun _=>⟨l',hp,rfl⟩,fun h2=>by rw [hs] at h2;cases h2⟩)
  ·rename_i hs
   obtain ⟨rfl,rfl⟩:=h
   exact Aa2 ha ⟨fun h2=>absurd h2 hs,fun _=>rfl⟩
theorem Aa5 (ha:c.aC=a) {i b:Int} (hu:t.u.list.length≤1000) (hl:t.l.list.length≤11) (hn:0≤t.next) (har:0≤t.area∧t.area≤1):Does Tryz.prog 231 [ptr t.b,.int .i64 i,.int .i64 b] (Dk a t++(chH c++[])) (Aqu a t (As8 t.ts c i b)) :=
 (Asj ha hu hl hn har).mono fun v H h=>by
  split at h
  ·rename_i hs
   exact Aa3 ha h (fun l' hp=>⟨fun _=>⟨l',hp,rfl⟩,fun h2=>by rw [hs] at h2;cases h2⟩)
  ·rename_i hs
   obtain ⟨rfl,rfl⟩:=h
   exact Aa2 ha ⟨fun h2=>absurd h2 hs,fun _=>rfl⟩
end
end
section
open Go.K
instance:Cel Bool:=⟨1,fun b=>[.bool b],fun _=>rfl,fun _=>rfl⟩
structure RTab where
 b:Nat
 u:Sl Int
 l:Sl Bool
def atB (l:List Bool) (i:Int):Bool:=l.getD i.toNat false
section
variable {r:RTab}
end
end
section
open Go.K
def Gy (n:Nat) (l:List Int):List Bool:=(List.range n).map fun i=>E3 l (i:Nat)
theorem Pn (n:Nat) (l:List Int):(Gy n l).length=n:=by simp [Gy]
def Ns (l:List Bool) (size:Int):Nat→List Int
 | 0=>[]
 | i+1=>if atB l (i:Nat)=true then Ns l size i else if (decide (2≤(i:Int)) && decide (((Ns l size i).length:Int)<size))=true then Ns l size i++[(i:Int)] else Ns l size i
def Vc (l:List Bool):Bool:=(atB l 0 || atB l 1) || decide (((Ns l ((l.length:Int) - 6) l.length).length:Int)<(l.length:Int) - 6)
section
variable {r:RTab}
end
end
section
open Go.K
theorem Aqr {pp:Nat} {n:Int} {s:Sl Int} {T:TypeId}:Does Tryz.prog 47 [ptr pp,.int .i64 n,s.val] ((pp,true,C [.bool false,.int .i64 (-1),.int .i64 0] tPw)::(s.hp T++[]))
  (fun v H=>(∃ aC aB,v= .tuple #[ptr aC,.int .i64 0]∧H=chH (Du (-1) 0 pp aC aB n.toNat s.list)++(s.hp T++[])∧Ov n s.list=true)∨(v= .tuple #[.pointer none,.int .i64 1]∧H=(s.hp T++[])∧Ov n s.list=false)) :=
 (Aui (off:=false) (after:= -1) (keep:=0)).mono fun v H h=>by
  unfold Amg at h
  split at h
  ·rename_i h0;obtain ⟨aC,aB,h1,h2⟩:=h;exact .inl ⟨aC,aB,h1,h2,h0⟩
  ·rename_i h0;exact .inr ⟨h.1,h.2,by simpa using h0⟩
end
section
open Go.K
section
variable {r:RTab} {t:Tab} {c:Chip} {a:Nat}
structure RelT (t:TS) (u:List Int) (l:List Bool) (n:Nat):Prop where
 uu:u=t.uses
 ll:l.length=n
 lo:∀ b:Int,0≤b→b<n→atB l b=E3 t.lost b
 ln:t.lost.Nodup
 lr:∀ x∈t.lost,0≤x∧x<n
theorem Uz:∀ (l:List Bool) (k:Nat) (s:List Int),s.Nodup→(∀ x∈s,(k:Int)≤x∧x<k+l.length)→(∀ i (h:i<l.length),l[i]=E3 s ((k+i:Nat):Int))→l.countP id=s.length
 | [],k,s,hn,hr,_=>by
  cases s with
  | nil=>rfl
  | cons x s=>have:=hr x (.head _);simp at this;omega
 | b::l,k,s,hn,hr,hb=>by
  have h0:=hb 0 (by simp)
  simp only [List.getElem_cons_zero,Nat.add_zero] at h0
  have ih:=Uz l (k+1) (s.erase (k:Int)) (hn.erase _) (fun x hx=>by
   have h1:=(hn.mem_erase_iff).1 hx
   have h2:=hr x h1.2
   have h3:=h1.1
   simp only [List.length_cons] at h2
   push_cast
   omega) (fun i hi=>by
   have h1:=hb (i+1) (by simp;omega)
   simp only [List.getElem_cons_succ] at h1
   rw [h1,show ((k+1+i:Nat):Int)=((k+(i+1):Nat):Int) by omega]
   cases hh:E3 s ((k+(i+1):Nat):Int) with
   | true =>
    symm
    apply has_mem.2
    exact (hn.mem_erase_iff).2 ⟨by omega,has_mem.1 hh⟩
   | false =>
    symm
    cases h2:E3 (s.erase (k:Int)) ((k+(i+1):Nat):Int) with
    | false=>rfl
    | true =>
     have:=has_mem.2 ((hn.mem_erase_iff).1 (has_mem.1 h2)).2
     rw [hh] at this
     cases this)
  rw [List.countP_cons,ih]
  cases b with
  | true =>
   have hm:=has_mem.1 h0.symm
   have:=List.length_erase_of_mem hm
   have:=List.length_pos_of_mem hm
   simp
   omega
  | false =>
   have hm:(k:Int)∉s:=fun h=>by rw [has_mem.2 h] at h0;cases h0
   rw [List.erase_of_not_mem hm]
   simp
theorem RelT.count {t:TS} {u:List Int} {l:List Bool} {n:Nat} (h:RelT t u l n):l.countP id=t.lost.length :=
 Uz l 0 t.lost h.ln (fun x hx=>by have:=h.lr x hx;rw [h.ll];omega) (fun i hi=>by
  have:=h.lo (i:Nat) (by omega) (by rw [h.ll] at hi;omega)
  rw [Nat.zero_add,← this]
  simp [atB,List.getD_eq_getElem?_getD,hi])
section
variable {u u1 u2:List Int} {l l1 l2:List Bool} {o:OpV} {b:Int}
end
end
end
section
open Go.K
structure WF (n:Nat) (u l:List Int):Prop where
 n1:16≤n
 n2:n≤40
 un:u.Nodup
 len:u.length+6=n
 us:∀ x∈u,2≤x∧x<n∧x∉l
 ln:l.Nodup
 ls:∀ x∈l,2≤x∧x<n
theorem WF.lost4 {n:Nat} {u l:List Int} (h:WF n u l):l.length≤4:=by
 have h1:=h.n1
 have:=Fs (l:=u++l) (m:=(List.range (n - 2)).map fun i=>((i:Nat):Int)+2) (by
  rw [List.nodup_append]
  exact ⟨h.un,h.ln,fun a ha b hb e=>by subst e;exact (h.us a ha).2.2 hb⟩) (fun x hx=>by
   have hr:2≤x∧x<n:=by
    rcases List.mem_append.1 hx with h1 | h1
    ·have:=h.us x h1;exact ⟨this.1,this.2.1⟩
    ·exact h.ls x h1
   exact List.mem_map.2 ⟨(x - 2).toNat,List.mem_range.2 (by omega),by omega⟩)
 have h2:=h.len
 simp at this
 omega
theorem WF.okP {n:Nat} {u l:List Int} (h:WF n u l):OkP n u l :=
 ⟨h.n1,h.n2,h.len,by have:=h.lost4;omega,fun x hx=>by have:=h.us x hx;have:=h.n2;omega,fun x hx=>by have:=h.ls x hx;have:=h.n2;omega⟩
theorem Zn {t:TS} {n:Nat} {b:Int} (h:D5 t n b=true):2≤b∧b<n∧b∉t.uses∧b∉t.lost:=by
 unfold D5 at h
 simp only [Bool.and_eq_true,Bool.not_eq_true',decide_eq_true_eq] at h
 obtain ⟨⟨⟨h1,h2⟩,h3⟩,h4⟩:=h
 exact ⟨h1,h2,fun e=>(by rw [has_mem.2 e] at h3;cases h3),fun e=>(by rw [has_mem.2 e] at h4;cases h4)⟩
theorem WF.lose {n:Nat} {t:TS} {b:Int} {l:List Int} (h:WF n t.uses t.lost) (hb:D5 t n b=true) (hp:l.Perm (t.lost++[b])):WF n t.uses l:=by
 obtain ⟨b1,b2,b3,b4⟩:=Zn hb
 have hm:∀ x,x∈l↔x∈t.lost∨x=b:=fun x=>by rw [hp.mem_iff];simp
 refine ⟨h.n1,h.n2,h.un,h.len,fun x hx=> ?_,hp.nodup_iff.2 (Km h.ln b4),fun x hx=> ?_⟩
 ·obtain ⟨h1,h2,h4⟩:=h.us x hx
  exact ⟨h1,h2,fun e=>by rcases (hm x).1 e with e | e;exact h4 e;subst e;exact b3 hx⟩
 ·rcases (hm x).1 hx with e | e
  ·exact h.ls x e
  ·subst e;exact ⟨b1,b2⟩
theorem Ks {l:List Int} {i:Int} (hi:0≤i∧i<l.length):at0 l i∈l:=List.mem_of_getElem? (Hz hi.1 hi.2)
theorem WF.swap {n:Nat} {t:TS} {b i:Int} {l:List Int} (h:WF n t.uses t.lost) (hi:0≤i∧i<t.uses.length) (hb:D5 t n b=true) (hp:l.Perm (t.lost++[at0 t.uses i])):WF n (t.uses.set i.toNat b) l:=by
 obtain ⟨b1,b2,b3,b4⟩:=Zn hb
 have hlt:i.toNat<t.uses.length:=by omega
 have hat:at0 t.uses i=t.uses[i.toNat]:=by simp [at0,List.getD_eq_getElem?_getD,hlt]
 rw [hat] at hp
 have hu:=h.us _ (List.getElem_mem hlt)
 have hm:∀ x,x∈l↔x∈t.lost∨x=t.uses[i.toNat]:=fun x=>by rw [hp.mem_iff];simp
 refine ⟨h.n1,h.n2,Aia h.un b3,by rw [List.length_set];exact h.len,fun x hx=> ?_,hp.nodup_iff.2 (Km h.ln hu.2.2),fun x hx=> ?_⟩
 ·rcases Aqt h.un hlt hx with e | ⟨e,hne⟩
  ·subst e
   exact ⟨b1,b2,fun e=>by rcases (hm _).1 e with e | e;exact b4 e;exact b3 (by rw [e];exact List.getElem_mem hlt)⟩
  ·obtain ⟨h1,h2,h4⟩:=h.us x e
   exact ⟨h1,h2,fun e=>by rcases (hm x).1 e with e | e;exact h4 e;exact hne e⟩
 ·rcases (hm x).1 hx with e | e
  ·exact h.ls x e
  ·subst e;exact ⟨hu.1,hu.2.1⟩
structure JI (c:Chip) (t:TS) (u:List Int) (l:List Bool) (n k:Nat):Prop where
 up:Up c
 ti:TI c t
 rel:RelT t u l n
 wf:WF n t.uses t.lost
 len:c.blocks.length=n
 ver:t.version.toNat≤k+1
 cnt:Cnt c (1000*k+1000)
 pf:c.pf.list=[]
 wfl:c.wf.list=[]
 af:c.after<0
section
variable {aP aC aB n:Nat} {bad:List Int}
theorem Mk {i:Int} (h:0≤i∧i<n):atB (Gy n bad) i=E3 bad i:=by
 have:i.toNat<(Gy n bad).length:=by rw [Pn];omega
 simp only [atB,List.getD_eq_getElem?_getD,List.getElem?_eq_getElem this,Option.getD_some]
 simp only [Gy,List.getElem_map,List.getElem_range]
 congr 1;omega
theorem Zo (hn:2≤n) (size:Int):∀ i,i≤n→Ns (Gy n bad) size i=(Fp (Du (-1) 0 aP aC aB n bad) size i).1
 | 0,_=>rfl
 | i+1,h=>by
  have ih:=Zo hn size i (by omega)
  have hb:I4 (Du (-1) 0 aP aC aB n bad) (i:Nat)=atB (Gy n bad) (i:Nat):=by rw [Oq (by omega),Mk (by omega)]
  unfold Ns Fp
  simp only []
  rw [hb,ih]
  split
  ·rfl
  ·split <;> rfl
theorem U0 (hn:16≤n∧n≤40):Dt (Du (-1) 0 aP aC aB n bad)=(n:Int) - 6:=by
 unfold Dt
 rw [Hf,Ht (x:=(n:Int) - 2) (by omega),Ht (by omega)]
 omega
theorem Acq (hn:16≤n∧n≤40):(D0 (Du (-1) 0 aP aC aB n bad)).uses=Ns (Gy n bad) ((n:Int) - 6) n:=by
 rw [Ah8,U0 hn,Hf,Zo (aP:=aP) (aC:=aC) (aB:=aB) (by omega) _ n (Nat.le_refl _)]
theorem U1 (hn:16≤n∧n≤40):Hu (Du (-1) 0 aP aC aB n bad)=Vc (Gy n bad):=by
 unfold Hu Vc
 rw [Oq (by omega),Oq (by omega),U0 hn,Acq hn,Pn,Mk (by omega),Mk (by omega)]
theorem Avf (hn:16≤n∧n≤40) (hx:Vc (Gy n bad)=false):∃ t c',C1 (Du (-1) 0 aP aC aB n bad)=(0,t,c')∧JI c' t (Ns (Gy n bad) ((n:Int) - 6) n) (Gy n bad) n 0∧c'.aC=aC∧c'.aP=aP:=by
 have hnb:Hu (Du (-1) 0 aP aC aB n bad)=false:=(U1 hn).trans hx
 have hI:=Av2 (Du (-1) 0 aP aC aB n bad) (size:=(n:Int) - 6) (by omega) n
 have hu:=Acq (aP:=aP) (aC:=aC) (aB:=aB) (bad:=bad) hn
 have hl:(D0 (Du (-1) 0 aP aC aB n bad)).lost=(Fp (Du (-1) 0 aP aC aB n bad) ((n:Int) - 6) n).2:=by rw [Ah9,U0 hn,Hf]
 rw [← Zo (by omega) _ n (Nat.le_refl _),← hl] at hI
 obtain ⟨c',h1,h2⟩:=Nh (after:= -1) (keep:=0) (aP:=aP) (aC:=aC) (aB:=aB) (n:=n) (bad:=bad) (by omega) (by omega) hnb
 rw [hu] at h1 h2
 generalize (D0 (Du (-1) 0 aP aC aB n bad)).lost=lost at *
 generalize hus:Ns (Gy n bad) ((n:Int) - 6) n=us at *
 have hbd:∀ x:Int,0≤x→x<n→I4 (Du (-1) 0 aP aC aB n bad) x=E3 bad x:=fun x h2 h3=>Oq (by omega)
 have hx2:E3 bad 0=false∧E3 bad 1=false∧¬ ((us.length:Int)<(n:Int) - 6):=by
  unfold Vc at hx
  rw [Pn,hus,Mk (by omega),Mk (by omega)] at hx
  simp only [Bool.or_eq_false_iff,decide_eq_false_iff_not] at hx
  exact ⟨hx.1.1,hx.1.2,hx.2⟩
 obtain ⟨hb0,hb1,hlen⟩:=hx2
 have hlo:∀ x∈lost,2≤x∧x<n:=fun x hx=>by
  have:=hI.ls x hx
  rw [hbd x this.1 this.2.1] at this
  refine ⟨?_,this.2.1⟩
  rcases (show x<2∨2≤x by omega) with h | h
  ·rcases (show x=0∨x=1 by omega) with rfl | rfl
   ·rw [hb0] at this;exact absurd this.2.2 (by simp)
   ·rw [hb1] at this;exact absurd this.2.2 (by simp)
  ·exact h
 have hw:WF n us lost:=⟨hn.1,hn.2,hI.un,by have:=hI.len;omega,fun x hx=>by
  have:=hI.us x hx
  exact ⟨this.1,this.2.1,fun h=>by have h5:=(hI.ls x h).2.2;rw [this.2.2] at h5;cases h5⟩,hI.ln,hlo⟩
 have hrel:RelT ⟨us,lost,1,0,1,0⟩ us (Gy n bad) n:=⟨rfl,Pn _ _,fun b h3 h4=>by
  rw [Mk ⟨h3,h4⟩]
  show E3 bad b=E3 lost b
  have hb:=hbd b h3 h4
  cases hh:E3 bad b with
  | true=>rw [hh] at hb;exact (has_mem.2 (hI.lb b h3 h4 hb)).symm
  | false =>
   rw [hh] at hb
   cases h5:E3 lost b with
   | false=>rfl
   | true=>(have:=(hI.ls b (has_mem.1 h5)).2.2;rw [hb] at this;cases this),hI.ln,fun x hx=>by have:=hlo x hx;omega⟩
 have hblk:∀ k<2,(Du (-1) 0 aP aC aB n bad).blocks[k]? =some (Gz false):=fun k hk=>by
  rw [Ic (by omega)]
  rcases (show k=0∨k=1 by omega) with rfl | rfl
  ·rw [show (((0:Nat):Int))=0 from rfl,hb0]
  ·rw [show (((1:Nat):Int))=1 from rfl,hb1]
 have hlen':c'.blocks.length=n:=by rw [h2,Afr,Hf]
 have hc0:c'.blocks[0]? =some ⟨(Gz false).pages.setIfInBounds 0 (Ea 1 n us lost),1,false⟩:=by
  rw [h2]
  exact Tv (by rw [Hf];omega)
 have hc1:c'.blocks[1]? =some (Gz false):=by
  rw [h2,Qd (by omega)]
  exact hblk 1 (by omega)
 have hnp:∀ (j:Nat) (h:j<8),(Gz false).pages[j]=A0:=fun j h=>by simp [Gz]
 have hp0:∀ (j:Nat) (h:j<8),((Gz false).pages.setIfInBounds 0 (Ea 1 n us lost))[j]=if 0=j then Ea 1 n us lost else A0:=fun j h=>by
  rw [Vector.getElem_setIfInBounds]
  split
  ·rfl
  ·exact hnp j h
 have hrp:RP n (Ea 1 n us lost)=some (1,us,lost):=Af1 hw.okP
 have hg:c'.off=false∧c'.dead=false∧c'.out=false∧c'.after<0∧c'.pf.list=[]∧c'.wf.list=[]∧c'.pc=1∧c'.wc=0∧c'.aC=aC∧c'.aP=aP:=by
  rw [h2]
  refine ⟨rfl,rfl,rfl,by show (-1:Int)<0;omega,rfl,rfl,?_,rfl,rfl,rfl⟩
  show w64 (0+1)=1
  exact Ht (by omega)
 obtain ⟨g1,g2,g3,g4,g5,g6,g7,g8,g9,g10⟩:=hg
 refine ⟨_,c',h1,⟨⟨g1,g2,g3⟩,⟨0,rfl,⟨?_,by omega,fun k hk=> ?_,fun k hk b hb j hj w u l hr=> ?_,?_⟩,_,hc0,(show (0:Int)≤1 by decide),(show (1:Int)≤1 by decide)⟩,hrel,hw,hlen',(show (1#64).toNat≤0+1 by decide),⟨by rw [g7];omega,by rw [g8];omega⟩,g5,g6,g4⟩,g9,g10⟩
 ·rw [hlen'];exact hw.okP
 ·rcases (show k=0∨k=1 by omega) with rfl | rfl
  ·exact ⟨_,hc0,⟨⟨by simp,by simp⟩,fun j hj hle=>by simp only at hle ⊢;rw [hp0 j hj,if_neg (by omega)]⟩,rfl⟩
  ·exact ⟨_,hc1,⟨⟨by simp [Gz],by simp [Gz]⟩,fun j hj _=>hnp j hj⟩,rfl⟩
 ·rw [hlen'] at hr
  rcases (show k=0∨k=1 by omega) with rfl | rfl
  ·rw [hc0] at hb
   cases hb
   simp only at hr
   rw [hp0 j hj] at hr
   split at hr
   ·rw [hrp] at hr
    simp only [Option.some.injEq,Prod.mk.injEq] at hr
    obtain ⟨rfl,rfl,rfl⟩:=hr
    exact ⟨Nat.le_refl _,fun _=>⟨rfl,rfl⟩⟩
   ·rw [Ly] at hr;cases hr
  ·rw [hc1] at hb
   cases hb
   rw [hnp j hj,Ly] at hr;cases hr
 ·refine ⟨_,hc0,0,by omega,?_⟩
  rw [hlen']
  simp only
  rw [hp0 0 (by omega),if_pos rfl]
  exact hrp
end
end
section
open Go.K
theorem Apa {c:Chip} {a:Nat} (ha:c.aC=a) (hb:2≤c.blocks.length∧c.blocks.length≤1000):Does Tryz.prog 131 [ptr a] (chH c) (Zg a c):=by subst ha;exact Ajk hb
theorem Avg {c:Chip} {a:Nat} (ha:c.aC=a) (hb:2≤c.blocks.length∧c.blocks.length≤1000) {t:TS} (ho:Dj c=(0,t)):Does Tryz.prog 129 [ptr a] (chH c) (fun v H=>∃ tb:Tab,v= .tuple #[ptr tb.b,.int .i64 0]∧H=Dk a tb++(chH c++[])∧tb.ts=t):=by
 subst ha
 refine (Zf hb).mono fun v H h=> ?_
 unfold Uu at h
 rw [ho,if_pos rfl] at h
 exact h
end
section
open Go.K
def PgP (c:Chip) (S:Pg→Prop):Prop:=∀ a<2,∀ b,c.blocks[a]? =some b→∀ (j:Nat) (h:j<8),S b.pages[j]
def PlB (n:Nat) (p:Pg):Prop:=p=A0∨∃ w u l,OkP n u l∧p=Ea w n u l
end
section
open Go.K
instance ent38:Ent Tryz.prog 38:=⟨fun _ _=>by kernel_rfl⟩
theorem Asy {c:Chip}:Does Tryz.prog 38 [ptr c.aP] (chH c) (Is (.tuple #[]) (chH { c with off:=false,after:= -1 })):=by
 rw [Ef,Ef]
 refine Ah (n:=8) Tryz.func38 Tryz.ntmps38 rfl (Nat.le_of_ble_eq_true rfl)<|Aa fun ops=>oM rfl<|oM rfl<|oN rfl<|oF rfl ?_
 refine Af rfl rfl uD rfl rfl rfl ?_
 refine oN rfl<|oF rfl ?_
 refine Af rfl rfl uD rfl rfl rfl ?_
 refine Ac ?_
 refine Lp (Ml Tryz.results38) ?_ sP
 rfl
section
variable {P:Program} {E:Env} {H:Hp} {t u:TypeId} {x y:Operand} {i m:Nat}
theorem Zp (hx:ev E x=some (.int .i64 (i:Nat))) (hy:ev E y=some (.int .i64 (m:Nat))) (hm:m≠0) (hi:i<9223372036854775808):Rd P E H (.binOp .quo t x y u) (.int .i64 ((i / m:Nat):Int)):=fun a w d ty pos af g h1 h2=>by
 have e1:=Ba h1 hx
 have e2:=Ba h1 hy
 have e3:¬ (m:Int)=0:=by omega
 have e4:IntKind.i64.wrap ((i:Int).tdiv (m:Int))=((i / m:Nat):Int):=by
  rw [Int.tdiv_eq_ediv_of_nonneg (by omega),← Int.natCast_ediv]
  exact Cx (by have:=Nat.div_le_self i m;have h0:=Int.natCast_nonneg (i / m);omega)
 simp only [execOp,e1,e2,eqGuard,binOp,Op.intDiv,if_neg e3,e4]
 simp
theorem Zq (hx:ev E x=some (.int .i64 (i:Nat))) (hy:ev E y=some (.int .i64 (m:Nat))) (hm:m≠0):Rd P E H (.binOp .rem t x y u) (.int .i64 ((i % m:Nat):Int)):=fun a w d ty pos af g h1 h2=>by
 have e1:=Ba h1 hx
 have e2:=Ba h1 hy
 have e3:¬ (m:Int)=0:=by omega
 have e4:(i:Int).tmod (m:Int)=((i % m:Nat):Int):=by
  rw [Int.tmod_eq_emod_of_nonneg (by omega),← Int.natCast_emod]
 simp only [execOp,e1,e2,eqGuard,binOp,Op.intDiv,if_neg e3,e4]
 simp
end
end
section
open Go.K
theorem Asz {pp:Nat} {n:Nat} (hn:Ov n []=true):Does Tryz.prog 47 [ptr pp,.int .i64 (n:Nat),.slice none 0 0] [(pp,true,C [.bool false,.int .i64 (-1),.int .i64 0] tPw)]
  (fun v H=>∃ aC aB,v= .tuple #[ptr aC,.int .i64 0]∧H=chH (Du (-1) 0 pp aC aB n [])++[]):=by
 have h:=Aqr (pp:=pp) (n:=(n:Int)) (s:= .nil) (T:=tI)
 rw [Sl.hp_nil] at h
 refine h.mono fun v H hh=> ?_
 rcases hh with ⟨aC,aB,h1,h2,_⟩ | ⟨_,_,h3⟩
 ·exact ⟨aC,aB,h1,h2⟩
 ·rw [show (Sl.nil:Sl Int).list=[] from rfl,hn] at h3;cases h3
theorem Awl {pp aC aB n:Nat} {bad:List Int} {t:TS} {c':Chip} {k:Nat} {u:List Int} {l:List Bool} (hn:16≤n∧n≤40) (hx:Vc (Gy n bad)=false) (hf:C1 (Du (-1) 0 pp aC aB n bad)=(0,t,c')) (hJ:JI c' t u l n k):PgP c' (PlB n):=by
 obtain ⟨c2,h1,h2⟩:=Nh (after:= -1) (keep:=0) (aP:=pp) (aC:=aC) (aB:=aB) (n:=n) (bad:=bad) (by omega) (by omega) ((U1 hn).trans hx)
 rw [h1] at hf
 simp only [Prod.mk.injEq] at hf
 obtain ⟨_,rfl,rfl⟩:=hf
 have hok:=hJ.wf.okP
 generalize (D0 (Du (-1) 0 pp aC aB n bad)).uses=us at *
 generalize (D0 (Du (-1) 0 pp aC aB n bad)).lost=lost at *
 intro a ha b hb j hj
 rw [h2] at hb
 rcases (show a=0∨a=1 by omega) with rfl | rfl
 ·rw [Tv (by rw [Hf];omega)] at hb
  cases hb
  simp only
  rw [Vector.getElem_setIfInBounds]
  split
  ·exact .inr ⟨1,us,lost,hok,rfl⟩
  ·refine .inl ?_
   simp [Gz]
 ·rw [Qd (by omega),Ic (by omega)] at hb
  cases hb
  refine .inl ?_
  simp [Gz]
end
section
open Go.K
def onC (c:Chip):Chip:={ c with off:=false,after:= -1 }
def Vb (c:Chip) (a k:Int):Chip:={ c with after:=max a (-1),keep:=k }
theorem Hold.same {c c':Chip} {v:Nat} {u l:List Int} {a:Nat} (h:Hold c v u l a) (hb:c'.blocks=c.blocks):Hold c' v u l a :=
 ⟨by rw [hb];exact h.ok,h.a2,by rw [hb];exact h.bs,by rw [hb];exact h.le,by rw [hb];exact h.ex⟩
theorem TI.same {c c':Chip} {t:TS} (h:TI c t) (hb:c'.blocks=c.blocks):TI c' t:=by
 obtain ⟨a,h1,h2,h3⟩:=h
 exact ⟨a,h1,h2.same hb,by rw [hb];exact h3⟩
theorem Ao9 {c:Chip}:Does Tryz.prog 38 [ptr c.aP] (chH c) (Is (.tuple #[]) (chH (onC c))):=Asy
theorem Ajr {c:Chip} {a k:Int}:Does Tryz.prog 36 [ptr c.aP,.int .i64 a,.int .i64 k] (chH c) (Is (.tuple #[]) (chH (Vb c a k))):=Aug
end
section
open Go.K
instance agg73:Agg Tryz.prog 73 false:=⟨⟨_,Tryz.underlying73,rfl⟩⟩
instance fld75_0:Fld Tryz.prog 75 0 0:=⟨⟨_,_,0,Tryz.underlying75,rfl,by kernel_rfl,rfl⟩⟩
instance fld75_1:Fld Tryz.prog 75 1 1:=⟨⟨_,_,0,Tryz.underlying75,rfl,by kernel_rfl,rfl⟩⟩
instance ent66:Ent Tryz.prog 66:=⟨fun _ _=>by kernel_rfl⟩
instance ent100:Ent Tryz.prog 100:=⟨fun _ _=>by kernel_rfl⟩
instance ent141:Ent Tryz.prog 141:=⟨fun _ _=>by kernel_rfl⟩
instance ent242:Ent Tryz.prog 242:=⟨fun _ _=>by kernel_rfl⟩
abbrev tDk:TypeId:=75
def atD (t:TS) (b:Int):Int:=if (atT t b).2=true then (atT t b).1 else -1
def Dv (p:Pg):Pg:=if (Cg p).2.2.2≠0∨(Cg p).2.2.1=0 then p else (C3 (Cg p).1 (Cg p).2.1).1
section
variable {c:Chip} {t:Tab} {a dk:Nat}
theorem Acr {b:Int}:Does Tryz.prog 141 [ptr dk,.int .i64 b] ((dk,true,C [ptr a,ptr t.b] tDk)::(Dk a t++[])) (Is (.int .i64 (atD t.ts b)) ((dk,true,C [ptr a,ptr t.b] tDk)::(Dk a t++[]))):=by
 refine Ah (n:=19) Tryz.func141 Tryz.ntmps141 rfl (Nat.le_of_ble_eq_true rfl)<|Ad<|Aa fun ops=>oA rfl<|Ac<|n_K<|Ad<|Aa fun ops=>oM rfl<|oN rfl<|oF rfl ?_
 refine oR (Al rfl mM rfl) ?_
 refine oM rfl ?_
 refine A6 rfl (Atd (a:=a) (t:=t)) sP rfl aQ ?_
 refine oM rfl<|oE rfl rfl<|oE rfl rfl<|oA rfl<|oA rfl<|Ac<|n_K<|Ad<|Ad<|Aa fun ops=>oM rfl<|oR (Bx rfl)<|Ac<|n_K ?_
 refine Aj rfl (fun c17=> ?_) (fun c17=> ?_)
 ·skip
  have hres:atD t.ts b= -1:=(by unfold atD;rw [if_neg (by simpa using c17)])
  refine Ad<|Aa fun ops=>oA rfl<|Ac<|n_K<|An<|r_K ?_
  refine Aq (At Tryz.results141 (Ag rfl)) ?_ sP
  rw [hres]
 ·skip
  have hres:atD t.ts b=(atT t.ts b).1:=(by unfold atD;rw [if_pos (by simpa using c17)])
  refine Ai<|n_K<|Ad<|Aa fun ops=>oM rfl<|oA rfl<|Ac<|n_K<|An ?_
  refine Aq (At Tryz.results141 (Ag rfl)) ?_ sP
  rw [hres]
theorem Apf:Does Tryz.prog 66 [ptr dk] ((dk,true,C [ptr a,ptr t.b] tDk)::(Dk a t++[])) (Is (.int .i64 t.u.list.length) ((dk,true,C [ptr a,ptr t.b] tDk)::(Dk a t++[]))):=by
 refine Ah (n:=8) Tryz.func66 Tryz.ntmps66 rfl (Nat.le_of_ble_eq_true rfl)<|Ad<|Aa fun ops=>oA rfl<|Ac<|n_K<|Ad<|Aa fun ops=>oM rfl<|oN rfl<|oF rfl ?_
 refine oR (Al rfl mM rfl) ?_
 refine A6 rfl (Ash (a:=a) (t:=t)) sP rfl aQ ?_
 refine oA rfl<|Ac<|n_K<|An ?_
 refine Aq (At Tryz.results66 (Ag rfl)) ?_ sP
 rfl
theorem Zt (ha:c.aC=a) {b k:Int}:Does Tryz.prog 100 [ptr dk,.int .i64 b,.int .i64 k] ((dk,true,C [ptr a,ptr t.b] tDk)::(Dk a t++(chH c++[])))
  (Is (.tuple #[.agg (vbc (B0 c (atD t.ts b) k)).toArray,.int .i64 (Aww c (atD t.ts b) k)]) ((dk,true,C [ptr a,ptr t.b] tDk)::(Dk a t++(chH c++[])))):=by
 refine Ah (n:=19) Tryz.func100 Tryz.ntmps100 rfl (Nat.le_of_ble_eq_true rfl)<|Ad<|Aa fun ops=> ?_
 refine Aw rfl fun b6=> ?_
 rw [Cs]
 refine oA rfl<|Ac<|n_K<|Ad ?_
 refine s_draw [] [(8,[(0,false),(1,false),(2,false),(3,false),(4,false),(5,false),(7,false),(6,true)]),(11,[(8,true),(9,false),(10,false)]),(12,[(11,true)]),(13,[(12,false)])] (by kernel_rfl) rfl fun ops w0 H0 y=> ?_
 refine A4<|xM rfl<|xN rfl<|xF rfl ?_
 refine xR (Al rfl mM rfl) ?_
 refine xM rfl<|xM rfl<|xM rfl<|Be ?_
 refine A6 rfl (Acr (a:=a) (t:=t) (dk:=dk)) sP rfl aQ ?_
 refine Ac ⟨rfl,⟨_,sP⟩,?_⟩
 refine Am<|A4<|Be ?_
 refine A6 rfl (Aoh ha) sP rfl aQ ?_
 refine Ac ⟨rfl,⟨_,sP⟩,?_⟩
 refine xE rfl rfl<|xE rfl rfl<|Am<|Bh<|Be ?_
 first | refine Af rfl rfl uD (Ct) (Ar) (B2 (by first | exact Ar | exact List.length_replicate ..)) ?_ | refine Af rfl rfl uD rfl rfl rfl ?_
 refine Ac ⟨rfl,⟨_,sP⟩,?_⟩
 refine Am<|A4<|xA rfl<|Am<|Bm<|n_K<|An ?_
 refine Aq (Bz Tryz.results100 (Bv rfl mM (by first | exact Bg | rfl)) (Ag rfl)) ?_ sP
 rfl
theorem Agz {p:Pg}:Does Tryz.prog 242 [.agg (vbc p).toArray] [] (Is (.agg (vbc (Dv p)).toArray) []):=by
 refine Ah (n:=29) Tryz.func242 Tryz.ntmps242 rfl (Nat.le_of_ble_eq_true rfl)<|Ad<|Aa fun ops=> ?_
 refine Ec rfl rfl fun b1=> ?_
 refine Aw rfl fun b2=> ?_
 rw [Cs]
 refine Ac<|n_K<|Ad<|Aa fun ops=> ?_
 refine oR (Au rfl mM (by first | exact Bg | rfl)) ?_
 refine Bd rfl (La (p:=p)) sP rfl fun v9 Y9 h9=> ?_
 obtain ⟨s,rfl,rfl,hs,ho⟩:=h9
 refine Ay aQ ?_
 refine oM rfl<|oE rfl rfl<|oE rfl rfl<|oE rfl rfl<|oE rfl rfl<|oA rfl<|oA rfl<|oA rfl<|oA rfl<|Ac<|n_K<|Ad<|Ad ?_
 refine Bf [(2,16)] rfl fun ops y=> ?_
 refine oM rfl<|oR (Ae rfl rfl rfl)<|oM rfl ?_
 refine' Es (j:=2) (k:=2) y rfl rfl rfl rfl rfl rfl rfl (fun hg16=> ?_) ?_
 rotate_left
 ·try (simp at hg16;show _)
  refine o_g y rfl rfl ?_
  refine oM rfl ?_
  refine o_g y rfl rfl ?_
  refine oR (Ae rfl rfl rfl) ?_
  exact Ac ⟨rfl,rfl,⟨_,sP⟩⟩
 refine Ac<|n_K ?_
 refine Aj rfl (fun c19=> ?_) (fun c19=> ?_)
 ·skip
  have hres:Dv p=p:=(by unfold Dv;rw [if_pos (by simp at c19;rcases c19 with h | h;exact .inl h;exact .inr h)])
  refine Ad<|Aa fun ops=> ?_
  refine oR (Au rfl mM (by first | exact Bg | rfl)) ?_
  first | refine Af rfl rfl uD (Ct) (Ar) (B2 (by first | exact Ar | exact List.length_replicate ..)) ?_ | refine Af rfl rfl uD rfl rfl rfl ?_
  refine Ac<|n_K<|An<|r_K ?_
  refine Aq (At Tryz.results242 (Bv rfl mM (by first | exact Bg | rfl))) ?_ sP
  rw [hres]
 ·skip
  have hres:Dv p=(C3 (Cg p).1 (Cg p).2.1).1:=(by unfold Dv;rw [if_neg (by simp at c19;rintro (h | h);exact h c19.1;exact c19.2 h)])
  refine Ai<|n_K<|Ad<|Aa fun ops=>oM rfl<|oM rfl ?_
  refine A5 rfl rfl rfl rfl fun b24=> ?_
  refine A6 rfl (H9 (kind:=(Cg p).1) (s:=s) (by have:=Qu p;rw [hs];omega)) sP rfl aQ ?_
  refine oM rfl<|oE rfl rfl<|oE rfl rfl ?_
  first | refine Af rfl rfl uD (Ct) (Ar) (B2 (by first | exact Ar | exact List.length_replicate ..)) ?_ | refine Af rfl rfl uD rfl rfl rfl ?_
  refine Ac<|n_K<|Ad<|Aa fun ops=> ?_
  refine oR (Au rfl mM (by first | exact Bg | rfl)) ?_
  first | refine Af rfl rfl uD (Ct) (Ar) (B2 (by first | exact Ar | exact List.length_replicate ..)) ?_ | refine Af rfl rfl uD rfl rfl rfl ?_
  refine Ac<|n_K<|An ?_
  refine Aq (At Tryz.results242 (Bv rfl mM (by first | exact Bg | rfl))) ?_ sP
  rw [hres,← hs]
end
end
section
open Go.K
instance und297:Und Tryz.prog 297 (.slice 147):=⟨Tryz.underlying297⟩
instance ent230:Ent Tryz.prog 230:=⟨fun _ _=>by kernel_rfl⟩
theorem Apg (p:Pg):((vbc p).all (·.oneCell'))=true:=by
 rw [List.all_eq_true]
 intro x hx
 obtain ⟨y,_,rfl⟩:=List.mem_map.1 hx
 rfl
instance:Cel Pg:=⟨258,vbc,fun _=>Ar,Apg⟩
def E4 (c:Chip) (src to':Int) (i:Int):Int×Chip:=if Aww c src i=0 then B1 c to' i (Dv (B0 c src i)) else (Aww c src i,c)
def Fm:Nat→Chip→Int→Int→Int→Int×Chip
 | 0,c,_,_,_=>(0,c)
 | f+1,c,src,to',i=>if (E4 c src to' i).1≠0 then E4 c src to' i else Fm f (E4 c src to' i).2 src to' (i+1)
def K6:List Pg→Chip→Int→Int→Int×Chip
 | [],c,_,_=>(0,c)
 | p::ps,c,to',i=>if (B1 c to' i p).1≠0 then B1 c to' i p else K6 ps (B1 c to' i p).2 to' (i+1)
def fillC (c:Chip) (src to':Int) (count:Nat) (more:List Pg):Int×Chip :=
 if (Fm count c src to' 0).1≠0 then Fm count c src to' 0 else K6 more (Fm count c src to' 0).2 to' count
theorem Zu (c:Chip) (src to' i:Int):(E4 c src to' i).2.aC=c.aC:=by
 unfold E4
 split
 ·exact Fh _ _ _ _
 ·rfl
theorem Avh {l:List Pg} {i:Nat} {p:Pg} (h:l[i]? =some p):l.drop i=p::l.drop (i+1):=by
 obtain ⟨h1,h2⟩:=List.getElem?_eq_some_iff.1 h
 rw [List.drop_eq_getElem_cons h1,h2]
section
variable {c:Chip} {t:Tab} {a dk:Nat}
theorem Aph (ha:c.aC=a) {b to':Int} {count:Nat} {more:Sl Pg} (hc:count≤8) (hm:more.list.length≤1000) :
  Does Tryz.prog 230 [ptr dk,.int .i64 b,.int .i64 to',.int .i64 (count:Nat),more.val] ((dk,true,C [ptr a,ptr t.b] tDk)::(Dk a t++(chH c++(more.hp tPg++[]))))
  (Is (.int .i64 (fillC c (atD t.ts b) to' count more.list).1) ((dk,true,C [ptr a,ptr t.b] tDk)::(Dk a t++(chH (fillC c (atD t.ts b) to' count more.list).2++(more.hp tPg++[]))))):=by
 refine Ah (n:=64) Tryz.func230 Tryz.ntmps230 rfl (Nat.le_of_ble_eq_true rfl)<|Ad<|Aa fun ops=>oA rfl<|Ac<|n_K<|Ad<|Ad<|Aa fun ops=>oM rfl<|oM rfl<|Ac<|n_K<|Ak ?_
 refine A8 [0,1,2,3,4,17] kQ (fun (st:Nat×Chip)=>[(18,.int .i64 st.1)]) (fun (st:Nat×Chip)=>(dk,true,C [ptr a,ptr t.b] tDk)::(Dk a t++(chH st.2++(more.hp tPg++[])))) (fun (st:Nat×Chip)=>st.1≤count∧st.2.aC=a∧Fm (count - st.1) st.2 (atD t.ts b) to' st.1=Fm count c (atD t.ts b) to' 0) (fun (st:Nat×Chip)=>count - st.1) ((0,c)) ⟨Nat.zero_le _,ha,rfl⟩ kP sP ?_
 rintro ⟨i,c1⟩ ⟨h0,h1,h2⟩
 simp only at h0 h1 h2
 refine Ad<|Aa fun ops=>oR (Ae rfl rfl rfl)<|Ac<|n_K<|Ad ?_
 refine Aj rfl (fun c19=> ?_) (fun c19=> ?_)
 ·simp only [decide_eq_true_eq,decide_eq_false_iff_not] at c19
  have hgo:Fm (count - i) c1 (atD t.ts b) to' i=if (E4 c1 (atD t.ts b) to' i).1≠0 then E4 c1 (atD t.ts b) to' i else Fm (count - (i+1)) (E4 c1 (atD t.ts b) to' i).2 (atD t.ts b) to' ((i:Int)+1):=(by rw [show count - i=(count - (i+1))+1 by omega];rfl)
  rw [h2] at hgo
  refine Ai<|n_K<|Ad<|Ak<|Ad<|Aa fun ops=>oM rfl<|oA rfl<|Ac<|n_K<|Ad<|Aa fun ops=>oM rfl<|oM rfl ?_
  refine oM rfl ?_
  refine A6 rfl (Zt (c:=c1) (t:=t) (dk:=dk) h1) sP rfl aQ ?_
  refine oM rfl<|oE rfl rfl<|oE rfl rfl ?_
  refine Aw rfl fun b12=> ?_
  first | refine Af rfl rfl uD (Ct) (Ar) (B2 (by first | exact Ar | exact List.length_replicate ..)) ?_ | refine Af rfl rfl uD rfl rfl rfl ?_
  refine oA rfl<|Ac<|n_K<|Ad<|Ad<|Aa fun ops=>oM rfl<|oR (Ae rfl rfl rfl)<|Ac<|n_K ?_
  refine Aj rfl (fun c29=> ?_) (fun c29=> ?_)
  ·skip
   have hf1:E4 c1 (atD t.ts b) to' i=B1 c1 to' i (Dv (B0 c1 (atD t.ts b) i)):=(by unfold E4;rw [if_pos (by simpa using c29)])
   refine s_draw [] [(8,[(0,false),(1,false),(2,false),(3,false),(4,false),(5,false),(6,false),(7,true)]),(9,[(8,true)]),(10,[(9,false)])] (by kernel_rfl) rfl fun ops w0 H0 y=> ?_
   refine A4<|xM rfl<|xN rfl<|xF rfl ?_
   refine xR (Al rfl mM rfl) ?_
   refine xM rfl<|xM rfl ?_
   refine xR (Au rfl mM (by first | exact Bg | rfl)) ?_
   refine Be ?_
   refine A6 rfl (Agz (p:=B0 c1 (atD t.ts b) i)) sP rfl aQ ?_
   refine Ac ⟨rfl,⟨_,sP⟩,?_⟩
   refine Am<|Bh<|Be ?_
   refine A6 rfl (Mg (c:=c1) h1) sP rfl aQ ?_
   refine Ac ⟨rfl,⟨_,sP⟩,?_⟩
   refine Am<|A4<|xA rfl<|Am<|Bm<|n_K<|Ad<|Aa fun ops=>oM rfl<|oR (Ae rfl rfl rfl)<|Ac<|n_K ?_
   refine Aj rfl (fun c40=> ?_) (fun c40=> ?_)
   ·skip
    have hres:fillC c (atD t.ts b) to' count more.list=E4 c1 (atD t.ts b) to' i:=(by have hne:(E4 c1 (atD t.ts b) to' i).1≠0:=(by rw [hf1];simpa using c40);rw [if_pos hne] at hgo;unfold fillC;rw [hgo,if_pos hne])
    rw [hf1] at hres
    refine Ad<|Aa fun ops=>oM rfl<|oA rfl<|Ac<|n_K<|An<|Bn<|r_K<|r_K<|Bn<|r_K ?_
    refine Aq (At Tryz.results230 (Ag rfl)) ?_ (by rw [hres];exact sP)
    rw [hres]
   ·skip
    have hz:(E4 c1 (atD t.ts b) to' i).1=0:=(by rw [hf1];simpa using c40)
    rw [if_neg (by rw [hz];simp),hf1] at hgo
    refine Ai<|Az<|n_K<|Aa fun ops=> ?_
    refine oR (Ao rfl rfl (by omega)) ?_
    refine oM rfl<|Ac<|n_K ?_
    first | exact ⟨(i+1,(B1 c1 to' i (Dv (B0 c1 (atD t.ts b) i))).2),⟨by simp only;omega,(Fh _ _ _ _).trans h1,by simp only;exact hgo.symm⟩,by simp only;omega,lZ⟩ | exact ⟨(i+1,c1),⟨by simp only;omega,h1,by simp only;exact hgo.symm⟩,by simp only;omega,lZ⟩
  ·skip
   have hf1:E4 c1 (atD t.ts b) to' i=(Aww c1 (atD t.ts b) i,c1):=(by unfold E4;rw [if_neg (by simpa using c29)])
   refine Ai<|n_K<|Ad<|Aa fun ops=>oM rfl<|oR (Ae rfl rfl rfl)<|Ac<|n_K ?_
   refine Aj rfl (fun c40=> ?_) (fun c40=> ?_)
   ·skip
    have hres:fillC c (atD t.ts b) to' count more.list=E4 c1 (atD t.ts b) to' i:=(by have hne:(E4 c1 (atD t.ts b) to' i).1≠0:=(by rw [hf1];simpa using c40);rw [if_pos hne] at hgo;unfold fillC;rw [hgo,if_pos hne])
    rw [hf1] at hres
    refine Ad<|Aa fun ops=>oM rfl<|oA rfl<|Ac<|n_K<|An<|Bn<|r_K<|r_K<|Bn<|r_K ?_
    refine Aq (At Tryz.results230 (Ag rfl)) ?_ (by rw [hres];exact sP)
    rw [hres]
   ·skip
    have hz:(E4 c1 (atD t.ts b) to' i).1=0:=(by rw [hf1];simpa using c40)
    rw [if_neg (by rw [hz];simp),hf1] at hgo
    refine Ai<|Az<|n_K<|Aa fun ops=> ?_
    refine oR (Ao rfl rfl (by omega)) ?_
    refine oM rfl<|Ac<|n_K ?_
    first | exact ⟨(i+1,(B1 c1 to' i (Dv (B0 c1 (atD t.ts b) i))).2),⟨by simp only;omega,(Fh _ _ _ _).trans h1,by simp only;exact hgo.symm⟩,by simp only;omega,lZ⟩ | exact ⟨(i+1,c1),⟨by simp only;omega,h1,by simp only;exact hgo.symm⟩,by simp only;omega,lZ⟩
 ·simp only [decide_eq_true_eq,decide_eq_false_iff_not] at c19
  have hic:i=count:=(by omega)
  subst hic
  have hz:Fm i c (atD t.ts b) to' 0=(0,c1):=(by rw [← h2,Nat.sub_self];rfl)
  refine Bb<|x_K<|x_K<|Bj<|n_K<|Ad<|Ad<|Aa fun ops=>oM rfl<|oR (A7 rfl)<|oM rfl<|Ac<|n_K<|Ak ?_
  refine A8 [0,2,3,43,44] kQ (fun (st:Nat×Chip)=>[(45,.int .i64 st.1)]) (fun (st:Nat×Chip)=>(dk,true,C [ptr a,ptr t.b] tDk)::(Dk a t++(chH st.2++(more.hp tPg++[])))) (fun (st:Nat×Chip)=>st.1≤more.list.length∧st.2.aC=a∧K6 (more.list.drop st.1) st.2 to' ((i:Int)+st.1)=K6 more.list c1 to' i) (fun (st:Nat×Chip)=>more.list.length - st.1) ((0,c1)) ⟨Nat.zero_le _,h1,by simp⟩ kP sP ?_
  rintro ⟨j,c2⟩ ⟨k0,k1,k2⟩
  simp only at k0 k1 k2
  refine Ad<|Aa fun ops=>oR (Ae rfl rfl rfl)<|Ac<|n_K<|Ad ?_
  refine Aj rfl (fun c46=> ?_) (fun c46=> ?_)
  ·simp only [decide_eq_true_eq,decide_eq_false_iff_not] at c46
   obtain ⟨p,hg⟩:∃ p,more.list[j]? =some p:=⟨_,List.getElem?_eq_getElem (by omega)⟩
   rw [Avh hg] at k2
   refine Ai<|n_K<|Ad<|Ak<|Ad<|Aa fun ops=>oM rfl ?_
   refine oR (Bk rfl rfl (by omega)) ?_
   refine oR (Do (o:=0) rfl pL hg Bg rfl) ?_
   refine Aw rfl fun b15=> ?_
   refine oA rfl ?_
   first | refine Af rfl rfl uD (Ct) (Ar) (B2 (by first | exact Ar | exact List.length_replicate ..)) ?_ | refine Af rfl rfl uD rfl rfl rfl ?_
   refine Ac<|n_K<|Ad ?_
   refine s_draw [] [(9,[(0,false),(1,false),(2,false),(3,false),(4,false),(5,false),(6,false),(7,false),(8,false)]),(10,[(9,true)]),(11,[(10,false)])] (by kernel_rfl) rfl fun ops w0 H0 y=> ?_
   refine A4<|xM rfl<|xN rfl<|xF rfl ?_
   refine xR (Al rfl mM rfl) ?_
   refine xM rfl<|xM rfl<|xM rfl ?_
   refine xR (Ao rfl rfl (by omega)) ?_
   refine xR (Au rfl mM (by first | exact Bg | rfl)) ?_
   refine Am<|Bh<|Be ?_
   refine A6 rfl (Mg (c:=c2) k1) sP rfl aQ ?_
   refine Ac ⟨rfl,⟨_,sP⟩,?_⟩
   refine Am<|A4<|xA rfl<|Am<|Bm<|n_K<|Ad<|Aa fun ops=>oM rfl<|oR (Ae rfl rfl rfl)<|Ac<|n_K ?_
   refine Aj rfl (fun c61=> ?_) (fun c61=> ?_)
   ·skip
    have hres:fillC c (atD t.ts b) to' i more.list=B1 c2 to' ((i:Int)+j) p:=(by have hne:(B1 c2 to' ((i:Int)+j) p).1≠0:=(by simpa using c61);unfold fillC;rw [hz,if_neg (by simp),← k2];exact if_pos hne)
    refine Ad<|Aa fun ops=>oM rfl<|oA rfl<|Ac<|n_K<|An<|Bn<|r_K<|r_K<|Bn<|r_K ?_
    refine Aq (At Tryz.results230 (Ag rfl)) ?_ (by rw [hres];exact sP)
    rw [hres]
   ·skip
    have hk:K6 (more.list.drop (j+1)) (B1 c2 to' ((i:Int)+j) p).2 to' ((i:Int)+j+1)=K6 more.list c1 to' i:=(by rw [← k2];exact (if_neg (by simpa using c61)).symm)
    refine Ai<|Az<|n_K<|Aa fun ops=> ?_
    refine oR (Ao rfl rfl (by omega)) ?_
    refine oM rfl<|Ac<|n_K ?_
    exact ⟨(j+1,(B1 c2 to' ((i:Int)+j) p).2),⟨by simp only;omega,(Fh _ _ _ _).trans k1,by simp only;rw [← hk];congr 1⟩,(by simp only;omega),lZ⟩
  ·simp only [decide_eq_true_eq,decide_eq_false_iff_not] at c46
   have hres:fillC c (atD t.ts b) to' i more.list=(0,c2):=(by unfold fillC;rw [hz,if_neg (by simp),← k2,List.drop_of_length_le (by omega)];rfl)
   refine Bb<|x_K<|x_K<|Bj<|n_K<|Ad<|Aa fun ops=>oA rfl<|Ac<|n_K<|An ?_
   refine Aq (At Tryz.results230 (Ag rfl)) ?_ (by rw [hres];exact sP)
   rw [hres]
end
end
section
open Go.K
instance ent208:Ent Tryz.prog 208:=⟨fun _ _=>by kernel_rfl⟩
theorem Sj (c:Chip) (src to' i:Int):Ga (E4 c src to' i).2=Ga c:=by
 unfold E4
 split
 ·exact Id _ _ _ _
 ·rfl
theorem Qx (src to':Int):∀ (f:Nat) (c:Chip) (i:Int),Ga (Fm f c src to' i).2=Ga c∧(Fm f c src to' i).2.aC=c.aC
 | 0,c,i=>⟨rfl,rfl⟩
 | f+1,c,i=>by
  unfold Fm
  split
  ·exact ⟨Sj _ _ _ _,Zu _ _ _ _⟩
  ·obtain ⟨h1,h2⟩:=Qx src to' f (E4 c src to' i).2 (i+1)
   exact ⟨h1.trans (Sj _ _ _ _),h2.trans (Zu _ _ _ _)⟩
theorem Sk (to':Int):∀ (ps:List Pg) (c:Chip) (i:Int),Ga (K6 ps c to' i).2=Ga c∧(K6 ps c to' i).2.aC=c.aC
 | [],c,i=>⟨rfl,rfl⟩
 | p::ps,c,i=>by
  unfold K6
  split
  ·exact ⟨Id _ _ _ _,Fh _ _ _ _⟩
  ·obtain ⟨h1,h2⟩:=Sk to' ps (B1 c to' i p).2 (i+1)
   exact ⟨h1.trans (Id _ _ _ _),h2.trans (Fh _ _ _ _)⟩
theorem Acs (c:Chip) (src to':Int) (count:Nat) (more:List Pg):Ga (fillC c src to' count more).2=Ga c∧(fillC c src to' count more).2.aC=c.aC:=by
 obtain ⟨h1,h2⟩:=Qx src to' count c 0
 unfold fillC
 split
 ·exact ⟨h1,h2⟩
 ·obtain ⟨h3,h4⟩:=Sk to' more (Fm count c src to' 0).2 count
  exact ⟨h3.trans h1,h4.trans h2⟩
def I0 (c:Chip) (src to':Int) (count:Nat) (more:List Pg):Int×Chip:=if (B3 c to').1=0 then fillC (B3 c to').2 src to' count more else B3 c to'
theorem L6 (c:Chip) (src to':Int) (count:Nat) (more:List Pg):Ga (I0 c src to' count more).2=Ga c∧(I0 c src to' count more).2.aC=c.aC:=by
 unfold I0
 split
 ·obtain ⟨h1,h2⟩:=Acs (B3 c to').2 src to' count more
  exact ⟨h1.trans (It _ _),h2.trans (Hn _ _)⟩
 ·exact ⟨It _ _,Hn _ _⟩
inductive MoveR (n:Nat) (block:Int) (count:Nat) (more:List Pg):Chip→TS→Int×TS×Chip→Prop
 | none {c:Chip} {t:TS}:(Bu t n).2=false→MoveR n block count more c t (34,t,c)
 | err {c:Chip} {t:TS} {e:Int} {c':Chip}:(Bu t n).2=true→I0 c (atD t block) (Bu t n).1 count more=(e,c')→e≠0→e≠33→MoveR n block count more c t (e,t,c')
 | swap {c:Chip} {t:TS} {c':Chip} {r:Int×TS×Chip}:(Bu t n).2=true→I0 c (atD t block) (Bu t n).1 count more=(0,c')→As8 t c' block (Bu t n).1 r→MoveR n block count more c t r
 | bad {c:Chip} {t:TS} {c':Chip} {e:Int} {t':TS} {c'':Chip}:(Bu t n).2=true→I0 c (atD t block) (Bu t n).1 count more=(33,c')→Afs t c' (Bu t n).1 (e,t',c'')→e≠0→MoveR n block count more c t (e,t',c'')
 | again {c:Chip} {t:TS} {c':Chip} {t':TS} {c'':Chip} {r:Int×TS×Chip}:(Bu t n).2=true→I0 c (atD t block) (Bu t n).1 count more=(33,c')→Afs t c' (Bu t n).1 (0,t',c'')→MoveR n block count more c'' t' r→MoveR n block count more c t r
structure WT (n:Nat) (t:TS):Prop where
 wf:WF n t.uses t.lost
 next:0≤t.next
 area:0≤t.area∧t.area≤1
theorem Acu {t:TS} {u l:List Int} {c:Chip} (h:(B6 t u l c).1=0):(B6 t u l c).2.1.uses=u∧(B6 t u l c).2.1.lost=l:=by
 unfold B6 at h ⊢
 simp only [] at h ⊢
 split at h
 ·rename_i h1;exact absurd h h1
 ·rename_i h1
  rw [if_neg h1]
  exact ⟨rfl,rfl⟩
theorem Jh {t:TS} {n:Nat} (h:(Bu t n).2=true):D5 t n (Bu t n).1=true:=by
 unfold Bu at h ⊢
 cases h2:Ko t n with
 | none=>rw [h2] at h;cases h
 | some b =>
  unfold Ko at h2
  simpa using List.find?_some h2
theorem WT.lost {n:Nat} {t:TS} {c c':Chip} {t':TS} (h:WT n t) (hn:c.blocks.length=n) (hs:(Bu t n).2=true) (hd:Afs t c (Bu t n).1 (0,t',c')):WT n t'∧t'.lost.length=t.lost.length+1∧Ga c'=Ga c∧c'.aC=c.aC:=by
 have hb:=Jh hs
 obtain ⟨l,hp,he⟩:=hd.1 (by rw [hn];exact hb)
 have h0:(B6 t t.uses l c).1=0:=by rw [← he]
 have ht:t'=(B6 t t.uses l c).2.1:=by rw [← he]
 have hc:c'=(B6 t t.uses l c).2.2:=by rw [← he]
 obtain ⟨h1,h2⟩:=Acu h0
 rw [← ht] at h1 h2
 have hk:=Aqs t t.uses l c h.next h.area
 rw [← ht] at hk
 refine ⟨⟨by rw [h1,h2];exact h.wf.lose hb hp,?_,?_⟩,by rw [h2,hp.length_eq];simp,by rw [hc];exact Ads _ _ _ _,by rw [hc];exact Aa1 _ _ _ _⟩
 ·rcases hk with e | ⟨_,_,e,_⟩
  ·rw [e];exact h.next
  ·exact e
 ·rcases hk with e | ⟨_,_,_,e⟩
  ·rw [e];exact h.area
  ·exact e
theorem WT.tab {n:Nat} {t:Tab} (h:WT n t.ts):t.u.list.length≤1000∧t.l.list.length≤4∧0≤t.next∧(0≤t.area∧t.area≤1):=by
 have h1:=h.wf.n2
 have h2:t.u.list.length+6=n:=h.wf.len
 have h3:t.l.list.length≤4:=h.wf.lost4
 exact ⟨by omega,h3,h.next,h.area⟩
section
variable {c:Chip} {t:Tab} {a dk n:Nat}
theorem Aez (ha:c.aC=a) (hn:c.blocks.length=n) (hw:WT n t.ts) {b:Int} {count:Nat} {more:Sl Pg} (hc:count≤8) (hm:more.list.length≤1000) :
  Does Tryz.prog 208 [ptr dk,.int .i64 b,.int .i64 (count:Nat),more.val] ((dk,true,C [ptr a,ptr t.b] tDk)::(Dk a t++(chH c++(more.hp tPg++[]))))
  (fun v H=>∃ (t':Tab) (e:Int) (c':Chip),t'.b=t.b∧v= .int .i64 e∧H=(dk,true,C [ptr a,ptr t'.b] tDk)::(Dk a t'++(chH c'++(more.hp tPg++[])))∧c'.aC=a∧MoveR n b count more.list c t.ts (e,t'.ts,c')):=by
 refine Ah (n:=57) Tryz.func208 Tryz.ntmps208 rfl (Nat.le_of_ble_eq_true rfl)<|Ad<|Aa fun ops=>oA rfl<|Ac<|n_K<|Ak ?_
 refine A8 [0,1,2,3] kQ (fun (st:Tab×Chip)=>[]) (fun (st:Tab×Chip)=>(dk,true,C [ptr a,ptr st.1.b] tDk)::(Dk a st.1++(chH st.2++(more.hp tPg++[])))) (fun (st:Tab×Chip)=>st.1.b=t.b∧st.2.aC=a∧st.2.blocks.length=n∧WT n st.1.ts∧∀ r,MoveR n b count more.list st.2 st.1.ts r→MoveR n b count more.list c t.ts r) (fun (st:Tab×Chip)=>5 - st.1.l.list.length) ((t,c)) ⟨rfl,ha,hn,hw,fun r h=>h⟩ kP sP ?_
 rintro ⟨t1,c1⟩ ⟨h0,h1,h2,h3,h4⟩
 simp only at h0 h1 h2 h3 h4
 obtain ⟨w1,w2,w3,w4⟩:=h3.tab
 refine Ak<|Ad<|Aa fun ops=>oM rfl<|oN rfl<|oF rfl ?_
 refine oR (Al rfl mM rfl) ?_
 refine A6 rfl ((Aji (t:=t1) (c:=c1) h1 (by have:=h3.wf.n2;omega)).to (by rw [h2]) rfl) sP rfl aQ ?_
 refine oM rfl<|oE rfl rfl<|oE rfl rfl<|oA rfl<|oA rfl<|Ac<|n_K<|Ad<|Ad<|Aa fun ops=>oM rfl<|oR (Bx rfl)<|Ac<|n_K ?_
 refine Aj rfl (fun c21=> ?_) (fun c21=> ?_)
 ·skip
  have hs:(Bu t1.ts n).2=false:=(by simpa using c21)
  refine Ad<|Aa fun ops=>oA rfl<|Ac<|n_K<|An<|r_K<|Bn<|r_K<|Bn ?_
  exact Av (At Tryz.results208 (Ag rfl)) (by exact ⟨t1,34,c1,h0,rfl,rfl,h1,h4 _ (.none hs)⟩) (by first | (rw [hb'];exact sP) | exact sP)
 ·skip
  have hs:(Bu t1.ts n).2=true:=(by simpa using c21)
  refine Ai<|n_K<|Ad<|Aa fun ops=>oM rfl<|oN rfl<|oF rfl ?_
  refine oR (Al rfl mM rfl) ?_
  refine oM rfl ?_
  refine A6 rfl (Ze (c:=c1) h1) sP rfl aQ ?_
  refine oA rfl<|Ac<|n_K<|Ad<|Ad<|Aa fun ops=>oM rfl<|oR (Ae rfl rfl rfl)<|Ac<|n_K ?_
  refine Aj rfl (fun c29=> ?_) (fun c29=> ?_)
  ·skip
   have htr:I0 c1 (atD t1.ts b) (Bu t1.ts n).1 count more.list=fillC (B3 c1 (Bu t1.ts n).1).2 (atD t1.ts b) (Bu t1.ts n).1 count more.list:=(by unfold I0;rw [if_pos (by simpa using c29)])
   refine Aa fun ops=>oM rfl<|oM rfl<|oM rfl<|oM rfl<|oM rfl ?_
   refine A6 rfl (Aph (c:=(B3 c1 (Bu t1.ts n).1).2) (t:=t1) (dk:=dk) (to':=(Bu t1.ts n).1) ((Hn _ _).trans h1) hc hm) sP rfl aQ ?_
   refine oA rfl<|Ac<|n_K<|Ad<|Ad<|Aa fun ops=>oM rfl<|Ac<|n_K<|Ak<|Ad<|Aa fun ops=>oR (Ae rfl rfl rfl)<|oA rfl ?_
   refine Ac<|n_K ?_
   refine Aj rfl (fun c37=> ?_) (fun c37=> ?_)
   ·skip
    try (exfalso;((rw [c29] at c37;cases c37));done)
    all_goals
     rw [← htr] at c37 ⊢
     obtain ⟨hTb,hTa⟩:=L6 c1 (atD t1.ts b) (Bu t1.ts n).1 count more.list
     generalize hT:I0 c1 (atD t1.ts b) (Bu t1.ts n).1 count more.list=T at *
     have hTl:T.2.blocks.length=n:=(Fq hTb).trans h2
     have hTa':T.2.aC=a:=hTa.trans h1
     have hT0:I0 c1 (atD t1.ts b) (Bu t1.ts n).1 count more.list=(0,T.2):=(by rw [hT];exact Prod.ext (by simpa using c37) rfl)
     refine Ad<|Aa fun ops=>oM rfl<|oN rfl<|oF rfl ?_
     refine oR (Al rfl mM rfl) ?_
     refine oM rfl<|oM rfl ?_
     refine Bd rfl (Aa5 (c:=T.2) (t:=t1) hTa' w1 (by omega) w3 w4) sP rfl fun v45 Y45 h45=> ?_
     obtain ⟨t',e,c',hb',rfl,rfl,ha',hd⟩:=h45
     refine Ay aQ ?_
     refine oA rfl<|Ac<|n_K<|An<|Bn<|r_K<|Bn<|r_K<|Bn ?_
     exact Av (At Tryz.results208 (Ag rfl)) (by first | exact ⟨t',e,c',hb'.trans h0,rfl,rfl,ha',h4 _ (.swap hs hT0 hd)⟩ | exact ⟨t',e,c',hb'.trans h0,rfl,rfl,ha',h4 _ (.bad hs hT3 hd (by simpa using c55))⟩ | exact ⟨t1,T.1,T.2,h0,rfl,rfl,hTa',h4 _ (.err hs hT hTn hTn3)⟩) (by first | (rw [hb'];exact sP) | exact sP)
   ·skip
    rw [← htr] at c37 ⊢
    obtain ⟨hTb,hTa⟩:=L6 c1 (atD t1.ts b) (Bu t1.ts n).1 count more.list
    generalize hT:I0 c1 (atD t1.ts b) (Bu t1.ts n).1 count more.list=T at *
    have hTl:T.2.blocks.length=n:=(Fq hTb).trans h2
    have hTa':T.2.aC=a:=hTa.trans h1
    have hTn:T.1≠0:=(by simpa using c37)
    refine Ad<|Aa fun ops=>oR (Ae rfl rfl rfl)<|oA rfl<|Ac<|n_K ?_
    refine Aj rfl (fun c46=> ?_) (fun c46=> ?_)
    ·skip
     have hT3:I0 c1 (atD t1.ts b) (Bu t1.ts n).1 count more.list=(33,T.2):=(by rw [hT];exact Prod.ext (by simpa using c46) rfl)
     refine Aa fun ops=>oM rfl<|oN rfl<|oF rfl ?_
     refine oR (Al rfl mM rfl) ?_
     refine oM rfl ?_
     refine Bd rfl (Aa4 (c:=T.2) (t:=t1) hTa' w1 (by omega) w3 w4) sP rfl fun v53 Y53 h53=> ?_
     obtain ⟨t',e,c',hb',rfl,rfl,ha',hd⟩:=h53
     refine Ay aQ ?_
     refine oA rfl<|Ac<|Az<|n_K<|Ad<|Aa fun ops=>oM rfl<|oR (Ae rfl rfl rfl)<|Ac<|n_K ?_
     refine Aj rfl (fun c55=> ?_) (fun c55=> ?_)
     ·skip
      refine Ad<|Aa fun ops=>oM rfl<|oA rfl<|Ac<|n_K<|An<|Bn<|r_K<|Bn ?_
      exact Av (At Tryz.results208 (Ag rfl)) (by first | exact ⟨t',e,c',hb'.trans h0,rfl,rfl,ha',h4 _ (.swap hs hT0 hd)⟩ | exact ⟨t',e,c',hb'.trans h0,rfl,rfl,ha',h4 _ (.bad hs hT3 hd (by simpa using c55))⟩ | exact ⟨t1,T.1,T.2,h0,rfl,rfl,hTa',h4 _ (.err hs hT hTn hTn3)⟩) (by first | (rw [hb'];exact sP) | exact sP)
     ·skip
      try (exfalso;(rw [c37] at c55;cases c55);done)
      all_goals
       have he0:e=0:=(by simpa using c55)
       rw [he0] at hd
       obtain ⟨l1,l2,l3,l4⟩:=h3.lost hTl hs hd
       refine Ai<|Az<|n_K ?_
       exact ⟨(t',c'),⟨hb'.trans h0,ha',(Fq l3).trans hTl,l1,fun r hr=>h4 r (.again hs hT3 hd hr)⟩,(by have h5:t'.l.list.length=t1.l.list.length+1:=l2;simp only;omega),kP,kP,_,(by simp only;rw [hb'];exact sP)⟩
    ·skip
     have hTn3:T.1≠33:=(by simpa using c46)
     refine Ai<|Az<|n_K<|Ad<|Aa fun ops=>oM rfl<|oR (Ae rfl rfl rfl)<|Ac<|n_K ?_
     refine Aj rfl (fun c55=> ?_) (fun c55=> ?_)
     ·skip
      refine Ad<|Aa fun ops=>oM rfl<|oA rfl<|Ac<|n_K<|An<|Bn<|r_K<|Bn ?_
      exact Av (At Tryz.results208 (Ag rfl)) (by first | exact ⟨t',e,c',hb'.trans h0,rfl,rfl,ha',h4 _ (.swap hs hT0 hd)⟩ | exact ⟨t',e,c',hb'.trans h0,rfl,rfl,ha',h4 _ (.bad hs hT3 hd (by simpa using c55))⟩ | exact ⟨t1,T.1,T.2,h0,rfl,rfl,hTa',h4 _ (.err hs hT hTn hTn3)⟩) (by first | (rw [hb'];exact sP) | exact sP)
     ·skip
      try (exfalso;(rw [c37] at c55;cases c55);done)
      all_goals
       have he0:e=0:=(by simpa using c55)
       rw [he0] at hd
       obtain ⟨l1,l2,l3,l4⟩:=h3.lost hTl hs hd
       refine Ai<|Az<|n_K ?_
       exact ⟨(t',c'),⟨hb'.trans h0,ha',(Fq l3).trans hTl,l1,fun r hr=>h4 r (.again hs hT3 hd hr)⟩,(by have h5:t'.l.list.length=t1.l.list.length+1:=l2;simp only;omega),kP,kP,_,(by simp only;rw [hb'];exact sP)⟩
  ·skip
   have htr:I0 c1 (atD t1.ts b) (Bu t1.ts n).1 count more.list=B3 c1 (Bu t1.ts n).1:=(by unfold I0;rw [if_neg (by simpa using c29)])
   refine Ai<|n_K<|Ad<|Ad<|Aa fun ops=>oM rfl<|Ac<|n_K<|Ak<|Ad<|Aa fun ops=>oR (Ae rfl rfl rfl)<|oA rfl<|Ac ?_
   refine n_K ?_
   refine Aj rfl (fun c37=> ?_) (fun c37=> ?_)
   ·skip
    try (exfalso;((rw [c29] at c37;cases c37));done)
    all_goals
     rw [← htr] at c37 ⊢
     obtain ⟨hTb,hTa⟩:=L6 c1 (atD t1.ts b) (Bu t1.ts n).1 count more.list
     generalize hT:I0 c1 (atD t1.ts b) (Bu t1.ts n).1 count more.list=T at *
     have hTl:T.2.blocks.length=n:=(Fq hTb).trans h2
     have hTa':T.2.aC=a:=hTa.trans h1
     have hT0:I0 c1 (atD t1.ts b) (Bu t1.ts n).1 count more.list=(0,T.2):=(by rw [hT];exact Prod.ext (by simpa using c37) rfl)
     refine Ad<|Aa fun ops=>oM rfl<|oN rfl<|oF rfl ?_
     refine oR (Al rfl mM rfl) ?_
     refine oM rfl<|oM rfl ?_
     refine Bd rfl (Aa5 (c:=T.2) (t:=t1) hTa' w1 (by omega) w3 w4) sP rfl fun v45 Y45 h45=> ?_
     obtain ⟨t',e,c',hb',rfl,rfl,ha',hd⟩:=h45
     refine Ay aQ ?_
     refine oA rfl<|Ac<|n_K<|An<|Bn<|r_K<|Bn<|r_K<|Bn ?_
     exact Av (At Tryz.results208 (Ag rfl)) (by first | exact ⟨t',e,c',hb'.trans h0,rfl,rfl,ha',h4 _ (.swap hs hT0 hd)⟩ | exact ⟨t',e,c',hb'.trans h0,rfl,rfl,ha',h4 _ (.bad hs hT3 hd (by simpa using c55))⟩ | exact ⟨t1,T.1,T.2,h0,rfl,rfl,hTa',h4 _ (.err hs hT hTn hTn3)⟩) (by first | (rw [hb'];exact sP) | exact sP)
   ·skip
    rw [← htr] at c37 ⊢
    obtain ⟨hTb,hTa⟩:=L6 c1 (atD t1.ts b) (Bu t1.ts n).1 count more.list
    generalize hT:I0 c1 (atD t1.ts b) (Bu t1.ts n).1 count more.list=T at *
    have hTl:T.2.blocks.length=n:=(Fq hTb).trans h2
    have hTa':T.2.aC=a:=hTa.trans h1
    have hTn:T.1≠0:=(by simpa using c37)
    refine Ad<|Aa fun ops=>oR (Ae rfl rfl rfl)<|oA rfl<|Ac<|n_K ?_
    refine Aj rfl (fun c46=> ?_) (fun c46=> ?_)
    ·skip
     have hT3:I0 c1 (atD t1.ts b) (Bu t1.ts n).1 count more.list=(33,T.2):=(by rw [hT];exact Prod.ext (by simpa using c46) rfl)
     refine Aa fun ops=>oM rfl<|oN rfl<|oF rfl ?_
     refine oR (Al rfl mM rfl) ?_
     refine oM rfl ?_
     refine Bd rfl (Aa4 (c:=T.2) (t:=t1) hTa' w1 (by omega) w3 w4) sP rfl fun v53 Y53 h53=> ?_
     obtain ⟨t',e,c',hb',rfl,rfl,ha',hd⟩:=h53
     refine Ay aQ ?_
     refine oA rfl<|Ac<|Az<|n_K<|Ad<|Aa fun ops=>oM rfl<|oR (Ae rfl rfl rfl)<|Ac<|n_K ?_
     refine Aj rfl (fun c55=> ?_) (fun c55=> ?_)
     ·skip
      refine Ad<|Aa fun ops=>oM rfl<|oA rfl<|Ac<|n_K<|An<|Bn<|r_K<|Bn ?_
      exact Av (At Tryz.results208 (Ag rfl)) (by first | exact ⟨t',e,c',hb'.trans h0,rfl,rfl,ha',h4 _ (.swap hs hT0 hd)⟩ | exact ⟨t',e,c',hb'.trans h0,rfl,rfl,ha',h4 _ (.bad hs hT3 hd (by simpa using c55))⟩ | exact ⟨t1,T.1,T.2,h0,rfl,rfl,hTa',h4 _ (.err hs hT hTn hTn3)⟩) (by first | (rw [hb'];exact sP) | exact sP)
     ·skip
      try (exfalso;(rw [c37] at c55;cases c55);done)
      all_goals
       have he0:e=0:=(by simpa using c55)
       rw [he0] at hd
       obtain ⟨l1,l2,l3,l4⟩:=h3.lost hTl hs hd
       refine Ai<|Az<|n_K ?_
       exact ⟨(t',c'),⟨hb'.trans h0,ha',(Fq l3).trans hTl,l1,fun r hr=>h4 r (.again hs hT3 hd hr)⟩,(by have h5:t'.l.list.length=t1.l.list.length+1:=l2;simp only;omega),kP,kP,_,(by simp only;rw [hb'];exact sP)⟩
    ·skip
     have hTn3:T.1≠33:=(by simpa using c46)
     refine Ai<|Az<|n_K<|Ad<|Aa fun ops=>oM rfl<|oR (Ae rfl rfl rfl)<|Ac<|n_K ?_
     refine Aj rfl (fun c55=> ?_) (fun c55=> ?_)
     ·skip
      refine Ad<|Aa fun ops=>oM rfl<|oA rfl<|Ac<|n_K<|An<|Bn<|r_K<|Bn ?_
      exact Av (At Tryz.results208 (Ag rfl)) (by first | exact ⟨t',e,c',hb'.trans h0,rfl,rfl,ha',h4 _ (.swap hs hT0 hd)⟩ | exact ⟨t',e,c',hb'.trans h0,rfl,rfl,ha',h4 _ (.bad hs hT3 hd (by simpa using c55))⟩ | exact ⟨t1,T.1,T.2,h0,rfl,rfl,hTa',h4 _ (.err hs hT hTn hTn3)⟩) (by first | (rw [hb'];exact sP) | exact sP)
     ·skip
      try (exfalso;(rw [c37] at c55;cases c55);done)
      all_goals
       have he0:e=0:=(by simpa using c55)
       rw [he0] at hd
       obtain ⟨l1,l2,l3,l4⟩:=h3.lost hTl hs hd
       refine Ai<|Az<|n_K ?_
       exact ⟨(t',c'),⟨hb'.trans h0,ha',(Fq l3).trans hTl,l1,fun r hr=>h4 r (.again hs hT3 hd hr)⟩,(by have h5:t'.l.list.length=t1.l.list.length+1:=l2;simp only;omega),kP,kP,_,(by simp only;rw [hb'];exact sP)⟩
end
end
section
open Go.K
instance ent170:Ent Tryz.prog 170:=⟨fun _ _=>by kernel_rfl⟩
instance ent171:Ent Tryz.prog 171:=⟨fun _ _=>by kernel_rfl⟩
set_option maxRecDepth 20000
theorem Ae0 {c:Chip} {i j:Int} {d:Pg} (h:(B1 c i j d).1=33):0≤j∧j<8:=by
 by_cases hm:Aww c i j=0
 ·have:=Yc hm;omega
 ·rw [Aa9 hm] at h
  simp only at h
  unfold Aww at h
  split at h
  ·omega
  ·split at h
   ·omega
   ·split at h <;> omega
theorem Ag0 (p:Pg):On (List.replicate 258 (Value.int .u8 0)).length (Gn 1 (List.replicate 258 (.int .u8 0))) [(0,.agg (vbc p).toArray)]=some (vbc p):=by
 have h1:Nat.beq (Value.agg (vbc p).toArray).cells.toList.length 258=true:=by
  show Nat.beq (vbc p).length 258=true
  rw [Ar];rfl
 have h2:Br (Gn 1 (List.replicate 258 (.int .u8 0))) (0*258) (Value.agg (vbc p).toArray).cells.toList=some (vbc p):=by
  show Br (List.replicate 258 (.int .u8 0)++[]) 0 (vbc p)=some (vbc p)
  rw [List.append_nil]
  exact B2 (List.length_replicate ..)
 rw [List.length_replicate]
 unfold On
 rw [h1,cond_true,h2]
 rfl
def Qy (n:Nat) (b k:Int) (p:Pg) (c:Chip) (t:TS) (r:Int×TS×Chip):Prop :=
 ((B1 c (atD t b) k p).1=33→MoveR n b k.toNat [p] (B1 c (atD t b) k p).2 t r)∧((B1 c (atD t b) k p).1≠33→r=((B1 c (atD t b) k p).1,t,(B1 c (atD t b) k p).2))
def Pq (n:Nat) (b:Int) (c:Chip) (t:TS) (r:Int×TS×Chip):Prop :=
 ((B3 c (atD t b)).1=33→MoveR n b 0 [] (B3 c (atD t b)).2 t r)∧((B3 c (atD t b)).1≠33→r=((B3 c (atD t b)).1,t,(B3 c (atD t b)).2))
section
variable {c:Chip} {t:Tab} {a dk n:Nat}
theorem Ajv (ha:c.aC=a) (hn:c.blocks.length=n) (hw:WT n t.ts) {b:Int} {count mb:Nat} {p:Pg} (hc:count≤8) :
  Does Tryz.prog 208 [ptr dk,.int .i64 b,.int .i64 (count:Nat),.slice (some ⟨mb,0,none⟩) 1 1] ((dk,true,C [ptr a,ptr t.b] tDk)::(Dk a t++(chH c++[(mb,true,C (vbc p) tPg)])))
  (fun v H=>∃ (t':Tab) (e:Int) (c':Chip),t'.b=t.b∧v= .int .i64 e∧H=(dk,true,C [ptr a,ptr t'.b] tDk)::(Dk a t'++(chH c'++[(mb,true,C (vbc p) tPg)]))∧c'.aC=a∧MoveR n b count [p] c t.ts (e,t'.ts,c')):=by
 have h:=Aez (dk:=dk) (b:=b) (more:=(.own mb [p] 1 [] ⟨by simp,Nat.le_refl _,by simp⟩:Sl Pg)) ha hn hw hc (by show 1≤1000;omega)
 have e:cells [p]++[]=vbc p:=by simp [cells,Cel.cs]
 rw [Sl.hp_own,e] at h
 exact h
theorem Ajw (ha:c.aC=a) (hn:c.blocks.length=n) (hw:WT n t.ts) {b:Int} :
  Does Tryz.prog 208 [ptr dk,.int .i64 b,.int .i64 0,.slice none 0 0] ((dk,true,C [ptr a,ptr t.b] tDk)::(Dk a t++(chH c++[])))
  (fun v H=>∃ (t':Tab) (e:Int) (c':Chip),t'.b=t.b∧v= .int .i64 e∧H=(dk,true,C [ptr a,ptr t'.b] tDk)::(Dk a t'++(chH c'++[]))∧c'.aC=a∧MoveR n b 0 [] c t.ts (e,t'.ts,c')):=by
 have h:=Aez (dk:=dk) (b:=b) (count:=0) (more:=(.nil:Sl Pg)) ha hn hw (by omega) (by show 0≤1000;omega)
 rw [Sl.hp_nil] at h
 exact h
theorem Zv (ha:c.aC=a) (hn:c.blocks.length=n) (hw:WT n t.ts) {b k:Int} {p:Pg} :
  Does Tryz.prog 171 [ptr dk,.int .i64 b,.int .i64 k,.agg (vbc p).toArray] ((dk,true,C [ptr a,ptr t.b] tDk)::(Dk a t++(chH c++[])))
  (fun v H=>∃ (t':Tab) (e:Int) (c':Chip),t'.b=t.b∧v= .int .i64 e∧H=(dk,true,C [ptr a,ptr t'.b] tDk)::(Dk a t'++(chH c'++[]))∧c'.aC=a∧Qy n b k p c t.ts (e,t'.ts,c')):=by
 refine Ah (n:=29) Tryz.func171 Tryz.ntmps171 rfl (Nat.le_of_ble_eq_true rfl)<|Ad<|Aa fun ops=> ?_
 refine Ec rfl rfl fun b7=> ?_
 refine oA rfl<|Ac<|n_K<|Ad ?_
 refine s_draw [] [(9,[(0,false),(1,false),(2,false),(3,false),(4,false),(5,false),(7,false),(8,false),(6,true)]),(10,[(9,true)]),(11,[(10,false)])] (by kernel_rfl) rfl fun ops w0 H0 y=> ?_
 refine A4<|xM rfl<|xN rfl<|xF rfl ?_
 refine xR (Al rfl mM rfl) ?_
 refine xM rfl<|xM rfl<|xM rfl ?_
 refine xR (Au rfl mM (by first | exact Bg | rfl)) ?_
 refine Be ?_
 refine A6 rfl (Acr (a:=a) (t:=t) (dk:=dk)) sP rfl aQ ?_
 refine Ac ⟨rfl,⟨_,sP⟩,?_⟩
 refine Am<|Bh<|Be ?_
 refine A6 rfl (Mg ha) sP rfl aQ ?_
 refine Ac ⟨rfl,⟨_,sP⟩,?_⟩
 refine Am<|A4<|xA rfl<|Am<|Bm<|n_K<|Ad<|Ad<|Aa fun ops=>oM rfl<|oR (Ae rfl rfl rfl)<|Ac<|n_K ?_
 refine Aj rfl (fun c21=> ?_) (fun c21=> ?_)
 ·skip
  have h33:(B1 c (atD t.ts b) k p).1=33:=(by simpa using c21)
  obtain ⟨m,hm⟩:∃ m:Nat,k=m:=⟨k.toNat,by have:=Ae0 h33;omega⟩
  subst hm
  have hm8:m≤8:=(by have:=Ae0 h33;omega)
  refine Aa fun ops=>oM rfl<|oM rfl<|oM rfl ?_
  refine oR (Au rfl mM (by first | exact Bg | rfl)) ?_
  refine A5 (cs:=vbc p) (zs:=List.replicate 258 (.int .u8 0)) rfl (Ag0 p) rfl rfl fun b26=> ?_
  refine Bd rfl (Ajv (c:=(B1 c (atD t.ts b) m p).2) (t:=t) (dk:=dk) (b:=b) (p:=p) ((Fh _ _ _ _).trans ha) ((Fq (Id _ _ _ _)).trans hn) hw hm8) sP rfl fun v27 Y27 h27=> ?_
  obtain ⟨t',e,c',hb',rfl,rfl,ha',hd⟩:=h27
  refine Ay aQ ?_
  refine oA rfl<|Ac<|n_K<|Ad<|Aa fun ops=>oM rfl<|oA rfl<|Ac<|n_K<|An ?_
  exact Av (At Tryz.results171 (Ag rfl)) (by exact ⟨t',e,c',hb',rfl,rfl,ha',fun _=>hd,fun h=>absurd h33 h⟩) (by rw [hb'];exact sP)
 ·skip
  have h33:(B1 c (atD t.ts b) k p).1≠33:=(by simpa using c21)
  refine Ai<|n_K<|Ad<|Aa fun ops=>oM rfl<|oA rfl<|Ac<|n_K<|An ?_
  exact Av (At Tryz.results171 (Ag rfl)) (by exact ⟨t,_,_,rfl,rfl,rfl,(Fh _ _ _ _).trans ha,fun h=>absurd h h33,fun _=>rfl⟩) sP
theorem Ag1 (ha:c.aC=a) (hn:c.blocks.length=n) (hw:WT n t.ts) {b:Int} :
  Does Tryz.prog 170 [ptr dk,.int .i64 b] ((dk,true,C [ptr a,ptr t.b] tDk)::(Dk a t++(chH c++[])))
  (fun v H=>∃ (t':Tab) (e:Int) (c':Chip),t'.b=t.b∧v= .int .i64 e∧H=(dk,true,C [ptr a,ptr t'.b] tDk)::(Dk a t'++(chH c'++[]))∧c'.aC=a∧Pq n b c t.ts (e,t'.ts,c')):=by
 refine Ah (n:=20) Tryz.func170 Tryz.ntmps170 rfl (Nat.le_of_ble_eq_true rfl)<|Ad<|Aa fun ops=>oA rfl<|Ac<|n_K<|Ad ?_
 refine s_draw [] [(7,[(0,false),(1,false),(2,false),(3,false),(4,false),(5,false),(6,true)]),(8,[(7,true)]),(9,[(8,false)])] (by kernel_rfl) rfl fun ops w0 H0 y=> ?_
 refine A4<|xM rfl<|xN rfl<|xF rfl ?_
 refine xR (Al rfl mM rfl) ?_
 refine xM rfl<|xM rfl<|Be ?_
 refine A6 rfl (Acr (a:=a) (t:=t) (dk:=dk)) sP rfl aQ ?_
 refine Ac ⟨rfl,⟨_,sP⟩,?_⟩
 refine Am<|Bh<|Be ?_
 refine A6 rfl (Ze ha) sP rfl aQ ?_
 refine Ac ⟨rfl,⟨_,sP⟩,?_⟩
 refine Am<|A4<|xA rfl<|Am<|Bm<|n_K<|Ad<|Ad<|Aa fun ops=>oM rfl<|oR (Ae rfl rfl rfl)<|Ac<|n_K ?_
 refine Aj rfl (fun c15=> ?_) (fun c15=> ?_)
 ·skip
  have h33:(B3 c (atD t.ts b)).1=33:=(by simpa using c15)
  refine Aa fun ops=>oM rfl<|oM rfl ?_
  refine Bd rfl (Ajw (c:=(B3 c (atD t.ts b)).2) (t:=t) (dk:=dk) (b:=b) ((Hn _ _).trans ha) ((Fq (It _ _)).trans hn) hw) sP rfl fun v18 Y18 h18=> ?_
  obtain ⟨t',e,c',hb',rfl,rfl,ha',hd⟩:=h18
  refine Ay aQ ?_
  refine oA rfl<|Ac<|n_K<|Ad<|Aa fun ops=>oM rfl<|oA rfl<|Ac<|n_K<|An ?_
  exact Av (At Tryz.results170 (Ag rfl)) (by exact ⟨t',e,c',hb',rfl,rfl,ha',fun _=>hd,fun h=>absurd h33 h⟩) (by rw [hb'];exact sP)
 ·skip
  have h33:(B3 c (atD t.ts b)).1≠33:=(by simpa using c15)
  refine Ai<|n_K<|Ad<|Aa fun ops=>oM rfl<|oA rfl<|Ac<|n_K<|An ?_
  exact Av (At Tryz.results170 (Ag rfl)) (by exact ⟨t,_,_,rfl,rfl,rfl,(Hn _ _).trans ha,fun h=>absurd h h33,fun _=>rfl⟩) sP
end
end
section
open Go.K
instance zer75:Zer Tryz.prog 75 ([.pointer none,.pointer none]):=⟨by kernel_rfl⟩
instance plc75:Plc Tryz.prog 75 [(0,1),(1,1)]:=⟨⟨_,Tryz.underlying75,fun _=>by kernel_rfl⟩⟩
instance ent130:Ent Tryz.prog 130:=⟨fun _ _=>by kernel_rfl⟩
section
variable {c:Chip} {a:Nat}
theorem Ae1 {tb:Nat}:Does Tryz.prog 130 [ptr a,ptr tb,.int .i64 0] [] (fun v H=>∃ dk,v= .tuple #[ptr dk,.int .i64 0]∧H=[(dk,true,C [ptr a,ptr tb] tDk)]):=by
 refine Ah (n:=15) Tryz.func130 Tryz.ntmps130 rfl (Nat.le_of_ble_eq_true rfl)<|Ad<|Aa fun ops=>oA rfl<|oA rfl<|Ac<|n_K<|Ad<|Ad<|Aa fun ops=>oM rfl<|oR (Ae rfl rfl rfl)<|Ac<|n_K ?_
 refine Bi rfl ?_
 refine Ai<|n_K<|Ad<|Aa fun ops=>oM rfl<|oM rfl<|oR (Bc rfl rfl) ?_
 refine De rfl rfl fun b14=> ?_
 refine oA rfl<|oA rfl<|Ac<|n_K<|An ?_
 exact Av (Bz Tryz.results130 (Ag rfl) (Ag rfl)) (by exact ⟨_,rfl,rfl⟩) sP
end
end
section
open Go.K
instance ent84:Ent Tryz.prog 84:=⟨fun _ _=>by kernel_rfl⟩
theorem Ajx (k:Int):IntKind.u8.wrap k=((Fx k).toNat:Int):=Ex .u8 rfl k
theorem Acv {pp aC aB m:Nat} (hm:16≤m∧m≤40) (hX:Vc (Gy m [])=false):Does Tryz.prog 131 [ptr aC] (chH (Du (-1) 0 pp aC aB m []))
  (fun v H=>∃ (tb:Tab) (c':Chip),v= .tuple #[ptr tb.b,.int .i64 0]∧H=Dk aC tb++(chH c'++[])∧c'.aC=aC∧c'.aP=pp∧JI c' tb.ts (Ns (Gy m []) ((m:Int) - 6) m) (Gy m []) m 0∧PgP c' (PlB m)∧∀ i,2≤i→i<m→c'.blocks[i]? =some (Gz false)):=by
 have hlen:(Du (-1) 0 pp aC aB m []).blocks.length=m:=Hf
 refine (Apa (c:=Du (-1) 0 pp aC aB m []) (a:=aC) rfl (by rw [hlen];omega)).mono fun v H h=> ?_
 obtain ⟨t,c',h1,h2,h3,h4⟩:=Avf (aP:=pp) (aC:=aC) (aB:=aB) hm hX
 obtain ⟨c2,q1,q2⟩:=Nh (after:= -1) (keep:=0) (aP:=pp) (aC:=aC) (aB:=aB) (n:=m) (bad:=[]) (by omega) (by omega) ((U1 hm).trans hX)
 unfold Zg at h
 rw [h1] at h
 rcases h with ⟨tb,rfl,rfl,h5,_⟩ | ⟨_,_,h6⟩
 ·refine ⟨tb,c',rfl,rfl,h3,h4,by rw [h5];exact h2,Awl hm hX h1 h2,fun i hi hl=> ?_⟩
  rw [q1] at h1
  simp only [Prod.mk.injEq] at h1
  rw [← h1.2.2,q2,Qd (by omega),Ic hl]
  rfl
 ·exact absurd rfl h6
theorem Acw {pp aC aB m:Nat} (hm:16≤m∧m≤40) (hX:Vc (Gy m [])=false):Does Tryz.prog 84 [ptr aC] (chH (Du (-1) 0 pp aC aB m []))
  (fun v H=>∃ (dk:Nat) (tb:Tab) (c':Chip),v= .tuple #[ptr dk,.int .i64 0]∧H=(dk,true,C [ptr aC,ptr tb.b] tDk)::(Dk aC tb++(chH c'++[]))∧c'.aC=aC∧c'.aP=pp∧JI c' tb.ts (Ns (Gy m []) ((m:Int) - 6) m) (Gy m []) m 0∧∀ i,2≤i→i<m→c'.blocks[i]? =some (Gz false)):=by
 refine Ah (n:=17) Tryz.func84 Tryz.ntmps84 rfl (Nat.le_of_ble_eq_true rfl)<|Ad<|Aa fun ops=>oA rfl<|oA rfl<|Ac<|n_K<|Ad<|Aa fun ops=>oM rfl ?_
 refine Bd rfl (Acv (pp:=pp) (aC:=aC) (aB:=aB) (m:=m) hm hX) sP rfl fun v8 Y8 h8=> ?_
 obtain ⟨tb,c',rfl,rfl,a1,a2,a3,_,a4⟩:=h8
 refine Ay aQ ?_
 refine oM rfl<|oE rfl rfl<|oE rfl rfl<|oA rfl<|oA rfl<|Ac<|n_K<|Ad<|Aa fun ops=>oM rfl<|oM rfl<|oM rfl ?_
 refine Bd rfl (Ae1 (a:=aC) (tb:=tb.b)) sP rfl fun v14 Y14 h14=> ?_
 obtain ⟨dk,rfl,rfl⟩:=h14
 refine Ay aQ ?_
 refine oE rfl rfl<|oE rfl rfl<|oA rfl<|oA rfl<|Ac<|n_K<|An ?_
 exact Av (Bz Tryz.results84 (Ag rfl) (Ag rfl)) (by exact ⟨dk,tb,c',rfl,rfl,a1,a2,a3,a4⟩) sP
end
section
open Go.K
theorem Ajy {p:Pg} (h:(Cg p).2.2.2≠0):Dv p=p:=by unfold Dv;rw [if_pos (.inl h)]
theorem Ag2 {p:Pg} (h:p[257]=255#8):Dv p=p:=Ajy (J8 h)
theorem Vd {k:By} {b:List By} (hw:C6 k b=false):Dv (Cw k b)=Cw k b:=by
 unfold Dv
 rw [Ig hw,if_pos (.inr rfl)]
theorem Hold.far {c c':Chip} {v:Nat} {u l:List Int} {a k:Nat} (h:Hold c v u l a) (hk:2≤k) (f:Fr k c c'):Hold c' v u l a:=by
 have ho:∀ i,i<2→c'.blocks[i]? =c.blocks[i]? :=fun i hi=>f.oth i (by omega)
 refine ⟨by rw [f.len];exact h.ok,h.a2,fun i hi=>by rw [ho i hi];exact h.bs i hi,fun i hi b hb=> ?_,?_⟩
 ·rw [ho i hi] at hb
  rw [f.len]
  exact h.le i hi b hb
 ·rw [ho a h.a2,f.len]
  exact h.ex
theorem TI.far {c c':Chip} {t:TS} {k:Nat} (h:TI c t) (hk:2≤k) (f:Fr k c c'):TI c' t:=by
 obtain ⟨a,h1,h2,h3⟩:=h
 exact ⟨a,h1,h2.far hk f,by rw [f.oth a (by have:=h2.a2;omega)];exact h3⟩
def AllB (c:Chip):Prop:=∀ (i:Nat) (b:Blk),c.blocks[i]? =some b→BI b∧b.bad=false
theorem AllB.far {c c':Chip} {k:Nat} {b:Blk} (h:AllB c) (f:Fr k c c') (hb:c'.blocks[k]? =some b) (h1:BI b) (h2:b.bad=false):AllB c':=fun i b' hb'=>by
 by_cases e:i=k
 ·subst e
  rw [hb] at hb'
  cases hb'
  exact ⟨h1,h2⟩
 ·rw [f.oth i e] at hb'
  exact h i b' hb'
theorem AllB.keep {c c':Chip} {v:Nat} {u l:List Int} {a:Nat} (h:AllB c) (f:Fr2 c c') (hh:Hold c' v u l a):AllB c':=fun i b' hb'=>by
 by_cases e:i<2
 ·obtain ⟨b2,h1,h2,h3⟩:=hh.bs i e
  rw [h1] at hb'
  cases hb'
  exact ⟨h2,h3⟩
 ·rw [f.oth i (by omega)] at hb'
  exact h i b' hb'
theorem Pr {c:Chip} {a j:Nat} {b:Blk} {d:Pg} {B:Int} (up:Up c) (hb:c.blocks[a]? =some b) (hj:j<8) (hbad:b.bad=false) (hbi:BI b) (hn:b.next=j) (hc:Cnt c B) (hB:B<8000000000000000000) :
  ∃ e m c',B1 c a j d=(e,c')∧Fr a c c'∧Cnt c' (B+1)∧c'.blocks[a]? =some (wrK b j (Cu m A0 d)) ∧
   ((e=30∧c'.off=true∧¬ c.after<0)∨(e=33∧m=129∧Up c'∧FP c'+1≤FP c)∨(e=0∧m=258∧Up c')):=by
 obtain ⟨e,m,hp,hcase⟩:=Wv up (d:=d) hb hj hbad hbi hn
 obtain ⟨hfr,hcn,hfp⟩:=Atc (a:=a) (b:=wrK b j (Cu m A0 d)) hc (by omega)
 have hoff:=Am0 (a:=a) (b:=wrK b j (Cu m A0 d)) up
 refine ⟨e,m,_,hp,hfr,hcn,Af4 hb,?_⟩
 rcases hcase with ⟨h1,h2⟩ | ⟨h1,h2,h3,h4⟩ | ⟨h1,h2,h3,h4⟩
 ·exact .inl ⟨h1,by rw [hoff];exact h2,O3 h2⟩
 ·exact .inr (.inl ⟨h1,h2,up.of hfr.dead hfr.out (by rw [hoff];exact h3),hfp h4⟩)
 ·exact .inr (.inr ⟨h1,h2,up.of hfr.dead hfr.out (by rw [hoff];exact h3)⟩)
end
section
open Go.K
def Out (c c':Chip) (e:Int):Prop:=(e=30∧c'.off=true∧¬ c.after<0)∨(e=33∧Up c'∧FP c'+1≤FP c)∨(e=0∧Up c')
theorem Out.step {k:Nat} {c c1 c2:Chip} {e:Int} (f:Fr k c c1) (h:Out c1 c2 e):Out c c2 e:=by
 rcases h with ⟨h1,h2,h3⟩ | ⟨h1,h2,h3⟩ | ⟨h1,h2⟩
 ·exact .inl ⟨h1,h2,fun hp=>h3 (by rw [(f.pos hp).1];exact hp)⟩
 ·exact .inr (.inl ⟨h1,h2,by have:=f.fp;omega⟩)
 ·exact .inr (.inr ⟨h1,h2⟩)
theorem Qz {a to':Nat} {bs:Blk} (hne:a≠to'):∀ (f:Nat) (c:Chip) (i:Nat) (bt:Blk) (B:Int),i+f≤8→Up c→c.blocks[a]? =some bs→c.blocks[to']? =some bt→bt.bad=false→BI bt→bt.next=i→Cnt c B→B+f<8000000000000000000 →
  ∃ e c',Fm f c a to' i=(e,c')∧Fr to' c c'∧Cnt c' (B+f)∧Out c c' e∧∃ b',c'.blocks[to']? =some b'∧BI b'∧b'.bad=false ∧
   (e=0→b'.next=((i+f:Nat):Int)∧(∀ (j:Nat) (h:j<8),j<i→b'.pages[j]=bt.pages[j])∧∀ (j:Nat) (h:j<8),i≤j→j<i+f→b'.pages[j]=Dv bs.pages[j])
 | 0,c,i,bt,B,hf,up,ha,hb,hbad,hbi,hn,hc,hB =>
  ⟨0,c,rfl,Fr.refl _ _,by simpa using hc,.inr (.inr ⟨rfl,up⟩),bt,hb,hbi,hbad,fun _=>⟨hn,fun _ _ _=>rfl,fun j h h1 h2=>by omega⟩⟩
 | f+1,c,i,bt,B,hf,up,ha,hb,hbad,hbi,hn,hc,hB=>by
  have hi8:i<8:=by omega
  have hal:a<c.blocks.length:=(List.getElem?_eq_some_iff.1 ha).1
  have hm:Aww c (a:Nat) (i:Nat)=0:=Abo up hal hi8
  have hrd:B0 c (a:Nat) (i:Nat)=bs.pages[i]:=Ot hm ha hi8
  obtain ⟨e,m,c1,hp,hfr,hcn,hbk,hcase⟩:=Pr (d:=Dv bs.pages[i]) up hb hi8 hbad hbi hn hc (by omega)
  have hf1:E4 c (a:Nat) (to':Nat) (i:Nat)=(e,c1):=by
   unfold E4
   rw [if_pos hm,hrd,hp]
  have hbi':=Yu (q:=Cu m A0 (Dv bs.pages[i])) hbi hi8 hn
  have hcn':Cnt c1 (B+((f+1:Nat):Int)):=⟨by have:=hcn.p0;push_cast;omega,by have:=hcn.w0;push_cast;omega⟩
  unfold Fm
  rw [hf1]
  rcases hcase with ⟨rfl,h1,h2⟩ | ⟨rfl,h1,h2,h3⟩ | ⟨rfl,h1,h2⟩
  ·rw [if_pos (by simp)]
   exact ⟨30,c1,rfl,hfr,hcn',.inl ⟨rfl,h1,h2⟩,_,hbk,hbi',hbad,fun h=>by cases h⟩
  ·rw [if_pos (by simp)]
   exact ⟨33,c1,rfl,hfr,hcn',.inr (.inl ⟨rfl,h2,h3⟩),_,hbk,hbi',hbad,fun h=>by cases h⟩
  ·rw [if_neg (by simp)]
   subst h1
   obtain ⟨e2,c2,k1,k2,k3,k4,b2,k5,k6,k7,k8⟩:=Qz hne f c1 (i+1) (wrK bt i (Cu 258 A0 (Dv bs.pages[i]))) (B+1) (by omega) h2 (by rw [hfr.oth a hne];exact ha) hbk hbad hbi' rfl hcn (by omega)
   refine ⟨e2,c2,?_,hfr.trans k2,⟨by have:=k3.p0;push_cast;omega,by have:=k3.w0;push_cast;omega⟩,k4.step hfr,b2,k5,k6,k7,fun h=> ?_⟩
   ·exact_mod_cast k1
   ·obtain ⟨q1,q2,q3⟩:=k8 h
    refine ⟨by rw [q1];push_cast;omega,fun j hj hlt=> ?_,fun j hj hge hlt=> ?_⟩
    ·rw [q2 j hj (by omega),Gc hj,if_neg (by omega)]
    ·by_cases e1:j=i
     ·subst e1
      rw [q2 j hj (by omega),Gc hj,if_pos rfl]
      exact Fu (Nat.le_refl _)
     ·exact q3 j hj (by omega) (by omega)
end
section
open Go.K
def OutW (c c':Chip) (e:Int):Prop:=(e=30∧c'.off=true∧¬ c.after<0)∨(e=33∧Up c'∧FP c'+FW c'+1≤FP c+FW c)∨(e=0∧Up c')
theorem Out.w {k:Nat} {c c':Chip} {e:Int} (f:Fr k c c') (h:Out c c' e):OutW c c' e:=by
 rcases h with h | ⟨h1,h2,h3⟩ | h
 ·exact .inl h
 ·exact .inr (.inl ⟨h1,h2,by have:=f.fw;omega⟩)
 ·exact .inr (.inr h)
theorem OutW.step {k:Nat} {c c1 c2:Chip} {e:Int} (f:Fr k c c1) (h:OutW c1 c2 e):OutW c c2 e:=by
 rcases h with ⟨h1,h2,h3⟩ | ⟨h1,h2,h3⟩ | ⟨h1,h2⟩
 ·exact .inl ⟨h1,h2,fun hp=>h3 (by rw [(f.pos hp).1];exact hp)⟩
 ·exact .inr (.inl ⟨h1,h2,by have:=f.fp;have:=f.fw;omega⟩)
 ·exact .inr (.inr ⟨h1,h2⟩)
def M0 (bs b':Blk) (count:Nat) (more:List Pg):Prop :=
 b'.next=((count+more.length:Nat):Int)∧(∀ (j:Nat) (h:j<8),j<count→b'.pages[j]=Dv bs.pages[j])∧∀ (p:Pg) (h:count<8),more=[p]→b'.pages[count]=p
theorem Acx {a to':Nat} {bs bt:Blk} {c:Chip} {count:Nat} {more:List Pg} {B:Int} (hne:a≠to') (hl:more.length≤1) (h8:count+more.length≤8) (up:Up c) (ha:c.blocks[a]? =some bs) (hb:c.blocks[to']? =some bt) (hbad:bt.bad=false) (hbi:BI bt) (hn:bt.next=0) (hc:Cnt c B) (hB:B+100<8000000000000000000) :
  ∃ e c',fillC c (a:Nat) (to':Nat) count more=(e,c')∧Fr to' c c'∧Cnt c' (B+9)∧Out c c' e∧∃ b',c'.blocks[to']? =some b'∧BI b'∧b'.bad=false∧(e=0→M0 bs b' count more):=by
 obtain ⟨e,c1,h1,h2,h3,h4,b1,h5,h6,h7,h8'⟩:=Qz hne count c 0 bt B (by omega) up ha hb hbad hbi hn hc (by omega)
 have h1':Fm count c (a:Nat) (to':Nat) 0=(e,c1):=h1
 have hc1:Cnt c1 (B+9):=⟨by have:=h3.p0;omega,by have:=h3.w0;omega⟩
 unfold fillC
 rw [h1']
 by_cases he:e=0
 ·subst he
  rw [if_neg (by simp)]
  obtain ⟨q1,q2,q3⟩:=h8' rfl
  have up1:Up c1:=by
   rcases h4 with ⟨h,_⟩ | ⟨h,_⟩ | ⟨_,h⟩
   ·cases h
   ·cases h
   ·exact h
  match more,hl,h8 with
  | [],_,_ =>
   exact ⟨0,c1,rfl,h2,hc1,h4,b1,h5,h6,h7,fun _=>⟨by rw [q1];simp,fun j h hlt=>q3 j h (by omega) (by omega),fun p h hp=>by cases hp⟩⟩
  | [p],_,h8 =>
   have hc8:count<8:=by simp at h8;omega
   obtain ⟨e2,m,c2,p1,p2,p3,p4,p5⟩:=Pr (d:=p) up1 h5 hc8 h7 h6 (by rw [q1];simp) h3 (by omega)
   have hM:K6 [p] c1 (to':Nat) (count:Nat)=(e2,c2):=by
    unfold K6
    rw [p1]
    split
    ·rfl
    ·rename_i h
     have:e2=0:=by simpa using h
     rw [this];rfl
   have hbi':=Yu (q:=Cu m A0 p) h6 hc8 (by rw [q1];simp)
   refine ⟨e2,c2,hM,h2.trans p2,⟨by have:=p3.p0;omega,by have:=p3.w0;omega⟩,?_,_,p4,hbi',h7,fun h=> ?_⟩
   ·refine Out.step h2 ?_
    rcases p5 with p5 | ⟨r1,r2,r3,r4⟩ | ⟨r1,r2,r3⟩
    ·exact .inl p5
    ·exact .inr (.inl ⟨r1,r3,r4⟩)
    ·exact .inr (.inr ⟨r1,r3⟩)
   ·have hm:m=258:=by
     rcases p5 with ⟨r1,_⟩ | ⟨r1,_⟩ | ⟨_,r2,_⟩
     ·omega
     ·omega
     ·exact r2
    subst hm
    refine ⟨by show (count:Int)+1=_;simp,fun j hj hlt=> ?_,fun p' hp' heq=> ?_⟩
    ·rw [Gc hj,if_neg (by omega)]
     exact q3 j hj (by omega) (by omega)
    ·cases heq
     rw [Gc hp',if_pos rfl]
     exact Fu (Nat.le_refl _)
 ·rw [if_pos (by simpa using he)]
  exact ⟨e,c1,rfl,h2,hc1,h4,b1,h5,h6,h7,fun h=>absurd h he⟩
theorem Ag3 {a to':Nat} {bs bt:Blk} {c:Chip} {count:Nat} {more:List Pg} {B:Int} (hne:a≠to') (hl:more.length≤1) (h8:count+more.length≤8) (up:Up c) (ha:c.blocks[a]? =some bs) (hb:c.blocks[to']? =some bt) (hbad:bt.bad=false) (hc:Cnt c B) (hB:B+200<8000000000000000000) :
  ∃ e c',I0 c (a:Nat) (to':Nat) count more=(e,c')∧Fr to' c c'∧Cnt c' (B+10)∧OutW c c' e∧∃ b',c'.blocks[to']? =some b'∧BI b'∧b'.bad=false∧(e=0→M0 bs b' count more):=by
 obtain ⟨e,c1,h1,h2,h3⟩:=Nj up hb hbad hc (by omega)
 obtain ⟨b1,k1,k2,k3,k4,k5⟩:=h2.blk
 unfold I0
 rw [h1]
 rcases h2.how with ⟨rfl,q1,q2⟩ | ⟨rfl,q1,q2⟩ | ⟨rfl,q1⟩
 ·rw [if_neg (by simp)]
  exact ⟨30,c1,rfl,h2.fr,⟨by have:=h3.p0;omega,by have:=h3.w0;omega⟩,.inl ⟨rfl,q1,q2⟩,b1,k1,k2,k3.trans hbad,fun h=>by cases h⟩
 ·rw [if_neg (by simp)]
  exact ⟨33,c1,rfl,h2.fr,⟨by have:=h3.p0;omega,by have:=h3.w0;omega⟩,.inr (.inl ⟨rfl,up.of h2.fr.dead h2.fr.out q1,by have:=h2.fr.fp;omega⟩),b1,k1,k2,k3.trans hbad,fun h=>by cases h⟩
 ·rw [if_pos rfl]
  have up1:=up.of h2.fr.dead h2.fr.out q1
  obtain ⟨e2,c2,r1,r2,r3,r4,b2,r5,r6,r7,r8⟩:=Acx (bs:=bs) (count:=count) (more:=more) hne hl h8 up1 (by rw [h2.fr.oth a hne];exact ha) k1 (k3.trans hbad) k2 (k5 rfl) h3 (by omega)
  exact ⟨e2,c2,r1,h2.fr.trans r2,⟨by have:=r3.p0;omega,by have:=r3.w0;omega⟩,OutW.step h2.fr (r4.w r2),b2,r5,r6,r7,r8⟩
end
section
open Go.K
structure DI (c:Chip) (t:TS) (n k:Nat):Prop where
 up:Up c
 ti:TI c t
 wf:WF n t.uses t.lost
 len:c.blocks.length=n
 bs:AllB c
 cnt:Cnt c (1000*k+1000)
 ver:t.version.toNat≤k+1
theorem DI.wt {c:Chip} {t:TS} {n k:Nat} (h:DI c t n k):WT n t:=by
 obtain ⟨a,h1,h2,b,h3,h4,h5⟩:=h.ti
 have:=h2.a2
 exact ⟨h.wf,h4,by omega⟩
theorem DI.mono {c:Chip} {t:TS} {n k k':Nat} (h:DI c t n k) (hk:k≤k'):DI c t n k' :=
 ⟨h.up,h.ti,h.wf,h.len,h.bs,⟨by have:=h.cnt.p0;omega,by have:=h.cnt.w0;omega⟩,by have:=h.ver;omega⟩
theorem DI.keep {c:Chip} {t:TS} {n k:Nat} {u lost:List Int} {e:Int} {t':TS} {c':Chip} (h:DI c t n k) (hk:k≤1000000000000) (hfp:FP c≤7) (hfw:FW c≤3) (hw:WF n u lost) (hr:(e,t',c')=B6 t u lost c) :
  Fr2 c c'∧((e=0∧DI c' t' n (k+1)∧t'.uses=u∧t'.lost=lost) ∨
   (e=30∧c'.off=true∧¬ c.after<0∧t'=t∧Cnt c' (1000*((k+1:Nat):Int)+1000)∧AllB c'∧∃ v uu ll a,v≤k+2∧Hold c' v uu ll a∧WF n uu ll∧((uu=t.uses∧ll=t.lost)∨(uu=u∧ll=lost)))):=by
 obtain ⟨e2,t2,c2,h1,h2,h3,h4⟩:=Ais (u:=u) (l:=lost) (B:=1000*k+1000) h.up h.ti (by have:=h.ver;omega) (by rw [h.len];exact hw.okP) hfp hfw h.cnt (by omega)
 rw [h1] at hr
 simp only [Prod.mk.injEq] at hr
 obtain ⟨rfl,rfl,rfl⟩:=hr
 have p:=h3.p0
 have q:=h3.w0
 have hc:Cnt c' (1000*((k+1:Nat):Int)+1000):=⟨by push_cast;omega,by push_cast;omega⟩
 have hv:=h.ver
 refine ⟨h2,?_⟩
 rcases h4 with ⟨h5,h6,h7,h8,h9,h10⟩ | ⟨h5,h6,h7,h8,h9⟩
 ·have h7k:=h7
  obtain ⟨a,_,hh,_⟩:=h7k
  exact .inl ⟨h5,⟨h6,h7,by rw [h8,h9];exact hw,h2.len.trans h.len,h.bs.keep h2 hh,hc,by omega⟩,h8,h9⟩
 ·refine .inr ⟨h5,h6,h7,h8,hc,?_⟩
  rcases h9 with ⟨a,hh⟩ | ⟨a,hh⟩
  ·exact ⟨h.bs.keep h2 hh,_,_,_,a,by omega,hh,h.wf,.inl ⟨rfl,rfl⟩⟩
  ·exact ⟨h.bs.keep h2 hh,_,_,_,a,by omega,hh,hw,.inr ⟨rfl,rfl⟩⟩
theorem DI.far {c c':Chip} {t:TS} {n k i:Nat} {b:Blk} (h:DI c t n k) (hi:2≤i) (f:Fr i c c') (up:Up c') (hb:c'.blocks[i]? =some b) (h1:BI b) (h2:b.bad=false) (hc:Cnt c' (1000*k+1000+10)):DI c' t n (k+1) :=
 ⟨up,h.ti.far hi f,h.wf,f.len.trans h.len,h.bs.far f hb h1 h2,⟨by have:=hc.p0;push_cast;omega,by have:=hc.w0;push_cast;omega⟩,by have:=h.ver;omega⟩
theorem Ve {c:Chip} {n k v a:Nat} {u l:List Int} (up:Up c) (h:Hold c v u l a) (hw:WF n u l) (hl:c.blocks.length=n) (hb:AllB c) (hc:Cnt c (1000*k+1000)) (hv:v≤k+1):∃ t,Dj c=(0,t)∧DI c t n k∧t.uses=u∧t.lost=l:=by
 obtain ⟨t,h1,h2,h3,h4,h5⟩:=Ait up h
 exact ⟨t,h1,⟨up,h2,by rw [h3,h4];exact hw,hl,hb,hc,by omega⟩,h3,h4⟩
end
section
open Go.K
def SameU (u:List Int) (c c':Chip):Prop:=∀ x∈u,c'.blocks[x.toNat]? =c.blocks[x.toNat]?
structure FrA (c c':Chip):Prop where
  len:c'.blocks.length=c.blocks.length
  dead:c'.dead=c.dead
  out:c'.out=c.out
  aP:c'.aP=c.aP
  aC:c'.aC=c.aC
  aB:c'.aB=c.aB
  pf:c'.pf=c.pf
  wf:c'.wf=c.wf
  fp:FP c'≤FP c
  fw:FW c'≤FW c
  pos:c.after<0→c'.after=c.after∧c'.off=c.off
  keep:c'.keep=c.keep
theorem FrA.refl (c:Chip):FrA c c:=⟨rfl,rfl,rfl,rfl,rfl,rfl,rfl,rfl,Nat.le_refl _,Nat.le_refl _,fun _=>⟨rfl,rfl⟩,rfl⟩
theorem Fr.all {a:Nat} {c c':Chip} (h:Fr a c c'):FrA c c':=⟨h.len,h.dead,h.out,h.aP,h.aC,h.aB,h.pf,h.wf,h.fp,h.fw,h.pos,h.keep⟩
theorem Fr2.all {c c':Chip} (h:Fr2 c c'):FrA c c':=⟨h.len,h.dead,h.out,h.aP,h.aC,h.aB,h.pf,h.wf,h.fp,h.fw,h.pos,h.keep⟩
theorem FrA.trans {c c' c'':Chip} (h:FrA c c') (k:FrA c' c''):FrA c c'' :=
  ⟨k.len.trans h.len,k.dead.trans h.dead,k.out.trans h.out,k.aP.trans h.aP,k.aC.trans h.aC,k.aB.trans h.aB,k.pf.trans h.pf,k.wf.trans h.wf,Nat.le_trans k.fp h.fp,Nat.le_trans k.fw h.fw,
    fun hp=>by
      obtain ⟨h1,h2⟩:=h.pos hp
      obtain ⟨h3,h4⟩:=k.pos (by omega)
      exact ⟨h3.trans h1,h4.trans h2⟩,k.keep.trans h.keep⟩
def Xj (n k:Nat) (b:Int) (count:Nat) (more:List Pg) (bs:Blk) (c:Chip) (t:TS) (r:Int×TS×Chip):Prop :=
  FrA c r.2.2∧SameU t.uses c r.2.2 ∧
  ((r.1=34∧DI r.2.2 r.2.1 n k∧r.2.1.uses=t.uses∧(Bu r.2.1 n).2=false∧r.2.1.lost.length+FP r.2.2+FW r.2.2≤t.lost.length+FP c+FW c) ∨
   (r.1=0∧DI r.2.2 r.2.1 n k∧r.2.1.lost.length+FP r.2.2+FW r.2.2≤t.lost.length+FP c+FW c+1∧t.lost.length+1≤r.2.1.lost.length∧∃ (x:Nat) (b':Blk),(x:Int)∉t.uses∧2≤x∧r.2.1.uses=t.uses.set b.toNat x∧r.2.2.blocks[x]? =some b'∧M0 bs b' count more) ∨
   (r.1=30∧r.2.2.off=true∧¬ c.after<0∧Cnt r.2.2 (1000*k+1000)∧AllB r.2.2∧∃ v uu ll a,v≤k+1∧ll.length+FP r.2.2+FW r.2.2≤t.lost.length+FP c+FW c+1∧Hold r.2.2 v uu ll a∧WF n uu ll∧(uu=t.uses∨∃ (x:Nat) (b':Blk),(x:Int)∉t.uses∧2≤x∧uu=t.uses.set b.toNat x∧r.2.2.blocks[x]? =some b'∧M0 bs b' count more)))
theorem SameU.trans {u:List Int} {c c' c'':Chip} (h:SameU u c c') (k:SameU u c' c''):SameU u c c'':=fun x hx=>(k x hx).trans (h x hx)
theorem SameU.far {u:List Int} {c c':Chip} {i:Nat} (f:Fr i c c') (h:∀ x∈u,0≤x) (hi:(i:Int)∉u):SameU u c c':=fun x hx=>f.oth _ (fun e=>hi (by have:=h x hx;rw [← e,Int.toNat_of_nonneg this];exact hx))
theorem SameU.two {u:List Int} {c c':Chip} (f:Fr2 c c') (h:∀ x∈u,2≤x):SameU u c c':=fun x hx=>f.oth _ (by have:=h x hx;omega)
end
section
open Go.K
theorem DI.try {c:Chip} {t:TS} {n k a:Nat} {bs:Blk} {count:Nat} {more:List Pg} {b e:Int} {c':Chip} (h:DI c t n k) (hk:k≤1000000000000) (hl:more.length≤1) (h8:count+more.length≤8) (hb:0≤b∧b<t.uses.length) (ha:at0 t.uses b=(a:Nat)) (hbs:c.blocks[a]? =some bs)
  (hs:(Bu t n).2=true) (ht:I0 c (atD t b) (Bu t n).1 count more=(e,c')) :
  ∃ x:Nat,(Bu t n).1=(x:Nat)∧2≤x∧(x:Int)∉t.uses∧Fr x c c'∧OutW c c' e∧SameU t.uses c c'∧Cnt c' (1000*k+1000+10)∧AllB c'∧∃ b',c'.blocks[x]? =some b'∧BI b'∧b'.bad=false∧(e=0→M0 bs b' count more):=by
 obtain ⟨s1,s2,s3,s4⟩:=Zn (Jh hs)
 obtain ⟨x,hx⟩:∃ x:Nat,(Bu t n).1=(x:Nat):=⟨(Bu t n).1.toNat,by omega⟩
 rw [hx] at s1 s2 s3 s4 ht
 have hat:atD t b=(a:Nat):=by
  unfold atD
  have:atT t b=(at0 t.uses b,true):=by
   unfold atT
   rw [if_neg (by simp;omega)]
  rw [this,if_pos rfl]
  exact ha
 have hmem:(a:Int)∈t.uses:=by rw [← ha];exact Ks hb
 have hne:a≠x:=fun e1=>s3 (by rw [← e1];exact hmem)
 have hlen:=h.len
 obtain ⟨bt,hbt⟩:∃ bt,c.blocks[x]? =some bt:=⟨_,List.getElem?_eq_getElem (by omega)⟩
 obtain ⟨hbi,hbad⟩:=h.bs x bt hbt
 obtain ⟨e2,c2,r1,r2,r3,r4,b',r5,r6,r7,r8⟩:=Ag3 (bs:=bs) (count:=count) (more:=more) (B:=1000*k+1000) hne hl h8 h.up hbs hbt hbad h.cnt (by omega)
 rw [hat,r1] at ht
 simp only [Prod.mk.injEq] at ht
 obtain ⟨rfl,rfl⟩:=ht
 exact ⟨x,hx,by omega,s3,r2,r4,SameU.far r2 (fun y hy=>by have:=h.wf.us y hy;omega) s3,r3,h.bs.far r2 r5 r6 r7,b',r5,r6,r7,r8⟩
end
section
open Go.K
theorem Vf {n:Nat} {b:Int} {count:Nat} {more:List Pg} {c:Chip} {t:TS} {r:Int×TS×Chip} (hm:MoveR n b count more c t r) :
  ∀ (k a:Nat) (bs:Blk),DI c t n k→k+2*(FP c+FW c)≤900000000000→FP c+FW c≤3→more.length≤1→count+more.length≤8→0≤b∧b<t.uses.length→at0 t.uses b=(a:Nat)→c.blocks[a]? =some bs →
   Xj n (k+4*(FP c+FW c)+4) b count more bs c t r:=by
 induction hm with
 | none hs =>
  intro k a bs h hk hf hl h8 hb ha hbs
  exact ⟨.refl _,fun x hx=>rfl,.inl ⟨rfl,h.mono (by omega),rfl,hs,by simp only;omega⟩⟩
 | @err c t e c' hs ht he he3 =>
  intro k a bs h hk hf hl h8 hb ha hbs
  obtain ⟨x,_,hx2,hxu,f,ho,hS,hc,hA,_⟩:=h.try (by omega) hl h8 hb ha hbs hs ht
  obtain ⟨a0,_,hh,_⟩:=h.ti
  rcases ho with ⟨h1,h2,h3⟩ | ⟨h1,_⟩ | ⟨h1,_⟩
  ·exact ⟨f.all,hS,.inr (.inr ⟨h1,h2,h3,⟨by have:=hc.p0;simp only;push_cast;omega,by have:=hc.w0;simp only;push_cast;omega⟩,hA,_,_,_,a0,by have:=h.ver;omega,(by have:=f.fp;have:=f.fw;simp only;omega),hh.far hx2 f,h.wf,.inl rfl⟩)⟩
  ·exact absurd h1 he3
  ·exact absurd h1 he
 | @swap c t c' r hs ht hsw =>
  intro k a bs h hk hf hl h8 hb ha hbs
  obtain ⟨x,hx,hx2,hxu,f,ho,hS,hc,hA,b',hb',hbi,hbad,hfl⟩:=h.try (by omega) hl h8 hb ha hbs hs ht
  have upc:Up c':=by
   rcases ho with ⟨h1,_⟩ | ⟨h1,_⟩ | ⟨_,h1⟩
   ·cases h1
   ·cases h1
   ·exact h1
  have hD:=h.far hx2 f upc hb' hbi hbad hc
  have hsp:=Jh hs
  rw [hx] at hsp hsw
  have hat:(atT t b).2=true:=by
   unfold atT
   rw [if_neg (by simp;omega)]
  obtain ⟨lost,hp,hr⟩:=hsw.1 (by rw [hat,hD.len,hsp];rfl)
  have hw:=h.wf.swap hb hsp hp
  obtain ⟨e,t',c''⟩:=r
  have fp:=f.fp
  have fw:=f.fw
  obtain ⟨f2,hk2⟩:=hD.keep (by omega) (by omega) (by omega) hw hr
  have hb2:c''.blocks[x]? =some b':=by rw [f2.oth x hx2];exact hb'
  have hS2:=hS.trans (SameU.two f2 (fun y hy=>(h.wf.us y hy).1))
  have fp2:=f2.fp
  have fw2:=f2.fw
  rcases hk2 with ⟨h1,h2,h3,h4⟩ | ⟨h1,h2,h3,h4,h5,h6,v,uu,ll,a0,h7,h9,h10,h11⟩
  ·refine ⟨f.all.trans f2.all,hS2,.inr (.inl ⟨h1,h2.mono (by omega),?_,?_,x,b',hxu,hx2,h3,hb2,hfl rfl⟩)⟩
   ·simp only
    rw [h4,hp.length_eq]
    simp
    omega
   ·simp only
    rw [h4,hp.length_eq]
    simp
  ·refine ⟨f.all.trans f2.all,hS2,.inr (.inr ⟨h1,h2,fun hp=>h3 (by rw [(f.pos hp).1];exact hp),⟨by have:=h5.p0;simp only;push_cast at this ⊢;omega,by have:=h5.w0;simp only;push_cast at this ⊢;omega⟩,h6,v,uu,ll,a0,by omega,(by have:=f2.fp;have:=f2.fw;have:=f.fp;have:=f.fw;have:=hp.length_eq;simp only [List.length_append,List.length_singleton] at this ⊢;rcases h11 with ⟨_,e⟩ | ⟨_,e⟩ <;> rw [e] <;> omega),h9,h10,?_⟩)⟩
   rcases h11 with ⟨h12,_⟩ | ⟨h12,_⟩
   ·exact .inl h12
   ·exact .inr ⟨x,b',hxu,hx2,h12,hb2,hfl rfl⟩
 | @bad c t c' e t' c'' hs ht hlo he =>
  intro k a bs h hk hf hl h8 hb ha hbs
  obtain ⟨x,hx,hx2,hxu,f,ho,hS,hc,hA,b',hb',hbi,hbad,hfl⟩:=h.try (by omega) hl h8 hb ha hbs hs ht
  have upc:Up c':=by
   rcases ho with ⟨h1,_⟩ | ⟨_,h1,_⟩ | ⟨h1,_⟩
   ·cases h1
   ·exact h1
   ·cases h1
  have hD:=h.far hx2 f upc hb' hbi hbad hc
  have hsp:=Jh hs
  obtain ⟨lost,hp,hr⟩:=hlo.1 (by rw [hD.len];exact hsp)
  have hw:=h.wf.lose hsp hp
  have fp:=f.fp
  have fw:=f.fw
  obtain ⟨f2,hk2⟩:=hD.keep (by omega) (by omega) (by omega) hw hr
  have hS2:=hS.trans (SameU.two f2 (fun y hy=>(h.wf.us y hy).1))
  rcases hk2 with ⟨h1,_⟩ | ⟨h1,h2,h3,h4,h5,h6,v,uu,ll,a0,h7,h9,h10,h11⟩
  ·exact absurd h1 he
  ·refine ⟨f.all.trans f2.all,hS2,.inr (.inr ⟨h1,h2,fun hp=>h3 (by rw [(f.pos hp).1];exact hp),⟨by have:=h5.p0;simp only;push_cast at this ⊢;omega,by have:=h5.w0;simp only;push_cast at this ⊢;omega⟩,h6,v,uu,ll,a0,by omega,(by have:=f2.fp;have:=f2.fw;have:=f.fp;have:=f.fw;have:=hp.length_eq;simp only [List.length_append,List.length_singleton] at this ⊢;rcases h11 with ⟨_,e⟩ | ⟨_,e⟩ <;> rw [e] <;> omega),h9,h10,?_⟩)⟩
   rcases h11 with ⟨h12,_⟩ | ⟨h12,_⟩
   ·exact .inl h12
   ·exact .inl h12
 | @again c t c' t' c'' r hs ht hlo _ ih =>
  intro k a bs h hk hf hl h8 hb ha hbs
  obtain ⟨x,hx,hx2,hxu,f,ho,hS,hc,hA,b',hb',hbi,hbad,hfl⟩:=h.try (by omega) hl h8 hb ha hbs hs ht
  have upc:Up c'∧FP c'+FW c'+1≤FP c+FW c:=by
   rcases ho with ⟨h1,_⟩ | ⟨_,h1⟩ | ⟨h1,_⟩
   ·cases h1
   ·exact h1
   ·cases h1
  have hD:=h.far hx2 f upc.1 hb' hbi hbad hc
  have hsp:=Jh hs
  obtain ⟨lost,hp,hr⟩:=hlo.1 (by rw [hD.len];exact hsp)
  have hw:=h.wf.lose hsp hp
  have hf1:=upc.2
  obtain ⟨f2,hk2⟩:=hD.keep (by omega) (by omega) (by omega) hw hr
  have hS2:=hS.trans (SameU.two f2 (fun y hy=>(h.wf.us y hy).1))
  have fp2:=f2.fp
  have fw2:=f2.fw
  have hmem:(a:Int)∈t.uses:=by rw [← ha];exact Ks hb
  rcases hk2 with ⟨_,h2,h3,h4⟩ | ⟨h1,_⟩
  ·have hbs2:c''.blocks[a]? =some bs:=by
    have:=hS2 _ hmem
    rw [Int.toNat_natCast] at this
    rw [this];exact hbs
   have hll:t'.lost.length=t.lost.length+1:=by rw [h4,hp.length_eq];simp
   obtain ⟨g0,g1,g2⟩:=ih (k+2) a bs h2 (by omega) (by omega) hl h8 (by rw [h3];exact hb) (by rw [h3];exact ha) hbs2
   rw [h3] at g1 g2
   refine ⟨(f.all.trans f2.all).trans g0,hS2.trans g1,?_⟩
   rcases g2 with ⟨q1,q2,q3,q4,q5⟩ | ⟨q1,q2,q3,q3',q4⟩ | ⟨q1,q2,q3,q4,q5,v,uu,ll,a0,q6,q6',q7⟩
   ·exact .inl ⟨q1,q2.mono (by omega),q3,q4,by omega⟩
   ·exact .inr (.inl ⟨q1,q2.mono (by omega),by omega,by omega,q4⟩)
   ·exact .inr (.inr ⟨q1,q2,fun hp=>q3 (by rw [(f2.pos (by rw [(f.pos hp).1];exact hp)).1,(f.pos hp).1];exact hp),⟨by have:=q4.p0;omega,by have:=q4.w0;omega⟩,q5,v,uu,ll,a0,by omega,by omega,q7⟩)
  ·cases h1
end
section
open Go.K
theorem Xk {t:TS} {b:Int} {a:Nat} (hb:0≤b∧b<t.uses.length) (ha:at0 t.uses b=(a:Nat)):atD t b=(a:Nat):=by
  unfold atD
  have:atT t b=(at0 t.uses b,true):=by
    unfold atT
    rw [if_neg (by simp;omega)]
  rw [this,if_pos rfl]
  exact ha
theorem Ps {c:Chip} {t:TS} {n k a j:Nat} {b:Int} {bs:Blk} {p:Pg} {r:Int×TS×Chip} (h:DI c t n k) (hk:k≤800000000000) (hf:FP c+FW c≤3) (hb:0≤b∧b<t.uses.length) (ha:at0 t.uses b=(a:Nat)) (hbs:c.blocks[a]? =some bs) (hj:j<8) (hn:bs.next=j) (hr:Qy n b j p c t r) :
    ∃ m c1,Fr a c c1∧c1.blocks[a]? =some (wrK bs j (Cu m A0 p))∧AllB c1 ∧
      ((c1.off=true∧¬ c.after<0∧r=(30,t,c1)∧Cnt c1 (1000*((k+1:Nat):Int)+1000)) ∨
       (m=129∧(B1 c (atD t b) j p).1=33∧DI c1 t n (k+1)∧FP c1+1≤FP c∧Xj n (k+1+4*(FP c1+FW c1)+4) b j [p] (wrK bs j (Cu 129 A0 p)) c1 t r) ∨
       (m=258∧B1 c (atD t b) j p=(0,c1)∧DI c1 t n (k+1)∧r=(0,t,c1))):=by
  obtain ⟨hbi,hbad⟩:=h.bs a bs hbs
  have hat:=Xk hb ha
  have ha2:2≤a:=by have:=h.wf.us _ (Ks hb);rw [ha] at this;omega
  obtain ⟨e,m,c1,p1,f,hc,hblk,hcase⟩:=Pr (d:=p) (B:=1000*k+1000) h.up hbs hj hbad hbi hn h.cnt (by omega)
  have hbi':=Yu (q:=Cu m A0 p) hbi hj hn
  have hA:=h.bs.far f hblk hbi' hbad
  obtain ⟨r1,r2⟩:=hr
  rw [hat,p1] at r1 r2
  have hc1:Cnt c1 (1000*k+1000+10):=⟨by have:=hc.p0;omega,by have:=hc.w0;omega⟩
  refine ⟨m,c1,f,hblk,hA,?_⟩
  rcases hcase with ⟨rfl,h1,h2⟩ | ⟨rfl,rfl,h2,h3⟩ | ⟨rfl,rfl,h2⟩
  · exact .inl ⟨h1,h2,r2 (show ¬ (30:Int)=33 by decide),⟨by have:=hc.p0;push_cast;omega,by have:=hc.w0;push_cast;omega⟩⟩
  · have hD:=h.far ha2 f h2 hblk hbi' hbad hc1
    have fw:=f.fw
    have hM:MoveR n b j [p] c1 t r:=by
      have:=r1 rfl
      rwa [Int.toNat_natCast] at this
    exact .inr (.inl ⟨rfl,by rw [hat,p1],hD,h3,Vf hM (k+1) a _ hD (by omega) (by omega) (by simp) (by simp;omega) hb ha hblk⟩)
  · exact .inr (.inr ⟨rfl,by rw [hat,p1],h.far ha2 f h2 hblk hbi' hbad hc1,r2 (show ¬ (0:Int)=33 by decide)⟩)
end
section
open Go.K
theorem Sm {c:Chip} {t:TS} {n k a:Nat} {b:Int} {bs:Blk} {r:Int×TS×Chip} (h:DI c t n k) (hk:k≤800000000000) (hf:FP c+FW c≤3) (hb:0≤b∧b<t.uses.length) (ha:at0 t.uses b=(a:Nat)) (hbs:c.blocks[a]? =some bs) (hr:Pq n b c t r) :
    ∃ b1 c1,Fr a c c1∧c1.blocks[a]? =some b1∧BI b1∧AllB c1∧(∀ (j:Nat) (h:j<8),b1.pages[j]=A0∨b1.pages[j]=bs.pages[j]) ∧
      ((c1.off=true∧¬ c.after<0∧r=(30,t,c1)∧Cnt c1 (1000*((k+1:Nat):Int)+1000)) ∨
       (DI c1 t n (k+1)∧FW c1+1≤FW c∧Xj n (k+1+4*(FP c1+FW c1)+4) b 0 [] b1 c1 t r) ∨
       (DI c1 t n (k+1)∧b1.next=0∧r=(0,t,c1))):=by
  obtain ⟨hbi,hbad⟩:=h.bs a bs hbs
  have hat:=Xk hb ha
  have ha2:2≤a:=by have:=h.wf.us _ (Ks hb);rw [ha] at this;omega
  obtain ⟨e,c1,p1,p2,hc⟩:=Nj (B:=1000*k+1000) h.up hbs hbad h.cnt (by omega)
  obtain ⟨b1,k1,k2,k3,k4,k5⟩:=p2.blk
  have hA:=h.bs.far p2.fr k1 k2 (k3.trans hbad)
  obtain ⟨r1,r2⟩:=hr
  rw [hat,p1] at r1 r2
  have hc1:Cnt c1 (1000*k+1000+10):=⟨by have:=hc.p0;omega,by have:=hc.w0;omega⟩
  refine ⟨b1,c1,p2.fr,k1,k2,hA,k4,?_⟩
  rcases p2.how with ⟨rfl,h1,h2⟩ | ⟨rfl,h1,h2⟩ | ⟨rfl,h1⟩
  · exact .inl ⟨h1,h2,r2 (show ¬ (30:Int)=33 by decide),⟨by have:=hc.p0;push_cast;omega,by have:=hc.w0;push_cast;omega⟩⟩
  · have hD:=h.far ha2 p2.fr (h.up.of p2.fr.dead p2.fr.out h1) k1 k2 (k3.trans hbad) hc1
    have fp:=p2.fr.fp
    have hM:MoveR n b 0 [] c1 t r:=r1 rfl
    exact .inr (.inl ⟨hD,h2,Vf hM (k+1) a _ hD (by omega) (by omega) (by simp) (by simp) hb ha k1⟩)
  · exact .inr (.inr ⟨h.far ha2 p2.fr (h.up.of p2.fr.dead p2.fr.out h1) k1 k2 (k3.trans hbad) hc1,k5 rfl,r2 (show ¬ (0:Int)=33 by decide)⟩)
end
section
open Go.K
theorem Ag4 {c:Chip} {t:TS} {n k a j:Nat} {b:Int} {bs:Blk} (h:DI c t n k) (hb:0≤b∧b<t.uses.length) (ha:at0 t.uses b=(a:Nat)) (hbs:c.blocks[a]? =some bs) (hj:j<8):Aww c (atD t b) j=0∧B0 c (atD t b) j=bs.pages[j]:=by
 have hi:a<c.blocks.length:=(List.getElem?_eq_some_iff.1 hbs).1
 rw [Xk hb ha]
 have hm:=Abo h.up hi hj
 exact ⟨hm,Ot hm hbs hj⟩
end
section
open Go.K
theorem Zw {n:Nat} {t:TS} (h:WF n t.uses t.lost) (hs:(Bu t n).2=false):4≤t.lost.length:=by
 have hall:∀ x:Int,2≤x→x<n→x∈t.uses++t.lost:=fun x h1 h2=>by
  have hsp:D5 t n x=false:=by
   unfold Bu at hs
   cases hu:Ko t n with
   | some b=>rw [hu] at hs;cases hs
   | none =>
    unfold Ko at hu
    have:=List.find?_eq_none.1 hu x.toNat (List.mem_range.2 (by omega))
    rw [Int.toNat_of_nonneg (by omega)] at this
    simpa using this
  unfold D5 at hsp
  rw [List.mem_append]
  cases h3:E3 t.uses x with
  | true=>exact .inl (has_mem.1 h3)
  | false =>
   cases h4:E3 t.lost x with
   | true=>exact .inr (has_mem.1 h4)
   | false =>
    rw [h3,h4] at hsp
    simp at hsp
    omega
 have h1:=h.n1
 have:=Fs (l:=(List.range (n - 2)).map fun i=>((i:Nat):Int)+2) (m:=t.uses++t.lost) (by
  rw [List.nodup_iff_pairwise_ne,List.pairwise_map]
  exact (List.nodup_iff_pairwise_ne.1 List.nodup_range).imp fun hne e=>hne (by omega)) (fun x hx=>by
   obtain ⟨i,hi,rfl⟩:=List.mem_map.1 hx
   have:=List.mem_range.1 hi
   exact hall _ (by omega) (by omega))
 have h2:=h.len
 simp at this
 omega
end
section
open Go.K
end
section
open Go.K
structure DV (c:Chip) (t:TS) (n k:Nat) (V:Nat→Blk):Prop where
 di:DI c t n k
 vw:∀ l:Nat,l+6<n→c.blocks[(at0 t.uses (l:Nat)).toNat]? =some (V l)
def upV (V:Nat→Blk) (b:Nat) (v:Blk):Nat→Blk:=fun l=>if l=b then v else V l
theorem E5 (V:Nat→Blk) (b:Nat) (v:Blk):upV V b v b=v:=if_pos rfl
theorem K7 {V:Nat→Blk} {b l:Nat} {v:Blk} (h:l≠b):upV V b v l=V l:=if_neg h
theorem DV.mono {c:Chip} {t:TS} {n k k':Nat} {V:Nat→Blk} (h:DV c t n k V) (hk:k≤k'):DV c t n k' V:=⟨h.di.mono hk,h.vw⟩
theorem JI.di {c:Chip} {t:TS} {u:List Int} {l:List Bool} {n:Nat} (h:JI c t u l n 0) (hb:∀ i,2≤i→i<n→c.blocks[i]? =some (Gz false)):DV c t n 0 fun _=>Gz false:=by
 have hU:∀ l:Nat,l+6<n→2≤at0 t.uses (l:Nat)∧at0 t.uses (l:Nat)<n:=fun l hl=>by
  have:=h.wf.us _ (Ks (l:=t.uses) (i:=(l:Nat)) (by have:=h.wf.len;omega))
  exact ⟨this.1,this.2.1⟩
 refine ⟨⟨h.up,h.ti,h.wf,h.len,fun i b hi=> ?_,h.cnt,h.ver⟩,fun l hl=> ?_⟩
 ·by_cases e:i<2
  ·obtain ⟨a,_,hh,_⟩:=h.ti
   obtain ⟨b2,h1,h2,h3⟩:=hh.bs i e
   rw [h1] at hi
   cases hi
   exact ⟨h2,h3⟩
  ·have hl:i<n:=by
    have:=(List.getElem?_eq_some_iff.1 hi).1
    have:=h.len
    omega
   rw [hb i (by omega) hl] at hi
   cases hi
   refine ⟨⟨by simp [Gz],fun j hj _=>by simp [Gz]⟩,rfl⟩
 ·have:=hU l hl
  exact hb _ (by omega) (by omega)
theorem Xl {u:List Int} (h:u.Nodup) {l m:Nat} (hl:l<u.length) (hm:m<u.length) (e:at0 u (l:Nat)=at0 u (m:Nat)):l=m:=by
 have h1:at0 u (l:Nat)=u[l]:=by simp [at0,List.getD_eq_getElem?_getD,hl]
 have h2:at0 u (m:Nat)=u[m]:=by simp [at0,List.getD_eq_getElem?_getD,hm]
 rw [h1,h2] at e
 have hp:=List.pairwise_iff_getElem.1 (List.nodup_iff_pairwise_ne.1 h)
 rcases Nat.lt_trichotomy l m with h3 | h3 | h3
 ·exact absurd e (hp l m hl hm h3)
 ·exact h3
 ·exact absurd e.symm (hp m l hm hl h3)
theorem Xm {u:List Int} {b l:Nat} {x:Int} (hb:b<u.length):at0 (u.set b x) (l:Nat)=if l=b then x else at0 u (l:Nat):=by
 unfold at0
 rw [Int.toNat_natCast,List.getD_eq_getElem?_getD,List.getD_eq_getElem?_getD,List.getElem?_set]
 by_cases e:l=b
 ·subst e;simp [hb]
 ·rw [if_neg (fun h=>e h.symm),if_neg e]
section
variable {c:Chip} {t:TS} {n k:Nat} {V:Nat→Blk}
theorem DV.us (h:DV c t n k V) {l:Nat} (hl:l+6<n):2≤at0 t.uses (l:Nat)∧at0 t.uses (l:Nat)<n∧l<t.uses.length:=by
 have h1:=h.di.wf.len
 have:=h.di.wf.us _ (Ks (l:=t.uses) (i:=(l:Nat)) (by omega))
 exact ⟨this.1,this.2.1,by omega⟩
theorem DV.act {c':Chip} {k':Nat} {b:Nat} {v:Blk} (h:DV c t n k V) (hb:b+6<n) (f:Fr (at0 t.uses (b:Nat)).toNat c c') (hv:c'.blocks[(at0 t.uses (b:Nat)).toNat]? =some v) (hd:DI c' t n k'):DV c' t n k' (upV V b v):=by
 refine ⟨hd,fun l hl=> ?_⟩
 by_cases e:l=b
 ·subst e;rw [E5];exact hv
 ·rw [K7 e,f.oth _ (fun e2=>e ?_)]
  ·exact h.vw l hl
  ·have h1:=h.us hl
   have h2:=h.us hb
   exact Xl h.di.wf.un h1.2.2 h2.2.2 (by omega)
theorem Pt {c c':Chip} {t:TS} {x l:Nat} (h:SameU t.uses c c') (hl:l<t.uses.length):c'.blocks[(at0 t.uses (l:Nat)).toNat]? =c.blocks[(at0 t.uses (l:Nat)).toNat]? :=h _ (Ks (by omega))
theorem DV.moved {c':Chip} {t':TS} {k':Nat} {b x:Nat} {v:Blk} (h:DV c t n k V) (hb:b+6<n) (hS:SameU t.uses c c') (hu:t'.uses=t.uses.set b x) (hv:c'.blocks[x]? =some v) (hd:DI c' t' n k'):DV c' t' n k' (upV V b v):=by
 refine ⟨hd,fun l hl=> ?_⟩
 have h1:=h.us hl
 have h2:=h.us hb
 rw [hu,Xm h2.2.2]
 by_cases e:l=b
 ·subst e;rw [E5,if_pos rfl];exact hv
 ·rw [K7 e,if_neg e,Pt (x:=0) hS h1.2.2]
  exact h.vw l hl
theorem DV.stay {c':Chip} {t':TS} {k':Nat} (h:DV c t n k V) (hS:SameU t.uses c c') (hu:t'.uses=t.uses) (hd:DI c' t' n k'):DV c' t' n k' V:=by
 refine ⟨hd,fun l hl=> ?_⟩
 have h1:=h.us hl
 rw [hu,Pt (x:=0) hS h1.2.2]
 exact h.vw l hl
end
def Later (c:Chip) (n k m:Nat) (V:Nat→Blk):Prop :=
 ∀ d:Chip,d.blocks=c.blocks→Up d→d.pc=c.pc→d.wc=c.wc→∃ t2,Dj d=(0,t2)∧DV d t2 n k V∧t2.lost.length+FP c+FW c≤m
theorem AllB.same {c c':Chip} (h:AllB c) (hb:c'.blocks=c.blocks):AllB c':=fun i b hi=>h i b (by rw [← hb];exact hi)
theorem Ji {c:Chip} {n k m v a:Nat} {u l:List Int} {V:Nat→Blk} (h:Hold c v u l a) (hw:WF n u l) (hl:c.blocks.length=n) (hb:AllB c) (hc:Cnt c (1000*k+1000)) (hv:v≤k+1) (hm:l.length+FP c+FW c≤m)
  (hV:∀ i:Nat,i+6<n→c.blocks[(at0 u (i:Nat)).toNat]? =some (V i)):Later c n k m V:=fun d h1 h2 h3 h4=>by
 obtain ⟨t,o1,o2,o3,o4⟩:=Ve h2 (h.same h1) hw (by rw [h1];exact hl) (hb.same h1) ⟨by rw [h3];exact hc.p0,by rw [h4];exact hc.w0⟩ hv
 exact ⟨t,o1,⟨o2,fun i hi=>by rw [o3,h1];exact hV i hi⟩,by rw [o4];exact hm⟩
def Rq (v w:Blk) (j:Nat):Prop:=∀ (i:Nat) (h:i<8),i<j→v.pages[i]=w.pages[i]∨v.pages[i]=Dv w.pages[i]
end
section
open Go.K
def PV (n k:Nat) (V:Nat→Blk) (b j:Nat) (p:Pg) (c:Chip) (t:TS) (r:Int×TS×Chip):Prop :=
  FrA c r.2.2∧∃ v:Blk,v.next=((j+1:Nat):Int)∧Rq v (V b) j ∧
  ((r.1=0∧DV r.2.2 r.2.1 n k (upV V b v)∧(∀ h:j<8,v.pages[j]=p)∧r.2.1.lost.length+FP r.2.2+FW r.2.2≤t.lost.length+FP c+FW c ∧
      (((B1 c (atD t (b:Nat)) j p).1=33∧t.lost.length+1≤r.2.1.lost.length∧∀ (i:Nat) (h:i<8),i<j→v.pages[i]=Dv (V b).pages[i])∨(B1 c (atD t (b:Nat)) j p=(0,r.2.2)∧r.2.1=t∧v=wrK (V b) j p))) ∨
   (r.1=34∧DV r.2.2 r.2.1 n k (upV V b v)∧4≤r.2.1.lost.length∧r.2.1.lost.length+FP r.2.2+FW r.2.2+1≤t.lost.length+FP c+FW c) ∨
   (r.1=30∧r.2.2.off=true∧¬ c.after<0∧(∃ m,∀ h:j<8,v.pages[j]=Cu m A0 p)∧Later r.2.2 n k (t.lost.length+FP c+FW c) (upV V b v)))
theorem Nu {w:Blk} {j:Nat} {q:Pg}:Rq (wrK w j q) w j:=fun i h hi=> .inl (by rw [Gc h,if_neg (by omega)])
theorem Q0 {w x v:Blk} {j:Nat} {more:List Pg} {q:Pg} (h:M0 (wrK w j q) v j more):Rq v w j:=fun i hi hlt=> .inr (by rw [h.2.1 i hi hlt,Gc hi,if_neg (by omega)])
theorem U2 {w x v:Blk} {j:Nat} {more:List Pg} {q:Pg} (h:M0 (wrK w j q) v j more):∀ (i:Nat) (h:i<8),i<j→v.pages[i]=Dv w.pages[i]:=fun i hi hlt=>by rw [h.2.1 i hi hlt,Gc hi,if_neg (by omega)]
theorem Pu (V:Nat→Blk) (b:Nat) (v w:Blk):upV (upV V b v) b w=upV V b w:=by
  funext l
  unfold upV
  split <;> rfl
theorem Ag5 {c:Chip} {t:TS} {n k b j:Nat} {V:Nat→Blk} {p:Pg} {r:Int×TS×Chip} (h:DV c t n k V) (hk:k≤700000000000) (hf:FP c+FW c≤3) (hb:b+6<n) (hj:j<8) (hn:(V b).next=j) (hr:Qy n (b:Nat) j p c t r):PV n (k+20) V b j p c t r:=by
  have hu:=h.us hb
  have hlen:=h.di.len
  obtain ⟨a,ha⟩:∃ a:Nat,at0 t.uses (b:Nat)=(a:Nat):=⟨(at0 t.uses (b:Nat)).toNat,by omega⟩
  have hva:=h.vw b hb
  have hta:(at0 t.uses (b:Nat)).toNat=a:=by omega
  rw [hta] at hva
  obtain ⟨m,c1,f,hw,hA,hcase⟩:=Ps h.di (by omega) hf (by omega) ha hva hj hn hr
  rcases hcase with ⟨h1,h2,rfl,h3⟩ | ⟨rfl,hpe,h1,h2,h0,hS,h3⟩ | ⟨rfl,hpe,h1,rfl⟩
  · refine ⟨f.all,wrK (V b) j (Cu m A0 p),by show (j:Int)+1=_;omega,Nu,.inr (.inr ⟨rfl,h1,h2,⟨m,fun hj'=>by rw [Gc hj',if_pos rfl]⟩,?_⟩)⟩
    obtain ⟨a0,_,hh,_⟩:=h.di.ti
    have fp:=f.fp
    have fw:=f.fw
    have hv:=h.di.ver
    refine Ji (hh.far (by omega) f) h.di.wf (f.len.trans hlen) hA ⟨by have:=h3.p0;push_cast at this ⊢;omega,by have:=h3.w0;push_cast at this ⊢;omega⟩ (by omega) (by simp only;omega) fun i hi=> ?_
    by_cases e:i=b
    · subst e;rw [E5,hta];exact hw
    · have hui:=h.us hi
      rw [K7 e,f.oth _ (fun e2=>e (Xl h.di.wf.un hui.2.2 hu.2.2 (by omega)))]
      exact h.vw i hi
  · have fw:=f.fw
    have hD:=h.act hb (by rw [hta];exact f) (by rw [hta];exact hw) h1
    refine ⟨f.all.trans h0,?_⟩
    rcases h3 with ⟨q1,q2,q3,q4,q5⟩ | ⟨q1,q2,q3,q4,x,b',q5,q6,q7,q8,q9⟩ | ⟨q1,q2,q3,q4,q5,v,uu,ll,a0,q6,q6',q7,q8,q9⟩
    · refine ⟨_,by show (j:Int)+1=_;omega,Nu,.inr (.inl ⟨q1,(hD.stay hS q3 q2).mono (by omega),Zw q2.wf q4,by omega⟩)⟩
    · refine ⟨b',by rw [q9.1];simp,Q0 (x:=b') q9,.inl ⟨q1,?_,fun hj'=>q9.2.2 p hj' rfl,by omega,.inl ⟨hpe,q4,U2 (x:=b') q9⟩⟩⟩
      have:=(hD.moved hb hS (by rw [Int.toNat_natCast] at q7;exact q7) q8 q2).mono (k':=k+20) (by omega)
      rwa [Pu] at this
    · have q3':¬ c.after<0:=fun hp=>q3 (by rw [(f.pos hp).1];exact hp)
      have hc':Cnt r.2.2 (1000*((k+20:Nat):Int)+1000):=⟨by have:=q4.p0;push_cast at this ⊢;omega,by have:=q4.w0;push_cast at this ⊢;omega⟩
      have hl':r.2.2.blocks.length=n:=h0.len.trans h1.len
      rcases q9 with q9 | ⟨x,b',r1,r2,r3,r4,r5⟩
      · refine ⟨_,by show (j:Int)+1=_;omega,Nu,.inr (.inr ⟨q1,q2,q3',⟨129,fun hj'=>by rw [Gc hj',if_pos rfl]⟩,?_⟩)⟩
        refine Ji q7 q8 hl' q5 hc' (by omega) (by omega) fun i hi=> ?_
        rw [q9,Pt (x:=0) hS (h.us hi).2.2]
        exact hD.vw i hi
      · refine ⟨b',by rw [r5.1];simp,Q0 (x:=b') r5,.inr (.inr ⟨q1,q2,q3',⟨258,fun hj'=>by rw [Fu (Nat.le_refl _)];exact r5.2.2 p hj' rfl⟩,?_⟩)⟩
        refine Ji q7 q8 hl' q5 hc' (by omega) (by omega) fun i hi=> ?_
        rw [r3,Int.toNat_natCast,Xm hu.2.2]
        by_cases e:i=b
        · subst e;rw [if_pos rfl,E5];exact r4
        · rw [if_neg e,K7 e,Pt (x:=0) hS (h.us hi).2.2,hD.vw i hi,K7 e]
  · refine ⟨f.all,_,by show (j:Int)+1=_;omega,Nu,.inl ⟨rfl,(h.act hb (by rw [hta];exact f) (by rw [hta];exact hw) h1).mono (by omega),fun hj'=>by rw [Gc hj',if_pos rfl];exact Fu (Nat.le_refl _),?_,.inr ⟨hpe,rfl,by rw [Fu (Nat.le_refl _)]⟩⟩⟩
    have fp:=f.fp
    have fw:=f.fw
    simp only
    omega
def EV (n k:Nat) (V:Nat→Blk) (b:Nat) (c:Chip) (t:TS) (r:Int×TS×Chip):Prop :=
  FrA c r.2.2∧∃ v:Blk,(∀ (j:Nat) (h:j<8),v.pages[j]=A0∨v.pages[j]=(V b).pages[j]) ∧
  ((r.1=0∧DV r.2.2 r.2.1 n k (upV V b v)∧v.next=0∧r.2.1.lost.length+FP r.2.2+FW r.2.2≤t.lost.length+FP c+FW c) ∨
   (r.1=34∧DV r.2.2 r.2.1 n k (upV V b v)∧4≤r.2.1.lost.length∧r.2.1.lost.length+FP r.2.2+FW r.2.2+1≤t.lost.length+FP c+FW c) ∨
   (r.1=30∧r.2.2.off=true∧¬ c.after<0∧Later r.2.2 n k (t.lost.length+FP c+FW c) (upV V b v)))
theorem DV.blk {c:Chip} {t:TS} {n k:Nat} {V:Nat→Blk} (h:DV c t n k V) {l:Nat} (hl:l+6<n):BI (V l)∧(V l).bad=false:=h.di.bs _ _ (h.vw l hl)
theorem BI.none {b:Blk} (h:BI b) (h0:b.next=0) (j:Nat) (hj:j<8):b.pages[j]=A0:=h.bl j hj (by omega)
theorem Acy {c:Chip} {t:TS} {n k b:Nat} {V:Nat→Blk} {r:Int×TS×Chip} (h:DV c t n k V) (hk:k≤700000000000) (hf:FP c+FW c≤3) (hb:b+6<n) (hr:Pq n (b:Nat) c t r):EV n (k+20) V b c t r:=by
  have hu:=h.us hb
  have hlen:=h.di.len
  obtain ⟨a,ha⟩:∃ a:Nat,at0 t.uses (b:Nat)=(a:Nat):=⟨(at0 t.uses (b:Nat)).toNat,by omega⟩
  have hva:=h.vw b hb
  have hta:(at0 t.uses (b:Nat)).toNat=a:=by omega
  rw [hta] at hva
  obtain ⟨b1,c1,f,hw,hbi,hA,hpg,hcase⟩:=Sm h.di (by omega) hf (by omega) ha hva hr
  rcases hcase with ⟨h1,h2,rfl,h3⟩ | ⟨h1,h2,h0,hS,h3⟩ | ⟨h1,h2,rfl⟩
  · refine ⟨f.all,b1,hpg,.inr (.inr ⟨rfl,h1,h2,?_⟩)⟩
    obtain ⟨a0,_,hh,_⟩:=h.di.ti
    have fp:=f.fp
    have fw:=f.fw
    have hv:=h.di.ver
    refine Ji (hh.far (by omega) f) h.di.wf (f.len.trans hlen) hA ⟨by have:=h3.p0;push_cast at this ⊢;omega,by have:=h3.w0;push_cast at this ⊢;omega⟩ (by omega) (by simp only;omega) fun i hi=> ?_
    by_cases e:i=b
    · subst e;rw [E5,hta];exact hw
    · have hui:=h.us hi
      rw [K7 e,f.oth _ (fun e2=>e (Xl h.di.wf.un hui.2.2 hu.2.2 (by omega)))]
      exact h.vw i hi
  · have fp:=f.fp
    have hD:=h.act hb (by rw [hta];exact f) (by rw [hta];exact hw) h1
    refine ⟨f.all.trans h0,?_⟩
    rcases h3 with ⟨q1,q2,q3,q4,q5⟩ | ⟨q1,q2,q3,q4,x,b',q5,q6,q7,q8,q9⟩ | ⟨q1,q2,q3,q4,q5,v,uu,ll,a0,q6,q6',q7,q8,q9⟩
    · exact ⟨b1,hpg,.inr (.inl ⟨q1,(hD.stay hS q3 q2).mono (by omega),Zw q2.wf q4,by omega⟩)⟩
    · have hb0:b'.next=0:=by rw [q9.1];rfl
      have hbi':=(q2.bs _ _ q8).1
      refine ⟨b',fun j hj=> .inl (hbi'.none hb0 j hj),.inl ⟨q1,?_,hb0,by omega⟩⟩
      have:=(hD.moved hb hS (by rw [Int.toNat_natCast] at q7;exact q7) q8 q2).mono (k':=k+20) (by omega)
      rwa [Pu] at this
    · have q3':¬ c.after<0:=fun hp=>q3 (by rw [(f.pos hp).1];exact hp)
      have hc':Cnt r.2.2 (1000*((k+20:Nat):Int)+1000):=⟨by have:=q4.p0;push_cast at this ⊢;omega,by have:=q4.w0;push_cast at this ⊢;omega⟩
      have hl':r.2.2.blocks.length=n:=h0.len.trans h1.len
      rcases q9 with q9 | ⟨x,b',r1,r2,r3,r4,r5⟩
      · refine ⟨b1,hpg,.inr (.inr ⟨q1,q2,q3',?_⟩)⟩
        refine Ji q7 q8 hl' q5 hc' (by omega) (by omega) fun i hi=> ?_
        rw [q9,Pt (x:=0) hS (h.us hi).2.2]
        exact hD.vw i hi
      · have hb0:b'.next=0:=by rw [r5.1];rfl
        have hbi':=(q5 _ _ r4).1
        refine ⟨b',fun j hj=> .inl (hbi'.none hb0 j hj),.inr (.inr ⟨q1,q2,q3',?_⟩)⟩
        refine Ji q7 q8 hl' q5 hc' (by omega) (by omega) fun i hi=> ?_
        rw [r3,Int.toNat_natCast,Xm hu.2.2]
        by_cases e:i=b
        · subst e;rw [if_pos rfl,E5];exact r4
        · rw [if_neg e,K7 e,Pt (x:=0) hS (h.us hi).2.2,hD.vw i hi,K7 e]
  · exact ⟨f.all,b1,hpg,.inl ⟨rfl,(h.act hb (by rw [hta];exact f) (by rw [hta];exact hw) h1).mono (by omega),h2,by have fp:=f.fp;have fw:=f.fw;simp only;omega⟩⟩
end
section
open Go.K
section
variable {c:Chip} {t:TS} {n k:Nat} {V:Nat→Blk} {b j:Int} {p:Pg} {r:Int×TS×Chip}
theorem Ajz (h:DV c t n k V) {b j:Nat} (hb:b+6<n) (hj:j<8) (hn:(V b).next≠j) (hr:Qy n (b:Nat) (j:Nat) p c t r):r=(32,t,c):=by
 have hu:=h.us hb
 have hv:=h.vw b hb
 have hat:atD t (b:Nat)=((at0 t.uses (b:Nat)).toNat:Nat):=Xk (by omega) (by omega)
 have hp:=Ww h.di.up (d:=p) hv hj hn
 rw [← hat] at hp
 have:=hr.2 (by rw [hp];simp)
 rw [hp] at this
 exact this
theorem Aj0 (h:DV c t n k V) {b j:Nat} (hb:b+6<n) (hj:j<8):Aww c (atD t (b:Nat)) j=0∧B0 c (atD t (b:Nat)) j=(V b).pages[j]:=by
 have hu:=h.us hb
 exact Ag4 h.di (by omega) (by omega) (h.vw b hb) hj
end
end
section
open Go.K
structure Dsk where
 dk:Nat
 t:Tab
 c:Chip
@[irreducible] def dkH (d:Dsk):Hp:=(d.dk,true,C [ptr d.c.aC,ptr d.t.b] tDk)::(Dk d.c.aC d.t++(chH d.c++[]))
theorem F7 (d:Dsk):dkH d=(d.dk,true,C [ptr d.c.aC,ptr d.t.b] tDk)::(Dk d.c.aC d.t++(chH d.c++[])):=by unfold dkH;rfl
def DD (d:Dsk) (n k:Nat) (V:Nat→Blk):Prop:=DV d.c d.t.ts n k V
theorem Ati (d:Dsk):∀ x∈chH d.c,x∈dkH d:=fun x hx=>by
 rw [F7]
 exact .tail _ (List.mem_append_right _ (List.mem_append_left _ hx))
section
variable {d:Dsk}
theorem Aj1:Does Tryz.prog 66 [ptr d.dk] (dkH d) (Is (.int .i64 d.t.u.list.length) (dkH d)):=by
 rw [F7];exact (Apf (a:=d.c.aC) (t:=d.t) (dk:=d.dk)).inIs sP aQ sP
theorem I6 {b k:Int}:Does Tryz.prog 100 [ptr d.dk,.int .i64 b,.int .i64 k] (dkH d)
  (Is (.tuple #[.agg (vbc (B0 d.c (atD d.t.ts b) k)).toArray,.int .i64 (Aww d.c (atD d.t.ts b) k)]) (dkH d)):=by
 rw [F7];exact (Zt (c:=d.c) (t:=d.t) (dk:=d.dk) rfl).inIs sP aQ sP
theorem Sn {n k:Nat} {V:Nat→Blk} (h:DD d n k V) {b j:Int} {p:Pg}:Does Tryz.prog 171 [ptr d.dk,.int .i64 b,.int .i64 j,.agg (vbc p).toArray] (dkH d)
  (fun v H=>∃ (t':Tab) (c':Chip) (e:Int),v= .int .i64 e∧H=dkH ⟨d.dk,t',c'⟩++[]∧Qy n b j p d.c d.t.ts (e,t'.ts,c')):=by
 rw [F7]
 refine (Zv (c:=d.c) (t:=d.t) (dk:=d.dk) (n:=n) rfl h.di.len h.di.wt).inn sP fun v Y ⟨t',e,c',h1,h2,h3,h4,h5⟩=> ?_
 refine ⟨_,⟨t',c',e,h2,rfl,h5⟩,?_⟩
 rw [h3,F7]
 simp only [h4,List.append_nil]
 exact ⟨_,_,aQ,sP⟩
theorem Aj2 {n k:Nat} {V:Nat→Blk} (h:DD d n k V) {b:Int}:Does Tryz.prog 170 [ptr d.dk,.int .i64 b] (dkH d)
  (fun v H=>∃ (t':Tab) (c':Chip) (e:Int),v= .int .i64 e∧H=dkH ⟨d.dk,t',c'⟩++[]∧Pq n b d.c d.t.ts (e,t'.ts,c')):=by
 rw [F7]
 refine (Ag1 (c:=d.c) (t:=d.t) (dk:=d.dk) (n:=n) rfl h.di.len h.di.wt).inn sP fun v Y ⟨t',e,c',h1,h2,h3,h4,h5⟩=> ?_
 refine ⟨_,⟨t',c',e,h2,rfl,h5⟩,?_⟩
 rw [h3,F7]
 simp only [h4,List.append_nil]
 exact ⟨_,_,aQ,sP⟩
end
theorem Aj3 (m:Nat):(Gy m []).countP id=0:=by
 unfold Gy
 rw [List.countP_map]
 exact List.countP_eq_zero.2 fun x _=>(show ¬ false=true from Bool.false_ne_true)
structure New0 (d:Dsk) (m:Nat):Prop where
 dd:DD d m 0 fun _=>Gz false
 pf:d.c.pf.list=[]
 wf:d.c.wf.list=[]
 af:d.c.after<0
 lost:d.t.ts.lost.length=0
 uses:d.t.ts.uses=Ns (Gy m []) ((m:Int) - 6) m
theorem Ag6 {pp aC aB m:Nat} (hm:16≤m∧m≤40) (hX:Vc (Gy m [])=false):Does Tryz.prog 84 [ptr aC] (chH (Du (-1) 0 pp aC aB m []))
  (fun v H=>∃ d:Dsk,v= .tuple #[ptr d.dk,.int .i64 0]∧H=dkH d++[]∧New0 d m):=by
 refine (Acw (pp:=pp) (aC:=aC) (aB:=aB) hm hX).mono fun v H ⟨dk,tb,c',h1,h2,h3,_,h4,h5⟩=> ?_
 refine ⟨⟨dk,tb,c'⟩,h1,by rw [F7,h2,← h3];simp,h4.di h5,h4.pf,h4.wfl,h4.af,?_,h4.rel.uu.symm⟩
 have:=h4.rel.count
 rw [Aj3] at this
 exact this.symm
theorem Atj {c:Chip} (h:c.pf.list=[]):FP c=0:=by unfold FP;rw [h];rfl
theorem Atk {c:Chip} (h:c.wf.list=[]):FW c=0:=by unfold FW;rw [h];rfl
end
section
open Go.K
def nF (p:Pg) (kind:By):Wd×Bool:=((C7 8 (Cg p).2.1 false).1,(decide ((Cg p).2.2.2=0) && decide (((Cg p).1.toNat:Int)=kind.toNat)) && decide (((Cg p).2.1.length:Int)=8))
def U3 (kind:By) (x:Wd):Pg:=Cw kind (Co 8 x)
theorem J9 {kind:By} (h:0<kind.toNat∧kind.toNat<255) (x:Wd):C6 kind (Co 8 x)=false:=by
 unfold C6
 rw [Bo]
 simp
 omega
theorem Atp {kind:By} (h:0<kind.toNat∧kind.toNat<255) (x:Wd):nF (U3 kind x) kind=(x,true):=by
 have hr:=Ig (J9 h x)
 unfold nF U3
 rw [hr]
 have h1:(Co 8 x).length=8:=Bo 8 x
 have h2:C7 8 (Co 8 x) false=(D9 (Co 8 x) 8,[],false):=by
  have:=Jz (k:=8) (xs:=Co 8 x) (r:=[]) (bad:=false) h1
  rwa [List.append_nil] at this
 simp [h2,Jy,h1]
theorem Akg {p:Pg} {kind:By} (h:(Cg p).2.2.2≠0):(nF p kind).2=false:=by
 unfold nF
 simp [h]
theorem Nw {kind:By}:(nF A0 kind).2=false:=Akg (by rw [E6 Ud];decide)
theorem Ih {kind:By} (h:0<kind.toNat∧kind.toNat<255) (x:Wd):Dv (U3 kind x)=U3 kind x:=Vd (J9 h x)
abbrev I7 (x:Wd):Pg:=U3 2 x
abbrev Nx (x:Wd):Pg:=U3 3 x
structure LB where
 wear:Wd
 known:Bool
 seq:Wd
 ready:Bool
 next:Int
def lbC (x:LB):List Value:=[wv x.wear,.bool x.known,wv x.seq,.bool x.ready,.int .i64 x.next]
instance:Cel LB:=⟨5,lbC,fun _=>rfl,fun _=>rfl⟩
def lbs (l:List LB):List Value:=l.flatMap lbC
def A9 (v:Blk) (i:Nat):Pg:=if h:i<8 then v.pages[i] else A0
def Fi (v:Blk):Nat→Nat
 | 0=>8
 | k+1=>if Fi v k=8 - k∧Bs (A9 v (7 - k))=true then 7 - k else Fi v k
def Ku (v:Blk):Nat:=Fi v 8
theorem Sr (v:Blk):∀ k,k≤8→8 - k≤Fi v k∧Fi v k≤8
 | 0,_=>⟨Nat.le_refl _,Nat.le_refl _⟩
 | k+1,h=>by
  have ih:=Sr v k (by omega)
  unfold Fi
  split <;> omega
@[irreducible] def Ce (v:Blk):LB:=⟨(nF (A9 v 0) 2).1,(nF (A9 v 0) 2).2,if (nF (A9 v 1) 3).2=true then (nF (A9 v 1) 3).1 else 0,false,if (nF (A9 v 1) 3).2=true then (Ku v:Int) else 8⟩
theorem Ss {v:Blk} {k:Nat} (h:Fi v k=8 - k) (hb:Bs (A9 v (7 - k))=false) (hk:k≤8):∀ m,k<m→m≤8→Fi v m=8 - k
 | 0,h1,_=>by omega
 | m+1,h1,h2=>by
  unfold Fi
  by_cases e:m=k
  ·subst e
   rw [if_neg (by rw [hb];simp)];exact h
  ·have ih:=Ss h hb hk m (by omega) (by omega)
   rw [ih,if_neg (by omega)]
theorem Z1 {v:Blk} {k:Nat} (h:Fi v k=8 - k) (hb:Bs (A9 v (7 - k))=true):Fi v (k+1)=7 - k:=by
 unfold Fi
 rw [if_pos ⟨h,hb⟩]
theorem St {v:Blk} {k:Nat} (h:Fi v k=8 - k) (hb:Bs (A9 v (7 - k))=false) (hk:k<8):Ku v=8 - k:=Ss h hb (by omega) 8 hk (Nat.le_refl _)
def bAt (bs:List LB) (b:Nat):LB:=bs.getD b ⟨0,false,0,false,0⟩
theorem Ry {bs:List LB} {b:Nat} {x:LB} (h:bs[b]? =some x):bAt bs b=x:=by simp [bAt,List.getD_eq_getElem?_getD,h]
theorem Ep {bs:List LB} {b:Nat} (h:b<bs.length):bs[b]? =some (bAt bs b):=by
 rw [List.getElem?_eq_getElem h]
 simp [bAt,List.getD_eq_getElem?_getD,h]
def Dw (bs:List LB):Nat→Int
 | 0=> -1
 | k+1=>if 0<(bAt bs k).seq.toNat∧(Dw bs k<0∨(bAt bs (Dw bs k).toNat).seq.toNat<(bAt bs k).seq.toNat) then k else Dw bs k
theorem Ka (bs:List LB):∀ k,(Dw bs k= -1∧∀ j<k,(bAt bs j).seq.toNat=0)∨(∃ l:Nat,Dw bs k=l∧l<k∧0<(bAt bs l).seq.toNat∧∀ j<k,(bAt bs j).seq.toNat≤(bAt bs l).seq.toNat)
 | 0=> .inl ⟨rfl,fun j hj=>by omega⟩
 | k+1=>by
  rcases Ka bs k with ⟨h1,h2⟩ | ⟨l,h1,h2,h3,h4⟩
  ·unfold Dw
   rw [h1]
   by_cases h:0<(bAt bs k).seq.toNat
   ·rw [if_pos ⟨h,.inl (by omega)⟩]
    refine .inr ⟨k,rfl,by omega,h,fun j hj=> ?_⟩
    by_cases e:j=k
    ·subst e;exact Nat.le_refl _
    ·rw [h2 j (by omega)];omega
   ·rw [if_neg (fun h5=>h h5.1)]
    refine .inl ⟨rfl,fun j hj=> ?_⟩
    by_cases e:j=k
    ·subst e;omega
    ·exact h2 j (by omega)
  ·unfold Dw
   rw [h1,Int.toNat_natCast]
   by_cases h:(bAt bs l).seq.toNat<(bAt bs k).seq.toNat
   ·rw [if_pos ⟨by omega,.inr h⟩]
    refine .inr ⟨k,rfl,by omega,by omega,fun j hj=> ?_⟩
    by_cases e:j=k
    ·subst e;exact Nat.le_refl _
    ·have:=h4 j (by omega);omega
   ·rw [if_neg (fun h5=>by rcases h5.2 with h6 | h6 <;> omega)]
    refine .inr ⟨l,rfl,by omega,h3,fun j hj=> ?_⟩
    by_cases e:j=k
    ·subst e;omega
    ·exact h4 j (by omega)
def Mn (bs:List LB):Nat→Wd
 | 0=>0
 | k+1=>if (Mn bs k).toNat<(bAt bs k).wear.toNat then (bAt bs k).wear else Mn bs k
def Hq (m:Wd) (x:LB):LB:=if x.known=true then x else { x with wear:=m }
def D2 (V:Nat→Blk) (nb:Nat):List LB×Int :=
 let bs:=(List.range nb).map fun b=>Ce (V b)
 (bs.map (Hq (Mn bs nb)),Dw bs nb)
end
section
open Go.K
instance ent83:Ent Tryz.prog 83:=⟨fun _ _=>by kernel_rfl⟩
set_option maxRecDepth 20000
theorem Aj4 {c:Chip} {t2:TS} (hb:2≤c.blocks.length∧c.blocks.length≤1000) (ho:Dj c=(0,t2)):Does Tryz.prog 83 [ptr c.aC] (chH c)
  (fun v H=>∃ (dk:Nat) (tb:Tab),v= .tuple #[ptr dk,.int .i64 0]∧H=(dk,true,C [ptr c.aC,ptr tb.b] tDk)::(Dk c.aC tb++(chH c++[]))∧tb.ts=t2):=by
 refine Ah (n:=17) Tryz.func83 Tryz.ntmps83 rfl (Nat.le_of_ble_eq_true rfl)<|Ad<|Aa fun ops=>oA rfl<|oA rfl<|Ac<|n_K<|Ad<|Aa fun ops=>oM rfl ?_
 refine Bd rfl (Avg (c:=c) rfl (by omega) ho) sP rfl fun v8 Y8 h8=> ?_
 obtain ⟨tb,rfl,rfl,htb⟩:=h8
 refine Ay aQ ?_
 refine oM rfl<|oE rfl rfl<|oE rfl rfl<|oA rfl<|oA rfl<|Ac<|n_K<|Ad<|Aa fun ops=>oM rfl<|oM rfl<|oM rfl ?_
 refine Bd rfl (Ae1 (a:=c.aC) (tb:=tb.b)) sP rfl fun v14 Y14 h14=> ?_
 obtain ⟨dk,rfl,rfl⟩:=h14
 refine Ay aQ ?_
 refine oE rfl rfl<|oE rfl rfl<|oA rfl<|oA rfl<|Ac<|n_K<|An ?_
 exact Av (Bz Tryz.results83 (Ag rfl) (Ag rfl)) (by exact ⟨dk,tb,rfl,rfl,htb⟩) sP
theorem Api {d:Dsk} {t2:TS} (hb:2≤d.c.blocks.length∧d.c.blocks.length≤1000) (ho:Dj d.c=(0,t2)):Does Tryz.prog 83 [ptr d.c.aC] (dkH d)
  (fun v H=>∃ (dk':Nat) (tb:Tab),v= .tuple #[ptr dk',.int .i64 0]∧H=dkH ⟨dk',tb,d.c⟩++[]∧tb.ts=t2):=by
 rw [F7]
 refine (Aj4 hb ho).inn sP fun v Y ⟨dk',tb,h1,h2,h3⟩=> ?_
 refine ⟨_,⟨dk',tb,h1,rfl,h3⟩,?_⟩
 rw [h2,F7]
 simp only [List.append_nil]
 exact ⟨_,_,aQ,sP⟩
theorem DV.same {c c':Chip} {t:TS} {n k:Nat} {V:Nat→Blk} (h:DV c t n k V) (hb:c'.blocks=c.blocks) (up:Up c') (hp:c'.pc=c.pc) (hw:c'.wc=c.wc):DV c' t n k V :=
 ⟨⟨up,h.di.ti.same hb,h.di.wf,by rw [hb];exact h.di.len,h.di.bs.same hb,⟨by rw [hp];exact h.di.cnt.p0,by rw [hw];exact h.di.cnt.w0⟩,h.di.ver⟩,by rw [hb];exact h.vw⟩
section
variable {d:Dsk}
theorem Avi:Does Tryz.prog 38 [ptr d.c.aP] (dkH d) (Is (.tuple #[]) (dkH ⟨d.dk,d.t,onC d.c⟩)):=by
 rw [F7,F7]
 exact (Ao9 (c:=d.c)).inIs sP aQ sP
theorem Atl {a k:Int}:Does Tryz.prog 36 [ptr d.c.aP,.int .i64 a,.int .i64 k] (dkH d) (Is (.tuple #[]) (dkH ⟨d.dk,d.t,Vb d.c a k⟩)):=by
 rw [F7,F7]
 exact (Ajr (c:=d.c)).inIs sP aQ sP
end
end
section
open Go.K
instance agg68:Agg Tryz.prog 68 false:=⟨⟨_,Tryz.underlying68,rfl⟩⟩
instance und69:Und Tryz.prog 69 (.slice 140):=⟨Tryz.underlying69⟩
instance agg69:Agg Tryz.prog 69 false:=⟨⟨_,Tryz.underlying69,rfl⟩⟩
instance agg140:Agg Tryz.prog 140 true:=⟨⟨_,Tryz.underlying140,rfl⟩⟩
instance siz140:Siz Tryz.prog 140 5:=⟨by kernel_rfl⟩
instance zer140:Zer Tryz.prog 140 ([.int .u64 0,.bool false,.int .u64 0,.bool false,.int .i64 0]):=⟨by kernel_rfl⟩
instance fld71_0:Fld Tryz.prog 71 0 0:=⟨⟨_,_,0,Tryz.underlying71,rfl,by kernel_rfl,rfl⟩⟩
instance fld71_1:Fld Tryz.prog 71 1 1:=⟨⟨_,_,0,Tryz.underlying71,rfl,by kernel_rfl,rfl⟩⟩
instance fld140_0:Fld Tryz.prog 140 0 0:=⟨⟨_,_,0,Tryz.underlying140,rfl,by kernel_rfl,rfl⟩⟩
instance fld140_1:Fld Tryz.prog 140 1 1:=⟨⟨_,_,0,Tryz.underlying140,rfl,by kernel_rfl,rfl⟩⟩
instance fld140_2:Fld Tryz.prog 140 2 2:=⟨⟨_,_,0,Tryz.underlying140,rfl,by kernel_rfl,rfl⟩⟩
instance fld140_4:Fld Tryz.prog 140 4 4:=⟨⟨_,_,0,Tryz.underlying140,rfl,by kernel_rfl,rfl⟩⟩
instance plc140:Plc Tryz.prog 140 [(0,1),(1,1),(2,1),(3,1),(4,1)]:=⟨⟨_,Tryz.underlying140,fun _=>by kernel_rfl⟩⟩
instance ent148:Ent Tryz.prog 148:=⟨fun _ _=>by kernel_rfl⟩
instance ent190:Ent Tryz.prog 190:=⟨fun _ _=>by kernel_rfl⟩
set_option maxRecDepth 20000
abbrev tLg:TypeId:=71
abbrev tLB:TypeId:=140
theorem Xo (x:LB):(lbC x).length=5:=rfl
section
variable {bs:List LB} {b:Nat} {x:LB}
theorem Fn {o:Nat} {v:Value} (h:bs[b]? =some x) (ho:o<5) (hv:nth (lbC x) o=some v):nth (lbs bs) (b*5+o)=some v:=by
 rw [lbs,N9 (n:=5) (fun b _=>Xo b) h ho];exact hv
theorem Pv (h:bs[b]? =some x):cut (lbs bs) (b*5) 5=some (lbC x):=by
 have:=Oa (f:=lbC) (n:=5) (o:=0) (m:=5) (fun b _=>Xo b) h rfl
 rw [Nat.add_zero] at this;exact this
theorem Ek {o:Nat} {vs:List Value} {y:LB} (h:bs[b]? =some x) (hs:Br (lbC x) o vs=some (lbC y)):Br (lbs bs) (b*5+o) vs=some (lbs (bs.set b y)) :=
 G4 (f:=lbC) (n:=5) (fun b _=>Xo b) h hs
end
abbrev lgC (dk bb nb:Nat) (last:Int):List Value:=[ptr dk,.slice (some ⟨bb,0,none⟩) nb nb,.int .i64 last]
theorem Ii {d:Dsk} {n k:Nat} {V:Nat→Blk} (h:DD d n k V) {b j:Nat} (hb:b+6<n) (hj:j<8):Aww d.c (atD d.t.ts (b:Nat)) j=0∧B0 d.c (atD d.t.ts (b:Nat)) j=A9 (V b) j:=by
 have:=Aj0 h hb hj
 unfold A9
 rw [dif_pos hj]
 exact this
section
variable {d:Dsk} {n k lg bb nb:Nat} {last:Int} {V:Nat→Blk}
theorem Vl (h:DD d n k V) {b j:Nat} {kind:By} (hb:b+6<n) (hj:j<8):Does Tryz.prog 190 [ptr lg,.int .i64 (b:Nat),.int .i64 (j:Nat),bv kind] ((lg,true,C (lgC d.dk bb nb last) tLg)::(dkH d++[]))
  (Is (.tuple #[wv (nF (A9 (V b) j) kind).1,.bool (nF (A9 (V b) j) kind).2,.int .i64 0]) ((lg,true,C (lgC d.dk bb nb last) tLg)::(dkH d++[]))):=by
 have hrd:=Ii h hb hj
 refine Ah (n:=52) Tryz.func190 Tryz.ntmps190 rfl (Nat.le_of_ble_eq_true rfl)<|Ad<|Aa fun ops=>oA rfl<|oA rfl<|oA rfl<|Ac<|n_K<|Ad<|Aa fun ops=>oM rfl<|oN rfl<|oF rfl ?_
 refine oR (Al rfl mM rfl) ?_
 refine oM rfl<|oM rfl ?_
 refine A6 rfl ((I6 (d:=d) (b:=(b:Nat)) (k:=(j:Nat))).to (by rw [hrd.1,hrd.2]) rfl) sP rfl aQ ?_
 refine oM rfl<|oE rfl rfl<|oE rfl rfl ?_
 refine Aw rfl fun b11=> ?_
 rw [Cs]
 first | refine Af rfl rfl uD (Ct) (Ar) (B2 (by first | exact Ar | exact List.length_replicate ..)) ?_ | refine Af rfl rfl uD rfl rfl rfl ?_
 refine oA rfl<|Ac<|n_K<|Ad<|Ad<|Aa fun ops=>oM rfl<|oR (Ae rfl rfl rfl)<|Ac<|n_K ?_
 refine Bi rfl ?_
 refine Ai<|n_K<|Ad<|Aa fun ops=> ?_
 refine oR (Au rfl mM (by first | exact Bg | rfl)) ?_
 refine Bd rfl (La (p:=A9 (V b) j)) sP rfl fun v32 Y32 h32=> ?_
 obtain ⟨s,rfl,rfl,hs,ho⟩:=h32
 refine Ay aQ ?_
 refine oM rfl<|oE rfl rfl<|oE rfl rfl<|oE rfl rfl<|oE rfl rfl<|oA rfl<|oA rfl<|oA rfl<|oA rfl<|Ac<|n_K<|Ad ?_
 refine Bf [(5,42),(10,47)] rfl fun ops y=> ?_
 refine oM rfl ?_
 have hsl:s.list.length≤70000000000000:=(by have:=Qu (A9 (V b) j);rw [hs];omega)
 refine Bd rfl (Fe (s:=s) (T:=tU8) hsl) sP rfl fun v38 Y38 h38=> ?_
 obtain ⟨r,rfl,rfl,hr1,hr2⟩:=h38
 refine Ay aQ ?_
 refine Bd rfl (Ff (r:=r) (n:=8) (by rw [hr1];exact hsl)) sP rfl fun v39 Y39 h39=> ?_
 obtain ⟨x,sl,bad,rfl,rfl,hx,_,_⟩:=h39
 refine Ay aQ ?_
 refine oM rfl<|oR (Ae rfl rfl rfl)<|oM rfl ?_
 refine' Df (j:=5) (k:=3) y rfl rfl rfl rfl rfl rfl rfl (fun hg42=> ?_) ?_
 rotate_left
 ·try (simp at hg42;show _)
  refine o_g y rfl rfl ?_
  refine oM rfl ?_
  refine o_g y rfl rfl ?_
  refine oM rfl ?_
  refine o_g y rfl rfl ?_
  refine oR (Ae rfl rfl rfl) ?_
  exact Ac ⟨rfl,rfl,⟨_,sP⟩⟩
 refine oM rfl ?_
 refine' Df (j:=10) (k:=3) y rfl rfl rfl rfl rfl rfl rfl (fun hg47=> ?_) ?_
 rotate_left
 ·try (simp at hg47;show _)
  refine o_g y rfl rfl ?_
  refine oM rfl ?_
  refine o_g y rfl rfl ?_
  refine oR (A7 rfl) ?_
  refine o_g y rfl rfl ?_
  refine oR (Ae rfl rfl rfl) ?_
  exact Ac ⟨rfl,rfl,⟨_,sP⟩⟩
 refine oA rfl<|oA rfl<|oA rfl<|Ac<|n_K<|An ?_
 refine Aq (Kw Tryz.results190 (Ag rfl) (Ag rfl) (Ag rfl)) ?_ sP
 rw [hr1,hr2,hs,show Bl 8 8=8 from rfl] at hx;rw [hx,hs];rfl
theorem Apt (h:DD d n k V) {b:Nat} {bs:List LB} (hb:b+6<n) (hn:bs.length=nb) (hbn:b<nb):Does Tryz.prog 148 [ptr lg,.int .i64 (b:Nat)] ((lg,true,C (lgC d.dk bb nb last) tLg)::(bb,true,C (lbs bs) tLB)::(dkH d++[]))
  (Is (.int .i64 0) ((lg,true,C (lgC d.dk bb nb last) tLg)::(bb,true,C (lbs (bs.set b (Ce (V b)))) tLB)::(dkH d++[]))):=by
 have hg:bs[b]? =some bs[b]:=List.getElem?_eq_getElem (by omega)
 refine Ah (n:=70) Tryz.func148 Tryz.ntmps148 rfl (Nat.le_of_ble_eq_true rfl)<|Ad<|Aa fun ops=>oA rfl<|Ac<|n_K<|Ad<|Aa fun ops=>oR (Bc rfl rfl) ?_
 refine Aw rfl fun b5=> ?_
 refine Af rfl rfl uD rfl rfl rfl ?_
 refine Ac<|n_K<|Ad<|Aa fun ops=>oA rfl<|Ac<|n_K<|Ad<|Aa fun ops=>oA rfl<|Ac<|n_K<|Ad<|Ad ?_
 refine Aa fun ops=>oM rfl<|oM rfl ?_
 refine A6 rfl (Vl (d:=d) (bb:=bb) (nb:=nb) (last:=last) h (b:=b) (j:=0) (kind:=2) hb (by omega)) sP rfl aQ ?_
 refine oM rfl<|oE rfl rfl<|oE rfl rfl<|oE rfl rfl<|oF rfl ?_
 refine Af rfl rfl uD rfl rfl rfl ?_
 refine oF rfl ?_
 refine Af rfl rfl uD rfl rfl rfl ?_
 refine oA rfl<|Ac<|n_K<|Ad<|Aa fun ops=>oM rfl<|oR (Ae rfl rfl rfl)<|Ac<|n_K ?_
 refine Bi rfl ?_
 refine Ai<|n_K<|Ad<|Ad<|Aa fun ops=>oM rfl<|oM rfl ?_
 refine A6 rfl (Vl (d:=d) (bb:=bb) (nb:=nb) (last:=last) h (b:=b) (j:=1) (kind:=3) hb (by omega)) sP rfl aQ ?_
 refine oM rfl<|oE rfl rfl<|oE rfl rfl<|oE rfl rfl<|oF rfl ?_
 refine Af rfl rfl uD rfl rfl rfl ?_
 refine oA rfl<|oA rfl<|Ac<|n_K<|Ad<|Aa fun ops=>oM rfl<|oR (Ae rfl rfl rfl)<|Ac<|n_K ?_
 refine Bi rfl ?_
 refine Ai<|n_K<|Ad<|Ad<|Aa fun ops=>oM rfl<|oR (Bx rfl)<|Ac<|n_K ?_
 refine Aj rfl (fun c36=> ?_) (fun c36=> ?_)
 ·skip
  have hokF:¬ (nF (A9 (V b) 1) 3).2=true:=(by simpa using c36)
  refine Aa fun ops=>oF rfl ?_
  refine Af rfl rfl uD rfl rfl rfl ?_
  refine Ac<|n_K<|Ad<|Ad<|Aa fun ops=>oA rfl<|Ac<|n_K<|Ak ?_
  refine A8 [0,1,5,6] kQ (fun (kk:Nat)=>[(8,.int .i64 (7 - (kk:Int)))]) (fun (kk:Nat)=>(b5,true,C (lbC ⟨(nF (A9 (V b) 0) 2).1,(nF (A9 (V b) 0) 2).2,(if (nF (A9 (V b) 1) 3).2=true then (nF (A9 (V b) 1) 3).1 else 0),false,8 - (kk:Int)⟩) tLB)::(lg,true,C (lgC d.dk bb nb last) tLg)::(bb,true,C (lbs bs) tLB)::(dkH d++[])) (fun (kk:Nat)=>kk≤8∧Fi (V b) kk=8 - kk∧((nF (A9 (V b) 1) 3).2=false→kk=0)) (fun (kk:Nat)=>8 - kk) (0) ⟨Nat.zero_le _,rfl,fun _=>rfl⟩ kP (by first | (rw [if_neg hokF];exact sP) | (rw [if_pos hok];exact sP)) ?_
  rintro kk ⟨h0,h1,h2⟩
  refine Ad<|Ad ?_
  refine Bf [(2,40)] rfl fun ops y=> ?_
  refine oM rfl<|oR (Ae rfl rfl rfl)<|oM rfl ?_
  refine' Df (j:=2) (k:=1) y rfl rfl rfl rfl rfl rfl rfl (fun hg40=> ?_) ?_
  rotate_left
  ·try (simp at hg40;show _)
   refine o_g y rfl rfl ?_
   refine oM rfl ?_
   exact Ac ⟨rfl,rfl,⟨_,sP⟩⟩
  refine Ac<|n_K ?_
  refine Aj rfl (fun c42=> ?_) (fun c42=> ?_)
  ·simp only [Bool.and_eq_true,Bool.and_eq_false_iff,decide_eq_true_eq,decide_eq_false_iff_not] at c42
   have hok:=c42.2
   have hk8:kk<8:=(by omega)
   have e7:(7 - (kk:Int))=((7 - kk:Nat):Int):=(by omega)
   have hrd:=Ii h hb (j:=7 - kk) (by omega)
   refine Ai<|n_K<|Ad<|Ak<|Ad<|Aa fun ops=>oM rfl<|oN rfl<|oF rfl ?_
   refine oR (Al rfl mM rfl) ?_
   refine oM rfl<|oM rfl ?_
   refine A6 rfl ((I6 (d:=d) (b:=(b:Nat)) (k:=7 - (kk:Int))).to (by rw [e7,hrd.1,hrd.2]) rfl) sP rfl aQ ?_
   refine oM rfl<|oE rfl rfl<|oE rfl rfl ?_
   refine Aw rfl fun b9=> ?_
   rw [Cs]
   first | refine Af rfl rfl uD (Ct) (Ar) (B2 (by first | exact Ar | exact List.length_replicate ..)) ?_ | refine Af rfl rfl uD rfl rfl rfl ?_
   refine oA rfl<|Ac<|n_K<|Ad<|Ad<|Aa fun ops=>oM rfl<|oR (Ae rfl rfl rfl)<|Ac<|n_K ?_
   refine Bi rfl ?_
   refine Ai<|n_K<|Ad<|Ad<|Aa fun ops=> ?_
   refine oR (Au rfl mM (by first | exact Bg | rfl)) ?_
   refine A6 rfl (L7 (p:=A9 (V b) (7 - kk))) sP rfl aQ ?_
   refine oR (Bx rfl)<|Ac<|n_K ?_
   refine Aj rfl (fun c60=> ?_) (fun c60=> ?_)
   ·skip
    have hbl:Bs (A9 (V b) (7 - kk))=false:=(by simpa using c60)
    have hfin:(⟨(nF (A9 (V b) 0) 2).1,(nF (A9 (V b) 0) 2).2,(if (nF (A9 (V b) 1) 3).2=true then (nF (A9 (V b) 1) 3).1 else 0),false,8 - (kk:Int)⟩:LB)=Ce (V b):=(by unfold Ce;rw [if_pos hok,if_pos hok,St h1 hbl hk8];congr 1;omega)
    refine Bb<|x_K<|Alu rfl<|x_K<|x_K<|Bj<|n_K<|Ad ?_
    refine s_draw [] [(7,[(0,false),(1,false),(2,false),(3,false),(4,false),(5,false),(6,false)]),(8,[(7,true)])] (by kernel_rfl) rfl fun ops w0 H0 y=> ?_
    refine A4<|xM rfl<|xN rfl<|xF rfl ?_
    refine xR (Al rfl mM rfl) ?_
    refine xM rfl ?_
    refine xR (Au rfl mM (show cut (lbC ⟨(nF (A9 (V b) 0) 2).1,(nF (A9 (V b) 0) 2).2,(if (nF (A9 (V b) 1) 3).2=true then (nF (A9 (V b) 1) 3).1 else 0),false,8 - (kk:Int)⟩) 0 5=some (lbC ⟨(nF (A9 (V b) 0) 2).1,(nF (A9 (V b) 0) 2).2,(if (nF (A9 (V b) 1) 3).2=true then (nF (A9 (V b) 1) 3).1 else 0),false,8 - (kk:Int)⟩) from rfl)) ?_
    refine xR (Cp rfl rfl (by omega)) ?_
    refine Am<|Bh<|Be ?_
    refine Af (cs':=lbs (bs.set b (Ce (V b)))) rfl rfl uD rfl rfl (by simp only [Int.toNat_natCast];rw [hfin];exact Ek (o:=0) (vs:=lbC (Ce (V b))) (y:=Ce (V b)) hg rfl) ?_
    refine Ac ⟨rfl,⟨_,sP⟩,?_⟩
    refine Am<|Bm<|n_K<|Ad<|Aa fun ops=>oA rfl<|Ac<|n_K<|An ?_
    refine Aq (At Tryz.results148 (Ag rfl)) ?_ sP
    rfl
   ·skip
    have hbl:Bs (A9 (V b) (7 - kk))=true:=(by simpa using c60)
    refine Ai<|n_K<|Aa fun ops=> ?_
    refine oR (show Rd _ _ _ _ (.int .i64 (8 - ((kk+1:Nat):Int))) from (by rw [show (8 - ((kk+1:Nat):Int))=7 - (kk:Int) by omega];exact R8 rfl)) ?_
    refine oF rfl ?_
    refine Af rfl rfl uD rfl rfl rfl ?_
    refine Ac<|Az<|n_K<|Aa fun ops=>oM rfl ?_
    refine oR (show Rd _ _ _ _ (.int .i64 (7 - ((kk+1:Nat):Int))) from (by rw [show (7 - ((kk+1:Nat):Int))=7 - (kk:Int) - 1 by omega];exact Cy rfl rfl (by omega))) ?_
    refine oA rfl<|Ac<|n_K ?_
    exact ⟨kk+1,⟨by omega,(by rw [Z1 h1 hbl];omega),fun h9=>(by rw [hok] at h9;cases h9)⟩,(by omega),lZ⟩
  ·simp only [Bool.and_eq_true,Bool.and_eq_false_iff,decide_eq_true_eq,decide_eq_false_iff_not] at c42
   have hfin:(⟨(nF (A9 (V b) 0) 2).1,(nF (A9 (V b) 0) 2).2,(if (nF (A9 (V b) 1) 3).2=true then (nF (A9 (V b) 1) 3).1 else 0),false,8 - (kk:Int)⟩:LB)=Ce (V b):=(by unfold Ce;rcases c42 with h9 | h9;(have h8:kk=8:=by omega);subst h8;(by_cases hok:(nF (A9 (V b) 1) 3).2=true);(rw [if_pos hok,if_pos hok,show Ku (V b)=0 from h1];rfl);(exact absurd (h2 (by simpa using hok)) (by omega));(rw [h2 h9,if_neg (by rw [h9];simp),if_neg (by rw [h9];simp)];rfl))
   refine Bb<|x_K<|x_K<|Bj<|n_K<|Ad ?_
   refine s_draw [] [(7,[(0,false),(1,false),(2,false),(3,false),(4,false),(5,false),(6,false)]),(8,[(7,true)])] (by kernel_rfl) rfl fun ops w0 H0 y=> ?_
   refine A4<|xM rfl<|xN rfl<|xF rfl ?_
   refine xR (Al rfl mM rfl) ?_
   refine xM rfl ?_
   refine xR (Au rfl mM (show cut (lbC ⟨(nF (A9 (V b) 0) 2).1,(nF (A9 (V b) 0) 2).2,(if (nF (A9 (V b) 1) 3).2=true then (nF (A9 (V b) 1) 3).1 else 0),false,8 - (kk:Int)⟩) 0 5=some (lbC ⟨(nF (A9 (V b) 0) 2).1,(nF (A9 (V b) 0) 2).2,(if (nF (A9 (V b) 1) 3).2=true then (nF (A9 (V b) 1) 3).1 else 0),false,8 - (kk:Int)⟩) from rfl)) ?_
   refine xR (Cp rfl rfl (by omega)) ?_
   refine Am<|Bh<|Be ?_
   refine Af (cs':=lbs (bs.set b (Ce (V b)))) rfl rfl uD rfl rfl (by simp only [Int.toNat_natCast];rw [hfin];exact Ek (o:=0) (vs:=lbC (Ce (V b))) (y:=Ce (V b)) hg rfl) ?_
   refine Ac ⟨rfl,⟨_,sP⟩,?_⟩
   refine Am<|Bm<|n_K<|Ad<|Aa fun ops=>oA rfl<|Ac<|n_K<|An ?_
   refine Aq (At Tryz.results148 (Ag rfl)) ?_ sP
   rfl
 ·skip
  have hok:(nF (A9 (V b) 1) 3).2=true:=(by simpa using c36)
  refine Ai<|n_K<|Ad<|Ad<|Aa fun ops=>oA rfl<|Ac<|n_K<|Ak ?_
  refine A8 [0,1,5,6] kQ (fun (kk:Nat)=>[(8,.int .i64 (7 - (kk:Int)))]) (fun (kk:Nat)=>(b5,true,C (lbC ⟨(nF (A9 (V b) 0) 2).1,(nF (A9 (V b) 0) 2).2,(if (nF (A9 (V b) 1) 3).2=true then (nF (A9 (V b) 1) 3).1 else 0),false,8 - (kk:Int)⟩) tLB)::(lg,true,C (lgC d.dk bb nb last) tLg)::(bb,true,C (lbs bs) tLB)::(dkH d++[])) (fun (kk:Nat)=>kk≤8∧Fi (V b) kk=8 - kk∧((nF (A9 (V b) 1) 3).2=false→kk=0)) (fun (kk:Nat)=>8 - kk) (0) ⟨Nat.zero_le _,rfl,fun _=>rfl⟩ kP (by first | (rw [if_neg hokF];exact sP) | (rw [if_pos hok];exact sP)) ?_
  rintro kk ⟨h0,h1,h2⟩
  refine Ad<|Ad ?_
  refine Bf [(2,40)] rfl fun ops y=> ?_
  refine oM rfl<|oR (Ae rfl rfl rfl)<|oM rfl ?_
  refine' Df (j:=2) (k:=1) y rfl rfl rfl rfl rfl rfl rfl (fun hg40=> ?_) ?_
  rotate_left
  ·try (simp at hg40;show _)
   refine o_g y rfl rfl ?_
   refine oM rfl ?_
   exact Ac ⟨rfl,rfl,⟨_,sP⟩⟩
  refine Ac<|n_K ?_
  refine Aj rfl (fun c42=> ?_) (fun c42=> ?_)
  ·simp only [Bool.and_eq_true,Bool.and_eq_false_iff,decide_eq_true_eq,decide_eq_false_iff_not] at c42
   have hok:=c42.2
   have hk8:kk<8:=(by omega)
   have e7:(7 - (kk:Int))=((7 - kk:Nat):Int):=(by omega)
   have hrd:=Ii h hb (j:=7 - kk) (by omega)
   refine Ai<|n_K<|Ad<|Ak<|Ad<|Aa fun ops=>oM rfl<|oN rfl<|oF rfl ?_
   refine oR (Al rfl mM rfl) ?_
   refine oM rfl<|oM rfl ?_
   refine A6 rfl ((I6 (d:=d) (b:=(b:Nat)) (k:=7 - (kk:Int))).to (by rw [e7,hrd.1,hrd.2]) rfl) sP rfl aQ ?_
   refine oM rfl<|oE rfl rfl<|oE rfl rfl ?_
   refine Aw rfl fun b9=> ?_
   rw [Cs]
   first | refine Af rfl rfl uD (Ct) (Ar) (B2 (by first | exact Ar | exact List.length_replicate ..)) ?_ | refine Af rfl rfl uD rfl rfl rfl ?_
   refine oA rfl<|Ac<|n_K<|Ad<|Ad<|Aa fun ops=>oM rfl<|oR (Ae rfl rfl rfl)<|Ac<|n_K ?_
   refine Bi rfl ?_
   refine Ai<|n_K<|Ad<|Ad<|Aa fun ops=> ?_
   refine oR (Au rfl mM (by first | exact Bg | rfl)) ?_
   refine A6 rfl (L7 (p:=A9 (V b) (7 - kk))) sP rfl aQ ?_
   refine oR (Bx rfl)<|Ac<|n_K ?_
   refine Aj rfl (fun c60=> ?_) (fun c60=> ?_)
   ·skip
    have hbl:Bs (A9 (V b) (7 - kk))=false:=(by simpa using c60)
    have hfin:(⟨(nF (A9 (V b) 0) 2).1,(nF (A9 (V b) 0) 2).2,(if (nF (A9 (V b) 1) 3).2=true then (nF (A9 (V b) 1) 3).1 else 0),false,8 - (kk:Int)⟩:LB)=Ce (V b):=(by unfold Ce;rw [if_pos hok,if_pos hok,St h1 hbl hk8];congr 1;omega)
    refine Bb<|x_K<|Alu rfl<|x_K<|x_K<|Bj<|n_K<|Ad ?_
    refine s_draw [] [(7,[(0,false),(1,false),(2,false),(3,false),(4,false),(5,false),(6,false)]),(8,[(7,true)])] (by kernel_rfl) rfl fun ops w0 H0 y=> ?_
    refine A4<|xM rfl<|xN rfl<|xF rfl ?_
    refine xR (Al rfl mM rfl) ?_
    refine xM rfl ?_
    refine xR (Au rfl mM (show cut (lbC ⟨(nF (A9 (V b) 0) 2).1,(nF (A9 (V b) 0) 2).2,(if (nF (A9 (V b) 1) 3).2=true then (nF (A9 (V b) 1) 3).1 else 0),false,8 - (kk:Int)⟩) 0 5=some (lbC ⟨(nF (A9 (V b) 0) 2).1,(nF (A9 (V b) 0) 2).2,(if (nF (A9 (V b) 1) 3).2=true then (nF (A9 (V b) 1) 3).1 else 0),false,8 - (kk:Int)⟩) from rfl)) ?_
    refine xR (Cp rfl rfl (by omega)) ?_
    refine Am<|Bh<|Be ?_
    refine Af (cs':=lbs (bs.set b (Ce (V b)))) rfl rfl uD rfl rfl (by simp only [Int.toNat_natCast];rw [hfin];exact Ek (o:=0) (vs:=lbC (Ce (V b))) (y:=Ce (V b)) hg rfl) ?_
    refine Ac ⟨rfl,⟨_,sP⟩,?_⟩
    refine Am<|Bm<|n_K<|Ad<|Aa fun ops=>oA rfl<|Ac<|n_K<|An ?_
    refine Aq (At Tryz.results148 (Ag rfl)) ?_ sP
    rfl
   ·skip
    have hbl:Bs (A9 (V b) (7 - kk))=true:=(by simpa using c60)
    refine Ai<|n_K<|Aa fun ops=> ?_
    refine oR (show Rd _ _ _ _ (.int .i64 (8 - ((kk+1:Nat):Int))) from (by rw [show (8 - ((kk+1:Nat):Int))=7 - (kk:Int) by omega];exact R8 rfl)) ?_
    refine oF rfl ?_
    refine Af rfl rfl uD rfl rfl rfl ?_
    refine Ac<|Az<|n_K<|Aa fun ops=>oM rfl ?_
    refine oR (show Rd _ _ _ _ (.int .i64 (7 - ((kk+1:Nat):Int))) from (by rw [show (7 - ((kk+1:Nat):Int))=7 - (kk:Int) - 1 by omega];exact Cy rfl rfl (by omega))) ?_
    refine oA rfl<|Ac<|n_K ?_
    exact ⟨kk+1,⟨by omega,(by rw [Z1 h1 hbl];omega),fun h9=>(by rw [hok] at h9;cases h9)⟩,(by omega),lZ⟩
  ·simp only [Bool.and_eq_true,Bool.and_eq_false_iff,decide_eq_true_eq,decide_eq_false_iff_not] at c42
   have hfin:(⟨(nF (A9 (V b) 0) 2).1,(nF (A9 (V b) 0) 2).2,(if (nF (A9 (V b) 1) 3).2=true then (nF (A9 (V b) 1) 3).1 else 0),false,8 - (kk:Int)⟩:LB)=Ce (V b):=(by unfold Ce;rcases c42 with h9 | h9;(have h8:kk=8:=by omega);subst h8;(by_cases hok:(nF (A9 (V b) 1) 3).2=true);(rw [if_pos hok,if_pos hok,show Ku (V b)=0 from h1];rfl);(exact absurd (h2 (by simpa using hok)) (by omega));(rw [h2 h9,if_neg (by rw [h9];simp),if_neg (by rw [h9];simp)];rfl))
   refine Bb<|x_K<|x_K<|Bj<|n_K<|Ad ?_
   refine s_draw [] [(7,[(0,false),(1,false),(2,false),(3,false),(4,false),(5,false),(6,false)]),(8,[(7,true)])] (by kernel_rfl) rfl fun ops w0 H0 y=> ?_
   refine A4<|xM rfl<|xN rfl<|xF rfl ?_
   refine xR (Al rfl mM rfl) ?_
   refine xM rfl ?_
   refine xR (Au rfl mM (show cut (lbC ⟨(nF (A9 (V b) 0) 2).1,(nF (A9 (V b) 0) 2).2,(if (nF (A9 (V b) 1) 3).2=true then (nF (A9 (V b) 1) 3).1 else 0),false,8 - (kk:Int)⟩) 0 5=some (lbC ⟨(nF (A9 (V b) 0) 2).1,(nF (A9 (V b) 0) 2).2,(if (nF (A9 (V b) 1) 3).2=true then (nF (A9 (V b) 1) 3).1 else 0),false,8 - (kk:Int)⟩) from rfl)) ?_
   refine xR (Cp rfl rfl (by omega)) ?_
   refine Am<|Bh<|Be ?_
   refine Af (cs':=lbs (bs.set b (Ce (V b)))) rfl rfl uD rfl rfl (by simp only [Int.toNat_natCast];rw [hfin];exact Ek (o:=0) (vs:=lbC (Ce (V b))) (y:=Ce (V b)) hg rfl) ?_
   refine Ac ⟨rfl,⟨_,sP⟩,?_⟩
   refine Am<|Bm<|n_K<|Ad<|Aa fun ops=>oA rfl<|Ac<|n_K<|An ?_
   refine Aq (At Tryz.results148 (Ag rfl)) ?_ sP
   rfl
end
end
section
open Go.K
instance zer71:Zer Tryz.prog 71 ([.pointer none,.slice none 0 0,.int .i64 0]):=⟨by kernel_rfl⟩
instance fld71_2:Fld Tryz.prog 71 2 2:=⟨⟨_,_,0,Tryz.underlying71,rfl,by kernel_rfl,rfl⟩⟩
instance plc71:Plc Tryz.prog 71 [(0,1),(1,1),(2,1)]:=⟨⟨_,Tryz.underlying71,fun _=>by kernel_rfl⟩⟩
instance byt140:Byt Tryz.prog 140 40:=⟨by kernel_rfl⟩
instance ent109:Ent Tryz.prog 109:=⟨fun _ _=>by kernel_rfl⟩
set_option maxRecDepth 20000
def Xp:LB:=⟨0,false,0,false,0⟩
theorem Apu (n:Nat):Gn n [Value.int .u64 0,.bool false,.int .u64 0,.bool false,.int .i64 0]=lbs (List.replicate n Xp):=by
 induction n with
 | zero=>rfl
 | succ n ih =>
  show [Value.int .u64 0,.bool false,.int .u64 0,.bool false,.int .i64 0]++Gn n [Value.int .u64 0,.bool false,.int .u64 0,.bool false,.int .i64 0]=lbs (Xp::List.replicate n Xp)
  rw [ih]
  rfl
def E7 (V:Nat→Blk) (nb:Nat):List LB:=(List.range nb).map fun b=>Ce (V b)
theorem Ij {V:Nat→Blk} {nb j:Nat} (h:j<nb):bAt (E7 V nb) j=Ce (V j):=by
 simp [bAt,E7,List.getD_eq_getElem?_getD,h]
theorem Pw (V:Nat→Blk) (nb:Nat):(E7 V nb).length=nb:=by simp [E7]
theorem Dq {bs:List LB} {i j:Nat} {x:LB} (h:i<bs.length):bAt (bs.set i x) j=if j=i then x else bAt bs j:=by
 unfold bAt
 rw [List.getD_eq_getElem?_getD,List.getD_eq_getElem?_getD,List.getElem?_set]
 by_cases e:j=i
 ·subst e;simp [h]
 ·rw [if_neg (fun h=>e h.symm),if_neg e]
theorem Akh {bs cs:List LB} (hl:bs.length=cs.length) (h:∀ j<bs.length,bAt bs j=bAt cs j):bs=cs:=by
 apply List.ext_getElem hl
 intro j h1 h2
 have:=h j h1
 rwa [Ry (List.getElem?_eq_getElem h1),Ry (List.getElem?_eq_getElem h2)] at this
theorem Px (bs:List LB) (k:Nat): -1≤Dw bs k∧Dw bs k<k:=by
 rcases Ka bs k with ⟨h,_⟩ | ⟨l,h,h2,_⟩ <;> omega
theorem Ny {P:Program} {E:Env} {H:Hp} {x y:Operand} {ts:Array TypeId} {a b:Wd} (hx:ev E x=some (wv a)) (hy:ev E y=some (wv b)):Rd P E H (.call ⟨.builtin .max,#[x,y],ts⟩) (wv (if a.toNat<b.toNat then b else a)):=by
 have h:=Ln (P:=P) (H:=H) (ts:=ts) hx hy
 have e:(Value.int .u64 (max (a.toNat:Int) (b.toNat:Int)))=wv (if a.toNat<b.toNat then b else a):=by
  unfold wv
  congr 1
  split <;> omega
 rw [← e]
 exact h
section
variable {d:Dsk} {n k nb:Nat} {V:Nat→Blk}
theorem Z2 (h:DD d n k V) (hnb:nb+6=n):Does Tryz.prog 109 [ptr d.dk] (dkH d)
  (fun v H=>∃ lg bb,v= .tuple #[ptr lg,.int .i64 0]∧H=(lg,true,C (lgC d.dk bb nb (D2 V nb).2) tLg)::(bb,true,C (lbs (D2 V nb).1) tLB)::(dkH d++[])):=by
 have hul:d.t.u.list.length=nb:=by have:d.t.u.list.length+6=n:=h.di.wf.len;omega
 have hn40:=h.di.wf.n2
 refine Ah (n:=99) Tryz.func109 Tryz.ntmps109 rfl (Nat.le_of_ble_eq_true rfl)<|Ad<|Aa fun ops=>oA rfl<|oA rfl<|Ac<|n_K<|Ad<|Aa fun ops=>oM rfl<|oM rfl ?_
 refine A6 rfl ((Aj1 (d:=d)).to (by rw [hul]) rfl) sP rfl aQ ?_
 refine Aly rfl rfl (by omega) rfl fun b13=> ?_
 rw [Int.toNat_natCast,Apu]
 refine oR (Bc rfl rfl) ?_
 refine De rfl rfl fun b15=> ?_
 refine oA rfl<|Ac<|n_K<|Ad<|Aa fun ops=>oA rfl<|Ac<|n_K<|Ad<|Ad<|Aa fun ops=>oM rfl<|oN rfl<|oF rfl ?_
 refine oR (Al rfl mM rfl) ?_
 refine oR (A7 rfl)<|oM rfl<|Ac<|n_K<|Ak ?_
 refine A8 [4,20] kQ (fun (st:Nat×List LB×Int×Wd)=>[(21,.int .i64 st.1),(5,wv st.2.2.2)]) (fun (st:Nat×List LB×Int×Wd)=>(b15,true,C (lgC d.dk b13 nb st.2.2.1) tLg)::(b13,true,C (lbs st.2.1) tLB)::(dkH d++[])) (fun (st:Nat×List LB×Int×Wd)=>st.1≤nb∧st.2.1.length=nb∧(∀ j<st.1,bAt st.2.1 j=bAt (E7 V nb) j)∧st.2.2.1=Dw (E7 V nb) st.1∧st.2.2.2=Mn (E7 V nb) st.1) (fun (st:Nat×List LB×Int×Wd)=>nb - st.1) ((0,List.replicate nb Xp,-1,0)) ⟨Nat.zero_le _,List.length_replicate,fun j hj=>(by cases hj),rfl,rfl⟩ kP sP ?_
 rintro ⟨i,bs,last,most⟩ ⟨g0,g1,g2,g3,g4⟩
 simp only at g0 g1 g2 g3 g4
 refine Ad<|Aa fun ops=>oR (Ae rfl rfl rfl)<|Ac<|n_K<|Ad ?_
 refine Aj rfl (fun c22=> ?_) (fun c22=> ?_)
 ·simp only [decide_eq_true_eq,decide_eq_false_iff_not] at c22
  have hi:i<nb:=(by omega)
  have hset:(bs.set i (Ce (V i))).length=nb:=(by rw [List.length_set];exact g1)
  have hgi:(bs.set i (Ce (V i)))[i]? =some (Ce (V i)):=(by simp [g1,hi])
  have hrg:=Px (E7 V nb) i
  have hb1:∀ j<i+1,bAt (bs.set i (Ce (V i))) j=bAt (E7 V nb) j:=(fun j hj=>by rw [Dq (by omega)];by_cases e:j=i;(subst e;rw [if_pos rfl,Ij hi]);(rw [if_neg e];exact g2 j (by omega)))
  refine Ai<|n_K<|Ad<|Ak<|Ad<|Aa fun ops=>oM rfl<|oA rfl<|Ac<|n_K<|Ad<|Ad<|Aa fun ops=>oM rfl ?_
  refine oM rfl ?_
  refine A6 rfl (Apt (d:=d) (bb:=b13) (nb:=nb) (last:=last) h (b:=i) (bs:=bs) (by omega) g1 hi) sP rfl aQ ?_
  refine oA rfl<|Ac<|n_K<|Ad<|Aa fun ops=>oM rfl<|oR (Ae rfl rfl rfl)<|Ac<|n_K ?_
  refine Bi rfl ?_
  refine Ai<|n_K<|Ad<|Aa fun ops=>oM rfl<|oN rfl<|oF rfl ?_
  refine oR (Al rfl mM rfl) ?_
  refine oM rfl ?_
  refine oR (Cp rfl rfl (by omega)) ?_
  refine oR (Au rfl mM (by simp only [Int.toNat_natCast];exact Pv hgi)) ?_
  refine Aw rfl fun b8=> ?_
  refine Af rfl rfl uD rfl rfl rfl ?_
  refine Ac<|n_K<|Ad<|Aa fun ops=>oM rfl<|oF rfl ?_
  refine oR (Al rfl mM rfl) ?_
  refine oR (Ny rfl rfl)<|oA rfl<|Ac<|n_K<|Ad ?_
  refine s_draw [(3,44),(9,50)] [(26,[(0,false),(1,false),(2,false),(3,false),(4,false),(5,false),(6,false),(7,false),(8,false),(9,false),(10,false),(11,false),(12,false),(13,false),(14,false),(15,false),(16,false),(17,false),(18,false),(19,false),(20,false),(21,false),(22,false),(23,false),(24,false),(25,false)])] (by kernel_rfl) rfl fun ops w0 H0 y=> ?_
  refine A4<|xF rfl ?_
  refine xR (Al rfl mM rfl) ?_
  refine xR (Ae rfl rfl rfl)<|xM rfl ?_
  refine' Hx (j:=3) (k:=21) y rfl rfl rfl rfl rfl rfl rfl (fun hg44=> ?_) ?_
  rotate_left
  ·try (simp at hg44;show _)
   refine x_g y rfl rfl ?_
   refine xM rfl ?_
   refine x_g y rfl rfl ?_
   refine xN rfl ?_
   refine x_g y rfl rfl ?_
   refine xF rfl ?_
   refine x_g y rfl rfl ?_
   refine xR (Al rfl mM rfl) ?_
   refine x_g y rfl rfl ?_
   refine xR (Ae rfl rfl rfl) ?_
   refine x_g y rfl rfl ?_
   refine xM rfl ?_
   refine' Qa (j:=9) (k:=14) y rfl rfl rfl rfl rfl rfl rfl (fun hg50=> ?_) ?_
   rotate_left
   ·try (simp at hg50;show _)
    refine x_g y rfl rfl ?_
    refine xF rfl ?_
    refine x_g y rfl rfl ?_
    refine xR (Al rfl mM rfl) ?_
    refine x_g y rfl rfl ?_
    refine xM rfl ?_
    refine x_g y rfl rfl ?_
    refine xN rfl ?_
    refine x_g y rfl rfl ?_
    refine xF rfl ?_
    refine x_g y rfl rfl ?_
    refine xR (Al rfl mM rfl) ?_
    refine x_g y rfl rfl ?_
    refine xM rfl ?_
    refine x_g y rfl rfl ?_
    refine xN rfl ?_
    refine x_g y rfl rfl ?_
    refine xF rfl ?_
    refine x_g y rfl rfl ?_
    refine xR (Al rfl mM rfl) ?_
    refine x_g y rfl rfl ?_
    refine xR (Cp rfl rfl (by omega)) ?_
    refine x_g y rfl rfl ?_
    refine xF rfl ?_
    refine x_g y rfl rfl ?_
    refine xR (show Rd _ _ _ _ (wv (bAt (bs.set i (Ce (V i))) last.toNat).seq) from Al rfl mM (Fn (o:=2) (Ep (by omega)) (by omega) rfl)) ?_
    refine x_g y rfl rfl ?_
    refine xR (Ae rfl rfl rfl) ?_
    exact Am ⟨rfl,⟨_,sP⟩⟩
   exact Am ⟨rfl,⟨_,sP⟩⟩
  refine Am<|Bm<|n_K ?_
  refine Aj rfl (fun c66=> ?_) (fun c66=> ?_)
  ·simp only [Bool.and_eq_true,Bool.or_eq_true,Bool.and_eq_false_iff,Bool.or_eq_false_iff,decide_eq_true_eq,decide_eq_false_iff_not] at c66
   have hl:Dw (E7 V nb) (i+1)=i:=(by unfold Dw;rw [← g3,Ij hi];rw [if_pos];refine ⟨by omega,?_⟩;rcases c66.2 with h9 | h9;exact .inl h9;by_cases h8:last<0;exact .inl h8;rw [hb1 _ (by omega)] at h9;exact .inr (by omega))
   refine Aa fun ops=>oM rfl<|oM rfl<|oN rfl<|oF rfl ?_
   refine Af rfl rfl uD rfl rfl rfl ?_
   refine Ac<|Az<|n_K<|Aa fun ops=> ?_
   refine oR (Ao rfl rfl (by omega)) ?_
   refine oM rfl<|Ac<|n_K ?_
   first | exact ⟨(i+1,bs.set i (Ce (V i)),(i:Int),(if most.toNat<(Ce (V i)).wear.toNat then (Ce (V i)).wear else most)),⟨by simp only;omega,hset,hb1,hl.symm,(by simp only;rw [Mn,Ij hi,← g4])⟩,by simp only;omega,lZ⟩ | exact ⟨(i+1,bs.set i (Ce (V i)),last,(if most.toNat<(Ce (V i)).wear.toNat then (Ce (V i)).wear else most)),⟨by simp only;omega,hset,hb1,hl.symm,(by simp only;rw [Mn,Ij hi,← g4])⟩,by simp only;omega,lZ⟩
  ·simp only [Bool.and_eq_true,Bool.or_eq_true,Bool.and_eq_false_iff,Bool.or_eq_false_iff,decide_eq_true_eq,decide_eq_false_iff_not] at c66
   have hl:Dw (E7 V nb) (i+1)=last:=(by unfold Dw;rw [← g3,Ij hi];rw [if_neg];rintro ⟨h8,h9⟩;rcases c66 with h7 | ⟨h6,h7⟩;omega;rcases h9 with h9 | h9;exact h6 h9;rw [hb1 _ (by omega)] at h7;omega)
   refine Ai<|Az<|n_K<|Aa fun ops=> ?_
   refine oR (Ao rfl rfl (by omega)) ?_
   refine oM rfl<|Ac<|n_K ?_
   first | exact ⟨(i+1,bs.set i (Ce (V i)),(i:Int),(if most.toNat<(Ce (V i)).wear.toNat then (Ce (V i)).wear else most)),⟨by simp only;omega,hset,hb1,hl.symm,(by simp only;rw [Mn,Ij hi,← g4])⟩,by simp only;omega,lZ⟩ | exact ⟨(i+1,bs.set i (Ce (V i)),last,(if most.toNat<(Ce (V i)).wear.toNat then (Ce (V i)).wear else most)),⟨by simp only;omega,hset,hb1,hl.symm,(by simp only;rw [Mn,Ij hi,← g4])⟩,by simp only;omega,lZ⟩
 ·simp only [decide_eq_true_eq,decide_eq_false_iff_not] at c22
  have hi:i=nb:=(by omega)
  subst hi
  refine Bb<|x_K<|x_K<|Bj<|n_K<|Ad<|Ad<|Aa fun ops=>oM rfl<|oN rfl<|oF rfl ?_
  refine oR (Al rfl mM rfl) ?_
  refine oR (A7 rfl)<|oM rfl<|Ac<|n_K<|Ak ?_
  refine A8 [4,5,76] kQ (fun (st:Nat×List LB)=>[(77,.int .i64 st.1)]) (fun (st:Nat×List LB)=>(b15,true,C (lgC d.dk b13 i last) tLg)::(b13,true,C (lbs st.2) tLB)::(dkH d++[])) (fun (st:Nat×List LB)=>st.1≤i∧st.2.length=i∧(∀ j<i,bAt st.2 j=if j<st.1 then Hq most (bAt (E7 V i) j) else bAt (E7 V i) j)) (fun (st:Nat×List LB)=>i - st.1) ((0,bs)) ⟨Nat.zero_le _,g1,fun j hj=>(by simp only;rw [if_neg (by omega)];exact g2 j hj)⟩ kP sP ?_
  rintro ⟨m,cs⟩ ⟨k0,k1,k2⟩
  simp only at k0 k1 k2
  refine Ad<|Aa fun ops=>oR (Ae rfl rfl rfl)<|Ac<|n_K<|Ad ?_
  refine Aj rfl (fun c78=> ?_) (fun c78=> ?_)
  ·simp only [decide_eq_true_eq,decide_eq_false_iff_not] at c78
   have hm:m<i:=(by omega)
   have hgm:cs[m]? =some (bAt cs m):=Ep (by omega)
   have hkm:=k2 m hm
   rw [if_neg (Nat.lt_irrefl m)] at hkm
   refine Ai<|n_K<|Ad<|Ak<|Ad<|Aa fun ops=>oM rfl<|oA rfl<|Ac<|n_K<|Ad<|Aa fun ops=>oM rfl<|oN rfl ?_
   refine oF rfl ?_
   refine oR (Al rfl mM rfl) ?_
   refine oM rfl ?_
   refine oR (Cp rfl rfl (by omega)) ?_
   refine oF rfl ?_
   refine oR (Al rfl mM (by simp only [Int.toNat_natCast];exact Fn (o:=1) hgm (by omega) rfl)) ?_
   refine oR (Bx rfl)<|Ac<|n_K ?_
   refine Aj rfl (fun c88=> ?_) (fun c88=> ?_)
   ·skip
    have hkn:(bAt cs m).known=false:=(by simpa using c88)
    have hnT:∀ j<i,bAt (cs.set m { bAt cs m with wear:=most }) j=if j<m+1 then Hq most (bAt (E7 V i) j) else bAt (E7 V i) j:=(fun j hj=>by (rw [Dq (by omega)];by_cases e:j=m;(subst e;rw [if_pos rfl,if_pos (by omega),← hkm];unfold Hq;rw [if_neg (by rw [hkn];simp)]);(rw [if_neg e,k2 j hj];by_cases e2:j<m;(rw [if_pos e2,if_pos (by omega)]);(rw [if_neg e2,if_neg (by omega)]))))
    refine Aa fun ops=>oM rfl<|oN rfl<|oF rfl ?_
    refine oR (Al rfl mM rfl) ?_
    refine oM rfl<|oM rfl ?_
    refine oR (Cp rfl rfl (by omega)) ?_
    refine oF rfl ?_
    refine Af (cs':=lbs (cs.set m { bAt cs m with wear:=most })) rfl rfl uD rfl rfl (by simp only [Int.toNat_natCast];exact Ek (o:=0) (vs:=[wv most]) hgm rfl) ?_
    refine Ac<|Az<|n_K<|Aa fun ops=> ?_
    refine oR (Ao rfl rfl (by omega)) ?_
    refine oM rfl<|Ac<|n_K ?_
    first | exact ⟨(m+1,cs.set m { bAt cs m with wear:=most }),⟨by simp only;omega,by simp only [List.length_set];exact k1,hnT⟩,by simp only;omega,lZ⟩ | exact ⟨(m+1,cs),⟨by simp only;omega,k1,hnF⟩,by simp only;omega,lZ⟩
   ·skip
    have hkn:(bAt cs m).known=true:=(by simpa using c88)
    have hnF:∀ j<i,bAt cs j=if j<m+1 then Hq most (bAt (E7 V i) j) else bAt (E7 V i) j:=(fun j hj=>by (rw [k2 j hj];by_cases e:j=m;(subst e;rw [if_neg (Nat.lt_irrefl _),if_pos (by omega),← hkm];unfold Hq;rw [if_pos hkn]);(by_cases e2:j<m;(rw [if_pos e2,if_pos (by omega)]);(rw [if_neg e2,if_neg (by omega)]))))
    refine Ai<|Az<|n_K<|Aa fun ops=> ?_
    refine oR (Ao rfl rfl (by omega)) ?_
    refine oM rfl<|Ac<|n_K ?_
    first | exact ⟨(m+1,cs.set m { bAt cs m with wear:=most }),⟨by simp only;omega,by simp only [List.length_set];exact k1,hnT⟩,by simp only;omega,lZ⟩ | exact ⟨(m+1,cs),⟨by simp only;omega,k1,hnF⟩,by simp only;omega,lZ⟩
  ·simp only [decide_eq_true_eq,decide_eq_false_iff_not] at c78
   have hm:m=i:=(by omega)
   subst hm
   have hcs:cs=(D2 V m).1:=(by apply Akh;(show cs.length=((E7 V m).map _).length;rw [List.length_map,Pw,k1]);(intro j hj;rw [k2 j (by omega),if_pos (by omega),g4];show _=bAt ((E7 V m).map (Hq (Mn (E7 V m) m))) j;have hj2:j<(E7 V m).length:=(by rw [Pw];omega);rw [Ry (List.getElem?_eq_getElem hj2),Ry (by rw [List.getElem?_map,List.getElem?_eq_getElem hj2];rfl)]))
   refine Bb<|x_K<|x_K<|Bj<|n_K<|Ad<|Aa fun ops=>oM rfl<|oA rfl<|oA rfl<|Ac<|n_K<|An ?_
   exact Av (Bz Tryz.results109 (Ag rfl) (Ag rfl)) (by exact ⟨b15,b13,rfl,rfl⟩) (by rw [← hcs,show (D2 V m).2=last from g3.symm];exact sP)
end
end
end Go.Proofs.YtpmojdippdlcaaaGreatDoor
