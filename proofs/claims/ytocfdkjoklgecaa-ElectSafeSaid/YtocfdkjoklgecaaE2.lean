/- The laws of elections, as rows. -/
import Derived.Test.YtocfdkjoklgecaaV3
import Derived.Test.YtocfdkjoklgecaaE1
namespace Go.Proofs.Ytocfdkjoklgecaa
open Go.ChangeShapes Go.WideShapes Go.ChangeAt Go.RowKit Go.K
set_option linter.unusedVariables false
set_option linter.unusedSimpArgs false

theorem conf_int {k : IntKind} {ks : List Kd} {cs : List Value} (h : Conf (some k :: ks) cs) : ∃ n r, cs = .int k n :: r ∧ Conf ks r := by
  match cs, h with
  | c :: r, ⟨⟨n, hn, _⟩, h2⟩ => exact ⟨n, r, by rw [hn], h2⟩
theorem conf_bool {ks : List Kd} {cs : List Value} (h : Conf (none :: ks) cs) : ∃ n r, cs = .bool n :: r ∧ Conf ks r := by
  match cs, h with
  | c :: r, ⟨⟨n, hn⟩, h2⟩ => exact ⟨n, r, by rw [hn], h2⟩
theorem conf_nil {cs : List Value} (h : Conf [] cs) : cs = [] := by
  match cs, h with
  | [], _ => rfl
theorem chip_of {cs : List Value} (h : Conf chK cs) : ∃ x, cs = cc x := by
  obtain ⟨h0, r0, e0, g0⟩ := conf_bool h; subst e0
  obtain ⟨h1, r1, e1, g1⟩ := conf_bool g0; subst e1
  obtain ⟨h2, r2, e2, g2⟩ := conf_bool g1; subst e2
  obtain ⟨ep, r3, e3, g3⟩ := conf_int g2; subst e3
  obtain ⟨l0, r4, e4, g4⟩ := conf_int g3; subst e4
  obtain ⟨l1, r5, e5, g5⟩ := conf_int g4; subst e5
  obtain ⟨l2, r6, e6, g6⟩ := conf_int g5; subst e6
  obtain ⟨l3, r7, e7, g7⟩ := conf_int g6; subst e7
  obtain ⟨l4, r8, e8, g8⟩ := conf_int g7; subst e8
  obtain ⟨l5, r9, e9, g9⟩ := conf_int g8; subst e9
  obtain ⟨l6, r10, e10, g10⟩ := conf_int g9; subst e10
  obtain ⟨l7, r11, e11, g11⟩ := conf_int g10; subst e11
  obtain ⟨l8, r12, e12, g12⟩ := conf_int g11; subst e12
  obtain ⟨l9, r13, e13, g13⟩ := conf_int g12; subst e13
  obtain ⟨l10, r14, e14, g14⟩ := conf_int g13; subst e14
  obtain ⟨l11, r15, e15, g15⟩ := conf_int g14; subst e15
  obtain ⟨l12, r16, e16, g16⟩ := conf_int g15; subst e16
  obtain ⟨l13, r17, e17, g17⟩ := conf_int g16; subst e17
  obtain ⟨l14, r18, e18, g18⟩ := conf_int g17; subst e18
  obtain ⟨l15, r19, e19, g19⟩ := conf_int g18; subst e19
  obtain ⟨l16, r20, e20, g20⟩ := conf_int g19; subst e20
  obtain ⟨l17, r21, e21, g21⟩ := conf_int g20; subst e21
  obtain ⟨l18, r22, e22, g22⟩ := conf_int g21; subst e22
  obtain ⟨l19, r23, e23, g23⟩ := conf_int g22; subst e23
  obtain ⟨l20, r24, e24, g24⟩ := conf_int g23; subst e24
  obtain ⟨l21, r25, e25, g25⟩ := conf_int g24; subst e25
  obtain ⟨l22, r26, e26, g26⟩ := conf_int g25; subst e26
  obtain ⟨l23, r27, e27, g27⟩ := conf_int g26; subst e27
  obtain ⟨l24, r28, e28, g28⟩ := conf_int g27; subst e28
  obtain ⟨l25, r29, e29, g29⟩ := conf_int g28; subst e29
  obtain ⟨l26, r30, e30, g30⟩ := conf_int g29; subst e30
  obtain ⟨l27, r31, e31, g31⟩ := conf_int g30; subst e31
  obtain ⟨l28, r32, e32, g32⟩ := conf_int g31; subst e32
  obtain ⟨l29, r33, e33, g33⟩ := conf_int g32; subst e33
  obtain ⟨l30, r34, e34, g34⟩ := conf_int g33; subst e34
  obtain ⟨l31, r35, e35, g35⟩ := conf_int g34; subst e35
  obtain ⟨sum, r36, e36, g36⟩ := conf_int g35; subst e36
  obtain ⟨sn, r37, e37, g37⟩ := conf_int g36; subst e37
  obtain ⟨vn, r38, e38, g38⟩ := conf_int g37; subst e38
  obtain ⟨vm, r39, e39, g39⟩ := conf_int g38; subst e39
  obtain ⟨vb, r40, e40, g40⟩ := conf_int g39; subst e40
  obtain rfl := conf_nil g40
  exact ⟨⟨h0, h1, h2, ep, fun i => [l0, l1, l2, l3, l4, l5, l6, l7, l8, l9, l10, l11, l12, l13, l14, l15, l16, l17, l18, l19, l20, l21, l22, l23, l24, l25, l26, l27, l28, l29, l30, l31].getD i 0, sum, sn, vn, vm, vb⟩, by kernel_rfl⟩

section
variable {H : Type} {enc : TypeId × Value → H} {W : World} {base b1 : Nat} {sp : Nat → Bool} {held : Bool} {v : Value} {d : DataW H} {ps : List MemPlace}
theorem chip_arg (ho : Value.okWide Try.prog W .any base 52 v) (h : DataW.Trod enc Try.prog W b1 sp held 52 v d ps) : ∃ x, v = .agg (cc x).toArray := by
  obtain ⟨cs, rfl⟩ := okWide_agg Try.underlying52 rfl ho
  have hc := open_flat (ks := chK) (by kernel_rfl) h
  simp only [Value.cells] at hc
  obtain ⟨x, hx⟩ := chip_of hc
  exact ⟨x, by rw [← hx]⟩
end
section
variable {H : Type}
theorem chooses_main (W : World) (enc : TypeId × Value → H) (base : Nat) {v0 v1 v2 : Value} {d0 d1 d2 : DataW H} {p0 p1 p2 : List MemPlace}
    (o0 : Value.okWide Try.prog W .any base 24 v0) (h0 : DataW.Trod enc Try.prog W 0 (fun _ => true) true 24 v0 d0 p0)
    (o1 : Value.okWide Try.prog W .any base 52 v1) (h1 : DataW.Trod enc Try.prog W 0 (fun _ => true) true 52 v1 d1 p1)
    (o2 : Value.okWide Try.prog W .any base 52 v2) (h2 : DataW.Trod enc Try.prog W 0 (fun _ => true) true 52 v2 d2 p2) :
    Calls Try.prog 6 #[v0, v1, v2] W fun e W' => e = .returned (.bool true) ∧ ∃ L L', Trk W W' L L' ∧ ∀ x ∈ L, x.2.1 = false := by
  obtain ⟨n, m, b, rfl, hn, _⟩ := view_arg o0 h0
  obtain ⟨x, rfl⟩ := chip_arg o1 h1
  obtain ⟨z, rfl⟩ := chip_arg o2 h2
  exact done_of hpok_nil (by simp) chooses_fn
theorem gone_main (W : World) (enc : TypeId × Value → H) (base : Nat) {v0 v1 v2 : Value} {d0 d1 d2 : DataW H} {p0 p1 p2 : List MemPlace}
    (o0 : Value.okWide Try.prog W .any base 24 v0) (h0 : DataW.Trod enc Try.prog W 0 (fun _ => true) true 24 v0 d0 p0)
    (o1 : Value.okWide Try.prog W .any base 52 v1) (h1 : DataW.Trod enc Try.prog W 0 (fun _ => true) true 52 v1 d1 p1)
    (o2 : Value.okWide Try.prog W .any base 52 v2) (h2 : DataW.Trod enc Try.prog W 0 (fun _ => true) true 52 v2 d2 p2) :
    Calls Try.prog 9 #[v0, v1, v2] W fun e W' => e = .returned (.bool true) ∧ ∃ L L', Trk W W' L L' ∧ ∀ x ∈ L, x.2.1 = false := by
  obtain ⟨n, m, b, rfl, hn, _⟩ := view_arg o0 h0
  obtain ⟨x, rfl⟩ := chip_arg o1 h1
  obtain ⟨z, rfl⟩ := chip_arg o2 h2
  exact done_of hpok_nil (by simp) gone_fn
end
set_option maxRecDepth 100000 in
theorem electChooses_lifted (os : Os) (started : os.Started) (H : Type) (enc : TypeId × Value → H) :
    ReturnsInHanded {} Try.checked os 6 .any (Rows.electChoosesSpec.pre6 enc Try.prog Try.f6 Rows.electChoosesRow.domain false) (Rows.electChoosesSpec.post enc Try.prog Try.f6 false true false false) := by
  refine returnsInHanded_of_change (C := Try.checked) own started (by kernel_rfl) Try.func6
    (ChangeSpec.witness6 (enc := enc) (C := Try.checked) false ⟨#[], #[.agg ([.int .u64 0, .int .i64 0, .int .u64 0] : List Value).toArray, .agg ([.bool false, .bool false, .bool false, .int .u64 0] ++ List.replicate 32 (.int .u8 0) ++ [.int .u32 0, .int .u64 0, .int .u64 0, .int .i64 0, .int .u64 0] : List Value).toArray, .agg ([.bool false, .bool false, .bool false, .int .u64 0] ++ List.replicate 32 (.int .u8 0) ++ [.int .u32 0, .int .u64 0, .int .u64 0, .int .i64 0, .int .u64 0] : List Value).toArray], []⟩ 8 (by kernel_rfl) (by kernel_rfl) (by kernel_rfl) (by kernel_rfl)) ?_
  intro W base args ds gs before hval0 hW hcnd _
  have hval : ∀ (j : Nat) t v, Try.f6.params[j]? = some t → args[j]? = some v → Value.okWide Try.prog W .any base t v := hval0
  have hW' := hW
  obtain ⟨p, q, hA0, hV, hbq, hfz, hnd⟩ := hW
  have hA : DataW.TrodAll enc Try.prog W 0 (fun _ => true) true Try.f6.params.toList args.toList ds p := hA0
  rw [Try.params6] at hA hval
  obtain ⟨v0, vs0, d0, ds0, p0, q0, hargs, rfl, hp0, h0, r0⟩ := trodAll_cons hA
  obtain ⟨v1, vs1, d1, ds1, p1, q1, rfl, rfl, hp1, h1, r1⟩ := trodAll_cons r0
  obtain ⟨v2, vs2, d2, ds2, p2, q2, rfl, rfl, hp2, h2, r2⟩ := trodAll_cons r1
  obtain ⟨rfl, rfl, hpl⟩ := trodAll_nil r2
  obtain rfl : args = #[v0, v1, v2] := by cases args; simp_all
  have hgs : gs = [] := by cases gs with | nil => rfl | cons g gs => exact hV.elim
  subst hgs
  refine (chooses_main W enc base (hval 0 24 v0 rfl rfl) h0 (hval 1 52 v1 rfl rfl) h1 (hval 2 52 v2 rfl rfl) h2).mono fun e W' ⟨he, L, L', ht, hro⟩ => ?_
  subst he
  exact ⟨_, rfl, law_post laidOut hW' rfl (by kernel_rfl) Try.underlying4 (by kernel_rfl) ht hro rfl⟩
theorem electChooses_over : Rows.electChoosesRow.holds Try.pinned (OpenSpec.ofChange Rows.electChoosesSpec) :=
  OpenClaim.holds_of_wide 6 Try.f6 rfl rfl rfl rfl rfl rfl rfl ⟨rfl, rfl, rfl, rfl, rfl⟩ rfl rfl rfl rfl rfl (by kernel_rfl) Try.func6 (by kernel_rfl)
    (of_decide_eq_true (by kernel_rfl)) (by unfold Func.isWrapper; first | (rw [if_pos (by decide +kernel)]; kernel_rfl) | (rw [if_neg (by decide +kernel)]; exact ⟨rfl, rfl⟩))
    (fun os started H enc _ => electChooses_lifted os started H enc)
/-- THE STATEMENT. -/
theorem electChooses_proved : Rows.ElectChoosesSaid := electChooses_over
set_option maxRecDepth 100000 in
theorem electGone_lifted (os : Os) (started : os.Started) (H : Type) (enc : TypeId × Value → H) :
    ReturnsInHanded {} Try.checked os 9 .any (Rows.electGoneSpec.pre6 enc Try.prog Try.f9 Rows.electGoneRow.domain false) (Rows.electGoneSpec.post enc Try.prog Try.f9 false true false false) := by
  refine returnsInHanded_of_change (C := Try.checked) own started (by kernel_rfl) Try.func9
    (ChangeSpec.witness6 (enc := enc) (C := Try.checked) false ⟨#[], #[.agg ([.int .u64 0, .int .i64 0, .int .u64 0] : List Value).toArray, .agg ([.bool false, .bool false, .bool false, .int .u64 0] ++ List.replicate 32 (.int .u8 0) ++ [.int .u32 0, .int .u64 0, .int .u64 0, .int .i64 0, .int .u64 0] : List Value).toArray, .agg ([.bool false, .bool false, .bool false, .int .u64 0] ++ List.replicate 32 (.int .u8 0) ++ [.int .u32 0, .int .u64 0, .int .u64 0, .int .i64 0, .int .u64 0] : List Value).toArray], []⟩ 8 (by kernel_rfl) (by kernel_rfl) (by kernel_rfl) (by kernel_rfl)) ?_
  intro W base args ds gs before hval0 hW hcnd _
  have hval : ∀ (j : Nat) t v, Try.f9.params[j]? = some t → args[j]? = some v → Value.okWide Try.prog W .any base t v := hval0
  have hW' := hW
  obtain ⟨p, q, hA0, hV, hbq, hfz, hnd⟩ := hW
  have hA : DataW.TrodAll enc Try.prog W 0 (fun _ => true) true Try.f9.params.toList args.toList ds p := hA0
  rw [Try.params9] at hA hval
  obtain ⟨v0, vs0, d0, ds0, p0, q0, hargs, rfl, hp0, h0, r0⟩ := trodAll_cons hA
  obtain ⟨v1, vs1, d1, ds1, p1, q1, rfl, rfl, hp1, h1, r1⟩ := trodAll_cons r0
  obtain ⟨v2, vs2, d2, ds2, p2, q2, rfl, rfl, hp2, h2, r2⟩ := trodAll_cons r1
  obtain ⟨rfl, rfl, hpl⟩ := trodAll_nil r2
  obtain rfl : args = #[v0, v1, v2] := by cases args; simp_all
  have hgs : gs = [] := by cases gs with | nil => rfl | cons g gs => exact hV.elim
  subst hgs
  refine (gone_main W enc base (hval 0 24 v0 rfl rfl) h0 (hval 1 52 v1 rfl rfl) h1 (hval 2 52 v2 rfl rfl) h2).mono fun e W' ⟨he, L, L', ht, hro⟩ => ?_
  subst he
  exact ⟨_, rfl, law_post laidOut hW' rfl (by kernel_rfl) Try.underlying4 (by kernel_rfl) ht hro rfl⟩
theorem electGone_over : Rows.electGoneRow.holds Try.pinned (OpenSpec.ofChange Rows.electGoneSpec) :=
  OpenClaim.holds_of_wide 9 Try.f9 rfl rfl rfl rfl rfl rfl rfl ⟨rfl, rfl, rfl, rfl, rfl⟩ rfl rfl rfl rfl rfl (by kernel_rfl) Try.func9 (by kernel_rfl)
    (of_decide_eq_true (by kernel_rfl)) (by unfold Func.isWrapper; first | (rw [if_pos (by decide +kernel)]; kernel_rfl) | (rw [if_neg (by decide +kernel)]; exact ⟨rfl, rfl⟩))
    (fun os started H enc _ => electGone_lifted os started H enc)
/-- THE STATEMENT. -/
theorem electGone_proved : Rows.ElectGoneSaid := electGone_over
end Go.Proofs.Ytocfdkjoklgecaa
