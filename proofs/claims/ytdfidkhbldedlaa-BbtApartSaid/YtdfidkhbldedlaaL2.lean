/- For every chip, whatever blocks are bad: one that was never given a table has none, and one that doesn't answer says so; the conditions are the statement's own. -/
import Derived.Test.YtdfidkhbldedlaaR2
import Derived.Test.YtdfidkhbldedlaaL1
namespace Go.Proofs.Ytdfidkhbldedlaa
open Go.ChangeShapes Go.WideShapes Go.ChangeAt Go.RowKit Go.K
set_option linter.unusedVariables false
set_option linter.unusedSimpArgs false
set_option linter.constructorNameAsVariable false
set_option maxRecDepth 100000

theorem own : ownKnob Try.prog.godebug = none := by kernel_rfl
theorem laidOut : laidOutB Try.prog = true := by kernel_rfl
section
variable {H : Type} {enc : TypeId × Value → H} {W : World} {base b1 : Nat} {sp : Nat → Bool} {held : Bool} {v : Value} {d : DataW H} {ps : List MemPlace}
theorem ints_arg (ho : Value.okWide Try.prog W .any base 22 v) (h : DataW.Trod enc Try.prog W b1 sp held 22 v d ps) : ∃ s : Sl Int, v = s.val ∧ HpOk (s.hp tI) W ∧ ∀ x ∈ s.hp tI, x.2.1 = false :=
  sl_arg Try.underlying22 (ks := [some .i64]) (by kernel_rfl) rfl (by decide) (fun _ h => row_int h) tI ho h
theorem i64_arg (ho : Value.okWide Try.prog W .any base 3 v) : ∃ n, v = .int .i64 n := okWide_int Try.underlying3 ho
theorem bool_arg (ho : Value.okWide Try.prog W .any base 4 v) : ∃ b, v = .bool b := okWide_bool Try.underlying4 ho
end
theorem none_main {H : Type} (W : World) (enc : TypeId × Value → H) (base : Nat) {v0 v1 v2 : Value} {d0 d1 d2 : DataW H} {p0 p1 p2 : List MemPlace}
    (o0 : Value.okWide Try.prog W .any base 3 v0) (h0 : DataW.Trod enc Try.prog W 0 (fun _ => true) true 3 v0 d0 p0)
    (o1 : Value.okWide Try.prog W .any base 22 v1) (h1 : DataW.Trod enc Try.prog W 0 (fun _ => true) true 22 v1 d1 p1)
    (o2 : Value.okWide Try.prog W .any base 4 v2) (h2 : DataW.Trod enc Try.prog W 0 (fun _ => true) true 4 v2 d2 p2) :
    Calls Try.prog 3 #[v0, v1, v2] W fun e W' => e = .returned (.bool true) ∧ ∃ L L', Trk W W' L L' ∧ ∀ x ∈ L, x.2.1 = false := by
  obtain ⟨n, rfl⟩ := i64_arg o0
  obtain ⟨s, rfl, hok, hro⟩ := ints_arg o1 h1
  obtain ⟨b, rfl⟩ := bool_arg o2
  exact done_of (L := s.hp tI ++ []) (by rw [List.append_nil]; exact hok) (by rw [List.append_nil]; exact hro) (L' := []) none_fn
set_option maxRecDepth 100000 in
theorem bbtNone_lifted (os : Os) (started : os.Started) (H : Type) (enc : TypeId × Value → H) :
    ReturnsInHanded {} Try.checked os 3 .any (Rows.bbtNoneSpec.pre6 enc Try.prog Try.f3 Rows.bbtNoneRow.domain false) (Rows.bbtNoneSpec.post enc Try.prog Try.f3 false true false false) := by
  refine returnsInHanded_of_change (C := Try.checked) own started (by kernel_rfl) Try.func3
    (ChangeSpec.witness6 (enc := enc) (C := Try.checked) false ⟨#[], #[.int .i64 0, .slice none 0 0, .bool false], []⟩ 8 (by kernel_rfl) (by kernel_rfl) (by kernel_rfl) (by kernel_rfl)) ?_
  intro W base args ds gs before hval0 hW hcnd _
  have hval : ∀ (j : Nat) t v, Try.f3.params[j]? = some t → args[j]? = some v → Value.okWide Try.prog W .any base t v := hval0
  have hW' := hW
  obtain ⟨p, q, hA0, hV, hbq, hfz, hnd⟩ := hW
  have hA : DataW.TrodAll enc Try.prog W 0 (fun _ => true) true Try.f3.params.toList args.toList ds p := hA0
  rw [Try.params3] at hA hval
  obtain ⟨v0, vs0, d0, ds0, p0, q0, hargs, rfl, hp0, h0, r0⟩ := trodAll_cons hA
  obtain ⟨v1, vs1, d1, ds1, p1, q1, rfl, rfl, hp1, h1, r1⟩ := trodAll_cons r0
  obtain ⟨v2, vs2, d2, ds2, p2, q2, rfl, rfl, hp2, h2, r2⟩ := trodAll_cons r1
  obtain ⟨rfl, rfl, hpl⟩ := trodAll_nil r2
  obtain rfl : args = #[v0, v1, v2] := by cases args; simp_all
  have hgs : gs = [] := by cases gs with | nil => rfl | cons g gs => exact hV.elim
  subst hgs
  refine (none_main W enc base (hval 0 3 v0 rfl rfl) h0 (hval 1 22 v1 rfl rfl) h1 (hval 2 4 v2 rfl rfl) h2).mono fun e W' ⟨he, L, L', ht, hro⟩ => ?_
  subst he
  exact ⟨_, rfl, law_post laidOut hW' rfl (by kernel_rfl) Try.underlying4 (by kernel_rfl) ht hro rfl⟩
theorem bbtNone_over : Rows.bbtNoneRow.holds Try.pinned (OpenSpec.ofChange Rows.bbtNoneSpec) :=
  OpenClaim.holds_of_wide 3 Try.f3 rfl rfl rfl rfl rfl rfl rfl ⟨rfl, rfl, rfl, rfl, rfl⟩ rfl rfl rfl rfl rfl (by kernel_rfl) Try.func3 (by kernel_rfl)
    (of_decide_eq_true (by kernel_rfl)) (by unfold Func.isWrapper; first | (rw [if_pos (by decide +kernel)]; kernel_rfl) | (rw [if_neg (by decide +kernel)]; exact ⟨rfl, rfl⟩))
    (fun os started H enc _ => bbtNone_lifted os started H enc)
/-- THE STATEMENT. -/
theorem bbtNone_proved : Rows.BbtNoneSaid := bbtNone_over
end Go.Proofs.Ytdfidkhbldedlaa
