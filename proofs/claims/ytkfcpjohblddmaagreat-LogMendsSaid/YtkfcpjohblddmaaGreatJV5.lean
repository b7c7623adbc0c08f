/- How many bits of a segment must be mended is told exactly; the conditions are the statement's own. -/
import Derived.Test.YtkfcpjohblddmaaGreatJ6
import Derived.Test.YtkfcpjohblddmaaGreatJ3
import Derived.Test.YtkfcpjohblddmaaGreatJ7
namespace Go.Proofs.YtkfcpjohblddmaaGreat
open Go.ChangeShapes Go.WideShapes Go.ChangeAt Go.RowKit Go.K
set_option linter.unusedVariables false
set_option linter.unusedSimpArgs false
set_option linter.constructorNameAsVariable false
set_option maxRecDepth 100000
theorem mends8_main {H : Type} (W : World) (enc : TypeId × Value → H) (base : Nat) {v0 v1 : Value} {d0 d1 : DataW H} {p0 p1 : List MemPlace}
    (o0 : Value.okWide Tryz.prog W .any base 3 v0) (h0 : DataW.Trod enc Tryz.prog W 0 (fun _ => true) true 3 v0 d0 p0)
    (o1 : Value.okWide Tryz.prog W .any base 52 v1) (h1 : DataW.Trod enc Tryz.prog W 0 (fun _ => true) true 52 v1 d1 p1) :
    Calls Tryz.prog 6 #[v0, v1] W fun e W' => e = .returned (.bool true) ∧ ∃ L L', Trk W W' L L' ∧ ∀ x ∈ L, x.2.1 = false := by
  obtain ⟨x0, rfl⟩ := i64_arg o0
  obtain ⟨x1, rfl, k1, r1⟩ := ints_arg o1 h1
  obtain ⟨m1, s1⟩ := ok_nil k1 r1
  exact done_of (L := x1.hp tI' ++ []) m1 s1 (L' := []) mends8_fn
set_option maxRecDepth 100000 in
theorem logMends_lifted (os : Os) (started : os.Started) (H : Type) (enc : TypeId × Value → H) :
    ReturnsInHanded {} Tryz.checked os 6 .any (Rows.logMendsSpec.pre6 enc Tryz.prog Tryz.f6 Rows.logMendsRow.domain false) (Rows.logMendsSpec.post enc Tryz.prog Tryz.f6 false true false false) := by
  refine returnsInHanded_of_change (C := Tryz.checked) own started (by kernel_rfl) Tryz.func6
    (ChangeSpec.witness6 (enc := enc) (C := Tryz.checked) false ⟨#[], #[.int .i64 0, .slice none 0 0], []⟩ 8 (by kernel_rfl) (by kernel_rfl) (by kernel_rfl) (by kernel_rfl)) ?_
  intro W base args ds gs before hval0 hW hcnd _
  have hval : ∀ (j : Nat) t v, Tryz.f6.params[j]? = some t → args[j]? = some v → Value.okWide Tryz.prog W .any base t v := hval0
  have hW' := hW
  obtain ⟨p, q, hA0, hV, hbq, hfz, hnd⟩ := hW
  have hA : DataW.TrodAll enc Tryz.prog W 0 (fun _ => true) true Tryz.f6.params.toList args.toList ds p := hA0
  rw [Tryz.params6] at hA hval
  obtain ⟨v0, vs0, d0, ds0, p0, q0, hargs, rfl, hp0, h0, r0⟩ := trodAll_cons hA
  obtain ⟨v1, vs1, d1, ds1, p1, q1, rfl, rfl, hp1, h1, r1⟩ := trodAll_cons r0
  obtain ⟨rfl, rfl, hpl⟩ := trodAll_nil r1
  obtain rfl : args = #[v0, v1] := by cases args; simp_all
  have hgs : gs = [] := by cases gs with | nil => rfl | cons g gs => exact hV.elim
  subst hgs
  refine (mends8_main W enc base (hval 0 3 v0 rfl rfl) h0 (hval 1 52 v1 rfl rfl) h1).mono fun e W' ⟨he, L, L', ht, hro⟩ => ?_
  subst he
  exact ⟨_, rfl, law_post laidOut hW' rfl (by kernel_rfl) Tryz.underlying4 (by kernel_rfl) ht hro rfl⟩
theorem logMends_over : Rows.logMendsRow.holds Tryz.pinned (OpenSpec.ofChange Rows.logMendsSpec) :=
  OpenClaim.holds_of_wide 6 Tryz.f6 rfl rfl rfl rfl rfl rfl rfl ⟨rfl, rfl, rfl, rfl, rfl⟩ rfl rfl rfl rfl rfl (by kernel_rfl) Tryz.func6 (by kernel_rfl)
    (of_decide_eq_true (by kernel_rfl)) (by unfold Func.isWrapper; first | (rw [if_pos (by decide +kernel)]; kernel_rfl) | (rw [if_neg (by decide +kernel)]; exact ⟨rfl, rfl⟩))
    (fun os started H enc _ => logMends_lifted os started H enc)
/-- THE STATEMENT. -/
theorem logMends_proved : Rows.LogMendsSaid := logMends_over
end Go.Proofs.YtkfcpjohblddmaaGreat
