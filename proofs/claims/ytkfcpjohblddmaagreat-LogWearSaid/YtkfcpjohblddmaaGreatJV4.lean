/- The block that is begun is one of the free ones with the least wear; the conditions are the statement's own. -/
import Derived.Test.YtkfcpjohblddmaaGreatJ6
import Derived.Test.YtkfcpjohblddmaaGreatJ3
import Derived.Test.YtkfcpjohblddmaaGreatJ7
namespace Go.Proofs.YtkfcpjohblddmaaGreat
open Go.ChangeShapes Go.WideShapes Go.ChangeAt Go.RowKit Go.K
set_option linter.unusedVariables false
set_option linter.unusedSimpArgs false
set_option linter.constructorNameAsVariable false
set_option maxRecDepth 100000
theorem wear8_main {H : Type} (W : World) (enc : TypeId × Value → H) (base : Nat) {v0 : Value} {d0 : DataW H} {p0 : List MemPlace}
    (o0 : Value.okWide Tryz.prog W .any base 52 v0) (h0 : DataW.Trod enc Tryz.prog W 0 (fun _ => true) true 52 v0 d0 p0) :
    Calls Tryz.prog 7 #[v0] W fun e W' => e = .returned (.bool true) ∧ ∃ L L', Trk W W' L L' ∧ ∀ x ∈ L, x.2.1 = false := by
  obtain ⟨x0, rfl, k0, r0⟩ := ints_arg o0 h0
  obtain ⟨m0, s0⟩ := ok_nil k0 r0
  exact done_of (L := x0.hp tI' ++ []) m0 s0 (L' := []) wear8_fn
set_option maxRecDepth 100000 in
theorem logWear_lifted (os : Os) (started : os.Started) (H : Type) (enc : TypeId × Value → H) :
    ReturnsInHanded {} Tryz.checked os 7 .any (Rows.logWearSpec.pre6 enc Tryz.prog Tryz.f7 Rows.logWearRow.domain false) (Rows.logWearSpec.post enc Tryz.prog Tryz.f7 false true false false) := by
  refine returnsInHanded_of_change (C := Tryz.checked) own started (by kernel_rfl) Tryz.func7
    (ChangeSpec.witness6 (enc := enc) (C := Tryz.checked) false ⟨#[], #[.slice none 0 0], []⟩ 8 (by kernel_rfl) (by kernel_rfl) (by kernel_rfl) (by kernel_rfl)) ?_
  intro W base args ds gs before hval0 hW hcnd _
  have hval : ∀ (j : Nat) t v, Tryz.f7.params[j]? = some t → args[j]? = some v → Value.okWide Tryz.prog W .any base t v := hval0
  have hW' := hW
  obtain ⟨p, q, hA0, hV, hbq, hfz, hnd⟩ := hW
  have hA : DataW.TrodAll enc Tryz.prog W 0 (fun _ => true) true Tryz.f7.params.toList args.toList ds p := hA0
  rw [Tryz.params7] at hA hval
  obtain ⟨v0, vs0, d0, ds0, p0, q0, hargs, rfl, hp0, h0, r0⟩ := trodAll_cons hA
  obtain ⟨rfl, rfl, hpl⟩ := trodAll_nil r0
  obtain rfl : args = #[v0] := by cases args; simp_all
  have hgs : gs = [] := by cases gs with | nil => rfl | cons g gs => exact hV.elim
  subst hgs
  refine (wear8_main W enc base (hval 0 52 v0 rfl rfl) h0).mono fun e W' ⟨he, L, L', ht, hro⟩ => ?_
  subst he
  exact ⟨_, rfl, law_post laidOut hW' rfl (by kernel_rfl) Tryz.underlying4 (by kernel_rfl) ht hro rfl⟩
theorem logWear_over : Rows.logWearRow.holds Tryz.pinned (OpenSpec.ofChange Rows.logWearSpec) :=
  OpenClaim.holds_of_wide 7 Tryz.f7 rfl rfl rfl rfl rfl rfl rfl ⟨rfl, rfl, rfl, rfl, rfl⟩ rfl rfl rfl rfl rfl (by kernel_rfl) Tryz.func7 (by kernel_rfl)
    (of_decide_eq_true (by kernel_rfl)) (by unfold Func.isWrapper; first | (rw [if_pos (by decide +kernel)]; kernel_rfl) | (rw [if_neg (by decide +kernel)]; exact ⟨rfl, rfl⟩))
    (fun os started H enc _ => logWear_lifted os started H enc)
/-- THE STATEMENT. -/
theorem logWear_proved : Rows.LogWearSaid := logWear_over
end Go.Proofs.YtkfcpjohblddmaaGreat
