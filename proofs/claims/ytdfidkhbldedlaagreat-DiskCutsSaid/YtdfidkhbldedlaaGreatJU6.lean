/- For every script, all fails, and wherever the power goes: every page that was written is read as it was; the conditions are the statement's own. -/
import Derived.Test.YtdfidkhbldedlaaGreatJ5
import Derived.Test.YtdfidkhbldedlaaGreatJ6
import Derived.Test.YtdfidkhbldedlaaGreatJ7
namespace Go.Proofs.YtdfidkhbldedlaaGreat
open Go.ChangeShapes Go.WideShapes Go.ChangeAt Go.RowKit Go.K
set_option linter.unusedVariables false
set_option linter.unusedSimpArgs false
set_option linter.constructorNameAsVariable false
set_option maxRecDepth 100000
theorem dcuts_main {H : Type} (W : World) (enc : TypeId × Value → H) (base : Nat) {v0 v1 : Value} {d0 d1 : DataW H} {p0 p1 : List MemPlace}
    (o0 : Value.okWide Tryz.prog W .any base 70 v0) (h0 : DataW.Trod enc Tryz.prog W 0 (fun _ => true) true 70 v0 d0 p0)
    (o1 : Value.okWide Tryz.prog W .any base 22 v1) (h1 : DataW.Trod enc Tryz.prog W 0 (fun _ => true) true 22 v1 d1 p1) :
    Calls Tryz.prog 11 #[v0, v1] W fun e W' => e = .returned (.bool true) ∧ ∃ L L', Trk W W' L L' ∧ ∀ x ∈ L, x.2.1 = false := by
  obtain ⟨x0, rfl, k0, r0⟩ := ops7_arg o0 h0
  obtain ⟨x1, rfl, k1, r1⟩ := ints_arg o1 h1
  obtain ⟨m1, s1⟩ := ok_nil k1 r1
  obtain ⟨m0, s0⟩ := ok_app k0 m1 r0 s1
  exact done_of (L := x0.hp tO7 ++ (x1.hp tI' ++ [])) m0 s0 (L' := []) dcuts_fn
set_option maxRecDepth 100000 in
theorem diskCuts_lifted (os : Os) (started : os.Started) (H : Type) (enc : TypeId × Value → H) :
    ReturnsInHanded {} Tryz.checked os 11 .any (Rows.diskCutsSpec.pre6 enc Tryz.prog Tryz.f11 Rows.diskCutsRow.domain false) (Rows.diskCutsSpec.post enc Tryz.prog Tryz.f11 false true false false) := by
  refine returnsInHanded_of_change (C := Tryz.checked) own started (by kernel_rfl) Tryz.func11
    (ChangeSpec.witness6 (enc := enc) (C := Tryz.checked) false ⟨#[], #[.slice none 0 0, .slice none 0 0], []⟩ 8 (by kernel_rfl) (by kernel_rfl) (by kernel_rfl) (by kernel_rfl)) ?_
  intro W base args ds gs before hval0 hW hcnd _
  have hval : ∀ (j : Nat) t v, Tryz.f11.params[j]? = some t → args[j]? = some v → Value.okWide Tryz.prog W .any base t v := hval0
  have hW' := hW
  obtain ⟨p, q, hA0, hV, hbq, hfz, hnd⟩ := hW
  have hA : DataW.TrodAll enc Tryz.prog W 0 (fun _ => true) true Tryz.f11.params.toList args.toList ds p := hA0
  rw [Tryz.params11] at hA hval
  obtain ⟨v0, vs0, d0, ds0, p0, q0, hargs, rfl, hp0, h0, r0⟩ := trodAll_cons hA
  obtain ⟨v1, vs1, d1, ds1, p1, q1, rfl, rfl, hp1, h1, r1⟩ := trodAll_cons r0
  obtain ⟨rfl, rfl, hpl⟩ := trodAll_nil r1
  obtain rfl : args = #[v0, v1] := by cases args; simp_all
  have hgs : gs = [] := by cases gs with | nil => rfl | cons g gs => exact hV.elim
  subst hgs
  refine (dcuts_main W enc base (hval 0 70 v0 rfl rfl) h0 (hval 1 22 v1 rfl rfl) h1).mono fun e W' ⟨he, L, L', ht, hro⟩ => ?_
  subst he
  exact ⟨_, rfl, law_post laidOut hW' rfl (by kernel_rfl) Tryz.underlying4 (by kernel_rfl) ht hro rfl⟩
theorem diskCuts_over : Rows.diskCutsRow.holds Tryz.pinned (OpenSpec.ofChange Rows.diskCutsSpec) :=
  OpenClaim.holds_of_wide 11 Tryz.f11 rfl rfl rfl rfl rfl rfl rfl ⟨rfl, rfl, rfl, rfl, rfl⟩ rfl rfl rfl rfl rfl (by kernel_rfl) Tryz.func11 (by kernel_rfl)
    (of_decide_eq_true (by kernel_rfl)) (by unfold Func.isWrapper; first | (rw [if_pos (by decide +kernel)]; kernel_rfl) | (rw [if_neg (by decide +kernel)]; exact ⟨rfl, rfl⟩))
    (fun os started H enc _ => diskCuts_lifted os started H enc)
/-- THE STATEMENT. -/
theorem diskCuts_proved : Rows.DiskCutsSaid := diskCuts_over
end Go.Proofs.YtdfidkhbldedlaaGreat
