/- Who is elected is a member, whole, and not behind: as a row. -/
import Derived.Test.YtocfdkjoklgecaaE2
import Derived.Test.YtocfdkjoklgecaaE5
namespace Go.Proofs.Ytocfdkjoklgecaa
open Go.ChangeShapes Go.WideShapes Go.ChangeAt Go.RowKit Go.K
set_option linter.unusedVariables false
set_option linter.unusedSimpArgs false
section
variable {H : Type}
theorem safe_main (W : World) (enc : TypeId × Value → H) (base : Nat) {v0 v1 v2 : Value} {d0 d1 d2 : DataW H} {p0 p1 p2 : List MemPlace}
    (o0 : Value.okWide Try.prog W .any base 24 v0) (h0 : DataW.Trod enc Try.prog W 0 (fun _ => true) true 24 v0 d0 p0)
    (o1 : Value.okWide Try.prog W .any base 52 v1) (h1 : DataW.Trod enc Try.prog W 0 (fun _ => true) true 52 v1 d1 p1)
    (o2 : Value.okWide Try.prog W .any base 52 v2) (h2 : DataW.Trod enc Try.prog W 0 (fun _ => true) true 52 v2 d2 p2) :
    Calls Try.prog 7 #[v0, v1, v2] W fun e W' => e = .returned (.bool true) ∧ ∃ L L', Trk W W' L L' ∧ ∀ x ∈ L, x.2.1 = false := by
  obtain ⟨n, m, b, rfl, hn, _⟩ := view_arg o0 h0
  obtain ⟨x, rfl⟩ := chip_arg o1 h1
  obtain ⟨z, rfl⟩ := chip_arg o2 h2
  exact done_of hpok_nil (by simp) safe_fn
end
set_option maxRecDepth 100000 in
theorem electSafe_lifted (os : Os) (started : os.Started) (H : Type) (enc : TypeId × Value → H) :
    ReturnsInHanded {} Try.checked os 7 .any (Rows.electSafeSpec.pre6 enc Try.prog Try.f7 Rows.electSafeRow.domain false) (Rows.electSafeSpec.post enc Try.prog Try.f7 false true false false) := by
  refine returnsInHanded_of_change (C := Try.checked) own started (by kernel_rfl) Try.func7
    (ChangeSpec.witness6 (enc := enc) (C := Try.checked) false ⟨#[], #[.agg ([.int .u64 0, .int .i64 0, .int .u64 0] : List Value).toArray, .agg ([.bool false, .bool false, .bool false, .int .u64 0] ++ List.replicate 32 (.int .u8 0) ++ [.int .u32 0, .int .u64 0, .int .u64 0, .int .i64 0, .int .u64 0] : List Value).toArray, .agg ([.bool false, .bool false, .bool false, .int .u64 0] ++ List.replicate 32 (.int .u8 0) ++ [.int .u32 0, .int .u64 0, .int .u64 0, .int .i64 0, .int .u64 0] : List Value).toArray], []⟩ 8 (by kernel_rfl) (by kernel_rfl) (by kernel_rfl) (by kernel_rfl)) ?_
  intro W base args ds gs before hval0 hW hcnd _
  have hval : ∀ (j : Nat) t v, Try.f7.params[j]? = some t → args[j]? = some v → Value.okWide Try.prog W .any base t v := hval0
  have hW' := hW
  obtain ⟨p, q, hA0, hV, hbq, hfz, hnd⟩ := hW
  have hA : DataW.TrodAll enc Try.prog W 0 (fun _ => true) true Try.f7.params.toList args.toList ds p := hA0
  rw [Try.params7] at hA hval
  obtain ⟨v0, vs0, d0, ds0, p0, q0, hargs, rfl, hp0, h0, r0⟩ := trodAll_cons hA
  obtain ⟨v1, vs1, d1, ds1, p1, q1, rfl, rfl, hp1, h1, r1⟩ := trodAll_cons r0
  obtain ⟨v2, vs2, d2, ds2, p2, q2, rfl, rfl, hp2, h2, r2⟩ := trodAll_cons r1
  obtain ⟨rfl, rfl, hpl⟩ := trodAll_nil r2
  obtain rfl : args = #[v0, v1, v2] := by cases args; simp_all
  have hgs : gs = [] := by cases gs with | nil => rfl | cons g gs => exact hV.elim
  subst hgs
  refine (safe_main W enc base (hval 0 24 v0 rfl rfl) h0 (hval 1 52 v1 rfl rfl) h1 (hval 2 52 v2 rfl rfl) h2).mono fun e W' ⟨he, L, L', ht, hro⟩ => ?_
  subst he
  exact ⟨_, rfl, law_post laidOut hW' rfl (by kernel_rfl) Try.underlying4 (by kernel_rfl) ht hro rfl⟩
theorem electSafe_over : Rows.electSafeRow.holds Try.pinned (OpenSpec.ofChange Rows.electSafeSpec) :=
  OpenClaim.holds_of_wide 7 Try.f7 rfl rfl rfl rfl rfl rfl rfl ⟨rfl, rfl, rfl, rfl, rfl⟩ rfl rfl rfl rfl rfl (by kernel_rfl) Try.func7 (by kernel_rfl)
    (of_decide_eq_true (by kernel_rfl)) (by unfold Func.isWrapper; first | (rw [if_pos (by decide +kernel)]; kernel_rfl) | (rw [if_neg (by decide +kernel)]; exact ⟨rfl, rfl⟩))
    (fun os started H enc _ => electSafe_lifted os started H enc)
/-- THE STATEMENT. -/
theorem electSafe_proved : Rows.ElectSafeSaid := electSafe_over
end Go.Proofs.Ytocfdkjoklgecaa
