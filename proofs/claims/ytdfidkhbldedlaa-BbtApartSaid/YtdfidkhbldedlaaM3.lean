/- For every chip of 30 blocks, and every script: no two logical blocks have one block; the conditions are the statement's own. -/
import Derived.Test.YtdfidkhbldedlaaL2
import Derived.Test.YtdfidkhbldedlaaM2
namespace Go.Proofs.Ytdfidkhbldedlaa
open Go.ChangeShapes Go.WideShapes Go.ChangeAt Go.RowKit Go.K
set_option linter.unusedVariables false
set_option linter.unusedSimpArgs false
set_option linter.constructorNameAsVariable false
set_option maxRecDepth 100000

theorem row_op {row : List Value} (h : Conf [some .i64, some .i64, some .i64, none, some .i64] row) : ∃ x : OpV, row = Cel.cs x := by
  obtain ⟨v0, v1, v2, v3, v4, rfl⟩ : ∃ v0 v1 v2 v3 v4, row = [v0, v1, v2, v3, v4] := by
    have := h.len
    match row, this with
    | [v0, v1, v2, v3, v4], _ => exact ⟨v0, v1, v2, v3, v4, rfl⟩
  obtain ⟨⟨n0, rfl, _⟩, ⟨n1, rfl, _⟩, ⟨n2, rfl, _⟩, ⟨b, rfl⟩, ⟨n4, rfl, _⟩, _⟩ := h
  exact ⟨⟨n0, n1, n2, b, n4⟩, rfl⟩
section
variable {H : Type} {enc : TypeId × Value → H} {W : World} {base b1 : Nat} {sp : Nat → Bool} {held : Bool} {v : Value} {d : DataW H} {ps : List MemPlace}
theorem ops_arg (ho : Value.okWide Try.prog W .any base 36 v) (h : DataW.Trod enc Try.prog W b1 sp held 36 v d ps) : ∃ s : Sl OpV, v = s.val ∧ HpOk (s.hp tOp) W ∧ ∀ x ∈ s.hp tOp, x.2.1 = false :=
  sl_arg Try.underlying36 (ks := [some .i64, some .i64, some .i64, none, some .i64]) (by kernel_rfl) rfl (by decide) (fun _ h => row_op h) tOp ho h
end
theorem ok_two {L M : Hp} {W : World} (h1 : HpOk L W) (h2 : HpOk M W) (r1 : ∀ x ∈ L, x.2.1 = false) (r2 : ∀ x ∈ M, x.2.1 = false) : HpOk (L ++ (M ++ [])) W ∧ ∀ x ∈ L ++ (M ++ []), x.2.1 = false := by
  rw [List.append_nil]
  refine ⟨⟨List.pairwise_append.2 ⟨h1.far, h2.far, fun x hx y hy _ => ⟨r1 x hx, r2 y hy⟩⟩, fun x hx => ?_⟩, fun x hx => ?_⟩
  · rcases List.mem_append.1 hx with h | h
    · exact h1.here x h
    · exact h2.here x h
  · rcases List.mem_append.1 hx with h | h
    · exact r1 x h
    · exact r2 x h
theorem apart_main {H : Type} (W : World) (enc : TypeId × Value → H) (base : Nat) {v0 v1 : Value} {d0 d1 : DataW H} {p0 p1 : List MemPlace}
    (o0 : Value.okWide Try.prog W .any base 22 v0) (h0 : DataW.Trod enc Try.prog W 0 (fun _ => true) true 22 v0 d0 p0)
    (o1 : Value.okWide Try.prog W .any base 36 v1) (h1 : DataW.Trod enc Try.prog W 0 (fun _ => true) true 36 v1 d1 p1) :
    Calls Try.prog 4 #[v0, v1] W fun e W' => e = .returned (.bool true) ∧ ∃ L L', Trk W W' L L' ∧ ∀ x ∈ L, x.2.1 = false := by
  obtain ⟨s, rfl, k1, r1⟩ := ints_arg o0 h0
  obtain ⟨sc, rfl, k2, r2⟩ := ops_arg o1 h1
  obtain ⟨hok, hro⟩ := ok_two k1 k2 r1 r2
  exact done_of (L := s.hp tI ++ (sc.hp tOp ++ [])) hok hro (L' := []) apart_fn
set_option maxRecDepth 100000 in
theorem bbtApart_lifted (os : Os) (started : os.Started) (H : Type) (enc : TypeId × Value → H) :
    ReturnsInHanded {} Try.checked os 4 .any (Rows.bbtApartSpec.pre6 enc Try.prog Try.f4 Rows.bbtApartRow.domain false) (Rows.bbtApartSpec.post enc Try.prog Try.f4 false true false false) := by
  refine returnsInHanded_of_change (C := Try.checked) own started (by kernel_rfl) Try.func4
    (ChangeSpec.witness6 (enc := enc) (C := Try.checked) false ⟨#[], #[.slice none 0 0, .slice none 0 0], []⟩ 8 (by kernel_rfl) (by kernel_rfl) (by kernel_rfl) (by kernel_rfl)) ?_
  intro W base args ds gs before hval0 hW hcnd _
  have hval : ∀ (j : Nat) t v, Try.f4.params[j]? = some t → args[j]? = some v → Value.okWide Try.prog W .any base t v := hval0
  have hW' := hW
  obtain ⟨p, q, hA0, hV, hbq, hfz, hnd⟩ := hW
  have hA : DataW.TrodAll enc Try.prog W 0 (fun _ => true) true Try.f4.params.toList args.toList ds p := hA0
  rw [Try.params4] at hA hval
  obtain ⟨v0, vs0, d0, ds0, p0, q0, hargs, rfl, hp0, h0, r0⟩ := trodAll_cons hA
  obtain ⟨v1, vs1, d1, ds1, p1, q1, rfl, rfl, hp1, h1, r1⟩ := trodAll_cons r0
  obtain ⟨rfl, rfl, hpl⟩ := trodAll_nil r1
  obtain rfl : args = #[v0, v1] := by cases args; simp_all
  have hgs : gs = [] := by cases gs with | nil => rfl | cons g gs => exact hV.elim
  subst hgs
  refine (apart_main W enc base (hval 0 22 v0 rfl rfl) h0 (hval 1 36 v1 rfl rfl) h1).mono fun e W' ⟨he, L, L', ht, hro⟩ => ?_
  subst he
  exact ⟨_, rfl, law_post laidOut hW' rfl (by kernel_rfl) Try.underlying4 (by kernel_rfl) ht hro rfl⟩
theorem bbtApart_over : Rows.bbtApartRow.holds Try.pinned (OpenSpec.ofChange Rows.bbtApartSpec) :=
  OpenClaim.holds_of_wide 4 Try.f4 rfl rfl rfl rfl rfl rfl rfl ⟨rfl, rfl, rfl, rfl, rfl⟩ rfl rfl rfl rfl rfl (by kernel_rfl) Try.func4 (by kernel_rfl)
    (of_decide_eq_true (by kernel_rfl)) (by unfold Func.isWrapper; first | (rw [if_pos (by decide +kernel)]; kernel_rfl) | (rw [if_neg (by decide +kernel)]; exact ⟨rfl, rfl⟩))
    (fun os started H enc _ => bbtApart_lifted os started H enc)
/-- THE STATEMENT. -/
theorem bbtApart_proved : Rows.BbtApartSaid := bbtApart_over
end Go.Proofs.Ytdfidkhbldedlaa
