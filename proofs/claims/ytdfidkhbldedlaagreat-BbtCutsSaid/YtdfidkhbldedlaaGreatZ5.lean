/- What every row of these laws opens its arguments by. -/
import Derived.Test.YtdfidkhbldedlaaGreatR2
import Derived.Test.YtdfidkhbldedlaaGreatM1
namespace Go.Proofs.YtdfidkhbldedlaaGreat
open Go.ChangeShapes Go.WideShapes Go.ChangeAt Go.RowKit Go.K
set_option linter.unusedVariables false
set_option linter.unusedSimpArgs false
set_option linter.constructorNameAsVariable false
set_option maxRecDepth 100000
abbrev tI' : TypeId := 3
abbrev tOp' : TypeId := 39
theorem own : ownKnob Tryz.prog.godebug = none := by kernel_rfl
theorem laidOut : laidOutB Tryz.prog = true := by kernel_rfl
theorem row_op {row : List Value} (h : Conf [some .i64, some .i64, some .i64, none, some .i64] row) : ∃ x : OpV, row = Cel.cs x := by
  obtain ⟨v0, v1, v2, v3, v4, rfl⟩ : ∃ v0 v1 v2 v3 v4, row = [v0, v1, v2, v3, v4] := by
    have := h.len
    match row, this with
    | [v0, v1, v2, v3, v4], _ => exact ⟨v0, v1, v2, v3, v4, rfl⟩
  obtain ⟨⟨n0, rfl, _⟩, ⟨n1, rfl, _⟩, ⟨n2, rfl, _⟩, ⟨b, rfl⟩, ⟨n4, rfl, _⟩, _⟩ := h
  exact ⟨⟨n0, n1, n2, b, n4⟩, rfl⟩
section
variable {H : Type} {enc : TypeId × Value → H} {W : World} {base b1 : Nat} {sp : Nat → Bool} {held : Bool} {v : Value} {d : DataW H} {ps : List MemPlace}
theorem ints_arg (ho : Value.okWide Tryz.prog W .any base 22 v) (h : DataW.Trod enc Tryz.prog W b1 sp held 22 v d ps) : ∃ s : Sl Int, v = s.val ∧ HpOk (s.hp tI') W ∧ ∀ x ∈ s.hp tI', x.2.1 = false :=
  sl_arg Tryz.underlying22 (ks := [some .i64]) (by kernel_rfl) rfl (by decide) (fun _ h => row_int h) tI' ho h
theorem i64_arg (ho : Value.okWide Tryz.prog W .any base 3 v) : ∃ n, v = .int .i64 n := okWide_int Tryz.underlying3 ho
theorem bool_arg (ho : Value.okWide Tryz.prog W .any base 4 v) : ∃ b, v = .bool b := okWide_bool Tryz.underlying4 ho
theorem ops_arg (ho : Value.okWide Tryz.prog W .any base 23 v) (h : DataW.Trod enc Tryz.prog W b1 sp held 23 v d ps) : ∃ s : Sl OpV, v = s.val ∧ HpOk (s.hp tOp') W ∧ ∀ x ∈ s.hp tOp', x.2.1 = false :=
  sl_arg Tryz.underlying23 (ks := [some .i64, some .i64, some .i64, none, some .i64]) (by kernel_rfl) rfl (by decide) (fun _ h => row_op h) tOp' ho h
end
theorem ok_app {L M : Hp} {W : World} (h1 : HpOk L W) (h2 : HpOk M W) (r1 : ∀ x ∈ L, x.2.1 = false) (r2 : ∀ x ∈ M, x.2.1 = false) : HpOk (L ++ M) W ∧ ∀ x ∈ L ++ M, x.2.1 = false := by
  refine ⟨⟨List.pairwise_append.2 ⟨h1.far, h2.far, fun x hx y hy _ => ⟨r1 x hx, r2 y hy⟩⟩, fun x hx => ?_⟩, fun x hx => ?_⟩
  · rcases List.mem_append.1 hx with h | h
    · exact h1.here x h
    · exact h2.here x h
  · rcases List.mem_append.1 hx with h | h
    · exact r1 x h
    · exact r2 x h
theorem ok_nil {L : Hp} {W : World} (h1 : HpOk L W) (r1 : ∀ x ∈ L, x.2.1 = false) : HpOk (L ++ []) W ∧ ∀ x ∈ L ++ [], x.2.1 = false := by
  rw [List.append_nil]; exact ⟨h1, r1⟩
end Go.Proofs.YtdfidkhbldedlaaGreat
