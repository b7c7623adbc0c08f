/-
  The thin layer, tenth part: aggregates in one piece.
-/
import Derived.Test.YtdfidkhbldedlaaGreatK8
namespace Go.K
set_option linter.unusedVariables false
section
variable {P : Program} {n : Nat} {E : Env} {H : Hp} {Q : Post} {ops : Array Oper} {rest : List Oper}
theorem o_boxA {d : Nat} {t : TypeId} {x : Operand} {ty : TypeId} {pos : String} {af : Array Edge} {cs : List Value} (hx : ev E x = some (.agg cs.toArray)) (hd : Nat.blt d n = true)
    (k : ∀ b, SO P n ops rest ((d, .pointer (some ⟨b, 0, none⟩)) :: E) ((b, true, C cs t) :: H) Q) : SO P n ops (⟨some d, .box t x, ty, pos, af, none⟩ :: rest) E H Q := o_box hx hd k
end
end Go.K
