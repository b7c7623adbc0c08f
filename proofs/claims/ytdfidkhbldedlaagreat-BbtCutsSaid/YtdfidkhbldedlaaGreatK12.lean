/-
  The thin layer, twelfth part: calls of function values; bytes of strings.
-/
import Derived.Test.YtdfidkhbldedlaaGreatK9
import Derived.Test.YtdfidkhbldedlaaGreatK10
namespace Go.K
set_option linter.unusedVariables false
set_option linter.unusedSimpArgs false
section
variable {P : Program} {n : Nat} {E : Env} {H : Hp} {Q : Post} {ops : Array Oper} {rest : List Oper}

/-- A call of what a slot holds: a function, what it has caught, what comes first. -/
theorem o_callf {d : Nat} {x : Operand} {f : FuncId} {fi ca : List Value} {xs : List Operand} {ts : Array TypeId} {ty : TypeId} {pos : String} {af : Array Edge} {args : List Value} {L F : Hp} {R : Value → Hp → Prop} [he : Ent P f]
    (hg : ev E x = some (.func (.func f) fi.toArray ca.toArray)) (hx : evl E xs = some args) (hf : Does P f (fi ++ args ++ ca) L R) (hs : Split H L F) (hd : Nat.blt d n = true)
    (k : ∀ v L', R v L' → SO P n ops rest ((d, v) :: E) (L' ++ F) Q) : SO P n ops (⟨some d, .call ⟨.value x, xs.toArray, ts⟩, ty, pos, af, none⟩ :: rest) E H Q := by
  intro a w h1 h2 h3 h4
  refine wpList_plain rfl fun K hK => ?_
  have hrun : (execOp a.eval ⟨some d, .call ⟨.value x, xs.toArray, ts⟩, ty, pos, af, none⟩).run P w = .ok (.enter f (fi ++ args ++ ca).toArray) w := by
    have e := evl_ok h1 hx
    have e2 : xs.toArray.map a.eval = args.toArray := by rw [← e]; simp
    simp only [execOp, resolve, Sem.run_bind, ev_ok h1 hg, Deferred.ofValue, Sem.run_pure, Result.andThen_ok, invoke]
    rw [e2]
    have := he.eq (fi ++ args ++ ca).toArray w
    simpa using this
  unfold Oper.wp
  rw [hrun, Oper.upon_enter]
  have hp := hs.perm
  have hok := h4.perm hp
  refine (hf w hok.left).mono ?_
  rintro e w' ⟨v, L', rfl, hR, ht⟩
  have ht' : Trk w w' H (L' ++ F) := (ht.frame hok).perm_left hp.symm
  have hk := k v L' hR
  refine hK _ _ (wpList_up ht' ?_)
  have hlt : d < a.tmps.size := by rw [h2]; exact Nat.le_of_ble_eq_true hd
  exact hk _ _ (h1.put hlt) (by simp [Act.put, h2]) h3 ht'.ok
theorem o_callf_is {d : Nat} {x : Operand} {f : FuncId} {fi ca : List Value} {xs : List Operand} {ts : Array TypeId} {ty : TypeId} {pos : String} {af : Array Edge} {args : List Value} {L F Y : Hp} {X : Value} [he : Ent P f]
    (hg : ev E x = some (.func (.func f) fi.toArray ca.toArray)) (hx : evl E xs = some args) (hf : Does P f (fi ++ args ++ ca) L (Is X Y)) (hs : Split H L F) (hd : Nat.blt d n = true) {G : Hp} (hgg : appO Y F = some G)
    (k : SO P n ops rest ((d, X) :: E) G Q) : SO P n ops (⟨some d, .call ⟨.value x, xs.toArray, ts⟩, ty, pos, af, none⟩ :: rest) E H Q :=
  o_callf hg hx hf hs hd fun v L' ⟨h1, h2⟩ => by subst h1; subst h2; rw [← appO_eq hgg]; exact k

/-- makeFunc with what comes first (a method's receiver) and what is caught -/
theorem rd_func2 {f : FuncId} {fi cap : List Operand} {us vs : List (Nat × Value)} (hu : evs E (fi.map (fun x => (0, x))) = some us) (hv : evs E (cap.map (fun x => (0, x))) = some vs) :
    Rd P E H (.makeFunc (.func f) fi.toArray cap.toArray) (.func (.func f) (us.map (·.2)).toArray (vs.map (·.2)).toArray) :=
  fun a w d ty pos af g h1 h2 => by
    have := evs_ok h1 hv
    have e : (cap.map a.eval) = vs.map (·.2) := by rw [← this]; simp
    have := evs_ok h1 hu
    have e2 : (fi.map a.eval) = us.map (·.2) := by rw [← this]; simp
    simp [execOp, Instr.makeFunc, e, e2]

/-- a string's byte -/
theorem rd_ixStr {t : TypeId} {x y : Operand} {k : IntKind} {i : Int} {s : ByteArray} {b : UInt8} [ht : Und P t .string] (hx : ev E x = some (.string s)) (hy : ev E y = some (.int k i)) (h0 : 0 ≤ i) (hb : s[i.toNat]? = some b) : Rd P E H (.index t x y) (.int .u8 b.toNat) :=
  fun a w d ty pos af g h1 h2 => by
    simp [execOp, ev_ok h1 hx, ev_ok h1 hy, Instr.index, asIntOf, run_underlying ht.eq, h0, hb]
end
end Go.K
