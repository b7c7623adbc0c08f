/-
  The thin layer, seventeenth part: maps whose keys are integers.
-/
import Derived.Test.YtdfidkhbldedlaaK16
namespace Go.K
set_option linter.unusedVariables false
set_option linter.unusedSimpArgs false

/-- What a map holds, in the order in which it came. -/
def ents (kd : IntKind) : Nat → List (Int × Value) → List MapEntry
  | _, [] => []
  | i, e :: es => { key := .int kd e.1, val := e.2, born := i } :: ents kd (i + 1) es
def mapO (kd : IntKind) (es : List (Int × Value)) : Obj := .map (ents kd 0 es).toArray es.length
def mfind : List (Int × Value) → Int → Nat → Option (Nat × Value)
  | [], _, _ => none
  | e :: es, k, i => if k = e.1 then some (i, e.2) else mfind es k (i + 1)
def mget (z : Value) (es : List (Int × Value)) (k : Int) : Value := match mfind es k 0 with | some r => r.2 | none => z
theorem find_ents (kd : IntKind) (k : Int) : ∀ (es : List (Int × Value)) (i j : Nat), Instr.findNow (.int kd) (.int kd k) (ents kd j es) i = some (mfind es k i)
  | [], i, j => rfl
  | e :: es, i, j => by
    unfold ents mfind Instr.findNow
    simp only [Instr.sameNow, if_true]
    by_cases h : k = e.1
    · simp [h]
    · have hb : (k == e.1) = false := by simpa using h
      rw [hb, if_neg h]
      exact find_ents kd k es (i + 1) (j + 1)
theorem ents_push (kd : IntKind) (k : Int) (v : Value) : ∀ (es : List (Int × Value)) (j : Nat), ents kd j (es ++ [(k, v)]) = ents kd j es ++ [{ key := .int kd k, val := v, born := j + es.length }]
  | [], j => by simp [ents]
  | e :: es, j => by simp [ents, ents_push kd k v es (j + 1)]; omega
theorem mfind_none : ∀ {es : List (Int × Value)} {k : Int} (i : Nat), (∀ e ∈ es, e.1 ≠ k) → mfind es k i = none
  | [], k, i, _ => rfl
  | e :: es, k, i, h => by
    unfold mfind
    rw [if_neg (fun h' => h e (.head _) h'.symm)]
    exact mfind_none (i + 1) (fun x hx => h x (.tail _ hx))

section
variable {P : Program} {n : Nat} {E : Env} {H : Hp} {Q : Post} {ops : Array Oper} {rest : List Oper}
theorem getObj_of {w : World} {b : Nat} {es : Array MapEntry} {c : Nat} (h : w.heap[b]? = some (.map es c)) : (getObj b).run P w = .ok (.map es c) w := by
  simp [getObj, Sem.run, h]
theorem fz_map {w : World} {b i : Nat} {s : Option Nat} {es : Array MapEntry} {c : Nat} (h : w.heap[b]? = some (.map es c)) : w.frozen? ⟨b, i, s⟩ = false := by
  simp [World.frozen?, h]
theorem setObj_of {w : World} {b : Nat} {es : Array MapEntry} {c : Nat} {o : Obj} (h : w.heap[b]? = some (.map es c)) : (setObj b o).run P w = .ok () (setBlk w b o) := by
  simp [setObj, Sem.run, h, setBlk]
theorem checkKey_int {t : TypeId} {kd : IntKind} [ht : Und P t (.int kd)] {b : Bool} {k : Int} {w : World} : (Instr.checkKey b 10000 t (.int kd k)).run P w = .ok () w := by
  unfold Instr.checkKey
  simp [run_underlying ht.eq]
theorem findKey_int {t : TypeId} {kd : IntKind} [ht : Und P t (.int kd)] {k : Int} {es : List (Int × Value)} {w : World} : (Instr.findKey t (.int kd k) (ents kd 0 es)).run P w = .ok (mfind es k 0) w := by
  unfold Instr.findKey
  simp [run_underlying ht.eq, find_ents]
/-- A type's zero value, that is one cell. -/
class ZerV (P : Program) (t : TypeId) (v : outParam Value) : Prop where eq : (P.info? t).map (fun i => i.zero) = some (some v)
theorem run_zeroV {t : TypeId} {v : Value} [h : ZerV P t v] {w : World} : (zeroValue t).run P w = .ok v w := by
  have := h.eq
  cases hq : P.info? t with
  | none => simp [hq] at this
  | some i =>
    simp [hq] at this
    simp [zeroValue, typeInfo, hq, this]
/-- m[k] -/
theorem rd_lookup {t kt et : TypeId} {x y : Operand} {kd : IntKind} {b : Nat} {es : List (Int × Value)} {k : Int} {z : Value} {r : Bool} [ht : Und P t (.map kt et)] [hk : Und P kt (.int kd)] [hz : ZerV P et z]
    (hx : ev E x = some (.map (some b))) (hy : ev E y = some (.int kd k)) (hm : (b, r, mapO kd es) ∈ H) : Rd P E H (.lookup t x y false) (mget z es k) := fun a w d ty pos af g h1 h2 => by
  have e0 : w.heap[b]? = some (.map (ents kd 0 es).toArray es.length) := h2.here _ hm
  have e1 := getObj_of (P := P) e0
  simp only [execOp, ev_ok h1 hx, ev_ok h1 hy, Instr.lookup, Sem.run_bind, run_underlying ht.eq, Result.andThen_ok]
  rw [e1]
  simp only [Result.andThen_ok, Sem.run_bind, Sem.run_pure, checkKey_int, findKey_int]
  unfold mget
  cases hf : mfind es k 0 with
  | none => simp [run_zeroV (P := P)]
  | some q => simp
/-- make(map[K]V) -/
theorem o_makeMap {d : Nat} {t : TypeId} {ty : TypeId} {pos : String} {af : Array Edge} (kd : IntKind) (hd : Nat.blt d n = true)
    (k : ∀ b, SO P n ops rest ((d, .map (some b)) :: E) ((b, true, mapO kd []) :: H) Q) : SO P n ops (⟨some d, .makeMap t none, ty, pos, af, none⟩ :: rest) E H Q := by
  intro a w h1 h2 h3 h4
  refine wpList_plain rfl fun K hK => ?_
  have hrun : (execOp a.eval ⟨some d, .makeMap t none, ty, pos, af, none⟩).run P w = .ok (.value (.map (some w.heap.size))) { w with heap := w.heap.push (mapO kd []) } := by
    rfl
  unfold Oper.wp
  rw [hrun]
  have hlt : d < a.tmps.size := by rw [h2]; exact Nat.le_of_ble_eq_true hd
  have ht := trk_new (o := mapO kd []) h4 (fun i s => by simp [World.frozen?, mapO])
  exact hK _ _ (wpList_up ht (k _ _ _ (h1.put hlt) (by simp [Act.put, h2]) h3 ht.ok))
/-- m[k] = v, of a key that is new -/
theorem o_mapNew {t kt et : TypeId} {x y u : Operand} {ty : TypeId} {pos : String} {af : Array Edge} {kd : IntKind} {b : Nat} {es : List (Int × Value)} {k : Int} {v : Value} {H' : Hp} [ht : Und P t (.map kt et)] [hk : Und P kt (.int kd)]
    (hx : ev E x = some (.map (some b))) (hy : ev E y = some (.int kd k)) (hv : ev E u = some v) (hn : mfind es k 0 = none) (hu : Upd b (mapO kd es) (mapO kd (es ++ [(k, v)])) H H')
    (kk : SO P n ops rest E H' Q) : SO P n ops (⟨none, .mapUpdate t x y u, ty, pos, af, none⟩ :: rest) E H Q := by
  intro a w h1 h2 h3 h4
  refine wpList_plain rfl fun K hK => ?_
  have e0 : w.heap[b]? = some (.map (ents kd 0 es).toArray es.length) := h4.here _ hu.mem
  have e1 := getObj_of (P := P) e0
  have hrun : (execOp a.eval ⟨none, .mapUpdate t x y u, ty, pos, af, none⟩).run P w = .ok .skip (setBlk w b (mapO kd (es ++ [(k, v)]))) := by
    simp only [execOp, ev_ok h1 hx, ev_ok h1 hy, ev_ok h1 hv, Instr.mapUpdate, Sem.run_bind, run_underlying ht.eq, Result.andThen_ok]
    rw [e1]
    simp only [Result.andThen_ok, Sem.run_bind, checkKey_int, findKey_int, hn]
    rw [setObj_of (P := P) e0]
    simp [mapO, ents_push]
  unfold Oper.wp
  rw [hrun]
  have htr := trk_set h4 hu (fun i s => by
    have hlt := h4.lt hu.mem
    have hlt' : b < w.heap.size := hlt
    rw [fz_map e0, fz_map (w := setBlk w b (mapO kd (es ++ [(k, v)]))) (es := (ents kd 0 (es ++ [(k, v)])).toArray) (c := (es ++ [(k, v)]).length) (by simp [setBlk, hlt', mapO])])
  exact hK _ _ (wpList_up htr (kk _ _ h1 h2 h3 htr.ok))
end
end Go.K
