/-
  The thin layer, third part: the operations.
-/
import Derived.Test.YtdfidkhbldedlaaGreatK2
import Derived.IntWalk
namespace Go.K
set_option linter.unusedVariables false
set_option linter.unusedSimpArgs false

section
variable {P : Program} {n : Nat} {E : Env} {H : Hp} {Q : Post} {ops : Array Oper} {rest : List Oper}

/-! ### Operations that read at most -/
theorem rd_move {x : Operand} {v : Value} (hx : ev E x = some v) : Rd P E H (.move x) v := fun a w d ty pos af g h1 h2 => by simp [execOp, ev_ok h1 hx]
theorem rd_assign {x : Operand} {v : Value} (hx : ev E x = some v) : Rd P E H (.assign x) v := fun a w d ty pos af g h1 h2 => by simp [execOp, ev_ok h1 hx]
theorem rd_nil {x : Operand} {ad : Addr} (hx : ev E x = some (.pointer (some ad))) : Rd P E H (.nilCheck x) (.pointer (some ad)) :=
  fun a w d ty pos af g h1 h2 => by simp [execOp, ev_ok h1 hx]
theorem rd_pick {c x y : Operand} {b : Bool} {v v' : Value} (hc : ev E c = some (.bool b)) (hx : ev E x = some v) (hy : ev E y = some v') : Rd P E H (.pick c x y) (if b then v else v') :=
  fun a w d ty pos af g h1 h2 => by simp [execOp, ev_ok h1 hx, ev_ok h1 hy, ev_ok h1 hc, asBool]
theorem rd_pickT {c x y : Operand} {v : Value} (hc : ev E c = some (.bool true)) (hx : ev E x = some v) : Rd P E H (.pick c x y) v :=
  fun a w d ty pos af g h1 h2 => by simp [execOp, ev_ok h1 hx, ev_ok h1 hc, asBool]
theorem rd_pickF {c x y : Operand} {v : Value} (hc : ev E c = some (.bool false)) (hy : ev E y = some v) : Rd P E H (.pick c x y) v :=
  fun a w d ty pos af g h1 h2 => by simp [execOp, ev_ok h1 hy, ev_ok h1 hc, asBool]
theorem rd_extract {x : Operand} {i : Nat} {vs : Array Value} {v : Value} (hx : ev E x = some (.tuple vs)) (hv : nth vs.toList i = some v) : Rd P E H (.extract x i) v :=
  fun a w d ty pos af g h1 h2 => by
    have hv' : vs[i]? = some v := by rw [nth_eq] at hv; simpa using hv
    simp [execOp, ev_ok h1 hx, Instr.extract, hv']

/-- integers -/
def ibits (op : BinOp) (k : IntKind) (x y : Int) : Int :=
  let a := BitVec.ofInt k.bits x
  let b := BitVec.ofInt k.bits y
  k.wrap (match op with | .and => (a &&& b).toNat | .or => (a ||| b).toNat | .xor => (a ^^^ b).toNat | _ => (a &&& ~~~b).toNat)
def binV (op : BinOp) (k : IntKind) (x y : Int) : Option Value :=
  match op with
  | .add => some (.int k (k.wrap (x + y)))
  | .sub => some (.int k (k.wrap (x - y)))
  | .mul => some (.int k (k.wrap (x * y)))
  | .and | .or | .xor | .andNot => some (.int k (ibits op k x y))
  | .eql => some (.bool (decide (x = y)))
  | .neq => some (.bool (!decide (x = y)))
  | .lss => some (.bool (decide (x < y)))
  | .leq => some (.bool (decide (x ≤ y)))
  | .gtr => some (.bool (decide (y < x)))
  | .geq => some (.bool (decide (y ≤ x)))
  | _ => none
theorem rd_bin {op : BinOp} {t u : TypeId} {x y : Operand} {k : IntKind} {i j : Int} {v : Value} (hx : ev E x = some (.int k i)) (hy : ev E y = some (.int k j)) (hv : binV op k i j = some v) :
    Rd P E H (.binOp op t x y u) v := fun a w d ty pos af g h1 h2 => by
  have e1 := ev_ok h1 hx
  have e2 := ev_ok h1 hy
  cases op <;> simp only [binV] at hv <;> cases hv <;>
    simp [execOp, e1, e2, eqGuard, binOp, Op.intArith, Op.intBits, Op.intCmp, ibits, BEq.beq, bne]
/-- Sums without a wrap, where the bounds are known. -/
theorem wrap64_in {x : Int} (h : -9223372036854775808 ≤ x ∧ x ≤ 9223372036854775807) : IntKind.i64.wrap x = x := IntWalk.i64_in x h
theorem rd_add64 {t u : TypeId} {x y : Operand} {i j : Int} (hx : ev E x = some (.int .i64 i)) (hy : ev E y = some (.int .i64 j)) (hb : -9223372036854775808 ≤ i + j ∧ i + j ≤ 9223372036854775807) :
    Rd P E H (.binOp .add t x y u) (.int .i64 (i + j)) := by
  have := rd_bin (P := P) (H := H) (op := .add) (t := t) (u := u) hx hy rfl
  rwa [wrap64_in hb] at this
theorem rd_sub64 {t u : TypeId} {x y : Operand} {i j : Int} (hx : ev E x = some (.int .i64 i)) (hy : ev E y = some (.int .i64 j)) (hb : -9223372036854775808 ≤ i - j ∧ i - j ≤ 9223372036854775807) :
    Rd P E H (.binOp .sub t x y u) (.int .i64 (i - j)) := by
  have := rd_bin (P := P) (H := H) (op := .sub) (t := t) (u := u) hx hy rfl
  rwa [wrap64_in hb] at this
theorem rd_mul64 {t u : TypeId} {x y : Operand} {i j : Int} (hx : ev E x = some (.int .i64 i)) (hy : ev E y = some (.int .i64 j)) (hb : -9223372036854775808 ≤ i * j ∧ i * j ≤ 9223372036854775807) :
    Rd P E H (.binOp .mul t x y u) (.int .i64 (i * j)) := by
  have := rd_bin (P := P) (H := H) (op := .mul) (t := t) (u := u) hx hy rfl
  rwa [wrap64_in hb] at this
theorem rd_shl {t u : TypeId} {x y : Operand} {k k' : IntKind} {i j : Int} (hx : ev E x = some (.int k i)) (hy : ev E y = some (.int k' j)) (hj : 0 ≤ j) :
    Rd P E H (.binOp .shl t x y u) (.int k (k.wrap (i * 2 ^ (min j.toNat k.bits)))) := fun a w d ty pos af g h1 h2 => by
  simp [execOp, ev_ok h1 hx, ev_ok h1 hy, eqGuard, binOp, Op.shift]; intro h; omega
theorem rd_shr {t u : TypeId} {x y : Operand} {k k' : IntKind} {i j : Int} (hx : ev E x = some (.int k i)) (hy : ev E y = some (.int k' j)) (hj : 0 ≤ j) :
    Rd P E H (.binOp .shr t x y u) (.int k (i.fdiv (2 ^ (min j.toNat k.bits)))) := fun a w d ty pos af g h1 h2 => by
  simp [execOp, ev_ok h1 hx, ev_ok h1 hy, eqGuard, binOp, Op.shift]; intro h; omega
theorem rd_quo {t u : TypeId} {x y : Operand} {k : IntKind} {i j : Int} (hx : ev E x = some (.int k i)) (hy : ev E y = some (.int k j)) (hj : j ≠ 0) :
    Rd P E H (.binOp .quo t x y u) (.int k (k.wrap (i.tdiv j))) := fun a w d ty pos af g h1 h2 => by
  simp [execOp, ev_ok h1 hx, ev_ok h1 hy, eqGuard, binOp, Op.intDiv, hj]
theorem rd_rem {t u : TypeId} {x y : Operand} {k : IntKind} {i j : Int} (hx : ev E x = some (.int k i)) (hy : ev E y = some (.int k j)) (hj : j ≠ 0) :
    Rd P E H (.binOp .rem t x y u) (.int k (i.tmod j)) := fun a w d ty pos af g h1 h2 => by
  simp [execOp, ev_ok h1 hx, ev_ok h1 hy, eqGuard, binOp, Op.intDiv, hj]
/-- bools, pointers and slices: '==' by the type -/
theorem run_eql {t : TypeId} {x y : Value} {r : Bool} {w : World} (hg : ∀ a b, eqGuard .eql t a b x y = pure ()) (hb : binOp .eql t x y = (do pure (.bool (← Op.equal t x y))))
    (he : (Op.equal t x y).run P w = .ok r w) {a : Act} {p q : Operand} (hp : a.eval p = x) (hq : a.eval q = y) (d : Option Tmp) (ty : TypeId) (pos : String) (af : Array Edge) (g : Option (Nat × Bool)) (u : TypeId) :
    (execOp a.eval ⟨d, .binOp .eql t p q u, ty, pos, af, g⟩).run P w = .ok (.value (.bool r)) w := by
  simp only [execOp, hp, hq, hg, hb, Sem.run_bind, Sem.run_pure, Result.andThen_ok, he]
theorem run_neq {t : TypeId} {x y : Value} {r : Bool} {w : World} (hg : ∀ a b, eqGuard .neq t a b x y = pure ()) (hb : binOp .neq t x y = (do pure (.bool (!(← Op.equal t x y)))))
    (he : (Op.equal t x y).run P w = .ok r w) {a : Act} {p q : Operand} (hp : a.eval p = x) (hq : a.eval q = y) (d : Option Tmp) (ty : TypeId) (pos : String) (af : Array Edge) (g : Option (Nat × Bool)) (u : TypeId) :
    (execOp a.eval ⟨d, .binOp .neq t p q u, ty, pos, af, g⟩).run P w = .ok (.value (.bool (!r))) w := by
  simp only [execOp, hp, hq, hg, hb, Sem.run_bind, Sem.run_pure, Result.andThen_ok, he]
theorem equalIn_bool {t : TypeId} [ht : Und P t .bool] (m : Nat) (b c : Bool) (w : World) : (Op.equalIn (m + 1) t (.bool b) (.bool c)).run P w = .ok (b == c) w := by
  simp only [Op.equalIn, Sem.run_bind, run_underlying ht.eq, Result.andThen_ok, Sem.run_pure]
theorem equal_bool {t : TypeId} [ht : Und P t .bool] (b c : Bool) (w : World) : (Op.equal t (.bool b) (.bool c)).run P w = .ok (b == c) w := equalIn_bool 9999 b c w
theorem equalIn_nil {t e : TypeId} [ht : Und P t (.pointer e)] (m : Nat) (p : Option Addr) (w : World) : (Op.equalIn (m + 1) t (.pointer p) (.pointer none)).run P w = .ok p.isNone w := by
  cases p <;> simp only [Op.equalIn, Sem.run_bind, run_underlying ht.eq, Result.andThen_ok, Sem.run_pure, Option.isNone]
theorem equal_nil {t e : TypeId} [ht : Und P t (.pointer e)] (p : Option Addr) (w : World) : (Op.equal t (.pointer p) (.pointer none)).run P w = .ok p.isNone w := equalIn_nil 9999 p w
theorem equalIn_nilS {t e : TypeId} [ht : Und P t (.slice e)] (m : Nat) (p : Option Addr) (l c : Nat) (w : World) : (Op.equalIn (m + 1) t (.slice p l c) (.slice none 0 0)).run P w = .ok p.isNone w := by
  cases p <;> simp only [Op.equalIn, Sem.run_bind, run_underlying ht.eq, Result.andThen_ok, Sem.run_pure, Option.isNone]
theorem equal_nilS {t e : TypeId} [ht : Und P t (.slice e)] (p : Option Addr) (l c : Nat) (w : World) : (Op.equal t (.slice p l c) (.slice none 0 0)).run P w = .ok p.isNone w := equalIn_nilS 9999 p l c w
theorem rd_eqB {t u : TypeId} {x y : Operand} {b c : Bool} [ht : Und P t .bool] (hx : ev E x = some (.bool b)) (hy : ev E y = some (.bool c)) : Rd P E H (.binOp .eql t x y u) (.bool (b == c)) :=
  fun a w d ty pos af g h1 h2 => run_eql (fun _ _ => rfl) rfl (equal_bool b c w) (ev_ok h1 hx) (ev_ok h1 hy) d ty pos af g u
theorem rd_neB {t u : TypeId} {x y : Operand} {b c : Bool} [ht : Und P t .bool] (hx : ev E x = some (.bool b)) (hy : ev E y = some (.bool c)) : Rd P E H (.binOp .neq t x y u) (.bool (!(b == c))) :=
  fun a w d ty pos af g h1 h2 => run_neq (fun _ _ => rfl) rfl (equal_bool b c w) (ev_ok h1 hx) (ev_ok h1 hy) d ty pos af g u
theorem rd_eqNil {t u e : TypeId} {x y : Operand} {p : Option Addr} [ht : Und P t (.pointer e)] (hx : ev E x = some (.pointer p)) (hy : ev E y = some (.pointer none)) : Rd P E H (.binOp .eql t x y u) (.bool p.isNone) :=
  fun a w d ty pos af g h1 h2 => run_eql (fun _ _ => rfl) rfl (equal_nil p w) (ev_ok h1 hx) (ev_ok h1 hy) d ty pos af g u
theorem rd_neNil {t u e : TypeId} {x y : Operand} {p : Option Addr} [ht : Und P t (.pointer e)] (hx : ev E x = some (.pointer p)) (hy : ev E y = some (.pointer none)) : Rd P E H (.binOp .neq t x y u) (.bool (!p.isNone)) :=
  fun a w d ty pos af g h1 h2 => run_neq (fun _ _ => rfl) rfl (equal_nil p w) (ev_ok h1 hx) (ev_ok h1 hy) d ty pos af g u
theorem rd_eqNilS {t u e : TypeId} {x y : Operand} {p : Option Addr} {l c : Nat} [ht : Und P t (.slice e)] (hx : ev E x = some (.slice p l c)) (hy : ev E y = some (.slice none 0 0)) : Rd P E H (.binOp .eql t x y u) (.bool p.isNone) :=
  fun a w d ty pos af g h1 h2 => run_eql (fun _ _ => rfl) rfl (equal_nilS p l c w) (ev_ok h1 hx) (ev_ok h1 hy) d ty pos af g u
theorem rd_not {t : TypeId} {x : Operand} {b : Bool} (hx : ev E x = some (.bool b)) : Rd P E H (.unOp .not t x) (.bool !b) := fun a w d ty pos af g h1 h2 => by simp [execOp, ev_ok h1 hx, Op.unary]
theorem rd_neg {t : TypeId} {x : Operand} {k : IntKind} {i : Int} (hx : ev E x = some (.int k i)) : Rd P E H (.unOp .neg t x) (.int k (k.wrap (0 - i))) := fun a w d ty pos af g h1 h2 => by simp [execOp, ev_ok h1 hx, Op.unary, Op.intArith]
theorem rd_compl {t : TypeId} {x : Operand} {k : IntKind} {i : Int} (hx : ev E x = some (.int k i)) : Rd P E H (.unOp .xor t x) (.int k (ibits .xor k (if k.signed then -1 else k.max) i)) := fun a w d ty pos af g h1 h2 => by simp [execOp, ev_ok h1 hx, Op.unary, Op.intBits, ibits]
theorem rd_convI {s t : TypeId} {x : Operand} {ds : TypeDesc} {k k' : IntKind} {i : Int} [hs : Und P s ds] [ht : Und P t (.int k)] (hx : ev E x = some (.int k' i)) : Rd P E H (.convert s t x) (.int k (k.wrap i)) :=
  fun a w d ty pos af g h1 h2 => by
    simp only [execOp, ev_ok h1 hx, convert, Sem.run_bind, run_underlying hs.eq, run_underlying ht.eq, Result.andThen_ok]
    cases ds <;> simp [Conv.intToInt]

theorem add_none (b o i : Nat) : (⟨b, o, none⟩ : Addr).add i = ⟨b, o + i, none⟩ := by unfold Addr.add; split <;> simp_all

/-- The field's offset, as a number. -/
class Fld (P : Program) (s : TypeId) (f : Nat) (o : outParam Nat) : Prop where
  eq : ∃ fs fl m, P.underlying s = some (.struct fs) ∧ fs[f]? = some fl ∧ (P.info? fl.type).map (·.size) = some (m + 1) ∧ fl.offset = o
theorem rd_field {s : TypeId} {x : Operand} {f : Nat} {b o q : Nat} [hs : Fld P s f q] (hx : ev E x = some (.pointer (some ⟨b, o, none⟩))) : Rd P E H (.fieldAddr s x f) (.pointer (some ⟨b, o + q, none⟩)) :=
  fun a w d ty pos af g h1 h2 => by
    obtain ⟨fs, fl, m, hu, hf, h3, rfl⟩ := hs.eq
    have i2 : Siz P fl.type (m + 1) := ⟨h3⟩
    simp [execOp, ev_ok h1 hx, Instr.fieldAt, run_underlying hu, hf, Instr.sureAddr, fieldPlace, run_sizeOf, add_none]
/-- x[i]'s address: an array; a slice -/
theorem rd_ixA {t e : TypeId} {x y : Operand} {b o l sz : Nat} {k : IntKind} {i : Int} [ht : Und P t (.array l e)] [hz : Siz P e sz] (hx : ev E x = some (.pointer (some ⟨b, o, none⟩))) (hy : ev E y = some (.int k i))
    (hi : 0 ≤ i ∧ i < l) : Rd P E H (.indexAddr t x y) (.pointer (some ⟨b, o + i.toNat * sz, none⟩)) :=
  fun a w d ty pos af g h1 h2 => by
    simp [execOp, ev_ok h1 hx, ev_ok h1 hy, Instr.indexAt, asIntOf, run_underlying ht.eq, Instr.sureAddr, hi, run_sizeOf, add_none]
theorem rd_ixS {t e : TypeId} {x y : Operand} {b o l c sz : Nat} {k : IntKind} {i : Int} [ht : Und P t (.slice e)] [hz : Siz P e sz] (hx : ev E x = some (.slice (some ⟨b, o, none⟩) l c)) (hy : ev E y = some (.int k i))
    (hi : 0 ≤ i ∧ i < l) : Rd P E H (.indexAddr t x y) (.pointer (some ⟨b, o + i.toNat * sz, none⟩)) :=
  fun a w d ty pos af g h1 h2 => by
    simp [execOp, ev_ok h1 hx, ev_ok h1 hy, Instr.indexAt, asIntOf, run_underlying ht.eq, hi, run_sizeOf, add_none]
/-- an array's value at i -/
theorem rd_ix {t e : TypeId} {x y : Operand} {l sz : Nat} {k : IntKind} {i : Int} {cs : Array Value} {v : Value} [ht : Und P t (.array l e)] [hz : Siz P e sz] [he : Agg P e false] (hx : ev E x = some (.agg cs)) (hy : ev E y = some (.int k i))
    (hi : 0 ≤ i ∧ i < l) (hv : nth cs.toList (i.toNat * sz) = some v) : Rd P E H (.index t x y) v :=
  fun a w d ty pos af g h1 h2 => by
    have hv' : cs[i.toNat * sz]? = some v := by rw [nth_eq] at hv; simpa using hv
    simp [execOp, ev_ok h1 hx, ev_ok h1 hy, Instr.index, asIntOf, run_underlying ht.eq, hi, run_sizeOf, part, run_isAgg, hv']

theorem cell_C {w : World} {b : Nat} {cs : List Value} {T : TypeId} {fr : Nat × Nat} (h : w.heap[b]? = some (CF cs T fr)) (o : Nat) : w.cell? ⟨b, o, none⟩ = nth cs o := by
  simp [World.cell?, h, CF, nth_eq]

/-- a load of one cell -/
theorem rd_ld {t : TypeId} {x : Operand} {b o : Nat} {r : Bool} {cs : List Value} {T : TypeId} {fr : Nat × Nat} {v : Value} [ht : Agg P t false] (hx : ev E x = some (.pointer (some ⟨b, o, none⟩)))
    (hm : (b, r, CF cs T fr) ∈ H) (hv : nth cs o = some v) : Rd P E H (.load t x) v :=
  fun a w d ty pos af g h1 h2 => by
    simp [execOp, ev_ok h1 hx, Instr.loadAt, Instr.sureAddr, loadVar, run_isAgg, cell_C (h2.here _ hm), hv]
theorem run_loadA {t : TypeId} {b o sz : Nat} {cs vs : List Value} {T : TypeId} {fr : Nat × Nat} {w : World} [ht : Agg P t true] [hz : Siz P t sz] (hh : w.heap[b]? = some (CF cs T fr)) (hv : cut cs o sz = some vs) :
    (loadVar t ⟨b, o, none⟩).run P w = .ok (.agg vs.toArray) w := by
  obtain ⟨h3, h4, h5⟩ := cut_eq cs o sz vs hv
  have hl : (loadCells ⟨b, o, none⟩ vs.length).run P w = .ok vs.toArray w := run_loadCells_list (P := P) w ⟨b, o, none⟩ vs (fun j u hu => by
    rw [add_none, cell_C hh, nth_eq]
    subst h3
    rw [List.getElem?_take] at hu
    split at hu
    · simpa using hu
    · cases hu)
  rw [h5] at hl
  simp [loadVar, run_isAgg, run_sizeOf, hl]
/-- a load of a struct, an array -/
theorem rd_ldA {t : TypeId} {x : Operand} {b o sz : Nat} {r : Bool} {cs vs : List Value} {T : TypeId} {fr : Nat × Nat} [ht : Agg P t true] [hz : Siz P t sz] (hx : ev E x = some (.pointer (some ⟨b, o, none⟩)))
    (hm : (b, r, CF cs T fr) ∈ H) (hv : cut cs o sz = some vs) : Rd P E H (.load t x) (.agg vs.toArray) :=
  fun a w d ty pos af g h1 h2 => by
    simp [execOp, ev_ok h1 hx, Instr.loadAt, Instr.sureAddr, run_loadA (h2.here _ hm) hv]
/-- x.f of a struct's value -/
class FldT (P : Program) (s : TypeId) (f : Nat) (o : outParam Nat) (ft : outParam TypeId) : Prop where
  eq : ∃ fs fl, P.underlying s = some (.struct fs) ∧ fs[f]? = some fl ∧ fl.offset = o ∧ fl.type = ft
theorem rd_fld {t : TypeId} {x : Operand} {f o : Nat} {ft : TypeId} {cs : Array Value} {v : Value} [ht : FldT P t f o ft] [hd : Agg P ft false] (hx : ev E x = some (.agg cs)) (hv : nth cs.toList o = some v) : Rd P E H (.field t x f) v :=
  fun a w d ty pos af g h1 h2 => by
    obtain ⟨fs, fl, hu, hf, rfl, rfl⟩ := ht.eq
    have hv' : cs[fl.offset]? = some v := by rw [nth_eq] at hv; simpa using hv
    simp [execOp, ev_ok h1 hx, Instr.field, run_underlying hu, hf, asAgg, part, run_isAgg, hv']
theorem rd_fldA {t : TypeId} {x : Operand} {f o sz : Nat} {ft : TypeId} {cs : Array Value} {vs : List Value} [ht : FldT P t f o ft] [hd : Agg P ft true] [hz : Siz P ft sz] (hx : ev E x = some (.agg cs)) (hv : cut cs.toList o sz = some vs) : Rd P E H (.field t x f) (.agg vs.toArray) :=
  fun a w d ty pos af g h1 h2 => by
    obtain ⟨fs, fl, hu, hf, rfl, rfl⟩ := ht.eq
    obtain ⟨h3, h4, h5⟩ := cut_eq cs.toList fl.offset sz vs hv
    have e : cs.extract fl.offset (fl.offset + sz) = vs.toArray := by
      apply Array.ext'
      rw [Array.toList_extract, h3]
      simp [List.extract_eq_take_drop]
    simp [execOp, ev_ok h1 hx, Instr.field, run_underlying hu, hf, asAgg, part, run_isAgg, run_sizeOf, e]

/-- len, cap, min, max -/
theorem deferred_builtin (a : Act) (b : Builtin) (args : Array Operand) (ats : Array TypeId) (ty : TypeId) (w : World) :
    (resolve a.eval ⟨.builtin b, args, ats⟩ ty).run P w = .ok { target := .builtin b ats ty (args.map fun | .const _ => true | _ => false), args := args.map a.eval } w := rfl
theorem rd_lenS {x : Operand} {t e : TypeId} {p : Option Addr} {l c : Nat} [ht : Und P t (.slice e)] (hx : ev E x = some (.slice p l c)) : Rd P E H (.call ⟨.builtin .len, #[x], #[t]⟩) (.int .i64 l) :=
  fun a w d ty pos af g h1 h2 => by simp [execOp, deferred_builtin, ev_ok h1 hx, invoke, builtin, Builtin.len_, run_underlying ht.eq, goInt]
theorem rd_lenA {x : Operand} {t e : TypeId} {l : Nat} {v : Value} [ht : Und P t (.array l e)] (hx : ev E x = some v) : Rd P E H (.call ⟨.builtin .len, #[x], #[t]⟩) (.int .i64 l) :=
  fun a w d ty pos af g h1 h2 => by simp [execOp, deferred_builtin, ev_ok h1 hx, invoke, builtin, Builtin.len_, run_underlying ht.eq, goInt]
theorem rd_lenStr {x : Operand} {t : TypeId} {s : ByteArray} [ht : Und P t .string] (hx : ev E x = some (.string s)) : Rd P E H (.call ⟨.builtin .len, #[x], #[t]⟩) (.int .i64 s.size) :=
  fun a w d ty pos af g h1 h2 => by simp [execOp, deferred_builtin, ev_ok h1 hx, invoke, builtin, Builtin.len_, run_underlying ht.eq, goInt]
theorem rd_cap {x : Operand} {t e : TypeId} {p : Option Addr} {l c : Nat} [ht : Und P t (.slice e)] (hx : ev E x = some (.slice p l c)) : Rd P E H (.call ⟨.builtin .cap, #[x], #[t]⟩) (.int .i64 c) :=
  fun a w d ty pos af g h1 h2 => by simp [execOp, deferred_builtin, ev_ok h1 hx, invoke, builtin, Builtin.cap_, run_underlying ht.eq, goInt]
theorem rd_max {x y : Operand} {k k' : IntKind} {i j : Int} {ts : Array TypeId} (hx : ev E x = some (.int k i)) (hy : ev E y = some (.int k' j)) : Rd P E H (.call ⟨.builtin .max, #[x, y], ts⟩) (.int k (max i j)) :=
  fun a w d ty pos af g h1 h2 => by
    have : (if i < j then j else i) = max i j := by omega
    simp [execOp, deferred_builtin, ev_ok h1 hx, ev_ok h1 hy, invoke, builtin, Builtin.max_, Builtin.max2]; omega
theorem rd_min {x y : Operand} {k k' : IntKind} {i j : Int} {ts : Array TypeId} (hx : ev E x = some (.int k i)) (hy : ev E y = some (.int k' j)) : Rd P E H (.call ⟨.builtin .min, #[x, y], ts⟩) (.int k (min i j)) :=
  fun a w d ty pos af g h1 h2 => by
    simp [execOp, deferred_builtin, ev_ok h1 hx, ev_ok h1 hy, invoke, builtin, Builtin.min_, Builtin.min2]; omega
theorem run_bound {k : IntKind} {i : Int} {m : Nat} {c : BoundsCode} {w : World} (h : 0 ≤ i ∧ i ≤ m) : (Instr.sliceBound (.int k i) m c).run P w = .ok i.toNat w := by
  simp [Instr.sliceBound, asIntOf, h]
/-- x[lo:hi] of a slice -/
theorem rd_slice {t e : TypeId} {x lo hi : Operand} {p : Option Addr} {l c sz : Nat} {k k' : IntKind} {i j : Int} [ht : Und P t (.slice e)] [hz : Siz P e sz] (hx : ev E x = some (.slice p l c))
    (hlo : ev E lo = some (.int k i)) (hhi : ev E hi = some (.int k' j)) (hb : 0 ≤ i ∧ i ≤ j ∧ j ≤ c) :
    Rd P E H (.slice t x (some lo) (some hi) none) (.slice (if c = i.toNat then p else p.map (·.add (i.toNat * sz))) (j.toNat - i.toNat) (c - i.toNat)) :=
  fun a w d ty pos af g h1 h2 => by
    have e1 : 0 ≤ j ∧ j ≤ (c : Int) := by omega
    have e2 : 0 ≤ i ∧ i ≤ (j.toNat : Int) := by omega
    simp [execOp, ev_ok h1 hx, ev_ok h1 hlo, ev_ok h1 hhi, Instr.sliceAt, Instr.slice, run_underlying ht.eq, Instr.sliceBounds, run_bound e1, run_bound e2, run_sizeOf]
theorem rd_sliceLo {t e : TypeId} {x lo : Operand} {p : Option Addr} {l c sz : Nat} {k : IntKind} {i : Int} [ht : Und P t (.slice e)] [hz : Siz P e sz] (hx : ev E x = some (.slice p l c))
    (hlo : ev E lo = some (.int k i)) (hb : 0 ≤ i ∧ i ≤ l) :
    Rd P E H (.slice t x (some lo) none none) (.slice (if c = i.toNat then p else p.map (·.add (i.toNat * sz))) (l - i.toNat) (c - i.toNat)) :=
  fun a w d ty pos af g h1 h2 => by
    simp [execOp, ev_ok h1 hx, ev_ok h1 hlo, Instr.sliceAt, Instr.slice, run_underlying ht.eq, Instr.sliceBounds, run_bound hb, run_sizeOf]
theorem rd_sliceHi {t e : TypeId} {x hi : Operand} {p : Option Addr} {l c sz : Nat} {k : IntKind} {j : Int} [ht : Und P t (.slice e)] [hz : Siz P e sz] (hx : ev E x = some (.slice p l c))
    (hhi : ev E hi = some (.int k j)) (hb : 0 ≤ j ∧ j ≤ c) :
    Rd P E H (.slice t x none (some hi) none) (.slice p j.toNat c) :=
  fun a w d ty pos af g h1 h2 => by
    cases p <;> simp [execOp, ev_ok h1 hx, ev_ok h1 hhi, Instr.sliceAt, Instr.slice, run_underlying ht.eq, Instr.sliceBounds, run_bound hb, run_sizeOf, add_none, Addr.add]
/-- x[lo:hi] of an array's variable -/
theorem rd_sliceA {t e : TypeId} {x : Operand} {lo hi : Option Operand} {b o l sz : Nat} {i j : Nat} [ht : Und P t (.array l e)] [hz : Siz P e sz] (hx : ev E x = some (.pointer (some ⟨b, o, none⟩)))
    (hlo : match lo with | some y => ∃ k, ev E y = some (.int k (i : Int)) | none => i = 0) (hhi : match hi with | some y => ∃ k, ev E y = some (.int k (j : Int)) | none => j = l) (hb : i ≤ j ∧ j ≤ l ∧ i < l) :
    Rd P E H (.slice t x lo hi none) (.slice (some ⟨b, o + i * sz, none⟩) (j - i) (l - i)) :=
  fun a w d ty pos af g h1 h2 => by
    have e3 : ¬ l = i := by omega
    have e1 : (i : Int) ≤ (j : Int) := by omega
    have e2 : (j : Int) ≤ (l : Int) := by omega
    cases lo <;> cases hi <;> simp only at hlo hhi
    · subst hlo hhi
      simp [execOp, ev_ok h1 hx, Instr.sliceAt, run_underlying ht.eq, Instr.sliceBounds, Instr.sureAddr, run_sizeOf, add_none, e3]
    · obtain ⟨k, hhi⟩ := hhi; subst hlo
      simp [execOp, ev_ok h1 hx, ev_ok h1 hhi, Instr.sliceAt, run_underlying ht.eq, Instr.sliceBounds, run_bound (And.intro (Int.natCast_nonneg j) e2), Instr.sureAddr, run_sizeOf, add_none, e3]
    · obtain ⟨k, hlo⟩ := hlo; subst hhi
      simp [execOp, ev_ok h1 hx, ev_ok h1 hlo, Instr.sliceAt, run_underlying ht.eq, Instr.sliceBounds, run_bound (And.intro (Int.natCast_nonneg i) e1), Instr.sureAddr, run_sizeOf, add_none, e3]
    · obtain ⟨k, hlo⟩ := hlo; obtain ⟨k', hhi⟩ := hhi
      simp [execOp, ev_ok h1 hx, ev_ok h1 hlo, ev_ok h1 hhi, Instr.sliceAt, run_underlying ht.eq, Instr.sliceBounds, run_bound (And.intro (Int.natCast_nonneg j) e2), run_bound (And.intro (Int.natCast_nonneg i) e1), Instr.sureAddr, run_sizeOf, add_none, e3]

/-- a struct's or an array's value out of its parts -/
def evs (E : Env) : List (Nat × Operand) → Option (List (Nat × Value))
  | [] => some []
  | (i, x) :: l => match ev E x with | some v => (match evs E l with | some r => some ((i, v) :: r) | none => none) | none => none
theorem evs_ok {a : Act} (h : EnvOk E a) : ∀ {l : List (Nat × Operand)} {r : List (Nat × Value)}, evs E l = some r → l.map (fun (i, x) => (i, a.eval x)) = r
  | [], r, hr => by simp [evs] at hr; simp [hr]
  | (i, x) :: l, r, hr => by
    simp only [evs] at hr
    cases hx : ev E x with
    | none => simp [hx] at hr
    | some v =>
      cases hl : evs E l with
      | none => simp [hx, hl] at hr
      | some r' => simp [hx, hl] at hr; subst hr; simp [ev_ok h hx, evs_ok h hl]
/-- what 'build' makes, as a fact on the program's types: by 'kernel_rfl' -/
def Blt (P : Program) (t : TypeId) (ps : List (Nat × Value)) (cs : List Value) : Prop := ∀ w, (Instr.build t ps.toArray).run P w = .ok (.agg cs.toArray) w
theorem rd_build {t : TypeId} {ps : List (Nat × Operand)} {vs : List (Nat × Value)} {cs : List Value} (hv : evs E ps = some vs) (hb : Blt P t vs cs) : Rd P E H (.build t ps.toArray) (.agg cs.toArray) :=
  fun a w d ty pos af g h1 h2 => by
    have := evs_ok h1 hv
    have e : (ps.toArray.map fun x => (x.1, a.eval x.2)) = vs.toArray := by rw [← this]; simp
    simp only [execOp, Sem.run_bind]
    have e2 : (ps.toArray.map fun (i, x) => (i, a.eval x)) = vs.toArray := e
    rw [e2, hb w]; rfl
theorem rd_func {f : FuncId} {cap : List Operand} {vs : List (Nat × Value)} (hv : evs E (cap.map (fun x => (0, x))) = some vs) : Rd P E H (.makeFunc (.func f) #[] cap.toArray) (.func (.func f) #[] (vs.map (·.2)).toArray) :=
  fun a w d ty pos af g h1 h2 => by
    have := evs_ok h1 hv
    have e : (cap.map a.eval) = vs.map (·.2) := by rw [← this]; simp
    simp [execOp, Instr.makeFunc, e]

/-! ### Operations that make or write memory -/
theorem o_alloc {d : Nat} {t : TypeId} {ty : TypeId} {pos : String} {af : Array Edge} {cs : List Value} [hz : Zer P t cs] (hd : Nat.blt d n = true)
    (k : ∀ b, SO P n ops rest ((d, .pointer (some ⟨b, 0, none⟩)) :: E) ((b, true, C cs t) :: H) Q) : SO P n ops (⟨some d, .alloc t, ty, pos, af, none⟩ :: rest) E H Q := by
  intro a w h1 h2 h3 h4
  refine wpList_plain rfl fun K hK => ?_
  obtain ⟨v, hv, hc⟩ := run_zeroCells (P := P) (t := t) w
  have hrun : (execOp a.eval ⟨some d, .alloc t, ty, pos, af, none⟩).run P w = .ok (.value (.pointer (some ⟨w.heap.size, 0, none⟩))) { w with heap := w.heap.push (C cs t) } := by
    simp [execOp, Instr.alloc, hv, newVar, newRow, hc, C, CF]
  unfold Oper.wp
  rw [hrun]
  have hlt : d < a.tmps.size := by rw [h2]; exact Nat.le_of_ble_eq_true hd
  have ht := trk_newC (cs := cs) (T := t) h4
  exact hK _ _ (wpList_up ht (k _ _ _ (h1.put hlt) (by simp [Act.put, h2]) h3 ht.ok))
theorem o_box {d : Nat} {t : TypeId} {x : Operand} {ty : TypeId} {pos : String} {af : Array Edge} {v : Value} (hx : ev E x = some v) (hd : Nat.blt d n = true)
    (k : ∀ b, SO P n ops rest ((d, .pointer (some ⟨b, 0, none⟩)) :: E) ((b, true, C v.cells.toList t) :: H) Q) : SO P n ops (⟨some d, .box t x, ty, pos, af, none⟩ :: rest) E H Q := by
  intro a w h1 h2 h3 h4
  refine wpList_plain rfl fun K hK => ?_
  have hrun : (execOp a.eval ⟨some d, .box t x, ty, pos, af, none⟩).run P w = .ok (.value (.pointer (some ⟨w.heap.size, 0, none⟩))) { w with heap := w.heap.push (C v.cells.toList t) } := by
    simp [execOp, Instr.box, ev_ok h1 hx, newVar, newRow, C, CF]
  unfold Oper.wp
  rw [hrun]
  have hlt : d < a.tmps.size := by rw [h2]; exact Nat.le_of_ble_eq_true hd
  have ht := trk_newC (cs := v.cells.toList) (T := t) h4
  exact hK _ _ (wpList_up ht (k _ _ _ (h1.put hlt) (by simp [Act.put, h2]) h3 ht.ok))

theorem setRow_setBlk (w : World) (b : Nat) (cs : List Value) {old : List Value} {T : TypeId} (h : w.heap[b]? = some (C old T)) : w.setRow b cs.toArray = setBlk w b (C cs T) := by
  unfold World.setRow setBlk
  congr 1
  apply Array.ext_getElem?
  intro i
  rw [Array.getElem?_modify, Array.getElem?_setIfInBounds]
  split
  · rename_i e; subst e; rw [h]; simp [C, CF, (Array.getElem?_eq_some_iff.1 h).1]
  · rfl

theorem run_store {t : TypeId} {b o : Nat} {v : Value} {cs cs' vs : List Value} {T : TypeId} {w : World} (hh : w.heap[b]? = some (C cs T)) (hv : vcells v = some vs) {m : Nat} [hz : Siz P t m] (hm : vs.length = m) (hs : splice cs o vs = some cs') :
    (storeVar t ⟨b, o, none⟩ v).run P w = .ok () (setBlk w b (C cs' T)) := by
  obtain ⟨h1, h2⟩ := splice_eq cs o vs cs' hs
  obtain ⟨h3, h4⟩ := vcells_eq hv
  have := run_storeCells_at P b o T vs 0 cs.toArray w hh (by simpa using h2) h4
  subst hm
  simp only [storeVar, Sem.run_bind, run_sizeOf, Result.andThen_ok, h3]
  simp [this]
  rw [← setRow_setBlk w b cs' hh, h1]
  simp

theorem o_store {t : TypeId} {x y : Operand} {ty : TypeId} {pos : String} {af : Array Edge} {b o : Nat} {v : Value} {vs cs cs' : List Value} {T : TypeId} {H' : Hp}
    (hx : ev E x = some (.pointer (some ⟨b, o, none⟩))) (hy : ev E y = some v) (hu : Upd b (C cs T) (C cs' T) H H') (hv : vcells v = some vs) {m : Nat} [hz : Siz P t m] (hm : vs.length = m) (hs : splice cs o vs = some cs')
    (k : SO P n ops rest E H' Q) : SO P n ops (⟨none, .store t x y, ty, pos, af, none⟩ :: rest) E H Q := by
  intro a w h1 h2 h3 h4
  refine wpList_plain rfl fun K hK => ?_
  have hrun : (execOp a.eval ⟨none, .store t x y, ty, pos, af, none⟩).run P w = .ok .skip (setBlk w b (C cs' T)) := by
    simp [execOp, ev_ok h1 hx, ev_ok h1 hy, Instr.storeAt, Instr.sureAddr, run_store (h4.here _ hu.mem) hv hm hs]
  unfold Oper.wp
  rw [hrun]
  have ht := trk_setC h4 hu
  exact hK _ _ (wpList_up ht (k _ _ h1 h2 h3 ht.ok))

/-- a slice of the call's own, of what is written out -/
theorem o_bslice {d : Nat} {t e : TypeId} {l sz : Nat} {ps : List (Nat × Operand)} {ty : TypeId} {pos : String} {af : Array Edge} {vs : List (Nat × Value)} {cs : List Value} [ht : Und P t (.slice e)] (hv : evs E ps = some vs)
    (hb : ∀ w, (Instr.buildSlice t l vs.toArray).run P w = .ok (.slice (some ⟨w.heap.size, 0, none⟩) l l) { w with heap := w.heap.push (C cs e) }) (hd : Nat.blt d n = true)
    (k : ∀ b, SO P n ops rest ((d, .slice (some ⟨b, 0, none⟩) l l) :: E) ((b, true, C cs e) :: H) Q) : SO P n ops (⟨some d, .buildSlice t l ps.toArray, ty, pos, af, none⟩ :: rest) E H Q := by
  intro a w h1 h2 h3 h4
  refine wpList_plain rfl fun K hK => ?_
  have hrun : (execOp a.eval ⟨some d, .buildSlice t l ps.toArray, ty, pos, af, none⟩).run P w = .ok (.value (.slice (some ⟨w.heap.size, 0, none⟩) l l)) { w with heap := w.heap.push (C cs e) } := by
    have := evs_ok h1 hv
    have e2 : (ps.toArray.map fun (i, x) => (i, a.eval x)) = vs.toArray := by rw [← this]; simp
    simp only [execOp, Sem.run_bind]
    rw [e2, hb w]; rfl
  unfold Oper.wp
  rw [hrun]
  have hlt : d < a.tmps.size := by rw [h2]; exact Nat.le_of_ble_eq_true hd
  have ht := trk_newC (cs := cs) (T := e) h4
  exact hK _ _ (wpList_up ht (k _ _ _ (h1.put hlt) (by simp [Act.put, h2]) h3 ht.ok))

/-! ### A call -/
def evl (E : Env) : List Operand → Option (List Value)
  | [] => some []
  | x :: l => match ev E x with | some v => (match evl E l with | some r => some (v :: r) | none => none) | none => none
theorem evl_ok {a : Act} (h : EnvOk E a) : ∀ {l : List Operand} {r : List Value}, evl E l = some r → l.map a.eval = r
  | [], r, hr => by simp [evl] at hr; simp [hr]
  | x :: l, r, hr => by
    simp only [evl] at hr
    cases hx : ev E x with
    | none => simp [hx] at hr
    | some v =>
      cases hl : evl E l with
      | none => simp [hx, hl] at hr
      | some r' => simp [hx, hl] at hr; subst hr; simp [ev_ok h hx, evl_ok h hl]

/-- What a call enters, as a fact on the program: by 'kernel_rfl'. -/
class Ent (P : Program) (f : FuncId) : Prop where eq : ∀ args w, (callFunc f args).run P w = .ok (.enter f args) w

theorem o_call {d : Option Nat} {f : FuncId} {xs : List Operand} {ts : Array TypeId} {ty : TypeId} {pos : String} {af : Array Edge} {args : List Value} {L F : Hp} {R : Value → Hp → Prop} [he : Ent P f]
    (hx : evl E xs = some args) (hf : Does P f args L R) (hs : Split H L F) (hd : (match d with | some d => Nat.blt d n | none => true) = true)
    (k : ∀ v L', R v L' → SO P n ops rest (match d with | some d => (d, v) :: E | none => E) (L' ++ F) Q) : SO P n ops (⟨d, .call ⟨.value (.func f), xs.toArray, ts⟩, ty, pos, af, none⟩ :: rest) E H Q := by
  intro a w h1 h2 h3 h4
  refine wpList_plain rfl fun K hK => ?_
  have hrun : (execOp a.eval ⟨d, .call ⟨.value (.func f), xs.toArray, ts⟩, ty, pos, af, none⟩).run P w = .ok (.enter f args.toArray) w := by
    have e := evl_ok h1 hx
    have e2 : xs.toArray.map a.eval = args.toArray := by rw [← e]; simp
    simp only [execOp, resolve, Act.eval, Sem.run_bind, Deferred.ofValue, Sem.run_pure, Result.andThen_ok, invoke]
    rw [e2]
    simpa using he.eq args.toArray w
  unfold Oper.wp
  rw [hrun, Oper.upon_enter]
  have hp := hs.perm
  have hok := h4.perm hp
  refine (hf w hok.left).mono ?_
  rintro e w' ⟨v, L', rfl, hR, ht⟩
  have ht' : Trk w w' H (L' ++ F) := (ht.frame hok).perm_left hp.symm
  have hk := k v L' hR
  refine hK _ _ (wpList_up ht' ?_)
  cases d with
  | none => exact hk _ _ h1 h2 h3 ht'.ok
  | some d =>
    have hlt : d < a.tmps.size := by rw [h2]; exact Nat.le_of_ble_eq_true hd
    exact hk _ _ (h1.put hlt) (by simp [Act.put, h2]) h3 ht'.ok
end
end Go.K
