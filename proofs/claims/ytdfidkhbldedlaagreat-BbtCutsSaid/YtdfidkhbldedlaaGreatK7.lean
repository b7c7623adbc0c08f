/-
  The thin layer, seventh part: '==' on structs and arrays of whole numbers and bools, cell by cell.
-/
import Derived.Test.YtdfidkhbldedlaaGreatK6
import Derived.Laws.StructEq
namespace Go.K
set_option linter.unusedVariables false
set_option linter.unusedSimpArgs false

/-- A cell's kind: whole numbers of a kind, or bools. -/
abbrev Kd := Option IntKind
def veq : Kd → Value → Value → Option Bool
  | none, .bool a, .bool b => some (a == b)
  | some k, .int k' a, .int k'' b => if k' = k ∧ k'' = k then some (decide (a = b)) else none
  | _, _, _ => none
def cellsEq : List Kd → List Value → List Value → Option Bool
  | [], [], [] => some true
  | k :: ks, x :: xs, y :: ys => match veq k x y with
    | some a => (match cellsEq ks xs ys with | some b => some (a && b) | none => none)
    | none => none
  | _, _, _ => none

theorem cellsEq_len : ∀ {ks : List Kd} {xs ys : List Value} {r : Bool}, cellsEq ks xs ys = some r → xs.length = ks.length ∧ ys.length = ks.length
  | [], [], [], _, _ => ⟨rfl, rfl⟩
  | [], [], _ :: _, _, h => by cases h
  | [], _ :: _, _, _, h => by cases h
  | _ :: _, [], _, _, h => by cases h
  | _ :: _, _ :: _, [], _, h => by cases h
  | k :: ks, x :: xs, y :: ys, r, h => by
    simp only [cellsEq] at h
    cases hv : veq k x y with
    | none => simp [hv] at h
    | some c =>
      simp only [hv] at h
      cases hc : cellsEq ks xs ys with
      | none => simp [hc] at h
      | some e => have := cellsEq_len hc; simp [this]
theorem cellsEq_split : ∀ (k1 k2 : List Kd) (xs ys : List Value) (r : Bool), cellsEq (k1 ++ k2) xs ys = some r →
    ∃ a b, cellsEq k1 (xs.take k1.length) (ys.take k1.length) = some a ∧ cellsEq k2 (xs.drop k1.length) (ys.drop k1.length) = some b ∧ r = (a && b)
  | [], k2, xs, ys, r, h => ⟨true, r, by simp [cellsEq], by simpa using h, by simp⟩
  | k :: k1, k2, xs, ys, r, h => by
    cases xs with
    | nil => cases h
    | cons x xs => cases ys with
      | nil => cases h
      | cons y ys =>
        simp only [List.cons_append, cellsEq] at h
        cases hv : veq k x y with
        | none => simp [hv] at h
        | some c =>
          simp only [hv] at h
          cases hc : cellsEq (k1 ++ k2) xs ys with
          | none => simp [hc] at h
          | some e =>
            simp only [hc, Option.some.injEq] at h
            obtain ⟨a, b, h1, h2, h3⟩ := cellsEq_split k1 k2 xs ys e hc
            subst h
            exact ⟨c && a, b, by simp [cellsEq, hv, h1], by simpa using h2, by simp [h3, Bool.and_assoc]⟩

section
variable (P : Program)
/-- The fields lie one behind the other, none is blank. -/
def flatFs (f : TypeId → Option (List Kd)) : List Field → Nat → Option (List Kd)
  | [], _ => some []
  | fl :: fs, o => match f fl.type with
    | some s => if fl.offset = o ∧ fl.name ≠ "_" then (match flatFs f fs (o + s.length) with | some r => some (s ++ r) | none => none) else none
    | none => none
def reps : Nat → List Kd → List Kd
  | 0, _ => []
  | n + 1, s => s ++ reps n s
/-- A type of whole numbers and bools alone: its cells' kinds. -/
def flatB : Nat → TypeId → Option (List Kd)
  | 0, _ => none
  | d + 1, t =>
    match P.underlying t with
    | some .bool => if (P.info? t).map (·.size) = some 1 then some [none] else none
    | some (.int k) => if (P.info? t).map (·.size) = some 1 then some [some k] else none
    | some (.struct fs) => if P.stoodInHeld t = false then (match flatFs (flatB d) fs.toList 0 with | some s => if (P.info? t).map (·.size) = some s.length then some s else none | none => none) else none
    | some (.array n e) => (match flatB d e with | some s => if (P.info? e).map (·.size) = some s.length ∧ (P.info? t).map (·.size) = some (n * s.length) then some (reps n s) else none | none => none)
    | _ => none
end
theorem reps_len (n : Nat) (s : List Kd) : (reps n s).length = n * s.length := by
  induction n with
  | zero => simp [reps]
  | succ n ih => simp [reps, ih, Nat.succ_mul, Nat.add_comm]

section
variable {P : Program}
/-- The value of a type that has these cells. -/
def ofCells (P : Program) (t : TypeId) (cs : List Value) : Value :=
  match P.underlying t with
  | some (.struct _) | some (.array _ _) => .agg cs.toArray
  | _ => cs.headD undef

theorem run_isAgg' {t : TypeId} {d : TypeDesc} (h : P.underlying t = some d) (w : World) : (isAgg t).run P w = .ok (agg d) w := by
  unfold isAgg
  rw [Sem.run_bind, run_underlying h w]
  cases d <;> rfl
theorem run_sizeOf' {t : TypeId} {n : Nat} (h : (P.info? t).map (·.size) = some n) (w : World) : (sizeOf t).run P w = .ok n w :=
  @run_sizeOf P t n ⟨h⟩ w

theorem flatB_size {d : Nat} {t : TypeId} {s : List Kd} (h : flatB P d t = some s) : ((∃ k, P.underlying t = some (.int k) ∧ s = [some k]) ∨ (P.underlying t = some .bool ∧ s = [none]) ∨ (∃ d, P.underlying t = some d ∧ agg d = true)) ∧ (P.info? t).map (·.size) = some s.length := by
  cases d with
  | zero => cases h
  | succ d =>
    unfold flatB at h
    cases hu : P.underlying t with
    | none => rw [hu] at h; cases h
    | some u =>
      rw [hu] at h
      cases u <;> simp only at h <;> try (cases h; done)
      case bool => split at h; (rename_i hh; cases h; exact ⟨.inr (.inl ⟨rfl, rfl⟩), hh⟩); cases h
      case int k => split at h; (rename_i hh; cases h; exact ⟨.inl ⟨k, rfl, rfl⟩, hh⟩); cases h
      case array n e =>
        split at h
        · rename_i s' hs'
          split at h
          · rename_i hh; cases h; exact ⟨.inr (.inr ⟨_, rfl, rfl⟩), by rw [reps_len]; exact hh.2⟩
          · cases h
        · cases h
      case struct fs =>
        split at h
        · split at h
          · split at h
            · rename_i hh; cases h; exact ⟨.inr (.inr ⟨_, rfl, rfl⟩), hh⟩
            · cases h
          · cases h
        · cases h

theorem head_take (cs : List Value) (o : Nat) (h : o < cs.length) : ((cs.drop o).take 1).headD undef = cs[o] := by
  rw [List.drop_eq_getElem_cons h]; rfl
theorem part_flat {d : Nat} {t : TypeId} {s : List Kd} (h : flatB P d t = some s) (cs : List Value) (o : Nat) (ho : o + s.length ≤ cs.length) (w : World) :
    (part t cs.toArray o).run P w = .ok (ofCells P t ((cs.drop o).take s.length)) w := by
  obtain ⟨hcase, hs⟩ := flatB_size h
  rcases hcase with ⟨k, hu, rfl⟩ | ⟨hu, rfl⟩ | ⟨u, hu, ha⟩
  · have hlt : o < cs.length := by simp at ho; omega
    have e := head_take cs o hlt
    simp only [part, Sem.run_bind, run_isAgg' hu, Result.andThen_ok, agg, Bool.false_eq_true, if_false, ofCells, hu, List.length_singleton, e]
    simp [hlt]
  · have hlt : o < cs.length := by simp at ho; omega
    have e := head_take cs o hlt
    simp only [part, Sem.run_bind, run_isAgg' hu, Result.andThen_ok, agg, Bool.false_eq_true, if_false, ofCells, hu, List.length_singleton, e]
    simp [hlt]
  · have e : cs.toArray.extract o (o + s.length) = ((cs.drop o).take s.length).toArray := by
      apply Array.ext'
      rw [Array.toList_extract]
      simp [List.extract_eq_take_drop]
    simp only [part, Sem.run_bind, run_isAgg' hu, Result.andThen_ok, ha, if_true, run_sizeOf' hs, Sem.run_pure, e, ofCells, hu]
    cases u <;> simp_all [agg]

theorem fields_flat {d : Nat} (ih : ∀ (t : TypeId) (s : List Kd) (xs ys : List Value) (r : Bool) (w : World), flatB P d t = some s → cellsEq s xs ys = some r → ∀ m, (Op.equalIn (d + m) t (ofCells P t xs) (ofCells P t ys)).run P w = .ok r w) (m : Nat) :
    ∀ (fs : List Field) (o : Nat) (s : List Kd) (xs ys : List Value) (r : Bool) (w : World), flatFs (flatB P d) fs o = some s → cellsEq s (xs.drop o) (ys.drop o) = some r → o ≤ xs.length → o ≤ ys.length → (Op.eqFields (d + m) xs.toArray ys.toArray fs).run P w = .ok r w
  | [], o, s, xs, ys, r, w, h, hc, _, _ => by
    simp only [flatFs, Option.some.injEq] at h
    subst h
    have : r = true := by
      cases hx : xs.drop o <;> cases hy : ys.drop o <;> rw [hx, hy] at hc <;> simp [cellsEq] at hc
      exact hc
    subst this
    simp [Op.eqFields]
  | f :: fs, o, s, xs, ys, r, w, h, hc, hox, hoy => by
    simp only [flatFs] at h
    cases hf : flatB P d f.type with
    | none => simp [hf] at h
    | some s1 =>
      simp only [hf] at h
      split at h
      · rename_i hon
        cases hr : flatFs (flatB P d) fs (o + s1.length) with
        | none => simp [hr] at h
        | some s2 =>
          simp only [hr, Option.some.injEq] at h
          subst h
          have hl := cellsEq_len hc
          simp only [List.length_append, List.length_drop] at hl
          obtain ⟨a, b, h1, h2, rfl⟩ := cellsEq_split s1 s2 _ _ r hc
          rw [List.drop_drop, List.drop_drop] at h2
          have e1 := part_flat hf xs o (by omega) w
          have e2 := part_flat hf ys o (by omega) w
          have e3 := ih f.type s1 _ _ a w hf h1 m
          have e4 := fields_flat ih m fs (o + s1.length) s2 xs ys b w hr h2 (by omega) (by omega)
          obtain ⟨hoff, hname⟩ := hon
          simp only [Op.eqFields, hname, if_true, Sem.run_bind, hoff, e1, e2, Result.andThen_ok, e3, ne_eq, not_false_eq_true]
          cases a <;> simp [e4]
      · cases h

/-- An array's elements, one behind the other. -/
theorem elems_flat {d : Nat} {e : TypeId} {s : List Kd} (hs : flatB P d e = some s) (ih : ∀ (t : TypeId) (s : List Kd) (xs ys : List Value) (r : Bool) (w : World), flatB P d t = some s → cellsEq s xs ys = some r → ∀ m, (Op.equalIn (d + m) t (ofCells P t xs) (ofCells P t ys)).run P w = .ok r w) (m : Nat) (xs ys : List Value) (w : World) :
    ∀ (k i : Nat) (r : Bool), cellsEq (reps k s) (xs.drop (i * s.length)) (ys.drop (i * s.length)) = some r → i * s.length ≤ xs.length → i * s.length ≤ ys.length →
      ∃ z, (forIn (m := Sem) (List.range' i k) ((none, ()) : Option Bool × Unit) (fun j _ => do
        let a ← part e xs.toArray (j * s.length)
        let b ← part e ys.toArray (j * s.length)
        let q ← Op.equalIn (d + m) e a b
        if (!q) = true then pure (ForInStep.done (some false, ())) else pure (ForInStep.yield (none, ())))).run P w = .ok z w ∧ (z.1 = (if r then none else some false))
  | 0, i, r, hc, _, _ => by
    have : r = true := by
      cases hx : xs.drop (i * s.length) <;> cases hy : ys.drop (i * s.length) <;> rw [hx, hy] at hc <;> simp [reps, cellsEq] at hc
      exact hc
    subst this
    exact ⟨(none, ()), by simp, by simp⟩
  | k + 1, i, r, hc, hx, hy => by
    have hl := cellsEq_len hc
    simp only [reps, List.length_append, List.length_drop] at hl
    obtain ⟨a, b, h1, h2, rfl⟩ := cellsEq_split s (reps k s) _ _ r hc
    rw [List.drop_drop, List.drop_drop] at h2
    have e1 := part_flat hs xs (i * s.length) (by omega) w
    have e2 := part_flat hs ys (i * s.length) (by omega) w
    have e3 := ih e s _ _ a w hs h1 m
    have ei : (i + 1) * s.length = i * s.length + s.length := by rw [Nat.add_mul, Nat.one_mul]
    rw [← ei] at h2
    simp only [List.range'_succ, List.forIn_cons, Sem.run_bind, e1, e2, e3, Result.andThen_ok]
    cases a with
    | false => exact ⟨(some false, ()), by simp, by simp⟩
    | true =>
      obtain ⟨z, hz, hz2⟩ := elems_flat hs ih m xs ys w k (i + 1) b h2 (by omega) (by omega)
      exact ⟨z, by simpa using hz, by simpa using hz2⟩

theorem equal_flat : ∀ (d : Nat) (t : TypeId) (s : List Kd) (xs ys : List Value) (r : Bool) (w : World), flatB P d t = some s → cellsEq s xs ys = some r →
    ∀ m, (Op.equalIn (d + m) t (ofCells P t xs) (ofCells P t ys)).run P w = .ok r w := by
  intro d
  induction d with
  | zero => intro t s xs ys r w h; cases h
  | succ d ih =>
    intro t s xs ys r w h hc m
    rw [show d + 1 + m = (d + m) + 1 by omega]
    unfold flatB at h
    cases hu : P.underlying t with
    | none => rw [hu] at h; cases h
    | some u =>
      rw [hu] at h
      cases u <;> simp only at h <;> try (cases h; done)
      case bool =>
        split at h <;> cases h
        have hl := cellsEq_len hc
        match xs, ys, hl with
        | [x], [y], _ =>
          simp only [cellsEq] at hc
          cases hv : veq none x y with
          | none => simp [hv] at hc
          | some c =>
            simp only [hv, Bool.and_true, Option.some.injEq] at hc
            subst hc
            unfold veq at hv
            split at hv
            · cases hv; simp only [ofCells, hu, List.headD]; exact @equalIn_bool P t ⟨hu⟩ (d + m) _ _ w
            · contradiction
            · cases hv
      case int k =>
        split at h <;> cases h
        have hl := cellsEq_len hc
        match xs, ys, hl with
        | [x], [y], _ =>
          simp only [cellsEq] at hc
          cases hv : veq (some k) x y with
          | none => simp [hv] at hc
          | some c =>
            simp only [hv, Bool.and_true, Option.some.injEq] at hc
            subst hc
            unfold veq at hv
            split at hv
            · contradiction
            · rename_i k0 k' a k'' b _
              rename_i h0
              cases h0
              split at hv
              · rename_i hk
                obtain ⟨rfl, rfl⟩ := hk
                cases hv
                simp only [ofCells, hu, List.headD]
                exact run_equalIn_int w (d + m) t _ _ _ _ hu
              · cases hv
            · cases hv
      case array n e =>
        split at h
        · rename_i s' hs'
          split at h
          · rename_i hh
            cases h
            obtain ⟨z, hz, hz2⟩ := elems_flat hs' ih m xs ys w n 0 r (by simpa using hc) (by simp) (by simp)
            simp only [ofCells, hu]
            simp only [Op.equalIn, Sem.run_bind, run_underlying hu, Result.andThen_ok, run_sizeOf' hh.1]
            simp only [Std.Legacy.Range.forIn_eq_forIn_range', Std.Legacy.Range.size, Nat.sub_zero, Nat.add_sub_cancel, Nat.div_one]
            have e0 : n + 1 - 1 = n := by omega
            rw [hz]
            simp only [Result.andThen_ok]
            rw [hz2]
            cases r <;> simp
          · cases h
        · cases h
      case struct fs =>
        split at h
        · rename_i hst
          split at h
          · rename_i s' hs'
            split at h
            · cases h
              simp only [ofCells, hu]
              have hf : P.fieldsOf t = fs := by simp [Program.fieldsOf, hu]
              rw [run_equalIn_struct w (d + m) t _ _ (by rw [hf]; exact hu) hst, hf]
              exact fields_flat ih m fs.toList 0 _ xs ys r w hs' (by simpa using hc) (by simp) (by simp)
            · cases h
          · cases h
        · cases h

/-- A type that is compared cell by cell: as a fact on the program, by 'kernel_rfl'. -/
class Flat (P : Program) (t : TypeId) (s : outParam (List Kd)) : Prop where
  eq : flatB P 20 t = some s
  gd : P.eqGuardType P.depth t = false
  ag : ∃ d, P.underlying t = some d ∧ agg d = true

variable {E : Env} {H : Hp}
theorem equal_agg {t : TypeId} {s : List Kd} {xs ys : Array Value} {r : Bool} [hf : Flat P t s] (hc : cellsEq s xs.toList ys.toList = some r) (w : World) : (Op.equal t (.agg xs) (.agg ys)).run P w = .ok r w := by
  have := equal_flat 20 t s xs.toList ys.toList r w hf.eq hc 9980
  obtain ⟨d, hu, ha⟩ := hf.ag
  have e : ∀ zs : Array Value, ofCells P t zs.toList = .agg zs := by
    intro zs
    unfold ofCells
    rw [hu]
    cases d <;> simp_all [agg]
  rw [e, e] at this
  exact this
theorem rd_eqA {t u : TypeId} {x y : Operand} {s : List Kd} {xs ys : Array Value} {r : Bool} [hf : Flat P t s] (hx : ev E x = some (.agg xs)) (hy : ev E y = some (.agg ys)) (hc : cellsEq s xs.toList ys.toList = some r) : Rd P E H (.binOp .eql t x y u) (.bool r) :=
  fun a w d ty pos af g h1 h2 => by
    simp only [execOp, ev_ok h1 hx, ev_ok h1 hy, Sem.run_bind, run_eqGuard_agg w _ t _ _ _ _ hf.gd, Result.andThen_ok]
    have hb : binOp .eql t (.agg xs) (.agg ys) = (do pure (.bool (← Op.equal t (.agg xs) (.agg ys)))) := rfl
    simp only [hb, Sem.run_bind, equal_agg hc, Result.andThen_ok, Sem.run_pure]
theorem rd_neA {t u : TypeId} {x y : Operand} {s : List Kd} {xs ys : Array Value} {r : Bool} [hf : Flat P t s] (hx : ev E x = some (.agg xs)) (hy : ev E y = some (.agg ys)) (hc : cellsEq s xs.toList ys.toList = some r) : Rd P E H (.binOp .neq t x y u) (.bool (!r)) :=
  fun a w d ty pos af g h1 h2 => by
    simp only [execOp, ev_ok h1 hx, ev_ok h1 hy, Sem.run_bind, run_eqGuard_agg w _ t _ _ _ _ hf.gd, Result.andThen_ok]
    have hb : binOp .neq t (.agg xs) (.agg ys) = (do pure (.bool (!(← Op.equal t (.agg xs) (.agg ys))))) := rfl
    simp only [hb, Sem.run_bind, equal_agg hc, Result.andThen_ok, Sem.run_pure]
end
end Go.K
