/-
  The thin layer, eighth part: slices of the call's own: written out, made, appended to, copied.
-/
import Derived.Test.YtdfidkhbldedlaaGreatK7
namespace Go.K
set_option linter.unusedVariables false
set_option linter.unusedSimpArgs false

/-- How many bytes an element has. -/
class Byt (P : Program) (t : TypeId) (n : outParam Nat) : Prop where eq : (P.info? t).map (·.bytes) = some n

def fillA (sz : Nat) : List Value → List (Nat × Value) → Option (List Value)
  | cs, [] => some cs
  | cs, (i, v) :: r => bif Nat.beq v.cells.toList.length sz then (match splice cs (i * sz) v.cells.toList with | none => none | some cs' => fillA sz cs' r) else none
theorem fillA_ok (sz : Nat) : ∀ (vs : List (Nat × Value)) (cs r : List Value), fillA sz cs vs = some r → Instr.fill (fun i => some (i * sz, sz)) cs.toArray vs = some r.toArray
  | [], cs, r, h => by simp [fillA] at h; simp [Instr.fill, h]
  | (i, v) :: vs, cs, r, h => by
    simp only [fillA] at h
    cases hb : Nat.beq v.cells.toList.length sz with
    | false => rw [hb] at h; cases h
    | true =>
      rw [hb] at h; simp only [cond_true] at h
      have hs : v.cells.size = sz := by have := Nat.eq_of_beq_eq_true hb; simpa using this
      cases hsp : splice cs (i * sz) v.cells.toList with
      | none => simp [hsp] at h
      | some cs' =>
        simp only [hsp] at h
        obtain ⟨h1, h2⟩ := splice_eq cs (i * sz) _ cs' hsp
        have ih := fillA_ok sz vs cs' r h
        unfold Instr.fill
        simp only
        rw [if_neg (by simp [hs]; simp at h2; omega)]
        rw [← ih]
        congr 1
        apply Array.ext'
        have := foldl_set (i * sz) v.cells.toList 0 cs.toArray (by simpa using h2)
        rw [h1]
        rw [← Array.foldl_toList, Array.toList_zipIdx]
        simpa using this

/-- So many times the zero value's cells. -/
def zrep : Nat → List Value → List Value
  | 0, _ => []
  | n + 1, zs => zs ++ zrep n zs
theorem zrep_len (n : Nat) (zs : List Value) : (zrep n zs).length = n * zs.length := by
  induction n with
  | zero => simp [zrep]
  | succ n ih => simp [zrep, ih, Nat.succ_mul, Nat.add_comm]
theorem zrep_get (n : Nat) (zs : List Value) (i : Nat) (hi : i < n * zs.length) : (zrep n zs)[i]? = zs[i % zs.length]? := by
  induction n generalizing i with
  | zero => simp at hi
  | succ n ih =>
    rw [Nat.succ_mul] at hi
    simp only [zrep]
    by_cases h : i < zs.length
    · rw [List.getElem?_append_left h, Nat.mod_eq_of_lt h]
    · rw [List.getElem?_append_right (by omega), ih _ (by omega)]
      rw [show i % zs.length = (i - zs.length) % zs.length from Nat.mod_eq_sub_mod (by omega)]
theorem zrep_eq (n : Nat) (z : Array Value) (zs : List Value) (hz : z = zs.toArray) : (Array.range (n * zs.length)).map (fun i => z[i % z.size]!) = (zrep n zs).toArray := by
  subst hz
  apply Array.ext_getElem?
  intro i
  simp only [Array.getElem?_map, List.getElem?_toArray]
  by_cases h : i < n * zs.length
  · have hp : 0 < zs.length := by
      rcases Nat.eq_zero_or_pos zs.length with h0 | h0
      · rw [h0] at h; simp at h
      · exact h0
    have hm := Nat.mod_lt i hp
    rw [zrep_get n zs i h]
    simp [h, hm]
  · rw [List.getElem?_eq_none (by rw [zrep_len]; omega)]
    simp [h]

section
variable {P : Program} {n : Nat} {E : Env} {H : Hp} {Q : Post} {ops : Array Oper} {rest : List Oper}

theorem o_bslice_k {d : Nat} {t e : TypeId} {l : Nat} {ps : List (Nat × Operand)} {ty : TypeId} {pos : String} {af : Array Edge} {vs : List (Nat × Value)} {cs zs : List Value} [ht : Und P t (.slice e)] [hz : Zer P e zs] [hs : Siz P e zs.length]
    (hv : evs E ps = some vs) (hb : fillA zs.length (zrep l zs) vs = some cs) (hl : Nat.ble (l * zs.length) 16777216 = true) (hd : Nat.blt d n = true)
    (k : ∀ b, SO P n ops rest ((d, .slice (some ⟨b, 0, none⟩) l l) :: E) ((b, true, C cs e) :: H) Q) : SO P n ops (⟨some d, .buildSlice t l ps.toArray, ty, pos, af, none⟩ :: rest) E H Q := by
  refine o_bslice (ht := ht) (cs := cs) (sz := zs.length) hv (fun w => ?_) hd k
  obtain ⟨z, hz1, hz2⟩ := run_zeroCells (P := P) (t := e) w
  have hfill := fillA_ok zs.length vs (zrep l zs) cs hb
  have hl' : ¬ l * zs.length > 2 ^ 24 := by have := Nat.le_of_ble_eq_true hl; omega
  simp only [Instr.buildSlice, Sem.run_bind, run_underlying ht.eq, Result.andThen_ok, run_sizeOf, hl', if_false]
  by_cases h0 : l * zs.length = 0
  · have he : zrep l zs = [] := List.length_eq_zero_iff.1 (by rw [zrep_len]; exact h0)
    rw [he] at hfill
    have hr : Array.range 0 = #[] := rfl
    simp [h0, hr, hfill, newRow, C, CF]
  · simp only [h0, if_false, Sem.run_bind, hz1, Result.andThen_ok, Sem.run_pure]
    rw [zrep_eq l z.cells zs hz2, hfill]
    simp [newRow, C, CF]

/-- an array's value out of its parts -/
theorem rd_build_a {t e : TypeId} {l : Nat} {ps : List (Nat × Operand)} {vs : List (Nat × Value)} {zs cs : List Value} {sz : Nat} [ht : Und P t (.array l e)] [hz : Zer P t zs] [hs : Siz P e sz] (hv : evs E ps = some vs) (hf : fillA sz zs vs = some cs) : Rd P E H (.build t ps.toArray) (.agg cs.toArray) := by
  refine rd_build hv ?_
  intro w
  obtain ⟨z, hz1, hz2⟩ := run_zeroCells (P := P) (t := t) w
  have hfill := fillA_ok sz vs zs cs hf
  simp only [Instr.build, Sem.run_bind, hz1, Result.andThen_ok, run_underlying ht.eq, run_sizeOf, hz2]
  simp only [hfill]
  simp
theorem rd_zeroA {t e : TypeId} {l : Nat} {zs : List Value} {sz : Nat} [ht : Und P t (.array l e)] [hz : Zer P t zs] [hs : Siz P e sz] : Rd P E H (.build t #[]) (.agg zs.toArray) := rd_build_a (ps := []) (sz := sz) (zs := zs) rfl rfl

/-- make([]T, l, c) -/
theorem o_make {d : Nat} {t e : TypeId} {x y : Operand} {k1 k2 : IntKind} {i j : Int} {ty : TypeId} {pos : String} {af : Array Edge} {zs : List Value} {bs : Nat} [ht : Und P t (.slice e)] [hz : Zer P e zs] [hs : Siz P e zs.length] [hby : Byt P e bs]
    (hx : ev E x = some (.int k1 i)) (hy : ev E y = some (.int k2 j)) (hb : 0 ≤ i ∧ i ≤ j ∧ bs * j ≤ 281474976710656 ∧ j ≤ 281474976710656) (hd : Nat.blt d n = true)
    (k : ∀ b, SO P n ops rest ((d, .slice (some ⟨b, 0, none⟩) i.toNat j.toNat) :: E) ((b, true, C (zrep j.toNat zs) e) :: H) Q) : SO P n ops (⟨some d, .makeSlice t x y, ty, pos, af, none⟩ :: rest) E H Q := by
  intro a w h1 h2 h3 h4
  refine wpList_plain rfl fun K hK => ?_
  have hrun : (execOp a.eval ⟨some d, .makeSlice t x y, ty, pos, af, none⟩).run P w = .ok (.value (.slice (some ⟨w.heap.size, 0, none⟩) i.toNat j.toNat)) { w with heap := w.heap.push (C (zrep j.toNat zs) e) } := by
    obtain ⟨z, hz1, hz2⟩ := run_zeroCells (P := P) (t := e) w
    have hi : IntKind.i64.wrap i = i := wrap64_in (by omega)
    have hj : IntKind.i64.wrap j = j := wrap64_in (by omega)
    have hbytes := hby.eq
    cases hq : P.info? e with
    | none => simp [hq] at hbytes
    | some inf =>
      have hbb : inf.bytes = bs := by simpa [hq] using hbytes
      have c1 : ¬ (j < 0) := by omega
      have c2 : ¬ ((bs : Int) * j > 2 ^ 48) := by omega
      have c3 : ¬ (i < 0) := by omega
      have c4 : ¬ (i > j) := by omega
      have c5 : ¬ (281474976710656 : Int) < (bs : Int) * j := by omega
      simp only [execOp, ev_ok h1 hx, ev_ok h1 hy, Instr.makeSlice, Sem.run_bind, run_underlying ht.eq, Result.andThen_ok, asInt, asIntOf, Sem.run_pure, typeInfo, run_program, hq, hi, hj, hbb, run_sizeOf]
      simp only [c1, c3, c4, decide_false, Bool.false_or, Bool.or_false]
      have c6 : decide ((bs : Int) * j > 2 ^ 48) = false := by simpa using c2
      simp only [c6, Bool.false_eq_true, if_false, Sem.run_pure, Result.andThen_ok, Sem.run_bind, run_askRoom, run_sizeOf]
      by_cases h0 : j.toNat * zs.length = 0
      · have he : zrep j.toNat zs = [] := List.length_eq_zero_iff.1 (by rw [zrep_len]; exact h0)
        have hr : Array.range 0 = #[] := rfl
        simp [h0, hr, newRow, C, CF, he]
      · simp only [h0, if_false, Sem.run_bind, hz1, Result.andThen_ok, Sem.run_pure]
        rw [zrep_eq j.toNat z.cells zs hz2]
        simp [newRow, C, CF]
  unfold Oper.wp
  rw [hrun]
  have hlt : d < a.tmps.size := by rw [h2]; exact Nat.le_of_ble_eq_true hd
  have ht' := trk_newC (cs := zrep j.toNat zs) (T := e) h4
  exact hK _ _ (wpList_up ht' (k _ _ _ (h1.put hlt) (by simp [Act.put, h2]) h3 ht'.ok))


theorem run_cutCells {H : Hp} {w : World} {b o m : Nat} {r : Bool} {cs new : List Value} {T : TypeId} {fr : Nat × Nat} (h : HpOk H w) (hm : (b, r, CF cs T fr) ∈ H) (hc : cut cs o m = some new) : (loadCells ⟨b, o, none⟩ m).run P w = .ok new.toArray w ∧ new.length = m := by
  obtain ⟨h1, h2, h3⟩ := cut_eq cs o _ new hc
  have hl : (loadCells ⟨b, o, none⟩ new.length).run P w = .ok new.toArray w := run_loadCells_list (P := P) w ⟨b, o, none⟩ new (fun j u hu => by
    rw [add_none, cell_C (h.here _ hm), nth_eq]
    subst h1
    rw [List.getElem?_take] at hu
    split at hu
    · simpa using hu
    · cases hu)
  rw [h3] at hl
  exact ⟨hl, h3⟩
theorem run_storeCells {H H' : Hp} {w : World} {b o : Nat} {cs cs' new : List Value} {T : TypeId} (h : HpOk H w) (hu : Upd b (C cs T) (C cs' T) H H') (hs : splice cs o new = some cs') (h1 : ∀ z ∈ new, z.oneCell' = true) :
    (Go.storeCells ⟨b, o, none⟩ new).run P w = .ok () (setBlk w b (C cs' T)) := by
  obtain ⟨e1, e2⟩ := splice_eq _ _ _ _ hs
  have hst := run_storeCells_at P b o T new 0 cs.toArray w (h.here _ hu.mem) (by simpa using e2) h1
  rw [hst, ← setRow_setBlk w b cs' (h.here _ hu.mem), e1]
  simp
/-- copy(x, y), nobody asking how many -/
theorem o_copy {d : Option Tmp} {t u e : TypeId} {x y : Operand} {ty : TypeId} {pos : String} {af : Array Edge} {b o dl dc b2 o2 sl sc sz : Nat} {r : Bool} {cs cs' cs2 new : List Value} {T T2 : TypeId} {fr : Nat × Nat} {H' : Hp} [ht : Und P t (.slice e)] [hs : Siz P e sz]
    (hx : ev E x = some (.slice (some ⟨b, o, none⟩) dl dc)) (hy : ev E y = some (.slice (some ⟨b2, o2, none⟩) sl sc)) (hu : Upd b (C cs T) (C cs' T) H H') (hm : (b2, r, CF cs2 T2 fr) ∈ H) (hc : cut cs2 o2 (Nat.min sl dl * sz) = some new)
    (hsp : splice cs o new = some cs') (h1c : (new.all (·.oneCell')) = true) (hd : (match d with | some d => Nat.blt d n | none => true) = true)
    (k : SO P n ops rest (match d with | some d => (d, .int .i64 (Nat.min sl dl : Nat)) :: E | none => E) H' Q) : SO P n ops (⟨d, .call ⟨.builtin .copy, #[x, y], #[t, u]⟩, ty, pos, af, none⟩ :: rest) E H Q := by
  intro a w h1 h2 h3 h4
  refine wpList_plain rfl fun K hK => ?_
  obtain ⟨hl, hlen⟩ := run_cutCells (P := P) h4 hm hc
  have hst := run_storeCells (P := P) h4 hu hsp (fun z hz => List.all_eq_true.1 h1c z hz)
  have hrun : (execOp a.eval ⟨d, .call ⟨.builtin .copy, #[x, y], #[t, u]⟩, ty, pos, af, none⟩).run P w = .ok (.value (.int .i64 (Nat.min sl dl : Nat))) (setBlk w b (C cs' T)) := by
    simp only [execOp, deferred_builtin, Sem.run_bind, Result.andThen_ok, invoke, builtin]
    simp [ev_ok h1 hx, ev_ok h1 hy, Builtin.copy_, run_underlying ht.eq, Builtin.lenOf, Builtin.firstCells, run_sizeOf, hl, hst, goInt]
  unfold Oper.wp
  rw [hrun]
  have htr := trk_setC h4 hu
  refine hK _ _ (wpList_up htr ?_)
  cases d with
  | none => exact k _ _ h1 h2 h3 htr.ok
  | some d =>
    have hlt : d < a.tmps.size := by rw [h2]; exact Nat.le_of_ble_eq_true hd
    exact k _ _ (h1.put hlt) (by simp [Act.put, h2]) h3 htr.ok
theorem o_copy_nil {d : Option Tmp} {t u e : TypeId} {x y : Operand} {ty : TypeId} {pos : String} {af : Array Edge} {p : Option Addr} {dl dc sc sz : Nat} [ht : Und P t (.slice e)] [hs : Siz P e sz]
    (hx : ev E x = some (.slice p dl dc)) (hy : ev E y = some (.slice none 0 sc)) (hd : (match d with | some d => Nat.blt d n | none => true) = true)
    (k : SO P n ops rest (match d with | some d => (d, .int .i64 (0 : Nat)) :: E | none => E) H Q) : SO P n ops (⟨d, .call ⟨.builtin .copy, #[x, y], #[t, u]⟩, ty, pos, af, none⟩ :: rest) E H Q := by
  intro a w h1 h2 h3 h4
  refine wpList_plain rfl fun K hK => ?_
  have hrun : (execOp a.eval ⟨d, .call ⟨.builtin .copy, #[x, y], #[t, u]⟩, ty, pos, af, none⟩).run P w = .ok (.value (.int .i64 (0 : Nat))) w := by
    have hz : Nat.min 0 dl = 0 := Nat.zero_min dl
    simp only [execOp, deferred_builtin, Sem.run_bind, Result.andThen_ok, invoke, builtin]
    cases p <;> simp [ev_ok h1 hx, ev_ok h1 hy, Builtin.copy_, run_underlying ht.eq, Builtin.lenOf, Builtin.firstCells, run_sizeOf, goInt, hz, storeCells]
  unfold Oper.wp
  rw [hrun]
  refine hK _ _ ?_
  cases d with
  | none => exact k _ _ h1 h2 h3 h4
  | some d =>
    have hlt : d < a.tmps.size := by rw [h2]; exact Nat.le_of_ble_eq_true hd
    exact k _ _ (h1.put hlt) (by simp [Act.put, h2]) h3 h4
end
end Go.K
