/-
  The thin layer, fifteenth part: bytes; copies, parts of slices, buffers, strings of bytes.
-/
import Derived.Test.YtdfidkhbldedlaaGreatK14
import Derived.Laws.BytesString
import Derived.Laws.Externs
import Derived.Lib.MakeNoZero
namespace Go.K
set_option linter.unusedVariables false
set_option linter.unusedSimpArgs false

abbrev By := BitVec 8
def bv (x : By) : Value := .int .u8 x.toNat
instance : Cel By := ⟨1, fun x => [bv x], fun _ => rfl, fun _ => rfl⟩
theorem cells_by (xs : List By) : cells xs = xs.map bv := by
  induction xs with
  | nil => rfl
  | cons x xs ih => simp only [cells, List.flatMap_cons, List.map_cons] at *; rw [ih]; rfl
/-- A whole number of 64 bits. -/
abbrev Wd := BitVec 64
def wv (x : Wd) : Value := .int .u64 x.toNat
instance : Cel Wd := ⟨1, fun x => [wv x], fun _ => rfl, fun _ => rfl⟩
instance {α : Type} [Cel α] : Cel (Sl α) := ⟨1, fun s => [s.val], fun _ => rfl, fun _ => rfl⟩

/-- All that stands in one stands in the other. -/
def Sub (L H : Hp) : Prop := ∀ x ∈ L, x ∈ H
theorem PickL.toSub {L H F : Hp} (h : PickL L H F) : Sub L H := fun _ hx => h.sub hx
theorem Sub.trans {L M H : Hp} (h : Sub L M) (k : Sub M H) : Sub L H := fun x hx => k x (h x hx)

theorem take_get {α : Type} {xs : List α} {k i : Nat} {x : α} (h : (xs.take k)[i]? = some x) : xs[i]? = some x := by
  rw [List.getElem?_take] at h
  split at h
  · exact h
  · cases h
namespace Sl
variable {α : Type} [Cel α]
theorem nil_of (s : Sl α) (h : s.ptr.isNone = true) : s = .nil := by
  cases s <;> first | rfl | (simp [ptr] at h)
theorem shows (s : Sl α) (T : TypeId) (h : 0 < s.list.length) : ∃ r cs U fr, s.hp T = [(s.bk, r, CF cs U fr)] ∧ s.ptr = some ⟨s.bk, s.off, none⟩ ∧ Shows cs s.off s.list := s.block T h
theorem own_shows {xs : List α} {sp : List Value} : Shows (cells xs ++ sp) 0 xs := fun i x hx => by
  refine cut_left ?_ _
  have := cut_row (f := Cel.cs) (n := Cel.sz α) (l := xs) (k := i) (o := 0) (m := Cel.sz α) (fun x _ => Cel.len x) hx (by have := cut_whole (Cel.cs x); rwa [Cel.len] at this)
  simpa using this
/-- x[:k] -/
def take (s : Sl α) (k : Nat) (T : TypeId) : Sl α :=
  match s with
  | nil => nil
  | emp a => emp a
  | vac a c => vac a c
  | own b xs c sp h => view b 0 true (cells xs ++ sp) T (0, 0) (xs.take k) c ⟨fun i x hx => own_shows i x (take_get hx), by have := h.2.1; rw [List.length_take]; omega, by have := h.2.2; rw [List.length_take]; omega⟩
  | view b o r cs U fr xs c h => view b o r cs U fr (xs.take k) c ⟨fun i x hx => h.1 i x (take_get hx), by have := h.2.1; rw [List.length_take]; omega, by have := h.2.2; rw [List.length_take]; omega⟩
theorem take_list (s : Sl α) (k : Nat) (T : TypeId) : (s.take k T).list = s.list.take k := by cases s <;> simp [take, list]
theorem take_hp (s : Sl α) (k : Nat) (T : TypeId) : (s.take k T).hp T = s.hp T := by
  cases s
  · rfl
  · rfl
  · rfl
  · simp only [take, hp_view, hp_own]
  · simp only [take, hp_view]
theorem take_ptr (s : Sl α) (k : Nat) (T : TypeId) : (s.take k T).ptr = s.ptr := by cases s <;> rfl
theorem take_cap (s : Sl α) (k : Nat) (T : TypeId) : (s.take k T).cap = s.cap := by cases s <;> rfl
theorem shows_drop {cs : List Value} {o : Nat} {xs : List α} (h : Shows cs o xs) (k : Nat) : Shows cs (o + k * Cel.sz α) (xs.drop k) := fun i x hx => by
  rw [List.getElem?_drop] at hx
  have := h (k + i) x hx
  rwa [Nat.add_mul, ← Nat.add_assoc] at this
/-- x[k:] -/
def drop (s : Sl α) (k : Nat) (T : TypeId) : Sl α :=
  match s with
  | nil => nil
  | emp a => emp a
  | vac a c => vac (if c = k then a else a.add (k * Cel.sz α)) (c - k)
  | own b xs c sp h => view b (if c = k then 0 else k * Cel.sz α) true (cells xs ++ sp) T (0, 0) (xs.drop k) (c - k) ⟨by
      split
      · rename_i hc; intro i x hx; rw [List.drop_of_length_le (by have := h.2.1; omega)] at hx; cases hx
      · have := shows_drop (own_shows (xs := xs) (sp := sp)) k; rwa [Nat.zero_add] at this, by have := h.2.1; rw [List.length_drop]; omega, by have := h.2.2; rw [List.length_drop]; omega⟩
  | view b o r cs U fr xs c h => view b (if c = k then o else o + k * Cel.sz α) r cs U fr (xs.drop k) (c - k) ⟨by
      split
      · rename_i hc; intro i x hx; rw [List.drop_of_length_le (by have := h.2.1; omega)] at hx; cases hx
      · exact shows_drop h.1 k, by have := h.2.1; rw [List.length_drop]; omega, by have := h.2.2; rw [List.length_drop]; omega⟩
theorem drop_list (s : Sl α) (k : Nat) (T : TypeId) : (s.drop k T).list = s.list.drop k := by
  cases s <;> simp only [drop, list, List.drop_nil]
theorem drop_hp (s : Sl α) (k : Nat) (T : TypeId) : (s.drop k T).hp T = s.hp T := by
  cases s
  · rfl
  · rfl
  · simp only [drop, hp_vac]
  · simp only [drop, hp_view, hp_own]
  · simp only [drop, hp_view]
theorem drop_cap (s : Sl α) (k : Nat) (T : TypeId) (h : k ≤ s.cap) : (s.drop k T).cap = s.cap - k := by
  cases s <;> simp [drop, cap] at *
theorem drop_ptr (s : Sl α) (k : Nat) (T : TypeId) (h : k ≤ s.cap) : (s.drop k T).ptr = if s.cap = k then s.ptr else s.ptr.map (·.add (k * Cel.sz α)) := by
  cases s with
  | nil => simp [drop, ptr]
  | emp a => simp [cap] at h; simp [drop, ptr, cap, h]
  | vac a c => simp only [drop, cap, ptr]; split <;> simp_all
  | own b xs c sp hh => simp only [drop, ptr, cap]; split <;> simp_all [add_none]
  | view b o r cs U fr xs c hh => simp only [drop, ptr, cap]; split <;> simp_all [add_none]
end Sl

section
variable {P : Program} {n : Nat} {E : Env} {H : Hp} {Q : Post} {ops : Array Oper} {rest : List Oper} {α : Type} [Cel α]

theorem rd_ldSub {t T : TypeId} {x : Operand} {s : Sl α} {i o : Nat} {z : α} {v : Value} {p : Nat} [ht : Agg P t false] (hx : ev E x = some (.pointer (some ⟨s.bk, p, none⟩))) (hm : Sub (s.hp T) H) (hi : s.list[i]? = some z) (hv : nth (Cel.cs z) o = some v)
    (hp : p = s.off + i * Cel.sz α + o) : Rd P E H (.load t x) v := by
  have hlt := (List.getElem?_eq_some_iff.1 hi).1
  obtain ⟨r, cs, U, fr, h1, h2, h3⟩ := s.block T (by omega)
  have h4 := h3 i z hi
  subst hp
  refine rd_ld hx (hm _ (by rw [h1]; exact .head _)) ?_
  obtain ⟨e1, e2, e3⟩ := cut_eq _ _ _ _ h4
  rw [nth_eq] at hv ⊢
  rw [e1] at hv
  rw [List.getElem?_take, List.getElem?_drop] at hv
  split at hv
  · exact hv
  · cases hv
theorem src_sub {T : TypeId} {s : Sl α} (hm : Sub (s.hp T) H) : Src H (Cel.sz α) s.val s.list.length (cells s.list) := by
  by_cases h0 : s.list.length = 0
  · have : s.list = [] := List.length_eq_zero_iff.1 h0
    unfold Sl.val
    rw [this]
    exact src_nil
  · obtain ⟨r, cs, U, fr, h1, h2, h3⟩ := s.block T (by omega)
    rw [Sl.val, h2]
    exact src_blk (r := r) (cs := cs) (T := U) (fr := fr) (hm _ (by rw [h1]; exact .head _)) (shows_cut h3 (by omega))

/-- x[:hi], x[lo:], of a slice that is a piece -/
theorem rd_takeSl {t e : TypeId} {x hi : Operand} {s : Sl α} {k : IntKind} {j : Int} [ht : Und P t (.slice e)] {sz : Nat} [hz : Siz P e sz] (T : TypeId) (hx : ev E x = some s.val) (hhi : ev E hi = some (.int k j)) (hb : 0 ≤ j ∧ j ≤ s.list.length) :
    Rd P E H (.slice t x none (some hi) none) (s.take j.toNat T).val := by
  have h1 := s.len_cap
  have := rd_sliceHi (P := P) (H := H) (t := t) (e := e) (sz := sz) hx hhi (by omega)
  unfold Sl.val
  rw [Sl.take_ptr, Sl.take_cap, Sl.take_list, List.length_take, Nat.min_eq_left (by omega)]
  exact this
theorem rd_dropSl {t e : TypeId} {x lo : Operand} {s : Sl α} {k : IntKind} {i : Int} [ht : Und P t (.slice e)] {sz : Nat} [hz : Siz P e sz] (T : TypeId) (hx : ev E x = some s.val) (hlo : ev E lo = some (.int k i)) (hb : 0 ≤ i ∧ i ≤ s.list.length) (hsz : sz = Cel.sz α) :
    Rd P E H (.slice t x (some lo) none none) (s.drop i.toNat T).val := by
  subst hsz
  have h1 := s.len_cap
  have := rd_sliceLo (P := P) (H := H) (t := t) (e := e) (sz := Cel.sz α) hx hlo hb
  unfold Sl.val
  rw [Sl.drop_ptr _ _ _ (by omega), Sl.drop_cap _ _ _ (by omega), Sl.drop_list, List.length_drop]
  exact this
/-- x[:hi:max] -/
theorem rd_slice3 {t e : TypeId} {x hi mx : Operand} {p : Option Addr} {l c sz : Nat} {k k' : IntKind} {j m : Int} [ht : Und P t (.slice e)] [hz : Siz P e sz] (hx : ev E x = some (.slice p l c)) (hhi : ev E hi = some (.int k j)) (hmx : ev E mx = some (.int k' m)) (hb : 0 ≤ j ∧ j ≤ m ∧ m ≤ c) :
    Rd P E H (.slice t x none (some hi) (some mx)) (.slice p j.toNat m.toNat) :=
  fun a w d ty pos af g h1 h2 => by
    have e1 : 0 ≤ m ∧ m ≤ (c : Int) := by omega
    have e2 : 0 ≤ j ∧ j ≤ (m.toNat : Int) := by omega
    cases p <;> simp [execOp, ev_ok h1 hx, ev_ok h1 hhi, ev_ok h1 hmx, Instr.sliceAt, Instr.slice, run_underlying ht.eq, Instr.sliceBounds, run_bound e1, run_bound e2, run_sizeOf, add_none, Addr.add]
theorem rd_slice3L {t e : TypeId} {x lo hi mx : Operand} {p : Option Addr} {l c sz : Nat} {k k' k2 : IntKind} {i j m : Int} [ht : Und P t (.slice e)] [hz : Siz P e sz] (hx : ev E x = some (.slice p l c)) (hlo : ev E lo = some (.int k2 i)) (hhi : ev E hi = some (.int k j)) (hmx : ev E mx = some (.int k' m)) (hb : 0 ≤ i ∧ i ≤ j ∧ j ≤ m ∧ m ≤ c) :
    Rd P E H (.slice t x (some lo) (some hi) (some mx)) (.slice (if m.toNat = i.toNat then p else p.map (·.add (i.toNat * sz))) (j.toNat - i.toNat) (m.toNat - i.toNat)) :=
  fun a w d ty pos af g h1 h2 => by
    have e1 : 0 ≤ m ∧ m ≤ (c : Int) := by omega
    have e2 : 0 ≤ j ∧ j ≤ (m.toNat : Int) := by omega
    have e3 : 0 ≤ i ∧ i ≤ (j.toNat : Int) := by omega
    simp [execOp, ev_ok h1 hx, ev_ok h1 hlo, ev_ok h1 hhi, ev_ok h1 hmx, Instr.sliceAt, Instr.slice, run_underlying ht.eq, Instr.sliceBounds, run_bound e1, run_bound e2, run_bound e3, run_sizeOf]
/-- an array's pointer out of a slice -/
theorem rd_s2a {t e : TypeId} {x : Operand} {ad : Addr} {l c n : Nat} [ht : Und P t (.array n e)] (hx : ev E x = some (.slice (some ad) l c)) (hn : n ≤ l) : Rd P E H (.sliceToArrayPointer t x) (.pointer (some ad)) :=
  fun a w d ty pos af g h1 h2 => by
    have : ¬ l < n := by omega
    simp [execOp, ev_ok h1 hx, Instr.arrayAt, run_underlying ht.eq, this]

/-- copy, all of the source having room -/
theorem o_copySrc {d : Option Tmp} {t u e : TypeId} {x y : Operand} {ty : TypeId} {pos : String} {af : Array Edge} {b o dl dc m sz : Nat} {v : Value} {cs cs' new : List Value} {T : TypeId} {H' : Hp} [ht : Und P t (.slice e)] [hs : Siz P e sz]
    (hx : ev E x = some (.slice (some ⟨b, o, none⟩) dl dc)) (hy : ev E y = some v) (hsrc : Src H sz v m new) (hml : m ≤ dl) (hu : Upd b (C cs T) (C cs' T) H H')
    (hsp : splice cs o new = some cs') (h1c : (new.all (·.oneCell')) = true) (hd : (match d with | some d => Nat.blt d n | none => true) = true)
    (k : SO P n ops rest (match d with | some d => (d, .int .i64 (m : Nat)) :: E | none => E) H' Q) : SO P n ops (⟨d, .call ⟨.builtin .copy, #[x, y], #[t, u]⟩, ty, pos, af, none⟩ :: rest) E H Q := by
  intro a w h1 h2 h3 h4
  refine wpList_plain rfl fun K hK => ?_
  obtain ⟨hf1, hf2, hf3⟩ := run_firstCells (P := P) h4 hsrc
  have hst := run_storeCells (P := P) h4 hu hsp (fun z hz => List.all_eq_true.1 h1c z hz)
  have hmin : Nat.min m dl = m := Nat.min_eq_left hml
  have hrun : (execOp a.eval ⟨d, .call ⟨.builtin .copy, #[x, y], #[t, u]⟩, ty, pos, af, none⟩).run P w = .ok (.value (.int .i64 (m : Nat))) (setBlk w b (C cs' T)) := by
    simp only [execOp, deferred_builtin, Sem.run_bind, Result.andThen_ok, invoke, builtin]
    simp [ev_ok h1 hx, ev_ok h1 hy, Builtin.copy_, run_underlying ht.eq, hf1, hf2, hmin, run_sizeOf, hst, goInt]
  unfold Oper.wp
  rw [hrun]
  have htr := trk_setC h4 hu
  refine hK _ _ (wpList_up htr ?_)
  cases d with
  | none => exact k _ _ h1 h2 h3 htr.ok
  | some d =>
    have hlt : d < a.tmps.size := by rw [h2]; exact Nat.le_of_ble_eq_true hd
    exact k _ _ (h1.put hlt) (by simp [Act.put, h2]) h3 htr.ok

/-- A buffer of bytes, of whatever they are. -/
class Mnz (P : Program) (f : FuncId) (t : outParam TypeId) : Prop where
  eq : ∃ fn ps, P.funcs[f]? = some fn ∧ (fn.name == "runtime.NumGoroutine") = false ∧ fn.body.isNone = true ∧ Extern.findNext fn = none ∧ Extern.find fn = some (Extern.BytealgMakeNoZero.makeNoZero ps #[t])
theorem o_mnz {d : Nat} {f : FuncId} {t e : TypeId} {x : Operand} {ts : Array TypeId} {ty : TypeId} {pos : String} {af : Array Edge} {m : Nat} [hf : Mnz P f t] [ht : Und P t (.slice e)]
    (hx : ev E x = some (.int .i64 (m : Nat))) (hm : m ≤ 281474976710656) (hd : Nat.blt d n = true)
    (k : ∀ b (cs : List Value), m ≤ cs.length → SO P n ops rest ((d, .slice (some ⟨b, 0, none⟩) m cs.length) :: E) ((b, true, C cs e) :: H) Q) :
    SO P n ops (⟨some d, .call ⟨.value (.func f), #[x], ts⟩, ty, pos, af, none⟩ :: rest) E H Q := by
  intro a w h1 h2 h3 h4
  refine wpList_plain rfl fun K hK => ?_
  obtain ⟨fn, ps, f1, f2, f3, f4, f5⟩ := hf.eq
  obtain ⟨cs, hr, hle, _⟩ := Lib.run_makeNoZero (P := P) w ps t e ht.eq m hm
  have hrun : (execOp a.eval ⟨some d, .call ⟨.value (.func f), #[x], ts⟩, ty, pos, af, none⟩).run P w = .ok (.value (.slice (some ⟨w.heap.size, 0, none⟩) m cs.size)) (w.drew.drew.alloc (.cells cs e)) := by
    simp only [execOp, resolve, Act.eval, Sem.run_bind, Deferred.ofValue, Sem.run_pure, Result.andThen_ok, invoke]
    have hxx := ev_ok h1 hx
    have e1 : (#[x].map a.eval ++ #[]) = #[.int .i64 (m : Nat)] := by simp [hxx]
    simp only [List.map_toArray, List.map_cons, List.map_nil, hxx] at e1 ⊢
    have := run_callFunc_extern (P := P) f1 f2 f3 f4 f5 #[.int .i64 (m : Nat)] w
    rw [hr] at this
    simpa using this
  unfold Oper.wp
  rw [hrun]
  have hlt : d < a.tmps.size := by rw [h2]; exact Nat.le_of_ble_eq_true hd
  have t0 := (trk_drawn h4 (w.drawn + 1)).trans (trk_drawn (trk_drawn h4 (w.drawn + 1)).ok (w.drawn + 1 + 1))
  have t1 : Trk w (w.drew.drew.alloc (.cells cs e)) H ((w.heap.size, true, C cs.toList e) :: H) := by
    have := t0.trans (trk_newC (cs := cs.toList) (T := e) t0.ok)
    exact this
  have := k w.heap.size cs.toList (by simpa using hle)
  refine hK _ _ (wpList_up t1 ?_)
  have h := this (a.put (some d) (.slice (some ⟨w.heap.size, 0, none⟩) m cs.size)) (w.drew.drew.alloc (.cells cs e)) ?_ (by simp [Act.put, h2]) h3 t1.ok
  · exact h
  · simpa using h1.put (v := .slice (some ⟨w.heap.size, 0, none⟩) m cs.size) hlt

/-- A string of bytes. -/
def bstr (xs : List By) : ByteArray := xs.foldl (fun r x => r.push (UInt8.ofNat x.toNat)) ByteArray.empty
theorem bstr_data (xs : List By) : (bstr xs).data.toList = xs.map fun x => UInt8.ofNat x.toNat := by
  have : ∀ (xs : List By) (r : ByteArray), (xs.foldl (fun r x => r.push (UInt8.ofNat x.toNat)) r).data.toList = r.data.toList ++ xs.map fun x => UInt8.ofNat x.toNat := by
    intro xs
    induction xs with
    | nil => intro r; simp
    | cons x xs ih => intro r; simp only [List.foldl_cons, ih, List.map_cons]; simp [ByteArray.push]
  have h := this xs ByteArray.empty
  rw [show (ByteArray.empty).data.toList = [] from rfl, List.nil_append] at h
  exact h
theorem bstr_inj {xs ys : List By} (h : bstr xs = bstr ys) : xs = ys := by
  have h1 := bstr_data xs
  rw [h, bstr_data ys] at h1
  have hi : ∀ x y : By, UInt8.ofNat x.toNat = UInt8.ofNat y.toNat → x = y := fun x y h => by
    have := congrArg UInt8.toNat h
    simp only [UInt8.toNat_ofNat'] at this
    have hx := x.isLt
    have hy := y.isLt
    apply BitVec.eq_of_toNat_eq
    omega
  have : ∀ (xs ys : List By), ys.map (fun x => UInt8.ofNat x.toNat) = xs.map (fun x => UInt8.ofNat x.toNat) → xs = ys := by
    intro xs
    induction xs with
    | nil => intro ys h; cases ys <;> simp at h; rfl
    | cons x xs ih =>
      intro ys h
      cases ys with
      | nil => simp at h
      | cons y ys =>
        simp only [List.map_cons, List.cons.injEq] at h
        rw [hi _ _ h.1, ih ys h.2]
  exact this xs ys h1
theorem rd_bytesStr {s t e T : TypeId} {x : Operand} {v : Sl By} [hs : Und P s (.slice e)] [he : Und P e (.int .u8)] [ht : Und P t .string] (hx : ev E x = some v.val) (hm : Sub (v.hp T) H) : Rd P E H (.convert s t x) (.string (bstr v.list)) :=
  fun a w d ty pos af g h1 h2 => by
    have hsrc := src_sub hm
    simp only [execOp, ev_ok h1 hx, Sem.run_bind]
    have hc : (convert s t v.val).run P w = .ok (.string (bstr v.list)) w := by
      rw [Sl.val, run_convert_bytes_string w s t e _ _ _ hs.eq he.eq ht.eq]
      cases hp : v.ptr with
      | none =>
        have := Sl.nil_of v (by rw [hp]; rfl)
        subst this
        simp [Conv.bytesToString, Sl.list, bstr]
      | some ad =>
        have hf := (run_firstCells (P := P) h2 hsrc).1
        rw [Sl.val, hp] at hf
        have hl : (loadCells ad v.list.length).run P w = .ok ((v.list.map fun x => (x.toNat : Int)).map (Value.int .u8)).toArray w := by
          have e1 : v.list.length * 1 = v.list.length := Nat.mul_one _
          have e2 : (v.list.map fun x => (x.toNat : Int)).map (Value.int .u8) = cells v.list := by rw [cells_by, List.map_map]; rfl
          rw [e2]
          simpa [Builtin.firstCells, Cel.sz] using hf
        rw [run_bytesToString w ad _ _ _ hl]
        simp [List.foldl_map, bstr]
    rw [hc]; rfl
theorem bstr_eq (xs ys : List By) : ((bstr xs).toList == (bstr ys).toList) = decide (xs = ys) := by
  by_cases h : xs = ys
  · subst h; simp
  · have h2 : ¬ (bstr xs).toList = (bstr ys).toList := fun e => h (bstr_inj (by
      rw [ByteArray.toList_eq, ByteArray.toList_eq] at e
      exact ByteArray.ext (Array.ext' e)))
    simp [h, h2]
theorem rd_eqStr {t u : TypeId} {x y : Operand} {xs ys : List By} (hx : ev E x = some (.string (bstr xs))) (hy : ev E y = some (.string (bstr ys))) : Rd P E H (.binOp .eql t x y u) (.bool (decide (xs = ys))) :=
  fun a w d ty pos af g h1 h2 => by
    rw [← bstr_eq]
    simp only [execOp, ev_ok h1 hx, ev_ok h1 hy, eqGuard, binOp_string_eql]
    simp
end
end Go.K
