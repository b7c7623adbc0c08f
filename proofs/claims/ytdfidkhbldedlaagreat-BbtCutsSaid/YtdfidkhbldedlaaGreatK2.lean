/-
  The thin layer, second part: one law for each operation of a region.
-/
import Derived.Test.YtdfidkhbldedlaaGreatK1
import Derived.Laws.Rows
import Derived.Laws.CopyRow
import Derived.Laws.Build
namespace Go.K
set_option linter.unusedVariables false
set_option linter.unusedSimpArgs false

/-! ### Facts on types, found by their numbers -/
class Und (P : Program) (t : TypeId) (d : outParam TypeDesc) : Prop where eq : P.underlying t = some d
class Siz (P : Program) (t : TypeId) (n : outParam Nat) : Prop where eq : (P.info? t).map (·.size) = some n
/-- The cells of a zero value. -/
class Zer (P : Program) (t : TypeId) (cs : outParam (List Value)) : Prop where eq : (P.info? t).map (fun i => i.zero.map (·.cells.toList)) = some (some cs)
def agg : TypeDesc → Bool
  | .struct _ | .array _ _ => true
  | _ => false

theorem run_sizeOf {P : Program} {t : TypeId} {n : Nat} [h : Siz P t n] (w : World) : (sizeOf t).run P w = .ok n w := by
  have := h.eq
  cases hq : P.info? t with
  | none => simp [hq] at this
  | some i => simp [hq] at this; simp [sizeOf, typeInfo, hq, this]
/-- Is a type's value of many cells (a struct, an array)? -/
class Agg (P : Program) (t : TypeId) (b : outParam Bool) : Prop where eq : ∃ d, P.underlying t = some d ∧ agg d = b
theorem run_isAgg {P : Program} {t : TypeId} {b : Bool} [h : Agg P t b] (w : World) : (isAgg t).run P w = .ok b w := by
  obtain ⟨d, h1, rfl⟩ := h.eq
  unfold isAgg
  rw [Sem.run_bind, run_underlying h1 w]
  cases d <;> rfl
theorem run_zeroCells {P : Program} {t : TypeId} {cs : List Value} [h : Zer P t cs] (w : World) : ∃ v, (zeroValue t).run P w = .ok v w ∧ v.cells = cs.toArray := by
  have := h.eq
  cases hq : P.info? t with
  | none => simp [hq] at this
  | some i =>
    cases hz : i.zero with
    | none => simp [hq, hz] at this
    | some v =>
      simp [hq, hz] at this
      refine ⟨v, by simp [zeroValue, typeInfo, hq, hz], ?_⟩
      rw [← this]

/-! ### Cells of a block -/
def nth : List Value → Nat → Option Value
  | [], _ => none
  | c :: _, 0 => some c
  | _ :: cs, n + 1 => nth cs n
theorem nth_eq (cs : List Value) (i : Nat) : nth cs i = cs[i]? := by
  induction cs generalizing i with
  | nil => rfl
  | cons c cs ih => cases i <;> simp [nth, ih]
/-- n cells from a place on. -/
def cut : List Value → Nat → Nat → Option (List Value)
  | _, 0, 0 => some []
  | c :: cs, 0, n + 1 => match cut cs 0 n with | some r => some (c :: r) | none => none
  | _ :: cs, o + 1, n => cut cs o n
  | [], _, _ => none
theorem cut_eq : ∀ (cs : List Value) (o n : Nat) (r : List Value), cut cs o n = some r → r = (cs.drop o).take n ∧ o + n ≤ cs.length ∧ r.length = n
  | cs, 0, 0, r, h => by cases cs <;> simp [cut] at h <;> subst h <;> simp
  | c :: cs, 0, n + 1, r, h => by
    simp only [cut] at h
    split at h
    · rename_i r' hr
      obtain ⟨h1, h2, h3⟩ := cut_eq cs 0 n r' hr
      cases h
      simp at h1 h2 ⊢
      first | exact ⟨h1, by omega, h3⟩ | exact ⟨h1, h2, h3⟩
    · cases h
  | c :: cs, o + 1, n, r, h => by
    simp only [cut] at h
    obtain ⟨h1, h2, h3⟩ := cut_eq cs o n r h
    simp at h2 ⊢
    exact ⟨h1, by omega, h3⟩
  | [], _ + 1, 0, r, h => by simp [cut] at h
  | [], 0, _ + 1, r, h => by simp [cut] at h
  | [], _ + 1, _ + 1, r, h => by simp [cut] at h
/-- The cells with 'vs' laid over them from a place on. -/
def over : List Value → List Value → Option (List Value)
  | cs, [] => some cs
  | _ :: cs, v :: vs => match over cs vs with | some r => some (v :: r) | none => none
  | [], _ :: _ => none
def splice : List Value → Nat → List Value → Option (List Value)
  | cs, 0, vs => over cs vs
  | c :: cs, o + 1, vs => match splice cs o vs with | some r => some (c :: r) | none => none
  | [], _ + 1, _ => none
theorem over_eq : ∀ (cs vs r : List Value), over cs vs = some r → r = vs ++ cs.drop vs.length ∧ vs.length ≤ cs.length
  | cs, [], r, h => by cases cs <;> simp [over] at h <;> subst h <;> simp
  | c :: cs, v :: vs, r, h => by
    simp only [over] at h
    split at h
    · rename_i r' hr
      obtain ⟨h1, h2⟩ := over_eq cs vs r' hr
      cases h
      simp; exact ⟨h1, by omega⟩
    · cases h
  | [], _ :: _, r, h => by simp [over] at h
theorem splice_eq : ∀ (cs : List Value) (o : Nat) (vs r : List Value), splice cs o vs = some r → r = cs.take o ++ vs ++ cs.drop (o + vs.length) ∧ o + vs.length ≤ cs.length
  | cs, 0, vs, r, h => by
    have : over cs vs = some r := by cases cs <;> simpa [splice] using h
    obtain ⟨h1, h2⟩ := over_eq cs vs r this
    simp; exact ⟨h1, h2⟩
  | c :: cs, o + 1, vs, r, h => by
    simp only [splice] at h
    split at h
    · rename_i r' hr
      obtain ⟨h1, h2⟩ := splice_eq cs o vs r' hr
      cases h
      simp [h1, Nat.add_right_comm]; omega
    · cases h
  | [], _ + 1, _, r, h => by simp [splice] at h

theorem cut_of {cs r : List Value} {o n : Nat} (h : r = (cs.drop o).take n) (hl : o + n ≤ cs.length) : cut cs o n = some r := by
  subst h
  induction cs generalizing o n with
  | nil => simp at hl; obtain ⟨rfl, rfl⟩ := hl; rfl
  | cons c cs ih =>
    cases o with
    | zero =>
      cases n with
      | zero => rfl
      | succ n => simp at hl; have := ih (o := 0) (n := n) (by omega); simp only [cut, this]; simp
    | succ o => simp at hl; have := ih (o := o) (n := n) (by omega); simpa [cut] using this
theorem over_of {cs vs : List Value} (h : vs.length ≤ cs.length) : over cs vs = some (vs ++ cs.drop vs.length) := by
  induction vs generalizing cs with
  | nil => cases cs <;> rfl
  | cons v vs ih => cases cs with
    | nil => simp at h
    | cons c cs => simp at h; simp only [over, ih h]; simp
theorem splice_of {cs vs r : List Value} {o : Nat} (h : r = cs.take o ++ vs ++ cs.drop (o + vs.length)) (hl : o + vs.length ≤ cs.length) : splice cs o vs = some r := by
  subst h
  induction cs generalizing o with
  | nil => simp at hl; obtain ⟨rfl, rfl⟩ := hl; rfl
  | cons c cs ih =>
    cases o with
    | zero => have := over_of (cs := c :: cs) (vs := vs) (by simpa using hl); simp only [splice, this]; simp
    | succ o => simp at hl; have := ih (o := o) (by omega); simp only [splice, this]; simp [Nat.add_right_comm]

/-- The cells of a value, each of one cell. -/
def vcells : Value → Option (List Value)
  | .agg cs => if cs.toList.all (·.oneCell') then some cs.toList else none
  | .tuple _ => none
  | v => some [v]
theorem vcells_eq {v : Value} {vs : List Value} (h : vcells v = some vs) : v.cells = vs.toArray ∧ ∀ x ∈ vs, x.oneCell' = true := by
  cases v <;> simp only [vcells] at h
  case agg cs =>
    split at h
    · rename_i ha
      cases h
      refine ⟨by simp [Value.cells], fun x hx => ?_⟩
      exact (List.all_eq_true.1 ha) x hx
    · cases h
  case tuple => cases h
  all_goals (cases h; refine ⟨rfl, fun x hx => ?_⟩; simp at hx; subst hx; rfl)

/-! ### Worlds -/
def setBlk (w : World) (b : Nat) (o : Obj) : World := { w with heap := w.heap.setIfInBounds b o }

inductive Upd (b : Nat) (o o' : Obj) : Hp → Hp → Prop
  | here {H : Hp} : Upd b o o' ((b, true, o) :: H) ((b, true, o') :: H)
  | there {x : Blk} {H K : Hp} : Upd b o o' H K → Upd b o o' (x :: H) (x :: K)

theorem Upd.mem {b : Nat} {o o' : Obj} {H K : Hp} (h : Upd b o o' H K) : (b, true, o) ∈ H := by
  induction h with
  | here => exact .head _
  | there _ ih => exact .tail _ ih
theorem Upd.of_mem {b : Nat} {o o' : Obj} {H K : Hp} (h : Upd b o o' H K) : ∀ x ∈ K, x = (b, true, o') ∨ x ∈ H := by
  induction h with
  | here => intro x hx; cases hx with | head => exact .inl rfl | tail _ h => exact .inr (.tail _ h)
  | there _ ih => intro x hx; cases hx with | head => exact .inr (.head _) | tail _ h => exact (ih x h).imp id (.tail _)

theorem fz_cells {w : World} {b : Nat} {cs : List Value} {T : TypeId} (h : w.heap[b]? = some (C cs T)) (o : Nat) (s : Option Nat) : w.frozen? ⟨b, o, s⟩ = false := by
  simp [World.frozen?, h, C, CF]

theorem Upd.far {b : Nat} {o o' : Obj} {H K : Hp} (hu : Upd b o o' H K) (h : H.Pairwise Far) : K.Pairwise Far ∧ ∀ x ∈ K, x = (b, true, o') ∨ (x ∈ H ∧ x.1 ≠ b) := by
  induction hu with
  | @here H =>
    rw [List.pairwise_cons] at h
    refine ⟨List.pairwise_cons.2 ⟨fun y hy e => ?_, h.2⟩, fun x hx => ?_⟩
    · have := (h.1 y hy e).1; cases this
    · cases hx with
      | head => exact .inl rfl
      | tail _ hx => exact .inr ⟨.tail _ hx, fun e => by have := (h.1 x hx e.symm).1; cases this⟩
  | @there x H K hu ih =>
    rw [List.pairwise_cons] at h
    obtain ⟨i1, i2⟩ := ih h.2
    have hxb : x.1 ≠ b := fun e => by have := (h.1 _ hu.mem e).2; cases this
    refine ⟨List.pairwise_cons.2 ⟨fun y hy e => ?_, i1⟩, fun y hy => ?_⟩
    · rcases i2 y hy with rfl | ⟨hm, _⟩
      · exact absurd e hxb
      · exact h.1 y hm e
    · cases hy with
      | head => exact .inr ⟨.head _, hxb⟩
      | tail _ hy => exact (i2 y hy).imp id (fun ⟨a, b⟩ => ⟨.tail _ a, b⟩)
/-- A block is written. -/
theorem trk_set {w : World} {b : Nat} {o o' : Obj} {H K : Hp} (h : HpOk H w) (hu : Upd b o o' H K) (hf : ∀ i s, (setBlk w b o').frozen? ⟨b, i, s⟩ = w.frozen? ⟨b, i, s⟩) : Trk w (setBlk w b o') H K := by
  have hlt := h.lt hu.mem
  obtain ⟨u1, u2⟩ := hu.far h.far
  refine ⟨⟨u1, fun x hx => ?_⟩, rfl, rfl, rfl, fun a => ?_, by simp [setBlk], fun c hc hn => ?_, fun c hc => ?_, fun c hc => ?_⟩
  · rcases u2 x hx with rfl | ⟨hm, hb⟩
    · simp [setBlk, hlt]
    · simp [setBlk, Array.getElem?_setIfInBounds_ne (Ne.symm hb), h.here x hm]
  · obtain ⟨ab, ao, as⟩ := a
    by_cases hb : ab = b
    · subst hb; exact hf ao as
    · simp [World.frozen?, setBlk, Array.getElem?_setIfInBounds_ne (Ne.symm hb)]
  · have : c ≠ b := fun e => hn ⟨_, hu.mem, e.symm, rfl⟩
    simp [setBlk, Array.getElem?_setIfInBounds_ne (Ne.symm this)]
  · obtain ⟨x, hx, rfl⟩ := hc
    rcases hu.of_mem x hx with rfl | hm
    · exact .inl ⟨_, hu.mem, rfl⟩
    · exact .inl ⟨x, hm, rfl⟩
  · obtain ⟨x, hx, rfl, hr⟩ := hc
    rcases hu.of_mem x hx with rfl | hm
    · exact .inl ⟨_, hu.mem, rfl, rfl⟩
    · exact .inl ⟨x, hm, rfl, hr⟩

/-- A new block. -/
theorem trk_new {w : World} {H : Hp} (h : HpOk H w) {o : Obj} (hf : ∀ i s, ({ w with heap := w.heap.push o } : World).frozen? ⟨w.heap.size, i, s⟩ = false) : Trk w { w with heap := w.heap.push o } H ((w.heap.size, true, o) :: H) := by
  refine ⟨⟨?_, fun x hx => ?_⟩, rfl, rfl, rfl, fun a => ?_, by simp, fun c hc _ => ?_, ?_, ?_⟩
  · refine List.pairwise_cons.2 ⟨fun x hx e => ?_, h.far⟩
    have := h.lt hx
    simp only at e
    omega
  · cases hx with
    | head => simp
    | tail _ hx => have := h.lt hx; simp [Array.getElem?_push, h.here x hx]; omega
  · obtain ⟨ab, ao, as⟩ := a
    by_cases hb : ab = w.heap.size
    · subst hb
      rw [hf ao as]
      simp [World.frozen?]
    · simp [World.frozen?, Array.getElem?_push, hb]
  · simp [Array.getElem?_push]; omega
  · rintro c ⟨x, hx, rfl⟩
    cases hx with
    | head => exact .inr (Nat.le_refl _)
    | tail _ hx => exact .inl ⟨x, hx, rfl⟩
  · rintro c ⟨x, hx, rfl, hr⟩
    cases hx with
    | head => exact .inr (Nat.le_refl _)
    | tail _ hx => exact .inl ⟨x, hx, rfl, hr⟩
theorem trk_newC {w : World} {H : Hp} (h : HpOk H w) {cs : List Value} {T : TypeId} : Trk w { w with heap := w.heap.push (C cs T) } H ((w.heap.size, true, C cs T) :: H) :=
  trk_new h (fun i s => by simp [World.frozen?, C, CF])
theorem trk_setC {w : World} {b : Nat} {cs cs' : List Value} {T : TypeId} {H K : Hp} (h : HpOk H w) (hu : Upd b (C cs T) (C cs' T) H K) : Trk w (setBlk w b (C cs' T)) H K :=
  trk_set h hu (fun i s => by
    have hlt := h.lt hu.mem
    rw [fz_cells (h.here _ hu.mem)]
    simp [World.frozen?, setBlk, C, CF, hlt])
theorem trk_drawn {w : World} {H : Hp} (h : HpOk H w) (n : Nat) : Trk w { w with drawn := n } H H :=
  ⟨⟨h.far, h.here⟩, rfl, rfl, rfl, fun _ => rfl, Nat.le_refl _, fun _ _ _ => rfl, fun _ h => .inl h, fun _ h => .inl h⟩

/-! ### A region: its operations one behind the other -/
/-- Which slot an operation writes that others are guarded by. -/
def Yok (ops : Array Oper) (Y : List (Nat × Nat)) : Prop := ∀ j d, (j, d) ∈ Y → (ops[j]?).bind (·.dst) = some d
def yl : List (Nat × Nat) → Nat → Option Nat
  | [], _ => none
  | (j, d) :: Y, i => bif Nat.beq j i then some d else yl Y i
theorem yl_mem : ∀ {Y : List (Nat × Nat)} {i d : Nat}, yl Y i = some d → (i, d) ∈ Y
  | [], _, _, h => by cases h
  | (j, e) :: Y, i, d, h => by
    unfold yl at h
    cases hb : Nat.beq j i with
    | true => have : j = i := Nat.eq_of_beq_eq_true hb; subst this; simp [hb] at h; subst h; exact .head _
    | false => simp [hb] at h; exact .tail _ (yl_mem h)

def SO (P : Program) (n : Nat) (ops : Array Oper) (l : List Oper) (E : Env) (H : Hp) (Q : Post) : Prop :=
  ∀ a w, EnvOk E a → a.tmps.size = n → a.defers = [] → HpOk H w → wpList P ops (Up n w H Q) l a w

section
variable {P : Program} {n : Nat} {E : Env} {H : Hp} {Q : Post} {ops : Array Oper} {rest : List Oper}

def yokB (l : List Oper) (Y : List (Nat × Nat)) : Bool := Y.all fun p => (l[p.1]?).bind (·.dst) == some p.2
theorem s_region {id : Nat} {l : List Oper} (Y : List (Nat × Nat)) (hY : yokB l Y = true) (h : ∀ ops, Yok ops Y → SO P n ops l E H Q) : SC P n (.region id l.toArray false) E H Q := by
  intro a w h1 h2 h3 h4
  refine wp_region_lit (h _ ?_ a w h1 h2 h3 h4)
  intro j d hm
  have := List.all_eq_true.1 hY (j, d) hm
  simpa using this
theorem s_region0 {id : Nat} {l : List Oper} (h : ∀ ops, SO P n ops l E H Q) : SC P n (.region id l.toArray false) E H Q :=
  s_region [] rfl fun ops _ => h ops

theorem o_nil (h : Q .normal E H) : SO P n ops [] E H Q :=
  fun a w h1 h2 h3 h4 => ⟨E, H, h1, h2, h3, Trk.refl h4, h⟩

theorem wpList_mono {Q Q' : Exit → Act → World → Prop} (hq : ∀ e a w, Q e a w → Q' e a w) : ∀ (l : List Oper) (a : Act) (w : World), wpList P ops Q l a w → wpList P ops Q' l a w
  | [], a, w, h => hq _ _ _ h
  | o :: l, a, w, h => by
    have ih := wpList_mono hq l
    simp only [wpList] at h ⊢
    split
    · rename_i hw
      rw [if_pos hw] at h
      refine h.imp (fun h => ?_) (fun ⟨h1, a0, w0, h2⟩ => ⟨h1, a0, w0, hq _ _ _ h2⟩)
      unfold Oper.wp at h ⊢
      generalize (execOp a.eval o).run P w = r at h ⊢
      cases r with
      | ok x w2 =>
        cases x <;> simp only [Oper.upon] at h ⊢
        case value v => exact ih _ _ h
        case skip => exact ih _ _ h
        case defer d => exact ih _ _ h
        case enter f args =>
          refine Calls.mono h fun e w3 he => ?_
          cases e with
          | returned v => exact ih _ _ he
          | panicked c => exact hq _ _ _ he
          | outgrown => exact (let ⟨a0, w0, h0⟩ := he; ⟨a0, w0, hq _ _ _ h0⟩)
        case row row args => exact Rows.mono h fun v w3 he => ih _ _ he
      | halt x w2 => cases x <;> simp only [Oper.upon] at h ⊢ <;> first | exact hq _ _ _ h | exact h
    · rename_i hw
      rw [if_neg hw] at h
      exact ih _ _ h
theorem wpList_up {w w1 : World} {H1 : Hp} (ht : Trk w w1 H H1) {l : List Oper} {a : Act} {w' : World} (h : wpList P ops (Up n w1 H1 Q) l a w') : wpList P ops (Up n w H Q) l a w' :=
  wpList_mono (fun _ _ _ hu => hu.after ht) l a w' h

/-- An operation that reads at most. -/
def Rd (P : Program) (E : Env) (H : Hp) (op : Op) (v : Value) : Prop :=
  ∀ (a : Act) (w : World) (d : Option Tmp) (ty : TypeId) (pos : String) (af : Array Edge) (g : Option (Nat × Bool)), EnvOk E a → HpOk H w → (execOp a.eval ⟨d, op, ty, pos, af, g⟩).run P w = .ok (.value v) w

theorem o_rd {d : Nat} {op : Op} {ty : TypeId} {pos : String} {af : Array Edge} {v : Value} (hr : Rd P E H op v) (hd : Nat.blt d n = true)
    (k : SO P n ops rest ((d, v) :: E) H Q) : SO P n ops (⟨some d, op, ty, pos, af, none⟩ :: rest) E H Q := by
  intro a w h1 h2 h3 h4
  refine wpList_plain rfl fun K hK => ?_
  unfold Oper.wp
  rw [hr a w (some d) ty pos af none h1 h4]
  have hlt : d < a.tmps.size := by rw [h2]; exact Nat.le_of_ble_eq_true hd
  exact hK _ _ (k _ w (h1.put hlt) (by simp [Act.put, h2]) h3 h4)
/-- A reading operation whose value nobody wants. -/
theorem o_rdn {op : Op} {ty : TypeId} {pos : String} {af : Array Edge} {v : Value} (hr : Rd P E H op v)
    (k : SO P n ops rest E H Q) : SO P n ops (⟨none, op, ty, pos, af, none⟩ :: rest) E H Q := by
  intro a w h1 h2 h3 h4
  refine wpList_plain rfl fun K hK => ?_
  unfold Oper.wp
  rw [hr a w none ty pos af none h1 h4]
  exact hK _ _ (k _ w h1 h2 h3 h4)

/-- A guarded operation whose guard says yes. -/
theorem o_g {d : Option Tmp} {op : Op} {ty : TypeId} {pos : String} {af : Array Edge} {j dj : Nat} {b : Bool} {Y : List (Nat × Nat)} (y : Yok ops Y) (hj : yl Y j = some dj) (hb : fnd E dj = some (.bool b))
    (k : SO P n ops (⟨d, op, ty, pos, af, none⟩ :: rest) E H Q) : SO P n ops (⟨d, op, ty, pos, af, some (j, b)⟩ :: rest) E H Q := by
  intro a w h1 h2 h3 h4
  have hk := k a w h1 h2 h3 h4
  have hy := y j dj (yl_mem hj)
  have hv := h1 dj _ hb
  have hw : Region.wanted ⟨d, op, ty, pos, af, some (j, b)⟩ (yielded ops a.tmps) = true := by
    have hs : dj < a.tmps.size := by
      rcases Nat.lt_or_ge dj a.tmps.size with h | h
      · exact h
      · rw [Array.getD_eq_getD_getElem?, Array.getElem?_eq_none h] at hv; cases hv
    have : a.tmps[dj]? = some (.bool b) := by
      rw [Array.getD_eq_getD_getElem?] at hv
      rw [Array.getElem?_eq_getElem hs] at hv ⊢
      simpa using hv
    simp [Region.wanted, yielded, hy, this]
  unfold wpList at hk ⊢
  rw [if_pos hw]
  have h0 : Region.wanted ⟨d, op, ty, pos, af, none⟩ (yielded ops a.tmps) = true := rfl
  rw [if_pos h0] at hk
  exact hk
/-- A guarded operation whose guard says no. -/
theorem o_gn {d : Option Tmp} {op : Op} {ty : TypeId} {pos : String} {af : Array Edge} {j dj : Nat} {b b' : Bool} {Y : List (Nat × Nat)} (y : Yok ops Y) (hj : yl Y j = some dj) (hb : fnd E dj = some (.bool b')) (hne : b' = !b)
    (hd : (match d with | some d => (fnd E d).isNone | none => true) = true)
    (k : SO P n ops rest E H Q) : SO P n ops (⟨d, op, ty, pos, af, some (j, b)⟩ :: rest) E H Q := by
  intro a w h1 h2 h3 h4
  have hy := y j dj (yl_mem hj)
  have hv := h1 dj _ hb
  have hw : Region.wanted ⟨d, op, ty, pos, af, some (j, b)⟩ (yielded ops a.tmps) = false := by
    have hs : dj < a.tmps.size := by
      rcases Nat.lt_or_ge dj a.tmps.size with h | h
      · exact h
      · rw [Array.getD_eq_getD_getElem?, Array.getElem?_eq_none h] at hv; cases hv
    have : a.tmps[dj]? = some (.bool b') := by
      rw [Array.getD_eq_getD_getElem?] at hv
      rw [Array.getElem?_eq_getElem hs] at hv ⊢
      simpa using hv
    subst hne
    cases b <;> simp [Region.wanted, yielded, hy, this]
  unfold wpList
  rw [if_neg (by rw [hw]; exact Bool.false_ne_true)]
  refine k _ w ?_ (by cases d <;> simp [Act.put, h2]) (by cases d <;> simpa [Act.put] using h3) h4
  cases d with
  | none => exact h1
  | some d =>
    intro i u hu
    have hne : d ≠ i := fun e => by subst e; simp [hu] at hd
    have := h1 i u hu
    simp only [Act.put, Array.getD_eq_getD_getElem?] at *
    rw [Array.getElem?_setIfInBounds_ne hne]
    exact this
end
end Go.K
