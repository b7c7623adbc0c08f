/-
  The thin layer, fourteenth part: pieces of memory that stay shut; slices as such pieces.
-/
import Derived.Test.YtdfidkhbldedlaaGreatK11
import Derived.Test.YtdfidkhbldedlaaGreatK12
import Derived.Test.YtdfidkhbldedlaaGreatK13
namespace Go.K
set_option linter.unusedVariables false
set_option linter.unusedSimpArgs false

/-! ### Pieces -/
theorem Pick.app {x : Blk} {H F : Hp} {L : Hp} (h : Pick x H F) : Pick x (L ++ H) (L ++ F) := by
  induction L with
  | nil => exact h
  | cons y L ih => exact .there ih
/-- A piece is taken out. -/
inductive PickL (L : Hp) : Hp → Hp → Prop
  | here {F : Hp} : PickL L (L ++ F) F
  | last : PickL L L []
  | there {y : Blk} {H F : Hp} : PickL L H F → PickL L (y :: H) (y :: F)
  | app {M H F : Hp} : PickL L H F → PickL L (M ++ H) (M ++ F)
theorem Split.there {y : Blk} {H L F : Hp} (h : Split H L F) : Split (y :: H) L (y :: F) := by
  induction h with
  | nil => exact .nil
  | cons p _ ih => exact .cons (.there p) ih
theorem Split.under {M H L F : Hp} (h : Split H L F) : Split (M ++ H) L (M ++ F) := by
  induction M with
  | nil => exact h
  | cons y M ih => exact ih.there
theorem split_front : ∀ (L F : Hp), Split (L ++ F) L F
  | [], F => .nil
  | x :: L, F => .cons .here (split_front L F)
theorem PickL.split {L H F : Hp} (h : PickL L H F) : Split H L F := by
  induction h with
  | here => exact split_front _ _
  | last => exact split_self _
  | there _ ih => exact ih.there
  | app _ ih => exact ih.under
theorem Split.trans {H L G M F : Hp} (h : Split H L G) (k : Split G M F) : Split H (L ++ M) F := by
  induction h with
  | nil => exact k
  | cons p _ ih => exact .cons p (ih k)
theorem Split.chunk {H L G M F : Hp} (h : PickL L H G) (k : Split G M F) : Split H (L ++ M) F := h.split.trans k
theorem Split.lst {H L F : Hp} (h : PickL L H F) : Split H L F := h.split
theorem PickL.perm {L H F : Hp} (h : PickL L H F) : H.Perm (L ++ F) := h.split.perm
theorem PickL.sub {L H F : Hp} (h : PickL L H F) {x : Blk} (hx : x ∈ L) : x ∈ H := h.perm.mem_iff.2 (List.mem_append_left _ hx)
theorem PickL.nil_eq {L H F : Hp} (h : PickL L H F) (hl : L = []) : H = F := by
  induction h with
  | here => subst hl; rfl
  | last => exact hl
  | there _ ih => rw [ih]
  | app _ ih => rw [ih]
theorem PickL.one {x : Blk} {L H F : Hp} (h : PickL L H F) (hl : L = [x]) : Pick x H F := by
  induction h with
  | here => subst hl; exact .here
  | last => subst hl; exact .here
  | there _ ih => exact .there ih
  | app _ ih => exact .app ih
theorem Upd.app {b : Nat} {o o' : Obj} {H K L : Hp} (h : Upd b o o' H K) : Upd b o o' (L ++ H) (L ++ K) := by
  induction L with
  | nil => exact h
  | cons y L ih => exact .there ih
/-- A piece turns into another one. -/
inductive UpdL (L L' : Hp) : Hp → Hp → Prop
  | here {F : Hp} : UpdL L L' (L ++ F) (L' ++ F)
  | last : UpdL L L' L L'
  | there {y : Blk} {H F : Hp} : UpdL L L' H F → UpdL L L' (y :: H) (y :: F)
  | app {M H F : Hp} : UpdL L L' H F → UpdL L L' (M ++ H) (M ++ F)
theorem UpdL.one {b : Nat} {o o' : Obj} {L L' H K : Hp} (h : UpdL L L' H K) (hl : L = [(b, true, o)]) (hl' : L' = [(b, true, o')]) : Upd b o o' H K := by
  induction h with
  | here => subst hl hl'; exact .here
  | last => subst hl hl'; exact .here
  | there _ ih => exact .there ih
  | app _ ih => exact .app ih

/-- Y ahead of F, in the one form that is searched. -/
inductive Ap : Hp → Hp → Hp → Prop
  | nil {F : Hp} : Ap [] F F
  | cons {x : Blk} {Y F G : Hp} : Ap Y F G → Ap (x :: Y) F (x :: G)
  | app {L Y F G : Hp} : Ap Y F G → Ap (L ++ Y) F (L ++ G)
  | one {L F : Hp} : Ap L F (L ++ F)
theorem Ap.eq {Y F G : Hp} (h : Ap Y F G) : Y ++ F = G := by
  induction h with
  | nil => rfl
  | cons _ ih => rw [← ih]; rfl
  | app _ ih => rw [← ih, List.append_assoc]
  | one => rfl

section
variable {P : Program} {n : Nat} {E : Env} {H : Hp} {Q : Post} {ops : Array Oper} {rest : List Oper}
theorem c_is {d : Nat} {f : FuncId} {xs : List Operand} {ts : Array TypeId} {ty : TypeId} {pos : String} {af : Array Edge} {args : List Value} {L F Y : Hp} {X : Value} [he : Ent P f]
    (hx : evl E xs = some args) (hf : Does P f args L (Is X Y)) (hs : Split H L F) (hd : Nat.blt d n = true) {G : Hp} (hg : Ap Y F G)
    (k : SO P n ops rest ((d, X) :: E) G Q) : SO P n ops (⟨some d, .call ⟨.value (.func f), xs.toArray, ts⟩, ty, pos, af, none⟩ :: rest) E H Q :=
  o_call hx hf hs hd fun v L' ⟨h1, h2⟩ => by subst h1; subst h2; rw [hg.eq]; exact k
theorem c_isn {f : FuncId} {xs : List Operand} {ts : Array TypeId} {ty : TypeId} {pos : String} {af : Array Edge} {args : List Value} {L F Y : Hp} {X : Value} [he : Ent P f]
    (hx : evl E xs = some args) (hf : Does P f args L (Is X Y)) (hs : Split H L F) {G : Hp} (hg : Ap Y F G)
    (k : SO P n ops rest E G Q) : SO P n ops (⟨none, .call ⟨.value (.func f), xs.toArray, ts⟩, ty, pos, af, none⟩ :: rest) E H Q :=
  o_call hx hf hs rfl fun v L' ⟨h1, h2⟩ => by subst h1; subst h2; rw [hg.eq]; exact k
theorem c_ex {d : Nat} {f : FuncId} {xs : List Operand} {ts : Array TypeId} {ty : TypeId} {pos : String} {af : Array Edge} {args : List Value} {L F : Hp} {R : Value → Hp → Prop} [he : Ent P f]
    (hx : evl E xs = some args) (hf : Does P f args L R) (hs : Split H L F) (hd : Nat.blt d n = true)
    (k : ∀ v Y, R v Y → SO P n ops rest ((d, v) :: E) (Y ++ F) Q) : SO P n ops (⟨some d, .call ⟨.value (.func f), xs.toArray, ts⟩, ty, pos, af, none⟩ :: rest) E H Q :=
  o_call hx hf hs hd fun v L' h => k v L' h
theorem c_exn {f : FuncId} {xs : List Operand} {ts : Array TypeId} {ty : TypeId} {pos : String} {af : Array Edge} {args : List Value} {L F : Hp} {R : Value → Hp → Prop} [he : Ent P f]
    (hx : evl E xs = some args) (hf : Does P f args L R) (hs : Split H L F)
    (k : ∀ v Y, R v Y → SO P n ops rest E (Y ++ F) Q) : SO P n ops (⟨none, .call ⟨.value (.func f), xs.toArray, ts⟩, ty, pos, af, none⟩ :: rest) E H Q :=
  o_call hx hf hs rfl fun v L' h => k v L' h
theorem c_fis {d : Nat} {x : Operand} {f : FuncId} {fi ca : List Value} {xs : List Operand} {ts : Array TypeId} {ty : TypeId} {pos : String} {af : Array Edge} {args : List Value} {L F Y : Hp} {X : Value} [he : Ent P f]
    (hg : ev E x = some (.func (.func f) fi.toArray ca.toArray)) (hx : evl E xs = some args) (hf : Does P f (fi ++ args ++ ca) L (Is X Y)) (hs : Split H L F) (hd : Nat.blt d n = true) {G : Hp} (hgg : Ap Y F G)
    (k : SO P n ops rest ((d, X) :: E) G Q) : SO P n ops (⟨some d, .call ⟨.value x, xs.toArray, ts⟩, ty, pos, af, none⟩ :: rest) E H Q :=
  o_callf hg hx hf hs hd fun v L' ⟨h1, h2⟩ => by subst h1; subst h2; rw [hgg.eq]; exact k
theorem rd_ixS0 {t e : TypeId} {x y : Operand} {b l c sz : Nat} {k : IntKind} {i : Int} [ht : Und P t (.slice e)] [hz : Siz P e sz] (hx : ev E x = some (.slice (some ⟨b, 0, none⟩) l c)) (hy : ev E y = some (.int k i))
    (hi : 0 ≤ i ∧ i < l) : Rd P E H (.indexAddr t x y) (.pointer (some ⟨b, i.toNat * sz, none⟩)) := by
  have := rd_ixS (P := P) (H := H) (t := t) (e := e) (sz := sz) hx hy hi
  rwa [Nat.zero_add] at this
theorem rd_ixA0 {t e : TypeId} {x y : Operand} {b l sz : Nat} {k : IntKind} {i : Int} [ht : Und P t (.array l e)] [hz : Siz P e sz] (hx : ev E x = some (.pointer (some ⟨b, 0, none⟩))) (hy : ev E y = some (.int k i))
    (hi : 0 ≤ i ∧ i < l) : Rd P E H (.indexAddr t x y) (.pointer (some ⟨b, i.toNat * sz, none⟩)) := by
  have := rd_ixA (P := P) (H := H) (t := t) (e := e) (sz := sz) hx hy hi
  rwa [Nat.zero_add] at this
/-- Memory said in other words. -/
theorem so_eq {l : List Oper} {G : Hp} (hg : H = G) (k : SO P n ops l E G Q) : SO P n ops l E H Q := by rw [hg]; exact k
theorem so_ap {l : List Oper} {Y F G : Hp} (hg : Ap Y F G) (k : SO P n ops l E G Q) : SO P n ops l E (Y ++ F) Q := by rw [hg.eq]; exact k
theorem sc_eq {c : Code} {G : Hp} (hg : H = G) (k : SC P n c E G Q) : SC P n c E H Q := by rw [hg]; exact k
theorem does_of {f : FuncId} {args : List Value} {H' : Hp} {R : Value → Hp → Prop} (h : Does P f args H' R) (e : H = H') : Does P f args H R := by rw [e]; exact h
theorem does_perm {f : FuncId} {args : List Value} {H' : Hp} {R : Value → Hp → Prop} (h : Does P f args H' R) (e : H.Perm H') : Does P f args H R :=
  fun w hw => (h w (hw.perm e)).mono fun _ _ ⟨v, K, h1, h2, h3⟩ => ⟨v, K, h1, h2, h3.perm_left e.symm⟩
theorem Does.to {f : FuncId} {args : List Value} {X X' : Value} {Y Y' : Hp} (h : Does P f args H (Is X Y)) (h1 : X = X') (h2 : Y = Y') : Does P f args H (Is X' Y') := by rw [← h1, ← h2]; exact h
end

/-! ### Slices -/
class Cel (α : Type) where
  sz : Nat
  cs : α → List Value
  len : ∀ x, (cs x).length = sz
  one : ∀ x, ((cs x).all (·.oneCell')) = true
instance : Cel Int := ⟨1, fun i => [.int .i64 i], fun _ => rfl, fun _ => rfl⟩
abbrev cells {α : Type} [Cel α] (xs : List α) : List Value := xs.flatMap Cel.cs
theorem cells_len {α : Type} [Cel α] (xs : List α) : (cells xs).length = xs.length * Cel.sz α := row_len xs (fun x _ => Cel.len x)
theorem cells_one {α : Type} [Cel α] (xs : List α) : ((cells xs).all (·.oneCell')) = true := by
  rw [List.all_eq_true]
  intro v hv
  obtain ⟨x, _, hx⟩ := List.mem_flatMap.1 hv
  exact List.all_eq_true.1 (Cel.one x) v hx
/-- What a view of cells shows. -/
def Shows {α : Type} [Cel α] (cs : List Value) (o : Nat) (xs : List α) : Prop := ∀ (i : Nat) (x : α), xs[i]? = some x → cut cs (o + i * Cel.sz α) (Cel.sz α) = some (Cel.cs x)
/-- A slice: none; an empty one that has no room; an empty one that came in; one with a block of its own; a view of a block. -/
inductive Sl (α : Type) [Cel α]
  | nil
  | emp (a : Addr)
  | vac (a : Addr) (cap : Nat)
  | own (b : Nat) (xs : List α) (cap : Nat) (sp : List Value) (h : (cap - xs.length) * Cel.sz α ≤ sp.length ∧ xs.length ≤ cap ∧ xs.length ≤ 9223372036854775807)
  | view (b o : Nat) (r : Bool) (cs : List Value) (T : TypeId) (fr : Nat × Nat) (xs : List α) (cap : Nat) (h : Shows cs o xs ∧ xs.length ≤ cap ∧ xs.length ≤ 9223372036854775807)
namespace Sl
variable {α : Type} [Cel α]
def list : Sl α → List α
  | nil | emp _ | vac _ _ => []
  | own _ xs _ _ _ => xs
  | view _ _ _ _ _ _ xs _ _ => xs
def ptr : Sl α → Option Addr
  | nil => none
  | emp a => some a
  | vac a _ => some a
  | own b _ _ _ _ => some ⟨b, 0, none⟩
  | view b o _ _ _ _ _ _ _ => some ⟨b, o, none⟩
def cap : Sl α → Nat
  | nil | emp _ => 0
  | vac _ c => c
  | own _ _ c _ _ => c
  | view _ _ _ _ _ _ _ c _ => c
def bk : Sl α → Nat
  | nil | emp _ | vac _ _ => 0
  | own b _ _ _ _ => b
  | view b _ _ _ _ _ _ _ _ => b
def off : Sl α → Nat
  | view _ o _ _ _ _ _ _ _ => o
  | _ => 0
def isOwn : Sl α → Bool
  | view .. | vac .. => false
  | _ => true
abbrev val (s : Sl α) : Value := .slice s.ptr s.list.length s.cap
@[irreducible] def hp (T : TypeId) : Sl α → Hp
  | nil | emp _ | vac _ _ => []
  | own b xs _ sp _ => [(b, true, C (cells xs ++ sp) T)]
  | view b _ r cs U fr _ _ _ => [(b, r, CF cs U fr)]
theorem hp_nil (T : TypeId) : (nil : Sl α).hp T = [] := by unfold hp; rfl
theorem hp_emp (T : TypeId) (a : Addr) : (emp a : Sl α).hp T = [] := by unfold hp; rfl
theorem hp_vac (T : TypeId) (a : Addr) (c : Nat) : (vac a c : Sl α).hp T = [] := by unfold hp; rfl
theorem hp_own (T : TypeId) (b : Nat) (xs : List α) (c : Nat) (sp : List Value) (h) : (own b xs c sp h).hp T = [(b, true, C (cells xs ++ sp) T)] := by unfold hp; rfl
theorem hp_view (T : TypeId) (b o : Nat) (r : Bool) (cs : List Value) (U : TypeId) (fr : Nat × Nat) (xs : List α) (c : Nat) (h) : (view b o r cs U fr xs c h).hp T = [(b, r, CF cs U fr)] := by unfold hp; rfl
theorem len_cap (s : Sl α) : s.list.length ≤ s.cap := by
  cases s with
  | nil => exact Nat.le_refl _
  | emp => exact Nat.le_refl _
  | vac => exact Nat.zero_le _
  | own _ _ _ _ h => exact h.2.1
  | view _ _ _ _ _ _ _ _ h => exact h.2.1
theorem small (s : Sl α) : s.list.length ≤ 9223372036854775807 := by
  cases s with
  | nil => exact Nat.zero_le _
  | emp => exact Nat.zero_le _
  | vac => exact Nat.zero_le _
  | own _ _ _ _ h => exact h.2.2
  | view _ _ _ _ _ _ _ _ h => exact h.2.2
/-- Of a slice that holds something: its block. -/
theorem block (s : Sl α) (T : TypeId) (h : 0 < s.list.length) : ∃ r cs U fr, s.hp T = [(s.bk, r, CF cs U fr)] ∧ s.ptr = some ⟨s.bk, s.off, none⟩ ∧ Shows cs s.off s.list := by
  cases s with
  | nil => simp [list] at h
  | emp => simp [list] at h
  | vac => simp [list] at h
  | own b xs c sp h' =>
    refine ⟨true, _, _, _, hp_own T b xs c sp h', rfl, fun i x hx => ?_⟩
    refine cut_left ?_ _
    have := cut_row (f := Cel.cs) (n := Cel.sz α) (l := xs) (k := i) (o := 0) (m := Cel.sz α) (fun x _ => Cel.len x) hx (by have := cut_whole (Cel.cs x); rwa [Cel.len] at this)
    simpa [off] using this
  | view b o r cs U fr xs c h' => exact ⟨r, cs, U, fr, hp_view T b o r cs U fr xs c h', rfl, h'.1⟩
/-- The slice with an element turned. -/
def set (s : Sl α) (i : Nat) (x : α) : Sl α :=
  match s with
  | own b xs c sp h => own b (xs.set i x) c sp (by simpa using h)
  | s => s
theorem set_list (s : Sl α) (i : Nat) (x : α) (h : s.isOwn = true) : (s.set i x).list = s.list.set i x := by
  cases s <;> first | rfl | (simp [isOwn] at h; done) | simp [set, list]
theorem set_isOwn (s : Sl α) (i : Nat) (x : α) (h : s.isOwn = true) : (s.set i x).isOwn = true := by
  cases s <;> first | rfl | simp [isOwn] at h
theorem set_val (s : Sl α) (i : Nat) (x : α) : (s.set i x).val = s.val := by
  cases s <;> first | rfl | simp [val, set, ptr, list, cap]
theorem set_bk (s : Sl α) (i : Nat) (x : α) : (s.set i x).bk = s.bk := by
  cases s <;> rfl
end Sl

section
variable {P : Program} {n : Nat} {E : Env} {H : Hp} {Q : Post} {ops : Array Oper} {rest : List Oper} {α : Type} [Cel α]

/-- x[i]'s address -/
theorem rd_ixSl {t e : TypeId} {x y : Operand} {s : Sl α} {sz : Nat} {k : IntKind} {i : Int} [ht : Und P t (.slice e)] [hz : Siz P e sz] (hx : ev E x = some s.val) (hy : ev E y = some (.int k i))
    (hi : 0 ≤ i ∧ i < s.list.length) : Rd P E H (.indexAddr t x y) (.pointer (some ⟨s.bk, s.off + i.toNat * sz, none⟩)) := by
  obtain ⟨_, _, _, _, _, hp, _⟩ := s.block 0 (by omega)
  refine rd_ixS (b := s.bk) (o := s.off) (l := s.list.length) (c := s.cap) ?_ hy hi
  rw [hx, Sl.val, hp]
/-- a load of a cell of x[i] -/
theorem rd_ldSl {t T : TypeId} {x : Operand} {s : Sl α} {i o : Nat} {z : α} {v : Value} {F : Hp} {p : Nat} [ht : Agg P t false] (hx : ev E x = some (.pointer (some ⟨s.bk, p, none⟩))) (hm : PickL (s.hp T) H F) (hi : s.list[i]? = some z) (hv : nth (Cel.cs z) o = some v)
    (hp : p = s.off + i * Cel.sz α + o) : Rd P E H (.load t x) v := by
  have hlt := (List.getElem?_eq_some_iff.1 hi).1
  obtain ⟨r, cs, U, fr, h1, h2, h3⟩ := s.block T (by omega)
  have h4 := h3 i z hi
  subst hp
  refine rd_ld hx (hm.sub (by rw [h1]; exact .head _)) ?_
  obtain ⟨e1, e2, e3⟩ := cut_eq _ _ _ _ h4
  rw [nth_eq] at hv ⊢
  rw [e1] at hv
  rw [List.getElem?_take, List.getElem?_drop] at hv
  split at hv
  · exact hv
  · cases hv
/-- a load of cells of x[i] -/
theorem cut_cut {a b c : List Value} {o m p q : Nat} (h : cut a o m = some b) (k : cut b p q = some c) : cut a (o + p) q = some c := by
  obtain ⟨h1, h2⟩ := cut_iff.1 h
  obtain ⟨k1, k2⟩ := cut_iff.1 k
  have hl : b.length = m := (cut_eq _ _ _ _ h).2.2
  refine cut_iff.2 ⟨?_, by omega⟩
  rw [k1, h1, List.drop_take, List.drop_drop, List.take_take]
  congr 1
  omega
theorem rd_ldSlA {t T : TypeId} {x : Operand} {s : Sl α} {i o sz : Nat} {z : α} {vs : List Value} {F : Hp} {p : Nat} [ht : Agg P t true] [hz : Siz P t sz] (hx : ev E x = some (.pointer (some ⟨s.bk, p, none⟩))) (hm : PickL (s.hp T) H F) (hi : s.list[i]? = some z) (hv : cut (Cel.cs z) o sz = some vs)
    (hp : p = s.off + i * Cel.sz α + o) : Rd P E H (.load t x) (.agg vs.toArray) := by
  have hlt := (List.getElem?_eq_some_iff.1 hi).1
  obtain ⟨r, cs, U, fr, h1, h2, h3⟩ := s.block T (by omega)
  have h4 := h3 i z hi
  subst hp
  exact rd_ldA hx (hm.sub (by rw [h1]; exact .head _)) (cut_cut h4 hv)
/-- a store into x[i] -/
theorem o_storeSl {t T : TypeId} {x y : Operand} {ty : TypeId} {pos : String} {af : Array Edge} {s : Sl α} {i o p : Nat} {v : Value} {vs : List Value} {z z' : α} {H' : Hp}
    (hx : ev E x = some (.pointer (some ⟨s.bk, p, none⟩))) (hy : ev E y = some v) (hu : UpdL (s.hp T) ((s.set i z').hp T) H H') (ho : s.isOwn = true) (hi : s.list[i]? = some z) (hv : vcells v = some vs) {m : Nat} [hz : Siz P t m] (hm : vs.length = m) (hs : splice (Cel.cs z) o vs = some (Cel.cs z'))
    (hp : p = i * Cel.sz α + o) (k : SO P n ops rest E H' Q) : SO P n ops (⟨none, .store t x y, ty, pos, af, none⟩ :: rest) E H Q := by
  subst hp
  cases s with
  | nil => simp [Sl.list] at hi
  | emp => simp [Sl.list] at hi
  | vac => simp [Sl.list] at hi
  | view => simp [Sl.isOwn] at ho
  | own b xs c sp h =>
    have h1 := hu.one (Sl.hp_own T b xs c sp h) (Sl.hp_own T b (xs.set i z') c sp (by simpa using h))
    refine o_store hx hy h1 hv hm ?_ k
    exact splice_left (splice_row (f := Cel.cs) (fun x _ => Cel.len x) hi hs) sp
/-- append -/
theorem shows_cut {cs : List Value} {o : Nat} : ∀ {xs : List α}, Shows cs o xs → 0 < xs.length → cut cs o (xs.length * Cel.sz α) = some (cells xs) := by
  intro xs
  induction xs generalizing o with
  | nil => intro _ h; simp at h
  | cons x xs ih =>
    intro h _
    have h0 := h 0 x rfl
    simp only [Nat.zero_mul, Nat.add_zero] at h0
    have hx := Cel.len (α := α) x
    obtain ⟨a1, a2, a3⟩ := cut_eq _ _ _ _ h0
    by_cases hn : xs = []
    · subst hn
      simpa [cells] using h0
    · have hs : Shows cs (o + Cel.sz α) xs := fun i y hy => by
        have := h (i + 1) y hy
        rwa [Nat.succ_mul, Nat.add_comm (i * _), ← Nat.add_assoc] at this
      have hr := ih hs (List.length_pos_iff.2 hn)
      obtain ⟨b1, b2, b3⟩ := cut_eq _ _ _ _ hr
      refine cut_iff.2 ⟨?_, ?_⟩
      · rw [List.length_cons, Nat.succ_mul, Nat.add_comm (xs.length * _), cells, List.flatMap_cons, a1]
        have : cells xs = ((cs.drop o).drop (Cel.sz α)).take (xs.length * Cel.sz α) := by rw [b1, List.drop_drop]
        rw [show List.flatMap Cel.cs xs = cells xs from rfl, this, ← List.take_add]
      · rw [List.length_cons, Nat.succ_mul]; omega
theorem src_sl {T : TypeId} {s : Sl α} {F : Hp} (hm : PickL (s.hp T) H F) : Src H (Cel.sz α) s.val s.list.length (cells s.list) := by
  by_cases h0 : s.list.length = 0
  · have : s.list = [] := List.length_eq_zero_iff.1 h0
    unfold Sl.val
    rw [this]
    exact src_nil
  · obtain ⟨r, cs, U, fr, h1, h2, h3⟩ := s.block T (by omega)
    rw [Sl.val, h2]
    exact src_blk (r := r) (cs := cs) (T := U) (fr := fr) (hm.sub (by rw [h1]; exact .head _)) (shows_cut h3 (by omega))
theorem firstCells_0 {sz : Nat} {w : World} {p : Option Addr} : (Builtin.firstCells sz 0 (.slice p 0 0)).run P w = .ok ([] : List Value).toArray w := by
  cases p with
  | none => simp [Builtin.firstCells]
  | some a => simpa [Builtin.firstCells] using run_load0 (P := P) (a := a) (w := w)
/-- append onto a slice without room -/
theorem o_append_z {d : Nat} {t u e : TypeId} {x y : Operand} {ty : TypeId} {pos : String} {af : Array Edge} {m sz bs : Nat} {new zs : List Value} {v : Value} {p : Option Addr}
    [ht : Und P t (.slice e)] [hu : Und P u (.slice e)] [hz : Zer P e zs] [hs : Siz P e sz] [hby : Byt P e bs]
    (hx : ev E x = some (.slice p 0 0)) (hy : ev E y = some v) (hsrc : Src H sz v m new) (hm : 1 ≤ m) (hzl : Nat.beq zs.length sz = true) (hbs : Nat.ble 1 bs = true) (hroom : (2 * m + 1024) * bs ≤ 281474976710656) (hd : Nat.blt d n = true)
    (k : ∀ b' c' (spare' : List Value), spare'.length = (c' - m) * sz → m ≤ c' → SO P n ops rest ((d, .slice (some ⟨b', 0, none⟩) m c') :: E) ((b', true, C (new ++ spare') e) :: H) Q) :
    SO P n ops (⟨some d, .call ⟨.builtin .append, #[x, y], #[t, u]⟩, ty, pos, af, none⟩ :: rest) E H Q := by
  intro a w h1 h2 h3 h4
  refine wpList_plain rfl fun K hK => ?_
  have hzl' : zs.length = sz := Nat.eq_of_beq_eq_true hzl
  have hlt : d < a.tmps.size := by rw [h2]; exact Nat.le_of_ble_eq_true hd
  unfold Oper.wp
  obtain ⟨nc, hnc, hrun⟩ := run_append_new (P := P) (t := t) (u := u) (ty := ty) (p := p) (l := 0) (c := 0) (old := []) h4 hsrc (fun k => firstCells_0) (by omega) hzl' (Nat.le_of_ble_eq_true hbs) (by simpa using hroom)
  rw [exec_append (ev_ok h1 hx) (ev_ok h1 hy) hrun]
  rw [Nat.zero_add] at hnc
  have ht' := trk_newC (cs := [] ++ new ++ zrep (nc - (0 + m)) zs) (T := e) (trk_drawn h4 (w.drawn + 1)).ok
  have htr := (trk_drawn h4 (w.drawn + 1)).trans ht'
  have hfin := k w.heap.size nc (zrep (nc - m) zs) (by rw [zrep_len, hzl']) hnc
  have e2 : ([] ++ new ++ zrep (nc - (0 + m)) zs) = new ++ zrep (nc - m) zs := by simp
  have e3 : 0 + m = m := Nat.zero_add m
  rw [e2] at htr ⊢
  rw [e3]
  exact hK _ _ (wpList_up htr (hfin _ _ (h1.put hlt) (by simp [Act.put, h2]) h3 htr.ok))
theorem o_append_z0 {d : Nat} {t u e : TypeId} {x y : Operand} {ty : TypeId} {pos : String} {af : Array Edge} {sz : Nat} {new : List Value} {v : Value} {p : Option Addr}
    [ht : Und P t (.slice e)] [hu : Und P u (.slice e)] [hs : Siz P e sz]
    (hx : ev E x = some (.slice p 0 0)) (hy : ev E y = some v) (hsrc : Src H sz v 0 new) (hd : Nat.blt d n = true)
    (k : SO P n ops rest ((d, .slice p 0 0) :: E) H Q) :
    SO P n ops (⟨some d, .call ⟨.builtin .append, #[x, y], #[t, u]⟩, ty, pos, af, none⟩ :: rest) E H Q := by
  intro a w h1 h2 h3 h4
  refine wpList_plain rfl fun K hK => ?_
  have hlt : d < a.tmps.size := by rw [h2]; exact Nat.le_of_ble_eq_true hd
  unfold Oper.wp
  have hrun := run_append_in (P := P) (t := t) (u := u) (ty := ty) (p := p) (l := 0) (c := 0) h4 hsrc (by omega)
  have hn : new = [] := List.length_eq_zero_iff.1 (by have := (run_firstCells (P := P) h4 hsrc).2.2; omega)
  subst hn
  have hrun' : (Builtin.append_ #[t, u] ty #[.slice p 0 0, v]).run P w = .ok (.slice p 0 0) w := by
    rw [hrun]
    cases p <;> simp [storeCells]
  rw [exec_append (ev_ok h1 hx) (ev_ok h1 hy) hrun']
  exact hK _ _ (k _ _ (h1.put hlt) (by simp [Act.put, h2]) h3 h4)
theorem o_append_sl {d : Nat} {t u e : TypeId} {x y : Operand} {ty : TypeId} {pos : String} {af : Array Edge} {m sz bs : Nat} {s : Sl α} {new : List α} {zs : List Value} {v : Value} {F : Hp}
    [ht : Und P t (.slice e)] [hu : Und P u (.slice e)] [hz : Zer P e zs] [hs : Siz P e sz] [hby : Byt P e bs]
    (hx : ev E x = some s.val) (hy : ev E y = some v) (hp : PickL (s.hp e) H F) (ho : s.isOwn = true) (hsrc : Src H sz v m (cells new)) (hm : new.length = m) (hsz : Nat.beq sz (Cel.sz α) = true)
    (hzl : Nat.beq zs.length sz = true) (hbs : Nat.ble 1 bs = true) (hroom : (2 * (s.list.length + m) + 1024) * bs ≤ 281474976710656) (hd : Nat.blt d n = true)
    (k : ∀ s' : Sl α, s'.list = s.list ++ new → s'.isOwn = true → SO P n ops rest ((d, s'.val) :: E) (s'.hp e ++ F) Q) :
    SO P n ops (⟨some d, .call ⟨.builtin .append, #[x, y], #[t, u]⟩, ty, pos, af, none⟩ :: rest) E H Q := by
  have hsm : s.list.length + m ≤ 9223372036854775807 := by
    have h1 := Nat.le_mul_of_pos_right (2 * (s.list.length + m) + 1024) (show 0 < bs from Nat.le_of_ble_eq_true hbs)
    omega
  have hsz' : sz = Cel.sz α := Nat.eq_of_beq_eq_true hsz
  have hz : ∀ (p : Option Addr), s.val = .slice p 0 0 → s.list = [] → s.hp e = [] → s.isOwn = true → SO P n ops (⟨some d, .call ⟨.builtin .append, #[x, y], #[t, u]⟩, ty, pos, af, none⟩ :: rest) E H Q := by
    intro p hv hl hh how
    have hHF : H = F := hp.nil_eq hh
    rw [hv] at hx
    rw [hl] at hroom
    by_cases h0 : m = 0
    · subst h0
      have hn : new = [] := List.length_eq_zero_iff.1 hm
      refine o_append_z0 hx hy hsrc hd ?_
      have := k s (by rw [hn]; simp) how
      rw [hh, hv, List.nil_append, ← hHF] at this
      exact this
    · refine o_append_z hx hy hsrc (by omega) hzl hbs (by simpa using hroom) hd (fun b c sp h1 h2 => ?_)
      have := k (.own b new c sp ⟨by rw [h1, hm, hsz']; exact Nat.le_refl _, by omega, by omega⟩) (by rw [hl]; rfl) rfl
      rw [Sl.hp_own, ← hHF] at this
      simpa [Sl.val, Sl.ptr, Sl.list, Sl.cap, hm] using this
  cases s with
  | nil => exact hz none rfl rfl (Sl.hp_nil e) rfl
  | emp a => exact hz (some a) rfl rfl (Sl.hp_emp e a) rfl
  | view => simp [Sl.isOwn] at ho
  | vac => simp [Sl.isOwn] at ho
  | own b xs c sp h =>
    refine o_append (old := cells xs) (spare := sp) (l := xs.length) (c := c) hx hy (hp.one (Sl.hp_own ..)) (by rw [cells_len, hsz']) (by rw [hsz']; exact ⟨h.1, h.2.1⟩) hsrc (cells_one new) hzl hbs hroom hd (fun b' c' sp' h1 h2 => ?_)
    have := k (.own b' (xs ++ new) c' sp' ⟨by rw [List.length_append, hm, ← hsz']; exact h1, by rw [List.length_append]; omega, by rw [List.length_append, hm]; exact hsm⟩) rfl rfl
    rw [Sl.hp_own] at this
    simpa [Sl.val, Sl.ptr, Sl.list, Sl.cap, hm, cells] using this
end
end Go.K
