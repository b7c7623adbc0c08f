/-
  The thin layer, thirteenth part: rows of cells, one behind the other.
-/
import Derived.Test.YtdfidkhbldedlaaGreatK2
namespace Go.K
set_option linter.unusedVariables false

section
variable {α : Type} {f : α → List Value} {n : Nat}
theorem cut_iff {cs : List Value} {o m : Nat} {r : List Value} : cut cs o m = some r ↔ r = (cs.drop o).take m ∧ o + m ≤ cs.length :=
  ⟨fun h => ⟨(cut_eq cs o m r h).1, (cut_eq cs o m r h).2.1⟩, fun h => by rw [h.1]; exact cut_of rfl h.2⟩
theorem row_len : ∀ (l : List α), (∀ x ∈ l, (f x).length = n) → (l.flatMap f).length = l.length * n
  | [], _ => by simp
  | x :: l, h => by
    rw [List.flatMap_cons, List.length_append, row_len l (fun y hy => h y (.tail _ hy)), h x (.head _), List.length_cons, Nat.succ_mul, Nat.add_comm]
theorem row_drop : ∀ (l : List α) (k : Nat) (x : α), (∀ x ∈ l, (f x).length = n) → l[k]? = some x → (l.flatMap f).drop (k * n) = f x ++ (l.drop (k + 1)).flatMap f
  | [], k, x, _, hk => by simp at hk
  | y :: l, 0, x, h, hk => by simp at hk; subst hk; simp
  | y :: l, k + 1, x, h, hk => by
    have ih := row_drop l k x (fun y hy => h y (.tail _ hy)) (by simpa using hk)
    rw [List.flatMap_cons, Nat.succ_mul, Nat.add_comm (k * n) n, ← List.drop_drop]
    have hy := h y (.head _)
    rw [List.drop_append_of_le_length (by omega), ← hy, List.drop_length, List.nil_append, hy, ih]
    simp
theorem nth_row {l : List α} {k o : Nat} {x : α} (h : ∀ x ∈ l, (f x).length = n) (hk : l[k]? = some x) (ho : o < n) : nth (l.flatMap f) (k * n + o) = nth (f x) o := by
  have hx : (f x).length = n := h x (List.mem_of_getElem? hk)
  have := row_drop l k x h hk
  rw [nth_eq, nth_eq, ← List.getElem?_drop, this, List.getElem?_append_left (by omega)]
theorem cut_row {l : List α} {k o m : Nat} {x : α} {r : List Value} (h : ∀ x ∈ l, (f x).length = n) (hk : l[k]? = some x) (hc : cut (f x) o m = some r) : cut (l.flatMap f) (k * n + o) m = some r := by
  have hx : (f x).length = n := h x (List.mem_of_getElem? hk)
  obtain ⟨h1, h2⟩ := cut_iff.1 hc
  have hd := row_drop l k x h hk
  have hlen := row_len l h
  have hkl : k < l.length := (List.getElem?_eq_some_iff.1 hk).1
  refine cut_iff.2 ⟨?_, ?_⟩
  · rw [h1, ← List.drop_drop, hd, List.drop_append_of_le_length (by omega), List.take_append_of_le_length (by simp; omega)]
  · rw [hlen]
    have : (k + 1) * n ≤ l.length * n := Nat.mul_le_mul_right n hkl
    rw [Nat.succ_mul] at this
    omega
theorem set_flat : ∀ (l : List α) (k : Nat) (x y : α), l[k]? = some x → (l.set k y).flatMap f = (l.take k).flatMap f ++ (f y ++ (l.drop (k + 1)).flatMap f)
  | [], k, x, y, h => by simp at h
  | z :: l, 0, x, y, h => by simp
  | z :: l, k + 1, x, y, h => by
    have := set_flat l k x y (by simpa using h)
    simp [this]
theorem flat_at : ∀ (l : List α) (k : Nat) (x : α), l[k]? = some x → l.flatMap f = (l.take k).flatMap f ++ (f x ++ (l.drop (k + 1)).flatMap f)
  | [], k, x, h => by simp at h
  | z :: l, 0, x, h => by simp at h; subst h; simp
  | z :: l, k + 1, x, h => by
    have := flat_at l k x (by simpa using h)
    simp [← this]
theorem splice_app {a b c r : List Value} {o : Nat} (h : splice b o c = some r) (d : List Value) : splice (a ++ (b ++ d)) (a.length + o) c = some (a ++ (r ++ d)) := by
  obtain ⟨h1, h2⟩ := splice_eq _ _ _ _ h
  refine splice_of ?_ (by simp; omega)
  rw [h1]
  rw [List.take_append, List.drop_append, show List.take (a.length + o) a = a from List.take_of_length_le (by omega)]
  have e1 : a.length + o - a.length = o := by omega
  have e2 : List.drop (a.length + o + c.length) a = [] := List.drop_eq_nil_of_le (by omega)
  have e3 : a.length + o + c.length - a.length = o + c.length := by omega
  rw [e1, e2, e3, List.take_append_of_le_length (by omega), List.drop_append_of_le_length (by omega)]
  simp
theorem splice_row {l : List α} {k o : Nat} {x y : α} {vs : List Value} (h : ∀ x ∈ l, (f x).length = n) (hk : l[k]? = some x) (hs : splice (f x) o vs = some (f y)) : splice (l.flatMap f) (k * n + o) vs = some ((l.set k y).flatMap f) := by
  rw [flat_at l k x hk, set_flat l k x y hk]
  have hkl : k < l.length := (List.getElem?_eq_some_iff.1 hk).1
  have : ((l.take k).flatMap f).length = k * n := by
    rw [row_len (n := n) _ (fun z hz => h z (List.mem_of_mem_take hz)), List.length_take, Nat.min_eq_left (by omega)]
  rw [← this]
  exact splice_app hs _
theorem splice_left {b c r : List Value} {o : Nat} (h : splice b o c = some r) (d : List Value) : splice (b ++ d) o c = some (r ++ d) := by
  simpa using splice_app (a := []) h d
theorem splice_right {a c r d : List Value} {o : Nat} (h : splice d o c = some r) : splice (a ++ d) (a.length + o) c = some (a ++ r) := by
  simpa using splice_app (a := a) h []
theorem cut_left {b r : List Value} {o m : Nat} (h : cut b o m = some r) (d : List Value) : cut (b ++ d) o m = some r := by
  obtain ⟨h1, h2⟩ := cut_iff.1 h
  refine cut_iff.2 ⟨?_, by simp; omega⟩
  rw [h1, List.drop_append_of_le_length (by omega), List.take_append_of_le_length (by simp; omega)]
theorem nth_left {b d : List Value} {o : Nat} (h : o < b.length) : nth (b ++ d) o = nth b o := by
  rw [nth_eq, nth_eq, List.getElem?_append_left h]
theorem nth_right {b d : List Value} {o : Nat} : nth (b ++ d) (b.length + o) = nth d o := by
  rw [nth_eq, nth_eq, List.getElem?_append_right (by omega)]
  congr 1; omega
theorem cut_whole (cs : List Value) : cut cs 0 cs.length = some cs := cut_iff.2 ⟨by simp, by omega⟩
theorem splice_whole {cs vs : List Value} (h : vs.length = cs.length) : splice cs 0 vs = some vs := splice_of (by simp [h]) (by omega)
theorem splice_one {β : Type} {g : β → Value} {l : List β} {i : Nat} {y : β} (h : i < l.length) : splice (l.map g) i [g y] = some ((l.set i y).map g) := by
  refine splice_of ?_ (by simp; omega)
  rw [List.map_set]
  simp [List.set_eq_take_append_cons_drop, h]
theorem nth_map {β : Type} {g : β → Value} {l : List β} {i : Nat} : nth (l.map g) i = l[i]?.map g := by rw [nth_eq, List.getElem?_map]
end
end Go.K
