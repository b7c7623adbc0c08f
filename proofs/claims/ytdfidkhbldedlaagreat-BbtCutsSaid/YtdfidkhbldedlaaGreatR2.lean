/-
  The row kit, second part: slices that come in.
-/
import Derived.Test.YtdfidkhbldedlaaGreatK16
import Derived.Test.YtdfidkhbldedlaaGreatR1
namespace Go.K
open Go.ChangeShapes Go.WideShapes Go.ChangeAt Go.RowKit
set_option linter.unusedVariables false
set_option linter.unusedSimpArgs false
section
variable {H : Type} {enc : TypeId × Value → H} {P : Program} {w : World} {base : Nat} {spare : Nat → Bool} {held : Bool}
theorem sl_of {α : Type} [Cel α] {ks : List Kd} {p : Option Addr} {len cap : Nat} (hk : ks.length = Cel.sz α) (h0 : 0 < ks.length) (hrow : ∀ row, Conf ks row → ∃ x : α, row = Cel.cs x) (T : TypeId) (h : SliceIn w ks p len cap) :
    ∃ s : Sl α, Value.slice p len cap = s.val ∧ HpOk (s.hp T) w ∧ ∀ x ∈ s.hp T, x.2.1 = false := by
  obtain ⟨h1, h2⟩ := slice_rows h0 h
  rcases h2 with ⟨rfl, hc⟩ | ⟨b, o, cs, U, fr, rows, rfl, hlc, hok, hlen, hr⟩
  · cases p with
    | none =>
      have := hc rfl
      subst this
      refine ⟨.nil, rfl, ?_, ?_⟩
      · rw [Sl.hp_nil]; exact ⟨List.Pairwise.nil, fun x hx => by cases hx⟩
      · rw [Sl.hp_nil]; intro x hx; cases hx
    | some a =>
      refine ⟨.vac a cap, rfl, ?_, ?_⟩
      · rw [Sl.hp_vac]; exact ⟨List.Pairwise.nil, fun x hx => by cases hx⟩
      · rw [Sl.hp_vac]; intro x hx; cases hx
  · have hx : ∀ row ∈ rows, ∃ x : α, row = Cel.cs x := fun row hm => by
      obtain ⟨i, hi, e⟩ := List.getElem_of_mem hm
      exact hrow row (hr i row (by rw [List.getElem?_eq_getElem hi, e])).1
    have hxs : ∃ xs : List α, rows = xs.map Cel.cs := by
      clear hr hlen
      induction rows with
      | nil => exact ⟨[], rfl⟩
      | cons r rows ih =>
        obtain ⟨x, rfl⟩ := hx r (.head _)
        obtain ⟨xs, rfl⟩ := ih (fun row hm => hx row (.tail _ hm))
        exact ⟨x :: xs, rfl⟩
    obtain ⟨xs, rfl⟩ := hxs
    have hl : xs.length = len := by simpa using hlen
    refine ⟨.view b o false cs U fr xs cap ⟨fun i x hx => ?_, by omega, by omega⟩, ?_, ?_, ?_⟩
    · have := (hr i (Cel.cs x) (by rw [List.getElem?_map, hx]; rfl)).2
      rw [hk] at this
      exact this
    · simp only [Sl.val, Sl.ptr, Sl.list, Sl.cap, hl]
    · rw [Sl.hp_view]; exact hok
    · rw [Sl.hp_view]; intro x hx; simp at hx; subst hx; rfl
theorem sl_arg {α : Type} [Cel α] {t e : TypeId} {ks : List Kd} {v : Value} {d : DataW H} {ps : List MemPlace} {b1 : Nat} (ht : P.underlying t = some (.slice e)) (hf : flatB P 20 e = some ks) (hk : ks.length = Cel.sz α) (h0 : 0 < ks.length) (hrow : ∀ row, Conf ks row → ∃ x : α, row = Cel.cs x) (T : TypeId)
    (ho : Value.okWide P w .any base t v) (h : DataW.Trod enc P w b1 spare held t v d ps) : ∃ s : Sl α, v = s.val ∧ HpOk (s.hp T) w ∧ ∀ x ∈ s.hp T, x.2.1 = false := by
  obtain ⟨p, len, c, rfl, hs⟩ := open_slice ht hf (okWide_slice ht ho) h
  exact sl_of hk h0 hrow T hs
theorem row_int {row : List Value} (h : Conf [some .i64] row) : ∃ x : Int, row = Cel.cs x := by
  obtain ⟨v, rfl⟩ := List.length_eq_one_iff.1 h.len
  obtain ⟨n, rfl, _⟩ := h.1
  exact ⟨n, rfl⟩
theorem row_byte {row : List Value} (h : Conf [some .u8] row) : ∃ x : By, row = Cel.cs x := by
  obtain ⟨v, rfl⟩ := List.length_eq_one_iff.1 h.len
  obtain ⟨n, rfl, hw⟩ := h.1
  have hn : 0 ≤ n ∧ n < 256 := by simp [Lit.wf, IntKind.min, IntKind.max, IntKind.bits, IntKind.signed] at hw; omega
  have e : (((BitVec.ofInt 8 n).toNat : Nat) : Int) = n := by
    rw [BitVec.toNat_ofInt]
    omega
  refine ⟨BitVec.ofInt 8 n, ?_⟩
  show [Value.int .u8 n] = [Value.int .u8 ((BitVec.ofInt 8 n).toNat : Int)]
  rw [e]
theorem done_of {f : FuncId} {args : List Value} {L L' : Hp} {W : World} (hL : HpOk L W) (hro : ∀ x ∈ L, x.2.1 = false) (h : Does P f args L (fun v H => v = .bool true)) :
    Calls P f args.toArray W fun e W' => e = .returned (.bool true) ∧ ∃ L L', Trk W W' L L' ∧ ∀ x ∈ L, x.2.1 = false :=
  (h W hL).mono fun e W' ⟨v, L', he, hv, ht⟩ => ⟨by rw [he, hv], L, L', ht, hro⟩
end
end Go.K
