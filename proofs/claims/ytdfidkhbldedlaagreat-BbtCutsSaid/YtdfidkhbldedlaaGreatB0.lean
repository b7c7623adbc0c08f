/- The plain laws of bytes. -/
import Derived.Test.YtdfidkhbldedlaaGreatK15
namespace Go.Proofs.YtdfidkhbldedlaaGreat
open Go.K
set_option linter.unusedVariables false
set_option linter.unusedSimpArgs false

abbrev w64 (x : Int) : Int := IntKind.i64.wrap x
theorem all8 {p : By → Prop} [DecidablePred p] (h : ∀ i < 256, p (BitVec.ofNat 8 i)) : ∀ x, p x := fun x => by
  have := h x.toNat x.isLt
  simpa using this
/-- how many bits are set -/
def pop8 (x : By) : Nat := (List.range 8).countP fun i => x.getLsbD i
/-- the lowest bit that is set -/
def ntz8 (x : By) : Nat := ((List.range 8).find? fun i => x.getLsbD i).getD 8
def len8 (x : By) : Nat := 8 - ((List.range 8).find? fun i => x.getLsbD (7 - i)).getD 8
def popT : ByteArray := ⟨#[0, 1, 1, 2, 1, 2, 2, 3, 1, 2, 2, 3, 2, 3, 3, 4, 1, 2, 2, 3, 2, 3, 3, 4, 2, 3, 3, 4, 3, 4, 4, 5, 1, 2, 2, 3, 2, 3, 3, 4, 2, 3, 3, 4, 3, 4, 4, 5, 2, 3, 3, 4, 3, 4, 4, 5, 3, 4, 4, 5, 4, 5, 5, 6, 1, 2, 2, 3, 2, 3, 3, 4, 2, 3, 3, 4, 3, 4, 4, 5, 2, 3, 3, 4, 3, 4, 4, 5, 3, 4, 4, 5, 4, 5, 5, 6, 2, 3, 3, 4, 3, 4, 4, 5, 3, 4, 4, 5, 4, 5, 5, 6, 3, 4, 4, 5, 4, 5, 5, 6, 4, 5, 5, 6, 5, 6, 6, 7, 1, 2, 2, 3, 2, 3, 3, 4, 2, 3, 3, 4, 3, 4, 4, 5, 2, 3, 3, 4, 3, 4, 4, 5, 3, 4, 4, 5, 4, 5, 5, 6, 2, 3, 3, 4, 3, 4, 4, 5, 3, 4, 4, 5, 4, 5, 5, 6, 3, 4, 4, 5, 4, 5, 5, 6, 4, 5, 5, 6, 5, 6, 6, 7, 2, 3, 3, 4, 3, 4, 4, 5, 3, 4, 4, 5, 4, 5, 5, 6, 3, 4, 4, 5, 4, 5, 5, 6, 4, 5, 5, 6, 5, 6, 6, 7, 3, 4, 4, 5, 4, 5, 5, 6, 4, 5, 5, 6, 5, 6, 6, 7, 4, 5, 5, 6, 5, 6, 6, 7, 5, 6, 6, 7, 6, 7, 7, 8]⟩
def ntzT : ByteArray := ⟨#[8, 0, 1, 0, 2, 0, 1, 0, 3, 0, 1, 0, 2, 0, 1, 0, 4, 0, 1, 0, 2, 0, 1, 0, 3, 0, 1, 0, 2, 0, 1, 0, 5, 0, 1, 0, 2, 0, 1, 0, 3, 0, 1, 0, 2, 0, 1, 0, 4, 0, 1, 0, 2, 0, 1, 0, 3, 0, 1, 0, 2, 0, 1, 0, 6, 0, 1, 0, 2, 0, 1, 0, 3, 0, 1, 0, 2, 0, 1, 0, 4, 0, 1, 0, 2, 0, 1, 0, 3, 0, 1, 0, 2, 0, 1, 0, 5, 0, 1, 0, 2, 0, 1, 0, 3, 0, 1, 0, 2, 0, 1, 0, 4, 0, 1, 0, 2, 0, 1, 0, 3, 0, 1, 0, 2, 0, 1, 0, 7, 0, 1, 0, 2, 0, 1, 0, 3, 0, 1, 0, 2, 0, 1, 0, 4, 0, 1, 0, 2, 0, 1, 0, 3, 0, 1, 0, 2, 0, 1, 0, 5, 0, 1, 0, 2, 0, 1, 0, 3, 0, 1, 0, 2, 0, 1, 0, 4, 0, 1, 0, 2, 0, 1, 0, 3, 0, 1, 0, 2, 0, 1, 0, 6, 0, 1, 0, 2, 0, 1, 0, 3, 0, 1, 0, 2, 0, 1, 0, 4, 0, 1, 0, 2, 0, 1, 0, 3, 0, 1, 0, 2, 0, 1, 0, 5, 0, 1, 0, 2, 0, 1, 0, 3, 0, 1, 0, 2, 0, 1, 0, 4, 0, 1, 0, 2, 0, 1, 0, 3, 0, 1, 0, 2, 0, 1, 0]⟩
def lenT : ByteArray := ⟨#[0, 1, 2, 2, 3, 3, 3, 3, 4, 4, 4, 4, 4, 4, 4, 4, 5, 5, 5, 5, 5, 5, 5, 5, 5, 5, 5, 5, 5, 5, 5, 5, 6, 6, 6, 6, 6, 6, 6, 6, 6, 6, 6, 6, 6, 6, 6, 6, 6, 6, 6, 6, 6, 6, 6, 6, 6, 6, 6, 6, 6, 6, 6, 6, 7, 7, 7, 7, 7, 7, 7, 7, 7, 7, 7, 7, 7, 7, 7, 7, 7, 7, 7, 7, 7, 7, 7, 7, 7, 7, 7, 7, 7, 7, 7, 7, 7, 7, 7, 7, 7, 7, 7, 7, 7, 7, 7, 7, 7, 7, 7, 7, 7, 7, 7, 7, 7, 7, 7, 7, 7, 7, 7, 7, 7, 7, 7, 7, 8, 8, 8, 8, 8, 8, 8, 8, 8, 8, 8, 8, 8, 8, 8, 8, 8, 8, 8, 8, 8, 8, 8, 8, 8, 8, 8, 8, 8, 8, 8, 8, 8, 8, 8, 8, 8, 8, 8, 8, 8, 8, 8, 8, 8, 8, 8, 8, 8, 8, 8, 8, 8, 8, 8, 8, 8, 8, 8, 8, 8, 8, 8, 8, 8, 8, 8, 8, 8, 8, 8, 8, 8, 8, 8, 8, 8, 8, 8, 8, 8, 8, 8, 8, 8, 8, 8, 8, 8, 8, 8, 8, 8, 8, 8, 8, 8, 8, 8, 8, 8, 8, 8, 8, 8, 8, 8, 8, 8, 8, 8, 8, 8, 8, 8, 8, 8, 8, 8, 8, 8, 8, 8, 8, 8, 8, 8, 8]⟩
theorem pop_tab : ∀ x : By, popT[((x.toNat : Int)).toNat]? = some (UInt8.ofNat (pop8 x)) := all8 (by decide +kernel)
theorem ntz_tab : ∀ x : By, ntzT[((x.toNat : Int)).toNat]? = some (UInt8.ofNat (ntz8 x)) := all8 (by decide +kernel)
theorem len_tab : ∀ x : By, lenT[((x.toNat : Int)).toNat]? = some (UInt8.ofNat (len8 x)) := all8 (by decide +kernel)
theorem pop_i64 : ∀ x : By, IntKind.i64.wrap ((UInt8.ofNat (pop8 x)).toNat : Int) = pop8 x := all8 (by decide +kernel)
theorem ntz_i64 : ∀ x : By, IntKind.i64.wrap ((UInt8.ofNat (ntz8 x)).toNat : Int) = ntz8 x := all8 (by decide +kernel)
theorem len_i64 : ∀ x : By, IntKind.i64.wrap ((UInt8.ofNat (len8 x)).toNat : Int) = len8 x := all8 (by decide +kernel)

theorem wrap_u8 (x : By) : IntKind.u8.wrap (x.toNat : Int) = x.toNat := by
  have := x.isLt
  simp [IntKind.wrap, IntKind.signed, IntKind.bits]; omega
theorem ofInt_by (x : By) : BitVec.ofInt 8 (x.toNat : Int) = x := by simp
theorem and_by (x y : By) : ibits .and .u8 x.toNat y.toNat = ((x &&& y).toNat : Int) := by
  show IntKind.u8.wrap (((BitVec.ofInt 8 (x.toNat : Int)) &&& (BitVec.ofInt 8 (y.toNat : Int))).toNat : Int) = _
  rw [ofInt_by, ofInt_by, wrap_u8]
theorem xor_by (x y : By) : ibits .xor .u8 x.toNat y.toNat = ((x ^^^ y).toNat : Int) := by
  show IntKind.u8.wrap (((BitVec.ofInt 8 (x.toNat : Int)) ^^^ (BitVec.ofInt 8 (y.toNat : Int))).toNat : Int) = _
  rw [ofInt_by, ofInt_by, wrap_u8]
theorem or_by (x y : By) : ibits .or .u8 x.toNat y.toNat = ((x ||| y).toNat : Int) := by
  show IntKind.u8.wrap (((BitVec.ofInt 8 (x.toNat : Int)) ||| (BitVec.ofInt 8 (y.toNat : Int))).toNat : Int) = _
  rw [ofInt_by, ofInt_by, wrap_u8]
def at0 (xs : List Int) (i : Int) : Int := xs.getD i.toNat 0
/-- the place of a number, or -1 -/
def idx (xs : List Int) (v : Int) : Int := match xs.findIdx? (· == v) with | some k => k | none => -1
theorem idx_at {xs : List Int} {v : Int} (i : Int) (h0 : 0 ≤ i) (h1 : i < xs.length) (hn : ∀ k : Int, 0 ≤ k → k < i → at0 xs k ≠ v) (he : at0 xs i = v) : idx xs v = i := by
  have : xs.findIdx? (· == v) = some i.toNat := by
    rw [List.findIdx?_eq_some_iff_getElem]
    refine ⟨by omega, ?_, ?_⟩
    · simpa [at0, List.getD_eq_getElem?_getD, show i.toNat < xs.length by omega] using he
    · intro j hj
      have := hn j (by omega) (by omega)
      simpa [at0, List.getD_eq_getElem?_getD, show j < xs.length by omega] using this
  simp [idx, this]; omega
theorem idx_none {xs : List Int} {v : Int} (hn : ∀ k : Int, 0 ≤ k → k < xs.length → at0 xs k ≠ v) : idx xs v = -1 := by
  have : xs.findIdx? (· == v) = none := by
    rw [List.findIdx?_eq_none_iff]
    intro x hx
    obtain ⟨k, hk, rfl⟩ := List.getElem_of_mem hx
    have := hn k (by omega) (by omega)
    simpa [at0, List.getD_eq_getElem?_getD, hk] using this
  simp [idx, this]
theorem step_all {p : Int → Prop} {i : Int} (h : ∀ k : Int, 0 ≤ k → k < i → p k) (hi : p i) : ∀ k : Int, 0 ≤ k → k < i + 1 → p k := by
  intro k h0 h1
  by_cases hk : k < i
  · exact h k h0 hk
  · have : k = i := by omega
    rw [this]; exact hi
def hasI (xs : List Int) (v : Int) : Bool := decide (0 ≤ idx xs v)
theorem at0_get {xs : List Int} {i : Int} (h0 : 0 ≤ i) (h1 : i < xs.length) : xs[i.toNat]? = some (at0 xs i) := by
  have : i.toNat < xs.length := by omega
  simp [at0, List.getD_eq_getElem?_getD, this]
end Go.Proofs.YtdfidkhbldedlaaGreat
