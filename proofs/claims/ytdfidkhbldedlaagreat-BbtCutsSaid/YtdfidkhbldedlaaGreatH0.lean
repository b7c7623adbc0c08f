/- Plain laws that are found by trying all. -/
import Derived.Test.YtdfidkhbldedlaaGreatB0
namespace Go.Proofs.YtdfidkhbldedlaaGreat
open Go.K
set_option linter.unusedVariables false
set_option linter.unusedSimpArgs false

def placeGo : Nat → Nat → Nat → Nat
  | 0, p, _ => p
  | f + 1, p, s => if s ≤ p then placeGo f (p + 1) (s * 2) else p
def placeN (i : Nat) : Nat := placeGo 13 (i + 1) 1
/-- the bits that are set, the lowest first -/
def bitsOf (b : By) : List Nat := (List.range 8).filter fun k => b.getLsbD k
theorem bits_step : ∀ b : By, b ≠ 0 → bitsOf b = ntz8 b :: bitsOf (b &&& (b - 1)) ∧ ntz8 b < 8 := all8 (by decide +kernel)
theorem bits_zero : bitsOf 0 = [] := by decide +kernel
theorem bits_drop : ∀ b : By, b ≠ 0 → (b &&& (b - 1)).toNat < b.toNat := all8 (by decide +kernel)
def foldB (i : Nat) (l : List Nat) (s : Nat) : Nat := l.foldl (fun s k => s ^^^ placeN (8 * i + k)) s
/-- how many bits of 16 are set -/
def popN (n : Nat) : Nat := pop8 (BitVec.ofNat 8 (n / 256)) + pop8 (BitVec.ofNat 8 (n % 256))
theorem pop8_le : ∀ x : By, pop8 x ≤ 8 := all8 (by decide +kernel)
theorem pop8_u8 : ∀ x : By, (UInt8.ofNat (pop8 x)).toNat = pop8 x := all8 (by decide +kernel)
def lenN (x : Nat) : Nat := ((List.range 17).find? fun i => decide (x < 2 ^ i)).getD 17
/-- Go's count of the bits of 64, for small numbers -/
def swar (x : Int) : Int :=
  let a := IntKind.u64.wrap (ibits .and .u64 (x.fdiv (2 ^ (min (1 : Int).toNat IntKind.u64.bits))) 6148914691236517205 + ibits .and .u64 x 6148914691236517205)
  let b := IntKind.u64.wrap (ibits .and .u64 (a.fdiv (2 ^ (min (2 : Int).toNat IntKind.u64.bits))) 3689348814741910323 + ibits .and .u64 a 3689348814741910323)
  let c := ibits .and .u64 (IntKind.u64.wrap (b.fdiv (2 ^ (min (4 : Int).toNat IntKind.u64.bits)) + b)) 1085102592571150095
  let d := IntKind.u64.wrap (c + c.fdiv (2 ^ (min (8 : Int).toNat IntKind.u64.bits)))
  let e := IntKind.u64.wrap (d + d.fdiv (2 ^ (min (16 : Int).toNat IntKind.u64.bits)))
  let f := IntKind.u64.wrap (e + e.fdiv (2 ^ (min (32 : Int).toNat IntKind.u64.bits)))
  ibits .and .i64 (IntKind.i64.wrap f) 127
theorem all12 {p : Nat → Prop} (h : ∀ a < 64, ∀ b < 64, p (64 * a + b)) : ∀ s < 4096, p s := fun s hs => by
  have := h (s / 64) (by omega) (s % 64) (by omega)
  rwa [Nat.div_add_mod] at this
theorem swar_ok : ∀ s < 4096, swar (s : Nat) = (popN s : Nat) := all12 (by decide +kernel)
theorem len_lo : ∀ s < 256, len8 (BitVec.ofNat 8 s) = lenN s := by decide +kernel
theorem len_hi : ∀ s < 4096, 256 ≤ s → 8 + len8 (BitVec.ofNat 8 (s / 256)) = lenN s := all12 (by decide +kernel)
theorem place_lt : ∀ i < 2048, placeN i < 4096 := by decide +kernel
theorem and_pred : ∀ s < 4096, ibits .and .i64 (s : Nat) ((s : Nat) - 1) = ((s &&& (s - 1) : Nat) : Int) := all12 (by decide +kernel)
theorem notpow : ∀ s < 4096, ¬ s &&& (s - 1) = 0 → lenN s + 1 ≤ s := all12 (by decide +kernel)
theorem bit8 : ∀ k < 8, IntKind.u8.wrap (1 * 2 ^ (min ((k : Nat) : Int).toNat IntKind.u8.bits)) = ((1#8 <<< k).toNat : Int) := by decide +kernel
theorem len8_le : ∀ x : By, len8 x ≤ 8 := all8 (by decide +kernel)
theorem popN_le (n : Nat) : popN n ≤ 16 := by
  have := pop8_le (BitVec.ofNat 8 (n / 256))
  have := pop8_le (BitVec.ofNat 8 (n % 256))
  unfold popN; omega
end Go.Proofs.YtdfidkhbldedlaaGreat
