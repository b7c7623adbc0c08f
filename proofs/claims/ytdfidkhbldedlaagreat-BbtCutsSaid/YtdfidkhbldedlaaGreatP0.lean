/- The plain laws of packing, of check sums, of mending. -/
import Derived.Test.YtdfidkhbldedlaaGreatN0
import Derived.Test.YtdfidkhbldedlaaGreatH0
namespace Go.Proofs.YtdfidkhbldedlaaGreat
open Go.K
set_option linter.unusedVariables false
set_option linter.unusedSimpArgs false

/-! ### whole numbers of so many bits -/
theorem wrap_u (k : IntKind) (hk : k.signed = false) (i : Int) : k.wrap i = ((BitVec.ofInt k.bits i).toNat : Int) := by
  have h : (2 : Int) ^ k.bits = ((2 ^ k.bits : Nat) : Int) := by push_cast; rfl
  have hp : (0 : Int) < ((2 ^ k.bits : Nat) : Int) := by exact_mod_cast Nat.two_pow_pos k.bits
  simp only [IntKind.wrap, hk, Bool.false_and, Bool.false_eq_true, if_false, BitVec.toNat_ofInt, h]
  have := Int.emod_nonneg i (Int.ne_of_gt hp)
  omega
theorem ofInt_nat {n : Nat} (x : BitVec n) : BitVec.ofInt n (x.toNat : Int) = x := by simp
theorem wrap_self (k : IntKind) (hk : k.signed = false) (x : BitVec k.bits) : k.wrap (x.toNat : Int) = x.toNat := by
  rw [wrap_u k hk, ofInt_nat]
theorem bits_u (op : BinOp) (k : IntKind) (hk : k.signed = false) (x y : BitVec k.bits) : ibits op k x.toNat y.toNat = ((match op with | .and => x &&& y | .or => x ||| y | .xor => x ^^^ y | _ => x &&& ~~~y).toNat : Int) := by
  unfold ibits
  cases op <;> simp only [ofInt_nat] <;> exact wrap_self k hk _
theorem conv_u8 {n : Nat} (x : BitVec n) : IntKind.u8.wrap (x.toNat : Int) = ((x.setWidth 8).toNat : Int) := by
  rw [wrap_u .u8 rfl]
  simp [IntKind.bits]
theorem conv_up {n : Nat} (k : IntKind) (hk : k.signed = false) (x : BitVec n) : k.wrap (x.toNat : Int) = ((x.setWidth k.bits).toNat : Int) := by
  rw [wrap_u k hk]
  simp
theorem fdiv_pow {n : Nat} (x : BitVec n) (m : Nat) : (x.toNat : Int).fdiv (2 ^ m) = ((x >>> m).toNat : Int) := by
  rw [BitVec.toNat_ushiftRight, Nat.shiftRight_eq_div_pow, Int.fdiv_eq_ediv_of_nonneg _ (by exact_mod_cast Nat.zero_le _)]
  push_cast
  rfl
/-- whole numbers below 2^62, as Go's int has them -/
theorem bits_n (op : BinOp) (x y : Nat) (hx : x < 2 ^ 62) (hy : y < 2 ^ 62) (ho : op = .and ∨ op = .or ∨ op = .xor) : ibits op .i64 x y = ((match op with | .and => x &&& y | .or => x ||| y | _ => x ^^^ y : Nat) : Int) := by
  have hw : ∀ z : Nat, z < 2 ^ 62 → IntKind.i64.wrap (z : Int) = z := fun z hz => wrap64_in (by omega)
  have hm : ∀ z : Nat, z < 2 ^ 62 → z % 2 ^ 64 = z := fun z hz => Nat.mod_eq_of_lt (by omega)
  rcases ho with rfl | rfl | rfl
  · show IntKind.i64.wrap ((BitVec.ofInt 64 (x : Int) &&& BitVec.ofInt 64 (y : Int)).toNat : Int) = _
    rw [BitVec.ofInt_natCast, BitVec.ofInt_natCast, BitVec.toNat_and, BitVec.toNat_ofNat, BitVec.toNat_ofNat, hm x hx, hm y hy]
    exact hw _ (Nat.lt_of_le_of_lt Nat.and_le_left hx)
  · show IntKind.i64.wrap ((BitVec.ofInt 64 (x : Int) ||| BitVec.ofInt 64 (y : Int)).toNat : Int) = _
    rw [BitVec.ofInt_natCast, BitVec.ofInt_natCast, BitVec.toNat_or, BitVec.toNat_ofNat, BitVec.toNat_ofNat, hm x hx, hm y hy]
    exact hw _ (Nat.or_lt_two_pow hx hy)
  · show IntKind.i64.wrap ((BitVec.ofInt 64 (x : Int) ^^^ BitVec.ofInt 64 (y : Int)).toNat : Int) = _
    rw [BitVec.ofInt_natCast, BitVec.ofInt_natCast, BitVec.toNat_xor, BitVec.toNat_ofNat, BitVec.toNat_ofNat, hm x hx, hm y hy]
    exact hw _ (Nat.xor_lt_two_pow hx hy)

theorem rd_shr8 {P : Program} {E : Env} {H : Hp} {t u : TypeId} {x y : Operand} {v : Wd} (hx : ev E x = some (.int .u64 v.toNat)) (hy : ev E y = some (.int .u64 8)) : Rd P E H (.binOp .shr t x y u) (.int .u64 ((v >>> 8).toNat)) := by
  have := rd_shr (P := P) (H := H) (t := t) (u := u) hx hy (by omega)
  rw [show (min (8 : Int).toNat IntKind.u64.bits) = 8 from rfl, fdiv_pow] at this
  exact this

theorem rd_shl64 {P : Program} {E : Env} {H : Hp} {t u : TypeId} {x y : Operand} {v : Wd} {j : Int} {k : Nat} (hx : ev E x = some (.int .u64 v.toNat)) (hy : ev E y = some (.int .i64 j)) (hj : j = (k : Int)) (hk : k < 64) : Rd P E H (.binOp .shl t x y u) (.int .u64 ((v <<< k).toNat)) := by
  subst hj
  have := rd_shl (P := P) (H := H) (t := t) (u := u) hx hy (by omega)
  have hb : IntKind.u64.bits = 64 := rfl
  rw [hb, show min ((k : Int).toNat) 64 = k by omega, wrap_u .u64 rfl] at this
  have e : (BitVec.ofInt IntKind.u64.bits ((v.toNat : Int) * 2 ^ k)) = v <<< k := by
    show BitVec.ofInt 64 ((v.toNat : Int) * 2 ^ k) = _
    apply BitVec.eq_of_toNat_eq
    rw [BitVec.toNat_ofInt, BitVec.toNat_shiftLeft, Nat.shiftLeft_eq]
    have : ((v.toNat : Int) * 2 ^ k) = ((v.toNat * 2 ^ k : Nat) : Int) := by push_cast; rfl
    rw [this]
    omega
  rw [e] at this
  exact this

def uv (x : BitVec 32) : Value := .int .u32 x.toNat
theorem compl_u8 (x : By) : ibits .xor .u8 (if IntKind.u8.signed then -1 else IntKind.u8.max) x.toNat = ((~~~x).toNat : Int) := by
  show IntKind.u8.wrap ((BitVec.ofInt 8 255 ^^^ BitVec.ofInt 8 (x.toNat : Int)).toNat : Int) = _
  rw [ofInt_nat, show BitVec.ofInt 8 255 = BitVec.allOnes 8 from by decide, BitVec.allOnes_xor]
  exact wrap_self .u8 rfl _
theorem compl_u32 (x : BitVec 32) : ibits .xor .u32 (if IntKind.u32.signed then -1 else IntKind.u32.max) x.toNat = ((~~~x).toNat : Int) := by
  show IntKind.u32.wrap ((BitVec.ofInt 32 4294967295 ^^^ BitVec.ofInt 32 (x.toNat : Int)).toNat : Int) = _
  rw [ofInt_nat, show BitVec.ofInt 32 4294967295 = BitVec.allOnes 32 from by decide, BitVec.allOnes_xor]
  exact wrap_self .u32 rfl _
theorem neg_u32 (x : BitVec 32) : IntKind.u32.wrap (0 - (x.toNat : Int)) = ((-x).toNat : Int) := by
  rw [wrap_u .u32 rfl, Int.zero_sub]
  show ((BitVec.ofInt 32 (-(x.toNat : Int))).toNat : Int) = _
  rw [BitVec.ofInt_neg, ofInt_nat]

section
variable {P : Program} {E : Env} {H : Hp} {t u : TypeId} {x y : Operand}
theorem rd_xor32 {a b : BitVec 32} (hx : ev E x = some (uv a)) (hy : ev E y = some (uv b)) : Rd P E H (.binOp .xor t x y u) (uv (a ^^^ b)) := by
  have := rd_bin (P := P) (H := H) (op := .xor) (t := t) (u := u) hx hy rfl
  have e : ibits .xor .u32 a.toNat b.toNat = ((a ^^^ b).toNat : Int) := bits_u .xor .u32 rfl a b
  rw [e] at this
  exact this
theorem rd_and32 {a b : BitVec 32} (hx : ev E x = some (uv a)) (hy : ev E y = some (uv b)) : Rd P E H (.binOp .and t x y u) (uv (a &&& b)) := by
  have := rd_bin (P := P) (H := H) (op := .and) (t := t) (u := u) hx hy rfl
  have e : ibits .and .u32 a.toNat b.toNat = ((a &&& b).toNat : Int) := bits_u .and .u32 rfl a b
  rw [e] at this
  exact this
theorem rd_shr32 {a : BitVec 32} (hx : ev E x = some (uv a)) (hy : ev E y = some (.int .i64 1)) : Rd P E H (.binOp .shr t x y u) (uv (a >>> 1)) := by
  have := rd_shr (P := P) (H := H) (t := t) (u := u) hx hy (by omega)
  rw [show (min (1 : Int).toNat IntKind.u32.bits) = 1 from rfl, fdiv_pow] at this
  exact this
theorem rd_shr32u {k : IntKind} {a : BitVec 32} (hx : ev E x = some (uv a)) (hy : ev E y = some (.int k 1)) : Rd P E H (.binOp .shr t x y u) (uv (a >>> 1)) := by
  have := rd_shr (P := P) (H := H) (t := t) (u := u) hx hy (by omega)
  rw [show (min (1 : Int).toNat IntKind.u32.bits) = 1 from rfl, fdiv_pow] at this
  exact this
theorem rd_neg32 {a : BitVec 32} (hx : ev E x = some (uv a)) : Rd P E H (.unOp .neg t x) (uv (-a)) := by
  have := rd_neg (P := P) (H := H) (t := t) hx
  rw [neg_u32] at this
  exact this
theorem rd_compl32 {a : BitVec 32} (hx : ev E x = some (uv a)) : Rd P E H (.unOp .xor t x) (uv (~~~a)) := by
  have := rd_compl (P := P) (H := H) (t := t) hx
  rwa [compl_u32] at this
theorem rd_compl8 {a : By} (hx : ev E x = some (bv a)) : Rd P E H (.unOp .xor t x) (bv (~~~a)) := by
  have := rd_compl (P := P) (H := H) (t := t) hx
  rwa [compl_u8] at this
theorem rd_sub8 {a b : By} (hx : ev E x = some (bv a)) (hy : ev E y = some (bv b)) : Rd P E H (.binOp .sub t x y u) (bv (a - b)) := by
  have := rd_bin (P := P) (H := H) (op := .sub) (t := t) (u := u) hx hy rfl
  have e : IntKind.u8.wrap ((a.toNat : Int) - b.toNat) = ((a - b).toNat : Int) := by
    rw [wrap_u .u8 rfl]
    show ((BitVec.ofInt 8 ((a.toNat : Int) - b.toNat)).toNat : Int) = _
    rw [BitVec.toNat_sub, BitVec.toNat_ofInt]
    have := a.isLt
    have := b.isLt
    omega
  rw [e] at this
  exact this
theorem rd_by32 {s : TypeId} {ds : TypeDesc} {a : By} [Und P s ds] [Und P t (.int .u32)] (hx : ev E x = some (bv a)) : Rd P E H (.convert s t x) (uv (a.setWidth 32)) := by
  have := rd_convI (P := P) (H := H) (s := s) (t := t) (k := .u32) hx
  rw [conv_up .u32 rfl a] at this
  exact this
theorem rd_by64 {s : TypeId} {ds : TypeDesc} {a : By} [Und P s ds] [Und P t (.int .u64)] (hx : ev E x = some (bv a)) : Rd P E H (.convert s t x) (wv (a.setWidth 64)) := by
  have := rd_convI (P := P) (H := H) (s := s) (t := t) (k := .u64) hx
  rw [conv_up .u64 rfl a] at this
  exact this
theorem rd_32to64 {s : TypeId} {ds : TypeDesc} {a : BitVec 32} [Und P s ds] [Und P t (.int .u64)] (hx : ev E x = some (uv a)) : Rd P E H (.convert s t x) (wv (a.setWidth 64)) := by
  have := rd_convI (P := P) (H := H) (s := s) (t := t) (k := .u64) hx
  rw [conv_up .u64 rfl a] at this
  exact this
end

/-! ### pack -/
def shrN (x : Wd) : Nat → Wd
  | 0 => x
  | i + 1 => shrN x i >>> 8
def numB (k : Nat) (x : Wd) : List By := (List.range k).map fun i => (shrN x i).setWidth 8
theorem numB_succ (k : Nat) (x : Wd) : numB (k + 1) x = numB k x ++ [(shrN x k).setWidth 8] := by
  simp [numB, List.range_succ]
theorem numB_len (k : Nat) (x : Wd) : (numB k x).length = k := by simp [numB]
def numsB (k : Nat) (xs : List Wd) : List By := xs.flatMap (numB k)
theorem numsB_take {k i : Nat} {xs : List Wd} {x : Wd} (h : xs[i]? = some x) : numsB k (xs.take (i + 1)) = numsB k (xs.take i) ++ numB k x := by
  rw [List.take_add_one, h]
  simp [numsB]
theorem numsB_len (k : Nat) (xs : List Wd) : (numsB k xs).length = xs.length * k := by
  induction xs with
  | nil => simp [numsB]
  | cons x xs ih => simp only [numsB, List.flatMap_cons, List.length_append, numB_len, List.length_cons, Nat.succ_mul] at *; omega
/-- the number that bytes make -/
def valB : List By → Wd
  | [] => 0
  | b :: l => b.setWidth 64 ||| (valB l <<< 8)
/-- the number of the bytes that were read so far, the last one first -/
def valUp (xs : List By) (i : Nat) : Wd := (List.range i).foldl (fun n j => n ||| ((xs.getD j 0).setWidth 64 <<< (8 * j))) 0
theorem valUp_succ (xs : List By) (i : Nat) : valUp xs (i + 1) = valUp xs i ||| ((xs.getD i 0).setWidth 64 <<< (8 * i)) := by
  simp [valUp, List.range_succ]

section
variable {P : Program} {E : Env} {H : Hp} {t u : TypeId} {x y : Operand} {a b : Nat}
theorem rd_xorN (hx : ev E x = some (.int .i64 (a : Nat))) (hy : ev E y = some (.int .i64 (b : Nat))) (ha : a < 2 ^ 62) (hb : b < 2 ^ 62) : Rd P E H (.binOp .xor t x y u) (.int .i64 ((a ^^^ b : Nat) : Int)) := by
  have := rd_bin (P := P) (H := H) (op := .xor) (t := t) (u := u) hx hy rfl
  rw [bits_n .xor a b ha hb (.inr (.inr rfl))] at this
  exact this
theorem rd_andN (hx : ev E x = some (.int .i64 (a : Nat))) (hy : ev E y = some (.int .i64 (b : Nat))) (ha : a < 2 ^ 62) (hb : b < 2 ^ 62) : Rd P E H (.binOp .and t x y u) (.int .i64 ((a &&& b : Nat) : Int)) := by
  have := rd_bin (P := P) (H := H) (op := .and) (t := t) (u := u) hx hy rfl
  rw [bits_n .and a b ha hb (.inl rfl)] at this
  exact this
theorem rd_andPred (hx : ev E x = some (.int .i64 (a : Nat))) (hy : ev E y = some (.int .i64 ((a : Int) - 1))) (ha : a < 4096) : Rd P E H (.binOp .and t x y u) (.int .i64 ((a &&& (a - 1) : Nat) : Int)) := by
  have := rd_bin (P := P) (H := H) (op := .and) (t := t) (u := u) hx hy rfl
  rw [and_pred a ha] at this
  exact this
theorem rd_addN (hx : ev E x = some (.int .i64 (a : Nat))) (hy : ev E y = some (.int .i64 (b : Nat))) (ha : a + b < 2 ^ 62) : Rd P E H (.binOp .add t x y u) (.int .i64 ((a + b : Nat) : Int)) := by
  have := rd_add64 (P := P) (H := H) (t := t) (u := u) hx hy (by omega)
  rw [← Int.natCast_add] at this
  exact this
theorem rd_orN (hx : ev E x = some (.int .i64 (a : Nat))) (hy : ev E y = some (.int .i64 (b : Nat))) (ha : a < 2 ^ 62) (hb : b < 2 ^ 62) : Rd P E H (.binOp .or t x y u) (.int .i64 ((a ||| b : Nat) : Int)) := by
  have := rd_bin (P := P) (H := H) (op := .or) (t := t) (u := u) hx hy rfl
  rw [bits_n .or a b ha hb (.inr (.inl rfl))] at this
  exact this
theorem and16 {n m : Nat} (hn : n < 65536) (hm : m < 65536) : ibits .and .u16 n m = ((n &&& m : Nat) : Int) := by
  show IntKind.u16.wrap ((BitVec.ofInt 16 (n : Int) &&& BitVec.ofInt 16 (m : Int)).toNat : Int) = _
  rw [BitVec.ofInt_natCast, BitVec.ofInt_natCast, BitVec.toNat_and, BitVec.toNat_ofNat, BitVec.toNat_ofNat, Nat.mod_eq_of_lt (show n < 2 ^ 16 from hn), Nat.mod_eq_of_lt (show m < 2 ^ 16 from hm)]
  have : n &&& m ≤ n := Nat.and_le_left
  have h2 : (2 : Int) ^ IntKind.u16.bits = 65536 := rfl
  simp only [IntKind.wrap, h2, show IntKind.u16.signed = false from rfl, Bool.false_and, Bool.false_eq_true, if_false]
  omega
theorem rd_and16 (hx : ev E x = some (.int .u16 (a : Nat))) (hy : ev E y = some (.int .u16 (b : Nat))) (ha : a < 65536) (hb : b < 65536) : Rd P E H (.binOp .and t x y u) (.int .u16 ((a &&& b : Nat) : Int)) := by
  have := rd_bin (P := P) (H := H) (op := .and) (t := t) (u := u) hx hy rfl
  rw [and16 ha hb] at this
  exact this
theorem rd_shrN {k k' : IntKind} {j : Int} {m : Nat} (hx : ev E x = some (.int k (a : Nat))) (hy : ev E y = some (.int k' j)) (hj : j = (m : Int)) (hm : m ≤ k.bits) : Rd P E H (.binOp .shr t x y u) (.int k ((a / 2 ^ m : Nat) : Int)) := by
  subst hj
  have := rd_shr (P := P) (H := H) (t := t) (u := u) hx hy (by omega)
  rw [show min ((m : Int).toNat) k.bits = m by omega, Int.fdiv_eq_ediv_of_nonneg _ (by exact_mod_cast Nat.zero_le _)] at this
  push_cast at this ⊢
  exact this
theorem rd_shlN {k' : IntKind} {j : Int} {m : Nat} (hx : ev E x = some (.int .i64 (a : Nat))) (hy : ev E y = some (.int k' j)) (hj : j = (m : Int)) (hm : m ≤ 62) (hb : a * 2 ^ m < 2 ^ 63) : Rd P E H (.binOp .shl t x y u) (.int .i64 ((a * 2 ^ m : Nat) : Int)) := by
  subst hj
  have := rd_shl (P := P) (H := H) (t := t) (u := u) hx hy (by omega)
  rw [show min ((m : Int).toNat) IntKind.i64.bits = m from by (have : IntKind.i64.bits = 64 := rfl); omega] at this
  have e : (a : Int) * 2 ^ m = ((a * 2 ^ m : Nat) : Int) := by push_cast; rfl
  rw [e, wrap64_in (by omega)] at this
  exact this
end
theorem rd_bit8 {P : Program} {E : Env} {H : Hp} {t u : TypeId} {x y : Operand} {k : Nat} (hx : ev E x = some (.int .u8 1)) (hy : ev E y = some (.int .i64 (k : Nat))) (hk : k < 8) : Rd P E H (.binOp .shl t x y u) (bv (1#8 <<< k)) := by
  have := rd_shl (P := P) (H := H) (t := t) (u := u) hx hy (by omega)
  rw [bit8 k hk] at this
  exact this
theorem rd_convN {P : Program} {E : Env} {H : Hp} {s t : TypeId} {x : Operand} {ds : TypeDesc} {k k' : IntKind} {a : Nat} [hs : Und P s ds] [ht : Und P t (.int k)] (hx : ev E x = some (.int k' (a : Nat))) (h : k.wrap (a : Int) = a) : Rd P E H (.convert s t x) (.int k (a : Nat)) := by
  have := rd_convI (P := P) (H := H) (s := s) (t := t) (k := k) hx
  rwa [h] at this
theorem rd_via {P : Program} {E : Env} {H : Hp} {s t : TypeId} {x : Operand} {ds : TypeDesc} {k k' : IntKind} {a r : Int} [hs : Und P s ds] [ht : Und P t (.int k)] (h : k.wrap a = r) (hx : ev E x = some (.int k' a)) : Rd P E H (.convert s t x) (.int k r) := by
  have := rd_convI (P := P) (H := H) (s := s) (t := t) (k := k) hx
  rwa [h] at this
theorem wrapN_u (k : IntKind) (hk : k.signed = false) {a : Nat} (h : a < 2 ^ k.bits) : k.wrap (a : Int) = a := by
  rw [wrap_u k hk, BitVec.ofInt_natCast, BitVec.toNat_ofNat, Nat.mod_eq_of_lt h]
theorem wrapN_i {a : Nat} (h : a < 2 ^ 63) : IntKind.i64.wrap (a : Int) = a := wrap64_in (by omega)

/-- A number, or bytes, read of what is left; too few: nothing is left, and it is noted. -/
def rdNum (k : Nat) (l : List By) (bad : Bool) : Wd × List By × Bool := if l.length < k then (0, [], true) else (valUp (l.take k) k, l.drop k, bad)
def rdBytes (k : Nat) (l : List By) (bad : Bool) : List By × List By × Bool := if l.length < k then ([], [], true) else (l.take k, l.drop k, bad)
theorem rdNum_le (k : Nat) (l : List By) (bad : Bool) : (rdNum k l bad).2.1.length ≤ l.length := by unfold rdNum; split <;> simp
theorem rdBytes_le (k : Nat) (l : List By) (bad : Bool) : (rdBytes k l bad).2.1.length ≤ l.length ∧ (rdBytes k l bad).1.length ≤ l.length := by unfold rdBytes; split <;> simp <;> omega

theorem rdN_len {k m : Nat} {l l' : List By} {bad : Bool} (h : l' = (rdNum k l bad).2.1) (hl : l.length ≤ m) : l'.length ≤ m := by rw [h]; have := rdNum_le k l bad; omega
theorem rdB_len {k m : Nat} {l l' : List By} {bad : Bool} (h : l' = (rdBytes k l bad).2.1) (hl : l.length ≤ m) : l'.length ≤ m := by rw [h]; have := rdBytes_le k l bad; omega
theorem rdB_len1 {k m : Nat} {l l' : List By} {bad : Bool} (h : l' = (rdBytes k l bad).1) (hl : l.length ≤ m) : l'.length ≤ m := by rw [h]; have := rdBytes_le k l bad; omega

/-! ### crc -/
def polyV : BitVec 32 := 0xedb88320
def crc1 (c : BitVec 32) : BitVec 32 := (c >>> 1) ^^^ (polyV &&& (-(c &&& 1)))
def crcK (c : BitVec 32) : Nat → BitVec 32
  | 0 => c
  | k + 1 => crc1 (crcK c k)
def crcB (c : BitVec 32) (b : By) : BitVec 32 := crcK (c ^^^ b.setWidth 32) 8
def crcL (c : BitVec 32) (xs : List By) : BitVec 32 := xs.foldl crcB c
def crcOn (s : BitVec 32) (ps : List (List By)) : BitVec 32 := ~~~ (ps.foldl crcL (~~~ s))
theorem crcL_take {c : BitVec 32} {xs : List By} {i : Nat} {b : By} (h : xs[i]? = some b) : crcL c (xs.take (i + 1)) = crcB (crcL c (xs.take i)) b := by
  rw [List.take_add_one, h]
  simp [crcL]
def joinB (ps : List (Sl By)) : List By := ps.flatMap (·.list)
theorem joinB_take {ps : List (Sl By)} {i : Nat} {s : Sl By} (h : ps[i]? = some s) : joinB (ps.take (i + 1)) = joinB (ps.take i) ++ s.list := by
  rw [List.take_add_one, h]; simp [joinB]
theorem joinB_le (ps : List (Sl By)) (i : Nat) : (joinB (ps.take i)).length ≤ (joinB ps).length := by
  have : joinB ps = joinB (ps.take i) ++ joinB (ps.drop i) := by simp only [joinB]; rw [← List.flatMap_append, List.take_append_drop]
  rw [this, List.length_append]; omega
/-- a buffer of which the first bytes are written -/
def bufC (cs : List Value) (xs : List By) : List Value := cells xs ++ cs.drop xs.length
theorem buf_step {cs : List Value} {xs ys : List By} {o : Nat} (h : xs.length + ys.length ≤ cs.length) (ho : ys = [] ∧ o = 0 ∨ o = xs.length) : splice (bufC cs xs) o (cells ys) = some (bufC cs (xs ++ ys)) := by
  have hl : (cells xs).length = xs.length := by rw [cells_len]; simp [Cel.sz]
  have hl2 : (cells ys).length = ys.length := by rw [cells_len]; simp [Cel.sz]
  rcases ho with ⟨rfl, rfl⟩ | rfl
  · refine splice_of ?_ (by simp)
    simp [bufC, cells]
  · refine splice_of ?_ (by simp only [bufC, List.length_append, List.length_drop, hl, hl2]; omega)
    simp only [bufC, cells, List.flatMap_append, List.append_assoc]
    have h1 : List.take xs.length (List.flatMap Cel.cs xs ++ List.drop xs.length cs) = cells xs := by rw [List.take_append_of_le_length (by rw [← hl]; exact Nat.le_refl _), ← hl, List.take_length]
    have h2 : List.drop (xs.length + (List.flatMap Cel.cs ys).length) (List.flatMap Cel.cs xs ++ List.drop xs.length cs) = List.drop (xs.length + ys.length) cs := by
      rw [show (List.flatMap Cel.cs ys).length = ys.length from hl2, List.drop_append, show (List.flatMap Cel.cs xs).length = xs.length from hl, List.drop_eq_nil_of_le (by rw [show (List.flatMap Cel.cs xs).length = xs.length from hl]; omega), List.nil_append, List.drop_drop]
      congr 1; omega
    rw [h1, h2, List.length_append]
theorem foldl_take {α β : Type} {f : β → α → β} {c : β} {xs : List α} {i : Nat} {b : α} (h : xs[i]? = some b) : (xs.take (i + 1)).foldl f c = f ((xs.take i).foldl f c) b := by
  rw [List.take_add_one, h]
  simp

/-! ### ham -/
abbrev Dat := Vector By 256
/-- the lines, and the parity, of the first bytes -/
def lineU (d : Dat) (i : Nat) : Nat := (List.range i).foldl (fun s j => foldB j (bitsOf (d.toList.getD j 0)) s) 0
def oddU (d : Dat) (i : Nat) : Nat := (List.range i).foldl (fun s j => s ^^^ (pop8 (d.toList.getD j 0) % 2)) 0
theorem lineU_succ (d : Dat) (i : Nat) : lineU d (i + 1) = foldB i (bitsOf (d.toList.getD i 0)) (lineU d i) := by simp [lineU, List.range_succ]
theorem oddU_succ (d : Dat) (i : Nat) : oddU d (i + 1) = oddU d i ^^^ (pop8 (d.toList.getD i 0) % 2) := by simp [oddU, List.range_succ]
def lineN (d : Dat) : Nat := lineU d 256
def oddN (d : Dat) : Nat := oddU d 256
theorem xor_lt {a b : Nat} (ha : a < 4096) (hb : b < 4096) : a ^^^ b < 4096 := Nat.xor_lt_two_pow (n := 12) ha hb
theorem foldB_lt {i : Nat} (hi : i < 256) : ∀ (l : List Nat) (s : Nat), (∀ k ∈ l, k < 8) → s < 4096 → foldB i l s < 4096 := by
  intro l
  induction l with
  | nil => intro s _ hs; exact hs
  | cons k l ih =>
    intro s hl hs
    simp only [foldB, List.foldl_cons]
    exact ih _ (fun k hk => hl k (.tail _ hk)) (xor_lt hs (place_lt _ (by have := hl k (.head _); omega)))
theorem bitsOf_lt (b : By) : ∀ k ∈ bitsOf b, k < 8 := fun k hk => by
  simp only [bitsOf, List.mem_filter, List.mem_range] at hk
  exact hk.1
theorem lineU_lt (d : Dat) : ∀ i, i ≤ 256 → lineU d i < 4096 := by
  intro i
  induction i with
  | zero => intro _; simp [lineU]
  | succ i ih => intro h; rw [lineU_succ]; exact foldB_lt (by omega) _ _ (bitsOf_lt _) (ih (by omega))
theorem oddU_lt (d : Dat) : ∀ i, oddU d i < 2 := by
  intro i
  induction i with
  | zero => simp [oddU]
  | succ i ih => rw [oddU_succ]; exact Nat.xor_lt_two_pow (n := 1) ih (by omega)
def checkN (d : Dat) : Nat := if (oddN d + popN (lineN d)) % 2 = 0 then lineN d else lineN d ||| 4096
theorem checkN_lt (d : Dat) : checkN d < 8192 := by
  have h := lineU_lt d 256 (Nat.le_refl _)
  unfold checkN lineN
  split
  · omega
  · exact Nat.or_lt_two_pow (n := 13) (by omega) (by omega)
/-- a bit of the data turned -/
def flipD (d : Dat) (i : Nat) : Dat := if h : i / 8 < 256 then d.set (i / 8) (d[i / 8] ^^^ (1#8 <<< (i % 8))) else d
def zeroD : Dat := Vector.replicate 256 0#8
theorem zeroD_eq : List.replicate 256 (Value.int .u8 0) = vbc zeroD := by kernel_rfl
def isPow (n : Nat) : Bool := n &&& (n - 1) == 0
/-- The data mended; how many bits were; or an error. -/
def hamFix (d : Dat) (chk : Nat) : Dat × Int × Int :=
  let s := lineN d ^^^ (chk &&& 4095)
  let odd := (oddN d + popN (chk &&& 8191)) % 2
  if s = 0 ∧ odd = 0 then (d, 0, 0) else if odd = 0 then (zeroD, 0, 21) else if s &&& (s - 1) = 0 then (d, 1, 0)
  else if 2048 ≤ (s : Int) - 1 - lenN s then (zeroD, 0, 21) else (flipD d (s - 1 - lenN s), 1, 0)
end Go.Proofs.YtdfidkhbldedlaaGreat
