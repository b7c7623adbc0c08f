/- The plain laws of records in pages: what was written is read; one turned bit is mended; a torn page is none. -/
import Derived.Test.YtdfidkhbldedlaaGreatF0
namespace Go.Proofs.YtdfidkhbldedlaaGreat
open Go.K
set_option linter.unusedVariables false
set_option linter.unusedSimpArgs false

/-! sums without carry -/
def XS (f : Nat → Nat) (n : Nat) : Nat := (List.range n).foldl (fun s j => s ^^^ f j) 0
theorem xs_succ (f : Nat → Nat) (n : Nat) : XS f (n + 1) = XS f n ^^^ f n := by simp [XS, List.range_succ]
theorem xs_same {f g : Nat → Nat} : ∀ {n : Nat}, (∀ j < n, g j = f j) → XS g n = XS f n
  | 0, _ => rfl
  | n + 1, h => by rw [xs_succ, xs_succ, xs_same (n := n) (fun j hj => h j (by omega)), h n (by omega)]
theorem xs_flip {f g : Nat → Nat} {d k : Nat} : ∀ {n : Nat}, k < n → (∀ j < n, j ≠ k → g j = f j) → g k = f k ^^^ d → XS g n = XS f n ^^^ d
  | 0, h, _, _ => by omega
  | n + 1, h, h1, h2 => by
    rw [xs_succ, xs_succ]
    by_cases e : k = n
    · subst e
      rw [xs_same (n := k) (fun j hj => h1 j (by omega) (by omega)), h2, Nat.xor_assoc]
    · rw [xs_flip (n := n) (by omega) (fun j hj hne => h1 j (by omega) hne) h2, h1 n (by omega) (fun e' => e e'.symm)]
      rw [Nat.xor_assoc, Nat.xor_assoc, Nat.xor_comm d]
theorem xs_if (p : Nat → Bool) (g : Nat → Nat) (s : Nat) : ∀ n, (List.range n).foldl (fun s k => if p k = true then s ^^^ g k else s) s = s ^^^ XS (fun k => if p k = true then g k else 0) n
  | 0 => by simp [XS]
  | n + 1 => by
    rw [List.range_succ, List.foldl_append, xs_if p g s n, xs_succ]
    simp only [List.foldl_cons, List.foldl_nil]
    split
    · rw [Nat.xor_assoc]
    · simp
def XB (j : Nat) (b : By) : Nat := XS (fun k => if b.getLsbD k = true then placeN (8 * j + k) else 0) 8
theorem foldB_xs (j : Nat) (b : By) (s : Nat) : foldB j (bitsOf b) s = s ^^^ XB j b := by
  unfold foldB bitsOf
  rw [List.foldl_filter]
  exact xs_if (fun k => b.getLsbD k) (fun k => placeN (8 * j + k)) s 8
theorem lineU_xs (d : Dat) : ∀ i, lineU d i = XS (fun j => XB j (d.toList.getD j 0)) i
  | 0 => rfl
  | i + 1 => by rw [lineU_succ, xs_succ, foldB_xs, lineU_xs d i]
theorem one_bit : ∀ k < 8, ∀ j < 8, (1#8 <<< k).getLsbD j = decide (j = k) := by decide
theorem XB_flip {j k : Nat} (b : By) (hk : k < 8) : XB j (b ^^^ (1#8 <<< k)) = XB j b ^^^ placeN (8 * j + k) := by
  unfold XB
  refine xs_flip (k := k) hk (fun i hi hne => ?_) ?_
  · rw [BitVec.getLsbD_xor, one_bit k hk i hi]
    simp [hne]
  · rw [BitVec.getLsbD_xor, one_bit k hk k hk]
    cases b.getLsbD k <;> simp
theorem getD_at {n : Nat} (v : Vector By n) {j : Nat} (h : j < n) : v.toList.getD j 0 = v[j] := by simp [List.getD_eq_getElem?_getD, h]
theorem flipD_at (d : Dat) {i j : Nat} (hi : i < 2048) (h : j < 256) : (flipD d i)[j] = if i / 8 = j then d[j] ^^^ (1#8 <<< (i % 8)) else d[j] := by
  unfold flipD
  rw [dif_pos (show i / 8 < 256 by omega), Vector.getElem_set]
  split
  · rename_i e; subst e; rfl
  · rfl
theorem flipD_twice (d : Dat) {i : Nat} (hi : i < 2048) : flipD (flipD d i) i = d := by
  apply Vector.ext
  intro j hj
  rw [flipD_at _ hi hj, flipD_at _ hi hj]
  split
  · rw [BitVec.xor_assoc, BitVec.xor_self, BitVec.xor_zero]
  · rfl
theorem line_flip (d : Dat) {i : Nat} (hi : i < 2048) : lineN (flipD d i) = lineN d ^^^ placeN i := by
  unfold lineN
  rw [lineU_xs, lineU_xs]
  refine xs_flip (k := i / 8) (by omega) (fun j hj hne => ?_) ?_
  · rw [getD_at _ hj, getD_at _ hj, flipD_at d hi hj, if_neg (fun e => hne e.symm)]
  · rw [getD_at _ (show i / 8 < 256 by omega), getD_at _ (show i / 8 < 256 by omega), flipD_at d hi (by omega), if_pos rfl, XB_flip _ (by omega)]
    congr 2
    omega
theorem pop_flip : ∀ b : By, ∀ k < 8, pop8 (b ^^^ (1#8 <<< k)) % 2 = (pop8 b % 2) ^^^ 1 := all8 (by decide +kernel)
theorem oddU_xs (d : Dat) (i : Nat) : oddU d i = XS (fun j => pop8 (d.toList.getD j 0) % 2) i := rfl
theorem odd_flip (d : Dat) {i : Nat} (hi : i < 2048) : oddN (flipD d i) = oddN d ^^^ 1 := by
  unfold oddN
  rw [oddU_xs, oddU_xs]
  refine xs_flip (k := i / 8) (by omega) (fun j hj hne => ?_) ?_
  · rw [getD_at _ hj, getD_at _ hj, flipD_at d hi hj, if_neg (fun e => hne e.symm)]
  · rw [getD_at _ (show i / 8 < 256 by omega), getD_at _ (show i / 8 < 256 by omega), flipD_at d hi (by omega), if_pos rfl, pop_flip _ _ (by omega)]

/-! the check bits -/
theorem and12 (x : Nat) : x &&& 4095 = x % 4096 := Nat.and_two_pow_sub_one_eq_mod x 12
theorem and13 (x : Nat) : x &&& 8191 = x % 8192 := Nat.and_two_pow_sub_one_eq_mod x 13
theorem or12 {x : Nat} (h : x < 4096) : x ||| 4096 = 4096 + x := by
  have := Nat.two_pow_add_eq_or_of_lt (i := 12) h 1
  rw [show 2 ^ 12 * 1 = 4096 from rfl] at this
  rw [Nat.or_comm]; omega
theorem pop_or : ∀ s < 4096, popN (4096 + s) = popN s + 1 := all12 (by decide +kernel)
theorem lineN_lt (d : Dat) : lineN d < 4096 := lineU_lt d 256 (Nat.le_refl _)
theorem oddN_lt (d : Dat) : oddN d < 2 := oddU_lt d 256
theorem check_line (d : Dat) : checkN d % 4096 = lineN d := by
  have h := lineN_lt d
  unfold checkN
  split
  · omega
  · rw [or12 h]; omega
theorem check_par (d : Dat) : (oddN d + popN (checkN d)) % 2 = 0 := by
  unfold checkN
  split
  · assumption
  · rename_i h; rw [or12 (lineN_lt d), pop_or _ (lineN_lt d)]; omega
theorem fix_same {d : Dat} {c : Nat} (hc : c % 8192 = checkN d) : hamFix d c = (d, 0, 0) := by
  have h1 : c % 4096 = lineN d := by rw [← check_line, ← hc]; omega
  unfold hamFix
  simp only []
  rw [and12, and13, h1, hc, Nat.xor_self, check_par, if_pos ⟨rfl, rfl⟩]
theorem place_ok : ∀ i < 2048, ¬ (placeN i &&& (placeN i - 1) = 0) ∧ placeN i - 1 - lenN (placeN i) = i ∧ lenN (placeN i) + 1 ≤ placeN i := by decide +kernel
theorem fix_data {d : Dat} {c i : Nat} (hi : i < 2048) (hc : c % 8192 = checkN d) : hamFix (flipD d i) c = (d, 1, 0) := by
  have h1 : c % 4096 = lineN d := by rw [← check_line, ← hc]; omega
  obtain ⟨p1, p2, p3⟩ := place_ok i hi
  have hs : (lineN d ^^^ placeN i) ^^^ lineN d = placeN i := by rw [Nat.xor_comm, ← Nat.xor_assoc, Nat.xor_self, Nat.zero_xor]
  have ho : (oddN d ^^^ 1) = 1 - oddN d := by
    have := oddN_lt d
    rcases (show oddN d = 0 ∨ oddN d = 1 by omega) with h | h <;> rw [h] <;> rfl
  have hp := check_par d
  have hl := oddN_lt d
  unfold hamFix
  simp only []
  rw [and12, and13, h1, hc, line_flip d hi, odd_flip d hi, hs, ho, if_neg (by omega), if_neg (by omega), if_neg p1, if_neg (by omega), p2, flipD_twice d hi]
theorem xor_mod8 (a b : Nat) : (a ^^^ b) % 256 = a % 256 ^^^ b % 256 := Nat.xor_mod_two_pow (n := 8)
theorem xor_div8 (a b : Nat) : (a ^^^ b) / 256 = a / 256 ^^^ b / 256 := Nat.xor_div_two_pow (n := 8)
theorem pop_flipN {c j : Nat} (hc : c < 65536) (hj : j < 16) : popN (c ^^^ 2 ^ j) % 2 = (popN c + 1) % 2 := by
  have e : ∀ x y : Nat, BitVec.ofNat 8 (x ^^^ y) = BitVec.ofNat 8 x ^^^ BitVec.ofNat 8 y := fun x y => by
    apply BitVec.eq_of_toNat_eq
    rw [BitVec.toNat_xor, BitVec.toNat_ofNat, BitVec.toNat_ofNat, BitVec.toNat_ofNat, Nat.xor_mod_two_pow]
  have hx : ∀ n : Nat, (n % 2 ^^^ 1) = (n + 1) % 2 := fun n => by
    rcases (show n % 2 = 0 ∨ n % 2 = 1 by omega) with h | h <;> rw [h] <;> simp <;> omega
  unfold popN
  rw [xor_mod8, xor_div8, e, e]
  rcases Nat.lt_or_ge j 8 with h | h
  · have h1 : ∀ j < 8, BitVec.ofNat 8 (2 ^ j / 256) = 0#8 ∧ BitVec.ofNat 8 (2 ^ j % 256) = 1#8 <<< j := by decide
    rw [(h1 j h).1, (h1 j h).2, BitVec.xor_zero]
    have := pop_flip (BitVec.ofNat 8 (c % 256)) j h
    rw [hx] at this
    omega
  · have h1 : ∀ j < 8, BitVec.ofNat 8 (2 ^ (8 + j) / 256) = 1#8 <<< j ∧ BitVec.ofNat 8 (2 ^ (8 + j) % 256) = 0#8 := by decide
    obtain ⟨k, rfl⟩ : ∃ k, j = 8 + k := ⟨j - 8, by omega⟩
    rw [(h1 k (by omega)).1, (h1 k (by omega)).2, BitVec.xor_zero]
    have := pop_flip (BitVec.ofNat 8 (c / 256)) k (by omega)
    rw [hx] at this
    omega
theorem pow_and : ∀ j < 12, 2 ^ j &&& (2 ^ j - 1) = 0 := by decide
theorem fix_check {d : Dat} {c j : Nat} (hj : j < 13) (hc : c % 8192 = checkN d ^^^ 2 ^ j) : hamFix d c = (d, 1, 0) := by
  have hlt : checkN d ^^^ 2 ^ j < 8192 := Nat.xor_lt_two_pow (n := 13) (checkN_lt d) (Nat.pow_lt_pow_right (by omega) hj)
  have h1 : c % 4096 = lineN d ^^^ (2 ^ j % 4096) := by
    rw [← check_line, ← Nat.xor_mod_two_pow (n := 12) (a := checkN d) (b := 2 ^ j), ← hc]
    omega
  have hs : lineN d ^^^ (lineN d ^^^ (2 ^ j % 4096)) = 2 ^ j % 4096 := by rw [← Nat.xor_assoc, Nat.xor_self, Nat.zero_xor]
  have hp := check_par d
  have hl := oddN_lt d
  have hq := pop_flipN (c := checkN d) (j := j) (by have := checkN_lt d; omega) (by omega)
  have hodd : (oddN d + popN (checkN d ^^^ 2 ^ j)) % 2 = 1 := by omega
  unfold hamFix
  simp only []
  rw [and12, and13, h1, hc, hs, hodd, if_neg (by omega), if_neg (by omega), if_pos]
  rcases (show j < 12 ∨ j = 12 by omega) with h | h
  · rw [Nat.mod_eq_of_lt (show 2 ^ j < 4096 from Nat.pow_lt_pow_right (n := 12) (by omega) h)]
    exact pow_and j h
  · subst h; rfl

/-! pages -/
theorem chk_bytes (a b : By) : (valUp [a, b] 2).toNat = a.toNat + 256 * b.toNat := by
  have e : valUp [a, b] 2 = (0#64 ||| (a.setWidth 64 <<< 0)) ||| (b.setWidth 64 <<< 8) := rfl
  have ha := a.isLt
  have hb := b.isLt
  have h1 : ((a.setWidth 64 : Wd) <<< 0).toNat = a.toNat := by simp [BitVec.toNat_setWidth]; omega
  have h2 : ((b.setWidth 64 : Wd) <<< 8).toNat = 256 * b.toNat := by
    rw [BitVec.toNat_shiftLeft, BitVec.toNat_setWidth, Nat.shiftLeft_eq]; omega
  rw [e, BitVec.toNat_or, BitVec.toNat_or, h1, h2]
  have := Nat.two_pow_add_eq_or_of_lt (i := 8) ha b.toNat
  rw [show 2 ^ 8 = 256 from rfl] at this
  rw [show (0#64).toNat = 0 from rfl, Nat.zero_or, Nat.or_comm]
  omega
theorem drop_two (p : Pg) : (p.toList.drop 256).take 2 = [p[256], p[257]] := by
  apply List.ext_getElem?
  intro i
  rw [List.getElem?_take, List.getElem?_drop]
  rcases i with _ | _ | i
  · simp
  · simp
  · simp; omega
theorem chk_eq (p : Pg) : chkOf p = p[256].toNat + 256 * p[257].toNat := by
  unfold chkOf
  rw [drop_two, chk_bytes]
  have := p[256].isLt
  have := p[257].isLt
  omega
theorem pop_top : ∀ b : By, 224 ≤ b.toNat → pop8 b ≥ 3 := all8 (by decide +kernel)
theorem top_and : ∀ a < 256, (a + 256 * (255#8).toNat) &&& 57344 = 57344 := by decide +kernel
/-- A page whose last byte was never written is no record. -/
theorem readF_torn {p : Pg} (h : p[257] = 255#8) : (readF p).2.2.2 ≠ 0 := by
  cases hb : blankB p with
  | true => rw [readF_blank hb]; decide
  | false =>
    have hc : chkOf p &&& 57344 = 57344 := by
      rw [chk_eq, h]
      exact top_and _ p[256].isLt
    rw [readF_above hb (by rw [hc]; decide)]
    simp
theorem zeros_ge (p : Pg) (l : List Nat) : ∀ n, (∀ i ∈ l, i < n) → l.Nodup → (l.map fun i => pop8 (~~~ (p.toList.getD i 0))).sum ≤ zerosU p n
  | 0, h, _ => by
    cases l with
    | nil => simp
    | cons x l => exact absurd (h x (.head _)) (by omega)
  | n + 1, h, hn => by
    rw [zerosU_succ]
    by_cases hm : n ∈ l
    · have h1 := zeros_ge p (l.erase n) n (fun i hi => by
        have h2 := (hn.mem_erase_iff).1 hi
        have := h i h2.2
        omega) (hn.erase n)
      have h3 : (l.map fun i => pop8 (~~~ (p.toList.getD i 0))).sum = pop8 (~~~ (p.toList.getD n 0)) + ((l.erase n).map fun i => pop8 (~~~ (p.toList.getD i 0))).sum := by
        have := (List.perm_cons_erase hm).map fun i => pop8 (~~~ (p.toList.getD i 0))
        rw [this.sum_nat]
        simp
      omega
    · have := zeros_ge p l n (fun i hi => by
        have := h i hi
        rcases Nat.lt_or_ge i n with h2 | h2
        · exact h2
        · exact absurd (show n ∈ l by rwa [show n = i by omega]) hm) hn
      omega
theorem not_blank {p : Pg} (h : 2 ≤ pop8 (~~~ p[0]) + pop8 (~~~ p[1]) + pop8 (~~~ p[257])) : blankB p = false := by
  have := zeros_ge p [0, 1, 257] 258 (by simp) (by simp)
  simp only [List.map_cons, List.map_nil, List.sum_cons, List.sum_nil] at this
  rw [getD_at p (show 0 < 258 by omega), getD_at p (show 1 < 258 by omega), getD_at p (show 257 < 258 by omega)] at this
  unfold blankB
  simp; omega
end Go.Proofs.YtdfidkhbldedlaaGreat
