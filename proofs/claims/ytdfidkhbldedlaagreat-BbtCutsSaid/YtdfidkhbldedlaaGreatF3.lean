/- The plain laws of records in pages, second part. -/
import Derived.Test.YtdfidkhbldedlaaGreatF2
namespace Go.Proofs.YtdfidkhbldedlaaGreat
open Go.K
set_option linter.unusedVariables false
set_option linter.unusedSimpArgs false

/-- a bit of a page turned -/
def flipP (p : Pg) (i : Nat) : Pg := if h : i / 8 < 258 then p.set (i / 8) (p[i / 8] ^^^ (1#8 <<< (i % 8))) else p
theorem flipP_at (p : Pg) {i j : Nat} (hi : i < 2064) (h : j < 258) : (flipP p i)[j] = if i / 8 = j then p[j] ^^^ (1#8 <<< (i % 8)) else p[j] := by
  unfold flipP
  rw [dif_pos (show i / 8 < 258 by omega), Vector.getElem_set]
  split
  · rename_i e; subst e; rfl
  · rfl
theorem datOf_at (p : Pg) {j : Nat} (h : j < 256) : (datOf p)[j] = p[j] := by simp [datOf]
theorem pageOf_lo (d : Dat) {j : Nat} (h : j < 256) : (pageOf d)[j] = d[j] := by
  unfold pageOf
  rw [putV_at _ _ _ _ (by omega), if_neg (by omega), putV_at _ _ _ _ (by omega), if_pos (by simp; omega), Nat.sub_zero, getD_at d h]
theorem datOf_page (d : Dat) : datOf (pageOf d) = d := by
  apply Vector.ext
  intro j hj
  rw [datOf_at _ hj, pageOf_lo d hj]
theorem page_take (d : Dat) : (pageOf d).toList.take 256 = d.toList := by
  apply List.ext_getElem
  · simp
  · intro j h1 h2
    simp at h2
    rw [List.getElem_take]
    have := pageOf_lo d h2
    simpa using this
theorem pageOf_256 (d : Dat) : (pageOf d)[256].toNat = checkN d % 256 := by
  unfold pageOf
  rw [putV_at _ _ _ _ (by omega), if_pos (by rw [numB_len]; omega)]
  show ((BitVec.ofNat 64 (checkN d)).setWidth 8).toNat = _
  have := checkN_lt d
  rw [BitVec.toNat_setWidth, BitVec.toNat_ofNat]
  omega
theorem pageOf_257 (d : Dat) : (pageOf d)[257].toNat = checkN d / 256 := by
  unfold pageOf
  rw [putV_at _ _ _ _ (by omega), if_pos (by rw [numB_len]; omega)]
  show (((BitVec.ofNat 64 (checkN d)) >>> 8).setWidth 8).toNat = _
  have := checkN_lt d
  rw [BitVec.toNat_setWidth, BitVec.toNat_ushiftRight, BitVec.toNat_ofNat, Nat.shiftRight_eq_div_pow]
  omega
theorem chk_page (d : Dat) : chkOf (pageOf d) = checkN d := by rw [chk_eq, pageOf_256, pageOf_257]; omega
theorem datW_lo {k : By} {b : List By} {j : Nat} (h : j < 252) : (datW k b)[j] = (dat0 k b)[j] := by
  unfold datW sumD
  rw [putV_at _ _ _ _ (by omega), if_neg (by omega)]
theorem datW_0 (k : By) (b : List By) : (datW k b)[0] = k := by
  rw [datW_lo (by omega)]
  unfold dat0
  rw [putV_at _ _ _ _ (by omega), if_neg (by omega)]
  simp
theorem datW_1 (k : By) (b : List By) : (datW k b)[1] = BitVec.ofNat 8 b.length := by
  rw [datW_lo (by omega)]
  unfold dat0
  rw [putV_at _ _ _ _ (by omega), if_neg (by omega)]
  simp
theorem datW_body {k : By} {b : List By} (hb : b.length ≤ 240) : bodyOf (datW k b) = b := by
  unfold bodyOf
  have h1 : ((datW k b)[1]).toNat = b.length := by rw [datW_1, BitVec.toNat_ofNat]; omega
  rw [h1, if_pos hb]
  apply List.ext_getElem
  · simp; omega
  · intro j h2 h3
    rw [List.getElem_take, List.getElem_drop]
    have : (datW k b)[2 + j] = b[j] := by
      rw [datW_lo (by omega)]
      unfold dat0
      rw [putV_at _ _ _ _ (by omega), if_pos (by omega)]
      simp [List.getD_eq_getElem?_getD, h3]
    simpa using this
theorem not_wrong {k : By} {b : List By} (h : wrong k b = false) : k ≠ 0 ∧ k ≠ 255#8 ∧ b.length ≤ 240 := by
  unfold wrong at h
  simp only [Bool.or_eq_false_iff, decide_eq_false_iff_not] at h
  refine ⟨fun e => h.1.1 (by rw [e]; rfl), fun e => h.1.2 (by rw [e]; rfl), by omega⟩
/-- A page that is mended into a record is it. -/
theorem readF_of {p : Pg} {k : By} {b : List By} {n : Int} (hw : wrong k b = false) (hb : blankB p = false) (ha : ¬ 1 < popN (chkOf p &&& 57344)) (hf : hamFix (datOf p) (chkOf p) = (datW k b, n, 0)) : readF p = (k, b, n + (popN (chkOf p &&& 57344) : Nat), 0) := by
  obtain ⟨h1, h2, h3⟩ := not_wrong hw
  have hwr : writeF k b = (pageW k b, 0) := by unfold writeF; rw [if_neg (by rw [hw]; simp)]
  rw [readF_ok hf hb ha rfl]
  · simp only [datW_0, datW_body h3]
  · simp only [datW_0, datW_body h3, hwr]
    intro h
    rcases h with h | h | h
    · exact h rfl
    · rw [datW_1, BitVec.toNat_ofNat] at h; omega
    · exact h (page_take _)
theorem and_top (x : Nat) (h : x < 8192) : x &&& 57344 = 0 := by
  have : ∀ b < 8, ∀ a < 1024, (1024 * b + a) &&& 57344 = 0 := by decide +kernel
  have h1 := this (x / 1024) (by omega) (x % 1024) (by omega)
  rwa [Nat.div_add_mod] at h1
theorem pop_ff : ∀ b : By, b ≠ 255#8 → 1 ≤ pop8 (~~~ b) := all8 (by decide +kernel)
theorem pop_lo : ∀ b : By, b.toNat < 32 → 3 ≤ pop8 (~~~ b) := all8 (by decide +kernel)
theorem pop_one : ∀ b : By, ∀ k < 8, pop8 (~~~ b) ≤ pop8 (~~~ (b ^^^ (1#8 <<< k))) + 1 := all8 (by decide +kernel)
/-- Enough of a record's page is 0. -/
theorem page_zeros {k : By} {b : List By} (hw : wrong k b = false) : 1 ≤ pop8 (~~~ (pageW k b)[0]) ∧ 1 ≤ pop8 (~~~ (pageW k b)[1]) ∧ 3 ≤ pop8 (~~~ (pageW k b)[257]) := by
  obtain ⟨h1, h2, h3⟩ := not_wrong hw
  refine ⟨pop_ff _ ?_, pop_ff _ ?_, pop_lo _ ?_⟩
  · rw [show (pageW k b)[0] = (datW k b)[0] from pageOf_lo _ (by omega), datW_0]; exact h2
  · rw [show (pageW k b)[1] = (datW k b)[1] from pageOf_lo _ (by omega), datW_1]
    intro e
    have := congrArg BitVec.toNat e
    rw [BitVec.toNat_ofNat] at this
    have e2 : (255#8).toNat = 255 := rfl
    omega
  · rw [show (pageW k b)[257].toNat = checkN (datW k b) / 256 from pageOf_257 _]
    have := checkN_lt (datW k b)
    omega
/-- What was written is read. -/
theorem readF_page {k : By} {b : List By} (hw : wrong k b = false) : readF (pageW k b) = (k, b, 0, 0) := by
  obtain ⟨z1, z2, z3⟩ := page_zeros hw
  have hc : chkOf (pageW k b) = checkN (datW k b) := chk_page _
  have ht : chkOf (pageW k b) &&& 57344 = 0 := by rw [hc]; exact and_top _ (checkN_lt _)
  rw [readF_of hw (not_blank (by omega)) (by rw [ht]; decide) (n := 0), ht]
  · rfl
  · rw [show datOf (pageW k b) = datW k b from datOf_page _, hc]
    exact fix_same (Nat.mod_eq_of_lt (checkN_lt _))
theorem flip_dat {p : Pg} {i : Nat} (hi : i < 2048) : datOf (flipP p i) = flipD (datOf p) i := by
  apply Vector.ext
  intro j hj
  rw [datOf_at _ hj, flipP_at p (by omega) (by omega), flipD_at _ hi hj, datOf_at _ hj]
theorem flip_dat2 {p : Pg} {i : Nat} (hi : 2048 ≤ i) (h2 : i < 2064) : datOf (flipP p i) = datOf p := by
  apply Vector.ext
  intro j hj
  rw [datOf_at _ hj, flipP_at p h2 (by omega), if_neg (by omega), datOf_at _ hj]
theorem pow_lo : ∀ k < 8, (1#8 <<< k).toNat = 2 ^ k ∧ 2 ^ k % 256 = 2 ^ k ∧ 2 ^ k / 256 = 0 ∧ 2 ^ (8 + k) % 256 = 0 ∧ 2 ^ (8 + k) / 256 = 2 ^ k := by decide
theorem flip_chk {p : Pg} {i : Nat} (hi : 2048 ≤ i) (h2 : i < 2064) : chkOf (flipP p i) = chkOf p ^^^ 2 ^ (i - 2048) := by
  have ha := p[256].isLt
  have hb := p[257].isLt
  have key : ∀ x y : Nat, x % 256 = y % 256 → x / 256 = y / 256 → x = y := fun x y h1 h2 => by omega
  rw [chk_eq, chk_eq, flipP_at p h2 (by omega), flipP_at p h2 (by omega)]
  have hx : ∀ (b : By) (k : Nat), k < 8 → (b ^^^ (1#8 <<< k)).toNat = b.toNat ^^^ 2 ^ k := fun b k hk => by rw [BitVec.toNat_xor, (pow_lo k hk).1]
  have hlt : ∀ (b : By) (k : Nat), k < 8 → b.toNat ^^^ 2 ^ k < 256 := fun b k hk => Nat.xor_lt_two_pow (n := 8) b.isLt (Nat.pow_lt_pow_right (by omega) hk)
  rcases (show i < 2056 ∨ 2056 ≤ i by omega) with h | h
  · obtain ⟨k, rfl⟩ : ∃ k, i = 2048 + k := ⟨i - 2048, by omega⟩
    have hk : k < 8 := by omega
    rw [if_pos (by omega), if_neg (by omega), show (2048 + k) % 8 = k by omega, show 2048 + k - 2048 = k by omega, hx _ _ hk]
    have h3 := hlt p[256] k hk
    obtain ⟨_, q1, q2, _, _⟩ := pow_lo k hk
    apply key
    · rw [xor_mod8, q1, show (p[256].toNat + 256 * p[257].toNat) % 256 = p[256].toNat by omega]; omega
    · rw [xor_div8, q2, Nat.xor_zero]; omega
  · obtain ⟨k, rfl⟩ : ∃ k, i = 2056 + k := ⟨i - 2056, by omega⟩
    have hk : k < 8 := by omega
    rw [if_neg (by omega), if_pos (by omega), show (2056 + k) % 8 = k by omega, show 2056 + k - 2048 = 8 + k by omega, hx _ _ hk]
    have h3 := hlt p[257] k hk
    obtain ⟨_, _, _, q1, q2⟩ := pow_lo k hk
    apply key
    · rw [xor_mod8, q1, Nat.xor_zero]; omega
    · rw [xor_div8, q2, show (p[256].toNat + 256 * p[257].toNat) / 256 = p[257].toNat by omega]; omega
theorem flip_chk2 {p : Pg} {i : Nat} (hi : i < 2048) : chkOf (flipP p i) = chkOf p := by
  rw [chk_eq, chk_eq, flipP_at p (by omega) (by omega), flipP_at p (by omega) (by omega), if_neg (by omega), if_neg (by omega)]
theorem flip_nb {k : By} {b : List By} {i : Nat} (hw : wrong k b = false) (hi : i < 2064) : blankB (flipP (pageW k b) i) = false := by
  obtain ⟨z1, z2, z3⟩ := page_zeros hw
  apply not_blank
  rw [flipP_at _ hi (by omega), flipP_at _ hi (by omega), flipP_at _ hi (by omega)]
  have h0 := pop_one (pageW k b)[0] (i % 8) (by omega)
  have h1 := pop_one (pageW k b)[1] (i % 8) (by omega)
  have h2 := pop_one (pageW k b)[257] (i % 8) (by omega)
  split
  · split
    · omega
    · split <;> omega
  · split
    · split <;> omega
    · split <;> omega
theorem top_one : ∀ j < 16, 13 ≤ j → 2 ^ j &&& 57344 = 2 ^ j ∧ popN (2 ^ j) = 1 ∧ 2 ^ j % 8192 = 0 := by decide +kernel
/-- One turned bit is mended. -/
theorem readF_flip {k : By} {b : List By} {i : Nat} (hw : wrong k b = false) (hi : i < 2064) : readF (flipP (pageW k b) i) = (k, b, 1, 0) := by
  have hc : chkOf (pageW k b) = checkN (datW k b) := chk_page _
  have hd : datOf (pageW k b) = datW k b := datOf_page _
  have hlt := checkN_lt (datW k b)
  rcases (show i < 2048 ∨ 2048 ≤ i by omega) with h | h
  · have ht : chkOf (flipP (pageW k b) i) &&& 57344 = 0 := by rw [flip_chk2 h, hc]; exact and_top _ hlt
    rw [readF_of hw (flip_nb hw hi) (by rw [ht]; decide) (n := 1), ht]
    · rfl
    · rw [flip_dat h, flip_chk2 h, hd, hc]
      exact fix_data h (Nat.mod_eq_of_lt hlt)
  · rcases (show i < 2061 ∨ 2061 ≤ i by omega) with h2 | h2
    · have hx : checkN (datW k b) ^^^ 2 ^ (i - 2048) < 8192 := Nat.xor_lt_two_pow (n := 13) hlt (Nat.pow_lt_pow_right (by omega) (by omega))
      have ht : chkOf (flipP (pageW k b) i) &&& 57344 = 0 := by rw [flip_chk h hi, hc]; exact and_top _ hx
      rw [readF_of hw (flip_nb hw hi) (by rw [ht]; decide) (n := 1), ht]
      · rfl
      · rw [flip_dat2 h hi, flip_chk h hi, hd, hc]
        exact fix_check (j := i - 2048) (by omega) (Nat.mod_eq_of_lt hx)
    · obtain ⟨t1, t2, t3⟩ := top_one (i - 2048) (by omega) (by omega)
      have ht : chkOf (flipP (pageW k b) i) &&& 57344 = 2 ^ (i - 2048) := by
        rw [flip_chk h hi, hc, Nat.and_xor_distrib_right, and_top _ hlt, t1, Nat.zero_xor]
      rw [readF_of hw (flip_nb hw hi) (by rw [ht, t2]; omega) (n := 0), ht, t2]
      · rfl
      · rw [flip_dat2 h hi, flip_chk h hi, hd, hc]
        exact fix_same (by rw [Nat.xor_mod_two_pow (n := 13), t3, Nat.xor_zero]; exact Nat.mod_eq_of_lt hlt)
/-- A blank page in which a bit is turned is still blank. -/
theorem pop_all : pop8 (~~~ (255#8)) = 0 := by decide
end Go.Proofs.YtdfidkhbldedlaaGreat
