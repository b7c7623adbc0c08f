/- The plain laws of views: bits of members. -/
import Derived.Test.YtocfdkjoklgecaaK8
namespace Go.Proofs.Ytocfdkjoklgecaa
open Go.K
set_option linter.unusedVariables false
set_option linter.unusedSimpArgs false

theorem and_one (x : Int) : ibits .and .i64 x 1 = x % 2 := by
  have h : (BitVec.ofInt 64 x &&& BitVec.ofInt 64 1).toNat = (x % 18446744073709551616).toNat % 2 := by
    rw [BitVec.toNat_and]
    have : (BitVec.ofInt 64 1).toNat = 1 := by decide
    rw [this, Nat.and_one_is_mod, BitVec.toNat_ofInt]
    rfl
  show IntKind.i64.wrap ((BitVec.ofInt 64 x &&& BitVec.ofInt 64 1).toNat) = _
  rw [h, IntKind.wrap_i64]
  omega
theorem nat_and_two (n : Nat) : n &&& 2 = 2 * (n / 2 % 2) := by
  have h1 : (n &&& 2) / 2 = n / 2 % 2 := by rw [Nat.and_div_two, Nat.and_one_is_mod]
  have h2 : (n &&& 2) % 2 = 0 := by
    have := @Nat.and_mod_two_pow n 2 1
    simpa using this
  omega
theorem and_two (x : Int) : ibits .and .i64 x 2 = 2 * (x / 2 % 2) := by
  have h : (BitVec.ofInt 64 x &&& BitVec.ofInt 64 2).toNat = 2 * ((x % 18446744073709551616).toNat / 2 % 2) := by
    rw [BitVec.toNat_and]
    have : (BitVec.ofInt 64 2).toNat = 2 := by decide
    rw [this, nat_and_two, BitVec.toNat_ofInt]
    rfl
  show IntKind.i64.wrap ((BitVec.ofInt 64 x &&& BitVec.ofInt 64 2).toNat) = _
  rw [h, IntKind.wrap_i64]
  omega

/-- Is a chip no member? as the code asks. -/
def outI (m c : Int) : Bool := (decide (c < 0) || decide (2 ≤ c)) || decide (ibits .and .i64 (m.fdiv (2 ^ (min c.toNat 64))) 1 = 0)
def hasB (m : Int) (xs : List Int) : Bool := xs.all fun c => !outI m c
theorem outI_0 (m : Int) : outI m 0 = decide (m % 2 = 0) := by
  simp [outI, and_one]
theorem outI_1 (m : Int) : outI m 1 = decide (m / 2 % 2 = 0) := by
  have : (min (1 : Int).toNat 64) = 1 := by decide
  simp only [outI, this, Int.pow_succ, Int.pow_zero, Int.one_mul, and_one]
  rw [Int.fdiv_eq_ediv_of_nonneg _ (by omega)]
  simp
theorem outI_no (m c : Int) (h : c < 0 ∨ 2 ≤ c) : outI m c = true := by
  rcases h with h | h <;> simp [outI, h]
/-- the document's answer -/
def refHas (m c : Int) : Bool := if c = 0 then decide (ibits .and .i64 m 1 = 1) else (decide (c = 1) && decide (ibits .and .i64 m 2 = 2))
theorem refHas_eq (m c : Int) : refHas m c = !outI m c := by
  unfold refHas
  by_cases h0 : c = 0
  · subst h0
    rw [if_pos rfl, outI_0, and_one]
    rw [Bool.eq_iff_iff]; simp; omega
  · rw [if_neg h0]
    by_cases h1 : c = 1
    · subst h1
      rw [outI_1, and_two]
      rw [Bool.eq_iff_iff]; simp; omega
    · rw [outI_no m c (by omega)]
      simp [h1]
def rightB (n m : Int) : Bool := (((decide (1 ≤ n) && decide (n ≤ 9223372036854775808)) && decide (1 ≤ m)) && decide (m ≤ 3))
def refRight (n m : Int) : Bool := ((decide (0 < n) && decide (n ≤ 9223372036854775808)) && ((decide (m = 1) || decide (m = 2)) || decide (m = 3)))
theorem refRight_eq (n m : Int) : refRight n m = rightB n m := by
  unfold refRight rightB
  rw [Bool.eq_iff_iff]; simp; omega
def nextB (ok : Bool) (n m : Int) : Bool := (!ok || !rightB n m) || decide (n = 9223372036854775808)
/-- The view behind another one: number, members, base, the error's number. -/
def nextV (ok : Bool) (n m members base : Int) : Int × Int × Int × Int := if nextB ok n m = true then (0, 0, 0, 1) else (IntKind.u64.wrap (n + 1), members, base, 0)
/-- The members of a view of a chip alone, as the code reckons them. -/
def shl1 (c : Int) : Int := IntKind.i64.wrap (1 * 2 ^ (min (min (max c 0) 2).toNat 64))
abbrev shrV (n m c base : Int) : Int × Int × Int × Int := nextV (hasB m [c]) n m (shl1 c) base
abbrev groV (n m base : Int) : Int × Int × Int × Int := nextV (!decide (m = 3)) n m 3 base
def refShrB (n m c : Int) : Bool := (!refRight n m || decide (n = 9223372036854775808)) || !refHas m c
theorem refShrB_eq (n m c : Int) : refShrB n m c = nextB (hasB m [c]) n m := by
  simp only [refShrB, nextB, refRight_eq, refHas_eq, hasB, List.all_cons, List.all_nil, Bool.and_true]
  cases rightB n m <;> cases outI m c <;> simp
theorem shl1_in (m c : Int) (h : outI m c = false) : (c = 0 ∨ c = 1) ∧ shl1 c = IntKind.i64.wrap (c + 1) := by
  by_cases h0 : c < 0 ∨ 2 ≤ c
  · rw [outI_no m c h0] at h; cases h
  · have : c = 0 ∨ c = 1 := by omega
    refine ⟨this, ?_⟩
    rcases this with rfl | rfl <;> decide
def refGroB (n m : Int) : Bool := (!refRight n m || decide (n = 9223372036854775808)) || decide (m = 3)
theorem refGroB_eq (n m : Int) : refGroB n m = nextB (!decide (m = 3)) n m := by
  simp only [refGroB, nextB, refRight_eq]
  cases rightB n m <;> cases decide (m = 3) <;> simp
/-- May a view be set, where one of the number k is known? -/
def setB (n m k : Int) : Bool := rightB n m && decide (k < n)
theorem setB_no (n m k : Int) : (!rightB n m || decide (n ≤ k)) = !setB n m k := by
  unfold setB
  cases rightB n m <;> simp
  by_cases h : n ≤ k
  · simp [h]
  · simp [h]; omega
theorem rshr_no {n m c base : Int} (h : ((!rightB n m || decide (n = 9223372036854775808)) || !!outI m c) = false) : shrV n m c base = (IntKind.u64.wrap (n + 1), IntKind.i64.wrap (c + 1), base, 0) := by
  have h2 : nextB (hasB m [c]) n m = false := by rw [← refShrB_eq, refShrB, refRight_eq, refHas_eq]; exact h
  have h3 : outI m c = false := by revert h; cases outI m c <;> simp
  rw [shrV, nextV, if_neg (by rw [h2]; exact Bool.false_ne_true), (shl1_in m c h3).2]
theorem rgro_no {n m base : Int} (h : ((!rightB n m || decide (n = 9223372036854775808)) || decide (m = 3)) = false) : groV n m base = (IntKind.u64.wrap (n + 1), 3, base, 0) := by
  have h2 : nextB (!decide (m = 3)) n m = false := by rw [← refGroB_eq, refGroB, refRight_eq]; exact h
  rw [groV, nextV, if_neg (by rw [h2]; exact Bool.false_ne_true)]
theorem shr_bad {n m c base : Int} (h : (!decide ((shrV n m c base).2.2.2 = 0)) = true) : shrV n m c base = (0, 0, 0, 1) := by
  unfold shrV nextV at *
  split
  · rfl
  · rename_i h2; rw [if_neg h2] at h; simp at h
theorem shr_ok {n m c base : Int} (h : (!decide ((shrV n m c base).2.2.2 = 0)) = false) : shrV n m c base = (n + 1, c + 1, base, 0) ∧ 1 ≤ n ∧ n < 9223372036854775808 ∧ 1 ≤ m ∧ m ≤ 3 ∧ (c = 0 ∨ c = 1) ∧ rightB n m = true := by
  by_cases hb : nextB (hasB m [c]) n m = true
  · rw [shrV, nextV, if_pos hb] at h; simp at h
  · have hb2 : nextB (hasB m [c]) n m = false := by simpa using hb
    have h3 : outI m c = false := by
      simp only [nextB, hasB, List.all_cons, List.all_nil, Bool.and_true] at hb2
      revert hb2; cases outI m c <;> simp
    have h4 : rightB n m = true := by
      simp only [nextB] at hb2
      revert hb2; cases rightB n m <;> simp
    have h5 : n ≠ 9223372036854775808 := by
      intro e; subst e; simp [nextB] at hb2
    obtain ⟨hc, he⟩ := shl1_in m c h3
    have h6 := h4
    simp only [rightB, Bool.and_eq_true, decide_eq_true_eq] at h6
    refine ⟨?_, by omega, by omega, by omega, by omega, hc, h4⟩
    rw [shrV, nextV, if_neg hb, he]
    have e1 : IntKind.u64.wrap (n + 1) = n + 1 := by simp [IntKind.wrap, IntKind.signed, IntKind.bits]; omega
    have e2 : IntKind.i64.wrap (c + 1) = c + 1 := by rcases hc with rfl | rfl <;> decide
    rw [e1, e2]
theorem gro_top {n c base : Int} (h : 9223372036854775808 ≤ n) : groV n (c + 1) base = (0, 0, 0, 1) := by
  rw [groV, nextV, if_pos]
  simp only [nextB, rightB]
  by_cases h2 : n = 9223372036854775808
  · simp [h2]
  · have : ¬ n ≤ 9223372036854775808 := by omega
    simp [this]
theorem gro_ok {n c base : Int} (h0 : 1 ≤ n) (h : n + 1 < 9223372036854775808) (hc : c = 0 ∨ c = 1) : groV (n + 1) (c + 1) base = (n + 2, 3, base, 0) := by
  rw [groV, nextV, if_neg]
  · have e1 : IntKind.u64.wrap (n + 1 + 1) = n + 2 := by simp [IntKind.wrap, IntKind.signed, IntKind.bits]; omega
    rw [e1]
  · simp [nextB, rightB]
    omega
theorem setB_of {n m k : Int} (h : rightB n m = true) (hk : k < n) : setB n m k = true := by simp [setB, h, hk]
theorem setB_le {n m k : Int} (hk : n ≤ k) : setB n m k = false := by simp [setB]; omega
theorem right_of {n m : Int} (h0 : 1 ≤ n) (h1 : n ≤ 9223372036854775808) (h2 : 1 ≤ m) (h3 : m ≤ 3) : rightB n m = true := by simp [rightB]; omega
theorem u64_wrap {n : Int} (h : 0 ≤ n) (h2 : n < 18446744073709551616) : IntKind.u64.wrap n = n := by simp [IntKind.wrap, IntKind.signed, IntKind.bits]; omega
theorem has_own {c : Int} (hc : c = 0 ∨ c = 1) : hasB (c + 1) [c] = true ∧ hasB (c + 1) [IntKind.i64.wrap (1 - c)] = false := by
  rcases hc with rfl | rfl <;> decide
theorem has_both : hasB 3 [0, 1] = true := by decide
end Go.Proofs.Ytocfdkjoklgecaa
