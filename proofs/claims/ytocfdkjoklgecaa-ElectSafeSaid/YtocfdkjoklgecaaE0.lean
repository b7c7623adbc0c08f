/- The plain laws of elections: chips as rows of cells, which may be elected, and the plan. -/
import Derived.Test.YtocfdkjoklgecaaV0
namespace Go.Proofs.Ytocfdkjoklgecaa
open Go.K
set_option linter.unusedVariables false
set_option linter.unusedSimpArgs false

/-- What a chip tells. -/
structure Ch where
  (h s w : Bool)
  (ep : Int)
  (l : Nat → Int)
  (sum sn vn vm vb : Int)
def com (x : Ch) : List Value := [.int .u64 x.ep, .int .u8 (x.l 0), .int .u8 (x.l 1), .int .u8 (x.l 2), .int .u8 (x.l 3), .int .u8 (x.l 4), .int .u8 (x.l 5), .int .u8 (x.l 6), .int .u8 (x.l 7), .int .u8 (x.l 8), .int .u8 (x.l 9), .int .u8 (x.l 10), .int .u8 (x.l 11), .int .u8 (x.l 12), .int .u8 (x.l 13), .int .u8 (x.l 14), .int .u8 (x.l 15), .int .u8 (x.l 16), .int .u8 (x.l 17), .int .u8 (x.l 18), .int .u8 (x.l 19), .int .u8 (x.l 20), .int .u8 (x.l 21), .int .u8 (x.l 22), .int .u8 (x.l 23), .int .u8 (x.l 24), .int .u8 (x.l 25), .int .u8 (x.l 26), .int .u8 (x.l 27), .int .u8 (x.l 28), .int .u8 (x.l 29), .int .u8 (x.l 30), .int .u8 (x.l 31), .int .u32 x.sum]
def cc (x : Ch) : List Value := [.bool x.h, .bool x.s, .bool x.w, .int .u64 x.ep, .int .u8 (x.l 0), .int .u8 (x.l 1), .int .u8 (x.l 2), .int .u8 (x.l 3), .int .u8 (x.l 4), .int .u8 (x.l 5), .int .u8 (x.l 6), .int .u8 (x.l 7), .int .u8 (x.l 8), .int .u8 (x.l 9), .int .u8 (x.l 10), .int .u8 (x.l 11), .int .u8 (x.l 12), .int .u8 (x.l 13), .int .u8 (x.l 14), .int .u8 (x.l 15), .int .u8 (x.l 16), .int .u8 (x.l 17), .int .u8 (x.l 18), .int .u8 (x.l 19), .int .u8 (x.l 20), .int .u8 (x.l 21), .int .u8 (x.l 22), .int .u8 (x.l 23), .int .u8 (x.l 24), .int .u8 (x.l 25), .int .u8 (x.l 26), .int .u8 (x.l 27), .int .u8 (x.l 28), .int .u8 (x.l 29), .int .u8 (x.l 30), .int .u8 (x.l 31), .int .u32 x.sum, .int .u64 x.sn, .int .u64 x.vn, .int .i64 x.vm, .int .u64 x.vb]
def cc2 (x y : Ch) : List Value := cc x ++ cc y
def ccN : List Ch → List Value
  | [] => []
  | x :: r => cc x ++ ccN r
abbrev zCh : Ch := ⟨false, false, false, 0, fun _ => 0, 0, 0, 0, 0, 0⟩
abbrev zC : List Value := cc zCh
def comK : List Kd := [some .u64, some .u8, some .u8, some .u8, some .u8, some .u8, some .u8, some .u8, some .u8, some .u8, some .u8, some .u8, some .u8, some .u8, some .u8, some .u8, some .u8, some .u8, some .u8, some .u8, some .u8, some .u8, some .u8, some .u8, some .u8, some .u8, some .u8, some .u8, some .u8, some .u8, some .u8, some .u8, some .u8, some .u32]
def chK : List Kd := [none, none, none, some .u64, some .u8, some .u8, some .u8, some .u8, some .u8, some .u8, some .u8, some .u8, some .u8, some .u8, some .u8, some .u8, some .u8, some .u8, some .u8, some .u8, some .u8, some .u8, some .u8, some .u8, some .u8, some .u8, some .u8, some .u8, some .u8, some .u8, some .u8, some .u8, some .u8, some .u8, some .u8, some .u8, some .u32, some .u64, some .u64, some .i64, some .u64]

def comEq (x y : Ch) : Bool := (cellsEq comK (com x) (com y)).getD false
theorem cellsEq_some : ∀ (ks : List Nat) (f g : Nat → Int), ∃ b, cellsEq (ks.map fun _ => some .u8) (ks.map fun i => .int .u8 (f i)) (ks.map fun i => .int .u8 (g i)) = some b
  | [], _, _ => ⟨_, rfl⟩
  | k :: ks, f, g => by
    obtain ⟨b, hb⟩ := cellsEq_some ks f g
    exact ⟨decide (f k = g k) && b, by simp [cellsEq, veq, hb]⟩
theorem cellsEq_app : ∀ (ks : List Kd) (xs ys : List Value) (b : Bool) (ks2 : List Kd) (xs2 ys2 : List Value) (b2 : Bool), cellsEq ks xs ys = some b → cellsEq ks2 xs2 ys2 = some b2 → ∃ r, cellsEq (ks ++ ks2) (xs ++ xs2) (ys ++ ys2) = some r
  | [], [], [], b, ks2, xs2, ys2, b2, _, h2 => ⟨b2, h2⟩
  | [], _ :: _, _, b, _, _, _, _, h, _ => by simp [cellsEq] at h
  | [], [], _ :: _, b, _, _, _, _, h, _ => by simp [cellsEq] at h
  | _ :: _, [], _, b, _, _, _, _, h, _ => by simp [cellsEq] at h
  | _ :: _, _ :: _, [], b, _, _, _, _, h, _ => by simp [cellsEq] at h
  | k :: ks, x :: xs, y :: ys, b, ks2, xs2, ys2, b2, h, h2 => by
    simp only [cellsEq] at h
    cases hv : veq k x y with
    | none => simp [hv] at h
    | some v =>
      cases hc : cellsEq ks xs ys with
      | none => simp [hv, hc] at h
      | some c =>
        obtain ⟨r, hr⟩ := cellsEq_app ks xs ys c ks2 xs2 ys2 b2 hc h2
        exact ⟨v && r, by simp [cellsEq, hv, hr]⟩
theorem com_eq (x y : Ch) : cellsEq comK (com x) (com y) = some (comEq x y) := by
  obtain ⟨b, hb⟩ := cellsEq_some (List.range 32) x.l y.l
  have h1 : cellsEq [some .u64] [.int .u64 x.ep] [.int .u64 y.ep] = some (decide (x.ep = y.ep)) := by simp [cellsEq, veq]
  have h3 : cellsEq [some .u32] [.int .u32 x.sum] [.int .u32 y.sum] = some (decide (x.sum = y.sum)) := by simp [cellsEq, veq]
  obtain ⟨r, hr⟩ := cellsEq_app _ _ _ _ _ _ _ _ hb h3
  obtain ⟨q, hq⟩ := cellsEq_app _ _ _ _ _ _ _ _ h1 hr
  have hq2 : cellsEq comK (com x) (com y) = some q := hq
  unfold comEq
  rw [hq2]; rfl
theorem cellsEq_comm : ∀ (ks : List Kd) (xs ys : List Value), cellsEq ks xs ys = cellsEq ks ys xs
  | [], [], [] => rfl
  | [], [], _ :: _ => rfl
  | [], _ :: _, [] => rfl
  | [], _ :: _, _ :: _ => rfl
  | _ :: _, [], [] => rfl
  | _ :: _, [], _ :: _ => rfl
  | _ :: _, _ :: _, [] => rfl
  | k :: ks, x :: xs, y :: ys => by
    have h1 : veq k x y = veq k y x := by
      cases k with
      | none => cases x <;> cases y <;> simp [veq, Bool.beq_comm]
      | some k =>
        cases x <;> cases y <;> simp [veq]
        rename_i k1 a k2 b
        by_cases ha : k1 = k <;> by_cases hb : k2 = k <;> simp [ha, hb, eq_comm]
    simp only [cellsEq, h1, cellsEq_comm ks xs ys]
theorem comEq_comm (x y : Ch) : comEq x y = comEq y x := by unfold comEq; rw [cellsEq_comm]
theorem cut_cc (x : Ch) : cut (cc x) 0 41 = some (cc x) := by kernel_rfl
theorem cut_com (x : Ch) : cut (cc x) 3 34 = some (com x) := by kernel_rfl
theorem vc_cc (x : Ch) : vcells (.agg (cc x).toArray) = some (cc x) := by kernel_rfl
theorem over_all : ∀ (cs vs : List Value), cs.length = vs.length → over cs vs = some vs
  | [], [], _ => rfl
  | _ :: cs, v :: vs, h => by simp only [over, over_all cs vs (by simpa using h)]
theorem spl_cc (x : Ch) (cs : List Value) (h : cs.length = 41) : splice cs 0 (cc x) = some (cc x) := by cases cs with | nil => simp at h | cons c cs => exact over_all _ _ h
theorem cut2_0 (x y : Ch) : cut (cc2 x y) 0 41 = some (cc x) := by kernel_rfl
theorem cut2_1 (x y : Ch) : cut (cc2 x y) 41 41 = some (cc y) := by kernel_rfl
theorem fill2 (x y : Ch) : fillA zC.length (zrep 2 zC) [(0, .agg (cc x).toArray), (1, .agg (cc y).toArray)] = some (cc2 x y) := by kernel_rfl
theorem fill1 (x : Ch) : fillA zC.length (zrep 1 zC) [(0, .agg (cc x).toArray)] = some (cc x) := by kernel_rfl
theorem fill3 (x y z : Ch) : fillA zC.length (zrep 3 zC) [(0, .agg (cc x).toArray), (1, .agg (cc y).toArray), (2, .agg (cc z).toArray)] = some (cc2 x y ++ cc z) := by kernel_rfl
def pk (i : Int) (x y : Ch) : Ch := if i = 0 then x else y
theorem in2 {i : Int} (h0 : 0 ≤ i) (h1 : i < 2) : i = 0 ∨ i = 1 := by omega
theorem cut_pk {i : Int} (h0 : 0 ≤ i) (h1 : i < 2) (x y : Ch) : cut (cc2 x y) (0 + i.toNat * 41) 41 = some (cc (pk i x y)) := by
  rcases in2 h0 h1 with rfl | rfl <;> kernel_rfl
theorem ep_pk {i : Int} (h0 : 0 ≤ i) (h1 : i < 2) (x y : Ch) : nth (cc2 x y) (0 + i.toNat * 41 + 3) = some (.int .u64 (pk i x y).ep) := by
  rcases in2 h0 h1 with rfl | rfl <;> kernel_rfl
theorem com_pk {i : Int} (h0 : 0 ≤ i) (h1 : i < 2) (x y : Ch) : cut (cc2 x y) (0 + i.toNat * 41 + 3) 34 = some (com (pk i x y)) := by
  rcases in2 h0 h1 with rfl | rfl <;> kernel_rfl
theorem one_cc2 (x y : Ch) : ((cc2 x y).all (·.oneCell')) = true := by kernel_rfl

/-- May a chip be elected? -/
def mayB (m base i : Int) (x : Ch) : Bool := (((x.h && x.s) && x.w) && hasB m [i]) && decide (base ≤ x.ep)
def bst1 (m base : Int) (x : Ch) : Int := if mayB m base 0 x = true then 0 else -1
def bst2 (m base : Int) (x y : Ch) : Int := if (mayB m base 1 y && (decide (bst1 m base x < 0) || decide (x.ep < y.ep))) = true then 1 else bst1 m base x
def bstAt (i m base : Int) (x y : Ch) : Int := if i = 0 then -1 else if i = 1 then bst1 m base x else bst2 m base x y
def skipB (x : Ch) : Bool := !x.h || !x.s
def badB (m i : Int) (x : Ch) : Bool := hasB m [i] && !x.w
def outAt (i : Int) (x y : Ch) : Int := if (decide (1 ≤ i) && !skipB x || decide (2 ≤ i) && !skipB y) = true then 50 else 51
def refV (m : Int) (x y : Ch) : Int := if ((!skipB x && badB m 0 x) || (!skipB y && badB m 1 y)) = true then 21 else outAt 2 x y
def alikeB (m base b : Int) (x y : Ch) : Bool := mayB m base (1 - b) (pk (1 - b) x y) && comEq (pk (1 - b) x y) (pk b x y)
def memV (m base b : Int) (x y : Ch) : Int := if alikeB m base b x y = true then 3 else IntKind.i64.wrap (1 * 2 ^ (min b.toNat 64))
abbrev pl (c m : Int) (f : Bool) : List Value := [.int .i64 c, .int .i64 m, .bool f]
/-- The plan: chip, members, fence; the error's number. -/
def planT (n m base : Int) (x y : Ch) : Int × Int × Bool × Int :=
  if rightB n m = false then (0, 0, false, 51) else if bst2 m base x y < 0 then (0, 0, false, refV m x y)
  else (bst2 m base x y, memV m base (bst2 m base x y) x y, !decide (memV m base (bst2 m base x y) x y = m), 0)

theorem setB0 (n m : Int) : setB n m 0 = rightB n m := by
  unfold setB rightB
  by_cases h : 1 ≤ n
  · have : (0 : Int) < n := by omega
    simp [h, this]
  · simp [h]
def okTo (m i : Int) (x y : Ch) : Bool := !(decide (1 ≤ i) && (!skipB x && badB m 0 x)) && !(decide (2 ≤ i) && (!skipB y && badB m 1 y))
section
variable {m i base q : Int} {x y : Ch}
theorem out_skip (h0 : 0 ≤ i) (h1 : i < 2) (hs : skipB (pk i x y) = true) : outAt (i + 1) x y = outAt i x y := by
  rcases in2 h0 h1 with rfl | rfl <;> simp [pk] at hs <;> simp [outAt, hs]
theorem out_no (h0 : 0 ≤ i) (h1 : i < 2) (hs : skipB (pk i x y) = false) : outAt (i + 1) x y = 50 := by
  rcases in2 h0 h1 with rfl | rfl <;> simp [pk] at hs <;> simp [outAt, hs]
theorem ok_skip (h0 : 0 ≤ i) (h1 : i < 2) (hs : skipB (pk i x y) = true) (h : okTo m i x y = true) : okTo m (i + 1) x y = true := by
  rcases in2 h0 h1 with rfl | rfl <;> simp [pk] at hs <;> simp [okTo, hs] at h ⊢ <;> exact h
theorem ok_no (h0 : 0 ≤ i) (h1 : i < 2) (hb : badB m i (pk i x y) = false) (h : okTo m i x y = true) : okTo m (i + 1) x y = true := by
  rcases in2 h0 h1 with rfl | rfl <;> simp [pk] at hb <;> simp [okTo, hb] at h ⊢ <;> exact h
theorem ref_bad (h0 : 0 ≤ i) (h1 : i < 2) (hs : skipB (pk i x y) = false) (hb : badB m i (pk i x y) = true) : refV m x y = 21 := by
  rcases in2 h0 h1 with rfl | rfl <;> simp [pk] at hs hb <;> simp [refV, hs, hb]
theorem ref_end (h : okTo m 2 x y = true) : refV m x y = outAt 2 x y := by
  unfold refV
  rw [if_neg]
  revert h; unfold okTo; cases skipB x <;> cases skipB y <;> cases badB m 0 x <;> cases badB m 1 y <;> simp
theorem bst_take (h0 : 0 ≤ i) (h1 : i < 2) (hq : q = bstAt i m base x y) (hc : (mayB m base i (pk i x y) && (decide (q < 0) || decide ((pk q x y).ep < (pk i x y).ep))) = true) : i = bstAt (i + 1) m base x y := by
  rcases in2 h0 h1 with rfl | rfl
  · simp [pk] at hc; simp [bstAt, bst1, hc.1]
  · have e : bstAt 1 m base x y = bst1 m base x := by simp [bstAt]
    rw [e] at hq
    have : q = 0 ∨ q = -1 := by rw [hq]; unfold bst1; split <;> simp
    rcases this with h | h <;> rw [h] at hc hq <;> simp [pk] at hc <;> simp [bstAt, bst2, ← hq, hc]
theorem bst_keep (h0 : 0 ≤ i) (h1 : i < 2) (hq : q = bstAt i m base x y) (hc : (mayB m base i (pk i x y) && (decide (q < 0) || decide ((pk q x y).ep < (pk i x y).ep))) = false) : q = bstAt (i + 1) m base x y := by
  rcases in2 h0 h1 with rfl | rfl
  · simp [bstAt] at hq; subst hq; simp [pk] at hc; simp [bstAt, bst1, hc]
  · have e : bstAt 1 m base x y = bst1 m base x := by simp [bstAt]
    rw [e] at hq
    have : q = 0 ∨ q = -1 := by rw [hq]; unfold bst1; split <;> simp
    have e2 : bstAt (1 + 1) m base x y = bst2 m base x y := by simp [bstAt]
    rw [e2]
    unfold bst2
    rw [← hq]
    rcases this with h | h <;> rw [h] at hc <;> simp [pk] at hc <;> subst h <;> simp
    · intro h2; exact hc h2
    · simp [hc]
theorem bst_in : bst2 m base x y < 2 ∧ -1 ≤ bst2 m base x y := by
  unfold bst2 bst1; split <;> (try split) <;> simp
end

section
variable {n m i base q : Int} {x y : Ch}
theorem may_skip (h : skipB x = true) : mayB m base i x = false := by
  unfold skipB at h; unfold mayB; revert h; cases x.h <;> cases x.s <;> simp
theorem may_form : ((((x.h && x.s) && !x.w) && hasB m [i]) = (!skipB x && badB m i x)) := by
  unfold skipB badB; cases x.h <;> cases x.s <;> cases x.w <;> cases hasB m [i] <;> rfl
theorem bst_none (h1 : mayB m base 0 x = false) (h2 : mayB m base 1 y = false) : bst2 m base x y = -1 := by simp [bst2, bst1, h1, h2]
theorem ref_a (h : (!rightB n m || (skipB x && skipB y)) = true) : planT n m base x y = (0, 0, false, 51) := by
  unfold planT
  by_cases hr : rightB n m = false
  · rw [if_pos hr]
  · rw [if_neg hr]
    have hr2 : rightB n m = true := by simpa using hr
    rw [hr2] at h
    simp only [Bool.not_true, Bool.false_or, Bool.and_eq_true] at h
    rw [bst_none (may_skip h.1) (may_skip h.2), if_pos (by omega)]
    simp [refV, outAt, h.1, h.2]
theorem ref_b (h : (!rightB n m || (skipB x && skipB y)) = false) (h1 : mayB m base 0 x = false) (h2 : mayB m base 1 y = false) (h3 : ((!skipB x && badB m 0 x) || (!skipB y && badB m 1 y)) = true) : planT n m base x y = (0, 0, false, 21) := by
  unfold planT
  rw [if_neg (by intro e; rw [e] at h; simp at h), bst_none h1 h2, if_pos (by omega), refV, if_pos h3]
theorem ref_c (h : (!rightB n m || (skipB x && skipB y)) = false) (h1 : mayB m base 0 x = false) (h2 : mayB m base 1 y = false) (h3 : ((!skipB x && badB m 0 x) || (!skipB y && badB m 1 y)) = false) : planT n m base x y = (0, 0, false, 50) := by
  unfold planT
  rw [if_neg (by intro e; rw [e] at h; simp at h), bst_none h1 h2, if_pos (by omega), refV, if_neg (by rw [h3]; exact Bool.false_ne_true), outAt, if_pos]
  revert h; cases rightB n m <;> cases skipB x <;> cases skipB y <;> simp
def refC (m base : Int) (x y : Ch) : Bool := !mayB m base 0 x || (mayB m base 1 y && decide (x.ep < y.ep))
def refA (m base : Int) (x y : Ch) : Bool := (mayB m base 0 x && mayB m base 1 y) && comEq x y
theorem bst_refC (h1 : (!mayB m base 0 x && !mayB m base 1 y) = false) : bst2 m base x y = if refC m base x y = true then 1 else 0 := by
  unfold bst2 bst1 refC
  revert h1; cases mayB m base 0 x <;> cases mayB m base 1 y <;> simp
theorem alike_refA (h1 : (!mayB m base 0 x && !mayB m base 1 y) = false) : alikeB m base (bst2 m base x y) x y = refA m base x y := by
  have h2 := h1
  rw [bst_refC h1]
  unfold refC alikeB refA
  revert h1; cases hx : mayB m base 0 x <;> cases hy : mayB m base 1 y <;> simp [pk, hx, hy]
  by_cases hl : x.ep < y.ep
  · simp [hl, hx, hy, show ¬ y.ep ≤ x.ep by omega]
  · simp [hl, hx, hy, show y.ep ≤ x.ep by omega, comEq_comm y x]
theorem ref_d (h : (!rightB n m || (skipB x && skipB y)) = false) (h1 : (!mayB m base 0 x && !mayB m base 1 y) = false) {c k : Int} (hc : c = if refC m base x y = true then 1 else 0) (hk : k = if refA m base x y = true then 3 else c + 1) : planT n m base x y = (c, k, !decide (k = m), 0) := by
  unfold planT
  have hm : memV m base (bst2 m base x y) x y = k := by
    rw [memV, alike_refA h1, bst_refC h1, hk, ← hc]
    split
    · rfl
    · have : c = 0 ∨ c = 1 := by rw [hc]; split <;> simp
      rcases this with rfl | rfl <;> decide
  have hb := bst_refC h1
  rw [← hc] at hb
  rw [if_neg (by intro e; rw [e] at h; simp at h), if_neg (by rw [hb, hc]; split <;> omega), hm, hb]
/-- What an elected chip is. -/
theorem plan_ok (h : (planT n m base x y).2.2.2 = 0) : ∃ c k : Int, planT n m base x y = (c, k, !decide (k = m), 0) ∧ (c = 0 ∨ c = 1) ∧ rightB n m = true ∧ mayB m base c (pk c x y) = true ∧ (mayB m base (1 - c) (pk (1 - c) x y) = true → (pk (1 - c) x y).ep ≤ (pk c x y).ep) ∧
    c = (if refC m base x y = true then 1 else 0) ∧ k = (if refA m base x y = true then 3 else c + 1) := by
  by_cases hr : rightB n m = false
  · simp [planT, hr] at h
  · have hr2 : rightB n m = true := by simpa using hr
    by_cases h1 : (!mayB m base 0 x && !mayB m base 1 y) = false
    · have hs : (!rightB n m || (skipB x && skipB y)) = false := by
        rw [hr2]
        by_cases hx : skipB x = true
        · by_cases hy : skipB y = true
          · rw [may_skip hx, may_skip hy] at h1; simp at h1
          · simp [hy]
        · simp [hx]
      refine ⟨_, _, ref_d hs h1 rfl rfl, ?_, hr2, ?_, ?_, rfl, rfl⟩
      · split <;> simp
      · unfold refC; revert h1; cases hx : mayB m base 0 x <;> cases hy : mayB m base 1 y <;> simp [pk, hx, hy]
        by_cases hl : x.ep < y.ep
        · simp [hl, hx, hy, show ¬ y.ep ≤ x.ep by omega]
        · simp [hl, hx, hy, show y.ep ≤ x.ep by omega]
      · unfold refC; revert h1; cases hx : mayB m base 0 x <;> cases hy : mayB m base 1 y <;> simp [pk, hx, hy]
        by_cases hl : x.ep < y.ep
        · simp [hl, show ¬ y.ep ≤ x.ep by omega]; omega
        · simp [hl, show y.ep ≤ x.ep by omega]
    · have h2 : mayB m base 0 x = false ∧ mayB m base 1 y = false := by revert h1; cases mayB m base 0 x <;> cases mayB m base 1 y <;> simp
      rw [planT, if_neg hr, bst_none h2.1 h2.2, if_pos (by omega)] at h
      simp only [refV, outAt] at h
      split at h
      · omega
      · split at h <;> omega
theorem plan_no (h : ¬ (planT n m base x y).2.2.2 = 0) : planT n m base x y = (0, 0, false, (planT n m base x y).2.2.2) := by
  unfold planT at *
  split
  · rfl
  · split
    · rfl
    · rename_i h1 h2; rw [if_neg h1, if_neg h2] at h; exact absurd rfl h
end
theorem has_one {m i : Int} : hasB m [i] = !outI m i := by simp [hasB]
theorem may_both {a b : Bool} (h : (!a && !b) = true) : a = false ∧ b = false := by revert h; cases a <;> cases b <;> simp
theorem gone_ok {n m b : Int} {x z : Ch} (h : skipB x = true) (h0 : (planT n m b x z).2.2.2 = 0) : (planT n m b x z).1 = 1 ∧ (planT n m b x z).2.1 = 2 := by
  obtain ⟨c, k, e, hc, _, hm, _, hcc, hk⟩ := plan_ok h0
  have hx : ∀ i, mayB m b i x = false := fun i => may_skip h
  have h1 : c = 1 := by simp [hcc, refC, hx]
  have h2 : k = 2 := by simp [hk, refA, hx, h1]
  rw [e]; exact ⟨h1, h2⟩
theorem gone_eq (n m b : Int) (x z : Ch) (h : skipB x = true) : planT n m b x z = planT n m b zCh z := by
  have hz : skipB zCh = true := rfl
  have h1 : mayB m b 0 x = mayB m b 0 zCh := by rw [may_skip h, may_skip hz]
  have h2 : bst1 m b x = bst1 m b zCh := by simp only [bst1, h1]
  have h2n : bst1 m b x = -1 := by simp only [bst1, may_skip h]; rfl
  have h2z : bst1 m b zCh = -1 := by rw [← h2, h2n]
  have h3 : bst2 m b x z = bst2 m b zCh z := by simp only [bst2, h2n, h2z]; simp
  have h4 : refV m x z = refV m zCh z := by simp [refV, outAt, h, hz]
  have h5 : ∀ q, q = -1 ∨ q = 1 → memV m b q x z = memV m b q zCh z := by
    intro q hq
    have : alikeB m b q x z = alikeB m b q zCh z := by
      rcases hq with rfl | rfl
      · simp [alikeB, pk, may_skip (i := 2) (m := m) (base := b) h, mayB]
      · simp [alikeB, pk, may_skip h, may_skip hz]
    simp only [memV, this]
  have h6 : bst2 m b x z = -1 ∨ bst2 m b x z = 1 := by simp only [bst2, h2n]; split <;> simp
  simp only [planT, ← h3, ← h4, h5 _ h6]
end Go.Proofs.Ytocfdkjoklgecaa
