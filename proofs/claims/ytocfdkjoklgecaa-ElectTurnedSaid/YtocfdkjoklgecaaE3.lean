/- Elections with the chips turned round. -/
import Derived.Test.YtocfdkjoklgecaaE1
namespace Go.Proofs.Ytocfdkjoklgecaa
open Go.K
set_option linter.unusedVariables false
set_option linter.unusedSimpArgs false

/-- The members, turned round. -/
def Turn (m V : Int) : Prop := (m = 0 ∧ V = 0) ∨ (m = 1 ∧ V = 2) ∨ (m = 2 ∧ V = 1) ∨ (m = 3 ∧ V = 3)
section
variable {n m V b : Int} {x z : Ch}
theorem turn_has (h : Turn m V) : hasB V [0] = hasB m [1] ∧ hasB V [1] = hasB m [0] := by
  rcases h with ⟨rfl, rfl⟩ | ⟨rfl, rfl⟩ | ⟨rfl, rfl⟩ | ⟨rfl, rfl⟩ <;> decide
theorem turn_right (h : Turn m V) : rightB n V = rightB n m := by
  rcases h with ⟨rfl, rfl⟩ | ⟨rfl, rfl⟩ | ⟨rfl, rfl⟩ | ⟨rfl, rfl⟩ <;> simp [rightB]
theorem turn_may (h : Turn m V) (u : Ch) : mayB V b 0 u = mayB m b 1 u ∧ mayB V b 1 u = mayB m b 0 u := by
  obtain ⟨h0, h1⟩ := turn_has h
  simp only [mayB, h0, h1, and_self]
theorem turn_bad (h : Turn m V) (u : Ch) : badB V 0 u = badB m 1 u ∧ badB V 1 u = badB m 0 u := by
  obtain ⟨h0, h1⟩ := turn_has h
  simp only [badB, h0, h1, and_self]
theorem turn_ref (h : Turn m V) : refV V z x = refV m x z := by
  simp only [refV, outAt, turn_bad h]
  cases skipB x <;> cases skipB z <;> cases badB m 0 x <;> cases badB m 1 z <;> rfl
theorem plan_err : (planT n m b x z).2.2.2 = if rightB n m = false then 51 else if (!mayB m b 0 x && !mayB m b 1 z) = true then refV m x z else 0 := by
  unfold planT
  split
  · rfl
  · by_cases h : (!mayB m b 0 x && !mayB m b 1 z) = false
    · rw [if_neg (by rw [bst_refC h]; split <;> omega), if_neg (by rw [h]; exact Bool.false_ne_true)]
    · have h2 : (!mayB m b 0 x && !mayB m b 1 z) = true := by simpa using h
      obtain ⟨h3, h4⟩ := may_both h2
      rw [bst_none h3 h4, if_pos (by omega), if_pos h2]
theorem turn_err (h : Turn m V) : (planT n V b z x).2.2.2 = (planT n m b x z).2.2.2 := by
  rw [plan_err, plan_err, turn_right h, turn_ref h, (turn_may h z).1, (turn_may h x).2, Bool.and_comm]
theorem turn_plan (h : Turn m V) (h0 : (planT n m b x z).2.2.2 = 0) (he : x.ep ≠ z.ep) : ∃ c k, (c = 0 ∨ c = 1) ∧ (k = 3 ∨ k = c + 1) ∧ planT n m b x z = (c, k, !decide (k = m), 0) ∧ planT n V b z x = (1 - c, (if k = 3 then 3 else 1 - c + 1), !decide ((if k = 3 then (3 : Int) else 1 - c + 1) = V), 0) := by
  obtain ⟨c, k, e, hc, _, hm, _, hcc, hk⟩ := plan_ok h0
  obtain ⟨c2, k2, e2, hc2, _, hm2, _, hcc2, hk2⟩ := plan_ok ((turn_err h).trans h0)
  have hh : c2 = 1 - c := by
    rw [hcc, hcc2]
    simp only [refC, turn_may h]
    have h1 : (mayB m b 0 x || mayB m b 1 z) = true := by
      rcases hc with rfl | rfl <;> simp [pk] at hm <;> simp [hm]
    by_cases h2 : x.ep < z.ep
    · have h3 : ¬ z.ep < x.ep := by omega
      rcases Bool.eq_false_or_eq_true (mayB m b 0 x) with hx | hx <;> rcases Bool.eq_false_or_eq_true (mayB m b 1 z) with hz | hz <;> simp [hx, hz, h2, h3] at h1 ⊢
    · have h3 : z.ep < x.ep := by omega
      rcases Bool.eq_false_or_eq_true (mayB m b 0 x) with hx | hx <;> rcases Bool.eq_false_or_eq_true (mayB m b 1 z) with hz | hz <;> simp [hx, hz, h2, h3] at h1 ⊢
  have ha : refA V b z x = refA m b x z := by simp only [refA, turn_may h, comEq_comm z x, Bool.and_comm]
  rw [ha] at hk2
  subst hh
  refine ⟨c, k, hc, ?_, e, ?_⟩
  · rw [hk]; split <;> simp
  · rw [e2, hk2, hk]
    by_cases h3 : refA m b x z = true
    · simp [h3]
    · have h4 : ¬ c + 1 = 3 := by omega
      simp [h3, h4]
end
def swp (m : Int) : Int := ibits .or .i64 (m.fdiv (2 ^ min (Int.toNat 1) IntKind.i64.bits)) (IntKind.i64.wrap (ibits .and .i64 m 1 * 2 ^ min (Int.toNat 1) IntKind.i64.bits))
theorem turn_swp {m : Int} (h0 : 0 ≤ m) (h3 : m ≤ 3) : Turn m (swp m) := by
  have : m = 0 ∨ m = 1 ∨ m = 2 ∨ m = 3 := by omega
  rcases this with rfl | rfl | rfl | rfl <;> (unfold Turn; decide)
theorem turn_law {n m b : Int} {x z : Ch} (h0 : 0 ≤ m) (h3 : m ≤ 3) (hc : (!decide ((planT n m b x z).2.2.2 = 0) || decide (x.ep = z.ep)) = false) :
    ((decide ((planT n m b x z).1 = IntKind.i64.wrap (1 - (planT n (swp m) b z x).1)) && ((planT n m b x z).2.2.1 == (planT n (swp m) b z x).2.2.1)) && decide ((planT n m b x z).2.1 = swp (planT n (swp m) b z x).2.1)) = true := by
  simp only [Bool.or_eq_false_iff, Bool.not_eq_false', decide_eq_true_eq, decide_eq_false_iff_not] at hc
  obtain ⟨c, k, hc2, hk, e1, e2⟩ := turn_plan (turn_swp h0 h3) hc.1 hc.2
  rw [e1, e2]
  have : m = 0 ∨ m = 1 ∨ m = 2 ∨ m = 3 := by omega
  rcases hc2 with rfl | rfl <;> rcases hk with rfl | rfl <;> rcases this with rfl | rfl | rfl | rfl <;> first | rfl | decide
theorem turned_fn {n m b : Int} {x z : Ch} : Does Try.prog 8 [vv n m b, .agg (cc x).toArray, .agg (cc z).toArray] [] (Is (.bool true) []) := by
  refine fn_enter (n := 88) Try.func8 Try.ntmps8 rfl (Nat.le_of_ble_eq_true rfl) ?_
  refine s_seq ?_
  refine s_region0 (fun ops => ?_)
  refine o_box rfl rfl (fun b3 => ?_)
  refine o_boxA rfl rfl (fun b4 => ?_)
  refine o_boxA rfl rfl (fun b5 => ?_)
  refine o_rd (rd_assign rfl) rfl ?_
  refine o_nil ?_
  refine n_K ?_
  refine s_seq ?_
  refine s_seq ?_
  refine s_region0 (fun ops => ?_)
  refine o_call_is rfl (espeaks_fn) (by repeat (first | exact Split.nil | (apply Split.cons; next => repeat (first | exact Pick.here | apply Pick.there)))) rfl rfl ?_
  refine o_rd (rd_not rfl) rfl ?_
  refine o_nil ?_
  refine n_K ?_
  refine s_condF rfl ?_
  refine s_skip ?_
  refine n_K ?_
  refine s_seq ?_
  refine s_seq ?_
  refine s_region [(3, 17)] rfl (fun ops y => ?_)
  refine o_rd (rd_field rfl) rfl ?_
  refine o_rd (rd_ld rfl (by repeat' first | exact List.Mem.head _ | apply List.Mem.tail) rfl) rfl ?_
  refine o_rd (rd_bin rfl rfl rfl) rfl ?_
  refine o_rd (rd_move rfl) rfl ?_
  refine' o_or (j := 3) (k := 3) y rfl rfl rfl rfl rfl rfl rfl (fun hg17 => ?_) ?_
  rotate_left
  · try simp at hg17
    refine o_g y rfl rfl ?_
    refine o_rd (rd_field rfl) rfl ?_
    refine o_g y rfl rfl ?_
    refine o_rd (rd_ld rfl (by repeat' first | exact List.Mem.head _ | apply List.Mem.tail) rfl) rfl ?_
    refine o_g y rfl rfl ?_
    refine o_rd (rd_bin rfl rfl rfl) rfl ?_
    exact o_nil ⟨rfl, rfl, ⟨_, (by repeat (first | exact Split.nil | (apply Split.cons; next => repeat (first | exact Pick.here | apply Pick.there))))⟩⟩
  refine o_nil ?_
  refine n_K ?_
  refine s_cond rfl (fun c21 => ?_) (fun c21 => ?_)
  · try simp at c21
    refine s_seq ?_
    refine s_region0 (fun ops => ?_)
    refine o_rd (rd_assign rfl) rfl ?_
    refine o_nil ?_
    refine n_K ?_
    refine s_ret ?_
    refine r_K ?_
    refine leaf_is (rets1 Try.results8 (rv_tmp rfl)) ?_ (by repeat (first | exact Split.nil | (apply Split.cons; next => repeat (first | exact Pick.here | apply Pick.there))))
    first | rfl | exact congrArg Value.bool (turn_law c21.1 c21.2 c61)
  · try simp at c21
    refine s_skip ?_
    refine n_K ?_
    refine s_seq ?_
    refine s_region0 (fun ops => ?_)
    refine o_rd (rd_ldA rfl (by repeat' first | exact List.Mem.head _ | apply List.Mem.tail) rfl) rfl ?_
    refine o_alloc rfl (fun b7 => ?_)
    refine o_store rfl rfl (by repeat' first | exact Upd.here | apply Upd.there) rfl rfl rfl ?_
    refine o_nil ?_
    refine n_K ?_
    refine s_seq ?_
    refine s_region0 (fun ops => ?_)
    refine o_rd (rd_field rfl) rfl ?_
    refine o_rd (rd_ld rfl (by repeat' first | exact List.Mem.head _ | apply List.Mem.tail) rfl) rfl ?_
    refine o_rd (rd_shr rfl rfl (by omega)) rfl ?_
    refine o_rd (rd_field rfl) rfl ?_
    refine o_rd (rd_ld rfl (by repeat' first | exact List.Mem.head _ | apply List.Mem.tail) rfl) rfl ?_
    refine o_rd (rd_bin rfl rfl rfl) rfl ?_
    refine o_rd (rd_shl rfl rfl (by omega)) rfl ?_
    refine o_rd (show Rd _ _ _ _ (.int .i64 (swp m)) from rd_bin rfl rfl rfl) rfl ?_
    refine o_rd (rd_field rfl) rfl ?_
    refine o_store rfl rfl (by repeat' first | exact Upd.here | apply Upd.there) rfl rfl rfl ?_
    refine o_nil ?_
    refine n_K ?_
    refine s_seq ?_
    refine s_region0 (fun ops => ?_)
    refine o_rd (rd_ldA rfl (by repeat' first | exact List.Mem.head _ | apply List.Mem.tail) rfl) rfl ?_
    refine o_rd (rd_ldA rfl (by repeat' first | exact List.Mem.head _ | apply List.Mem.tail) (by first | exact cut_cc _ | rfl)) rfl ?_
    refine o_rd (rd_ldA rfl (by repeat' first | exact List.Mem.head _ | apply List.Mem.tail) (by first | exact cut_cc _ | rfl)) rfl ?_
    refine o_bslice_k (cs := cc2 x z) rfl (fill2 _ _) rfl rfl (fun b36 => ?_)
    refine o_call_is rfl (choose2_fn) (by repeat (first | exact Split.nil | (apply Split.cons; next => repeat (first | exact Pick.here | apply Pick.there)))) rfl rfl ?_
    refine o_rd (rd_move rfl) rfl ?_
    refine o_rd (rd_extract rfl rfl) rfl ?_
    refine o_rd (rd_extract rfl rfl) rfl ?_
    refine o_alloc rfl (fun b8 => ?_)
    refine o_store rfl rfl (by repeat' first | exact Upd.here | apply Upd.there) rfl rfl rfl ?_
    refine o_rd (rd_assign rfl) rfl ?_
    refine o_nil ?_
    refine n_K ?_
    refine s_seq ?_
    refine s_region0 (fun ops => ?_)
    refine o_rd (rd_ldA rfl (by repeat' first | exact List.Mem.head _ | apply List.Mem.tail) rfl) rfl ?_
    refine o_rd (rd_ldA rfl (by repeat' first | exact List.Mem.head _ | apply List.Mem.tail) (by first | exact cut_cc _ | rfl)) rfl ?_
    refine o_rd (rd_ldA rfl (by repeat' first | exact List.Mem.head _ | apply List.Mem.tail) (by first | exact cut_cc _ | rfl)) rfl ?_
    refine o_bslice_k (cs := cc2 z x) rfl (fill2 _ _) rfl rfl (fun b44 => ?_)
    refine o_call_is rfl (choose2_fn) (by repeat (first | exact Split.nil | (apply Split.cons; next => repeat (first | exact Pick.here | apply Pick.there)))) rfl rfl ?_
    refine o_rd (rd_move rfl) rfl ?_
    refine o_rd (rd_extract rfl rfl) rfl ?_
    refine o_rd (rd_extract rfl rfl) rfl ?_
    refine o_alloc rfl (fun b10 => ?_)
    refine o_store rfl rfl (by repeat' first | exact Upd.here | apply Upd.there) rfl rfl rfl ?_
    refine o_rd (rd_assign rfl) rfl ?_
    refine o_nil ?_
    refine n_K ?_
    refine s_seq ?_
    refine s_seq ?_
    refine s_region0 (fun ops => ?_)
    refine o_rd (rd_move rfl) rfl ?_
    refine o_rd (rd_move rfl) rfl ?_
    refine o_rd (rd_bin rfl rfl rfl) rfl ?_
    refine o_nil ?_
    refine n_K ?_
    refine s_cond rfl (fun c50 => ?_) (fun c50 => ?_)
    · skip
      (rw [turn_err (turn_swp c21.1 c21.2)] at c50; simp at c50)
    · skip
      refine s_skip ?_
      refine n_K ?_
      refine s_seq ?_
      refine s_seq ?_
      refine s_region [(2, 53)] rfl (fun ops y => ?_)
      refine o_rd (rd_move rfl) rfl ?_
      refine o_rd (rd_bin rfl rfl rfl) rfl ?_
      refine o_rd (rd_move rfl) rfl ?_
      refine' o_or (j := 2) (k := 7) y rfl rfl rfl rfl rfl rfl rfl (fun hg53 => ?_) ?_
      rotate_left
      · try simp at hg53
        refine o_g y rfl rfl ?_
        refine o_rd (rd_field rfl) rfl ?_
        refine o_g y rfl rfl ?_
        refine o_rd (rd_field rfl) rfl ?_
        refine o_g y rfl rfl ?_
        refine o_rd (rd_ld rfl (by repeat' first | exact List.Mem.head _ | apply List.Mem.tail) rfl) rfl ?_
        refine o_g y rfl rfl ?_
        refine o_rd (rd_field rfl) rfl ?_
        refine o_g y rfl rfl ?_
        refine o_rd (rd_field rfl) rfl ?_
        refine o_g y rfl rfl ?_
        refine o_rd (rd_ld rfl (by repeat' first | exact List.Mem.head _ | apply List.Mem.tail) rfl) rfl ?_
        refine o_g y rfl rfl ?_
        refine o_rd (rd_bin rfl rfl rfl) rfl ?_
        exact o_nil ⟨rfl, rfl, ⟨_, (by repeat (first | exact Split.nil | (apply Split.cons; next => repeat (first | exact Pick.here | apply Pick.there))))⟩⟩
      refine o_nil ?_
      refine n_K ?_
      refine s_cond rfl (fun c61 => ?_) (fun c61 => ?_)
      · skip
        refine s_seq ?_
        refine s_region0 (fun ops => ?_)
        refine o_rd (rd_assign rfl) rfl ?_
        refine o_nil ?_
        refine n_K ?_
        refine s_ret ?_
        refine r_K ?_
        refine leaf_is (rets1 Try.results8 (rv_tmp rfl)) ?_ (by repeat (first | exact Split.nil | (apply Split.cons; next => repeat (first | exact Pick.here | apply Pick.there))))
        first | rfl | exact congrArg Value.bool (turn_law c21.1 c21.2 c61)
      · skip
        refine s_skip ?_
        refine n_K ?_
        refine s_seq ?_
        refine s_region [(6, 68), (13, 75)] rfl (fun ops y => ?_)
        refine o_rd (rd_field rfl) rfl ?_
        refine o_rd (rd_ld rfl (by repeat' first | exact List.Mem.head _ | apply List.Mem.tail) rfl) rfl ?_
        refine o_rd (rd_field rfl) rfl ?_
        refine o_rd (rd_ld rfl (by repeat' first | exact List.Mem.head _ | apply List.Mem.tail) rfl) rfl ?_
        refine o_rd (rd_bin rfl rfl rfl) rfl ?_
        refine o_rd (rd_bin rfl rfl rfl) rfl ?_
        refine o_rd (rd_move rfl) rfl ?_
        refine' o_and (j := 6) (k := 5) y rfl rfl rfl rfl rfl rfl rfl (fun hg68 => ?_) ?_
        rotate_left
        · try simp at hg68
          refine o_g y rfl rfl ?_
          refine o_rd (rd_field rfl) rfl ?_
          refine o_g y rfl rfl ?_
          refine o_rd (rd_ld rfl (by repeat' first | exact List.Mem.head _ | apply List.Mem.tail) rfl) rfl ?_
          refine o_g y rfl rfl ?_
          refine o_rd (rd_field rfl) rfl ?_
          refine o_g y rfl rfl ?_
          refine o_rd (rd_ld rfl (by repeat' first | exact List.Mem.head _ | apply List.Mem.tail) rfl) rfl ?_
          refine o_g y rfl rfl ?_
          refine o_rd (rd_eqB rfl rfl) rfl ?_
          exact o_nil ⟨rfl, rfl, ⟨_, (by repeat (first | exact Split.nil | (apply Split.cons; next => repeat (first | exact Pick.here | apply Pick.there))))⟩⟩
        refine o_rd (rd_move rfl) rfl ?_
        refine' o_and (j := 13) (k := 11) y rfl rfl rfl rfl rfl rfl rfl (fun hg75 => ?_) ?_
        rotate_left
        · try simp at hg75
          refine o_g y rfl rfl ?_
          refine o_rd (rd_field rfl) rfl ?_
          refine o_g y rfl rfl ?_
          refine o_rd (rd_ld rfl (by repeat' first | exact List.Mem.head _ | apply List.Mem.tail) rfl) rfl ?_
          refine o_g y rfl rfl ?_
          refine o_rd (rd_field rfl) rfl ?_
          refine o_g y rfl rfl ?_
          refine o_rd (rd_ld rfl (by repeat' first | exact List.Mem.head _ | apply List.Mem.tail) rfl) rfl ?_
          refine o_g y rfl rfl ?_
          refine o_rd (rd_shr rfl rfl (by omega)) rfl ?_
          refine o_g y rfl rfl ?_
          refine o_rd (rd_field rfl) rfl ?_
          refine o_g y rfl rfl ?_
          refine o_rd (rd_ld rfl (by repeat' first | exact List.Mem.head _ | apply List.Mem.tail) rfl) rfl ?_
          refine o_g y rfl rfl ?_
          refine o_rd (rd_bin rfl rfl rfl) rfl ?_
          refine o_g y rfl rfl ?_
          refine o_rd (rd_shl rfl rfl (by omega)) rfl ?_
          refine o_g y rfl rfl ?_
          refine o_rd (show Rd _ _ _ _ (.int .i64 (swp (planT n (swp m) b z x).2.1)) from rd_bin rfl rfl rfl) rfl ?_
          refine o_g y rfl rfl ?_
          refine o_rd (rd_bin rfl rfl rfl) rfl ?_
          exact o_nil ⟨rfl, rfl, ⟨_, (by repeat (first | exact Split.nil | (apply Split.cons; next => repeat (first | exact Pick.here | apply Pick.there))))⟩⟩
        refine o_rd (rd_assign rfl) rfl ?_
        refine o_nil ?_
        refine n_K ?_
        refine s_ret ?_
        refine leaf_is (rets1 Try.results8 (rv_tmp rfl)) ?_ (by repeat (first | exact Split.nil | (apply Split.cons; next => repeat (first | exact Pick.here | apply Pick.there))))
        first | rfl | exact congrArg Value.bool (turn_law c21.1 c21.2 c61)
end Go.Proofs.Ytocfdkjoklgecaa
