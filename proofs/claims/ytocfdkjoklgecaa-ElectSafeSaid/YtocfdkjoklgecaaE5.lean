/- Who is elected is a member, whole, and not behind. -/
import Derived.Test.YtocfdkjoklgecaaE1
import Derived.Test.YtocfdkjoklgecaaK11
namespace Go.Proofs.Ytocfdkjoklgecaa
open Go.K
set_option linter.unusedVariables false
set_option linter.unusedSimpArgs false
section
variable {n m b c k i : Int} {x z u v : Ch}
theorem safe_and (hr : rightB n m = true) (hc : c = 0 ∨ c = 1) (hm : mayB m b c (pk c x z) = true) (hk : k = if refA m b x z = true then 3 else c + 1) : ibits .and .i64 k m = k := by
  have hm3 : m = 1 ∨ m = 2 ∨ m = 3 := by simp [rightB] at hr; omega
  have hh : hasB m [c] = true := by unfold mayB at hm; revert hm; cases hasB m [c] <;> simp
  by_cases ha : refA m b x z = true
  · rw [if_pos ha] at hk
    have h0 : hasB m [0] = true := by unfold refA mayB at ha; revert ha; cases hasB m [0] <;> simp
    have h1 : hasB m [1] = true := by unfold refA mayB at ha; revert ha; cases hasB m [1] <;> simp
    subst hk
    rcases hm3 with rfl | rfl | rfl
    · exact absurd h1 (by decide)
    · exact absurd h0 (by decide)
    · decide
  · rw [if_neg ha] at hk
    subst hk
    rcases hc with rfl | rfl <;> rcases hm3 with rfl | rfl | rfl <;> first | decide | exact absurd hh (by decide)
theorem safe_no (hm : mayB m b c u = true) (ha : ibits .and .i64 k m = k) : (((((!u.h || !u.s) || !u.w) || decide (u.ep < b)) || !!outI m c) || !decide (ibits .and .i64 k m = k)) = false := by
  have hb : b ≤ u.ep := by unfold mayB at hm; simp at hm; exact hm.2
  have hn : ¬ u.ep < b := by omega
  unfold mayB at hm
  rw [has_one] at hm
  simp only [ha, hn, decide_false, decide_true]
  revert hm; cases u.h <;> cases u.s <;> cases u.w <;> cases outI m c <;> simp
theorem safe_le (hm : mayB m b c u = true) (hle : mayB m b i v = true → v.ep ≤ u.ep) : (!(((v.h && v.s) && v.w) && !outI m i) || decide (v.ep ≤ u.ep)) = true := by
  have hb : b ≤ u.ep := by unfold mayB at hm; simp at hm; exact hm.2
  by_cases h : v.ep ≤ u.ep
  · simp [h]
  · have h2 : mayB m b i v = false := by
      cases hx : mayB m b i v with
      | false => rfl
      | true => exact absurd (hle hx) h
    have h3 : b ≤ v.ep := by omega
    unfold mayB at h2
    rw [has_one] at h2
    simp [h3] at h2
    revert h2; cases v.h <;> cases v.s <;> cases v.w <;> cases outI m i <;> simp
end
theorem safe_fn {n m b : Int} {x z : Ch} : Does Try.prog 7 [vv n m b, .agg (cc x).toArray, .agg (cc z).toArray] [] (Is (.bool true) []) := by
  refine fn_enter (n := 100) Try.func7 Try.ntmps7 rfl (Nat.le_of_ble_eq_true rfl) ?_
  refine s_seq ?_
  refine s_region0 (fun ops => ?_)
  refine o_box rfl rfl (fun b3 => ?_)
  refine o_boxA rfl rfl (fun b4 => ?_)
  refine o_boxA rfl rfl (fun b5 => ?_)
  refine o_rd (rd_assign rfl) rfl ?_
  refine o_nil ?_
  refine n_K ?_
  refine s_seq ?_
  refine s_seq ?_
  refine s_region0 (fun ops => ?_)
  refine o_call_is rfl (espeaks_fn) (by repeat (first | exact Split.nil | (apply Split.cons; next => repeat (first | exact Pick.here | apply Pick.there)))) rfl rfl ?_
  refine o_rd (rd_not rfl) rfl ?_
  refine o_nil ?_
  refine n_K ?_
  refine s_condF rfl ?_
  refine s_skip ?_
  refine n_K ?_
  refine s_seq ?_
  refine s_region0 (fun ops => ?_)
  refine o_rd (rd_ldA rfl (by repeat' first | exact List.Mem.head _ | apply List.Mem.tail) rfl) rfl ?_
  refine o_rd (rd_ldA rfl (by repeat' first | exact List.Mem.head _ | apply List.Mem.tail) (by first | exact cut_cc _ | rfl)) rfl ?_
  refine o_rd (rd_ldA rfl (by repeat' first | exact List.Mem.head _ | apply List.Mem.tail) (by first | exact cut_cc _ | rfl)) rfl ?_
  refine o_bslice_k (cs := cc2 x z) rfl (fill2 _ _) rfl rfl (fun b18 => ?_)
  refine o_call_is rfl (choose2_fn) (by repeat (first | exact Split.nil | (apply Split.cons; next => repeat (first | exact Pick.here | apply Pick.there)))) rfl rfl ?_
  refine o_rd (rd_move rfl) rfl ?_
  refine o_rd (rd_extract rfl rfl) rfl ?_
  refine o_rd (rd_extract rfl rfl) rfl ?_
  refine o_alloc rfl (fun b7 => ?_)
  refine o_store rfl rfl (by repeat' first | exact Upd.here | apply Upd.there) rfl rfl rfl ?_
  refine o_rd (rd_assign rfl) rfl ?_
  refine o_nil ?_
  refine n_K ?_
  refine s_seq ?_
  refine s_seq ?_
  refine s_region0 (fun ops => ?_)
  refine o_rd (rd_move rfl) rfl ?_
  refine o_rd (rd_bin rfl rfl rfl) rfl ?_
  refine o_nil ?_
  refine n_K ?_
  refine s_cond rfl (fun c23 => ?_) (fun c23 => ?_)
  · skip
    rw [plan_no (by simpa using c23)]
    refine s_seq ?_
    refine s_region0 (fun ops => ?_)
    refine o_rd (rd_ldA rfl (by repeat' first | exact List.Mem.head _ | apply List.Mem.tail) rfl) rfl ?_
    refine o_rd (rd_build_s rfl rfl) rfl ?_
    refine o_rd (rd_eqA rfl rfl rfl) rfl ?_
    refine o_rd (rd_assign rfl) rfl ?_
    refine o_nil ?_
    refine n_K ?_
    refine s_ret ?_
    refine r_K ?_
    refine leaf_is (rets1 Try.results7 (rv_tmp rfl)) ?_ (by repeat (first | exact Split.nil | (apply Split.cons; next => repeat (first | exact Pick.here | apply Pick.there))))
    first | rfl | exact congrArg Value.bool (safe_le hm hle)
  · skip
    obtain ⟨c, k, e, hc, hr, hm, hle, hcc, hk⟩ := plan_ok (show (planT n m b x z).2.2.2 = 0 by simpa using c23); rw [e]
    refine s_skip ?_
    refine n_K ?_
    refine s_seq ?_
    refine s_drawT [] [(5, (.fork [(0, false), (1, false)] 2 (.one [(3, true), (4, true)]) 3 (.one [(2, true), (4, true)]))), (6, (.one [(5, true)]))] (by kernel_rfl) rfl (fun ops w0 H0 y => ?_)
    refine pt_all ?_
    refine t_fork ?_ rfl
    refine x_rd (rd_ldA rfl (by repeat' first | exact List.Mem.head _ | apply List.Mem.tail) (by first | exact cut_cc _ | rfl)) rfl ?_
    refine x_rd (rd_ldA rfl (by repeat' first | exact List.Mem.head _ | apply List.Mem.tail) (by first | exact cut_cc _ | rfl)) rfl ?_
    refine x_nil ⟨⟨_, (by repeat (first | exact Split.nil | (apply Split.cons; next => repeat (first | exact Pick.here | apply Pick.there))))⟩, ?_, ?_⟩
    refine x_so ?_
    refine o_alloc rfl (fun b9 => ?_)
    refine o_nil ⟨rfl, ⟨_, (by repeat (first | exact Split.nil | (apply Split.cons; next => repeat (first | exact Pick.here | apply Pick.there))))⟩, ?_⟩
    refine x_nil ?_
    refine t_one ?_
    refine x_so ?_
    refine o_alloc rfl (fun b10 => ?_)
    refine o_nil ⟨rfl, ⟨_, (by repeat (first | exact Split.nil | (apply Split.cons; next => repeat (first | exact Pick.here | apply Pick.there))))⟩, ?_⟩
    refine x_so ?_
    first | refine o_store rfl rfl (by repeat' first | exact Upd.here | apply Upd.there) (vc_cc _) rfl (spl_cc _ _ rfl) ?_ | refine o_store rfl rfl (by repeat' first | exact Upd.here | apply Upd.there) rfl rfl rfl ?_
    refine o_nil ⟨rfl, ⟨_, (by repeat (first | exact Split.nil | (apply Split.cons; next => repeat (first | exact Pick.here | apply Pick.there))))⟩, ?_⟩
    refine x_nil ?_
    rotate_left
    refine x_so ?_
    refine o_alloc rfl (fun b10 => ?_)
    refine o_nil ⟨rfl, ⟨_, (by repeat (first | exact Split.nil | (apply Split.cons; next => repeat (first | exact Pick.here | apply Pick.there))))⟩, ?_⟩
    refine x_nil ?_
    refine t_one ?_
    refine x_so ?_
    refine o_alloc rfl (fun b9 => ?_)
    refine o_nil ⟨rfl, ⟨_, (by repeat (first | exact Split.nil | (apply Split.cons; next => repeat (first | exact Pick.here | apply Pick.there))))⟩, ?_⟩
    refine x_so ?_
    first | refine o_store rfl rfl (by repeat' first | exact Upd.here | apply Upd.there) (vc_cc _) rfl (spl_cc _ _ rfl) ?_ | refine o_store rfl rfl (by repeat' first | exact Upd.here | apply Upd.there) rfl rfl rfl ?_
    refine o_nil ⟨rfl, ⟨_, (by repeat (first | exact Split.nil | (apply Split.cons; next => repeat (first | exact Pick.here | apply Pick.there))))⟩, ?_⟩
    refine x_nil ?_
    rotate_left
    all_goals
      refine pt_none ?_
      refine t_one ?_
      refine x_so ?_
      first | refine o_store rfl rfl (by repeat' first | exact Upd.here | apply Upd.there) (vc_cc _) rfl (spl_cc _ _ rfl) ?_ | refine o_store rfl rfl (by repeat' first | exact Upd.here | apply Upd.there) rfl rfl rfl ?_
      refine o_nil ⟨rfl, ⟨_, (by repeat (first | exact Split.nil | (apply Split.cons; next => repeat (first | exact Pick.here | apply Pick.there))))⟩, ?_⟩
      refine x_nil ?_
      refine pt_end ?_
      refine n_K ?_
      refine s_seq ?_
      refine s_seq ?_
      refine s_region0 (fun ops => ?_)
      refine o_rd (rd_field rfl) rfl ?_
      refine o_rd (rd_ld rfl (by repeat' first | exact List.Mem.head _ | apply List.Mem.tail) rfl) rfl ?_
      refine o_rd (rd_bin rfl rfl rfl) rfl ?_
      refine o_nil ?_
      refine n_K ?_
      refine s_cond rfl (fun c31 => ?_) (fun c31 => ?_)
      · skip
        obtain rfl : c = 1 := by simpa using c31
        refine s_draw [] [(3, [(0, false), (1, false), (2, true)]), (4, [(3, true)])] (by kernel_rfl) rfl (fun ops w0 H0 y => ?_)
        refine p_drop (x := (b9, true, C (cc x) 52)) (by repeat' first | exact Pick.here | apply Pick.there) ?_
        refine x_rd (rd_ldA rfl (by repeat' first | exact List.Mem.head _ | apply List.Mem.tail) (by first | exact cut_cc _ | rfl)) rfl ?_
        refine x_rd (rd_ldA rfl (by repeat' first | exact List.Mem.head _ | apply List.Mem.tail) (by first | exact cut_cc _ | rfl)) rfl ?_
        refine x_so ?_
        first | refine o_store rfl rfl (by repeat' first | exact Upd.here | apply Upd.there) (vc_cc _) rfl (spl_cc _ _ rfl) ?_ | refine o_store rfl rfl (by repeat' first | exact Upd.here | apply Upd.there) rfl rfl rfl ?_
        refine o_nil ⟨rfl, ⟨_, (by repeat (first | exact Split.nil | (apply Split.cons; next => repeat (first | exact Pick.here | apply Pick.there))))⟩, ?_⟩
        refine x_nil ?_
        refine p_none ?_
        refine x_so ?_
        first | refine o_store rfl rfl (by repeat' first | exact Upd.here | apply Upd.there) (vc_cc _) rfl (spl_cc _ _ rfl) ?_ | refine o_store rfl rfl (by repeat' first | exact Upd.here | apply Upd.there) rfl rfl rfl ?_
        refine o_nil ⟨rfl, ⟨_, (by repeat (first | exact Split.nil | (apply Split.cons; next => repeat (first | exact Pick.here | apply Pick.there))))⟩, ?_⟩
        refine x_nil ?_
        refine p_end ?_
        refine n_K ?_
        refine s_seq ?_
        refine s_seq ?_
        refine s_region [(3, 37), (8, 42), (13, 47), (21, 55), (28, 62)] rfl (fun ops y => ?_)
        refine o_rd (rd_field rfl) rfl ?_
        refine o_rd (rd_ld rfl (by repeat' first | exact List.Mem.head _ | apply List.Mem.tail) rfl) rfl ?_
        refine o_rd (rd_not rfl) rfl ?_
        refine o_rd (rd_move rfl) rfl ?_
        refine' o_or (j := 3) (k := 3) y rfl rfl rfl rfl rfl rfl rfl (fun hg37 => ?_) ?_
        rotate_left
        · try simp at hg37
          refine o_g y rfl rfl ?_
          refine o_rd (rd_field rfl) rfl ?_
          refine o_g y rfl rfl ?_
          refine o_rd (rd_ld rfl (by repeat' first | exact List.Mem.head _ | apply List.Mem.tail) rfl) rfl ?_
          refine o_g y rfl rfl ?_
          refine o_rd (rd_not rfl) rfl ?_
          exact o_nil ⟨rfl, rfl, ⟨_, (by repeat (first | exact Split.nil | (apply Split.cons; next => repeat (first | exact Pick.here | apply Pick.there))))⟩⟩
        refine o_rd (rd_move rfl) rfl ?_
        refine' o_or (j := 8) (k := 3) y rfl rfl rfl rfl rfl rfl rfl (fun hg42 => ?_) ?_
        rotate_left
        · try simp at hg42
          refine o_g y rfl rfl ?_
          refine o_rd (rd_field rfl) rfl ?_
          refine o_g y rfl rfl ?_
          refine o_rd (rd_ld rfl (by repeat' first | exact List.Mem.head _ | apply List.Mem.tail) rfl) rfl ?_
          refine o_g y rfl rfl ?_
          refine o_rd (rd_not rfl) rfl ?_
          exact o_nil ⟨rfl, rfl, ⟨_, (by repeat (first | exact Split.nil | (apply Split.cons; next => repeat (first | exact Pick.here | apply Pick.there))))⟩⟩
        refine o_rd (rd_move rfl) rfl ?_
        refine' o_or (j := 13) (k := 6) y rfl rfl rfl rfl rfl rfl rfl (fun hg47 => ?_) ?_
        rotate_left
        · try simp at hg47
          refine o_g y rfl rfl ?_
          refine o_rd (rd_field rfl) rfl ?_
          refine o_g y rfl rfl ?_
          refine o_rd (rd_field rfl) rfl ?_
          refine o_g y rfl rfl ?_
          refine o_rd (rd_ld rfl (by repeat' first | exact List.Mem.head _ | apply List.Mem.tail) rfl) rfl ?_
          refine o_g y rfl rfl ?_
          refine o_rd (rd_field rfl) rfl ?_
          refine o_g y rfl rfl ?_
          refine o_rd (rd_ld rfl (by repeat' first | exact List.Mem.head _ | apply List.Mem.tail) rfl) rfl ?_
          refine o_g y rfl rfl ?_
          refine o_rd (rd_bin rfl rfl rfl) rfl ?_
          exact o_nil ⟨rfl, rfl, ⟨_, (by repeat (first | exact Split.nil | (apply Split.cons; next => repeat (first | exact Pick.here | apply Pick.there))))⟩⟩
        refine o_rd (rd_move rfl) rfl ?_
        refine' o_or (j := 21) (k := 5) y rfl rfl rfl rfl rfl rfl rfl (fun hg55 => ?_) ?_
        rotate_left
        · try simp at hg55
          refine o_g y rfl rfl ?_
          refine o_rd (rd_ldA rfl (by repeat' first | exact List.Mem.head _ | apply List.Mem.tail) rfl) rfl ?_
          refine o_g y rfl rfl ?_
          refine o_rd (rd_field rfl) rfl ?_
          refine o_g y rfl rfl ?_
          refine o_rd (rd_ld rfl (by repeat' first | exact List.Mem.head _ | apply List.Mem.tail) rfl) rfl ?_
          refine o_g y rfl rfl ?_
          refine o_call_is rfl (rhas_fn) (by repeat (first | exact Split.nil | (apply Split.cons; next => repeat (first | exact Pick.here | apply Pick.there)))) rfl rfl ?_
          refine o_g y rfl rfl ?_
          refine o_rd (rd_not rfl) rfl ?_
          exact o_nil ⟨rfl, rfl, ⟨_, (by repeat (first | exact Split.nil | (apply Split.cons; next => repeat (first | exact Pick.here | apply Pick.there))))⟩⟩
        refine o_rd (rd_move rfl) rfl ?_
        refine' o_or (j := 28) (k := 8) y rfl rfl rfl rfl rfl rfl rfl (fun hg62 => ?_) ?_
        rotate_left
        · try simp at hg62
          refine o_g y rfl rfl ?_
          refine o_rd (rd_field rfl) rfl ?_
          refine o_g y rfl rfl ?_
          refine o_rd (rd_ld rfl (by repeat' first | exact List.Mem.head _ | apply List.Mem.tail) rfl) rfl ?_
          refine o_g y rfl rfl ?_
          refine o_rd (rd_field rfl) rfl ?_
          refine o_g y rfl rfl ?_
          refine o_rd (rd_ld rfl (by repeat' first | exact List.Mem.head _ | apply List.Mem.tail) rfl) rfl ?_
          refine o_g y rfl rfl ?_
          refine o_rd (rd_bin rfl rfl rfl) rfl ?_
          refine o_g y rfl rfl ?_
          refine o_rd (rd_field rfl) rfl ?_
          refine o_g y rfl rfl ?_
          refine o_rd (rd_ld rfl (by repeat' first | exact List.Mem.head _ | apply List.Mem.tail) rfl) rfl ?_
          refine o_g y rfl rfl ?_
          refine o_rd (rd_bin rfl rfl rfl) rfl ?_
          exact o_nil ⟨rfl, rfl, ⟨_, (by repeat (first | exact Split.nil | (apply Split.cons; next => repeat (first | exact Pick.here | apply Pick.there))))⟩⟩
        refine o_nil ?_
        refine n_K ?_
        refine s_cond rfl (fun c71 => ?_) (fun c71 => ?_)
        · skip
          have := (safe_no hm (safe_and hr hc hm hk)).symm.trans c71; cases this
        · skip
          refine s_skip ?_
          refine n_K ?_
          refine s_seq ?_
          refine s_region [(2, 74), (6, 78), (10, 82)] rfl (fun ops y => ?_)
          refine o_rd (rd_field rfl) rfl ?_
          refine o_rd (rd_ld rfl (by repeat' first | exact List.Mem.head _ | apply List.Mem.tail) rfl) rfl ?_
          refine o_rd (rd_move rfl) rfl ?_
          refine' o_and (j := 2) (k := 2) y rfl rfl rfl rfl rfl rfl rfl (fun hg74 => ?_) ?_
          rotate_left
          · try simp at hg74
            refine o_g y rfl rfl ?_
            refine o_rd (rd_field rfl) rfl ?_
            refine o_g y rfl rfl ?_
            refine o_rd (rd_ld rfl (by repeat' first | exact List.Mem.head _ | apply List.Mem.tail) rfl) rfl ?_
            exact o_nil ⟨rfl, rfl, ⟨_, (by repeat (first | exact Split.nil | (apply Split.cons; next => repeat (first | exact Pick.here | apply Pick.there))))⟩⟩
          refine o_rd (rd_move rfl) rfl ?_
          refine' o_and (j := 6) (k := 2) y rfl rfl rfl rfl rfl rfl rfl (fun hg78 => ?_) ?_
          rotate_left
          · try simp at hg78
            refine o_g y rfl rfl ?_
            refine o_rd (rd_field rfl) rfl ?_
            refine o_g y rfl rfl ?_
            refine o_rd (rd_ld rfl (by repeat' first | exact List.Mem.head _ | apply List.Mem.tail) rfl) rfl ?_
            exact o_nil ⟨rfl, rfl, ⟨_, (by repeat (first | exact Split.nil | (apply Split.cons; next => repeat (first | exact Pick.here | apply Pick.there))))⟩⟩
          refine o_rd (rd_move rfl) rfl ?_
          refine' o_and (j := 10) (k := 5) y rfl rfl rfl rfl rfl rfl rfl (fun hg82 => ?_) ?_
          rotate_left
          · try simp at hg82
            refine o_g y rfl rfl ?_
            refine o_rd (rd_ldA rfl (by repeat' first | exact List.Mem.head _ | apply List.Mem.tail) rfl) rfl ?_
            refine o_g y rfl rfl ?_
            refine o_rd (rd_field rfl) rfl ?_
            refine o_g y rfl rfl ?_
            refine o_rd (rd_ld rfl (by repeat' first | exact List.Mem.head _ | apply List.Mem.tail) rfl) rfl ?_
            refine o_g y rfl rfl ?_
            refine o_rd (rd_sub64 rfl rfl (by omega)) rfl ?_
            refine o_g y rfl rfl ?_
            refine o_call_is rfl (rhas_fn) (by repeat (first | exact Split.nil | (apply Split.cons; next => repeat (first | exact Pick.here | apply Pick.there)))) rfl rfl ?_
            exact o_nil ⟨rfl, rfl, ⟨_, (by repeat (first | exact Split.nil | (apply Split.cons; next => repeat (first | exact Pick.here | apply Pick.there))))⟩⟩
          refine o_rd (rd_assign rfl) rfl ?_
          refine o_nil ?_
          refine n_K ?_
          refine s_seq ?_
          refine s_region [(2, 91)] rfl (fun ops y => ?_)
          refine o_rd (rd_move rfl) rfl ?_
          refine o_rd (rd_not rfl) rfl ?_
          refine o_rd (rd_move rfl) rfl ?_
          refine' o_or (j := 2) (k := 7) y rfl rfl rfl rfl rfl rfl rfl (fun hg91 => ?_) ?_
          rotate_left
          · try simp at hg91
            refine o_g y rfl rfl ?_
            refine o_rd (rd_field rfl) rfl ?_
            refine o_g y rfl rfl ?_
            refine o_rd (rd_field rfl) rfl ?_
            refine o_g y rfl rfl ?_
            refine o_rd (rd_ld rfl (by repeat' first | exact List.Mem.head _ | apply List.Mem.tail) rfl) rfl ?_
            refine o_g y rfl rfl ?_
            refine o_rd (rd_field rfl) rfl ?_
            refine o_g y rfl rfl ?_
            refine o_rd (rd_field rfl) rfl ?_
            refine o_g y rfl rfl ?_
            refine o_rd (rd_ld rfl (by repeat' first | exact List.Mem.head _ | apply List.Mem.tail) rfl) rfl ?_
            refine o_g y rfl rfl ?_
            refine o_rd (rd_bin rfl rfl rfl) rfl ?_
            exact o_nil ⟨rfl, rfl, ⟨_, (by repeat (first | exact Split.nil | (apply Split.cons; next => repeat (first | exact Pick.here | apply Pick.there))))⟩⟩
          refine o_rd (rd_assign rfl) rfl ?_
          refine o_nil ?_
          refine n_K ?_
          refine s_ret ?_
          refine leaf_is (rets1 Try.results7 (rv_tmp rfl)) ?_ (by repeat (first | exact Split.nil | (apply Split.cons; next => repeat (first | exact Pick.here | apply Pick.there))))
          first | rfl | exact congrArg Value.bool (safe_le hm hle)
      · skip
        obtain rfl : c = 0 := by (have : ¬ c = 1 := by simpa using c31); omega
        refine s_skip ?_
        refine n_K ?_
        refine s_seq ?_
        refine s_seq ?_
        refine s_region [(3, 37), (8, 42), (13, 47), (21, 55), (28, 62)] rfl (fun ops y => ?_)
        refine o_rd (rd_field rfl) rfl ?_
        refine o_rd (rd_ld rfl (by repeat' first | exact List.Mem.head _ | apply List.Mem.tail) rfl) rfl ?_
        refine o_rd (rd_not rfl) rfl ?_
        refine o_rd (rd_move rfl) rfl ?_
        refine' o_or (j := 3) (k := 3) y rfl rfl rfl rfl rfl rfl rfl (fun hg37 => ?_) ?_
        rotate_left
        · try simp at hg37
          refine o_g y rfl rfl ?_
          refine o_rd (rd_field rfl) rfl ?_
          refine o_g y rfl rfl ?_
          refine o_rd (rd_ld rfl (by repeat' first | exact List.Mem.head _ | apply List.Mem.tail) rfl) rfl ?_
          refine o_g y rfl rfl ?_
          refine o_rd (rd_not rfl) rfl ?_
          exact o_nil ⟨rfl, rfl, ⟨_, (by repeat (first | exact Split.nil | (apply Split.cons; next => repeat (first | exact Pick.here | apply Pick.there))))⟩⟩
        refine o_rd (rd_move rfl) rfl ?_
        refine' o_or (j := 8) (k := 3) y rfl rfl rfl rfl rfl rfl rfl (fun hg42 => ?_) ?_
        rotate_left
        · try simp at hg42
          refine o_g y rfl rfl ?_
          refine o_rd (rd_field rfl) rfl ?_
          refine o_g y rfl rfl ?_
          refine o_rd (rd_ld rfl (by repeat' first | exact List.Mem.head _ | apply List.Mem.tail) rfl) rfl ?_
          refine o_g y rfl rfl ?_
          refine o_rd (rd_not rfl) rfl ?_
          exact o_nil ⟨rfl, rfl, ⟨_, (by repeat (first | exact Split.nil | (apply Split.cons; next => repeat (first | exact Pick.here | apply Pick.there))))⟩⟩
        refine o_rd (rd_move rfl) rfl ?_
        refine' o_or (j := 13) (k := 6) y rfl rfl rfl rfl rfl rfl rfl (fun hg47 => ?_) ?_
        rotate_left
        · try simp at hg47
          refine o_g y rfl rfl ?_
          refine o_rd (rd_field rfl) rfl ?_
          refine o_g y rfl rfl ?_
          refine o_rd (rd_field rfl) rfl ?_
          refine o_g y rfl rfl ?_
          refine o_rd (rd_ld rfl (by repeat' first | exact List.Mem.head _ | apply List.Mem.tail) rfl) rfl ?_
          refine o_g y rfl rfl ?_
          refine o_rd (rd_field rfl) rfl ?_
          refine o_g y rfl rfl ?_
          refine o_rd (rd_ld rfl (by repeat' first | exact List.Mem.head _ | apply List.Mem.tail) rfl) rfl ?_
          refine o_g y rfl rfl ?_
          refine o_rd (rd_bin rfl rfl rfl) rfl ?_
          exact o_nil ⟨rfl, rfl, ⟨_, (by repeat (first | exact Split.nil | (apply Split.cons; next => repeat (first | exact Pick.here | apply Pick.there))))⟩⟩
        refine o_rd (rd_move rfl) rfl ?_
        refine' o_or (j := 21) (k := 5) y rfl rfl rfl rfl rfl rfl rfl (fun hg55 => ?_) ?_
        rotate_left
        · try simp at hg55
          refine o_g y rfl rfl ?_
          refine o_rd (rd_ldA rfl (by repeat' first | exact List.Mem.head _ | apply List.Mem.tail) rfl) rfl ?_
          refine o_g y rfl rfl ?_
          refine o_rd (rd_field rfl) rfl ?_
          refine o_g y rfl rfl ?_
          refine o_rd (rd_ld rfl (by repeat' first | exact List.Mem.head _ | apply List.Mem.tail) rfl) rfl ?_
          refine o_g y rfl rfl ?_
          refine o_call_is rfl (rhas_fn) (by repeat (first | exact Split.nil | (apply Split.cons; next => repeat (first | exact Pick.here | apply Pick.there)))) rfl rfl ?_
          refine o_g y rfl rfl ?_
          refine o_rd (rd_not rfl) rfl ?_
          exact o_nil ⟨rfl, rfl, ⟨_, (by repeat (first | exact Split.nil | (apply Split.cons; next => repeat (first | exact Pick.here | apply Pick.there))))⟩⟩
        refine o_rd (rd_move rfl) rfl ?_
        refine' o_or (j := 28) (k := 8) y rfl rfl rfl rfl rfl rfl rfl (fun hg62 => ?_) ?_
        rotate_left
        · try simp at hg62
          refine o_g y rfl rfl ?_
          refine o_rd (rd_field rfl) rfl ?_
          refine o_g y rfl rfl ?_
          refine o_rd (rd_ld rfl (by repeat' first | exact List.Mem.head _ | apply List.Mem.tail) rfl) rfl ?_
          refine o_g y rfl rfl ?_
          refine o_rd (rd_field rfl) rfl ?_
          refine o_g y rfl rfl ?_
          refine o_rd (rd_ld rfl (by repeat' first | exact List.Mem.head _ | apply List.Mem.tail) rfl) rfl ?_
          refine o_g y rfl rfl ?_
          refine o_rd (rd_bin rfl rfl rfl) rfl ?_
          refine o_g y rfl rfl ?_
          refine o_rd (rd_field rfl) rfl ?_
          refine o_g y rfl rfl ?_
          refine o_rd (rd_ld rfl (by repeat' first | exact List.Mem.head _ | apply List.Mem.tail) rfl) rfl ?_
          refine o_g y rfl rfl ?_
          refine o_rd (rd_bin rfl rfl rfl) rfl ?_
          exact o_nil ⟨rfl, rfl, ⟨_, (by repeat (first | exact Split.nil | (apply Split.cons; next => repeat (first | exact Pick.here | apply Pick.there))))⟩⟩
        refine o_nil ?_
        refine n_K ?_
        refine s_cond rfl (fun c71 => ?_) (fun c71 => ?_)
        · skip
          have := (safe_no hm (safe_and hr hc hm hk)).symm.trans c71; cases this
        · skip
          refine s_skip ?_
          refine n_K ?_
          refine s_seq ?_
          refine s_region [(2, 74), (6, 78), (10, 82)] rfl (fun ops y => ?_)
          refine o_rd (rd_field rfl) rfl ?_
          refine o_rd (rd_ld rfl (by repeat' first | exact List.Mem.head _ | apply List.Mem.tail) rfl) rfl ?_
          refine o_rd (rd_move rfl) rfl ?_
          refine' o_and (j := 2) (k := 2) y rfl rfl rfl rfl rfl rfl rfl (fun hg74 => ?_) ?_
          rotate_left
          · try simp at hg74
            refine o_g y rfl rfl ?_
            refine o_rd (rd_field rfl) rfl ?_
            refine o_g y rfl rfl ?_
            refine o_rd (rd_ld rfl (by repeat' first | exact List.Mem.head _ | apply List.Mem.tail) rfl) rfl ?_
            exact o_nil ⟨rfl, rfl, ⟨_, (by repeat (first | exact Split.nil | (apply Split.cons; next => repeat (first | exact Pick.here | apply Pick.there))))⟩⟩
          refine o_rd (rd_move rfl) rfl ?_
          refine' o_and (j := 6) (k := 2) y rfl rfl rfl rfl rfl rfl rfl (fun hg78 => ?_) ?_
          rotate_left
          · try simp at hg78
            refine o_g y rfl rfl ?_
            refine o_rd (rd_field rfl) rfl ?_
            refine o_g y rfl rfl ?_
            refine o_rd (rd_ld rfl (by repeat' first | exact List.Mem.head _ | apply List.Mem.tail) rfl) rfl ?_
            exact o_nil ⟨rfl, rfl, ⟨_, (by repeat (first | exact Split.nil | (apply Split.cons; next => repeat (first | exact Pick.here | apply Pick.there))))⟩⟩
          refine o_rd (rd_move rfl) rfl ?_
          refine' o_and (j := 10) (k := 5) y rfl rfl rfl rfl rfl rfl rfl (fun hg82 => ?_) ?_
          rotate_left
          · try simp at hg82
            refine o_g y rfl rfl ?_
            refine o_rd (rd_ldA rfl (by repeat' first | exact List.Mem.head _ | apply List.Mem.tail) rfl) rfl ?_
            refine o_g y rfl rfl ?_
            refine o_rd (rd_field rfl) rfl ?_
            refine o_g y rfl rfl ?_
            refine o_rd (rd_ld rfl (by repeat' first | exact List.Mem.head _ | apply List.Mem.tail) rfl) rfl ?_
            refine o_g y rfl rfl ?_
            refine o_rd (rd_sub64 rfl rfl (by omega)) rfl ?_
            refine o_g y rfl rfl ?_
            refine o_call_is rfl (rhas_fn) (by repeat (first | exact Split.nil | (apply Split.cons; next => repeat (first | exact Pick.here | apply Pick.there)))) rfl rfl ?_
            exact o_nil ⟨rfl, rfl, ⟨_, (by repeat (first | exact Split.nil | (apply Split.cons; next => repeat (first | exact Pick.here | apply Pick.there))))⟩⟩
          refine o_rd (rd_assign rfl) rfl ?_
          refine o_nil ?_
          refine n_K ?_
          refine s_seq ?_
          refine s_region [(2, 91)] rfl (fun ops y => ?_)
          refine o_rd (rd_move rfl) rfl ?_
          refine o_rd (rd_not rfl) rfl ?_
          refine o_rd (rd_move rfl) rfl ?_
          refine' o_or (j := 2) (k := 7) y rfl rfl rfl rfl rfl rfl rfl (fun hg91 => ?_) ?_
          rotate_left
          · try simp at hg91
            refine o_g y rfl rfl ?_
            refine o_rd (rd_field rfl) rfl ?_
            refine o_g y rfl rfl ?_
            refine o_rd (rd_field rfl) rfl ?_
            refine o_g y rfl rfl ?_
            refine o_rd (rd_ld rfl (by repeat' first | exact List.Mem.head _ | apply List.Mem.tail) rfl) rfl ?_
            refine o_g y rfl rfl ?_
            refine o_rd (rd_field rfl) rfl ?_
            refine o_g y rfl rfl ?_
            refine o_rd (rd_field rfl) rfl ?_
            refine o_g y rfl rfl ?_
            refine o_rd (rd_ld rfl (by repeat' first | exact List.Mem.head _ | apply List.Mem.tail) rfl) rfl ?_
            refine o_g y rfl rfl ?_
            refine o_rd (rd_bin rfl rfl rfl) rfl ?_
            exact o_nil ⟨rfl, rfl, ⟨_, (by repeat (first | exact Split.nil | (apply Split.cons; next => repeat (first | exact Pick.here | apply Pick.there))))⟩⟩
          refine o_rd (rd_assign rfl) rfl ?_
          refine o_nil ?_
          refine n_K ?_
          refine s_ret ?_
          refine leaf_is (rets1 Try.results7 (rv_tmp rfl)) ?_ (by repeat (first | exact Split.nil | (apply Split.cons; next => repeat (first | exact Pick.here | apply Pick.there))))
          first | rfl | exact congrArg Value.bool (safe_le hm hle)
end Go.Proofs.Ytocfdkjoklgecaa
