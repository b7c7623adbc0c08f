/- Walks of package elect, and of the document's answer for it. -/
import Derived.Test.YtocfdkjoklgecaaE0
import Derived.Test.YtocfdkjoklgecaaK10
import Derived.Test.YtocfdkjoklgecaaV1
namespace Go.Proofs.Ytocfdkjoklgecaa
open Go.K
set_option linter.unusedVariables false
set_option linter.unusedSimpArgs false

theorem may_fn {n m b i : Int} {x : Ch} : Does Try.prog 28 [vv n m b, .int .i64 i, .agg (cc x).toArray] [] (Is (.bool (mayB m b i x)) []) := by
  refine fn_enter (n := 31) Try.func28 Try.ntmps28 rfl (Nat.le_of_ble_eq_true rfl) ?_
  refine s_seq ?_
  refine s_region0 (fun ops => ?_)
  refine o_box rfl rfl (fun b3 => ?_)
  refine o_boxA rfl rfl (fun b5 => ?_)
  refine o_rd (rd_assign rfl) rfl ?_
  refine o_nil ?_
  refine n_K ?_
  refine s_seq ?_
  refine s_region [(2, 9), (6, 13), (10, 17), (16, 23)] rfl (fun ops y => ?_)
  refine o_rd (rd_field rfl) rfl ?_
  refine o_rd (rd_ld rfl (by repeat' first | exact List.Mem.head _ | apply List.Mem.tail) rfl) rfl ?_
  refine o_rd (rd_move rfl) rfl ?_
  refine' o_and (j := 2) (k := 2) y rfl rfl rfl rfl rfl rfl rfl (fun hg9 => ?_) ?_
  rotate_left
  · try simp at hg9
    refine o_g y rfl rfl ?_
    refine o_rd (rd_field rfl) rfl ?_
    refine o_g y rfl rfl ?_
    refine o_rd (rd_ld rfl (by repeat' first | exact List.Mem.head _ | apply List.Mem.tail) rfl) rfl ?_
    exact o_nil ⟨rfl, rfl, ⟨_, (by repeat (first | exact Split.nil | (apply Split.cons; next => repeat (first | exact Pick.here | apply Pick.there))))⟩⟩
  refine o_rd (rd_move rfl) rfl ?_
  refine' o_and (j := 6) (k := 2) y rfl rfl rfl rfl rfl rfl rfl (fun hg13 => ?_) ?_
  rotate_left
  · try simp at hg13
    refine o_g y rfl rfl ?_
    refine o_rd (rd_field rfl) rfl ?_
    refine o_g y rfl rfl ?_
    refine o_rd (rd_ld rfl (by repeat' first | exact List.Mem.head _ | apply List.Mem.tail) rfl) rfl ?_
    exact o_nil ⟨rfl, rfl, ⟨_, (by repeat (first | exact Split.nil | (apply Split.cons; next => repeat (first | exact Pick.here | apply Pick.there))))⟩⟩
  refine o_rd (rd_move rfl) rfl ?_
  refine' o_and (j := 10) (k := 4) y rfl rfl rfl rfl rfl rfl rfl (fun hg17 => ?_) ?_
  rotate_left
  · try simp at hg17
    refine o_g y rfl rfl ?_
    refine o_rd (rd_ldA rfl (by repeat' first | exact List.Mem.head _ | apply List.Mem.tail) rfl) rfl ?_
    refine o_g y rfl rfl ?_
    refine o_rd (rd_move rfl) rfl ?_
    refine o_g y rfl rfl ?_
    refine o_bslice_k rfl rfl rfl rfl (fun b20 => ?_)
    refine o_g y rfl rfl ?_
    refine o_call_is rfl (has1_fn) (by repeat (first | exact Split.nil | (apply Split.cons; next => repeat (first | exact Pick.here | apply Pick.there)))) rfl rfl ?_
    exact o_nil ⟨rfl, rfl, ⟨_, (by repeat (first | exact Split.nil | (apply Split.cons; next => repeat (first | exact Pick.here | apply Pick.there))))⟩⟩
  refine o_rd (rd_move rfl) rfl ?_
  refine' o_and (j := 16) (k := 6) y rfl rfl rfl rfl rfl rfl rfl (fun hg23 => ?_) ?_
  rotate_left
  · try simp at hg23
    refine o_g y rfl rfl ?_
    refine o_rd (rd_field rfl) rfl ?_
    refine o_g y rfl rfl ?_
    refine o_rd (rd_field rfl) rfl ?_
    refine o_g y rfl rfl ?_
    refine o_rd (rd_ld rfl (by repeat' first | exact List.Mem.head _ | apply List.Mem.tail) rfl) rfl ?_
    refine o_g y rfl rfl ?_
    refine o_rd (rd_field rfl) rfl ?_
    refine o_g y rfl rfl ?_
    refine o_rd (rd_ld rfl (by repeat' first | exact List.Mem.head _ | apply List.Mem.tail) rfl) rfl ?_
    refine o_g y rfl rfl ?_
    refine o_rd (rd_bin rfl rfl rfl) rfl ?_
    exact o_nil ⟨rfl, rfl, ⟨_, (by repeat (first | exact Split.nil | (apply Split.cons; next => repeat (first | exact Pick.here | apply Pick.there))))⟩⟩
  refine o_rd (rd_assign rfl) rfl ?_
  refine o_nil ?_
  refine n_K ?_
  refine s_ret ?_
  refine leaf_is (rets1 Try.results28 (rv_tmp rfl)) ?_ (by repeat (first | exact Split.nil | (apply Split.cons; next => repeat (first | exact Pick.here | apply Pick.there))))
  rfl
theorem rmay_fn {n m b i : Int} {x : Ch} : Does Try.prog 30 [vv n m b, .agg (cc x).toArray, .int .i64 i] [] (Is (.bool (mayB m b i x)) []) := by
  refine fn_enter (n := 30) Try.func30 Try.ntmps30 rfl (Nat.le_of_ble_eq_true rfl) ?_
  refine s_seq ?_
  refine s_region0 (fun ops => ?_)
  refine o_box rfl rfl (fun b3 => ?_)
  refine o_boxA rfl rfl (fun b4 => ?_)
  refine o_rd (rd_assign rfl) rfl ?_
  refine o_nil ?_
  refine n_K ?_
  refine s_seq ?_
  refine s_region [(2, 9), (6, 13), (10, 17), (15, 22)] rfl (fun ops y => ?_)
  refine o_rd (rd_field rfl) rfl ?_
  refine o_rd (rd_ld rfl (by repeat' first | exact List.Mem.head _ | apply List.Mem.tail) rfl) rfl ?_
  refine o_rd (rd_move rfl) rfl ?_
  refine' o_and (j := 2) (k := 2) y rfl rfl rfl rfl rfl rfl rfl (fun hg9 => ?_) ?_
  rotate_left
  · try simp at hg9
    refine o_g y rfl rfl ?_
    refine o_rd (rd_field rfl) rfl ?_
    refine o_g y rfl rfl ?_
    refine o_rd (rd_ld rfl (by repeat' first | exact List.Mem.head _ | apply List.Mem.tail) rfl) rfl ?_
    exact o_nil ⟨rfl, rfl, ⟨_, (by repeat (first | exact Split.nil | (apply Split.cons; next => repeat (first | exact Pick.here | apply Pick.there))))⟩⟩
  refine o_rd (rd_move rfl) rfl ?_
  refine' o_and (j := 6) (k := 2) y rfl rfl rfl rfl rfl rfl rfl (fun hg13 => ?_) ?_
  rotate_left
  · try simp at hg13
    refine o_g y rfl rfl ?_
    refine o_rd (rd_field rfl) rfl ?_
    refine o_g y rfl rfl ?_
    refine o_rd (rd_ld rfl (by repeat' first | exact List.Mem.head _ | apply List.Mem.tail) rfl) rfl ?_
    exact o_nil ⟨rfl, rfl, ⟨_, (by repeat (first | exact Split.nil | (apply Split.cons; next => repeat (first | exact Pick.here | apply Pick.there))))⟩⟩
  refine o_rd (rd_move rfl) rfl ?_
  refine' o_and (j := 10) (k := 3) y rfl rfl rfl rfl rfl rfl rfl (fun hg17 => ?_) ?_
  rotate_left
  · try simp at hg17
    refine o_g y rfl rfl ?_
    refine o_rd (rd_ldA rfl (by repeat' first | exact List.Mem.head _ | apply List.Mem.tail) rfl) rfl ?_
    refine o_g y rfl rfl ?_
    refine o_rd (rd_move rfl) rfl ?_
    refine o_g y rfl rfl ?_
    refine o_call_is rfl (rhas_fn) (by repeat (first | exact Split.nil | (apply Split.cons; next => repeat (first | exact Pick.here | apply Pick.there)))) rfl rfl ?_
    exact o_nil ⟨rfl, rfl, ⟨_, (by repeat (first | exact Split.nil | (apply Split.cons; next => repeat (first | exact Pick.here | apply Pick.there))))⟩⟩
  refine o_rd (rd_move rfl) rfl ?_
  refine' o_and (j := 15) (k := 6) y rfl rfl rfl rfl rfl rfl rfl (fun hg22 => ?_) ?_
  rotate_left
  · try simp at hg22
    refine o_g y rfl rfl ?_
    refine o_rd (rd_field rfl) rfl ?_
    refine o_g y rfl rfl ?_
    refine o_rd (rd_field rfl) rfl ?_
    refine o_g y rfl rfl ?_
    refine o_rd (rd_ld rfl (by repeat' first | exact List.Mem.head _ | apply List.Mem.tail) rfl) rfl ?_
    refine o_g y rfl rfl ?_
    refine o_rd (rd_field rfl) rfl ?_
    refine o_g y rfl rfl ?_
    refine o_rd (rd_ld rfl (by repeat' first | exact List.Mem.head _ | apply List.Mem.tail) rfl) rfl ?_
    refine o_g y rfl rfl ?_
    refine o_rd (rd_bin rfl rfl rfl) rfl ?_
    exact o_nil ⟨rfl, rfl, ⟨_, (by repeat (first | exact Split.nil | (apply Split.cons; next => repeat (first | exact Pick.here | apply Pick.there))))⟩⟩
  refine o_rd (rd_assign rfl) rfl ?_
  refine o_nil ?_
  refine n_K ?_
  refine s_ret ?_
  refine leaf_is (rets1 Try.results30 (rv_tmp rfl)) ?_ (by repeat (first | exact Split.nil | (apply Split.cons; next => repeat (first | exact Pick.here | apply Pick.there))))
  simp [mayB, hasB]
theorem eright_fn {n m b : Int} : Does Try.prog 27 [vv n m b] [] (Is (.bool (rightB n m)) []) := by
  refine fn_enter (n := 7) Try.func27 Try.ntmps27 rfl (Nat.le_of_ble_eq_true rfl) ?_
  refine s_seq ?_
  refine s_region0 (fun ops => ?_)
  refine o_box rfl rfl (fun b1 => ?_)
  refine o_rd (rd_assign rfl) rfl ?_
  refine o_nil ?_
  refine n_K ?_
  refine s_seq ?_
  refine s_draw [] [(2, [(1, false), (0, true)]), (3, [(2, true)]), (5, [(3, false), (4, false)])] (by kernel_rfl) rfl (fun ops w0 H0 y => ?_)
  refine p_all ?_
  refine x_rd (rd_ldA rfl (by repeat' first | exact List.Mem.head _ | apply List.Mem.tail) rfl) rfl ?_
  refine x_so ?_
  refine o_callx rfl (newtie_fn) (by repeat (first | exact Split.nil | (apply Split.cons; next => repeat (first | exact Pick.here | apply Pick.there)))) rfl (fun v3 Y3 h3 G3 hg3 => ?_)
  obtain ⟨tie3, rfl, rfl⟩ := h3
  cases hg3
  refine o_nil ⟨rfl, ⟨_, (by repeat (first | exact Split.nil | (apply Split.cons; next => repeat (first | exact Pick.here | apply Pick.there))))⟩, ?_⟩
  refine x_nil ?_
  refine p_none ?_
  refine x_so ?_
  refine o_callx rfl (set_fn) (by repeat (first | exact Split.nil | (apply Split.cons; next => repeat (first | exact Pick.here | apply Pick.there)))) rfl (fun v5 Y5 h5 G5 hg5 => ?_)
  rcases h5 with ⟨hs5, rfl, rfl⟩ | ⟨hs5, rfl, rfl⟩
  all_goals
    cases hg5
    refine o_nil ⟨rfl, ⟨_, (by repeat (first | exact Split.nil | (apply Split.cons; next => repeat (first | exact Pick.here | apply Pick.there))))⟩, ?_⟩
    refine x_nil ?_
    refine p_all ?_
    refine x_rd (rd_bin rfl rfl rfl) rfl ?_
    refine x_rd (rd_assign rfl) rfl ?_
    refine x_nil ?_
    refine p_end ?_
    refine n_K ?_
    refine s_ret ?_
    refine leaf_is (rets1 Try.results27 (rv_tmp rfl)) ?_ (by repeat (first | exact Split.nil | (apply Split.cons; next => repeat (first | exact Pick.here | apply Pick.there))))
    (rw [setB0] at hs5; rw [hs5]; rfl)
abbrev chipOf (e : Int) : Ch := ⟨true, true, true, e, fun _ => 0, 0, e, 0, 0, 0⟩
theorem chip_fn {e : Int} : Does Try.prog 26 [.int .u64 e] [] (Is (.agg (cc (chipOf e)).toArray) []) := by
  refine fn_enter (n := 7) Try.func26 Try.ntmps26 rfl (Nat.le_of_ble_eq_true rfl) ?_
  refine s_seq ?_
  refine s_region0 (fun ops => ?_)
  refine o_alloc rfl (fun b2 => ?_)
  refine o_nil ?_
  refine n_K ?_
  refine s_seq ?_
  refine s_region0 (fun ops => ?_)
  refine o_rd (rd_move rfl) rfl ?_
  refine o_rd (rd_build_s rfl rfl) rfl ?_
  refine o_rd (rd_move rfl) rfl ?_
  refine o_rd (rd_build_s rfl rfl) rfl ?_
  refine o_store rfl rfl (by repeat' first | exact Upd.here | apply Upd.there) rfl rfl rfl ?_
  refine o_nil ?_
  refine n_K ?_
  refine s_ret ?_
  refine leaf_is (rets1 Try.results26 (rv_cell rfl (by repeat' first | exact List.Mem.head _ | apply List.Mem.tail) rfl)) ?_ (by repeat (first | exact Split.nil | (apply Split.cons; next => repeat (first | exact Pick.here | apply Pick.there))))
  rfl

theorem refused_fn {n m b : Int} {bl : Nat} {r : Bool} {T : TypeId} {x z : Ch} : Does Try.prog 29 [vv n m b, .slice (some ⟨bl, 0, none⟩) 2 2] [(bl, r, C (cc2 x z) T)] (Is (.int .i64 (refV m x z)) [(bl, r, C (cc2 x z) T)]) := by
  refine fn_enter (n := 36) Try.func29 Try.ntmps29 rfl (Nat.le_of_ble_eq_true rfl) ?_
  refine s_seq ?_
  refine s_region0 (fun ops => ?_)
  refine o_box rfl rfl (fun b2 => ?_)
  refine o_rd (rd_assign rfl) rfl ?_
  refine o_nil ?_
  refine n_K ?_
  refine s_seq ?_
  refine s_region0 (fun ops => ?_)
  refine o_rd (rd_assign rfl) rfl ?_
  refine o_nil ?_
  refine n_K ?_
  refine s_seq ?_
  refine s_seq ?_
  refine s_region0 (fun ops => ?_)
  refine o_rd (rd_move rfl) rfl ?_
  refine o_rd (rd_lenS rfl) rfl ?_
  refine o_rd (rd_move rfl) rfl ?_
  refine o_nil ?_
  refine n_K ?_
  refine s_block ?_
  refine s_loop2E [2, 8, 9] (by repeat' first | exact Keep2.nil | apply Keep2.cons rfl) (fun (s : Int × Int) => [(10, .int .i64 s.1), (5, .int .i64 s.2)]) (fun (s : Int × Int) => 0 ≤ s.1 ∧ s.1 ≤ 2 ∧ s.2 = outAt s.1 x z ∧ okTo m s.1 x z = true) (fun (s : Int × Int) => (2 - s.1).toNat) (((0 : Int), (51 : Int))) ⟨by simp, by simp, by simp [outAt], by simp [okTo]⟩ (by repeat' first | exact Keep.nil | refine Keep.cons rfl ?_) ?_
  rintro ⟨i, q⟩ ⟨h0, h1, h2, h3⟩
  simp only at h0 h1 h2 h3
  refine s_seq ?_
  refine s_region0 (fun ops => ?_)
  refine o_rd (rd_bin rfl rfl rfl) rfl ?_
  refine o_nil ?_
  refine n_K ?_
  refine s_seq ?_
  refine s_cond rfl (fun c11 => ?_) (fun c11 => ?_)
  · try simp at c11
    refine s_skip ?_
    refine n_K ?_
    refine s_seq ?_
    refine s_block ?_
    refine s_seq ?_
    refine s_region0 (fun ops => ?_)
    refine o_rd (rd_move rfl) rfl ?_
    refine o_rd (rd_ixS rfl rfl (by omega)) rfl ?_
    refine o_rd (rd_ldA rfl (by repeat' first | exact List.Mem.head _ | apply List.Mem.tail) (cut_pk h0 c11 x z)) rfl ?_
    refine o_alloc rfl (fun b7 => ?_)
    refine o_rd (rd_assign rfl) rfl ?_
    first | refine o_store rfl rfl (by repeat' first | exact Upd.here | apply Upd.there) (vc_cc _) rfl (spl_cc _ _ rfl) ?_ | refine o_store rfl rfl (by repeat' first | exact Upd.here | apply Upd.there) rfl rfl rfl ?_
    refine o_nil ?_
    refine n_K ?_
    refine s_block ?_
    refine s_seq ?_
    refine s_region [(3, 19)] rfl (fun ops y => ?_)
    refine o_rd (rd_field rfl) rfl ?_
    refine o_rd (rd_ld rfl (by repeat' first | exact List.Mem.head _ | apply List.Mem.tail) rfl) rfl ?_
    refine o_rd (rd_not rfl) rfl ?_
    refine o_rd (rd_move rfl) rfl ?_
    refine' o_or (j := 3) (k := 3) y rfl rfl rfl rfl rfl rfl rfl (fun hg19 => ?_) ?_
    rotate_left
    · try simp at hg19
      refine o_g y rfl rfl ?_
      refine o_rd (rd_field rfl) rfl ?_
      refine o_g y rfl rfl ?_
      refine o_rd (rd_ld rfl (by repeat' first | exact List.Mem.head _ | apply List.Mem.tail) rfl) rfl ?_
      refine o_g y rfl rfl ?_
      refine o_rd (rd_not rfl) rfl ?_
      exact o_nil ⟨rfl, rfl, ⟨_, (by repeat (first | exact Split.nil | (apply Split.cons; next => repeat (first | exact Pick.here | apply Pick.there))))⟩⟩
    refine o_rd (rd_assign rfl) rfl ?_
    refine o_nil ?_
    refine n_K ?_
    refine s_cond rfl (fun c15 => ?_) (fun c15 => ?_)
    · change skipB (pk i x z) = _ at c15
      refine s_skip ?_
      refine n_blk ?_
      refine n_blk ?_
      refine n_K ?_
      refine s_region0 (fun ops => ?_)
      refine o_rd (rd_add64 rfl rfl (by omega)) rfl ?_
      refine o_rd (rd_move rfl) rfl ?_
      refine o_nil ?_
      refine n_K ?_
      first | exact ⟨(i + 1, q), ⟨by simp; omega, by simp; omega, by simp; rw [out_skip h0 c11 c15]; exact h2, ok_skip h0 c11 c15 h3⟩, (by simp; omega), (by repeat' first | exact Keep.nil | refine Keep.cons rfl ?_), (by repeat' first | exact Keep.nil | refine Keep.cons rfl ?_), _, (by repeat (first | exact Split.nil | (apply Split.cons; next => repeat (first | exact Pick.here | apply Pick.there))))⟩ | exact ⟨(i + 1, 50), ⟨by simp; omega, by simp; omega, by simp; rw [out_no h0 c11 c15], ok_no h0 c11 c24 h3⟩, (by simp; omega), (by repeat' first | exact Keep.nil | refine Keep.cons rfl ?_), (by repeat' first | exact Keep.nil | refine Keep.cons rfl ?_), _, (by repeat (first | exact Split.nil | (apply Split.cons; next => repeat (first | exact Pick.here | apply Pick.there))))⟩
    · change skipB (pk i x z) = _ at c15
      refine s_seq ?_
      refine s_region [(4, 29)] rfl (fun ops y => ?_)
      refine o_rd (rd_ldA rfl (by repeat' first | exact List.Mem.head _ | apply List.Mem.tail) rfl) rfl ?_
      refine o_rd (rd_move rfl) rfl ?_
      refine o_bslice_k rfl rfl rfl rfl (fun b27 => ?_)
      refine o_call_is rfl (has1_fn) (by repeat (first | exact Split.nil | (apply Split.cons; next => repeat (first | exact Pick.here | apply Pick.there)))) rfl rfl ?_
      refine o_rd (rd_move rfl) rfl ?_
      refine' o_and (j := 4) (k := 3) y rfl rfl rfl rfl rfl rfl rfl (fun hg29 => ?_) ?_
      rotate_left
      · try simp at hg29
        refine o_g y rfl rfl ?_
        refine o_rd (rd_field rfl) rfl ?_
        refine o_g y rfl rfl ?_
        refine o_rd (rd_ld rfl (by repeat' first | exact List.Mem.head _ | apply List.Mem.tail) rfl) rfl ?_
        refine o_g y rfl rfl ?_
        refine o_rd (rd_not rfl) rfl ?_
        exact o_nil ⟨rfl, rfl, ⟨_, (by repeat (first | exact Split.nil | (apply Split.cons; next => repeat (first | exact Pick.here | apply Pick.there))))⟩⟩
      refine o_rd (rd_assign rfl) rfl ?_
      refine o_nil ?_
      refine n_K ?_
      refine s_cond rfl (fun c24 => ?_) (fun c24 => ?_)
      · change badB m i (pk i x z) = _ at c24
        refine s_seq ?_
        refine s_region0 (fun ops => ?_)
        refine o_rd (rd_assign rfl) rfl ?_
        refine o_nil ?_
        refine n_K ?_
        refine s_ret ?_
        refine r_blk ?_
        refine r_blk ?_
        refine r_K ?_
        refine r_K ?_
        refine r_blk ?_
        refine r_K ?_
        refine leaf_is (rets1 Try.results29 (rv_tmp rfl)) ?_ (by repeat (first | exact Split.nil | (apply Split.cons; next => repeat (first | exact Pick.here | apply Pick.there))))
        rw [ref_bad h0 c11 c15 c24]
      · change badB m i (pk i x z) = _ at c24
        refine s_region0 (fun ops => ?_)
        refine o_rd (rd_assign rfl) rfl ?_
        refine o_nil ?_
        refine n_blk ?_
        refine n_blk ?_
        refine n_K ?_
        refine s_region0 (fun ops => ?_)
        refine o_rd (rd_add64 rfl rfl (by omega)) rfl ?_
        refine o_rd (rd_move rfl) rfl ?_
        refine o_nil ?_
        refine n_K ?_
        first | exact ⟨(i + 1, q), ⟨by simp; omega, by simp; omega, by simp; rw [out_skip h0 c11 c15]; exact h2, ok_skip h0 c11 c15 h3⟩, (by simp; omega), (by repeat' first | exact Keep.nil | refine Keep.cons rfl ?_), (by repeat' first | exact Keep.nil | refine Keep.cons rfl ?_), _, (by repeat (first | exact Split.nil | (apply Split.cons; next => repeat (first | exact Pick.here | apply Pick.there))))⟩ | exact ⟨(i + 1, 50), ⟨by simp; omega, by simp; omega, by simp; rw [out_no h0 c11 c15], ok_no h0 c11 c24 h3⟩, (by simp; omega), (by repeat' first | exact Keep.nil | refine Keep.cons rfl ?_), (by repeat' first | exact Keep.nil | refine Keep.cons rfl ?_), _, (by repeat (first | exact Split.nil | (apply Split.cons; next => repeat (first | exact Pick.here | apply Pick.there))))⟩
  · try simp at c11
    refine s_exit ?_
    refine x_K ?_
    refine x_K ?_
    refine x_blk ?_
    refine n_K ?_
    refine s_seq ?_
    refine s_region0 (fun ops => ?_)
    refine o_rd (rd_move rfl) rfl ?_
    refine o_rd (rd_assign rfl) rfl ?_
    refine o_nil ?_
    refine n_K ?_
    refine s_ret ?_
    refine leaf_is (rets1 Try.results29 (rv_tmp rfl)) ?_ (by repeat (first | exact Split.nil | (apply Split.cons; next => repeat (first | exact Pick.here | apply Pick.there))))
    (obtain rfl : i = 2 := by omega); simp only at h2 ⊢; rw [ref_end h3, ← h2]

abbrev plV (n m b : Int) (x y : Ch) : Value := .tuple #[.agg #[.int .i64 (planT n m b x y).1, .int .i64 (planT n m b x y).2.1, .bool (planT n m b x y).2.2.1], .int .i64 (planT n m b x y).2.2.2]
theorem choose_fn {n m b : Int} {bs sl sc : Nat} {r : Bool} {T : TypeId} {fr : Nat × Nat} {cs2 new : List Value} {x z : Ch} (hc : cut cs2 0 (Nat.min sl 2 * 41) = some new) (hsp : splice (zrep 2 zC) 0 new = some (cc2 x z)) (h1 : (new.all (·.oneCell')) = true) :
    Does Try.prog 22 [vv n m b, .slice (some ⟨bs, 0, none⟩) sl sc] [(bs, r, CF cs2 T fr)] (Is (plV n m b x z) [(bs, r, CF cs2 T fr)]) := by
  refine fn_enter (n := 89) Try.func22 Try.ntmps22 rfl (Nat.le_of_ble_eq_true rfl) ?_
  refine s_seq ?_
  refine s_region0 (fun ops => ?_)
  refine o_box rfl rfl (fun b2 => ?_)
  refine o_alloc rfl (fun b4 => ?_)
  refine o_rd (rd_assign rfl) rfl ?_
  refine o_nil ?_
  refine n_K ?_
  refine s_seq ?_
  refine s_region0 (fun ops => ?_)
  refine o_make rfl rfl (by omega) rfl (fun b13 => ?_)
  refine o_rd (rd_assign rfl) rfl ?_
  refine o_nil ?_
  refine n_K ?_
  refine s_seq ?_
  refine s_region0 (fun ops => ?_)
  refine o_rd (rd_move rfl) rfl ?_
  refine o_rd (rd_move rfl) rfl ?_
  refine o_copy rfl rfl (by repeat' first | exact Upd.here | apply Upd.there) (by repeat' first | exact List.Mem.head _ | apply List.Mem.tail) hc hsp h1 rfl ?_
  refine o_nil ?_
  refine n_K ?_
  refine s_seq ?_
  refine s_seq ?_
  refine s_region0 (fun ops => ?_)
  refine o_rd (rd_ldA rfl (by repeat' first | exact List.Mem.head _ | apply List.Mem.tail) rfl) rfl ?_
  refine o_call_is rfl (eright_fn) (by repeat (first | exact Split.nil | (apply Split.cons; next => repeat (first | exact Pick.here | apply Pick.there)))) rfl rfl ?_
  refine o_rd (rd_not rfl) rfl ?_
  refine o_nil ?_
  refine n_K ?_
  refine s_cond rfl (fun c19 => ?_) (fun c19 => ?_)
  · skip
    refine s_seq ?_
    refine s_region0 (fun ops => ?_)
    refine o_rd (rd_build_s rfl rfl) rfl ?_
    refine o_store rfl rfl (by repeat' first | exact Upd.here | apply Upd.there) rfl rfl rfl ?_
    refine o_rd (rd_assign rfl) rfl ?_
    refine o_nil ?_
    refine n_K ?_
    refine s_ret ?_
    refine r_K ?_
    refine leaf_is (rets2 Try.results22 (rv_cell rfl (by repeat' first | exact List.Mem.head _ | apply List.Mem.tail) rfl) (rv_tmp rfl)) ?_ (by repeat (first | exact Split.nil | (apply Split.cons; next => repeat (first | exact Pick.here | apply Pick.there))))
    (have hr : rightB n m = false := by simpa using c19); simp [plV, planT, hr]
  · skip
    refine s_skip ?_
    refine n_K ?_
    refine s_seq ?_
    refine s_region0 (fun ops => ?_)
    refine o_rd (rd_assign rfl) rfl ?_
    refine o_nil ?_
    refine n_K ?_
    refine s_seq ?_
    refine s_seq ?_
    refine s_region0 (fun ops => ?_)
    refine o_rd (rd_move rfl) rfl ?_
    refine o_rd (rd_lenS rfl) rfl ?_
    refine o_rd (rd_move rfl) rfl ?_
    refine o_nil ?_
    refine n_K ?_
    refine s_block ?_
    refine s_loop2E [2, 4, 5, 6, 21, 22] (by repeat' first | exact Keep2.nil | apply Keep2.cons rfl) (fun (s : Int × Int) => [(23, .int .i64 s.1), (7, .int .i64 s.2)]) (fun (s : Int × Int) => 0 ≤ s.1 ∧ s.1 ≤ 2 ∧ s.2 = bstAt s.1 m b x z ∧ -1 ≤ s.2 ∧ s.2 < 2) (fun (s : Int × Int) => (2 - s.1).toNat) (((0 : Int), (-1 : Int))) ⟨by simp, by simp, by simp [bstAt], by simp, by simp⟩ (by repeat' first | exact Keep.nil | refine Keep.cons rfl ?_) ?_
    rintro ⟨i, q⟩ ⟨h2, h3, h4, h5, h6⟩
    simp only at h2 h3 h4 h5 h6
    refine s_seq ?_
    refine s_region0 (fun ops => ?_)
    refine o_rd (rd_bin rfl rfl rfl) rfl ?_
    refine o_nil ?_
    refine n_K ?_
    refine s_seq ?_
    refine s_cond rfl (fun c24 => ?_) (fun c24 => ?_)
    · try simp at c24
      refine s_skip ?_
      refine n_K ?_
      refine s_seq ?_
      refine s_block ?_
      refine s_seq ?_
      refine s_region0 (fun ops => ?_)
      refine o_rd (rd_move rfl) rfl ?_
      refine o_rd (rd_ixS rfl rfl (by omega)) rfl ?_
      refine o_rd (rd_ldA rfl (by repeat' first | exact List.Mem.head _ | apply List.Mem.tail) (cut_pk h2 c24 x z)) rfl ?_
      refine o_alloc rfl (fun b9 => ?_)
      refine o_rd (rd_assign rfl) rfl ?_
      first | refine o_store rfl rfl (by repeat' first | exact Upd.here | apply Upd.there) (vc_cc _) rfl (spl_cc _ _ rfl) ?_ | refine o_store rfl rfl (by repeat' first | exact Upd.here | apply Upd.there) rfl rfl rfl ?_
      refine o_nil ?_
      refine n_K ?_
      refine s_seq ?_
      refine s_draw [(4, 32), (7, 35)] [(3, [(0, false), (1, false), (2, false)]), (4, [(3, true)]), (20, [(4, false), (5, false), (6, false), (7, false), (8, false), (9, false), (10, false), (11, false), (12, false), (13, false), (14, false), (15, false), (16, false), (17, false), (18, false), (19, false)])] (by kernel_rfl) rfl (fun ops w0 H0 y => ?_)
      refine p_all ?_
      refine x_rd (rd_ldA rfl (by repeat' first | exact List.Mem.head _ | apply List.Mem.tail) rfl) rfl ?_
      refine x_rd (rd_move rfl) rfl ?_
      refine x_rd (rd_ldA rfl (by repeat' first | exact List.Mem.head _ | apply List.Mem.tail) (by first | exact cut_cc _ | rfl)) rfl ?_
      refine x_nil ?_
      refine p_none ?_
      refine x_so ?_
      refine o_call_is rfl (may_fn) (by repeat (first | exact Split.nil | (apply Split.cons; next => repeat (first | exact Pick.here | apply Pick.there)))) rfl rfl ?_
      refine o_nil ⟨rfl, ⟨_, (by repeat (first | exact Split.nil | (apply Split.cons; next => repeat (first | exact Pick.here | apply Pick.there))))⟩, ?_⟩
      refine x_nil ?_
      refine p_all ?_
      refine x_rd (rd_move rfl) rfl ?_
      refine' x_and (j := 4) (k := 14) y rfl rfl rfl rfl rfl rfl rfl (fun hg32 => ?_) ?_
      rotate_left
      · try simp at hg32
        refine x_g y rfl rfl ?_
        refine x_rd (rd_move rfl) rfl ?_
        refine x_g y rfl rfl ?_
        refine x_rd (rd_bin rfl rfl rfl) rfl ?_
        refine x_g y rfl rfl ?_
        refine x_rd (rd_move rfl) rfl ?_
        refine' x_or (j := 7) (k := 10) y rfl rfl rfl rfl rfl rfl rfl (fun hg35 => ?_) ?_
        rotate_left
        · try simp at hg35
          refine x_g y rfl rfl ?_
          refine x_rd (rd_field rfl) rfl ?_
          refine x_g y rfl rfl ?_
          refine x_rd (rd_field rfl) rfl ?_
          refine x_g y rfl rfl ?_
          refine x_rd (rd_ld rfl (by repeat' first | exact List.Mem.head _ | apply List.Mem.tail) rfl) rfl ?_
          refine x_g y rfl rfl ?_
          refine x_rd (rd_move rfl) rfl ?_
          refine x_g y rfl rfl ?_
          refine x_rd (rd_move rfl) rfl ?_
          refine x_g y rfl rfl ?_
          refine x_rd (rd_ixS rfl rfl (by omega)) rfl ?_
          refine x_g y rfl rfl ?_
          refine x_rd (rd_field rfl) rfl ?_
          refine x_g y rfl rfl ?_
          refine x_rd (rd_field rfl) rfl ?_
          refine x_g y rfl rfl ?_
          refine x_rd (rd_ld rfl (by repeat' first | exact List.Mem.head _ | apply List.Mem.tail) (ep_pk (i := q) (by omega) (by omega) x z)) rfl ?_
          refine x_g y rfl rfl ?_
          refine x_rd (rd_bin rfl rfl rfl) rfl ?_
          exact x_nil ⟨rfl, ⟨_, (by repeat (first | exact Split.nil | (apply Split.cons; next => repeat (first | exact Pick.here | apply Pick.there))))⟩⟩
        exact x_nil ⟨rfl, ⟨_, (by repeat (first | exact Split.nil | (apply Split.cons; next => repeat (first | exact Pick.here | apply Pick.there))))⟩⟩
      refine x_nil ?_
      refine p_end ?_
      refine n_K ?_
      refine s_cond rfl (fun c47 => ?_) (fun c47 => ?_)
      · change (mayB m b i (pk i x z) && (decide (q < 0) || decide ((pk q x z).ep < (pk i x z).ep))) = _ at c47
        refine s_region0 (fun ops => ?_)
        refine o_rd (rd_move rfl) rfl ?_
        refine o_rd (rd_assign rfl) rfl ?_
        refine o_nil ?_
        refine n_blk ?_
        refine n_K ?_
        refine s_region0 (fun ops => ?_)
        refine o_rd (rd_add64 rfl rfl (by omega)) rfl ?_
        refine o_rd (rd_move rfl) rfl ?_
        refine o_nil ?_
        refine n_K ?_
        first | exact ⟨(i + 1, i), ⟨by simp; omega, by simp; omega, bst_take h2 c24 h4 c47, by simp; omega, by simp; omega⟩, (by simp; omega), (by repeat' first | exact Keep.nil | refine Keep.cons rfl ?_), (by repeat' first | exact Keep.nil | refine Keep.cons rfl ?_), _, (by repeat (first | exact Split.nil | (apply Split.cons; next => repeat (first | exact Pick.here | apply Pick.there))))⟩ | exact ⟨(i + 1, q), ⟨by simp; omega, by simp; omega, bst_keep h2 c24 h4 c47, by simp; omega, by simp; omega⟩, (by simp; omega), (by repeat' first | exact Keep.nil | refine Keep.cons rfl ?_), (by repeat' first | exact Keep.nil | refine Keep.cons rfl ?_), _, (by repeat (first | exact Split.nil | (apply Split.cons; next => repeat (first | exact Pick.here | apply Pick.there))))⟩
      · change (mayB m b i (pk i x z) && (decide (q < 0) || decide ((pk q x z).ep < (pk i x z).ep))) = _ at c47
        refine s_skip ?_
        refine n_blk ?_
        refine n_K ?_
        refine s_region0 (fun ops => ?_)
        refine o_rd (rd_add64 rfl rfl (by omega)) rfl ?_
        refine o_rd (rd_move rfl) rfl ?_
        refine o_nil ?_
        refine n_K ?_
        first | exact ⟨(i + 1, i), ⟨by simp; omega, by simp; omega, bst_take h2 c24 h4 c47, by simp; omega, by simp; omega⟩, (by simp; omega), (by repeat' first | exact Keep.nil | refine Keep.cons rfl ?_), (by repeat' first | exact Keep.nil | refine Keep.cons rfl ?_), _, (by repeat (first | exact Split.nil | (apply Split.cons; next => repeat (first | exact Pick.here | apply Pick.there))))⟩ | exact ⟨(i + 1, q), ⟨by simp; omega, by simp; omega, bst_keep h2 c24 h4 c47, by simp; omega, by simp; omega⟩, (by simp; omega), (by repeat' first | exact Keep.nil | refine Keep.cons rfl ?_), (by repeat' first | exact Keep.nil | refine Keep.cons rfl ?_), _, (by repeat (first | exact Split.nil | (apply Split.cons; next => repeat (first | exact Pick.here | apply Pick.there))))⟩
    · try simp at c24
      refine s_exit ?_
      refine x_K ?_
      refine x_K ?_
      refine x_blk ?_
      refine n_K ?_
      refine s_seq ?_
      refine s_seq ?_
      refine s_region0 (fun ops => ?_)
      refine o_rd (rd_move rfl) rfl ?_
      refine o_rd (rd_bin rfl rfl rfl) rfl ?_
      refine o_nil ?_
      refine n_K ?_
      refine s_cond rfl (fun c51 => ?_) (fun c51 => ?_)
      · try simp at c51
        refine s_seq ?_
        refine s_region0 (fun ops => ?_)
        refine o_rd (rd_build_s rfl rfl) rfl ?_
        refine o_rd (rd_ldA rfl (by repeat' first | exact List.Mem.head _ | apply List.Mem.tail) rfl) rfl ?_
        refine o_rd (rd_move rfl) rfl ?_
        refine o_call_is rfl (refused_fn) (by repeat (first | exact Split.nil | (apply Split.cons; next => repeat (first | exact Pick.here | apply Pick.there)))) rfl rfl ?_
        refine o_store rfl rfl (by repeat' first | exact Upd.here | apply Upd.there) rfl rfl rfl ?_
        refine o_rd (rd_assign rfl) rfl ?_
        refine o_nil ?_
        refine n_K ?_
        refine s_ret ?_
        refine r_K ?_
        refine leaf_is (rets2 Try.results22 (rv_cell rfl (by repeat' first | exact List.Mem.head _ | apply List.Mem.tail) rfl) (rv_tmp rfl)) ?_ (by repeat (first | exact Split.nil | (apply Split.cons; next => repeat (first | exact Pick.here | apply Pick.there))))
        (have hr : rightB n m = true := by simpa using c19); (obtain rfl : i = 2 := by omega); (have hq : bst2 m b x z = q := h4.symm); simp [plV, planT, hr, hq, c51]
      · try simp at c51
        refine s_skip ?_
        refine n_K ?_
        refine s_seq ?_
        refine s_region0 (fun ops => ?_)
        refine o_rd (rd_move rfl) rfl ?_
        refine o_rd (rd_move rfl) rfl ?_
        refine o_rd (rd_sub64 rfl rfl (by omega)) rfl ?_
        refine o_rd (rd_ixS rfl rfl (by omega)) rfl ?_
        refine o_rd (rd_ldA rfl (by repeat' first | exact List.Mem.head _ | apply List.Mem.tail) (cut_pk (i := 1 - q) (by omega) (by omega) x z)) rfl ?_
        refine o_alloc rfl (fun b10 => ?_)
        first | refine o_store rfl rfl (by repeat' first | exact Upd.here | apply Upd.there) (vc_cc _) rfl (spl_cc _ _ rfl) ?_ | refine o_store rfl rfl (by repeat' first | exact Upd.here | apply Upd.there) rfl rfl rfl ?_
        refine o_nil ?_
        refine n_K ?_
        refine s_seq ?_
        refine s_draw [(5, 66)] [(4, [(0, false), (1, false), (2, false), (3, false)]), (5, [(4, true)]), (16, [(5, false), (6, false), (7, false), (8, false), (9, false), (10, false), (11, false), (12, false), (13, false), (14, false), (15, false)])] (by kernel_rfl) rfl (fun ops w0 H0 y => ?_)
        refine p_all ?_
        refine x_rd (rd_ldA rfl (by repeat' first | exact List.Mem.head _ | apply List.Mem.tail) rfl) rfl ?_
        refine x_rd (rd_move rfl) rfl ?_
        refine x_rd (rd_sub64 rfl rfl (by omega)) rfl ?_
        refine x_rd (rd_ldA rfl (by repeat' first | exact List.Mem.head _ | apply List.Mem.tail) (by first | exact cut_cc _ | rfl)) rfl ?_
        refine x_nil ?_
        refine p_none ?_
        refine x_so ?_
        refine o_call_is rfl (may_fn) (by repeat (first | exact Split.nil | (apply Split.cons; next => repeat (first | exact Pick.here | apply Pick.there)))) rfl rfl ?_
        refine o_nil ⟨rfl, ⟨_, (by repeat (first | exact Split.nil | (apply Split.cons; next => repeat (first | exact Pick.here | apply Pick.there))))⟩, ?_⟩
        refine x_nil ?_
        refine p_all ?_
        refine x_rd (rd_move rfl) rfl ?_
        refine' x_and (j := 5) (k := 8) y rfl rfl rfl rfl rfl rfl rfl (fun hg66 => ?_) ?_
        rotate_left
        · try simp at hg66
          refine x_g y rfl rfl ?_
          refine x_rd (rd_field rfl) rfl ?_
          refine x_g y rfl rfl ?_
          refine x_rd (rd_ldA rfl (by repeat' first | exact List.Mem.head _ | apply List.Mem.tail) (cut_com (pk (1 - q) x z))) rfl ?_
          refine x_g y rfl rfl ?_
          refine x_rd (rd_move rfl) rfl ?_
          refine x_g y rfl rfl ?_
          refine x_rd (rd_move rfl) rfl ?_
          refine x_g y rfl rfl ?_
          refine x_rd (rd_ixS rfl rfl (by omega)) rfl ?_
          refine x_g y rfl rfl ?_
          refine x_rd (rd_field rfl) rfl ?_
          refine x_g y rfl rfl ?_
          refine x_rd (rd_ldA rfl (by repeat' first | exact List.Mem.head _ | apply List.Mem.tail) (com_pk (i := q) (by omega) (by omega) x z)) rfl ?_
          refine x_g y rfl rfl ?_
          refine x_rd (rd_eqA rfl rfl (com_eq _ _)) rfl ?_
          exact x_nil ⟨rfl, ⟨_, (by repeat (first | exact Split.nil | (apply Split.cons; next => repeat (first | exact Pick.here | apply Pick.there))))⟩⟩
        refine x_rd (rd_assign rfl) rfl ?_
        refine x_nil ?_
        refine p_end ?_
        refine n_K ?_
        refine s_seq ?_
        refine s_region0 (fun ops => ?_)
        refine o_rd (rd_move rfl) rfl ?_
        refine o_rd (rd_move rfl) rfl ?_
        refine o_rd (rd_shl rfl rfl (by omega)) rfl ?_
        refine o_rd (rd_build_s rfl rfl) rfl ?_
        refine o_alloc rfl (fun b12 => ?_)
        refine o_store rfl rfl (by repeat' first | exact Upd.here | apply Upd.there) rfl rfl rfl ?_
        refine o_nil ?_
        refine n_K ?_
        refine s_seq ?_
        refine s_seq ?_
        refine s_region0 (fun ops => ?_)
        refine o_rd (rd_move rfl) rfl ?_
        refine o_nil ?_
        refine n_K ?_
        refine s_cond rfl (fun c80 => ?_) (fun c80 => ?_)
        · change alikeB m b q x z = _ at c80
          refine s_region0 (fun ops => ?_)
          refine o_rd (rd_field rfl) rfl ?_
          refine o_store rfl rfl (by repeat' first | exact Upd.here | apply Upd.there) rfl rfl rfl ?_
          refine o_nil ?_
          refine n_K ?_
          refine s_seq ?_
          refine s_region0 (fun ops => ?_)
          refine o_rd (rd_field rfl) rfl ?_
          refine o_rd (rd_ld rfl (by repeat' first | exact List.Mem.head _ | apply List.Mem.tail) rfl) rfl ?_
          refine o_rd (rd_field rfl) rfl ?_
          refine o_rd (rd_ld rfl (by repeat' first | exact List.Mem.head _ | apply List.Mem.tail) rfl) rfl ?_
          refine o_rd (rd_bin rfl rfl rfl) rfl ?_
          refine o_rd (rd_field rfl) rfl ?_
          refine o_store rfl rfl (by repeat' first | exact Upd.here | apply Upd.there) rfl rfl rfl ?_
          refine o_nil ?_
          refine n_K ?_
          refine s_seq ?_
          refine s_region0 (fun ops => ?_)
          refine o_rd (rd_ldA rfl (by repeat' first | exact List.Mem.head _ | apply List.Mem.tail) rfl) rfl ?_
          refine o_store rfl rfl (by repeat' first | exact Upd.here | apply Upd.there) rfl rfl rfl ?_
          refine o_rd (rd_assign rfl) rfl ?_
          refine o_nil ?_
          refine n_K ?_
          refine s_ret ?_
          refine leaf_is (rets2 Try.results22 (rv_cell rfl (by repeat' first | exact List.Mem.head _ | apply List.Mem.tail) rfl) (rv_tmp rfl)) ?_ (by repeat (first | exact Split.nil | (apply Split.cons; next => repeat (first | exact Pick.here | apply Pick.there))))
          (have hr : rightB n m = true := by simpa using c19); (obtain rfl : i = 2 := by omega); (have hq : bst2 m b x z = q := h4.symm); simp [plV, planT, hr, hq, show ¬ q < 0 by omega, memV, c80, show IntKind.i64.bits = 64 from rfl]
        · change alikeB m b q x z = _ at c80
          refine s_skip ?_
          refine n_K ?_
          refine s_seq ?_
          refine s_region0 (fun ops => ?_)
          refine o_rd (rd_field rfl) rfl ?_
          refine o_rd (rd_ld rfl (by repeat' first | exact List.Mem.head _ | apply List.Mem.tail) rfl) rfl ?_
          refine o_rd (rd_field rfl) rfl ?_
          refine o_rd (rd_ld rfl (by repeat' first | exact List.Mem.head _ | apply List.Mem.tail) rfl) rfl ?_
          refine o_rd (rd_bin rfl rfl rfl) rfl ?_
          refine o_rd (rd_field rfl) rfl ?_
          refine o_store rfl rfl (by repeat' first | exact Upd.here | apply Upd.there) rfl rfl rfl ?_
          refine o_nil ?_
          refine n_K ?_
          refine s_seq ?_
          refine s_region0 (fun ops => ?_)
          refine o_rd (rd_ldA rfl (by repeat' first | exact List.Mem.head _ | apply List.Mem.tail) rfl) rfl ?_
          refine o_store rfl rfl (by repeat' first | exact Upd.here | apply Upd.there) rfl rfl rfl ?_
          refine o_rd (rd_assign rfl) rfl ?_
          refine o_nil ?_
          refine n_K ?_
          refine s_ret ?_
          refine leaf_is (rets2 Try.results22 (rv_cell rfl (by repeat' first | exact List.Mem.head _ | apply List.Mem.tail) rfl) (rv_tmp rfl)) ?_ (by repeat (first | exact Split.nil | (apply Split.cons; next => repeat (first | exact Pick.here | apply Pick.there))))
          (have hr : rightB n m = true := by simpa using c19); (obtain rfl : i = 2 := by omega); (have hq : bst2 m b x z = q := h4.symm); simp [plV, planT, hr, hq, show ¬ q < 0 by omega, memV, c80, show IntKind.i64.bits = 64 from rfl]
theorem choose2_fn {n m b : Int} {bs sc : Nat} {r : Bool} {T : TypeId} {x z : Ch} :
    Does Try.prog 22 [vv n m b, .slice (some ⟨bs, 0, none⟩) 2 sc] [(bs, r, C (cc2 x z) T)] (Is (plV n m b x z) [(bs, r, C (cc2 x z) T)]) :=
  choose_fn (new := cc2 x z) (by kernel_rfl) (by kernel_rfl) (by kernel_rfl)
theorem choose1_fn {n m b : Int} {bs sc : Nat} {r : Bool} {T : TypeId} {x : Ch} :
    Does Try.prog 22 [vv n m b, .slice (some ⟨bs, 0, none⟩) 1 sc] [(bs, r, C (cc x) T)] (Is (plV n m b x zCh) [(bs, r, C (cc x) T)]) :=
  choose_fn (new := cc x) (by kernel_rfl) (by kernel_rfl) (by kernel_rfl)
theorem choose3_fn {n m b : Int} {bs sc : Nat} {r : Bool} {T : TypeId} {x z u : Ch} :
    Does Try.prog 22 [vv n m b, .slice (some ⟨bs, 0, none⟩) 3 sc] [(bs, r, C (cc2 x z ++ cc u) T)] (Is (plV n m b x z) [(bs, r, C (cc2 x z ++ cc u) T)]) :=
  choose_fn (new := cc2 x z) (by kernel_rfl) (by kernel_rfl) (by kernel_rfl)
theorem rchoose_fn {n m b : Int} {x z : Ch} : Does Try.prog 23 [vv n m b, .agg (cc x).toArray, .agg (cc z).toArray] [] (Is (plV n m b x z) []) := by
  refine fn_enter (n := 120) Try.func23 Try.ntmps23 rfl (Nat.le_of_ble_eq_true rfl) ?_
  refine s_seq ?_
  refine s_region0 (fun ops => ?_)
  refine o_box rfl rfl (fun b3 => ?_)
  refine o_boxA rfl rfl (fun b4 => ?_)
  refine o_boxA rfl rfl (fun b5 => ?_)
  refine o_alloc rfl (fun b6 => ?_)
  refine o_rd (rd_assign rfl) rfl ?_
  refine o_nil ?_
  refine n_K ?_
  refine s_seq ?_
  refine s_draw [] [(5, [(0, false), (1, false), (3, false), (4, false), (2, true)]), (6, [(5, true)]), (8, [(6, false), (7, false)])] (by kernel_rfl) rfl (fun ops w0 H0 y => ?_)
  refine p_all ?_
  refine x_rd (rd_ldA rfl (by repeat' first | exact List.Mem.head _ | apply List.Mem.tail) rfl) rfl ?_
  refine x_rd (rd_ldA rfl (by repeat' first | exact List.Mem.head _ | apply List.Mem.tail) (by first | exact cut_cc _ | rfl)) rfl ?_
  refine x_rd (rd_ldA rfl (by repeat' first | exact List.Mem.head _ | apply List.Mem.tail) rfl) rfl ?_
  refine x_rd (rd_ldA rfl (by repeat' first | exact List.Mem.head _ | apply List.Mem.tail) (by first | exact cut_cc _ | rfl)) rfl ?_
  refine x_so ?_
  refine o_call_is rfl (rmay_fn) (by repeat (first | exact Split.nil | (apply Split.cons; next => repeat (first | exact Pick.here | apply Pick.there)))) rfl rfl ?_
  refine o_nil ⟨rfl, ⟨_, (by repeat (first | exact Split.nil | (apply Split.cons; next => repeat (first | exact Pick.here | apply Pick.there))))⟩, ?_⟩
  refine x_nil ?_
  refine p_none ?_
  refine x_so ?_
  refine o_call_is rfl (rmay_fn) (by repeat (first | exact Split.nil | (apply Split.cons; next => repeat (first | exact Pick.here | apply Pick.there)))) rfl rfl ?_
  refine o_nil ⟨rfl, ⟨_, (by repeat (first | exact Split.nil | (apply Split.cons; next => repeat (first | exact Pick.here | apply Pick.there))))⟩, ?_⟩
  refine x_nil ?_
  refine p_all ?_
  refine x_rd (rd_assign rfl) rfl ?_
  refine x_rd (rd_assign rfl) rfl ?_
  refine x_nil ?_
  refine p_end ?_
  refine n_K ?_
  refine s_seq ?_
  refine s_seq ?_
  refine s_region [(3, 20), (7, 24), (12, 29), (16, 33)] rfl (fun ops y => ?_)
  refine o_rd (rd_ldA rfl (by repeat' first | exact List.Mem.head _ | apply List.Mem.tail) rfl) rfl ?_
  refine o_call_is rfl (rright_fn) (by repeat (first | exact Split.nil | (apply Split.cons; next => repeat (first | exact Pick.here | apply Pick.there)))) rfl rfl ?_
  refine o_rd (rd_not rfl) rfl ?_
  refine o_rd (rd_move rfl) rfl ?_
  refine' o_or (j := 3) (k := 18) y rfl rfl rfl rfl rfl rfl rfl (fun hg20 => ?_) ?_
  rotate_left
  · try simp at hg20
    refine o_g y rfl rfl ?_
    refine o_rd (rd_field rfl) rfl ?_
    refine o_g y rfl rfl ?_
    refine o_rd (rd_ld rfl (by repeat' first | exact List.Mem.head _ | apply List.Mem.tail) rfl) rfl ?_
    refine o_g y rfl rfl ?_
    refine o_rd (rd_not rfl) rfl ?_
    refine o_g y rfl rfl ?_
    refine o_rd (rd_move rfl) rfl ?_
    refine' o_or (j := 7) (k := 3) y rfl rfl rfl rfl rfl rfl rfl (fun hg24 => ?_) ?_
    rotate_left
    · try simp at hg24
      refine o_g y rfl rfl ?_
      refine o_rd (rd_field rfl) rfl ?_
      refine o_g y rfl rfl ?_
      refine o_rd (rd_ld rfl (by repeat' first | exact List.Mem.head _ | apply List.Mem.tail) rfl) rfl ?_
      refine o_g y rfl rfl ?_
      refine o_rd (rd_not rfl) rfl ?_
      exact o_nil ⟨rfl, rfl, ⟨_, (by repeat (first | exact Split.nil | (apply Split.cons; next => repeat (first | exact Pick.here | apply Pick.there))))⟩⟩
    refine o_g y rfl rfl ?_
    refine o_rd (rd_move rfl) rfl ?_
    refine' o_and (j := 12) (k := 8) y rfl rfl rfl rfl rfl rfl rfl (fun hg29 => ?_) ?_
    rotate_left
    · try simp at hg29
      refine o_g y rfl rfl ?_
      refine o_rd (rd_field rfl) rfl ?_
      refine o_g y rfl rfl ?_
      refine o_rd (rd_ld rfl (by repeat' first | exact List.Mem.head _ | apply List.Mem.tail) rfl) rfl ?_
      refine o_g y rfl rfl ?_
      refine o_rd (rd_not rfl) rfl ?_
      refine o_g y rfl rfl ?_
      refine o_rd (rd_move rfl) rfl ?_
      refine' o_or (j := 16) (k := 3) y rfl rfl rfl rfl rfl rfl rfl (fun hg33 => ?_) ?_
      rotate_left
      · try simp at hg33
        refine o_g y rfl rfl ?_
        refine o_rd (rd_field rfl) rfl ?_
        refine o_g y rfl rfl ?_
        refine o_rd (rd_ld rfl (by repeat' first | exact List.Mem.head _ | apply List.Mem.tail) rfl) rfl ?_
        refine o_g y rfl rfl ?_
        refine o_rd (rd_not rfl) rfl ?_
        exact o_nil ⟨rfl, rfl, ⟨_, (by repeat (first | exact Split.nil | (apply Split.cons; next => repeat (first | exact Pick.here | apply Pick.there))))⟩⟩
      exact o_nil ⟨rfl, rfl, ⟨_, (by repeat (first | exact Split.nil | (apply Split.cons; next => repeat (first | exact Pick.here | apply Pick.there))))⟩⟩
    exact o_nil ⟨rfl, rfl, ⟨_, (by repeat (first | exact Split.nil | (apply Split.cons; next => repeat (first | exact Pick.here | apply Pick.there))))⟩⟩
  refine o_nil ?_
  refine n_K ?_
  refine s_cond rfl (fun c39 => ?_) (fun c39 => ?_)
  · change (!rightB n m || (skipB x && skipB z)) = _ at c39
    refine s_seq ?_
    refine s_region0 (fun ops => ?_)
    refine o_rd (rd_build_s rfl rfl) rfl ?_
    refine o_store rfl rfl (by repeat' first | exact Upd.here | apply Upd.there) rfl rfl rfl ?_
    refine o_rd (rd_assign rfl) rfl ?_
    refine o_nil ?_
    refine n_K ?_
    refine s_ret ?_
    refine r_K ?_
    refine leaf_is (rets2 Try.results23 (rv_cell rfl (by repeat' first | exact List.Mem.head _ | apply List.Mem.tail) rfl) (rv_tmp rfl)) ?_ (by repeat (first | exact Split.nil | (apply Split.cons; next => repeat (first | exact Pick.here | apply Pick.there))))
    rw [plV, ref_a c39]
  · change (!rightB n m || (skipB x && skipB z)) = _ at c39
    refine s_skip ?_
    refine n_K ?_
    refine s_seq ?_
    refine s_seq ?_
    refine s_region [(2, 43)] rfl (fun ops y => ?_)
    refine o_rd (rd_move rfl) rfl ?_
    refine o_rd (rd_not rfl) rfl ?_
    refine o_rd (rd_move rfl) rfl ?_
    refine' o_and (j := 2) (k := 2) y rfl rfl rfl rfl rfl rfl rfl (fun hg43 => ?_) ?_
    rotate_left
    · try simp at hg43
      refine o_g y rfl rfl ?_
      refine o_rd (rd_move rfl) rfl ?_
      refine o_g y rfl rfl ?_
      refine o_rd (rd_not rfl) rfl ?_
      exact o_nil ⟨rfl, rfl, ⟨_, (by repeat (first | exact Split.nil | (apply Split.cons; next => repeat (first | exact Pick.here | apply Pick.there))))⟩⟩
    refine o_nil ?_
    refine n_K ?_
    refine s_cond rfl (fun c46 => ?_) (fun c46 => ?_)
    · change (!mayB m b 0 x && !mayB m b 1 z) = _ at c46
      have hh := may_both c46
      refine s_seq ?_
      refine s_seq ?_
      refine s_region [(2, 49), (6, 53), (11, 58), (15, 62), (18, 65), (22, 69), (27, 74)] rfl (fun ops y => ?_)
      refine o_rd (rd_field rfl) rfl ?_
      refine o_rd (rd_ld rfl (by repeat' first | exact List.Mem.head _ | apply List.Mem.tail) rfl) rfl ?_
      refine o_rd (rd_move rfl) rfl ?_
      refine' o_and (j := 2) (k := 2) y rfl rfl rfl rfl rfl rfl rfl (fun hg49 => ?_) ?_
      rotate_left
      · try simp at hg49
        refine o_g y rfl rfl ?_
        refine o_rd (rd_field rfl) rfl ?_
        refine o_g y rfl rfl ?_
        refine o_rd (rd_ld rfl (by repeat' first | exact List.Mem.head _ | apply List.Mem.tail) rfl) rfl ?_
        exact o_nil ⟨rfl, rfl, ⟨_, (by repeat (first | exact Split.nil | (apply Split.cons; next => repeat (first | exact Pick.here | apply Pick.there))))⟩⟩
      refine o_rd (rd_move rfl) rfl ?_
      refine' o_and (j := 6) (k := 3) y rfl rfl rfl rfl rfl rfl rfl (fun hg53 => ?_) ?_
      rotate_left
      · try simp at hg53
        refine o_g y rfl rfl ?_
        refine o_rd (rd_field rfl) rfl ?_
        refine o_g y rfl rfl ?_
        refine o_rd (rd_ld rfl (by repeat' first | exact List.Mem.head _ | apply List.Mem.tail) rfl) rfl ?_
        refine o_g y rfl rfl ?_
        refine o_rd (rd_not rfl) rfl ?_
        exact o_nil ⟨rfl, rfl, ⟨_, (by repeat (first | exact Split.nil | (apply Split.cons; next => repeat (first | exact Pick.here | apply Pick.there))))⟩⟩
      refine o_rd (rd_move rfl) rfl ?_
      refine' o_and (j := 11) (k := 2) y rfl rfl rfl rfl rfl rfl rfl (fun hg58 => ?_) ?_
      rotate_left
      · try simp at hg58
        refine o_g y rfl rfl ?_
        refine o_rd (rd_ldA rfl (by repeat' first | exact List.Mem.head _ | apply List.Mem.tail) rfl) rfl ?_
        refine o_g y rfl rfl ?_
        refine o_call_is rfl (rhas_fn) (by repeat (first | exact Split.nil | (apply Split.cons; next => repeat (first | exact Pick.here | apply Pick.there)))) rfl rfl ?_
        exact o_nil ⟨rfl, rfl, ⟨_, (by repeat (first | exact Split.nil | (apply Split.cons; next => repeat (first | exact Pick.here | apply Pick.there))))⟩⟩
      refine o_rd (rd_move rfl) rfl ?_
      refine' o_or (j := 15) (k := 15) y rfl rfl rfl rfl rfl rfl rfl (fun hg62 => ?_) ?_
      rotate_left
      · try simp at hg62
        refine o_g y rfl rfl ?_
        refine o_rd (rd_field rfl) rfl ?_
        refine o_g y rfl rfl ?_
        refine o_rd (rd_ld rfl (by repeat' first | exact List.Mem.head _ | apply List.Mem.tail) rfl) rfl ?_
        refine o_g y rfl rfl ?_
        refine o_rd (rd_move rfl) rfl ?_
        refine' o_and (j := 18) (k := 2) y rfl rfl rfl rfl rfl rfl rfl (fun hg65 => ?_) ?_
        rotate_left
        · try simp at hg65
          refine o_g y rfl rfl ?_
          refine o_rd (rd_field rfl) rfl ?_
          refine o_g y rfl rfl ?_
          refine o_rd (rd_ld rfl (by repeat' first | exact List.Mem.head _ | apply List.Mem.tail) rfl) rfl ?_
          exact o_nil ⟨rfl, rfl, ⟨_, (by repeat (first | exact Split.nil | (apply Split.cons; next => repeat (first | exact Pick.here | apply Pick.there))))⟩⟩
        refine o_g y rfl rfl ?_
        refine o_rd (rd_move rfl) rfl ?_
        refine' o_and (j := 22) (k := 3) y rfl rfl rfl rfl rfl rfl rfl (fun hg69 => ?_) ?_
        rotate_left
        · try simp at hg69
          refine o_g y rfl rfl ?_
          refine o_rd (rd_field rfl) rfl ?_
          refine o_g y rfl rfl ?_
          refine o_rd (rd_ld rfl (by repeat' first | exact List.Mem.head _ | apply List.Mem.tail) rfl) rfl ?_
          refine o_g y rfl rfl ?_
          refine o_rd (rd_not rfl) rfl ?_
          exact o_nil ⟨rfl, rfl, ⟨_, (by repeat (first | exact Split.nil | (apply Split.cons; next => repeat (first | exact Pick.here | apply Pick.there))))⟩⟩
        refine o_g y rfl rfl ?_
        refine o_rd (rd_move rfl) rfl ?_
        refine' o_and (j := 27) (k := 2) y rfl rfl rfl rfl rfl rfl rfl (fun hg74 => ?_) ?_
        rotate_left
        · try simp at hg74
          refine o_g y rfl rfl ?_
          refine o_rd (rd_ldA rfl (by repeat' first | exact List.Mem.head _ | apply List.Mem.tail) rfl) rfl ?_
          refine o_g y rfl rfl ?_
          refine o_call_is rfl (rhas_fn) (by repeat (first | exact Split.nil | (apply Split.cons; next => repeat (first | exact Pick.here | apply Pick.there)))) rfl rfl ?_
          exact o_nil ⟨rfl, rfl, ⟨_, (by repeat (first | exact Split.nil | (apply Split.cons; next => repeat (first | exact Pick.here | apply Pick.there))))⟩⟩
        exact o_nil ⟨rfl, rfl, ⟨_, (by repeat (first | exact Split.nil | (apply Split.cons; next => repeat (first | exact Pick.here | apply Pick.there))))⟩⟩
      refine o_nil ?_
      refine n_K ?_
      refine s_cond rfl (fun c78 => ?_) (fun c78 => ?_)
      · change ((((x.h && x.s) && !x.w) && !outI m 0) || (((z.h && z.s) && !z.w) && !outI m 1)) = _ at c78; rw [← has_one, ← has_one, may_form, may_form] at c78
        refine s_seq ?_
        refine s_region0 (fun ops => ?_)
        refine o_rd (rd_build_s rfl rfl) rfl ?_
        refine o_store rfl rfl (by repeat' first | exact Upd.here | apply Upd.there) rfl rfl rfl ?_
        refine o_rd (rd_assign rfl) rfl ?_
        refine o_nil ?_
        refine n_K ?_
        refine s_ret ?_
        refine r_K ?_
        refine r_K ?_
        refine leaf_is (rets2 Try.results23 (rv_cell rfl (by repeat' first | exact List.Mem.head _ | apply List.Mem.tail) rfl) (rv_tmp rfl)) ?_ (by repeat (first | exact Split.nil | (apply Split.cons; next => repeat (first | exact Pick.here | apply Pick.there))))
        rw [plV, ref_b c39 hh.1 hh.2 c78]
      · change ((((x.h && x.s) && !x.w) && !outI m 0) || (((z.h && z.s) && !z.w) && !outI m 1)) = _ at c78; rw [← has_one, ← has_one, may_form, may_form] at c78
        refine s_skip ?_
        refine n_K ?_
        refine s_seq ?_
        refine s_region0 (fun ops => ?_)
        refine o_rd (rd_build_s rfl rfl) rfl ?_
        refine o_store rfl rfl (by repeat' first | exact Upd.here | apply Upd.there) rfl rfl rfl ?_
        refine o_rd (rd_assign rfl) rfl ?_
        refine o_nil ?_
        refine n_K ?_
        refine s_ret ?_
        refine r_K ?_
        refine leaf_is (rets2 Try.results23 (rv_cell rfl (by repeat' first | exact List.Mem.head _ | apply List.Mem.tail) rfl) (rv_tmp rfl)) ?_ (by repeat (first | exact Split.nil | (apply Split.cons; next => repeat (first | exact Pick.here | apply Pick.there))))
        rw [plV, ref_c c39 hh.1 hh.2 c78]
    · change (!mayB m b 0 x && !mayB m b 1 z) = _ at c46
      refine s_skip ?_
      refine n_K ?_
      refine s_seq ?_
      refine s_region0 (fun ops => ?_)
      refine o_rd (rd_build_s rfl rfl) rfl ?_
      refine o_alloc rfl (fun b10 => ?_)
      refine o_store rfl rfl (by repeat' first | exact Upd.here | apply Upd.there) rfl rfl rfl ?_
      refine o_nil ?_
      refine n_K ?_
      refine s_seq ?_
      refine s_seq ?_
      refine s_region [(2, 84), (4, 86)] rfl (fun ops y => ?_)
      refine o_rd (rd_move rfl) rfl ?_
      refine o_rd (rd_not rfl) rfl ?_
      refine o_rd (rd_move rfl) rfl ?_
      refine' o_or (j := 2) (k := 10) y rfl rfl rfl rfl rfl rfl rfl (fun hg84 => ?_) ?_
      rotate_left
      · try simp at hg84
        refine o_g y rfl rfl ?_
        refine o_rd (rd_move rfl) rfl ?_
        refine o_g y rfl rfl ?_
        refine o_rd (rd_move rfl) rfl ?_
        refine' o_and (j := 4) (k := 7) y rfl rfl rfl rfl rfl rfl rfl (fun hg86 => ?_) ?_
        rotate_left
        · try simp at hg86
          refine o_g y rfl rfl ?_
          refine o_rd (rd_field rfl) rfl ?_
          refine o_g y rfl rfl ?_
          refine o_rd (rd_field rfl) rfl ?_
          refine o_g y rfl rfl ?_
          refine o_rd (rd_ld rfl (by repeat' first | exact List.Mem.head _ | apply List.Mem.tail) rfl) rfl ?_
          refine o_g y rfl rfl ?_
          refine o_rd (rd_field rfl) rfl ?_
          refine o_g y rfl rfl ?_
          refine o_rd (rd_field rfl) rfl ?_
          refine o_g y rfl rfl ?_
          refine o_rd (rd_ld rfl (by repeat' first | exact List.Mem.head _ | apply List.Mem.tail) rfl) rfl ?_
          refine o_g y rfl rfl ?_
          refine o_rd (rd_bin rfl rfl rfl) rfl ?_
          exact o_nil ⟨rfl, rfl, ⟨_, (by repeat (first | exact Split.nil | (apply Split.cons; next => repeat (first | exact Pick.here | apply Pick.there))))⟩⟩
        exact o_nil ⟨rfl, rfl, ⟨_, (by repeat (first | exact Split.nil | (apply Split.cons; next => repeat (first | exact Pick.here | apply Pick.there))))⟩⟩
      refine o_nil ?_
      refine n_K ?_
      refine s_cond rfl (fun c95 => ?_) (fun c95 => ?_)
      · change refC m b x z = _ at c95
        refine s_region0 (fun ops => ?_)
        refine o_rd (rd_field rfl) rfl ?_
        refine o_store rfl rfl (by repeat' first | exact Upd.here | apply Upd.there) rfl rfl rfl ?_
        refine o_nil ?_
        refine n_K ?_
        refine s_seq ?_
        refine s_region0 (fun ops => ?_)
        refine o_rd (rd_field rfl) rfl ?_
        refine o_rd (rd_ld rfl (by repeat' first | exact List.Mem.head _ | apply List.Mem.tail) rfl) rfl ?_
        refine o_rd (rd_add64 rfl rfl (by omega)) rfl ?_
        refine o_rd (rd_field rfl) rfl ?_
        refine o_store rfl rfl (by repeat' first | exact Upd.here | apply Upd.there) rfl rfl rfl ?_
        refine o_nil ?_
        refine n_K ?_
        refine s_seq ?_
        refine s_seq ?_
        refine s_region [(1, 102), (4, 105)] rfl (fun ops y => ?_)
        refine o_rd (rd_move rfl) rfl ?_
        refine o_rd (rd_move rfl) rfl ?_
        refine' o_and (j := 1) (k := 1) y rfl rfl rfl rfl rfl rfl rfl (fun hg102 => ?_) ?_
        rotate_left
        · try simp at hg102
          refine o_g y rfl rfl ?_
          refine o_rd (rd_move rfl) rfl ?_
          exact o_nil ⟨rfl, rfl, ⟨_, (by repeat (first | exact Split.nil | (apply Split.cons; next => repeat (first | exact Pick.here | apply Pick.there))))⟩⟩
        refine o_rd (rd_move rfl) rfl ?_
        refine' o_and (j := 4) (k := 5) y rfl rfl rfl rfl rfl rfl rfl (fun hg105 => ?_) ?_
        rotate_left
        · try simp at hg105
          refine o_g y rfl rfl ?_
          refine o_rd (rd_field rfl) rfl ?_
          refine o_g y rfl rfl ?_
          refine o_rd (rd_ldA rfl (by repeat' first | exact List.Mem.head _ | apply List.Mem.tail) (cut_com x)) rfl ?_
          refine o_g y rfl rfl ?_
          refine o_rd (rd_field rfl) rfl ?_
          refine o_g y rfl rfl ?_
          refine o_rd (rd_ldA rfl (by repeat' first | exact List.Mem.head _ | apply List.Mem.tail) (cut_com z)) rfl ?_
          refine o_g y rfl rfl ?_
          refine o_rd (rd_eqA rfl rfl (com_eq _ _)) rfl ?_
          exact o_nil ⟨rfl, rfl, ⟨_, (by repeat (first | exact Split.nil | (apply Split.cons; next => repeat (first | exact Pick.here | apply Pick.there))))⟩⟩
        refine o_nil ?_
        refine n_K ?_
        refine s_cond rfl (fun c111 => ?_) (fun c111 => ?_)
        · change refA m b x z = _ at c111
          refine s_region0 (fun ops => ?_)
          refine o_rd (rd_field rfl) rfl ?_
          refine o_store rfl rfl (by repeat' first | exact Upd.here | apply Upd.there) rfl rfl rfl ?_
          refine o_nil ?_
          refine n_K ?_
          refine s_seq ?_
          refine s_region0 (fun ops => ?_)
          refine o_rd (rd_field rfl) rfl ?_
          refine o_rd (rd_ld rfl (by repeat' first | exact List.Mem.head _ | apply List.Mem.tail) rfl) rfl ?_
          refine o_rd (rd_field rfl) rfl ?_
          refine o_rd (rd_ld rfl (by repeat' first | exact List.Mem.head _ | apply List.Mem.tail) rfl) rfl ?_
          refine o_rd (rd_bin rfl rfl rfl) rfl ?_
          refine o_rd (rd_field rfl) rfl ?_
          refine o_store rfl rfl (by repeat' first | exact Upd.here | apply Upd.there) rfl rfl rfl ?_
          refine o_nil ?_
          refine n_K ?_
          refine s_seq ?_
          refine s_region0 (fun ops => ?_)
          refine o_rd (rd_ldA rfl (by repeat' first | exact List.Mem.head _ | apply List.Mem.tail) rfl) rfl ?_
          refine o_store rfl rfl (by repeat' first | exact Upd.here | apply Upd.there) rfl rfl rfl ?_
          refine o_rd (rd_assign rfl) rfl ?_
          refine o_nil ?_
          refine n_K ?_
          refine s_ret ?_
          refine leaf_is (rets2 Try.results23 (rv_cell rfl (by repeat' first | exact List.Mem.head _ | apply List.Mem.tail) rfl) (rv_tmp rfl)) ?_ (by repeat (first | exact Split.nil | (apply Split.cons; next => repeat (first | exact Pick.here | apply Pick.there))))
          (rw [plV, ref_d c39 c46 rfl rfl]; simp [c95, c111]; try decide)
        · change refA m b x z = _ at c111
          refine s_skip ?_
          refine n_K ?_
          refine s_seq ?_
          refine s_region0 (fun ops => ?_)
          refine o_rd (rd_field rfl) rfl ?_
          refine o_rd (rd_ld rfl (by repeat' first | exact List.Mem.head _ | apply List.Mem.tail) rfl) rfl ?_
          refine o_rd (rd_field rfl) rfl ?_
          refine o_rd (rd_ld rfl (by repeat' first | exact List.Mem.head _ | apply List.Mem.tail) rfl) rfl ?_
          refine o_rd (rd_bin rfl rfl rfl) rfl ?_
          refine o_rd (rd_field rfl) rfl ?_
          refine o_store rfl rfl (by repeat' first | exact Upd.here | apply Upd.there) rfl rfl rfl ?_
          refine o_nil ?_
          refine n_K ?_
          refine s_seq ?_
          refine s_region0 (fun ops => ?_)
          refine o_rd (rd_ldA rfl (by repeat' first | exact List.Mem.head _ | apply List.Mem.tail) rfl) rfl ?_
          refine o_store rfl rfl (by repeat' first | exact Upd.here | apply Upd.there) rfl rfl rfl ?_
          refine o_rd (rd_assign rfl) rfl ?_
          refine o_nil ?_
          refine n_K ?_
          refine s_ret ?_
          refine leaf_is (rets2 Try.results23 (rv_cell rfl (by repeat' first | exact List.Mem.head _ | apply List.Mem.tail) rfl) (rv_tmp rfl)) ?_ (by repeat (first | exact Split.nil | (apply Split.cons; next => repeat (first | exact Pick.here | apply Pick.there))))
          (rw [plV, ref_d c39 c46 rfl rfl]; simp [c95, c111]; try decide)
      · change refC m b x z = _ at c95
        refine s_skip ?_
        refine n_K ?_
        refine s_seq ?_
        refine s_region0 (fun ops => ?_)
        refine o_rd (rd_field rfl) rfl ?_
        refine o_rd (rd_ld rfl (by repeat' first | exact List.Mem.head _ | apply List.Mem.tail) rfl) rfl ?_
        refine o_rd (rd_add64 rfl rfl (by omega)) rfl ?_
        refine o_rd (rd_field rfl) rfl ?_
        refine o_store rfl rfl (by repeat' first | exact Upd.here | apply Upd.there) rfl rfl rfl ?_
        refine o_nil ?_
        refine n_K ?_
        refine s_seq ?_
        refine s_seq ?_
        refine s_region [(1, 102), (4, 105)] rfl (fun ops y => ?_)
        refine o_rd (rd_move rfl) rfl ?_
        refine o_rd (rd_move rfl) rfl ?_
        refine' o_and (j := 1) (k := 1) y rfl rfl rfl rfl rfl rfl rfl (fun hg102 => ?_) ?_
        rotate_left
        · try simp at hg102
          refine o_g y rfl rfl ?_
          refine o_rd (rd_move rfl) rfl ?_
          exact o_nil ⟨rfl, rfl, ⟨_, (by repeat (first | exact Split.nil | (apply Split.cons; next => repeat (first | exact Pick.here | apply Pick.there))))⟩⟩
        refine o_rd (rd_move rfl) rfl ?_
        refine' o_and (j := 4) (k := 5) y rfl rfl rfl rfl rfl rfl rfl (fun hg105 => ?_) ?_
        rotate_left
        · try simp at hg105
          refine o_g y rfl rfl ?_
          refine o_rd (rd_field rfl) rfl ?_
          refine o_g y rfl rfl ?_
          refine o_rd (rd_ldA rfl (by repeat' first | exact List.Mem.head _ | apply List.Mem.tail) (cut_com x)) rfl ?_
          refine o_g y rfl rfl ?_
          refine o_rd (rd_field rfl) rfl ?_
          refine o_g y rfl rfl ?_
          refine o_rd (rd_ldA rfl (by repeat' first | exact List.Mem.head _ | apply List.Mem.tail) (cut_com z)) rfl ?_
          refine o_g y rfl rfl ?_
          refine o_rd (rd_eqA rfl rfl (com_eq _ _)) rfl ?_
          exact o_nil ⟨rfl, rfl, ⟨_, (by repeat (first | exact Split.nil | (apply Split.cons; next => repeat (first | exact Pick.here | apply Pick.there))))⟩⟩
        refine o_nil ?_
        refine n_K ?_
        refine s_cond rfl (fun c111 => ?_) (fun c111 => ?_)
        · change refA m b x z = _ at c111
          refine s_region0 (fun ops => ?_)
          refine o_rd (rd_field rfl) rfl ?_
          refine o_store rfl rfl (by repeat' first | exact Upd.here | apply Upd.there) rfl rfl rfl ?_
          refine o_nil ?_
          refine n_K ?_
          refine s_seq ?_
          refine s_region0 (fun ops => ?_)
          refine o_rd (rd_field rfl) rfl ?_
          refine o_rd (rd_ld rfl (by repeat' first | exact List.Mem.head _ | apply List.Mem.tail) rfl) rfl ?_
          refine o_rd (rd_field rfl) rfl ?_
          refine o_rd (rd_ld rfl (by repeat' first | exact List.Mem.head _ | apply List.Mem.tail) rfl) rfl ?_
          refine o_rd (rd_bin rfl rfl rfl) rfl ?_
          refine o_rd (rd_field rfl) rfl ?_
          refine o_store rfl rfl (by repeat' first | exact Upd.here | apply Upd.there) rfl rfl rfl ?_
          refine o_nil ?_
          refine n_K ?_
          refine s_seq ?_
          refine s_region0 (fun ops => ?_)
          refine o_rd (rd_ldA rfl (by repeat' first | exact List.Mem.head _ | apply List.Mem.tail) rfl) rfl ?_
          refine o_store rfl rfl (by repeat' first | exact Upd.here | apply Upd.there) rfl rfl rfl ?_
          refine o_rd (rd_assign rfl) rfl ?_
          refine o_nil ?_
          refine n_K ?_
          refine s_ret ?_
          refine leaf_is (rets2 Try.results23 (rv_cell rfl (by repeat' first | exact List.Mem.head _ | apply List.Mem.tail) rfl) (rv_tmp rfl)) ?_ (by repeat (first | exact Split.nil | (apply Split.cons; next => repeat (first | exact Pick.here | apply Pick.there))))
          (rw [plV, ref_d c39 c46 rfl rfl]; simp [c95, c111]; try decide)
        · change refA m b x z = _ at c111
          refine s_skip ?_
          refine n_K ?_
          refine s_seq ?_
          refine s_region0 (fun ops => ?_)
          refine o_rd (rd_field rfl) rfl ?_
          refine o_rd (rd_ld rfl (by repeat' first | exact List.Mem.head _ | apply List.Mem.tail) rfl) rfl ?_
          refine o_rd (rd_field rfl) rfl ?_
          refine o_rd (rd_ld rfl (by repeat' first | exact List.Mem.head _ | apply List.Mem.tail) rfl) rfl ?_
          refine o_rd (rd_bin rfl rfl rfl) rfl ?_
          refine o_rd (rd_field rfl) rfl ?_
          refine o_store rfl rfl (by repeat' first | exact Upd.here | apply Upd.there) rfl rfl rfl ?_
          refine o_nil ?_
          refine n_K ?_
          refine s_seq ?_
          refine s_region0 (fun ops => ?_)
          refine o_rd (rd_ldA rfl (by repeat' first | exact List.Mem.head _ | apply List.Mem.tail) rfl) rfl ?_
          refine o_store rfl rfl (by repeat' first | exact Upd.here | apply Upd.there) rfl rfl rfl ?_
          refine o_rd (rd_assign rfl) rfl ?_
          refine o_nil ?_
          refine n_K ?_
          refine s_ret ?_
          refine leaf_is (rets2 Try.results23 (rv_cell rfl (by repeat' first | exact List.Mem.head _ | apply List.Mem.tail) rfl) (rv_tmp rfl)) ?_ (by repeat (first | exact Split.nil | (apply Split.cons; next => repeat (first | exact Pick.here | apply Pick.there))))
          (rw [plV, ref_d c39 c46 rfl rfl]; simp [c95, c111]; try decide)
theorem espeaks_fn : Does Try.prog 21 [] [] (Is (.bool true) []) := by
  refine fn_enter (n := 18) Try.func21 Try.ntmps21 rfl (Nat.le_of_ble_eq_true rfl) ?_
  refine s_seq ?_
  refine s_region0 (fun ops => ?_)
  refine o_rd (rd_assign rfl) rfl ?_
  refine o_nil ?_
  refine n_K ?_
  refine s_seq ?_
  refine s_region0 (fun ops => ?_)
  refine o_rd (rd_build_s rfl rfl) rfl ?_
  refine o_call_is rfl (chip_fn) (by repeat (first | exact Split.nil | (apply Split.cons; next => repeat (first | exact Pick.here | apply Pick.there)))) rfl rfl ?_
  refine o_call_is rfl (chip_fn) (by repeat (first | exact Split.nil | (apply Split.cons; next => repeat (first | exact Pick.here | apply Pick.there)))) rfl rfl ?_
  refine o_bslice_k (cs := cc2 (chipOf 7) (chipOf 6)) rfl (fill2 _ _) rfl rfl (fun b7 => ?_)
  refine o_call_is rfl (choose2_fn) (by repeat (first | exact Split.nil | (apply Split.cons; next => repeat (first | exact Pick.here | apply Pick.there)))) rfl rfl ?_
  refine o_rd (rd_move rfl) rfl ?_
  refine o_rd (rd_extract rfl rfl) rfl ?_
  refine o_rd (rd_extract rfl rfl) rfl ?_
  refine o_alloc rfl (fun b1 => ?_)
  refine o_store rfl rfl (by repeat' first | exact Upd.here | apply Upd.there) rfl rfl rfl ?_
  refine o_rd (rd_assign rfl) rfl ?_
  refine o_nil ?_
  refine n_K ?_
  refine s_seq ?_
  refine s_region [(2, 13)] rfl (fun ops y => ?_)
  refine o_rd (rd_move rfl) rfl ?_
  refine o_rd (rd_bin rfl rfl rfl) rfl ?_
  refine o_rd (rd_move rfl) rfl ?_
  refine' o_and (j := 2) (k := 3) y rfl rfl rfl rfl rfl rfl rfl (fun hg13 => ?_) ?_
  rotate_left
  · try simp at hg13
    refine o_g y rfl rfl ?_
    refine o_rd (rd_ldA rfl (by repeat' first | exact List.Mem.head _ | apply List.Mem.tail) rfl) rfl ?_
    refine o_g y rfl rfl ?_
    refine o_rd (rd_build_s rfl rfl) rfl ?_
    refine o_g y rfl rfl ?_
    refine o_rd (rd_eqA rfl rfl rfl) rfl ?_
    exact o_nil ⟨rfl, rfl, ⟨_, (by repeat (first | exact Split.nil | (apply Split.cons; next => repeat (first | exact Pick.here | apply Pick.there))))⟩⟩
  refine o_rd (rd_assign rfl) rfl ?_
  refine o_nil ?_
  refine n_K ?_
  refine s_ret ?_
  refine leaf_is (rets1 Try.results21 (rv_tmp rfl)) ?_ (by repeat (first | exact Split.nil | (apply Split.cons; next => repeat (first | exact Pick.here | apply Pick.there))))
  kernel_rfl
theorem chooses_fn {n m b : Int} {x z : Ch} : Does Try.prog 6 [vv n m b, .agg (cc x).toArray, .agg (cc z).toArray] [] (Is (.bool true) []) := by
  refine fn_enter (n := 85) Try.func6 Try.ntmps6 rfl (Nat.le_of_ble_eq_true rfl) ?_
  refine s_seq ?_
  refine s_region0 (fun ops => ?_)
  refine o_box rfl rfl (fun b3 => ?_)
  refine o_boxA rfl rfl (fun b4 => ?_)
  refine o_boxA rfl rfl (fun b5 => ?_)
  refine o_rd (rd_assign rfl) rfl ?_
  refine o_nil ?_
  refine n_K ?_
  refine s_seq ?_
  refine s_seq ?_
  refine s_region0 (fun ops => ?_)
  refine o_call_is rfl (espeaks_fn) (by repeat (first | exact Split.nil | (apply Split.cons; next => repeat (first | exact Pick.here | apply Pick.there)))) rfl rfl ?_
  refine o_rd (rd_not rfl) rfl ?_
  refine o_nil ?_
  refine n_K ?_
  refine s_condF rfl ?_
  refine s_skip ?_
  refine n_K ?_
  refine s_seq ?_
  refine s_region0 (fun ops => ?_)
  refine o_rd (rd_ldA rfl (by repeat' first | exact List.Mem.head _ | apply List.Mem.tail) rfl) rfl ?_
  refine o_rd (rd_ldA rfl (by repeat' first | exact List.Mem.head _ | apply List.Mem.tail) (by first | exact cut_cc _ | rfl)) rfl ?_
  refine o_rd (rd_ldA rfl (by repeat' first | exact List.Mem.head _ | apply List.Mem.tail) (by first | exact cut_cc _ | rfl)) rfl ?_
  refine o_bslice_k (cs := cc2 x z) rfl (fill2 _ _) rfl rfl (fun b23 => ?_)
  refine o_call_is rfl (choose2_fn) (by repeat (first | exact Split.nil | (apply Split.cons; next => repeat (first | exact Pick.here | apply Pick.there)))) rfl rfl ?_
  refine o_rd (rd_move rfl) rfl ?_
  refine o_rd (rd_extract rfl rfl) rfl ?_
  refine o_rd (rd_extract rfl rfl) rfl ?_
  refine o_alloc rfl (fun b7 => ?_)
  refine o_store rfl rfl (by repeat' first | exact Upd.here | apply Upd.there) rfl rfl rfl ?_
  refine o_rd (rd_assign rfl) rfl ?_
  refine o_nil ?_
  refine n_K ?_
  refine s_seq ?_
  refine s_region0 (fun ops => ?_)
  refine o_rd (rd_ldA rfl (by repeat' first | exact List.Mem.head _ | apply List.Mem.tail) rfl) rfl ?_
  refine o_rd (rd_ldA rfl (by repeat' first | exact List.Mem.head _ | apply List.Mem.tail) (by first | exact cut_cc _ | rfl)) rfl ?_
  refine o_rd (rd_ldA rfl (by repeat' first | exact List.Mem.head _ | apply List.Mem.tail) (by first | exact cut_cc _ | rfl)) rfl ?_
  refine o_call_is rfl (rchoose_fn) (by repeat (first | exact Split.nil | (apply Split.cons; next => repeat (first | exact Pick.here | apply Pick.there)))) rfl rfl ?_
  refine o_rd (rd_move rfl) rfl ?_
  refine o_rd (rd_extract rfl rfl) rfl ?_
  refine o_rd (rd_extract rfl rfl) rfl ?_
  refine o_alloc rfl (fun b9 => ?_)
  refine o_store rfl rfl (by repeat' first | exact Upd.here | apply Upd.there) rfl rfl rfl ?_
  refine o_rd (rd_assign rfl) rfl ?_
  refine o_nil ?_
  refine n_K ?_
  refine s_seq ?_
  refine s_region0 (fun ops => ?_)
  refine o_rd (rd_ldA rfl (by repeat' first | exact List.Mem.head _ | apply List.Mem.tail) rfl) rfl ?_
  refine o_rd (rd_ldA rfl (by repeat' first | exact List.Mem.head _ | apply List.Mem.tail) (by first | exact cut_cc _ | rfl)) rfl ?_
  refine o_bslice_k (cs := cc x) rfl (fill1 _) rfl rfl (fun b37 => ?_)
  refine o_call_is rfl (choose1_fn (x := x)) (by repeat (first | exact Split.nil | (apply Split.cons; next => repeat (first | exact Pick.here | apply Pick.there)))) rfl rfl ?_
  refine o_rd (rd_move rfl) rfl ?_
  refine o_rd (rd_extract rfl rfl) rfl ?_
  refine o_rd (rd_extract rfl rfl) rfl ?_
  refine o_alloc rfl (fun b11 => ?_)
  refine o_store rfl rfl (by repeat' first | exact Upd.here | apply Upd.there) rfl rfl rfl ?_
  refine o_rd (rd_assign rfl) rfl ?_
  refine o_nil ?_
  refine n_K ?_
  refine s_seq ?_
  refine s_region0 (fun ops => ?_)
  refine o_rd (rd_ldA rfl (by repeat' first | exact List.Mem.head _ | apply List.Mem.tail) rfl) rfl ?_
  refine o_rd (rd_ldA rfl (by repeat' first | exact List.Mem.head _ | apply List.Mem.tail) (by first | exact cut_cc _ | rfl)) rfl ?_
  refine o_rd (rd_build_s rfl rfl) rfl ?_
  refine o_call_is rfl (rchoose_fn (x := x) (z := zCh)) (by repeat (first | exact Split.nil | (apply Split.cons; next => repeat (first | exact Pick.here | apply Pick.there)))) rfl rfl ?_
  refine o_rd (rd_move rfl) rfl ?_
  refine o_rd (rd_extract rfl rfl) rfl ?_
  refine o_rd (rd_extract rfl rfl) rfl ?_
  refine o_alloc rfl (fun b13 => ?_)
  refine o_store rfl rfl (by repeat' first | exact Upd.here | apply Upd.there) rfl rfl rfl ?_
  refine o_rd (rd_assign rfl) rfl ?_
  refine o_nil ?_
  refine n_K ?_
  refine s_seq ?_
  refine s_region0 (fun ops => ?_)
  refine o_rd (rd_ldA rfl (by repeat' first | exact List.Mem.head _ | apply List.Mem.tail) rfl) rfl ?_
  refine o_rd (rd_ldA rfl (by repeat' first | exact List.Mem.head _ | apply List.Mem.tail) (by first | exact cut_cc _ | rfl)) rfl ?_
  refine o_rd (rd_ldA rfl (by repeat' first | exact List.Mem.head _ | apply List.Mem.tail) (by first | exact cut_cc _ | rfl)) rfl ?_
  refine o_rd (rd_ldA rfl (by repeat' first | exact List.Mem.head _ | apply List.Mem.tail) (by first | exact cut_cc _ | rfl)) rfl ?_
  refine o_bslice_k (cs := cc2 x z ++ cc x) rfl (fill3 _ _ _) rfl rfl (fun b53 => ?_)
  refine o_call_is rfl (choose3_fn) (by repeat (first | exact Split.nil | (apply Split.cons; next => repeat (first | exact Pick.here | apply Pick.there)))) rfl rfl ?_
  refine o_rd (rd_move rfl) rfl ?_
  refine o_rd (rd_extract rfl rfl) rfl ?_
  refine o_rd (rd_extract rfl rfl) rfl ?_
  refine o_alloc rfl (fun b15 => ?_)
  refine o_store rfl rfl (by repeat' first | exact Upd.here | apply Upd.there) rfl rfl rfl ?_
  refine o_rd (rd_assign rfl) rfl ?_
  refine o_nil ?_
  refine n_K ?_
  refine s_seq ?_
  refine s_region [(3, 60), (8, 65), (13, 70), (18, 75), (23, 80)] rfl (fun ops y => ?_)
  refine o_rd (rd_ldA rfl (by repeat' first | exact List.Mem.head _ | apply List.Mem.tail) rfl) rfl ?_
  refine o_rd (rd_ldA rfl (by repeat' first | exact List.Mem.head _ | apply List.Mem.tail) rfl) rfl ?_
  refine o_rd (rd_eqA rfl rfl rfl) rfl ?_
  refine o_rd (rd_move rfl) rfl ?_
  refine' o_and (j := 3) (k := 3) y rfl rfl rfl rfl rfl rfl rfl (fun hg60 => ?_) ?_
  rotate_left
  · try simp at hg60
    refine o_g y rfl rfl ?_
    refine o_rd (rd_move rfl) rfl ?_
    refine o_g y rfl rfl ?_
    refine o_rd (rd_move rfl) rfl ?_
    refine o_g y rfl rfl ?_
    refine o_rd (rd_bin rfl rfl rfl) rfl ?_
    exact o_nil ⟨rfl, rfl, ⟨_, (by repeat (first | exact Split.nil | (apply Split.cons; next => repeat (first | exact Pick.here | apply Pick.there))))⟩⟩
  refine o_rd (rd_move rfl) rfl ?_
  refine' o_and (j := 8) (k := 3) y rfl rfl rfl rfl rfl rfl rfl (fun hg65 => ?_) ?_
  rotate_left
  · try simp at hg65
    refine o_g y rfl rfl ?_
    refine o_rd (rd_ldA rfl (by repeat' first | exact List.Mem.head _ | apply List.Mem.tail) rfl) rfl ?_
    refine o_g y rfl rfl ?_
    refine o_rd (rd_ldA rfl (by repeat' first | exact List.Mem.head _ | apply List.Mem.tail) rfl) rfl ?_
    refine o_g y rfl rfl ?_
    refine o_rd (rd_eqA rfl rfl rfl) rfl ?_
    exact o_nil ⟨rfl, rfl, ⟨_, (by repeat (first | exact Split.nil | (apply Split.cons; next => repeat (first | exact Pick.here | apply Pick.there))))⟩⟩
  refine o_rd (rd_move rfl) rfl ?_
  refine' o_and (j := 13) (k := 3) y rfl rfl rfl rfl rfl rfl rfl (fun hg70 => ?_) ?_
  rotate_left
  · try simp at hg70
    refine o_g y rfl rfl ?_
    refine o_rd (rd_move rfl) rfl ?_
    refine o_g y rfl rfl ?_
    refine o_rd (rd_move rfl) rfl ?_
    refine o_g y rfl rfl ?_
    refine o_rd (rd_bin rfl rfl rfl) rfl ?_
    exact o_nil ⟨rfl, rfl, ⟨_, (by repeat (first | exact Split.nil | (apply Split.cons; next => repeat (first | exact Pick.here | apply Pick.there))))⟩⟩
  refine o_rd (rd_move rfl) rfl ?_
  refine' o_and (j := 18) (k := 3) y rfl rfl rfl rfl rfl rfl rfl (fun hg75 => ?_) ?_
  rotate_left
  · try simp at hg75
    refine o_g y rfl rfl ?_
    refine o_rd (rd_ldA rfl (by repeat' first | exact List.Mem.head _ | apply List.Mem.tail) rfl) rfl ?_
    refine o_g y rfl rfl ?_
    refine o_rd (rd_ldA rfl (by repeat' first | exact List.Mem.head _ | apply List.Mem.tail) rfl) rfl ?_
    refine o_g y rfl rfl ?_
    refine o_rd (rd_eqA rfl rfl rfl) rfl ?_
    exact o_nil ⟨rfl, rfl, ⟨_, (by repeat (first | exact Split.nil | (apply Split.cons; next => repeat (first | exact Pick.here | apply Pick.there))))⟩⟩
  refine o_rd (rd_move rfl) rfl ?_
  refine' o_and (j := 23) (k := 3) y rfl rfl rfl rfl rfl rfl rfl (fun hg80 => ?_) ?_
  rotate_left
  · try simp at hg80
    refine o_g y rfl rfl ?_
    refine o_rd (rd_move rfl) rfl ?_
    refine o_g y rfl rfl ?_
    refine o_rd (rd_move rfl) rfl ?_
    refine o_g y rfl rfl ?_
    refine o_rd (rd_bin rfl rfl rfl) rfl ?_
    exact o_nil ⟨rfl, rfl, ⟨_, (by repeat (first | exact Split.nil | (apply Split.cons; next => repeat (first | exact Pick.here | apply Pick.there))))⟩⟩
  refine o_rd (rd_assign rfl) rfl ?_
  refine o_nil ?_
  refine n_K ?_
  refine s_ret ?_
  refine leaf_is (rets1 Try.results6 (rv_tmp rfl)) ?_ (by repeat (first | exact Split.nil | (apply Split.cons; next => repeat (first | exact Pick.here | apply Pick.there))))
  simp
theorem gone_fn {n m b : Int} {x z : Ch} : Does Try.prog 9 [vv n m b, .agg (cc x).toArray, .agg (cc z).toArray] [] (Is (.bool true) []) := by
  refine fn_enter (n := 52) Try.func9 Try.ntmps9 rfl (Nat.le_of_ble_eq_true rfl) ?_
  refine s_seq ?_
  refine s_region0 (fun ops => ?_)
  refine o_box rfl rfl (fun b3 => ?_)
  refine o_boxA rfl rfl (fun b4 => ?_)
  refine o_boxA rfl rfl (fun b5 => ?_)
  refine o_rd (rd_assign rfl) rfl ?_
  refine o_nil ?_
  refine n_K ?_
  refine s_seq ?_
  refine s_seq ?_
  refine s_region0 (fun ops => ?_)
  refine o_call_is rfl (espeaks_fn) (by repeat (first | exact Split.nil | (apply Split.cons; next => repeat (first | exact Pick.here | apply Pick.there)))) rfl rfl ?_
  refine o_rd (rd_not rfl) rfl ?_
  refine o_nil ?_
  refine n_K ?_
  refine s_condF rfl ?_
  refine s_skip ?_
  refine n_K ?_
  refine s_seq ?_
  refine s_region0 (fun ops => ?_)
  refine o_rd (rd_field rfl) rfl ?_
  refine o_store (cs' := cc { x with h := false }) rfl rfl (by repeat' first | exact Upd.here | apply Upd.there) rfl rfl rfl ?_
  refine o_nil ?_
  refine n_K ?_
  refine s_seq ?_
  refine s_region0 (fun ops => ?_)
  refine o_rd (rd_ldA rfl (by repeat' first | exact List.Mem.head _ | apply List.Mem.tail) rfl) rfl ?_
  refine o_rd (rd_ldA rfl (by repeat' first | exact List.Mem.head _ | apply List.Mem.tail) (by first | exact cut_cc _ | rfl)) rfl ?_
  refine o_rd (rd_ldA rfl (by repeat' first | exact List.Mem.head _ | apply List.Mem.tail) (by first | exact cut_cc _ | rfl)) rfl ?_
  refine o_bslice_k (cs := cc2 { x with h := false } z) rfl (fill2 _ _) rfl rfl (fun b18 => ?_)
  refine o_call_is rfl (choose2_fn) (by repeat (first | exact Split.nil | (apply Split.cons; next => repeat (first | exact Pick.here | apply Pick.there)))) rfl rfl ?_
  refine o_rd (rd_move rfl) rfl ?_
  refine o_rd (rd_extract rfl rfl) rfl ?_
  refine o_rd (rd_extract rfl rfl) rfl ?_
  refine o_alloc rfl (fun b7 => ?_)
  refine o_store rfl rfl (by repeat' first | exact Upd.here | apply Upd.there) rfl rfl rfl ?_
  refine o_rd (rd_assign rfl) rfl ?_
  refine o_nil ?_
  refine n_K ?_
  refine s_seq ?_
  refine s_region0 (fun ops => ?_)
  refine o_rd (rd_ldA rfl (by repeat' first | exact List.Mem.head _ | apply List.Mem.tail) rfl) rfl ?_
  refine o_rd (rd_build_s rfl rfl) rfl ?_
  refine o_rd (rd_ldA rfl (by repeat' first | exact List.Mem.head _ | apply List.Mem.tail) (by first | exact cut_cc _ | rfl)) rfl ?_
  refine o_bslice_k (cs := cc2 zCh z) rfl (by kernel_rfl) rfl rfl (fun b26 => ?_)
  refine o_call_is rfl (choose2_fn) (by repeat (first | exact Split.nil | (apply Split.cons; next => repeat (first | exact Pick.here | apply Pick.there)))) rfl rfl ?_
  refine o_rd (rd_move rfl) rfl ?_
  refine o_rd (rd_extract rfl rfl) rfl ?_
  refine o_rd (rd_extract rfl rfl) rfl ?_
  refine o_alloc rfl (fun b9 => ?_)
  refine o_store rfl rfl (by repeat' first | exact Upd.here | apply Upd.there) rfl rfl rfl ?_
  refine o_rd (rd_assign rfl) rfl ?_
  refine o_nil ?_
  refine n_K ?_
  refine s_seq ?_
  refine s_region [(3, 33), (8, 38), (11, 41), (15, 45)] rfl (fun ops y => ?_)
  refine o_rd (rd_ldA rfl (by repeat' first | exact List.Mem.head _ | apply List.Mem.tail) rfl) rfl ?_
  refine o_rd (rd_ldA rfl (by repeat' first | exact List.Mem.head _ | apply List.Mem.tail) rfl) rfl ?_
  refine o_rd (rd_eqA rfl rfl rfl) rfl ?_
  refine o_rd (rd_move rfl) rfl ?_
  refine' o_and (j := 3) (k := 3) y rfl rfl rfl rfl rfl rfl rfl (fun hg33 => ?_) ?_
  rotate_left
  · try simp at hg33
    refine o_g y rfl rfl ?_
    refine o_rd (rd_move rfl) rfl ?_
    refine o_g y rfl rfl ?_
    refine o_rd (rd_move rfl) rfl ?_
    refine o_g y rfl rfl ?_
    refine o_rd (rd_bin rfl rfl rfl) rfl ?_
    exact o_nil ⟨rfl, rfl, ⟨_, (by repeat (first | exact Split.nil | (apply Split.cons; next => repeat (first | exact Pick.here | apply Pick.there))))⟩⟩
  refine o_rd (rd_move rfl) rfl ?_
  refine' o_and (j := 8) (k := 12) y rfl rfl rfl rfl rfl rfl rfl (fun hg38 => ?_) ?_
  rotate_left
  · try simp at hg38
    refine o_g y rfl rfl ?_
    refine o_rd (rd_move rfl) rfl ?_
    refine o_g y rfl rfl ?_
    refine o_rd (rd_bin rfl rfl rfl) rfl ?_
    refine o_g y rfl rfl ?_
    refine o_rd (rd_move rfl) rfl ?_
    refine' o_or (j := 11) (k := 8) y rfl rfl rfl rfl rfl rfl rfl (fun hg41 => ?_) ?_
    rotate_left
    · try simp at hg41
      refine o_g y rfl rfl ?_
      refine o_rd (rd_field rfl) rfl ?_
      refine o_g y rfl rfl ?_
      refine o_rd (rd_ld rfl (by repeat' first | exact List.Mem.head _ | apply List.Mem.tail) rfl) rfl ?_
      refine o_g y rfl rfl ?_
      refine o_rd (rd_bin rfl rfl rfl) rfl ?_
      refine o_g y rfl rfl ?_
      refine o_rd (rd_move rfl) rfl ?_
      refine' o_and (j := 15) (k := 3) y rfl rfl rfl rfl rfl rfl rfl (fun hg45 => ?_) ?_
      rotate_left
      · try simp at hg45
        refine o_g y rfl rfl ?_
        refine o_rd (rd_field rfl) rfl ?_
        refine o_g y rfl rfl ?_
        refine o_rd (rd_ld rfl (by repeat' first | exact List.Mem.head _ | apply List.Mem.tail) rfl) rfl ?_
        refine o_g y rfl rfl ?_
        refine o_rd (rd_bin rfl rfl rfl) rfl ?_
        exact o_nil ⟨rfl, rfl, ⟨_, (by repeat (first | exact Split.nil | (apply Split.cons; next => repeat (first | exact Pick.here | apply Pick.there))))⟩⟩
      exact o_nil ⟨rfl, rfl, ⟨_, (by repeat (first | exact Split.nil | (apply Split.cons; next => repeat (first | exact Pick.here | apply Pick.there))))⟩⟩
    exact o_nil ⟨rfl, rfl, ⟨_, (by repeat (first | exact Split.nil | (apply Split.cons; next => repeat (first | exact Pick.here | apply Pick.there))))⟩⟩
  refine o_rd (rd_assign rfl) rfl ?_
  refine o_nil ?_
  refine n_K ?_
  refine s_ret ?_
  refine leaf_is (rets1 Try.results9 (rv_tmp rfl)) ?_ (by repeat (first | exact Split.nil | (apply Split.cons; next => repeat (first | exact Pick.here | apply Pick.there))))
  simp only [← gone_eq n m b { x with h := false } z rfl]; (rcases Decidable.em ((planT n m b { x with h := false } z).2.2.2 = 0) with h0 | h0); (have g := gone_ok (x := { x with h := false }) rfl h0; simp [h0, g.1, g.2]); simp [h0]
end Go.Proofs.Ytocfdkjoklgecaa
