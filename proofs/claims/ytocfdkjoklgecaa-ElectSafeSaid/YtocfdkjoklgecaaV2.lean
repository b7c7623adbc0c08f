/- The laws of views, walked. -/
import Derived.Test.YtocfdkjoklgecaaV1
namespace Go.Proofs.Ytocfdkjoklgecaa
open Go.K
set_option linter.unusedVariables false
set_option linter.unusedSimpArgs false

theorem speaks_fn : Does Try.prog 10 [] [] (Is (.bool true) []) := by
  refine fn_enter (n := 31) Try.func10 Try.ntmps10 rfl (Nat.le_of_ble_eq_true rfl) ?_
  refine s_seq ?_
  refine s_region0 (fun ops => ?_)
  refine o_rd (rd_assign rfl) rfl ?_
  refine o_nil ?_
  refine n_K ?_
  refine s_seq ?_
  refine s_region0 (fun ops => ?_)
  refine o_rd (rd_build_s rfl rfl) rfl ?_
  refine o_call_is rfl (shrink_fn) (by repeat (first | exact Split.nil | (apply Split.cons; next => repeat (first | exact Pick.here | apply Pick.there)))) rfl rfl ?_
  refine o_rd (rd_move rfl) rfl ?_
  refine o_rd (rd_extract rfl rfl) rfl ?_
  refine o_rd (rd_extract rfl rfl) rfl ?_
  refine o_alloc rfl (fun b1 => ?_)
  refine o_store rfl rfl (by repeat' first | exact Upd.here | apply Upd.there) rfl rfl rfl ?_
  refine o_rd (rd_assign rfl) rfl ?_
  refine o_nil ?_
  refine n_K ?_
  refine s_seq ?_
  refine s_region0 (fun ops => ?_)
  refine o_rd (rd_ldA rfl (by repeat' first | exact List.Mem.head _ | apply List.Mem.tail) rfl) rfl ?_
  refine o_call_is rfl (grow_fn) (by repeat (first | exact Split.nil | (apply Split.cons; next => repeat (first | exact Pick.here | apply Pick.there)))) rfl rfl ?_
  refine o_rd (rd_move rfl) rfl ?_
  refine o_rd (rd_extract rfl rfl) rfl ?_
  refine o_rd (rd_extract rfl rfl) rfl ?_
  refine o_alloc rfl (fun b3 => ?_)
  refine o_store rfl rfl (by repeat' first | exact Upd.here | apply Upd.there) rfl rfl rfl ?_
  refine o_rd (rd_assign rfl) rfl ?_
  refine o_nil ?_
  refine n_K ?_
  refine s_seq ?_
  refine s_region [(2, 17), (6, 21), (11, 26)] rfl (fun ops y => ?_)
  refine o_rd (rd_move rfl) rfl ?_
  refine o_rd (rd_bin rfl rfl rfl) rfl ?_
  refine o_rd (rd_move rfl) rfl ?_
  refine' o_and (j := 2) (k := 2) y rfl rfl rfl rfl rfl rfl rfl (fun hg17 => ?_) ?_
  rotate_left
  · try simp at hg17
    refine o_g y rfl rfl ?_
    refine o_rd (rd_move rfl) rfl ?_
    refine o_g y rfl rfl ?_
    refine o_rd (rd_bin rfl rfl rfl) rfl ?_
    exact o_nil ⟨rfl, rfl, ⟨_, (by repeat (first | exact Split.nil | (apply Split.cons; next => repeat (first | exact Pick.here | apply Pick.there))))⟩⟩
  refine o_rd (rd_move rfl) rfl ?_
  refine' o_and (j := 6) (k := 3) y rfl rfl rfl rfl rfl rfl rfl (fun hg21 => ?_) ?_
  rotate_left
  · try simp at hg21
    refine o_g y rfl rfl ?_
    refine o_rd (rd_ldA rfl (by repeat' first | exact List.Mem.head _ | apply List.Mem.tail) rfl) rfl ?_
    refine o_g y rfl rfl ?_
    refine o_rd (rd_build_s rfl rfl) rfl ?_
    refine o_g y rfl rfl ?_
    refine o_rd (rd_eqA rfl rfl rfl) rfl ?_
    exact o_nil ⟨rfl, rfl, ⟨_, (by repeat (first | exact Split.nil | (apply Split.cons; next => repeat (first | exact Pick.here | apply Pick.there))))⟩⟩
  refine o_rd (rd_move rfl) rfl ?_
  refine' o_and (j := 11) (k := 3) y rfl rfl rfl rfl rfl rfl rfl (fun hg26 => ?_) ?_
  rotate_left
  · try simp at hg26
    refine o_g y rfl rfl ?_
    refine o_rd (rd_ldA rfl (by repeat' first | exact List.Mem.head _ | apply List.Mem.tail) rfl) rfl ?_
    refine o_g y rfl rfl ?_
    refine o_rd (rd_build_s rfl rfl) rfl ?_
    refine o_g y rfl rfl ?_
    refine o_rd (rd_eqA rfl rfl rfl) rfl ?_
    exact o_nil ⟨rfl, rfl, ⟨_, (by repeat (first | exact Split.nil | (apply Split.cons; next => repeat (first | exact Pick.here | apply Pick.there))))⟩⟩
  refine o_rd (rd_assign rfl) rfl ?_
  refine o_nil ?_
  refine n_K ?_
  refine s_ret ?_
  refine leaf_is (rets1 Try.results10 (rv_tmp rfl)) ?_ (by repeat (first | exact Split.nil | (apply Split.cons; next => repeat (first | exact Pick.here | apply Pick.there))))
  kernel_rfl

theorem steps_fn {n m b base : Int} {bl o c : Nat} {cs : List Value} {T : TypeId} {fr : Nat × Nat} {xs : List Int} (hx : Ints cs o xs) (hl : xs.length ≤ 9223372036854775807) :
    Does Try.prog 3 [vv n m b, .slice (some ⟨bl, o, none⟩) xs.length c, .int .u64 base] [(bl, false, CF cs T fr)] (Is (.bool true) [(bl, false, CF cs T fr)]) := by
  refine fn_enter (n := 95) Try.func3 Try.ntmps3 rfl (Nat.le_of_ble_eq_true rfl) ?_
  refine s_seq ?_
  refine s_region0 (fun ops => ?_)
  refine o_box rfl rfl (fun b3 => ?_)
  refine o_rd (rd_assign rfl) rfl ?_
  refine o_nil ?_
  refine n_K ?_
  refine s_seq ?_
  refine s_seq ?_
  refine s_region0 (fun ops => ?_)
  refine o_call_is rfl (speaks_fn) (by repeat (first | exact Split.nil | (apply Split.cons; next => repeat (first | exact Pick.here | apply Pick.there)))) rfl rfl ?_
  refine o_rd (rd_not rfl) rfl ?_
  refine o_nil ?_
  refine n_K ?_
  refine s_condF rfl ?_
  refine s_skip ?_
  refine n_K ?_
  refine s_seq ?_
  refine s_seq ?_
  refine s_region0 (fun ops => ?_)
  refine o_rd (rd_move rfl) rfl ?_
  refine o_rd (rd_lenS rfl) rfl ?_
  refine o_rd (rd_bin rfl rfl rfl) rfl ?_
  refine o_nil ?_
  refine n_K ?_
  refine s_cond rfl (fun c22 => ?_) (fun c22 => ?_)
  · try simp at c22
    refine s_seq ?_
    refine s_region0 (fun ops => ?_)
    refine o_rd (rd_assign rfl) rfl ?_
    refine o_nil ?_
    refine n_K ?_
    refine s_ret ?_
    refine r_K ?_
    refine leaf_is (rets1 Try.results3 (rv_tmp rfl)) ?_ (by repeat (first | exact Split.nil | (apply Split.cons; next => repeat (first | exact Pick.here | apply Pick.there))))
    first | rfl | simp [h2, List.take_of_length_le (show xs.length ≤ i.toNat by omega)]
  · try simp at c22
    refine s_skip ?_
    refine n_K ?_
    refine s_seq ?_
    refine s_region0 (fun ops => ?_)
    refine o_rd (rd_assign rfl) rfl ?_
    refine o_nil ?_
    refine n_K ?_
    refine s_seq ?_
    refine s_seq ?_
    refine s_region0 (fun ops => ?_)
    refine o_rd (rd_move rfl) rfl ?_
    refine o_rd (rd_lenS rfl) rfl ?_
    refine o_rd (rd_move rfl) rfl ?_
    refine o_nil ?_
    refine n_K ?_
    refine s_block ?_
    refine s_loop2E [1, 2, 3, 23, 24] (by repeat' first | exact Keep2.nil | apply Keep2.cons rfl) (fun (s : Int × Bool) => [(25, .int .i64 s.1), (7, .bool s.2)]) (fun (s : Int × Bool) => 0 ≤ s.1 ∧ s.1 ≤ xs.length ∧ s.2 = hasB m (xs.take s.1.toNat)) (fun (s : Int × Bool) => ((xs.length : Int) - s.1).toNat) (((0 : Int), true)) ⟨by simp, by simp, by simp [hasB]⟩ (by repeat' first | exact Keep.nil | refine Keep.cons rfl ?_) ?_
    rintro ⟨i, q⟩ ⟨h0, h1, h2⟩
    simp only at h0 h1 h2
    refine s_seq ?_
    refine s_region0 (fun ops => ?_)
    refine o_rd (rd_bin rfl rfl rfl) rfl ?_
    refine o_nil ?_
    refine n_K ?_
    refine s_seq ?_
    refine s_cond rfl (fun c26 => ?_) (fun c26 => ?_)
    · try simp at c26
      refine s_skip ?_
      refine n_K ?_
      refine s_seq ?_
      refine s_block ?_
      refine s_seq ?_
      refine s_region0 (fun ops => ?_)
      refine o_rd (rd_ixS rfl rfl (by omega)) rfl ?_
      refine o_rd (rd_ld rfl (by repeat' first | exact List.Mem.head _ | apply List.Mem.tail) (hx i h0 c26)) rfl ?_
      refine o_rd (rd_assign rfl) rfl ?_
      refine o_nil ?_
      refine n_K ?_
      refine s_seq ?_
      refine s_region [(1, 30)] rfl (fun ops y => ?_)
      refine o_rd (rd_move rfl) rfl ?_
      refine o_rd (rd_move rfl) rfl ?_
      refine' o_and (j := 1) (k := 3) y rfl rfl rfl rfl rfl rfl rfl (fun hg30 => ?_) ?_
      rotate_left
      · try simp at hg30
        refine o_g y rfl rfl ?_
        refine o_rd (rd_ldA rfl (by repeat' first | exact List.Mem.head _ | apply List.Mem.tail) rfl) rfl ?_
        refine o_g y rfl rfl ?_
        refine o_rd (rd_move rfl) rfl ?_
        refine o_g y rfl rfl ?_
        refine o_call_is rfl (rhas_fn) (by repeat (first | exact Split.nil | (apply Split.cons; next => repeat (first | exact Pick.here | apply Pick.there)))) rfl rfl ?_
        exact o_nil ⟨rfl, rfl, ⟨_, (by repeat (first | exact Split.nil | (apply Split.cons; next => repeat (first | exact Pick.here | apply Pick.there))))⟩⟩
      refine o_rd (rd_assign rfl) rfl ?_
      refine o_nil ?_
      refine n_K ?_
      refine s_seq ?_
      refine s_region0 (fun ops => ?_)
      refine o_rd (rd_ldA rfl (by repeat' first | exact List.Mem.head _ | apply List.Mem.tail) rfl) rfl ?_
      refine o_rd (rd_move rfl) rfl ?_
      refine o_rd (rd_move rfl) rfl ?_
      refine o_call_is rfl (shrink_fn) (by repeat (first | exact Split.nil | (apply Split.cons; next => repeat (first | exact Pick.here | apply Pick.there)))) rfl rfl ?_
      refine o_rd (rd_move rfl) rfl ?_
      refine o_rd (rd_extract rfl rfl) rfl ?_
      refine o_rd (rd_extract rfl rfl) rfl ?_
      refine o_alloc rfl (fun b10 => ?_)
      refine o_store rfl rfl (by repeat' first | exact Upd.here | apply Upd.there) rfl rfl rfl ?_
      refine o_rd (rd_assign rfl) rfl ?_
      refine o_nil ?_
      refine n_K ?_
      refine s_seq ?_
      refine s_region0 (fun ops => ?_)
      refine o_rd (rd_ldA rfl (by repeat' first | exact List.Mem.head _ | apply List.Mem.tail) rfl) rfl ?_
      refine o_rd (rd_move rfl) rfl ?_
      refine o_rd (rd_move rfl) rfl ?_
      refine o_call_is rfl (rshrink_fn) (by repeat (first | exact Split.nil | (apply Split.cons; next => repeat (first | exact Pick.here | apply Pick.there)))) rfl rfl ?_
      refine o_rd (rd_move rfl) rfl ?_
      refine o_rd (rd_extract rfl rfl) rfl ?_
      refine o_rd (rd_extract rfl rfl) rfl ?_
      refine o_alloc rfl (fun b12 => ?_)
      refine o_store rfl rfl (by repeat' first | exact Upd.here | apply Upd.there) rfl rfl rfl ?_
      refine o_rd (rd_assign rfl) rfl ?_
      refine o_nil ?_
      refine n_K ?_
      refine s_seq ?_
      refine s_draw [(3, 52), (8, 57)] [(8, [(0, false), (1, false), (2, false), (3, false), (4, false), (5, false), (6, false), (7, false)]), (18, [(8, false), (9, false), (10, false), (13, false), (14, false), (11, true), (12, true), (15, true), (16, false), (17, false)])] (by kernel_rfl) rfl (fun ops w0 H0 y => ?_)
      refine p_all ?_
      refine x_rd (rd_ldA rfl (by repeat' first | exact List.Mem.head _ | apply List.Mem.tail) rfl) rfl ?_
      refine x_rd (rd_ldA rfl (by repeat' first | exact List.Mem.head _ | apply List.Mem.tail) rfl) rfl ?_
      refine x_rd (rd_neA rfl rfl rfl) rfl ?_
      refine x_rd (rd_move rfl) rfl ?_
      refine' x_or (j := 3) (k := 3) y rfl rfl rfl rfl rfl rfl rfl (fun hg52 => ?_) ?_
      rotate_left
      · try simp at hg52
        refine x_g y rfl rfl ?_
        refine x_rd (rd_move rfl) rfl ?_
        refine x_g y rfl rfl ?_
        refine x_rd (rd_move rfl) rfl ?_
        refine x_g y rfl rfl ?_
        refine x_rd (rd_bin rfl rfl rfl) rfl ?_
        exact x_nil ⟨rfl, ⟨_, (by repeat (first | exact Split.nil | (apply Split.cons; next => repeat (first | exact Pick.here | apply Pick.there))))⟩⟩
      refine x_nil ?_
      refine p_all ?_
      refine x_rd (rd_move rfl) rfl ?_
      refine' x_or (j := 8) (k := 8) y rfl rfl rfl rfl rfl rfl rfl (fun hg57 => ?_) ?_
      rotate_left
      · try simp at hg57
        refine x_g y rfl rfl ?_
        refine x_rd (rd_ldA rfl (by repeat' first | exact List.Mem.head _ | apply List.Mem.tail) rfl) rfl ?_
        refine x_g y rfl rfl ?_
        refine x_rd (rd_move rfl) rfl ?_
        refine x_g y rfl rfl ?_
        refine x_rd (rd_ldA rfl (by repeat' first | exact List.Mem.head _ | apply List.Mem.tail) rfl) rfl ?_
        refine x_g y rfl rfl ?_
        refine x_rd (rd_move rfl) rfl ?_
        refine x_g y rfl rfl ?_
        refine x_so ?_
        refine o_bslice_k rfl rfl rfl rfl (fun b60 => ?_)
        refine o_nil ⟨rfl, ⟨_, (by repeat (first | exact Split.nil | (apply Split.cons; next => repeat (first | exact Pick.here | apply Pick.there))))⟩, ?_⟩
        refine x_g y rfl rfl ?_
        refine x_so ?_
        refine o_call_is rfl (has1_fn) (by repeat (first | exact Split.nil | (apply Split.cons; next => repeat (first | exact Pick.here | apply Pick.there)))) rfl rfl ?_
        refine o_nil ⟨rfl, ⟨_, (by repeat (first | exact Split.nil | (apply Split.cons; next => repeat (first | exact Pick.here | apply Pick.there))))⟩, ?_⟩
        refine x_g y rfl rfl ?_
        refine x_so ?_
        refine o_call_is rfl (rhas_fn) (by repeat (first | exact Split.nil | (apply Split.cons; next => repeat (first | exact Pick.here | apply Pick.there)))) rfl rfl ?_
        refine o_nil ⟨rfl, ⟨_, (by repeat (first | exact Split.nil | (apply Split.cons; next => repeat (first | exact Pick.here | apply Pick.there))))⟩, ?_⟩
        refine x_g y rfl rfl ?_
        refine x_rd (rd_neB rfl rfl) rfl ?_
        exact x_nil ⟨rfl, ⟨_, (by repeat (first | exact Split.nil | (apply Split.cons; next => repeat (first | exact Pick.here | apply Pick.there))))⟩⟩
      refine x_nil ?_
      refine p_end ?_
      refine n_K ?_
      refine s_cond rfl (fun c66 => ?_) (fun c66 => ?_)
      · try simp at c66
        simp [hasB] at c66
      · try simp at c66
        refine s_skip ?_
        refine n_blk ?_
        refine n_K ?_
        refine s_region0 (fun ops => ?_)
        refine o_rd (rd_add64 rfl rfl (by omega)) rfl ?_
        refine o_rd (rd_move rfl) rfl ?_
        refine o_nil ?_
        refine n_K ?_
        exact ⟨(i + 1, q && !outI m (at0 xs i)), ⟨by simp; omega, by simp; omega, by simp only [h2, take_succ_at xs i h0 c26]; simp [hasB]⟩, (by simp; omega), (by repeat' first | exact Keep.nil | refine Keep.cons rfl ?_), (by repeat' first | exact Keep.nil | refine Keep.cons rfl ?_), _, (by repeat (first | exact Split.nil | (apply Split.cons; next => repeat (first | exact Pick.here | apply Pick.there))))⟩
    · try simp at c26
      refine s_exit ?_
      refine x_K ?_
      refine x_K ?_
      refine x_blk ?_
      refine n_K ?_
      refine s_seq ?_
      refine s_region0 (fun ops => ?_)
      refine o_rd (rd_ldA rfl (by repeat' first | exact List.Mem.head _ | apply List.Mem.tail) rfl) rfl ?_
      refine o_rd (rd_move rfl) rfl ?_
      refine o_call_is rfl (grow_fn) (by repeat (first | exact Split.nil | (apply Split.cons; next => repeat (first | exact Pick.here | apply Pick.there)))) rfl rfl ?_
      refine o_rd (rd_move rfl) rfl ?_
      refine o_rd (rd_extract rfl rfl) rfl ?_
      refine o_rd (rd_extract rfl rfl) rfl ?_
      refine o_alloc rfl (fun b14 => ?_)
      refine o_store rfl rfl (by repeat' first | exact Upd.here | apply Upd.there) rfl rfl rfl ?_
      refine o_rd (rd_assign rfl) rfl ?_
      refine o_nil ?_
      refine n_K ?_
      refine s_seq ?_
      refine s_region0 (fun ops => ?_)
      refine o_rd (rd_ldA rfl (by repeat' first | exact List.Mem.head _ | apply List.Mem.tail) rfl) rfl ?_
      refine o_rd (rd_move rfl) rfl ?_
      refine o_call_is rfl (rgrow_fn) (by repeat (first | exact Split.nil | (apply Split.cons; next => repeat (first | exact Pick.here | apply Pick.there)))) rfl rfl ?_
      refine o_rd (rd_move rfl) rfl ?_
      refine o_rd (rd_extract rfl rfl) rfl ?_
      refine o_rd (rd_extract rfl rfl) rfl ?_
      refine o_alloc rfl (fun b16 => ?_)
      refine o_store rfl rfl (by repeat' first | exact Upd.here | apply Upd.there) rfl rfl rfl ?_
      refine o_rd (rd_assign rfl) rfl ?_
      refine o_nil ?_
      refine n_K ?_
      refine s_seq ?_
      refine s_region [(3, 83), (8, 88)] rfl (fun ops y => ?_)
      refine o_rd (rd_ldA rfl (by repeat' first | exact List.Mem.head _ | apply List.Mem.tail) rfl) rfl ?_
      refine o_rd (rd_ldA rfl (by repeat' first | exact List.Mem.head _ | apply List.Mem.tail) rfl) rfl ?_
      refine o_rd (rd_eqA rfl rfl rfl) rfl ?_
      refine o_rd (rd_move rfl) rfl ?_
      refine' o_and (j := 3) (k := 3) y rfl rfl rfl rfl rfl rfl rfl (fun hg83 => ?_) ?_
      rotate_left
      · try simp at hg83
        refine o_g y rfl rfl ?_
        refine o_rd (rd_move rfl) rfl ?_
        refine o_g y rfl rfl ?_
        refine o_rd (rd_move rfl) rfl ?_
        refine o_g y rfl rfl ?_
        refine o_rd (rd_bin rfl rfl rfl) rfl ?_
        exact o_nil ⟨rfl, rfl, ⟨_, (by repeat (first | exact Split.nil | (apply Split.cons; next => repeat (first | exact Pick.here | apply Pick.there))))⟩⟩
      refine o_rd (rd_move rfl) rfl ?_
      refine' o_and (j := 8) (k := 5) y rfl rfl rfl rfl rfl rfl rfl (fun hg88 => ?_) ?_
      rotate_left
      · try simp at hg88
        refine o_g y rfl rfl ?_
        refine o_rd (rd_ldA rfl (by repeat' first | exact List.Mem.head _ | apply List.Mem.tail) rfl) rfl ?_
        refine o_g y rfl rfl ?_
        refine o_rd (rd_move rfl) rfl ?_
        refine o_g y rfl rfl ?_
        refine o_call_is rfl (has_fn hx (by omega)) (by repeat (first | exact Split.nil | (apply Split.cons; next => repeat (first | exact Pick.here | apply Pick.there)))) rfl rfl ?_
        refine o_g y rfl rfl ?_
        refine o_rd (rd_move rfl) rfl ?_
        refine o_g y rfl rfl ?_
        refine o_rd (rd_eqB rfl rfl) rfl ?_
        exact o_nil ⟨rfl, rfl, ⟨_, (by repeat (first | exact Split.nil | (apply Split.cons; next => repeat (first | exact Pick.here | apply Pick.there))))⟩⟩
      refine o_rd (rd_assign rfl) rfl ?_
      refine o_nil ?_
      refine n_K ?_
      refine s_ret ?_
      refine leaf_is (rets1 Try.results3 (rv_tmp rfl)) ?_ (by repeat (first | exact Split.nil | (apply Split.cons; next => repeat (first | exact Pick.here | apply Pick.there))))
      first | rfl | simp [h2, List.take_of_length_le (show xs.length ≤ i.toNat by omega)]
theorem steps_nil {n m b base : Int} {p : Option Addr} {c : Nat} :
    Does Try.prog 3 [vv n m b, .slice p 0 c, .int .u64 base] [] (Is (.bool true) []) := by
  refine fn_enter (n := 95) Try.func3 Try.ntmps3 rfl (Nat.le_of_ble_eq_true rfl) ?_
  refine s_seq ?_
  refine s_region0 (fun ops => ?_)
  refine o_box rfl rfl (fun b3 => ?_)
  refine o_rd (rd_assign rfl) rfl ?_
  refine o_nil ?_
  refine n_K ?_
  refine s_seq ?_
  refine s_seq ?_
  refine s_region0 (fun ops => ?_)
  refine o_call_is rfl (speaks_fn) (by repeat (first | exact Split.nil | (apply Split.cons; next => repeat (first | exact Pick.here | apply Pick.there)))) rfl rfl ?_
  refine o_rd (rd_not rfl) rfl ?_
  refine o_nil ?_
  refine n_K ?_
  refine s_condF rfl ?_
  refine s_skip ?_
  refine n_K ?_
  refine s_seq ?_
  refine s_seq ?_
  refine s_region0 (fun ops => ?_)
  refine o_rd (rd_move rfl) rfl ?_
  refine o_rd (rd_lenS rfl) rfl ?_
  refine o_rd (rd_bin rfl rfl rfl) rfl ?_
  refine o_nil ?_
  refine n_K ?_
  refine s_cond rfl (fun c22 => ?_) (fun c22 => ?_)
  · skip
    simp at c22
  · skip
    refine s_skip ?_
    refine n_K ?_
    refine s_seq ?_
    refine s_region0 (fun ops => ?_)
    refine o_rd (rd_assign rfl) rfl ?_
    refine o_nil ?_
    refine n_K ?_
    refine s_seq ?_
    refine s_seq ?_
    refine s_region0 (fun ops => ?_)
    refine o_rd (rd_move rfl) rfl ?_
    refine o_rd (rd_lenS rfl) rfl ?_
    refine o_rd (rd_move rfl) rfl ?_
    refine o_nil ?_
    refine n_K ?_
    refine s_block ?_
    refine s_loop2E [1, 2, 3, 7, 23, 24] (by repeat' first | exact Keep2.nil | apply Keep2.cons rfl) (fun s => [(25, .int .i64 0)]) (fun s => True) (fun s => 0) (()) (by first | trivial | omega | simp) (by repeat' first | exact Keep.nil | refine Keep.cons rfl ?_) ?_
    rintro i _
    refine s_seq ?_
    refine s_region0 (fun ops => ?_)
    refine o_rd (rd_bin rfl rfl rfl) rfl ?_
    refine o_nil ?_
    refine n_K ?_
    refine s_seq ?_
    refine s_cond rfl (fun c26 => ?_) (fun c26 => ?_)
    · skip
      simp at c26
    · skip
      refine s_exit ?_
      refine x_K ?_
      refine x_K ?_
      refine x_blk ?_
      refine n_K ?_
      refine s_seq ?_
      refine s_region0 (fun ops => ?_)
      refine o_rd (rd_ldA rfl (by repeat' first | exact List.Mem.head _ | apply List.Mem.tail) rfl) rfl ?_
      refine o_rd (rd_move rfl) rfl ?_
      refine o_call_is rfl (grow_fn) (by repeat (first | exact Split.nil | (apply Split.cons; next => repeat (first | exact Pick.here | apply Pick.there)))) rfl rfl ?_
      refine o_rd (rd_move rfl) rfl ?_
      refine o_rd (rd_extract rfl rfl) rfl ?_
      refine o_rd (rd_extract rfl rfl) rfl ?_
      refine o_alloc rfl (fun b14 => ?_)
      refine o_store rfl rfl (by repeat' first | exact Upd.here | apply Upd.there) rfl rfl rfl ?_
      refine o_rd (rd_assign rfl) rfl ?_
      refine o_nil ?_
      refine n_K ?_
      refine s_seq ?_
      refine s_region0 (fun ops => ?_)
      refine o_rd (rd_ldA rfl (by repeat' first | exact List.Mem.head _ | apply List.Mem.tail) rfl) rfl ?_
      refine o_rd (rd_move rfl) rfl ?_
      refine o_call_is rfl (rgrow_fn) (by repeat (first | exact Split.nil | (apply Split.cons; next => repeat (first | exact Pick.here | apply Pick.there)))) rfl rfl ?_
      refine o_rd (rd_move rfl) rfl ?_
      refine o_rd (rd_extract rfl rfl) rfl ?_
      refine o_rd (rd_extract rfl rfl) rfl ?_
      refine o_alloc rfl (fun b16 => ?_)
      refine o_store rfl rfl (by repeat' first | exact Upd.here | apply Upd.there) rfl rfl rfl ?_
      refine o_rd (rd_assign rfl) rfl ?_
      refine o_nil ?_
      refine n_K ?_
      refine s_seq ?_
      refine s_region [(3, 83), (8, 88)] rfl (fun ops y => ?_)
      refine o_rd (rd_ldA rfl (by repeat' first | exact List.Mem.head _ | apply List.Mem.tail) rfl) rfl ?_
      refine o_rd (rd_ldA rfl (by repeat' first | exact List.Mem.head _ | apply List.Mem.tail) rfl) rfl ?_
      refine o_rd (rd_eqA rfl rfl rfl) rfl ?_
      refine o_rd (rd_move rfl) rfl ?_
      refine' o_and (j := 3) (k := 3) y rfl rfl rfl rfl rfl rfl rfl (fun hg83 => ?_) ?_
      rotate_left
      · try simp at hg83
        refine o_g y rfl rfl ?_
        refine o_rd (rd_move rfl) rfl ?_
        refine o_g y rfl rfl ?_
        refine o_rd (rd_move rfl) rfl ?_
        refine o_g y rfl rfl ?_
        refine o_rd (rd_bin rfl rfl rfl) rfl ?_
        exact o_nil ⟨rfl, rfl, ⟨_, (by repeat (first | exact Split.nil | (apply Split.cons; next => repeat (first | exact Pick.here | apply Pick.there))))⟩⟩
      refine o_rd (rd_move rfl) rfl ?_
      refine' o_and (j := 8) (k := 5) y rfl rfl rfl rfl rfl rfl rfl (fun hg88 => ?_) ?_
      rotate_left
      · try simp at hg88
        refine o_g y rfl rfl ?_
        refine o_rd (rd_ldA rfl (by repeat' first | exact List.Mem.head _ | apply List.Mem.tail) rfl) rfl ?_
        refine o_g y rfl rfl ?_
        refine o_rd (rd_move rfl) rfl ?_
        refine o_g y rfl rfl ?_
        refine o_call_is rfl (has_nil) (by repeat (first | exact Split.nil | (apply Split.cons; next => repeat (first | exact Pick.here | apply Pick.there)))) rfl rfl ?_
        refine o_g y rfl rfl ?_
        refine o_rd (rd_move rfl) rfl ?_
        refine o_g y rfl rfl ?_
        refine o_rd (rd_eqB rfl rfl) rfl ?_
        exact o_nil ⟨rfl, rfl, ⟨_, (by repeat (first | exact Split.nil | (apply Split.cons; next => repeat (first | exact Pick.here | apply Pick.there))))⟩⟩
      refine o_rd (rd_assign rfl) rfl ?_
      refine o_nil ?_
      refine n_K ?_
      refine s_ret ?_
      refine leaf_is (rets1 Try.results3 (rv_tmp rfl)) ?_ (by repeat (first | exact Split.nil | (apply Split.cons; next => repeat (first | exact Pick.here | apply Pick.there))))
      first | rfl | simp

/-- What a slice's cells read as. -/
def Views (cs : List Value) (o len : Nat) : Prop := ∀ i : Int, 0 ≤ i → i < len → ∃ n m b, cut cs (o + i.toNat * 3) 3 = some (vc n m b)
theorem ties_fn {bl o c len : Nat} {cs : List Value} {T : TypeId} {fr : Nat × Nat} (hx : Views cs o len) (hl : len ≤ 9223372036854775807) :
    Does Try.prog 4 [.slice (some ⟨bl, o, none⟩) len c] [(bl, false, CF cs T fr)] (Is (.bool true) [(bl, false, CF cs T fr)]) := by
  refine fn_enter (n := 63) Try.func4 Try.ntmps4 rfl (Nat.le_of_ble_eq_true rfl) ?_
  refine s_seq ?_
  refine s_region0 (fun ops => ?_)
  refine o_rd (rd_assign rfl) rfl ?_
  refine o_nil ?_
  refine n_K ?_
  refine s_seq ?_
  refine s_seq ?_
  refine s_region0 (fun ops => ?_)
  refine o_call_is rfl (speaks_fn) (by repeat (first | exact Split.nil | (apply Split.cons; next => repeat (first | exact Pick.here | apply Pick.there)))) rfl rfl ?_
  refine o_rd (rd_not rfl) rfl ?_
  refine o_nil ?_
  refine n_K ?_
  refine s_condF rfl ?_
  refine s_skip ?_
  refine n_K ?_
  refine s_seq ?_
  refine s_seq ?_
  refine s_region0 (fun ops => ?_)
  refine o_rd (rd_move rfl) rfl ?_
  refine o_rd (rd_lenS rfl) rfl ?_
  refine o_rd (rd_bin rfl rfl rfl) rfl ?_
  refine o_nil ?_
  refine n_K ?_
  refine s_cond rfl (fun c13 => ?_) (fun c13 => ?_)
  · try simp at c13
    refine s_seq ?_
    refine s_region0 (fun ops => ?_)
    refine o_rd (rd_assign rfl) rfl ?_
    refine o_nil ?_
    refine n_K ?_
    refine s_ret ?_
    refine r_K ?_
    refine leaf_is (rets1 Try.results4 (rv_tmp rfl)) ?_ (by repeat (first | exact Split.nil | (apply Split.cons; next => repeat (first | exact Pick.here | apply Pick.there))))
    rfl
  · try simp at c13
    refine s_skip ?_
    refine n_K ?_
    refine s_seq ?_
    refine s_region0 (fun ops => ?_)
    refine o_callx rfl (newtie_fn) (by repeat (first | exact Split.nil | (apply Split.cons; next => repeat (first | exact Pick.here | apply Pick.there)))) rfl (fun v14 Y14 h14 G14 hg14 => ?_)
    obtain ⟨tie14, rfl, rfl⟩ := h14
    cases hg14
    refine o_rd (rd_build_s rfl rfl) rfl ?_
    refine o_alloc rfl (fun b4 => ?_)
    refine o_rd (rd_assign rfl) rfl ?_
    refine o_store rfl rfl (by repeat' first | exact Upd.here | apply Upd.there) rfl rfl rfl ?_
    refine o_nil ?_
    refine n_K ?_
    refine s_seq ?_
    refine s_seq ?_
    refine s_draw [(2, 18)] [(2, [(0, false), (1, false)]), (8, [(2, false), (3, false), (5, false), (4, true), (6, false), (7, false)])] (by kernel_rfl) rfl (fun ops w0 H0 y => ?_)
    refine p_all ?_
    refine x_rd (rd_move rfl) rfl ?_
    refine x_rd (rd_eqNil rfl rfl) rfl ?_
    refine x_nil ?_
    refine p_all ?_
    refine x_rd (rd_move rfl) rfl ?_
    refine' x_or (j := 2) (k := 4) y rfl rfl rfl rfl rfl rfl rfl (fun hg18 => ?_) ?_
    rotate_left
    · try simp at hg18
      refine x_g y rfl rfl ?_
      refine x_rd (rd_move rfl) rfl ?_
      refine x_g y rfl rfl ?_
      refine x_rd (rd_ldA rfl (by repeat' first | exact List.Mem.head _ | apply List.Mem.tail) rfl) rfl ?_
      refine x_g y rfl rfl ?_
      refine x_so ?_
      refine o_call_is rfl (get_fn) (by repeat (first | exact Split.nil | (apply Split.cons; next => repeat (first | exact Pick.here | apply Pick.there)))) rfl rfl ?_
      refine o_nil ⟨rfl, ⟨_, (by repeat (first | exact Split.nil | (apply Split.cons; next => repeat (first | exact Pick.here | apply Pick.there))))⟩, ?_⟩
      refine x_g y rfl rfl ?_
      refine x_rd (rd_neA rfl rfl rfl) rfl ?_
      exact x_nil ⟨rfl, ⟨_, (by repeat (first | exact Split.nil | (apply Split.cons; next => repeat (first | exact Pick.here | apply Pick.there))))⟩⟩
    refine x_nil ?_
    refine p_end ?_
    refine n_K ?_
    refine s_cond rfl (fun c23 => ?_) (fun c23 => ?_)
    · skip
      simp at c23
    · skip
      refine s_skip ?_
      refine n_K ?_
      refine s_seq ?_
      refine s_seq ?_
      refine s_region0 (fun ops => ?_)
      refine o_rd (rd_move rfl) rfl ?_
      refine o_rd (rd_lenS rfl) rfl ?_
      refine o_rd (rd_move rfl) rfl ?_
      refine o_nil ?_
      refine n_K ?_
      refine s_block ?_
      refine s_loop2 [3, 4, 24, 25] (by repeat' first | exact Keep2.nil | apply Keep2.cons rfl) (fun (s : Int × Int × Int × Int) => [(26, .int .i64 s.1)]) (fun (s : Int × Int × Int × Int) => [(tie14, true, C (vc s.2.1 s.2.2.1 s.2.2.2) tT), (b4, true, C (vc s.2.1 s.2.2.1 s.2.2.2) 24), (bl, false, CF cs T fr)]) (fun (s : Int × Int × Int × Int) => 0 ≤ s.1 ∧ s.1 ≤ len) (fun (s : Int × Int × Int × Int) => ((len : Int) - s.1).toNat) (((0 : Int), (0 : Int), (0 : Int), (0 : Int))) ⟨by simp, by simp⟩ (by repeat' first | exact Keep.nil | refine Keep.cons rfl ?_) (by repeat (first | exact Split.nil | (apply Split.cons; next => repeat (first | exact Pick.here | apply Pick.there)))) ?_
      rintro ⟨i, n0, m0, b0⟩ ⟨h0, h1⟩
      simp only at h0 h1
      refine s_seq ?_
      refine s_region0 (fun ops => ?_)
      refine o_rd (rd_bin rfl rfl rfl) rfl ?_
      refine o_nil ?_
      refine n_K ?_
      refine s_seq ?_
      refine s_cond rfl (fun c27 => ?_) (fun c27 => ?_)
      · try simp at c27
        obtain ⟨n, m, b, hrow⟩ := hx i h0 c27
        refine s_skip ?_
        refine n_K ?_
        refine s_seq ?_
        refine s_block ?_
        refine s_seq ?_
        refine s_region0 (fun ops => ?_)
        refine o_rd (rd_ixS rfl rfl (by omega)) rfl ?_
        refine o_rd (rd_ldA rfl (by repeat' first | exact List.Mem.head _ | apply List.Mem.tail) hrow) rfl ?_
        refine o_alloc rfl (fun b6 => ?_)
        refine o_store rfl rfl (by repeat' first | exact Upd.here | apply Upd.there) rfl rfl rfl ?_
        refine o_nil ?_
        refine n_K ?_
        refine s_seq ?_
        refine s_region0 (fun ops => ?_)
        refine o_rd (rd_move rfl) rfl ?_
        refine o_rd (rd_ldA rfl (by repeat' first | exact List.Mem.head _ | apply List.Mem.tail) rfl) rfl ?_
        refine o_callx rfl (set_fn) (by repeat (first | exact Split.nil | (apply Split.cons; next => repeat (first | exact Pick.here | apply Pick.there)))) rfl (fun v32 Y32 h32 G32 hg32 => ?_)
        rcases h32 with ⟨hs32, rfl, rfl⟩ | ⟨ht32, rfl, rfl⟩
        all_goals
          cases hg32
          refine o_rd (rd_assign rfl) rfl ?_
          refine o_nil ?_
          refine n_K ?_
          refine s_seq ?_
          refine s_region [(2, 35)] rfl (fun ops y => ?_)
          refine o_rd (rd_ldA rfl (by repeat' first | exact List.Mem.head _ | apply List.Mem.tail) rfl) rfl ?_
          refine o_call_is rfl (rright_fn) (by repeat (first | exact Split.nil | (apply Split.cons; next => repeat (first | exact Pick.here | apply Pick.there)))) rfl rfl ?_
          refine o_rd (rd_move rfl) rfl ?_
          refine' o_and (j := 2) (k := 5) y rfl rfl rfl rfl rfl rfl rfl (fun hg35 => ?_) ?_
          rotate_left
          · try simp at hg35
            refine o_g y rfl rfl ?_
            refine o_rd (rd_field rfl) rfl ?_
            refine o_g y rfl rfl ?_
            refine o_rd (rd_ld rfl (by repeat' first | exact List.Mem.head _ | apply List.Mem.tail) rfl) rfl ?_
            refine o_g y rfl rfl ?_
            refine o_rd (rd_field rfl) rfl ?_
            refine o_g y rfl rfl ?_
            refine o_rd (rd_ld rfl (by repeat' first | exact List.Mem.head _ | apply List.Mem.tail) rfl) rfl ?_
            refine o_g y rfl rfl ?_
            refine o_rd (rd_bin rfl rfl rfl) rfl ?_
            exact o_nil ⟨rfl, rfl, ⟨_, (by repeat (first | exact Split.nil | (apply Split.cons; next => repeat (first | exact Pick.here | apply Pick.there))))⟩⟩
          refine o_rd (rd_assign rfl) rfl ?_
          refine o_nil ?_
          refine n_K ?_
          refine s_seq ?_
          refine s_seq ?_
          refine s_region0 (fun ops => ?_)
          refine o_rd (rd_move rfl) rfl ?_
          refine o_nil ?_
          refine n_K ?_
          refine s_cond rfl (fun c42 => ?_) (fun c42 => ?_)
          · skip
            try (exfalso; ((change setB n m n0 = true at c42; rw [hs32] at c42; cases c42)); done)
            all_goals
              refine s_region0 (fun ops => ?_)
              refine o_rd (rd_ldA rfl (by repeat' first | exact List.Mem.head _ | apply List.Mem.tail) rfl) rfl ?_
              refine o_store rfl rfl (by repeat' first | exact Upd.here | apply Upd.there) rfl rfl rfl ?_
              refine o_nil ?_
              refine n_K ?_
              refine s_seq ?_
              refine s_draw [(4, 48), (7, 51), (12, 56)] [(12, [(0, false), (1, false), (2, false), (3, false), (4, false), (5, false), (6, false), (7, false), (8, false), (9, false), (10, false), (11, false)]), (18, [(12, false), (13, false), (15, false), (14, true), (16, false), (17, false)])] (by kernel_rfl) rfl (fun ops w0 H0 y => ?_)
              refine p_all ?_
              refine x_rd (rd_move rfl) rfl ?_
              refine x_rd (rd_move rfl) rfl ?_
              refine x_rd (rd_bin rfl rfl rfl) rfl ?_
              refine x_rd (rd_neB rfl rfl) rfl ?_
              refine x_rd (rd_move rfl) rfl ?_
              refine' x_or (j := 4) (k := 6) y rfl rfl rfl rfl rfl rfl rfl (fun hg48 => ?_) ?_
              rotate_left
              · try simp at hg48
                refine x_g y rfl rfl ?_
                refine x_rd (rd_move rfl) rfl ?_
                refine x_g y rfl rfl ?_
                refine x_rd (rd_not rfl) rfl ?_
                refine x_g y rfl rfl ?_
                refine x_rd (rd_move rfl) rfl ?_
                refine' x_and (j := 7) (k := 2) y rfl rfl rfl rfl rfl rfl rfl (fun hg51 => ?_) ?_
                rotate_left
                · try simp at hg51
                  refine x_g y rfl rfl ?_
                  refine x_rd (rd_move rfl) rfl ?_
                  refine x_g y rfl rfl ?_
                  refine x_rd (rd_bin rfl rfl rfl) rfl ?_
                  exact x_nil ⟨rfl, ⟨_, (by repeat (first | exact Split.nil | (apply Split.cons; next => repeat (first | exact Pick.here | apply Pick.there))))⟩⟩
                exact x_nil ⟨rfl, ⟨_, (by repeat (first | exact Split.nil | (apply Split.cons; next => repeat (first | exact Pick.here | apply Pick.there))))⟩⟩
              refine x_nil ?_
              refine p_all ?_
              refine x_rd (rd_move rfl) rfl ?_
              refine' x_or (j := 12) (k := 4) y rfl rfl rfl rfl rfl rfl rfl (fun hg56 => ?_) ?_
              rotate_left
              · try simp at hg56
                refine x_g y rfl rfl ?_
                refine x_rd (rd_move rfl) rfl ?_
                refine x_g y rfl rfl ?_
                refine x_rd (rd_ldA rfl (by repeat' first | exact List.Mem.head _ | apply List.Mem.tail) rfl) rfl ?_
                refine x_g y rfl rfl ?_
                refine x_so ?_
                refine o_call_is rfl (get_fn) (by repeat (first | exact Split.nil | (apply Split.cons; next => repeat (first | exact Pick.here | apply Pick.there)))) rfl rfl ?_
                refine o_nil ⟨rfl, ⟨_, (by repeat (first | exact Split.nil | (apply Split.cons; next => repeat (first | exact Pick.here | apply Pick.there))))⟩, ?_⟩
                refine x_g y rfl rfl ?_
                refine x_rd (rd_neA rfl rfl rfl) rfl ?_
                exact x_nil ⟨rfl, ⟨_, (by repeat (first | exact Split.nil | (apply Split.cons; next => repeat (first | exact Pick.here | apply Pick.there))))⟩⟩
              refine x_nil ?_
              refine p_end ?_
              refine n_K ?_
              refine s_cond rfl (fun c61 => ?_) (fun c61 => ?_)
              · skip
                first | (simp [show (rightB n m && decide (n0 < n)) = false from hs32] at c61; done) | (simp [show (rightB n m && decide (n0 < n)) = true from ht32] at c61; done)
              · skip
                refine s_skip ?_
                refine n_blk ?_
                refine n_K ?_
                refine s_region0 (fun ops => ?_)
                refine o_rd (rd_add64 rfl rfl (by omega)) rfl ?_
                refine o_rd (rd_move rfl) rfl ?_
                refine o_nil ?_
                refine n_K ?_
                first | have := ht32; exact ⟨(i + 1, n, m, b), ⟨by simp; omega, by simp; omega⟩, (by simp; omega), (by repeat' first | exact Keep.nil | refine Keep.cons rfl ?_), (by repeat' first | exact Keep.nil | refine Keep.cons rfl ?_), _, (by repeat (first | exact Split.nil | (apply Split.cons; next => repeat (first | exact Pick.here | apply Pick.there))))⟩ | exact ⟨(i + 1, n0, m0, b0), ⟨by simp; omega, by simp; omega⟩, (by simp; omega), (by repeat' first | exact Keep.nil | refine Keep.cons rfl ?_), (by repeat' first | exact Keep.nil | refine Keep.cons rfl ?_), _, (by repeat (first | exact Split.nil | (apply Split.cons; next => repeat (first | exact Pick.here | apply Pick.there))))⟩
          · skip
            try (exfalso; ((change setB n m n0 = false at c42; rw [ht32] at c42; cases c42)); done)
            all_goals
              refine s_skip ?_
              refine n_K ?_
              refine s_seq ?_
              refine s_draw [(4, 48), (7, 51), (12, 56)] [(12, [(0, false), (1, false), (2, false), (3, false), (4, false), (5, false), (6, false), (7, false), (8, false), (9, false), (10, false), (11, false)]), (18, [(12, false), (13, false), (15, false), (14, true), (16, false), (17, false)])] (by kernel_rfl) rfl (fun ops w0 H0 y => ?_)
              refine p_all ?_
              refine x_rd (rd_move rfl) rfl ?_
              refine x_rd (rd_move rfl) rfl ?_
              refine x_rd (rd_bin rfl rfl rfl) rfl ?_
              refine x_rd (rd_neB rfl rfl) rfl ?_
              refine x_rd (rd_move rfl) rfl ?_
              refine' x_or (j := 4) (k := 6) y rfl rfl rfl rfl rfl rfl rfl (fun hg48 => ?_) ?_
              rotate_left
              · try simp at hg48
                refine x_g y rfl rfl ?_
                refine x_rd (rd_move rfl) rfl ?_
                refine x_g y rfl rfl ?_
                refine x_rd (rd_not rfl) rfl ?_
                refine x_g y rfl rfl ?_
                refine x_rd (rd_move rfl) rfl ?_
                refine' x_and (j := 7) (k := 2) y rfl rfl rfl rfl rfl rfl rfl (fun hg51 => ?_) ?_
                rotate_left
                · try simp at hg51
                  refine x_g y rfl rfl ?_
                  refine x_rd (rd_move rfl) rfl ?_
                  refine x_g y rfl rfl ?_
                  refine x_rd (rd_bin rfl rfl rfl) rfl ?_
                  exact x_nil ⟨rfl, ⟨_, (by repeat (first | exact Split.nil | (apply Split.cons; next => repeat (first | exact Pick.here | apply Pick.there))))⟩⟩
                exact x_nil ⟨rfl, ⟨_, (by repeat (first | exact Split.nil | (apply Split.cons; next => repeat (first | exact Pick.here | apply Pick.there))))⟩⟩
              refine x_nil ?_
              refine p_all ?_
              refine x_rd (rd_move rfl) rfl ?_
              refine' x_or (j := 12) (k := 4) y rfl rfl rfl rfl rfl rfl rfl (fun hg56 => ?_) ?_
              rotate_left
              · try simp at hg56
                refine x_g y rfl rfl ?_
                refine x_rd (rd_move rfl) rfl ?_
                refine x_g y rfl rfl ?_
                refine x_rd (rd_ldA rfl (by repeat' first | exact List.Mem.head _ | apply List.Mem.tail) rfl) rfl ?_
                refine x_g y rfl rfl ?_
                refine x_so ?_
                refine o_call_is rfl (get_fn) (by repeat (first | exact Split.nil | (apply Split.cons; next => repeat (first | exact Pick.here | apply Pick.there)))) rfl rfl ?_
                refine o_nil ⟨rfl, ⟨_, (by repeat (first | exact Split.nil | (apply Split.cons; next => repeat (first | exact Pick.here | apply Pick.there))))⟩, ?_⟩
                refine x_g y rfl rfl ?_
                refine x_rd (rd_neA rfl rfl rfl) rfl ?_
                exact x_nil ⟨rfl, ⟨_, (by repeat (first | exact Split.nil | (apply Split.cons; next => repeat (first | exact Pick.here | apply Pick.there))))⟩⟩
              refine x_nil ?_
              refine p_end ?_
              refine n_K ?_
              refine s_cond rfl (fun c61 => ?_) (fun c61 => ?_)
              · skip
                first | (simp [show (rightB n m && decide (n0 < n)) = false from hs32] at c61; done) | (simp [show (rightB n m && decide (n0 < n)) = true from ht32] at c61; done)
              · skip
                refine s_skip ?_
                refine n_blk ?_
                refine n_K ?_
                refine s_region0 (fun ops => ?_)
                refine o_rd (rd_add64 rfl rfl (by omega)) rfl ?_
                refine o_rd (rd_move rfl) rfl ?_
                refine o_nil ?_
                refine n_K ?_
                first | have := ht32; exact ⟨(i + 1, n, m, b), ⟨by simp; omega, by simp; omega⟩, (by simp; omega), (by repeat' first | exact Keep.nil | refine Keep.cons rfl ?_), (by repeat' first | exact Keep.nil | refine Keep.cons rfl ?_), _, (by repeat (first | exact Split.nil | (apply Split.cons; next => repeat (first | exact Pick.here | apply Pick.there))))⟩ | exact ⟨(i + 1, n0, m0, b0), ⟨by simp; omega, by simp; omega⟩, (by simp; omega), (by repeat' first | exact Keep.nil | refine Keep.cons rfl ?_), (by repeat' first | exact Keep.nil | refine Keep.cons rfl ?_), _, (by repeat (first | exact Split.nil | (apply Split.cons; next => repeat (first | exact Pick.here | apply Pick.there))))⟩
      · try simp at c27
        refine s_exit ?_
        refine x_K ?_
        refine x_K ?_
        refine x_blk ?_
        refine n_K ?_
        refine s_seq ?_
        refine s_region0 (fun ops => ?_)
        refine o_rd (rd_assign rfl) rfl ?_
        refine o_nil ?_
        refine n_K ?_
        refine s_ret ?_
        refine leaf_is (rets1 Try.results4 (rv_tmp rfl)) ?_ (by repeat (first | exact Split.nil | (apply Split.cons; next => repeat (first | exact Pick.here | apply Pick.there))))
        rfl
theorem ties_nil {p : Option Addr} {c : Nat} :
    Does Try.prog 4 [.slice p 0 c] [] (Is (.bool true) []) := by
  refine fn_enter (n := 63) Try.func4 Try.ntmps4 rfl (Nat.le_of_ble_eq_true rfl) ?_
  refine s_seq ?_
  refine s_region0 (fun ops => ?_)
  refine o_rd (rd_assign rfl) rfl ?_
  refine o_nil ?_
  refine n_K ?_
  refine s_seq ?_
  refine s_seq ?_
  refine s_region0 (fun ops => ?_)
  refine o_call_is rfl (speaks_fn) (by repeat (first | exact Split.nil | (apply Split.cons; next => repeat (first | exact Pick.here | apply Pick.there)))) rfl rfl ?_
  refine o_rd (rd_not rfl) rfl ?_
  refine o_nil ?_
  refine n_K ?_
  refine s_condF rfl ?_
  refine s_skip ?_
  refine n_K ?_
  refine s_seq ?_
  refine s_seq ?_
  refine s_region0 (fun ops => ?_)
  refine o_rd (rd_move rfl) rfl ?_
  refine o_rd (rd_lenS rfl) rfl ?_
  refine o_rd (rd_bin rfl rfl rfl) rfl ?_
  refine o_nil ?_
  refine n_K ?_
  refine s_cond rfl (fun c13 => ?_) (fun c13 => ?_)
  · skip
    simp at c13
  · skip
    refine s_skip ?_
    refine n_K ?_
    refine s_seq ?_
    refine s_region0 (fun ops => ?_)
    refine o_callx rfl (newtie_fn) (by repeat (first | exact Split.nil | (apply Split.cons; next => repeat (first | exact Pick.here | apply Pick.there)))) rfl (fun v14 Y14 h14 G14 hg14 => ?_)
    obtain ⟨tie14, rfl, rfl⟩ := h14
    cases hg14
    refine o_rd (rd_build_s rfl rfl) rfl ?_
    refine o_alloc rfl (fun b4 => ?_)
    refine o_rd (rd_assign rfl) rfl ?_
    refine o_store rfl rfl (by repeat' first | exact Upd.here | apply Upd.there) rfl rfl rfl ?_
    refine o_nil ?_
    refine n_K ?_
    refine s_seq ?_
    refine s_seq ?_
    refine s_draw [(2, 18)] [(2, [(0, false), (1, false)]), (8, [(2, false), (3, false), (5, false), (4, true), (6, false), (7, false)])] (by kernel_rfl) rfl (fun ops w0 H0 y => ?_)
    refine p_all ?_
    refine x_rd (rd_move rfl) rfl ?_
    refine x_rd (rd_eqNil rfl rfl) rfl ?_
    refine x_nil ?_
    refine p_all ?_
    refine x_rd (rd_move rfl) rfl ?_
    refine' x_or (j := 2) (k := 4) y rfl rfl rfl rfl rfl rfl rfl (fun hg18 => ?_) ?_
    rotate_left
    · try simp at hg18
      refine x_g y rfl rfl ?_
      refine x_rd (rd_move rfl) rfl ?_
      refine x_g y rfl rfl ?_
      refine x_rd (rd_ldA rfl (by repeat' first | exact List.Mem.head _ | apply List.Mem.tail) rfl) rfl ?_
      refine x_g y rfl rfl ?_
      refine x_so ?_
      refine o_call_is rfl (get_fn) (by repeat (first | exact Split.nil | (apply Split.cons; next => repeat (first | exact Pick.here | apply Pick.there)))) rfl rfl ?_
      refine o_nil ⟨rfl, ⟨_, (by repeat (first | exact Split.nil | (apply Split.cons; next => repeat (first | exact Pick.here | apply Pick.there))))⟩, ?_⟩
      refine x_g y rfl rfl ?_
      refine x_rd (rd_neA rfl rfl rfl) rfl ?_
      exact x_nil ⟨rfl, ⟨_, (by repeat (first | exact Split.nil | (apply Split.cons; next => repeat (first | exact Pick.here | apply Pick.there))))⟩⟩
    refine x_nil ?_
    refine p_end ?_
    refine n_K ?_
    refine s_cond rfl (fun c23 => ?_) (fun c23 => ?_)
    · skip
      simp at c23
    · skip
      refine s_skip ?_
      refine n_K ?_
      refine s_seq ?_
      refine s_seq ?_
      refine s_region0 (fun ops => ?_)
      refine o_rd (rd_move rfl) rfl ?_
      refine o_rd (rd_lenS rfl) rfl ?_
      refine o_rd (rd_move rfl) rfl ?_
      refine o_nil ?_
      refine n_K ?_
      refine s_block ?_
      refine s_loop2 [3, 4, 24, 25] (by repeat' first | exact Keep2.nil | apply Keep2.cons rfl) (fun s => [(26, .int .i64 0)]) (fun s => _) (fun s => True) (fun s => 0) (()) (by first | trivial | omega | simp) (by repeat' first | exact Keep.nil | refine Keep.cons rfl ?_) (by repeat (first | exact Split.nil | (apply Split.cons; next => repeat (first | exact Pick.here | apply Pick.there)))) ?_
      rintro i _
      refine s_seq ?_
      refine s_region0 (fun ops => ?_)
      refine o_rd (rd_bin rfl rfl rfl) rfl ?_
      refine o_nil ?_
      refine n_K ?_
      refine s_seq ?_
      refine s_cond rfl (fun c27 => ?_) (fun c27 => ?_)
      · skip
        simp at c27
      · skip
        refine s_exit ?_
        refine x_K ?_
        refine x_K ?_
        refine x_blk ?_
        refine n_K ?_
        refine s_seq ?_
        refine s_region0 (fun ops => ?_)
        refine o_rd (rd_assign rfl) rfl ?_
        refine o_nil ?_
        refine n_K ?_
        refine s_ret ?_
        refine leaf_is (rets1 Try.results4 (rv_tmp rfl)) ?_ (by repeat (first | exact Split.nil | (apply Split.cons; next => repeat (first | exact Pick.here | apply Pick.there))))
        rfl

theorem back_fn {n m b c b0 b1 : Int} (h0 : 0 ≤ n) (h1 : n < 18446744073709551616) :
    Does Try.prog 5 [vv n m b, .int .i64 c, .agg #[.int .u64 b0, .int .u64 b1]] [] (Is (.bool true) []) := by
  refine fn_enter (n := 110) Try.func5 Try.ntmps5 rfl (Nat.le_of_ble_eq_true rfl) ?_
  refine s_seq ?_
  refine s_region0 (fun ops => ?_)
  refine o_box rfl rfl (fun b3 => ?_)
  refine o_box rfl rfl (fun b5 => ?_)
  refine o_rd (rd_assign rfl) rfl ?_
  refine o_nil ?_
  refine n_K ?_
  refine s_seq ?_
  refine s_seq ?_
  refine s_region0 (fun ops => ?_)
  refine o_call_is rfl (speaks_fn) (by repeat (first | exact Split.nil | (apply Split.cons; next => repeat (first | exact Pick.here | apply Pick.there)))) rfl rfl ?_
  refine o_rd (rd_not rfl) rfl ?_
  refine o_nil ?_
  refine n_K ?_
  refine s_condF rfl ?_
  refine s_skip ?_
  refine n_K ?_
  refine s_seq ?_
  refine s_region0 (fun ops => ?_)
  refine o_rd (rd_ldA rfl (by repeat' first | exact List.Mem.head _ | apply List.Mem.tail) rfl) rfl ?_
  refine o_rd (rd_move rfl) rfl ?_
  refine o_rd (rd_ixA rfl rfl (by omega)) rfl ?_
  refine o_rd (rd_ld rfl (by repeat' first | exact List.Mem.head _ | apply List.Mem.tail) rfl) rfl ?_
  refine o_call_is rfl (shrink_fn) (by repeat (first | exact Split.nil | (apply Split.cons; next => repeat (first | exact Pick.here | apply Pick.there)))) rfl rfl ?_
  refine o_rd (rd_move rfl) rfl ?_
  refine o_rd (rd_extract rfl rfl) rfl ?_
  refine o_rd (rd_extract rfl rfl) rfl ?_
  refine o_alloc rfl (fun b7 => ?_)
  refine o_store rfl rfl (by repeat' first | exact Upd.here | apply Upd.there) rfl rfl rfl ?_
  refine o_rd (rd_assign rfl) rfl ?_
  refine o_nil ?_
  refine n_K ?_
  refine s_seq ?_
  refine s_seq ?_
  refine s_region0 (fun ops => ?_)
  refine o_rd (rd_move rfl) rfl ?_
  refine o_rd (rd_bin rfl rfl rfl) rfl ?_
  refine o_nil ?_
  refine n_K ?_
  refine s_cond rfl (fun c26 => ?_) (fun c26 => ?_)
  · skip
    rw [shr_bad c26]
    refine s_seq ?_
    refine s_region0 (fun ops => ?_)
    refine o_rd (rd_ldA rfl (by repeat' first | exact List.Mem.head _ | apply List.Mem.tail) rfl) rfl ?_
    refine o_rd (rd_build_s rfl rfl) rfl ?_
    refine o_rd (rd_eqA rfl rfl rfl) rfl ?_
    refine o_rd (rd_assign rfl) rfl ?_
    refine o_nil ?_
    refine n_K ?_
    refine s_ret ?_
    refine r_K ?_
    refine leaf_is (rets1 Try.results5 (rv_tmp rfl)) ?_ (by repeat (first | exact Split.nil | (apply Split.cons; next => repeat (first | exact Pick.here | apply Pick.there))))
    first | rfl | (simp; done) | simp [u64_wrap (show 0 ≤ n + 2 by omega) (by omega), has_own hc, has_both]
  · skip
    obtain ⟨e1, h2, h3, h4, h5, hc, hr⟩ := shr_ok c26; rw [e1]
    refine s_skip ?_
    refine n_K ?_
    refine s_seq ?_
    refine s_region0 (fun ops => ?_)
    refine o_rd (rd_ldA rfl (by repeat' first | exact List.Mem.head _ | apply List.Mem.tail) rfl) rfl ?_
    refine o_rd (rd_ixA rfl rfl (by omega)) rfl ?_
    refine o_rd (rd_ld rfl (by repeat' first | exact List.Mem.head _ | apply List.Mem.tail) rfl) rfl ?_
    refine o_call_is rfl (grow_fn) (by repeat (first | exact Split.nil | (apply Split.cons; next => repeat (first | exact Pick.here | apply Pick.there)))) rfl rfl ?_
    refine o_rd (rd_move rfl) rfl ?_
    refine o_rd (rd_extract rfl rfl) rfl ?_
    refine o_rd (rd_extract rfl rfl) rfl ?_
    refine o_alloc rfl (fun b9 => ?_)
    refine o_store rfl rfl (by repeat' first | exact Upd.here | apply Upd.there) rfl rfl rfl ?_
    refine o_rd (rd_assign rfl) rfl ?_
    refine o_nil ?_
    refine n_K ?_
    refine s_seq ?_
    refine s_seq ?_
    refine s_region0 (fun ops => ?_)
    refine o_rd (rd_field rfl) rfl ?_
    refine o_rd (rd_ld rfl (by repeat' first | exact List.Mem.head _ | apply List.Mem.tail) rfl) rfl ?_
    refine o_rd (rd_bin rfl rfl rfl) rfl ?_
    refine o_rd (rd_bin rfl rfl rfl) rfl ?_
    refine o_nil ?_
    refine n_K ?_
    refine s_cond rfl (fun c40 => ?_) (fun c40 => ?_)
    · rw [u64_wrap (by omega) (by omega)] at c40; simp at c40
      rw [gro_top (by omega)]
      refine s_seq ?_
      refine s_region0 (fun ops => ?_)
      refine o_rd (rd_move rfl) rfl ?_
      refine o_rd (rd_bin rfl rfl rfl) rfl ?_
      refine o_rd (rd_assign rfl) rfl ?_
      refine o_nil ?_
      refine n_K ?_
      refine s_ret ?_
      refine r_K ?_
      refine leaf_is (rets1 Try.results5 (rv_tmp rfl)) ?_ (by repeat (first | exact Split.nil | (apply Split.cons; next => repeat (first | exact Pick.here | apply Pick.there))))
      first | rfl | (simp; done) | simp [u64_wrap (show 0 ≤ n + 2 by omega) (by omega), has_own hc, has_both]
    · rw [u64_wrap (by omega) (by omega)] at c40; simp at c40
      rw [gro_ok h2 (by omega) hc]
      refine s_skip ?_
      refine n_K ?_
      refine s_seq ?_
      refine s_region0 (fun ops => ?_)
      refine o_callx rfl (newtie_fn) (by repeat (first | exact Split.nil | (apply Split.cons; next => repeat (first | exact Pick.here | apply Pick.there)))) rfl (fun v43 Y43 h43 G43 hg43 => ?_)
      obtain ⟨tie43, rfl, rfl⟩ := h43
      cases hg43
      refine o_rd (rd_assign rfl) rfl ?_
      refine o_nil ?_
      refine n_K ?_
      refine s_seq ?_
      refine s_seq ?_
      refine s_region [(2, 46)] rfl (fun ops y => ?_)
      refine o_rd (rd_move rfl) rfl ?_
      refine o_rd (rd_eqNil rfl rfl) rfl ?_
      refine o_rd (rd_move rfl) rfl ?_
      refine' o_or (j := 2) (k := 2) y rfl rfl rfl rfl rfl rfl rfl (fun hg46 => ?_) ?_
      rotate_left
      · try simp at hg46
        refine o_g y rfl rfl ?_
        refine o_rd (rd_move rfl) rfl ?_
        refine o_g y rfl rfl ?_
        refine o_rd (rd_bin rfl rfl rfl) rfl ?_
        exact o_nil ⟨rfl, rfl, ⟨_, (by repeat (first | exact Split.nil | (apply Split.cons; next => repeat (first | exact Pick.here | apply Pick.there))))⟩⟩
      refine o_nil ?_
      refine n_K ?_
      refine s_condF rfl ?_
      refine s_skip ?_
      refine n_K ?_
      refine s_seq ?_
      refine s_draw [] [(8, [(0, false), (1, false), (3, false), (4, false), (6, false), (7, false), (2, true), (5, true)]), (9, [(8, true)]), (12, [(9, false), (10, false), (11, false)])] (by kernel_rfl) rfl (fun ops w0 H0 y => ?_)
      refine p_drop (x := (tie43, true, C (vc 0 0 0) tT)) (by repeat' first | exact Pick.here | apply Pick.there) ?_
      refine x_rd (rd_move rfl) rfl ?_
      refine x_rd (rd_ldA rfl (by repeat' first | exact List.Mem.head _ | apply List.Mem.tail) rfl) rfl ?_
      refine x_rd (rd_move rfl) rfl ?_
      refine x_rd (rd_ldA rfl (by repeat' first | exact List.Mem.head _ | apply List.Mem.tail) rfl) rfl ?_
      refine x_rd (rd_move rfl) rfl ?_
      refine x_rd (rd_ldA rfl (by repeat' first | exact List.Mem.head _ | apply List.Mem.tail) rfl) rfl ?_
      refine x_so ?_
      refine o_call_is rfl (setok_fn (n0 := 0) (m0 := 0) (b0 := 0) (setB_of hr (by omega))) (by repeat (first | exact Split.nil | (apply Split.cons; next => repeat (first | exact Pick.here | apply Pick.there)))) rfl rfl ?_
      refine o_nil ⟨rfl, ⟨_, (by repeat (first | exact Split.nil | (apply Split.cons; next => repeat (first | exact Pick.here | apply Pick.there))))⟩, ?_⟩
      refine x_so ?_
      refine o_call_is rfl (setok_fn (n := n + 1) (m := c + 1) (n0 := n) (m0 := m) (b0 := b) (setB_of (right_of (by omega) (by omega) (by omega) (by omega)) (by omega))) (by repeat (first | exact Split.nil | (apply Split.cons; next => repeat (first | exact Pick.here | apply Pick.there)))) rfl rfl ?_
      refine o_nil ⟨rfl, ⟨_, (by repeat (first | exact Split.nil | (apply Split.cons; next => repeat (first | exact Pick.here | apply Pick.there))))⟩, ?_⟩
      refine x_nil ?_
      refine p_none ?_
      refine x_so ?_
      refine o_call_is rfl (setok_fn (n := n + 2) (m := 3) (n0 := n + 1) (m0 := c + 1) (setB_of (right_of (by omega) (by omega) (by omega) (by omega)) (by omega))) (by repeat (first | exact Split.nil | (apply Split.cons; next => repeat (first | exact Pick.here | apply Pick.there)))) rfl rfl ?_
      refine o_nil ⟨rfl, ⟨_, (by repeat (first | exact Split.nil | (apply Split.cons; next => repeat (first | exact Pick.here | apply Pick.there))))⟩, ?_⟩
      refine x_nil ?_
      refine p_all ?_
      refine x_rd (rd_assign rfl) rfl ?_
      refine x_rd (rd_assign rfl) rfl ?_
      refine x_rd (rd_assign rfl) rfl ?_
      refine x_nil ?_
      refine p_end ?_
      refine n_K ?_
      refine s_seq ?_
      refine s_draw [(8, 67), (13, 72), (19, 78), (27, 86), (31, 90), (35, 94), (39, 98), (45, 104)] [(8, [(0, false), (1, false), (2, false), (3, false), (4, false), (5, false), (6, false), (7, false)]), (13, [(8, false), (9, false), (10, true), (11, true), (12, false)]), (19, [(13, false), (14, false), (15, false), (16, true), (17, true), (18, false)]), (27, [(19, false), (20, false), (21, false), (22, false), (23, true), (24, true), (25, false), (26, false)]), (39, [(27, false), (28, false), (29, false), (30, false), (31, false), (32, false), (33, false), (34, false), (35, false), (36, false), (37, false), (38, false)]), (45, [(39, false), (40, false), (41, false), (42, true), (43, false), (44, false)]), (51, [(45, false), (46, false), (48, false), (47, true), (49, false), (50, false)]), (52, [(51, false)])] (by kernel_rfl) rfl (fun ops w0 H0 y => ?_)
      refine p_all ?_
      refine x_rd (rd_ldA rfl (by repeat' first | exact List.Mem.head _ | apply List.Mem.tail) rfl) rfl ?_
      refine x_rd (rd_field rfl) rfl ?_
      refine x_rd (rd_ld rfl (by repeat' first | exact List.Mem.head _ | apply List.Mem.tail) rfl) rfl ?_
      refine x_rd (rd_bin rfl rfl rfl) rfl ?_
      refine x_rd (rd_ixA rfl rfl (by omega)) rfl ?_
      refine x_rd (rd_ld rfl (by repeat' first | exact List.Mem.head _ | apply List.Mem.tail) rfl) rfl ?_
      refine x_rd (rd_build_s rfl rfl) rfl ?_
      refine x_rd (rd_eqA rfl rfl rfl) rfl ?_
      refine x_nil ?_
      refine p_all ?_
      refine x_rd (rd_move rfl) rfl ?_
      refine' x_and (j := 8) (k := 3) y rfl rfl rfl rfl rfl rfl rfl (fun hg67 => ?_) ?_
      rotate_left
      · try simp at hg67
        refine x_g y rfl rfl ?_
        refine x_rd (rd_ldA rfl (by repeat' first | exact List.Mem.head _ | apply List.Mem.tail) rfl) rfl ?_
        refine x_g y rfl rfl ?_
        refine x_so ?_
        refine o_bslice_k rfl rfl rfl rfl (fun b69 => ?_)
        refine o_nil ⟨rfl, ⟨_, (by repeat (first | exact Split.nil | (apply Split.cons; next => repeat (first | exact Pick.here | apply Pick.there))))⟩, ?_⟩
        refine x_g y rfl rfl ?_
        refine x_so ?_
        refine o_call_is rfl (has2_fn) (by repeat (first | exact Split.nil | (apply Split.cons; next => repeat (first | exact Pick.here | apply Pick.there)))) rfl rfl ?_
        refine o_nil ⟨rfl, ⟨_, (by repeat (first | exact Split.nil | (apply Split.cons; next => repeat (first | exact Pick.here | apply Pick.there))))⟩, ?_⟩
        exact x_nil ⟨rfl, ⟨_, (by repeat (first | exact Split.nil | (apply Split.cons; next => repeat (first | exact Pick.here | apply Pick.there))))⟩⟩
      refine x_nil ?_
      refine p_all ?_
      refine x_rd (rd_move rfl) rfl ?_
      refine' x_and (j := 13) (k := 4) y rfl rfl rfl rfl rfl rfl rfl (fun hg72 => ?_) ?_
      rotate_left
      · try simp at hg72
        refine x_g y rfl rfl ?_
        refine x_rd (rd_ldA rfl (by repeat' first | exact List.Mem.head _ | apply List.Mem.tail) rfl) rfl ?_
        refine x_g y rfl rfl ?_
        refine x_rd (rd_move rfl) rfl ?_
        refine x_g y rfl rfl ?_
        refine x_so ?_
        refine o_bslice_k rfl rfl rfl rfl (fun b75 => ?_)
        refine o_nil ⟨rfl, ⟨_, (by repeat (first | exact Split.nil | (apply Split.cons; next => repeat (first | exact Pick.here | apply Pick.there))))⟩, ?_⟩
        refine x_g y rfl rfl ?_
        refine x_so ?_
        refine o_call_is rfl (has1_fn) (by repeat (first | exact Split.nil | (apply Split.cons; next => repeat (first | exact Pick.here | apply Pick.there)))) rfl rfl ?_
        refine o_nil ⟨rfl, ⟨_, (by repeat (first | exact Split.nil | (apply Split.cons; next => repeat (first | exact Pick.here | apply Pick.there))))⟩, ?_⟩
        exact x_nil ⟨rfl, ⟨_, (by repeat (first | exact Split.nil | (apply Split.cons; next => repeat (first | exact Pick.here | apply Pick.there))))⟩⟩
      refine x_nil ?_
      refine p_all ?_
      refine x_rd (rd_move rfl) rfl ?_
      refine' x_and (j := 19) (k := 6) y rfl rfl rfl rfl rfl rfl rfl (fun hg78 => ?_) ?_
      rotate_left
      · try simp at hg78
        refine x_g y rfl rfl ?_
        refine x_rd (rd_ldA rfl (by repeat' first | exact List.Mem.head _ | apply List.Mem.tail) rfl) rfl ?_
        refine x_g y rfl rfl ?_
        refine x_rd (rd_move rfl) rfl ?_
        refine x_g y rfl rfl ?_
        refine x_rd (rd_bin rfl rfl rfl) rfl ?_
        refine x_g y rfl rfl ?_
        refine x_so ?_
        refine o_bslice_k rfl rfl rfl rfl (fun b82 => ?_)
        refine o_nil ⟨rfl, ⟨_, (by repeat (first | exact Split.nil | (apply Split.cons; next => repeat (first | exact Pick.here | apply Pick.there))))⟩, ?_⟩
        refine x_g y rfl rfl ?_
        refine x_so ?_
        refine o_call_is rfl (has1_fn) (by repeat (first | exact Split.nil | (apply Split.cons; next => repeat (first | exact Pick.here | apply Pick.there)))) rfl rfl ?_
        refine o_nil ⟨rfl, ⟨_, (by repeat (first | exact Split.nil | (apply Split.cons; next => repeat (first | exact Pick.here | apply Pick.there))))⟩, ?_⟩
        refine x_g y rfl rfl ?_
        refine x_rd (rd_not rfl) rfl ?_
        exact x_nil ⟨rfl, ⟨_, (by repeat (first | exact Split.nil | (apply Split.cons; next => repeat (first | exact Pick.here | apply Pick.there))))⟩⟩
      refine x_nil ?_
      refine p_all ?_
      refine x_rd (rd_move rfl) rfl ?_
      refine' x_and (j := 27) (k := 2) y rfl rfl rfl rfl rfl rfl rfl (fun hg86 => ?_) ?_
      rotate_left
      · try simp at hg86
        refine x_g y rfl rfl ?_
        refine x_rd (rd_move rfl) rfl ?_
        refine x_g y rfl rfl ?_
        refine x_rd (rd_bin rfl rfl rfl) rfl ?_
        exact x_nil ⟨rfl, ⟨_, (by repeat (first | exact Split.nil | (apply Split.cons; next => repeat (first | exact Pick.here | apply Pick.there))))⟩⟩
      refine x_rd (rd_move rfl) rfl ?_
      refine' x_and (j := 31) (k := 2) y rfl rfl rfl rfl rfl rfl rfl (fun hg90 => ?_) ?_
      rotate_left
      · try simp at hg90
        refine x_g y rfl rfl ?_
        refine x_rd (rd_move rfl) rfl ?_
        refine x_g y rfl rfl ?_
        refine x_rd (rd_bin rfl rfl rfl) rfl ?_
        exact x_nil ⟨rfl, ⟨_, (by repeat (first | exact Split.nil | (apply Split.cons; next => repeat (first | exact Pick.here | apply Pick.there))))⟩⟩
      refine x_rd (rd_move rfl) rfl ?_
      refine' x_and (j := 35) (k := 2) y rfl rfl rfl rfl rfl rfl rfl (fun hg94 => ?_) ?_
      rotate_left
      · try simp at hg94
        refine x_g y rfl rfl ?_
        refine x_rd (rd_move rfl) rfl ?_
        refine x_g y rfl rfl ?_
        refine x_rd (rd_bin rfl rfl rfl) rfl ?_
        exact x_nil ⟨rfl, ⟨_, (by repeat (first | exact Split.nil | (apply Split.cons; next => repeat (first | exact Pick.here | apply Pick.there))))⟩⟩
      refine x_nil ?_
      refine p_all ?_
      refine x_rd (rd_move rfl) rfl ?_
      refine' x_and (j := 39) (k := 4) y rfl rfl rfl rfl rfl rfl rfl (fun hg98 => ?_) ?_
      rotate_left
      · try simp at hg98
        refine x_g y rfl rfl ?_
        refine x_rd (rd_move rfl) rfl ?_
        refine x_g y rfl rfl ?_
        refine x_rd (rd_ldA rfl (by repeat' first | exact List.Mem.head _ | apply List.Mem.tail) rfl) rfl ?_
        refine x_g y rfl rfl ?_
        refine x_so ?_
        refine o_call_is rfl (setno_fn (n := n + 1) (n0 := n + 2) (setB_le (by omega))) (by repeat (first | exact Split.nil | (apply Split.cons; next => repeat (first | exact Pick.here | apply Pick.there)))) rfl rfl ?_
        refine o_nil ⟨rfl, ⟨_, (by repeat (first | exact Split.nil | (apply Split.cons; next => repeat (first | exact Pick.here | apply Pick.there))))⟩, ?_⟩
        refine x_g y rfl rfl ?_
        refine x_rd (rd_bin rfl rfl rfl) rfl ?_
        exact x_nil ⟨rfl, ⟨_, (by repeat (first | exact Split.nil | (apply Split.cons; next => repeat (first | exact Pick.here | apply Pick.there))))⟩⟩
      refine x_nil ?_
      refine p_all ?_
      refine x_rd (rd_move rfl) rfl ?_
      refine' x_and (j := 45) (k := 4) y rfl rfl rfl rfl rfl rfl rfl (fun hg104 => ?_) ?_
      rotate_left
      · try simp at hg104
        refine x_g y rfl rfl ?_
        refine x_rd (rd_move rfl) rfl ?_
        refine x_g y rfl rfl ?_
        refine x_rd (rd_ldA rfl (by repeat' first | exact List.Mem.head _ | apply List.Mem.tail) rfl) rfl ?_
        refine x_g y rfl rfl ?_
        refine x_so ?_
        refine o_call_is rfl (get_fn) (by repeat (first | exact Split.nil | (apply Split.cons; next => repeat (first | exact Pick.here | apply Pick.there)))) rfl rfl ?_
        refine o_nil ⟨rfl, ⟨_, (by repeat (first | exact Split.nil | (apply Split.cons; next => repeat (first | exact Pick.here | apply Pick.there))))⟩, ?_⟩
        refine x_g y rfl rfl ?_
        refine x_rd (rd_eqA rfl rfl rfl) rfl ?_
        exact x_nil ⟨rfl, ⟨_, (by repeat (first | exact Split.nil | (apply Split.cons; next => repeat (first | exact Pick.here | apply Pick.there))))⟩⟩
      refine x_nil ?_
      refine p_all ?_
      refine x_rd (rd_assign rfl) rfl ?_
      refine x_nil ?_
      refine p_end ?_
      refine n_K ?_
      refine s_ret ?_
      refine leaf_is (rets1 Try.results5 (rv_tmp rfl)) ?_ (by repeat (first | exact Split.nil | (apply Split.cons; next => repeat (first | exact Pick.here | apply Pick.there))))
      first | rfl | (simp; done) | simp [u64_wrap (show 0 ≤ n + 2 by omega) (by omega), has_own hc, has_both]
end Go.Proofs.Ytocfdkjoklgecaa
