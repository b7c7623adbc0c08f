/- The laws of views, walked. -/
import Derived.Test.YtocfdkjoklgecaaV1
namespace Go.Proofs.Ytocfdkjoklgecaa
open Go.K
set_option linter.unusedVariables false
set_option linter.unusedSimpArgs false

theorem speaks_fn : Does Try.prog 10 [] [] (Is (.bool true) []) := by
  refine fn_enter (n := 31) Try.func10 Try.ntmps10 rfl (Nat.le_of_ble_eq_true rfl) ?_
  refine s_seq ?_
  refine s_region0 (fun ops => ?_)
  refine o_rd (rd_assign rfl) rfl ?_
  refine o_nil ?_
  refine n_K ?_
  refine s_seq ?_
  refine s_region0 (fun ops => ?_)
  refine o_rd (rd_build_s rfl rfl) rfl ?_
  refine o_call_is rfl (shrink_fn) (by repeat' first | exact Split.nil | apply Split.cons | exact Pick.here | apply Pick.there) rfl rfl ?_
  refine o_rd (rd_move rfl) rfl ?_
  refine o_rd (rd_extract rfl rfl) rfl ?_
  refine o_rd (rd_extract rfl rfl) rfl ?_
  refine o_alloc rfl (fun b1 => ?_)
  refine o_store rfl rfl (by repeat' first | exact Upd.here | apply Upd.there) rfl rfl rfl ?_
  refine o_rd (rd_assign rfl) rfl ?_
  refine o_nil ?_
  refine n_K ?_
  refine s_seq ?_
  refine s_region0 (fun ops => ?_)
  refine o_rd (rd_ldA rfl (by repeat' first | exact List.Mem.head _ | apply List.Mem.tail) rfl) rfl ?_
  refine o_call_is rfl (grow_fn) (by repeat' first | exact Split.nil | apply Split.cons | exact Pick.here | apply Pick.there) rfl rfl ?_
  refine o_rd (rd_move rfl) rfl ?_
  refine o_rd (rd_extract rfl rfl) rfl ?_
  refine o_rd (rd_extract rfl rfl) rfl ?_
  refine o_alloc rfl (fun b3 => ?_)
  refine o_store rfl rfl (by repeat' first | exact Upd.here | apply Upd.there) rfl rfl rfl ?_
  refine o_rd (rd_assign rfl) rfl ?_
  refine o_nil ?_
  refine n_K ?_
  refine s_seq ?_
  refine s_region [(2, 17), (6, 21), (11, 26)] rfl (fun ops y => ?_)
  refine o_rd (rd_move rfl) rfl ?_
  refine o_rd (rd_bin rfl rfl rfl) rfl ?_
  refine o_rd (rd_move rfl) rfl ?_
  refine' o_and (j := 2) (k := 2) y rfl rfl rfl rfl rfl rfl rfl (fun hg17 => ?b20) ?k20
  case b20 =>
    try simp at hg17
    refine o_g y rfl rfl ?_
    refine o_rd (rd_move rfl) rfl ?_
    refine o_g y rfl rfl ?_
    refine o_rd (rd_bin rfl rfl rfl) rfl ?_
    exact o_nil ⟨rfl, rfl, ⟨_, (by repeat' first | exact Split.nil | apply Split.cons | exact Pick.here | apply Pick.there)⟩⟩
  refine o_rd (rd_move rfl) rfl ?_
  refine' o_and (j := 6) (k := 3) y rfl rfl rfl rfl rfl rfl rfl (fun hg21 => ?b25) ?k25
  case b25 =>
    try simp at hg21
    refine o_g y rfl rfl ?_
    refine o_rd (rd_ldA rfl (by repeat' first | exact List.Mem.head _ | apply List.Mem.tail) rfl) rfl ?_
    refine o_g y rfl rfl ?_
    refine o_rd (rd_build_s rfl rfl) rfl ?_
    refine o_g y rfl rfl ?_
    refine o_rd (rd_eqA rfl rfl rfl) rfl ?_
    exact o_nil ⟨rfl, rfl, ⟨_, (by repeat' first | exact Split.nil | apply Split.cons | exact Pick.here | apply Pick.there)⟩⟩
  refine o_rd (rd_move rfl) rfl ?_
  refine' o_and (j := 11) (k := 3) y rfl rfl rfl rfl rfl rfl rfl (fun hg26 => ?b30) ?k30
  case b30 =>
    try simp at hg26
    refine o_g y rfl rfl ?_
    refine o_rd (rd_ldA rfl (by repeat' first | exact List.Mem.head _ | apply List.Mem.tail) rfl) rfl ?_
    refine o_g y rfl rfl ?_
    refine o_rd (rd_build_s rfl rfl) rfl ?_
    refine o_g y rfl rfl ?_
    refine o_rd (rd_eqA rfl rfl rfl) rfl ?_
    exact o_nil ⟨rfl, rfl, ⟨_, (by repeat' first | exact Split.nil | apply Split.cons | exact Pick.here | apply Pick.there)⟩⟩
  refine o_rd (rd_assign rfl) rfl ?_
  refine o_nil ?_
  refine n_K ?_
  refine s_ret ?_
  refine leaf_is (rets1 Try.results10 (rv_tmp rfl)) ?_ (by repeat' first | exact Split.nil | apply Split.cons | exact Pick.here | apply Pick.there)
  kernel_rfl

theorem steps_fn {n m b base : Int} {bl o c : Nat} {cs : List Value} {T : TypeId} {fr : Nat × Nat} {xs : List Int} (hx : Ints cs o xs) (hl : xs.length ≤ 9223372036854775807) :
    Does Try.prog 3 [vv n m b, .slice (some ⟨bl, o, none⟩) xs.length c, .int .u64 base] [(bl, false, CF cs T fr)] (Is (.bool true) [(bl, false, CF cs T fr)]) := by
  refine fn_enter (n := 95) Try.func3 Try.ntmps3 rfl (Nat.le_of_ble_eq_true rfl) ?_
  refine s_seq ?_
  refine s_region0 (fun ops => ?_)
  refine o_box rfl rfl (fun b3 => ?_)
  refine o_rd (rd_assign rfl) rfl ?_
  refine o_nil ?_
  refine n_K ?_
  refine s_seq ?_
  refine s_seq ?_
  refine s_region0 (fun ops => ?_)
  refine o_call_is rfl (speaks_fn) (by repeat' first | exact Split.nil | apply Split.cons | exact Pick.here | apply Pick.there) rfl rfl ?_
  refine o_rd (rd_not rfl) rfl ?_
  refine o_nil ?_
  refine n_K ?_
  refine s_condF rfl ?_
  refine s_skip ?_
  refine n_K ?_
  refine s_seq ?_
  refine s_seq ?_
  refine s_region0 (fun ops => ?_)
  refine o_rd (rd_move rfl) rfl ?_
  refine o_rd (rd_lenS rfl) rfl ?_
  refine o_rd (rd_bin rfl rfl rfl) rfl ?_
  refine o_nil ?_
  refine n_K ?_
  refine s_cond rfl (fun c22 => ?_) (fun c22 => ?_)
  · try simp at c22
    refine s_seq ?_
    refine s_region0 (fun ops => ?_)
    refine o_rd (rd_assign rfl) rfl ?_
    refine o_nil ?_
    refine n_K ?_
    refine s_ret ?_
    refine r_K ?_
    refine leaf_is (rets1 Try.results3 (rv_tmp rfl)) ?_ (by repeat' first | exact Split.nil | apply Split.cons | exact Pick.here | apply Pick.there)
    first | rfl | simp [h2, List.take_of_length_le (show xs.length ≤ i.toNat by omega)]
  · try simp at c22
    refine s_skip ?_
    refine n_K ?_
    refine s_seq ?_
    refine s_region0 (fun ops => ?_)
    refine o_rd (rd_assign rfl) rfl ?_
    refine o_nil ?_
    refine n_K ?_
    refine s_seq ?_
    refine s_seq ?_
    refine s_region0 (fun ops => ?_)
    refine o_rd (rd_move rfl) rfl ?_
    refine o_rd (rd_lenS rfl) rfl ?_
    refine o_rd (rd_move rfl) rfl ?_
    refine o_nil ?_
    refine n_K ?_
    refine s_block ?_
    refine s_loop2E [1, 2, 3, 23, 24] (by repeat' first | exact Keep2.nil | apply Keep2.cons rfl) (fun (s : Int × Bool) => [(25, .int .i64 s.1), (7, .bool s.2)]) (fun (s : Int × Bool) => 0 ≤ s.1 ∧ s.1 ≤ xs.length ∧ s.2 = hasB m (xs.take s.1.toNat)) (fun (s : Int × Bool) => ((xs.length : Int) - s.1).toNat) (((0 : Int), true)) ⟨by simp, by simp, by simp [hasB]⟩ (by repeat' first | exact Keep.nil | refine Keep.cons rfl ?_) ?_
    rintro ⟨i, q⟩ ⟨h0, h1, h2⟩
    simp only at h0 h1 h2
    refine s_seq ?_
    refine s_region0 (fun ops => ?_)
    refine o_rd (rd_bin rfl rfl rfl) rfl ?_
    refine o_nil ?_
    refine n_K ?_
    refine s_seq ?_
    refine s_cond rfl (fun c26 => ?_) (fun c26 => ?_)
    · try simp at c26
      refine s_skip ?_
      refine n_K ?_
      refine s_seq ?_
      refine s_block ?_
      refine s_seq ?_
      refine s_region0 (fun ops => ?_)
      refine o_rd (rd_ixS rfl rfl (by omega)) rfl ?_
      refine o_rd (rd_ld rfl (by repeat' first | exact List.Mem.head _ | apply List.Mem.tail) (hx i h0 c26)) rfl ?_
      refine o_rd (rd_assign rfl) rfl ?_
      refine o_nil ?_
      refine n_K ?_
      refine s_seq ?_
      refine s_region [(1, 30)] rfl (fun ops y => ?_)
      refine o_rd (rd_move rfl) rfl ?_
      refine o_rd (rd_move rfl) rfl ?_
      refine' o_and (j := 1) (k := 3) y rfl rfl rfl rfl rfl rfl rfl (fun hg30 => ?b34) ?k34
      case b34 =>
        try simp at hg30
        refine o_g y rfl rfl ?_
        refine o_rd (rd_ldA rfl (by repeat' first | exact List.Mem.head _ | apply List.Mem.tail) rfl) rfl ?_
        refine o_g y rfl rfl ?_
        refine o_rd (rd_move rfl) rfl ?_
        refine o_g y rfl rfl ?_
        refine o_call_is rfl (rhas_fn) (by repeat' first | exact Split.nil | apply Split.cons | exact Pick.here | apply Pick.there) rfl rfl ?_
        exact o_nil ⟨rfl, rfl, ⟨_, (by repeat' first | exact Split.nil | apply Split.cons | exact Pick.here | apply Pick.there)⟩⟩
      refine o_rd (rd_assign rfl) rfl ?_
      refine o_nil ?_
      refine n_K ?_
      refine s_seq ?_
      refine s_region0 (fun ops => ?_)
      refine o_rd (rd_ldA rfl (by repeat' first | exact List.Mem.head _ | apply List.Mem.tail) rfl) rfl ?_
      refine o_rd (rd_move rfl) rfl ?_
      refine o_rd (rd_move rfl) rfl ?_
      refine o_call_is rfl (shrink_fn) (by repeat' first | exact Split.nil | apply Split.cons | exact Pick.here | apply Pick.there) rfl rfl ?_
      refine o_rd (rd_move rfl) rfl ?_
      refine o_rd (rd_extract rfl rfl) rfl ?_
      refine o_rd (rd_extract rfl rfl) rfl ?_
      refine o_alloc rfl (fun b10 => ?_)
      refine o_store rfl rfl (by repeat' first | exact Upd.here | apply Upd.there) rfl rfl rfl ?_
      refine o_rd (rd_assign rfl) rfl ?_
      refine o_nil ?_
      refine n_K ?_
      refine s_seq ?_
      refine s_region0 (fun ops => ?_)
      refine o_rd (rd_ldA rfl (by repeat' first | exact List.Mem.head _ | apply List.Mem.tail) rfl) rfl ?_
      refine o_rd (rd_move rfl) rfl ?_
      refine o_rd (rd_move rfl) rfl ?_
      refine o_call_is rfl (rshrink_fn) (by repeat' first | exact Split.nil | apply Split.cons | exact Pick.here | apply Pick.there) rfl rfl ?_
      refine o_rd (rd_move rfl) rfl ?_
      refine o_rd (rd_extract rfl rfl) rfl ?_
      refine o_rd (rd_extract rfl rfl) rfl ?_
      refine o_alloc rfl (fun b12 => ?_)
      refine o_store rfl rfl (by repeat' first | exact Upd.here | apply Upd.there) rfl rfl rfl ?_
      refine o_rd (rd_assign rfl) rfl ?_
      refine o_nil ?_
      refine n_K ?_
      refine s_seq ?_
      refine s_draw [(3, 52), (8, 57)] [(8, [(0, false), (1, false), (2, false), (3, false), (4, false), (5, false), (6, false), (7, false)]), (18, [(8, false), (9, false), (10, false), (13, false), (14, false), (11, true), (12, true), (15, true), (16, false), (17, false)])] (by kernel_rfl) rfl (fun ops w0 H0 y => ?_)
      refine p_all ?_
      refine x_rd (rd_ldA rfl (by repeat' first | exact List.Mem.head _ | apply List.Mem.tail) rfl) rfl ?_
      refine x_rd (rd_ldA rfl (by repeat' first | exact List.Mem.head _ | apply List.Mem.tail) rfl) rfl ?_
      refine x_rd (rd_neA rfl rfl rfl) rfl ?_
      refine x_rd (rd_move rfl) rfl ?_
      refine' x_or (j := 3) (k := 3) y rfl rfl rfl rfl rfl rfl rfl (fun hg52 => ?b56) ?k56
      case b56 =>
        try simp at hg52
        refine x_g y rfl rfl ?_
        refine x_rd (rd_move rfl) rfl ?_
        refine x_g y rfl rfl ?_
        refine x_rd (rd_move rfl) rfl ?_
        refine x_g y rfl rfl ?_
        refine x_rd (rd_bin rfl rfl rfl) rfl ?_
        exact x_nil ⟨rfl, ⟨_, (by repeat' first | exact Split.nil | apply Split.cons | exact Pick.here | apply Pick.there)⟩⟩
      refine x_nil ?_
      refine p_all ?_
      refine x_rd (rd_move rfl) rfl ?_
      refine' x_or (j := 8) (k := 8) y rfl rfl rfl rfl rfl rfl rfl (fun hg57 => ?b66) ?k66
      case b66 =>
        try simp at hg57
        refine x_g y rfl rfl ?_
        refine x_rd (rd_ldA rfl (by repeat' first | exact List.Mem.head _ | apply List.Mem.tail) rfl) rfl ?_
        refine x_g y rfl rfl ?_
        refine x_rd (rd_move rfl) rfl ?_
        refine x_g y rfl rfl ?_
        refine x_rd (rd_ldA rfl (by repeat' first | exact List.Mem.head _ | apply List.Mem.tail) rfl) rfl ?_
        refine x_g y rfl rfl ?_
        refine x_rd (rd_move rfl) rfl ?_
        refine x_g y rfl rfl ?_
        refine x_so ?_
        refine o_bslice_k rfl rfl rfl rfl (fun b60 => ?_)
        refine o_nil ⟨rfl, ⟨_, (by repeat' first | exact Split.nil | apply Split.cons | exact Pick.here | apply Pick.there)⟩, ?_⟩
        refine x_g y rfl rfl ?_
        refine x_so ?_
        refine o_call_is rfl (has1_fn) (by repeat' first | exact Split.nil | apply Split.cons | exact Pick.here | apply Pick.there) rfl rfl ?_
        refine o_nil ⟨rfl, ⟨_, (by repeat' first | exact Split.nil | apply Split.cons | exact Pick.here | apply Pick.there)⟩, ?_⟩
        refine x_g y rfl rfl ?_
        refine x_so ?_
        refine o_call_is rfl (rhas_fn) (by repeat' first | exact Split.nil | apply Split.cons | exact Pick.here | apply Pick.there) rfl rfl ?_
        refine o_nil ⟨rfl, ⟨_, (by repeat' first | exact Split.nil | apply Split.cons | exact Pick.here | apply Pick.there)⟩, ?_⟩
        refine x_g y rfl rfl ?_
        refine x_rd (rd_neB rfl rfl) rfl ?_
        exact x_nil ⟨rfl, ⟨_, (by repeat' first | exact Split.nil | apply Split.cons | exact Pick.here | apply Pick.there)⟩⟩
      refine x_nil ?_
      refine p_end ?_
      refine n_K ?_
      refine s_cond rfl (fun c66 => ?_) (fun c66 => ?_)
      · try simp at c66
        simp [hasB] at c66
      · try simp at c66
        refine s_skip ?_
        refine n_blk ?_
        refine n_K ?_
        refine s_region0 (fun ops => ?_)
        refine o_rd (rd_add64 rfl rfl (by omega)) rfl ?_
        refine o_rd (rd_move rfl) rfl ?_
        refine o_nil ?_
        refine n_K ?_
        exact ⟨(i + 1, q && !outI m (at0 xs i)), ⟨by simp; omega, by simp; omega, by simp only [h2, take_succ_at xs i h0 c26]; simp [hasB]⟩, (by simp; omega), (by repeat' first | exact Keep.nil | refine Keep.cons rfl ?_), (by repeat' first | exact Keep.nil | refine Keep.cons rfl ?_), _, (by repeat' first | exact Split.nil | apply Split.cons | exact Pick.here | apply Pick.there)⟩
    · try simp at c26
      refine s_exit ?_
      refine x_K ?_
      refine x_K ?_
      refine x_blk ?_
      refine n_K ?_
      refine s_seq ?_
      refine s_region0 (fun ops => ?_)
      refine o_rd (rd_ldA rfl (by repeat' first | exact List.Mem.head _ | apply List.Mem.tail) rfl) rfl ?_
      refine o_rd (rd_move rfl) rfl ?_
      refine o_call_is rfl (grow_fn) (by repeat' first | exact Split.nil | apply Split.cons | exact Pick.here | apply Pick.there) rfl rfl ?_
      refine o_rd (rd_move rfl) rfl ?_
      refine o_rd (rd_extract rfl rfl) rfl ?_
      refine o_rd (rd_extract rfl rfl) rfl ?_
      refine o_alloc rfl (fun b14 => ?_)
      refine o_store rfl rfl (by repeat' first | exact Upd.here | apply Upd.there) rfl rfl rfl ?_
      refine o_rd (rd_assign rfl) rfl ?_
      refine o_nil ?_
      refine n_K ?_
      refine s_seq ?_
      refine s_region0 (fun ops => ?_)
      refine o_rd (rd_ldA rfl (by repeat' first | exact List.Mem.head _ | apply List.Mem.tail) rfl) rfl ?_
      refine o_rd (rd_move rfl) rfl ?_
      refine o_call_is rfl (rgrow_fn) (by repeat' first | exact Split.nil | apply Split.cons | exact Pick.here | apply Pick.there) rfl rfl ?_
      refine o_rd (rd_move rfl) rfl ?_
      refine o_rd (rd_extract rfl rfl) rfl ?_
      refine o_rd (rd_extract rfl rfl) rfl ?_
      refine o_alloc rfl (fun b16 => ?_)
      refine o_store rfl rfl (by repeat' first | exact Upd.here | apply Upd.there) rfl rfl rfl ?_
      refine o_rd (rd_assign rfl) rfl ?_
      refine o_nil ?_
      refine n_K ?_
      refine s_seq ?_
      refine s_region [(3, 83), (8, 88)] rfl (fun ops y => ?_)
      refine o_rd (rd_ldA rfl (by repeat' first | exact List.Mem.head _ | apply List.Mem.tail) rfl) rfl ?_
      refine o_rd (rd_ldA rfl (by repeat' first | exact List.Mem.head _ | apply List.Mem.tail) rfl) rfl ?_
      refine o_rd (rd_eqA rfl rfl rfl) rfl ?_
      refine o_rd (rd_move rfl) rfl ?_
      refine' o_and (j := 3) (k := 3) y rfl rfl rfl rfl rfl rfl rfl (fun hg83 => ?b87) ?k87
      case b87 =>
        try simp at hg83
        refine o_g y rfl rfl ?_
        refine o_rd (rd_move rfl) rfl ?_
        refine o_g y rfl rfl ?_
        refine o_rd (rd_move rfl) rfl ?_
        refine o_g y rfl rfl ?_
        refine o_rd (rd_bin rfl rfl rfl) rfl ?_
        exact o_nil ⟨rfl, rfl, ⟨_, (by repeat' first | exact Split.nil | apply Split.cons | exact Pick.here | apply Pick.there)⟩⟩
      refine o_rd (rd_move rfl) rfl ?_
      refine' o_and (j := 8) (k := 5) y rfl rfl rfl rfl rfl rfl rfl (fun hg88 => ?b94) ?k94
      case b94 =>
        try simp at hg88
        refine o_g y rfl rfl ?_
        refine o_rd (rd_ldA rfl (by repeat' first | exact List.Mem.head _ | apply List.Mem.tail) rfl) rfl ?_
        refine o_g y rfl rfl ?_
        refine o_rd (rd_move rfl) rfl ?_
        refine o_g y rfl rfl ?_
        refine o_call_is rfl (has_fn hx (by omega)) (by repeat' first | exact Split.nil | apply Split.cons | exact Pick.here | apply Pick.there) rfl rfl ?_
        refine o_g y rfl rfl ?_
        refine o_rd (rd_move rfl) rfl ?_
        refine o_g y rfl rfl ?_
        refine o_rd (rd_eqB rfl rfl) rfl ?_
        exact o_nil ⟨rfl, rfl, ⟨_, (by repeat' first | exact Split.nil | apply Split.cons | exact Pick.here | apply Pick.there)⟩⟩
      refine o_rd (rd_assign rfl) rfl ?_
      refine o_nil ?_
      refine n_K ?_
      refine s_ret ?_
      refine leaf_is (rets1 Try.results3 (rv_tmp rfl)) ?_ (by repeat' first | exact Split.nil | apply Split.cons | exact Pick.here | apply Pick.there)
      first | rfl | simp [h2, List.take_of_length_le (show xs.length ≤ i.toNat by omega)]
theorem steps_nil {n m b base : Int} {p : Option Addr} {c : Nat} :
    Does Try.prog 3 [vv n m b, .slice p 0 c, .int .u64 base] [] (Is (.bool true) []) := by
  refine fn_enter (n := 95) Try.func3 Try.ntmps3 rfl (Nat.le_of_ble_eq_true rfl) ?_
  refine s_seq ?_
  refine s_region0 (fun ops => ?_)
  refine o_box rfl rfl (fun b3 => ?_)
  refine o_rd (rd_assign rfl) rfl ?_
  refine o_nil ?_
  refine n_K ?_
  refine s_seq ?_
  refine s_seq ?_
  refine s_region0 (fun ops => ?_)
  refine o_call_is rfl (speaks_fn) (by repeat' first | exact Split.nil | apply Split.cons | exact Pick.here | apply Pick.there) rfl rfl ?_
  refine o_rd (rd_not rfl) rfl ?_
  refine o_nil ?_
  refine n_K ?_
  refine s_condF rfl ?_
  refine s_skip ?_
  refine n_K ?_
  refine s_seq ?_
  refine s_seq ?_
  refine s_region0 (fun ops => ?_)
  refine o_rd (rd_move rfl) rfl ?_
  refine o_rd (rd_lenS rfl) rfl ?_
  refine o_rd (rd_bin rfl rfl rfl) rfl ?_
  refine o_nil ?_
  refine n_K ?_
  refine s_cond rfl (fun c22 => ?_) (fun c22 => ?_)
  · skip
    simp at c22
  · skip
    refine s_skip ?_
    refine n_K ?_
    refine s_seq ?_
    refine s_region0 (fun ops => ?_)
    refine o_rd (rd_assign rfl) rfl ?_
    refine o_nil ?_
    refine n_K ?_
    refine s_seq ?_
    refine s_seq ?_
    refine s_region0 (fun ops => ?_)
    refine o_rd (rd_move rfl) rfl ?_
    refine o_rd (rd_lenS rfl) rfl ?_
    refine o_rd (rd_move rfl) rfl ?_
    refine o_nil ?_
    refine n_K ?_
    refine s_block ?_
    refine s_loop2E [1, 2, 3, 7, 23, 24] (by repeat' first | exact Keep2.nil | apply Keep2.cons rfl) (fun s => [(25, .int .i64 0)]) (fun s => True) (fun s => 0) (()) (by first | trivial | omega | simp) (by repeat' first | exact Keep.nil | refine Keep.cons rfl ?_) ?_
    rintro i _
    refine s_seq ?_
    refine s_region0 (fun ops => ?_)
    refine o_rd (rd_bin rfl rfl rfl) rfl ?_
    refine o_nil ?_
    refine n_K ?_
    refine s_seq ?_
    refine s_cond rfl (fun c26 => ?_) (fun c26 => ?_)
    · skip
      simp at c26
    · skip
      refine s_exit ?_
      refine x_K ?_
      refine x_K ?_
      refine x_blk ?_
      refine n_K ?_
      refine s_seq ?_
      refine s_region0 (fun ops => ?_)
      refine o_rd (rd_ldA rfl (by repeat' first | exact List.Mem.head _ | apply List.Mem.tail) rfl) rfl ?_
      refine o_rd (rd_move rfl) rfl ?_
      refine o_call_is rfl (grow_fn) (by repeat' first | exact Split.nil | apply Split.cons | exact Pick.here | apply Pick.there) rfl rfl ?_
      refine o_rd (rd_move rfl) rfl ?_
      refine o_rd (rd_extract rfl rfl) rfl ?_
      refine o_rd (rd_extract rfl rfl) rfl ?_
      refine o_alloc rfl (fun b14 => ?_)
      refine o_store rfl rfl (by repeat' first | exact Upd.here | apply Upd.there) rfl rfl rfl ?_
      refine o_rd (rd_assign rfl) rfl ?_
      refine o_nil ?_
      refine n_K ?_
      refine s_seq ?_
      refine s_region0 (fun ops => ?_)
      refine o_rd (rd_ldA rfl (by repeat' first | exact List.Mem.head _ | apply List.Mem.tail) rfl) rfl ?_
      refine o_rd (rd_move rfl) rfl ?_
      refine o_call_is rfl (rgrow_fn) (by repeat' first | exact Split.nil | apply Split.cons | exact Pick.here | apply Pick.there) rfl rfl ?_
      refine o_rd (rd_move rfl) rfl ?_
      refine o_rd (rd_extract rfl rfl) rfl ?_
      refine o_rd (rd_extract rfl rfl) rfl ?_
      refine o_alloc rfl (fun b16 => ?_)
      refine o_store rfl rfl (by repeat' first | exact Upd.here | apply Upd.there) rfl rfl rfl ?_
      refine o_rd (rd_assign rfl) rfl ?_
      refine o_nil ?_
      refine n_K ?_
      refine s_seq ?_
      refine s_region [(3, 83), (8, 88)] rfl (fun ops y => ?_)
      refine o_rd (rd_ldA rfl (by repeat' first | exact List.Mem.head _ | apply List.Mem.tail) rfl) rfl ?_
      refine o_rd (rd_ldA rfl (by repeat' first | exact List.Mem.head _ | apply List.Mem.tail) rfl) rfl ?_
      refine o_rd (rd_eqA rfl rfl rfl) rfl ?_
      refine o_rd (rd_move rfl) rfl ?_
      refine' o_and (j := 3) (k := 3) y rfl rfl rfl rfl rfl rfl rfl (fun hg83 => ?b87) ?k87
      case b87 =>
        try simp at hg83
        refine o_g y rfl rfl ?_
        refine o_rd (rd_move rfl) rfl ?_
        refine o_g y rfl rfl ?_
        refine o_rd (rd_move rfl) rfl ?_
        refine o_g y rfl rfl ?_
        refine o_rd (rd_bin rfl rfl rfl) rfl ?_
        exact o_nil ⟨rfl, rfl, ⟨_, (by repeat' first | exact Split.nil | apply Split.cons | exact Pick.here | apply Pick.there)⟩⟩
      refine o_rd (rd_move rfl) rfl ?_
      refine' o_and (j := 8) (k := 5) y rfl rfl rfl rfl rfl rfl rfl (fun hg88 => ?b94) ?k94
      case b94 =>
        try simp at hg88
        refine o_g y rfl rfl ?_
        refine o_rd (rd_ldA rfl (by repeat' first | exact List.Mem.head _ | apply List.Mem.tail) rfl) rfl ?_
        refine o_g y rfl rfl ?_
        refine o_rd (rd_move rfl) rfl ?_
        refine o_g y rfl rfl ?_
        refine o_call_is rfl (has_nil) (by repeat' first | exact Split.nil | apply Split.cons | exact Pick.here | apply Pick.there) rfl rfl ?_
        refine o_g y rfl rfl ?_
        refine o_rd (rd_move rfl) rfl ?_
        refine o_g y rfl rfl ?_
        refine o_rd (rd_eqB rfl rfl) rfl ?_
        exact o_nil ⟨rfl, rfl, ⟨_, (by repeat' first | exact Split.nil | apply Split.cons | exact Pick.here | apply Pick.there)⟩⟩
      refine o_rd (rd_assign rfl) rfl ?_
      refine o_nil ?_
      refine n_K ?_
      refine s_ret ?_
      refine leaf_is (rets1 Try.results3 (rv_tmp rfl)) ?_ (by repeat' first | exact Split.nil | apply Split.cons | exact Pick.here | apply Pick.there)
      first | rfl | simp
end Go.Proofs.Ytocfdkjoklgecaa
