/- Walks of math/bits, of package ham. -/
import Derived.Test.YtdfidkhbldedlaaGreatP2
namespace Go.Proofs.YtdfidkhbldedlaaGreat
open Go.K
set_option linter.unusedVariables false
set_option linter.unusedSimpArgs false
instance und142 : Und Tryz.prog 142 (.array 256 5) := ⟨Tryz.underlying142⟩
instance agg142 : Agg Tryz.prog 142 true := ⟨⟨_, Tryz.underlying142, rfl⟩⟩
instance siz142 : Siz Tryz.prog 142 256 := ⟨by kernel_rfl⟩
instance und146 : Und Tryz.prog 146 (.int .u16) := ⟨Tryz.underlying146⟩
instance agg146 : Agg Tryz.prog 146 false := ⟨⟨_, Tryz.underlying146, rfl⟩⟩
instance siz146 : Siz Tryz.prog 146 1 := ⟨by kernel_rfl⟩
instance und162 : Und Tryz.prog 162 (.int .u64) := ⟨Tryz.underlying162⟩
instance agg162 : Agg Tryz.prog 162 false := ⟨⟨_, Tryz.underlying162, rfl⟩⟩
instance siz162 : Siz Tryz.prog 162 1 := ⟨by kernel_rfl⟩
instance zer142 : Zer Tryz.prog 142 (List.replicate 256 (.int .u8 0)) := ⟨by kernel_rfl⟩
instance ent97 : Ent Tryz.prog 97 := ⟨fun _ _ => by kernel_rfl⟩
instance ent104 : Ent Tryz.prog 104 := ⟨fun _ _ => by kernel_rfl⟩
instance ent105 : Ent Tryz.prog 105 := ⟨fun _ _ => by kernel_rfl⟩
instance ent112 : Ent Tryz.prog 112 := ⟨fun _ _ => by kernel_rfl⟩
instance ent113 : Ent Tryz.prog 113 := ⟨fun _ _ => by kernel_rfl⟩
instance ent115 : Ent Tryz.prog 115 := ⟨fun _ _ => by kernel_rfl⟩
instance ent116 : Ent Tryz.prog 116 := ⟨fun _ _ => by kernel_rfl⟩
instance ent119 : Ent Tryz.prog 119 := ⟨fun _ _ => by kernel_rfl⟩
instance ent121 : Ent Tryz.prog 121 := ⟨fun _ _ => by kernel_rfl⟩
instance ent132 : Ent Tryz.prog 132 := ⟨fun _ _ => by kernel_rfl⟩

abbrev tDa : TypeId := 142
abbrev tPg : TypeId := 58
theorem ones16_fn {n : Nat} (hn : n < 65536) : Does Tryz.prog 104 [.int .u16 (n : Nat)] [] (Is (.int .i64 (popN n : Nat)) []) := by
  have h1 : n / 256 < 256 := by omega
  have h2 : (BitVec.ofNat 8 (n / 256)).toNat = n / 256 := by simp; omega
  have h3 : (BitVec.ofNat 8 (n % 256)).toNat = n % 256 := by simp
  have t1 := pop_tab (BitVec.ofNat 8 (n / 256))
  have t2 := pop_tab (BitVec.ofNat 8 (n % 256))
  rw [h2] at t1
  rw [h3] at t2
  refine fn_enter (n := 11) Tryz.func104 Tryz.ntmps104 rfl (Nat.le_of_ble_eq_true rfl) ?_
  refine s_seq ?_
  refine s_region0 (fun ops => ?_)
  refine o_rd (rd_assign rfl) rfl ?_
  refine o_nil ?_
  refine n_K ?_
  refine s_seq ?_
  refine s_draw [] [(9, [(0, false), (1, false), (2, false), (3, false), (4, false), (5, false), (6, false), (7, false), (8, false)])] (by kernel_rfl) rfl (fun ops w0 H0 y => ?_)
  refine p_all ?_
  refine x_rd (rd_move rfl) rfl ?_
  refine x_rd (show Rd _ _ _ _ (.int .u16 ((n / 256 : Nat) : Int)) from rd_shrN (m := 8) rfl rfl rfl (by decide)) rfl ?_
  refine x_rd (rd_ixStr rfl rfl (by omega) t1) rfl ?_
  refine x_rd (rd_move rfl) rfl ?_
  refine x_rd (show Rd _ _ _ _ (.int .u16 ((n % 256 : Nat) : Int)) from by (rw [← Nat.and_two_pow_sub_one_eq_mod n 8]; exact rd_and16 (b := 255) rfl rfl hn (by omega))) rfl ?_
  refine x_rd (rd_ixStr rfl rfl (by omega) t2) rfl ?_
  refine x_rd (rd_bin rfl rfl rfl) rfl ?_
  refine x_rd (rd_convI rfl) rfl ?_
  refine x_rd (rd_assign rfl) rfl ?_
  refine x_nil ?_
  refine p_end ?_
  refine n_K ?_
  refine s_ret ?_
  refine leaf_is (rets1 Tryz.results104 (rv_tmp rfl)) ?_ (by repeat (first | exact Split.nil | (apply Split.cons; next => repeat (first | exact Pick.here | apply Pick.there | apply Pick.app)) | (apply Split.chunk; next => repeat (first | exact PickL.here | exact PickL.last | apply PickL.there | apply PickL.app)) | (apply Split.lst; repeat (first | exact PickL.here | exact PickL.last | apply PickL.there | apply PickL.app))))
  have p1 := pop8_le (BitVec.ofNat 8 (n / 256)); have p2 := pop8_le (BitVec.ofNat 8 (n % 256)); exact congrArg (Value.int .i64) (by rw [pop8_u8, pop8_u8, popN, ← Int.natCast_add, wrapN_u .u8 rfl (by show _ < 256; omega), wrapN_i (by omega)])
theorem ones64_fn {n : Nat} (hn : n < 4096) : Does Tryz.prog 121 [.int .u64 (n : Nat)] [] (Is (.int .i64 (popN n : Nat)) []) := by
  refine fn_enter (n := 35) Tryz.func121 Tryz.ntmps121 rfl (Nat.le_of_ble_eq_true rfl) ?_
  refine s_seq ?_
  refine s_region0 (fun ops => ?_)
  refine o_rd (rd_assign rfl) rfl ?_
  refine o_nil ?_
  refine n_K ?_
  refine s_seq ?_
  refine s_region0 (fun ops => ?_)
  refine o_rd (rd_move rfl) rfl ?_
  refine o_rd (rd_shr rfl rfl (by omega)) rfl ?_
  refine o_rd (rd_bin rfl rfl rfl) rfl ?_
  refine o_rd (rd_move rfl) rfl ?_
  refine o_rd (rd_bin rfl rfl rfl) rfl ?_
  refine o_rd (rd_bin rfl rfl rfl) rfl ?_
  refine o_rd (rd_assign rfl) rfl ?_
  refine o_nil ?_
  refine n_K ?_
  refine s_seq ?_
  refine s_region0 (fun ops => ?_)
  refine o_rd (rd_move rfl) rfl ?_
  refine o_rd (rd_shr rfl rfl (by omega)) rfl ?_
  refine o_rd (rd_bin rfl rfl rfl) rfl ?_
  refine o_rd (rd_move rfl) rfl ?_
  refine o_rd (rd_bin rfl rfl rfl) rfl ?_
  refine o_rd (rd_bin rfl rfl rfl) rfl ?_
  refine o_rd (rd_assign rfl) rfl ?_
  refine o_nil ?_
  refine n_K ?_
  refine s_seq ?_
  refine s_region0 (fun ops => ?_)
  refine o_rd (rd_move rfl) rfl ?_
  refine o_rd (rd_shr rfl rfl (by omega)) rfl ?_
  refine o_rd (rd_move rfl) rfl ?_
  refine o_rd (rd_bin rfl rfl rfl) rfl ?_
  refine o_rd (rd_bin rfl rfl rfl) rfl ?_
  refine o_rd (rd_assign rfl) rfl ?_
  refine o_nil ?_
  refine n_K ?_
  refine s_seq ?_
  refine s_region0 (fun ops => ?_)
  refine o_rd (rd_move rfl) rfl ?_
  refine o_rd (rd_move rfl) rfl ?_
  refine o_rd (rd_shr rfl rfl (by omega)) rfl ?_
  refine o_rd (rd_bin rfl rfl rfl) rfl ?_
  refine o_rd (rd_assign rfl) rfl ?_
  refine o_nil ?_
  refine n_K ?_
  refine s_seq ?_
  refine s_region0 (fun ops => ?_)
  refine o_rd (rd_move rfl) rfl ?_
  refine o_rd (rd_move rfl) rfl ?_
  refine o_rd (rd_shr rfl rfl (by omega)) rfl ?_
  refine o_rd (rd_bin rfl rfl rfl) rfl ?_
  refine o_rd (rd_assign rfl) rfl ?_
  refine o_nil ?_
  refine n_K ?_
  refine s_seq ?_
  refine s_region0 (fun ops => ?_)
  refine o_rd (rd_move rfl) rfl ?_
  refine o_rd (rd_move rfl) rfl ?_
  refine o_rd (rd_shr rfl rfl (by omega)) rfl ?_
  refine o_rd (rd_bin rfl rfl rfl) rfl ?_
  refine o_rd (rd_assign rfl) rfl ?_
  refine o_nil ?_
  refine n_K ?_
  refine s_seq ?_
  refine s_region0 (fun ops => ?_)
  refine o_rd (rd_move rfl) rfl ?_
  refine o_rd (rd_convI rfl) rfl ?_
  refine o_rd (rd_bin rfl rfl rfl) rfl ?_
  refine o_rd (rd_assign rfl) rfl ?_
  refine o_nil ?_
  refine n_K ?_
  refine s_ret ?_
  refine leaf_is (rets1 Tryz.results121 (rv_tmp rfl)) ?_ (by repeat (first | exact Split.nil | (apply Split.cons; next => repeat (first | exact Pick.here | apply Pick.there | apply Pick.app)) | (apply Split.chunk; next => repeat (first | exact PickL.here | exact PickL.last | apply PickL.there | apply PickL.app)) | (apply Split.lst; repeat (first | exact PickL.here | exact PickL.last | apply PickL.there | apply PickL.app))))
  exact congrArg (Value.int .i64) (swar_ok n hn)
theorem ones_fn {n : Nat} (hn : n < 4096) : Does Tryz.prog 113 [.int .u64 (n : Nat)] [] (Is (.int .i64 (popN n : Nat)) []) := by
  refine fn_enter (n := 8) Tryz.func113 Tryz.ntmps113 rfl (Nat.le_of_ble_eq_true rfl) ?_
  refine s_seq ?_
  refine s_region0 (fun ops => ?_)
  refine o_rd (rd_assign rfl) rfl ?_
  refine o_nil ?_
  refine n_K ?_
  refine s_seq ?_
  refine s_condF rfl ?_
  refine s_skip ?_
  refine n_K ?_
  refine s_seq ?_
  refine s_region0 (fun ops => ?_)
  refine o_rd (rd_move rfl) rfl ?_
  refine c_is rfl (ones64_fn hn) (by repeat (first | exact Split.nil | (apply Split.cons; next => repeat (first | exact Pick.here | apply Pick.there | apply Pick.app)) | (apply Split.chunk; next => repeat (first | exact PickL.here | exact PickL.last | apply PickL.there | apply PickL.app)) | (apply Split.lst; repeat (first | exact PickL.here | exact PickL.last | apply PickL.there | apply PickL.app)))) rfl (by repeat (first | exact Ap.nil | apply Ap.cons | apply Ap.app | exact Ap.one)) ?_
  refine o_rd (rd_assign rfl) rfl ?_
  refine o_nil ?_
  refine n_K ?_
  refine s_ret ?_
  refine leaf_is (rets1 Tryz.results113 (rv_tmp rfl)) ?_ (by repeat (first | exact Split.nil | (apply Split.cons; next => repeat (first | exact Pick.here | apply Pick.there | apply Pick.app)) | (apply Split.chunk; next => repeat (first | exact PickL.here | exact PickL.last | apply PickL.there | apply PickL.app)) | (apply Split.lst; repeat (first | exact PickL.here | exact PickL.last | apply PickL.there | apply PickL.app))))
  rfl
theorem len64_fn {n : Nat} (hn : n < 4096) : Does Tryz.prog 132 [.int .u64 (n : Nat)] [] (Is (.int .i64 (lenN n : Nat)) []) := by
  refine fn_enter (n := 25) Tryz.func132 Tryz.ntmps132 rfl (Nat.le_of_ble_eq_true rfl) ?_
  refine s_seq ?_
  refine s_region0 (fun ops => ?_)
  refine o_rd (rd_assign rfl) rfl ?_
  refine o_nil ?_
  refine n_K ?_
  refine s_seq ?_
  refine s_seq ?_
  refine s_region0 (fun ops => ?_)
  refine o_rd (rd_move rfl) rfl ?_
  refine o_rd (rd_bin rfl rfl rfl) rfl ?_
  refine o_nil ?_
  refine n_K ?_
  refine s_cond rfl (fun c4 => ?_) (fun c4 => ?_)
  · simp only [decide_eq_true_eq, decide_eq_false_iff_not] at c4
    omega
  · simp only [decide_eq_true_eq, decide_eq_false_iff_not] at c4
    refine s_skip ?_
    refine n_K ?_
    refine s_seq ?_
    refine s_seq ?_
    refine s_region0 (fun ops => ?_)
    refine o_rd (rd_move rfl) rfl ?_
    refine o_rd (rd_bin rfl rfl rfl) rfl ?_
    refine o_nil ?_
    refine n_K ?_
    refine s_cond rfl (fun c8 => ?_) (fun c8 => ?_)
    · simp only [decide_eq_true_eq, decide_eq_false_iff_not] at c8
      omega
    · simp only [decide_eq_true_eq, decide_eq_false_iff_not] at c8
      refine s_skip ?_
      refine n_K ?_
      refine s_seq ?_
      refine s_seq ?_
      refine s_region0 (fun ops => ?_)
      refine o_rd (rd_move rfl) rfl ?_
      refine o_rd (rd_bin rfl rfl rfl) rfl ?_
      refine o_nil ?_
      refine n_K ?_
      refine s_cond rfl (fun c14 => ?_) (fun c14 => ?_)
      · simp only [decide_eq_true_eq, decide_eq_false_iff_not] at c14
        have h8 : (BitVec.ofNat 8 (n / 256)).toNat = n / 256 := (by simp; omega)
        have t1 := len_tab (BitVec.ofNat 8 (n / 256))
        have t2 := len_i64 (BitVec.ofNat 8 (n / 256))
        rw [h8] at t1
        have t3 := len_hi n hn (by omega)
        have t4 := len8_le (BitVec.ofNat 8 (n / 256))
        refine s_seq ?_
        refine s_region0 (fun ops => ?_)
        refine o_rd (rd_move rfl) rfl ?_
        refine o_rd (show Rd _ _ _ _ (.int .u64 ((n / 256 : Nat) : Int)) from rd_shrN (m := 8) rfl rfl rfl (by decide)) rfl ?_
        refine o_rd (rd_assign rfl) rfl ?_
        refine o_nil ?_
        refine n_K ?_
        refine s_region0 (fun ops => ?_)
        refine o_rd (rd_move rfl) rfl ?_
        refine o_rd (rd_add64 rfl rfl (by omega)) rfl ?_
        refine o_rd (rd_assign rfl) rfl ?_
        refine o_nil ?_
        refine n_K ?_
        refine s_seq ?_
        refine s_region0 (fun ops => ?_)
        refine o_rd (rd_move rfl) rfl ?_
        refine o_rd (rd_move rfl) rfl ?_
        refine o_rd (rd_convN rfl (wrapN_u .u8 rfl (by show _ < 256; omega))) rfl ?_
        refine o_rd (rd_ixStr rfl rfl (by omega) t1) rfl ?_
        refine o_rd (rd_via t2 rfl) rfl ?_
        refine o_rd (rd_add64 rfl rfl (by omega)) rfl ?_
        refine o_rd (rd_assign rfl) rfl ?_
        refine o_nil ?_
        refine n_K ?_
        refine s_ret ?_
        refine leaf_is (rets1 Tryz.results132 (rv_tmp rfl)) ?_ (by repeat (first | exact Split.nil | (apply Split.cons; next => repeat (first | exact Pick.here | apply Pick.there | apply Pick.app)) | (apply Split.chunk; next => repeat (first | exact PickL.here | exact PickL.last | apply PickL.there | apply PickL.app)) | (apply Split.lst; repeat (first | exact PickL.here | exact PickL.last | apply PickL.there | apply PickL.app))))
        exact congrArg (Value.int .i64) (by omega)
      · simp only [decide_eq_true_eq, decide_eq_false_iff_not] at c14
        have h8 : (BitVec.ofNat 8 n).toNat = n := (by simp; omega)
        have t1 := len_tab (BitVec.ofNat 8 n)
        have t2 := len_i64 (BitVec.ofNat 8 n)
        rw [h8] at t1
        have t3 := len_lo n (by omega)
        have t4 := len8_le (BitVec.ofNat 8 n)
        refine s_skip ?_
        refine n_K ?_
        refine s_seq ?_
        refine s_region0 (fun ops => ?_)
        refine o_rd (rd_move rfl) rfl ?_
        refine o_rd (rd_move rfl) rfl ?_
        refine o_rd (rd_convN rfl (wrapN_u .u8 rfl (by show _ < 256; omega))) rfl ?_
        refine o_rd (rd_ixStr rfl rfl (by omega) t1) rfl ?_
        refine o_rd (rd_via t2 rfl) rfl ?_
        refine o_rd (rd_add64 rfl rfl (by omega)) rfl ?_
        refine o_rd (rd_assign rfl) rfl ?_
        refine o_nil ?_
        refine n_K ?_
        refine s_ret ?_
        refine leaf_is (rets1 Tryz.results132 (rv_tmp rfl)) ?_ (by repeat (first | exact Split.nil | (apply Split.cons; next => repeat (first | exact Pick.here | apply Pick.there | apply Pick.app)) | (apply Split.chunk; next => repeat (first | exact PickL.here | exact PickL.last | apply PickL.there | apply PickL.app)) | (apply Split.lst; repeat (first | exact PickL.here | exact PickL.last | apply PickL.there | apply PickL.app))))
        exact congrArg (Value.int .i64) (by omega)
theorem len_fn {n : Nat} (hn : n < 4096) : Does Tryz.prog 115 [.int .u64 (n : Nat)] [] (Is (.int .i64 (lenN n : Nat)) []) := by
  refine fn_enter (n := 8) Tryz.func115 Tryz.ntmps115 rfl (Nat.le_of_ble_eq_true rfl) ?_
  refine s_seq ?_
  refine s_region0 (fun ops => ?_)
  refine o_rd (rd_assign rfl) rfl ?_
  refine o_nil ?_
  refine n_K ?_
  refine s_seq ?_
  refine s_condF rfl ?_
  refine s_skip ?_
  refine n_K ?_
  refine s_seq ?_
  refine s_region0 (fun ops => ?_)
  refine o_rd (rd_move rfl) rfl ?_
  refine c_is rfl (len64_fn hn) (by repeat (first | exact Split.nil | (apply Split.cons; next => repeat (first | exact Pick.here | apply Pick.there | apply Pick.app)) | (apply Split.chunk; next => repeat (first | exact PickL.here | exact PickL.last | apply PickL.there | apply PickL.app)) | (apply Split.lst; repeat (first | exact PickL.here | exact PickL.last | apply PickL.there | apply PickL.app)))) rfl (by repeat (first | exact Ap.nil | apply Ap.cons | apply Ap.app | exact Ap.one)) ?_
  refine o_rd (rd_assign rfl) rfl ?_
  refine o_nil ?_
  refine n_K ?_
  refine s_ret ?_
  refine leaf_is (rets1 Tryz.results115 (rv_tmp rfl)) ?_ (by repeat (first | exact Split.nil | (apply Split.cons; next => repeat (first | exact Pick.here | apply Pick.there | apply Pick.app)) | (apply Split.chunk; next => repeat (first | exact PickL.here | exact PickL.last | apply PickL.there | apply PickL.app)) | (apply Split.lst; repeat (first | exact PickL.here | exact PickL.last | apply PickL.there | apply PickL.app))))
  rfl
theorem place_fn {i : Nat} (hi : i < 2048) : Does Tryz.prog 119 [.int .i64 (i : Nat)] [] (Is (.int .i64 (placeN i : Nat)) []) := by
  refine fn_enter (n := 15) Tryz.func119 Tryz.ntmps119 rfl (Nat.le_of_ble_eq_true rfl) ?_
  refine s_seq ?_
  refine s_region0 (fun ops => ?_)
  refine o_rd (rd_assign rfl) rfl ?_
  refine o_nil ?_
  refine n_K ?_
  refine s_seq ?_
  refine s_region0 (fun ops => ?_)
  refine o_rd (rd_move rfl) rfl ?_
  refine o_rd (rd_add64 rfl rfl (by omega)) rfl ?_
  refine o_rd (rd_assign rfl) rfl ?_
  refine o_nil ?_
  refine n_K ?_
  refine s_seq ?_
  refine s_seq ?_
  refine s_region0 (fun ops => ?_)
  refine o_rd (rd_assign rfl) rfl ?_
  refine o_nil ?_
  refine n_K ?_
  refine s_block ?_
  refine s_loop2E [] (by repeat' first | exact Keep2.nil | apply Keep2.cons rfl) (fun (k : Nat) => [(3, .int .i64 ((i + 1 + k : Nat) : Int)), (4, .int .i64 ((2 ^ k : Nat) : Int))]) (fun (k : Nat) => k ≤ 13 ∧ placeGo (13 - k) (i + 1 + k) (2 ^ k) = placeN i) (fun (k : Nat) => 14 - k) ((0 : Nat)) ⟨Nat.zero_le _, rfl⟩ (by repeat' first | exact Keep.nil | refine Keep.cons rfl ?_) ?_
  rintro k ⟨h0, h1⟩
  refine s_seq ?_
  refine s_seq ?_
  refine s_region0 (fun ops => ?_)
  refine o_rd (rd_move rfl) rfl ?_
  refine o_rd (rd_move rfl) rfl ?_
  refine o_rd (rd_bin rfl rfl rfl) rfl ?_
  refine o_nil ?_
  refine n_K ?_
  refine s_cond rfl (fun c9 => ?_) (fun c9 => ?_)
  · simp only [decide_eq_true_eq, decide_eq_false_iff_not] at c9
    have hk : k < 13 := (by rcases Nat.lt_or_ge k 13 with h | h; exact h; exfalso; have : k = 13 := (by omega); subst this; simp at c9; omega)
    have h2 : 13 - k = (12 - k) + 1 := (by omega)
    rw [h2, placeGo, if_pos (by exact_mod_cast c9)] at h1
    have hp : 2 ^ k ≤ 2 ^ 12 := Nat.pow_le_pow_right (by omega) (by omega)
    refine s_skip ?_
    refine n_K ?_
    refine s_seq ?_
    refine s_block ?_
    refine s_region0 (fun ops => ?_)
    refine o_rd (rd_move rfl) rfl ?_
    refine o_rd (show Rd _ _ _ _ (.int .i64 ((i + 1 + (k + 1) : Nat) : Int)) from by (rw [show ((i + 1 + (k + 1) : Nat) : Int) = ((i + 1 + k : Nat) : Int) + 1 by push_cast; omega]; exact rd_add64 rfl rfl (by omega))) rfl ?_
    refine o_rd (rd_assign rfl) rfl ?_
    refine o_nil ?_
    refine n_blk ?_
    refine n_K ?_
    refine s_region0 (fun ops => ?_)
    refine o_rd (rd_move rfl) rfl ?_
    refine o_rd (show Rd _ _ _ _ (.int .i64 ((2 ^ (k + 1) : Nat) : Int)) from rd_shlN (a := 2 ^ k) (m := 1) rfl rfl rfl (by omega) (by omega)) rfl ?_
    refine o_rd (rd_assign rfl) rfl ?_
    refine o_nil ?_
    refine n_K ?_
    exact ⟨k + 1, ⟨by omega, by rw [Nat.pow_succ, show 13 - (k + 1) = 12 - k by omega]; exact h1⟩, (by omega), (by repeat' first | exact Keep.nil | refine Keep.cons rfl ?_), (by repeat' first | exact Keep.nil | refine Keep.cons rfl ?_), _, (by repeat (first | exact Split.nil | (apply Split.cons; next => repeat (first | exact Pick.here | apply Pick.there | apply Pick.app)) | (apply Split.chunk; next => repeat (first | exact PickL.here | exact PickL.last | apply PickL.there | apply PickL.app)) | (apply Split.lst; repeat (first | exact PickL.here | exact PickL.last | apply PickL.there | apply PickL.app))))⟩
  · simp only [decide_eq_true_eq, decide_eq_false_iff_not] at c9
    have hr : placeN i = i + 1 + k := (by have h3 : ¬ 2 ^ k ≤ i + 1 + k := (fun h => c9 (by exact_mod_cast h)); rcases Nat.eq_zero_or_pos (13 - k) with h | h; (rw [h, placeGo] at h1; exact h1.symm); (rw [show 13 - k = (12 - k) + 1 by omega, placeGo, if_neg h3] at h1; exact h1.symm))
    refine s_exit ?_
    refine x_K ?_
    refine x_K ?_
    refine x_blk ?_
    refine n_K ?_
    refine s_seq ?_
    refine s_region0 (fun ops => ?_)
    refine o_rd (rd_move rfl) rfl ?_
    refine o_rd (rd_assign rfl) rfl ?_
    refine o_nil ?_
    refine n_K ?_
    refine s_ret ?_
    refine leaf_is (rets1 Tryz.results119 (rv_tmp rfl)) ?_ (by repeat (first | exact Split.nil | (apply Split.cons; next => repeat (first | exact Pick.here | apply Pick.there | apply Pick.app)) | (apply Split.chunk; next => repeat (first | exact PickL.here | exact PickL.last | apply PickL.there | apply PickL.app)) | (apply Split.lst; repeat (first | exact PickL.here | exact PickL.last | apply PickL.there | apply PickL.app))))
    rw [hr]
theorem fold_fn {b : Nat} {d : Dat} {T : TypeId} : Does Tryz.prog 112 [ptr b] [(b, true, C (vbc d) T)] (Is (.tuple #[.int .i64 (lineN d : Nat), .int .i64 (oddN d : Nat)]) [(b, true, C (vbc d) T)]) := by
  refine fn_enter (n := 37) Tryz.func112 Tryz.ntmps112 rfl (Nat.le_of_ble_eq_true rfl) ?_
  refine s_seq ?_
  refine s_region0 (fun ops => ?_)
  refine o_rd (rd_assign rfl) rfl ?_
  refine o_rd (rd_assign rfl) rfl ?_
  refine o_nil ?_
  refine n_K ?_
  refine s_seq ?_
  refine s_seq ?_
  refine s_region0 (fun ops => ?_)
  refine o_rd (rd_move rfl) rfl ?_
  refine o_rd (rd_move rfl) rfl ?_
  refine o_nil ?_
  refine n_K ?_
  refine s_block ?_
  refine s_loop2E [7] (by repeat' first | exact Keep2.nil | apply Keep2.cons rfl) (fun (i : Nat) => [(8, .int .i64 i), (2, .int .i64 (lineU d i : Nat)), (3, .int .i64 (oddU d i : Nat))]) (fun (i : Nat) => i ≤ 256) (fun (i : Nat) => 256 - i) ((0 : Nat)) (Nat.zero_le _) (by repeat' first | exact Keep.nil | refine Keep.cons rfl ?_) ?_
  rintro i h0
  refine s_seq ?_
  refine s_region0 (fun ops => ?_)
  refine o_rd (rd_bin rfl rfl rfl) rfl ?_
  refine o_nil ?_
  refine n_K ?_
  refine s_seq ?_
  refine s_cond rfl (fun c9 => ?_) (fun c9 => ?_)
  · simp only [decide_eq_true_eq, decide_eq_false_iff_not] at c9
    have hi : i < 256 := (by omega)
    have hl := lineU_lt d i h0
    have ho := oddU_lt d i
    have hd : d.toList.getD i 0 = d[i] := (by simp [List.getD_eq_getElem?_getD, hi])
    have hls := lineU_succ d i
    have hos := oddU_succ d i
    rw [hd] at hls hos
    generalize lineU d i = ln at hl hls ⊢
    generalize oddU d i = od at ho hos ⊢
    generalize hy : d[i] = yy at hls hos
    refine s_skip ?_
    refine n_K ?_
    refine s_seq ?_
    refine s_block ?_
    refine s_seq ?_
    refine s_draw [] [(6, [(0, false), (1, false), (2, false), (3, false), (4, false), (5, false)])] (by kernel_rfl) rfl (fun ops w0 H0 y => ?_)
    refine p_all ?_
    refine x_rd (rd_move rfl) rfl ?_
    refine x_rd (rd_nil rfl) rfl ?_
    refine x_rd (rd_ixA0 rfl rfl (by omega)) rfl ?_
    refine x_rd (rd_ld rfl (by repeat' first | exact List.Mem.head _ | apply List.Mem.tail | apply List.mem_append_right) (show nth _ _ = some (bv yy) by (rw [← hy]; simpa using nth_vb (p := d) hi))) rfl ?_
    refine x_rd (rd_assign rfl) rfl ?_
    refine x_rd (rd_assign rfl) rfl ?_
    refine x_nil ?_
    refine p_end ?_
    refine n_K ?_
    refine s_seq ?_
    refine s_region0 (fun ops => ?_)
    refine o_rd (rd_move rfl) rfl ?_
    refine o_rd (rd_move rfl) rfl ?_
    refine c_is rfl (ones8_fn) (by repeat (first | exact Split.nil | (apply Split.cons; next => repeat (first | exact Pick.here | apply Pick.there | apply Pick.app)) | (apply Split.chunk; next => repeat (first | exact PickL.here | exact PickL.last | apply PickL.there | apply PickL.app)) | (apply Split.lst; repeat (first | exact PickL.here | exact PickL.last | apply PickL.there | apply PickL.app)))) rfl (by repeat (first | exact Ap.nil | apply Ap.cons | apply Ap.app | exact Ap.one)) ?_
    refine o_rd (show Rd _ _ _ _ (.int .i64 ((pop8 yy % 2 : Nat) : Int)) from by (rw [← Nat.and_one_is_mod]; exact rd_andN (b := 1) rfl rfl (by have := pop8_le yy; omega) (by omega))) rfl ?_
    refine o_rd (show Rd _ _ _ _ (.int .i64 ((oddU d (i + 1) : Nat) : Int)) from by (rw [hos]; exact rd_xorN rfl rfl (by omega) (by omega))) rfl ?_
    refine o_rd (rd_assign rfl) rfl ?_
    refine o_nil ?_
    refine n_K ?_
    refine s_block ?_
    refine s_loop2E [7, 8, 4, 3] (by repeat' first | exact Keep2.nil | apply Keep2.cons rfl) (fun (st : By × Nat) => [(5, bv st.1), (2, .int .i64 (st.2 : Nat))]) (fun (st : By × Nat) => foldB i (bitsOf st.1) st.2 = lineU d (i + 1) ∧ st.2 < 4096) (fun (st : By × Nat) => st.1.toNat) ((yy, ln)) ⟨hls.symm, hl⟩ (by repeat' first | exact Keep.nil | refine Keep.cons rfl ?_) ?_
    rintro ⟨z, s⟩ ⟨h1, h2⟩
    simp only at h1 h2
    refine s_seq ?_
    refine s_seq ?_
    refine s_region0 (fun ops => ?_)
    refine o_rd (rd_move rfl) rfl ?_
    refine o_rd (rd_bin rfl rfl rfl) rfl ?_
    refine o_nil ?_
    refine n_K ?_
    refine s_cond rfl (fun c20 => ?_) (fun c20 => ?_)
    · skip
      have hz : z ≠ 0 := (by intro h; subst h; simp at c20)
      obtain ⟨hb1, hb2⟩ := bits_step z hz
      have hdr := bits_drop z hz
      rw [hb1] at h1
      have hpl := place_lt (8 * i + ntz8 z) (by omega)
      refine s_skip ?_
      refine n_K ?_
      refine s_block ?_
      refine s_seq ?_
      refine s_region0 (fun ops => ?_)
      refine o_rd (rd_move rfl) rfl ?_
      refine c_is rfl (ntz8_fn) (by repeat (first | exact Split.nil | (apply Split.cons; next => repeat (first | exact Pick.here | apply Pick.there | apply Pick.app)) | (apply Split.chunk; next => repeat (first | exact PickL.here | exact PickL.last | apply PickL.there | apply PickL.app)) | (apply Split.lst; repeat (first | exact PickL.here | exact PickL.last | apply PickL.there | apply PickL.app)))) rfl (by repeat (first | exact Ap.nil | apply Ap.cons | apply Ap.app | exact Ap.one)) ?_
      refine o_rd (rd_assign rfl) rfl ?_
      refine o_nil ?_
      refine n_K ?_
      refine s_seq ?_
      refine s_region0 (fun ops => ?_)
      refine o_rd (rd_move rfl) rfl ?_
      refine o_rd (rd_move rfl) rfl ?_
      refine o_rd (show Rd _ _ _ _ (.int .i64 ((8 * i : Nat) : Int)) from by (rw [Nat.mul_comm]; exact rd_shlN (m := 3) rfl rfl rfl (by omega) (by omega))) rfl ?_
      refine o_rd (rd_move rfl) rfl ?_
      refine o_rd (show Rd _ _ _ _ (.int .i64 ((8 * i + ntz8 z : Nat) : Int)) from by (rw [show 8 * i + ntz8 z = 8 * i ||| ntz8 z from Nat.two_pow_add_eq_or_of_lt (i := 3) hb2 i]; exact rd_orN rfl rfl (by omega) (by omega))) rfl ?_
      refine c_is rfl (place_fn (i := 8 * i + ntz8 z) (by omega)) (by repeat (first | exact Split.nil | (apply Split.cons; next => repeat (first | exact Pick.here | apply Pick.there | apply Pick.app)) | (apply Split.chunk; next => repeat (first | exact PickL.here | exact PickL.last | apply PickL.there | apply PickL.app)) | (apply Split.lst; repeat (first | exact PickL.here | exact PickL.last | apply PickL.there | apply PickL.app)))) rfl (by repeat (first | exact Ap.nil | apply Ap.cons | apply Ap.app | exact Ap.one)) ?_
      refine o_rd (show Rd _ _ _ _ (.int .i64 ((s ^^^ placeN (8 * i + ntz8 z) : Nat) : Int)) from rd_xorN rfl rfl (by omega) (by omega)) rfl ?_
      refine o_rd (rd_assign rfl) rfl ?_
      refine o_nil ?_
      refine n_K ?_
      refine s_region0 (fun ops => ?_)
      refine o_rd (rd_move rfl) rfl ?_
      refine o_rd (rd_move rfl) rfl ?_
      refine o_rd (show Rd _ _ _ _ (bv (z - 1)) from rd_sub8 (b := 1) rfl rfl) rfl ?_
      refine o_rd (show Rd _ _ _ _ (bv (z &&& (z - 1))) from by (unfold bv; rw [← and_by]; exact rd_bin rfl rfl rfl)) rfl ?_
      refine o_rd (rd_assign rfl) rfl ?_
      refine o_nil ?_
      refine n_blk ?_
      refine n_K ?_
      exact ⟨(z &&& (z - 1), s ^^^ placeN (8 * i + ntz8 z)), ⟨h1, xor_lt h2 hpl⟩, hdr, (by repeat' first | exact Keep.nil | refine Keep.cons rfl ?_), (by repeat' first | exact Keep.nil | refine Keep.cons rfl ?_), _, (by repeat (first | exact Split.nil | (apply Split.cons; next => repeat (first | exact Pick.here | apply Pick.there | apply Pick.app)) | (apply Split.chunk; next => repeat (first | exact PickL.here | exact PickL.last | apply PickL.there | apply PickL.app)) | (apply Split.lst; repeat (first | exact PickL.here | exact PickL.last | apply PickL.there | apply PickL.app))))⟩
    · skip
      have hz : z = 0 := (by have : z.toNat = 0 := (by simpa using c20); exact BitVec.eq_of_toNat_eq this)
      subst hz
      rw [bits_zero] at h1
      refine s_exit ?_
      refine x_K ?_
      refine x_K ?_
      refine x_blk ?_
      refine n_blk ?_
      refine n_K ?_
      refine s_region0 (fun ops => ?_)
      refine o_rd (rd_add64 rfl rfl (by omega)) rfl ?_
      refine o_rd (rd_move rfl) rfl ?_
      refine o_nil ?_
      refine n_K ?_
      have h3 : lineU d (i + 1) = s := h1.symm
      rw [← h3]
      exact ⟨i + 1, (by omega), (by omega), (by repeat' first | exact Keep.nil | refine Keep.cons rfl ?_), (by repeat' first | exact Keep.nil | refine Keep.cons rfl ?_), _, (by repeat (first | exact Split.nil | (apply Split.cons; next => repeat (first | exact Pick.here | apply Pick.there | apply Pick.app)) | (apply Split.chunk; next => repeat (first | exact PickL.here | exact PickL.last | apply PickL.there | apply PickL.app)) | (apply Split.lst; repeat (first | exact PickL.here | exact PickL.last | apply PickL.there | apply PickL.app))))⟩
  · simp only [decide_eq_true_eq, decide_eq_false_iff_not] at c9
    refine s_exit ?_
    refine x_K ?_
    refine x_K ?_
    refine x_blk ?_
    refine n_K ?_
    refine s_seq ?_
    refine s_region0 (fun ops => ?_)
    refine o_rd (rd_move rfl) rfl ?_
    refine o_rd (rd_move rfl) rfl ?_
    refine o_rd (rd_assign rfl) rfl ?_
    refine o_rd (rd_assign rfl) rfl ?_
    refine o_nil ?_
    refine n_K ?_
    refine s_ret ?_
    refine leaf_is (rets2 Tryz.results112 (rv_tmp rfl) (rv_tmp rfl)) ?_ (by repeat (first | exact Split.nil | (apply Split.cons; next => repeat (first | exact Pick.here | apply Pick.there | apply Pick.app)) | (apply Split.chunk; next => repeat (first | exact PickL.here | exact PickL.last | apply PickL.there | apply PickL.app)) | (apply Split.lst; repeat (first | exact PickL.here | exact PickL.last | apply PickL.there | apply PickL.app))))
    have hi : i = 256 := (by omega); simp only [lineN, oddN, hi]
theorem power_fn {n : Nat} (hn : n < 4096) : Does Tryz.prog 116 [.int .i64 (n : Nat)] [] (Is (.bool (decide (n &&& (n - 1) = 0))) []) := by
  refine fn_enter (n := 8) Tryz.func116 Tryz.ntmps116 rfl (Nat.le_of_ble_eq_true rfl) ?_
  refine s_seq ?_
  refine s_region0 (fun ops => ?_)
  refine o_rd (rd_assign rfl) rfl ?_
  refine o_nil ?_
  refine n_K ?_
  refine s_seq ?_
  refine s_region0 (fun ops => ?_)
  refine o_rd (rd_move rfl) rfl ?_
  refine o_rd (rd_move rfl) rfl ?_
  refine o_rd (show Rd _ _ _ _ (.int .i64 ((n : Int) - 1)) from rd_sub64 rfl rfl (by omega)) rfl ?_
  refine o_rd (show Rd _ _ _ _ (.int .i64 ((n &&& (n - 1) : Nat) : Int)) from rd_andPred rfl rfl hn) rfl ?_
  refine o_rd (rd_bin rfl rfl rfl) rfl ?_
  refine o_rd (rd_assign rfl) rfl ?_
  refine o_nil ?_
  refine n_K ?_
  refine s_ret ?_
  refine leaf_is (rets1 Tryz.results116 (rv_tmp rfl)) ?_ (by repeat (first | exact Split.nil | (apply Split.cons; next => repeat (first | exact Pick.here | apply Pick.there | apply Pick.app)) | (apply Split.chunk; next => repeat (first | exact PickL.here | exact PickL.last | apply PickL.there | apply PickL.app)) | (apply Split.lst; repeat (first | exact PickL.here | exact PickL.last | apply PickL.there | apply PickL.app))))
  exact congrArg Value.bool (by by_cases h : n &&& (n - 1) = 0 <;> simp [h])
theorem check_fn {d : Dat} : Does Tryz.prog 97 [.agg (vbc d).toArray] [] (Is (.int .u16 (checkN d : Nat)) []) := by
  have hl := lineU_lt d 256 (Nat.le_refl _)
  have ho := oddU_lt d 256
  have hp : popN (lineN d) ≤ 16 := popN_le _
  refine fn_enter (n := 20) Tryz.func97 Tryz.ntmps97 rfl (Nat.le_of_ble_eq_true rfl) ?_
  refine s_seq ?_
  refine s_region0 (fun ops => ?_)
  refine o_boxA rfl rfl (fun b1 => ?_)
  refine o_rd (rd_assign rfl) rfl ?_
  refine o_nil ?_
  refine n_K ?_
  refine s_seq ?_
  refine s_region0 (fun ops => ?_)
  refine c_is rfl (fold_fn) (by repeat (first | exact Split.nil | (apply Split.cons; next => repeat (first | exact Pick.here | apply Pick.there | apply Pick.app)) | (apply Split.chunk; next => repeat (first | exact PickL.here | exact PickL.last | apply PickL.there | apply PickL.app)) | (apply Split.lst; repeat (first | exact PickL.here | exact PickL.last | apply PickL.there | apply PickL.app)))) rfl (by repeat (first | exact Ap.nil | apply Ap.cons | apply Ap.app | exact Ap.one)) ?_
  refine o_rd (rd_move rfl) rfl ?_
  refine o_rd (rd_extract rfl rfl) rfl ?_
  refine o_rd (rd_extract rfl rfl) rfl ?_
  refine o_rd (rd_assign rfl) rfl ?_
  refine o_rd (rd_assign rfl) rfl ?_
  refine o_nil ?_
  refine n_K ?_
  refine s_seq ?_
  refine s_seq ?_
  refine s_region0 (fun ops => ?_)
  refine o_rd (rd_move rfl) rfl ?_
  refine o_rd (rd_move rfl) rfl ?_
  refine o_rd (rd_convN rfl (wrapN_u .u64 rfl (by show _ < 2 ^ 64; unfold lineN; omega))) rfl ?_
  refine c_is rfl (ones_fn hl) (by repeat (first | exact Split.nil | (apply Split.cons; next => repeat (first | exact Pick.here | apply Pick.there | apply Pick.app)) | (apply Split.chunk; next => repeat (first | exact PickL.here | exact PickL.last | apply PickL.there | apply PickL.app)) | (apply Split.lst; repeat (first | exact PickL.here | exact PickL.last | apply PickL.there | apply PickL.app)))) rfl (by repeat (first | exact Ap.nil | apply Ap.cons | apply Ap.app | exact Ap.one)) ?_
  refine o_rd (show Rd _ _ _ _ (.int .i64 ((oddN d + popN (lineN d) : Nat) : Int)) from rd_addN rfl rfl (by unfold oddN; omega)) rfl ?_
  refine o_rd (show Rd _ _ _ _ (.int .i64 (((oddN d + popN (lineN d)) % 2 : Nat) : Int)) from by (rw [← Nat.and_one_is_mod]; exact rd_andN (b := 1) rfl rfl (by unfold oddN; omega) (by omega))) rfl ?_
  refine o_rd (rd_bin rfl rfl rfl) rfl ?_
  refine o_nil ?_
  refine n_K ?_
  refine s_cond rfl (fun c15 => ?_) (fun c15 => ?_)
  · skip
    have hc : checkN d = lineN d ||| 4096 := (by unfold checkN; rw [if_neg (by intro h; rw [h] at c15; simp at c15)])
    refine s_region0 (fun ops => ?_)
    refine o_rd (rd_move rfl) rfl ?_
    refine o_rd (show Rd _ _ _ _ (.int .i64 ((checkN d : Nat) : Int)) from by (rw [hc]; exact rd_orN (b := 4096) rfl rfl (by unfold lineN; omega) (by omega))) rfl ?_
    refine o_rd (rd_assign rfl) rfl ?_
    refine o_nil ?_
    refine n_K ?_
    refine s_seq ?_
    refine s_region0 (fun ops => ?_)
    refine o_rd (rd_move rfl) rfl ?_
    refine o_rd (rd_convN (a := checkN d) rfl (wrapN_u .u16 rfl (by have := checkN_lt d; show _ < 65536; omega))) rfl ?_
    refine o_rd (rd_assign rfl) rfl ?_
    refine o_nil ?_
    refine n_K ?_
    refine s_ret ?_
    refine leaf_is (rets1 Tryz.results97 (rv_tmp rfl)) ?_ (by repeat (first | exact Split.nil | (apply Split.cons; next => repeat (first | exact Pick.here | apply Pick.there | apply Pick.app)) | (apply Split.chunk; next => repeat (first | exact PickL.here | exact PickL.last | apply PickL.there | apply PickL.app)) | (apply Split.lst; repeat (first | exact PickL.here | exact PickL.last | apply PickL.there | apply PickL.app))))
    rfl
  · skip
    have hc : checkN d = lineN d := (by unfold checkN; rw [if_pos (by simp at c15; omega)])
    rw [← hc]
    refine s_skip ?_
    refine n_K ?_
    refine s_seq ?_
    refine s_region0 (fun ops => ?_)
    refine o_rd (rd_move rfl) rfl ?_
    refine o_rd (rd_convN (a := checkN d) rfl (wrapN_u .u16 rfl (by have := checkN_lt d; show _ < 65536; omega))) rfl ?_
    refine o_rd (rd_assign rfl) rfl ?_
    refine o_nil ?_
    refine n_K ?_
    refine s_ret ?_
    refine leaf_is (rets1 Tryz.results97 (rv_tmp rfl)) ?_ (by repeat (first | exact Split.nil | (apply Split.cons; next => repeat (first | exact Pick.here | apply Pick.there | apply Pick.app)) | (apply Split.chunk; next => repeat (first | exact PickL.here | exact PickL.last | apply PickL.there | apply PickL.app)) | (apply Split.lst; repeat (first | exact PickL.here | exact PickL.last | apply PickL.there | apply PickL.app))))
    rfl
theorem fix_fn {d : Dat} {chk : Nat} (hk : chk < 65536) : Does Tryz.prog 105 [.agg (vbc d).toArray, .int .u16 (chk : Nat)] [] (Is (.tuple #[.agg (vbc (hamFix d chk).1).toArray, .int .i64 (hamFix d chk).2.1, .int .i64 (hamFix d chk).2.2]) []) := by
  have hl := lineU_lt d 256 (Nat.le_refl _)
  have ho := oddU_lt d 256
  have hp := popN_le (chk &&& 8191)
  have ha : chk &&& 4095 < 4096 := Nat.and_lt_two_pow (n := 12) _ (by omega)
  have hs : lineN d ^^^ (chk &&& 4095) < 4096 := xor_lt hl ha
  obtain ⟨S, hS⟩ : ∃ S, S = lineN d ^^^ (chk &&& 4095) := ⟨_, rfl⟩
  rw [← hS] at hs
  refine fn_enter (n := 61) Tryz.func105 Tryz.ntmps105 rfl (Nat.le_of_ble_eq_true rfl) ?_
  refine s_seq ?_
  refine s_region0 (fun ops => ?_)
  refine o_boxA rfl rfl (fun b2 => ?_)
  refine o_alloc rfl (fun b4 => ?_)
  refine o_rd (rd_assign rfl) rfl ?_
  refine o_rd (rd_assign rfl) rfl ?_
  refine o_nil ?_
  refine n_K ?_
  refine s_seq ?_
  refine s_region0 (fun ops => ?_)
  refine c_is rfl (fold_fn) (by repeat (first | exact Split.nil | (apply Split.cons; next => repeat (first | exact Pick.here | apply Pick.there | apply Pick.app)) | (apply Split.chunk; next => repeat (first | exact PickL.here | exact PickL.last | apply PickL.there | apply PickL.app)) | (apply Split.lst; repeat (first | exact PickL.here | exact PickL.last | apply PickL.there | apply PickL.app)))) rfl (by repeat (first | exact Ap.nil | apply Ap.cons | apply Ap.app | exact Ap.one)) ?_
  refine o_rd (rd_move rfl) rfl ?_
  refine o_rd (rd_extract rfl rfl) rfl ?_
  refine o_rd (rd_extract rfl rfl) rfl ?_
  refine o_rd (rd_assign rfl) rfl ?_
  refine o_rd (rd_assign rfl) rfl ?_
  refine o_nil ?_
  refine n_K ?_
  refine s_seq ?_
  refine s_region0 (fun ops => ?_)
  refine o_rd (rd_move rfl) rfl ?_
  refine o_rd (rd_move rfl) rfl ?_
  refine o_rd (rd_convN rfl (wrapN_i (by omega))) rfl ?_
  refine o_rd (show Rd _ _ _ _ (.int .i64 ((chk &&& 4095 : Nat) : Int)) from rd_andN (b := 4095) rfl rfl (by omega) (by omega)) rfl ?_
  refine o_rd (show Rd _ _ _ _ (.int .i64 (S : Nat)) from by (rw [hS]; exact rd_xorN rfl rfl (by unfold lineN; omega) (by omega))) rfl ?_
  refine o_rd (rd_assign rfl) rfl ?_
  refine o_nil ?_
  refine n_K ?_
  refine s_seq ?_
  refine s_region0 (fun ops => ?_)
  refine o_rd (rd_move rfl) rfl ?_
  refine o_rd (rd_move rfl) rfl ?_
  refine o_rd (show Rd _ _ _ _ (.int .u16 ((chk &&& 8191 : Nat) : Int)) from rd_and16 (b := 8191) rfl rfl hk (by omega)) rfl ?_
  refine c_is rfl (ones16_fn (n := chk &&& 8191) (by have : chk &&& 8191 ≤ chk := Nat.and_le_left; omega)) (by repeat (first | exact Split.nil | (apply Split.cons; next => repeat (first | exact Pick.here | apply Pick.there | apply Pick.app)) | (apply Split.chunk; next => repeat (first | exact PickL.here | exact PickL.last | apply PickL.there | apply PickL.app)) | (apply Split.lst; repeat (first | exact PickL.here | exact PickL.last | apply PickL.there | apply PickL.app)))) rfl (by repeat (first | exact Ap.nil | apply Ap.cons | apply Ap.app | exact Ap.one)) ?_
  refine o_rd (show Rd _ _ _ _ (.int .i64 ((oddN d + popN (chk &&& 8191) : Nat) : Int)) from rd_addN rfl rfl (by unfold oddN; omega)) rfl ?_
  refine o_rd (show Rd _ _ _ _ (.int .i64 (((oddN d + popN (chk &&& 8191)) % 2 : Nat) : Int)) from by (rw [← Nat.and_one_is_mod]; exact rd_andN (b := 1) rfl rfl (by unfold oddN; omega) (by omega))) rfl ?_
  refine o_rd (rd_assign rfl) rfl ?_
  refine o_nil ?_
  refine n_K ?_
  refine s_seq ?_
  refine s_block ?_
  refine s_seq ?_
  refine s_region [(2, 29)] rfl (fun ops y => ?_)
  refine o_rd (rd_move rfl) rfl ?_
  refine o_rd (rd_bin rfl rfl rfl) rfl ?_
  refine o_rd (rd_move rfl) rfl ?_
  refine' o_and (j := 2) (k := 2) y rfl rfl rfl rfl rfl rfl rfl (fun hg29 => ?_) ?_
  rotate_left
  · try simp at hg29
    refine o_g y rfl rfl ?_
    refine o_rd (rd_move rfl) rfl ?_
    refine o_g y rfl rfl ?_
    refine o_rd (rd_bin rfl rfl rfl) rfl ?_
    exact o_nil ⟨rfl, rfl, ⟨_, (by repeat (first | exact Split.nil | (apply Split.cons; next => repeat (first | exact Pick.here | apply Pick.there | apply Pick.app)) | (apply Split.chunk; next => repeat (first | exact PickL.here | exact PickL.last | apply PickL.there | apply PickL.app)) | (apply Split.lst; repeat (first | exact PickL.here | exact PickL.last | apply PickL.there | apply PickL.app))))⟩⟩
  refine o_rd (rd_assign rfl) rfl ?_
  refine o_nil ?_
  refine n_K ?_
  refine s_cond rfl (fun c26 => ?_) (fun c26 => ?_)
  · skip
    have e1 : S = 0 ∧ (oddN d + popN (chk &&& 8191)) % 2 = 0 := (by simp at c26; omega)
    have hres : hamFix d chk = (d, 0, 0) := (by unfold hamFix; simp only []; rw [← hS]; rw [if_pos e1])
    refine s_seq ?_
    refine s_region0 (fun ops => ?_)
    refine o_rd (rd_ldA rfl (by repeat' first | exact List.Mem.head _ | apply List.Mem.tail | apply List.mem_append_right) (by first | exact cut_vb | rfl)) rfl ?_
    first | refine o_store rfl rfl (by repeat' first | exact Upd.here | apply Upd.there | apply Upd.app) (vc_vb) (vbc_len) (spl_vb (by first | exact vbc_len | exact List.length_replicate ..)) ?_ | refine o_store rfl rfl (by repeat' first | exact Upd.here | apply Upd.there | apply Upd.app) rfl rfl rfl ?_
    refine o_rd (rd_assign rfl) rfl ?_
    refine o_rd (rd_assign rfl) rfl ?_
    refine o_nil ?_
    refine n_K ?_
    refine s_ret ?_
    refine r_blk ?_
    refine r_K ?_
    refine leaf_is (rets3 Tryz.results105 (rv_cell rfl (by repeat' first | exact List.Mem.head _ | apply List.Mem.tail | apply List.mem_append_right) (by first | exact cut_vb | rfl)) (rv_tmp rfl) (rv_tmp rfl)) ?_ (by repeat (first | exact Split.nil | (apply Split.cons; next => repeat (first | exact Pick.here | apply Pick.there | apply Pick.app)) | (apply Split.chunk; next => repeat (first | exact PickL.here | exact PickL.last | apply PickL.there | apply PickL.app)) | (apply Split.lst; repeat (first | exact PickL.here | exact PickL.last | apply PickL.there | apply PickL.app))))
    rw [hres]
  · skip
    have e1 : ¬ (S = 0 ∧ (oddN d + popN (chk &&& 8191)) % 2 = 0) := (by intro h; simp at c26; omega)
    refine s_seq ?_
    refine s_region0 (fun ops => ?_)
    refine o_rd (rd_move rfl) rfl ?_
    refine o_rd (rd_bin rfl rfl rfl) rfl ?_
    refine o_rd (rd_assign rfl) rfl ?_
    refine o_nil ?_
    refine n_K ?_
    refine s_cond rfl (fun c34 => ?_) (fun c34 => ?_)
    · skip
      have e2 : (oddN d + popN (chk &&& 8191)) % 2 = 0 := (by simp at c34; omega)
      have hres : hamFix d chk = (zeroD, 0, 21) := (by unfold hamFix; simp only []; rw [← hS]; rw [if_neg e1, if_pos e2])
      refine s_seq ?_
      refine s_region0 (fun ops => ?_)
      refine o_rd (show Rd _ _ _ _ (.agg (vbc zeroD).toArray) from by (rw [← zeroD_eq]; exact rd_zeroA)) rfl ?_
      first | refine o_store rfl rfl (by repeat' first | exact Upd.here | apply Upd.there | apply Upd.app) (vc_vb) (vbc_len) (spl_vb (by first | exact vbc_len | exact List.length_replicate ..)) ?_ | refine o_store rfl rfl (by repeat' first | exact Upd.here | apply Upd.there | apply Upd.app) rfl rfl rfl ?_
      refine o_rd (rd_assign rfl) rfl ?_
      refine o_rd (rd_assign rfl) rfl ?_
      refine o_nil ?_
      refine n_K ?_
      refine s_ret ?_
      refine r_blk ?_
      refine r_K ?_
      refine leaf_is (rets3 Tryz.results105 (rv_cell rfl (by repeat' first | exact List.Mem.head _ | apply List.Mem.tail | apply List.mem_append_right) (by first | exact cut_vb | rfl)) (rv_tmp rfl) (rv_tmp rfl)) ?_ (by repeat (first | exact Split.nil | (apply Split.cons; next => repeat (first | exact Pick.here | apply Pick.there | apply Pick.app)) | (apply Split.chunk; next => repeat (first | exact PickL.here | exact PickL.last | apply PickL.there | apply PickL.app)) | (apply Split.lst; repeat (first | exact PickL.here | exact PickL.last | apply PickL.there | apply PickL.app))))
      rw [hres]
    · skip
      have e2 : ¬ (oddN d + popN (chk &&& 8191)) % 2 = 0 := (by intro h; simp at c34; omega)
      refine s_seq ?_
      refine s_region0 (fun ops => ?_)
      refine o_rd (rd_move rfl) rfl ?_
      refine c_is rfl (power_fn hs) (by repeat (first | exact Split.nil | (apply Split.cons; next => repeat (first | exact Pick.here | apply Pick.there | apply Pick.app)) | (apply Split.chunk; next => repeat (first | exact PickL.here | exact PickL.last | apply PickL.there | apply PickL.app)) | (apply Split.lst; repeat (first | exact PickL.here | exact PickL.last | apply PickL.there | apply PickL.app)))) rfl (by repeat (first | exact Ap.nil | apply Ap.cons | apply Ap.app | exact Ap.one)) ?_
      refine o_rd (rd_assign rfl) rfl ?_
      refine o_nil ?_
      refine n_K ?_
      refine s_cond rfl (fun c38 => ?_) (fun c38 => ?_)
      · simp only [decide_eq_true_eq, decide_eq_false_iff_not] at c38
        have hres : hamFix d chk = (d, 1, 0) := (by unfold hamFix; simp only []; rw [← hS]; rw [if_neg e1, if_neg e2, if_pos c38])
        refine s_seq ?_
        refine s_region0 (fun ops => ?_)
        refine o_rd (rd_ldA rfl (by repeat' first | exact List.Mem.head _ | apply List.Mem.tail | apply List.mem_append_right) (by first | exact cut_vb | rfl)) rfl ?_
        first | refine o_store rfl rfl (by repeat' first | exact Upd.here | apply Upd.there | apply Upd.app) (vc_vb) (vbc_len) (spl_vb (by first | exact vbc_len | exact List.length_replicate ..)) ?_ | refine o_store rfl rfl (by repeat' first | exact Upd.here | apply Upd.there | apply Upd.app) rfl rfl rfl ?_
        refine o_rd (rd_assign rfl) rfl ?_
        refine o_rd (rd_assign rfl) rfl ?_
        refine o_nil ?_
        refine n_K ?_
        refine s_ret ?_
        refine r_blk ?_
        refine r_K ?_
        refine leaf_is (rets3 Tryz.results105 (rv_cell rfl (by repeat' first | exact List.Mem.head _ | apply List.Mem.tail | apply List.mem_append_right) (by first | exact cut_vb | rfl)) (rv_tmp rfl) (rv_tmp rfl)) ?_ (by repeat (first | exact Split.nil | (apply Split.cons; next => repeat (first | exact Pick.here | apply Pick.there | apply Pick.app)) | (apply Split.chunk; next => repeat (first | exact PickL.here | exact PickL.last | apply PickL.there | apply PickL.app)) | (apply Split.lst; repeat (first | exact PickL.here | exact PickL.last | apply PickL.there | apply PickL.app))))
        rw [hres]
      · simp only [decide_eq_true_eq, decide_eq_false_iff_not] at c38
        have hn := notpow _ hs c38
        refine s_skip ?_
        refine n_blk ?_
        refine n_K ?_
        refine s_seq ?_
        refine s_region0 (fun ops => ?_)
        refine o_rd (rd_move rfl) rfl ?_
        refine o_rd (show Rd _ _ _ _ (.int .i64 ((S - 1 : Nat) : Int)) from by (rw [show ((S - 1 : Nat) : Int) = ((S : Nat) : Int) - 1 by omega]; exact rd_sub64 rfl rfl (by omega))) rfl ?_
        refine o_rd (rd_move rfl) rfl ?_
        refine o_rd (rd_convN rfl (wrapN_u .u64 rfl (by show _ < 2 ^ 64; omega))) rfl ?_
        refine c_is rfl (len_fn hs) (by repeat (first | exact Split.nil | (apply Split.cons; next => repeat (first | exact Pick.here | apply Pick.there | apply Pick.app)) | (apply Split.chunk; next => repeat (first | exact PickL.here | exact PickL.last | apply PickL.there | apply PickL.app)) | (apply Split.lst; repeat (first | exact PickL.here | exact PickL.last | apply PickL.there | apply PickL.app)))) rfl (by repeat (first | exact Ap.nil | apply Ap.cons | apply Ap.app | exact Ap.one)) ?_
        refine o_rd (show Rd _ _ _ _ (.int .i64 ((S - 1 - lenN S : Nat) : Int)) from by (rw [show ((S - 1 - lenN S : Nat) : Int) = ((S - 1 : Nat) : Int) - ((lenN S : Nat) : Int) by omega]; exact rd_sub64 rfl rfl (by omega))) rfl ?_
        refine o_rd (rd_assign rfl) rfl ?_
        refine o_nil ?_
        refine n_K ?_
        refine s_seq ?_
        refine s_seq ?_
        refine s_region0 (fun ops => ?_)
        refine o_rd (rd_move rfl) rfl ?_
        refine o_rd (rd_bin rfl rfl rfl) rfl ?_
        refine o_nil ?_
        refine n_K ?_
        refine s_cond rfl (fun c49 => ?_) (fun c49 => ?_)
        · simp only [decide_eq_true_eq, decide_eq_false_iff_not] at c49
          have hres : hamFix d chk = (zeroD, 0, 21) := (by unfold hamFix; simp only []; rw [← hS]; rw [if_neg e1, if_neg e2, if_neg c38, if_pos (by omega)])
          refine s_seq ?_
          refine s_region0 (fun ops => ?_)
          refine o_rd (show Rd _ _ _ _ (.agg (vbc zeroD).toArray) from by (rw [← zeroD_eq]; exact rd_zeroA)) rfl ?_
          first | refine o_store rfl rfl (by repeat' first | exact Upd.here | apply Upd.there | apply Upd.app) (vc_vb) (vbc_len) (spl_vb (by first | exact vbc_len | exact List.length_replicate ..)) ?_ | refine o_store rfl rfl (by repeat' first | exact Upd.here | apply Upd.there | apply Upd.app) rfl rfl rfl ?_
          refine o_rd (rd_assign rfl) rfl ?_
          refine o_rd (rd_assign rfl) rfl ?_
          refine o_nil ?_
          refine n_K ?_
          refine s_ret ?_
          refine r_K ?_
          refine leaf_is (rets3 Tryz.results105 (rv_cell rfl (by repeat' first | exact List.Mem.head _ | apply List.Mem.tail | apply List.mem_append_right) (by first | exact cut_vb | rfl)) (rv_tmp rfl) (rv_tmp rfl)) ?_ (by repeat (first | exact Split.nil | (apply Split.cons; next => repeat (first | exact Pick.here | apply Pick.there | apply Pick.app)) | (apply Split.chunk; next => repeat (first | exact PickL.here | exact PickL.last | apply PickL.there | apply PickL.app)) | (apply Split.lst; repeat (first | exact PickL.here | exact PickL.last | apply PickL.there | apply PickL.app))))
          rw [hres]
        · simp only [decide_eq_true_eq, decide_eq_false_iff_not] at c49
          have hres : hamFix d chk = (flipD d (S - 1 - lenN S), 1, 0) := (by unfold hamFix; simp only []; rw [← hS]; rw [if_neg e1, if_neg e2, if_neg c38, if_neg (by omega)])
          generalize hI : S - 1 - lenN S = i at c49 hres ⊢
          have hi8 : i / 8 < 256 := (by omega)
          have hfl : flipD d i = d.set (i / 8) (d[i / 8] ^^^ (1#8 <<< (i % 8))) := (by unfold flipD; rw [dif_pos hi8])
          refine s_skip ?_
          refine n_K ?_
          refine s_seq ?_
          refine s_draw [] [(9, [(0, false), (1, false), (2, false), (3, false), (4, false), (5, false), (6, false), (7, false), (8, false)]), (10, [(9, true)])] (by kernel_rfl) rfl (fun ops w0 H0 y => ?_)
          refine p_all ?_
          refine x_rd (rd_move rfl) rfl ?_
          refine x_rd (show Rd _ _ _ _ (.int .i64 ((i / 8 : Nat) : Int)) from rd_shrN (m := 3) rfl rfl rfl (by decide)) rfl ?_
          refine x_rd (rd_ixA0 rfl rfl (by omega)) rfl ?_
          refine x_rd (rd_ld rfl (by repeat' first | exact List.Mem.head _ | apply List.Mem.tail | apply List.mem_append_right) (show nth (vbc d) (i / 8 * 1) = some (bv d[i / 8]) by rw [Nat.mul_one]; exact nth_vb (p := d) hi8)) rfl ?_
          refine x_rd (rd_move rfl) rfl ?_
          refine x_rd (show Rd _ _ _ _ (.int .i64 ((i % 8 : Nat) : Int)) from by (rw [← Nat.and_two_pow_sub_one_eq_mod i 3]; exact rd_andN (b := 7) rfl rfl (by omega) (by omega))) rfl ?_
          refine x_rd (show Rd _ _ _ _ (bv (1#8 <<< (i % 8))) from rd_bit8 rfl rfl (by omega)) rfl ?_
          refine x_rd (show Rd _ _ _ _ (bv (d[i / 8] ^^^ (1#8 <<< (i % 8)))) from by (unfold bv; rw [← xor_by]; exact rd_bin rfl rfl rfl)) rfl ?_
          refine x_rd (rd_ixA0 rfl rfl (by omega)) rfl ?_
          refine x_nil ?_
          refine p_none ?_
          refine x_so ?_
          refine o_store (cs' := vbc (flipD d i)) rfl rfl (by repeat' first | exact Upd.here | apply Upd.there | apply Upd.app) rfl rfl (show splice (vbc d) (i / 8 * 1) [bv (d[i / 8] ^^^ (1#8 <<< (i % 8)))] = _ by rw [Nat.mul_one, hfl]; exact spl1_vb (p := d) hi8 _) ?_
          refine o_nil ⟨rfl, ⟨_, (by repeat (first | exact Split.nil | (apply Split.cons; next => repeat (first | exact Pick.here | apply Pick.there | apply Pick.app)) | (apply Split.chunk; next => repeat (first | exact PickL.here | exact PickL.last | apply PickL.there | apply PickL.app)) | (apply Split.lst; repeat (first | exact PickL.here | exact PickL.last | apply PickL.there | apply PickL.app))))⟩, ?_⟩
          refine x_nil ?_
          refine p_end ?_
          refine n_K ?_
          refine s_seq ?_
          refine s_region0 (fun ops => ?_)
          refine o_rd (rd_ldA rfl (by repeat' first | exact List.Mem.head _ | apply List.Mem.tail | apply List.mem_append_right) (by first | exact cut_vb | rfl)) rfl ?_
          first | refine o_store rfl rfl (by repeat' first | exact Upd.here | apply Upd.there | apply Upd.app) (vc_vb) (vbc_len) (spl_vb (by first | exact vbc_len | exact List.length_replicate ..)) ?_ | refine o_store rfl rfl (by repeat' first | exact Upd.here | apply Upd.there | apply Upd.app) rfl rfl rfl ?_
          refine o_rd (rd_assign rfl) rfl ?_
          refine o_rd (rd_assign rfl) rfl ?_
          refine o_nil ?_
          refine n_K ?_
          refine s_ret ?_
          refine leaf_is (rets3 Tryz.results105 (rv_cell rfl (by repeat' first | exact List.Mem.head _ | apply List.Mem.tail | apply List.mem_append_right) (by first | exact cut_vb | rfl)) (rv_tmp rfl) (rv_tmp rfl)) ?_ (by repeat (first | exact Split.nil | (apply Split.cons; next => repeat (first | exact Pick.here | apply Pick.there | apply Pick.app)) | (apply Split.chunk; next => repeat (first | exact PickL.here | exact PickL.last | apply PickL.there | apply PickL.app)) | (apply Split.lst; repeat (first | exact PickL.here | exact PickL.last | apply PickL.there | apply PickL.app))))
          rw [hres]
end Go.Proofs.YtdfidkhbldedlaaGreat
