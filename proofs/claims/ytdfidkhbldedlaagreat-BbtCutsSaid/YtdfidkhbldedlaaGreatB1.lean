/- Walks of math/bits, and of slices. -/
import Derived.Test.YtdfidkhbldedlaaGreatB0
import Derived.Test.YtdfidkhbldedlaaGreatRows
namespace Go.Proofs.YtdfidkhbldedlaaGreat
open Go.K
set_option linter.unusedVariables false
set_option linter.unusedSimpArgs false

instance und3 : Und Tryz.prog 3 (.int .i64) := ⟨Tryz.underlying3⟩
instance agg3 : Agg Tryz.prog 3 false := ⟨⟨_, Tryz.underlying3, rfl⟩⟩
instance siz3 : Siz Tryz.prog 3 1 := ⟨by kernel_rfl⟩
instance und5 : Und Tryz.prog 5 (.int .u8) := ⟨Tryz.underlying5⟩
instance agg5 : Agg Tryz.prog 5 false := ⟨⟨_, Tryz.underlying5, rfl⟩⟩
instance siz5 : Siz Tryz.prog 5 1 := ⟨by kernel_rfl⟩
instance und9 : Und Tryz.prog 9 .string := ⟨Tryz.underlying9⟩
instance agg9 : Agg Tryz.prog 9 false := ⟨⟨_, Tryz.underlying9, rfl⟩⟩
instance siz9 : Siz Tryz.prog 9 1 := ⟨by kernel_rfl⟩
instance und22 : Und Tryz.prog 22 (.slice 3) := ⟨Tryz.underlying22⟩
instance agg22 : Agg Tryz.prog 22 false := ⟨⟨_, Tryz.underlying22, rfl⟩⟩
instance siz22 : Siz Tryz.prog 22 1 := ⟨by kernel_rfl⟩
instance ent45 : Ent Tryz.prog 45 := ⟨fun _ _ => by kernel_rfl⟩
instance ent75 : Ent Tryz.prog 75 := ⟨fun _ _ => by kernel_rfl⟩
instance ent83 : Ent Tryz.prog 83 := ⟨fun _ _ => by kernel_rfl⟩
instance ent118 : Ent Tryz.prog 118 := ⟨fun _ _ => by kernel_rfl⟩
instance wide : Wide Tryz.prog := ⟨by kernel_rfl⟩

theorem ones8_fn {x : By} : Does Tryz.prog 83 [.int .u8 x.toNat] [] (Is (.int .i64 (pop8 x)) []) := by
  refine fn_enter (n := 6) Tryz.func83 Tryz.ntmps83 rfl (Nat.le_of_ble_eq_true rfl) ?_
  refine s_seq ?_
  refine s_region0 (fun ops => ?_)
  refine o_rd (rd_assign rfl) rfl ?_
  refine o_nil ?_
  refine n_K ?_
  refine s_seq ?_
  refine s_region0 (fun ops => ?_)
  refine o_rd (rd_move rfl) rfl ?_
  refine o_rd (rd_ixStr rfl rfl (Int.natCast_nonneg _) (pop_tab x)) rfl ?_
  refine o_rd (rd_convI rfl) rfl ?_
  refine o_rd (rd_assign rfl) rfl ?_
  refine o_nil ?_
  refine n_K ?_
  refine s_ret ?_
  refine leaf_is (rets1 Tryz.results83 (rv_tmp rfl)) ?_ (by repeat (first | exact Split.nil | (apply Split.cons; next => repeat (first | exact Pick.here | apply Pick.there | apply Pick.app)) | (apply Split.chunk; next => repeat (first | exact PickL.here | exact PickL.last | apply PickL.there | apply PickL.app)) | (apply Split.lst; repeat (first | exact PickL.here | exact PickL.last | apply PickL.there | apply PickL.app))))
  exact congrArg (Value.int .i64) (pop_i64 x)
theorem ntz8_fn {x : By} : Does Tryz.prog 118 [.int .u8 x.toNat] [] (Is (.int .i64 (ntz8 x)) []) := by
  refine fn_enter (n := 6) Tryz.func118 Tryz.ntmps118 rfl (Nat.le_of_ble_eq_true rfl) ?_
  refine s_seq ?_
  refine s_region0 (fun ops => ?_)
  refine o_rd (rd_assign rfl) rfl ?_
  refine o_nil ?_
  refine n_K ?_
  refine s_seq ?_
  refine s_region0 (fun ops => ?_)
  refine o_rd (rd_move rfl) rfl ?_
  refine o_rd (rd_ixStr rfl rfl (Int.natCast_nonneg _) (ntz_tab x)) rfl ?_
  refine o_rd (rd_convI rfl) rfl ?_
  refine o_rd (rd_assign rfl) rfl ?_
  refine o_nil ?_
  refine n_K ?_
  refine s_ret ?_
  refine leaf_is (rets1 Tryz.results118 (rv_tmp rfl)) ?_ (by repeat (first | exact Split.nil | (apply Split.cons; next => repeat (first | exact Pick.here | apply Pick.there | apply Pick.app)) | (apply Split.chunk; next => repeat (first | exact PickL.here | exact PickL.last | apply PickL.there | apply PickL.app)) | (apply Split.lst; repeat (first | exact PickL.here | exact PickL.last | apply PickL.there | apply PickL.app))))
  exact congrArg (Value.int .i64) (ntz_i64 x)
abbrev tI : TypeId := 3
theorem index_fn {v : Int} {s : Sl Int} {T : TypeId} :
    Does Tryz.prog 75 [s.val, .int .i64 v] (s.hp T) (Is (.int .i64 (idx s.list v)) (s.hp T)) := by
  refine fn_enter (n := 19) Tryz.func75 Tryz.ntmps75 rfl (Nat.le_of_ble_eq_true rfl) ?_
  refine s_seq ?_
  refine s_region0 (fun ops => ?_)
  refine o_rd (rd_assign rfl) rfl ?_
  refine o_nil ?_
  refine n_K ?_
  refine s_seq ?_
  refine s_seq ?_
  refine s_region0 (fun ops => ?_)
  refine o_rd (rd_move rfl) rfl ?_
  refine o_rd (rd_lenS rfl) rfl ?_
  refine o_rd (rd_move rfl) rfl ?_
  refine o_nil ?_
  refine n_K ?_
  refine s_block ?_
  have hsm := s.small
  refine s_loop2E [0, 1, 7] (by repeat' first | exact Keep2.nil | apply Keep2.cons rfl) (fun i => [(8, .int .i64 i)]) (fun i => 0 ≤ i ∧ i ≤ s.list.length ∧ ∀ k : Int, 0 ≤ k → k < i → at0 s.list k ≠ v) (fun i => ((s.list.length : Int) - i).toNat) ((0 : Int)) ⟨by omega, by omega, by intro k h0 h1; omega⟩ (by repeat' first | exact Keep.nil | refine Keep.cons rfl ?_) ?_
  rintro i ⟨h0, h1, h2⟩
  refine s_seq ?_
  refine s_region0 (fun ops => ?_)
  refine o_rd (rd_bin rfl rfl rfl) rfl ?_
  refine o_nil ?_
  refine n_K ?_
  refine s_seq ?_
  refine s_cond rfl (fun c9 => ?_) (fun c9 => ?_)
  · try simp at c9
    refine s_skip ?_
    refine n_K ?_
    refine s_seq ?_
    refine s_block ?_
    refine s_seq ?_
    refine s_region0 (fun ops => ?_)
    refine o_rd (rd_move rfl) rfl ?_
    refine o_rd (rd_assign rfl) rfl ?_
    refine o_nil ?_
    refine n_K ?_
    refine s_seq ?_
    refine s_region0 (fun ops => ?_)
    refine o_rd (rd_move rfl) rfl ?_
    refine o_rd (rd_move rfl) rfl ?_
    refine o_rd (rd_move rfl) rfl ?_
    refine o_rd (rd_ixSl rfl rfl ⟨h0, c9⟩) rfl ?_
    refine o_rd (rd_ldSl (o := 0) rfl (by repeat (first | exact PickL.here | exact PickL.last | apply PickL.there | apply PickL.app)) (at0_get h0 c9) rfl rfl) rfl ?_
    refine o_rd (rd_bin rfl rfl rfl) rfl ?_
    refine o_nil ?_
    refine n_K ?_
    refine s_cond rfl (fun c16 => ?_) (fun c16 => ?_)
    · simp at c16
      refine s_seq ?_
      refine s_region0 (fun ops => ?_)
      refine o_rd (rd_move rfl) rfl ?_
      refine o_rd (rd_assign rfl) rfl ?_
      refine o_nil ?_
      refine n_K ?_
      refine s_ret ?_
      refine r_blk ?_
      refine r_K ?_
      refine r_K ?_
      refine r_blk ?_
      refine r_K ?_
      refine leaf_is (rets1 Tryz.results75 (rv_tmp rfl)) ?_ (by repeat (first | exact Split.nil | (apply Split.cons; next => repeat (first | exact Pick.here | apply Pick.there | apply Pick.app)) | (apply Split.chunk; next => repeat (first | exact PickL.here | exact PickL.last | apply PickL.there | apply PickL.app)) | (apply Split.lst; repeat (first | exact PickL.here | exact PickL.last | apply PickL.there | apply PickL.app))))
      rw [idx_at i h0 c9 h2 c16.symm]
    · simp at c16
      refine s_skip ?_
      refine n_blk ?_
      refine n_K ?_
      refine s_region0 (fun ops => ?_)
      refine o_rd (rd_add64 rfl rfl (by omega)) rfl ?_
      refine o_rd (rd_move rfl) rfl ?_
      refine o_nil ?_
      refine n_K ?_
      exact ⟨i + 1, ⟨by omega, by omega, step_all h2 (fun e => c16 e.symm)⟩, (by omega), (by repeat' first | exact Keep.nil | refine Keep.cons rfl ?_), (by repeat' first | exact Keep.nil | refine Keep.cons rfl ?_), _, (by repeat (first | exact Split.nil | (apply Split.cons; next => repeat (first | exact Pick.here | apply Pick.there | apply Pick.app)) | (apply Split.chunk; next => repeat (first | exact PickL.here | exact PickL.last | apply PickL.there | apply PickL.app)) | (apply Split.lst; repeat (first | exact PickL.here | exact PickL.last | apply PickL.there | apply PickL.app))))⟩
  · try simp at c9
    refine s_exit ?_
    refine x_K ?_
    refine x_K ?_
    refine x_blk ?_
    refine n_K ?_
    refine s_seq ?_
    refine s_region0 (fun ops => ?_)
    refine o_rd (rd_assign rfl) rfl ?_
    refine o_nil ?_
    refine n_K ?_
    refine s_ret ?_
    refine leaf_is (rets1 Tryz.results75 (rv_tmp rfl)) ?_ (by repeat (first | exact Split.nil | (apply Split.cons; next => repeat (first | exact Pick.here | apply Pick.there | apply Pick.app)) | (apply Split.chunk; next => repeat (first | exact PickL.here | exact PickL.last | apply PickL.there | apply PickL.app)) | (apply Split.lst; repeat (first | exact PickL.here | exact PickL.last | apply PickL.there | apply PickL.app))))
    rw [idx_none (fun k k0 k1 => h2 k k0 (by omega))]
theorem contains_fn {v : Int} {s : Sl Int} {T : TypeId} :
    Does Tryz.prog 45 [s.val, .int .i64 v] (s.hp T) (Is (.bool (hasI s.list v)) (s.hp T)) := by
  refine fn_enter (n := 9) Tryz.func45 Tryz.ntmps45 rfl (Nat.le_of_ble_eq_true rfl) ?_
  refine s_seq ?_
  refine s_region0 (fun ops => ?_)
  refine o_rd (rd_assign rfl) rfl ?_
  refine o_nil ?_
  refine n_K ?_
  refine s_seq ?_
  refine s_region0 (fun ops => ?_)
  refine o_rd (rd_move rfl) rfl ?_
  refine o_rd (rd_move rfl) rfl ?_
  refine c_is rfl (index_fn) (by repeat (first | exact Split.nil | (apply Split.cons; next => repeat (first | exact Pick.here | apply Pick.there | apply Pick.app)) | (apply Split.chunk; next => repeat (first | exact PickL.here | exact PickL.last | apply PickL.there | apply PickL.app)) | (apply Split.lst; repeat (first | exact PickL.here | exact PickL.last | apply PickL.there | apply PickL.app)))) rfl (by repeat (first | exact Ap.nil | apply Ap.cons | apply Ap.app | exact Ap.one)) ?_
  refine o_rd (rd_bin rfl rfl rfl) rfl ?_
  refine o_rd (rd_assign rfl) rfl ?_
  refine o_nil ?_
  refine n_K ?_
  refine s_ret ?_
  refine leaf_is (rets1 Tryz.results45 (rv_tmp rfl)) ?_ (by repeat (first | exact Split.nil | (apply Split.cons; next => repeat (first | exact Pick.here | apply Pick.there | apply Pick.app)) | (apply Split.chunk; next => repeat (first | exact PickL.here | exact PickL.last | apply PickL.there | apply PickL.app)) | (apply Split.lst; repeat (first | exact PickL.here | exact PickL.last | apply PickL.there | apply PickL.app))))
  rfl
end Go.Proofs.YtdfidkhbldedlaaGreat
