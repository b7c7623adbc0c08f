/- Walks of package nand. -/
import Derived.Test.YtdfidkhbldedlaaB1
import Derived.Test.YtdfidkhbldedlaaN0
namespace Go.Proofs.Ytdfidkhbldedlaa
open Go.K
set_option linter.unusedVariables false
set_option linter.unusedSimpArgs false
instance und4 : Und Try.prog 4 .bool := ⟨Try.underlying4⟩
instance agg4 : Agg Try.prog 4 false := ⟨⟨_, Try.underlying4, rfl⟩⟩
instance siz4 : Siz Try.prog 4 1 := ⟨by kernel_rfl⟩
instance und24 : Und Try.prog 24 (.pointer 48) := ⟨Try.underlying24⟩
instance agg24 : Agg Try.prog 24 false := ⟨⟨_, Try.underlying24, rfl⟩⟩
instance siz24 : Siz Try.prog 24 1 := ⟨by kernel_rfl⟩
instance agg48 : Agg Try.prog 48 true := ⟨⟨_, Try.underlying48, rfl⟩⟩
instance siz48 : Siz Try.prog 48 3 := ⟨by kernel_rfl⟩
instance und49 : Und Try.prog 49 (.slice 60) := ⟨Try.underlying49⟩
instance agg49 : Agg Try.prog 49 false := ⟨⟨_, Try.underlying49, rfl⟩⟩
instance siz49 : Siz Try.prog 49 1 := ⟨by kernel_rfl⟩
instance agg53 : Agg Try.prog 53 true := ⟨⟨_, Try.underlying53, rfl⟩⟩
instance siz53 : Siz Try.prog 53 9 := ⟨by kernel_rfl⟩
instance und57 : Und Try.prog 57 (.array 258 5) := ⟨Try.underlying57⟩
instance agg57 : Agg Try.prog 57 true := ⟨⟨_, Try.underlying57, rfl⟩⟩
instance siz57 : Siz Try.prog 57 258 := ⟨by kernel_rfl⟩
instance und58 : Und Try.prog 58 (.array 8 57) := ⟨Try.underlying58⟩
instance agg58 : Agg Try.prog 58 true := ⟨⟨_, Try.underlying58, rfl⟩⟩
instance siz58 : Siz Try.prog 58 2064 := ⟨by kernel_rfl⟩
instance agg60 : Agg Try.prog 60 true := ⟨⟨_, Try.underlying60, rfl⟩⟩
instance siz60 : Siz Try.prog 60 2066 := ⟨by kernel_rfl⟩
instance zer57 : Zer Try.prog 57 (List.replicate 258 (.int .u8 0)) := ⟨by kernel_rfl⟩
instance fld48_0 : Fld Try.prog 48 0 0 := ⟨⟨_, _, 0, Try.underlying48, rfl, by kernel_rfl, rfl⟩⟩
instance fld48_1 : Fld Try.prog 48 1 1 := ⟨⟨_, _, 0, Try.underlying48, rfl, by kernel_rfl, rfl⟩⟩
instance fld51_0 : Fld Try.prog 51 0 0 := ⟨⟨_, _, 0, Try.underlying51, rfl, by kernel_rfl, rfl⟩⟩
instance fld51_1 : Fld Try.prog 51 1 1 := ⟨⟨_, _, 0, Try.underlying51, rfl, by kernel_rfl, rfl⟩⟩
instance fld53_0 : Fld Try.prog 53 0 0 := ⟨⟨_, _, 0, Try.underlying53, rfl, by kernel_rfl, rfl⟩⟩
instance fld53_1 : Fld Try.prog 53 1 1 := ⟨⟨_, _, 0, Try.underlying53, rfl, by kernel_rfl, rfl⟩⟩
instance fld53_2 : Fld Try.prog 53 2 2 := ⟨⟨_, _, 0, Try.underlying53, rfl, by kernel_rfl, rfl⟩⟩
instance fld53_3 : Fld Try.prog 53 3 3 := ⟨⟨_, _, 0, Try.underlying53, rfl, by kernel_rfl, rfl⟩⟩
instance fld60_0 : Fld Try.prog 60 0 0 := ⟨⟨_, _, 2063, Try.underlying60, rfl, by kernel_rfl, rfl⟩⟩
instance fld60_2 : Fld Try.prog 60 2 2065 := ⟨⟨_, _, 0, Try.underlying60, rfl, by kernel_rfl, rfl⟩⟩
instance ent13 : Ent Try.prog 13 := ⟨fun _ _ => by kernel_rfl⟩
instance ent20 : Ent Try.prog 20 := ⟨fun _ _ => by kernel_rfl⟩
instance ent22 : Ent Try.prog 22 := ⟨fun _ _ => by kernel_rfl⟩
instance ent23 : Ent Try.prog 23 := ⟨fun _ _ => by kernel_rfl⟩
instance ent26 : Ent Try.prog 26 := ⟨fun _ _ => by kernel_rfl⟩
instance ent27 : Ent Try.prog 27 := ⟨fun _ _ => by kernel_rfl⟩
instance ent28 : Ent Try.prog 28 := ⟨fun _ _ => by kernel_rfl⟩
instance ent29 : Ent Try.prog 29 := ⟨fun _ _ => by kernel_rfl⟩
instance ent38 : Ent Try.prog 38 := ⟨fun _ _ => by kernel_rfl⟩
instance ent46 : Ent Try.prog 46 := ⟨fun _ _ => by kernel_rfl⟩
instance ent47 : Ent Try.prog 47 := ⟨fun _ _ => by kernel_rfl⟩
instance ent70 : Ent Try.prog 70 := ⟨fun _ _ => by kernel_rfl⟩

theorem blank_fn : Does Try.prog 38 [] [] (Is (.agg (vbc blankP).toArray) []) := by
  refine fn_enter (n := 9) Try.func38 Try.ntmps38 rfl (Nat.le_of_ble_eq_true rfl) ?_
  refine s_seq ?_
  refine s_region0 (fun ops => ?_)
  refine o_alloc rfl (fun b0 => ?_)
  refine o_nil ?_
  refine n_K ?_
  refine s_seq ?_
  refine s_seq ?_
  refine s_region0 (fun ops => ?_)
  refine o_rd (rd_move rfl) rfl ?_
  refine o_nil ?_
  refine n_K ?_
  refine s_block ?_
  rw [fillF_0]
  refine s_loop2 [0] (by repeat' first | exact Keep2.nil | apply Keep2.cons rfl) (fun (s : Nat) => [(2, .int .i64 s)]) (fun (s : Nat) => [(b0, true, C (vbc (fillF s)) 57)]) (fun (s : Nat) => s ≤ 258) (fun (s : Nat) => 258 - s) ((0 : Nat)) (by omega) (by repeat' first | exact Keep.nil | refine Keep.cons rfl ?_) (by repeat (first | exact Split.nil | (apply Split.cons; next => repeat (first | exact Pick.here | apply Pick.there | apply Pick.app)) | (apply Split.chunk; next => repeat (first | exact PickL.here | exact PickL.last | apply PickL.there | apply PickL.app)) | (apply Split.lst; repeat (first | exact PickL.here | exact PickL.last | apply PickL.there | apply PickL.app)))) ?_
  rintro i h0
  refine s_seq ?_
  refine s_region0 (fun ops => ?_)
  refine o_rd (rd_bin rfl rfl rfl) rfl ?_
  refine o_nil ?_
  refine n_K ?_
  refine s_seq ?_
  refine s_cond rfl (fun c3 => ?_) (fun c3 => ?_)
  · try simp at c3
    refine s_skip ?_
    refine n_K ?_
    refine s_seq ?_
    refine s_block ?_
    refine s_seq ?_
    refine s_region0 (fun ops => ?_)
    refine o_rd (rd_move rfl) rfl ?_
    refine o_rd (rd_assign rfl) rfl ?_
    refine o_nil ?_
    refine n_K ?_
    refine s_region0 (fun ops => ?_)
    refine o_rd (rd_move rfl) rfl ?_
    refine o_rd (rd_ixA rfl rfl (by omega)) rfl ?_
    refine o_store (cs' := vbc (fillF (i + 1))) rfl rfl (by repeat' first | exact Upd.here | apply Upd.there | apply Upd.app) rfl rfl (by simpa using fillF_step (i := i) (by omega)) ?_
    refine o_nil ?_
    refine n_blk ?_
    refine n_K ?_
    refine s_region0 (fun ops => ?_)
    refine o_rd (rd_add64 rfl rfl (by omega)) rfl ?_
    refine o_rd (rd_move rfl) rfl ?_
    refine o_nil ?_
    refine n_K ?_
    exact ⟨i + 1, (by omega), (by omega), (by repeat' first | exact Keep.nil | refine Keep.cons rfl ?_), (by repeat' first | exact Keep.nil | refine Keep.cons rfl ?_), _, (by repeat (first | exact Split.nil | (apply Split.cons; next => repeat (first | exact Pick.here | apply Pick.there | apply Pick.app)) | (apply Split.chunk; next => repeat (first | exact PickL.here | exact PickL.last | apply PickL.there | apply PickL.app)) | (apply Split.lst; repeat (first | exact PickL.here | exact PickL.last | apply PickL.there | apply PickL.app))))⟩
  · try simp at c3
    refine s_exit ?_
    refine x_K ?_
    refine x_K ?_
    refine x_blk ?_
    refine n_K ?_
    refine s_seq ?_
    refine s_region0 (fun ops => ?_)
    refine o_rd (rd_ldA rfl (by repeat' first | exact List.Mem.head _ | apply List.Mem.tail | apply List.mem_append_right) (by first | exact cut_vb | rfl)) rfl ?_
    first | refine o_store rfl rfl (by repeat' first | exact Upd.here | apply Upd.there | apply Upd.app) (vc_vb) (vbc_len) (spl_vb (by first | exact vbc_len | exact List.length_replicate ..)) ?_ | refine o_store rfl rfl (by repeat' first | exact Upd.here | apply Upd.there | apply Upd.app) rfl rfl rfl ?_
    refine o_nil ?_
    refine n_K ?_
    refine s_ret ?_
    refine leaf_is (rets1 Try.results38 (rv_cell rfl (by repeat' first | exact List.Mem.head _ | apply List.Mem.tail | apply List.mem_append_right) (by first | exact cut_vb | rfl))) ?_ (by repeat (first | exact Split.nil | (apply Split.cons; next => repeat (first | exact Pick.here | apply Pick.there | apply Pick.app)) | (apply Split.chunk; next => repeat (first | exact PickL.here | exact PickL.last | apply PickL.there | apply PickL.app)) | (apply Split.lst; repeat (first | exact PickL.here | exact PickL.last | apply PickL.there | apply PickL.app))))
    rw [show i = 258 by omega, fillF_end]
abbrev tPw : TypeId := 48
abbrev tCh : TypeId := 53
abbrev tBk : TypeId := 60
abbrev ptr (p : Nat) : Value := .pointer (some ⟨p, 0, none⟩)
@[irreducible] def chH (c : Chip) : Hp := (c.aP, true, C (pwc c) tPw) :: (c.aC, true, C (chc c) tCh) :: (c.aB, true, C (rowc c.blocks) tBk) :: (c.pf.hp tI ++ (c.wf.hp tI ++ []))
theorem chH_eq (c : Chip) : chH c = (c.aP, true, C (pwc c) tPw) :: (c.aC, true, C (chc c) tCh) :: (c.aB, true, C (rowc c.blocks) tBk) :: (c.pf.hp tI ++ (c.wf.hp tI ++ [])) := by unfold chH; rfl
section
variable {c : Chip} {i j : Int}
theorem off_fn : Does Try.prog 46 [ptr c.aP] [(c.aP, true, C (pwc c) tPw)] (Is (.bool c.off) [(c.aP, true, C (pwc c) tPw)]) := by
  refine fn_enter (n := 7) Try.func46 Try.ntmps46 rfl (Nat.le_of_ble_eq_true rfl) ?_
  refine s_seq ?_
  refine s_region0 (fun ops => ?_)
  refine o_rd (rd_assign rfl) rfl ?_
  refine o_nil ?_
  refine n_K ?_
  refine s_seq ?_
  refine s_region0 (fun ops => ?_)
  refine o_rd (rd_move rfl) rfl ?_
  refine o_rd (rd_nil rfl) rfl ?_
  refine o_rd (rd_field rfl) rfl ?_
  refine o_rd (rd_ld rfl (by repeat' first | exact List.Mem.head _ | apply List.Mem.tail | apply List.mem_append_right) rfl) rfl ?_
  refine o_rd (rd_assign rfl) rfl ?_
  refine o_nil ?_
  refine n_K ?_
  refine s_ret ?_
  refine leaf_is (rets1 Try.results46 (rv_tmp rfl)) ?_ (by repeat (first | exact Split.nil | (apply Split.cons; next => repeat (first | exact Pick.here | apply Pick.there | apply Pick.app)) | (apply Split.chunk; next => repeat (first | exact PickL.here | exact PickL.last | apply PickL.there | apply PickL.app)) | (apply Split.lst; repeat (first | exact PickL.here | exact PickL.last | apply PickL.there | apply PickL.app))))
  rfl
theorem live_fn : Does Try.prog 47 [ptr c.aC] [(c.aC, true, C (chc c) tCh)] (Is (.bool (!c.dead && !c.out)) [(c.aC, true, C (chc c) tCh)]) := by
  refine fn_enter (n := 15) Try.func47 Try.ntmps47 rfl (Nat.le_of_ble_eq_true rfl) ?_
  refine s_seq ?_
  refine s_region0 (fun ops => ?_)
  refine o_rd (rd_assign rfl) rfl ?_
  refine o_nil ?_
  refine n_K ?_
  refine s_seq ?_
  refine s_region [(5, 8)] rfl (fun ops y => ?_)
  refine o_rd (rd_move rfl) rfl ?_
  refine o_rd (rd_nil rfl) rfl ?_
  refine o_rd (rd_field rfl) rfl ?_
  refine o_rd (rd_ld rfl (by repeat' first | exact List.Mem.head _ | apply List.Mem.tail | apply List.mem_append_right) rfl) rfl ?_
  refine o_rd (rd_not rfl) rfl ?_
  refine o_rd (rd_move rfl) rfl ?_
  refine' o_and (j := 5) (k := 5) y rfl rfl rfl rfl rfl rfl rfl (fun hg8 => ?_) ?_
  rotate_left
  · try simp at hg8
    refine o_g y rfl rfl ?_
    refine o_rd (rd_move rfl) rfl ?_
    refine o_g y rfl rfl ?_
    refine o_rd (rd_nil rfl) rfl ?_
    refine o_g y rfl rfl ?_
    refine o_rd (rd_field rfl) rfl ?_
    refine o_g y rfl rfl ?_
    refine o_rd (rd_ld rfl (by repeat' first | exact List.Mem.head _ | apply List.Mem.tail | apply List.mem_append_right) rfl) rfl ?_
    refine o_g y rfl rfl ?_
    refine o_rd (rd_not rfl) rfl ?_
    exact o_nil ⟨rfl, rfl, ⟨_, (by repeat (first | exact Split.nil | (apply Split.cons; next => repeat (first | exact Pick.here | apply Pick.there | apply Pick.app)) | (apply Split.chunk; next => repeat (first | exact PickL.here | exact PickL.last | apply PickL.there | apply PickL.app)) | (apply Split.lst; repeat (first | exact PickL.here | exact PickL.last | apply PickL.there | apply PickL.app))))⟩⟩
  refine o_rd (rd_assign rfl) rfl ?_
  refine o_nil ?_
  refine n_K ?_
  refine s_ret ?_
  refine leaf_is (rets1 Try.results47 (rv_tmp rfl)) ?_ (by repeat (first | exact Split.nil | (apply Split.cons; next => repeat (first | exact Pick.here | apply Pick.there | apply Pick.app)) | (apply Split.chunk; next => repeat (first | exact PickL.here | exact PickL.last | apply PickL.there | apply PickL.app)) | (apply Split.lst; repeat (first | exact PickL.here | exact PickL.last | apply PickL.there | apply PickL.app))))
  rfl
theorem blocks_fn0 : Does Try.prog 26 [ptr c.aC] [(c.aC, true, C (chc c) tCh)] (Is (.int .i64 c.blocks.length) [(c.aC, true, C (chc c) tCh)]) := by
  refine fn_enter (n := 8) Try.func26 Try.ntmps26 rfl (Nat.le_of_ble_eq_true rfl) ?_
  refine s_seq ?_
  refine s_region0 (fun ops => ?_)
  refine o_rd (rd_assign rfl) rfl ?_
  refine o_nil ?_
  refine n_K ?_
  refine s_seq ?_
  refine s_region0 (fun ops => ?_)
  refine o_rd (rd_move rfl) rfl ?_
  refine o_rd (rd_nil rfl) rfl ?_
  refine o_rd (rd_field rfl) rfl ?_
  refine o_rd (rd_ld rfl (by repeat' first | exact List.Mem.head _ | apply List.Mem.tail | apply List.mem_append_right) rfl) rfl ?_
  refine o_rd (rd_lenS rfl) rfl ?_
  refine o_rd (rd_assign rfl) rfl ?_
  refine o_nil ?_
  refine n_K ?_
  refine s_ret ?_
  refine leaf_is (rets1 Try.results26 (rv_tmp rfl)) ?_ (by repeat (first | exact Split.nil | (apply Split.cons; next => repeat (first | exact Pick.here | apply Pick.there | apply Pick.app)) | (apply Split.chunk; next => repeat (first | exact PickL.here | exact PickL.last | apply PickL.there | apply PickL.app)) | (apply Split.lst; repeat (first | exact PickL.here | exact PickL.last | apply PickL.there | apply PickL.app))))
  rfl
theorem there_fn : Does Try.prog 20 [ptr c.aC, .int .i64 i] [(c.aC, true, C (chc c) tCh)] (Is (.bool (thereB c i)) [(c.aC, true, C (chc c) tCh)]) := by
  refine fn_enter (n := 16) Try.func20 Try.ntmps20 rfl (Nat.le_of_ble_eq_true rfl) ?_
  refine s_seq ?_
  refine s_region0 (fun ops => ?_)
  refine o_rd (rd_assign rfl) rfl ?_
  refine o_nil ?_
  refine n_K ?_
  refine s_seq ?_
  refine s_region [(2, 7)] rfl (fun ops y => ?_)
  refine o_rd (rd_move rfl) rfl ?_
  refine o_rd (rd_bin rfl rfl rfl) rfl ?_
  refine o_rd (rd_move rfl) rfl ?_
  refine' o_and (j := 2) (k := 7) y rfl rfl rfl rfl rfl rfl rfl (fun hg7 => ?_) ?_
  rotate_left
  · try simp at hg7
    refine o_g y rfl rfl ?_
    refine o_rd (rd_move rfl) rfl ?_
    refine o_g y rfl rfl ?_
    refine o_rd (rd_move rfl) rfl ?_
    refine o_g y rfl rfl ?_
    refine o_rd (rd_nil rfl) rfl ?_
    refine o_g y rfl rfl ?_
    refine o_rd (rd_field rfl) rfl ?_
    refine o_g y rfl rfl ?_
    refine o_rd (rd_ld rfl (by repeat' first | exact List.Mem.head _ | apply List.Mem.tail | apply List.mem_append_right) rfl) rfl ?_
    refine o_g y rfl rfl ?_
    refine o_rd (rd_lenS rfl) rfl ?_
    refine o_g y rfl rfl ?_
    refine o_rd (rd_bin rfl rfl rfl) rfl ?_
    exact o_nil ⟨rfl, rfl, ⟨_, (by repeat (first | exact Split.nil | (apply Split.cons; next => repeat (first | exact Pick.here | apply Pick.there | apply Pick.app)) | (apply Split.chunk; next => repeat (first | exact PickL.here | exact PickL.last | apply PickL.there | apply PickL.app)) | (apply Split.lst; repeat (first | exact PickL.here | exact PickL.last | apply PickL.there | apply PickL.app))))⟩⟩
  refine o_rd (rd_assign rfl) rfl ?_
  refine o_nil ?_
  refine n_K ?_
  refine s_ret ?_
  refine leaf_is (rets1 Try.results20 (rv_tmp rfl)) ?_ (by repeat (first | exact Split.nil | (apply Split.cons; next => repeat (first | exact Pick.here | apply Pick.there | apply Pick.app)) | (apply Split.chunk; next => repeat (first | exact PickL.here | exact PickL.last | apply PickL.there | apply PickL.app)) | (apply Split.lst; repeat (first | exact PickL.here | exact PickL.last | apply PickL.there | apply PickL.app))))
  rfl
theorem nmay_fn : Does Try.prog 27 [ptr c.aC, .int .i64 i, .int .i64 j] [(c.aP, true, C (pwc c) tPw), (c.aC, true, C (chc c) tCh)] (Is (.int .i64 (mayE c i j)) [(c.aP, true, C (pwc c) tPw), (c.aC, true, C (chc c) tCh)]) := by
  refine fn_enter (n := 30) Try.func27 Try.ntmps27 rfl (Nat.le_of_ble_eq_true rfl) ?_
  refine s_seq ?_
  refine s_region0 (fun ops => ?_)
  refine o_rd (rd_assign rfl) rfl ?_
  refine o_nil ?_
  refine n_K ?_
  refine s_seq ?_
  refine s_block ?_
  refine s_seq ?_
  refine s_region0 (fun ops => ?_)
  refine o_rd (rd_move rfl) rfl ?_
  refine o_rd (rd_nil rfl) rfl ?_
  refine o_rd (rd_field rfl) rfl ?_
  refine o_rd (rd_ld rfl (by repeat' first | exact List.Mem.head _ | apply List.Mem.tail | apply List.mem_append_right) rfl) rfl ?_
  refine c_is rfl (off_fn) (by repeat (first | exact Split.nil | (apply Split.cons; next => repeat (first | exact Pick.here | apply Pick.there | apply Pick.app)) | (apply Split.chunk; next => repeat (first | exact PickL.here | exact PickL.last | apply PickL.there | apply PickL.app)) | (apply Split.lst; repeat (first | exact PickL.here | exact PickL.last | apply PickL.there | apply PickL.app)))) rfl (by repeat (first | exact Ap.nil | apply Ap.cons | apply Ap.app | exact Ap.one)) ?_
  refine o_rd (rd_assign rfl) rfl ?_
  refine o_nil ?_
  refine n_K ?_
  refine s_cond rfl (fun c7 => ?_) (fun c7 => ?_)
  · skip
    refine s_seq ?_
    refine s_region0 (fun ops => ?_)
    refine o_rd (rd_assign rfl) rfl ?_
    refine o_nil ?_
    refine n_K ?_
    refine s_ret ?_
    refine r_blk ?_
    refine r_K ?_
    refine leaf_is (rets1 Try.results27 (rv_tmp rfl)) ?_ (by repeat (first | exact Split.nil | (apply Split.cons; next => repeat (first | exact Pick.here | apply Pick.there | apply Pick.app)) | (apply Split.chunk; next => repeat (first | exact PickL.here | exact PickL.last | apply PickL.there | apply PickL.app)) | (apply Split.lst; repeat (first | exact PickL.here | exact PickL.last | apply PickL.there | apply PickL.app))))
    rw [mayE, if_pos c7]
  · skip
    refine s_seq ?_
    refine s_region0 (fun ops => ?_)
    refine o_rd (rd_move rfl) rfl ?_
    refine c_is rfl (live_fn) (by repeat (first | exact Split.nil | (apply Split.cons; next => repeat (first | exact Pick.here | apply Pick.there | apply Pick.app)) | (apply Split.chunk; next => repeat (first | exact PickL.here | exact PickL.last | apply PickL.there | apply PickL.app)) | (apply Split.lst; repeat (first | exact PickL.here | exact PickL.last | apply PickL.there | apply PickL.app)))) rfl (by repeat (first | exact Ap.nil | apply Ap.cons | apply Ap.app | exact Ap.one)) ?_
    refine o_rd (rd_not rfl) rfl ?_
    refine o_rd (rd_assign rfl) rfl ?_
    refine o_nil ?_
    refine n_K ?_
    refine s_cond rfl (fun c13 => ?_) (fun c13 => ?_)
    · skip
      refine s_seq ?_
      refine s_region0 (fun ops => ?_)
      refine o_rd (rd_assign rfl) rfl ?_
      refine o_nil ?_
      refine n_K ?_
      refine s_ret ?_
      refine r_blk ?_
      refine r_K ?_
      refine leaf_is (rets1 Try.results27 (rv_tmp rfl)) ?_ (by repeat (first | exact Split.nil | (apply Split.cons; next => repeat (first | exact Pick.here | apply Pick.there | apply Pick.app)) | (apply Split.chunk; next => repeat (first | exact PickL.here | exact PickL.last | apply PickL.there | apply PickL.app)) | (apply Split.lst; repeat (first | exact PickL.here | exact PickL.last | apply PickL.there | apply PickL.app))))
      rw [mayE, if_neg (by rw [c7]; exact Bool.false_ne_true), if_pos c13]
    · skip
      refine s_seq ?_
      refine s_region [(4, 22), (8, 26)] rfl (fun ops y => ?_)
      refine o_rd (rd_move rfl) rfl ?_
      refine o_rd (rd_move rfl) rfl ?_
      refine c_is rfl (there_fn) (by repeat (first | exact Split.nil | (apply Split.cons; next => repeat (first | exact Pick.here | apply Pick.there | apply Pick.app)) | (apply Split.chunk; next => repeat (first | exact PickL.here | exact PickL.last | apply PickL.there | apply PickL.app)) | (apply Split.lst; repeat (first | exact PickL.here | exact PickL.last | apply PickL.there | apply PickL.app)))) rfl (by repeat (first | exact Ap.nil | apply Ap.cons | apply Ap.app | exact Ap.one)) ?_
      refine o_rd (rd_not rfl) rfl ?_
      refine o_rd (rd_move rfl) rfl ?_
      refine' o_or (j := 4) (k := 2) y rfl rfl rfl rfl rfl rfl rfl (fun hg22 => ?_) ?_
      rotate_left
      · try simp at hg22
        refine o_g y rfl rfl ?_
        refine o_rd (rd_move rfl) rfl ?_
        refine o_g y rfl rfl ?_
        refine o_rd (rd_bin rfl rfl rfl) rfl ?_
        exact o_nil ⟨rfl, rfl, ⟨_, (by repeat (first | exact Split.nil | (apply Split.cons; next => repeat (first | exact Pick.here | apply Pick.there | apply Pick.app)) | (apply Split.chunk; next => repeat (first | exact PickL.here | exact PickL.last | apply PickL.there | apply PickL.app)) | (apply Split.lst; repeat (first | exact PickL.here | exact PickL.last | apply PickL.there | apply PickL.app))))⟩⟩
      refine o_rd (rd_move rfl) rfl ?_
      refine' o_or (j := 8) (k := 2) y rfl rfl rfl rfl rfl rfl rfl (fun hg26 => ?_) ?_
      rotate_left
      · try simp at hg26
        refine o_g y rfl rfl ?_
        refine o_rd (rd_move rfl) rfl ?_
        refine o_g y rfl rfl ?_
        refine o_rd (rd_bin rfl rfl rfl) rfl ?_
        exact o_nil ⟨rfl, rfl, ⟨_, (by repeat (first | exact Split.nil | (apply Split.cons; next => repeat (first | exact Pick.here | apply Pick.there | apply Pick.app)) | (apply Split.chunk; next => repeat (first | exact PickL.here | exact PickL.last | apply PickL.there | apply PickL.app)) | (apply Split.lst; repeat (first | exact PickL.here | exact PickL.last | apply PickL.there | apply PickL.app))))⟩⟩
      refine o_rd (rd_assign rfl) rfl ?_
      refine o_nil ?_
      refine n_K ?_
      refine s_cond rfl (fun c17 => ?_) (fun c17 => ?_)
      · skip
        refine s_seq ?_
        refine s_region0 (fun ops => ?_)
        refine o_rd (rd_assign rfl) rfl ?_
        refine o_nil ?_
        refine n_K ?_
        refine s_ret ?_
        refine r_blk ?_
        refine r_K ?_
        refine leaf_is (rets1 Try.results27 (rv_tmp rfl)) ?_ (by repeat (first | exact Split.nil | (apply Split.cons; next => repeat (first | exact Pick.here | apply Pick.there | apply Pick.app)) | (apply Split.chunk; next => repeat (first | exact PickL.here | exact PickL.last | apply PickL.there | apply PickL.app)) | (apply Split.lst; repeat (first | exact PickL.here | exact PickL.last | apply PickL.there | apply PickL.app))))
        rw [mayE, if_neg (by rw [c7]; exact Bool.false_ne_true), if_neg (by rw [c13]; exact Bool.false_ne_true), if_pos c17]
      · skip
        refine s_skip ?_
        refine n_blk ?_
        refine n_K ?_
        refine s_seq ?_
        refine s_region0 (fun ops => ?_)
        refine o_rd (rd_assign rfl) rfl ?_
        refine o_nil ?_
        refine n_K ?_
        refine s_ret ?_
        refine leaf_is (rets1 Try.results27 (rv_tmp rfl)) ?_ (by repeat (first | exact Split.nil | (apply Split.cons; next => repeat (first | exact Pick.here | apply Pick.there | apply Pick.app)) | (apply Split.chunk; next => repeat (first | exact PickL.here | exact PickL.last | apply PickL.there | apply PickL.app)) | (apply Split.lst; repeat (first | exact PickL.here | exact PickL.last | apply PickL.there | apply PickL.app))))
        rw [mayE, if_neg (by rw [c7]; exact Bool.false_ne_true), if_neg (by rw [c13]; exact Bool.false_ne_true), if_neg (by rw [c17]; exact Bool.false_ne_true)]
theorem blocks_fn : Does Try.prog 26 [ptr c.aC] (chH c) (Is (.int .i64 c.blocks.length) (chH c)) := by
  rw [chH_eq]
  refine fn_enter (n := 8) Try.func26 Try.ntmps26 rfl (Nat.le_of_ble_eq_true rfl) ?_
  refine s_seq ?_
  refine s_region0 (fun ops => ?_)
  refine o_rd (rd_assign rfl) rfl ?_
  refine o_nil ?_
  refine n_K ?_
  refine s_seq ?_
  refine s_region0 (fun ops => ?_)
  refine o_rd (rd_move rfl) rfl ?_
  refine o_rd (rd_nil rfl) rfl ?_
  refine o_rd (rd_field rfl) rfl ?_
  refine o_rd (rd_ld rfl (by repeat' first | exact List.Mem.head _ | apply List.Mem.tail | apply List.mem_append_right) rfl) rfl ?_
  refine o_rd (rd_lenS rfl) rfl ?_
  refine o_rd (rd_assign rfl) rfl ?_
  refine o_nil ?_
  refine n_K ?_
  refine s_ret ?_
  refine leaf_is (rets1 Try.results26 (rv_tmp rfl)) ?_ (by repeat (first | exact Split.nil | (apply Split.cons; next => repeat (first | exact Pick.here | apply Pick.there | apply Pick.app)) | (apply Split.chunk; next => repeat (first | exact PickL.here | exact PickL.last | apply PickL.there | apply PickL.app)) | (apply Split.lst; repeat (first | exact PickL.here | exact PickL.last | apply PickL.there | apply PickL.app))))
  rfl
theorem read_fn : Does Try.prog 23 [ptr c.aC, .int .i64 i, .int .i64 j] (chH c) (Is (.tuple #[.agg (vbc (readP c i j)).toArray, .int .i64 (mayE c i j)]) (chH c)) := by
  rw [chH_eq]
  refine fn_enter (n := 27) Try.func23 Try.ntmps23 rfl (Nat.le_of_ble_eq_true rfl) ?_
  refine s_seq ?_
  refine s_region0 (fun ops => ?_)
  refine o_alloc rfl (fun b6 => ?_)
  refine o_rd (rd_assign rfl) rfl ?_
  refine o_nil ?_
  refine n_K ?_
  refine s_seq ?_
  refine s_seq ?_
  refine s_region0 (fun ops => ?_)
  refine o_rd (rd_move rfl) rfl ?_
  refine o_rd (rd_move rfl) rfl ?_
  refine o_rd (rd_move rfl) rfl ?_
  refine c_is rfl (nmay_fn) (by repeat (first | exact Split.nil | (apply Split.cons; next => repeat (first | exact Pick.here | apply Pick.there | apply Pick.app)) | (apply Split.chunk; next => repeat (first | exact PickL.here | exact PickL.last | apply PickL.there | apply PickL.app)) | (apply Split.lst; repeat (first | exact PickL.here | exact PickL.last | apply PickL.there | apply PickL.app)))) rfl (by repeat (first | exact Ap.nil | apply Ap.cons | apply Ap.app | exact Ap.one)) ?_
  refine o_rd (rd_assign rfl) rfl ?_
  refine o_nil ?_
  refine n_K ?_
  refine s_seq ?_
  refine s_region0 (fun ops => ?_)
  refine o_rd (rd_move rfl) rfl ?_
  refine o_rd (rd_bin rfl rfl rfl) rfl ?_
  refine o_nil ?_
  refine n_K ?_
  refine s_cond rfl (fun c14 => ?_) (fun c14 => ?_)
  · skip
    refine s_seq ?_
    refine s_region0 (fun ops => ?_)
    refine o_rd (show Rd _ _ _ _ (.agg (vbc zeroP).toArray) from by (rw [← zeroP_eq]; exact rd_zeroA)) rfl ?_
    refine o_rd (rd_move rfl) rfl ?_
    first | refine o_store rfl rfl (by repeat' first | exact Upd.here | apply Upd.there | apply Upd.app) (vc_vb) (vbc_len) (spl_vb (by first | exact vbc_len | exact List.length_replicate ..)) ?_ | refine o_store rfl rfl (by repeat' first | exact Upd.here | apply Upd.there | apply Upd.app) rfl rfl rfl ?_
    refine o_rd (rd_assign rfl) rfl ?_
    refine o_nil ?_
    refine n_K ?_
    refine s_ret ?_
    refine r_K ?_
    refine leaf_is (rets2 Try.results23 (rv_cell rfl (by repeat' first | exact List.Mem.head _ | apply List.Mem.tail | apply List.mem_append_right) (by first | exact cut_vb | rfl)) (rv_tmp rfl)) ?_ (by repeat (first | exact Split.nil | (apply Split.cons; next => repeat (first | exact Pick.here | apply Pick.there | apply Pick.app)) | (apply Split.chunk; next => repeat (first | exact PickL.here | exact PickL.last | apply PickL.there | apply PickL.app)) | (apply Split.lst; repeat (first | exact PickL.here | exact PickL.last | apply PickL.there | apply PickL.app))))
    (have hm : ¬ mayE c i j = 0 := by simpa using c14); rw [readP, if_neg hm]
  · skip
    have hm : mayE c i j = 0 := by simpa using c14
    obtain ⟨m0, m1, m2, m3, _⟩ := may_in hm
    refine s_skip ?_
    refine n_K ?_
    refine s_seq ?_
    refine s_region0 (fun ops => ?_)
    refine o_rd (rd_move rfl) rfl ?_
    refine o_rd (rd_nil rfl) rfl ?_
    refine o_rd (rd_field rfl) rfl ?_
    refine o_rd (rd_ld rfl (by repeat' first | exact List.Mem.head _ | apply List.Mem.tail | apply List.mem_append_right) rfl) rfl ?_
    refine o_rd (rd_move rfl) rfl ?_
    refine o_rd (rd_move rfl) rfl ?_
    refine o_rd (rd_ixS rfl rfl (by omega)) rfl ?_
    refine o_rd (rd_field rfl) rfl ?_
    refine o_rd (rd_ixA rfl rfl (by omega)) rfl ?_
    refine o_rd (rd_ldA rfl (by repeat' first | exact List.Mem.head _ | apply List.Mem.tail | apply List.mem_append_right) (show cut (rowc c.blocks) _ 258 = _ by simpa using cut_page m0 m1 m2 m3)) rfl ?_
    first | refine o_store rfl rfl (by repeat' first | exact Upd.here | apply Upd.there | apply Upd.app) (vc_vb) (vbc_len) (spl_vb (by first | exact vbc_len | exact List.length_replicate ..)) ?_ | refine o_store rfl rfl (by repeat' first | exact Upd.here | apply Upd.there | apply Upd.app) rfl rfl rfl ?_
    refine o_rd (rd_assign rfl) rfl ?_
    refine o_nil ?_
    refine n_K ?_
    refine s_ret ?_
    refine leaf_is (rets2 Try.results23 (rv_cell rfl (by repeat' first | exact List.Mem.head _ | apply List.Mem.tail | apply List.mem_append_right) (by first | exact cut_vb | rfl)) (rv_tmp rfl)) ?_ (by repeat (first | exact Split.nil | (apply Split.cons; next => repeat (first | exact Pick.here | apply Pick.there | apply Pick.app)) | (apply Split.chunk; next => repeat (first | exact PickL.here | exact PickL.last | apply PickL.there | apply PickL.app)) | (apply Split.lst; repeat (first | exact PickL.here | exact PickL.last | apply PickL.there | apply PickL.app))))
    rw [readP, if_pos hm, hm]
end
section
variable {c : Chip} {i j : Int}
theorem ends_fn : Does Try.prog 29 [ptr c.aP] [(c.aP, true, C (pwc c) tPw)] (Is (.bool (endsB c)) [(c.aP, true, C (pwc (endsC c)) tPw)]) := by
  refine fn_enter (n := 27) Try.func29 Try.ntmps29 rfl (Nat.le_of_ble_eq_true rfl) ?_
  refine s_seq ?_
  refine s_region0 (fun ops => ?_)
  refine o_rd (rd_assign rfl) rfl ?_
  refine o_nil ?_
  refine n_K ?_
  refine s_seq ?_
  refine s_seq ?_
  refine s_region0 (fun ops => ?_)
  refine o_rd (rd_move rfl) rfl ?_
  refine o_rd (rd_nil rfl) rfl ?_
  refine o_rd (rd_field rfl) rfl ?_
  refine o_rd (rd_ld rfl (by repeat' first | exact List.Mem.head _ | apply List.Mem.tail | apply List.mem_append_right) rfl) rfl ?_
  refine o_rd (rd_bin rfl rfl rfl) rfl ?_
  refine o_nil ?_
  refine n_K ?_
  refine s_cond rfl (fun c7 => ?_) (fun c7 => ?_)
  · try simp at c7
    refine s_seq ?_
    refine s_region0 (fun ops => ?_)
    refine o_rd (rd_assign rfl) rfl ?_
    refine o_nil ?_
    refine n_K ?_
    refine s_ret ?_
    refine r_K ?_
    refine leaf_is (rets1 Try.results29 (rv_tmp rfl)) ?_ (by first | (rw [pwc_pos c7]; exact (by repeat (first | exact Split.nil | (apply Split.cons; next => repeat (first | exact Pick.here | apply Pick.there | apply Pick.app)) | (apply Split.chunk; next => repeat (first | exact PickL.here | exact PickL.last | apply PickL.there | apply PickL.app)) | (apply Split.lst; repeat (first | exact PickL.here | exact PickL.last | apply PickL.there | apply PickL.app))))) | (rw [pwc_neg c7]; exact (by repeat (first | exact Split.nil | (apply Split.cons; next => repeat (first | exact Pick.here | apply Pick.there | apply Pick.app)) | (apply Split.chunk; next => repeat (first | exact PickL.here | exact PickL.last | apply PickL.there | apply PickL.app)) | (apply Split.lst; repeat (first | exact PickL.here | exact PickL.last | apply PickL.there | apply PickL.app))))))
    simp [endsB, c7]
  · try simp at c7
    refine s_skip ?_
    refine n_K ?_
    refine s_seq ?_
    refine s_region0 (fun ops => ?_)
    refine o_rd (rd_move rfl) rfl ?_
    refine o_rd (rd_move rfl) rfl ?_
    refine o_rd (rd_nil rfl) rfl ?_
    refine o_rd (rd_field rfl) rfl ?_
    refine o_rd (rd_ld rfl (by repeat' first | exact List.Mem.head _ | apply List.Mem.tail | apply List.mem_append_right) rfl) rfl ?_
    refine o_rd (rd_bin rfl rfl rfl) rfl ?_
    refine o_rd (rd_nil rfl) rfl ?_
    refine o_rd (rd_field rfl) rfl ?_
    refine o_store rfl rfl (by repeat' first | exact Upd.here | apply Upd.there | apply Upd.app) rfl rfl rfl ?_
    refine o_nil ?_
    refine n_K ?_
    refine s_seq ?_
    refine s_region0 (fun ops => ?_)
    refine o_rd (rd_move rfl) rfl ?_
    refine o_rd (rd_nil rfl) rfl ?_
    refine o_rd (rd_field rfl) rfl ?_
    refine o_rd (rd_ld rfl (by repeat' first | exact List.Mem.head _ | apply List.Mem.tail | apply List.mem_append_right) rfl) rfl ?_
    refine o_rd (rd_bin rfl rfl rfl) rfl ?_
    refine o_rd (rd_nil rfl) rfl ?_
    refine o_rd (rd_field rfl) rfl ?_
    refine o_store rfl rfl (by repeat' first | exact Upd.here | apply Upd.there | apply Upd.app) rfl rfl rfl ?_
    refine o_nil ?_
    refine n_K ?_
    refine s_seq ?_
    refine s_region0 (fun ops => ?_)
    refine o_rd (rd_move rfl) rfl ?_
    refine o_rd (rd_nil rfl) rfl ?_
    refine o_rd (rd_field rfl) rfl ?_
    refine o_rd (rd_ld rfl (by repeat' first | exact List.Mem.head _ | apply List.Mem.tail | apply List.mem_append_right) rfl) rfl ?_
    refine o_rd (rd_assign rfl) rfl ?_
    refine o_nil ?_
    refine n_K ?_
    refine s_ret ?_
    refine leaf_is (rets1 Try.results29 (rv_tmp rfl)) ?_ (by first | (rw [pwc_pos c7]; exact (by repeat (first | exact Split.nil | (apply Split.cons; next => repeat (first | exact Pick.here | apply Pick.there | apply Pick.app)) | (apply Split.chunk; next => repeat (first | exact PickL.here | exact PickL.last | apply PickL.there | apply PickL.app)) | (apply Split.lst; repeat (first | exact PickL.here | exact PickL.last | apply PickL.there | apply PickL.app))))) | (rw [pwc_neg c7]; exact (by repeat (first | exact Split.nil | (apply Split.cons; next => repeat (first | exact Pick.here | apply Pick.there | apply Pick.app)) | (apply Split.chunk; next => repeat (first | exact PickL.here | exact PickL.last | apply PickL.there | apply PickL.app)) | (apply Split.lst; repeat (first | exact PickL.here | exact PickL.last | apply PickL.there | apply PickL.app))))))
    simp [endsB, c7]
theorem act1_fn : Does Try.prog 28 [.pointer (some ⟨c.aC, 4, none⟩)] ((c.aC, true, C (chc c) tCh) :: (c.pf.hp tI ++ [])) (Is (.bool (failP c)) ((c.aC, true, C (chc (actP c)) tCh) :: (c.pf.hp tI ++ []))) := by
  refine fn_enter (n := 20) Try.func28 Try.ntmps28 rfl (Nat.le_of_ble_eq_true rfl) ?_
  refine s_seq ?_
  refine s_region0 (fun ops => ?_)
  refine o_rd (rd_assign rfl) rfl ?_
  refine o_nil ?_
  refine n_K ?_
  refine s_seq ?_
  refine s_region0 (fun ops => ?_)
  refine o_rd (rd_move rfl) rfl ?_
  refine o_rd (rd_nil rfl) rfl ?_
  refine o_rd (rd_field rfl) rfl ?_
  refine o_rd (rd_ld rfl (by repeat' first | exact List.Mem.head _ | apply List.Mem.tail | apply List.mem_append_right) rfl) rfl ?_
  refine o_rd (rd_bin rfl rfl rfl) rfl ?_
  refine o_rd (rd_nil rfl) rfl ?_
  refine o_rd (rd_field rfl) rfl ?_
  refine o_store rfl rfl (by repeat' first | exact Upd.here | apply Upd.there | apply Upd.app) rfl rfl rfl ?_
  refine o_nil ?_
  refine n_K ?_
  refine s_seq ?_
  refine s_draw [] [(9, [(0, false), (1, false), (2, false), (3, false), (4, false), (5, false), (6, false), (7, false), (8, false)]), (10, [(9, true)]), (11, [(10, false)])] (by kernel_rfl) rfl (fun ops w0 H0 y => ?_)
  refine p_all ?_
  refine x_rd (rd_move rfl) rfl ?_
  refine x_rd (rd_nil rfl) rfl ?_
  refine x_rd (rd_field rfl) rfl ?_
  refine x_rd (rd_ld rfl (by repeat' first | exact List.Mem.head _ | apply List.Mem.tail | apply List.mem_append_right) rfl) rfl ?_
  refine x_rd (rd_move rfl) rfl ?_
  refine x_rd (rd_nil rfl) rfl ?_
  refine x_rd (rd_field rfl) rfl ?_
  refine x_rd (rd_ld rfl (by repeat' first | exact List.Mem.head _ | apply List.Mem.tail | apply List.mem_append_right) rfl) rfl ?_
  refine x_rd (rd_bin rfl rfl rfl) rfl ?_
  refine x_nil ?_
  refine p_none ?_
  refine x_so ?_
  refine c_is rfl (contains_fn) (by repeat (first | exact Split.nil | (apply Split.cons; next => repeat (first | exact Pick.here | apply Pick.there | apply Pick.app)) | (apply Split.chunk; next => repeat (first | exact PickL.here | exact PickL.last | apply PickL.there | apply PickL.app)) | (apply Split.lst; repeat (first | exact PickL.here | exact PickL.last | apply PickL.there | apply PickL.app)))) rfl (by repeat (first | exact Ap.nil | apply Ap.cons | apply Ap.app | exact Ap.one)) ?_
  refine o_nil ⟨rfl, ⟨_, (by repeat (first | exact Split.nil | (apply Split.cons; next => repeat (first | exact Pick.here | apply Pick.there | apply Pick.app)) | (apply Split.chunk; next => repeat (first | exact PickL.here | exact PickL.last | apply PickL.there | apply PickL.app)) | (apply Split.lst; repeat (first | exact PickL.here | exact PickL.last | apply PickL.there | apply PickL.app))))⟩, ?_⟩
  refine x_nil ?_
  refine p_all ?_
  refine x_rd (rd_assign rfl) rfl ?_
  refine x_nil ?_
  refine p_end ?_
  refine n_K ?_
  refine s_ret ?_
  refine leaf_is (rets1 Try.results28 (rv_tmp rfl)) ?_ (by repeat (first | exact Split.nil | (apply Split.cons; next => repeat (first | exact Pick.here | apply Pick.there | apply Pick.app)) | (apply Split.chunk; next => repeat (first | exact PickL.here | exact PickL.last | apply PickL.there | apply PickL.app)) | (apply Split.lst; repeat (first | exact PickL.here | exact PickL.last | apply PickL.there | apply PickL.app))))
  rfl
theorem act2_fn : Does Try.prog 28 [.pointer (some ⟨c.aC, 6, none⟩)] ((c.aC, true, C (chc c) tCh) :: (c.wf.hp tI ++ [])) (Is (.bool (failW c)) ((c.aC, true, C (chc (actW c)) tCh) :: (c.wf.hp tI ++ []))) := by
  refine fn_enter (n := 20) Try.func28 Try.ntmps28 rfl (Nat.le_of_ble_eq_true rfl) ?_
  refine s_seq ?_
  refine s_region0 (fun ops => ?_)
  refine o_rd (rd_assign rfl) rfl ?_
  refine o_nil ?_
  refine n_K ?_
  refine s_seq ?_
  refine s_region0 (fun ops => ?_)
  refine o_rd (rd_move rfl) rfl ?_
  refine o_rd (rd_nil rfl) rfl ?_
  refine o_rd (rd_field rfl) rfl ?_
  refine o_rd (rd_ld rfl (by repeat' first | exact List.Mem.head _ | apply List.Mem.tail | apply List.mem_append_right) rfl) rfl ?_
  refine o_rd (rd_bin rfl rfl rfl) rfl ?_
  refine o_rd (rd_nil rfl) rfl ?_
  refine o_rd (rd_field rfl) rfl ?_
  refine o_store rfl rfl (by repeat' first | exact Upd.here | apply Upd.there | apply Upd.app) rfl rfl rfl ?_
  refine o_nil ?_
  refine n_K ?_
  refine s_seq ?_
  refine s_draw [] [(9, [(0, false), (1, false), (2, false), (3, false), (4, false), (5, false), (6, false), (7, false), (8, false)]), (10, [(9, true)]), (11, [(10, false)])] (by kernel_rfl) rfl (fun ops w0 H0 y => ?_)
  refine p_all ?_
  refine x_rd (rd_move rfl) rfl ?_
  refine x_rd (rd_nil rfl) rfl ?_
  refine x_rd (rd_field rfl) rfl ?_
  refine x_rd (rd_ld rfl (by repeat' first | exact List.Mem.head _ | apply List.Mem.tail | apply List.mem_append_right) rfl) rfl ?_
  refine x_rd (rd_move rfl) rfl ?_
  refine x_rd (rd_nil rfl) rfl ?_
  refine x_rd (rd_field rfl) rfl ?_
  refine x_rd (rd_ld rfl (by repeat' first | exact List.Mem.head _ | apply List.Mem.tail | apply List.mem_append_right) rfl) rfl ?_
  refine x_rd (rd_bin rfl rfl rfl) rfl ?_
  refine x_nil ?_
  refine p_none ?_
  refine x_so ?_
  refine c_is rfl (contains_fn) (by repeat (first | exact Split.nil | (apply Split.cons; next => repeat (first | exact Pick.here | apply Pick.there | apply Pick.app)) | (apply Split.chunk; next => repeat (first | exact PickL.here | exact PickL.last | apply PickL.there | apply PickL.app)) | (apply Split.lst; repeat (first | exact PickL.here | exact PickL.last | apply PickL.there | apply PickL.app)))) rfl (by repeat (first | exact Ap.nil | apply Ap.cons | apply Ap.app | exact Ap.one)) ?_
  refine o_nil ⟨rfl, ⟨_, (by repeat (first | exact Split.nil | (apply Split.cons; next => repeat (first | exact Pick.here | apply Pick.there | apply Pick.app)) | (apply Split.chunk; next => repeat (first | exact PickL.here | exact PickL.last | apply PickL.there | apply PickL.app)) | (apply Split.lst; repeat (first | exact PickL.here | exact PickL.last | apply PickL.there | apply PickL.app))))⟩, ?_⟩
  refine x_nil ?_
  refine p_all ?_
  refine x_rd (rd_assign rfl) rfl ?_
  refine x_nil ?_
  refine p_end ?_
  refine n_K ?_
  refine s_ret ?_
  refine leaf_is (rets1 Try.results28 (rv_tmp rfl)) ?_ (by repeat (first | exact Split.nil | (apply Split.cons; next => repeat (first | exact Pick.here | apply Pick.there | apply Pick.app)) | (apply Split.chunk; next => repeat (first | exact PickL.here | exact PickL.last | apply PickL.there | apply PickL.app)) | (apply Split.lst; repeat (first | exact PickL.here | exact PickL.last | apply PickL.there | apply PickL.app))))
  rfl
end
theorem write_fn {pb k i : Nat} {n : Int} {l : List Blk} {b : Blk} {d : Pg} (hk : l[k]? = some b) (hi : i < 8) :
    Does Try.prog 70 [.pointer (some ⟨pb, k * 2066, none⟩), .int .i64 (i : Int), .int .i64 n, .agg (vbc d).toArray] [(pb, true, C (rowc l) tBk)]
      (Is (.tuple #[]) [(pb, true, C (rowc (l.set k (wrB b i (clampN n 258) d hi))) tBk)]) := by
  refine fn_enter (n := 32) Try.func70 Try.ntmps70 rfl (Nat.le_of_ble_eq_true rfl) ?_
  refine s_seq ?_
  refine s_region0 (fun ops => ?_)
  refine o_boxA rfl rfl (fun b7 => ?_)
  refine o_nil ?_
  refine n_K ?_
  refine s_seq ?_
  refine s_region0 (fun ops => ?_)
  refine o_rd (rd_move rfl) rfl ?_
  refine o_rd (rd_max rfl rfl) rfl ?_
  refine o_rd (rd_min rfl rfl) rfl ?_
  refine o_rd (rd_move rfl) rfl ?_
  refine o_nil ?_
  refine n_K ?_
  refine s_block ?_
  have hset : l.set k (wrB b i 0 d hi) = l := by (rw [wrB_0]; have := List.getElem?_eq_some_iff.1 hk; obtain ⟨h1, rfl⟩ := this; exact List.set_getElem_self h1)
  rw [← congrArg rowc hset]
  have hmm : (min (max n 0) 258) = (clampN n 258 : Nat) ∧ clampN n 258 ≤ 258 := by unfold clampN; omega
  refine s_loop2 [0, 1, 7, 11] (by repeat' first | exact Keep2.nil | apply Keep2.cons rfl) (fun (s : Nat) => [(12, .int .i64 s)]) (fun (s : Nat) => [(b7, true, C (vbc d) 57), (pb, true, C (rowc (l.set k (wrB b i s d hi))) tBk)]) (fun (s : Nat) => s ≤ clampN n 258) (fun (s : Nat) => clampN n 258 - s) ((0 : Nat)) (by omega) (by repeat' first | exact Keep.nil | refine Keep.cons rfl ?_) (by repeat (first | exact Split.nil | (apply Split.cons; next => repeat (first | exact Pick.here | apply Pick.there | apply Pick.app)) | (apply Split.chunk; next => repeat (first | exact PickL.here | exact PickL.last | apply PickL.there | apply PickL.app)) | (apply Split.lst; repeat (first | exact PickL.here | exact PickL.last | apply PickL.there | apply PickL.app)))) ?_
  rintro j h0
  refine s_seq ?_
  refine s_region0 (fun ops => ?_)
  refine o_rd (rd_bin rfl rfl rfl) rfl ?_
  refine o_nil ?_
  refine n_K ?_
  refine s_seq ?_
  refine s_cond rfl (fun c13 => ?_) (fun c13 => ?_)
  · simp only [decide_eq_true_eq, decide_eq_false_iff_not] at c13; rw [hmm.1] at c13
    have hj : j < 258 := by omega
    refine s_skip ?_
    refine n_K ?_
    refine s_seq ?_
    refine s_block ?_
    refine s_seq ?_
    refine s_region0 (fun ops => ?_)
    refine o_rd (rd_move rfl) rfl ?_
    refine o_rd (rd_assign rfl) rfl ?_
    refine o_nil ?_
    refine n_K ?_
    refine s_draw [] [(16, [(0, false), (1, false), (2, false), (3, false), (4, false), (5, false), (6, false), (7, false), (8, false), (9, false), (10, false), (11, false), (12, false), (13, false), (14, false), (15, false)]), (17, [(16, true)])] (by kernel_rfl) rfl (fun ops w0 H0 y => ?_)
    refine p_all ?_
    refine x_rd (rd_move rfl) rfl ?_
    refine x_rd (rd_move rfl) rfl ?_
    refine x_rd (rd_move rfl) rfl ?_
    refine x_rd (rd_nil rfl) rfl ?_
    refine x_rd (rd_field rfl) rfl ?_
    refine x_rd (rd_ixA rfl rfl (by omega)) rfl ?_
    refine x_rd (rd_ixA rfl rfl (by omega)) rfl ?_
    refine x_rd (rd_ld rfl (by repeat' first | exact List.Mem.head _ | apply List.Mem.tail | apply List.mem_append_right) (show nth _ _ = some (bv b.pages[i][j]) by simpa [Nat.add_assoc] using wr_at hk hi hj)) rfl ?_
    refine x_rd (rd_move rfl) rfl ?_
    refine x_rd (rd_ixA rfl rfl (by omega)) rfl ?_
    refine x_rd (rd_ld rfl (by repeat' first | exact List.Mem.head _ | apply List.Mem.tail | apply List.mem_append_right) (show nth _ _ = some (bv d[j]) by simpa using nth_vb (p := d) hj)) rfl ?_
    refine x_rd (show Rd _ _ _ _ (bv (b.pages[i][j] &&& d[j])) from by (unfold bv; rw [← and_by]; exact rd_bin rfl rfl rfl)) rfl ?_
    refine x_rd (rd_nil rfl) rfl ?_
    refine x_rd (rd_field rfl) rfl ?_
    refine x_rd (rd_ixA rfl rfl (by omega)) rfl ?_
    refine x_rd (rd_ixA rfl rfl (by omega)) rfl ?_
    refine x_nil ?_
    refine p_none ?_
    refine x_so ?_
    refine o_store (cs' := rowc (l.set k (wrB b i (j + 1) d hi))) rfl rfl (by repeat' first | exact Upd.here | apply Upd.there | apply Upd.app) rfl rfl (by simpa [Nat.add_assoc] using wr_step hk hi hj) ?_
    refine o_nil ⟨rfl, ⟨_, (by repeat (first | exact Split.nil | (apply Split.cons; next => repeat (first | exact Pick.here | apply Pick.there | apply Pick.app)) | (apply Split.chunk; next => repeat (first | exact PickL.here | exact PickL.last | apply PickL.there | apply PickL.app)) | (apply Split.lst; repeat (first | exact PickL.here | exact PickL.last | apply PickL.there | apply PickL.app))))⟩, ?_⟩
    refine x_nil ?_
    refine p_end ?_
    refine n_blk ?_
    refine n_K ?_
    refine s_region0 (fun ops => ?_)
    refine o_rd (rd_add64 rfl rfl (by omega)) rfl ?_
    refine o_rd (rd_move rfl) rfl ?_
    refine o_nil ?_
    refine n_K ?_
    exact ⟨j + 1, (by omega), (by omega), (by repeat' first | exact Keep.nil | refine Keep.cons rfl ?_), (by repeat' first | exact Keep.nil | refine Keep.cons rfl ?_), _, (by repeat (first | exact Split.nil | (apply Split.cons; next => repeat (first | exact Pick.here | apply Pick.there | apply Pick.app)) | (apply Split.chunk; next => repeat (first | exact PickL.here | exact PickL.last | apply PickL.there | apply PickL.app)) | (apply Split.lst; repeat (first | exact PickL.here | exact PickL.last | apply PickL.there | apply PickL.app))))⟩
  · simp only [decide_eq_true_eq, decide_eq_false_iff_not] at c13; rw [hmm.1] at c13
    refine s_exit ?_
    refine x_K ?_
    refine x_K ?_
    refine x_blk ?_
    refine leaf_isN (ret0 Try.results70) ?_ (by rw [show j = clampN n 258 by omega]; repeat (first | exact Split.nil | (apply Split.cons; next => repeat (first | exact Pick.here | apply Pick.there))))
    rfl
theorem wipe_fn {pb k : Nat} {n : Int} {l : List Blk} {b : Blk} (hk : l[k]? = some b) :
    Does Try.prog 22 [.pointer (some ⟨pb, k * 2066, none⟩), .int .i64 n] [(pb, true, C (rowc l) tBk)]
      (Is (.tuple #[]) [(pb, true, C (rowc (l.set k (wipeB b (clampN n 8)))) tBk)]) := by
  refine fn_enter (n := 18) Try.func22 Try.ntmps22 rfl (Nat.le_of_ble_eq_true rfl) ?_
  refine s_seq ?_
  refine s_region0 (fun ops => ?_)
  refine o_rd (rd_move rfl) rfl ?_
  refine o_rd (rd_max rfl rfl) rfl ?_
  refine o_rd (rd_min rfl rfl) rfl ?_
  refine o_rd (rd_move rfl) rfl ?_
  refine o_nil ?_
  refine n_K ?_
  refine s_block ?_
  have hset : l.set k (wipeB b 0) = l := by (rw [wipeB_0]; have := List.getElem?_eq_some_iff.1 hk; obtain ⟨h1, rfl⟩ := this; exact List.set_getElem_self h1)
  rw [← congrArg rowc hset]
  have hmm : (min (max n 0) 8) = (clampN n 8 : Nat) ∧ clampN n 8 ≤ 8 := by unfold clampN; omega
  refine s_loop2 [0, 7] (by repeat' first | exact Keep2.nil | apply Keep2.cons rfl) (fun (s : Nat) => [(8, .int .i64 s)]) (fun (s : Nat) => [(pb, true, C (rowc (l.set k (wipeB b s))) tBk)]) (fun (s : Nat) => s ≤ clampN n 8) (fun (s : Nat) => clampN n 8 - s) ((0 : Nat)) (by omega) (by repeat' first | exact Keep.nil | refine Keep.cons rfl ?_) (by repeat (first | exact Split.nil | (apply Split.cons; next => repeat (first | exact Pick.here | apply Pick.there | apply Pick.app)) | (apply Split.chunk; next => repeat (first | exact PickL.here | exact PickL.last | apply PickL.there | apply PickL.app)) | (apply Split.lst; repeat (first | exact PickL.here | exact PickL.last | apply PickL.there | apply PickL.app)))) ?_
  rintro j h0
  refine s_seq ?_
  refine s_region0 (fun ops => ?_)
  refine o_rd (rd_bin rfl rfl rfl) rfl ?_
  refine o_nil ?_
  refine n_K ?_
  refine s_seq ?_
  refine s_cond rfl (fun c9 => ?_) (fun c9 => ?_)
  · simp only [decide_eq_true_eq, decide_eq_false_iff_not] at c9; rw [hmm.1] at c9
    have hj : j < 8 := by omega
    refine s_skip ?_
    refine n_K ?_
    refine s_seq ?_
    refine s_block ?_
    refine s_seq ?_
    refine s_region0 (fun ops => ?_)
    refine o_rd (rd_move rfl) rfl ?_
    refine o_rd (rd_assign rfl) rfl ?_
    refine o_nil ?_
    refine n_K ?_
    refine s_draw [] [(5, [(0, false), (1, false), (3, false), (4, false), (2, true)]), (6, [(5, false)]), (7, [(6, true)])] (by kernel_rfl) rfl (fun ops w0 H0 y => ?_)
    refine p_all ?_
    refine x_rd (rd_move rfl) rfl ?_
    refine x_rd (rd_move rfl) rfl ?_
    refine x_rd (rd_nil rfl) rfl ?_
    refine x_rd (rd_field rfl) rfl ?_
    refine x_so ?_
    refine c_is rfl (blank_fn) (by repeat (first | exact Split.nil | (apply Split.cons; next => repeat (first | exact Pick.here | apply Pick.there | apply Pick.app)) | (apply Split.chunk; next => repeat (first | exact PickL.here | exact PickL.last | apply PickL.there | apply PickL.app)) | (apply Split.lst; repeat (first | exact PickL.here | exact PickL.last | apply PickL.there | apply PickL.app)))) rfl (by repeat (first | exact Ap.nil | apply Ap.cons | apply Ap.app | exact Ap.one)) ?_
    refine o_nil ⟨rfl, ⟨_, (by repeat (first | exact Split.nil | (apply Split.cons; next => repeat (first | exact Pick.here | apply Pick.there | apply Pick.app)) | (apply Split.chunk; next => repeat (first | exact PickL.here | exact PickL.last | apply PickL.there | apply PickL.app)) | (apply Split.lst; repeat (first | exact PickL.here | exact PickL.last | apply PickL.there | apply PickL.app))))⟩, ?_⟩
    refine x_nil ?_
    refine p_all ?_
    refine x_rd (rd_ixA rfl rfl (by omega)) rfl ?_
    refine x_nil ?_
    refine p_none ?_
    refine x_so ?_
    refine o_store (cs' := rowc (l.set k (wipeB b (j + 1)))) rfl rfl (by repeat' first | exact Upd.here | apply Upd.there | apply Upd.app) vc_vb vbc_len (by simpa [Nat.add_assoc] using wipe_step hk hj) ?_
    refine o_nil ⟨rfl, ⟨_, (by repeat (first | exact Split.nil | (apply Split.cons; next => repeat (first | exact Pick.here | apply Pick.there | apply Pick.app)) | (apply Split.chunk; next => repeat (first | exact PickL.here | exact PickL.last | apply PickL.there | apply PickL.app)) | (apply Split.lst; repeat (first | exact PickL.here | exact PickL.last | apply PickL.there | apply PickL.app))))⟩, ?_⟩
    refine x_nil ?_
    refine p_end ?_
    refine n_blk ?_
    refine n_K ?_
    refine s_region0 (fun ops => ?_)
    refine o_rd (rd_add64 rfl rfl (by omega)) rfl ?_
    refine o_rd (rd_move rfl) rfl ?_
    refine o_nil ?_
    refine n_K ?_
    exact ⟨j + 1, (by omega), (by omega), (by repeat' first | exact Keep.nil | refine Keep.cons rfl ?_), (by repeat' first | exact Keep.nil | refine Keep.cons rfl ?_), _, (by repeat (first | exact Split.nil | (apply Split.cons; next => repeat (first | exact Pick.here | apply Pick.there | apply Pick.app)) | (apply Split.chunk; next => repeat (first | exact PickL.here | exact PickL.last | apply PickL.there | apply PickL.app)) | (apply Split.lst; repeat (first | exact PickL.here | exact PickL.last | apply PickL.there | apply PickL.app))))⟩
  · simp only [decide_eq_true_eq, decide_eq_false_iff_not] at c9; rw [hmm.1] at c9
    refine s_exit ?_
    refine x_K ?_
    refine x_K ?_
    refine x_blk ?_
    refine leaf_isN (ret0 Try.results22) ?_ (by rw [show j = clampN n 8 by omega]; repeat (first | exact Split.nil | (apply Split.cons; next => repeat (first | exact Pick.here | apply Pick.there))))
    rfl
section
variable {c : Chip} {i j : Int}
theorem bad_fn : Does Try.prog 13 [ptr c.aC, .int .i64 i] (chH c) (Is (.bool (thereB c i && badAt c i)) (chH c)) := by
  rw [chH_eq]
  refine fn_enter (n := 18) Try.func13 Try.ntmps13 rfl (Nat.le_of_ble_eq_true rfl) ?_
  refine s_seq ?_
  refine s_region0 (fun ops => ?_)
  refine o_rd (rd_assign rfl) rfl ?_
  refine o_nil ?_
  refine n_K ?_
  refine s_seq ?_
  refine s_region [(3, 8)] rfl (fun ops y => ?_)
  refine o_rd (rd_move rfl) rfl ?_
  refine o_rd (rd_move rfl) rfl ?_
  refine c_is rfl (there_fn) (by repeat (first | exact Split.nil | (apply Split.cons; next => repeat (first | exact Pick.here | apply Pick.there | apply Pick.app)) | (apply Split.chunk; next => repeat (first | exact PickL.here | exact PickL.last | apply PickL.there | apply PickL.app)) | (apply Split.lst; repeat (first | exact PickL.here | exact PickL.last | apply PickL.there | apply PickL.app)))) rfl (by repeat (first | exact Ap.nil | apply Ap.cons | apply Ap.app | exact Ap.one)) ?_
  refine o_rd (rd_move rfl) rfl ?_
  refine' o_and (j := 3) (k := 8) y rfl rfl rfl rfl rfl rfl rfl (fun hg8 => ?_) ?_
  rotate_left
  · try simp at hg8
    refine o_g y rfl rfl ?_
    refine o_rd (rd_move rfl) rfl ?_
    refine o_g y rfl rfl ?_
    refine o_rd (rd_nil rfl) rfl ?_
    refine o_g y rfl rfl ?_
    refine o_rd (rd_field rfl) rfl ?_
    refine o_g y rfl rfl ?_
    refine o_rd (rd_ld rfl (by repeat' first | exact List.Mem.head _ | apply List.Mem.tail | apply List.mem_append_right) rfl) rfl ?_
    refine o_g y rfl rfl ?_
    refine o_rd (rd_move rfl) rfl ?_
    refine o_g y rfl rfl ?_
    refine o_rd (rd_ixS rfl rfl (there_in hg8)) rfl ?_
    refine o_g y rfl rfl ?_
    refine o_rd (rd_field rfl) rfl ?_
    refine o_g y rfl rfl ?_
    refine o_rd (rd_ld rfl (by repeat' first | exact List.Mem.head _ | apply List.Mem.tail | apply List.mem_append_right) (show nth _ _ = some (.bool (badAt c i)) by simpa [Nat.add_assoc] using bad_at hg8)) rfl ?_
    exact o_nil ⟨rfl, rfl, ⟨_, (by repeat (first | exact Split.nil | (apply Split.cons; next => repeat (first | exact Pick.here | apply Pick.there | apply Pick.app)) | (apply Split.chunk; next => repeat (first | exact PickL.here | exact PickL.last | apply PickL.there | apply PickL.app)) | (apply Split.lst; repeat (first | exact PickL.here | exact PickL.last | apply PickL.there | apply PickL.app))))⟩⟩
  refine o_rd (rd_assign rfl) rfl ?_
  refine o_nil ?_
  refine n_K ?_
  refine s_ret ?_
  refine leaf_is (rets1 Try.results13 (rv_tmp rfl)) ?_ (by repeat (first | exact Split.nil | (apply Split.cons; next => repeat (first | exact Pick.here | apply Pick.there | apply Pick.app)) | (apply Split.chunk; next => repeat (first | exact PickL.here | exact PickL.last | apply PickL.there | apply PickL.app)) | (apply Split.lst; repeat (first | exact PickL.here | exact PickL.last | apply PickL.there | apply PickL.app))))
  rfl
end
end Go.Proofs.Ytdfidkhbldedlaa
