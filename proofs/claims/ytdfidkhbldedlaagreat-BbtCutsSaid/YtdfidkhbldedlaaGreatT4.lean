/- Walks of package bbt: what tables tell; losing, swapping. -/
import Derived.Test.YtdfidkhbldedlaaGreatT3
namespace Go.Proofs.YtdfidkhbldedlaaGreat
open Go.K
set_option linter.unusedVariables false
set_option linter.unusedSimpArgs false
instance ent40 : Ent Tryz.prog 40 := ⟨fun _ _ => by kernel_rfl⟩
instance ent41 : Ent Tryz.prog 41 := ⟨fun _ _ => by kernel_rfl⟩
instance ent42 : Ent Tryz.prog 42 := ⟨fun _ _ => by kernel_rfl⟩
instance ent55 : Ent Tryz.prog 55 := ⟨fun _ _ => by kernel_rfl⟩
instance ent56 : Ent Tryz.prog 56 := ⟨fun _ _ => by kernel_rfl⟩
instance ent58 : Ent Tryz.prog 58 := ⟨fun _ _ => by kernel_rfl⟩
instance ent80 : Ent Tryz.prog 80 := ⟨fun _ _ => by kernel_rfl⟩
instance ent81 : Ent Tryz.prog 81 := ⟨fun _ _ => by kernel_rfl⟩

section
variable {c : Chip} {a : Nat} {t : Tab}
theorem tlen_fn : Does Tryz.prog 41 [ptr t.b] (tabH a t) (Is (.int .i64 t.u.list.length) (tabH a t)) := by
  rw [tabH_eq]
  refine fn_enter (n := 9) Tryz.func41 Tryz.ntmps41 rfl (Nat.le_of_ble_eq_true rfl) ?_
  refine s_seq ?_
  refine s_region0 (fun ops => ?_)
  refine o_rd (rd_assign rfl) rfl ?_
  refine o_nil ?_
  refine n_K ?_
  refine s_seq ?_
  refine s_region0 (fun ops => ?_)
  refine o_rd (rd_move rfl) rfl ?_
  refine o_rd (rd_nil rfl) rfl ?_
  refine o_rd (rd_field rfl) rfl ?_
  refine o_rd (rd_field rfl) rfl ?_
  refine o_rd (rd_ld rfl (by repeat' first | exact List.Mem.head _ | apply List.Mem.tail | apply List.mem_append_right) rfl) rfl ?_
  refine o_rd (rd_lenS rfl) rfl ?_
  refine o_rd (rd_assign rfl) rfl ?_
  refine o_nil ?_
  refine n_K ?_
  refine s_ret ?_
  refine leaf_is (rets1 Tryz.results41 (rv_tmp rfl)) ?_ (by repeat (first | exact Split.nil | (apply Split.cons; next => repeat (first | exact Pick.here | apply Pick.there | apply Pick.app)) | (apply Split.chunk; next => repeat (first | exact PickL.here | exact PickL.last | apply PickL.there | apply PickL.app)) | (apply Split.lst; repeat (first | exact PickL.here | exact PickL.last | apply PickL.there | apply PickL.app))))
  rfl
theorem tlen0_fn : Does Tryz.prog 41 [ptr t.b] [(t.b, true, C (tabC a t) tTb)] (Is (.int .i64 t.u.list.length) [(t.b, true, C (tabC a t) tTb)]) := by
  refine fn_enter (n := 9) Tryz.func41 Tryz.ntmps41 rfl (Nat.le_of_ble_eq_true rfl) ?_
  refine s_seq ?_
  refine s_region0 (fun ops => ?_)
  refine o_rd (rd_assign rfl) rfl ?_
  refine o_nil ?_
  refine n_K ?_
  refine s_seq ?_
  refine s_region0 (fun ops => ?_)
  refine o_rd (rd_move rfl) rfl ?_
  refine o_rd (rd_nil rfl) rfl ?_
  refine o_rd (rd_field rfl) rfl ?_
  refine o_rd (rd_field rfl) rfl ?_
  refine o_rd (rd_ld rfl (by repeat' first | exact List.Mem.head _ | apply List.Mem.tail | apply List.mem_append_right) rfl) rfl ?_
  refine o_rd (rd_lenS rfl) rfl ?_
  refine o_rd (rd_assign rfl) rfl ?_
  refine o_nil ?_
  refine n_K ?_
  refine s_ret ?_
  refine leaf_is (rets1 Tryz.results41 (rv_tmp rfl)) ?_ (by repeat (first | exact Split.nil | (apply Split.cons; next => repeat (first | exact Pick.here | apply Pick.there | apply Pick.app)) | (apply Split.chunk; next => repeat (first | exact PickL.here | exact PickL.last | apply PickL.there | apply PickL.app)) | (apply Split.lst; repeat (first | exact PickL.here | exact PickL.last | apply PickL.there | apply PickL.app))))
  rfl
theorem tlost_fn : Does Tryz.prog 42 [ptr t.b] (tabH a t) (Is (.int .i64 t.l.list.length) (tabH a t)) := by
  rw [tabH_eq]
  refine fn_enter (n := 9) Tryz.func42 Tryz.ntmps42 rfl (Nat.le_of_ble_eq_true rfl) ?_
  refine s_seq ?_
  refine s_region0 (fun ops => ?_)
  refine o_rd (rd_assign rfl) rfl ?_
  refine o_nil ?_
  refine n_K ?_
  refine s_seq ?_
  refine s_region0 (fun ops => ?_)
  refine o_rd (rd_move rfl) rfl ?_
  refine o_rd (rd_nil rfl) rfl ?_
  refine o_rd (rd_field rfl) rfl ?_
  refine o_rd (rd_field rfl) rfl ?_
  refine o_rd (rd_ld rfl (by repeat' first | exact List.Mem.head _ | apply List.Mem.tail | apply List.mem_append_right) rfl) rfl ?_
  refine o_rd (rd_lenS rfl) rfl ?_
  refine o_rd (rd_assign rfl) rfl ?_
  refine o_nil ?_
  refine n_K ?_
  refine s_ret ?_
  refine leaf_is (rets1 Tryz.results42 (rv_tmp rfl)) ?_ (by repeat (first | exact Split.nil | (apply Split.cons; next => repeat (first | exact Pick.here | apply Pick.there | apply Pick.app)) | (apply Split.chunk; next => repeat (first | exact PickL.here | exact PickL.last | apply PickL.there | apply PickL.app)) | (apply Split.lst; repeat (first | exact PickL.here | exact PickL.last | apply PickL.there | apply PickL.app))))
  rfl
theorem at_fn {i : Int} : Does Tryz.prog 40 [ptr t.b, .int .i64 i] (tabH a t) (Is (.tuple #[.int .i64 (atT t.ts i).1, .bool (atT t.ts i).2]) (tabH a t)) := by
  rw [tabH_eq]
  refine fn_enter (n := 22) Tryz.func40 Tryz.ntmps40 rfl (Nat.le_of_ble_eq_true rfl) ?_
  refine s_seq ?_
  refine s_region0 (fun ops => ?_)
  refine o_rd (rd_assign rfl) rfl ?_
  refine o_rd (rd_assign rfl) rfl ?_
  refine o_nil ?_
  refine n_K ?_
  refine s_seq ?_
  refine s_seq ?_
  refine s_region [(2, 8)] rfl (fun ops y => ?_)
  refine o_rd (rd_move rfl) rfl ?_
  refine o_rd (rd_bin rfl rfl rfl) rfl ?_
  refine o_rd (rd_move rfl) rfl ?_
  refine' o_or (j := 2) (k := 4) y rfl rfl rfl rfl rfl rfl rfl (fun hg8 => ?_) ?_
  rotate_left
  · try simp at hg8
    refine o_g y rfl rfl ?_
    refine o_rd (rd_move rfl) rfl ?_
    refine o_g y rfl rfl ?_
    refine o_rd (rd_move rfl) rfl ?_
    refine o_g y rfl rfl ?_
    refine c_is rfl (tlen0_fn (a := a) (t := t)) (by repeat (first | exact Split.nil | (apply Split.cons; next => repeat (first | exact Pick.here | apply Pick.there | apply Pick.app)) | (apply Split.chunk; next => repeat (first | exact PickL.here | exact PickL.last | apply PickL.there | apply PickL.app)) | (apply Split.lst; repeat (first | exact PickL.here | exact PickL.last | apply PickL.there | apply PickL.app)))) rfl (by repeat (first | exact Ap.nil | apply Ap.cons | apply Ap.app | exact Ap.one)) ?_
    refine o_g y rfl rfl ?_
    refine o_rd (rd_bin rfl rfl rfl) rfl ?_
    exact o_nil ⟨rfl, rfl, ⟨_, (by repeat (first | exact Split.nil | (apply Split.cons; next => repeat (first | exact Pick.here | apply Pick.there | apply Pick.app)) | (apply Split.chunk; next => repeat (first | exact PickL.here | exact PickL.last | apply PickL.there | apply PickL.app)) | (apply Split.lst; repeat (first | exact PickL.here | exact PickL.last | apply PickL.there | apply PickL.app))))⟩⟩
  refine o_nil ?_
  refine n_K ?_
  refine s_cond rfl (fun c13 => ?_) (fun c13 => ?_)
  · skip
    have hres : atT t.ts i = (0, false) := (by unfold atT; exact if_pos c13)
    refine s_seq ?_
    refine s_region0 (fun ops => ?_)
    refine o_rd (rd_assign rfl) rfl ?_
    refine o_rd (rd_assign rfl) rfl ?_
    refine o_nil ?_
    refine n_K ?_
    refine s_ret ?_
    refine r_K ?_
    refine leaf_is (rets2 Tryz.results40 (rv_tmp rfl) (rv_tmp rfl)) ?_ (by repeat (first | exact Split.nil | (apply Split.cons; next => repeat (first | exact Pick.here | apply Pick.there | apply Pick.app)) | (apply Split.chunk; next => repeat (first | exact PickL.here | exact PickL.last | apply PickL.there | apply PickL.app)) | (apply Split.lst; repeat (first | exact PickL.here | exact PickL.last | apply PickL.there | apply PickL.app))))
    rw [hres]
  · skip
    have hres : atT t.ts i = (at0 t.u.list i, true) := (by unfold atT; rw [if_neg (by rw [show t.ts.uses = t.u.list from rfl, c13]; exact Bool.false_ne_true)]; rfl)
    have hi : 0 ≤ i ∧ i < t.u.list.length := (by simp at c13; omega)
    refine s_skip ?_
    refine n_K ?_
    refine s_seq ?_
    refine s_region0 (fun ops => ?_)
    refine o_rd (rd_move rfl) rfl ?_
    refine o_rd (rd_nil rfl) rfl ?_
    refine o_rd (rd_field rfl) rfl ?_
    refine o_rd (rd_field rfl) rfl ?_
    refine o_rd (rd_ld rfl (by repeat' first | exact List.Mem.head _ | apply List.Mem.tail | apply List.mem_append_right) rfl) rfl ?_
    refine o_rd (rd_move rfl) rfl ?_
    refine o_rd (rd_ixSl rfl rfl hi) rfl ?_
    refine o_rd (rd_ldSl (o := 0) rfl (by repeat (first | exact PickL.here | exact PickL.last | apply PickL.there | apply PickL.app)) (at0_get hi.1 hi.2) rfl rfl) rfl ?_
    refine o_rd (rd_assign rfl) rfl ?_
    refine o_rd (rd_assign rfl) rfl ?_
    refine o_nil ?_
    refine n_K ?_
    refine s_ret ?_
    refine leaf_is (rets2 Tryz.results40 (rv_tmp rfl) (rv_tmp rfl)) ?_ (by repeat (first | exact Split.nil | (apply Split.cons; next => repeat (first | exact Pick.here | apply Pick.there | apply Pick.app)) | (apply Split.chunk; next => repeat (first | exact PickL.here | exact PickL.last | apply PickL.there | apply PickL.app)) | (apply Split.lst; repeat (first | exact PickL.here | exact PickL.last | apply PickL.there | apply PickL.app))))
    rw [hres]
theorem spare_fn (ha : c.aC = a) {b : Int} : Does Tryz.prog 80 [ptr t.b, .int .i64 b] (tabH a t ++ (chH c ++ [])) (Is (.bool (spareB t.ts c.blocks.length b)) (tabH a t ++ (chH c ++ []))) := by
  rw [tabH_eq]; simp only [List.cons_append, List.append_assoc, List.nil_append]
  refine fn_enter (n := 36) Tryz.func80 Tryz.ntmps80 rfl (Nat.le_of_ble_eq_true rfl) ?_
  refine s_seq ?_
  refine s_region0 (fun ops => ?_)
  refine o_rd (rd_assign rfl) rfl ?_
  refine o_nil ?_
  refine n_K ?_
  refine s_seq ?_
  refine s_region [(2, 7), (11, 16), (21, 26)] rfl (fun ops y => ?_)
  refine o_rd (rd_move rfl) rfl ?_
  refine o_rd (rd_bin rfl rfl rfl) rfl ?_
  refine o_rd (rd_move rfl) rfl ?_
  refine' o_and (j := 2) (k := 7) y rfl rfl rfl rfl rfl rfl rfl (fun hg7 => ?_) ?_
  rotate_left
  · try simp at hg7
    refine o_g y rfl rfl ?_
    refine o_rd (rd_move rfl) rfl ?_
    refine o_g y rfl rfl ?_
    refine o_rd (rd_move rfl) rfl ?_
    refine o_g y rfl rfl ?_
    refine o_rd (rd_nil rfl) rfl ?_
    refine o_g y rfl rfl ?_
    refine o_rd (rd_field rfl) rfl ?_
    refine o_g y rfl rfl ?_
    refine o_rd (rd_ld rfl (by repeat' first | exact List.Mem.head _ | apply List.Mem.tail | apply List.mem_append_right) rfl) rfl ?_
    refine o_g y rfl rfl ?_
    refine c_is rfl (blocks_a ha) (by repeat (first | exact Split.nil | (apply Split.cons; next => repeat (first | exact Pick.here | apply Pick.there | apply Pick.app)) | (apply Split.chunk; next => repeat (first | exact PickL.here | exact PickL.last | apply PickL.there | apply PickL.app)) | (apply Split.lst; repeat (first | exact PickL.here | exact PickL.last | apply PickL.there | apply PickL.app)))) rfl (by repeat (first | exact Ap.nil | apply Ap.cons | apply Ap.app | exact Ap.one)) ?_
    refine o_g y rfl rfl ?_
    refine o_rd (rd_bin rfl rfl rfl) rfl ?_
    exact o_nil ⟨rfl, rfl, ⟨_, (by repeat (first | exact Split.nil | (apply Split.cons; next => repeat (first | exact Pick.here | apply Pick.there | apply Pick.app)) | (apply Split.chunk; next => repeat (first | exact PickL.here | exact PickL.last | apply PickL.there | apply PickL.app)) | (apply Split.lst; repeat (first | exact PickL.here | exact PickL.last | apply PickL.there | apply PickL.app))))⟩⟩
  refine o_rd (rd_move rfl) rfl ?_
  refine' o_and (j := 11) (k := 8) y rfl rfl rfl rfl rfl rfl rfl (fun hg16 => ?_) ?_
  rotate_left
  · try simp at hg16
    refine o_g y rfl rfl ?_
    refine o_rd (rd_move rfl) rfl ?_
    refine o_g y rfl rfl ?_
    refine o_rd (rd_nil rfl) rfl ?_
    refine o_g y rfl rfl ?_
    refine o_rd (rd_field rfl) rfl ?_
    refine o_g y rfl rfl ?_
    refine o_rd (rd_field rfl) rfl ?_
    refine o_g y rfl rfl ?_
    refine o_rd (rd_ld rfl (by repeat' first | exact List.Mem.head _ | apply List.Mem.tail | apply List.mem_append_right) rfl) rfl ?_
    refine o_g y rfl rfl ?_
    refine o_rd (rd_move rfl) rfl ?_
    refine o_g y rfl rfl ?_
    refine c_is rfl (contains_fn (s := t.u) (T := tI)) (by repeat (first | exact Split.nil | (apply Split.cons; next => repeat (first | exact Pick.here | apply Pick.there | apply Pick.app)) | (apply Split.chunk; next => repeat (first | exact PickL.here | exact PickL.last | apply PickL.there | apply PickL.app)) | (apply Split.lst; repeat (first | exact PickL.here | exact PickL.last | apply PickL.there | apply PickL.app)))) rfl (by repeat (first | exact Ap.nil | apply Ap.cons | apply Ap.app | exact Ap.one)) ?_
    refine o_g y rfl rfl ?_
    refine o_rd (rd_not rfl) rfl ?_
    exact o_nil ⟨rfl, rfl, ⟨_, (by repeat (first | exact Split.nil | (apply Split.cons; next => repeat (first | exact Pick.here | apply Pick.there | apply Pick.app)) | (apply Split.chunk; next => repeat (first | exact PickL.here | exact PickL.last | apply PickL.there | apply PickL.app)) | (apply Split.lst; repeat (first | exact PickL.here | exact PickL.last | apply PickL.there | apply PickL.app))))⟩⟩
  refine o_rd (rd_move rfl) rfl ?_
  refine' o_and (j := 21) (k := 8) y rfl rfl rfl rfl rfl rfl rfl (fun hg26 => ?_) ?_
  rotate_left
  · try simp at hg26
    refine o_g y rfl rfl ?_
    refine o_rd (rd_move rfl) rfl ?_
    refine o_g y rfl rfl ?_
    refine o_rd (rd_nil rfl) rfl ?_
    refine o_g y rfl rfl ?_
    refine o_rd (rd_field rfl) rfl ?_
    refine o_g y rfl rfl ?_
    refine o_rd (rd_field rfl) rfl ?_
    refine o_g y rfl rfl ?_
    refine o_rd (rd_ld rfl (by repeat' first | exact List.Mem.head _ | apply List.Mem.tail | apply List.mem_append_right) rfl) rfl ?_
    refine o_g y rfl rfl ?_
    refine o_rd (rd_move rfl) rfl ?_
    refine o_g y rfl rfl ?_
    refine c_is rfl (contains_fn (s := t.l) (T := tI)) (by repeat (first | exact Split.nil | (apply Split.cons; next => repeat (first | exact Pick.here | apply Pick.there | apply Pick.app)) | (apply Split.chunk; next => repeat (first | exact PickL.here | exact PickL.last | apply PickL.there | apply PickL.app)) | (apply Split.lst; repeat (first | exact PickL.here | exact PickL.last | apply PickL.there | apply PickL.app)))) rfl (by repeat (first | exact Ap.nil | apply Ap.cons | apply Ap.app | exact Ap.one)) ?_
    refine o_g y rfl rfl ?_
    refine o_rd (rd_not rfl) rfl ?_
    exact o_nil ⟨rfl, rfl, ⟨_, (by repeat (first | exact Split.nil | (apply Split.cons; next => repeat (first | exact Pick.here | apply Pick.there | apply Pick.app)) | (apply Split.chunk; next => repeat (first | exact PickL.here | exact PickL.last | apply PickL.there | apply PickL.app)) | (apply Split.lst; repeat (first | exact PickL.here | exact PickL.last | apply PickL.there | apply PickL.app))))⟩⟩
  refine o_rd (rd_assign rfl) rfl ?_
  refine o_nil ?_
  refine n_K ?_
  refine s_ret ?_
  refine leaf_is (rets1 Tryz.results80 (rv_tmp rfl)) ?_ (by repeat (first | exact Split.nil | (apply Split.cons; next => repeat (first | exact Pick.here | apply Pick.there | apply Pick.app)) | (apply Split.chunk; next => repeat (first | exact PickL.here | exact PickL.last | apply PickL.there | apply PickL.app)) | (apply Split.lst; repeat (first | exact PickL.here | exact PickL.last | apply PickL.there | apply PickL.app))))
  rfl
theorem spareM_fn (ha : c.aC = a) (hn : c.blocks.length ≤ 1000) : Does Tryz.prog 58 [ptr t.b] (tabH a t ++ (chH c ++ [])) (Is (.tuple #[.int .i64 (spareV t.ts c.blocks.length).1, .bool (spareV t.ts c.blocks.length).2]) (tabH a t ++ (chH c ++ []))) := by
  rw [tabH_eq]; simp only [List.cons_append, List.append_assoc, List.nil_append]
  refine fn_enter (n := 18) Tryz.func58 Tryz.ntmps58 rfl (Nat.le_of_ble_eq_true rfl) ?_
  refine s_seq ?_
  refine s_region0 (fun ops => ?_)
  refine o_rd (rd_assign rfl) rfl ?_
  refine o_rd (rd_assign rfl) rfl ?_
  refine o_nil ?_
  refine n_K ?_
  refine s_seq ?_
  refine s_seq ?_
  refine s_region0 (fun ops => ?_)
  refine o_rd (rd_move rfl) rfl ?_
  refine o_rd (rd_nil rfl) rfl ?_
  refine o_rd (rd_field rfl) rfl ?_
  refine o_rd (rd_ld rfl (by repeat' first | exact List.Mem.head _ | apply List.Mem.tail | apply List.mem_append_right) rfl) rfl ?_
  refine c_is rfl (blocks_a ha) (by repeat (first | exact Split.nil | (apply Split.cons; next => repeat (first | exact Pick.here | apply Pick.there | apply Pick.app)) | (apply Split.chunk; next => repeat (first | exact PickL.here | exact PickL.last | apply PickL.there | apply PickL.app)) | (apply Split.lst; repeat (first | exact PickL.here | exact PickL.last | apply PickL.there | apply PickL.app)))) rfl (by repeat (first | exact Ap.nil | apply Ap.cons | apply Ap.app | exact Ap.one)) ?_
  refine o_rd (rd_move rfl) rfl ?_
  refine o_nil ?_
  refine n_K ?_
  refine s_block ?_
  refine s_loop2E [0, 9] (by repeat' first | exact Keep2.nil | apply Keep2.cons rfl) (fun (i : Nat) => [(10, .int .i64 i)]) (fun (i : Nat) => i ≤ c.blocks.length ∧ ∀ k < i, spareB t.ts c.blocks.length k = false) (fun (i : Nat) => c.blocks.length - i) ((0 : Nat)) ⟨Nat.zero_le _, fun k hk => by omega⟩ (by repeat' first | exact Keep.nil | refine Keep.cons rfl ?_) ?_
  rintro i ⟨h0, h1⟩
  refine s_seq ?_
  refine s_region0 (fun ops => ?_)
  refine o_rd (rd_bin rfl rfl rfl) rfl ?_
  refine o_nil ?_
  refine n_K ?_
  refine s_seq ?_
  refine s_cond rfl (fun c11 => ?_) (fun c11 => ?_)
  · simp only [decide_eq_true_eq, decide_eq_false_iff_not] at c11
    refine s_skip ?_
    refine n_K ?_
    refine s_seq ?_
    refine s_block ?_
    refine s_seq ?_
    refine s_region0 (fun ops => ?_)
    refine o_rd (rd_move rfl) rfl ?_
    refine o_rd (rd_assign rfl) rfl ?_
    refine o_nil ?_
    refine n_K ?_
    refine s_seq ?_
    refine s_region0 (fun ops => ?_)
    refine o_rd (rd_move rfl) rfl ?_
    refine o_rd (rd_move rfl) rfl ?_
    refine c_is rfl ((by have h := spare_fn (t := t) ha (b := (i : Int)); rw [tabH_eq] at h; simp only [List.cons_append, List.append_assoc, List.nil_append] at h; exact h)) (by repeat (first | exact Split.nil | (apply Split.cons; next => repeat (first | exact Pick.here | apply Pick.there | apply Pick.app)) | (apply Split.chunk; next => repeat (first | exact PickL.here | exact PickL.last | apply PickL.there | apply PickL.app)) | (apply Split.lst; repeat (first | exact PickL.here | exact PickL.last | apply PickL.there | apply PickL.app)))) rfl (by repeat (first | exact Ap.nil | apply Ap.cons | apply Ap.app | exact Ap.one)) ?_
    refine o_nil ?_
    refine n_K ?_
    refine s_cond rfl (fun c15 => ?_) (fun c15 => ?_)
    · skip
      have hres := spare_found (by omega) h1 c15
      refine s_seq ?_
      refine s_region0 (fun ops => ?_)
      refine o_rd (rd_move rfl) rfl ?_
      refine o_rd (rd_assign rfl) rfl ?_
      refine o_rd (rd_assign rfl) rfl ?_
      refine o_nil ?_
      refine n_K ?_
      refine s_ret ?_
      refine r_blk ?_
      refine r_K ?_
      refine r_K ?_
      refine r_blk ?_
      refine r_K ?_
      refine leaf_is (rets2 Tryz.results58 (rv_tmp rfl) (rv_tmp rfl)) ?_ (by repeat (first | exact Split.nil | (apply Split.cons; next => repeat (first | exact Pick.here | apply Pick.there | apply Pick.app)) | (apply Split.chunk; next => repeat (first | exact PickL.here | exact PickL.last | apply PickL.there | apply PickL.app)) | (apply Split.lst; repeat (first | exact PickL.here | exact PickL.last | apply PickL.there | apply PickL.app))))
      rw [hres]
    · skip
      refine s_skip ?_
      refine n_blk ?_
      refine n_K ?_
      refine s_region0 (fun ops => ?_)
      refine o_rd (rd_add64 rfl rfl (by omega)) rfl ?_
      refine o_rd (rd_move rfl) rfl ?_
      refine o_nil ?_
      refine n_K ?_
      exact ⟨i + 1, ⟨by omega, fun k hk => by rcases Nat.lt_or_ge k i with h | h; exact h1 k h; rw [show k = i by omega]; exact c15⟩, (by omega), (by repeat' first | exact Keep.nil | refine Keep.cons rfl ?_), (by repeat' first | exact Keep.nil | refine Keep.cons rfl ?_), _, (by repeat (first | exact Split.nil | (apply Split.cons; next => repeat (first | exact Pick.here | apply Pick.there | apply Pick.app)) | (apply Split.chunk; next => repeat (first | exact PickL.here | exact PickL.last | apply PickL.there | apply PickL.app)) | (apply Split.lst; repeat (first | exact PickL.here | exact PickL.last | apply PickL.there | apply PickL.app))))⟩
  · simp only [decide_eq_true_eq, decide_eq_false_iff_not] at c11
    have hres := spare_none (t := t.ts) (n := c.blocks.length) (fun k hk => h1 k (by omega))
    refine s_exit ?_
    refine x_K ?_
    refine x_K ?_
    refine x_blk ?_
    refine n_K ?_
    refine s_seq ?_
    refine s_region0 (fun ops => ?_)
    refine o_rd (rd_assign rfl) rfl ?_
    refine o_rd (rd_assign rfl) rfl ?_
    refine o_nil ?_
    refine n_K ?_
    refine s_ret ?_
    refine leaf_is (rets2 Tryz.results58 (rv_tmp rfl) (rv_tmp rfl)) ?_ (by repeat (first | exact Split.nil | (apply Split.cons; next => repeat (first | exact Pick.here | apply Pick.there | apply Pick.app)) | (apply Split.chunk; next => repeat (first | exact PickL.here | exact PickL.last | apply PickL.there | apply PickL.app)) | (apply Split.lst; repeat (first | exact PickL.here | exact PickL.last | apply PickL.there | apply PickL.app))))
    rw [hres]
theorem lose_fn {b : Int} (hu : t.u.list.length ≤ 1000) (hl : t.l.list.length ≤ 11) : Does Tryz.prog 81 [ptr t.b, .int .i64 b] (tabH a t) (fun v H => ∃ u l : Sl Int, v = .agg #[u.val, l.val] ∧ H = u.hp tI ++ (l.hp tI ++ (tabH a t ++ [])) ∧ u.list = t.u.list ∧ l.list.Perm (t.l.list ++ [b]) ∧ u.isOwn = true ∧ l.isOwn = true) := by
  rw [tabH_eq]
  refine fn_enter (n := 21) Tryz.func81 Tryz.ntmps81 rfl (Nat.le_of_ble_eq_true rfl) ?_
  refine s_seq ?_
  refine s_region0 (fun ops => ?_)
  refine o_alloc rfl (fun b4 => ?_)
  refine o_nil ?_
  refine n_K ?_
  refine s_seq ?_
  refine s_region0 (fun ops => ?_)
  refine o_rd (rd_move rfl) rfl ?_
  refine o_rd (rd_nil rfl) rfl ?_
  refine o_rd (rd_field rfl) rfl ?_
  refine o_rd (rd_ldA rfl (by repeat' first | exact List.Mem.head _ | apply List.Mem.tail | apply List.mem_append_right) rfl) rfl ?_
  refine c_ex rfl (copied_fn (u := t.u) (l := t.l) hu (by omega)) (by repeat (first | exact Split.nil | (apply Split.cons; next => repeat (first | exact Pick.here | apply Pick.there | apply Pick.app)) | (apply Split.chunk; next => repeat (first | exact PickL.here | exact PickL.last | apply PickL.there | apply PickL.app)) | (apply Split.lst; repeat (first | exact PickL.here | exact PickL.last | apply PickL.there | apply PickL.app)))) rfl (fun v10 Y10 h10 => ?_)
  obtain ⟨u10, l10, rfl, rfl, hu10, hl10, ou10, ol10⟩ := h10
  refine so_ap (by repeat (first | exact Ap.nil | apply Ap.cons | apply Ap.app | exact Ap.one)) ?_
  refine o_alloc rfl (fun b5 => ?_)
  refine o_store rfl rfl (by repeat' first | exact Upd.here | apply Upd.there | apply Upd.app) rfl rfl rfl ?_
  refine o_nil ?_
  refine n_K ?_
  refine s_seq ?_
  refine s_region0 (fun ops => ?_)
  refine o_rd (rd_field rfl) rfl ?_
  refine o_rd (rd_ld rfl (by repeat' first | exact List.Mem.head _ | apply List.Mem.tail | apply List.mem_append_right) rfl) rfl ?_
  refine o_rd (rd_move rfl) rfl ?_
  refine o_bslice_k rfl rfl rfl rfl (fun b14 => ?_)
  refine o_append_sl (s := l10) (new := [b]) (m := 1) rfl rfl (by repeat (first | exact PickL.here | exact PickL.last | apply PickL.there | apply PickL.app)) ol10 (src_blk (r := true) (by repeat' first | exact List.Mem.head _ | apply List.Mem.tail | apply List.mem_append_right) rfl) rfl rfl rfl rfl (by rw [hl10]; omega) rfl (fun s15 hs1 hs2 => ?_)
  refine o_rd (rd_field rfl) rfl ?_
  refine o_store rfl rfl (by repeat' first | exact Upd.here | apply Upd.there | apply Upd.app) rfl rfl rfl ?_
  refine o_nil ?_
  refine n_K ?_
  refine s_seq ?_
  refine s_region0 (fun ops => ?_)
  refine o_rd (rd_field rfl) rfl ?_
  refine o_rd (rd_ld rfl (by repeat' first | exact List.Mem.head _ | apply List.Mem.tail | apply List.mem_append_right) rfl) rfl ?_
  refine c_ex rfl (sort_fn (s := s15) hs2 (by rw [hs1, hl10]; simp; omega)) (by repeat (first | exact Split.nil | (apply Split.cons; next => repeat (first | exact Pick.here | apply Pick.there | apply Pick.app)) | (apply Split.chunk; next => repeat (first | exact PickL.here | exact PickL.last | apply PickL.there | apply PickL.app)) | (apply Split.lst; repeat (first | exact PickL.here | exact PickL.last | apply PickL.there | apply PickL.app)))) rfl (fun v19 Y19 h19 => ?_)
  obtain ⟨rfl, l19, rfl, hv19, ho19, hp19⟩ := h19
  refine so_ap (by repeat (first | exact Ap.nil | apply Ap.cons | apply Ap.app | exact Ap.one)) ?_
  refine o_nil ?_
  refine n_K ?_
  refine s_seq ?_
  refine s_region0 (fun ops => ?_)
  refine o_rd (rd_ldA rfl (by repeat' first | exact List.Mem.head _ | apply List.Mem.tail | apply List.mem_append_right) rfl) rfl ?_
  refine o_store rfl rfl (by repeat' first | exact Upd.here | apply Upd.there | apply Upd.app) rfl rfl rfl ?_
  refine o_nil ?_
  refine n_K ?_
  refine s_ret ?_
  exact leaf_r (rets1 Tryz.results81 (rv_cell rfl (by repeat' first | exact List.Mem.head _ | apply List.Mem.tail | apply List.mem_append_right) rfl)) (by exact ⟨u10, l19, by rw [hv19], rfl, hu10, by rw [← hl10, ← hs1]; exact hp19, ou10, ho19⟩) (by simp only [List.cons_append, List.append_assoc, List.nil_append]; exact (by repeat (first | exact Split.nil | (apply Split.cons; next => repeat (first | exact Pick.here | apply Pick.there | apply Pick.app)) | (apply Split.chunk; next => repeat (first | exact PickL.here | exact PickL.last | apply PickL.there | apply PickL.app)) | (apply Split.lst; repeat (first | exact PickL.here | exact PickL.last | apply PickL.there | apply PickL.app)))))
/-- What is known behind a plan was kept. -/
def KeptR (a : Nat) (t : Tab) (c : Chip) (uses lost : List Int) (v : Value) (H : Hp) : Prop :=
  ∃ (t' : Tab) (lost' : List Int), t'.b = t.b ∧ lost'.Perm lost ∧ v = .int .i64 (keepC t.ts uses lost' c).1 ∧ H = tabH a t' ++ (chH (keepC t.ts uses lost' c).2.2 ++ []) ∧ t'.ts = (keepC t.ts uses lost' c).2.1
theorem kept_leaf {u uses l lost : List Int} {t' : Tab} {v : Value} (hb : t'.b = t.b) (hP : l.Perm lost) (hu : u = uses) (hv : v = .int .i64 (keepC t.ts u l c).1) (hts : t'.ts = (keepC t.ts u l c).2.1) : KeptR a t c uses lost v (tabH a t' ++ (chH (keepC t.ts u l c).2.2 ++ [])) := by
  subst hu; exact ⟨t', l, hb, hP, hv, rfl, hts⟩
theorem spareO_fn (ha : c.aC = a) {b : Int} : Does Tryz.prog 80 [ptr t.b, .int .i64 b] ((t.b, true, C (tabC a t) tTb) :: (t.u.hp tI ++ (t.l.hp tI ++ (chH c ++ [])))) (Is (.bool (spareB t.ts c.blocks.length b)) ((t.b, true, C (tabC a t) tTb) :: (t.u.hp tI ++ (t.l.hp tI ++ (chH c ++ []))))) := by
  have h := spare_fn (t := t) ha (b := b)
  rw [tabH_eq] at h; simp only [List.cons_append, List.append_assoc, List.nil_append] at h; exact h
theorem loseO_fn {b : Int} (hu : t.u.list.length ≤ 1000) (hl : t.l.list.length ≤ 11) : Does Tryz.prog 81 [ptr t.b, .int .i64 b] ((t.b, true, C (tabC a t) tTb) :: (t.u.hp tI ++ (t.l.hp tI ++ []))) (fun v H => ∃ u l : Sl Int, v = .agg #[u.val, l.val] ∧ H = u.hp tI ++ (l.hp tI ++ ((t.b, true, C (tabC a t) tTb) :: (t.u.hp tI ++ (t.l.hp tI ++ [])))) ∧ u.list = t.u.list ∧ l.list.Perm (t.l.list ++ [b]) ∧ u.isOwn = true ∧ l.isOwn = true) := by
  have h := lose_fn (t := t) (a := a) (b := b) hu hl
  rw [tabH_eq] at h; simp only [List.cons_append, List.append_assoc, List.nil_append] at h; exact h
theorem loseM_fn (ha : c.aC = a) {b : Int} (hu : t.u.list.length ≤ 1000) (hl : t.l.list.length ≤ 11) (hn : 0 ≤ t.next) (har : 0 ≤ t.area ∧ t.area ≤ 1) : Does Tryz.prog 55 [ptr t.b, .int .i64 b] (tabH a t ++ (chH c ++ []))
    (fun v H => if spareB t.ts c.blocks.length b = true then KeptR a t c t.u.list (t.l.list ++ [b]) v H else v = .int .i64 1 ∧ H = tabH a t ++ (chH c ++ [])) := by
  rw [tabH_eq]; simp only [List.cons_append, List.append_assoc, List.nil_append]
  refine fn_enter (n := 14) Tryz.func55 Tryz.ntmps55 rfl (Nat.le_of_ble_eq_true rfl) ?_
  refine s_seq ?_
  refine s_region0 (fun ops => ?_)
  refine o_rd (rd_assign rfl) rfl ?_
  refine o_nil ?_
  refine n_K ?_
  refine s_seq ?_
  refine s_seq ?_
  refine s_region0 (fun ops => ?_)
  refine o_rd (rd_move rfl) rfl ?_
  refine o_rd (rd_move rfl) rfl ?_
  refine c_is rfl (spareO_fn (t := t) ha) (by repeat (first | exact Split.nil | (apply Split.cons; next => repeat (first | exact Pick.here | apply Pick.there | apply Pick.app)) | (apply Split.chunk; next => repeat (first | exact PickL.here | exact PickL.last | apply PickL.there | apply PickL.app)) | (apply Split.lst; repeat (first | exact PickL.here | exact PickL.last | apply PickL.there | apply PickL.app)))) rfl (by repeat (first | exact Ap.nil | apply Ap.cons | apply Ap.app | exact Ap.one)) ?_
  refine o_rd (rd_not rfl) rfl ?_
  refine o_nil ?_
  refine n_K ?_
  refine s_cond rfl (fun c8 => ?_) (fun c8 => ?_)
  · skip
    refine s_seq ?_
    refine s_region0 (fun ops => ?_)
    refine o_rd (rd_assign rfl) rfl ?_
    refine o_nil ?_
    refine n_K ?_
    refine s_ret ?_
    refine r_K ?_
    exact leaf_r (rets1 Tryz.results55 (rv_tmp rfl)) (by rw [if_neg (by simpa using c8)]; exact ⟨rfl, rfl⟩) (by repeat (first | exact Split.nil | (apply Split.cons; next => repeat (first | exact Pick.here | apply Pick.there | apply Pick.app)) | (apply Split.chunk; next => repeat (first | exact PickL.here | exact PickL.last | apply PickL.there | apply PickL.app)) | (apply Split.lst; repeat (first | exact PickL.here | exact PickL.last | apply PickL.there | apply PickL.app))))
  · skip
    refine s_skip ?_
    refine n_K ?_
    refine s_seq ?_
    refine s_region0 (fun ops => ?_)
    refine o_rd (rd_move rfl) rfl ?_
    refine o_rd (rd_move rfl) rfl ?_
    refine o_rd (rd_move rfl) rfl ?_
    refine c_ex rfl (loseO_fn (t := t) (a := a) hu hl) (by repeat (first | exact Split.nil | (apply Split.cons; next => repeat (first | exact Pick.here | apply Pick.there | apply Pick.app)) | (apply Split.chunk; next => repeat (first | exact PickL.here | exact PickL.last | apply PickL.there | apply PickL.app)) | (apply Split.lst; repeat (first | exact PickL.here | exact PickL.last | apply PickL.there | apply PickL.app)))) rfl (fun v12 Y12 h12 => ?_)
    obtain ⟨u12, l12, rfl, rfl, hu12, hl12, ou12, ol12⟩ := h12
    refine so_ap (by repeat (first | exact Ap.nil | apply Ap.cons | apply Ap.app | exact Ap.one)) ?_
    refine c_ex rfl (keep2_fn (t := t) (u := u12) (l := l12) ha (by rw [hu12]; exact hu) (by rw [hl12.length_eq]; simp; omega) hn har) (by repeat (first | exact Split.nil | (apply Split.cons; next => repeat (first | exact Pick.here | apply Pick.there | apply Pick.app)) | (apply Split.chunk; next => repeat (first | exact PickL.here | exact PickL.last | apply PickL.there | apply PickL.app)) | (apply Split.lst; repeat (first | exact PickL.here | exact PickL.last | apply PickL.there | apply PickL.app)))) rfl (fun v13 Y13 h13 => ?_)
    rcases h13 with ⟨t', e1, e2, e3, rfl, rfl, e4, e5⟩ | ⟨e, rfl, e1, rfl, e4, e5⟩
    all_goals
      refine so_ap (by repeat (first | exact Ap.nil | apply Ap.cons | apply Ap.app | exact Ap.one)) ?_
      refine o_rd (rd_assign rfl) rfl ?_
      refine o_nil ?_
      refine n_K ?_
      refine s_ret ?_
      exact leaf_r (rets1 Tryz.results55 (rv_tmp rfl)) (by rw [if_pos (by simpa using c8)]; first | exact kept_leaf e1 hl12 hu12 (by rw [e4]) e5 | exact kept_leaf (t' := t) rfl hl12 hu12 (by rw [e4]) e5) (by rw [tabH_eq]; simp only [List.cons_append, List.append_assoc, List.nil_append]; first | (rw [e2, e3]; exact (by repeat (first | exact Split.nil | (apply Split.cons; next => repeat (first | exact Pick.here | apply Pick.there | apply Pick.app)) | (apply Split.chunk; next => repeat (first | exact PickL.here | exact PickL.last | apply PickL.there | apply PickL.app)) | (apply Split.lst; repeat (first | exact PickL.here | exact PickL.last | apply PickL.there | apply PickL.app))))) | exact (by repeat (first | exact Split.nil | (apply Split.cons; next => repeat (first | exact Pick.here | apply Pick.there | apply Pick.app)) | (apply Split.chunk; next => repeat (first | exact PickL.here | exact PickL.last | apply PickL.there | apply PickL.app)) | (apply Split.lst; repeat (first | exact PickL.here | exact PickL.last | apply PickL.there | apply PickL.app)))))
theorem swap_fn (ha : c.aC = a) {i b : Int} (hu : t.u.list.length ≤ 1000) (hl : t.l.list.length ≤ 11) (hn : 0 ≤ t.next) (har : 0 ≤ t.area ∧ t.area ≤ 1) : Does Tryz.prog 56 [ptr t.b, .int .i64 i, .int .i64 b] (tabH a t ++ (chH c ++ []))
    (fun v H => if ((atT t.ts i).2 && spareB t.ts c.blocks.length b) = true then KeptR a t c (t.u.list.set i.toNat b) (t.l.list ++ [at0 t.u.list i]) v H else v = .int .i64 1 ∧ H = tabH a t ++ (chH c ++ [])) := by
  refine fn_enter (n := 35) Tryz.func56 Tryz.ntmps56 rfl (Nat.le_of_ble_eq_true rfl) ?_
  refine s_seq ?_
  refine s_region0 (fun ops => ?_)
  refine o_rd (rd_assign rfl) rfl ?_
  refine o_nil ?_
  refine n_K ?_
  refine s_seq ?_
  refine s_region0 (fun ops => ?_)
  refine o_rd (rd_move rfl) rfl ?_
  refine o_rd (rd_move rfl) rfl ?_
  refine c_is rfl (at_fn (t := t)) (by repeat (first | exact Split.nil | (apply Split.cons; next => repeat (first | exact Pick.here | apply Pick.there | apply Pick.app)) | (apply Split.chunk; next => repeat (first | exact PickL.here | exact PickL.last | apply PickL.there | apply PickL.app)) | (apply Split.lst; repeat (first | exact PickL.here | exact PickL.last | apply PickL.there | apply PickL.app)))) rfl (by repeat (first | exact Ap.nil | apply Ap.cons | apply Ap.app | exact Ap.one)) ?_
  refine o_rd (rd_move rfl) rfl ?_
  refine o_rd (rd_extract rfl rfl) rfl ?_
  refine o_rd (rd_extract rfl rfl) rfl ?_
  refine o_rd (rd_assign rfl) rfl ?_
  refine o_rd (rd_assign rfl) rfl ?_
  refine o_nil ?_
  refine n_K ?_
  refine s_seq ?_
  refine s_seq ?_
  refine s_region [(2, 18)] rfl (fun ops y => ?_)
  refine o_rd (rd_move rfl) rfl ?_
  refine o_rd (rd_not rfl) rfl ?_
  refine o_rd (rd_move rfl) rfl ?_
  refine' o_or (j := 2) (k := 4) y rfl rfl rfl rfl rfl rfl rfl (fun hg18 => ?_) ?_
  rotate_left
  · try simp at hg18
    refine o_g y rfl rfl ?_
    refine o_rd (rd_move rfl) rfl ?_
    refine o_g y rfl rfl ?_
    refine o_rd (rd_move rfl) rfl ?_
    refine o_g y rfl rfl ?_
    refine c_is rfl (spare_fn (t := t) ha) (by repeat (first | exact Split.nil | (apply Split.cons; next => repeat (first | exact Pick.here | apply Pick.there | apply Pick.app)) | (apply Split.chunk; next => repeat (first | exact PickL.here | exact PickL.last | apply PickL.there | apply PickL.app)) | (apply Split.lst; repeat (first | exact PickL.here | exact PickL.last | apply PickL.there | apply PickL.app)))) rfl (by repeat (first | exact Ap.nil | apply Ap.cons | apply Ap.app | exact Ap.one)) ?_
    refine o_g y rfl rfl ?_
    refine o_rd (rd_not rfl) rfl ?_
    exact o_nil ⟨rfl, rfl, ⟨_, (by repeat (first | exact Split.nil | (apply Split.cons; next => repeat (first | exact Pick.here | apply Pick.there | apply Pick.app)) | (apply Split.chunk; next => repeat (first | exact PickL.here | exact PickL.last | apply PickL.there | apply PickL.app)) | (apply Split.lst; repeat (first | exact PickL.here | exact PickL.last | apply PickL.there | apply PickL.app))))⟩⟩
  refine o_nil ?_
  refine n_K ?_
  refine s_cond rfl (fun c23 => ?_) (fun c23 => ?_)
  · skip
    have hc : ¬ ((atT t.ts i).2 && spareB t.ts c.blocks.length b) = true := (by simp at c23 ⊢; intro h; rcases c23 with h2 | h2; rw [h] at h2; cases h2; exact h2)
    refine s_seq ?_
    refine s_region0 (fun ops => ?_)
    refine o_rd (rd_assign rfl) rfl ?_
    refine o_nil ?_
    refine n_K ?_
    refine s_ret ?_
    refine r_K ?_
    exact leaf_r (rets1 Tryz.results56 (rv_tmp rfl)) (by rw [if_neg hc]; exact ⟨rfl, rfl⟩) (by repeat (first | exact Split.nil | (apply Split.cons; next => repeat (first | exact Pick.here | apply Pick.there | apply Pick.app)) | (apply Split.chunk; next => repeat (first | exact PickL.here | exact PickL.last | apply PickL.there | apply PickL.app)) | (apply Split.lst; repeat (first | exact PickL.here | exact PickL.last | apply PickL.there | apply PickL.app))))
  · skip
    have hc : (atT t.ts i).2 = true ∧ spareB t.ts c.blocks.length b = true := (by simp at c23; exact c23)
    have hi : 0 ≤ i ∧ i < t.u.list.length := (by have := hc.1; unfold atT at this; split at this; cases this; rename_i h; simp at h; have e : t.ts.uses = t.u.list := rfl; rw [e] at h; omega)
    have hat : (atT t.ts i).1 = at0 t.u.list i := (by have := hc.1; unfold atT at this ⊢; split at this; cases this; rename_i h; rw [if_neg h]; rfl)
    rw [hat, tabH_eq]
    simp only [List.cons_append, List.append_assoc, List.nil_append]
    refine s_skip ?_
    refine n_K ?_
    refine s_seq ?_
    refine s_region0 (fun ops => ?_)
    refine o_rd (rd_move rfl) rfl ?_
    refine o_rd (rd_move rfl) rfl ?_
    refine c_ex rfl (loseO_fn (t := t) (a := a) hu hl) (by repeat (first | exact Split.nil | (apply Split.cons; next => repeat (first | exact Pick.here | apply Pick.there | apply Pick.app)) | (apply Split.chunk; next => repeat (first | exact PickL.here | exact PickL.last | apply PickL.there | apply PickL.app)) | (apply Split.lst; repeat (first | exact PickL.here | exact PickL.last | apply PickL.there | apply PickL.app)))) rfl (fun v26 Y26 h26 => ?_)
    obtain ⟨u26, l26, rfl, rfl, hu26, hl26, ou26, ol26⟩ := h26
    refine so_ap (by repeat (first | exact Ap.nil | apply Ap.cons | apply Ap.app | exact Ap.one)) ?_
    refine o_alloc rfl (fun b9 => ?_)
    refine o_store rfl rfl (by repeat' first | exact Upd.here | apply Upd.there | apply Upd.app) rfl rfl rfl ?_
    refine o_nil ?_
    refine n_K ?_
    refine s_seq ?_
    refine s_region0 (fun ops => ?_)
    refine o_rd (rd_field rfl) rfl ?_
    refine o_rd (rd_ld rfl (by repeat' first | exact List.Mem.head _ | apply List.Mem.tail | apply List.mem_append_right) rfl) rfl ?_
    refine o_rd (rd_move rfl) rfl ?_
    refine o_rd (rd_move rfl) rfl ?_
    refine o_rd (rd_ixSl rfl rfl ⟨hi.1, by rw [hu26]; exact hi.2⟩) rfl ?_
    (have hg : u26.list[i.toNat]? = some (at0 t.u.list i) := by (rw [hu26]; exact at0_get hi.1 hi.2)); obtain ⟨u', hu'⟩ : ∃ u', u' = u26.set i.toNat b := ⟨_, rfl⟩; refine o_storeSl (s := u26) (o := 0) (z' := b) rfl rfl (by repeat (first | exact UpdL.here | exact UpdL.last | apply UpdL.there | apply UpdL.app)) ou26 hg rfl rfl rfl (by rw [off_own ou26]; exact Nat.zero_add _) ?_; rw [← hu']; have hl' : u'.list = t.u.list.set i.toNat b := (by rw [hu', Sl.set_list _ _ _ ou26, hu26]); have hv' : u'.val = u26.val := (by rw [hu', Sl.set_val])
    refine o_nil ?_
    refine n_K ?_
    refine s_seq ?_
    refine s_region0 (fun ops => ?_)
    refine o_rd (rd_move rfl) rfl ?_
    refine o_rd (rd_ldA rfl (by repeat' first | exact List.Mem.head _ | apply List.Mem.tail | apply List.mem_append_right) rfl) rfl ?_
    refine c_ex rfl ((by have h := keep2_fn (c := c) (a := a) (t := t) (u := u') (l := l26) ha (by rw [hl', List.length_set]; exact hu) (by rw [hl26.length_eq]; simp; omega) hn har; rw [hv'] at h; exact h)) (by repeat (first | exact Split.nil | (apply Split.cons; next => repeat (first | exact Pick.here | apply Pick.there | apply Pick.app)) | (apply Split.chunk; next => repeat (first | exact PickL.here | exact PickL.last | apply PickL.there | apply PickL.app)) | (apply Split.lst; repeat (first | exact PickL.here | exact PickL.last | apply PickL.there | apply PickL.app)))) rfl (fun v34 Y34 h34 => ?_)
    rcases h34 with ⟨t', e1, e2, e3, rfl, rfl, e4, e5⟩ | ⟨e, rfl, e1, rfl, e4, e5⟩
    all_goals
      refine so_ap (by repeat (first | exact Ap.nil | apply Ap.cons | apply Ap.app | exact Ap.one)) ?_
      refine o_rd (rd_assign rfl) rfl ?_
      refine o_nil ?_
      refine n_K ?_
      refine s_ret ?_
      exact leaf_r (rets1 Tryz.results56 (rv_tmp rfl)) (by rw [if_pos (by rw [hc.1, hc.2]; rfl)]; first | exact kept_leaf e1 hl26 hl' (by rw [e4]) e5 | exact kept_leaf (t' := t) rfl hl26 hl' (by rw [e4]) e5) (by rw [tabH_eq]; simp only [List.cons_append, List.append_assoc, List.nil_append]; first | (rw [e2, e3]; exact (by repeat (first | exact Split.nil | (apply Split.cons; next => repeat (first | exact Pick.here | apply Pick.there | apply Pick.app)) | (apply Split.chunk; next => repeat (first | exact PickL.here | exact PickL.last | apply PickL.there | apply PickL.app)) | (apply Split.lst; repeat (first | exact PickL.here | exact PickL.last | apply PickL.there | apply PickL.app))))) | exact (by repeat (first | exact Split.nil | (apply Split.cons; next => repeat (first | exact Pick.here | apply Pick.there | apply Pick.app)) | (apply Split.chunk; next => repeat (first | exact PickL.here | exact PickL.last | apply PickL.there | apply PickL.app)) | (apply Split.lst; repeat (first | exact PickL.here | exact PickL.last | apply PickL.there | apply PickL.app)))))
end
end Go.Proofs.YtdfidkhbldedlaaGreat
