/- Walks of package nand: programs, erases, a new chip. -/
import Derived.Test.YtdfidkhbldedlaaGreatN1
namespace Go.Proofs.YtdfidkhbldedlaaGreat
open Go.K
set_option linter.unusedVariables false
set_option linter.unusedSimpArgs false
instance agg68 : Agg Tryz.prog 68 false := ⟨⟨_, Tryz.underlying68, rfl⟩⟩
instance siz68 : Siz Tryz.prog 68 1 := ⟨by kernel_rfl⟩
instance zer50 : Zer Tryz.prog 50 ([.pointer none, .slice none 0 0, .bool false, .bool false, .slice none 0 0, .int .i64 0, .slice none 0 0, .int .i64 0, .int .i64 0]) := ⟨by kernel_rfl⟩
instance zer97 : Zer Tryz.prog 97 (List.replicate 2064 (.int .u8 0) ++ [.int .i64 0, .bool false]) := ⟨by kernel_rfl⟩
instance zer99 : Zer Tryz.prog 99 ([.bool false, .int .i64 0, .int .i64 0]) := ⟨by kernel_rfl⟩
instance fld50_4 : Fld Tryz.prog 50 4 4 := ⟨⟨_, _, 1, Tryz.underlying50, rfl, by kernel_rfl, rfl⟩⟩
instance fld50_5 : Fld Tryz.prog 50 5 6 := ⟨⟨_, _, 1, Tryz.underlying50, rfl, by kernel_rfl, rfl⟩⟩
instance fld50_6 : Fld Tryz.prog 50 6 8 := ⟨⟨_, _, 0, Tryz.underlying50, rfl, by kernel_rfl, rfl⟩⟩
instance fld97_1 : Fld Tryz.prog 97 1 2064 := ⟨⟨_, _, 0, Tryz.underlying97, rfl, by kernel_rfl, rfl⟩⟩
instance fld99_2 : Fld Tryz.prog 99 2 2 := ⟨⟨_, _, 0, Tryz.underlying99, rfl, by kernel_rfl, rfl⟩⟩
instance plc50 : Plc Tryz.prog 50 [(0, 1), (1, 1), (2, 1), (3, 1), (4, 2), (6, 2), (8, 1)] := ⟨⟨_, Tryz.underlying50, fun _ => by kernel_rfl⟩⟩
instance plc99 : Plc Tryz.prog 99 [(0, 1), (1, 1), (2, 1)] := ⟨⟨_, Tryz.underlying99, fun _ => by kernel_rfl⟩⟩
instance byt97 : Byt Tryz.prog 97 2080 := ⟨by kernel_rfl⟩
instance ent13 : Ent Tryz.prog 13 := ⟨fun _ _ => by kernel_rfl⟩
instance ent14 : Ent Tryz.prog 14 := ⟨fun _ _ => by kernel_rfl⟩
instance ent22 : Ent Tryz.prog 22 := ⟨fun _ _ => by kernel_rfl⟩
instance ent43 : Ent Tryz.prog 43 := ⟨fun _ _ => by kernel_rfl⟩
instance ent63 : Ent Tryz.prog 63 := ⟨fun _ _ => by kernel_rfl⟩
instance ent69 : Ent Tryz.prog 69 := ⟨fun _ _ => by kernel_rfl⟩
instance ent73 : Ent Tryz.prog 73 := ⟨fun _ _ => by kernel_rfl⟩
instance ent74 : Ent Tryz.prog 74 := ⟨fun _ _ => by kernel_rfl⟩
instance ent98 : Ent Tryz.prog 98 := ⟨fun _ _ => by kernel_rfl⟩

theorem chH_set (c : Chip) (k : Nat) (b : Blk) : chH (setB c k b) = (c.aP, true, C (pwc c) tPw) :: (c.aC, true, C (chc c) tCh) :: (c.aB, true, C (rowc (c.blocks.set k b)) tBk) :: (c.pf.hp tI ++ (c.wf.hp tI ++ [])) := by
  rw [chH_eq]
  simp only [setB, chc, List.length_set]
theorem write_at {pb k : Nat} {n j : Int} {l : List Blk} {b : Blk} {d : Pg} (hk : l[k]? = some b) (h0 : 0 ≤ j) (hi : j.toNat < 8) :
    Does Tryz.prog 92 [.pointer (some ⟨pb, k * 2066, none⟩), .int .i64 j, .int .i64 n, .agg (vbc d).toArray] [(pb, true, C (rowc l) tBk)]
      (Is (.tuple #[]) [(pb, true, C (rowc (l.set k (wrB b j.toNat (clampN n 258) d hi))) tBk)]) := by
  obtain ⟨i, rfl⟩ := Int.eq_ofNat_of_zero_le h0
  exact write_fn hk hi
theorem set_at {l : List Blk} {k : Nat} {b : Blk} (h : l[k]? = some b) (b' : Blk) : (l.set k b')[k]? = some b' := by
  have := (List.getElem?_eq_some_iff.1 h).1
  simp [this]
section
variable {c : Chip} {i j : Int} {d : Pg}
theorem program_fn : Does Tryz.prog 63 [ptr c.aC, .int .i64 i, .int .i64 j, .agg (vbc d).toArray] (chH c) (Is (.int .i64 (progC c i j d).1) (chH (progC c i j d).2)) := by
  rw [chH_eq c]
  refine fn_enter (n := 82) Tryz.func63 Tryz.ntmps63 rfl (Nat.le_of_ble_eq_true rfl) ?_
  refine s_seq ?_
  refine s_region0 (fun ops => ?_)
  refine o_boxA rfl rfl (fun b7 => ?_)
  refine o_rd (rd_assign rfl) rfl ?_
  refine o_nil ?_
  refine n_K ?_
  refine s_seq ?_
  refine s_seq ?_
  refine s_region0 (fun ops => ?_)
  refine o_rd (rd_move rfl) rfl ?_
  refine o_rd (rd_move rfl) rfl ?_
  refine o_rd (rd_move rfl) rfl ?_
  refine c_is rfl (nmay_fn) (by repeat (first | exact Split.nil | (apply Split.cons; next => repeat (first | exact Pick.here | apply Pick.there | apply Pick.app)) | (apply Split.chunk; next => repeat (first | exact PickL.here | exact PickL.last | apply PickL.there | apply PickL.app)) | (apply Split.lst; repeat (first | exact PickL.here | exact PickL.last | apply PickL.there | apply PickL.app)))) rfl (by repeat (first | exact Ap.nil | apply Ap.cons | apply Ap.app | exact Ap.one)) ?_
  refine o_rd (rd_assign rfl) rfl ?_
  refine o_nil ?_
  refine n_K ?_
  refine s_seq ?_
  refine s_region0 (fun ops => ?_)
  refine o_rd (rd_move rfl) rfl ?_
  refine o_rd (rd_bin rfl rfl rfl) rfl ?_
  refine o_nil ?_
  refine n_K ?_
  refine s_cond rfl (fun c17 => ?_) (fun c17 => ?_)
  · skip
    have hm : ¬ mayE c i j = 0 := by simpa using c17
    have hres := prog_may (d := d) hm
    refine s_seq ?_
    refine s_region0 (fun ops => ?_)
    refine o_rd (rd_move rfl) rfl ?_
    refine o_rd (rd_assign rfl) rfl ?_
    refine o_nil ?_
    refine n_K ?_
    refine s_ret ?_
    refine r_K ?_
    refine leaf_is (rets1 Tryz.results63 (rv_tmp rfl)) ?_ (by rw [hres]; first | (rw [wrC, chH_set, List.set_set]; exact (by repeat (first | exact Split.nil | (apply Split.cons; next => repeat (first | exact Pick.here | apply Pick.there | apply Pick.app)) | (apply Split.chunk; next => repeat (first | exact PickL.here | exact PickL.last | apply PickL.there | apply PickL.app)) | (apply Split.lst; repeat (first | exact PickL.here | exact PickL.last | apply PickL.there | apply PickL.app))))) | (rw [chH_eq c]; exact (by repeat (first | exact Split.nil | (apply Split.cons; next => repeat (first | exact Pick.here | apply Pick.there | apply Pick.app)) | (apply Split.chunk; next => repeat (first | exact PickL.here | exact PickL.last | apply PickL.there | apply PickL.app)) | (apply Split.lst; repeat (first | exact PickL.here | exact PickL.last | apply PickL.there | apply PickL.app))))))
    rw [hres]
  · skip
    have hm : mayE c i j = 0 := by simpa using c17
    obtain ⟨m0, m1, m2, m3, _⟩ := may_in hm
    have h8 : j.toNat < 8 := by omega
    obtain ⟨b, hb⟩ : ∃ b, c.blocks[i.toNat]? = some b := ⟨_, List.getElem?_eq_getElem (by omega)⟩
    refine s_skip ?_
    refine n_K ?_
    refine s_seq ?_
    refine s_region0 (fun ops => ?_)
    refine o_rd (rd_move rfl) rfl ?_
    refine o_rd (rd_nil rfl) rfl ?_
    refine o_rd (rd_field rfl) rfl ?_
    refine o_rd (rd_ld rfl (by repeat' first | exact List.Mem.head _ | apply List.Mem.tail | apply List.mem_append_right) rfl) rfl ?_
    refine o_rd (rd_move rfl) rfl ?_
    refine o_rd (rd_ixS0 rfl rfl ⟨m0, m1⟩) rfl ?_
    refine o_rd (rd_assign rfl) rfl ?_
    refine o_nil ?_
    refine n_K ?_
    refine s_seq ?_
    refine s_seq ?_
    refine s_region0 (fun ops => ?_)
    refine o_rd (rd_move rfl) rfl ?_
    refine o_rd (rd_move rfl) rfl ?_
    refine o_rd (rd_nil rfl) rfl ?_
    refine o_rd (rd_field rfl) rfl ?_
    refine o_rd (rd_ld rfl (by repeat' first | exact List.Mem.head _ | apply List.Mem.tail | apply List.mem_append_right) (row_next hb)) rfl ?_
    refine o_rd (rd_bin rfl rfl rfl) rfl ?_
    refine o_nil ?_
    refine n_K ?_
    refine s_cond rfl (fun c30 => ?_) (fun c30 => ?_)
    · skip
      have hn : ¬ j = b.next := by simpa using c30
      have hres := prog_order (d := d) hm hb hn
      refine s_seq ?_
      refine s_region0 (fun ops => ?_)
      refine o_rd (rd_assign rfl) rfl ?_
      refine o_nil ?_
      refine n_K ?_
      refine s_ret ?_
      refine r_K ?_
      refine leaf_is (rets1 Tryz.results63 (rv_tmp rfl)) ?_ (by rw [hres]; first | (rw [wrC, chH_set, List.set_set]; exact (by repeat (first | exact Split.nil | (apply Split.cons; next => repeat (first | exact Pick.here | apply Pick.there | apply Pick.app)) | (apply Split.chunk; next => repeat (first | exact PickL.here | exact PickL.last | apply PickL.there | apply PickL.app)) | (apply Split.lst; repeat (first | exact PickL.here | exact PickL.last | apply PickL.there | apply PickL.app))))) | (rw [chH_eq c]; exact (by repeat (first | exact Split.nil | (apply Split.cons; next => repeat (first | exact Pick.here | apply Pick.there | apply Pick.app)) | (apply Split.chunk; next => repeat (first | exact PickL.here | exact PickL.last | apply PickL.there | apply PickL.app)) | (apply Split.lst; repeat (first | exact PickL.here | exact PickL.last | apply PickL.there | apply PickL.app))))))
      rw [hres]
    · skip
      have hn : j = b.next := by simpa using c30
      refine s_skip ?_
      refine n_K ?_
      refine s_seq ?_
      refine s_region0 (fun ops => ?_)
      refine o_rd (rd_move rfl) rfl ?_
      refine o_rd (rd_nil rfl) rfl ?_
      refine o_rd (rd_field rfl) rfl ?_
      refine o_rd (rd_ld rfl (by repeat' first | exact List.Mem.head _ | apply List.Mem.tail | apply List.mem_append_right) rfl) rfl ?_
      refine o_rd (rd_bin rfl rfl rfl) rfl ?_
      refine o_rd (rd_nil rfl) rfl ?_
      refine o_rd (rd_field rfl) rfl ?_
      refine o_store rfl rfl (by repeat' first | exact Upd.here | apply Upd.there | apply Upd.app) rfl rfl rfl ?_
      refine o_nil ?_
      refine n_K ?_
      refine s_seq ?_
      refine s_region0 (fun ops => ?_)
      refine o_rd (rd_move rfl) rfl ?_
      refine o_rd (rd_nil rfl) rfl ?_
      refine o_rd (rd_field rfl) rfl ?_
      refine o_rd (rd_ld rfl (by repeat' first | exact List.Mem.head _ | apply List.Mem.tail | apply List.mem_append_right) (row_next hb)) rfl ?_
      refine o_rd (rd_bin rfl rfl rfl) rfl ?_
      refine o_rd (rd_nil rfl) rfl ?_
      refine o_rd (rd_field rfl) rfl ?_
      refine o_store (cs' := rowc (c.blocks.set i.toNat { b with next := w64 (b.next + 1) })) rfl rfl (by repeat' first | exact Upd.here | apply Upd.there | apply Upd.app) rfl rfl (row_setNext _ hb) ?_
      refine o_nil ?_
      refine n_K ?_
      refine s_seq ?_
      refine s_region0 (fun ops => ?_)
      refine o_rd (rd_move rfl) rfl ?_
      refine o_rd (rd_nil rfl) rfl ?_
      refine o_rd (rd_field rfl) rfl ?_
      refine c_is rfl (act1_fn (c := cnt c)) (by repeat (first | exact Split.nil | (apply Split.cons; next => repeat (first | exact Pick.here | apply Pick.there | apply Pick.app)) | (apply Split.chunk; next => repeat (first | exact PickL.here | exact PickL.last | apply PickL.there | apply PickL.app)) | (apply Split.lst; repeat (first | exact PickL.here | exact PickL.last | apply PickL.there | apply PickL.app)))) rfl (by repeat (first | exact Ap.nil | apply Ap.cons | apply Ap.app | exact Ap.one)) ?_
      refine o_rd (rd_assign rfl) rfl ?_
      refine o_nil ?_
      refine n_K ?_
      refine s_seq ?_
      refine s_block ?_
      refine s_seq ?_
      refine s_region0 (fun ops => ?_)
      refine o_rd (rd_move rfl) rfl ?_
      refine o_rd (rd_nil rfl) rfl ?_
      refine o_rd (rd_field rfl) rfl ?_
      refine o_rd (rd_ld rfl (by repeat' first | exact List.Mem.head _ | apply List.Mem.tail | apply List.mem_append_right) rfl) rfl ?_
      refine c_is rfl (ends_fn (c := c)) (by repeat (first | exact Split.nil | (apply Split.cons; next => repeat (first | exact Pick.here | apply Pick.there | apply Pick.app)) | (apply Split.chunk; next => repeat (first | exact PickL.here | exact PickL.last | apply PickL.there | apply PickL.app)) | (apply Split.lst; repeat (first | exact PickL.here | exact PickL.last | apply PickL.there | apply PickL.app)))) rfl (by repeat (first | exact Ap.nil | apply Ap.cons | apply Ap.app | exact Ap.one)) ?_
      refine o_rd (rd_assign rfl) rfl ?_
      refine o_nil ?_
      refine n_K ?_
      refine s_cond rfl (fun c49 => ?_) (fun c49 => ?_)
      · skip
        have hres := prog_down (d := d) hm h8 hb hn c49
        refine s_seq ?_
        refine s_draw [] [(10, [(0, false), (1, false), (2, false), (3, false), (4, false), (5, false), (6, false), (7, false), (8, false), (9, false)]), (11, [(10, true)])] (by kernel_rfl) rfl (fun ops w0 H0 y => ?_)
        refine p_all ?_
        refine x_rd (rd_move rfl) rfl ?_
        refine x_rd (rd_move rfl) rfl ?_
        refine x_rd (rd_move rfl) rfl ?_
        refine x_rd (rd_nil rfl) rfl ?_
        refine x_rd (rd_field rfl) rfl ?_
        refine x_rd (rd_ld rfl (by repeat' first | exact List.Mem.head _ | apply List.Mem.tail | apply List.mem_append_right) rfl) rfl ?_
        refine x_rd (rd_nil rfl) rfl ?_
        refine x_rd (rd_field rfl) rfl ?_
        refine x_rd (rd_ld rfl (by repeat' first | exact List.Mem.head _ | apply List.Mem.tail | apply List.mem_append_right) rfl) rfl ?_
        refine x_rd (rd_ldA rfl (by repeat' first | exact List.Mem.head _ | apply List.Mem.tail | apply List.mem_append_right) (by first | exact cut_vb | rfl)) rfl ?_
        refine x_nil ?_
        refine p_none ?_
        refine x_so ?_
        refine c_is rfl (write_at (set_at hb _) m2 h8) (by repeat (first | exact Split.nil | (apply Split.cons; next => repeat (first | exact Pick.here | apply Pick.there | apply Pick.app)) | (apply Split.chunk; next => repeat (first | exact PickL.here | exact PickL.last | apply PickL.there | apply PickL.app)) | (apply Split.lst; repeat (first | exact PickL.here | exact PickL.last | apply PickL.there | apply PickL.app)))) rfl (by repeat (first | exact Ap.nil | apply Ap.cons | apply Ap.app | exact Ap.one)) ?_
        refine o_nil ⟨rfl, ⟨_, (by repeat (first | exact Split.nil | (apply Split.cons; next => repeat (first | exact Pick.here | apply Pick.there | apply Pick.app)) | (apply Split.chunk; next => repeat (first | exact PickL.here | exact PickL.last | apply PickL.there | apply PickL.app)) | (apply Split.lst; repeat (first | exact PickL.here | exact PickL.last | apply PickL.there | apply PickL.app))))⟩, ?_⟩
        refine x_nil ?_
        refine p_end ?_
        refine n_K ?_
        refine s_seq ?_
        refine s_region0 (fun ops => ?_)
        refine o_rd (rd_assign rfl) rfl ?_
        refine o_nil ?_
        refine n_K ?_
        refine s_ret ?_
        refine r_blk ?_
        refine r_K ?_
        refine leaf_is (rets1 Tryz.results63 (rv_tmp rfl)) ?_ (by rw [hres]; first | (rw [wrC, chH_set, List.set_set]; exact (by repeat (first | exact Split.nil | (apply Split.cons; next => repeat (first | exact Pick.here | apply Pick.there | apply Pick.app)) | (apply Split.chunk; next => repeat (first | exact PickL.here | exact PickL.last | apply PickL.there | apply PickL.app)) | (apply Split.lst; repeat (first | exact PickL.here | exact PickL.last | apply PickL.there | apply PickL.app))))) | (rw [chH_eq c]; exact (by repeat (first | exact Split.nil | (apply Split.cons; next => repeat (first | exact Pick.here | apply Pick.there | apply Pick.app)) | (apply Split.chunk; next => repeat (first | exact PickL.here | exact PickL.last | apply PickL.there | apply PickL.app)) | (apply Split.lst; repeat (first | exact PickL.here | exact PickL.last | apply PickL.there | apply PickL.app))))))
        rw [hres]
      · skip
        have he : endsB c = false := c49
        refine s_seq ?_
        refine s_region [(1, 68)] rfl (fun ops y => ?_)
        refine o_rd (rd_move rfl) rfl ?_
        refine o_rd (rd_move rfl) rfl ?_
        refine' o_or (j := 1) (k := 4) y rfl rfl rfl rfl rfl rfl rfl (fun hg68 => ?_) ?_
        rotate_left
        · try simp at hg68
          refine o_g y rfl rfl ?_
          refine o_rd (rd_move rfl) rfl ?_
          refine o_g y rfl rfl ?_
          refine o_rd (rd_nil rfl) rfl ?_
          refine o_g y rfl rfl ?_
          refine o_rd (rd_field rfl) rfl ?_
          refine o_g y rfl rfl ?_
          refine o_rd (rd_ld rfl (by repeat' first | exact List.Mem.head _ | apply List.Mem.tail | apply List.mem_append_right) (row_bad (set_at hb _))) rfl ?_
          exact o_nil ⟨rfl, rfl, ⟨_, (by repeat (first | exact Split.nil | (apply Split.cons; next => repeat (first | exact Pick.here | apply Pick.there | apply Pick.app)) | (apply Split.chunk; next => repeat (first | exact PickL.here | exact PickL.last | apply PickL.there | apply PickL.app)) | (apply Split.lst; repeat (first | exact PickL.here | exact PickL.last | apply PickL.there | apply PickL.app))))⟩⟩
        refine o_rd (rd_assign rfl) rfl ?_
        refine o_nil ?_
        refine n_K ?_
        refine s_cond rfl (fun c66 => ?_) (fun c66 => ?_)
        · skip
          have hres := prog_fail (d := d) hm h8 hb hn he c66
          refine s_seq ?_
          refine s_region0 (fun ops => ?_)
          refine o_rd (rd_move rfl) rfl ?_
          refine o_rd (rd_move rfl) rfl ?_
          refine o_rd (rd_ldA rfl (by repeat' first | exact List.Mem.head _ | apply List.Mem.tail | apply List.mem_append_right) (by first | exact cut_vb | rfl)) rfl ?_
          refine c_is rfl (write_at (set_at hb _) m2 h8) (by repeat (first | exact Split.nil | (apply Split.cons; next => repeat (first | exact Pick.here | apply Pick.there | apply Pick.app)) | (apply Split.chunk; next => repeat (first | exact PickL.here | exact PickL.last | apply PickL.there | apply PickL.app)) | (apply Split.lst; repeat (first | exact PickL.here | exact PickL.last | apply PickL.there | apply PickL.app)))) rfl (by repeat (first | exact Ap.nil | apply Ap.cons | apply Ap.app | exact Ap.one)) ?_
          refine o_nil ?_
          refine n_K ?_
          refine s_seq ?_
          refine s_region0 (fun ops => ?_)
          refine o_rd (rd_assign rfl) rfl ?_
          refine o_nil ?_
          refine n_K ?_
          refine s_ret ?_
          refine r_blk ?_
          refine r_K ?_
          refine leaf_is (rets1 Tryz.results63 (rv_tmp rfl)) ?_ (by rw [hres]; first | (rw [wrC, chH_set, List.set_set]; exact (by repeat (first | exact Split.nil | (apply Split.cons; next => repeat (first | exact Pick.here | apply Pick.there | apply Pick.app)) | (apply Split.chunk; next => repeat (first | exact PickL.here | exact PickL.last | apply PickL.there | apply PickL.app)) | (apply Split.lst; repeat (first | exact PickL.here | exact PickL.last | apply PickL.there | apply PickL.app))))) | (rw [chH_eq c]; exact (by repeat (first | exact Split.nil | (apply Split.cons; next => repeat (first | exact Pick.here | apply Pick.there | apply Pick.app)) | (apply Split.chunk; next => repeat (first | exact PickL.here | exact PickL.last | apply PickL.there | apply PickL.app)) | (apply Split.lst; repeat (first | exact PickL.here | exact PickL.last | apply PickL.there | apply PickL.app))))))
          rw [hres]
        · skip
          have hres := prog_ok (d := d) hm h8 hb hn he c66
          refine s_skip ?_
          refine n_blk ?_
          refine n_K ?_
          refine s_seq ?_
          refine s_region0 (fun ops => ?_)
          refine o_rd (rd_move rfl) rfl ?_
          refine o_rd (rd_move rfl) rfl ?_
          refine o_rd (rd_ldA rfl (by repeat' first | exact List.Mem.head _ | apply List.Mem.tail | apply List.mem_append_right) (by first | exact cut_vb | rfl)) rfl ?_
          refine c_is rfl (write_at (set_at hb _) m2 h8) (by repeat (first | exact Split.nil | (apply Split.cons; next => repeat (first | exact Pick.here | apply Pick.there | apply Pick.app)) | (apply Split.chunk; next => repeat (first | exact PickL.here | exact PickL.last | apply PickL.there | apply PickL.app)) | (apply Split.lst; repeat (first | exact PickL.here | exact PickL.last | apply PickL.there | apply PickL.app)))) rfl (by repeat (first | exact Ap.nil | apply Ap.cons | apply Ap.app | exact Ap.one)) ?_
          refine o_nil ?_
          refine n_K ?_
          refine s_seq ?_
          refine s_region0 (fun ops => ?_)
          refine o_rd (rd_assign rfl) rfl ?_
          refine o_nil ?_
          refine n_K ?_
          refine s_ret ?_
          refine leaf_is (rets1 Tryz.results63 (rv_tmp rfl)) ?_ (by rw [hres]; first | (rw [wrC, chH_set, List.set_set]; exact (by repeat (first | exact Split.nil | (apply Split.cons; next => repeat (first | exact Pick.here | apply Pick.there | apply Pick.app)) | (apply Split.chunk; next => repeat (first | exact PickL.here | exact PickL.last | apply PickL.there | apply PickL.app)) | (apply Split.lst; repeat (first | exact PickL.here | exact PickL.last | apply PickL.there | apply PickL.app))))) | (rw [chH_eq c]; exact (by repeat (first | exact Split.nil | (apply Split.cons; next => repeat (first | exact Pick.here | apply Pick.there | apply Pick.app)) | (apply Split.chunk; next => repeat (first | exact PickL.here | exact PickL.last | apply PickL.there | apply PickL.app)) | (apply Split.lst; repeat (first | exact PickL.here | exact PickL.last | apply PickL.there | apply PickL.app))))))
          rw [hres]
theorem erase_fn : Does Tryz.prog 69 [ptr c.aC, .int .i64 i] (chH c) (Is (.int .i64 (eraseC c i).1) (chH (eraseC c i).2)) := by
  rw [chH_eq c]
  refine fn_enter (n := 62) Tryz.func69 Tryz.ntmps69 rfl (Nat.le_of_ble_eq_true rfl) ?_
  refine s_seq ?_
  refine s_region0 (fun ops => ?_)
  refine o_rd (rd_assign rfl) rfl ?_
  refine o_nil ?_
  refine n_K ?_
  refine s_seq ?_
  refine s_seq ?_
  refine s_region0 (fun ops => ?_)
  refine o_rd (rd_move rfl) rfl ?_
  refine o_rd (rd_move rfl) rfl ?_
  refine c_is rfl (nmay_fn) (by repeat (first | exact Split.nil | (apply Split.cons; next => repeat (first | exact Pick.here | apply Pick.there | apply Pick.app)) | (apply Split.chunk; next => repeat (first | exact PickL.here | exact PickL.last | apply PickL.there | apply PickL.app)) | (apply Split.lst; repeat (first | exact PickL.here | exact PickL.last | apply PickL.there | apply PickL.app)))) rfl (by repeat (first | exact Ap.nil | apply Ap.cons | apply Ap.app | exact Ap.one)) ?_
  refine o_rd (rd_assign rfl) rfl ?_
  refine o_nil ?_
  refine n_K ?_
  refine s_seq ?_
  refine s_region0 (fun ops => ?_)
  refine o_rd (rd_move rfl) rfl ?_
  refine o_rd (rd_bin rfl rfl rfl) rfl ?_
  refine o_nil ?_
  refine n_K ?_
  refine s_cond rfl (fun c12 => ?_) (fun c12 => ?_)
  · skip
    have hm : ¬ mayE c i 0 = 0 := by simpa using c12
    have hres := erase_may hm
    refine s_seq ?_
    refine s_region0 (fun ops => ?_)
    refine o_rd (rd_move rfl) rfl ?_
    refine o_rd (rd_assign rfl) rfl ?_
    refine o_nil ?_
    refine n_K ?_
    refine s_ret ?_
    refine r_K ?_
    refine leaf_is (rets1 Tryz.results69 (rv_tmp rfl)) ?_ (by rw [hres]; first | (rw [chH_set]; (try rw [List.set_set]); exact (by repeat (first | exact Split.nil | (apply Split.cons; next => repeat (first | exact Pick.here | apply Pick.there | apply Pick.app)) | (apply Split.chunk; next => repeat (first | exact PickL.here | exact PickL.last | apply PickL.there | apply PickL.app)) | (apply Split.lst; repeat (first | exact PickL.here | exact PickL.last | apply PickL.there | apply PickL.app))))) | (rw [chH_eq c]; exact (by repeat (first | exact Split.nil | (apply Split.cons; next => repeat (first | exact Pick.here | apply Pick.there | apply Pick.app)) | (apply Split.chunk; next => repeat (first | exact PickL.here | exact PickL.last | apply PickL.there | apply PickL.app)) | (apply Split.lst; repeat (first | exact PickL.here | exact PickL.last | apply PickL.there | apply PickL.app))))))
    rw [hres]
  · skip
    have hm : mayE c i 0 = 0 := by simpa using c12
    obtain ⟨m0, m1, m2, m3, _⟩ := may_in hm
    obtain ⟨b, hb⟩ : ∃ b, c.blocks[i.toNat]? = some b := ⟨_, List.getElem?_eq_getElem (by omega)⟩
    refine s_skip ?_
    refine n_K ?_
    refine s_seq ?_
    refine s_region0 (fun ops => ?_)
    refine o_rd (rd_move rfl) rfl ?_
    refine o_rd (rd_nil rfl) rfl ?_
    refine o_rd (rd_field rfl) rfl ?_
    refine o_rd (rd_ld rfl (by repeat' first | exact List.Mem.head _ | apply List.Mem.tail | apply List.mem_append_right) rfl) rfl ?_
    refine o_rd (rd_move rfl) rfl ?_
    refine o_rd (rd_ixS0 rfl rfl ⟨m0, m1⟩) rfl ?_
    refine o_rd (rd_assign rfl) rfl ?_
    refine o_nil ?_
    refine n_K ?_
    refine s_seq ?_
    refine s_region0 (fun ops => ?_)
    refine o_rd (rd_move rfl) rfl ?_
    refine o_rd (rd_nil rfl) rfl ?_
    refine o_rd (rd_field rfl) rfl ?_
    refine o_rd (rd_ld rfl (by repeat' first | exact List.Mem.head _ | apply List.Mem.tail | apply List.mem_append_right) rfl) rfl ?_
    refine o_rd (rd_bin rfl rfl rfl) rfl ?_
    refine o_rd (rd_nil rfl) rfl ?_
    refine o_rd (rd_field rfl) rfl ?_
    refine o_store rfl rfl (by repeat' first | exact Upd.here | apply Upd.there | apply Upd.app) rfl rfl rfl ?_
    refine o_nil ?_
    refine n_K ?_
    refine s_seq ?_
    refine s_region0 (fun ops => ?_)
    refine o_rd (rd_move rfl) rfl ?_
    refine o_rd (rd_nil rfl) rfl ?_
    refine o_rd (rd_field rfl) rfl ?_
    refine c_is rfl (act2_fn (c := cnt c)) (by repeat (first | exact Split.nil | (apply Split.cons; next => repeat (first | exact Pick.here | apply Pick.there | apply Pick.app)) | (apply Split.chunk; next => repeat (first | exact PickL.here | exact PickL.last | apply PickL.there | apply PickL.app)) | (apply Split.lst; repeat (first | exact PickL.here | exact PickL.last | apply PickL.there | apply PickL.app)))) rfl (by repeat (first | exact Ap.nil | apply Ap.cons | apply Ap.app | exact Ap.one)) ?_
    refine o_rd (rd_assign rfl) rfl ?_
    refine o_nil ?_
    refine n_K ?_
    refine s_seq ?_
    refine s_region0 (fun ops => ?_)
    refine o_rd (rd_move rfl) rfl ?_
    refine o_rd (rd_nil rfl) rfl ?_
    refine o_rd (rd_field rfl) rfl ?_
    refine o_store (cs' := rowc (c.blocks.set i.toNat { b with next := 8 })) rfl rfl (by repeat' first | exact Upd.here | apply Upd.there | apply Upd.app) rfl rfl (row_setNext _ hb) ?_
    refine o_nil ?_
    refine n_K ?_
    refine s_seq ?_
    refine s_block ?_
    refine s_seq ?_
    refine s_region0 (fun ops => ?_)
    refine o_rd (rd_move rfl) rfl ?_
    refine o_rd (rd_nil rfl) rfl ?_
    refine o_rd (rd_field rfl) rfl ?_
    refine o_rd (rd_ld rfl (by repeat' first | exact List.Mem.head _ | apply List.Mem.tail | apply List.mem_append_right) rfl) rfl ?_
    refine c_is rfl (ends_fn (c := c)) (by repeat (first | exact Split.nil | (apply Split.cons; next => repeat (first | exact Pick.here | apply Pick.there | apply Pick.app)) | (apply Split.chunk; next => repeat (first | exact PickL.here | exact PickL.last | apply PickL.there | apply PickL.app)) | (apply Split.lst; repeat (first | exact PickL.here | exact PickL.last | apply PickL.there | apply PickL.app)))) rfl (by repeat (first | exact Ap.nil | apply Ap.cons | apply Ap.app | exact Ap.one)) ?_
    refine o_rd (rd_assign rfl) rfl ?_
    refine o_nil ?_
    refine n_K ?_
    refine s_cond rfl (fun c34 => ?_) (fun c34 => ?_)
    · skip
      have hres := erase_down hm hb c34
      refine s_seq ?_
      refine s_region0 (fun ops => ?_)
      refine o_rd (rd_move rfl) rfl ?_
      refine o_rd (rd_move rfl) rfl ?_
      refine o_rd (rd_nil rfl) rfl ?_
      refine o_rd (rd_field rfl) rfl ?_
      refine o_rd (rd_ld rfl (by repeat' first | exact List.Mem.head _ | apply List.Mem.tail | apply List.mem_append_right) rfl) rfl ?_
      refine o_rd (rd_nil rfl) rfl ?_
      refine o_rd (rd_field rfl) rfl ?_
      refine o_rd (rd_ld rfl (by repeat' first | exact List.Mem.head _ | apply List.Mem.tail | apply List.mem_append_right) rfl) rfl ?_
      refine c_is rfl (wipe_fn (set_at hb _)) (by repeat (first | exact Split.nil | (apply Split.cons; next => repeat (first | exact Pick.here | apply Pick.there | apply Pick.app)) | (apply Split.chunk; next => repeat (first | exact PickL.here | exact PickL.last | apply PickL.there | apply PickL.app)) | (apply Split.lst; repeat (first | exact PickL.here | exact PickL.last | apply PickL.there | apply PickL.app)))) rfl (by repeat (first | exact Ap.nil | apply Ap.cons | apply Ap.app | exact Ap.one)) ?_
      refine o_nil ?_
      refine n_K ?_
      refine s_seq ?_
      refine s_region0 (fun ops => ?_)
      refine o_rd (rd_assign rfl) rfl ?_
      refine o_nil ?_
      refine n_K ?_
      refine s_ret ?_
      refine r_blk ?_
      refine r_K ?_
      refine leaf_is (rets1 Tryz.results69 (rv_tmp rfl)) ?_ (by rw [hres]; first | (rw [chH_set]; (try rw [List.set_set]); exact (by repeat (first | exact Split.nil | (apply Split.cons; next => repeat (first | exact Pick.here | apply Pick.there | apply Pick.app)) | (apply Split.chunk; next => repeat (first | exact PickL.here | exact PickL.last | apply PickL.there | apply PickL.app)) | (apply Split.lst; repeat (first | exact PickL.here | exact PickL.last | apply PickL.there | apply PickL.app))))) | (rw [chH_eq c]; exact (by repeat (first | exact Split.nil | (apply Split.cons; next => repeat (first | exact Pick.here | apply Pick.there | apply Pick.app)) | (apply Split.chunk; next => repeat (first | exact PickL.here | exact PickL.last | apply PickL.there | apply PickL.app)) | (apply Split.lst; repeat (first | exact PickL.here | exact PickL.last | apply PickL.there | apply PickL.app))))))
      rw [hres]
    · skip
      have he : endsB c = false := c34
      refine s_seq ?_
      refine s_region [(1, 51)] rfl (fun ops y => ?_)
      refine o_rd (rd_move rfl) rfl ?_
      refine o_rd (rd_move rfl) rfl ?_
      refine' o_or (j := 1) (k := 4) y rfl rfl rfl rfl rfl rfl rfl (fun hg51 => ?_) ?_
      rotate_left
      · try simp at hg51
        refine o_g y rfl rfl ?_
        refine o_rd (rd_move rfl) rfl ?_
        refine o_g y rfl rfl ?_
        refine o_rd (rd_nil rfl) rfl ?_
        refine o_g y rfl rfl ?_
        refine o_rd (rd_field rfl) rfl ?_
        refine o_g y rfl rfl ?_
        refine o_rd (rd_ld rfl (by repeat' first | exact List.Mem.head _ | apply List.Mem.tail | apply List.mem_append_right) (row_bad (set_at hb _))) rfl ?_
        exact o_nil ⟨rfl, rfl, ⟨_, (by repeat (first | exact Split.nil | (apply Split.cons; next => repeat (first | exact Pick.here | apply Pick.there | apply Pick.app)) | (apply Split.chunk; next => repeat (first | exact PickL.here | exact PickL.last | apply PickL.there | apply PickL.app)) | (apply Split.lst; repeat (first | exact PickL.here | exact PickL.last | apply PickL.there | apply PickL.app))))⟩⟩
      refine o_rd (rd_assign rfl) rfl ?_
      refine o_nil ?_
      refine n_K ?_
      refine s_cond rfl (fun c49 => ?_) (fun c49 => ?_)
      · skip
        have hres := erase_fail hm hb he c49
        refine s_seq ?_
        refine s_region0 (fun ops => ?_)
        refine o_rd (rd_assign rfl) rfl ?_
        refine o_nil ?_
        refine n_K ?_
        refine s_ret ?_
        refine r_blk ?_
        refine r_K ?_
        refine leaf_is (rets1 Tryz.results69 (rv_tmp rfl)) ?_ (by rw [hres]; first | (rw [chH_set]; (try rw [List.set_set]); exact (by repeat (first | exact Split.nil | (apply Split.cons; next => repeat (first | exact Pick.here | apply Pick.there | apply Pick.app)) | (apply Split.chunk; next => repeat (first | exact PickL.here | exact PickL.last | apply PickL.there | apply PickL.app)) | (apply Split.lst; repeat (first | exact PickL.here | exact PickL.last | apply PickL.there | apply PickL.app))))) | (rw [chH_eq c]; exact (by repeat (first | exact Split.nil | (apply Split.cons; next => repeat (first | exact Pick.here | apply Pick.there | apply Pick.app)) | (apply Split.chunk; next => repeat (first | exact PickL.here | exact PickL.last | apply PickL.there | apply PickL.app)) | (apply Split.lst; repeat (first | exact PickL.here | exact PickL.last | apply PickL.there | apply PickL.app))))))
        rw [hres]
      · skip
        have hres := erase_ok hm hb he c49
        refine s_skip ?_
        refine n_blk ?_
        refine n_K ?_
        refine s_seq ?_
        refine s_region0 (fun ops => ?_)
        refine o_rd (rd_move rfl) rfl ?_
        refine c_is rfl (wipe_fn (set_at hb _)) (by repeat (first | exact Split.nil | (apply Split.cons; next => repeat (first | exact Pick.here | apply Pick.there | apply Pick.app)) | (apply Split.chunk; next => repeat (first | exact PickL.here | exact PickL.last | apply PickL.there | apply PickL.app)) | (apply Split.lst; repeat (first | exact PickL.here | exact PickL.last | apply PickL.there | apply PickL.app)))) rfl (by repeat (first | exact Ap.nil | apply Ap.cons | apply Ap.app | exact Ap.one)) ?_
        refine o_nil ?_
        refine n_K ?_
        refine s_seq ?_
        refine s_region0 (fun ops => ?_)
        refine o_rd (rd_move rfl) rfl ?_
        refine o_rd (rd_nil rfl) rfl ?_
        refine o_rd (rd_field rfl) rfl ?_
        refine o_store (cs' := rowc (c.blocks.set i.toNat { wipeB { b with next := 8 } 8 with next := 0 })) rfl rfl (by repeat' first | exact Upd.here | apply Upd.there | apply Upd.app) rfl rfl (by rw [List.set_set]; have := row_setNext (l := c.blocks.set i.toNat (wipeB { b with next := 8 } 8)) 0 (set_at hb _); rw [List.set_set] at this; exact this) ?_
        refine o_nil ?_
        refine n_K ?_
        refine s_seq ?_
        refine s_region0 (fun ops => ?_)
        refine o_rd (rd_assign rfl) rfl ?_
        refine o_nil ?_
        refine n_K ?_
        refine s_ret ?_
        refine leaf_is (rets1 Tryz.results69 (rv_tmp rfl)) ?_ (by rw [hres]; first | (rw [chH_set]; (try rw [List.set_set]); exact (by repeat (first | exact Split.nil | (apply Split.cons; next => repeat (first | exact Pick.here | apply Pick.there | apply Pick.app)) | (apply Split.chunk; next => repeat (first | exact PickL.here | exact PickL.last | apply PickL.there | apply PickL.app)) | (apply Split.lst; repeat (first | exact PickL.here | exact PickL.last | apply PickL.there | apply PickL.app))))) | (rw [chH_eq c]; exact (by repeat (first | exact Split.nil | (apply Split.cons; next => repeat (first | exact Pick.here | apply Pick.there | apply Pick.app)) | (apply Split.chunk; next => repeat (first | exact PickL.here | exact PickL.last | apply PickL.there | apply PickL.app)) | (apply Split.lst; repeat (first | exact PickL.here | exact PickL.last | apply PickL.there | apply PickL.app))))))
        rw [hres]
end
theorem cut_fn {c : Chip} {a k : Int} : Does Tryz.prog 22 [ptr c.aP, .int .i64 a, .int .i64 k] (chH c) (Is (.tuple #[]) (chH { c with after := max a (-1), keep := k })) := by
  rw [chH_eq, chH_eq]
  refine fn_enter (n := 15) Tryz.func22 Tryz.ntmps22 rfl (Nat.le_of_ble_eq_true rfl) ?_
  refine s_region0 (fun ops => ?_)
  refine o_rd (rd_move rfl) rfl ?_
  refine o_rd (rd_move rfl) rfl ?_
  refine o_rd (rd_move rfl) rfl ?_
  refine o_rd (rd_max rfl rfl) rfl ?_
  refine o_rd (rd_move rfl) rfl ?_
  refine o_rd (rd_nil rfl) rfl ?_
  refine o_rd (rd_field rfl) rfl ?_
  refine o_store rfl rfl (by repeat' first | exact Upd.here | apply Upd.there | apply Upd.app) rfl rfl rfl ?_
  refine o_rd (rd_nil rfl) rfl ?_
  refine o_rd (rd_field rfl) rfl ?_
  refine o_store rfl rfl (by repeat' first | exact Upd.here | apply Upd.there | apply Upd.app) rfl rfl rfl ?_
  refine o_nil ?_
  refine leaf_isN (ret0 Tryz.results22) ?_ (by repeat (first | exact Split.nil | (apply Split.cons; next => repeat (first | exact Pick.here | apply Pick.there | apply Pick.app)) | (apply Split.chunk; next => repeat (first | exact PickL.here | exact PickL.last | apply PickL.there | apply PickL.app)) | (apply Split.lst; repeat (first | exact PickL.here | exact PickL.last | apply PickL.there | apply PickL.app))))
  rfl
theorem newPower_fn : Does Tryz.prog 14 [] [] (fun v H => ∃ b, v = ptr b ∧ H = [(b, true, C [.bool false, .int .i64 (-1), .int .i64 0] tPw)]) := by
  refine fn_enter (n := 3) Tryz.func14 Tryz.ntmps14 rfl (Nat.le_of_ble_eq_true rfl) ?_
  refine s_seq ?_
  refine s_region0 (fun ops => ?_)
  refine o_rd (rd_assign rfl) rfl ?_
  refine o_nil ?_
  refine n_K ?_
  refine s_seq ?_
  refine s_region0 (fun ops => ?_)
  refine o_rd (rd_build_s rfl rfl) rfl ?_
  refine o_box rfl rfl (fun b2 => ?_)
  refine o_rd (rd_assign rfl) rfl ?_
  refine o_nil ?_
  refine n_K ?_
  refine s_ret ?_
  exact leaf_r (rets1 Tryz.results14 (rv_tmp rfl)) (by exact ⟨_, rfl, rfl⟩) (by repeat (first | exact Split.nil | (apply Split.cons; next => repeat (first | exact Pick.here | apply Pick.there | apply Pick.app)) | (apply Split.chunk; next => repeat (first | exact PickL.here | exact PickL.last | apply PickL.there | apply PickL.app)) | (apply Split.lst; repeat (first | exact PickL.here | exact PickL.last | apply PickL.there | apply PickL.app))))
section
variable {f : FuncId} [Ent Tryz.prog f] {fi ca : List Value} {p : Int → Bool} {L : Hp} {s : Sl Int} {T : TypeId}
theorem indexFunc_fn (hf : ∀ x : Int, Does Tryz.prog f (fi ++ [.int .i64 x] ++ ca) L (Is (.bool (p x)) L)) :
    Does Tryz.prog 98 [s.val, .func (.func f) fi.toArray ca.toArray] (s.hp T ++ (L ++ [])) (Is (.int .i64 (idxF s.list p)) (s.hp T ++ (L ++ []))) := by
  refine fn_enter (n := 19) Tryz.func98 Tryz.ntmps98 rfl (Nat.le_of_ble_eq_true rfl) ?_
  refine s_seq ?_
  refine s_region0 (fun ops => ?_)
  refine o_rd (rd_assign rfl) rfl ?_
  refine o_nil ?_
  refine n_K ?_
  refine s_seq ?_
  refine s_seq ?_
  refine s_region0 (fun ops => ?_)
  refine o_rd (rd_move rfl) rfl ?_
  refine o_rd (rd_lenS rfl) rfl ?_
  refine o_rd (rd_move rfl) rfl ?_
  refine o_nil ?_
  refine n_K ?_
  refine s_block ?_
  have hsm := s.small
  refine s_loop2E [0, 1, 7] (by repeat' first | exact Keep2.nil | apply Keep2.cons rfl) (fun i => [(8, .int .i64 i)]) (fun i => 0 ≤ i ∧ i ≤ s.list.length ∧ ∀ k : Int, 0 ≤ k → k < i → p (at0 s.list k) = false) (fun i => ((s.list.length : Int) - i).toNat) ((0 : Int)) ⟨by omega, by omega, by intro k h0 h1; omega⟩ (by repeat' first | exact Keep.nil | refine Keep.cons rfl ?_) ?_
  rintro i ⟨h0, h1, h2⟩
  refine s_seq ?_
  refine s_region0 (fun ops => ?_)
  refine o_rd (rd_bin rfl rfl rfl) rfl ?_
  refine o_nil ?_
  refine n_K ?_
  refine s_seq ?_
  refine s_cond rfl (fun c9 => ?_) (fun c9 => ?_)
  · try simp at c9
    refine s_skip ?_
    refine n_K ?_
    refine s_seq ?_
    refine s_block ?_
    refine s_seq ?_
    refine s_region0 (fun ops => ?_)
    refine o_rd (rd_move rfl) rfl ?_
    refine o_rd (rd_assign rfl) rfl ?_
    refine o_nil ?_
    refine n_K ?_
    refine s_seq ?_
    refine s_region0 (fun ops => ?_)
    refine o_rd (rd_move rfl) rfl ?_
    refine o_rd (rd_move rfl) rfl ?_
    refine o_rd (rd_move rfl) rfl ?_
    refine o_rd (rd_ixSl rfl rfl ⟨h0, c9⟩) rfl ?_
    refine o_rd (rd_ldSl (o := 0) rfl (by repeat (first | exact PickL.here | exact PickL.last | apply PickL.there | apply PickL.app)) (at0_get h0 c9) rfl rfl) rfl ?_
    refine c_fis rfl rfl (hf _) (by repeat (first | exact Split.nil | (apply Split.cons; next => repeat (first | exact Pick.here | apply Pick.there | apply Pick.app)) | (apply Split.chunk; next => repeat (first | exact PickL.here | exact PickL.last | apply PickL.there | apply PickL.app)) | (apply Split.lst; repeat (first | exact PickL.here | exact PickL.last | apply PickL.there | apply PickL.app)))) rfl (by repeat (first | exact Ap.nil | apply Ap.cons | apply Ap.app | exact Ap.one)) ?_
    refine o_nil ?_
    refine n_K ?_
    refine s_cond rfl (fun c16 => ?_) (fun c16 => ?_)
    · skip
      refine s_seq ?_
      refine s_region0 (fun ops => ?_)
      refine o_rd (rd_move rfl) rfl ?_
      refine o_rd (rd_assign rfl) rfl ?_
      refine o_nil ?_
      refine n_K ?_
      refine s_ret ?_
      refine r_blk ?_
      refine r_K ?_
      refine r_K ?_
      refine r_blk ?_
      refine r_K ?_
      refine leaf_is (rets1 Tryz.results98 (rv_tmp rfl)) ?_ (by repeat (first | exact Split.nil | (apply Split.cons; next => repeat (first | exact Pick.here | apply Pick.there | apply Pick.app)) | (apply Split.chunk; next => repeat (first | exact PickL.here | exact PickL.last | apply PickL.there | apply PickL.app)) | (apply Split.lst; repeat (first | exact PickL.here | exact PickL.last | apply PickL.there | apply PickL.app))))
      rw [idxF_at i h0 c9 h2 c16]
    · skip
      refine s_skip ?_
      refine n_blk ?_
      refine n_K ?_
      refine s_region0 (fun ops => ?_)
      refine o_rd (rd_add64 rfl rfl (by omega)) rfl ?_
      refine o_rd (rd_move rfl) rfl ?_
      refine o_nil ?_
      refine n_K ?_
      exact ⟨i + 1, ⟨by omega, by omega, step_all h2 c16⟩, (by omega), (by repeat' first | exact Keep.nil | refine Keep.cons rfl ?_), (by repeat' first | exact Keep.nil | refine Keep.cons rfl ?_), _, (by repeat (first | exact Split.nil | (apply Split.cons; next => repeat (first | exact Pick.here | apply Pick.there | apply Pick.app)) | (apply Split.chunk; next => repeat (first | exact PickL.here | exact PickL.last | apply PickL.there | apply PickL.app)) | (apply Split.lst; repeat (first | exact PickL.here | exact PickL.last | apply PickL.there | apply PickL.app))))⟩
  · try simp at c9
    refine s_exit ?_
    refine x_K ?_
    refine x_K ?_
    refine x_blk ?_
    refine n_K ?_
    refine s_seq ?_
    refine s_region0 (fun ops => ?_)
    refine o_rd (rd_assign rfl) rfl ?_
    refine o_nil ?_
    refine n_K ?_
    refine s_ret ?_
    refine leaf_is (rets1 Tryz.results98 (rv_tmp rfl)) ?_ (by repeat (first | exact Split.nil | (apply Split.cons; next => repeat (first | exact Pick.here | apply Pick.there | apply Pick.app)) | (apply Split.chunk; next => repeat (first | exact PickL.here | exact PickL.last | apply PickL.there | apply PickL.app)) | (apply Split.lst; repeat (first | exact PickL.here | exact PickL.last | apply PickL.there | apply PickL.app))))
    rw [idxF_none (fun k k0 k1 => h2 k k0 (by omega))]
theorem containsFunc_fn (hf : ∀ x : Int, Does Tryz.prog f (fi ++ [.int .i64 x] ++ ca) L (Is (.bool (p x)) L)) :
    Does Tryz.prog 73 [s.val, .func (.func f) fi.toArray ca.toArray] (s.hp T ++ (L ++ [])) (Is (.bool (s.list.any p)) (s.hp T ++ (L ++ []))) := by
  refine fn_enter (n := 9) Tryz.func73 Tryz.ntmps73 rfl (Nat.le_of_ble_eq_true rfl) ?_
  refine s_seq ?_
  refine s_region0 (fun ops => ?_)
  refine o_rd (rd_assign rfl) rfl ?_
  refine o_nil ?_
  refine n_K ?_
  refine s_seq ?_
  refine s_region0 (fun ops => ?_)
  refine o_rd (rd_move rfl) rfl ?_
  refine o_rd (rd_move rfl) rfl ?_
  refine c_is rfl (indexFunc_fn hf) (by repeat (first | exact Split.nil | (apply Split.cons; next => repeat (first | exact Pick.here | apply Pick.there | apply Pick.app)) | (apply Split.chunk; next => repeat (first | exact PickL.here | exact PickL.last | apply PickL.there | apply PickL.app)) | (apply Split.lst; repeat (first | exact PickL.here | exact PickL.last | apply PickL.there | apply PickL.app)))) rfl (by repeat (first | exact Ap.nil | apply Ap.cons | apply Ap.app | exact Ap.one)) ?_
  refine o_rd (rd_bin rfl rfl rfl) rfl ?_
  refine o_rd (rd_assign rfl) rfl ?_
  refine o_nil ?_
  refine n_K ?_
  refine s_ret ?_
  refine leaf_is (rets1 Tryz.results73 (rv_tmp rfl)) ?_ (by repeat (first | exact Split.nil | (apply Split.cons; next => repeat (first | exact Pick.here | apply Pick.there | apply Pick.app)) | (apply Split.chunk; next => repeat (first | exact PickL.here | exact PickL.last | apply PickL.there | apply PickL.app)) | (apply Split.lst; repeat (first | exact PickL.here | exact PickL.last | apply PickL.there | apply PickL.app))))
  exact congrArg Value.bool (idxF_any _ _)
theorem all1_fn {b : Nat} (hf : ∀ x : Int, Does Tryz.prog f (fi ++ [.int .i64 x] ++ ca) L (Is (.bool (p x)) L)) (x : Int) :
    Does Tryz.prog 74 [.int .i64 x, ptr b] ((b, true, C [.func (.func f) fi.toArray ca.toArray] 68) :: (L ++ [])) (Is (.bool (!p x)) ((b, true, C [.func (.func f) fi.toArray ca.toArray] 68) :: (L ++ []))) := by
  refine fn_enter (n := 8) Tryz.func74 Tryz.ntmps74 rfl (Nat.le_of_ble_eq_true rfl) ?_
  refine s_seq ?_
  refine s_region0 (fun ops => ?_)
  refine o_rd (rd_assign rfl) rfl ?_
  refine o_nil ?_
  refine n_K ?_
  refine s_seq ?_
  refine s_region0 (fun ops => ?_)
  refine o_rd (rd_ld rfl (by repeat' first | exact List.Mem.head _ | apply List.Mem.tail | apply List.mem_append_right) rfl) rfl ?_
  refine o_rd (rd_move rfl) rfl ?_
  refine c_fis rfl rfl (hf _) (by repeat (first | exact Split.nil | (apply Split.cons; next => repeat (first | exact Pick.here | apply Pick.there | apply Pick.app)) | (apply Split.chunk; next => repeat (first | exact PickL.here | exact PickL.last | apply PickL.there | apply PickL.app)) | (apply Split.lst; repeat (first | exact PickL.here | exact PickL.last | apply PickL.there | apply PickL.app)))) rfl (by repeat (first | exact Ap.nil | apply Ap.cons | apply Ap.app | exact Ap.one)) ?_
  refine o_rd (rd_not rfl) rfl ?_
  refine o_rd (rd_assign rfl) rfl ?_
  refine o_nil ?_
  refine n_K ?_
  refine s_ret ?_
  refine leaf_is (rets1 Tryz.results74 (rv_tmp rfl)) ?_ (by repeat (first | exact Split.nil | (apply Split.cons; next => repeat (first | exact Pick.here | apply Pick.there | apply Pick.app)) | (apply Split.chunk; next => repeat (first | exact PickL.here | exact PickL.last | apply PickL.there | apply PickL.app)) | (apply Split.lst; repeat (first | exact PickL.here | exact PickL.last | apply PickL.there | apply PickL.app))))
  rfl
theorem all_fn (hf : ∀ x : Int, Does Tryz.prog f (fi ++ [.int .i64 x] ++ ca) L (Is (.bool (p x)) L)) :
    Does Tryz.prog 43 [s.val, .func (.func f) fi.toArray ca.toArray] (s.hp T ++ (L ++ [])) (Is (.bool (s.list.all p)) (s.hp T ++ (L ++ []))) := by
  refine fn_enter (n := 9) Tryz.func43 Tryz.ntmps43 rfl (Nat.le_of_ble_eq_true rfl) ?_
  refine s_seq ?_
  refine s_region0 (fun ops => ?_)
  refine o_box rfl rfl (fun b3 => ?_)
  refine o_rd (rd_assign rfl) rfl ?_
  refine o_nil ?_
  refine n_K ?_
  refine s_seq ?_
  refine s_region0 (fun ops => ?_)
  refine o_rd (rd_move rfl) rfl ?_
  refine o_rd (rd_func rfl) rfl ?_
  refine c_is rfl (containsFunc_fn (f := 74) (fi := []) (ca := [ptr b3]) (p := fun x => !p x) (L := (b3, true, C [.func (.func f) fi.toArray ca.toArray] 68) :: (L ++ [])) (fun x => all1_fn hf x)) (by repeat (first | exact Split.nil | (apply Split.cons; next => repeat (first | exact Pick.here | apply Pick.there | apply Pick.app)) | (apply Split.chunk; next => repeat (first | exact PickL.here | exact PickL.last | apply PickL.there | apply PickL.app)) | (apply Split.lst; repeat (first | exact PickL.here | exact PickL.last | apply PickL.there | apply PickL.app)))) rfl (by repeat (first | exact Ap.nil | apply Ap.cons | apply Ap.app | exact Ap.one)) ?_
  refine o_rd (rd_not rfl) rfl ?_
  refine o_rd (rd_assign rfl) rfl ?_
  refine o_nil ?_
  refine n_K ?_
  refine s_ret ?_
  refine leaf_is (rets1 Tryz.results43 (rv_tmp rfl)) ?_ (by repeat (first | exact Split.nil | (apply Split.cons; next => repeat (first | exact Pick.here | apply Pick.there | apply Pick.app)) | (apply Split.chunk; next => repeat (first | exact PickL.here | exact PickL.last | apply PickL.there | apply PickL.app)) | (apply Split.lst; repeat (first | exact PickL.here | exact PickL.last | apply PickL.there | apply PickL.app))))
  exact congrArg Value.bool (by rw [← List.not_all_eq_any_not, Bool.not_not])
end
/-- What New gives. -/
instance (priority := 2000) zerBk : Zer Tryz.prog 97 (blkc zeroB) := ⟨by rw [← zeroB_eq]; exact (inferInstance : Zer Tryz.prog 97 (List.replicate 2064 (.int .u8 0) ++ [.int .i64 0, .bool false])).eq⟩
def NewR (off : Bool) (after keep : Int) (pp : Nat) (n : Int) (s : Sl Int) (T : TypeId) (v : Value) (H : Hp) : Prop :=
  if okNew n s.list = true then ∃ aC aB, v = .tuple #[ptr aC, .int .i64 0] ∧ H = chH (newC off after keep pp aC aB n.toNat s.list) ++ (s.hp T ++ [])
  else v = .tuple #[.pointer none, .int .i64 1] ∧ H = (s.hp T ++ [])
theorem chH_new {off : Bool} {after keep : Int} {aP aC aB n : Nat} {bad : List Int} : chH (newC off after keep aP aC aB n bad) = [(aP, true, C [.bool off, .int .i64 after, .int .i64 keep] tPw), (aC, true, C (chc (newC off after keep aP aC aB n bad)) tCh), (aB, true, C (rowc (newBs n bad n)) tBk)] := by
  rw [chH_eq]
  simp only [newC, Sl.hp_nil, List.nil_append]
theorem chc_new {off : Bool} {after keep : Int} {aP aC aB n : Nat} {bad : List Int} : chc (newC off after keep aP aC aB n bad) = [ptr aP, .slice (some ⟨aB, 0, none⟩) n n, .bool false, .bool false, .slice none 0 0, .int .i64 0, .slice none 0 0, .int .i64 0, .int .i64 0] := by
  simp only [chc, newC, newBs_len]; rfl
theorem new_all {off : Bool} {after keep : Int} {aP aC aB n : Nat} {bad : List Int} : thereB (newC off after keep aP aC aB n bad) = fun x => (decide (0 ≤ x) && decide (x < (n : Int))) := by
  funext x
  simp only [thereB, newC, newBs_len]
theorem new_fn {off : Bool} {after keep : Int} {pp : Nat} {n : Int} {s : Sl Int} {T : TypeId} :
    Does Tryz.prog 13 [ptr pp, .int .i64 n, s.val] ((pp, true, C [.bool off, .int .i64 after, .int .i64 keep] tPw) :: (s.hp T ++ [])) (NewR off after keep pp n s T) := by
  refine fn_enter (n := 51) Tryz.func13 Tryz.ntmps13 rfl (Nat.le_of_ble_eq_true rfl) ?_
  refine s_seq ?_
  refine s_region0 (fun ops => ?_)
  refine o_rd (rd_assign rfl) rfl ?_
  refine o_rd (rd_assign rfl) rfl ?_
  refine o_nil ?_
  refine n_K ?_
  refine s_seq ?_
  refine s_seq ?_
  refine s_region [(2, 13)] rfl (fun ops y => ?_)
  refine o_rd (rd_move rfl) rfl ?_
  refine o_rd (rd_bin rfl rfl rfl) rfl ?_
  refine o_rd (rd_move rfl) rfl ?_
  refine' o_or (j := 2) (k := 2) y rfl rfl rfl rfl rfl rfl rfl (fun hg13 => ?_) ?_
  rotate_left
  · try simp at hg13
    refine o_g y rfl rfl ?_
    refine o_rd (rd_move rfl) rfl ?_
    refine o_g y rfl rfl ?_
    refine o_rd (rd_bin rfl rfl rfl) rfl ?_
    exact o_nil ⟨rfl, rfl, ⟨_, (by repeat (first | exact Split.nil | (apply Split.cons; next => repeat (first | exact Pick.here | apply Pick.there | apply Pick.app)) | (apply Split.chunk; next => repeat (first | exact PickL.here | exact PickL.last | apply PickL.there | apply PickL.app)) | (apply Split.lst; repeat (first | exact PickL.here | exact PickL.last | apply PickL.there | apply PickL.app))))⟩⟩
  refine o_nil ?_
  refine n_K ?_
  refine s_cond rfl (fun c16 => ?_) (fun c16 => ?_)
  · skip
    refine s_seq ?_
    refine s_region0 (fun ops => ?_)
    refine o_rd (rd_assign rfl) rfl ?_
    refine o_rd (rd_assign rfl) rfl ?_
    refine o_nil ?_
    refine n_K ?_
    refine s_ret ?_
    refine r_K ?_
    exact leaf_r (rets2 Tryz.results13 (rv_tmp rfl) (rv_tmp rfl)) (by unfold NewR; rw [if_neg (by rw [okNew, c16]; simp)]; exact ⟨rfl, rfl⟩) (by repeat (first | exact Split.nil | (apply Split.cons; next => repeat (first | exact Pick.here | apply Pick.there | apply Pick.app)) | (apply Split.chunk; next => repeat (first | exact PickL.here | exact PickL.last | apply PickL.there | apply PickL.app)) | (apply Split.lst; repeat (first | exact PickL.here | exact PickL.last | apply PickL.there | apply PickL.app))))
  · skip
    have h16 : 16 ≤ n ∧ n ≤ 40 := by simp at c16; omega
    obtain ⟨N, rfl⟩ : ∃ N : Nat, n = N := ⟨n.toNat, by omega⟩
    refine s_skip ?_
    refine n_K ?_
    refine s_seq ?_
    refine s_region0 (fun ops => ?_)
    refine o_rd (rd_move rfl) rfl ?_
    refine o_rd (rd_move rfl) rfl ?_
    refine o_make (zs := blkc zeroB) (hz := zerBk) (hs := by rw [blkc_len]; infer_instance) (hby := byt97) rfl rfl (by omega) rfl (fun b19 => ?_)
    refine o_rd (rd_build_s rfl rfl) rfl ?_
    refine o_box rfl rfl (fun b21 => ?_)
    refine so_eq (G := (b21, true, C (chc (newC off after keep pp b21 b19 N s.list)) tCh) :: (b19, true, C (rowc (newBs N s.list 0)) tBk) :: (pp, true, C [.bool off, .int .i64 after, .int .i64 keep] tPw) :: (s.hp T ++ [])) (by rw [chc_new, newBs_0, ← zrep_row]; rfl) ?_
    refine o_rd (rd_assign rfl) rfl ?_
    refine o_nil ?_
    refine n_K ?_
    refine s_seq ?_
    refine s_seq ?_
    refine s_region0 (fun ops => ?_)
    refine o_rd (rd_move rfl) rfl ?_
    refine o_rd (rd_move rfl) rfl ?_
    refine o_rd (rd_func2 (fi := [_]) (cap := []) rfl rfl) rfl ?_
    refine c_is rfl (all_fn (f := 44) (fi := [ptr b21]) (ca := []) (fun x => there_fn (c := newC off after keep pp b21 b19 N s.list))) (by repeat (first | exact Split.nil | (apply Split.cons; next => repeat (first | exact Pick.here | apply Pick.there | apply Pick.app)) | (apply Split.chunk; next => repeat (first | exact PickL.here | exact PickL.last | apply PickL.there | apply PickL.app)) | (apply Split.lst; repeat (first | exact PickL.here | exact PickL.last | apply PickL.there | apply PickL.app)))) rfl (by repeat (first | exact Ap.nil | apply Ap.cons | apply Ap.app | exact Ap.one)) ?_
    refine o_rd (rd_not rfl) rfl ?_
    refine o_nil ?_
    refine n_K ?_
    refine s_cond rfl (fun c26 => ?_) (fun c26 => ?_)
    · skip
      have hall : (s.list.all fun x => decide (0 ≤ x) && decide (x < (N : Int))) = false := by simpa only [new_all, Bool.not_eq_true'] using c26
      refine s_seq ?_
      refine s_region0 (fun ops => ?_)
      refine o_rd (rd_assign rfl) rfl ?_
      refine o_rd (rd_assign rfl) rfl ?_
      refine o_nil ?_
      refine n_K ?_
      refine s_ret ?_
      refine r_K ?_
      exact leaf_r (rets2 Tryz.results13 (rv_tmp rfl) (rv_tmp rfl)) (by unfold NewR; rw [if_neg (by rw [okNew, hall]; simp)]; exact ⟨rfl, rfl⟩) (by repeat (first | exact Split.nil | (apply Split.cons; next => repeat (first | exact Pick.here | apply Pick.there | apply Pick.app)) | (apply Split.chunk; next => repeat (first | exact PickL.here | exact PickL.last | apply PickL.there | apply PickL.app)) | (apply Split.lst; repeat (first | exact PickL.here | exact PickL.last | apply PickL.there | apply PickL.app))))
    · skip
      have hall : (s.list.all fun x => decide (0 ≤ x) && decide (x < (N : Int))) = true := by simpa only [new_all, Bool.not_eq_false'] using c26
      refine s_skip ?_
      refine n_K ?_
      refine s_seq ?_
      refine s_seq ?_
      refine s_region0 (fun ops => ?_)
      refine o_rd (rd_move rfl) rfl ?_
      refine o_rd (rd_nil rfl) rfl ?_
      refine o_rd (rd_field rfl) rfl ?_
      refine o_rd (rd_ld rfl (by repeat' first | exact List.Mem.head _ | apply List.Mem.tail | apply List.mem_append_right) (by rw [chc_new]; rfl)) rfl ?_
      refine o_rd (rd_lenS rfl) rfl ?_
      refine o_rd (rd_move rfl) rfl ?_
      refine o_nil ?_
      refine n_K ?_
      refine s_block ?_
      refine s_loop2 [2, 8, 31] (by repeat' first | exact Keep2.nil | apply Keep2.cons rfl) (fun (s' : Nat) => [(32, .int .i64 s')]) (fun (s' : Nat) => (b21, true, C (chc (newC off after keep pp b21 b19 N s.list)) tCh) :: (b19, true, C (rowc (newBs N s.list s')) tBk) :: (pp, true, C [.bool off, .int .i64 after, .int .i64 keep] tPw) :: (s.hp T ++ [])) (fun (s' : Nat) => s' ≤ N) (fun (s' : Nat) => N - s') ((0 : Nat)) (by first | trivial | omega | simp) (by repeat' first | exact Keep.nil | refine Keep.cons rfl ?_) (by repeat (first | exact Split.nil | (apply Split.cons; next => repeat (first | exact Pick.here | apply Pick.there | apply Pick.app)) | (apply Split.chunk; next => repeat (first | exact PickL.here | exact PickL.last | apply PickL.there | apply PickL.app)) | (apply Split.lst; repeat (first | exact PickL.here | exact PickL.last | apply PickL.there | apply PickL.app)))) ?_
      rintro i h0
      refine s_seq ?_
      refine s_region0 (fun ops => ?_)
      refine o_rd (rd_bin rfl rfl rfl) rfl ?_
      refine o_nil ?_
      refine n_K ?_
      refine s_seq ?_
      refine s_cond rfl (fun c33 => ?_) (fun c33 => ?_)
      · simp at c33
        have hi : (newBs N s.list i)[i]? = some zeroB := newBs_at s.list c33
        refine s_skip ?_
        refine n_K ?_
        refine s_seq ?_
        refine s_block ?_
        refine s_seq ?_
        refine s_region0 (fun ops => ?_)
        refine o_rd (rd_move rfl) rfl ?_
        refine o_rd (rd_assign rfl) rfl ?_
        refine o_nil ?_
        refine n_K ?_
        refine s_seq ?_
        refine s_region0 (fun ops => ?_)
        refine o_rd (rd_move rfl) rfl ?_
        refine o_rd (rd_nil rfl) rfl ?_
        refine o_rd (rd_field rfl) rfl ?_
        refine o_rd (rd_ld rfl (by repeat' first | exact List.Mem.head _ | apply List.Mem.tail | apply List.mem_append_right) (by rw [chc_new]; rfl)) rfl ?_
        refine o_rd (rd_move rfl) rfl ?_
        refine o_rd (rd_ixS0 rfl rfl (by omega)) rfl ?_
        refine o_rd (rd_assign rfl) rfl ?_
        refine o_nil ?_
        refine n_K ?_
        refine s_seq ?_
        refine s_region0 (fun ops => ?_)
        refine o_rd (rd_move rfl) rfl ?_
        refine o_rd (rd_move rfl) rfl ?_
        refine o_rd (rd_move rfl) rfl ?_
        refine c_is rfl (contains_fn) (by repeat (first | exact Split.nil | (apply Split.cons; next => repeat (first | exact Pick.here | apply Pick.there | apply Pick.app)) | (apply Split.chunk; next => repeat (first | exact PickL.here | exact PickL.last | apply PickL.there | apply PickL.app)) | (apply Split.lst; repeat (first | exact PickL.here | exact PickL.last | apply PickL.there | apply PickL.app)))) rfl (by repeat (first | exact Ap.nil | apply Ap.cons | apply Ap.app | exact Ap.one)) ?_
        refine o_rd (rd_nil rfl) rfl ?_
        refine o_rd (rd_field rfl) rfl ?_
        refine o_store (cs' := rowc ((newBs N s.list i).set i { zeroB with bad := hasI s.list i })) rfl rfl (by repeat' first | exact Upd.here | apply Upd.there | apply Upd.app) rfl rfl (row_setBad _ hi) ?_
        refine o_nil ?_
        refine n_K ?_
        refine s_region0 (fun ops => ?_)
        refine o_rd (rd_move rfl) rfl ?_
        refine c_is rfl ((wipe_fn (set_at hi _)).to rfl (by rw [List.set_set, show clampN 8 8 = 8 from rfl, wipe_zero, newBs_step s.list c33])) (by repeat (first | exact Split.nil | (apply Split.cons; next => repeat (first | exact Pick.here | apply Pick.there | apply Pick.app)) | (apply Split.chunk; next => repeat (first | exact PickL.here | exact PickL.last | apply PickL.there | apply PickL.app)) | (apply Split.lst; repeat (first | exact PickL.here | exact PickL.last | apply PickL.there | apply PickL.app)))) rfl (by repeat (first | exact Ap.nil | apply Ap.cons | apply Ap.app | exact Ap.one)) ?_
        refine o_nil ?_
        refine n_blk ?_
        refine n_K ?_
        refine s_region0 (fun ops => ?_)
        refine o_rd (rd_add64 rfl rfl (by omega)) rfl ?_
        refine o_rd (rd_move rfl) rfl ?_
        refine o_nil ?_
        refine n_K ?_
        exact ⟨i + 1, (by omega), (by omega), (by repeat' first | exact Keep.nil | refine Keep.cons rfl ?_), (by repeat' first | exact Keep.nil | refine Keep.cons rfl ?_), _, (by repeat (first | exact Split.nil | (apply Split.cons; next => repeat (first | exact Pick.here | apply Pick.there | apply Pick.app)) | (apply Split.chunk; next => repeat (first | exact PickL.here | exact PickL.last | apply PickL.there | apply PickL.app)) | (apply Split.lst; repeat (first | exact PickL.here | exact PickL.last | apply PickL.there | apply PickL.app))))⟩
      · simp at c33
        refine s_exit ?_
        refine x_K ?_
        refine x_K ?_
        refine x_blk ?_
        refine n_K ?_
        refine s_seq ?_
        refine s_region0 (fun ops => ?_)
        refine o_rd (rd_move rfl) rfl ?_
        refine o_rd (rd_assign rfl) rfl ?_
        refine o_rd (rd_assign rfl) rfl ?_
        refine o_nil ?_
        refine n_K ?_
        refine s_ret ?_
        exact leaf_r (rets2 Tryz.results13 (rv_tmp rfl) (rv_tmp rfl)) (by unfold NewR; rw [if_pos (by rw [okNew, hall, c16]; rfl)]; exact ⟨b21, b19, rfl, rfl⟩) (by rw [show ((N : Int)).toNat = N from rfl, chH_new]; rw [show i = N by omega]; exact (by repeat (first | exact Split.nil | (apply Split.cons; next => repeat (first | exact Pick.here | apply Pick.there | apply Pick.app)) | (apply Split.chunk; next => repeat (first | exact PickL.here | exact PickL.last | apply PickL.there | apply PickL.app)) | (apply Split.lst; repeat (first | exact PickL.here | exact PickL.last | apply PickL.there | apply PickL.app)))))
end Go.Proofs.YtdfidkhbldedlaaGreat
