/- Walks of package bbt: reading a page; areas; keeping. -/
import Derived.Test.YtdfidkhbldedlaaGreatT1
namespace Go.Proofs.YtdfidkhbldedlaaGreat
open Go.K
set_option linter.unusedVariables false
set_option linter.unusedSimpArgs false
instance ent61 : Ent Tryz.prog 61 := ⟨fun _ _ => by kernel_rfl⟩

theorem conv_bi (b : By) : IntKind.i64.wrap (b.toNat : Int) = intB b := wrap64_in (by have := b.isLt; omega)
theorem conv_ui (x : Wd) : IntKind.i64.wrap (x.toNat : Int) = w64 (x.toNat : Int) := rfl
theorem readF_len (p : Pg) : (readF p).2.1.length ≤ 240 := by
  unfold readF
  simp only []
  split
  · simp
  · split
    · simp
    · split
      · simp
      · split
        · simp
        · simp only [bodyOf]
          split
          · rw [List.length_take]; omega
          · simp
theorem read_fn2 {q : Pg} {n : Int} : Does Tryz.prog 61 [.agg (vbc q).toArray, .int .i64 n] [] (fun v H => ∃ u l : Sl Int, v = .tuple #[.agg #[u.val, l.val], wv (readT q n).2.2.1, .bool (readT q n).2.2.2] ∧ H = u.hp tI ++ (l.hp tI ++ []) ∧ u.list = (readT q n).1 ∧ l.list = (readT q n).2.1 ∧ u.isOwn = true ∧ l.isOwn = true) := by
  have hbl := readF_len q
  refine fn_enter (n := 97) Tryz.func61 Tryz.ntmps61 rfl (Nat.le_of_ble_eq_true rfl) ?_
  refine s_seq ?_
  refine s_region0 (fun ops => ?_)
  refine o_boxA rfl rfl (fun b2 => ?_)
  refine o_alloc rfl (fun b4 => ?_)
  refine o_rd (rd_assign rfl) rfl ?_
  refine o_rd (rd_assign rfl) rfl ?_
  refine o_nil ?_
  refine n_K ?_
  refine s_seq ?_
  refine s_region0 (fun ops => ?_)
  refine o_rd (rd_ldA rfl (by repeat' first | exact List.Mem.head _ | apply List.Mem.tail | apply List.mem_append_right) (by first | exact cut_vb | rfl)) rfl ?_
  refine c_ex rfl (fread_fn) (by repeat (first | exact Split.nil | (apply Split.cons; next => repeat (first | exact Pick.here | apply Pick.there | apply Pick.app)) | (apply Split.chunk; next => repeat (first | exact PickL.here | exact PickL.last | apply PickL.there | apply PickL.app)) | (apply Split.lst; repeat (first | exact PickL.here | exact PickL.last | apply PickL.there | apply PickL.app)))) rfl (fun v20 Y20 h20 => ?_)
  obtain ⟨s20, rfl, rfl, hs20, ho20⟩ := h20
  refine so_ap (by repeat (first | exact Ap.nil | apply Ap.cons | apply Ap.app | exact Ap.one)) ?_
  refine o_rd (rd_move rfl) rfl ?_
  refine o_rd (rd_extract rfl rfl) rfl ?_
  refine o_rd (rd_extract rfl rfl) rfl ?_
  refine o_rd (rd_extract rfl rfl) rfl ?_
  refine o_rd (rd_extract rfl rfl) rfl ?_
  refine o_rd (rd_assign rfl) rfl ?_
  refine o_rd (rd_assign rfl) rfl ?_
  refine o_rd (rd_assign rfl) rfl ?_
  refine o_rd (rd_assign rfl) rfl ?_
  refine o_nil ?_
  refine n_K ?_
  refine s_seq ?_
  refine s_seq ?_
  refine s_region [(2, 27)] rfl (fun ops y => ?_)
  refine o_rd (rd_move rfl) rfl ?_
  refine o_rd (rd_bin rfl rfl rfl) rfl ?_
  refine o_rd (rd_move rfl) rfl ?_
  refine' o_or (j := 2) (k := 2) y rfl rfl rfl rfl rfl rfl rfl (fun hg27 => ?_) ?_
  rotate_left
  · try simp at hg27
    refine o_g y rfl rfl ?_
    refine o_rd (rd_move rfl) rfl ?_
    refine o_g y rfl rfl ?_
    refine o_rd (rd_bin rfl rfl rfl) rfl ?_
    exact o_nil ⟨rfl, rfl, ⟨_, (by repeat (first | exact Split.nil | (apply Split.cons; next => repeat (first | exact Pick.here | apply Pick.there | apply Pick.app)) | (apply Split.chunk; next => repeat (first | exact PickL.here | exact PickL.last | apply PickL.there | apply PickL.app)) | (apply Split.lst; repeat (first | exact PickL.here | exact PickL.last | apply PickL.there | apply PickL.app))))⟩⟩
  refine o_nil ?_
  refine n_K ?_
  refine s_cond rfl (fun c30 => ?_) (fun c30 => ?_)
  · skip
    have hres : readT q n = ([], [], 0, false) := (by unfold readT; simp only []; rw [if_pos (by simp at c30; rcases c30 with h | h; exact .inl h; right; intro e; rw [e] at h; exact h rfl)])
    refine s_seq ?_
    refine s_region0 (fun ops => ?_)
    refine o_rd (rd_ldA rfl (by repeat' first | exact List.Mem.head _ | apply List.Mem.tail | apply List.mem_append_right) rfl) rfl ?_
    refine o_store rfl rfl (by repeat' first | exact Upd.here | apply Upd.there | apply Upd.app) rfl rfl rfl ?_
    refine o_rd (rd_assign rfl) rfl ?_
    refine o_rd (rd_assign rfl) rfl ?_
    refine o_nil ?_
    refine n_K ?_
    refine s_ret ?_
    refine r_K ?_
    exact leaf_r (rets3 Tryz.results61 (rv_cell rfl (by repeat' first | exact List.Mem.head _ | apply List.Mem.tail | apply List.mem_append_right) rfl) (rv_tmp rfl) (rv_tmp rfl)) (by refine ⟨.nil, .nil, ?_, rfl, ?_, ?_, rfl, rfl⟩ <;> rw [hres] <;> rfl) (by simp only [Sl.hp_nil, List.nil_append]; exact Split.nil)
  · skip
    have h0 : readT q n = readTB (readF q).2.1 n := (by unfold readT; simp only []; rw [if_neg (by simp at c30; rintro (h | h); exact h c30.1; exact h (BitVec.eq_of_toNat_eq (by have := c30.2; show _ = 1; omega)))])
    refine s_skip ?_
    refine n_K ?_
    refine s_seq ?_
    refine s_region0 (fun ops => ?_)
    refine o_rd (rd_move rfl) rfl ?_
    refine c_ex rfl (newReader_fn (s := s20) (by rw [hs20]; omega)) (by repeat (first | exact Split.nil | (apply Split.cons; next => repeat (first | exact Pick.here | apply Pick.there | apply Pick.app)) | (apply Split.chunk; next => repeat (first | exact PickL.here | exact PickL.last | apply PickL.there | apply PickL.app)) | (apply Split.lst; repeat (first | exact PickL.here | exact PickL.last | apply PickL.there | apply PickL.app)))) rfl (fun v33 Y33 h33 => ?_)
    obtain ⟨r33, rfl, rfl, hr33, hb33⟩ := h33
    refine so_ap (by repeat (first | exact Ap.nil | apply Ap.cons | apply Ap.app | exact Ap.one)) ?_
    refine o_rd (rd_assign rfl) rfl ?_
    refine o_nil ?_
    refine n_K ?_
    refine s_seq ?_
    refine s_region0 (fun ops => ?_)
    refine o_rd (rd_move rfl) rfl ?_
    refine c_ex rfl (rnum_fn (n := 8) (by rw [hr33, hs20]; omega)) (by repeat (first | exact Split.nil | (apply Split.cons; next => repeat (first | exact Pick.here | apply Pick.there | apply Pick.app)) | (apply Split.chunk; next => repeat (first | exact PickL.here | exact PickL.last | apply PickL.there | apply PickL.app)) | (apply Split.lst; repeat (first | exact PickL.here | exact PickL.last | apply PickL.there | apply PickL.app)))) rfl (fun v35 Y35 h35 => ?_)
    obtain ⟨x35, sl35, bad35, rfl, rfl, hx35, hsl35, hbd35⟩ := h35
    refine so_ap (by repeat (first | exact Ap.nil | apply Ap.cons | apply Ap.app | exact Ap.one)) ?_
    refine o_rd (rd_assign rfl) rfl ?_
    refine o_nil ?_
    refine n_K ?_
    refine s_seq ?_
    refine s_seq ?_
    refine s_region0 (fun ops => ?_)
    refine o_rd (rd_move rfl) rfl ?_
    refine c_ex rfl (rnum_fn (r := ⟨r33.b, sl35, bad35⟩) (n := 1) (Nat.le_trans (rdN_len hsl35 (by rw [hr33, hs20]; exact hbl)) (by omega))) (by repeat (first | exact Split.nil | (apply Split.cons; next => repeat (first | exact Pick.here | apply Pick.there | apply Pick.app)) | (apply Split.chunk; next => repeat (first | exact PickL.here | exact PickL.last | apply PickL.there | apply PickL.app)) | (apply Split.lst; repeat (first | exact PickL.here | exact PickL.last | apply PickL.there | apply PickL.app)))) rfl (fun v37 Y37 h37 => ?_)
    obtain ⟨x37, sl37, bad37, rfl, rfl, hx37, hsl37, hbd37⟩ := h37
    refine so_ap (by repeat (first | exact Ap.nil | apply Ap.cons | apply Ap.app | exact Ap.one)) ?_
    refine o_rd (rd_convI rfl) rfl ?_
    refine o_rd (rd_move rfl) rfl ?_
    refine o_rd (rd_bin rfl rfl rfl) rfl ?_
    refine o_nil ?_
    refine n_K ?_
    refine s_cond rfl (fun c40 => ?_) (fun c40 => ?_)
    · skip
      rw [hr33, hs20, hb33] at hx35 hsl35 hbd35
      have ha : (x35, sl35.list, bad35) = rdNum 8 (readF q).2.1 false := (by rw [hx35, hsl35, hbd35]; rfl)
      have hb : (x37, sl37.list, bad37) = rdNum 1 sl35.list bad35 := (by rw [hx37, hsl37, hbd37]; rfl)
      have hres : readT q n = ([], [], 0, false) := (by rw [h0]; exact readTB_no ha hb (by simpa using c40))
      refine s_seq ?_
      refine s_region0 (fun ops => ?_)
      refine o_rd (rd_ldA rfl (by repeat' first | exact List.Mem.head _ | apply List.Mem.tail | apply List.mem_append_right) rfl) rfl ?_
      refine o_store rfl rfl (by repeat' first | exact Upd.here | apply Upd.there | apply Upd.app) rfl rfl rfl ?_
      refine o_rd (rd_assign rfl) rfl ?_
      refine o_rd (rd_assign rfl) rfl ?_
      refine o_nil ?_
      refine n_K ?_
      refine s_ret ?_
      refine r_K ?_
      exact leaf_r (rets3 Tryz.results61 (rv_cell rfl (by repeat' first | exact List.Mem.head _ | apply List.Mem.tail | apply List.mem_append_right) rfl) (rv_tmp rfl) (rv_tmp rfl)) (by refine ⟨.nil, .nil, ?_, rfl, ?_, ?_, rfl, rfl⟩ <;> rw [hres] <;> rfl) (by simp only [Sl.hp_nil, List.nil_append]; exact Split.nil)
    · skip
      rw [hr33, hs20, hb33] at hx35 hsl35 hbd35
      have ha : (x35, sl35.list, bad35) = rdNum 8 (readF q).2.1 false := (by rw [hx35, hsl35, hbd35]; rfl)
      have hb : (x37, sl37.list, bad37) = rdNum 1 sl35.list bad35 := (by rw [hx37, hsl37, hbd37]; rfl)
      have h1 : w64 (x37.toNat : Int) = n := (by simpa using c40)
      have l37 := rdN_len hsl37 (rdN_len hsl35 hbl)
      refine s_skip ?_
      refine n_K ?_
      refine s_seq ?_
      refine s_region0 (fun ops => ?_)
      refine o_rd (rd_move rfl) rfl ?_
      refine c_ex rfl (rnum_fn (r := ⟨r33.b, sl37, bad37⟩) (n := 1) (Nat.le_trans l37 (by omega))) (by repeat (first | exact Split.nil | (apply Split.cons; next => repeat (first | exact Pick.here | apply Pick.there | apply Pick.app)) | (apply Split.chunk; next => repeat (first | exact PickL.here | exact PickL.last | apply PickL.there | apply PickL.app)) | (apply Split.lst; repeat (first | exact PickL.here | exact PickL.last | apply PickL.there | apply PickL.app)))) rfl (fun v43 Y43 h43 => ?_)
      obtain ⟨x43, sl43, bad43, rfl, rfl, hx43, hsl43, hbd43⟩ := h43
      refine so_ap (by repeat (first | exact Ap.nil | apply Ap.cons | apply Ap.app | exact Ap.one)) ?_
      refine o_rd (rd_convI rfl) rfl ?_
      refine o_rd (rd_move rfl) rfl ?_
      refine c_ex rfl (rnum_fn (r := ⟨r33.b, sl43, bad43⟩) (n := 1) (Nat.le_trans (rdN_len hsl43 l37) (by omega))) (by repeat (first | exact Split.nil | (apply Split.cons; next => repeat (first | exact Pick.here | apply Pick.there | apply Pick.app)) | (apply Split.chunk; next => repeat (first | exact PickL.here | exact PickL.last | apply PickL.there | apply PickL.app)) | (apply Split.lst; repeat (first | exact PickL.here | exact PickL.last | apply PickL.there | apply PickL.app)))) rfl (fun v46 Y46 h46 => ?_)
      obtain ⟨x46, sl46, bad46, rfl, rfl, hx46, hsl46, hbd46⟩ := h46
      refine so_ap (by repeat (first | exact Ap.nil | apply Ap.cons | apply Ap.app | exact Ap.one)) ?_
      refine o_rd (rd_convI rfl) rfl ?_
      refine o_rd (rd_assign rfl) rfl ?_
      refine o_rd (rd_assign rfl) rfl ?_
      refine o_nil ?_
      refine n_K ?_
      refine s_seq ?_
      refine s_seq ?_
      refine s_region0 (fun ops => ?_)
      refine o_rd (rd_move rfl) rfl ?_
      refine o_rd (rd_move rfl) rfl ?_
      refine c_ex rfl (rbytes_fn (r := ⟨r33.b, sl46, bad46⟩) (Nat.le_trans (rdN_len hsl46 (rdN_len hsl43 l37)) (by omega))) (by repeat (first | exact Split.nil | (apply Split.cons; next => repeat (first | exact Pick.here | apply Pick.there | apply Pick.app)) | (apply Split.chunk; next => repeat (first | exact PickL.here | exact PickL.last | apply PickL.there | apply PickL.app)) | (apply Split.lst; repeat (first | exact PickL.here | exact PickL.last | apply PickL.there | apply PickL.app)))) rfl (fun v50 Y50 h50 => ?_)
      obtain ⟨s50, sl50, bad50, rfl, rfl, ho50, hs50, hsl50, hbd50⟩ := h50
      refine so_ap (by repeat (first | exact Ap.nil | apply Ap.cons | apply Ap.app | exact Ap.one)) ?_
      refine o_rd (rd_lenS rfl) rfl ?_
      refine o_rd (rd_move rfl) rfl ?_
      refine o_nil ?_
      refine n_K ?_
      refine s_block ?_
      have hs50len := rdB_len1 hs50 (rdN_len hsl46 (rdN_len hsl43 l37))
      refine sc_eq (nil_hp (α := Int) (T := tI)) ?_
      refine s_loop2 [1, 4, 5, 11, 12, 13, 50, 51] (by repeat' first | exact Keep2.nil | apply Keep2.cons rfl) (fun (st : Nat × Sl Int) => [(52, .int .i64 st.1)]) (fun (st : Nat × Sl Int) => (b4, true, C [st.2.val, .slice none 0 0] tPl) :: (st.2.hp tI ++ (s50.hp tU8 ++ (rdH ⟨r33.b, sl50, bad50⟩ ++ [])))) (fun (st : Nat × Sl Int) => st.1 ≤ s50.list.length ∧ st.2.list = (s50.list.take st.1).map intB ∧ st.2.isOwn = true) (fun (st : Nat × Sl Int) => s50.list.length - st.1) ((0, .nil)) ⟨Nat.zero_le _, rfl, rfl⟩ (by repeat' first | exact Keep.nil | refine Keep.cons rfl ?_) (by repeat (first | exact Split.nil | (apply Split.cons; next => repeat (first | exact Pick.here | apply Pick.there | apply Pick.app)) | (apply Split.chunk; next => repeat (first | exact PickL.here | exact PickL.last | apply PickL.there | apply PickL.app)) | (apply Split.lst; repeat (first | exact PickL.here | exact PickL.last | apply PickL.there | apply PickL.app)))) ?_
      rintro ⟨i, u⟩ ⟨g0, h1', h2⟩
      simp only at g0 h1' h2
      have hul : u.list.length = i := by rw [h1', List.length_map, List.length_take]; omega
      refine s_seq ?_
      refine s_region0 (fun ops => ?_)
      refine o_rd (rd_bin rfl rfl rfl) rfl ?_
      refine o_nil ?_
      refine n_K ?_
      refine s_seq ?_
      refine s_cond rfl (fun c53 => ?_) (fun c53 => ?_)
      · simp only [decide_eq_true_eq, decide_eq_false_iff_not] at c53
        obtain ⟨y, hg⟩ : ∃ y, s50.list[i]? = some y := ⟨_, List.getElem?_eq_getElem (by omega)⟩
        refine s_skip ?_
        refine n_K ?_
        refine s_seq ?_
        refine s_block ?_
        refine s_seq ?_
        refine s_region0 (fun ops => ?_)
        refine o_rd (rd_ixSl rfl rfl (by omega)) rfl ?_
        refine o_rd (rd_ldSl (o := 0) (v := bv y) rfl (by repeat (first | exact PickL.here | exact PickL.last | apply PickL.there | apply PickL.app)) hg rfl rfl) rfl ?_
        refine o_rd (rd_assign rfl) rfl ?_
        refine o_nil ?_
        refine n_K ?_
        refine s_region0 (fun ops => ?_)
        refine o_rd (rd_field rfl) rfl ?_
        refine o_rd (rd_ld rfl (by repeat' first | exact List.Mem.head _ | apply List.Mem.tail | apply List.mem_append_right) rfl) rfl ?_
        refine o_rd (rd_move rfl) rfl ?_
        refine o_rd (show Rd _ _ _ _ (.int .i64 (intB y)) from rd_via (conv_bi y) rfl) rfl ?_
        refine o_bslice_k rfl rfl rfl rfl (fun b60 => ?_)
        refine o_append_sl (s := u) (new := [intB y]) (m := 1) rfl rfl (by repeat (first | exact PickL.here | exact PickL.last | apply PickL.there | apply PickL.app)) h2 (src_blk (r := true) (by repeat' first | exact List.Mem.head _ | apply List.Mem.tail | apply List.mem_append_right) rfl) rfl rfl rfl rfl (by have := hs50len; omega) rfl (fun s' hs1 hs2 => ?_)
        refine o_rd (rd_field rfl) rfl ?_
        refine o_store rfl rfl (by repeat' first | exact Upd.here | apply Upd.there | apply Upd.app) rfl rfl rfl ?_
        refine o_nil ?_
        refine n_blk ?_
        refine n_K ?_
        refine s_region0 (fun ops => ?_)
        refine o_rd (rd_add64 rfl rfl (by omega)) rfl ?_
        refine o_rd (rd_move rfl) rfl ?_
        refine o_nil ?_
        refine n_K ?_
        exact ⟨(i + 1, s'), ⟨by simp only; omega, by rw [hs1, h1', map_take hg], hs2⟩, (by simp only; omega), (by repeat' first | exact Keep.nil | refine Keep.cons rfl ?_), (by repeat' first | exact Keep.nil | refine Keep.cons rfl ?_), _, (by repeat (first | exact Split.nil | (apply Split.cons; next => repeat (first | exact Pick.here | apply Pick.there | apply Pick.app)) | (apply Split.chunk; next => repeat (first | exact PickL.here | exact PickL.last | apply PickL.there | apply PickL.app)) | (apply Split.lst; repeat (first | exact PickL.here | exact PickL.last | apply PickL.there | apply PickL.app))))⟩
      · simp only [decide_eq_true_eq, decide_eq_false_iff_not] at c53
        have hall : u.list = s50.list.map intB := by rw [h1', List.take_of_length_le (by omega)]
        refine s_exit ?_
        refine x_K ?_
        refine x_K ?_
        refine x_blk ?_
        refine n_K ?_
        refine s_seq ?_
        refine s_seq ?_
        refine s_region0 (fun ops => ?_)
        refine o_rd (rd_move rfl) rfl ?_
        refine o_rd (rd_move rfl) rfl ?_
        refine c_ex rfl (rbytes_fn (r := ⟨r33.b, sl50, bad50⟩) (Nat.le_trans (rdB_len hsl50 (rdN_len hsl46 (rdN_len hsl43 l37))) (by omega))) (by repeat (first | exact Split.nil | (apply Split.cons; next => repeat (first | exact Pick.here | apply Pick.there | apply Pick.app)) | (apply Split.chunk; next => repeat (first | exact PickL.here | exact PickL.last | apply PickL.there | apply PickL.app)) | (apply Split.lst; repeat (first | exact PickL.here | exact PickL.last | apply PickL.there | apply PickL.app)))) rfl (fun v66 Y66 h66 => ?_)
        obtain ⟨s66, sl66, bad66, rfl, rfl, ho66, hs66, hsl66, hbd66⟩ := h66
        refine so_ap (by repeat (first | exact Ap.nil | apply Ap.cons | apply Ap.app | exact Ap.one)) ?_
        refine o_rd (rd_lenS rfl) rfl ?_
        refine o_rd (rd_move rfl) rfl ?_
        refine o_nil ?_
        refine n_K ?_
        refine s_block ?_
        have hs66len := rdB_len1 hs66 (rdB_len hsl50 (rdN_len hsl46 (rdN_len hsl43 l37)))
        refine sc_eq (nil_hp (α := Int) (T := tI)) ?_
        refine s_loop2 [1, 4, 5, 11, 12, 66, 67] (by repeat' first | exact Keep2.nil | apply Keep2.cons rfl) (fun (st : Nat × Sl Int) => [(68, .int .i64 st.1)]) (fun (st : Nat × Sl Int) => (b4, true, C [u.val, st.2.val] tPl) :: (st.2.hp tI ++ (u.hp tI ++ (s66.hp tU8 ++ (rdH ⟨r33.b, sl66, bad66⟩ ++ []))))) (fun (st : Nat × Sl Int) => st.1 ≤ s66.list.length ∧ st.2.list = (s66.list.take st.1).map intB ∧ st.2.isOwn = true) (fun (st : Nat × Sl Int) => s66.list.length - st.1) ((0, .nil)) ⟨Nat.zero_le _, rfl, rfl⟩ (by repeat' first | exact Keep.nil | refine Keep.cons rfl ?_) (by repeat (first | exact Split.nil | (apply Split.cons; next => repeat (first | exact Pick.here | apply Pick.there | apply Pick.app)) | (apply Split.chunk; next => repeat (first | exact PickL.here | exact PickL.last | apply PickL.there | apply PickL.app)) | (apply Split.lst; repeat (first | exact PickL.here | exact PickL.last | apply PickL.there | apply PickL.app)))) ?_
        rintro ⟨j, l⟩ ⟨k0, k1, k2⟩
        simp only at k0 k1 k2
        have hll : l.list.length = j := by rw [k1, List.length_map, List.length_take]; omega
        refine s_seq ?_
        refine s_region0 (fun ops => ?_)
        refine o_rd (rd_bin rfl rfl rfl) rfl ?_
        refine o_nil ?_
        refine n_K ?_
        refine s_seq ?_
        refine s_cond rfl (fun c69 => ?_) (fun c69 => ?_)
        · simp only [decide_eq_true_eq, decide_eq_false_iff_not] at c69
          obtain ⟨y, hg⟩ : ∃ y, s66.list[j]? = some y := ⟨_, List.getElem?_eq_getElem (by omega)⟩
          refine s_skip ?_
          refine n_K ?_
          refine s_seq ?_
          refine s_block ?_
          refine s_seq ?_
          refine s_region0 (fun ops => ?_)
          refine o_rd (rd_ixSl rfl rfl (by omega)) rfl ?_
          refine o_rd (rd_ldSl (o := 0) (v := bv y) rfl (by repeat (first | exact PickL.here | exact PickL.last | apply PickL.there | apply PickL.app)) hg rfl rfl) rfl ?_
          refine o_rd (rd_assign rfl) rfl ?_
          refine o_nil ?_
          refine n_K ?_
          refine s_region0 (fun ops => ?_)
          refine o_rd (rd_field rfl) rfl ?_
          refine o_rd (rd_ld rfl (by repeat' first | exact List.Mem.head _ | apply List.Mem.tail | apply List.mem_append_right) rfl) rfl ?_
          refine o_rd (rd_move rfl) rfl ?_
          refine o_rd (show Rd _ _ _ _ (.int .i64 (intB y)) from rd_via (conv_bi y) rfl) rfl ?_
          refine o_bslice_k rfl rfl rfl rfl (fun b76 => ?_)
          refine o_append_sl (s := l) (new := [intB y]) (m := 1) rfl rfl (by repeat (first | exact PickL.here | exact PickL.last | apply PickL.there | apply PickL.app)) k2 (src_blk (r := true) (by repeat' first | exact List.Mem.head _ | apply List.Mem.tail | apply List.mem_append_right) rfl) rfl rfl rfl rfl (by have := hs66len; omega) rfl (fun s' hs1 hs2 => ?_)
          refine o_rd (rd_field rfl) rfl ?_
          refine o_store rfl rfl (by repeat' first | exact Upd.here | apply Upd.there | apply Upd.app) rfl rfl rfl ?_
          refine o_nil ?_
          refine n_blk ?_
          refine n_K ?_
          refine s_region0 (fun ops => ?_)
          refine o_rd (rd_add64 rfl rfl (by omega)) rfl ?_
          refine o_rd (rd_move rfl) rfl ?_
          refine o_nil ?_
          refine n_K ?_
          exact ⟨(j + 1, s'), ⟨by simp only; omega, by rw [hs1, k1, map_take hg], hs2⟩, (by simp only; omega), (by repeat' first | exact Keep.nil | refine Keep.cons rfl ?_), (by repeat' first | exact Keep.nil | refine Keep.cons rfl ?_), _, (by repeat (first | exact Split.nil | (apply Split.cons; next => repeat (first | exact Pick.here | apply Pick.there | apply Pick.app)) | (apply Split.chunk; next => repeat (first | exact PickL.here | exact PickL.last | apply PickL.there | apply PickL.app)) | (apply Split.lst; repeat (first | exact PickL.here | exact PickL.last | apply PickL.there | apply PickL.app))))⟩
        · simp only [decide_eq_true_eq, decide_eq_false_iff_not] at c69
          have hall2 : l.list = s66.list.map intB := by rw [k1, List.take_of_length_le (by omega)]
          refine s_exit ?_
          refine x_K ?_
          refine x_K ?_
          refine x_blk ?_
          refine n_K ?_
          refine s_seq ?_
          refine s_drawM [(5, 85), (10, 90)] [1, 2] [[(0, false), (3, true), (4, false), (5, false), (6, false), (7, true), (8, false), (9, false), (10, false), (11, false), (12, false), (13, false), (14, false), (15, false), (16, false), (17, true), (18, false)], [(19, false)]] (by kernel_rfl) rfl rfl (fun ops w0 H0 y => ?_)
          unfold SPre
          refine x_rd (rd_move rfl) rfl ?_
          refine x_rd (rd_move rfl) rfl ?_
          refine x_nil ?_
          refine p_all ?_
          refine x_rd (rd_ldA rfl (by repeat' first | exact List.Mem.head _ | apply List.Mem.tail | apply List.mem_append_right) rfl) rfl ?_
          refine x_so ?_
          refine c_is rfl (rbad_fn (r := ⟨r33.b, sl66, bad66⟩)) (by repeat (first | exact Split.nil | (apply Split.cons; next => repeat (first | exact Pick.here | apply Pick.there | apply Pick.app)) | (apply Split.chunk; next => repeat (first | exact PickL.here | exact PickL.last | apply PickL.there | apply PickL.app)) | (apply Split.lst; repeat (first | exact PickL.here | exact PickL.last | apply PickL.there | apply PickL.app)))) rfl (by repeat (first | exact Ap.nil | apply Ap.cons | apply Ap.app | exact Ap.one)) ?_
          refine o_nil ⟨rfl, ⟨_, (by repeat (first | exact Split.nil | (apply Split.cons; next => repeat (first | exact Pick.here | apply Pick.there | apply Pick.app)) | (apply Split.chunk; next => repeat (first | exact PickL.here | exact PickL.last | apply PickL.there | apply PickL.app)) | (apply Split.lst; repeat (first | exact PickL.here | exact PickL.last | apply PickL.there | apply PickL.app))))⟩, ?_⟩
          refine x_rd (rd_not rfl) rfl ?_
          refine x_rd (rd_move rfl) rfl ?_
          refine' x_and (j := 5) (k := 3) y rfl rfl rfl rfl rfl rfl rfl (fun hg85 => ?_) ?_
          rotate_left
          · try simp at hg85
            refine x_g y rfl rfl ?_
            refine x_rd (rd_move rfl) rfl ?_
            refine x_g y rfl rfl ?_
            refine x_so ?_
            refine c_is rfl (left_fn (r := ⟨r33.b, sl66, bad66⟩)) (by repeat (first | exact Split.nil | (apply Split.cons; next => repeat (first | exact Pick.here | apply Pick.there | apply Pick.app)) | (apply Split.chunk; next => repeat (first | exact PickL.here | exact PickL.last | apply PickL.there | apply PickL.app)) | (apply Split.lst; repeat (first | exact PickL.here | exact PickL.last | apply PickL.there | apply PickL.app)))) rfl (by repeat (first | exact Ap.nil | apply Ap.cons | apply Ap.app | exact Ap.one)) ?_
            refine o_nil ⟨rfl, ⟨_, (by repeat (first | exact Split.nil | (apply Split.cons; next => repeat (first | exact Pick.here | apply Pick.there | apply Pick.app)) | (apply Split.chunk; next => repeat (first | exact PickL.here | exact PickL.last | apply PickL.there | apply PickL.app)) | (apply Split.lst; repeat (first | exact PickL.here | exact PickL.last | apply PickL.there | apply PickL.app))))⟩, ?_⟩
            refine x_g y rfl rfl ?_
            refine x_rd (rd_bin rfl rfl rfl) rfl ?_
            exact x_nil ⟨rfl, ⟨_, (by repeat (first | exact Split.nil | (apply Split.cons; next => repeat (first | exact Pick.here | apply Pick.there | apply Pick.app)) | (apply Split.chunk; next => repeat (first | exact PickL.here | exact PickL.last | apply PickL.there | apply PickL.app)) | (apply Split.lst; repeat (first | exact PickL.here | exact PickL.last | apply PickL.there | apply PickL.app))))⟩⟩
          refine x_rd (rd_move rfl) rfl ?_
          refine' x_and (j := 10) (k := 5) y rfl rfl rfl rfl rfl rfl rfl (fun hg90 => ?_) ?_
          rotate_left
          · try simp at hg90
            refine x_g y rfl rfl ?_
            refine x_rd (rd_move rfl) rfl ?_
            refine x_g y rfl rfl ?_
            refine x_rd (rd_move rfl) rfl ?_
            refine x_g y rfl rfl ?_
            refine x_rd (rd_bin rfl rfl rfl) rfl ?_
            refine x_g y rfl rfl ?_
            refine x_rd (rd_bin rfl rfl rfl) rfl ?_
            refine x_g y rfl rfl ?_
            refine x_rd (rd_bin rfl rfl rfl) rfl ?_
            exact x_nil ⟨rfl, ⟨_, (by repeat (first | exact Split.nil | (apply Split.cons; next => repeat (first | exact Pick.here | apply Pick.there | apply Pick.app)) | (apply Split.chunk; next => repeat (first | exact PickL.here | exact PickL.last | apply PickL.there | apply PickL.app)) | (apply Split.lst; repeat (first | exact PickL.here | exact PickL.last | apply PickL.there | apply PickL.app))))⟩⟩
          refine x_so ?_
          refine o_store rfl rfl (by repeat' first | exact Upd.here | apply Upd.there | apply Upd.app) rfl rfl rfl ?_
          refine o_nil ⟨rfl, ⟨_, (by repeat (first | exact Split.nil | (apply Split.cons; next => repeat (first | exact Pick.here | apply Pick.there | apply Pick.app)) | (apply Split.chunk; next => repeat (first | exact PickL.here | exact PickL.last | apply PickL.there | apply PickL.app)) | (apply Split.lst; repeat (first | exact PickL.here | exact PickL.last | apply PickL.there | apply PickL.app))))⟩, ?_⟩
          refine x_rd (rd_assign rfl) rfl ?_
          refine x_nil ?_
          refine p_all ?_
          refine x_rd (rd_assign rfl) rfl ?_
          refine x_nil ?_
          refine p_end ?_
          refine n_K ?_
          refine s_ret ?_
          exact leaf_r (rets3 Tryz.results61 (rv_cell rfl (by repeat' first | exact List.Mem.head _ | apply List.Mem.tail | apply List.mem_append_right) rfl) (rv_tmp rfl) (rv_tmp rfl)) (by have hn : (x43, sl43.list, bad43) = rdNum 1 sl37.list bad37 := (by rw [hx43, hsl43, hbd43]; rfl); have hm : (x46, sl46.list, bad46) = rdNum 1 sl43.list bad43 := (by rw [hx46, hsl46, hbd46]; rfl); have hu : (s50.list, sl50.list, bad50) = rdBytes (max (w64 (x43.toNat : Int)) 0).toNat sl46.list bad46 := (by rw [hs50, hsl50, hbd50]); have hv : (s66.list, sl66.list, bad66) = rdBytes (max (w64 (x46.toNat : Int)) 0).toNat sl50.list bad50 := (by rw [hs66, hsl66, hbd66]); have hres := readTB_yes ha hb h1 hn hm hu hv; refine ⟨u, l, ?_, rfl, ?_, ?_, h2, k2⟩ <;> rw [h0, hres]; exact hall; exact hall2) (by repeat (first | exact Split.nil | (apply Split.cons; next => repeat (first | exact Pick.here | apply Pick.there | apply Pick.app)) | (apply Split.chunk; next => repeat (first | exact PickL.here | exact PickL.last | apply PickL.there | apply PickL.app)) | (apply Split.lst; repeat (first | exact PickL.here | exact PickL.last | apply PickL.there | apply PickL.app))))
end Go.Proofs.YtdfidkhbldedlaaGreat
