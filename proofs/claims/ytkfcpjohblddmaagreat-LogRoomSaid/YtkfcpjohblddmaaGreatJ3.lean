/- What holds of chips, tables, disks and logs, for all of them; the conditions are the statement's own: part 3. -/
import Derived.Test.YtkfcpjohblddmaaGreatJ0
import Derived.Test.YtkfcpjohblddmaaGreatJ2
import Derived.Test.YtkfcpjohblddmaaGreatJ1
section
/- Walks of package bbt: reading a page; areas; keeping. -/
namespace Go.Proofs.YtkfcpjohblddmaaGreat
open Go.K
set_option linter.unusedVariables false
set_option linter.unusedSimpArgs false
instance ent94 : Ent Tryz.prog 94 := ⟨fun _ _ => by kernel_rfl⟩

theorem conv_bi (b : By) : IntKind.i64.wrap (b.toNat : Int) = intB b := wrap64_in (by have := b.isLt; omega)
theorem conv_ui (x : Wd) : IntKind.i64.wrap (x.toNat : Int) = w64 (x.toNat : Int) := rfl
theorem readF_len (p : Pg) : (readF p).2.1.length ≤ 240 := by
  unfold readF
  simp only []
  split
  · simp
  · split
    · simp
    · split
      · simp
      · split
        · simp
        · simp only [bodyOf]
          split
          · rw [List.length_take]; omega
          · simp
theorem read_fn2 {q : Pg} {n : Int} : Does Tryz.prog 94 [.agg (vbc q).toArray, .int .i64 n] [] (fun v H => ∃ u l : Sl Int, v = .tuple #[.agg #[u.val, l.val], wv (readT q n).2.2.1, .bool (readT q n).2.2.2] ∧ H = u.hp tI ++ (l.hp tI ++ []) ∧ u.list = (readT q n).1 ∧ l.list = (readT q n).2.1 ∧ u.isOwn = true ∧ l.isOwn = true) := by
  have hbl := readF_len q
  refine fn_enter (n := 97) Tryz.func94 Tryz.ntmps94 rfl (Nat.le_of_ble_eq_true rfl) <| s_seq <| s_region0 fun ops => ?_
  refine o_boxA rfl rfl fun b2 => ?_
  refine o_alloc rfl fun b4 => ?_
  refine oA rfl <| oA rfl <| o_nil <| n_K <| s_seq <| s_region0 fun ops => ?_
  refine oR (rd_ldA rfl mM (by first | exact cut_vb | rfl)) ?_
  refine c_ex rfl (fread_fn) sP rfl fun v20 Y20 h20 => ?_
  obtain ⟨s20, rfl, rfl, hs20, ho20⟩ := h20
  refine so_ap aQ ?_
  refine oM rfl <| oE rfl rfl <| oE rfl rfl <| oE rfl rfl <| oE rfl rfl <| oA rfl <| oA rfl <| oA rfl <| oA rfl <| o_nil <| n_K <| s_seq <| s_seq ?_
  refine s_region [(2, 27)] rfl fun ops y => ?_
  refine oM rfl <| oR (rd_bin rfl rfl rfl) <| oM rfl ?_
  refine' o_or (j := 2) (k := 2) y rfl rfl rfl rfl rfl rfl rfl (fun hg27 => ?_) ?_
  rotate_left
  · try (simp at hg27; show _)
    refine o_g y rfl rfl ?_
    refine oM rfl ?_
    refine o_g y rfl rfl ?_
    refine oR (rd_bin rfl rfl rfl) ?_
    exact o_nil ⟨rfl, rfl, ⟨_, sP⟩⟩
  refine o_nil <| n_K ?_
  refine s_cond rfl (fun c30 => ?_) (fun c30 => ?_)
  · skip
    have hres : readT q n = ([], [], 0, false) := (by unfold readT; simp only []; rw [if_pos (by simp at c30; rcases c30 with h | h; exact .inl h; right; intro e; rw [e] at h; exact h rfl)])
    refine s_seq <| s_region0 fun ops => ?_
    refine oR (rd_ldA rfl mM rfl) ?_
    refine o_store rfl rfl uD rfl rfl rfl ?_
    refine oA rfl <| oA rfl <| o_nil <| n_K <| s_ret <| r_K ?_
    exact leaf_r (rets3 Tryz.results94 (rv_cell rfl mM rfl) (rv_tmp rfl) (rv_tmp rfl)) (by refine ⟨.nil, .nil, ?_, rfl, ?_, ?_, rfl, rfl⟩ <;> rw [hres] <;> rfl) (by simp only [Sl.hp_nil, List.nil_append]; exact Split.nil)
  · skip
    have h0 : readT q n = readTB (readF q).2.1 n := (by unfold readT; simp only []; rw [if_neg (by simp at c30; rintro (h | h); exact h c30.1; exact h (BitVec.eq_of_toNat_eq (by have := c30.2; show _ = 1; omega)))])
    refine s_skip <| n_K <| s_seq <| s_region0 fun ops => oM rfl ?_
    refine c_ex rfl (newReader_fn (s := s20) (by rw [hs20]; omega)) sP rfl fun v33 Y33 h33 => ?_
    obtain ⟨r33, rfl, rfl, hr33, hb33⟩ := h33
    refine so_ap aQ ?_
    refine oA rfl <| o_nil <| n_K <| s_seq <| s_region0 fun ops => oM rfl ?_
    refine c_ex rfl (rnum_fn (n := 8) (by rw [hr33, hs20]; omega)) sP rfl fun v35 Y35 h35 => ?_
    obtain ⟨x35, sl35, bad35, rfl, rfl, hx35, hsl35, hbd35⟩ := h35
    refine so_ap aQ ?_
    refine oA rfl <| o_nil <| n_K <| s_seq <| s_seq <| s_region0 fun ops => oM rfl ?_
    refine c_ex rfl (rnum_fn (r := ⟨r33.b, sl35, bad35⟩) (n := 1) (Nat.le_trans (rdN_len hsl35 (by rw [hr33, hs20]; exact hbl)) (by omega))) sP rfl fun v37 Y37 h37 => ?_
    obtain ⟨x37, sl37, bad37, rfl, rfl, hx37, hsl37, hbd37⟩ := h37
    refine so_ap aQ ?_
    refine oR (rd_convI rfl) <| oM rfl <| oR (rd_bin rfl rfl rfl) <| o_nil <| n_K ?_
    refine s_cond rfl (fun c40 => ?_) (fun c40 => ?_)
    · skip
      rw [hr33, hs20, hb33] at hx35 hsl35 hbd35
      have ha : (x35, sl35.list, bad35) = rdNum 8 (readF q).2.1 false := (by rw [hx35, hsl35, hbd35]; rfl)
      have hb : (x37, sl37.list, bad37) = rdNum 1 sl35.list bad35 := (by rw [hx37, hsl37, hbd37]; rfl)
      have hres : readT q n = ([], [], 0, false) := (by rw [h0]; exact readTB_no ha hb (by simpa using c40))
      refine s_seq <| s_region0 fun ops => ?_
      refine oR (rd_ldA rfl mM rfl) ?_
      refine o_store rfl rfl uD rfl rfl rfl ?_
      refine oA rfl <| oA rfl <| o_nil <| n_K <| s_ret <| r_K ?_
      exact leaf_r (rets3 Tryz.results94 (rv_cell rfl mM rfl) (rv_tmp rfl) (rv_tmp rfl)) (by refine ⟨.nil, .nil, ?_, rfl, ?_, ?_, rfl, rfl⟩ <;> rw [hres] <;> rfl) (by simp only [Sl.hp_nil, List.nil_append]; exact Split.nil)
    · skip
      rw [hr33, hs20, hb33] at hx35 hsl35 hbd35
      have ha : (x35, sl35.list, bad35) = rdNum 8 (readF q).2.1 false := (by rw [hx35, hsl35, hbd35]; rfl)
      have hb : (x37, sl37.list, bad37) = rdNum 1 sl35.list bad35 := (by rw [hx37, hsl37, hbd37]; rfl)
      have h1 : w64 (x37.toNat : Int) = n := (by simpa using c40)
      have l37 := rdN_len hsl37 (rdN_len hsl35 hbl)
      refine s_skip <| n_K <| s_seq <| s_region0 fun ops => oM rfl ?_
      refine c_ex rfl (rnum_fn (r := ⟨r33.b, sl37, bad37⟩) (n := 1) (Nat.le_trans l37 (by omega))) sP rfl fun v43 Y43 h43 => ?_
      obtain ⟨x43, sl43, bad43, rfl, rfl, hx43, hsl43, hbd43⟩ := h43
      refine so_ap aQ ?_
      refine oR (rd_convI rfl) <| oM rfl ?_
      refine c_ex rfl (rnum_fn (r := ⟨r33.b, sl43, bad43⟩) (n := 1) (Nat.le_trans (rdN_len hsl43 l37) (by omega))) sP rfl fun v46 Y46 h46 => ?_
      obtain ⟨x46, sl46, bad46, rfl, rfl, hx46, hsl46, hbd46⟩ := h46
      refine so_ap aQ ?_
      refine oR (rd_convI rfl) <| oA rfl <| oA rfl <| o_nil <| n_K <| s_seq <| s_seq <| s_region0 fun ops => oM rfl <| oM rfl ?_
      refine c_ex rfl (rbytes_fn (r := ⟨r33.b, sl46, bad46⟩) (Nat.le_trans (rdN_len hsl46 (rdN_len hsl43 l37)) (by omega))) sP rfl fun v50 Y50 h50 => ?_
      obtain ⟨s50, sl50, bad50, rfl, rfl, ho50, hs50, hsl50, hbd50⟩ := h50
      refine so_ap aQ ?_
      refine oR (rd_lenS rfl) <| oM rfl <| o_nil <| n_K <| s_block ?_
      have hs50len := rdB_len1 hs50 (rdN_len hsl46 (rdN_len hsl43 l37))
      refine sc_eq (nil_hp (α := Int) (T := tI)) ?_
      refine s_loop2 [1, 4, 5, 11, 12, 13, 50, 51] kQ (fun (st : Nat × Sl Int) => [(52, .int .i64 st.1)]) (fun (st : Nat × Sl Int) => (b4, true, C [st.2.val, .slice none 0 0] tPl) :: (st.2.hp tI ++ (s50.hp tU8 ++ (rdH ⟨r33.b, sl50, bad50⟩ ++ [])))) (fun (st : Nat × Sl Int) => st.1 ≤ s50.list.length ∧ st.2.list = (s50.list.take st.1).map intB ∧ st.2.isOwn = true) (fun (st : Nat × Sl Int) => s50.list.length - st.1) ((0, .nil)) ⟨Nat.zero_le _, rfl, rfl⟩ kP sP ?_
      rintro ⟨i, u⟩ ⟨g0, h1', h2⟩
      simp only at g0 h1' h2
      have hul : u.list.length = i := by rw [h1', List.length_map, List.length_take]; omega
      refine s_seq <| s_region0 fun ops => oR (rd_bin rfl rfl rfl) <| o_nil <| n_K <| s_seq ?_
      refine s_cond rfl (fun c53 => ?_) (fun c53 => ?_)
      · simp only [decide_eq_true_eq, decide_eq_false_iff_not] at c53
        obtain ⟨y, hg⟩ : ∃ y, s50.list[i]? = some y := ⟨_, List.getElem?_eq_getElem (by omega)⟩
        refine s_skip <| n_K <| s_seq <| s_block <| s_seq <| s_region0 fun ops => ?_
        refine oR (rd_ixSl rfl rfl (by omega)) ?_
        refine oR (rd_ldSl (o := 0) (v := bv y) rfl pL hg rfl rfl) ?_
        refine oA rfl <| o_nil <| n_K <| s_region0 fun ops => oF rfl ?_
        refine oR (rd_ld rfl mM rfl) ?_
        refine oM rfl ?_
        refine oR (show Rd _ _ _ _ (.int .i64 (intB y)) from rd_via (conv_bi y) rfl) ?_
        refine o_bslice_k rfl rfl rfl rfl fun b60 => ?_
        refine o_append_sl (s := u) (new := [intB y]) (m := 1) rfl rfl pL h2 (src_blk (r := true) mM rfl) rfl rfl rfl rfl (by have := hs50len; omega) rfl fun s' hs1 hs2 => ?_
        refine oF rfl ?_
        refine o_store rfl rfl uD rfl rfl rfl ?_
        refine o_nil <| n_blk <| n_K <| s_region0 fun ops => ?_
        refine oR (rd_add64 rfl rfl (by omega)) ?_
        refine oM rfl <| o_nil <| n_K ?_
        exact ⟨(i + 1, s'), ⟨by simp only; omega, by rw [hs1, h1', map_take hg], hs2⟩, (by simp only; omega), lZ⟩
      · simp only [decide_eq_true_eq, decide_eq_false_iff_not] at c53
        have hall : u.list = s50.list.map intB := by rw [h1', List.take_of_length_le (by omega)]
        refine s_exit <| x_K <| x_K <| x_blk <| n_K <| s_seq <| s_seq <| s_region0 fun ops => oM rfl <| oM rfl ?_
        refine c_ex rfl (rbytes_fn (r := ⟨r33.b, sl50, bad50⟩) (Nat.le_trans (rdB_len hsl50 (rdN_len hsl46 (rdN_len hsl43 l37))) (by omega))) sP rfl fun v66 Y66 h66 => ?_
        obtain ⟨s66, sl66, bad66, rfl, rfl, ho66, hs66, hsl66, hbd66⟩ := h66
        refine so_ap aQ ?_
        refine oR (rd_lenS rfl) <| oM rfl <| o_nil <| n_K <| s_block ?_
        have hs66len := rdB_len1 hs66 (rdB_len hsl50 (rdN_len hsl46 (rdN_len hsl43 l37)))
        refine sc_eq (nil_hp (α := Int) (T := tI)) ?_
        refine s_loop2 [1, 4, 5, 11, 12, 66, 67] kQ (fun (st : Nat × Sl Int) => [(68, .int .i64 st.1)]) (fun (st : Nat × Sl Int) => (b4, true, C [u.val, st.2.val] tPl) :: (st.2.hp tI ++ (u.hp tI ++ (s66.hp tU8 ++ (rdH ⟨r33.b, sl66, bad66⟩ ++ []))))) (fun (st : Nat × Sl Int) => st.1 ≤ s66.list.length ∧ st.2.list = (s66.list.take st.1).map intB ∧ st.2.isOwn = true) (fun (st : Nat × Sl Int) => s66.list.length - st.1) ((0, .nil)) ⟨Nat.zero_le _, rfl, rfl⟩ kP sP ?_
        rintro ⟨j, l⟩ ⟨k0, k1, k2⟩
        simp only at k0 k1 k2
        have hll : l.list.length = j := by rw [k1, List.length_map, List.length_take]; omega
        refine s_seq <| s_region0 fun ops => oR (rd_bin rfl rfl rfl) <| o_nil <| n_K <| s_seq ?_
        refine s_cond rfl (fun c69 => ?_) (fun c69 => ?_)
        · simp only [decide_eq_true_eq, decide_eq_false_iff_not] at c69
          obtain ⟨y, hg⟩ : ∃ y, s66.list[j]? = some y := ⟨_, List.getElem?_eq_getElem (by omega)⟩
          refine s_skip <| n_K <| s_seq <| s_block <| s_seq <| s_region0 fun ops => ?_
          refine oR (rd_ixSl rfl rfl (by omega)) ?_
          refine oR (rd_ldSl (o := 0) (v := bv y) rfl pL hg rfl rfl) ?_
          refine oA rfl <| o_nil <| n_K <| s_region0 fun ops => oF rfl ?_
          refine oR (rd_ld rfl mM rfl) ?_
          refine oM rfl ?_
          refine oR (show Rd _ _ _ _ (.int .i64 (intB y)) from rd_via (conv_bi y) rfl) ?_
          refine o_bslice_k rfl rfl rfl rfl fun b76 => ?_
          refine o_append_sl (s := l) (new := [intB y]) (m := 1) rfl rfl pL k2 (src_blk (r := true) mM rfl) rfl rfl rfl rfl (by have := hs66len; omega) rfl fun s' hs1 hs2 => ?_
          refine oF rfl ?_
          refine o_store rfl rfl uD rfl rfl rfl ?_
          refine o_nil <| n_blk <| n_K <| s_region0 fun ops => ?_
          refine oR (rd_add64 rfl rfl (by omega)) ?_
          refine oM rfl <| o_nil <| n_K ?_
          exact ⟨(j + 1, s'), ⟨by simp only; omega, by rw [hs1, k1, map_take hg], hs2⟩, (by simp only; omega), lZ⟩
        · simp only [decide_eq_true_eq, decide_eq_false_iff_not] at c69
          have hall2 : l.list = s66.list.map intB := by rw [k1, List.take_of_length_le (by omega)]
          refine s_exit <| x_K <| x_K <| x_blk <| n_K <| s_seq ?_
          refine s_drawM [(5, 85), (10, 90)] [1, 2] [[(0, false), (3, true), (4, false), (5, false), (6, false), (7, true), (8, false), (9, false), (10, false), (11, false), (12, false), (13, false), (14, false), (15, false), (16, false), (17, true), (18, false)], [(19, false)]] (by kernel_rfl) rfl rfl fun ops w0 H0 y => ?_
          unfold SPre
          refine xM rfl <| xM rfl <| x_nil <| p_all ?_
          refine xR (rd_ldA rfl mM rfl) ?_
          refine x_so ?_
          refine c_is rfl (rbad_fn (r := ⟨r33.b, sl66, bad66⟩)) sP rfl aQ ?_
          refine o_nil ⟨rfl, ⟨_, sP⟩, ?_⟩
          refine xR (rd_not rfl) <| xM rfl ?_
          refine' x_and (j := 5) (k := 3) y rfl rfl rfl rfl rfl rfl rfl (fun hg85 => ?_) ?_
          rotate_left
          · try (simp at hg85; show _)
            refine x_g y rfl rfl ?_
            refine xM rfl ?_
            refine x_g y rfl rfl ?_
            refine x_so ?_
            refine c_is rfl (left_fn (r := ⟨r33.b, sl66, bad66⟩)) sP rfl aQ ?_
            refine o_nil ⟨rfl, ⟨_, sP⟩, ?_⟩
            refine x_g y rfl rfl ?_
            refine xR (rd_bin rfl rfl rfl) ?_
            exact x_nil ⟨rfl, ⟨_, sP⟩⟩
          refine xM rfl ?_
          refine' x_and (j := 10) (k := 5) y rfl rfl rfl rfl rfl rfl rfl (fun hg90 => ?_) ?_
          rotate_left
          · try (simp at hg90; show _)
            refine x_g y rfl rfl ?_
            refine xM rfl ?_
            refine x_g y rfl rfl ?_
            refine xM rfl ?_
            refine x_g y rfl rfl ?_
            refine xR (rd_bin rfl rfl rfl) ?_
            refine x_g y rfl rfl ?_
            refine xR (rd_bin rfl rfl rfl) ?_
            refine x_g y rfl rfl ?_
            refine xR (rd_bin rfl rfl rfl) ?_
            exact x_nil ⟨rfl, ⟨_, sP⟩⟩
          refine x_so ?_
          refine o_store rfl rfl uD rfl rfl rfl ?_
          refine o_nil ⟨rfl, ⟨_, sP⟩, ?_⟩
          refine xA rfl <| x_nil <| p_all <| xA rfl <| x_nil <| p_end <| n_K <| s_ret ?_
          exact leaf_r (rets3 Tryz.results94 (rv_cell rfl mM rfl) (rv_tmp rfl) (rv_tmp rfl)) (by have hn : (x43, sl43.list, bad43) = rdNum 1 sl37.list bad37 := (by rw [hx43, hsl43, hbd43]; rfl); have hm : (x46, sl46.list, bad46) = rdNum 1 sl43.list bad43 := (by rw [hx46, hsl46, hbd46]; rfl); have hu : (s50.list, sl50.list, bad50) = rdBytes (max (w64 (x43.toNat : Int)) 0).toNat sl46.list bad46 := (by rw [hs50, hsl50, hbd50]); have hv : (s66.list, sl66.list, bad66) = rdBytes (max (w64 (x46.toNat : Int)) 0).toNat sl50.list bad50 := (by rw [hs66, hsl66, hbd66]); have hres := readTB_yes ha hb h1 hn hm hu hv; refine ⟨u, l, ?_, rfl, ?_, ?_, h2, k2⟩ <;> rw [h0, hres]; exact hall; exact hall2) sP
end Go.Proofs.YtkfcpjohblddmaaGreat
end
section
/- Walks of package bbt: a table is kept. -/
namespace Go.Proofs.YtkfcpjohblddmaaGreat
open Go.K
set_option linter.unusedVariables false
set_option linter.unusedSimpArgs false
instance und41 : Und Tryz.prog 41 (.pointer 90) := ⟨Tryz.underlying41⟩
instance agg41 : Agg Tryz.prog 41 false := ⟨⟨_, Tryz.underlying41, rfl⟩⟩
instance siz41 : Siz Tryz.prog 41 1 := ⟨by kernel_rfl⟩
instance fld115_0 : Fld Tryz.prog 115 0 0 := ⟨⟨_, _, 0, Tryz.underlying115, rfl, by kernel_rfl, rfl⟩⟩
instance fld115_1 : Fld Tryz.prog 115 1 1 := ⟨⟨_, _, 1, Tryz.underlying115, rfl, by kernel_rfl, rfl⟩⟩
instance fld115_2 : Fld Tryz.prog 115 2 3 := ⟨⟨_, _, 0, Tryz.underlying115, rfl, by kernel_rfl, rfl⟩⟩
instance fld115_3 : Fld Tryz.prog 115 3 4 := ⟨⟨_, _, 0, Tryz.underlying115, rfl, by kernel_rfl, rfl⟩⟩
instance fld115_4 : Fld Tryz.prog 115 4 5 := ⟨⟨_, _, 0, Tryz.underlying115, rfl, by kernel_rfl, rfl⟩⟩
instance fld115_5 : Fld Tryz.prog 115 5 6 := ⟨⟨_, _, 0, Tryz.underlying115, rfl, by kernel_rfl, rfl⟩⟩
instance flat69 : Flat Tryz.prog 69 (reps 258 ([some .u8])) := ⟨by kernel_rfl, by kernel_rfl, ⟨_, Tryz.underlying69, rfl⟩⟩
instance ent72 : Ent Tryz.prog 72 := ⟨fun _ _ => by kernel_rfl⟩
instance ent102 : Ent Tryz.prog 102 := ⟨fun _ _ => by kernel_rfl⟩
instance ent126 : Ent Tryz.prog 126 := ⟨fun _ _ => by kernel_rfl⟩

/-- A table, and where it lies. -/
structure Tab where
  b : Nat
  u : Sl Int
  l : Sl Int
  version : Wd
  area : Int
  next : Int
  at' : Int
abbrev tabC (a : Nat) (t : Tab) : List Value := [ptr a, t.u.val, t.l.val, wv t.version, .int .i64 t.area, .int .i64 t.next, .int .i64 t.at']
def Tab.ts (t : Tab) : TS := ⟨t.u.list, t.l.list, t.version, t.area, t.next, t.at'⟩
section
variable {c : Chip} {a : Nat}
theorem read_a (ha : c.aC = a) {i j : Int} : Does Tryz.prog 56 [ptr a, .int .i64 i, .int .i64 j] (chH c) (Is (.tuple #[.agg (vbc (readP c i j)).toArray, .int .i64 (mayE c i j)]) (chH c)) := by subst ha; exact read_fn
theorem program_a (ha : c.aC = a) {i j : Int} {d : Pg} : Does Tryz.prog 80 [ptr a, .int .i64 i, .int .i64 j, .agg (vbc d).toArray] (chH c) (Is (.int .i64 (progC c i j d).1) (chH (progC c i j d).2)) := by subst ha; exact program_fn
theorem erase_a (ha : c.aC = a) {i : Int} : Does Tryz.prog 83 [ptr a, .int .i64 i] (chH c) (Is (.int .i64 (eraseC c i).1) (chH (eraseC c i).2)) := by subst ha; exact erase_fn
theorem blocks_a (ha : c.aC = a) : Does Tryz.prog 70 [ptr a] (chH c) (Is (.int .i64 c.blocks.length) (chH c)) := by subst ha; exact blocks_fn
theorem bad_a (ha : c.aC = a) {i : Int} : Does Tryz.prog 71 [ptr a, .int .i64 i] (chH c) (Is (.bool (badB c i)) (chH c)) := by subst ha; exact bad_fn
theorem kk_u8 : reps 258 [some .u8] = List.replicate 258 (some .u8) := by kernel_rfl
theorem ceq_vb : ∀ (xs ys : List By), xs.length = ys.length → cellsEq (List.replicate xs.length (some .u8)) (xs.map bv) (ys.map bv) = some (decide (xs = ys))
  | [], [], _ => rfl
  | [], _ :: _, h => by simp at h
  | _ :: _, [], h => by simp at h
  | x :: xs, y :: ys, h => by
    have ih := ceq_vb xs ys (by simpa using h)
    simp only [List.length_cons, List.replicate_succ, List.map_cons, cellsEq, ih, bv, veq]
    by_cases h1 : x = y
    · subst h1
      by_cases h2 : xs = ys <;> simp [h2]
    · have : ¬ (x.toNat : Int) = y.toNat := fun e => h1 (BitVec.eq_of_toNat_eq (by omega))
      simp [h1, this]
theorem pg_eq (p q : Pg) : cellsEq (reps 258 [some .u8]) (vbc p) (vbc q) = some (decide (p = q)) := by
  have := ceq_vb p.toList q.toList (by simp)
  rw [show p.toList.length = 258 by simp] at this
  rw [kk_u8, vbc, vbc, this]
  congr 1
  exact decide_eq_decide.2 ⟨fun h => Vector.toList_inj.1 h, fun h => by rw [h]⟩
theorem stands_fn {t : Tab} (ha : c.aC = a) {ar i : Int} {q : Pg} : Does Tryz.prog 126 [ptr t.b, .int .i64 ar, .int .i64 i, .agg (vbc q).toArray] ((t.b, true, C (tabC a t) tTb) :: (chH c ++ []))
    (Is (.int .i64 (standsE c ar i q)) ((t.b, true, C (tabC a t) tTb) :: (chH c ++ []))) := by
  refine fn_enter (n := 29) Tryz.func126 Tryz.ntmps126 rfl (Nat.le_of_ble_eq_true rfl) <| s_seq <| s_region0 fun ops => ?_
  refine o_boxA rfl rfl fun b7 => ?_
  refine oA rfl <| o_nil <| n_K <| s_seq <| s_region0 fun ops => oM rfl <| oN rfl <| oF rfl ?_
  refine oR (rd_ld rfl mM rfl) ?_
  refine oM rfl <| oM rfl ?_
  refine c_is rfl (read_a ha) sP rfl aQ ?_
  refine oM rfl <| oE rfl rfl <| oE rfl rfl ?_
  refine o_alloc rfl fun b9 => ?_
  rw [zeroP_eq]
  first | refine o_store rfl rfl uD (vc_vb) (vbc_len) (spl_vb (by first | exact vbc_len | exact List.length_replicate ..)) ?_ | refine o_store rfl rfl uD rfl rfl rfl ?_
  refine oA rfl <| o_nil <| n_K <| s_seq <| s_seq ?_
  refine s_region [(2, 23)] rfl fun ops y => ?_
  refine oM rfl <| oR (rd_bin rfl rfl rfl) <| oM rfl ?_
  refine' o_and (j := 2) (k := 3) y rfl rfl rfl rfl rfl rfl rfl (fun hg23 => ?_) ?_
  rotate_left
  · try (simp at hg23; show _)
    refine o_g y rfl rfl ?_
    refine oR (rd_ldA rfl mM (by first | exact cut_vb | rfl)) ?_
    refine o_g y rfl rfl ?_
    refine oR (rd_ldA rfl mM (by first | exact cut_vb | rfl)) ?_
    refine o_g y rfl rfl ?_
    refine oR (rd_neA rfl rfl (pg_eq _ _)) ?_
    exact o_nil ⟨rfl, rfl, ⟨_, sP⟩⟩
  refine o_nil <| n_K ?_
  refine s_cond rfl (fun c27 => ?_) (fun c27 => ?_)
  · skip
    have hres : standsE c ar i q = 33 := (by unfold standsE; rw [if_pos (by simp at c27; exact c27)])
    refine s_region0 fun ops => oA rfl <| o_nil <| n_K <| s_seq <| s_region0 fun ops => oM rfl <| oA rfl <| o_nil <| n_K <| s_ret ?_
    refine leaf_is (rets1 Tryz.results126 (rv_tmp rfl)) ?_ sP
    rw [hres]
  · skip
    have hres : standsE c ar i q = mayE c ar i := (by unfold standsE; rw [if_neg (by simp at c27; rintro ⟨h1, h2⟩; exact h2 (c27 h1))])
    refine s_skip <| n_K <| s_seq <| s_region0 fun ops => oM rfl <| oA rfl <| o_nil <| n_K <| s_ret ?_
    refine leaf_is (rets1 Tryz.results126 (rv_tmp rfl)) ?_ sP
    rw [hres]
theorem put_fn {t : Tab} (ha : c.aC = a) {ar from' : Int} {q : Pg} (hf : 0 ≤ from') : Does Tryz.prog 102 [ptr t.b, .int .i64 ar, .int .i64 from', .agg (vbc q).toArray] ((t.b, true, C (tabC a t) tTb) :: (chH c ++ []))
    (Is (.tuple #[.int .i64 (putC c ar from' q).1, .int .i64 (putC c ar from' q).2.1]) ((t.b, true, C (tabC a t) tTb) :: (chH (putC c ar from' q).2.2 ++ []))) := by
  refine fn_enter (n := 41) Tryz.func102 Tryz.ntmps102 rfl (Nat.le_of_ble_eq_true rfl) <| s_seq <| s_region0 fun ops => ?_
  refine o_boxA rfl rfl fun b7 => ?_
  refine oA rfl <| oA rfl <| o_nil <| n_K <| s_seq <| s_seq <| s_region0 fun ops => oM rfl <| oA rfl <| o_nil <| n_K <| s_block ?_
  refine s_loop2 [0, 1, 7] kQ (fun (st : Int × Chip) => [(10, .int .i64 st.1)]) (fun (st : Int × Chip) => (b7, true, C (vbc q) tPg) :: (t.b, true, C (tabC a t) tTb) :: (chH st.2 ++ [])) (fun (st : Int × Chip) => 0 ≤ st.1 ∧ st.2.aC = a ∧ putC st.2 ar st.1 q = putC c ar from' q) (fun (st : Int × Chip) => (8 - st.1).toNat) ((from', c)) ⟨hf, ha, rfl⟩ kP sP ?_
  rintro ⟨i, c1⟩ ⟨h0, h1, h2⟩
  simp only at h0 h1 h2
  refine s_seq <| s_seq <| s_region0 fun ops => oM rfl <| oR (rd_bin rfl rfl rfl) <| o_nil <| n_K ?_
  refine s_cond rfl (fun c14 => ?_) (fun c14 => ?_)
  · simp only [decide_eq_true_eq, decide_eq_false_iff_not] at c14
    refine s_skip <| n_K <| s_seq <| s_block <| s_seq ?_
    refine s_draw [] [(7, [(0, false), (1, false), (2, false), (3, false), (4, false), (5, false), (6, false)]), (8, [(7, true)]), (9, [(8, false)])] (by kernel_rfl) rfl fun ops w0 H0 y => ?_
    refine p_all <| xM rfl <| xN rfl <| xF rfl ?_
    refine xR (rd_ld rfl mM rfl) ?_
    refine xM rfl <| xM rfl ?_
    refine xR (rd_ldA rfl mM (by first | exact cut_vb | rfl)) ?_
    refine x_nil <| p_none <| x_so ?_
    refine c_is rfl (program_a h1) sP rfl aQ ?_
    refine o_nil ⟨rfl, ⟨_, sP⟩, ?_⟩
    refine x_nil <| p_all <| xA rfl <| x_nil <| p_end <| n_K <| s_seq <| s_seq <| s_region0 fun ops => oM rfl <| oR (rd_bin rfl rfl rfl) <| o_nil <| n_K ?_
    refine s_cond rfl (fun c26 => ?_) (fun c26 => ?_)
    · skip
      have hst : stepE c1 ar i q = standsE (progC c1 ar i q).2 ar i q := (by unfold stepE; rw [if_pos (by simpa using c26)])
      refine s_region0 fun ops => oM rfl <| oM rfl <| oM rfl ?_
      refine oR (rd_ldA rfl mM (by first | exact cut_vb | rfl)) ?_
      refine c_is rfl (stands_fn (t := t) (c := (progC c1 ar i q).2) ((prog_aC c1 ar i q).trans h1)) sP rfl aQ ?_
      refine oA rfl <| o_nil <| n_K <| s_seq ?_
      refine s_region [(2, 34)] rfl fun ops y => ?_
      refine oM rfl <| oR (rd_bin rfl rfl rfl) <| oM rfl ?_
      refine' o_and (j := 2) (k := 2) y rfl rfl rfl rfl rfl rfl rfl (fun hg34 => ?_) ?_
      rotate_left
      · try (simp at hg34; show _)
        refine o_g y rfl rfl ?_
        refine oM rfl ?_
        refine o_g y rfl rfl ?_
        refine oR (rd_bin rfl rfl rfl) ?_
        exact o_nil ⟨rfl, rfl, ⟨_, sP⟩⟩
      refine o_nil <| n_K ?_
      refine s_cond rfl (fun c37 => ?_) (fun c37 => ?_)
      · skip
        have hres := putC_stop c14 (by rw [hst]; simpa using c37)
        rw [h2] at hres
        refine s_seq <| s_region0 fun ops => oM rfl ?_
        refine oR (rd_add64 rfl rfl (by omega)) ?_
        refine oM rfl <| oA rfl <| oA rfl <| o_nil <| n_K <| s_ret <| r_blk <| r_K <| r_K <| r_blk <| r_K ?_
        refine leaf_is (rets2 Tryz.results102 (rv_tmp rfl) (rv_tmp rfl)) ?_ (by rw [hres]; exact sP)
        rw [hres, hst]
      · skip
        have hgo := putC_go c14 (by rw [hst]; intro h; simp at c37; exact h.2 (c37 h.1))
        refine s_skip <| n_blk <| n_K <| s_region0 fun ops => oM rfl ?_
        refine oR (rd_add64 rfl rfl (by omega)) ?_
        refine oA rfl <| o_nil <| n_K ?_
        exact ⟨(i + 1, (progC c1 ar i q).2), ⟨by simp only; omega, (prog_aC c1 ar i q).trans h1, by simp only; rw [← hgo, h2]⟩, (by simp only; omega), lZ⟩
    · skip
      have hst : stepE c1 ar i q = (progC c1 ar i q).1 := (by unfold stepE; rw [if_neg (by simpa using c26)])
      refine s_skip <| n_K <| s_seq ?_
      refine s_region [(2, 34)] rfl fun ops y => ?_
      refine oM rfl <| oR (rd_bin rfl rfl rfl) <| oM rfl ?_
      refine' o_and (j := 2) (k := 2) y rfl rfl rfl rfl rfl rfl rfl (fun hg34 => ?_) ?_
      rotate_left
      · try (simp at hg34; show _)
        refine o_g y rfl rfl ?_
        refine oM rfl ?_
        refine o_g y rfl rfl ?_
        refine oR (rd_bin rfl rfl rfl) ?_
        exact o_nil ⟨rfl, rfl, ⟨_, sP⟩⟩
      refine o_nil <| n_K ?_
      refine s_cond rfl (fun c37 => ?_) (fun c37 => ?_)
      · skip
        have hres := putC_stop c14 (by rw [hst]; simpa using c37)
        rw [h2] at hres
        refine s_seq <| s_region0 fun ops => oM rfl ?_
        refine oR (rd_add64 rfl rfl (by omega)) ?_
        refine oM rfl <| oA rfl <| oA rfl <| o_nil <| n_K <| s_ret <| r_blk <| r_K <| r_K <| r_blk <| r_K ?_
        refine leaf_is (rets2 Tryz.results102 (rv_tmp rfl) (rv_tmp rfl)) ?_ (by rw [hres]; exact sP)
        rw [hres, hst]
      · skip
        have hgo := putC_go c14 (by rw [hst]; intro h; simp at c37; exact h.2 (c37 h.1))
        refine s_skip <| n_blk <| n_K <| s_region0 fun ops => oM rfl ?_
        refine oR (rd_add64 rfl rfl (by omega)) ?_
        refine oA rfl <| o_nil <| n_K ?_
        exact ⟨(i + 1, (progC c1 ar i q).2), ⟨by simp only; omega, (prog_aC c1 ar i q).trans h1, by simp only; rw [← hgo, h2]⟩, (by simp only; omega), lZ⟩
  · simp only [decide_eq_true_eq, decide_eq_false_iff_not] at c14
    refine s_exit <| x_K <| x_K <| x_blk <| n_K <| s_seq <| s_region0 fun ops => oA rfl <| oA rfl <| o_nil <| n_K <| s_ret ?_
    refine leaf_is (rets2 Tryz.results102 (rv_tmp rfl) (rv_tmp rfl)) ?_ (by rw [← h2, putC_end c14]; exact sP)
    rw [← h2, putC_end c14]
theorem rd_inc64 {P : Program} {E : Env} {H : Hp} {t u : TypeId} {x y : Operand} {v : Wd} (hx : ev E x = some (wv v)) (hy : ev E y = some (.int .u64 1)) : Rd P E H (.binOp .add t x y u) (wv (v + 1)) := by
  have := rd_bin (P := P) (H := H) (op := .add) (t := t) (u := u) hx hy rfl
  have e : IntKind.u64.wrap ((v.toNat : Int) + 1) = ((v + 1).toNat : Int) := by
    rw [wrap_u .u64 rfl]
    show ((BitVec.ofInt 64 ((v.toNat : Int) + 1)).toNat : Int) = _
    rw [show ((v.toNat : Int) + 1) = ((v.toNat + 1 : Nat) : Int) by push_cast; rfl, BitVec.ofInt_natCast, BitVec.toNat_ofNat, BitVec.toNat_add]
    rfl
  rw [e] at this
  exact this
theorem keep_fn {t : Tab} {u l : Sl Int} (ha : c.aC = a) (hu : u.list.length ≤ 1000) (hl : l.list.length ≤ 1000) (hn : 0 ≤ t.next) (har : 0 ≤ t.area ∧ t.area ≤ 1) :
    Does Tryz.prog 72 [ptr t.b, .agg #[u.val, l.val]] ((t.b, true, C (tabC a t) tTb) :: (u.hp tI ++ (l.hp tI ++ (chH c ++ []))))
      (fun v H => ∃ t' : Tab, t'.b = t.b ∧ v = .int .i64 (keepC t.ts u.list l.list c).1 ∧ H = (t'.b, true, C (tabC a t') tTb) :: (u.hp tI ++ (l.hp tI ++ (chH (keepC t.ts u.list l.list c).2.2 ++ []))) ∧ t'.ts = (keepC t.ts u.list l.list c).2.1 ∧
        ((keepC t.ts u.list l.list c).1 = 0 → t'.u = u ∧ t'.l = l) ∧ ((keepC t.ts u.list l.list c).1 ≠ 0 → t' = t)) := by
  refine fn_enter (n := 98) Tryz.func72 Tryz.ntmps72 rfl (Nat.le_of_ble_eq_true rfl) <| s_seq <| s_region0 fun ops => ?_
  refine o_box rfl rfl fun b3 => ?_
  refine oA rfl <| o_nil <| n_K <| s_seq ?_
  refine s_drawT [] [(13, (.fork [(0, false), (1, false), (2, false), (3, false), (4, false), (5, false), (6, false), (7, false), (8, false), (9, false)] 10 (.fork [] 11 (.one [(12, true)]) 12 (.one [(11, true)])) 12 (.one [(10, true), (11, true)]))), (14, (.one [(13, true)]))] (by kernel_rfl) rfl fun ops w0 H0 y => ?_
  refine pt_all ?_
  refine t_fork ?_ rfl
  refine xR (rd_ldA rfl mM rfl) ?_
  refine xM rfl <| xN rfl <| xF rfl ?_
  refine xR (rd_ld rfl mM rfl) ?_
  refine xR (rd_inc64 rfl rfl) <| xM rfl <| xN rfl <| xF rfl ?_
  refine xR (rd_ld rfl mM rfl) ?_
  refine x_nil ⟨⟨_, sP⟩, ?_, ?_⟩
  refine x_so ?_
  refine c_is rfl (blocks_a ha) sP rfl aQ ?_
  refine o_nil ⟨rfl, ⟨_, sP⟩, ?_⟩
  refine x_nil ?_
  refine t_fork ?_ rfl
  refine x_nil ⟨⟨_, sP⟩, ?_, ?_⟩
  refine x_so ?_
  refine c_is rfl (page_fn (v := t.version + 1) (n := c.blocks.length) hu hl) sP rfl aQ ?_
  refine o_nil ⟨rfl, ⟨_, sP⟩, ?_⟩
  refine x_nil ?_
  refine t_one ?_
  refine x_so ?_
  refine o_alloc rfl fun b5 => ?_
  rw [zeroP_eq]
  refine o_nil ⟨rfl, ⟨_, sP⟩, ?_⟩
  refine x_nil ?_
  rotate_left
  refine x_so ?_
  refine o_alloc rfl fun b5 => ?_
  rw [zeroP_eq]
  refine o_nil ⟨rfl, ⟨_, sP⟩, ?_⟩
  refine x_nil ?_
  refine t_one ?_
  refine x_so ?_
  refine c_is rfl (page_fn (v := t.version + 1) (n := c.blocks.length) hu hl) sP rfl aQ ?_
  refine o_nil ⟨rfl, ⟨_, sP⟩, ?_⟩
  refine x_nil ?_
  rotate_left
  refine x_so ?_
  refine o_alloc rfl fun b5 => ?_
  rw [zeroP_eq]
  refine o_nil ⟨rfl, ⟨_, sP⟩, ?_⟩
  refine x_nil ?_
  refine t_one ?_
  refine x_so ?_
  refine c_is rfl (blocks_a ha) sP rfl aQ ?_
  refine o_nil ⟨rfl, ⟨_, sP⟩, ?_⟩
  refine x_so ?_
  refine c_is rfl (page_fn (v := t.version + 1) (n := c.blocks.length) hu hl) sP rfl aQ ?_
  refine o_nil ⟨rfl, ⟨_, sP⟩, ?_⟩
  refine x_nil ?_
  rotate_left
  all_goals
    refine pt_none ?_
    refine t_one ?_
    refine x_so ?_
    first | refine o_store rfl rfl uD (vc_vb) (vbc_len) (spl_vb (by first | exact vbc_len | exact List.length_replicate ..)) ?_ | refine o_store rfl rfl uD rfl rfl rfl ?_
    refine o_nil ⟨rfl, ⟨_, sP⟩, ?_⟩
    refine x_nil ?_
    refine pt_end ?_
    refine n_K <| s_seq <| s_region0 fun ops => oM rfl <| oN rfl <| oF rfl ?_
    refine oR (rd_ld rfl mM rfl) ?_
    refine oA rfl <| o_nil <| n_K <| s_seq ?_
    refine s_draw [] [(7, [(0, false), (1, false), (2, false), (3, false), (4, false), (5, false), (6, false)]), (8, [(7, true)]), (13, [(8, false), (9, false), (10, false), (11, false), (12, false)])] (by kernel_rfl) rfl fun ops w0 H0 y => ?_
    refine p_all <| xM rfl <| xM rfl <| xM rfl <| xN rfl <| xF rfl ?_
    refine xR (rd_ld rfl mM rfl) ?_
    refine xR (rd_ldA rfl mM (by first | exact cut_vb | rfl)) ?_
    refine x_nil <| p_none <| x_so ?_
    refine c_is rfl (put_fn (t := t) ha hn) sP rfl aQ ?_
    refine o_nil ⟨rfl, ⟨_, sP⟩, ?_⟩
    refine x_nil <| p_all <| xM rfl <| xE rfl rfl <| xE rfl rfl <| xA rfl <| xA rfl <| x_nil <| p_end <| n_K <| s_seq <| s_seq <| s_region0 fun ops => oA rfl ?_
    refine o_nil <| n_K <| s_block ?_
    obtain ⟨q, hq⟩ : ∃ q, q = planP (t.version + 1) c.blocks.length u.list l.list := ⟨_, rfl⟩
    rw [← hq]
    refine s_loop2 [0, 3, 5] kQ (fun (st : Nat × KS) => [(9, .int .i64 st.1), (6, .int .i64 st.2.area), (7, .int .i64 st.2.next), (8, .int .i64 st.2.e)]) (fun (st : Nat × KS) => (b5, true, C (vbc q) tPg) :: (b3, true, C [u.val, l.val] tPl) :: (t.b, true, C (tabC a t) tTb) :: (u.hp tI ++ (l.hp tI ++ (chH st.2.c ++ [])))) (fun (st : Nat × KS) => st.1 ≤ 4 ∧ st.2.c.aC = a ∧ (0 ≤ st.2.next ∧ st.2.next ≤ 8) ∧ keepGo (4 - st.1) t.area q st.2 = keepS t.ts u.list l.list c) (fun (st : Nat × KS) => 4 - st.1) ((0, ⟨t.area, (putC c t.area t.next q).1, (putC c t.area t.next q).2.1, (putC c t.area t.next q).2.2⟩)) ⟨Nat.zero_le _, (putC_aC _ _ _ _).trans ha, putC_ge _ _ _ _ hn, by rw [hq]; rfl⟩ kP sP ?_
    rintro ⟨k, s⟩ ⟨h0, h1, h2, h3⟩
    simp only at h0 h1 h2 h3
    refine s_seq <| s_seq ?_
    refine s_region [(2, 40)] rfl fun ops y => ?_
    refine oM rfl <| oR (rd_bin rfl rfl rfl) <| oM rfl ?_
    refine' o_and (j := 2) (k := 2) y rfl rfl rfl rfl rfl rfl rfl (fun hg40 => ?_) ?_
    rotate_left
    · try (simp at hg40; show _)
      refine o_g y rfl rfl ?_
      refine oM rfl ?_
      refine o_g y rfl rfl ?_
      refine oR (rd_bin rfl rfl rfl) ?_
      exact o_nil ⟨rfl, rfl, ⟨_, sP⟩⟩
    refine o_nil <| n_K ?_
    refine s_cond rfl (fun c43 => ?_) (fun c43 => ?_)
    · skip
      have hk : k < 4 := (by simp at c43; omega)
      have he : s.e = 34 := (by simp at c43; exact c43.2)
      rw [show 4 - k = (4 - (k + 1)) + 1 by omega, keepGo, if_pos he] at h3
      refine s_skip <| n_K <| s_seq <| s_block <| s_seq <| s_region0 fun ops => oM rfl <| oN rfl <| oF rfl ?_
      refine oR (rd_ld rfl mM rfl) ?_
      refine oR (rd_sub64 rfl rfl (by omega)) ?_
      refine oA rfl <| o_nil <| n_K <| s_seq <| s_region0 fun ops => oM rfl <| oN rfl <| oF rfl ?_
      refine oR (rd_ld rfl mM rfl) ?_
      refine oM rfl ?_
      refine c_is rfl (erase_a h1) sP rfl aQ ?_
      refine oA rfl <| o_nil <| n_K <| s_seq <| s_region0 fun ops => oM rfl <| o_nil <| n_K <| s_block <| s_seq <| s_region0 fun ops => oR (rd_bin rfl rfl rfl) <| oA rfl <| o_nil ?_
      refine n_K ?_
      refine s_cond rfl (fun c59 => ?_) (fun c59 => ?_)
      · skip
        have hf : (eraseC s.c (1 - t.area)).1 = 0 := (by simpa using c59)
        have hk1 : keep1 t.area q s = ⟨1 - t.area, (putC (eraseC s.c (1 - t.area)).2 (1 - t.area) 0 q).1, (putC (eraseC s.c (1 - t.area)).2 (1 - t.area) 0 q).2.1, (putC (eraseC s.c (1 - t.area)).2 (1 - t.area) 0 q).2.2⟩ := (by unfold keep1; simp only []; rw [if_pos hf])
        refine s_region0 fun ops => oM rfl <| oM rfl ?_
        refine oR (rd_ldA rfl mM (by first | exact cut_vb | rfl)) ?_
        refine c_is rfl (put_fn (t := t) (c := (eraseC s.c (1 - t.area)).2) ((erase_aC _ _).trans h1) (Int.le_refl 0)) sP rfl aQ ?_
        refine oM rfl <| oE rfl rfl <| oE rfl rfl <| oA rfl <| oA rfl <| o_nil <| n_blk <| n_blk <| n_K <| s_region0 fun ops => oM rfl ?_
        refine oR (rd_add64 rfl rfl (by omega)) ?_
        refine oA rfl <| o_nil <| n_K ?_
        exact ⟨(k + 1, keep1 t.area q s), ⟨by simp only; omega, by simp only; rw [keep1_aC]; exact h1, by simp only; exact keep1_ge h2, h3⟩, (by simp only; omega), (by rw [hk1]; exact kP), kP, _, (by rw [hk1]; exact sP)⟩
      · skip
        have hf : ¬ (eraseC s.c (1 - t.area)).1 = 0 := (by simpa using c59)
        refine s_seq <| s_region0 fun ops => oR (rd_bin rfl rfl rfl) <| oA rfl <| o_nil <| n_K ?_
        refine s_cond rfl (fun c68 => ?_) (fun c68 => ?_)
        · skip
          have hf3 : (eraseC s.c (1 - t.area)).1 = 33 := (by simpa using c68)
          have hk1 : keep1 t.area q s = ⟨1 - t.area, s.next, s.e, (eraseC s.c (1 - t.area)).2⟩ := (by unfold keep1; simp only []; rw [if_neg hf, if_pos hf3])
          refine s_skip <| n_blk <| n_blk <| n_K <| s_region0 fun ops => oM rfl ?_
          refine oR (rd_add64 rfl rfl (by omega)) ?_
          refine oA rfl <| o_nil <| n_K ?_
          exact ⟨(k + 1, keep1 t.area q s), ⟨by simp only; omega, by simp only; rw [keep1_aC]; exact h1, by simp only; exact keep1_ge h2, h3⟩, (by simp only; omega), (by rw [hk1]; exact kP), kP, _, (by rw [hk1]; exact sP)⟩
        · skip
          have hf3 : ¬ (eraseC s.c (1 - t.area)).1 = 33 := (by simpa using c68)
          have hk1 : keep1 t.area q s = ⟨1 - t.area, s.next, (eraseC s.c (1 - t.area)).1, (eraseC s.c (1 - t.area)).2⟩ := (by unfold keep1; simp only []; rw [if_neg hf, if_neg hf3])
          refine s_region0 fun ops => oM rfl <| oA rfl <| o_nil <| n_blk <| n_blk <| n_K <| s_region0 fun ops => oM rfl ?_
          refine oR (rd_add64 rfl rfl (by omega)) ?_
          refine oA rfl <| o_nil <| n_K ?_
          exact ⟨(k + 1, keep1 t.area q s), ⟨by simp only; omega, by simp only; rw [keep1_aC]; exact h1, by simp only; exact keep1_ge h2, h3⟩, (by simp only; omega), (by rw [hk1]; exact kP), kP, _, (by rw [hk1]; exact sP)⟩
    · skip
      have hend : keepS t.ts u.list l.list c = s := (by rw [← h3]; rcases Nat.lt_or_ge k 4 with hk | hk; (rw [show 4 - k = (4 - (k + 1)) + 1 by omega, keepGo, if_neg (by intro e; simp [hk, e] at c43; omega)]); (rw [show 4 - k = 0 by omega, keepGo]))
      refine s_exit <| x_K <| x_K <| x_blk <| n_K <| s_seq <| s_seq <| s_region0 fun ops => oM rfl <| oR (rd_bin rfl rfl rfl) <| o_nil <| n_K ?_
      refine s_cond rfl (fun c71 => ?_) (fun c71 => ?_)
      · skip
        have hres : keepC t.ts u.list l.list c = (s.e, t.ts, s.c) := (by unfold keepC; simp only []; rw [hend, if_pos (by simpa using c71)])
        refine s_seq <| s_region0 fun ops => oM rfl <| oA rfl <| o_nil <| n_K <| s_ret <| r_K ?_
        exact leaf_r (rets1 Tryz.results72 (rv_tmp rfl)) (by refine ⟨t, rfl, ?_, rfl, ?_, ?_, ?_⟩ <;> rw [hres]; (intro h; simp at h; simp [h] at c71); (intro _; rfl)) (by rw [hres]; exact sP)
      · skip
        have hz : s.e = 0 := (by simpa using c71)
        have hres : keepC t.ts u.list l.list c = (0, ⟨u.list, l.list, t.version + 1, s.area, s.next, s.next - 1⟩, s.c) := (by unfold keepC; simp only []; rw [hend, if_neg (by rw [hz]; simp)]; rfl)
        refine s_skip <| n_K <| s_seq ?_
        refine s_drawM [] [0, 1, 2, 3, 4, 6, 7, 8, 11, 12, 13, 14] [[(5, false), (9, false), (10, false), (15, false), (16, false), (17, true)], [(18, false)], [(19, false)], [(20, true)], [(21, false)], [(22, false)], [(23, true)], [(24, false)], [(25, false)], [(26, true)], [(27, false)], [(28, false)], [(29, true)]] (by kernel_rfl) rfl rfl fun ops w0 H0 y => ?_
        unfold SPre
        refine xM rfl <| xM rfl <| xM rfl <| xM rfl <| xM rfl <| xM rfl <| xN rfl <| xF rfl <| xM rfl <| xM rfl <| xM rfl ?_
        refine xR (show Rd _ _ _ _ (.int .i64 (s.next - 1)) from rd_sub64 rfl rfl (by omega)) ?_
        refine x_nil ?_
        refine pc_ph ([(b3, true, C [u.val, l.val] tPl)]) ([(t.b, 3, wv t.version)]) sP (hasCl_cons (r := true) mM rfl hasCl_nil) ?_
        refine xc_rd (rd_ldA rfl mM rfl) rfl ?_
        refine xc_ld rfl mM rfl ?_
        refine xc_rd (rd_inc64 rfl rfl) rfl ?_
        refine xc_rd (rd_nil rfl) rfl ?_
        refine xc_rd (rd_field rfl) rfl ?_
        refine xc_so ?_
        refine o_store rfl rfl uD rfl rfl rfl ?_
        refine o_nil ⟨rfl, ⟨_, sP⟩, (hasCl_cons (r := true) mM rfl hasCl_nil), ?_⟩
        refine xc_nil ?_
        refine p_all <| xN rfl <| x_nil <| p_all <| xF rfl <| x_nil <| p_none <| x_so ?_
        refine o_store rfl rfl uD rfl rfl rfl ?_
        refine o_nil ⟨rfl, ⟨_, sP⟩, ?_⟩
        refine x_nil <| p_all <| xN rfl <| x_nil <| p_all <| xF rfl <| x_nil <| p_none <| x_so ?_
        refine o_store rfl rfl uD rfl rfl rfl ?_
        refine o_nil ⟨rfl, ⟨_, sP⟩, ?_⟩
        refine x_nil <| p_all <| xN rfl <| x_nil <| p_all <| xF rfl <| x_nil <| p_none <| x_so ?_
        refine o_store rfl rfl uD rfl rfl rfl ?_
        refine o_nil ⟨rfl, ⟨_, sP⟩, ?_⟩
        refine x_nil <| p_all <| xN rfl <| x_nil <| p_all <| xF rfl <| x_nil <| p_none <| x_so ?_
        refine o_store rfl rfl uD rfl rfl rfl ?_
        refine o_nil ⟨rfl, ⟨_, sP⟩, ?_⟩
        refine x_nil <| p_end <| n_K <| s_seq <| s_region0 fun ops => oA rfl <| o_nil <| n_K <| s_ret ?_
        exact leaf_r (rets1 Tryz.results72 (rv_tmp rfl)) (by refine ⟨⟨t.b, u, l, t.version + 1, s.area, s.next, s.next - 1⟩, rfl, ?_, rfl, ?_, ?_, ?_⟩ <;> rw [hres]; (rfl); (intro _; exact ⟨rfl, rfl⟩); (intro h; exact absurd rfl h)) (by rw [hres]; exact sP)
@[irreducible] def tabH (a : Nat) (t : Tab) : Hp := (t.b, true, C (tabC a t) tTb) :: (t.u.hp tI ++ (t.l.hp tI ++ []))
theorem tabH_eq (a : Nat) (t : Tab) : tabH a t = (t.b, true, C (tabC a t) tTb) :: (t.u.hp tI ++ (t.l.hp tI ++ [])) := by unfold tabH; rfl
/-- A plan is kept, or it isn't: the table is the new one, or the elder. -/
theorem keep2_fn {t : Tab} {u l : Sl Int} (ha : c.aC = a) (hu : u.list.length ≤ 1000) (hl : l.list.length ≤ 1000) (hn : 0 ≤ t.next) (har : 0 ≤ t.area ∧ t.area ≤ 1) :
    Does Tryz.prog 72 [ptr t.b, .agg #[u.val, l.val]] ((t.b, true, C (tabC a t) tTb) :: (u.hp tI ++ (l.hp tI ++ (chH c ++ []))))
      (fun v H => (∃ t' : Tab, t'.b = t.b ∧ t'.u = u ∧ t'.l = l ∧ v = .int .i64 0 ∧ H = (t'.b, true, C (tabC a t') tTb) :: (u.hp tI ++ (l.hp tI ++ (chH (keepC t.ts u.list l.list c).2.2 ++ []))) ∧ (keepC t.ts u.list l.list c).1 = 0 ∧ t'.ts = (keepC t.ts u.list l.list c).2.1) ∨
        (∃ e, v = .int .i64 e ∧ e ≠ 0 ∧ H = (t.b, true, C (tabC a t) tTb) :: (u.hp tI ++ (l.hp tI ++ (chH (keepC t.ts u.list l.list c).2.2 ++ []))) ∧ (keepC t.ts u.list l.list c).1 = e ∧ t.ts = (keepC t.ts u.list l.list c).2.1)) := by
  refine (keep_fn ha hu hl hn har).mono fun v H ⟨t', h1, h2, h3, h4, h5, h6⟩ => ?_
  by_cases h : (keepC t.ts u.list l.list c).1 = 0
  · exact .inl ⟨t', h1, (h5 h).1, (h5 h).2, by rw [h2, h], h3, h, h4⟩
  · have := h6 h
    subst this
    exact .inr ⟨_, h2, h, h3, rfl, h4⟩
end
end Go.Proofs.YtkfcpjohblddmaaGreat
end
section
/- Walks of package bbt: what tables tell; losing, swapping. -/
namespace Go.Proofs.YtkfcpjohblddmaaGreat
open Go.K
set_option linter.unusedVariables false
set_option linter.unusedSimpArgs false
instance ent29 : Ent Tryz.prog 29 := ⟨fun _ _ => by kernel_rfl⟩
instance ent96 : Ent Tryz.prog 96 := ⟨fun _ _ => by kernel_rfl⟩
instance ent112 : Ent Tryz.prog 112 := ⟨fun _ _ => by kernel_rfl⟩
instance ent114 : Ent Tryz.prog 114 := ⟨fun _ _ => by kernel_rfl⟩
instance ent115 : Ent Tryz.prog 115 := ⟨fun _ _ => by kernel_rfl⟩
instance ent127 : Ent Tryz.prog 127 := ⟨fun _ _ => by kernel_rfl⟩
instance ent129 : Ent Tryz.prog 129 := ⟨fun _ _ => by kernel_rfl⟩

section
variable {c : Chip} {a : Nat} {t : Tab}
theorem tlen_fn : Does Tryz.prog 29 [ptr t.b] (tabH a t) (Is (.int .i64 t.u.list.length) (tabH a t)) := by
  rw [tabH_eq]
  refine fn_enter (n := 9) Tryz.func29 Tryz.ntmps29 rfl (Nat.le_of_ble_eq_true rfl) <| s_seq <| s_region0 fun ops => oA rfl <| o_nil <| n_K <| s_seq <| s_region0 fun ops => oM rfl <| oN rfl <| oF rfl <| oF rfl ?_
  refine oR (rd_ld rfl mM rfl) ?_
  refine oR (rd_lenS rfl) <| oA rfl <| o_nil <| n_K <| s_ret ?_
  refine leaf_is (rets1 Tryz.results29 (rv_tmp rfl)) ?_ sP
  rfl
theorem tlen0_fn : Does Tryz.prog 29 [ptr t.b] [(t.b, true, C (tabC a t) tTb)] (Is (.int .i64 t.u.list.length) [(t.b, true, C (tabC a t) tTb)]) := by
  refine fn_enter (n := 9) Tryz.func29 Tryz.ntmps29 rfl (Nat.le_of_ble_eq_true rfl) <| s_seq <| s_region0 fun ops => oA rfl <| o_nil <| n_K <| s_seq <| s_region0 fun ops => oM rfl <| oN rfl <| oF rfl <| oF rfl ?_
  refine oR (rd_ld rfl mM rfl) ?_
  refine oR (rd_lenS rfl) <| oA rfl <| o_nil <| n_K <| s_ret ?_
  refine leaf_is (rets1 Tryz.results29 (rv_tmp rfl)) ?_ sP
  rfl
theorem at_fn {i : Int} : Does Tryz.prog 96 [ptr t.b, .int .i64 i] (tabH a t) (Is (.tuple #[.int .i64 (atT t.ts i).1, .bool (atT t.ts i).2]) (tabH a t)) := by
  rw [tabH_eq]
  refine fn_enter (n := 22) Tryz.func96 Tryz.ntmps96 rfl (Nat.le_of_ble_eq_true rfl) <| s_seq <| s_region0 fun ops => oA rfl <| oA rfl <| o_nil <| n_K <| s_seq <| s_seq ?_
  refine s_region [(2, 8)] rfl fun ops y => ?_
  refine oM rfl <| oR (rd_bin rfl rfl rfl) <| oM rfl ?_
  refine' o_or (j := 2) (k := 4) y rfl rfl rfl rfl rfl rfl rfl (fun hg8 => ?_) ?_
  rotate_left
  · try (simp at hg8; show _)
    refine o_g y rfl rfl ?_
    refine oM rfl ?_
    refine o_g y rfl rfl ?_
    refine oM rfl ?_
    refine o_g y rfl rfl ?_
    refine c_is rfl (tlen0_fn (a := a) (t := t)) sP rfl aQ ?_
    refine o_g y rfl rfl ?_
    refine oR (rd_bin rfl rfl rfl) ?_
    exact o_nil ⟨rfl, rfl, ⟨_, sP⟩⟩
  refine o_nil <| n_K ?_
  refine s_cond rfl (fun c13 => ?_) (fun c13 => ?_)
  · skip
    have hres : atT t.ts i = (0, false) := (by unfold atT; exact if_pos c13)
    refine s_seq <| s_region0 fun ops => oA rfl <| oA rfl <| o_nil <| n_K <| s_ret <| r_K ?_
    refine leaf_is (rets2 Tryz.results96 (rv_tmp rfl) (rv_tmp rfl)) ?_ sP
    rw [hres]
  · skip
    have hres : atT t.ts i = (at0 t.u.list i, true) := (by unfold atT; rw [if_neg (by rw [show t.ts.uses = t.u.list from rfl, c13]; exact Bool.false_ne_true)]; rfl)
    have hi : 0 ≤ i ∧ i < t.u.list.length := (by simp at c13; omega)
    refine s_skip <| n_K <| s_seq <| s_region0 fun ops => oM rfl <| oN rfl <| oF rfl <| oF rfl ?_
    refine oR (rd_ld rfl mM rfl) ?_
    refine oM rfl ?_
    refine oR (rd_ixSl rfl rfl hi) ?_
    refine oR (rd_ldSl (o := 0) rfl pL (at0_get hi.1 hi.2) rfl rfl) ?_
    refine oA rfl <| oA rfl <| o_nil <| n_K <| s_ret ?_
    refine leaf_is (rets2 Tryz.results96 (rv_tmp rfl) (rv_tmp rfl)) ?_ sP
    rw [hres]
theorem spare_fn (ha : c.aC = a) {b : Int} : Does Tryz.prog 127 [ptr t.b, .int .i64 b] (tabH a t ++ (chH c ++ [])) (Is (.bool (spareB t.ts c.blocks.length b)) (tabH a t ++ (chH c ++ []))) := by
  rw [tabH_eq]; simp only [List.cons_append, List.append_assoc, List.nil_append]
  refine fn_enter (n := 36) Tryz.func127 Tryz.ntmps127 rfl (Nat.le_of_ble_eq_true rfl) <| s_seq <| s_region0 fun ops => oA rfl <| o_nil <| n_K <| s_seq ?_
  refine s_region [(2, 7), (11, 16), (21, 26)] rfl fun ops y => ?_
  refine oM rfl <| oR (rd_bin rfl rfl rfl) <| oM rfl ?_
  refine' o_and (j := 2) (k := 7) y rfl rfl rfl rfl rfl rfl rfl (fun hg7 => ?_) ?_
  rotate_left
  · try (simp at hg7; show _)
    refine o_g y rfl rfl ?_
    refine oM rfl ?_
    refine o_g y rfl rfl ?_
    refine oM rfl ?_
    refine o_g y rfl rfl ?_
    refine oN rfl ?_
    refine o_g y rfl rfl ?_
    refine oF rfl ?_
    refine o_g y rfl rfl ?_
    refine oR (rd_ld rfl mM rfl) ?_
    refine o_g y rfl rfl ?_
    refine c_is rfl (blocks_a ha) sP rfl aQ ?_
    refine o_g y rfl rfl ?_
    refine oR (rd_bin rfl rfl rfl) ?_
    exact o_nil ⟨rfl, rfl, ⟨_, sP⟩⟩
  refine oM rfl ?_
  refine' o_and (j := 11) (k := 8) y rfl rfl rfl rfl rfl rfl rfl (fun hg16 => ?_) ?_
  rotate_left
  · try (simp at hg16; show _)
    refine o_g y rfl rfl ?_
    refine oM rfl ?_
    refine o_g y rfl rfl ?_
    refine oN rfl ?_
    refine o_g y rfl rfl ?_
    refine oF rfl ?_
    refine o_g y rfl rfl ?_
    refine oF rfl ?_
    refine o_g y rfl rfl ?_
    refine oR (rd_ld rfl mM rfl) ?_
    refine o_g y rfl rfl ?_
    refine oM rfl ?_
    refine o_g y rfl rfl ?_
    refine c_is rfl (contains_fn (s := t.u) (T := tI)) sP rfl aQ ?_
    refine o_g y rfl rfl ?_
    refine oR (rd_not rfl) ?_
    exact o_nil ⟨rfl, rfl, ⟨_, sP⟩⟩
  refine oM rfl ?_
  refine' o_and (j := 21) (k := 8) y rfl rfl rfl rfl rfl rfl rfl (fun hg26 => ?_) ?_
  rotate_left
  · try (simp at hg26; show _)
    refine o_g y rfl rfl ?_
    refine oM rfl ?_
    refine o_g y rfl rfl ?_
    refine oN rfl ?_
    refine o_g y rfl rfl ?_
    refine oF rfl ?_
    refine o_g y rfl rfl ?_
    refine oF rfl ?_
    refine o_g y rfl rfl ?_
    refine oR (rd_ld rfl mM rfl) ?_
    refine o_g y rfl rfl ?_
    refine oM rfl ?_
    refine o_g y rfl rfl ?_
    refine c_is rfl (contains_fn (s := t.l) (T := tI)) sP rfl aQ ?_
    refine o_g y rfl rfl ?_
    refine oR (rd_not rfl) ?_
    exact o_nil ⟨rfl, rfl, ⟨_, sP⟩⟩
  refine oA rfl <| o_nil <| n_K <| s_ret ?_
  refine leaf_is (rets1 Tryz.results127 (rv_tmp rfl)) ?_ sP
  rfl
theorem spareM_fn (ha : c.aC = a) (hn : c.blocks.length ≤ 1000) : Does Tryz.prog 112 [ptr t.b] (tabH a t ++ (chH c ++ [])) (Is (.tuple #[.int .i64 (spareV t.ts c.blocks.length).1, .bool (spareV t.ts c.blocks.length).2]) (tabH a t ++ (chH c ++ []))) := by
  rw [tabH_eq]; simp only [List.cons_append, List.append_assoc, List.nil_append]
  refine fn_enter (n := 18) Tryz.func112 Tryz.ntmps112 rfl (Nat.le_of_ble_eq_true rfl) <| s_seq <| s_region0 fun ops => oA rfl <| oA rfl <| o_nil <| n_K <| s_seq <| s_seq <| s_region0 fun ops => oM rfl <| oN rfl <| oF rfl ?_
  refine oR (rd_ld rfl mM rfl) ?_
  refine c_is rfl (blocks_a ha) sP rfl aQ ?_
  refine oM rfl <| o_nil <| n_K <| s_block ?_
  refine s_loop2E [0, 9] kQ (fun (i : Nat) => [(10, .int .i64 i)]) (fun (i : Nat) => i ≤ c.blocks.length ∧ ∀ k < i, spareB t.ts c.blocks.length k = false) (fun (i : Nat) => c.blocks.length - i) ((0 : Nat)) ⟨Nat.zero_le _, fun k hk => by omega⟩ kP ?_
  rintro i ⟨h0, h1⟩
  refine s_seq <| s_region0 fun ops => oR (rd_bin rfl rfl rfl) <| o_nil <| n_K <| s_seq ?_
  refine s_cond rfl (fun c11 => ?_) (fun c11 => ?_)
  · simp only [decide_eq_true_eq, decide_eq_false_iff_not] at c11
    refine s_skip <| n_K <| s_seq <| s_block <| s_seq <| s_region0 fun ops => oM rfl <| oA rfl <| o_nil <| n_K <| s_seq <| s_region0 fun ops => oM rfl <| oM rfl ?_
    refine c_is rfl ((by have h := spare_fn (t := t) ha (b := (i : Int)); rw [tabH_eq] at h; simp only [List.cons_append, List.append_assoc, List.nil_append] at h; exact h)) sP rfl aQ ?_
    refine o_nil <| n_K ?_
    refine s_cond rfl (fun c15 => ?_) (fun c15 => ?_)
    · skip
      have hres := spare_found (by omega) h1 c15
      refine s_seq <| s_region0 fun ops => oM rfl <| oA rfl <| oA rfl <| o_nil <| n_K <| s_ret <| r_blk <| r_K <| r_K <| r_blk <| r_K ?_
      refine leaf_is (rets2 Tryz.results112 (rv_tmp rfl) (rv_tmp rfl)) ?_ sP
      rw [hres]
    · skip
      refine s_skip <| n_blk <| n_K <| s_region0 fun ops => ?_
      refine oR (rd_add64 rfl rfl (by omega)) ?_
      refine oM rfl <| o_nil <| n_K ?_
      exact ⟨i + 1, ⟨by omega, fun k hk => by rcases Nat.lt_or_ge k i with h | h; exact h1 k h; rw [show k = i by omega]; exact c15⟩, (by omega), lZ⟩
  · simp only [decide_eq_true_eq, decide_eq_false_iff_not] at c11
    have hres := spare_none (t := t.ts) (n := c.blocks.length) (fun k hk => h1 k (by omega))
    refine s_exit <| x_K <| x_K <| x_blk <| n_K <| s_seq <| s_region0 fun ops => oA rfl <| oA rfl <| o_nil <| n_K <| s_ret ?_
    refine leaf_is (rets2 Tryz.results112 (rv_tmp rfl) (rv_tmp rfl)) ?_ sP
    rw [hres]
theorem lose_fn {b : Int} (hu : t.u.list.length ≤ 1000) (hl : t.l.list.length ≤ 11) : Does Tryz.prog 129 [ptr t.b, .int .i64 b] (tabH a t) (fun v H => ∃ u l : Sl Int, v = .agg #[u.val, l.val] ∧ H = u.hp tI ++ (l.hp tI ++ (tabH a t ++ [])) ∧ u.list = t.u.list ∧ l.list.Perm (t.l.list ++ [b]) ∧ u.isOwn = true ∧ l.isOwn = true) := by
  rw [tabH_eq]
  refine fn_enter (n := 21) Tryz.func129 Tryz.ntmps129 rfl (Nat.le_of_ble_eq_true rfl) <| s_seq <| s_region0 fun ops => ?_
  refine o_alloc rfl fun b4 => ?_
  refine o_nil <| n_K <| s_seq <| s_region0 fun ops => oM rfl <| oN rfl <| oF rfl ?_
  refine oR (rd_ldA rfl mM rfl) ?_
  refine c_ex rfl (copied_fn (u := t.u) (l := t.l) hu (by omega)) sP rfl fun v10 Y10 h10 => ?_
  obtain ⟨u10, l10, rfl, rfl, hu10, hl10, ou10, ol10⟩ := h10
  refine so_ap aQ ?_
  refine o_alloc rfl fun b5 => ?_
  refine o_store rfl rfl uD rfl rfl rfl ?_
  refine o_nil <| n_K <| s_seq <| s_region0 fun ops => oF rfl ?_
  refine oR (rd_ld rfl mM rfl) ?_
  refine oM rfl ?_
  refine o_bslice_k rfl rfl rfl rfl fun b14 => ?_
  refine o_append_sl (s := l10) (new := [b]) (m := 1) rfl rfl pL ol10 (src_blk (r := true) mM rfl) rfl rfl rfl rfl (by rw [hl10]; omega) rfl fun s15 hs1 hs2 => ?_
  refine oF rfl ?_
  refine o_store rfl rfl uD rfl rfl rfl ?_
  refine o_nil <| n_K <| s_seq <| s_region0 fun ops => oF rfl ?_
  refine oR (rd_ld rfl mM rfl) ?_
  refine c_ex rfl (sort_fn (s := s15) hs2 (by rw [hs1, hl10]; simp; omega)) sP rfl fun v19 Y19 h19 => ?_
  obtain ⟨rfl, l19, rfl, hv19, ho19, hp19⟩ := h19
  refine so_ap aQ ?_
  refine o_nil <| n_K <| s_seq <| s_region0 fun ops => ?_
  refine oR (rd_ldA rfl mM rfl) ?_
  refine o_store rfl rfl uD rfl rfl rfl ?_
  refine o_nil <| n_K <| s_ret ?_
  exact leaf_r (rets1 Tryz.results129 (rv_cell rfl mM rfl)) (by exact ⟨u10, l19, by rw [hv19], rfl, hu10, by rw [← hl10, ← hs1]; exact hp19, ou10, ho19⟩) (by simp only [List.cons_append, List.append_assoc, List.nil_append]; exact sP)
/-- What is known behind a plan was kept. -/
def KeptR (a : Nat) (t : Tab) (c : Chip) (uses lost : List Int) (v : Value) (H : Hp) : Prop :=
  ∃ (t' : Tab) (lost' : List Int), t'.b = t.b ∧ lost'.Perm lost ∧ v = .int .i64 (keepC t.ts uses lost' c).1 ∧ H = tabH a t' ++ (chH (keepC t.ts uses lost' c).2.2 ++ []) ∧ t'.ts = (keepC t.ts uses lost' c).2.1
theorem kept_leaf {u uses l lost : List Int} {t' : Tab} {v : Value} (hb : t'.b = t.b) (hP : l.Perm lost) (hu : u = uses) (hv : v = .int .i64 (keepC t.ts u l c).1) (hts : t'.ts = (keepC t.ts u l c).2.1) : KeptR a t c uses lost v (tabH a t' ++ (chH (keepC t.ts u l c).2.2 ++ [])) := by
  subst hu; exact ⟨t', l, hb, hP, hv, rfl, hts⟩
theorem spareO_fn (ha : c.aC = a) {b : Int} : Does Tryz.prog 127 [ptr t.b, .int .i64 b] ((t.b, true, C (tabC a t) tTb) :: (t.u.hp tI ++ (t.l.hp tI ++ (chH c ++ [])))) (Is (.bool (spareB t.ts c.blocks.length b)) ((t.b, true, C (tabC a t) tTb) :: (t.u.hp tI ++ (t.l.hp tI ++ (chH c ++ []))))) := by
  have h := spare_fn (t := t) ha (b := b)
  rw [tabH_eq] at h; simp only [List.cons_append, List.append_assoc, List.nil_append] at h; exact h
theorem loseO_fn {b : Int} (hu : t.u.list.length ≤ 1000) (hl : t.l.list.length ≤ 11) : Does Tryz.prog 129 [ptr t.b, .int .i64 b] ((t.b, true, C (tabC a t) tTb) :: (t.u.hp tI ++ (t.l.hp tI ++ []))) (fun v H => ∃ u l : Sl Int, v = .agg #[u.val, l.val] ∧ H = u.hp tI ++ (l.hp tI ++ ((t.b, true, C (tabC a t) tTb) :: (t.u.hp tI ++ (t.l.hp tI ++ [])))) ∧ u.list = t.u.list ∧ l.list.Perm (t.l.list ++ [b]) ∧ u.isOwn = true ∧ l.isOwn = true) := by
  have h := lose_fn (t := t) (a := a) (b := b) hu hl
  rw [tabH_eq] at h; simp only [List.cons_append, List.append_assoc, List.nil_append] at h; exact h
theorem loseM_fn (ha : c.aC = a) {b : Int} (hu : t.u.list.length ≤ 1000) (hl : t.l.list.length ≤ 11) (hn : 0 ≤ t.next) (har : 0 ≤ t.area ∧ t.area ≤ 1) : Does Tryz.prog 115 [ptr t.b, .int .i64 b] (tabH a t ++ (chH c ++ []))
    (fun v H => if spareB t.ts c.blocks.length b = true then KeptR a t c t.u.list (t.l.list ++ [b]) v H else v = .int .i64 1 ∧ H = tabH a t ++ (chH c ++ [])) := by
  rw [tabH_eq]; simp only [List.cons_append, List.append_assoc, List.nil_append]
  refine fn_enter (n := 14) Tryz.func115 Tryz.ntmps115 rfl (Nat.le_of_ble_eq_true rfl) <| s_seq <| s_region0 fun ops => oA rfl <| o_nil <| n_K <| s_seq <| s_seq <| s_region0 fun ops => oM rfl <| oM rfl ?_
  refine c_is rfl (spareO_fn (t := t) ha) sP rfl aQ ?_
  refine oR (rd_not rfl) <| o_nil <| n_K ?_
  refine s_cond rfl (fun c8 => ?_) (fun c8 => ?_)
  · skip
    refine s_seq <| s_region0 fun ops => oA rfl <| o_nil <| n_K <| s_ret <| r_K ?_
    exact leaf_r (rets1 Tryz.results115 (rv_tmp rfl)) (by rw [if_neg (by simpa using c8)]; exact ⟨rfl, rfl⟩) sP
  · skip
    refine s_skip <| n_K <| s_seq <| s_region0 fun ops => oM rfl <| oM rfl <| oM rfl ?_
    refine c_ex rfl (loseO_fn (t := t) (a := a) hu hl) sP rfl fun v12 Y12 h12 => ?_
    obtain ⟨u12, l12, rfl, rfl, hu12, hl12, ou12, ol12⟩ := h12
    refine so_ap aQ ?_
    refine c_ex rfl (keep2_fn (t := t) (u := u12) (l := l12) ha (by rw [hu12]; exact hu) (by rw [hl12.length_eq]; simp; omega) hn har) sP rfl fun v13 Y13 h13 => ?_
    rcases h13 with ⟨t', e1, e2, e3, rfl, rfl, e4, e5⟩ | ⟨e, rfl, e1, rfl, e4, e5⟩
    all_goals
      refine so_ap aQ ?_
      refine oA rfl <| o_nil <| n_K <| s_ret ?_
      exact leaf_r (rets1 Tryz.results115 (rv_tmp rfl)) (by rw [if_pos (by simpa using c8)]; first | exact kept_leaf e1 hl12 hu12 (by rw [e4]) e5 | exact kept_leaf (t' := t) rfl hl12 hu12 (by rw [e4]) e5) (by rw [tabH_eq]; simp only [List.cons_append, List.append_assoc, List.nil_append]; first | (rw [e2, e3]; exact sP) | exact sP)
theorem swap_fn (ha : c.aC = a) {i b : Int} (hu : t.u.list.length ≤ 1000) (hl : t.l.list.length ≤ 11) (hn : 0 ≤ t.next) (har : 0 ≤ t.area ∧ t.area ≤ 1) : Does Tryz.prog 114 [ptr t.b, .int .i64 i, .int .i64 b] (tabH a t ++ (chH c ++ []))
    (fun v H => if ((atT t.ts i).2 && spareB t.ts c.blocks.length b) = true then KeptR a t c (t.u.list.set i.toNat b) (t.l.list ++ [at0 t.u.list i]) v H else v = .int .i64 1 ∧ H = tabH a t ++ (chH c ++ [])) := by
  refine fn_enter (n := 35) Tryz.func114 Tryz.ntmps114 rfl (Nat.le_of_ble_eq_true rfl) <| s_seq <| s_region0 fun ops => oA rfl <| o_nil <| n_K <| s_seq <| s_region0 fun ops => oM rfl <| oM rfl ?_
  refine c_is rfl (at_fn (t := t)) sP rfl aQ ?_
  refine oM rfl <| oE rfl rfl <| oE rfl rfl <| oA rfl <| oA rfl <| o_nil <| n_K <| s_seq <| s_seq ?_
  refine s_region [(2, 18)] rfl fun ops y => ?_
  refine oM rfl <| oR (rd_not rfl) <| oM rfl ?_
  refine' o_or (j := 2) (k := 4) y rfl rfl rfl rfl rfl rfl rfl (fun hg18 => ?_) ?_
  rotate_left
  · try (simp at hg18; show _)
    refine o_g y rfl rfl ?_
    refine oM rfl ?_
    refine o_g y rfl rfl ?_
    refine oM rfl ?_
    refine o_g y rfl rfl ?_
    refine c_is rfl (spare_fn (t := t) ha) sP rfl aQ ?_
    refine o_g y rfl rfl ?_
    refine oR (rd_not rfl) ?_
    exact o_nil ⟨rfl, rfl, ⟨_, sP⟩⟩
  refine o_nil <| n_K ?_
  refine s_cond rfl (fun c23 => ?_) (fun c23 => ?_)
  · skip
    have hc : ¬ ((atT t.ts i).2 && spareB t.ts c.blocks.length b) = true := (by simp at c23 ⊢; intro h; rcases c23 with h2 | h2; rw [h] at h2; cases h2; exact h2)
    refine s_seq <| s_region0 fun ops => oA rfl <| o_nil <| n_K <| s_ret <| r_K ?_
    exact leaf_r (rets1 Tryz.results114 (rv_tmp rfl)) (by rw [if_neg hc]; exact ⟨rfl, rfl⟩) sP
  · skip
    have hc : (atT t.ts i).2 = true ∧ spareB t.ts c.blocks.length b = true := (by simp at c23; exact c23)
    have hi : 0 ≤ i ∧ i < t.u.list.length := (by have := hc.1; unfold atT at this; split at this; cases this; rename_i h; simp at h; have e : t.ts.uses = t.u.list := rfl; rw [e] at h; omega)
    have hat : (atT t.ts i).1 = at0 t.u.list i := (by have := hc.1; unfold atT at this ⊢; split at this; cases this; rename_i h; rw [if_neg h]; rfl)
    rw [hat, tabH_eq]
    simp only [List.cons_append, List.append_assoc, List.nil_append]
    refine s_skip <| n_K <| s_seq <| s_region0 fun ops => oM rfl <| oM rfl ?_
    refine c_ex rfl (loseO_fn (t := t) (a := a) hu hl) sP rfl fun v26 Y26 h26 => ?_
    obtain ⟨u26, l26, rfl, rfl, hu26, hl26, ou26, ol26⟩ := h26
    refine so_ap aQ ?_
    refine o_alloc rfl fun b9 => ?_
    refine o_store rfl rfl uD rfl rfl rfl ?_
    refine o_nil <| n_K <| s_seq <| s_region0 fun ops => oF rfl ?_
    refine oR (rd_ld rfl mM rfl) ?_
    refine oM rfl <| oM rfl ?_
    refine oR (rd_ixSl rfl rfl ⟨hi.1, by rw [hu26]; exact hi.2⟩) ?_
    (have hg : u26.list[i.toNat]? = some (at0 t.u.list i) := by (rw [hu26]; exact at0_get hi.1 hi.2)); obtain ⟨u', hu'⟩ : ∃ u', u' = u26.set i.toNat b := ⟨_, rfl⟩; refine o_storeSl (s := u26) (o := 0) (z' := b) rfl rfl uL ou26 hg rfl rfl rfl (by rw [off_own ou26]; exact Nat.zero_add _) ?_; rw [← hu']; have hl' : u'.list = t.u.list.set i.toNat b := (by rw [hu', Sl.set_list _ _ _ ou26, hu26]); have hv' : u'.val = u26.val := (by rw [hu', Sl.set_val])
    refine o_nil <| n_K <| s_seq <| s_region0 fun ops => oM rfl ?_
    refine oR (rd_ldA rfl mM rfl) ?_
    refine c_ex rfl ((by have h := keep2_fn (c := c) (a := a) (t := t) (u := u') (l := l26) ha (by rw [hl', List.length_set]; exact hu) (by rw [hl26.length_eq]; simp; omega) hn har; rw [hv'] at h; exact h)) sP rfl fun v34 Y34 h34 => ?_
    rcases h34 with ⟨t', e1, e2, e3, rfl, rfl, e4, e5⟩ | ⟨e, rfl, e1, rfl, e4, e5⟩
    all_goals
      refine so_ap aQ ?_
      refine oA rfl <| o_nil <| n_K <| s_ret ?_
      exact leaf_r (rets1 Tryz.results114 (rv_tmp rfl)) (by rw [if_pos (by rw [hc.1, hc.2]; rfl)]; first | exact kept_leaf e1 hl26 hl' (by rw [e4]) e5 | exact kept_leaf (t' := t) rfl hl26 hl' (by rw [e4]) e5) (by rw [tabH_eq]; simp only [List.cons_append, List.append_assoc, List.nil_append]; first | (rw [e2, e3]; exact sP) | exact sP)
end
end Go.Proofs.YtkfcpjohblddmaaGreat
end
section
/- Walks of package bbt: opening, formatting. -/
namespace Go.Proofs.YtkfcpjohblddmaaGreat
open Go.K
set_option linter.unusedVariables false
set_option linter.unusedSimpArgs false
instance zer115 : Zer Tryz.prog 115 ([.pointer none, .slice none 0 0, .slice none 0 0, .int .u64 0, .int .i64 0, .int .i64 0, .int .i64 0]) := ⟨by kernel_rfl⟩
instance plc115 : Plc Tryz.prog 115 [(0, 1), (1, 2), (3, 1), (4, 1), (5, 1), (6, 1)] := ⟨⟨_, Tryz.underlying115, fun _ => by kernel_rfl⟩⟩
instance ent42 : Ent Tryz.prog 42 := ⟨fun _ _ => by kernel_rfl⟩
instance ent55 : Ent Tryz.prog 55 := ⟨fun _ _ => by kernel_rfl⟩

/-- What Open gives. -/
def OpenR (a : Nat) (c : Chip) (v : Value) (H : Hp) : Prop :=
  if (openC c).1 = 0 then ∃ t : Tab, v = .tuple #[ptr t.b, .int .i64 0] ∧ H = tabH a t ++ (chH c ++ []) ∧ t.ts = (openC c).2
  else v = .tuple #[.pointer none, .int .i64 (openC c).1] ∧ H = chH c ++ []
/-- What is told of an area: where the plan's rows lie. -/
def scOk (s : Sc) (u l : Sl Int) : Prop := u.list = s.uses ∧ l.list = s.lost
theorem open_fn {c : Chip} (hb : 2 ≤ c.blocks.length ∧ c.blocks.length ≤ 1000) : Does Tryz.prog 55 [ptr c.aC] (chH c) (OpenR c.aC c) := by
  refine fn_enter (n := 101) Tryz.func55 Tryz.ntmps55 rfl (Nat.le_of_ble_eq_true rfl) <| s_seq <| s_region0 fun ops => oA rfl <| oA rfl <| o_nil <| n_K <| s_seq <| s_region0 fun ops => oM rfl <| oR (rd_build_s rfl rfl) ?_
  refine o_box rfl rfl fun b20 => ?_
  refine oA rfl <| o_nil <| n_K <| s_seq <| s_region0 fun ops => oA rfl <| o_nil <| n_K <| s_seq <| s_seq <| s_region0 fun ops => oM rfl <| o_nil <| n_K ?_
  refine s_block ?_
  refine sc_eq (G := (b20, true, C (tabC c.aC ⟨b20, .nil, .nil, 0, 0, 0, 0⟩) tTb) :: ((Sl.nil : Sl Int).hp tI ++ ((Sl.nil : Sl Int).hp tI ++ (chH c ++ [])))) (by simp only [Sl.hp_nil, List.nil_append, List.append_nil]; rfl) ?_
  refine s_loop2 [0, 4] kQ (fun (st : Nat × Tab) => [(21, .int .i64 st.1), (5, .bool (openU c st.1).2)]) (fun (st : Nat × Tab) => (b20, true, C (tabC c.aC st.2) tTb) :: (st.2.u.hp tI ++ (st.2.l.hp tI ++ (chH c ++ [])))) (fun (st : Nat × Tab) => st.1 ≤ 2 ∧ st.2.ts = (openU c st.1).1 ∧ st.2.b = b20 ∧ (0 < st.1 → mayE c 0 0 = 0)) (fun (st : Nat × Tab) => 2 - st.1) ((0, ⟨b20, .nil, .nil, 0, 0, 0, 0⟩)) ⟨Nat.zero_le _, rfl, rfl, fun h => by simp at h⟩ kP sP ?_
  rintro ⟨k, t⟩ ⟨h0, h1, h2, h3⟩
  simp only at h0 h1 h2 h3
  refine s_seq <| s_region0 fun ops => oR (rd_bin rfl rfl rfl) <| o_nil <| n_K <| s_seq ?_
  refine s_cond rfl (fun c22 => ?_) (fun c22 => ?_)
  · simp only [decide_eq_true_eq, decide_eq_false_iff_not] at c22
    refine s_skip <| n_K <| s_seq <| s_block <| s_seq <| s_region0 fun ops => oM rfl <| oA rfl <| o_nil <| n_K <| s_seq <| s_region0 fun ops => oA rfl <| o_nil ?_
    refine n_K <| s_seq <| s_region0 fun ops => ?_
    refine o_alloc rfl fun b8 => ?_
    refine o_nil <| n_K <| s_seq <| s_region0 fun ops => oA rfl <| o_nil <| n_K <| s_seq <| s_region0 fun ops => oA rfl <| oA rfl <| o_nil <| n_K <| s_seq ?_
    refine s_seq <| s_region0 fun ops => oM rfl <| o_nil <| n_K <| s_block ?_
    refine sc_eq (G := (b8, true, C [(Sl.nil : Sl Int).val, (Sl.nil : Sl Int).val] tPl) :: ((Sl.nil : Sl Int).hp tI ++ ((Sl.nil : Sl Int).hp tI ++ ((b20, true, C (tabC c.aC t) tTb) :: (t.u.hp tI ++ (t.l.hp tI ++ (chH c ++ []))))))) (by simp only [Sl.hp_nil, List.nil_append]; rfl) ?_
    refine s_loop2 [0, 4, 5, 6, 8, 21] kQ (fun (st : Nat × Sl Int × Sl Int) => [(24, .int .i64 st.1), (7, .int .i64 (scanU c k st.1).last), (9, wv (scanU c k st.1).newest), (10, .int .i64 (scanU c k st.1).at'), (11, .bool (scanU c k st.1).any)]) (fun (st : Nat × Sl Int × Sl Int) => (b8, true, C [st.2.1.val, st.2.2.val] tPl) :: (st.2.1.hp tI ++ (st.2.2.hp tI ++ ((b20, true, C (tabC c.aC t) tTb) :: (t.u.hp tI ++ (t.l.hp tI ++ (chH c ++ []))))))) (fun (st : Nat × Sl Int × Sl Int) => st.1 ≤ 8 ∧ scOk (scanU c k st.1) st.2.1 st.2.2 ∧ (0 < st.1 → mayE c 0 0 = 0)) (fun (st : Nat × Sl Int × Sl Int) => 8 - st.1) ((0, .nil, .nil)) ⟨Nat.zero_le _, ⟨rfl, rfl⟩, fun h => by simp at h⟩ kP sP ?_
    rintro ⟨i, u, l⟩ ⟨k0, k1, k2⟩
    simp only at k0 k1 k2
    refine s_seq <| s_region0 fun ops => oR (rd_bin rfl rfl rfl) <| o_nil <| n_K <| s_seq ?_
    refine s_cond rfl (fun c25 => ?_) (fun c25 => ?_)
    · simp only [decide_eq_true_eq, decide_eq_false_iff_not] at c25
      have hms : mayE c k i = mayE c 0 0 := may_same hb.1 (by omega) (by omega)
      have hsc : scanU c k (i + 1) = scan1 c k i (scanU c k i) := rfl
      refine s_skip <| n_K <| s_seq <| s_block <| s_seq <| s_region0 fun ops => oM rfl <| oA rfl <| o_nil <| n_K <| s_seq <| s_region0 fun ops => oM rfl <| oM rfl ?_
      refine oM rfl ?_
      refine c_is rfl (read_fn) sP rfl aQ ?_
      refine oM rfl <| oE rfl rfl <| oE rfl rfl ?_
      refine o_alloc rfl fun b13 => ?_
      rw [zeroP_eq]
      first | refine o_store rfl rfl uD (vc_vb) (vbc_len) (spl_vb (by first | exact vbc_len | exact List.length_replicate ..)) ?_ | refine o_store rfl rfl uD rfl rfl rfl ?_
      refine oA rfl <| o_nil <| n_K <| s_seq <| s_seq <| s_region0 fun ops => oM rfl <| oR (rd_bin rfl rfl rfl) <| o_nil <| n_K ?_
      refine s_cond rfl (fun c35 => ?_) (fun c35 => ?_)
      · skip
        have hne : ¬ mayE c 0 0 = 0 := (by rw [← hms]; simpa using c35)
        have hres : openC c = (mayE c 0 0, ts0) := (by unfold openC; rw [if_pos hne])
        refine s_seq <| s_region0 fun ops => oM rfl <| oA rfl <| oA rfl <| o_nil <| n_K <| s_ret <| r_K <| r_blk <| r_K <| r_K <| r_blk <| r_K ?_
        refine r_blk <| r_K <| r_K <| r_blk <| r_K ?_
        exact leaf_r (rets2 Tryz.results55 (rv_tmp rfl) (rv_tmp rfl)) (by unfold OpenR; rw [if_neg (by rw [hres]; exact hne), hres, hms]; exact ⟨rfl, rfl⟩) sP
      · skip
        have hz : mayE c 0 0 = 0 := (by rw [← hms]; simpa using c35)
        refine s_skip <| n_K <| s_seq <| s_seq <| s_region0 fun ops => ?_
        refine oR (rd_ldA rfl mM (by first | exact cut_vb | rfl)) ?_
        refine c_is rfl (blankp_fn) sP rfl aQ ?_
        refine oR (rd_not rfl) <| o_nil <| n_K ?_
        refine s_cond rfl (fun c39 => ?_) (fun c39 => ?_)
        · skip
          have hla : (if blankB (readP c k i) = true then (scanU c k i).last else (i : Int) + 1) = (i : Int) + 1 := (by rw [if_neg (by simpa using c39)])
          refine s_region0 fun ops => oM rfl ?_
          refine oR (rd_add64 rfl rfl (by omega)) ?_
          refine oA rfl <| o_nil <| n_K <| s_seq ?_
          refine s_drawT [] [(11, (.fork [(0, false), (1, false)] 2 (.fork [] 3 (.one [(4, false), (5, false), (6, false), (7, false), (8, true), (9, true), (10, false)]) 8 (.one [(3, true), (4, false), (5, false), (6, false), (7, false), (9, true), (10, false)])) 8 (.one [(2, true), (3, true), (4, false), (5, false), (6, false), (7, false), (9, true), (10, false)]))), (12, (.one [(11, false)]))] (by kernel_rfl) rfl fun ops w0 H0 y => ?_
          refine pt_all ?_
          refine t_fork ?_ rfl
          refine xR (rd_ldA rfl mM (by first | exact cut_vb | rfl)) ?_
          refine xM rfl ?_
          refine x_nil ⟨⟨_, sP⟩, ?_, ?_⟩
          refine x_so ?_
          refine c_is rfl (blocks_fn) sP rfl aQ ?_
          refine o_nil ⟨rfl, ⟨_, sP⟩, ?_⟩
          refine x_nil ?_
          refine t_fork ?_ rfl
          refine x_nil ⟨⟨_, sP⟩, ?_, ?_⟩
          refine x_so ?_
          refine c_ex rfl (read_fn2 (q := readP c k i) (n := c.blocks.length)) sP rfl fun v46 Y46 h46 => ?_
          obtain ⟨u46, l46, rfl, rfl, hu46, hl46, ou46, ol46⟩ := h46
          refine so_ap aQ ?_
          refine o_nil ⟨rfl, ⟨_, sP⟩, ?_⟩
          refine x_nil ?_
          refine t_one ?_
          refine xM rfl <| xE rfl rfl <| xE rfl rfl <| xE rfl rfl <| x_so ?_
          refine o_alloc rfl fun b15 => ?_
          refine o_nil ⟨rfl, ⟨_, sP⟩, ?_⟩
          refine x_so ?_
          refine o_store rfl rfl uD rfl rfl rfl ?_
          refine o_nil ⟨rfl, ⟨_, sP⟩, ?_⟩
          refine xA rfl <| x_nil ?_
          rotate_left
          refine x_so ?_
          refine o_alloc rfl fun b15 => ?_
          refine o_nil ⟨rfl, ⟨_, sP⟩, ?_⟩
          refine x_nil ?_
          refine t_one ?_
          refine x_so ?_
          refine c_ex rfl (read_fn2 (q := readP c k i) (n := c.blocks.length)) sP rfl fun v46 Y46 h46 => ?_
          obtain ⟨u46, l46, rfl, rfl, hu46, hl46, ou46, ol46⟩ := h46
          refine so_ap aQ ?_
          refine o_nil ⟨rfl, ⟨_, sP⟩, ?_⟩
          refine xM rfl <| xE rfl rfl <| xE rfl rfl <| xE rfl rfl <| x_so ?_
          refine o_store rfl rfl uD rfl rfl rfl ?_
          refine o_nil ⟨rfl, ⟨_, sP⟩, ?_⟩
          refine xA rfl <| x_nil ?_
          rotate_left
          refine x_so ?_
          refine o_alloc rfl fun b15 => ?_
          refine o_nil ⟨rfl, ⟨_, sP⟩, ?_⟩
          refine x_nil ?_
          refine t_one ?_
          refine x_so ?_
          refine c_is rfl (blocks_fn) sP rfl aQ ?_
          refine o_nil ⟨rfl, ⟨_, sP⟩, ?_⟩
          refine x_so ?_
          refine c_ex rfl (read_fn2 (q := readP c k i) (n := c.blocks.length)) sP rfl fun v46 Y46 h46 => ?_
          obtain ⟨u46, l46, rfl, rfl, hu46, hl46, ou46, ol46⟩ := h46
          refine so_ap aQ ?_
          refine o_nil ⟨rfl, ⟨_, sP⟩, ?_⟩
          refine xM rfl <| xE rfl rfl <| xE rfl rfl <| xE rfl rfl <| x_so ?_
          refine o_store rfl rfl uD rfl rfl rfl ?_
          refine o_nil ⟨rfl, ⟨_, sP⟩, ?_⟩
          refine xA rfl <| x_nil ?_
          rotate_left
          all_goals
            refine pt_all ?_
            refine t_one ?_
            refine xA rfl <| x_nil ?_
            refine pt_end ?_
            refine n_K <| s_seq ?_
            refine s_region [(1, 51), (4, 54)] rfl fun ops y => ?_
            refine oM rfl <| oM rfl ?_
            refine' o_and (j := 1) (k := 7) y rfl rfl rfl rfl rfl rfl rfl (fun hg51 => ?_) ?_
            rotate_left
            · try (simp at hg51; show _)
              refine o_g y rfl rfl ?_
              refine oM rfl ?_
              refine o_g y rfl rfl ?_
              refine oR (rd_not rfl) ?_
              refine o_g y rfl rfl ?_
              refine oM rfl ?_
              refine' o_or (j := 4) (k := 3) y rfl rfl rfl rfl rfl rfl rfl (fun hg54 => ?_) ?_
              rotate_left
              · try (simp at hg54; show _)
                refine o_g y rfl rfl ?_
                refine oM rfl ?_
                refine o_g y rfl rfl ?_
                refine oM rfl ?_
                refine o_g y rfl rfl ?_
                refine oR (rd_bin rfl rfl rfl) ?_
                exact o_nil ⟨rfl, rfl, ⟨_, sP⟩⟩
              exact o_nil ⟨rfl, rfl, ⟨_, sP⟩⟩
            refine o_nil <| n_K ?_
            refine s_cond rfl (fun c59 => ?_) (fun c59 => ?_)
            · skip
              have hs1 : scanU c k (i + 1) = ⟨(if blankB (readP c k i) = true then (scanU c k i).last else (i : Int) + 1), (readT (readP c k i) c.blocks.length).1, (readT (readP c k i) c.blocks.length).2.1, (readT (readP c k i) c.blocks.length).2.2.1, i, true⟩ := (by rw [hsc]; unfold scan1; simp only []; rw [if_pos c59])
              rw [hla] at hs1
              refine s_region0 fun ops => ?_
              refine oR (rd_ldA rfl mM rfl) ?_
              refine oM rfl <| oM rfl ?_
              refine o_store rfl rfl uD rfl rfl rfl ?_
              refine oA rfl <| oA rfl <| oA rfl <| o_nil <| n_blk <| n_K <| s_region0 fun ops => ?_
              refine oR (rd_add64 rfl rfl (by omega)) ?_
              refine oM rfl <| o_nil <| n_K ?_
              first | refine ⟨(i + 1, u, l), ⟨by simp only; omega, by rw [hs1]; exact k1, fun _ => hz⟩, by simp only; omega, (by rw [hs1]; exact kP), kP, _, sP⟩ | refine ⟨(i + 1, u46, l46), ⟨by simp only; omega, by rw [hs1]; exact ⟨hu46, hl46⟩, fun _ => hz⟩, by simp only; omega, (by rw [hs1]; exact kP), kP, _, sP⟩
            · skip
              have hs1 : scanU c k (i + 1) = { scanU c k i with last := (if blankB (readP c k i) = true then (scanU c k i).last else (i : Int) + 1) } := (by rw [hsc]; unfold scan1; simp only []; rw [if_neg (by rw [c59]; exact Bool.false_ne_true)])
              rw [hla] at hs1
              refine s_skip <| n_blk <| n_K <| s_region0 fun ops => ?_
              refine oR (rd_add64 rfl rfl (by omega)) ?_
              refine oM rfl <| o_nil <| n_K ?_
              first | refine ⟨(i + 1, u, l), ⟨by simp only; omega, by rw [hs1]; exact k1, fun _ => hz⟩, by simp only; omega, (by rw [hs1]; exact kP), kP, _, sP⟩ | refine ⟨(i + 1, u46, l46), ⟨by simp only; omega, by rw [hs1]; exact ⟨hu46, hl46⟩, fun _ => hz⟩, by simp only; omega, (by rw [hs1]; exact kP), kP, _, sP⟩
        · skip
          have hla : (if blankB (readP c k i) = true then (scanU c k i).last else (i : Int) + 1) = (scanU c k i).last := (by rw [if_pos (by simpa using c39)])
          refine s_skip <| n_K <| s_seq ?_
          refine s_drawT [] [(11, (.fork [(0, false), (1, false)] 2 (.fork [] 3 (.one [(4, false), (5, false), (6, false), (7, false), (8, true), (9, true), (10, false)]) 8 (.one [(3, true), (4, false), (5, false), (6, false), (7, false), (9, true), (10, false)])) 8 (.one [(2, true), (3, true), (4, false), (5, false), (6, false), (7, false), (9, true), (10, false)]))), (12, (.one [(11, false)]))] (by kernel_rfl) rfl fun ops w0 H0 y => ?_
          refine pt_all ?_
          refine t_fork ?_ rfl
          refine xR (rd_ldA rfl mM (by first | exact cut_vb | rfl)) ?_
          refine xM rfl ?_
          refine x_nil ⟨⟨_, sP⟩, ?_, ?_⟩
          refine x_so ?_
          refine c_is rfl (blocks_fn) sP rfl aQ ?_
          refine o_nil ⟨rfl, ⟨_, sP⟩, ?_⟩
          refine x_nil ?_
          refine t_fork ?_ rfl
          refine x_nil ⟨⟨_, sP⟩, ?_, ?_⟩
          refine x_so ?_
          refine c_ex rfl (read_fn2 (q := readP c k i) (n := c.blocks.length)) sP rfl fun v46 Y46 h46 => ?_
          obtain ⟨u46, l46, rfl, rfl, hu46, hl46, ou46, ol46⟩ := h46
          refine so_ap aQ ?_
          refine o_nil ⟨rfl, ⟨_, sP⟩, ?_⟩
          refine x_nil ?_
          refine t_one ?_
          refine xM rfl <| xE rfl rfl <| xE rfl rfl <| xE rfl rfl <| x_so ?_
          refine o_alloc rfl fun b15 => ?_
          refine o_nil ⟨rfl, ⟨_, sP⟩, ?_⟩
          refine x_so ?_
          refine o_store rfl rfl uD rfl rfl rfl ?_
          refine o_nil ⟨rfl, ⟨_, sP⟩, ?_⟩
          refine xA rfl <| x_nil ?_
          rotate_left
          refine x_so ?_
          refine o_alloc rfl fun b15 => ?_
          refine o_nil ⟨rfl, ⟨_, sP⟩, ?_⟩
          refine x_nil ?_
          refine t_one ?_
          refine x_so ?_
          refine c_ex rfl (read_fn2 (q := readP c k i) (n := c.blocks.length)) sP rfl fun v46 Y46 h46 => ?_
          obtain ⟨u46, l46, rfl, rfl, hu46, hl46, ou46, ol46⟩ := h46
          refine so_ap aQ ?_
          refine o_nil ⟨rfl, ⟨_, sP⟩, ?_⟩
          refine xM rfl <| xE rfl rfl <| xE rfl rfl <| xE rfl rfl <| x_so ?_
          refine o_store rfl rfl uD rfl rfl rfl ?_
          refine o_nil ⟨rfl, ⟨_, sP⟩, ?_⟩
          refine xA rfl <| x_nil ?_
          rotate_left
          refine x_so ?_
          refine o_alloc rfl fun b15 => ?_
          refine o_nil ⟨rfl, ⟨_, sP⟩, ?_⟩
          refine x_nil ?_
          refine t_one ?_
          refine x_so ?_
          refine c_is rfl (blocks_fn) sP rfl aQ ?_
          refine o_nil ⟨rfl, ⟨_, sP⟩, ?_⟩
          refine x_so ?_
          refine c_ex rfl (read_fn2 (q := readP c k i) (n := c.blocks.length)) sP rfl fun v46 Y46 h46 => ?_
          obtain ⟨u46, l46, rfl, rfl, hu46, hl46, ou46, ol46⟩ := h46
          refine so_ap aQ ?_
          refine o_nil ⟨rfl, ⟨_, sP⟩, ?_⟩
          refine xM rfl <| xE rfl rfl <| xE rfl rfl <| xE rfl rfl <| x_so ?_
          refine o_store rfl rfl uD rfl rfl rfl ?_
          refine o_nil ⟨rfl, ⟨_, sP⟩, ?_⟩
          refine xA rfl <| x_nil ?_
          rotate_left
          all_goals
            refine pt_all ?_
            refine t_one ?_
            refine xA rfl <| x_nil ?_
            refine pt_end ?_
            refine n_K <| s_seq ?_
            refine s_region [(1, 51), (4, 54)] rfl fun ops y => ?_
            refine oM rfl <| oM rfl ?_
            refine' o_and (j := 1) (k := 7) y rfl rfl rfl rfl rfl rfl rfl (fun hg51 => ?_) ?_
            rotate_left
            · try (simp at hg51; show _)
              refine o_g y rfl rfl ?_
              refine oM rfl ?_
              refine o_g y rfl rfl ?_
              refine oR (rd_not rfl) ?_
              refine o_g y rfl rfl ?_
              refine oM rfl ?_
              refine' o_or (j := 4) (k := 3) y rfl rfl rfl rfl rfl rfl rfl (fun hg54 => ?_) ?_
              rotate_left
              · try (simp at hg54; show _)
                refine o_g y rfl rfl ?_
                refine oM rfl ?_
                refine o_g y rfl rfl ?_
                refine oM rfl ?_
                refine o_g y rfl rfl ?_
                refine oR (rd_bin rfl rfl rfl) ?_
                exact o_nil ⟨rfl, rfl, ⟨_, sP⟩⟩
              exact o_nil ⟨rfl, rfl, ⟨_, sP⟩⟩
            refine o_nil <| n_K ?_
            refine s_cond rfl (fun c59 => ?_) (fun c59 => ?_)
            · skip
              have hs1 : scanU c k (i + 1) = ⟨(if blankB (readP c k i) = true then (scanU c k i).last else (i : Int) + 1), (readT (readP c k i) c.blocks.length).1, (readT (readP c k i) c.blocks.length).2.1, (readT (readP c k i) c.blocks.length).2.2.1, i, true⟩ := (by rw [hsc]; unfold scan1; simp only []; rw [if_pos c59])
              rw [hla] at hs1
              refine s_region0 fun ops => ?_
              refine oR (rd_ldA rfl mM rfl) ?_
              refine oM rfl <| oM rfl ?_
              refine o_store rfl rfl uD rfl rfl rfl ?_
              refine oA rfl <| oA rfl <| oA rfl <| o_nil <| n_blk <| n_K <| s_region0 fun ops => ?_
              refine oR (rd_add64 rfl rfl (by omega)) ?_
              refine oM rfl <| o_nil <| n_K ?_
              first | refine ⟨(i + 1, u, l), ⟨by simp only; omega, by rw [hs1]; exact k1, fun _ => hz⟩, by simp only; omega, (by rw [hs1]; exact kP), kP, _, sP⟩ | refine ⟨(i + 1, u46, l46), ⟨by simp only; omega, by rw [hs1]; exact ⟨hu46, hl46⟩, fun _ => hz⟩, by simp only; omega, (by rw [hs1]; exact kP), kP, _, sP⟩
            · skip
              have hs1 : scanU c k (i + 1) = { scanU c k i with last := (if blankB (readP c k i) = true then (scanU c k i).last else (i : Int) + 1) } := (by rw [hsc]; unfold scan1; simp only []; rw [if_neg (by rw [c59]; exact Bool.false_ne_true)])
              rw [hla] at hs1
              refine s_skip <| n_blk <| n_K <| s_region0 fun ops => ?_
              refine oR (rd_add64 rfl rfl (by omega)) ?_
              refine oM rfl <| o_nil <| n_K ?_
              first | refine ⟨(i + 1, u, l), ⟨by simp only; omega, by rw [hs1]; exact k1, fun _ => hz⟩, by simp only; omega, (by rw [hs1]; exact kP), kP, _, sP⟩ | refine ⟨(i + 1, u46, l46), ⟨by simp only; omega, by rw [hs1]; exact ⟨hu46, hl46⟩, fun _ => hz⟩, by simp only; omega, (by rw [hs1]; exact kP), kP, _, sP⟩
    · simp only [decide_eq_true_eq, decide_eq_false_iff_not] at c25
      have hi8 : i = 8 := (by omega)
      subst hi8
      have hz : mayE c 0 0 = 0 := k2 (by omega)
      have hop : openU c (k + 1) = open1 c k (openU c k) := rfl
      rw [show openU c k = ((openU c k).1, (openU c k).2) from rfl, ← h1] at hop
      refine s_exit <| x_K <| x_K <| x_blk <| n_K <| s_seq ?_
      refine s_region [(1, 65), (4, 68)] rfl fun ops y => ?_
      refine oM rfl <| oM rfl ?_
      refine' o_and (j := 1) (k := 10) y rfl rfl rfl rfl rfl rfl rfl (fun hg65 => ?_) ?_
      rotate_left
      · try (simp at hg65; show _)
        refine o_g y rfl rfl ?_
        refine oM rfl ?_
        refine o_g y rfl rfl ?_
        refine oR (rd_not rfl) ?_
        refine o_g y rfl rfl ?_
        refine oM rfl ?_
        refine' o_or (j := 4) (k := 6) y rfl rfl rfl rfl rfl rfl rfl (fun hg68 => ?_) ?_
        rotate_left
        · try (simp at hg68; show _)
          refine o_g y rfl rfl ?_
          refine oM rfl ?_
          refine o_g y rfl rfl ?_
          refine oM rfl ?_
          refine o_g y rfl rfl ?_
          refine oN rfl ?_
          refine o_g y rfl rfl ?_
          refine oF rfl ?_
          refine o_g y rfl rfl ?_
          refine oR (rd_ld rfl mM rfl) ?_
          refine o_g y rfl rfl ?_
          refine oR (rd_bin rfl rfl rfl) ?_
          exact o_nil ⟨rfl, rfl, ⟨_, sP⟩⟩
        exact o_nil ⟨rfl, rfl, ⟨_, sP⟩⟩
      refine o_nil <| n_K ?_
      refine s_cond rfl (fun c76 => ?_) (fun c76 => ?_)
      · skip
        have ho1 : openU c (k + 1) = (⟨(scanU c k 8).uses, (scanU c k 8).lost, (scanU c k 8).newest, k, (scanU c k 8).last, (scanU c k 8).at'⟩, true) := (by rw [hop]; exact if_pos c76)
        refine s_region0 fun ops => oM rfl <| oM rfl <| oM rfl <| oM rfl <| oM rfl ?_
        refine oR (rd_ldA rfl mM rfl) ?_
        refine oM rfl <| oM rfl <| oM rfl <| oM rfl <| oN rfl <| oF rfl ?_
        refine o_store rfl rfl uD rfl rfl rfl ?_
        refine oN rfl <| oF rfl ?_
        refine o_store rfl rfl uD rfl rfl rfl ?_
        refine oN rfl <| oF rfl ?_
        refine o_store rfl rfl uD rfl rfl rfl ?_
        refine oN rfl <| oF rfl ?_
        refine o_store rfl rfl uD rfl rfl rfl ?_
        refine oN rfl <| oF rfl ?_
        refine o_store rfl rfl uD rfl rfl rfl ?_
        refine oA rfl <| o_nil <| n_blk <| n_K <| s_region0 fun ops => ?_
        refine oR (rd_add64 rfl rfl (by omega)) ?_
        refine oM rfl <| o_nil <| n_K ?_
        first | refine ⟨(k + 1, t), ⟨by simp only; omega, by rw [ho1]; exact h1, h2, fun _ => hz⟩, by simp only; omega, (by rw [ho1]; exact kP), kP, _, sP⟩ | refine ⟨(k + 1, ⟨b20, u, l, (scanU c k 8).newest, k, (scanU c k 8).last, (scanU c k 8).at'⟩), ⟨by simp only; omega, by rw [ho1]; show TS.mk _ _ _ _ _ _ = _; rw [k1.1, k1.2], rfl, fun _ => hz⟩, by simp only; omega, (by rw [ho1]; exact kP), kP, _, sP⟩
      · skip
        have ho1 : openU c (k + 1) = openU c k := (by rw [hop]; refine (if_neg (by intro h; have h' := h.symm.trans c76; cases h')).trans ?_; rw [h1])
        refine s_skip <| n_blk <| n_K <| s_region0 fun ops => ?_
        refine oR (rd_add64 rfl rfl (by omega)) ?_
        refine oM rfl <| o_nil <| n_K ?_
        first | refine ⟨(k + 1, t), ⟨by simp only; omega, by rw [ho1]; exact h1, h2, fun _ => hz⟩, by simp only; omega, (by rw [ho1]; exact kP), kP, _, sP⟩ | refine ⟨(k + 1, ⟨b20, u, l, (scanU c k 8).newest, k, (scanU c k 8).last, (scanU c k 8).at'⟩), ⟨by simp only; omega, by rw [ho1]; show TS.mk _ _ _ _ _ _ = _; rw [k1.1, k1.2], rfl, fun _ => hz⟩, by simp only; omega, (by rw [ho1]; exact kP), kP, _, sP⟩
  · simp only [decide_eq_true_eq, decide_eq_false_iff_not] at c22
    have hk2 : k = 2 := (by omega)
    subst hk2
    have hz : mayE c 0 0 = 0 := h3 (by omega)
    refine s_exit <| x_K <| x_K <| x_blk <| n_K <| s_seq <| s_seq <| s_region0 fun ops => oM rfl <| oR (rd_not rfl) <| o_nil <| n_K ?_
    refine s_cond rfl (fun c99 => ?_) (fun c99 => ?_)
    · skip
      have hres : openC c = (35, ts0) := (by unfold openC; rw [if_neg (by rw [hz]; simp), if_neg (by simpa using c99)])
      refine s_seq <| s_region0 fun ops => oA rfl <| oA rfl <| o_nil <| n_K <| s_ret <| r_K ?_
      exact leaf_r (rets2 Tryz.results55 (rv_tmp rfl) (rv_tmp rfl)) (by unfold OpenR; rw [if_neg (by rw [hres]; decide), hres]; exact ⟨rfl, rfl⟩) sP
    · skip
      have hres : openC c = (0, (openU c 2).1) := (by unfold openC; rw [if_neg (by rw [hz]; simp), if_pos (by simpa using c99)])
      refine s_skip <| n_K <| s_seq <| s_region0 fun ops => oM rfl <| oA rfl <| oA rfl <| o_nil <| n_K <| s_ret ?_
      exact leaf_r (rets2 Tryz.results55 (rv_tmp rfl) (rv_tmp rfl)) (by unfold OpenR; rw [if_pos (by rw [hres])]; exact ⟨t, by rw [h2], rfl, by rw [hres, h1]⟩) (by rw [tabH_eq, h2]; simp only [List.cons_append, List.append_assoc, List.nil_append]; exact sP)
theorem open2_fn {c : Chip} (hb : 2 ≤ c.blocks.length ∧ c.blocks.length ≤ 1000) : Does Tryz.prog 55 [ptr c.aC] (chH c) (fun v H => (∃ t : Tab, v = .tuple #[ptr t.b, .int .i64 0] ∧ H = tabH c.aC t ++ (chH c ++ []) ∧ t.ts = (openC c).2 ∧ (openC c).1 = 0) ∨ (v = .tuple #[.pointer none, .int .i64 (openC c).1] ∧ H = chH c ++ [] ∧ (openC c).1 ≠ 0)) :=
  (open_fn hb).mono fun v H h => by
    unfold OpenR at h
    split at h
    · rename_i h0; obtain ⟨t, h1, h2, h3⟩ := h; exact .inl ⟨t, h1, h2, h3, h0⟩
    · rename_i h0; exact .inr ⟨h.1, h.2, h0⟩
/-- What Format gives. -/
def FormatR (a : Nat) (c : Chip) (v : Value) (H : Hp) : Prop :=
  (∃ t : Tab, v = .tuple #[ptr t.b, .int .i64 0] ∧ H = tabH a t ++ (chH (formatC c).2.2 ++ []) ∧ t.ts = (formatC c).2.1 ∧ (formatC c).1 = 0) ∨ (v = .tuple #[.pointer none, .int .i64 (formatC c).1] ∧ H = chH (formatC c).2.2 ++ [] ∧ (formatC c).1 ≠ 0)
theorem format_fn {c : Chip} (hb : 2 ≤ c.blocks.length ∧ c.blocks.length ≤ 1000) : Does Tryz.prog 42 [ptr c.aC] (chH c) (FormatR c.aC c) := by
  refine fn_enter (n := 124) Tryz.func42 Tryz.ntmps42 rfl (Nat.le_of_ble_eq_true rfl) <| s_seq <| s_region0 fun ops => oA rfl <| oA rfl <| o_nil <| n_K <| s_seq <| s_seq <| s_region0 fun ops => oM rfl ?_
  refine c_is rfl (answers_fn) sP rfl aQ ?_
  refine oA rfl <| o_nil <| n_K <| s_seq <| s_region0 fun ops => oM rfl <| oR (rd_bin rfl rfl rfl) <| o_nil <| n_K ?_
  refine s_cond rfl (fun c14 => ?_) (fun c14 => ?_)
  · skip
    have hm : ¬ mayE c 0 0 = 0 := (by simpa using c14)
    have hres : formatC c = (mayE c 0 0, ts0, c) := (by unfold formatC; rw [if_pos hm])
    refine s_seq <| s_region0 fun ops => oM rfl <| oA rfl <| oA rfl <| o_nil <| n_K <| s_ret <| r_K ?_
    exact leaf_r (rets2 Tryz.results42 (rv_tmp rfl) (rv_tmp rfl)) (by right; rw [hres]; exact ⟨rfl, rfl, hm⟩) sP
  · skip
    have hm : mayE c 0 0 = 0 := (by simpa using c14)
    refine s_skip <| n_K <| s_seq <| s_region0 fun ops => oM rfl <| oR (rd_build_s rfl rfl) ?_
    refine o_box rfl rfl fun b18 => ?_
    refine oA rfl <| o_nil <| n_K <| s_seq <| s_seq <| s_region0 fun ops => oM rfl ?_
    refine c_ex rfl (open2_fn hb) sP rfl fun v21 Y21 h21 => ?_
    rcases h21 with ⟨t', rfl, rfl, ht, ho⟩ | ⟨rfl, rfl, ho⟩
    all_goals
      refine so_ap aQ ?_
      refine oM rfl <| oE rfl rfl <| oE rfl rfl <| oA rfl <| oA rfl <| o_nil <| n_K <| s_seq <| s_region0 fun ops => oM rfl <| oR (rd_bin rfl rfl rfl) <| o_nil <| n_K ?_
      refine s_cond rfl (fun c25 => ?_) (fun c25 => ?_)
      · skip
        try (exfalso; (simp at c25; exact ho c25); done)
        all_goals
          have hv : fmt0 c = (t'.version, t'.area, t'.next) := (by unfold fmt0; rw [if_pos ho, ← ht]; rfl)
          rw [tabH_eq]
          simp only [List.cons_append, List.append_assoc, List.nil_append]
          refine s_drawM [] [0, 1, 2, 3, 4, 5, 7, 8, 9, 11, 12, 13] [[(6, false), (10, false), (14, false)], [(15, false)], [(16, false)], [(17, true)], [(18, false)], [(19, false)], [(20, true)], [(21, false)], [(22, false)], [(23, true)]] (by kernel_rfl) rfl rfl fun ops w0 H0 y => ?_
          unfold SPre
          refine xM rfl <| xM rfl <| xM rfl <| xM rfl <| xN rfl <| xF rfl <| xM rfl <| xN rfl <| xF rfl <| xM rfl <| xN rfl <| xF rfl <| x_nil <| p_all ?_
          refine xR (rd_ld rfl mM rfl) ?_
          refine xR (rd_ld rfl mM rfl) ?_
          refine xR (rd_ld rfl mM rfl) ?_
          refine x_nil <| p_all <| xN rfl <| x_nil <| p_all <| xF rfl <| x_nil <| p_none <| x_so ?_
          refine o_store rfl rfl uD rfl rfl rfl ?_
          refine o_nil ⟨rfl, ⟨_, sP⟩, ?_⟩
          refine x_nil <| p_all <| xN rfl <| x_nil <| p_all <| xF rfl <| x_nil <| p_none <| x_so ?_
          refine o_store rfl rfl uD rfl rfl rfl ?_
          refine o_nil ⟨rfl, ⟨_, sP⟩, ?_⟩
          refine x_nil <| p_all <| xN rfl <| x_nil <| p_all <| xF rfl <| x_nil <| p_none <| x_so ?_
          refine o_store rfl rfl uD rfl rfl rfl ?_
          refine o_nil ⟨rfl, ⟨_, sP⟩, ?_⟩
          refine x_nil <| p_end <| n_K <| s_seq <| s_region0 fun ops => oM rfl ?_
          refine c_is rfl (blocks_fn) sP rfl aQ ?_
          refine oR (rd_bin rfl rfl rfl) <| oR (rd_bin rfl rfl rfl) <| oA rfl <| o_nil <| n_K <| s_seq <| s_seq <| s_region0 fun ops => oM rfl ?_
          refine c_is rfl (blocks_fn) sP rfl aQ ?_
          refine oM rfl <| o_nil <| n_K <| s_block ?_
          refine sc_eq (nil_hp (α := Int) (T := tI)) ?_
          refine sc_eq (nil_hp (α := Int) (T := tI)) ?_
          have hfr := fmt0_range c
          refine s_loop2 [0, 5, 8, 52] kQ (fun (st : Nat × Sl Int × Sl Int) => [(53, .int .i64 st.1)]) (fun (st : Nat × Sl Int × Sl Int) => (b18, true, C (tabC c.aC ⟨b18, st.2.1, st.2.2, (fmt0 c).1, (fmt0 c).2.1, (fmt0 c).2.2, 0⟩) tTb) :: (st.2.1.hp tI ++ (st.2.2.hp tI ++ (chH c ++ [])))) (fun (st : Nat × Sl Int × Sl Int) => st.1 ≤ c.blocks.length ∧ st.2.1.list = (fmtU c (fmtSize c) st.1).1 ∧ st.2.2.list = (fmtU c (fmtSize c) st.1).2 ∧ st.2.1.isOwn = true ∧ st.2.2.isOwn = true) (fun (st : Nat × Sl Int × Sl Int) => c.blocks.length - st.1) ((0, .nil, .nil)) ⟨Nat.zero_le _, rfl, rfl, rfl, rfl⟩ kP (by rw [hv]; exact sP) ?_
          rintro ⟨i, u, l⟩ ⟨h0, h1, h2, h3, h4⟩
          simp only at h0 h1 h2 h3 h4
          have hlen := fmtU_len c (fmtSize c) i
          rw [← h1, ← h2] at hlen
          refine s_seq <| s_region0 fun ops => oR (rd_bin rfl rfl rfl) <| o_nil <| n_K <| s_seq ?_
          refine s_cond rfl (fun c54 => ?_) (fun c54 => ?_)
          · simp only [decide_eq_true_eq, decide_eq_false_iff_not] at c54
            refine s_skip <| n_K <| s_seq <| s_block <| s_seq <| s_region0 fun ops => oM rfl <| oA rfl <| o_nil <| n_K <| s_block <| s_seq <| s_region0 fun ops => oM rfl ?_
            refine oM rfl ?_
            refine c_is rfl (bad_a (c := c) rfl) sP rfl aQ ?_
            refine oA rfl <| o_nil <| n_K ?_
            refine s_cond rfl (fun c56 => ?_) (fun c56 => ?_)
            · skip
              have hf : fmtU c (fmtSize c) (i + 1) = (u.list, l.list ++ [(i : Int)]) := (by show (if badB c i = true then _ else _) = _; rw [if_pos c56, h1, h2])
              refine s_region0 fun ops => oM rfl <| oM rfl <| oN rfl <| oF rfl <| oF rfl ?_
              refine oR (rd_ld rfl mM rfl) ?_
              refine oM rfl ?_
              refine o_bslice_k rfl rfl rfl rfl fun b67 => ?_
              refine o_append_sl (s := l) (new := [(i : Int)]) (m := 1) rfl rfl pL h4 (src_blk (r := true) mM rfl) rfl rfl rfl rfl (by omega) rfl fun s68 hs1 hs2 => ?_
              refine oN rfl <| oF rfl <| oF rfl ?_
              refine o_store rfl rfl uD rfl rfl rfl ?_
              refine o_nil <| n_blk <| n_blk <| n_K <| s_region0 fun ops => ?_
              refine oR (rd_add64 rfl rfl (by omega)) ?_
              refine oM rfl <| o_nil <| n_K ?_
              first | refine ⟨(i + 1, u, l), ⟨by simp only; omega, (congrArg Prod.fst hf).symm, (congrArg Prod.snd hf).symm, h3, h4⟩, by simp only; omega, lZ⟩ | refine ⟨(i + 1, u, s68), ⟨by simp only; omega, (congrArg Prod.fst hf).symm, hs1.trans (congrArg Prod.snd hf).symm, h3, hs2⟩, by simp only; omega, lZ⟩ | refine ⟨(i + 1, s93, l), ⟨by simp only; omega, hs1.trans (congrArg Prod.fst hf).symm, (congrArg Prod.snd hf).symm, hs2, h4⟩, by simp only; omega, lZ⟩
            · skip
              have hf0 : ¬ badB c i = true := (by rw [c56]; exact Bool.false_ne_true)
              refine s_seq ?_
              refine s_region [(2, 75)] rfl fun ops y => ?_
              refine oM rfl <| oR (rd_bin rfl rfl rfl) <| oM rfl ?_
              refine' o_and (j := 2) (k := 8) y rfl rfl rfl rfl rfl rfl rfl (fun hg75 => ?_) ?_
              rotate_left
              · try (simp at hg75; show _)
                refine o_g y rfl rfl ?_
                refine oM rfl ?_
                refine o_g y rfl rfl ?_
                refine oN rfl ?_
                refine o_g y rfl rfl ?_
                refine oF rfl ?_
                refine o_g y rfl rfl ?_
                refine oF rfl ?_
                refine o_g y rfl rfl ?_
                refine oR (rd_ld rfl mM rfl) ?_
                refine o_g y rfl rfl ?_
                refine oR (rd_lenS rfl) ?_
                refine o_g y rfl rfl ?_
                refine oM rfl ?_
                refine o_g y rfl rfl ?_
                refine oR (rd_bin rfl rfl rfl) ?_
                exact o_nil ⟨rfl, rfl, ⟨_, sP⟩⟩
              refine oA rfl <| o_nil <| n_K ?_
              refine s_cond rfl (fun c72 => ?_) (fun c72 => ?_)
              · skip
                have hf : fmtU c (fmtSize c) (i + 1) = (u.list ++ [(i : Int)], l.list) := (by show (if badB c i = true then _ else _) = _; rw [if_neg hf0, ← h1, ← h2]; exact if_pos c72)
                refine s_region0 fun ops => oM rfl <| oM rfl <| oN rfl <| oF rfl <| oF rfl ?_
                refine oR (rd_ld rfl mM rfl) ?_
                refine oM rfl ?_
                refine o_bslice_k rfl rfl rfl rfl fun b92 => ?_
                refine o_append_sl (s := u) (new := [(i : Int)]) (m := 1) rfl rfl pL h3 (src_blk (r := true) mM rfl) rfl rfl rfl rfl (by omega) rfl fun s93 hs1 hs2 => ?_
                refine oN rfl <| oF rfl <| oF rfl ?_
                refine o_store rfl rfl uD rfl rfl rfl ?_
                refine o_nil <| n_blk <| n_blk <| n_K <| s_region0 fun ops => ?_
                refine oR (rd_add64 rfl rfl (by omega)) ?_
                refine oM rfl <| o_nil <| n_K ?_
                first | refine ⟨(i + 1, u, l), ⟨by simp only; omega, (congrArg Prod.fst hf).symm, (congrArg Prod.snd hf).symm, h3, h4⟩, by simp only; omega, lZ⟩ | refine ⟨(i + 1, u, s68), ⟨by simp only; omega, (congrArg Prod.fst hf).symm, hs1.trans (congrArg Prod.snd hf).symm, h3, hs2⟩, by simp only; omega, lZ⟩ | refine ⟨(i + 1, s93, l), ⟨by simp only; omega, hs1.trans (congrArg Prod.fst hf).symm, (congrArg Prod.snd hf).symm, hs2, h4⟩, by simp only; omega, lZ⟩
              · skip
                have hf : fmtU c (fmtSize c) (i + 1) = (u.list, l.list) := (by show (if badB c i = true then _ else _) = _; rw [if_neg hf0, ← h1, ← h2]; refine (if_neg (by intro h; have h' := h.symm.trans c72; cases h')).trans ?_; rw [h1, h2])
                refine s_skip <| n_blk <| n_blk <| n_K <| s_region0 fun ops => ?_
                refine oR (rd_add64 rfl rfl (by omega)) ?_
                refine oM rfl <| o_nil <| n_K ?_
                first | refine ⟨(i + 1, u, l), ⟨by simp only; omega, (congrArg Prod.fst hf).symm, (congrArg Prod.snd hf).symm, h3, h4⟩, by simp only; omega, lZ⟩ | refine ⟨(i + 1, u, s68), ⟨by simp only; omega, (congrArg Prod.fst hf).symm, hs1.trans (congrArg Prod.snd hf).symm, h3, hs2⟩, by simp only; omega, lZ⟩ | refine ⟨(i + 1, s93, l), ⟨by simp only; omega, hs1.trans (congrArg Prod.fst hf).symm, (congrArg Prod.snd hf).symm, hs2, h4⟩, by simp only; omega, lZ⟩
          · simp only [decide_eq_true_eq, decide_eq_false_iff_not] at c54
            have hi : i = c.blocks.length := (by omega)
            subst hi
            have hu : u.list = (fmtT c).uses := h1
            have hl : l.list = (fmtT c).lost := h2
            refine s_exit <| x_K <| x_K <| x_blk <| n_K <| s_seq <| s_seq ?_
            refine s_region [(2, 100), (6, 104)] rfl fun ops y => ?_
            refine oM rfl ?_
            refine c_is rfl (bad_a (c := c) (i := 0) rfl) sP rfl aQ ?_
            refine oM rfl ?_
            refine' o_or (j := 2) (k := 2) y rfl rfl rfl rfl rfl rfl rfl (fun hg100 => ?_) ?_
            rotate_left
            · try (simp at hg100; show _)
              refine o_g y rfl rfl ?_
              refine oM rfl ?_
              refine o_g y rfl rfl ?_
              refine c_is rfl (bad_a (c := c) (i := 1) rfl) sP rfl aQ ?_
              exact o_nil ⟨rfl, rfl, ⟨_, sP⟩⟩
            refine oM rfl ?_
            refine' o_or (j := 6) (k := 8) y rfl rfl rfl rfl rfl rfl rfl (fun hg104 => ?_) ?_
            rotate_left
            · try (simp at hg104; show _)
              refine o_g y rfl rfl ?_
              refine oM rfl ?_
              refine o_g y rfl rfl ?_
              refine oN rfl ?_
              refine o_g y rfl rfl ?_
              refine oF rfl ?_
              refine o_g y rfl rfl ?_
              refine oF rfl ?_
              refine o_g y rfl rfl ?_
              refine oR (rd_ld rfl mM rfl) ?_
              refine o_g y rfl rfl ?_
              refine oR (rd_lenS rfl) ?_
              refine o_g y rfl rfl ?_
              refine oM rfl ?_
              refine o_g y rfl rfl ?_
              refine oR (rd_bin rfl rfl rfl) ?_
              exact o_nil ⟨rfl, rfl, ⟨_, sP⟩⟩
            refine o_nil <| n_K ?_
            refine s_cond rfl (fun c113 => ?_) (fun c113 => ?_)
            · skip
              have hres : formatC c = (34, ts0, c) := (by unfold formatC; rw [if_neg (by rw [hm]; simp), if_pos (by unfold fmtBad; rw [← hu]; exact c113)])
              refine s_seq <| s_region0 fun ops => oA rfl <| oA rfl <| o_nil <| n_K <| s_ret <| r_K ?_
              exact leaf_r (rets2 Tryz.results42 (rv_tmp rfl) (rv_tmp rfl)) (by right; rw [hres]; exact ⟨rfl, rfl, by simp⟩) sP
            · skip
              have hnb : ¬ fmtBad c = true := (by unfold fmtBad; rw [← hu]; intro h; have h' := h.symm.trans c113; cases h')
              have hT : Tab.ts ⟨b18, u, l, (fmt0 c).1, (fmt0 c).2.1, (fmt0 c).2.2, 0⟩ = fmtT c := (by show TS.mk _ _ _ _ _ _ = _; rw [hu, hl]; rfl)
              refine s_skip <| n_K <| s_seq <| s_seq <| s_region0 fun ops => oM rfl <| oM rfl <| oN rfl <| oF rfl ?_
              refine oR (rd_ldA rfl mM rfl) ?_
              refine c_ex rfl (keep2_fn (c := c) (a := c.aC) (t := ⟨b18, u, l, (fmt0 c).1, (fmt0 c).2.1, (fmt0 c).2.2, 0⟩) (u := u) (l := l) rfl (by omega) (by omega) hfr.2.1 hfr.1) sP rfl fun v119 Y119 h119 => ?_
              rcases h119 with ⟨t2, e1, e2, e3, rfl, rfl, e4, e5⟩ | ⟨e, rfl, e1, rfl, e4, e5⟩
              all_goals
                refine so_ap aQ ?_
                refine oA rfl <| o_nil <| n_K <| s_seq <| s_region0 fun ops => oM rfl <| oR (rd_bin rfl rfl rfl) <| o_nil <| n_K ?_
                refine s_cond rfl (fun c121 => ?_) (fun c121 => ?_)
                · skip
                  try (exfalso; (simp at c121); done)
                  all_goals
                    refine s_seq <| s_region0 fun ops => oM rfl <| oA rfl <| oA rfl <| o_nil <| n_K <| s_ret <| r_K ?_
                    exact leaf_r (rets2 Tryz.results42 (rv_tmp rfl) (rv_tmp rfl)) (by rw [hT, hu, hl] at e4; have hres : formatC c = (e, ts0, (keepC (fmtT c) (fmtT c).uses (fmtT c).lost c).2.2) := (by unfold formatC; rw [if_neg (by rw [hm]; simp), if_neg hnb, if_pos (by rw [e4]; exact e1), e4]); right; rw [hres]; exact ⟨rfl, rfl, e1⟩) (by rw [hT, hu, hl]; exact sP)
                · skip
                  try (exfalso; (simp at c121; exact e1 c121); done)
                  all_goals
                    refine s_skip <| n_K <| s_seq <| s_region0 fun ops => oM rfl <| oA rfl <| oA rfl <| o_nil <| n_K <| s_ret ?_
                    exact leaf_r (rets2 Tryz.results42 (rv_tmp rfl) (rv_tmp rfl)) (by rw [hT, hu, hl] at e4 e5; have hres : formatC c = keepC (fmtT c) (fmtT c).uses (fmtT c).lost c := (by unfold formatC; rw [if_neg (by rw [hm]; simp), if_neg hnb, if_neg (by rw [e4]; simp)]); left; rw [hres]; exact ⟨t2, by rw [e1], rfl, e5, e4⟩) (by rw [hT, hu, hl, tabH_eq, e2, e3]; simp only [List.cons_append, List.append_assoc, List.nil_append]; exact sP)
      · skip
        try (exfalso; (simp at c25); done)
        all_goals
          have hv : fmt0 c = (0, 0, 0) := (by unfold fmt0; rw [if_neg ho])
          refine s_skip <| n_K <| s_seq <| s_region0 fun ops => oM rfl ?_
          refine c_is rfl (blocks_fn) sP rfl aQ ?_
          refine oR (rd_bin rfl rfl rfl) <| oR (rd_bin rfl rfl rfl) <| oA rfl <| o_nil <| n_K <| s_seq <| s_seq <| s_region0 fun ops => oM rfl ?_
          refine c_is rfl (blocks_fn) sP rfl aQ ?_
          refine oM rfl <| o_nil <| n_K <| s_block ?_
          refine sc_eq (nil_hp (α := Int) (T := tI)) ?_
          refine sc_eq (nil_hp (α := Int) (T := tI)) ?_
          have hfr := fmt0_range c
          refine s_loop2 [0, 5, 8, 52] kQ (fun (st : Nat × Sl Int × Sl Int) => [(53, .int .i64 st.1)]) (fun (st : Nat × Sl Int × Sl Int) => (b18, true, C (tabC c.aC ⟨b18, st.2.1, st.2.2, (fmt0 c).1, (fmt0 c).2.1, (fmt0 c).2.2, 0⟩) tTb) :: (st.2.1.hp tI ++ (st.2.2.hp tI ++ (chH c ++ [])))) (fun (st : Nat × Sl Int × Sl Int) => st.1 ≤ c.blocks.length ∧ st.2.1.list = (fmtU c (fmtSize c) st.1).1 ∧ st.2.2.list = (fmtU c (fmtSize c) st.1).2 ∧ st.2.1.isOwn = true ∧ st.2.2.isOwn = true) (fun (st : Nat × Sl Int × Sl Int) => c.blocks.length - st.1) ((0, .nil, .nil)) ⟨Nat.zero_le _, rfl, rfl, rfl, rfl⟩ kP (by rw [hv]; exact sP) ?_
          rintro ⟨i, u, l⟩ ⟨h0, h1, h2, h3, h4⟩
          simp only at h0 h1 h2 h3 h4
          have hlen := fmtU_len c (fmtSize c) i
          rw [← h1, ← h2] at hlen
          refine s_seq <| s_region0 fun ops => oR (rd_bin rfl rfl rfl) <| o_nil <| n_K <| s_seq ?_
          refine s_cond rfl (fun c54 => ?_) (fun c54 => ?_)
          · simp only [decide_eq_true_eq, decide_eq_false_iff_not] at c54
            refine s_skip <| n_K <| s_seq <| s_block <| s_seq <| s_region0 fun ops => oM rfl <| oA rfl <| o_nil <| n_K <| s_block <| s_seq <| s_region0 fun ops => oM rfl ?_
            refine oM rfl ?_
            refine c_is rfl (bad_a (c := c) rfl) sP rfl aQ ?_
            refine oA rfl <| o_nil <| n_K ?_
            refine s_cond rfl (fun c56 => ?_) (fun c56 => ?_)
            · skip
              have hf : fmtU c (fmtSize c) (i + 1) = (u.list, l.list ++ [(i : Int)]) := (by show (if badB c i = true then _ else _) = _; rw [if_pos c56, h1, h2])
              refine s_region0 fun ops => oM rfl <| oM rfl <| oN rfl <| oF rfl <| oF rfl ?_
              refine oR (rd_ld rfl mM rfl) ?_
              refine oM rfl ?_
              refine o_bslice_k rfl rfl rfl rfl fun b67 => ?_
              refine o_append_sl (s := l) (new := [(i : Int)]) (m := 1) rfl rfl pL h4 (src_blk (r := true) mM rfl) rfl rfl rfl rfl (by omega) rfl fun s68 hs1 hs2 => ?_
              refine oN rfl <| oF rfl <| oF rfl ?_
              refine o_store rfl rfl uD rfl rfl rfl ?_
              refine o_nil <| n_blk <| n_blk <| n_K <| s_region0 fun ops => ?_
              refine oR (rd_add64 rfl rfl (by omega)) ?_
              refine oM rfl <| o_nil <| n_K ?_
              first | refine ⟨(i + 1, u, l), ⟨by simp only; omega, (congrArg Prod.fst hf).symm, (congrArg Prod.snd hf).symm, h3, h4⟩, by simp only; omega, lZ⟩ | refine ⟨(i + 1, u, s68), ⟨by simp only; omega, (congrArg Prod.fst hf).symm, hs1.trans (congrArg Prod.snd hf).symm, h3, hs2⟩, by simp only; omega, lZ⟩ | refine ⟨(i + 1, s93, l), ⟨by simp only; omega, hs1.trans (congrArg Prod.fst hf).symm, (congrArg Prod.snd hf).symm, hs2, h4⟩, by simp only; omega, lZ⟩
            · skip
              have hf0 : ¬ badB c i = true := (by rw [c56]; exact Bool.false_ne_true)
              refine s_seq ?_
              refine s_region [(2, 75)] rfl fun ops y => ?_
              refine oM rfl <| oR (rd_bin rfl rfl rfl) <| oM rfl ?_
              refine' o_and (j := 2) (k := 8) y rfl rfl rfl rfl rfl rfl rfl (fun hg75 => ?_) ?_
              rotate_left
              · try (simp at hg75; show _)
                refine o_g y rfl rfl ?_
                refine oM rfl ?_
                refine o_g y rfl rfl ?_
                refine oN rfl ?_
                refine o_g y rfl rfl ?_
                refine oF rfl ?_
                refine o_g y rfl rfl ?_
                refine oF rfl ?_
                refine o_g y rfl rfl ?_
                refine oR (rd_ld rfl mM rfl) ?_
                refine o_g y rfl rfl ?_
                refine oR (rd_lenS rfl) ?_
                refine o_g y rfl rfl ?_
                refine oM rfl ?_
                refine o_g y rfl rfl ?_
                refine oR (rd_bin rfl rfl rfl) ?_
                exact o_nil ⟨rfl, rfl, ⟨_, sP⟩⟩
              refine oA rfl <| o_nil <| n_K ?_
              refine s_cond rfl (fun c72 => ?_) (fun c72 => ?_)
              · skip
                have hf : fmtU c (fmtSize c) (i + 1) = (u.list ++ [(i : Int)], l.list) := (by show (if badB c i = true then _ else _) = _; rw [if_neg hf0, ← h1, ← h2]; exact if_pos c72)
                refine s_region0 fun ops => oM rfl <| oM rfl <| oN rfl <| oF rfl <| oF rfl ?_
                refine oR (rd_ld rfl mM rfl) ?_
                refine oM rfl ?_
                refine o_bslice_k rfl rfl rfl rfl fun b92 => ?_
                refine o_append_sl (s := u) (new := [(i : Int)]) (m := 1) rfl rfl pL h3 (src_blk (r := true) mM rfl) rfl rfl rfl rfl (by omega) rfl fun s93 hs1 hs2 => ?_
                refine oN rfl <| oF rfl <| oF rfl ?_
                refine o_store rfl rfl uD rfl rfl rfl ?_
                refine o_nil <| n_blk <| n_blk <| n_K <| s_region0 fun ops => ?_
                refine oR (rd_add64 rfl rfl (by omega)) ?_
                refine oM rfl <| o_nil <| n_K ?_
                first | refine ⟨(i + 1, u, l), ⟨by simp only; omega, (congrArg Prod.fst hf).symm, (congrArg Prod.snd hf).symm, h3, h4⟩, by simp only; omega, lZ⟩ | refine ⟨(i + 1, u, s68), ⟨by simp only; omega, (congrArg Prod.fst hf).symm, hs1.trans (congrArg Prod.snd hf).symm, h3, hs2⟩, by simp only; omega, lZ⟩ | refine ⟨(i + 1, s93, l), ⟨by simp only; omega, hs1.trans (congrArg Prod.fst hf).symm, (congrArg Prod.snd hf).symm, hs2, h4⟩, by simp only; omega, lZ⟩
              · skip
                have hf : fmtU c (fmtSize c) (i + 1) = (u.list, l.list) := (by show (if badB c i = true then _ else _) = _; rw [if_neg hf0, ← h1, ← h2]; refine (if_neg (by intro h; have h' := h.symm.trans c72; cases h')).trans ?_; rw [h1, h2])
                refine s_skip <| n_blk <| n_blk <| n_K <| s_region0 fun ops => ?_
                refine oR (rd_add64 rfl rfl (by omega)) ?_
                refine oM rfl <| o_nil <| n_K ?_
                first | refine ⟨(i + 1, u, l), ⟨by simp only; omega, (congrArg Prod.fst hf).symm, (congrArg Prod.snd hf).symm, h3, h4⟩, by simp only; omega, lZ⟩ | refine ⟨(i + 1, u, s68), ⟨by simp only; omega, (congrArg Prod.fst hf).symm, hs1.trans (congrArg Prod.snd hf).symm, h3, hs2⟩, by simp only; omega, lZ⟩ | refine ⟨(i + 1, s93, l), ⟨by simp only; omega, hs1.trans (congrArg Prod.fst hf).symm, (congrArg Prod.snd hf).symm, hs2, h4⟩, by simp only; omega, lZ⟩
          · simp only [decide_eq_true_eq, decide_eq_false_iff_not] at c54
            have hi : i = c.blocks.length := (by omega)
            subst hi
            have hu : u.list = (fmtT c).uses := h1
            have hl : l.list = (fmtT c).lost := h2
            refine s_exit <| x_K <| x_K <| x_blk <| n_K <| s_seq <| s_seq ?_
            refine s_region [(2, 100), (6, 104)] rfl fun ops y => ?_
            refine oM rfl ?_
            refine c_is rfl (bad_a (c := c) (i := 0) rfl) sP rfl aQ ?_
            refine oM rfl ?_
            refine' o_or (j := 2) (k := 2) y rfl rfl rfl rfl rfl rfl rfl (fun hg100 => ?_) ?_
            rotate_left
            · try (simp at hg100; show _)
              refine o_g y rfl rfl ?_
              refine oM rfl ?_
              refine o_g y rfl rfl ?_
              refine c_is rfl (bad_a (c := c) (i := 1) rfl) sP rfl aQ ?_
              exact o_nil ⟨rfl, rfl, ⟨_, sP⟩⟩
            refine oM rfl ?_
            refine' o_or (j := 6) (k := 8) y rfl rfl rfl rfl rfl rfl rfl (fun hg104 => ?_) ?_
            rotate_left
            · try (simp at hg104; show _)
              refine o_g y rfl rfl ?_
              refine oM rfl ?_
              refine o_g y rfl rfl ?_
              refine oN rfl ?_
              refine o_g y rfl rfl ?_
              refine oF rfl ?_
              refine o_g y rfl rfl ?_
              refine oF rfl ?_
              refine o_g y rfl rfl ?_
              refine oR (rd_ld rfl mM rfl) ?_
              refine o_g y rfl rfl ?_
              refine oR (rd_lenS rfl) ?_
              refine o_g y rfl rfl ?_
              refine oM rfl ?_
              refine o_g y rfl rfl ?_
              refine oR (rd_bin rfl rfl rfl) ?_
              exact o_nil ⟨rfl, rfl, ⟨_, sP⟩⟩
            refine o_nil <| n_K ?_
            refine s_cond rfl (fun c113 => ?_) (fun c113 => ?_)
            · skip
              have hres : formatC c = (34, ts0, c) := (by unfold formatC; rw [if_neg (by rw [hm]; simp), if_pos (by unfold fmtBad; rw [← hu]; exact c113)])
              refine s_seq <| s_region0 fun ops => oA rfl <| oA rfl <| o_nil <| n_K <| s_ret <| r_K ?_
              exact leaf_r (rets2 Tryz.results42 (rv_tmp rfl) (rv_tmp rfl)) (by right; rw [hres]; exact ⟨rfl, rfl, by simp⟩) sP
            · skip
              have hnb : ¬ fmtBad c = true := (by unfold fmtBad; rw [← hu]; intro h; have h' := h.symm.trans c113; cases h')
              have hT : Tab.ts ⟨b18, u, l, (fmt0 c).1, (fmt0 c).2.1, (fmt0 c).2.2, 0⟩ = fmtT c := (by show TS.mk _ _ _ _ _ _ = _; rw [hu, hl]; rfl)
              refine s_skip <| n_K <| s_seq <| s_seq <| s_region0 fun ops => oM rfl <| oM rfl <| oN rfl <| oF rfl ?_
              refine oR (rd_ldA rfl mM rfl) ?_
              refine c_ex rfl (keep2_fn (c := c) (a := c.aC) (t := ⟨b18, u, l, (fmt0 c).1, (fmt0 c).2.1, (fmt0 c).2.2, 0⟩) (u := u) (l := l) rfl (by omega) (by omega) hfr.2.1 hfr.1) sP rfl fun v119 Y119 h119 => ?_
              rcases h119 with ⟨t2, e1, e2, e3, rfl, rfl, e4, e5⟩ | ⟨e, rfl, e1, rfl, e4, e5⟩
              all_goals
                refine so_ap aQ ?_
                refine oA rfl <| o_nil <| n_K <| s_seq <| s_region0 fun ops => oM rfl <| oR (rd_bin rfl rfl rfl) <| o_nil <| n_K ?_
                refine s_cond rfl (fun c121 => ?_) (fun c121 => ?_)
                · skip
                  try (exfalso; (simp at c121); done)
                  all_goals
                    refine s_seq <| s_region0 fun ops => oM rfl <| oA rfl <| oA rfl <| o_nil <| n_K <| s_ret <| r_K ?_
                    exact leaf_r (rets2 Tryz.results42 (rv_tmp rfl) (rv_tmp rfl)) (by rw [hT, hu, hl] at e4; have hres : formatC c = (e, ts0, (keepC (fmtT c) (fmtT c).uses (fmtT c).lost c).2.2) := (by unfold formatC; rw [if_neg (by rw [hm]; simp), if_neg hnb, if_pos (by rw [e4]; exact e1), e4]); right; rw [hres]; exact ⟨rfl, rfl, e1⟩) (by rw [hT, hu, hl]; exact sP)
                · skip
                  try (exfalso; (simp at c121; exact e1 c121); done)
                  all_goals
                    refine s_skip <| n_K <| s_seq <| s_region0 fun ops => oM rfl <| oA rfl <| oA rfl <| o_nil <| n_K <| s_ret ?_
                    exact leaf_r (rets2 Tryz.results42 (rv_tmp rfl) (rv_tmp rfl)) (by rw [hT, hu, hl] at e4 e5; have hres : formatC c = keepC (fmtT c) (fmtT c).uses (fmtT c).lost c := (by unfold formatC; rw [if_neg (by rw [hm]; simp), if_neg hnb, if_neg (by rw [e4]; simp)]); left; rw [hres]; exact ⟨t2, by rw [e1], rfl, e5, e4⟩) (by rw [hT, hu, hl, tabH_eq, e2, e3]; simp only [List.cons_append, List.append_assoc, List.nil_append]; exact sP)
end Go.Proofs.YtkfcpjohblddmaaGreat
end
section
/- Plain laws of chips and tables: new chips. -/
namespace Go.Proofs.YtkfcpjohblddmaaGreat
open Go.K
set_option linter.unusedVariables false
set_option linter.unusedSimpArgs false

theorem blankP_blank : blankB blankP = true := by kernel_rfl
theorem readF_bl {p : Pg} (h : blankB p = true) : readF p = (0, [], 0, 20) := readF_blank h
theorem readT_bl {p : Pg} {n : Int} (h : blankB p = true) : readT p n = ([], [], 0, false) := by
  unfold readT
  simp only [readF_bl h]
  rw [if_pos (by simp)]
theorem scan_blank {c : Chip} {a : Int} : ∀ i, (∀ j < i, blankB (readP c a (j : Nat)) = true) → scanU c a i = ⟨0, [], [], 0, 0, false⟩
  | 0, _ => rfl
  | i + 1, h => by
    have ih := scan_blank i (fun j hj => h j (by omega))
    have hb := h i (by omega)
    show scan1 c a i (scanU c a i) = _
    rw [ih]
    unfold scan1
    simp only [readT_bl hb, hb, if_true]
    rfl
theorem open_blank {c : Chip} (hm : mayE c 0 0 = 0) (h : ∀ a < 2, ∀ j < 8, blankB (readP c (a : Nat) (j : Nat)) = true) : openC c = (35, ts0) := by
  have h0 := scan_blank 8 (h 0 (by omega))
  have h1 := scan_blank 8 (h 1 (by omega))
  have e1 : openU c 1 = (ts0, false) := by
    show open1 c 0 (openU c 0) = _
    unfold open1
    simp only [h0]
    rfl
  have e2 : openU c 2 = (ts0, false) := by
    show open1 c 1 (openU c 1) = _
    rw [e1]
    unfold open1
    simp only [h1]
    rfl
  unfold openC
  rw [if_neg (by rw [hm]; simp), if_neg (by rw [e2]; simp)]
section
variable {after keep : Int} {aP aC aB n : Nat} {bad : List Int}
abbrev newG (after keep : Int) (aP aC aB n : Nat) (bad : List Int) : Chip := newC false after keep aP aC aB n bad
theorem new_len : (newG after keep aP aC aB n bad).blocks.length = n := newBs_len n bad n
theorem new_there {i : Int} (h : 0 ≤ i ∧ i < n) : thereB (newG after keep aP aC aB n bad) i = true := by
  unfold thereB; rw [new_len]; simp; omega
theorem new_may {i j : Int} (h : 0 ≤ i ∧ i < n) (hj : 0 ≤ j ∧ j < 8) : mayE (newG after keep aP aC aB n bad) i j = 0 := by
  unfold mayE
  rw [new_there h, if_neg (by simp [newG, newC]), if_neg (by simp [newG, newC]), if_neg (by simp; omega)]
theorem new_block {i : Nat} (h : i < n) : (newG after keep aP aC aB n bad).blocks[i]? = some (newB (hasI bad i)) := by
  show (newBs n bad n)[i]? = _
  simp [newBs, h]
theorem newB_at {b : Bool} {k : Nat} (h : k < 8) : (newB b).pages.toList.getD k zeroP = blankP := by
  unfold newB
  rw [show (Vector.replicate 8 blankP).toList = List.replicate 8 blankP from Vector.toList_replicate, List.getD_eq_getElem?_getD, List.getElem?_replicate, if_pos h]
  rfl
theorem new_page {i j : Int} (h : 0 ≤ i ∧ i < n) (hj : 0 ≤ j ∧ j < 8) : readP (newG after keep aP aC aB n bad) i j = blankP := by
  unfold readP
  rw [if_pos (new_may h hj)]
  unfold pageAt
  rw [new_block (show i.toNat < n by omega)]
  have hlt : j.toNat < 8 := by omega
  exact newB_at hlt
theorem new_open (h : 2 ≤ n) : openC (newG after keep aP aC aB n bad) = (35, ts0) :=
  open_blank (new_may (by omega) (by omega)) (fun a ha j hj => by rw [new_page (by omega) (by omega)]; exact blankP_blank)
theorem new_bad {i : Int} (h : 0 ≤ i ∧ i < n) : badB (newG after keep aP aC aB n bad) i = hasI bad i := by
  unfold badB badAt
  rw [new_there h, new_block (show i.toNat < n by omega), show ((i.toNat : Nat) : Int) = i by omega]
  rfl
end
/-! a page is written where nothing stands -/
structure Good (c : Chip) : Prop where
  off : c.off = false
  after : c.after < 0
  dead : c.dead = false
  out : c.out = false
  pf : c.pf.list = []
  wf : c.wf.list = []
theorem andP_blank (d : Pg) : andP 258 blankP d = d := by
  apply Vector.ext
  intro j hj
  have e : (andP 258 blankP d)[j] = blankP[j] &&& d[j] := by simp [andP, hj]
  have b : blankP[j] = BitVec.allOnes 8 := by
    unfold blankP
    rw [Vector.getElem_replicate]
    decide
  rw [e, b, BitVec.allOnes_and]
theorem may_ok {c : Chip} (h1 : c.off = false) (h2 : c.dead = false) (h3 : c.out = false) {i j : Int} (hi : 0 ≤ i ∧ i < c.blocks.length) (hj : 0 ≤ j ∧ j < 8) : mayE c i j = 0 := by
  unfold mayE
  have : thereB c i = true := by unfold thereB; simp; omega
  rw [this, h1, h2, h3]
  simp; omega
theorem has_nil (v : Int) : hasI [] v = false := rfl
def prg (c : Chip) (i j : Nat) (d : Pg) (b : Blk) : Chip := setB (actP (cnt c)) i ⟨b.pages.setIfInBounds j d, (j : Int) + 1, b.bad⟩
theorem ends_good {c : Chip} (h : c.after < 0) : endsC c = c := by
  unfold endsC
  rw [if_pos h, if_pos h]
theorem prog_good {c : Chip} (g : Good c) {i j : Nat} {d : Pg} {b : Blk} (hb : c.blocks[i]? = some b) (hj : j < 8) (hn : b.next = j) (hbad : b.bad = false) (hp : b.pages[j] = blankP) : progC c i j d = (0, prg c i j d b) := by
  have hi : i < c.blocks.length := (List.getElem?_eq_some_iff.1 hb).1
  have hm : mayE c i j = 0 := may_ok g.off g.dead g.out (by omega) (by omega)
  have he : endsB c = false := by unfold endsB; rw [if_pos g.after]
  have hf : (failP c || b.bad) = false := by unfold failP; rw [g.pf, has_nil, hbad]; rfl
  rw [prog_ok (b := b) hm (by simpa using hj) (by simpa using hb) hn.symm he hf]
  have e : wrB { b with next := w64 (b.next + 1) } (j : Int).toNat 258 d (by simpa using hj) = ⟨b.pages.setIfInBounds j d, (j : Int) + 1, b.bad⟩ := by
    have e1 : w64 (b.next + 1) = (j : Int) + 1 := by rw [hn]; exact wrap64_in (by omega)
    have e2 : andP 258 b.pages[j] d = d := by rw [hp]; exact andP_blank d
    show setPg { b with next := w64 (b.next + 1) } j (andP 258 b.pages[j] d) = _
    rw [e2, e1]
    rfl
  unfold wrC
  rw [ends_good (by exact g.after), e]
  rfl
theorem prg_len (c : Chip) (i j : Nat) (d : Pg) (b : Blk) : (prg c i j d b).blocks.length = c.blocks.length := by simp [prg, setB, actP, cnt]
theorem prg_good {c : Chip} (g : Good c) (i j : Nat) (d : Pg) (b : Blk) : Good (prg c i j d b) := ⟨g.off, g.after, g.dead, g.out, g.pf, g.wf⟩
theorem prg_same {c : Chip} {i j : Nat} {d : Pg} {b : Blk} (hi : i < c.blocks.length) : (prg c i j d b).blocks[i]? = some ⟨b.pages.setIfInBounds j d, (j : Int) + 1, b.bad⟩ := by
  simp [prg, setB, actP, cnt, hi]
theorem prg_other {c : Chip} {i k j : Nat} {d : Pg} {b : Blk} (h : i ≠ k) : (prg c i j d b).blocks[k]? = c.blocks[k]? := by
  simp [prg, setB, actP, cnt, List.getElem?_set_ne h]
theorem read_of {c : Chip} {i j : Nat} {b : Blk} (hm : mayE c i j = 0) (hb : c.blocks[i]? = some b) (hj : j < 8) : readP c i j = b.pages[j] := by
  unfold readP pageAt
  rw [if_pos hm, Int.toNat_natCast, hb]
  simp [List.getD_eq_getElem?_getD, hj]
theorem put_good {c : Chip} (g : Good c) {i j : Nat} {d : Pg} {b : Blk} (hb : c.blocks[i]? = some b) (hj : j < 8) (hn : b.next = j) (hbad : b.bad = false) (hp : b.pages[j] = blankP) : putC c i j d = ((j : Int) + 1, 0, prg c i j d b) := by
  have hi : i < c.blocks.length := (List.getElem?_eq_some_iff.1 hb).1
  have hpr := prog_good g hb hj hn hbad hp (d := d)
  have g' := prg_good g i j d b
  have hm' : mayE (prg c i j d b) i j = 0 := may_ok g'.off g'.dead g'.out (by rw [prg_len]; omega) (by omega)
  have hs : stepE c i j d = 0 := by
    unfold stepE
    rw [hpr, if_pos rfl]
    unfold standsE
    rw [read_of hm' (prg_same hi) hj]
    simp [hm']
  rw [putC_stop (by omega) (by rw [hs]; decide), hs, hpr]
/-- A plan is kept where there is a place. -/
theorem keep_good {c : Chip} (g : Good c) {t : TS} {uses lost : List Int} {i j : Nat} {b : Blk} (ha : t.area = i) (hn' : t.next = j) (hb : c.blocks[i]? = some b) (hj : j < 8) (hn : b.next = j) (hbad : b.bad = false) (hp : b.pages[j] = blankP) :
    keepC t uses lost c = (0, ⟨uses, lost, t.version + 1, i, (j : Int) + 1, j⟩, prg c i j (planP (t.version + 1) c.blocks.length uses lost) b) := by
  have hp := put_good g hb hj hn hbad hp (d := planP (t.version + 1) c.blocks.length uses lost)
  have hk : keepS t uses lost c = ⟨i, (j : Int) + 1, 0, prg c i j (planP (t.version + 1) c.blocks.length uses lost) b⟩ := by
    unfold keepS
    simp only [ha, hn', hp]
    rfl
  unfold keepC
  simp only [hk]
  rw [if_neg (by simp)]
  congr 2
  congr 1
  omega
section
variable {after keep : Int} {aP aC aB n : Nat} {bad : List Int}
theorem new_good (ha : after < 0) : Good (newG after keep aP aC aB n bad) := ⟨rfl, ha, rfl, rfl, rfl, rfl⟩
theorem new_fmt0 (h : 2 ≤ n) : fmt0 (newG after keep aP aC aB n bad) = (0, 0, 0) := by
  unfold fmt0; rw [new_open h, if_neg (by decide)]
/-- The table of a new chip. -/
theorem new_format (ha : after < 0) (h : 2 ≤ n) (hb : fmtBad (newG after keep aP aC aB n bad) = false) : ∃ c', formatC (newG after keep aP aC aB n bad) = (0, ⟨(fmtT (newG after keep aP aC aB n bad)).uses, (fmtT (newG after keep aP aC aB n bad)).lost, 1, 0, 1, 0⟩, c') ∧
    c' = prg (newG after keep aP aC aB n bad) 0 0 (planP 1 n (fmtT (newG after keep aP aC aB n bad)).uses (fmtT (newG after keep aP aC aB n bad)).lost) (newB false) := by
  have hbad : hasI bad 0 = false := by
    have := hb
    unfold fmtBad at this
    rw [new_bad (by omega)] at this
    simp at this
    exact this.1.1
  have hblk := new_block (after := after) (keep := keep) (aP := aP) (aC := aC) (aB := aB) (n := n) (bad := bad) (i := 0) (by omega)
  rw [show hasI bad ((0 : Nat) : Int) = false from hbad] at hblk
  have hf := new_fmt0 (after := after) (keep := keep) (aP := aP) (aC := aC) (aB := aB) (bad := bad) h
  have hk := keep_good (new_good (keep := keep) (aP := aP) (aC := aC) (aB := aB) (n := n) (bad := bad) ha) (t := fmtT (newG after keep aP aC aB n bad)) (uses := (fmtT (newG after keep aP aC aB n bad)).uses) (lost := (fmtT (newG after keep aP aC aB n bad)).lost) (i := 0) (j := 0) (by show (fmt0 _).2.1 = _; rw [hf]; rfl) (by show (fmt0 _).2.2 = _; rw [hf]; rfl) hblk (by omega) rfl rfl (by simp [newB])
  have hv : (fmtT (newG after keep aP aC aB n bad)).version = 0 := by show (fmt0 _).1 = _; rw [hf]
  rw [hv, new_len] at hk
  refine ⟨_, ?_, rfl⟩
  unfold formatC
  rw [if_neg (by rw [new_may (by omega) (by omega)]; simp), if_neg (by rw [hb]; simp), if_neg (by rw [hk]; simp), hk]
  rfl
theorem fmtT_uses (c : Chip) : (fmtT c).uses = (fmtU c (fmtSize c) c.blocks.length).1 := rfl
theorem fmtT_lost (c : Chip) : (fmtT c).lost = (fmtU c (fmtSize c) c.blocks.length).2 := rfl
/-- The example of the document. -/
theorem ex_fmtU {aP aC aB : Nat} : fmtU (newG (-1) 0 aP aC aB 16 [3]) 10 16 = ([2, 4, 5, 6, 7, 8, 9, 10, 11, 12], [3]) := by kernel_rfl
theorem ex_format {aP aC aB : Nat} : ∃ c', formatC (newG (-1) 0 aP aC aB 16 [3]) = (0, ⟨[2, 4, 5, 6, 7, 8, 9, 10, 11, 12], [3], 1, 0, 1, 0⟩, c') := by
  have e : fmtU (newG (-1) 0 aP aC aB 16 [3]) (fmtSize (newG (-1) 0 aP aC aB 16 [3])) (newG (-1) 0 aP aC aB 16 [3]).blocks.length = ([2, 4, 5, 6, 7, 8, 9, 10, 11, 12], [3]) := by
    unfold fmtSize
    rw [new_len]
    exact ex_fmtU
  have hu : (fmtT (newG (-1) 0 aP aC aB 16 [3])).uses = [2, 4, 5, 6, 7, 8, 9, 10, 11, 12] := (fmtT_uses _).trans (by rw [e])
  have hl : (fmtT (newG (-1) 0 aP aC aB 16 [3])).lost = [3] := (fmtT_lost _).trans (by rw [e])
  have hb : fmtBad (newG (-1) 0 aP aC aB 16 [3]) = false := by
    unfold fmtBad
    rw [new_bad (by omega), new_bad (by omega), hu]
    unfold fmtSize
    rw [new_len]
    rfl
  obtain ⟨c', h, _⟩ := new_format (after := -1) (keep := 0) (aP := aP) (aC := aC) (aB := aB) (n := 16) (bad := [3]) (by omega) (by omega) hb
  rw [hu, hl] at h
  exact ⟨c', h⟩
theorem openC_err {c : Chip} {e : Int} (hm : mayE c 0 0 = e) (he : e ≠ 0) : openC c = (e, ts0) := by
  unfold openC; rw [hm, if_pos he]
theorem formatC_err {c : Chip} {e : Int} (hm : mayE c 0 0 = e) (he : e ≠ 0) : formatC c = (e, ts0, c) := by
  unfold formatC; rw [hm, if_pos he]
theorem may_off {c : Chip} (h : c.off = true) : mayE c 0 0 = 30 := by unfold mayE; rw [if_pos h]
theorem may_dead {c : Chip} (h : c.off = false) (h2 : c.dead = true) : mayE c 0 0 = 31 := by unfold mayE; rw [if_neg (by rw [h]; simp), if_pos (by rw [h2]; rfl)]
/-- The power ends in an erase. -/
theorem erase_ends {c : Chip} {i : Int} (hm : mayE c i 0 = 0) (ha : c.after = 0) : (eraseC c i).2.off = true ∧ (eraseC c i).2.blocks.length = c.blocks.length := by
  obtain ⟨h0, h1, _⟩ := may_in hm
  have hb : c.blocks[i.toNat]? = some (c.blocks[i.toNat]'(by omega)) := List.getElem?_eq_getElem (by omega)
  have he : endsB c = true := by unfold endsB; rw [if_neg (by omega), ha]; rfl
  rw [erase_down hm hb he]
  constructor
  · show (if c.after < 0 then c.off else decide (c.after = 0)) = true
    rw [if_neg (by omega), ha]; rfl
  · simp [setB, endsC, actW, cnt]
theorem okNew_in {n : Int} {bad : List Int} (h : okNew n bad = true) : 16 ≤ n ∧ n ≤ 40 := by
  unfold okNew at h
  simp only [Bool.and_eq_true, Bool.not_eq_true', Bool.or_eq_false_iff, decide_eq_false_iff_not] at h
  omega
end
end Go.Proofs.YtkfcpjohblddmaaGreat
end
section
/- Plain laws of tables: which blocks they name. -/
namespace Go.Proofs.YtkfcpjohblddmaaGreat
open Go.K
set_option linter.unusedVariables false
set_option linter.unusedSimpArgs false

/-- An op of a law's script. -/
structure OpV where
  kind : Int
  logical : Int
  block : Int
  least : Bool
  bit : Int
def opC (o : OpV) : List Value := [.int .i64 o.kind, .int .i64 o.logical, .int .i64 o.block, .bool o.least, .int .i64 o.bit]
instance : Cel OpV := ⟨5, opC, fun _ => rfl, fun _ => rfl⟩

/-! which blocks are bad is never changed -/
def bads (c : Chip) : List Bool := c.blocks.map (·.bad)
theorem bads_set {c : Chip} {i : Nat} {b b' : Blk} (hb : c.blocks[i]? = some b) (h : b'.bad = b.bad) : (c.blocks.set i b').map (·.bad) = c.blocks.map (·.bad) := by
  rw [List.map_set, h]
  apply List.ext_getElem?
  intro j
  rw [List.getElem?_set]
  split
  · rename_i e; subst e
    obtain ⟨h1, h2⟩ := List.getElem?_eq_some_iff.1 hb
    simp [h1, h2]
  · rfl
theorem prog_bads (c : Chip) (i j : Int) (d : Pg) : bads (progC c i j d).2 = bads c := by
  unfold progC
  split
  · split
    · rfl
    · rename_i b hb
      split
      · simp only []
        split
        · refine bads_set (c := endsC (actP (cnt c))) hb ?_; split <;> rfl
        · split
          · refine bads_set (c := endsC (actP (cnt c))) hb ?_; split <;> rfl
          · refine bads_set (c := endsC (actP (cnt c))) hb ?_; split <;> rfl
      · rfl
  · rfl
theorem erase_bads (c : Chip) (i : Int) : bads (eraseC c i).2 = bads c := by
  unfold eraseC
  split
  · split
    · rfl
    · rename_i b hb
      simp only []
      split
      · exact bads_set (c := endsC (actW (cnt c))) hb rfl
      · split
        · exact bads_set (c := endsC (actW (cnt c))) hb rfl
        · exact bads_set (c := endsC (actW (cnt c))) hb rfl
  · rfl
theorem putGo_bads (a : Int) (q : Pg) : ∀ (f : Nat) (c : Chip) (i : Int), bads (putGo f c a i q).2.2 = bads c
  | 0, c, i => rfl
  | f + 1, c, i => by
    unfold putGo
    split
    · exact prog_bads c a i q
    · rw [putGo_bads a q f, prog_bads]
theorem putC_bads (c : Chip) (a i : Int) (q : Pg) : bads (putC c a i q).2.2 = bads c := putGo_bads a q _ c i
theorem keep1_bads (a : Int) (q : Pg) (s : KS) : bads (keep1 a q s).c = bads s.c := by
  unfold keep1
  simp only []
  split
  · rw [putC_bads, erase_bads]
  · split <;> exact erase_bads _ _
theorem keepGo_bads (a : Int) (q : Pg) : ∀ (f : Nat) (s : KS), bads (keepGo f a q s).c = bads s.c
  | 0, s => rfl
  | f + 1, s => by
    unfold keepGo
    split
    · rw [keepGo_bads a q f, keep1_bads]
    · rfl
theorem keepGo_range (a : Int) (q : Pg) : ∀ (f : Nat) (s : KS), (0 ≤ s.next ∧ s.next ≤ 8) → (s.area = a ∨ s.area = 1 - a) → (0 ≤ (keepGo f a q s).next ∧ (keepGo f a q s).next ≤ 8) ∧ ((keepGo f a q s).area = a ∨ (keepGo f a q s).area = 1 - a)
  | 0, s, h, h2 => ⟨h, h2⟩
  | f + 1, s, h, h2 => by
    unfold keepGo
    split
    · refine keepGo_range a q f _ (keep1_ge h) (.inr ?_)
      unfold keep1
      simp only []
      split
      · rfl
      · split <;> rfl
    · exact ⟨h, h2⟩
theorem keepGo_aC (a : Int) (q : Pg) : ∀ (f : Nat) (s : KS), (keepGo f a q s).c.aC = s.c.aC
  | 0, s => rfl
  | f + 1, s => by
    unfold keepGo
    split
    · rw [keepGo_aC a q f, keep1_aC]
    · rfl
theorem keepS_bads (t : TS) (u l : List Int) (c : Chip) : bads (keepS t u l c).c = bads c := by
  unfold keepS
  simp only []
  rw [keepGo_bads, putC_bads]
theorem keepS_aC (t : TS) (u l : List Int) (c : Chip) : (keepS t u l c).c.aC = c.aC := by
  unfold keepS
  simp only []
  rw [keepGo_aC, putC_aC]
theorem keepC_bads (t : TS) (u l : List Int) (c : Chip) : bads (keepC t u l c).2.2 = bads c := by
  unfold keepC
  simp only []
  split <;> exact keepS_bads t u l c
theorem keepC_aC (t : TS) (u l : List Int) (c : Chip) : (keepC t u l c).2.2.aC = c.aC := by
  unfold keepC
  simp only []
  split <;> exact keepS_aC t u l c
theorem keepC_t (t : TS) (u l : List Int) (c : Chip) (hn : 0 ≤ t.next) (ha : 0 ≤ t.area ∧ t.area ≤ 1) :
    (keepC t u l c).2.1 = t ∨ ((keepC t u l c).2.1.uses = u ∧ (keepC t u l c).2.1.lost = l ∧ 0 ≤ (keepC t u l c).2.1.next ∧ (0 ≤ (keepC t u l c).2.1.area ∧ (keepC t u l c).2.1.area ≤ 1)) := by
  have hr : (0 ≤ (keepS t u l c).next ∧ (keepS t u l c).next ≤ 8) ∧ ((keepS t u l c).area = t.area ∨ (keepS t u l c).area = 1 - t.area) := by
    unfold keepS
    simp only []
    exact keepGo_range _ _ _ _ (putC_ge _ _ _ _ hn) (.inl rfl)
  unfold keepC
  simp only []
  split
  · exact .inl rfl
  · refine .inr ⟨rfl, rfl, hr.1.1, ?_⟩
    show 0 ≤ (keepS t u l c).area ∧ (keepS t u l c).area ≤ 1
    rcases hr.2 with h | h <;> rw [h] <;> omega
theorem bads_len {c c' : Chip} (h : bads c' = bads c) : c'.blocks.length = c.blocks.length := by
  have := congrArg List.length h
  simpa [bads] using this
theorem bads_badB {c c' : Chip} (h : bads c' = bads c) (b : Int) : badB c' b = badB c b := by
  unfold badB thereB badAt
  rw [bads_len h]
  have := congrArg (fun l => l[b.toNat]?) h
  simp only [bads, List.getElem?_map] at this
  congr 1
  cases h1 : c.blocks[b.toNat]? <;> cases h2 : c'.blocks[b.toNat]? <;> simp [h1, h2] at this
  · rfl
  · exact this

/-! lists of blocks -/
theorem nodup_le : ∀ {l m : List Int}, l.Nodup → (∀ x ∈ l, x ∈ m) → l.length ≤ m.length
  | [], m, _, _ => Nat.zero_le _
  | x :: l, m, h, hs => by
    have hx := hs x (.head _)
    obtain ⟨h1, h2⟩ := List.nodup_cons.1 h
    have := nodup_le (l := l) (m := m.erase x) h2 (fun y hy => (List.mem_erase_of_ne (fun e => by subst e; exact h1 hy)).2 (hs y (.tail _ hy)))
    have h3 := List.length_erase_of_mem hx
    have h4 := List.length_pos_of_mem hx
    rw [List.length_cons]
    omega
theorem has_mem {l : List Int} {x : Int} : hasI l x = true ↔ x ∈ l := by
  have : hasI l x = l.any (· == x) := idxF_any l (· == x)
  rw [this, List.any_eq_true]
  constructor
  · rintro ⟨y, h1, h2⟩
    have : y = x := by simpa using h2
    subst this; exact h1
  · exact fun h => ⟨x, h, by simp⟩
/-- What Format sees. -/
structure FmtI (c : Chip) (size : Int) (i : Nat) (u l : List Int) : Prop where
  len : (u.length : Int) ≤ size
  un : u.Nodup
  us : ∀ x ∈ u, 2 ≤ x ∧ x < i ∧ badB c x = false
  ln : l.Nodup
  ls : ∀ x ∈ l, 0 ≤ x ∧ x < i ∧ badB c x = true
  lb : ∀ x : Int, 0 ≤ x → x < i → badB c x = true → x ∈ l
  all : badB c 0 = false → badB c 1 = false → (u.length : Int) = size ∨ u.length + l.length + min i 2 = i
theorem nodup_snoc {l : List Int} {x : Int} (h : l.Nodup) (hx : x ∉ l) : (l ++ [x]).Nodup := by
  rw [List.nodup_append]
  exact ⟨h, by simp, fun a ha b hb => by simp at hb; subst hb; intro e; subst e; exact hx ha⟩
theorem fmtI (c : Chip) {size : Int} (hs : 0 ≤ size) : ∀ i, FmtI c size i (fmtU c size i).1 (fmtU c size i).2
  | 0 => ⟨by simpa [fmtU] using hs, by simp [fmtU], by simp [fmtU], by simp [fmtU], by simp [fmtU], fun x h1 h2 => by omega, fun _ _ => .inr (by simp [fmtU])⟩
  | i + 1 => by
    have ih := fmtI c hs i
    unfold fmtU
    simp only []
    generalize hu : (fmtU c size i).1 = u at ih ⊢
    generalize hl : (fmtU c size i).2 = l at ih ⊢
    split
    · rename_i hb
      refine ⟨ih.len, ih.un, fun x hx => ?_, nodup_snoc ih.ln (fun h => by have := ih.ls _ h; omega), fun x hx => ?_, fun x h0 h1 h2 => ?_, fun h0 h1 => ?_⟩
      · have := ih.us x hx; exact ⟨this.1, by omega, this.2.2⟩
      · rcases List.mem_append.1 hx with h | h
        · have := ih.ls x h; exact ⟨this.1, by omega, this.2.2⟩
        · simp at h; subst h; exact ⟨by omega, by omega, hb⟩
      · by_cases he : x = (i : Int)
        · subst he; simp
        · exact List.mem_append_left _ (ih.lb x h0 (by omega) h2)
      · have hi : 2 ≤ i := by
          rcases Nat.lt_or_ge i 2 with h | h
          · rcases (show i = 0 ∨ i = 1 by omega) with rfl | rfl
            · rw [show ((0 : Nat) : Int) = 0 from rfl, h0] at hb; cases hb
            · rw [show ((1 : Nat) : Int) = 1 from rfl, h1] at hb; cases hb
          · exact h
        rcases ih.all h0 h1 with h | h
        · exact .inl h
        · refine .inr ?_; simp only [List.length_append, List.length_cons, List.length_nil]; omega
    · rename_i hb
      have hb' : badB c i = false := by simpa using hb
      split
      · rename_i hc
        simp only [Bool.and_eq_true, decide_eq_true_eq] at hc
        refine ⟨by simp only [List.length_append, List.length_cons, List.length_nil]; omega, nodup_snoc ih.un (fun h => by have := ih.us _ h; omega), fun x hx => ?_, ih.ln, fun x hx => ?_, fun x h0 h1 h2 => ?_, fun h0 h1 => ?_⟩
        · rcases List.mem_append.1 hx with h | h
          · have := ih.us x h; exact ⟨this.1, by omega, this.2.2⟩
          · simp at h; subst h; exact ⟨hc.1, by omega, hb'⟩
        · have := ih.ls x hx; exact ⟨this.1, by omega, this.2.2⟩
        · by_cases he : x = (i : Int)
          · subst he; rw [hb'] at h2; cases h2
          · exact ih.lb x h0 (by omega) h2
        · rcases ih.all h0 h1 with h | h
          · omega
          · refine .inr ?_; simp only [List.length_append, List.length_cons, List.length_nil]; omega
      · rename_i hc
        rw [hu, hl]
        have hlen := ih.len
        refine ⟨ih.len, ih.un, fun x hx => ?_, ih.ln, fun x hx => ?_, fun x h0 h1 h2 => ?_, fun h0 h1 => ?_⟩
        · have := ih.us x hx; exact ⟨this.1, by omega, this.2.2⟩
        · have := ih.ls x hx; exact ⟨this.1, by omega, this.2.2⟩
        · by_cases he : x = (i : Int)
          · subst he; rw [hb'] at h2; cases h2
          · exact ih.lb x h0 (by omega) h2
        · rcases ih.all h0 h1 with h | h
          · exact .inl h
          · rcases Nat.lt_or_ge i 2 with h2 | h2
            · refine .inr ?_; omega
            · refine .inl ?_
              have : ¬ ((u.length : Int) < size) := fun h3 => hc (by simp only [Bool.and_eq_true, decide_eq_true_eq]; exact ⟨by omega, h3⟩)
              omega

/-! a table of a chip of 30 blocks -/
structure ApI (B : Int → Bool) (t : TS) : Prop where
  un : t.uses.Nodup
  len : t.uses.length = 24
  us : ∀ x ∈ t.uses, 2 ≤ x ∧ x < 30 ∧ B x = false ∧ x ∉ t.lost
  ln : t.lost.Nodup
  ls : ∀ x ∈ t.lost, 2 ≤ x ∧ x < 30
  lb : ∀ x : Int, 2 ≤ x → x < 30 → B x = true → x ∈ t.lost
  next : 0 ≤ t.next
  area : 0 ≤ t.area ∧ t.area ≤ 1
theorem ApI.lost4 {B : Int → Bool} {t : TS} (h : ApI B t) : t.lost.length ≤ 4 := by
  have := nodup_le (l := t.uses ++ t.lost) (m := (List.range 28).map fun i => ((i : Nat) : Int) + 2) (by
    rw [List.nodup_append]
    exact ⟨h.un, h.ln, fun a ha b hb e => by subst e; exact (h.us a ha).2.2.2 hb⟩) (fun x hx => by
      have hr : 2 ≤ x ∧ x < 30 := by
        rcases List.mem_append.1 hx with h1 | h1
        · have := h.us x h1; exact ⟨this.1, this.2.1⟩
        · exact h.ls x h1
      exact List.mem_map.2 ⟨(x - 2).toNat, List.mem_range.2 (by omega), by omega⟩)
  simp [h.len] at this
  omega
theorem spare_facts {t : TS} {b : Int} (h : spareB t 30 b = true) : 2 ≤ b ∧ b < 30 ∧ b ∉ t.uses ∧ b ∉ t.lost := by
  unfold spareB at h
  simp only [Bool.and_eq_true, Bool.not_eq_true', decide_eq_true_eq] at h
  obtain ⟨⟨⟨h1, h2⟩, h3⟩, h4⟩ := h
  exact ⟨h1, h2, fun e => (by rw [has_mem.2 e] at h3; cases h3), fun e => (by rw [has_mem.2 e] at h4; cases h4)⟩
theorem ApI.of {B : Int → Bool} {t t' : TS} {u l : List Int} (h : ApI B t) (hk : t' = t ∨ (t'.uses = u ∧ t'.lost = l ∧ 0 ≤ t'.next ∧ (0 ≤ t'.area ∧ t'.area ≤ 1)))
    (un : u.Nodup) (len : u.length = 24) (us : ∀ x ∈ u, 2 ≤ x ∧ x < 30 ∧ B x = false ∧ x ∉ l) (ln : l.Nodup) (ls : ∀ x ∈ l, 2 ≤ x ∧ x < 30) (lb : ∀ x ∈ t.lost, x ∈ l) : ApI B t' := by
  rcases hk with rfl | ⟨rfl, rfl, h1, h2⟩
  · exact h
  · exact ⟨un, len, us, ln, ls, fun x h3 h4 h5 => lb x (h.lb x h3 h4 h5), h1, h2⟩
theorem ApI.lose {B : Int → Bool} {t t' : TS} {b : Int} {l : List Int} (h : ApI B t) (hb : spareB t 30 b = true) (hp : l.Perm (t.lost ++ [b]))
    (hk : t' = t ∨ (t'.uses = t.uses ∧ t'.lost = l ∧ 0 ≤ t'.next ∧ (0 ≤ t'.area ∧ t'.area ≤ 1))) : ApI B t' := by
  obtain ⟨b1, b2, b3, b4⟩ := spare_facts hb
  have hm : ∀ x, x ∈ l ↔ x ∈ t.lost ∨ x = b := fun x => by rw [hp.mem_iff]; simp
  refine h.of hk h.un h.len (fun x hx => ?_) (hp.nodup_iff.2 (nodup_snoc h.ln b4)) (fun x hx => ?_) (fun x hx => (hm x).2 (.inl hx))
  · obtain ⟨h1, h2, h3, h4⟩ := h.us x hx
    exact ⟨h1, h2, h3, fun e => by rcases (hm x).1 e with e | e; exact h4 e; subst e; exact b3 hx⟩
  · rcases (hm x).1 hx with e | e
    · exact h.ls x e
    · subst e; exact ⟨b1, b2⟩
theorem nodup_set {l : List Int} {i : Nat} {b : Int} (h : l.Nodup) (hb : b ∉ l) : (l.set i b).Nodup := by
  rw [List.nodup_iff_pairwise_ne, List.pairwise_iff_getElem]
  rw [List.nodup_iff_pairwise_ne, List.pairwise_iff_getElem] at h
  intro j k hj hk hjk
  simp only [List.length_set] at hj hk
  rw [List.getElem_set, List.getElem_set]
  split
  · split
    · omega
    · intro e; exact hb (by rw [e]; exact List.getElem_mem _)
  · split
    · intro e; exact hb (by rw [← e]; exact List.getElem_mem _)
    · exact h j k hj hk hjk
theorem mem_set {l : List Int} {i : Nat} {b x : Int} (h : l.Nodup) (hi : i < l.length) (hx : x ∈ l.set i b) : x = b ∨ (x ∈ l ∧ x ≠ l[i]) := by
  obtain ⟨j, hj, rfl⟩ := List.getElem_of_mem hx
  simp only [List.length_set] at hj
  rw [List.getElem_set]
  split
  · exact .inl rfl
  · refine .inr ⟨List.getElem_mem _, fun e => ?_⟩
    rename_i hne
    rw [List.nodup_iff_pairwise_ne, List.pairwise_iff_getElem] at h
    rcases Nat.lt_or_gt_of_ne hne with h1 | h1
    · exact h i j hi hj h1 e.symm
    · exact h j i hj hi h1 e
theorem ApI.swap {B : Int → Bool} {t t' : TS} {b i : Int} {l : List Int} (h : ApI B t) (hB : ∀ x, spareB t 30 x = true → B x = false) (hi : 0 ≤ i ∧ i < t.uses.length) (hb : spareB t 30 b = true) (hp : l.Perm (t.lost ++ [at0 t.uses i]))
    (hk : t' = t ∨ (t'.uses = t.uses.set i.toNat b ∧ t'.lost = l ∧ 0 ≤ t'.next ∧ (0 ≤ t'.area ∧ t'.area ≤ 1))) : ApI B t' := by
  obtain ⟨b1, b2, b3, b4⟩ := spare_facts hb
  have hlt : i.toNat < t.uses.length := by omega
  have hat : at0 t.uses i = t.uses[i.toNat] := by simp [at0, List.getD_eq_getElem?_getD, hlt]
  rw [hat] at hp
  have hu := h.us _ (List.getElem_mem hlt)
  have hm : ∀ x, x ∈ l ↔ x ∈ t.lost ∨ x = t.uses[i.toNat] := fun x => by rw [hp.mem_iff]; simp
  refine h.of hk (nodup_set h.un b3) (by rw [List.length_set]; exact h.len) (fun x hx => ?_) (hp.nodup_iff.2 (nodup_snoc h.ln hu.2.2.2)) (fun x hx => ?_) (fun x hx => (hm x).2 (.inl hx))
  · rcases mem_set h.un hlt hx with e | ⟨e, hne⟩
    · subst e
      exact ⟨b1, b2, hB _ hb, fun e => by rcases (hm _).1 e with e | e; exact b4 e; exact b3 (by rw [e]; exact List.getElem_mem hlt)⟩
    · obtain ⟨h1, h2, h3, h4⟩ := h.us x e
      exact ⟨h1, h2, h3, fun e => by rcases (hm x).1 e with e | e; exact h4 e; exact hne e⟩
  · rcases (hm x).1 hx with e | e
    · exact h.ls x e
    · subst e; exact ⟨hu.1, hu.2.1⟩
theorem ApI.spareB {B : Int → Bool} {t : TS} (h : ApI B t) (x : Int) (hx : Go.Proofs.YtkfcpjohblddmaaGreat.spareB t 30 x = true) : B x = false := by
  obtain ⟨b1, b2, b3, b4⟩ := spare_facts hx
  cases hB : B x with
  | false => rfl
  | true => exact absurd (h.lb x b1 b2 hB) b4
/-- The table of a new chip of 30 blocks. -/
theorem new_table {aP aC aB : Nat} {bad : List Int} (hl : bad.length ≤ 4) (h0 : hasI bad 0 = false) (h1 : hasI bad 1 = false) : ∃ c', formatC (newG (-1) 0 aP aC aB 30 bad) = (0, ⟨(fmtT (newG (-1) 0 aP aC aB 30 bad)).uses, (fmtT (newG (-1) 0 aP aC aB 30 bad)).lost, 1, 0, 1, 0⟩, c') ∧
    bads c' = bads (newG (-1) 0 aP aC aB 30 bad) ∧ c'.aC = aC ∧ ApI (hasI bad) ⟨(fmtT (newG (-1) 0 aP aC aB 30 bad)).uses, (fmtT (newG (-1) 0 aP aC aB 30 bad)).lost, 1, 0, 1, 0⟩ := by
  have hlen := new_len (after := -1) (keep := 0) (aP := aP) (aC := aC) (aB := aB) (n := 30) (bad := bad)
  have hsz : fmtSize (newG (-1) 0 aP aC aB 30 bad) = 24 := by unfold fmtSize; rw [hlen]; rfl
  have hI := fmtI (newG (-1) 0 aP aC aB 30 bad) (size := 24) (by omega) 30
  have hu : (fmtT (newG (-1) 0 aP aC aB 30 bad)).uses = (fmtU (newG (-1) 0 aP aC aB 30 bad) 24 30).1 := by rw [fmtT_uses, hsz, hlen]
  have hlo : (fmtT (newG (-1) 0 aP aC aB 30 bad)).lost = (fmtU (newG (-1) 0 aP aC aB 30 bad) 24 30).2 := by rw [fmtT_lost, hsz, hlen]
  rw [← hu, ← hlo] at hI
  have hbd : ∀ x : Int, 0 ≤ x → x < 30 → badB (newG (-1) 0 aP aC aB 30 bad) x = hasI bad x := fun x h2 h3 => new_bad (by omega)
  have hb0 := hbd 0 (by omega) (by omega)
  have hb1 := hbd 1 (by omega) (by omega)
  rw [h0] at hb0
  rw [h1] at hb1
  have hl4 : (fmtT (newG (-1) 0 aP aC aB 30 bad)).lost.length ≤ 4 := Nat.le_trans (nodup_le hI.ln (fun x hx => by
    have := hI.ls x hx
    exact has_mem.1 ((hbd x this.1 (by omega)).symm.trans this.2.2))) hl
  have hlen24 : (fmtT (newG (-1) 0 aP aC aB 30 bad)).uses.length = 24 := by
    have := hI.len
    rcases hI.all hb0 hb1 with h | h <;> omega
  have hnb : fmtBad (newG (-1) 0 aP aC aB 30 bad) = false := by
    unfold fmtBad
    rw [hb0, hb1, hsz, hlen24]
    rfl
  obtain ⟨c', e1, e2⟩ := new_format (after := -1) (keep := 0) (aP := aP) (aC := aC) (aB := aB) (n := 30) (bad := bad) (by omega) (by omega) hnb
  have hblk := new_block (after := -1) (keep := 0) (aP := aP) (aC := aC) (aB := aB) (n := 30) (bad := bad) (i := 0) (by omega)
  refine ⟨c', e1, ?_, by rw [e2]; rfl, ⟨hI.un, hlen24, fun x hx => ?_, hI.ln, fun x hx => ?_, fun x h2 h3 h4 => ?_, (show (0 : Int) ≤ 1 by decide), (show (0 : Int) ≤ 0 ∧ (0 : Int) ≤ 1 by decide)⟩⟩
  · rw [e2]
    refine bads_set (c := newG (-1) 0 aP aC aB 30 bad) hblk ?_
    show false = hasI bad ((0 : Nat) : Int)
    exact h0.symm
  · have := hI.us x hx
    exact ⟨this.1, by omega, (hbd x (by omega) (by omega)).symm.trans this.2.2, fun h => by have h5 := (hI.ls x h).2.2; rw [this.2.2] at h5; cases h5⟩
  · have := hI.ls x hx
    refine ⟨?_, by omega⟩
    rcases (show x < 2 ∨ 2 ≤ x by omega) with h | h
    · rcases (show x = 0 ∨ x = 1 by omega) with rfl | rfl
      · rw [hb0] at this; exact absurd this.2.2 (by simp)
      · rw [hb1] at this; exact absurd this.2.2 (by simp)
    · exact h
  · exact hI.lb x (by omega) (by omega) ((hbd x (by omega) h3).trans h4)
end Go.Proofs.YtkfcpjohblddmaaGreat
end
section
/- Walks: a call of a law's script. -/
namespace Go.Proofs.YtkfcpjohblddmaaGreat
open Go.K
set_option linter.unusedVariables false
set_option linter.unusedSimpArgs false
/-- Losing a block: the error, the table, the chip. -/
def LoseD (t : TS) (c : Chip) (b : Int) (r : Int × TS × Chip) : Prop :=
  (spareB t c.blocks.length b = true → ∃ l, l.Perm (t.lost ++ [b]) ∧ r = keepC t t.uses l c) ∧ (spareB t c.blocks.length b = false → r = (1, t, c))
def SwapD (t : TS) (c : Chip) (i b : Int) (r : Int × TS × Chip) : Prop :=
  (((atT t i).2 && spareB t c.blocks.length b) = true → ∃ l, l.Perm (t.lost ++ [at0 t.uses i]) ∧ r = keepC t (t.uses.set i.toNat b) l c) ∧ (((atT t i).2 && spareB t c.blocks.length b) = false → r = (1, t, c))
def evn (k : Int) : Bool := decide (ibits .and .i64 k 1 = 0)
def DoD (t : TS) (c : Chip) (o : OpV) (b : Int) (r : Int × TS × Chip) : Prop := (evn o.kind = true → LoseD t c b r) ∧ (evn o.kind = false → SwapD t c o.logical b r)
/-- What a table's method gives. -/
def TabR (a : Nat) (t : Tab) (D : Int × TS × Chip → Prop) (v : Value) (H : Hp) : Prop :=
  ∃ (t' : Tab) (e : Int) (c' : Chip), t'.b = t.b ∧ v = .int .i64 e ∧ H = tabH a t' ++ (chH c' ++ []) ∧ c'.aC = a ∧ D (e, t'.ts, c')
theorem tab_same {a : Nat} {t : Tab} {c : Chip} {D : Int × TS × Chip → Prop} (ha : c.aC = a) (h : D (1, t.ts, c)) : TabR a t D (.int .i64 1) (tabH a t ++ (chH c ++ [])) := ⟨t, 1, c, rfl, rfl, rfl, ha, h⟩
theorem tab_kept {a : Nat} {t : Tab} {c : Chip} {u l : List Int} {D : Int × TS × Chip → Prop} {v : Value} {H : Hp} (ha : c.aC = a) (h : KeptR a t c u l v H) (hD : ∀ l', l'.Perm l → D (keepC t.ts u l' c)) : TabR a t D v H := by
  obtain ⟨t', l', h1, h2, rfl, rfl, h3⟩ := h
  refine ⟨t', _, _, h1, rfl, rfl, (keepC_aC _ _ _ _).trans ha, ?_⟩
  rw [h3]
  exact hD l' h2
section
variable {c : Chip} {a : Nat} {t : Tab}
theorem loseD_fn (ha : c.aC = a) {b : Int} (hu : t.u.list.length ≤ 1000) (hl : t.l.list.length ≤ 11) (hn : 0 ≤ t.next) (har : 0 ≤ t.area ∧ t.area ≤ 1) : Does Tryz.prog 115 [ptr t.b, .int .i64 b] (tabH a t ++ (chH c ++ [])) (TabR a t (LoseD t.ts c b)) :=
  (loseM_fn ha hu hl hn har).mono fun v H h => by
    split at h
    · rename_i hs
      exact tab_kept ha h (fun l' hp => ⟨fun _ => ⟨l', hp, rfl⟩, fun h2 => by rw [hs] at h2; cases h2⟩)
    · rename_i hs
      obtain ⟨rfl, rfl⟩ := h
      exact tab_same ha ⟨fun h2 => absurd h2 hs, fun _ => rfl⟩
theorem swapD_fn (ha : c.aC = a) {i b : Int} (hu : t.u.list.length ≤ 1000) (hl : t.l.list.length ≤ 11) (hn : 0 ≤ t.next) (har : 0 ≤ t.area ∧ t.area ≤ 1) : Does Tryz.prog 114 [ptr t.b, .int .i64 i, .int .i64 b] (tabH a t ++ (chH c ++ [])) (TabR a t (SwapD t.ts c i b)) :=
  (swap_fn ha hu hl hn har).mono fun v H h => by
    split at h
    · rename_i hs
      exact tab_kept ha h (fun l' hp => ⟨fun _ => ⟨l', hp, rfl⟩, fun h2 => by rw [hs] at h2; cases h2⟩)
    · rename_i hs
      obtain ⟨rfl, rfl⟩ := h
      exact tab_same ha ⟨fun h2 => absurd h2 hs, fun _ => rfl⟩
theorem TabR.op {o : OpV} {b : Int} {v : Value} {H : Hp} (D : Int × TS × Chip → Prop) (hD : ∀ r, D r → DoD t.ts c o b r) (h : TabR a t D v H) : TabR a t (DoD t.ts c o b) v H := by
  obtain ⟨t', e, c', h1, h2, h3, h4, h5⟩ := h
  exact ⟨t', e, c', h1, h2, h3, h4, hD _ h5⟩
end
end Go.Proofs.YtkfcpjohblddmaaGreat
end
section
/- What every row of these laws opens its arguments by. -/
namespace Go.Proofs.YtkfcpjohblddmaaGreat
open Go.ChangeShapes Go.WideShapes Go.ChangeAt Go.RowKit Go.K
set_option linter.unusedVariables false
set_option linter.unusedSimpArgs false
set_option linter.constructorNameAsVariable false
set_option maxRecDepth 100000
abbrev tI' : TypeId := 3
theorem own : ownKnob Tryz.prog.godebug = none := by kernel_rfl
theorem laidOut : laidOutB Tryz.prog = true := by kernel_rfl
theorem row_op {row : List Value} (h : Conf [some .i64, some .i64, some .i64, none, some .i64] row) : ∃ x : OpV, row = Cel.cs x := by
  obtain ⟨v0, v1, v2, v3, v4, rfl⟩ : ∃ v0 v1 v2 v3 v4, row = [v0, v1, v2, v3, v4] := by
    have := h.len
    match row, this with
    | [v0, v1, v2, v3, v4], _ => exact ⟨v0, v1, v2, v3, v4, rfl⟩
  obtain ⟨⟨n0, rfl, _⟩, ⟨n1, rfl, _⟩, ⟨n2, rfl, _⟩, ⟨b, rfl⟩, ⟨n4, rfl, _⟩, _⟩ := h
  exact ⟨⟨n0, n1, n2, b, n4⟩, rfl⟩
section
variable {H : Type} {enc : TypeId × Value → H} {W : World} {base b1 : Nat} {sp : Nat → Bool} {held : Bool} {v : Value} {d : DataW H} {ps : List MemPlace}
theorem ints_arg (ho : Value.okWide Tryz.prog W .any base 52 v) (h : DataW.Trod enc Tryz.prog W b1 sp held 52 v d ps) : ∃ s : Sl Int, v = s.val ∧ HpOk (s.hp tI') W ∧ ∀ x ∈ s.hp tI', x.2.1 = false :=
  sl_arg Tryz.underlying52 (ks := [some .i64]) (by kernel_rfl) rfl (by decide) (fun _ h => row_int h) tI' ho h
theorem i64_arg (ho : Value.okWide Tryz.prog W .any base 3 v) : ∃ n, v = .int .i64 n := okWide_int Tryz.underlying3 ho
theorem bool_arg (ho : Value.okWide Tryz.prog W .any base 4 v) : ∃ b, v = .bool b := okWide_bool Tryz.underlying4 ho
end
theorem ok_app {L M : Hp} {W : World} (h1 : HpOk L W) (h2 : HpOk M W) (r1 : ∀ x ∈ L, x.2.1 = false) (r2 : ∀ x ∈ M, x.2.1 = false) : HpOk (L ++ M) W ∧ ∀ x ∈ L ++ M, x.2.1 = false := by
  refine ⟨⟨List.pairwise_append.2 ⟨h1.far, h2.far, fun x hx y hy _ => ⟨r1 x hx, r2 y hy⟩⟩, fun x hx => ?_⟩, fun x hx => ?_⟩
  · rcases List.mem_append.1 hx with h | h
    · exact h1.here x h
    · exact h2.here x h
  · rcases List.mem_append.1 hx with h | h
    · exact r1 x h
    · exact r2 x h
theorem ok_nil {L : Hp} {W : World} (h1 : HpOk L W) (r1 : ∀ x ∈ L, x.2.1 = false) : HpOk (L ++ []) W ∧ ∀ x ∈ L ++ [], x.2.1 = false := by
  rw [List.append_nil]; exact ⟨h1, r1⟩
end Go.Proofs.YtkfcpjohblddmaaGreat
end
section
/- The plain laws of records in pages: what was written is read; one turned bit is mended; a torn page is none. -/
namespace Go.Proofs.YtkfcpjohblddmaaGreat
open Go.K
set_option linter.unusedVariables false
set_option linter.unusedSimpArgs false

/-! sums without carry -/
def XS (f : Nat → Nat) (n : Nat) : Nat := (List.range n).foldl (fun s j => s ^^^ f j) 0
theorem xs_succ (f : Nat → Nat) (n : Nat) : XS f (n + 1) = XS f n ^^^ f n := by simp [XS, List.range_succ]
theorem xs_same {f g : Nat → Nat} : ∀ {n : Nat}, (∀ j < n, g j = f j) → XS g n = XS f n
  | 0, _ => rfl
  | n + 1, h => by rw [xs_succ, xs_succ, xs_same (n := n) (fun j hj => h j (by omega)), h n (by omega)]
theorem xs_flip {f g : Nat → Nat} {d k : Nat} : ∀ {n : Nat}, k < n → (∀ j < n, j ≠ k → g j = f j) → g k = f k ^^^ d → XS g n = XS f n ^^^ d
  | 0, h, _, _ => by omega
  | n + 1, h, h1, h2 => by
    rw [xs_succ, xs_succ]
    by_cases e : k = n
    · subst e
      rw [xs_same (n := k) (fun j hj => h1 j (by omega) (by omega)), h2, Nat.xor_assoc]
    · rw [xs_flip (n := n) (by omega) (fun j hj hne => h1 j (by omega) hne) h2, h1 n (by omega) (fun e' => e e'.symm)]
      rw [Nat.xor_assoc, Nat.xor_assoc, Nat.xor_comm d]
theorem xs_if (p : Nat → Bool) (g : Nat → Nat) (s : Nat) : ∀ n, (List.range n).foldl (fun s k => if p k = true then s ^^^ g k else s) s = s ^^^ XS (fun k => if p k = true then g k else 0) n
  | 0 => by simp [XS]
  | n + 1 => by
    rw [List.range_succ, List.foldl_append, xs_if p g s n, xs_succ]
    simp only [List.foldl_cons, List.foldl_nil]
    split
    · rw [Nat.xor_assoc]
    · simp
def XB (j : Nat) (b : By) : Nat := XS (fun k => if b.getLsbD k = true then placeN (8 * j + k) else 0) 8
theorem foldB_xs (j : Nat) (b : By) (s : Nat) : foldB j (bitsOf b) s = s ^^^ XB j b := by
  unfold foldB bitsOf
  rw [List.foldl_filter]
  exact xs_if (fun k => b.getLsbD k) (fun k => placeN (8 * j + k)) s 8
theorem lineU_xs (d : Dat) : ∀ i, lineU d i = XS (fun j => XB j (d.toList.getD j 0)) i
  | 0 => rfl
  | i + 1 => by rw [lineU_succ, xs_succ, foldB_xs, lineU_xs d i]
theorem one_bit : ∀ k < 8, ∀ j < 8, (1#8 <<< k).getLsbD j = decide (j = k) := by decide
theorem XB_flip {j k : Nat} (b : By) (hk : k < 8) : XB j (b ^^^ (1#8 <<< k)) = XB j b ^^^ placeN (8 * j + k) := by
  unfold XB
  refine xs_flip (k := k) hk (fun i hi hne => ?_) ?_
  · rw [BitVec.getLsbD_xor, one_bit k hk i hi]
    simp [hne]
  · rw [BitVec.getLsbD_xor, one_bit k hk k hk]
    cases b.getLsbD k <;> simp
theorem getD_at {n : Nat} (v : Vector By n) {j : Nat} (h : j < n) : v.toList.getD j 0 = v[j] := by simp [List.getD_eq_getElem?_getD, h]
theorem flipD_at (d : Dat) {i j : Nat} (hi : i < 2048) (h : j < 256) : (flipD d i)[j] = if i / 8 = j then d[j] ^^^ (1#8 <<< (i % 8)) else d[j] := by
  unfold flipD
  rw [dif_pos (show i / 8 < 256 by omega), Vector.getElem_set]
  split
  · rename_i e; subst e; rfl
  · rfl
theorem flipD_twice (d : Dat) {i : Nat} (hi : i < 2048) : flipD (flipD d i) i = d := by
  apply Vector.ext
  intro j hj
  rw [flipD_at _ hi hj, flipD_at _ hi hj]
  split
  · rw [BitVec.xor_assoc, BitVec.xor_self, BitVec.xor_zero]
  · rfl
theorem line_flip (d : Dat) {i : Nat} (hi : i < 2048) : lineN (flipD d i) = lineN d ^^^ placeN i := by
  unfold lineN
  rw [lineU_xs, lineU_xs]
  refine xs_flip (k := i / 8) (by omega) (fun j hj hne => ?_) ?_
  · rw [getD_at _ hj, getD_at _ hj, flipD_at d hi hj, if_neg (fun e => hne e.symm)]
  · rw [getD_at _ (show i / 8 < 256 by omega), getD_at _ (show i / 8 < 256 by omega), flipD_at d hi (by omega), if_pos rfl, XB_flip _ (by omega)]
    congr 2
    omega
theorem pop_flip : ∀ b : By, ∀ k < 8, pop8 (b ^^^ (1#8 <<< k)) % 2 = (pop8 b % 2) ^^^ 1 := all8 (by decide +kernel)
theorem oddU_xs (d : Dat) (i : Nat) : oddU d i = XS (fun j => pop8 (d.toList.getD j 0) % 2) i := rfl
theorem odd_flip (d : Dat) {i : Nat} (hi : i < 2048) : oddN (flipD d i) = oddN d ^^^ 1 := by
  unfold oddN
  rw [oddU_xs, oddU_xs]
  refine xs_flip (k := i / 8) (by omega) (fun j hj hne => ?_) ?_
  · rw [getD_at _ hj, getD_at _ hj, flipD_at d hi hj, if_neg (fun e => hne e.symm)]
  · rw [getD_at _ (show i / 8 < 256 by omega), getD_at _ (show i / 8 < 256 by omega), flipD_at d hi (by omega), if_pos rfl, pop_flip _ _ (by omega)]

/-! the check bits -/
theorem and12 (x : Nat) : x &&& 4095 = x % 4096 := Nat.and_two_pow_sub_one_eq_mod x 12
theorem and13 (x : Nat) : x &&& 8191 = x % 8192 := Nat.and_two_pow_sub_one_eq_mod x 13
theorem or12 {x : Nat} (h : x < 4096) : x ||| 4096 = 4096 + x := by
  have := Nat.two_pow_add_eq_or_of_lt (i := 12) h 1
  rw [show 2 ^ 12 * 1 = 4096 from rfl] at this
  rw [Nat.or_comm]; omega
theorem pop_or : ∀ s < 4096, popN (4096 + s) = popN s + 1 := all12 (by decide +kernel)
theorem lineN_lt (d : Dat) : lineN d < 4096 := lineU_lt d 256 (Nat.le_refl _)
theorem oddN_lt (d : Dat) : oddN d < 2 := oddU_lt d 256
theorem check_line (d : Dat) : checkN d % 4096 = lineN d := by
  have h := lineN_lt d
  unfold checkN
  split
  · omega
  · rw [or12 h]; omega
theorem check_par (d : Dat) : (oddN d + popN (checkN d)) % 2 = 0 := by
  unfold checkN
  split
  · assumption
  · rename_i h; rw [or12 (lineN_lt d), pop_or _ (lineN_lt d)]; omega
theorem fix_same {d : Dat} {c : Nat} (hc : c % 8192 = checkN d) : hamFix d c = (d, 0, 0) := by
  have h1 : c % 4096 = lineN d := by rw [← check_line, ← hc]; omega
  unfold hamFix
  simp only []
  rw [and12, and13, h1, hc, Nat.xor_self, check_par, if_pos ⟨rfl, rfl⟩]
theorem place_ok : ∀ i < 2048, ¬ (placeN i &&& (placeN i - 1) = 0) ∧ placeN i - 1 - lenN (placeN i) = i ∧ lenN (placeN i) + 1 ≤ placeN i := by decide +kernel
theorem fix_data {d : Dat} {c i : Nat} (hi : i < 2048) (hc : c % 8192 = checkN d) : hamFix (flipD d i) c = (d, 1, 0) := by
  have h1 : c % 4096 = lineN d := by rw [← check_line, ← hc]; omega
  obtain ⟨p1, p2, p3⟩ := place_ok i hi
  have hs : (lineN d ^^^ placeN i) ^^^ lineN d = placeN i := by rw [Nat.xor_comm, ← Nat.xor_assoc, Nat.xor_self, Nat.zero_xor]
  have ho : (oddN d ^^^ 1) = 1 - oddN d := by
    have := oddN_lt d
    rcases (show oddN d = 0 ∨ oddN d = 1 by omega) with h | h <;> rw [h] <;> rfl
  have hp := check_par d
  have hl := oddN_lt d
  unfold hamFix
  simp only []
  rw [and12, and13, h1, hc, line_flip d hi, odd_flip d hi, hs, ho, if_neg (by omega), if_neg (by omega), if_neg p1, if_neg (by omega), p2, flipD_twice d hi]
theorem xor_mod8 (a b : Nat) : (a ^^^ b) % 256 = a % 256 ^^^ b % 256 := Nat.xor_mod_two_pow (n := 8)
theorem xor_div8 (a b : Nat) : (a ^^^ b) / 256 = a / 256 ^^^ b / 256 := Nat.xor_div_two_pow (n := 8)
theorem pop_flipN {c j : Nat} (hc : c < 65536) (hj : j < 16) : popN (c ^^^ 2 ^ j) % 2 = (popN c + 1) % 2 := by
  have e : ∀ x y : Nat, BitVec.ofNat 8 (x ^^^ y) = BitVec.ofNat 8 x ^^^ BitVec.ofNat 8 y := fun x y => by
    apply BitVec.eq_of_toNat_eq
    rw [BitVec.toNat_xor, BitVec.toNat_ofNat, BitVec.toNat_ofNat, BitVec.toNat_ofNat, Nat.xor_mod_two_pow]
  have hx : ∀ n : Nat, (n % 2 ^^^ 1) = (n + 1) % 2 := fun n => by
    rcases (show n % 2 = 0 ∨ n % 2 = 1 by omega) with h | h <;> rw [h] <;> simp <;> omega
  unfold popN
  rw [xor_mod8, xor_div8, e, e]
  rcases Nat.lt_or_ge j 8 with h | h
  · have h1 : ∀ j < 8, BitVec.ofNat 8 (2 ^ j / 256) = 0#8 ∧ BitVec.ofNat 8 (2 ^ j % 256) = 1#8 <<< j := by decide
    rw [(h1 j h).1, (h1 j h).2, BitVec.xor_zero]
    have := pop_flip (BitVec.ofNat 8 (c % 256)) j h
    rw [hx] at this
    omega
  · have h1 : ∀ j < 8, BitVec.ofNat 8 (2 ^ (8 + j) / 256) = 1#8 <<< j ∧ BitVec.ofNat 8 (2 ^ (8 + j) % 256) = 0#8 := by decide
    obtain ⟨k, rfl⟩ : ∃ k, j = 8 + k := ⟨j - 8, by omega⟩
    rw [(h1 k (by omega)).1, (h1 k (by omega)).2, BitVec.xor_zero]
    have := pop_flip (BitVec.ofNat 8 (c / 256)) k (by omega)
    rw [hx] at this
    omega
theorem pow_and : ∀ j < 12, 2 ^ j &&& (2 ^ j - 1) = 0 := by decide
theorem fix_check {d : Dat} {c j : Nat} (hj : j < 13) (hc : c % 8192 = checkN d ^^^ 2 ^ j) : hamFix d c = (d, 1, 0) := by
  have hlt : checkN d ^^^ 2 ^ j < 8192 := Nat.xor_lt_two_pow (n := 13) (checkN_lt d) (Nat.pow_lt_pow_right (by omega) hj)
  have h1 : c % 4096 = lineN d ^^^ (2 ^ j % 4096) := by
    rw [← check_line, ← Nat.xor_mod_two_pow (n := 12) (a := checkN d) (b := 2 ^ j), ← hc]
    omega
  have hs : lineN d ^^^ (lineN d ^^^ (2 ^ j % 4096)) = 2 ^ j % 4096 := by rw [← Nat.xor_assoc, Nat.xor_self, Nat.zero_xor]
  have hp := check_par d
  have hl := oddN_lt d
  have hq := pop_flipN (c := checkN d) (j := j) (by have := checkN_lt d; omega) (by omega)
  have hodd : (oddN d + popN (checkN d ^^^ 2 ^ j)) % 2 = 1 := by omega
  unfold hamFix
  simp only []
  rw [and12, and13, h1, hc, hs, hodd, if_neg (by omega), if_neg (by omega), if_pos]
  rcases (show j < 12 ∨ j = 12 by omega) with h | h
  · rw [Nat.mod_eq_of_lt (show 2 ^ j < 4096 from Nat.pow_lt_pow_right (n := 12) (by omega) h)]
    exact pow_and j h
  · subst h; rfl

/-! pages -/
theorem chk_bytes (a b : By) : (valUp [a, b] 2).toNat = a.toNat + 256 * b.toNat := by
  have e : valUp [a, b] 2 = (0#64 ||| (a.setWidth 64 <<< 0)) ||| (b.setWidth 64 <<< 8) := rfl
  have ha := a.isLt
  have hb := b.isLt
  have h1 : ((a.setWidth 64 : Wd) <<< 0).toNat = a.toNat := by simp [BitVec.toNat_setWidth]; omega
  have h2 : ((b.setWidth 64 : Wd) <<< 8).toNat = 256 * b.toNat := by
    rw [BitVec.toNat_shiftLeft, BitVec.toNat_setWidth, Nat.shiftLeft_eq]; omega
  rw [e, BitVec.toNat_or, BitVec.toNat_or, h1, h2]
  have := Nat.two_pow_add_eq_or_of_lt (i := 8) ha b.toNat
  rw [show 2 ^ 8 = 256 from rfl] at this
  rw [show (0#64).toNat = 0 from rfl, Nat.zero_or, Nat.or_comm]
  omega
theorem drop_two (p : Pg) : (p.toList.drop 256).take 2 = [p[256], p[257]] := by
  apply List.ext_getElem?
  intro i
  rw [List.getElem?_take, List.getElem?_drop]
  rcases i with _ | _ | i
  · simp
  · simp
  · simp; omega
theorem chk_eq (p : Pg) : chkOf p = p[256].toNat + 256 * p[257].toNat := by
  unfold chkOf
  rw [drop_two, chk_bytes]
  have := p[256].isLt
  have := p[257].isLt
  omega
theorem pop_top : ∀ b : By, 224 ≤ b.toNat → pop8 b ≥ 3 := all8 (by decide +kernel)
theorem top_and : ∀ a < 256, (a + 256 * (255#8).toNat) &&& 57344 = 57344 := by decide +kernel
/-- A page whose last byte was never written is no record. -/
theorem readF_torn {p : Pg} (h : p[257] = 255#8) : (readF p).2.2.2 ≠ 0 := by
  cases hb : blankB p with
  | true => rw [readF_blank hb]; decide
  | false =>
    have hc : chkOf p &&& 57344 = 57344 := by
      rw [chk_eq, h]
      exact top_and _ p[256].isLt
    rw [readF_above hb (by rw [hc]; decide)]
    simp
theorem zeros_ge (p : Pg) (l : List Nat) : ∀ n, (∀ i ∈ l, i < n) → l.Nodup → (l.map fun i => pop8 (~~~ (p.toList.getD i 0))).sum ≤ zerosU p n
  | 0, h, _ => by
    cases l with
    | nil => simp
    | cons x l => exact absurd (h x (.head _)) (by omega)
  | n + 1, h, hn => by
    rw [zerosU_succ]
    by_cases hm : n ∈ l
    · have h1 := zeros_ge p (l.erase n) n (fun i hi => by
        have h2 := (hn.mem_erase_iff).1 hi
        have := h i h2.2
        omega) (hn.erase n)
      have h3 : (l.map fun i => pop8 (~~~ (p.toList.getD i 0))).sum = pop8 (~~~ (p.toList.getD n 0)) + ((l.erase n).map fun i => pop8 (~~~ (p.toList.getD i 0))).sum := by
        have := (List.perm_cons_erase hm).map fun i => pop8 (~~~ (p.toList.getD i 0))
        rw [this.sum_nat]
        simp
      omega
    · have := zeros_ge p l n (fun i hi => by
        have := h i hi
        rcases Nat.lt_or_ge i n with h2 | h2
        · exact h2
        · exact absurd (show n ∈ l by rwa [show n = i by omega]) hm) hn
      omega
theorem not_blank {p : Pg} (h : 2 ≤ pop8 (~~~ p[0]) + pop8 (~~~ p[1]) + pop8 (~~~ p[257])) : blankB p = false := by
  have := zeros_ge p [0, 1, 257] 258 (by simp) (by simp)
  simp only [List.map_cons, List.map_nil, List.sum_cons, List.sum_nil] at this
  rw [getD_at p (show 0 < 258 by omega), getD_at p (show 1 < 258 by omega), getD_at p (show 257 < 258 by omega)] at this
  unfold blankB
  simp; omega
end Go.Proofs.YtkfcpjohblddmaaGreat
end
section
/- The plain laws of records in pages, second part. -/
namespace Go.Proofs.YtkfcpjohblddmaaGreat
open Go.K
set_option linter.unusedVariables false
set_option linter.unusedSimpArgs false

/-- a bit of a page turned -/
def flipP (p : Pg) (i : Nat) : Pg := if h : i / 8 < 258 then p.set (i / 8) (p[i / 8] ^^^ (1#8 <<< (i % 8))) else p
theorem flipP_at (p : Pg) {i j : Nat} (hi : i < 2064) (h : j < 258) : (flipP p i)[j] = if i / 8 = j then p[j] ^^^ (1#8 <<< (i % 8)) else p[j] := by
  unfold flipP
  rw [dif_pos (show i / 8 < 258 by omega), Vector.getElem_set]
  split
  · rename_i e; subst e; rfl
  · rfl
theorem datOf_at (p : Pg) {j : Nat} (h : j < 256) : (datOf p)[j] = p[j] := by simp [datOf]
theorem pageOf_lo (d : Dat) {j : Nat} (h : j < 256) : (pageOf d)[j] = d[j] := by
  unfold pageOf
  rw [putV_at _ _ _ _ (by omega), if_neg (by omega), putV_at _ _ _ _ (by omega), if_pos (by simp; omega), Nat.sub_zero, getD_at d h]
theorem datOf_page (d : Dat) : datOf (pageOf d) = d := by
  apply Vector.ext
  intro j hj
  rw [datOf_at _ hj, pageOf_lo d hj]
theorem page_take (d : Dat) : (pageOf d).toList.take 256 = d.toList := by
  apply List.ext_getElem
  · simp
  · intro j h1 h2
    simp at h2
    rw [List.getElem_take]
    have := pageOf_lo d h2
    simpa using this
theorem pageOf_256 (d : Dat) : (pageOf d)[256].toNat = checkN d % 256 := by
  unfold pageOf
  rw [putV_at _ _ _ _ (by omega), if_pos (by rw [numB_len]; omega)]
  show ((BitVec.ofNat 64 (checkN d)).setWidth 8).toNat = _
  have := checkN_lt d
  rw [BitVec.toNat_setWidth, BitVec.toNat_ofNat]
  omega
theorem pageOf_257 (d : Dat) : (pageOf d)[257].toNat = checkN d / 256 := by
  unfold pageOf
  rw [putV_at _ _ _ _ (by omega), if_pos (by rw [numB_len]; omega)]
  show (((BitVec.ofNat 64 (checkN d)) >>> 8).setWidth 8).toNat = _
  have := checkN_lt d
  rw [BitVec.toNat_setWidth, BitVec.toNat_ushiftRight, BitVec.toNat_ofNat, Nat.shiftRight_eq_div_pow]
  omega
theorem chk_page (d : Dat) : chkOf (pageOf d) = checkN d := by rw [chk_eq, pageOf_256, pageOf_257]; omega
theorem datW_lo {k : By} {b : List By} {j : Nat} (h : j < 252) : (datW k b)[j] = (dat0 k b)[j] := by
  unfold datW sumD
  rw [putV_at _ _ _ _ (by omega), if_neg (by omega)]
theorem datW_0 (k : By) (b : List By) : (datW k b)[0] = k := by
  rw [datW_lo (by omega)]
  unfold dat0
  rw [putV_at _ _ _ _ (by omega), if_neg (by omega)]
  simp
theorem datW_1 (k : By) (b : List By) : (datW k b)[1] = BitVec.ofNat 8 b.length := by
  rw [datW_lo (by omega)]
  unfold dat0
  rw [putV_at _ _ _ _ (by omega), if_neg (by omega)]
  simp
theorem datW_body {k : By} {b : List By} (hb : b.length ≤ 240) : bodyOf (datW k b) = b := by
  unfold bodyOf
  have h1 : ((datW k b)[1]).toNat = b.length := by rw [datW_1, BitVec.toNat_ofNat]; omega
  rw [h1, if_pos hb]
  apply List.ext_getElem
  · simp; omega
  · intro j h2 h3
    rw [List.getElem_take, List.getElem_drop]
    have : (datW k b)[2 + j] = b[j] := by
      rw [datW_lo (by omega)]
      unfold dat0
      rw [putV_at _ _ _ _ (by omega), if_pos (by omega)]
      simp [List.getD_eq_getElem?_getD, h3]
    simpa using this
theorem not_wrong {k : By} {b : List By} (h : wrong k b = false) : k ≠ 0 ∧ k ≠ 255#8 ∧ b.length ≤ 240 := by
  unfold wrong at h
  simp only [Bool.or_eq_false_iff, decide_eq_false_iff_not] at h
  refine ⟨fun e => h.1.1 (by rw [e]; rfl), fun e => h.1.2 (by rw [e]; rfl), by omega⟩
/-- A page that is mended into a record is it. -/
theorem readF_of {p : Pg} {k : By} {b : List By} {n : Int} (hw : wrong k b = false) (hb : blankB p = false) (ha : ¬ 1 < popN (chkOf p &&& 57344)) (hf : hamFix (datOf p) (chkOf p) = (datW k b, n, 0)) : readF p = (k, b, n + (popN (chkOf p &&& 57344) : Nat), 0) := by
  obtain ⟨h1, h2, h3⟩ := not_wrong hw
  have hwr : writeF k b = (pageW k b, 0) := by unfold writeF; rw [if_neg (by rw [hw]; simp)]
  rw [readF_ok hf hb ha rfl]
  · simp only [datW_0, datW_body h3]
  · simp only [datW_0, datW_body h3, hwr]
    intro h
    rcases h with h | h | h
    · exact h rfl
    · rw [datW_1, BitVec.toNat_ofNat] at h; omega
    · exact h (page_take _)
theorem and_top (x : Nat) (h : x < 8192) : x &&& 57344 = 0 := by
  have : ∀ b < 8, ∀ a < 1024, (1024 * b + a) &&& 57344 = 0 := by decide +kernel
  have h1 := this (x / 1024) (by omega) (x % 1024) (by omega)
  rwa [Nat.div_add_mod] at h1
theorem pop_ff : ∀ b : By, b ≠ 255#8 → 1 ≤ pop8 (~~~ b) := all8 (by decide +kernel)
theorem pop_lo : ∀ b : By, b.toNat < 32 → 3 ≤ pop8 (~~~ b) := all8 (by decide +kernel)
theorem pop_one : ∀ b : By, ∀ k < 8, pop8 (~~~ b) ≤ pop8 (~~~ (b ^^^ (1#8 <<< k))) + 1 := all8 (by decide +kernel)
/-- Enough of a record's page is 0. -/
theorem page_zeros {k : By} {b : List By} (hw : wrong k b = false) : 1 ≤ pop8 (~~~ (pageW k b)[0]) ∧ 1 ≤ pop8 (~~~ (pageW k b)[1]) ∧ 3 ≤ pop8 (~~~ (pageW k b)[257]) := by
  obtain ⟨h1, h2, h3⟩ := not_wrong hw
  refine ⟨pop_ff _ ?_, pop_ff _ ?_, pop_lo _ ?_⟩
  · rw [show (pageW k b)[0] = (datW k b)[0] from pageOf_lo _ (by omega), datW_0]; exact h2
  · rw [show (pageW k b)[1] = (datW k b)[1] from pageOf_lo _ (by omega), datW_1]
    intro e
    have := congrArg BitVec.toNat e
    rw [BitVec.toNat_ofNat] at this
    have e2 : (255#8).toNat = 255 := rfl
    omega
  · rw [show (pageW k b)[257].toNat = checkN (datW k b) / 256 from pageOf_257 _]
    have := checkN_lt (datW k b)
    omega
/-- What was written is read. -/
theorem readF_page {k : By} {b : List By} (hw : wrong k b = false) : readF (pageW k b) = (k, b, 0, 0) := by
  obtain ⟨z1, z2, z3⟩ := page_zeros hw
  have hc : chkOf (pageW k b) = checkN (datW k b) := chk_page _
  have ht : chkOf (pageW k b) &&& 57344 = 0 := by rw [hc]; exact and_top _ (checkN_lt _)
  rw [readF_of hw (not_blank (by omega)) (by rw [ht]; decide) (n := 0), ht]
  · rfl
  · rw [show datOf (pageW k b) = datW k b from datOf_page _, hc]
    exact fix_same (Nat.mod_eq_of_lt (checkN_lt _))
theorem flip_dat {p : Pg} {i : Nat} (hi : i < 2048) : datOf (flipP p i) = flipD (datOf p) i := by
  apply Vector.ext
  intro j hj
  rw [datOf_at _ hj, flipP_at p (by omega) (by omega), flipD_at _ hi hj, datOf_at _ hj]
theorem flip_dat2 {p : Pg} {i : Nat} (hi : 2048 ≤ i) (h2 : i < 2064) : datOf (flipP p i) = datOf p := by
  apply Vector.ext
  intro j hj
  rw [datOf_at _ hj, flipP_at p h2 (by omega), if_neg (by omega), datOf_at _ hj]
theorem pow_lo : ∀ k < 8, (1#8 <<< k).toNat = 2 ^ k ∧ 2 ^ k % 256 = 2 ^ k ∧ 2 ^ k / 256 = 0 ∧ 2 ^ (8 + k) % 256 = 0 ∧ 2 ^ (8 + k) / 256 = 2 ^ k := by decide
theorem flip_chk {p : Pg} {i : Nat} (hi : 2048 ≤ i) (h2 : i < 2064) : chkOf (flipP p i) = chkOf p ^^^ 2 ^ (i - 2048) := by
  have ha := p[256].isLt
  have hb := p[257].isLt
  have key : ∀ x y : Nat, x % 256 = y % 256 → x / 256 = y / 256 → x = y := fun x y h1 h2 => by omega
  rw [chk_eq, chk_eq, flipP_at p h2 (by omega), flipP_at p h2 (by omega)]
  have hx : ∀ (b : By) (k : Nat), k < 8 → (b ^^^ (1#8 <<< k)).toNat = b.toNat ^^^ 2 ^ k := fun b k hk => by rw [BitVec.toNat_xor, (pow_lo k hk).1]
  have hlt : ∀ (b : By) (k : Nat), k < 8 → b.toNat ^^^ 2 ^ k < 256 := fun b k hk => Nat.xor_lt_two_pow (n := 8) b.isLt (Nat.pow_lt_pow_right (by omega) hk)
  rcases (show i < 2056 ∨ 2056 ≤ i by omega) with h | h
  · obtain ⟨k, rfl⟩ : ∃ k, i = 2048 + k := ⟨i - 2048, by omega⟩
    have hk : k < 8 := by omega
    rw [if_pos (by omega), if_neg (by omega), show (2048 + k) % 8 = k by omega, show 2048 + k - 2048 = k by omega, hx _ _ hk]
    have h3 := hlt p[256] k hk
    obtain ⟨_, q1, q2, _, _⟩ := pow_lo k hk
    apply key
    · rw [xor_mod8, q1, show (p[256].toNat + 256 * p[257].toNat) % 256 = p[256].toNat by omega]; omega
    · rw [xor_div8, q2, Nat.xor_zero]; omega
  · obtain ⟨k, rfl⟩ : ∃ k, i = 2056 + k := ⟨i - 2056, by omega⟩
    have hk : k < 8 := by omega
    rw [if_neg (by omega), if_pos (by omega), show (2056 + k) % 8 = k by omega, show 2056 + k - 2048 = 8 + k by omega, hx _ _ hk]
    have h3 := hlt p[257] k hk
    obtain ⟨_, _, _, q1, q2⟩ := pow_lo k hk
    apply key
    · rw [xor_mod8, q1, Nat.xor_zero]; omega
    · rw [xor_div8, q2, show (p[256].toNat + 256 * p[257].toNat) / 256 = p[257].toNat by omega]; omega
theorem flip_chk2 {p : Pg} {i : Nat} (hi : i < 2048) : chkOf (flipP p i) = chkOf p := by
  rw [chk_eq, chk_eq, flipP_at p (by omega) (by omega), flipP_at p (by omega) (by omega), if_neg (by omega), if_neg (by omega)]
theorem flip_nb {k : By} {b : List By} {i : Nat} (hw : wrong k b = false) (hi : i < 2064) : blankB (flipP (pageW k b) i) = false := by
  obtain ⟨z1, z2, z3⟩ := page_zeros hw
  apply not_blank
  rw [flipP_at _ hi (by omega), flipP_at _ hi (by omega), flipP_at _ hi (by omega)]
  have h0 := pop_one (pageW k b)[0] (i % 8) (by omega)
  have h1 := pop_one (pageW k b)[1] (i % 8) (by omega)
  have h2 := pop_one (pageW k b)[257] (i % 8) (by omega)
  split
  · split
    · omega
    · split <;> omega
  · split
    · split <;> omega
    · split <;> omega
theorem top_one : ∀ j < 16, 13 ≤ j → 2 ^ j &&& 57344 = 2 ^ j ∧ popN (2 ^ j) = 1 ∧ 2 ^ j % 8192 = 0 := by decide +kernel
/-- One turned bit is mended. -/
theorem readF_flip {k : By} {b : List By} {i : Nat} (hw : wrong k b = false) (hi : i < 2064) : readF (flipP (pageW k b) i) = (k, b, 1, 0) := by
  have hc : chkOf (pageW k b) = checkN (datW k b) := chk_page _
  have hd : datOf (pageW k b) = datW k b := datOf_page _
  have hlt := checkN_lt (datW k b)
  rcases (show i < 2048 ∨ 2048 ≤ i by omega) with h | h
  · have ht : chkOf (flipP (pageW k b) i) &&& 57344 = 0 := by rw [flip_chk2 h, hc]; exact and_top _ hlt
    rw [readF_of hw (flip_nb hw hi) (by rw [ht]; decide) (n := 1), ht]
    · rfl
    · rw [flip_dat h, flip_chk2 h, hd, hc]
      exact fix_data h (Nat.mod_eq_of_lt hlt)
  · rcases (show i < 2061 ∨ 2061 ≤ i by omega) with h2 | h2
    · have hx : checkN (datW k b) ^^^ 2 ^ (i - 2048) < 8192 := Nat.xor_lt_two_pow (n := 13) hlt (Nat.pow_lt_pow_right (by omega) (by omega))
      have ht : chkOf (flipP (pageW k b) i) &&& 57344 = 0 := by rw [flip_chk h hi, hc]; exact and_top _ hx
      rw [readF_of hw (flip_nb hw hi) (by rw [ht]; decide) (n := 1), ht]
      · rfl
      · rw [flip_dat2 h hi, flip_chk h hi, hd, hc]
        exact fix_check (j := i - 2048) (by omega) (Nat.mod_eq_of_lt hx)
    · obtain ⟨t1, t2, t3⟩ := top_one (i - 2048) (by omega) (by omega)
      have ht : chkOf (flipP (pageW k b) i) &&& 57344 = 2 ^ (i - 2048) := by
        rw [flip_chk h hi, hc, Nat.and_xor_distrib_right, and_top _ hlt, t1, Nat.zero_xor]
      rw [readF_of hw (flip_nb hw hi) (by rw [ht, t2]; omega) (n := 0), ht, t2]
      · rfl
      · rw [flip_dat2 h hi, flip_chk h hi, hd, hc]
        exact fix_same (by rw [Nat.xor_mod_two_pow (n := 13), t3, Nat.xor_zero]; exact Nat.mod_eq_of_lt hlt)
/-- A blank page in which a bit is turned is still blank. -/
theorem pop_all : pop8 (~~~ (255#8)) = 0 := by decide
end Go.Proofs.YtkfcpjohblddmaaGreat
end
section
/- Plain laws: what pages tell of plans; which plan is found when a chip is opened. -/
namespace Go.Proofs.YtkfcpjohblddmaaGreat
open Go.K
set_option linter.unusedVariables false
set_option linter.unusedSimpArgs false

theorem shrN_nat (x : Wd) : ∀ i, (shrN x i).toNat = x.toNat / 2 ^ (8 * i)
  | 0 => by simp [shrN]
  | i + 1 => by
    unfold shrN
    rw [BitVec.toNat_ushiftRight, Nat.shiftRight_eq_div_pow, shrN_nat x i, Nat.div_div_eq_div_mul, ← Nat.pow_add, Nat.mul_succ]
theorem numB_at {k i : Nat} (x : Wd) (h : i < k) : (numB k x).getD i 0 = (shrN x i).setWidth 8 := by
  simp [numB, List.getD_eq_getElem?_getD, h]
theorem val_num {k : Nat} (x : Wd) (hk : k ≤ 8) : ∀ i, i ≤ k → (valUp (numB k x) i).toNat = x.toNat % 2 ^ (8 * i)
  | 0, _ => by simp [valUp, Nat.mod_one]
  | i + 1, h => by
    have ih := val_num x hk i (by omega)
    have hlt : x.toNat % 2 ^ (8 * i) < 2 ^ (8 * i) := Nat.mod_lt _ (Nat.two_pow_pos _)
    have hb : ((shrN x i).setWidth 8).toNat = x.toNat / 2 ^ (8 * i) % 256 := by rw [BitVec.toNat_setWidth, shrN_nat]
    have hb2 := ((shrN x i).setWidth 8).isLt
    have hs : ((((shrN x i).setWidth 8).setWidth 64 : Wd) <<< (8 * i)).toNat = 2 ^ (8 * i) * ((shrN x i).setWidth 8).toNat := by
      rw [BitVec.toNat_shiftLeft, BitVec.toNat_setWidth, Nat.shiftLeft_eq, Nat.mod_eq_of_lt (show ((shrN x i).setWidth 8).toNat < 2 ^ 64 by omega), Nat.mul_comm]
      apply Nat.mod_eq_of_lt
      calc 2 ^ (8 * i) * ((shrN x i).setWidth 8).toNat < 2 ^ (8 * i) * 2 ^ 8 := Nat.mul_lt_mul_of_pos_left hb2 (Nat.two_pow_pos _)
        _ = 2 ^ (8 * i + 8) := (Nat.pow_add 2 (8 * i) 8).symm
        _ ≤ 2 ^ 64 := Nat.pow_le_pow_right (by omega) (by omega)
    rw [valUp_succ, numB_at x (by omega), BitVec.toNat_or, ih, hs, Nat.or_comm, ← Nat.two_pow_add_eq_or_of_lt hlt, hb]
    rw [show 8 * (i + 1) = 8 * i + 8 by omega, Nat.pow_add, Nat.mod_mul, show (2 : Nat) ^ 8 = 256 from rfl]
    omega
theorem val_num8 (x : Wd) : valUp (numB 8 x) 8 = x := by
  apply BitVec.eq_of_toNat_eq
  rw [val_num x (by omega) 8 (by omega)]
  exact Nat.mod_eq_of_lt x.isLt
theorem val_num1 {n : Nat} (h : n < 256) : (valUp (numB 1 (BitVec.ofInt 64 (n : Int))) 1).toNat = n := by
  rw [val_num _ (by omega) 1 (by omega), BitVec.ofInt_natCast, BitVec.toNat_ofNat]
  omega
theorem rdNum_app {k : Nat} {xs r : List By} {bad : Bool} (h : xs.length = k) : rdNum k (xs ++ r) bad = (valUp xs k, r, bad) := by
  unfold rdNum
  rw [if_neg (by simp; omega), List.take_left' h, List.drop_left' h]
theorem rdBytes_app {k : Nat} {xs r : List By} {bad : Bool} (h : xs.length = k) : rdBytes k (xs ++ r) bad = (xs, r, bad) := by
  unfold rdBytes
  rw [if_neg (by simp; omega), List.take_left' h, List.drop_left' h]
theorem byte_back {l : List Int} (h : ∀ x ∈ l, 0 ≤ x ∧ x < 256) : (l.map byteI).map intB = l := by
  rw [List.map_map]
  have : ∀ x ∈ l, (intB ∘ byteI) x = x := fun x hx => by
    have := h x hx
    show ((BitVec.ofInt 8 x).toNat : Int) = x
    rw [BitVec.toNat_ofInt]
    omega
  rw [List.map_congr_left this, List.map_id']
/-- May a plan be kept? -/
structure OkP (n : Nat) (u l : List Int) : Prop where
  n1 : 16 ≤ n
  n2 : n ≤ 40
  ul : u.length + 6 = n
  ll : l.length ≤ 40
  ur : ∀ x ∈ u, 0 ≤ x ∧ x < 256
  lr : ∀ x ∈ l, 0 ≤ x ∧ x < 256
theorem w64_in {x : Int} (h : 0 ≤ x ∧ x < 9223372036854775808) : w64 x = x := wrap64_in (by omega)
theorem readTB_plan {v : Wd} {n : Nat} {u l : List Int} (h : OkP n u l) : readTB (planBody v n u l) n = (u, l, v, true) := by
  have h1 := h.n1
  have h2 := h.n2
  have h3 := h.ul
  have h4 := h.ll
  have hn : ∀ m : Nat, m < 256 → w64 ((valUp (numB 1 (BitVec.ofInt 64 (m : Int))) 1).toNat : Int) = m := fun m hm => by
    rw [val_num1 hm]; exact w64_in (by omega)
  have e : planBody v n u l = numB 8 v ++ (numB 1 (BitVec.ofInt 64 (n : Int)) ++ (numB 1 (BitVec.ofInt 64 (u.length : Int)) ++ (numB 1 (BitVec.ofInt 64 (l.length : Int)) ++ (u.map byteI ++ (l.map byteI ++ []))))) := by
    unfold planBody numsB
    simp only [List.flatMap_cons, List.flatMap_nil, List.append_nil, List.append_assoc]
  rw [e]
  refine (readTB_yes (rdNum_app (numB_len 8 v)).symm (rdNum_app (numB_len 1 _)).symm (hn n (by omega)) (rdNum_app (numB_len 1 _)).symm (rdNum_app (numB_len 1 _)).symm (u := (u.map byteI, l.map byteI ++ [], false)) (l := (l.map byteI, [], false)) ?_ ?_).trans ?_
  · simp only
    rw [hn u.length (by omega)]
    exact (rdBytes_app (by rw [List.length_map]; omega)).symm
  · simp only
    rw [hn l.length (by omega)]
    exact (rdBytes_app (by rw [List.length_map]; omega)).symm
  · simp only
    rw [byte_back h.ur, byte_back h.lr, val_num8, hn u.length (by omega)]
    have : w64 (w64 ((n : Int) - 2) - 4) = (n : Int) - 6 := by
      rw [w64_in (x := (n : Int) - 2) (by omega)]
      have := w64_in (x := (n : Int) - 2 - 4) (by omega)
      rw [this]; omega
    rw [this]
    simp
    omega
theorem plan_len (v : Wd) (n : Int) (u l : List Int) : (planBody v n u l).length = 11 + u.length + l.length := by
  unfold planBody
  simp [numB_len, numsB_len]
  omega
theorem plan_right {v : Wd} {n : Nat} {u l : List Int} (h : OkP n u l) : wrong 1 (planBody v n u l) = false := by
  have h2 := h.n2
  have h3 := h.ul
  have h4 := h.ll
  unfold wrong
  rw [plan_len]
  simp
  omega
theorem planP_eq {v : Wd} {n : Nat} {u l : List Int} (h : OkP n u l) : planP v n u l = pageW 1 (planBody v n u l) := by
  unfold planP writeF
  rw [if_neg (by rw [plan_right h]; simp)]
/-- What a page tells: the version, and the plan. -/
def RP (n : Nat) (p : Pg) : Option (Nat × List Int × List Int) := if (readT p n).2.2.2 = true then some ((readT p n).2.2.1.toNat, (readT p n).1, (readT p n).2.1) else none
theorem readT_of {p : Pg} {n : Nat} {v : Wd} {u l : List Int} {m : Int} (h : OkP n u l) (hr : readF p = (1, planBody v n u l, m, 0)) : readT p n = (u, l, v, true) := by
  unfold readT
  simp only [hr]
  rw [if_neg (by simp)]
  exact readTB_plan h
theorem rp_of {p : Pg} {n : Nat} {v : Wd} {u l : List Int} {m : Int} (h : OkP n u l) (hr : readF p = (1, planBody v n u l, m, 0)) : RP n p = some (v.toNat, u, l) := by
  unfold RP
  rw [readT_of h hr, if_pos rfl]
theorem rp_plan {n : Nat} {v : Wd} {u l : List Int} (h : OkP n u l) : RP n (planP v n u l) = some (v.toNat, u, l) := by
  rw [planP_eq h]; exact rp_of h (readF_page (plan_right h))
theorem rp_flip {n : Nat} {v : Wd} {u l : List Int} {i : Nat} (h : OkP n u l) (hi : i < 2064) : RP n (flipP (planP v n u l) i) = some (v.toNat, u, l) := by
  rw [planP_eq h]; exact rp_of h (readF_flip (plan_right h) hi)
theorem rp_none {p : Pg} {n : Nat} (h : (readF p).2.2.2 ≠ 0) : RP n p = none := by
  have e : readT p n = ([], [], 0, false) := by
    unfold readT
    simp only []
    rw [if_pos (.inl h)]
  unfold RP
  rw [e, if_neg (by simp)]
theorem rp_torn {p : Pg} {n : Nat} (h : p[257] = 255#8) : RP n p = none := rp_none (readF_torn h)
theorem rp_bl {p : Pg} {n : Nat} (h : blankB p = true) : RP n p = none := rp_none (by rw [readF_blank h]; decide)
theorem blank_at {j : Nat} (h : j < 258) : blankP[j] = 255#8 := by
  unfold blankP
  rw [Vector.getElem_replicate]
theorem andP_get {m : Nat} {p d : Pg} {j : Nat} (h : j < 258) : (andP m p d)[j] = if j < m then p[j] &&& d[j] else p[j] := by simp [andP]
theorem and_torn {m n : Nat} {d : Pg} (h : m < 258) : RP n (andP m blankP d) = none := by
  apply rp_torn
  have : (andP m blankP d)[257] = blankP[257] := by
    rw [andP_get, if_neg (by omega)]
  rw [this, blank_at (by omega)]
theorem and_full {m : Nat} {d : Pg} (h : 258 ≤ m) : andP m blankP d = d := by
  apply Vector.ext
  intro j hj
  rw [andP_get hj, if_pos (by omega), blank_at hj]
  exact BitVec.allOnes_and

/-! what is seen of an area -/
structure ScI (c : Chip) (a : Int) (k : Nat) (s : Sc) : Prop where
  l0 : 0 ≤ s.last ∧ s.last ≤ k
  bl : ∀ i < k, s.last ≤ i → blankB (readP c a (i : Nat)) = true
  nb : 0 < s.last → blankB (readP c a (s.last - 1)) = false
  no : s.any = false → ∀ i < k, RP c.blocks.length (readP c a (i : Nat)) = none
  yes : s.any = true → (0 ≤ s.at' ∧ s.at' < k) ∧ RP c.blocks.length (readP c a s.at') = some (s.newest.toNat, s.uses, s.lost)
  le : s.any = true → ∀ i < k, ∀ w u l, RP c.blocks.length (readP c a (i : Nat)) = some (w, u, l) → w ≤ s.newest.toNat
theorem rp_some {n : Nat} {p : Pg} (h : (readT p n).2.2.2 = true) : RP n p = some ((readT p n).2.2.1.toNat, (readT p n).1, (readT p n).2.1) := if_pos h
theorem rp_no {n : Nat} {p : Pg} (h : ¬ (readT p n).2.2.2 = true) : RP n p = none := if_neg h
theorem scan_spec (c : Chip) (a : Int) : ∀ k, ScI c a k (scanU c a k)
  | 0 => ⟨by simp [scanU], fun i hi => by omega, fun h => by simp [scanU] at h, fun _ i hi => by omega, fun h => by simp [scanU] at h, fun h => by simp [scanU] at h⟩
  | k + 1 => by
    have ih := scan_spec c a k
    show ScI c a (k + 1) (scan1 c a k (scanU c a k))
    generalize scanU c a k = s at ih
    have hlast : ∀ la : Int, la = (if blankB (readP c a (k : Nat)) = true then s.last else (k : Int) + 1) → (0 ≤ la ∧ la ≤ (k + 1 : Nat)) ∧ (∀ i < k + 1, la ≤ i → blankB (readP c a (i : Nat)) = true) ∧ (0 < la → blankB (readP c a (la - 1)) = false) := fun la hla => by
      have h0 := ih.l0
      split at hla
      · rename_i hb
        subst hla
        refine ⟨by omega, fun i hi hle => ?_, ih.nb⟩
        by_cases e : i = k
        · subst e; exact hb
        · exact ih.bl i (by omega) hle
      · rename_i hb
        subst hla
        refine ⟨by omega, fun i hi hle => by omega, fun _ => ?_⟩
        rw [show (k : Int) + 1 - 1 = (k : Int) by omega]
        simpa using hb
    unfold scan1
    simp only []
    split
    · rename_i hc
      simp only [Bool.and_eq_true, Bool.or_eq_true, Bool.not_eq_true', decide_eq_true_eq] at hc
      obtain ⟨h1, h2, h3⟩ := hlast _ rfl
      have hr := rp_some (n := c.blocks.length) (p := readP c a (k : Nat)) hc.1
      refine ⟨h1, h2, h3, fun h => (by cases h), fun _ => ⟨⟨by simp only; omega, by simp only; omega⟩, hr⟩, fun _ i hi w u l hw => ?_⟩
      by_cases e : i = k
      · subst e
        rw [hr] at hw
        simp only [Option.some.injEq, Prod.mk.injEq] at hw
        exact Nat.le_of_eq hw.1.symm
      · rcases hc.2 with h4 | h4
        · rw [ih.no h4 i (by omega)] at hw; cases hw
        · cases ha : s.any with
          | false => rw [ih.no ha i (by omega)] at hw; cases hw
          | true => have := ih.le ha i (by omega) w u l hw; simp only; omega
    · rename_i hc
      simp only [Bool.and_eq_true, Bool.or_eq_true, Bool.not_eq_true', decide_eq_true_eq] at hc
      obtain ⟨h1, h2, h3⟩ := hlast _ rfl
      refine ⟨h1, h2, h3, fun h i hi => ?_, fun h => ?_, fun h i hi w u l hw => ?_⟩
      · by_cases e : i = k
        · subst e; exact rp_no (fun h5 => hc ⟨h5, .inl h⟩)
        · exact ih.no h i (by omega)
      · obtain ⟨h4, h5⟩ := ih.yes h
        exact ⟨⟨h4.1, by simp only; omega⟩, h5⟩
      · by_cases e : i = k
        · subst e
          by_cases h5 : (readT (readP c a (i : Nat)) c.blocks.length).2.2.2 = true
          · rw [rp_some h5] at hw
            simp only [Option.some.injEq, Prod.mk.injEq] at hw
            have : ¬ ((s.newest.toNat : Int) ≤ (readT (readP c a (i : Nat)) c.blocks.length).2.2.1.toNat) := fun h6 => hc ⟨h5, .inr h6⟩
            simp only; omega
          · rw [rp_no h5] at hw; cases hw
        · exact ih.le h i (by omega) w u l hw
/-- What is known of a table that was opened. -/
structure OpI (c : Chip) (k : Nat) (t : TS) : Prop where
  area : 0 ≤ t.area ∧ t.area < k
  rc : (0 ≤ t.at' ∧ t.at' < 8) ∧ RP c.blocks.length (readP c t.area t.at') = some (t.version.toNat, t.uses, t.lost)
  le : ∀ a < k, ∀ i < 8, ∀ w u l, RP c.blocks.length (readP c (a : Nat) (i : Nat)) = some (w, u, l) → w ≤ t.version.toNat
  l0 : 0 ≤ t.next ∧ t.next ≤ 8
  bl : ∀ i < 8, t.next ≤ (i : Nat) → blankB (readP c t.area (i : Nat)) = true
  nb : 0 < t.next → blankB (readP c t.area (t.next - 1)) = false
theorem open_spec (c : Chip) : ∀ k, ((openU c k).2 = false → ∀ a < k, ∀ i < 8, RP c.blocks.length (readP c (a : Nat) (i : Nat)) = none) ∧ ((openU c k).2 = true → OpI c k (openU c k).1)
  | 0 => ⟨fun _ a ha => by omega, fun h => by simp [openU] at h⟩
  | k + 1 => by
    obtain ⟨ih1, ih2⟩ := open_spec c k
    have hs := scan_spec c k 8
    show ((open1 c k (openU c k)).2 = false → _) ∧ ((open1 c k (openU c k)).2 = true → OpI c (k + 1) (open1 c k (openU c k)).1)
    generalize openU c k = t at ih1 ih2
    unfold open1
    simp only []
    generalize scanU c k 8 = s at hs
    split
    · rename_i hc
      simp only [Bool.and_eq_true, Bool.or_eq_true, Bool.not_eq_true', decide_eq_true_eq] at hc
      refine ⟨fun h => (by cases h), fun _ => ⟨by simp only; omega, hs.yes hc.1, fun a ha i hi w u l hw => ?_, hs.l0, hs.bl, hs.nb⟩⟩
      by_cases e : a = k
      · subst e; exact hs.le hc.1 i hi w u l hw
      · rcases hc.2 with h | h
        · rw [ih1 h a (by omega) i hi] at hw; cases hw
        · cases hf : t.2 with
          | false => rw [ih1 hf a (by omega) i hi] at hw; cases hw
          | true => have := (ih2 hf).le a (by omega) i hi w u l hw; simp only; omega
    · rename_i hc
      simp only [Bool.and_eq_true, Bool.or_eq_true, Bool.not_eq_true', decide_eq_true_eq] at hc
      refine ⟨fun h a ha i hi => ?_, fun h => ?_⟩
      · by_cases e : a = k
        · subst e
          cases hy : s.any with
          | false => exact hs.no hy i hi
          | true => exact absurd ⟨hy, .inl h⟩ hc
        · exact ih1 h a (by omega) i hi
      · have o := ih2 h
        refine ⟨⟨o.area.1, by have := o.area.2; omega⟩, o.rc, fun a ha i hi w u l hw => ?_, o.l0, o.bl, o.nb⟩
        by_cases e : a = k
        · subst e
          cases hy : s.any with
          | false => rw [hs.no hy i hi] at hw; cases hw
          | true =>
            have h1 := hs.le hy i hi w u l hw
            have h2 : ¬ ((t.1.version.toNat : Int) < s.newest.toNat) := fun h3 => hc ⟨hy, .inr h3⟩
            omega
        · exact o.le a (by omega) i hi w u l hw
theorem openC_some {c : Chip} (hm : mayE c 0 0 = 0) {a i : Nat} {w : Nat} {u l : List Int} (ha : a < 2) (hi : i < 8) (hr : RP c.blocks.length (readP c (a : Nat) (i : Nat)) = some (w, u, l)) : ∃ t, openC c = (0, t) ∧ OpI c 2 t := by
  obtain ⟨h1, h2⟩ := open_spec c 2
  cases hf : (openU c 2).2 with
  | false => rw [h1 hf a ha i hi] at hr; cases hr
  | true =>
    refine ⟨(openU c 2).1, ?_, h2 hf⟩
    unfold openC
    rw [if_neg (by rw [hm]; simp), if_pos hf]
end Go.Proofs.YtkfcpjohblddmaaGreat
end
