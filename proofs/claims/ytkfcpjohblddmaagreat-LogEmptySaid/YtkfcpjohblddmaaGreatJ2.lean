/- What holds of chips, tables, disks and logs, for all of them; the conditions are the statement's own: part 2. -/
import Derived.Test.YtkfcpjohblddmaaGreatJ0
import Derived.Test.YtkfcpjohblddmaaGreatJ1
section
/- Walks of package nand: programs, erases, a new chip. -/
namespace Go.Proofs.YtkfcpjohblddmaaGreat
open Go.K
set_option linter.unusedVariables false
set_option linter.unusedSimpArgs false
instance agg50 : Agg Tryz.prog 50 false := ⟨⟨_, Tryz.underlying50, rfl⟩⟩
instance siz50 : Siz Tryz.prog 50 1 := ⟨by kernel_rfl⟩
instance zer85 : Zer Tryz.prog 85 (List.replicate 2064 (.int .u8 0) ++ [.int .i64 0, .bool false]) := ⟨by kernel_rfl⟩
instance zer90 : Zer Tryz.prog 90 ([.pointer none, .slice none 0 0, .bool false, .bool false, .slice none 0 0, .int .i64 0, .slice none 0 0, .int .i64 0, .int .i64 0]) := ⟨by kernel_rfl⟩
instance zer98 : Zer Tryz.prog 98 ([.bool false, .int .i64 0, .int .i64 0]) := ⟨by kernel_rfl⟩
instance fld85_1 : Fld Tryz.prog 85 1 2064 := ⟨⟨_, _, 0, Tryz.underlying85, rfl, by kernel_rfl, rfl⟩⟩
instance fld90_4 : Fld Tryz.prog 90 4 4 := ⟨⟨_, _, 1, Tryz.underlying90, rfl, by kernel_rfl, rfl⟩⟩
instance fld90_5 : Fld Tryz.prog 90 5 6 := ⟨⟨_, _, 1, Tryz.underlying90, rfl, by kernel_rfl, rfl⟩⟩
instance fld90_6 : Fld Tryz.prog 90 6 8 := ⟨⟨_, _, 0, Tryz.underlying90, rfl, by kernel_rfl, rfl⟩⟩
instance fld98_2 : Fld Tryz.prog 98 2 2 := ⟨⟨_, _, 0, Tryz.underlying98, rfl, by kernel_rfl, rfl⟩⟩
instance plc90 : Plc Tryz.prog 90 [(0, 1), (1, 1), (2, 1), (3, 1), (4, 2), (6, 2), (8, 1)] := ⟨⟨_, Tryz.underlying90, fun _ => by kernel_rfl⟩⟩
instance plc98 : Plc Tryz.prog 98 [(0, 1), (1, 1), (2, 1)] := ⟨⟨_, Tryz.underlying98, fun _ => by kernel_rfl⟩⟩
instance byt85 : Byt Tryz.prog 85 2080 := ⟨by kernel_rfl⟩
instance ent21 : Ent Tryz.prog 21 := ⟨fun _ _ => by kernel_rfl⟩
instance ent22 : Ent Tryz.prog 22 := ⟨fun _ _ => by kernel_rfl⟩
instance ent39 : Ent Tryz.prog 39 := ⟨fun _ _ => by kernel_rfl⟩
instance ent65 : Ent Tryz.prog 65 := ⟨fun _ _ => by kernel_rfl⟩
instance ent66 : Ent Tryz.prog 66 := ⟨fun _ _ => by kernel_rfl⟩
instance ent80 : Ent Tryz.prog 80 := ⟨fun _ _ => by kernel_rfl⟩
instance ent83 : Ent Tryz.prog 83 := ⟨fun _ _ => by kernel_rfl⟩
instance ent100 : Ent Tryz.prog 100 := ⟨fun _ _ => by kernel_rfl⟩

theorem chH_set (c : Chip) (k : Nat) (b : Blk) : chH (setB c k b) = (c.aP, true, C (pwc c) tPw) :: (c.aC, true, C (chc c) tCh) :: (c.aB, true, C (rowc (c.blocks.set k b)) tBk) :: (c.pf.hp tI ++ (c.wf.hp tI ++ [])) := by
  rw [chH_eq]
  simp only [setB, chc, List.length_set]
theorem write_at {pb k : Nat} {n j : Int} {l : List Blk} {b : Blk} {d : Pg} (hk : l[k]? = some b) (h0 : 0 ≤ j) (hi : j.toNat < 8) :
    Does Tryz.prog 111 [.pointer (some ⟨pb, k * 2066, none⟩), .int .i64 j, .int .i64 n, .agg (vbc d).toArray] [(pb, true, C (rowc l) tBk)]
      (Is (.tuple #[]) [(pb, true, C (rowc (l.set k (wrB b j.toNat (clampN n 258) d hi))) tBk)]) := by
  obtain ⟨i, rfl⟩ := Int.eq_ofNat_of_zero_le h0
  exact write_fn hk hi
theorem set_at {l : List Blk} {k : Nat} {b : Blk} (h : l[k]? = some b) (b' : Blk) : (l.set k b')[k]? = some b' := by
  have := (List.getElem?_eq_some_iff.1 h).1
  simp [this]
section
variable {c : Chip} {i j : Int} {d : Pg}
theorem program_fn : Does Tryz.prog 80 [ptr c.aC, .int .i64 i, .int .i64 j, .agg (vbc d).toArray] (chH c) (Is (.int .i64 (progC c i j d).1) (chH (progC c i j d).2)) := by
  rw [chH_eq c]
  refine fn_enter (n := 82) Tryz.func80 Tryz.ntmps80 rfl (Nat.le_of_ble_eq_true rfl) <| s_seq <| s_region0 fun ops => ?_
  refine o_boxA rfl rfl fun b7 => ?_
  refine oA rfl <| o_nil <| n_K <| s_seq <| s_seq <| s_region0 fun ops => oM rfl <| oM rfl <| oM rfl ?_
  refine c_is rfl (nmay_fn) sP rfl aQ ?_
  refine oA rfl <| o_nil <| n_K <| s_seq <| s_region0 fun ops => oM rfl <| oR (rd_bin rfl rfl rfl) <| o_nil <| n_K ?_
  refine s_cond rfl (fun c17 => ?_) (fun c17 => ?_)
  · skip
    have hm : ¬ mayE c i j = 0 := by simpa using c17
    have hres := prog_may (d := d) hm
    refine s_seq <| s_region0 fun ops => oM rfl <| oA rfl <| o_nil <| n_K <| s_ret <| r_K ?_
    refine leaf_is (rets1 Tryz.results80 (rv_tmp rfl)) ?_ (by rw [hres]; first | (rw [wrC, chH_set, List.set_set]; exact sP) | (rw [chH_eq c]; exact sP))
    rw [hres]
  · skip
    have hm : mayE c i j = 0 := by simpa using c17
    obtain ⟨m0, m1, m2, m3, _⟩ := may_in hm
    have h8 : j.toNat < 8 := by omega
    obtain ⟨b, hb⟩ : ∃ b, c.blocks[i.toNat]? = some b := ⟨_, List.getElem?_eq_getElem (by omega)⟩
    refine s_skip <| n_K <| s_seq <| s_region0 fun ops => oM rfl <| oN rfl <| oF rfl ?_
    refine oR (rd_ld rfl mM rfl) ?_
    refine oM rfl ?_
    refine oR (rd_ixS0 rfl rfl ⟨m0, m1⟩) ?_
    refine oA rfl <| o_nil <| n_K <| s_seq <| s_seq <| s_region0 fun ops => oM rfl <| oM rfl <| oN rfl <| oF rfl ?_
    refine oR (rd_ld rfl mM (row_next hb)) ?_
    refine oR (rd_bin rfl rfl rfl) <| o_nil <| n_K ?_
    refine s_cond rfl (fun c30 => ?_) (fun c30 => ?_)
    · skip
      have hn : ¬ j = b.next := by simpa using c30
      have hres := prog_order (d := d) hm hb hn
      refine s_seq <| s_region0 fun ops => oA rfl <| o_nil <| n_K <| s_ret <| r_K ?_
      refine leaf_is (rets1 Tryz.results80 (rv_tmp rfl)) ?_ (by rw [hres]; first | (rw [wrC, chH_set, List.set_set]; exact sP) | (rw [chH_eq c]; exact sP))
      rw [hres]
    · skip
      have hn : j = b.next := by simpa using c30
      refine s_skip <| n_K <| s_seq <| s_region0 fun ops => oM rfl <| oN rfl <| oF rfl ?_
      refine oR (rd_ld rfl mM rfl) ?_
      refine oR (rd_bin rfl rfl rfl) <| oN rfl <| oF rfl ?_
      refine o_store rfl rfl uD rfl rfl rfl ?_
      refine o_nil <| n_K <| s_seq <| s_region0 fun ops => oM rfl <| oN rfl <| oF rfl ?_
      refine oR (rd_ld rfl mM (row_next hb)) ?_
      refine oR (rd_bin rfl rfl rfl) <| oN rfl <| oF rfl ?_
      refine o_store (cs' := rowc (c.blocks.set i.toNat { b with next := w64 (b.next + 1) })) rfl rfl uD rfl rfl (row_setNext _ hb) ?_
      refine o_nil <| n_K <| s_seq <| s_region0 fun ops => oM rfl <| oN rfl <| oF rfl ?_
      refine c_is rfl (act1_fn (c := cnt c)) sP rfl aQ ?_
      refine oA rfl <| o_nil <| n_K <| s_seq <| s_block <| s_seq <| s_region0 fun ops => oM rfl <| oN rfl <| oF rfl ?_
      refine oR (rd_ld rfl mM rfl) ?_
      refine c_is rfl (ends_fn (c := c)) sP rfl aQ ?_
      refine oA rfl <| o_nil <| n_K ?_
      refine s_cond rfl (fun c49 => ?_) (fun c49 => ?_)
      · skip
        have hres := prog_down (d := d) hm h8 hb hn c49
        refine s_seq ?_
        refine s_draw [] [(10, [(0, false), (1, false), (2, false), (3, false), (4, false), (5, false), (6, false), (7, false), (8, false), (9, false)]), (11, [(10, true)])] (by kernel_rfl) rfl fun ops w0 H0 y => ?_
        refine p_all <| xM rfl <| xM rfl <| xM rfl <| xN rfl <| xF rfl ?_
        refine xR (rd_ld rfl mM rfl) ?_
        refine xN rfl <| xF rfl ?_
        refine xR (rd_ld rfl mM rfl) ?_
        refine xR (rd_ldA rfl mM (by first | exact cut_vb | rfl)) ?_
        refine x_nil <| p_none <| x_so ?_
        refine c_is rfl (write_at (set_at hb _) m2 h8) sP rfl aQ ?_
        refine o_nil ⟨rfl, ⟨_, sP⟩, ?_⟩
        refine x_nil <| p_end <| n_K <| s_seq <| s_region0 fun ops => oA rfl <| o_nil <| n_K <| s_ret <| r_blk <| r_K ?_
        refine leaf_is (rets1 Tryz.results80 (rv_tmp rfl)) ?_ (by rw [hres]; first | (rw [wrC, chH_set, List.set_set]; exact sP) | (rw [chH_eq c]; exact sP))
        rw [hres]
      · skip
        have he : endsB c = false := c49
        refine s_seq ?_
        refine s_region [(1, 68)] rfl fun ops y => ?_
        refine oM rfl <| oM rfl ?_
        refine' o_or (j := 1) (k := 4) y rfl rfl rfl rfl rfl rfl rfl (fun hg68 => ?_) ?_
        rotate_left
        · try (simp at hg68; show _)
          refine o_g y rfl rfl ?_
          refine oM rfl ?_
          refine o_g y rfl rfl ?_
          refine oN rfl ?_
          refine o_g y rfl rfl ?_
          refine oF rfl ?_
          refine o_g y rfl rfl ?_
          refine oR (rd_ld rfl mM (row_bad (set_at hb _))) ?_
          exact o_nil ⟨rfl, rfl, ⟨_, sP⟩⟩
        refine oA rfl <| o_nil <| n_K ?_
        refine s_cond rfl (fun c66 => ?_) (fun c66 => ?_)
        · skip
          have hres := prog_fail (d := d) hm h8 hb hn he c66
          refine s_seq <| s_region0 fun ops => oM rfl <| oM rfl ?_
          refine oR (rd_ldA rfl mM (by first | exact cut_vb | rfl)) ?_
          refine c_is rfl (write_at (set_at hb _) m2 h8) sP rfl aQ ?_
          refine o_nil <| n_K <| s_seq <| s_region0 fun ops => oA rfl <| o_nil <| n_K <| s_ret <| r_blk <| r_K ?_
          refine leaf_is (rets1 Tryz.results80 (rv_tmp rfl)) ?_ (by rw [hres]; first | (rw [wrC, chH_set, List.set_set]; exact sP) | (rw [chH_eq c]; exact sP))
          rw [hres]
        · skip
          have hres := prog_ok (d := d) hm h8 hb hn he c66
          refine s_skip <| n_blk <| n_K <| s_seq <| s_region0 fun ops => oM rfl <| oM rfl ?_
          refine oR (rd_ldA rfl mM (by first | exact cut_vb | rfl)) ?_
          refine c_is rfl (write_at (set_at hb _) m2 h8) sP rfl aQ ?_
          refine o_nil <| n_K <| s_seq <| s_region0 fun ops => oA rfl <| o_nil <| n_K <| s_ret ?_
          refine leaf_is (rets1 Tryz.results80 (rv_tmp rfl)) ?_ (by rw [hres]; first | (rw [wrC, chH_set, List.set_set]; exact sP) | (rw [chH_eq c]; exact sP))
          rw [hres]
theorem erase_fn : Does Tryz.prog 83 [ptr c.aC, .int .i64 i] (chH c) (Is (.int .i64 (eraseC c i).1) (chH (eraseC c i).2)) := by
  rw [chH_eq c]
  refine fn_enter (n := 62) Tryz.func83 Tryz.ntmps83 rfl (Nat.le_of_ble_eq_true rfl) <| s_seq <| s_region0 fun ops => oA rfl <| o_nil <| n_K <| s_seq <| s_seq <| s_region0 fun ops => oM rfl <| oM rfl ?_
  refine c_is rfl (nmay_fn) sP rfl aQ ?_
  refine oA rfl <| o_nil <| n_K <| s_seq <| s_region0 fun ops => oM rfl <| oR (rd_bin rfl rfl rfl) <| o_nil <| n_K ?_
  refine s_cond rfl (fun c12 => ?_) (fun c12 => ?_)
  · skip
    have hm : ¬ mayE c i 0 = 0 := by simpa using c12
    have hres := erase_may hm
    refine s_seq <| s_region0 fun ops => oM rfl <| oA rfl <| o_nil <| n_K <| s_ret <| r_K ?_
    refine leaf_is (rets1 Tryz.results83 (rv_tmp rfl)) ?_ (by rw [hres]; first | (rw [chH_set]; (try rw [List.set_set]); exact sP) | (rw [chH_eq c]; exact sP))
    rw [hres]
  · skip
    have hm : mayE c i 0 = 0 := by simpa using c12
    obtain ⟨m0, m1, m2, m3, _⟩ := may_in hm
    obtain ⟨b, hb⟩ : ∃ b, c.blocks[i.toNat]? = some b := ⟨_, List.getElem?_eq_getElem (by omega)⟩
    refine s_skip <| n_K <| s_seq <| s_region0 fun ops => oM rfl <| oN rfl <| oF rfl ?_
    refine oR (rd_ld rfl mM rfl) ?_
    refine oM rfl ?_
    refine oR (rd_ixS0 rfl rfl ⟨m0, m1⟩) ?_
    refine oA rfl <| o_nil <| n_K <| s_seq <| s_region0 fun ops => oM rfl <| oN rfl <| oF rfl ?_
    refine oR (rd_ld rfl mM rfl) ?_
    refine oR (rd_bin rfl rfl rfl) <| oN rfl <| oF rfl ?_
    refine o_store rfl rfl uD rfl rfl rfl ?_
    refine o_nil <| n_K <| s_seq <| s_region0 fun ops => oM rfl <| oN rfl <| oF rfl ?_
    refine c_is rfl (act2_fn (c := cnt c)) sP rfl aQ ?_
    refine oA rfl <| o_nil <| n_K <| s_seq <| s_region0 fun ops => oM rfl <| oN rfl <| oF rfl ?_
    refine o_store (cs' := rowc (c.blocks.set i.toNat { b with next := 8 })) rfl rfl uD rfl rfl (row_setNext _ hb) ?_
    refine o_nil <| n_K <| s_seq <| s_block <| s_seq <| s_region0 fun ops => oM rfl <| oN rfl <| oF rfl ?_
    refine oR (rd_ld rfl mM rfl) ?_
    refine c_is rfl (ends_fn (c := c)) sP rfl aQ ?_
    refine oA rfl <| o_nil <| n_K ?_
    refine s_cond rfl (fun c34 => ?_) (fun c34 => ?_)
    · skip
      have hres := erase_down hm hb c34
      refine s_seq <| s_region0 fun ops => oM rfl <| oM rfl <| oN rfl <| oF rfl ?_
      refine oR (rd_ld rfl mM rfl) ?_
      refine oN rfl <| oF rfl ?_
      refine oR (rd_ld rfl mM rfl) ?_
      refine c_is rfl (wipe_fn (set_at hb _)) sP rfl aQ ?_
      refine o_nil <| n_K <| s_seq <| s_region0 fun ops => oA rfl <| o_nil <| n_K <| s_ret <| r_blk <| r_K ?_
      refine leaf_is (rets1 Tryz.results83 (rv_tmp rfl)) ?_ (by rw [hres]; first | (rw [chH_set]; (try rw [List.set_set]); exact sP) | (rw [chH_eq c]; exact sP))
      rw [hres]
    · skip
      have he : endsB c = false := c34
      refine s_seq ?_
      refine s_region [(1, 51)] rfl fun ops y => ?_
      refine oM rfl <| oM rfl ?_
      refine' o_or (j := 1) (k := 4) y rfl rfl rfl rfl rfl rfl rfl (fun hg51 => ?_) ?_
      rotate_left
      · try (simp at hg51; show _)
        refine o_g y rfl rfl ?_
        refine oM rfl ?_
        refine o_g y rfl rfl ?_
        refine oN rfl ?_
        refine o_g y rfl rfl ?_
        refine oF rfl ?_
        refine o_g y rfl rfl ?_
        refine oR (rd_ld rfl mM (row_bad (set_at hb _))) ?_
        exact o_nil ⟨rfl, rfl, ⟨_, sP⟩⟩
      refine oA rfl <| o_nil <| n_K ?_
      refine s_cond rfl (fun c49 => ?_) (fun c49 => ?_)
      · skip
        have hres := erase_fail hm hb he c49
        refine s_seq <| s_region0 fun ops => oA rfl <| o_nil <| n_K <| s_ret <| r_blk <| r_K ?_
        refine leaf_is (rets1 Tryz.results83 (rv_tmp rfl)) ?_ (by rw [hres]; first | (rw [chH_set]; (try rw [List.set_set]); exact sP) | (rw [chH_eq c]; exact sP))
        rw [hres]
      · skip
        have hres := erase_ok hm hb he c49
        refine s_skip <| n_blk <| n_K <| s_seq <| s_region0 fun ops => oM rfl ?_
        refine c_is rfl (wipe_fn (set_at hb _)) sP rfl aQ ?_
        refine o_nil <| n_K <| s_seq <| s_region0 fun ops => oM rfl <| oN rfl <| oF rfl ?_
        refine o_store (cs' := rowc (c.blocks.set i.toNat { wipeB { b with next := 8 } 8 with next := 0 })) rfl rfl uD rfl rfl (by rw [List.set_set]; have := row_setNext (l := c.blocks.set i.toNat (wipeB { b with next := 8 } 8)) 0 (set_at hb _); rw [List.set_set] at this; exact this) ?_
        refine o_nil <| n_K <| s_seq <| s_region0 fun ops => oA rfl <| o_nil <| n_K <| s_ret ?_
        refine leaf_is (rets1 Tryz.results83 (rv_tmp rfl)) ?_ (by rw [hres]; first | (rw [chH_set]; (try rw [List.set_set]); exact sP) | (rw [chH_eq c]; exact sP))
        rw [hres]
end
theorem newPower_fn : Does Tryz.prog 22 [] [] (fun v H => ∃ b, v = ptr b ∧ H = [(b, true, C [.bool false, .int .i64 (-1), .int .i64 0] tPw)]) := by
  refine fn_enter (n := 3) Tryz.func22 Tryz.ntmps22 rfl (Nat.le_of_ble_eq_true rfl) <| s_seq <| s_region0 fun ops => oA rfl <| o_nil <| n_K <| s_seq <| s_region0 fun ops => oR (rd_build_s rfl rfl) ?_
  refine o_box rfl rfl fun b2 => ?_
  refine oA rfl <| o_nil <| n_K <| s_ret ?_
  exact leaf_r (rets1 Tryz.results22 (rv_tmp rfl)) (by exact ⟨_, rfl, rfl⟩) sP
section
variable {f : FuncId} [Ent Tryz.prog f] {fi ca : List Value} {p : Int → Bool} {L : Hp} {s : Sl Int} {T : TypeId}
theorem indexFunc_fn (hf : ∀ x : Int, Does Tryz.prog f (fi ++ [.int .i64 x] ++ ca) L (Is (.bool (p x)) L)) :
    Does Tryz.prog 100 [s.val, .func (.func f) fi.toArray ca.toArray] (s.hp T ++ (L ++ [])) (Is (.int .i64 (idxF s.list p)) (s.hp T ++ (L ++ []))) := by
  refine fn_enter (n := 19) Tryz.func100 Tryz.ntmps100 rfl (Nat.le_of_ble_eq_true rfl) <| s_seq <| s_region0 fun ops => oA rfl <| o_nil <| n_K <| s_seq <| s_seq <| s_region0 fun ops => oM rfl <| oR (rd_lenS rfl) <| oM rfl <| o_nil <| n_K ?_
  refine s_block ?_
  have hsm := s.small
  refine s_loop2E [0, 1, 7] kQ (fun i => [(8, .int .i64 i)]) (fun i => 0 ≤ i ∧ i ≤ s.list.length ∧ ∀ k : Int, 0 ≤ k → k < i → p (at0 s.list k) = false) (fun i => ((s.list.length : Int) - i).toNat) ((0 : Int)) ⟨by omega, by omega, by intro k h0 h1; omega⟩ kP ?_
  rintro i ⟨h0, h1, h2⟩
  refine s_seq <| s_region0 fun ops => oR (rd_bin rfl rfl rfl) <| o_nil <| n_K <| s_seq ?_
  refine s_cond rfl (fun c9 => ?_) (fun c9 => ?_)
  · try simp at c9
    refine s_skip <| n_K <| s_seq <| s_block <| s_seq <| s_region0 fun ops => oM rfl <| oA rfl <| o_nil <| n_K <| s_seq <| s_region0 fun ops => oM rfl <| oM rfl ?_
    refine oM rfl ?_
    refine oR (rd_ixSl rfl rfl ⟨h0, c9⟩) ?_
    refine oR (rd_ldSl (o := 0) rfl pL (at0_get h0 c9) rfl rfl) ?_
    refine c_fis rfl rfl (hf _) sP rfl aQ ?_
    refine o_nil <| n_K ?_
    refine s_cond rfl (fun c16 => ?_) (fun c16 => ?_)
    · skip
      refine s_seq <| s_region0 fun ops => oM rfl <| oA rfl <| o_nil <| n_K <| s_ret <| r_blk <| r_K <| r_K <| r_blk <| r_K ?_
      refine leaf_is (rets1 Tryz.results100 (rv_tmp rfl)) ?_ sP
      rw [idxF_at i h0 c9 h2 c16]
    · skip
      refine s_skip <| n_blk <| n_K <| s_region0 fun ops => ?_
      refine oR (rd_add64 rfl rfl (by omega)) ?_
      refine oM rfl <| o_nil <| n_K ?_
      exact ⟨i + 1, ⟨by omega, by omega, step_all h2 c16⟩, (by omega), lZ⟩
  · try simp at c9
    refine s_exit <| x_K <| x_K <| x_blk <| n_K <| s_seq <| s_region0 fun ops => oA rfl <| o_nil <| n_K <| s_ret ?_
    refine leaf_is (rets1 Tryz.results100 (rv_tmp rfl)) ?_ sP
    rw [idxF_none (fun k k0 k1 => h2 k k0 (by omega))]
theorem containsFunc_fn (hf : ∀ x : Int, Does Tryz.prog f (fi ++ [.int .i64 x] ++ ca) L (Is (.bool (p x)) L)) :
    Does Tryz.prog 65 [s.val, .func (.func f) fi.toArray ca.toArray] (s.hp T ++ (L ++ [])) (Is (.bool (s.list.any p)) (s.hp T ++ (L ++ []))) := by
  refine fn_enter (n := 9) Tryz.func65 Tryz.ntmps65 rfl (Nat.le_of_ble_eq_true rfl) <| s_seq <| s_region0 fun ops => oA rfl <| o_nil <| n_K <| s_seq <| s_region0 fun ops => oM rfl <| oM rfl ?_
  refine c_is rfl (indexFunc_fn hf) sP rfl aQ ?_
  refine oR (rd_bin rfl rfl rfl) <| oA rfl <| o_nil <| n_K <| s_ret ?_
  refine leaf_is (rets1 Tryz.results65 (rv_tmp rfl)) ?_ sP
  exact congrArg Value.bool (idxF_any _ _)
theorem all1_fn {b : Nat} (hf : ∀ x : Int, Does Tryz.prog f (fi ++ [.int .i64 x] ++ ca) L (Is (.bool (p x)) L)) (x : Int) :
    Does Tryz.prog 66 [.int .i64 x, ptr b] ((b, true, C [.func (.func f) fi.toArray ca.toArray] 50) :: (L ++ [])) (Is (.bool (!p x)) ((b, true, C [.func (.func f) fi.toArray ca.toArray] 50) :: (L ++ []))) := by
  refine fn_enter (n := 8) Tryz.func66 Tryz.ntmps66 rfl (Nat.le_of_ble_eq_true rfl) <| s_seq <| s_region0 fun ops => oA rfl <| o_nil <| n_K <| s_seq <| s_region0 fun ops => ?_
  refine oR (rd_ld rfl mM rfl) ?_
  refine oM rfl ?_
  refine c_fis rfl rfl (hf _) sP rfl aQ ?_
  refine oR (rd_not rfl) <| oA rfl <| o_nil <| n_K <| s_ret ?_
  refine leaf_is (rets1 Tryz.results66 (rv_tmp rfl)) ?_ sP
  rfl
theorem all_fn (hf : ∀ x : Int, Does Tryz.prog f (fi ++ [.int .i64 x] ++ ca) L (Is (.bool (p x)) L)) :
    Does Tryz.prog 39 [s.val, .func (.func f) fi.toArray ca.toArray] (s.hp T ++ (L ++ [])) (Is (.bool (s.list.all p)) (s.hp T ++ (L ++ []))) := by
  refine fn_enter (n := 9) Tryz.func39 Tryz.ntmps39 rfl (Nat.le_of_ble_eq_true rfl) <| s_seq <| s_region0 fun ops => ?_
  refine o_box rfl rfl fun b3 => ?_
  refine oA rfl <| o_nil <| n_K <| s_seq <| s_region0 fun ops => oM rfl <| oR (rd_func rfl) ?_
  refine c_is rfl (containsFunc_fn (f := 66) (fi := []) (ca := [ptr b3]) (p := fun x => !p x) (L := (b3, true, C [.func (.func f) fi.toArray ca.toArray] 50) :: (L ++ [])) (fun x => all1_fn hf x)) sP rfl aQ ?_
  refine oR (rd_not rfl) <| oA rfl <| o_nil <| n_K <| s_ret ?_
  refine leaf_is (rets1 Tryz.results39 (rv_tmp rfl)) ?_ sP
  exact congrArg Value.bool (by rw [← List.not_all_eq_any_not, Bool.not_not])
end
/-- What New gives. -/
instance (priority := 2000) zerBk : Zer Tryz.prog 85 (blkc zeroB) := ⟨by rw [← zeroB_eq]; exact (inferInstance : Zer Tryz.prog 85 (List.replicate 2064 (.int .u8 0) ++ [.int .i64 0, .bool false])).eq⟩
def NewR (off : Bool) (after keep : Int) (pp : Nat) (n : Int) (s : Sl Int) (T : TypeId) (v : Value) (H : Hp) : Prop :=
  if okNew n s.list = true then ∃ aC aB, v = .tuple #[ptr aC, .int .i64 0] ∧ H = chH (newC off after keep pp aC aB n.toNat s.list) ++ (s.hp T ++ [])
  else v = .tuple #[.pointer none, .int .i64 1] ∧ H = (s.hp T ++ [])
theorem chH_new {off : Bool} {after keep : Int} {aP aC aB n : Nat} {bad : List Int} : chH (newC off after keep aP aC aB n bad) = [(aP, true, C [.bool off, .int .i64 after, .int .i64 keep] tPw), (aC, true, C (chc (newC off after keep aP aC aB n bad)) tCh), (aB, true, C (rowc (newBs n bad n)) tBk)] := by
  rw [chH_eq]
  simp only [newC, Sl.hp_nil, List.nil_append]
theorem chc_new {off : Bool} {after keep : Int} {aP aC aB n : Nat} {bad : List Int} : chc (newC off after keep aP aC aB n bad) = [ptr aP, .slice (some ⟨aB, 0, none⟩) n n, .bool false, .bool false, .slice none 0 0, .int .i64 0, .slice none 0 0, .int .i64 0, .int .i64 0] := by
  simp only [chc, newC, newBs_len]; rfl
theorem new_all {off : Bool} {after keep : Int} {aP aC aB n : Nat} {bad : List Int} : thereB (newC off after keep aP aC aB n bad) = fun x => (decide (0 ≤ x) && decide (x < (n : Int))) := by
  funext x
  simp only [thereB, newC, newBs_len]
theorem new_fn {off : Bool} {after keep : Int} {pp : Nat} {n : Int} {s : Sl Int} {T : TypeId} :
    Does Tryz.prog 21 [ptr pp, .int .i64 n, s.val] ((pp, true, C [.bool off, .int .i64 after, .int .i64 keep] tPw) :: (s.hp T ++ [])) (NewR off after keep pp n s T) := by
  refine fn_enter (n := 51) Tryz.func21 Tryz.ntmps21 rfl (Nat.le_of_ble_eq_true rfl) <| s_seq <| s_region0 fun ops => oA rfl <| oA rfl <| o_nil <| n_K <| s_seq <| s_seq ?_
  refine s_region [(2, 13)] rfl fun ops y => ?_
  refine oM rfl <| oR (rd_bin rfl rfl rfl) <| oM rfl ?_
  refine' o_or (j := 2) (k := 2) y rfl rfl rfl rfl rfl rfl rfl (fun hg13 => ?_) ?_
  rotate_left
  · try (simp at hg13; show _)
    refine o_g y rfl rfl ?_
    refine oM rfl ?_
    refine o_g y rfl rfl ?_
    refine oR (rd_bin rfl rfl rfl) ?_
    exact o_nil ⟨rfl, rfl, ⟨_, sP⟩⟩
  refine o_nil <| n_K ?_
  refine s_cond rfl (fun c16 => ?_) (fun c16 => ?_)
  · skip
    refine s_seq <| s_region0 fun ops => oA rfl <| oA rfl <| o_nil <| n_K <| s_ret <| r_K ?_
    exact leaf_r (rets2 Tryz.results21 (rv_tmp rfl) (rv_tmp rfl)) (by unfold NewR; rw [if_neg (by rw [okNew, c16]; simp)]; exact ⟨rfl, rfl⟩) sP
  · skip
    have h16 : 16 ≤ n ∧ n ≤ 40 := by simp at c16; omega
    obtain ⟨N, rfl⟩ : ∃ N : Nat, n = N := ⟨n.toNat, by omega⟩
    refine s_skip <| n_K <| s_seq <| s_region0 fun ops => oM rfl <| oM rfl ?_
    refine o_make (zs := blkc zeroB) (hz := zerBk) (hs := by rw [blkc_len]; infer_instance) (hby := byt85) rfl rfl (by omega) rfl fun b19 => ?_
    refine oR (rd_build_s rfl rfl) ?_
    refine o_box rfl rfl fun b21 => ?_
    refine so_eq (G := (b21, true, C (chc (newC off after keep pp b21 b19 N s.list)) tCh) :: (b19, true, C (rowc (newBs N s.list 0)) tBk) :: (pp, true, C [.bool off, .int .i64 after, .int .i64 keep] tPw) :: (s.hp T ++ [])) (by rw [chc_new, newBs_0, ← zrep_row]; rfl) ?_
    refine oA rfl <| o_nil <| n_K <| s_seq <| s_seq <| s_region0 fun ops => oM rfl <| oM rfl ?_
    refine oR (rd_func2 (fi := [_]) (cap := []) rfl rfl) ?_
    refine c_is rfl (all_fn (f := 36) (fi := [ptr b21]) (ca := []) (fun x => there_fn (c := newC off after keep pp b21 b19 N s.list))) sP rfl aQ ?_
    refine oR (rd_not rfl) <| o_nil <| n_K ?_
    refine s_cond rfl (fun c26 => ?_) (fun c26 => ?_)
    · skip
      have hall : (s.list.all fun x => decide (0 ≤ x) && decide (x < (N : Int))) = false := by simpa only [new_all, Bool.not_eq_true'] using c26
      refine s_seq <| s_region0 fun ops => oA rfl <| oA rfl <| o_nil <| n_K <| s_ret <| r_K ?_
      exact leaf_r (rets2 Tryz.results21 (rv_tmp rfl) (rv_tmp rfl)) (by unfold NewR; rw [if_neg (by rw [okNew, hall]; simp)]; exact ⟨rfl, rfl⟩) sP
    · skip
      have hall : (s.list.all fun x => decide (0 ≤ x) && decide (x < (N : Int))) = true := by simpa only [new_all, Bool.not_eq_false'] using c26
      refine s_skip <| n_K <| s_seq <| s_seq <| s_region0 fun ops => oM rfl <| oN rfl <| oF rfl ?_
      refine oR (rd_ld rfl mM (by rw [chc_new]; rfl)) ?_
      refine oR (rd_lenS rfl) <| oM rfl <| o_nil <| n_K <| s_block ?_
      refine s_loop2 [2, 8, 31] kQ (fun (s' : Nat) => [(32, .int .i64 s')]) (fun (s' : Nat) => (b21, true, C (chc (newC off after keep pp b21 b19 N s.list)) tCh) :: (b19, true, C (rowc (newBs N s.list s')) tBk) :: (pp, true, C [.bool off, .int .i64 after, .int .i64 keep] tPw) :: (s.hp T ++ [])) (fun (s' : Nat) => s' ≤ N) (fun (s' : Nat) => N - s') ((0 : Nat)) (by first | trivial | omega | simp) kP sP ?_
      rintro i h0
      refine s_seq <| s_region0 fun ops => oR (rd_bin rfl rfl rfl) <| o_nil <| n_K <| s_seq ?_
      refine s_cond rfl (fun c33 => ?_) (fun c33 => ?_)
      · simp at c33
        have hi : (newBs N s.list i)[i]? = some zeroB := newBs_at s.list c33
        refine s_skip <| n_K <| s_seq <| s_block <| s_seq <| s_region0 fun ops => oM rfl <| oA rfl <| o_nil <| n_K <| s_seq <| s_region0 fun ops => oM rfl <| oN rfl ?_
        refine oF rfl ?_
        refine oR (rd_ld rfl mM (by rw [chc_new]; rfl)) ?_
        refine oM rfl ?_
        refine oR (rd_ixS0 rfl rfl (by omega)) ?_
        refine oA rfl <| o_nil <| n_K <| s_seq <| s_region0 fun ops => oM rfl <| oM rfl <| oM rfl ?_
        refine c_is rfl (contains_fn) sP rfl aQ ?_
        refine oN rfl <| oF rfl ?_
        refine o_store (cs' := rowc ((newBs N s.list i).set i { zeroB with bad := hasI s.list i })) rfl rfl uD rfl rfl (row_setBad _ hi) ?_
        refine o_nil <| n_K <| s_region0 fun ops => oM rfl ?_
        refine c_is rfl ((wipe_fn (set_at hi _)).to rfl (by rw [List.set_set, show clampN 8 8 = 8 from rfl, wipe_zero, newBs_step s.list c33])) sP rfl aQ ?_
        refine o_nil <| n_blk <| n_K <| s_region0 fun ops => ?_
        refine oR (rd_add64 rfl rfl (by omega)) ?_
        refine oM rfl <| o_nil <| n_K ?_
        exact ⟨i + 1, (by omega), (by omega), lZ⟩
      · simp at c33
        refine s_exit <| x_K <| x_K <| x_blk <| n_K <| s_seq <| s_region0 fun ops => oM rfl <| oA rfl <| oA rfl <| o_nil <| n_K <| s_ret ?_
        exact leaf_r (rets2 Tryz.results21 (rv_tmp rfl) (rv_tmp rfl)) (by unfold NewR; rw [if_pos (by rw [okNew, hall, c16]; rfl)]; exact ⟨b21, b19, rfl, rfl⟩) (by rw [show ((N : Int)).toNat = N from rfl, chH_new]; rw [show i = N by omega]; exact sP)
end Go.Proofs.YtkfcpjohblddmaaGreat
end
section
/- Plain laws that are found by trying all. -/
namespace Go.Proofs.YtkfcpjohblddmaaGreat
open Go.K
set_option linter.unusedVariables false
set_option linter.unusedSimpArgs false

def placeGo : Nat → Nat → Nat → Nat
  | 0, p, _ => p
  | f + 1, p, s => if s ≤ p then placeGo f (p + 1) (s * 2) else p
def placeN (i : Nat) : Nat := placeGo 13 (i + 1) 1
/-- the bits that are set, the lowest first -/
def bitsOf (b : By) : List Nat := (List.range 8).filter fun k => b.getLsbD k
theorem bits_step : ∀ b : By, b ≠ 0 → bitsOf b = ntz8 b :: bitsOf (b &&& (b - 1)) ∧ ntz8 b < 8 := all8 (by decide +kernel)
theorem bits_zero : bitsOf 0 = [] := by decide +kernel
theorem bits_drop : ∀ b : By, b ≠ 0 → (b &&& (b - 1)).toNat < b.toNat := all8 (by decide +kernel)
def foldB (i : Nat) (l : List Nat) (s : Nat) : Nat := l.foldl (fun s k => s ^^^ placeN (8 * i + k)) s
/-- how many bits of 16 are set -/
def popN (n : Nat) : Nat := pop8 (BitVec.ofNat 8 (n / 256)) + pop8 (BitVec.ofNat 8 (n % 256))
theorem pop8_le : ∀ x : By, pop8 x ≤ 8 := all8 (by decide +kernel)
theorem pop8_u8 : ∀ x : By, (UInt8.ofNat (pop8 x)).toNat = pop8 x := all8 (by decide +kernel)
def lenN (x : Nat) : Nat := ((List.range 17).find? fun i => decide (x < 2 ^ i)).getD 17
/-- Go's count of the bits of 64, for small numbers -/
def swar (x : Int) : Int :=
  let a := IntKind.u64.wrap (ibits .and .u64 (x.fdiv (2 ^ (min (1 : Int).toNat IntKind.u64.bits))) 6148914691236517205 + ibits .and .u64 x 6148914691236517205)
  let b := IntKind.u64.wrap (ibits .and .u64 (a.fdiv (2 ^ (min (2 : Int).toNat IntKind.u64.bits))) 3689348814741910323 + ibits .and .u64 a 3689348814741910323)
  let c := ibits .and .u64 (IntKind.u64.wrap (b.fdiv (2 ^ (min (4 : Int).toNat IntKind.u64.bits)) + b)) 1085102592571150095
  let d := IntKind.u64.wrap (c + c.fdiv (2 ^ (min (8 : Int).toNat IntKind.u64.bits)))
  let e := IntKind.u64.wrap (d + d.fdiv (2 ^ (min (16 : Int).toNat IntKind.u64.bits)))
  let f := IntKind.u64.wrap (e + e.fdiv (2 ^ (min (32 : Int).toNat IntKind.u64.bits)))
  ibits .and .i64 (IntKind.i64.wrap f) 127
theorem all12 {p : Nat → Prop} (h : ∀ a < 64, ∀ b < 64, p (64 * a + b)) : ∀ s < 4096, p s := fun s hs => by
  have := h (s / 64) (by omega) (s % 64) (by omega)
  rwa [Nat.div_add_mod] at this
theorem swar_ok : ∀ s < 4096, swar (s : Nat) = (popN s : Nat) := all12 (by decide +kernel)
theorem len_lo : ∀ s < 256, len8 (BitVec.ofNat 8 s) = lenN s := by decide +kernel
theorem len_hi : ∀ s < 4096, 256 ≤ s → 8 + len8 (BitVec.ofNat 8 (s / 256)) = lenN s := all12 (by decide +kernel)
theorem place_lt : ∀ i < 2048, placeN i < 4096 := by decide +kernel
theorem and_pred : ∀ s < 4096, ibits .and .i64 (s : Nat) ((s : Nat) - 1) = ((s &&& (s - 1) : Nat) : Int) := all12 (by decide +kernel)
theorem notpow : ∀ s < 4096, ¬ s &&& (s - 1) = 0 → lenN s + 1 ≤ s := all12 (by decide +kernel)
theorem bit8 : ∀ k < 8, IntKind.u8.wrap (1 * 2 ^ (min ((k : Nat) : Int).toNat IntKind.u8.bits)) = ((1#8 <<< k).toNat : Int) := by decide +kernel
theorem len8_le : ∀ x : By, len8 x ≤ 8 := all8 (by decide +kernel)
theorem popN_le (n : Nat) : popN n ≤ 16 := by
  have := pop8_le (BitVec.ofNat 8 (n / 256))
  have := pop8_le (BitVec.ofNat 8 (n % 256))
  unfold popN; omega
end Go.Proofs.YtkfcpjohblddmaaGreat
end
section
/- The plain laws of packing, of check sums, of mending. -/
namespace Go.Proofs.YtkfcpjohblddmaaGreat
open Go.K
set_option linter.unusedVariables false
set_option linter.unusedSimpArgs false

/-! ### whole numbers of so many bits -/
theorem wrap_u (k : IntKind) (hk : k.signed = false) (i : Int) : k.wrap i = ((BitVec.ofInt k.bits i).toNat : Int) := by
  have h : (2 : Int) ^ k.bits = ((2 ^ k.bits : Nat) : Int) := by push_cast; rfl
  have hp : (0 : Int) < ((2 ^ k.bits : Nat) : Int) := by exact_mod_cast Nat.two_pow_pos k.bits
  simp only [IntKind.wrap, hk, Bool.false_and, Bool.false_eq_true, if_false, BitVec.toNat_ofInt, h]
  have := Int.emod_nonneg i (Int.ne_of_gt hp)
  omega
theorem ofInt_nat {n : Nat} (x : BitVec n) : BitVec.ofInt n (x.toNat : Int) = x := by simp
theorem wrap_self (k : IntKind) (hk : k.signed = false) (x : BitVec k.bits) : k.wrap (x.toNat : Int) = x.toNat := by
  rw [wrap_u k hk, ofInt_nat]
theorem bits_u (op : BinOp) (k : IntKind) (hk : k.signed = false) (x y : BitVec k.bits) : ibits op k x.toNat y.toNat = ((match op with | .and => x &&& y | .or => x ||| y | .xor => x ^^^ y | _ => x &&& ~~~y).toNat : Int) := by
  unfold ibits
  cases op <;> simp only [ofInt_nat] <;> exact wrap_self k hk _
theorem conv_u8 {n : Nat} (x : BitVec n) : IntKind.u8.wrap (x.toNat : Int) = ((x.setWidth 8).toNat : Int) := by
  rw [wrap_u .u8 rfl]
  simp [IntKind.bits]
theorem conv_up {n : Nat} (k : IntKind) (hk : k.signed = false) (x : BitVec n) : k.wrap (x.toNat : Int) = ((x.setWidth k.bits).toNat : Int) := by
  rw [wrap_u k hk]
  simp
theorem fdiv_pow {n : Nat} (x : BitVec n) (m : Nat) : (x.toNat : Int).fdiv (2 ^ m) = ((x >>> m).toNat : Int) := by
  rw [BitVec.toNat_ushiftRight, Nat.shiftRight_eq_div_pow, Int.fdiv_eq_ediv_of_nonneg _ (by exact_mod_cast Nat.zero_le _)]
  push_cast
  rfl
/-- whole numbers below 2^62, as Go's int has them -/
theorem bits_n (op : BinOp) (x y : Nat) (hx : x < 2 ^ 62) (hy : y < 2 ^ 62) (ho : op = .and ∨ op = .or ∨ op = .xor) : ibits op .i64 x y = ((match op with | .and => x &&& y | .or => x ||| y | _ => x ^^^ y : Nat) : Int) := by
  have hw : ∀ z : Nat, z < 2 ^ 62 → IntKind.i64.wrap (z : Int) = z := fun z hz => wrap64_in (by omega)
  have hm : ∀ z : Nat, z < 2 ^ 62 → z % 2 ^ 64 = z := fun z hz => Nat.mod_eq_of_lt (by omega)
  rcases ho with rfl | rfl | rfl
  · show IntKind.i64.wrap ((BitVec.ofInt 64 (x : Int) &&& BitVec.ofInt 64 (y : Int)).toNat : Int) = _
    rw [BitVec.ofInt_natCast, BitVec.ofInt_natCast, BitVec.toNat_and, BitVec.toNat_ofNat, BitVec.toNat_ofNat, hm x hx, hm y hy]
    exact hw _ (Nat.lt_of_le_of_lt Nat.and_le_left hx)
  · show IntKind.i64.wrap ((BitVec.ofInt 64 (x : Int) ||| BitVec.ofInt 64 (y : Int)).toNat : Int) = _
    rw [BitVec.ofInt_natCast, BitVec.ofInt_natCast, BitVec.toNat_or, BitVec.toNat_ofNat, BitVec.toNat_ofNat, hm x hx, hm y hy]
    exact hw _ (Nat.or_lt_two_pow hx hy)
  · show IntKind.i64.wrap ((BitVec.ofInt 64 (x : Int) ^^^ BitVec.ofInt 64 (y : Int)).toNat : Int) = _
    rw [BitVec.ofInt_natCast, BitVec.ofInt_natCast, BitVec.toNat_xor, BitVec.toNat_ofNat, BitVec.toNat_ofNat, hm x hx, hm y hy]
    exact hw _ (Nat.xor_lt_two_pow hx hy)

theorem rd_shr8 {P : Program} {E : Env} {H : Hp} {t u : TypeId} {x y : Operand} {v : Wd} (hx : ev E x = some (.int .u64 v.toNat)) (hy : ev E y = some (.int .u64 8)) : Rd P E H (.binOp .shr t x y u) (.int .u64 ((v >>> 8).toNat)) := by
  have := rd_shr (P := P) (H := H) (t := t) (u := u) hx hy (by omega)
  rw [show (min (8 : Int).toNat IntKind.u64.bits) = 8 from rfl, fdiv_pow] at this
  exact this

theorem rd_shl64 {P : Program} {E : Env} {H : Hp} {t u : TypeId} {x y : Operand} {v : Wd} {j : Int} {k : Nat} (hx : ev E x = some (.int .u64 v.toNat)) (hy : ev E y = some (.int .i64 j)) (hj : j = (k : Int)) (hk : k < 64) : Rd P E H (.binOp .shl t x y u) (.int .u64 ((v <<< k).toNat)) := by
  subst hj
  have := rd_shl (P := P) (H := H) (t := t) (u := u) hx hy (by omega)
  have hb : IntKind.u64.bits = 64 := rfl
  rw [hb, show min ((k : Int).toNat) 64 = k by omega, wrap_u .u64 rfl] at this
  have e : (BitVec.ofInt IntKind.u64.bits ((v.toNat : Int) * 2 ^ k)) = v <<< k := by
    show BitVec.ofInt 64 ((v.toNat : Int) * 2 ^ k) = _
    apply BitVec.eq_of_toNat_eq
    rw [BitVec.toNat_ofInt, BitVec.toNat_shiftLeft, Nat.shiftLeft_eq]
    have : ((v.toNat : Int) * 2 ^ k) = ((v.toNat * 2 ^ k : Nat) : Int) := by push_cast; rfl
    rw [this]
    omega
  rw [e] at this
  exact this

def uv (x : BitVec 32) : Value := .int .u32 x.toNat
theorem compl_u8 (x : By) : ibits .xor .u8 (if IntKind.u8.signed then -1 else IntKind.u8.max) x.toNat = ((~~~x).toNat : Int) := by
  show IntKind.u8.wrap ((BitVec.ofInt 8 255 ^^^ BitVec.ofInt 8 (x.toNat : Int)).toNat : Int) = _
  rw [ofInt_nat, show BitVec.ofInt 8 255 = BitVec.allOnes 8 from by decide, BitVec.allOnes_xor]
  exact wrap_self .u8 rfl _
theorem compl_u32 (x : BitVec 32) : ibits .xor .u32 (if IntKind.u32.signed then -1 else IntKind.u32.max) x.toNat = ((~~~x).toNat : Int) := by
  show IntKind.u32.wrap ((BitVec.ofInt 32 4294967295 ^^^ BitVec.ofInt 32 (x.toNat : Int)).toNat : Int) = _
  rw [ofInt_nat, show BitVec.ofInt 32 4294967295 = BitVec.allOnes 32 from by decide, BitVec.allOnes_xor]
  exact wrap_self .u32 rfl _
theorem neg_u32 (x : BitVec 32) : IntKind.u32.wrap (0 - (x.toNat : Int)) = ((-x).toNat : Int) := by
  rw [wrap_u .u32 rfl, Int.zero_sub]
  show ((BitVec.ofInt 32 (-(x.toNat : Int))).toNat : Int) = _
  rw [BitVec.ofInt_neg, ofInt_nat]

section
variable {P : Program} {E : Env} {H : Hp} {t u : TypeId} {x y : Operand}
theorem rd_xor32 {a b : BitVec 32} (hx : ev E x = some (uv a)) (hy : ev E y = some (uv b)) : Rd P E H (.binOp .xor t x y u) (uv (a ^^^ b)) := by
  have := rd_bin (P := P) (H := H) (op := .xor) (t := t) (u := u) hx hy rfl
  have e : ibits .xor .u32 a.toNat b.toNat = ((a ^^^ b).toNat : Int) := bits_u .xor .u32 rfl a b
  rw [e] at this
  exact this
theorem rd_and32 {a b : BitVec 32} (hx : ev E x = some (uv a)) (hy : ev E y = some (uv b)) : Rd P E H (.binOp .and t x y u) (uv (a &&& b)) := by
  have := rd_bin (P := P) (H := H) (op := .and) (t := t) (u := u) hx hy rfl
  have e : ibits .and .u32 a.toNat b.toNat = ((a &&& b).toNat : Int) := bits_u .and .u32 rfl a b
  rw [e] at this
  exact this
theorem rd_shr32 {a : BitVec 32} (hx : ev E x = some (uv a)) (hy : ev E y = some (.int .i64 1)) : Rd P E H (.binOp .shr t x y u) (uv (a >>> 1)) := by
  have := rd_shr (P := P) (H := H) (t := t) (u := u) hx hy (by omega)
  rw [show (min (1 : Int).toNat IntKind.u32.bits) = 1 from rfl, fdiv_pow] at this
  exact this
theorem rd_shr32u {k : IntKind} {a : BitVec 32} (hx : ev E x = some (uv a)) (hy : ev E y = some (.int k 1)) : Rd P E H (.binOp .shr t x y u) (uv (a >>> 1)) := by
  have := rd_shr (P := P) (H := H) (t := t) (u := u) hx hy (by omega)
  rw [show (min (1 : Int).toNat IntKind.u32.bits) = 1 from rfl, fdiv_pow] at this
  exact this
theorem rd_neg32 {a : BitVec 32} (hx : ev E x = some (uv a)) : Rd P E H (.unOp .neg t x) (uv (-a)) := by
  have := rd_neg (P := P) (H := H) (t := t) hx
  rw [neg_u32] at this
  exact this
theorem rd_compl32 {a : BitVec 32} (hx : ev E x = some (uv a)) : Rd P E H (.unOp .xor t x) (uv (~~~a)) := by
  have := rd_compl (P := P) (H := H) (t := t) hx
  rwa [compl_u32] at this
theorem rd_compl8 {a : By} (hx : ev E x = some (bv a)) : Rd P E H (.unOp .xor t x) (bv (~~~a)) := by
  have := rd_compl (P := P) (H := H) (t := t) hx
  rwa [compl_u8] at this
theorem rd_sub8 {a b : By} (hx : ev E x = some (bv a)) (hy : ev E y = some (bv b)) : Rd P E H (.binOp .sub t x y u) (bv (a - b)) := by
  have := rd_bin (P := P) (H := H) (op := .sub) (t := t) (u := u) hx hy rfl
  have e : IntKind.u8.wrap ((a.toNat : Int) - b.toNat) = ((a - b).toNat : Int) := by
    rw [wrap_u .u8 rfl]
    show ((BitVec.ofInt 8 ((a.toNat : Int) - b.toNat)).toNat : Int) = _
    rw [BitVec.toNat_sub, BitVec.toNat_ofInt]
    have := a.isLt
    have := b.isLt
    omega
  rw [e] at this
  exact this
theorem rd_by32 {s : TypeId} {ds : TypeDesc} {a : By} [Und P s ds] [Und P t (.int .u32)] (hx : ev E x = some (bv a)) : Rd P E H (.convert s t x) (uv (a.setWidth 32)) := by
  have := rd_convI (P := P) (H := H) (s := s) (t := t) (k := .u32) hx
  rw [conv_up .u32 rfl a] at this
  exact this
theorem rd_by64 {s : TypeId} {ds : TypeDesc} {a : By} [Und P s ds] [Und P t (.int .u64)] (hx : ev E x = some (bv a)) : Rd P E H (.convert s t x) (wv (a.setWidth 64)) := by
  have := rd_convI (P := P) (H := H) (s := s) (t := t) (k := .u64) hx
  rw [conv_up .u64 rfl a] at this
  exact this
theorem rd_32to64 {s : TypeId} {ds : TypeDesc} {a : BitVec 32} [Und P s ds] [Und P t (.int .u64)] (hx : ev E x = some (uv a)) : Rd P E H (.convert s t x) (wv (a.setWidth 64)) := by
  have := rd_convI (P := P) (H := H) (s := s) (t := t) (k := .u64) hx
  rw [conv_up .u64 rfl a] at this
  exact this
end

/-! ### pack -/
def shrN (x : Wd) : Nat → Wd
  | 0 => x
  | i + 1 => shrN x i >>> 8
def numB (k : Nat) (x : Wd) : List By := (List.range k).map fun i => (shrN x i).setWidth 8
theorem numB_succ (k : Nat) (x : Wd) : numB (k + 1) x = numB k x ++ [(shrN x k).setWidth 8] := by
  simp [numB, List.range_succ]
theorem numB_len (k : Nat) (x : Wd) : (numB k x).length = k := by simp [numB]
def numsB (k : Nat) (xs : List Wd) : List By := xs.flatMap (numB k)
theorem numsB_take {k i : Nat} {xs : List Wd} {x : Wd} (h : xs[i]? = some x) : numsB k (xs.take (i + 1)) = numsB k (xs.take i) ++ numB k x := by
  rw [List.take_add_one, h]
  simp [numsB]
theorem numsB_len (k : Nat) (xs : List Wd) : (numsB k xs).length = xs.length * k := by
  induction xs with
  | nil => simp [numsB]
  | cons x xs ih => simp only [numsB, List.flatMap_cons, List.length_append, numB_len, List.length_cons, Nat.succ_mul] at *; omega
/-- the number that bytes make -/
def valB : List By → Wd
  | [] => 0
  | b :: l => b.setWidth 64 ||| (valB l <<< 8)
/-- the number of the bytes that were read so far, the last one first -/
def valUp (xs : List By) (i : Nat) : Wd := (List.range i).foldl (fun n j => n ||| ((xs.getD j 0).setWidth 64 <<< (8 * j))) 0
theorem valUp_succ (xs : List By) (i : Nat) : valUp xs (i + 1) = valUp xs i ||| ((xs.getD i 0).setWidth 64 <<< (8 * i)) := by
  simp [valUp, List.range_succ]

section
variable {P : Program} {E : Env} {H : Hp} {t u : TypeId} {x y : Operand} {a b : Nat}
theorem rd_xorN (hx : ev E x = some (.int .i64 (a : Nat))) (hy : ev E y = some (.int .i64 (b : Nat))) (ha : a < 2 ^ 62) (hb : b < 2 ^ 62) : Rd P E H (.binOp .xor t x y u) (.int .i64 ((a ^^^ b : Nat) : Int)) := by
  have := rd_bin (P := P) (H := H) (op := .xor) (t := t) (u := u) hx hy rfl
  rw [bits_n .xor a b ha hb (.inr (.inr rfl))] at this
  exact this
theorem rd_andN (hx : ev E x = some (.int .i64 (a : Nat))) (hy : ev E y = some (.int .i64 (b : Nat))) (ha : a < 2 ^ 62) (hb : b < 2 ^ 62) : Rd P E H (.binOp .and t x y u) (.int .i64 ((a &&& b : Nat) : Int)) := by
  have := rd_bin (P := P) (H := H) (op := .and) (t := t) (u := u) hx hy rfl
  rw [bits_n .and a b ha hb (.inl rfl)] at this
  exact this
theorem rd_andPred (hx : ev E x = some (.int .i64 (a : Nat))) (hy : ev E y = some (.int .i64 ((a : Int) - 1))) (ha : a < 4096) : Rd P E H (.binOp .and t x y u) (.int .i64 ((a &&& (a - 1) : Nat) : Int)) := by
  have := rd_bin (P := P) (H := H) (op := .and) (t := t) (u := u) hx hy rfl
  rw [and_pred a ha] at this
  exact this
theorem rd_addN (hx : ev E x = some (.int .i64 (a : Nat))) (hy : ev E y = some (.int .i64 (b : Nat))) (ha : a + b < 2 ^ 62) : Rd P E H (.binOp .add t x y u) (.int .i64 ((a + b : Nat) : Int)) := by
  have := rd_add64 (P := P) (H := H) (t := t) (u := u) hx hy (by omega)
  rw [← Int.natCast_add] at this
  exact this
theorem rd_orN (hx : ev E x = some (.int .i64 (a : Nat))) (hy : ev E y = some (.int .i64 (b : Nat))) (ha : a < 2 ^ 62) (hb : b < 2 ^ 62) : Rd P E H (.binOp .or t x y u) (.int .i64 ((a ||| b : Nat) : Int)) := by
  have := rd_bin (P := P) (H := H) (op := .or) (t := t) (u := u) hx hy rfl
  rw [bits_n .or a b ha hb (.inr (.inl rfl))] at this
  exact this
theorem and16 {n m : Nat} (hn : n < 65536) (hm : m < 65536) : ibits .and .u16 n m = ((n &&& m : Nat) : Int) := by
  show IntKind.u16.wrap ((BitVec.ofInt 16 (n : Int) &&& BitVec.ofInt 16 (m : Int)).toNat : Int) = _
  rw [BitVec.ofInt_natCast, BitVec.ofInt_natCast, BitVec.toNat_and, BitVec.toNat_ofNat, BitVec.toNat_ofNat, Nat.mod_eq_of_lt (show n < 2 ^ 16 from hn), Nat.mod_eq_of_lt (show m < 2 ^ 16 from hm)]
  have : n &&& m ≤ n := Nat.and_le_left
  have h2 : (2 : Int) ^ IntKind.u16.bits = 65536 := rfl
  simp only [IntKind.wrap, h2, show IntKind.u16.signed = false from rfl, Bool.false_and, Bool.false_eq_true, if_false]
  omega
theorem rd_and16 (hx : ev E x = some (.int .u16 (a : Nat))) (hy : ev E y = some (.int .u16 (b : Nat))) (ha : a < 65536) (hb : b < 65536) : Rd P E H (.binOp .and t x y u) (.int .u16 ((a &&& b : Nat) : Int)) := by
  have := rd_bin (P := P) (H := H) (op := .and) (t := t) (u := u) hx hy rfl
  rw [and16 ha hb] at this
  exact this
theorem rd_shrN {k k' : IntKind} {j : Int} {m : Nat} (hx : ev E x = some (.int k (a : Nat))) (hy : ev E y = some (.int k' j)) (hj : j = (m : Int)) (hm : m ≤ k.bits) : Rd P E H (.binOp .shr t x y u) (.int k ((a / 2 ^ m : Nat) : Int)) := by
  subst hj
  have := rd_shr (P := P) (H := H) (t := t) (u := u) hx hy (by omega)
  rw [show min ((m : Int).toNat) k.bits = m by omega, Int.fdiv_eq_ediv_of_nonneg _ (by exact_mod_cast Nat.zero_le _)] at this
  push_cast at this ⊢
  exact this
theorem rd_shlN {k' : IntKind} {j : Int} {m : Nat} (hx : ev E x = some (.int .i64 (a : Nat))) (hy : ev E y = some (.int k' j)) (hj : j = (m : Int)) (hm : m ≤ 62) (hb : a * 2 ^ m < 2 ^ 63) : Rd P E H (.binOp .shl t x y u) (.int .i64 ((a * 2 ^ m : Nat) : Int)) := by
  subst hj
  have := rd_shl (P := P) (H := H) (t := t) (u := u) hx hy (by omega)
  rw [show min ((m : Int).toNat) IntKind.i64.bits = m from by (have : IntKind.i64.bits = 64 := rfl); omega] at this
  have e : (a : Int) * 2 ^ m = ((a * 2 ^ m : Nat) : Int) := by push_cast; rfl
  rw [e, wrap64_in (by omega)] at this
  exact this
end
theorem rd_bit8 {P : Program} {E : Env} {H : Hp} {t u : TypeId} {x y : Operand} {k : Nat} (hx : ev E x = some (.int .u8 1)) (hy : ev E y = some (.int .i64 (k : Nat))) (hk : k < 8) : Rd P E H (.binOp .shl t x y u) (bv (1#8 <<< k)) := by
  have := rd_shl (P := P) (H := H) (t := t) (u := u) hx hy (by omega)
  rw [bit8 k hk] at this
  exact this
theorem rd_convN {P : Program} {E : Env} {H : Hp} {s t : TypeId} {x : Operand} {ds : TypeDesc} {k k' : IntKind} {a : Nat} [hs : Und P s ds] [ht : Und P t (.int k)] (hx : ev E x = some (.int k' (a : Nat))) (h : k.wrap (a : Int) = a) : Rd P E H (.convert s t x) (.int k (a : Nat)) := by
  have := rd_convI (P := P) (H := H) (s := s) (t := t) (k := k) hx
  rwa [h] at this
theorem rd_via {P : Program} {E : Env} {H : Hp} {s t : TypeId} {x : Operand} {ds : TypeDesc} {k k' : IntKind} {a r : Int} [hs : Und P s ds] [ht : Und P t (.int k)] (h : k.wrap a = r) (hx : ev E x = some (.int k' a)) : Rd P E H (.convert s t x) (.int k r) := by
  have := rd_convI (P := P) (H := H) (s := s) (t := t) (k := k) hx
  rwa [h] at this
theorem wrapN_u (k : IntKind) (hk : k.signed = false) {a : Nat} (h : a < 2 ^ k.bits) : k.wrap (a : Int) = a := by
  rw [wrap_u k hk, BitVec.ofInt_natCast, BitVec.toNat_ofNat, Nat.mod_eq_of_lt h]
theorem wrapN_i {a : Nat} (h : a < 2 ^ 63) : IntKind.i64.wrap (a : Int) = a := wrap64_in (by omega)

/-- A number, or bytes, read of what is left; too few: nothing is left, and it is noted. -/
def rdNum (k : Nat) (l : List By) (bad : Bool) : Wd × List By × Bool := if l.length < k then (0, [], true) else (valUp (l.take k) k, l.drop k, bad)
def rdBytes (k : Nat) (l : List By) (bad : Bool) : List By × List By × Bool := if l.length < k then ([], [], true) else (l.take k, l.drop k, bad)
theorem rdNum_le (k : Nat) (l : List By) (bad : Bool) : (rdNum k l bad).2.1.length ≤ l.length := by unfold rdNum; split <;> simp
theorem rdBytes_le (k : Nat) (l : List By) (bad : Bool) : (rdBytes k l bad).2.1.length ≤ l.length ∧ (rdBytes k l bad).1.length ≤ l.length := by unfold rdBytes; split <;> simp <;> omega

theorem rdN_len {k m : Nat} {l l' : List By} {bad : Bool} (h : l' = (rdNum k l bad).2.1) (hl : l.length ≤ m) : l'.length ≤ m := by rw [h]; have := rdNum_le k l bad; omega
theorem rdB_len {k m : Nat} {l l' : List By} {bad : Bool} (h : l' = (rdBytes k l bad).2.1) (hl : l.length ≤ m) : l'.length ≤ m := by rw [h]; have := rdBytes_le k l bad; omega
theorem rdB_len1 {k m : Nat} {l l' : List By} {bad : Bool} (h : l' = (rdBytes k l bad).1) (hl : l.length ≤ m) : l'.length ≤ m := by rw [h]; have := rdBytes_le k l bad; omega

/-! ### crc -/
def polyV : BitVec 32 := 0xedb88320
def crc1 (c : BitVec 32) : BitVec 32 := (c >>> 1) ^^^ (polyV &&& (-(c &&& 1)))
def crcK (c : BitVec 32) : Nat → BitVec 32
  | 0 => c
  | k + 1 => crc1 (crcK c k)
def crcB (c : BitVec 32) (b : By) : BitVec 32 := crcK (c ^^^ b.setWidth 32) 8
def crcL (c : BitVec 32) (xs : List By) : BitVec 32 := xs.foldl crcB c
def crcOn (s : BitVec 32) (ps : List (List By)) : BitVec 32 := ~~~ (ps.foldl crcL (~~~ s))
theorem crcL_take {c : BitVec 32} {xs : List By} {i : Nat} {b : By} (h : xs[i]? = some b) : crcL c (xs.take (i + 1)) = crcB (crcL c (xs.take i)) b := by
  rw [List.take_add_one, h]
  simp [crcL]
def joinB (ps : List (Sl By)) : List By := ps.flatMap (·.list)
theorem joinB_take {ps : List (Sl By)} {i : Nat} {s : Sl By} (h : ps[i]? = some s) : joinB (ps.take (i + 1)) = joinB (ps.take i) ++ s.list := by
  rw [List.take_add_one, h]; simp [joinB]
theorem joinB_le (ps : List (Sl By)) (i : Nat) : (joinB (ps.take i)).length ≤ (joinB ps).length := by
  have : joinB ps = joinB (ps.take i) ++ joinB (ps.drop i) := by simp only [joinB]; rw [← List.flatMap_append, List.take_append_drop]
  rw [this, List.length_append]; omega
/-- a buffer of which the first bytes are written -/
def bufC (cs : List Value) (xs : List By) : List Value := cells xs ++ cs.drop xs.length
theorem buf_step {cs : List Value} {xs ys : List By} {o : Nat} (h : xs.length + ys.length ≤ cs.length) (ho : ys = [] ∧ o = 0 ∨ o = xs.length) : splice (bufC cs xs) o (cells ys) = some (bufC cs (xs ++ ys)) := by
  have hl : (cells xs).length = xs.length := by rw [cells_len]; simp [Cel.sz]
  have hl2 : (cells ys).length = ys.length := by rw [cells_len]; simp [Cel.sz]
  rcases ho with ⟨rfl, rfl⟩ | rfl
  · refine splice_of ?_ (by simp)
    simp [bufC, cells]
  · refine splice_of ?_ (by simp only [bufC, List.length_append, List.length_drop, hl, hl2]; omega)
    simp only [bufC, cells, List.flatMap_append, List.append_assoc]
    have h1 : List.take xs.length (List.flatMap Cel.cs xs ++ List.drop xs.length cs) = cells xs := by rw [List.take_append_of_le_length (by rw [← hl]; exact Nat.le_refl _), ← hl, List.take_length]
    have h2 : List.drop (xs.length + (List.flatMap Cel.cs ys).length) (List.flatMap Cel.cs xs ++ List.drop xs.length cs) = List.drop (xs.length + ys.length) cs := by
      rw [show (List.flatMap Cel.cs ys).length = ys.length from hl2, List.drop_append, show (List.flatMap Cel.cs xs).length = xs.length from hl, List.drop_eq_nil_of_le (by rw [show (List.flatMap Cel.cs xs).length = xs.length from hl]; omega), List.nil_append, List.drop_drop]
      congr 1; omega
    rw [h1, h2, List.length_append]
theorem foldl_take {α β : Type} {f : β → α → β} {c : β} {xs : List α} {i : Nat} {b : α} (h : xs[i]? = some b) : (xs.take (i + 1)).foldl f c = f ((xs.take i).foldl f c) b := by
  rw [List.take_add_one, h]
  simp

/-! ### ham -/
abbrev Dat := Vector By 256
/-- the lines, and the parity, of the first bytes -/
def lineU (d : Dat) (i : Nat) : Nat := (List.range i).foldl (fun s j => foldB j (bitsOf (d.toList.getD j 0)) s) 0
def oddU (d : Dat) (i : Nat) : Nat := (List.range i).foldl (fun s j => s ^^^ (pop8 (d.toList.getD j 0) % 2)) 0
theorem lineU_succ (d : Dat) (i : Nat) : lineU d (i + 1) = foldB i (bitsOf (d.toList.getD i 0)) (lineU d i) := by simp [lineU, List.range_succ]
theorem oddU_succ (d : Dat) (i : Nat) : oddU d (i + 1) = oddU d i ^^^ (pop8 (d.toList.getD i 0) % 2) := by simp [oddU, List.range_succ]
def lineN (d : Dat) : Nat := lineU d 256
def oddN (d : Dat) : Nat := oddU d 256
theorem xor_lt {a b : Nat} (ha : a < 4096) (hb : b < 4096) : a ^^^ b < 4096 := Nat.xor_lt_two_pow (n := 12) ha hb
theorem foldB_lt {i : Nat} (hi : i < 256) : ∀ (l : List Nat) (s : Nat), (∀ k ∈ l, k < 8) → s < 4096 → foldB i l s < 4096 := by
  intro l
  induction l with
  | nil => intro s _ hs; exact hs
  | cons k l ih =>
    intro s hl hs
    simp only [foldB, List.foldl_cons]
    exact ih _ (fun k hk => hl k (.tail _ hk)) (xor_lt hs (place_lt _ (by have := hl k (.head _); omega)))
theorem bitsOf_lt (b : By) : ∀ k ∈ bitsOf b, k < 8 := fun k hk => by
  simp only [bitsOf, List.mem_filter, List.mem_range] at hk
  exact hk.1
theorem lineU_lt (d : Dat) : ∀ i, i ≤ 256 → lineU d i < 4096 := by
  intro i
  induction i with
  | zero => intro _; simp [lineU]
  | succ i ih => intro h; rw [lineU_succ]; exact foldB_lt (by omega) _ _ (bitsOf_lt _) (ih (by omega))
theorem oddU_lt (d : Dat) : ∀ i, oddU d i < 2 := by
  intro i
  induction i with
  | zero => simp [oddU]
  | succ i ih => rw [oddU_succ]; exact Nat.xor_lt_two_pow (n := 1) ih (by omega)
def checkN (d : Dat) : Nat := if (oddN d + popN (lineN d)) % 2 = 0 then lineN d else lineN d ||| 4096
theorem checkN_lt (d : Dat) : checkN d < 8192 := by
  have h := lineU_lt d 256 (Nat.le_refl _)
  unfold checkN lineN
  split
  · omega
  · exact Nat.or_lt_two_pow (n := 13) (by omega) (by omega)
/-- a bit of the data turned -/
def flipD (d : Dat) (i : Nat) : Dat := if h : i / 8 < 256 then d.set (i / 8) (d[i / 8] ^^^ (1#8 <<< (i % 8))) else d
def zeroD : Dat := Vector.replicate 256 0#8
theorem zeroD_eq : List.replicate 256 (Value.int .u8 0) = vbc zeroD := by kernel_rfl
def isPow (n : Nat) : Bool := n &&& (n - 1) == 0
/-- The data mended; how many bits were; or an error. -/
def hamFix (d : Dat) (chk : Nat) : Dat × Int × Int :=
  let s := lineN d ^^^ (chk &&& 4095)
  let odd := (oddN d + popN (chk &&& 8191)) % 2
  if s = 0 ∧ odd = 0 then (d, 0, 0) else if odd = 0 then (zeroD, 0, 21) else if s &&& (s - 1) = 0 then (d, 1, 0)
  else if 2048 ≤ (s : Int) - 1 - lenN s then (zeroD, 0, 21) else (flipD d (s - 1 - lenN s), 1, 0)
end Go.Proofs.YtkfcpjohblddmaaGreat
end
section
/- Walks of packages pack, crc, of bytes. -/
namespace Go.Proofs.YtkfcpjohblddmaaGreat
open Go.K
set_option linter.unusedVariables false
set_option linter.unusedSimpArgs false
instance und30 : Und Tryz.prog 30 (.slice 5) := ⟨Tryz.underlying30⟩
instance agg30 : Agg Tryz.prog 30 false := ⟨⟨_, Tryz.underlying30, rfl⟩⟩
instance siz30 : Siz Tryz.prog 30 1 := ⟨by kernel_rfl⟩
instance und45 : Und Tryz.prog 45 (.int .u64) := ⟨Tryz.underlying45⟩
instance agg45 : Agg Tryz.prog 45 false := ⟨⟨_, Tryz.underlying45, rfl⟩⟩
instance siz45 : Siz Tryz.prog 45 1 := ⟨by kernel_rfl⟩
instance und57 : Und Tryz.prog 57 (.slice 45) := ⟨Tryz.underlying57⟩
instance agg57 : Agg Tryz.prog 57 false := ⟨⟨_, Tryz.underlying57, rfl⟩⟩
instance siz57 : Siz Tryz.prog 57 1 := ⟨by kernel_rfl⟩
instance agg159 : Agg Tryz.prog 159 true := ⟨⟨_, Tryz.underlying159, rfl⟩⟩
instance siz159 : Siz Tryz.prog 159 2 := ⟨by kernel_rfl⟩
instance zer5 : Zer Tryz.prog 5 ([.int .u8 0]) := ⟨by kernel_rfl⟩
instance zer159 : Zer Tryz.prog 159 ([.slice none 0 0, .bool false]) := ⟨by kernel_rfl⟩
instance fld159_0 : Fld Tryz.prog 159 0 0 := ⟨⟨_, _, 0, Tryz.underlying159, rfl, by kernel_rfl, rfl⟩⟩
instance fld159_1 : Fld Tryz.prog 159 1 1 := ⟨⟨_, _, 0, Tryz.underlying159, rfl, by kernel_rfl, rfl⟩⟩
instance plc159 : Plc Tryz.prog 159 [(0, 1), (1, 1)] := ⟨⟨_, Tryz.underlying159, fun _ => by kernel_rfl⟩⟩
instance byt5 : Byt Tryz.prog 5 1 := ⟨by kernel_rfl⟩
instance ent45 : Ent Tryz.prog 45 := ⟨fun _ _ => by kernel_rfl⟩
instance ent59 : Ent Tryz.prog 59 := ⟨fun _ _ => by kernel_rfl⟩
instance ent60 : Ent Tryz.prog 60 := ⟨fun _ _ => by kernel_rfl⟩
instance ent63 : Ent Tryz.prog 63 := ⟨fun _ _ => by kernel_rfl⟩
instance ent74 : Ent Tryz.prog 74 := ⟨fun _ _ => by kernel_rfl⟩
instance ent98 : Ent Tryz.prog 98 := ⟨fun _ _ => by kernel_rfl⟩
instance ent121 : Ent Tryz.prog 121 := ⟨fun _ _ => by kernel_rfl⟩
instance ent122 : Ent Tryz.prog 122 := ⟨fun _ _ => by kernel_rfl⟩
instance ent125 : Ent Tryz.prog 125 := ⟨fun _ _ => by kernel_rfl⟩

abbrev tU8 : TypeId := 5
abbrev tU64 : TypeId := 45
abbrev tSB : TypeId := 30
theorem width_fn {n : Int} : Does Tryz.prog 74 [.int .i64 n] [] (Is (.int .i64 (clampN n 8 : Nat)) []) := by
  refine fn_enter (n := 6) Tryz.func74 Tryz.ntmps74 rfl (Nat.le_of_ble_eq_true rfl) <| s_seq <| s_region0 fun ops => oA rfl <| o_nil <| n_K <| s_seq <| s_region0 fun ops => oM rfl <| oR (rd_max rfl rfl) <| oR (rd_min rfl rfl) <| oA rfl <| o_nil <| n_K ?_
  refine s_ret ?_
  refine leaf_is (rets1 Tryz.results74 (rv_tmp rfl)) ?_ sP
  exact congrArg (Value.int .i64) (by unfold clampN; omega)
theorem nil_hp {α : Type} [Cel α] {T : TypeId} {L : Hp} : L = (Sl.nil : Sl α).hp T ++ L := by rw [Sl.hp_nil]; rfl
theorem num_fn {n : Int} {x : Wd} : Does Tryz.prog 45 [.int .i64 n, wv x] [] (fun v H => ∃ s : Sl By, v = s.val ∧ H = (s.hp tU8 ++ []) ∧ s.list = numB (clampN n 8) x ∧ s.isOwn = true) := by
  refine fn_enter (n := 18) Tryz.func45 Tryz.ntmps45 rfl (Nat.le_of_ble_eq_true rfl) <| s_seq <| s_region0 fun ops => oA rfl <| o_nil <| n_K <| s_seq <| s_seq <| s_region0 fun ops => oM rfl ?_
  refine c_is rfl (width_fn) sP rfl aQ ?_
  refine oM rfl <| o_nil <| n_K <| s_block ?_
  have hk : clampN n 8 ≤ 8 := by unfold clampN; omega
  generalize clampN n 8 = k at hk ⊢
  refine sc_eq (nil_hp (α := By) (T := tU8)) ?_
  refine s_loop2 [6] kQ (fun (st : Nat × Sl By) => [(7, .int .i64 st.1), (4, st.2.val), (1, wv (shrN x st.1))]) (fun (st : Nat × Sl By) => (st.2.hp tU8 ++ [])) (fun (st : Nat × Sl By) => st.1 ≤ k ∧ st.2.list = numB st.1 x ∧ st.2.isOwn = true) (fun (st : Nat × Sl By) => k - st.1) ((0, Sl.nil)) ⟨Nat.zero_le _, rfl, rfl⟩ kP sP ?_
  rintro ⟨i, s⟩ ⟨h0, h1, h2⟩
  have hl : s.list.length = i := by rw [h1, numB_len]
  simp only at h0
  refine s_seq <| s_region0 fun ops => oR (rd_bin rfl rfl rfl) <| o_nil <| n_K <| s_seq ?_
  refine s_cond rfl (fun c8 => ?_) (fun c8 => ?_)
  · try simp at c8
    refine s_skip <| n_K <| s_seq <| s_block <| s_seq <| s_region0 fun ops => oM rfl <| oM rfl ?_
    refine oR (show Rd _ _ _ _ (bv ((shrN x i).setWidth 8)) from by (unfold bv; rw [← conv_u8]; exact rd_convI rfl)) ?_
    refine o_bslice_k rfl rfl rfl rfl fun b12 => ?_
    refine o_append_sl (s := s) (new := [(shrN x i).setWidth 8]) (m := 1) rfl rfl pL h2 (src_blk (r := true) mM rfl) rfl rfl rfl rfl (by omega) rfl fun s' hs1 hs2 => ?_
    refine oA rfl <| o_nil <| n_K <| s_region0 fun ops => oM rfl ?_
    refine oR (show Rd _ _ _ _ (wv (shrN x (i + 1))) from by (unfold wv; exact rd_shr8 rfl rfl)) ?_
    refine oA rfl <| o_nil <| n_blk <| n_K <| s_region0 fun ops => ?_
    refine oR (rd_add64 rfl rfl (by omega)) ?_
    refine oM rfl <| o_nil <| n_K ?_
    exact ⟨(i + 1, s'), ⟨by simp only; omega, by rw [hs1, h1, numB_succ], hs2⟩, (by simp only; omega), lZ⟩
  · try simp at c8
    refine s_exit <| x_K <| x_K <| x_blk <| n_K <| s_seq <| s_region0 fun ops => oM rfl <| oA rfl <| o_nil <| n_K <| s_ret ?_
    exact leaf_r (rets1 Tryz.results45 (rv_tmp rfl)) (by exact ⟨s, rfl, rfl, by rw [h1, show i = k by omega], h2⟩) sP
theorem nums_fn {n : Int} {xs : Sl Wd} {T : TypeId} (hx : xs.list.length ≤ 1000000) : Does Tryz.prog 125 [.int .i64 n, xs.val] (xs.hp T ++ []) (fun v H => ∃ s : Sl By, v = s.val ∧ H = (s.hp tU8 ++ (xs.hp T ++ [])) ∧ s.list = numsB (clampN n 8) xs.list ∧ s.isOwn = true) := by
  refine fn_enter (n := 20) Tryz.func125 Tryz.ntmps125 rfl (Nat.le_of_ble_eq_true rfl) <| s_seq <| s_region0 fun ops => oA rfl <| o_nil <| n_K <| s_seq <| s_seq <| s_region0 fun ops => oM rfl <| oR (rd_lenS rfl) <| oM rfl <| o_nil <| n_K ?_
  refine s_block ?_
  have hk : clampN n 8 ≤ 8 := by unfold clampN; omega
  refine sc_eq (nil_hp (α := By) (T := tU8)) ?_
  refine s_loop2 [0, 7, 8] kQ (fun (st : Nat × Sl By) => [(9, .int .i64 st.1), (4, st.2.val)]) (fun (st : Nat × Sl By) => (st.2.hp tU8 ++ (xs.hp T ++ []))) (fun (st : Nat × Sl By) => st.1 ≤ xs.list.length ∧ st.2.list = numsB (clampN n 8) (xs.list.take st.1) ∧ st.2.isOwn = true) (fun (st : Nat × Sl By) => xs.list.length - st.1) ((0, Sl.nil)) ⟨Nat.zero_le _, by simp [numsB, Sl.list], rfl⟩ kP sP ?_
  rintro ⟨i, s⟩ ⟨h0, h1, h2⟩
  simp only at h0
  refine s_seq <| s_region0 fun ops => oR (rd_bin rfl rfl rfl) <| o_nil <| n_K <| s_seq ?_
  refine s_cond rfl (fun c10 => ?_) (fun c10 => ?_)
  · simp at c10
    obtain ⟨x, hg⟩ : ∃ x, xs.list[i]? = some x := ⟨_, List.getElem?_eq_getElem c10⟩
    have hl : s.list.length ≤ 8000000 := by (rw [h1, numsB_len]; have := Nat.mul_le_mul (show (xs.list.take i).length ≤ 1000000 by (rw [List.length_take]; omega)) hk; omega)
    refine s_skip <| n_K <| s_seq <| s_block <| s_seq <| s_region0 fun ops => ?_
    refine oR (rd_ixSl rfl rfl (by omega)) ?_
    refine oR (rd_ldSl (o := 0) (v := wv x) rfl pL hg rfl rfl) ?_
    refine oA rfl <| o_nil <| n_K <| s_region0 fun ops => oM rfl <| oM rfl <| oM rfl ?_
    refine c_ex rfl (num_fn) sP rfl fun v16 Y16 h16 => ?_
    obtain ⟨s16, rfl, rfl, hs16, ho16⟩ := h16
    refine so_ap aQ ?_
    refine o_append_sl (s := s) (new := s16.list) (m := s16.list.length) rfl rfl pL h2 (src_sl pL) rfl rfl rfl rfl (by rw [hs16, numB_len]; omega) rfl fun s' hs1 hs2 => ?_
    refine oA rfl <| o_nil <| n_blk <| n_K <| s_region0 fun ops => ?_
    refine oR (rd_add64 rfl rfl (by omega)) ?_
    refine oM rfl <| o_nil <| n_K ?_
    exact ⟨(i + 1, s'), ⟨by simp only; omega, by rw [hs1, h1, hs16, numsB_take hg], hs2⟩, (by simp only; omega), lZ⟩
  · simp at c10
    refine s_exit <| x_K <| x_K <| x_blk <| n_K <| s_seq <| s_region0 fun ops => oM rfl <| oA rfl <| o_nil <| n_K <| s_ret ?_
    exact leaf_r (rets1 Tryz.results125 (rv_tmp rfl)) (by exact ⟨s, rfl, rfl, by rw [h1, show i = xs.list.length by omega, List.take_length], h2⟩) sP
abbrev mt (α : Type) [Cel α] (b : Nat) : Sl α := .own b [] 0 [] ⟨by simp, Nat.le_refl _, Nat.zero_le _⟩
theorem own0 {α : Type} [Cel α] {b : Nat} {T : TypeId} {L : Hp} : ((b, true, C [] T) :: L) = (mt α b).hp T ++ L := by rw [Sl.hp_own]; rfl
theorem clone_fn {s : Sl By} {T : TypeId} (hs : s.list.length ≤ 70000000000000) : Does Tryz.prog 63 [s.val] (s.hp T ++ []) (fun v H => ∃ s' : Sl By, v = s'.val ∧ H = (s'.hp tU8 ++ (s.hp T ++ [])) ∧ s'.list = s.list ∧ s'.isOwn = true) := by
  refine fn_enter (n := 8) Tryz.func63 Tryz.ntmps63 rfl (Nat.le_of_ble_eq_true rfl) <| s_seq <| s_region0 fun ops => oA rfl <| o_nil <| n_K <| s_seq <| s_seq <| s_region0 fun ops => oM rfl <| oR (rd_eqNilS rfl rfl) <| o_nil <| n_K ?_
  refine s_cond rfl (fun c4 => ?_) (fun c4 => ?_)
  · skip
    have hn := Sl.nil_of s c4
    subst hn
    refine s_seq <| s_region0 fun ops => oA rfl <| o_nil <| n_K <| s_ret <| r_K ?_
    exact leaf_r (rets1 Tryz.results63 (rv_tmp rfl)) (by refine ⟨Sl.nil, rfl, rfl, rfl, rfl⟩) (by simp only [Sl.hp_nil, List.nil_append]; exact Split.nil)
  · skip
    refine s_skip <| n_K <| s_seq <| s_region0 fun ops => ?_
    refine o_bslice_k rfl rfl rfl rfl fun b5 => ?_
    refine so_eq (own0 (α := By) (b := b5) (T := tU8)) ?_
    refine oM rfl ?_
    refine o_append_sl (s := mt By b5) (new := s.list) (m := s.list.length) rfl rfl pL rfl (src_sl pL) rfl rfl rfl rfl (by rw [show (mt By b5).list.length = 0 from rfl]; omega) rfl fun s' hs1 hs2 => ?_
    refine oA rfl <| o_nil <| n_K <| s_ret ?_
    exact leaf_r (rets1 Tryz.results63 (rv_tmp rfl)) (by exact ⟨s', rfl, rfl, by rw [hs1]; rfl, hs2⟩) sP
abbrev tRd : TypeId := 159
/-- A reader: where it lies, what is left, whether too much was read. -/
structure Rdr where
  b : Nat
  sl : Sl By
  bad : Bool
@[irreducible] def rdH (r : Rdr) : Hp := (r.b, true, C [r.sl.val, .bool r.bad] tRd) :: (r.sl.hp tU8 ++ [])
theorem rdH_eq (r : Rdr) : rdH r = (r.b, true, C [r.sl.val, .bool r.bad] tRd) :: (r.sl.hp tU8 ++ []) := by unfold rdH; rfl
theorem newReader_fn {s : Sl By} {T : TypeId} (hs : s.list.length ≤ 70000000000000) : Does Tryz.prog 59 [s.val] (s.hp T ++ []) (fun v H => ∃ r : Rdr, v = ptr r.b ∧ H = rdH r ++ (s.hp T ++ []) ∧ r.sl.list = s.list ∧ r.bad = false) := by
  refine fn_enter (n := 7) Tryz.func59 Tryz.ntmps59 rfl (Nat.le_of_ble_eq_true rfl) <| s_seq <| s_region0 fun ops => oA rfl <| o_nil <| n_K <| s_seq <| s_region0 fun ops => oM rfl ?_
  refine c_ex rfl (clone_fn hs) sP rfl fun v4 Y4 h4 => ?_
  obtain ⟨s4, rfl, rfl, hs4, ho4⟩ := h4
  refine so_ap aQ ?_
  refine oR (rd_build_s rfl rfl) ?_
  refine o_box rfl rfl fun b6 => ?_
  refine oA rfl <| o_nil <| n_K <| s_ret ?_
  exact leaf_r (rets1 Tryz.results59 (rv_tmp rfl)) (by exact ⟨⟨b6, s4, false⟩, rfl, rfl, hs4, rfl⟩) (by rw [rdH_eq]; simp only [List.cons_append, List.append_assoc, List.nil_append]; exact sP)
theorem left_fn {r : Rdr} : Does Tryz.prog 122 [ptr r.b] (rdH r) (Is (.int .i64 r.sl.list.length) (rdH r)) := by
  rw [rdH_eq]
  refine fn_enter (n := 8) Tryz.func122 Tryz.ntmps122 rfl (Nat.le_of_ble_eq_true rfl) <| s_seq <| s_region0 fun ops => oA rfl <| o_nil <| n_K <| s_seq <| s_region0 fun ops => oM rfl <| oN rfl <| oF rfl ?_
  refine oR (rd_ld rfl mM rfl) ?_
  refine oR (rd_lenS rfl) <| oA rfl <| o_nil <| n_K <| s_ret ?_
  refine leaf_is (rets1 Tryz.results122 (rv_tmp rfl)) ?_ sP
  rfl
theorem rbad_fn {r : Rdr} : Does Tryz.prog 121 [ptr r.b] (rdH r) (Is (.bool r.bad) (rdH r)) := by
  rw [rdH_eq]
  refine fn_enter (n := 7) Tryz.func121 Tryz.ntmps121 rfl (Nat.le_of_ble_eq_true rfl) <| s_seq <| s_region0 fun ops => oA rfl <| o_nil <| n_K <| s_seq <| s_region0 fun ops => oM rfl <| oN rfl <| oF rfl ?_
  refine oR (rd_ld rfl mM rfl) ?_
  refine oA rfl <| o_nil <| n_K <| s_ret ?_
  refine leaf_is (rets1 Tryz.results121 (rv_tmp rfl)) ?_ sP
  rfl
theorem clone_take {s : Sl By} {k : Nat} {T : TypeId} (hs : s.list.length ≤ 70000000000000) : Does Tryz.prog 63 [(s.take k T).val] (s.hp T ++ []) (fun v H => ∃ s' : Sl By, v = s'.val ∧ H = (s'.hp tU8 ++ (s.hp T ++ [])) ∧ s'.list = s.list.take k ∧ s'.isOwn = true) := by
  have := clone_fn (s := s.take k T) (T := T) (by rw [Sl.take_list, List.length_take]; omega)
  rwa [Sl.take_hp, Sl.take_list] at this
/-- So many bytes are read. -/
theorem rbytes_fn {r : Rdr} {n : Int} (hs : r.sl.list.length ≤ 70000000000000) : Does Tryz.prog 98 [ptr r.b, .int .i64 n] (rdH r) (fun v H => ∃ (s sl : Sl By) (bad : Bool), v = s.val ∧ H = s.hp tU8 ++ (rdH ⟨r.b, sl, bad⟩ ++ []) ∧ s.isOwn = true ∧
      s.list = (rdBytes (max n 0).toNat r.sl.list r.bad).1 ∧ sl.list = (rdBytes (max n 0).toNat r.sl.list r.bad).2.1 ∧ bad = (rdBytes (max n 0).toNat r.sl.list r.bad).2.2) := by
  rw [rdH_eq]
  refine fn_enter (n := 37) Tryz.func98 Tryz.ntmps98 rfl (Nat.le_of_ble_eq_true rfl) <| s_seq <| s_region0 fun ops => oA rfl <| o_nil <| n_K <| s_seq <| s_region0 fun ops => oM rfl <| oR (rd_max rfl rfl) <| oA rfl <| o_nil <| n_K <| s_seq ?_
  refine s_seq <| s_region0 fun ops => oM rfl <| oM rfl <| oN rfl <| oF rfl ?_
  refine oR (rd_ld rfl mM rfl) ?_
  refine oR (rd_lenS rfl) <| oR (rd_bin rfl rfl rfl) <| o_nil <| n_K ?_
  refine s_cond rfl (fun c13 => ?_) (fun c13 => ?_)
  · simp at c13
    refine s_seq <| s_region0 fun ops => oM rfl <| oM rfl <| oN rfl <| oF rfl ?_
    refine o_store rfl rfl uD rfl rfl rfl ?_
    refine oN rfl <| oF rfl ?_
    refine o_store rfl rfl uD rfl rfl rfl ?_
    refine o_nil <| n_K <| s_seq <| s_region0 fun ops => oA rfl <| o_nil <| n_K <| s_ret <| r_K ?_
    exact leaf_r (rets1 Tryz.results98 (rv_tmp rfl)) (by refine ⟨Sl.nil, Sl.nil, true, rfl, rfl, rfl, ?_⟩; unfold rdBytes; rw [if_pos (by omega)]; exact ⟨rfl, rfl, rfl⟩) (by rw [rdH_eq, Sl.hp_nil]; exact sP)
  · simp at c13
    refine s_skip <| n_K <| s_seq ?_
    refine s_draw [] [(15, [(0, false), (1, false), (2, false), (3, false), (4, false), (5, false), (6, false), (8, false), (9, false), (10, false), (11, false), (12, false), (13, false), (7, true), (14, false)]), (17, [(15, false), (16, false)]), (18, [(17, true)])] (by kernel_rfl) rfl fun ops w0 H0 y => ?_
    refine p_all <| xM rfl <| xM rfl <| xN rfl <| xF rfl ?_
    refine xR (rd_ld rfl mM rfl) ?_
    refine xM rfl ?_
    refine xR (rd_takeSl tU8 rfl rfl (by omega)) ?_
    refine xM rfl <| xN rfl <| xF rfl ?_
    refine xR (rd_ld rfl mM rfl) ?_
    refine xM rfl ?_
    refine xR (rd_dropSl tU8 rfl rfl (by omega) rfl) ?_
    refine x_so ?_
    refine c_ex rfl (clone_take hs) sP rfl fun v27 Y27 h27 => ?_
    obtain ⟨s27, rfl, rfl, hs27, ho27⟩ := h27
    refine so_ap aQ ?_
    refine o_nil ⟨rfl, ⟨_, sP⟩, ?_⟩
    refine xA rfl <| x_nil <| p_all <| xN rfl <| xF rfl <| x_nil <| p_none <| x_so ?_
    refine o_store rfl rfl uD rfl rfl rfl ?_
    refine o_nil ⟨rfl, ⟨_, sP⟩, ?_⟩
    refine x_nil <| p_end <| n_K <| s_seq <| s_region0 fun ops => oM rfl <| oA rfl <| o_nil <| n_K <| s_ret ?_
    exact leaf_r (rets1 Tryz.results98 (rv_tmp rfl)) (by refine ⟨s27, r.sl.drop (max n 0).toNat tU8, r.bad, rfl, rfl, ho27, ?_⟩; unfold rdBytes; rw [if_neg (by omega)]; exact ⟨hs27, Sl.drop_list .., rfl⟩) (by rw [rdH_eq]; simp only [Sl.drop_hp]; exact sP)
theorem rnum_fn {r : Rdr} {n : Int} (hs : r.sl.list.length ≤ 70000000000000) : Does Tryz.prog 60 [ptr r.b, .int .i64 n] (rdH r) (fun v H => ∃ (x : Wd) (sl : Sl By) (bad : Bool), v = wv x ∧ H = rdH ⟨r.b, sl, bad⟩ ++ [] ∧
      x = (rdNum (clampN n 8) r.sl.list r.bad).1 ∧ sl.list = (rdNum (clampN n 8) r.sl.list r.bad).2.1 ∧ bad = (rdNum (clampN n 8) r.sl.list r.bad).2.2) := by
  have hk : clampN n 8 ≤ 8 := by unfold clampN; omega
  refine fn_enter (n := 26) Tryz.func60 Tryz.ntmps60 rfl (Nat.le_of_ble_eq_true rfl) <| s_seq <| s_region0 fun ops => oA rfl <| o_nil <| n_K <| s_seq <| s_seq <| s_region0 fun ops => oM rfl <| oM rfl ?_
  refine c_is rfl (width_fn) sP rfl aQ ?_
  refine c_ex rfl (rbytes_fn hs) sP rfl fun v10 Y10 h10 => ?_
  obtain ⟨s10, sl10, bad10, rfl, rfl, ho10, hs10, hl10, hb10⟩ := h10
  refine so_ap aQ ?_
  refine oR (rd_lenS rfl) <| oM rfl <| o_nil <| n_K <| s_block ?_
  have hmx : (max ((clampN n 8 : Nat) : Int) 0).toNat = clampN n 8 := by omega
  rw [hmx] at hs10 hl10 hb10
  have hl8 : s10.list.length ≤ 8 := by (rw [hs10]; unfold rdBytes; split; simp; simp; omega)
  refine s_loop2E [10, 11] kQ (fun (i : Nat) => [(12, .int .i64 i), (4, wv (valUp s10.list i))]) (fun (i : Nat) => i ≤ s10.list.length) (fun (i : Nat) => s10.list.length - i) ((0 : Nat)) (Nat.zero_le _) kP ?_
  rintro i h0
  refine s_seq <| s_region0 fun ops => oR (rd_bin rfl rfl rfl) <| o_nil <| n_K <| s_seq ?_
  refine s_cond rfl (fun c13 => ?_) (fun c13 => ?_)
  · simp at c13
    obtain ⟨y, hg⟩ : ∃ y, s10.list[i]? = some y := ⟨_, List.getElem?_eq_getElem c13⟩
    refine s_skip <| n_K <| s_seq <| s_block <| s_seq <| s_region0 fun ops => oM rfl ?_
    refine oR (rd_ixSl rfl rfl (by omega)) ?_
    refine oR (rd_ldSl (o := 0) (v := bv y) rfl pL hg rfl rfl) ?_
    refine oA rfl <| oA rfl <| o_nil <| n_K <| s_region0 fun ops => oM rfl <| oM rfl <| oR (rd_by64 rfl) <| oM rfl ?_
    refine oR (rd_mul64 rfl rfl (by omega)) ?_
    refine oR (show Rd _ _ _ _ (wv (y.setWidth 64 <<< (8 * i))) from rd_shl64 rfl rfl (by omega) (by omega)) ?_
    refine o_rd (show Rd _ _ _ _ (wv (valUp s10.list (i + 1))) from by (rw [valUp_succ, List.getD_eq_getElem?_getD, hg, Option.getD_some]; unfold wv; rw [show (((valUp s10.list i ||| (y.setWidth 64 <<< (8 * i))).toNat : Nat) : Int) = _ from (bits_u .or .u64 rfl _ _).symm]; exact rd_bin rfl rfl rfl)) rfl ?_
    refine oA rfl <| o_nil <| n_blk <| n_K <| s_region0 fun ops => ?_
    refine oR (rd_add64 rfl rfl (by omega)) ?_
    refine oM rfl <| o_nil <| n_K ?_
    exact ⟨i + 1, (by first | omega | trivial | (refine ⟨?_, ?_⟩ <;> omega)), (by omega), lZ⟩
  · simp at c13
    refine s_exit <| x_K <| x_K <| x_blk <| n_K <| s_seq <| s_region0 fun ops => oM rfl <| oA rfl <| o_nil <| n_K <| s_ret ?_
    exact leaf_r (rets1 Tryz.results60 (rv_tmp rfl)) (by refine ⟨valUp s10.list i, sl10, bad10, rfl, rfl, ?_⟩; rw [hl10, hb10]; unfold rdBytes at hs10 ⊢; unfold rdNum; split at hs10 <;> rename_i hc; (rw [if_pos hc, if_pos hc]; refine ⟨?_, rfl, rfl⟩; rw [show i = 0 by (rw [hs10] at h0; simpa using h0)]; rfl); (rw [if_neg hc, if_neg hc]; refine ⟨?_, rfl, rfl⟩; rw [show i = s10.list.length by omega, hs10]; simp only; rw [List.length_take, Nat.min_eq_left (by omega)])) sP
end Go.Proofs.YtkfcpjohblddmaaGreat
end
section
/- Walks of bytes.Join, of package crc. -/
namespace Go.Proofs.YtkfcpjohblddmaaGreat
open Go.K
set_option linter.unusedVariables false
set_option linter.unusedSimpArgs false
instance und67 : Und Tryz.prog 67 (.slice 30) := ⟨Tryz.underlying67⟩
instance agg67 : Agg Tryz.prog 67 false := ⟨⟨_, Tryz.underlying67, rfl⟩⟩
instance siz67 : Siz Tryz.prog 67 1 := ⟨by kernel_rfl⟩
instance und106 : Und Tryz.prog 106 (.int .u32) := ⟨Tryz.underlying106⟩
instance agg106 : Agg Tryz.prog 106 false := ⟨⟨_, Tryz.underlying106, rfl⟩⟩
instance siz106 : Siz Tryz.prog 106 1 := ⟨by kernel_rfl⟩
instance ent44 : Ent Tryz.prog 44 := ⟨fun _ _ => by kernel_rfl⟩
instance ent46 : Ent Tryz.prog 46 := ⟨fun _ _ => by kernel_rfl⟩
instance ent73 : Ent Tryz.prog 73 := ⟨fun _ _ => by kernel_rfl⟩
instance ent75 : Ent Tryz.prog 75 := ⟨fun _ _ => by kernel_rfl⟩

/-- The pieces of slices of bytes, one behind the other. -/
@[irreducible] def partsH (l : List (Sl By)) : Hp := l.flatMap (·.hp tU8)
theorem partsH_nil : partsH [] = [] := by unfold partsH; rfl
theorem partsH_cons (s : Sl By) (l : List (Sl By)) : partsH (s :: l) = s.hp tU8 ++ partsH l := by unfold partsH; rfl
theorem parts_sub : ∀ {l : List (Sl By)} {i : Nat} {s : Sl By}, l[i]? = some s → Sub (s.hp tU8) (partsH l)
  | [], _, _, h => by simp at h
  | x :: l, 0, s, h => by
    simp at h; subst h
    rw [partsH_cons]; exact fun y hy => List.mem_append_left _ hy
  | x :: l, i + 1, s, h => by
    have := parts_sub (l := l) (i := i) (s := s) (by simpa using h)
    rw [partsH_cons]; exact fun y hy => List.mem_append_right _ (this y hy)
theorem sub_mid {q : Hp} {l : List (Sl By)} {i : Nat} {s : Sl By} {A B : Hp} (h : l[i]? = some s) (hp : PickL (partsH l) A B) : Sub (s.hp tU8) A := (parts_sub h).trans hp.toSub
instance mnz : Mnz Tryz.prog 103 30 := ⟨_, #[3], Tryz.func103, by kernel_rfl, rfl, by kernel_rfl, by kernel_rfl⟩
theorem sliceBuf {P : Program} {E : Env} {H : Hp} {t e : TypeId} {x lo : Operand} {b l i : Nat} [ht : Und P t (.slice e)] [hz : Siz P e 1] (hx : ev E x = some (.slice (some ⟨b, 0, none⟩) l l)) (hlo : ev E lo = some (.int .i64 (i : Int))) (hb : i ≤ l) :
    Rd P E H (.slice t x (some lo) none none) (.slice (some ⟨b, if l = i then 0 else i, none⟩) (l - i) (l - i)) := by
  have := rd_sliceLo (P := P) (H := H) (t := t) (e := e) (sz := 1) hx hlo (by omega)
  by_cases h : l = i
  · simpa [h] using this
  · simpa [h, add_none] using this
theorem rd_addz {P : Program} {E : Env} {H : Hp} {t u : TypeId} {x y : Operand} {i : Int} (hx : ev E x = some (.int .i64 i)) (hy : ev E y = some (.int .i64 ((0 : Nat) : Int))) (hb : -9223372036854775808 ≤ i ∧ i ≤ 9223372036854775807) : Rd P E H (.binOp .add t x y u) (.int .i64 i) := by
  have := rd_add64 (P := P) (H := H) (t := t) (u := u) hx hy (by omega)
  rwa [show i + ((0 : Nat) : Int) = i by omega] at this
theorem join_leaf {b : Nat} {cs : List Value} {xs : List By} {L : Hp} {q : List (Sl By)} (hx : xs = joinB q) (hn : (joinB q).length ≤ cs.length) (hb : (joinB q).length ≤ 70000000000000) :
    ∃ s : Sl By, Value.slice (some ⟨b, 0, none⟩) (joinB q).length (joinB q).length = s.val ∧ ((b, true, C (bufC cs xs) tU8) :: L) = s.hp tU8 ++ L ∧ s.list = joinB q ∧ s.isOwn = true := by
  subst hx
  refine ⟨.own b (joinB q) (joinB q).length (cs.drop (joinB q).length) ⟨by simp, Nat.le_refl _, by omega⟩, rfl, ?_, rfl, rfl⟩
  rw [Sl.hp_own]
  rfl
theorem join_fn {q : Sl (Sl By)} (hl : (joinB q.list).length ≤ 70000000000000) : Does Tryz.prog 73 [q.val, .slice none 0 0] (q.hp tSB ++ (partsH q.list ++ [])) (fun v H => ∃ s : Sl By, v = s.val ∧ H = s.hp tU8 ++ (q.hp tSB ++ (partsH q.list ++ [])) ∧ s.list = joinB q.list ∧ s.isOwn = true) := by
  have hsm := q.small
  refine fn_enter (n := 92) Tryz.func73 Tryz.ntmps73 rfl (Nat.le_of_ble_eq_true rfl) <| s_seq <| s_region0 fun ops => oA rfl <| o_nil <| n_K <| s_seq <| s_seq <| s_region0 fun ops => oM rfl <| oR (rd_lenS rfl) <| oR (rd_bin rfl rfl rfl) <| o_nil <| n_K ?_
  refine s_cond rfl (fun c14 => ?_) (fun c14 => ?_)
  · simp only [decide_eq_true_eq, decide_eq_false_iff_not] at c14
    refine s_seq <| s_region0 fun ops => ?_
    refine o_bslice_k rfl rfl rfl rfl fun b15 => ?_
    refine so_eq (own0 (α := By) (b := b15) (T := tU8)) ?_
    refine oA rfl <| o_nil <| n_K <| s_ret <| r_K ?_
    exact leaf_r (rets1 Tryz.results73 (rv_tmp rfl)) (by refine ⟨mt By b15, rfl, rfl, ?_, rfl⟩; rw [List.length_eq_zero_iff.1 (show q.list.length = 0 by omega)]; rfl) sP
  · simp only [decide_eq_true_eq, decide_eq_false_iff_not] at c14
    refine s_skip <| n_K <| s_seq <| s_seq <| s_region0 fun ops => oM rfl <| oR (rd_lenS rfl) <| oR (rd_bin rfl rfl rfl) <| o_nil <| n_K ?_
    refine s_cond rfl (fun c18 => ?_) (fun c18 => ?_)
    · simp only [decide_eq_true_eq, decide_eq_false_iff_not] at c18
      obtain ⟨s, hs⟩ : ∃ s, q.list = [s] := List.length_eq_one_iff.1 (by omega)
      have hg : q.list[0]? = some s := by (rw [hs]; rfl)
      have hjl : joinB q.list = s.list := by (rw [hs]; simp [joinB])
      refine s_seq <| s_region0 fun ops => oM rfl ?_
      refine oR (rd_ixSl rfl rfl (by omega)) ?_
      refine oR (rd_ldSl (o := 0) (i := 0) (v := s.val) rfl pL hg rfl rfl) ?_
      refine so_eq (nil_hp (α := By) (T := tU8)) ?_
      refine o_append_sl (s := (Sl.nil : Sl By)) (new := s.list) (m := s.list.length) rfl rfl pL rfl (src_sub (sub_mid (q := []) hg pL)) rfl rfl rfl rfl (by rw [show (Sl.nil : Sl By).list.length = 0 from rfl, ← hjl]; omega) rfl fun s' hs1 hs2 => ?_
      refine oA rfl <| o_nil <| n_K <| s_ret <| r_K ?_
      exact leaf_r (rets1 Tryz.results73 (rv_tmp rfl)) (by refine ⟨s', rfl, rfl, ?_, hs2⟩; rw [hs1, hjl]; rfl) sP
    · simp only [decide_eq_true_eq, decide_eq_false_iff_not] at c18
      have hne : 0 < q.list.length := by omega
      refine s_skip <| n_K <| s_seq <| s_region0 fun ops => oA rfl <| o_nil <| n_K <| s_seq <| s_seq <| s_region0 fun ops => oM rfl <| oR (rd_lenS rfl) <| oR (rd_bin rfl rfl rfl) <| o_nil ?_
      refine n_K ?_
      refine s_condF rfl ?_
      refine s_skip <| n_K <| s_seq <| s_seq <| s_region0 fun ops => oM rfl <| oR (rd_lenS rfl) <| oM rfl <| o_nil <| n_K <| s_block ?_
      refine s_loop2E [0, 1, 42, 43] kQ (fun (i : Nat) => [(44, .int .i64 i), (5, .int .i64 (joinB (q.list.take i)).length)]) (fun (i : Nat) => i ≤ q.list.length) (fun (i : Nat) => q.list.length - i) ((0 : Nat)) (Nat.zero_le _) kP ?_
      rintro i h0
      have hle := joinB_le q.list i
      refine s_seq <| s_region0 fun ops => oR (rd_bin rfl rfl rfl) <| o_nil <| n_K <| s_seq ?_
      refine s_cond rfl (fun c45 => ?_) (fun c45 => ?_)
      · simp at c45
        obtain ⟨s, hg⟩ : ∃ s, q.list[i]? = some s := ⟨_, List.getElem?_eq_getElem c45⟩
        have hst := joinB_take hg
        have hle2 := joinB_le q.list (i + 1)
        rw [hst, List.length_append] at hle2
        refine s_skip <| n_K <| s_seq <| s_block <| s_seq <| s_region0 fun ops => ?_
        refine oR (rd_ixSl rfl rfl (by omega)) ?_
        refine oR (rd_ldSl (o := 0) (v := s.val) rfl pL hg rfl rfl) ?_
        refine oA rfl <| o_nil <| n_K <| s_seq <| s_seq <| s_region0 fun ops => oM rfl <| oR (rd_lenS rfl) <| oM rfl ?_
        refine oR (rd_sub64 rfl rfl (by omega)) ?_
        refine oR (rd_bin rfl rfl rfl) <| o_nil <| n_K ?_
        refine s_cond rfl (fun c52 => ?_) (fun c52 => ?_)
        · simp at c52
          omega
        · simp at c52
          refine s_skip <| n_K <| s_region0 fun ops => oM rfl <| oM rfl <| oR (rd_lenS rfl) ?_
          refine oR (show Rd _ _ _ _ (.int .i64 (joinB (q.list.take (i + 1))).length) from by (rw [hst, List.length_append]; push_cast; exact rd_add64 rfl rfl (by omega))) ?_
          refine oA rfl <| o_nil <| n_blk <| n_K <| s_region0 fun ops => ?_
          refine oR (rd_add64 rfl rfl (by omega)) ?_
          refine oM rfl <| o_nil <| n_K ?_
          exact ⟨i + 1, (by first | omega | trivial | (refine ⟨?_, ?_⟩ <;> omega)), (by omega), lZ⟩
      · simp at c45
        have hall : joinB (q.list.take i) = joinB q.list := by rw [List.take_of_length_le (by omega)]
        rw [hall]
        refine s_exit <| x_K <| x_K <| x_blk <| n_K <| s_seq <| s_region0 fun ops => oM rfl ?_
        refine o_mnz (m := (joinB q.list).length) rfl (by omega) rfl fun b60 cs hcs => ?_
        refine oM rfl <| oM rfl ?_
        refine oR (rd_slice3 rfl rfl rfl (by omega)) ?_
        refine oA rfl <| o_nil <| n_K <| s_seq <| s_region0 fun ops => oM rfl <| oM rfl ?_
        refine oR (rd_ixSl rfl rfl (by omega)) ?_
        refine o_rd (rd_ldSl (o := 0) (i := 0) (v := (q.list[0]'hne).val) rfl pL (List.getElem?_eq_getElem hne) rfl rfl) rfl ?_
        have hb0 : bufC cs [] = cs := (by simp [bufC, cells])
        have hg0 : q.list[0]? = some (q.list[0]'hne) := List.getElem?_eq_getElem hne
        have hst0 := joinB_take hg0
        rw [show joinB (q.list.take 0) = [] from rfl, List.nil_append] at hst0
        have hle0 := joinB_le q.list (0 + 1)
        rw [hst0] at hle0
        have hsp0 := buf_step (cs := cs) (xs := []) (ys := (q.list[0]'hne).list) (o := 0) (by rw [List.length_nil, Nat.zero_add]; omega) (.inr rfl)
        rw [hb0, List.nil_append] at hsp0
        refine o_copySrc rfl rfl (src_sub (sub_mid (q := []) hg0 pL)) (by omega) uD hsp0 (cells_one _) rfl ?_
        refine oA rfl <| o_nil <| n_K <| s_seq <| s_seq <| s_region0 fun ops => oM rfl ?_
        refine oR (show Rd _ _ _ _ (q.drop 1 tSB).val from rd_dropSl (i := 1) tSB rfl rfl (by omega) rfl) ?_
        refine oR (rd_lenS rfl) <| oM rfl <| o_nil <| n_K <| s_block ?_
        have hdl : (q.drop 1 tSB).list.length = q.list.length - 1 := by rw [Sl.drop_list, List.length_drop]
        rw [← hst0]
        refine s_loop2 [1, 8, 70, 71] kQ (fun (j : Nat) => [(72, .int .i64 j), (9, .int .i64 (joinB (q.list.take (j + 1))).length)]) (fun (j : Nat) => (b60, true, C (bufC cs (joinB (q.list.take (j + 1)))) tU8) :: (q.hp tSB ++ (partsH q.list ++ []))) (fun (j : Nat) => j + 1 ≤ q.list.length) (fun (j : Nat) => q.list.length - j) ((0 : Nat)) (by omega) kP sP ?_
        rintro j h1
        refine s_seq <| s_region0 fun ops => oR (rd_bin rfl rfl rfl) <| o_nil <| n_K <| s_seq ?_
        refine s_cond rfl (fun c73 => ?_) (fun c73 => ?_)
        · simp only [decide_eq_true_eq, decide_eq_false_iff_not] at c73
          have hj : j + 1 < q.list.length := by omega
          obtain ⟨s, hg⟩ : ∃ s, q.list[j + 1]? = some s := ⟨_, List.getElem?_eq_getElem hj⟩
          have hg' : (q.drop 1 tSB).list[j]? = some s := (by rw [Sl.drop_list, List.getElem?_drop, Nat.add_comm 1 j]; exact hg)
          have hst := joinB_take hg
          have hle1 := joinB_le q.list (j + 1 + 1)
          rw [hst, List.length_append] at hle1
          have hb1 := buf_step (cs := cs) (xs := joinB (q.list.take (j + 1))) (ys := s.list) (o := if (joinB q.list).length = (joinB (q.list.take (j + 1))).length then 0 else (joinB (q.list.take (j + 1))).length) (by omega) (by split; (left; exact ⟨List.length_eq_zero_iff.1 (by omega), rfl⟩); (right; rfl))
          rw [← hst] at hb1
          refine s_skip <| n_K <| s_seq <| s_block <| s_seq <| s_region0 fun ops => ?_
          refine oR (rd_ixSl rfl rfl (by omega)) ?_
          refine oR (rd_ldSub (o := 0) (v := s.val) rfl (by rw [Sl.drop_hp]; exact PickL.toSub pL) hg' rfl rfl) ?_
          refine oA rfl <| o_nil <| n_K <| s_seq <| s_region0 fun ops => oM rfl <| oM rfl <| oM rfl ?_
          refine oR (rd_sliceLo rfl rfl (by omega)) ?_
          refine oM rfl ?_
          refine o_copy_nil rfl rfl rfl ?_
          refine oR (show Rd _ _ _ _ (.int .i64 (joinB (q.list.take (j + 1))).length) from rd_addz rfl rfl (by omega)) ?_
          refine oA rfl <| o_nil <| n_K <| s_region0 fun ops => oM rfl <| oM rfl <| oM rfl ?_
          refine oR (show Rd _ _ _ _ (.slice (some ⟨b60, if (joinB q.list).length = (joinB (q.list.take (j + 1))).length then 0 else (joinB (q.list.take (j + 1))).length, none⟩) ((joinB q.list).length - (joinB (q.list.take (j + 1))).length) ((joinB q.list).length - (joinB (q.list.take (j + 1))).length)) from sliceBuf rfl rfl (by omega)) ?_
          refine oM rfl ?_
          refine o_copySrc rfl rfl (src_sub (sub_mid (q := []) hg pL)) (by omega) uD hb1 (cells_one _) rfl ?_
          refine oR (show Rd _ _ _ _ (.int .i64 (joinB (q.list.take (j + 1 + 1))).length) from by (rw [hst, List.length_append]; push_cast; exact rd_add64 rfl rfl (by omega))) ?_
          refine oA rfl <| o_nil <| n_blk <| n_K <| s_region0 fun ops => ?_
          refine oR (rd_add64 rfl rfl (by omega)) ?_
          refine oM rfl <| o_nil <| n_K ?_
          exact ⟨j + 1, (by first | omega | trivial | (refine ⟨?_, ?_⟩ <;> omega)), (by omega), lZ⟩
        · simp only [decide_eq_true_eq, decide_eq_false_iff_not] at c73
          refine s_exit <| x_K <| x_K <| x_blk <| n_K <| s_seq <| s_region0 fun ops => oM rfl <| oA rfl <| o_nil <| n_K <| s_ret ?_
          exact leaf_r (rets1 Tryz.results73 (rv_tmp rfl)) (by exact join_leaf (q := q.list) (cs := cs) (b := b60) (show joinB (q.list.take (j + 1)) = _ from by rw [List.take_of_length_le (by omega)]) hcs hl) sP
theorem pjoin_fn {q : Sl (Sl By)} (hl : (joinB q.list).length ≤ 70000000000000) : Does Tryz.prog 44 [q.val] (q.hp tSB ++ (partsH q.list ++ [])) (fun v H => ∃ s : Sl By, v = s.val ∧ H = s.hp tU8 ++ (q.hp tSB ++ (partsH q.list ++ [])) ∧ s.list = joinB q.list ∧ s.isOwn = true) := by
  refine fn_enter (n := 5) Tryz.func44 Tryz.ntmps44 rfl (Nat.le_of_ble_eq_true rfl) <| s_seq <| s_region0 fun ops => oA rfl <| o_nil <| n_K <| s_seq <| s_region0 fun ops => oM rfl ?_
  refine c_ex rfl (join_fn hl) sP rfl fun v4 Y4 h4 => ?_
  obtain ⟨s4, rfl, rfl, hs4, ho4⟩ := h4
  refine so_ap aQ ?_
  refine oA rfl <| o_nil <| n_K <| s_ret ?_
  exact leaf_r (rets1 Tryz.results44 (rv_tmp rfl)) (by exact ⟨s4, rfl, rfl, hs4, ho4⟩) sP
theorem on_fn {c : BitVec 32} {q : Sl (Sl By)} : Does Tryz.prog 75 [uv c, q.val] (q.hp tSB ++ (partsH q.list ++ [])) (Is (uv (crcOn c (q.list.map (·.list)))) (q.hp tSB ++ (partsH q.list ++ []))) := by
  have hsm := q.small
  refine fn_enter (n := 42) Tryz.func75 Tryz.ntmps75 rfl (Nat.le_of_ble_eq_true rfl) <| s_seq <| s_region0 fun ops => oA rfl <| o_nil <| n_K <| s_seq <| s_region0 fun ops => oM rfl <| oR (rd_compl32 rfl) <| oA rfl <| o_nil <| n_K <| s_seq ?_
  refine s_seq <| s_region0 fun ops => oM rfl <| oR (rd_lenS rfl) <| oM rfl <| o_nil <| n_K <| s_block ?_
  refine s_loop2E [12, 13] kQ (fun (i : Nat) => [(14, .int .i64 i), (5, uv (((q.list.take i).map (·.list)).foldl crcL (~~~c)))]) (fun (i : Nat) => i ≤ q.list.length) (fun (i : Nat) => q.list.length - i) ((0 : Nat)) (Nat.zero_le _) kP ?_
  rintro i h0
  refine s_seq <| s_region0 fun ops => oR (rd_bin rfl rfl rfl) <| o_nil <| n_K <| s_seq ?_
  refine s_cond rfl (fun c15 => ?_) (fun c15 => ?_)
  · simp only [decide_eq_true_eq, decide_eq_false_iff_not] at c15
    obtain ⟨s, hg⟩ : ∃ s, q.list[i]? = some s := ⟨_, List.getElem?_eq_getElem (by omega)⟩
    have hst : ((q.list.take (i + 1)).map (·.list)).foldl crcL (~~~c) = crcL (((q.list.take i).map (·.list)).foldl crcL (~~~c)) s.list := (by rw [List.map_take, List.map_take]; exact foldl_take (by rw [List.getElem?_map, hg]; rfl))
    have hss := s.small
    generalize ha : ((q.list.take i).map (·.list)).foldl crcL (~~~c) = a at hst ⊢
    refine s_skip <| n_K <| s_seq <| s_block <| s_seq <| s_region0 fun ops => ?_
    refine oR (rd_ixSl rfl rfl (by omega)) ?_
    refine oR (rd_ldSl (o := 0) (v := s.val) rfl pL hg rfl rfl) ?_
    refine oA rfl <| o_nil <| n_K <| s_seq <| s_region0 fun ops => oM rfl <| oR (rd_lenS rfl) <| oM rfl <| o_nil <| n_K <| s_block ?_
    refine s_loop2E [12, 13, 14, 18, 19] kQ (fun (j : Nat) => [(20, .int .i64 j), (5, uv (crcL a (s.list.take j)))]) (fun (j : Nat) => j ≤ s.list.length) (fun (j : Nat) => s.list.length - j) ((0 : Nat)) (Nat.zero_le _) kP ?_
    rintro j h1
    refine s_seq <| s_region0 fun ops => oR (rd_bin rfl rfl rfl) <| o_nil <| n_K <| s_seq ?_
    refine s_cond rfl (fun c21 => ?_) (fun c21 => ?_)
    · simp only [decide_eq_true_eq, decide_eq_false_iff_not] at c21
      obtain ⟨y, hy⟩ : ∃ y, s.list[j]? = some y := ⟨_, List.getElem?_eq_getElem (by omega)⟩
      have hst2 := crcL_take (c := a) hy
      generalize he : crcL a (s.list.take j) = e at hst2 ⊢
      refine s_skip <| n_K <| s_seq <| s_block <| s_seq <| s_region0 fun ops => ?_
      refine oR (rd_ixSl rfl rfl (by omega)) ?_
      refine oR (rd_ldSub (o := 0) (v := bv y) rfl (sub_mid (q := []) hg pL) hy rfl rfl) ?_
      refine oA rfl <| o_nil <| n_K <| s_seq <| s_region0 fun ops => oM rfl <| oM rfl <| oR (rd_by32 rfl) <| oR (rd_xor32 rfl rfl) <| oA rfl <| o_nil <| n_K <| s_seq <| s_region0 fun ops => ?_
      refine oM rfl <| o_nil <| n_K <| s_block ?_
      refine s_loop2E [12, 13, 14, 18, 19, 20] kQ (fun (k : Nat) => [(28, .int .i64 k), (5, uv (crcK (e ^^^ y.setWidth 32) k))]) (fun (k : Nat) => k ≤ 8) (fun (k : Nat) => 8 - k) ((0 : Nat)) (Nat.zero_le _) kP ?_
      rintro k h2
      have hck : crcK (e ^^^ y.setWidth 32) (k + 1) = crc1 (crcK (e ^^^ y.setWidth 32) k) := rfl
      have hk8 : crcB e y = crcK (e ^^^ y.setWidth 32) 8 := rfl
      generalize hz : crcK (e ^^^ y.setWidth 32) k = z at hck ⊢
      refine s_seq <| s_region0 fun ops => oR (rd_bin rfl rfl rfl) <| o_nil <| n_K <| s_seq ?_
      refine s_cond rfl (fun c29 => ?_) (fun c29 => ?_)
      · simp only [decide_eq_true_eq, decide_eq_false_iff_not] at c29
        refine s_skip <| n_K <| s_seq <| s_block <| s_region0 fun ops => oM rfl <| oR (rd_shr32u rfl rfl) <| oM rfl ?_
        refine oR (rd_and32 (b := 1) rfl rfl) ?_
        refine oR (rd_neg32 rfl) ?_
        refine oR (rd_and32 (a := polyV) rfl rfl) ?_
        refine oR (show Rd _ _ _ _ (uv (crcK (e ^^^ y.setWidth 32) (k + 1))) from by (rw [hck]; exact rd_xor32 rfl rfl)) ?_
        refine oA rfl <| o_nil <| n_blk <| n_K <| s_region0 fun ops => ?_
        refine oR (rd_add64 rfl rfl (by omega)) ?_
        refine oM rfl <| o_nil <| n_K ?_
        exact ⟨k + 1, (by first | omega | trivial | (refine ⟨?_, ?_⟩ <;> omega)), (by omega), lZ⟩
      · simp only [decide_eq_true_eq, decide_eq_false_iff_not] at c29
        refine s_exit <| x_K <| x_K <| x_blk <| n_blk <| n_K <| s_region0 fun ops => ?_
        refine oR (rd_add64 rfl rfl (by omega)) ?_
        refine oM rfl <| o_nil <| n_K ?_
        have hk : k = 8 := by omega
        subst hk
        rw [← hz, ← hk8, ← hst2]
        exact ⟨j + 1, (by first | omega | trivial | (refine ⟨?_, ?_⟩ <;> omega)), (by omega), lZ⟩
    · simp only [decide_eq_true_eq, decide_eq_false_iff_not] at c21
      refine s_exit <| x_K <| x_K <| x_blk <| n_blk <| n_K <| s_region0 fun ops => ?_
      refine oR (rd_add64 rfl rfl (by omega)) ?_
      refine oM rfl <| o_nil <| n_K ?_
      have hj : j = s.list.length := by omega
      rw [hj, List.take_length, ← hst]
      exact ⟨i + 1, (by first | omega | trivial | (refine ⟨?_, ?_⟩ <;> omega)), (by omega), lZ⟩
  · simp only [decide_eq_true_eq, decide_eq_false_iff_not] at c15
    refine s_exit <| x_K <| x_K <| x_blk <| n_K <| s_seq <| s_region0 fun ops => oM rfl ?_
    refine oR (show Rd _ _ _ _ (uv (crcOn c (q.list.map (·.list)))) from by (rw [crcOn, show q.list.map (·.list) = (q.list.take i).map (·.list) by rw [List.take_of_length_le (by omega)]]; exact rd_compl32 rfl)) ?_
    refine oA rfl <| o_nil <| n_K <| s_ret ?_
    refine leaf_is (rets1 Tryz.results75 (rv_tmp rfl)) ?_ sP
    rfl
theorem sum_fn {q : Sl (Sl By)} : Does Tryz.prog 46 [q.val] (q.hp tSB ++ (partsH q.list ++ [])) (Is (uv (crcOn 0 (q.list.map (·.list)))) (q.hp tSB ++ (partsH q.list ++ []))) := by
  refine fn_enter (n := 5) Tryz.func46 Tryz.ntmps46 rfl (Nat.le_of_ble_eq_true rfl) <| s_seq <| s_region0 fun ops => oA rfl <| o_nil <| n_K <| s_seq <| s_region0 fun ops => oM rfl ?_
  refine c_is rfl (on_fn (c := 0)) sP rfl aQ ?_
  refine oA rfl <| o_nil <| n_K <| s_ret ?_
  refine leaf_is (rets1 Tryz.results46 (rv_tmp rfl)) ?_ sP
  rfl
end Go.Proofs.YtkfcpjohblddmaaGreat
end
section
/- Walks of math/bits, of package ham. -/
namespace Go.Proofs.YtkfcpjohblddmaaGreat
open Go.K
set_option linter.unusedVariables false
set_option linter.unusedSimpArgs false
instance und59 : Und Tryz.prog 59 (.int .u64) := ⟨Tryz.underlying59⟩
instance agg59 : Agg Tryz.prog 59 false := ⟨⟨_, Tryz.underlying59, rfl⟩⟩
instance siz59 : Siz Tryz.prog 59 1 := ⟨by kernel_rfl⟩
instance und104 : Und Tryz.prog 104 (.array 256 5) := ⟨Tryz.underlying104⟩
instance agg104 : Agg Tryz.prog 104 true := ⟨⟨_, Tryz.underlying104, rfl⟩⟩
instance siz104 : Siz Tryz.prog 104 256 := ⟨by kernel_rfl⟩
instance und108 : Und Tryz.prog 108 (.int .u16) := ⟨Tryz.underlying108⟩
instance agg108 : Agg Tryz.prog 108 false := ⟨⟨_, Tryz.underlying108, rfl⟩⟩
instance siz108 : Siz Tryz.prog 108 1 := ⟨by kernel_rfl⟩
instance zer104 : Zer Tryz.prog 104 (List.replicate 256 (.int .u8 0)) := ⟨by kernel_rfl⟩
instance ent47 : Ent Tryz.prog 47 := ⟨fun _ _ => by kernel_rfl⟩
instance ent53 : Ent Tryz.prog 53 := ⟨fun _ _ => by kernel_rfl⟩
instance ent61 : Ent Tryz.prog 61 := ⟨fun _ _ => by kernel_rfl⟩
instance ent62 : Ent Tryz.prog 62 := ⟨fun _ _ => by kernel_rfl⟩
instance ent76 : Ent Tryz.prog 76 := ⟨fun _ _ => by kernel_rfl⟩
instance ent77 : Ent Tryz.prog 77 := ⟨fun _ _ => by kernel_rfl⟩
instance ent93 : Ent Tryz.prog 93 := ⟨fun _ _ => by kernel_rfl⟩
instance ent99 : Ent Tryz.prog 99 := ⟨fun _ _ => by kernel_rfl⟩
instance ent105 : Ent Tryz.prog 105 := ⟨fun _ _ => by kernel_rfl⟩
instance ent107 : Ent Tryz.prog 107 := ⟨fun _ _ => by kernel_rfl⟩

abbrev tDa : TypeId := 104
abbrev tPg : TypeId := 69
theorem ones16_fn {n : Nat} (hn : n < 65536) : Does Tryz.prog 61 [.int .u16 (n : Nat)] [] (Is (.int .i64 (popN n : Nat)) []) := by
  have h1 : n / 256 < 256 := by omega
  have h2 : (BitVec.ofNat 8 (n / 256)).toNat = n / 256 := by simp; omega
  have h3 : (BitVec.ofNat 8 (n % 256)).toNat = n % 256 := by simp
  have t1 := pop_tab (BitVec.ofNat 8 (n / 256))
  have t2 := pop_tab (BitVec.ofNat 8 (n % 256))
  rw [h2] at t1
  rw [h3] at t2
  refine fn_enter (n := 11) Tryz.func61 Tryz.ntmps61 rfl (Nat.le_of_ble_eq_true rfl) <| s_seq <| s_region0 fun ops => oA rfl <| o_nil <| n_K <| s_seq ?_
  refine s_draw [] [(9, [(0, false), (1, false), (2, false), (3, false), (4, false), (5, false), (6, false), (7, false), (8, false)])] (by kernel_rfl) rfl fun ops w0 H0 y => ?_
  refine p_all <| xM rfl ?_
  refine xR (show Rd _ _ _ _ (.int .u16 ((n / 256 : Nat) : Int)) from rd_shrN (m := 8) rfl rfl rfl (by decide)) ?_
  refine xR (rd_ixStr rfl rfl (by omega) t1) ?_
  refine xM rfl ?_
  refine xR (show Rd _ _ _ _ (.int .u16 ((n % 256 : Nat) : Int)) from by (rw [← Nat.and_two_pow_sub_one_eq_mod n 8]; exact rd_and16 (b := 255) rfl rfl hn (by omega))) ?_
  refine xR (rd_ixStr rfl rfl (by omega) t2) ?_
  refine xR (rd_bin rfl rfl rfl) <| xR (rd_convI rfl) <| xA rfl <| x_nil <| p_end <| n_K <| s_ret ?_
  refine leaf_is (rets1 Tryz.results61 (rv_tmp rfl)) ?_ sP
  have p1 := pop8_le (BitVec.ofNat 8 (n / 256)); have p2 := pop8_le (BitVec.ofNat 8 (n % 256)); exact congrArg (Value.int .i64) (by rw [pop8_u8, pop8_u8, popN, ← Int.natCast_add, wrapN_u .u8 rfl (by show _ < 256; omega), wrapN_i (by omega)])
theorem ones64_fn {n : Nat} (hn : n < 4096) : Does Tryz.prog 107 [.int .u64 (n : Nat)] [] (Is (.int .i64 (popN n : Nat)) []) := by
  refine fn_enter (n := 35) Tryz.func107 Tryz.ntmps107 rfl (Nat.le_of_ble_eq_true rfl) <| s_seq <| s_region0 fun ops => oA rfl <| o_nil <| n_K <| s_seq <| s_region0 fun ops => oM rfl ?_
  refine oR (rd_shr rfl rfl (by omega)) ?_
  refine oR (rd_bin rfl rfl rfl) <| oM rfl <| oR (rd_bin rfl rfl rfl) <| oR (rd_bin rfl rfl rfl) <| oA rfl <| o_nil <| n_K <| s_seq <| s_region0 fun ops => oM rfl ?_
  refine oR (rd_shr rfl rfl (by omega)) ?_
  refine oR (rd_bin rfl rfl rfl) <| oM rfl <| oR (rd_bin rfl rfl rfl) <| oR (rd_bin rfl rfl rfl) <| oA rfl <| o_nil <| n_K <| s_seq <| s_region0 fun ops => oM rfl ?_
  refine oR (rd_shr rfl rfl (by omega)) ?_
  refine oM rfl <| oR (rd_bin rfl rfl rfl) <| oR (rd_bin rfl rfl rfl) <| oA rfl <| o_nil <| n_K <| s_seq <| s_region0 fun ops => oM rfl <| oM rfl ?_
  refine oR (rd_shr rfl rfl (by omega)) ?_
  refine oR (rd_bin rfl rfl rfl) <| oA rfl <| o_nil <| n_K <| s_seq <| s_region0 fun ops => oM rfl <| oM rfl ?_
  refine oR (rd_shr rfl rfl (by omega)) ?_
  refine oR (rd_bin rfl rfl rfl) <| oA rfl <| o_nil <| n_K <| s_seq <| s_region0 fun ops => oM rfl <| oM rfl ?_
  refine oR (rd_shr rfl rfl (by omega)) ?_
  refine oR (rd_bin rfl rfl rfl) <| oA rfl <| o_nil <| n_K <| s_seq <| s_region0 fun ops => oM rfl <| oR (rd_convI rfl) <| oR (rd_bin rfl rfl rfl) <| oA rfl <| o_nil <| n_K <| s_ret ?_
  refine leaf_is (rets1 Tryz.results107 (rv_tmp rfl)) ?_ sP
  exact congrArg (Value.int .i64) (swar_ok n hn)
theorem ones_fn {n : Nat} (hn : n < 4096) : Does Tryz.prog 77 [.int .u64 (n : Nat)] [] (Is (.int .i64 (popN n : Nat)) []) := by
  refine fn_enter (n := 8) Tryz.func77 Tryz.ntmps77 rfl (Nat.le_of_ble_eq_true rfl) <| s_seq <| s_region0 fun ops => oA rfl <| o_nil <| n_K <| s_seq ?_
  refine s_condF rfl ?_
  refine s_skip <| n_K <| s_seq <| s_region0 fun ops => oM rfl ?_
  refine c_is rfl (ones64_fn hn) sP rfl aQ ?_
  refine oA rfl <| o_nil <| n_K <| s_ret ?_
  refine leaf_is (rets1 Tryz.results77 (rv_tmp rfl)) ?_ sP
  rfl
theorem len64_fn {n : Nat} (hn : n < 4096) : Does Tryz.prog 93 [.int .u64 (n : Nat)] [] (Is (.int .i64 (lenN n : Nat)) []) := by
  refine fn_enter (n := 25) Tryz.func93 Tryz.ntmps93 rfl (Nat.le_of_ble_eq_true rfl) <| s_seq <| s_region0 fun ops => oA rfl <| o_nil <| n_K <| s_seq <| s_seq <| s_region0 fun ops => oM rfl <| oR (rd_bin rfl rfl rfl) <| o_nil <| n_K ?_
  refine s_cond rfl (fun c4 => ?_) (fun c4 => ?_)
  · simp only [decide_eq_true_eq, decide_eq_false_iff_not] at c4
    omega
  · simp only [decide_eq_true_eq, decide_eq_false_iff_not] at c4
    refine s_skip <| n_K <| s_seq <| s_seq <| s_region0 fun ops => oM rfl <| oR (rd_bin rfl rfl rfl) <| o_nil <| n_K ?_
    refine s_cond rfl (fun c8 => ?_) (fun c8 => ?_)
    · simp only [decide_eq_true_eq, decide_eq_false_iff_not] at c8
      omega
    · simp only [decide_eq_true_eq, decide_eq_false_iff_not] at c8
      refine s_skip <| n_K <| s_seq <| s_seq <| s_region0 fun ops => oM rfl <| oR (rd_bin rfl rfl rfl) <| o_nil <| n_K ?_
      refine s_cond rfl (fun c14 => ?_) (fun c14 => ?_)
      · simp only [decide_eq_true_eq, decide_eq_false_iff_not] at c14
        have h8 : (BitVec.ofNat 8 (n / 256)).toNat = n / 256 := (by simp; omega)
        have t1 := len_tab (BitVec.ofNat 8 (n / 256))
        have t2 := len_i64 (BitVec.ofNat 8 (n / 256))
        rw [h8] at t1
        have t3 := len_hi n hn (by omega)
        have t4 := len8_le (BitVec.ofNat 8 (n / 256))
        refine s_seq <| s_region0 fun ops => oM rfl ?_
        refine oR (show Rd _ _ _ _ (.int .u64 ((n / 256 : Nat) : Int)) from rd_shrN (m := 8) rfl rfl rfl (by decide)) ?_
        refine oA rfl <| o_nil <| n_K <| s_region0 fun ops => oM rfl ?_
        refine oR (rd_add64 rfl rfl (by omega)) ?_
        refine oA rfl <| o_nil <| n_K <| s_seq <| s_region0 fun ops => oM rfl <| oM rfl ?_
        refine oR (rd_convN rfl (wrapN_u .u8 rfl (by show _ < 256; omega))) ?_
        refine oR (rd_ixStr rfl rfl (by omega) t1) ?_
        refine oR (rd_via t2 rfl) ?_
        refine oR (rd_add64 rfl rfl (by omega)) ?_
        refine oA rfl <| o_nil <| n_K <| s_ret ?_
        refine leaf_is (rets1 Tryz.results93 (rv_tmp rfl)) ?_ sP
        exact congrArg (Value.int .i64) (by omega)
      · simp only [decide_eq_true_eq, decide_eq_false_iff_not] at c14
        have h8 : (BitVec.ofNat 8 n).toNat = n := (by simp; omega)
        have t1 := len_tab (BitVec.ofNat 8 n)
        have t2 := len_i64 (BitVec.ofNat 8 n)
        rw [h8] at t1
        have t3 := len_lo n (by omega)
        have t4 := len8_le (BitVec.ofNat 8 n)
        refine s_skip <| n_K <| s_seq <| s_region0 fun ops => oM rfl <| oM rfl ?_
        refine oR (rd_convN rfl (wrapN_u .u8 rfl (by show _ < 256; omega))) ?_
        refine oR (rd_ixStr rfl rfl (by omega) t1) ?_
        refine oR (rd_via t2 rfl) ?_
        refine oR (rd_add64 rfl rfl (by omega)) ?_
        refine oA rfl <| o_nil <| n_K <| s_ret ?_
        refine leaf_is (rets1 Tryz.results93 (rv_tmp rfl)) ?_ sP
        exact congrArg (Value.int .i64) (by omega)
theorem len_fn {n : Nat} (hn : n < 4096) : Does Tryz.prog 53 [.int .u64 (n : Nat)] [] (Is (.int .i64 (lenN n : Nat)) []) := by
  refine fn_enter (n := 8) Tryz.func53 Tryz.ntmps53 rfl (Nat.le_of_ble_eq_true rfl) <| s_seq <| s_region0 fun ops => oA rfl <| o_nil <| n_K <| s_seq ?_
  refine s_condF rfl ?_
  refine s_skip <| n_K <| s_seq <| s_region0 fun ops => oM rfl ?_
  refine c_is rfl (len64_fn hn) sP rfl aQ ?_
  refine oA rfl <| o_nil <| n_K <| s_ret ?_
  refine leaf_is (rets1 Tryz.results53 (rv_tmp rfl)) ?_ sP
  rfl
theorem place_fn {i : Nat} (hi : i < 2048) : Does Tryz.prog 105 [.int .i64 (i : Nat)] [] (Is (.int .i64 (placeN i : Nat)) []) := by
  refine fn_enter (n := 15) Tryz.func105 Tryz.ntmps105 rfl (Nat.le_of_ble_eq_true rfl) <| s_seq <| s_region0 fun ops => oA rfl <| o_nil <| n_K <| s_seq <| s_region0 fun ops => oM rfl ?_
  refine oR (rd_add64 rfl rfl (by omega)) ?_
  refine oA rfl <| o_nil <| n_K <| s_seq <| s_seq <| s_region0 fun ops => oA rfl <| o_nil <| n_K <| s_block ?_
  refine s_loop2E [] kQ (fun (k : Nat) => [(3, .int .i64 ((i + 1 + k : Nat) : Int)), (4, .int .i64 ((2 ^ k : Nat) : Int))]) (fun (k : Nat) => k ≤ 13 ∧ placeGo (13 - k) (i + 1 + k) (2 ^ k) = placeN i) (fun (k : Nat) => 14 - k) ((0 : Nat)) ⟨Nat.zero_le _, rfl⟩ kP ?_
  rintro k ⟨h0, h1⟩
  refine s_seq <| s_seq <| s_region0 fun ops => oM rfl <| oM rfl <| oR (rd_bin rfl rfl rfl) <| o_nil <| n_K ?_
  refine s_cond rfl (fun c9 => ?_) (fun c9 => ?_)
  · simp only [decide_eq_true_eq, decide_eq_false_iff_not] at c9
    have hk : k < 13 := (by rcases Nat.lt_or_ge k 13 with h | h; exact h; exfalso; have : k = 13 := (by omega); subst this; simp at c9; omega)
    have h2 : 13 - k = (12 - k) + 1 := (by omega)
    rw [h2, placeGo, if_pos (by exact_mod_cast c9)] at h1
    have hp : 2 ^ k ≤ 2 ^ 12 := Nat.pow_le_pow_right (by omega) (by omega)
    refine s_skip <| n_K <| s_seq <| s_block <| s_region0 fun ops => oM rfl ?_
    refine oR (show Rd _ _ _ _ (.int .i64 ((i + 1 + (k + 1) : Nat) : Int)) from by (rw [show ((i + 1 + (k + 1) : Nat) : Int) = ((i + 1 + k : Nat) : Int) + 1 by push_cast; omega]; exact rd_add64 rfl rfl (by omega))) ?_
    refine oA rfl <| o_nil <| n_blk <| n_K <| s_region0 fun ops => oM rfl ?_
    refine oR (show Rd _ _ _ _ (.int .i64 ((2 ^ (k + 1) : Nat) : Int)) from rd_shlN (a := 2 ^ k) (m := 1) rfl rfl rfl (by omega) (by omega)) ?_
    refine oA rfl <| o_nil <| n_K ?_
    exact ⟨k + 1, ⟨by omega, by rw [Nat.pow_succ, show 13 - (k + 1) = 12 - k by omega]; exact h1⟩, (by omega), lZ⟩
  · simp only [decide_eq_true_eq, decide_eq_false_iff_not] at c9
    have hr : placeN i = i + 1 + k := (by have h3 : ¬ 2 ^ k ≤ i + 1 + k := (fun h => c9 (by exact_mod_cast h)); rcases Nat.eq_zero_or_pos (13 - k) with h | h; (rw [h, placeGo] at h1; exact h1.symm); (rw [show 13 - k = (12 - k) + 1 by omega, placeGo, if_neg h3] at h1; exact h1.symm))
    refine s_exit <| x_K <| x_K <| x_blk <| n_K <| s_seq <| s_region0 fun ops => oM rfl <| oA rfl <| o_nil <| n_K <| s_ret ?_
    refine leaf_is (rets1 Tryz.results105 (rv_tmp rfl)) ?_ sP
    rw [hr]
theorem fold_fn {b : Nat} {d : Dat} {T : TypeId} : Does Tryz.prog 76 [ptr b] [(b, true, C (vbc d) T)] (Is (.tuple #[.int .i64 (lineN d : Nat), .int .i64 (oddN d : Nat)]) [(b, true, C (vbc d) T)]) := by
  refine fn_enter (n := 37) Tryz.func76 Tryz.ntmps76 rfl (Nat.le_of_ble_eq_true rfl) <| s_seq <| s_region0 fun ops => oA rfl <| oA rfl <| o_nil <| n_K <| s_seq <| s_seq <| s_region0 fun ops => oM rfl <| oM rfl <| o_nil <| n_K ?_
  refine s_block ?_
  refine s_loop2E [7] kQ (fun (i : Nat) => [(8, .int .i64 i), (2, .int .i64 (lineU d i : Nat)), (3, .int .i64 (oddU d i : Nat))]) (fun (i : Nat) => i ≤ 256) (fun (i : Nat) => 256 - i) ((0 : Nat)) (Nat.zero_le _) kP ?_
  rintro i h0
  refine s_seq <| s_region0 fun ops => oR (rd_bin rfl rfl rfl) <| o_nil <| n_K <| s_seq ?_
  refine s_cond rfl (fun c9 => ?_) (fun c9 => ?_)
  · simp only [decide_eq_true_eq, decide_eq_false_iff_not] at c9
    have hi : i < 256 := (by omega)
    have hl := lineU_lt d i h0
    have ho := oddU_lt d i
    have hd : d.toList.getD i 0 = d[i] := (by simp [List.getD_eq_getElem?_getD, hi])
    have hls := lineU_succ d i
    have hos := oddU_succ d i
    rw [hd] at hls hos
    generalize lineU d i = ln at hl hls ⊢
    generalize oddU d i = od at ho hos ⊢
    generalize hy : d[i] = yy at hls hos
    refine s_skip <| n_K <| s_seq <| s_block <| s_seq ?_
    refine s_draw [] [(6, [(0, false), (1, false), (2, false), (3, false), (4, false), (5, false)])] (by kernel_rfl) rfl fun ops w0 H0 y => ?_
    refine p_all <| xM rfl <| xN rfl ?_
    refine xR (rd_ixA0 rfl rfl (by omega)) ?_
    refine xR (rd_ld rfl mM (show nth _ _ = some (bv yy) by (rw [← hy]; simpa using nth_vb (p := d) hi))) ?_
    refine xA rfl <| xA rfl <| x_nil <| p_end <| n_K <| s_seq <| s_region0 fun ops => oM rfl <| oM rfl ?_
    refine c_is rfl (ones8_fn) sP rfl aQ ?_
    refine oR (show Rd _ _ _ _ (.int .i64 ((pop8 yy % 2 : Nat) : Int)) from by (rw [← Nat.and_one_is_mod]; exact rd_andN (b := 1) rfl rfl (by have := pop8_le yy; omega) (by omega))) ?_
    refine oR (show Rd _ _ _ _ (.int .i64 ((oddU d (i + 1) : Nat) : Int)) from by (rw [hos]; exact rd_xorN rfl rfl (by omega) (by omega))) ?_
    refine oA rfl <| o_nil <| n_K <| s_block ?_
    refine s_loop2E [7, 8, 4, 3] kQ (fun (st : By × Nat) => [(5, bv st.1), (2, .int .i64 (st.2 : Nat))]) (fun (st : By × Nat) => foldB i (bitsOf st.1) st.2 = lineU d (i + 1) ∧ st.2 < 4096) (fun (st : By × Nat) => st.1.toNat) ((yy, ln)) ⟨hls.symm, hl⟩ kP ?_
    rintro ⟨z, s⟩ ⟨h1, h2⟩
    simp only at h1 h2
    refine s_seq <| s_seq <| s_region0 fun ops => oM rfl <| oR (rd_bin rfl rfl rfl) <| o_nil <| n_K ?_
    refine s_cond rfl (fun c20 => ?_) (fun c20 => ?_)
    · skip
      have hz : z ≠ 0 := (by intro h; subst h; simp at c20)
      obtain ⟨hb1, hb2⟩ := bits_step z hz
      have hdr := bits_drop z hz
      rw [hb1] at h1
      have hpl := place_lt (8 * i + ntz8 z) (by omega)
      refine s_skip <| n_K <| s_block <| s_seq <| s_region0 fun ops => oM rfl ?_
      refine c_is rfl (ntz8_fn) sP rfl aQ ?_
      refine oA rfl <| o_nil <| n_K <| s_seq <| s_region0 fun ops => oM rfl <| oM rfl ?_
      refine oR (show Rd _ _ _ _ (.int .i64 ((8 * i : Nat) : Int)) from by (rw [Nat.mul_comm]; exact rd_shlN (m := 3) rfl rfl rfl (by omega) (by omega))) ?_
      refine oM rfl ?_
      refine oR (show Rd _ _ _ _ (.int .i64 ((8 * i + ntz8 z : Nat) : Int)) from by (rw [show 8 * i + ntz8 z = 8 * i ||| ntz8 z from Nat.two_pow_add_eq_or_of_lt (i := 3) hb2 i]; exact rd_orN rfl rfl (by omega) (by omega))) ?_
      refine c_is rfl (place_fn (i := 8 * i + ntz8 z) (by omega)) sP rfl aQ ?_
      refine oR (show Rd _ _ _ _ (.int .i64 ((s ^^^ placeN (8 * i + ntz8 z) : Nat) : Int)) from rd_xorN rfl rfl (by omega) (by omega)) ?_
      refine oA rfl <| o_nil <| n_K <| s_region0 fun ops => oM rfl <| oM rfl ?_
      refine oR (show Rd _ _ _ _ (bv (z - 1)) from rd_sub8 (b := 1) rfl rfl) ?_
      refine oR (show Rd _ _ _ _ (bv (z &&& (z - 1))) from by (unfold bv; rw [← and_by]; exact rd_bin rfl rfl rfl)) ?_
      refine oA rfl <| o_nil <| n_blk <| n_K ?_
      exact ⟨(z &&& (z - 1), s ^^^ placeN (8 * i + ntz8 z)), ⟨h1, xor_lt h2 hpl⟩, hdr, lZ⟩
    · skip
      have hz : z = 0 := (by have : z.toNat = 0 := (by simpa using c20); exact BitVec.eq_of_toNat_eq this)
      subst hz
      rw [bits_zero] at h1
      refine s_exit <| x_K <| x_K <| x_blk <| n_blk <| n_K <| s_region0 fun ops => ?_
      refine oR (rd_add64 rfl rfl (by omega)) ?_
      refine oM rfl <| o_nil <| n_K ?_
      have h3 : lineU d (i + 1) = s := h1.symm
      rw [← h3]
      exact ⟨i + 1, (by omega), (by omega), lZ⟩
  · simp only [decide_eq_true_eq, decide_eq_false_iff_not] at c9
    refine s_exit <| x_K <| x_K <| x_blk <| n_K <| s_seq <| s_region0 fun ops => oM rfl <| oM rfl <| oA rfl <| oA rfl <| o_nil <| n_K <| s_ret ?_
    refine leaf_is (rets2 Tryz.results76 (rv_tmp rfl) (rv_tmp rfl)) ?_ sP
    have hi : i = 256 := (by omega); simp only [lineN, oddN, hi]
theorem power_fn {n : Nat} (hn : n < 4096) : Does Tryz.prog 99 [.int .i64 (n : Nat)] [] (Is (.bool (decide (n &&& (n - 1) = 0))) []) := by
  refine fn_enter (n := 8) Tryz.func99 Tryz.ntmps99 rfl (Nat.le_of_ble_eq_true rfl) <| s_seq <| s_region0 fun ops => oA rfl <| o_nil <| n_K <| s_seq <| s_region0 fun ops => oM rfl <| oM rfl ?_
  refine oR (show Rd _ _ _ _ (.int .i64 ((n : Int) - 1)) from rd_sub64 rfl rfl (by omega)) ?_
  refine oR (show Rd _ _ _ _ (.int .i64 ((n &&& (n - 1) : Nat) : Int)) from rd_andPred rfl rfl hn) ?_
  refine oR (rd_bin rfl rfl rfl) <| oA rfl <| o_nil <| n_K <| s_ret ?_
  refine leaf_is (rets1 Tryz.results99 (rv_tmp rfl)) ?_ sP
  exact congrArg Value.bool (by by_cases h : n &&& (n - 1) = 0 <;> simp [h])
theorem check_fn {d : Dat} : Does Tryz.prog 47 [.agg (vbc d).toArray] [] (Is (.int .u16 (checkN d : Nat)) []) := by
  have hl := lineU_lt d 256 (Nat.le_refl _)
  have ho := oddU_lt d 256
  have hp : popN (lineN d) ≤ 16 := popN_le _
  refine fn_enter (n := 20) Tryz.func47 Tryz.ntmps47 rfl (Nat.le_of_ble_eq_true rfl) <| s_seq <| s_region0 fun ops => ?_
  refine o_boxA rfl rfl fun b1 => ?_
  refine oA rfl <| o_nil <| n_K <| s_seq <| s_region0 fun ops => ?_
  refine c_is rfl (fold_fn) sP rfl aQ ?_
  refine oM rfl <| oE rfl rfl <| oE rfl rfl <| oA rfl <| oA rfl <| o_nil <| n_K <| s_seq <| s_seq <| s_region0 fun ops => oM rfl <| oM rfl ?_
  refine oR (rd_convN rfl (wrapN_u .u64 rfl (by show _ < 2 ^ 64; unfold lineN; omega))) ?_
  refine c_is rfl (ones_fn hl) sP rfl aQ ?_
  refine oR (show Rd _ _ _ _ (.int .i64 ((oddN d + popN (lineN d) : Nat) : Int)) from rd_addN rfl rfl (by unfold oddN; omega)) ?_
  refine oR (show Rd _ _ _ _ (.int .i64 (((oddN d + popN (lineN d)) % 2 : Nat) : Int)) from by (rw [← Nat.and_one_is_mod]; exact rd_andN (b := 1) rfl rfl (by unfold oddN; omega) (by omega))) ?_
  refine oR (rd_bin rfl rfl rfl) <| o_nil <| n_K ?_
  refine s_cond rfl (fun c15 => ?_) (fun c15 => ?_)
  · skip
    have hc : checkN d = lineN d ||| 4096 := (by unfold checkN; rw [if_neg (by intro h; rw [h] at c15; simp at c15)])
    refine s_region0 fun ops => oM rfl ?_
    refine oR (show Rd _ _ _ _ (.int .i64 ((checkN d : Nat) : Int)) from by (rw [hc]; exact rd_orN (b := 4096) rfl rfl (by unfold lineN; omega) (by omega))) ?_
    refine oA rfl <| o_nil <| n_K <| s_seq <| s_region0 fun ops => oM rfl ?_
    refine oR (rd_convN (a := checkN d) rfl (wrapN_u .u16 rfl (by have := checkN_lt d; show _ < 65536; omega))) ?_
    refine oA rfl <| o_nil <| n_K <| s_ret ?_
    refine leaf_is (rets1 Tryz.results47 (rv_tmp rfl)) ?_ sP
    rfl
  · skip
    have hc : checkN d = lineN d := (by unfold checkN; rw [if_pos (by simp at c15; omega)])
    rw [← hc]
    refine s_skip <| n_K <| s_seq <| s_region0 fun ops => oM rfl ?_
    refine oR (rd_convN (a := checkN d) rfl (wrapN_u .u16 rfl (by have := checkN_lt d; show _ < 65536; omega))) ?_
    refine oA rfl <| o_nil <| n_K <| s_ret ?_
    refine leaf_is (rets1 Tryz.results47 (rv_tmp rfl)) ?_ sP
    rfl
theorem fix_fn {d : Dat} {chk : Nat} (hk : chk < 65536) : Does Tryz.prog 62 [.agg (vbc d).toArray, .int .u16 (chk : Nat)] [] (Is (.tuple #[.agg (vbc (hamFix d chk).1).toArray, .int .i64 (hamFix d chk).2.1, .int .i64 (hamFix d chk).2.2]) []) := by
  have hl := lineU_lt d 256 (Nat.le_refl _)
  have ho := oddU_lt d 256
  have hp := popN_le (chk &&& 8191)
  have ha : chk &&& 4095 < 4096 := Nat.and_lt_two_pow (n := 12) _ (by omega)
  have hs : lineN d ^^^ (chk &&& 4095) < 4096 := xor_lt hl ha
  obtain ⟨S, hS⟩ : ∃ S, S = lineN d ^^^ (chk &&& 4095) := ⟨_, rfl⟩
  rw [← hS] at hs
  refine fn_enter (n := 61) Tryz.func62 Tryz.ntmps62 rfl (Nat.le_of_ble_eq_true rfl) <| s_seq <| s_region0 fun ops => ?_
  refine o_boxA rfl rfl fun b2 => ?_
  refine o_alloc rfl fun b4 => ?_
  refine oA rfl <| oA rfl <| o_nil <| n_K <| s_seq <| s_region0 fun ops => ?_
  refine c_is rfl (fold_fn) sP rfl aQ ?_
  refine oM rfl <| oE rfl rfl <| oE rfl rfl <| oA rfl <| oA rfl <| o_nil <| n_K <| s_seq <| s_region0 fun ops => oM rfl <| oM rfl ?_
  refine oR (rd_convN rfl (wrapN_i (by omega))) ?_
  refine oR (show Rd _ _ _ _ (.int .i64 ((chk &&& 4095 : Nat) : Int)) from rd_andN (b := 4095) rfl rfl (by omega) (by omega)) ?_
  refine oR (show Rd _ _ _ _ (.int .i64 (S : Nat)) from by (rw [hS]; exact rd_xorN rfl rfl (by unfold lineN; omega) (by omega))) ?_
  refine oA rfl <| o_nil <| n_K <| s_seq <| s_region0 fun ops => oM rfl <| oM rfl ?_
  refine oR (show Rd _ _ _ _ (.int .u16 ((chk &&& 8191 : Nat) : Int)) from rd_and16 (b := 8191) rfl rfl hk (by omega)) ?_
  refine c_is rfl (ones16_fn (n := chk &&& 8191) (by have : chk &&& 8191 ≤ chk := Nat.and_le_left; omega)) sP rfl aQ ?_
  refine oR (show Rd _ _ _ _ (.int .i64 ((oddN d + popN (chk &&& 8191) : Nat) : Int)) from rd_addN rfl rfl (by unfold oddN; omega)) ?_
  refine oR (show Rd _ _ _ _ (.int .i64 (((oddN d + popN (chk &&& 8191)) % 2 : Nat) : Int)) from by (rw [← Nat.and_one_is_mod]; exact rd_andN (b := 1) rfl rfl (by unfold oddN; omega) (by omega))) ?_
  refine oA rfl <| o_nil <| n_K <| s_seq <| s_block <| s_seq ?_
  refine s_region [(2, 29)] rfl fun ops y => ?_
  refine oM rfl <| oR (rd_bin rfl rfl rfl) <| oM rfl ?_
  refine' o_and (j := 2) (k := 2) y rfl rfl rfl rfl rfl rfl rfl (fun hg29 => ?_) ?_
  rotate_left
  · try (simp at hg29; show _)
    refine o_g y rfl rfl ?_
    refine oM rfl ?_
    refine o_g y rfl rfl ?_
    refine oR (rd_bin rfl rfl rfl) ?_
    exact o_nil ⟨rfl, rfl, ⟨_, sP⟩⟩
  refine oA rfl <| o_nil <| n_K ?_
  refine s_cond rfl (fun c26 => ?_) (fun c26 => ?_)
  · skip
    have e1 : S = 0 ∧ (oddN d + popN (chk &&& 8191)) % 2 = 0 := (by simp at c26; omega)
    have hres : hamFix d chk = (d, 0, 0) := (by unfold hamFix; simp only []; rw [← hS]; rw [if_pos e1])
    refine s_seq <| s_region0 fun ops => ?_
    refine oR (rd_ldA rfl mM (by first | exact cut_vb | rfl)) ?_
    first | refine o_store rfl rfl uD (vc_vb) (vbc_len) (spl_vb (by first | exact vbc_len | exact List.length_replicate ..)) ?_ | refine o_store rfl rfl uD rfl rfl rfl ?_
    refine oA rfl <| oA rfl <| o_nil <| n_K <| s_ret <| r_blk <| r_K ?_
    refine leaf_is (rets3 Tryz.results62 (rv_cell rfl mM (by first | exact cut_vb | rfl)) (rv_tmp rfl) (rv_tmp rfl)) ?_ sP
    rw [hres]
  · skip
    have e1 : ¬ (S = 0 ∧ (oddN d + popN (chk &&& 8191)) % 2 = 0) := (by intro h; simp at c26; omega)
    refine s_seq <| s_region0 fun ops => oM rfl <| oR (rd_bin rfl rfl rfl) <| oA rfl <| o_nil <| n_K ?_
    refine s_cond rfl (fun c34 => ?_) (fun c34 => ?_)
    · skip
      have e2 : (oddN d + popN (chk &&& 8191)) % 2 = 0 := (by simp at c34; omega)
      have hres : hamFix d chk = (zeroD, 0, 21) := (by unfold hamFix; simp only []; rw [← hS]; rw [if_neg e1, if_pos e2])
      refine s_seq <| s_region0 fun ops => ?_
      refine oR (show Rd _ _ _ _ (.agg (vbc zeroD).toArray) from by (rw [← zeroD_eq]; exact rd_zeroA)) ?_
      first | refine o_store rfl rfl uD (vc_vb) (vbc_len) (spl_vb (by first | exact vbc_len | exact List.length_replicate ..)) ?_ | refine o_store rfl rfl uD rfl rfl rfl ?_
      refine oA rfl <| oA rfl <| o_nil <| n_K <| s_ret <| r_blk <| r_K ?_
      refine leaf_is (rets3 Tryz.results62 (rv_cell rfl mM (by first | exact cut_vb | rfl)) (rv_tmp rfl) (rv_tmp rfl)) ?_ sP
      rw [hres]
    · skip
      have e2 : ¬ (oddN d + popN (chk &&& 8191)) % 2 = 0 := (by intro h; simp at c34; omega)
      refine s_seq <| s_region0 fun ops => oM rfl ?_
      refine c_is rfl (power_fn hs) sP rfl aQ ?_
      refine oA rfl <| o_nil <| n_K ?_
      refine s_cond rfl (fun c38 => ?_) (fun c38 => ?_)
      · simp only [decide_eq_true_eq, decide_eq_false_iff_not] at c38
        have hres : hamFix d chk = (d, 1, 0) := (by unfold hamFix; simp only []; rw [← hS]; rw [if_neg e1, if_neg e2, if_pos c38])
        refine s_seq <| s_region0 fun ops => ?_
        refine oR (rd_ldA rfl mM (by first | exact cut_vb | rfl)) ?_
        first | refine o_store rfl rfl uD (vc_vb) (vbc_len) (spl_vb (by first | exact vbc_len | exact List.length_replicate ..)) ?_ | refine o_store rfl rfl uD rfl rfl rfl ?_
        refine oA rfl <| oA rfl <| o_nil <| n_K <| s_ret <| r_blk <| r_K ?_
        refine leaf_is (rets3 Tryz.results62 (rv_cell rfl mM (by first | exact cut_vb | rfl)) (rv_tmp rfl) (rv_tmp rfl)) ?_ sP
        rw [hres]
      · simp only [decide_eq_true_eq, decide_eq_false_iff_not] at c38
        have hn := notpow _ hs c38
        refine s_skip <| n_blk <| n_K <| s_seq <| s_region0 fun ops => oM rfl ?_
        refine oR (show Rd _ _ _ _ (.int .i64 ((S - 1 : Nat) : Int)) from by (rw [show ((S - 1 : Nat) : Int) = ((S : Nat) : Int) - 1 by omega]; exact rd_sub64 rfl rfl (by omega))) ?_
        refine oM rfl ?_
        refine oR (rd_convN rfl (wrapN_u .u64 rfl (by show _ < 2 ^ 64; omega))) ?_
        refine c_is rfl (len_fn hs) sP rfl aQ ?_
        refine oR (show Rd _ _ _ _ (.int .i64 ((S - 1 - lenN S : Nat) : Int)) from by (rw [show ((S - 1 - lenN S : Nat) : Int) = ((S - 1 : Nat) : Int) - ((lenN S : Nat) : Int) by omega]; exact rd_sub64 rfl rfl (by omega))) ?_
        refine oA rfl <| o_nil <| n_K <| s_seq <| s_seq <| s_region0 fun ops => oM rfl <| oR (rd_bin rfl rfl rfl) <| o_nil <| n_K ?_
        refine s_cond rfl (fun c49 => ?_) (fun c49 => ?_)
        · simp only [decide_eq_true_eq, decide_eq_false_iff_not] at c49
          have hres : hamFix d chk = (zeroD, 0, 21) := (by unfold hamFix; simp only []; rw [← hS]; rw [if_neg e1, if_neg e2, if_neg c38, if_pos (by omega)])
          refine s_seq <| s_region0 fun ops => ?_
          refine oR (show Rd _ _ _ _ (.agg (vbc zeroD).toArray) from by (rw [← zeroD_eq]; exact rd_zeroA)) ?_
          first | refine o_store rfl rfl uD (vc_vb) (vbc_len) (spl_vb (by first | exact vbc_len | exact List.length_replicate ..)) ?_ | refine o_store rfl rfl uD rfl rfl rfl ?_
          refine oA rfl <| oA rfl <| o_nil <| n_K <| s_ret <| r_K ?_
          refine leaf_is (rets3 Tryz.results62 (rv_cell rfl mM (by first | exact cut_vb | rfl)) (rv_tmp rfl) (rv_tmp rfl)) ?_ sP
          rw [hres]
        · simp only [decide_eq_true_eq, decide_eq_false_iff_not] at c49
          have hres : hamFix d chk = (flipD d (S - 1 - lenN S), 1, 0) := (by unfold hamFix; simp only []; rw [← hS]; rw [if_neg e1, if_neg e2, if_neg c38, if_neg (by omega)])
          generalize hI : S - 1 - lenN S = i at c49 hres ⊢
          have hi8 : i / 8 < 256 := (by omega)
          have hfl : flipD d i = d.set (i / 8) (d[i / 8] ^^^ (1#8 <<< (i % 8))) := (by unfold flipD; rw [dif_pos hi8])
          refine s_skip <| n_K <| s_seq ?_
          refine s_draw [] [(9, [(0, false), (1, false), (2, false), (3, false), (4, false), (5, false), (6, false), (7, false), (8, false)]), (10, [(9, true)])] (by kernel_rfl) rfl fun ops w0 H0 y => ?_
          refine p_all <| xM rfl ?_
          refine xR (show Rd _ _ _ _ (.int .i64 ((i / 8 : Nat) : Int)) from rd_shrN (m := 3) rfl rfl rfl (by decide)) ?_
          refine xR (rd_ixA0 rfl rfl (by omega)) ?_
          refine xR (rd_ld rfl mM (show nth (vbc d) (i / 8 * 1) = some (bv d[i / 8]) by rw [Nat.mul_one]; exact nth_vb (p := d) hi8)) ?_
          refine xM rfl ?_
          refine xR (show Rd _ _ _ _ (.int .i64 ((i % 8 : Nat) : Int)) from by (rw [← Nat.and_two_pow_sub_one_eq_mod i 3]; exact rd_andN (b := 7) rfl rfl (by omega) (by omega))) ?_
          refine xR (show Rd _ _ _ _ (bv (1#8 <<< (i % 8))) from rd_bit8 rfl rfl (by omega)) ?_
          refine xR (show Rd _ _ _ _ (bv (d[i / 8] ^^^ (1#8 <<< (i % 8)))) from by (unfold bv; rw [← xor_by]; exact rd_bin rfl rfl rfl)) ?_
          refine xR (rd_ixA0 rfl rfl (by omega)) ?_
          refine x_nil <| p_none <| x_so ?_
          refine o_store (cs' := vbc (flipD d i)) rfl rfl uD rfl rfl (show splice (vbc d) (i / 8 * 1) [bv (d[i / 8] ^^^ (1#8 <<< (i % 8)))] = _ by rw [Nat.mul_one, hfl]; exact spl1_vb (p := d) hi8 _) ?_
          refine o_nil ⟨rfl, ⟨_, sP⟩, ?_⟩
          refine x_nil <| p_end <| n_K <| s_seq <| s_region0 fun ops => ?_
          refine oR (rd_ldA rfl mM (by first | exact cut_vb | rfl)) ?_
          first | refine o_store rfl rfl uD (vc_vb) (vbc_len) (spl_vb (by first | exact vbc_len | exact List.length_replicate ..)) ?_ | refine o_store rfl rfl uD rfl rfl rfl ?_
          refine oA rfl <| oA rfl <| o_nil <| n_K <| s_ret ?_
          refine leaf_is (rets3 Tryz.results62 (rv_cell rfl mM (by first | exact cut_vb | rfl)) (rv_tmp rfl) (rv_tmp rfl)) ?_ sP
          rw [hres]
end Go.Proofs.YtkfcpjohblddmaaGreat
end
section
/- The plain laws of records in pages. -/
namespace Go.Proofs.YtkfcpjohblddmaaGreat
open Go.K
set_option linter.unusedVariables false
set_option linter.unusedSimpArgs false

def putV {n : Nat} (p : Vector By n) (o : Nat) (xs : List By) : Vector By n := Vector.ofFn fun j => if o ≤ j.val ∧ j.val < o + xs.length then xs.getD (j.val - o) 0 else p[j]
theorem putV_at {n : Nat} (p : Vector By n) (o : Nat) (xs : List By) (j : Nat) (h : j < n) : (putV p o xs)[j] = if o ≤ j ∧ j < o + xs.length then xs.getD (j - o) 0 else p[j] := by simp [putV]
theorem vbc_get {n : Nat} (p : Vector By n) (i : Nat) : (vbc p)[i]? = if h : i < n then some (bv p[i]) else none := by
  unfold vbc
  rw [List.getElem?_map]
  by_cases h : i < n
  · simp [h]
  · rw [List.getElem?_eq_none (by simpa using h)]
    simp [h]
theorem cells_get (xs : List By) (i : Nat) : (cells xs)[i]? = (xs[i]?).map bv := by rw [cells_by, List.getElem?_map]
theorem cells_len1 (xs : List By) : (cells xs).length = xs.length := by rw [cells_by, List.length_map]
theorem spl_put {n : Nat} {p : Vector By n} {o : Nat} {xs : List By} (h : o + xs.length ≤ n) : splice (vbc p) o (cells xs) = some (vbc (putV p o xs)) := by
  refine splice_of ?_ (by rw [cells_len1, vbc_len]; exact h)
  apply List.ext_getElem?
  intro i
  rw [vbc_get]
  by_cases hi : i < n
  · rw [dif_pos hi, putV_at _ _ _ _ hi]
    by_cases h1 : i < o
    · rw [if_neg (by omega), List.append_assoc, List.getElem?_append_left (by rw [List.length_take, vbc_len]; omega), List.getElem?_take, if_pos h1, vbc_get, dif_pos hi]
    · by_cases h2 : i < o + xs.length
      · rw [if_pos ⟨by omega, h2⟩, List.append_assoc, List.getElem?_append_right (by rw [List.length_take, vbc_len]; omega), List.getElem?_append_left (by rw [cells_len1, List.length_take, vbc_len]; omega), List.length_take, vbc_len, Nat.min_eq_left (by omega), cells_get, List.getElem?_eq_getElem (by omega)]
        simp only [Option.map_some, List.getD_eq_getElem?_getD, List.getElem?_eq_getElem (show i - o < xs.length by omega), Option.getD_some]
      · rw [if_neg (by omega), List.getElem?_append_right (by rw [List.length_append, cells_len1, List.length_take, vbc_len]; omega), List.getElem?_drop, List.length_append, cells_len1, List.length_take, vbc_len, Nat.min_eq_left (by omega), vbc_get]
        have e : o + xs.length + (i - (o + xs.length)) = i := by omega
        simp only [e, hi, dif_pos]
  · rw [dif_neg hi, List.getElem?_eq_none]
    simp only [List.length_append, List.length_take, List.length_drop, cells_len1, vbc_len]
    omega
/-- A record's data, without its sum. -/
def dat0 (kind : By) (body : List By) : Dat := putV ((zeroD.set 0 kind).set 1 (BitVec.ofNat 8 body.length)) 2 body
def crcOf (d : Dat) : BitVec 32 := crcOn 0 [d.toList.take 252]
def sumD (d : Dat) : Dat := putV d 252 (numB 4 ((crcOf d).setWidth 64))
def datW (kind : By) (body : List By) : Dat := sumD (dat0 kind body)
def pageOf (d : Dat) : Pg := putV (putV zeroP 0 d.toList) 256 (numB 2 (BitVec.ofNat 64 (checkN d)))
def pageW (kind : By) (body : List By) : Pg := pageOf (datW kind body)
/-- May a record be so? -/
def wrong (kind : By) (body : List By) : Bool := (decide ((kind.toNat : Int) = 0) || decide ((kind.toNat : Int) = 255)) || decide ((240 : Int) < body.length)
def writeF (kind : By) (body : List By) : Pg × Int := if wrong kind body = true then (zeroP, 1) else (pageW kind body, 0)
/-- How many bits of the first bytes are 0. -/
def zerosU (p : Pg) (i : Nat) : Nat := (List.range i).foldl (fun s j => s + pop8 (~~~ (p.toList.getD j 0))) 0
theorem zerosU_succ (p : Pg) (i : Nat) : zerosU p (i + 1) = zerosU p i + pop8 (~~~ (p.toList.getD i 0)) := by simp [zerosU, List.range_succ]
theorem zerosU_le (p : Pg) : ∀ i, zerosU p i ≤ 8 * i := by
  intro i
  induction i with
  | zero => simp [zerosU]
  | succ i ih => rw [zerosU_succ]; have := pop8_le (~~~ (p.toList.getD i 0)); omega
def blankB (p : Pg) : Bool := decide (zerosU p 258 ≤ 1)
def datOf (p : Pg) : Dat := Vector.ofFn fun j => p[j]
theorem cut_dat (p : Pg) : cut (vbc p) 0 256 = some (vbc (datOf p)) := by
  refine cut_iff.2 ⟨?_, by rw [vbc_len]; omega⟩
  apply List.ext_getElem?
  intro i
  rw [List.drop_zero, List.getElem?_take, vbc_get, vbc_get]
  by_cases h : i < 256
  · rw [dif_pos h, if_pos h, dif_pos (by omega)]
    simp [datOf]
  · rw [dif_neg h, if_neg h]
def chkOf (p : Pg) : Nat := (valUp ((p.toList.drop 256).take 2) 2).toNat % 65536
def sizeOf' (d : Dat) : Nat := d[1].toNat
def bodyOf (d : Dat) : List By := if d[1].toNat ≤ 240 then (d.toList.drop 2).take d[1].toNat else []
/-- What is read of a page: the kind, the body, how many bits were mended, the error. -/
def readF (p : Pg) : By × List By × Int × Int :=
  if blankB p = true then (0, [], 0, 20) else
  let above := popN (chkOf p &&& 57344)
  if 1 < above then (0, [], 0, 21) else
  let f := hamFix (datOf p) (chkOf p)
  if f.2.2 ≠ 0 then (0, [], 0, f.2.2) else
  let w := writeF f.1[0] (bodyOf f.1)
  if w.2 ≠ 0 ∨ 240 < f.1[1].toNat ∨ w.1.toList.take 256 ≠ f.1.toList then (0, [], 0, 21)
  else (f.1[0], bodyOf f.1, f.2.1 + above, 0)
theorem readF_blank {p : Pg} (h : blankB p = true) : readF p = (0, [], 0, 20) := by unfold readF; rw [if_pos h]
theorem readF_above {p : Pg} (h : blankB p = false) (h2 : 1 < popN (chkOf p &&& 57344)) : readF p = (0, [], 0, 21) := by
  unfold readF; rw [if_neg (by rw [h]; exact Bool.false_ne_true)]; simp only []; rw [if_pos h2]
theorem readF_fix {p : Pg} (h : blankB p = false) (h2 : ¬ 1 < popN (chkOf p &&& 57344)) (h3 : ¬ (hamFix (datOf p) (chkOf p)).2.2 = 0) : readF p = (0, [], 0, (hamFix (datOf p) (chkOf p)).2.2) := by
  unfold readF; rw [if_neg (by rw [h]; exact Bool.false_ne_true)]; simp only []; rw [if_neg h2, if_pos h3]
theorem readF_bad {p : Pg} {f : Dat × Int × Int} (hf : hamFix (datOf p) (chkOf p) = f) (h : blankB p = false) (h2 : ¬ 1 < popN (chkOf p &&& 57344)) (h3 : f.2.2 = 0)
    (h4 : (writeF f.1[0] (bodyOf f.1)).2 ≠ 0 ∨ 240 < f.1[1].toNat ∨ (writeF f.1[0] (bodyOf f.1)).1.toList.take 256 ≠ f.1.toList) : readF p = (0, [], 0, 21) := by
  subst hf
  unfold readF; rw [if_neg (by rw [h]; exact Bool.false_ne_true)]; simp only []; rw [if_neg h2, if_neg (by rw [h3]; simp), if_pos h4]
theorem readF_ok {p : Pg} {f : Dat × Int × Int} (hf : hamFix (datOf p) (chkOf p) = f) (h : blankB p = false) (h2 : ¬ 1 < popN (chkOf p &&& 57344)) (h3 : f.2.2 = 0)
    (h4 : ¬ ((writeF f.1[0] (bodyOf f.1)).2 ≠ 0 ∨ 240 < f.1[1].toNat ∨ (writeF f.1[0] (bodyOf f.1)).1.toList.take 256 ≠ f.1.toList)) : readF p = (f.1[0], bodyOf f.1, f.2.1 + (popN (chkOf p &&& 57344) : Nat), 0) := by
  subst hf
  unfold readF; rw [if_neg (by rw [h]; exact Bool.false_ne_true)]; simp only []; rw [if_neg h2, if_neg (by rw [h3]; simp), if_neg h4]
theorem or3_t {a b c : Prop} [Decidable a] [Decidable b] [Decidable c] (h : ((!decide a || decide b) || !decide c) = true) : ¬ a ∨ b ∨ ¬ c := by
  by_cases ha : a <;> by_cases hb : b <;> by_cases hc : c <;> simp_all
theorem or3_f {a b c : Prop} [Decidable a] [Decidable b] [Decidable c] (h : ((!decide a || decide b) || !decide c) = false) : a ∧ ¬ b ∧ c := by
  by_cases ha : a <;> by_cases hb : b <;> by_cases hc : c <;> simp_all
theorem chkOf_lt (p : Pg) : chkOf p < 65536 := by unfold chkOf; omega
theorem andNot16 {n : Nat} (hn : n < 65536) : ibits .andNot .u16 n 8191 = ((n &&& 57344 : Nat) : Int) := by
  show IntKind.u16.wrap ((BitVec.ofInt 16 (n : Int) &&& ~~~ BitVec.ofInt 16 8191).toNat : Int) = _
  rw [BitVec.ofInt_natCast, show ~~~ BitVec.ofInt 16 8191 = BitVec.ofNat 16 57344 from by decide, BitVec.toNat_and, BitVec.toNat_ofNat, BitVec.toNat_ofNat, Nat.mod_eq_of_lt (show n < 2 ^ 16 from hn), Nat.mod_eq_of_lt (show 57344 < 2 ^ 16 by decide)]
  exact wrapN_u .u16 rfl (Nat.lt_of_le_of_lt Nat.and_le_left hn)
theorem conv_16 (x : Wd) : IntKind.u16.wrap (x.toNat : Int) = ((x.toNat % 65536 : Nat) : Int) := by
  rw [wrap_u .u16 rfl, BitVec.ofInt_natCast, BitVec.toNat_ofNat]; rfl
theorem fixN_le (d : Dat) (c : Nat) : 0 ≤ (hamFix d c).2.1 ∧ (hamFix d c).2.1 ≤ 1 := by
  unfold hamFix
  simp only []
  split
  · exact ⟨by simp, by simp⟩
  · split
    · exact ⟨by simp, by simp⟩
    · split
      · exact ⟨by simp, by simp⟩
      · split <;> exact ⟨by simp, by simp⟩
end Go.Proofs.YtkfcpjohblddmaaGreat
end
section
/- Walks of package frame. -/
namespace Go.Proofs.YtkfcpjohblddmaaGreat
open Go.K
set_option linter.unusedVariables false
set_option linter.unusedSimpArgs false
instance zer30 : Zer Tryz.prog 30 ([.slice none 0 0]) := ⟨by kernel_rfl⟩
instance ent24 : Ent Tryz.prog 24 := ⟨fun _ _ => by kernel_rfl⟩
instance ent38 : Ent Tryz.prog 38 := ⟨fun _ _ => by kernel_rfl⟩
instance ent58 : Ent Tryz.prog 58 := ⟨fun _ _ => by kernel_rfl⟩
instance ent64 : Ent Tryz.prog 64 := ⟨fun _ _ => by kernel_rfl⟩

theorem blankp_fn {p : Pg} : Does Tryz.prog 58 [.agg (vbc p).toArray] [] (Is (.bool (blankB p)) []) := by
  refine fn_enter (n := 18) Tryz.func58 Tryz.ntmps58 rfl (Nat.le_of_ble_eq_true rfl) <| s_seq <| s_region0 fun ops => ?_
  refine o_boxA rfl rfl fun b1 => ?_
  refine oA rfl <| o_nil <| n_K <| s_seq <| s_region0 fun ops => oA rfl <| o_nil <| n_K <| s_seq <| s_seq <| s_region0 fun ops => ?_
  refine oR (rd_ldA rfl mM (by first | exact cut_vb | rfl)) ?_
  refine oM rfl <| o_nil <| n_K <| s_block ?_
  refine s_loop2E [6] kQ (fun (i : Nat) => [(7, .int .i64 i), (3, .int .i64 (zerosU p i : Nat))]) (fun (i : Nat) => i ≤ 258) (fun (i : Nat) => 258 - i) ((0 : Nat)) (Nat.zero_le _) kP ?_
  rintro i h0
  refine s_seq <| s_region0 fun ops => oR (rd_bin rfl rfl rfl) <| o_nil <| n_K <| s_seq ?_
  refine s_cond rfl (fun c8 => ?_) (fun c8 => ?_)
  · simp only [decide_eq_true_eq, decide_eq_false_iff_not] at c8
    have hi : i < 258 := (by omega)
    have hd : p.toList.getD i 0 = p[i] := (by simp [List.getD_eq_getElem?_getD, hi])
    have hz := zerosU_succ p i
    have hle := zerosU_le p i
    have hp8 := pop8_le (~~~ (p.toList.getD i 0))
    rw [hd] at hz hp8
    refine s_skip <| n_K <| s_seq <| s_block <| s_seq <| s_region0 fun ops => ?_
    refine oR (show Rd _ _ _ _ (bv p[i]) from rd_ix rfl rfl (by omega) (show nth (vbc p) (i * 1) = _ by rw [Nat.mul_one]; exact nth_vb hi)) ?_
    refine oA rfl <| o_nil <| n_K <| s_region0 fun ops => oM rfl <| oM rfl <| oR (rd_compl8 rfl) ?_
    refine c_is rfl (ones8_fn) sP rfl aQ ?_
    refine oR (show Rd _ _ _ _ (.int .i64 ((zerosU p (i + 1) : Nat) : Int)) from by (rw [hz]; exact rd_addN rfl rfl (by omega))) ?_
    refine oA rfl <| o_nil <| n_blk <| n_K <| s_region0 fun ops => ?_
    refine oR (rd_add64 rfl rfl (by omega)) ?_
    refine oM rfl <| o_nil <| n_K ?_
    exact ⟨i + 1, (by omega), (by omega), lZ⟩
  · simp only [decide_eq_true_eq, decide_eq_false_iff_not] at c8
    refine s_exit <| x_K <| x_K <| x_blk <| n_K <| s_seq <| s_region0 fun ops => oM rfl <| oR (rd_bin rfl rfl rfl) <| oA rfl <| o_nil <| n_K <| s_ret ?_
    refine leaf_is (rets1 Tryz.results58 (rv_tmp rfl)) ?_ sP
    unfold blankB; rw [show i = 258 by omega]; exact congrArg Value.bool (decide_eq_decide.2 (by omega))
/-- One slice of bytes, as a list of such. -/
theorem one_parts {b : Nat} {s : Sl By} {L : Hp} : ((b, true, C [s.val] tSB) :: (s.hp tU8 ++ L)) = (Sl.own b [s] 1 [] ⟨by simp, Nat.le_refl _, by simp⟩ : Sl (Sl By)).hp tSB ++ (partsH [s] ++ L) := by
  rw [Sl.hp_own, partsH_cons, partsH_nil]
  simp only [List.append_assoc, List.nil_append]
  rfl
/-- The first bytes of data, as a slice. -/
def viewD (b : Nat) (d : Dat) (o : Nat) (xs : List By) (cap : Nat) (T : TypeId) (h : Shows (vbc d) o xs ∧ xs.length ≤ cap ∧ xs.length ≤ 9223372036854775807) : Sl By := .view b o true (vbc d) T (0, 0) xs cap h
theorem shows_vb {n : Nat} {p : Vector By n} {o m : Nat} : Shows (vbc p) o ((p.toList.drop o).take m) := fun i x hx => by
  have hx' := take_get hx
  rw [List.getElem?_drop] at hx'
  have hlt : o + i < n := by have := (List.getElem?_eq_some_iff.1 hx').1; simpa using this
  refine cut_iff.2 ⟨?_, by rw [vbc_len]; simp only [Cel.sz]; omega⟩
  simp only [Cel.sz, Nat.mul_one, Cel.cs]
  have h1 : (vbc p)[o + i]? = some (bv x) := by rw [vbc, List.getElem?_map, hx']; rfl
  have hl : o + i < (vbc p).length := by rw [vbc_len]; exact hlt
  rw [List.drop_eq_getElem_cons hl, List.take_succ_cons, List.take_zero]
  have := List.getElem?_eq_getElem hl
  rw [h1] at this
  rw [Option.some.inj this]
/-- A part of an array of bytes, as a slice. -/
def viewV {n : Nat} (b : Nat) (p : Vector By n) (o m cap : Nat) (T : TypeId) (h : min m (n - o) ≤ cap ∧ n ≤ 1000) : Sl By :=
  .view b o true (vbc p) T (0, 0) ((p.toList.drop o).take m) cap ⟨shows_vb, by simp only [List.length_take, List.length_drop, Vector.length_toList]; omega, by simp only [List.length_take, List.length_drop, Vector.length_toList]; omega⟩
theorem viewV_val {n b o m cap : Nat} {p : Vector By n} {T : TypeId} {h} (hm : o + m ≤ n) : (viewV b p o m cap T h).val = .slice (some ⟨b, o, none⟩) m cap := by
  have : ((p.toList.drop o).take m).length = m := by simp only [List.length_take, List.length_drop, Vector.length_toList]; omega
  show Value.slice (some ⟨b, o, none⟩) ((p.toList.drop o).take m).length cap = _
  rw [this]
theorem viewV_hp {n b o m cap : Nat} {p : Vector By n} {T U : TypeId} {h} : (viewV b p o m cap T h).hp U = [(b, true, C (vbc p) T)] := by unfold viewV; rw [Sl.hp_view]
theorem viewV_list {n b o m cap : Nat} {p : Vector By n} {T : TypeId} {h} : (viewV b p o m cap T h).list = (p.toList.drop o).take m := rfl
theorem crc_dat {b33 b7 : Nat} {d : Dat} : Does Tryz.prog 46 [.slice (some ⟨b33, 0, none⟩) 1 1] [(b33, true, C [.slice (some ⟨b7, 0, none⟩) 252 256] tSB), (b7, true, C (vbc d) tDa)] (Is (uv (crcOf d)) [(b33, true, C [.slice (some ⟨b7, 0, none⟩) 252 256] tSB), (b7, true, C (vbc d) tDa)]) := by
  have h := sum_fn (q := .own b33 [viewV b7 d 0 252 256 tDa (by omega)] 1 [] ⟨by simp, Nat.le_refl _, by simp⟩)
  have e := one_parts (b := b33) (s := viewV b7 d 0 252 256 tDa (by omega)) (L := [])
  rw [viewV_val (by omega), viewV_hp] at e
  have e2 : (Sl.own b33 [viewV b7 d 0 252 256 tDa (by omega)] 1 [] ⟨by simp, Nat.le_refl _, by simp⟩ : Sl (Sl By)).list = [viewV b7 d 0 252 256 tDa (by omega)] := rfl
  rw [e2, ← e] at h
  exact h
theorem conv_n8 (n : Nat) : IntKind.u8.wrap (n : Int) = ((BitVec.ofNat 8 n).toNat : Int) := by
  rw [wrap_u .u8 rfl, BitVec.ofInt_natCast]; rfl
theorem conv_n64 (n : Nat) : IntKind.u64.wrap (n : Int) = ((BitVec.ofNat 64 n).toNat : Int) := by
  rw [wrap_u .u64 rfl, BitVec.ofInt_natCast]; rfl
theorem cut_all {n : Nat} {p : Vector By n} : cut (vbc p) 0 (n * 1) = some (cells p.toList) := by
  rw [Nat.mul_one, cells_by]; exact cut_vb
theorem write_page {kind : By} {q : Sl (Sl By)} (hl : (joinB q.list).length ≤ 70000000000000) : Does Tryz.prog 24 [bv kind, q.val] (q.hp tSB ++ (partsH q.list ++ []))
    (Is (.tuple #[.agg (vbc (writeF kind (joinB q.list)).1).toArray, .int .i64 (writeF kind (joinB q.list)).2]) (q.hp tSB ++ (partsH q.list ++ []))) := by
  refine fn_enter (n := 48) Tryz.func24 Tryz.ntmps24 rfl (Nat.le_of_ble_eq_true rfl) <| s_seq <| s_region0 fun ops => ?_
  refine o_alloc rfl fun b4 => ?_
  rw [zeroP_eq]
  refine oA rfl <| o_nil <| n_K <| s_seq <| s_region0 fun ops => oM rfl ?_
  refine c_ex rfl (pjoin_fn hl) sP rfl fun v9 Y9 h9 => ?_
  obtain ⟨s9, rfl, rfl, hs9, ho9⟩ := h9
  refine so_ap aQ ?_
  refine oA rfl <| o_nil <| n_K <| s_seq <| s_seq ?_
  refine s_region [(2, 12), (6, 16)] rfl fun ops y => ?_
  refine oM rfl <| oR (rd_bin rfl rfl rfl) <| oM rfl ?_
  refine' o_or (j := 2) (k := 2) y rfl rfl rfl rfl rfl rfl rfl (fun hg12 => ?_) ?_
  rotate_left
  · try (simp at hg12; show _)
    refine o_g y rfl rfl ?_
    refine oM rfl ?_
    refine o_g y rfl rfl ?_
    refine oR (rd_bin rfl rfl rfl) ?_
    exact o_nil ⟨rfl, rfl, ⟨_, sP⟩⟩
  refine oM rfl ?_
  refine' o_or (j := 6) (k := 3) y rfl rfl rfl rfl rfl rfl rfl (fun hg16 => ?_) ?_
  rotate_left
  · try (simp at hg16; show _)
    refine o_g y rfl rfl ?_
    refine oM rfl ?_
    refine o_g y rfl rfl ?_
    refine oR (rd_lenS rfl) ?_
    refine o_g y rfl rfl ?_
    refine oR (rd_bin rfl rfl rfl) ?_
    exact o_nil ⟨rfl, rfl, ⟨_, sP⟩⟩
  refine o_nil <| n_K ?_
  refine s_cond rfl (fun c20 => ?_) (fun c20 => ?_)
  · skip
    have hres : writeF kind (joinB q.list) = (zeroP, 1) := (by unfold writeF; rw [if_pos (by unfold wrong; rw [← hs9]; exact c20)])
    refine s_seq <| s_region0 fun ops => ?_
    refine oR (rd_ldA rfl mM (by first | exact cut_vb | rfl)) ?_
    first | refine o_store rfl rfl uD (vc_vb) (vbc_len) (spl_vb (by first | exact vbc_len | exact List.length_replicate ..)) ?_ | refine o_store rfl rfl uD rfl rfl rfl ?_
    refine oA rfl <| o_nil <| n_K <| s_ret <| r_K ?_
    refine leaf_is (rets2 Tryz.results24 (rv_cell rfl mM (by first | exact cut_vb | rfl)) (rv_tmp rfl)) ?_ sP
    rw [← hs9]; first | rw [hs9, hres] | (rw [← hb, hres])
  · skip
    have hres : writeF kind (joinB q.list) = (pageW kind (joinB q.list), 0) := (by unfold writeF; rw [if_neg (by unfold wrong; rw [← hs9, c20]; exact Bool.false_ne_true)])
    have hlen : s9.list.length ≤ 240 := (by simp at c20; omega)
    obtain ⟨body, hb⟩ : ∃ body, body = s9.list := ⟨_, rfl⟩
    rw [← hb] at hlen
    rw [← hs9, ← hb] at hres
    refine s_skip <| n_K <| s_seq <| s_region0 fun ops => ?_
    refine o_alloc rfl fun b7 => ?_
    rw [zeroD_eq]
    refine o_nil <| n_K <| s_seq <| s_region0 fun ops => oM rfl <| oM rfl <| oR (rd_lenS rfl) ?_
    refine oR (show Rd _ _ _ _ (bv (BitVec.ofNat 8 s9.list.length)) from by (unfold bv; rw [← conv_n8]; exact rd_convI rfl)) ?_
    refine oR (rd_ixA0 rfl rfl (by omega)) ?_
    first | refine o_store (cs' := vbc (zeroD.set 0 kind)) rfl rfl uD rfl rfl (spl1_vb (by omega) kind) ?_ | refine o_store (cs' := vbc ((zeroD.set 0 kind).set 1 (BitVec.ofNat 8 s9.list.length))) rfl rfl uD rfl rfl (spl1_vb (by omega) _) ?_
    refine oR (rd_ixA0 rfl rfl (by omega)) ?_
    first | refine o_store (cs' := vbc (zeroD.set 0 kind)) rfl rfl uD rfl rfl (spl1_vb (by omega) kind) ?_ | refine o_store (cs' := vbc ((zeroD.set 0 kind).set 1 (BitVec.ofNat 8 s9.list.length))) rfl rfl uD rfl rfl (spl1_vb (by omega) _) ?_
    refine o_nil <| n_K <| s_seq <| s_region0 fun ops => ?_
    refine oR (rd_sliceA (i := 2) (j := 256) rfl ⟨_, rfl⟩ rfl (by omega)) ?_
    refine oM rfl ?_
    refine o_copySrc (cs' := vbc (dat0 kind body)) rfl rfl (src_sl pL) (by rw [← hb]; omega) uD (by rw [← hb]; exact spl_put (by omega)) (cells_one _) rfl ?_
    refine o_nil <| n_K <| s_seq ?_
    refine s_draw [] [(6, [(0, false), (1, false), (2, true), (3, true), (4, false), (5, true)]), (7, [(6, true)])] (by kernel_rfl) rfl fun ops w0 H0 y => ?_
    refine p_all ?_
    refine xR (rd_sliceA (i := 252) (j := 256) rfl ⟨_, rfl⟩ rfl (by omega)) ?_
    refine xR (rd_sliceA (i := 0) (j := 252) rfl rfl ⟨_, rfl⟩ (by omega)) ?_
    refine x_so ?_
    refine o_bslice_k rfl rfl rfl rfl fun b33 => ?_
    refine o_nil ⟨rfl, ⟨_, sP⟩, ?_⟩
    refine x_so ?_
    refine c_is rfl (crc_dat) sP rfl aQ ?_
    refine o_nil ⟨rfl, ⟨_, sP⟩, ?_⟩
    refine xR (rd_32to64 rfl) <| x_so ?_
    refine c_ex rfl (num_fn) sP rfl fun v36 Y36 h36 => ?_
    obtain ⟨s36, rfl, rfl, hs36, ho36⟩ := h36
    refine so_ap aQ ?_
    refine o_nil ⟨rfl, ⟨_, sP⟩, ?_⟩
    refine x_nil <| p_none <| x_so ?_
    refine o_copySrc (cs' := vbc (datW kind body)) rfl rfl (src_sl pL) (by rw [hs36, numB_len]; decide) uD (by rw [hs36]; exact spl_put (by rw [numB_len]; decide)) (cells_one _) rfl ?_
    refine o_nil ⟨rfl, ⟨_, sP⟩, ?_⟩
    refine x_nil <| p_end <| n_K <| s_seq ?_
    refine s_draw [] [(2, [(0, false), (1, false)]), (3, [(2, true)])] (by kernel_rfl) rfl fun ops w0 H0 y => ?_
    refine p_all ?_
    refine xR (rd_sliceA (i := 0) (j := 258) rfl rfl rfl (by omega)) ?_
    refine xR (rd_sliceA (i := 0) (j := 256) rfl rfl rfl (by omega)) ?_
    refine x_nil <| p_none <| x_so ?_
    refine o_copySrc (cs' := vbc (putV zeroP 0 (datW kind body).toList)) rfl rfl (src_blk (r := true) mM cut_all) (by decide) uD (spl_put (by simp)) (cells_one _) rfl ?_
    refine o_nil ⟨rfl, ⟨_, sP⟩, ?_⟩
    refine x_nil <| p_end <| n_K <| s_seq ?_
    refine s_draw [] [(5, [(0, false), (1, false), (2, true), (3, false), (4, true)]), (6, [(5, true)])] (by kernel_rfl) rfl fun ops w0 H0 y => ?_
    refine p_all ?_
    refine xR (rd_sliceA (i := 256) (j := 258) rfl ⟨_, rfl⟩ rfl (by omega)) ?_
    refine xR (rd_ldA rfl mM (by first | exact cut_vb | rfl)) ?_
    refine x_so ?_
    refine c_is rfl (check_fn) sP rfl aQ ?_
    refine o_nil ⟨rfl, ⟨_, sP⟩, ?_⟩
    refine xR (show Rd _ _ _ _ (wv (BitVec.ofNat 64 (checkN (datW kind body)))) from rd_via (conv_n64 _) rfl) ?_
    refine x_so ?_
    refine c_ex rfl (num_fn (x := BitVec.ofNat 64 (checkN (datW kind body)))) sP rfl fun v45 Y45 h45 => ?_
    obtain ⟨s45, rfl, rfl, hs45, ho45⟩ := h45
    refine so_ap aQ ?_
    refine o_nil ⟨rfl, ⟨_, sP⟩, ?_⟩
    refine x_nil <| p_none <| x_so ?_
    refine o_copySrc (cs' := vbc (pageW kind body)) rfl rfl (src_sl pL) (by rw [hs45, numB_len]; decide) uD (by rw [hs45]; exact spl_put (by rw [numB_len]; decide)) (cells_one _) rfl ?_
    refine o_nil ⟨rfl, ⟨_, sP⟩, ?_⟩
    refine x_nil <| p_end <| n_K <| s_seq <| s_region0 fun ops => ?_
    refine oR (rd_ldA rfl mM (by first | exact cut_vb | rfl)) ?_
    first | refine o_store rfl rfl uD (vc_vb) (vbc_len) (spl_vb (by first | exact vbc_len | exact List.length_replicate ..)) ?_ | refine o_store rfl rfl uD rfl rfl rfl ?_
    refine oA rfl <| o_nil <| n_K <| s_ret ?_
    refine leaf_is (rets2 Tryz.results24 (rv_cell rfl mM (by first | exact cut_vb | rfl)) (rv_tmp rfl)) ?_ sP
    rw [← hs9]; first | rw [hs9, hres] | (rw [← hb, hres])
theorem newReader_v {b : Nat} {p : Pg} : Does Tryz.prog 59 [.slice (some ⟨b, 256, none⟩) 2 2] [(b, true, C (vbc p) tPg)] (fun v H => ∃ r : Rdr, v = ptr r.b ∧ H = rdH r ++ ([(b, true, C (vbc p) tPg)] ++ []) ∧ r.sl.list = (p.toList.drop 256).take 2 ∧ r.bad = false) := by
  have h := newReader_fn (s := viewV b p 256 2 2 tPg (by omega)) (T := tPg) (by rw [viewV_list, List.length_take]; omega)
  rw [viewV_val (by omega), viewV_hp, viewV_list] at h
  exact h
theorem clone_v {b n : Nat} {d : Dat} (hn : n ≤ 240) : Does Tryz.prog 63 [.slice (some ⟨b, 2, none⟩) n 254] [(b, true, C (vbc d) tDa)] (fun v H => ∃ s : Sl By, v = s.val ∧ H = s.hp tU8 ++ ([(b, true, C (vbc d) tDa)] ++ []) ∧ s.list = (d.toList.drop 2).take n ∧ s.isOwn = true) := by
  have h := clone_fn (s := viewV b d 2 n 254 tDa (by omega)) (T := tDa) (by rw [viewV_list, List.length_take]; omega)
  rw [viewV_val (by omega), viewV_hp, viewV_list] at h
  exact h
theorem equal_fn {s t : Sl By} {T U : TypeId} : Does Tryz.prog 64 [s.val, t.val] (s.hp T ++ (t.hp U ++ [])) (Is (.bool (decide (s.list = t.list))) (s.hp T ++ (t.hp U ++ []))) := by
  refine fn_enter (n := 10) Tryz.func64 Tryz.ntmps64 rfl (Nat.le_of_ble_eq_true rfl) <| s_seq <| s_region0 fun ops => oA rfl <| o_nil <| n_K <| s_seq <| s_region0 fun ops => oM rfl ?_
  refine oR (rd_bytesStr (T := T) rfl (PickL.toSub pL)) ?_
  refine oM rfl ?_
  refine oR (rd_bytesStr (T := U) rfl (PickL.toSub pL)) ?_
  refine oR (rd_eqStr rfl rfl) <| oA rfl <| o_nil <| n_K <| s_ret ?_
  refine leaf_is (rets1 Tryz.results64 (rv_tmp rfl)) ?_ sP
  rfl
theorem equal_v {b c : Nat} {p : Pg} {d : Dat} : Does Tryz.prog 64 [.slice (some ⟨b, 0, none⟩) 256 258, .slice (some ⟨c, 0, none⟩) 256 256] [(b, true, C (vbc p) tPg), (c, true, C (vbc d) tDa)] (Is (.bool (decide (p.toList.take 256 = d.toList))) [(b, true, C (vbc p) tPg), (c, true, C (vbc d) tDa)]) := by
  have h := equal_fn (s := viewV b p 0 256 258 tPg (by omega)) (t := viewV c d 0 256 256 tDa (by omega)) (T := tPg) (U := tDa)
  rw [viewV_val (by omega), viewV_val (by omega), viewV_hp, viewV_hp, viewV_list, viewV_list, List.drop_zero, List.drop_zero, List.take_of_length_le (l := d.toList) (by simp)] at h
  exact h
theorem write_one {b : Nat} {kind : By} {s : Sl By} (hl : s.list.length ≤ 70000000000000) : Does Tryz.prog 24 [bv kind, .slice (some ⟨b, 0, none⟩) 1 1] ((b, true, C [s.val] tSB) :: (s.hp tU8 ++ []))
    (Is (.tuple #[.agg (vbc (writeF kind s.list).1).toArray, .int .i64 (writeF kind s.list).2]) ((b, true, C [s.val] tSB) :: (s.hp tU8 ++ []))) := by
  have e2 : (Sl.own b [s] 1 [] ⟨by simp, Nat.le_refl _, by simp⟩ : Sl (Sl By)).list = [s] := rfl
  have e3 : joinB [s] = s.list := by simp [joinB]
  have h := write_page (kind := kind) (q := .own b [s] 1 [] ⟨by simp, Nat.le_refl _, by simp⟩) (by rw [e2, e3]; exact hl)
  have e := one_parts (b := b) (s := s) (L := [])
  rw [e2, ← e, e3] at h
  exact h
theorem write_nil {b : Nat} {kind : By} : Does Tryz.prog 24 [bv kind, .slice (some ⟨b, 0, none⟩) 1 1] [(b, true, C [.slice none 0 0] tSB)]
    (Is (.tuple #[.agg (vbc (writeF kind []).1).toArray, .int .i64 (writeF kind []).2]) [(b, true, C [.slice none 0 0] tSB)]) := by
  have h := write_one (b := b) (kind := kind) (s := .nil) (by decide)
  rw [Sl.hp_nil] at h
  exact h
theorem sliceD {E : Env} {H : Hp} {x lo hi : Operand} {b n : Nat} (hx : ev E x = some (.pointer (some ⟨b, 0, none⟩))) (hlo : ev E lo = some (.int .i64 2)) (hhi : ev E hi = some (.int .i64 ((2 + n : Nat) : Int))) (hn : n ≤ 240) :
    Rd Tryz.prog E H (.slice tDa x (some lo) (some hi) none) (.slice (some ⟨b, 2, none⟩) n 254) := by
  have := rd_sliceA (P := Tryz.prog) (H := H) (t := tDa) (i := 2) (j := 2 + n) hx (lo := some lo) (hi := some hi) ⟨_, hlo⟩ ⟨_, hhi⟩ (by omega)
  rwa [show 2 + n - 2 = n by omega] at this
theorem fread_fn {p : Pg} : Does Tryz.prog 38 [.agg (vbc p).toArray] [] (fun v H => ∃ s : Sl By, v = .tuple #[bv (readF p).1, s.val, .int .i64 (readF p).2.2.1, .int .i64 (readF p).2.2.2] ∧ H = s.hp tU8 ++ [] ∧ s.list = (readF p).2.1 ∧ s.isOwn = true) := by
  have hck := chkOf_lt p
  have hfl := fixN_le (datOf p) (chkOf p)
  have hpn := popN_le (chkOf p &&& 57344)
  have hck2 : chkOf p &&& 57344 < 65536 := Nat.lt_of_le_of_lt Nat.and_le_left hck
  refine fn_enter (n := 71) Tryz.func38 Tryz.ntmps38 rfl (Nat.le_of_ble_eq_true rfl) <| s_seq <| s_region0 fun ops => ?_
  refine o_boxA rfl rfl fun b1 => ?_
  refine oA rfl <| oA rfl <| oA rfl <| oA rfl <| o_nil <| n_K <| s_seq <| s_seq <| s_region0 fun ops => ?_
  refine oR (rd_ldA rfl mM (by first | exact cut_vb | rfl)) ?_
  refine c_is rfl (blankp_fn) sP rfl aQ ?_
  refine o_nil <| n_K ?_
  refine s_cond rfl (fun c14 => ?_) (fun c14 => ?_)
  · skip
    have hres := readF_blank c14
    refine s_seq <| s_region0 fun ops => oA rfl <| oA rfl <| oA rfl <| oA rfl <| o_nil <| n_K <| s_ret <| r_K ?_
    exact leaf_r (rets4 Tryz.results38 (rv_tmp rfl) (rv_tmp rfl) (rv_tmp rfl) (rv_tmp rfl)) (by refine ⟨Sl.nil, ?_, rfl, ?_, rfl⟩ <;> rw [hres] <;> rfl) (by rw [Sl.hp_nil]; exact sP)
  · skip
    have hb : blankB p = false := c14
    refine s_skip <| n_K <| s_seq <| s_region0 fun ops => ?_
    refine oR (rd_sliceA (i := 256) (j := 258) rfl ⟨_, rfl⟩ rfl (by omega)) ?_
    refine c_ex rfl (newReader_v) sP rfl fun v16 Y16 h16 => ?_
    obtain ⟨r16, rfl, rfl, hr16, hbad16⟩ := h16
    refine so_ap aQ ?_
    refine c_ex rfl (rnum_fn (n := 2) (by rw [hr16, List.length_take]; omega)) sP rfl fun v17 Y17 h17 => ?_
    obtain ⟨x17, sl17, bad17, rfl, rfl, hx17, hsl17, hbb17⟩ := h17
    refine so_ap aQ ?_
    refine oR (show Rd _ _ _ _ (.int .u16 ((chkOf p : Nat) : Int)) from by (rw [hr16, show clampN 2 8 = 2 from rfl] at hx17; unfold rdNum at hx17; rw [if_neg (by rw [List.length_take, List.length_drop, Vector.length_toList]; decide)] at hx17; rw [chkOf, ← show x17 = valUp ((p.toList.drop 256).take 2) 2 from by (rw [hx17]; simp only; rw [List.take_of_length_le (l := (p.toList.drop 256).take 2) (by rw [List.length_take]; omega)])]; exact rd_via (conv_16 _) rfl)) ?_
    refine oA rfl <| o_nil <| n_K <| s_seq <| s_region0 fun ops => oM rfl ?_
    refine oR (show Rd _ _ _ _ (.int .u16 ((chkOf p &&& 57344 : Nat) : Int)) from by (rw [← andNot16 hck]; exact rd_bin rfl rfl rfl)) ?_
    refine c_is rfl (ones16_fn hck2) sP rfl aQ ?_
    refine oA rfl <| o_nil <| n_K <| s_seq <| s_seq <| s_region0 fun ops => oM rfl <| oR (rd_bin rfl rfl rfl) <| o_nil <| n_K ?_
    refine s_cond rfl (fun c23 => ?_) (fun c23 => ?_)
    · simp only [decide_eq_true_eq, decide_eq_false_iff_not] at c23
      have hres := readF_above hb (by omega)
      refine s_seq <| s_region0 fun ops => oA rfl <| oA rfl <| oA rfl <| oA rfl <| o_nil <| n_K <| s_ret <| r_K ?_
      exact leaf_r (rets4 Tryz.results38 (rv_tmp rfl) (rv_tmp rfl) (rv_tmp rfl) (rv_tmp rfl)) (by refine ⟨Sl.nil, ?_, rfl, ?_, rfl⟩ <;> rw [hres] <;> rfl) (by rw [Sl.hp_nil]; exact sP)
    · simp only [decide_eq_true_eq, decide_eq_false_iff_not] at c23
      have hab : ¬ 1 < popN (chkOf p &&& 57344) := (by omega)
      obtain ⟨f, hf⟩ : ∃ f, hamFix (datOf p) (chkOf p) = f := ⟨_, rfl⟩
      rw [hf] at hfl
      refine s_skip <| n_K <| s_seq <| s_region0 fun ops => ?_
      refine oR (rd_sliceA (i := 0) (j := 256) rfl rfl ⟨_, rfl⟩ (by omega)) ?_
      refine oR (rd_s2a rfl (by decide)) ?_
      refine oR (rd_ldA rfl mM (cut_dat p)) ?_
      refine oM rfl ?_
      refine c_is rfl ((fix_fn (d := datOf p) hck).to (by rw [hf]) rfl) sP rfl aQ ?_
      refine oM rfl <| oE rfl rfl <| oE rfl rfl <| oE rfl rfl ?_
      refine o_alloc rfl fun b8 => ?_
      first | refine o_store rfl rfl uD (vc_vb) (vbc_len) (spl_vb (by first | exact vbc_len | exact List.length_replicate ..)) ?_ | refine o_store rfl rfl uD rfl rfl rfl ?_
      refine oA rfl <| oA rfl <| o_nil <| n_K <| s_seq <| s_seq <| s_region0 fun ops => oM rfl <| oR (rd_bin rfl rfl rfl) <| o_nil <| n_K ?_
      refine s_cond rfl (fun c34 => ?_) (fun c34 => ?_)
      · skip
        have hres := readF_fix hb hab (by rw [hf]; simpa using c34)
        rw [hf] at hres
        refine s_seq <| s_region0 fun ops => oM rfl <| oA rfl <| oA rfl <| oA rfl <| oA rfl <| o_nil <| n_K <| s_ret <| r_K ?_
        exact leaf_r (rets4 Tryz.results38 (rv_tmp rfl) (rv_tmp rfl) (rv_tmp rfl) (rv_tmp rfl)) (by refine ⟨Sl.nil, ?_, rfl, ?_, rfl⟩ <;> rw [hres] <;> rfl) (by rw [Sl.hp_nil]; exact sP)
      · skip
        have he : f.2.2 = 0 := (by simpa using c34)
        have hd1 := f.1[1].isLt
        refine s_skip <| n_K <| s_seq <| s_region0 fun ops => ?_
        refine oR (rd_ixA rfl rfl (by omega)) ?_
        refine oR (rd_ld rfl mM (show nth (vbc f.1) 1 = some (bv f.1[1]) from nth_vb (by decide))) ?_
        refine oR (show Rd _ _ _ _ (.int .i64 ((f.1[1].toNat : Nat) : Int)) from rd_convN rfl (wrapN_i (by omega))) ?_
        refine oA rfl <| o_nil <| n_K <| s_seq <| s_seq <| s_region0 fun ops => oM rfl <| oR (rd_bin rfl rfl rfl) <| o_nil <| n_K ?_
        refine s_cond rfl (fun c40 => ?_) (fun c40 => ?_)
        · simp only [decide_eq_true_eq, decide_eq_false_iff_not] at c40
          have hbody : bodyOf f.1 = (f.1.toList.drop 2).take f.1[1].toNat := (by unfold bodyOf; rw [if_pos (by omega)])
          refine s_region0 fun ops => oM rfl ?_
          refine oR (show Rd _ _ _ _ (.int .i64 ((2 + f.1[1].toNat : Nat) : Int)) from rd_addN (a := 2) rfl rfl (by omega)) ?_
          refine oR (sliceD rfl rfl rfl (by omega)) ?_
          refine c_ex rfl (clone_v (n := f.1[1].toNat) (by omega)) sP rfl fun v44 Y44 h44 => ?_
          obtain ⟨s44, rfl, rfl, hs44, ho44⟩ := h44
          refine so_ap aQ ?_
          refine oA rfl <| o_nil <| n_K <| s_seq <| s_region0 fun ops => ?_
          refine oR (rd_ixA rfl rfl (by omega)) ?_
          refine oR (rd_ld rfl mM (show nth (vbc f.1) 0 = some (bv f.1[0]) from nth_vb (by decide))) ?_
          refine oM rfl ?_
          refine o_bslice_k rfl rfl rfl rfl fun b49 => ?_
          refine c_is rfl ((by first | exact write_one (s := s44) (by rw [hs44, List.length_take]; omega) | exact write_nil)) sP rfl aQ ?_
          refine oM rfl <| oE rfl rfl <| oE rfl rfl ?_
          refine o_alloc rfl fun b12 => ?_
          first | refine o_store rfl rfl uD (vc_vb) (vbc_len) (spl_vb (by first | exact vbc_len | exact List.length_replicate ..)) ?_ | refine o_store rfl rfl uD rfl rfl rfl ?_
          refine oA rfl <| o_nil <| n_K <| s_seq <| s_seq ?_
          refine s_draw [(2, 55), (6, 59)] [(6, [(0, false), (1, false), (2, false), (3, false), (4, false), (5, false)]), (12, [(6, false), (7, false), (8, false), (9, true), (10, false), (11, false)])] (by kernel_rfl) rfl fun ops w0 H0 y => ?_
          refine p_all <| xM rfl <| xR (rd_bin rfl rfl rfl) <| xM rfl ?_
          refine' x_or (j := 2) (k := 2) y rfl rfl rfl rfl rfl rfl rfl (fun hg55 => ?_) ?_
          rotate_left
          · try (simp at hg55; show _)
            refine x_g y rfl rfl ?_
            refine xM rfl ?_
            refine x_g y rfl rfl ?_
            refine xR (rd_bin rfl rfl rfl) ?_
            exact x_nil ⟨rfl, ⟨_, sP⟩⟩
          refine x_nil <| p_all <| xM rfl ?_
          refine' x_or (j := 6) (k := 4) y rfl rfl rfl rfl rfl rfl rfl (fun hg59 => ?_) ?_
          rotate_left
          · try (simp at hg59; show _)
            refine x_g y rfl rfl ?_
            refine xR (rd_sliceA (i := 0) (j := 256) rfl rfl ⟨_, rfl⟩ (by omega)) ?_
            refine x_g y rfl rfl ?_
            refine xR (rd_sliceA (i := 0) (j := 256) rfl rfl rfl (by omega)) ?_
            refine x_g y rfl rfl ?_
            refine x_so ?_
            refine c_is rfl (equal_v) sP rfl aQ ?_
            refine o_nil ⟨rfl, ⟨_, sP⟩, ?_⟩
            refine x_g y rfl rfl ?_
            refine xR (rd_not rfl) ?_
            exact x_nil ⟨rfl, ⟨_, sP⟩⟩
          refine x_nil <| p_end <| n_K ?_
          refine s_cond rfl (fun c64 => ?_) (fun c64 => ?_)
          · skip
            refine s_seq <| s_region0 fun ops => oA rfl <| oA rfl <| oA rfl <| oA rfl <| o_nil <| n_K <| s_ret <| r_K ?_
            exact leaf_r (rets4 Tryz.results38 (rv_tmp rfl) (rv_tmp rfl) (rv_tmp rfl) (rv_tmp rfl)) (by have h4 := or3_t c64; rw [hs44, ← hbody] at h4; have hres := readF_bad hf hb hab he (by rcases h4 with h | h | h; exact .inl h; exact .inr (.inl (by omega)); exact .inr (.inr h)); refine ⟨Sl.nil, ?_, rfl, ?_, rfl⟩ <;> rw [hres] <;> rfl) (by rw [Sl.hp_nil]; exact sP)
          · skip
            refine s_skip <| n_K <| s_seq <| s_region0 fun ops => ?_
            refine oR (rd_ixA rfl rfl (by omega)) ?_
            refine oR (rd_ld rfl mM (show nth (vbc f.1) 0 = some (bv f.1[0]) from nth_vb (by decide))) ?_
            refine oM rfl <| oM rfl <| oM rfl ?_
            refine oR (rd_add64 rfl rfl (by omega)) ?_
            refine oA rfl <| oA rfl <| oA rfl <| oA rfl <| o_nil <| n_K <| s_ret ?_
            exact leaf_r (rets4 Tryz.results38 (rv_tmp rfl) (rv_tmp rfl) (rv_tmp rfl) (rv_tmp rfl)) (by have h4 := or3_f c64; rw [hs44, ← hbody] at h4; have hres := readF_ok hf hb hab he (by rintro (h | h | h); exact h h4.1; exact h4.2.1 (by omega); exact h h4.2.2); refine ⟨s44, ?_, rfl, ?_, ho44⟩ <;> rw [hres]; rw [hs44, hbody]) sP
        · simp only [decide_eq_true_eq, decide_eq_false_iff_not] at c40
          have hbody : bodyOf f.1 = [] := (by unfold bodyOf; rw [if_neg (by omega)])
          refine s_skip <| n_K <| s_seq <| s_region0 fun ops => ?_
          refine oR (rd_ixA rfl rfl (by omega)) ?_
          refine oR (rd_ld rfl mM (show nth (vbc f.1) 0 = some (bv f.1[0]) from nth_vb (by decide))) ?_
          refine oM rfl ?_
          refine o_bslice_k rfl rfl rfl rfl fun b49 => ?_
          refine c_is rfl ((by first | exact write_one (s := s44) (by rw [hs44, List.length_take]; omega) | exact write_nil)) sP rfl aQ ?_
          refine oM rfl <| oE rfl rfl <| oE rfl rfl ?_
          refine o_alloc rfl fun b12 => ?_
          first | refine o_store rfl rfl uD (vc_vb) (vbc_len) (spl_vb (by first | exact vbc_len | exact List.length_replicate ..)) ?_ | refine o_store rfl rfl uD rfl rfl rfl ?_
          refine oA rfl <| o_nil <| n_K <| s_seq <| s_seq ?_
          refine s_draw [(2, 55), (6, 59)] [(6, [(0, false), (1, false), (2, false), (3, false), (4, false), (5, false)]), (12, [(6, false), (7, false), (8, false), (9, true), (10, false), (11, false)])] (by kernel_rfl) rfl fun ops w0 H0 y => ?_
          refine p_all <| xM rfl <| xR (rd_bin rfl rfl rfl) <| xM rfl ?_
          refine' x_or (j := 2) (k := 2) y rfl rfl rfl rfl rfl rfl rfl (fun hg55 => ?_) ?_
          rotate_left
          · try (simp at hg55; show _)
            refine x_g y rfl rfl ?_
            refine xM rfl ?_
            refine x_g y rfl rfl ?_
            refine xR (rd_bin rfl rfl rfl) ?_
            exact x_nil ⟨rfl, ⟨_, sP⟩⟩
          refine x_nil <| p_all <| xM rfl ?_
          refine' x_or (j := 6) (k := 4) y rfl rfl rfl rfl rfl rfl rfl (fun hg59 => ?_) ?_
          rotate_left
          · try (simp at hg59; show _)
            refine x_g y rfl rfl ?_
            refine xR (rd_sliceA (i := 0) (j := 256) rfl rfl ⟨_, rfl⟩ (by omega)) ?_
            refine x_g y rfl rfl ?_
            refine xR (rd_sliceA (i := 0) (j := 256) rfl rfl rfl (by omega)) ?_
            refine x_g y rfl rfl ?_
            refine x_so ?_
            refine c_is rfl (equal_v) sP rfl aQ ?_
            refine o_nil ⟨rfl, ⟨_, sP⟩, ?_⟩
            refine x_g y rfl rfl ?_
            refine xR (rd_not rfl) ?_
            exact x_nil ⟨rfl, ⟨_, sP⟩⟩
          refine x_nil <| p_end <| n_K ?_
          refine s_cond rfl (fun c64 => ?_) (fun c64 => ?_)
          · skip
            refine s_seq <| s_region0 fun ops => oA rfl <| oA rfl <| oA rfl <| oA rfl <| o_nil <| n_K <| s_ret <| r_K ?_
            exact leaf_r (rets4 Tryz.results38 (rv_tmp rfl) (rv_tmp rfl) (rv_tmp rfl) (rv_tmp rfl)) (by have hres := readF_bad hf hb hab he (.inr (.inl (by omega))); refine ⟨Sl.nil, ?_, rfl, ?_, rfl⟩ <;> rw [hres] <;> rfl) (by rw [Sl.hp_nil]; exact sP)
          · skip
            refine s_skip <| n_K <| s_seq <| s_region0 fun ops => ?_
            refine oR (rd_ixA rfl rfl (by omega)) ?_
            refine oR (rd_ld rfl mM (show nth (vbc f.1) 0 = some (bv f.1[0]) from nth_vb (by decide))) ?_
            refine oM rfl <| oM rfl <| oM rfl ?_
            refine oR (rd_add64 rfl rfl (by omega)) ?_
            refine oA rfl <| oA rfl <| oA rfl <| oA rfl <| o_nil <| n_K <| s_ret ?_
            exact leaf_r (rets4 Tryz.results38 (rv_tmp rfl) (rv_tmp rfl) (rv_tmp rfl) (rv_tmp rfl)) (by exfalso; have h4 := or3_f c64; exact h4.2.1 (by omega)) sP
end Go.Proofs.YtkfcpjohblddmaaGreat
end
section
/- The plain model of a chip's table. -/
namespace Go.Proofs.YtkfcpjohblddmaaGreat
open Go.K
set_option linter.unusedVariables false
set_option linter.unusedSimpArgs false

def byteI (b : Int) : By := BitVec.ofInt 8 b
def planBody (v : Wd) (blocks : Int) (uses lost : List Int) : List By :=
  numB 8 v ++ (numsB 1 [BitVec.ofInt 64 blocks, BitVec.ofInt 64 (uses.length : Int), BitVec.ofInt 64 (lost.length : Int)] ++ (uses.map byteI ++ (lost.map byteI ++ [])))
def planP (v : Wd) (blocks : Int) (uses lost : List Int) : Pg := (writeF 1 (planBody v blocks uses lost)).1
def intB (b : By) : Int := (b.toNat : Int)
/-- What a record's body tells. -/
def readTB (body : List By) (blocks : Int) : List Int × List Int × Wd × Bool :=
  let a := rdNum 8 body false
  let b := rdNum 1 a.2.1 a.2.2
  if w64 (b.1.toNat : Int) ≠ blocks then ([], [], 0, false) else
  let n := rdNum 1 b.2.1 b.2.2
  let m := rdNum 1 n.2.1 n.2.2
  let u := rdBytes (max (w64 (n.1.toNat : Int)) 0).toNat m.2.1 m.2.2
  let l := rdBytes (max (w64 (m.1.toNat : Int)) 0).toNat u.2.1 u.2.2
  (u.1.map intB, l.1.map intB, a.1, (!l.2.2 && decide ((l.2.1.length : Int) = 0)) && decide (w64 (n.1.toNat : Int) = w64 (w64 (blocks - 2) - 4)))
theorem readTB_no {body : List By} {blocks : Int} {a b : Wd × List By × Bool} (ha : a = rdNum 8 body false) (hb : b = rdNum 1 a.2.1 a.2.2) (h : ¬ w64 (b.1.toNat : Int) = blocks) : readTB body blocks = ([], [], 0, false) := by
  subst hb; subst ha; unfold readTB; simp only []; rw [if_pos h]
theorem readTB_yes {body : List By} {blocks : Int} {a b n m : Wd × List By × Bool} {u l : List By × List By × Bool} (ha : a = rdNum 8 body false) (hb : b = rdNum 1 a.2.1 a.2.2) (h : w64 (b.1.toNat : Int) = blocks)
    (hn : n = rdNum 1 b.2.1 b.2.2) (hm : m = rdNum 1 n.2.1 n.2.2) (hu : u = rdBytes (max (w64 (n.1.toNat : Int)) 0).toNat m.2.1 m.2.2) (hl : l = rdBytes (max (w64 (m.1.toNat : Int)) 0).toNat u.2.1 u.2.2) :
    readTB body blocks = (u.1.map intB, l.1.map intB, a.1, (!l.2.2 && decide ((l.2.1.length : Int) = 0)) && decide (w64 (n.1.toNat : Int) = w64 (w64 (blocks - 2) - 4))) := by
  subst hl; subst hu; subst hm; subst hn; subst hb; subst ha; unfold readTB; simp only []; rw [if_neg (by rw [h]; simp)]
/-- What a page tells, as a plan's: the blocks that are used, the lost ones, the version, whether it is one. -/
def readT (q : Pg) (blocks : Int) : List Int × List Int × Wd × Bool :=
  let f := readF q
  if f.2.2.2 ≠ 0 ∨ f.1 ≠ 1 then ([], [], 0, false) else
  readTB f.2.1 blocks
/-- A table, without where it lies. -/
structure TS where
  uses : List Int
  lost : List Int
  version : Wd
  area : Int
  next : Int
  at' : Int
deriving DecidableEq
/-- Does a page stand as it was written? -/
def standsE (c : Chip) (a i : Int) (q : Pg) : Int := if mayE c a i = 0 ∧ readP c a i ≠ q then 33 else mayE c a i
def stepE (c : Chip) (a i : Int) (q : Pg) : Int := if (progC c a i q).1 = 0 then standsE (progC c a i q).2 a i q else (progC c a i q).1
/-- A page is written into an area, from a place on: the place behind it, the error, the chip. -/
def putGo : Nat → Chip → Int → Int → Pg → Int × Int × Chip
  | 0, c, _, _, _ => (8, 34, c)
  | f + 1, c, a, i, q => if stepE c a i q ≠ 32 ∧ stepE c a i q ≠ 33 then (i + 1, stepE c a i q, (progC c a i q).2) else putGo f (progC c a i q).2 a (i + 1) q
def putC (c : Chip) (a i : Int) (q : Pg) : Int × Int × Chip := putGo (8 - i).toNat c a i q
theorem putC_stop {c : Chip} {a i : Int} {q : Pg} (hi : i < 8) (he : stepE c a i q ≠ 32 ∧ stepE c a i q ≠ 33) : putC c a i q = (i + 1, stepE c a i q, (progC c a i q).2) := by
  unfold putC
  rw [show (8 - i).toNat = (8 - (i + 1)).toNat + 1 by omega, putGo]
  rw [if_pos he]
theorem putC_go {c : Chip} {a i : Int} {q : Pg} (hi : i < 8) (he : ¬ (stepE c a i q ≠ 32 ∧ stepE c a i q ≠ 33)) : putC c a i q = putC (progC c a i q).2 a (i + 1) q := by
  unfold putC
  rw [show (8 - i).toNat = (8 - (i + 1)).toNat + 1 by omega, putGo]
  rw [if_neg he]
theorem putC_end {c : Chip} {a i : Int} {q : Pg} (hi : ¬ i < 8) : putC c a i q = (8, 34, c) := by
  unfold putC
  rw [show (8 - i).toNat = 0 by omega, putGo]
theorem prog_aC (c : Chip) (i j : Int) (d : Pg) : (progC c i j d).2.aC = c.aC := by
  unfold progC
  split
  · split
    · rfl
    · split
      · simp only []
        split
        · rfl
        · split <;> rfl
      · rfl
  · rfl
theorem erase_aC (c : Chip) (i : Int) : (eraseC c i).2.aC = c.aC := by
  unfold eraseC
  split
  · split
    · rfl
    · simp only []
      split
      · rfl
      · split <;> rfl
  · rfl
theorem putGo_aC (a : Int) (q : Pg) : ∀ (f : Nat) (c : Chip) (i : Int), (putGo f c a i q).2.2.aC = c.aC
  | 0, c, i => rfl
  | f + 1, c, i => by
    unfold putGo
    split
    · exact prog_aC c a i q
    · rw [putGo_aC a q f, prog_aC]
theorem putC_aC (c : Chip) (a i : Int) (q : Pg) : (putC c a i q).2.2.aC = c.aC := putGo_aC a q _ c i
theorem putGo_ge (a : Int) (q : Pg) : ∀ (f : Nat) (c : Chip) (i : Int), 0 ≤ i → i + f ≤ 8 → 0 ≤ (putGo f c a i q).1 ∧ (putGo f c a i q).1 ≤ 8
  | 0, c, i, h, _ => ⟨by unfold putGo; simp, by unfold putGo; simp⟩
  | f + 1, c, i, h, h8 => by
    unfold putGo
    split
    · simp only; omega
    · exact putGo_ge a q f _ (i + 1) (by omega) (by omega)
theorem putC_ge (c : Chip) (a i : Int) (q : Pg) (h : 0 ≤ i) : 0 ≤ (putC c a i q).1 ∧ (putC c a i q).1 ≤ 8 := by
  rcases Int.le_total i 8 with h8 | h8
  · exact putGo_ge a q _ c i h (by omega)
  · rw [putC_end (by omega)]; simp
/-- What is known while a plan is kept: the area, the place behind, the error, the chip. -/
structure KS where
  area : Int
  next : Int
  e : Int
  c : Chip
/-- The other area is tried. -/
def keep1 (a : Int) (q : Pg) (s : KS) : KS :=
  let r := eraseC s.c (1 - a)
  if r.1 = 0 then ⟨1 - a, (putC r.2 (1 - a) 0 q).1, (putC r.2 (1 - a) 0 q).2.1, (putC r.2 (1 - a) 0 q).2.2⟩ else if r.1 = 33 then ⟨1 - a, s.next, s.e, r.2⟩ else ⟨1 - a, s.next, r.1, r.2⟩
def keepGo : Nat → Int → Pg → KS → KS
  | 0, _, _, s => s
  | f + 1, a, q, s => if s.e = 34 then keepGo f a q (keep1 a q s) else s
def keepS (t : TS) (uses lost : List Int) (c : Chip) : KS :=
  let q := planP (t.version + 1) c.blocks.length uses lost
  let p := putC c t.area t.next q
  keepGo 4 t.area q ⟨t.area, p.1, p.2.1, p.2.2⟩
/-- A plan is kept: the error, the table, the chip. -/
def keepC (t : TS) (uses lost : List Int) (c : Chip) : Int × TS × Chip :=
  let s := keepS t uses lost c
  if s.e ≠ 0 then (s.e, t, s.c) else (0, ⟨uses, lost, t.version + 1, s.area, s.next, s.next - 1⟩, s.c)
theorem keep1_aC (a : Int) (q : Pg) (s : KS) : (keep1 a q s).c.aC = s.c.aC := by
  unfold keep1
  simp only []
  split
  · rw [putC_aC, erase_aC]
  · split <;> exact erase_aC _ _
theorem keep1_ge {a : Int} {q : Pg} {s : KS} (h : 0 ≤ s.next ∧ s.next ≤ 8) : 0 ≤ (keep1 a q s).next ∧ (keep1 a q s).next ≤ 8 := by
  unfold keep1
  simp only []
  split
  · exact putC_ge _ _ _ _ (Int.le_refl 0)
  · split <;> exact h
/-- What was seen of an area's first pages. -/
structure Sc where
  last : Int
  uses : List Int
  lost : List Int
  newest : Wd
  at' : Int
  any : Bool
def scan1 (c : Chip) (a : Int) (i : Nat) (s : Sc) : Sc :=
  let q := readP c a i
  let last := if blankB q = true then s.last else (i : Int) + 1
  let r := readT q c.blocks.length
  if (r.2.2.2 && (!s.any || decide ((s.newest.toNat : Int) ≤ r.2.2.1.toNat))) = true then ⟨last, r.1, r.2.1, r.2.2.1, i, true⟩ else { s with last := last }
def scanU (c : Chip) (a : Int) : Nat → Sc
  | 0 => ⟨0, [], [], 0, 0, false⟩
  | i + 1 => scan1 c a i (scanU c a i)
def ts0 : TS := ⟨[], [], 0, 0, 0, 0⟩
def open1 (c : Chip) (a : Nat) (t : TS × Bool) : TS × Bool :=
  let s := scanU c a 8
  if (s.any && (!t.2 || decide ((t.1.version.toNat : Int) < s.newest.toNat))) = true then (⟨s.uses, s.lost, s.newest, a, s.last, s.at'⟩, true) else t
def openU (c : Chip) : Nat → TS × Bool
  | 0 => (ts0, false)
  | a + 1 => open1 c a (openU c a)
/-- The table that a chip has: the error, and it. -/
def openC (c : Chip) : Int × TS :=
  if mayE c 0 0 ≠ 0 then (mayE c 0 0, ts0) else if (openU c 2).2 = true then (0, (openU c 2).1) else (35, ts0)
/-- The blocks of a chip that are bad, and those for use. -/
def badB (c : Chip) (b : Int) : Bool := thereB c b && badAt c b
def fmtU (c : Chip) (size : Int) : Nat → List Int × List Int
  | 0 => ([], [])
  | i + 1 =>
    let s := fmtU c size i
    if badB c i = true then (s.1, s.2 ++ [(i : Int)]) else if (decide (2 ≤ (i : Int)) && decide ((s.1.length : Int) < size)) = true then (s.1 ++ [(i : Int)], s.2) else s
/-- What goes on of a table that was there. -/
def fmt0 (c : Chip) : Wd × Int × Int := if (openC c).1 = 0 then ((openC c).2.version, (openC c).2.area, (openC c).2.next) else (0, 0, 0)
def fmtSize (c : Chip) : Int := w64 (w64 ((c.blocks.length : Int) - 2) - 4)
def fmtT (c : Chip) : TS := ⟨(fmtU c (fmtSize c) c.blocks.length).1, (fmtU c (fmtSize c) c.blocks.length).2, (fmt0 c).1, (fmt0 c).2.1, (fmt0 c).2.2, 0⟩
def fmtBad (c : Chip) : Bool := (badB c 0 || badB c 1) || decide (((fmtT c).uses.length : Int) < fmtSize c)
/-- A chip is given a table: the error, the table, the chip. -/
def formatC (c : Chip) : Int × TS × Chip :=
  if mayE c 0 0 ≠ 0 then (mayE c 0 0, ts0, c) else
  if fmtBad c = true then (34, ts0, c) else
  if (keepC (fmtT c) (fmtT c).uses (fmtT c).lost c).1 ≠ 0 then ((keepC (fmtT c) (fmtT c).uses (fmtT c).lost c).1, ts0, (keepC (fmtT c) (fmtT c).uses (fmtT c).lost c).2.2) else keepC (fmtT c) (fmtT c).uses (fmtT c).lost c
theorem scan_last (c : Chip) (a : Int) : ∀ i, 0 ≤ (scanU c a i).last ∧ (scanU c a i).last ≤ i
  | 0 => by simp [scanU]
  | i + 1 => by
    have ih := scan_last c a i
    show 0 ≤ (scan1 c a i (scanU c a i)).last ∧ _
    have : (scan1 c a i (scanU c a i)).last = if blankB (readP c a i) = true then (scanU c a i).last else (i : Int) + 1 := by unfold scan1; simp only []; split <;> rfl
    show 0 ≤ (scan1 c a i (scanU c a i)).last ∧ (scan1 c a i (scanU c a i)).last ≤ _
    rw [this]
    split <;> omega
theorem openU_range (c : Chip) : ∀ k, k ≤ 2 → (0 ≤ (openU c k).1.area ∧ (openU c k).1.area ≤ 1) ∧ 0 ≤ (openU c k).1.next ∧ (openU c k).1.next ≤ 8
  | 0, _ => by simp [openU, ts0]
  | k + 1, h => by
    have ih := openU_range c k (by omega)
    have hl := scan_last c k 8
    show (0 ≤ (open1 c k (openU c k)).1.area ∧ (open1 c k (openU c k)).1.area ≤ 1) ∧ 0 ≤ (open1 c k (openU c k)).1.next ∧ (open1 c k (openU c k)).1.next ≤ 8
    unfold open1
    simp only []
    split
    · simp only; omega
    · exact ih
theorem fmt0_range (c : Chip) : (0 ≤ (fmt0 c).2.1 ∧ (fmt0 c).2.1 ≤ 1) ∧ 0 ≤ (fmt0 c).2.2 ∧ (fmt0 c).2.2 ≤ 8 := by
  unfold fmt0
  split
  · unfold openC
    split
    · simp [ts0]
    · split
      · exact openU_range c 2 (Nat.le_refl _)
      · simp [ts0]
  · simp
theorem fmtU_len (c : Chip) (size : Int) : ∀ i, (fmtU c size i).1.length ≤ i ∧ (fmtU c size i).2.length ≤ i
  | 0 => by simp [fmtU]
  | i + 1 => by
    have ih := fmtU_len c size i
    unfold fmtU
    simp only []
    split
    · simp; omega
    · split
      · simp; omega
      · omega
/-- Is a block a spare? -/
def spareB (t : TS) (n : Int) (b : Int) : Bool := ((decide (2 ≤ b) && decide (b < n)) && !hasI t.uses b) && !hasI t.lost b
def spareU (t : TS) (n : Nat) : Option Nat := (List.range n).find? fun b => spareB t n b
def atT (t : TS) (l : Int) : Int × Bool := if (decide (l < 0) || decide ((t.uses.length : Int) ≤ l)) = true then (0, false) else (at0 t.uses l, true)
def spareV (t : TS) (n : Nat) : Int × Bool := match spareU t n with | some b => ((b : Int), true) | none => (0, false)
theorem spare_found {t : TS} {n i : Nat} (hi : i < n) (hn : ∀ k < i, spareB t n k = false) (h : spareB t n i = true) : spareV t n = ((i : Int), true) := by
  have : spareU t n = some i := by
    unfold spareU
    rw [List.find?_eq_some_iff_append]
    refine ⟨h, List.range i, (List.range' (i + 1) (n - i - 1)), ?_, fun x hx => by rw [hn x (List.mem_range.1 hx)]; rfl⟩
    apply List.ext_getElem
    · simp; omega
    · intro j h1 h2
      rw [List.getElem_range]
      by_cases hj : j < i
      · rw [List.getElem_append_left (by simpa using hj)]; simp
      · by_cases hj2 : j = i
        · subst hj2; rw [List.getElem_append_right (by simp)]; simp
        · rw [List.getElem_append_right (by simp; omega)]
          simp only [List.length_range]
          rw [List.getElem_cons]
          rw [dif_neg (by omega), List.getElem_range']
          omega
  unfold spareV; rw [this]
theorem spare_none {t : TS} {n : Nat} (hn : ∀ k < n, spareB t n k = false) : spareV t n = (0, false) := by
  have : spareU t n = none := by
    unfold spareU
    rw [List.find?_eq_none]
    intro x hx
    rw [hn x (List.mem_range.1 hx)]; simp
  unfold spareV; rw [this]
theorem may_same {c : Chip} {a i : Int} (hb : 2 ≤ c.blocks.length) (ha : 0 ≤ a ∧ a < 2) (hi : 0 ≤ i ∧ i < 8) : mayE c a i = mayE c 0 0 := by
  have h : ∀ a i : Int, 0 ≤ a ∧ a < 2 → 0 ≤ i ∧ i < 8 → ((!thereB c a || decide (i < 0)) || decide (8 ≤ i)) = false := by
    intro a i ha hi
    have h1 : thereB c a = true := by unfold thereB; simp; omega
    have h2 : ¬ i < 0 := by omega
    have h3 : ¬ 8 ≤ i := by omega
    simp [h1, h2, h3]
  unfold mayE
  rw [h a i ha hi, h 0 0 (by omega) (by omega)]
end Go.Proofs.YtkfcpjohblddmaaGreat
end
section
/- Walks of package bbt: plans, pages, areas. -/
namespace Go.Proofs.YtkfcpjohblddmaaGreat
open Go.K
set_option linter.unusedVariables false
set_option linter.unusedSimpArgs false
instance agg113 : Agg Tryz.prog 113 true := ⟨⟨_, Tryz.underlying113, rfl⟩⟩
instance siz113 : Siz Tryz.prog 113 2 := ⟨by kernel_rfl⟩
instance agg115 : Agg Tryz.prog 115 true := ⟨⟨_, Tryz.underlying115, rfl⟩⟩
instance siz115 : Siz Tryz.prog 115 7 := ⟨by kernel_rfl⟩
instance zer3 : Zer Tryz.prog 3 ([.int .i64 0]) := ⟨by kernel_rfl⟩
instance zer45 : Zer Tryz.prog 45 ([.int .u64 0]) := ⟨by kernel_rfl⟩
instance zer113 : Zer Tryz.prog 113 ([.slice none 0 0, .slice none 0 0]) := ⟨by kernel_rfl⟩
instance fld113_0 : Fld Tryz.prog 113 0 0 := ⟨⟨_, _, 0, Tryz.underlying113, rfl, by kernel_rfl, rfl⟩⟩
instance fld113_1 : Fld Tryz.prog 113 1 1 := ⟨⟨_, _, 0, Tryz.underlying113, rfl, by kernel_rfl, rfl⟩⟩
instance plc113 : Plc Tryz.prog 113 [(0, 1), (1, 1)] := ⟨⟨_, Tryz.underlying113, fun _ => by kernel_rfl⟩⟩
instance byt3 : Byt Tryz.prog 3 8 := ⟨by kernel_rfl⟩
instance ent69 : Ent Tryz.prog 69 := ⟨fun _ _ => by kernel_rfl⟩
instance ent101 : Ent Tryz.prog 101 := ⟨fun _ _ => by kernel_rfl⟩
instance ent131 : Ent Tryz.prog 131 := ⟨fun _ _ => by kernel_rfl⟩
instance ent132 : Ent Tryz.prog 132 := ⟨fun _ _ => by kernel_rfl⟩
instance ent133 : Ent Tryz.prog 133 := ⟨fun _ _ => by kernel_rfl⟩
instance ent134 : Ent Tryz.prog 134 := ⟨fun _ _ => by kernel_rfl⟩
instance ent135 : Ent Tryz.prog 135 := ⟨fun _ _ => by kernel_rfl⟩
instance ent141 : Ent Tryz.prog 141 := ⟨fun _ _ => by kernel_rfl⟩
instance ent147 : Ent Tryz.prog 147 := ⟨fun _ _ => by kernel_rfl⟩

abbrev tPl : TypeId := 113
abbrev tTb : TypeId := 115
theorem answers_fn {c : Chip} : Does Tryz.prog 69 [ptr c.aC] (chH c) (Is (.int .i64 (mayE c 0 0)) (chH c)) := by
  refine fn_enter (n := 11) Tryz.func69 Tryz.ntmps69 rfl (Nat.le_of_ble_eq_true rfl) <| s_seq <| s_region0 fun ops => oA rfl <| o_nil <| n_K <| s_seq <| s_region0 fun ops => oM rfl ?_
  refine c_is rfl (read_fn) sP rfl aQ ?_
  refine oM rfl <| oE rfl rfl <| oE rfl rfl ?_
  refine o_alloc rfl fun b3 => ?_
  first | refine o_store rfl rfl uD (vc_vb) (vbc_len) (spl_vb (by first | exact vbc_len | exact List.length_replicate ..)) ?_ | refine o_store rfl rfl uD rfl rfl rfl ?_
  refine oA rfl <| o_nil <| n_K <| s_seq <| s_region0 fun ops => oM rfl <| oA rfl <| o_nil <| n_K <| s_ret ?_
  refine leaf_is (rets1 Tryz.results69 (rv_tmp rfl)) ?_ sP
  rfl
/-! sorting -/
theorem nan_fn {x : Int} : Does Tryz.prog 147 [.int .i64 x] [] (Is (.bool false) []) := by
  refine fn_enter (n := 6) Tryz.func147 Tryz.ntmps147 rfl (Nat.le_of_ble_eq_true rfl) <| s_seq <| s_region0 fun ops => oA rfl <| o_nil <| n_K <| s_seq <| s_region0 fun ops => oM rfl <| oM rfl <| oR (rd_bin rfl rfl rfl) <| oA rfl <| o_nil <| n_K ?_
  refine s_ret ?_
  refine leaf_is (rets1 Tryz.results147 (rv_tmp rfl)) ?_ sP
  simp
theorem less_fn {x y : Int} : Does Tryz.prog 141 [.int .i64 x, .int .i64 y] [] (Is (.bool (decide (x < y))) []) := by
  refine fn_enter (n := 17) Tryz.func141 Tryz.ntmps141 rfl (Nat.le_of_ble_eq_true rfl) <| s_seq <| s_region0 fun ops => oA rfl <| o_nil <| n_K <| s_seq ?_
  refine s_region [(2, 7), (7, 12)] rfl fun ops y => ?_
  refine oM rfl ?_
  refine c_is rfl (nan_fn) sP rfl aQ ?_
  refine oM rfl ?_
  refine' o_and (j := 2) (k := 3) (u := false) y rfl rfl rfl rfl rfl rfl rfl (fun hg7 => absurd hg7 (by simp)) ?_
  refine oM rfl ?_
  refine' o_or (j := 7) (k := 3) y rfl rfl rfl rfl rfl rfl rfl (fun hg12 => ?_) ?_
  rotate_left
  · try (simp at hg12; show _)
    refine o_g y rfl rfl ?_
    refine oM rfl ?_
    refine o_g y rfl rfl ?_
    refine oM rfl ?_
    refine o_g y rfl rfl ?_
    refine oR (rd_bin rfl rfl rfl) ?_
    exact o_nil ⟨rfl, rfl, ⟨_, sP⟩⟩
  refine oA rfl <| o_nil <| n_K <| s_ret ?_
  refine leaf_is (rets1 Tryz.results141 (rv_tmp rfl)) ?_ sP
  simp
theorem off_own {α : Type} [Cel α] {s : Sl α} (h : s.isOwn = true) : s.off = 0 := by cases s <;> first | rfl | simp [Sl.isOwn] at h
theorem swap_perm {l : List Int} {i j : Nat} {a b : Int} (hi : l[i]? = some a) (hj : l[j]? = some b) : ((l.set i b).set j a).Perm l := by
  obtain ⟨h1, rfl⟩ := List.getElem?_eq_some_iff.1 hi
  obtain ⟨h2, rfl⟩ := List.getElem?_eq_some_iff.1 hj
  exact List.set_set_perm h1 h2
theorem insertion_fn {s : Sl Int} (ho : s.isOwn = true) : Does Tryz.prog 135 [s.val, .int .i64 0, .int .i64 s.list.length] (s.hp tI ++ []) (fun v H => v = .tuple #[] ∧ ∃ s' : Sl Int, H = s'.hp tI ++ [] ∧ s'.val = s.val ∧ s'.isOwn = true ∧ s'.list.Perm s.list) := by
  have hsm := s.small
  refine fn_enter (n := 49) Tryz.func135 Tryz.ntmps135 rfl (Nat.le_of_ble_eq_true rfl) <| s_seq <| s_region0 fun ops => oM rfl ?_
  refine oR (rd_add64 rfl rfl (by omega)) ?_
  refine oA rfl <| o_nil <| n_K <| s_block ?_
  refine s_loop2 [0, 1, 2] kQ (fun (st : Int × Sl Int) => [(6, .int .i64 st.1)]) (fun (st : Int × Sl Int) => (st.2.hp tI ++ [])) (fun (st : Int × Sl Int) => 1 ≤ st.1 ∧ st.2.val = s.val ∧ st.2.isOwn = true ∧ st.2.list.Perm s.list) (fun (st : Int × Sl Int) => ((s.list.length : Int) - st.1).toNat) ((0 + 1, s)) ⟨by show (1 : Int) ≤ 0 + 1; omega, rfl, ho, List.Perm.refl _⟩ kP sP ?_
  rintro ⟨i, s1⟩ ⟨h0, h1, h2, h3⟩
  simp only at h0 h1 h2 h3
  refine s_seq <| s_seq <| s_region0 fun ops => oM rfl <| oM rfl <| oR (rd_bin rfl rfl rfl) <| o_nil <| n_K ?_
  refine s_cond rfl (fun c12 => ?_) (fun c12 => ?_)
  · simp only [decide_eq_true_eq, decide_eq_false_iff_not] at c12
    refine s_skip <| n_K <| s_seq <| s_block <| s_seq <| s_region0 fun ops => oM rfl <| oA rfl <| o_nil <| n_K <| s_block ?_
    refine s_loop2 [0, 1, 2, 6] kQ (fun (st : Int × Sl Int) => [(7, .int .i64 st.1)]) (fun (st : Int × Sl Int) => (st.2.hp tI ++ [])) (fun (st : Int × Sl Int) => 0 ≤ st.1 ∧ st.1 ≤ i ∧ st.2.val = s.val ∧ st.2.isOwn = true ∧ st.2.list.Perm s.list) (fun (st : Int × Sl Int) => st.1.toNat) ((i, s1)) ⟨by omega, Int.le_refl _, h1, h2, h3⟩ kP sP ?_
    rintro ⟨j, s2⟩ ⟨k0, k1, k2, k3, k4⟩
    simp only at k0 k1 k2 k3 k4
    have hlen : s2.list.length = s.list.length := k4.length_eq
    have hoff := off_own k3
    refine s_seq <| s_seq ?_
    refine s_draw [(3, 19)] [(3, [(0, false), (1, false), (2, false)]), (15, [(3, false), (4, false), (5, false), (6, false), (7, false), (8, false), (9, false), (10, false), (11, false), (12, false), (13, true), (14, false)])] (by kernel_rfl) rfl fun ops w0 H0 y => ?_
    refine p_all <| xM rfl <| xM rfl <| xR (rd_bin rfl rfl rfl) <| x_nil <| p_all <| xM rfl ?_
    refine' x_and (j := 3) (k := 10) y rfl rfl rfl rfl rfl rfl rfl (fun hg19 => ?_) ?_
    rotate_left
    · try (simp at hg19; show _)
      refine x_g y rfl rfl ?_
      refine xM rfl ?_
      refine x_g y rfl rfl ?_
      refine xM rfl ?_
      refine x_g y rfl rfl ?_
      refine xR (rd_ixSl (s := s2) (by rw [k2]; rfl) rfl ⟨k0, by omega⟩) ?_
      refine x_g y rfl rfl ?_
      refine xR (rd_ldSl (s := s2) (o := 0) rfl pL (at0_get k0 (by omega)) rfl rfl) ?_
      refine x_g y rfl rfl ?_
      refine xM rfl ?_
      refine x_g y rfl rfl ?_
      refine xM rfl ?_
      refine x_g y rfl rfl ?_
      refine xR (rd_sub64 rfl rfl (by omega)) ?_
      refine x_g y rfl rfl ?_
      refine xR (rd_ixSl (s := s2) (by rw [k2]; rfl) rfl ⟨by omega, by omega⟩) ?_
      refine x_g y rfl rfl ?_
      refine xR (rd_ldSl (s := s2) (o := 0) rfl pL (at0_get (i := j - 1) (by omega) (by omega)) rfl rfl) ?_
      refine x_g y rfl rfl ?_
      refine x_so ?_
      refine c_is rfl (less_fn) sP rfl aQ ?_
      refine o_nil ⟨rfl, ⟨_, sP⟩, ?_⟩
      exact x_nil ⟨rfl, ⟨_, sP⟩⟩
    refine x_nil <| p_end <| n_K ?_
    refine s_cond rfl (fun c30 => ?_) (fun c30 => ?_)
    · skip
      have hj : 0 < j := (by simp at c30; exact c30.1)
      have ga := at0_get (xs := s2.list) k0 (by omega)
      have gb := at0_get (xs := s2.list) (i := j - 1) (by omega) (by omega)
      obtain ⟨s3, hs3⟩ : ∃ s3, s3 = s2.set j.toNat (at0 s2.list (j - 1)) := ⟨_, rfl⟩
      have q1 : s3.val = s.val := (by rw [hs3, Sl.set_val, k2])
      have q2 : s3.list = s2.list.set j.toNat (at0 s2.list (j - 1)) := (by rw [hs3, Sl.set_list _ _ _ k3])
      have q3 : s3.isOwn = true := (by rw [hs3]; exact Sl.set_isOwn _ _ _ k3)
      have q4 : s3.list[(j - 1).toNat]? = some (at0 s2.list (j - 1)) := (by rw [q2, List.getElem?_set_ne (by omega)]; exact gb)
      refine s_skip <| n_K <| s_seq <| s_block ?_
      refine s_drawM [] [0, 1, 2, 3, 4, 5, 6, 7, 8, 10, 11, 12] [[(9, false), (13, false)], [(14, false)], [(15, true)], [(16, false)], [(17, true)]] (by kernel_rfl) rfl rfl fun ops w0 H0 y => ?_
      unfold SPre
      refine xM rfl <| xM rfl <| xM rfl <| xM rfl ?_
      refine xR (rd_sub64 rfl rfl (by omega)) ?_
      refine xM rfl <| xM rfl ?_
      refine xR (rd_sub64 rfl rfl (by omega)) ?_
      refine xR (rd_ixSl (s := s2) (by rw [k2]; rfl) rfl ⟨by omega, by omega⟩) ?_
      refine xM rfl <| xM rfl ?_
      refine xR (rd_ixSl (s := s2) (by rw [k2]; rfl) rfl ⟨by omega, by omega⟩) ?_
      refine x_nil <| p_all ?_
      refine xR (rd_ldSl (s := s2) (o := 0) rfl pL gb rfl rfl) ?_
      refine xR (rd_ldSl (s := s2) (o := 0) rfl pL ga rfl rfl) ?_
      refine x_nil <| p_all ?_
      refine xR (rd_ixSl (s := s2) (by rw [k2]; rfl) rfl ⟨by omega, by omega⟩) ?_
      refine x_nil <| p_none <| x_so ?_
      first | (refine o_storeSl (s := s2) (o := 0) (z' := at0 s2.list (j - 1)) rfl rfl uL k3 ga rfl rfl rfl (by rw [hoff]; exact Nat.zero_add _) ?_; rw [← hs3]) | refine o_storeSl (s := s3) (o := 0) (z' := at0 s2.list j) rfl rfl uL q3 q4 rfl rfl rfl (by rw [off_own q3]; exact Nat.zero_add _) ?_
      refine o_nil ⟨rfl, ⟨_, sP⟩, ?_⟩
      refine x_nil <| p_all ?_
      refine xR (rd_ixSl (s := s3) (by rw [q1]; rfl) rfl ⟨by omega, by rw [q2, List.length_set]; omega⟩) ?_
      refine x_nil <| p_none <| x_so ?_
      first | (refine o_storeSl (s := s2) (o := 0) (z' := at0 s2.list (j - 1)) rfl rfl uL k3 ga rfl rfl rfl (by rw [hoff]; exact Nat.zero_add _) ?_; rw [← hs3]) | refine o_storeSl (s := s3) (o := 0) (z' := at0 s2.list j) rfl rfl uL q3 q4 rfl rfl rfl (by rw [off_own q3]; exact Nat.zero_add _) ?_
      refine o_nil ⟨rfl, ⟨_, sP⟩, ?_⟩
      refine x_nil <| p_end <| n_blk <| n_K <| s_region0 fun ops => oM rfl ?_
      refine oR (rd_sub64 rfl rfl (by omega)) ?_
      refine oA rfl <| o_nil <| n_K ?_
      exact ⟨(j - 1, s3.set (j - 1).toNat (at0 s2.list j)), ⟨by simp only; omega, by simp only; omega, by rw [Sl.set_val, q1], Sl.set_isOwn _ _ _ q3, by simp only; rw [Sl.set_list _ _ _ q3, q2]; exact (swap_perm ga gb).trans k4⟩, (by simp only; omega), lZ⟩
    · skip
      refine s_exit <| x_K <| x_K <| x_blk <| n_blk <| n_K <| s_region0 fun ops => oM rfl ?_
      refine oR (rd_add64 rfl rfl (by omega)) ?_
      refine oA rfl <| o_nil <| n_K ?_
      exact ⟨(i + 1, s2), ⟨by simp only; omega, k2, k3, k4⟩, (by simp only; omega), lZ⟩
  · simp only [decide_eq_true_eq, decide_eq_false_iff_not] at c12
    refine s_exit <| x_K <| x_K <| x_blk ?_
    exact leaf_rN (ret0 Tryz.results135) (by exact ⟨rfl, s1, rfl, h1, h2, h3⟩) sP
theorem pdq_fn {s : Sl Int} {x : Int} (ho : s.isOwn = true) (hn : s.list.length ≤ 12) : Does Tryz.prog 134 [s.val, .int .i64 0, .int .i64 s.list.length, .int .i64 x] (s.hp tI ++ []) (fun v H => v = .tuple #[] ∧ ∃ s' : Sl Int, H = s'.hp tI ++ [] ∧ s'.val = s.val ∧ s'.isOwn = true ∧ s'.list.Perm s.list) := by
  refine fn_enter (n := 134) Tryz.func134 Tryz.ntmps134 rfl (Nat.le_of_ble_eq_true rfl) <| s_seq <| s_region0 fun ops => oA rfl <| o_nil <| n_K <| s_seq <| s_region0 fun ops => oA rfl <| o_nil <| n_K <| s_block ?_
  refine s_loop2E [0, 1, 2, 3] kQ (fun (_u : Unit) => []) (fun (_u : Unit) => True) (fun (_u : Unit) => 0) (()) (by first | trivial | omega | simp) kP ?_
  rintro _ _
  refine s_block <| s_seq <| s_region0 fun ops => oM rfl <| oM rfl ?_
  refine oR (rd_sub64 rfl rfl (by omega)) ?_
  refine oA rfl <| o_nil <| n_K <| s_seq <| s_seq <| s_region0 fun ops => oM rfl <| oR (rd_bin rfl rfl rfl) <| o_nil <| n_K ?_
  refine s_cond rfl (fun c23 => ?_) (fun c23 => ?_)
  · simp only [decide_eq_true_eq, decide_eq_false_iff_not] at c23
    refine s_seq <| s_region0 fun ops => oM rfl <| oM rfl <| oM rfl ?_
    refine c_ex rfl (insertion_fn ho) sP rfl fun v27 Y27 h27 => ?_
    obtain ⟨rfl, s27, rfl, hv27, ho27, hp27⟩ := h27
    refine so_ap aQ ?_
    refine o_nil <| n_K <| s_ret <| r_K <| r_blk <| r_K <| r_blk ?_
    exact leaf_r (ret0 Tryz.results134) (by exact ⟨rfl, s27, rfl, hv27, ho27, hp27⟩) sP
  · simp only [decide_eq_true_eq, decide_eq_false_iff_not] at c23
    omega
theorem sort_fn {s : Sl Int} (ho : s.isOwn = true) (hn : s.list.length ≤ 12) : Does Tryz.prog 132 [s.val] (s.hp tI ++ []) (fun v H => v = .tuple #[] ∧ ∃ s' : Sl Int, H = s'.hp tI ++ [] ∧ s'.val = s.val ∧ s'.isOwn = true ∧ s'.list.Perm s.list) := by
  refine fn_enter (n := 11) Tryz.func132 Tryz.ntmps132 rfl (Nat.le_of_ble_eq_true rfl) <| s_seq <| s_region0 fun ops => oM rfl <| oR (rd_lenS rfl) <| oA rfl <| o_nil <| n_K <| s_region0 fun ops => oM rfl <| oM rfl <| oM rfl ?_
  refine oR (rd_convN rfl (wrapN_u .u64 rfl (by show _ < 2 ^ 64; omega))) ?_
  refine c_is rfl (len_fn (n := s.list.length) (by omega)) sP rfl aQ ?_
  refine c_ex rfl (pdq_fn ho hn) sP rfl fun v10 Y10 h10 => ?_
  obtain ⟨rfl, s10, rfl, hv10, ho10, hp10⟩ := h10
  refine so_ap aQ ?_
  refine o_nil ?_
  exact leaf_rN (ret0 Tryz.results132) (by exact ⟨rfl, s10, rfl, hv10, ho10, hp10⟩) sP
theorem clonei_fn {s : Sl Int} {T : TypeId} (hs : s.list.length ≤ 1000) : Does Tryz.prog 133 [s.val] (s.hp T ++ []) (fun v H => ∃ s' : Sl Int, v = s'.val ∧ H = (s'.hp tI ++ (s.hp T ++ [])) ∧ s'.list = s.list ∧ s'.isOwn = true) := by
  refine fn_enter (n := 8) Tryz.func133 Tryz.ntmps133 rfl (Nat.le_of_ble_eq_true rfl) <| s_seq <| s_region0 fun ops => oA rfl <| o_nil <| n_K <| s_seq <| s_seq <| s_region0 fun ops => oM rfl <| oR (rd_eqNilS rfl rfl) <| o_nil <| n_K ?_
  refine s_cond rfl (fun c4 => ?_) (fun c4 => ?_)
  · skip
    have hn := Sl.nil_of s c4
    subst hn
    refine s_seq <| s_region0 fun ops => oA rfl <| o_nil <| n_K <| s_ret <| r_K ?_
    exact leaf_r (rets1 Tryz.results133 (rv_tmp rfl)) (by refine ⟨Sl.nil, rfl, rfl, rfl, rfl⟩) (by simp only [Sl.hp_nil, List.nil_append]; exact Split.nil)
  · skip
    refine s_skip <| n_K <| s_seq <| s_region0 fun ops => ?_
    refine o_bslice_k rfl rfl rfl rfl fun b5 => ?_
    refine so_eq (own0 (α := Int) (b := b5) (T := tI)) ?_
    refine oM rfl ?_
    refine o_append_sl (s := mt Int b5) (new := s.list) (m := s.list.length) rfl rfl pL rfl (src_sl pL) rfl rfl rfl rfl (by rw [show (mt Int b5).list.length = 0 from rfl]; omega) rfl fun s' hs1 hs2 => ?_
    refine oA rfl <| o_nil <| n_K <| s_ret ?_
    exact leaf_r (rets1 Tryz.results133 (rv_tmp rfl)) (by exact ⟨s', rfl, rfl, by rw [hs1]; rfl, hs2⟩) sP
theorem copied_fn {u l : Sl Int} (hu : u.list.length ≤ 1000) (hl : l.list.length ≤ 1000) : Does Tryz.prog 131 [.agg #[u.val, l.val]] (u.hp tI ++ (l.hp tI ++ [])) (fun v H => ∃ u' l' : Sl Int, v = .agg #[u'.val, l'.val] ∧ H = u'.hp tI ++ (l'.hp tI ++ (u.hp tI ++ (l.hp tI ++ []))) ∧ u'.list = u.list ∧ l'.list = l.list ∧ u'.isOwn = true ∧ l'.isOwn = true) := by
  refine fn_enter (n := 10) Tryz.func131 Tryz.ntmps131 rfl (Nat.le_of_ble_eq_true rfl) <| s_seq <| s_region0 fun ops => ?_
  refine o_box rfl rfl fun b1 => ?_
  refine o_alloc rfl fun b2 => ?_
  refine o_nil <| n_K <| s_seq ?_
  refine s_draw [] [(5, [(0, false), (1, false), (3, false), (4, false), (2, true)]), (6, [(5, true)]), (7, [(6, false)]), (8, [(7, true)])] (by kernel_rfl) rfl fun ops w0 H0 y => ?_
  refine p_all <| xF rfl ?_
  refine xR (rd_ld rfl mM rfl) ?_
  refine xF rfl ?_
  refine xR (rd_ld rfl mM rfl) ?_
  refine x_so ?_
  refine c_ex rfl (clonei_fn hu) sP rfl fun v5 Y5 h5 => ?_
  obtain ⟨s5, rfl, rfl, hs5, ho5⟩ := h5
  refine so_ap aQ ?_
  refine o_nil ⟨rfl, ⟨_, sP⟩, ?_⟩
  refine x_nil <| p_none <| x_so ?_
  refine c_ex rfl (clonei_fn hl) sP rfl fun v8 Y8 h8 => ?_
  obtain ⟨s8, rfl, rfl, hs8, ho8⟩ := h8
  refine so_ap aQ ?_
  refine o_nil ⟨rfl, ⟨_, sP⟩, ?_⟩
  refine x_nil <| p_all <| xR (rd_build_s rfl rfl) <| x_nil <| p_none <| x_so ?_
  refine o_store rfl rfl uD rfl rfl rfl ?_
  refine o_nil ⟨rfl, ⟨_, sP⟩, ?_⟩
  refine x_nil <| p_end <| n_K <| s_ret ?_
  exact leaf_r (rets1 Tryz.results131 (rv_cell rfl mM rfl)) (by exact ⟨s5, s8, rfl, rfl, hs5, hs8, ho5, ho8⟩) sP
/-! pages of plans -/
theorem conv_iu8 (i : Int) : IntKind.u8.wrap i = ((byteI i).toNat : Int) := wrap_u .u8 rfl i
theorem conv_iu64 (i : Int) : IntKind.u64.wrap i = ((BitVec.ofInt 64 i).toNat : Int) := wrap_u .u64 rfl i
theorem write_four {b : Nat} {kind : By} {s1 s2 s3 s4 : Sl By} (hl : s1.list.length + s2.list.length + s3.list.length + s4.list.length ≤ 70000000000000) : Does Tryz.prog 24 [bv kind, .slice (some ⟨b, 0, none⟩) 4 4] ((b, true, C [s1.val, s2.val, s3.val, s4.val] tSB) :: (s1.hp tU8 ++ (s2.hp tU8 ++ (s3.hp tU8 ++ (s4.hp tU8 ++ [])))))
    (Is (.tuple #[.agg (vbc (writeF kind (s1.list ++ (s2.list ++ (s3.list ++ (s4.list ++ []))))).1).toArray, .int .i64 (writeF kind (s1.list ++ (s2.list ++ (s3.list ++ (s4.list ++ []))))).2]) ((b, true, C [s1.val, s2.val, s3.val, s4.val] tSB) :: (s1.hp tU8 ++ (s2.hp tU8 ++ (s3.hp tU8 ++ (s4.hp tU8 ++ [])))))) := by
  have e2 : (Sl.own b [s1, s2, s3, s4] 4 [] ⟨by simp, Nat.le_refl _, by simp⟩ : Sl (Sl By)).list = [s1, s2, s3, s4] := rfl
  have e3 : joinB [s1, s2, s3, s4] = s1.list ++ (s2.list ++ (s3.list ++ (s4.list ++ []))) := by simp [joinB]
  have h := write_page (kind := kind) (q := .own b [s1, s2, s3, s4] 4 [] ⟨by simp, Nat.le_refl _, by simp⟩) (by rw [e2, e3]; simp only [List.length_append, List.length_nil]; omega)
  rw [e2, e3] at h
  have e : (Sl.own b [s1, s2, s3, s4] 4 [] ⟨by simp, Nat.le_refl _, by simp⟩ : Sl (Sl By)).hp tSB ++ (partsH [s1, s2, s3, s4] ++ []) = ((b, true, C [s1.val, s2.val, s3.val, s4.val] tSB) :: (s1.hp tU8 ++ (s2.hp tU8 ++ (s3.hp tU8 ++ (s4.hp tU8 ++ []))))) := by
    rw [Sl.hp_own, partsH_cons, partsH_cons, partsH_cons, partsH_cons, partsH_nil]
    simp only [List.append_assoc, List.nil_append, List.append_nil]
    rfl
  rw [e] at h
  exact h
theorem map_take {α β : Type} {f : α → β} {xs : List α} {i : Nat} {x : α} (h : xs[i]? = some x) : (xs.take (i + 1)).map f = (xs.take i).map f ++ [f x] := by
  rw [List.take_add_one, h]; simp
theorem numsP_fn {b : Nat} {x y z : Wd} : Does Tryz.prog 125 [.int .i64 1, .slice (some ⟨b, 0, none⟩) 3 3] [(b, true, C [wv x, wv y, wv z] tU64)] (fun v H => ∃ s : Sl By, v = s.val ∧ H = (s.hp tU8 ++ [(b, true, C [wv x, wv y, wv z] tU64)]) ∧ s.list = numsB 1 [x, y, z] ∧ s.isOwn = true) := by
  have h := nums_fn (n := 1) (xs := (Sl.own b [x, y, z] 3 [] ⟨by simp, Nat.le_refl _, by simp⟩ : Sl Wd)) (T := tU64) (by show 3 ≤ 1000000; decide)
  have e : (Sl.own b [x, y, z] 3 [] ⟨by simp, Nat.le_refl _, by simp⟩ : Sl Wd).hp tU64 ++ [] = [(b, true, C [wv x, wv y, wv z] tU64)] := by rw [Sl.hp_own]; rfl
  rw [e] at h
  exact h
theorem page_fn {u l : Sl Int} {v : Wd} {n : Int} (hu : u.list.length ≤ 1000) (hl : l.list.length ≤ 1000) : Does Tryz.prog 101 [.agg #[u.val, l.val], wv v, .int .i64 n] (u.hp tI ++ (l.hp tI ++ []))
    (Is (.agg (vbc (planP v n u.list l.list)).toArray) (u.hp tI ++ (l.hp tI ++ []))) := by
  refine fn_enter (n := 63) Tryz.func101 Tryz.ntmps101 rfl (Nat.le_of_ble_eq_true rfl) <| s_seq <| s_region0 fun ops => ?_
  refine o_box rfl rfl fun b3 => ?_
  refine o_alloc rfl fun b6 => ?_
  rw [zeroP_eq]
  refine o_nil <| n_K <| s_seq <| s_region0 fun ops => ?_
  refine o_bslice_k rfl rfl rfl rfl fun b15 => ?_
  refine so_eq (own0 (α := By) (b := b15) (T := tU8)) ?_
  refine o_bslice_k rfl rfl rfl rfl fun b16 => ?_
  refine so_eq (own0 (α := By) (b := b16) (T := tU8)) ?_
  refine oA rfl <| oA rfl <| o_nil <| n_K <| s_seq <| s_seq <| s_region0 fun ops => oF rfl ?_
  refine oR (rd_ld rfl mM rfl) ?_
  refine oR (rd_lenS rfl) <| oM rfl <| o_nil <| n_K <| s_block ?_
  refine s_loop2 [1, 2, 3, 6, 8, 18, 19] kQ (fun (st : Nat × Sl By) => [(20, .int .i64 st.1), (7, st.2.val)]) (fun (st : Nat × Sl By) => (b3, true, C [u.val, l.val] tPl) :: (b6, true, C (vbc zeroP) tPg) :: (st.2.hp tU8 ++ ((mt By b16).hp tU8 ++ (u.hp tI ++ (l.hp tI ++ []))))) (fun (st : Nat × Sl By) => st.1 ≤ u.list.length ∧ st.2.list = (u.list.take st.1).map byteI ∧ st.2.isOwn = true) (fun (st : Nat × Sl By) => u.list.length - st.1) ((0, mt By b15)) ⟨Nat.zero_le _, rfl, rfl⟩ kP sP ?_
  rintro ⟨i, s⟩ ⟨h0, h1, h2⟩
  simp only at h0 h1 h2
  have hsl : s.list.length = i := by rw [h1, List.length_map, List.length_take]; omega
  refine s_seq <| s_region0 fun ops => oR (rd_bin rfl rfl rfl) <| o_nil <| n_K <| s_seq ?_
  refine s_cond rfl (fun c21 => ?_) (fun c21 => ?_)
  · simp only [decide_eq_true_eq, decide_eq_false_iff_not] at c21
    obtain ⟨x, hg⟩ : ∃ x, u.list[i]? = some x := ⟨_, List.getElem?_eq_getElem (by omega)⟩
    refine s_skip <| n_K <| s_seq <| s_block <| s_seq <| s_region0 fun ops => ?_
    refine oR (rd_ixSl rfl rfl (by omega)) ?_
    refine oR (rd_ldSl (o := 0) rfl pL hg rfl rfl) ?_
    refine oA rfl <| o_nil <| n_K <| s_region0 fun ops => oM rfl <| oM rfl ?_
    refine oR (show Rd _ _ _ _ (bv (byteI x)) from rd_via (conv_iu8 x) rfl) ?_
    refine o_bslice_k rfl rfl rfl rfl fun b27 => ?_
    refine o_append_sl (s := s) (new := [byteI x]) (m := 1) rfl rfl pL h2 (src_blk (r := true) mM rfl) rfl rfl rfl rfl (by omega) rfl fun s' hs1 hs2 => ?_
    refine oA rfl <| o_nil <| n_blk <| n_K <| s_region0 fun ops => ?_
    refine oR (rd_add64 rfl rfl (by omega)) ?_
    refine oM rfl <| o_nil <| n_K ?_
    exact ⟨(i + 1, s'), ⟨by simp only; omega, by rw [hs1, h1, map_take hg], hs2⟩, (by simp only; omega), lZ⟩
  · simp only [decide_eq_true_eq, decide_eq_false_iff_not] at c21
    have hall : s.list = u.list.map byteI := by rw [h1, List.take_of_length_le (by omega)]
    refine s_exit <| x_K <| x_K <| x_blk <| n_K <| s_seq <| s_seq <| s_region0 fun ops => oF rfl ?_
    refine oR (rd_ld rfl mM rfl) ?_
    refine oR (rd_lenS rfl) <| oM rfl <| o_nil <| n_K <| s_block ?_
    refine s_loop2 [1, 2, 3, 6, 7, 31, 32] kQ (fun (st : Nat × Sl By) => [(33, .int .i64 st.1), (8, st.2.val)]) (fun (st : Nat × Sl By) => (b3, true, C [u.val, l.val] tPl) :: (b6, true, C (vbc zeroP) tPg) :: (st.2.hp tU8 ++ (s.hp tU8 ++ (u.hp tI ++ (l.hp tI ++ []))))) (fun (st : Nat × Sl By) => st.1 ≤ l.list.length ∧ st.2.list = (l.list.take st.1).map byteI ∧ st.2.isOwn = true) (fun (st : Nat × Sl By) => l.list.length - st.1) ((0, mt By b16)) ⟨Nat.zero_le _, rfl, rfl⟩ kP sP ?_
    rintro ⟨j, q⟩ ⟨k0, k1, k2⟩
    simp only at k0 k1 k2
    have hql : q.list.length = j := by rw [k1, List.length_map, List.length_take]; omega
    refine s_seq <| s_region0 fun ops => oR (rd_bin rfl rfl rfl) <| o_nil <| n_K <| s_seq ?_
    refine s_cond rfl (fun c34 => ?_) (fun c34 => ?_)
    · simp only [decide_eq_true_eq, decide_eq_false_iff_not] at c34
      obtain ⟨x, hg⟩ : ∃ x, l.list[j]? = some x := ⟨_, List.getElem?_eq_getElem (by omega)⟩
      refine s_skip <| n_K <| s_seq <| s_block <| s_seq <| s_region0 fun ops => ?_
      refine oR (rd_ixSl rfl rfl (by omega)) ?_
      refine oR (rd_ldSl (o := 0) rfl pL hg rfl rfl) ?_
      refine oA rfl <| o_nil <| n_K <| s_region0 fun ops => oM rfl <| oM rfl ?_
      refine oR (show Rd _ _ _ _ (bv (byteI x)) from rd_via (conv_iu8 x) rfl) ?_
      refine o_bslice_k rfl rfl rfl rfl fun b40 => ?_
      refine o_append_sl (s := q) (new := [byteI x]) (m := 1) rfl rfl pL k2 (src_blk (r := true) mM rfl) rfl rfl rfl rfl (by omega) rfl fun s' hs1 hs2 => ?_
      refine oA rfl <| o_nil <| n_blk <| n_K <| s_region0 fun ops => ?_
      refine oR (rd_add64 rfl rfl (by omega)) ?_
      refine oM rfl <| o_nil <| n_K ?_
      exact ⟨(j + 1, s'), ⟨by simp only; omega, by rw [hs1, k1, map_take hg], hs2⟩, (by simp only; omega), lZ⟩
    · simp only [decide_eq_true_eq, decide_eq_false_iff_not] at c34
      have hall2 : q.list = l.list.map byteI := by rw [k1, List.take_of_length_le (by omega)]
      have hul : s.list.length = u.list.length := (by rw [hall, List.length_map])
      have hll : q.list.length = l.list.length := (by rw [hall2, List.length_map])
      refine s_exit <| x_K <| x_K <| x_blk <| n_K <| s_seq <| s_region0 fun ops => oM rfl ?_
      refine c_ex rfl (num_fn (x := v)) sP rfl fun v45 Y45 h45 => ?_
      obtain ⟨s45, rfl, rfl, hs45, ho45⟩ := h45
      refine so_ap aQ ?_
      refine oM rfl ?_
      refine oR (show Rd _ _ _ _ (wv (BitVec.ofInt 64 n)) from rd_via (conv_iu64 n) rfl) ?_
      refine oM rfl <| oR (rd_lenS rfl) ?_
      refine oR (show Rd _ _ _ _ (wv (BitVec.ofInt 64 (u.list.length : Int))) from by (rw [← hul]; exact rd_via (conv_iu64 _) rfl)) ?_
      refine oM rfl <| oR (rd_lenS rfl) ?_
      refine oR (show Rd _ _ _ _ (wv (BitVec.ofInt 64 (l.list.length : Int))) from by (rw [← hll]; exact rd_via (conv_iu64 _) rfl)) ?_
      refine o_bslice_k rfl rfl rfl rfl fun b54 => ?_
      refine c_ex rfl (numsP_fn) sP rfl fun v55 Y55 h55 => ?_
      obtain ⟨s55, rfl, rfl, hs55, ho55⟩ := h55
      refine so_ap aQ ?_
      refine oM rfl <| oM rfl ?_
      refine o_bslice_k rfl rfl rfl rfl fun b58 => ?_
      refine c_is rfl ((write_four (kind := 1) (s1 := s45) (s2 := s55) (s3 := s) (s4 := q) (by rw [hs45, hs55, numB_len, numsB_len]; simp only [List.length_cons, List.length_nil]; have : clampN 8 8 = 8 := rfl; omega)).to (by rw [hs45, hs55, hall, hall2]) rfl) sP rfl aQ ?_
      refine oM rfl <| oE rfl rfl <| oE rfl rfl ?_
      refine o_alloc rfl fun b13 => ?_
      rw [zeroP_eq]
      first | refine o_store rfl rfl uD (vc_vb) (vbc_len) (spl_vb (by first | exact vbc_len | exact List.length_replicate ..)) ?_ | refine o_store rfl rfl uD rfl rfl rfl ?_
      refine oA rfl <| o_nil <| n_K <| s_seq <| s_region0 fun ops => ?_
      refine oR (rd_ldA rfl mM (by first | exact cut_vb | rfl)) ?_
      first | refine o_store rfl rfl uD (vc_vb) (vbc_len) (spl_vb (by first | exact vbc_len | exact List.length_replicate ..)) ?_ | refine o_store rfl rfl uD rfl rfl rfl ?_
      refine o_nil <| n_K <| s_ret ?_
      refine leaf_is (rets1 Tryz.results101 (rv_cell rfl mM (by first | exact cut_vb | rfl))) ?_ sP
      rfl
end Go.Proofs.YtkfcpjohblddmaaGreat
end
