/- Walks of packages pack, crc, of bytes. -/
import Derived.Test.YtdfidkhbldedlaaGreatN2
import Derived.Test.YtdfidkhbldedlaaGreatP0
namespace Go.Proofs.YtdfidkhbldedlaaGreat
open Go.K
set_option linter.unusedVariables false
set_option linter.unusedSimpArgs false
instance und103 : Und Tryz.prog 103 (.int .u64) := ⟨Tryz.underlying103⟩
instance agg103 : Agg Tryz.prog 103 false := ⟨⟨_, Tryz.underlying103, rfl⟩⟩
instance siz103 : Siz Tryz.prog 103 1 := ⟨by kernel_rfl⟩
instance und118 : Und Tryz.prog 118 (.slice 5) := ⟨Tryz.underlying118⟩
instance agg118 : Agg Tryz.prog 118 false := ⟨⟨_, Tryz.underlying118, rfl⟩⟩
instance siz118 : Siz Tryz.prog 118 1 := ⟨by kernel_rfl⟩
instance agg158 : Agg Tryz.prog 158 true := ⟨⟨_, Tryz.underlying158, rfl⟩⟩
instance siz158 : Siz Tryz.prog 158 2 := ⟨by kernel_rfl⟩
instance und168 : Und Tryz.prog 168 (.slice 103) := ⟨Tryz.underlying168⟩
instance agg168 : Agg Tryz.prog 168 false := ⟨⟨_, Tryz.underlying168, rfl⟩⟩
instance siz168 : Siz Tryz.prog 168 1 := ⟨by kernel_rfl⟩
instance zer5 : Zer Tryz.prog 5 ([.int .u8 0]) := ⟨by kernel_rfl⟩
instance zer158 : Zer Tryz.prog 158 ([.slice none 0 0, .bool false]) := ⟨by kernel_rfl⟩
instance fld158_0 : Fld Tryz.prog 158 0 0 := ⟨⟨_, _, 0, Tryz.underlying158, rfl, by kernel_rfl, rfl⟩⟩
instance fld158_1 : Fld Tryz.prog 158 1 1 := ⟨⟨_, _, 0, Tryz.underlying158, rfl, by kernel_rfl, rfl⟩⟩
instance plc158 : Plc Tryz.prog 158 [(0, 1), (1, 1)] := ⟨⟨_, Tryz.underlying158, fun _ => by kernel_rfl⟩⟩
instance byt5 : Byt Tryz.prog 5 1 := ⟨by kernel_rfl⟩
instance ent85 : Ent Tryz.prog 85 := ⟨fun _ _ => by kernel_rfl⟩
instance ent86 : Ent Tryz.prog 86 := ⟨fun _ _ => by kernel_rfl⟩
instance ent87 : Ent Tryz.prog 87 := ⟨fun _ _ => by kernel_rfl⟩
instance ent88 : Ent Tryz.prog 88 := ⟨fun _ _ => by kernel_rfl⟩
instance ent89 : Ent Tryz.prog 89 := ⟨fun _ _ => by kernel_rfl⟩
instance ent95 : Ent Tryz.prog 95 := ⟨fun _ _ => by kernel_rfl⟩
instance ent99 : Ent Tryz.prog 99 := ⟨fun _ _ => by kernel_rfl⟩
instance ent106 : Ent Tryz.prog 106 := ⟨fun _ _ => by kernel_rfl⟩
instance ent108 : Ent Tryz.prog 108 := ⟨fun _ _ => by kernel_rfl⟩

abbrev tU8 : TypeId := 5
abbrev tU64 : TypeId := 103
abbrev tSB : TypeId := 118
theorem width_fn {n : Int} : Does Tryz.prog 108 [.int .i64 n] [] (Is (.int .i64 (clampN n 8 : Nat)) []) := by
  refine fn_enter (n := 6) Tryz.func108 Tryz.ntmps108 rfl (Nat.le_of_ble_eq_true rfl) ?_
  refine s_seq ?_
  refine s_region0 (fun ops => ?_)
  refine o_rd (rd_assign rfl) rfl ?_
  refine o_nil ?_
  refine n_K ?_
  refine s_seq ?_
  refine s_region0 (fun ops => ?_)
  refine o_rd (rd_move rfl) rfl ?_
  refine o_rd (rd_max rfl rfl) rfl ?_
  refine o_rd (rd_min rfl rfl) rfl ?_
  refine o_rd (rd_assign rfl) rfl ?_
  refine o_nil ?_
  refine n_K ?_
  refine s_ret ?_
  refine leaf_is (rets1 Tryz.results108 (rv_tmp rfl)) ?_ (by repeat (first | exact Split.nil | (apply Split.cons; next => repeat (first | exact Pick.here | apply Pick.there | apply Pick.app)) | (apply Split.chunk; next => repeat (first | exact PickL.here | exact PickL.last | apply PickL.there | apply PickL.app)) | (apply Split.lst; repeat (first | exact PickL.here | exact PickL.last | apply PickL.there | apply PickL.app))))
  exact congrArg (Value.int .i64) (by unfold clampN; omega)
theorem nil_hp {α : Type} [Cel α] {T : TypeId} {L : Hp} : L = (Sl.nil : Sl α).hp T ++ L := by rw [Sl.hp_nil]; rfl
theorem num_fn {n : Int} {x : Wd} : Does Tryz.prog 95 [.int .i64 n, wv x] [] (fun v H => ∃ s : Sl By, v = s.val ∧ H = (s.hp tU8 ++ []) ∧ s.list = numB (clampN n 8) x ∧ s.isOwn = true) := by
  refine fn_enter (n := 18) Tryz.func95 Tryz.ntmps95 rfl (Nat.le_of_ble_eq_true rfl) ?_
  refine s_seq ?_
  refine s_region0 (fun ops => ?_)
  refine o_rd (rd_assign rfl) rfl ?_
  refine o_nil ?_
  refine n_K ?_
  refine s_seq ?_
  refine s_seq ?_
  refine s_region0 (fun ops => ?_)
  refine o_rd (rd_move rfl) rfl ?_
  refine c_is rfl (width_fn) (by repeat (first | exact Split.nil | (apply Split.cons; next => repeat (first | exact Pick.here | apply Pick.there | apply Pick.app)) | (apply Split.chunk; next => repeat (first | exact PickL.here | exact PickL.last | apply PickL.there | apply PickL.app)) | (apply Split.lst; repeat (first | exact PickL.here | exact PickL.last | apply PickL.there | apply PickL.app)))) rfl (by repeat (first | exact Ap.nil | apply Ap.cons | apply Ap.app | exact Ap.one)) ?_
  refine o_rd (rd_move rfl) rfl ?_
  refine o_nil ?_
  refine n_K ?_
  refine s_block ?_
  have hk : clampN n 8 ≤ 8 := by unfold clampN; omega
  generalize clampN n 8 = k at hk ⊢
  refine sc_eq (nil_hp (α := By) (T := tU8)) ?_
  refine s_loop2 [6] (by repeat' first | exact Keep2.nil | apply Keep2.cons rfl) (fun (st : Nat × Sl By) => [(7, .int .i64 st.1), (4, st.2.val), (1, wv (shrN x st.1))]) (fun (st : Nat × Sl By) => (st.2.hp tU8 ++ [])) (fun (st : Nat × Sl By) => st.1 ≤ k ∧ st.2.list = numB st.1 x ∧ st.2.isOwn = true) (fun (st : Nat × Sl By) => k - st.1) ((0, Sl.nil)) ⟨Nat.zero_le _, rfl, rfl⟩ (by repeat' first | exact Keep.nil | refine Keep.cons rfl ?_) (by repeat (first | exact Split.nil | (apply Split.cons; next => repeat (first | exact Pick.here | apply Pick.there | apply Pick.app)) | (apply Split.chunk; next => repeat (first | exact PickL.here | exact PickL.last | apply PickL.there | apply PickL.app)) | (apply Split.lst; repeat (first | exact PickL.here | exact PickL.last | apply PickL.there | apply PickL.app)))) ?_
  rintro ⟨i, s⟩ ⟨h0, h1, h2⟩
  have hl : s.list.length = i := by rw [h1, numB_len]
  simp only at h0
  refine s_seq ?_
  refine s_region0 (fun ops => ?_)
  refine o_rd (rd_bin rfl rfl rfl) rfl ?_
  refine o_nil ?_
  refine n_K ?_
  refine s_seq ?_
  refine s_cond rfl (fun c8 => ?_) (fun c8 => ?_)
  · try simp at c8
    refine s_skip ?_
    refine n_K ?_
    refine s_seq ?_
    refine s_block ?_
    refine s_seq ?_
    refine s_region0 (fun ops => ?_)
    refine o_rd (rd_move rfl) rfl ?_
    refine o_rd (rd_move rfl) rfl ?_
    refine o_rd (show Rd _ _ _ _ (bv ((shrN x i).setWidth 8)) from by (unfold bv; rw [← conv_u8]; exact rd_convI rfl)) rfl ?_
    refine o_bslice_k rfl rfl rfl rfl (fun b12 => ?_)
    refine o_append_sl (s := s) (new := [(shrN x i).setWidth 8]) (m := 1) rfl rfl (by repeat (first | exact PickL.here | exact PickL.last | apply PickL.there | apply PickL.app)) h2 (src_blk (r := true) (by repeat' first | exact List.Mem.head _ | apply List.Mem.tail | apply List.mem_append_right) rfl) rfl rfl rfl rfl (by omega) rfl (fun s' hs1 hs2 => ?_)
    refine o_rd (rd_assign rfl) rfl ?_
    refine o_nil ?_
    refine n_K ?_
    refine s_region0 (fun ops => ?_)
    refine o_rd (rd_move rfl) rfl ?_
    refine o_rd (show Rd _ _ _ _ (wv (shrN x (i + 1))) from by (unfold wv; exact rd_shr8 rfl rfl)) rfl ?_
    refine o_rd (rd_assign rfl) rfl ?_
    refine o_nil ?_
    refine n_blk ?_
    refine n_K ?_
    refine s_region0 (fun ops => ?_)
    refine o_rd (rd_add64 rfl rfl (by omega)) rfl ?_
    refine o_rd (rd_move rfl) rfl ?_
    refine o_nil ?_
    refine n_K ?_
    exact ⟨(i + 1, s'), ⟨by simp only; omega, by rw [hs1, h1, numB_succ], hs2⟩, (by simp only; omega), (by repeat' first | exact Keep.nil | refine Keep.cons rfl ?_), (by repeat' first | exact Keep.nil | refine Keep.cons rfl ?_), _, (by repeat (first | exact Split.nil | (apply Split.cons; next => repeat (first | exact Pick.here | apply Pick.there | apply Pick.app)) | (apply Split.chunk; next => repeat (first | exact PickL.here | exact PickL.last | apply PickL.there | apply PickL.app)) | (apply Split.lst; repeat (first | exact PickL.here | exact PickL.last | apply PickL.there | apply PickL.app))))⟩
  · try simp at c8
    refine s_exit ?_
    refine x_K ?_
    refine x_K ?_
    refine x_blk ?_
    refine n_K ?_
    refine s_seq ?_
    refine s_region0 (fun ops => ?_)
    refine o_rd (rd_move rfl) rfl ?_
    refine o_rd (rd_assign rfl) rfl ?_
    refine o_nil ?_
    refine n_K ?_
    refine s_ret ?_
    exact leaf_r (rets1 Tryz.results95 (rv_tmp rfl)) (by exact ⟨s, rfl, rfl, by rw [h1, show i = k by omega], h2⟩) (by repeat (first | exact Split.nil | (apply Split.cons; next => repeat (first | exact Pick.here | apply Pick.there | apply Pick.app)) | (apply Split.chunk; next => repeat (first | exact PickL.here | exact PickL.last | apply PickL.there | apply PickL.app)) | (apply Split.lst; repeat (first | exact PickL.here | exact PickL.last | apply PickL.there | apply PickL.app))))
theorem nums_fn {n : Int} {xs : Sl Wd} {T : TypeId} (hx : xs.list.length ≤ 1000000) : Does Tryz.prog 99 [.int .i64 n, xs.val] (xs.hp T ++ []) (fun v H => ∃ s : Sl By, v = s.val ∧ H = (s.hp tU8 ++ (xs.hp T ++ [])) ∧ s.list = numsB (clampN n 8) xs.list ∧ s.isOwn = true) := by
  refine fn_enter (n := 20) Tryz.func99 Tryz.ntmps99 rfl (Nat.le_of_ble_eq_true rfl) ?_
  refine s_seq ?_
  refine s_region0 (fun ops => ?_)
  refine o_rd (rd_assign rfl) rfl ?_
  refine o_nil ?_
  refine n_K ?_
  refine s_seq ?_
  refine s_seq ?_
  refine s_region0 (fun ops => ?_)
  refine o_rd (rd_move rfl) rfl ?_
  refine o_rd (rd_lenS rfl) rfl ?_
  refine o_rd (rd_move rfl) rfl ?_
  refine o_nil ?_
  refine n_K ?_
  refine s_block ?_
  have hk : clampN n 8 ≤ 8 := by unfold clampN; omega
  refine sc_eq (nil_hp (α := By) (T := tU8)) ?_
  refine s_loop2 [0, 7, 8] (by repeat' first | exact Keep2.nil | apply Keep2.cons rfl) (fun (st : Nat × Sl By) => [(9, .int .i64 st.1), (4, st.2.val)]) (fun (st : Nat × Sl By) => (st.2.hp tU8 ++ (xs.hp T ++ []))) (fun (st : Nat × Sl By) => st.1 ≤ xs.list.length ∧ st.2.list = numsB (clampN n 8) (xs.list.take st.1) ∧ st.2.isOwn = true) (fun (st : Nat × Sl By) => xs.list.length - st.1) ((0, Sl.nil)) ⟨Nat.zero_le _, by simp [numsB, Sl.list], rfl⟩ (by repeat' first | exact Keep.nil | refine Keep.cons rfl ?_) (by repeat (first | exact Split.nil | (apply Split.cons; next => repeat (first | exact Pick.here | apply Pick.there | apply Pick.app)) | (apply Split.chunk; next => repeat (first | exact PickL.here | exact PickL.last | apply PickL.there | apply PickL.app)) | (apply Split.lst; repeat (first | exact PickL.here | exact PickL.last | apply PickL.there | apply PickL.app)))) ?_
  rintro ⟨i, s⟩ ⟨h0, h1, h2⟩
  simp only at h0
  refine s_seq ?_
  refine s_region0 (fun ops => ?_)
  refine o_rd (rd_bin rfl rfl rfl) rfl ?_
  refine o_nil ?_
  refine n_K ?_
  refine s_seq ?_
  refine s_cond rfl (fun c10 => ?_) (fun c10 => ?_)
  · simp at c10
    obtain ⟨x, hg⟩ : ∃ x, xs.list[i]? = some x := ⟨_, List.getElem?_eq_getElem c10⟩
    have hl : s.list.length ≤ 8000000 := by (rw [h1, numsB_len]; have := Nat.mul_le_mul (show (xs.list.take i).length ≤ 1000000 by (rw [List.length_take]; omega)) hk; omega)
    refine s_skip ?_
    refine n_K ?_
    refine s_seq ?_
    refine s_block ?_
    refine s_seq ?_
    refine s_region0 (fun ops => ?_)
    refine o_rd (rd_ixSl rfl rfl (by omega)) rfl ?_
    refine o_rd (rd_ldSl (o := 0) (v := wv x) rfl (by repeat (first | exact PickL.here | exact PickL.last | apply PickL.there | apply PickL.app)) hg rfl rfl) rfl ?_
    refine o_rd (rd_assign rfl) rfl ?_
    refine o_nil ?_
    refine n_K ?_
    refine s_region0 (fun ops => ?_)
    refine o_rd (rd_move rfl) rfl ?_
    refine o_rd (rd_move rfl) rfl ?_
    refine o_rd (rd_move rfl) rfl ?_
    refine c_ex rfl (num_fn) (by repeat (first | exact Split.nil | (apply Split.cons; next => repeat (first | exact Pick.here | apply Pick.there | apply Pick.app)) | (apply Split.chunk; next => repeat (first | exact PickL.here | exact PickL.last | apply PickL.there | apply PickL.app)) | (apply Split.lst; repeat (first | exact PickL.here | exact PickL.last | apply PickL.there | apply PickL.app)))) rfl (fun v16 Y16 h16 => ?_)
    obtain ⟨s16, rfl, rfl, hs16, ho16⟩ := h16
    refine so_ap (by repeat (first | exact Ap.nil | apply Ap.cons | apply Ap.app | exact Ap.one)) ?_
    refine o_append_sl (s := s) (new := s16.list) (m := s16.list.length) rfl rfl (by repeat (first | exact PickL.here | exact PickL.last | apply PickL.there | apply PickL.app)) h2 (src_sl (by repeat (first | exact PickL.here | exact PickL.last | apply PickL.there | apply PickL.app))) rfl rfl rfl rfl (by rw [hs16, numB_len]; omega) rfl (fun s' hs1 hs2 => ?_)
    refine o_rd (rd_assign rfl) rfl ?_
    refine o_nil ?_
    refine n_blk ?_
    refine n_K ?_
    refine s_region0 (fun ops => ?_)
    refine o_rd (rd_add64 rfl rfl (by omega)) rfl ?_
    refine o_rd (rd_move rfl) rfl ?_
    refine o_nil ?_
    refine n_K ?_
    exact ⟨(i + 1, s'), ⟨by simp only; omega, by rw [hs1, h1, hs16, numsB_take hg], hs2⟩, (by simp only; omega), (by repeat' first | exact Keep.nil | refine Keep.cons rfl ?_), (by repeat' first | exact Keep.nil | refine Keep.cons rfl ?_), _, (by repeat (first | exact Split.nil | (apply Split.cons; next => repeat (first | exact Pick.here | apply Pick.there | apply Pick.app)) | (apply Split.chunk; next => repeat (first | exact PickL.here | exact PickL.last | apply PickL.there | apply PickL.app)) | (apply Split.lst; repeat (first | exact PickL.here | exact PickL.last | apply PickL.there | apply PickL.app))))⟩
  · simp at c10
    refine s_exit ?_
    refine x_K ?_
    refine x_K ?_
    refine x_blk ?_
    refine n_K ?_
    refine s_seq ?_
    refine s_region0 (fun ops => ?_)
    refine o_rd (rd_move rfl) rfl ?_
    refine o_rd (rd_assign rfl) rfl ?_
    refine o_nil ?_
    refine n_K ?_
    refine s_ret ?_
    exact leaf_r (rets1 Tryz.results99 (rv_tmp rfl)) (by exact ⟨s, rfl, rfl, by rw [h1, show i = xs.list.length by omega, List.take_length], h2⟩) (by repeat (first | exact Split.nil | (apply Split.cons; next => repeat (first | exact Pick.here | apply Pick.there | apply Pick.app)) | (apply Split.chunk; next => repeat (first | exact PickL.here | exact PickL.last | apply PickL.there | apply PickL.app)) | (apply Split.lst; repeat (first | exact PickL.here | exact PickL.last | apply PickL.there | apply PickL.app))))
abbrev mt (α : Type) [Cel α] (b : Nat) : Sl α := .own b [] 0 [] ⟨by simp, Nat.le_refl _, Nat.zero_le _⟩
theorem own0 {α : Type} [Cel α] {b : Nat} {T : TypeId} {L : Hp} : ((b, true, C [] T) :: L) = (mt α b).hp T ++ L := by rw [Sl.hp_own]; rfl
theorem clone_fn {s : Sl By} {T : TypeId} (hs : s.list.length ≤ 70000000000000) : Does Tryz.prog 106 [s.val] (s.hp T ++ []) (fun v H => ∃ s' : Sl By, v = s'.val ∧ H = (s'.hp tU8 ++ (s.hp T ++ [])) ∧ s'.list = s.list ∧ s'.isOwn = true) := by
  refine fn_enter (n := 8) Tryz.func106 Tryz.ntmps106 rfl (Nat.le_of_ble_eq_true rfl) ?_
  refine s_seq ?_
  refine s_region0 (fun ops => ?_)
  refine o_rd (rd_assign rfl) rfl ?_
  refine o_nil ?_
  refine n_K ?_
  refine s_seq ?_
  refine s_seq ?_
  refine s_region0 (fun ops => ?_)
  refine o_rd (rd_move rfl) rfl ?_
  refine o_rd (rd_eqNilS rfl rfl) rfl ?_
  refine o_nil ?_
  refine n_K ?_
  refine s_cond rfl (fun c4 => ?_) (fun c4 => ?_)
  · skip
    have hn := Sl.nil_of s c4
    subst hn
    refine s_seq ?_
    refine s_region0 (fun ops => ?_)
    refine o_rd (rd_assign rfl) rfl ?_
    refine o_nil ?_
    refine n_K ?_
    refine s_ret ?_
    refine r_K ?_
    exact leaf_r (rets1 Tryz.results106 (rv_tmp rfl)) (by refine ⟨Sl.nil, rfl, rfl, rfl, rfl⟩) (by simp only [Sl.hp_nil, List.nil_append]; exact Split.nil)
  · skip
    refine s_skip ?_
    refine n_K ?_
    refine s_seq ?_
    refine s_region0 (fun ops => ?_)
    refine o_bslice_k rfl rfl rfl rfl (fun b5 => ?_)
    refine so_eq (own0 (α := By) (b := b5) (T := tU8)) ?_
    refine o_rd (rd_move rfl) rfl ?_
    refine o_append_sl (s := mt By b5) (new := s.list) (m := s.list.length) rfl rfl (by repeat (first | exact PickL.here | exact PickL.last | apply PickL.there | apply PickL.app)) rfl (src_sl (by repeat (first | exact PickL.here | exact PickL.last | apply PickL.there | apply PickL.app))) rfl rfl rfl rfl (by rw [show (mt By b5).list.length = 0 from rfl]; omega) rfl (fun s' hs1 hs2 => ?_)
    refine o_rd (rd_assign rfl) rfl ?_
    refine o_nil ?_
    refine n_K ?_
    refine s_ret ?_
    exact leaf_r (rets1 Tryz.results106 (rv_tmp rfl)) (by exact ⟨s', rfl, rfl, by rw [hs1]; rfl, hs2⟩) (by repeat (first | exact Split.nil | (apply Split.cons; next => repeat (first | exact Pick.here | apply Pick.there | apply Pick.app)) | (apply Split.chunk; next => repeat (first | exact PickL.here | exact PickL.last | apply PickL.there | apply PickL.app)) | (apply Split.lst; repeat (first | exact PickL.here | exact PickL.last | apply PickL.there | apply PickL.app))))
abbrev tRd : TypeId := 158
/-- A reader: where it lies, what is left, whether too much was read. -/
structure Rdr where
  b : Nat
  sl : Sl By
  bad : Bool
@[irreducible] def rdH (r : Rdr) : Hp := (r.b, true, C [r.sl.val, .bool r.bad] tRd) :: (r.sl.hp tU8 ++ [])
theorem rdH_eq (r : Rdr) : rdH r = (r.b, true, C [r.sl.val, .bool r.bad] tRd) :: (r.sl.hp tU8 ++ []) := by unfold rdH; rfl
theorem newReader_fn {s : Sl By} {T : TypeId} (hs : s.list.length ≤ 70000000000000) : Does Tryz.prog 85 [s.val] (s.hp T ++ []) (fun v H => ∃ r : Rdr, v = ptr r.b ∧ H = rdH r ++ (s.hp T ++ []) ∧ r.sl.list = s.list ∧ r.bad = false) := by
  refine fn_enter (n := 7) Tryz.func85 Tryz.ntmps85 rfl (Nat.le_of_ble_eq_true rfl) ?_
  refine s_seq ?_
  refine s_region0 (fun ops => ?_)
  refine o_rd (rd_assign rfl) rfl ?_
  refine o_nil ?_
  refine n_K ?_
  refine s_seq ?_
  refine s_region0 (fun ops => ?_)
  refine o_rd (rd_move rfl) rfl ?_
  refine c_ex rfl (clone_fn hs) (by repeat (first | exact Split.nil | (apply Split.cons; next => repeat (first | exact Pick.here | apply Pick.there | apply Pick.app)) | (apply Split.chunk; next => repeat (first | exact PickL.here | exact PickL.last | apply PickL.there | apply PickL.app)) | (apply Split.lst; repeat (first | exact PickL.here | exact PickL.last | apply PickL.there | apply PickL.app)))) rfl (fun v4 Y4 h4 => ?_)
  obtain ⟨s4, rfl, rfl, hs4, ho4⟩ := h4
  refine so_ap (by repeat (first | exact Ap.nil | apply Ap.cons | apply Ap.app | exact Ap.one)) ?_
  refine o_rd (rd_build_s rfl rfl) rfl ?_
  refine o_box rfl rfl (fun b6 => ?_)
  refine o_rd (rd_assign rfl) rfl ?_
  refine o_nil ?_
  refine n_K ?_
  refine s_ret ?_
  exact leaf_r (rets1 Tryz.results85 (rv_tmp rfl)) (by exact ⟨⟨b6, s4, false⟩, rfl, rfl, hs4, rfl⟩) (by rw [rdH_eq]; simp only [List.cons_append, List.append_assoc, List.nil_append]; exact (by repeat (first | exact Split.nil | (apply Split.cons; next => repeat (first | exact Pick.here | apply Pick.there | apply Pick.app)) | (apply Split.chunk; next => repeat (first | exact PickL.here | exact PickL.last | apply PickL.there | apply PickL.app)) | (apply Split.lst; repeat (first | exact PickL.here | exact PickL.last | apply PickL.there | apply PickL.app)))))
theorem left_fn {r : Rdr} : Does Tryz.prog 89 [ptr r.b] (rdH r) (Is (.int .i64 r.sl.list.length) (rdH r)) := by
  rw [rdH_eq]
  refine fn_enter (n := 8) Tryz.func89 Tryz.ntmps89 rfl (Nat.le_of_ble_eq_true rfl) ?_
  refine s_seq ?_
  refine s_region0 (fun ops => ?_)
  refine o_rd (rd_assign rfl) rfl ?_
  refine o_nil ?_
  refine n_K ?_
  refine s_seq ?_
  refine s_region0 (fun ops => ?_)
  refine o_rd (rd_move rfl) rfl ?_
  refine o_rd (rd_nil rfl) rfl ?_
  refine o_rd (rd_field rfl) rfl ?_
  refine o_rd (rd_ld rfl (by repeat' first | exact List.Mem.head _ | apply List.Mem.tail | apply List.mem_append_right) rfl) rfl ?_
  refine o_rd (rd_lenS rfl) rfl ?_
  refine o_rd (rd_assign rfl) rfl ?_
  refine o_nil ?_
  refine n_K ?_
  refine s_ret ?_
  refine leaf_is (rets1 Tryz.results89 (rv_tmp rfl)) ?_ (by repeat (first | exact Split.nil | (apply Split.cons; next => repeat (first | exact Pick.here | apply Pick.there | apply Pick.app)) | (apply Split.chunk; next => repeat (first | exact PickL.here | exact PickL.last | apply PickL.there | apply PickL.app)) | (apply Split.lst; repeat (first | exact PickL.here | exact PickL.last | apply PickL.there | apply PickL.app))))
  rfl
theorem rbad_fn {r : Rdr} : Does Tryz.prog 88 [ptr r.b] (rdH r) (Is (.bool r.bad) (rdH r)) := by
  rw [rdH_eq]
  refine fn_enter (n := 7) Tryz.func88 Tryz.ntmps88 rfl (Nat.le_of_ble_eq_true rfl) ?_
  refine s_seq ?_
  refine s_region0 (fun ops => ?_)
  refine o_rd (rd_assign rfl) rfl ?_
  refine o_nil ?_
  refine n_K ?_
  refine s_seq ?_
  refine s_region0 (fun ops => ?_)
  refine o_rd (rd_move rfl) rfl ?_
  refine o_rd (rd_nil rfl) rfl ?_
  refine o_rd (rd_field rfl) rfl ?_
  refine o_rd (rd_ld rfl (by repeat' first | exact List.Mem.head _ | apply List.Mem.tail | apply List.mem_append_right) rfl) rfl ?_
  refine o_rd (rd_assign rfl) rfl ?_
  refine o_nil ?_
  refine n_K ?_
  refine s_ret ?_
  refine leaf_is (rets1 Tryz.results88 (rv_tmp rfl)) ?_ (by repeat (first | exact Split.nil | (apply Split.cons; next => repeat (first | exact Pick.here | apply Pick.there | apply Pick.app)) | (apply Split.chunk; next => repeat (first | exact PickL.here | exact PickL.last | apply PickL.there | apply PickL.app)) | (apply Split.lst; repeat (first | exact PickL.here | exact PickL.last | apply PickL.there | apply PickL.app))))
  rfl
theorem clone_take {s : Sl By} {k : Nat} {T : TypeId} (hs : s.list.length ≤ 70000000000000) : Does Tryz.prog 106 [(s.take k T).val] (s.hp T ++ []) (fun v H => ∃ s' : Sl By, v = s'.val ∧ H = (s'.hp tU8 ++ (s.hp T ++ [])) ∧ s'.list = s.list.take k ∧ s'.isOwn = true) := by
  have := clone_fn (s := s.take k T) (T := T) (by rw [Sl.take_list, List.length_take]; omega)
  rwa [Sl.take_hp, Sl.take_list] at this
/-- So many bytes are read. -/
theorem rbytes_fn {r : Rdr} {n : Int} (hs : r.sl.list.length ≤ 70000000000000) : Does Tryz.prog 87 [ptr r.b, .int .i64 n] (rdH r) (fun v H => ∃ (s sl : Sl By) (bad : Bool), v = s.val ∧ H = s.hp tU8 ++ (rdH ⟨r.b, sl, bad⟩ ++ []) ∧ s.isOwn = true ∧
      s.list = (rdBytes (max n 0).toNat r.sl.list r.bad).1 ∧ sl.list = (rdBytes (max n 0).toNat r.sl.list r.bad).2.1 ∧ bad = (rdBytes (max n 0).toNat r.sl.list r.bad).2.2) := by
  rw [rdH_eq]
  refine fn_enter (n := 37) Tryz.func87 Tryz.ntmps87 rfl (Nat.le_of_ble_eq_true rfl) ?_
  refine s_seq ?_
  refine s_region0 (fun ops => ?_)
  refine o_rd (rd_assign rfl) rfl ?_
  refine o_nil ?_
  refine n_K ?_
  refine s_seq ?_
  refine s_region0 (fun ops => ?_)
  refine o_rd (rd_move rfl) rfl ?_
  refine o_rd (rd_max rfl rfl) rfl ?_
  refine o_rd (rd_assign rfl) rfl ?_
  refine o_nil ?_
  refine n_K ?_
  refine s_seq ?_
  refine s_seq ?_
  refine s_region0 (fun ops => ?_)
  refine o_rd (rd_move rfl) rfl ?_
  refine o_rd (rd_move rfl) rfl ?_
  refine o_rd (rd_nil rfl) rfl ?_
  refine o_rd (rd_field rfl) rfl ?_
  refine o_rd (rd_ld rfl (by repeat' first | exact List.Mem.head _ | apply List.Mem.tail | apply List.mem_append_right) rfl) rfl ?_
  refine o_rd (rd_lenS rfl) rfl ?_
  refine o_rd (rd_bin rfl rfl rfl) rfl ?_
  refine o_nil ?_
  refine n_K ?_
  refine s_cond rfl (fun c13 => ?_) (fun c13 => ?_)
  · simp at c13
    refine s_seq ?_
    refine s_region0 (fun ops => ?_)
    refine o_rd (rd_move rfl) rfl ?_
    refine o_rd (rd_move rfl) rfl ?_
    refine o_rd (rd_nil rfl) rfl ?_
    refine o_rd (rd_field rfl) rfl ?_
    refine o_store rfl rfl (by repeat' first | exact Upd.here | apply Upd.there | apply Upd.app) rfl rfl rfl ?_
    refine o_rd (rd_nil rfl) rfl ?_
    refine o_rd (rd_field rfl) rfl ?_
    refine o_store rfl rfl (by repeat' first | exact Upd.here | apply Upd.there | apply Upd.app) rfl rfl rfl ?_
    refine o_nil ?_
    refine n_K ?_
    refine s_seq ?_
    refine s_region0 (fun ops => ?_)
    refine o_rd (rd_assign rfl) rfl ?_
    refine o_nil ?_
    refine n_K ?_
    refine s_ret ?_
    refine r_K ?_
    exact leaf_r (rets1 Tryz.results87 (rv_tmp rfl)) (by refine ⟨Sl.nil, Sl.nil, true, rfl, rfl, rfl, ?_⟩; unfold rdBytes; rw [if_pos (by omega)]; exact ⟨rfl, rfl, rfl⟩) (by rw [rdH_eq, Sl.hp_nil]; exact (by repeat (first | exact Split.nil | (apply Split.cons; next => repeat (first | exact Pick.here | apply Pick.there | apply Pick.app)) | (apply Split.chunk; next => repeat (first | exact PickL.here | exact PickL.last | apply PickL.there | apply PickL.app)) | (apply Split.lst; repeat (first | exact PickL.here | exact PickL.last | apply PickL.there | apply PickL.app)))))
  · simp at c13
    refine s_skip ?_
    refine n_K ?_
    refine s_seq ?_
    refine s_draw [] [(15, [(0, false), (1, false), (2, false), (3, false), (4, false), (5, false), (6, false), (8, false), (9, false), (10, false), (11, false), (12, false), (13, false), (7, true), (14, false)]), (17, [(15, false), (16, false)]), (18, [(17, true)])] (by kernel_rfl) rfl (fun ops w0 H0 y => ?_)
    refine p_all ?_
    refine x_rd (rd_move rfl) rfl ?_
    refine x_rd (rd_move rfl) rfl ?_
    refine x_rd (rd_nil rfl) rfl ?_
    refine x_rd (rd_field rfl) rfl ?_
    refine x_rd (rd_ld rfl (by repeat' first | exact List.Mem.head _ | apply List.Mem.tail | apply List.mem_append_right) rfl) rfl ?_
    refine x_rd (rd_move rfl) rfl ?_
    refine x_rd (rd_takeSl tU8 rfl rfl (by omega)) rfl ?_
    refine x_rd (rd_move rfl) rfl ?_
    refine x_rd (rd_nil rfl) rfl ?_
    refine x_rd (rd_field rfl) rfl ?_
    refine x_rd (rd_ld rfl (by repeat' first | exact List.Mem.head _ | apply List.Mem.tail | apply List.mem_append_right) rfl) rfl ?_
    refine x_rd (rd_move rfl) rfl ?_
    refine x_rd (rd_dropSl tU8 rfl rfl (by omega) rfl) rfl ?_
    refine x_so ?_
    refine c_ex rfl (clone_take hs) (by repeat (first | exact Split.nil | (apply Split.cons; next => repeat (first | exact Pick.here | apply Pick.there | apply Pick.app)) | (apply Split.chunk; next => repeat (first | exact PickL.here | exact PickL.last | apply PickL.there | apply PickL.app)) | (apply Split.lst; repeat (first | exact PickL.here | exact PickL.last | apply PickL.there | apply PickL.app)))) rfl (fun v27 Y27 h27 => ?_)
    obtain ⟨s27, rfl, rfl, hs27, ho27⟩ := h27
    refine so_ap (by repeat (first | exact Ap.nil | apply Ap.cons | apply Ap.app | exact Ap.one)) ?_
    refine o_nil ⟨rfl, ⟨_, (by repeat (first | exact Split.nil | (apply Split.cons; next => repeat (first | exact Pick.here | apply Pick.there | apply Pick.app)) | (apply Split.chunk; next => repeat (first | exact PickL.here | exact PickL.last | apply PickL.there | apply PickL.app)) | (apply Split.lst; repeat (first | exact PickL.here | exact PickL.last | apply PickL.there | apply PickL.app))))⟩, ?_⟩
    refine x_rd (rd_assign rfl) rfl ?_
    refine x_nil ?_
    refine p_all ?_
    refine x_rd (rd_nil rfl) rfl ?_
    refine x_rd (rd_field rfl) rfl ?_
    refine x_nil ?_
    refine p_none ?_
    refine x_so ?_
    refine o_store rfl rfl (by repeat' first | exact Upd.here | apply Upd.there | apply Upd.app) rfl rfl rfl ?_
    refine o_nil ⟨rfl, ⟨_, (by repeat (first | exact Split.nil | (apply Split.cons; next => repeat (first | exact Pick.here | apply Pick.there | apply Pick.app)) | (apply Split.chunk; next => repeat (first | exact PickL.here | exact PickL.last | apply PickL.there | apply PickL.app)) | (apply Split.lst; repeat (first | exact PickL.here | exact PickL.last | apply PickL.there | apply PickL.app))))⟩, ?_⟩
    refine x_nil ?_
    refine p_end ?_
    refine n_K ?_
    refine s_seq ?_
    refine s_region0 (fun ops => ?_)
    refine o_rd (rd_move rfl) rfl ?_
    refine o_rd (rd_assign rfl) rfl ?_
    refine o_nil ?_
    refine n_K ?_
    refine s_ret ?_
    exact leaf_r (rets1 Tryz.results87 (rv_tmp rfl)) (by refine ⟨s27, r.sl.drop (max n 0).toNat tU8, r.bad, rfl, rfl, ho27, ?_⟩; unfold rdBytes; rw [if_neg (by omega)]; exact ⟨hs27, Sl.drop_list .., rfl⟩) (by rw [rdH_eq]; simp only [Sl.drop_hp]; exact (by repeat (first | exact Split.nil | (apply Split.cons; next => repeat (first | exact Pick.here | apply Pick.there | apply Pick.app)) | (apply Split.chunk; next => repeat (first | exact PickL.here | exact PickL.last | apply PickL.there | apply PickL.app)) | (apply Split.lst; repeat (first | exact PickL.here | exact PickL.last | apply PickL.there | apply PickL.app)))))
theorem rnum_fn {r : Rdr} {n : Int} (hs : r.sl.list.length ≤ 70000000000000) : Does Tryz.prog 86 [ptr r.b, .int .i64 n] (rdH r) (fun v H => ∃ (x : Wd) (sl : Sl By) (bad : Bool), v = wv x ∧ H = rdH ⟨r.b, sl, bad⟩ ++ [] ∧
      x = (rdNum (clampN n 8) r.sl.list r.bad).1 ∧ sl.list = (rdNum (clampN n 8) r.sl.list r.bad).2.1 ∧ bad = (rdNum (clampN n 8) r.sl.list r.bad).2.2) := by
  have hk : clampN n 8 ≤ 8 := by unfold clampN; omega
  refine fn_enter (n := 26) Tryz.func86 Tryz.ntmps86 rfl (Nat.le_of_ble_eq_true rfl) ?_
  refine s_seq ?_
  refine s_region0 (fun ops => ?_)
  refine o_rd (rd_assign rfl) rfl ?_
  refine o_nil ?_
  refine n_K ?_
  refine s_seq ?_
  refine s_seq ?_
  refine s_region0 (fun ops => ?_)
  refine o_rd (rd_move rfl) rfl ?_
  refine o_rd (rd_move rfl) rfl ?_
  refine c_is rfl (width_fn) (by repeat (first | exact Split.nil | (apply Split.cons; next => repeat (first | exact Pick.here | apply Pick.there | apply Pick.app)) | (apply Split.chunk; next => repeat (first | exact PickL.here | exact PickL.last | apply PickL.there | apply PickL.app)) | (apply Split.lst; repeat (first | exact PickL.here | exact PickL.last | apply PickL.there | apply PickL.app)))) rfl (by repeat (first | exact Ap.nil | apply Ap.cons | apply Ap.app | exact Ap.one)) ?_
  refine c_ex rfl (rbytes_fn hs) (by repeat (first | exact Split.nil | (apply Split.cons; next => repeat (first | exact Pick.here | apply Pick.there | apply Pick.app)) | (apply Split.chunk; next => repeat (first | exact PickL.here | exact PickL.last | apply PickL.there | apply PickL.app)) | (apply Split.lst; repeat (first | exact PickL.here | exact PickL.last | apply PickL.there | apply PickL.app)))) rfl (fun v10 Y10 h10 => ?_)
  obtain ⟨s10, sl10, bad10, rfl, rfl, ho10, hs10, hl10, hb10⟩ := h10
  refine so_ap (by repeat (first | exact Ap.nil | apply Ap.cons | apply Ap.app | exact Ap.one)) ?_
  refine o_rd (rd_lenS rfl) rfl ?_
  refine o_rd (rd_move rfl) rfl ?_
  refine o_nil ?_
  refine n_K ?_
  refine s_block ?_
  have hmx : (max ((clampN n 8 : Nat) : Int) 0).toNat = clampN n 8 := by omega
  rw [hmx] at hs10 hl10 hb10
  have hl8 : s10.list.length ≤ 8 := by (rw [hs10]; unfold rdBytes; split; simp; simp; omega)
  refine s_loop2E [10, 11] (by repeat' first | exact Keep2.nil | apply Keep2.cons rfl) (fun (i : Nat) => [(12, .int .i64 i), (4, wv (valUp s10.list i))]) (fun (i : Nat) => i ≤ s10.list.length) (fun (i : Nat) => s10.list.length - i) ((0 : Nat)) (Nat.zero_le _) (by repeat' first | exact Keep.nil | refine Keep.cons rfl ?_) ?_
  rintro i h0
  refine s_seq ?_
  refine s_region0 (fun ops => ?_)
  refine o_rd (rd_bin rfl rfl rfl) rfl ?_
  refine o_nil ?_
  refine n_K ?_
  refine s_seq ?_
  refine s_cond rfl (fun c13 => ?_) (fun c13 => ?_)
  · simp at c13
    obtain ⟨y, hg⟩ : ∃ y, s10.list[i]? = some y := ⟨_, List.getElem?_eq_getElem c13⟩
    refine s_skip ?_
    refine n_K ?_
    refine s_seq ?_
    refine s_block ?_
    refine s_seq ?_
    refine s_region0 (fun ops => ?_)
    refine o_rd (rd_move rfl) rfl ?_
    refine o_rd (rd_ixSl rfl rfl (by omega)) rfl ?_
    refine o_rd (rd_ldSl (o := 0) (v := bv y) rfl (by repeat (first | exact PickL.here | exact PickL.last | apply PickL.there | apply PickL.app)) hg rfl rfl) rfl ?_
    refine o_rd (rd_assign rfl) rfl ?_
    refine o_rd (rd_assign rfl) rfl ?_
    refine o_nil ?_
    refine n_K ?_
    refine s_region0 (fun ops => ?_)
    refine o_rd (rd_move rfl) rfl ?_
    refine o_rd (rd_move rfl) rfl ?_
    refine o_rd (rd_by64 rfl) rfl ?_
    refine o_rd (rd_move rfl) rfl ?_
    refine o_rd (rd_mul64 rfl rfl (by omega)) rfl ?_
    refine o_rd (show Rd _ _ _ _ (wv (y.setWidth 64 <<< (8 * i))) from rd_shl64 rfl rfl (by omega) (by omega)) rfl ?_
    refine o_rd (show Rd _ _ _ _ (wv (valUp s10.list (i + 1))) from by (rw [valUp_succ, List.getD_eq_getElem?_getD, hg, Option.getD_some]; unfold wv; rw [show (((valUp s10.list i ||| (y.setWidth 64 <<< (8 * i))).toNat : Nat) : Int) = _ from (bits_u .or .u64 rfl _ _).symm]; exact rd_bin rfl rfl rfl)) rfl ?_
    refine o_rd (rd_assign rfl) rfl ?_
    refine o_nil ?_
    refine n_blk ?_
    refine n_K ?_
    refine s_region0 (fun ops => ?_)
    refine o_rd (rd_add64 rfl rfl (by omega)) rfl ?_
    refine o_rd (rd_move rfl) rfl ?_
    refine o_nil ?_
    refine n_K ?_
    exact ⟨i + 1, (by first | omega | trivial | (refine ⟨?_, ?_⟩ <;> omega)), (by omega), (by repeat' first | exact Keep.nil | refine Keep.cons rfl ?_), (by repeat' first | exact Keep.nil | refine Keep.cons rfl ?_), _, (by repeat (first | exact Split.nil | (apply Split.cons; next => repeat (first | exact Pick.here | apply Pick.there | apply Pick.app)) | (apply Split.chunk; next => repeat (first | exact PickL.here | exact PickL.last | apply PickL.there | apply PickL.app)) | (apply Split.lst; repeat (first | exact PickL.here | exact PickL.last | apply PickL.there | apply PickL.app))))⟩
  · simp at c13
    refine s_exit ?_
    refine x_K ?_
    refine x_K ?_
    refine x_blk ?_
    refine n_K ?_
    refine s_seq ?_
    refine s_region0 (fun ops => ?_)
    refine o_rd (rd_move rfl) rfl ?_
    refine o_rd (rd_assign rfl) rfl ?_
    refine o_nil ?_
    refine n_K ?_
    refine s_ret ?_
    exact leaf_r (rets1 Tryz.results86 (rv_tmp rfl)) (by refine ⟨valUp s10.list i, sl10, bad10, rfl, rfl, ?_⟩; rw [hl10, hb10]; unfold rdBytes at hs10 ⊢; unfold rdNum; split at hs10 <;> rename_i hc; (rw [if_pos hc, if_pos hc]; refine ⟨?_, rfl, rfl⟩; rw [show i = 0 by (rw [hs10] at h0; simpa using h0)]; rfl); (rw [if_neg hc, if_neg hc]; refine ⟨?_, rfl, rfl⟩; rw [show i = s10.list.length by omega, hs10]; simp only; rw [List.length_take, Nat.min_eq_left (by omega)])) (by repeat (first | exact Split.nil | (apply Split.cons; next => repeat (first | exact Pick.here | apply Pick.there | apply Pick.app)) | (apply Split.chunk; next => repeat (first | exact PickL.here | exact PickL.last | apply PickL.there | apply PickL.app)) | (apply Split.lst; repeat (first | exact PickL.here | exact PickL.last | apply PickL.there | apply PickL.app))))
end Go.Proofs.YtdfidkhbldedlaaGreat
